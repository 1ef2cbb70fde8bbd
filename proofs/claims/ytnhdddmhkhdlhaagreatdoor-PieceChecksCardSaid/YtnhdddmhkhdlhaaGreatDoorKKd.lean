/-
  Texts of a proof, merged (IntA, IntB, FraA, VmE, RkB, RkC, OrA, OrB, RkA, RkD, RkE, RkF, RkG, RkH, RkI, OrF, RkJ, RkK, RkL, OrG, OrH, OrI, OrC). Conditions: in each statement.
-/
import Derived.Test.YtnhdddmhkhdlhaaGreatDoorKKc
set_option linter.unusedSimpArgs false
set_option linter.unusedVariables false
set_option linter.unusedSectionVars false
set_option maxRecDepth 100000
set_option maxHeartbeats 8000000
namespace Go.Proofs.YtnhdddmhkhdlhaaGreatDoor
open Go Go.Am Go.Vm
attribute [local irreducible] Aa Af Ak Ad Bv AQ BN AV AP Az Vm.Done Cb BH
theorem XV (l:List Nat) (hl:l.length<1000000):AQ env 152 [.lst 68 (cells l) l.length] (lst 68 (Num.Jz l)):=by
 refine AQ.enter (Ar (by decide)) Tryz.func152 rfl (by kernel_rfl) (by simp [Tryz.ntmps152]) ?_
 repeat' (first|apply Ad.Aw|apply Ad.Aj|apply Af.nil|apply Af.one|(apply Aa.assign;rfl))
 refine Ad.Ec (fun a:List Nat=>[(0,lst 68 a)]) (fun _=>[]) 0 (fun a=>a.length≤l.length∧Num.Jz a=Num.Jz l) (fun a=>a.length) l (Nat.le_refl _) ⟨by omega,rfl⟩ ⟨Nat.le_refl _,?_,trivial⟩ ?_
 ·repeat (first|exact Ah.nil|refine Ah.same trivial rfl ?_|refine Ah.same (Ac rfl) rfl ?_|refine Ah.same ⟨trivial,Ac rfl,Ac rfl,Ac rfl,trivial⟩ rfl ?_|refine Ah.same ⟨trivial,Ac rfl,Ac rfl,trivial⟩ rfl ?_|refine Ah.same ⟨trivial,trivial⟩ rfl ?_|refine Ah.cons trivial rfl (.of_eq (AL (by simp<;>omega))) ?_)
 rintro a ⟨ha,hr⟩
 have hlast:0<a.length→a=a.take (a.length-1)++[gi a (a.length-1)]:=fun h=>by
  conv=>lhs;rw [← List.take_append_drop (a.length-1) a]
  congr 1
  rw [List.drop_eq_getElem_cons (by omega),List.drop_eq_nil_of_le (by omega)]
  simp [gi,List.getElem?_eq_getElem (show a.length-1<a.length by omega)]
 repeat' (first|apply Ad.assoc|apply Ad.Aw|apply Ad.region|apply Ad.Aq|apply Ad.Bj|apply AV.normal|apply AP.normal|apply AP.exit|apply Az.exit|apply Ad.ret|apply Ad.IZ|apply Af.nil|apply Af.one|(apply Af.take;rfl;rfl)|(apply Af.drop;rfl;rfl;rfl)|(apply Af.guard;rfl;rfl)|(apply Aa.assign;rfl)|(apply Aa.move;rfl)|(apply Aa.Dq;rfl;rfl;omega)|(apply Aa.int;rfl;rfl;rfl)|(apply Aa.rF;rfl;rfl;rfl;omega;omega;rfl)|(apply Aa.load;rfl;rfl)|(apply Aa.AZ;rfl;rfl)|(apply Aa.AB;rfl;rfl)|(apply Aa.Bz;rfl;rfl)|(apply Aa.nX;rfl;rfl;rfl;rfl;rfl;rfl;omega)|(apply Ad.AU;rfl)|(apply Ad.Ae;rfl)|(intro _;try (exfalso;omega)))
 ·rename_i h1 h2
  have e1:((a.length:Int)-1).toNat=a.length-1:=by omega
  have hz:gi a (a.length-1)=0:=by omega
  refine Az.normal ⟨a.take (a.length-1),⟨by simp;omega,?_⟩,by simp;omega,⟨Nat.le_refl _,?_,trivial⟩⟩
  ·have:=hlast (by omega)
   rw [hz] at this
   rw [← hr]
   conv=>rhs;rw [this]
   rw [Num.RI]
  ·rw [e1];repeat (first|exact Ah.nil|refine Ah.same trivial rfl ?_|refine Ah.same (Ac rfl) rfl ?_|refine Ah.same ⟨trivial,Ac rfl,Ac rfl,Ac rfl,trivial⟩ rfl ?_|refine Ah.same ⟨trivial,Ac rfl,Ac rfl,trivial⟩ rfl ?_|refine Ah.same ⟨trivial,trivial⟩ rfl ?_|refine Ah.cons trivial rfl (.of_eq (AL (by simp<;>omega))) ?_)
 ·rename_i h1 h2
  refine Done.ret rfl (.refl _) (by first|exact trivial|exact ⟨trivial,trivial,trivial⟩|exact ⟨trivial,trivial,trivial,trivial⟩) Ap.nil (Nat.zero_le _) (Nat.le_refl _) ⟨?_,rfl,rfl⟩
  have e:Num.Jz a=a:=by
   have:=hlast (by omega)
   conv=>lhs;rw [this]
   rw [Num.UL _ (by omega),← this]
  rw [← hr,e]
 ·rename_i h1
  refine Done.ret rfl (.refl _) (by first|exact trivial|exact ⟨trivial,trivial,trivial⟩|exact ⟨trivial,trivial,trivial,trivial⟩) Ap.nil (Nat.zero_le _) (Nat.le_refl _) ⟨?_,rfl,rfl⟩
  have:a=[]:=List.eq_nil_of_length_eq_zero (by omega)
  rw [← hr,this]
  rfl
theorem Pg (m n:List Nat) (hm:Num.Wh m) (hn:Num.Wh n) (hml:m.length<400000) (hnl:n.length<400000) :
 AQ env 139 [.lst 68 (cells m) m.length,.lst 68 (cells n) n.length] (lst 68 (Num.Ox (Num.val m*Num.val n))):=by
 refine AQ.enter (Ar (by decide)) Tryz.func139 rfl (by kernel_rfl) (by simp [Tryz.ntmps139]) ?_
 obtain ⟨T,hT⟩:∃ T,T=m.length+n.length+1:=⟨_,rfl⟩
 repeat' (first|apply Ad.assoc|apply Ad.Aw|apply Ad.Aj|apply Af.nil|apply Af.one|(apply Aa.JB T (0:Nat);rfl;rfl;rfl;rfl;rfl;omega;omega;omega;decide;decide;rfl)|(apply Aa.assign;rfl)|(apply Aa.move;rfl)|(apply Aa.BD;rfl;rfl;omega)|(apply Aa.Bz;rfl;rfl))
 refine Ad.Ec (fun a:Nat×List Nat=>[(0,lst 68 m),(1,lst 68 n),(5,.vec 0 T 0 T),(19,lst 68 m),(20,.p (.int .i64 m.length)),(21,.p (.int .i64 (a.1:Int)))]) (fun a=>[(0,.vec 68 (cells a.2) T false)]) 1
  (fun a=>a.1≤m.length∧a.2.length=T∧Num.Wh a.2∧Num.val a.2=Num.val (m.take a.1)*Num.val n∧∀ j,a.1+n.length≤j→gi a.2 j=0) (fun a=>m.length-a.1) (0,List.replicate T 0) (by omega)
  ⟨by simp,by simp,Num.WC _,by simp [Num.WI,Num.val],fun j _=>Num.Qb _ _⟩ ⟨Nat.le_refl _,?_,?_⟩ ?_
 ·repeat (first|exact Ah.nil|refine Ah.same trivial rfl ?_|refine Ah.same (Ac rfl) rfl ?_|refine Ah.same ⟨trivial,Ac rfl,Ac rfl,Ac rfl,trivial⟩ rfl ?_|refine Ah.same ⟨trivial,Ac rfl,Ac rfl,trivial⟩ rfl ?_|refine Ah.same ⟨trivial,trivial⟩ rfl ?_|refine Ah.cons trivial rfl (.of_eq (AL (by simp<;>omega))) ?_)
 ·repeat (first|exact Ap.nil|(refine Ap.cons (Ac rfl) ?_ rfl ?_ ?_;(first|exact trivial|exact Ba.Ai _ _|(simp [HB.under,Ba.under,PV.under]));(first|exact BG.refl _|exact BG.vec (Bo.refl _) (by simp))))
 rintro ⟨i,out⟩ ⟨hi,hol,hlim,hval,hzero⟩
 simp only at hi hol hlim hval hzero
 dsimp only
 by_cases hlt:i<m.length
 ·have ha:=Num.eX hm i
  repeat' (first|apply Ad.assoc|apply Ad.Aw|apply Ad.Aq|apply Ad.Aj|apply Af.nil|apply Af.one|(apply Aa.assign;rfl)|(apply Aa.move;rfl)|(apply Aa.int;rfl;rfl;rfl)|(apply Aa.AO;rfl;rfl;rfl;omega;rfl)|(apply Aa.load;rfl;rfl)|(apply Aa.Bz;rfl;rfl)|(apply Ad.Ae;rfl)|(intro _;try (exfalso;omega)))
  refine Ad.Ec (fun a:Nat×Nat×List Nat=>[(0,lst 68 m),(1,lst 68 n),(5,.vec 0 T 0 T),(6,.p (.int .i64 (i:Int))),(7,.p (.int .u64 ((gi m i:Nat):Int))),(8,.p (.int .u64 (a.2.1:Int))),(19,lst 68 m),(20,.p (.int .i64 m.length)),(21,.p (.int .i64 (i:Int))),(26,lst 68 n),(27,.p (.int .i64 n.length)),(28,.p (.int .i64 (a.1:Int)))]) (fun a=>[(0,.vec 68 (cells a.2.2) T false)]) 1
   (fun a=>a.1≤n.length∧a.2.1<1000000000∧a.2.2.length=T∧Num.Wh a.2.2∧Num.val a.2.2+a.2.1*Num.B9 ^ (i+a.1)=Num.val out+gi m i*Num.B9 ^ i*Num.val (n.take a.1)∧∀ j,i+n.length≤j→gi a.2.2 j=0) (fun a=>n.length-a.1) (0,0,out) (by omega)
   ⟨by simp,by simp,hol,hlim,by simp [Num.val],hzero⟩ ⟨Nat.le_refl _,?_,?_⟩ ?_
  ·repeat (first|exact Ah.nil|refine Ah.same trivial rfl ?_|refine Ah.same (Ac rfl) rfl ?_|refine Ah.same ⟨trivial,Ac rfl,Ac rfl,Ac rfl,trivial⟩ rfl ?_|refine Ah.same ⟨trivial,Ac rfl,Ac rfl,trivial⟩ rfl ?_|refine Ah.same ⟨trivial,trivial⟩ rfl ?_|refine Ah.cons trivial rfl (.of_eq (AL (by simp<;>omega))) ?_)
  ·repeat (first|exact Ap.nil|(refine Ap.cons (Ac rfl) ?_ rfl ?_ ?_;(first|exact trivial|exact Ba.Ai _ _|(simp [HB.under,Ba.under,PV.under]));(first|exact BG.refl _|exact BG.vec (Bo.refl _) (by simp))))
  rintro ⟨k,carry,o⟩ ⟨hk,hc,hol',hlim',hval',hzero'⟩
  simp only at hk hc hol' hlim' hval' hzero'
  dsimp only
  by_cases hlk:k<n.length
  ·have hb:=Num.eX hn k
   have ho:=Num.eX hlim' (i+k)
   have hab:gi m i*gi n k≤999999999*999999999:=Nat.mul_le_mul (by omega) (by omega)
   repeat' (first|apply Ad.Aw|apply Ad.region|apply Ad.Aq|apply Ad.Aj|apply AV.normal|apply AP.normal|apply Af.nil|apply Af.one|(apply Aa.YM (y:=(gi o (i+k)+gi m i*gi n k+carry) % 1000000000);rfl;rfl;rfl;trivial;(first|rfl|(refine congrArg (fun t=>[PV.p (FV.int _ t)]) ?_;first|omega|(simp only [Int.natCast_add,Int.natCast_mul,Int.natCast_ediv,Int.natCast_emod]<;>omega)));rfl;rfl;decide;(first|omega|(simp only [List.length_set]<;>omega)))|(apply Aa.assign;rfl)|(apply Aa.move;rfl)|(apply Aa.BD;rfl;rfl;omega)|(apply Aa.oh;rfl;rfl;omega)|(apply Aa.xK;rfl;rfl;omega)|(apply Aa.a1e;rfl;rfl;omega)|(apply Aa.a0a;rfl;rfl;omega)|(apply Aa.int;rfl;rfl;rfl)|(apply Aa.AO;rfl;rfl;rfl;omega;rfl)|(apply Aa.Kv;rfl;rfl;omega;rfl)|(apply Aa.load;rfl;rfl)|(apply Aa.EM;rfl;rfl;rfl;rfl;omega)|(apply Ad.Ae;rfl)|(intro _;try (exfalso;omega)))
   refine Az.normal ⟨(k+1,(gi o (i+k)+gi m i*gi n k+carry) / 1000000000,o.set (i+k) ((gi o (i+k)+gi m i*gi n k+carry) % 1000000000)),⟨by simp only;omega,?_,by simp [hol'],?_,?_,?_⟩,by simp only;omega,⟨Nat.le_refl _,?_,?_⟩⟩
   ·simp only
    apply Nat.div_lt_of_lt_mul
    omega
   ·exact Num.jI hlim' (Nat.mod_lt _ (by decide))
   ·simp only
    rw [Num.OB n k hlk]
    exact Num.oI (by omega) hval'
   ·intro j hj
    simp only
    rw [Num.YG _ _ _ _ (by omega),if_neg (by omega)]
    exact hzero' j hj
   ·repeat (first|exact Ah.nil|refine Ah.same trivial rfl ?_|refine Ah.same (Ac rfl) rfl ?_|refine Ah.same ⟨trivial,Ac rfl,Ac rfl,Ac rfl,trivial⟩ rfl ?_|refine Ah.same ⟨trivial,Ac rfl,Ac rfl,trivial⟩ rfl ?_|refine Ah.same ⟨trivial,trivial⟩ rfl ?_|refine Ah.cons trivial rfl (.of_eq (AL (by simp<;>omega))) ?_)
   ·repeat (first|exact Ap.nil|(refine Ap.cons (Ac rfl) ?_ rfl ?_ ?_;(first|exact trivial|exact Ba.Ai _ _|(simp [HB.under,Ba.under,PV.under]));(first|exact BG.refl _|exact BG.vec (Bo.refl _) (by simp))))
  ·have hkn:k=n.length:=by omega
   subst hkn
   have hz:=hzero' (i+n.length) (by omega)
   repeat' (first|apply Ad.Aw|apply Ad.region|apply Ad.Bj|apply AV.normal|apply AP.normal|apply AP.exit|apply Az.exit|apply Af.nil|apply Af.one|(apply Aa.YM (y:=gi o (i+n.length)+carry);rfl;rfl;rfl;trivial;(first|rfl|(refine congrArg (fun t=>[PV.p (FV.int _ t)]) ?_;first|omega|(simp only [Int.natCast_add,Int.natCast_mul,Int.natCast_ediv,Int.natCast_emod]<;>omega)));rfl;rfl;decide;(first|omega|(simp only [List.length_set]<;>omega)))|(apply Aa.move;rfl)|(apply Aa.BD;rfl;rfl;omega)|(apply Aa.oh;rfl;rfl;omega)|(apply Aa.int;rfl;rfl;rfl)|(apply Aa.Kv;rfl;rfl;omega;rfl)|(apply Aa.Bz;rfl;rfl)|(apply Aa.EM;rfl;rfl;rfl;rfl;omega)|(apply Ad.Ae;rfl)|(intro _;try (exfalso;omega)))
   refine Az.normal ⟨(i+1,o.set (i+n.length) (gi o (i+n.length)+carry)),⟨by simp only;omega,by simp [hol'],?_,?_,?_⟩,by simp only;omega,⟨Nat.le_refl _,?_,?_⟩⟩
   ·refine Num.jI hlim' ?_
    rw [hz]
    simp only [Num.B9];omega
   ·simp only
    rw [Num.wL (by omega) hz hval',hval,List.take_length,Num.OB m i hlt,Nat.add_mul]
   ·intro j hj
    simp only at hj
    simp only
    rw [Num.YG _ _ _ _ (by omega),if_neg (by omega)]
    exact hzero' j (by omega)
   ·repeat (first|exact Ah.nil|refine Ah.same trivial rfl ?_|refine Ah.same (Ac rfl) rfl ?_|refine Ah.same ⟨trivial,Ac rfl,Ac rfl,Ac rfl,trivial⟩ rfl ?_|refine Ah.same ⟨trivial,Ac rfl,Ac rfl,trivial⟩ rfl ?_|refine Ah.same ⟨trivial,trivial⟩ rfl ?_|refine Ah.cons trivial rfl (.of_eq (AL (by simp<;>omega))) ?_)
   ·repeat (first|exact Ap.nil|(refine Ap.cons (Ac rfl) ?_ rfl ?_ ?_;(first|exact trivial|exact Ba.Ai _ _|(simp [HB.under,Ba.under,PV.under]));(first|exact BG.refl _|exact BG.vec (Bo.refl _) (by simp))))
 ·have him:i=m.length:=by omega
  subst him
  have htr:=XV out (by omega)
  rw [hol] at htr
  repeat' (first|(refine Ad.at 14 ?_;refine Ad.ghost (A8.freeze 5 rfl rfl) ?_;first|apply Ad.Aw|apply Ad.Bl)|apply Ad.Aw|apply Ad.Bj|apply AV.normal|apply AP.exit|apply Az.exit|apply Ad.ret|apply Af.nil|apply Af.one|(apply Aa.fn;rfl;rfl;exact htr;intro _;rfl)|(apply Aa.assign;rfl)|(apply Aa.move;rfl)|(apply Aa.int;rfl;rfl;rfl)|(apply Ad.Ae;rfl)|(intro _;try (exfalso;omega)))
  ·refine Done.ret rfl (.refl _) (by first|exact trivial|exact ⟨trivial,trivial,trivial⟩|exact ⟨trivial,trivial,trivial,trivial⟩) Ap.nil (Nat.zero_le _) (Nat.le_refl _) ⟨?_,rfl,rfl⟩
   rw [Num.bf hlim,hval,List.take_length]
end Go.Proofs.YtnhdddmhkhdlhaaGreatDoor
namespace Go.Proofs.YtnhdddmhkhdlhaaGreatDoor
open Go Go.Am Go.Vm
attribute [local irreducible] Aa Af Ak Ad Bv AQ BN AV AP Az Vm.Done Cb BH
theorem bG {l:List UInt8} {p:UInt8→Prop} (h:∀ c∈l,p c) (i:Nat) (hi:i<l.length):p (gi l i):=by
 simp only [gi,List.getElem?_eq_getElem hi,Option.getD_some];exact h _ (List.getElem_mem _)
theorem kH (n:Nat) (hn:Lib.nDigits n<900000):AQ env 146 [.str (bs (Lib.decDigits n))] (lst 68 (Num.Ox n)):=by
 refine AQ.enter (Ar (by decide)) Tryz.func146 rfl (by kernel_rfl) (by simp [Tryz.ntmps146]) ?_
 obtain ⟨d,hd⟩:∃ d,d=Lib.decDigits n:=⟨_,rfl⟩
 obtain ⟨K,hK⟩:∃ K,K=Lib.nDigits n:=⟨_,rfl⟩
 have hdl:d.length=K:=by rw [hd,hK,Lib.decDigits_length]
 have hdD:d=Num.D K n:=by rw [hd,hK,Num.Eh]
 rw [← hd]
 repeat' (first|apply Ad.assoc|apply Ad.Aw|apply Ad.Aj|apply Af.nil|apply Af.one|(apply Aa.assign;rfl)|(apply Aa.move;rfl)|(apply Aa.JY;rfl;rfl))
 refine Ad.ghost (A8.adopt 3 68 rfl) ?_
 refine Ad.Ec (fun k:Nat=>[(0,st d),(3,.vec 0 (Num.limbs n k).length 0 (Num.limbs n k).length),(4,.p (.int .i64 ((K:Int)-9*(k:Int))))]) (fun k=>[(0,.vec 68 (cells (Num.limbs n k)) (Num.limbs n k).length true)]) 1 (fun k=>9*k<K+9) (fun k=>K+9-9*k) 0 (by omega) (by omega) ⟨Nat.le_refl _,?_,?_⟩ ?_
 ·rw [← hdl];refine Ah.cons trivial rfl (.refl _) ?_;repeat (first|exact Ah.nil|refine Ah.same trivial rfl ?_|refine Ah.same (Ac rfl) rfl ?_|refine Ah.same ⟨trivial,Ac rfl,Ac rfl,Ac rfl,trivial⟩ rfl ?_|refine Ah.same ⟨trivial,Ac rfl,Ac rfl,trivial⟩ rfl ?_|refine Ah.same ⟨trivial,trivial⟩ rfl ?_|refine Ah.cons trivial rfl (.of_eq (AL (by simp<;>omega))) ?_)
 ·exact Ap.cons (by decide) trivial rfl (.refl _) Ap.nil
 intro k hk
 have hll:=Num.KE n k
 by_cases hlt:9*k<K
 ·obtain ⟨e,he⟩:∃ e,e=K-9*k:=⟨_,rfl⟩
  obtain ⟨c,hc⟩:∃ c,c=min 9 e:=⟨_,rfl⟩
  obtain ⟨p,hp⟩:∃ p,p=Num.D c (n / 10 ^ (9*k)):=⟨_,rfl⟩
  have hpl:p.length=c:=by rw [hp,Num.Eb]
  have hpc:List.drop (max ((K:Int)-9*(k:Int)-9) 0).toNat (List.take ((K:Int)-9*(k:Int)).toNat d)=p:=by
   rw [show ((K:Int)-9*(k:Int)).toNat=e by omega,show (max ((K:Int)-9*(k:Int)-9) 0).toNat=e-c by omega,hdD,Num.Zu K n e c (by omega) (by omega),hp]
   rw [show K-e=9*k by omega]
  have yL:Num.parse p=Num.YD n k:=by
   rw [hp,Num.Qx]
   unfold Num.YD
   rw [show Num.B9 ^ k=10 ^ (9*k) by rw [Nat.pow_mul]]
   by_cases h9:c=9
   ·rw [h9]
   ·have hlt2:n / 10 ^ (9*k)<10 ^ c:=by
     apply Nat.div_lt_of_lt_mul
     rw [← Nat.pow_add,show 9*k+c=K by omega,hK]
     exact Lib.lt_pow_nDigits n
    have hle:10 ^ c≤Num.B9:=by
     have:10 ^ c≤10 ^ 9:=Nat.pow_le_pow_right (by decide) (by omega)
     exact this
    rw [Nat.mod_eq_of_lt hlt2,Nat.mod_eq_of_lt (by omega)]
  have hdig:∀ i,i<p.length→48≤(gi p i).toNat∧(gi p i).toNat≤57:=fun i hi=>bG (p:=fun c=>48≤c.toNat∧c.toNat≤57) (by rw [hp];exact Num.YN _ _) i hi
  have hpv:∀ j,j≤p.length→Num.parse (p.take j)<1000000000:=fun j hj=>by
   have h1:=Num.Ze (p.take j) (fun c hc=>by
    have hm:=List.mem_of_mem_take hc
    rw [hp] at hm
    exact Num.YN _ _ c hm)
   rw [List.length_take,Nat.min_eq_left hj] at h1
   have h2:10 ^ j≤10 ^ 9:=Nat.pow_le_pow_right (by decide) (by omega)
   exact Nat.lt_of_lt_of_le h1 h2
  repeat' (first|apply Ad.assoc|apply Ad.Aw|apply Ad.Aq|apply Ad.Aj|apply Af.nil|apply Af.one|(rw [hpc])|(apply Aa.assign;rfl)|(apply Aa.move;rfl)|(apply Aa.Dq;rfl;rfl;omega)|(apply Aa.int;rfl;rfl;rfl)|(apply Aa.lenV;rfl;rfl;rfl)|(apply Aa.uI;rfl;rfl;rfl;rfl;omega)|(apply Aa.iG;rfl;rfl;rfl;rfl;rfl;rfl;omega)|(apply Aa.zH;rfl;rfl)|(apply Ad.Ae;rfl)|(intro _;try (exfalso;omega)))
  refine Ad.Ec (fun j:Nat=>[(0,st d),(3,.vec 0 (Num.limbs n k).length 0 (Num.limbs n k).length),(4,.p (.int .i64 ((K:Int)-9*(k:Int)))),(5,.p (.int .u64 ((Num.parse (p.take j):Nat):Int))),(20,.vec 1 p.length 0 p.length),(21,.p (.int .i64 p.length)),(22,.p (.int .i64 (j:Int)))])
   (fun _=>[(1,.vec 5 (cells p) p.length false),(0,.vec 68 (cells (Num.limbs n k)) (Num.limbs n k).length true)]) 2 (fun j=>j≤p.length) (fun j=>p.length-j) 0 (by omega) (by omega) ⟨Nat.le_refl _,?_,?_⟩ ?_
  ·repeat (first|exact Ah.nil|refine Ah.same trivial rfl ?_|refine Ah.same (Ac rfl) rfl ?_|refine Ah.same ⟨trivial,Ac rfl,Ac rfl,Ac rfl,trivial⟩ rfl ?_|refine Ah.same ⟨trivial,Ac rfl,Ac rfl,trivial⟩ rfl ?_|refine Ah.same ⟨trivial,trivial⟩ rfl ?_|refine Ah.cons trivial rfl (.of_eq (AL (by simp<;>omega))) ?_)
  ·repeat (first|exact Ap.nil|(refine Ap.cons (Ac rfl) ?_ rfl ?_ ?_;(first|exact trivial|exact Ba.Ai _ _|(simp [HB.under,Ba.under,PV.under]));(first|exact BG.refl _|exact BG.vec (Bo.refl _) (by simp))))
  intro j hj
  have hv:=hpv j hj
  by_cases hlj:j<p.length
  ·have hd2:=hdig j hlj
   repeat' (first|apply Ad.Aw|apply Ad.region|apply Ad.Aq|apply Ad.Aj|apply AV.normal|apply AP.normal|apply Af.nil|apply Af.one|(apply Aa.assign;rfl)|(apply Aa.move;rfl)|(apply Aa.BD;rfl;rfl;omega)|(apply Aa.xU (c:=48);rfl;rfl;omega)|(apply Aa.oh;rfl;rfl;omega)|(apply Aa.xK (a:=10);rfl;rfl;omega)|(apply Aa.int;rfl;rfl;rfl)|(apply Aa.Kv;rfl;rfl;omega;rfl)|(apply Aa.EM;rfl;rfl;rfl;rfl;omega)|(apply Aa.WU;rfl;rfl;rfl;rfl;omega)|(apply Ad.Ae;rfl)|(intro _;try (exfalso;omega)))
   refine Az.normal ⟨j+1,by omega,by omega,⟨by omega,?_,?_⟩⟩
   ·rw [Num.parse_snoc' p j hlj];repeat (first|exact Ah.nil|refine Ah.same trivial rfl ?_|refine Ah.same (Ac rfl) rfl ?_|refine Ah.same ⟨trivial,Ac rfl,Ac rfl,Ac rfl,trivial⟩ rfl ?_|refine Ah.same ⟨trivial,Ac rfl,Ac rfl,trivial⟩ rfl ?_|refine Ah.same ⟨trivial,trivial⟩ rfl ?_|refine Ah.cons trivial rfl (.of_eq (AL (by simp<;>omega))) ?_)
   ·repeat (first|exact Ap.nil|(refine Ap.cons (Ac rfl) ?_ rfl ?_ ?_;(first|exact trivial|exact Ba.Ai _ _|(simp [HB.under,Ba.under,PV.under]));(first|exact BG.refl _|exact BG.vec (Bo.refl _) (by simp))))
  ·have hjp:j=p.length:=by omega
   subst hjp
   repeat' (first|apply Ad.Aw|apply Ad.region|apply Ad.Bj|apply AV.normal|apply AP.normal|apply AP.exit|apply Az.exit|apply Af.nil|apply Af.one|(apply Aa.CX (a:=(Num.parse (p.take p.length)));rfl;rfl;rfl;rfl;rfl;rfl;rfl;rfl;(intro _ h;cases h);rfl;rfl;rfl;decide;decide;(first|omega|(simp only [List.length_take,List.length_drop,List.length_append,List.length_singleton,List.length_cons,List.length_nil]<;>omega)))|(apply Aa.assign;rfl)|(apply Aa.move;rfl)|(apply Aa.Dq;rfl;rfl;omega)|(apply Aa.int;rfl;rfl;rfl)|(apply Aa.buildSlice;rfl;rfl;rfl;decide;rfl;rfl;rfl)|(apply Ad.Ae;rfl)|(intro _;try (exfalso;omega)))
   have e1:Num.limbs n k++[Num.parse (p.take p.length)]=Num.limbs n (k+1):=by rw [List.take_length,yL,Num.limbs]
   have e2:(Num.limbs n (k+1)).length=(Num.limbs n k).length+1:=by rw [Num.KE,Num.KE]
   refine Az.normal ⟨k+1,by omega,by omega,⟨by omega,?_,?_⟩⟩
   ·rw [e2,show (K:Int)-9*((k+1:Nat):Int)=(K:Int)-9*(k:Int)-9 by omega];repeat (first|exact Ah.nil|refine Ah.same trivial rfl ?_|refine Ah.same (Ac rfl) rfl ?_|refine Ah.same ⟨trivial,Ac rfl,Ac rfl,Ac rfl,trivial⟩ rfl ?_|refine Ah.same ⟨trivial,Ac rfl,Ac rfl,trivial⟩ rfl ?_|refine Ah.same ⟨trivial,trivial⟩ rfl ?_|refine Ah.cons trivial rfl (.of_eq (AL (by simp<;>omega))) ?_)
   ·rw [e2,← e1];repeat (first|exact Ap.nil|(refine Ap.cons (Ac rfl) ?_ rfl ?_ ?_;(first|exact trivial|exact Ba.Ai _ _|(simp [HB.under,Ba.under,PV.under]));(first|exact BG.refl _|exact BG.vec (Bo.refl _) (by simp))))
 ·have htr:=XV (Num.limbs n k) (by omega)
  repeat' (first|(refine Ad.at 12 ?_;refine Ad.ghost (A8.freeze 3 rfl rfl) ?_;first|apply Ad.Aw|apply Ad.Bl)|apply Ad.assoc|apply Ad.Aw|apply Ad.Bj|apply AV.normal|apply AP.exit|apply Az.exit|apply Ad.ret|apply Af.nil|apply Af.one|(apply Aa.fn;rfl;rfl;exact htr;intro _;rfl)|(apply Aa.assign;rfl)|(apply Aa.move;rfl)|(apply Aa.int;rfl;rfl;rfl)|(apply Ad.Ae;rfl)|(intro _;try (exfalso;omega)))
  ·refine Done.ret rfl (.refl _) (by first|exact trivial|exact ⟨trivial,trivial,trivial⟩|exact ⟨trivial,trivial,trivial,trivial⟩) Ap.nil (Nat.zero_le _) (Nat.le_refl _) ⟨?_,rfl,rfl⟩
   rw [Num.dW]
   rw [show Num.B9 ^ k=10 ^ (9*k) by rw [Nat.pow_mul]]
   exact Nat.lt_of_lt_of_le (Lib.lt_pow_nDigits n) (Nat.pow_le_pow_right (by decide) (by omega))
end Go.Proofs.YtnhdddmhkhdlhaaGreatDoor
namespace Go.Proofs.YtnhdddmhkhdlhaaGreatDoor
open Go Go.Am Go.Vm
attribute [local irreducible] Aa Af Ak Ad Bv AQ BN AV AP Az Vm.Done Cb BH
theorem oP {L:Vm.Frame} {H:Vm.Heap} {nx:Nat} {Q:PV→Vm.Heap→Nat→Prop} {dst:Option Tmp} {ty:TypeId} {pos:String} {af:Array Edge} {gd:Option (Nat×Bool)} {fo:Operand} {args:Array Operand} {aT:Array TypeId} {fs cs xs:List PV} {c:Code}
 (hf:BF env.Γ L fo=some (.clo 155 fs cs)) (ha:evs env.Γ L args.toList=some xs) (hb:Tryz.f155.body=some c) (hn:(fs++xs++cs).length≤Tryz.f155.ntmps)
 (h:Ad env nx c (DK 0 (fs++xs++cs)) H nx (BH env.P Tryz.f155.results.toList Q)):Aa env true ⟨dst,.call { callee:=.value fo,args:=args,argTypes:=aT },ty,pos,af,gd⟩ L H nx Q:=by
 have h0:(match Tryz.f155.body with|some c=>KO env.G Tryz.f155 c|none=>false)=true:=by kernel_rfl
 rw [hb] at h0
 exact Aa.inline rfl hf ha (Ar (by decide)) Tryz.func155 hb h0 hn h
theorem oU {L:Vm.Frame} {H:Vm.Heap} {nx:Nat} {Q:PV→Vm.Heap→Nat→Prop} {dst:Option Tmp} {ty:TypeId} {pos:String} {af:Array Edge} {gd:Option (Nat×Bool)} {fo:Operand} {args:Array Operand} {aT:Array TypeId} {fs cs xs:List PV} {c:Code}
 (hf:BF env.Γ L fo=some (.clo 154 fs cs)) (ha:evs env.Γ L args.toList=some xs) (hb:Tryz.f154.body=some c) (hn:(fs++xs++cs).length≤Tryz.f154.ntmps)
 (h:Ad env nx c (DK 0 (fs++xs++cs)) H nx (BH env.P Tryz.f154.results.toList Q)):Aa env true ⟨dst,.call { callee:=.value fo,args:=args,argTypes:=aT },ty,pos,af,gd⟩ L H nx Q:=by
 have h0:(match Tryz.f154.body with|some c=>KO env.G Tryz.f154 c|none=>false)=true:=by kernel_rfl
 rw [hb] at h0
 exact Aa.inline rfl hf ha (Ar (by decide)) Tryz.func154 hb h0 hn h
theorem Zl {L:Vm.Frame} {H:Vm.Heap} {nx:Nat} {Q:PV→Vm.Heap→Nat→Prop} {dst:Option Tmp} {ty:TypeId} {pos:String} {af:Array Edge} {gd:Option (Nat×Bool)} {fo:Operand} {args:Array Operand} {aT:Array TypeId} {fs cs xs:List PV} {c:Code}
 (hf:BF env.Γ L fo=some (.clo 163 fs cs)) (ha:evs env.Γ L args.toList=some xs) (hb:Tryz.f163.body=some c) (hn:(fs++xs++cs).length≤Tryz.f163.ntmps)
 (h:Ad env nx c (DK 0 (fs++xs++cs)) H nx (BH env.P Tryz.f163.results.toList Q)):Aa env true ⟨dst,.call { callee:=.value fo,args:=args,argTypes:=aT },ty,pos,af,gd⟩ L H nx Q:=by
 have h0:(match Tryz.f163.body with|some c=>KO env.G Tryz.f163 c|none=>false)=true:=by kernel_rfl
 rw [hb] at h0
 exact Aa.inline rfl hf ha (Ar (by decide)) Tryz.func163 hb h0 hn h
theorem Zq (n:Nat):¬ (List.take 1 (Lib.decDigits n)=[45]):=fun h=>by
 have h1:=Num.I8 n 45 (List.mem_of_mem_take (by rw [h];simp))
 have:(45:UInt8).toNat=45:=rfl
 omega
theorem jK (n:Nat):0<(Lib.decDigits n).length:=by rw [Lib.decDigits_length];exact Lib.nDigits_pos n
theorem wM {a b:Nat} (h:Lib.decDigits a=Lib.decDigits b):a=b:=by
 have h1:Lib.nDigits a=Lib.nDigits b:=by rw [← Lib.decDigits_length,← Lib.decDigits_length,h]
 rw [Num.Eh,Num.Eh,h1] at h
 have:=congrArg Num.parse h
 rw [Num.Qx,Num.Qx,Nat.mod_eq_of_lt (by rw [← h1];exact Lib.lt_pow_nDigits a),Nat.mod_eq_of_lt (Lib.lt_pow_nDigits b)] at this
 exact this
theorem oG (a:Nat):Lib.decDigits a=[48]↔a=0:=by
 have:Lib.decDigits 0=[48]:=by rw [Lib.decDigits_one (by decide)];rfl
 rw [← this]
 exact ⟨wM,fun h=>by rw [h]⟩
theorem lW (n:Nat):Num.parse (Lib.decDigits n)=n:=by
 rw [Num.Eh,Num.Qx,Nat.mod_eq_of_lt (Lib.lt_pow_nDigits n)]
theorem rZ (n:Nat):AQ env 144 [.str (bs (Lib.decDigits n)),.str (bs [45])] (.EK [st (Lib.decDigits n),.p (.bool false)]):=by
 refine AQ.enter (Ar (by decide)) Tryz.func144 rfl (by kernel_rfl) (by simp [Tryz.ntmps144]) ?_
 have h1:=Zq n
 have h2:=jK n
 repeat' (first|apply Ad.assoc|apply Ad.Aw|apply Ad.Aq|apply Ad.Bf|(apply BH.ret;rfl)|apply Ad.ret|apply Af.nil|apply Af.one|(apply Af.take;rfl;rfl)|(apply Af.drop;rfl;rfl;rfl)|(apply Af.guard;rfl;rfl)|(apply oP;rfl;rfl;rfl;exact le_dec rfl)|(apply Zl;rfl;rfl;rfl;exact le_dec rfl)|(apply Aa.assign;rfl)|(apply Aa.move;rfl)|(apply Aa.int;rfl;rfl;rfl)|(apply Aa.AZ;rfl;rfl)|(apply Aa.AB;rfl;rfl)|(apply Aa.JY;rfl;rfl)|(apply Aa.eqS;rfl;rfl)|(apply Aa.aQ;rfl;rfl;rfl;omega)|(apply Aa.gU;rfl;rfl;rfl;omega)|(apply Aa.not;rfl)|(apply Aa.extract;rfl;rfl)|(apply Ad.Bq;rfl)|(apply Ad.JZ;rfl)|(intro _;try (exfalso;omega)))
 ·refine Done.ret rfl (.refl _) (by first|exact trivial|exact ⟨trivial,trivial,trivial⟩|exact ⟨trivial,trivial,trivial,trivial⟩) Ap.nil (Nat.zero_le _) (Nat.le_refl _) ⟨?_,rfl,rfl⟩
  rfl
 ·exfalso;simp_all
 ·exfalso;simp_all;omega
theorem cut_spec' (n:Nat):AQ env 144 [.str (bs (Lib.decDigits n)),.str ⟨#[45]⟩] (.EK [st (Lib.decDigits n),.p (.bool false)]):=rZ n
theorem Pq (n:Nat) (hn:Lib.nDigits n<900000):AQ env 137 [.str (bs (Lib.decDigits n))] (.EK [lst 68 (Num.Ox n),.p (.bool false)]):=by
 refine AQ.enter (Ar (by decide)) Tryz.func137 rfl (by kernel_rfl) (by simp [Tryz.ntmps137]) ?_
 repeat' (first|apply Ad.Aw|apply Ad.ret|apply Af.nil|apply Af.one|(apply Aa.fn;rfl;rfl;exact cut_spec' n;intro _;rfl)|(apply Aa.fn;rfl;rfl;exact kH n hn;intro _;rfl)|(apply Aa.assign;rfl)|(apply Aa.move;rfl)|(apply Aa.extract;rfl;rfl))
 ·refine Done.ret rfl (.refl _) (by first|exact trivial|exact ⟨trivial,trivial,trivial⟩|exact ⟨trivial,trivial,trivial,trivial⟩) Ap.nil (Nat.zero_le _) (Nat.le_refl _) ⟨?_,rfl,rfl⟩
  rfl
theorem TI (n:Nat) (hn:(Num.Ox n).length<1000000):AQ env 140 [.lst 68 (cells (Num.Ox n)) (Num.Ox n).length,.bool false] (st (Lib.decDigits n)):=by
 refine AQ.enter (Ar (by decide)) Tryz.func140 rfl (by kernel_rfl) (by simp [Tryz.ntmps140]) ?_
 have ht:=Zt (Num.Ox n) (Num.J6 n) (by omega)
 rw [Num.Xy] at ht
 repeat' (first|apply Ad.assoc|apply Ad.Aw|apply Ad.Aq|apply Ad.ret|apply Af.nil|apply Af.one|(apply Af.drop;rfl;rfl;rfl)|(apply Aa.fn;rfl;rfl;exact ht;intro _;rfl)|(apply Aa.assign;rfl)|(apply Aa.move;rfl)|(apply Aa.AB;rfl;rfl)|(apply Ad.AU;rfl))
 ·refine Done.ret rfl (.refl _) (by first|exact trivial|exact ⟨trivial,trivial,trivial⟩|exact ⟨trivial,trivial,trivial,trivial⟩) Ap.nil (Nat.zero_le _) (Nat.le_refl _) ⟨?_,rfl,rfl⟩
  rfl
theorem Yy (n:Int) (h:-9223372036854775808≤n∧n≤9223372036854775807):AQ env 130 [.int .i64 n] (st (Lib.itoa n)):=by
 refine AQ.enter (Ar (by decide)) Tryz.func130 rfl (by kernel_rfl) (by simp [Tryz.ntmps130]) ?_
 repeat' (first|apply Ad.Aw|apply Ad.ret|apply Af.nil|apply Af.one|(apply Aa.fn;rfl;rfl;exact rU n h;intro _;rfl)|(apply Aa.assign;rfl)|(apply Aa.move;rfl))
 ·refine Done.ret rfl (.refl _) (by first|exact trivial|exact ⟨trivial,trivial,trivial⟩|exact ⟨trivial,trivial,trivial,trivial⟩) Ap.nil (Nat.zero_le _) (Nat.le_refl _) ⟨?_,rfl,rfl⟩
  rfl
theorem ZC (n:Nat):Lib.itoa (n:Int)=Lib.decDigits n:=by simp [Lib.itoa]
theorem VG (n g:Nat) (hg:g≤18):AQ env 142 [.str (bs (Lib.decDigits n)),.int .i64 (g:Int)] (.EK [.p (.int .i64 ((if Lib.nDigits n≤g then n else 0:Nat):Int)),.p (.bool (decide (Lib.nDigits n≤g)))]):=by
 refine AQ.enter (Ar (by decide)) Tryz.func142 rfl (by kernel_rfl) (by simp [Tryz.ntmps142]) ?_
 have hl:=Lib.decDigits_length n
 by_cases hng:Lib.nDigits n≤g
 ·rw [if_pos hng,decide_eq_true hng]
  obtain ⟨d,hd⟩:∃ d,d=Lib.decDigits n:=⟨_,rfl⟩
  have hc:=cut_spec' n
  rw [← hd] at hl hc ⊢
  have hdig:∀ i,i<d.length→48≤(gi d i).toNat∧(gi d i).toNat≤57:=fun i hi=>bG (p:=fun c=>48≤c.toNat∧c.toNat≤57) (by rw [hd];exact Num.I8 n) i hi
  have hpv:∀ j,j≤d.length→Num.parse (d.take j)<1000000000000000000:=fun j hj=>by
   have h1:=Num.Ze (d.take j) (fun c hc=>by
    have hm:=List.mem_of_mem_take hc
    rw [hd] at hm
    exact Num.I8 n c hm)
   rw [List.length_take,Nat.min_eq_left hj] at h1
   have h2:10 ^ j≤10 ^ 18:=Nat.pow_le_pow_right (by decide) (by omega)
   exact Nat.lt_of_lt_of_le h1 h2
  repeat' (first|apply Ad.assoc|apply Ad.Aw|apply Ad.Aq|apply Ad.Aj|apply Af.nil|apply Af.one|(apply Aa.fn;rfl;rfl;exact hc;intro _;rfl)|(apply Aa.assign;rfl)|(apply Aa.move;rfl)|(apply Aa.int;rfl;rfl;rfl)|(apply Aa.lenV;rfl;rfl;rfl)|(apply Aa.JY;rfl;rfl)|(apply Aa.iG;rfl;rfl;rfl;rfl;rfl;rfl;omega)|(apply Aa.extract;rfl;rfl)|(apply Ad.Ae;rfl)|(intro _;try (exfalso;omega)))
  refine Ad.Ec (fun j:Nat=>[(7,.p (.bool false)),(8,.p (.int .i64 ((Num.parse (d.take j):Nat):Int))),(21,.vec 0 d.length 0 d.length),(22,.p (.int .i64 d.length)),(23,.p (.int .i64 (j:Int)))])
   (fun _=>[(0,.vec 5 (cells d) d.length false)]) 1 (fun j=>j≤d.length) (fun j=>d.length-j) 0 (by omega) (by omega) ⟨Nat.le_refl _,?_,?_⟩ ?_
  ·repeat (first|exact Ah.nil|refine Ah.same trivial rfl ?_|refine Ah.same (Ac rfl) rfl ?_|refine Ah.same ⟨trivial,Ac rfl,Ac rfl,Ac rfl,trivial⟩ rfl ?_|refine Ah.same ⟨trivial,Ac rfl,Ac rfl,trivial⟩ rfl ?_|refine Ah.same ⟨trivial,trivial⟩ rfl ?_|refine Ah.cons trivial rfl (.of_eq (AL (by simp<;>omega))) ?_)
  ·repeat (first|exact Ap.nil|(refine Ap.cons (Ac rfl) ?_ rfl ?_ ?_;(first|exact trivial|exact Ba.Ai _ _|(simp [HB.under,Ba.under,PV.under]));(first|exact BG.refl _|exact BG.vec (Bo.refl _) (by simp))))
  intro j hj
  have hv:=hpv j hj
  by_cases hlj:j<d.length
  ·have hd2:=hdig j hlj
   have hv2:=hpv (j+1) hlj
   rw [Num.parse_snoc' d j hlj] at hv2
   repeat' (first|apply Ad.Aw|apply Ad.region|apply Ad.Aq|apply Ad.Aj|apply AV.normal|apply AP.normal|apply Af.nil|apply Af.one|(apply Aa.assign;rfl)|(apply Aa.move;rfl)|(apply Aa.BD;rfl;rfl;omega)|(apply Aa.OC;rfl;rfl;omega)|(apply Aa.xU (c:=48);rfl;rfl;omega)|(apply Aa.int;rfl;rfl;rfl)|(apply Aa.Kv;rfl;rfl;omega;rfl)|(apply Aa.EM;rfl;rfl;rfl;rfl;omega)|(apply Aa.DL;rfl;rfl;rfl;rfl;omega)|(apply Ad.Ae;rfl)|(intro _;try (exfalso;omega)))
   refine Az.normal ⟨j+1,by omega,by omega,⟨by omega,?_,?_⟩⟩
   ·rw [Num.parse_snoc' d j hlj,Int.natCast_add,Int.natCast_mul];repeat (first|exact Ah.nil|refine Ah.same trivial rfl ?_|refine Ah.same (Ac rfl) rfl ?_|refine Ah.same ⟨trivial,Ac rfl,Ac rfl,Ac rfl,trivial⟩ rfl ?_|refine Ah.same ⟨trivial,Ac rfl,Ac rfl,trivial⟩ rfl ?_|refine Ah.same ⟨trivial,trivial⟩ rfl ?_|refine Ah.cons trivial rfl (.of_eq (AL (by simp<;>omega))) ?_)
   ·repeat (first|exact Ap.nil|(refine Ap.cons (Ac rfl) ?_ rfl ?_ ?_;(first|exact trivial|exact Ba.Ai _ _|(simp [HB.under,Ba.under,PV.under]));(first|exact BG.refl _|exact BG.vec (Bo.refl _) (by simp))))
  ·have hjp:j=d.length:=by omega
   subst hjp
   repeat' (first|apply Ad.assoc|apply Ad.Aw|apply Ad.Aq|apply Ad.Bj|apply AV.normal|apply AP.exit|apply Az.exit|apply Ad.ret|apply Af.nil|apply Af.one|(apply Aa.assign;rfl)|(apply Aa.move;rfl)|(apply Aa.int;rfl;rfl;rfl)|(apply Ad.AU;rfl)|(apply Ad.Ae;rfl)|(intro _;try (exfalso;omega)))
   ·refine Done.ret rfl (.refl _) (by first|exact trivial|exact ⟨trivial,trivial,trivial⟩|exact ⟨trivial,trivial,trivial,trivial⟩) Ap.nil (Nat.zero_le _) (Nat.le_refl _) ⟨?_,rfl,rfl⟩
    rw [List.take_length,hd,lW]
 ·rw [if_neg hng,decide_eq_false hng]
  repeat' (first|apply Ad.assoc|apply Ad.Aw|apply Ad.Bf|apply Af.nil|apply Af.one|(apply Aa.fn;rfl;rfl;exact cut_spec' n;intro _;rfl)|(apply Aa.assign;rfl)|(apply Aa.move;rfl)|(apply Aa.int;rfl;rfl;rfl)|(apply Aa.JY;rfl;rfl)|(apply Aa.extract;rfl;rfl)|(apply Ad.Ae;rfl)|(intro _;try (exfalso;omega)))
  ·refine Done.ret rfl (.refl _) (by first|exact trivial|exact ⟨trivial,trivial,trivial⟩|exact ⟨trivial,trivial,trivial,trivial⟩) Ap.nil (Nat.zero_le _) (Nat.le_refl _) ⟨?_,rfl,rfl⟩
   rfl
end Go.Proofs.YtnhdddmhkhdlhaaGreatDoor
namespace Go.Proofs.YtnhdddmhkhdlhaaGreatDoor
open Go Go.Am Go.Vm
attribute [local irreducible] Aa Af Ak Ad Bv AQ BN AV AP Az Vm.Done Cb BH
theorem KL {x K:Nat} (h:x<10 ^ K) (hK:K<900000):(Num.Ox x).length<200000:=by
 have h1:x<Num.B9 ^ (K / 9+1):=by
  refine Nat.lt_of_lt_of_le h ?_
  rw [show Num.B9 ^ (K / 9+1)=10 ^ (9*(K / 9+1)) by rw [Nat.pow_mul]]
  exact Nat.pow_le_pow_right (by decide) (by omega)
 have:=Num.fE x (K / 9+1) h1
 omega
theorem wI (e i:Nat):e &&& 2 ^ i=if e / 2 ^ i % 2=1 then 2 ^ i else 0:=by
 apply Nat.eq_of_testBit_eq
 intro j
 have hi:e.testBit i=decide (e / 2 ^ i % 2=1):=Nat.testBit_eq_decide_div_mod_eq
 rw [Nat.testBit_and,Nat.testBit_two_pow]
 by_cases hij:i=j
 ·subst hij
  rw [hi]
  by_cases h:e / 2 ^ i % 2=1
  ·rw [if_pos h,Nat.testBit_two_pow];simp [h]
  ·rw [if_neg h];simp [h]
 ·by_cases h:e / 2 ^ i % 2=1
  ·rw [if_pos h,Nat.testBit_two_pow];simp [hij]
  ·rw [if_neg h];simp [hij]
theorem Vy (n e:Nat) (he:e≤6000) (hne:e*Lib.nDigits n≤24000) (hn:Lib.nDigits n<100000):AQ env 129 [.str (bs (Lib.decDigits n)),.int .i64 (e:Int)] (.EK [st (Lib.decDigits (n ^ e)),.p (.int .i64 0)]):=by
 refine AQ.enter (Ar (by decide)) Tryz.func129 rfl (by kernel_rfl) (by simp [Tryz.ntmps129]) ?_
 have hlt:=Lib.lt_pow_nDigits n
 have hnl:=KL hlt (by omega)
 obtain ⟨K,hK⟩:∃ K:Nat,K=24000:=⟨_,rfl⟩
 rw [← hK] at hne
 have dw:∀ k,k≤e→(Num.Ox (n ^ k)).length<200000:=fun k hk=>by
  refine KL (K:=K) ?_ (by omega)
  have h1:n ^ k≤(10 ^ Lib.nDigits n) ^ k:=Nat.pow_le_pow_left (Nat.le_of_lt hlt) k
  rw [← Nat.pow_mul] at h1
  rcases Nat.eq_zero_or_pos k with h0|h0
  ·rw [h0,Nat.pow_zero];exact Nat.one_lt_pow (by omega) (by decide)
  ·have h2:n ^ k<(10 ^ Lib.nDigits n) ^ k:=Nat.pow_lt_pow_left hlt (by omega)
   rw [← Nat.pow_mul] at h2
   refine Nat.lt_of_lt_of_le h2 (Nat.pow_le_pow_right (by decide) ?_)
   have:=Nat.mul_le_mul_left (Lib.nDigits n) hk
   rw [Nat.mul_comm (Lib.nDigits n) e] at this
   omega
 have htx:=Zt (Num.Ox n) (Num.J6 n) (by omega)
 rw [Num.Xy] at htx
 have hdl:=Lib.decDigits_length n
 have hmul:(e:Int)*((Lib.decDigits n).length:Int)≤24000:=by rw [hK] at hne;rw [hdl];exact_mod_cast hne
 have a4w:(0:Int)≤(e:Int)*((Lib.decDigits n).length:Int):=by rw [hdl,← Int.natCast_mul];omega
 repeat' (first|apply Ad.assoc|apply Ad.Aw|apply Ad.Aq|apply Ad.Aj|apply Af.nil|apply Af.one|(apply Af.take;rfl;rfl)|(apply Aa.fn;rfl;rfl;exact Pq n (by omega);intro _;rfl)|(apply Aa.fn;rfl;rfl;exact htx;intro _;rfl)|(apply Aa.assign;rfl)|(apply Aa.move;rfl)|(apply Aa.OC;rfl;rfl;omega)|(apply Aa.int;rfl;rfl;rfl)|(apply Aa.AB;rfl;rfl)|(apply Aa.buildSlice;rfl;rfl;rfl;decide;rfl;rfl;rfl)|(apply Aa.JY;rfl;rfl)|(apply Aa.extract;rfl;rfl)|(apply Ad.Ae;rfl)|(intro _;try (exfalso;omega)))
 refine Ad.ghost (A8.freeze 8 rfl rfl) ?_
 have one:Num.Ox 1=[1]:=by rw [Num.LC (by decide),show 1 / Num.B9=0 by decide,Num.H9];rfl
 have e14:e / 2 ^ 14=0:=Nat.div_eq_of_lt (by omega)
 refine Ad.Ec (fun b:Nat=>[(1,.p (.int .i64 (e:Int))),(6,lst 68 (Num.Ox n)),(7,.p (.bool false)),(8,lst 68 (Num.Ox (n ^ (e / 2 ^ b)))),(9,.p (.int .i64 ((2 ^ b / 2:Nat):Int)))]) (fun _=>[]) 1 (fun b=>b≤14) (fun b=>b) 14 (by omega) (by omega) ⟨Nat.le_refl _,?_,?_⟩ ?_
 ·rw [e14,Nat.pow_zero,one];repeat (first|exact Ah.nil|refine Ah.same trivial rfl ?_|refine Ah.same (Ac rfl) rfl ?_|refine Ah.same ⟨trivial,Ac rfl,Ac rfl,Ac rfl,trivial⟩ rfl ?_|refine Ah.same ⟨trivial,Ac rfl,Ac rfl,trivial⟩ rfl ?_|refine Ah.same ⟨trivial,trivial⟩ rfl ?_|refine Ah.cons trivial rfl (.of_eq (AL (by simp<;>omega))) ?_)
 ·exact Ap.nil
 intro b hb
 rcases Nat.eq_zero_or_pos b with hb0|hb0
 ·subst hb0
  have hlen:=dw e (Nat.le_refl _)
  have hs:=TI (n ^ e) (by omega)
  rw [Nat.pow_zero,Nat.div_one]
  repeat' (first|apply Ad.assoc|apply Ad.Aw|apply Ad.Bj|apply AV.normal|apply AP.exit|apply Az.exit|apply Ad.ret|apply Af.nil|apply Af.one|(apply Af.drop;rfl;rfl;rfl)|(apply Aa.fn;rfl;rfl;exact hs;intro _;rfl)|(apply Aa.assign;rfl)|(apply Aa.move;rfl)|(apply Aa.int;rfl;rfl;rfl)|(apply Aa.AB;rfl;rfl)|(apply Ad.AU;rfl))
  ·(refine Done.ret rfl (.refl _) (by first|exact trivial|exact ⟨trivial,trivial,trivial⟩|exact ⟨trivial,trivial,trivial,trivial⟩) Ap.nil (Nat.zero_le _) (Nat.le_refl _) ⟨?_,rfl,rfl⟩;try rfl)
 ·obtain ⟨i,rfl⟩:∃ i,b=i+1:=⟨b-1,by omega⟩
  have hp1:2 ^ (i+1) / 2=2 ^ i:=by rw [Nat.pow_succ,Nat.mul_div_cancel _ (by decide)]
  have hp0:0<2 ^ i:=Nat.pow_pos (by decide)
  have a5x:2 ^ i≤2 ^ 13:=Nat.pow_le_pow_right (by decide) (by omega)
  rw [hp1]
  have hle:e / 2 ^ (i+1)≤e:=Nat.div_le_self _ _
  have h1:=Pg (Num.Ox (n ^ (e / 2 ^ (i+1)))) (Num.Ox (n ^ (e / 2 ^ (i+1)))) (Num.J6 _) (Num.J6 _) (by have:=dw _ hle;omega) (by have:=dw _ hle;omega)
  rw [Num.Qv] at h1
  have hle2:e / 2 ^ (i+1)+e / 2 ^ (i+1)≤e:=by
   have h2:e / 2 ^ (i+1)*2 ^ (i+1)≤e:=Nat.div_mul_le_self _ _
   have h3:e / 2 ^ (i+1)*2≤e / 2 ^ (i+1)*2 ^ (i+1):=Nat.mul_le_mul_left _ (by rw [Nat.pow_succ];omega)
   omega
  have h2:=Pg (Num.Ox (n ^ (e / 2 ^ (i+1))*n ^ (e / 2 ^ (i+1)))) (Num.Ox n) (Num.J6 _) (Num.J6 _) (by rw [← Nat.pow_add];have:=dw _ hle2;omega) (by omega)
  rw [Num.Qv,Num.Qv] at h2
  have hbit:=Num.uS n e i
  have hand:=wI e i
  by_cases hb1:e / 2 ^ i % 2=1
  ·rw [if_pos hb1] at hbit hand
   repeat' (first|apply Ad.assoc|apply Ad.Aw|apply Ad.region|apply Ad.Aq|apply Ad.Aj|apply AV.normal|apply AP.normal|apply Af.nil|apply Af.one|(apply Aa.fn;rfl;rfl;exact h1;intro _;rfl)|(apply Aa.fn;rfl;rfl;exact h2;intro _;rfl)|(apply Aa.assign;rfl)|(apply Aa.move;rfl)|(apply Aa.a0d;rfl;rfl;omega)|(apply Aa.int;rfl;rfl;rfl)|(apply Aa.ZY;rfl;rfl;(simp only [IntKind.bits];omega))|(apply Ad.Ae;rfl)|(apply Ad.AX;rfl)|(intro _;try (exfalso;omega)))
   all_goals try (exfalso;rename_i hx;rw [hand] at hx;omega)
   refine Az.normal ⟨i,by omega,by omega,⟨by omega,?_,?_⟩⟩
   ·rw [← hbit];repeat (first|exact Ah.nil|refine Ah.same trivial rfl ?_|refine Ah.same (Ac rfl) rfl ?_|refine Ah.same ⟨trivial,Ac rfl,Ac rfl,Ac rfl,trivial⟩ rfl ?_|refine Ah.same ⟨trivial,Ac rfl,Ac rfl,trivial⟩ rfl ?_|refine Ah.same ⟨trivial,trivial⟩ rfl ?_|refine Ah.cons trivial rfl (.of_eq (AL (by simp<;>omega))) ?_)
   ·exact Ap.nil
  ·rw [if_neg hb1,Nat.mul_one] at hbit
   rw [if_neg hb1] at hand
   repeat' (first|apply Ad.assoc|apply Ad.Aw|apply Ad.region|apply Ad.Aq|apply Ad.Aj|apply AV.normal|apply AP.normal|apply Ad.skip|apply Af.nil|apply Af.one|(apply Aa.fn;rfl;rfl;exact h1;intro _;rfl)|(apply Aa.assign;rfl)|(apply Aa.move;rfl)|(apply Aa.a0d;rfl;rfl;omega)|(apply Aa.int;rfl;rfl;rfl)|(apply Aa.ZY;rfl;rfl;(simp only [IntKind.bits];omega))|(apply Ad.Ae;rfl)|(apply Ad.AX;rfl)|(intro _;try (exfalso;omega)))
   all_goals try (exfalso;rename_i hx;rw [hand] at hx;omega)
   refine Az.normal ⟨i,by omega,by omega,⟨by omega,?_,?_⟩⟩
   ·rw [← hbit];repeat (first|exact Ah.nil|refine Ah.same trivial rfl ?_|refine Ah.same (Ac rfl) rfl ?_|refine Ah.same ⟨trivial,Ac rfl,Ac rfl,Ac rfl,trivial⟩ rfl ?_|refine Ah.same ⟨trivial,Ac rfl,Ac rfl,trivial⟩ rfl ?_|refine Ah.same ⟨trivial,trivial⟩ rfl ?_|refine Ah.cons trivial rfl (.of_eq (AL (by simp<;>omega))) ?_)
   ·exact Ap.nil
theorem ZF (a b:Nat) (ha:Lib.nDigits a<400000) (hb:Lib.nDigits b<400000):AQ env 131 [.str (bs (Lib.decDigits a)),.str (bs (Lib.decDigits b))] (st (Lib.decDigits (a*b))):=by
 refine AQ.enter (Ar (by decide)) Tryz.func131 rfl (by kernel_rfl) (by simp [Tryz.ntmps131]) ?_
 have qa:=VG a 9 (by decide)
 have qb:=VG b 9 (by decide)
 have la:=Lib.lt_pow_nDigits a
 have lb:=Lib.lt_pow_nDigits b
 have hla:=KL la (by omega)
 have hlb:=KL lb (by omega)
 have ht:=Pg (Num.Ox a) (Num.Ox b) (Num.J6 _) (Num.J6 _) (by omega) (by omega)
 rw [Num.Qv,Num.Qv] at ht
 have hlab:(Num.Ox (a*b)).length<200000:=KL (K:=Lib.nDigits a+Lib.nDigits b) (by
  rw [Nat.pow_add]
  exact Nat.mul_lt_mul_of_lt_of_le la (Nat.le_of_lt lb) (Nat.pow_pos (by decide))) (by omega)
 have hs:=TI (a*b) (by omega)
 by_cases h9:Lib.nDigits a≤9∧Lib.nDigits b≤9
 ·rw [if_pos h9.1,decide_eq_true h9.1] at qa
  rw [if_pos h9.2,decide_eq_true h9.2] at qb
  have ha9:a<1000000000:=Nat.lt_of_lt_of_le la (Nat.pow_le_pow_right (n:=10) (by decide) h9.1)
  have hb9:b<1000000000:=Nat.lt_of_lt_of_le lb (Nat.pow_le_pow_right (n:=10) (by decide) h9.2)
  have hab:a*b≤999999999*999999999:=Nat.mul_le_mul (by omega) (by omega)
  have yj:(a:Int)*(b:Int)=((a*b:Nat):Int):=(Int.natCast_mul a b).symm
  have ho:=Yy ((a:Int)*(b:Int)) (by rw [yj];omega)
  have h2:-9223372036854775808≤(a:Int)*(b:Int)∧(a:Int)*(b:Int)<9223372036854775808:=by rw [yj];omega
  repeat' (first|apply Ad.assoc|apply Ad.Aw|apply Ad.Bf|apply Af.nil|apply Af.one|(apply Aa.fn;rfl;rfl;exact qa;intro _;rfl)|(apply Aa.fn;rfl;rfl;exact qb;intro _;rfl)|(apply Aa.fn;rfl;rfl;exact ho;intro _;rfl)|(apply Aa.assign;rfl)|(apply Aa.move;rfl)|(apply Aa.OC;rfl;rfl;omega)|(apply Aa.extract;rfl;rfl)|(apply Ad.Bq;rfl))
  ·refine Done.ret rfl (.refl _) (by first|exact trivial|exact ⟨trivial,trivial,trivial⟩|exact ⟨trivial,trivial,trivial,trivial⟩) Ap.nil (Nat.zero_le _) (Nat.le_refl _) ⟨?_,rfl,rfl⟩
   rw [yj,ZC]
 ·repeat' (first|apply Ad.assoc|apply Ad.Aw|apply Ad.Aq|apply Ad.ret|apply Af.nil|apply Af.one|(apply Aa.fn;rfl;rfl;exact qa;intro _;rfl)|(apply Aa.fn;rfl;rfl;exact qb;intro _;rfl)|(apply Aa.fn;rfl;rfl;exact Pq a (by omega);intro _;rfl)|(apply Aa.fn;rfl;rfl;exact Pq b (by omega);intro _;rfl)|(apply Aa.fn;rfl;rfl;exact ht;intro _;rfl)|(apply Aa.fn;rfl;rfl;exact hs;intro _;rfl)|(apply Aa.assign;rfl)|(apply Aa.move;rfl)|(apply Aa.neB;rfl;rfl;rfl)|(apply Aa.extract;rfl;rfl)|(apply Ad.Ae;rfl)|(intro _;try (exfalso;omega)))
  all_goals (refine Done.ret rfl (.refl _) (by first|exact trivial|exact ⟨trivial,trivial,trivial⟩|exact ⟨trivial,trivial,trivial,trivial⟩) Ap.nil (Nat.zero_le _) (Nat.le_refl _) ⟨?_,rfl,rfl⟩;try rfl)
theorem XY (n:Nat):AQ env 143 [.str (bs (Lib.decDigits n))] (.p (.int .i64 (if n=0 then 0 else 1))):=by
 refine AQ.enter (Ar (by decide)) Tryz.func143 rfl (by kernel_rfl) (by simp [Tryz.ntmps143]) ?_
 have h1:=Zq n
 have h2:=jK n
 have h3:=oG n
 repeat' (first|apply Ad.Aw|apply Ad.Aj|apply AV.normal|apply AV.ret|(apply BH.ret;rfl)|apply AP.normal|apply AP.ret|apply Ad.ret|apply Ad.skip|apply Af.nil|apply Af.one|(apply Af.take;rfl;rfl)|(apply Af.drop;rfl;rfl;rfl)|(apply Af.guard;rfl;rfl)|(apply oU;rfl;rfl;rfl;exact le_dec rfl)|(apply Zl;rfl;rfl;rfl;exact le_dec rfl)|(apply Aa.assign;rfl)|(apply Aa.move;rfl)|(apply Aa.int;rfl;rfl;rfl)|(apply Aa.AZ;rfl;rfl)|(apply Aa.AB;rfl;rfl)|(apply Aa.JY;rfl;rfl)|(apply Aa.eqS;rfl;rfl)|(apply Aa.aQ;rfl;rfl;rfl;omega)|(apply Ad.cond_false;rfl)|(apply Ad.AX;rfl)|(intro _;try (exfalso;omega)))
 all_goals first
  |(exfalso;simp_all;done)
  |(exfalso;simp_all;omega)
  |((refine Done.ret rfl (.refl _) (by first|exact trivial|exact ⟨trivial,trivial,trivial⟩|exact ⟨trivial,trivial,trivial,trivial⟩) Ap.nil (Nat.zero_le _) (Nat.le_refl _) ⟨?_,rfl,rfl⟩;try rfl);refine PV.int_eq ?_;first|(rw [if_pos (h3.1 (by assumption))];done)|(rw [if_neg (fun e=>by have:=h3.2 e;contradiction)];done))
theorem Vu:∀ (a b:List UInt8),-1≤Lib.compareBytes a b∧Lib.compareBytes a b≤1
 |[],[]=>by simp [Lib.compareBytes]
 |[],_::_=>by simp [Lib.compareBytes]
 |_::_,[]=>by simp [Lib.compareBytes]
 |a::as',b::bs'=>by
  simp only [Lib.compareBytes]
  have:=Vu as' bs'
  split
  ·omega
  ·split
   ·omega
   ·exact this
def WE (a b:Nat):Int:=if a<b then -1 else if b<a then 1 else 0
theorem uq {a b:Nat} (h:Lib.nDigits a=Lib.nDigits b):Lib.compareBytes (Lib.decDigits a) (Lib.decDigits b)=WE a b:=by
 rw [Num.Eh,Num.Eh,← h]
 exact Num.xH _ _ _ (Lib.lt_pow_nDigits a) (by rw [h];exact Lib.lt_pow_nDigits b)
theorem Yg (a b:Nat) (ha:Lib.nDigits a<400000) (hb:Lib.nDigits b<400000):AQ env 132 [.str (bs (Lib.decDigits a)),.str (bs (Lib.decDigits b))] (.p (.int .i64 (WE a b))):=by
 refine AQ.enter (Ar (by decide)) Tryz.func132 rfl (by kernel_rfl) (by simp [Tryz.ntmps132]) ?_
 have sa:=XY a
 have sb:=XY b
 have hla:=Lib.decDigits_length a
 have hlb:=Lib.decDigits_length b
 have hcb:=Vu (Lib.decDigits a) (Lib.decDigits b)
 have z1:Lib.nDigits 0=1:=Lib.nDigits_small (by decide)
 by_cases ha0:a=0<;>by_cases hb0:b=0
 ·rw [if_pos ha0] at sa
  rw [if_pos hb0] at sb
  have heq:Lib.nDigits a=Lib.nDigits b:=by rw [ha0,hb0]
  repeat' (first|apply Ad.Aw|apply Ad.Aj|apply AV.normal|apply AP.normal|apply Ad.ret|apply Ad.skip|apply Af.nil|apply Af.one|(apply Aa.fn;rfl;rfl;exact sa;intro _;rfl)|(apply Aa.fn;rfl;rfl;exact sb;intro _;rfl)|(apply Aa.fn;rfl;rfl;exact cut_spec' a;intro _;rfl)|(apply Aa.fn;rfl;rfl;exact cut_spec' b;intro _;rfl)|(apply Aa.fn;rfl;rfl;exact Tj _ _;intro _;rfl)|(apply Aa.assign;rfl)|(apply Aa.move;rfl)|(apply Aa.OC;rfl;rfl;omega)|(apply Aa.int;rfl;rfl;rfl)|(apply Aa.JY;rfl;rfl)|(apply Aa.extract;rfl;rfl)|(apply Ad.cond_false;rfl)|(apply Ad.AX;rfl)|(intro _;try (exfalso;omega)))
  all_goals first
   |(exfalso;omega)
   |((refine Done.ret rfl (.refl _) (by first|exact trivial|exact ⟨trivial,trivial,trivial⟩|exact ⟨trivial,trivial,trivial,trivial⟩) Ap.nil (Nat.zero_le _) (Nat.le_refl _) ⟨?_,rfl,rfl⟩;try rfl);refine PV.int_eq ?_;simp [WE,ha0,hb0];done)
 ·rw [if_pos ha0] at sa
  rw [if_neg hb0] at sb
  repeat' (first|apply Ad.Aw|apply Ad.Aj|apply AV.ret|apply AP.ret|apply Ad.ret|apply Af.nil|apply Af.one|(apply Aa.fn;rfl;rfl;exact sa;intro _;rfl)|(apply Aa.fn;rfl;rfl;exact sb;intro _;rfl)|(apply Aa.assign;rfl)|(apply Aa.move;rfl)|(apply Aa.int;rfl;rfl;rfl)|(apply Ad.cond_true;rfl))
  all_goals first
   |(exfalso;omega)
   |((refine Done.ret rfl (.refl _) (by first|exact trivial|exact ⟨trivial,trivial,trivial⟩|exact ⟨trivial,trivial,trivial,trivial⟩) Ap.nil (Nat.zero_le _) (Nat.le_refl _) ⟨?_,rfl,rfl⟩;try rfl);refine PV.int_eq ?_;unfold WE;rw [if_pos (by omega)];done)
 ·rw [if_neg ha0] at sa
  rw [if_pos hb0] at sb
  repeat' (first|apply Ad.Aw|apply Ad.Aj|apply AV.ret|apply AP.ret|apply Ad.ret|apply Af.nil|apply Af.one|(apply Aa.fn;rfl;rfl;exact sa;intro _;rfl)|(apply Aa.fn;rfl;rfl;exact sb;intro _;rfl)|(apply Aa.assign;rfl)|(apply Aa.move;rfl)|(apply Aa.int;rfl;rfl;rfl)|(apply Ad.cond_true;rfl)|(apply Ad.cond_false;rfl))
  all_goals first
   |(exfalso;omega)
   |((refine Done.ret rfl (.refl _) (by first|exact trivial|exact ⟨trivial,trivial,trivial⟩|exact ⟨trivial,trivial,trivial,trivial⟩) Ap.nil (Nat.zero_le _) (Nat.le_refl _) ⟨?_,rfl,rfl⟩;try rfl);refine PV.int_eq ?_;unfold WE;rw [if_neg (by omega),if_pos (by omega)];done)
 ·rw [if_neg ha0] at sa
  rw [if_neg hb0] at sb
  have hm1:Lib.nDigits a<Lib.nDigits b→a<b:=Num.PG
  have hm2:Lib.nDigits b<Lib.nDigits a→b<a:=Num.PG
  repeat' (first|apply Ad.Aw|apply Ad.Aj|apply AV.normal|apply AV.ret|apply AP.normal|apply AP.ret|apply Ad.ret|apply Ad.skip|apply Af.nil|apply Af.one|(apply Aa.fn;rfl;rfl;exact sa;intro _;rfl)|(apply Aa.fn;rfl;rfl;exact sb;intro _;rfl)|(apply Aa.fn;rfl;rfl;exact cut_spec' a;intro _;rfl)|(apply Aa.fn;rfl;rfl;exact cut_spec' b;intro _;rfl)|(apply Aa.fn;rfl;rfl;exact Tj _ _;intro _;rfl)|(apply Aa.assign;rfl)|(apply Aa.move;rfl)|(apply Aa.OC;rfl;rfl;omega)|(apply Aa.int;rfl;rfl;rfl)|(apply Aa.JY;rfl;rfl)|(apply Aa.neg;rfl;omega)|(apply Aa.extract;rfl;rfl)|(apply Ad.cond_false;rfl)|(apply Ad.AX;rfl)|(intro _;try (exfalso;omega)))
  ·(refine Done.ret rfl (.refl _) (by first|exact trivial|exact ⟨trivial,trivial,trivial⟩|exact ⟨trivial,trivial,trivial,trivial⟩) Ap.nil (Nat.zero_le _) (Nat.le_refl _) ⟨?_,rfl,rfl⟩;try rfl)
   refine PV.int_eq ?_
   have:=hm1 (by omega)
   unfold WE;rw [if_pos this]
  ·(refine Done.ret rfl (.refl _) (by first|exact trivial|exact ⟨trivial,trivial,trivial⟩|exact ⟨trivial,trivial,trivial,trivial⟩) Ap.nil (Nat.zero_le _) (Nat.le_refl _) ⟨?_,rfl,rfl⟩;try rfl)
   refine PV.int_eq ?_
   have:=hm2 (by omega)
   unfold WE;rw [if_neg (by omega),if_pos this]
  ·(refine Done.ret rfl (.refl _) (by first|exact trivial|exact ⟨trivial,trivial,trivial⟩|exact ⟨trivial,trivial,trivial,trivial⟩) Ap.nil (Nat.zero_le _) (Nat.le_refl _) ⟨?_,rfl,rfl⟩;try rfl)
   refine PV.int_eq ?_
   rw [Int.one_mul,uq (by omega)]
end Go.Proofs.YtnhdddmhkhdlhaaGreatDoor
namespace Go.Vm
open Go.Am
theorem QH {n:Int} (h0:n<0) (h:-18446744073709551616≤n):IntKind.u64.wrap n=n+18446744073709551616:=by
 have e:IntKind.u64.wrap n=n % 2^64:=by
  simp [IntKind.wrap,IntKind.signed,IntKind.bits]
  try omega
 rw [e]
 omega
section
variable {E:Env} {L:Frame} {H:Heap} {nx:Nat} {Q:PV→Heap→Nat→Prop} {w:Bool}
variable {dst:Option Tmp} {ty:TypeId} {pos:String} {af:Array Edge} {gd:Option (Nat×Bool)}
theorem Aa.yT {s d:TypeId} {x:Operand} {k':IntKind} {n:Int} {sd:TypeDesc} (hx:BF E.Γ L x=some (.p (.int k' n))) (hs:E.P.underlying s=some sd) (hns:aU sd=true) (hd:E.P.underlying d=some (.int .u64)) (hn:n<0∧-18446744073709551616≤n) (q:Q (.p (.int .u64 (n+18446744073709551616))) H nx) :
 Aa E w ⟨dst,.convert s d x,ty,pos,af,gd⟩ L H nx Q:=Aa.Uh hx hs hns hd (by rw [QH hn.1 hn.2];exact q)
theorem Aa.a2z {t:TypeId} {x:Operand} {a:Int} (hx:BF E.Γ L x=some (.p (.int .u64 a))) (h:0<a∧a<18446744073709551616) (q:Q (.p (.int .u64 (18446744073709551616-a))) H nx):Aa E w ⟨dst,.unOp .neg t x,ty,pos,af,gd⟩ L H nx Q :=
 Aa.quiet q fun m F σ tt c1 c2=>by
  refine ⟨.int .u64 (18446744073709551616-a),fun _=>?_,.p (.int _ _)⟩
  have hd:EF E.P (Op.unary .neg (.int .u64 a))=some (.int .u64 (18446744073709551616-a)):=by
   simp only [Op.unary,Op.intArith,Int.zero_sub,QH (n:=-a) (by omega) (by omega)]
   rw [show -a+18446744073709551616=18446744073709551616-a by omega]
   rfl
  simp only [CG,Fp,Df c1 c2 hx]
  rw [show plain (Value.int IntKind.u64 a)=true from rfl]
  simp only [if_true,IC hd rfl,Option.map_some]
theorem Aa.makeFunc {f:FuncId} {fs cs:Array Operand} {pf pc:List PV} (hf:evs E.Γ L fs.toList=some pf) (hc:evs E.Γ L cs.toList=some pc) (q:Q (.clo f pf pc) H nx):Aa E w ⟨dst,.makeFunc (.func f) fs cs,ty,pos,af,gd⟩ L H nx Q :=
 Aa.quiet q fun m F σ tt c1 c2=>by
  refine ⟨.func (.func f) (fs.toList.map (ev tt)).toArray (cs.toList.map (ev tt)).toArray,fun _=>?_,.clo (Ob c1 c2 hf) (Ob c1 c2 hc)⟩
  simp only [CG,Fp,Option.map_some,← Array.toList_map,Array.toArray_toList]
end
end Go.Vm
namespace Go.Proofs.YtnhdddmhkhdlhaaGreatDoor
open Go Go.Am Go.Vm
attribute [local irreducible] Aa Af Ak Ad Bv AQ BN AV AP Az Vm.Done Cb BH
structure Jv where
 num:Int
 den:Int
instance:Enc Jv:={ default:=⟨0,0⟩,enc:=fun x=>[.int .i64 x.num,.int .i64 x.den],size:=2,len:=fun _=>rfl }
theorem Uu (n:Int) (h:-9223372036854775808≤n∧n<9223372036854775808):AQ env 119 [.int .i64 n] (.p (.int .u64 ((n.natAbs:Nat):Int))):=by
 refine AQ.enter (Ar (by decide)) Tryz.func119 rfl (by kernel_rfl) (by simp [Tryz.ntmps119]) ?_
 repeat' (first|apply Ad.assoc|apply Ad.Aw|apply Ad.Aq|apply Ad.Bf|apply Ad.ret|apply Af.nil|apply Af.one|(apply Aa.yT;rfl;rfl;rfl;rfl;omega)|(apply Aa.a2z;rfl;omega)|(apply Aa.assign;rfl)|(apply Aa.move;rfl)|(apply Aa.int;rfl;rfl;rfl)|(apply Aa.WU;rfl;rfl;rfl;rfl;omega)|(apply Ad.Ae;rfl)|(intro _;try (exfalso;omega)))
 all_goals (refine Done.ret rfl (.refl _) (by first|exact trivial|exact ⟨trivial,trivial,trivial⟩|exact ⟨trivial,trivial,trivial,trivial⟩) Ap.nil (Nat.zero_le _) (Nat.le_refl _) ⟨?_,rfl,rfl⟩;refine PV.int_eq ?_;omega)
theorem sD (a b:Nat) (ha:a<18446744073709551616) (hb:b<18446744073709551616):AQ env 118 [.int .u64 (a:Int),.int .u64 (b:Int)] (.p (.int .u64 ((Nat.gcd a b:Nat):Int))):=by
 refine AQ.enter (Ar (by decide)) Tryz.func118 rfl (by kernel_rfl) (by simp [Tryz.ntmps118]) ?_
 repeat' (first|apply Ad.Aw|apply Ad.Aj|apply Af.nil|apply Af.one|(apply Aa.assign;rfl))
 refine Ad.Ec (fun s:Nat×Nat=>[(0,.p (.int .u64 (s.1:Int))),(1,.p (.int .u64 (s.2:Int)))]) (fun _=>[]) 0 (fun s=>s.1<18446744073709551616∧s.2<18446744073709551616∧Nat.gcd s.1 s.2=Nat.gcd a b) (fun s=>s.2) (a,b) (Nat.le_refl _) ⟨ha,hb,rfl⟩ ⟨Nat.le_refl _,?_,trivial⟩ ?_
 ·repeat (first|exact Ah.nil|refine Ah.same trivial rfl ?_|refine Ah.same (Ac rfl) rfl ?_|refine Ah.same ⟨trivial,Ac rfl,Ac rfl,Ac rfl,trivial⟩ rfl ?_|refine Ah.same ⟨trivial,Ac rfl,Ac rfl,trivial⟩ rfl ?_|refine Ah.same ⟨trivial,trivial⟩ rfl ?_|refine Ah.cons trivial rfl (.of_eq (AL (by simp<;>omega))) ?_)
 rintro ⟨x,y⟩ ⟨hx,hy,hg⟩
 simp only at hx hy hg
 have hmod:0<y→x % y<y:=fun h=>Nat.mod_lt _ h
 repeat' (first|apply Ad.assoc|apply Ad.Aw|apply Ad.Di|apply Ad.Aq|apply Ad.Bj|apply AV.normal|apply AP.normal|apply AP.exit|apply Az.exit|apply Ad.ret|apply Ad.IZ|apply Af.nil|apply Ak.nil|apply Af.one|(apply Ak.bar;decide +kernel)|(apply Aa.assign;rfl)|(apply Aa.move;rfl)|(apply Aa.xG;rfl;rfl;omega)|(apply Aa.int;rfl;rfl;rfl)|(apply Ad.Ae;rfl)|(intro _;try (exfalso;omega)))
 ·rename_i h1
  have hy0:0<y:=by omega
  refine Az.normal ⟨(y,x % y),⟨hy,by have:=hmod hy0;omega,?_⟩,hmod hy0,⟨Nat.le_refl _,?_,trivial⟩⟩
  ·rw [← hg,Nat.gcd_comm x y,Nat.gcd_rec y x,Nat.gcd_comm]
  ·repeat (first|exact Ah.nil|refine Ah.same trivial rfl ?_|refine Ah.same (Ac rfl) rfl ?_|refine Ah.same ⟨trivial,Ac rfl,Ac rfl,Ac rfl,trivial⟩ rfl ?_|refine Ah.same ⟨trivial,Ac rfl,Ac rfl,trivial⟩ rfl ?_|refine Ah.same ⟨trivial,trivial⟩ rfl ?_|refine Ah.cons trivial rfl (.of_eq (AL (by simp<;>omega))) ?_)
 ·rename_i h1
  refine Done.ret rfl (.refl _) (by first|exact trivial|exact ⟨trivial,trivial,trivial⟩|exact ⟨trivial,trivial,trivial,trivial⟩) Ap.nil (Nat.zero_le _) (Nat.le_refl _) ⟨?_,rfl,rfl⟩
  have hy0:y=0:=by omega
  subst hy0
  rw [← hg,Nat.gcd_zero_right]
def ou (x:Jv):Prop:=0<x.den∧x.den≤1000000∧-1000000≤x.num∧x.num≤1000000∧Nat.gcd x.num.natAbs x.den.toNat=1
instance (x:Jv):Decidable (ou x):=by unfold ou;infer_instance
def vM (x:Jv):Int:=if ou x then 0 else 2
theorem Zd (x:Jv):AQ env 97 [.agg (Enc.enc x)] (.p (.int .i64 (vM x))):=by
 refine AQ.enter (Ar (by decide)) Tryz.func97 rfl (by kernel_rfl) (by simp [Tryz.ntmps97]) ?_
 have hd:0<x.den→((x.den.toNat:Nat):Int)=x.den:=fun h=>Int.toNat_of_nonneg (Int.le_of_lt h)
 have hg:0<x.den→x.den≤1000000→-1000000≤x.num→x.num≤1000000→AQ env 118 [.int .u64 ((x.num.natAbs:Nat):Int),.int .u64 x.den] (.p (.int .u64 ((Nat.gcd x.num.natAbs x.den.toNat:Nat):Int))):=fun h1 h2 h3 h4=>by
  have:=sD x.num.natAbs x.den.toNat (by omega) (by omega)
  rwa [hd h1] at this
 repeat' (first|apply Ad.assoc|apply Ad.Aw|apply Ad.Bl|apply Ad.Aq|apply Ad.Bf|apply Ad.ret|apply Af.nil|apply Ak.nil|apply Af.one|(apply Ak.bar;decide +kernel)|(apply Ak.Ea;rfl;rfl)|(apply Ak.drop;rfl;rfl;rfl)|(apply Ak.guard;rfl;rfl)|(apply Aa.fn;rfl;rfl;exact Uu _ (by omega);intro _;rfl)|(apply Aa.fn;rfl;rfl;exact hg (by omega) (by omega) (by omega) (by omega);intro _;rfl)|(apply Aa.assign;rfl)|(apply Aa.move;rfl)|(apply Aa.int;rfl;rfl;rfl)|(apply Aa.load;rfl;rfl)|(apply Aa.AZ;rfl;rfl)|(apply Aa.AB;rfl;rfl)|(apply Aa.AA;rfl;rfl;rfl)|(apply Aa.box;rfl;trivial)|(apply Aa.WU;rfl;rfl;rfl;rfl;omega)|(apply Ad.Bq;rfl)|(apply Ad.Ae;rfl)|(intro _;try (exfalso;omega)))
 all_goals (refine Done.ret rfl (.refl _) (by first|exact trivial|exact ⟨trivial,trivial,trivial⟩|exact ⟨trivial,trivial,trivial,trivial⟩) Ap.nil (Nat.zero_le _) (Nat.le_refl _) ⟨?_,rfl,rfl⟩;refine PV.int_eq ?_;unfold vM;first|(rw [if_neg (show ¬ ou x from fun h=>by unfold ou at h;omega)];done)|(rw [if_pos (show ou x from by unfold ou;omega)];done))
end Go.Proofs.YtnhdddmhkhdlhaaGreatDoor
namespace Go.Vm
open Go.Am
section
variable {P:Program}
def qH (d:TypeDesc) (x y:Value):Option Bool :=
 match d,x,y with
 | .int _,.int k a,.int k' b=>if k=k' then some (decide (a=b)) else none
 | .bool,.bool a,.bool b=>some (a==b)
 | .string,.string a,.string b=>some (decide (a.data.toList=b.data.toList))
 |_,_,_=>none
def WM (P:Program):List Field→Array Value→Array Value→Option Bool
 |[],_,_=>some true
 |f::fs,xs,ys=>if f.name="_" then none else
  match GY P f.type,P.underlying f.type,xs[f.offset]?,ys[f.offset]?,WM P fs xs ys with
  |some false,some d,some x,some y,some r=>(qH d x y).map (·&&r)
  |_,_,_,_,_=>none
theorem QV (a b:ByteArray):(a==b)=decide (a.data.toList=b.data.toList):=by
 rw [beq_toListBytes,ByteArray.toList_eq,ByteArray.toList_eq]
 by_cases h:a.data.toList=b.data.toList
 ·simp [h]
 ·rw [decide_eq_false h]
  simpa using fun h2:a.data=b.data=>h (by rw [h2])
theorem jY {d:Nat} {t:TypeId} {td:TypeDesc} {x y:Value} {r:Bool} (ht:P.underlying t=some td) (h:qH td x y=some r):EF P (Op.equalIn (d+1) t x y)=some r:=by
 unfold qH at h
 split at h
 ·split at h
  ·rename_i hk
   subst hk
   cases h
   rename_i a b
   simp only [Op.equalIn,Bd,BL,ht,Option.bind_some,if_true]
   rw [show (decide (a=b))=(a==b) from Bool.eq_iff_iff.2 (by simp)]
   rfl
  ·cases h
 ·cases h
  simp only [Op.equalIn,Bd,BL,ht,Option.bind_some]
  rfl
 ·cases h
  simp only [Op.equalIn,Bd,BL,ht,Option.bind_some,QV]
  rfl
 ·cases h
theorem UD {t:TypeId} {cs:Array Value} {o:Nat} {v:Value} (ha:GY P t=some false) (hv:cs[o]?=some v):EF P (part t cs o)=some v:=by
 simp only [part,Bd,Xq,ha,Option.bind_some,Bool.false_eq_true,if_false,hv]
 rfl
theorem XR {d:Nat} (xs ys:Array Value) {g:Option Bool×Unit→Sem Bool} (g0:g (none,())=pure true) (g1:∀ b,g (some b,())=pure b):∀ (fs:List Field) (r:Bool),WM P fs xs ys=some r →
 EF P ((forIn fs ((none,()):Option Bool×Unit) fun f _=>(do
     if f.name≠"_" then
      if (!(← Op.equalIn (d+1) f.type (← part f.type xs f.offset) (← part f.type ys f.offset)))=true then pure (ForInStep.done (some false,())) else pure (ForInStep.yield (none,()))
     else pure (ForInStep.yield (none,())):Sem (ForInStep (Option Bool×Unit)))) >>= g)=some r
 |[],r,h=>by
  cases h
  simp only [List.forIn_nil,Bd,CQ,Option.bind_some,g0]
 |f::fs,r,h=>by
  unfold WM at h
  split at h
  ·cases h
  rename_i hn
  split at h
  ·rename_i td x y r' h1 h2 h3 h4 h5
   simp only [Option.map_eq_some_iff] at h
   obtain ⟨b,h6,rfl⟩:=h
   have ih:=XR (d:=d) xs ys g0 g1 fs r' h5
   rw [List.forIn_cons]
   simp only [Bd,ne_eq,hn,not_false_eq_true,if_true,UD h1 h3,UD h1 h4,Option.bind_some,jY h2 h6]
   cases b with
   |false=>simp [CQ,g1]
   |true =>
    simp only [Bool.not_true,Bool.false_eq_true,if_false,CQ,Option.bind_some,Bool.true_and]
    rw [Bd] at ih
    exact ih
  ·cases h
theorem PI {d:Nat} {t:TypeId} {fs:Array Field} {xs ys:Array Value} {r:Bool} (ht:P.underlying t=some (.struct fs)) (hp:P.stoodInHeld t=false) (h:WM P fs.toList xs ys=some r) :
 EF P (Op.equalIn (d+2) t (.agg xs) (.agg ys))=some r:=by
 rw [Op.equalIn]
 simp only [Bd,BL,ht,Option.bind_some,program,EF,hp,Bool.false_eq_true,if_false]
 rw [← Array.forIn_toList,← Bd]
 exact XR (d:=d) xs ys rfl (fun b=>rfl) fs.toList r h
def WQ:FV→Option Value
 | .int k n=>some (.int k n)
 | .bool b=>some (.bool b)
 | .str s=>some (.string s)
 |_=>none
def Fe:List FV→Option (List Value)
 |[]=>some []
 |x::l=>match WQ x,Fe l with
  |some v,some r=>some (v::r)
  |_,_=>none
theorem kG {m:Mem} {F:Nat→Prop} {x:FV} {u v:Value} (h:RF m F x u) (hv:WQ x=some v):u=v∧Am.plainCell v=true:=by
 cases h<;>simp only [WQ,Option.some.injEq,reduceCtorEq] at hv
 all_goals (subst hv;exact ⟨rfl,rfl⟩)
theorem Lr {m:Mem} {F:Nat→Prop}:∀ {l:List FV} {us vs:List Value},DC m F l us→Fe l=some vs→us=vs∧vs.all Am.plainCell=true
 |[],_,_,.nil,h=>by cases h;exact ⟨rfl,rfl⟩
 |x::l,_,_,.cons h t,hv=>by
  simp only [Fe] at hv
  split at hv
  ·rename_i v r h1 h2
   cases hv
   obtain ⟨rfl,p1⟩:=kG h h1
   obtain ⟨rfl,p2⟩:=Lr t h2
   exact ⟨rfl,by simp [p1,p2]⟩
  ·cases hv
def Ud (P:Program) (t:TypeId) (xs ys:List FV):Option Bool :=
 match P.underlying t,Fe xs,Fe ys with
 |some (.struct fs),some vs,some ws=>WM P fs.toList vs.toArray ws.toArray
 |_,_,_=>none
def Px (P:Program) (t:TypeId):Bool:=!(P.stoodInHeld t)&&!(P.eqGuardType P.depth t)
theorem nS {t:TypeId} {xs ys:List FV} {vs ws:List Value} {r:Bool} {op:BinOp} {x y:Operand} (hf:Px P t=true) (h:Ud P t xs ys=some r) (hv:Fe xs=some vs) (hw:Fe ys=some ws) (hop:op=.eql∨op=.neq) :
 EF P (do eqGuard op t x y (.agg vs.toArray) (.agg ws.toArray);binOp op t (.agg vs.toArray) (.agg ws.toArray))=some (.bool (if op=.eql then r else !r)):=by
 simp only [Px,Bool.and_eq_true,Bool.not_eq_true'] at hf
 unfold Ud at h
 rw [hv,hw] at h
 split at h
 ·rename_i fs vs' ws' h1 h2 h3
  cases h2;cases h3
  have h4:EF P (Op.equal t (.agg vs.toArray) (.agg ws.toArray))=some r:=PI (d:=9998) h1 hf.1 h
  have h5:EF P (eqGuard op t x y (.agg vs.toArray) (.agg ws.toArray))=some ():=by
   rcases hop with rfl|rfl<;>simp [eqGuard,Bd,program,EF,hf.2,CQ]
  rcases hop with rfl|rfl
  ·rw [Bd,h5,Option.bind_some]
   show EF P (do pure (.bool (← Op.equal t (.agg vs.toArray) (.agg ws.toArray))):Sem Value)=_
   simp only [Bd,h4,Option.bind_some,CQ]
   rfl
  ·rw [Bd,h5,Option.bind_some]
   show EF P (do pure (.bool (!(← Op.equal t (.agg vs.toArray) (.agg ws.toArray)))):Sem Value)=_
   simp only [Bd,h4,Option.bind_some,CQ]
   rfl
 ·cases h
end
section
variable {E:Env} {L:Frame} {H:Heap} {nx:Nat} {Q:PV→Heap→Nat→Prop} {w:Bool}
variable {dst:Option Tmp} {ty:TypeId} {pos:String} {af:Array Edge} {gd:Option (Nat×Bool)}
theorem Aa.Ud {op:BinOp} {t t2:TypeId} {x y:Operand} {xs ys:List FV} {r:Bool} (hx:BF E.Γ L x=some (.p (.agg xs))) (hy:BF E.Γ L y=some (.p (.agg ys))) (hop:op=.eql∨op=.neq) (hf:Px E.P t=true) (h:Vm.Ud E.P t xs ys=some r)
 (q:Q (.p (.bool (if op=.eql then r else !r))) H nx):Aa E w ⟨dst,.binOp op t x y t2,ty,pos,af,gd⟩ L H nx Q :=
 Aa.quiet q fun m F σ tt c1 c2=>by
  obtain ⟨vs,hv⟩:∃ vs,Fe xs=some vs:=by
   cases hv:Fe xs with
   |some vs=>exact ⟨vs,rfl⟩
   |none=>unfold Vm.Ud at h;rw [hv] at h;split at h<;>simp_all
  obtain ⟨ws,hw⟩:∃ vs,Fe ys=some vs:=by
   cases hw:Fe ys with
   |some vs=>exact ⟨vs,rfl⟩
   |none=>unfold Vm.Ud at h;rw [hw] at h;split at h<;>simp_all
  have e1:ev tt x=.agg vs.toArray∧vs.all Am.plainCell=true:=by
   have:=BU c1 c2 hx
   generalize ev tt x=u at this
   cases this with
   |p h1=>cases h1 with
    |agg h1 hc=>obtain ⟨rfl,hp⟩:=Lr h1 hv;exact ⟨rfl,hp⟩
  have e2:ev tt y=.agg ws.toArray∧ws.all Am.plainCell=true:=by
   have:=BU c1 c2 hy
   generalize ev tt y=u at this
   cases this with
   |p h1=>cases h1 with
    |agg h1 hc=>obtain ⟨rfl,hp⟩:=Lr h1 hw;exact ⟨rfl,hp⟩
  have hd:=nS (x:=x) (y:=y) hf h hv hw hop
  refine ⟨_,fun _=>?_,.p (.bool _)⟩
  simp only [CG,Fp,e1.1,e2.1]
  have hpl:(plain (.agg vs.toArray)&&plain (.agg ws.toArray))=true:=by
   simp only [plain,Fv,Bool.and_eq_true]
   exact ⟨e1.2,e2.2⟩
  have:Oo E.P op t x y (.agg vs.toArray) (.agg ws.toArray)=some (.bool (if op=.eql then r else !r)):=by
   simp only [Oo,hpl,if_true]
   exact IC hd rfl
  rw [this,Option.map_some]
theorem Aa.xu {t t2:TypeId} {x y:Operand} {xs ys:List FV} {r:Bool} (hx:BF E.Γ L x=some (.p (.agg xs))) (hy:BF E.Γ L y=some (.p (.agg ys))) (hf:Px E.P t=true) (h:Vm.Ud E.P t xs ys=some r)
 (q:Q (.p (.bool r)) H nx):Aa E w ⟨dst,.binOp .eql t x y t2,ty,pos,af,gd⟩ L H nx Q:=Aa.Ud hx hy (.inl rfl) hf h q
theorem Aa.xW {t t2:TypeId} {x y:Operand} {xs ys:List FV} {r:Bool} (hx:BF E.Γ L x=some (.p (.agg xs))) (hy:BF E.Γ L y=some (.p (.agg ys))) (hf:Px E.P t=true) (h:Vm.Ud E.P t xs ys=some r)
 (q:Q (.p (.bool (!r))) H nx):Aa E w ⟨dst,.binOp .neq t x y t2,ty,pos,af,gd⟩ L H nx Q:=Aa.Ud hx hy (.inr rfl) hf h q
theorem Aa.vG {α:Type} {_:Enc α} {l:List α} {t:TypeId} {x lo hi:Operand} {e:TypeId} {n:Nat} {inf:TypeInfo} {k k':IntKind} {a b:Int} (hx:BF E.Γ L x=some (.p (.lst e (cells l) n))) (hlo:BF E.Γ L lo=some (.p (.int k a))) (hhi:BF E.Γ L hi=some (.p (.int k' b))) (ht:E.P.underlying t=some (.slice e)) (hi':E.P.info? e=some inf)
 (hsz:inf.size=Enc.size α) (hn:l.length=n) (h:0≤a∧a≤b∧b≤n) (q:Q (.p (.lst e (cells ((l.drop a.toNat).take (b.toNat-a.toNat))) (b.toNat-a.toNat))) H nx):Aa E w ⟨dst,.slice t x (some lo) (some hi) none,ty,pos,af,gd⟩ L H nx Q:=by
 refine Aa.rH (a:=a.toNat) (b:=b.toNat) (sz:=Enc.size α) hx ht hi' hsz ⟨k,by rw [Int.toNat_of_nonneg h.1];exact hlo⟩ ⟨k',by rw [Int.toNat_of_nonneg (by omega)];exact hhi⟩ (by omega) (by omega) (by rw [Ce,hn]) ?_
 rw [cells_drop',JO]
 exact q
theorem Aa.XZ {t e e':TypeId} {x ix:Operand} {n b off:Nat} {cs:List PV} {k:IntKind} {i:Int} {inf:TypeInfo} (hx:BF E.Γ L x=some (.ref b off)) (hb:hget H b=some (.box e' cs)) (hi:BF E.Γ L ix=some (.p (.int k i)))
 (ht:E.P.underlying t=some (.array n e)) (hs:E.P.info? e=some inf) (h:0≤i∧i<n) (q:Q (.ref b (off+i.toNat*inf.size)) H nx):Aa E w ⟨dst,.indexAddr t x ix,ty,pos,af,gd⟩ L H nx Q :=
 Aa.quiet q fun m F σ tt h1 h2=>by
  obtain ⟨c,h3,h4⟩:=Ul h1 h2 hx hb
  refine ⟨.pointer (some ⟨c,off+i.toNat*inf.size,none⟩),fun _=>?_,.ref (h1.hp b _ hb).1 rfl fun _=>⟨c,h4,rfl⟩⟩
  simp only [CG,Fp,ht,h3,Df h1 h2 hi,hs,h,and_self,if_true]
theorem Aa.rQ {t:TypeId} {a:Operand} {b o:Nat} {e:TypeId} {cs:List PV} {r:PV} (ha:BF E.Γ L a=some (.ref b o)) (hb:hget H b=some (.box e cs)) (ht:GY E.P t=some false) (hr:cs[o]?=some r) (q:Q r H nx) :
 Aa E w ⟨dst,.load t a,ty,pos,af,gd⟩ L H nx Q:=by
 refine Aa.load ha ?_ q
 simp only [WJ,hb,jw,ht]
 rw [List.head?_drop]
 exact hr
theorem Aa.GK {s d e e2:TypeId} {x:Operand} {b:Nat} {z:Bool} {n:Int} (hx:BF E.Γ L x=some (.vec b 1 0 1)) (hb:hget H b=some (.vec e2 [.int .u8 n] 1 z)) (hs:E.P.underlying s=some (.slice e)) (hd:E.P.underlying d=some .string) (he:E.P.underlying e=some (.int .u8)) (hn:0≤n∧n<256)
 (q:Q (st [UInt8.ofNat n.toNat]) H nx):Aa E w ⟨dst,.convert s d x,ty,pos,af,gd⟩ L H nx Q :=
 Aa.quiet q fun m F σ tt c1 c2=>by
  obtain ⟨hl1,vs,hl2,hl3,hl4⟩:=jU.all (sz:=1) hx hb rfl m F σ tt c1 c2
  have hc:cells [UInt8.ofNat n.toNat]=[.int .u8 n]:=by
   show [FV.int .u8 (((UInt8.ofNat n.toNat).toNat:Nat):Int)]=_
   rw [UInt8.toNat_ofNat']
   congr 2
   omega
  rw [← hc] at hl3
  have hvs:=Tz hl3
  subst hvs
  have hsub:=Iy c1 c2 hx hb
  have hag:∃ a g,ev tt x=.slice a 1 g:=by
   unfold EZ at hsub
   split at hsub
   ·exact ⟨_,_,hsub⟩
   ·exact absurd hsub.2.2 (by decide)
  obtain ⟨a,g,hag⟩:=hag
  rw [hag] at hl2
  refine ⟨.string (bs [UInt8.ofNat n.toNat]),fun _=>?_,.p (.str _)⟩
  have hsl:(IE E.P s||IE E.P d)=true:=by simp only [IE,hs,hd];rfl
  simp only [CG,Fp,hsl,if_true,UY,hs,hd,hag,he,hl2,Tt]
  rfl
theorem Aa.zU {t t2:TypeId} {x y:Operand} {a b:List UInt8} {r:Bool} (hx:BF E.Γ L x=some (st a)) (hy:BF E.Γ L y=some (st b)) (hr:decide (a=b)=r) (q:Q (.p (.bool r)) H nx) :
 Aa E w ⟨dst,.binOp .eql t x y t2,ty,pos,af,gd⟩ L H nx Q:=Aa.eqS hx hy (by rw [hr];exact q)
end
end Go.Vm
namespace Go.Vm
open Go.Am
def zq (H:Heap):PV→Option Nat
 | .ref b _=>match hget H b with
  |some (.box _ _)=>some b
  |_=>none
 | .vec b n _ _=>match hget H b with
  |some (.vec _ _ k _)=>match Nat.decEq n k with
   | .isTrue _=>some b
   | .isFalse _=>none
  |_=>none
 | .Ei b n _=>match hget H b with
  |some (.vec _ _ k _)=>match Nat.decEq n k with
   | .isTrue _=>some b
   | .isFalse _=>none
  |_=>none
 |_=>none
def pV:PV→Bool
 | .p (.Gx _)=>true
 | .p (.lst _ _ _)=>true
 | .p (.val (.slice none _ _))=>true
 |_=>false
inductive Qj (H:Heap):PV→Nat→Prop
 |ref {b off:Nat} {e:TypeId} {cs:List PV} (h:hget H b=some (.box e cs)):Qj H (.ref b off) b
 |vec {b n off len:Nat} {e:TypeId} {cs:List FV} {z:Bool} (h:hget H b=some (.vec e cs n z)):Qj H (.vec b n off len) b
 |Ei {b n off:Nat} {e:TypeId} {cs:List FV} {z:Bool} (h:hget H b=some (.vec e cs n z)):Qj H (.Ei b n off) b
def vY (H:Heap) (b:Nat) (y:PV):Bool:=match zq H y with
 |some c=>match Nat.decEq b c with
  | .isTrue _=>false
  | .isFalse _=>true
 |none=>pV y
section
variable {Γ:Nat→Option (List Value×TypeId)} {m:Mem} {F:Nat→Prop} {σ:Nat→Value} {H:Heap} {nx:Nat} {L:Frame} {t:Tr Value}
theorem Qj.blk (hx:Ctx Γ m F σ H nx) (hl:RL m F (htag H) σ nx L t) {o:Operand} {x:PV} {b:Nat} (h:BF Γ L o=some x) (ho:Qj H x b):∃ y,hget H b=some y∧∀ c,Gv (ev t o)=some c→Dv (σ b)=some c:=by
 cases ho with
 |ref hb =>
  obtain ⟨c,h1,h2⟩:=Ul hx hl h hb
  refine ⟨_,hb,fun d hd=>?_⟩
  rw [h1] at hd
  rw [h2]
  exact hd
 |vec hb =>
  have hsub:=Iy hx hl h hb
  refine ⟨_,hb,fun d hd=>?_⟩
  unfold EZ at hsub
  split at hsub
  ·rename_i c k' g hs
   rw [hsub] at hd
   rw [hs]
   exact hd
  ·rename_i hne
   obtain ⟨h1,_,_⟩:=hsub
   rcases (hx.hp b _ hb).2 with ⟨_,_,r3⟩|⟨c,g,vs,r1,_⟩
   ·rcases r3 with ⟨r3,_⟩|⟨b2,o2,g2,r3,_⟩
    ·rw [h1,r3] at hd;cases hd
    ·rw [h1,r3] at hd;cases hd
   ·exact absurd r1 (hne _ _ _)
 |Ei hb =>
  obtain ⟨c,k',g,h1,h2⟩:=MO hx hl h hb
  refine ⟨_,hb,fun d hd=>?_⟩
  rw [h1] at hd
  rw [h2]
  exact hd
theorem tC {x:PV} {b:Nat} (ho:zq H x=some b):Qj H x b:=by
 unfold zq at ho
 split at ho
 ·split at ho
  ·rename_i hb;cases ho;exact .ref hb
  ·cases ho
 ·split at ho
  ·rename_i hb
   split at ho
   ·rename_i hn _;cases ho;subst hn;exact .vec hb
   ·cases ho
  ·cases ho
 ·split at ho
  ·rename_i hb
   split at ho
   ·rename_i hn _;cases ho;subst hn;exact .Ei hb
   ·cases ho
  ·cases ho
 ·cases ho
theorem aO (hx:Ctx Γ m F σ H nx) (hl:RL m F (htag H) σ nx L t) {o:Operand} {x:PV} (h:BF Γ L o=some x) (ho:pV x=true):∀ c,Gv (ev t o)=some c→F c:=by
 have hr:=BU hx hl h
 generalize ev t o=v at *
 intro c hc
 unfold pV at ho
 split at ho
 ·cases hr with
  |p hr=>cases hr with|Gx hF=>simp only [Gv,Option.some.injEq] at hc;subst hc;exact hF
 ·cases hr with
  |p hr =>
   cases hr with
   |nil=>cases hc
   |room=>cases hc
   |lst hF=>simp only [Gv,Option.some.injEq] at hc;subst hc;exact hF
 ·cases hr with
  |p hr=>cases hr with|val=>cases hc
 ·cases ho
theorem vK (hx:Ctx Γ m F σ H nx) (hl:RL m F (htag H) σ nx L t) {o r:Operand} {x y:PV} {b:Nat} (h:BF Γ L o=some x) (hb:Qj H x b) (h2:BF Γ L r=some y) (hs:vY H b y=true):jy (Gv (ev t r)) (Gv (ev t o))=true:=by
 obtain ⟨u,hu,hub⟩:=hb.blk hx hl h
 cases hd:Gv (ev t o) with
 |none=>cases Gv (ev t r)<;>rfl
 |some d =>
  have hbd:=hub d hd
  cases he:Gv (ev t r) with
  |none=>rfl
  |some e =>
   simp only [jy,bne_iff_ne,ne_eq]
   intro hde
   subst hde
   unfold vY at hs
   split at hs
   ·rename_i c hc
    obtain ⟨u',hu',hub'⟩:=(tC hc).blk hx hl h2
    have hce:=hub' e he
    have:=hx.sep b c u u' e hu hu' hbd hce
    subst this
    split at hs
    ·cases hs
    ·rename_i hne _;exact hne rfl
   ·exact (hx.LK ⟨b,u,hu,hbd⟩).1 (aO hx hl h2 hs e he)
end
def zM:Operand→Operand→Bool
 | .tmp a,.tmp b=>a==b
 | .global a,.global b=>a==b
 |_,_=>false
def aK:List (Option Operand)→List Operand→Bool
 |[],[]=>true
 |some a::l,b::r=>zM a b&&aK l r
 |_,_=>false
theorem wz {a b:Operand} (h:zM a b=true):a=b:=by
 cases a<;>cases b<;>simp only [zM,beq_iff_eq,Bool.false_eq_true] at h<;>rw [h]
theorem UO:∀ {l:List (Option Operand)} {r:List Operand},aK l r=true→l=r.map some
 |[],[],_=>rfl
 |some a::l,b::r,h=>by
  simp only [aK,Bool.and_eq_true] at h
  rw [List.map_cons,wz h.1,UO h.2]
def iQ (Γ:Nat→Option (List Value×TypeId)) (L:Frame) (H:Heap) (x:Nat):List Operand→Bool
 |[]=>true
 |r::l=>(match BF Γ L r with
  |some y=>vY H x y
  |none=>false)&&iQ Γ L H x l
def iJ (Γ:Nat→Option (List Value×TypeId)) (L:Frame):List Operand→Bool
 |[]=>true
 |r::l=>(match BF Γ L r with
  |some y=>pV y
  |none=>false)&&iJ Γ L l
section
variable {E:Env} {L:Frame} {H:Heap} {nx:Nat}
variable {dst:Option Tmp} {ty:TypeId} {pos:String} {af:Array Edge} {gd:Option (Nat×Bool)}
variable {bn:Nat} {ops:Array Oper} {op:Op} {l:List Oper} {i:Nat} {R:Frame→Heap→Nat→Prop}
theorem Ak.atIdx (n:Nat) (h:Ak E bn ops n l L H nx R):Ak E bn ops n l L H nx R:=h
theorem Ak.weak {wo:Operand} {x:PV} {b:Nat} (rs:List Operand) (hw:YX E.P ops i=true) (hi:(ops[i]?).bind (fun o=>dh o.op)=some wo) (hx:BF E.Γ L wo=some x) (hb:Qj H x b) (hr:aK (G5 ops i) rs=true) (hs:iQ E.Γ L H b rs=true)
 (h:Aa E true ⟨dst,op,ty,pos,af,none⟩ L H nx fun r H' nx'=>Ak E bn ops (i+1) l (Nv L dst r) H' nx' R):Ak E bn ops i (⟨dst,op,ty,pos,af,none⟩::l) L H nx R:=by
 intro B hB m F σ t h1 h2 h3
 have hfree:Np ops i t=true:=by
  unfold Np
  rw [hi]
  simp only
  rw [UO hr,List.all_eq_true]
  intro r hmem
  rw [List.mem_map] at hmem
  obtain ⟨r0,hr0,rfl⟩:=hmem
  simp only
  have key:∀ rs:List Operand,iQ E.Γ L H b rs=true→r0∈rs→∃ y,BF E.Γ L r0=some y∧vY H b y=true:=by
   intro rs
   induction rs with
   |nil=>intro _ h;cases h
   |cons a rs ih =>
    intro h hm
    simp only [iQ,Bool.and_eq_true] at h
    rcases List.mem_cons.1 hm with rfl|hm
    ·cases hv:BF E.Γ L r0 with
     |none=>rw [hv] at h;cases h.1
     |some y=>rw [hv] at h;exact ⟨y,rfl,h.1⟩
    ·exact ih h.2 hm
  obtain ⟨y,hy,hys⟩:=key rs hs hr0
  exact vK h1 h2 hx hb hy hys
 refine Hy.cons (Hu.wanted (L:=L) h1 h2 rfl) ((h (m.at m.size) F σ t (h1.at _) (RL.at (Γ:=E.Γ) _ h2)).mono ?_)
 rintro v m' ⟨r,H',nx',F',σ',q,c1,c2,c3,c4⟩
 refine ⟨.inr (.inr (.inl ⟨hw,hfree⟩)),?_⟩
 exact q B hB _ F' σ' _ (c1.at _) (RL.at (Γ:=E.Γ) _ (((RL.at (Γ:=E.Γ) _ h2).step c3 (h1.at _)).put c2)) (h3.trans c3.at)
theorem Ak.a1w (rs:List Operand) (hw:MJ E.P ops i=true) (hr:aK (G5 ops i) rs=true) (hs:iJ E.Γ L rs=true)
 (h:Aa E true ⟨dst,op,ty,pos,af,none⟩ L H nx fun r H' nx'=>Ak E bn ops (i+1) l (Nv L dst r) H' nx' R):Ak E bn ops i (⟨dst,op,ty,pos,af,none⟩::l) L H nx R:=by
 intro B hB m F σ t h1 h2 h3
 refine Hy.cons (Hu.wanted (L:=L) h1 h2 rfl) ((h (m.at m.size) F σ t (h1.at _) (RL.at (Γ:=E.Γ) _ h2)).mono ?_)
 rintro v m' ⟨r,H',nx',F',σ',q,c1,c2,c3,c4⟩
 have hleave:JW ops i t m m'=true:=by
  unfold JW
  rw [UO hr,List.all_eq_true]
  intro r hmem
  rw [List.mem_map] at hmem
  obtain ⟨r0,hr0,rfl⟩:=hmem
  simp only
  have key:∀ rs:List Operand,iJ E.Γ L rs=true→r0∈rs→∃ y,BF E.Γ L r0=some y∧pV y=true:=by
   intro rs
   induction rs with
   |nil=>intro _ h;cases h
   |cons a rs ih =>
    intro h hm
    simp only [iJ,Bool.and_eq_true] at h
    rcases List.mem_cons.1 hm with rfl|hm
    ·cases hv:BF E.Γ L r0 with
     |none=>rw [hv] at h;cases h.1
     |some y=>rw [hv] at h;exact ⟨y,rfl,h.1⟩
    ·exact ih h.2 hm
  obtain ⟨y,hy,hys⟩:=key rs hs hr0
  split
  ·rename_i b hb
   have hF:=aO h1 h2 hy hys b hb
   exact @decide_eq_true _ (Classical.propDecidable _) (c3.keep b (h1.fr b hF) fun ho=>(h1.LK ho).1 hF)
  ·rfl
 refine ⟨.inr (.inr (.inr ⟨hw,hleave⟩)),?_⟩
 exact q B hB _ F' σ' _ (c1.at _) (RL.at (Γ:=E.Γ) _ (((RL.at (Γ:=E.Γ) _ h2).step c3 (h1.at _)).put c2)) (h3.trans c3.at)
end
end Go.Vm
namespace Go.Vm
open Go.Am
section
variable {E:Env} {bn:Nat} {b:Code} {L:Frame} {H:Heap} {nx:Nat} {Q:CP→Frame→Heap→Nat→Prop}
def VUn (E:Env) (bn:Nat) (b:Code) (Q:CP→Frame→Heap→Nat→Prop):Nat→Frame→Heap→Nat→Prop
 |0,L,H,nx=>Ad E bn b L H nx (Az (fun _ _ _=>False) Q)
 |n+1,L,H,nx=>Ad E bn b L H nx (Az (VUn E bn b Q n) Q)
end
end Go.Vm
namespace Go.Vm
open Go.Am
def Ky (names:List (List UInt8)):List (FV×FV):=names.map fun s=>(.str (bs s),.bool true)
theorem zn (a b:List UInt8):(bs a==bs b)=decide (a=b):=by rw [QV];simp only [Yj]
theorem Uz {m:Mem} {F:Nat→Prop}:∀ {names:List (List UInt8)} {l:List MapEntry},X4 m F (Ky names) l→l.map (·.key)=names.map (fun s=>Value.string (bs s))∧l.map (·.val)=names.map (fun _=>Value.bool true)
 |[],[],_=>⟨rfl,rfl⟩
 |[],e::l,h=>by cases h.1
 |s::names,[],h=>by cases h.1
 |s::names,e::l,h=>by
  obtain ⟨h1,h2⟩:=h
  simp only [Ky,List.map_cons] at h1 h2
  cases h1 with
  |cons k1 t1 =>
   cases h2 with
   |cons k2 t2 =>
    obtain ⟨e1,e2⟩:=Uz (names:=names) (l:=l) ⟨t1,t2⟩
    rw [List.map_cons,List.map_cons,List.map_cons,List.map_cons,e1,e2]
    constructor
    ·congr 1
     generalize e.key=k at k1
     cases k1;rfl
    ·congr 1
     generalize e.val=k at k2
     cases k2;rfl
theorem VQ:∀ {names:List (List UInt8)} {l:List MapEntry},l.map (·.key)=names.map (fun s=>Value.string (bs s))→l.map (·.val)=names.map (fun _=>Value.bool true)→∀ (s:List UInt8) (i:Nat),
 (s∈names→∃ j,Instr.findNow .string (.string (bs s)) l i=some (some (j,.bool true)))∧(s∉names→Instr.findNow .string (.string (bs s)) l i=some none)
 |[],[],_,_,s,i=>⟨fun h=>(by cases h),fun _=>rfl⟩
 |[],e::l,h,_,_,_=>by cases h
 |n::names,[],h,_,_,_=>by cases h
 |n::names,e::l,h1,h2,s,i=>by
  simp only [List.map_cons,List.cons.injEq] at h1 h2
  obtain ⟨i1,i2⟩:=VQ h1.2 h2.2 s (i+1)
  have hs:Instr.sameNow .string (.string (bs s)) (.string (bs n))=some (bs s==bs n):=rfl
  rw [zn] at hs
  unfold Instr.findNow
  rw [h1.1,hs]
  by_cases hn:s=n
  ·rw [decide_eq_true hn]
   simp only [h2.1]
   exact ⟨fun _=>⟨i,rfl⟩,fun h=>absurd (by rw [hn];simp) h⟩
  ·rw [decide_eq_false hn]
   simp only
   refine ⟨fun h=>?_,fun h=>?_⟩
   ·rcases List.mem_cons.1 h with h|h
    ·exact absurd h hn
    ·exact i1 h
   ·exact i2 (fun h'=>h (List.mem_cons_of_mem _ h'))
section
variable {E:Env} {L:Frame} {H:Heap} {nx:Nat} {Q:PV→Heap→Nat→Prop} {w:Bool}
variable {dst:Option Tmp} {ty:TypeId} {pos:String} {af:Array Edge} {gd:Option (Nat×Bool)}
theorem jD {Γ:Nat→Option (List Value×TypeId)} {m:Mem} {F:Nat→Prop} {σ:Nat→Value} {t:Tr Value} {b:Nat} {o:Operand} {es:List (FV×FV)} (hx:Ctx Γ m F σ H nx) (hl:RL m F (htag H) σ nx L t) (h:BF Γ L o=some (.mref b)) (hb:hget H b=some (.map es)):ev t o=σ b:=by
 have:=BU hx hl h
 generalize ev t o=v at this
 cases this with
 |mref _ _ h3=>exact h3 (by simp [htag,hb,HB.tag])
theorem Aa.makeMap {t:TypeId} (q:Q (.mref nx) ((nx,.map [])::H) (nx+1)):Aa E w ⟨dst,.makeMap t none,ty,pos,af,gd⟩ L H nx Q:=by
 intro m F σ tt h1 h2
 obtain ⟨c1,c2,c3⟩:=h1.new (m':=m.alloc (.map [] 0)) (x:=.map []) (s:=.map (some m.size)) (by simp [Mem.alloc]) (fun c hc=>by rw [Mem.BR,if_neg (by omega)]) (by simp only [Mem.alloc];omega) (fun c hc=>by simp only [Dv,Option.some.injEq] at hc;omega)
  ⟨m.size,[],0,rfl,by simp [Mem.alloc],fun hf=>Nat.lt_irrefl _ (h1.fr _ hf),by rw [Mem.BR,if_pos rfl],⟨.nil,.nil⟩⟩
 exact Gz.op (v:=.map (some m.size)) (fun _=>rfl) ⟨_,_,_,F,_,q,c1,.mref (Nat.lt_succ_self _) rfl fun _=>(upd_same _ _ _).symm,c2,fun _=>c3⟩
theorem Aa.Ik {t kt et:TypeId} {x k:Operand} {b:Nat} {names:List (List UInt8)} {s:List UInt8} (hx:BF E.Γ L x=some (.mref b)) (hb:hget H b=some (.map (Ky names))) (hk:BF E.Γ L k=some (st s))
 (ht:E.P.underlying t=some (.map kt et)) (hkk:Fa E.P kt=some .string) (hz:zeroOf E.P et=some (.bool false)) (q:Q (.p (.bool (decide (s∈names)))) H nx):Aa E w ⟨dst,.lookup t x k false,ty,pos,af,gd⟩ L H nx Q :=
 Aa.quiet q fun m F σ tt c1 c2=>by
  obtain ⟨_,r,l,clock,r1,r2,r3,r4,r5⟩:=c1.hp b _ hb
  obtain ⟨e1,e2⟩:=Uz r5
  obtain ⟨f1,f2⟩:=VQ e1 e2 s 0
  refine ⟨.bool (decide (s∈names)),fun _=>?_,.p (.bool _)⟩
  simp only [CG,Fp,N7,J7,ht,hkk,hz,jD c1 c2 hx hb,J3 c1 c2 hk,r1,r4]
  rw [show (plain (Value.bool false)&&plain (Value.string (bs s)))=true from rfl]
  by_cases h:s∈names
  ·obtain ⟨j,hj⟩:=f1 h
   simp only [if_true,hj,Bool.false_eq_true,if_false,Option.map_some,decide_eq_true h]
  ·simp only [if_true,f2 h,Bool.false_eq_true,if_false,Option.map_some,decide_eq_false h]
theorem DC.snoc {m:Mem} {F:Nat→Prop}:∀ {cs:List FV} {vs:List Value} {c:FV} {v:Value},DC m F cs vs→RF m F c v→DC m F (cs++[c]) (vs++[v])
 |_,_,_,_,.nil,h=>.cons h .nil
 |_,_,_,_,.cons a t,h=>.cons a (DC.snoc t h)
theorem Aa.Y2 {t kt et:TypeId} {x k y:Operand} {b:Nat} {names:List (List UInt8)} {s:List UInt8} (hx:BF E.Γ L x=some (.mref b)) (hb:hget H b=some (.map (Ky names))) (hk:BF E.Γ L k=some (st s)) (hy:BF E.Γ L y=some (.p (.bool true)))
 (ht:E.P.underlying t=some (.map kt et)) (hkk:Fa E.P kt=some .string) (hn:s∉names) (q:Q (.EK []) (hput H b (.map (Ky (names++[s])))) nx):Aa E true ⟨dst,.mapUpdate t x k y,ty,pos,af,gd⟩ L H nx Q:=by
 intro m F σ tt c1 c2
 obtain ⟨_,r,l,clock,r1,r2,r3,r4,r5⟩:=c1.hp b _ hb
 obtain ⟨e1,e2⟩:=Uz r5
 have f2:=(VQ e1 e2 s 0).2 hn
 have hput':∀ d x,r≠d→(m.put r x).get d=m.get d:=fun d x hd=>by rw [Mem.get_put,if_neg hd]
 obtain ⟨d1,d2⟩:=c1.change (m':=m.put r (.map (l++[{ key:=.string (bs s),val:=.bool true,born:=clock }]) (clock+1))) (x':=.map (Ky (names++[s]))) (s':=σ b) hb trivial (fun _=>rfl) (Nat.le_refl _)
  (fun d _ hd=>hput' d _ fun e=>hd (by rw [r1,e];rfl)) (fun k k1 k2 k3=>by
   have:=k3 r (by rw [r1];rfl)
   simp only [Mem.put];omega) (fun d hd=>.inl hd) (by
   refine ⟨r,_,clock+1,r1,r2,r3,by rw [Mem.get_put,if_pos rfl],?_⟩
   have hF:∀ d,F d→F d∧(m.put r (.map (l++[{ key:=.string (bs s),val:=.bool true,born:=clock }]) (clock+1))).get d=m.get d:=fun d hd=>⟨hd,hput' d _ fun e=>r3 (e▸hd)⟩
   unfold X4 Ky
   simp only [List.map_append,List.map_cons,List.map_nil]
   exact ⟨DC.snoc (r5.1.mono hF) (.str _),DC.snoc (r5.2.mono hF) (.bool _)⟩)
 refine Gz.op (v:=undef) (fun _=>?_) ⟨_,_,_,F,_,q,d1,.EK .nil,d2,fun h=>by cases h⟩
 have hv:ev tt y=.bool true:=H6 c1 c2 hy
 simp only [CG,Fp,Lj,J7,ht,hkk,jD c1 c2 hx hb,J3 c1 c2 hk,hv,r1,r4]
 rw [show plain (Value.string (bs s))=true from rfl]
 simp only [if_true,f2,Option.map_some]
end
end Go.Vm
namespace Go.Vm
open Go.Am
end Go.Vm
namespace Go.Proofs.YtnhdddmhkhdlhaaGreatDoor
open Go Go.Am Go.Vm
attribute [local irreducible] Aa Af Ak Ad Bv AQ BN AV AP Az Vm.Done Cb BH
def qR (x:Jv):Prop:=ou x∧0<x.num∧x.num≤128*x.den∧x.den≤128
instance (x:Jv):Decidable (qR x):=by unfold qR;infer_instance
def NJ (x:Jv):Int:=if ¬ ou x then 2 else if x.num≤0∨x.num>128*x.den then 3 else if x.den>128 then 4 else 0
theorem PU {x:Jv}:NJ x=0↔qR x:=by
 unfold NJ qR
 by_cases h1:ou x
 ·rw [if_neg (Classical.not_not.2 h1)]
  split
  ·constructor
   ·intro h;cases h
   ·rintro ⟨_,_,_,_⟩;omega
  ·split
   ·constructor
    ·intro h;cases h
    ·rintro ⟨_,_,_,_⟩;omega
   ·exact ⟨fun _=>⟨h1,by omega,by omega,by omega⟩,fun _=>rfl⟩
 ·rw [if_pos h1]
  exact ⟨fun h=>(by cases h),fun h=>absurd h.1 h1⟩
theorem J5 (x:Jv):AQ env 77 [.agg (Enc.enc x)] (.p (.int .i64 (NJ x))):=by
 have hc:=Zd x
 refine AQ.enter (Ar (by decide)) Tryz.func77 rfl (by kernel_rfl) (by simp [Tryz.ntmps77]) ?_
 by_cases h1:ou x
 ·rw [show vM x=0 from if_pos h1] at hc
  have h1':=h1
  obtain ⟨h2,h3,h4,h5,-⟩:=h1'
  have e:NJ x=if x.num≤0∨x.num>128*x.den then 3 else if x.den>128 then 4 else 0:=by unfold NJ;rw [if_neg (Classical.not_not.2 h1)]
  rw [e]
  repeat' (first|apply Ad.Aw|apply Ad.Aj|apply AV.normal|apply AV.ret|apply AP.normal|apply AP.ret|apply Ad.ret|apply Ad.skip|apply Af.nil|apply Af.one|(apply Af.take;rfl;rfl)|(apply Af.drop;rfl;rfl;rfl)|(apply Af.guard;rfl;rfl)|(apply Aa.fn;rfl;rfl;exact hc;intro _;rfl)|(apply Aa.assign;rfl)|(apply Aa.move;rfl)|(apply Aa.OC;rfl;rfl;omega)|(apply Aa.int;rfl;rfl;rfl)|(apply Aa.load;rfl;rfl)|(apply Aa.AZ;rfl;rfl)|(apply Aa.AB;rfl;rfl)|(apply Aa.AA;rfl;rfl;rfl)|(apply Aa.box;rfl;trivial)|(apply Ad.cond_true;rfl)|(apply Ad.cond_false;rfl)|(apply Ad.AX;rfl)|(intro _;try (exfalso;omega)))
  all_goals first|(exfalso;omega)|(rw [if_pos (by omega)];(refine Done.ret rfl (.refl _) (by first|exact trivial|exact ⟨trivial,trivial,trivial⟩|exact ⟨trivial,trivial,trivial,trivial⟩) Ap.nil (Nat.zero_le _) (Nat.le_refl _) ⟨?_,rfl,rfl⟩;try rfl);done)|(rw [if_neg (by omega),if_pos (by omega)];(refine Done.ret rfl (.refl _) (by first|exact trivial|exact ⟨trivial,trivial,trivial⟩|exact ⟨trivial,trivial,trivial,trivial⟩) Ap.nil (Nat.zero_le _) (Nat.le_refl _) ⟨?_,rfl,rfl⟩;try rfl);done)|(rw [if_neg (by omega),if_neg (by omega)];(refine Done.ret rfl (.refl _) (by first|exact trivial|exact ⟨trivial,trivial,trivial⟩|exact ⟨trivial,trivial,trivial,trivial⟩) Ap.nil (Nat.zero_le _) (Nat.le_refl _) ⟨?_,rfl,rfl⟩;try rfl);done)
 ·rw [show vM x=2 from if_neg h1] at hc
  rw [show NJ x=2 from if_pos h1]
  repeat' (first|apply Ad.Aw|apply Ad.Aj|apply AV.ret|apply AP.ret|apply Ad.ret|apply Af.nil|apply Af.one|(apply Aa.fn;rfl;rfl;exact hc;intro _;rfl)|(apply Aa.assign;rfl)|(apply Aa.int;rfl;rfl;rfl)|(apply Aa.load;rfl;rfl)|(apply Aa.box;rfl;trivial)|(apply Ad.cond_true;rfl))
  all_goals (refine Done.ret rfl (.refl _) (by first|exact trivial|exact ⟨trivial,trivial,trivial⟩|exact ⟨trivial,trivial,trivial,trivial⟩) Ap.nil (Nat.zero_le _) (Nat.le_refl _) ⟨?_,rfl,rfl⟩;try rfl)
def bothR (x y:Jv):Int:=if NJ x≠0 then NJ x else NJ y
theorem gB (x y:Jv):AQ env 116 [.agg (Enc.enc x),.agg (Enc.enc y)] (.p (.int .i64 (bothR x y))):=by
 have h1:=J5 x
 have h2:=J5 y
 unfold bothR
 refine AQ.enter (Ar (by decide)) Tryz.func116 rfl (by kernel_rfl) (by simp [Tryz.ntmps116]) ?_
 repeat' (first|apply Ad.assoc|apply Ad.Aw|apply Ad.Aq|apply Ad.Bf|apply Ad.ret|apply Af.nil|apply Af.one|(apply Aa.fn;rfl;rfl;exact h1;intro _;rfl)|(apply Aa.fn;rfl;rfl;exact h2;intro _;rfl)|(apply Aa.assign;rfl)|(apply Aa.move;rfl)|(apply Aa.int;rfl;rfl;rfl)|(apply Aa.load;rfl;rfl)|(apply Aa.box;rfl;trivial)|(apply Ad.Ae;rfl)|(intro _;try (exfalso;omega)))
 all_goals first|(rw [if_pos (by assumption)];(refine Done.ret rfl (.refl _) (by first|exact trivial|exact ⟨trivial,trivial,trivial⟩|exact ⟨trivial,trivial,trivial,trivial⟩) Ap.nil (Nat.zero_le _) (Nat.le_refl _) ⟨?_,rfl,rfl⟩;try rfl);done)|(rw [if_neg (by assumption)];(refine Done.ret rfl (.refl _) (by first|exact trivial|exact ⟨trivial,trivial,trivial⟩|exact ⟨trivial,trivial,trivial,trivial⟩) Ap.nil (Nat.zero_le _) (Nat.le_refl _) ⟨?_,rfl,rfl⟩;try rfl);done)
def yh (den:Nat):Nat→Nat→Int→Nat×Int
 |0,num,n=>(num,n)
 |f+1,num,n=>if num<den then yh den f (num*2) (n-12) else (num,n)
def zi (num:Nat):Nat→Nat→Int→Nat×Int
 |0,den,n=>(den,n)
 |f+1,den,n=>if 2*den≤num then zi num f (den*2) (n+12) else (den,n)
def xY (p:Nat):Nat→Nat→Int→Int
 |0,l,n=>n
 |f+1,l,n=>if l<p then xY p f (l*4) (n+1) else n
def shN (num den:Nat):Int :=
 let a:=yh den 30 num 0
 let b:=zi a.1 30 den a.2
 xY (a.1 ^ 24) 30 (b.1 ^ 24*2) b.2
def nI (x y:Jv):Int:=shN (y.num*x.den).toNat (y.den*x.num).toNat
theorem nN (a b:Nat):WE a b>0↔b<a:=by
 unfold WE
 split
 ·omega
 ·split<;>omega
theorem jH {n k:Nat} (hk:0<k) (h:n<10 ^ k):Lib.nDigits n≤k:=by
 rcases Nat.eq_zero_or_pos n with h0|h0
 ·subst h0;rw [Lib.nDigits_small (by decide)];exact hk
 ·have h1:=Num.FQ n (by omega)
  have h2:10 ^ (Lib.nDigits n-1)<10 ^ k:=Nat.lt_of_le_of_lt h1 h
  have h3:=(Nat.pow_lt_pow_iff_right (a:=10) (by decide)).1 h2
  omega
theorem fQ {n k e:Nat} (hk:0<k) (h:n<10 ^ k) (he:e≤100):Lib.nDigits (n ^ e)≤k*100:=by
 rcases Nat.eq_zero_or_pos e with h0|h0
 ·subst h0;rw [Nat.pow_zero,Lib.nDigits_small (by decide)];omega
 ·refine jH (by omega) ?_
  have h1:n ^ e<(10 ^ k) ^ e:=Nat.pow_lt_pow_left h (by omega)
  rw [← Nat.pow_mul] at h1
  exact Nat.lt_of_lt_of_le h1 (Nat.pow_le_pow_right (by decide) (Nat.mul_le_mul_left _ he))
theorem qO {a b j k:Nat} (ha:Lib.nDigits a≤j) (hb:Lib.nDigits b≤k):Lib.nDigits (a*b)≤j+k:=by
 have h1:=Lib.lt_pow_nDigits a
 have h2:=Lib.lt_pow_nDigits b
 have hp:=Lib.nDigits_pos a
 refine jH (by omega) ?_
 rw [Nat.pow_add]
 have h3:a<10 ^ j:=Nat.lt_of_lt_of_le h1 (Nat.pow_le_pow_right (by decide) ha)
 have h4:b<10 ^ k:=Nat.lt_of_lt_of_le h2 (Nat.pow_le_pow_right (by decide) hb)
 exact Nat.mul_lt_mul_of_lt_of_le h3 (Nat.le_of_lt h4) (Nat.pow_pos (by decide))
theorem fK (x y:Jv) (hx:qR x) (hy:qR y):AQ env 117 [.agg (Enc.enc x),.agg (Enc.enc y)] (.p (.int .i64 (nI x y))):=by
 obtain ⟨⟨f1,-⟩,f2,f3,f4⟩:=hx
 obtain ⟨⟨g1,-⟩,g2,g3,g4⟩:=hy
 obtain ⟨xn,hxn⟩:∃ k:Nat,x.num=k:=⟨x.num.toNat,by omega⟩
 obtain ⟨xd,hxd⟩:∃ k:Nat,x.den=k:=⟨x.den.toNat,by omega⟩
 obtain ⟨yn,hyn⟩:∃ k:Nat,y.num=k:=⟨y.num.toNat,by omega⟩
 obtain ⟨yd,hyd⟩:∃ k:Nat,y.den=k:=⟨y.den.toNat,by omega⟩
 have b1:yn*xd≤16384*128:=Nat.mul_le_mul (by omega) (by omega)
 have b2:yd*xn≤128*16384:=Nat.mul_le_mul (by omega) (by omega)
 have p1:0<yn*xd:=Nat.mul_pos (by omega) (by omega)
 have p2:0<yd*xn:=Nat.mul_pos (by omega) (by omega)
 have c1:y.num*x.den=((yn*xd:Nat):Int):=by rw [hyn,hxd,Int.natCast_mul]
 have c2:y.den*x.num=((yd*xn:Nat):Int):=by rw [hyd,hxn,Int.natCast_mul]
 have e:nI x y=shN (yn*xd) (yd*xn):=by unfold nI;rw [c1,c2];rfl
 rw [e]
 generalize yn*xd=num at *
 generalize yd*xn=den at *
 have z1:-9223372036854775808≤y.num*x.den∧y.num*x.den<9223372036854775808:=by omega
 have z2:-9223372036854775808≤y.den*x.num∧y.den*x.num<9223372036854775808:=by omega
 refine AQ.enter (Ar (by decide)) Tryz.func117 rfl (by kernel_rfl) (by simp [Tryz.ntmps117]) ?_
 repeat' (first|apply Ad.Aw|apply Ad.Bl|apply Ad.Aj|apply Af.nil|apply Ak.nil|apply Af.one|(apply Ak.bar;decide +kernel)|apply Ak.quiet|(apply Aa.assign;rfl)|(apply Aa.OC;rfl;rfl;omega)|(apply Aa.load;rfl;rfl)|(apply Aa.AA;rfl;rfl;rfl)|(apply Aa.box;rfl;trivial))
 refine Ad.Ec (fun s:Nat×Nat=>[(5,.p (.int .i64 (s.2:Int))),(6,.p (.int .i64 (den:Int))),(7,.p (.int .i64 (-(12*(s.1:Int)))))]) (fun _=>[]) 0 (fun s=>s.1≤22∧s.2=num*2 ^ s.1∧s.2≤4194304∧yh den (30-s.1) s.2 (-(12*(s.1:Int)))=yh den 30 num 0) (fun s=>30-s.1) (0,num) (by omega) ⟨by omega,by simp,by simp only;omega,by simp⟩ ⟨by omega,?_,?_⟩ ?_
 ·simp only [c1,c2];repeat (first|exact Ah.nil|refine Ah.same trivial rfl ?_|refine Ah.same (Ac rfl) rfl ?_|refine Ah.same ⟨trivial,Ac rfl,Ac rfl,Ac rfl,trivial⟩ rfl ?_|refine Ah.same ⟨trivial,Ac rfl,Ac rfl,trivial⟩ rfl ?_|refine Ah.same ⟨trivial,trivial⟩ rfl ?_|refine Ah.cons trivial rfl (.of_eq (AL (by simp<;>omega))) ?_)
 ·exact Ap.nil
 rintro ⟨i,m⟩ ⟨hi,hm,hm2,hs⟩
 simp only at hi hm hm2 hs
 have dw:∀ a b c:Nat,0<a→a*2 ^ b≤c→2 ^ b≤c:=fun a b c ha h=>Nat.le_trans (Nat.le_mul_of_pos_left _ ha) h
 have h21:∀ b:Nat,2 ^ b≤2 ^ 21→b≤21:=fun b h=>(Nat.pow_le_pow_iff_right (by decide)).1 h
 have a5f:0<m:=by rw [hm];exact Nat.mul_pos p1 (Nat.pow_pos (by decide))
 repeat' (first|apply Ad.assoc|apply Ad.Aw|apply Ad.region|apply Ad.Aq|apply Ad.Bj|apply Ad.Aj|apply AV.normal|apply AP.normal|apply AP.exit|apply Az.exit|apply Af.nil|apply Af.one|(apply Aa.assign;rfl)|(apply Aa.move;rfl)|(apply Aa.Dq;rfl;rfl;omega)|(apply Aa.OC;rfl;rfl;omega)|(apply Aa.int;rfl;rfl;rfl)|(apply Ad.Ae;rfl)|(intro _;try (exfalso;omega)))
 ·rename_i a1
  simp only at a1
  have hi2:i≤20:=by
   have h1:num*2 ^ i<den:=by rw [← hm];omega
   have h2:2 ^ i<2 ^ 21:=Nat.lt_of_le_of_lt (dw _ _ _ p1 (Nat.le_refl _)) (by omega)
   have:=(Nat.pow_lt_pow_iff_right (a:=2) (by decide)).1 h2
   omega
  have e7:-(12*((i+1:Nat):Int))=-(12*(i:Int))-12:=by omega
  refine Az.normal ⟨(i+1,m*2),⟨by simp only;omega,by simp only;rw [hm,Nat.pow_succ,Nat.mul_assoc],by simp only;omega,?_⟩,by simp only;omega,⟨by omega,?_,?_⟩⟩
  ·simp only
   rw [← hs,show 30-i=(30-(i+1))+1 by omega,e7]
   conv=>rhs;rw [yh]
   rw [if_pos (by omega)]
  ·simp only [e7];repeat (first|exact Ah.nil|refine Ah.same trivial rfl ?_|refine Ah.same (Ac rfl) rfl ?_|refine Ah.same ⟨trivial,Ac rfl,Ac rfl,Ac rfl,trivial⟩ rfl ?_|refine Ah.same ⟨trivial,Ac rfl,Ac rfl,trivial⟩ rfl ?_|refine Ah.same ⟨trivial,trivial⟩ rfl ?_|refine Ah.cons trivial rfl (.of_eq (AL (by simp<;>omega))) ?_)
  ·exact Ap.nil
 ·rename_i a1
  simp only at a1
  have hs1:yh den 30 num 0=(m,-(12*(i:Int))):=by
   rw [← hs]
   cases 30-i with
   |zero=>rfl
   |succ f=>rw [yh,if_neg (by omega)]
  refine Ad.Ec (fun s:Nat×Nat=>[(5,.p (.int .i64 (m:Int))),(6,.p (.int .i64 (s.2:Int))),(7,.p (.int .i64 (-(12*(i:Int))+12*(s.1:Int))))]) (fun _=>[]) 0 (fun s=>s.1≤22∧s.2=den*2 ^ s.1∧s.2≤4194304∧zi m (30-s.1) s.2 (-(12*(i:Int))+12*(s.1:Int))=zi m 30 den (-(12*(i:Int)))) (fun s=>30-s.1) (0,den) (by omega) ⟨by omega,by simp,by simp only;omega,by simp⟩ ⟨by omega,?_,?_⟩ ?_
  ·have e7:-(12*(i:Int))+12*((0:Nat):Int)=-(12*(i:Int)):=by omega
   simp only [e7];repeat (first|exact Ah.nil|refine Ah.same trivial rfl ?_|refine Ah.same (Ac rfl) rfl ?_|refine Ah.same ⟨trivial,Ac rfl,Ac rfl,Ac rfl,trivial⟩ rfl ?_|refine Ah.same ⟨trivial,Ac rfl,Ac rfl,trivial⟩ rfl ?_|refine Ah.same ⟨trivial,trivial⟩ rfl ?_|refine Ah.cons trivial rfl (.of_eq (AL (by simp<;>omega))) ?_)
  ·exact Ap.nil
  rintro ⟨j,d⟩ ⟨hj,hd,hd2,ht⟩
  simp only at hj hd hd2 ht
  have a1d:0<d:=by rw [hd];exact Nat.mul_pos p2 (Nat.pow_pos (by decide))
  by_cases hdm:2*d≤m
  ·repeat' (first|apply Ad.assoc|apply Ad.Aw|apply Ad.region|apply Ad.Aq|apply Ad.Aj|apply AV.normal|apply AP.normal|apply Af.nil|apply Af.one|(apply Aa.assign;rfl)|(apply Aa.move;rfl)|(apply Aa.BD;rfl;rfl;omega)|(apply Aa.OC;rfl;rfl;omega)|(apply Aa.int;rfl;rfl;rfl)|(apply Ad.Ae;rfl)|(intro _;try (exfalso;omega)))
   all_goals try (exfalso;omega)
   have hj2:j≤21:=by
    have h1:den*2 ^ j≤2 ^ 21:=by rw [← hd];omega
    exact h21 _ (dw _ _ _ p2 h1)
   have e7:-(12*(i:Int))+12*((j+1:Nat):Int)=-(12*(i:Int))+12*(j:Int)+12:=by omega
   refine Az.normal ⟨(j+1,d*2),⟨by simp only;omega,by simp only;rw [hd,Nat.pow_succ,Nat.mul_assoc],by simp only;omega,?_⟩,by simp only;omega,⟨by omega,?_,?_⟩⟩
   ·simp only
    rw [← ht,show 30-j=(30-(j+1))+1 by omega,e7]
    conv=>rhs;rw [zi]
    rw [if_pos hdm]
   ·simp only [e7];repeat (first|exact Ah.nil|refine Ah.same trivial rfl ?_|refine Ah.same (Ac rfl) rfl ?_|refine Ah.same ⟨trivial,Ac rfl,Ac rfl,Ac rfl,trivial⟩ rfl ?_|refine Ah.same ⟨trivial,Ac rfl,Ac rfl,trivial⟩ rfl ?_|refine Ah.same ⟨trivial,trivial⟩ rfl ?_|refine Ah.cons trivial rfl (.of_eq (AL (by simp<;>omega))) ?_)
   ·exact Ap.nil
  ·have hs2:zi m 30 den (-(12*(i:Int)))=(d,-(12*(i:Int))+12*(j:Int)):=by
    rw [← ht]
    cases 30-j with
    |zero=>rfl
    |succ f=>rw [zi,if_neg hdm]
   have hR:shN num den=xY (m ^ 24) 30 (d ^ 24*2) (-(12*(i:Int))+12*(j:Int)):=by
    unfold shN;rw [hs1];simp only;rw [hs2]
   rw [hR]
   have om:=Yy (m:Int) (by omega)
   have od:=Yy (d:Int) (by omega)
   rw [ZC] at om od
   have nm:Lib.nDigits m≤7:=jH (by decide) (by omega)
   have nd:Lib.nDigits d≤7:=jH (by decide) (by omega)
   have pm:=Vy m 24 (by decide) (by omega) (by omega)
   have pd:=Vy d 24 (by decide) (by omega) (by omega)
   have np:Lib.nDigits (m ^ 24)≤700:=fQ (k:=7) (by decide) (by omega) (by decide)
   have nq:Lib.nDigits (d ^ 24)≤700:=fQ (k:=7) (by decide) (by omega) (by decide)
   have n2:Lib.nDigits 2=1:=Lib.nDigits_small (by decide)
   have n4:Lib.nDigits 4=1:=Lib.nDigits_small (by decide)
   have q2:=ZF (d ^ 24) 2 (by omega) (by omega)
   rw [show Lib.decDigits 2=[50] by decide +kernel] at q2
   have hpq:m ^ 24<2 ^ 24*d ^ 24:=by
    rw [← Nat.mul_pow]
    exact Nat.pow_lt_pow_left (by omega) (by decide)
   have a4z:0<d ^ 24:=Nat.pow_pos a1d
   generalize m ^ 24=p at *
   generalize d ^ 24=q at *
   repeat' (first|apply Ad.assoc|apply Ad.Aw|apply Ad.Bj|apply Ad.Aj|apply AV.normal|apply AP.exit|apply Az.exit|apply Af.nil|apply Af.one|(apply Aa.fn;rfl;rfl;exact om;intro _;rfl)|(apply Aa.fn;rfl;rfl;exact od;intro _;rfl)|(apply Aa.fn;rfl;rfl;exact pm;intro _;rfl)|(apply Aa.fn;rfl;rfl;exact pd;intro _;rfl)|(apply Aa.fn;rfl;rfl;exact q2;intro _;rfl)|(apply Aa.assign;rfl)|(apply Aa.move;rfl)|(apply Aa.OC;rfl;rfl;omega)|(apply Aa.int;rfl;rfl;rfl)|(apply Aa.extract;rfl;rfl)|(apply Ad.Ae;rfl)|(intro _;try (exfalso;omega)))
   all_goals try (exfalso;omega)
   generalize hn0:-(12*(i:Int))+12*(j:Int)=n0 at *
   have a5p:-1000≤n0∧n0≤1000:=by omega
   refine Ad.Ec (fun k:Nat=>[(8,st (Lib.decDigits p)),(12,st (Lib.decDigits (q*2*4 ^ k))),(7,.p (.int .i64 (n0+(k:Int))))]) (fun _=>[]) 0 (fun k=>k≤20∧xY p (30-k) (q*2*4 ^ k) (n0+(k:Int))=xY p 30 (q*2) n0) (fun k=>30-k) 0 (by omega) ⟨by omega,by simp⟩ ⟨by omega,?_,?_⟩ ?_
   ·have e7:n0+((0:Nat):Int)=n0:=by omega
    rw [e7,Nat.pow_zero,Nat.mul_one];repeat (first|exact Ah.nil|refine Ah.same trivial rfl ?_|refine Ah.same (Ac rfl) rfl ?_|refine Ah.same ⟨trivial,Ac rfl,Ac rfl,Ac rfl,trivial⟩ rfl ?_|refine Ah.same ⟨trivial,Ac rfl,Ac rfl,trivial⟩ rfl ?_|refine Ah.same ⟨trivial,trivial⟩ rfl ?_|refine Ah.cons trivial rfl (.of_eq (AL (by simp<;>omega))) ?_)
   ·exact Ap.nil
   rintro k ⟨hk,hs⟩
   have nl:Lib.nDigits (q*2*4 ^ k)≤1000:=by
    have h1:=qO (a:=q) (b:=2) (j:=700) (k:=1) (by omega) (by omega)
    have h2:Lib.nDigits (4 ^ k)≤100:=fQ (n:=4) (k:=1) (by decide) (by decide) (by omega)
    have h3:=qO h1 h2
    omega
   have cc:=Yg p (q*2*4 ^ k) (by omega) (by omega)
   have q4:=ZF (q*2*4 ^ k) 4 (by omega) (by omega)
   rw [show Lib.decDigits 4=[52] by decide +kernel] at q4
   have hcp:=nN p (q*2*4 ^ k)
   by_cases hlt:q*2*4 ^ k<p
   ·have hc:=hcp.2 hlt
    have hk2:k≤12:=by
     have h1:q*(2*4 ^ k)<q*2 ^ 24:=by rw [← Nat.mul_assoc,Nat.mul_comm q (2 ^ 24)];omega
     have h2:=Nat.lt_of_mul_lt_mul_left h1
     have h3:2*4 ^ k=2 ^ (1+2*k):=by rw [Nat.pow_add,Nat.pow_mul,Nat.pow_one]
     rw [h3] at h2
     have:=(Nat.pow_lt_pow_iff_right (a:=2) (by decide)).1 h2
     omega
    have e7:n0+((k+1:Nat):Int)=n0+(k:Int)+1:=by omega
    repeat' (first|apply Ad.assoc|apply Ad.Aw|apply Ad.region|apply Ad.Aq|apply Ad.Aj|apply AV.normal|apply AP.normal|apply Af.nil|apply Af.one|(apply Aa.fn;rfl;rfl;exact cc;intro _;rfl)|(apply Aa.fn;rfl;rfl;exact q4;intro _;rfl)|(apply Aa.assign;rfl)|(apply Aa.move;rfl)|(apply Aa.BD;rfl;rfl;omega)|(apply Aa.int;rfl;rfl;rfl)|(apply Ad.Ae;rfl)|(intro _;try (exfalso;omega)))
    all_goals try (exfalso;omega)
    refine Az.normal ⟨k+1,⟨by omega,?_⟩,by omega,⟨by omega,?_,?_⟩⟩
    ·rw [← hs,show 30-k=(30-(k+1))+1 by omega,e7]
     conv=>rhs;rw [xY]
     rw [if_pos hlt,Nat.pow_succ,Nat.mul_assoc (q*2)]
    ·rw [e7,Nat.pow_succ,← Nat.mul_assoc];repeat (first|exact Ah.nil|refine Ah.same trivial rfl ?_|refine Ah.same (Ac rfl) rfl ?_|refine Ah.same ⟨trivial,Ac rfl,Ac rfl,Ac rfl,trivial⟩ rfl ?_|refine Ah.same ⟨trivial,Ac rfl,Ac rfl,trivial⟩ rfl ?_|refine Ah.same ⟨trivial,trivial⟩ rfl ?_|refine Ah.cons trivial rfl (.of_eq (AL (by simp<;>omega))) ?_)
    ·exact Ap.nil
   ·have hc:¬ WE p (q*2*4 ^ k)>0:=fun h=>hlt (hcp.1 h)
    have hR3:xY p 30 (q*2) n0=n0+(k:Int):=by
     rw [← hs]
     cases 30-k with
     |zero=>rfl
     |succ f=>rw [xY,if_neg hlt]
    rw [hR3]
    repeat' (first|apply Ad.assoc|apply Ad.Aw|apply Ad.Bj|apply AV.normal|apply AP.exit|apply Az.exit|apply Ad.ret|apply Af.nil|apply Af.one|(apply Aa.fn;rfl;rfl;exact cc;intro _;rfl)|(apply Aa.assign;rfl)|(apply Aa.move;rfl)|(apply Aa.int;rfl;rfl;rfl)|(apply Ad.Ae;rfl)|(intro _;try (exfalso;omega)))
    all_goals first|(exfalso;omega)|(refine Done.ret rfl (.refl _) (by first|exact trivial|exact ⟨trivial,trivial,trivial⟩|exact ⟨trivial,trivial,trivial,trivial⟩) Ap.nil (Nat.zero_le _) (Nat.le_refl _) ⟨?_,rfl,rfl⟩;try rfl)
def BK (x y:Jv):Int×Int:=if bothR x y≠0 then (0,bothR x y) else (nI x y,0)
theorem oC {x y:Jv}:bothR x y=0↔qR x∧qR y:=by
 unfold bothR
 rw [← PU,← PU]
 split
 ·rename_i h;exact ⟨fun h'=>absurd h' h,fun h'=>absurd h'.1 h⟩
 ·rename_i h;exact ⟨fun h'=>⟨Classical.not_not.1 h,h'⟩,fun h'=>h'.2⟩
theorem SI (x y:Jv):AQ env 96 [.agg (Enc.enc x),.agg (Enc.enc y)] (.EK [.p (.int .i64 (BK x y).1),.p (.int .i64 (BK x y).2)]):=by
 have hb:=gB x y
 by_cases h:bothR x y=0
 ·rw [h] at hb
  have ok:=oC.1 h
  have hs:=fK x y ok.1 ok.2
  rw [show BK x y=(nI x y,0) from if_neg (fun h'=>h' h)]
  refine AQ.enter (Ar (by decide)) Tryz.func96 rfl (by kernel_rfl) (by simp [Tryz.ntmps96]) ?_
  repeat' (first|apply Ad.assoc|apply Ad.Aw|apply Ad.Aq|apply Ad.ret|apply Af.nil|apply Af.one|(apply Aa.fn;rfl;rfl;exact hb;intro _;rfl)|(apply Aa.fn;rfl;rfl;exact hs;intro _;rfl)|(apply Aa.assign;rfl)|(apply Aa.move;rfl)|(apply Aa.int;rfl;rfl;rfl)|(apply Aa.load;rfl;rfl)|(apply Aa.box;rfl;trivial)|(apply Ad.AU;rfl))
  all_goals first|(exfalso;omega)|(refine Done.ret rfl (.refl _) (by first|exact trivial|exact ⟨trivial,trivial,trivial⟩|exact ⟨trivial,trivial,trivial,trivial⟩) Ap.nil (Nat.zero_le _) (Nat.le_refl _) ⟨?_,rfl,rfl⟩;try rfl)
 ·rw [show BK x y=(0,bothR x y) from if_pos h]
  refine AQ.enter (Ar (by decide)) Tryz.func96 rfl (by kernel_rfl) (by simp [Tryz.ntmps96]) ?_
  repeat' (first|apply Ad.assoc|apply Ad.Aw|apply Ad.Bf|apply Af.nil|apply Af.one|(apply Aa.fn;rfl;rfl;exact hb;intro _;rfl)|(apply Aa.assign;rfl)|(apply Aa.move;rfl)|(apply Aa.int;rfl;rfl;rfl)|(apply Aa.load;rfl;rfl)|(apply Aa.box;rfl;trivial)|(apply Ad.Ae;rfl)|(intro _;try (exfalso;omega)))
  all_goals first|(exfalso;omega)|(refine Done.ret rfl (.refl _) (by first|exact trivial|exact ⟨trivial,trivial,trivial⟩|exact ⟨trivial,trivial,trivial,trivial⟩) Ap.nil (Nat.zero_le _) (Nat.le_refl _) ⟨?_,rfl,rfl⟩;try rfl)
end Go.Proofs.YtnhdddmhkhdlhaaGreatDoor
namespace Go.Proofs.YtnhdddmhkhdlhaaGreatDoor
open Go Go.Am Go.Vm
attribute [local irreducible] Aa Af Ak Ad Bv AQ BN AV AP Az Vm.Done Cb BH
structure Gs where
 name:List UInt8
 Ht:List UInt8
 Dn:Jv
 first:Int
 EC:List Int
instance:Enc Gs:={ default:=⟨[],[],⟨0,0⟩,0,[]⟩,enc:=fun r=>[.str (bs r.name),.str (bs r.Ht),.int .i64 r.Dn.num,.int .i64 r.Dn.den,.int .i64 r.first,.lst 3 (cells r.EC) r.EC.length],size:=6,len:=fun _=>rfl }
theorem PV.Jf {a b:Bool} (h:a=b):PV.p (.bool a)=PV.p (.bool b):=by rw [h]
def YC (x:Int):Prop:=x<0∨x>1000000
instance (x:Int):Decidable (YC x):=by unfold YC;infer_instance
theorem uM (x:Int):AQ env 99 [.int .i64 x] (.p (.bool (decide (YC x)))):=by
 refine AQ.enter (Ar (by decide)) Tryz.func99 rfl (by kernel_rfl) (by simp [Tryz.ntmps99]) ?_
 repeat' (first|apply Ad.Aw|apply Ad.ret|apply Af.nil|apply Af.one|(apply Af.take;rfl;rfl)|(apply Af.drop;rfl;rfl;rfl)|(apply Af.guard;rfl;rfl)|(apply Aa.assign;rfl)|(apply Aa.move;rfl)|(apply Aa.int;rfl;rfl;rfl)|(apply Aa.AZ;rfl;rfl)|(apply Aa.AB;rfl;rfl)|(intro _;try (exfalso;omega)))
 all_goals (refine Done.ret rfl (.refl _) (by first|exact trivial|exact ⟨trivial,trivial,trivial⟩|exact ⟨trivial,trivial,trivial,trivial⟩) Ap.nil (Nat.zero_le _) (Nat.le_refl _) ⟨?_,rfl,rfl⟩;refine PV.Jf ?_;first|(refine decide_eq_decide.2 ⟨fun h=>by unfold YC;omega,fun h=>by unfold YC at h;omega⟩)|(symm;apply decide_eq_true;unfold YC;omega))
def okW (l:List Int):Prop:=∀ i,i<l.length→¬ YC (gi l i)
noncomputable instance (l:List Int):Decidable (okW l):=Classical.propDecidable _
noncomputable def BZ (l:List Int):Int:=if okW l then 0 else 3
theorem yI {L:Vm.Frame} {H:Vm.Heap} {nx:Nat} {Q:PV→Vm.Heap→Nat→Prop} {dst:Option Tmp} {ty:TypeId} {pos:String} {af:Array Edge} {gd:Option (Nat×Bool)} {fo:Operand} {args:Array Operand} {aT:Array TypeId} {fs cs xs:List PV} {c:Code}
 (hf:BF env.Γ L fo=some (.clo 98 fs cs)) (ha:evs env.Γ L args.toList=some xs) (hb:Tryz.f98.body=some c) (hn:(fs++xs++cs).length≤Tryz.f98.ntmps)
 (h:Ad env nx c (DK 0 (fs++xs++cs)) H nx (BH env.P Tryz.f98.results.toList Q)):Aa env true ⟨dst,.call { callee:=.value fo,args:=args,argTypes:=aT },ty,pos,af,gd⟩ L H nx Q:=by
 have h0:(match Tryz.f98.body with|some c=>KO env.G Tryz.f98 c|none=>false)=true:=by kernel_rfl
 rw [hb] at h0
 exact Aa.inline rfl hf ha (Ar (by decide)) Tryz.func98 hb h0 hn h
theorem zI {L:Vm.Frame} {H:Vm.Heap} {nx:Nat} {Q:PV→Vm.Heap→Nat→Prop} {dst:Option Tmp} {ty:TypeId} {pos:String} {af:Array Edge} {gd:Option (Nat×Bool)} {fo:Operand} {args:Array Operand} {aT:Array TypeId} {fs cs xs:List PV} {c:Code}
 (hf:BF env.Γ L fo=some (.clo 120 fs cs)) (ha:evs env.Γ L args.toList=some xs) (hb:Tryz.f120.body=some c) (hn:(fs++xs++cs).length≤Tryz.f120.ntmps)
 (h:Ad env nx c (DK 0 (fs++xs++cs)) H nx (BH env.P Tryz.f120.results.toList Q)):Aa env true ⟨dst,.call { callee:=.value fo,args:=args,argTypes:=aT },ty,pos,af,gd⟩ L H nx Q:=by
 have h0:(match Tryz.f120.body with|some c=>KO env.G Tryz.f120 c|none=>false)=true:=by kernel_rfl
 rw [hb] at h0
 exact Aa.inline rfl hf ha (Ar (by decide)) Tryz.func120 hb h0 hn h
theorem dZ (l:List Int) (hl:l.length<9223372036854775808):AQ env 79 [.lst 3 (cells l) l.length] (.p (.int .i64 (BZ l))):=by
 refine AQ.enter (Ar (by decide)) Tryz.func79 rfl (by kernel_rfl) (by simp [Tryz.ntmps79]) ?_
 repeat' (first|apply Ad.assoc|apply Ad.Aw|apply Ad.Aj|apply Af.nil|apply Af.one|(apply yI;rfl;rfl;rfl;exact le_dec rfl)|(apply zI;rfl;rfl;rfl;exact le_dec rfl)|(apply Aa.assign;rfl)|(apply Aa.move;rfl)|(apply Aa.Bz;rfl;rfl))
 refine Ad.Ec (fun k:Nat=>[(0,lst 3 l),(1,.clo 99 [] []),(7,.p (.int .i64 (l.length:Int))),(8,.p (.int .i64 (k:Int)))]) (fun _=>[]) 0 (fun k=>k≤l.length∧∀ i,i<k→¬ YC (gi l i)) (fun k=>l.length-k) 0 (by omega) ⟨by omega,fun i hi=>by omega⟩ ⟨by omega,?_,?_⟩ ?_
 ·repeat (first|exact Ah.nil|refine Ah.same trivial rfl ?_|refine Ah.same (Ac rfl) rfl ?_|refine Ah.same ⟨trivial,Ac rfl,Ac rfl,Ac rfl,trivial⟩ rfl ?_|refine Ah.same ⟨trivial,Ac rfl,Ac rfl,trivial⟩ rfl ?_|refine Ah.same ⟨trivial,trivial⟩ rfl ?_|refine Ah.cons trivial rfl (.of_eq (AL (by simp<;>omega))) ?_)
 ·exact Ap.nil
 rintro k ⟨hk,hok⟩
 have hw:=uM (gi l k)
 repeat' (first|apply Ad.assoc|apply Ad.Aw|apply Ad.region|apply Ad.Aq|apply Ad.Bf|apply Ad.Bj|apply Ad.Aj|apply AV.normal|apply AV.ret|(apply BH.ret;rfl)|apply AP.normal|apply AP.ret|apply AP.exit|apply Az.ret|apply Az.exit|apply Ad.ret|apply Ad.skip|apply Af.nil|apply Af.one|(apply Aa.fn;rfl;rfl;exact hw;intro _;rfl)|(apply Aa.assign;rfl)|(apply Aa.move;rfl)|(apply Aa.BD;rfl;rfl;omega)|(apply Aa.int;rfl;rfl;rfl)|(apply Aa.AO;rfl;rfl;rfl;omega;rfl)|(apply Aa.load;rfl;rfl)|(apply Ad.Bq;rfl)|(apply Ad.AU;rfl)|(apply Ad.Ae;rfl)|(apply Ad.AX;rfl)|(intro _;try (exfalso;omega)))
 ·rename_i a1 a2
  rw [show BZ l=3 from if_neg (fun h=>h k (by omega) a2)]
  (refine Done.ret rfl (.refl _) (by first|exact trivial|exact ⟨trivial,trivial,trivial⟩|exact ⟨trivial,trivial,trivial,trivial⟩) Ap.nil (Nat.zero_le _) (Nat.le_refl _) ⟨?_,rfl,rfl⟩;try rfl)
 ·rename_i a1 a2
  refine Az.normal ⟨k+1,⟨by omega,fun i hi=>?_⟩,by omega,⟨by omega,?_,?_⟩⟩
  ·rcases Nat.lt_or_ge i k with h|h
   ·exact hok i h
   ·obtain rfl:i=k:=by omega
    exact a2
  ·repeat (first|exact Ah.nil|refine Ah.same trivial rfl ?_|refine Ah.same (Ac rfl) rfl ?_|refine Ah.same ⟨trivial,Ac rfl,Ac rfl,Ac rfl,trivial⟩ rfl ?_|refine Ah.same ⟨trivial,Ac rfl,Ac rfl,trivial⟩ rfl ?_|refine Ah.same ⟨trivial,trivial⟩ rfl ?_|refine Ah.cons trivial rfl (.of_eq (AL (by simp<;>omega))) ?_)
  ·exact Ap.nil
 ·rename_i a1
  rw [show BZ l=0 from if_pos (fun i hi=>hok i (by omega))]
  (refine Done.ret rfl (.refl _) (by first|exact trivial|exact ⟨trivial,trivial,trivial⟩|exact ⟨trivial,trivial,trivial,trivial⟩) Ap.nil (Nat.zero_le _) (Nat.le_refl _) ⟨?_,rfl,rfl⟩;try rfl)
def Y6 (c:Nat):Prop:=(65≤c∧c≤90)∨(97≤c∧c≤122)
instance (c:Nat):Decidable (Y6 c):=by unfold Y6;infer_instance
def zN (c:Nat):Prop:=Y6 c∨(48≤c∧c≤57)∨c=95
theorem TG (c:Nat) (hc:c<256):AQ env 76 [.int .u8 (c:Int)] (.p (.bool (decide (Y6 c)))):=by
 refine AQ.enter (Ar (by decide)) Tryz.func76 rfl (by kernel_rfl) (by simp [Tryz.ntmps76]) ?_
 repeat' (first|apply Ad.Aw|apply Ad.ret|apply Af.nil|apply Af.one|(apply Af.take;rfl;rfl)|(apply Af.drop;rfl;rfl;rfl)|(apply Af.guard;rfl;rfl)|(apply Af.iZ;rfl;rfl)|(apply Aa.assign;rfl)|(apply Aa.move;rfl)|(apply Aa.int;rfl;rfl;rfl)|(apply Aa.AZ;rfl;rfl)|(apply Aa.AB;rfl;rfl)|(intro _;try (exfalso;omega)))
 all_goals (refine Done.ret rfl (.refl _) (by first|exact trivial|exact ⟨trivial,trivial,trivial⟩|exact ⟨trivial,trivial,trivial,trivial⟩) Ap.nil (Nat.zero_le _) (Nat.le_refl _) ⟨?_,rfl,rfl⟩;refine PV.Jf ?_;first|(refine decide_eq_decide.2 ⟨fun h=>by unfold Y6;omega,fun h=>by unfold Y6 at h;omega⟩)|(symm;apply decide_eq_true;unfold Y6;omega)|(symm;apply decide_eq_false;unfold Y6;omega))
def Du (s:List UInt8):Prop:=0<s.length∧s.length≤32∧Y6 (gi s 0).toNat∧∀ i,1≤i→i<s.length→zN (gi s i).toNat
noncomputable instance (s:List UInt8):Decidable (Du s):=Classical.propDecidable _
theorem G7 (s:List UInt8) (hs:s.length<9223372036854775808):AQ env 45 [.str (bs s)] (.p (.bool (decide (Du s)))):=by
 have hl0:=TG (gi s 0).toNat (gi s 0).toNat_lt
 by_cases hz:s=[]
 ·subst hz
  rw [decide_eq_false (show ¬ Du [] from fun h=>absurd h.1 (by decide))]
  refine AQ.enter (Ar (by decide)) Tryz.func45 rfl (by kernel_rfl) (by simp [Tryz.ntmps45]) ?_
  repeat' (first|apply Ad.assoc|apply Ad.Aw|apply Ad.Bf|apply Af.nil|apply Af.one|(apply Af.drop;rfl;rfl;rfl)|(apply Aa.assign;rfl)|(apply Aa.move;rfl)|(apply Aa.AZ;rfl;rfl)|(apply Aa.eqS;rfl;rfl)|(apply Ad.Bq;rfl))
  all_goals first|(refine Done.ret rfl (.refl _) (by first|exact trivial|exact ⟨trivial,trivial,trivial⟩|exact ⟨trivial,trivial,trivial,trivial⟩) Ap.nil (Nat.zero_le _) (Nat.le_refl _) ⟨?_,rfl,rfl⟩;try rfl)|contradiction
 ·have hpos:0<s.length:=List.length_pos_iff.2 hz
  refine AQ.enter (Ar (by decide)) Tryz.func45 rfl (by kernel_rfl) (by simp [Tryz.ntmps45]) ?_
  by_cases h32:s.length≤32
  ·by_cases hL:Y6 (gi s 0).toNat
   ·rw [decide_eq_true hL] at hl0
    repeat' (first|apply Ad.assoc|apply Ad.Aw|apply Ad.Aq|apply Ad.Bf|apply Ad.Aj|apply Af.nil|apply Af.one|(apply Af.take;rfl;rfl)|(apply Af.drop;rfl;rfl;rfl)|(apply Af.guard;rfl;rfl)|(apply Aa.fn;rfl;rfl;exact hl0;intro _;rfl)|(apply Aa.Qu (i:=0);rfl;rfl;rfl;omega)|(apply Aa.assign;rfl)|(apply Aa.move;rfl)|(apply Aa.int;rfl;rfl;rfl)|(apply Aa.AZ;rfl;rfl)|(apply Aa.AB;rfl;rfl)|(apply Aa.JY;rfl;rfl)|(apply Aa.eqS;rfl;rfl)|(apply Aa.not;rfl)|(apply Ad.Bq;rfl)|(apply Ad.AU;rfl)|(intro _;try (exfalso;omega)))
    all_goals try (exfalso;omega)
    all_goals try contradiction
    refine Ad.Ec (fun k:Nat=>[(0,st s),(3,.p (.int .i64 (k:Int)))]) (fun _=>[]) 0 (fun k=>1≤k∧k≤s.length∧∀ i,1≤i→i<k→zN (gi s i).toNat) (fun k=>s.length-k) 1 (by omega) ⟨by omega,by omega,fun i h1 h2=>by omega⟩ ⟨by omega,?_,?_⟩ ?_
    ·repeat (first|exact Ah.nil|refine Ah.same trivial rfl ?_|refine Ah.same (Ac rfl) rfl ?_|refine Ah.same ⟨trivial,Ac rfl,Ac rfl,Ac rfl,trivial⟩ rfl ?_|refine Ah.same ⟨trivial,Ac rfl,Ac rfl,trivial⟩ rfl ?_|refine Ah.same ⟨trivial,trivial⟩ rfl ?_|refine Ah.cons trivial rfl (.of_eq (AL (by simp<;>omega))) ?_)
    ·exact Ap.nil
    rintro k ⟨hk1,hk2,hok⟩
    have hlk:=TG (gi s k).toNat (gi s k).toNat_lt
    have hc256:=(gi s k).toNat_lt
    have hnext:zN (gi s k).toNat→∀ i,1≤i→i<k+1→zN (gi s i).toNat:=fun h i h1 h2=>by
     rcases Nat.lt_or_ge i k with h3|h3
     ·exact hok i h1 h3
     ·obtain rfl:i=k:=by omega
      exact h
    have hbad:k<s.length→¬ zN (gi s k).toNat→decide (Du s)=false:=fun h1 h2=>decide_eq_false fun h=>h2 (h.2.2.2 k hk1 h1)
    by_cases hkl:k<s.length
    ·by_cases hLk:Y6 (gi s k).toNat
     ·rw [decide_eq_true hLk] at hlk
      repeat' (first|apply Ad.assoc|apply Ad.Aw|apply Ad.region|apply Ad.Aq|apply Ad.Aj|apply AV.normal|apply AP.normal|apply Ad.skip|apply Af.nil|apply Af.one|(apply Af.drop;rfl;rfl;rfl)|(apply Af.iZ;rfl;rfl)|(apply Aa.fn;rfl;rfl;exact hlk;intro _;rfl)|(apply Aa.assign;rfl)|(apply Aa.move;rfl)|(apply Aa.BD;rfl;rfl;omega)|(apply Aa.int;rfl;rfl;rfl)|(apply Aa.AB;rfl;rfl)|(apply Aa.JY;rfl;rfl)|(apply Aa.Qu;rfl;rfl;rfl;omega)|(apply Aa.not;rfl)|(apply Ad.Ae;rfl)|(apply Ad.cond_false;rfl)|(intro _;try (exfalso;omega)))
      all_goals try (exfalso;omega)
      refine Az.normal ⟨k+1,⟨by omega,by omega,hnext (.inl hLk)⟩,by omega,⟨by omega,?_,?_⟩⟩
      ·repeat (first|exact Ah.nil|refine Ah.same trivial rfl ?_|refine Ah.same (Ac rfl) rfl ?_|refine Ah.same ⟨trivial,Ac rfl,Ac rfl,Ac rfl,trivial⟩ rfl ?_|refine Ah.same ⟨trivial,Ac rfl,Ac rfl,trivial⟩ rfl ?_|refine Ah.same ⟨trivial,trivial⟩ rfl ?_|refine Ah.cons trivial rfl (.of_eq (AL (by simp<;>omega))) ?_)
      ·exact Ap.nil
     ·rw [decide_eq_false hLk] at hlk
      have hn1:zN (gi s k).toNat↔(48≤(gi s k).toNat∧(gi s k).toNat≤57)∨(gi s k).toNat=95:=⟨fun h=>h.resolve_left hLk,fun h=>.inr h⟩
      repeat' (first|apply Ad.assoc|apply Ad.Aw|apply Ad.region|apply Ad.Aq|apply Ad.Aj|apply AV.normal|apply AV.ret|apply AP.normal|apply AP.ret|apply Az.ret|apply Ad.ret|apply Ad.skip|apply Af.nil|apply Af.one|(apply Af.take;rfl;rfl)|(apply Af.drop;rfl;rfl;rfl)|(apply Af.guard;rfl;rfl)|(apply Aa.fn;rfl;rfl;exact hlk;intro _;rfl)|(apply Aa.assign;rfl)|(apply Aa.move;rfl)|(apply Aa.BD;rfl;rfl;omega)|(apply Aa.int;rfl;rfl;rfl)|(apply Aa.AZ;rfl;rfl)|(apply Aa.AB;rfl;rfl)|(apply Aa.JY;rfl;rfl)|(apply Aa.Qu;rfl;rfl;rfl;omega)|(apply Aa.not;rfl)|(apply Ad.Ae;rfl)|(apply Ad.cond_false;rfl)|(apply Ad.AX;rfl)|(intro _;try (exfalso;omega)))
      all_goals try (exfalso;omega)
      all_goals first
       |(rw [hbad hkl (fun h=>by have:=hn1.1 h;omega)];(refine Done.ret rfl (.refl _) (by first|exact trivial|exact ⟨trivial,trivial,trivial⟩|exact ⟨trivial,trivial,trivial,trivial⟩) Ap.nil (Nat.zero_le _) (Nat.le_refl _) ⟨?_,rfl,rfl⟩;try rfl);done)
       |(refine Az.normal ⟨k+1,⟨by omega,by omega,hnext (hn1.2 (by omega))⟩,by omega,⟨by omega,?_,Ap.nil⟩⟩;repeat (first|exact Ah.nil|refine Ah.same trivial rfl ?_|refine Ah.same (Ac rfl) rfl ?_|refine Ah.same ⟨trivial,Ac rfl,Ac rfl,Ac rfl,trivial⟩ rfl ?_|refine Ah.same ⟨trivial,Ac rfl,Ac rfl,trivial⟩ rfl ?_|refine Ah.same ⟨trivial,trivial⟩ rfl ?_|refine Ah.cons trivial rfl (.of_eq (AL (by simp<;>omega))) ?_))
    ·obtain rfl:k=s.length:=by omega
     rw [decide_eq_true (show Du s from ⟨hpos,h32,hL,fun i h1 h2=>hok i h1 h2⟩)]
     repeat' (first|apply Ad.assoc|apply Ad.Aw|apply Ad.Bj|apply AV.normal|apply AP.exit|apply Az.exit|apply Ad.ret|apply Af.nil|apply Af.one|(apply Aa.assign;rfl)|(apply Aa.move;rfl)|(apply Aa.int;rfl;rfl;rfl)|(apply Aa.JY;rfl;rfl)|(apply Ad.Ae;rfl)|(intro _;try (exfalso;omega)))
     all_goals first|(exfalso;omega)|(refine Done.ret rfl (.refl _) (by first|exact trivial|exact ⟨trivial,trivial,trivial⟩|exact ⟨trivial,trivial,trivial,trivial⟩) Ap.nil (Nat.zero_le _) (Nat.le_refl _) ⟨?_,rfl,rfl⟩;try rfl)
   ·rw [decide_eq_false (show ¬ Du s from fun h=>hL h.2.2.1)]
    rw [decide_eq_false hL] at hl0
    repeat' (first|apply Ad.assoc|apply Ad.Aw|apply Ad.Bf|apply Af.nil|apply Af.one|(apply Af.take;rfl;rfl)|(apply Af.drop;rfl;rfl;rfl)|(apply Af.guard;rfl;rfl)|(apply Aa.fn;rfl;rfl;exact hl0;intro _;rfl)|(apply Aa.Qu (i:=0);rfl;rfl;rfl;omega)|(apply Aa.assign;rfl)|(apply Aa.move;rfl)|(apply Aa.int;rfl;rfl;rfl)|(apply Aa.AZ;rfl;rfl)|(apply Aa.AB;rfl;rfl)|(apply Aa.JY;rfl;rfl)|(apply Aa.eqS;rfl;rfl)|(apply Aa.not;rfl)|(apply Ad.Bq;rfl)|(intro _;try (exfalso;omega)))
    all_goals first|(exfalso;omega)|contradiction|(refine Done.ret rfl (.refl _) (by first|exact trivial|exact ⟨trivial,trivial,trivial⟩|exact ⟨trivial,trivial,trivial,trivial⟩) Ap.nil (Nat.zero_le _) (Nat.le_refl _) ⟨?_,rfl,rfl⟩;try rfl)
  ·rw [decide_eq_false (show ¬ Du s from fun h=>h32 h.2.1)]
   repeat' (first|apply Ad.assoc|apply Ad.Aw|apply Ad.Bf|apply Af.nil|apply Af.one|(apply Af.take;rfl;rfl)|(apply Af.drop;rfl;rfl;rfl)|(apply Af.guard;rfl;rfl)|(apply Aa.assign;rfl)|(apply Aa.move;rfl)|(apply Aa.int;rfl;rfl;rfl)|(apply Aa.AZ;rfl;rfl)|(apply Aa.AB;rfl;rfl)|(apply Aa.JY;rfl;rfl)|(apply Aa.eqS;rfl;rfl)|(apply Ad.Bq;rfl)|(intro _;try (exfalso;omega)))
   all_goals first|(exfalso;omega)|contradiction|(refine Done.ret rfl (.refl _) (by first|exact trivial|exact ⟨trivial,trivial,trivial⟩|exact ⟨trivial,trivial,trivial,trivial⟩) Ap.nil (Nat.zero_le _) (Nat.le_refl _) ⟨?_,rfl,rfl⟩;try rfl)
noncomputable def Dc (r:Gs):Int:=if ¬ Du r.name∨¬ Du r.Ht then 8 else if NJ r.Dn≠0 then NJ r.Dn else if r.first< -256∨r.first>256 then 3 else if r.EC.length=0 then 13 else if r.EC.length>128 then 4 else BZ r.EC
def Nk (n:Int):Prop:=-256≤n∧n≤256
instance (n:Int):Decidable (Nk n):=by unfold Nk;infer_instance
theorem dB (n:Int):AQ env 78 [.int .i64 n] (.p (.bool (decide (Nk n)))):=by
 refine AQ.enter (Ar (by decide)) Tryz.func78 rfl (by kernel_rfl) (by simp [Tryz.ntmps78]) ?_
 repeat' (first|apply Ad.Aw|apply Ad.ret|apply Af.nil|apply Af.one|(apply Af.take;rfl;rfl)|(apply Af.drop;rfl;rfl;rfl)|(apply Af.guard;rfl;rfl)|(apply Aa.assign;rfl)|(apply Aa.move;rfl)|(apply Aa.int;rfl;rfl;rfl)|(apply Aa.AZ;rfl;rfl)|(apply Aa.AB;rfl;rfl)|(intro _;try (exfalso;omega)))
 all_goals (refine Done.ret rfl (.refl _) (by first|exact trivial|exact ⟨trivial,trivial,trivial⟩|exact ⟨trivial,trivial,trivial,trivial⟩) Ap.nil (Nat.zero_le _) (Nat.le_refl _) ⟨?_,rfl,rfl⟩;refine PV.Jf ?_;first|(refine decide_eq_decide.2 ⟨fun h=>by unfold Nk;omega,fun h=>by unfold Nk at h;omega⟩)|(symm;apply decide_eq_false;unfold Nk;omega))
theorem Tc (r:Gs) (h1:r.name.length<9223372036854775808) (h2:r.Ht.length<9223372036854775808) (h3:r.EC.length<9223372036854775808):AQ env 46 [.agg (Enc.enc r)] (.p (.int .i64 (Dc r))):=by
 have n1:=G7 r.name h1
 have n2:=G7 r.Ht h2
 have p1:=J5 r.Dn
 have f1:=dB r.first
 have w1:=dZ r.EC h3
 unfold Dc
 refine AQ.enter (Ar (by decide)) Tryz.func46 rfl (by kernel_rfl) (by simp [Tryz.ntmps46]) ?_
 by_cases a1:Du r.name
 ·rw [decide_eq_true a1] at n1
  by_cases a2:Du r.Ht
  ·rw [decide_eq_true a2] at n2
   rw [if_neg (fun h=>h.elim (fun h=>h a1) (fun h=>h a2))]
   by_cases a3:Nk r.first
   ·rw [decide_eq_true a3] at f1
    unfold Nk at a3
    repeat' (first|apply Ad.assoc|apply Ad.Aw|apply Ad.Aq|apply Ad.Bf|apply Ad.Aj|apply AV.normal|apply AV.ret|apply AP.normal|apply AP.ret|apply Ad.ret|apply Ad.skip|apply Af.nil|apply Af.one|(apply Af.take;rfl;rfl)|(apply Aa.fn;rfl;rfl;exact n1;intro _;rfl)|(apply Aa.fn;rfl;rfl;exact n2;intro _;rfl)|(apply Aa.fn;rfl;rfl;exact p1;intro _;rfl)|(apply Aa.fn;rfl;rfl;exact f1;intro _;rfl)|(apply Aa.fn;rfl;rfl;exact w1;intro _;rfl)|(apply Aa.assign;rfl)|(apply Aa.move;rfl)|(apply Aa.int;rfl;rfl;rfl)|(apply Aa.load;rfl;rfl)|(apply Aa.AB;rfl;rfl)|(apply Aa.Bz;rfl;rfl)|(apply Aa.AA;rfl;rfl;rfl)|(apply Aa.box;rfl;trivial)|(apply Aa.not;rfl)|(apply Ad.AU;rfl)|(apply Ad.Ae;rfl)|(apply Ad.cond_false;rfl)|(apply Ad.AX;rfl)|(intro _;try (exfalso;omega)))
    all_goals first
     |(rw [if_pos (by assumption)];(refine Done.ret rfl (.refl _) (by first|exact trivial|exact ⟨trivial,trivial,trivial⟩|exact ⟨trivial,trivial,trivial,trivial⟩) Ap.nil (Nat.zero_le _) (Nat.le_refl _) ⟨?_,rfl,rfl⟩;try rfl);done)
     |(rw [if_neg (by assumption),if_neg (by omega),if_pos (by omega)];(refine Done.ret rfl (.refl _) (by first|exact trivial|exact ⟨trivial,trivial,trivial⟩|exact ⟨trivial,trivial,trivial,trivial⟩) Ap.nil (Nat.zero_le _) (Nat.le_refl _) ⟨?_,rfl,rfl⟩;try rfl);done)
     |(rw [if_neg (by assumption),if_neg (by omega),if_neg (by omega),if_pos (by omega)];(refine Done.ret rfl (.refl _) (by first|exact trivial|exact ⟨trivial,trivial,trivial⟩|exact ⟨trivial,trivial,trivial,trivial⟩) Ap.nil (Nat.zero_le _) (Nat.le_refl _) ⟨?_,rfl,rfl⟩;try rfl);done)
     |(rw [if_neg (by assumption),if_neg (by omega),if_neg (by omega),if_neg (by omega)];(refine Done.ret rfl (.refl _) (by first|exact trivial|exact ⟨trivial,trivial,trivial⟩|exact ⟨trivial,trivial,trivial,trivial⟩) Ap.nil (Nat.zero_le _) (Nat.le_refl _) ⟨?_,rfl,rfl⟩;try rfl);done)
   ·rw [decide_eq_false a3] at f1
    unfold Nk at a3
    repeat' (first|apply Ad.assoc|apply Ad.Aw|apply Ad.Aq|apply Ad.Bf|apply Ad.Aj|apply AV.ret|apply AP.ret|apply Ad.ret|apply Af.nil|apply Af.one|(apply Af.take;rfl;rfl)|(apply Aa.fn;rfl;rfl;exact n1;intro _;rfl)|(apply Aa.fn;rfl;rfl;exact n2;intro _;rfl)|(apply Aa.fn;rfl;rfl;exact p1;intro _;rfl)|(apply Aa.fn;rfl;rfl;exact f1;intro _;rfl)|(apply Aa.assign;rfl)|(apply Aa.move;rfl)|(apply Aa.int;rfl;rfl;rfl)|(apply Aa.load;rfl;rfl)|(apply Aa.AB;rfl;rfl)|(apply Aa.AA;rfl;rfl;rfl)|(apply Aa.box;rfl;trivial)|(apply Aa.not;rfl)|(apply Ad.AU;rfl)|(apply Ad.Ae;rfl)|(apply Ad.cond_true;rfl)|(intro _;try (exfalso;omega)))
    all_goals first
     |(rw [if_pos (by assumption)];(refine Done.ret rfl (.refl _) (by first|exact trivial|exact ⟨trivial,trivial,trivial⟩|exact ⟨trivial,trivial,trivial,trivial⟩) Ap.nil (Nat.zero_le _) (Nat.le_refl _) ⟨?_,rfl,rfl⟩;try rfl);done)
     |(rw [if_neg (by assumption),if_pos (by omega)];(refine Done.ret rfl (.refl _) (by first|exact trivial|exact ⟨trivial,trivial,trivial⟩|exact ⟨trivial,trivial,trivial,trivial⟩) Ap.nil (Nat.zero_le _) (Nat.le_refl _) ⟨?_,rfl,rfl⟩;try rfl);done)
  ·rw [decide_eq_false a2] at n2
   rw [if_pos (.inr a2)]
   repeat' (first|apply Ad.assoc|apply Ad.Aw|apply Ad.Bf|apply Af.nil|apply Af.one|(apply Af.take;rfl;rfl)|(apply Aa.fn;rfl;rfl;exact n1;intro _;rfl)|(apply Aa.fn;rfl;rfl;exact n2;intro _;rfl)|(apply Aa.assign;rfl)|(apply Aa.move;rfl)|(apply Aa.load;rfl;rfl)|(apply Aa.AB;rfl;rfl)|(apply Aa.AA;rfl;rfl;rfl)|(apply Aa.box;rfl;trivial)|(apply Aa.not;rfl)|(apply Ad.Bq;rfl))
   all_goals (refine Done.ret rfl (.refl _) (by first|exact trivial|exact ⟨trivial,trivial,trivial⟩|exact ⟨trivial,trivial,trivial,trivial⟩) Ap.nil (Nat.zero_le _) (Nat.le_refl _) ⟨?_,rfl,rfl⟩;try rfl)
 ·rw [decide_eq_false a1] at n1
  rw [if_pos (.inl a1)]
  repeat' (first|apply Ad.assoc|apply Ad.Aw|apply Ad.Bf|apply Af.nil|apply Af.one|(apply Af.drop;rfl;rfl;rfl)|(apply Aa.fn;rfl;rfl;exact n1;intro _;rfl)|(apply Aa.assign;rfl)|(apply Aa.move;rfl)|(apply Aa.load;rfl;rfl)|(apply Aa.AZ;rfl;rfl)|(apply Aa.AA;rfl;rfl;rfl)|(apply Aa.box;rfl;trivial)|(apply Aa.not;rfl)|(apply Ad.Bq;rfl))
  all_goals (refine Done.ret rfl (.refl _) (by first|exact trivial|exact ⟨trivial,trivial,trivial⟩|exact ⟨trivial,trivial,trivial,trivial⟩) Ap.nil (Nat.zero_le _) (Nat.le_refl _) ⟨?_,rfl,rfl⟩;try rfl)
end Go.Proofs.YtnhdddmhkhdlhaaGreatDoor
namespace Go.Proofs.YtnhdddmhkhdlhaaGreatDoor
open Go Go.Am Go.Vm
structure bY where
 rank:Int
 shift:Int
instance:Enc bY:={ default:=⟨0,0⟩,enc:=fun x=>[.int .i64 x.rank,.int .i64 x.shift],size:=2,len:=fun _=>rfl }
structure Seg where
 lo:Int
 hi:Int
 draws:List bY
instance:Enc Seg:={ default:=⟨0,0,[]⟩,enc:=fun x=>[.int .i64 x.lo,.int .i64 x.hi,.lst 192 (cells x.draws) x.draws.length],size:=3,len:=fun _=>rfl }
structure Stp where
 name:List UInt8
 Dn:Jv
 Hg:List Seg
instance:Enc Stp:={ default:=⟨[],⟨0,0⟩,[]⟩,enc:=fun x=>[.str (bs x.name),.int .i64 x.Dn.num,.int .i64 x.Dn.den,.lst 195 (cells x.Hg) x.Hg.length],size:=4,len:=fun _=>rfl }
structure Y3 where
 name:List UInt8
 Xo:Bool
 lo:Int
 hi:Int
 stops:List Stp
instance:Enc Y3:={ default:=⟨[],false,0,0,[]⟩,enc:=fun x=>[.str (bs x.name),.bool x.Xo,.int .i64 x.lo,.int .i64 x.hi,.lst 127 (cells x.stops) x.stops.length],size:=5,len:=fun _=>rfl }
structure YL where
 name:List UInt8
 RD:Int
 tgt:Int
 shift:Int
 through:Bool
instance:Enc YL:={ default:=⟨[],0,0,0,false⟩,enc:=fun x=>[.str (bs x.name),.int .i64 x.RD,.int .i64 x.tgt,.int .i64 x.shift,.bool x.through],size:=5,len:=fun _=>rfl }
structure EN where
 name:List UInt8
 ranks:List Gs
 Au:List Y3
 GN:List YL
instance:Enc EN:={ default:=⟨[],[],[],[]⟩,enc:=fun x=>[.str (bs x.name),.lst 123 (cells x.ranks) x.ranks.length,.lst 111 (cells x.Au) x.Au.length,.lst 129 (cells x.GN) x.GN.length],size:=4,len:=fun _=>rfl }
structure Yf where
 lo:Int
 hi:Int
instance:Enc Yf:={ default:=⟨0,0⟩,enc:=fun x=>[.int .i64 x.lo,.int .i64 x.hi],size:=2,len:=fun _=>rfl }
noncomputable instance (a b:bY):Decidable (a=b):=Classical.propDecidable _
noncomputable instance (a:bY) (l:List bY):Decidable (a∈l):=Classical.propDecidable _
noncomputable instance (a:List UInt8) (l:List (List UInt8)):Decidable (a∈l):=Classical.propDecidable _
def RZ (lo hi:Int):Int:=if lo<0∨hi>127 then 3 else if lo>hi then 23 else 0
noncomputable def OG (n:Nat) (l:List bY) (k:Nat):Int :=
 if k<l.length then
  if (gi l k).rank<0∨(gi l k).rank≥n then 10 else if (gi l k).shift< -127∨(gi l k).shift>127 then 3 else if gi l k∈l.take k then 9 else OG n l (k+1)
 else 0
termination_by l.length-k
noncomputable def Rn (n:Nat) (l:List bY):Int:=if l.length>8 then 4 else OG n l 0
noncomputable def KG (n:Nat) (lo hi:Int) (l:List Seg) (k:Nat):Int :=
 if k<l.length then
  if min (gi l k).lo (gi l k).hi<lo∨max (gi l k).lo (gi l k).hi>hi then 23 else if (gi l k).lo>(gi l k).hi∨0<k∧(gi l k).lo≤(gi l (k-1)).hi then 6
  else if Rn n (gi l k).draws≠0 then Rn n (gi l k).draws else KG n lo hi l (k+1)
 else 0
termination_by l.length-k
noncomputable def uw (n:Nat) (lo hi:Int) (s:Stp):Int :=
 if ¬ Du s.name then 8 else if NJ s.Dn≠0 then NJ s.Dn else if s.Hg.length=0 then 13 else if s.Hg.length>12 then 4 else KG n lo hi s.Hg 0
noncomputable def VR (l:List Gs) (k:Nat):Int :=
 if k<l.length then if Dc (gi l k)≠0 then Dc (gi l k) else VR l (k+1) else 0
termination_by l.length-k
noncomputable def bU (l:List Gs) (lo hi:Int):Int:=if l.length>60 then 4 else if VR l 0≠0 then VR l 0 else RZ lo hi
noncomputable def EL (rk:List Gs) (lo hi:Int) (s:Stp):Int:=if bU rk lo hi≠0 then bU rk lo hi else uw rk.length lo hi s
noncomputable def MS (l:List Gs) (k:Nat):Int :=
 if k<l.length then if Dc (gi l k)≠0 then Dc (gi l k) else if (gi l k).name∈(l.take k).map Gs.name then 9 else MS l (k+1) else 0
termination_by l.length-k
noncomputable def OD (rk:List Gs) (lo hi:Int) (l:List Stp) (k:Nat):Int :=
 if k<l.length then if EL rk lo hi (gi l k)≠0 then EL rk lo hi (gi l k) else if (gi l k).name∈(l.take k).map Stp.name then 9 else OD rk lo hi l (k+1) else 0
termination_by l.length-k
noncomputable def ES (rk:List Gs) (d:Y3):Int:=if RZ d.lo d.hi≠0 then RZ d.lo d.hi else if d.stops.length>60 then 4 else OD rk d.lo d.hi d.stops 0
noncomputable def F5 (rk:List Gs) (l:List Y3) (k:Nat):Int :=
 if k<l.length then if ¬ Du (gi l k).name then 8 else if (gi l k).name∈(l.take k).map Y3.name then 9 else if ES rk (gi l k)≠0 then ES rk (gi l k) else F5 rk l (k+1) else 0
termination_by l.length-k
noncomputable def OA (n:Nat) (l:List YL) (k:Nat):Int :=
 if k<l.length then
  if ¬ Du (gi l k).name then 8 else if (gi l k).name∈(l.take k).map YL.name then 9
  else if (gi l k).RD<0∨(gi l k).RD≥n∨(gi l k).tgt<0∨(gi l k).tgt≥n then 10
  else if (gi l k).shift< -127∨(gi l k).shift>127 then 3 else if (gi l k).RD=(gi l k).tgt∧(gi l k).shift=0 then 7 else OA n l (k+1)
 else 0
termination_by l.length-k
noncomputable def Pv (l:List Yf) (k:Nat):Int:=if k<l.length then if RZ (gi l k).lo (gi l k).hi≠0 then 23 else Pv l (k+1) else 0
termination_by l.length-k
noncomputable def Gj (ks:List Yf) (l:List YL):Int:=if ks.length>8∨l.length>40 then 4 else if Pv ks 0≠0 then Pv ks 0 else OA ks.length l 0
noncomputable def Q5 (o:EN):Int :=
 if ¬ Du o.name then 8 else if o.ranks.length>60 then 4 else if MS o.ranks 0≠0 then MS o.ranks 0 else if o.Au.length=0 then 13 else if o.Au.length>8 then 4
 else if F5 o.ranks o.Au 0≠0 then F5 o.ranks o.Au 0 else Gj (o.Au.map fun d=>⟨d.lo,d.hi⟩) o.GN
structure a0h (x:Seg):Prop where
 draws:x.draws.length<1000000
structure Xm (x:Stp):Prop where
 name:x.name.length<1000000
 Hg:x.Hg.length<1000000
 all:∀ i,i<x.Hg.length→a0h (gi x.Hg i)
structure xP (x:Y3):Prop where
 name:x.name.length<1000000
 stops:x.stops.length<1000000
 all:∀ i,i<x.stops.length→Xm (gi x.stops i)
structure Vx (r:Gs):Prop where
 name:r.name.length<1000000
 Ht:r.Ht.length<1000000
 EC:r.EC.length<1000000
structure Ic (o:EN):Prop where
 name:o.name.length<1000000
 ranks:o.ranks.length<1000000
 Au:o.Au.length<1000000
 GN:o.GN.length<1000000
 rk:∀ i,i<o.ranks.length→Vx (gi o.ranks i)
 dv:∀ i,i<o.Au.length→xP (gi o.Au i)
 cp:∀ i,i<o.GN.length→(gi o.GN i).name.length<1000000
theorem Vx.len {r:Gs} (h:Vx r):r.name.length<9223372036854775808∧r.Ht.length<9223372036854775808∧r.EC.length<9223372036854775808:=⟨by have:=h.name;omega,by have:=h.Ht;omega,by have:=h.EC;omega⟩
end Go.Proofs.YtnhdddmhkhdlhaaGreatDoor
namespace Go.Proofs.YtnhdddmhkhdlhaaGreatDoor
open Go Go.Am Go.Vm
theorem XQ {l:List Gs} (h:∀ i,i<l.length→Dc (gi l i)=0):∀ n k,l.length-k=n→VR l k=0
 |0,k,hk=>by rw [VR,if_neg (by omega)]
 |n+1,k,hk=>by
  rw [VR,if_pos (by omega),if_neg (fun h'=>h' (h k (by omega)))]
  exact XQ h n (k+1) (by omega)
theorem RY {l:List Gs} (h:∀ i,i<l.length→Dc (gi l i)=0∧(gi l i).name∉(l.take i).map Gs.name):∀ n k,l.length-k=n→MS l k=0
 |0,k,hk=>by rw [MS,if_neg (by omega)]
 |n+1,k,hk=>by
  obtain ⟨h1,h2⟩:=h k (by omega)
  rw [MS,if_pos (by omega),if_neg (fun h'=>h' h1),if_neg h2]
  exact RY h n (k+1) (by omega)
theorem Pj {rk:List Gs} {lo hi:Int} {l:List Stp} (h:∀ i,i<l.length→EL rk lo hi (gi l i)=0∧(gi l i).name∉(l.take i).map Stp.name):∀ n k,l.length-k=n→OD rk lo hi l k=0
 |0,k,hk=>by rw [OD,if_neg (by omega)]
 |n+1,k,hk=>by
  obtain ⟨h1,h2⟩:=h k (by omega)
  rw [OD,if_pos (by omega),if_neg (fun h'=>h' h1),if_neg h2]
  exact Pj h n (k+1) (by omega)
theorem OY {rk:List Gs} {l:List Y3} (h:∀ i,i<l.length→Du (gi l i).name∧(gi l i).name∉(l.take i).map Y3.name∧ES rk (gi l i)=0):∀ n k,l.length-k=n→F5 rk l k=0
 |0,k,hk=>by rw [F5,if_neg (by omega)]
 |n+1,k,hk=>by
  obtain ⟨h1,h2,h3⟩:=h k (by omega)
  rw [F5,if_pos (by omega),if_neg (fun h'=>h' h1),if_neg h2,if_neg (fun h'=>h' h3)]
  exact OY h n (k+1) (by omega)
theorem QW {l:List Yf} (h:∀ i,i<l.length→RZ (gi l i).lo (gi l i).hi=0):∀ n k,l.length-k=n→Pv l k=0
 |0,k,hk=>by rw [Pv,if_neg (by omega)]
 |n+1,k,hk=>by
  rw [Pv,if_pos (by omega),if_neg (fun h'=>h' (h k (by omega)))]
  exact QW h n (k+1) (by omega)
structure tK (n:Nat) (c:YL):Prop where
 name:Du c.name
 RD:0≤c.RD∧c.RD<n
 tgt:0≤c.tgt∧c.tgt<n
 shift:-127≤c.shift∧c.shift≤127
 form:¬ (c.RD=c.tgt∧c.shift=0)
theorem OW {m:Nat} {l:List YL} (h:∀ i,i<l.length→tK m (gi l i)∧(gi l i).name∉(l.take i).map YL.name):∀ n k,l.length-k=n→OA m l k=0
 |0,k,hk=>by rw [OA,if_neg (by omega)]
 |n+1,k,hk=>by
  obtain ⟨⟨h1,h2,h3,h4,h5⟩,h6⟩:=h k (by omega)
  rw [OA,if_pos (by omega),if_neg (fun h'=>h' h1),if_neg h6,if_neg (by omega),if_neg (by omega),if_neg h5]
  exact OW h n (k+1) (by omega)
structure SB (n:Nat) (d:bY):Prop where
 rank:0≤d.rank∧d.rank<n
 shift:-127≤d.shift∧d.shift≤127
theorem Po {m:Nat} {l:List bY} (h:∀ i,i<l.length→SB m (gi l i)∧gi l i∉l.take i):∀ n k,l.length-k=n→OG m l k=0
 |0,k,hk=>by rw [OG,if_neg (by omega)]
 |n+1,k,hk=>by
  obtain ⟨⟨h1,h2⟩,h3⟩:=h k (by omega)
  rw [OG,if_pos (by omega),if_neg (by omega),if_neg (by omega),if_neg h3]
  exact Po h n (k+1) (by omega)
theorem H7 {m:Nat} {d:bY} (h:SB m d):Rn m [d]=0:=by
 unfold Rn
 rw [if_neg (by simp)]
 exact Po (fun i hi=>by
  obtain rfl:i=0:=by simp at hi;omega
  exact ⟨h,by simp⟩) _ 0 rfl
theorem qA {m:Nat} {d e:bY} (h:SB m d) (h':SB m e) (hn:e≠d):Rn m [d,e]=0:=by
 unfold Rn
 rw [if_neg (by simp)]
 refine Po (fun i hi=>?_) _ 0 rfl
 have:i=0∨i=1:=by simp at hi;omega
 rcases this with rfl|rfl
 ·exact ⟨h,by simp⟩
 ·exact ⟨h',by simpa [gi] using hn⟩
theorem Ji {lo hi:Int} (h:0≤lo∧lo≤hi∧hi≤127):RZ lo hi=0:=by
 unfold RZ
 rw [if_neg (by omega),if_neg (by omega)]
theorem Xu {l:List Gs} {lo hi:Int} (h:∀ i,i<l.length→Dc (gi l i)=0) (hl:l.length≤60) (hc:0≤lo∧lo≤hi∧hi≤127):bU l lo hi=0:=by
 unfold bU
 rw [if_neg (by omega),if_neg (fun h'=>h' (XQ h _ 0 rfl)),Ji hc]
structure a0u (n:Nat) (lo hi:Int) (g:Seg):Prop where
 pl:lo≤g.lo∧g.lo≤g.hi∧g.hi≤hi
 draws:Rn n g.draws=0
theorem OV {m:Nat} {lo hi:Int} {l:List Seg} (h:∀ i,i<l.length→a0u m lo hi (gi l i)∧(0<i→(gi l (i-1)).hi<(gi l i).lo)):∀ n k,l.length-k=n→KG m lo hi l k=0
 |0,k,hk=>by rw [KG,if_neg (by omega)]
 |n+1,k,hk=>by
  obtain ⟨⟨h1,h2⟩,h3⟩:=h k (by omega)
  rw [KG,if_pos (by omega),if_neg (by omega),if_neg (fun h'=>by
   rcases h' with h'|⟨h4,h5⟩
   ·omega
   ·have:=h3 h4;omega),if_neg (fun h'=>h' h2)]
  exact OV h n (k+1) (by omega)
theorem Jl {n:Nat} {lo hi:Int} {s:Seg} (h1:lo≤s.lo∧s.lo≤s.hi∧s.hi≤hi) (h2:Rn n s.draws=0):KG n lo hi [s] 0=0 :=
 OV (fun i hi=>by
  obtain rfl:i=0:=by simp at hi;omega
  exact ⟨⟨h1,h2⟩,fun h=>by omega⟩) _ 0 rfl
theorem Xh {n:Nat} {lo hi:Int} {s t:Seg} (h1:lo≤s.lo∧s.lo≤s.hi∧s.hi<t.lo∧t.lo≤t.hi∧t.hi≤hi) (h2:Rn n s.draws=0) (h3:Rn n t.draws=0):KG n lo hi [s,t] 0=0 :=
 OV (fun i hi=>by
  have:i=0∨i=1:=by simp at hi;omega
  rcases this with rfl|rfl
  ·exact ⟨⟨⟨h1.1,h1.2.1,show s.hi≤_ by omega⟩,h2⟩,fun h=>by omega⟩
  ·exact ⟨⟨⟨show lo≤t.lo by omega,h1.2.2.2⟩,h3⟩,fun _=>h1.2.2.1⟩) _ 0 rfl
def LM (c:UInt8) (i:Int):List UInt8:=[c,UInt8.ofNat (48+i).toNat]
theorem uH {c:UInt8} {i j:Nat} (hi:i<10) (hj:j<10) (h:LM c i=LM c j):i=j:=by
 simp only [LM,List.cons.injEq,and_true,true_and] at h
 have:=congrArg UInt8.toNat h
 rw [UInt8.toNat_ofNat',UInt8.toNat_ofNat'] at this
 omega
theorem dU {c:UInt8} (hc:Y6 c.toNat) {i:Nat} (hi:i<10):Du (LM c i):=by
 refine ⟨by simp [LM],by simp [LM],hc,fun j h1 h2=>?_⟩
 obtain rfl:j=1:=by simp [LM] at h2;omega
 have e:(gi (LM c i) 1).toNat=48+i:=by
  show (UInt8.ofNat (48+(i:Int)).toNat).toNat=_
  rw [UInt8.toNat_ofNat'];omega
 rw [e]
 right;left;omega
theorem Yt {α:Type} [Inhabited α] {f:α→List UInt8} {c:UInt8} {l:List α} (hl:l.length≤10) (h:∀ i,i<l.length→f (gi l i)=LM c i) {k:Nat} (hk:k<l.length):f (gi l k)∉(l.take k).map f:=by
 intro hm
 rw [List.mem_map] at hm
 obtain ⟨a,ha,he⟩:=hm
 obtain ⟨j,hj,e⟩:=List.getElem_of_mem ha
 rw [List.length_take] at hj
 have e2:a=gi l j:=by
  rw [← e,List.getElem_take]
  simp [gi,List.getElem?_eq_getElem (show j<l.length by omega)]
 rw [e2,h j (by omega),h k hk] at he
 have:=uH (by omega) (by omega) he
 omega
end Go.Proofs.YtnhdddmhkhdlhaaGreatDoor
namespace Go.Proofs.YtnhdddmhkhdlhaaGreatDoor
open Go Go.Am Go.Vm
attribute [local irreducible] Aa Af Ak Ad Bv AQ BN AV AP Az Vm.Done Cb BH VUn
end Go.Proofs.YtnhdddmhkhdlhaaGreatDoor
namespace Go.Proofs.YtnhdddmhkhdlhaaGreatDoor
open Go Go.Am Go.Vm
attribute [local irreducible] Aa Af Ak Ad Bv AQ BN AV AP Az Vm.Done Cb BH
attribute [local irreducible] Dc BZ nI BK
def a4i (r:Gs):Prop:=r.name.length<9223372036854775808∧r.Ht.length<9223372036854775808∧r.EC.length<9223372036854775808
noncomputable def TQ (r:Gs) (n:Int):Int:=if Dc r≠0 then Dc r else if n<0∨n≥r.EC.length then 10 else 0
def Jo:FV:=.agg [.str ⟨#[]⟩,.str ⟨#[]⟩,.int .i64 0,.int .i64 0,.int .i64 0,.val (.slice none 0 0)]
def vH (r:Gs) (n:Int) (w:List Int):FV×Int:=if w.length>128 then (Jo,4) else if ¬ Nk n then (Jo,3) else (.agg (Enc.enc { r with first:=n,EC:=w }),0)
noncomputable def a3p (r:Gs) (k:Int):Int×Bool×Int:=if TQ r k≠0 then (0,false,TQ r k) else if (BK r.Dn ⟨8,1⟩).2≠0∨r.first+k+(BK r.Dn ⟨8,1⟩).1<0∨r.first+k+(BK r.Dn ⟨8,1⟩).1>127 then (0,false,(BK r.Dn ⟨8,1⟩).2) else (r.first+k+(BK r.Dn ⟨8,1⟩).1,true,0)
end Go.Proofs.YtnhdddmhkhdlhaaGreatDoor
namespace Go.Proofs.YtnhdddmhkhdlhaaGreatDoor
open Go Go.Am Go.Vm
attribute [local irreducible] Aa Af Ak Ad Bv AQ BN AV AP Az Vm.Done Cb BH
attribute [local irreducible] Dc BZ nI BK
noncomputable def a3z (r:Gs) (n:Int):Int×Bool×Int:=if Dc r≠0 then (0,false,Dc r) else if n<r.first∨n≥r.first+r.EC.length then (0,false,0) else (n-r.first,true,0)
noncomputable def a3r (r:Gs) (w:List Int):FV×Int:=if Dc r≠0 then (Jo,Dc r) else if BZ w≠0 then (Jo,BZ w) else vH r (r.first-w.length) (w++r.EC)
noncomputable def a2g (r:Gs) (f:Jv):FV×Int:=if Dc r≠0 then (Jo,Dc r) else if (BK f r.Dn).2≠0 then (Jo,(BK f r.Dn).2) else if Nk (r.first-(BK f r.Dn).1) then (.agg (Enc.enc { r with first:=r.first-(BK f r.Dn).1,Dn:=f }),0) else (Jo,3)
end Go.Proofs.YtnhdddmhkhdlhaaGreatDoor
namespace Go.Proofs.YtnhdddmhkhdlhaaGreatDoor
open Go Go.Am Go.Vm
attribute [local irreducible] Aa Af Ak Ad Bv AQ BN AV AP Az Vm.Done Cb BH
attribute [local irreducible] Dc BZ nI BK TQ
noncomputable def a7g (r:Gs) (n:Int):Int×Int:=if TQ r n≠0 then (0,TQ r n) else (r.first+n,0)
noncomputable def a6e (r:Gs) (n:Int):Int×Int:=if TQ r n≠0 then (0,TQ r n) else (gi r.EC n.toNat,0)
noncomputable def a6o (r:Gs) (w:List Int):FV×Int:=if Dc r≠0 then (Jo,Dc r) else if BZ w≠0 then (Jo,BZ w) else vH r r.first (r.EC++w)
end Go.Proofs.YtnhdddmhkhdlhaaGreatDoor
namespace Go.Proofs.YtnhdddmhkhdlhaaGreatDoor
open Go Go.Am Go.Vm
attribute [local irreducible] Aa Af Ak Ad Bv AQ BN AV AP Az Vm.Done Cb BH
attribute [local irreducible] Dc BZ nI BK TQ
def a1n (l:List Int):Nat→Int
 |0=>0
 |k+1=>a1n l k+gi l k
noncomputable def a7q (r:Gs):Int×Int:=if Dc r≠0 then (0,Dc r) else (a1n r.EC r.EC.length,0)
def OE:List Jv:=[⟨8,1⟩,⟨4,1⟩,⟨16,1⟩,⟨2,1⟩,⟨8,3⟩,⟨8,5⟩,⟨4,3⟩,⟨1,1⟩,⟨32,1⟩,⟨16,3⟩,⟨16,5⟩,⟨32,3⟩,⟨8,7⟩,⟨2,3⟩,⟨1,2⟩,⟨64,1⟩]
theorem jQ (n:Nat) (hn:n<256):AQ env 94 [.int .u8 (n:Int)] (.p (.agg (Enc.enc (gi OE (n % 16))))):=by
 refine AQ.enter (Ar (by decide)) Tryz.func94 rfl (by kernel_rfl) (by simp [Tryz.ntmps94]) ?_
 have hlt:n % 16<16:=Nat.mod_lt _ (by decide)
 repeat' (first|(refine Af.JE 22 ?_;refine Af.ghost (A8.freeze 19 rfl rfl) ?_)|apply Ad.Aw|apply Ad.ret|apply Af.nil|apply Af.one|(apply Aa.AO (l:=OE) (i:=n % 16);rfl;rfl;rfl;exact hlt;rfl)|(apply Aa.move;rfl)|(apply Aa.Fz;rfl;rfl;omega;omega)|(apply Aa.load;rfl;rfl)|(apply Aa.alloc;rfl)|(apply Aa.AY;rfl;rfl;rfl;trivial;rfl;rfl;exact Ac rfl;exact le_dec rfl)|(apply Aa.build;rfl;rfl;rfl;rfl;rfl)|(apply Aa.buildSlice;rfl;rfl;rfl;decide;rfl;rfl;rfl))
 all_goals (refine Done.ret rfl (.refl _) (by first|exact trivial|exact ⟨trivial,trivial,trivial⟩|exact ⟨trivial,trivial,trivial,trivial⟩) Ap.nil (Nat.zero_le _) (Nat.le_refl _) ⟨?_,rfl,rfl⟩;try rfl)
end Go.Proofs.YtnhdddmhkhdlhaaGreatDoor
namespace Go.Proofs.YtnhdddmhkhdlhaaGreatDoor
open Go Go.Am Go.Vm
attribute [local irreducible] Aa Af Ak Ad Bv AQ BN AV AP Az Vm.Done Cb BH
theorem gJ {r:Gs} (h1:Du r.name) (h2:Du r.Ht) (h3:qR r.Dn) (h4:-256≤r.first∧r.first≤256) (h5:0<r.EC.length∧r.EC.length≤128) (h6:okW r.EC):Dc r=0:=by
 unfold Dc
 rw [if_neg (fun h=>h.elim (fun h=>h h1) (fun h=>h h2)),if_neg (fun h=>h (PU.2 h3)),if_neg (by omega),if_neg (by omega),if_neg (by omega)]
 exact if_pos h6
theorem lK:Du [79,112,101,110]:=by
 refine ⟨by decide,by decide,by decide,fun i h1 h2=>?_⟩
 have:i=1∨i=2∨i=3:=by simp at h2;omega
 rcases this with rfl|rfl|rfl<;>exact .inl (by decide)
def a6j (f first:Int) (n:Nat):Gs:=⟨[82,111,119],[79,112,101,110],⟨f,1⟩,first,List.replicate n 1⟩
def a3c:Gs:=⟨[82,111,119],[79,112,101,110],⟨8,1⟩,24,List.replicate 12 0++List.replicate 61 1⟩
attribute [local irreducible] Dc BZ nI BK TQ a3z a3p a3r a2g
end Go.Proofs.YtnhdddmhkhdlhaaGreatDoor
namespace Go.Proofs.YtnhdddmhkhdlhaaGreatDoor
open Go Go.Am Go.Vm
attribute [local irreducible] Aa Af Ak Ad Bv AQ BN AV AP Az Vm.Done Cb BH
instance encStr:Enc (List UInt8):={ default:=[],enc:=fun s=>[.str (bs s)],size:=1,len:=fun _=>rfl }
structure FZ where
 Ht:Nat
 Dn:Nat
 first:Int
 pipes:Nat
 EC:List Nat
def FZ.enc (x:FZ):List FV:=[.int .u8 (x.Ht:Int),.int .u8 (x.Dn:Int),.int .i8 x.first,.int .u8 (x.pipes:Int),.int .u8 ((gi x.EC 0:Nat):Int),.int .u8 ((gi x.EC 1:Nat):Int),.int .u8 ((gi x.EC 2:Nat):Int),.int .u8 ((gi x.EC 3:Nat):Int),.int .u8 ((gi x.EC 4:Nat):Int)]
structure FZ.Ok (x:FZ):Prop where
 Ht:x.Ht<256
 Dn:x.Dn<256
 first:-128≤x.first∧x.first≤127
 pipes:x.pipes<256
 EC:∀ i,gi x.EC i<256
def Na:List (List UInt8):=[[79,112,101,110],[70,108,117,116,101],[82,101,101,100]]
def Ho (x:FZ):Nat→List Int
 |0=>[]
 |k+1=>Ho x k++[((gi x.EC (k % 5):Nat):Int)]
theorem FH (x:FZ):∀ k,(Ho x k).length=k
 |0=>rfl
 |k+1=>by simp [Ho,FH x k]
def Ry (x:FZ) (i:Int):Gs:=⟨[82,UInt8.ofNat (48+i % 10).toNat],gi Na (x.Ht % 3),gi OE (x.Dn % 16),x.first,Ho x (1+x.pipes % 25)⟩
theorem jX (x:FZ) (hx:x.Ok) (i:Int) (hi:0≤i∧i≤1000):AQ env 73 [.agg x.enc,.int .i64 i] (.p (.agg (Enc.enc (Ry x i)))):=by
 obtain ⟨h1,h2,h3,h4,h5⟩:=hx
 have hf:=jQ x.Dn h2
 have hlt:x.Ht % 3<3:=Nat.mod_lt _ (by decide)
 refine AQ.enter (Ar (by decide)) Tryz.func73 rfl (by kernel_rfl) (by simp [Tryz.ntmps73]) ?_
 repeat' (first|(refine Ak.JE 18 ?_;refine Ak.ghost (A8.freeze 14 rfl rfl) ?_)|apply Ad.assoc|apply Ad.Aw|apply Ad.Bl|apply Ad.Aj|apply Af.nil|apply Ak.nil|apply Af.one|(apply Ak.bar;decide +kernel)|apply Ak.quiet|(apply Aa.fn;rfl;rfl;exact hf;intro _;rfl)|(apply Aa.GK;rfl;rfl;rfl;rfl;rfl;omega)|(apply Aa.AO (l:=Na) (i:=x.Ht % 3);rfl;rfl;rfl;exact hlt;rfl)|(apply Aa.assign;rfl)|(apply Aa.move;rfl)|(apply Aa.BD;rfl;rfl;omega)|(apply Aa.Fz;rfl;rfl;omega;omega)|(apply Aa.load;rfl;rfl)|(apply Aa.AA;rfl;rfl;rfl)|(apply Aa.box;rfl;trivial)|(apply Aa.alloc;rfl)|(apply Aa.AY;rfl;rfl;rfl;trivial;rfl;rfl;exact Ac rfl;exact le_dec rfl)|(apply Aa.build;rfl;rfl;rfl;rfl;rfl)|(apply Aa.buildSlice;rfl;rfl;rfl;decide;rfl;rfl;rfl)|(apply Aa.TP;rfl;rfl;(first|omega|(simp only [List.length_take,List.length_drop,List.length_append,List.length_singleton,List.length_cons,List.length_nil]<;>omega)))|(apply Aa.DL;rfl;rfl;rfl;rfl;omega)|(apply Aa.LZ;rfl;rfl;rfl;rfl;omega))
 refine Ad.ghost (A8.DN 4 5 3 rfl rfl) ?_
 refine Ad.Ec (fun k:Nat=>[(2,.ref 0 0),(4,.ref 1 0),(5,.ref 4 0),(6,.p (.int .i64 (k:Int)))]) (fun k=>[(5,.vec 3 (cells (Ho x k)) (Ho x k).length true),(4,.box 123 [.p (.str (bs [82,UInt8.ofNat (48+i % 10).toNat])),.p (.str (bs (gi Na (x.Ht % 3)))),.p (.int .i64 (gi OE (x.Dn % 16)).num),.p (.int .i64 (gi OE (x.Dn % 16)).den),.p (.int .i64 x.first),.vec 5 (Ho x k).length 0 (Ho x k).length]),(1,.box 123 [.p (.str ⟨#[]⟩),.p (.str ⟨#[]⟩),.p (.int .i64 0),.p (.int .i64 0),.p (.int .i64 0),.p (.val (.slice none 0 0))]),(0,.box 166 (x.enc.map .p))]) 6 (fun k=>k≤1+x.pipes % 25) (fun k=>1+x.pipes % 25-k) 0 (by omega) (by omega) ⟨by omega,?_,?_⟩ ?_
 ·repeat (first|exact Ah.nil|refine Ah.same trivial rfl ?_|refine Ah.same (Ac rfl) rfl ?_|refine Ah.same ⟨trivial,Ac rfl,Ac rfl,Ac rfl,trivial⟩ rfl ?_|refine Ah.same ⟨trivial,Ac rfl,Ac rfl,trivial⟩ rfl ?_|refine Ah.same ⟨trivial,trivial⟩ rfl ?_|refine Ah.cons trivial rfl (.of_eq (AL (by simp<;>omega))) ?_)
 ·repeat (first|exact Ap.nil|(refine Ap.cons (Ac rfl) ?_ rfl ?_ ?_;(first|exact trivial|exact Ba.Ai _ _|(simp [HB.under,Ba.under,PV.under]));(first|exact BG.refl _|exact BG.vec (Bo.refl _) (by simp))))
 intro k hk
 have hl:=FH x k
 have hw:=h5 (k % 5)
 have e1:Ho x (k+1)=Ho x k++[((gi x.EC (k % 5):Nat):Int)]:=rfl
 have e2:(Ho x (k+1)).length=(Ho x k).length+1:=by rw [e1];simp
 have hr:(x.enc.map PV.p)[4+((k:Int) % 5).toNat*1]?=some (.p (.int .u8 ((gi x.EC (k % 5):Nat):Int))):=by
  have e0:((k:Int) % 5).toNat=k % 5:=by omega
  rw [e0]
  have:k % 5<5:=Nat.mod_lt _ (by decide)
  generalize k % 5=n at this
  match n,this with
  |0,_=>rfl
  |1,_=>rfl
  |2,_=>rfl
  |3,_=>rfl
  |4,_=>rfl
 repeat' (first|(refine Ad.at 6 ?_;refine Ad.ghost (A8.BA 4 5 rfl rfl rfl) ?_;first|apply Ad.Aw|apply Ad.Bl)|apply Ad.assoc|apply Ad.Aw|apply Ad.region|apply Ad.Di|apply Ad.Aq|apply Ad.Bj|apply Ad.Aj|apply AV.normal|apply AP.normal|apply AP.exit|apply Az.exit|apply Ad.ret|apply Af.nil|apply Ak.nil|apply Af.one|(apply Ak.bar;decide +kernel)|apply Ak.quiet|(apply Aa.rQ;rfl;rfl;rfl;exact hr)|(apply Aa.XZ;rfl;rfl;rfl;rfl;rfl;omega)|(apply Aa.assign;rfl)|(apply Aa.move;rfl)|(apply Aa.BD;rfl;rfl;omega)|(apply Aa.Fz;rfl;rfl;omega;omega)|(apply Aa.int;rfl;rfl;rfl)|(apply Aa.load;rfl;rfl)|(apply Aa.AA;rfl;rfl;rfl)|(apply Aa.AY;rfl;rfl;rfl;trivial;rfl;rfl;exact Ac rfl;exact le_dec rfl)|(apply Aa.buildSlice;rfl;rfl;rfl;decide;rfl;rfl;rfl)|(apply Aa.DL;rfl;rfl;rfl;rfl;omega)|(apply Aa.CX;rfl;rfl;rfl;rfl;rfl;rfl;rfl;rfl;(intro _ h;cases h);rfl;rfl;rfl;decide;decide;(first|omega|(simp only [List.length_take,List.length_drop,List.length_append,List.length_singleton,List.length_cons,List.length_nil]<;>omega)))|(apply Ad.Ae;rfl)|(intro _;try (exfalso;omega)))
 ·refine Az.normal ⟨k+1,by omega,by omega,⟨by omega,?_,?_⟩⟩
  ·repeat (first|exact Ah.nil|refine Ah.same trivial rfl ?_|refine Ah.same (Ac rfl) rfl ?_|refine Ah.same ⟨trivial,Ac rfl,Ac rfl,Ac rfl,trivial⟩ rfl ?_|refine Ah.same ⟨trivial,Ac rfl,Ac rfl,trivial⟩ rfl ?_|refine Ah.same ⟨trivial,trivial⟩ rfl ?_|refine Ah.cons trivial rfl (.of_eq (AL (by simp<;>omega))) ?_)
  ·rw [e2,e1];repeat (first|exact Ap.nil|(refine Ap.cons (Ac rfl) ?_ rfl ?_ ?_;(first|exact trivial|exact Ba.Ai _ _|(simp [HB.under,Ba.under,PV.under]));(first|exact BG.refl _|exact BG.vec (Bo.refl _) (by simp))))
 ·obtain rfl:k=1+x.pipes % 25:=by omega
  refine Done.ret rfl (.refl _) (by first|exact trivial|exact ⟨trivial,trivial,trivial⟩|exact ⟨trivial,trivial,trivial,trivial⟩) Ap.nil (Nat.zero_le _) (Nat.le_refl _) ⟨?_,rfl,rfl⟩
  rfl
end Go.Proofs.YtnhdddmhkhdlhaaGreatDoor
namespace Go.Proofs.YtnhdddmhkhdlhaaGreatDoor
open Go Go.Am Go.Vm
attribute [local irreducible] Aa Af Ak Ad Bv AQ BN AV AP Az Vm.Done Cb BH
structure kZ where
 rank:Nat
 Dn:Nat
 kind:Nat
 at_:Nat
instance:Enc kZ:={ default:=⟨0,0,0,0⟩,enc:=fun x=>[.int .u8 (x.rank:Int),.int .u8 (x.Dn:Int),.int .u8 (x.kind:Int),.int .u8 (x.at_:Int)],size:=4,len:=fun _=>rfl }
structure kZ.Ok (x:kZ):Prop where
 rank:x.rank<256
 Dn:x.Dn<256
 kind:x.kind<256
 at_:x.at_<256
structure mJ where
 low:Nat
 keys:Nat
 Xo:Bool
 stops:List kZ
instance:Enc mJ:={ default:=⟨0,0,false,[]⟩,enc:=fun x=>[.int .u8 (x.low:Int),.int .u8 (x.keys:Int),.bool x.Xo,.lst 169 (cells x.stops) x.stops.length],size:=4,len:=fun _=>rfl }
structure mJ.Ok (x:mJ):Prop where
 low:x.low<256
 keys:x.keys<256
 stops:x.stops.length<9223372036854775808
 all:∀ i,i<x.stops.length→(gi x.stops i).Ok
structure nV where
 RD:Nat
 tgt:Nat
 shift:Int
 through:Bool
instance:Enc nV:={ default:=⟨0,0,0,false⟩,enc:=fun x=>[.int .u8 (x.RD:Int),.int .u8 (x.tgt:Int),.int .i8 x.shift,.bool x.through],size:=4,len:=fun _=>rfl }
structure nV.Ok (x:nV):Prop where
 RD:x.RD<256
 tgt:x.tgt<256
 shift:-128≤x.shift∧x.shift≤127
instance a0i:Enc FZ:={ default:=⟨0,0,0,0,[]⟩,enc:=FZ.enc,size:=9,len:=fun _=>rfl }
structure ni where
 ranks:List FZ
 Au:List mJ
 links:List nV
def ni.enc (x:ni):List FV:=[.lst 166 (cells x.ranks) x.ranks.length,.lst 163 (cells x.Au) x.Au.length,.lst 171 (cells x.links) x.links.length]
structure ni.Ok (x:ni):Prop where
 ranks:∀ i,i<x.ranks.length→(gi x.ranks i).Ok
 Au:∀ i,i<x.Au.length→(gi x.Au i).Ok
 links:∀ i,i<x.links.length→(gi x.links i).Ok
 nr:x.ranks.length<9223372036854775808
 nd:x.Au.length<9223372036854775808
 nl:x.links.length<9223372036854775808
def Oz:List Jv:=[⟨8,1⟩,⟨4,1⟩,⟨16,1⟩,⟨8,3⟩,⟨2,1⟩,⟨8,5⟩]
theorem fJ (n:Nat) (hn:n<256):AQ env 95 [.int .u8 (n:Int)] (.p (.agg (Enc.enc (gi Oz (n % 6))))):=by
 refine AQ.enter (Ar (by decide)) Tryz.func95 rfl (by kernel_rfl) (by simp [Tryz.ntmps95]) ?_
 have hlt:n % 6<6:=Nat.mod_lt _ (by decide)
 repeat' (first|(refine Af.JE 12 ?_;refine Af.ghost (A8.freeze 9 rfl rfl) ?_)|apply Ad.Aw|apply Ad.ret|apply Af.nil|apply Af.one|(apply Aa.AO (l:=Oz) (i:=n % 6);rfl;rfl;rfl;exact hlt;rfl)|(apply Aa.move;rfl)|(apply Aa.Fz;rfl;rfl;omega;omega)|(apply Aa.load;rfl;rfl)|(apply Aa.alloc;rfl)|(apply Aa.AY;rfl;rfl;rfl;trivial;rfl;rfl;exact Ac rfl;exact le_dec rfl)|(apply Aa.build;rfl;rfl;rfl;rfl;rfl)|(apply Aa.buildSlice;rfl;rfl;rfl;decide;rfl;rfl;rfl))
 all_goals (refine Done.ret rfl (.refl _) (by first|exact trivial|exact ⟨trivial,trivial,trivial⟩|exact ⟨trivial,trivial,trivial,trivial⟩) Ap.nil (Nat.zero_le _) (Nat.le_refl _) ⟨?_,rfl,rfl⟩;try rfl)
theorem sQ:∀ n,n<6→qR (gi Oz n):=by decide +kernel
theorem sN:∀ a,a<6→∀ b,b<16→(BK (gi Oz a) (gi OE b)).2=0∧-100≤(BK (gi Oz a) (gi OE b)).1∧(BK (gi Oz a) (gi OE b)).1≤100:=by decide +kernel
structure jE (rk:List Gs):Prop where
 len:0<rk.length∧rk.length≤3
 ok:∀ i,i<rk.length→Dc (gi rk i)=0∧∃ b,b<16∧(gi rk i).Dn=gi OE b
attribute [local irreducible] Dc BZ BK
theorem vT (rk:List Gs) (lo hi:Int) (x:kZ) (i:Nat) (hrk:jE rk) (hc:0≤lo∧lo≤hi∧hi≤127) (hx:x.Ok) (hi9:i≤9) :
 ∃ s:Stp,AQ env 74 [.lst 123 (cells rk) rk.length,.agg [.int .i64 lo,.int .i64 hi],.agg (Enc.enc x),.int .i64 (i:Int)] (.p (.agg (Enc.enc s)))∧s.name=LM 83 i∧EL rk lo hi s=0∧Xm s∧∃ a,a<6∧s.Dn=gi Oz a:=by
 obtain ⟨hl,hok⟩:=hrk
 obtain ⟨x1,x2,x3,x4⟩:=hx
 obtain ⟨n,hn⟩:∃ n,n=x.rank % rk.length:=⟨_,rfl⟩
 have hnl:n<rk.length:=by rw [hn];exact Nat.mod_lt _ hl.1
 obtain ⟨m,hm⟩:∃ m,m=(n+1) % rk.length:=⟨_,rfl⟩
 have hml:m<rk.length:=by rw [hm];exact Nat.mod_lt _ hl.1
 have yg:=fJ x.Dn x2
 have h6:x.Dn % 6<6:=Nat.mod_lt _ (by decide)
 have f6:=sQ _ h6
 obtain ⟨-,b,hb,eb⟩:=hok n hnl
 obtain ⟨-,c,hc2,ec⟩:=hok m hml
 have s1:=sN _ h6 b hb
 have s2:=sN _ h6 c hc2
 rw [← eb] at s1
 rw [← ec] at s2
 generalize hF:gi Oz (x.Dn % 6)=F at *
 have q1:=SI F (gi rk n).Dn
 have q2:=SI F (gi rk m).Dn
 rw [s1.1] at q1
 rw [s2.1] at q2
 generalize (BK F (gi rk n).Dn).1=sh at *
 generalize (BK F (gi rk m).Dn).1=so at *
 have a3x:bU rk lo hi=0:=Xu (fun i h=>(hok i h).1) (by omega) hc
 have zG:∀ g:List Seg,(0<g.length∧g.length≤12)→KG rk.length lo hi g 0=0→EL rk lo hi ⟨LM 83 i,F,g⟩=0:=fun g h1 h2=>by
  unfold EL uw
  rw [if_neg (fun h=>h a3x),if_neg (fun h=>h (dU (by decide) (by omega))),if_neg (fun h=>h (PU.2 f6)),if_neg (by simp only;omega),if_neg (by simp only;omega)]
  exact h2
 have sm:∀ g:List Seg,g.length<1000000→(∀ j,j<g.length→(gi g j).draws.length<1000000)→Xm ⟨LM 83 i,F,g⟩:=fun g h1 h2=>⟨by simp [LM],h1,fun j hj=>⟨h2 j hj⟩⟩
 have aX:SB rk.length ⟨n,sh⟩:=⟨⟨by simp only;omega,by simp only;omega⟩,⟨by simp only;omega,by simp only;omega⟩⟩
 have hn2:(n:Int)=(x.rank:Int) % rk.length:=by rw [hn];simp
 obtain ⟨d,hd⟩:∃ d:Nat,(d:Int)=(x.at_:Int) % (hi-lo+1):=⟨((x.at_:Int) % (hi-lo+1)).toNat,by have:=Int.emod_nonneg (x.at_:Int) (show hi-lo+1≠0 by omega);omega⟩
 have hd2:(d:Int)≤hi-lo:=by have:=Int.emod_lt_of_pos (x.at_:Int) (show 0<hi-lo+1 by omega);omega
 have hk6:x.kind % 6<6:=Nat.mod_lt _ (by decide)
 rw [hm,hn] at q2 hml
 rw [hn] at q1 hnl
 have hm2:(m:Int)=((x.rank:Int) % rk.length+1) % rk.length:=by rw [hm,hn];simp
 have hAt:lo+(d:Int)=lo+(x.at_:Int) % (hi-lo+1):=by omega
 rw [hn2] at aX
 have dSo:SB rk.length ⟨((x.rank:Int) % rk.length+1) % rk.length,so⟩:=by
  rw [← hm2]
  exact ⟨⟨by simp only;omega,by simp only;rw [hm];have:=Nat.mod_lt (n+1) hl.1;omega⟩,⟨by simp only;omega,by simp only;omega⟩⟩
 have dTw:SB rk.length ⟨(x.rank:Int) % rk.length,sh-12⟩:=⟨aX.rank,⟨by simp only;omega,by simp only;omega⟩⟩
 have dTh:SB rk.length ⟨(x.rank:Int) % rk.length,sh+7⟩:=⟨aX.rank,⟨by simp only;omega,by simp only;omega⟩⟩
 by_cases k2:x.kind % 6=2
 ·refine ⟨⟨LM 83 i,F,[⟨lo,hi,[⟨(x.rank:Int) % rk.length,sh⟩,⟨(x.rank:Int) % rk.length,sh+7⟩]⟩]⟩,?_,rfl,?_,?_,_,h6,hF.symm⟩
  ·refine AQ.enter (Ar (by decide)) Tryz.func74 rfl (by kernel_rfl) (by simp [Tryz.ntmps74]) ?_
   repeat' (first|(refine Ad.at 5 ?_;refine Ad.ghost (A8.freeze 13 rfl rfl) ?_;first|apply Ad.Aw|apply Ad.Bl)|(refine Ad.at 22 ?_;refine Ad.ghost (A8.BA 4 3 rfl rfl rfl) ?_;first|apply Ad.Aw|apply Ad.Bl)|(refine Af.JE 88 ?_;refine Af.ghost (A8.freeze 87 rfl rfl) ?_)|apply Ad.assoc|apply Ad.Aw|apply Ad.Bl|apply Ad.region|apply Ad.Aj|apply AV.normal|apply AP.normal|apply Ad.ret|apply Af.nil|apply Ak.nil|apply Af.one|(apply Ak.bar;decide +kernel)|apply Ak.quiet|(apply Aa.fn;rfl;rfl;exact yg;intro _;rfl)|(apply Aa.fn;rfl;rfl;exact q1;intro _;rfl)|(apply Aa.GK;rfl;rfl;rfl;rfl;rfl;omega)|(apply Aa.AO (l:=rk) (i:=x.rank % rk.length);rfl;rfl;rfl;exact hnl;rfl)|(apply Aa.assign;rfl)|(apply Aa.move;rfl)|(apply Aa.BD;rfl;rfl;omega)|(apply Aa.Dq;rfl;rfl;omega)|(apply Aa.Fz;rfl;rfl;omega;omega)|(apply Aa.int;rfl;rfl;rfl)|(apply Aa.load;rfl;rfl)|(apply Aa.Bz;rfl;rfl)|(apply Aa.AA;rfl;rfl;rfl)|(apply Aa.Dk;rfl;rfl)|(apply Aa.box;rfl;trivial)|(apply Aa.alloc;rfl)|(apply Aa.AY;rfl;rfl;rfl;trivial;rfl;rfl;exact Ac rfl;exact le_dec rfl)|(apply Aa.build;rfl;rfl;rfl;rfl;rfl)|(apply Aa.buildSlice;rfl;rfl;rfl;decide;rfl;rfl;rfl)|(apply Aa.TP;rfl;rfl;(first|omega|(simp only [List.length_take,List.length_drop,List.length_append,List.length_singleton,List.length_cons,List.length_nil]<;>omega)))|(apply Aa.extract;rfl;rfl)|(apply Aa.DL;rfl;rfl;rfl;rfl;omega)|(apply Aa.LZ;rfl;rfl;rfl;rfl;omega)|(apply Ad.AX;rfl)|(intro _;try (exfalso;omega)))
   all_goals first|(exfalso;omega)|contradiction|(refine Done.ret rfl (.refl _) (by first|exact trivial|exact ⟨trivial,trivial,trivial⟩|exact ⟨trivial,trivial,trivial,trivial⟩) Ap.nil (Nat.zero_le _) (Nat.le_refl _) ⟨?_,rfl,rfl⟩;rfl)
  ·exact zG _ (by simp) (Jl ⟨Int.le_refl _,hc.2.1,Int.le_refl _⟩ (qA aX dTh (fun h=>by have:=congrArg bY.shift h;simp only at this;omega)))
  ·refine sm _ (by simp) (fun j hj=>?_)
   obtain rfl:j=0:=by simp at hj;omega
   show 2<1000000
   decide
 by_cases k5:x.kind % 6=5
 ·refine ⟨⟨LM 83 i,F,[⟨lo+(x.at_:Int) % (hi-lo+1),hi,[⟨(x.rank:Int) % rk.length,sh⟩]⟩]⟩,?_,rfl,?_,?_,_,h6,hF.symm⟩
  ·refine AQ.enter (Ar (by decide)) Tryz.func74 rfl (by kernel_rfl) (by simp [Tryz.ntmps74]) ?_
   repeat' (first|(refine Ad.at 5 ?_;refine Ad.ghost (A8.freeze 13 rfl rfl) ?_;first|apply Ad.Aw|apply Ad.Bl)|(refine Ad.at 22 ?_;refine Ad.ghost (A8.BA 4 3 rfl rfl rfl) ?_;first|apply Ad.Aw|apply Ad.Bl)|apply Ad.assoc|apply Ad.Aw|apply Ad.Bl|apply Ad.region|apply Ad.Aj|apply AV.normal|apply AP.normal|apply Ad.ret|apply Af.nil|apply Ak.nil|apply Af.one|(apply Ak.bar;decide +kernel)|apply Ak.quiet|(apply Aa.fn;rfl;rfl;exact yg;intro _;rfl)|(apply Aa.fn;rfl;rfl;exact q1;intro _;rfl)|(apply Aa.GK;rfl;rfl;rfl;rfl;rfl;omega)|(apply Aa.AO (l:=rk) (i:=x.rank % rk.length);rfl;rfl;rfl;exact hnl;rfl)|(apply Aa.assign;rfl)|(apply Aa.move;rfl)|(apply Aa.BD;rfl;rfl;omega)|(apply Aa.Dq;rfl;rfl;omega)|(apply Aa.Fz;rfl;rfl;omega;omega)|(apply Aa.int;rfl;rfl;rfl)|(apply Aa.load;rfl;rfl)|(apply Aa.Bz;rfl;rfl)|(apply Aa.AA;rfl;rfl;rfl)|(apply Aa.Dk;rfl;rfl)|(apply Aa.box;rfl;trivial)|(apply Aa.alloc;rfl)|(apply Aa.AY;rfl;rfl;rfl;trivial;rfl;rfl;exact Ac rfl;exact le_dec rfl)|(apply Aa.build;rfl;rfl;rfl;rfl;rfl)|(apply Aa.buildSlice;rfl;rfl;rfl;decide;rfl;rfl;rfl)|(apply Aa.TP;rfl;rfl;(first|omega|(simp only [List.length_take,List.length_drop,List.length_append,List.length_singleton,List.length_cons,List.length_nil]<;>omega)))|(apply Aa.extract;rfl;rfl)|(apply Aa.DL;rfl;rfl;rfl;rfl;omega)|(apply Aa.LZ;rfl;rfl;rfl;rfl;omega)|(apply Ad.Ae;rfl)|(apply Ad.AX;rfl)|(intro _;try (exfalso;omega)))
   all_goals first|(exfalso;omega)|contradiction|(refine Done.ret rfl (.refl _) (by first|exact trivial|exact ⟨trivial,trivial,trivial⟩|exact ⟨trivial,trivial,trivial,trivial⟩) Ap.nil (Nat.zero_le _) (Nat.le_refl _) ⟨?_,rfl,rfl⟩;rfl)
  ·exact zG _ (by simp) (Jl ⟨by simp only;omega,by simp only;omega,Int.le_refl _⟩ (H7 aX))
  ·refine sm _ (by simp) (fun j hj=>?_)
   obtain rfl:j=0:=by simp at hj;omega
   show 1<1000000
   decide
 by_cases k01:x.kind % 6<2
 ·refine ⟨⟨LM 83 i,F,[⟨lo,hi,[⟨(x.rank:Int) % rk.length,sh⟩]⟩]⟩,?_,rfl,?_,?_,_,h6,hF.symm⟩
  ·refine AQ.enter (Ar (by decide)) Tryz.func74 rfl (by kernel_rfl) (by simp [Tryz.ntmps74]) ?_
   repeat' (first|(refine Ad.at 5 ?_;refine Ad.ghost (A8.freeze 13 rfl rfl) ?_;first|apply Ad.Aw|apply Ad.Bl)|(refine Ad.at 22 ?_;refine Ad.ghost (A8.BA 4 3 rfl rfl rfl) ?_;first|apply Ad.Aw|apply Ad.Bl)|apply Ad.assoc|apply Ad.Aw|apply Ad.Bl|apply Ad.region|apply Ad.Aj|apply AV.normal|apply AP.normal|apply Ad.ret|apply Af.nil|apply Ak.nil|apply Af.one|(apply Ak.bar;decide +kernel)|apply Ak.quiet|(apply Aa.fn;rfl;rfl;exact yg;intro _;rfl)|(apply Aa.fn;rfl;rfl;exact q1;intro _;rfl)|(apply Aa.GK;rfl;rfl;rfl;rfl;rfl;omega)|(apply Aa.AO (l:=rk) (i:=x.rank % rk.length);rfl;rfl;rfl;exact hnl;rfl)|(apply Aa.assign;rfl)|(apply Aa.move;rfl)|(apply Aa.BD;rfl;rfl;omega)|(apply Aa.Dq;rfl;rfl;omega)|(apply Aa.Fz;rfl;rfl;omega;omega)|(apply Aa.int;rfl;rfl;rfl)|(apply Aa.load;rfl;rfl)|(apply Aa.Bz;rfl;rfl)|(apply Aa.AA;rfl;rfl;rfl)|(apply Aa.Dk;rfl;rfl)|(apply Aa.box;rfl;trivial)|(apply Aa.alloc;rfl)|(apply Aa.AY;rfl;rfl;rfl;trivial;rfl;rfl;exact Ac rfl;exact le_dec rfl)|(apply Aa.build;rfl;rfl;rfl;rfl;rfl)|(apply Aa.buildSlice;rfl;rfl;rfl;decide;rfl;rfl;rfl)|(apply Aa.TP;rfl;rfl;(first|omega|(simp only [List.length_take,List.length_drop,List.length_append,List.length_singleton,List.length_cons,List.length_nil]<;>omega)))|(apply Aa.extract;rfl;rfl)|(apply Aa.DL;rfl;rfl;rfl;rfl;omega)|(apply Aa.LZ;rfl;rfl;rfl;rfl;omega)|(apply Ad.Ae;rfl)|(apply Ad.AX;rfl)|(intro _;try (exfalso;omega)))
   all_goals first|(exfalso;omega)|contradiction|(refine Done.ret rfl (.refl _) (by first|exact trivial|exact ⟨trivial,trivial,trivial⟩|exact ⟨trivial,trivial,trivial,trivial⟩) Ap.nil (Nat.zero_le _) (Nat.le_refl _) ⟨?_,rfl,rfl⟩;rfl)
  ·exact zG _ (by simp) (Jl ⟨Int.le_refl _,hc.2.1,Int.le_refl _⟩ (H7 aX))
  ·refine sm _ (by simp) (fun j hj=>?_)
   obtain rfl:j=0:=by simp at hj;omega
   show 1<1000000
   decide
 by_cases hd0:d=0
 ·by_cases k3:x.kind % 6=3
  ·refine ⟨⟨LM 83 i,F,[⟨lo+(x.at_:Int) % (hi-lo+1),hi,[⟨((x.rank:Int) % rk.length+1) % rk.length,so⟩]⟩]⟩,?_,rfl,?_,?_,_,h6,hF.symm⟩
   ·refine AQ.enter (Ar (by decide)) Tryz.func74 rfl (by kernel_rfl) (by simp [Tryz.ntmps74]) ?_
    repeat' (first|(refine Ad.at 17 ?_;refine Ad.ghost (A8.trans (A8.freeze 15 rfl rfl) (A8.DN 4 3 195 rfl rfl)) ?_;first|apply Ad.Aw|apply Ad.Bl)|(refine Ad.at 5 ?_;refine Ad.ghost (A8.freeze 13 rfl rfl) ?_;first|apply Ad.Aw|apply Ad.Bl)|(refine Ad.at 22 ?_;refine Ad.ghost (A8.BA 4 3 rfl rfl rfl) ?_;first|apply Ad.Aw|apply Ad.Bl)|apply Ad.assoc|apply Ad.Aw|apply Ad.Bl|apply Ad.region|apply Ad.Aq|apply Ad.Aj|apply AV.normal|apply AP.normal|apply Ad.ret|apply Af.nil|apply Ak.nil|apply Af.one|(apply Ak.bar;decide +kernel)|apply Ak.quiet|(apply Aa.CX (l:=([]:List Seg)) (a:=⟨lo+(x.at_:Int) % (hi-lo+1),hi,[⟨((x.rank:Int) % rk.length+1) % rk.length,so⟩]⟩);rfl;rfl;rfl;rfl;rfl;rfl;rfl;rfl;(intro _ h;cases h);rfl;rfl;rfl;decide;decide;(first|omega|(simp only [List.length_nil,List.length_cons]<;>omega)))|(apply Aa.fn;rfl;rfl;exact yg;intro _;rfl)|(apply Aa.fn;rfl;rfl;exact q1;intro _;rfl)|(apply Aa.fn;rfl;rfl;exact q2;intro _;rfl)|(apply Aa.GK;rfl;rfl;rfl;rfl;rfl;omega)|(apply Aa.AO (l:=rk) (i:=x.rank % rk.length);rfl;rfl;rfl;exact hnl;rfl)|(apply Aa.AO (l:=rk) (i:=(x.rank % rk.length+1) % rk.length);rfl;rfl;rfl;exact hml;rfl)|(apply Aa.assign;rfl)|(apply Aa.move;rfl)|(apply Aa.BD;rfl;rfl;omega)|(apply Aa.Dq;rfl;rfl;omega)|(apply Aa.Fz;rfl;rfl;omega;omega)|(apply Aa.int;rfl;rfl;rfl)|(apply Aa.load;rfl;rfl)|(apply Aa.Bz;rfl;rfl)|(apply Aa.AA;rfl;rfl;rfl)|(apply Aa.Dk;rfl;rfl)|(apply Aa.box;rfl;trivial)|(apply Aa.alloc;rfl)|(apply Aa.AY;rfl;rfl;rfl;trivial;rfl;rfl;exact Ac rfl;exact le_dec rfl)|(apply Aa.build;rfl;rfl;rfl;rfl;rfl)|(apply Aa.buildSlice;rfl;rfl;rfl;decide;rfl;rfl;rfl)|(apply Aa.TP;rfl;rfl;(first|omega|(simp only [List.length_take,List.length_drop,List.length_append,List.length_singleton,List.length_cons,List.length_nil]<;>omega)))|(apply Aa.extract;rfl;rfl)|(apply Aa.DL;rfl;rfl;rfl;rfl;omega)|(apply Aa.LZ;rfl;rfl;rfl;rfl;omega)|(apply Ad.Ae;rfl)|(apply Ad.AX;rfl)|(intro _;try (exfalso;omega)))
    all_goals first|(exfalso;omega)|contradiction|(refine Done.ret rfl (.refl _) (by first|exact trivial|exact ⟨trivial,trivial,trivial⟩|exact ⟨trivial,trivial,trivial,trivial⟩) Ap.nil (Nat.zero_le _) (Nat.le_refl _) ⟨?_,rfl,rfl⟩;rfl)
   ·exact zG _ (by simp) (Jl ⟨by simp only;omega,by simp only;omega,Int.le_refl _⟩ (H7 dSo))
   ·refine sm _ (by simp) (fun j hj=>?_)
    obtain rfl:j=0:=by simp at hj;omega
    show 1<1000000
    decide
  ·refine ⟨⟨LM 83 i,F,[⟨lo+(x.at_:Int) % (hi-lo+1),hi,[⟨(x.rank:Int) % rk.length,sh-12⟩]⟩]⟩,?_,rfl,?_,?_,_,h6,hF.symm⟩
   ·refine AQ.enter (Ar (by decide)) Tryz.func74 rfl (by kernel_rfl) (by simp [Tryz.ntmps74]) ?_
    repeat' (first|(refine Ad.at 17 ?_;refine Ad.ghost (A8.trans (A8.freeze 15 rfl rfl) (A8.DN 4 3 195 rfl rfl)) ?_;first|apply Ad.Aw|apply Ad.Bl)|(refine Ad.at 5 ?_;refine Ad.ghost (A8.freeze 13 rfl rfl) ?_;first|apply Ad.Aw|apply Ad.Bl)|(refine Ad.at 22 ?_;refine Ad.ghost (A8.BA 4 3 rfl rfl rfl) ?_;first|apply Ad.Aw|apply Ad.Bl)|apply Ad.assoc|apply Ad.Aw|apply Ad.Bl|apply Ad.region|apply Ad.Aq|apply Ad.Aj|apply AV.normal|apply AP.normal|apply Ad.ret|apply Af.nil|apply Ak.nil|apply Af.one|(apply Ak.bar;decide +kernel)|apply Ak.quiet|(apply Aa.CX (l:=([]:List Seg)) (a:=⟨lo+(x.at_:Int) % (hi-lo+1),hi,[⟨(x.rank:Int) % rk.length,sh-12⟩]⟩);rfl;rfl;rfl;rfl;rfl;rfl;rfl;rfl;(intro _ h;cases h);rfl;rfl;rfl;decide;decide;(first|omega|(simp only [List.length_nil,List.length_cons]<;>omega)))|(apply Aa.fn;rfl;rfl;exact yg;intro _;rfl)|(apply Aa.fn;rfl;rfl;exact q1;intro _;rfl)|(apply Aa.GK;rfl;rfl;rfl;rfl;rfl;omega)|(apply Aa.AO (l:=rk) (i:=x.rank % rk.length);rfl;rfl;rfl;exact hnl;rfl)|(apply Aa.assign;rfl)|(apply Aa.move;rfl)|(apply Aa.BD;rfl;rfl;omega)|(apply Aa.Dq;rfl;rfl;omega)|(apply Aa.Fz;rfl;rfl;omega;omega)|(apply Aa.int;rfl;rfl;rfl)|(apply Aa.load;rfl;rfl)|(apply Aa.Bz;rfl;rfl)|(apply Aa.AA;rfl;rfl;rfl)|(apply Aa.Dk;rfl;rfl)|(apply Aa.box;rfl;trivial)|(apply Aa.alloc;rfl)|(apply Aa.AY;rfl;rfl;rfl;trivial;rfl;rfl;exact Ac rfl;exact le_dec rfl)|(apply Aa.build;rfl;rfl;rfl;rfl;rfl)|(apply Aa.buildSlice;rfl;rfl;rfl;decide;rfl;rfl;rfl)|(apply Aa.TP;rfl;rfl;(first|omega|(simp only [List.length_take,List.length_drop,List.length_append,List.length_singleton,List.length_cons,List.length_nil]<;>omega)))|(apply Aa.extract;rfl;rfl)|(apply Aa.DL;rfl;rfl;rfl;rfl;omega)|(apply Aa.LZ;rfl;rfl;rfl;rfl;omega)|(apply Ad.Ae;rfl)|(apply Ad.AX;rfl)|(intro _;try (exfalso;omega)))
    all_goals first|(exfalso;omega)|contradiction|(refine Done.ret rfl (.refl _) (by first|exact trivial|exact ⟨trivial,trivial,trivial⟩|exact ⟨trivial,trivial,trivial,trivial⟩) Ap.nil (Nat.zero_le _) (Nat.le_refl _) ⟨?_,rfl,rfl⟩;rfl)
   ·exact zG _ (by simp) (Jl ⟨by simp only;omega,by simp only;omega,Int.le_refl _⟩ (H7 dTw))
   ·refine sm _ (by simp) (fun j hj=>?_)
    obtain rfl:j=0:=by simp at hj;omega
    show 1<1000000
    decide
 ·by_cases k3:x.kind % 6=3
  ·refine ⟨⟨LM 83 i,F,[⟨lo,lo+(x.at_:Int) % (hi-lo+1)-1,[⟨(x.rank:Int) % rk.length,sh⟩]⟩,⟨lo+(x.at_:Int) % (hi-lo+1),hi,[⟨((x.rank:Int) % rk.length+1) % rk.length,so⟩]⟩]⟩,?_,rfl,?_,?_,_,h6,hF.symm⟩
   ·refine AQ.enter (Ar (by decide)) Tryz.func74 rfl (by kernel_rfl) (by simp [Tryz.ntmps74]) ?_
    repeat' (first|(refine Ad.at 17 ?_;refine Ad.ghost (A8.trans (A8.freeze 15 rfl rfl) (A8.DN 4 3 195 rfl rfl)) ?_;first|apply Ad.Aw|apply Ad.Bl)|(refine Ad.at 5 ?_;refine Ad.ghost (A8.freeze 13 rfl rfl) ?_;first|apply Ad.Aw|apply Ad.Bl)|(refine Ad.at 22 ?_;refine Ad.ghost (A8.BA 4 3 rfl rfl rfl) ?_;first|apply Ad.Aw|apply Ad.Bl)|apply Ad.assoc|apply Ad.Aw|apply Ad.Bl|apply Ad.region|apply Ad.Aq|apply Ad.Aj|apply AV.normal|apply AP.normal|apply Ad.ret|apply Af.nil|apply Ak.nil|apply Af.one|(apply Ak.bar;decide +kernel)|apply Ak.quiet|(apply Aa.CX (l:=([]:List Seg)) (a:=⟨lo,lo+(x.at_:Int) % (hi-lo+1)-1,[⟨(x.rank:Int) % rk.length,sh⟩]⟩);rfl;rfl;rfl;rfl;rfl;rfl;rfl;rfl;(intro _ h;cases h);rfl;rfl;rfl;decide;decide;(first|omega|(simp only [List.length_nil,List.length_cons]<;>omega)))|(apply Aa.CX (l:=([⟨lo,lo+(x.at_:Int) % (hi-lo+1)-1,[⟨(x.rank:Int) % rk.length,sh⟩]⟩]:List Seg)) (a:=⟨lo+(x.at_:Int) % (hi-lo+1),hi,[⟨((x.rank:Int) % rk.length+1) % rk.length,so⟩]⟩);rfl;rfl;rfl;rfl;rfl;rfl;rfl;rfl;(intro _ h;cases h);rfl;rfl;rfl;decide;decide;(first|omega|(simp only [List.length_nil,List.length_cons]<;>omega)))|(apply Aa.fn;rfl;rfl;exact yg;intro _;rfl)|(apply Aa.fn;rfl;rfl;exact q1;intro _;rfl)|(apply Aa.fn;rfl;rfl;exact q2;intro _;rfl)|(apply Aa.GK;rfl;rfl;rfl;rfl;rfl;omega)|(apply Aa.AO (l:=rk) (i:=x.rank % rk.length);rfl;rfl;rfl;exact hnl;rfl)|(apply Aa.AO (l:=rk) (i:=(x.rank % rk.length+1) % rk.length);rfl;rfl;rfl;exact hml;rfl)|(apply Aa.assign;rfl)|(apply Aa.move;rfl)|(apply Aa.BD;rfl;rfl;omega)|(apply Aa.Dq;rfl;rfl;omega)|(apply Aa.Fz;rfl;rfl;omega;omega)|(apply Aa.int;rfl;rfl;rfl)|(apply Aa.load;rfl;rfl)|(apply Aa.Bz;rfl;rfl)|(apply Aa.AA;rfl;rfl;rfl)|(apply Aa.Dk;rfl;rfl)|(apply Aa.box;rfl;trivial)|(apply Aa.alloc;rfl)|(apply Aa.AY;rfl;rfl;rfl;trivial;rfl;rfl;exact Ac rfl;exact le_dec rfl)|(apply Aa.build;rfl;rfl;rfl;rfl;rfl)|(apply Aa.buildSlice;rfl;rfl;rfl;decide;rfl;rfl;rfl)|(apply Aa.TP;rfl;rfl;(first|omega|(simp only [List.length_take,List.length_drop,List.length_append,List.length_singleton,List.length_cons,List.length_nil]<;>omega)))|(apply Aa.extract;rfl;rfl)|(apply Aa.DL;rfl;rfl;rfl;rfl;omega)|(apply Aa.LZ;rfl;rfl;rfl;rfl;omega)|(apply Ad.Ae;rfl)|(apply Ad.AX;rfl)|(intro _;try (exfalso;omega)))
    all_goals first|(exfalso;omega)|contradiction|(refine Done.ret rfl (.refl _) (by first|exact trivial|exact ⟨trivial,trivial,trivial⟩|exact ⟨trivial,trivial,trivial,trivial⟩) Ap.nil (Nat.zero_le _) (Nat.le_refl _) ⟨?_,rfl,rfl⟩;rfl)
   ·exact zG _ (by simp) (Xh ⟨Int.le_refl _,by simp only;omega,by simp only;omega,by simp only;omega,Int.le_refl _⟩ (H7 aX) (H7 dSo))
   ·refine sm _ (by simp) (fun j hj=>?_)
    have:j=0∨j=1:=by simp at hj;omega
    rcases this with rfl|rfl
    ·show 1<1000000
     decide
    ·show 1<1000000
     decide
  ·refine ⟨⟨LM 83 i,F,[⟨lo,lo+(x.at_:Int) % (hi-lo+1)-1,[⟨(x.rank:Int) % rk.length,sh⟩]⟩,⟨lo+(x.at_:Int) % (hi-lo+1),hi,[⟨(x.rank:Int) % rk.length,sh-12⟩]⟩]⟩,?_,rfl,?_,?_,_,h6,hF.symm⟩
   ·refine AQ.enter (Ar (by decide)) Tryz.func74 rfl (by kernel_rfl) (by simp [Tryz.ntmps74]) ?_
    repeat' (first|(refine Ad.at 17 ?_;refine Ad.ghost (A8.trans (A8.freeze 15 rfl rfl) (A8.DN 4 3 195 rfl rfl)) ?_;first|apply Ad.Aw|apply Ad.Bl)|(refine Ad.at 5 ?_;refine Ad.ghost (A8.freeze 13 rfl rfl) ?_;first|apply Ad.Aw|apply Ad.Bl)|(refine Ad.at 22 ?_;refine Ad.ghost (A8.BA 4 3 rfl rfl rfl) ?_;first|apply Ad.Aw|apply Ad.Bl)|apply Ad.assoc|apply Ad.Aw|apply Ad.Bl|apply Ad.region|apply Ad.Aq|apply Ad.Aj|apply AV.normal|apply AP.normal|apply Ad.ret|apply Af.nil|apply Ak.nil|apply Af.one|(apply Ak.bar;decide +kernel)|apply Ak.quiet|(apply Aa.CX (l:=([]:List Seg)) (a:=⟨lo,lo+(x.at_:Int) % (hi-lo+1)-1,[⟨(x.rank:Int) % rk.length,sh⟩]⟩);rfl;rfl;rfl;rfl;rfl;rfl;rfl;rfl;(intro _ h;cases h);rfl;rfl;rfl;decide;decide;(first|omega|(simp only [List.length_nil,List.length_cons]<;>omega)))|(apply Aa.CX (l:=([⟨lo,lo+(x.at_:Int) % (hi-lo+1)-1,[⟨(x.rank:Int) % rk.length,sh⟩]⟩]:List Seg)) (a:=⟨lo+(x.at_:Int) % (hi-lo+1),hi,[⟨(x.rank:Int) % rk.length,sh-12⟩]⟩);rfl;rfl;rfl;rfl;rfl;rfl;rfl;rfl;(intro _ h;cases h);rfl;rfl;rfl;decide;decide;(first|omega|(simp only [List.length_nil,List.length_cons]<;>omega)))|(apply Aa.fn;rfl;rfl;exact yg;intro _;rfl)|(apply Aa.fn;rfl;rfl;exact q1;intro _;rfl)|(apply Aa.GK;rfl;rfl;rfl;rfl;rfl;omega)|(apply Aa.AO (l:=rk) (i:=x.rank % rk.length);rfl;rfl;rfl;exact hnl;rfl)|(apply Aa.assign;rfl)|(apply Aa.move;rfl)|(apply Aa.BD;rfl;rfl;omega)|(apply Aa.Dq;rfl;rfl;omega)|(apply Aa.Fz;rfl;rfl;omega;omega)|(apply Aa.int;rfl;rfl;rfl)|(apply Aa.load;rfl;rfl)|(apply Aa.Bz;rfl;rfl)|(apply Aa.AA;rfl;rfl;rfl)|(apply Aa.Dk;rfl;rfl)|(apply Aa.box;rfl;trivial)|(apply Aa.alloc;rfl)|(apply Aa.AY;rfl;rfl;rfl;trivial;rfl;rfl;exact Ac rfl;exact le_dec rfl)|(apply Aa.build;rfl;rfl;rfl;rfl;rfl)|(apply Aa.buildSlice;rfl;rfl;rfl;decide;rfl;rfl;rfl)|(apply Aa.TP;rfl;rfl;(first|omega|(simp only [List.length_take,List.length_drop,List.length_append,List.length_singleton,List.length_cons,List.length_nil]<;>omega)))|(apply Aa.extract;rfl;rfl)|(apply Aa.DL;rfl;rfl;rfl;rfl;omega)|(apply Aa.LZ;rfl;rfl;rfl;rfl;omega)|(apply Ad.Ae;rfl)|(apply Ad.AX;rfl)|(intro _;try (exfalso;omega)))
    all_goals first|(exfalso;omega)|contradiction|(refine Done.ret rfl (.refl _) (by first|exact trivial|exact ⟨trivial,trivial,trivial⟩|exact ⟨trivial,trivial,trivial,trivial⟩) Ap.nil (Nat.zero_le _) (Nat.le_refl _) ⟨?_,rfl,rfl⟩;rfl)
   ·exact zG _ (by simp) (Xh ⟨Int.le_refl _,by simp only;omega,by simp only;omega,by simp only;omega,Int.le_refl _⟩ (H7 aX) (H7 dTw))
   ·refine sm _ (by simp) (fun j hj=>?_)
    have:j=0∨j=1:=by simp at hj;omega
    rcases this with rfl|rfl
    ·show 1<1000000
     decide
    ·show 1<1000000
     decide
end Go.Proofs.YtnhdddmhkhdlhaaGreatDoor
namespace Go.Proofs.YtnhdddmhkhdlhaaGreatDoor
open Go Go.Am Go.Vm
attribute [local irreducible] Aa Af Ak Ad Bv AQ BN AV AP Az Vm.Done Cb BH
end Go.Proofs.YtnhdddmhkhdlhaaGreatDoor
namespace Go.Proofs.YtnhdddmhkhdlhaaGreatDoor
open Go Go.Am Go.Vm
attribute [local irreducible] Aa Af Ak Ad Bv AQ BN AV AP Az Vm.Done Cb BH
theorem Vr {α:Type} [Inhabited α] {l r:List α} (hl:l.length=r.length) (h:∀ i,i<l.length→gi l i=gi r i):l=r:=by
 apply List.ext_getElem hl
 intro i h1 h2
 have:=h i h1
 simpa [gi,List.getElem?_eq_getElem h1,List.getElem?_eq_getElem h2] using this
theorem nO (a b:List Int) (ha:a.length<9223372036854775808) (hb:b.length<9223372036854775808):AQ env 19 [.lst 3 (cells a) a.length,.lst 3 (cells b) b.length] (.p (.bool (decide (a=b)))):=by
 refine AQ.enter (Ar (by decide)) Tryz.func19 rfl (by kernel_rfl) (by simp [Tryz.ntmps19]) ?_
 repeat' (first|apply Ad.assoc|apply Ad.Aw|apply Ad.Aq|apply Ad.Bf|apply Ad.Aj|apply Af.nil|apply Af.one|(apply Aa.assign;rfl)|(apply Aa.move;rfl)|(apply Aa.int;rfl;rfl;rfl)|(apply Aa.Bz;rfl;rfl)|(apply Ad.Ae;rfl)|(intro _;try (exfalso;omega)))
 ·rename_i h
  rw [decide_eq_false (fun e=>h (by rw [e]))]
  (refine Done.ret rfl (.refl _) (by first|exact trivial|exact ⟨trivial,trivial,trivial⟩|exact ⟨trivial,trivial,trivial,trivial⟩) Ap.nil (Nat.zero_le _) (Nat.le_refl _) ⟨?_,rfl,rfl⟩;try rfl)
 rename_i h0
 have hlen:a.length=b.length:=by omega
 refine Ad.Ec (fun k:Nat=>[(0,lst 3 a),(1,lst 3 b),(12,.p (.int .i64 (a.length:Int))),(13,.p (.int .i64 (k:Int)))]) (fun _=>[]) 0 (fun k=>k≤a.length∧∀ i,i<k→gi a i=gi b i) (fun k=>a.length-k) 0 (by omega) ⟨by omega,fun i hi=>by omega⟩ ⟨by omega,?_,?_⟩ ?_
 ·repeat (first|exact Ah.nil|refine Ah.same trivial rfl ?_|refine Ah.same (Ac rfl) rfl ?_|refine Ah.same ⟨trivial,Ac rfl,Ac rfl,Ac rfl,trivial⟩ rfl ?_|refine Ah.same ⟨trivial,Ac rfl,Ac rfl,trivial⟩ rfl ?_|refine Ah.same ⟨trivial,trivial⟩ rfl ?_|refine Ah.cons trivial rfl (.of_eq (AL (by simp<;>omega))) ?_)
 ·exact Ap.nil
 rintro k ⟨hk,hok⟩
 repeat' (first|apply Ad.Aw|apply Ad.Bl|apply Ad.region|apply Ad.Aq|apply Ad.Bj|apply Ad.Aj|apply AV.normal|apply AV.ret|apply AP.normal|apply AP.ret|apply AP.exit|apply Az.ret|apply Az.exit|apply Ad.ret|apply Ad.skip|apply Af.nil|apply Ak.nil|apply Af.one|(apply Ak.bar;decide +kernel)|apply Ak.quiet|(apply Aa.assign;rfl)|(apply Aa.move;rfl)|(apply Aa.BD;rfl;rfl;omega)|(apply Aa.int;rfl;rfl;rfl)|(apply Aa.AO;rfl;rfl;rfl;omega;rfl)|(apply Aa.load;rfl;rfl)|(apply Ad.Ae;rfl)|(apply Ad.AX;rfl)|(intro _;try (exfalso;omega)))
 ·rename_i h1 h2
  rw [decide_eq_false (fun e=>h2 (by rw [e]))]
  (refine Done.ret rfl (.refl _) (by first|exact trivial|exact ⟨trivial,trivial,trivial⟩|exact ⟨trivial,trivial,trivial,trivial⟩) Ap.nil (Nat.zero_le _) (Nat.le_refl _) ⟨?_,rfl,rfl⟩;try rfl)
 ·rename_i h1 h2
  refine Az.normal ⟨k+1,⟨by omega,fun i hi=>?_⟩,by omega,⟨by omega,?_,Ap.nil⟩⟩
  ·rcases Nat.lt_or_ge i k with h|h
   ·exact hok i h
   ·obtain rfl:i=k:=by omega
    exact Classical.not_not.1 h2
  ·repeat (first|exact Ah.nil|refine Ah.same trivial rfl ?_|refine Ah.same (Ac rfl) rfl ?_|refine Ah.same ⟨trivial,Ac rfl,Ac rfl,Ac rfl,trivial⟩ rfl ?_|refine Ah.same ⟨trivial,Ac rfl,Ac rfl,trivial⟩ rfl ?_|refine Ah.same ⟨trivial,trivial⟩ rfl ?_|refine Ah.cons trivial rfl (.of_eq (AL (by simp<;>omega))) ?_)
 ·rename_i h1
  rw [decide_eq_true (Vr hlen fun i hi=>hok i (by omega))]
  (refine Done.ret rfl (.refl _) (by first|exact trivial|exact ⟨trivial,trivial,trivial⟩|exact ⟨trivial,trivial,trivial,trivial⟩) Ap.nil (Nat.zero_le _) (Nat.le_refl _) ⟨?_,rfl,rfl⟩;try rfl)
noncomputable instance (a b:Jv):Decidable (a=b):=Classical.propDecidable _
noncomputable instance (a b:Gs):Decidable (a=b):=Classical.propDecidable _
def lnC (i c:Nat):Prop:=Y6 c∨(i≠0∧(c=95∨(48≤c∧c≤57)))
def a0k (r:Gs):Prop:=(r.EC.length≤30∨r.EC.length=129)∧r.name.length≤40∧r.Ht.length≤40
instance (r:Gs):Decidable (a0k r):=by unfold a0k;infer_instance
end Go.Proofs.YtnhdddmhkhdlhaaGreatDoor
namespace Go.Proofs.YtnhdddmhkhdlhaaGreatDoor
open Go Go.Am Go.Vm
attribute [local irreducible] Aa Af Ak Ad Bv AQ BN AV AP Az Vm.Done Cb BH
attribute [local irreducible] Dc BZ nI BK TQ
noncomputable def a5t (r:Gs) (f p:Int):FV×Int:=if TQ r f≠0 then (Jo,TQ r f) else if p<1∨p>r.EC.length-f then (Jo,3) else vH r (r.first+f) ((r.EC.drop f.toNat).take ((f+p).toNat-f.toNat))
noncomputable def a6r (a b:Gs):FV×Int:=if Dc a≠0 then (Jo,Dc a) else if Dc b≠0 then (Jo,Dc b) else if ¬ (a.Ht=b.Ht∧a.Dn=b.Dn) then (Jo,14) else if b.first≠a.first+a.EC.length then (Jo,6) else vH a a.first (a.EC++b.EC)
theorem qX:∀ n,n<3→Du (gi Na n)
 |0,_=>lK
 |1,_=>by
  refine ⟨by decide,by decide,by decide,fun i h1 h2=>?_⟩
  have:i=1∨i=2∨i=3∨i=4:=by simp [Na,gi] at h2;omega
  rcases this with rfl|rfl|rfl|rfl<;>exact .inl (by decide)
 |2,_=>by
  refine ⟨by decide,by decide,by decide,fun i h1 h2=>?_⟩
  have:i=1∨i=2∨i=3:=by simp [Na,gi] at h2;omega
  rcases this with rfl|rfl|rfl<;>exact .inl (by decide)
theorem uU:∀ n,n<16→qR (gi OE n):=by decide +kernel
theorem bD (x:FZ):∀ k i,i<k→gi (Ho x k) i=((gi x.EC (i % 5):Nat):Int)
 |k+1,i,h=>by
  rcases Nat.lt_or_ge i k with h1|h1
  ·have:gi (Ho x (k+1)) i=gi (Ho x k) i:=by simp [Ho,gi,List.getElem?_append_left (show i<(Ho x k).length by rw [FH];exact h1)]
   rw [this];exact bD x k i h1
  ·obtain rfl:i=k:=by omega
   simp [Ho,gi,List.getElem?_append_right (show (Ho x i).length≤i by rw [FH];exact Nat.le_refl _),FH]
theorem yY (x:FZ) (hx:x.Ok) (i:Int) (hi:0≤i):Dc (Ry x i)=0:=by
 obtain ⟨h1,h2,h3,h4,h5⟩:=hx
 refine gJ ⟨by simp [Ry],by simp [Ry],(show Y6 (82:UInt8).toNat by decide),fun j j1 j2=>?_⟩ (qX _ (Nat.mod_lt _ (by decide))) (uU _ (Nat.mod_lt _ (by decide))) ⟨by simp only [Ry];omega,by simp only [Ry];omega⟩ ⟨by simp only [Ry,FH];omega,by simp only [Ry,FH];omega⟩ (fun j hj=>?_)
 ·obtain rfl:j=1:=by simp [Ry] at j2;omega
  have e:(gi (Ry x i).name 1).toNat=(48+i % 10).toNat:=by
   show (UInt8.ofNat (48+i % 10).toNat).toNat=_
   rw [UInt8.toNat_ofNat'];omega
  rw [e]
  right;left;omega
 ·simp only [Ry,FH] at hj ⊢
  rw [bD x _ j hj]
  have:=h5 (j % 5)
  unfold YC
  omega
theorem xJ {α:Type} [Inhabited α] {l:List α} {P:α→Prop} (h:∀ a∈l,P a) {n:Nat} (hn:n<l.length):P (gi l n):=by
 simp only [gi,List.getElem?_eq_getElem hn,Option.getD_some]
 exact h _ (List.getElem_mem hn)
theorem vW (x:FZ) (i:Int):a4i (Ry x i):=by
 refine ⟨by simp [Ry],?_,by simp only [Ry,FH];omega⟩
 show (gi Na (x.Ht % 3)).length<_
 exact Nat.lt_of_le_of_lt (xJ (P:=fun l=>l.length≤5) (by decide) (show x.Ht % 3<Na.length from Nat.mod_lt _ (by decide))) (by decide)
theorem qM (x:FZ) (i:Int):(Ry x i).EC.length≤25:=by simp only [Ry,FH];omega
def a5h:Gs:=⟨[],[],⟨0,0⟩,0,[]⟩
end Go.Proofs.YtnhdddmhkhdlhaaGreatDoor
namespace Go.Proofs.YtnhdddmhkhdlhaaGreatDoor
open Go Go.Am Go.Vm
attribute [local irreducible] Aa Af Ak Ad Bv AQ BN AV AP Az Vm.Done Cb BH
def UH (x:ni):Prop:=(1≤x.ranks.length∧x.ranks.length≤3)∧(1≤x.Au.length∧x.Au.length≤3)∧x.links.length≤3∧∀ i,i<x.Au.length→(gi x.Au i).stops.length≤3
noncomputable instance (x:ni):Decidable (UH x):=Classical.propDecidable _
theorem kX (x:ni) (hx:x.Ok):AQ env 39 [.agg x.enc] (.p (.bool (decide (UH x)))):=by
 have b1:=hx.nr
 have b2:=hx.nd
 have b3:=hx.nl
 refine AQ.enter (Ar (by decide)) Tryz.func39 rfl (by kernel_rfl) (by simp [Tryz.ntmps39]) ?_
 by_cases h0:(1≤x.ranks.length∧x.ranks.length≤3)∧(1≤x.Au.length∧x.Au.length≤3)∧x.links.length≤3
 case neg =>
  rw [decide_eq_false (fun h=>h0 ⟨h.1,h.2.1,h.2.2.1⟩)]
  repeat' (first|apply Ad.assoc|apply Ad.Aw|apply Ad.Bf|apply Af.nil|apply Af.one|(apply Af.take;rfl;rfl)|(apply Af.drop;rfl;rfl;rfl)|(apply Af.guard;rfl;rfl)|(apply Aa.assign;rfl)|(apply Aa.move;rfl)|(apply Aa.int;rfl;rfl;rfl)|(apply Aa.load;rfl;rfl)|(apply Aa.AZ;rfl;rfl)|(apply Aa.AB;rfl;rfl)|(apply Aa.Bz;rfl;rfl)|(apply Aa.AA;rfl;rfl;rfl)|(apply Aa.box;rfl;trivial)|(apply Ad.Bq;rfl)|(apply Ad.Ae;rfl)|(intro _;try (exfalso;omega)))
  all_goals first|(exfalso;omega)|(refine Done.ret rfl (.refl _) (by first|exact trivial|exact ⟨trivial,trivial,trivial⟩|exact ⟨trivial,trivial,trivial,trivial⟩) Ap.nil (Nat.zero_le _) (Nat.le_refl _) ⟨?_,rfl,rfl⟩;try rfl)
 repeat' (first|apply Ad.assoc|apply Ad.Aw|apply Ad.Aq|apply Ad.Aj|apply Af.nil|apply Af.one|(apply Af.take;rfl;rfl)|(apply Af.guard;rfl;rfl)|(apply Aa.assign;rfl)|(apply Aa.move;rfl)|(apply Aa.int;rfl;rfl;rfl)|(apply Aa.load;rfl;rfl)|(apply Aa.AB;rfl;rfl)|(apply Aa.Bz;rfl;rfl)|(apply Aa.AA;rfl;rfl;rfl)|(apply Aa.box;rfl;trivial)|(apply Ad.Ae;rfl)|(intro _;try (exfalso;omega)))
 all_goals try (exfalso;omega)
 refine Ad.Ec (fun k:Nat=>[(1,.ref 0 0),(3,.p (.int .i64 (k:Int)))]) (fun _=>[(0,.box 26 (x.enc.map .p))]) 1 (fun k=>k≤x.Au.length∧∀ i,i<k→(gi x.Au i).stops.length≤3) (fun k=>x.Au.length-k) 0 (by omega) ⟨by omega,fun i hi=>by omega⟩ ⟨by omega,?_,?_⟩ ?_
 ·repeat (first|exact Ah.nil|refine Ah.same trivial rfl ?_|refine Ah.same (Ac rfl) rfl ?_|refine Ah.same ⟨trivial,Ac rfl,Ac rfl,Ac rfl,trivial⟩ rfl ?_|refine Ah.same ⟨trivial,Ac rfl,Ac rfl,trivial⟩ rfl ?_|refine Ah.same ⟨trivial,trivial⟩ rfl ?_|refine Ah.cons trivial rfl (.of_eq (AL (by simp<;>omega))) ?_)
 ·repeat (first|exact Ap.nil|(refine Ap.cons (Ac rfl) ?_ rfl ?_ ?_;(first|exact trivial|exact Ba.Ai _ _|(simp [HB.under,Ba.under,PV.under]));(first|exact BG.refl _|exact BG.vec (Bo.refl _) (by simp))))
 rintro k ⟨hk,hok⟩
 by_cases hkl:k<x.Au.length
 ·have hst:=(hx.Au k hkl).stops
  by_cases h1:(gi x.Au k).stops.length≤3
  ·repeat' (first|apply Ad.assoc|apply Ad.Aw|apply Ad.region|apply Ad.Aq|apply Ad.Aj|apply AV.normal|apply AP.normal|apply Ad.skip|apply Af.nil|apply Af.one|(apply Aa.assign;rfl)|(apply Aa.move;rfl)|(apply Aa.BD;rfl;rfl;omega)|(apply Aa.int;rfl;rfl;rfl)|(apply Aa.AO;rfl;rfl;rfl;omega;rfl)|(apply Aa.load;rfl;rfl)|(apply Aa.Bz;rfl;rfl)|(apply Aa.AA;rfl;rfl;rfl)|(apply Aa.Dk;rfl;rfl)|(apply Ad.Ae;rfl)|(apply Ad.AX;rfl)|(intro _;try (exfalso;omega)))
   all_goals try (exfalso;omega)
   refine Az.normal ⟨k+1,⟨by omega,fun i hi=>?_⟩,by omega,⟨by omega,?_,?_⟩⟩
   ·rcases Nat.lt_or_ge i k with h|h
    ·exact hok i h
    ·obtain rfl:i=k:=by omega
     exact h1
   ·repeat (first|exact Ah.nil|refine Ah.same trivial rfl ?_|refine Ah.same (Ac rfl) rfl ?_|refine Ah.same ⟨trivial,Ac rfl,Ac rfl,Ac rfl,trivial⟩ rfl ?_|refine Ah.same ⟨trivial,Ac rfl,Ac rfl,trivial⟩ rfl ?_|refine Ah.same ⟨trivial,trivial⟩ rfl ?_|refine Ah.cons trivial rfl (.of_eq (AL (by simp<;>omega))) ?_)
   ·repeat (first|exact Ap.nil|(refine Ap.cons (Ac rfl) ?_ rfl ?_ ?_;(first|exact trivial|exact Ba.Ai _ _|(simp [HB.under,Ba.under,PV.under]));(first|exact BG.refl _|exact BG.vec (Bo.refl _) (by simp))))
  ·rw [decide_eq_false (fun h=>h1 (h.2.2.2 k hkl))]
   repeat' (first|apply Ad.assoc|apply Ad.Aw|apply Ad.Aq|apply Ad.Aj|apply AV.ret|apply AP.ret|apply Az.ret|apply Ad.ret|apply Af.nil|apply Af.one|(apply Aa.assign;rfl)|(apply Aa.move;rfl)|(apply Aa.int;rfl;rfl;rfl)|(apply Aa.AO;rfl;rfl;rfl;omega;rfl)|(apply Aa.load;rfl;rfl)|(apply Aa.Bz;rfl;rfl)|(apply Aa.AA;rfl;rfl;rfl)|(apply Aa.Dk;rfl;rfl)|(apply Ad.Ae;rfl)|(apply Ad.AX;rfl)|(intro _;try (exfalso;omega)))
   all_goals first|(exfalso;omega)|(refine Done.ret rfl (.refl _) (by first|exact trivial|exact ⟨trivial,trivial,trivial⟩|exact ⟨trivial,trivial,trivial,trivial⟩) Ap.nil (Nat.zero_le _) (Nat.le_refl _) ⟨?_,rfl,rfl⟩;try rfl)
 ·rw [decide_eq_true (show UH x from ⟨h0.1,h0.2.1,h0.2.2,fun i hi=>hok i (by omega)⟩)]
  repeat' (first|apply Ad.assoc|apply Ad.Aw|apply Ad.Bj|apply AV.normal|apply AP.exit|apply Az.exit|apply Ad.ret|apply Af.nil|apply Af.one|(apply Aa.assign;rfl)|(apply Aa.move;rfl)|(apply Aa.int;rfl;rfl;rfl)|(apply Aa.load;rfl;rfl)|(apply Aa.Bz;rfl;rfl)|(apply Aa.AA;rfl;rfl;rfl)|(apply Ad.Ae;rfl)|(intro _;try (exfalso;omega)))
  all_goals first|(exfalso;omega)|(refine Done.ret rfl (.refl _) (by first|exact trivial|exact ⟨trivial,trivial,trivial⟩|exact ⟨trivial,trivial,trivial,trivial⟩) Ap.nil (Nat.zero_le _) (Nat.le_refl _) ⟨?_,rfl,rfl⟩;try rfl)
def oz (rk:List Gs) (lo hi:Int) (x:kZ) (i:Nat) (s:Stp):Prop :=
 AQ env 74 [.lst 123 (cells rk) rk.length,.agg [.int .i64 lo,.int .i64 hi],.agg (Enc.enc x),.int .i64 (i:Int)] (.p (.agg (Enc.enc s)))∧s.name=LM 83 i∧EL rk lo hi s=0∧Xm s∧∃ a,a<6∧s.Dn=gi Oz a
noncomputable def PX (rk:List Gs) (lo hi:Int) (x:kZ) (i:Nat):Stp:=Classical.epsilon (h:=⟨default⟩) (oz rk lo hi x i)
theorem VB (rk:List Gs) (lo hi:Int) (x:kZ) (i:Nat) (hrk:jE rk) (hc:0≤lo∧lo≤hi∧hi≤127) (hx:x.Ok) (hi9:i≤9):oz rk lo hi x i (PX rk lo hi x i) :=
 Classical.epsilon_spec (vT rk lo hi x i hrk hc hx hi9)
def Eo (l:List FZ):Nat→List Gs
 |0=>[]
 |k+1=>Eo l k++[Ry (gi l k) (k:Int)]
noncomputable def Gf (rk:List Gs) (lo hi:Int) (l:List kZ):Nat→List Stp
 |0=>[]
 |k+1=>Gf rk lo hi l k++[PX rk lo hi (gi l k) k]
def Es (b:mJ):Int:=36+(b.low:Int) % 12
def EI (b:mJ):Int:=Es b+(b.keys:Int) % 9
noncomputable def ZT (rk:List Gs) (b:mJ) (k:Nat):Y3:=⟨LM 68 (k:Int),b.Xo,Es b,EI b,Gf rk (Es b) (EI b) b.stops b.stops.length⟩
noncomputable def Gp (rk:List Gs) (l:List mJ):Nat→List Y3
 |0=>[]
 |k+1=>Gp rk l k++[ZT rk (gi l k) k]
def Uc (n:Nat) (c:nV) (k:Nat):YL:=⟨LM 67 (k:Int),(c.RD:Int) % n,(c.tgt:Int) % n,if (c.RD:Int) % n=(c.tgt:Int) % n∧c.shift.tmod 25=0 then 12 else c.shift.tmod 25,c.through⟩
def EJ (n:Nat) (l:List nV):Nat→List YL
 |0=>[]
 |k+1=>EJ n l k++[Uc n (gi l k) k]
theorem Io (l:List FZ):∀ k,(Eo l k).length=k
 |0=>rfl
 |k+1=>by simp [Eo,Io l k]
theorem GV (rk:List Gs) (lo hi:Int) (l:List kZ):∀ k,(Gf rk lo hi l k).length=k
 |0=>rfl
 |k+1=>by simp [Gf,GV rk lo hi l k]
theorem KJ (rk:List Gs) (l:List mJ):∀ k,(Gp rk l k).length=k
 |0=>rfl
 |k+1=>by simp [Gp,KJ rk l k]
theorem Oc (n:Nat) (l:List nV):∀ k,(EJ n l k).length=k
 |0=>rfl
 |k+1=>by simp [EJ,Oc n l k]
noncomputable def Y4 (x:ni):EN:=⟨[79,114,103,97,110],Eo x.ranks x.ranks.length,Gp (Eo x.ranks x.ranks.length) x.Au x.Au.length,EJ x.Au.length x.links x.links.length⟩
theorem GL {α:Type} [Inhabited α] {l:List α} {a:α} {i:Nat}:gi (l++[a]) i=if i<l.length then gi l i else if i=l.length then a else default:=by
 by_cases h:i<l.length
 ·rw [if_pos h];simp [gi,List.getElem?_append_left h]
 ·rw [if_neg h]
  by_cases h2:i=l.length
  ·rw [if_pos h2,h2];simp [gi]
  ·rw [if_neg h2];simp [gi,List.getElem?_append_right (show l.length≤i by omega),show ¬ i-l.length=0 by omega]
theorem RN (l:List FZ):∀ k i,i<k→gi (Eo l k) i=Ry (gi l i) (i:Int)
 |k+1,i,h=>by
  simp only [Eo,GL,Io]
  by_cases h1:i<k
  ·rw [if_pos h1];exact RN l k i h1
  ·obtain rfl:i=k:=by omega
   simp
theorem WV {l:List FZ} (h:∀ i,i<l.length→(gi l i).Ok) (hl:0<l.length∧l.length≤3):jE (Eo l l.length):=by
 refine ⟨by rw [Io];exact hl,fun i hi=>?_⟩
 rw [Io] at hi
 rw [RN l _ i hi]
 exact ⟨yY _ (h i hi) _ (by omega),(gi l i).Dn % 16,Nat.mod_lt _ (by decide),rfl⟩
end Go.Proofs.YtnhdddmhkhdlhaaGreatDoor
namespace Go.Proofs.YtnhdddmhkhdlhaaGreatDoor
open Go Go.Am Go.Vm
attribute [local irreducible] Aa Af Ak Ad Bv AQ BN AV AP Az Vm.Done Cb BH
attribute [local irreducible] Ry PX
def a5w (a b c:PV):Vm.HB:=.box 40 [.p (.str (bs [79,114,103,97,110])),a,b,c]
def a7n:Vm.HB:=.box 40 [.p (.str ⟨#[]⟩),.p (.val (.slice none 0 0)),.p (.val (.slice none 0 0)),.p (.val (.slice none 0 0))]
theorem aC (x:ni) (hx:x.Ok) (hf:UH x):AQ env 40 [.agg x.enc] (.p (.agg (Enc.enc (Y4 x)))):=by
 obtain ⟨hf1,hf2,hf3,hf4⟩:=hf
 have hR:=WV hx.ranks (by omega)
 refine AQ.enter (Ar (by decide)) Tryz.func40 rfl (by kernel_rfl) (by simp [Tryz.ntmps40]) ?_
 repeat' (first|apply Ad.assoc|apply Ad.Aw|apply Ad.Aj|apply Af.nil|apply Af.one|(apply Aa.assign;rfl)|(apply Aa.box;rfl;trivial)|(apply Aa.alloc;rfl)|(apply Aa.AY;rfl;rfl;rfl;trivial;rfl;rfl;exact Ac rfl;exact le_dec rfl)|(apply Aa.build;rfl;rfl;rfl;rfl;rfl))
 refine Ad.ghost (A8.DN 2 1 123 rfl rfl) ?_
 refine Ad.Ec (fun k:Nat=>[(1,.ref 0 0),(2,.ref 1 0),(3,.ref 2 0),(4,.p (.int .i64 (k:Int)))]) (fun k=>[(3,.vec 123 (cells (Eo x.ranks k)) (Eo x.ranks k).length true),(2,.box 40 [.p (.str (bs [79,114,103,97,110])),.vec 3 (Eo x.ranks k).length 0 (Eo x.ranks k).length,.p (.val (.slice none 0 0)),.p (.val (.slice none 0 0))]),(1,.box 40 [.p (.str ⟨#[]⟩),.p (.val (.slice none 0 0)),.p (.val (.slice none 0 0)),.p (.val (.slice none 0 0))]),(0,.box 26 (x.enc.map .p))]) 4 (fun k=>k≤x.ranks.length) (fun k=>x.ranks.length-k) 0 (by omega) (by omega) ⟨by omega,?_,?_⟩ ?_
 ·repeat (first|exact Ah.nil|refine Ah.same trivial rfl ?_|refine Ah.same (Ac rfl) rfl ?_|refine Ah.same ⟨trivial,Ac rfl,Ac rfl,Ac rfl,trivial⟩ rfl ?_|refine Ah.same ⟨trivial,Ac rfl,Ac rfl,trivial⟩ rfl ?_|refine Ah.same ⟨trivial,trivial⟩ rfl ?_|refine Ah.cons trivial rfl (.of_eq (AL (by simp<;>omega))) ?_)
 ·repeat (first|exact Ap.nil|(refine Ap.cons (Ac rfl) ?_ rfl ?_ ?_;(first|exact trivial|exact Ba.Ai _ _|(simp [HB.under,Ba.under,PV.under]));(first|exact BG.refl _|exact BG.vec (Bo.refl _) (by simp))))
 intro k hk
 have hl:=Io x.ranks k
 have e1:Eo x.ranks (k+1)=Eo x.ranks k++[Ry (gi x.ranks k) (k:Int)]:=rfl
 have e2:(Eo x.ranks (k+1)).length=(Eo x.ranks k).length+1:=by rw [e1];simp
 by_cases hkl:k<x.ranks.length
 ·have hm:=jX (gi x.ranks k) (hx.ranks k hkl) k ⟨by omega,by omega⟩
  repeat' (first|apply Ad.assoc|apply Ad.Aw|apply Ad.region|apply Ad.Di|apply Ad.Aq|apply Ad.Aj|apply AV.normal|apply AP.normal|apply Af.nil|apply Ak.nil|apply Af.one|(apply Ak.bar;decide +kernel)|apply Ak.quiet|(apply Aa.fn;rfl;rfl;exact hm;intro _;rfl)|(apply Aa.CX (a:=Ry (gi x.ranks k) (k:Int));rfl;rfl;rfl;rfl;rfl;rfl;rfl;rfl;(intro _ h;cases h);rfl;rfl;rfl;decide;decide;(first|omega|(simp only [List.length_take,List.length_drop,List.length_append,List.length_singleton,List.length_cons,List.length_nil]<;>omega)))|(apply Aa.assign;rfl)|(apply Aa.move;rfl)|(apply Aa.BD;rfl;rfl;omega)|(apply Aa.int;rfl;rfl;rfl)|(apply Aa.AO;rfl;rfl;rfl;omega;rfl)|(apply Aa.load;rfl;rfl)|(apply Aa.Bz;rfl;rfl)|(apply Aa.AA;rfl;rfl;rfl)|(apply Aa.AY;rfl;rfl;rfl;trivial;rfl;rfl;exact Ac rfl;exact le_dec rfl)|(apply Aa.buildSlice;rfl;rfl;rfl;decide;rfl;rfl;rfl)|(apply Ad.Ae;rfl)|(intro _;try (exfalso;omega)))
  all_goals try (exfalso;omega)
  refine Az.normal ⟨k+1,by omega,by omega,⟨by omega,?_,?_⟩⟩
  ·repeat (first|exact Ah.nil|refine Ah.same trivial rfl ?_|refine Ah.same (Ac rfl) rfl ?_|refine Ah.same ⟨trivial,Ac rfl,Ac rfl,Ac rfl,trivial⟩ rfl ?_|refine Ah.same ⟨trivial,Ac rfl,Ac rfl,trivial⟩ rfl ?_|refine Ah.same ⟨trivial,trivial⟩ rfl ?_|refine Ah.cons trivial rfl (.of_eq (AL (by simp<;>omega))) ?_)
  ·rw [e2,e1];repeat (first|exact Ap.nil|(refine Ap.cons (Ac rfl) ?_ rfl ?_ ?_;(first|exact trivial|exact Ba.Ai _ _|(simp [HB.under,Ba.under,PV.under]));(first|exact BG.refl _|exact BG.vec (Bo.refl _) (by simp))))
 obtain rfl:k=x.ranks.length:=by omega
 clear e1 e2 hl hkl hk
 have eO:Y4 x=⟨[79,114,103,97,110],Eo x.ranks x.ranks.length,Gp (Eo x.ranks x.ranks.length) x.Au x.Au.length,EJ x.Au.length x.links x.links.length⟩:=rfl
 rw [eO]
 generalize Eo x.ranks x.ranks.length=R at *
 clear eO
 repeat' (first|(refine Ad.at 6 ?_;refine Ad.ghost (A8.trans (A8.BA 2 1 rfl rfl rfl) (A8.trans (A8.DN 2 2 111 rfl rfl) (A8.DN 2 3 129 rfl rfl))) ?_;first|apply Ad.Aw|apply Ad.Bl)|apply Ad.assoc|apply Ad.Aw|apply Ad.Bj|apply Ad.Aj|apply AV.normal|apply AP.exit|apply Az.exit|apply Af.nil|apply Af.one|(apply Aa.assign;rfl)|(apply Aa.move;rfl)|(apply Aa.int;rfl;rfl;rfl)|(apply Aa.load;rfl;rfl)|(apply Aa.Bz;rfl;rfl)|(apply Aa.AA;rfl;rfl;rfl)|(apply Ad.Ae;rfl)|(intro _;try (exfalso;omega)))
 all_goals try (exfalso;omega)
 refine Ad.Ec (fun k:Nat=>[(1,.ref 0 0),(2,.ref 1 0),(3,.ref 2 0),(5,.p (.int .i64 (k:Int)))]) (fun k=>[(5,.vec 129 [] 0 true),(4,.vec 111 (cells (Gp R x.Au k)) (Gp R x.Au k).length true),(2,.box 40 [.p (.str (bs [79,114,103,97,110])),.p (.lst 123 (cells R) R.length),.vec 4 (Gp R x.Au k).length 0 (Gp R x.Au k).length,.vec 5 0 0 0]),(1,.box 40 [.p (.str ⟨#[]⟩),.p (.val (.slice none 0 0)),.p (.val (.slice none 0 0)),.p (.val (.slice none 0 0))]),(0,.box 26 (x.enc.map .p))]) 6 (fun k=>k≤x.Au.length) (fun k=>x.Au.length-k) 0 (by omega) (by omega) ⟨by omega,?_,?_⟩ ?_
 ·repeat (first|exact Ah.nil|refine Ah.same trivial rfl ?_|refine Ah.same (Ac rfl) rfl ?_|refine Ah.same ⟨trivial,Ac rfl,Ac rfl,Ac rfl,trivial⟩ rfl ?_|refine Ah.same ⟨trivial,Ac rfl,Ac rfl,trivial⟩ rfl ?_|refine Ah.same ⟨trivial,trivial⟩ rfl ?_|refine Ah.cons trivial rfl (.of_eq (AL (by simp<;>omega))) ?_)
 ·repeat (first|exact Ap.nil|(refine Ap.cons (Ac rfl) ?_ rfl ?_ ?_;(first|exact trivial|exact Ba.Ai _ _|(simp [HB.under,Ba.under,PV.under]));(first|exact BG.refl _|exact BG.vec (Bo.refl _) (by simp))))
 intro k hk
 have hl:=KJ R x.Au k
 have e1:Gp R x.Au (k+1)=Gp R x.Au k++[ZT R (gi x.Au k) k]:=rfl
 have e2:(Gp R x.Au (k+1)).length=(Gp R x.Au k).length+1:=by rw [e1];simp
 by_cases hkl:k<x.Au.length
 ·obtain ⟨q1,q2,q3,q4⟩:=hx.Au k hkl
  have q5:=hf4 k hkl
  have eD:ZT R (gi x.Au k) k=⟨LM 68 (k:Int),(gi x.Au k).Xo,Es (gi x.Au k),EI (gi x.Au k),Gf R (Es (gi x.Au k)) (EI (gi x.Au k)) (gi x.Au k).stops (gi x.Au k).stops.length⟩:=rfl
  have hlo:0≤Es (gi x.Au k)∧Es (gi x.Au k)≤EI (gi x.Au k)∧EI (gi x.Au k)≤127:=by unfold EI Es;omega
  have hst:(gi x.Au k).stops.length≤3:=q5
  repeat' (first|apply Ad.assoc|apply Ad.Aw|apply Ad.Aq|apply Ad.Aj|apply Af.nil|apply Af.one|(apply Aa.GK;rfl;rfl;rfl;rfl;rfl;omega)|(apply Aa.assign;rfl)|(apply Aa.move;rfl)|(apply Aa.BD;rfl;rfl;omega)|(apply Aa.Fz;rfl;rfl;omega;omega)|(apply Aa.int;rfl;rfl;rfl)|(apply Aa.AO;rfl;rfl;rfl;omega;rfl)|(apply Aa.load;rfl;rfl)|(apply Aa.Bz;rfl;rfl)|(apply Aa.AA;rfl;rfl;rfl)|(apply Aa.alloc;rfl)|(apply Aa.AY;rfl;rfl;rfl;trivial;rfl;rfl;exact Ac rfl;exact le_dec rfl)|(apply Aa.build;rfl;rfl;rfl;rfl;rfl)|(apply Aa.buildSlice;rfl;rfl;rfl;decide;rfl;rfl;rfl)|(apply Aa.TP;rfl;rfl;(first|omega|(simp only [List.length_take,List.length_drop,List.length_append,List.length_singleton,List.length_cons,List.length_nil]<;>omega)))|(apply Aa.DL;rfl;rfl;rfl;rfl;omega)|(apply Aa.LZ;rfl;rfl;rfl;rfl;omega)|(apply Ad.Ae;rfl)|(intro _;try (exfalso;omega)))
  all_goals try (exfalso;omega)
  refine Ad.ghost (A8.DN 8 4 127 rfl rfl) ?_
  refine Ad.Ec (fun j:Nat=>[(1,.ref 0 0),(2,.ref 1 0),(3,.ref 2 0),(5,.p (.int .i64 (k:Int))),(6,.ref 6 0),(7,.p (.int .i64 (Es (gi x.Au k)))),(8,.ref 8 0),(9,.p (.int .i64 (j:Int)))]) (fun j=>[(9,.vec 127 (cells (Gf R (Es (gi x.Au k)) (EI (gi x.Au k)) (gi x.Au k).stops j)) (Gf R (Es (gi x.Au k)) (EI (gi x.Au k)) (gi x.Au k).stops j).length true),(8,.box 111 [.p (.str (bs (LM 68 (k:Int)))),.p (.bool (gi x.Au k).Xo),.p (.int .i64 (Es (gi x.Au k))),.p (.int .i64 (EI (gi x.Au k))),.vec 9 (Gf R (Es (gi x.Au k)) (EI (gi x.Au k)) (gi x.Au k).stops j).length 0 (Gf R (Es (gi x.Au k)) (EI (gi x.Au k)) (gi x.Au k).stops j).length]),(6,.box 163 ((Enc.enc (gi x.Au k)).map .p)),(5,.vec 129 [] 0 true),(4,.vec 111 (cells (Gp R x.Au k)) (Gp R x.Au k).length true),(2,.box 40 [.p (.str (bs [79,114,103,97,110])),.p (.lst 123 (cells R) R.length),.vec 4 (Gp R x.Au k).length 0 (Gp R x.Au k).length,.vec 5 0 0 0]),(1,.box 40 [.p (.str ⟨#[]⟩),.p (.val (.slice none 0 0)),.p (.val (.slice none 0 0)),.p (.val (.slice none 0 0))]),(0,.box 26 (x.enc.map .p))]) 10 (fun j=>j≤(gi x.Au k).stops.length) (fun j=>(gi x.Au k).stops.length-j) 0 (by omega) (by omega) ⟨by omega,?_,?_⟩ ?_
  ·repeat (first|exact Ah.nil|refine Ah.same trivial rfl ?_|refine Ah.same (Ac rfl) rfl ?_|refine Ah.same ⟨trivial,Ac rfl,Ac rfl,Ac rfl,trivial⟩ rfl ?_|refine Ah.same ⟨trivial,Ac rfl,Ac rfl,trivial⟩ rfl ?_|refine Ah.same ⟨trivial,trivial⟩ rfl ?_|refine Ah.cons trivial rfl (.of_eq (AL (by simp<;>omega))) ?_)
  ·repeat (first|exact Ap.nil|(refine Ap.cons (Ac rfl) ?_ rfl ?_ ?_;(first|exact trivial|exact Ba.Ai _ _|(simp [HB.under,Ba.under,PV.under]));(first|exact BG.refl _|exact BG.vec (Bo.refl _) (by simp))))
  intro j hj
  have jl:=GV R (Es (gi x.Au k)) (EI (gi x.Au k)) (gi x.Au k).stops j
  have j1:Gf R (Es (gi x.Au k)) (EI (gi x.Au k)) (gi x.Au k).stops (j+1)=Gf R (Es (gi x.Au k)) (EI (gi x.Au k)) (gi x.Au k).stops j++[PX R (Es (gi x.Au k)) (EI (gi x.Au k)) (gi (gi x.Au k).stops j) j]:=rfl
  have j2:(Gf R (Es (gi x.Au k)) (EI (gi x.Au k)) (gi x.Au k).stops (j+1)).length=(Gf R (Es (gi x.Au k)) (EI (gi x.Au k)) (gi x.Au k).stops j).length+1:=by rw [j1];simp
  by_cases hjl:j<(gi x.Au k).stops.length
  ·have hp:=(VB R (Es (gi x.Au k)) (EI (gi x.Au k)) (gi (gi x.Au k).stops j) j hR hlo (q4 j hjl) (by omega)).1
   repeat' (first|apply Ad.assoc|apply Ad.Aw|apply Ad.region|apply Ad.Di|apply Ad.Aq|apply Ad.Aj|apply AV.normal|apply AP.normal|apply Af.nil|apply Ak.nil|apply Af.one|(apply Ak.bar;decide +kernel)|apply Ak.quiet|(apply Aa.fn;rfl;rfl;exact hp;intro _;rfl)|(apply Aa.CX (a:=PX R (Es (gi x.Au k)) (EI (gi x.Au k)) (gi (gi x.Au k).stops j) j);rfl;rfl;rfl;rfl;rfl;rfl;rfl;rfl;(intro _ h;cases h);rfl;rfl;rfl;decide;decide;(first|omega|(simp only [List.length_take,List.length_drop,List.length_append,List.length_singleton,List.length_cons,List.length_nil]<;>omega)))|(apply Aa.assign;rfl)|(apply Aa.move;rfl)|(apply Aa.BD;rfl;rfl;omega)|(apply Aa.int;rfl;rfl;rfl)|(apply Aa.AO;rfl;rfl;rfl;omega;rfl)|(apply Aa.load;rfl;rfl)|(apply Aa.Bz;rfl;rfl)|(apply Aa.AA;rfl;rfl;rfl)|(apply Aa.AY;rfl;rfl;rfl;trivial;rfl;rfl;exact Ac rfl;exact le_dec rfl)|(apply Aa.buildSlice;rfl;rfl;rfl;decide;rfl;rfl;rfl)|(apply Ad.Ae;rfl)|(intro _;try (exfalso;omega)))
   all_goals try (exfalso;omega)
   refine Az.normal ⟨j+1,by omega,by omega,⟨by omega,?_,?_⟩⟩
   ·repeat (first|exact Ah.nil|refine Ah.same trivial rfl ?_|refine Ah.same (Ac rfl) rfl ?_|refine Ah.same ⟨trivial,Ac rfl,Ac rfl,Ac rfl,trivial⟩ rfl ?_|refine Ah.same ⟨trivial,Ac rfl,Ac rfl,trivial⟩ rfl ?_|refine Ah.same ⟨trivial,trivial⟩ rfl ?_|refine Ah.cons trivial rfl (.of_eq (AL (by simp<;>omega))) ?_)
   ·rw [j2,j1];repeat (first|exact Ap.nil|(refine Ap.cons (Ac rfl) ?_ rfl ?_ ?_;(first|exact trivial|exact Ba.Ai _ _|(simp [HB.under,Ba.under,PV.under]));(first|exact BG.refl _|exact BG.vec (Bo.refl _) (by simp))))
  obtain rfl:j=(gi x.Au k).stops.length:=by omega
  repeat' (first|(refine Ad.atEnd 16 ?_;refine Ad.ghost (A8.BA 8 4 rfl rfl rfl) ?_;first|apply Ad.region|apply Ad.Di)|apply Ad.assoc|apply Ad.Aw|apply Ad.region|apply Ad.Bj|apply AV.normal|apply AP.normal|apply AP.exit|apply Az.exit|apply Af.nil|apply Af.one|(apply Aa.CX (a:=ZT R (gi x.Au k) k);rfl;rfl;rfl;rfl;rfl;rfl;rfl;rfl;(intro _ h;cases h);rfl;rfl;rfl;decide;decide;(first|omega|(simp only [List.length_take,List.length_drop,List.length_append,List.length_singleton,List.length_cons,List.length_nil]<;>omega)))|(apply Aa.assign;rfl)|(apply Aa.move;rfl)|(apply Aa.BD;rfl;rfl;omega)|(apply Aa.int;rfl;rfl;rfl)|(apply Aa.load;rfl;rfl)|(apply Aa.Bz;rfl;rfl)|(apply Aa.AA;rfl;rfl;rfl)|(apply Aa.AY;rfl;rfl;rfl;trivial;rfl;rfl;exact Ac rfl;exact le_dec rfl)|(apply Aa.buildSlice;rfl;rfl;rfl;decide;rfl;rfl;rfl)|(apply Ad.Ae;rfl)|(intro _;try (exfalso;omega)))
  all_goals try (exfalso;omega)
  refine Az.normal ⟨k+1,by omega,by omega,⟨by omega,?_,?_⟩⟩
  ·repeat (first|exact Ah.nil|refine Ah.same trivial rfl ?_|refine Ah.same (Ac rfl) rfl ?_|refine Ah.same ⟨trivial,Ac rfl,Ac rfl,Ac rfl,trivial⟩ rfl ?_|refine Ah.same ⟨trivial,Ac rfl,Ac rfl,trivial⟩ rfl ?_|refine Ah.same ⟨trivial,trivial⟩ rfl ?_|refine Ah.cons trivial rfl (.of_eq (AL (by simp<;>omega))) ?_)
  ·rw [e2,e1];repeat (first|exact Ap.nil|(refine Ap.cons (Ac rfl) ?_ rfl ?_ ?_;(first|exact trivial|exact Ba.Ai _ _|(simp [HB.under,Ba.under,PV.under]));(first|exact BG.refl _|exact BG.vec (Bo.refl _) (by simp))))
 obtain rfl:k=x.Au.length:=by omega
 clear e1 e2 hl hkl hk
 have hDl:=KJ R x.Au x.Au.length
 generalize Gp R x.Au x.Au.length=D at *
 repeat' (first|(refine Ad.at 17 ?_;refine Ad.ghost (A8.BA 2 2 rfl rfl rfl) ?_;first|apply Ad.Aw|apply Ad.Bl)|apply Ad.assoc|apply Ad.Aw|apply Ad.Bj|apply Ad.Aj|apply AV.normal|apply AP.exit|apply Az.exit|apply Af.nil|apply Af.one|(apply Aa.assign;rfl)|(apply Aa.move;rfl)|(apply Aa.int;rfl;rfl;rfl)|(apply Aa.load;rfl;rfl)|(apply Aa.Bz;rfl;rfl)|(apply Aa.AA;rfl;rfl;rfl)|(apply Ad.Ae;rfl)|(intro _;try (exfalso;omega)))
 all_goals try (exfalso;omega)
 refine Ad.Ec (fun k:Nat=>[(1,.ref 0 0),(2,.ref 1 0),(3,.ref 2 0),(10,.p (.int .i64 (x.Au.length:Int))),(11,.p (.int .i64 (k:Int)))]) (fun k=>[(5,.vec 129 (cells (EJ x.Au.length x.links k)) (EJ x.Au.length x.links k).length true),(2,.box 40 [.p (.str (bs [79,114,103,97,110])),.p (.lst 123 (cells R) R.length),.p (.lst 111 (cells D) D.length),.vec 5 (EJ x.Au.length x.links k).length 0 (EJ x.Au.length x.links k).length]),(1,.box 40 [.p (.str ⟨#[]⟩),.p (.val (.slice none 0 0)),.p (.val (.slice none 0 0)),.p (.val (.slice none 0 0))]),(0,.box 26 (x.enc.map .p))]) 6 (fun k=>k≤x.links.length) (fun k=>x.links.length-k) 0 (by omega) (by omega) ⟨by omega,?_,?_⟩ ?_
 ·repeat (first|exact Ah.nil|refine Ah.same trivial rfl ?_|refine Ah.same (Ac rfl) rfl ?_|refine Ah.same ⟨trivial,Ac rfl,Ac rfl,Ac rfl,trivial⟩ rfl ?_|refine Ah.same ⟨trivial,Ac rfl,Ac rfl,trivial⟩ rfl ?_|refine Ah.same ⟨trivial,trivial⟩ rfl ?_|refine Ah.cons trivial rfl (.of_eq (AL (by simp<;>omega))) ?_)
 ·repeat (first|exact Ap.nil|(refine Ap.cons (Ac rfl) ?_ rfl ?_ ?_;(first|exact trivial|exact Ba.Ai _ _|(simp [HB.under,Ba.under,PV.under]));(first|exact BG.refl _|exact BG.vec (Bo.refl _) (by simp))))
 intro k hk
 have hl:=Oc x.Au.length x.links k
 by_cases hkl:k<x.links.length
 ·obtain ⟨q1,q2,q3⟩:=hx.links k hkl
  have hne:((gi x.links k).RD:Int) % x.Au.length≥0:=Int.emod_nonneg _ (by omega)
  by_cases c1:((gi x.links k).RD:Int) % x.Au.length=((gi x.links k).tgt:Int) % x.Au.length
  ·by_cases c2:(gi x.links k).shift.tmod 25=0
   ·have e1:EJ x.Au.length x.links (k+1)=EJ x.Au.length x.links k++[(⟨LM 67 (k:Int),((gi x.links k).RD:Int) % x.Au.length,((gi x.links k).tgt:Int) % x.Au.length,12,(gi x.links k).through⟩:YL)]:=by
     show EJ x.Au.length x.links k++[Uc x.Au.length (gi x.links k) k]=_
     unfold Uc
     rw [if_pos ⟨c1,c2⟩]
    have e2:(EJ x.Au.length x.links (k+1)).length=(EJ x.Au.length x.links k).length+1:=by rw [e1];simp
    repeat' (first|apply Ad.assoc|apply Ad.Aw|apply Ad.Bl|apply Ad.region|apply Ad.Aq|apply Ad.Aj|apply AV.normal|apply AP.normal|apply Af.nil|apply Ak.nil|apply Af.one|(apply Ak.bar;decide +kernel)|apply Ak.quiet|(apply Af.take;rfl;rfl)|(apply Af.guard;rfl;rfl)|(apply Aa.GK;rfl;rfl;rfl;rfl;rfl;omega)|(apply Aa.CX (a:=(⟨LM 67 (k:Int),((gi x.links k).RD:Int) % x.Au.length,((gi x.links k).tgt:Int) % x.Au.length,12,(gi x.links k).through⟩:YL));rfl;rfl;rfl;rfl;rfl;rfl;rfl;rfl;(intro _ h;cases h);rfl;rfl;rfl;decide;decide;(first|omega|(simp only [List.length_take,List.length_drop,List.length_append,List.length_singleton,List.length_cons,List.length_nil]<;>omega)))|(apply Aa.assign;rfl)|(apply Aa.move;rfl)|(apply Aa.BD;rfl;rfl;omega)|(apply Aa.Fz;rfl;rfl;omega;omega)|(apply Aa.int;rfl;rfl;rfl)|(apply Aa.AO;rfl;rfl;rfl;omega;rfl)|(apply Aa.load;rfl;rfl)|(apply Aa.AZ;rfl;rfl)|(apply Aa.Bz;rfl;rfl)|(apply Aa.AA;rfl;rfl;rfl)|(apply Aa.alloc;rfl)|(apply Aa.AY;rfl;rfl;rfl;trivial;rfl;rfl;exact Ac rfl;exact le_dec rfl)|(apply Aa.build;rfl;rfl;rfl;rfl;rfl)|(apply Aa.buildSlice;rfl;rfl;rfl;decide;rfl;rfl;rfl)|(apply Aa.TP;rfl;rfl;(first|omega|(simp only [List.length_take,List.length_drop,List.length_append,List.length_singleton,List.length_cons,List.length_nil]<;>omega)))|(apply Aa.DL;rfl;rfl;rfl;rfl;omega)|(apply Aa.LZ;rfl;rfl;rfl;rfl;omega)|(apply Ad.Ae;rfl)|(intro _;try (exfalso;omega)))
    all_goals try (exfalso;omega)
    refine Az.normal ⟨k+1,by omega,by omega,⟨by omega,?_,?_⟩⟩
    ·repeat (first|exact Ah.nil|refine Ah.same trivial rfl ?_|refine Ah.same (Ac rfl) rfl ?_|refine Ah.same ⟨trivial,Ac rfl,Ac rfl,Ac rfl,trivial⟩ rfl ?_|refine Ah.same ⟨trivial,Ac rfl,Ac rfl,trivial⟩ rfl ?_|refine Ah.same ⟨trivial,trivial⟩ rfl ?_|refine Ah.cons trivial rfl (.of_eq (AL (by simp<;>omega))) ?_)
    ·rw [e2,e1];repeat (first|exact Ap.nil|(refine Ap.cons (Ac rfl) ?_ rfl ?_ ?_;(first|exact trivial|exact Ba.Ai _ _|(simp [HB.under,Ba.under,PV.under]));(first|exact BG.refl _|exact BG.vec (Bo.refl _) (by simp))))
   ·have e1:EJ x.Au.length x.links (k+1)=EJ x.Au.length x.links k++[(⟨LM 67 (k:Int),((gi x.links k).RD:Int) % x.Au.length,((gi x.links k).tgt:Int) % x.Au.length,(gi x.links k).shift.tmod 25,(gi x.links k).through⟩:YL)]:=by
     show EJ x.Au.length x.links k++[Uc x.Au.length (gi x.links k) k]=_
     unfold Uc
     rw [if_neg (fun h=>c2 h.2)]
    have e2:(EJ x.Au.length x.links (k+1)).length=(EJ x.Au.length x.links k).length+1:=by rw [e1];simp
    repeat' (first|apply Ad.assoc|apply Ad.Aw|apply Ad.Bl|apply Ad.region|apply Ad.Aq|apply Ad.Aj|apply AV.normal|apply AP.normal|apply Af.nil|apply Ak.nil|apply Af.one|(apply Ak.bar;decide +kernel)|apply Ak.quiet|(apply Af.take;rfl;rfl)|(apply Af.guard;rfl;rfl)|(apply Aa.GK;rfl;rfl;rfl;rfl;rfl;omega)|(apply Aa.CX (a:=(⟨LM 67 (k:Int),((gi x.links k).RD:Int) % x.Au.length,((gi x.links k).tgt:Int) % x.Au.length,(gi x.links k).shift.tmod 25,(gi x.links k).through⟩:YL));rfl;rfl;rfl;rfl;rfl;rfl;rfl;rfl;(intro _ h;cases h);rfl;rfl;rfl;decide;decide;(first|omega|(simp only [List.length_take,List.length_drop,List.length_append,List.length_singleton,List.length_cons,List.length_nil]<;>omega)))|(apply Aa.assign;rfl)|(apply Aa.move;rfl)|(apply Aa.BD;rfl;rfl;omega)|(apply Aa.Fz;rfl;rfl;omega;omega)|(apply Aa.int;rfl;rfl;rfl)|(apply Aa.AO;rfl;rfl;rfl;omega;rfl)|(apply Aa.load;rfl;rfl)|(apply Aa.AZ;rfl;rfl)|(apply Aa.Bz;rfl;rfl)|(apply Aa.AA;rfl;rfl;rfl)|(apply Aa.alloc;rfl)|(apply Aa.AY;rfl;rfl;rfl;trivial;rfl;rfl;exact Ac rfl;exact le_dec rfl)|(apply Aa.build;rfl;rfl;rfl;rfl;rfl)|(apply Aa.buildSlice;rfl;rfl;rfl;decide;rfl;rfl;rfl)|(apply Aa.TP;rfl;rfl;(first|omega|(simp only [List.length_take,List.length_drop,List.length_append,List.length_singleton,List.length_cons,List.length_nil]<;>omega)))|(apply Aa.DL;rfl;rfl;rfl;rfl;omega)|(apply Aa.LZ;rfl;rfl;rfl;rfl;omega)|(apply Ad.Ae;rfl)|(intro _;try (exfalso;omega)))
    all_goals try (exfalso;omega)
    refine Az.normal ⟨k+1,by omega,by omega,⟨by omega,?_,?_⟩⟩
    ·repeat (first|exact Ah.nil|refine Ah.same trivial rfl ?_|refine Ah.same (Ac rfl) rfl ?_|refine Ah.same ⟨trivial,Ac rfl,Ac rfl,Ac rfl,trivial⟩ rfl ?_|refine Ah.same ⟨trivial,Ac rfl,Ac rfl,trivial⟩ rfl ?_|refine Ah.same ⟨trivial,trivial⟩ rfl ?_|refine Ah.cons trivial rfl (.of_eq (AL (by simp<;>omega))) ?_)
    ·rw [e2,e1];repeat (first|exact Ap.nil|(refine Ap.cons (Ac rfl) ?_ rfl ?_ ?_;(first|exact trivial|exact Ba.Ai _ _|(simp [HB.under,Ba.under,PV.under]));(first|exact BG.refl _|exact BG.vec (Bo.refl _) (by simp))))
  ·have e1:EJ x.Au.length x.links (k+1)=EJ x.Au.length x.links k++[(⟨LM 67 (k:Int),((gi x.links k).RD:Int) % x.Au.length,((gi x.links k).tgt:Int) % x.Au.length,(gi x.links k).shift.tmod 25,(gi x.links k).through⟩:YL)]:=by
    show EJ x.Au.length x.links k++[Uc x.Au.length (gi x.links k) k]=_
    unfold Uc
    rw [if_neg (fun h=>c1 h.1)]
   have e2:(EJ x.Au.length x.links (k+1)).length=(EJ x.Au.length x.links k).length+1:=by rw [e1];simp
   repeat' (first|apply Ad.assoc|apply Ad.Aw|apply Ad.Bl|apply Ad.region|apply Ad.Aq|apply Ad.Aj|apply AV.normal|apply AP.normal|apply Af.nil|apply Ak.nil|apply Af.one|(apply Ak.bar;decide +kernel)|apply Ak.quiet|(apply Af.drop;rfl;rfl;rfl)|(apply Af.guard;rfl;rfl)|(apply Aa.GK;rfl;rfl;rfl;rfl;rfl;omega)|(apply Aa.CX (a:=(⟨LM 67 (k:Int),((gi x.links k).RD:Int) % x.Au.length,((gi x.links k).tgt:Int) % x.Au.length,(gi x.links k).shift.tmod 25,(gi x.links k).through⟩:YL));rfl;rfl;rfl;rfl;rfl;rfl;rfl;rfl;(intro _ h;cases h);rfl;rfl;rfl;decide;decide;(first|omega|(simp only [List.length_take,List.length_drop,List.length_append,List.length_singleton,List.length_cons,List.length_nil]<;>omega)))|(apply Aa.assign;rfl)|(apply Aa.move;rfl)|(apply Aa.BD;rfl;rfl;omega)|(apply Aa.Fz;rfl;rfl;omega;omega)|(apply Aa.int;rfl;rfl;rfl)|(apply Aa.AO;rfl;rfl;rfl;omega;rfl)|(apply Aa.load;rfl;rfl)|(apply Aa.AB;rfl;rfl)|(apply Aa.Bz;rfl;rfl)|(apply Aa.AA;rfl;rfl;rfl)|(apply Aa.alloc;rfl)|(apply Aa.AY;rfl;rfl;rfl;trivial;rfl;rfl;exact Ac rfl;exact le_dec rfl)|(apply Aa.build;rfl;rfl;rfl;rfl;rfl)|(apply Aa.buildSlice;rfl;rfl;rfl;decide;rfl;rfl;rfl)|(apply Aa.TP;rfl;rfl;(first|omega|(simp only [List.length_take,List.length_drop,List.length_append,List.length_singleton,List.length_cons,List.length_nil]<;>omega)))|(apply Aa.DL;rfl;rfl;rfl;rfl;omega)|(apply Aa.LZ;rfl;rfl;rfl;rfl;omega)|(apply Ad.AU;rfl)|(apply Ad.Ae;rfl)|(intro _;try (exfalso;omega)))
   all_goals try (exfalso;omega)
   refine Az.normal ⟨k+1,by omega,by omega,⟨by omega,?_,?_⟩⟩
   ·repeat (first|exact Ah.nil|refine Ah.same trivial rfl ?_|refine Ah.same (Ac rfl) rfl ?_|refine Ah.same ⟨trivial,Ac rfl,Ac rfl,Ac rfl,trivial⟩ rfl ?_|refine Ah.same ⟨trivial,Ac rfl,Ac rfl,trivial⟩ rfl ?_|refine Ah.same ⟨trivial,trivial⟩ rfl ?_|refine Ah.cons trivial rfl (.of_eq (AL (by simp<;>omega))) ?_)
   ·rw [e2,e1];repeat (first|exact Ap.nil|(refine Ap.cons (Ac rfl) ?_ rfl ?_ ?_;(first|exact trivial|exact Ba.Ai _ _|(simp [HB.under,Ba.under,PV.under]));(first|exact BG.refl _|exact BG.vec (Bo.refl _) (by simp))))
 obtain rfl:k=x.links.length:=by omega
 repeat' (first|(refine Ad.at 26 ?_;refine Ad.ghost (A8.BA 2 3 rfl rfl rfl) ?_;first|apply Ad.Aw|apply Ad.Bl)|apply Ad.assoc|apply Ad.Aw|apply Ad.Bj|apply AV.normal|apply AP.exit|apply Az.exit|apply Ad.ret|apply Af.nil|apply Af.one|(apply Aa.move;rfl)|(apply Aa.int;rfl;rfl;rfl)|(apply Aa.load;rfl;rfl)|(apply Aa.Bz;rfl;rfl)|(apply Aa.AA;rfl;rfl;rfl)|(apply Aa.AY;rfl;rfl;rfl;trivial;rfl;rfl;exact Ac rfl;exact le_dec rfl)|(apply Ad.Ae;rfl)|(intro _;try (exfalso;omega)))
 all_goals first|(exfalso;omega)|(refine Done.ret rfl (.refl _) (by first|exact trivial|exact ⟨trivial,trivial,trivial⟩|exact ⟨trivial,trivial,trivial,trivial⟩) Ap.nil (Nat.zero_le _) (Nat.le_refl _) ⟨?_,rfl,rfl⟩;rfl)
end Go.Proofs.YtnhdddmhkhdlhaaGreatDoor
namespace Go.Proofs.YtnhdddmhkhdlhaaGreatDoor
open Go Go.Am Go.Vm
attribute [local irreducible] Aa Af Ak Ad Bv AQ BN AV AP Az Vm.Done Cb BH
attribute [local irreducible] Ry PX Dc BZ BK
theorem ZE (rk:List Gs) (l:List mJ):∀ k i,i<k→gi (Gp rk l k) i=ZT rk (gi l i) i
 |k+1,i,h=>by
  simp only [Gp,GL,KJ]
  by_cases h1:i<k
  ·rw [if_pos h1];exact ZE rk l k i h1
  ·obtain rfl:i=k:=by omega
   simp
theorem WX (rk:List Gs) (lo hi:Int) (l:List kZ):∀ k i,i<k→gi (Gf rk lo hi l k) i=PX rk lo hi (gi l i) i
 |k+1,i,h=>by
  simp only [Gf,GL,GV]
  by_cases h1:i<k
  ·rw [if_pos h1];exact WX rk lo hi l k i h1
  ·obtain rfl:i=k:=by omega
   simp
theorem ZB (n:Nat) (l:List nV):∀ k i,i<k→gi (EJ n l k) i=Uc n (gi l i) i
 |k+1,i,h=>by
  simp only [EJ,GL,Oc]
  by_cases h1:i<k
  ·rw [if_pos h1];exact ZB n l k i h1
  ·obtain rfl:i=k:=by omega
   simp
theorem rJ (b:mJ):0≤Es b∧Es b≤EI b∧EI b≤127:=by unfold EI Es;omega
structure Yq (o:EN):Prop where
 sm:Ic o
 ranks:1≤o.ranks.length∧o.ranks.length≤3
 Au:1≤o.Au.length∧o.Au.length≤3
 GN:o.GN.length≤3
 stops:∀ i,i<o.Au.length→(gi o.Au i).stops.length≤3
 rk:jE o.ranks
 dv:∀ i,i<o.Au.length→0≤(gi o.Au i).lo∧(gi o.Au i).lo≤(gi o.Au i).hi∧(gi o.Au i).hi≤127
 dn:∀ i,i<o.Au.length→(gi o.Au i).name=LM 68 i
 st:∀ i,i<o.Au.length→∀ j,j<(gi o.Au i).stops.length→EL o.ranks (gi o.Au i).lo (gi o.Au i).hi (gi (gi o.Au i).stops j)=0∧(gi (gi o.Au i).stops j).name=LM 83 j∧∃ a,a<6∧(gi (gi o.Au i).stops j).Dn=gi Oz a
 cp:∀ i,i<o.GN.length→tK o.Au.length (gi o.GN i)∧(gi o.GN i).name=LM 67 i
 rn:∀ i,i<o.ranks.length→(gi o.ranks i).name=LM 82 i
 nm:o.name=[79,114,103,97,110]
theorem vN (n:Nat) (c:nV) (k:Nat) (hn:1≤n) (hc:c.Ok) (hk:k<10):tK n (Uc n c k):=by
 obtain ⟨c1,c2,c3⟩:=hc
 have m1:=Int.emod_nonneg (c.RD:Int) (show (n:Int)≠0 by omega)
 have m2:=Int.emod_lt_of_pos (c.RD:Int) (show 0<(n:Int) by omega)
 have m3:=Int.emod_nonneg (c.tgt:Int) (show (n:Int)≠0 by omega)
 have m4:=Int.emod_lt_of_pos (c.tgt:Int) (show 0<(n:Int) by omega)
 refine ⟨dU (by decide) hk,⟨m1,m2⟩,⟨m3,m4⟩,?_,?_⟩
 ·have e:(Uc n c k).shift=if (c.RD:Int) % n=(c.tgt:Int) % n∧c.shift.tmod 25=0 then 12 else c.shift.tmod 25:=rfl
  rw [e]
  split
  ·omega
  ·have:=Int.tmod_lt_of_pos c.shift (show (0:Int)<25 by decide)
   have:=Int.lt_tmod_of_pos c.shift (show (0:Int)<25 by decide)
   omega
 ·show ¬ ((c.RD:Int) % n=(c.tgt:Int) % n∧(if (c.RD:Int) % n=(c.tgt:Int) % n∧c.shift.tmod 25=0 then (12:Int) else c.shift.tmod 25)=0)
  intro h
  obtain ⟨h1,h2⟩:=h
  by_cases h3:c.shift.tmod 25=0
  ·rw [if_pos ⟨h1,h3⟩] at h2;omega
  ·rw [if_neg (fun h=>h3 h.2)] at h2;exact h3 h2
theorem yM (x:FZ) (i:Int):Vx (Ry x i):=by
 have h:=vW x i
 have w:=qM x i
 unfold Ry at h w ⊢
 refine ⟨by simp,?_,by omega⟩
 have:(gi Na (x.Ht % 3)).length≤5:=xJ (P:=fun l:List UInt8=>l.length≤5) (by decide) (show x.Ht % 3<Na.length from Nat.mod_lt _ (by decide))
 show (gi Na (x.Ht % 3)).length<_
 omega
theorem oO (x:FZ) (i:Nat) (hi:i<10):(Ry x i).name=LM 82 i:=by
 unfold Ry LM
 show [82,UInt8.ofNat (48+(i:Int) % 10).toNat]=_
 rw [show (i:Int) % 10=i by omega]
theorem oH (x:ni) (hx:x.Ok) (hf:UH x):Yq (Y4 x):=by
 obtain ⟨hf1,hf2,hf3,hf4⟩:=hf
 have hR:=WV hx.ranks (by omega)
 have e1:(Y4 x).ranks=Eo x.ranks x.ranks.length:=rfl
 have e2:(Y4 x).Au=Gp (Eo x.ranks x.ranks.length) x.Au x.Au.length:=rfl
 have e3:(Y4 x).GN=EJ x.Au.length x.links x.links.length:=rfl
 have e4:(Y4 x).name=[79,114,103,97,110]:=rfl
 have rn:∀ i,i<x.ranks.length→gi (Eo x.ranks x.ranks.length) i=Ry (gi x.ranks i) (i:Int):=RN _ _
 generalize hRR:Eo x.ranks x.ranks.length=R at *
 have hRl:R.length=x.ranks.length:=by rw [← hRR,Io]
 have dl:=KJ R x.Au x.Au.length
 have cl:=Oc x.Au.length x.links x.links.length
 have dg:∀ i,i<x.Au.length→gi (Gp R x.Au x.Au.length) i=ZT R (gi x.Au i) i:=ZE _ _ _
 have cg:∀ i,i<x.links.length→gi (EJ x.Au.length x.links x.links.length) i=Uc x.Au.length (gi x.links i) i:=ZB _ _ _
 have ds:∀ b k,(ZT R b k).stops=Gf R (Es b) (EI b) b.stops b.stops.length:=fun _ _=>rfl
 have sp:∀ i,i<x.Au.length→∀ j,j<(gi x.Au i).stops.length→gi (Gf R (Es (gi x.Au i)) (EI (gi x.Au i)) (gi x.Au i).stops (gi x.Au i).stops.length) j=PX R (Es (gi x.Au i)) (EI (gi x.Au i)) (gi (gi x.Au i).stops j) j∧oz R (Es (gi x.Au i)) (EI (gi x.Au i)) (gi (gi x.Au i).stops j) j (PX R (Es (gi x.Au i)) (EI (gi x.Au i)) (gi (gi x.Au i).stops j) j):=fun i hi j hj =>
  ⟨WX _ _ _ _ _ _ hj,VB R _ _ _ j hR (rJ _) ((hx.Au i hi).all j hj) (by have:=hf4 i hi;omega)⟩
 refine ⟨⟨by rw [e4];simp,by rw [e1];omega,by rw [e2];omega,by rw [e3];omega,fun i hi=>?_,fun i hi=>?_,fun i hi=>?_⟩,by rw [e1];omega,by rw [e2];omega,by rw [e3];omega,fun i hi=>?_,by rw [e1];exact hR,fun i hi=>?_,fun i hi=>?_,fun i hi j hj=>?_,fun i hi=>?_,fun i hi=>?_,e4⟩
 ·rw [e1] at hi ⊢;rw [rn i (by omega)];exact yM _ _
 ·rw [e2] at hi ⊢;rw [dg i (by omega)]
  refine ⟨by simp [ZT,LM],by rw [ds,GV];have:=hf4 i (by omega);omega,fun j hj=>?_⟩
  rw [ds,GV] at hj
  rw [ds,(sp i (by omega) j hj).1]
  exact (sp i (by omega) j hj).2.2.2.2.1
 ·rw [e3] at hi ⊢;rw [cg i (by omega)];simp [Uc,LM]
 ·rw [e2] at hi ⊢;rw [dg i (by omega),ds,GV];exact hf4 i (by omega)
 ·rw [e2] at hi ⊢;rw [dg i (by omega)];exact rJ _
 ·rw [e2] at hi ⊢;rw [dg i (by omega)];rfl
 ·rw [e2] at hi hj ⊢;rw [dg i (by omega),ds,GV] at hj;rw [e1,dg i (by omega),ds,(sp i (by omega) j hj).1]
  exact ⟨(sp i (by omega) j hj).2.2.2.1,(sp i (by omega) j hj).2.2.1,(sp i (by omega) j hj).2.2.2.2.2⟩
 ·rw [e3] at hi ⊢;rw [e2,dl,cg i (by omega)]
  exact ⟨vN _ _ _ (by omega) (hx.links i (by omega)) (by omega),rfl⟩
 ·rw [e1] at hi ⊢;rw [rn i (by omega)];exact oO _ _ (by omega)
theorem yc:Du [79,114,103,97,110]:=by
 refine ⟨by decide,by decide,by decide,fun i h1 h2=>?_⟩
 have:i=1∨i=2∨i=3∨i=4:=by simp at h2;omega
 rcases this with rfl|rfl|rfl|rfl<;>exact .inl (by decide)
theorem Yq.ok {o:EN} (h:Yq o):Q5 o=0:=by
 have r1:=h.ranks
 have d1:=h.Au
 have c1:=h.GN
 unfold Q5
 rw [if_neg (fun h'=>h' (h.nm▸yc)),if_neg (by omega)]
 have hr:MS o.ranks 0=0:=RY (fun i hi=>⟨(h.rk.ok i hi).1,Yt (c:=82) (by omega) h.rn hi⟩) _ 0 rfl
 rw [if_neg (fun h'=>h' hr),if_neg (by omega),if_neg (by omega)]
 have hd:F5 o.ranks o.Au 0=0:=OY (fun i hi=>by
  have s1:=h.stops i hi
  refine ⟨by rw [h.dn i hi];exact dU (by decide) (by omega),Yt (c:=68) (by omega) h.dn hi,?_⟩
  unfold ES
  rw [Ji (h.dv i hi),if_neg (fun h=>h rfl),if_neg (by omega)]
  exact Pj (fun j hj=>⟨(h.st i hi j hj).1,Yt (c:=83) (by omega) (fun a ha=>(h.st i hi a ha).2.1) hj⟩) _ 0 rfl) _ 0 rfl
 rw [if_neg (fun h'=>h' hd)]
 unfold Gj
 rw [if_neg (by simp only [List.length_map];omega)]
 have hc:Pv (o.Au.map fun d=>⟨d.lo,d.hi⟩) 0=0:=QW (fun i hi=>by
  rw [List.length_map] at hi
  have e:gi (o.Au.map fun d=>(⟨d.lo,d.hi⟩:Yf)) i=⟨(gi o.Au i).lo,(gi o.Au i).hi⟩:=by simp [gi,List.getElem?_eq_getElem hi]
  rw [e]
  exact Ji (h.dv i hi)) _ 0 rfl
 rw [if_neg (fun h'=>h' hc),List.length_map]
 exact OW (fun i hi=>⟨(h.cp i hi).1,Yt (c:=67) (by omega) (fun a ha=>(h.cp a ha).2) hi⟩) _ 0 rfl
end Go.Proofs.YtnhdddmhkhdlhaaGreatDoor
namespace Go.Proofs.YtnhdddmhkhdlhaaGreatDoor
open Go Go.Am Go.Vm
attribute [local irreducible] Aa Af Ak Ad Bv AQ BN AV AP Az Vm.Done Cb BH
attribute [local irreducible] Dc BZ
theorem Ut (lo hi:Int):AQ env 80 [.agg [.int .i64 lo,.int .i64 hi]] (.p (.int .i64 (RZ lo hi))):=by
 unfold RZ
 refine AQ.enter (Ar (by decide)) Tryz.func80 rfl (by kernel_rfl) (by simp [Tryz.ntmps80]) ?_
 repeat' (first|apply Ad.Aw|apply Ad.Aj|apply AV.normal|apply AV.ret|apply AP.normal|apply AP.ret|apply Ad.ret|apply Ad.skip|apply Af.nil|apply Af.one|(apply Af.take;rfl;rfl)|(apply Af.drop;rfl;rfl;rfl)|(apply Af.guard;rfl;rfl)|(apply Aa.assign;rfl)|(apply Aa.move;rfl)|(apply Aa.int;rfl;rfl;rfl)|(apply Aa.load;rfl;rfl)|(apply Aa.AZ;rfl;rfl)|(apply Aa.AB;rfl;rfl)|(apply Aa.AA;rfl;rfl;rfl)|(apply Aa.box;rfl;trivial)|(apply Ad.cond_true;rfl)|(apply Ad.AX;rfl)|(intro _;try (exfalso;omega)))
 all_goals first
  |(rw [if_pos (by omega)];(refine Done.ret rfl (.refl _) (by first|exact trivial|exact ⟨trivial,trivial,trivial⟩|exact ⟨trivial,trivial,trivial,trivial⟩) Ap.nil (Nat.zero_le _) (Nat.le_refl _) ⟨?_,rfl,rfl⟩;try rfl);done)
  |(rw [if_neg (by omega),if_pos (by omega)];(refine Done.ret rfl (.refl _) (by first|exact trivial|exact ⟨trivial,trivial,trivial⟩|exact ⟨trivial,trivial,trivial,trivial⟩) Ap.nil (Nat.zero_le _) (Nat.le_refl _) ⟨?_,rfl,rfl⟩;try rfl);done)
  |(rw [if_neg (by omega),if_neg (by omega)];(refine Done.ret rfl (.refl _) (by first|exact trivial|exact ⟨trivial,trivial,trivial⟩|exact ⟨trivial,trivial,trivial,trivial⟩) Ap.nil (Nat.zero_le _) (Nat.le_refl _) ⟨?_,rfl,rfl⟩;try rfl);done)
theorem ZR:Px Tryz.prog 192=true:=by kernel_rfl
theorem zy (x y:bY):Vm.Ud Tryz.prog 192 (Enc.enc x) (Enc.enc y)=some (decide (x=y)):=by
 show some (decide (x.rank=y.rank)&&(decide (x.shift=y.shift)&&true))=_
 by_cases h:x=y
 ·subst h;simp
 ·rw [decide_eq_false h]
  have:¬ (x.rank=y.rank∧x.shift=y.shift):=fun h'=>h (by cases x;cases y;simp_all)
  by_cases h1:x.rank=y.rank<;>simp_all
theorem VZ {α:Type} [Inhabited α] {a:α} {l:List α}:a∈l↔∃ i,i<l.length∧gi l i=a:=by
 constructor
 ·intro h
  obtain ⟨i,hi,e⟩:=List.getElem_of_mem h
  exact ⟨i,hi,by simp [gi,List.getElem?_eq_getElem hi,e]⟩
 ·rintro ⟨i,hi,e⟩
  rw [← e]
  simp only [gi,List.getElem?_eq_getElem hi,Option.getD_some]
  exact List.getElem_mem hi
theorem Uo {α:Type} [Inhabited α] {l:List α} {i k:Nat} (h:i<k):gi (l.take k) i=gi l i:=by simp [gi,List.getElem?_take,h]
theorem Qo {α:Type} [Inhabited α] {l:List α} {k:Nat} (hk:k<l.length):l.take (k+1)=l.take k++[gi l k]:=by
 rw [List.take_succ_eq_append_getElem hk];simp [gi,List.getElem?_eq_getElem hk]
theorem uT {L:Vm.Frame} {H:Vm.Heap} {nx:Nat} {Q:PV→Vm.Heap→Nat→Prop} {dst:Option Tmp} {ty:TypeId} {pos:String} {af:Array Edge} {gd:Option (Nat×Bool)} {fo:Operand} {args:Array Operand} {aT:Array TypeId} {fs cs xs:List PV} {c:Code}
 (hf:BF env.Γ L fo=some (.clo 133 fs cs)) (ha:evs env.Γ L args.toList=some xs) (hb:Tryz.f133.body=some c) (hn:(fs++xs++cs).length≤Tryz.f133.ntmps)
 (h:Ad env nx c (DK 0 (fs++xs++cs)) H nx (BH env.P Tryz.f133.results.toList Q)):Aa env true ⟨dst,.call { callee:=.value fo,args:=args,argTypes:=aT },ty,pos,af,gd⟩ L H nx Q:=by
 have h0:(match Tryz.f133.body with|some c=>KO env.G Tryz.f133 c|none=>false)=true:=by kernel_rfl
 rw [hb] at h0
 exact Aa.inline rfl hf ha (Ar (by decide)) Tryz.func133 hb h0 hn h
theorem Wu (l:List bY) (d:bY) (hl:l.length<1000000):AQ env 121 [.lst 192 (cells l) l.length,.agg (Enc.enc d)] (.p (.bool (decide (d∈l)))):=by
 refine AQ.enter (Ar (by decide)) Tryz.func121 rfl (by kernel_rfl) (by simp [Tryz.ntmps121]) ?_
 repeat' (first|apply Ad.assoc|apply Ad.Aw|apply Ad.Aj|apply Af.nil|apply Af.one|(apply uT;rfl;rfl;rfl;exact le_dec rfl)|(apply Aa.assign;rfl)|(apply Aa.move;rfl)|(apply Aa.load;rfl;rfl)|(apply Aa.Bz;rfl;rfl)|(apply Aa.box;rfl;trivial))
 refine Ad.Ec (fun k:Nat=>[(0,lst 192 l),(3,.ref 1 0),(7,.p (.int .i64 (l.length:Int))),(8,.p (.int .i64 (k:Int)))]) (fun _=>[(1,.box 192 ((Enc.enc d).map .p)),(0,.box 192 ((Enc.enc d).map .p))]) 2 (fun k=>k≤l.length∧∀ i,i<k→d≠gi l i) (fun k=>l.length-k) 0 (by omega) ⟨by omega,fun i hi=>by omega⟩ ⟨by omega,?_,?_⟩ ?_
 ·repeat (first|exact Ah.nil|refine Ah.same trivial rfl ?_|refine Ah.same (Ac rfl) rfl ?_|refine Ah.same ⟨trivial,Ac rfl,Ac rfl,Ac rfl,trivial⟩ rfl ?_|refine Ah.same ⟨trivial,Ac rfl,Ac rfl,trivial⟩ rfl ?_|refine Ah.same ⟨trivial,trivial⟩ rfl ?_|refine Ah.cons trivial rfl (.of_eq (AL (by simp<;>omega))) ?_)
 ·repeat (first|exact Ap.nil|(refine Ap.cons (Ac rfl) ?_ rfl ?_ ?_;(first|exact trivial|exact Ba.Ai _ _|(simp [HB.under,Ba.under,PV.under]));(first|exact BG.refl _|exact BG.vec (Bo.refl _) (by simp))))
 rintro k ⟨hk,hok⟩
 have he:=zy d (gi l k)
 by_cases hd:d=gi l k
 ·rw [decide_eq_true hd] at he
  repeat' (first|apply Ad.Aw|apply Ad.Bl|apply Ad.Aq|apply Ad.Bj|apply Ad.Aj|apply AV.normal|apply AV.ret|(apply BH.ret;rfl)|apply AP.ret|apply AP.exit|apply Az.ret|apply Az.exit|apply Ad.ret|apply Af.nil|apply Ak.nil|apply Af.one|(apply Ak.bar;decide +kernel)|apply Ak.quiet|(apply Aa.xu;rfl;rfl;exact ZR;exact he)|(apply Aa.assign;rfl)|(apply Aa.move;rfl)|(apply Aa.int;rfl;rfl;rfl)|(apply Aa.AO;rfl;rfl;rfl;omega;rfl)|(apply Aa.load;rfl;rfl)|(apply Ad.Ae;rfl)|(apply Ad.cond_true;rfl)|(intro _;try (exfalso;omega)))
  ·rename_i a1
   rw [decide_eq_true (VZ.2 ⟨k,by omega,hd.symm⟩)]
   refine Done.ret rfl (.refl _) (by first|exact trivial|exact ⟨trivial,trivial,trivial⟩|exact ⟨trivial,trivial,trivial,trivial⟩) Ap.nil (Nat.zero_le _) (Nat.le_refl _) ⟨?_,rfl,rfl⟩
   refine PV.Jf ?_
   simp
  ·rename_i a1
   rw [decide_eq_false (fun h=>by obtain ⟨i,h1,h2⟩:=VZ.1 h;exact hok i (by omega) h2.symm)]
   (refine Done.ret rfl (.refl _) (by first|exact trivial|exact ⟨trivial,trivial,trivial⟩|exact ⟨trivial,trivial,trivial,trivial⟩) Ap.nil (Nat.zero_le _) (Nat.le_refl _) ⟨?_,rfl,rfl⟩;try rfl)
 ·rw [decide_eq_false hd] at he
  repeat' (first|apply Ad.Aw|apply Ad.Bl|apply Ad.region|apply Ad.Aq|apply Ad.Bj|apply Ad.Aj|apply AV.normal|(apply BH.ret;rfl)|apply AP.normal|apply AP.exit|apply Az.exit|apply Ad.ret|apply Ad.skip|apply Af.nil|apply Ak.nil|apply Af.one|(apply Ak.bar;decide +kernel)|apply Ak.quiet|(apply Aa.xu;rfl;rfl;exact ZR;exact he)|(apply Aa.assign;rfl)|(apply Aa.move;rfl)|(apply Aa.BD;rfl;rfl;omega)|(apply Aa.int;rfl;rfl;rfl)|(apply Aa.AO;rfl;rfl;rfl;omega;rfl)|(apply Aa.load;rfl;rfl)|(apply Ad.Ae;rfl)|(apply Ad.cond_false;rfl)|(intro _;try (exfalso;omega)))
  ·rename_i a1
   refine Az.normal ⟨k+1,⟨by omega,fun i hi=>?_⟩,by omega,⟨by omega,?_,?_⟩⟩
   ·rcases Nat.lt_or_ge i k with h|h
    ·exact hok i h
    ·obtain rfl:i=k:=by omega
     exact hd
   ·repeat (first|exact Ah.nil|refine Ah.same trivial rfl ?_|refine Ah.same (Ac rfl) rfl ?_|refine Ah.same ⟨trivial,Ac rfl,Ac rfl,Ac rfl,trivial⟩ rfl ?_|refine Ah.same ⟨trivial,Ac rfl,Ac rfl,trivial⟩ rfl ?_|refine Ah.same ⟨trivial,trivial⟩ rfl ?_|refine Ah.cons trivial rfl (.of_eq (AL (by simp<;>omega))) ?_)
   ·repeat (first|exact Ap.nil|(refine Ap.cons (Ac rfl) ?_ rfl ?_ ?_;(first|exact trivial|exact Ba.Ai _ _|(simp [HB.under,Ba.under,PV.under]));(first|exact BG.refl _|exact BG.vec (Bo.refl _) (by simp))))
  ·rename_i a1
   rw [decide_eq_false (fun h=>by obtain ⟨i,h1,h2⟩:=VZ.1 h;exact hok i (by omega) h2.symm)]
   (refine Done.ret rfl (.refl _) (by first|exact trivial|exact ⟨trivial,trivial,trivial⟩|exact ⟨trivial,trivial,trivial,trivial⟩) Ap.nil (Nat.zero_le _) (Nat.le_refl _) ⟨?_,rfl,rfl⟩;try rfl)
def kK (rk:List Gs) (lo hi:Int):List FV:=[.lst 123 (cells rk) rk.length,.int .i64 lo,.int .i64 hi]
theorem fH (rk:List Gs) (lo hi:Int) (l:List bY) (hl:l.length<1000000) (hr:rk.length<1000000):AQ env 101 [.agg (kK rk lo hi),.lst 192 (cells l) l.length] (.p (.int .i64 (Rn rk.length l))):=by
 unfold Rn
 refine AQ.enter (Ar (by decide)) Tryz.func101 rfl (by kernel_rfl) (by simp [Tryz.ntmps101]) ?_
 repeat' (first|apply Ad.assoc|apply Ad.Aw|apply Ad.Aq|apply Ad.Bf|apply Ad.Aj|apply Af.nil|apply Af.one|(apply Aa.assign;rfl)|(apply Aa.move;rfl)|(apply Aa.int;rfl;rfl;rfl)|(apply Aa.Bz;rfl;rfl)|(apply Aa.box;rfl;trivial)|(apply Ad.Ae;rfl)|(intro _;try (exfalso;omega)))
 ·rw [if_pos (by omega)];(refine Done.ret rfl (.refl _) (by first|exact trivial|exact ⟨trivial,trivial,trivial⟩|exact ⟨trivial,trivial,trivial,trivial⟩) Ap.nil (Nat.zero_le _) (Nat.le_refl _) ⟨?_,rfl,rfl⟩;try rfl)
 rw [if_neg (by omega)]
 refine Ad.Ec (fun k:Nat=>[(1,lst 192 l),(2,.ref 0 0),(10,lst 192 l),(11,.p (.int .i64 (l.length:Int))),(12,.p (.int .i64 (k:Int)))]) (fun _=>[(0,.box 179 ((kK rk lo hi).map .p))]) 1 (fun k=>k≤l.length∧OG rk.length l k=OG rk.length l 0) (fun k=>l.length-k) 0 (by omega) ⟨by omega,rfl⟩ ⟨by omega,?_,?_⟩ ?_
 ·repeat (first|exact Ah.nil|refine Ah.same trivial rfl ?_|refine Ah.same (Ac rfl) rfl ?_|refine Ah.same ⟨trivial,Ac rfl,Ac rfl,Ac rfl,trivial⟩ rfl ?_|refine Ah.same ⟨trivial,Ac rfl,Ac rfl,trivial⟩ rfl ?_|refine Ah.same ⟨trivial,trivial⟩ rfl ?_|refine Ah.cons trivial rfl (.of_eq (AL (by simp<;>omega))) ?_)
 ·repeat (first|exact Ap.nil|(refine Ap.cons (Ac rfl) ?_ rfl ?_ ?_;(first|exact trivial|exact Ba.Ai _ _|(simp [HB.under,Ba.under,PV.under]));(first|exact BG.refl _|exact BG.vec (Bo.refl _) (by simp))))
 rintro k ⟨hk,hE⟩
 have hc:=Wu (l.take k) (gi l k) (by rw [List.length_take];omega)
 rw [List.length_take,Nat.min_eq_left (by omega)] at hc
 rw [← hE]
 by_cases hkl:k<l.length
 ·rw [OG,if_pos hkl]
  generalize hg:decide (gi l k∈l.take k)=g at *
  cases g
  all_goals
   repeat' (first|apply Ad.Aw|apply Ad.Bl|apply Ad.region|apply Ad.Aq|apply Ad.Aj|apply AV.normal|apply AV.ret|apply AP.normal|apply AP.ret|apply Az.ret|apply Ad.ret|apply Ad.skip|apply Ad.IZ|apply Af.nil|apply Ak.nil|apply Af.one|(apply Ak.bar;decide +kernel)|apply Ak.quiet|(apply Af.take;rfl;rfl)|(apply Af.drop;rfl;rfl;rfl)|(apply Af.guard;rfl;rfl)|(apply Aa.fn;rfl;rfl;exact hc;intro _;rfl)|(apply Aa.sliceTo;rfl;rfl;rfl;rfl;rfl;rfl;omega)|(apply Aa.assign;rfl)|(apply Aa.move;rfl)|(apply Aa.BD;rfl;rfl;omega)|(apply Aa.int;rfl;rfl;rfl)|(apply Aa.AO;rfl;rfl;rfl;omega;rfl)|(apply Aa.load;rfl;rfl)|(apply Aa.AZ;rfl;rfl)|(apply Aa.AB;rfl;rfl)|(apply Aa.Bz;rfl;rfl)|(apply Aa.AA;rfl;rfl;rfl)|(apply Aa.alloc;rfl)|(apply Aa.AY;rfl;rfl;rfl;trivial;rfl;rfl;exact Ac rfl;exact le_dec rfl)|(apply Ad.Ae;rfl)|(apply Ad.cond_true;rfl)|(apply Ad.cond_false;rfl)|(apply Ad.AX;rfl)|(intro _;try (exfalso;omega)))
  all_goals try (exfalso;omega)
  all_goals first
   |(rw [if_pos (by omega)];(refine Done.ret rfl (.refl _) (by first|exact trivial|exact ⟨trivial,trivial,trivial⟩|exact ⟨trivial,trivial,trivial,trivial⟩) Ap.nil (Nat.zero_le _) (Nat.le_refl _) ⟨?_,rfl,rfl⟩;try rfl);done)
   |(rw [if_neg (by omega),if_pos (by omega)];(refine Done.ret rfl (.refl _) (by first|exact trivial|exact ⟨trivial,trivial,trivial⟩|exact ⟨trivial,trivial,trivial,trivial⟩) Ap.nil (Nat.zero_le _) (Nat.le_refl _) ⟨?_,rfl,rfl⟩;try rfl);done)
   |(rw [if_neg (by omega),if_neg (by omega),if_pos (of_decide_eq_true hg)];(refine Done.ret rfl (.refl _) (by first|exact trivial|exact ⟨trivial,trivial,trivial⟩|exact ⟨trivial,trivial,trivial,trivial⟩) Ap.nil (Nat.zero_le _) (Nat.le_refl _) ⟨?_,rfl,rfl⟩;try rfl);done)
   |(rw [if_neg (by omega),if_neg (by omega),if_neg (of_decide_eq_false hg)]
     refine Az.normal ⟨k+1,⟨by omega,?_⟩,by omega,⟨by omega,?_,?_⟩⟩
     ·first|rfl|(refine Eq.trans ?_ hE;symm;(conv=>lhs;rw [OG]);rw [if_pos hkl,if_neg (by omega),if_neg (by omega),if_neg (of_decide_eq_false hg)])
     ·repeat (first|exact Ah.nil|refine Ah.same trivial rfl ?_|refine Ah.same (Ac rfl) rfl ?_|refine Ah.same ⟨trivial,Ac rfl,Ac rfl,Ac rfl,trivial⟩ rfl ?_|refine Ah.same ⟨trivial,Ac rfl,Ac rfl,trivial⟩ rfl ?_|refine Ah.same ⟨trivial,trivial⟩ rfl ?_|refine Ah.cons trivial rfl (.of_eq (AL (by simp<;>omega))) ?_)
     ·repeat (first|exact Ap.nil|(refine Ap.cons (Ac rfl) ?_ rfl ?_ ?_;(first|exact trivial|exact Ba.Ai _ _|(simp [HB.under,Ba.under,PV.under]));(first|exact BG.refl _|exact BG.vec (Bo.refl _) (by simp)))))
 ·rw [OG,if_neg hkl]
  repeat' (first|apply Ad.Aw|apply Ad.Bj|apply AV.normal|apply AP.exit|apply Az.exit|apply Ad.ret|apply Af.nil|apply Af.one|(apply Aa.assign;rfl)|(apply Aa.int;rfl;rfl;rfl)|(apply Ad.Ae;rfl)|(intro _;try (exfalso;omega)))
  all_goals first|(exfalso;omega)|(refine Done.ret rfl (.refl _) (by first|exact trivial|exact ⟨trivial,trivial,trivial⟩|exact ⟨trivial,trivial,trivial,trivial⟩) Ap.nil (Nat.zero_le _) (Nat.le_refl _) ⟨?_,rfl,rfl⟩;try rfl)
theorem cO (rk:List Gs) (lo hi:Int) (hr:rk.length<1000000) (hs:∀ i,i<rk.length→Vx (gi rk i)):AQ env 100 [.agg (kK rk lo hi)] (.p (.int .i64 (bU rk lo hi))):=by
 have hcm:=Ut lo hi
 unfold bU
 refine AQ.enter (Ar (by decide)) Tryz.func100 rfl (by kernel_rfl) (by simp [Tryz.ntmps100]) ?_
 repeat' (first|apply Ad.assoc|apply Ad.Aw|apply Ad.Aq|apply Ad.Bf|apply Ad.Aj|apply Af.nil|apply Af.one|(apply Aa.assign;rfl)|(apply Aa.move;rfl)|(apply Aa.int;rfl;rfl;rfl)|(apply Aa.load;rfl;rfl)|(apply Aa.Bz;rfl;rfl)|(apply Aa.AA;rfl;rfl;rfl)|(apply Aa.box;rfl;trivial)|(apply Ad.Ae;rfl)|(intro _;try (exfalso;omega)))
 ·rw [if_pos (by omega)];(refine Done.ret rfl (.refl _) (by first|exact trivial|exact ⟨trivial,trivial,trivial⟩|exact ⟨trivial,trivial,trivial,trivial⟩) Ap.nil (Nat.zero_le _) (Nat.le_refl _) ⟨?_,rfl,rfl⟩;try rfl)
 rw [if_neg (by omega)]
 refine Ad.Ec (fun k:Nat=>[(1,.ref 0 0),(11,lst 123 rk),(12,.p (.int .i64 (rk.length:Int))),(13,.p (.int .i64 (k:Int)))]) (fun _=>[(0,.box 179 ((kK rk lo hi).map .p))]) 1 (fun k=>k≤rk.length∧VR rk k=VR rk 0) (fun k=>rk.length-k) 0 (by omega) ⟨by omega,rfl⟩ ⟨by omega,?_,?_⟩ ?_
 ·repeat (first|exact Ah.nil|refine Ah.same trivial rfl ?_|refine Ah.same (Ac rfl) rfl ?_|refine Ah.same ⟨trivial,Ac rfl,Ac rfl,Ac rfl,trivial⟩ rfl ?_|refine Ah.same ⟨trivial,Ac rfl,Ac rfl,trivial⟩ rfl ?_|refine Ah.same ⟨trivial,trivial⟩ rfl ?_|refine Ah.cons trivial rfl (.of_eq (AL (by simp<;>omega))) ?_)
 ·repeat (first|exact Ap.nil|(refine Ap.cons (Ac rfl) ?_ rfl ?_ ?_;(first|exact trivial|exact Ba.Ai _ _|(simp [HB.under,Ba.under,PV.under]));(first|exact BG.refl _|exact BG.vec (Bo.refl _) (by simp))))
 rintro k ⟨hk,hE⟩
 rw [← hE]
 by_cases hkl:k<rk.length
 ·have hsm:=(hs k hkl).len
  have hc:=Tc (gi rk k) hsm.1 hsm.2.1 hsm.2.2
  rw [VR,if_pos hkl]
  by_cases h0:Dc (gi rk k)=0
  ·rw [h0] at hc ⊢
   rw [if_neg (by decide)]
   repeat' (first|apply Ad.Aw|apply Ad.region|apply Ad.Aq|apply Ad.Aj|apply AV.normal|apply AP.normal|apply Ad.skip|apply Af.nil|apply Af.one|(apply Aa.fn;rfl;rfl;exact hc;intro _;rfl)|(apply Aa.assign;rfl)|(apply Aa.move;rfl)|(apply Aa.BD;rfl;rfl;omega)|(apply Aa.int;rfl;rfl;rfl)|(apply Aa.AO;rfl;rfl;rfl;omega;rfl)|(apply Aa.load;rfl;rfl)|(apply Aa.alloc;rfl)|(apply Aa.AY;rfl;rfl;rfl;trivial;rfl;rfl;exact Ac rfl;exact le_dec rfl)|(apply Ad.Ae;rfl)|(apply Ad.cond_false;rfl)|(intro _;try (exfalso;omega)))
   all_goals try (exfalso;omega)
   refine Az.normal ⟨k+1,⟨by omega,?_⟩,by omega,⟨by omega,?_,?_⟩⟩
   ·first|rfl|(refine Eq.trans ?_ hE;symm;(conv=>lhs;rw [VR]);rw [if_pos hkl,if_neg (fun h=>h h0)])
   ·repeat (first|exact Ah.nil|refine Ah.same trivial rfl ?_|refine Ah.same (Ac rfl) rfl ?_|refine Ah.same ⟨trivial,Ac rfl,Ac rfl,Ac rfl,trivial⟩ rfl ?_|refine Ah.same ⟨trivial,Ac rfl,Ac rfl,trivial⟩ rfl ?_|refine Ah.same ⟨trivial,trivial⟩ rfl ?_|refine Ah.cons trivial rfl (.of_eq (AL (by simp<;>omega))) ?_)
   ·repeat (first|exact Ap.nil|(refine Ap.cons (Ac rfl) ?_ rfl ?_ ?_;(first|exact trivial|exact Ba.Ai _ _|(simp [HB.under,Ba.under,PV.under]));(first|exact BG.refl _|exact BG.vec (Bo.refl _) (by simp))))
  ·rw [if_pos h0,if_pos h0]
   repeat' (first|apply Ad.Aw|apply Ad.Aq|apply Ad.Aj|apply AV.ret|apply AP.ret|apply Az.ret|apply Ad.ret|apply Af.nil|apply Af.one|(apply Aa.fn;rfl;rfl;exact hc;intro _;rfl)|(apply Aa.assign;rfl)|(apply Aa.move;rfl)|(apply Aa.int;rfl;rfl;rfl)|(apply Aa.AO;rfl;rfl;rfl;omega;rfl)|(apply Aa.load;rfl;rfl)|(apply Aa.alloc;rfl)|(apply Aa.AY;rfl;rfl;rfl;trivial;rfl;rfl;exact Ac rfl;exact le_dec rfl)|(apply Ad.Ae;rfl)|(apply Ad.AX;rfl)|(intro _;try (exfalso;omega)))
   all_goals first|(exfalso;omega)|(refine Done.ret rfl (.refl _) (by first|exact trivial|exact ⟨trivial,trivial,trivial⟩|exact ⟨trivial,trivial,trivial,trivial⟩) Ap.nil (Nat.zero_le _) (Nat.le_refl _) ⟨?_,rfl,rfl⟩;try rfl)
 ·rw [VR,if_neg hkl,if_neg (by decide)]
  repeat' (first|apply Ad.Aw|apply Ad.Bj|apply AV.normal|apply AP.exit|apply Az.exit|apply Ad.ret|apply Af.nil|apply Af.one|(apply Aa.fn;rfl;rfl;exact hcm;intro _;rfl)|(apply Aa.assign;rfl)|(apply Aa.int;rfl;rfl;rfl)|(apply Aa.load;rfl;rfl)|(apply Aa.AA;rfl;rfl;rfl)|(apply Ad.Ae;rfl)|(intro _;try (exfalso;omega)))
  all_goals first|(exfalso;omega)|(refine Done.ret rfl (.refl _) (by first|exact trivial|exact ⟨trivial,trivial,trivial⟩|exact ⟨trivial,trivial,trivial,trivial⟩) Ap.nil (Nat.zero_le _) (Nat.le_refl _) ⟨?_,rfl,rfl⟩;try rfl)
theorem mW (rk:List Gs) (lo hi:Int) (s:Stp) (hr:rk.length<1000000) (hs:∀ i,i<rk.length→Vx (gi rk i)) (hS:Xm s):AQ env 81 [.agg (kK rk lo hi),.agg (Enc.enc s)] (.p (.int .i64 (EL rk lo hi s))):=by
 obtain ⟨q1,q2,q3⟩:=hS
 have hp:=cO rk lo hi hr hs
 have hn:=G7 s.name (by omega)
 have hf:=J5 s.Dn
 unfold EL uw
 refine AQ.enter (Ar (by decide)) Tryz.func81 rfl (by kernel_rfl) (by simp [Tryz.ntmps81]) ?_
 by_cases h0:bU rk lo hi=0
 case neg =>
  rw [if_pos h0]
  repeat' (first|apply Ad.assoc|apply Ad.Aw|apply Ad.Bf|apply Af.nil|apply Af.one|(apply Aa.fn;rfl;rfl;exact hp;intro _;rfl)|(apply Aa.assign;rfl)|(apply Aa.move;rfl)|(apply Aa.int;rfl;rfl;rfl)|(apply Aa.load;rfl;rfl)|(apply Aa.box;rfl;trivial)|(apply Ad.Ae;rfl)|(intro _;try (exfalso;omega)))
  all_goals first|(exfalso;omega)|(refine Done.ret rfl (.refl _) (by first|exact trivial|exact ⟨trivial,trivial,trivial⟩|exact ⟨trivial,trivial,trivial,trivial⟩) Ap.nil (Nat.zero_le _) (Nat.le_refl _) ⟨?_,rfl,rfl⟩;try rfl)
 rw [h0] at hp ⊢
 rw [if_neg (by decide)]
 by_cases h1:Du s.name
 case neg =>
  rw [if_pos h1]
  rw [decide_eq_false h1] at hn
  repeat' (first|apply Ad.assoc|apply Ad.Aw|apply Ad.Aq|apply Ad.Bf|apply Af.nil|apply Af.one|(apply Aa.fn;rfl;rfl;exact hp;intro _;rfl)|(apply Aa.fn;rfl;rfl;exact hn;intro _;rfl)|(apply Aa.assign;rfl)|(apply Aa.move;rfl)|(apply Aa.int;rfl;rfl;rfl)|(apply Aa.load;rfl;rfl)|(apply Aa.AA;rfl;rfl;rfl)|(apply Aa.box;rfl;trivial)|(apply Aa.not;rfl)|(apply Ad.Bq;rfl)|(apply Ad.AU;rfl))
  all_goals first|contradiction|(exfalso;omega)|(refine Done.ret rfl (.refl _) (by first|exact trivial|exact ⟨trivial,trivial,trivial⟩|exact ⟨trivial,trivial,trivial,trivial⟩) Ap.nil (Nat.zero_le _) (Nat.le_refl _) ⟨?_,rfl,rfl⟩;try rfl)
 rw [if_neg (fun h=>h h1)]
 rw [decide_eq_true h1] at hn
 by_cases h2:NJ s.Dn=0
 case neg =>
  rw [if_pos h2]
  repeat' (first|apply Ad.assoc|apply Ad.Aw|apply Ad.Aq|apply Ad.Bf|apply Af.nil|apply Af.one|(apply Aa.fn;rfl;rfl;exact hp;intro _;rfl)|(apply Aa.fn;rfl;rfl;exact hn;intro _;rfl)|(apply Aa.fn;rfl;rfl;exact hf;intro _;rfl)|(apply Aa.assign;rfl)|(apply Aa.move;rfl)|(apply Aa.int;rfl;rfl;rfl)|(apply Aa.load;rfl;rfl)|(apply Aa.AA;rfl;rfl;rfl)|(apply Aa.box;rfl;trivial)|(apply Aa.not;rfl)|(apply Ad.AU;rfl)|(apply Ad.Ae;rfl)|(intro _;try (exfalso;omega)))
  all_goals first|contradiction|(exfalso;omega)|(refine Done.ret rfl (.refl _) (by first|exact trivial|exact ⟨trivial,trivial,trivial⟩|exact ⟨trivial,trivial,trivial,trivial⟩) Ap.nil (Nat.zero_le _) (Nat.le_refl _) ⟨?_,rfl,rfl⟩;try rfl)
 rw [if_neg (fun h=>h h2)]
 rw [h2] at hf
 repeat' (first|apply Ad.assoc|apply Ad.Aw|apply Ad.Aq|apply Ad.Aj|apply AV.normal|apply AV.ret|apply AP.normal|apply AP.ret|apply Ad.ret|apply Ad.skip|apply Af.nil|apply Af.one|(apply Aa.fn;rfl;rfl;exact hp;intro _;rfl)|(apply Aa.fn;rfl;rfl;exact hn;intro _;rfl)|(apply Aa.fn;rfl;rfl;exact hf;intro _;rfl)|(apply Aa.assign;rfl)|(apply Aa.move;rfl)|(apply Aa.int;rfl;rfl;rfl)|(apply Aa.load;rfl;rfl)|(apply Aa.Bz;rfl;rfl)|(apply Aa.AA;rfl;rfl;rfl)|(apply Aa.box;rfl;trivial)|(apply Aa.not;rfl)|(apply Ad.AU;rfl)|(apply Ad.AX;rfl)|(intro _;try (exfalso;omega)))
 all_goals try contradiction
 all_goals try (exfalso;omega)
 ·rw [if_pos (by omega)];(refine Done.ret rfl (.refl _) (by first|exact trivial|exact ⟨trivial,trivial,trivial⟩|exact ⟨trivial,trivial,trivial,trivial⟩) Ap.nil (Nat.zero_le _) (Nat.le_refl _) ⟨?_,rfl,rfl⟩;try rfl)
 ·rw [if_neg (by omega),if_pos (by omega)];(refine Done.ret rfl (.refl _) (by first|exact trivial|exact ⟨trivial,trivial,trivial⟩|exact ⟨trivial,trivial,trivial,trivial⟩) Ap.nil (Nat.zero_le _) (Nat.le_refl _) ⟨?_,rfl,rfl⟩;try rfl)
 rw [if_neg (by omega),if_neg (by omega)]
 refine Ad.Ec (fun k:Nat=>[(2,.ref 0 0),(3,.ref 1 0),(36,lst 195 s.Hg),(37,.p (.int .i64 (s.Hg.length:Int))),(38,.p (.int .i64 (k:Int)))]) (fun _=>[(1,.box 127 ((Enc.enc s).map .p)),(0,.box 179 ((kK rk lo hi).map .p))]) 2 (fun k=>k≤s.Hg.length∧KG rk.length lo hi s.Hg k=KG rk.length lo hi s.Hg 0) (fun k=>s.Hg.length-k) 0 (by omega) ⟨by omega,rfl⟩ ⟨by omega,?_,?_⟩ ?_
 ·repeat (first|exact Ah.nil|refine Ah.same trivial rfl ?_|refine Ah.same (Ac rfl) rfl ?_|refine Ah.same ⟨trivial,Ac rfl,Ac rfl,Ac rfl,trivial⟩ rfl ?_|refine Ah.same ⟨trivial,Ac rfl,Ac rfl,trivial⟩ rfl ?_|refine Ah.same ⟨trivial,trivial⟩ rfl ?_|refine Ah.cons trivial rfl (.of_eq (AL (by simp<;>omega))) ?_)
 ·repeat (first|exact Ap.nil|(refine Ap.cons (Ac rfl) ?_ rfl ?_ ?_;(first|exact trivial|exact Ba.Ai _ _|(simp [HB.under,Ba.under,PV.under]));(first|exact BG.refl _|exact BG.vec (Bo.refl _) (by simp))))
 rintro k ⟨hk,hE⟩
 rw [← hE]
 by_cases hkl:k<s.Hg.length
 ·have hsm:=(q3 k hkl).draws
  have hd:=fH rk lo hi (gi s.Hg k).draws hsm hr
  rw [KG,if_pos hkl]
  have hk1:((k:Int)-1).toNat=k-1:=by omega
  have hkc:0<k→((k-1:Nat):Int)=(k:Int)-1:=fun h=>by omega
  generalize hD:Rn rk.length (gi s.Hg k).draws=D at *
  repeat' (first|apply Ad.Aw|apply Ad.Bl|apply Ad.region|apply Ad.Aq|apply Ad.Aj|apply AV.normal|apply AV.ret|apply AP.normal|apply AP.ret|apply Az.ret|apply Ad.ret|apply Ad.skip|apply Af.nil|apply Ak.nil|apply Af.one|(apply Ak.bar;decide +kernel)|apply Ak.quiet|(apply Af.take;rfl;rfl)|(apply Ak.Ea;rfl;rfl)|(apply Af.drop;rfl;rfl;rfl)|(apply Ak.drop;rfl;rfl;rfl)|(apply Af.guard;rfl;rfl)|(apply Ak.guard;rfl;rfl)|(apply Ak.iZ;rfl;rfl)|(apply Aa.fn;rfl;rfl;exact hd;intro _;rfl)|(apply Aa.assign;rfl)|(apply Aa.move;rfl)|(apply Aa.BD;rfl;rfl;omega)|(apply Aa.Dq;rfl;rfl;omega)|(apply Aa.int;rfl;rfl;rfl)|(apply Aa.AO;rfl;rfl;rfl;omega;rfl)|(apply Aa.rF;rfl;rfl;rfl;omega;omega;rfl)|(apply Aa.load;rfl;rfl)|(apply Aa.AZ;rfl;rfl)|(apply Aa.AB;rfl;rfl)|(apply Aa.AA;rfl;rfl;rfl)|(apply Aa.Dk;rfl;rfl)|(apply Aa.alloc;rfl)|(apply Aa.AY;rfl;rfl;rfl;trivial;rfl;rfl;exact Ac rfl;exact le_dec rfl)|(apply Aa.zH;rfl;rfl)|(apply Aa.wH;rfl;rfl)|(apply Ad.Ae;rfl)|(apply Ad.cond_true;rfl)|(apply Ad.cond_false;rfl)|(apply Ad.AX;rfl)|(intro _;try (exfalso;omega)))
  all_goals try (exfalso;omega)
  all_goals first
   |(rw [if_pos (by omega)];(refine Done.ret rfl (.refl _) (by first|exact trivial|exact ⟨trivial,trivial,trivial⟩|exact ⟨trivial,trivial,trivial,trivial⟩) Ap.nil (Nat.zero_le _) (Nat.le_refl _) ⟨?_,rfl,rfl⟩;try rfl);done)
   |(rw [if_neg (by omega),if_pos (by omega)];(refine Done.ret rfl (.refl _) (by first|exact trivial|exact ⟨trivial,trivial,trivial⟩|exact ⟨trivial,trivial,trivial,trivial⟩) Ap.nil (Nat.zero_le _) (Nat.le_refl _) ⟨?_,rfl,rfl⟩;try rfl);done)
   |(rw [if_neg (by omega),if_neg (by omega),if_pos (by omega)];(refine Done.ret rfl (.refl _) (by first|exact trivial|exact ⟨trivial,trivial,trivial⟩|exact ⟨trivial,trivial,trivial,trivial⟩) Ap.nil (Nat.zero_le _) (Nat.le_refl _) ⟨?_,rfl,rfl⟩;try rfl);done)
   |(rw [if_neg (by omega),if_neg (by omega),if_neg (by omega)]
     refine Az.normal ⟨k+1,⟨by omega,?_⟩,by omega,⟨by omega,?_,?_⟩⟩
     ·first|rfl|(refine Eq.trans ?_ hE;symm;(conv=>lhs;rw [KG]);rw [if_pos hkl,if_neg (by omega),if_neg (by omega),if_neg (by omega)])
     ·repeat (first|exact Ah.nil|refine Ah.same trivial rfl ?_|refine Ah.same (Ac rfl) rfl ?_|refine Ah.same ⟨trivial,Ac rfl,Ac rfl,Ac rfl,trivial⟩ rfl ?_|refine Ah.same ⟨trivial,Ac rfl,Ac rfl,trivial⟩ rfl ?_|refine Ah.same ⟨trivial,trivial⟩ rfl ?_|refine Ah.cons trivial rfl (.of_eq (AL (by simp<;>omega))) ?_)
     ·repeat (first|exact Ap.nil|(refine Ap.cons (Ac rfl) ?_ rfl ?_ ?_;(first|exact trivial|exact Ba.Ai _ _|(simp [HB.under,Ba.under,PV.under]));(first|exact BG.refl _|exact BG.vec (Bo.refl _) (by simp)))))
 ·rw [KG,if_neg hkl]
  repeat' (first|apply Ad.Aw|apply Ad.Bj|apply AV.normal|apply AP.exit|apply Az.exit|apply Ad.ret|apply Af.nil|apply Af.one|(apply Aa.assign;rfl)|(apply Aa.int;rfl;rfl;rfl)|(apply Ad.Ae;rfl)|(intro _;try (exfalso;omega)))
  all_goals first|(exfalso;omega)|(refine Done.ret rfl (.refl _) (by first|exact trivial|exact ⟨trivial,trivial,trivial⟩|exact ⟨trivial,trivial,trivial,trivial⟩) Ap.nil (Nat.zero_le _) (Nat.le_refl _) ⟨?_,rfl,rfl⟩;try rfl)
end Go.Proofs.YtnhdddmhkhdlhaaGreatDoor
