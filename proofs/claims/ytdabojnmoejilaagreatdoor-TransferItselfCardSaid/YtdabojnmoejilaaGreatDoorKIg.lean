/-
  Texts of a proof, merged (CarF, CarC, CarG, TraQ, TraR, TraT, CarH, RkQ, OrK, OrP, TraU). Conditions: in each statement.
-/
import Derived.Test.YtdabojnmoejilaaGreatDoorKIf
set_option linter.unusedSimpArgs false
set_option linter.unusedVariables false
set_option linter.unusedSectionVars false
set_option maxRecDepth 100000
set_option maxHeartbeats 8000000
namespace Go.Proofs.YtdabojnmoejilaaGreatDoor
open Go Go.Am Go.Vm Go.Tra Go.Hun
attribute [local irreducible] Aa Ag Ap Ae BD AX CO AO AL Az Vm.Done CY Bl
attribute [local irreducible] DL Dy Ip Jo Ot BU
def dJ (q:Jw) (i:Nat):Int:=Fg (fun k=>decide ((gi q.tgt.Ar k).name=(gi q.BH.Ar i).name)) q.tgt.Ar.length
def Nj (q:Jw):Nat→Nat
 |0=>0
 |i+1=>if q.reg.off / 2 ^ i % 2=1∧0≤dJ q i then Nj q i ||| 2 ^ (dJ q i).toNat else Nj q i
theorem dQ (q:Jw) (i:Nat):-1≤dJ q i∧dJ q i<q.tgt.Ar.length:=Rl _ _ _ (Nat.le_refl _)
theorem Z5 (q:Jw):∀ i,Nj q i<2 ^ q.tgt.Ar.length
 |0=>Nat.pow_pos (by decide)
 |i+1=>by
  have ih:=Z5 q i
  have:=dQ q i
  unfold Nj
  split
  ·rename_i h
   exact Nat.or_lt_two_pow ih (Nat.pow_lt_pow_right (by decide) (by omega))
  ·exact ih
def Zw (q:Jw) (l:List Int):Rgs:=⟨Hw (BX q.tgt) l q.tgt.Ar.length l.length,F5 (Io q) (Io q).length,Nj q q.BH.Ar.length⟩
def Zo (q:Jw) (l:List Int):Int:=if l.length≠(Bq q.BH q.reg).length then 5 else Z7 l (BX q.tgt).length l.length l.length
def b1v:List FV:=[.val (.slice none 0 0),.int .u64 0,.int .u64 0]
theorem SL {a:Nat} (h:a<60):2 ^ a<18446744073709551616:=Nat.lt_of_lt_of_le (Nat.pow_lt_pow_right (by decide) h) (by decide)
theorem WJ (q:Jw) (h:q.tgt.Df.length≤40) (k:Nat) (hk:k≤(Io q).length):F5 (Io q) k<18446744073709551616 :=
 Nat.lt_of_lt_of_le (MI k fun j hj=>(Ry q _ j (by unfold Io at hk;omega)).2) (Nat.le_trans (Nat.pow_le_pow_right (by decide) h) (by decide))
theorem nN (q:Jw) (h:q.tgt.Ar.length≤8) (k:Nat):Nj q k<18446744073709551616 :=
 Nat.lt_of_lt_of_le (Z5 q k) (Nat.le_trans (Nat.pow_le_pow_right (by decide) h) (by decide))
theorem jT {q:Jw} (h:Xu q) (l:List Int) (he:Zo q l=0) (x1:Int) (y z:FV) :
 AX env 37 [.agg (Enc.enc q),.agg [.lst 3 (cells l) l.length,.int .i64 x1,y,z]] (.ET [.p (.agg (Enc.enc (Zw q l))),.p (.int .i64 0)]):=by
 have hc:=UC q h.sm1 h.sm2 h.rg
 rw [h.err] at hc
 have hd:=KL q.BH h.k1 q.reg h.rg h.len
 have hcl:=KO q.tgt h.k2
 have hcp:=X4 q h.k1 h.k2 h.rg
 obtain ⟨_,_,_,_,p5,p6⟩:=Jy h.err
 have hlen:l.length=(Bq q.BH q.reg).length:=Classical.byContradiction fun h'=>by unfold Zo at he;rw [if_pos h'] at he;cases he
 have hE:Z7 l (BX q.tgt).length l.length l.length=0:=by unfold Zo at he;rw [if_neg (fun h'=>h' hlen)] at he;exact he
 have hE2:=RV (n:=l.length) rfl l.length (Nat.le_refl _) hE
 have d1:=h.k1.Ar
 have d2:=h.k2.Ar
 have c1:=h.k1.Df
 have c2:=h.k2.Df
 have o1:=h.rg.off
 have hpl:∀ i,i<(BX q.tgt).length→G7 q.tgt (gi (BX q.tgt) i):=fun i hi=>Rn hi
 have hct:=QE q q.BH.Df.length
 rw [show Jh q q.BH.Df.length=Io q from rfl] at hct
 have hst:=h.k2.stops
 have hll:l.length≤60:=by omega
 generalize hdr:Bq q.BH q.reg=dr at *
 have eE:Enc.enc (Zw q l)=[.lst 39 (cells (Hw (BX q.tgt) l q.tgt.Ar.length l.length)) q.tgt.Ar.length,.int .u64 (F5 (Io q) (Io q).length:Nat),.int .u64 (Nj q q.BH.Ar.length:Nat)]:=by
  show [FV.lst 39 (cells (Hw (BX q.tgt) l q.tgt.Ar.length l.length)) (Hw (BX q.tgt) l q.tgt.Ar.length l.length).length,.int .u64 (F5 (Io q) (Io q).length:Nat),.int .u64 (Nj q q.BH.Ar.length:Nat)]=_
  rw [Kt]
 rw [eE]
 refine AX.enter (AA (by decide)) Tryz.func37 rfl (by kernel_rfl) (by simp [Tryz.ntmps37]) ?_
 repeat' (first|(refine Ae.at 7 ?_;refine Ae.ghost (Bd.freeze 7 rfl rfl) ?_;first|apply Ae.AB|apply Ae.BF)|apply Ae.assoc|apply Ae.AB|apply Ae.BF|apply Ae.Aq|apply Ae.Ai|(apply Bl.ret;rfl)|apply Ae.ret|apply Ag.nil|apply Ap.nil|apply Ag.one|(apply Ap.bar;decide +kernel)|apply Ap.quiet|(apply Aa.fn;rfl;rfl;exact hc;intro _;rfl)|(apply Aa.fn;rfl;rfl;exact hd;intro _;rfl)|(apply RN;rfl;rfl;rfl;exact le_dec rfl)|(apply Aa.bG [3] (hcl);rfl;rfl;exact .of_eq rfl;exact AP.Ak rfl;exact Dv rfl;(repeat (first|exact trivial|refine ⟨⟨_,rfl,.of_eq rfl⟩,?_⟩));decide;(intro _ hb;first|(simp at hb;done)|(simp at hb ⊢<;>omega));(rintro _ _ _ ⟨rfl,rfl,rfl⟩))|(apply Aa.makeFunc;rfl;rfl)|(apply Aa.DR q.tgt.Ar.length (0:Nat);rfl;rfl;rfl;rfl;rfl;rfl;rfl;omega;decide;decide;rfl)|(apply Aa.assign;rfl)|(apply Aa.move;rfl)|(apply Aa.int;rfl;rfl;rfl)|(apply Aa.load;rfl;rfl)|(apply Aa.BN;rfl;rfl)|(apply Aa.AU;rfl;rfl;rfl)|(apply Aa.box;rfl;trivial)|(apply Aa.alloc;rfl)|(apply Aa.Bj;rfl;rfl;rfl;trivial;rfl;rfl;exact Ac rfl;exact le_dec rfl)|(apply Aa.build;rfl;rfl;rfl;rfl;rfl)|(apply Ae.Aw;rfl)|(apply Ae.Af;rfl)|(intro _;try (exfalso;omega)))
 all_goals try (exfalso;omega)
 all_goals try contradiction
 apply Ae.FH (l.length) [(2,_),(3,_),(4,_),(5,_),(7,_),(8,_),(44,_),(45,_)] [(0,_),(1,_),(2,_),(7,_)] (fun k r=>(46,.p (.int .i64 (k:Int)))::r) (fun k r=>(6,.vec 39 (cells (Hw (BX q.tgt) l q.tgt.Ar.length k)) q.tgt.Ar.length false)::r) 8
 ·first|omega|decide
 ·first|omega|decide
 ·repeat (first|exact Ad.nil|(refine Ad.eq rfl ?_ ?_;(first|exact PV.Ak rfl|(simp [PV.under,AP.under];done)))|refine Ad.cons trivial rfl (.of_eq (Au (by simp<;>omega))) ?_)
 ·repeat (first|exact Aj.nil|(refine Aj.eq rfl (Ac rfl) ?_ ?_;(first|exact HB.Ak rfl|exact AP.Ah _ _|(simp [HB.under,AP.under,PV.under];done)))|(refine Aj.cons (Ac rfl) ?_ rfl ?_ ?_;(first|exact trivial|exact AP.Ah _ _|(simp [HB.under,AP.under,PV.under]));(first|exact Bh.refl _|exact Bh.vec (Bf.refl _) (by simp))))
 ·intro k hk
  obtain ⟨k1,k2,k3⟩:=hE2 k (by omega) hk
  have hcs:=Kt (BX q.tgt) l q.tgt.Ar.length k
  by_cases h0:gi l k<0
  ·have e1:Hw (BX q.tgt) l q.tgt.Ar.length k=Hw (BX q.tgt) l q.tgt.Ar.length (k+1):=by
    conv=>rhs;unfold Hw
    rw [if_pos h0]
   repeat' (first|apply Ae.assoc|apply Ae.AB|apply Ae.region|apply Ae.Aq|apply Ae.Ai|apply AO.normal|apply AL.normal|apply Ae.skip|apply Ag.nil|apply Ag.one|(apply Ag.take;rfl;rfl)|(apply Ag.drop;rfl;rfl;rfl)|(apply Ag.guard;rfl;rfl)|(apply Aa.assign;rfl)|(apply Aa.move;rfl)|(apply Aa.Bv;rfl;rfl;omega)|(apply Aa.int;rfl;rfl;rfl)|(apply Aa.AV;rfl;rfl;rfl;omega;rfl)|(apply Aa.load;rfl;rfl)|(apply Aa.AQ;rfl;rfl)|(apply Aa.BN;rfl;rfl)|(apply Ae.Aw;rfl)|(apply Ae.Af;rfl)|(apply Ae.AZ;rfl)|(intro _;try (exfalso;omega)))
   all_goals try (exfalso;omega)
   refine Az.normal ⟨by first|omega|decide,?_,?_⟩
   ·try (rw [← e1])
    repeat (first|exact Ad.nil|refine Ad.same trivial rfl ?_|refine Ad.same (Ac rfl) rfl ?_|refine Ad.same ⟨trivial,Ac rfl,trivial⟩ rfl ?_|refine Ad.same ⟨trivial,Ac rfl,Ac rfl,trivial⟩ rfl ?_|refine Ad.same ⟨trivial,Ac rfl,Ac rfl,Ac rfl,trivial⟩ rfl ?_|refine Ad.same ⟨trivial,trivial⟩ rfl ?_|refine Ad.cons trivial rfl (.of_eq (Au (by simp<;>omega))) ?_)
   ·rw [← e1]
    repeat (first|exact Aj.nil|(refine Aj.cons (Ac rfl) ?_ rfl ?_ ?_;(first|exact HB.Ak rfl|exact AP.Ah _ _|(simp [HB.under,AP.under,PV.under]));(first|exact Bh.refl _|exact Bh.vec (Bf.refl _) (by simp))))
  ·obtain ⟨a,ha⟩:∃ a:Nat,gi l k=(a:Int):=⟨(gi l k).toNat,by omega⟩
   obtain ⟨g1,g2⟩:=hpl a (by omega)
   have g3:=hst _ g1
   have hcon:=Sl 3 (l.take k) (gi l k) (by rw [List.length_take];omega)
   rw [List.length_take,Nat.min_eq_left (by omega),decide_eq_false (fun hm=>by
    obtain ⟨j,hj,ej⟩:=(NH (by omega)).1 hm
    exact k3 (by omega) j hj ej)] at hcon
   have h64:gi (Hw (BX q.tgt) l q.tgt.Ar.length k) (gi (BX q.tgt) a).d<18446744073709551616:=Nat.lt_of_lt_of_le (ZV (B:=fun _=>60) k (fun j hj hj0=>by
    have h3:=hE2 j (by omega) (by omega)
    have h4:=hpl (gi l j).toNat (by omega)
    have h5:=hst _ h4.1
    have h6:=h4.2
    show _<60
    omega) _) (by decide)
   have vV:=SL (a:=(gi (BX q.tgt) a).s) (by omega)
   have e1:(Hw (BX q.tgt) l q.tgt.Ar.length k).set (gi (BX q.tgt) a).d (gi (Hw (BX q.tgt) l q.tgt.Ar.length k) (gi (BX q.tgt) a).d ||| 2 ^ (gi (BX q.tgt) a).s)=Hw (BX q.tgt) l q.tgt.Ar.length (k+1):=by
    conv=>rhs;unfold Hw
    rw [if_neg h0,ha,Int.toNat_natCast]
   repeat' (first|apply Ae.assoc|apply Ae.AB|apply Ae.region|apply Ae.ES|apply Ae.Aq|apply Ae.Ai|apply AO.normal|apply AL.normal|apply Ag.nil|apply Ap.nil|apply Ag.one|(apply Ap.bar;decide +kernel)|apply Ap.quiet|(apply Ag.take;rfl;rfl)|(apply Ag.guard;rfl;rfl)|(apply Aa.fn;rfl;rfl;exact hcon;intro _;rfl)|(apply Aa.sliceTo;rfl;rfl;rfl;rfl;rfl;rfl;omega)|(apply Aa.AV (l:=BX q.tgt) (i:=a);rfl;(first|exact congrArg (fun b=>some (PV.p (.int .i64 b))) ha|rfl);rfl;omega;rfl)|(apply Aa.orU;rfl;rfl;exact h64;exact vV)|(apply Aa.D8 (y:=gi (Hw (BX q.tgt) l q.tgt.Ar.length k) (gi (BX q.tgt) a).d ||| 2 ^ (gi (BX q.tgt) a).s);rfl;rfl;rfl;trivial;(first|rfl|(refine congrArg (fun t=>[PV.p (FV.int _ t)]) ?_;first|omega|(simp only [Int.natCast_add,Int.natCast_mul,Int.natCast_ediv,Int.natCast_emod]<;>omega)));rfl;rfl;decide;(first|omega|(simp only [List.length_set]<;>omega)))|(apply Aa.assign;rfl)|(apply Aa.move;rfl)|(apply Aa.Bv;rfl;rfl;omega)|(apply Aa.int;rfl;rfl;rfl)|(apply Aa.AV;rfl;rfl;rfl;omega;rfl)|(apply Aa.Dn;rfl;rfl;omega;rfl)|(apply Aa.load;rfl;rfl)|(apply Aa.Bz;rfl;rfl)|(apply Aa.AQ;rfl;rfl)|(apply Aa.BN;rfl;rfl)|(apply Aa.AU;rfl;rfl;rfl)|(apply Aa.Eu;rfl;rfl)|(apply Aa.Dj;rfl;rfl;rfl;rfl;omega)|(apply Aa.Rj;rfl;rfl;omega)|(apply Ae.Aw;rfl)|(apply Ae.Af;rfl)|(apply Ae.AZ;rfl)|(intro _;try (exfalso;omega)))
   all_goals try (exfalso;omega)
   refine Az.normal ⟨by first|omega|decide,?_,?_⟩
   ·try (rw [← e1])
    repeat (first|exact Ad.nil|refine Ad.same trivial rfl ?_|refine Ad.same (Ac rfl) rfl ?_|refine Ad.same ⟨trivial,Ac rfl,trivial⟩ rfl ?_|refine Ad.same ⟨trivial,Ac rfl,Ac rfl,trivial⟩ rfl ?_|refine Ad.same ⟨trivial,Ac rfl,Ac rfl,Ac rfl,trivial⟩ rfl ?_|refine Ad.same ⟨trivial,trivial⟩ rfl ?_|refine Ad.cons trivial rfl (.of_eq (Au (by simp<;>omega))) ?_)
   ·rw [← e1]
    repeat (first|exact Aj.nil|(refine Aj.cons (Ac rfl) ?_ rfl ?_ ?_;(first|exact HB.Ak rfl|exact AP.Ah _ _|(simp [HB.under,AP.under,PV.under]));(first|exact Bh.refl _|exact Bh.vec (Bf.refl _) (by simp))))
 ·have hcs:=Kt (BX q.tgt) l q.tgt.Ar.length l.length
  repeat' (first|apply Ae.assoc|apply Ae.AB|apply Ae.AY|apply Ae.Ai|apply AO.normal|apply AL.exit|apply Az.exit|apply Ag.nil|apply Ag.one|(apply Aa.fn;rfl;rfl;exact hcp;intro _;rfl)|(apply Aa.move;rfl)|(apply Aa.int;rfl;rfl;rfl)|(apply Aa.load;rfl;rfl)|(apply Aa.BN;rfl;rfl)|(apply Ae.Af;rfl)|(intro _;try (exfalso;omega)))
  all_goals try (exfalso;omega)
  apply Ae.FH ((Io q).length) [(2,_),(4,_),(8,_),(92,_),(93,_)] [(0,_),(1,_),(2,_),(6,_)] (fun k r=>(94,.p (.int .i64 (k:Int)))::r) (fun k r=>(7,.box 41 [.vec 6 q.tgt.Ar.length 0 q.tgt.Ar.length,.p (.int .u64 (F5 (Io q) k:Nat)),.p (.int .u64 0)])::r) 8
  ·first|omega|decide
  ·first|omega|decide
  ·repeat (first|exact Ad.nil|(refine Ad.eq rfl ?_ ?_;(first|exact PV.Ak rfl|(simp [PV.under,AP.under];done)))|refine Ad.cons trivial rfl (.of_eq (Au (by simp<;>omega))) ?_)
  ·repeat (first|exact Aj.nil|(refine Aj.eq rfl (Ac rfl) ?_ ?_;(first|exact HB.Ak rfl|exact AP.Ah _ _|(simp [HB.under,AP.under,PV.under];done)))|(refine Aj.cons (Ac rfl) ?_ rfl ?_ ?_;(first|exact trivial|exact AP.Ah _ _|(simp [HB.under,AP.under,PV.under]));(first|exact Bh.refl _|exact Bh.vec (Bf.refl _) (by simp))))
  ·intro k hk
   obtain ⟨g1,g2⟩:=Ry q q.BH.Df.length k hk
   rw [show Jh q q.BH.Df.length=Io q from rfl] at g1 g2
   have ht:=WJ q c2 k (by omega)
   by_cases h0:gi (Io q) k<0
   ·have e1:F5 (Io q) k=F5 (Io q) (k+1):=by
     conv=>rhs;unfold F5
     rw [if_pos h0]
    repeat' (first|apply Ae.AB|apply Ae.region|apply Ae.Aq|apply Ae.Ai|apply AO.normal|apply AL.normal|apply Ae.skip|apply Ag.nil|apply Ag.one|(apply Aa.assign;rfl)|(apply Aa.move;rfl)|(apply Aa.Bv;rfl;rfl;omega)|(apply Aa.int;rfl;rfl;rfl)|(apply Aa.AV;rfl;rfl;rfl;omega;rfl)|(apply Aa.load;rfl;rfl)|(apply Ae.Af;rfl)|(apply Ae.AZ;rfl)|(intro _;try (exfalso;omega)))
    all_goals try (exfalso;omega)
    refine Az.normal ⟨by first|omega|decide,?_,?_⟩
    ·try (rw [← e1])
     repeat (first|exact Ad.nil|refine Ad.same trivial rfl ?_|refine Ad.same (Ac rfl) rfl ?_|refine Ad.same ⟨trivial,Ac rfl,trivial⟩ rfl ?_|refine Ad.same ⟨trivial,Ac rfl,Ac rfl,trivial⟩ rfl ?_|refine Ad.same ⟨trivial,Ac rfl,Ac rfl,Ac rfl,trivial⟩ rfl ?_|refine Ad.same ⟨trivial,trivial⟩ rfl ?_|refine Ad.cons trivial rfl (.of_eq (Au (by simp<;>omega))) ?_)
    ·rw [← e1]
     repeat (first|exact Aj.nil|(refine Aj.cons (Ac rfl) ?_ rfl ?_ ?_;(first|exact HB.Ak rfl|exact AP.Ah _ _|(simp [HB.under,AP.under,PV.under]));(first|exact Bh.refl _|exact Bh.vec (Bf.refl _) (by simp))))
   ·obtain ⟨a,ha⟩:∃ a:Nat,gi (Io q) k=(a:Int):=⟨(gi (Io q) k).toNat,by omega⟩
    have vV:=SL (a:=a) (by omega)
    have e1:F5 (Io q) k ||| 2 ^ a=F5 (Io q) (k+1):=by
     conv=>rhs;unfold F5
     rw [if_neg h0,ha,Int.toNat_natCast]
    repeat' (first|apply Ae.AB|apply Ae.region|apply Ae.ES|apply Ae.Aq|apply Ae.Ai|apply AO.normal|apply AL.normal|apply Ag.nil|apply Ap.nil|apply Ag.one|(apply Ap.bar;decide +kernel)|apply Ap.quiet|(apply Aa.load (r:=.p (.int .i64 (a:Int)));rfl;exact (congrArg (fun b=>some (PV.p (FV.int .i64 b))) ha))|(apply Aa.orU;rfl;rfl;exact ht;exact vV)|(apply Aa.assign;rfl)|(apply Aa.move;rfl)|(apply Aa.Bv;rfl;rfl;omega)|(apply Aa.int;rfl;rfl;rfl)|(apply Aa.AV;rfl;rfl;rfl;omega;rfl)|(apply Aa.load;rfl;rfl)|(apply Aa.AU;rfl;rfl;rfl)|(apply Aa.Bj;rfl;rfl;rfl;trivial;rfl;rfl;exact Ac rfl;exact le_dec rfl)|(apply Aa.Rj;rfl;rfl;omega)|(apply Ae.Af;rfl)|(apply Ae.cond_true;rfl)|(intro _;try (exfalso;omega)))
    all_goals try (exfalso;omega)
    refine Az.normal ⟨by first|omega|decide,?_,?_⟩
    ·try (rw [← e1])
     repeat (first|exact Ad.nil|refine Ad.same trivial rfl ?_|refine Ad.same (Ac rfl) rfl ?_|refine Ad.same ⟨trivial,Ac rfl,trivial⟩ rfl ?_|refine Ad.same ⟨trivial,Ac rfl,Ac rfl,trivial⟩ rfl ?_|refine Ad.same ⟨trivial,Ac rfl,Ac rfl,Ac rfl,trivial⟩ rfl ?_|refine Ad.same ⟨trivial,trivial⟩ rfl ?_|refine Ad.cons trivial rfl (.of_eq (Au (by simp<;>omega))) ?_)
    ·rw [← e1]
     repeat (first|exact Aj.nil|(refine Aj.cons (Ac rfl) ?_ rfl ?_ ?_;(first|exact HB.Ak rfl|exact AP.Ah _ _|(simp [HB.under,AP.under,PV.under]));(first|exact Bh.refl _|exact Bh.vec (Bf.refl _) (by simp))))
  ·repeat' (first|apply Ae.assoc|apply Ae.AB|apply Ae.AY|apply Ae.Ai|apply AO.normal|apply AL.exit|apply Az.exit|apply Ag.nil|apply Ag.one|(apply Aa.move;rfl)|(apply Aa.int;rfl;rfl;rfl)|(apply Aa.load;rfl;rfl)|(apply Aa.BN;rfl;rfl)|(apply Aa.AU;rfl;rfl;rfl)|(apply Ae.Af;rfl)|(intro _;try (exfalso;omega)))
   all_goals try (exfalso;omega)
   apply Ae.FH (q.BH.Ar.length) [(2,_),(4,_),(8,_),(109,_),(110,_)] [(0,_),(1,_),(2,_),(6,_)] (fun k r=>(111,.p (.int .i64 (k:Int)))::r) (fun k r=>(7,.box 41 [.vec 6 q.tgt.Ar.length 0 q.tgt.Ar.length,.p (.int .u64 (F5 (Io q) (Io q).length:Nat)),.p (.int .u64 (Nj q k:Nat))])::r) 8
   ·first|omega|decide
   ·first|omega|decide
   ·repeat (first|exact Ad.nil|(refine Ad.eq rfl ?_ ?_;(first|exact PV.Ak rfl|(simp [PV.under,AP.under];done)))|refine Ad.cons trivial rfl (.of_eq (Au (by simp<;>omega))) ?_)
   ·repeat (first|exact Aj.nil|(refine Aj.eq rfl (Ac rfl) ?_ ?_;(first|exact HB.Ak rfl|exact AP.Ah _ _|(simp [HB.under,AP.under,PV.under];done)))|(refine Aj.cons (Ac rfl) ?_ rfl ?_ ?_;(first|exact trivial|exact AP.Ah _ _|(simp [HB.under,AP.under,PV.under]));(first|exact Bh.refl _|exact Bh.vec (Bf.refl _) (by simp))))
   ·intro k hk
    have hix:=a4w q.tgt.Ar (gi q.BH.Ar k) (by omega)
    rw [show Fg (fun j=>decide ((gi q.tgt.Ar j).name=(gi q.BH.Ar k).name)) q.tgt.Ar.length=dJ q k from rfl] at hix
    obtain ⟨g1,g2⟩:=dQ q k
    have ht:=nN q d2.2 k
    have hq:q.reg.off / 2 ^ k<18446744073709551616:=Nat.lt_of_le_of_lt (Nat.div_le_self _ _) o1
    have hm2:=Nat.mod_lt (q.reg.off / 2 ^ k) (show 0<2 by decide)
    by_cases hb:q.reg.off / 2 ^ k % 2=1
    ·by_cases h0:0≤dJ q k
     ·obtain ⟨a,ha⟩:∃ a:Nat,dJ q k=(a:Int):=⟨(dJ q k).toNat,by omega⟩
      have vV:=SL (a:=a) (by omega)
      have e1:Nj q k ||| 2 ^ a=Nj q (k+1):=by
       conv=>rhs;unfold Nj
       rw [if_pos ⟨hb,h0⟩,ha,Int.toNat_natCast]
      rw [ha] at hix
      repeat' (first|apply Ae.AB|apply Ae.region|apply Ae.ES|apply Ae.Aq|apply Ae.Ai|apply AO.normal|apply AL.normal|apply Ag.nil|apply Ap.nil|apply Ag.one|(apply Ap.bar;decide +kernel)|apply Ap.quiet|(apply Ag.take;rfl;rfl)|(apply Ag.guard;rfl;rfl)|(apply Aa.read [8] hix;rfl;rfl;exact .of_eq rfl;exact AP.Ak rfl;exact Dv rfl;(repeat (first|exact trivial|refine ⟨⟨_,rfl,.of_eq rfl⟩,?_⟩));decide;(intro _ hb;simp at hb<;>omega);rfl)|(apply Aa.makeFunc;rfl;rfl)|(apply Aa.orU;rfl;rfl;exact ht;exact vV)|(apply Aa.assign;rfl)|(apply Aa.move;rfl)|(apply Aa.Bv;rfl;rfl;omega)|(apply Aa.YJ;rfl;rfl;omega)|(apply Aa.int;rfl;rfl;rfl)|(apply Aa.AV;rfl;rfl;rfl;omega;rfl)|(apply Aa.load;rfl;rfl)|(apply Aa.Bz;rfl;rfl)|(apply Aa.AU;rfl;rfl;rfl)|(apply Aa.alloc;rfl)|(apply Aa.Bj;rfl;rfl;rfl;trivial;rfl;rfl;exact Ac rfl;exact le_dec rfl)|(apply Aa.Rj;rfl;rfl;omega)|(apply Aa.QS;rfl;rfl;(simp only [IntKind.bits];omega))|(apply Ae.Af;rfl)|(apply Ae.cond_true;rfl)|(intro _;try (exfalso;omega)))
      all_goals try (exfalso;omega)
      refine Az.normal ⟨by first|omega|decide,?_,?_⟩
      ·try (rw [← e1])
       repeat (first|exact Ad.nil|refine Ad.same trivial rfl ?_|refine Ad.same (Ac rfl) rfl ?_|refine Ad.same ⟨trivial,Ac rfl,trivial⟩ rfl ?_|refine Ad.same ⟨trivial,Ac rfl,Ac rfl,trivial⟩ rfl ?_|refine Ad.same ⟨trivial,Ac rfl,Ac rfl,Ac rfl,trivial⟩ rfl ?_|refine Ad.same ⟨trivial,trivial⟩ rfl ?_|refine Ad.cons trivial rfl (.of_eq (Au (by simp<;>omega))) ?_)
      ·rw [← e1]
       repeat (first|exact Aj.nil|(refine Aj.cons (Ac rfl) ?_ rfl ?_ ?_;(first|exact HB.Ak rfl|exact AP.Ah _ _|(simp [HB.under,AP.under,PV.under]));(first|exact Bh.refl _|exact Bh.vec (Bf.refl _) (by simp))))
     ·have e1:Nj q k=Nj q (k+1):=by
       conv=>rhs;unfold Nj
       rw [if_neg (fun h=>h0 h.2)]
      repeat' (first|apply Ae.AB|apply Ae.region|apply Ae.Aq|apply Ae.Ai|apply AO.normal|apply AL.normal|apply Ae.skip|apply Ag.nil|apply Ag.one|(apply Ag.take;rfl;rfl)|(apply Ag.guard;rfl;rfl)|(apply Aa.read [8] hix;rfl;rfl;exact .of_eq rfl;exact AP.Ak rfl;exact Dv rfl;(repeat (first|exact trivial|refine ⟨⟨_,rfl,.of_eq rfl⟩,?_⟩));decide;(intro _ hb;simp at hb<;>omega);rfl)|(apply Aa.makeFunc;rfl;rfl)|(apply Aa.assign;rfl)|(apply Aa.move;rfl)|(apply Aa.Bv;rfl;rfl;omega)|(apply Aa.YJ;rfl;rfl;omega)|(apply Aa.int;rfl;rfl;rfl)|(apply Aa.AV;rfl;rfl;rfl;omega;rfl)|(apply Aa.load;rfl;rfl)|(apply Aa.Bz;rfl;rfl)|(apply Aa.AU;rfl;rfl;rfl)|(apply Aa.alloc;rfl)|(apply Aa.Bj;rfl;rfl;rfl;trivial;rfl;rfl;exact Ac rfl;exact le_dec rfl)|(apply Aa.QS;rfl;rfl;(simp only [IntKind.bits];omega))|(apply Ae.Af;rfl)|(apply Ae.AZ;rfl)|(intro _;try (exfalso;omega)))
      all_goals try (exfalso;omega)
      refine Az.normal ⟨by first|omega|decide,?_,?_⟩
      ·try (rw [← e1])
       repeat (first|exact Ad.nil|refine Ad.same trivial rfl ?_|refine Ad.same (Ac rfl) rfl ?_|refine Ad.same ⟨trivial,Ac rfl,trivial⟩ rfl ?_|refine Ad.same ⟨trivial,Ac rfl,Ac rfl,trivial⟩ rfl ?_|refine Ad.same ⟨trivial,Ac rfl,Ac rfl,Ac rfl,trivial⟩ rfl ?_|refine Ad.same ⟨trivial,trivial⟩ rfl ?_|refine Ad.cons trivial rfl (.of_eq (Au (by simp<;>omega))) ?_)
      ·rw [← e1]
       repeat (first|exact Aj.nil|(refine Aj.cons (Ac rfl) ?_ rfl ?_ ?_;(first|exact HB.Ak rfl|exact AP.Ah _ _|(simp [HB.under,AP.under,PV.under]));(first|exact Bh.refl _|exact Bh.vec (Bf.refl _) (by simp))))
    ·have e1:Nj q k=Nj q (k+1):=by
      conv=>rhs;unfold Nj
      rw [if_neg (fun h=>hb h.1)]
     repeat' (first|apply Ae.AB|apply Ae.region|apply Ae.Aq|apply Ae.Ai|apply AO.normal|apply AL.normal|apply Ae.skip|apply Ag.nil|apply Ag.one|(apply Ag.drop;rfl;rfl;rfl)|(apply Ag.guard;rfl;rfl)|(apply Aa.read [8] hix;rfl;rfl;exact .of_eq rfl;exact AP.Ak rfl;exact Dv rfl;(repeat (first|exact trivial|refine ⟨⟨_,rfl,.of_eq rfl⟩,?_⟩));decide;(intro _ hb;simp at hb<;>omega);rfl)|(apply Aa.makeFunc;rfl;rfl)|(apply Aa.assign;rfl)|(apply Aa.move;rfl)|(apply Aa.Bv;rfl;rfl;omega)|(apply Aa.YJ;rfl;rfl;omega)|(apply Aa.int;rfl;rfl;rfl)|(apply Aa.AV;rfl;rfl;rfl;omega;rfl)|(apply Aa.load;rfl;rfl)|(apply Aa.AQ;rfl;rfl)|(apply Aa.AU;rfl;rfl;rfl)|(apply Aa.alloc;rfl)|(apply Aa.Bj;rfl;rfl;rfl;trivial;rfl;rfl;exact Ac rfl;exact le_dec rfl)|(apply Aa.QS;rfl;rfl;(simp only [IntKind.bits];omega))|(apply Ae.Af;rfl)|(apply Ae.cond_false;rfl)|(intro _;try (exfalso;omega)))
     all_goals try (exfalso;omega)
     refine Az.normal ⟨by first|omega|decide,?_,?_⟩
     ·try (rw [← e1])
      repeat (first|exact Ad.nil|refine Ad.same trivial rfl ?_|refine Ad.same (Ac rfl) rfl ?_|refine Ad.same ⟨trivial,Ac rfl,trivial⟩ rfl ?_|refine Ad.same ⟨trivial,Ac rfl,Ac rfl,trivial⟩ rfl ?_|refine Ad.same ⟨trivial,Ac rfl,Ac rfl,Ac rfl,trivial⟩ rfl ?_|refine Ad.same ⟨trivial,trivial⟩ rfl ?_|refine Ad.cons trivial rfl (.of_eq (Au (by simp<;>omega))) ?_)
     ·rw [← e1]
      repeat (first|exact Aj.nil|(refine Aj.cons (Ac rfl) ?_ rfl ?_ ?_;(first|exact HB.Ak rfl|exact AP.Ah _ _|(simp [HB.under,AP.under,PV.under]));(first|exact Bh.refl _|exact Bh.vec (Bf.refl _) (by simp))))
   ·repeat' (first|(refine Ae.at 31 ?_;refine Ae.ghost (Bd.Dc 7 0 rfl rfl rfl) ?_;first|apply Ae.AB|apply Ae.BF)|apply Ae.AB|apply Ae.AY|apply AO.normal|apply AL.exit|apply Az.exit|apply Ae.ret|apply Ag.nil|apply Ag.one|(apply Aa.assign;rfl)|(apply Aa.int;rfl;rfl;rfl)|(apply Aa.load;rfl;rfl)|(apply Aa.Bj;rfl;rfl;rfl;trivial;rfl;rfl;exact Ac rfl;exact le_dec rfl)|(apply Ae.Af;rfl)|(intro _;try (exfalso;omega)))
    all_goals first|(exfalso;omega)|(refine Done.ret rfl (.refl _) (by first|exact trivial|exact ⟨trivial,trivial,trivial⟩|exact ⟨trivial,trivial,trivial,trivial⟩) Aj.nil (Nat.zero_le _) (Nat.le_refl _) ⟨?_,rfl,rfl⟩;try rfl)
end Go.Proofs.YtdabojnmoejilaaGreatDoor
namespace Go.Proofs.YtdabojnmoejilaaGreatDoor
open Go Go.Am Go.Vm Go.Tra Go.Hun
def a7p (x:lq) (k:Nat) (p:nX):lq:={ x with Ar:=x.Ar.set k { gi x.Ar k with stops:=(gi x.Ar k).stops++[p] } }
end Go.Proofs.YtdabojnmoejilaaGreatDoor
namespace Go.Proofs.YtdabojnmoejilaaGreatDoor
open Go Go.Am Go.Vm Go.Tra Go.Hun
theorem zL (t k:Nat):(t / 2 ^ k % 2==1)=t.testBit k:=by
 rw [Nat.testBit_eq_decide_div_mod_eq]
 by_cases h:t / 2 ^ k % 2=1
 ·rw [h];rfl
 ·rw [decide_eq_false h];simpa using h
theorem pq {q:Jw} {l:List Int} (he:Zo q l=0):l.length=(Bq q.BH q.reg).length∧∀ k,k<l.length→-1≤gi l k∧gi l k<(BX q.tgt).length∧(0≤gi l k→∀ j,j<k→gi l j≠gi l k):=by
 have hlen:l.length=(Bq q.BH q.reg).length:=Classical.byContradiction fun h'=>by unfold Zo at he;rw [if_pos h'] at he;cases he
 have hE:Z7 l (BX q.tgt).length l.length l.length=0:=by unfold Zo at he;rw [if_neg (fun h'=>h' hlen)] at he;exact he
 exact ⟨hlen,fun k hk=>RV (n:=l.length) rfl l.length (Nat.le_refl _) hE k (by omega) hk⟩
theorem yh {q:Jw} (h2:I9 q.tgt) {l:List Int} (he:Zo q l=0):Nl q.tgt (Zw q l)=0∧(Zw q l).Ok∧(Bq q.tgt (Zw q l)).length≤(Bq q.BH q.reg).length:=by
 obtain ⟨hlen,hk⟩:=pq he
 have hst:∀ i,gi (Hw (BX q.tgt) l q.tgt.Ar.length l.length) i<2 ^ (gi q.tgt.Ar i).stops.length:=ZV l.length fun j hj h0=>by
  have h3:=hk j hj
  exact (Rn (o:=q.tgt) (i:=(gi l j).toNat) (by omega)).2
 have hs:=Kt (BX q.tgt) l q.tgt.Ar.length l.length
 have hcp:F5 (Io q) (Io q).length<2 ^ q.tgt.Df.length:=MI _ fun j hj=>(Ry q _ j hj).2
 have hof:=Z5 q q.BH.Ar.length
 refine ⟨?_,⟨fun i hi=>?_,?_,?_,?_⟩,?_⟩
 ·rw [Ll (show (Zw q l).stops.length=q.tgt.Ar.length from hs) (fun i _=>Nat.div_eq_of_lt (hst i))]
  rw [if_neg]
  rintro (h|h)
  ·exact h (Nat.div_eq_of_lt hcp)
  ·exact h (Nat.div_eq_of_lt hof)
 ·have h3:i<q.tgt.Ar.length:=by rw [← hs];exact hi
  have h4:=h2.stops i h3
  exact Nat.lt_of_lt_of_le (hst i) (Nat.le_trans (Nat.pow_le_pow_right (by decide) h4) (by decide))
 ·exact WJ q h2.Df _ (Nat.le_refl _)
 ·exact nN q h2.Ar.2 _
 ·have h3:=h2.Ar
  show (Hw (BX q.tgt) l q.tgt.Ar.length l.length).length<_
  omega
 ·rw [← hlen]
  refine dR (fun j=>gi (BX q.tgt) (gi l j).toNat) l.length _ (Rx _ _) fun p hp=>?_
  obtain ⟨h3,h4⟩:=List.mem_filter.1 hp
  have h5:=VK h3
  have h6:(gi (Hw (BX q.tgt) l q.tgt.Ar.length l.length) p.d).testBit p.s=true:=by
   rw [← zL]
   exact h4
  obtain ⟨j,h7,_,h8⟩:=(iG h5.1 l.length).1 h6
  exact ⟨j,h7,h8⟩
theorem rJ (o:EM):Nl o (Kw o)=0:=by
 have h:(Kw o).stops.length=o.Ar.length:=List.length_replicate
 rw [Ll h (fun i _=>by show gi (List.replicate _ 0) i / _=0;rw [Gw];exact Nat.zero_div _),if_neg]
 rintro (h|h)
 ·exact h (Nat.zero_div _)
 ·exact h (Nat.zero_div _)
theorem wC {o:EM} (h:o.Ar.length≤8):(Kw o).Ok :=
 ⟨fun i _=>by show gi (List.replicate _ 0) i<_;rw [Gw];decide,by show 0<_;decide,by show 0<_;decide,by show (List.replicate o.Ar.length 0).length<_;rw [List.length_replicate];omega⟩
theorem rG {q:Jw} (h:Xu q):Zo q (Ea q).cols=0:=by
 have hP:=Tz h.P7.P7
 have hl:(Ea q).cols.length=(Bq q.BH q.reg).length:=by
  rw [← Jt];exact hP.lC
 unfold Zo
 rw [if_neg (fun h'=>h' hl)]
 have h0:∀ m,m=JZ q∨(Bq q.BH q.reg).length=0→Z7 (Ea q).cols m (Ea q).cols.length (Ea q).cols.length=0:=fun m hm=>by
  rcases hm with hm|hm
  ·subst hm
   refine Yw rfl ?_ _ (Nat.le_refl _)
   rw [hl,← Jt]
   exact hP.part
  ·rw [hl,hm];rfl
 refine h0 _ ?_
 unfold JZ
 split
 ·rename_i h1;exact .inr h1
 ·exact .inl rfl
end Go.Proofs.YtdabojnmoejilaaGreatDoor
namespace Go.Proofs.YtdabojnmoejilaaGreatDoor
open Go Go.Am Go.Vm Go.Tra
attribute [local irreducible] Aa Ag Ap Ae BD AX CO AO AL Az Vm.Done CY Bl ZW
def aU (i:Nat) (f:Int):Stp:=⟨[82,UInt8.ofNat (48+i)],⟨f,1⟩,[⟨36,38,[⟨(i:Int),0⟩]⟩]⟩
def Zi (i:Nat) (t:List UInt8) (f:Int):FI:=⟨[82,UInt8.ofNat (48+i)],t,⟨f,1⟩,36,[1,1,1]⟩
def Xj (ss:List Stp):VL:=⟨[71,114,101,97,116],false,36,38,ss⟩
structure Tn where
 t:List UInt8
instance:Enc Tn:={ default:=⟨[]⟩,enc:=fun x=>[.str (bs x.t)],size:=1,len:=fun _=>rfl }
def EG (fs:List Int) (k:Nat):List Stp:=(List.range k).map fun i=>aU i (gi fs i)
def FB (ts:List Tn) (fs:List Int) (k:Nat):List FI:=(List.range k).map fun i=>Zi i (gi ts i).t (gi fs i)
theorem iY (fs:List Int) (k:Nat):EG fs (k+1)=EG fs k++[aU k (gi fs k)]:=by simp [EG,List.range_succ]
theorem iJ (ts:List Tn) (fs:List Int) (k:Nat):FB ts fs (k+1)=FB ts fs k++[Zi k (gi ts k).t (gi fs k)]:=by simp [FB,List.range_succ]
theorem TD (fs:List Int) (k:Nat):(EG fs k).length=k:=by simp [EG]
theorem RZ (ts:List Tn) (fs:List Int) (k:Nat):(FB ts fs k).length=k:=by simp [FB]
def Kr (ts:List Tn) (fs:List Int):EM:=⟨[79],FB ts fs ts.length,[Xj (EG fs ts.length)],[]⟩
theorem UO (ts:List Tn) (fs:List Int) (hl:ts.length=fs.length) (h9:ts.length≤9):AX env 23 [.lst 9 (cells ts) ts.length,.lst 3 (cells fs) fs.length] (.p (.agg (Enc.enc (Kr ts fs)))):=by
 refine AX.enter (AA (by decide)) Tryz.func23 rfl (by kernel_rfl) (by simp [Tryz.ntmps23]) ?_
 repeat' (first|apply Ae.assoc|apply Ae.AB|apply Ae.Ai|apply Ag.nil|apply Ag.one|(apply Aa.assign;rfl)|(apply Aa.alloc;rfl)|(apply Aa.Bj;rfl;rfl;rfl;trivial;rfl;rfl;exact Ac rfl;exact le_dec rfl)|(apply Aa.build;rfl;rfl;rfl;rfl;rfl)|(apply Aa.buildSlice;rfl;rfl;rfl;decide;rfl;rfl;rfl))
 all_goals try (exfalso;omega)
 refine Ae.ghost ((((Bd.zH 1 rfl (by decide)).trans (Bd.jO 1 4 122 rfl rfl)).trans (Bd.Ey 2 1 131 rfl rfl))) ?_
 apply Ae.FH (ts.length) [(0,_),(1,_),(4,_),(5,_)] [(0,_)] (fun k r=>(6,.p (.int .i64 (k:Int)))::r) (fun k r=>(1,.E8 97 [.p (.str (bs [71,114,101,97,116])),.p (.bool false),.p (.int .i64 36),.p (.int .i64 38),.vec 3 (EG fs k).length 0 (EG fs k).length] 1)::(2,.box 37 [.p (.str (bs [79])),.vec 4 (FB ts fs k).length 0 (FB ts fs k).length,.vec 1 1 0 1,.p (.val (.slice none 0 0))])::(3,.vec 122 (cells (EG fs k)) (EG fs k).length true)::(4,.vec 131 (cells (FB ts fs k)) (FB ts fs k).length true)::r) 5
 ·first|omega|decide
 ·first|omega|decide
 ·repeat (first|exact Ad.nil|(refine Ad.eq rfl ?_ ?_;(first|exact PV.Ak rfl|(simp [PV.under,AP.under];done)))|refine Ad.cons trivial rfl (.of_eq (Au (by simp<;>omega))) ?_)
 ·repeat (first|exact Aj.nil|(refine Aj.eq rfl (Ac rfl) ?_ ?_;(first|exact HB.Ak rfl|exact AP.Ah _ _|(simp [HB.under,AP.under,PV.under];done)))|(refine Aj.cons (Ac rfl) ?_ rfl ?_ ?_;(first|exact trivial|exact AP.Ah _ _|(simp [HB.under,AP.under,PV.under]));(first|exact Bh.refl _|exact Bh.vec (Bf.refl _) (by simp))))
 ·intro k hk
  have a1:=iY fs k
  have a2:=iJ ts fs k
  have a3:(EG fs (k+1)).length=(EG fs k).length+1:=by rw [a1];simp
  have a4:(FB ts fs (k+1)).length=(FB ts fs k).length+1:=by rw [a2];simp
  have a5:=TD fs k
  have a6:=RZ ts fs k
  repeat' (first|(refine Ap.atIdx 9 ?_;refine Ap.ghost (Bd.freeze 37 rfl rfl) ?_)|(refine Ap.atIdx 12 ?_;refine Ap.ghost (Bd.freeze 53 rfl rfl) ?_)|(refine Ap.atIdx 14 ?_;refine Ap.ghost (Bd.freeze 55 rfl rfl) ?_)|(refine Ap.atIdx 16 ?_;apply Ap.weak [.tmp 42];decide +kernel;rfl;rfl;(first|exact Rt.ref rfl|exact Rt.vec rfl|exact Rt.Em rfl);decide +kernel;rfl)|apply Ae.assoc|apply Ae.AB|apply Ae.BF|apply Ae.region|apply Ae.ES|apply Ae.Aq|apply Ae.Ai|apply AO.normal|apply AL.normal|apply Ag.nil|apply Ap.nil|apply Ag.one|(apply Ap.bar;decide +kernel)|apply Ap.quiet|(apply Aa.DK (a:=Zi k (gi ts k).t (gi fs k));rfl;rfl;rfl;rfl;rfl;rfl;rfl;rfl;(intro _ h;cases h);rfl;rfl;rfl;decide;decide;(first|omega|(simp only [List.length_take,List.length_drop,List.length_append,List.length_singleton,List.length_cons,List.length_nil]<;>omega)))|(apply Aa.DK (a:=aU k (gi fs k));rfl;rfl;rfl;rfl;rfl;rfl;rfl;rfl;(intro _ h;cases h);rfl;rfl;rfl;decide;decide;(first|omega|(simp only [List.length_take,List.length_drop,List.length_append,List.length_singleton,List.length_cons,List.length_nil]<;>omega)))|(apply Aa.a0o;rfl;rfl;rfl;rfl;rfl;decide;omega)|(apply Aa.AV (l:=ts) (i:=k);rfl;rfl;rfl;exact hk;rfl)|(apply Aa.AV (l:=fs) (i:=k);rfl;rfl;rfl;omega;rfl)|(apply Aa.a4f (i:=0);rfl;rfl;rfl;rfl;decide)|(apply Aa.a2f;rfl;rfl;rfl)|(apply Aa.a7b;rfl;rfl;rfl;rfl)|(apply Aa.a3n;rfl;rfl;rfl;trivial;rfl;rfl;decide;(simp only [List.length_cons,List.length_nil]<;>decide))|(apply Aa.assign;rfl)|(apply Aa.move;rfl)|(apply Aa.Bv;rfl;rfl;omega)|(apply Aa.a8n;rfl;rfl;omega)|(apply Aa.int;rfl;rfl;rfl)|(apply Aa.load;rfl;rfl)|(apply Aa.BN;rfl;rfl)|(apply Aa.AU;rfl;rfl;rfl)|(apply Aa.alloc;rfl)|(apply Aa.Bj;rfl;rfl;rfl;trivial;rfl;rfl;exact Ac rfl;exact le_dec rfl)|(apply Aa.build;rfl;rfl;rfl;rfl;rfl)|(apply Aa.buildSlice;rfl;rfl;rfl;decide;rfl;rfl;rfl)|(apply Aa.Lc;rfl;rfl;rfl;rfl;omega)|(apply Ae.Af;rfl)|(intro _;try (exfalso;omega)))
  all_goals try (exfalso;omega)
  refine Az.normal ⟨by omega,?_,?_⟩
  ·repeat (first|exact Ad.nil|refine Ad.same trivial rfl ?_|refine Ad.same (Ac rfl) rfl ?_|refine Ad.same ⟨trivial,Ac rfl,trivial⟩ rfl ?_|refine Ad.same ⟨trivial,Ac rfl,Ac rfl,trivial⟩ rfl ?_|refine Ad.same ⟨trivial,Ac rfl,Ac rfl,Ac rfl,trivial⟩ rfl ?_|refine Ad.same ⟨trivial,trivial⟩ rfl ?_|refine Ad.cons trivial rfl (.of_eq (Au (by simp<;>omega))) ?_)
  ·rw [a3,a4,a1,a2]
   repeat (first|exact Aj.nil|(refine Aj.cons (Ac rfl) ?_ rfl ?_ ?_;(first|exact HB.Ak rfl|exact AP.Ah _ _|(simp [HB.under,AP.under,PV.under]));(first|exact Bh.refl _|exact Bh.vec (Bf.refl _) (by simp))))
 ·repeat' (first|(refine Ae.at 9 ?_;refine Ae.ghost (((((Bd.aX 1 4 rfl rfl rfl).trans (Bd.uY 1 (cells [Xj (EG fs ts.length)]) rfl (by decide) rfl)).trans (Bd.Dc 2 2 rfl rfl rfl)).trans (Bd.Dc 2 1 rfl rfl rfl))) ?_;first|apply Ae.AB|apply Ae.BF)|apply Ae.assoc|apply Ae.AB|apply Ae.AY|apply AO.normal|apply AL.exit|apply Az.exit|apply Ae.ret|apply Ag.nil|apply Ag.one|(apply Aa.move;rfl)|(apply Aa.int;rfl;rfl;rfl)|(apply Aa.load;rfl;rfl)|(apply Aa.BN;rfl;rfl)|(apply Aa.Bj;rfl;rfl;rfl;trivial;rfl;rfl;exact Ac rfl;exact le_dec rfl)|(apply Ae.Af;rfl)|(intro _;try (exfalso;omega)))
  all_goals try (exfalso;omega)
  all_goals (refine Done.ret (r:=.p (.agg (Enc.enc (Kr ts fs)))) rfl (.p (.agg (.cons (.refl _) (.cons (.refl _) (.cons (.refl _) (.cons (.nil _) (.refl _))))))) trivial Aj.nil (Nat.zero_le _) (Nat.le_refl _) ⟨rfl,rfl,rfl⟩)
end Go.Proofs.YtdabojnmoejilaaGreatDoor
namespace Go.Proofs.YtdabojnmoejilaaGreatDoor
open Go Go.Am Go.Vm Go.Tra Go.Hun
attribute [local irreducible] Aa Ag Ap Ae BD AX CO AO AL Az Vm.Done CY Bl
theorem dM (fs:List Int):∀ {k i:Nat},i<k→gi (EG fs k) i=aU i (gi fs i):=fun {k i} h=>by
 unfold EG gi;simp [List.getElem?_map,List.getElem?_range h]
theorem bV (ts:List Tn) (fs:List Int):∀ {k i:Nat},i<k→gi (FB ts fs k) i=Zi i (gi ts i).t (gi fs i):=fun {k i} h=>by
 unfold FB gi;simp [List.getElem?_map,List.getElem?_range h]
theorem a0n {i:Nat} {t:List UInt8} {f:Int} (hi:i<10) (ht:CZ t) (hf:pK ⟨f,1⟩):DL (Zi i t f)=0:=by
 unfold DL
 have h1:CZ (Zi i t f).name:=V4 (by decide) hi
 have h2:CZ (Zi i t f).Fp:=ht
 have h3:OW (Zi i t f).Du=0:=OA.2 hf
 rw [if_neg (by rintro (h|h);exact h h1;exact h h2),if_neg (fun h=>h h3),if_neg (by show ¬ ((36:Int)< -256∨(36:Int)>256);omega),if_neg (by show ¬ (3=0);omega),if_neg (by show ¬ (3>128);omega)]
 unfold Dy
 rw [if_pos]
 intro j hj
 have:j=0∨j=1∨j=2:=by
  have:j<3:=hj
  omega
 rcases this with rfl|rfl|rfl<;>(show ¬ X9 1)<;>decide
theorem nT {ts:List Tn} {fs:List Int} (hl:ts.length=fs.length) (h9:ts.length≤9) (hT:∀ i,i<ts.length→CZ (gi ts i).t) (hF:∀ i,i<ts.length→pK ⟨gi fs i,1⟩):KU (Kr ts fs)=0:=by
 have eR:(Kr ts fs).ranks=FB ts fs ts.length:=rfl
 have eD:(Kr ts fs).Ar=[Xj (EG fs ts.length)]:=rfl
 have eC:(Kr ts fs).Df=[]:=rfl
 have eN:(Kr ts fs).name=[79]:=rfl
 have lR:=RZ ts fs ts.length
 have lS:=TD fs ts.length
 have gR:∀ i,i<ts.length→gi (FB ts fs ts.length) i=Zi i (gi ts i).t (gi fs i):=fun i hi=>bV ts fs hi
 have gS:∀ i,i<ts.length→gi (EG fs ts.length) i=aU i (gi fs i):=fun i hi=>dM fs hi
 unfold KU
 rw [eR,eD,eC,eN]
 have hr:∀ i,i<(FB ts fs ts.length).length→DL (gi (FB ts fs ts.length) i)=0:=fun i hi=>by
  rw [lR] at hi
  rw [gR i hi]
  exact a0n (by omega) (hT i hi) (hF i hi)
 have hrk:NW (FB ts fs ts.length) 0=0:=SB (fun i hi=>⟨hr i hi,S9 (c:=82) (by omega) (fun j hj=>by rw [gR j (by omega)];rfl) hi⟩) _ 0 rfl
 have n1:CZ [79]:=⟨by decide,by decide,by decide,fun j h1 h2=>by simp at h2;omega⟩
 have n2:CZ [71,114,101,97,116]:=⟨by decide,by decide,by decide,fun j h1 h2=>by
  have:j=1∨j=2∨j=3∨j=4:=by simp at h2;omega
  rcases this with rfl|rfl|rfl|rfl<;>exact .inl (by decide)⟩
 rw [if_neg (fun h=>h n1),if_neg (by omega),if_neg (fun h=>h hrk),if_neg (by simp),if_neg (by simp)]
 have hst:∀ i,i<(EG fs ts.length).length→Ip (FB ts fs ts.length) 36 38 (gi (EG fs ts.length) i)=0:=fun i hi=>by
  rw [lS] at hi
  rw [gS i hi]
  unfold Ip
  rw [YN hr (by omega) (by omega),if_neg (fun h=>h rfl)]
  unfold wQ
  have h1:CZ (aU i (gi fs i)).name:=V4 (by decide) (by omega)
  have h3:OW (aU i (gi fs i)).Du=0:=OA.2 (hF i hi)
  have es:(aU i (gi fs i)).E5=[⟨36,38,[⟨(i:Int),0⟩]⟩]:=rfl
  rw [if_neg (fun h=>h h1),if_neg (fun h=>h h3),es,if_neg (by simp),if_neg (by simp)]
  exact Jr (by simp) (H9 ⟨by simp only;omega,by simp⟩)
 have hd:FM (FB ts fs ts.length) [Xj (EG fs ts.length)] 0=0:=PX (fun i hi=>by
  obtain rfl:i=0:=by simp at hi;omega
  refine ⟨n2,by simp,?_⟩
  show Jo (FB ts fs ts.length) (Xj (EG fs ts.length))=0
  unfold Jo
  rw [show U7 (Xj (EG fs ts.length)).lo (Xj (EG fs ts.length)).hi=0 from Ld (by simp [Xj]),if_neg (fun h=>h rfl),if_neg (by show ¬ (EG fs ts.length).length>60;omega)]
  exact PY (fun j hj=>⟨hst j hj,S9 (c:=82) (l:=EG fs ts.length) (by omega) (fun a ha=>by rw [gS a (by omega)];rfl) hj⟩) _ 0 rfl) _ 0 rfl
 rw [if_neg (fun h=>h hd)]
 unfold Ot
 rw [if_neg (by simp)]
 have hc:PI ([Xj (EG fs ts.length)].map fun d=>(⟨d.lo,d.hi⟩:aP)) 0=0:=Tf (fun i hi=>by
  obtain rfl:i=0:=by simp at hi;omega
  exact Ld (by simp [gi,Xj])) _ 0 rfl
 rw [if_neg (fun h=>h hc),LG,if_neg (by simp)]
theorem xQ {ts:List Tn} {fs:List Int} (h9:ts.length≤9) (hT:∀ i,i<ts.length→CZ (gi ts i).t):Pj (Kr ts fs):=by
 have lR:=RZ ts fs ts.length
 have lS:=TD fs ts.length
 refine ⟨by show 1<1000000;decide,by show (FB ts fs ts.length).length<_;omega,by show 1<1000000;decide,by show 0<1000000;decide,fun i hi=>?_,fun i hi=>?_,fun i hi=>?_⟩
 ·have hi:i<ts.length:=by rw [← lR];exact hi
  show V5 (gi (FB ts fs ts.length) i)
  rw [bV ts fs hi]
  exact ⟨by show 2<1000000;decide,by show (gi ts i).t.length<_;have:=(hT i hi).2.1;omega,by show 3<1000000;decide⟩
 ·obtain rfl:i=0:=by
   have:i<1:=hi
   omega
  show vS (Xj (EG fs ts.length))
  refine ⟨by show 5<1000000;decide,by show (EG fs ts.length).length<_;omega,fun j hj=>?_⟩
  have hj:j<ts.length:=by rw [← lS];exact hj
  show Yf (gi (EG fs ts.length) j)
  rw [dM fs hj]
  refine ⟨by show 2<1000000;decide,by show 1<1000000;decide,fun a ha=>?_⟩
  obtain rfl:a=0:=by
   have:a<1:=ha
   omega
  exact ⟨by show 1<1000000;decide⟩
 ·have:i<0:=hi
  omega
def sQ:List Tn:=[⟨[112,114,105,110,99,105,112,97,108]⟩,⟨[102,108,117,116,101]⟩]
def yO:List Tn:=[⟨[102,108,117,116,101]⟩]
theorem uJ (s:List UInt8) (h0:0<s.length) (h1:s.length≤32) (h:∀ i,i<s.length→fO (gi s i).toNat):CZ s:=⟨h0,h1,h 0 h0,fun i _ hi=>.inl (h i hi)⟩
instance (c:Nat):Decidable (fO c):=by unfold fO;infer_instance
theorem a2y:CZ [112,114,105,110,99,105,112,97,108]:=uJ _ (by decide) (by decide) (by decide)
theorem yF:CZ [102,108,117,116,101]:=uJ _ (by decide) (by decide) (by decide)
theorem xR:∀ i,i<sQ.length→CZ (gi sQ i).t:=fun i hi=>by
 have:i=0∨i=1:=by
  have:i<2:=hi
  omega
 rcases this with rfl|rfl
 ·exact a2y
 ·exact yF
theorem x9:∀ i,i<yO.length→CZ (gi yO i).t:=fun i hi=>by
 obtain rfl:i=0:=by
  have:i<1:=hi
  omega
 exact yF
def qK (w:Int):Jw:=⟨Kr sQ [8,4],⟨[3],0,0⟩,Kr yO [8],⟨10,1,5,w⟩⟩
theorem a2g {w:Int} (hw:0≤w∧w≤100):Nr (qK w).Ia:=fun i hi=>by
 match i,hi with
 |0,_=>show (0:Int)≤10∧(10:Int)≤100000;decide
 |1,_=>show (0:Int)≤1∧(1:Int)≤100000;decide
 |2,_=>show (0:Int)≤5∧(5:Int)≤100000;decide
 |3,_=>exact ⟨hw.1,Int.le_trans hw.2 (by decide)⟩
theorem shK:∀ a,a<2→(BU ⟨8,1⟩ ⟨gi [8,4] a,1⟩).2=0∧-1000≤(BU ⟨8,1⟩ ⟨gi [8,4] a,1⟩).1∧(BU ⟨8,1⟩ ⟨gi [8,4] a,1⟩).1≤1000:=by decide +kernel
theorem gB {w:Int} (hw:0≤w∧w≤100):Xu (qK w):=by
 have e1:KU (Kr sQ [8,4])=0:=nT rfl (by decide) xR (fun i hi=>by
  have:i=0∨i=1:=by
   have:i<2:=hi
   omega
  rcases this with rfl|rfl<;>decide +kernel)
 have e2:KU (Kr yO [8])=0:=nT rfl (by decide) x9 (fun i hi=>by
  obtain rfl:i=0:=by
   have:i<1:=hi
   omega
  decide +kernel)
 have e3:Nl (Kr sQ [8,4]) ⟨[3],0,0⟩=0:=by
  rw [Ll rfl (fun i hi=>by
   obtain rfl:i=0:=by
    have:i<1:=hi
    omega
   rfl)]
  rfl
 refine ⟨xQ (by decide) xR,xQ (by decide) x9,⟨fun i hi=>?_,by show 0<18446744073709551616;decide,by show 0<18446744073709551616;decide,by show 1<9223372036854775808;decide⟩,?_,fun a b ha hb=>?_⟩
 ·obtain rfl:i=0:=by
   have:i<1:=hi
   omega
  show 3<18446744073709551616
  decide
 ·unfold jr
  rw [if_neg (fun h=>h e1),if_neg (fun h=>h e3),if_neg (fun h=>h e2),if_neg (fun h=>h (a2g hw)),if_neg]
  have h1:(Bq (Kr sQ [8,4]) ⟨[3],0,0⟩).length=2:=by decide +kernel
  have h2:(BX (Kr yO [8])).length=1:=by decide +kernel
  have h1:(Bq (qK w).BH (qK w).reg).length=2:=h1
  have h2:(BX (qK w).tgt).length=1:=h2
  omega
 ·obtain ⟨d,s⟩:=a
  obtain ⟨d',s'⟩:=b
  have a1:d<1:=ha.1
  obtain rfl:d=0:=by omega
  have a2:s<2:=ha.2
  have b1:d'<1:=hb.1
  obtain rfl:d'=0:=by omega
  have b2:s'<1:=hb.2
  obtain rfl:s'=0:=by omega
  have:s=0∨s=1:=by omega
  rcases this with rfl|rfl
  ·exact shK 0 (by decide)
  ·exact shK 1 (by decide)
theorem aC (w:Int):Gg (qK w)=[[10],[12]]:=by
 show Ns (Kr sQ [8,4]) (Kr yO [8]) ⟨[3],0,0⟩ ⟨10,1,5,w⟩=_
 have:Ns (Kr sQ [8,4]) (Kr yO [8]) ⟨[3],0,0⟩ ⟨10,1,5,0⟩=[[10],[12]]:=by decide +kernel
 exact this
theorem oC (w:Int):JZ (qK w)=1:=by
 have h1:(Bq (Kr sQ [8,4]) ⟨[3],0,0⟩).length=2:=by decide +kernel
 have h2:(BX (Kr yO [8])).length=1:=by decide +kernel
 show (if (Bq (Kr sQ [8,4]) ⟨[3],0,0⟩).length=0 then 0 else (BX (Kr yO [8])).length)=1
 rw [h1,h2];rfl
theorem a5m:(Ea (qK 20)).total=30:=by
 unfold Ea Z8
 rw [aC,oC]
 show lJ [[10],[12]] 2 1 20=30
 decide +kernel
theorem a8o:(Ea (qK 5)).total=10:=by
 unfold Ea Z8
 rw [aC,oC]
 show lJ [[10],[12]] 2 1 5=10
 decide +kernel
theorem jI:AX env 12 [] (.p (.bool true)):=by
 have h1:=UO sQ [8,4] rfl (by decide)
 have h2:=UO yO [8] rfl (by decide)
 have hl:=MC (gB (w:=20) (by decide))
 rw [aC] at hl
 have hb:=Kq (gB (w:=20) (by decide))
 have hb5:=Kq (gB (w:=5) (by decide))
 have hv:=Zf (gB (w:=20) (by decide)) (Ea (qK 20))
 rw [show xO (Gg (qK 20)) (JZ (qK 20)) (qK 20).Ia.miss (Ea (qK 20))=0 from tX (gB (w:=20) (by decide)).P7] at hv
 have t1:=a5m
 have t2:=a8o
 generalize Ea (qK 20)=A at *
 generalize Ea (qK 5)=B at *
 obtain ⟨c1,tt1,r1,p1⟩:=A
 obtain ⟨c2,tt2,r2,p2⟩:=B
 simp only at t1 t2
 subst t1;subst t2
 refine AX.enter (AA (by decide)) Tryz.func12 rfl (by kernel_rfl) (by simp [Tryz.ntmps12]) ?_
 repeat' (first|(refine Ag.Jp 11 ?_;refine Ag.ghost (Bd.trans (Bd.freeze 9 rfl rfl) (Bd.freeze 10 rfl rfl)) ?_)|(refine Ag.Jp 13 ?_;refine Ag.ghost (Bd.freeze 12 rfl rfl) ?_)|(refine Ag.Jp 16 ?_;refine Ag.ghost (Bd.trans (Bd.freeze 14 rfl rfl) (Bd.freeze 15 rfl rfl)) ?_)|apply Ae.AB|apply Ae.ret|apply Ag.nil|apply Ag.one|(apply Ag.take;rfl;rfl)|(apply Aa.fn;rfl;rfl;exact h1;intro _;rfl)|(apply Aa.fn;rfl;rfl;exact h2;intro _;rfl)|(apply Aa.fn;rfl;rfl;exact hl;intro _;rfl)|(apply Aa.fn;rfl;rfl;exact hb;intro _;rfl)|(apply Aa.fn;rfl;rfl;exact hv;intro _;rfl)|(apply Aa.fn;rfl;rfl;exact hb5;intro _;rfl)|(apply Aa.SQ;rfl;rfl;rfl;decide;decide)|(apply Aa.assign;rfl)|(apply Aa.move;rfl)|(apply Aa.int;rfl;rfl;rfl)|(apply Aa.load;rfl;rfl)|(apply Aa.Bz;rfl;rfl)|(apply Aa.BN;rfl;rfl)|(apply Aa.AU;rfl;rfl;rfl)|(apply Aa.alloc;rfl)|(apply Aa.Bj;rfl;rfl;rfl;trivial;rfl;rfl;exact Ac rfl;exact le_dec rfl)|(apply Aa.build;rfl;rfl;rfl;rfl;rfl)|(apply Aa.buildSlice;rfl;rfl;rfl;decide;rfl;rfl;rfl)|(apply Aa.extract;rfl;rfl))
 all_goals try (exfalso;omega)
 all_goals (refine Done.ret rfl (.refl _) (by first|exact trivial|exact ⟨trivial,trivial,trivial⟩|exact ⟨trivial,trivial,trivial,trivial⟩) Aj.nil (Nat.zero_le _) (Nat.le_refl _) ⟨?_,rfl,rfl⟩;try rfl)
end Go.Proofs.YtdabojnmoejilaaGreatDoor
namespace Go.Proofs.YtdabojnmoejilaaGreatDoor
open Go Go.Am Go.Vm Go.Tra Go.Hun
attribute [local irreducible] Aa Ag Ap Ae BD AX CO AO AL Az Vm.Done CY Bl
end Go.Proofs.YtdabojnmoejilaaGreatDoor
namespace Go.Proofs.YtdabojnmoejilaaGreatDoor
open Go Go.Am Go.Vm Go.Tra Go.Hun
attribute [local irreducible] Aa Ag Ap Ae BD AX CO AO AL Az Vm.Done CY Bl
theorem OY (x:wO) (hx:x.Ok):AX env 11 [.agg x.enc] (.p (.bool true)):=by
 have hkn:=jI
 have hfs:=lI x hx
 refine AX.enter (AA (by decide)) Tryz.func11 rfl (by kernel_rfl) (by simp [Tryz.ntmps11]) ?_
 by_cases hf:V9 x
 case neg =>
  rw [decide_eq_false hf] at hfs
  repeat' (first|apply Ae.assoc|apply Ae.AB|apply Ae.BO|apply Ag.nil|apply Ag.one|(apply Ag.take;rfl;rfl)|(apply Aa.fn;rfl;rfl;exact hkn;intro _;rfl)|(apply Aa.fn;rfl;rfl;exact hfs;intro _;rfl)|(apply Aa.assign;rfl)|(apply Aa.move;rfl)|(apply Aa.load;rfl;rfl)|(apply Aa.AQ;rfl;rfl)|(apply Aa.box;rfl;trivial)|(apply Aa.not;rfl)|(apply Ae.Bg;rfl))
  all_goals first|(exfalso;omega)|contradiction|((refine Done.ret rfl (.refl _) (by first|exact trivial|exact ⟨trivial,trivial,trivial⟩|exact ⟨trivial,trivial,trivial,trivial⟩) Aj.nil (Nat.zero_le _) (Nat.le_refl _) ⟨?_,rfl,rfl⟩;try rfl);try simp)
 rw [decide_eq_true hf] at hfs
 have hm:=jU x hx hf
 have hT1:=vN x.BH hx.BH hf.1
 have hT2:=vN x.tgt hx.tgt hf.2
 have hrO:=qU _ hT1 _ hx.bits
 have hrE:=kM (Vl x.BH) x.bits
 have e0:mkQ x=⟨Vl x.BH,Oq (Vl x.BH) x.bits,Vl x.tgt,mkW x.w⟩:=rfl
 rw [e0] at hm
 generalize Oq (Vl x.BH) x.bits=r at *
 generalize Vl x.BH=F at *
 generalize Vl x.tgt=T at *
 have hq:Xu ⟨F,r,T,mkW x.w⟩:=wH hT1 hT2 hrO hrE
 have hq2:Xu ⟨F,r,F,mkW x.w⟩:=wH hT1 hT1 hrO hrE
 have hq3:Xu ⟨F,Kw F,T,mkW x.w⟩:=wH hT1 hT2 (wC hq.k1.Ar.2) (rJ F)
 have w4:=(NU hq.Ia).2.2.2
 generalize mkW x.w=w at *
 have hb:=Kq hq
 have hd:=Uj F hq.k1 r hrO hrE
 have hce:=rG hq
 have hca:=jT hq (Ea ⟨F,r,T,w⟩).cols hce (Ea ⟨F,r,T,w⟩).total (.lst 3 (cells (Ea ⟨F,r,T,w⟩).rows) (Ea ⟨F,r,T,w⟩).rows.length) (.lst 3 (cells (Ea ⟨F,r,T,w⟩).BR) (Ea ⟨F,r,T,w⟩).BR.length)
 obtain ⟨g1,g2,g3⟩:=yh (q:=⟨F,r,T,w⟩) hq.k2 hce
 have hd2:=Uj T hq.k2 (Zw ⟨F,r,T,w⟩ (Ea ⟨F,r,T,w⟩).cols) g2 g1
 have hsk:=qW hq
 have hb2:=Kq hq2
 have z2:=wI hq2 fun p hp=>zS hT1 hp
 have hn:=rH F hT1
 have hb3:=Kq hq3
 have z3:=qZ hq3
 have hlen:(Bq F r).length≤9:=Nat.le_trans (Ym F r) hT1.yE
 have hmul:-9223372036854775808≤w.miss*((Bq F r).length:Int)∧w.miss*((Bq F r).length:Int)<9223372036854775808:=by
  have h1:0≤w.miss*((Bq F r).length:Int):=Int.mul_nonneg w4.1 (by omega)
  have h2:w.miss*((Bq F r).length:Int)≤100000*9:=Int.mul_le_mul w4.2 (by omega) (by omega) (by decide)
  omega
 have hsk':(Ea ⟨F,r,T,w⟩).total≤w.miss*((Bq F r).length:Int):=by rw [Int.mul_comm];exact hsk
 have g3':(Bq T (Zw ⟨F,r,T,w⟩ (Ea ⟨F,r,T,w⟩).cols)).length≤(Bq F r).length:=g3
 clear hsk hce g1 g2 g3 e0
 generalize Zw ⟨F,r,T,w⟩ (Ea ⟨F,r,T,w⟩).cols=cr at *
 generalize Ea ⟨F,r,T,w⟩=b at *
 generalize Ea ⟨F,r,F,w⟩=b2 at *
 generalize Ea ⟨F,Kw F,T,w⟩=b3 at *
 repeat' (first|apply Ae.assoc|apply Ae.AB|apply Ae.Aq|apply Ae.BO|apply Ae.ret|apply Ag.nil|apply Ag.one|(apply Ag.take;rfl;rfl)|(apply Ag.guard;rfl;rfl)|(apply Aa.fn;rfl;rfl;exact hkn;intro _;rfl)|(apply Aa.fn;rfl;rfl;exact hfs;intro _;rfl)|(apply Aa.fn;rfl;rfl;exact hm;intro _;rfl)|(apply Aa.fn;rfl;rfl;exact hb;intro _;rfl)|(apply Aa.fn;rfl;rfl;exact hd;intro _;rfl)|(apply Aa.fn;rfl;rfl;exact hca;intro _;rfl)|(apply Aa.fn;rfl;rfl;exact hd2;intro _;rfl)|(apply Aa.fn;rfl;rfl;exact hb2;intro _;rfl)|(apply Aa.fn;rfl;rfl;exact hn;intro _;rfl)|(apply Aa.fn;rfl;rfl;exact hb3;intro _;rfl)|(apply Aa.JB;rfl;rfl;exact hmul)|(apply Aa.assign;rfl)|(apply Aa.move;rfl)|(apply Aa.int;rfl;rfl;rfl)|(apply Aa.load;rfl;rfl)|(apply Aa.Bz;rfl;rfl)|(apply Aa.AQ;rfl;rfl)|(apply Aa.BN;rfl;rfl)|(apply Aa.AU;rfl;rfl;rfl)|(apply Aa.box;rfl;trivial)|(apply Aa.alloc;rfl)|(apply Aa.Bj;rfl;rfl;rfl;trivial;rfl;rfl;exact Ac rfl;exact le_dec rfl)|(apply Aa.not;rfl)|(apply Aa.extract;rfl;rfl)|(apply Ae.Aw;rfl)|(apply Ae.Af;rfl)|(intro _;try (exfalso;omega)))
 all_goals try (exfalso;omega)
 all_goals try contradiction
 all_goals first|(rename_i h9;exact absurd hsk' (Int.not_le.2 h9))|((refine Done.ret rfl (.refl _) (by first|exact trivial|exact ⟨trivial,trivial,trivial⟩|exact ⟨trivial,trivial,trivial,trivial⟩) Aj.nil (Nat.zero_le _) (Nat.le_refl _) ⟨?_,rfl,rfl⟩;try rfl);done)|(refine Done.ret rfl (.refl _) (by first|exact trivial|exact ⟨trivial,trivial,trivial⟩|exact ⟨trivial,trivial,trivial,trivial⟩) Aj.nil (Nat.zero_le _) (Nat.le_refl _) ⟨?_,rfl,rfl⟩;refine PV.KI ?_;exact decide_eq_true z3)|((refine Done.ret rfl (.refl _) (by first|exact trivial|exact ⟨trivial,trivial,trivial⟩|exact ⟨trivial,trivial,trivial,trivial⟩) Aj.nil (Nat.zero_le _) (Nat.le_refl _) ⟨?_,rfl,rfl⟩;try rfl);simp [z3])
end Go.Proofs.YtdabojnmoejilaaGreatDoor
namespace Go.Proofs.YtdabojnmoejilaaGreatDoor
open Go Go.Am Go.Vm
theorem LX {n:Int} (h:(Lit.int .u8 n).wf=true):∃ m:Nat,m<256∧n=m:=by
 simp [Lit.wf,IntKind.min,IntKind.max,IntKind.signed,IntKind.bits] at h
 exact ⟨n.toNat,by omega,by omega⟩
theorem yD {n:Int} (h:(Lit.int .i8 n).wf=true):-128≤n∧n≤127:=by
 simp [Lit.wf,IntKind.min,IntKind.max,IntKind.signed,IntKind.bits] at h
 omega
theorem XD {α β:Type} {R:β→α→Prop}:∀ {l:List α},(∀ x∈l,∃ y,R y x)→∃ r:List β,Gf R r l
 |[],_=>⟨[],.nil⟩
 |a::l,h=>by
  obtain ⟨y,hy⟩:=h a (by simp)
  obtain ⟨r,hr⟩:=XD (l:=l) (fun x hx=>h x (by simp [hx]))
  exact ⟨y::r,.cons hy hr⟩
theorem Wv {α:Type} [Enc α] {p:α→Prop}:∀ {r:List α} {L:List (List FV)},Gf (fun a fs=>fs=Enc.enc a∧p a) r L→L.flatten=cells r∧L.length=r.length∧∀ i,i<r.length→p (gi r i)
 |_,_,.nil=>⟨rfl,rfl,fun i hi=>by simp at hi⟩
 |a::r,fs::L,.cons ⟨h1,h2⟩ t=>by
  obtain ⟨e1,e2,e3⟩:=Wv t
  refine ⟨by rw [List.flatten_cons,e1,h1];rfl,by simp [e2],fun i hi=>?_⟩
  cases i with
  |zero=>exact h2
  |succ i=>exact e3 i (by simpa using hi)
section
variable {α β:Type} {R:α→β→Prop} {a b c d e:α} {r:List β}
theorem WW (h:Gf R [a] r):∃ x,r=[x]∧R a x:=by
 cases h with|cons h1 t=>cases t;exact ⟨_,rfl,h1⟩
theorem uw (h:Gf R [a,b] r):∃ x y,r=[x,y]∧R a x∧R b y:=by
 cases h with|cons h1 t=>obtain ⟨x,rfl,h2⟩:=WW t;exact ⟨_,_,rfl,h1,h2⟩
theorem Xt (h:Gf R [a,b,c] r):∃ x y z,r=[x,y,z]∧R a x∧R b y∧R c z:=by
 cases h with|cons h1 t=>obtain ⟨x,y,rfl,h2,h3⟩:=uw t;exact ⟨_,_,_,rfl,h1,h2,h3⟩
theorem Lh (h:Gf R [a,b,c,d] r):∃ x y z w,r=[x,y,z,w]∧R a x∧R b y∧R c z∧R d w:=by
 cases h with|cons h1 t=>obtain ⟨x,y,z,rfl,h2,h3,h4⟩:=Xt t;exact ⟨_,_,_,_,rfl,h1,h2,h3,h4⟩
theorem o8 (h:Gf R [a,b,c,d,e] r):∃ x y z w v,r=[x,y,z,w,v]∧R a x∧R b y∧R c z∧R d w∧R e v:=by
 cases h with|cons h1 t=>obtain ⟨x,y,z,w,rfl,h2,h3,h4,h5⟩:=Lh t;exact ⟨_,_,_,_,_,rfl,h1,h2,h3,h4,h5⟩
end
theorem fQ {j:Nat} {fs:List FV} (h:EP Tryz.prog (j+1) 4 fs):∃ b:Bool,fs=[.bool b]:=by
 simp only [EP,Tryz.underlying4] at h
 exact h
theorem b0a {α:Type} {l:List α} (h:l.length=5):∃ a b c d e,l=[a,b,c,d,e]:=by
 match l,h with|[a,b,c,d,e],_=>exact ⟨a,b,c,d,e,rfl⟩
theorem pF {j:Nat} {fs:List FV} (h:EP Tryz.prog (j+3) 150 fs):∃ x:FK,fs=x.enc∧x.Ok:=by
 simp only [EP,Tryz.underlying150,Tryz.underlying5,Tryz.underlying64,Tryz.underlying27] at h
 obtain ⟨parts,rfl,hp⟩:=h
 obtain ⟨a,b,c,d,e,rfl,⟨n1,rfl,h1⟩,⟨n2,rfl,h2⟩,⟨n3,rfl,h3⟩,⟨n4,rfl,h4⟩,L,rfl,hl,hL⟩:=o8 hp
 obtain ⟨m1,q1,rfl⟩:=LX h1
 obtain ⟨m2,q2,rfl⟩:=LX h2
 obtain ⟨m4,q4,rfl⟩:=LX h4
 obtain ⟨a,b,c,d,e,rfl⟩:=b0a hl
 obtain ⟨w0,rfl,g0⟩:=hL a (by simp)
 obtain ⟨w1,rfl,g1⟩:=hL b (by simp)
 obtain ⟨w2,rfl,g2⟩:=hL c (by simp)
 obtain ⟨w3,rfl,g3⟩:=hL d (by simp)
 obtain ⟨w4,rfl,g4⟩:=hL e (by simp)
 obtain ⟨v0,k0,rfl⟩:=LX g0
 obtain ⟨v1,k1,rfl⟩:=LX g1
 obtain ⟨v2,k2,rfl⟩:=LX g2
 obtain ⟨v3,k3,rfl⟩:=LX g3
 obtain ⟨v4,k4,rfl⟩:=LX g4
 refine ⟨⟨m1,m2,n3,m4,[v0,v1,v2,v3,v4]⟩,rfl,q1,q2,yD h3,q4,fun i=>?_⟩
 match i with
 |0=>exact k0
 |1=>exact k1
 |2=>exact k2
 |3=>exact k3
 |4=>exact k4
 |n+5=>simp [gi]
end Go.Proofs.YtdabojnmoejilaaGreatDoor
namespace Go.Proofs.YtdabojnmoejilaaGreatDoor
open Go Go.Am Go.Vm
theorem I4 {P:Program} {n:Nat} {t:TypeId} {fs:List FV} {sf:Array Field} (h:EP P (n+1) t fs) (hu:P.underlying t=some (.struct sf)):∃ parts:List (List FV),fs=parts.flatten∧Gf (fun (fd:Field) x=>EP P n fd.type x) sf.toList parts:=by
 unfold EP at h;rw [hu] at h;exact h
theorem LV {P:Program} {n:Nat} {t e:TypeId} {fs:List FV} {α:Type} [Enc α] {p:α→Prop} (h:EP P (n+1) t fs) (hu:P.underlying t=some (.slice e)) (he:∀ x,EP P n e x→∃ a:α,x=Enc.enc a∧p a):∃ l:List α,fs=[.lst e (cells l) l.length]∧l.length≤maxLen∧∀ i,i<l.length→p (gi l i):=by
 unfold EP at h;rw [hu] at h
 obtain ⟨L,rfl,hl,hL⟩:=h
 obtain ⟨r,hr⟩:=XD (R:=fun (a:α) fs=>fs=Enc.enc a∧p a) (l:=L) (fun x hx=>he x (hL x hx))
 obtain ⟨e1,e2,e3⟩:=Wv hr
 exact ⟨r,by rw [e1,e2],by omega,e3⟩
theorem FQ {j:Nat} {fs:List FV} (h:EP Tryz.prog (j+1) 5 fs):∃ n:Nat,fs=[.int .u8 (n:Int)]∧n<256:=by
 simp only [EP,Tryz.underlying5] at h
 obtain ⟨n,rfl,hn⟩:=h
 obtain ⟨m,q,rfl⟩:=LX hn
 exact ⟨m,rfl,q⟩
theorem a3a {j:Nat} {fs:List FV} (h:EP Tryz.prog (j+1) 64 fs):∃ n:Int,fs=[.int .i8 n]∧-128≤n∧n≤127:=by
 simp only [EP,Tryz.underlying64] at h
 obtain ⟨n,rfl,hn⟩:=h
 exact ⟨n,rfl,yD hn⟩
theorem yG {j:Nat} {fs:List FV} (h:EP Tryz.prog (j+2) 72 fs):∃ x:nX,fs=Enc.enc x∧x.Ok:=by
 obtain ⟨parts,rfl,hp⟩:=I4 h Tryz.underlying72
 obtain ⟨a,b,c,d,rfl,h1,h2,h3,h4⟩:=Lh hp
 obtain ⟨m1,rfl,q1⟩:=FQ (j:=j) h1
 obtain ⟨m2,rfl,q2⟩:=FQ (j:=j) h2
 obtain ⟨m3,rfl,q3⟩:=FQ (j:=j) h3
 obtain ⟨m4,rfl,q4⟩:=FQ (j:=j) h4
 exact ⟨⟨m1,m2,m3,m4⟩,rfl,q1,q2,q3,q4⟩
theorem rP {j:Nat} {fs:List FV} (h:EP Tryz.prog (j+4) 75 fs):∃ x:qQ,fs=Enc.enc x∧x.Ok:=by
 obtain ⟨parts,rfl,hp⟩:=I4 h Tryz.underlying75
 obtain ⟨a,b,c,d,rfl,h1,h2,h3,h4⟩:=Lh hp
 obtain ⟨m1,rfl,q1⟩:=FQ (j:=j+2) h1
 obtain ⟨m2,rfl,q2⟩:=FQ (j:=j+2) h2
 obtain ⟨m3,rfl⟩:=fQ (j:=j+2) h3
 obtain ⟨l,rfl,hl,hL⟩:=LV (n:=j+2) (p:=nX.Ok) h4 Tryz.underlying73 (fun x hx=>yG hx)
 exact ⟨⟨m1,m2,m3,l⟩,rfl,q1,q2,by simp only [maxLen] at hl;simp only;omega,hL⟩
theorem vU {j:Nat} {fs:List FV} (h:EP Tryz.prog (j+2) 153 fs):∃ x:uF,fs=Enc.enc x∧x.Ok:=by
 obtain ⟨parts,rfl,hp⟩:=I4 h Tryz.underlying153
 obtain ⟨a,b,c,d,rfl,h1,h2,h3,h4⟩:=Lh hp
 obtain ⟨m1,rfl,q1⟩:=FQ (j:=j) h1
 obtain ⟨m2,rfl,q2⟩:=FQ (j:=j) h2
 obtain ⟨m3,rfl,q3⟩:=a3a (j:=j) h3
 obtain ⟨m4,rfl⟩:=fQ (j:=j) h4
 exact ⟨⟨m1,m2,m3,m4⟩,rfl,q1,q2,q3⟩
theorem Y1 {j:Nat} {fs:List FV} (h:EP Tryz.prog (j+6) 26 fs):∃ x:lq,fs=x.enc∧x.Ok:=by
 obtain ⟨parts,rfl,hp⟩:=I4 h Tryz.underlying26
 obtain ⟨a,b,c,rfl,h1,h2,h3⟩:=Xt hp
 obtain ⟨l1,rfl,n1,g1⟩:=LV (n:=j+4) (p:=FK.Ok) h1 Tryz.underlying22 (fun x hx=>pF (j:=j+1) hx)
 obtain ⟨l2,rfl,n2,g2⟩:=LV (n:=j+4) (p:=qQ.Ok) h2 Tryz.underlying23 (fun x hx=>rP hx)
 obtain ⟨l3,rfl,n3,g3⟩:=LV (n:=j+4) (p:=uF.Ok) h3 Tryz.underlying24 (fun x hx=>vU (j:=j+2) hx)
 simp only [maxLen] at n1 n2 n3
 exact ⟨⟨l1,l2,l3⟩,rfl,g1,g2,g3,by simp only;omega,by simp only;omega,by simp only;omega⟩
end Go.Proofs.YtdabojnmoejilaaGreatDoor
namespace Go.Proofs.YtdabojnmoejilaaGreatDoor
open Go Go.Am Go.Vm
theorem a6z {α:Type} {L:List α} (h:L.length=5):∃ a b c d e,L=[a,b,c,d,e]:=by
 match L,h with
 |[a,b,c,d,e],_=>exact ⟨a,b,c,d,e,rfl⟩
theorem pz {j:Nat} {fs:List FV} (h:EP Tryz.prog (j+2) 27 fs):∃ b:Nat→Nat,fs=tY b∧∀ i,b i<256:=by
 obtain ⟨L,rfl,hl,hL⟩:=EP.array h Tryz.underlying27
 obtain ⟨a,b,c,d,e,rfl⟩:=a6z hl
 obtain ⟨m1,rfl,q1⟩:=FQ (j:=j) (hL a (by simp))
 obtain ⟨m2,rfl,q2⟩:=FQ (j:=j) (hL b (by simp))
 obtain ⟨m3,rfl,q3⟩:=FQ (j:=j) (hL c (by simp))
 obtain ⟨m4,rfl,q4⟩:=FQ (j:=j) (hL d (by simp))
 obtain ⟨m5,rfl,q5⟩:=FQ (j:=j) (hL e (by simp))
 exact ⟨fun i=>if i=0 then m1 else if i=1 then m2 else if i=2 then m3 else if i=3 then m4 else m5,rfl,fun i=>by simp only;split<;>(try split)<;>(try split)<;>(try split)<;>omega⟩
end Go.Proofs.YtdabojnmoejilaaGreatDoor
namespace Go.Proofs.YtdabojnmoejilaaGreatDoor
open Go Go.Am Go.Vm
theorem list4 {α:Type} {L:List α} (h:L.length=4):∃ a b c d,L=[a,b,c,d]:=by
 match L,h with
 |[a,b,c,d],_=>exact ⟨a,b,c,d,rfl⟩
theorem oN {j:Nat} {fs:List FV} (h:EP Tryz.prog (j+2) 28 fs):∃ b:Nat→Nat,fs=[.int .u8 (b 0:Int),.int .u8 (b 1:Int),.int .u8 (b 2:Int),.int .u8 (b 3:Int)]∧∀ i,b i<256:=by
 obtain ⟨L,rfl,hl,hL⟩:=EP.array h Tryz.underlying28
 obtain ⟨a,b,c,d,rfl⟩:=list4 hl
 obtain ⟨m1,rfl,q1⟩:=FQ (j:=j) (hL a (by simp))
 obtain ⟨m2,rfl,q2⟩:=FQ (j:=j) (hL b (by simp))
 obtain ⟨m3,rfl,q3⟩:=FQ (j:=j) (hL c (by simp))
 obtain ⟨m4,rfl,q4⟩:=FQ (j:=j) (hL d (by simp))
 exact ⟨fun i=>if i=0 then m1 else if i=1 then m2 else if i=2 then m3 else m4,rfl,fun i=>by simp only;split<;>(try split)<;>(try split)<;>omega⟩
theorem oU {j:Nat} {fs:List FV} (h:EP Tryz.prog (j+7) 30 fs):∃ x:wO,fs=x.enc∧x.Ok:=by
 obtain ⟨parts,rfl,hp⟩:=I4 h Tryz.underlying30
 obtain ⟨a,b,c,d,rfl,h1,h2,h3,h4⟩:=Lh hp
 obtain ⟨x1,rfl,k1⟩:=Y1 (j:=j) h1
 obtain ⟨x2,rfl,k2⟩:=Y1 (j:=j) h2
 obtain ⟨b5,rfl,k3⟩:=pz (j:=j+4) h3
 obtain ⟨b4,rfl,k4⟩:=oN (j:=j+4) h4
 exact ⟨⟨x1,x2,b5,b4⟩,rfl,k1,k2,k3,k4⟩
end Go.Proofs.YtdabojnmoejilaaGreatDoor
