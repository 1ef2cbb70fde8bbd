/-
  Texts of a proof, merged (OrC, OrD, OrE, OrN, Vm31, Ori, Vm29, Vm36, Vm32, Vm33, Vm34, Vm37, TraF, Vm35, TraG, TraH, TraA, TraI, HunA, HunB, HunC). Conditions: in each statement.
-/
import Derived.Sort.Grow
import Derived.Test.YtdabojnmoejilaaGreatDoorKCd
set_option linter.unusedSimpArgs false
set_option linter.unusedVariables false
set_option linter.unusedSectionVars false
set_option maxRecDepth 100000
set_option maxHeartbeats 8000000
namespace Go.Proofs.YtdabojnmoejilaaGreatDoor
open Go Go.Am Go.Vm
attribute [local irreducible] Aa Af Ar Ad BA AY CG AO AL Aw Vm.Done CW Bl
attribute [local irreducible] DR Dw
theorem Wh (lo hi:Int):AY env 89 [.agg [.int .i64 lo,.int .i64 hi]] (.p (.int .i64 (U9 lo hi))):=by
 unfold U9
 refine AY.enter (AB (by decide)) Tryz.func89 rfl (by kernel_rfl) (by simp [Tryz.ntmps89]) ?_
 repeat' (first|apply Ad.AA|apply Ad.Ai|apply AO.normal|apply AO.ret|apply AL.normal|apply AL.ret|apply Ad.ret|apply Ad.skip|apply Af.nil|apply Af.one|(apply Af.take;rfl;rfl)|(apply Af.drop;rfl;rfl;rfl)|(apply Af.guard;rfl;rfl)|(apply Aa.assign;rfl)|(apply Aa.move;rfl)|(apply Aa.int;rfl;rfl;rfl)|(apply Aa.load;rfl;rfl)|(apply Aa.Bz;rfl;rfl)|(apply Aa.AU;rfl;rfl)|(apply Aa.AQ;rfl;rfl;rfl)|(apply Aa.box;rfl;trivial)|(apply Ad.cond_true;rfl)|(apply Ad.AZ;rfl)|(intro _;try (exfalso;omega)))
 all_goals first
  |(rw [if_pos (by omega)];(refine Done.ret rfl (.refl _) (by exact PV.Ac rfl) Ah.nil (Nat.zero_le _) (Nat.le_refl _) ⟨?_,rfl,rfl⟩;try rfl);done)
  |(rw [if_neg (by omega),if_pos (by omega)];(refine Done.ret rfl (.refl _) (by exact PV.Ac rfl) Ah.nil (Nat.zero_le _) (Nat.le_refl _) ⟨?_,rfl,rfl⟩;try rfl);done)
  |(rw [if_neg (by omega),if_neg (by omega)];(refine Done.ret rfl (.refl _) (by exact PV.Ac rfl) Ah.nil (Nat.zero_le _) (Nat.le_refl _) ⟨?_,rfl,rfl⟩;try rfl);done)
theorem iL:XE Tryz.prog 133=true:=by kernel_rfl
theorem a4i (x y:bD):Vm.Zu Tryz.prog 133 (Enc.enc x) (Enc.enc y)=some (decide (x=y)):=by
 show some (decide (x.rank=y.rank)&&(decide (x.shift=y.shift)&&true))=_
 by_cases h:x=y
 ·subst h;simp
 ·rw [decide_eq_false h]
  have:¬ (x.rank=y.rank∧x.shift=y.shift):=fun h'=>h (by cases x;cases y;simp_all)
  by_cases h1:x.rank=y.rank<;>simp_all
theorem Wn {α:Type} [Inhabited α] {a:α} {l:List α}:a∈l↔∃ i,i<l.length∧gi l i=a:=by
 constructor
 ·intro h
  obtain ⟨i,hi,e⟩:=List.getElem_of_mem h
  exact ⟨i,hi,by simp [gi,List.getElem?_eq_getElem hi,e]⟩
 ·rintro ⟨i,hi,e⟩
  rw [← e]
  simp only [gi,List.getElem?_eq_getElem hi,Option.getD_some]
  exact List.getElem_mem hi
theorem ZC {α:Type} [Inhabited α] {l:List α} {i k:Nat} (h:i<k):gi (l.take k) i=gi l i:=by simp [gi,List.getElem?_take,h]
theorem DF {α:Type} [Inhabited α] {l:List α} {k:Nat} (hk:k<l.length):l.take (k+1)=l.take k++[gi l k]:=by
 rw [List.take_succ_eq_append_getElem hk];simp [gi,List.getElem?_eq_getElem hk]
theorem zZ {L:Vm.Frame} {H:Vm.Heap} {nx:Nat} {Q:PV→Vm.Heap→Nat→Prop} {dst:Option Tmp} {ty:TypeId} {pos:String} {af:Array Edge} {gd:Option (Nat×Bool)} {fo:Operand} {args:Array Operand} {aT:Array TypeId} {fs cs xs:List PV} {c:Code}
 (hf:BD env.Γ L fo=some (.clo 136 fs cs)) (ha:evs env.Γ L args.toList=some xs) (hb:Tryz.f136.body=some c) (hn:(fs++xs++cs).length≤Tryz.f136.ntmps)
 (h:Ad env nx c (CS 0 (fs++xs++cs)) H nx (Bl env.P Tryz.f136.results.toList Q)):Aa env true ⟨dst,.call { callee:=.value fo,args:=args,argTypes:=aT },ty,pos,af,gd⟩ L H nx Q:=by
 have h0:(match Tryz.f136.body with|some c=>Hy env.G Tryz.f136 c|none=>false)=true:=by kernel_rfl
 rw [hb] at h0
 exact Aa.inline rfl hf ha (AB (by decide)) Tryz.func136 hb h0 hn h
theorem XY (l:List bD) (d:bD) (hl:l.length<1000000):AY env 124 [.lst 133 (cells l) l.length,.agg (Enc.enc d)] (.p (.bool (decide (d∈l)))):=by
 refine AY.enter (AB (by decide)) Tryz.func124 rfl (by kernel_rfl) (by simp [Tryz.ntmps124]) ?_
 repeat' (first|apply Ad.assoc|apply Ad.AA|apply Ad.Ai|apply Af.nil|apply Af.one|(apply zZ;rfl;rfl;rfl;exact le_dec rfl)|(apply Aa.assign;rfl)|(apply Aa.move;rfl)|(apply Aa.load;rfl;rfl)|(apply Aa.BH;rfl;rfl)|(apply Aa.box;rfl;trivial))
 refine Ad.D8 (fun k:Nat=>[(0,lst 133 l),(3,.ref 1 0),(7,.p (.int .i64 (l.length:Int))),(8,.p (.int .i64 (k:Int)))]) (fun _=>[(1,.box 133 ((Enc.enc d).map .p)),(0,.box 133 ((Enc.enc d).map .p))]) 2 (fun k=>k≤l.length∧∀ i,i<k→d≠gi l i) (fun k=>l.length-k) 0 (by omega) ⟨by omega,fun i hi=>by omega⟩ ⟨by omega,?_,?_⟩ ?_
 ·repeat (first|exact Ak.nil|refine Ak.same (by exact PV.Ac rfl) rfl ?_|refine Ak.cons trivial rfl (.of_eq (Aq (by simp<;>omega))) ?_)
 ·repeat (first|exact Ah.nil|(refine Ah.cons (Aj rfl) ?_ rfl ?_ ?_;(first|exact trivial|exact AP.Ag _ _|(simp [HB.under,AP.under,PV.under]));(first|exact Bg.refl _|exact Bg.vec (Bf.refl _) (by simp))))
 rintro k ⟨hk,hok⟩
 have he:=a4i d (gi l k)
 by_cases hd:d=gi l k
 ·rw [decide_eq_true hd] at he
  repeat' (first|apply Ad.AA|apply Ad.BI|apply Ad.Au|apply Ad.AX|apply Ad.Ai|apply AO.normal|apply AO.ret|(apply Bl.ret;rfl)|apply AL.ret|apply AL.exit|apply Aw.ret|apply Aw.exit|apply Ad.ret|apply Af.nil|apply Ar.nil|apply Af.one|(apply Ar.bar;decide +kernel)|apply Ar.quiet|(apply Aa.a1i;rfl;rfl;exact iL;exact he)|(apply Aa.assign;rfl)|(apply Aa.move;rfl)|(apply Aa.int;rfl;rfl;rfl)|(apply Aa.AV;rfl;rfl;rfl;omega;rfl)|(apply Aa.load;rfl;rfl)|(apply Ad.Ae;rfl)|(apply Ad.cond_true;rfl)|(intro _;try (exfalso;omega)))
  ·rename_i a1
   rw [decide_eq_true (Wn.2 ⟨k,by omega,hd.symm⟩)]
   refine Done.ret rfl (.refl _) (by exact PV.Ac rfl) Ah.nil (Nat.zero_le _) (Nat.le_refl _) ⟨?_,rfl,rfl⟩
   refine PV.Jk ?_
   simp
  ·rename_i a1
   rw [decide_eq_false (fun h=>by obtain ⟨i,h1,h2⟩:=Wn.1 h;exact hok i (by omega) h2.symm)]
   (refine Done.ret rfl (.refl _) (by exact PV.Ac rfl) Ah.nil (Nat.zero_le _) (Nat.le_refl _) ⟨?_,rfl,rfl⟩;try rfl)
 ·rw [decide_eq_false hd] at he
  repeat' (first|apply Ad.AA|apply Ad.BI|apply Ad.region|apply Ad.Au|apply Ad.AX|apply Ad.Ai|apply AO.normal|(apply Bl.ret;rfl)|apply AL.normal|apply AL.exit|apply Aw.exit|apply Ad.ret|apply Ad.skip|apply Af.nil|apply Ar.nil|apply Af.one|(apply Ar.bar;decide +kernel)|apply Ar.quiet|(apply Aa.a1i;rfl;rfl;exact iL;exact he)|(apply Aa.assign;rfl)|(apply Aa.move;rfl)|(apply Aa.Bq;rfl;rfl;omega)|(apply Aa.int;rfl;rfl;rfl)|(apply Aa.AV;rfl;rfl;rfl;omega;rfl)|(apply Aa.load;rfl;rfl)|(apply Ad.Ae;rfl)|(apply Ad.cond_false;rfl)|(intro _;try (exfalso;omega)))
  ·rename_i a1
   refine Aw.normal ⟨k+1,⟨by omega,fun i hi=>?_⟩,by omega,⟨by omega,?_,?_⟩⟩
   ·rcases Nat.lt_or_ge i k with h|h
    ·exact hok i h
    ·obtain rfl:i=k:=by omega
     exact hd
   ·repeat (first|exact Ak.nil|refine Ak.same (by exact PV.Ac rfl) rfl ?_|refine Ak.cons trivial rfl (.of_eq (Aq (by simp<;>omega))) ?_)
   ·repeat (first|exact Ah.nil|(refine Ah.cons (Aj rfl) ?_ rfl ?_ ?_;(first|exact trivial|exact AP.Ag _ _|(simp [HB.under,AP.under,PV.under]));(first|exact Bg.refl _|exact Bg.vec (Bf.refl _) (by simp))))
  ·rename_i a1
   rw [decide_eq_false (fun h=>by obtain ⟨i,h1,h2⟩:=Wn.1 h;exact hok i (by omega) h2.symm)]
   (refine Done.ret rfl (.refl _) (by exact PV.Ac rfl) Ah.nil (Nat.zero_le _) (Nat.le_refl _) ⟨?_,rfl,rfl⟩;try rfl)
def oO (rk:List FQ) (lo hi:Int):List FV:=[.lst 131 (cells rk) rk.length,.int .i64 lo,.int .i64 hi]
theorem lN (rk:List FQ) (lo hi:Int) (l:List bD) (hl:l.length<1000000) (hr:rk.length<1000000):AY env 109 [.agg (oO rk lo hi),.lst 133 (cells l) l.length] (.p (.int .i64 (PK rk.length l))):=by
 unfold PK
 refine AY.enter (AB (by decide)) Tryz.func109 rfl (by kernel_rfl) (by simp [Tryz.ntmps109]) ?_
 repeat' (first|apply Ad.assoc|apply Ad.AA|apply Ad.Au|apply Ad.BL|apply Ad.Ai|apply Af.nil|apply Af.one|(apply Aa.assign;rfl)|(apply Aa.move;rfl)|(apply Aa.int;rfl;rfl;rfl)|(apply Aa.BH;rfl;rfl)|(apply Aa.box;rfl;trivial)|(apply Ad.Ae;rfl)|(intro _;try (exfalso;omega)))
 ·rw [if_pos (by omega)];(refine Done.ret rfl (.refl _) (by exact PV.Ac rfl) Ah.nil (Nat.zero_le _) (Nat.le_refl _) ⟨?_,rfl,rfl⟩;try rfl)
 rw [if_neg (by omega)]
 refine Ad.D8 (fun k:Nat=>[(1,lst 133 l),(2,.ref 0 0),(10,lst 133 l),(11,.p (.int .i64 (l.length:Int))),(12,.p (.int .i64 (k:Int)))]) (fun _=>[(0,.box 186 ((oO rk lo hi).map .p))]) 1 (fun k=>k≤l.length∧MZ rk.length l k=MZ rk.length l 0) (fun k=>l.length-k) 0 (by omega) ⟨by omega,rfl⟩ ⟨by omega,?_,?_⟩ ?_
 ·repeat (first|exact Ak.nil|refine Ak.same (by exact PV.Ac rfl) rfl ?_|refine Ak.cons trivial rfl (.of_eq (Aq (by simp<;>omega))) ?_)
 ·repeat (first|exact Ah.nil|(refine Ah.cons (Aj rfl) ?_ rfl ?_ ?_;(first|exact trivial|exact AP.Ag _ _|(simp [HB.under,AP.under,PV.under]));(first|exact Bg.refl _|exact Bg.vec (Bf.refl _) (by simp))))
 rintro k ⟨hk,hE⟩
 have hc:=XY (l.take k) (gi l k) (by rw [List.length_take];omega)
 rw [List.length_take,Nat.min_eq_left (by omega)] at hc
 rw [← hE]
 by_cases hkl:k<l.length
 ·rw [MZ,if_pos hkl]
  generalize hg:decide (gi l k∈l.take k)=g at *
  cases g
  all_goals
   repeat' (first|apply Ad.AA|apply Ad.BI|apply Ad.region|apply Ad.Au|apply Ad.Ai|apply AO.normal|apply AO.ret|apply AL.normal|apply AL.ret|apply Aw.ret|apply Ad.ret|apply Ad.skip|apply Ad.Ih|apply Af.nil|apply Ar.nil|apply Af.one|(apply Ar.bar;decide +kernel)|apply Ar.quiet|(apply Af.take;rfl;rfl)|(apply Af.drop;rfl;rfl;rfl)|(apply Af.guard;rfl;rfl)|(apply Aa.fn;rfl;rfl;exact hc;intro _;rfl)|(apply Aa.sliceTo;rfl;rfl;rfl;rfl;rfl;rfl;omega)|(apply Aa.assign;rfl)|(apply Aa.move;rfl)|(apply Aa.Bq;rfl;rfl;omega)|(apply Aa.int;rfl;rfl;rfl)|(apply Aa.AV;rfl;rfl;rfl;omega;rfl)|(apply Aa.load;rfl;rfl)|(apply Aa.Bz;rfl;rfl)|(apply Aa.AU;rfl;rfl)|(apply Aa.BH;rfl;rfl)|(apply Aa.AQ;rfl;rfl;rfl)|(apply Aa.alloc;rfl)|(apply Aa.Bj;rfl;rfl;rfl;trivial;rfl;rfl;exact Aj rfl;exact le_dec rfl)|(apply Ad.Ae;rfl)|(apply Ad.cond_true;rfl)|(apply Ad.cond_false;rfl)|(apply Ad.AZ;rfl)|(intro _;try (exfalso;omega)))
  all_goals try (exfalso;omega)
  all_goals first
   |(rw [if_pos (by omega)];(refine Done.ret rfl (.refl _) (by exact PV.Ac rfl) Ah.nil (Nat.zero_le _) (Nat.le_refl _) ⟨?_,rfl,rfl⟩;try rfl);done)
   |(rw [if_neg (by omega),if_pos (by omega)];(refine Done.ret rfl (.refl _) (by exact PV.Ac rfl) Ah.nil (Nat.zero_le _) (Nat.le_refl _) ⟨?_,rfl,rfl⟩;try rfl);done)
   |(rw [if_neg (by omega),if_neg (by omega),if_pos (of_decide_eq_true hg)];(refine Done.ret rfl (.refl _) (by exact PV.Ac rfl) Ah.nil (Nat.zero_le _) (Nat.le_refl _) ⟨?_,rfl,rfl⟩;try rfl);done)
   |(rw [if_neg (by omega),if_neg (by omega),if_neg (of_decide_eq_false hg)]
     refine Aw.normal ⟨k+1,⟨by omega,?_⟩,by omega,⟨by omega,?_,?_⟩⟩
     ·first|rfl|(refine Eq.trans ?_ hE;symm;(conv=>lhs;rw [MZ]);rw [if_pos hkl,if_neg (by omega),if_neg (by omega),if_neg (of_decide_eq_false hg)])
     ·repeat (first|exact Ak.nil|refine Ak.same (by exact PV.Ac rfl) rfl ?_|refine Ak.cons trivial rfl (.of_eq (Aq (by simp<;>omega))) ?_)
     ·repeat (first|exact Ah.nil|(refine Ah.cons (Aj rfl) ?_ rfl ?_ ?_;(first|exact trivial|exact AP.Ag _ _|(simp [HB.under,AP.under,PV.under]));(first|exact Bg.refl _|exact Bg.vec (Bf.refl _) (by simp)))))
 ·rw [MZ,if_neg hkl]
  repeat' (first|apply Ad.AA|apply Ad.AX|apply AO.normal|apply AL.exit|apply Aw.exit|apply Ad.ret|apply Af.nil|apply Af.one|(apply Aa.assign;rfl)|(apply Aa.int;rfl;rfl;rfl)|(apply Ad.Ae;rfl)|(intro _;try (exfalso;omega)))
  all_goals first|(exfalso;omega)|(refine Done.ret rfl (.refl _) (by exact PV.Ac rfl) Ah.nil (Nat.zero_le _) (Nat.le_refl _) ⟨?_,rfl,rfl⟩;try rfl)
theorem kT (rk:List FQ) (lo hi:Int) (hr:rk.length<1000000) (hs:∀ i,i<rk.length→Ws (gi rk i)):AY env 108 [.agg (oO rk lo hi)] (.p (.int .i64 (gY rk lo hi))):=by
 have hcm:=Wh lo hi
 unfold gY
 refine AY.enter (AB (by decide)) Tryz.func108 rfl (by kernel_rfl) (by simp [Tryz.ntmps108]) ?_
 repeat' (first|apply Ad.assoc|apply Ad.AA|apply Ad.Au|apply Ad.BL|apply Ad.Ai|apply Af.nil|apply Af.one|(apply Aa.assign;rfl)|(apply Aa.move;rfl)|(apply Aa.int;rfl;rfl;rfl)|(apply Aa.load;rfl;rfl)|(apply Aa.BH;rfl;rfl)|(apply Aa.AQ;rfl;rfl;rfl)|(apply Aa.box;rfl;trivial)|(apply Ad.Ae;rfl)|(intro _;try (exfalso;omega)))
 ·rw [if_pos (by omega)];(refine Done.ret rfl (.refl _) (by exact PV.Ac rfl) Ah.nil (Nat.zero_le _) (Nat.le_refl _) ⟨?_,rfl,rfl⟩;try rfl)
 rw [if_neg (by omega)]
 refine Ad.D8 (fun k:Nat=>[(1,.ref 0 0),(11,lst 131 rk),(12,.p (.int .i64 (rk.length:Int))),(13,.p (.int .i64 (k:Int)))]) (fun _=>[(0,.box 186 ((oO rk lo hi).map .p))]) 1 (fun k=>k≤rk.length∧Xn rk k=Xn rk 0) (fun k=>rk.length-k) 0 (by omega) ⟨by omega,rfl⟩ ⟨by omega,?_,?_⟩ ?_
 ·repeat (first|exact Ak.nil|refine Ak.same (by exact PV.Ac rfl) rfl ?_|refine Ak.cons trivial rfl (.of_eq (Aq (by simp<;>omega))) ?_)
 ·repeat (first|exact Ah.nil|(refine Ah.cons (Aj rfl) ?_ rfl ?_ ?_;(first|exact trivial|exact AP.Ag _ _|(simp [HB.under,AP.under,PV.under]));(first|exact Bg.refl _|exact Bg.vec (Bf.refl _) (by simp))))
 rintro k ⟨hk,hE⟩
 rw [← hE]
 by_cases hkl:k<rk.length
 ·have hsm:=(hs k hkl).len
  have hc:=TU (gi rk k) hsm.1 hsm.2.1 hsm.2.2
  rw [Xn,if_pos hkl]
  by_cases h0:DR (gi rk k)=0
  ·rw [h0] at hc ⊢
   rw [if_neg (by decide)]
   repeat' (first|apply Ad.AA|apply Ad.region|apply Ad.Au|apply Ad.Ai|apply AO.normal|apply AL.normal|apply Ad.skip|apply Af.nil|apply Af.one|(apply Aa.fn;rfl;rfl;exact hc;intro _;rfl)|(apply Aa.assign;rfl)|(apply Aa.move;rfl)|(apply Aa.Bq;rfl;rfl;omega)|(apply Aa.int;rfl;rfl;rfl)|(apply Aa.AV;rfl;rfl;rfl;omega;rfl)|(apply Aa.load;rfl;rfl)|(apply Aa.alloc;rfl)|(apply Aa.Bj;rfl;rfl;rfl;trivial;rfl;rfl;exact Aj rfl;exact le_dec rfl)|(apply Ad.Ae;rfl)|(apply Ad.cond_false;rfl)|(intro _;try (exfalso;omega)))
   all_goals try (exfalso;omega)
   refine Aw.normal ⟨k+1,⟨by omega,?_⟩,by omega,⟨by omega,?_,?_⟩⟩
   ·first|rfl|(refine Eq.trans ?_ hE;symm;(conv=>lhs;rw [Xn]);rw [if_pos hkl,if_neg (fun h=>h h0)])
   ·repeat (first|exact Ak.nil|refine Ak.same (by exact PV.Ac rfl) rfl ?_|refine Ak.cons trivial rfl (.of_eq (Aq (by simp<;>omega))) ?_)
   ·repeat (first|exact Ah.nil|(refine Ah.cons (Aj rfl) ?_ rfl ?_ ?_;(first|exact trivial|exact AP.Ag _ _|(simp [HB.under,AP.under,PV.under]));(first|exact Bg.refl _|exact Bg.vec (Bf.refl _) (by simp))))
  ·rw [if_pos h0,if_pos h0]
   repeat' (first|apply Ad.AA|apply Ad.Au|apply Ad.Ai|apply AO.ret|apply AL.ret|apply Aw.ret|apply Ad.ret|apply Af.nil|apply Af.one|(apply Aa.fn;rfl;rfl;exact hc;intro _;rfl)|(apply Aa.assign;rfl)|(apply Aa.move;rfl)|(apply Aa.int;rfl;rfl;rfl)|(apply Aa.AV;rfl;rfl;rfl;omega;rfl)|(apply Aa.load;rfl;rfl)|(apply Aa.alloc;rfl)|(apply Aa.Bj;rfl;rfl;rfl;trivial;rfl;rfl;exact Aj rfl;exact le_dec rfl)|(apply Ad.Ae;rfl)|(apply Ad.AZ;rfl)|(intro _;try (exfalso;omega)))
   all_goals first|(exfalso;omega)|(refine Done.ret rfl (.refl _) (by exact PV.Ac rfl) Ah.nil (Nat.zero_le _) (Nat.le_refl _) ⟨?_,rfl,rfl⟩;try rfl)
 ·rw [Xn,if_neg hkl,if_neg (by decide)]
  repeat' (first|apply Ad.AA|apply Ad.AX|apply AO.normal|apply AL.exit|apply Aw.exit|apply Ad.ret|apply Af.nil|apply Af.one|(apply Aa.fn;rfl;rfl;exact hcm;intro _;rfl)|(apply Aa.assign;rfl)|(apply Aa.int;rfl;rfl;rfl)|(apply Aa.load;rfl;rfl)|(apply Aa.AQ;rfl;rfl;rfl)|(apply Ad.Ae;rfl)|(intro _;try (exfalso;omega)))
  all_goals first|(exfalso;omega)|(refine Done.ret rfl (.refl _) (by exact PV.Ac rfl) Ah.nil (Nat.zero_le _) (Nat.le_refl _) ⟨?_,rfl,rfl⟩;try rfl)
theorem oV (rk:List FQ) (lo hi:Int) (s:Stp) (hr:rk.length<1000000) (hs:∀ i,i<rk.length→Ws (gi rk i)) (hS:YK s):AY env 90 [.agg (oO rk lo hi),.agg (Enc.enc s)] (.p (.int .i64 (Io rk lo hi s))):=by
 obtain ⟨q1,q2,q3⟩:=hS
 have hp:=kT rk lo hi hr hs
 have hn:=Hq s.name (by omega)
 have hf:=KG s.Du
 unfold Io xu
 refine AY.enter (AB (by decide)) Tryz.func90 rfl (by kernel_rfl) (by simp [Tryz.ntmps90]) ?_
 by_cases h0:gY rk lo hi=0
 case neg =>
  rw [if_pos h0]
  repeat' (first|apply Ad.assoc|apply Ad.AA|apply Ad.BL|apply Af.nil|apply Af.one|(apply Aa.fn;rfl;rfl;exact hp;intro _;rfl)|(apply Aa.assign;rfl)|(apply Aa.move;rfl)|(apply Aa.int;rfl;rfl;rfl)|(apply Aa.load;rfl;rfl)|(apply Aa.box;rfl;trivial)|(apply Ad.Ae;rfl)|(intro _;try (exfalso;omega)))
  all_goals first|(exfalso;omega)|(refine Done.ret rfl (.refl _) (by exact PV.Ac rfl) Ah.nil (Nat.zero_le _) (Nat.le_refl _) ⟨?_,rfl,rfl⟩;try rfl)
 rw [h0] at hp ⊢
 rw [if_neg (by decide)]
 by_cases h1:C9 s.name
 case neg =>
  rw [if_pos h1]
  rw [decide_eq_false h1] at hn
  repeat' (first|apply Ad.assoc|apply Ad.AA|apply Ad.Au|apply Ad.BL|apply Af.nil|apply Af.one|(apply Aa.fn;rfl;rfl;exact hp;intro _;rfl)|(apply Aa.fn;rfl;rfl;exact hn;intro _;rfl)|(apply Aa.assign;rfl)|(apply Aa.move;rfl)|(apply Aa.int;rfl;rfl;rfl)|(apply Aa.load;rfl;rfl)|(apply Aa.AQ;rfl;rfl;rfl)|(apply Aa.box;rfl;trivial)|(apply Aa.not;rfl)|(apply Ad.Bh;rfl)|(apply Ad.Az;rfl))
  all_goals first|contradiction|(exfalso;omega)|(refine Done.ret rfl (.refl _) (by exact PV.Ac rfl) Ah.nil (Nat.zero_le _) (Nat.le_refl _) ⟨?_,rfl,rfl⟩;try rfl)
 rw [if_neg (fun h=>h h1)]
 rw [decide_eq_true h1] at hn
 by_cases h2:O7 s.Du=0
 case neg =>
  rw [if_pos h2]
  repeat' (first|apply Ad.assoc|apply Ad.AA|apply Ad.Au|apply Ad.BL|apply Af.nil|apply Af.one|(apply Aa.fn;rfl;rfl;exact hp;intro _;rfl)|(apply Aa.fn;rfl;rfl;exact hn;intro _;rfl)|(apply Aa.fn;rfl;rfl;exact hf;intro _;rfl)|(apply Aa.assign;rfl)|(apply Aa.move;rfl)|(apply Aa.int;rfl;rfl;rfl)|(apply Aa.load;rfl;rfl)|(apply Aa.AQ;rfl;rfl;rfl)|(apply Aa.box;rfl;trivial)|(apply Aa.not;rfl)|(apply Ad.Az;rfl)|(apply Ad.Ae;rfl)|(intro _;try (exfalso;omega)))
  all_goals first|contradiction|(exfalso;omega)|(refine Done.ret rfl (.refl _) (by exact PV.Ac rfl) Ah.nil (Nat.zero_le _) (Nat.le_refl _) ⟨?_,rfl,rfl⟩;try rfl)
 rw [if_neg (fun h=>h h2)]
 rw [h2] at hf
 repeat' (first|apply Ad.assoc|apply Ad.AA|apply Ad.Au|apply Ad.Ai|apply AO.normal|apply AO.ret|apply AL.normal|apply AL.ret|apply Ad.ret|apply Ad.skip|apply Af.nil|apply Af.one|(apply Aa.fn;rfl;rfl;exact hp;intro _;rfl)|(apply Aa.fn;rfl;rfl;exact hn;intro _;rfl)|(apply Aa.fn;rfl;rfl;exact hf;intro _;rfl)|(apply Aa.assign;rfl)|(apply Aa.move;rfl)|(apply Aa.int;rfl;rfl;rfl)|(apply Aa.load;rfl;rfl)|(apply Aa.BH;rfl;rfl)|(apply Aa.AQ;rfl;rfl;rfl)|(apply Aa.box;rfl;trivial)|(apply Aa.not;rfl)|(apply Ad.Az;rfl)|(apply Ad.AZ;rfl)|(intro _;try (exfalso;omega)))
 all_goals try contradiction
 all_goals try (exfalso;omega)
 ·rw [if_pos (by omega)];(refine Done.ret rfl (.refl _) (by exact PV.Ac rfl) Ah.nil (Nat.zero_le _) (Nat.le_refl _) ⟨?_,rfl,rfl⟩;try rfl)
 ·rw [if_neg (by omega),if_pos (by omega)];(refine Done.ret rfl (.refl _) (by exact PV.Ac rfl) Ah.nil (Nat.zero_le _) (Nat.le_refl _) ⟨?_,rfl,rfl⟩;try rfl)
 rw [if_neg (by omega),if_neg (by omega)]
 refine Ad.D8 (fun k:Nat=>[(2,.ref 0 0),(3,.ref 1 0),(36,lst 136 s.Fb),(37,.p (.int .i64 (s.Fb.length:Int))),(38,.p (.int .i64 (k:Int)))]) (fun _=>[(1,.box 122 ((Enc.enc s).map .p)),(0,.box 186 ((oO rk lo hi).map .p))]) 2 (fun k=>k≤s.Fb.length∧JF rk.length lo hi s.Fb k=JF rk.length lo hi s.Fb 0) (fun k=>s.Fb.length-k) 0 (by omega) ⟨by omega,rfl⟩ ⟨by omega,?_,?_⟩ ?_
 ·repeat (first|exact Ak.nil|refine Ak.same (by exact PV.Ac rfl) rfl ?_|refine Ak.cons trivial rfl (.of_eq (Aq (by simp<;>omega))) ?_)
 ·repeat (first|exact Ah.nil|(refine Ah.cons (Aj rfl) ?_ rfl ?_ ?_;(first|exact trivial|exact AP.Ag _ _|(simp [HB.under,AP.under,PV.under]));(first|exact Bg.refl _|exact Bg.vec (Bf.refl _) (by simp))))
 rintro k ⟨hk,hE⟩
 rw [← hE]
 by_cases hkl:k<s.Fb.length
 ·have hsm:=(q3 k hkl).draws
  have hd:=lN rk lo hi (gi s.Fb k).draws hsm hr
  rw [JF,if_pos hkl]
  have hk1:((k:Int)-1).toNat=k-1:=by omega
  have hkc:0<k→((k-1:Nat):Int)=(k:Int)-1:=fun h=>by omega
  generalize hD:PK rk.length (gi s.Fb k).draws=D at *
  repeat' (first|apply Ad.AA|apply Ad.BI|apply Ad.region|apply Ad.Au|apply Ad.Ai|apply AO.normal|apply AO.ret|apply AL.normal|apply AL.ret|apply Aw.ret|apply Ad.ret|apply Ad.skip|apply Af.nil|apply Ar.nil|apply Af.one|(apply Ar.bar;decide +kernel)|apply Ar.quiet|(apply Af.take;rfl;rfl)|(apply Ar.Lr;rfl;rfl)|(apply Af.drop;rfl;rfl;rfl)|(apply Ar.drop;rfl;rfl;rfl)|(apply Af.guard;rfl;rfl)|(apply Ar.guard;rfl;rfl)|(apply Ar.nO;rfl;rfl)|(apply Aa.fn;rfl;rfl;exact hd;intro _;rfl)|(apply Aa.assign;rfl)|(apply Aa.move;rfl)|(apply Aa.Bq;rfl;rfl;omega)|(apply Aa.Hr;rfl;rfl;omega)|(apply Aa.int;rfl;rfl;rfl)|(apply Aa.AV;rfl;rfl;rfl;omega;rfl)|(apply Aa.uy;rfl;rfl;rfl;omega;omega;rfl)|(apply Aa.load;rfl;rfl)|(apply Aa.Bz;rfl;rfl)|(apply Aa.AU;rfl;rfl)|(apply Aa.AQ;rfl;rfl;rfl)|(apply Aa.DW;rfl;rfl)|(apply Aa.alloc;rfl)|(apply Aa.Bj;rfl;rfl;rfl;trivial;rfl;rfl;exact Aj rfl;exact le_dec rfl)|(apply Aa.qM;rfl;rfl)|(apply Aa.a9u;rfl;rfl)|(apply Ad.Ae;rfl)|(apply Ad.cond_true;rfl)|(apply Ad.cond_false;rfl)|(apply Ad.AZ;rfl)|(intro _;try (exfalso;omega)))
  all_goals try (exfalso;omega)
  all_goals first
   |(rw [if_pos (by omega)];(refine Done.ret rfl (.refl _) (by exact PV.Ac rfl) Ah.nil (Nat.zero_le _) (Nat.le_refl _) ⟨?_,rfl,rfl⟩;try rfl);done)
   |(rw [if_neg (by omega),if_pos (by omega)];(refine Done.ret rfl (.refl _) (by exact PV.Ac rfl) Ah.nil (Nat.zero_le _) (Nat.le_refl _) ⟨?_,rfl,rfl⟩;try rfl);done)
   |(rw [if_neg (by omega),if_neg (by omega),if_pos (by omega)];(refine Done.ret rfl (.refl _) (by exact PV.Ac rfl) Ah.nil (Nat.zero_le _) (Nat.le_refl _) ⟨?_,rfl,rfl⟩;try rfl);done)
   |(rw [if_neg (by omega),if_neg (by omega),if_neg (by omega)]
     refine Aw.normal ⟨k+1,⟨by omega,?_⟩,by omega,⟨by omega,?_,?_⟩⟩
     ·first|rfl|(refine Eq.trans ?_ hE;symm;(conv=>lhs;rw [JF]);rw [if_pos hkl,if_neg (by omega),if_neg (by omega),if_neg (by omega)])
     ·repeat (first|exact Ak.nil|refine Ak.same (by exact PV.Ac rfl) rfl ?_|refine Ak.cons trivial rfl (.of_eq (Aq (by simp<;>omega))) ?_)
     ·repeat (first|exact Ah.nil|(refine Ah.cons (Aj rfl) ?_ rfl ?_ ?_;(first|exact trivial|exact AP.Ag _ _|(simp [HB.under,AP.under,PV.under]));(first|exact Bg.refl _|exact Bg.vec (Bf.refl _) (by simp)))))
 ·rw [JF,if_neg hkl]
  repeat' (first|apply Ad.AA|apply Ad.AX|apply AO.normal|apply AL.exit|apply Aw.exit|apply Ad.ret|apply Af.nil|apply Af.one|(apply Aa.assign;rfl)|(apply Aa.int;rfl;rfl;rfl)|(apply Ad.Ae;rfl)|(intro _;try (exfalso;omega)))
  all_goals first|(exfalso;omega)|(refine Done.ret rfl (.refl _) (by exact PV.Ac rfl) Ah.nil (Nat.zero_le _) (Nat.le_refl _) ⟨?_,rfl,rfl⟩;try rfl)
end Go.Proofs.YtdabojnmoejilaaGreatDoor
namespace Go.Proofs.YtdabojnmoejilaaGreatDoor
open Go Go.Am Go.Vm
attribute [local irreducible] Aa Af Ar Ad BA AY CG AO AL Aw Vm.Done CW Bl
attribute [local irreducible] DR Dw
theorem a0p {L:Vm.Frame} {H:Vm.Heap} {nx:Nat} {Q:PV→Vm.Heap→Nat→Prop} {dst:Option Tmp} {ty:TypeId} {pos:String} {af:Array Edge} {gd:Option (Nat×Bool)} {fo:Operand} {args:Array Operand} {aT:Array TypeId} {fs cs xs:List PV} {c:Code}
 (hf:BD env.Γ L fo=some (.clo 91 fs cs)) (ha:evs env.Γ L args.toList=some xs) (hb:Tryz.f91.body=some c) (hn:(fs++xs++cs).length≤Tryz.f91.ntmps)
 (h:Ad env nx c (CS 0 (fs++xs++cs)) H nx (Bl env.P Tryz.f91.results.toList Q)):Aa env true ⟨dst,.call { callee:=.value fo,args:=args,argTypes:=aT },ty,pos,af,gd⟩ L H nx Q:=by
 have h0:(match Tryz.f91.body with|some c=>Hy env.G Tryz.f91 c|none=>false)=true:=by kernel_rfl
 rw [hb] at h0
 exact Aa.inline rfl hf ha (AB (by decide)) Tryz.func91 hb h0 hn h
theorem zY {L:Vm.Frame} {H:Vm.Heap} {nx:Nat} {Q:PV→Vm.Heap→Nat→Prop} {dst:Option Tmp} {ty:TypeId} {pos:String} {af:Array Edge} {gd:Option (Nat×Bool)} {fo:Operand} {args:Array Operand} {aT:Array TypeId} {fs cs xs:List PV} {c:Code}
 (hf:BD env.Γ L fo=some (.clo 94 fs cs)) (ha:evs env.Γ L args.toList=some xs) (hb:Tryz.f94.body=some c) (hn:(fs++xs++cs).length≤Tryz.f94.ntmps)
 (h:Ad env nx c (CS 0 (fs++xs++cs)) H nx (Bl env.P Tryz.f94.results.toList Q)):Aa env true ⟨dst,.call { callee:=.value fo,args:=args,argTypes:=aT },ty,pos,af,gd⟩ L H nx Q:=by
 have h0:(match Tryz.f94.body with|some c=>Hy env.G Tryz.f94 c|none=>false)=true:=by kernel_rfl
 rw [hb] at h0
 exact Aa.inline rfl hf ha (AB (by decide)) Tryz.func94 hb h0 hn h
theorem nX {L:Vm.Frame} {H:Vm.Heap} {nx:Nat} {Q:PV→Vm.Heap→Nat→Prop} {dst:Option Tmp} {ty:TypeId} {pos:String} {af:Array Edge} {gd:Option (Nat×Bool)} {fo:Operand} {args:Array Operand} {aT:Array TypeId} {fs cs xs:List PV} {c:Code}
 (hf:BD env.Γ L fo=some (.clo 92 fs cs)) (ha:evs env.Γ L args.toList=some xs) (hb:Tryz.f92.body=some c) (hn:(fs++xs++cs).length≤Tryz.f92.ntmps)
 (h:Ad env nx c (CS 0 (fs++xs++cs)) H nx (Bl env.P Tryz.f92.results.toList Q)):Aa env true ⟨dst,.call { callee:=.value fo,args:=args,argTypes:=aT },ty,pos,af,gd⟩ L H nx Q:=by
 have h0:(match Tryz.f92.body with|some c=>Hy env.G Tryz.f92 c|none=>false)=true:=by kernel_rfl
 rw [hb] at h0
 exact Aa.inline rfl hf ha (AB (by decide)) Tryz.func92 hb h0 hn h
theorem ay (ks:List aQ) (l:List Xq) (hk0:ks.length<1000000) (hl:l.length<1000000) (hn0:∀ i,i<l.length→(gi l i).name.length<1000000):AY env 61 [.lst 94 (cells ks) ks.length,.lst 147 (cells l) l.length] (.p (.int .i64 (Nh ks l))):=by
 unfold Nh
 refine AY.enter (AB (by decide)) Tryz.func61 rfl (by kernel_rfl) (by simp [Tryz.ntmps61]) ?_
 by_cases h0:ks.length>8∨l.length>40
 ·rw [if_pos h0]
  repeat' (first|apply Ad.assoc|apply Ad.AA|apply Ad.BL|apply Af.nil|apply Af.one|(apply Af.take;rfl;rfl)|(apply Af.drop;rfl;rfl;rfl)|(apply Af.guard;rfl;rfl)|(apply Aa.assign;rfl)|(apply Aa.move;rfl)|(apply Aa.int;rfl;rfl;rfl)|(apply Aa.Bz;rfl;rfl)|(apply Aa.AU;rfl;rfl)|(apply Aa.BH;rfl;rfl)|(apply Ad.Bh;rfl)|(apply Ad.Ae;rfl)|(intro _;try (exfalso;omega)))
  all_goals first|(exfalso;omega)|(refine Done.ret rfl (.refl _) (by exact PV.Ac rfl) Ah.nil (Nat.zero_le _) (Nat.le_refl _) ⟨?_,rfl,rfl⟩;try rfl)
 rw [if_neg h0]
 repeat' (first|apply Ad.assoc|apply Ad.AA|apply Ad.Au|apply Ad.Ai|apply Af.nil|apply Af.one|(apply Af.take;rfl;rfl)|(apply Af.guard;rfl;rfl)|(apply Aa.assign;rfl)|(apply Aa.move;rfl)|(apply Aa.int;rfl;rfl;rfl)|(apply Aa.AU;rfl;rfl)|(apply Aa.BH;rfl;rfl)|(apply Ad.Ae;rfl)|(intro _;try (exfalso;omega)))
 all_goals try (exfalso;omega)
 refine Ad.D8 (fun k:Nat=>[(0,lst 94 ks),(1,lst 147 l),(17,lst 94 ks),(18,.p (.int .i64 (ks.length:Int))),(19,.p (.int .i64 (k:Int)))]) (fun _=>[]) 0 (fun k=>k≤ks.length∧PZ ks k=PZ ks 0) (fun k=>ks.length-k) 0 (by omega) ⟨by omega,rfl⟩ ⟨by omega,?_,Ah.nil⟩ ?_
 ·repeat (first|exact Ak.nil|refine Ak.same (by exact PV.Ac rfl) rfl ?_|refine Ak.cons trivial rfl (.of_eq (Aq (by simp<;>omega))) ?_)
 rintro k ⟨hk,hE⟩
 by_cases hkl:k<ks.length
 ·have hc:=Wh (gi ks k).lo (gi ks k).hi
  by_cases h1:U9 (gi ks k).lo (gi ks k).hi=0
  ·rw [h1] at hc
   repeat' (first|apply Ad.AA|apply Ad.region|apply Ad.Au|apply Ad.Ai|apply AO.normal|apply AL.normal|apply Ad.skip|apply Af.nil|apply Af.one|(apply Aa.fn;rfl;rfl;exact hc;intro _;rfl)|(apply Aa.move;rfl)|(apply Aa.Bq;rfl;rfl;omega)|(apply Aa.int;rfl;rfl;rfl)|(apply Aa.AV;rfl;rfl;rfl;omega;rfl)|(apply Aa.load;rfl;rfl)|(apply Aa.alloc;rfl)|(apply Aa.Bj;rfl;rfl;rfl;trivial;rfl;rfl;exact Aj rfl;exact le_dec rfl)|(apply Ad.Ae;rfl)|(apply Ad.cond_false;rfl)|(intro _;try (exfalso;omega)))
   all_goals try (exfalso;omega)
   all_goals try contradiction
   refine Aw.normal ⟨k+1,⟨by omega,?_⟩,by omega,⟨by omega,?_,Ah.nil⟩⟩
   ·first|rfl|(refine Eq.trans ?_ hE;symm;(conv=>lhs;rw [PZ]);rw [if_pos hkl,if_neg (fun h=>h h1)])
   ·repeat (first|exact Ak.nil|refine Ak.same (by exact PV.Ac rfl) rfl ?_|refine Ak.cons trivial rfl (.of_eq (Aq (by simp<;>omega))) ?_)
  ·have e:PZ ks 0=23:=by rw [← hE,PZ,if_pos hkl,if_pos h1]
   rw [if_pos (by rw [e];decide),e]
   repeat' (first|apply Ad.AA|apply Ad.Au|apply Ad.Ai|apply AO.ret|apply AL.ret|apply Aw.ret|apply Ad.ret|apply Af.nil|apply Af.one|(apply Aa.fn;rfl;rfl;exact hc;intro _;rfl)|(apply Aa.assign;rfl)|(apply Aa.int;rfl;rfl;rfl)|(apply Aa.AV;rfl;rfl;rfl;omega;rfl)|(apply Aa.load;rfl;rfl)|(apply Aa.alloc;rfl)|(apply Aa.Bj;rfl;rfl;rfl;trivial;rfl;rfl;exact Aj rfl;exact le_dec rfl)|(apply Ad.Ae;rfl)|(apply Ad.AZ;rfl)|(intro _;try (exfalso;omega)))
   all_goals first|(exfalso;omega)|contradiction|(refine Done.ret rfl (.refl _) (by exact PV.Ac rfl) Ah.nil (Nat.zero_le _) (Nat.le_refl _) ⟨?_,rfl,rfl⟩;try rfl)
 obtain rfl:k=ks.length:=by omega
 have e:PZ ks 0=0:=by rw [← hE,PZ,if_neg (by omega)]
 rw [if_neg (fun h=>h e)]
 repeat' (first|apply Ad.assoc|apply Ad.AA|apply Ad.AX|apply Ad.Ai|apply AO.normal|apply AL.exit|apply Aw.exit|apply Af.nil|apply Af.one|(apply Aa.move;rfl)|(apply Aa.int;rfl;rfl;rfl)|(apply Aa.BH;rfl;rfl)|(apply Ad.Ae;rfl)|(intro _;try (exfalso;omega)))
 all_goals try (exfalso;omega)
 refine Ad.D8 (fun k:Nat=>[(0,lst 94 ks),(1,lst 147 l),(27,lst 147 l),(28,.p (.int .i64 (l.length:Int))),(29,.p (.int .i64 (k:Int)))]) (fun _=>[]) 0 (fun k=>k≤l.length∧LD ks.length l k=LD ks.length l 0) (fun k=>l.length-k) 0 (by omega) ⟨by omega,rfl⟩ ⟨by omega,?_,Ah.nil⟩ ?_
 ·repeat (first|exact Ak.nil|refine Ak.same (by exact PV.Ac rfl) rfl ?_|refine Ak.cons trivial rfl (.of_eq (Aq (by simp<;>omega))) ?_)
 rintro k ⟨hk,hE⟩
 rw [← hE]
 by_cases hkl:k<l.length
 case neg =>
  rw [LD,if_neg hkl]
  repeat' (first|apply Ad.AA|apply Ad.AX|apply AO.normal|apply AL.exit|apply Aw.exit|apply Ad.ret|apply Af.nil|apply Af.one|(apply Aa.assign;rfl)|(apply Aa.int;rfl;rfl;rfl)|(apply Ad.Ae;rfl)|(intro _;try (exfalso;omega)))
  all_goals first|(exfalso;omega)|(refine Done.ret rfl (.refl _) (by exact PV.Ac rfl) Ah.nil (Nat.zero_le _) (Nat.le_refl _) ⟨?_,rfl,rfl⟩;try rfl)
 rw [LD,if_pos hkl]
 have hN:=Hq (gi l k).name (by have:=hn0 k hkl;omega)
 by_cases h1:C9 (gi l k).name
 case neg =>
  rw [if_pos h1]
  rw [decide_eq_false h1] at hN
  repeat' (first|apply Ad.AA|apply Ad.Au|apply Ad.Ai|apply AO.ret|apply AL.ret|apply Aw.ret|apply Ad.ret|apply Ad.Ih|apply Af.nil|apply Af.one|(apply Aa.fn;rfl;rfl;exact hN;intro _;rfl)|(apply Aa.assign;rfl)|(apply Aa.move;rfl)|(apply Aa.int;rfl;rfl;rfl)|(apply Aa.AV;rfl;rfl;rfl;omega;rfl)|(apply Aa.load;rfl;rfl)|(apply Aa.AQ;rfl;rfl;rfl)|(apply Aa.alloc;rfl)|(apply Aa.Bj;rfl;rfl;rfl;trivial;rfl;rfl;exact Aj rfl;exact le_dec rfl)|(apply Aa.not;rfl)|(apply Ad.Ae;rfl)|(apply Ad.cond_true;rfl)|(intro _;try (exfalso;omega)))
  all_goals first|(exfalso;omega)|contradiction|(refine Done.ret rfl (.refl _) (by exact PV.Ac rfl) Ah.nil (Nat.zero_le _) (Nat.le_refl _) ⟨?_,rfl,rfl⟩;try rfl)
 rw [if_neg (fun h=>h h1)]
 rw [decide_eq_true h1] at hN
 have hT:(gi l k).name∈(l.take k).map Xq.name↔∃ j,j<k∧(gi l j).name=(gi l k).name:=by
  rw [List.mem_map]
  constructor
  ·rintro ⟨a,ha,e⟩
   obtain ⟨j,h1,h2⟩:=Wn.1 ha
   rw [List.length_take] at h1
   rw [ZC (by omega)] at h2
   exact ⟨j,by omega,by rw [h2,e]⟩
  ·rintro ⟨j,hj,e⟩
   exact ⟨gi l j,Wn.2 ⟨j,by rw [List.length_take];omega,ZC hj⟩,e⟩
 repeat' (first|apply Ad.assoc|apply Ad.AA|apply Ad.Au|apply Ad.Ai|apply Ad.Ih|apply Af.nil|apply Af.one|(apply Aa.fn;rfl;rfl;exact hN;intro _;rfl)|(apply a0p;rfl;rfl;rfl;exact le_dec rfl)|(apply zY;rfl;rfl;rfl;exact le_dec rfl)|(apply Aa.makeFunc;rfl;rfl)|(apply Aa.sliceTo;rfl;rfl;rfl;rfl;rfl;rfl;omega)|(apply Aa.assign;rfl)|(apply Aa.move;rfl)|(apply Aa.int;rfl;rfl;rfl)|(apply Aa.AV;rfl;rfl;rfl;omega;rfl)|(apply Aa.load;rfl;rfl)|(apply Aa.BH;rfl;rfl)|(apply Aa.AQ;rfl;rfl;rfl)|(apply Aa.alloc;rfl)|(apply Aa.Bj;rfl;rfl;rfl;trivial;rfl;rfl;exact Aj rfl;exact le_dec rfl)|(apply Aa.not;rfl)|(apply Ad.Ae;rfl)|(apply Ad.cond_false;rfl)|(intro _;try (exfalso;omega)))
 all_goals try (exfalso;omega)
 all_goals try contradiction
 refine Ad.D8 (fun j:Nat=>[(0,.p (.lst 147 (cells (l.take k)) k)),(1,.clo 92 [] [.ref 0 0]),(7,.p (.int .i64 (k:Int))),(8,.p (.int .i64 (j:Int)))]) (fun _=>[(0,.box 147 ((Enc.enc (gi l k)).map .p))]) 1 (fun j=>j≤k∧∀ i,i<j→(gi l i).name≠(gi l k).name) (fun j=>k-j) 0 (by omega) ⟨by omega,fun i hi=>by omega⟩ ⟨by omega,?_,?_⟩ ?_
 ·repeat (first|exact Ak.nil|refine Ak.same (by exact PV.Ac rfl) rfl ?_|refine Ak.cons trivial rfl (.of_eq (Aq (by simp<;>omega))) ?_)
 ·repeat (first|exact Ah.nil|(refine Ah.cons (Aj rfl) ?_ rfl ?_ ?_;(first|exact trivial|exact AP.Ag _ _|(simp [HB.under,AP.under,PV.under]));(first|exact Bg.refl _|exact Bg.vec (Bf.refl _) (by simp))))
 rintro j ⟨hj,hok⟩
 by_cases hjk:j<k
 ·have hgt:gi (l.take k) j=gi l j:=ZC hjk
  have hlt:(l.take k).length=k:=by rw [List.length_take];omega
  generalize hg:decide ((gi l j).name=(gi l k).name)=g at *
  have hg2:decide ((gi (l.take k) j).name=(gi l k).name)=g:=by rw [hgt];exact hg
  cases g
  ·repeat' (first|apply Ad.AA|apply Ad.region|apply Ad.Au|apply Ad.Ai|apply AO.normal|(apply Bl.ret;rfl)|apply AL.normal|apply Ad.ret|apply Ad.skip|apply Af.nil|apply Af.one|(apply nX;rfl;rfl;rfl;exact le_dec rfl)|(apply Aa.dM;rfl;rfl;exact hg2)|(apply Aa.AV (l:=l.take k) (i:=j);rfl;rfl;rfl;omega;exact hlt)|(apply Aa.assign;rfl)|(apply Aa.move;rfl)|(apply Aa.Bq;rfl;rfl;omega)|(apply Aa.int;rfl;rfl;rfl)|(apply Aa.load;rfl;rfl)|(apply Aa.AQ;rfl;rfl;rfl)|(apply Aa.box;rfl;trivial)|(apply Ad.Ae;rfl)|(apply Ad.cond_false;rfl)|(intro _;try (exfalso;omega)))
   all_goals try (exfalso;omega)
   refine Aw.normal ⟨j+1,⟨by omega,fun i hi=>?_⟩,by omega,⟨by omega,?_,?_⟩⟩
   ·rcases Nat.lt_or_ge i j with h|h
    ·exact hok i h
    ·obtain rfl:i=j:=by omega
     exact of_decide_eq_false hg
   ·repeat (first|exact Ak.nil|refine Ak.same (by exact PV.Ac rfl) rfl ?_|refine Ak.cons trivial rfl (.of_eq (Aq (by simp<;>omega))) ?_)
   ·repeat (first|exact Ah.nil|(refine Ah.cons (Aj rfl) ?_ rfl ?_ ?_;(first|exact trivial|exact AP.Ag _ _|(simp [HB.under,AP.under,PV.under]));(first|exact Bg.refl _|exact Bg.vec (Bf.refl _) (by simp))))
  ·rw [if_pos (hT.2 ⟨j,hjk,of_decide_eq_true hg⟩)]
   repeat' (first|apply Ad.AA|apply Ad.Au|apply Ad.Ai|apply AO.ret|(apply Bl.ret;rfl)|apply AL.ret|apply Aw.ret|apply Ad.ret|apply Af.nil|apply Af.one|(apply nX;rfl;rfl;rfl;exact le_dec rfl)|(apply Aa.dM;rfl;rfl;exact hg2)|(apply Aa.AV (l:=l.take k) (i:=j);rfl;rfl;rfl;omega;exact hlt)|(apply Aa.assign;rfl)|(apply Aa.move;rfl)|(apply Aa.int;rfl;rfl;rfl)|(apply Aa.load;rfl;rfl)|(apply Aa.AQ;rfl;rfl;rfl)|(apply Aa.box;rfl;trivial)|(apply Ad.Ae;rfl)|(apply Ad.cond_true;rfl)|(intro _;try (exfalso;omega)))
   all_goals first|(exfalso;omega)|contradiction|(refine Done.ret rfl (.refl _) (by exact PV.Ac rfl) Ah.nil (Nat.zero_le _) (Nat.le_refl _) ⟨?_,rfl,rfl⟩;try rfl)
 obtain rfl:j=k:=by omega
 rw [if_neg (fun h=>by obtain ⟨i,h1,h2⟩:=hT.1 h;exact hok i h1 h2)]
 repeat' (first|apply Ad.AA|apply Ad.region|apply Ad.AX|apply AO.normal|apply AO.ret|(apply Bl.ret;rfl)|apply AL.normal|apply AL.ret|apply AL.exit|apply Aw.ret|apply Aw.exit|apply Ad.ret|apply Ad.skip|apply Af.nil|apply Af.one|(apply Af.take;rfl;rfl)|(apply Af.drop;rfl;rfl;rfl)|(apply Af.guard;rfl;rfl)|(apply Aa.assign;rfl)|(apply Aa.move;rfl)|(apply Aa.Bq;rfl;rfl;omega)|(apply Aa.int;rfl;rfl;rfl)|(apply Aa.load;rfl;rfl)|(apply Aa.Bz;rfl;rfl)|(apply Aa.AU;rfl;rfl)|(apply Aa.BH;rfl;rfl)|(apply Aa.AQ;rfl;rfl;rfl)|(apply Ad.Ae;rfl)|(apply Ad.cond_true;rfl)|(apply Ad.cond_false;rfl)|(apply Ad.AZ;rfl)|(intro _;try (exfalso;omega)))
 all_goals try (exfalso;omega)
 all_goals try contradiction
 all_goals first
  |(rw [if_pos (by omega)];(refine Done.ret rfl (.refl _) (by exact PV.Ac rfl) Ah.nil (Nat.zero_le _) (Nat.le_refl _) ⟨?_,rfl,rfl⟩;try rfl);done)
  |(rw [if_neg (by omega),if_pos (by omega)];(refine Done.ret rfl (.refl _) (by exact PV.Ac rfl) Ah.nil (Nat.zero_le _) (Nat.le_refl _) ⟨?_,rfl,rfl⟩;try rfl);done)
  |(rw [if_neg (by omega),if_neg (by omega),if_pos (by omega)];(refine Done.ret rfl (.refl _) (by exact PV.Ac rfl) Ah.nil (Nat.zero_le _) (Nat.le_refl _) ⟨?_,rfl,rfl⟩;try rfl);done)
  |(rw [if_neg (by omega),if_neg (by omega),if_neg (by omega)]
    refine Aw.normal ⟨j+1,⟨by omega,?_⟩,by omega,⟨by omega,?_,Ah.nil⟩⟩
    ·first|rfl|(refine Eq.trans ?_ hE;symm;(conv=>lhs;rw [LD]);rw [if_pos hkl,if_neg (fun h=>h h1),if_neg (fun h=>by obtain ⟨i,h1,h2⟩:=hT.1 h;exact hok i h1 h2),if_neg (by omega),if_neg (by omega),if_neg (by omega)])
    ·repeat (first|exact Ak.nil|refine Ak.same (by exact PV.Ac rfl) rfl ?_|refine Ak.cons trivial rfl (.of_eq (Aq (by simp<;>omega))) ?_))
end Go.Proofs.YtdabojnmoejilaaGreatDoor
namespace Go.Proofs.YtdabojnmoejilaaGreatDoor
open Go Go.Am Go.Vm
attribute [local irreducible] Aa Af Ar Ad BA AY CG AO AL Aw Vm.Done CW Bl
attribute [local irreducible] DR Dw Io Jd Nh
theorem Qe {α:Type} [Inhabited α] (f:α→List UInt8) {l:List α} {k:Nat} (hk:k<l.length):(l.take (k+1)).map f=(l.take k).map f++[f (gi l k)]:=by
 rw [DF hk,List.map_append];rfl
theorem Qq {L:Vm.Frame} {H:Vm.Heap} {nx:Nat} {Q:PV→Vm.Heap→Nat→Prop} {dst:Option Tmp} {ty:TypeId} {pos:String} {af:Array Edge} {gd:Option (Nat×Bool)} {fo:Operand} {args:Array Operand} {aT:Array TypeId} {fs cs xs:List PV} {c:Code}
 (hf:BD env.Γ L fo=some (.clo 59 fs cs)) (ha:evs env.Γ L args.toList=some xs) (hb:Tryz.f59.body=some c) (hn:(fs++xs++cs).length≤Tryz.f59.ntmps)
 (h:Ad env nx c (CS 0 (fs++xs++cs)) H nx (Bl env.P Tryz.f59.results.toList Q)):Aa env true ⟨dst,.call { callee:=.value fo,args:=args,argTypes:=aT },ty,pos,af,gd⟩ L H nx Q:=by
 have h0:(match Tryz.f59.body with|some c=>Hy env.G Tryz.f59 c|none=>false)=true:=by kernel_rfl
 rw [hb] at h0
 exact Aa.inline rfl hf ha (AB (by decide)) Tryz.func59 hb h0 hn h
theorem Yf (o:EN) (d:VB) (ho:Pg o) (hd:uX d):AY env 60 [.agg (Enc.enc o),.agg (Enc.enc d)] (.p (.int .i64 (Jd o.ranks d))):=by
 have hc:=Wh d.lo d.hi
 obtain ⟨d1,d2,d3⟩:=hd
 unfold Jd
 refine AY.enter (AB (by decide)) Tryz.func60 rfl (by kernel_rfl) (by simp [Tryz.ntmps60]) ?_
 by_cases h0:U9 d.lo d.hi=0
 case neg =>
  rw [if_pos h0]
  repeat' (first|apply Ad.assoc|apply Ad.AA|apply Ad.BL|apply Af.nil|apply Af.one|(apply Aa.fn;rfl;rfl;exact hc;intro _;rfl)|(apply Aa.assign;rfl)|(apply Aa.move;rfl)|(apply Aa.int;rfl;rfl;rfl)|(apply Aa.load;rfl;rfl)|(apply Aa.AQ;rfl;rfl;rfl)|(apply Aa.box;rfl;trivial)|(apply Ad.Ae;rfl)|(intro _;try (exfalso;omega)))
  all_goals first|(exfalso;omega)|(refine Done.ret rfl (.refl _) (by exact PV.Ac rfl) Ah.nil (Nat.zero_le _) (Nat.le_refl _) ⟨?_,rfl,rfl⟩;try rfl)
 rw [h0] at hc ⊢
 rw [if_neg (by decide)]
 repeat' (first|apply Ad.assoc|apply Ad.AA|apply Ad.Au|apply Ad.BL|apply Ad.Ai|apply Af.nil|apply Af.one|(apply Aa.fn;rfl;rfl;exact hc;intro _;rfl)|(apply Aa.makeMap)|(apply Aa.assign;rfl)|(apply Aa.move;rfl)|(apply Aa.int;rfl;rfl;rfl)|(apply Aa.load;rfl;rfl)|(apply Aa.BH;rfl;rfl)|(apply Aa.AQ;rfl;rfl;rfl)|(apply Aa.box;rfl;trivial)|(apply Ad.Az;rfl)|(apply Ad.Ae;rfl)|(intro _;try (exfalso;omega)))
 all_goals try contradiction
 ·rw [if_pos (by omega)];(refine Done.ret rfl (.refl _) (by exact PV.Ac rfl) Ah.nil (Nat.zero_le _) (Nat.le_refl _) ⟨?_,rfl,rfl⟩;try rfl)
 rw [if_neg (by omega)]
 refine Ad.D8 (fun k:Nat=>[(2,.ref 0 0),(3,.ref 1 0),(6,.mref 2),(23,lst 122 d.stops),(24,.p (.int .i64 (d.stops.length:Int))),(25,.p (.int .i64 (k:Int)))]) (fun k=>[(2,.map (Yc ((d.stops.take k).map Stp.name))),(1,.box 97 ((Enc.enc d).map .p)),(0,.box 37 ((Enc.enc o).map .p))]) 3 (fun k=>k≤d.stops.length∧MW o.ranks d.lo d.hi d.stops k=MW o.ranks d.lo d.hi d.stops 0) (fun k=>d.stops.length-k) 0 (by omega) ⟨by omega,rfl⟩ ⟨by omega,?_,?_⟩ ?_
 ·repeat (first|exact Ak.nil|refine Ak.same (by exact PV.Ac rfl) rfl ?_|refine Ak.cons trivial rfl (.of_eq (Aq (by simp<;>omega))) ?_)
 ·repeat (first|exact Ah.nil|(refine Ah.cons (Aj rfl) ?_ rfl ?_ ?_;(first|exact trivial|exact AP.Ag _ _|(simp [HB.under,AP.under,PV.under]));(first|exact Bg.refl _|exact Bg.vec (Bf.refl _) (by simp))))
 rintro k ⟨hk,hE⟩
 rw [← hE]
 by_cases hkl:k<d.stops.length
 case neg =>
  rw [MW,if_neg hkl]
  repeat' (first|apply Ad.AA|apply Ad.AX|apply AO.normal|apply AL.exit|apply Aw.exit|apply Ad.ret|apply Af.nil|apply Af.one|(apply Aa.assign;rfl)|(apply Aa.int;rfl;rfl;rfl)|(apply Ad.Ae;rfl)|(intro _;try (exfalso;omega)))
  all_goals first|(exfalso;omega)|(refine Done.ret rfl (.refl _) (by exact PV.Ac rfl) Ah.nil (Nat.zero_le _) (Nat.le_refl _) ⟨?_,rfl,rfl⟩;try rfl)
 rw [MW,if_pos hkl]
 have hst:=oV o.ranks d.lo d.hi (gi d.stops k) ho.ranks ho.rk (d3 k hkl)
 by_cases h1:Io o.ranks d.lo d.hi (gi d.stops k)=0
 case neg =>
  rw [if_pos h1]
  repeat' (first|apply Ad.assoc|apply Ad.AA|apply Ad.Au|apply Ad.BL|apply Ad.Ai|apply AO.ret|apply AL.ret|apply Aw.ret|apply Af.nil|apply Af.one|(apply Aa.fn;rfl;rfl;exact hst;intro _;rfl)|(apply Aa.assign;rfl)|(apply Aa.move;rfl)|(apply Aa.int;rfl;rfl;rfl)|(apply Aa.AV;rfl;rfl;rfl;omega;rfl)|(apply Aa.load;rfl;rfl)|(apply Aa.AQ;rfl;rfl;rfl)|(apply Aa.alloc;rfl)|(apply Aa.Bj;rfl;rfl;rfl;trivial;rfl;rfl;exact Aj rfl;exact le_dec rfl)|(apply Aa.build;rfl;rfl;rfl;rfl;rfl)|(apply Ad.Ae;rfl)|(intro _;try (exfalso;omega)))
  all_goals first|(exfalso;omega)|contradiction|(refine Done.ret rfl (.refl _) (by exact PV.Ac rfl) Ah.nil (Nat.zero_le _) (Nat.le_refl _) ⟨?_,rfl,rfl⟩;try rfl)
 rw [h1] at hst ⊢
 rw [if_neg (by decide)]
 by_cases h2:(gi d.stops k).name∈(d.stops.take k).map Stp.name
 ·rw [if_pos h2]
  repeat' (first|apply Ad.assoc|apply Ad.AA|apply Ad.Au|apply Ad.BL|apply Ad.Ai|apply AO.ret|(apply Bl.ret;rfl)|apply AL.ret|apply Aw.ret|apply Ad.ret|apply Af.nil|apply Af.one|(apply Aa.fn;rfl;rfl;exact hst;intro _;rfl)|(apply Qq;rfl;rfl;rfl;exact le_dec rfl)|(apply Aa.Iy;rfl;rfl;rfl;rfl;rfl;rfl)|(apply Aa.assign;rfl)|(apply Aa.move;rfl)|(apply Aa.int;rfl;rfl;rfl)|(apply Aa.AV;rfl;rfl;rfl;omega;rfl)|(apply Aa.load;rfl;rfl)|(apply Aa.AQ;rfl;rfl;rfl)|(apply Aa.alloc;rfl)|(apply Aa.Bj;rfl;rfl;rfl;trivial;rfl;rfl;exact Aj rfl;exact le_dec rfl)|(apply Aa.build;rfl;rfl;rfl;rfl;rfl)|(apply Ad.Az;rfl)|(apply Ad.Ae;rfl)|(apply Ad.cond_true;rfl)|(intro _;try (exfalso;omega)))
  all_goals first|(exfalso;omega)|contradiction|(refine Done.ret rfl (.refl _) (by exact PV.Ac rfl) Ah.nil (Nat.zero_le _) (Nat.le_refl _) ⟨?_,rfl,rfl⟩;try rfl)
 ·rw [if_neg h2]
  repeat' (first|apply Ad.assoc|apply Ad.AA|apply Ad.region|apply Ad.Au|apply Ad.BL|apply Ad.Ai|apply AO.normal|apply AO.ret|(apply Bl.ret;rfl)|apply AL.normal|apply AL.ret|apply Aw.ret|apply Ad.ret|apply Ad.skip|apply Af.nil|apply Af.one|(apply Aa.fn;rfl;rfl;exact hst;intro _;rfl)|(apply Qq;rfl;rfl;rfl;exact le_dec rfl)|(apply Aa.Iy;rfl;rfl;rfl;rfl;rfl;rfl)|(apply Aa.ak;rfl;rfl;rfl;rfl;rfl;rfl;exact h2)|(apply Aa.assign;rfl)|(apply Aa.move;rfl)|(apply Aa.Bq;rfl;rfl;omega)|(apply Aa.int;rfl;rfl;rfl)|(apply Aa.AV;rfl;rfl;rfl;omega;rfl)|(apply Aa.load;rfl;rfl)|(apply Aa.AQ;rfl;rfl;rfl)|(apply Aa.alloc;rfl)|(apply Aa.Bj;rfl;rfl;rfl;trivial;rfl;rfl;exact Aj rfl;exact le_dec rfl)|(apply Aa.build;rfl;rfl;rfl;rfl;rfl)|(apply Ad.Az;rfl)|(apply Ad.Ae;rfl)|(apply Ad.cond_true;rfl)|(apply Ad.cond_false;rfl)|(intro _;try (exfalso;omega)))
  all_goals try (exfalso;omega)
  all_goals try contradiction
  refine Aw.normal ⟨k+1,⟨by omega,?_⟩,by omega,⟨by omega,?_,?_⟩⟩
  ·first|rfl|(refine Eq.trans ?_ hE;symm;(conv=>lhs;rw [MW]);rw [if_pos hkl,if_neg (fun h=>h h1),if_neg h2])
  ·repeat (first|exact Ak.nil|refine Ak.same (by exact PV.Ac rfl) rfl ?_|refine Ak.cons trivial rfl (.of_eq (Aq (by simp<;>omega))) ?_)
  ·rw [Qe Stp.name hkl];repeat (first|exact Ah.nil|(refine Ah.cons (Aj rfl) ?_ rfl ?_ ?_;(first|exact trivial|exact AP.Ag _ _|(simp [HB.under,AP.under,PV.under]));(first|exact Bg.refl _|exact Bg.vec (Bf.refl _) (by simp))))
theorem Oa (o:EN) (ho:Pg o):AY env 35 [.agg (Enc.enc o)] (.p (.int .i64 (KW o))):=by
 have hn:=Hq o.name (by have:=ho.name;omega)
 have b1:=ho.ranks
 have b2:=ho.Ap
 unfold KW
 refine AY.enter (AB (by decide)) Tryz.func35 rfl (by kernel_rfl) (by simp [Tryz.ntmps35]) ?_
 by_cases h0:C9 o.name
 case neg =>
  rw [if_pos h0]
  rw [decide_eq_false h0] at hn
  repeat' (first|apply Ad.AA|apply Ad.Ai|apply AO.ret|apply AL.ret|apply Ad.ret|apply Af.nil|apply Af.one|(apply Aa.fn;rfl;rfl;exact hn;intro _;rfl)|(apply Aa.assign;rfl)|(apply Aa.load;rfl;rfl)|(apply Aa.AQ;rfl;rfl;rfl)|(apply Aa.box;rfl;trivial)|(apply Aa.not;rfl)|(apply Ad.cond_true;rfl))
  all_goals first|(exfalso;omega)|contradiction|(refine Done.ret rfl (.refl _) (by exact PV.Ac rfl) Ah.nil (Nat.zero_le _) (Nat.le_refl _) ⟨?_,rfl,rfl⟩;try rfl)
 rw [if_neg (fun h=>h h0)]
 rw [decide_eq_true h0] at hn
 repeat' (first|apply Ad.assoc|apply Ad.AA|apply Ad.Ai|apply AO.normal|apply AO.ret|apply AL.normal|apply AL.ret|apply Ad.ret|apply Ad.skip|apply Af.nil|apply Af.one|(apply Aa.fn;rfl;rfl;exact hn;intro _;rfl)|(apply Aa.makeMap)|(apply Aa.assign;rfl)|(apply Aa.move;rfl)|(apply Aa.int;rfl;rfl;rfl)|(apply Aa.load;rfl;rfl)|(apply Aa.BH;rfl;rfl)|(apply Aa.AQ;rfl;rfl;rfl)|(apply Aa.box;rfl;trivial)|(apply Aa.not;rfl)|(apply Ad.cond_false;rfl)|(apply Ad.AZ;rfl)|(intro _;try (exfalso;omega)))
 all_goals try contradiction
 ·rw [if_pos (by omega)];(refine Done.ret rfl (.refl _) (by exact PV.Ac rfl) Ah.nil (Nat.zero_le _) (Nat.le_refl _) ⟨?_,rfl,rfl⟩;try rfl)
 rw [if_neg (by omega)]
 refine Ad.D8 (fun k:Nat=>[(1,.ref 0 0),(3,.mref 1),(25,lst 131 o.ranks),(26,.p (.int .i64 (o.ranks.length:Int))),(27,.p (.int .i64 (k:Int)))]) (fun k=>[(1,.map (Yc ((o.ranks.take k).map FQ.name))),(0,.box 37 ((Enc.enc o).map .p))]) 2 (fun k=>k≤o.ranks.length∧N7 o.ranks k=N7 o.ranks 0) (fun k=>o.ranks.length-k) 0 (by omega) ⟨by omega,rfl⟩ ⟨by omega,?_,?_⟩ ?_
 ·repeat (first|exact Ak.nil|refine Ak.same (by exact PV.Ac rfl) rfl ?_|refine Ak.cons trivial rfl (.of_eq (Aq (by simp<;>omega))) ?_)
 ·repeat (first|exact Ah.nil|(refine Ah.cons (Aj rfl) ?_ rfl ?_ ?_;(first|exact trivial|exact AP.Ag _ _|(simp [HB.under,AP.under,PV.under]));(first|exact Bg.refl _|exact Bg.vec (Bf.refl _) (by simp))))
 rintro k ⟨hk,hE⟩
 by_cases hkl:k<o.ranks.length
 ·have hsm:=(ho.rk k hkl).len
  have hc:=TU (gi o.ranks k) hsm.1 hsm.2.1 hsm.2.2
  by_cases h1:DR (gi o.ranks k)=0
  case neg =>
   have e:N7 o.ranks 0=DR (gi o.ranks k):=by rw [← hE,N7,if_pos hkl,if_pos h1]
   rw [e,if_pos h1]
   repeat' (first|apply Ad.assoc|apply Ad.AA|apply Ad.Au|apply Ad.BL|apply Ad.Ai|apply AO.ret|apply AL.ret|apply Aw.ret|apply Af.nil|apply Af.one|(apply Aa.fn;rfl;rfl;exact hc;intro _;rfl)|(apply Aa.assign;rfl)|(apply Aa.move;rfl)|(apply Aa.int;rfl;rfl;rfl)|(apply Aa.AV;rfl;rfl;rfl;omega;rfl)|(apply Aa.load;rfl;rfl)|(apply Aa.alloc;rfl)|(apply Aa.Bj;rfl;rfl;rfl;trivial;rfl;rfl;exact Aj rfl;exact le_dec rfl)|(apply Ad.Ae;rfl)|(intro _;try (exfalso;omega)))
   all_goals first|(exfalso;omega)|contradiction|(refine Done.ret rfl (.refl _) (by exact PV.Ac rfl) Ah.nil (Nat.zero_le _) (Nat.le_refl _) ⟨?_,rfl,rfl⟩;try rfl)
  rw [h1] at hc
  by_cases h2:(gi o.ranks k).name∈(o.ranks.take k).map FQ.name
  ·have e:N7 o.ranks 0=9:=by rw [← hE,N7,if_pos hkl,if_neg (fun h=>h h1),if_pos h2]
   rw [e,if_pos (by decide)]
   repeat' (first|apply Ad.assoc|apply Ad.AA|apply Ad.Au|apply Ad.BL|apply Ad.Ai|apply AO.ret|(apply Bl.ret;rfl)|apply AL.ret|apply Aw.ret|apply Ad.ret|apply Af.nil|apply Af.one|(apply Aa.fn;rfl;rfl;exact hc;intro _;rfl)|(apply Qq;rfl;rfl;rfl;exact le_dec rfl)|(apply Aa.Iy;rfl;rfl;rfl;rfl;rfl;rfl)|(apply Aa.assign;rfl)|(apply Aa.move;rfl)|(apply Aa.int;rfl;rfl;rfl)|(apply Aa.AV;rfl;rfl;rfl;omega;rfl)|(apply Aa.load;rfl;rfl)|(apply Aa.AQ;rfl;rfl;rfl)|(apply Aa.alloc;rfl)|(apply Aa.Bj;rfl;rfl;rfl;trivial;rfl;rfl;exact Aj rfl;exact le_dec rfl)|(apply Ad.Az;rfl)|(apply Ad.Ae;rfl)|(apply Ad.cond_true;rfl)|(intro _;try (exfalso;omega)))
   all_goals first|(exfalso;omega)|contradiction|(refine Done.ret rfl (.refl _) (by exact PV.Ac rfl) Ah.nil (Nat.zero_le _) (Nat.le_refl _) ⟨?_,rfl,rfl⟩;try rfl)
  ·repeat' (first|apply Ad.assoc|apply Ad.AA|apply Ad.region|apply Ad.Au|apply Ad.BL|apply Ad.Ai|apply AO.normal|apply AO.ret|(apply Bl.ret;rfl)|apply AL.normal|apply AL.ret|apply Aw.ret|apply Ad.ret|apply Ad.skip|apply Af.nil|apply Af.one|(apply Aa.fn;rfl;rfl;exact hc;intro _;rfl)|(apply Qq;rfl;rfl;rfl;exact le_dec rfl)|(apply Aa.Iy;rfl;rfl;rfl;rfl;rfl;rfl)|(apply Aa.ak;rfl;rfl;rfl;rfl;rfl;rfl;exact h2)|(apply Aa.assign;rfl)|(apply Aa.move;rfl)|(apply Aa.Bq;rfl;rfl;omega)|(apply Aa.int;rfl;rfl;rfl)|(apply Aa.AV;rfl;rfl;rfl;omega;rfl)|(apply Aa.load;rfl;rfl)|(apply Aa.AQ;rfl;rfl;rfl)|(apply Aa.alloc;rfl)|(apply Aa.Bj;rfl;rfl;rfl;trivial;rfl;rfl;exact Aj rfl;exact le_dec rfl)|(apply Ad.Az;rfl)|(apply Ad.Ae;rfl)|(apply Ad.cond_true;rfl)|(apply Ad.cond_false;rfl)|(intro _;try (exfalso;omega)))
   all_goals try (exfalso;omega)
   all_goals try contradiction
   refine Aw.normal ⟨k+1,⟨by omega,?_⟩,by omega,⟨by omega,?_,?_⟩⟩
   ·first|rfl|(refine Eq.trans ?_ hE;symm;(conv=>lhs;rw [N7]);rw [if_pos hkl,if_neg (fun h=>h h1),if_neg h2])
   ·repeat (first|exact Ak.nil|refine Ak.same (by exact PV.Ac rfl) rfl ?_|refine Ak.cons trivial rfl (.of_eq (Aq (by simp<;>omega))) ?_)
   ·rw [Qe FQ.name hkl];repeat (first|exact Ah.nil|(refine Ah.cons (Aj rfl) ?_ rfl ?_ ?_;(first|exact trivial|exact AP.Ag _ _|(simp [HB.under,AP.under,PV.under]));(first|exact Bg.refl _|exact Bg.vec (Bf.refl _) (by simp))))
 obtain rfl:k=o.ranks.length:=by omega
 have e:N7 o.ranks 0=0:=by rw [← hE,N7,if_neg (by omega)]
 rw [if_neg (fun h=>h e)]
 repeat' (first|apply Ad.assoc|apply Ad.AA|apply Ad.AX|apply Ad.Ai|apply AO.normal|apply AO.ret|apply AL.normal|apply AL.ret|apply AL.exit|apply Aw.exit|apply Ad.ret|apply Ad.skip|apply Af.nil|apply Af.one|(apply Aa.makeMap)|(apply Aa.assign;rfl)|(apply Aa.move;rfl)|(apply Aa.int;rfl;rfl;rfl)|(apply Aa.load;rfl;rfl)|(apply Aa.BH;rfl;rfl)|(apply Aa.AQ;rfl;rfl;rfl)|(apply Ad.Ae;rfl)|(apply Ad.AZ;rfl)|(intro _;try (exfalso;omega)))
 all_goals try (exfalso;omega)
 ·rw [if_pos (by omega)];(refine Done.ret rfl (.refl _) (by exact PV.Ac rfl) Ah.nil (Nat.zero_le _) (Nat.le_refl _) ⟨?_,rfl,rfl⟩;try rfl)
 ·rw [if_neg (by omega),if_pos (by omega)];(refine Done.ret rfl (.refl _) (by exact PV.Ac rfl) Ah.nil (Nat.zero_le _) (Nat.le_refl _) ⟨?_,rfl,rfl⟩;try rfl)
 rw [if_neg (by omega),if_neg (by omega)]
 refine Ad.ghost (A8.adopt 8 94 rfl) ?_
 refine Ad.D8 (fun k:Nat=>[(1,.ref 0 0),(3,.mref 2),(8,.vec 3 ((o.Ap.take k).map fun d=>(⟨d.lo,d.hi⟩:aQ)).length 0 ((o.Ap.take k).map fun d=>(⟨d.lo,d.hi⟩:aQ)).length),(56,lst 97 o.Ap),(57,.p (.int .i64 (o.Ap.length:Int))),(58,.p (.int .i64 (k:Int)))]) (fun k=>[(3,.vec 94 (cells ((o.Ap.take k).map fun d=>(⟨d.lo,d.hi⟩:aQ))) ((o.Ap.take k).map fun d=>(⟨d.lo,d.hi⟩:aQ)).length true),(2,.map (Yc ((o.Ap.take k).map VB.name))),(0,.box 37 ((Enc.enc o).map .p))]) 4 (fun k=>k≤o.Ap.length∧FD o.ranks o.Ap k=FD o.ranks o.Ap 0) (fun k=>o.Ap.length-k) 0 (by omega) ⟨by omega,rfl⟩ ⟨by omega,?_,?_⟩ ?_
 ·repeat (first|exact Ak.nil|refine Ak.same (by exact PV.Ac rfl) rfl ?_|refine Ak.cons trivial rfl (.of_eq (Aq (by simp<;>omega))) ?_)
 ·repeat (first|exact Ah.nil|(refine Ah.cons (Aj rfl) ?_ rfl ?_ ?_;(first|exact trivial|exact AP.Ag _ _|(simp [HB.under,AP.under,PV.under]));(first|exact Bg.refl _|exact Bg.vec (Bf.refl _) (by simp))))
 rintro k ⟨hk,hE⟩
 have hlen:((o.Ap.take k).map fun d=>(⟨d.lo,d.hi⟩:aQ)).length=k:=by rw [List.length_map,List.length_take];omega
 by_cases hkl:k<o.Ap.length
 ·have hds:=ho.dv k hkl
  have hdn:=Hq (gi o.Ap k).name (by have:=hds.name;omega)
  have hdv:=Yf o (gi o.Ap k) ho hds
  by_cases h1:C9 (gi o.Ap k).name
  case neg =>
   have e2:FD o.ranks o.Ap 0=8:=by rw [← hE,FD,if_pos hkl,if_pos h1]
   rw [e2,if_pos (by decide)]
   rw [decide_eq_false h1] at hdn
   repeat' (first|apply Ad.assoc|apply Ad.AA|apply Ad.Au|apply Ad.BL|apply Ad.Ai|apply AO.ret|apply AL.ret|apply Aw.ret|apply Af.nil|apply Af.one|(apply Aa.fn;rfl;rfl;exact hdn;intro _;rfl)|(apply Aa.assign;rfl)|(apply Aa.int;rfl;rfl;rfl)|(apply Aa.AV;rfl;rfl;rfl;omega;rfl)|(apply Aa.load;rfl;rfl)|(apply Aa.AQ;rfl;rfl;rfl)|(apply Aa.alloc;rfl)|(apply Aa.Bj;rfl;rfl;rfl;trivial;rfl;rfl;exact Aj rfl;exact le_dec rfl)|(apply Aa.not;rfl)|(apply Ad.Bh;rfl)|(apply Ad.Ae;rfl)|(intro _;try (exfalso;omega)))
   all_goals first|(exfalso;omega)|contradiction|(refine Done.ret rfl (.refl _) (by exact PV.Ac rfl) Ah.nil (Nat.zero_le _) (Nat.le_refl _) ⟨?_,rfl,rfl⟩;try rfl)
  rw [decide_eq_true h1] at hdn
  by_cases h2:(gi o.Ap k).name∈(o.Ap.take k).map VB.name
  ·have e2:FD o.ranks o.Ap 0=9:=by rw [← hE,FD,if_pos hkl,if_neg (fun h=>h h1),if_pos h2]
   rw [e2,if_pos (by decide)]
   repeat' (first|apply Ad.assoc|apply Ad.AA|apply Ad.Au|apply Ad.BL|apply Ad.Ai|apply AO.ret|(apply Bl.ret;rfl)|apply AL.ret|apply Aw.ret|apply Af.nil|apply Af.one|(apply Aa.fn;rfl;rfl;exact hdn;intro _;rfl)|(apply Qq;rfl;rfl;rfl;exact le_dec rfl)|(apply Aa.Iy;rfl;rfl;rfl;rfl;rfl;rfl)|(apply Aa.assign;rfl)|(apply Aa.move;rfl)|(apply Aa.int;rfl;rfl;rfl)|(apply Aa.AV;rfl;rfl;rfl;omega;rfl)|(apply Aa.load;rfl;rfl)|(apply Aa.AQ;rfl;rfl;rfl)|(apply Aa.alloc;rfl)|(apply Aa.Bj;rfl;rfl;rfl;trivial;rfl;rfl;exact Aj rfl;exact le_dec rfl)|(apply Aa.not;rfl)|(apply Ad.Bh;rfl)|(apply Ad.Az;rfl)|(apply Ad.Ae;rfl)|(intro _;try (exfalso;omega)))
   all_goals first|(exfalso;omega)|contradiction|(refine Done.ret rfl (.refl _) (by exact PV.Ac rfl) Ah.nil (Nat.zero_le _) (Nat.le_refl _) ⟨?_,rfl,rfl⟩;try rfl)
  by_cases h3:Jd o.ranks (gi o.Ap k)=0
  case neg =>
   have e2:FD o.ranks o.Ap 0=Jd o.ranks (gi o.Ap k):=by rw [← hE,FD,if_pos hkl,if_neg (fun h=>h h1),if_neg h2,if_pos h3]
   rw [e2,if_pos h3]
   repeat' (first|apply Ad.assoc|apply Ad.AA|apply Ad.Au|apply Ad.BL|apply Ad.Ai|apply AO.ret|(apply Bl.ret;rfl)|apply AL.ret|apply Aw.ret|apply Ad.ret|apply Af.nil|apply Af.one|(apply Aa.fn;rfl;rfl;exact hdn;intro _;rfl)|(apply Aa.fn;rfl;rfl;exact hdv;intro _;rfl)|(apply Qq;rfl;rfl;rfl;exact le_dec rfl)|(apply Aa.Iy;rfl;rfl;rfl;rfl;rfl;rfl)|(apply Aa.ak;rfl;rfl;rfl;rfl;rfl;rfl;exact h2)|(apply Aa.assign;rfl)|(apply Aa.move;rfl)|(apply Aa.int;rfl;rfl;rfl)|(apply Aa.AV;rfl;rfl;rfl;omega;rfl)|(apply Aa.load;rfl;rfl)|(apply Aa.AQ;rfl;rfl;rfl)|(apply Aa.alloc;rfl)|(apply Aa.Bj;rfl;rfl;rfl;trivial;rfl;rfl;exact Aj rfl;exact le_dec rfl)|(apply Aa.not;rfl)|(apply Ad.Bh;rfl)|(apply Ad.Az;rfl)|(apply Ad.Ae;rfl)|(intro _;try (exfalso;omega)))
   all_goals first|(exfalso;omega)|contradiction|(refine Done.ret rfl (.refl _) (by exact PV.Ac rfl) Ah.nil (Nat.zero_le _) (Nat.le_refl _) ⟨?_,rfl,rfl⟩;try rfl)
  rw [h3] at hdv
  have e5:((o.Ap.take (k+1)).map fun d=>(⟨d.lo,d.hi⟩:aQ))=((o.Ap.take k).map fun d=>(⟨d.lo,d.hi⟩:aQ))++[⟨(gi o.Ap k).lo,(gi o.Ap k).hi⟩]:=by rw [DF hkl,List.map_append];rfl
  have e6:((o.Ap.take (k+1)).map fun d=>(⟨d.lo,d.hi⟩:aQ)).length=((o.Ap.take k).map fun d=>(⟨d.lo,d.hi⟩:aQ)).length+1:=by rw [e5,List.length_append];rfl
  repeat' (first|apply Ad.assoc|apply Ad.AA|apply Ad.region|apply Ad.Au|apply Ad.BL|apply Ad.Ai|apply AO.normal|apply AO.ret|(apply Bl.ret;rfl)|apply AL.normal|apply AL.ret|apply Aw.ret|apply Ad.ret|apply Af.nil|apply Af.one|(apply Aa.fn;rfl;rfl;exact hdn;intro _;rfl)|(apply Aa.fn;rfl;rfl;exact hdv;intro _;rfl)|(apply Aa.Dv (a:=(⟨(gi o.Ap k).lo,(gi o.Ap k).hi⟩:aQ));rfl;rfl;rfl;rfl;rfl;rfl;rfl;rfl;(intro _ h;cases h);rfl;rfl;rfl;decide;decide;(first|omega|(simp only [List.length_take,List.length_drop,List.length_append,List.length_singleton,List.length_cons,List.length_nil]<;>omega)))|(apply Qq;rfl;rfl;rfl;exact le_dec rfl)|(apply Aa.Iy;rfl;rfl;rfl;rfl;rfl;rfl)|(apply Aa.ak;rfl;rfl;rfl;rfl;rfl;rfl;exact h2)|(apply Aa.assign;rfl)|(apply Aa.move;rfl)|(apply Aa.Bq;rfl;rfl;omega)|(apply Aa.int;rfl;rfl;rfl)|(apply Aa.AV;rfl;rfl;rfl;omega;rfl)|(apply Aa.load;rfl;rfl)|(apply Aa.AQ;rfl;rfl;rfl)|(apply Aa.alloc;rfl)|(apply Aa.Bj;rfl;rfl;rfl;trivial;rfl;rfl;exact Aj rfl;exact le_dec rfl)|(apply Aa.buildSlice;rfl;rfl;rfl;decide;rfl;rfl;rfl)|(apply Aa.not;rfl)|(apply Ad.Bh;rfl)|(apply Ad.Az;rfl)|(apply Ad.Ae;rfl)|(intro _;try (exfalso;omega)))
  all_goals try (exfalso;omega)
  all_goals try contradiction
  refine Aw.normal ⟨k+1,⟨by omega,?_⟩,by omega,⟨by omega,?_,?_⟩⟩
  ·first|rfl|(refine Eq.trans ?_ hE;symm;(conv=>lhs;rw [FD]);rw [if_pos hkl,if_neg (fun h=>h h1),if_neg h2,if_neg (fun h=>h h3)])
  ·rw [e6];repeat (first|exact Ak.nil|refine Ak.same (by exact PV.Ac rfl) rfl ?_|refine Ak.cons trivial rfl (.of_eq (Aq (by simp<;>omega))) ?_)
  ·rw [e6,e5,Qe VB.name hkl];repeat (first|exact Ah.nil|(refine Ah.cons (Aj rfl) ?_ rfl ?_ ?_;(first|exact trivial|exact AP.Ag _ _|(simp [HB.under,AP.under,PV.under]));(first|exact Bg.refl _|exact Bg.vec (Bf.refl _) (by simp))))
 obtain rfl:k=o.Ap.length:=by omega
 have e2:FD o.ranks o.Ap 0=0:=by rw [← hE,FD,if_neg (by omega)]
 rw [if_neg (fun h=>h e2)]
 have et:o.Ap.take o.Ap.length=o.Ap:=List.take_of_length_le (Nat.le_refl _)
 have hcp:=ay (o.Ap.map fun d=>(⟨d.lo,d.hi⟩:aQ)) o.BF (by rw [List.length_map];exact b2) ho.BF ho.cp
 rw [et]
 repeat' (first|(refine Ad.at 35 ?_;refine Ad.ghost (A8.freeze 8 rfl rfl) ?_;first|apply Ad.AA|apply Ad.BI)|apply Ad.AA|apply Ad.AX|apply AO.normal|apply AL.exit|apply Aw.exit|apply Ad.ret|apply Af.nil|apply Af.one|(apply Aa.fn;rfl;rfl;exact hcp;intro _;rfl)|(apply Aa.assign;rfl)|(apply Aa.move;rfl)|(apply Aa.int;rfl;rfl;rfl)|(apply Aa.load;rfl;rfl)|(apply Aa.AQ;rfl;rfl;rfl)|(apply Ad.Ae;rfl)|(intro _;try (exfalso;omega)))
 all_goals first|(exfalso;omega)|(refine Done.ret rfl (.refl _) (by exact PV.Ac rfl) Ah.nil (Nat.zero_le _) (Nat.le_refl _) ⟨?_,rfl,rfl⟩;try rfl)
end Go.Proofs.YtdabojnmoejilaaGreatDoor
namespace Go.Proofs.YtdabojnmoejilaaGreatDoor
open Go Go.Am Go.Vm
attribute [local irreducible] Aa Af Ar Ad BA AY CG AO AL Aw Vm.Done CW Bl
structure Rgs where
 stops:List Nat
 cp:Nat
 off:Nat
instance:Enc Rgs:={ default:=⟨[],0,0⟩,enc:=fun x=>[.lst 39 (cells x.stops) x.stops.length,.int .u64 (x.cp:Int),.int .u64 (x.off:Int)],size:=3,len:=fun _=>rfl }
structure Rgs.Ok (r:Rgs):Prop where
 stops:∀ i,i<r.stops.length→gi r.stops i<18446744073709551616
 cp:r.cp<18446744073709551616
 off:r.off<18446744073709551616
 len:r.stops.length<9223372036854775808
def xE (b:Nat→Nat):List FV:=[.int .u8 (b 0:Int),.int .u8 (b 1:Int),.int .u8 (b 2:Int),.int .u8 (b 3:Int),.int .u8 (b 4:Int)]
def Gn (o:EN) (b:Nat→Nat) (k:Nat):Nat:=b (k % 3) &&& (2 ^ (gi o.Ap k).stops.length-1)
def Tv (o:EN) (b:Nat→Nat):Rgs:=⟨GI (Gn o b) o.Ap.length,b 3 &&& (2 ^ o.BF.length-1),b 4 &&& (2 ^ o.Ap.length-1)⟩
theorem a4t {n:Nat} (h:n≤3):2 ^ n≤8:=Nat.pow_le_pow_right (by omega) h
theorem uQ (b:Nat→Nat) (k:Nat):((xE b).map PV.p)[0+((k:Int) % 3).toNat*1]?=some (.p (.int .u8 ((b (k % 3):Nat):Int))):=by
 have e0:((k:Int) % 3).toNat=k % 3:=by omega
 rw [e0]
 have:k % 3<3:=Nat.mod_lt _ (by decide)
 generalize k % 3=n at this
 match n,this with
 |0,_=>rfl
 |1,_=>rfl
 |2,_=>rfl
theorem iY (o:EN) (ho:TP o) (b:Nat→Nat) (hb:∀ i,b i<256):AY env 42 [.agg (Enc.enc o),.agg (xE b)] (.p (.agg (Enc.enc (Tv o b)))):=by
 have r2:=ho.Ap
 have r3:=ho.BF
 have b3:=hb 3
 have b4:=hb 4
 have p3:=a4t r3
 have p4:=a4t r2.2
 refine AY.enter (AB (by decide)) Tryz.func42 rfl (by kernel_rfl) (by simp [Tryz.ntmps42]) ?_
 repeat' (first|apply Ad.assoc|apply Ad.AA|apply Ad.Ai|apply Af.nil|apply Af.one|(apply Aa.a1u;rfl;rfl;omega)|(apply Aa.Vw;rfl;rfl;rfl;rfl;rfl;decide)|(apply Aa.assign;rfl)|(apply Aa.a5v;rfl;rfl;omega;omega)|(apply Aa.load;rfl;rfl)|(apply Aa.BH;rfl;rfl)|(apply Aa.AQ;rfl;rfl;rfl)|(apply Aa.box;rfl;trivial)|(apply Aa.alloc;rfl)|(apply Aa.Bj;rfl;rfl;rfl;trivial;rfl;rfl;exact Aj rfl;exact le_dec rfl)|(apply Aa.build;rfl;rfl;rfl;rfl;rfl)|(apply Aa.LK;rfl;rfl;rfl;rfl;omega)|(apply Aa.KC;rfl;rfl;omega))
 refine Ad.ghost (A8.EC 3 0 39 rfl rfl) ?_
 apply Ad.Ed (o.Ap.length) [(2,_),(3,_),(4,_),(5,_)] [(0,_),(1,_),(2,_)] (fun k r=>(6,.p (.int .i64 (k:Int)))::r) (fun k r=>(4,.vec 39 (cells (GI (Gn o b) k)) (GI (Gn o b) k).length true)::(3,.box 41 [.vec 4 (GI (Gn o b) k).length 0 (GI (Gn o b) k).length,.p (.int .u64 ((b 3 &&& (2 ^ o.BF.length-1):Nat):Int)),.p (.int .u64 ((b 4 &&& (2 ^ o.Ap.length-1):Nat):Int))])::r) 5
 ·first|omega|decide
 ·first|omega|decide
 ·repeat (first|exact Ak.nil|(refine Ak.eq rfl ?_ ?_;(first|exact PV.Ac rfl|(simp [PV.under,AP.under];done)))|refine Ak.cons trivial rfl (.of_eq (Aq (by simp<;>omega))) ?_)
 ·repeat (first|exact Ah.nil|(refine Ah.eq rfl (Aj rfl) ?_ ?_;(first|exact HB.Ac rfl|exact AP.Ag _ _|(simp [HB.under,AP.under,PV.under];done)))|(refine Ah.cons (Aj rfl) ?_ rfl ?_ ?_;(first|exact trivial|exact AP.Ag _ _|(simp [HB.under,AP.under,PV.under]));(first|exact Bg.refl _|exact Bg.vec (Bf.refl _) (by simp))))
 ·intro k hk
  have hl:=Jy (Gn o b) k
  have e1:GI (Gn o b) (k+1)=GI (Gn o b) k++[Gn o b k]:=rfl
  have e2:(GI (Gn o b) (k+1)).length=(GI (Gn o b) k).length+1:=by rw [e1];simp
  have s3:=ho.stops k hk
  have p1:=a4t s3
  have hbk:=hb (k % 3)
  have hr:=uQ b k
  repeat' (first|apply Ad.assoc|apply Ad.AA|apply Ad.region|apply Ad.Et|apply Ad.Au|apply Ad.Ai|apply AO.normal|apply AL.normal|apply Af.nil|apply Ar.nil|apply Af.one|(apply Ar.bar;decide +kernel)|apply Ar.quiet|(apply Aa.a1u;rfl;rfl;omega)|(apply Aa.xP;rfl;rfl;rfl;exact hr)|(apply Aa.Vw;rfl;rfl;rfl;rfl;rfl;omega)|(apply Aa.Dv (a:=Gn o b k);rfl;rfl;rfl;rfl;rfl;rfl;rfl;rfl;(intro _ h;cases h);rfl;rfl;rfl;decide;decide;(first|omega|(simp only [List.length_take,List.length_drop,List.length_append,List.length_singleton,List.length_cons,List.length_nil]<;>omega)))|(apply Aa.assign;rfl)|(apply Aa.move;rfl)|(apply Aa.Bq;rfl;rfl;omega)|(apply Aa.a5v;rfl;rfl;omega;omega)|(apply Aa.OW;rfl;rfl;omega;omega)|(apply Aa.int;rfl;rfl;rfl)|(apply Aa.AV;rfl;rfl;rfl;omega;rfl)|(apply Aa.load;rfl;rfl)|(apply Aa.BH;rfl;rfl)|(apply Aa.AQ;rfl;rfl;rfl)|(apply Aa.DW;rfl;rfl)|(apply Aa.Bj;rfl;rfl;rfl;trivial;rfl;rfl;exact Aj rfl;exact le_dec rfl)|(apply Aa.buildSlice;rfl;rfl;rfl;decide;rfl;rfl;rfl)|(apply Aa.LK;rfl;rfl;rfl;rfl;omega)|(apply Aa.KC;rfl;rfl;omega)|(apply Ad.Ae;rfl)|(intro _;try (exfalso;omega)))
  all_goals try (exfalso;omega)
  refine Aw.normal ⟨by first|omega|decide,?_,?_⟩
  ·try (rw [e2,e1])
   repeat (first|exact Ak.nil|refine Ak.same (by exact PV.Ac rfl) rfl ?_|refine Ak.cons trivial rfl (.of_eq (Aq (by simp<;>omega))) ?_)
  ·rw [e2,e1]
   repeat (first|exact Ah.nil|(refine Ah.cons (Aj rfl) ?_ rfl ?_ ?_;(first|exact HB.Ac rfl|exact AP.Ag _ _|(simp [HB.under,AP.under,PV.under]));(first|exact Bg.refl _|exact Bg.vec (Bf.refl _) (by simp))))
 ·have hl:=Jy (Gn o b) o.Ap.length
  repeat' (first|(refine Ad.at 6 ?_;refine Ad.ghost (A8.Dc 3 0 rfl rfl rfl) ?_;first|apply Ad.AA|apply Ad.BI)|apply Ad.assoc|apply Ad.AA|apply Ad.AX|apply AO.normal|apply AL.exit|apply Aw.exit|apply Ad.ret|apply Af.nil|apply Af.one|(apply Aa.move;rfl)|(apply Aa.int;rfl;rfl;rfl)|(apply Aa.load;rfl;rfl)|(apply Aa.BH;rfl;rfl)|(apply Aa.AQ;rfl;rfl;rfl)|(apply Aa.Bj;rfl;rfl;rfl;trivial;rfl;rfl;exact Aj rfl;exact le_dec rfl)|(apply Ad.Ae;rfl)|(intro _;try (exfalso;omega)))
  all_goals first|(exfalso;omega)|(refine Done.ret rfl (.refl _) (by exact PV.Ac rfl) Ah.nil (Nat.zero_le _) (Nat.le_refl _) ⟨?_,rfl,rfl⟩;try rfl)
noncomputable def Qw (o:EN) (r:Rgs):Int :=
 open Classical in
 if r.stops.length≠o.Ap.length then 5
 else if ∃ i,i<r.stops.length∧gi r.stops i / 2 ^ (gi o.Ap i).stops.length≠0 then 3
 else if r.cp / 2 ^ o.BF.length≠0∨r.off / 2 ^ o.Ap.length≠0 then 3 else 0
theorem iC {o:EN} {r:Rgs} (h:r.stops.length≠o.Ap.length):Qw o r=5:=by unfold Qw;rw [if_pos h]
theorem yx {o:EN} {r:Rgs} (h:r.stops.length=o.Ap.length) {i:Nat} (hi:i<r.stops.length) (h2:gi r.stops i / 2 ^ (gi o.Ap i).stops.length≠0):Qw o r=3:=by
 unfold Qw;rw [if_neg (fun h'=>h' h),if_pos ⟨i,hi,h2⟩]
theorem Tj {o:EN} {r:Rgs} (h:r.stops.length=o.Ap.length) (h2:∀ i,i<r.stops.length→gi r.stops i / 2 ^ (gi o.Ap i).stops.length=0):Qw o r=if r.cp / 2 ^ o.BF.length≠0∨r.off / 2 ^ o.Ap.length≠0 then 3 else 0:=by
 unfold Qw;rw [if_neg (fun h'=>h' h),if_neg (fun ⟨i,hi,h3⟩=>h3 (h2 i hi))]
end Go.Proofs.YtdabojnmoejilaaGreatDoor
namespace Go.Vm
open Go.Am
section
variable {E:Env} {L:Vm.Frame} {H:Vm.Heap} {nx:Nat} {Q:PV→Vm.Heap→Nat→Prop} {w:Bool} {dst:Option Tmp} {ty:TypeId} {pos:String} {af:Array Edge} {gd:Option (Nat×Bool)}
theorem ZP {m:Mem} {F:Nat→Prop}:∀ {cs:List FV} {vs:List Value} {j:Nat} {c:FV},DT m F cs vs→cs[j]?=some c→∃ v,vs[j]?=some v∧RF m F c v
 |_,_,0,c,.cons h t,e=>by simp at e;subst e;exact ⟨_,rfl,h⟩
 |_,_,j+1,c,.cons h t,e=>by
  simp at e
  obtain ⟨v,h1,h2⟩:=ZP t e
  exact ⟨v,by simpa using h1,h2⟩
 |_,_,_,_,.nil,e=>by simp at e
theorem Aa.kR {t e:TypeId} {x ix:Operand} {n:Nat} {cs:List FV} {k:IntKind} {i:Int} {inf:TypeInfo} {c:FV} (hx:BD E.Γ L x=some (.p (.agg cs))) (hi:BD E.Γ L ix=some (.p (.int k i)))
 (ht:E.P.underlying t=some (.array n e)) (ha:F6 E.P e=some false) (hs:E.P.info? e=some inf) (h:0≤i∧i<n) (hc:cs[i.toNat*inf.size]?=some c) (q:Q (.p c) H nx) :
 Aa E w ⟨dst,.index t x ix,ty,pos,af,gd⟩ L H nx Q :=
 Aa.quiet q fun m F σ tt h1 h2=>by
  have hr:=Ci h1 h2 hx
  generalize hv:ev tt x=v at hr
  cases hr with
  |p hr =>
   cases hr with
   |agg hr hcc =>
    rename_i l
    obtain ⟨u,g1,g2⟩:=ZP hr hc
    refine ⟨u,fun _=>?_,.p g2⟩
    have hd:Ez E.P (Instr.index t (.agg l.toArray) (.int k i))=some u:=by
     unfold Instr.index
     simp only [Ba,BQ,ht]
     show (Ez E.P (asIntOf (.int k i))).bind _=_
     rw [show Ez E.P (asIntOf (.int k i))=some (k,i) from rfl]
     simp only [Option.bind_some,h,and_self,if_true,Ba,G9,hs,Option.map_some]
     unfold part
     simp only [Ba,OI,ha,Option.bind_some,Bool.false_eq_true,if_false,List.getElem?_toArray,g1]
     rfl
    simp only [CY,FC,hv,Dh h1 h2 hi,hd,Option.map_some]
    rw [show plain (Value.int k i)=true from rfl,if_pos rfl]
end
end Go.Vm
namespace Go.Vm
open Go.Am
open Go.Sort (putRow putCells mapBlock onCells Holds grow size_putRow size_grow)
section
variable {P:Program} {G:List Nat}
def iV (z:Int):Value:=.int .i64 z
def xH:List Value→Option (List Int)
 |[]=>some []
 | .int .i64 n::l=>(xH l).map (n::·)
 |_::_=>none
abbrev InF:=List Int→List Value→Option (List Int×Option Nat)
def a6q (e:TypeId) (Fn:InF) (Cm:List Value) (m:Mem):Option (Value×Mem):=match Cm with
 | .slice none 0 0::rest=>match Fn [] rest with
  |some ([],none)=>some (.tuple #[],m)
  |_=>none
 | .slice (some ⟨b,0,none⟩) n g::rest=>match m.get b with
  | .cells vs e' g' false =>
   if g=g'∧e=e'∧vs.length=n∧0<n∧rest.all Am.plainCell=true then
    match xH vs with
    |some zs=>match Fn zs rest with
     |some (zs',none)=>if zs'.length=n then some (.tuple #[],m.put b (.cells (zs'.map iV) e g' false)) else none
     |some (zs',some k)=>if zs'.length=n∧k≤n then some (.slice (some ⟨b,0,none⟩) k (g'+1),m.put b (.cells ((zs'.take k).map iV) e (g'+1) false)) else none
     |none=>none
    |none=>none
   else none
  |_=>none
 |_=>none
inductive vY (e:TypeId) (Fn:InF) (m:Mem):List Value→Value→Mem→Prop
 |nil {rest:List Value} (h:Fn [] rest=some ([],none)):vY e Fn m (.slice none 0 0::rest) (.tuple #[]) m
 |put {b n g:Nat} {rest:List Value} {zs zs':List Int} (hm:m.get b=.cells (zs.map iV) e g false) (hn:zs.length=n) (h0:0<n) (hr:rest.all Am.plainCell=true) (h:Fn zs rest=some (zs',none)) (hl:zs'.length=n) :
  vY e Fn m (.slice (some ⟨b,0,none⟩) n g::rest) (.tuple #[]) (m.put b (.cells (zs'.map iV) e g false))
 |cut {b n g k:Nat} {rest:List Value} {zs zs':List Int} (hm:m.get b=.cells (zs.map iV) e g false) (hn:zs.length=n) (h0:0<n) (hr:rest.all Am.plainCell=true) (h:Fn zs rest=some (zs',some k)) (hl:zs'.length=n) (hk:k≤n) :
  vY e Fn m (.slice (some ⟨b,0,none⟩) n g::rest) (.slice (some ⟨b,0,none⟩) k (g+1)) (m.put b (.cells ((zs'.take k).map iV) e (g+1) false))
open Classical in
noncomputable def inO (G:List Nat) (M0:Mem) (ff:FuncId) (e:TypeId) (Fn:InF) (O:CO):CO:=fun f=>if f=ff then some (fun Cm m=>if ∀ k∈G,m.get k=M0.get k then a6q e Fn Cm m else none) else O f
end
end Go.Vm
namespace Go.Vm
open Go.Am
section
variable {P:Program} {F0:Nat} {laid:List (String×DataW Unit)} {O O0:CO} {ff:FuncId} {Fn:InF} {L:Frame} {H:Heap} {nx:Nat} {Q:PV→Heap→Nat→Prop} {w:Bool}
variable {dst:Option Tmp} {ty:TypeId} {pos:String} {af:Array Edge} {gd:Option (Nat×Bool)}
theorem a0y {m:Mem} {F:Nat→Prop} {σ:Nat→Value} (h1:Ctx (Jo P F0 laid O).Γ m F σ H nx):∀ k∈BO P F0 laid,m.get k=(CX P F0 laid).get k:=fun k hk=>by
 obtain ⟨hlt,e,l,hgl⟩:=QH hk
 have:=(h1.gl k l e (by simp only [Jo,gam,if_pos hlt,hgl,Option.map_some])).2.1
 rw [this,IX hlt,hgl]
def b0d (E:Env) (g:FuncId) (ac:List PV) (Hc:Heap) (k:Nat) (e:TypeId) (cs:List FV) (n:Nat) (z:Bool):Prop:=BA E g ac Hc k fun r H' nx'=>r=.vec k n 0 n∧H'=(k,.vec e cs n z)::Hc∧nx'=k+1
end
end Go.Vm
namespace Go.Vm
open Go.Am
theorem nI {Γ:Nat→Option (List Value×TypeId)} {m:Mem} {F:Nat→Prop} {σ:Nat→Value} {H:Heap} {nx b:Nat} {y:HB} (h:Ctx Γ m F σ H nx) (hb:hget H b=some y) :
 Ctx Γ m (fun c=>F c∨Dq (σ b)=some c) σ (hdel H b) nx∧Step m F σ H nx m (fun c=>F c∨Dq (σ b)=some c) σ (hdel H b) nx:=by
 have hown:∀ c,Dq (σ b)=some c→own H σ c:=fun c hc=>⟨b,_,hb,hc⟩
 have hfz:∀ c,F c→(F c∨Dq (σ b)=some c)∧m.get c=m.get c:=fun c hc=>⟨.inl hc,rfl⟩
 have hN:Names nx (htag H) σ (htag (hdel H b)) σ:=fun d _=>by
  rw [TT]
  split
  ·exact ⟨trivial,fun _ _ _=>rfl⟩
  ·exact ⟨U5.refl _,fun _ _ _=>rfl⟩
 have hsub:∀ d x,hget (hdel H b) d=some x→d≠b∧hget H d=some x:=fun d x hd=>by
  rw [Js] at hd
  split at hd
  ·cases hd
  ·rename_i hne;exact ⟨Ne.symm hne,hd⟩
 refine ⟨⟨?_,?_,?_,?_⟩,⟨Nat.le_refl _,fun _ _ _=>rfl,fun _ h=>.inl h,fun c _ hc=>hc.imp id (hown c),?_,Nat.le_refl _,hN,fun _ h _ _=>h⟩⟩
 ·rintro c (hc|hc)
  ·exact h.fr c hc
  ·exact (h.KY (hown c hc)).2
 ·intro d x hd
  obtain ⟨hne,hd⟩:=hsub d x hd
  obtain ⟨h1,h2⟩:=h.hp d x hd
  refine ⟨h1,h2.mono hfz hN (Nat.le_refl _) (Nat.le_refl _) fun c hc=>⟨rfl,?_⟩⟩
  rintro (hf|hf)
  ·exact (h.KY ⟨d,x,hd,hc⟩).1 hf
  ·exact hne (h.sep d b x _ c hd hb hc hf)
 ·intro d d' x x' c hd hd' hc hc'
  exact h.sep d d' x x' c (hsub d x hd).2 (hsub d' x' hd').2 hc hc'
 ·intro g cs' e' hg
  obtain ⟨h1,h2⟩:=h.gl g cs' e' hg
  exact ⟨.inl h1,h2⟩
 ·rintro c _ ⟨d,x,hd,hc⟩
  exact ⟨d,x,(hsub d x hd).2,hc⟩
section
variable {E:Env} {bn:Nat} {L:Vm.Frame} {H:Vm.Heap} {nx:Nat} {Q:CP→Vm.Frame→Vm.Heap→Nat→Prop}
def a2d (E:Env) (g:FuncId) (fn:Func) (cs:List FV) (e:TypeId) (rows:List (List Value)):Prop :=
 ∀ Fo,E.O g=some Fo→∀ m F c vs,m.get c=.cells vs e 0 false→DT m F cs vs→F c→∃ key,∀ m' F' σ' H' nx',(∀ d,F d→m'.get d=m.get d)→Ctx E.Γ m' F' σ' H' nx'→∃ m1,Fo (Ec fn.ntmps [.pointer (some ⟨c,0,none⟩)]) m'=some (IG key rows,m1)
theorem Ad.Xo {f:Operand} {ps:Array Tmp} {LM body:Code} {g:FuncId} {fn:Func} {b:Nat} {cs:List FV} {ct:TypeId} {rows:List (List Value)} (n:Nat) (a6h:Nat→List FV) (vW:Nat→List Value) (L0:Vm.Frame) (Hk:Nat→Vm.Heap) (DZ:Nat) (inv:Nat→Prop)
 (hf:BD E.Γ L f=some (.clo g [] [.ref b 0])) (hbx:hget H b=some (.box ct (cs.map .p))) (hfn:E.P.funcs[g]?=some fn) (hfl:(flat LM&&flat body)=true) {Fo:List Value→Mem→Option (Value×Mem)} (ho:E.O g=some Fo) (hr:rows=(List.range n).map vW) (hlen:∀ k,k<n→(vW k).length=ps.size) (hpl:∀ k,k<n→(vW k).all plain=true) (hrel:∀ k,k<n→∀ m F,DT m F (a6h k) (vW k))
 (hb:bn≤DZ) (hc:Xb L (hdel H b) nx L0 (Hk 0) DZ) (hL0:Ak DZ L0 L0) (hask:a2d E g fn cs ct rows)
 (h0:inv 0) (jI:∀ k,k<n→inv k→Ad E DZ LM (uf L0 ps.toList (a6h k)) (Hk k) DZ fun e L1 H1 nx1=>e=.normal∧Ad E DZ body L1 H1 nx1 (RQ (inv (k+1)) DZ L0 (Hk (k+1)) Q))
 (hdone:inv n→Q .normal L0 (Hk n) DZ):Ad E bn (.rangeFunc f ps LM body) L H nx Q:=by
 intro B hB m F σ t h1 h2 h3
 have hv:=Ci h1 h2 hf
 have hlb:∃ c vs,ev t f=.func (.func g) #[] #[.pointer (some ⟨c,0,none⟩)]∧m.get c=.cells vs ct 0 false∧DT m F cs vs∧Dq (σ b)=some c:=by
  obtain ⟨_,c,vs,r1,r2,r3,r4,r5,r6⟩:=h1.hp b _ hbx
  generalize ev t f=u at hv
  cases hv with
  |clo p1 p2 =>
   cases p1
   cases p2 with
   |cons p2 p3 =>
    cases p3
    cases p2 with
    |ref q1 q2 q3 =>
     obtain ⟨c',s1,s2⟩:=q3 (by simp [htag,hbx,HB.tag])
     rw [r1] at s1
     cases s1
     exact ⟨c,vs,by rw [s2],r4,DT.VG r5,by rw [r1];rfl⟩
 obtain ⟨c,vs,hev,hgc,hrc,hblk⟩:=hlb
 obtain ⟨g1,g2⟩:=nI h1 hbx
 obtain ⟨F0,hF0⟩:∃ F0:Nat→Prop,F0=fun d=>F d∨Dq (σ b)=some d:=⟨_,rfl⟩
 rw [← hF0] at g1 g2
 have hcF:F0 c:=by rw [hF0];exact .inr hblk
 obtain ⟨key,hkey⟩:=hask Fo ho m F0 c vs hgc (hrc.mono fun d hd=>⟨by rw [hF0];exact .inl hd,rfl⟩) hcF
 have l1:RL m F0 (htag (hdel H b)) σ nx L t:=RL.step g2 h1 h2
 have rounds:∀ j k,k+j=n→inv k→∀ m1 F1 σ1,Ctx E.Γ m1 F1 σ1 (Hk k) DZ→RL m1 F1 (htag (Hk k)) σ1 DZ L0 t→B.to m1 F1 σ1 (Hk k) DZ→(∀ d,F0 d→F1 d∧m1.get d=m.get d) →
  LW E.P E.O E.G LM body ps.size (fun m'=>∃ m1,Fo (Ec fn.ntmps [.pointer (some ⟨c,0,none⟩)]) m'=some (IG key rows,m1)) t ps.toList (rows.drop k) m1 fun e m'=>∃ L' H' nx' F' σ',Q e L' H' nx'∧Ctx E.Γ m' F' σ' H' nx'∧RL m' F' (htag H') σ' nx' L' t∧B.to m' F' σ' H' nx':=by
  intro j
  induction j with
  |zero =>
   intro k hk hik m1 F1 σ1 c1 l b fz
   obtain rfl:k=n:=by omega
   rw [hr,List.drop_of_length_le (by simp)]
   exact ⟨L0,_,DZ,F1,σ1,hdone hik,c1,l,b⟩
  |succ j ih =>
   intro k hk hik m1 F1 σ1 c1 l b fz
   have e0:rows.drop k=vW k::rows.drop (k+1):=by
    rw [hr,List.drop_eq_getElem_cons (by simp;omega)]
    simp
   rw [e0]
   refine ⟨hlen k (by omega),hpl k (by omega),?_⟩
   refine (jI k (by omega) hik ⟨m1.at m1.size,F1,σ1,Hk k,DZ⟩ rfl _ F1 σ1 _ (c1.at _) (RL.J6 (RL.at (Γ:=E.Γ) _ l) (hrel k (by omega) _ _)) (Step.refl _ _ _ _ _)).mono ?_
   rintro e1 s1 ⟨L1,H1,nx1,F2,σ2,⟨he,hbody⟩,d1,d2,d3⟩
   refine ⟨he,(hbody ⟨m1.at m1.size,F1,σ1,Hk k,DZ⟩ rfl s1.m F2 σ2 s1.t d1 d2 d3).mono ?_⟩
   rintro e2 s2 ⟨L2,H2,nx2,F3,σ3,q,k1,k2,k3⟩
   have st:Step m1 F1 σ1 (Hk k) DZ (s2.m.at (min m1.low s2.m.low)) F3 σ3 H2 nx2:=Step.at k3
   have k1':=k1.at (min m1.low s2.m.low)
   have l':=RL.step st c1 l
   have b':=Step.trans b st
   have fz':∀ d,F0 d→F3 d∧(s2.m.at (min m1.low s2.m.low)).get d=m.get d:=fun d hd=>by
    obtain ⟨x1,x2⟩:=fz d hd
    obtain ⟨y1,y2⟩:=st.frozen c1 d x1
    exact ⟨y1,y2.trans x2⟩
   cases e2 with
   |normal =>
    have uK:Xb L0 H2 nx2 L0 (Hk (k+1)) DZ:=⟨q.2.1,hL0,q.2.2⟩
    have c2:=uK.ctx k1'
    exact ⟨hkey _ _ _ _ _ (fun d hd=>(fz' d hd).2) c2,ih (k+1) (by omega) q.1 _ _ _ c2 (uK.rl l') (uK.step (by omega) b') fz'⟩
   |ret =>
    obtain ⟨q1,H3,q2,q3⟩:=q
    have uK:Xb L0 H2 nx2 L0 H3 DZ:=⟨q1,hL0,q2⟩
    exact ⟨L0,H3,DZ,F3,σ3,q3,uK.ctx k1',uK.rl l',uK.step (by omega) b'⟩
   |exit id =>
    obtain ⟨q1,H3,q2,q3⟩:=q
    have uK:Xb L0 H2 nx2 L0 H3 DZ:=⟨q1,hL0,q2⟩
    exact ⟨L0,H3,DZ,F3,σ3,q3,uK.ctx k1',uK.rl l',uK.step (by omega) b'⟩
 refine LC.rangeFunc (fn:=fn) (Fo:=Fo) (rows:=rows) hev hfn hfl ho (hkey _ _ _ _ _ (fun _ _=>rfl) g1) ?_
 have:=rounds n 0 (by omega) h0 m F0 σ (hc.ctx g1) (hc.rl l1) (hc.step (by omega) (h3.trans g2)) fun d hd=>⟨hd,rfl⟩
 rw [List.drop_zero] at this
 exact this
end
end Go.Vm
namespace Go.Vm
open Go.Am
def b3w (e:TypeId) (ks:List Int) (f:Int→List Int):List (FV×FV):=ks.map fun k=>(.int .i64 k,.lst e (cells (f k)) (f k).length)
section
variable {E:Env} {L:Frame} {H:Heap} {nx:Nat} {Q:PV→Heap→Nat→Prop} {w:Bool}
variable {dst:Option Tmp} {ty:TypeId} {pos:String} {af:Array Edge} {gd:Option (Nat×Bool)}
end
section
variable {E:Env} {bn i:Nat} {ops:Array Oper} {l:List Oper} {L:Frame} {H:Heap} {nx:Nat} {R:Frame→Heap→Nat→Prop}
end
def swp (a b i:Nat):Nat:=if i=a then b else if i=b then a else i
def Hrn (ρ:Nat→Nat):Heap→Heap
 |[]=>[]
 |(i,x)::H=>(ρ i,x.rn ρ)::Hrn ρ H
end Go.Vm
namespace Go.Vm
open Go.Am
mutual
def FV.flat:FV→Bool
 | .int ..| .bool _| .str _| .val _=>true
 | .agg cs=>FVs.flat cs
 | .lst ..| .Gt _=>false
def FVs.flat:List FV→Bool
 |[]=>true
 |c::cs=>FV.flat c&&FVs.flat cs
end
mutual
def PV.flat:PV→Bool
 | .p x=>x.flat
 | .agg cs=>AP.flat cs
 | .EP cs=>AP.flat cs
 | .vec ..| .ref ..| .Eo ..| .mref _=>true
 | .clo _ fs cs=>AP.flat fs&&AP.flat cs
def AP.flat:List PV→Bool
 |[]=>true
 |c::cs=>PV.flat c&&AP.flat cs
end
def HB.flat:HB→Bool
 | .box _ cs=>AP.flat cs
 | .vec _ cs _ _=>FVs.flat cs
 | .map _=>false
 | .Fe ..=>false
def a6u:Heap→Bool
 |[]=>true
 |(_,x)::H=>x.flat&&a6u H
section
variable {m m':Mem} {F F':Nat→Prop} {T:Nat→Option Tg} {σ:Nat→Value} {n:Nat}
end
section
variable {E:Env} {L:Frame} {H:Heap} {nx:Nat} {Q:PV→Heap→Nat→Prop} {w:Bool}
variable {dst:Option Tmp} {ty:TypeId} {pos:String} {af:Array Edge} {gd:Option (Nat×Bool)}
end
end Go.Vm
namespace Go.Vm
open Go.Am
variable {E:Env} {L:Frame} {H:Heap} {nx:Nat} {Q:PV→Heap→Nat→Prop} {w:Bool}
variable {dst:Option Tmp} {ty:TypeId} {pos:String} {af:Array Edge} {gd:Option (Nat×Bool)}
theorem iW (σ:Nat→Value) (a:Nat):upd σ a (σ a)=σ:=by funext x;simp only [upd];split<;>simp_all
theorem A8.a0n (b:Nat) {n:Nat} {e:TypeId} {cs:List FV} {z:Bool} (hb:hget H b=some (.vec e cs n z)) (hn:0<n):A8 E L H nx L (hput H b (.Fe e (cs.map .p) n)) nx:=fun B m F σ t h1 h2 h3=>by
 obtain ⟨_,hr⟩:=h1.hp b _ hb
 rcases hr with ⟨r1,r2,r3⟩|⟨c,g,vs,r1,r2,r3,r4,r5,r6,r7⟩
 ·omega
 have hT:htag (hput H b (.Fe e (cs.map .p) n))=htag H:=by
  funext d
  rw [Sl]
  by_cases e':b=d
  ·subst e';rw [if_pos rfl];simp [htag,hb,HB.tag]
  ·rw [if_neg e']
 obtain ⟨d1,d2⟩:=h1.change (m':=m) (b0:=b) (x':=.Fe e (cs.map .p) n) (s':=σ b) hb (Nat.le_refl _) (fun _=>rfl) (Nat.le_refl _) (fun _ _ _=>rfl) (fun _ h _ _=>h) (fun c hc=>.inl hc)
  ⟨c,g,vs,r1,r2,r3,r4,DL.Y6 r5,r6⟩
 rw [iW] at d1 d2
 exact ⟨F,σ,d1,h2.step d2 h1,h3.trans d2⟩
theorem A8.uU (b:Nat) {n:Nat} {e:TypeId} {ds:List PV} (cs:List FV) (hb:hget H b=some (.Fe e ds n)) (hn:0<n) (hd:ds=cs.map .p):A8 E L H nx L (hput H b (.vec e cs n false)) nx:=fun B m F σ t h1 h2 h3=>by
 subst hd
 obtain ⟨_,c,g,vs,r1,r2,r3,r4,r5,r6⟩:=h1.hp b _ hb
 obtain ⟨d1,d2⟩:=h1.change (m':=m) (b0:=b) (x':=.vec e cs n false) (s':=σ b) hb (Nat.le_refl _) (fun _=>rfl) (Nat.le_refl _) (fun _ _ _=>rfl) (fun _ h _ _=>h) (fun c hc=>.inl hc)
  (.inr ⟨c,g,vs,r1,r2,r3,r4,DT.VG r5,r6,fun _=>rfl⟩)
 rw [iW] at d1 d2
 exact ⟨F,σ,d1,h2.step d2 h1,h3.trans d2⟩
theorem A8.bG (a k:Nat) {b n n':Nat} {e e':TypeId} {cs:List FV} {ds:List PV} {z:Bool} (ha:hget H a=some (.Fe e' ds n')) (hk:ds[k]?=some (.vec b n 0 n)) (hb:hget H b=some (.vec e cs n z)) :
 A8 E L H nx L (hput (hdel H b) a (.Fe e' (ds.set k (.p (.lst e cs n))) n')) nx:=fun B m F σ t h1 h2 h3=>by
 obtain ⟨c1,c2,c3⟩:=Tf h1 hb
 have hne:b≠a:=fun e=>by subst e;rw [ha] at hb;cases hb
 have ha':hget (hdel H b) a=some (.Fe e' ds n'):=by rw [Js,if_neg hne];exact ha
 obtain ⟨_,c,g,vs,r1,r2,r3,r4,r5,r6⟩:=c1.hp a _ ha'
 obtain ⟨_,c',g',vs',s1,s2,s3,s4,s5,s6⟩:=h1.hp a _ ha
 rw [s1] at r1;cases r1
 rw [s4] at r4;cases r4
 obtain ⟨u,hu1,hu2⟩:=s5.get hk
 have hcell:RP m (fun c=>F c∨Dq (σ b)=some c) (htag (hdel H b)) σ nx (.p (.lst e cs n)) u:=by
  cases hu2 with
  |vec hb' hc h=>exact .p (c3 _ ((h n (by simp [htag,hb,HB.tag])).2 rfl))
 obtain ⟨d1,d2⟩:=c1.change (m':=m) (b0:=a) (x':=.Fe e' (ds.set k (.p (.lst e cs n))) n') (s':=σ a) ha' (Nat.le_refl _) (fun _=>rfl) (Nat.le_refl _) (fun _ _ _=>rfl) (fun _ h _ _=>h) (fun c hc=>.inl hc) (by
  refine ⟨_,_,vs,s1,s2,r3,s4,?_,s6⟩
  have:vs=vs.set k u:=by
   apply List.ext_getElem?
   intro j
   rw [List.getElem?_set]
   by_cases e:k=j
   ·subst e
    rw [if_pos rfl,hu1]
    have:k<vs.length:=by
     rcases Nat.lt_or_ge k vs.length with h|h
     ·exact h
     ·rw [List.getElem?_eq_none h] at hu1;cases hu1
    rw [if_pos this]
   ·rw [if_neg e]
  rw [this]
  exact (r5.set k hcell).mono (fun d hd=>⟨hd,rfl⟩) (Fp (x':=.Fe e' (ds.set k (.p (.lst e cs n))) n') ha' (Nat.le_refl _) fun _=>rfl) (Nat.le_refl _))
 rw [iW] at d1 d2
 exact ⟨_,σ,d1,(h2.step c2 h1).step d2 c1,(h3.trans c2).trans d2⟩
theorem S9 {Γ:Nat→Option (List Value×TypeId)} {m:Mem} {F:Nat→Prop} {σ:Nat→Value} {t:Tr Value} {b tag off:Nat} {o:Operand} {e:TypeId} {cs:List PV} (hx:Ctx Γ m F σ H nx) (hl:RL m F (htag H) σ nx L t) (h:BD Γ L o=some (.Eo b tag off)) (hb:hget H b=some (.Fe e cs tag)) :
 ∃ c k g,ev t o=.pointer (some ⟨c,off,some g⟩)∧σ b=.slice (some ⟨c,0,none⟩) k g:=by
 have:=Ci hx hl h
 generalize ev t o=v at this
 cases this with
 |Eo h1 h2 h3 =>
  obtain ⟨_,h4⟩:=h3 tag (by simp [htag,hb,HB.tag])
  obtain ⟨c,k,g,h5,h6⟩:=h4 rfl
  exact ⟨c,k,g,h6,h5⟩
theorem tu {Γ:Nat→Option (List Value×TypeId)} {m:Mem} {F:Nat→Prop} {σ:Nat→Value} {t:Tr Value} {b tag off len:Nat} {o:Operand} {e:TypeId} {cs:List PV} (hx:Ctx Γ m F σ H nx) (hl:RL m F (htag H) σ nx L t) (h:BD Γ L o=some (.vec b tag off len)) (hb:hget H b=some (.Fe e cs tag)) :
 Ew (σ b) off len (ev t o):=by
 have:=Ci hx hl h
 generalize ev t o=v at this
 cases this with
 |vec h1 h2 h3=>exact (h3 tag (by simp [htag,hb,HB.tag])).2 rfl
theorem Aa.a4q {s:TypeId} {x:Operand} {f k b tag off:Nat} {e:TypeId} {cs:List PV} (hx:BD E.Γ L x=some (.Eo b tag off)) (hb:hget H b=some (.Fe e cs tag)) (hk:NW E.P s f=some k) (q:Q (.Eo b tag (off+k)) H nx) :
 Aa E w ⟨dst,.fieldAddr s x f,ty,pos,af,gd⟩ L H nx Q :=
 Aa.quiet q fun m F σ tt h1 h2=>by
  obtain ⟨c,k',g,h3,h4⟩:=S9 h1 h2 hx hb
  refine ⟨_,fun _=>KJ (dst:=dst) (ty:=ty) (pos:=pos) (af:=af) (gd:=gd) hk h3,.Eo (h1.hp b _ hb).1 rfl fun n hn=>?_⟩
  simp only [htag,hb,HB.tag,Option.map_some,Option.some.injEq,Tg.vec.injEq] at hn
  exact ⟨by omega,fun _=>⟨c,k',g,h4,rfl⟩⟩
theorem Aa.a4w {t:TypeId} {x ix:Operand} {e:TypeId} {cs:List PV} {b tag sz:Nat} {k:IntKind} {i:Nat} (hx:BD E.Γ L x=some (.vec b tag 0 tag)) (hb:hget H b=some (.Fe e cs tag)) (hi:BD E.Γ L ix=some (.p (.int k (i:Int))))
 (hs:elemSize E.P t=some sz) (h1:i<tag) (q:Q (.Eo b tag (i*sz)) H nx):Aa E w ⟨dst,.indexAddr t x ix,ty,pos,af,gd⟩ L H nx Q :=
 Aa.quiet q fun m F σ tt c1 c2=>by
  obtain ⟨e',inf,h3,h4,h5⟩:=KU hs
  have hix:=Dh c1 c2 hi
  have hsub:=tu c1 c2 hx hb
  obtain ⟨hlt,c,g,vs,r1,r2,r3,r4,r5,r6⟩:=c1.hp b _ hb
  rw [r1] at hsub
  simp only [Ew] at hsub
  have h0:(0:Int)≤(i:Int):=by omega
  have h1':(i:Int)<(tag:Int):=by omega
  refine ⟨.pointer (some ⟨c,i*sz,some g⟩),fun _=>by simp only [CY,FC,h3,hsub,hix,h4,h0,h1',and_self,if_true,h5,Nat.zero_add,Int.toNat_natCast],.Eo hlt rfl fun n hn=>?_⟩
  simp only [htag,hb,HB.tag,Option.map_some,Option.some.injEq,Tg.vec.injEq] at hn
  exact ⟨by omega,fun _=>⟨c,tag,g,r1,rfl⟩⟩
theorem Aa.a6w {t:TypeId} {a:Operand} {b n off:Nat} {e:TypeId} {cs:List PV} {r:PV} (ha:BD E.Γ L a=some (.Eo b n off)) (hb:hget H b=some (.Fe e cs n)) (ht:F6 E.P t=some false) (hc:cs[off]?=some r) (q:Q r H nx):Aa E w ⟨dst,.load t a,ty,pos,af,gd⟩ L H nx Q :=
 Aa.quiet q fun m F σ tt h1 h2=>by
  obtain ⟨c,k,g,h3,h4⟩:=S9 h1 h2 ha hb
  obtain ⟨_,c',g',vs,r1,r2,r3,r4,r5,r6⟩:=h1.hp b _ hb
  rw [h4] at r1
  cases r1
  obtain ⟨v,h5,h6⟩:=Yn (P:=E.P) (t:=t) (a:=⟨c,off,some g⟩) (x:=r) r4 r2 rfl rfl (DL.drop off r5) (H7 r6 _) (by
   simp only [bM,ht]
   rw [List.head?_drop]
   exact hc)
  exact ⟨v,fun _=>by simp only [CY,FC,h3,h5,Option.map_some],h6⟩
theorem Aa.a4a {t:TypeId} {a x:Operand} {b tag off:Nat} {e:TypeId} {cs:List PV} {r:PV} {i:TypeInfo} (ha:BD E.Γ L a=some (.Eo b tag off)) (hx:BD E.Γ L x=some r) (hb:hget H b=some (.Fe e cs tag)) (hn:PN r)
 (hi:E.P.info? t=some i) (hl:(Gw r).length=i.size) (h0:0<i.size) (hle:off+i.size≤cs.length) (q:Q (.EP []) (hput H b (.Fe e (Ce cs off (Gw r)) tag)) nx):Aa E true ⟨dst,.store t a x,ty,pos,af,gd⟩ L H nx Q:=by
 intro m F σ tt h1 h2
 obtain ⟨c,k,g,h3,h4⟩:=S9 h1 h2 ha hb
 obtain ⟨h5,h6⟩:=JR hn (Ci h1 h2 hx)
 obtain ⟨hlt,c',g',vs,r1,r2,r3,r4,r5,r6⟩:=h1.hp b _ hb
 rw [h4] at r1
 cases r1
 have hlen:=h5.length
 have hlen2:=r5.length
 have hst:JY E.P t ⟨c,off,some g⟩ (ev tt x) m=some (m.put c (.cells (splice vs off (ev tt x).cells.toList) e g false)):=by
  unfold JY Fa
  rw [hi]
  simp only [r4]
  rw [if_pos (by simpa using hlen.symm.trans hl),if_pos]
  simp only [Jj,Option.getD_some,beq_self_eq_true,Bool.true_and,Bool.and_eq_true,decide_eq_true_eq]
  refine ⟨⟨?_,?_⟩,h6⟩
  ·rw [← hlen,hl,← hlen2];exact ⟨trivial,hle⟩
  ·rw [← hlen,hl];exact h0
 have hput':∀ d,c≠d→(m.put c (.cells (splice vs off (ev tt x).cells.toList) e g false)).get d=m.get d:=fun d hd=>by rw [Mem.get_put,if_neg hd]
 obtain ⟨c1,c2⟩:=h1.change (m':=m.put c (.cells (splice vs off (ev tt x).cells.toList) e g false)) (x':=.Fe e (Ce cs off (Gw r)) tag) (s':=σ b) hb (Nat.le_refl _) (fun _=>rfl) (Nat.le_refl _)
  (fun d _ hd=>hput' d fun e=>hd (by rw [h4,e];rfl)) (fun k k1 k2 k3=>by
   have:=k3 c (by rw [h4];rfl)
   simp only [Mem.put];omega) (fun d hd=>.inl hd) (by
   refine ⟨c,g,splice vs off (ev tt x).cells.toList,h4,r2,r3,by rw [Mem.get_put,if_pos rfl],?_,IK _ r6 h6⟩
   refine (DL.splice off r5 h5).mono (fun d hd=>⟨hd,hput' d fun e=>r3 (e▸hd)⟩) (Fp (x':=.Fe e (Ce cs off (Gw r)) tag) hb (Nat.le_refl _) fun _=>rfl) (Nat.le_refl _))
 refine Ip.op (v:=undef) (fun _=>?_) ⟨_,_,_,F,_,q,c1,.EP .nil,c2,fun h=>by cases h⟩
 simp only [CY,FC,h3,hst,Option.map_some]
end Go.Vm
namespace Go.Vm
open Go.Am
section
variable {E:Env} {L:Vm.Frame} {H:Vm.Heap} {nx:Nat} {Q:PV→Vm.Heap→Nat→Prop} {w:Bool} {dst:Option Tmp} {ty:TypeId} {pos:String} {af:Array Edge} {gd:Option (Nat×Bool)}
theorem Aa.WL {t:TypeId} {x:Operand} {f:Nat} {cs:List FV} {fs:Array Field} {fd:Field} {r:FV} (hx:BD E.Γ L x=some (.p (.agg cs))) (hu:E.P.underlying t=some (.struct fs)) (hf:fs[f]?=some fd) (h:Ud E.P fd.type (cs.drop fd.offset)=some r) (q:Q (.p r) H nx) :
 Aa E w ⟨dst,.field t x f,ty,pos,af,gd⟩ L H nx Q :=
 Aa.quiet q fun m F σ tt h1 h2=>by
  have hr:=Ci h1 h2 hx
  generalize hv:ev tt x=v at hr
  cases hr with
  |p hr =>
   cases hr with
   |agg hr hcc =>
    rename_i l
    have hd:=DT.drop fd.offset hr
    have key:∃ u,Ez E.P (part fd.type l.toArray fd.offset)=some u∧RF m F r u:=by
     unfold Ud at h
     unfold part
     simp only [Ba,OI]
     cases ha:F6 E.P fd.type with
     |none=>rw [ha] at h;cases h
     |some b =>
      rw [ha] at h
      cases b with
      |true =>
       simp only at h
       cases hi:E.P.info? fd.type with
       |none=>rw [hi] at h;cases h
       |some i =>
        rw [hi] at h
        simp only [Option.map_eq_some_iff] at h
        obtain ⟨l',h3,rfl⟩:=h
        obtain ⟨ws,h4,h5⟩:=NJ hd h3
        simp only [Option.bind_some,if_true,Ba,G9,hi,Option.map_some]
        have e:l.toArray.extract fd.offset (fd.offset+i.size)=((l.drop fd.offset).take i.size).toArray:=by
         apply Array.ext'
         rw [Array.toList_extract]
         simp [List.extract_eq_take_drop]
        unfold takeN at h4
        split at h4
        case isFalse=>cases h4
        cases h4
        exact ⟨_,rfl,by rw [e];exact .agg h5 (I8 (H7 hcc _) _)⟩
      |false =>
       simp only [Option.bind_some,Bool.false_eq_true,if_false]
       simp only at h
       have h':cs[fd.offset]?=some r:=by rw [← h];simp
       obtain ⟨u,g1,g2⟩:=ZP hr h'
       simp only [List.getElem?_toArray,g1]
       exact ⟨u,rfl,g2⟩
    obtain ⟨u,k1,k2⟩:=key
    refine ⟨u,fun _=>?_,.p k2⟩
    have hd:Ez E.P (Instr.field t (.agg l.toArray) f)=some u:=by
     unfold Instr.field
     simp only [Ba,BQ,hu,Option.bind_some,hf]
     rw [show Ez E.P (asAgg (.agg l.toArray))=some l.toArray from rfl]
     exact k1
    simp only [CY,FC,hv,hd,Option.map_some]
theorem A8.iZ (a k:Nat) (e:TypeId) {e':TypeId} {ds:List PV} {n':Nat} (ha:hget H a=some (.Fe e' ds n')) (hk:ds[k]?=some (.p (.val (.slice none 0 0)))) :
 A8 E L H nx L (hput ((nx,.vec e [] 0 true)::H) a (.Fe e' (ds.set k (.vec nx 0 0 0)) n')) (nx+1):=fun B m F σ t h1 h2 h3=>by
 obtain ⟨c1,c2⟩:=WU e h1
 have hlt:=(h1.hp a _ ha).1
 have ha':hget ((nx,HB.vec e [] 0 true)::H) a=some (.Fe e' ds n'):=by rw [Cc,if_neg (by omega)];exact ha
 obtain ⟨_,c,g,vs,r1,r2,r3,r4,r5,r6⟩:=c1.hp a _ ha'
 obtain ⟨u,hu1,hu2⟩:=r5.get hk
 have hu:u=Dl:=by cases hu2 with|p h=>cases h;rfl
 subst hu
 obtain ⟨d1,d2⟩:=c1.change (m':=m) (b0:=a) (x':=.Fe e' (ds.set k (.vec nx 0 0 0)) n') (s':=upd σ nx Dl a) ha' (Nat.le_refl _) (fun _=>rfl) (Nat.le_refl _) (fun _ _ _=>rfl) (fun _ h _ _=>h) (fun c hc=>.inl hc) (by
  refine ⟨c,g,vs,r1,r2,r3,r4,?_,r6⟩
  have:vs=vs.set k Dl:=by
   apply List.ext_getElem?
   intro j
   rw [List.getElem?_set]
   by_cases e:k=j
   ·subst e
    rw [if_pos rfl,hu1]
    have:k<vs.length:=by
     rcases Nat.lt_or_ge k vs.length with h|h
     ·exact h
     ·rw [List.getElem?_eq_none h] at hu1;cases hu1
    rw [if_pos this]
   ·rw [if_neg e]
  rw [this]
  exact (r5.set k (au e H nx)).mono (fun d hd=>⟨hd,rfl⟩) (Fp (x':=.Fe e' (ds.set k (.vec nx 0 0 0)) n') ha' (Nat.le_refl _) fun _=>rfl) (Nat.le_refl _))
 have hσ:upd (upd σ nx Dl) a (upd σ nx Dl a)=upd σ nx Dl:=by
  funext x
  by_cases e:x=a
  ·rw [e,upd_same]
  ·rw [CZ _ _ e]
 rw [hσ] at d1 d2
 exact ⟨_,_,d1,(h2.step c2 h1).step d2 c1,(h3.trans c2).trans d2⟩
theorem A8.a6y (b:Nat) {n:Nat} {e:TypeId} {cs:List FV} (cs':List FV) {z:Bool} (hb:hget H b=some (.vec e cs n z)) (h:Bf cs cs'):A8 E L H nx L (hput H b (.vec e cs' n z)) nx:=fun B m F σ t h1 h2 h3=>by
 have hr:=RB.le (Bg.vec (n:=n) (z:=z) (e:=e) h rfl) (h1.hp b _ hb).2
 obtain ⟨d1,d2⟩:=h1.change (m':=m) (b0:=b) (x':=.vec e cs' n z) (s':=σ b) hb (U5.refl _) (fun _=>rfl) (Nat.le_refl _) (fun _ _ _=>rfl) (fun _ h _ _=>h) (fun c hc=>.inl hc) hr
 exact ⟨F,_,d1,h2.step d2 h1,h3.trans d2⟩
theorem Aa.a0m {t t2:TypeId} {x y:Operand} {a b r:Bool} (hx:BD E.Γ L x=some (.p (.bool a))) (hy:BD E.Γ L y=some (.p (.bool b))) (ht:E.P.underlying t=some .bool) (hr:(a != b)=r) (q:Q (.p (.bool r)) H nx) :
 Aa E w ⟨dst,.binOp .neq t x y t2,ty,pos,af,gd⟩ L H nx Q:=Aa.neB hx hy ht (by rw [hr];exact q)
theorem Aa.cZ {fo:Operand} {args:Array Operand} {aT:Array TypeId} {g:FuncId} {fs cs aa ac:List PV} {Hc:Heap} {Qc:PV→Heap→Nat→Prop} (ns:List Nat) (hc:BA E g ac Hc ns.length Qc)
 (hf:BD E.Γ L fo=some (.clo g fs cs)) (ha:evs E.Γ L args.toList=some aa) (hle:P5 (fs++aa++cs) (AP.rn (rho ns nx) ac)) (hu:AP.under ns.length ac) (hHu:Nv ns.length Hc) (hin:HIn (rho ns nx) H Hc) (hnd:ns.Nodup) (hlt:∀ b∈ns,b<nx)
 (hq:∀ r H' nx',Qc r H' nx'→Q (r.rn (rho ns nx)) (news ns.length (rho ns nx) H' (merge ns (rho ns nx) H' H)) (nx+(nx'-ns.length))) :
 Aa E true ⟨dst,.call { callee:=.value fo,args:=args,argTypes:=aT },ty,pos,af,gd⟩ L H nx Q:=Aa.wW hf ha hle hu hHu hin hnd hlt (fun h=>by cases h) hc hq
theorem A8.xG (d j:Nat) {b n k:Nat} {e:TypeId} {cs:List FV} {z:Bool} (hd:GZ L d=some (.vec b n 0 k)) (hb:hget H b=some (.vec e cs n z)) (hn:0<n) (hj:j≤cs.length) :
 A8 E L H nx ((d,.p (.lst e (cs.take j) k))::L) (hdel H b) nx:=fun B m F σ t h1 h2 h3=>by
 obtain ⟨c1,c2⟩:=nI h1 hb
 refine ⟨_,σ,c1,fun i v hi=>?_,h3.trans c2⟩
 rw [Hu] at hi
 by_cases ei:d=i
 ·rw [if_pos ei] at hi;cases hi
  have:=h2 d _ hd
  subst ei
  generalize Ea t d=u at this
  cases this with
  |vec hb' hc h =>
   have hsub:=(h n (by simp [htag,hb,HB.tag])).2 rfl
   obtain ⟨_,hr⟩:=h1.hp b _ hb
   rcases hr with ⟨r1,r2,r3⟩|⟨c,g,vs,r1,r2,r3,r4,r5,r6,r7⟩
   ·omega
   ·rw [r1] at hsub
    simp only [Ew] at hsub
    subst hsub
    refine .p (.lst (.inr (by rw [r1];rfl)) r4 (ws:=vs.take j) ?_ ((DT.take j r5).mono fun d hd=>⟨.inl hd,rfl⟩) (I8 r6 _))
    have:=r5.length
    rw [List.drop_zero,List.length_take,Nat.min_eq_left hj]
    unfold takeN
    rw [if_pos (by omega)]
 ·rw [if_neg ei] at hi
  exact (h2 i v hi).step c2 h1
end
end Go.Vm
namespace Go.Tra
open Go Go.Am Go.Vm
theorem WS {ns:List Nat} {p:Oo}:∀ {n:Nat},p∈J9 ns n→p.d<n∧p.s<gi ns p.d
 |0,h=>by cases h
 |n+1,h=>by
  have e0:J9 ns (n+1)=J9 ns n++(List.range (gi ns n)).map fun s=>⟨n,s⟩:=rfl
  rw [e0,List.mem_append] at h
  rcases h with h|h
  ·have:=WS h;omega
  ·obtain ⟨s,h1,rfl⟩:=List.mem_map.1 h
   exact ⟨Nat.lt_succ_self _,List.mem_range.1 h1⟩
end Go.Tra
namespace Go.Proofs.YtdabojnmoejilaaGreatDoor
open Go Go.Am Go.Vm Go.Tra
attribute [local irreducible] Aa Af Ar Ad BA AY CG AO AL Aw Vm.Done CW Bl
attribute [local irreducible] DR Dw Io Jd Nh BU
structure aP where
 Fq:Int
 LG:Int
 EH:Int
 miss:Int
instance:Enc aP:={ default:=⟨0,0,0,0⟩,enc:=fun x=>[.int .i64 x.Fq,.int .i64 x.LG,.int .i64 x.EH,.int .i64 x.miss],size:=4,len:=fun _=>rfl }
structure Iu where
 BG:EN
 reg:Rgs
 tgt:EN
 Iq:aP
def Iu.enc (q:Iu):List FV:=[.str (bs q.BG.name),.lst 131 (cells q.BG.ranks) q.BG.ranks.length,.lst 97 (cells q.BG.Ap) q.BG.Ap.length,.lst 147 (cells q.BG.BF) q.BG.BF.length,
 .lst 39 (cells q.reg.stops) q.reg.stops.length,.int .u64 (q.reg.cp:Int),.int .u64 (q.reg.off:Int),.str (bs q.tgt.name),.lst 131 (cells q.tgt.ranks) q.tgt.ranks.length,.lst 97 (cells q.tgt.Ap) q.tgt.Ap.length,.lst 147 (cells q.tgt.BF) q.tgt.BF.length,
 .int .i64 q.Iq.Fq,.int .i64 q.Iq.LG,.int .i64 q.Iq.EH,.int .i64 q.Iq.miss]
instance:Enc Iu:={ default:=⟨default,default,default,default⟩,enc:=Iu.enc,size:=15,len:=fun _=>rfl }
def Qx (o:EN):List Nat:=o.Ap.map fun d=>d.stops.length
theorem ML (o:EN):(Qx o).length=o.Ap.length:=by simp [Qx]
theorem V4 (o:EN) {d:Nat} (h:d<o.Ap.length):gi (Qx o) d=(gi o.Ap d).stops.length:=by
 simp [Qx,gi,List.getElem?_eq_getElem h]
def Bo (o:EN):List Oo:=J9 (Qx o) (Qx o).length
def Ic (o:EN) (p:Oo):Prop:=p.d<o.Ap.length∧p.s<(gi o.Ap p.d).stops.length
theorem fU {o:EN} {p:Oo} (h:p∈Bo o):Ic o p:=by
 obtain ⟨h1,h2⟩:=WS h
 rw [ML] at h1
 rw [V4 o h1] at h2
 exact ⟨h1,h2⟩
theorem Zm {α:Type} [Inhabited α] {l:List α} {i:Nat} (h:i<l.length):gi l i∈l:=by
 unfold gi;rw [List.getElem?_eq_getElem h];exact List.getElem_mem h
theorem Kt {o:EN} {i:Nat} (h:i<(Bo o).length):Ic o (gi (Bo o) i):=fU (Zm h)
def G6 (o:EN) (p:Oo):Stp:=gi (gi o.Ap p.d).stops p.s
def YR (o:EN) (p:Oo):List UInt8:=mZ o.ranks (G6 o p)
def FY (r:Rgs) (p:Oo):Bool:=gi r.stops p.d / 2 ^ p.s % 2==1
def BJ (o:EN) (r:Rgs):List Oo:=(Bo o).filter (FY r)
theorem YZ {o:EN} {r:Rgs} {p:Oo} (h:p∈BJ o r):Ic o p:=fU (List.mem_filter.1 h).1
theorem Yw {rk:List FQ} {lo hi:Int} {l:List Stp}:∀ (n k:Nat),l.length-k=n→MW rk lo hi l k=0→∀ i,k≤i→i<l.length→Io rk lo hi (gi l i)=0
 |0,k,h,_,i,h1,h2=>by omega
 |n+1,k,h,h0,i,h1,h2=>by
  rw [MW,if_pos (by omega)] at h0
  split at h0
  ·rename_i h3;exact absurd h0 h3
  rename_i h3
  split at h0
  ·exact absurd h0 (by decide)
  rcases Nat.lt_or_ge k i with h4|h4
  ·exact Yw n (k+1) (by omega) h0 i h4 h2
  ·obtain rfl:k=i:=by omega
   exact Decidable.byContradiction fun h5=>h3 h5
theorem yw {rk:List FQ} {d:VB} (h:Jd rk d=0):∀ i,i<d.stops.length→Io rk d.lo d.hi (gi d.stops i)=0:=by
 unfold Jd at h
 split at h
 ·rename_i h1;exact absurd h h1
 split at h
 ·exact absurd h (by decide)
 exact fun i hi=>Yw _ 0 rfl h i (Nat.zero_le _) hi
theorem Gi.dvs {o:EN} (h:Gi o):FD o.ranks o.Ap 0=0:=by
 have h0:=h.err
 unfold KW at h0
 split at h0
 ·exact absurd h0 (by decide)
 split at h0
 ·exact absurd h0 (by decide)
 split at h0
 ·rename_i h1;exact absurd h0 h1
 split at h0
 ·exact absurd h0 (by decide)
 split at h0
 ·exact absurd h0 (by decide)
 split at h0
 ·rename_i h1;exact absurd h0 h1
 rename_i d3
 exact Decidable.byContradiction d3
theorem Gi.sto {o:EN} (h:Gi o) {p:Oo} (hp:Ic o p):a6l o.ranks (G6 o p) :=
 a9z (yw (SH _ 0 rfl h.dvs p.d (Nat.zero_le _) hp.1) p.s hp.2)
theorem Qp (o:EN) (ho:Gi o) (p:Oo) (hp:Ic o p):AY env 82 [.agg (Enc.enc o),.agg (Enc.enc p)] (.p (.agg (Enc.enc (G6 o p)))):=by
 obtain ⟨h1,h2⟩:=hp
 have d1:=ho.Ap
 have s1:=ho.stops p.d h1
 refine AY.enter (AB (by decide)) Tryz.func82 rfl (by kernel_rfl) (by simp [Tryz.ntmps82]) ?_
 repeat' (first|apply Ad.AA|apply Ad.BI|apply Ad.ret|apply Af.nil|apply Ar.nil|apply Af.one|(apply Ar.bar;decide +kernel)|apply Ar.quiet|(apply Aa.AV (l:=o.Ap) (i:=p.d);rfl;rfl;rfl;exact h1;rfl)|(apply Aa.AV (l:=(gi o.Ap p.d).stops) (i:=p.s);rfl;rfl;rfl;exact h2;rfl)|(apply Aa.load;rfl;rfl)|(apply Aa.AQ;rfl;rfl;rfl)|(apply Aa.DW;rfl;rfl)|(apply Aa.box;rfl;trivial)|(apply Aa.alloc;rfl)|(apply Aa.Bj;rfl;rfl;rfl;trivial;rfl;rfl;exact Aj rfl;exact le_dec rfl))
 all_goals first|(exfalso;omega)|(refine Done.ret rfl (.refl _) (by exact PV.Ac rfl) Ah.nil (Nat.zero_le _) (Nat.le_refl _) ⟨?_,rfl,rfl⟩;try rfl)
theorem WH (o:EN) (ho:Gi o) (p:Oo) (hp:Ic o p):AY env 54 [.agg (Enc.enc o),.agg (Enc.enc p)] (st (YR o p)):=by
 have hst:=Qp o ho p hp
 obtain ⟨g1,g2⟩:=ho.sto hp
 unfold YR
 generalize G6 o p=s at *
 have b1:=ho.sm.ranks
 refine AY.enter (AB (by decide)) Tryz.func54 rfl (by kernel_rfl) (by simp [Tryz.ntmps54]) ?_
 repeat' (first|apply Ad.assoc|apply Ad.AA|apply Ad.Ai|apply Af.nil|apply Af.one|(apply Aa.fn;rfl;rfl;exact hst;intro _;rfl)|(apply Aa.WL;rfl;rfl;rfl;rfl)|(apply Aa.assign;rfl)|(apply Aa.move;rfl)|(apply Aa.load;rfl;rfl)|(apply Aa.BH;rfl;rfl)|(apply Aa.box;rfl;trivial))
 all_goals try (exfalso;omega)
 apply Ad.FK (s.Fb.length) (fun k=>Ub o.ranks s s.Fb.length (s.Fb.length-k)=mZ o.ranks s) [(2,_),(10,_),(11,_)] [(0,_)] (fun k r=>(12,.p (.int .i64 (k:Int)))::r) (fun k r=>r) 2
 ·first|omega|decide
 ·first|omega|decide
 ·repeat (first|exact Ak.nil|(refine Ak.eq rfl ?_ ?_;(first|exact PV.Ac rfl|(simp [PV.under,AP.under];done)))|refine Ak.cons trivial rfl (.of_eq (Aq (by simp<;>omega))) ?_)
 ·repeat (first|exact Ah.nil|(refine Ah.eq rfl (Aj rfl) ?_ ?_;(first|exact HB.Ac rfl|exact AP.Ag _ _|(simp [HB.under,AP.under,PV.under];done)))|(refine Ah.cons (Aj rfl) ?_ rfl ?_ ?_;(first|exact trivial|exact AP.Ag _ _|(simp [HB.under,AP.under,PV.under]));(first|exact Bg.refl _|exact Bg.vec (Bf.refl _) (by simp))))
 ·first|(intro _ _;omega)|omega|trivial
 ·intro k hk hi
  obtain ⟨g3,g4⟩:=g2 k hk
  by_cases h0:(gi s.Fb k).draws.length=0
  ·repeat' (first|apply Ad.AA|apply Ad.region|apply Ad.Au|apply Ad.Ai|apply AO.normal|apply AL.normal|apply Ad.skip|apply Af.nil|apply Af.one|(apply Aa.move;rfl)|(apply Aa.Bq;rfl;rfl;omega)|(apply Aa.int;rfl;rfl;rfl)|(apply Aa.AV;rfl;rfl;rfl;omega;rfl)|(apply Aa.load;rfl;rfl)|(apply Aa.BH;rfl;rfl)|(apply Aa.AQ;rfl;rfl;rfl)|(apply Aa.alloc;rfl)|(apply Aa.Bj;rfl;rfl;rfl;trivial;rfl;rfl;exact Aj rfl;exact le_dec rfl)|(apply Ad.Ae;rfl)|(apply Ad.AZ;rfl)|(intro _;try (exfalso;omega)))
   all_goals try (exfalso;omega)
   refine Aw.normal ⟨((kD hk h0).symm.trans hi),by first|omega|decide,?_,?_⟩
   ·repeat (first|exact Ak.nil|refine Ak.same (by exact PV.Ac rfl) rfl ?_|refine Ak.cons trivial rfl (.of_eq (Aq (by simp<;>omega))) ?_)
   ·repeat (first|exact Ah.nil|(refine Ah.cons (Aj rfl) ?_ rfl ?_ ?_;(first|exact HB.Ac rfl|exact AP.Ag _ _|(simp [HB.under,AP.under,PV.under]));(first|exact Bg.refl _|exact Bg.vec (Bf.refl _) (by simp))))
  ·have g5:=g4 0 (by omega)
   obtain ⟨rn,hrn⟩:∃ rn:Nat,(gi (gi s.Fb k).draws 0).rank=rn:=⟨_,(Int.toNat_of_nonneg g5.1).symm⟩
   have h1:mZ o.ranks s=(gi o.ranks rn).Fq:=by
    rw [← hi,o8 hk (by omega),hrn];rfl
   rw [h1]
   repeat' (first|apply Ad.AA|apply Ad.BI|apply Ad.Au|apply Ad.Ai|apply AO.ret|apply AL.ret|apply Aw.ret|apply Ad.ret|apply Af.nil|apply Ar.nil|apply Af.one|(apply Ar.bar;decide +kernel)|apply Ar.quiet|(apply Aa.AV (l:=o.ranks) (i:=rn);rfl;(first|exact congrArg (fun a=>some (PV.p (.int .i64 a))) hrn|rfl);rfl;omega;rfl)|(apply Aa.assign;rfl)|(apply Aa.int;rfl;rfl;rfl)|(apply Aa.AV;rfl;rfl;rfl;omega;rfl)|(apply Aa.ZL;rfl;rfl;rfl;omega;omega;rfl)|(apply Aa.load;rfl;rfl)|(apply Aa.BH;rfl;rfl)|(apply Aa.AQ;rfl;rfl;rfl)|(apply Aa.DW;rfl;rfl)|(apply Aa.alloc;rfl)|(apply Aa.Bj;rfl;rfl;rfl;trivial;rfl;rfl;exact Aj rfl;exact le_dec rfl)|(apply Ad.Ae;rfl)|(apply Ad.AZ;rfl)|(intro _;try (exfalso;omega)))
   all_goals first|(exfalso;omega)|(refine Done.ret rfl (.refl _) (by exact PV.Ac rfl) Ah.nil (Nat.zero_le _) (Nat.le_refl _) ⟨?_,rfl,rfl⟩;try rfl)
 ·intro hi
  have h1:mZ o.ranks s=[]:=by rw [← hi,Nat.sub_self];rfl
  rw [h1]
  repeat' (first|apply Ad.AA|apply Ad.AX|apply AO.normal|apply AL.exit|apply Aw.exit|apply Ad.ret|apply Af.nil|apply Af.one|(apply Aa.assign;rfl)|(apply Aa.int;rfl;rfl;rfl)|(apply Ad.Ae;rfl)|(intro _;try (exfalso;omega)))
  all_goals first|(exfalso;omega)|(refine Done.ret rfl (.refl _) (by exact PV.Ac rfl) Ah.nil (Nat.zero_le _) (Nat.le_refl _) ⟨?_,rfl,rfl⟩;try rfl)
end Go.Proofs.YtdabojnmoejilaaGreatDoor
namespace Go.Vm
open Go.Am
variable {E:Env} {L:Frame} {H:Heap} {nx:Nat} {Q:PV→Heap→Nat→Prop} {w:Bool}
variable {dst:Option Tmp} {ty:TypeId} {pos:String} {af:Array Edge} {gd:Option (Nat×Bool)}
theorem Aa.Zn {t:TypeId} {x:Operand} {lo hi:Option Operand} {e:TypeId} {cs:List FV} {b n off len a c sz:Nat} {z:Bool} {inf:TypeInfo} (hx:BD E.Γ L x=some (.vec b n off len)) (hb:hget H b=some (.vec e cs n z)) (hn:0<n) (ht:E.P.underlying t=some (.slice e)) (hi':E.P.info? e=some inf) (hsz:inf.size=sz)
 (hlo:match lo with|none=>a=0|some o=>∃ k,BD E.Γ L o=some (.p (.int k (a:Int)))) (hhi:match hi with|none=>c=len|some o=>∃ k,BD E.Γ L o=some (.p (.int k (c:Int)))) (hac:a≤c) (hcl:c≤len)
 (q:Q (.vec b n (off+a*sz) (c-a)) H nx):Aa E w ⟨dst,.slice t x lo hi none,ty,pos,af,gd⟩ L H nx Q :=
 Aa.quiet q fun m F σ tt h1 h2=>by
  have xA:bnd 0 (lo.map (ev tt))=some a:=by
   cases lo with
   |none=>simp only at hlo;rw [hlo];rfl
   |some o =>
    obtain ⟨k,hk⟩:=hlo
    simp only [Option.map_some,Dh h1 h2 hk,bnd]
    rw [if_pos (by omega)];simp
  have vP:bnd len (hi.map (ev tt))=some c:=by
   cases hi with
   |none=>simp only at hhi;rw [hhi];rfl
   |some o =>
    obtain ⟨k,hk⟩:=hhi
    simp only [Option.map_some,Dh h1 h2 hk,bnd]
    rw [if_pos (by omega)];simp
  have hsub:=GK h1 h2 hx hb
  obtain ⟨hlt,hr⟩:=h1.hp b _ hb
  rcases hr with ⟨r1,r2,r3⟩|⟨d,g,vs,r1,r2,r3,r4,r5,r6,r7⟩
  ·omega
  rw [r1] at hsub
  simp only [Ew] at hsub
  refine ⟨.slice (some ⟨d,off+a*sz,none⟩) (c-a) g,fun _=>?_,.vec hlt rfl fun j hj=>?_⟩
  ·simp only [CY,FC,hsub,aslice,Option.isSome_none,Option.map_none,Bool.false_and,Bool.false_eq_true,if_false,ht,hi',xA,vP,r4,hac,hcl,r2,and_self,if_true,Option.map_some,hsz]
  ·simp only [htag,hb,HB.tag,Option.map_some,Option.some.injEq,Tg.vec.injEq] at hj
   refine ⟨by omega,fun _=>?_⟩
   rw [r1];rfl
theorem Y0 {m:Mem} {F:Nat→Prop} {σ:Nat→Value} {b n off c g:Nat} {e:TypeId} {cs fs:List FV} {vs l:List Value} {z:Bool} (h1:Ctx E.Γ m F σ H nx) (hb:hget H b=some (.vec e cs n z)) (hn:0<n) (h4:σ b=.slice (some ⟨c,0,none⟩) n g) (r2:c<m.size) (r3:¬ F c) (r4:m.get c=.cells vs e g false) (r5:DT m F cs vs) (r6:vs.all BX=true)
 (hl:DT m F fs l) (hc:l.all BX=true) :
 Ctx E.Γ (m.put c (.cells (splice vs off l) e g false)) F (upd σ b (σ b)) (hput H b (.vec e (Ce cs off fs) n z)) nx∧Step m F σ H nx (m.put c (.cells (splice vs off l) e g false)) F (upd σ b (σ b)) (hput H b (.vec e (Ce cs off fs) n z)) nx:=by
 have hput':∀ d,c≠d→(m.put c (.cells (splice vs off l) e g false)).get d=m.get d:=fun d hd=>by rw [Mem.get_put,if_neg hd]
 exact h1.change (m':=m.put c (.cells (splice vs off l) e g false)) (x':=.vec e (Ce cs off fs) n z) (s':=σ b) hb (Nat.le_refl _) (fun _=>rfl) (Nat.le_refl _)
  (fun d _ hd=>hput' d fun e=>hd (by rw [h4,e];rfl)) (fun k k1 k2 k3=>by
   have:=k3 c (by rw [h4];rfl)
   simp only [Mem.put];omega) (fun d hd=>.inl hd) (by
   refine .inr ⟨c,g,splice vs off l,h4,r2,r3,by rw [Mem.get_put,if_pos rfl],?_,IK _ r6 hc,fun h=>by omega⟩
   exact (DT.splice off r5 hl).mono (fun d hd=>⟨hd,hput' d fun e=>r3 (e▸hd)⟩))
def SlT (Γ:Nat→Option (List Value×TypeId)) (L:Frame) (H:Heap) (nx:Nat) (x:Operand) (sz n:Nat) (xs:List FV) (k:Nat):Prop :=
 ∀ m F σ t,Ctx Γ m F σ H nx→RL m F (htag H) σ nx L t→lenOf (ev t x)=some n∧∃ l,Cj m sz k (ev t x)=some l∧DT m F xs l∧l.all BX=true
theorem SlT.lst {Γ:Nat→Option (List Value×TypeId)} {x:Operand} {e:TypeId} {sz n k:Nat} {xs ys:List FV} (h:BD Γ L x=some (.p (.lst e xs n))) (hl:xs.length=n*sz) (hk:k≤n) (hy:ys=xs.take (k*sz)):SlT Γ L H nx x sz n ys k:=fun m F σ t h1 h2=>by
 subst hy
 have:=Ci h1 h2 h
 generalize ev t x=v at this
 cases this with
 |p h =>
  cases h with
  |nil=>obtain rfl:k=0:=by omega
        exact ⟨rfl,[],rfl,by rw [Nat.zero_mul,List.take_zero];exact .nil,rfl⟩
  |room=>obtain rfl:k=0:=by omega
         exact ⟨rfl,[],rfl,by rw [Nat.zero_mul,List.take_zero];exact .nil,rfl⟩
  |lst hF hm hw hr hc =>
   rename_i b o g vs ws ro
   refine ⟨rfl,ws.take (k*sz),?_,DT.take _ hr,I8 hc _⟩
   have h3:=V3 (k:=k*sz) hw
   rw [hl,Nat.min_eq_left (Nat.mul_le_mul_right sz hk)] at h3
   simp only [Cj,if_pos hk,Mem.D5,hm]
   simp only [Jj,Option.getD_some,if_true]
   exact h3
theorem SlT.vec {Γ:Nat→Option (List Value×TypeId)} {x:Operand} {b n off len sz k:Nat} {e:TypeId} {cs ys:List FV} {z:Bool} (h:BD Γ L x=some (.vec b n off len)) (hb:hget H b=some (.vec e cs n z)) (hn:0<n) (hl:off+len*sz≤cs.length) (hk:k≤len) (hy:ys=(cs.drop off).take (k*sz)) :
 SlT Γ L H nx x sz len ys k:=fun m F σ t h1 h2=>by
 subst hy
 have hsub:=GK h1 h2 h hb
 obtain ⟨_,hr⟩:=h1.hp b _ hb
 rcases hr with ⟨r1,r2,r3⟩|⟨c,g,vs,r1,r2,r3,r4,r5,r6,r7⟩
 ·omega
 ·rw [r1] at hsub
  simp only [Ew] at hsub
  rw [hsub]
  have hlen:=r5.length
  have h0:=Nat.mul_le_mul_right sz hk
  have hle:k*sz≤(vs.drop off).length:=by rw [List.length_drop];omega
  refine ⟨rfl,(vs.drop off).take (k*sz),?_,DT.take _ (DT.drop off r5),I8 (H7 r6 _) _⟩
  simp only [Cj,if_pos hk,Mem.D5,r4]
  simp only [Jj,Option.getD_some,if_true,takeN,if_pos hle]
theorem Aa.copy {d x:Operand} {dT xT e:TypeId} {i:TypeInfo} {b n off len k N:Nat} {cs xs:List FV} {z:Bool} (hd:BD E.Γ L d=some (.vec b n off len)) (hb:hget H b=some (.vec e cs n z)) (hn:0<n)
 (hdT:E.P.underlying dT=some (.slice e)) (hi:E.P.info? e=some i) (hsz:0<i.size) (hx:SlT E.Γ L H nx x i.size N xs k) (hk:k=min N len) (h0:0<k) (hxs:xs.length=k*i.size) (hl:off+k*i.size≤cs.length) (q:Q (.p (.int .i64 (k:Int))) (hput H b (.vec e (Ce cs off xs) n z)) nx) :
 Aa E true ⟨dst,.call { callee:=.builtin .copy,args:=#[d,x],argTypes:=#[dT,xT] },ty,pos,af,gd⟩ L H nx Q:=by
 intro m F σ t h1 h2
 have hsub:=GK h1 h2 hd hb
 obtain ⟨hx1,l,hx2,hx3,hx4⟩:=hx m F σ t h1 h2
 obtain ⟨hlt,hr⟩:=h1.hp b _ hb
 rcases hr with ⟨r1,r2,r3⟩|⟨c,g,vs,r1,r2,r3,r4,r5,r6,r7⟩
 ·omega
 rw [r1] at hsub
 simp only [Ew] at hsub
 have hlen:=hx3.length
 have hlen2:=r5.length
 obtain ⟨d1,d2⟩:=Y0 (E:=E) (off:=off) h1 hb hn r1 r2 r3 r4 r5 r6 hx3 hx4
 refine Ip.op (v:=.int .i64 (k:Int)) (m':=m.put c (.cells (splice vs off l) e g false)) (fun _=>?_) ⟨_,_,_,F,_,q,d1,.p (.int _ _),d2,fun h=>by cases h⟩
 have hk2:(k:Nat)=Nat.min N len:=hk
 have hp:=Nat.mul_pos h0 hsz
 simp only [CY,FC,YL,List.map_toArray,List.map_cons,List.map_nil,List.getElem?_toArray,List.getElem?_cons_zero,List.getElem?_cons_succ,hsub,hdT,hx1,hi]
 rw [← hk2,if_neg (by omega),hx2]
 simp only [Fa,r4,Jj,Option.getD_some,beq_self_eq_true,Bool.true_and]
 rw [if_pos (by simp only [Bool.and_eq_true,decide_eq_true_eq];exact ⟨⟨by rw [← hlen,hxs,← hlen2];exact ⟨trivial,hl⟩,by rw [← hlen,hxs];exact hp⟩,hx4⟩)]
 rfl
theorem Aa.clear {d:Operand} {dT e:TypeId} {i:TypeInfo} {b n off len:Nat} {cs:List FV} {z:Bool} {zs:List Value} (hd:BD E.Γ L d=some (.vec b n off len)) (hb:hget H b=some (.vec e cs n z)) (hn:0<n) (h0:0<len)
 (hdT:E.P.underlying dT=some (.slice e)) (hi:E.P.info? e=some i) (hz:CJ E.P e=some zs) (hzl:zs.length=i.size∧0<i.size) (hl:off+len*i.size≤cs.length) (q:Q (.EP []) (hput H b (.vec e (Ce cs off ((Bc zs len).map FZ)) n z)) nx) :
 Aa E true ⟨none,.call { callee:=.builtin .clear,args:=#[d],argTypes:=#[dT] },ty,pos,af,gd⟩ L H nx Q:=by
 intro m F σ t h1 h2
 have hsub:=GK h1 h2 hd hb
 obtain ⟨hlt,hr⟩:=h1.hp b _ hb
 rcases hr with ⟨r1,r2,r3⟩|⟨c,g,vs,r1,r2,r3,r4,r5,r6,r7⟩
 ·omega
 rw [r1] at hsub
 simp only [Ew] at hsub
 have hpl:zs.all Am.plainCell=true:=by
  obtain ⟨_,zv,_,_,_,h⟩:=BN hz
  exact h
 have hx3:DT m F ((Bc zs len).map FZ) (Bc zs len):=Hg (II hpl len)
 have hx4:(Bc zs len).all BX=true:=Dt (II hpl len)
 have hlen2:=r5.length
 have hrl:=Ei zs len
 rw [hzl.1] at hrl
 obtain ⟨d1,d2⟩:=Y0 (E:=E) (off:=off) h1 hb hn r1 r2 r3 r4 r5 r6 hx3 hx4
 refine Ip.op (v:=.tuple #[]) (m':=m.put c (.cells (splice vs off (Bc zs len)) e g false)) (fun _=>?_) ⟨_,_,_,F,_,q,d1,.EP .nil,d2,fun h=>by cases h⟩
 have hp:=Nat.mul_pos h0 hzl.2
 simp only [CY,FC,Sr,List.map_toArray,List.map_cons,List.map_nil,List.getElem?_toArray,List.getElem?_cons_zero,hsub,hdT,hi,hz]
 rw [if_neg (by omega),if_pos hzl]
 simp only [Fa,r4,Jj,Option.getD_some,beq_self_eq_true,Bool.true_and]
 rw [if_pos (by simp only [Bool.and_eq_true,decide_eq_true_eq];exact ⟨⟨by rw [hrl,← hlen2];exact ⟨trivial,hl⟩,by rw [hrl];exact hp⟩,hx4⟩)]
 rfl
def OL:Code→Option Nat
 | .region n _ _=>some n
 | .seq a b=>match OL a with
  |some n=>some n
  |none=>OL b
 | .block _ b=>OL b
 | .loop b=>OL b
 | .scope b=>OL b
 |_=>none
def KQ (r:Nat):Code→Option Code
 | .loop b=>match OL b with
  |some n=>match Nat.beq n r with
   |true=>some (.loop b)
   |false=>KQ r b
  |none=>KQ r b
 | .seq a b=>match KQ r a with
  |some c=>some c
  |none=>KQ r b
 | .cond _ a b=>match KQ r a with
  |some c=>some c
  |none=>KQ r b
 | .block _ b=>KQ r b
 | .scope b=>KQ r b
 | .rangeFunc _ _ _ b=>KQ r b
 |_=>none
def ZB (fn:Func) (r:Nat):Code:=match fn.body with
 |some c=>match KQ r c with
  |some c=>c
  |none=>.skip
 |none=>.skip
theorem Ad.blk {bn:Nat} {Q:CP→Frame→Heap→Nat→Prop} {c:Code} {Li Lo:Frame} {Hi Ho:Heap} {DZ:Nat} {e0:CP} (h:Ad E bn c Li Hi DZ (fun e L' H' nx'=>e=e0∧Xb L' H' nx' Lo Ho DZ)) (hb:bn≤DZ) (hn:DZ≤nx) (h1:Ak DZ Li L) (h2:Ah DZ Hi H) (q:Q e0 Lo Ho DZ):Ad E bn c L H nx Q:=by
 refine Ad.weaken hb ⟨hn,h1,h2⟩ ?_
 intro B hB m F σ t h1 h2 h3
 refine (h B hB m F σ t h1 h2 h3).mono ?_
 rintro e s ⟨L',H',nx',F',σ',⟨rfl,hcov⟩,c1,c2,c3⟩
 exact ⟨Lo,Ho,DZ,F',σ',q,hcov.ctx c1,hcov.rl c2,hcov.step (by omega) c3⟩
theorem V6 {α:Type}:∀ (r cs:List α) (o:Nat),o+r.length≤cs.length→Ce cs o r=cs.take o++r++cs.drop (o+r.length)
 |[],cs,o,h=>by simp [Ce]
 |a::r,cs,o,h=>by
  simp only [List.length_cons] at h
  have ih:=V6 r (cs.set o a) (o+1) (by simp;omega)
  simp only [Ce]
  rw [ih]
  have e1:(cs.set o a).take (o+1)=cs.take o++[a]:=by
   rw [List.take_succ_eq_append_getElem (by simp;omega)]
   rw [List.take_set_of_le (by omega)]
   simp
  have e2:(cs.set o a).drop (o+1+r.length)=cs.drop (o+(r.length+1)):=by
   rw [List.drop_set_of_lt (by omega)]
   congr 1
   omega
  rw [e1,e2]
  simp [Nat.add_assoc]
theorem Rl {α:Type} [Enc α] (l r:List α) (i:Nat) (h:i+r.length≤l.length):Ce (cells l) (i*Enc.size α) (cells r)=cells (l.take i++r++l.drop (i+r.length)):=by
 rw [V6 _ _ _ (by rw [BR,BR,← Nat.add_mul];exact Nat.mul_le_mul_right _ h),BR,← Nat.add_mul,JO,cells_drop',← Fz,← Fz]
end Go.Vm
namespace Go.Proofs.YtdabojnmoejilaaGreatDoor
open Go Go.Am Go.Vm Go.Tra
attribute [local irreducible] Aa Af Ar Ad BA AY CG AO AL Aw Vm.Done CW Bl
attribute [local irreducible] DR Dw Io Jd Nh BU
theorem wG {m:Mem} {F:Nat→Prop} {l:List VB} {vs ws:List Value} {off:Nat} (hw:takeN (cells l).length (vs.drop off)=some ws) (hr:DT m F (cells l) ws) (hs:∀ d,d<l.length→(gi l d).stops.length<1000000):∀ n,n≤l.length→Uo vs off n=some ((l.take n).map fun d=>d.stops.length)
 |0,_=>rfl
 |n+1,hn=>by
  have ih:=wG hw hr hs n (by omega)
  have hd:=DT.drop (n*Enc.size VB) hr
  rw [LX l n (by omega)] at hd
  have hlen:=hr.length
  have e5:Enc.size VB=5:=rfl
  rw [e5] at hd
  have hws:∀ j,j<5→vs[off+n*5+j]?=(ws.drop (n*5))[j]?:=fun j hj=>by
   unfold takeN at hw
   split at hw
   case isFalse=>cases hw
   cases hw
   rw [List.getElem?_drop,List.getElem?_take,if_pos (by rw [BR,e5];omega),List.getElem?_drop]
   congr 1;omega
  generalize ws.drop (n*5)=us at hd hws
  have hn9:=hs n (by omega)
  have ee:Enc.enc (gi l n)=[.str (bs (gi l n).name),.bool (gi l n).EH,.int .i64 (gi l n).lo,.int .i64 (gi l n).hi,.lst 122 (cells (gi l n).stops) (gi l n).stops.length]:=rfl
  rw [ee] at hd
  cases hd with|cons a0 t =>
  cases t with|cons a1 t =>
  cases t with|cons a2 t =>
  cases t with|cons a3 t =>
  cases t with|cons a4 t =>
  cases a0;cases a1;cases a2;cases a3
  have h0:=hws 0 (by omega)
  have h1:=hws 1 (by omega)
  have h2:=hws 2 (by omega)
  have h3:=hws 3 (by omega)
  have h4:=hws 4 (by omega)
  rw [Nat.add_zero] at h0
  simp only [List.getElem?_cons_zero,List.getElem?_cons_succ] at h0 h1 h2 h3 h4
  unfold Uo
  rw [ih,DF (by omega),List.map_append]
  simp only [h0,h1,h2,h3,h4]
  generalize hq:(gi l n).stops.length=q at a4 hn9
  generalize cells (gi l n).stops=cc at a4
  cases a4<;>simp [hn9,hq]
theorem Xw {o:EN} (ho:Gi o) {e:TypeId}:a2d env 81 Tryz.f81 (Enc.enc o) e (Fh (Qx o)):=by
 intro Fo hFo m F c vs hc hr hF
 have hFo:dW 81=some Fo:=hFo
 rw [Ue] at hFo
 cases hFo
 have d1:=ho.Ap
 have ee:Enc.enc o=[.str (bs o.name),.lst 131 (cells o.ranks) o.ranks.length,.lst 97 (cells o.Ap) o.Ap.length,.lst 147 (cells o.BF) o.BF.length]:=rfl
 rw [ee] at hr
 cases hr with|cons a0 t =>
 cases t with|cons a1 t =>
 cases t with|cons a2 t =>
 cases t with|cons a3 t =>
 cases t
 rename_i v0 v1 v2 v3
 have hdl:(cells o.Ap).length=o.Ap.length*5:=BR _
 have hsl:∀ d,d<o.Ap.length→(gi o.Ap d).stops.length<1000000:=fun d hd=>by have:=ho.stops d hd;omega
 generalize hn:o.Ap.length=n at a2
 generalize hcs:cells o.Ap=cs at a2
 cases a2 with
 |nil=>omega
 |room=>omega
 |lst hF2 hm2 hw hr2 hc2 =>
  rename_i b off g us ws ro
  subst hn;subst hcs
  refine ⟨Qm (.slice (some ⟨b,off,none⟩) o.Ap.length g) (Qx o),fun m' F' σ' H' nx' hsame aS=>⟨m',?_⟩⟩
  rw [Tryz.ntmps81]
  refine tH (kr:=(Qm (.slice (some ⟨b,off,none⟩) o.Ap.length g) (Qx o),Fh (Qx o))) (a0y aS) ?_
  have q1:=(hsame c hF).trans hc
  have q2:=(hsame b hF2).trans hm2
  have q3:=wG hw hr2 hsl _ (Nat.le_refl _)
  rw [List.take_of_length_le (Nat.le_refl _)] at q3
  unfold RJ
  simp only [q1,q2]
  rw [if_pos ⟨by omega,by omega,trivial⟩,q3]
  rfl
theorem YI:env.O 81=some (UW (BO Tryz.prog 8 EG) (CX Tryz.prog 8 EG) 28 RJ):=Ue
theorem V9 (o:EN):(Bo o).length=KX (Qx o) (Qx o).length:=rfl
theorem YP (o:EN):Fh (Qx o)=(List.range (Bo o).length).map fun k=>V8 (gi (Bo o) k):=rfl
theorem Qd {ns:List Nat} {K:Nat} (h:∀ d,d<ns.length→gi ns d≤K):∀ n,n≤ns.length→KX ns n≤n*K
 |0,_=>Nat.zero_le _
 |n+1,hn=>by
  have ih:=Qd h n (by omega)
  have:=h n (by omega)
  rw [Jz,Nat.succ_mul]
  omega
theorem FT {o:EN} (ho:Gi o):(Bo o).length≤480:=by
 have h:=Qd (ns:=Qx o) (K:=60) (fun d hd=>by rw [ML] at hd;rw [V4 o hd];exact ho.stops d hd) (Qx o).length (Nat.le_refl _)
 rw [V9]
 have:=ho.Ap
 rw [ML] at h ⊢
 omega
theorem Q5 {L:Vm.Frame} {H:Vm.Heap} {nx:Nat} {Q:PV→Vm.Heap→Nat→Prop} {dst:Option Tmp} {ty:TypeId} {pos:String} {af:Array Edge} {gd:Option (Nat×Bool)} {fo:Operand} {args:Array Operand} {aT:Array TypeId} {fs cs xs:List PV} {c:Code}
 (hf:BD env.Γ L fo=some (.clo 53 fs cs)) (ha:evs env.Γ L args.toList=some xs) (hb:Tryz.f53.body=some c) (hn:(fs++xs++cs).length≤Tryz.f53.ntmps)
 (h:Ad env nx c (CS 0 (fs++xs++cs)) H nx (Bl env.P Tryz.f53.results.toList Q)):Aa env true ⟨dst,.call { callee:=.value fo,args:=args,argTypes:=aT },ty,pos,af,gd⟩ L H nx Q:=by
 have h0:(match Tryz.f53.body with|some c=>Hy env.G Tryz.f53 c|none=>false)=true:=by kernel_rfl
 rw [hb] at h0
 exact Aa.inline rfl hf ha (AB (by decide)) Tryz.func53 hb h0 hn h
theorem zL {L:Vm.Frame} {H:Vm.Heap} {nx:Nat} {Q:PV→Vm.Heap→Nat→Prop} {dst:Option Tmp} {ty:TypeId} {pos:String} {af:Array Edge} {gd:Option (Nat×Bool)} {fo:Operand} {args:Array Operand} {aT:Array TypeId} {fs cs xs:List PV} {c:Code}
 (hf:BD env.Γ L fo=some (.clo 80 fs cs)) (ha:evs env.Γ L args.toList=some xs) (hb:Tryz.f80.body=some c) (hn:(fs++xs++cs).length≤Tryz.f80.ntmps)
 (h:Ad env nx c (CS 0 (fs++xs++cs)) H nx (Bl env.P Tryz.f80.results.toList Q)):Aa env true ⟨dst,.call { callee:=.value fo,args:=args,argTypes:=aT },ty,pos,af,gd⟩ L H nx Q:=by
 have h0:(match Tryz.f80.body with|some c=>Hy env.G Tryz.f80 c|none=>false)=true:=by kernel_rfl
 rw [hb] at h0
 exact Aa.inline rfl hf ha (AB (by decide)) Tryz.func80 hb h0 hn h
def VR (o:EN) (k:Nat):List Oo:=(Bo o).take k
theorem xK (o:EN) {k:Nat} (h:k≤(Bo o).length):(VR o k).length=k:=by unfold VR;rw [List.length_take];omega
theorem rD (o:EN) {k:Nat} (h:k<(Bo o).length):VR o (k+1)=VR o k++[gi (Bo o) k]:=DF h
theorem vF (o:EN):VR o (Bo o).length=Bo o:=List.take_of_length_le (Nat.le_refl _)
theorem KP (o:EN) (ho:Gi o):BA env 52 [.clo 81 [] [.ref 0 0]] [(0,.box 37 ((Enc.enc o).map .p))] 1
 fun r H' nx'=>r=.vec 2 (Bo o).length 0 (Bo o).length∧H'=[(2,.vec 85 (cells (Bo o)) (Bo o).length true)]∧nx'=3:=by
 have hb:=FT ho
 refine BA.enter (AB (by decide)) Tryz.func52 rfl (by kernel_rfl) (by simp [Tryz.ntmps52]) ?_
 repeat' (first|apply Ad.assoc|apply Ad.AA|apply Ad.Ai|apply Af.nil|apply Af.one|(apply zL;rfl;rfl;rfl;exact le_dec rfl)|(apply Aa.assign;rfl)|(apply Aa.move;rfl)|(apply Aa.box;rfl;trivial))
 all_goals try (exfalso;omega)
 refine Ad.ghost (A8.EC 1 0 85 rfl rfl) ?_
 refine Ad.Xo (Bo o).length (fun k=>[.agg (Enc.enc (gi (Bo o) k))]) (fun k=>V8 (gi (Bo o) k)) [(2,.ref 1 0)]
  (fun k=>[(1,.box 59 [.vec 2 (VR o k).length 0 (VR o k).length]),(2,.vec 85 (cells (VR o k)) (VR o k).length true)]) 3 (fun _=>True)
  rfl rfl Tryz.func81 rfl YI (YP o) (fun _ _=>rfl) (fun _ _=>rfl) (fun k _ m F=>.cons (.agg (.cons (.int _ _) (.cons (.int _ _) .nil)) rfl) .nil) (by omega) ⟨by omega,?_,?_⟩ ?_ (Xw ho) trivial ?_ ?_
 ·repeat (first|exact Ak.nil|refine Ak.same (by exact PV.Ac rfl) rfl ?_|refine Ak.cons trivial rfl (.of_eq (Aq (by simp<;>omega))) ?_)
 ·repeat (first|exact Ah.nil|(refine Ah.cons (Aj rfl) ?_ rfl ?_ ?_;(first|exact HB.Ac rfl|exact AP.Ag _ _|(simp [HB.under,AP.under,PV.under]));(first|exact Bg.refl _|exact Bg.vec (Bf.refl _) (by simp))))
 ·repeat (first|exact Ak.nil|refine Ak.same (by exact PV.Ac rfl) rfl ?_|refine Ak.cons trivial rfl (.of_eq (Aq (by simp<;>omega))) ?_)
 ·intro k hk _
  have e1:=rD o hk
  have e2:(VR o (k+1)).length=(VR o k).length+1:=by rw [e1];simp
  have e3:=xK o (Nat.le_of_lt hk)
  repeat' (first|apply Ad.region|apply Af.nil|apply Af.one|(apply Aa.alloc;rfl)|(apply Aa.Bj;rfl;rfl;rfl;trivial;rfl;rfl;exact Aj rfl;exact le_dec rfl))
  refine ⟨rfl,?_⟩
  repeat' (first|apply Ad.region|apply AL.normal|apply Ad.Ih|apply Af.nil|apply Af.one|(apply Aa.Dv (a:=gi (Bo o) k);rfl;rfl;rfl;rfl;rfl;rfl;rfl;rfl;(intro _ h;cases h);rfl;rfl;rfl;decide;decide;(first|omega|(simp only [List.length_take,List.length_drop,List.length_append,List.length_singleton,List.length_cons,List.length_nil]<;>omega)))|(apply Aa.load;rfl;rfl)|(apply Aa.Bj;rfl;rfl;rfl;trivial;rfl;rfl;exact Aj rfl;exact le_dec rfl)|(apply Aa.buildSlice;rfl;rfl;rfl;decide;rfl;rfl;rfl))
  all_goals try (exfalso;omega)
  refine ⟨trivial,by omega,?_⟩
  rw [e2,e1]
  repeat (first|exact Ah.nil|(refine Ah.cons (Aj rfl) ?_ rfl ?_ ?_;(first|exact HB.Ac rfl|exact AP.Ag _ _|(simp [HB.under,AP.under,PV.under]));(first|exact Bg.refl _|exact Bg.vec (Bf.refl _) (by simp))))
 ·intro _
  rw [vF]
  repeat' (first|apply Ad.AA|apply AO.normal|(apply Bl.ret;rfl)|apply AL.normal|apply Ad.ret|apply Af.nil|apply Af.one|(apply Aa.assign;rfl)|(apply Aa.load;rfl;rfl))
  all_goals (refine Done.ret (H0:=[(2,.vec 85 (cells (Bo o)) (Bo o).length true)]) (DZ:=3) rfl (.refl _) (Aj rfl) ?_ (by omega) (by omega) ⟨rfl,rfl,rfl⟩)
  repeat (first|exact Ah.nil|(refine Ah.cons (Aj rfl) ?_ rfl ?_ ?_;(first|exact HB.Ac rfl|exact AP.Ag _ _|(simp [HB.under,AP.under,PV.under]));(first|exact Bg.refl _|exact Bg.vec (Bf.refl _) (by simp))))
theorem Un (r:Rgs) (hr:r.Ok) (p:Oo) (h1:p.d<r.stops.length) (h2:p.s<64):J5 env 79 ([.p (.agg (Enc.enc p))]++[.ref 0 0]) [(0,.box 41 ((Enc.enc r).map .p))] 1 (.bool (!FY r p)):=by
 have b1:=hr.stops p.d h1
 have hd:FY r p=(gi r.stops p.d / 2 ^ p.s % 2==1):=rfl
 rw [hd]
 have hm:=Nat.mod_lt (gi r.stops p.d / 2 ^ p.s) (show 0<2 by decide)
 have hq:gi r.stops p.d / 2 ^ p.s<18446744073709551616:=Nat.lt_of_le_of_lt (Nat.div_le_self _ _) b1
 have hv:(decide ((((gi r.stops p.d / 2 ^ p.s % 2:Nat)):Int)=0))=!(gi r.stops p.d / 2 ^ p.s % 2==1):=by
  have:gi r.stops p.d / 2 ^ p.s % 2=0∨gi r.stops p.d / 2 ^ p.s % 2=1:=by omega
  rcases this with h|h<;>rw [h]<;>rfl
 refine J5.enter (AB (by decide)) Tryz.func79 rfl (by kernel_rfl) (by simp [Tryz.ntmps79]) ?_
 repeat' (first|apply Ad.AA|apply Ad.BI|apply Ad.ret|apply Af.nil|apply Ar.nil|apply Af.one|(apply Ar.bar;decide +kernel)|apply Ar.quiet|(apply Aa.AV (l:=r.stops) (i:=p.d);rfl;rfl;rfl;exact h1;rfl)|(apply Aa.assign;rfl)|(apply Aa.Q9;rfl;rfl;omega)|(apply Aa.int;rfl;rfl;rfl)|(apply Aa.load;rfl;rfl)|(apply Aa.AQ;rfl;rfl;rfl)|(apply Aa.box;rfl;trivial)|(apply Aa.NU;rfl;rfl;(simp only [IntKind.bits];omega)))
 all_goals try (exfalso;omega)
 rw [← hv]
 all_goals (refine Done.ret rfl (.refl _) trivial ?_ (by omega) (Nat.le_refl _) ⟨?_,rfl,rfl⟩;repeat (first|exact Ah.nil|(refine Ah.cons (Aj rfl) ?_ rfl ?_ ?_;(first|exact HB.Ac rfl|exact AP.Ag _ _|(simp [HB.under,AP.under,PV.under]));(first|exact Bg.refl _|exact Bg.vec (Bf.refl _) (by simp))));try rfl)
theorem zK {L:Vm.Frame} {H:Vm.Heap} {nx:Nat} {Q:PV→Vm.Heap→Nat→Prop} {dst:Option Tmp} {ty:TypeId} {pos:String} {af:Array Edge} {gd:Option (Nat×Bool)} {fo:Operand} {args:Array Operand} {aT:Array TypeId} {fs cs xs:List PV} {c:Code}
 (hf:BD env.Γ L fo=some (.clo 78 fs cs)) (ha:evs env.Γ L args.toList=some xs) (hb:Tryz.f78.body=some c) (hn:(fs++xs++cs).length≤Tryz.f78.ntmps)
 (h:Ad env nx c (CS 0 (fs++xs++cs)) H nx (Bl env.P Tryz.f78.results.toList Q)):Aa env true ⟨dst,.call { callee:=.value fo,args:=args,argTypes:=aT },ty,pos,af,gd⟩ L H nx Q:=by
 have h0:(match Tryz.f78.body with|some c=>Hy env.G Tryz.f78 c|none=>false)=true:=by kernel_rfl
 rw [hb] at h0
 exact Aa.inline rfl hf ha (AB (by decide)) Tryz.func78 hb h0 hn h
theorem zS {L:Vm.Frame} {H:Vm.Heap} {nx:Nat} {Q:PV→Vm.Heap→Nat→Prop} {dst:Option Tmp} {ty:TypeId} {pos:String} {af:Array Edge} {gd:Option (Nat×Bool)} {fo:Operand} {args:Array Operand} {aT:Array TypeId} {fs cs xs:List PV} {c:Code}
 (hf:BD env.Γ L fo=some (.clo 105 fs cs)) (ha:evs env.Γ L args.toList=some xs) (hb:Tryz.f105.body=some c) (hn:(fs++xs++cs).length≤Tryz.f105.ntmps)
 (h:Ad env nx c (CS 0 (fs++xs++cs)) H nx (Bl env.P Tryz.f105.results.toList Q)):Aa env true ⟨dst,.call { callee:=.value fo,args:=args,argTypes:=aT },ty,pos,af,gd⟩ L H nx Q:=by
 have h0:(match Tryz.f105.body with|some c=>Hy env.G Tryz.f105 c|none=>false)=true:=by kernel_rfl
 rw [hb] at h0
 exact Aa.inline rfl hf ha (AB (by decide)) Tryz.func105 hb h0 hn h
theorem Rn {α:Type}:∀ (r cs:List α) (o:Nat) {k:Nat},k≤o→(Ce cs o r).take k=cs.take k
 |[],cs,o,k,h=>by simp [Ce]
 |a::r,cs,o,k,h=>by
  simp only [Ce]
  rw [Rn r (cs.set o a) (o+1) (by omega),List.take_set_of_le h]
theorem filter_all {α:Type} {P:α→Bool} {l:List α} [Inhabited α] (h:∀ i,i<l.length→P (gi l i)=true):l.filter P=l:=by
 rw [List.filter_eq_self]
 intro a ha
 obtain ⟨i,hi,rfl⟩:=List.getElem_of_mem ha
 have:=h i hi
 rwa [show gi l i=l[i] by unfold gi;rw [List.getElem?_eq_getElem hi];rfl] at this
structure RG {α:Type} (P:α→Bool) (l zs:List α) (i j:Nat):Prop where
 len:zs.length=l.length
 ij:i<j
 jn:j≤l.length
 keep:zs.take i=(l.take j).filter P
 rest:zs.drop j=l.drop j
theorem RG.at_ {α:Type} [Inhabited α] {P:α→Bool} {l zs:List α} {i j:Nat} (h:RG P l zs i j) (hj:j<l.length):gi zs j=gi l j:=by
 have:=congrArg (fun x=>gi x 0) h.rest
 simp only [gi,List.getElem?_drop,Nat.add_zero] at this
 exact this
theorem RG.skip {α:Type} [Inhabited α] {P:α→Bool} {l zs:List α} {i j:Nat} (h:RG P l zs i j) (hj:j<l.length) (hp:P (gi l j)=false):RG P l zs i (j+1):=by
 refine ⟨h.len,by have:=h.ij;omega,hj,?_,?_⟩
 ·rw [DF hj,List.filter_append,h.keep]
  simp [hp]
 ·have:=congrArg (List.drop 1) h.rest
  simpa [List.drop_drop] using this
theorem RG.put {α:Type} [Inhabited α] {P:α→Bool} {l zs:List α} {i j:Nat} (h:RG P l zs i j) (hj:j<l.length) (hp:P (gi l j)=true):RG P l (zs.set i (gi l j)) (i+1) (j+1):=by
 have h1:=h.ij
 have h2:=h.len
 refine ⟨by rw [List.length_set,h2],by omega,hj,?_,?_⟩
 ·rw [DF hj,List.filter_append,← h.keep,DF (by rw [List.length_set];omega),List.take_set_of_le (Nat.le_refl _)]
  have e:gi (zs.set i (gi l j)) i=gi l j:=by rw [PG,if_pos ⟨rfl,by omega⟩]
  rw [e]
  simp [hp]
 ·rw [List.drop_set_of_lt (by omega)]
  have:=congrArg (List.drop 1) h.rest
  simpa [List.drop_drop] using this
theorem RG.start {α:Type} [Inhabited α] {P:α→Bool} {l:List α} {k:Nat} (hk:k<l.length) (hp:P (gi l k)=false) (h:∀ i,i<k→P (gi l i)=true):RG P l l k (k+1):=by
 refine ⟨rfl,by omega,hk,?_,rfl⟩
 rw [DF hk,List.filter_append]
 have:(l.take k).filter P=l.take k:=filter_all fun i hi=>by
  rw [List.length_take] at hi
  have:=h i (by omega)
  rwa [show gi (l.take k) i=gi l i from by unfold gi;rw [List.getElem?_take,if_pos (by omega)]]
 rw [this]
 simp [hp]
theorem RG.fin {α:Type} [Inhabited α] {P:α→Bool} {l zs:List α} {i:Nat} (h:RG P l zs i l.length):zs.take i=l.filter P∧i=(l.filter P).length:=by
 have h1:=h.keep
 rw [List.take_of_length_le (Nat.le_refl _)] at h1
 refine ⟨h1,?_⟩
 rw [← h1,List.length_take,h.len]
 have:=h.ij
 omega
theorem Ov (o:EN) (ho:Gi o) (r:Rgs) (hr:r.Ok) (hl:r.stops.length=o.Ap.length) :
 AY env 51 [.agg (Enc.enc o),.agg (Enc.enc r)] (.p (.lst 85 (cells (BJ o r)) (BJ o r).length)):=by
 have hb:=FT ho
 have hcl:=KP o ho
 have hok:∀ i,i<(Bo o).length→(gi (Bo o) i).d<r.stops.length∧(gi (Bo o) i).s<64:=fun i hi=>by
  obtain ⟨h1,h2⟩:=Kt hi
  have:=ho.stops _ h1
  omega
 unfold BJ
 generalize Bo o=l at *
 refine AY.enter (AB (by decide)) Tryz.func51 rfl (by kernel_rfl) (by simp [Tryz.ntmps51]) ?_
 repeat' (first|apply Ad.assoc|apply Ad.AA|apply Ad.Ai|(apply Bl.ret;rfl)|apply Ad.ret|apply Af.nil|apply Af.one|(apply Q5;rfl;rfl;rfl;exact le_dec rfl)|(apply Aa.cZ [2] (hcl);rfl;rfl;exact .of_eq rfl;exact AP.Ac rfl;exact DJ rfl;(repeat (first|exact trivial|refine ⟨⟨_,rfl,.of_eq rfl⟩,?_⟩));decide;(intro _ hb;first|(simp at hb;done)|(simp at hb ⊢<;>omega));(rintro _ _ _ ⟨rfl,rfl,rfl⟩))|(apply Aa.makeFunc;rfl;rfl)|(apply zK;rfl;rfl;rfl;exact le_dec rfl)|(apply zS;rfl;rfl;rfl;exact le_dec rfl)|(apply Aa.assign;rfl)|(apply Aa.move;rfl)|(apply Aa.load;rfl;rfl)|(apply Aa.lenV;rfl;rfl;rfl)|(apply Aa.box;rfl;trivial))
 all_goals try (exfalso;omega)
 apply Ad.FK (l.length) (fun k=>∀ i,i<k→FY r (gi l i)=true) [(0,_),(1,_),(7,_)] [(4,_),(1,_)] (fun k r=>(8,.p (.int .i64 (k:Int)))::r) (fun k r=>r) 5
 ·first|omega|decide
 ·first|omega|decide
 ·repeat (first|exact Ak.nil|(refine Ak.eq rfl ?_ ?_;(first|exact PV.Ac rfl|(simp [PV.under,AP.under];done)))|refine Ak.cons trivial rfl (.of_eq (Aq (by simp<;>omega))) ?_)
 ·repeat (first|exact Ah.nil|(refine Ah.eq rfl (Aj rfl) ?_ ?_;(first|exact HB.Ac rfl|exact AP.Ag _ _|(simp [HB.under,AP.under,PV.under];done)))|(refine Ah.cons (Aj rfl) ?_ rfl ?_ ?_;(first|exact trivial|exact AP.Ag _ _|(simp [HB.under,AP.under,PV.under]));(first|exact Bg.refl _|exact Bg.vec (Bf.refl _) (by simp))))
 ·first|(intro _ _;omega)|omega|trivial
 ·intro k hk hi
  obtain ⟨g1,g2⟩:=hok k hk
  have hC:=Un r hr (gi l k) g1 g2
  by_cases hp:FY r (gi l k)=true
  ·rw [hp] at hC
   repeat' (first|apply Ad.AA|apply Ad.region|apply Ad.Au|apply Ad.Ai|apply AO.normal|apply AL.normal|apply Ad.skip|apply Af.nil|apply Af.one|(apply Aa.read [1] hC;rfl;rfl;exact .of_eq rfl;exact AP.Ac rfl;exact DJ rfl;(repeat (first|exact trivial|refine ⟨⟨_,rfl,.of_eq rfl⟩,?_⟩));decide;(intro _ hb;simp at hb<;>omega);rfl)|(apply Aa.assign;rfl)|(apply Aa.move;rfl)|(apply Aa.Bq;rfl;rfl;omega)|(apply Aa.int;rfl;rfl;rfl)|(apply Aa.Dk;rfl;rfl;omega;rfl)|(apply Aa.Df;rfl;rfl;rfl;rfl;omega)|(apply Ad.Ae;rfl)|(apply Ad.cond_false;rfl)|(intro _;try (exfalso;omega)))
   all_goals try (exfalso;omega)
   refine Aw.normal ⟨(all_succ hi hp),by first|omega|decide,?_,?_⟩
   ·repeat (first|exact Ak.nil|refine Ak.same (by exact PV.Ac rfl) rfl ?_|refine Ak.cons trivial rfl (.of_eq (Aq (by simp<;>omega))) ?_)
   ·repeat (first|exact Ah.nil|(refine Ah.cons (Aj rfl) ?_ rfl ?_ ?_;(first|exact HB.Ac rfl|exact AP.Ag _ _|(simp [HB.under,AP.under,PV.under]));(first|exact Bg.refl _|exact Bg.vec (Bf.refl _) (by simp))))
  ·have hp':FY r (gi l k)=false:=by cases h:FY r (gi l k)<;>simp_all
   rw [hp'] at hC
   repeat' (first|apply Ad.assoc|apply Ad.AA|apply Ad.Au|apply Ad.Ai|apply AO.ret|(apply Bl.ret;rfl)|apply AL.ret|apply Aw.ret|apply Ad.ret|apply Af.nil|apply Af.one|(apply Aa.read [1] hC;rfl;rfl;exact .of_eq rfl;exact AP.Ac rfl;exact DJ rfl;(repeat (first|exact trivial|refine ⟨⟨_,rfl,.of_eq rfl⟩,?_⟩));decide;(intro _ hb;simp at hb<;>omega);rfl)|(apply Aa.assign;rfl)|(apply Aa.move;rfl)|(apply Aa.Bq;rfl;rfl;omega)|(apply Aa.int;rfl;rfl;rfl)|(apply Aa.Dk;rfl;rfl;omega;rfl)|(apply Aa.Df;rfl;rfl;rfl;rfl;omega)|(apply Ad.Az;rfl)|(apply Ad.Ae;rfl)|(apply Ad.cond_true;rfl)|(intro _;try (exfalso;omega)))
   all_goals try (exfalso;omega)
   refine Ad.D8 (fun s:List Oo×Nat×Nat=>[(0,.vec 4 l.length 0 l.length),(1,.clo 79 [] [.ref 1 0]),(5,.p (.int .i64 (s.2.1:Int))),(6,.p (.int .i64 (s.2.2:Int)))]) (fun s=>[(4,.vec 85 (cells s.1) l.length true),(1,.box 41 ((Enc.enc r).map .p))]) 5 (fun s=>RG (FY r) l s.1 s.2.1 s.2.2) (fun s=>l.length-s.2.2) (l,k,k+1) (by decide) (RG.start hk hp' hi) ⟨by decide,?_,?_⟩ ?_
   ·repeat (first|exact Ak.nil|refine Ak.same (by exact PV.Ac rfl) rfl ?_|refine Ak.cons trivial rfl (.of_eq (Aq (by simp<;>omega))) ?_)
   ·repeat (first|exact Ah.nil|(refine Ah.cons (Aj rfl) ?_ rfl ?_ ?_;(first|exact HB.Ac rfl|exact AP.Ag _ _|(simp [HB.under,AP.under,PV.under]));(first|exact Bg.refl _|exact Bg.vec (Bf.refl _) (by simp))))
   rintro ⟨zs,i,j⟩ hD
   simp only at hD ⊢
   have z1:=hD.len
   have z2:=hD.ij
   have z3:=hD.jn
   by_cases hj:j<l.length
   ·obtain ⟨g3,g4⟩:=hok j hj
    have hC2:=Un r hr (gi l j) g3 g4
    have hz:=hD.at_ hj
    by_cases hq:FY r (gi l j)=true
    ·rw [hq] at hC2
     rw [← hz] at hC2
     repeat' (first|apply Ad.assoc|apply Ad.AA|apply Ad.region|apply Ad.Au|apply Ad.Ai|apply AO.normal|apply AL.normal|apply Af.nil|apply Af.one|(apply Aa.read [1] hC2;rfl;rfl;exact .of_eq rfl;exact AP.Ac rfl;exact DJ rfl;(repeat (first|exact trivial|refine ⟨⟨_,rfl,.of_eq rfl⟩,?_⟩));decide;(intro _ hb;simp at hb<;>omega);rfl)|(apply Aa.D6 (y:=gi zs j);rfl;rfl;rfl;trivial;(first|rfl|(refine congrArg (fun t=>[PV.p (FV.int _ t)]) ?_;first|omega|(simp only [Int.natCast_add,Int.natCast_mul,Int.natCast_ediv,Int.natCast_emod]<;>omega)));rfl;rfl;decide;(first|omega|(simp only [List.length_set]<;>omega)))|(apply Aa.assign;rfl)|(apply Aa.move;rfl)|(apply Aa.Bq;rfl;rfl;omega)|(apply Aa.int;rfl;rfl;rfl)|(apply Aa.Dk;rfl;rfl;omega;rfl)|(apply Aa.load;rfl;rfl)|(apply Aa.lenV;rfl;rfl;rfl)|(apply Aa.alloc;rfl)|(apply Aa.Bj;rfl;rfl;rfl;trivial;rfl;rfl;exact Aj rfl;exact le_dec rfl)|(apply Aa.Df;rfl;rfl;rfl;rfl;omega)|(apply Aa.not;rfl)|(apply Ad.Ae;rfl)|(apply Ad.cond_true;rfl)|(intro _;try (exfalso;omega)))
     all_goals try (exfalso;omega)
     refine Aw.normal ⟨(zs.set i (gi l j),i+1,j+1),hD.put hj hq,by simp only;omega,⟨by omega,?_,?_⟩⟩
     ·repeat (first|exact Ak.nil|refine Ak.same (by exact PV.Ac rfl) rfl ?_|refine Ak.cons trivial rfl (.of_eq (Aq (by simp<;>omega))) ?_)
     ·rw [← hz]
      repeat (first|exact Ah.nil|(refine Ah.cons (Aj rfl) ?_ rfl ?_ ?_;(first|exact HB.Ac rfl|exact AP.Ag _ _|(simp [HB.under,AP.under,PV.under]));(first|exact Bg.refl _|exact Bg.vec (Bf.refl _) (by simp))))
    ·have hq':FY r (gi l j)=false:=by cases h:FY r (gi l j)<;>simp_all
     rw [hq'] at hC2
     rw [← hz] at hC2
     repeat' (first|apply Ad.assoc|apply Ad.AA|apply Ad.region|apply Ad.Au|apply Ad.Ai|apply AO.normal|apply AL.normal|apply Ad.skip|apply Af.nil|apply Af.one|(apply Aa.read [1] hC2;rfl;rfl;exact .of_eq rfl;exact AP.Ac rfl;exact DJ rfl;(repeat (first|exact trivial|refine ⟨⟨_,rfl,.of_eq rfl⟩,?_⟩));decide;(intro _ hb;simp at hb<;>omega);rfl)|(apply Aa.assign;rfl)|(apply Aa.move;rfl)|(apply Aa.Bq;rfl;rfl;omega)|(apply Aa.int;rfl;rfl;rfl)|(apply Aa.Dk;rfl;rfl;omega;rfl)|(apply Aa.load;rfl;rfl)|(apply Aa.lenV;rfl;rfl;rfl)|(apply Aa.alloc;rfl)|(apply Aa.Bj;rfl;rfl;rfl;trivial;rfl;rfl;exact Aj rfl;exact le_dec rfl)|(apply Aa.Df;rfl;rfl;rfl;rfl;omega)|(apply Aa.not;rfl)|(apply Ad.Ae;rfl)|(apply Ad.cond_false;rfl)|(intro _;try (exfalso;omega)))
     all_goals try (exfalso;omega)
     refine Aw.normal ⟨(zs,i,j+1),hD.skip hj hq',by simp only;omega,⟨by omega,?_,?_⟩⟩
     ·repeat (first|exact Ak.nil|refine Ak.same (by exact PV.Ac rfl) rfl ?_|refine Ak.cons trivial rfl (.of_eq (Aq (by simp<;>omega))) ?_)
     ·repeat (first|exact Ah.nil|(refine Ah.cons (Aj rfl) ?_ rfl ?_ ?_;(first|exact HB.Ac rfl|exact AP.Ag _ _|(simp [HB.under,AP.under,PV.under]));(first|exact Bg.refl _|exact Bg.vec (Bf.refl _) (by simp))))
   ·obtain rfl:j=l.length:=by omega
    obtain ⟨f1,f2⟩:=hD.fin
    rw [← f1,show (zs.take i).length=i by rw [List.length_take];omega]
    have hps:∀ xs,((Ce (cells zs) (0+i*2) xs).take (i*2))=cells (zs.take i):=fun xs=>by
     rw [Rn _ _ _ (show i*2≤0+i*2 by omega)]
     exact JO zs i
    have hpl:∀ xs,i*2≤(Ce (cells zs) (0+i*2) xs).length:=fun xs=>by
     rw [UM,BR,z1]
     show i*2≤l.length*2
     omega
    repeat' (first|(refine Af.IU 4 ?_;refine Af.ghost (A8.xG 9 (i*2) rfl rfl (by omega) (hpl _)) ?_)|apply Ad.assoc|apply Ad.AA|apply Ad.AX|apply AO.normal|(apply Bl.ret;rfl)|apply AL.exit|apply Aw.exit|apply Ad.ret|apply Af.nil|apply Af.one|(apply Aa.Zn (sz:=2) (a:=i) (c:=l.length);rfl;rfl;omega;rfl;rfl;rfl;exact ⟨_,rfl⟩;rfl;omega;exact Nat.le_refl _)|(apply Aa.Zn (sz:=2) (a:=0) (c:=i);rfl;rfl;omega;rfl;rfl;rfl;rfl;exact ⟨_,rfl⟩;omega;omega)|(apply Aa.clear;rfl;rfl;omega;omega;rfl;rfl;rfl;decide;(rw [BR,z1];show 0+i*2+(l.length-i)*2≤l.length*2;omega))|(apply Aa.assign;rfl)|(apply Aa.move;rfl)|(apply Aa.int;rfl;rfl;rfl)|(apply Aa.lenV;rfl;rfl;rfl)|(apply Ad.Ae;rfl)|(intro _;try (exfalso;omega)))
    all_goals first|(exfalso;omega)|(refine Done.ret rfl (.refl _) (by exact PV.Ac rfl) Ah.nil (Nat.zero_le _) (Nat.le_refl _) ⟨?_,rfl,rfl⟩;exact congrArg (fun c=>PV.p (FV.lst 85 c i)) (hps _))
 ·intro hi
  rw [filter_all hi]
  repeat' (first|(refine Af.IU 4 ?_;refine Af.ghost (A8.freeze 9 rfl rfl) ?_)|apply Ad.assoc|apply Ad.AA|apply Ad.BL|apply Ad.AX|apply AO.normal|(apply Bl.ret;rfl)|apply AL.exit|apply Aw.exit|apply Ad.ret|apply Af.nil|apply Af.one|(apply Aa.assign;rfl)|(apply Aa.move;rfl)|(apply Aa.int;rfl;rfl;rfl)|(apply Ad.Bh;rfl)|(apply Ad.Ae;rfl)|(intro _;try (exfalso;omega)))
  all_goals first|(exfalso;omega)|(refine Done.ret rfl (.refl _) (by exact PV.Ac rfl) Ah.nil (Nat.zero_le _) (Nat.le_refl _) ⟨?_,rfl,rfl⟩;try rfl)
end Go.Proofs.YtdabojnmoejilaaGreatDoor
namespace Go.Proofs.YtdabojnmoejilaaGreatDoor
open Go Go.Am Go.Vm Go.Tra
attribute [local irreducible] Aa Af Ar Ad BA AY CG AO AL Aw Vm.Done CW Bl
attribute [local irreducible] DR Dw Io Jd Nh BU
theorem qp (o:EN) (ho:Gi o) (r:Rgs) (hr:r.Ok):AY env 36 [.agg (Enc.enc o),.agg (Enc.enc r)] (.p (.int .i64 (Qw o r))):=by
 have r2:=ho.Ap
 have r3:=ho.BF
 have c1:=hr.cp
 have c2:=hr.off
 have c3:=hr.len
 have hc:=Oa o ho.sm
 rw [ho.err] at hc
 refine AY.enter (AB (by decide)) Tryz.func36 rfl (by kernel_rfl) (by simp [Tryz.ntmps36]) ?_
 by_cases h1:r.stops.length=o.Ap.length
 case neg =>
  rw [iC h1]
  repeat' (first|apply Ad.assoc|apply Ad.AA|apply Ad.Au|apply Ad.BL|apply Af.nil|apply Af.one|(apply Aa.fn;rfl;rfl;exact hc;intro _;rfl)|(apply Aa.assign;rfl)|(apply Aa.move;rfl)|(apply Aa.int;rfl;rfl;rfl)|(apply Aa.load;rfl;rfl)|(apply Aa.BH;rfl;rfl)|(apply Aa.AQ;rfl;rfl;rfl)|(apply Aa.box;rfl;trivial)|(apply Ad.Az;rfl)|(apply Ad.Ae;rfl)|(intro _;try (exfalso;omega)))
  all_goals first|(exfalso;omega)|contradiction|(refine Done.ret rfl (.refl _) (by exact PV.Ac rfl) Ah.nil (Nat.zero_le _) (Nat.le_refl _) ⟨?_,rfl,rfl⟩;try rfl)
 by_cases h2:∀ i,i<r.stops.length→gi r.stops i / 2 ^ (gi o.Ap i).stops.length=0
 case neg =>
  obtain ⟨i,hi⟩:=Classical.not_forall.1 h2
  obtain ⟨hi,h3⟩:=Classical.not_imp.1 hi
  rw [yx h1 hi h3]
  clear h2
  repeat' (first|apply Ad.assoc|apply Ad.AA|apply Ad.Au|apply Ad.Ai|apply Af.nil|apply Af.one|(apply Aa.fn;rfl;rfl;exact hc;intro _;rfl)|(apply Aa.assign;rfl)|(apply Aa.move;rfl)|(apply Aa.int;rfl;rfl;rfl)|(apply Aa.load;rfl;rfl)|(apply Aa.BH;rfl;rfl)|(apply Aa.AQ;rfl;rfl;rfl)|(apply Aa.box;rfl;trivial)|(apply Ad.Az;rfl)|(apply Ad.Ae;rfl)|(intro _;try (exfalso;omega)))
  all_goals try (exfalso;omega)
  all_goals try contradiction
  apply Ad.FK (o.Ap.length) (fun k=>∀ i,i<k→gi r.stops i / 2 ^ (gi o.Ap i).stops.length=0) [(2,_),(3,_),(21,_),(22,_)] [(0,_),(1,_)] (fun k r=>(23,.p (.int .i64 (k:Int)))::r) (fun k r=>r) 2
  ·first|omega|decide
  ·first|omega|decide
  ·repeat (first|exact Ak.nil|(refine Ak.eq rfl ?_ ?_;(first|exact PV.Ac rfl|(simp [PV.under,AP.under];done)))|refine Ak.cons trivial rfl (.of_eq (Aq (by simp<;>omega))) ?_)
  ·repeat (first|exact Ah.nil|(refine Ah.eq rfl (Aj rfl) ?_ ?_;(first|exact HB.Ac rfl|exact AP.Ag _ _|(simp [HB.under,AP.under,PV.under];done)))|(refine Ah.cons (Aj rfl) ?_ rfl ?_ ?_;(first|exact trivial|exact AP.Ag _ _|(simp [HB.under,AP.under,PV.under]));(first|exact Bg.refl _|exact Bg.vec (Bf.refl _) (by simp))))
  ·first|(intro _ _;omega)|omega|trivial
  ·intro k hk hok
   have s3:=ho.stops k (by omega)
   have rk:=hr.stops k (by omega)
   by_cases hb:gi r.stops k / 2 ^ (gi o.Ap k).stops.length=0
   ·repeat' (first|apply Ad.AA|apply Ad.BI|apply Ad.region|apply Ad.Au|apply Ad.Ai|apply AO.normal|apply AL.normal|apply Ad.skip|apply Af.nil|apply Ar.nil|apply Af.one|(apply Ar.bar;decide +kernel)|apply Ar.quiet|(apply Aa.assign;rfl)|(apply Aa.move;rfl)|(apply Aa.Bq;rfl;rfl;omega)|(apply Aa.int;rfl;rfl;rfl)|(apply Aa.AV;rfl;rfl;rfl;omega;rfl)|(apply Aa.load;rfl;rfl)|(apply Aa.BH;rfl;rfl)|(apply Aa.AQ;rfl;rfl;rfl)|(apply Aa.alloc;rfl)|(apply Aa.Bj;rfl;rfl;rfl;trivial;rfl;rfl;exact Aj rfl;exact le_dec rfl)|(apply Aa.NU;rfl;rfl;(simp only [IntKind.bits];omega))|(apply Ad.Ae;rfl)|(apply Ad.AZ;rfl)|(intro _;try (exfalso;omega)))
    all_goals try (exfalso;omega)
    all_goals try contradiction
    refine Aw.normal ⟨(all_succ hok hb),by first|omega|decide,?_,?_⟩
    ·repeat (first|exact Ak.nil|refine Ak.same (by exact PV.Ac rfl) rfl ?_|refine Ak.cons trivial rfl (.of_eq (Aq (by simp<;>omega))) ?_)
    ·repeat (first|exact Ah.nil|(refine Ah.cons (Aj rfl) ?_ rfl ?_ ?_;(first|exact HB.Ac rfl|exact AP.Ag _ _|(simp [HB.under,AP.under,PV.under]));(first|exact Bg.refl _|exact Bg.vec (Bf.refl _) (by simp))))
   ·repeat' (first|apply Ad.AA|apply Ad.BI|apply Ad.Au|apply Ad.Ai|apply AO.ret|apply AL.ret|apply Aw.ret|apply Ad.ret|apply Af.nil|apply Ar.nil|apply Af.one|(apply Ar.bar;decide +kernel)|apply Ar.quiet|(apply Aa.assign;rfl)|(apply Aa.move;rfl)|(apply Aa.int;rfl;rfl;rfl)|(apply Aa.AV;rfl;rfl;rfl;omega;rfl)|(apply Aa.load;rfl;rfl)|(apply Aa.BH;rfl;rfl)|(apply Aa.AQ;rfl;rfl;rfl)|(apply Aa.alloc;rfl)|(apply Aa.Bj;rfl;rfl;rfl;trivial;rfl;rfl;exact Aj rfl;exact le_dec rfl)|(apply Aa.NU;rfl;rfl;(simp only [IntKind.bits];omega))|(apply Ad.Ae;rfl)|(apply Ad.AZ;rfl)|(intro _;try (exfalso;omega)))
    all_goals first|(exfalso;omega)|contradiction|(refine Done.ret rfl (.refl _) (by exact PV.Ac rfl) Ah.nil (Nat.zero_le _) (Nat.le_refl _) ⟨?_,rfl,rfl⟩;try rfl)
  ·intro hok
   exact absurd (hok i (by omega)) h3
 rw [Tj h1 h2]
 repeat' (first|apply Ad.assoc|apply Ad.AA|apply Ad.Au|apply Ad.Ai|apply Af.nil|apply Af.one|(apply Aa.fn;rfl;rfl;exact hc;intro _;rfl)|(apply Aa.assign;rfl)|(apply Aa.move;rfl)|(apply Aa.int;rfl;rfl;rfl)|(apply Aa.load;rfl;rfl)|(apply Aa.BH;rfl;rfl)|(apply Aa.AQ;rfl;rfl;rfl)|(apply Aa.box;rfl;trivial)|(apply Ad.Az;rfl)|(apply Ad.Ae;rfl)|(intro _;try (exfalso;omega)))
 all_goals try (exfalso;omega)
 all_goals try contradiction
 apply Ad.FK (o.Ap.length) (fun k=>∀ i,i<k→gi r.stops i / 2 ^ (gi o.Ap i).stops.length=0) [(2,_),(3,_),(21,_),(22,_)] [(0,_),(1,_)] (fun k r=>(23,.p (.int .i64 (k:Int)))::r) (fun k r=>r) 2
 ·first|omega|decide
 ·first|omega|decide
 ·repeat (first|exact Ak.nil|(refine Ak.eq rfl ?_ ?_;(first|exact PV.Ac rfl|(simp [PV.under,AP.under];done)))|refine Ak.cons trivial rfl (.of_eq (Aq (by simp<;>omega))) ?_)
 ·repeat (first|exact Ah.nil|(refine Ah.eq rfl (Aj rfl) ?_ ?_;(first|exact HB.Ac rfl|exact AP.Ag _ _|(simp [HB.under,AP.under,PV.under];done)))|(refine Ah.cons (Aj rfl) ?_ rfl ?_ ?_;(first|exact trivial|exact AP.Ag _ _|(simp [HB.under,AP.under,PV.under]));(first|exact Bg.refl _|exact Bg.vec (Bf.refl _) (by simp))))
 ·first|(intro _ _;omega)|omega|trivial
 ·intro k hk hok
  have s3:=ho.stops k (by omega)
  have rk:=hr.stops k (by omega)
  have hb:=h2 k (by omega)
  repeat' (first|apply Ad.AA|apply Ad.BI|apply Ad.region|apply Ad.Au|apply Ad.Ai|apply AO.normal|apply AL.normal|apply Ad.skip|apply Af.nil|apply Ar.nil|apply Af.one|(apply Ar.bar;decide +kernel)|apply Ar.quiet|(apply Aa.assign;rfl)|(apply Aa.move;rfl)|(apply Aa.Bq;rfl;rfl;omega)|(apply Aa.int;rfl;rfl;rfl)|(apply Aa.AV;rfl;rfl;rfl;omega;rfl)|(apply Aa.load;rfl;rfl)|(apply Aa.BH;rfl;rfl)|(apply Aa.AQ;rfl;rfl;rfl)|(apply Aa.alloc;rfl)|(apply Aa.Bj;rfl;rfl;rfl;trivial;rfl;rfl;exact Aj rfl;exact le_dec rfl)|(apply Aa.NU;rfl;rfl;(simp only [IntKind.bits];omega))|(apply Ad.Ae;rfl)|(apply Ad.AZ;rfl)|(intro _;try (exfalso;omega)))
  all_goals try (exfalso;omega)
  all_goals try contradiction
  refine Aw.normal ⟨(fun j hj=>h2 j (by omega)),by first|omega|decide,?_,?_⟩
  ·repeat (first|exact Ak.nil|refine Ak.same (by exact PV.Ac rfl) rfl ?_|refine Ak.cons trivial rfl (.of_eq (Aq (by simp<;>omega))) ?_)
  ·repeat (first|exact Ah.nil|(refine Ah.cons (Aj rfl) ?_ rfl ?_ ?_;(first|exact HB.Ac rfl|exact AP.Ag _ _|(simp [HB.under,AP.under,PV.under]));(first|exact Bg.refl _|exact Bg.vec (Bf.refl _) (by simp))))
 ·intro hok
  by_cases h4:r.cp / 2 ^ o.BF.length=0
  ·by_cases h5:r.off / 2 ^ o.Ap.length=0
   ·rw [if_neg (by omega)]
    repeat' (first|apply Ad.assoc|apply Ad.AA|apply Ad.Au|apply Ad.AX|apply AO.normal|apply AL.exit|apply Aw.exit|apply Ad.ret|apply Af.nil|apply Af.one|(apply Af.take;rfl;rfl)|(apply Af.guard;rfl;rfl)|(apply Aa.assign;rfl)|(apply Aa.move;rfl)|(apply Aa.int;rfl;rfl;rfl)|(apply Aa.load;rfl;rfl)|(apply Aa.AU;rfl;rfl)|(apply Aa.BH;rfl;rfl)|(apply Aa.AQ;rfl;rfl;rfl)|(apply Aa.NU;rfl;rfl;(simp only [IntKind.bits];omega))|(apply Ad.Ae;rfl)|(intro _;try (exfalso;omega)))
    all_goals first|(exfalso;omega)|contradiction|(refine Done.ret rfl (.refl _) (by exact PV.Ac rfl) Ah.nil (Nat.zero_le _) (Nat.le_refl _) ⟨?_,rfl,rfl⟩;try rfl)
   ·rw [if_pos (.inr h5)]
    repeat' (first|apply Ad.assoc|apply Ad.AA|apply Ad.BL|apply Ad.AX|apply AO.normal|apply AL.exit|apply Aw.exit|apply Af.nil|apply Af.one|(apply Af.take;rfl;rfl)|(apply Af.guard;rfl;rfl)|(apply Aa.assign;rfl)|(apply Aa.move;rfl)|(apply Aa.int;rfl;rfl;rfl)|(apply Aa.load;rfl;rfl)|(apply Aa.AU;rfl;rfl)|(apply Aa.BH;rfl;rfl)|(apply Aa.AQ;rfl;rfl;rfl)|(apply Aa.NU;rfl;rfl;(simp only [IntKind.bits];omega))|(apply Ad.Ae;rfl)|(intro _;try (exfalso;omega)))
    all_goals first|(exfalso;omega)|contradiction|(refine Done.ret rfl (.refl _) (by exact PV.Ac rfl) Ah.nil (Nat.zero_le _) (Nat.le_refl _) ⟨?_,rfl,rfl⟩;try rfl)
  ·rw [if_pos (.inl h4)]
   repeat' (first|apply Ad.assoc|apply Ad.AA|apply Ad.BL|apply Ad.AX|apply AO.normal|apply AL.exit|apply Aw.exit|apply Af.nil|apply Af.one|(apply Af.drop;rfl;rfl;rfl)|(apply Af.guard;rfl;rfl)|(apply Aa.assign;rfl)|(apply Aa.move;rfl)|(apply Aa.int;rfl;rfl;rfl)|(apply Aa.load;rfl;rfl)|(apply Aa.Bz;rfl;rfl)|(apply Aa.BH;rfl;rfl)|(apply Aa.AQ;rfl;rfl;rfl)|(apply Aa.NU;rfl;rfl;(simp only [IntKind.bits];omega))|(apply Ad.Bh;rfl)|(apply Ad.Ae;rfl)|(intro _;try (exfalso;omega)))
   all_goals first|(exfalso;omega)|contradiction|(refine Done.ret rfl (.refl _) (by exact PV.Ac rfl) Ah.nil (Nat.zero_le _) (Nat.le_refl _) ⟨?_,rfl,rfl⟩;try rfl)
def jO (w:aP):List Int:=[w.Fq,w.LG,w.EH,w.miss]
def NH (w:aP):Prop:=∀ i,i<4→0≤gi (jO w) i∧gi (jO w) i≤100000
noncomputable def jX (q:Iu):Int :=
 open Classical in
 if KW q.BG≠0 then KW q.BG else if Qw q.BG q.reg≠0 then Qw q.BG q.reg else if KW q.tgt≠0 then KW q.tgt
 else if ¬ NH q.Iq then 3 else if (BJ q.BG q.reg).length>60∨(Bo q.tgt).length>120 then 4 else 0
theorem yh (w:aP) {k:Nat} (h:k<4):[FV.int .i64 w.Fq,.int .i64 w.LG,.int .i64 w.EH,.int .i64 w.miss][((k:Nat):Int).toNat*1]?=some (.int .i64 (gi (jO w) k)):=by
 rw [Int.toNat_natCast]
 match k,h with
 |0,_=>rfl
 |1,_=>rfl
 |2,_=>rfl
 |3,_=>rfl
theorem oI {o:EN} {r:Rgs} (h:Qw o r=0):r.stops.length=o.Ap.length:=Classical.byContradiction fun h1=>by rw [iC h1] at h;cases h
theorem Ou (q:Iu) (h1:Pg q.BG) (h2:Pg q.tgt) (hr:q.reg.Ok):AY env 26 [.agg (Enc.enc q)] (.p (.int .i64 (jX q))):=by
 have hcF:=Oa q.BG h1
 unfold jX
 refine AY.enter (AB (by decide)) Tryz.func26 rfl (by kernel_rfl) (by simp [Tryz.ntmps26]) ?_
 by_cases e1:KW q.BG=0
 case neg =>
  rw [if_pos e1]
  repeat' (first|apply Ad.assoc|apply Ad.AA|apply Ad.BL|apply Af.nil|apply Af.one|(apply Aa.fn;rfl;rfl;exact hcF;intro _;rfl)|(apply Aa.assign;rfl)|(apply Aa.move;rfl)|(apply Aa.int;rfl;rfl;rfl)|(apply Aa.load;rfl;rfl)|(apply Aa.AQ;rfl;rfl;rfl)|(apply Aa.box;rfl;trivial)|(apply Ad.Ae;rfl)|(intro _;try (exfalso;omega)))
  all_goals first|(exfalso;omega)|contradiction|(refine Done.ret rfl (.refl _) (by exact PV.Ac rfl) Ah.nil (Nat.zero_le _) (Nat.le_refl _) ⟨?_,rfl,rfl⟩;try rfl)
 rw [if_neg (fun h=>h e1)]
 rw [e1] at hcF
 have k1:=yY h1 e1
 have hcR:=qp q.BG k1 q.reg hr
 by_cases e2:Qw q.BG q.reg=0
 case neg =>
  rw [if_pos e2]
  repeat' (first|apply Ad.assoc|apply Ad.AA|apply Ad.Au|apply Ad.BL|apply Af.nil|apply Af.one|(apply Aa.fn;rfl;rfl;exact hcF;intro _;rfl)|(apply Aa.fn;rfl;rfl;exact hcR;intro _;rfl)|(apply Aa.assign;rfl)|(apply Aa.move;rfl)|(apply Aa.int;rfl;rfl;rfl)|(apply Aa.load;rfl;rfl)|(apply Aa.AQ;rfl;rfl;rfl)|(apply Aa.box;rfl;trivial)|(apply Ad.Az;rfl)|(apply Ad.Ae;rfl)|(intro _;try (exfalso;omega)))
  all_goals first|(exfalso;omega)|contradiction|(refine Done.ret rfl (.refl _) (by exact PV.Ac rfl) Ah.nil (Nat.zero_le _) (Nat.le_refl _) ⟨?_,rfl,rfl⟩;try rfl)
 rw [if_neg (fun h=>h e2)]
 rw [e2] at hcR
 have hcT:=Oa q.tgt h2
 by_cases e3:KW q.tgt=0
 case neg =>
  rw [if_pos e3]
  repeat' (first|apply Ad.assoc|apply Ad.AA|apply Ad.Au|apply Ad.BL|apply Af.nil|apply Af.one|(apply Aa.fn;rfl;rfl;exact hcF;intro _;rfl)|(apply Aa.fn;rfl;rfl;exact hcR;intro _;rfl)|(apply Aa.fn;rfl;rfl;exact hcT;intro _;rfl)|(apply Aa.assign;rfl)|(apply Aa.move;rfl)|(apply Aa.int;rfl;rfl;rfl)|(apply Aa.load;rfl;rfl)|(apply Aa.AQ;rfl;rfl;rfl)|(apply Aa.box;rfl;trivial)|(apply Ad.Az;rfl)|(apply Ad.Ae;rfl)|(intro _;try (exfalso;omega)))
  all_goals first|(exfalso;omega)|contradiction|(refine Done.ret rfl (.refl _) (by exact PV.Ac rfl) Ah.nil (Nat.zero_le _) (Nat.le_refl _) ⟨?_,rfl,rfl⟩;try rfl)
 rw [if_neg (fun h=>h e3)]
 rw [e3] at hcT
 have k2:=yY h2 e3
 have hdr:=Ov q.BG k1 q.reg hr (oI e2)
 have hcl:=KP q.tgt k2
 have b1:=FT k2
 have b2:(BJ q.BG q.reg).length≤480:=by
  have:=FT k1
  have:(BJ q.BG q.reg).length≤(Bo q.BG).length:=List.length_filter_le _ _
  omega
 by_cases e4:NH q.Iq
 case neg =>
  rw [if_pos e4]
  repeat' (first|apply Ad.assoc|apply Ad.AA|apply Ad.Au|apply Ad.Ai|apply Af.nil|apply Af.one|(apply Aa.fn;rfl;rfl;exact hcF;intro _;rfl)|(apply Aa.fn;rfl;rfl;exact hcR;intro _;rfl)|(apply Aa.fn;rfl;rfl;exact hcT;intro _;rfl)|(apply Aa.sN;rfl;rfl;rfl;rfl;rfl)|(apply Aa.assign;rfl)|(apply Aa.move;rfl)|(apply Aa.int;rfl;rfl;rfl)|(apply Aa.load;rfl;rfl)|(apply Aa.AQ;rfl;rfl;rfl)|(apply Aa.box;rfl;trivial)|(apply Ad.Az;rfl))
  all_goals try (exfalso;omega)
  all_goals try contradiction
  apply Ad.FK (4) (fun k=>∀ i,i<k→0≤gi (jO q.Iq) i∧gi (jO q.Iq) i≤100000) [(1,_),(40,_)] [(0,_)] (fun k r=>(41,.p (.int .i64 (k:Int)))::r) (fun k r=>r) 1
  ·first|omega|decide
  ·first|omega|decide
  ·repeat (first|exact Ak.nil|(refine Ak.eq rfl ?_ ?_;(first|exact PV.Ac rfl|(simp [PV.under,AP.under];done)))|refine Ak.cons trivial rfl (.of_eq (Aq (by simp<;>omega))) ?_)
  ·repeat (first|exact Ah.nil|(refine Ah.eq rfl (Aj rfl) ?_ ?_;(first|exact HB.Ac rfl|exact AP.Ag _ _|(simp [HB.under,AP.under,PV.under];done)))|(refine Ah.cons (Aj rfl) ?_ rfl ?_ ?_;(first|exact trivial|exact AP.Ag _ _|(simp [HB.under,AP.under,PV.under]));(first|exact Bg.refl _|exact Bg.vec (Bf.refl _) (by simp))))
  ·first|(intro _ _;omega)|omega|trivial
  ·intro k hk hi
   have hw:=yh q.Iq hk
   by_cases hb:0≤gi (jO q.Iq) k∧gi (jO q.Iq) k≤100000
   ·repeat' (first|apply Ad.AA|apply Ad.region|apply Ad.Au|apply Ad.Ai|apply AO.normal|apply AL.normal|apply Ad.skip|apply Af.nil|apply Af.one|(apply Af.take;rfl;rfl)|(apply Af.guard;rfl;rfl)|(apply Aa.kR;rfl;rfl;rfl;rfl;rfl;omega;exact hw)|(apply Aa.assign;rfl)|(apply Aa.move;rfl)|(apply Aa.Bq;rfl;rfl;omega)|(apply Aa.int;rfl;rfl;rfl)|(apply Aa.AU;rfl;rfl)|(apply Ad.Ae;rfl)|(apply Ad.AZ;rfl)|(intro _;try (exfalso;omega)))
    all_goals try (exfalso;omega)
    refine Aw.normal ⟨(all_succ hi hb),by first|omega|decide,?_,?_⟩
    ·repeat (first|exact Ak.nil|refine Ak.same (by exact PV.Ac rfl) rfl ?_|refine Ak.cons trivial rfl (.of_eq (Aq (by simp<;>omega))) ?_)
    ·repeat (first|exact Ah.nil|(refine Ah.cons (Aj rfl) ?_ rfl ?_ ?_;(first|exact HB.Ac rfl|exact AP.Ag _ _|(simp [HB.under,AP.under,PV.under]));(first|exact Bg.refl _|exact Bg.vec (Bf.refl _) (by simp))))
   ·repeat' (first|apply Ad.AA|apply Ad.Au|apply Ad.Ai|apply AO.ret|apply AL.ret|apply Aw.ret|apply Ad.ret|apply Af.nil|apply Af.one|(apply Af.take;rfl;rfl)|(apply Af.drop;rfl;rfl;rfl)|(apply Af.guard;rfl;rfl)|(apply Aa.kR;rfl;rfl;rfl;rfl;rfl;omega;exact hw)|(apply Aa.assign;rfl)|(apply Aa.move;rfl)|(apply Aa.int;rfl;rfl;rfl)|(apply Aa.Bz;rfl;rfl)|(apply Aa.AU;rfl;rfl)|(apply Ad.Ae;rfl)|(apply Ad.cond_true;rfl)|(apply Ad.AZ;rfl)|(intro _;try (exfalso;omega)))
    all_goals first|(exfalso;omega)|contradiction|(refine Done.ret rfl (.refl _) (by exact PV.Ac rfl) Ah.nil (Nat.zero_le _) (Nat.le_refl _) ⟨?_,rfl,rfl⟩;try rfl)
  ·intro hi
   exact absurd hi e4
 rw [if_neg (fun h=>h e4)]
 repeat' (first|apply Ad.assoc|apply Ad.AA|apply Ad.Au|apply Ad.Ai|apply Af.nil|apply Af.one|(apply Aa.fn;rfl;rfl;exact hcF;intro _;rfl)|(apply Aa.fn;rfl;rfl;exact hcR;intro _;rfl)|(apply Aa.fn;rfl;rfl;exact hcT;intro _;rfl)|(apply Aa.sN;rfl;rfl;rfl;rfl;rfl)|(apply Aa.assign;rfl)|(apply Aa.move;rfl)|(apply Aa.int;rfl;rfl;rfl)|(apply Aa.load;rfl;rfl)|(apply Aa.AQ;rfl;rfl;rfl)|(apply Aa.box;rfl;trivial)|(apply Ad.Az;rfl))
 all_goals try (exfalso;omega)
 all_goals try contradiction
 apply Ad.FK (4) (fun k=>True) [(1,_),(40,_)] [(0,_)] (fun k r=>(41,.p (.int .i64 (k:Int)))::r) (fun k r=>r) 1
 ·first|omega|decide
 ·first|omega|decide
 ·repeat (first|exact Ak.nil|(refine Ak.eq rfl ?_ ?_;(first|exact PV.Ac rfl|(simp [PV.under,AP.under];done)))|refine Ak.cons trivial rfl (.of_eq (Aq (by simp<;>omega))) ?_)
 ·repeat (first|exact Ah.nil|(refine Ah.eq rfl (Aj rfl) ?_ ?_;(first|exact HB.Ac rfl|exact AP.Ag _ _|(simp [HB.under,AP.under,PV.under];done)))|(refine Ah.cons (Aj rfl) ?_ rfl ?_ ?_;(first|exact trivial|exact AP.Ag _ _|(simp [HB.under,AP.under,PV.under]));(first|exact Bg.refl _|exact Bg.vec (Bf.refl _) (by simp))))
 ·first|(intro _ _;omega)|omega|trivial
 ·intro k hk _
  have hw:=yh q.Iq hk
  have hb:=e4 k hk
  repeat' (first|apply Ad.AA|apply Ad.region|apply Ad.Au|apply Ad.Ai|apply AO.normal|apply AL.normal|apply Ad.skip|apply Af.nil|apply Af.one|(apply Af.take;rfl;rfl)|(apply Af.guard;rfl;rfl)|(apply Aa.kR;rfl;rfl;rfl;rfl;rfl;omega;exact hw)|(apply Aa.assign;rfl)|(apply Aa.move;rfl)|(apply Aa.Bq;rfl;rfl;omega)|(apply Aa.int;rfl;rfl;rfl)|(apply Aa.AU;rfl;rfl)|(apply Ad.Ae;rfl)|(apply Ad.AZ;rfl)|(intro _;try (exfalso;omega)))
  all_goals try (exfalso;omega)
  refine Aw.normal ⟨trivial,by first|omega|decide,?_,?_⟩
  ·repeat (first|exact Ak.nil|refine Ak.same (by exact PV.Ac rfl) rfl ?_|refine Ak.cons trivial rfl (.of_eq (Aq (by simp<;>omega))) ?_)
  ·repeat (first|exact Ah.nil|(refine Ah.cons (Aj rfl) ?_ rfl ?_ ?_;(first|exact HB.Ac rfl|exact AP.Ag _ _|(simp [HB.under,AP.under,PV.under]));(first|exact Bg.refl _|exact Bg.vec (Bf.refl _) (by simp))))
 ·intro _
  by_cases e5:(BJ q.BG q.reg).length>60
  ·rw [if_pos (.inl e5)]
   repeat' (first|apply Ad.assoc|apply Ad.AA|apply Ad.BL|apply Ad.AX|apply AO.normal|apply AL.exit|apply Aw.exit|apply Af.nil|apply Af.one|(apply Af.drop;rfl;rfl;rfl)|(apply Af.guard;rfl;rfl)|(apply Aa.fn;rfl;rfl;exact hdr;intro _;rfl)|(apply Aa.assign;rfl)|(apply Aa.move;rfl)|(apply Aa.int;rfl;rfl;rfl)|(apply Aa.load;rfl;rfl)|(apply Aa.Bz;rfl;rfl)|(apply Aa.BH;rfl;rfl)|(apply Aa.AQ;rfl;rfl;rfl)|(apply Ad.Bh;rfl)|(apply Ad.Az;rfl)|(intro _;try (exfalso;omega)))
   all_goals try (exfalso;omega)
   all_goals try contradiction
   all_goals first|(exfalso;omega)|contradiction|(refine Done.ret rfl (.refl _) (by exact PV.Ac rfl) Ah.nil (Nat.zero_le _) (Nat.le_refl _) ⟨?_,rfl,rfl⟩;try rfl)
  ·by_cases e6:(Bo q.tgt).length>120
   ·rw [if_pos (.inr e6)]
    repeat' (first|apply Ad.assoc|apply Ad.AA|apply Ad.BL|apply Ad.AX|apply AO.normal|(apply Bl.ret;rfl)|apply AL.exit|apply Aw.exit|apply Ad.ret|apply Af.nil|apply Af.one|(apply Af.take;rfl;rfl)|(apply Af.guard;rfl;rfl)|(apply Aa.fn;rfl;rfl;exact hdr;intro _;rfl)|(apply Q5;rfl;rfl;rfl;exact le_dec rfl)|(apply Aa.cZ [1] (hcl);rfl;rfl;exact .of_eq rfl;exact AP.Ac rfl;exact DJ rfl;(repeat (first|exact trivial|refine ⟨⟨_,rfl,.of_eq rfl⟩,?_⟩));decide;(intro _ hb;first|(simp at hb;done)|(simp at hb ⊢<;>omega));(rintro _ _ _ ⟨rfl,rfl,rfl⟩))|(apply Aa.makeFunc;rfl;rfl)|(apply Aa.assign;rfl)|(apply Aa.move;rfl)|(apply Aa.int;rfl;rfl;rfl)|(apply Aa.load;rfl;rfl)|(apply Aa.AU;rfl;rfl)|(apply Aa.BH;rfl;rfl)|(apply Aa.lenV;rfl;rfl;rfl)|(apply Aa.AQ;rfl;rfl;rfl)|(apply Aa.box;rfl;trivial)|(apply Ad.Az;rfl)|(apply Ad.Ae;rfl)|(intro _;try (exfalso;omega)))
    all_goals try (exfalso;omega)
    all_goals try contradiction
    all_goals first|(exfalso;omega)|contradiction|(refine Done.ret rfl (.refl _) (by exact PV.Ac rfl) Ah.nil (Nat.zero_le _) (Nat.le_refl _) ⟨?_,rfl,rfl⟩;try rfl)
   ·rw [if_neg (by omega)]
    repeat' (first|apply Ad.assoc|apply Ad.AA|apply Ad.Au|apply Ad.AX|apply AO.normal|(apply Bl.ret;rfl)|apply AL.exit|apply Aw.exit|apply Ad.ret|apply Af.nil|apply Af.one|(apply Af.take;rfl;rfl)|(apply Af.guard;rfl;rfl)|(apply Aa.fn;rfl;rfl;exact hdr;intro _;rfl)|(apply Q5;rfl;rfl;rfl;exact le_dec rfl)|(apply Aa.cZ [1] (hcl);rfl;rfl;exact .of_eq rfl;exact AP.Ac rfl;exact DJ rfl;(repeat (first|exact trivial|refine ⟨⟨_,rfl,.of_eq rfl⟩,?_⟩));decide;(intro _ hb;first|(simp at hb;done)|(simp at hb ⊢<;>omega));(rintro _ _ _ ⟨rfl,rfl,rfl⟩))|(apply Aa.makeFunc;rfl;rfl)|(apply Aa.assign;rfl)|(apply Aa.move;rfl)|(apply Aa.int;rfl;rfl;rfl)|(apply Aa.load;rfl;rfl)|(apply Aa.AU;rfl;rfl)|(apply Aa.BH;rfl;rfl)|(apply Aa.lenV;rfl;rfl;rfl)|(apply Aa.AQ;rfl;rfl;rfl)|(apply Aa.box;rfl;trivial)|(apply Ad.Az;rfl)|(apply Ad.Ae;rfl)|(intro _;try (exfalso;omega)))
    all_goals try (exfalso;omega)
    all_goals try contradiction
    all_goals first|(exfalso;omega)|contradiction|(refine Done.ret rfl (.refl _) (by exact PV.Ac rfl) Ah.nil (Nat.zero_le _) (Nat.le_refl _) ⟨?_,rfl,rfl⟩;try rfl)
end Go.Proofs.YtdabojnmoejilaaGreatDoor
namespace Go.Proofs.YtdabojnmoejilaaGreatDoor
open Go Go.Am Go.Vm
instance b1x:Enc (List Int):={ default:=[],enc:=fun l=>[.lst 3 (cells l) l.length],size:=1,len:=fun _=>rfl }
attribute [local irreducible] Aa Af Ar Ad BA AY CG AO AL Aw Vm.Done CW Bl
theorem dA (n:Nat) (hn:n<4294967296):AY env 120 [.int .u64 1,.int .u64 (n:Int)] (.EP [.p (.int .u64 0),.p (.int .u64 (n:Int))]):=by
 have e1:n &&& 4294967295=n:=by
  have:=Nat.and_two_pow_sub_one_eq_mod n 32
  rw [show (2 ^ 32-1:Nat)=4294967295 from rfl] at this
  rw [this]
  exact Nat.mod_eq_of_lt (by simpa using hn)
 have hA1:EX .and .u64 (n:Int) 4294967295=some (.int .u64 (n:Int)):=by
  have h0:=bits_and_u64_nat n 4294967295 (by omega) (by omega)
  rw [e1] at h0
  exact congrArg (fun x=>some (FV.int .u64 x)) h0
 have hA2:EX .mul .u64 1 (n:Int)=some (.int .u64 (n:Int)):=by
  simp only [EX,Int.one_mul];rw [wrap_u64 (by omega) (by omega)]
 have hZ:EX .mul .u64 0 (n:Int)=some (.int .u64 0):=by
  simp only [EX,Int.zero_mul];rfl
 have hS:∀ a:Int,0≤a→a<4294967296→(FV.int .u64 0)=if BinOp.shr=.shl then FV.int .u64 (IntKind.u64.wrap (a*2 ^ (min (32:Int).toNat IntKind.u64.bits))) else .int .u64 (a.fdiv (2 ^ (min (32:Int).toNat IntKind.u64.bits))):=fun a h0 h1=>by
  rw [if_neg (by decide)]
  have e3:(min (32:Int).toNat IntKind.u64.bits)=32:=rfl
  rw [e3,Int.fdiv_eq_ediv_of_nonneg _ (by decide)]
  have:a / 2 ^ 32=0:=by omega
  rw [this]
 have k1:EX .and .u64 1 4294967295=some (.int .u64 1):=rfl
 have k2:EX .and .u64 0 4294967295=some (.int .u64 0):=rfl
 have k3:EX .mul .u64 1 0=some (.int .u64 0):=rfl
 have k4:EX .mul .u64 0 0=some (.int .u64 0):=rfl
 have k5:EX .add .u64 0 0=some (.int .u64 0):=rfl
 refine AY.enter (AB (by decide)) Tryz.func120 rfl (by kernel_rfl) (by simp [Tryz.ntmps120]) ?_
 repeat' (first|apply Ad.AA|apply Ad.ret|apply Af.nil|apply Af.one|(apply Aa.shift (r:=.int .u64 0);exact .inr rfl;rfl;rfl;decide;exact hS _ (by omega) (by omega))|(apply Aa.int;rfl;rfl;exact hA1)|(apply Aa.int;rfl;rfl;exact hA2)|(apply Aa.int;rfl;rfl;exact hZ)|(apply Aa.int;rfl;rfl;exact k1)|(apply Aa.int;rfl;rfl;exact k2)|(apply Aa.assign;rfl)|(apply Aa.move;rfl))
 (refine Done.ret rfl (.refl _) (by exact PV.Ac rfl) Ah.nil (Nat.zero_le _) (Nat.le_refl _) ⟨?_,rfl,rfl⟩;try rfl)
theorem qO (n:Nat) (hn:n<4294967296):AY env 100 [.int .u64 1,.int .u64 (n:Int)] (.EP [.p (.int .u64 0),.p (.int .u64 (n:Int))]):=by
 have h:=dA n hn
 refine AY.enter (AB (by decide)) Tryz.func100 rfl (by kernel_rfl) (by simp [Tryz.ntmps100]) ?_
 repeat' (first|apply Ad.AA|apply Ad.Au|apply Ad.ret|apply Af.nil|apply Af.one|(apply Aa.fn;rfl;rfl;exact h;intro _;rfl)|(apply Aa.assign;rfl)|(apply Aa.move;rfl)|(apply Aa.extract;rfl;rfl)|(apply Ad.Az;rfl))
 (refine Done.ret rfl (.refl _) (by exact PV.Ac rfl) Ah.nil (Nat.zero_le _) (Nat.le_refl _) ⟨?_,rfl,rfl⟩;try rfl)
def OY (n k:Nat) (v:Int):List Int:=List.replicate k v++List.replicate (n-k) 0
theorem Qz (n k:Nat) (v:Int) (h:k≤n):(OY n k v).length=n:=by simp [OY];omega
theorem vI (n:Nat) (v:Int):OY n n v=List.replicate n v:=by simp [OY]
theorem xY (n:Nat) (v:Int) (h:0<n):Ce (cells (List.replicate n (0:Int))) 0 [FV.int .i64 v]=cells (OY n 1 v):=by
 have:=Rl (List.replicate n (0:Int)) [v] 0 (by simp;omega)
 rw [Nat.zero_mul] at this
 show Ce (cells (List.replicate n (0:Int))) 0 (cells [v])=_
 rw [this]
 congr 1
 simp [OY]
theorem y9 (n k:Nat) (v:Int) (h:k≤n):0+k*1≤(cells (OY n k v)).length:=by
 rw [BR,Qz n k v h]
 show 0+k*1≤n*1
 omega
theorem xq (n k:Nat) (v:Int) (h:k≤n):cells (List.replicate (min k (n-k)) v)=((cells (OY n k v)).drop 0).take (min k (n-k)*1):=by
 have:=JO (OY n k v) (min k (n-k))
 rw [List.drop_zero]
 refine Eq.trans ?_ this.symm
 congr 1
 unfold OY
 rw [List.take_append_of_le_length (by simp;omega),List.take_replicate]
 congr 1
 omega
theorem a0t (n k:Nat) (v:Int):(cells (List.replicate (min k (n-k)) v)).length=min k (n-k)*1:=by
 rw [BR,List.length_replicate];rfl
theorem pY (n k:Nat) (v:Int) (h:k≤n):0+k*1+min k (n-k)*1≤(cells (OY n k v)).length:=by
 rw [BR,Qz n k v h]
 show _≤n*1
 omega
theorem sQ (n k:Nat) (v:Int) (h:k≤n):Ce (cells (OY n k v)) (0+k*1) (cells (List.replicate (min k (n-k)) v))=cells (OY n (k+min k (n-k)) v):=by
 have:=Rl (OY n k v) (List.replicate (min k (n-k)) v) k (by rw [Qz n k v h];simp;omega)
 rw [Nat.zero_add]
 refine Eq.trans this ?_
 congr 1
 unfold OY
 rw [List.take_append_of_le_length (by simp),List.take_replicate,Nat.min_self,List.length_replicate,List.drop_append,List.drop_of_length_le (by simp),List.length_replicate,List.nil_append,List.drop_replicate,List.replicate_append_replicate]
 congr 2
 omega
theorem UC (e:TypeId) (v:Int) (n:Nat) (h0:0<n) (hn:n<1000000):CG env 71 [.lst e [.int .i64 v] 1,.int .i64 (n:Int)] 3 (cells (List.replicate n v)) n false:=by
 have hm:=qO n (by omega)
 refine CG.enter (AB (by decide)) Tryz.func71 rfl (by kernel_rfl) (by simp [Tryz.ntmps71]) ?_
 repeat' (first|apply Ad.assoc|apply Ad.AA|apply Ad.Au|apply Ad.Ai|apply Af.nil|apply Af.one|(apply Af.take;rfl;rfl)|(apply Aa.fn;rfl;rfl;exact hm;intro _;rfl)|(apply Aa.DX n (0:Int);rfl;rfl;rfl;rfl;rfl;rfl;rfl;omega;decide;decide;rfl)|(apply Aa.copy (k:=1) (N:=1) (xs:=[.int .i64 v]);rfl;rfl;exact h0;rfl;rfl;decide;exact SlT.lst rfl rfl (Nat.le_refl 1) rfl;omega;decide;rfl;(rw [BR,List.length_replicate];show 0+1*1≤n*1;omega))|(apply Aa.assign;rfl)|(apply Aa.move;rfl)|(apply Aa.int;rfl;rfl;rfl)|(apply Aa.AU;rfl;rfl)|(apply Aa.BH;rfl;rfl)|(apply Aa.extract;rfl;rfl)|(apply Aa.Jf;rfl;rfl;rfl;rfl;omega)|(apply Aa.LK;rfl;rfl;rfl;rfl;omega)|(apply Ad.Az;rfl)|(apply Ad.Ae;rfl)|(intro _;try (exfalso;omega)))
 all_goals try (exfalso;omega)
 refine Ad.D8 (fun k:Nat=>[(7,.vec 0 n 0 n),(8,.p (.int .i64 (k:Int)))]) (fun k=>[(0,.vec 3 (cells (OY n k v)) n false)]) 1 (fun k=>1≤k∧k≤n) (fun k=>n-k) 1 (by omega) ⟨by omega,by omega⟩ ⟨by omega,?_,?_⟩ ?_
 ·repeat (first|exact Ak.nil|refine Ak.same (by exact PV.Ac rfl) rfl ?_|refine Ak.cons trivial rfl (.of_eq (Aq (by simp<;>omega))) ?_)
 ·have:=xY n v h0
  rw [this]
  repeat (first|exact Ah.nil|(refine Ah.cons (Aj rfl) ?_ rfl ?_ ?_;(first|exact HB.Ac rfl|exact AP.Ag _ _|(simp [HB.under,AP.under,PV.under]));(first|exact Bg.refl _|exact Bg.vec (Bf.refl _) (by simp))))
 ·rintro k ⟨k1,k2⟩
  have hl:=Qz n k v k2
  by_cases hk:k<n
  ·repeat' (first|apply Ad.assoc|apply Ad.AA|apply Ad.Et|apply Ad.Au|apply AL.normal|apply Ad.Ih|apply Af.nil|apply Ar.nil|apply Af.one|(apply Ar.bar;decide +kernel)|apply Ar.quiet|(apply Aa.Zn (sz:=1) (a:=k) (c:=n);rfl;rfl;exact h0;rfl;rfl;rfl;exact ⟨_,rfl⟩;rfl;omega;exact Nat.le_refl _)|(apply Aa.Zn (sz:=1) (a:=0) (c:=k);rfl;rfl;exact h0;rfl;rfl;rfl;rfl;exact ⟨_,rfl⟩;omega;exact k2)|(apply Aa.copy (k:=min k (n-k)) (N:=k) (xs:=cells (List.replicate (min k (n-k)) v));rfl;rfl;exact h0;rfl;rfl;decide;exact SlT.vec rfl rfl h0 (y9 n k v k2) (by omega) (xq n k v k2);rfl;omega;exact a0t n k v;exact pY n k v k2)|(apply Aa.assign;rfl)|(apply Aa.move;rfl)|(apply Aa.Bq;rfl;rfl;omega)|(apply Aa.int;rfl;rfl;rfl)|(apply Aa.lenV;rfl;rfl;rfl)|(apply Ad.Ae;rfl)|(intro _;try (exfalso;omega)))
   refine Aw.normal ⟨k+min k (n-k),⟨by omega,by omega⟩,by omega,⟨by omega,?_,?_⟩⟩
   ·repeat (first|exact Ak.nil|refine Ak.same (by exact PV.Ac rfl) rfl ?_|refine Ak.cons trivial rfl (.of_eq (Aq (by simp<;>omega))) ?_)
   ·rw [sQ n k v k2]
    repeat (first|exact Ah.nil|(refine Ah.cons (Aj rfl) ?_ rfl ?_ ?_;(first|exact HB.Ac rfl|exact AP.Ag _ _|(simp [HB.under,AP.under,PV.under]));(first|exact Bg.refl _|exact Bg.vec (Bf.refl _) (by simp))))
  ·obtain rfl:k=n:=by omega
   repeat' (first|apply Ad.assoc|apply Ad.AA|apply Ad.AX|apply AO.normal|apply AL.exit|apply Aw.exit|apply Ad.ret|apply Af.nil|apply Af.one|(apply Aa.assign;rfl)|(apply Aa.move;rfl)|(apply Aa.int;rfl;rfl;rfl)|(apply Aa.lenV;rfl;rfl;rfl)|(apply Ad.Ae;rfl)|(intro _;try (exfalso;omega)))
   rw [vI]
   exact CW.ret rfl rfl rfl rfl
end Go.Proofs.YtdabojnmoejilaaGreatDoor
namespace Go.Proofs.YtdabojnmoejilaaGreatDoor
open Go Go.Am Go.Vm Go.Tra
attribute [local irreducible] Aa Af Ar Ad BA AY CG AO AL Aw Vm.Done CW Bl
attribute [local irreducible] DR Dw Io Jd Nh BU
def wL (F T:EN) (a b:Oo):Int:=(BU (G6 T b).Du (G6 F a).Du).1
def ShB (F T:EN):Prop:=∀ a b,Ic F a→Ic T b→(BU (G6 T b).Du (G6 F a).Du).2=0∧-1000≤wL F T a b∧wL F T a b≤1000
def Pn (F T:EN) (w:aP) (a b:Oo):Int :=
 (if YR F a=YR T b then 0 else w.Fq)+w.LG*max (wL F T a b) (-wL F T a b)+(if (gi F.Ap a.d).EH=(gi T.Ap b.d).EH then 0 else w.EH)
theorem Ro {w:aP} (h:NH w):(0≤w.Fq∧w.Fq≤100000)∧(0≤w.LG∧w.LG≤100000)∧(0≤w.EH∧w.EH≤100000)∧(0≤w.miss∧w.miss≤100000):=⟨h 0 (by omega),h 1 (by omega),h 2 (by omega),h 3 (by omega)⟩
theorem UY {w:aP} (h:NH w) {n:Int} (h1:-1000≤n) (h2:n≤1000):0≤w.LG*max n (-n)∧w.LG*max n (-n)≤100000000:=by
 obtain ⟨_,⟨p1,p2⟩,_,_⟩:=Ro h
 have m1:0≤max n (-n):=by omega
 have m2:max n (-n)≤1000:=by omega
 refine ⟨Int.mul_nonneg p1 m1,?_⟩
 have:=Int.mul_le_mul p2 m2 m1 (by omega)
 omega
theorem ji {F T:EN} {w:aP} (h:NH w) (hs:ShB F T) {a b:Oo} (ha:Ic F a) (hb:Ic T b):0≤Pn F T w a b∧Pn F T w a b≤101000000:=by
 obtain ⟨t,_,p,_⟩:=Ro h
 obtain ⟨_,s1,s2⟩:=hs a b ha hb
 have:=UY h s1 s2
 unfold Pn
 generalize w.LG*max (wL F T a b) (-wL F T a b)=P at *
 split<;>split<;>omega
theorem lI (q:Iu) (k1:Gi q.BG) (k2:Gi q.tgt) (hw:NH q.Iq) (hs:ShB q.BG q.tgt) (a b:Oo) (ha:Ic q.BG a) (hb:Ic q.tgt b) :
 AY env 66 [.agg (Enc.enc q),.agg (Enc.enc a),.agg (Enc.enc b)] (.EP [.p (.int .i64 (Pn q.BG q.tgt q.Iq a b)),.p (.int .i64 0)]):=by
 obtain ⟨t,_,p,_⟩:=Ro hw
 obtain ⟨s0,s1,s2⟩:=hs a b ha hb
 have hP:=UY hw s1 s2
 have h1:=WH q.BG k1 a ha
 have h2:=WH q.tgt k2 b hb
 have h3:=Qp q.BG k1 a ha
 have h4:=Qp q.tgt k2 b hb
 have h5:=NP (G6 q.tgt b).Du (G6 q.BG a).Du
 rw [s0,show (BU (G6 q.tgt b).Du (G6 q.BG a).Du).1=wL q.BG q.tgt a b from rfl] at h5
 unfold Pn
 generalize wL q.BG q.tgt a b=n at *
 generalize hPP:q.Iq.LG*max n (-n)=P at *
 have hmul:-9223372036854775808≤q.Iq.LG*max n (-n)∧q.Iq.LG*max n (-n)<9223372036854775808:=by rw [hPP];omega
 obtain ⟨a1,a2⟩:=ha
 obtain ⟨b1,b2⟩:=hb
 refine AY.enter (AB (by decide)) Tryz.func66 rfl (by kernel_rfl) (by simp [Tryz.ntmps66]) ?_
 by_cases e1:YR q.BG a=YR q.tgt b
 ·rw [if_pos e1]
  have d1:=decide_eq_true e1
  by_cases e2:(gi q.BG.Ap a.d).EH=(gi q.tgt.Ap b.d).EH
  ·rw [if_pos e2]
   have d2:((gi q.BG.Ap a.d).EH != (gi q.tgt.Ap b.d).EH)=false:=by rw [e2];simp
   repeat' (first|apply Ad.assoc|apply Ad.AA|apply Ad.BI|apply Ad.Au|apply Ad.ret|apply Af.nil|apply Ar.nil|apply Af.one|(apply Ar.bar;decide +kernel)|apply Ar.quiet|(apply Aa.fn;rfl;rfl;exact h1;intro _;rfl)|(apply Aa.fn;rfl;rfl;exact h2;intro _;rfl)|(apply Aa.fn;rfl;rfl;exact h3;intro _;rfl)|(apply Aa.fn;rfl;rfl;exact h4;intro _;rfl)|(apply Aa.fn;rfl;rfl;exact h5;intro _;rfl)|(apply Aa.WL;rfl;rfl;rfl;rfl)|(apply Aa.a0s;rfl;rfl;exact d1)|(apply Aa.a0m;rfl;rfl;rfl;exact d2)|(apply Aa.KE;rfl;rfl;exact hmul)|(apply Aa.AV (l:=q.BG.Ap) (i:=a.d);rfl;rfl;rfl;exact a1;rfl)|(apply Aa.AV (l:=q.tgt.Ap) (i:=b.d);rfl;rfl;rfl;exact b1;rfl)|(apply Aa.assign;rfl)|(apply Aa.move;rfl)|(apply Aa.Bq;rfl;rfl;omega)|(apply Aa.int;rfl;rfl;rfl)|(apply Aa.load;rfl;rfl)|(apply Aa.AQ;rfl;rfl;rfl)|(apply Aa.DW;rfl;rfl)|(apply Aa.box;rfl;trivial)|(apply Aa.neg;rfl;omega)|(apply Aa.qM;rfl;rfl)|(apply Aa.extract;rfl;rfl)|(apply Ad.Az;rfl))
   all_goals try (exfalso;omega)
   all_goals (refine Done.ret rfl (.refl _) (by exact PV.Ac rfl) Ah.nil (Nat.zero_le _) (Nat.le_refl _) ⟨?_,rfl,rfl⟩;refine congrArg (fun x=>PV.EP [PV.p (FV.int .i64 x),PV.p (FV.int .i64 0)]) ?_;omega)
  ·rw [if_neg e2]
   have d2:((gi q.BG.Ap a.d).EH != (gi q.tgt.Ap b.d).EH)=true:=by simp [e2]
   repeat' (first|apply Ad.assoc|apply Ad.AA|apply Ad.BI|apply Ad.Au|apply Ad.ret|apply Af.nil|apply Ar.nil|apply Af.one|(apply Ar.bar;decide +kernel)|apply Ar.quiet|(apply Aa.fn;rfl;rfl;exact h1;intro _;rfl)|(apply Aa.fn;rfl;rfl;exact h2;intro _;rfl)|(apply Aa.fn;rfl;rfl;exact h3;intro _;rfl)|(apply Aa.fn;rfl;rfl;exact h4;intro _;rfl)|(apply Aa.fn;rfl;rfl;exact h5;intro _;rfl)|(apply Aa.WL;rfl;rfl;rfl;rfl)|(apply Aa.a0s;rfl;rfl;exact d1)|(apply Aa.a0m;rfl;rfl;rfl;exact d2)|(apply Aa.KE;rfl;rfl;exact hmul)|(apply Aa.AV (l:=q.BG.Ap) (i:=a.d);rfl;rfl;rfl;exact a1;rfl)|(apply Aa.AV (l:=q.tgt.Ap) (i:=b.d);rfl;rfl;rfl;exact b1;rfl)|(apply Aa.assign;rfl)|(apply Aa.move;rfl)|(apply Aa.Bq;rfl;rfl;omega)|(apply Aa.int;rfl;rfl;rfl)|(apply Aa.load;rfl;rfl)|(apply Aa.AQ;rfl;rfl;rfl)|(apply Aa.DW;rfl;rfl)|(apply Aa.box;rfl;trivial)|(apply Aa.neg;rfl;omega)|(apply Aa.qM;rfl;rfl)|(apply Aa.extract;rfl;rfl)|(apply Ad.Bh;rfl)|(apply Ad.Az;rfl))
   all_goals try (exfalso;omega)
   all_goals (refine Done.ret rfl (.refl _) (by exact PV.Ac rfl) Ah.nil (Nat.zero_le _) (Nat.le_refl _) ⟨?_,rfl,rfl⟩;refine congrArg (fun x=>PV.EP [PV.p (FV.int .i64 x),PV.p (FV.int .i64 0)]) ?_;omega)
 ·rw [if_neg e1]
  have d1:=decide_eq_false e1
  by_cases e2:(gi q.BG.Ap a.d).EH=(gi q.tgt.Ap b.d).EH
  ·rw [if_pos e2]
   have d2:((gi q.BG.Ap a.d).EH != (gi q.tgt.Ap b.d).EH)=false:=by rw [e2];simp
   repeat' (first|apply Ad.assoc|apply Ad.AA|apply Ad.BI|apply Ad.Au|apply Ad.ret|apply Af.nil|apply Ar.nil|apply Af.one|(apply Ar.bar;decide +kernel)|apply Ar.quiet|(apply Aa.fn;rfl;rfl;exact h1;intro _;rfl)|(apply Aa.fn;rfl;rfl;exact h2;intro _;rfl)|(apply Aa.fn;rfl;rfl;exact h3;intro _;rfl)|(apply Aa.fn;rfl;rfl;exact h4;intro _;rfl)|(apply Aa.fn;rfl;rfl;exact h5;intro _;rfl)|(apply Aa.WL;rfl;rfl;rfl;rfl)|(apply Aa.a0s;rfl;rfl;exact d1)|(apply Aa.a0m;rfl;rfl;rfl;exact d2)|(apply Aa.KE;rfl;rfl;exact hmul)|(apply Aa.AV (l:=q.BG.Ap) (i:=a.d);rfl;rfl;rfl;exact a1;rfl)|(apply Aa.AV (l:=q.tgt.Ap) (i:=b.d);rfl;rfl;rfl;exact b1;rfl)|(apply Aa.assign;rfl)|(apply Aa.move;rfl)|(apply Aa.Bq;rfl;rfl;omega)|(apply Aa.int;rfl;rfl;rfl)|(apply Aa.load;rfl;rfl)|(apply Aa.AQ;rfl;rfl;rfl)|(apply Aa.DW;rfl;rfl)|(apply Aa.box;rfl;trivial)|(apply Aa.neg;rfl;omega)|(apply Aa.qM;rfl;rfl)|(apply Aa.extract;rfl;rfl)|(apply Ad.Bh;rfl)|(apply Ad.Az;rfl))
   all_goals try (exfalso;omega)
   all_goals (refine Done.ret rfl (.refl _) (by exact PV.Ac rfl) Ah.nil (Nat.zero_le _) (Nat.le_refl _) ⟨?_,rfl,rfl⟩;refine congrArg (fun x=>PV.EP [PV.p (FV.int .i64 x),PV.p (FV.int .i64 0)]) ?_;omega)
  ·rw [if_neg e2]
   have d2:((gi q.BG.Ap a.d).EH != (gi q.tgt.Ap b.d).EH)=true:=by simp [e2]
   repeat' (first|apply Ad.assoc|apply Ad.AA|apply Ad.BI|apply Ad.Au|apply Ad.ret|apply Af.nil|apply Ar.nil|apply Af.one|(apply Ar.bar;decide +kernel)|apply Ar.quiet|(apply Aa.fn;rfl;rfl;exact h1;intro _;rfl)|(apply Aa.fn;rfl;rfl;exact h2;intro _;rfl)|(apply Aa.fn;rfl;rfl;exact h3;intro _;rfl)|(apply Aa.fn;rfl;rfl;exact h4;intro _;rfl)|(apply Aa.fn;rfl;rfl;exact h5;intro _;rfl)|(apply Aa.WL;rfl;rfl;rfl;rfl)|(apply Aa.a0s;rfl;rfl;exact d1)|(apply Aa.a0m;rfl;rfl;rfl;exact d2)|(apply Aa.KE;rfl;rfl;exact hmul)|(apply Aa.AV (l:=q.BG.Ap) (i:=a.d);rfl;rfl;rfl;exact a1;rfl)|(apply Aa.AV (l:=q.tgt.Ap) (i:=b.d);rfl;rfl;rfl;exact b1;rfl)|(apply Aa.assign;rfl)|(apply Aa.move;rfl)|(apply Aa.Bq;rfl;rfl;omega)|(apply Aa.int;rfl;rfl;rfl)|(apply Aa.load;rfl;rfl)|(apply Aa.AQ;rfl;rfl;rfl)|(apply Aa.DW;rfl;rfl)|(apply Aa.box;rfl;trivial)|(apply Aa.neg;rfl;omega)|(apply Aa.qM;rfl;rfl)|(apply Aa.extract;rfl;rfl)|(apply Ad.Bh;rfl)|(apply Ad.Az;rfl))
   all_goals try (exfalso;omega)
   all_goals (refine Done.ret rfl (.refl _) (by exact PV.Ac rfl) Ah.nil (Nat.zero_le _) (Nat.le_refl _) ⟨?_,rfl,rfl⟩;refine congrArg (fun x=>PV.EP [PV.p (FV.int .i64 x),PV.p (FV.int .i64 0)]) ?_;omega)
def P7 (F T:EN) (w:aP) (a:Oo) (k:Nat):List Int:=((Bo T).take k).map (Pn F T w a)
theorem aX (F T:EN) (w:aP) (a:Oo) {k:Nat} (h:k≤(Bo T).length):(P7 F T w a k).length=k:=by unfold P7;rw [List.length_map,List.length_take];omega
theorem qJ (F T:EN) (w:aP) (a:Oo) {k:Nat} (h:k<(Bo T).length):P7 F T w a (k+1)=P7 F T w a k++[Pn F T w a (gi (Bo T) k)]:=by unfold P7;rw [DF h,List.map_append];rfl
def I4 (F T:EN) (r:Rgs) (w:aP) (k:Nat):List (List Int):=((BJ F r).take k).map fun a=>P7 F T w a (Bo T).length
def Oe (F T:EN) (r:Rgs) (w:aP):List (List Int):=(BJ F r).map fun a=>(Bo T).map (Pn F T w a)
theorem qx (F T:EN) (r:Rgs) (w:aP) {k:Nat} (h:k≤(BJ F r).length):(I4 F T r w k).length=k:=by unfold I4;rw [List.length_map,List.length_take];omega
theorem kK (F T:EN) (r:Rgs) (w:aP) {k:Nat} (h:k<(BJ F r).length):I4 F T r w (k+1)=I4 F T r w k++[P7 F T w (gi (BJ F r) k) (Bo T).length]:=by unfold I4;rw [DF h,List.map_append];rfl
theorem rU (F T:EN) (r:Rgs) (w:aP):I4 F T r w (BJ F r).length=Oe F T r w:=by
 unfold I4 Oe P7
 rw [List.take_of_length_le (Nat.le_refl _),List.take_of_length_le (Nat.le_refl _)]
theorem X4 (q:Iu) (k1:Gi q.BG) (k2:Gi q.tgt) (hw:NH q.Iq) (hs:ShB q.BG q.tgt) (hr:q.reg.Ok) (hl:q.reg.stops.length=q.BG.Ap.length) :
 AY env 43 [.agg (Enc.enc q)] (.EP [.p (.lst 52 (cells (Oe q.BG q.tgt q.reg q.Iq)) (Oe q.BG q.tgt q.reg q.Iq).length),.p (.int .i64 0)]):=by
 have hdr:=Ov q.BG k1 q.reg hr hl
 have b1:=FT k2
 have b2:(BJ q.BG q.reg).length≤480:=by
  have:=FT k1
  have:(BJ q.BG q.reg).length≤(Bo q.BG).length:=List.length_filter_le _ _
  omega
 refine AY.enter (AB (by decide)) Tryz.func43 rfl (by kernel_rfl) (by simp [Tryz.ntmps43]) ?_
 repeat' (first|apply Ad.assoc|apply Ad.AA|apply Ad.Ai|apply Af.nil|apply Af.one|(apply Aa.fn;rfl;rfl;exact hdr;intro _;rfl)|(apply Aa.assign;rfl)|(apply Aa.move;rfl)|(apply Aa.load;rfl;rfl)|(apply Aa.BH;rfl;rfl)|(apply Aa.AQ;rfl;rfl;rfl)|(apply Aa.box;rfl;trivial)|(apply Aa.alloc;rfl))
 all_goals try (exfalso;omega)
 refine Ad.ghost (A8.adopt 4 52 rfl) ?_
 apply Ad.Ed ((BJ q.BG q.reg).length) [(1,_),(2,_),(3,_),(15,_),(16,_)] [(0,_),(1,_),(2,_)] (fun k r=>(4,.vec 3 (I4 q.BG q.tgt q.reg q.Iq k).length 0 (I4 q.BG q.tgt q.reg q.Iq k).length)::(17,.p (.int .i64 (k:Int)))::r) (fun k r=>(3,.vec 52 (cells (I4 q.BG q.tgt q.reg q.Iq k)) (I4 q.BG q.tgt q.reg q.Iq k).length true)::r) 4
 ·first|omega|decide
 ·first|omega|decide
 ·repeat (first|exact Ak.nil|(refine Ak.eq rfl ?_ ?_;(first|exact PV.Ac rfl|(simp [PV.under,AP.under];done)))|refine Ak.cons trivial rfl (.of_eq (Aq (by simp<;>omega))) ?_)
 ·repeat (first|exact Ah.nil|(refine Ah.eq rfl (Aj rfl) ?_ ?_;(first|exact HB.Ac rfl|exact AP.Ag _ _|(simp [HB.under,AP.under,PV.under];done)))|(refine Ah.cons (Aj rfl) ?_ rfl ?_ ?_;(first|exact trivial|exact AP.Ag _ _|(simp [HB.under,AP.under,PV.under]));(first|exact Bg.refl _|exact Bg.vec (Bf.refl _) (by simp))))
 ·intro k hk
  have ha:Ic q.BG (gi (BJ q.BG q.reg) k):=YZ (Zm hk)
  have e1:=kK q.BG q.tgt q.reg q.Iq hk
  have e2:(I4 q.BG q.tgt q.reg q.Iq (k+1)).length=(I4 q.BG q.tgt q.reg q.Iq k).length+1:=by rw [e1];simp
  have e3:=qx q.BG q.tgt q.reg q.Iq (Nat.le_of_lt hk)
  repeat' (first|apply Ad.assoc|apply Ad.AA|apply Ad.Au|apply Ad.Ai|(apply Bl.ret;rfl)|apply Ad.ret|apply Af.nil|apply Af.one|(apply Q5;rfl;rfl;rfl;exact le_dec rfl)|(apply Aa.makeFunc;rfl;rfl)|(apply Aa.assign;rfl)|(apply Aa.int;rfl;rfl;rfl)|(apply Aa.AV;rfl;rfl;rfl;omega;rfl)|(apply Aa.load;rfl;rfl)|(apply Aa.AQ;rfl;rfl;rfl)|(apply Aa.box;rfl;trivial)|(apply Aa.alloc;rfl)|(apply Aa.Bj;rfl;rfl;rfl;trivial;rfl;rfl;exact Aj rfl;exact le_dec rfl)|(apply Aa.buildSlice;rfl;rfl;rfl;decide;rfl;rfl;rfl)|(apply Ad.Ae;rfl)|(intro _;try (exfalso;omega)))
  all_goals try (exfalso;omega)
  refine Ad.Xo (Bo q.tgt).length (fun j=>[.agg (Enc.enc (gi (Bo q.tgt) j))]) (fun j=>V8 (gi (Bo q.tgt) j)) [(1,.ref 0 0),(2,.ref 1 0),(3,.ref 2 0),(4,.vec 3 (I4 q.BG q.tgt q.reg q.Iq k).length 0 (I4 q.BG q.tgt q.reg q.Iq k).length),(6,.ref 4 0),(7,.ref 6 0),(15,.p (.lst 85 (cells (BJ q.BG q.reg)) (BJ q.BG q.reg).length)),(16,.p (.int .i64 ((BJ q.BG q.reg).length:Int))),(17,.p (.int .i64 (k:Int)))]
   (fun j=>[(6,.box 52 [.vec 5 (P7 q.BG q.tgt q.Iq (gi (BJ q.BG q.reg) k) j).length 0 (P7 q.BG q.tgt q.Iq (gi (BJ q.BG q.reg) k) j).length]),(5,.vec 3 (cells (P7 q.BG q.tgt q.Iq (gi (BJ q.BG q.reg) k) j)) (P7 q.BG q.tgt q.Iq (gi (BJ q.BG q.reg) k) j).length false),(4,.box 85 ((Enc.enc (gi (BJ q.BG q.reg) k)).map .p)),
    (3,.vec 52 (cells (I4 q.BG q.tgt q.reg q.Iq k)) (I4 q.BG q.tgt q.reg q.Iq k).length true),(0,.box 45 ((Enc.enc q).map .p)),(1,.box 47 [.p (.val (.slice none 0 0))]),(2,.box 48 [.p (.int .i64 0)])]) 7 (fun _=>True)
   rfl rfl Tryz.func81 rfl YI (YP q.tgt) (fun _ _=>rfl) (fun _ _=>rfl) (fun k _ m F=>.cons (.agg (.cons (.int _ _) (.cons (.int _ _) .nil)) rfl) .nil) (by omega) ⟨by omega,?_,?_⟩ ?_ (Xw k2) trivial ?_ ?_
  ·repeat (first|exact Ak.nil|refine Ak.same (by exact PV.Ac rfl) rfl ?_|refine Ak.cons trivial rfl (.of_eq (Aq (by simp<;>omega))) ?_)
  ·repeat (first|exact Ah.nil|(refine Ah.cons (Aj rfl) ?_ rfl ?_ ?_;(first|exact HB.Ac rfl|exact AP.Ag _ _|(simp [HB.under,AP.under,PV.under]));(first|exact Bg.refl _|exact Bg.vec (Bf.refl _) (by simp))))
  ·repeat (first|exact Ak.nil|refine Ak.same (by exact PV.Ac rfl) rfl ?_|refine Ak.cons trivial rfl (.of_eq (Aq (by simp<;>omega))) ?_)
  ·intro j hj _
   have hb:Ic q.tgt (gi (Bo q.tgt) j):=Kt hj
   have hlo:=lI q k1 k2 hw hs _ _ ha hb
   have f1:=qJ q.BG q.tgt q.Iq (gi (BJ q.BG q.reg) k) hj
   have f2:(P7 q.BG q.tgt q.Iq (gi (BJ q.BG q.reg) k) (j+1)).length=(P7 q.BG q.tgt q.Iq (gi (BJ q.BG q.reg) k) j).length+1:=by rw [f1];simp
   have f3:=aX q.BG q.tgt q.Iq (gi (BJ q.BG q.reg) k) (Nat.le_of_lt hj)
   repeat' (first|apply Ad.region|apply Af.nil|apply Af.one|(apply Aa.alloc;rfl)|(apply Aa.Bj;rfl;rfl;rfl;trivial;rfl;rfl;exact Aj rfl;exact le_dec rfl))
   refine ⟨rfl,?_⟩
   repeat' (first|apply Ad.assoc|apply Ad.AA|apply Ad.region|apply Ad.Au|apply AL.normal|apply Ad.Ih|apply Af.nil|apply Af.one|(apply Aa.fn;rfl;rfl;exact hlo;intro _;rfl)|(apply Aa.Dv (a:=Pn q.BG q.tgt q.Iq (gi (BJ q.BG q.reg) k) (gi (Bo q.tgt) j));rfl;rfl;rfl;rfl;rfl;rfl;rfl;rfl;(intro _ h;cases h);rfl;rfl;rfl;decide;decide;(first|omega|(simp only [List.length_take,List.length_drop,List.length_append,List.length_singleton,List.length_cons,List.length_nil]<;>omega)))|(apply Aa.assign;rfl)|(apply Aa.move;rfl)|(apply Aa.int;rfl;rfl;rfl)|(apply Aa.load;rfl;rfl)|(apply Aa.Bj;rfl;rfl;rfl;trivial;rfl;rfl;exact Aj rfl;exact le_dec rfl)|(apply Aa.buildSlice;rfl;rfl;rfl;decide;rfl;rfl;rfl)|(apply Aa.extract;rfl;rfl)|(apply Ad.Az;rfl))
   all_goals try (exfalso;omega)
   refine ⟨trivial,by omega,?_⟩
   rw [f2,f1]
   repeat (first|exact Ah.nil|(refine Ah.cons (Aj rfl) ?_ rfl ?_ ?_;(first|exact HB.Ac rfl|exact AP.Ag _ _|(simp [HB.under,AP.under,PV.under]));(first|exact Bg.refl _|exact Bg.vec (Bf.refl _) (by simp))))
  ·intro _
   have f3:=aX q.BG q.tgt q.Iq (gi (BJ q.BG q.reg) k) (Nat.le_refl (Bo q.tgt).length)
   repeat' (first|(refine Ad.atEnd 12 ?_;refine Ad.ghost (A8.Dc 6 0 rfl rfl rfl) ?_;first|apply Ad.region|apply Ad.Et)|apply Ad.region|apply AO.normal|apply AL.normal|apply Af.nil|apply Af.one|(apply Aa.Dv (a:=P7 q.BG q.tgt q.Iq (gi (BJ q.BG q.reg) k) (Bo q.tgt).length);rfl;rfl;rfl;rfl;rfl;rfl;rfl;rfl;(intro _ h;cases h);rfl;rfl;rfl;decide;decide;(first|omega|(simp only [List.length_take,List.length_drop,List.length_append,List.length_singleton,List.length_cons,List.length_nil]<;>omega)))|(apply Aa.assign;rfl)|(apply Aa.move;rfl)|(apply Aa.Bq;rfl;rfl;omega)|(apply Aa.load;rfl;rfl)|(apply Aa.buildSlice;rfl;rfl;rfl;decide;rfl;rfl;rfl))
   all_goals try (exfalso;omega)
   refine Aw.normal ⟨by omega,?_,?_⟩
   ·rw [e2]
    repeat (first|exact Ak.nil|refine Ak.same (by exact PV.Ac rfl) rfl ?_|refine Ak.cons trivial rfl (.of_eq (Aq (by simp<;>omega))) ?_)
   ·rw [e2,e1]
    repeat (first|exact Ah.nil|(refine Ah.cons (Aj rfl) ?_ rfl ?_ ?_;(first|exact HB.Ac rfl|exact AP.Ag _ _|(simp [HB.under,AP.under,PV.under]));(first|exact Bg.refl _|exact Bg.vec (Bf.refl _) (by simp))))
 ·rw [rU]
  repeat' (first|(refine Af.IU 45 ?_;refine Af.ghost (A8.freeze 4 rfl rfl) ?_)|apply Ad.AA|apply Ad.AX|apply AO.normal|apply AL.exit|apply Aw.exit|apply Ad.ret|apply Af.nil|apply Af.one|(apply Aa.move;rfl)|(apply Aa.int;rfl;rfl;rfl)|(apply Aa.Bj;rfl;rfl;rfl;trivial;rfl;rfl;exact Aj rfl;exact le_dec rfl)|(apply Ad.Ae;rfl)|(intro _;try (exfalso;omega)))
  all_goals first|(exfalso;omega)|(refine Done.ret rfl (.refl _) (by exact PV.Ac rfl) Ah.nil (Nat.zero_le _) (Nat.le_refl _) ⟨?_,rfl,rfl⟩;try rfl)
end Go.Proofs.YtdabojnmoejilaaGreatDoor
namespace Go.Hun
open Go.Vm
structure Ix where
 n:Nat
instance:Enc Ix:={ default:=⟨0⟩,enc:=fun x=>[.int .i64 (x.n:Int)],size:=1,len:=fun _=>rfl }
instance:Inhabited Ix:=⟨⟨0⟩⟩
instance a7y:Enc Bool:={ default:=false,enc:=fun b=>[.bool b],size:=1,len:=fun _=>rfl }
def far:Int:=1152921504606846976
structure sG where
 least:List Int
 way:List Ix
 delta:Int
 next:Nat
def Uc (row:List Int) (ur:Int) (v:List Int) (k:Nat):Int:=gi row (k-1)-ur-gi v k
def Ll (row:List Int) (ur:Int) (v:List Int) (done:List Bool) (a:Nat) (s:sG) (k:Nat):sG :=
 if gi done k=true then s
 else if Uc row ur v k<gi s.least k then
  (if Uc row ur v k<s.delta then ⟨s.least.set k (Uc row ur v k),s.way.set k ⟨a⟩,Uc row ur v k,k⟩ else ⟨s.least.set k (Uc row ur v k),s.way.set k ⟨a⟩,s.delta,s.next⟩)
 else if gi s.least k<s.delta then ⟨s.least,s.way,gi s.least k,k⟩ else s
def Kv (row:List Int) (ur:Int) (v:List Int) (done:List Bool) (a:Nat) (s0:sG):Nat→sG
 |0=>s0
 |j+1=>Ll row ur v done a (Kv row ur v done a s0 j) (j+1)
structure yR where
 u:List Int
 v:List Int
 least:List Int
def SQ (owner:List Ix) (done:List Bool) (delta:Int) (t:yR) (k:Nat):yR :=
 if gi done k=true then ⟨t.u.set (gi owner k).n (gi t.u (gi owner k).n+delta),t.v.set k (gi t.v k-delta),t.least⟩ else ⟨t.u,t.v,t.least.set k (gi t.least k-delta)⟩
def Ib (owner:List Ix) (done:List Bool) (delta:Int) (t:yR):Nat→yR
 |0=>t
 |k+1=>SQ owner done delta (Ib owner done delta t k) k
structure Gr where
 u:List Int
 v:List Int
 way:List Ix
 least:List Int
 done:List Bool
 at_:Nat
def CQ (g:Gr):List Bool:=g.done.set g.at_ true
def DV (costs:List (List Int)) (owner:List Ix) (m:Nat) (g:Gr):sG :=
 Kv (gi costs ((gi owner g.at_).n-1)) (gi g.u (gi owner g.at_).n) g.v (CQ g) g.at_ ⟨g.least,g.way,far,0⟩ m
def Je (costs:List (List Int)) (owner:List Ix) (m:Nat) (g:Gr):yR :=
 Ib owner (CQ g) (DV costs owner m g).delta ⟨g.u,g.v,(DV costs owner m g).least⟩ (m+1)
def Gx (costs:List (List Int)) (owner:List Ix) (m:Nat) (g:Gr):Gr :=
 ⟨(Je costs owner m g).u,(Je costs owner m g).v,(DV costs owner m g).way,(Je costs owner m g).least,CQ g,(DV costs owner m g).next⟩
def Ej (costs:List (List Int)) (owner:List Ix) (m:Nat) (g0:Gr):Nat→Gr
 |0=>g0
 |t+1=>Gx costs owner m (Ej costs owner m g0 t)
def TY (costs:List (List Int)) (owner:List Ix) (m:Nat) (g0:Gr):Nat→Nat→Nat
 |0,t=>t
 |f+1,t=>if (gi owner (Ej costs owner m g0 t).at_).n=0 then t else TY costs owner m g0 f (t+1)
structure Aug where
 owner:List Ix
 at_:Nat
def jP (way:List Ix) (a:Aug):Aug:=⟨a.owner.set a.at_ (gi a.owner (gi way a.at_).n),(gi way a.at_).n⟩
def GU (way:List Ix) (a:Aug):Nat→Aug
 |0=>a
 |t+1=>jP way (GU way a t)
def aV (way:List Ix) (a:Aug):Nat→Nat→Nat
 |0,t=>t
 |f+1,t=>if (GU way a t).at_=0 then t else aV way a f (t+1)
structure lJ where
 u:List Int
 v:List Int
 owner:List Ix
 way:List Ix
def RS (m:Nat) (s:lJ):Gr:=⟨s.u,s.v,s.way,List.replicate (m+1) far,List.replicate (m+1) false,0⟩
def Jh (s:lJ) (i:Nat):List Ix:=s.owner.set 0 ⟨i⟩
def XM (costs:List (List Int)) (m:Nat) (s:lJ) (i:Nat):Nat:=TY costs (Jh s i) m (RS m s) (m+2) 0
def LQ (costs:List (List Int)) (m:Nat) (s:lJ) (i:Nat):Gr:=Ej costs (Jh s i) m (RS m s) (XM costs m s i)
def stA (costs:List (List Int)) (m:Nat) (s:lJ) (i:Nat):Aug:=⟨Jh s i,(LQ costs m s i).at_⟩
def yX (costs:List (List Int)) (m:Nat) (s:lJ) (i:Nat):Nat:=aV (LQ costs m s i).way (stA costs m s i) (m+2) 0
def Oj (costs:List (List Int)) (m:Nat) (s:lJ) (i:Nat):lJ :=
 ⟨(LQ costs m s i).u,(LQ costs m s i).v,(GU (LQ costs m s i).way (stA costs m s i) (yX costs m s i)).owner,(LQ costs m s i).way⟩
def Dj (costs:List (List Int)) (n m:Nat):Nat→lJ
 |0=>⟨List.replicate (n+1) 0,List.replicate (m+1) 0,List.replicate (m+1) ⟨0⟩,List.replicate (m+1) ⟨0⟩⟩
 |i+1=>Oj costs m (Dj costs n m i) (i+1)
structure Out where
 cols:List Int
 total:Int
def rG (costs:List (List Int)) (owner:List Ix) (o:Out) (k:Nat):Out :=
 if 0<(gi owner k).n then ⟨o.cols.set ((gi owner k).n-1) ((k:Int)-1),o.total+gi (gi costs ((gi owner k).n-1)) (k-1)⟩ else o
def KT (costs:List (List Int)) (owner:List Ix) (n:Nat):Nat→Out
 |0=>⟨List.replicate n 0,0⟩
 |k+1=>rG costs owner (KT costs owner n k) (k+1)
theorem gs {α:Type} [Inhabited α] {l:List α} {i j:Nat} {a:α} (h:i<l.length):gi (l.set i a) j=if i=j then a else gi l j:=by
 rw [PG]
 by_cases e:i=j
 ·subst e;rw [if_pos ⟨rfl,h⟩,if_pos rfl]
 ·rw [if_neg (fun x=>e x.1),if_neg e]
structure a6m (row:List Int) (ur:Int) (v:List Int) (done:List Bool) (a m:Nat) (s0 s:sG) (j:Nat):Prop where
 ll:s.least.length=m+1
 lw:s.way.length=m+1
 least:∀ k,gi s.least k=if 1≤k∧k≤j∧gi done k=false∧Uc row ur v k<gi s0.least k then Uc row ur v k else gi s0.least k
 way:∀ k,gi s.way k=if 1≤k∧k≤j∧gi done k=false∧Uc row ur v k<gi s0.least k then ⟨a⟩ else gi s0.way k
 delta:∀ k,1≤k→k≤j→gi done k=false→s.delta≤gi s.least k
 le:s.delta≤s0.delta
 next:(s.next=s0.next∧s.delta=s0.delta)∨(1≤s.next∧s.next≤j∧gi done s.next=false∧s.delta=gi s.least s.next)
theorem Tt {row:List Int} {ur:Int} {v:List Int} {done:List Bool} {a m:Nat} {s0:sG} (hl:s0.least.length=m+1) (hw:s0.way.length=m+1):∀ j,j≤m→a6m row ur v done a m s0 (Kv row ur v done a s0 j) j
 |0,_=>⟨hl,hw,fun k=>by rw [if_neg (by omega)];rfl,fun k=>by rw [if_neg (by omega)];rfl,fun k h1 h2=>by omega,Int.le_refl _,.inl ⟨rfl,rfl⟩⟩
 |j+1,hj=>by
  have ih:=Tt (row:=row) (ur:=ur) (v:=v) (done:=done) (a:=a) hl hw j (by omega)
  generalize hs:Kv row ur v done a s0 j=s at ih
  have e0:Kv row ur v done a s0 (j+1)=Ll row ur v done a s (j+1):=by rw [← hs];rfl
  rw [e0]
  obtain ⟨l1,l2,h1,h2,h3,h4,h5⟩:=ih
  have hlt:j+1<s.least.length:=by omega
  have hwt:j+1<s.way.length:=by omega
  have hj1:gi s.least (j+1)=gi s0.least (j+1):=by rw [h1,if_neg (by omega)]
  have hne:∀ k,k≤j→j+1≠k:=fun k hk=>by omega
  unfold Ll
  by_cases hd:gi done (j+1)=true
  ·rw [if_pos hd]
   refine ⟨l1,l2,fun k=>?_,fun k=>?_,fun k k1 k2 k3=>?_,h4,?_⟩
   ·rw [h1]
    by_cases e:k=j+1
    ·subst e;rw [if_neg (by omega),if_neg (by rw [hd];simp)]
    ·by_cases hc:1≤k∧k≤j∧gi done k=false∧Uc row ur v k<gi s0.least k
     ·rw [if_pos hc,if_pos ⟨hc.1,by omega,hc.2.2⟩]
     ·rw [if_neg hc,if_neg (fun x=>hc ⟨x.1,by omega,x.2.2⟩)]
   ·rw [h2]
    by_cases e:k=j+1
    ·subst e;rw [if_neg (by omega),if_neg (by rw [hd];simp)]
    ·by_cases hc:1≤k∧k≤j∧gi done k=false∧Uc row ur v k<gi s0.least k
     ·rw [if_pos hc,if_pos ⟨hc.1,by omega,hc.2.2⟩]
     ·rw [if_neg hc,if_neg (fun x=>hc ⟨x.1,by omega,x.2.2⟩)]
   ·by_cases e:k=j+1
    ·subst e;rw [hd] at k3;cases k3
    ·exact h3 k k1 (by omega) k3
   ·rcases h5 with h5|⟨x1,x2,x3,x4⟩
    ·exact .inl h5
    ·exact .inr ⟨x1,by omega,x3,x4⟩
  ·have hd':gi done (j+1)=false:=by cases h:gi done (j+1)<;>simp_all
   rw [if_neg hd]
   by_cases hc:Uc row ur v (j+1)<gi s.least (j+1)
   ·rw [if_pos hc]
    rw [hj1] at hc
    have L:∀ k,gi (s.least.set (j+1) (Uc row ur v (j+1))) k=if 1≤k∧k≤j+1∧gi done k=false∧Uc row ur v k<gi s0.least k then Uc row ur v k else gi s0.least k:=fun k=>by
     rw [gs hlt]
     by_cases e:j+1=k
     ·subst e;rw [if_pos rfl,if_pos ⟨by omega,Nat.le_refl _,hd',hc⟩]
     ·rw [if_neg e,h1]
      by_cases hc':1≤k∧k≤j∧gi done k=false∧Uc row ur v k<gi s0.least k
      ·rw [if_pos hc',if_pos ⟨hc'.1,by omega,hc'.2.2⟩]
      ·rw [if_neg hc',if_neg (fun x=>hc' ⟨x.1,by omega,x.2.2⟩)]
    have W:∀ k,gi (s.way.set (j+1) ⟨a⟩) k=if 1≤k∧k≤j+1∧gi done k=false∧Uc row ur v k<gi s0.least k then ⟨a⟩ else gi s0.way k:=fun k=>by
     rw [gs hwt]
     by_cases e:j+1=k
     ·subst e;rw [if_pos rfl,if_pos ⟨by omega,Nat.le_refl _,hd',hc⟩]
     ·rw [if_neg e,h2]
      by_cases hc':1≤k∧k≤j∧gi done k=false∧Uc row ur v k<gi s0.least k
      ·rw [if_pos hc',if_pos ⟨hc'.1,by omega,hc'.2.2⟩]
      ·rw [if_neg hc',if_neg (fun x=>hc' ⟨x.1,by omega,x.2.2⟩)]
    by_cases hb:Uc row ur v (j+1)<s.delta
    ·rw [if_pos hb]
     refine ⟨by simp [l1],by simp [l2],L,W,fun k k1 k2 k3=>?_,by simp only;omega,.inr ⟨by simp only;omega,Nat.le_refl _,hd',?_⟩⟩
     ·simp only
      rw [gs hlt]
      by_cases e:j+1=k
      ·rw [if_pos e];omega
      ·rw [if_neg e]
       have:=h3 k k1 (by omega) k3
       omega
     ·simp only
      rw [gs hlt,if_pos rfl]
    ·rw [if_neg hb]
     refine ⟨by simp [l1],by simp [l2],L,W,fun k k1 k2 k3=>?_,h4,?_⟩
     ·simp only
      rw [gs hlt]
      by_cases e:j+1=k
      ·rw [if_pos e];omega
      ·rw [if_neg e]
       exact h3 k k1 (by omega) k3
     ·rcases h5 with h5|⟨x1,x2,x3,x4⟩
      ·exact .inl h5
      ·refine .inr ⟨x1,by simp only;omega,x3,?_⟩
       simp only
       rw [gs hlt,if_neg (by omega)]
       exact x4
   ·rw [if_neg hc]
    have hc0:¬ Uc row ur v (j+1)<gi s0.least (j+1):=by rw [← hj1];exact hc
    have L:∀ k,gi s.least k=if 1≤k∧k≤j+1∧gi done k=false∧Uc row ur v k<gi s0.least k then Uc row ur v k else gi s0.least k:=fun k=>by
     rw [h1]
     by_cases e:j+1=k
     ·subst e;rw [if_neg (by omega),if_neg (fun x=>hc0 x.2.2.2)]
     ·by_cases hc':1≤k∧k≤j∧gi done k=false∧Uc row ur v k<gi s0.least k
      ·rw [if_pos hc',if_pos ⟨hc'.1,by omega,hc'.2.2⟩]
      ·rw [if_neg hc',if_neg (fun x=>hc' ⟨x.1,by omega,x.2.2⟩)]
    have W:∀ k,gi s.way k=if 1≤k∧k≤j+1∧gi done k=false∧Uc row ur v k<gi s0.least k then ⟨a⟩ else gi s0.way k:=fun k=>by
     rw [h2]
     by_cases e:j+1=k
     ·subst e;rw [if_neg (by omega),if_neg (fun x=>hc0 x.2.2.2)]
     ·by_cases hc':1≤k∧k≤j∧gi done k=false∧Uc row ur v k<gi s0.least k
      ·rw [if_pos hc',if_pos ⟨hc'.1,by omega,hc'.2.2⟩]
      ·rw [if_neg hc',if_neg (fun x=>hc' ⟨x.1,by omega,x.2.2⟩)]
    by_cases hb:gi s.least (j+1)<s.delta
    ·rw [if_pos hb]
     refine ⟨l1,l2,L,W,fun k k1 k2 k3=>?_,by simp only;omega,.inr ⟨by simp only;omega,Nat.le_refl _,hd',rfl⟩⟩
     simp only
     by_cases e:j+1=k
     ·rw [e];omega
     ·have:=h3 k k1 (by omega) k3
      omega
    ·rw [if_neg hb]
     refine ⟨l1,l2,L,W,fun k k1 k2 k3=>?_,h4,?_⟩
     ·by_cases e:j+1=k
      ·rw [← e];omega
      ·exact h3 k k1 (by omega) k3
     ·rcases h5 with h5|⟨x1,x2,x3,x4⟩
      ·exact .inl h5
      ·exact .inr ⟨x1,by omega,x3,x4⟩
structure a2r (owner:List Ix) (done:List Bool) (delta:Int) (t s:yR) (k:Nat):Prop where
 lu:s.u.length=t.u.length
 lv:s.v.length=t.v.length
 ll:s.least.length=t.least.length
 u0:∀ r,(∀ d,d<k→gi done d=true→(gi owner d).n≠r)→gi s.u r=gi t.u r
 u1:∀ d,d<k→gi done d=true→gi s.u (gi owner d).n=gi t.u (gi owner d).n+delta
 v:∀ d,gi s.v d=if d<k∧gi done d=true then gi t.v d-delta else gi t.v d
 least:∀ d,gi s.least d=if d<k∧gi done d=false then gi t.least d-delta else gi t.least d
theorem JK {owner:List Ix} {done:List Bool} {delta:Int} {t:yR} {m:Nat} (hv:t.v.length=m+1) (hl:t.least.length=m+1)
 (hu:∀ d,d≤m→gi done d=true→(gi owner d).n<t.u.length) (hi:∀ d e,d≤m→e≤m→gi done d=true→gi done e=true→(gi owner d).n=(gi owner e).n→d=e) :
 ∀ k,k≤m+1→a2r owner done delta t (Ib owner done delta t k) k
 |0,_=>⟨rfl,rfl,rfl,fun _ _=>rfl,fun d h=>by omega,fun d=>by rw [if_neg (by omega)];rfl,fun d=>by rw [if_neg (by omega)];rfl⟩
 |k+1,hk=>by
  have ih:=JK (delta:=delta) hv hl hu hi k (by omega)
  generalize hs:Ib owner done delta t k=s at ih
  have e0:Ib owner done delta t (k+1)=SQ owner done delta s k:=by rw [← hs];rfl
  rw [e0]
  obtain ⟨l1,l2,l3,h0,h1,h2,h3⟩:=ih
  unfold SQ
  by_cases hd:gi done k=true
  ·rw [if_pos hd]
   have hlt:=hu k (by omega) hd
   refine ⟨by simp [l1],by simp [l2],l3,fun r hr=>?_,fun d hd1 hd2=>?_,fun d=>?_,fun d=>?_⟩
   ·simp only
    rw [gs (by omega),if_neg (hr k (by omega) hd)]
    exact h0 r fun d x y=>hr d (by omega) y
   ·simp only
    rw [gs (by omega)]
    by_cases e:k=d
    ·subst e
     rw [if_pos rfl,h0 _ fun d x y z=>by have:=hi d k (by omega) (by omega) y hd z;omega]
    ·rw [if_neg fun x=>e (hi k d (by omega) (by omega) hd hd2 x)]
     exact h1 d (by omega) hd2
   ·simp only
    rw [gs (by omega)]
    by_cases e:k=d
    ·subst e
     rw [if_pos rfl,if_pos ⟨by omega,hd⟩,h2,if_neg (by omega)]
    ·rw [if_neg e,h2]
     by_cases x:d<k∧gi done d=true
     ·rw [if_pos x,if_pos ⟨by omega,x.2⟩]
     ·rw [if_neg x,if_neg fun y=>x ⟨by omega,y.2⟩]
   ·rw [h3]
    by_cases e:k=d
    ·subst e
     rw [if_neg (by omega),if_neg (by rw [hd];simp)]
    ·by_cases x:d<k∧gi done d=false
     ·rw [if_pos x,if_pos ⟨by omega,x.2⟩]
     ·rw [if_neg x,if_neg fun y=>x ⟨by omega,y.2⟩]
  ·have hd':gi done k=false:=by cases h:gi done k<;>simp_all
   rw [if_neg hd]
   refine ⟨l1,l2,by simp [l3],fun r hr=>h0 r fun d x y=>hr d (by omega) y,fun d hd1 hd2=>?_,fun d=>?_,fun d=>?_⟩
   ·by_cases e:k=d
    ·subst e;exact absurd hd2 hd
    ·exact h1 d (by omega) hd2
   ·rw [h2]
    by_cases e:k=d
    ·subst e
     rw [if_neg (by omega),if_neg (by rw [hd'];simp)]
    ·by_cases x:d<k∧gi done d=true
     ·rw [if_pos x,if_pos ⟨by omega,x.2⟩]
     ·rw [if_neg x,if_neg fun y=>x ⟨by omega,y.2⟩]
   ·simp only
    rw [gs (by omega)]
    by_cases e:k=d
    ·subst e
     rw [if_pos rfl,if_pos ⟨by omega,hd'⟩,h3,if_neg (by omega)]
    ·rw [if_neg e,h3]
     by_cases x:d<k∧gi done d=false
     ·rw [if_pos x,if_pos ⟨by omega,x.2⟩]
     ·rw [if_neg x,if_neg fun y=>x ⟨by omega,y.2⟩]
end Go.Hun
namespace Go.Hun
open Go.Vm
theorem VW:∀ (n m:Nat) (f:Nat→Nat),(∀ k,k<m→f k<n)→(∀ k e,k<m→e<m→f k=f e→k=e)→m≤n
 |0,m,f,h,hi=>by
  rcases Nat.eq_zero_or_pos m with h0|h0
  ·omega
  ·exact absurd (h 0 h0) (by omega)
 |n+1,0,f,h,hi=>by omega
 |n+1,m+1,f,h,hi=>by
  have:=VW n m (fun k=>if f k=n then f m else f k) (fun k hk=>by
   have h1:=h k (by omega)
   have h2:=h m (by omega)
   by_cases e:f k=n
   ·simp only [if_pos e]
    have:f m≠n:=fun e2=>by have:=hi k m (by omega) (by omega) (by omega);omega
    omega
   ·simp only [if_neg e];omega) (fun k e hk he hf=>by
   by_cases e1:f k=n<;>by_cases e2:f e=n
   ·exact hi k e (by omega) (by omega) (by omega)
   ·simp only [if_pos e1,if_neg e2] at hf
    have:=hi m e (by omega) (by omega) hf;omega
   ·simp only [if_neg e1,if_pos e2] at hf
    have:=hi k m (by omega) (by omega) hf;omega
   ·simp only [if_neg e1,if_neg e2] at hf
    exact hi k e (by omega) (by omega) hf)
  omega
def cst (costs:List (List Int)) (r k:Nat):Int:=gi (gi costs (r-1)) (k-1)
def own (o:List Ix) (k:Nat):Nat:=(gi o k).n
structure Ir (costs:List (List Int)) (n m:Nat) (B:Int):Prop where
 lo:∀ r k,0≤cst costs r k
 hi:∀ r k,cst costs r k≤B
 big:0≤B∧B≤1000000000000
 nm:n<m
structure su (costs:List (List Int)) (n m i:Nat) (s:lJ):Prop where
 lu:s.u.length=n+1
 lv:s.v.length=m+1
 lo:s.owner.length=m+1
 lw:s.way.length=m+1
 own:∀ k,1≤k→k≤m→own s.owner k≤i
 all:∀ r,1≤r→r≤i→∃ k,1≤k∧k≤m∧Hun.own s.owner k=r
 inj:∀ k e,1≤k→k≤m→1≤e→e≤m→Hun.own s.owner k=Hun.own s.owner e→Hun.own s.owner k≠0→k=e
 XG:∀ r k,1≤r→r≤i→1≤k→k≤m→gi s.u r+gi s.v k≤cst costs r k
 tight:∀ k,1≤k→k≤m→Hun.own s.owner k≠0→gi s.u (Hun.own s.owner k)+gi s.v k=cst costs (Hun.own s.owner k) k
 fP:∀ k,1≤k→k≤m→gi s.v k≤0
 Px:∀ k,1≤k→k≤m→Hun.own s.owner k=0→gi s.v k=0
 Va:∀ r,1≤r→r≤i→0≤gi s.u r
 uz:∀ r,i<r→gi s.u r=0
structure rZ (m i:Nat) (o:List Ix):Prop where
 len:o.length=m+1
 zero:own o 0=i+1
 le:∀ k,1≤k→k≤m→own o k≤i
 inj:∀ k e,k≤m→e≤m→own o k=own o e→own o k≠0→k=e
theorem rZ.lt {m i:Nat} {o:List Ix} (h:rZ m i o) {k:Nat} (hk:k≤m):own o k≤i+1:=by
 rcases Nat.eq_zero_or_pos k with h0|h0
 ·subst h0;rw [h.zero];omega
 ·have:=h.le k h0 hk;omega
theorem rZ.free {m i:Nat} {o:List Ix} (h:rZ m i o) (hm:i<m):∃ k,1≤k∧k≤m∧own o k=0:=by
 refine Classical.byContradiction fun hn=>?_
 have hn:∀ k,1≤k→k≤m→own o k≠0:=fun k h1 h2 h3=>hn ⟨k,h1,h2,h3⟩
 have:=VW i m (fun k=>own o (k+1)-1) (fun k hk=>by
  have h1:=hn (k+1) (by omega) (by omega)
  have h2:=h.le (k+1) (by omega) (by omega)
  show own o (k+1)-1<i
  omega) (fun k e hk he hf=>by
  have h1:=hn (k+1) (by omega) (by omega)
  have h2:=hn (e+1) (by omega) (by omega)
  have hf:own o (k+1)-1=own o (e+1)-1:=hf
  have:=h.inj (k+1) (e+1) (by omega) (by omega) (by omega) h1
  omega)
 omega
structure iM (costs:List (List Int)) (n m i:Nat) (o:List Ix) (A:Nat→Nat) (t:Nat) (g:Gr):Prop where
 lu:g.u.length=n+1
 lv:g.v.length=m+1
 lw:g.way.length=m+1
 ll:g.least.length=m+1
 ld:g.done.length=m+1
 at_:g.at_=A t
 le:∀ p,p≤t→A p≤m
 zero:A 0=0
 pos:∀ p,1≤p→p≤t→1≤A p
 done:∀ k,gi g.done k=true↔∃ p,p<t∧A p=k
 new:gi g.done (A t)=false
 pG:∀ p,p<t→own o (A p)≠0
 XG:∀ r k,1≤r→r≤i+1→1≤k→k≤m→gi g.u r+gi g.v k≤cst costs r k
 tight:∀ k,1≤k→k≤m→own o k≠0→gi g.u (own o k)+gi g.v k=cst costs (own o k) k
 fP:∀ k,1≤k→k≤m→gi g.v k≤0
 Px:∀ k,1≤k→k≤m→own o k=0→gi g.v k=0
 Va:∀ r,1≤r→r≤i+1→0≤gi g.u r
 uz:∀ r,i+1<r→gi g.u r=0
 least:∀ k,1≤k→k≤m→gi g.done k=false→∀ p,p<t→gi g.least k≤cst costs (own o (A p)) k-gi g.u (own o (A p))-gi g.v k
 Wx:∀ k,1≤k→k≤m→gi g.done k=false→(t=0∧gi g.least k=far)∨∃ p,p<t∧own g.way k=A p∧gi g.least k=cst costs (own o (A p)) k-gi g.u (own o (A p))-gi g.v k
 path:∀ p,1≤p→p≤t→∃ q,q<p∧own g.way (A p)=A q∧gi g.u (own o (A q))+gi g.v (A p)=cst costs (own o (A q)) (A p)
section
variable {costs:List (List Int)} {n m i:Nat} {o:List Ix} {A:Nat→Nat} {t:Nat} {g:Gr} {B:Int}
theorem iM.ule (h:iM costs n m i o A t g) (hc:Ir costs n m B) (ho:rZ m i o) (hi:i<m) {r:Nat} (h1:1≤r) (h2:r≤i+1):gi g.u r≤B:=by
 obtain ⟨f,f1,f2,f3⟩:=ho.free hi
 have:=h.XG r f h1 h2 f1 f2
 have:=h.Px f f1 f2 f3
 have:=hc.hi r f
 omega
theorem iM.vge (h:iM costs n m i o A t g) (hc:Ir costs n m B) (ho:rZ m i o) (hi:i<m) {k:Nat} (h1:1≤k) (h2:k≤m):-B≤gi g.v k:=by
 have hb:=hc.big
 by_cases e:own o k=0
 ·rw [h.Px k h1 h2 e];omega
 ·have h3:=ho.lt h2
  have:=h.tight k h1 h2 e
  have:=h.ule hc ho hi (r:=own o k) (by omega) h3
  have:=hc.lo (own o k) k
  omega
end
structure RdI (costs:List (List Int)) (n m i:Nat) (o:List Ix) (A:Nat→Nat) (t:Nat) (g:Gr) (B:Int) (s:sG):Prop where
 ll:s.least.length=m+1
 lw:s.way.length=m+1
 next:1≤s.next∧s.next≤m
 newN:gi (CQ g) s.next=false
 dn:s.delta=gi s.least s.next
 dle:∀ k,1≤k→k≤m→gi (CQ g) k=false→s.delta≤gi s.least k
 d0:0≤s.delta
 dB:s.delta≤B
 least:∀ k,1≤k→k≤m→gi (CQ g) k=false→∀ p,p<t+1→gi s.least k≤cst costs (own o (A p)) k-gi g.u (own o (A p))-gi g.v k
 Wx:∀ k,1≤k→k≤m→gi (CQ g) k=false→∃ p,p<t+1∧own s.way k=A p∧gi s.least k=cst costs (own o (A p)) k-gi g.u (own o (A p))-gi g.v k
 way:∀ k,gi (CQ g) k=true→gi s.way k=gi g.way k
 doneD:∀ k,gi (CQ g) k=true↔∃ p,p<t+1∧A p=k
theorem JQ {costs:List (List Int)} {n m i:Nat} {o:List Ix} {A:Nat→Nat} {t:Nat} {g:Gr} {B:Int} (h:iM costs n m i o A t g) (hc:Ir costs n m B) (ho:rZ m i o) (hi:i<n) (hr:own o (A t)≠0):RdI costs n m i o A t g B (DV costs o m g):=by
 have hm:=hc.nm
 have hb:=hc.big
 have hA:=h.le t (Nat.le_refl _)
 have hrow:=ho.lt hA
 have hD:∀ k,gi (CQ g) k=true↔∃ p,p<t+1∧A p=k:=fun k=>by
  unfold CQ
  rw [gs (by rw [h.ld,h.at_];omega),h.at_]
  by_cases e:A t=k
  ·rw [if_pos e];exact ⟨fun _=>⟨t,by omega,e⟩,fun _=>rfl⟩
  ·rw [if_neg e,h.done]
   exact ⟨fun ⟨p,h1,h2⟩=>⟨p,by omega,h2⟩,fun ⟨p,h1,h2⟩=>⟨p,by
    rcases Nat.lt_or_ge p t with h3|h3
    ·exact h3
    ·obtain rfl:p=t:=by omega
     exact absurd h2 e,h2⟩⟩
 have hO:∀ p,p<t+1→own o (A p)≠0:=fun p hp=>by
  rcases Nat.lt_or_ge p t with h3|h3
  ·exact h.pG p h3
  ·obtain rfl:p=t:=by omega
   exact hr
 have hN:∀ k,gi (CQ g) k=false→gi g.done k=false:=fun k hk=>by
  cases hg:gi g.done k with
  |false=>rfl
  |true =>
   obtain ⟨p,h1,h2⟩:=(h.done k).1 hg
   rw [(hD k).2 ⟨p,by omega,h2⟩] at hk
   cases hk
 have spec:=Tt (row:=gi costs ((gi o g.at_).n-1)) (ur:=gi g.u (gi o g.at_).n) (v:=g.v) (done:=CQ g) (a:=g.at_) (m:=m) (s0:=⟨g.least,g.way,far,0⟩) h.ll h.lw m (Nat.le_refl _)
 have b0e:∀ k,Uc (gi costs ((gi o g.at_).n-1)) (gi g.u (gi o g.at_).n) g.v k=cst costs (own o (A t)) k-gi g.u (own o (A t))-gi g.v k:=fun k=>by
  rw [h.at_];rfl
 have es:DV costs o m g=Kv (gi costs ((gi o g.at_).n-1)) (gi g.u (gi o g.at_).n) g.v (CQ g) g.at_ ⟨g.least,g.way,far,0⟩ m:=rfl
 rw [← es] at spec
 generalize DV costs o m g=s at spec ⊢
 obtain ⟨l1,l2,h1,h2,h3,h4,h5⟩:=spec
 simp only [b0e] at h1 h2 h4 h5
 have red:∀ p k,p<t+1→1≤k→k≤m→0≤cst costs (own o (A p)) k-gi g.u (own o (A p))-gi g.v k:=fun p k hp k1 k2=>by
  have:=h.XG (own o (A p)) k (by have:=hO p hp;omega) (ho.lt (h.le p (by omega))) k1 k2
  omega
 have a9t:∀ p k,p<t+1→1≤k→k≤m→cst costs (own o (A p)) k-gi g.u (own o (A p))-gi g.v k<far:=fun p k hp k1 k2=>by
  have:=hc.hi (own o (A p)) k
  have:=h.Va (own o (A p)) (by have:=hO p hp;omega) (ho.lt (h.le p (by omega)))
  have:=h.vge hc ho (by omega) k1 k2
  unfold far
  omega
 have LL:∀ k,1≤k→k≤m→gi (CQ g) k=false→∀ p,p<t+1→gi s.least k≤cst costs (own o (A p)) k-gi g.u (own o (A p))-gi g.v k:=fun k k1 k2 k3 p hp=>by
  rw [h1]
  rcases Nat.lt_or_ge p t with hpt|hpt
  ·have:=h.least k k1 k2 (hN k k3) p hpt
   split
   ·rename_i hx;omega
   ·exact this
  ·obtain rfl:p=t:=by omega
   split
   ·exact Int.le_refl _
   ·rename_i hx
    have:¬ cst costs (own o (A p)) k-gi g.u (own o (A p))-gi g.v k<gi g.least k:=fun y=>hx ⟨k1,k2,k3,y⟩
    omega
 have LE:∀ k,1≤k→k≤m→gi (CQ g) k=false→∃ p,p<t+1∧own s.way k=A p∧gi s.least k=cst costs (own o (A p)) k-gi g.u (own o (A p))-gi g.v k:=fun k k1 k2 k3=>by
  unfold own
  rw [h1,h2]
  split
  ·exact ⟨t,by omega,h.at_,rfl⟩
  ·rename_i hx
   rcases h.Wx k k1 k2 (hN k k3) with ⟨_,h7⟩|⟨p,h6,h7,h8⟩
   ·exact absurd ⟨k1,k2,k3,by rw [h7];exact a9t t k (by omega) k1 k2⟩ hx
   ·exact ⟨p,by omega,h7,h8⟩
 obtain ⟨f,f1,f2,f3⟩:=ho.free (by omega:i<m)
 have f4:gi (CQ g) f=false:=by
  cases hg:gi (CQ g) f with
  |false=>rfl
  |true =>
   obtain ⟨p,h6,h7⟩:=(hD f).1 hg
   have:=hO p h6
   rw [h7] at this
   exact absurd f3 this
 have f5:=h3 f f1 f2 f4
 have f6:=LL f f1 f2 f4 t (by omega)
 have f7:=h.Px f f1 f2 f3
 have f8:=hc.hi (own o (A t)) f
 have f9:=h.Va (own o (A t)) (by omega) hrow
 have b2h:far=1152921504606846976:=rfl
 rcases h5 with ⟨_,h6⟩|⟨h6,h7,h8,h9⟩
 ·omega
 ·refine ⟨l1,l2,⟨h6,h7⟩,h8,h9,h3,?_,by omega,LL,LE,fun k hk=>?_,hD⟩
  ·obtain ⟨p,p1,p2,p3⟩:=LE s.next h6 h7 h8
   rw [h9,p3]
   exact red p _ p1 h6 h7
  ·rw [h2,if_neg]
   rintro ⟨_,_,x,_⟩
   rw [hk] at x;cases x
structure ShI (m:Nat) (o:List Ix) (g:Gr) (d:Int) (s:sG) (t:yR):Prop where
 lu:t.u.length=g.u.length
 lv:t.v.length=m+1
 ll:t.least.length=m+1
 u1:∀ k,k≤m→gi (CQ g) k=true→gi t.u (own o k)=gi g.u (own o k)+d
 u0:∀ r,(∀ k,k≤m→gi (CQ g) k=true→own o k≠r)→gi t.u r=gi g.u r
 v1:∀ k,k≤m→gi (CQ g) k=true→gi t.v k=gi g.v k-d
 v0:∀ k,gi (CQ g) k=false→gi t.v k=gi g.v k
 least:∀ k,k≤m→gi (CQ g) k=false→gi t.least k=gi s.least k-d
section
variable {costs:List (List Int)} {n m i:Nat} {o:List Ix} {A:Nat→Nat} {t:Nat} {g:Gr} {B:Int}
theorem Y2 (h:iM costs n m i o A t g) (hc:Ir costs n m B) (ho:rZ m i o) (hi:i<n) (hr:own o (A t)≠0) :
 (∀ d,d≤m→gi (CQ g) d=true→(gi o d).n<g.u.length)∧∀ d e,d≤m→e≤m→gi (CQ g) d=true→gi (CQ g) e=true→(gi o d).n=(gi o e).n→d=e:=by
 have hR:=JQ h hc ho hi hr
 refine ⟨fun d hd _=>?_,fun d e hd he h1 h2 h3=>?_⟩
 ·have:=ho.lt hd
  unfold own at this
  rw [h.lu];omega
 ·refine ho.inj d e hd he h3 ?_
  obtain ⟨p,p1,p2⟩:=(hR.doneD d).1 h1
  rw [← p2]
  rcases Nat.lt_or_ge p t with h4|h4
  ·exact h.pG p h4
  ·obtain rfl:p=t:=by omega
   exact hr
theorem ND (h:iM costs n m i o A t g) (hc:Ir costs n m B) (ho:rZ m i o) (hi:i<n) (hr:own o (A t)≠0):ShI m o g (DV costs o m g).delta (DV costs o m g) (Je costs o m g):=by
 have hR:=JQ h hc ho hi hr
 obtain ⟨e1,e2⟩:=Y2 h hc ho hi hr
 have spec:=JK (owner:=o) (done:=CQ g) (delta:=(DV costs o m g).delta) (t:=⟨g.u,g.v,(DV costs o m g).least⟩) (m:=m) h.lv hR.ll e1 e2 (m+1) (Nat.le_refl _)
 have es:Je costs o m g=Ib o (CQ g) (DV costs o m g).delta ⟨g.u,g.v,(DV costs o m g).least⟩ (m+1):=rfl
 rw [← es] at spec
 generalize Je costs o m g=T at spec ⊢
 generalize DV costs o m g=s at spec hR ⊢
 obtain ⟨l1,l2,l3,h0,h1,h2,h3⟩:=spec
 simp only at l1 l2 l3 h0 h1 h2 h3
 refine ⟨l1,by rw [l2,h.lv],by rw [l3,hR.ll],fun k hk hd=>h1 k (by omega) hd,fun r hx=>h0 r fun d hd hd2=>hx d (by omega) hd2,fun k hk hd=>?_,fun k hd=>?_,fun k hk hd=>?_⟩
 ·rw [h2,if_pos ⟨by omega,hd⟩]
 ·rw [h2,if_neg (by rw [hd];simp)]
 ·rw [h3,if_pos ⟨by omega,hd⟩]
theorem iM.step (h:iM costs n m i o A t g) (hc:Ir costs n m B) (ho:rZ m i o) (hi:i<n) (hr:own o (A t)≠0) (hA:A (t+1)=(Gx costs o m g).at_):iM costs n m i o A (t+1) (Gx costs o m g):=by
 have hR:=JQ h hc ho hi hr
 have hS:=ND h hc ho hi hr
 have hnm:=hc.nm
 have eu:(Gx costs o m g).u=(Je costs o m g).u:=rfl
 have ev:(Gx costs o m g).v=(Je costs o m g).v:=rfl
 have ew:(Gx costs o m g).way=(DV costs o m g).way:=rfl
 have el:(Gx costs o m g).least=(Je costs o m g).least:=rfl
 have ed:(Gx costs o m g).done=CQ g:=rfl
 have ea:(Gx costs o m g).at_=(DV costs o m g).next:=rfl
 rw [ea] at hA
 generalize Je costs o m g=T at *
 generalize DV costs o m g=s at *
 generalize Gx costs o m g=G at *
 have hO:∀ p,p<t+1→own o (A p)≠0:=fun p hp=>by
  rcases Nat.lt_or_ge p t with h3|h3
  ·exact h.pG p h3
  ·obtain rfl:p=t:=by omega
   exact hr
 have hd0:=hR.d0
 have uR:∀ r,(∃ p,p<t+1∧own o (A p)=r∧gi T.u r=gi g.u r+s.delta)∨((∀ p,p<t+1→own o (A p)≠r)∧gi T.u r=gi g.u r):=fun r=>by
  by_cases hx:∃ p,p<t+1∧own o (A p)=r
  ·obtain ⟨p,p1,p2⟩:=hx
   have:=hS.u1 (A p) (h.le p (by omega)) ((hR.doneD _).2 ⟨p,p1,rfl⟩)
   rw [p2] at this
   exact .inl ⟨p,p1,p2,this⟩
  ·refine .inr ⟨fun p p1 p2=>hx ⟨p,p1,p2⟩,hS.u0 r fun k hk hd e=>?_⟩
   obtain ⟨p,p1,p2⟩:=(hR.doneD k).1 hd
   exact hx ⟨p,p1,by rw [p2];exact e⟩
 have uP:∀ p,p<t+1→gi T.u (own o (A p))=gi g.u (own o (A p))+s.delta:=fun p hp=>hS.u1 (A p) (h.le p (by omega)) ((hR.doneD _).2 ⟨p,hp,rfl⟩)
 have vR:∀ k,k≤m→(gi (CQ g) k=true∧gi T.v k=gi g.v k-s.delta)∨(gi (CQ g) k=false∧gi T.v k=gi g.v k):=fun k hk=>by
  cases hd:gi (CQ g) k with
  |true=>exact .inl ⟨rfl,hS.v1 k hk hd⟩
  |false=>exact .inr ⟨rfl,hS.v0 k hd⟩
 refine ⟨by rw [eu,hS.lu,h.lu],by rw [ev,hS.lv],by rw [ew,hR.lw],by rw [el,hS.ll],by rw [ed];unfold CQ;simp [h.ld],by rw [ea,hA],fun p hp=>?_,h.zero,fun p p1 hp=>?_,fun k=>by rw [ed];exact hR.doneD k,by rw [ed,hA];exact hR.newN,hO,?_,?_,?_,?_,?_,?_,?_,?_,?_⟩
 ·rcases Nat.lt_or_ge p (t+1) with h3|h3
  ·exact h.le p (by omega)
  ·obtain rfl:p=t+1:=by omega
   rw [hA];exact hR.next.2
 ·rcases Nat.lt_or_ge p (t+1) with h3|h3
  ·exact h.pos p p1 (by omega)
  ·obtain rfl:p=t+1:=by omega
   rw [hA];exact hR.next.1
 ·intro r k r1 r2 k1 k2
  rw [eu,ev]
  have h0:=h.XG r k r1 r2 k1 k2
  rcases uR r with ⟨p,p1,p2,p3⟩|⟨p1,p3⟩<;>rcases vR k k2 with ⟨q1,q2⟩|⟨q1,q2⟩
  ·omega
  ·have h1:=hR.dle k k1 k2 q1
   have h2:=hR.least k k1 k2 q1 p p1
   rw [p2] at h2
   omega
  ·omega
  ·omega
 ·intro k k1 k2 hk
  rw [eu,ev]
  have h0:=h.tight k k1 k2 hk
  rcases vR k k2 with ⟨q1,q2⟩|⟨q1,q2⟩
  ·have:=hS.u1 k k2 q1
   omega
  ·rcases uR (own o k) with ⟨p,p1,p2,p3⟩|⟨p1,p3⟩
   ·have:=ho.inj (A p) k (h.le p (by omega)) k2 p2 (hO p p1)
    rw [(hR.doneD k).2 ⟨p,p1,this⟩] at q1
    cases q1
   ·omega
 ·intro k k1 k2
  rw [ev]
  have h0:=h.fP k k1 k2
  rcases vR k k2 with ⟨q1,q2⟩|⟨q1,q2⟩<;>omega
 ·intro k k1 k2 hk
  rw [ev]
  have h0:=h.Px k k1 k2 hk
  rcases vR k k2 with ⟨q1,q2⟩|⟨q1,q2⟩
  ·obtain ⟨p,p1,p2⟩:=(hR.doneD k).1 q1
   have:=hO p p1
   rw [p2] at this
   exact absurd hk this
  ·omega
 ·intro r r1 r2
  rw [eu]
  have h0:=h.Va r r1 r2
  rcases uR r with ⟨p,p1,p2,p3⟩|⟨p1,p3⟩<;>omega
 ·intro r hr1
  rw [eu]
  rcases uR r with ⟨p,p1,p2,p3⟩|⟨p1,p3⟩
  ·have:=ho.lt (h.le p (by omega));omega
  ·rw [p3];exact h.uz r hr1
 ·intro k k1 k2 hk p hp
  rw [ed] at hk
  rw [eu,ev,el,hS.least k k2 hk,uP p hp,hS.v0 k hk]
  have:=hR.least k k1 k2 hk p hp
  omega
 ·intro k k1 k2 hk
  rw [ed] at hk
  obtain ⟨p,p1,p2,p3⟩:=hR.Wx k k1 k2 hk
  refine .inr ⟨p,p1,by rw [ew];exact p2,?_⟩
  rw [eu,ev,el,hS.least k k2 hk,uP p p1,hS.v0 k hk]
  omega
 ·intro p p1 hp
  rw [eu,ev,ew]
  rcases Nat.lt_or_ge p (t+1) with h3|h3
  ·obtain ⟨q,q1,q2,q3⟩:=h.path p p1 (by omega)
   have hd:=(hR.doneD (A p)).2 ⟨p,h3,rfl⟩
   refine ⟨q,q1,?_,?_⟩
   ·unfold own
    rw [hR.way _ hd];exact q2
   ·rw [uP q (by omega),hS.v1 _ (h.le p (by omega)) hd]
    omega
  ·obtain rfl:p=t+1:=by omega
   obtain ⟨q,q1,q2,q3⟩:=hR.Wx s.next hR.next.1 hR.next.2 hR.newN
   refine ⟨q,q1,by rw [hA];exact q2,?_⟩
   rw [hA,uP q q1,hS.v0 _ hR.newN]
   have:=hR.dn
   omega
end
end Go.Hun
namespace Go.Hun
open Go.Vm
section
variable {costs:List (List Int)} {n m i:Nat} {s:lJ} {B:Int}
theorem Z5 {l:List Ix} {j k x:Nat} (h:j<l.length):own (l.set j ⟨x⟩) k=if j=k then x else own l k:=by
 unfold own
 rw [gs h]
 split<;>rfl
theorem a3l {α:Type} [Inhabited α] {a:α} {n i:Nat} (h:i<n):gi (List.replicate n a) i=a:=Mc h
theorem Vy {n:Nat} (i:Nat):gi (List.replicate n (0:Int)) i=0:=by
 unfold gi
 rw [List.getElem?_replicate]
 split<;>rfl
theorem Y7 (h:su costs n m i s):rZ m i (Jh s (i+1)):=by
 have e:∀ k,own (Jh s (i+1)) k=if 0=k then i+1 else own s.owner k:=fun k=>Z5 (by rw [h.lo];omega)
 refine ⟨by unfold Jh;simp [h.lo],by rw [e];rfl,fun k k1 k2=>?_,fun k j k1 k2=>?_⟩
 ·rw [e,if_neg (by omega)];exact h.own k k1 k2
 ·rw [e,e]
  intro h1 h2
  by_cases a:0=k<;>by_cases b:0=j
  ·omega
  ·rw [if_pos a,if_neg b] at h1
   have:=h.own j (by omega) k2;omega
  ·rw [if_neg a,if_pos b] at h1
   have:=h.own k (by omega) k1;omega
  ·rw [if_neg a,if_neg b] at h1
   rw [if_neg a] at h2
   exact h.inj k j (by omega) k1 (by omega) k2 h1 h2
def MN (costs:List (List Int)) (m i:Nat) (s:lJ) (p:Nat):Nat:=(Ej costs (Jh s (i+1)) m (RS m s) p).at_
theorem a2m (h:su costs n m i s) (hc:Ir costs n m B) (hi:i<n):iM costs n m i (Jh s (i+1)) (MN costs m i s) 0 (Ej costs (Jh s (i+1)) m (RS m s) 0):=by
 have ho:=Y7 h
 have eo:∀ k,own (Jh s (i+1)) k=if 0=k then i+1 else own s.owner k:=fun k=>Z5 (by rw [h.lo];omega)
 have nd:∀ k,gi (List.replicate (m+1) false) k=false:=fun k=>by
  unfold gi
  rw [List.getElem?_replicate]
  split<;>rfl
 refine ⟨h.lu,h.lv,h.lw,by simp [Ej,RS],by simp [Ej,RS],rfl,fun p hp=>?_,rfl,fun p p1 p2=>by omega,fun k=>?_,nd _,fun p hp=>by omega,?_,?_,h.fP,?_,?_,?_,fun k _ _ _ p hp=>by omega,fun k k1 k2 _=>.inl ⟨rfl,?_⟩,fun p p1 p2=>by omega⟩
 ·obtain rfl:p=0:=by omega
  exact Nat.zero_le _
 ·constructor
  ·intro hk
   have:gi (List.replicate (m+1) false) k=true:=hk
   rw [nd] at this;cases this
  ·rintro ⟨p,hp,_⟩;omega
 ·intro r k r1 r2 k1 k2
  show gi s.u r+gi s.v k≤_
  rcases Nat.lt_or_ge r (i+1) with h3|h3
  ·exact h.XG r k r1 (by omega) k1 k2
  ·have:=h.uz r (by omega)
   have:=h.fP k k1 k2
   have:=hc.lo r k
   omega
 ·intro k k1 k2
  rw [eo,if_neg (by omega)]
  exact h.tight k k1 k2
 ·intro k k1 k2
  rw [eo,if_neg (by omega)]
  exact h.Px k k1 k2
 ·intro r r1 r2
  show 0≤gi s.u r
  rcases Nat.lt_or_ge r (i+1) with h3|h3
  ·exact h.Va r r1 (by omega)
  ·rw [h.uz r (by omega)];omega
 ·intro r hr
  exact h.uz r (by omega)
 ·exact a3l (by omega)
theorem Po (h:su costs n m i s) (hc:Ir costs n m B) (hi:i<n):∀ t,(∀ p,p<t→own (Jh s (i+1)) (MN costs m i s p)≠0)→iM costs n m i (Jh s (i+1)) (MN costs m i s) t (Ej costs (Jh s (i+1)) m (RS m s) t)
 |0,_=>a2m h hc hi
 |t+1,hp=>(Po h hc hi t fun p hp'=>hp p (by omega)).step hc (Y7 h) hi (hp t (by omega)) rfl
theorem XI (o:List Ix) (g0:Gr):∀ f t,(∀ p,p<t→own o (Ej costs o m g0 p).at_≠0) →
 (∀ p,p<TY costs o m g0 f t→own o (Ej costs o m g0 p).at_≠0)∧(own o (Ej costs o m g0 (TY costs o m g0 f t)).at_=0∨TY costs o m g0 f t=t+f)∧TY costs o m g0 f t≤t+f
 |0,t,h=>⟨h,.inr rfl,Nat.le_refl _⟩
 |f+1,t,h=>by
  unfold TY
  by_cases e:(gi o (Ej costs o m g0 t).at_).n=0
  ·rw [if_pos e];exact ⟨h,.inl e,by omega⟩
  ·rw [if_neg e]
   obtain ⟨a,b,c⟩:=XI o g0 f (t+1) fun p hp=>by
    rcases Nat.lt_or_ge p t with h3|h3
    ·exact h p h3
    ·obtain rfl:p=t:=by omega
     exact e
   exact ⟨a,by rcases b with b|b;exact .inl b;exact .inr (by omega),by omega⟩
theorem iM.ne {o:List Ix} {A:Nat→Nat} {p q:Nat} {g:Gr} (h:iM costs n m i o A p g) (hq:q<p):A q≠A p:=fun e=>by
 have:=(h.done (A p)).2 ⟨q,hq,e⟩
 rw [h.new] at this;cases this
theorem aK (h:su costs n m i s) (hc:Ir costs n m B) (hi:i<n):(∀ p,p<XM costs m s (i+1)→own (Jh s (i+1)) (MN costs m i s p)≠0)∧own (Jh s (i+1)) (MN costs m i s (XM costs m s (i+1)))=0∧XM costs m s (i+1)≤m+1:=by
 obtain ⟨a,b,c⟩:=XI (costs:=costs) (m:=m) (Jh s (i+1)) (RS m s) (m+2) 0 (fun p hp=>by omega)
 have e:XM costs m s (i+1)=TY costs (Jh s (i+1)) m (RS m s) (m+2) 0:=rfl
 rw [← e] at a b c
 have hlt:XM costs m s (i+1)≠m+2:=fun e2=>by
  have:=VW (m+1) (m+2) (MN costs m i s) (fun k hk=>by
   have:=(Po h hc hi k fun p hp=>a p (by omega)).le k (Nat.le_refl _)
   omega) (fun k j hk hj hkj=>by
   rcases Nat.lt_trichotomy k j with h3|h3|h3
   ·exact absurd hkj ((Po h hc hi j fun p hp=>a p (by omega)).ne h3)
   ·exact h3
   ·exact absurd hkj.symm ((Po h hc hi k fun p hp=>a p (by omega)).ne h3))
  omega
 refine ⟨a,?_,by omega⟩
 rcases b with b|b
 ·exact b
 ·omega
structure o7 (costs:List (List Int)) (m i:Nat) (u v:List Int) (o:List Ix) (A:Nat→Nat) (q:Nat) (a:Aug):Prop where
 len:a.owner.length=m+1
 at_:a.at_=A q
 tight:∀ k,1≤k→k≤m→k≠a.at_→own a.owner k≠0→gi u (own a.owner k)+gi v k=cst costs (own a.owner k) k
 inj:∀ k e,k≤m→e≤m→k≠a.at_→e≠a.at_→own a.owner k=own a.owner e→own a.owner k≠0→k=e
 all:∀ r,1≤r→r≤i+1→∃ k,k≤m∧k≠a.at_∧own a.owner k=r
 same:∀ p,p<q→own a.owner (A p)=own o (A p)
 free:∀ k,1≤k→k≤m→k≠a.at_→own a.owner k=0→gi v k=0
 le:∀ k,k≤m→own a.owner k≤i+1
theorem o7.step {o:List Ix} {A:Nat→Nat} {T q:Nat} {g:Gr} {a:Aug} (h:o7 costs m i g.u g.v o A q a) (hg:iM costs n m i o A T g) (hne:∀ p q,q<p→p≤T→A q≠A p) (hq:1≤q) (hqT:q≤T):∃ q',q'<q∧o7 costs m i g.u g.v o A q' (jP g.way a):=by
 obtain ⟨q',q1,q2,q3⟩:=hg.path q hq hqT
 have ew:(gi g.way a.at_).n=A q':=by rw [h.at_];exact q2
 have hle:=hg.le q hqT
 have hle':=hg.le q' (by omega)
 have hab:A q'≠A q:=hne q q' q1 hqT
 have eo:∀ k,own (jP g.way a).owner k=if A q=k then own a.owner (A q') else own a.owner k:=fun k=>by
  unfold jP own
  simp only
  rw [gs (by rw [h.len,h.at_];omega),h.at_]
  rw [show gi g.way (A q)=⟨A q'⟩ from by
   have:own g.way (A q)=A q':=q2
   unfold own at this
   rw [← this]]
  split<;>rfl
 have ea:(jP g.way a).at_=A q':=by
  unfold jP;simp only;exact ew
 have hs:=h.same q' q1
 refine ⟨q',q1,by unfold jP;simp [h.len],ea,fun k k1 k2 k3=>?_,fun k e k1 k2 k3 k4=>?_,fun r r1 r2=>?_,fun p hp=>?_,fun k k1 k2 k3=>?_,fun k hk=>?_⟩
 ·rw [eo]
  rw [ea] at k3
  by_cases e:A q=k
  ·subst e
   rw [if_pos rfl,hs]
   intro _;exact q3
  ·rw [if_neg e]
   exact h.tight k k1 k2 (by rw [h.at_];exact fun x=>e x.symm)
 ·rw [ea] at k3 k4
  rw [eo,eo]
  have d1:A q'≠a.at_:=by rw [h.at_];exact hab
  by_cases e1:A q=k<;>by_cases e2:A q=e
  ·intro _ _;omega
  ·rw [if_pos e1,if_neg e2]
   intro x y
   have:=h.inj (A q') e hle' k2 d1 (by rw [h.at_];exact fun z=>e2 z.symm) x y
   exact absurd this.symm k4
  ·rw [if_neg e1,if_pos e2]
   intro x y
   have:=h.inj k (A q') k1 hle' (by rw [h.at_];exact fun z=>e1 z.symm) d1 x y
   exact absurd this k3
  ·rw [if_neg e1,if_neg e2]
   intro x y
   exact h.inj k e k1 k2 (by rw [h.at_];exact fun z=>e1 z.symm) (by rw [h.at_];exact fun z=>e2 z.symm) x y
 ·obtain ⟨k,k1,k2,k3⟩:=h.all r r1 r2
  rw [h.at_] at k2
  by_cases e:k=A q'
  ·refine ⟨A q,hle,by rw [ea];exact fun x=>hab x.symm,?_⟩
   rw [eo,if_pos rfl,← e];exact k3
  ·refine ⟨k,k1,by rw [ea];exact e,?_⟩
   rw [eo,if_neg (fun x=>k2 x.symm)];exact k3
 ·rw [eo,if_neg (fun x=>hne q p (by omega) hqT x.symm)]
  exact h.same p (by omega)
 ·rw [eo]
  rw [ea] at k3
  by_cases e:A q=k
  ·rw [if_pos e,hs]
   intro x
   exact absurd x (hg.pG q' (by omega))
  ·rw [if_neg e]
   exact h.free k k1 k2 (by rw [h.at_];exact fun x=>e x.symm)
 ·rw [eo]
  split
  ·exact h.le _ hle'
  ·exact h.le k hk
theorem YJ (way:List Ix) (a:Aug):∀ f t,(∀ p,p<t→(GU way a p).at_≠0) →
 (∀ p,p<aV way a f t→(GU way a p).at_≠0)∧((GU way a (aV way a f t)).at_=0∨aV way a f t=t+f)∧aV way a f t≤t+f
 |0,t,h=>⟨h,.inr rfl,Nat.le_refl _⟩
 |f+1,t,h=>by
  unfold aV
  by_cases e:(GU way a t).at_=0
  ·rw [if_pos e];exact ⟨h,.inl e,by omega⟩
  ·rw [if_neg e]
   obtain ⟨x,b,c⟩:=YJ way a f (t+1) fun p hp=>by
    rcases Nat.lt_or_ge p t with h3|h3
    ·exact h p h3
    ·obtain rfl:p=t:=by omega
     exact e
   exact ⟨x,by rcases b with b|b;exact .inl b;exact .inr (by omega),by omega⟩
structure a6x (costs:List (List Int)) (m:Nat) (s:lJ) (i:Nat):Prop where
 go:∀ t,t<yX costs m s (i+1)→(GU (LQ costs m s (i+1)).way (stA costs m s (i+1)) t).at_≠0
 fin:(GU (LQ costs m s (i+1)).way (stA costs m s (i+1)) (yX costs m s (i+1))).at_=0
 inv:∀ t,t≤yX costs m s (i+1)→∃ q,q+t≤XM costs m s (i+1)∧o7 costs m i (LQ costs m s (i+1)).u (LQ costs m s (i+1)).v (Jh s (i+1)) (MN costs m i s) q (GU (LQ costs m s (i+1)).way (stA costs m s (i+1)) t)
theorem mY (h:su costs n m i s) (hc:Ir costs n m B) (hi:i<n):a6x costs m s i:=by
 obtain ⟨a,b,c⟩:=aK h hc hi
 have ho:=Y7 h
 have hg:=Po h hc hi (XM costs m s (i+1)) a
 have eE:Ej costs (Jh s (i+1)) m (RS m s) (XM costs m s (i+1))=LQ costs m s (i+1):=rfl
 rw [eE] at hg
 have hne:∀ p q,q<p→p≤XM costs m s (i+1)→MN costs m i s q≠MN costs m i s p:=fun p q h1 h2=>(Po h hc hi p fun p' hp'=>a p' (by omega)).ne h1
 have eA:stA costs m s (i+1)=⟨Jh s (i+1),MN costs m i s (XM costs m s (i+1))⟩:=rfl
 have i0:o7 costs m i (LQ costs m s (i+1)).u (LQ costs m s (i+1)).v (Jh s (i+1)) (MN costs m i s) (XM costs m s (i+1)) (stA costs m s (i+1)):=by
  rw [eA]
  refine ⟨ho.len,rfl,fun k k1 k2 _=>hg.tight k k1 k2,fun k e k1 k2 _ _=>ho.inj k e k1 k2,fun r r1 r2=>?_,fun _ _=>rfl,fun k k1 k2 _=>hg.Px k k1 k2,fun k hk=>ho.lt hk⟩
  have nz:∀ k,own (Jh s (i+1)) k=r→k≠MN costs m i s (XM costs m s (i+1)):=fun k hk e=>by rw [e,b] at hk;omega
  rcases Nat.lt_or_ge r (i+1) with h3|h3
  ·obtain ⟨k,k1,k2,k3⟩:=h.all r r1 (by omega)
   have:own (Jh s (i+1)) k=r:=by
    unfold Jh
    rw [Z5 (by rw [h.lo];omega),if_neg (by omega)];exact k3
   exact ⟨k,k2,nz k this,this⟩
  ·have:own (Jh s (i+1)) 0=r:=by rw [ho.zero];omega
   exact ⟨0,Nat.zero_le _,nz 0 this,this⟩
 have inv:∀ t,(∀ p,p<t→(GU (LQ costs m s (i+1)).way (stA costs m s (i+1)) p).at_≠0)→∃ q,q+t≤XM costs m s (i+1)∧o7 costs m i (LQ costs m s (i+1)).u (LQ costs m s (i+1)).v (Jh s (i+1)) (MN costs m i s) q (GU (LQ costs m s (i+1)).way (stA costs m s (i+1)) t):=by
  intro t
  induction t with
  |zero=>intro _;exact ⟨_,Nat.le_refl _,i0⟩
  |succ t ih =>
   intro hp
   obtain ⟨q,q1,q2⟩:=ih fun p hp'=>hp p (by omega)
   have h0:=hp t (by omega)
   have hq:1≤q:=by
    rcases Nat.eq_zero_or_pos q with e|e
    ·subst e
     rw [q2.at_,hg.zero] at h0;exact absurd rfl h0
    ·exact e
   obtain ⟨q',x1,x2⟩:=q2.step hg hne hq (by omega)
   exact ⟨q',by omega,x2⟩
 obtain ⟨x,y,z⟩:=YJ (LQ costs m s (i+1)).way (stA costs m s (i+1)) (m+2) 0 (fun p hp=>by omega)
 have e:yX costs m s (i+1)=aV (LQ costs m s (i+1)).way (stA costs m s (i+1)) (m+2) 0:=rfl
 rw [← e] at x y z
 refine ⟨x,?_,fun t ht=>inv t fun p hp=>x p (by omega)⟩
 rcases y with y|y
 ·exact y
 ·obtain ⟨q,q1,_⟩:=inv (yX costs m s (i+1)) x
  omega
theorem su.step (h:su costs n m i s) (hc:Ir costs n m B) (hi:i<n):su costs n m (i+1) (Oj costs m s (i+1)):=by
 obtain ⟨a,b,c⟩:=aK h hc hi
 have hg:=Po h hc hi (XM costs m s (i+1)) a
 have eE:Ej costs (Jh s (i+1)) m (RS m s) (XM costs m s (i+1))=LQ costs m s (i+1):=rfl
 rw [eE] at hg
 obtain ⟨_,fin,inv⟩:=mY h hc hi
 obtain ⟨q,_,hA⟩:=inv _ (Nat.le_refl _)
 have e1:(Oj costs m s (i+1)).u=(LQ costs m s (i+1)).u:=rfl
 have e2:(Oj costs m s (i+1)).v=(LQ costs m s (i+1)).v:=rfl
 have e3:(Oj costs m s (i+1)).owner=(GU (LQ costs m s (i+1)).way (stA costs m s (i+1)) (yX costs m s (i+1))).owner:=rfl
 have e4:(Oj costs m s (i+1)).way=(LQ costs m s (i+1)).way:=rfl
 generalize Oj costs m s (i+1)=S at *
 generalize GU (LQ costs m s (i+1)).way (stA costs m s (i+1)) (yX costs m s (i+1))=a' at *
 refine ⟨by rw [e1];exact hg.lu,by rw [e2];exact hg.lv,by rw [e3];exact hA.len,by rw [e4];exact hg.lw,fun k k1 k2=>by rw [e3];exact hA.le k k2,fun r r1 r2=>?_,fun k e k1 k2 k3 k4=>?_,fun r k r1 r2 k1 k2=>by rw [e1,e2];exact hg.XG r k r1 r2 k1 k2,fun k k1 k2=>?_,fun k k1 k2=>by rw [e2];exact hg.fP k k1 k2,fun k k1 k2=>?_,fun r r1 r2=>by rw [e1];exact hg.Va r r1 r2,fun r hr=>by rw [e1];exact hg.uz r hr⟩
 ·obtain ⟨k,k1,k2,k3⟩:=hA.all r r1 r2
  rw [fin] at k2
  exact ⟨k,by omega,k1,by rw [e3];exact k3⟩
 ·rw [e3]
  exact hA.inj k e k2 k4 (by omega) (by omega)
 ·rw [e1,e2,e3]
  exact hA.tight k k1 k2 (by omega)
 ·rw [e2,e3]
  exact hA.free k k1 k2 (by omega)
theorem stage0:su costs n m 0 (Dj costs n m 0):=by
 have z:∀ k,own (List.replicate (m+1) (⟨0⟩:Ix)) k=0:=fun k=>by
  unfold own gi
  rw [List.getElem?_replicate]
  split<;>rfl
 refine ⟨by simp [Dj],by simp [Dj],by simp [Dj],by simp [Dj],fun k _ _=>?_,fun r h1 h2=>by omega,fun k e _ _ _ _ _ h=>absurd (z k) h,fun r k h1 h2=>by omega,fun k _ _ h=>absurd (z k) h,fun k _ _=>?_,fun k _ _ _=>?_,fun r h1 h2=>by omega,fun r _=>?_⟩
 ·show own (List.replicate (m+1) (⟨0⟩:Ix)) k≤0
  rw [z];exact Nat.le_refl _
 ·show gi (List.replicate (m+1) (0:Int)) k≤0
  rw [Vy];omega
 ·show gi (List.replicate (m+1) (0:Int)) k=0
  exact Vy k
 ·show gi (List.replicate (n+1) (0:Int)) r=0
  exact Vy r
theorem NV (hc:Ir costs n m B):∀ i,i≤n→su costs n m i (Dj costs n m i)
 |0,_=>stage0
 |i+1,hi=>(NV hc i (by omega)).step hc (by omega)
end
end Go.Hun
