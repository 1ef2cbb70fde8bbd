/-
  Texts of a proof, merged (OrC, OrD, OrE, OrN, Vm31, Ori, Vm29, Vm36, Vm32, Vm33, Vm34, Vm37, TraF, Vm35, TraG, TraH, TraA, TraI, HunA, HunB, HunC). Conditions: in each statement.
-/
import Derived.Sort.Grow
import Derived.Test.YtdabojnmoejilaaGreatDoorKKd
set_option linter.unusedSimpArgs false
set_option linter.unusedVariables false
set_option linter.unusedSectionVars false
set_option maxRecDepth 100000
set_option maxHeartbeats 8000000
namespace Go.Proofs.YtdabojnmoejilaaGreatDoor
open Go Go.Am Go.Vm
attribute [local irreducible] Aa Af Aq Ad BF AX Ci AU AO Aw Vm.Done CS Bq
attribute [local irreducible] DW DN
theorem VD (lo hi:Int):AX env 89 [.agg [.int .i64 lo,.int .i64 hi]] (.p (.int .i64 (UH lo hi))):=by
 unfold UH
 refine AX.enter (AB (by decide)) Tryz.func89 rfl (by kernel_rfl) (by simp [Tryz.ntmps89]) ?_
 repeat' (first|apply Ad.AA|apply Ad.Ai|apply AU.normal|apply AU.ret|apply AO.normal|apply AO.ret|apply Ad.ret|apply Ad.skip|apply Af.nil|apply Af.one|(apply Af.take;rfl;rfl)|(apply Af.drop;rfl;rfl;rfl)|(apply Af.guard;rfl;rfl)|(apply Aa.assign;rfl)|(apply Aa.move;rfl)|(apply Aa.int;rfl;rfl;rfl)|(apply Aa.load;rfl;rfl)|(apply Aa.Bo;rfl;rfl)|(apply Aa.AQ;rfl;rfl)|(apply Aa.AV;rfl;rfl;rfl)|(apply Aa.box;rfl;trivial)|(apply Ad.cond_true;rfl)|(apply Ad.AY;rfl)|(intro _;try (exfalso;omega)))
 all_goals first
  |(rw [if_pos (by omega)];(refine Done.ret rfl (.refl _) (by exact PV.Ac rfl) Ak.nil (Nat.zero_le _) (Nat.le_refl _) ⟨?_,rfl,rfl⟩;try rfl);done)
  |(rw [if_neg (by omega),if_pos (by omega)];(refine Done.ret rfl (.refl _) (by exact PV.Ac rfl) Ak.nil (Nat.zero_le _) (Nat.le_refl _) ⟨?_,rfl,rfl⟩;try rfl);done)
  |(rw [if_neg (by omega),if_neg (by omega)];(refine Done.ret rfl (.refl _) (by exact PV.Ac rfl) Ak.nil (Nat.zero_le _) (Nat.le_refl _) ⟨?_,rfl,rfl⟩;try rfl);done)
theorem bY:WV Tryz.prog 133=true:=by kernel_rfl
theorem a2z (x y:dV):Vm.Zn Tryz.prog 133 (Enc.enc x) (Enc.enc y)=some (decide (x=y)):=by
 show some (decide (x.rank=y.rank)&&(decide (x.shift=y.shift)&&true))=_
 by_cases h:x=y
 ·subst h;simp
 ·rw [decide_eq_false h]
  have:¬ (x.rank=y.rank∧x.shift=y.shift):=fun h'=>h (by cases x;cases y;simp_all)
  by_cases h1:x.rank=y.rank<;>simp_all
theorem Vt {α:Type} [Inhabited α] {a:α} {l:List α}:a∈l↔∃ i,i<l.length∧gi l i=a:=by
 constructor
 ·intro h
  obtain ⟨i,hi,e⟩:=List.getElem_of_mem h
  exact ⟨i,hi,by simp [gi,List.getElem?_eq_getElem hi,e]⟩
 ·rintro ⟨i,hi,e⟩
  rw [← e]
  simp only [gi,List.getElem?_eq_getElem hi,Option.getD_some]
  exact List.getElem_mem hi
theorem Zg {α:Type} [Inhabited α] {l:List α} {i k:Nat} (h:i<k):gi (l.take k) i=gi l i:=by simp [gi,List.getElem?_take,h]
theorem DJ {α:Type} [Inhabited α] {l:List α} {k:Nat} (hk:k<l.length):l.take (k+1)=l.take k++[gi l k]:=by
 rw [List.take_succ_eq_append_getElem hk];simp [gi,List.getElem?_eq_getElem hk]
theorem zD {L:Vm.Frame} {H:Vm.Heap} {nx:Nat} {Q:PV→Vm.Heap→Nat→Prop} {dst:Option Tmp} {ty:TypeId} {pos:String} {af:Array Edge} {gd:Option (Nat×Bool)} {fo:Operand} {args:Array Operand} {aT:Array TypeId} {fs cs xs:List PV} {c:Code}
 (hf:BG env.Γ L fo=some (.clo 136 fs cs)) (ha:evs env.Γ L args.toList=some xs) (hb:Tryz.f136.body=some c) (hn:(fs++xs++cs).length≤Tryz.f136.ntmps)
 (h:Ad env nx c (CQ 0 (fs++xs++cs)) H nx (Bq env.P Tryz.f136.results.toList Q)):Aa env true ⟨dst,.call { callee:=.value fo,args:=args,argTypes:=aT },ty,pos,af,gd⟩ L H nx Q:=by
 have h0:(match Tryz.f136.body with|some c=>H6 env.G Tryz.f136 c|none=>false)=true:=by kernel_rfl
 rw [hb] at h0
 exact Aa.inline rfl hf ha (AB (by decide)) Tryz.func136 hb h0 hn h
theorem XC (l:List dV) (d:dV) (hl:l.length<1000000):AX env 124 [.lst 133 (cells l) l.length,.agg (Enc.enc d)] (.p (.bool (decide (d∈l)))):=by
 refine AX.enter (AB (by decide)) Tryz.func124 rfl (by kernel_rfl) (by simp [Tryz.ntmps124]) ?_
 repeat' (first|apply Ad.assoc|apply Ad.AA|apply Ad.Ai|apply Af.nil|apply Af.one|(apply zD;rfl;rfl;rfl;exact le_dec rfl)|(apply Aa.assign;rfl)|(apply Aa.move;rfl)|(apply Aa.load;rfl;rfl)|(apply Aa.BQ;rfl;rfl)|(apply Aa.box;rfl;trivial))
 refine Ad.Ee (fun k:Nat=>[(0,lst 133 l),(3,.ref 1 0),(7,.p (.int .i64 (l.length:Int))),(8,.p (.int .i64 (k:Int)))]) (fun _=>[(1,.box 133 ((Enc.enc d).map .p)),(0,.box 133 ((Enc.enc d).map .p))]) 2 (fun k=>k≤l.length∧∀ i,i<k→d≠gi l i) (fun k=>l.length-k) 0 (by omega) ⟨by omega,fun i hi=>by omega⟩ ⟨by omega,?_,?_⟩ ?_
 ·repeat (first|exact Ap.nil|refine Ap.same (by exact PV.Ac rfl) rfl ?_|refine Ap.cons trivial rfl (.of_eq (Au (by simp<;>omega))) ?_)
 ·repeat (first|exact Ak.nil|(refine Ak.cons (Aj rfl) ?_ rfl ?_ ?_;(first|exact trivial|exact AZ.Ag _ _|(simp [HB.under,AZ.under,PV.under]));(first|exact Bv.refl _|exact Bv.vec (Bl.refl _) (by simp))))
 rintro k ⟨hk,hok⟩
 have he:=a2z d (gi l k)
 by_cases hd:d=gi l k
 ·rw [decide_eq_true hd] at he
  repeat' (first|apply Ad.AA|apply Ad.Bj|apply Ad.Ar|apply Ad.A8|apply Ad.Ai|apply AU.normal|apply AU.ret|(apply Bq.ret;rfl)|apply AO.ret|apply AO.exit|apply Aw.ret|apply Aw.exit|apply Ad.ret|apply Af.nil|apply Aq.nil|apply Af.one|(apply Aq.bar;decide +kernel)|apply Aq.quiet|(apply Aa.zO;rfl;rfl;exact bY;exact he)|(apply Aa.assign;rfl)|(apply Aa.move;rfl)|(apply Aa.int;rfl;rfl;rfl)|(apply Aa.Ba;rfl;rfl;rfl;omega;rfl)|(apply Aa.load;rfl;rfl)|(apply Ad.Ae;rfl)|(apply Ad.cond_true;rfl)|(intro _;try (exfalso;omega)))
  ·rename_i a1
   rw [decide_eq_true (Vt.2 ⟨k,by omega,hd.symm⟩)]
   refine Done.ret rfl (.refl _) (by exact PV.Ac rfl) Ak.nil (Nat.zero_le _) (Nat.le_refl _) ⟨?_,rfl,rfl⟩
   refine PV.Ir ?_
   simp
  ·rename_i a1
   rw [decide_eq_false (fun h=>by obtain ⟨i,h1,h2⟩:=Vt.1 h;exact hok i (by omega) h2.symm)]
   (refine Done.ret rfl (.refl _) (by exact PV.Ac rfl) Ak.nil (Nat.zero_le _) (Nat.le_refl _) ⟨?_,rfl,rfl⟩;try rfl)
 ·rw [decide_eq_false hd] at he
  repeat' (first|apply Ad.AA|apply Ad.Bj|apply Ad.region|apply Ad.Ar|apply Ad.A8|apply Ad.Ai|apply AU.normal|(apply Bq.ret;rfl)|apply AO.normal|apply AO.exit|apply Aw.exit|apply Ad.ret|apply Ad.skip|apply Af.nil|apply Aq.nil|apply Af.one|(apply Aq.bar;decide +kernel)|apply Aq.quiet|(apply Aa.zO;rfl;rfl;exact bY;exact he)|(apply Aa.assign;rfl)|(apply Aa.move;rfl)|(apply Aa.Bz;rfl;rfl;omega)|(apply Aa.int;rfl;rfl;rfl)|(apply Aa.Ba;rfl;rfl;rfl;omega;rfl)|(apply Aa.load;rfl;rfl)|(apply Ad.Ae;rfl)|(apply Ad.cond_false;rfl)|(intro _;try (exfalso;omega)))
  ·rename_i a1
   refine Aw.normal ⟨k+1,⟨by omega,fun i hi=>?_⟩,by omega,⟨by omega,?_,?_⟩⟩
   ·rcases Nat.lt_or_ge i k with h|h
    ·exact hok i h
    ·obtain rfl:i=k:=by omega
     exact hd
   ·repeat (first|exact Ap.nil|refine Ap.same (by exact PV.Ac rfl) rfl ?_|refine Ap.cons trivial rfl (.of_eq (Au (by simp<;>omega))) ?_)
   ·repeat (first|exact Ak.nil|(refine Ak.cons (Aj rfl) ?_ rfl ?_ ?_;(first|exact trivial|exact AZ.Ag _ _|(simp [HB.under,AZ.under,PV.under]));(first|exact Bv.refl _|exact Bv.vec (Bl.refl _) (by simp))))
  ·rename_i a1
   rw [decide_eq_false (fun h=>by obtain ⟨i,h1,h2⟩:=Vt.1 h;exact hok i (by omega) h2.symm)]
   (refine Done.ret rfl (.refl _) (by exact PV.Ac rfl) Ak.nil (Nat.zero_le _) (Nat.le_refl _) ⟨?_,rfl,rfl⟩;try rfl)
def pW (rk:List Fh) (lo hi:Int):List FV:=[.lst 131 (cells rk) rk.length,.int .i64 lo,.int .i64 hi]
theorem iY (rk:List Fh) (lo hi:Int) (l:List dV) (hl:l.length<1000000) (hr:rk.length<1000000):AX env 109 [.agg (pW rk lo hi),.lst 133 (cells l) l.length] (.p (.int .i64 (PI rk.length l))):=by
 unfold PI
 refine AX.enter (AB (by decide)) Tryz.func109 rfl (by kernel_rfl) (by simp [Tryz.ntmps109]) ?_
 repeat' (first|apply Ad.assoc|apply Ad.AA|apply Ad.Ar|apply Ad.BI|apply Ad.Ai|apply Af.nil|apply Af.one|(apply Aa.assign;rfl)|(apply Aa.move;rfl)|(apply Aa.int;rfl;rfl;rfl)|(apply Aa.BQ;rfl;rfl)|(apply Aa.box;rfl;trivial)|(apply Ad.Ae;rfl)|(intro _;try (exfalso;omega)))
 ·rw [if_pos (by omega)];(refine Done.ret rfl (.refl _) (by exact PV.Ac rfl) Ak.nil (Nat.zero_le _) (Nat.le_refl _) ⟨?_,rfl,rfl⟩;try rfl)
 rw [if_neg (by omega)]
 refine Ad.Ee (fun k:Nat=>[(1,lst 133 l),(2,.ref 0 0),(10,lst 133 l),(11,.p (.int .i64 (l.length:Int))),(12,.p (.int .i64 (k:Int)))]) (fun _=>[(0,.box 186 ((pW rk lo hi).map .p))]) 1 (fun k=>k≤l.length∧Nc rk.length l k=Nc rk.length l 0) (fun k=>l.length-k) 0 (by omega) ⟨by omega,rfl⟩ ⟨by omega,?_,?_⟩ ?_
 ·repeat (first|exact Ap.nil|refine Ap.same (by exact PV.Ac rfl) rfl ?_|refine Ap.cons trivial rfl (.of_eq (Au (by simp<;>omega))) ?_)
 ·repeat (first|exact Ak.nil|(refine Ak.cons (Aj rfl) ?_ rfl ?_ ?_;(first|exact trivial|exact AZ.Ag _ _|(simp [HB.under,AZ.under,PV.under]));(first|exact Bv.refl _|exact Bv.vec (Bl.refl _) (by simp))))
 rintro k ⟨hk,hE⟩
 have hc:=XC (l.take k) (gi l k) (by rw [List.length_take];omega)
 rw [List.length_take,Nat.min_eq_left (by omega)] at hc
 rw [← hE]
 by_cases hkl:k<l.length
 ·rw [Nc,if_pos hkl]
  generalize hg:decide (gi l k∈l.take k)=g at *
  cases g
  all_goals
   repeat' (first|apply Ad.AA|apply Ad.Bj|apply Ad.region|apply Ad.Ar|apply Ad.Ai|apply AU.normal|apply AU.ret|apply AO.normal|apply AO.ret|apply Aw.ret|apply Ad.ret|apply Ad.skip|apply Ad.Fv|apply Af.nil|apply Aq.nil|apply Af.one|(apply Aq.bar;decide +kernel)|apply Aq.quiet|(apply Af.take;rfl;rfl)|(apply Af.drop;rfl;rfl;rfl)|(apply Af.guard;rfl;rfl)|(apply Aa.fn;rfl;rfl;exact hc;intro _;rfl)|(apply Aa.sliceTo;rfl;rfl;rfl;rfl;rfl;rfl;omega)|(apply Aa.assign;rfl)|(apply Aa.move;rfl)|(apply Aa.Bz;rfl;rfl;omega)|(apply Aa.int;rfl;rfl;rfl)|(apply Aa.Ba;rfl;rfl;rfl;omega;rfl)|(apply Aa.load;rfl;rfl)|(apply Aa.Bo;rfl;rfl)|(apply Aa.AQ;rfl;rfl)|(apply Aa.BQ;rfl;rfl)|(apply Aa.AV;rfl;rfl;rfl)|(apply Aa.alloc;rfl)|(apply Aa.Bd;rfl;rfl;rfl;trivial;rfl;rfl;exact Aj rfl;exact le_dec rfl)|(apply Ad.Ae;rfl)|(apply Ad.cond_true;rfl)|(apply Ad.cond_false;rfl)|(apply Ad.AY;rfl)|(intro _;try (exfalso;omega)))
  all_goals try (exfalso;omega)
  all_goals first
   |(rw [if_pos (by omega)];(refine Done.ret rfl (.refl _) (by exact PV.Ac rfl) Ak.nil (Nat.zero_le _) (Nat.le_refl _) ⟨?_,rfl,rfl⟩;try rfl);done)
   |(rw [if_neg (by omega),if_pos (by omega)];(refine Done.ret rfl (.refl _) (by exact PV.Ac rfl) Ak.nil (Nat.zero_le _) (Nat.le_refl _) ⟨?_,rfl,rfl⟩;try rfl);done)
   |(rw [if_neg (by omega),if_neg (by omega),if_pos (of_decide_eq_true hg)];(refine Done.ret rfl (.refl _) (by exact PV.Ac rfl) Ak.nil (Nat.zero_le _) (Nat.le_refl _) ⟨?_,rfl,rfl⟩;try rfl);done)
   |(rw [if_neg (by omega),if_neg (by omega),if_neg (of_decide_eq_false hg)]
     refine Aw.normal ⟨k+1,⟨by omega,?_⟩,by omega,⟨by omega,?_,?_⟩⟩
     ·first|rfl|(refine Eq.trans ?_ hE;symm;(conv=>lhs;rw [Nc]);rw [if_pos hkl,if_neg (by omega),if_neg (by omega),if_neg (of_decide_eq_false hg)])
     ·repeat (first|exact Ap.nil|refine Ap.same (by exact PV.Ac rfl) rfl ?_|refine Ap.cons trivial rfl (.of_eq (Au (by simp<;>omega))) ?_)
     ·repeat (first|exact Ak.nil|(refine Ak.cons (Aj rfl) ?_ rfl ?_ ?_;(first|exact trivial|exact AZ.Ag _ _|(simp [HB.under,AZ.under,PV.under]));(first|exact Bv.refl _|exact Bv.vec (Bl.refl _) (by simp)))))
 ·rw [Nc,if_neg hkl]
  repeat' (first|apply Ad.AA|apply Ad.A8|apply AU.normal|apply AO.exit|apply Aw.exit|apply Ad.ret|apply Af.nil|apply Af.one|(apply Aa.assign;rfl)|(apply Aa.int;rfl;rfl;rfl)|(apply Ad.Ae;rfl)|(intro _;try (exfalso;omega)))
  all_goals first|(exfalso;omega)|(refine Done.ret rfl (.refl _) (by exact PV.Ac rfl) Ak.nil (Nat.zero_le _) (Nat.le_refl _) ⟨?_,rfl,rfl⟩;try rfl)
theorem jX (rk:List Fh) (lo hi:Int) (hr:rk.length<1000000) (hs:∀ i,i<rk.length→Qe (gi rk i)):AX env 108 [.agg (pW rk lo hi)] (.p (.int .i64 (dW rk lo hi))):=by
 have hcm:=VD lo hi
 unfold dW
 refine AX.enter (AB (by decide)) Tryz.func108 rfl (by kernel_rfl) (by simp [Tryz.ntmps108]) ?_
 repeat' (first|apply Ad.assoc|apply Ad.AA|apply Ad.Ar|apply Ad.BI|apply Ad.Ai|apply Af.nil|apply Af.one|(apply Aa.assign;rfl)|(apply Aa.move;rfl)|(apply Aa.int;rfl;rfl;rfl)|(apply Aa.load;rfl;rfl)|(apply Aa.BQ;rfl;rfl)|(apply Aa.AV;rfl;rfl;rfl)|(apply Aa.box;rfl;trivial)|(apply Ad.Ae;rfl)|(intro _;try (exfalso;omega)))
 ·rw [if_pos (by omega)];(refine Done.ret rfl (.refl _) (by exact PV.Ac rfl) Ak.nil (Nat.zero_le _) (Nat.le_refl _) ⟨?_,rfl,rfl⟩;try rfl)
 rw [if_neg (by omega)]
 refine Ad.Ee (fun k:Nat=>[(1,.ref 0 0),(11,lst 131 rk),(12,.p (.int .i64 (rk.length:Int))),(13,.p (.int .i64 (k:Int)))]) (fun _=>[(0,.box 186 ((pW rk lo hi).map .p))]) 1 (fun k=>k≤rk.length∧Xa rk k=Xa rk 0) (fun k=>rk.length-k) 0 (by omega) ⟨by omega,rfl⟩ ⟨by omega,?_,?_⟩ ?_
 ·repeat (first|exact Ap.nil|refine Ap.same (by exact PV.Ac rfl) rfl ?_|refine Ap.cons trivial rfl (.of_eq (Au (by simp<;>omega))) ?_)
 ·repeat (first|exact Ak.nil|(refine Ak.cons (Aj rfl) ?_ rfl ?_ ?_;(first|exact trivial|exact AZ.Ag _ _|(simp [HB.under,AZ.under,PV.under]));(first|exact Bv.refl _|exact Bv.vec (Bl.refl _) (by simp))))
 rintro k ⟨hk,hE⟩
 rw [← hE]
 by_cases hkl:k<rk.length
 ·have hsm:=(hs k hkl).len
  have hc:=Us (gi rk k) hsm.1 hsm.2.1 hsm.2.2
  rw [Xa,if_pos hkl]
  by_cases h0:DW (gi rk k)=0
  ·rw [h0] at hc ⊢
   rw [if_neg (by decide)]
   repeat' (first|apply Ad.AA|apply Ad.region|apply Ad.Ar|apply Ad.Ai|apply AU.normal|apply AO.normal|apply Ad.skip|apply Af.nil|apply Af.one|(apply Aa.fn;rfl;rfl;exact hc;intro _;rfl)|(apply Aa.assign;rfl)|(apply Aa.move;rfl)|(apply Aa.Bz;rfl;rfl;omega)|(apply Aa.int;rfl;rfl;rfl)|(apply Aa.Ba;rfl;rfl;rfl;omega;rfl)|(apply Aa.load;rfl;rfl)|(apply Aa.alloc;rfl)|(apply Aa.Bd;rfl;rfl;rfl;trivial;rfl;rfl;exact Aj rfl;exact le_dec rfl)|(apply Ad.Ae;rfl)|(apply Ad.cond_false;rfl)|(intro _;try (exfalso;omega)))
   all_goals try (exfalso;omega)
   refine Aw.normal ⟨k+1,⟨by omega,?_⟩,by omega,⟨by omega,?_,?_⟩⟩
   ·first|rfl|(refine Eq.trans ?_ hE;symm;(conv=>lhs;rw [Xa]);rw [if_pos hkl,if_neg (fun h=>h h0)])
   ·repeat (first|exact Ap.nil|refine Ap.same (by exact PV.Ac rfl) rfl ?_|refine Ap.cons trivial rfl (.of_eq (Au (by simp<;>omega))) ?_)
   ·repeat (first|exact Ak.nil|(refine Ak.cons (Aj rfl) ?_ rfl ?_ ?_;(first|exact trivial|exact AZ.Ag _ _|(simp [HB.under,AZ.under,PV.under]));(first|exact Bv.refl _|exact Bv.vec (Bl.refl _) (by simp))))
  ·rw [if_pos h0,if_pos h0]
   repeat' (first|apply Ad.AA|apply Ad.Ar|apply Ad.Ai|apply AU.ret|apply AO.ret|apply Aw.ret|apply Ad.ret|apply Af.nil|apply Af.one|(apply Aa.fn;rfl;rfl;exact hc;intro _;rfl)|(apply Aa.assign;rfl)|(apply Aa.move;rfl)|(apply Aa.int;rfl;rfl;rfl)|(apply Aa.Ba;rfl;rfl;rfl;omega;rfl)|(apply Aa.load;rfl;rfl)|(apply Aa.alloc;rfl)|(apply Aa.Bd;rfl;rfl;rfl;trivial;rfl;rfl;exact Aj rfl;exact le_dec rfl)|(apply Ad.Ae;rfl)|(apply Ad.AY;rfl)|(intro _;try (exfalso;omega)))
   all_goals first|(exfalso;omega)|(refine Done.ret rfl (.refl _) (by exact PV.Ac rfl) Ak.nil (Nat.zero_le _) (Nat.le_refl _) ⟨?_,rfl,rfl⟩;try rfl)
 ·rw [Xa,if_neg hkl,if_neg (by decide)]
  repeat' (first|apply Ad.AA|apply Ad.A8|apply AU.normal|apply AO.exit|apply Aw.exit|apply Ad.ret|apply Af.nil|apply Af.one|(apply Aa.fn;rfl;rfl;exact hcm;intro _;rfl)|(apply Aa.assign;rfl)|(apply Aa.int;rfl;rfl;rfl)|(apply Aa.load;rfl;rfl)|(apply Aa.AV;rfl;rfl;rfl)|(apply Ad.Ae;rfl)|(intro _;try (exfalso;omega)))
  all_goals first|(exfalso;omega)|(refine Done.ret rfl (.refl _) (by exact PV.Ac rfl) Ak.nil (Nat.zero_le _) (Nat.le_refl _) ⟨?_,rfl,rfl⟩;try rfl)
theorem pI (rk:List Fh) (lo hi:Int) (s:Stp) (hr:rk.length<1000000) (hs:∀ i,i<rk.length→Qe (gi rk i)) (hS:Yu s):AX env 90 [.agg (pW rk lo hi),.agg (Enc.enc s)] (.p (.int .i64 (Je rk lo hi s))):=by
 obtain ⟨q1,q2,q3⟩:=hS
 have hp:=jX rk lo hi hr hs
 have hn:=Hw s.name (by omega)
 have hf:=KN s.Dp
 unfold Je uS
 refine AX.enter (AB (by decide)) Tryz.func90 rfl (by kernel_rfl) (by simp [Tryz.ntmps90]) ?_
 by_cases h0:dW rk lo hi=0
 case neg =>
  rw [if_pos h0]
  repeat' (first|apply Ad.assoc|apply Ad.AA|apply Ad.BI|apply Af.nil|apply Af.one|(apply Aa.fn;rfl;rfl;exact hp;intro _;rfl)|(apply Aa.assign;rfl)|(apply Aa.move;rfl)|(apply Aa.int;rfl;rfl;rfl)|(apply Aa.load;rfl;rfl)|(apply Aa.box;rfl;trivial)|(apply Ad.Ae;rfl)|(intro _;try (exfalso;omega)))
  all_goals first|(exfalso;omega)|(refine Done.ret rfl (.refl _) (by exact PV.Ac rfl) Ak.nil (Nat.zero_le _) (Nat.le_refl _) ⟨?_,rfl,rfl⟩;try rfl)
 rw [h0] at hp ⊢
 rw [if_neg (by decide)]
 by_cases h1:Di s.name
 case neg =>
  rw [if_pos h1]
  rw [decide_eq_false h1] at hn
  repeat' (first|apply Ad.assoc|apply Ad.AA|apply Ad.Ar|apply Ad.BI|apply Af.nil|apply Af.one|(apply Aa.fn;rfl;rfl;exact hp;intro _;rfl)|(apply Aa.fn;rfl;rfl;exact hn;intro _;rfl)|(apply Aa.assign;rfl)|(apply Aa.move;rfl)|(apply Aa.int;rfl;rfl;rfl)|(apply Aa.load;rfl;rfl)|(apply Aa.AV;rfl;rfl;rfl)|(apply Aa.box;rfl;trivial)|(apply Aa.not;rfl)|(apply Ad.Bc;rfl)|(apply Ad.Az;rfl))
  all_goals first|contradiction|(exfalso;omega)|(refine Done.ret rfl (.refl _) (by exact PV.Ac rfl) Ak.nil (Nat.zero_le _) (Nat.le_refl _) ⟨?_,rfl,rfl⟩;try rfl)
 rw [if_neg (fun h=>h h1)]
 rw [decide_eq_true h1] at hn
 by_cases h2:OL s.Dp=0
 case neg =>
  rw [if_pos h2]
  repeat' (first|apply Ad.assoc|apply Ad.AA|apply Ad.Ar|apply Ad.BI|apply Af.nil|apply Af.one|(apply Aa.fn;rfl;rfl;exact hp;intro _;rfl)|(apply Aa.fn;rfl;rfl;exact hn;intro _;rfl)|(apply Aa.fn;rfl;rfl;exact hf;intro _;rfl)|(apply Aa.assign;rfl)|(apply Aa.move;rfl)|(apply Aa.int;rfl;rfl;rfl)|(apply Aa.load;rfl;rfl)|(apply Aa.AV;rfl;rfl;rfl)|(apply Aa.box;rfl;trivial)|(apply Aa.not;rfl)|(apply Ad.Az;rfl)|(apply Ad.Ae;rfl)|(intro _;try (exfalso;omega)))
  all_goals first|contradiction|(exfalso;omega)|(refine Done.ret rfl (.refl _) (by exact PV.Ac rfl) Ak.nil (Nat.zero_le _) (Nat.le_refl _) ⟨?_,rfl,rfl⟩;try rfl)
 rw [if_neg (fun h=>h h2)]
 rw [h2] at hf
 repeat' (first|apply Ad.assoc|apply Ad.AA|apply Ad.Ar|apply Ad.Ai|apply AU.normal|apply AU.ret|apply AO.normal|apply AO.ret|apply Ad.ret|apply Ad.skip|apply Af.nil|apply Af.one|(apply Aa.fn;rfl;rfl;exact hp;intro _;rfl)|(apply Aa.fn;rfl;rfl;exact hn;intro _;rfl)|(apply Aa.fn;rfl;rfl;exact hf;intro _;rfl)|(apply Aa.assign;rfl)|(apply Aa.move;rfl)|(apply Aa.int;rfl;rfl;rfl)|(apply Aa.load;rfl;rfl)|(apply Aa.BQ;rfl;rfl)|(apply Aa.AV;rfl;rfl;rfl)|(apply Aa.box;rfl;trivial)|(apply Aa.not;rfl)|(apply Ad.Az;rfl)|(apply Ad.AY;rfl)|(intro _;try (exfalso;omega)))
 all_goals try contradiction
 all_goals try (exfalso;omega)
 ·rw [if_pos (by omega)];(refine Done.ret rfl (.refl _) (by exact PV.Ac rfl) Ak.nil (Nat.zero_le _) (Nat.le_refl _) ⟨?_,rfl,rfl⟩;try rfl)
 ·rw [if_neg (by omega),if_pos (by omega)];(refine Done.ret rfl (.refl _) (by exact PV.Ac rfl) Ak.nil (Nat.zero_le _) (Nat.le_refl _) ⟨?_,rfl,rfl⟩;try rfl)
 rw [if_neg (by omega),if_neg (by omega)]
 refine Ad.Ee (fun k:Nat=>[(2,.ref 0 0),(3,.ref 1 0),(36,lst 136 s.Ej),(37,.p (.int .i64 (s.Ej.length:Int))),(38,.p (.int .i64 (k:Int)))]) (fun _=>[(1,.box 122 ((Enc.enc s).map .p)),(0,.box 186 ((pW rk lo hi).map .p))]) 2 (fun k=>k≤s.Ej.length∧JH rk.length lo hi s.Ej k=JH rk.length lo hi s.Ej 0) (fun k=>s.Ej.length-k) 0 (by omega) ⟨by omega,rfl⟩ ⟨by omega,?_,?_⟩ ?_
 ·repeat (first|exact Ap.nil|refine Ap.same (by exact PV.Ac rfl) rfl ?_|refine Ap.cons trivial rfl (.of_eq (Au (by simp<;>omega))) ?_)
 ·repeat (first|exact Ak.nil|(refine Ak.cons (Aj rfl) ?_ rfl ?_ ?_;(first|exact trivial|exact AZ.Ag _ _|(simp [HB.under,AZ.under,PV.under]));(first|exact Bv.refl _|exact Bv.vec (Bl.refl _) (by simp))))
 rintro k ⟨hk,hE⟩
 rw [← hE]
 by_cases hkl:k<s.Ej.length
 ·have hsm:=(q3 k hkl).draws
  have hd:=iY rk lo hi (gi s.Ej k).draws hsm hr
  rw [JH,if_pos hkl]
  have hk1:((k:Int)-1).toNat=k-1:=by omega
  have hkc:0<k→((k-1:Nat):Int)=(k:Int)-1:=fun h=>by omega
  generalize hD:PI rk.length (gi s.Ej k).draws=D at *
  repeat' (first|apply Ad.AA|apply Ad.Bj|apply Ad.region|apply Ad.Ar|apply Ad.Ai|apply AU.normal|apply AU.ret|apply AO.normal|apply AO.ret|apply Aw.ret|apply Ad.ret|apply Ad.skip|apply Af.nil|apply Aq.nil|apply Af.one|(apply Aq.bar;decide +kernel)|apply Aq.quiet|(apply Af.take;rfl;rfl)|(apply Aq.XL;rfl;rfl)|(apply Af.drop;rfl;rfl;rfl)|(apply Aq.drop;rfl;rfl;rfl)|(apply Af.guard;rfl;rfl)|(apply Aq.guard;rfl;rfl)|(apply Aq.KF;rfl;rfl)|(apply Aa.fn;rfl;rfl;exact hd;intro _;rfl)|(apply Aa.assign;rfl)|(apply Aa.move;rfl)|(apply Aa.Bz;rfl;rfl;omega)|(apply Aa.IC;rfl;rfl;omega)|(apply Aa.int;rfl;rfl;rfl)|(apply Aa.Ba;rfl;rfl;rfl;omega;rfl)|(apply Aa.uH;rfl;rfl;rfl;omega;omega;rfl)|(apply Aa.load;rfl;rfl)|(apply Aa.Bo;rfl;rfl)|(apply Aa.AQ;rfl;rfl)|(apply Aa.AV;rfl;rfl;rfl)|(apply Aa.Fa;rfl;rfl)|(apply Aa.alloc;rfl)|(apply Aa.Bd;rfl;rfl;rfl;trivial;rfl;rfl;exact Aj rfl;exact le_dec rfl)|(apply Aa.qA;rfl;rfl)|(apply Aa.a8m;rfl;rfl)|(apply Ad.Ae;rfl)|(apply Ad.cond_true;rfl)|(apply Ad.cond_false;rfl)|(apply Ad.AY;rfl)|(intro _;try (exfalso;omega)))
  all_goals try (exfalso;omega)
  all_goals first
   |(rw [if_pos (by omega)];(refine Done.ret rfl (.refl _) (by exact PV.Ac rfl) Ak.nil (Nat.zero_le _) (Nat.le_refl _) ⟨?_,rfl,rfl⟩;try rfl);done)
   |(rw [if_neg (by omega),if_pos (by omega)];(refine Done.ret rfl (.refl _) (by exact PV.Ac rfl) Ak.nil (Nat.zero_le _) (Nat.le_refl _) ⟨?_,rfl,rfl⟩;try rfl);done)
   |(rw [if_neg (by omega),if_neg (by omega),if_pos (by omega)];(refine Done.ret rfl (.refl _) (by exact PV.Ac rfl) Ak.nil (Nat.zero_le _) (Nat.le_refl _) ⟨?_,rfl,rfl⟩;try rfl);done)
   |(rw [if_neg (by omega),if_neg (by omega),if_neg (by omega)]
     refine Aw.normal ⟨k+1,⟨by omega,?_⟩,by omega,⟨by omega,?_,?_⟩⟩
     ·first|rfl|(refine Eq.trans ?_ hE;symm;(conv=>lhs;rw [JH]);rw [if_pos hkl,if_neg (by omega),if_neg (by omega),if_neg (by omega)])
     ·repeat (first|exact Ap.nil|refine Ap.same (by exact PV.Ac rfl) rfl ?_|refine Ap.cons trivial rfl (.of_eq (Au (by simp<;>omega))) ?_)
     ·repeat (first|exact Ak.nil|(refine Ak.cons (Aj rfl) ?_ rfl ?_ ?_;(first|exact trivial|exact AZ.Ag _ _|(simp [HB.under,AZ.under,PV.under]));(first|exact Bv.refl _|exact Bv.vec (Bl.refl _) (by simp)))))
 ·rw [JH,if_neg hkl]
  repeat' (first|apply Ad.AA|apply Ad.A8|apply AU.normal|apply AO.exit|apply Aw.exit|apply Ad.ret|apply Af.nil|apply Af.one|(apply Aa.assign;rfl)|(apply Aa.int;rfl;rfl;rfl)|(apply Ad.Ae;rfl)|(intro _;try (exfalso;omega)))
  all_goals first|(exfalso;omega)|(refine Done.ret rfl (.refl _) (by exact PV.Ac rfl) Ak.nil (Nat.zero_le _) (Nat.le_refl _) ⟨?_,rfl,rfl⟩;try rfl)
end Go.Proofs.YtdabojnmoejilaaGreatDoor
namespace Go.Proofs.YtdabojnmoejilaaGreatDoor
open Go Go.Am Go.Vm
attribute [local irreducible] Aa Af Aq Ad BF AX Ci AU AO Aw Vm.Done CS Bq
attribute [local irreducible] DW DN
theorem y7 {L:Vm.Frame} {H:Vm.Heap} {nx:Nat} {Q:PV→Vm.Heap→Nat→Prop} {dst:Option Tmp} {ty:TypeId} {pos:String} {af:Array Edge} {gd:Option (Nat×Bool)} {fo:Operand} {args:Array Operand} {aT:Array TypeId} {fs cs xs:List PV} {c:Code}
 (hf:BG env.Γ L fo=some (.clo 91 fs cs)) (ha:evs env.Γ L args.toList=some xs) (hb:Tryz.f91.body=some c) (hn:(fs++xs++cs).length≤Tryz.f91.ntmps)
 (h:Ad env nx c (CQ 0 (fs++xs++cs)) H nx (Bq env.P Tryz.f91.results.toList Q)):Aa env true ⟨dst,.call { callee:=.value fo,args:=args,argTypes:=aT },ty,pos,af,gd⟩ L H nx Q:=by
 have h0:(match Tryz.f91.body with|some c=>H6 env.G Tryz.f91 c|none=>false)=true:=by kernel_rfl
 rw [hb] at h0
 exact Aa.inline rfl hf ha (AB (by decide)) Tryz.func91 hb h0 hn h
theorem zx {L:Vm.Frame} {H:Vm.Heap} {nx:Nat} {Q:PV→Vm.Heap→Nat→Prop} {dst:Option Tmp} {ty:TypeId} {pos:String} {af:Array Edge} {gd:Option (Nat×Bool)} {fo:Operand} {args:Array Operand} {aT:Array TypeId} {fs cs xs:List PV} {c:Code}
 (hf:BG env.Γ L fo=some (.clo 94 fs cs)) (ha:evs env.Γ L args.toList=some xs) (hb:Tryz.f94.body=some c) (hn:(fs++xs++cs).length≤Tryz.f94.ntmps)
 (h:Ad env nx c (CQ 0 (fs++xs++cs)) H nx (Bq env.P Tryz.f94.results.toList Q)):Aa env true ⟨dst,.call { callee:=.value fo,args:=args,argTypes:=aT },ty,pos,af,gd⟩ L H nx Q:=by
 have h0:(match Tryz.f94.body with|some c=>H6 env.G Tryz.f94 c|none=>false)=true:=by kernel_rfl
 rw [hb] at h0
 exact Aa.inline rfl hf ha (AB (by decide)) Tryz.func94 hb h0 hn h
theorem lJ {L:Vm.Frame} {H:Vm.Heap} {nx:Nat} {Q:PV→Vm.Heap→Nat→Prop} {dst:Option Tmp} {ty:TypeId} {pos:String} {af:Array Edge} {gd:Option (Nat×Bool)} {fo:Operand} {args:Array Operand} {aT:Array TypeId} {fs cs xs:List PV} {c:Code}
 (hf:BG env.Γ L fo=some (.clo 92 fs cs)) (ha:evs env.Γ L args.toList=some xs) (hb:Tryz.f92.body=some c) (hn:(fs++xs++cs).length≤Tryz.f92.ntmps)
 (h:Ad env nx c (CQ 0 (fs++xs++cs)) H nx (Bq env.P Tryz.f92.results.toList Q)):Aa env true ⟨dst,.call { callee:=.value fo,args:=args,argTypes:=aT },ty,pos,af,gd⟩ L H nx Q:=by
 have h0:(match Tryz.f92.body with|some c=>H6 env.G Tryz.f92 c|none=>false)=true:=by kernel_rfl
 rw [hb] at h0
 exact Aa.inline rfl hf ha (AB (by decide)) Tryz.func92 hb h0 hn h
theorem YV (ks:List ZW) (l:List Rt) (hk0:ks.length<1000000) (hl:l.length<1000000) (hn0:∀ i,i<l.length→(gi l i).name.length<1000000):AX env 61 [.lst 94 (cells ks) ks.length,.lst 147 (cells l) l.length] (.p (.int .i64 (QO ks l))):=by
 unfold QO
 refine AX.enter (AB (by decide)) Tryz.func61 rfl (by kernel_rfl) (by simp [Tryz.ntmps61]) ?_
 by_cases h0:ks.length>8∨l.length>40
 ·rw [if_pos h0]
  repeat' (first|apply Ad.assoc|apply Ad.AA|apply Ad.BI|apply Af.nil|apply Af.one|(apply Af.take;rfl;rfl)|(apply Af.drop;rfl;rfl;rfl)|(apply Af.guard;rfl;rfl)|(apply Aa.assign;rfl)|(apply Aa.move;rfl)|(apply Aa.int;rfl;rfl;rfl)|(apply Aa.Bo;rfl;rfl)|(apply Aa.AQ;rfl;rfl)|(apply Aa.BQ;rfl;rfl)|(apply Ad.Bc;rfl)|(apply Ad.Ae;rfl)|(intro _;try (exfalso;omega)))
  all_goals first|(exfalso;omega)|(refine Done.ret rfl (.refl _) (by exact PV.Ac rfl) Ak.nil (Nat.zero_le _) (Nat.le_refl _) ⟨?_,rfl,rfl⟩;try rfl)
 rw [if_neg h0]
 repeat' (first|apply Ad.assoc|apply Ad.AA|apply Ad.Ar|apply Ad.Ai|apply Af.nil|apply Af.one|(apply Af.take;rfl;rfl)|(apply Af.guard;rfl;rfl)|(apply Aa.assign;rfl)|(apply Aa.move;rfl)|(apply Aa.int;rfl;rfl;rfl)|(apply Aa.AQ;rfl;rfl)|(apply Aa.BQ;rfl;rfl)|(apply Ad.Ae;rfl)|(intro _;try (exfalso;omega)))
 all_goals try (exfalso;omega)
 refine Ad.Ee (fun k:Nat=>[(0,lst 94 ks),(1,lst 147 l),(17,lst 94 ks),(18,.p (.int .i64 (ks.length:Int))),(19,.p (.int .i64 (k:Int)))]) (fun _=>[]) 0 (fun k=>k≤ks.length∧Qx ks k=Qx ks 0) (fun k=>ks.length-k) 0 (by omega) ⟨by omega,rfl⟩ ⟨by omega,?_,Ak.nil⟩ ?_
 ·repeat (first|exact Ap.nil|refine Ap.same (by exact PV.Ac rfl) rfl ?_|refine Ap.cons trivial rfl (.of_eq (Au (by simp<;>omega))) ?_)
 rintro k ⟨hk,hE⟩
 by_cases hkl:k<ks.length
 ·have hc:=VD (gi ks k).lo (gi ks k).hi
  by_cases h1:UH (gi ks k).lo (gi ks k).hi=0
  ·rw [h1] at hc
   repeat' (first|apply Ad.AA|apply Ad.region|apply Ad.Ar|apply Ad.Ai|apply AU.normal|apply AO.normal|apply Ad.skip|apply Af.nil|apply Af.one|(apply Aa.fn;rfl;rfl;exact hc;intro _;rfl)|(apply Aa.move;rfl)|(apply Aa.Bz;rfl;rfl;omega)|(apply Aa.int;rfl;rfl;rfl)|(apply Aa.Ba;rfl;rfl;rfl;omega;rfl)|(apply Aa.load;rfl;rfl)|(apply Aa.alloc;rfl)|(apply Aa.Bd;rfl;rfl;rfl;trivial;rfl;rfl;exact Aj rfl;exact le_dec rfl)|(apply Ad.Ae;rfl)|(apply Ad.cond_false;rfl)|(intro _;try (exfalso;omega)))
   all_goals try (exfalso;omega)
   all_goals try contradiction
   refine Aw.normal ⟨k+1,⟨by omega,?_⟩,by omega,⟨by omega,?_,Ak.nil⟩⟩
   ·first|rfl|(refine Eq.trans ?_ hE;symm;(conv=>lhs;rw [Qx]);rw [if_pos hkl,if_neg (fun h=>h h1)])
   ·repeat (first|exact Ap.nil|refine Ap.same (by exact PV.Ac rfl) rfl ?_|refine Ap.cons trivial rfl (.of_eq (Au (by simp<;>omega))) ?_)
  ·have e:Qx ks 0=23:=by rw [← hE,Qx,if_pos hkl,if_pos h1]
   rw [if_pos (by rw [e];decide),e]
   repeat' (first|apply Ad.AA|apply Ad.Ar|apply Ad.Ai|apply AU.ret|apply AO.ret|apply Aw.ret|apply Ad.ret|apply Af.nil|apply Af.one|(apply Aa.fn;rfl;rfl;exact hc;intro _;rfl)|(apply Aa.assign;rfl)|(apply Aa.int;rfl;rfl;rfl)|(apply Aa.Ba;rfl;rfl;rfl;omega;rfl)|(apply Aa.load;rfl;rfl)|(apply Aa.alloc;rfl)|(apply Aa.Bd;rfl;rfl;rfl;trivial;rfl;rfl;exact Aj rfl;exact le_dec rfl)|(apply Ad.Ae;rfl)|(apply Ad.AY;rfl)|(intro _;try (exfalso;omega)))
   all_goals first|(exfalso;omega)|contradiction|(refine Done.ret rfl (.refl _) (by exact PV.Ac rfl) Ak.nil (Nat.zero_le _) (Nat.le_refl _) ⟨?_,rfl,rfl⟩;try rfl)
 obtain rfl:k=ks.length:=by omega
 have e:Qx ks 0=0:=by rw [← hE,Qx,if_neg (by omega)]
 rw [if_neg (fun h=>h e)]
 repeat' (first|apply Ad.assoc|apply Ad.AA|apply Ad.A8|apply Ad.Ai|apply AU.normal|apply AO.exit|apply Aw.exit|apply Af.nil|apply Af.one|(apply Aa.move;rfl)|(apply Aa.int;rfl;rfl;rfl)|(apply Aa.BQ;rfl;rfl)|(apply Ad.Ae;rfl)|(intro _;try (exfalso;omega)))
 all_goals try (exfalso;omega)
 refine Ad.Ee (fun k:Nat=>[(0,lst 94 ks),(1,lst 147 l),(27,lst 147 l),(28,.p (.int .i64 (l.length:Int))),(29,.p (.int .i64 (k:Int)))]) (fun _=>[]) 0 (fun k=>k≤l.length∧Uu ks.length l k=Uu ks.length l 0) (fun k=>l.length-k) 0 (by omega) ⟨by omega,rfl⟩ ⟨by omega,?_,Ak.nil⟩ ?_
 ·repeat (first|exact Ap.nil|refine Ap.same (by exact PV.Ac rfl) rfl ?_|refine Ap.cons trivial rfl (.of_eq (Au (by simp<;>omega))) ?_)
 rintro k ⟨hk,hE⟩
 rw [← hE]
 by_cases hkl:k<l.length
 case neg =>
  rw [Uu,if_neg hkl]
  repeat' (first|apply Ad.AA|apply Ad.A8|apply AU.normal|apply AO.exit|apply Aw.exit|apply Ad.ret|apply Af.nil|apply Af.one|(apply Aa.assign;rfl)|(apply Aa.int;rfl;rfl;rfl)|(apply Ad.Ae;rfl)|(intro _;try (exfalso;omega)))
  all_goals first|(exfalso;omega)|(refine Done.ret rfl (.refl _) (by exact PV.Ac rfl) Ak.nil (Nat.zero_le _) (Nat.le_refl _) ⟨?_,rfl,rfl⟩;try rfl)
 rw [Uu,if_pos hkl]
 have hN:=Hw (gi l k).name (by have:=hn0 k hkl;omega)
 by_cases h1:Di (gi l k).name
 case neg =>
  rw [if_pos h1]
  rw [decide_eq_false h1] at hN
  repeat' (first|apply Ad.AA|apply Ad.Ar|apply Ad.Ai|apply AU.ret|apply AO.ret|apply Aw.ret|apply Ad.ret|apply Ad.Fv|apply Af.nil|apply Af.one|(apply Aa.fn;rfl;rfl;exact hN;intro _;rfl)|(apply Aa.assign;rfl)|(apply Aa.move;rfl)|(apply Aa.int;rfl;rfl;rfl)|(apply Aa.Ba;rfl;rfl;rfl;omega;rfl)|(apply Aa.load;rfl;rfl)|(apply Aa.AV;rfl;rfl;rfl)|(apply Aa.alloc;rfl)|(apply Aa.Bd;rfl;rfl;rfl;trivial;rfl;rfl;exact Aj rfl;exact le_dec rfl)|(apply Aa.not;rfl)|(apply Ad.Ae;rfl)|(apply Ad.cond_true;rfl)|(intro _;try (exfalso;omega)))
  all_goals first|(exfalso;omega)|contradiction|(refine Done.ret rfl (.refl _) (by exact PV.Ac rfl) Ak.nil (Nat.zero_le _) (Nat.le_refl _) ⟨?_,rfl,rfl⟩;try rfl)
 rw [if_neg (fun h=>h h1)]
 rw [decide_eq_true h1] at hN
 have hT:(gi l k).name∈(l.take k).map Rt.name↔∃ j,j<k∧(gi l j).name=(gi l k).name:=by
  rw [List.mem_map]
  constructor
  ·rintro ⟨a,ha,e⟩
   obtain ⟨j,h1,h2⟩:=Vt.1 ha
   rw [List.length_take] at h1
   rw [Zg (by omega)] at h2
   exact ⟨j,by omega,by rw [h2,e]⟩
  ·rintro ⟨j,hj,e⟩
   exact ⟨gi l j,Vt.2 ⟨j,by rw [List.length_take];omega,Zg hj⟩,e⟩
 repeat' (first|apply Ad.assoc|apply Ad.AA|apply Ad.Ar|apply Ad.Ai|apply Ad.Fv|apply Af.nil|apply Af.one|(apply Aa.fn;rfl;rfl;exact hN;intro _;rfl)|(apply y7;rfl;rfl;rfl;exact le_dec rfl)|(apply zx;rfl;rfl;rfl;exact le_dec rfl)|(apply Aa.makeFunc;rfl;rfl)|(apply Aa.sliceTo;rfl;rfl;rfl;rfl;rfl;rfl;omega)|(apply Aa.assign;rfl)|(apply Aa.move;rfl)|(apply Aa.int;rfl;rfl;rfl)|(apply Aa.Ba;rfl;rfl;rfl;omega;rfl)|(apply Aa.load;rfl;rfl)|(apply Aa.BQ;rfl;rfl)|(apply Aa.AV;rfl;rfl;rfl)|(apply Aa.alloc;rfl)|(apply Aa.Bd;rfl;rfl;rfl;trivial;rfl;rfl;exact Aj rfl;exact le_dec rfl)|(apply Aa.not;rfl)|(apply Ad.Ae;rfl)|(apply Ad.cond_false;rfl)|(intro _;try (exfalso;omega)))
 all_goals try (exfalso;omega)
 all_goals try contradiction
 refine Ad.Ee (fun j:Nat=>[(0,.p (.lst 147 (cells (l.take k)) k)),(1,.clo 92 [] [.ref 0 0]),(7,.p (.int .i64 (k:Int))),(8,.p (.int .i64 (j:Int)))]) (fun _=>[(0,.box 147 ((Enc.enc (gi l k)).map .p))]) 1 (fun j=>j≤k∧∀ i,i<j→(gi l i).name≠(gi l k).name) (fun j=>k-j) 0 (by omega) ⟨by omega,fun i hi=>by omega⟩ ⟨by omega,?_,?_⟩ ?_
 ·repeat (first|exact Ap.nil|refine Ap.same (by exact PV.Ac rfl) rfl ?_|refine Ap.cons trivial rfl (.of_eq (Au (by simp<;>omega))) ?_)
 ·repeat (first|exact Ak.nil|(refine Ak.cons (Aj rfl) ?_ rfl ?_ ?_;(first|exact trivial|exact AZ.Ag _ _|(simp [HB.under,AZ.under,PV.under]));(first|exact Bv.refl _|exact Bv.vec (Bl.refl _) (by simp))))
 rintro j ⟨hj,hok⟩
 by_cases hjk:j<k
 ·have hgt:gi (l.take k) j=gi l j:=Zg hjk
  have hlt:(l.take k).length=k:=by rw [List.length_take];omega
  generalize hg:decide ((gi l j).name=(gi l k).name)=g at *
  have hg2:decide ((gi (l.take k) j).name=(gi l k).name)=g:=by rw [hgt];exact hg
  cases g
  ·repeat' (first|apply Ad.AA|apply Ad.region|apply Ad.Ar|apply Ad.Ai|apply AU.normal|(apply Bq.ret;rfl)|apply AO.normal|apply Ad.ret|apply Ad.skip|apply Af.nil|apply Af.one|(apply lJ;rfl;rfl;rfl;exact le_dec rfl)|(apply Aa.a4j;rfl;rfl;exact hg2)|(apply Aa.Ba (l:=l.take k) (i:=j);rfl;rfl;rfl;omega;exact hlt)|(apply Aa.assign;rfl)|(apply Aa.move;rfl)|(apply Aa.Bz;rfl;rfl;omega)|(apply Aa.int;rfl;rfl;rfl)|(apply Aa.load;rfl;rfl)|(apply Aa.AV;rfl;rfl;rfl)|(apply Aa.box;rfl;trivial)|(apply Ad.Ae;rfl)|(apply Ad.cond_false;rfl)|(intro _;try (exfalso;omega)))
   all_goals try (exfalso;omega)
   refine Aw.normal ⟨j+1,⟨by omega,fun i hi=>?_⟩,by omega,⟨by omega,?_,?_⟩⟩
   ·rcases Nat.lt_or_ge i j with h|h
    ·exact hok i h
    ·obtain rfl:i=j:=by omega
     exact of_decide_eq_false hg
   ·repeat (first|exact Ap.nil|refine Ap.same (by exact PV.Ac rfl) rfl ?_|refine Ap.cons trivial rfl (.of_eq (Au (by simp<;>omega))) ?_)
   ·repeat (first|exact Ak.nil|(refine Ak.cons (Aj rfl) ?_ rfl ?_ ?_;(first|exact trivial|exact AZ.Ag _ _|(simp [HB.under,AZ.under,PV.under]));(first|exact Bv.refl _|exact Bv.vec (Bl.refl _) (by simp))))
  ·rw [if_pos (hT.2 ⟨j,hjk,of_decide_eq_true hg⟩)]
   repeat' (first|apply Ad.AA|apply Ad.Ar|apply Ad.Ai|apply AU.ret|(apply Bq.ret;rfl)|apply AO.ret|apply Aw.ret|apply Ad.ret|apply Af.nil|apply Af.one|(apply lJ;rfl;rfl;rfl;exact le_dec rfl)|(apply Aa.a4j;rfl;rfl;exact hg2)|(apply Aa.Ba (l:=l.take k) (i:=j);rfl;rfl;rfl;omega;exact hlt)|(apply Aa.assign;rfl)|(apply Aa.move;rfl)|(apply Aa.int;rfl;rfl;rfl)|(apply Aa.load;rfl;rfl)|(apply Aa.AV;rfl;rfl;rfl)|(apply Aa.box;rfl;trivial)|(apply Ad.Ae;rfl)|(apply Ad.cond_true;rfl)|(intro _;try (exfalso;omega)))
   all_goals first|(exfalso;omega)|contradiction|(refine Done.ret rfl (.refl _) (by exact PV.Ac rfl) Ak.nil (Nat.zero_le _) (Nat.le_refl _) ⟨?_,rfl,rfl⟩;try rfl)
 obtain rfl:j=k:=by omega
 rw [if_neg (fun h=>by obtain ⟨i,h1,h2⟩:=hT.1 h;exact hok i h1 h2)]
 repeat' (first|apply Ad.AA|apply Ad.region|apply Ad.A8|apply AU.normal|apply AU.ret|(apply Bq.ret;rfl)|apply AO.normal|apply AO.ret|apply AO.exit|apply Aw.ret|apply Aw.exit|apply Ad.ret|apply Ad.skip|apply Af.nil|apply Af.one|(apply Af.take;rfl;rfl)|(apply Af.drop;rfl;rfl;rfl)|(apply Af.guard;rfl;rfl)|(apply Aa.assign;rfl)|(apply Aa.move;rfl)|(apply Aa.Bz;rfl;rfl;omega)|(apply Aa.int;rfl;rfl;rfl)|(apply Aa.load;rfl;rfl)|(apply Aa.Bo;rfl;rfl)|(apply Aa.AQ;rfl;rfl)|(apply Aa.BQ;rfl;rfl)|(apply Aa.AV;rfl;rfl;rfl)|(apply Ad.Ae;rfl)|(apply Ad.cond_true;rfl)|(apply Ad.cond_false;rfl)|(apply Ad.AY;rfl)|(intro _;try (exfalso;omega)))
 all_goals try (exfalso;omega)
 all_goals try contradiction
 all_goals first
  |(rw [if_pos (by omega)];(refine Done.ret rfl (.refl _) (by exact PV.Ac rfl) Ak.nil (Nat.zero_le _) (Nat.le_refl _) ⟨?_,rfl,rfl⟩;try rfl);done)
  |(rw [if_neg (by omega),if_pos (by omega)];(refine Done.ret rfl (.refl _) (by exact PV.Ac rfl) Ak.nil (Nat.zero_le _) (Nat.le_refl _) ⟨?_,rfl,rfl⟩;try rfl);done)
  |(rw [if_neg (by omega),if_neg (by omega),if_pos (by omega)];(refine Done.ret rfl (.refl _) (by exact PV.Ac rfl) Ak.nil (Nat.zero_le _) (Nat.le_refl _) ⟨?_,rfl,rfl⟩;try rfl);done)
  |(rw [if_neg (by omega),if_neg (by omega),if_neg (by omega)]
    refine Aw.normal ⟨j+1,⟨by omega,?_⟩,by omega,⟨by omega,?_,Ak.nil⟩⟩
    ·first|rfl|(refine Eq.trans ?_ hE;symm;(conv=>lhs;rw [Uu]);rw [if_pos hkl,if_neg (fun h=>h h1),if_neg (fun h=>by obtain ⟨i,h1,h2⟩:=hT.1 h;exact hok i h1 h2),if_neg (by omega),if_neg (by omega),if_neg (by omega)])
    ·repeat (first|exact Ap.nil|refine Ap.same (by exact PV.Ac rfl) rfl ?_|refine Ap.cons trivial rfl (.of_eq (Au (by simp<;>omega))) ?_))
end Go.Proofs.YtdabojnmoejilaaGreatDoor
namespace Go.Proofs.YtdabojnmoejilaaGreatDoor
open Go Go.Am Go.Vm
attribute [local irreducible] Aa Af Aq Ad BF AX Ci AU AO Aw Vm.Done CS Bq
attribute [local irreducible] DW DN Je Kz QO
theorem PD {α:Type} [Inhabited α] (f:α→List UInt8) {l:List α} {k:Nat} (hk:k<l.length):(l.take (k+1)).map f=(l.take k).map f++[f (gi l k)]:=by
 rw [DJ hk,List.map_append];rfl
theorem Qb {L:Vm.Frame} {H:Vm.Heap} {nx:Nat} {Q:PV→Vm.Heap→Nat→Prop} {dst:Option Tmp} {ty:TypeId} {pos:String} {af:Array Edge} {gd:Option (Nat×Bool)} {fo:Operand} {args:Array Operand} {aT:Array TypeId} {fs cs xs:List PV} {c:Code}
 (hf:BG env.Γ L fo=some (.clo 59 fs cs)) (ha:evs env.Γ L args.toList=some xs) (hb:Tryz.f59.body=some c) (hn:(fs++xs++cs).length≤Tryz.f59.ntmps)
 (h:Ad env nx c (CQ 0 (fs++xs++cs)) H nx (Bq env.P Tryz.f59.results.toList Q)):Aa env true ⟨dst,.call { callee:=.value fo,args:=args,argTypes:=aT },ty,pos,af,gd⟩ L H nx Q:=by
 have h0:(match Tryz.f59.body with|some c=>H6 env.G Tryz.f59 c|none=>false)=true:=by kernel_rfl
 rw [hb] at h0
 exact Aa.inline rfl hf ha (AB (by decide)) Tryz.func59 hb h0 hn h
theorem XD (o:D7) (d:Ld) (ho:GR o) (hd:LM d):AX env 60 [.agg (Enc.enc o),.agg (Enc.enc d)] (.p (.int .i64 (Kz o.ranks d))):=by
 have hc:=VD d.lo d.hi
 obtain ⟨d1,d2,d3⟩:=hd
 unfold Kz
 refine AX.enter (AB (by decide)) Tryz.func60 rfl (by kernel_rfl) (by simp [Tryz.ntmps60]) ?_
 by_cases h0:UH d.lo d.hi=0
 case neg =>
  rw [if_pos h0]
  repeat' (first|apply Ad.assoc|apply Ad.AA|apply Ad.BI|apply Af.nil|apply Af.one|(apply Aa.fn;rfl;rfl;exact hc;intro _;rfl)|(apply Aa.assign;rfl)|(apply Aa.move;rfl)|(apply Aa.int;rfl;rfl;rfl)|(apply Aa.load;rfl;rfl)|(apply Aa.AV;rfl;rfl;rfl)|(apply Aa.box;rfl;trivial)|(apply Ad.Ae;rfl)|(intro _;try (exfalso;omega)))
  all_goals first|(exfalso;omega)|(refine Done.ret rfl (.refl _) (by exact PV.Ac rfl) Ak.nil (Nat.zero_le _) (Nat.le_refl _) ⟨?_,rfl,rfl⟩;try rfl)
 rw [h0] at hc ⊢
 rw [if_neg (by decide)]
 repeat' (first|apply Ad.assoc|apply Ad.AA|apply Ad.Ar|apply Ad.BI|apply Ad.Ai|apply Af.nil|apply Af.one|(apply Aa.fn;rfl;rfl;exact hc;intro _;rfl)|(apply Aa.makeMap)|(apply Aa.assign;rfl)|(apply Aa.move;rfl)|(apply Aa.int;rfl;rfl;rfl)|(apply Aa.load;rfl;rfl)|(apply Aa.BQ;rfl;rfl)|(apply Aa.AV;rfl;rfl;rfl)|(apply Aa.box;rfl;trivial)|(apply Ad.Az;rfl)|(apply Ad.Ae;rfl)|(intro _;try (exfalso;omega)))
 all_goals try contradiction
 ·rw [if_pos (by omega)];(refine Done.ret rfl (.refl _) (by exact PV.Ac rfl) Ak.nil (Nat.zero_le _) (Nat.le_refl _) ⟨?_,rfl,rfl⟩;try rfl)
 rw [if_neg (by omega)]
 refine Ad.Ee (fun k:Nat=>[(2,.ref 0 0),(3,.ref 1 0),(6,.mref 2),(23,lst 122 d.stops),(24,.p (.int .i64 (d.stops.length:Int))),(25,.p (.int .i64 (k:Int)))]) (fun k=>[(2,.map (Xk ((d.stops.take k).map Stp.name))),(1,.box 97 ((Enc.enc d).map .p)),(0,.box 37 ((Enc.enc o).map .p))]) 3 (fun k=>k≤d.stops.length∧Nj o.ranks d.lo d.hi d.stops k=Nj o.ranks d.lo d.hi d.stops 0) (fun k=>d.stops.length-k) 0 (by omega) ⟨by omega,rfl⟩ ⟨by omega,?_,?_⟩ ?_
 ·repeat (first|exact Ap.nil|refine Ap.same (by exact PV.Ac rfl) rfl ?_|refine Ap.cons trivial rfl (.of_eq (Au (by simp<;>omega))) ?_)
 ·repeat (first|exact Ak.nil|(refine Ak.cons (Aj rfl) ?_ rfl ?_ ?_;(first|exact trivial|exact AZ.Ag _ _|(simp [HB.under,AZ.under,PV.under]));(first|exact Bv.refl _|exact Bv.vec (Bl.refl _) (by simp))))
 rintro k ⟨hk,hE⟩
 rw [← hE]
 by_cases hkl:k<d.stops.length
 case neg =>
  rw [Nj,if_neg hkl]
  repeat' (first|apply Ad.AA|apply Ad.A8|apply AU.normal|apply AO.exit|apply Aw.exit|apply Ad.ret|apply Af.nil|apply Af.one|(apply Aa.assign;rfl)|(apply Aa.int;rfl;rfl;rfl)|(apply Ad.Ae;rfl)|(intro _;try (exfalso;omega)))
  all_goals first|(exfalso;omega)|(refine Done.ret rfl (.refl _) (by exact PV.Ac rfl) Ak.nil (Nat.zero_le _) (Nat.le_refl _) ⟨?_,rfl,rfl⟩;try rfl)
 rw [Nj,if_pos hkl]
 have hst:=pI o.ranks d.lo d.hi (gi d.stops k) ho.ranks ho.rk (d3 k hkl)
 by_cases h1:Je o.ranks d.lo d.hi (gi d.stops k)=0
 case neg =>
  rw [if_pos h1]
  repeat' (first|apply Ad.assoc|apply Ad.AA|apply Ad.Ar|apply Ad.BI|apply Ad.Ai|apply AU.ret|apply AO.ret|apply Aw.ret|apply Af.nil|apply Af.one|(apply Aa.fn;rfl;rfl;exact hst;intro _;rfl)|(apply Aa.assign;rfl)|(apply Aa.move;rfl)|(apply Aa.int;rfl;rfl;rfl)|(apply Aa.Ba;rfl;rfl;rfl;omega;rfl)|(apply Aa.load;rfl;rfl)|(apply Aa.AV;rfl;rfl;rfl)|(apply Aa.alloc;rfl)|(apply Aa.Bd;rfl;rfl;rfl;trivial;rfl;rfl;exact Aj rfl;exact le_dec rfl)|(apply Aa.build;rfl;rfl;rfl;rfl;rfl)|(apply Ad.Ae;rfl)|(intro _;try (exfalso;omega)))
  all_goals first|(exfalso;omega)|contradiction|(refine Done.ret rfl (.refl _) (by exact PV.Ac rfl) Ak.nil (Nat.zero_le _) (Nat.le_refl _) ⟨?_,rfl,rfl⟩;try rfl)
 rw [h1] at hst ⊢
 rw [if_neg (by decide)]
 by_cases h2:(gi d.stops k).name∈(d.stops.take k).map Stp.name
 ·rw [if_pos h2]
  repeat' (first|apply Ad.assoc|apply Ad.AA|apply Ad.Ar|apply Ad.BI|apply Ad.Ai|apply AU.ret|(apply Bq.ret;rfl)|apply AO.ret|apply Aw.ret|apply Ad.ret|apply Af.nil|apply Af.one|(apply Aa.fn;rfl;rfl;exact hst;intro _;rfl)|(apply Qb;rfl;rfl;rfl;exact le_dec rfl)|(apply Aa.IK;rfl;rfl;rfl;rfl;rfl;rfl)|(apply Aa.assign;rfl)|(apply Aa.move;rfl)|(apply Aa.int;rfl;rfl;rfl)|(apply Aa.Ba;rfl;rfl;rfl;omega;rfl)|(apply Aa.load;rfl;rfl)|(apply Aa.AV;rfl;rfl;rfl)|(apply Aa.alloc;rfl)|(apply Aa.Bd;rfl;rfl;rfl;trivial;rfl;rfl;exact Aj rfl;exact le_dec rfl)|(apply Aa.build;rfl;rfl;rfl;rfl;rfl)|(apply Ad.Az;rfl)|(apply Ad.Ae;rfl)|(apply Ad.cond_true;rfl)|(intro _;try (exfalso;omega)))
  all_goals first|(exfalso;omega)|contradiction|(refine Done.ret rfl (.refl _) (by exact PV.Ac rfl) Ak.nil (Nat.zero_le _) (Nat.le_refl _) ⟨?_,rfl,rfl⟩;try rfl)
 ·rw [if_neg h2]
  repeat' (first|apply Ad.assoc|apply Ad.AA|apply Ad.region|apply Ad.Ar|apply Ad.BI|apply Ad.Ai|apply AU.normal|apply AU.ret|(apply Bq.ret;rfl)|apply AO.normal|apply AO.ret|apply Aw.ret|apply Ad.ret|apply Ad.skip|apply Af.nil|apply Af.one|(apply Aa.fn;rfl;rfl;exact hst;intro _;rfl)|(apply Qb;rfl;rfl;rfl;exact le_dec rfl)|(apply Aa.IK;rfl;rfl;rfl;rfl;rfl;rfl)|(apply Aa.ZN;rfl;rfl;rfl;rfl;rfl;rfl;exact h2)|(apply Aa.assign;rfl)|(apply Aa.move;rfl)|(apply Aa.Bz;rfl;rfl;omega)|(apply Aa.int;rfl;rfl;rfl)|(apply Aa.Ba;rfl;rfl;rfl;omega;rfl)|(apply Aa.load;rfl;rfl)|(apply Aa.AV;rfl;rfl;rfl)|(apply Aa.alloc;rfl)|(apply Aa.Bd;rfl;rfl;rfl;trivial;rfl;rfl;exact Aj rfl;exact le_dec rfl)|(apply Aa.build;rfl;rfl;rfl;rfl;rfl)|(apply Ad.Az;rfl)|(apply Ad.Ae;rfl)|(apply Ad.cond_true;rfl)|(apply Ad.cond_false;rfl)|(intro _;try (exfalso;omega)))
  all_goals try (exfalso;omega)
  all_goals try contradiction
  refine Aw.normal ⟨k+1,⟨by omega,?_⟩,by omega,⟨by omega,?_,?_⟩⟩
  ·first|rfl|(refine Eq.trans ?_ hE;symm;(conv=>lhs;rw [Nj]);rw [if_pos hkl,if_neg (fun h=>h h1),if_neg h2])
  ·repeat (first|exact Ap.nil|refine Ap.same (by exact PV.Ac rfl) rfl ?_|refine Ap.cons trivial rfl (.of_eq (Au (by simp<;>omega))) ?_)
  ·rw [PD Stp.name hkl];repeat (first|exact Ak.nil|(refine Ak.cons (Aj rfl) ?_ rfl ?_ ?_;(first|exact trivial|exact AZ.Ag _ _|(simp [HB.under,AZ.under,PV.under]));(first|exact Bv.refl _|exact Bv.vec (Bl.refl _) (by simp))))
theorem Ja (o:D7) (ho:GR o):AX env 35 [.agg (Enc.enc o)] (.p (.int .i64 (Jy o))):=by
 have hn:=Hw o.name (by have:=ho.name;omega)
 have b1:=ho.ranks
 have b2:=ho.Ah
 unfold Jy
 refine AX.enter (AB (by decide)) Tryz.func35 rfl (by kernel_rfl) (by simp [Tryz.ntmps35]) ?_
 by_cases h0:Di o.name
 case neg =>
  rw [if_pos h0]
  rw [decide_eq_false h0] at hn
  repeat' (first|apply Ad.AA|apply Ad.Ai|apply AU.ret|apply AO.ret|apply Ad.ret|apply Af.nil|apply Af.one|(apply Aa.fn;rfl;rfl;exact hn;intro _;rfl)|(apply Aa.assign;rfl)|(apply Aa.load;rfl;rfl)|(apply Aa.AV;rfl;rfl;rfl)|(apply Aa.box;rfl;trivial)|(apply Aa.not;rfl)|(apply Ad.cond_true;rfl))
  all_goals first|(exfalso;omega)|contradiction|(refine Done.ret rfl (.refl _) (by exact PV.Ac rfl) Ak.nil (Nat.zero_le _) (Nat.le_refl _) ⟨?_,rfl,rfl⟩;try rfl)
 rw [if_neg (fun h=>h h0)]
 rw [decide_eq_true h0] at hn
 repeat' (first|apply Ad.assoc|apply Ad.AA|apply Ad.Ai|apply AU.normal|apply AU.ret|apply AO.normal|apply AO.ret|apply Ad.ret|apply Ad.skip|apply Af.nil|apply Af.one|(apply Aa.fn;rfl;rfl;exact hn;intro _;rfl)|(apply Aa.makeMap)|(apply Aa.assign;rfl)|(apply Aa.move;rfl)|(apply Aa.int;rfl;rfl;rfl)|(apply Aa.load;rfl;rfl)|(apply Aa.BQ;rfl;rfl)|(apply Aa.AV;rfl;rfl;rfl)|(apply Aa.box;rfl;trivial)|(apply Aa.not;rfl)|(apply Ad.cond_false;rfl)|(apply Ad.AY;rfl)|(intro _;try (exfalso;omega)))
 all_goals try contradiction
 ·rw [if_pos (by omega)];(refine Done.ret rfl (.refl _) (by exact PV.Ac rfl) Ak.nil (Nat.zero_le _) (Nat.le_refl _) ⟨?_,rfl,rfl⟩;try rfl)
 rw [if_neg (by omega)]
 refine Ad.Ee (fun k:Nat=>[(1,.ref 0 0),(3,.mref 1),(25,lst 131 o.ranks),(26,.p (.int .i64 (o.ranks.length:Int))),(27,.p (.int .i64 (k:Int)))]) (fun k=>[(1,.map (Xk ((o.ranks.take k).map Fh.name))),(0,.box 37 ((Enc.enc o).map .p))]) 2 (fun k=>k≤o.ranks.length∧OT o.ranks k=OT o.ranks 0) (fun k=>o.ranks.length-k) 0 (by omega) ⟨by omega,rfl⟩ ⟨by omega,?_,?_⟩ ?_
 ·repeat (first|exact Ap.nil|refine Ap.same (by exact PV.Ac rfl) rfl ?_|refine Ap.cons trivial rfl (.of_eq (Au (by simp<;>omega))) ?_)
 ·repeat (first|exact Ak.nil|(refine Ak.cons (Aj rfl) ?_ rfl ?_ ?_;(first|exact trivial|exact AZ.Ag _ _|(simp [HB.under,AZ.under,PV.under]));(first|exact Bv.refl _|exact Bv.vec (Bl.refl _) (by simp))))
 rintro k ⟨hk,hE⟩
 by_cases hkl:k<o.ranks.length
 ·have hsm:=(ho.rk k hkl).len
  have hc:=Us (gi o.ranks k) hsm.1 hsm.2.1 hsm.2.2
  by_cases h1:DW (gi o.ranks k)=0
  case neg =>
   have e:OT o.ranks 0=DW (gi o.ranks k):=by rw [← hE,OT,if_pos hkl,if_pos h1]
   rw [e,if_pos h1]
   repeat' (first|apply Ad.assoc|apply Ad.AA|apply Ad.Ar|apply Ad.BI|apply Ad.Ai|apply AU.ret|apply AO.ret|apply Aw.ret|apply Af.nil|apply Af.one|(apply Aa.fn;rfl;rfl;exact hc;intro _;rfl)|(apply Aa.assign;rfl)|(apply Aa.move;rfl)|(apply Aa.int;rfl;rfl;rfl)|(apply Aa.Ba;rfl;rfl;rfl;omega;rfl)|(apply Aa.load;rfl;rfl)|(apply Aa.alloc;rfl)|(apply Aa.Bd;rfl;rfl;rfl;trivial;rfl;rfl;exact Aj rfl;exact le_dec rfl)|(apply Ad.Ae;rfl)|(intro _;try (exfalso;omega)))
   all_goals first|(exfalso;omega)|contradiction|(refine Done.ret rfl (.refl _) (by exact PV.Ac rfl) Ak.nil (Nat.zero_le _) (Nat.le_refl _) ⟨?_,rfl,rfl⟩;try rfl)
  rw [h1] at hc
  by_cases h2:(gi o.ranks k).name∈(o.ranks.take k).map Fh.name
  ·have e:OT o.ranks 0=9:=by rw [← hE,OT,if_pos hkl,if_neg (fun h=>h h1),if_pos h2]
   rw [e,if_pos (by decide)]
   repeat' (first|apply Ad.assoc|apply Ad.AA|apply Ad.Ar|apply Ad.BI|apply Ad.Ai|apply AU.ret|(apply Bq.ret;rfl)|apply AO.ret|apply Aw.ret|apply Ad.ret|apply Af.nil|apply Af.one|(apply Aa.fn;rfl;rfl;exact hc;intro _;rfl)|(apply Qb;rfl;rfl;rfl;exact le_dec rfl)|(apply Aa.IK;rfl;rfl;rfl;rfl;rfl;rfl)|(apply Aa.assign;rfl)|(apply Aa.move;rfl)|(apply Aa.int;rfl;rfl;rfl)|(apply Aa.Ba;rfl;rfl;rfl;omega;rfl)|(apply Aa.load;rfl;rfl)|(apply Aa.AV;rfl;rfl;rfl)|(apply Aa.alloc;rfl)|(apply Aa.Bd;rfl;rfl;rfl;trivial;rfl;rfl;exact Aj rfl;exact le_dec rfl)|(apply Ad.Az;rfl)|(apply Ad.Ae;rfl)|(apply Ad.cond_true;rfl)|(intro _;try (exfalso;omega)))
   all_goals first|(exfalso;omega)|contradiction|(refine Done.ret rfl (.refl _) (by exact PV.Ac rfl) Ak.nil (Nat.zero_le _) (Nat.le_refl _) ⟨?_,rfl,rfl⟩;try rfl)
  ·repeat' (first|apply Ad.assoc|apply Ad.AA|apply Ad.region|apply Ad.Ar|apply Ad.BI|apply Ad.Ai|apply AU.normal|apply AU.ret|(apply Bq.ret;rfl)|apply AO.normal|apply AO.ret|apply Aw.ret|apply Ad.ret|apply Ad.skip|apply Af.nil|apply Af.one|(apply Aa.fn;rfl;rfl;exact hc;intro _;rfl)|(apply Qb;rfl;rfl;rfl;exact le_dec rfl)|(apply Aa.IK;rfl;rfl;rfl;rfl;rfl;rfl)|(apply Aa.ZN;rfl;rfl;rfl;rfl;rfl;rfl;exact h2)|(apply Aa.assign;rfl)|(apply Aa.move;rfl)|(apply Aa.Bz;rfl;rfl;omega)|(apply Aa.int;rfl;rfl;rfl)|(apply Aa.Ba;rfl;rfl;rfl;omega;rfl)|(apply Aa.load;rfl;rfl)|(apply Aa.AV;rfl;rfl;rfl)|(apply Aa.alloc;rfl)|(apply Aa.Bd;rfl;rfl;rfl;trivial;rfl;rfl;exact Aj rfl;exact le_dec rfl)|(apply Ad.Az;rfl)|(apply Ad.Ae;rfl)|(apply Ad.cond_true;rfl)|(apply Ad.cond_false;rfl)|(intro _;try (exfalso;omega)))
   all_goals try (exfalso;omega)
   all_goals try contradiction
   refine Aw.normal ⟨k+1,⟨by omega,?_⟩,by omega,⟨by omega,?_,?_⟩⟩
   ·first|rfl|(refine Eq.trans ?_ hE;symm;(conv=>lhs;rw [OT]);rw [if_pos hkl,if_neg (fun h=>h h1),if_neg h2])
   ·repeat (first|exact Ap.nil|refine Ap.same (by exact PV.Ac rfl) rfl ?_|refine Ap.cons trivial rfl (.of_eq (Au (by simp<;>omega))) ?_)
   ·rw [PD Fh.name hkl];repeat (first|exact Ak.nil|(refine Ak.cons (Aj rfl) ?_ rfl ?_ ?_;(first|exact trivial|exact AZ.Ag _ _|(simp [HB.under,AZ.under,PV.under]));(first|exact Bv.refl _|exact Bv.vec (Bl.refl _) (by simp))))
 obtain rfl:k=o.ranks.length:=by omega
 have e:OT o.ranks 0=0:=by rw [← hE,OT,if_neg (by omega)]
 rw [if_neg (fun h=>h e)]
 repeat' (first|apply Ad.assoc|apply Ad.AA|apply Ad.A8|apply Ad.Ai|apply AU.normal|apply AU.ret|apply AO.normal|apply AO.ret|apply AO.exit|apply Aw.exit|apply Ad.ret|apply Ad.skip|apply Af.nil|apply Af.one|(apply Aa.makeMap)|(apply Aa.assign;rfl)|(apply Aa.move;rfl)|(apply Aa.int;rfl;rfl;rfl)|(apply Aa.load;rfl;rfl)|(apply Aa.BQ;rfl;rfl)|(apply Aa.AV;rfl;rfl;rfl)|(apply Ad.Ae;rfl)|(apply Ad.AY;rfl)|(intro _;try (exfalso;omega)))
 all_goals try (exfalso;omega)
 ·rw [if_pos (by omega)];(refine Done.ret rfl (.refl _) (by exact PV.Ac rfl) Ak.nil (Nat.zero_le _) (Nat.le_refl _) ⟨?_,rfl,rfl⟩;try rfl)
 ·rw [if_neg (by omega),if_pos (by omega)];(refine Done.ret rfl (.refl _) (by exact PV.Ac rfl) Ak.nil (Nat.zero_le _) (Nat.le_refl _) ⟨?_,rfl,rfl⟩;try rfl)
 rw [if_neg (by omega),if_neg (by omega)]
 refine Ad.ghost (AL.adopt 8 94 rfl) ?_
 refine Ad.Ee (fun k:Nat=>[(1,.ref 0 0),(3,.mref 2),(8,.vec 3 ((o.Ah.take k).map fun d=>(⟨d.lo,d.hi⟩:ZW)).length 0 ((o.Ah.take k).map fun d=>(⟨d.lo,d.hi⟩:ZW)).length),(56,lst 97 o.Ah),(57,.p (.int .i64 (o.Ah.length:Int))),(58,.p (.int .i64 (k:Int)))]) (fun k=>[(3,.vec 94 (cells ((o.Ah.take k).map fun d=>(⟨d.lo,d.hi⟩:ZW))) ((o.Ah.take k).map fun d=>(⟨d.lo,d.hi⟩:ZW)).length true),(2,.map (Xk ((o.Ah.take k).map Ld.name))),(0,.box 37 ((Enc.enc o).map .p))]) 4 (fun k=>k≤o.Ah.length∧Gt o.ranks o.Ah k=Gt o.ranks o.Ah 0) (fun k=>o.Ah.length-k) 0 (by omega) ⟨by omega,rfl⟩ ⟨by omega,?_,?_⟩ ?_
 ·repeat (first|exact Ap.nil|refine Ap.same (by exact PV.Ac rfl) rfl ?_|refine Ap.cons trivial rfl (.of_eq (Au (by simp<;>omega))) ?_)
 ·repeat (first|exact Ak.nil|(refine Ak.cons (Aj rfl) ?_ rfl ?_ ?_;(first|exact trivial|exact AZ.Ag _ _|(simp [HB.under,AZ.under,PV.under]));(first|exact Bv.refl _|exact Bv.vec (Bl.refl _) (by simp))))
 rintro k ⟨hk,hE⟩
 have hlen:((o.Ah.take k).map fun d=>(⟨d.lo,d.hi⟩:ZW)).length=k:=by rw [List.length_map,List.length_take];omega
 by_cases hkl:k<o.Ah.length
 ·have hds:=ho.dv k hkl
  have hdn:=Hw (gi o.Ah k).name (by have:=hds.name;omega)
  have hdv:=XD o (gi o.Ah k) ho hds
  by_cases h1:Di (gi o.Ah k).name
  case neg =>
   have e2:Gt o.ranks o.Ah 0=8:=by rw [← hE,Gt,if_pos hkl,if_pos h1]
   rw [e2,if_pos (by decide)]
   rw [decide_eq_false h1] at hdn
   repeat' (first|apply Ad.assoc|apply Ad.AA|apply Ad.Ar|apply Ad.BI|apply Ad.Ai|apply AU.ret|apply AO.ret|apply Aw.ret|apply Af.nil|apply Af.one|(apply Aa.fn;rfl;rfl;exact hdn;intro _;rfl)|(apply Aa.assign;rfl)|(apply Aa.int;rfl;rfl;rfl)|(apply Aa.Ba;rfl;rfl;rfl;omega;rfl)|(apply Aa.load;rfl;rfl)|(apply Aa.AV;rfl;rfl;rfl)|(apply Aa.alloc;rfl)|(apply Aa.Bd;rfl;rfl;rfl;trivial;rfl;rfl;exact Aj rfl;exact le_dec rfl)|(apply Aa.not;rfl)|(apply Ad.Bc;rfl)|(apply Ad.Ae;rfl)|(intro _;try (exfalso;omega)))
   all_goals first|(exfalso;omega)|contradiction|(refine Done.ret rfl (.refl _) (by exact PV.Ac rfl) Ak.nil (Nat.zero_le _) (Nat.le_refl _) ⟨?_,rfl,rfl⟩;try rfl)
  rw [decide_eq_true h1] at hdn
  by_cases h2:(gi o.Ah k).name∈(o.Ah.take k).map Ld.name
  ·have e2:Gt o.ranks o.Ah 0=9:=by rw [← hE,Gt,if_pos hkl,if_neg (fun h=>h h1),if_pos h2]
   rw [e2,if_pos (by decide)]
   repeat' (first|apply Ad.assoc|apply Ad.AA|apply Ad.Ar|apply Ad.BI|apply Ad.Ai|apply AU.ret|(apply Bq.ret;rfl)|apply AO.ret|apply Aw.ret|apply Af.nil|apply Af.one|(apply Aa.fn;rfl;rfl;exact hdn;intro _;rfl)|(apply Qb;rfl;rfl;rfl;exact le_dec rfl)|(apply Aa.IK;rfl;rfl;rfl;rfl;rfl;rfl)|(apply Aa.assign;rfl)|(apply Aa.move;rfl)|(apply Aa.int;rfl;rfl;rfl)|(apply Aa.Ba;rfl;rfl;rfl;omega;rfl)|(apply Aa.load;rfl;rfl)|(apply Aa.AV;rfl;rfl;rfl)|(apply Aa.alloc;rfl)|(apply Aa.Bd;rfl;rfl;rfl;trivial;rfl;rfl;exact Aj rfl;exact le_dec rfl)|(apply Aa.not;rfl)|(apply Ad.Bc;rfl)|(apply Ad.Az;rfl)|(apply Ad.Ae;rfl)|(intro _;try (exfalso;omega)))
   all_goals first|(exfalso;omega)|contradiction|(refine Done.ret rfl (.refl _) (by exact PV.Ac rfl) Ak.nil (Nat.zero_le _) (Nat.le_refl _) ⟨?_,rfl,rfl⟩;try rfl)
  by_cases h3:Kz o.ranks (gi o.Ah k)=0
  case neg =>
   have e2:Gt o.ranks o.Ah 0=Kz o.ranks (gi o.Ah k):=by rw [← hE,Gt,if_pos hkl,if_neg (fun h=>h h1),if_neg h2,if_pos h3]
   rw [e2,if_pos h3]
   repeat' (first|apply Ad.assoc|apply Ad.AA|apply Ad.Ar|apply Ad.BI|apply Ad.Ai|apply AU.ret|(apply Bq.ret;rfl)|apply AO.ret|apply Aw.ret|apply Ad.ret|apply Af.nil|apply Af.one|(apply Aa.fn;rfl;rfl;exact hdn;intro _;rfl)|(apply Aa.fn;rfl;rfl;exact hdv;intro _;rfl)|(apply Qb;rfl;rfl;rfl;exact le_dec rfl)|(apply Aa.IK;rfl;rfl;rfl;rfl;rfl;rfl)|(apply Aa.ZN;rfl;rfl;rfl;rfl;rfl;rfl;exact h2)|(apply Aa.assign;rfl)|(apply Aa.move;rfl)|(apply Aa.int;rfl;rfl;rfl)|(apply Aa.Ba;rfl;rfl;rfl;omega;rfl)|(apply Aa.load;rfl;rfl)|(apply Aa.AV;rfl;rfl;rfl)|(apply Aa.alloc;rfl)|(apply Aa.Bd;rfl;rfl;rfl;trivial;rfl;rfl;exact Aj rfl;exact le_dec rfl)|(apply Aa.not;rfl)|(apply Ad.Bc;rfl)|(apply Ad.Az;rfl)|(apply Ad.Ae;rfl)|(intro _;try (exfalso;omega)))
   all_goals first|(exfalso;omega)|contradiction|(refine Done.ret rfl (.refl _) (by exact PV.Ac rfl) Ak.nil (Nat.zero_le _) (Nat.le_refl _) ⟨?_,rfl,rfl⟩;try rfl)
  rw [h3] at hdv
  have e5:((o.Ah.take (k+1)).map fun d=>(⟨d.lo,d.hi⟩:ZW))=((o.Ah.take k).map fun d=>(⟨d.lo,d.hi⟩:ZW))++[⟨(gi o.Ah k).lo,(gi o.Ah k).hi⟩]:=by rw [DJ hkl,List.map_append];rfl
  have e6:((o.Ah.take (k+1)).map fun d=>(⟨d.lo,d.hi⟩:ZW)).length=((o.Ah.take k).map fun d=>(⟨d.lo,d.hi⟩:ZW)).length+1:=by rw [e5,List.length_append];rfl
  repeat' (first|apply Ad.assoc|apply Ad.AA|apply Ad.region|apply Ad.Ar|apply Ad.BI|apply Ad.Ai|apply AU.normal|apply AU.ret|(apply Bq.ret;rfl)|apply AO.normal|apply AO.ret|apply Aw.ret|apply Ad.ret|apply Af.nil|apply Af.one|(apply Aa.fn;rfl;rfl;exact hdn;intro _;rfl)|(apply Aa.fn;rfl;rfl;exact hdv;intro _;rfl)|(apply Aa.Dv (a:=(⟨(gi o.Ah k).lo,(gi o.Ah k).hi⟩:ZW));rfl;rfl;rfl;rfl;rfl;rfl;rfl;rfl;(intro _ h;cases h);rfl;rfl;rfl;decide;decide;(first|omega|(simp only [List.length_take,List.length_drop,List.length_append,List.length_singleton,List.length_cons,List.length_nil]<;>omega)))|(apply Qb;rfl;rfl;rfl;exact le_dec rfl)|(apply Aa.IK;rfl;rfl;rfl;rfl;rfl;rfl)|(apply Aa.ZN;rfl;rfl;rfl;rfl;rfl;rfl;exact h2)|(apply Aa.assign;rfl)|(apply Aa.move;rfl)|(apply Aa.Bz;rfl;rfl;omega)|(apply Aa.int;rfl;rfl;rfl)|(apply Aa.Ba;rfl;rfl;rfl;omega;rfl)|(apply Aa.load;rfl;rfl)|(apply Aa.AV;rfl;rfl;rfl)|(apply Aa.alloc;rfl)|(apply Aa.Bd;rfl;rfl;rfl;trivial;rfl;rfl;exact Aj rfl;exact le_dec rfl)|(apply Aa.buildSlice;rfl;rfl;rfl;decide;rfl;rfl;rfl)|(apply Aa.not;rfl)|(apply Ad.Bc;rfl)|(apply Ad.Az;rfl)|(apply Ad.Ae;rfl)|(intro _;try (exfalso;omega)))
  all_goals try (exfalso;omega)
  all_goals try contradiction
  refine Aw.normal ⟨k+1,⟨by omega,?_⟩,by omega,⟨by omega,?_,?_⟩⟩
  ·first|rfl|(refine Eq.trans ?_ hE;symm;(conv=>lhs;rw [Gt]);rw [if_pos hkl,if_neg (fun h=>h h1),if_neg h2,if_neg (fun h=>h h3)])
  ·rw [e6];repeat (first|exact Ap.nil|refine Ap.same (by exact PV.Ac rfl) rfl ?_|refine Ap.cons trivial rfl (.of_eq (Au (by simp<;>omega))) ?_)
  ·rw [e6,e5,PD Ld.name hkl];repeat (first|exact Ak.nil|(refine Ak.cons (Aj rfl) ?_ rfl ?_ ?_;(first|exact trivial|exact AZ.Ag _ _|(simp [HB.under,AZ.under,PV.under]));(first|exact Bv.refl _|exact Bv.vec (Bl.refl _) (by simp))))
 obtain rfl:k=o.Ah.length:=by omega
 have e2:Gt o.ranks o.Ah 0=0:=by rw [← hE,Gt,if_neg (by omega)]
 rw [if_neg (fun h=>h e2)]
 have et:o.Ah.take o.Ah.length=o.Ah:=List.take_of_length_le (Nat.le_refl _)
 have hcp:=YV (o.Ah.map fun d=>(⟨d.lo,d.hi⟩:ZW)) o.CZ (by rw [List.length_map];exact b2) ho.CZ ho.cp
 rw [et]
 repeat' (first|(refine Ad.at 35 ?_;refine Ad.ghost (AL.freeze 8 rfl rfl) ?_;first|apply Ad.AA|apply Ad.Bj)|apply Ad.AA|apply Ad.A8|apply AU.normal|apply AO.exit|apply Aw.exit|apply Ad.ret|apply Af.nil|apply Af.one|(apply Aa.fn;rfl;rfl;exact hcp;intro _;rfl)|(apply Aa.assign;rfl)|(apply Aa.move;rfl)|(apply Aa.int;rfl;rfl;rfl)|(apply Aa.load;rfl;rfl)|(apply Aa.AV;rfl;rfl;rfl)|(apply Ad.Ae;rfl)|(intro _;try (exfalso;omega)))
 all_goals first|(exfalso;omega)|(refine Done.ret rfl (.refl _) (by exact PV.Ac rfl) Ak.nil (Nat.zero_le _) (Nat.le_refl _) ⟨?_,rfl,rfl⟩;try rfl)
end Go.Proofs.YtdabojnmoejilaaGreatDoor
namespace Go.Proofs.YtdabojnmoejilaaGreatDoor
open Go Go.Am Go.Vm
attribute [local irreducible] Aa Af Aq Ad BF AX Ci AU AO Aw Vm.Done CS Bq
structure Rgs where
 stops:List Nat
 cp:Nat
 off:Nat
instance:Enc Rgs:={ default:=⟨[],0,0⟩,enc:=fun x=>[.lst 39 (cells x.stops) x.stops.length,.int .u64 (x.cp:Int),.int .u64 (x.off:Int)],size:=3,len:=fun _=>rfl }
structure Rgs.Ok (r:Rgs):Prop where
 stops:∀ i,i<r.stops.length→gi r.stops i<18446744073709551616
 cp:r.cp<18446744073709551616
 off:r.off<18446744073709551616
 len:r.stops.length<9223372036854775808
def a3q (b:Nat→Nat):List FV:=[.int .u8 (b 0:Int),.int .u8 (b 1:Int),.int .u8 (b 2:Int),.int .u8 (b 3:Int),.int .u8 (b 4:Int)]
def a4o (o:D7) (b:Nat→Nat) (k:Nat):Nat:=b (k % 3) &&& (2 ^ (gi o.Ah k).stops.length-1)
def a0r (o:D7) (b:Nat→Nat):Rgs:=⟨zT (a4o o b) o.Ah.length,b 3 &&& (2 ^ o.CZ.length-1),b 4 &&& (2 ^ o.Ah.length-1)⟩
noncomputable def OY (o:D7) (r:Rgs):Int :=
 open Classical in
 if r.stops.length≠o.Ah.length then 5
 else if ∃ i,i<r.stops.length∧gi r.stops i / 2 ^ (gi o.Ah i).stops.length≠0 then 3
 else if r.cp / 2 ^ o.CZ.length≠0∨r.off / 2 ^ o.Ah.length≠0 then 3 else 0
theorem cZ {o:D7} {r:Rgs} (h:r.stops.length≠o.Ah.length):OY o r=5:=by unfold OY;rw [if_pos h]
theorem vI {o:D7} {r:Rgs} (h:r.stops.length=o.Ah.length) {i:Nat} (hi:i<r.stops.length) (h2:gi r.stops i / 2 ^ (gi o.Ah i).stops.length≠0):OY o r=3:=by
 unfold OY;rw [if_neg (fun h'=>h' h),if_pos ⟨i,hi,h2⟩]
theorem X7 {o:D7} {r:Rgs} (h:r.stops.length=o.Ah.length) (h2:∀ i,i<r.stops.length→gi r.stops i / 2 ^ (gi o.Ah i).stops.length=0):OY o r=if r.cp / 2 ^ o.CZ.length≠0∨r.off / 2 ^ o.Ah.length≠0 then 3 else 0:=by
 unfold OY;rw [if_neg (fun h'=>h' h),if_neg (fun ⟨i,hi,h3⟩=>h3 (h2 i hi))]
end Go.Proofs.YtdabojnmoejilaaGreatDoor
namespace Go.Vm
open Go.Am
section
variable {E:Env} {L:Vm.Frame} {H:Vm.Heap} {nx:Nat} {Q:PV→Vm.Heap→Nat→Prop} {w:Bool} {dst:Option Tmp} {ty:TypeId} {pos:String} {af:Array Edge} {gd:Option (Nat×Bool)}
theorem ZJ {m:Mem} {F:Nat→Prop}:∀ {cs:List FV} {vs:List Value} {j:Nat} {c:FV},DT m F cs vs→cs[j]?=some c→∃ v,vs[j]?=some v∧RF m F c v
 |_,_,0,c,.cons h t,e=>by simp at e;subst e;exact ⟨_,rfl,h⟩
 |_,_,j+1,c,.cons h t,e=>by
  simp at e
  obtain ⟨v,h1,h2⟩:=ZJ t e
  exact ⟨v,by simpa using h1,h2⟩
 |_,_,_,_,.nil,e=>by simp at e
theorem Aa.iL {t e:TypeId} {x ix:Operand} {n:Nat} {cs:List FV} {k:IntKind} {i:Int} {inf:TypeInfo} {c:FV} (hx:BG E.Γ L x=some (.p (.agg cs))) (hi:BG E.Γ L ix=some (.p (.int k i)))
 (ht:E.P.underlying t=some (.array n e)) (ha:Gw E.P e=some false) (hs:E.P.info? e=some inf) (h:0≤i∧i<n) (hc:cs[i.toNat*inf.size]?=some c) (q:Q (.p c) H nx) :
 Aa E w ⟨dst,.index t x ix,ty,pos,af,gd⟩ L H nx Q :=
 Aa.quiet q fun m F σ tt h1 h2=>by
  have hr:=BX h1 h2 hx
  generalize hv:ev tt x=v at hr
  cases hr with
  |p hr =>
   cases hr with
   |agg hr hcc =>
    rename_i l
    obtain ⟨u,g1,g2⟩:=ZJ hr hc
    refine ⟨u,fun _=>?_,.p g2⟩
    have hd:EM E.P (Instr.index t (.agg l.toArray) (.int k i))=some u:=by
     unfold Instr.index
     simp only [Bf,BR,ht]
     show (EM E.P (asIntOf (.int k i))).bind _=_
     rw [show EM E.P (asIntOf (.int k i))=some (k,i) from rfl]
     simp only [Option.bind_some,h,and_self,if_true,Bf,G8,hs,Option.map_some]
     unfold part
     simp only [Bf,Oy,ha,Option.bind_some,Bool.false_eq_true,if_false,List.getElem?_toArray,g1]
     rfl
    simp only [CX,FH,hv,Dh h1 h2 hi,hd,Option.map_some]
    rw [show plain (Value.int k i)=true from rfl,if_pos rfl]
end
end Go.Vm
namespace Go.Vm
open Go.Am
open Go.Sort (putRow putCells mapBlock onCells Holds grow size_putRow size_grow)
section
variable {P:Program} {G:List Nat}
def iV (z:Int):Value:=.int .i64 z
def wB:List Value→Option (List Int)
 |[]=>some []
 | .int .i64 n::l=>(wB l).map (n::·)
 |_::_=>none
abbrev InF:=List Int→List Value→Option (List Int×Option Nat)
def a4f (e:TypeId) (Fn:InF) (CG:List Value) (m:Mem):Option (Value×Mem):=match CG with
 | .slice none 0 0::rest=>match Fn [] rest with
  |some ([],none)=>some (.tuple #[],m)
  |_=>none
 | .slice (some ⟨b,0,none⟩) n g::rest=>match m.get b with
  | .cells vs e' g' false =>
   if g=g'∧e=e'∧vs.length=n∧0<n∧rest.all Am.plainCell=true then
    match wB vs with
    |some zs=>match Fn zs rest with
     |some (zs',none)=>if zs'.length=n then some (.tuple #[],m.put b (.cells (zs'.map iV) e g' false)) else none
     |some (zs',some k)=>if zs'.length=n∧k≤n then some (.slice (some ⟨b,0,none⟩) k (g'+1),m.put b (.cells ((zs'.take k).map iV) e (g'+1) false)) else none
     |none=>none
    |none=>none
   else none
  |_=>none
 |_=>none
inductive sN (e:TypeId) (Fn:InF) (m:Mem):List Value→Value→Mem→Prop
 |nil {rest:List Value} (h:Fn [] rest=some ([],none)):sN e Fn m (.slice none 0 0::rest) (.tuple #[]) m
 |put {b n g:Nat} {rest:List Value} {zs zs':List Int} (hm:m.get b=.cells (zs.map iV) e g false) (hn:zs.length=n) (h0:0<n) (hr:rest.all Am.plainCell=true) (h:Fn zs rest=some (zs',none)) (hl:zs'.length=n) :
  sN e Fn m (.slice (some ⟨b,0,none⟩) n g::rest) (.tuple #[]) (m.put b (.cells (zs'.map iV) e g false))
 |cut {b n g k:Nat} {rest:List Value} {zs zs':List Int} (hm:m.get b=.cells (zs.map iV) e g false) (hn:zs.length=n) (h0:0<n) (hr:rest.all Am.plainCell=true) (h:Fn zs rest=some (zs',some k)) (hl:zs'.length=n) (hk:k≤n) :
  sN e Fn m (.slice (some ⟨b,0,none⟩) n g::rest) (.slice (some ⟨b,0,none⟩) k (g+1)) (m.put b (.cells ((zs'.take k).map iV) e (g+1) false))
open Classical in
noncomputable def inO (G:List Nat) (M0:Mem) (ff:FuncId) (e:TypeId) (Fn:InF) (O:CJ):CJ:=fun f=>if f=ff then some (fun CG m=>if ∀ k∈G,m.get k=M0.get k then a4f e Fn CG m else none) else O f
end
end Go.Vm
namespace Go.Vm
open Go.Am
section
variable {P:Program} {F0:Nat} {laid:List (String×DataW Unit)} {O O0:CJ} {ff:FuncId} {Fn:InF} {L:Frame} {H:Heap} {nx:Nat} {Q:PV→Heap→Nat→Prop} {w:Bool}
variable {dst:Option Tmp} {ty:TypeId} {pos:String} {af:Array Edge} {gd:Option (Nat×Bool)}
theorem xU {m:Mem} {F:Nat→Prop} {σ:Nat→Value} (h1:Ctx (Jv P F0 laid O).Γ m F σ H nx):∀ k∈BP P F0 laid,m.get k=(CY P F0 laid).get k:=fun k hk=>by
 obtain ⟨hlt,e,l,hgl⟩:=Rj hk
 have:=(h1.gl k l e (by simp only [Jv,gam,if_pos hlt,hgl,Option.map_some])).2.1
 rw [this,Ji hlt,hgl]
def a7g (E:Env) (g:FuncId) (ac:List PV) (Hc:Heap) (k:Nat) (e:TypeId) (cs:List FV) (n:Nat) (z:Bool):Prop:=BF E g ac Hc k fun r H' nx'=>r=.vec k n 0 n∧H'=(k,.vec e cs n z)::Hc∧nx'=k+1
end
end Go.Vm
namespace Go.Vm
open Go.Am
theorem mQ {Γ:Nat→Option (List Value×TypeId)} {m:Mem} {F:Nat→Prop} {σ:Nat→Value} {H:Heap} {nx b:Nat} {y:HB} (h:Ctx Γ m F σ H nx) (hb:hget H b=some y) :
 Ctx Γ m (fun c=>F c∨Du (σ b)=some c) σ (hdel H b) nx∧Step m F σ H nx m (fun c=>F c∨Du (σ b)=some c) σ (hdel H b) nx:=by
 have hown:∀ c,Du (σ b)=some c→own H σ c:=fun c hc=>⟨b,_,hb,hc⟩
 have hfz:∀ c,F c→(F c∨Du (σ b)=some c)∧m.get c=m.get c:=fun c hc=>⟨.inl hc,rfl⟩
 have hN:Names nx (htag H) σ (htag (hdel H b)) σ:=fun d _=>by
  rw [Tf]
  split
  ·exact ⟨trivial,fun _ _ _=>rfl⟩
  ·exact ⟨UU.refl _,fun _ _ _=>rfl⟩
 have hsub:∀ d x,hget (hdel H b) d=some x→d≠b∧hget H d=some x:=fun d x hd=>by
  rw [JE] at hd
  split at hd
  ·cases hd
  ·rename_i hne;exact ⟨Ne.symm hne,hd⟩
 refine ⟨⟨?_,?_,?_,?_⟩,⟨Nat.le_refl _,fun _ _ _=>rfl,fun _ h=>.inl h,fun c _ hc=>hc.imp id (hown c),?_,Nat.le_refl _,hN,fun _ h _ _=>h⟩⟩
 ·rintro c (hc|hc)
  ·exact h.fr c hc
  ·exact (h.LQ (hown c hc)).2
 ·intro d x hd
  obtain ⟨hne,hd⟩:=hsub d x hd
  obtain ⟨h1,h2⟩:=h.hp d x hd
  refine ⟨h1,h2.mono hfz hN (Nat.le_refl _) (Nat.le_refl _) fun c hc=>⟨rfl,?_⟩⟩
  rintro (hf|hf)
  ·exact (h.LQ ⟨d,x,hd,hc⟩).1 hf
  ·exact hne (h.sep d b x _ c hd hb hc hf)
 ·intro d d' x x' c hd hd' hc hc'
  exact h.sep d d' x x' c (hsub d x hd).2 (hsub d' x' hd').2 hc hc'
 ·intro g cs' e' hg
  obtain ⟨h1,h2⟩:=h.gl g cs' e' hg
  exact ⟨.inl h1,h2⟩
 ·rintro c _ ⟨d,x,hd,hc⟩
  exact ⟨d,x,(hsub d x hd).2,hc⟩
section
variable {E:Env} {bn:Nat} {L:Vm.Frame} {H:Vm.Heap} {nx:Nat} {Q:CO→Vm.Frame→Vm.Heap→Nat→Prop}
def a0a (E:Env) (g:FuncId) (fn:Func) (cs:List FV) (e:TypeId) (rows:List (List Value)):Prop :=
 ∀ Fo,E.O g=some Fo→∀ m F c vs,m.get c=.cells vs e 0 false→DT m F cs vs→F c→∃ key,∀ m' F' σ' H' nx',(∀ d,F d→m'.get d=m.get d)→Ctx E.Γ m' F' σ' H' nx'→∃ m1,Fo (Ef fn.ntmps [.pointer (some ⟨c,0,none⟩)]) m'=some (II key rows,m1)
theorem Ad.Ws {f:Operand} {ps:Array Tmp} {LU body:Code} {g:FuncId} {fn:Func} {b:Nat} {cs:List FV} {ct:TypeId} {rows:List (List Value)} (n:Nat) (a3y:Nat→List FV) (vX:Nat→List Value) (L0:Vm.Frame) (Hk:Nat→Vm.Heap) (D6:Nat) (inv:Nat→Prop)
 (hf:BG E.Γ L f=some (.clo g [] [.ref b 0])) (hbx:hget H b=some (.box ct (cs.map .p))) (hfn:E.P.funcs[g]?=some fn) (hfl:(flat LU&&flat body)=true) {Fo:List Value→Mem→Option (Value×Mem)} (ho:E.O g=some Fo) (hr:rows=(List.range n).map vX) (hlen:∀ k,k<n→(vX k).length=ps.size) (hpl:∀ k,k<n→(vX k).all plain=true) (hrel:∀ k,k<n→∀ m F,DT m F (a3y k) (vX k))
 (hb:bn≤D6) (hc:WS L (hdel H b) nx L0 (Hk 0) D6) (hL0:Ap D6 L0 L0) (hask:a0a E g fn cs ct rows)
 (h0:inv 0) (jr:∀ k,k<n→inv k→Ad E D6 LU (um L0 ps.toList (a3y k)) (Hk k) D6 fun e L1 H1 nx1=>e=.normal∧Ad E D6 body L1 H1 nx1 (RQ (inv (k+1)) D6 L0 (Hk (k+1)) Q))
 (hdone:inv n→Q .normal L0 (Hk n) D6):Ad E bn (.rangeFunc f ps LU body) L H nx Q:=by
 intro B hB m F σ t h1 h2 h3
 have hv:=BX h1 h2 hf
 have hlb:∃ c vs,ev t f=.func (.func g) #[] #[.pointer (some ⟨c,0,none⟩)]∧m.get c=.cells vs ct 0 false∧DT m F cs vs∧Du (σ b)=some c:=by
  obtain ⟨_,c,vs,r1,r2,r3,r4,r5,r6⟩:=h1.hp b _ hbx
  generalize ev t f=u at hv
  cases hv with
  |clo p1 p2 =>
   cases p1
   cases p2 with
   |cons p2 p3 =>
    cases p3
    cases p2 with
    |ref q1 q2 q3 =>
     obtain ⟨c',s1,s2⟩:=q3 (by simp [htag,hbx,HB.tag])
     rw [r1] at s1
     cases s1
     exact ⟨c,vs,by rw [s2],r4,DT.Ue r5,by rw [r1];rfl⟩
 obtain ⟨c,vs,hev,hgc,hrc,hblk⟩:=hlb
 obtain ⟨g1,g2⟩:=mQ h1 hbx
 obtain ⟨F0,hF0⟩:∃ F0:Nat→Prop,F0=fun d=>F d∨Du (σ b)=some d:=⟨_,rfl⟩
 rw [← hF0] at g1 g2
 have fP:F0 c:=by rw [hF0];exact .inr hblk
 obtain ⟨key,hkey⟩:=hask Fo ho m F0 c vs hgc (hrc.mono fun d hd=>⟨by rw [hF0];exact .inl hd,rfl⟩) fP
 have l1:RL m F0 (htag (hdel H b)) σ nx L t:=RL.step g2 h1 h2
 have rounds:∀ j k,k+j=n→inv k→∀ m1 F1 σ1,Ctx E.Γ m1 F1 σ1 (Hk k) D6→RL m1 F1 (htag (Hk k)) σ1 D6 L0 t→B.to m1 F1 σ1 (Hk k) D6→(∀ d,F0 d→F1 d∧m1.get d=m.get d) →
  LV E.P E.O E.G LU body ps.size (fun m'=>∃ m1,Fo (Ef fn.ntmps [.pointer (some ⟨c,0,none⟩)]) m'=some (II key rows,m1)) t ps.toList (rows.drop k) m1 fun e m'=>∃ L' H' nx' F' σ',Q e L' H' nx'∧Ctx E.Γ m' F' σ' H' nx'∧RL m' F' (htag H') σ' nx' L' t∧B.to m' F' σ' H' nx':=by
  intro j
  induction j with
  |zero =>
   intro k hk hik m1 F1 σ1 c1 l b fz
   obtain rfl:k=n:=by omega
   rw [hr,List.drop_of_length_le (by simp)]
   exact ⟨L0,_,D6,F1,σ1,hdone hik,c1,l,b⟩
  |succ j ih =>
   intro k hk hik m1 F1 σ1 c1 l b fz
   have e0:rows.drop k=vX k::rows.drop (k+1):=by
    rw [hr,List.drop_eq_getElem_cons (by simp;omega)]
    simp
   rw [e0]
   refine ⟨hlen k (by omega),hpl k (by omega),?_⟩
   refine (jr k (by omega) hik ⟨m1.at m1.size,F1,σ1,Hk k,D6⟩ rfl _ F1 σ1 _ (c1.at _) (RL.J8 (RL.at (Γ:=E.Γ) _ l) (hrel k (by omega) _ _)) (Step.refl _ _ _ _ _)).mono ?_
   rintro e1 s1 ⟨L1,H1,nx1,F2,σ2,⟨he,hbody⟩,d1,d2,d3⟩
   refine ⟨he,(hbody ⟨m1.at m1.size,F1,σ1,Hk k,D6⟩ rfl s1.m F2 σ2 s1.t d1 d2 d3).mono ?_⟩
   rintro e2 s2 ⟨L2,H2,nx2,F3,σ3,q,k1,k2,k3⟩
   have st:Step m1 F1 σ1 (Hk k) D6 (s2.m.at (min m1.low s2.m.low)) F3 σ3 H2 nx2:=Step.at k3
   have k1':=k1.at (min m1.low s2.m.low)
   have l':=RL.step st c1 l
   have b':=Step.trans b st
   have fz':∀ d,F0 d→F3 d∧(s2.m.at (min m1.low s2.m.low)).get d=m.get d:=fun d hd=>by
    obtain ⟨x1,x2⟩:=fz d hd
    obtain ⟨y1,y2⟩:=st.frozen c1 d x1
    exact ⟨y1,y2.trans x2⟩
   cases e2 with
   |normal =>
    have vC:WS L0 H2 nx2 L0 (Hk (k+1)) D6:=⟨q.2.1,hL0,q.2.2⟩
    have c2:=vC.ctx k1'
    exact ⟨hkey _ _ _ _ _ (fun d hd=>(fz' d hd).2) c2,ih (k+1) (by omega) q.1 _ _ _ c2 (vC.rl l') (vC.step (by omega) b') fz'⟩
   |ret =>
    obtain ⟨q1,H3,q2,q3⟩:=q
    have vC:WS L0 H2 nx2 L0 H3 D6:=⟨q1,hL0,q2⟩
    exact ⟨L0,H3,D6,F3,σ3,q3,vC.ctx k1',vC.rl l',vC.step (by omega) b'⟩
   |exit id =>
    obtain ⟨q1,H3,q2,q3⟩:=q
    have vC:WS L0 H2 nx2 L0 H3 D6:=⟨q1,hL0,q2⟩
    exact ⟨L0,H3,D6,F3,σ3,q3,vC.ctx k1',vC.rl l',vC.step (by omega) b'⟩
 refine Ls.rangeFunc (fn:=fn) (Fo:=Fo) (rows:=rows) hev hfn hfl ho (hkey _ _ _ _ _ (fun _ _=>rfl) g1) ?_
 have:=rounds n 0 (by omega) h0 m F0 σ (hc.ctx g1) (hc.rl l1) (hc.step (by omega) (h3.trans g2)) fun d hd=>⟨hd,rfl⟩
 rw [List.drop_zero] at this
 exact this
end
end Go.Vm
namespace Go.Vm
open Go.Am
def b0u (e:TypeId) (ks:List Int) (f:Int→List Int):List (FV×FV):=ks.map fun k=>(.int .i64 k,.lst e (cells (f k)) (f k).length)
section
variable {E:Env} {L:Frame} {H:Heap} {nx:Nat} {Q:PV→Heap→Nat→Prop} {w:Bool}
variable {dst:Option Tmp} {ty:TypeId} {pos:String} {af:Array Edge} {gd:Option (Nat×Bool)}
end
section
variable {E:Env} {bn i:Nat} {ops:Array Oper} {l:List Oper} {L:Frame} {H:Heap} {nx:Nat} {R:Frame→Heap→Nat→Prop}
end
def swp (a b i:Nat):Nat:=if i=a then b else if i=b then a else i
def Hrn (ρ:Nat→Nat):Heap→Heap
 |[]=>[]
 |(i,x)::H=>(ρ i,x.rn ρ)::Hrn ρ H
end Go.Vm
namespace Go.Vm
open Go.Am
mutual
def FV.flat:FV→Bool
 | .int ..| .bool _| .str _| .val _=>true
 | .agg cs=>FVs.flat cs
 | .lst ..| .Gu _=>false
def FVs.flat:List FV→Bool
 |[]=>true
 |c::cs=>FV.flat c&&FVs.flat cs
end
mutual
def PV.flat:PV→Bool
 | .p x=>x.flat
 | .agg cs=>AZ.flat cs
 | .EW cs=>AZ.flat cs
 | .vec ..| .ref ..| .Ec ..| .mref _=>true
 | .clo _ fs cs=>AZ.flat fs&&AZ.flat cs
def AZ.flat:List PV→Bool
 |[]=>true
 |c::cs=>PV.flat c&&AZ.flat cs
end
def HB.flat:HB→Bool
 | .box _ cs=>AZ.flat cs
 | .vec _ cs _ _=>FVs.flat cs
 | .map _=>false
 | .Fj ..=>false
def a3p:Heap→Bool
 |[]=>true
 |(_,x)::H=>x.flat&&a3p H
section
variable {m m':Mem} {F F':Nat→Prop} {T:Nat→Option Tg} {σ:Nat→Value} {n:Nat}
end
section
variable {E:Env} {L:Frame} {H:Heap} {nx:Nat} {Q:PV→Heap→Nat→Prop} {w:Bool}
variable {dst:Option Tmp} {ty:TypeId} {pos:String} {af:Array Edge} {gd:Option (Nat×Bool)}
end
end Go.Vm
namespace Go.Vm
open Go.Am
variable {E:Env} {L:Frame} {H:Heap} {nx:Nat} {Q:PV→Heap→Nat→Prop} {w:Bool}
variable {dst:Option Tmp} {ty:TypeId} {pos:String} {af:Array Edge} {gd:Option (Nat×Bool)}
theorem iE (σ:Nat→Value) (a:Nat):upd σ a (σ a)=σ:=by funext x;simp only [upd];split<;>simp_all
theorem AL.yj (b:Nat) {n:Nat} {e:TypeId} {cs:List FV} {z:Bool} (hb:hget H b=some (.vec e cs n z)) (hn:0<n):AL E L H nx L (hput H b (.Fj e (cs.map .p) n)) nx:=fun B m F σ t h1 h2 h3=>by
 obtain ⟨_,hr⟩:=h1.hp b _ hb
 rcases hr with ⟨r1,r2,r3⟩|⟨c,g,vs,r1,r2,r3,r4,r5,r6,r7⟩
 ·omega
 have hT:htag (hput H b (.Fj e (cs.map .p) n))=htag H:=by
  funext d
  rw [SK]
  by_cases e':b=d
  ·subst e';rw [if_pos rfl];simp [htag,hb,HB.tag]
  ·rw [if_neg e']
 obtain ⟨d1,d2⟩:=h1.change (m':=m) (b0:=b) (x':=.Fj e (cs.map .p) n) (s':=σ b) hb (Nat.le_refl _) (fun _=>rfl) (Nat.le_refl _) (fun _ _ _=>rfl) (fun _ h _ _=>h) (fun c hc=>.inl hc)
  ⟨c,g,vs,r1,r2,r3,r4,DU.XY r5,r6⟩
 rw [iE] at d1 d2
 exact ⟨F,σ,d1,h2.step d2 h1,h3.trans d2⟩
theorem AL.wL (b:Nat) {n:Nat} {e:TypeId} {ds:List PV} (cs:List FV) (hb:hget H b=some (.Fj e ds n)) (hn:0<n) (hd:ds=cs.map .p):AL E L H nx L (hput H b (.vec e cs n false)) nx:=fun B m F σ t h1 h2 h3=>by
 subst hd
 obtain ⟨_,c,g,vs,r1,r2,r3,r4,r5,r6⟩:=h1.hp b _ hb
 obtain ⟨d1,d2⟩:=h1.change (m':=m) (b0:=b) (x':=.vec e cs n false) (s':=σ b) hb (Nat.le_refl _) (fun _=>rfl) (Nat.le_refl _) (fun _ _ _=>rfl) (fun _ h _ _=>h) (fun c hc=>.inl hc)
  (.inr ⟨c,g,vs,r1,r2,r3,r4,DT.Ue r5,r6,fun _=>rfl⟩)
 rw [iE] at d1 d2
 exact ⟨F,σ,d1,h2.step d2 h1,h3.trans d2⟩
theorem AL.aJ (a k:Nat) {b n n':Nat} {e e':TypeId} {cs:List FV} {ds:List PV} {z:Bool} (ha:hget H a=some (.Fj e' ds n')) (hk:ds[k]?=some (.vec b n 0 n)) (hb:hget H b=some (.vec e cs n z)) :
 AL E L H nx L (hput (hdel H b) a (.Fj e' (ds.set k (.p (.lst e cs n))) n')) nx:=fun B m F σ t h1 h2 h3=>by
 obtain ⟨c1,c2,c3⟩:=RD h1 hb
 have hne:b≠a:=fun e=>by subst e;rw [ha] at hb;cases hb
 have ha':hget (hdel H b) a=some (.Fj e' ds n'):=by rw [JE,if_neg hne];exact ha
 obtain ⟨_,c,g,vs,r1,r2,r3,r4,r5,r6⟩:=c1.hp a _ ha'
 obtain ⟨_,c',g',vs',s1,s2,s3,s4,s5,s6⟩:=h1.hp a _ ha
 rw [s1] at r1;cases r1
 rw [s4] at r4;cases r4
 obtain ⟨u,hu1,hu2⟩:=s5.get hk
 have hcell:RP m (fun c=>F c∨Du (σ b)=some c) (htag (hdel H b)) σ nx (.p (.lst e cs n)) u:=by
  cases hu2 with
  |vec hb' hc h=>exact .p (c3 _ ((h n (by simp [htag,hb,HB.tag])).2 rfl))
 obtain ⟨d1,d2⟩:=c1.change (m':=m) (b0:=a) (x':=.Fj e' (ds.set k (.p (.lst e cs n))) n') (s':=σ a) ha' (Nat.le_refl _) (fun _=>rfl) (Nat.le_refl _) (fun _ _ _=>rfl) (fun _ h _ _=>h) (fun c hc=>.inl hc) (by
  refine ⟨_,_,vs,s1,s2,r3,s4,?_,s6⟩
  have:vs=vs.set k u:=by
   apply List.ext_getElem?
   intro j
   rw [List.getElem?_set]
   by_cases e:k=j
   ·subst e
    rw [if_pos rfl,hu1]
    have:k<vs.length:=by
     rcases Nat.lt_or_ge k vs.length with h|h
     ·exact h
     ·rw [List.getElem?_eq_none h] at hu1;cases hu1
    rw [if_pos this]
   ·rw [if_neg e]
  rw [this]
  exact (r5.set k hcell).mono (fun d hd=>⟨hd,rfl⟩) (FD (x':=.Fj e' (ds.set k (.p (.lst e cs n))) n') ha' (Nat.le_refl _) fun _=>rfl) (Nat.le_refl _))
 rw [iE] at d1 d2
 exact ⟨_,σ,d1,(h2.step c2 h1).step d2 c1,(h3.trans c2).trans d2⟩
theorem SS {Γ:Nat→Option (List Value×TypeId)} {m:Mem} {F:Nat→Prop} {σ:Nat→Value} {t:Tr Value} {b tag off:Nat} {o:Operand} {e:TypeId} {cs:List PV} (hx:Ctx Γ m F σ H nx) (hl:RL m F (htag H) σ nx L t) (h:BG Γ L o=some (.Ec b tag off)) (hb:hget H b=some (.Fj e cs tag)) :
 ∃ c k g,ev t o=.pointer (some ⟨c,off,some g⟩)∧σ b=.slice (some ⟨c,0,none⟩) k g:=by
 have:=BX hx hl h
 generalize ev t o=v at this
 cases this with
 |Ec h1 h2 h3 =>
  obtain ⟨_,h4⟩:=h3 tag (by simp [htag,hb,HB.tag])
  obtain ⟨c,k,g,h5,h6⟩:=h4 rfl
  exact ⟨c,k,g,h6,h5⟩
theorem uh {Γ:Nat→Option (List Value×TypeId)} {m:Mem} {F:Nat→Prop} {σ:Nat→Value} {t:Tr Value} {b tag off len:Nat} {o:Operand} {e:TypeId} {cs:List PV} (hx:Ctx Γ m F σ H nx) (hl:RL m F (htag H) σ nx L t) (h:BG Γ L o=some (.vec b tag off len)) (hb:hget H b=some (.Fj e cs tag)) :
 EH (σ b) off len (ev t o):=by
 have:=BX hx hl h
 generalize ev t o=v at this
 cases this with
 |vec h1 h2 h3=>exact (h3 tag (by simp [htag,hb,HB.tag])).2 rfl
theorem Aa.a1o {s:TypeId} {x:Operand} {f k b tag off:Nat} {e:TypeId} {cs:List PV} (hx:BG E.Γ L x=some (.Ec b tag off)) (hb:hget H b=some (.Fj e cs tag)) (hk:LD E.P s f=some k) (q:Q (.Ec b tag (off+k)) H nx) :
 Aa E w ⟨dst,.fieldAddr s x f,ty,pos,af,gd⟩ L H nx Q :=
 Aa.quiet q fun m F σ tt h1 h2=>by
  obtain ⟨c,k',g,h3,h4⟩:=SS h1 h2 hx hb
  refine ⟨_,fun _=>IZ (dst:=dst) (ty:=ty) (pos:=pos) (af:=af) (gd:=gd) hk h3,.Ec (h1.hp b _ hb).1 rfl fun n hn=>?_⟩
  simp only [htag,hb,HB.tag,Option.map_some,Option.some.injEq,Tg.vec.injEq] at hn
  exact ⟨by omega,fun _=>⟨c,k',g,h4,rfl⟩⟩
theorem Aa.a1v {t:TypeId} {x ix:Operand} {e:TypeId} {cs:List PV} {b tag sz:Nat} {k:IntKind} {i:Nat} (hx:BG E.Γ L x=some (.vec b tag 0 tag)) (hb:hget H b=some (.Fj e cs tag)) (hi:BG E.Γ L ix=some (.p (.int k (i:Int))))
 (hs:elemSize E.P t=some sz) (h1:i<tag) (q:Q (.Ec b tag (i*sz)) H nx):Aa E w ⟨dst,.indexAddr t x ix,ty,pos,af,gd⟩ L H nx Q :=
 Aa.quiet q fun m F σ tt c1 c2=>by
  obtain ⟨e',inf,h3,h4,h5⟩:=KY hs
  have hix:=Dh c1 c2 hi
  have hsub:=uh c1 c2 hx hb
  obtain ⟨hlt,c,g,vs,r1,r2,r3,r4,r5,r6⟩:=c1.hp b _ hb
  rw [r1] at hsub
  simp only [EH] at hsub
  have h0:(0:Int)≤(i:Int):=by omega
  have h1':(i:Int)<(tag:Int):=by omega
  refine ⟨.pointer (some ⟨c,i*sz,some g⟩),fun _=>by simp only [CX,FH,h3,hsub,hix,h4,h0,h1',and_self,if_true,h5,Nat.zero_add,Int.toNat_natCast],.Ec hlt rfl fun n hn=>?_⟩
  simp only [htag,hb,HB.tag,Option.map_some,Option.some.injEq,Tg.vec.injEq] at hn
  exact ⟨by omega,fun _=>⟨c,tag,g,r1,rfl⟩⟩
theorem Aa.a5h {t:TypeId} {a:Operand} {b n off:Nat} {e:TypeId} {cs:List PV} {r:PV} (ha:BG E.Γ L a=some (.Ec b n off)) (hb:hget H b=some (.Fj e cs n)) (ht:Gw E.P t=some false) (hc:cs[off]?=some r) (q:Q r H nx):Aa E w ⟨dst,.load t a,ty,pos,af,gd⟩ L H nx Q :=
 Aa.quiet q fun m F σ tt h1 h2=>by
  obtain ⟨c,k,g,h3,h4⟩:=SS h1 h2 ha hb
  obtain ⟨_,c',g',vs,r1,r2,r3,r4,r5,r6⟩:=h1.hp b _ hb
  rw [h4] at r1
  cases r1
  obtain ⟨v,h5,h6⟩:=Yc (P:=E.P) (t:=t) (a:=⟨c,off,some g⟩) (x:=r) r4 r2 rfl rfl (DU.drop off r5) (H7 r6 _) (by
   simp only [bf,ht]
   rw [List.head?_drop]
   exact hc)
  exact ⟨v,fun _=>by simp only [CX,FH,h3,h5,Option.map_some],h6⟩
theorem Aa.a2b {t:TypeId} {a x:Operand} {b tag off:Nat} {e:TypeId} {cs:List PV} {r:PV} {i:TypeInfo} (ha:BG E.Γ L a=some (.Ec b tag off)) (hx:BG E.Γ L x=some r) (hb:hget H b=some (.Fj e cs tag)) (hn:MK r)
 (hi:E.P.info? t=some i) (hl:(FQ r).length=i.size) (h0:0<i.size) (hle:off+i.size≤cs.length) (q:Q (.EW []) (hput H b (.Fj e (BJ cs off (FQ r)) tag)) nx):Aa E true ⟨dst,.store t a x,ty,pos,af,gd⟩ L H nx Q:=by
 intro m F σ tt h1 h2
 obtain ⟨c,k,g,h3,h4⟩:=SS h1 h2 ha hb
 obtain ⟨h5,h6⟩:=IU hn (BX h1 h2 hx)
 obtain ⟨hlt,c',g',vs,r1,r2,r3,r4,r5,r6⟩:=h1.hp b _ hb
 rw [h4] at r1
 cases r1
 have hlen:=h5.length
 have hlen2:=r5.length
 have hst:IW E.P t ⟨c,off,some g⟩ (ev tt x) m=some (m.put c (.cells (splice vs off (ev tt x).cells.toList) e g false)):=by
  unfold IW EP
  rw [hi]
  simp only [r4]
  rw [if_pos (by simpa using hlen.symm.trans hl),if_pos]
  simp only [Jk,Option.getD_some,beq_self_eq_true,Bool.true_and,Bool.and_eq_true,decide_eq_true_eq]
  refine ⟨⟨?_,?_⟩,h6⟩
  ·rw [← hlen,hl,← hlen2];exact ⟨trivial,hle⟩
  ·rw [← hlen,hl];exact h0
 have hput':∀ d,c≠d→(m.put c (.cells (splice vs off (ev tt x).cells.toList) e g false)).get d=m.get d:=fun d hd=>by rw [Mem.get_put,if_neg hd]
 obtain ⟨c1,c2⟩:=h1.change (m':=m.put c (.cells (splice vs off (ev tt x).cells.toList) e g false)) (x':=.Fj e (BJ cs off (FQ r)) tag) (s':=σ b) hb (Nat.le_refl _) (fun _=>rfl) (Nat.le_refl _)
  (fun d _ hd=>hput' d fun e=>hd (by rw [h4,e];rfl)) (fun k k1 k2 k3=>by
   have:=k3 c (by rw [h4];rfl)
   simp only [Mem.put];omega) (fun d hd=>.inl hd) (by
   refine ⟨c,g,splice vs off (ev tt x).cells.toList,h4,r2,r3,by rw [Mem.get_put,if_pos rfl],?_,G6 _ r6 h6⟩
   refine (DU.splice off r5 h5).mono (fun d hd=>⟨hd,hput' d fun e=>r3 (e▸hd)⟩) (FD (x':=.Fj e (BJ cs off (FQ r)) tag) hb (Nat.le_refl _) fun _=>rfl) (Nat.le_refl _))
 refine Ik.op (v:=undef) (fun _=>?_) ⟨_,_,_,F,_,q,c1,.EW .nil,c2,fun h=>by cases h⟩
 simp only [CX,FH,h3,hst,Option.map_some]
end Go.Vm
namespace Go.Vm
open Go.Am
section
variable {E:Env} {L:Vm.Frame} {H:Vm.Heap} {nx:Nat} {Q:PV→Vm.Heap→Nat→Prop} {w:Bool} {dst:Option Tmp} {ty:TypeId} {pos:String} {af:Array Edge} {gd:Option (Nat×Bool)}
theorem Aa.VG {t:TypeId} {x:Operand} {f:Nat} {cs:List FV} {fs:Array Field} {fd:Field} {r:FV} (hx:BG E.Γ L x=some (.p (.agg cs))) (hu:E.P.underlying t=some (.struct fs)) (hf:fs[f]?=some fd) (h:TQ E.P fd.type (cs.drop fd.offset)=some r) (q:Q (.p r) H nx) :
 Aa E w ⟨dst,.field t x f,ty,pos,af,gd⟩ L H nx Q :=
 Aa.quiet q fun m F σ tt h1 h2=>by
  have hr:=BX h1 h2 hx
  generalize hv:ev tt x=v at hr
  cases hr with
  |p hr =>
   cases hr with
   |agg hr hcc =>
    rename_i l
    have hd:=DT.drop fd.offset hr
    have key:∃ u,EM E.P (part fd.type l.toArray fd.offset)=some u∧RF m F r u:=by
     unfold TQ at h
     unfold part
     simp only [Bf,Oy]
     cases ha:Gw E.P fd.type with
     |none=>rw [ha] at h;cases h
     |some b =>
      rw [ha] at h
      cases b with
      |true =>
       simp only at h
       cases hi:E.P.info? fd.type with
       |none=>rw [hi] at h;cases h
       |some i =>
        rw [hi] at h
        simp only [Option.map_eq_some_iff] at h
        obtain ⟨l',h3,rfl⟩:=h
        obtain ⟨ws,h4,h5⟩:=N8 hd h3
        simp only [Option.bind_some,if_true,Bf,G8,hi,Option.map_some]
        have e:l.toArray.extract fd.offset (fd.offset+i.size)=((l.drop fd.offset).take i.size).toArray:=by
         apply Array.ext'
         rw [Array.toList_extract]
         simp [List.extract_eq_take_drop]
        unfold takeN at h4
        split at h4
        case isFalse=>cases h4
        cases h4
        exact ⟨_,rfl,by rw [e];exact .agg h5 (I7 (H7 hcc _) _)⟩
      |false =>
       simp only [Option.bind_some,Bool.false_eq_true,if_false]
       simp only at h
       have h':cs[fd.offset]?=some r:=by rw [← h];simp
       obtain ⟨u,g1,g2⟩:=ZJ hr h'
       simp only [List.getElem?_toArray,g1]
       exact ⟨u,rfl,g2⟩
    obtain ⟨u,k1,k2⟩:=key
    refine ⟨u,fun _=>?_,.p k2⟩
    have hd:EM E.P (Instr.field t (.agg l.toArray) f)=some u:=by
     unfold Instr.field
     simp only [Bf,BR,hu,Option.bind_some,hf]
     rw [show EM E.P (asAgg (.agg l.toArray))=some l.toArray from rfl]
     exact k1
    simp only [CX,FH,hv,hd,Option.map_some]
theorem AL.gK (a k:Nat) (e:TypeId) {e':TypeId} {ds:List PV} {n':Nat} (ha:hget H a=some (.Fj e' ds n')) (hk:ds[k]?=some (.p (.val (.slice none 0 0)))) :
 AL E L H nx L (hput ((nx,.vec e [] 0 true)::H) a (.Fj e' (ds.set k (.vec nx 0 0 0)) n')) (nx+1):=fun B m F σ t h1 h2 h3=>by
 obtain ⟨c1,c2⟩:=VP e h1
 have hlt:=(h1.hp a _ ha).1
 have ha':hget ((nx,HB.vec e [] 0 true)::H) a=some (.Fj e' ds n'):=by rw [Cb,if_neg (by omega)];exact ha
 obtain ⟨_,c,g,vs,r1,r2,r3,r4,r5,r6⟩:=c1.hp a _ ha'
 obtain ⟨u,hu1,hu2⟩:=r5.get hk
 have hu:u=Dn:=by cases hu2 with|p h=>cases h;rfl
 subst hu
 obtain ⟨d1,d2⟩:=c1.change (m':=m) (b0:=a) (x':=.Fj e' (ds.set k (.vec nx 0 0 0)) n') (s':=upd σ nx Dn a) ha' (Nat.le_refl _) (fun _=>rfl) (Nat.le_refl _) (fun _ _ _=>rfl) (fun _ h _ _=>h) (fun c hc=>.inl hc) (by
  refine ⟨c,g,vs,r1,r2,r3,r4,?_,r6⟩
  have:vs=vs.set k Dn:=by
   apply List.ext_getElem?
   intro j
   rw [List.getElem?_set]
   by_cases e:k=j
   ·subst e
    rw [if_pos rfl,hu1]
    have:k<vs.length:=by
     rcases Nat.lt_or_ge k vs.length with h|h
     ·exact h
     ·rw [List.getElem?_eq_none h] at hu1;cases hu1
    rw [if_pos this]
   ·rw [if_neg e]
  rw [this]
  exact (r5.set k (YU e H nx)).mono (fun d hd=>⟨hd,rfl⟩) (FD (x':=.Fj e' (ds.set k (.vec nx 0 0 0)) n') ha' (Nat.le_refl _) fun _=>rfl) (Nat.le_refl _))
 have hσ:upd (upd σ nx Dn) a (upd σ nx Dn a)=upd σ nx Dn:=by
  funext x
  by_cases e:x=a
  ·rw [e,upd_same]
  ·rw [C9 _ _ e]
 rw [hσ] at d1 d2
 exact ⟨_,_,d1,(h2.step c2 h1).step d2 c1,(h3.trans c2).trans d2⟩
theorem AL.a3m (b:Nat) {n:Nat} {e:TypeId} {cs:List FV} (cs':List FV) {z:Bool} (hb:hget H b=some (.vec e cs n z)) (h:Bl cs cs'):AL E L H nx L (hput H b (.vec e cs' n z)) nx:=fun B m F σ t h1 h2 h3=>by
 have hr:=RB.le (Bv.vec (n:=n) (z:=z) (e:=e) h rfl) (h1.hp b _ hb).2
 obtain ⟨d1,d2⟩:=h1.change (m':=m) (b0:=b) (x':=.vec e cs' n z) (s':=σ b) hb (UU.refl _) (fun _=>rfl) (Nat.le_refl _) (fun _ _ _=>rfl) (fun _ h _ _=>h) (fun c hc=>.inl hc) hr
 exact ⟨F,_,d1,h2.step d2 h1,h3.trans d2⟩
theorem Aa.zG {t t2:TypeId} {x y:Operand} {a b r:Bool} (hx:BG E.Γ L x=some (.p (.bool a))) (hy:BG E.Γ L y=some (.p (.bool b))) (ht:E.P.underlying t=some .bool) (hr:(a != b)=r) (q:Q (.p (.bool r)) H nx) :
 Aa E w ⟨dst,.binOp .neq t x y t2,ty,pos,af,gd⟩ L H nx Q:=Aa.neB hx hy ht (by rw [hr];exact q)
theorem Aa.mY {fo:Operand} {args:Array Operand} {aT:Array TypeId} {g:FuncId} {fs cs aa ac:List PV} {Hc:Heap} {Qc:PV→Heap→Nat→Prop} (ns:List Nat) (hc:BF E g ac Hc ns.length Qc)
 (hf:BG E.Γ L fo=some (.clo g fs cs)) (ha:evs E.Γ L args.toList=some aa) (hle:PE (fs++aa++cs) (AZ.rn (rho ns nx) ac)) (hu:AZ.under ns.length ac) (zJ:NI ns.length Hc) (hin:HIn (rho ns nx) H Hc) (hnd:ns.Nodup) (hlt:∀ b∈ns,b<nx)
 (hq:∀ r H' nx',Qc r H' nx'→Q (r.rn (rho ns nx)) (news ns.length (rho ns nx) H' (merge ns (rho ns nx) H' H)) (nx+(nx'-ns.length))) :
 Aa E true ⟨dst,.call { callee:=.value fo,args:=args,argTypes:=aT },ty,pos,af,gd⟩ L H nx Q:=Aa.wX hf ha hle hu zJ hin hnd hlt (fun h=>by cases h) hc hq
theorem AL.wO (d j:Nat) {b n k:Nat} {e:TypeId} {cs:List FV} {z:Bool} (hd:GV L d=some (.vec b n 0 k)) (hb:hget H b=some (.vec e cs n z)) (hn:0<n) (hj:j≤cs.length) :
 AL E L H nx ((d,.p (.lst e (cs.take j) k))::L) (hdel H b) nx:=fun B m F σ t h1 h2 h3=>by
 obtain ⟨c1,c2⟩:=mQ h1 hb
 refine ⟨_,σ,c1,fun i v hi=>?_,h3.trans c2⟩
 rw [Gm] at hi
 by_cases ei:d=i
 ·rw [if_pos ei] at hi;cases hi
  have:=h2 d _ hd
  subst ei
  generalize Ea t d=u at this
  cases this with
  |vec hb' hc h =>
   have hsub:=(h n (by simp [htag,hb,HB.tag])).2 rfl
   obtain ⟨_,hr⟩:=h1.hp b _ hb
   rcases hr with ⟨r1,r2,r3⟩|⟨c,g,vs,r1,r2,r3,r4,r5,r6,r7⟩
   ·omega
   ·rw [r1] at hsub
    simp only [EH] at hsub
    subst hsub
    refine .p (.lst (.inr (by rw [r1];rfl)) r4 (ws:=vs.take j) ?_ ((DT.take j r5).mono fun d hd=>⟨.inl hd,rfl⟩) (I7 r6 _))
    have:=r5.length
    rw [List.drop_zero,List.length_take,Nat.min_eq_left hj]
    unfold takeN
    rw [if_pos (by omega)]
 ·rw [if_neg ei] at hi
  exact (h2 i v hi).step c2 h1
end
end Go.Vm
namespace Go.Tra
open Go Go.Am Go.Vm
theorem dA {ns:List Nat} {p:Q8}:∀ {n:Nat},p∈Lj ns n→p.d<n∧p.s<gi ns p.d
 |0,h=>by cases h
 |n+1,h=>by
  have e0:Lj ns (n+1)=Lj ns n++(List.range (gi ns n)).map fun s=>⟨n,s⟩:=rfl
  rw [e0,List.mem_append] at h
  rcases h with h|h
  ·have:=dA h;omega
  ·obtain ⟨s,h1,rfl⟩:=List.mem_map.1 h
   exact ⟨Nat.lt_succ_self _,List.mem_range.1 h1⟩
end Go.Tra
namespace Go.Proofs.YtdabojnmoejilaaGreatDoor
open Go Go.Am Go.Vm Go.Tra
attribute [local irreducible] Aa Af Aq Ad BF AX Ci AU AO Aw Vm.Done CS Bq
attribute [local irreducible] DW DN Je Kz QO Dc
structure U2 where
 Ep:Int
 J5:Int
 Dx:Int
 miss:Int
instance:Enc U2:={ default:=⟨0,0,0,0⟩,enc:=fun x=>[.int .i64 x.Ep,.int .i64 x.J5,.int .i64 x.Dx,.int .i64 x.miss],size:=4,len:=fun _=>rfl }
structure P5 where
 Df:D7
 reg:Rgs
 tgt:D7
 IE:U2
def P5.enc (q:P5):List FV:=[.str (bs q.Df.name),.lst 131 (cells q.Df.ranks) q.Df.ranks.length,.lst 97 (cells q.Df.Ah) q.Df.Ah.length,.lst 147 (cells q.Df.CZ) q.Df.CZ.length,
 .lst 39 (cells q.reg.stops) q.reg.stops.length,.int .u64 (q.reg.cp:Int),.int .u64 (q.reg.off:Int),.str (bs q.tgt.name),.lst 131 (cells q.tgt.ranks) q.tgt.ranks.length,.lst 97 (cells q.tgt.Ah) q.tgt.Ah.length,.lst 147 (cells q.tgt.CZ) q.tgt.CZ.length,
 .int .i64 q.IE.Ep,.int .i64 q.IE.J5,.int .i64 q.IE.Dx,.int .i64 q.IE.miss]
instance:Enc P5:={ default:=⟨default,default,default,default⟩,enc:=P5.enc,size:=15,len:=fun _=>rfl }
def Ru (o:D7):List Nat:=o.Ah.map fun d=>d.stops.length
theorem QK (o:D7):(Ru o).length=o.Ah.length:=by simp [Ru]
theorem Zd (o:D7) {d:Nat} (h:d<o.Ah.length):gi (Ru o) d=(gi o.Ah d).stops.length:=by
 simp [Ru,gi,List.getElem?_eq_getElem h]
def Dj (o:D7):List Q8:=Lj (Ru o) (Ru o).length
def Jr (o:D7) (p:Q8):Prop:=p.d<o.Ah.length∧p.s<(gi o.Ah p.d).stops.length
theorem bZ {o:D7} {p:Q8} (h:p∈Dj o):Jr o p:=by
 obtain ⟨h1,h2⟩:=dA h
 rw [QK] at h1
 rw [Zd o h1] at h2
 exact ⟨h1,h2⟩
theorem iO {α:Type} [Inhabited α] {l:List α} {i:Nat} (h:i<l.length):gi l i∈l:=by
 unfold gi;rw [List.getElem?_eq_getElem h];exact List.getElem_mem h
theorem Ve {o:D7} {i:Nat} (h:i<(Dj o).length):Jr o (gi (Dj o) i):=bZ (iO h)
def Ih (o:D7) (p:Q8):Stp:=gi (gi o.Ah p.d).stops p.s
def X4 (o:D7) (p:Q8):List UInt8:=mg o.ranks (Ih o p)
def Gh (r:Rgs) (p:Q8):Bool:=gi r.stops p.d / 2 ^ p.s % 2==1
def Ce (o:D7) (r:Rgs):List Q8:=(Dj o).filter (Gh r)
theorem Yl {o:D7} {r:Rgs} {p:Q8} (h:p∈Ce o r):Jr o p:=bZ (List.mem_filter.1 h).1
theorem Yy {rk:List Fh} {lo hi:Int} {l:List Stp}:∀ (n k:Nat),l.length-k=n→Nj rk lo hi l k=0→∀ i,k≤i→i<l.length→Je rk lo hi (gi l i)=0
 |0,k,h,_,i,h1,h2=>by omega
 |n+1,k,h,h0,i,h1,h2=>by
  rw [Nj,if_pos (by omega)] at h0
  split at h0
  ·rename_i h3;exact absurd h0 h3
  rename_i h3
  split at h0
  ·exact absurd h0 (by decide)
  rcases Nat.lt_or_ge k i with h4|h4
  ·exact Yy n (k+1) (by omega) h0 i h4 h2
  ·obtain rfl:k=i:=by omega
   exact Decidable.byContradiction fun h5=>h3 h5
theorem rU {rk:List Fh} {d:Ld} (h:Kz rk d=0):∀ i,i<d.stops.length→Je rk d.lo d.hi (gi d.stops i)=0:=by
 unfold Kz at h
 split at h
 ·rename_i h1;exact absurd h h1
 split at h
 ·exact absurd h (by decide)
 exact fun i hi=>Yy _ 0 rfl h i (Nat.zero_le _) hi
theorem KU.dvs {o:D7} (h:KU o):Gt o.ranks o.Ah 0=0:=by
 have h0:=h.err
 unfold Jy at h0
 split at h0
 ·exact absurd h0 (by decide)
 split at h0
 ·exact absurd h0 (by decide)
 split at h0
 ·rename_i h1;exact absurd h0 h1
 split at h0
 ·exact absurd h0 (by decide)
 split at h0
 ·exact absurd h0 (by decide)
 split at h0
 ·rename_i h1;exact absurd h0 h1
 rename_i d3
 exact Decidable.byContradiction d3
theorem KU.sto {o:D7} (h:KU o) {p:Q8} (hp:Jr o p):a4q o.ranks (Ih o p) :=
 a7i (rU (SV _ 0 rfl h.dvs p.d (Nat.zero_le _) hp.1) p.s hp.2)
theorem PS (o:D7) (ho:KU o) (p:Q8) (hp:Jr o p):AX env 82 [.agg (Enc.enc o),.agg (Enc.enc p)] (.p (.agg (Enc.enc (Ih o p)))):=by
 obtain ⟨h1,h2⟩:=hp
 have d1:=ho.Ah
 have s1:=ho.stops p.d h1
 refine AX.enter (AB (by decide)) Tryz.func82 rfl (by kernel_rfl) (by simp [Tryz.ntmps82]) ?_
 repeat' (first|apply Ad.AA|apply Ad.Bj|apply Ad.ret|apply Af.nil|apply Aq.nil|apply Af.one|(apply Aq.bar;decide +kernel)|apply Aq.quiet|(apply Aa.Ba (l:=o.Ah) (i:=p.d);rfl;rfl;rfl;exact h1;rfl)|(apply Aa.Ba (l:=(gi o.Ah p.d).stops) (i:=p.s);rfl;rfl;rfl;exact h2;rfl)|(apply Aa.load;rfl;rfl)|(apply Aa.AV;rfl;rfl;rfl)|(apply Aa.Fa;rfl;rfl)|(apply Aa.box;rfl;trivial)|(apply Aa.alloc;rfl)|(apply Aa.Bd;rfl;rfl;rfl;trivial;rfl;rfl;exact Aj rfl;exact le_dec rfl))
 all_goals first|(exfalso;omega)|(refine Done.ret rfl (.refl _) (by exact PV.Ac rfl) Ak.nil (Nat.zero_le _) (Nat.le_refl _) ⟨?_,rfl,rfl⟩;try rfl)
theorem V7 (o:D7) (ho:KU o) (p:Q8) (hp:Jr o p):AX env 54 [.agg (Enc.enc o),.agg (Enc.enc p)] (st (X4 o p)):=by
 have hst:=PS o ho p hp
 obtain ⟨g1,g2⟩:=ho.sto hp
 unfold X4
 generalize Ih o p=s at *
 have b1:=ho.sm.ranks
 refine AX.enter (AB (by decide)) Tryz.func54 rfl (by kernel_rfl) (by simp [Tryz.ntmps54]) ?_
 repeat' (first|apply Ad.assoc|apply Ad.AA|apply Ad.Ai|apply Af.nil|apply Af.one|(apply Aa.fn;rfl;rfl;exact hst;intro _;rfl)|(apply Aa.VG;rfl;rfl;rfl;rfl)|(apply Aa.assign;rfl)|(apply Aa.move;rfl)|(apply Aa.load;rfl;rfl)|(apply Aa.BQ;rfl;rfl)|(apply Aa.box;rfl;trivial))
 all_goals try (exfalso;omega)
 apply Ad.H8 (s.Ej.length) (fun k=>TU o.ranks s s.Ej.length (s.Ej.length-k)=mg o.ranks s) [(2,_),(10,_),(11,_)] [(0,_)] (fun k r=>(12,.p (.int .i64 (k:Int)))::r) (fun k r=>r) 2
 ·first|omega|decide
 ·first|omega|decide
 ·repeat (first|exact Ap.nil|(refine Ap.eq rfl ?_ ?_;(first|exact PV.Ac rfl|(simp [PV.under,AZ.under];done)))|refine Ap.cons trivial rfl (.of_eq (Au (by simp<;>omega))) ?_)
 ·repeat (first|exact Ak.nil|(refine Ak.eq rfl (Aj rfl) ?_ ?_;(first|exact HB.Ac rfl|exact AZ.Ag _ _|(simp [HB.under,AZ.under,PV.under];done)))|(refine Ak.cons (Aj rfl) ?_ rfl ?_ ?_;(first|exact trivial|exact AZ.Ag _ _|(simp [HB.under,AZ.under,PV.under]));(first|exact Bv.refl _|exact Bv.vec (Bl.refl _) (by simp))))
 ·first|(intro _ _;omega)|omega|trivial
 ·intro k hk hi
  obtain ⟨g3,g4⟩:=g2 k hk
  by_cases h0:(gi s.Ej k).draws.length=0
  ·repeat' (first|apply Ad.AA|apply Ad.region|apply Ad.Ar|apply Ad.Ai|apply AU.normal|apply AO.normal|apply Ad.skip|apply Af.nil|apply Af.one|(apply Aa.move;rfl)|(apply Aa.Bz;rfl;rfl;omega)|(apply Aa.int;rfl;rfl;rfl)|(apply Aa.Ba;rfl;rfl;rfl;omega;rfl)|(apply Aa.load;rfl;rfl)|(apply Aa.BQ;rfl;rfl)|(apply Aa.AV;rfl;rfl;rfl)|(apply Aa.alloc;rfl)|(apply Aa.Bd;rfl;rfl;rfl;trivial;rfl;rfl;exact Aj rfl;exact le_dec rfl)|(apply Ad.Ae;rfl)|(apply Ad.AY;rfl)|(intro _;try (exfalso;omega)))
   all_goals try (exfalso;omega)
   refine Aw.normal ⟨((jF hk h0).symm.trans hi),by first|omega|decide,?_,?_⟩
   ·repeat (first|exact Ap.nil|refine Ap.same (by exact PV.Ac rfl) rfl ?_|refine Ap.cons trivial rfl (.of_eq (Au (by simp<;>omega))) ?_)
   ·repeat (first|exact Ak.nil|(refine Ak.cons (Aj rfl) ?_ rfl ?_ ?_;(first|exact HB.Ac rfl|exact AZ.Ag _ _|(simp [HB.under,AZ.under,PV.under]));(first|exact Bv.refl _|exact Bv.vec (Bl.refl _) (by simp))))
  ·have g5:=g4 0 (by omega)
   obtain ⟨rn,hrn⟩:∃ rn:Nat,(gi (gi s.Ej k).draws 0).rank=rn:=⟨_,(Int.toNat_of_nonneg g5.1).symm⟩
   have h1:mg o.ranks s=(gi o.ranks rn).Ep:=by
    rw [← hi,oU hk (by omega),hrn];rfl
   rw [h1]
   repeat' (first|apply Ad.AA|apply Ad.Bj|apply Ad.Ar|apply Ad.Ai|apply AU.ret|apply AO.ret|apply Aw.ret|apply Ad.ret|apply Af.nil|apply Aq.nil|apply Af.one|(apply Aq.bar;decide +kernel)|apply Aq.quiet|(apply Aa.Ba (l:=o.ranks) (i:=rn);rfl;(first|exact congrArg (fun a=>some (PV.p (.int .i64 a))) hrn|rfl);rfl;omega;rfl)|(apply Aa.assign;rfl)|(apply Aa.int;rfl;rfl;rfl)|(apply Aa.Ba;rfl;rfl;rfl;omega;rfl)|(apply Aa.Ze;rfl;rfl;rfl;omega;omega;rfl)|(apply Aa.load;rfl;rfl)|(apply Aa.BQ;rfl;rfl)|(apply Aa.AV;rfl;rfl;rfl)|(apply Aa.Fa;rfl;rfl)|(apply Aa.alloc;rfl)|(apply Aa.Bd;rfl;rfl;rfl;trivial;rfl;rfl;exact Aj rfl;exact le_dec rfl)|(apply Ad.Ae;rfl)|(apply Ad.AY;rfl)|(intro _;try (exfalso;omega)))
   all_goals first|(exfalso;omega)|(refine Done.ret rfl (.refl _) (by exact PV.Ac rfl) Ak.nil (Nat.zero_le _) (Nat.le_refl _) ⟨?_,rfl,rfl⟩;try rfl)
 ·intro hi
  have h1:mg o.ranks s=[]:=by rw [← hi,Nat.sub_self];rfl
  rw [h1]
  repeat' (first|apply Ad.AA|apply Ad.A8|apply AU.normal|apply AO.exit|apply Aw.exit|apply Ad.ret|apply Af.nil|apply Af.one|(apply Aa.assign;rfl)|(apply Aa.int;rfl;rfl;rfl)|(apply Ad.Ae;rfl)|(intro _;try (exfalso;omega)))
  all_goals first|(exfalso;omega)|(refine Done.ret rfl (.refl _) (by exact PV.Ac rfl) Ak.nil (Nat.zero_le _) (Nat.le_refl _) ⟨?_,rfl,rfl⟩;try rfl)
end Go.Proofs.YtdabojnmoejilaaGreatDoor
namespace Go.Vm
open Go.Am
variable {E:Env} {L:Frame} {H:Heap} {nx:Nat} {Q:PV→Heap→Nat→Prop} {w:Bool}
variable {dst:Option Tmp} {ty:TypeId} {pos:String} {af:Array Edge} {gd:Option (Nat×Bool)}
theorem Aa.Zq {t:TypeId} {x:Operand} {lo hi:Option Operand} {e:TypeId} {cs:List FV} {b n off len a c sz:Nat} {z:Bool} {inf:TypeInfo} (hx:BG E.Γ L x=some (.vec b n off len)) (hb:hget H b=some (.vec e cs n z)) (hn:0<n) (ht:E.P.underlying t=some (.slice e)) (hi':E.P.info? e=some inf) (hsz:inf.size=sz)
 (hlo:match lo with|none=>a=0|some o=>∃ k,BG E.Γ L o=some (.p (.int k (a:Int)))) (hhi:match hi with|none=>c=len|some o=>∃ k,BG E.Γ L o=some (.p (.int k (c:Int)))) (hac:a≤c) (hcl:c≤len)
 (q:Q (.vec b n (off+a*sz) (c-a)) H nx):Aa E w ⟨dst,.slice t x lo hi none,ty,pos,af,gd⟩ L H nx Q :=
 Aa.quiet q fun m F σ tt h1 h2=>by
  have uD:bnd 0 (lo.map (ev tt))=some a:=by
   cases lo with
   |none=>simp only at hlo;rw [hlo];rfl
   |some o =>
    obtain ⟨k,hk⟩:=hlo
    simp only [Option.map_some,Dh h1 h2 hk,bnd]
    rw [if_pos (by omega)];simp
  have uy:bnd len (hi.map (ev tt))=some c:=by
   cases hi with
   |none=>simp only at hhi;rw [hhi];rfl
   |some o =>
    obtain ⟨k,hk⟩:=hhi
    simp only [Option.map_some,Dh h1 h2 hk,bnd]
    rw [if_pos (by omega)];simp
  have hsub:=GX h1 h2 hx hb
  obtain ⟨hlt,hr⟩:=h1.hp b _ hb
  rcases hr with ⟨r1,r2,r3⟩|⟨d,g,vs,r1,r2,r3,r4,r5,r6,r7⟩
  ·omega
  rw [r1] at hsub
  simp only [EH] at hsub
  refine ⟨.slice (some ⟨d,off+a*sz,none⟩) (c-a) g,fun _=>?_,.vec hlt rfl fun j hj=>?_⟩
  ·simp only [CX,FH,hsub,aslice,Option.isSome_none,Option.map_none,Bool.false_and,Bool.false_eq_true,if_false,ht,hi',uD,uy,r4,hac,hcl,r2,and_self,if_true,Option.map_some,hsz]
  ·simp only [htag,hb,HB.tag,Option.map_some,Option.some.injEq,Tg.vec.injEq] at hj
   refine ⟨by omega,fun _=>?_⟩
   rw [r1];rfl
theorem X8 {m:Mem} {F:Nat→Prop} {σ:Nat→Value} {b n off c g:Nat} {e:TypeId} {cs fs:List FV} {vs l:List Value} {z:Bool} (h1:Ctx E.Γ m F σ H nx) (hb:hget H b=some (.vec e cs n z)) (hn:0<n) (h4:σ b=.slice (some ⟨c,0,none⟩) n g) (r2:c<m.size) (r3:¬ F c) (r4:m.get c=.cells vs e g false) (r5:DT m F cs vs) (r6:vs.all BU=true)
 (hl:DT m F fs l) (hc:l.all BU=true) :
 Ctx E.Γ (m.put c (.cells (splice vs off l) e g false)) F (upd σ b (σ b)) (hput H b (.vec e (BJ cs off fs) n z)) nx∧Step m F σ H nx (m.put c (.cells (splice vs off l) e g false)) F (upd σ b (σ b)) (hput H b (.vec e (BJ cs off fs) n z)) nx:=by
 have hput':∀ d,c≠d→(m.put c (.cells (splice vs off l) e g false)).get d=m.get d:=fun d hd=>by rw [Mem.get_put,if_neg hd]
 exact h1.change (m':=m.put c (.cells (splice vs off l) e g false)) (x':=.vec e (BJ cs off fs) n z) (s':=σ b) hb (Nat.le_refl _) (fun _=>rfl) (Nat.le_refl _)
  (fun d _ hd=>hput' d fun e=>hd (by rw [h4,e];rfl)) (fun k k1 k2 k3=>by
   have:=k3 c (by rw [h4];rfl)
   simp only [Mem.put];omega) (fun d hd=>.inl hd) (by
   refine .inr ⟨c,g,splice vs off l,h4,r2,r3,by rw [Mem.get_put,if_pos rfl],?_,G6 _ r6 hc,fun h=>by omega⟩
   exact (DT.splice off r5 hl).mono (fun d hd=>⟨hd,hput' d fun e=>r3 (e▸hd)⟩))
def SlT (Γ:Nat→Option (List Value×TypeId)) (L:Frame) (H:Heap) (nx:Nat) (x:Operand) (sz n:Nat) (xs:List FV) (k:Nat):Prop :=
 ∀ m F σ t,Ctx Γ m F σ H nx→RL m F (htag H) σ nx L t→lenOf (ev t x)=some n∧∃ l,Cj m sz k (ev t x)=some l∧DT m F xs l∧l.all BU=true
theorem SlT.lst {Γ:Nat→Option (List Value×TypeId)} {x:Operand} {e:TypeId} {sz n k:Nat} {xs ys:List FV} (h:BG Γ L x=some (.p (.lst e xs n))) (hl:xs.length=n*sz) (hk:k≤n) (hy:ys=xs.take (k*sz)):SlT Γ L H nx x sz n ys k:=fun m F σ t h1 h2=>by
 subst hy
 have:=BX h1 h2 h
 generalize ev t x=v at this
 cases this with
 |p h =>
  cases h with
  |nil=>obtain rfl:k=0:=by omega
        exact ⟨rfl,[],rfl,by rw [Nat.zero_mul,List.take_zero];exact .nil,rfl⟩
  |room=>obtain rfl:k=0:=by omega
         exact ⟨rfl,[],rfl,by rw [Nat.zero_mul,List.take_zero];exact .nil,rfl⟩
  |lst hF hm hw hr hc =>
   rename_i b o g vs ws ro
   refine ⟨rfl,ws.take (k*sz),?_,DT.take _ hr,I7 hc _⟩
   have h3:=WI (k:=k*sz) hw
   rw [hl,Nat.min_eq_left (Nat.mul_le_mul_right sz hk)] at h3
   simp only [Cj,if_pos hk,Mem.D8,hm]
   simp only [Jk,Option.getD_some,if_true]
   exact h3
theorem SlT.vec {Γ:Nat→Option (List Value×TypeId)} {x:Operand} {b n off len sz k:Nat} {e:TypeId} {cs ys:List FV} {z:Bool} (h:BG Γ L x=some (.vec b n off len)) (hb:hget H b=some (.vec e cs n z)) (hn:0<n) (hl:off+len*sz≤cs.length) (hk:k≤len) (hy:ys=(cs.drop off).take (k*sz)) :
 SlT Γ L H nx x sz len ys k:=fun m F σ t h1 h2=>by
 subst hy
 have hsub:=GX h1 h2 h hb
 obtain ⟨_,hr⟩:=h1.hp b _ hb
 rcases hr with ⟨r1,r2,r3⟩|⟨c,g,vs,r1,r2,r3,r4,r5,r6,r7⟩
 ·omega
 ·rw [r1] at hsub
  simp only [EH] at hsub
  rw [hsub]
  have hlen:=r5.length
  have h0:=Nat.mul_le_mul_right sz hk
  have hle:k*sz≤(vs.drop off).length:=by rw [List.length_drop];omega
  refine ⟨rfl,(vs.drop off).take (k*sz),?_,DT.take _ (DT.drop off r5),I7 (H7 r6 _) _⟩
  simp only [Cj,if_pos hk,Mem.D8,r4]
  simp only [Jk,Option.getD_some,if_true,takeN,if_pos hle]
theorem Aa.copy {d x:Operand} {dT xT e:TypeId} {i:TypeInfo} {b n off len k N:Nat} {cs xs:List FV} {z:Bool} (hd:BG E.Γ L d=some (.vec b n off len)) (hb:hget H b=some (.vec e cs n z)) (hn:0<n)
 (hdT:E.P.underlying dT=some (.slice e)) (hi:E.P.info? e=some i) (hsz:0<i.size) (hx:SlT E.Γ L H nx x i.size N xs k) (hk:k=min N len) (h0:0<k) (hxs:xs.length=k*i.size) (hl:off+k*i.size≤cs.length) (q:Q (.p (.int .i64 (k:Int))) (hput H b (.vec e (BJ cs off xs) n z)) nx) :
 Aa E true ⟨dst,.call { callee:=.builtin .copy,args:=#[d,x],argTypes:=#[dT,xT] },ty,pos,af,gd⟩ L H nx Q:=by
 intro m F σ t h1 h2
 have hsub:=GX h1 h2 hd hb
 obtain ⟨hx1,l,hx2,hx3,hx4⟩:=hx m F σ t h1 h2
 obtain ⟨hlt,hr⟩:=h1.hp b _ hb
 rcases hr with ⟨r1,r2,r3⟩|⟨c,g,vs,r1,r2,r3,r4,r5,r6,r7⟩
 ·omega
 rw [r1] at hsub
 simp only [EH] at hsub
 have hlen:=hx3.length
 have hlen2:=r5.length
 obtain ⟨d1,d2⟩:=X8 (E:=E) (off:=off) h1 hb hn r1 r2 r3 r4 r5 r6 hx3 hx4
 refine Ik.op (v:=.int .i64 (k:Int)) (m':=m.put c (.cells (splice vs off l) e g false)) (fun _=>?_) ⟨_,_,_,F,_,q,d1,.p (.int _ _),d2,fun h=>by cases h⟩
 have hk2:(k:Nat)=Nat.min N len:=hk
 have hp:=Nat.mul_pos h0 hsz
 simp only [CX,FH,XH,List.map_toArray,List.map_cons,List.map_nil,List.getElem?_toArray,List.getElem?_cons_zero,List.getElem?_cons_succ,hsub,hdT,hx1,hi]
 rw [← hk2,if_neg (by omega),hx2]
 simp only [EP,r4,Jk,Option.getD_some,beq_self_eq_true,Bool.true_and]
 rw [if_pos (by simp only [Bool.and_eq_true,decide_eq_true_eq];exact ⟨⟨by rw [← hlen,hxs,← hlen2];exact ⟨trivial,hl⟩,by rw [← hlen,hxs];exact hp⟩,hx4⟩)]
 rfl
theorem Aa.clear {d:Operand} {dT e:TypeId} {i:TypeInfo} {b n off len:Nat} {cs:List FV} {z:Bool} {zs:List Value} (hd:BG E.Γ L d=some (.vec b n off len)) (hb:hget H b=some (.vec e cs n z)) (hn:0<n) (h0:0<len)
 (hdT:E.P.underlying dT=some (.slice e)) (hi:E.P.info? e=some i) (hz:Cm E.P e=some zs) (hzl:zs.length=i.size∧0<i.size) (hl:off+len*i.size≤cs.length) (q:Q (.EW []) (hput H b (.vec e (BJ cs off ((Bg zs len).map F9)) n z)) nx) :
 Aa E true ⟨none,.call { callee:=.builtin .clear,args:=#[d],argTypes:=#[dT] },ty,pos,af,gd⟩ L H nx Q:=by
 intro m F σ t h1 h2
 have hsub:=GX h1 h2 hd hb
 obtain ⟨hlt,hr⟩:=h1.hp b _ hb
 rcases hr with ⟨r1,r2,r3⟩|⟨c,g,vs,r1,r2,r3,r4,r5,r6,r7⟩
 ·omega
 rw [r1] at hsub
 simp only [EH] at hsub
 have hpl:zs.all Am.plainCell=true:=by
  obtain ⟨_,zv,_,_,_,h⟩:=BN hz
  exact h
 have hx3:DT m F ((Bg zs len).map F9) (Bg zs len):=Hz (IQ hpl len)
 have hx4:(Bg zs len).all BU=true:=Dw (IQ hpl len)
 have hlen2:=r5.length
 have hrl:=Ey zs len
 rw [hzl.1] at hrl
 obtain ⟨d1,d2⟩:=X8 (E:=E) (off:=off) h1 hb hn r1 r2 r3 r4 r5 r6 hx3 hx4
 refine Ik.op (v:=.tuple #[]) (m':=m.put c (.cells (splice vs off (Bg zs len)) e g false)) (fun _=>?_) ⟨_,_,_,F,_,q,d1,.EW .nil,d2,fun h=>by cases h⟩
 have hp:=Nat.mul_pos h0 hzl.2
 simp only [CX,FH,SX,List.map_toArray,List.map_cons,List.map_nil,List.getElem?_toArray,List.getElem?_cons_zero,hsub,hdT,hi,hz]
 rw [if_neg (by omega),if_pos hzl]
 simp only [EP,r4,Jk,Option.getD_some,beq_self_eq_true,Bool.true_and]
 rw [if_pos (by simp only [Bool.and_eq_true,decide_eq_true_eq];exact ⟨⟨by rw [hrl,← hlen2];exact ⟨trivial,hl⟩,by rw [hrl];exact hp⟩,hx4⟩)]
 rfl
def Ot:Code→Option Nat
 | .region n _ _=>some n
 | .seq a b=>match Ot a with
  |some n=>some n
  |none=>Ot b
 | .block _ b=>Ot b
 | .loop b=>Ot b
 | .scope b=>Ot b
 |_=>none
def KR (r:Nat):Code→Option Code
 | .loop b=>match Ot b with
  |some n=>match Nat.beq n r with
   |true=>some (.loop b)
   |false=>KR r b
  |none=>KR r b
 | .seq a b=>match KR r a with
  |some c=>some c
  |none=>KR r b
 | .cond _ a b=>match KR r a with
  |some c=>some c
  |none=>KR r b
 | .block _ b=>KR r b
 | .scope b=>KR r b
 | .rangeFunc _ _ _ b=>KR r b
 |_=>none
def ZC (fn:Func) (r:Nat):Code:=match fn.body with
 |some c=>match KR r c with
  |some c=>c
  |none=>.skip
 |none=>.skip
theorem Ad.blk {bn:Nat} {Q:CO→Frame→Heap→Nat→Prop} {c:Code} {Li Lo:Frame} {Hi Ho:Heap} {D6:Nat} {e0:CO} (h:Ad E bn c Li Hi D6 (fun e L' H' nx'=>e=e0∧WS L' H' nx' Lo Ho D6)) (hb:bn≤D6) (hn:D6≤nx) (h1:Ap D6 Li L) (h2:Ak D6 Hi H) (q:Q e0 Lo Ho D6):Ad E bn c L H nx Q:=by
 refine Ad.weaken hb ⟨hn,h1,h2⟩ ?_
 intro B hB m F σ t h1 h2 h3
 refine (h B hB m F σ t h1 h2 h3).mono ?_
 rintro e s ⟨L',H',nx',F',σ',⟨rfl,hcov⟩,c1,c2,c3⟩
 exact ⟨Lo,Ho,D6,F',σ',q,hcov.ctx c1,hcov.rl c2,hcov.step (by omega) c3⟩
theorem Wi {α:Type}:∀ (r cs:List α) (o:Nat),o+r.length≤cs.length→BJ cs o r=cs.take o++r++cs.drop (o+r.length)
 |[],cs,o,h=>by simp [BJ]
 |a::r,cs,o,h=>by
  simp only [List.length_cons] at h
  have ih:=Wi r (cs.set o a) (o+1) (by simp;omega)
  simp only [BJ]
  rw [ih]
  have e1:(cs.set o a).take (o+1)=cs.take o++[a]:=by
   rw [List.take_succ_eq_append_getElem (by simp;omega)]
   rw [List.take_set_of_le (by omega)]
   simp
  have e2:(cs.set o a).drop (o+1+r.length)=cs.drop (o+(r.length+1)):=by
   rw [List.drop_set_of_lt (by omega)]
   congr 1
   omega
  rw [e1,e2]
  simp [Nat.add_assoc]
theorem QF {α:Type} [Enc α] (l r:List α) (i:Nat) (h:i+r.length≤l.length):BJ (cells l) (i*Enc.size α) (cells r)=cells (l.take i++r++l.drop (i+r.length)):=by
 rw [Wi _ _ _ (by rw [BK,BK,← Nat.add_mul];exact Nat.mul_le_mul_right _ h),BK,← Nat.add_mul,Ku,cells_drop',← En,← En]
end Go.Vm
namespace Go.Proofs.YtdabojnmoejilaaGreatDoor
open Go Go.Am Go.Vm Go.Tra
attribute [local irreducible] Aa Af Aq Ad BF AX Ci AU AO Aw Vm.Done CS Bq
attribute [local irreducible] DW DN Je Kz QO Dc
theorem tN {m:Mem} {F:Nat→Prop} {l:List Ld} {vs ws:List Value} {off:Nat} (hw:takeN (cells l).length (vs.drop off)=some ws) (hr:DT m F (cells l) ws) (hs:∀ d,d<l.length→(gi l d).stops.length<1000000):∀ n,n≤l.length→TF vs off n=some ((l.take n).map fun d=>d.stops.length)
 |0,_=>rfl
 |n+1,hn=>by
  have ih:=tN hw hr hs n (by omega)
  have hd:=DT.drop (n*Enc.size Ld) hr
  rw [Me l n (by omega)] at hd
  have hlen:=hr.length
  have e5:Enc.size Ld=5:=rfl
  rw [e5] at hd
  have hws:∀ j,j<5→vs[off+n*5+j]?=(ws.drop (n*5))[j]?:=fun j hj=>by
   unfold takeN at hw
   split at hw
   case isFalse=>cases hw
   cases hw
   rw [List.getElem?_drop,List.getElem?_take,if_pos (by rw [BK,e5];omega),List.getElem?_drop]
   congr 1;omega
  generalize ws.drop (n*5)=us at hd hws
  have hn9:=hs n (by omega)
  have ee:Enc.enc (gi l n)=[.str (bs (gi l n).name),.bool (gi l n).Dx,.int .i64 (gi l n).lo,.int .i64 (gi l n).hi,.lst 122 (cells (gi l n).stops) (gi l n).stops.length]:=rfl
  rw [ee] at hd
  cases hd with|cons a0 t =>
  cases t with|cons a1 t =>
  cases t with|cons a2 t =>
  cases t with|cons a3 t =>
  cases t with|cons a4 t =>
  cases a0;cases a1;cases a2;cases a3
  have h0:=hws 0 (by omega)
  have h1:=hws 1 (by omega)
  have h2:=hws 2 (by omega)
  have h3:=hws 3 (by omega)
  have h4:=hws 4 (by omega)
  rw [Nat.add_zero] at h0
  simp only [List.getElem?_cons_zero,List.getElem?_cons_succ] at h0 h1 h2 h3 h4
  unfold TF
  rw [ih,DJ (by omega),List.map_append]
  simp only [h0,h1,h2,h3,h4]
  generalize hq:(gi l n).stops.length=q at a4 hn9
  generalize cells (gi l n).stops=cc at a4
  cases a4<;>simp [hn9,hq]
theorem Vr {o:D7} (ho:KU o) {e:TypeId}:a0a env 81 Tryz.f81 (Enc.enc o) e (FB (Ru o)):=by
 intro Fo hFo m F c vs hc hr hF
 have hFo:aQ 81=some Fo:=hFo
 rw [Ug] at hFo
 cases hFo
 have d1:=ho.Ah
 have ee:Enc.enc o=[.str (bs o.name),.lst 131 (cells o.ranks) o.ranks.length,.lst 97 (cells o.Ah) o.Ah.length,.lst 147 (cells o.CZ) o.CZ.length]:=rfl
 rw [ee] at hr
 cases hr with|cons a0 t =>
 cases t with|cons a1 t =>
 cases t with|cons a2 t =>
 cases t with|cons a3 t =>
 cases t
 rename_i v0 v1 v2 v3
 have hdl:(cells o.Ah).length=o.Ah.length*5:=BK _
 have hsl:∀ d,d<o.Ah.length→(gi o.Ah d).stops.length<1000000:=fun d hd=>by have:=ho.stops d hd;omega
 generalize hn:o.Ah.length=n at a2
 generalize hcs:cells o.Ah=cs at a2
 cases a2 with
 |nil=>omega
 |room=>omega
 |lst hF2 hm2 hw hr2 hc2 =>
  rename_i b off g us ws ro
  subst hn;subst hcs
  refine ⟨PO (.slice (some ⟨b,off,none⟩) o.Ah.length g) (Ru o),fun m' F' σ' H' nx' hsame bQ=>⟨m',?_⟩⟩
  rw [Tryz.ntmps81]
  refine uG (kr:=(PO (.slice (some ⟨b,off,none⟩) o.Ah.length g) (Ru o),FB (Ru o))) (xU bQ) ?_
  have q1:=(hsame c hF).trans hc
  have q2:=(hsame b hF2).trans hm2
  have q3:=tN hw hr2 hsl _ (Nat.le_refl _)
  rw [List.take_of_length_le (Nat.le_refl _)] at q3
  unfold QG
  simp only [q1,q2]
  rw [if_pos ⟨by omega,by omega,trivial⟩,q3]
  rfl
theorem Yw:env.O 81=some (Tm (BP Tryz.prog 8 EN) (CY Tryz.prog 8 EN) 28 QG):=Ug
theorem dL (o:D7):(Dj o).length=La (Ru o) (Ru o).length:=rfl
theorem YC (o:D7):FB (Ru o)=(List.range (Dj o).length).map fun k=>VB (gi (Dj o) k):=rfl
theorem VW {ns:List Nat} {K:Nat} (h:∀ d,d<ns.length→gi ns d≤K):∀ n,n≤ns.length→La ns n≤n*K
 |0,_=>Nat.zero_le _
 |n+1,hn=>by
  have ih:=VW h n (by omega)
  have:=h n (by omega)
  rw [JC,Nat.succ_mul]
  omega
theorem F5 {o:D7} (ho:KU o):(Dj o).length≤480:=by
 have h:=VW (ns:=Ru o) (K:=60) (fun d hd=>by rw [QK] at hd;rw [Zd o hd];exact ho.stops d hd) (Ru o).length (Nat.le_refl _)
 rw [dL]
 have:=ho.Ah
 rw [QK] at h ⊢
 omega
theorem U6 {L:Vm.Frame} {H:Vm.Heap} {nx:Nat} {Q:PV→Vm.Heap→Nat→Prop} {dst:Option Tmp} {ty:TypeId} {pos:String} {af:Array Edge} {gd:Option (Nat×Bool)} {fo:Operand} {args:Array Operand} {aT:Array TypeId} {fs cs xs:List PV} {c:Code}
 (hf:BG env.Γ L fo=some (.clo 53 fs cs)) (ha:evs env.Γ L args.toList=some xs) (hb:Tryz.f53.body=some c) (hn:(fs++xs++cs).length≤Tryz.f53.ntmps)
 (h:Ad env nx c (CQ 0 (fs++xs++cs)) H nx (Bq env.P Tryz.f53.results.toList Q)):Aa env true ⟨dst,.call { callee:=.value fo,args:=args,argTypes:=aT },ty,pos,af,gd⟩ L H nx Q:=by
 have h0:(match Tryz.f53.body with|some c=>H6 env.G Tryz.f53 c|none=>false)=true:=by kernel_rfl
 rw [hb] at h0
 exact Aa.inline rfl hf ha (AB (by decide)) Tryz.func53 hb h0 hn h
theorem zn {L:Vm.Frame} {H:Vm.Heap} {nx:Nat} {Q:PV→Vm.Heap→Nat→Prop} {dst:Option Tmp} {ty:TypeId} {pos:String} {af:Array Edge} {gd:Option (Nat×Bool)} {fo:Operand} {args:Array Operand} {aT:Array TypeId} {fs cs xs:List PV} {c:Code}
 (hf:BG env.Γ L fo=some (.clo 80 fs cs)) (ha:evs env.Γ L args.toList=some xs) (hb:Tryz.f80.body=some c) (hn:(fs++xs++cs).length≤Tryz.f80.ntmps)
 (h:Ad env nx c (CQ 0 (fs++xs++cs)) H nx (Bq env.P Tryz.f80.results.toList Q)):Aa env true ⟨dst,.call { callee:=.value fo,args:=args,argTypes:=aT },ty,pos,af,gd⟩ L H nx Q:=by
 have h0:(match Tryz.f80.body with|some c=>H6 env.G Tryz.f80 c|none=>false)=true:=by kernel_rfl
 rw [hb] at h0
 exact Aa.inline rfl hf ha (AB (by decide)) Tryz.func80 hb h0 hn h
def W9 (o:D7) (k:Nat):List Q8:=(Dj o).take k
theorem rY (o:D7) {k:Nat} (h:k≤(Dj o).length):(W9 o k).length=k:=by unfold W9;rw [List.length_take];omega
theorem oL (o:D7) {k:Nat} (h:k<(Dj o).length):W9 o (k+1)=W9 o k++[gi (Dj o) k]:=DJ h
theorem sZ (o:D7):W9 o (Dj o).length=Dj o:=List.take_of_length_le (Nat.le_refl _)
theorem Pn (o:D7) (ho:KU o):BF env 52 [.clo 81 [] [.ref 0 0]] [(0,.box 37 ((Enc.enc o).map .p))] 1
 fun r H' nx'=>r=.vec 2 (Dj o).length 0 (Dj o).length∧H'=[(2,.vec 85 (cells (Dj o)) (Dj o).length true)]∧nx'=3:=by
 have hb:=F5 ho
 refine BF.enter (AB (by decide)) Tryz.func52 rfl (by kernel_rfl) (by simp [Tryz.ntmps52]) ?_
 repeat' (first|apply Ad.assoc|apply Ad.AA|apply Ad.Ai|apply Af.nil|apply Af.one|(apply zn;rfl;rfl;rfl;exact le_dec rfl)|(apply Aa.assign;rfl)|(apply Aa.move;rfl)|(apply Aa.box;rfl;trivial))
 all_goals try (exfalso;omega)
 refine Ad.ghost (AL.EL 1 0 85 rfl rfl) ?_
 refine Ad.Ws (Dj o).length (fun k=>[.agg (Enc.enc (gi (Dj o) k))]) (fun k=>VB (gi (Dj o) k)) [(2,.ref 1 0)]
  (fun k=>[(1,.box 59 [.vec 2 (W9 o k).length 0 (W9 o k).length]),(2,.vec 85 (cells (W9 o k)) (W9 o k).length true)]) 3 (fun _=>True)
  rfl rfl Tryz.func81 rfl Yw (YC o) (fun _ _=>rfl) (fun _ _=>rfl) (fun k _ m F=>.cons (.agg (.cons (.int _ _) (.cons (.int _ _) .nil)) rfl) .nil) (by omega) ⟨by omega,?_,?_⟩ ?_ (Vr ho) trivial ?_ ?_
 ·repeat (first|exact Ap.nil|refine Ap.same (by exact PV.Ac rfl) rfl ?_|refine Ap.cons trivial rfl (.of_eq (Au (by simp<;>omega))) ?_)
 ·repeat (first|exact Ak.nil|(refine Ak.cons (Aj rfl) ?_ rfl ?_ ?_;(first|exact HB.Ac rfl|exact AZ.Ag _ _|(simp [HB.under,AZ.under,PV.under]));(first|exact Bv.refl _|exact Bv.vec (Bl.refl _) (by simp))))
 ·repeat (first|exact Ap.nil|refine Ap.same (by exact PV.Ac rfl) rfl ?_|refine Ap.cons trivial rfl (.of_eq (Au (by simp<;>omega))) ?_)
 ·intro k hk _
  have e1:=oL o hk
  have e2:(W9 o (k+1)).length=(W9 o k).length+1:=by rw [e1];simp
  have e3:=rY o (Nat.le_of_lt hk)
  repeat' (first|apply Ad.region|apply Af.nil|apply Af.one|(apply Aa.alloc;rfl)|(apply Aa.Bd;rfl;rfl;rfl;trivial;rfl;rfl;exact Aj rfl;exact le_dec rfl))
  refine ⟨rfl,?_⟩
  repeat' (first|apply Ad.region|apply AO.normal|apply Ad.Fv|apply Af.nil|apply Af.one|(apply Aa.Dv (a:=gi (Dj o) k);rfl;rfl;rfl;rfl;rfl;rfl;rfl;rfl;(intro _ h;cases h);rfl;rfl;rfl;decide;decide;(first|omega|(simp only [List.length_take,List.length_drop,List.length_append,List.length_singleton,List.length_cons,List.length_nil]<;>omega)))|(apply Aa.load;rfl;rfl)|(apply Aa.Bd;rfl;rfl;rfl;trivial;rfl;rfl;exact Aj rfl;exact le_dec rfl)|(apply Aa.buildSlice;rfl;rfl;rfl;decide;rfl;rfl;rfl))
  all_goals try (exfalso;omega)
  refine ⟨trivial,by omega,?_⟩
  rw [e2,e1]
  repeat (first|exact Ak.nil|(refine Ak.cons (Aj rfl) ?_ rfl ?_ ?_;(first|exact HB.Ac rfl|exact AZ.Ag _ _|(simp [HB.under,AZ.under,PV.under]));(first|exact Bv.refl _|exact Bv.vec (Bl.refl _) (by simp))))
 ·intro _
  rw [sZ]
  repeat' (first|apply Ad.AA|apply AU.normal|(apply Bq.ret;rfl)|apply AO.normal|apply Ad.ret|apply Af.nil|apply Af.one|(apply Aa.assign;rfl)|(apply Aa.load;rfl;rfl))
  all_goals (refine Done.ret (H0:=[(2,.vec 85 (cells (Dj o)) (Dj o).length true)]) (D6:=3) rfl (.refl _) (Aj rfl) ?_ (by omega) (by omega) ⟨rfl,rfl,rfl⟩)
  repeat (first|exact Ak.nil|(refine Ak.cons (Aj rfl) ?_ rfl ?_ ?_;(first|exact HB.Ac rfl|exact AZ.Ag _ _|(simp [HB.under,AZ.under,PV.under]));(first|exact Bv.refl _|exact Bv.vec (Bl.refl _) (by simp))))
theorem Tv (r:Rgs) (hr:r.Ok) (p:Q8) (h1:p.d<r.stops.length) (h2:p.s<64):dX env 79 ([.p (.agg (Enc.enc p))]++[.ref 0 0]) [(0,.box 41 ((Enc.enc r).map .p))] 1 (.bool (!Gh r p)):=by
 have b1:=hr.stops p.d h1
 have hd:Gh r p=(gi r.stops p.d / 2 ^ p.s % 2==1):=rfl
 rw [hd]
 have hm:=Nat.mod_lt (gi r.stops p.d / 2 ^ p.s) (show 0<2 by decide)
 have hq:gi r.stops p.d / 2 ^ p.s<18446744073709551616:=Nat.lt_of_le_of_lt (Nat.div_le_self _ _) b1
 have hv:(decide ((((gi r.stops p.d / 2 ^ p.s % 2:Nat)):Int)=0))=!(gi r.stops p.d / 2 ^ p.s % 2==1):=by
  have:gi r.stops p.d / 2 ^ p.s % 2=0∨gi r.stops p.d / 2 ^ p.s % 2=1:=by omega
  rcases this with h|h<;>rw [h]<;>rfl
 refine dX.enter (AB (by decide)) Tryz.func79 rfl (by kernel_rfl) (by simp [Tryz.ntmps79]) ?_
 repeat' (first|apply Ad.AA|apply Ad.Bj|apply Ad.ret|apply Af.nil|apply Aq.nil|apply Af.one|(apply Aq.bar;decide +kernel)|apply Aq.quiet|(apply Aa.Ba (l:=r.stops) (i:=p.d);rfl;rfl;rfl;exact h1;rfl)|(apply Aa.assign;rfl)|(apply Aa.rV;rfl;rfl;omega)|(apply Aa.int;rfl;rfl;rfl)|(apply Aa.load;rfl;rfl)|(apply Aa.AV;rfl;rfl;rfl)|(apply Aa.box;rfl;trivial)|(apply Aa.WM;rfl;rfl;(simp only [IntKind.bits];omega)))
 all_goals try (exfalso;omega)
 rw [← hv]
 all_goals (refine Done.ret rfl (.refl _) trivial ?_ (by omega) (Nat.le_refl _) ⟨?_,rfl,rfl⟩;repeat (first|exact Ak.nil|(refine Ak.cons (Aj rfl) ?_ rfl ?_ ?_;(first|exact HB.Ac rfl|exact AZ.Ag _ _|(simp [HB.under,AZ.under,PV.under]));(first|exact Bv.refl _|exact Bv.vec (Bl.refl _) (by simp))));try rfl)
theorem xX {L:Vm.Frame} {H:Vm.Heap} {nx:Nat} {Q:PV→Vm.Heap→Nat→Prop} {dst:Option Tmp} {ty:TypeId} {pos:String} {af:Array Edge} {gd:Option (Nat×Bool)} {fo:Operand} {args:Array Operand} {aT:Array TypeId} {fs cs xs:List PV} {c:Code}
 (hf:BG env.Γ L fo=some (.clo 78 fs cs)) (ha:evs env.Γ L args.toList=some xs) (hb:Tryz.f78.body=some c) (hn:(fs++xs++cs).length≤Tryz.f78.ntmps)
 (h:Ad env nx c (CQ 0 (fs++xs++cs)) H nx (Bq env.P Tryz.f78.results.toList Q)):Aa env true ⟨dst,.call { callee:=.value fo,args:=args,argTypes:=aT },ty,pos,af,gd⟩ L H nx Q:=by
 have h0:(match Tryz.f78.body with|some c=>H6 env.G Tryz.f78 c|none=>false)=true:=by kernel_rfl
 rw [hb] at h0
 exact Aa.inline rfl hf ha (AB (by decide)) Tryz.func78 hb h0 hn h
theorem x9 {L:Vm.Frame} {H:Vm.Heap} {nx:Nat} {Q:PV→Vm.Heap→Nat→Prop} {dst:Option Tmp} {ty:TypeId} {pos:String} {af:Array Edge} {gd:Option (Nat×Bool)} {fo:Operand} {args:Array Operand} {aT:Array TypeId} {fs cs xs:List PV} {c:Code}
 (hf:BG env.Γ L fo=some (.clo 105 fs cs)) (ha:evs env.Γ L args.toList=some xs) (hb:Tryz.f105.body=some c) (hn:(fs++xs++cs).length≤Tryz.f105.ntmps)
 (h:Ad env nx c (CQ 0 (fs++xs++cs)) H nx (Bq env.P Tryz.f105.results.toList Q)):Aa env true ⟨dst,.call { callee:=.value fo,args:=args,argTypes:=aT },ty,pos,af,gd⟩ L H nx Q:=by
 have h0:(match Tryz.f105.body with|some c=>H6 env.G Tryz.f105 c|none=>false)=true:=by kernel_rfl
 rw [hb] at h0
 exact Aa.inline rfl hf ha (AB (by decide)) Tryz.func105 hb h0 hn h
theorem Rn {α:Type}:∀ (r cs:List α) (o:Nat) {k:Nat},k≤o→(BJ cs o r).take k=cs.take k
 |[],cs,o,k,h=>by simp [BJ]
 |a::r,cs,o,k,h=>by
  simp only [BJ]
  rw [Rn r (cs.set o a) (o+1) (by omega),List.take_set_of_le h]
theorem filter_all {α:Type} {P:α→Bool} {l:List α} [Inhabited α] (h:∀ i,i<l.length→P (gi l i)=true):l.filter P=l:=by
 rw [List.filter_eq_self]
 intro a ha
 obtain ⟨i,hi,rfl⟩:=List.getElem_of_mem ha
 have:=h i hi
 rwa [show gi l i=l[i] by unfold gi;rw [List.getElem?_eq_getElem hi];rfl] at this
structure Qn {α:Type} (P:α→Bool) (l zs:List α) (i j:Nat):Prop where
 len:zs.length=l.length
 ij:i<j
 jn:j≤l.length
 keep:zs.take i=(l.take j).filter P
 rest:zs.drop j=l.drop j
theorem Qn.at_ {α:Type} [Inhabited α] {P:α→Bool} {l zs:List α} {i j:Nat} (h:Qn P l zs i j) (hj:j<l.length):gi zs j=gi l j:=by
 have:=congrArg (fun x=>gi x 0) h.rest
 simp only [gi,List.getElem?_drop,Nat.add_zero] at this
 exact this
theorem Qn.skip {α:Type} [Inhabited α] {P:α→Bool} {l zs:List α} {i j:Nat} (h:Qn P l zs i j) (hj:j<l.length) (hp:P (gi l j)=false):Qn P l zs i (j+1):=by
 refine ⟨h.len,by have:=h.ij;omega,hj,?_,?_⟩
 ·rw [DJ hj,List.filter_append,h.keep]
  simp [hp]
 ·have:=congrArg (List.drop 1) h.rest
  simpa [List.drop_drop] using this
theorem Qn.put {α:Type} [Inhabited α] {P:α→Bool} {l zs:List α} {i j:Nat} (h:Qn P l zs i j) (hj:j<l.length) (hp:P (gi l j)=true):Qn P l (zs.set i (gi l j)) (i+1) (j+1):=by
 have h1:=h.ij
 have h2:=h.len
 refine ⟨by rw [List.length_set,h2],by omega,hj,?_,?_⟩
 ·rw [DJ hj,List.filter_append,← h.keep,DJ (by rw [List.length_set];omega),List.take_set_of_le (Nat.le_refl _)]
  have e:gi (zs.set i (gi l j)) i=gi l j:=by rw [SH,if_pos ⟨rfl,by omega⟩]
  rw [e]
  simp [hp]
 ·rw [List.drop_set_of_lt (by omega)]
  have:=congrArg (List.drop 1) h.rest
  simpa [List.drop_drop] using this
theorem Qn.start {α:Type} [Inhabited α] {P:α→Bool} {l:List α} {k:Nat} (hk:k<l.length) (hp:P (gi l k)=false) (h:∀ i,i<k→P (gi l i)=true):Qn P l l k (k+1):=by
 refine ⟨rfl,by omega,hk,?_,rfl⟩
 rw [DJ hk,List.filter_append]
 have:(l.take k).filter P=l.take k:=filter_all fun i hi=>by
  rw [List.length_take] at hi
  have:=h i (by omega)
  rwa [show gi (l.take k) i=gi l i from by unfold gi;rw [List.getElem?_take,if_pos (by omega)]]
 rw [this]
 simp [hp]
theorem Qn.fin {α:Type} [Inhabited α] {P:α→Bool} {l zs:List α} {i:Nat} (h:Qn P l zs i l.length):zs.take i=l.filter P∧i=(l.filter P).length:=by
 have h1:=h.keep
 rw [List.take_of_length_le (Nat.le_refl _)] at h1
 refine ⟨h1,?_⟩
 rw [← h1,List.length_take,h.len]
 have:=h.ij
 omega
theorem Uf (o:D7) (ho:KU o) (r:Rgs) (hr:r.Ok) (hl:r.stops.length=o.Ah.length) :
 AX env 51 [.agg (Enc.enc o),.agg (Enc.enc r)] (.p (.lst 85 (cells (Ce o r)) (Ce o r).length)):=by
 have hb:=F5 ho
 have hcl:=Pn o ho
 have hok:∀ i,i<(Dj o).length→(gi (Dj o) i).d<r.stops.length∧(gi (Dj o) i).s<64:=fun i hi=>by
  obtain ⟨h1,h2⟩:=Ve hi
  have:=ho.stops _ h1
  omega
 unfold Ce
 generalize Dj o=l at *
 refine AX.enter (AB (by decide)) Tryz.func51 rfl (by kernel_rfl) (by simp [Tryz.ntmps51]) ?_
 repeat' (first|apply Ad.assoc|apply Ad.AA|apply Ad.Ai|(apply Bq.ret;rfl)|apply Ad.ret|apply Af.nil|apply Af.one|(apply U6;rfl;rfl;rfl;exact le_dec rfl)|(apply Aa.mY [2] (hcl);rfl;rfl;exact .of_eq rfl;exact AZ.Ac rfl;exact Gl rfl;(repeat (first|exact trivial|refine ⟨⟨_,rfl,.of_eq rfl⟩,?_⟩));decide;(intro _ hb;first|(simp at hb;done)|(simp at hb ⊢<;>omega));(rintro _ _ _ ⟨rfl,rfl,rfl⟩))|(apply Aa.makeFunc;rfl;rfl)|(apply xX;rfl;rfl;rfl;exact le_dec rfl)|(apply x9;rfl;rfl;rfl;exact le_dec rfl)|(apply Aa.assign;rfl)|(apply Aa.move;rfl)|(apply Aa.load;rfl;rfl)|(apply Aa.lenV;rfl;rfl;rfl)|(apply Aa.box;rfl;trivial))
 all_goals try (exfalso;omega)
 apply Ad.H8 (l.length) (fun k=>∀ i,i<k→Gh r (gi l i)=true) [(0,_),(1,_),(7,_)] [(4,_),(1,_)] (fun k r=>(8,.p (.int .i64 (k:Int)))::r) (fun k r=>r) 5
 ·first|omega|decide
 ·first|omega|decide
 ·repeat (first|exact Ap.nil|(refine Ap.eq rfl ?_ ?_;(first|exact PV.Ac rfl|(simp [PV.under,AZ.under];done)))|refine Ap.cons trivial rfl (.of_eq (Au (by simp<;>omega))) ?_)
 ·repeat (first|exact Ak.nil|(refine Ak.eq rfl (Aj rfl) ?_ ?_;(first|exact HB.Ac rfl|exact AZ.Ag _ _|(simp [HB.under,AZ.under,PV.under];done)))|(refine Ak.cons (Aj rfl) ?_ rfl ?_ ?_;(first|exact trivial|exact AZ.Ag _ _|(simp [HB.under,AZ.under,PV.under]));(first|exact Bv.refl _|exact Bv.vec (Bl.refl _) (by simp))))
 ·first|(intro _ _;omega)|omega|trivial
 ·intro k hk hi
  obtain ⟨g1,g2⟩:=hok k hk
  have hC:=Tv r hr (gi l k) g1 g2
  by_cases hp:Gh r (gi l k)=true
  ·rw [hp] at hC
   repeat' (first|apply Ad.AA|apply Ad.region|apply Ad.Ar|apply Ad.Ai|apply AU.normal|apply AO.normal|apply Ad.skip|apply Af.nil|apply Af.one|(apply Aa.read [1] hC;rfl;rfl;exact .of_eq rfl;exact AZ.Ac rfl;exact Gl rfl;(repeat (first|exact trivial|refine ⟨⟨_,rfl,.of_eq rfl⟩,?_⟩));decide;(intro _ hb;simp at hb<;>omega);rfl)|(apply Aa.assign;rfl)|(apply Aa.move;rfl)|(apply Aa.Bz;rfl;rfl;omega)|(apply Aa.int;rfl;rfl;rfl)|(apply Aa.BH;rfl;rfl;omega;rfl)|(apply Aa.BD;rfl;rfl;rfl;rfl;omega)|(apply Ad.Ae;rfl)|(apply Ad.cond_false;rfl)|(intro _;try (exfalso;omega)))
   all_goals try (exfalso;omega)
   refine Aw.normal ⟨(all_succ hi hp),by first|omega|decide,?_,?_⟩
   ·repeat (first|exact Ap.nil|refine Ap.same (by exact PV.Ac rfl) rfl ?_|refine Ap.cons trivial rfl (.of_eq (Au (by simp<;>omega))) ?_)
   ·repeat (first|exact Ak.nil|(refine Ak.cons (Aj rfl) ?_ rfl ?_ ?_;(first|exact HB.Ac rfl|exact AZ.Ag _ _|(simp [HB.under,AZ.under,PV.under]));(first|exact Bv.refl _|exact Bv.vec (Bl.refl _) (by simp))))
  ·have hp':Gh r (gi l k)=false:=by cases h:Gh r (gi l k)<;>simp_all
   rw [hp'] at hC
   repeat' (first|apply Ad.assoc|apply Ad.AA|apply Ad.Ar|apply Ad.Ai|apply AU.ret|(apply Bq.ret;rfl)|apply AO.ret|apply Aw.ret|apply Ad.ret|apply Af.nil|apply Af.one|(apply Aa.read [1] hC;rfl;rfl;exact .of_eq rfl;exact AZ.Ac rfl;exact Gl rfl;(repeat (first|exact trivial|refine ⟨⟨_,rfl,.of_eq rfl⟩,?_⟩));decide;(intro _ hb;simp at hb<;>omega);rfl)|(apply Aa.assign;rfl)|(apply Aa.move;rfl)|(apply Aa.Bz;rfl;rfl;omega)|(apply Aa.int;rfl;rfl;rfl)|(apply Aa.BH;rfl;rfl;omega;rfl)|(apply Aa.BD;rfl;rfl;rfl;rfl;omega)|(apply Ad.Az;rfl)|(apply Ad.Ae;rfl)|(apply Ad.cond_true;rfl)|(intro _;try (exfalso;omega)))
   all_goals try (exfalso;omega)
   refine Ad.Ee (fun s:List Q8×Nat×Nat=>[(0,.vec 4 l.length 0 l.length),(1,.clo 79 [] [.ref 1 0]),(5,.p (.int .i64 (s.2.1:Int))),(6,.p (.int .i64 (s.2.2:Int)))]) (fun s=>[(4,.vec 85 (cells s.1) l.length true),(1,.box 41 ((Enc.enc r).map .p))]) 5 (fun s=>Qn (Gh r) l s.1 s.2.1 s.2.2) (fun s=>l.length-s.2.2) (l,k,k+1) (by decide) (Qn.start hk hp' hi) ⟨by decide,?_,?_⟩ ?_
   ·repeat (first|exact Ap.nil|refine Ap.same (by exact PV.Ac rfl) rfl ?_|refine Ap.cons trivial rfl (.of_eq (Au (by simp<;>omega))) ?_)
   ·repeat (first|exact Ak.nil|(refine Ak.cons (Aj rfl) ?_ rfl ?_ ?_;(first|exact HB.Ac rfl|exact AZ.Ag _ _|(simp [HB.under,AZ.under,PV.under]));(first|exact Bv.refl _|exact Bv.vec (Bl.refl _) (by simp))))
   rintro ⟨zs,i,j⟩ hD
   simp only at hD ⊢
   have z1:=hD.len
   have z2:=hD.ij
   have z3:=hD.jn
   by_cases hj:j<l.length
   ·obtain ⟨g3,g4⟩:=hok j hj
    have hC2:=Tv r hr (gi l j) g3 g4
    have hz:=hD.at_ hj
    by_cases hq:Gh r (gi l j)=true
    ·rw [hq] at hC2
     rw [← hz] at hC2
     repeat' (first|apply Ad.assoc|apply Ad.AA|apply Ad.region|apply Ad.Ar|apply Ad.Ai|apply AU.normal|apply AO.normal|apply Af.nil|apply Af.one|(apply Aa.read [1] hC2;rfl;rfl;exact .of_eq rfl;exact AZ.Ac rfl;exact Gl rfl;(repeat (first|exact trivial|refine ⟨⟨_,rfl,.of_eq rfl⟩,?_⟩));decide;(intro _ hb;simp at hb<;>omega);rfl)|(apply Aa.CU (y:=gi zs j);rfl;rfl;rfl;trivial;(first|rfl|(refine congrArg (fun t=>[PV.p (FV.int _ t)]) ?_;first|omega|(simp only [Int.natCast_add,Int.natCast_mul,Int.natCast_ediv,Int.natCast_emod]<;>omega)));rfl;rfl;decide;(first|omega|(simp only [List.length_set]<;>omega)))|(apply Aa.assign;rfl)|(apply Aa.move;rfl)|(apply Aa.Bz;rfl;rfl;omega)|(apply Aa.int;rfl;rfl;rfl)|(apply Aa.BH;rfl;rfl;omega;rfl)|(apply Aa.load;rfl;rfl)|(apply Aa.lenV;rfl;rfl;rfl)|(apply Aa.alloc;rfl)|(apply Aa.Bd;rfl;rfl;rfl;trivial;rfl;rfl;exact Aj rfl;exact le_dec rfl)|(apply Aa.BD;rfl;rfl;rfl;rfl;omega)|(apply Aa.not;rfl)|(apply Ad.Ae;rfl)|(apply Ad.cond_true;rfl)|(intro _;try (exfalso;omega)))
     all_goals try (exfalso;omega)
     refine Aw.normal ⟨(zs.set i (gi l j),i+1,j+1),hD.put hj hq,by simp only;omega,⟨by omega,?_,?_⟩⟩
     ·repeat (first|exact Ap.nil|refine Ap.same (by exact PV.Ac rfl) rfl ?_|refine Ap.cons trivial rfl (.of_eq (Au (by simp<;>omega))) ?_)
     ·rw [← hz]
      repeat (first|exact Ak.nil|(refine Ak.cons (Aj rfl) ?_ rfl ?_ ?_;(first|exact HB.Ac rfl|exact AZ.Ag _ _|(simp [HB.under,AZ.under,PV.under]));(first|exact Bv.refl _|exact Bv.vec (Bl.refl _) (by simp))))
    ·have hq':Gh r (gi l j)=false:=by cases h:Gh r (gi l j)<;>simp_all
     rw [hq'] at hC2
     rw [← hz] at hC2
     repeat' (first|apply Ad.assoc|apply Ad.AA|apply Ad.region|apply Ad.Ar|apply Ad.Ai|apply AU.normal|apply AO.normal|apply Ad.skip|apply Af.nil|apply Af.one|(apply Aa.read [1] hC2;rfl;rfl;exact .of_eq rfl;exact AZ.Ac rfl;exact Gl rfl;(repeat (first|exact trivial|refine ⟨⟨_,rfl,.of_eq rfl⟩,?_⟩));decide;(intro _ hb;simp at hb<;>omega);rfl)|(apply Aa.assign;rfl)|(apply Aa.move;rfl)|(apply Aa.Bz;rfl;rfl;omega)|(apply Aa.int;rfl;rfl;rfl)|(apply Aa.BH;rfl;rfl;omega;rfl)|(apply Aa.load;rfl;rfl)|(apply Aa.lenV;rfl;rfl;rfl)|(apply Aa.alloc;rfl)|(apply Aa.Bd;rfl;rfl;rfl;trivial;rfl;rfl;exact Aj rfl;exact le_dec rfl)|(apply Aa.BD;rfl;rfl;rfl;rfl;omega)|(apply Aa.not;rfl)|(apply Ad.Ae;rfl)|(apply Ad.cond_false;rfl)|(intro _;try (exfalso;omega)))
     all_goals try (exfalso;omega)
     refine Aw.normal ⟨(zs,i,j+1),hD.skip hj hq',by simp only;omega,⟨by omega,?_,?_⟩⟩
     ·repeat (first|exact Ap.nil|refine Ap.same (by exact PV.Ac rfl) rfl ?_|refine Ap.cons trivial rfl (.of_eq (Au (by simp<;>omega))) ?_)
     ·repeat (first|exact Ak.nil|(refine Ak.cons (Aj rfl) ?_ rfl ?_ ?_;(first|exact HB.Ac rfl|exact AZ.Ag _ _|(simp [HB.under,AZ.under,PV.under]));(first|exact Bv.refl _|exact Bv.vec (Bl.refl _) (by simp))))
   ·obtain rfl:j=l.length:=by omega
    obtain ⟨f1,f2⟩:=hD.fin
    rw [← f1,show (zs.take i).length=i by rw [List.length_take];omega]
    have hps:∀ xs,((BJ (cells zs) (0+i*2) xs).take (i*2))=cells (zs.take i):=fun xs=>by
     rw [Rn _ _ _ (show i*2≤0+i*2 by omega)]
     exact Ku zs i
    have hpl:∀ xs,i*2≤(BJ (cells zs) (0+i*2) xs).length:=fun xs=>by
     rw [Ub,BK,z1]
     show i*2≤l.length*2
     omega
    repeat' (first|(refine Af.He 4 ?_;refine Af.ghost (AL.wO 9 (i*2) rfl rfl (by omega) (hpl _)) ?_)|apply Ad.assoc|apply Ad.AA|apply Ad.A8|apply AU.normal|(apply Bq.ret;rfl)|apply AO.exit|apply Aw.exit|apply Ad.ret|apply Af.nil|apply Af.one|(apply Aa.Zq (sz:=2) (a:=i) (c:=l.length);rfl;rfl;omega;rfl;rfl;rfl;exact ⟨_,rfl⟩;rfl;omega;exact Nat.le_refl _)|(apply Aa.Zq (sz:=2) (a:=0) (c:=i);rfl;rfl;omega;rfl;rfl;rfl;rfl;exact ⟨_,rfl⟩;omega;omega)|(apply Aa.clear;rfl;rfl;omega;omega;rfl;rfl;rfl;decide;(rw [BK,z1];show 0+i*2+(l.length-i)*2≤l.length*2;omega))|(apply Aa.assign;rfl)|(apply Aa.move;rfl)|(apply Aa.int;rfl;rfl;rfl)|(apply Aa.lenV;rfl;rfl;rfl)|(apply Ad.Ae;rfl)|(intro _;try (exfalso;omega)))
    all_goals first|(exfalso;omega)|(refine Done.ret rfl (.refl _) (by exact PV.Ac rfl) Ak.nil (Nat.zero_le _) (Nat.le_refl _) ⟨?_,rfl,rfl⟩;exact congrArg (fun c=>PV.p (FV.lst 85 c i)) (hps _))
 ·intro hi
  rw [filter_all hi]
  repeat' (first|(refine Af.He 4 ?_;refine Af.ghost (AL.freeze 9 rfl rfl) ?_)|apply Ad.assoc|apply Ad.AA|apply Ad.BI|apply Ad.A8|apply AU.normal|(apply Bq.ret;rfl)|apply AO.exit|apply Aw.exit|apply Ad.ret|apply Af.nil|apply Af.one|(apply Aa.assign;rfl)|(apply Aa.move;rfl)|(apply Aa.int;rfl;rfl;rfl)|(apply Ad.Bc;rfl)|(apply Ad.Ae;rfl)|(intro _;try (exfalso;omega)))
  all_goals first|(exfalso;omega)|(refine Done.ret rfl (.refl _) (by exact PV.Ac rfl) Ak.nil (Nat.zero_le _) (Nat.le_refl _) ⟨?_,rfl,rfl⟩;try rfl)
end Go.Proofs.YtdabojnmoejilaaGreatDoor
namespace Go.Proofs.YtdabojnmoejilaaGreatDoor
open Go Go.Am Go.Vm Go.Tra
attribute [local irreducible] Aa Af Aq Ad BF AX Ci AU AO Aw Vm.Done CS Bq
attribute [local irreducible] DW DN Je Kz QO Dc
theorem YJ (o:D7) (ho:KU o) (r:Rgs) (hr:r.Ok):AX env 36 [.agg (Enc.enc o),.agg (Enc.enc r)] (.p (.int .i64 (OY o r))):=by
 have r2:=ho.Ah
 have r3:=ho.CZ
 have c1:=hr.cp
 have c2:=hr.off
 have c3:=hr.len
 have hc:=Ja o ho.sm
 rw [ho.err] at hc
 refine AX.enter (AB (by decide)) Tryz.func36 rfl (by kernel_rfl) (by simp [Tryz.ntmps36]) ?_
 by_cases h1:r.stops.length=o.Ah.length
 case neg =>
  rw [cZ h1]
  repeat' (first|apply Ad.assoc|apply Ad.AA|apply Ad.Ar|apply Ad.BI|apply Af.nil|apply Af.one|(apply Aa.fn;rfl;rfl;exact hc;intro _;rfl)|(apply Aa.assign;rfl)|(apply Aa.move;rfl)|(apply Aa.int;rfl;rfl;rfl)|(apply Aa.load;rfl;rfl)|(apply Aa.BQ;rfl;rfl)|(apply Aa.AV;rfl;rfl;rfl)|(apply Aa.box;rfl;trivial)|(apply Ad.Az;rfl)|(apply Ad.Ae;rfl)|(intro _;try (exfalso;omega)))
  all_goals first|(exfalso;omega)|contradiction|(refine Done.ret rfl (.refl _) (by exact PV.Ac rfl) Ak.nil (Nat.zero_le _) (Nat.le_refl _) ⟨?_,rfl,rfl⟩;try rfl)
 by_cases h2:∀ i,i<r.stops.length→gi r.stops i / 2 ^ (gi o.Ah i).stops.length=0
 case neg =>
  obtain ⟨i,hi⟩:=Classical.not_forall.1 h2
  obtain ⟨hi,h3⟩:=Classical.not_imp.1 hi
  rw [vI h1 hi h3]
  clear h2
  repeat' (first|apply Ad.assoc|apply Ad.AA|apply Ad.Ar|apply Ad.Ai|apply Af.nil|apply Af.one|(apply Aa.fn;rfl;rfl;exact hc;intro _;rfl)|(apply Aa.assign;rfl)|(apply Aa.move;rfl)|(apply Aa.int;rfl;rfl;rfl)|(apply Aa.load;rfl;rfl)|(apply Aa.BQ;rfl;rfl)|(apply Aa.AV;rfl;rfl;rfl)|(apply Aa.box;rfl;trivial)|(apply Ad.Az;rfl)|(apply Ad.Ae;rfl)|(intro _;try (exfalso;omega)))
  all_goals try (exfalso;omega)
  all_goals try contradiction
  apply Ad.H8 (o.Ah.length) (fun k=>∀ i,i<k→gi r.stops i / 2 ^ (gi o.Ah i).stops.length=0) [(2,_),(3,_),(21,_),(22,_)] [(0,_),(1,_)] (fun k r=>(23,.p (.int .i64 (k:Int)))::r) (fun k r=>r) 2
  ·first|omega|decide
  ·first|omega|decide
  ·repeat (first|exact Ap.nil|(refine Ap.eq rfl ?_ ?_;(first|exact PV.Ac rfl|(simp [PV.under,AZ.under];done)))|refine Ap.cons trivial rfl (.of_eq (Au (by simp<;>omega))) ?_)
  ·repeat (first|exact Ak.nil|(refine Ak.eq rfl (Aj rfl) ?_ ?_;(first|exact HB.Ac rfl|exact AZ.Ag _ _|(simp [HB.under,AZ.under,PV.under];done)))|(refine Ak.cons (Aj rfl) ?_ rfl ?_ ?_;(first|exact trivial|exact AZ.Ag _ _|(simp [HB.under,AZ.under,PV.under]));(first|exact Bv.refl _|exact Bv.vec (Bl.refl _) (by simp))))
  ·first|(intro _ _;omega)|omega|trivial
  ·intro k hk hok
   have s3:=ho.stops k (by omega)
   have rk:=hr.stops k (by omega)
   by_cases hb:gi r.stops k / 2 ^ (gi o.Ah k).stops.length=0
   ·repeat' (first|apply Ad.AA|apply Ad.Bj|apply Ad.region|apply Ad.Ar|apply Ad.Ai|apply AU.normal|apply AO.normal|apply Ad.skip|apply Af.nil|apply Aq.nil|apply Af.one|(apply Aq.bar;decide +kernel)|apply Aq.quiet|(apply Aa.assign;rfl)|(apply Aa.move;rfl)|(apply Aa.Bz;rfl;rfl;omega)|(apply Aa.int;rfl;rfl;rfl)|(apply Aa.Ba;rfl;rfl;rfl;omega;rfl)|(apply Aa.load;rfl;rfl)|(apply Aa.BQ;rfl;rfl)|(apply Aa.AV;rfl;rfl;rfl)|(apply Aa.alloc;rfl)|(apply Aa.Bd;rfl;rfl;rfl;trivial;rfl;rfl;exact Aj rfl;exact le_dec rfl)|(apply Aa.WM;rfl;rfl;(simp only [IntKind.bits];omega))|(apply Ad.Ae;rfl)|(apply Ad.AY;rfl)|(intro _;try (exfalso;omega)))
    all_goals try (exfalso;omega)
    all_goals try contradiction
    refine Aw.normal ⟨(all_succ hok hb),by first|omega|decide,?_,?_⟩
    ·repeat (first|exact Ap.nil|refine Ap.same (by exact PV.Ac rfl) rfl ?_|refine Ap.cons trivial rfl (.of_eq (Au (by simp<;>omega))) ?_)
    ·repeat (first|exact Ak.nil|(refine Ak.cons (Aj rfl) ?_ rfl ?_ ?_;(first|exact HB.Ac rfl|exact AZ.Ag _ _|(simp [HB.under,AZ.under,PV.under]));(first|exact Bv.refl _|exact Bv.vec (Bl.refl _) (by simp))))
   ·repeat' (first|apply Ad.AA|apply Ad.Bj|apply Ad.Ar|apply Ad.Ai|apply AU.ret|apply AO.ret|apply Aw.ret|apply Ad.ret|apply Af.nil|apply Aq.nil|apply Af.one|(apply Aq.bar;decide +kernel)|apply Aq.quiet|(apply Aa.assign;rfl)|(apply Aa.move;rfl)|(apply Aa.int;rfl;rfl;rfl)|(apply Aa.Ba;rfl;rfl;rfl;omega;rfl)|(apply Aa.load;rfl;rfl)|(apply Aa.BQ;rfl;rfl)|(apply Aa.AV;rfl;rfl;rfl)|(apply Aa.alloc;rfl)|(apply Aa.Bd;rfl;rfl;rfl;trivial;rfl;rfl;exact Aj rfl;exact le_dec rfl)|(apply Aa.WM;rfl;rfl;(simp only [IntKind.bits];omega))|(apply Ad.Ae;rfl)|(apply Ad.AY;rfl)|(intro _;try (exfalso;omega)))
    all_goals first|(exfalso;omega)|contradiction|(refine Done.ret rfl (.refl _) (by exact PV.Ac rfl) Ak.nil (Nat.zero_le _) (Nat.le_refl _) ⟨?_,rfl,rfl⟩;try rfl)
  ·intro hok
   exact absurd (hok i (by omega)) h3
 rw [X7 h1 h2]
 repeat' (first|apply Ad.assoc|apply Ad.AA|apply Ad.Ar|apply Ad.Ai|apply Af.nil|apply Af.one|(apply Aa.fn;rfl;rfl;exact hc;intro _;rfl)|(apply Aa.assign;rfl)|(apply Aa.move;rfl)|(apply Aa.int;rfl;rfl;rfl)|(apply Aa.load;rfl;rfl)|(apply Aa.BQ;rfl;rfl)|(apply Aa.AV;rfl;rfl;rfl)|(apply Aa.box;rfl;trivial)|(apply Ad.Az;rfl)|(apply Ad.Ae;rfl)|(intro _;try (exfalso;omega)))
 all_goals try (exfalso;omega)
 all_goals try contradiction
 apply Ad.H8 (o.Ah.length) (fun k=>∀ i,i<k→gi r.stops i / 2 ^ (gi o.Ah i).stops.length=0) [(2,_),(3,_),(21,_),(22,_)] [(0,_),(1,_)] (fun k r=>(23,.p (.int .i64 (k:Int)))::r) (fun k r=>r) 2
 ·first|omega|decide
 ·first|omega|decide
 ·repeat (first|exact Ap.nil|(refine Ap.eq rfl ?_ ?_;(first|exact PV.Ac rfl|(simp [PV.under,AZ.under];done)))|refine Ap.cons trivial rfl (.of_eq (Au (by simp<;>omega))) ?_)
 ·repeat (first|exact Ak.nil|(refine Ak.eq rfl (Aj rfl) ?_ ?_;(first|exact HB.Ac rfl|exact AZ.Ag _ _|(simp [HB.under,AZ.under,PV.under];done)))|(refine Ak.cons (Aj rfl) ?_ rfl ?_ ?_;(first|exact trivial|exact AZ.Ag _ _|(simp [HB.under,AZ.under,PV.under]));(first|exact Bv.refl _|exact Bv.vec (Bl.refl _) (by simp))))
 ·first|(intro _ _;omega)|omega|trivial
 ·intro k hk hok
  have s3:=ho.stops k (by omega)
  have rk:=hr.stops k (by omega)
  have hb:=h2 k (by omega)
  repeat' (first|apply Ad.AA|apply Ad.Bj|apply Ad.region|apply Ad.Ar|apply Ad.Ai|apply AU.normal|apply AO.normal|apply Ad.skip|apply Af.nil|apply Aq.nil|apply Af.one|(apply Aq.bar;decide +kernel)|apply Aq.quiet|(apply Aa.assign;rfl)|(apply Aa.move;rfl)|(apply Aa.Bz;rfl;rfl;omega)|(apply Aa.int;rfl;rfl;rfl)|(apply Aa.Ba;rfl;rfl;rfl;omega;rfl)|(apply Aa.load;rfl;rfl)|(apply Aa.BQ;rfl;rfl)|(apply Aa.AV;rfl;rfl;rfl)|(apply Aa.alloc;rfl)|(apply Aa.Bd;rfl;rfl;rfl;trivial;rfl;rfl;exact Aj rfl;exact le_dec rfl)|(apply Aa.WM;rfl;rfl;(simp only [IntKind.bits];omega))|(apply Ad.Ae;rfl)|(apply Ad.AY;rfl)|(intro _;try (exfalso;omega)))
  all_goals try (exfalso;omega)
  all_goals try contradiction
  refine Aw.normal ⟨(fun j hj=>h2 j (by omega)),by first|omega|decide,?_,?_⟩
  ·repeat (first|exact Ap.nil|refine Ap.same (by exact PV.Ac rfl) rfl ?_|refine Ap.cons trivial rfl (.of_eq (Au (by simp<;>omega))) ?_)
  ·repeat (first|exact Ak.nil|(refine Ak.cons (Aj rfl) ?_ rfl ?_ ?_;(first|exact HB.Ac rfl|exact AZ.Ag _ _|(simp [HB.under,AZ.under,PV.under]));(first|exact Bv.refl _|exact Bv.vec (Bl.refl _) (by simp))))
 ·intro hok
  by_cases h4:r.cp / 2 ^ o.CZ.length=0
  ·by_cases h5:r.off / 2 ^ o.Ah.length=0
   ·rw [if_neg (by omega)]
    repeat' (first|apply Ad.assoc|apply Ad.AA|apply Ad.Ar|apply Ad.A8|apply AU.normal|apply AO.exit|apply Aw.exit|apply Ad.ret|apply Af.nil|apply Af.one|(apply Af.take;rfl;rfl)|(apply Af.guard;rfl;rfl)|(apply Aa.assign;rfl)|(apply Aa.move;rfl)|(apply Aa.int;rfl;rfl;rfl)|(apply Aa.load;rfl;rfl)|(apply Aa.AQ;rfl;rfl)|(apply Aa.BQ;rfl;rfl)|(apply Aa.AV;rfl;rfl;rfl)|(apply Aa.WM;rfl;rfl;(simp only [IntKind.bits];omega))|(apply Ad.Ae;rfl)|(intro _;try (exfalso;omega)))
    all_goals first|(exfalso;omega)|contradiction|(refine Done.ret rfl (.refl _) (by exact PV.Ac rfl) Ak.nil (Nat.zero_le _) (Nat.le_refl _) ⟨?_,rfl,rfl⟩;try rfl)
   ·rw [if_pos (.inr h5)]
    repeat' (first|apply Ad.assoc|apply Ad.AA|apply Ad.BI|apply Ad.A8|apply AU.normal|apply AO.exit|apply Aw.exit|apply Af.nil|apply Af.one|(apply Af.take;rfl;rfl)|(apply Af.guard;rfl;rfl)|(apply Aa.assign;rfl)|(apply Aa.move;rfl)|(apply Aa.int;rfl;rfl;rfl)|(apply Aa.load;rfl;rfl)|(apply Aa.AQ;rfl;rfl)|(apply Aa.BQ;rfl;rfl)|(apply Aa.AV;rfl;rfl;rfl)|(apply Aa.WM;rfl;rfl;(simp only [IntKind.bits];omega))|(apply Ad.Ae;rfl)|(intro _;try (exfalso;omega)))
    all_goals first|(exfalso;omega)|contradiction|(refine Done.ret rfl (.refl _) (by exact PV.Ac rfl) Ak.nil (Nat.zero_le _) (Nat.le_refl _) ⟨?_,rfl,rfl⟩;try rfl)
  ·rw [if_pos (.inl h4)]
   repeat' (first|apply Ad.assoc|apply Ad.AA|apply Ad.BI|apply Ad.A8|apply AU.normal|apply AO.exit|apply Aw.exit|apply Af.nil|apply Af.one|(apply Af.drop;rfl;rfl;rfl)|(apply Af.guard;rfl;rfl)|(apply Aa.assign;rfl)|(apply Aa.move;rfl)|(apply Aa.int;rfl;rfl;rfl)|(apply Aa.load;rfl;rfl)|(apply Aa.Bo;rfl;rfl)|(apply Aa.BQ;rfl;rfl)|(apply Aa.AV;rfl;rfl;rfl)|(apply Aa.WM;rfl;rfl;(simp only [IntKind.bits];omega))|(apply Ad.Bc;rfl)|(apply Ad.Ae;rfl)|(intro _;try (exfalso;omega)))
   all_goals first|(exfalso;omega)|contradiction|(refine Done.ret rfl (.refl _) (by exact PV.Ac rfl) Ak.nil (Nat.zero_le _) (Nat.le_refl _) ⟨?_,rfl,rfl⟩;try rfl)
def Eh (w:U2):List Int:=[w.Ep,w.J5,w.Dx,w.miss]
def KQ (w:U2):Prop:=∀ i,i<4→0≤gi (Eh w) i∧gi (Eh w) i≤100000
noncomputable def GK (q:P5):Int :=
 open Classical in
 if Jy q.Df≠0 then Jy q.Df else if OY q.Df q.reg≠0 then OY q.Df q.reg else if Jy q.tgt≠0 then Jy q.tgt
 else if ¬ KQ q.IE then 3 else if (Ce q.Df q.reg).length>60∨(Dj q.tgt).length>120 then 4 else 0
theorem tZ (w:U2) {k:Nat} (h:k<4):[FV.int .i64 w.Ep,.int .i64 w.J5,.int .i64 w.Dx,.int .i64 w.miss][((k:Nat):Int).toNat*1]?=some (.int .i64 (gi (Eh w) k)):=by
 rw [Int.toNat_natCast]
 match k,h with
 |0,_=>rfl
 |1,_=>rfl
 |2,_=>rfl
 |3,_=>rfl
theorem Zk {o:D7} {r:Rgs} (h:OY o r=0):r.stops.length=o.Ah.length:=Classical.byContradiction fun h1=>by rw [cZ h1] at h;cases h
theorem Jc (q:P5) (h1:GR q.Df) (h2:GR q.tgt) (hr:q.reg.Ok):AX env 26 [.agg (Enc.enc q)] (.p (.int .i64 (GK q))):=by
 have fP:=Ja q.Df h1
 unfold GK
 refine AX.enter (AB (by decide)) Tryz.func26 rfl (by kernel_rfl) (by simp [Tryz.ntmps26]) ?_
 by_cases e1:Jy q.Df=0
 case neg =>
  rw [if_pos e1]
  repeat' (first|apply Ad.assoc|apply Ad.AA|apply Ad.BI|apply Af.nil|apply Af.one|(apply Aa.fn;rfl;rfl;exact fP;intro _;rfl)|(apply Aa.assign;rfl)|(apply Aa.move;rfl)|(apply Aa.int;rfl;rfl;rfl)|(apply Aa.load;rfl;rfl)|(apply Aa.AV;rfl;rfl;rfl)|(apply Aa.box;rfl;trivial)|(apply Ad.Ae;rfl)|(intro _;try (exfalso;omega)))
  all_goals first|(exfalso;omega)|contradiction|(refine Done.ret rfl (.refl _) (by exact PV.Ac rfl) Ak.nil (Nat.zero_le _) (Nat.le_refl _) ⟨?_,rfl,rfl⟩;try rfl)
 rw [if_neg (fun h=>h e1)]
 rw [e1] at fP
 have k1:=oD h1 e1
 have hcR:=YJ q.Df k1 q.reg hr
 by_cases e2:OY q.Df q.reg=0
 case neg =>
  rw [if_pos e2]
  repeat' (first|apply Ad.assoc|apply Ad.AA|apply Ad.Ar|apply Ad.BI|apply Af.nil|apply Af.one|(apply Aa.fn;rfl;rfl;exact fP;intro _;rfl)|(apply Aa.fn;rfl;rfl;exact hcR;intro _;rfl)|(apply Aa.assign;rfl)|(apply Aa.move;rfl)|(apply Aa.int;rfl;rfl;rfl)|(apply Aa.load;rfl;rfl)|(apply Aa.AV;rfl;rfl;rfl)|(apply Aa.box;rfl;trivial)|(apply Ad.Az;rfl)|(apply Ad.Ae;rfl)|(intro _;try (exfalso;omega)))
  all_goals first|(exfalso;omega)|contradiction|(refine Done.ret rfl (.refl _) (by exact PV.Ac rfl) Ak.nil (Nat.zero_le _) (Nat.le_refl _) ⟨?_,rfl,rfl⟩;try rfl)
 rw [if_neg (fun h=>h e2)]
 rw [e2] at hcR
 have xq:=Ja q.tgt h2
 by_cases e3:Jy q.tgt=0
 case neg =>
  rw [if_pos e3]
  repeat' (first|apply Ad.assoc|apply Ad.AA|apply Ad.Ar|apply Ad.BI|apply Af.nil|apply Af.one|(apply Aa.fn;rfl;rfl;exact fP;intro _;rfl)|(apply Aa.fn;rfl;rfl;exact hcR;intro _;rfl)|(apply Aa.fn;rfl;rfl;exact xq;intro _;rfl)|(apply Aa.assign;rfl)|(apply Aa.move;rfl)|(apply Aa.int;rfl;rfl;rfl)|(apply Aa.load;rfl;rfl)|(apply Aa.AV;rfl;rfl;rfl)|(apply Aa.box;rfl;trivial)|(apply Ad.Az;rfl)|(apply Ad.Ae;rfl)|(intro _;try (exfalso;omega)))
  all_goals first|(exfalso;omega)|contradiction|(refine Done.ret rfl (.refl _) (by exact PV.Ac rfl) Ak.nil (Nat.zero_le _) (Nat.le_refl _) ⟨?_,rfl,rfl⟩;try rfl)
 rw [if_neg (fun h=>h e3)]
 rw [e3] at xq
 have k2:=oD h2 e3
 have hdr:=Uf q.Df k1 q.reg hr (Zk e2)
 have hcl:=Pn q.tgt k2
 have b1:=F5 k2
 have b2:(Ce q.Df q.reg).length≤480:=by
  have:=F5 k1
  have:(Ce q.Df q.reg).length≤(Dj q.Df).length:=List.length_filter_le _ _
  omega
 by_cases e4:KQ q.IE
 case neg =>
  rw [if_pos e4]
  repeat' (first|apply Ad.assoc|apply Ad.AA|apply Ad.Ar|apply Ad.Ai|apply Af.nil|apply Af.one|(apply Aa.fn;rfl;rfl;exact fP;intro _;rfl)|(apply Aa.fn;rfl;rfl;exact hcR;intro _;rfl)|(apply Aa.fn;rfl;rfl;exact xq;intro _;rfl)|(apply Aa.uo;rfl;rfl;rfl;rfl;rfl)|(apply Aa.assign;rfl)|(apply Aa.move;rfl)|(apply Aa.int;rfl;rfl;rfl)|(apply Aa.load;rfl;rfl)|(apply Aa.AV;rfl;rfl;rfl)|(apply Aa.box;rfl;trivial)|(apply Ad.Az;rfl))
  all_goals try (exfalso;omega)
  all_goals try contradiction
  apply Ad.H8 (4) (fun k=>∀ i,i<k→0≤gi (Eh q.IE) i∧gi (Eh q.IE) i≤100000) [(1,_),(40,_)] [(0,_)] (fun k r=>(41,.p (.int .i64 (k:Int)))::r) (fun k r=>r) 1
  ·first|omega|decide
  ·first|omega|decide
  ·repeat (first|exact Ap.nil|(refine Ap.eq rfl ?_ ?_;(first|exact PV.Ac rfl|(simp [PV.under,AZ.under];done)))|refine Ap.cons trivial rfl (.of_eq (Au (by simp<;>omega))) ?_)
  ·repeat (first|exact Ak.nil|(refine Ak.eq rfl (Aj rfl) ?_ ?_;(first|exact HB.Ac rfl|exact AZ.Ag _ _|(simp [HB.under,AZ.under,PV.under];done)))|(refine Ak.cons (Aj rfl) ?_ rfl ?_ ?_;(first|exact trivial|exact AZ.Ag _ _|(simp [HB.under,AZ.under,PV.under]));(first|exact Bv.refl _|exact Bv.vec (Bl.refl _) (by simp))))
  ·first|(intro _ _;omega)|omega|trivial
  ·intro k hk hi
   have hw:=tZ q.IE hk
   by_cases hb:0≤gi (Eh q.IE) k∧gi (Eh q.IE) k≤100000
   ·repeat' (first|apply Ad.AA|apply Ad.region|apply Ad.Ar|apply Ad.Ai|apply AU.normal|apply AO.normal|apply Ad.skip|apply Af.nil|apply Af.one|(apply Af.take;rfl;rfl)|(apply Af.guard;rfl;rfl)|(apply Aa.iL;rfl;rfl;rfl;rfl;rfl;omega;exact hw)|(apply Aa.assign;rfl)|(apply Aa.move;rfl)|(apply Aa.Bz;rfl;rfl;omega)|(apply Aa.int;rfl;rfl;rfl)|(apply Aa.AQ;rfl;rfl)|(apply Ad.Ae;rfl)|(apply Ad.AY;rfl)|(intro _;try (exfalso;omega)))
    all_goals try (exfalso;omega)
    refine Aw.normal ⟨(all_succ hi hb),by first|omega|decide,?_,?_⟩
    ·repeat (first|exact Ap.nil|refine Ap.same (by exact PV.Ac rfl) rfl ?_|refine Ap.cons trivial rfl (.of_eq (Au (by simp<;>omega))) ?_)
    ·repeat (first|exact Ak.nil|(refine Ak.cons (Aj rfl) ?_ rfl ?_ ?_;(first|exact HB.Ac rfl|exact AZ.Ag _ _|(simp [HB.under,AZ.under,PV.under]));(first|exact Bv.refl _|exact Bv.vec (Bl.refl _) (by simp))))
   ·repeat' (first|apply Ad.AA|apply Ad.Ar|apply Ad.Ai|apply AU.ret|apply AO.ret|apply Aw.ret|apply Ad.ret|apply Af.nil|apply Af.one|(apply Af.take;rfl;rfl)|(apply Af.drop;rfl;rfl;rfl)|(apply Af.guard;rfl;rfl)|(apply Aa.iL;rfl;rfl;rfl;rfl;rfl;omega;exact hw)|(apply Aa.assign;rfl)|(apply Aa.move;rfl)|(apply Aa.int;rfl;rfl;rfl)|(apply Aa.Bo;rfl;rfl)|(apply Aa.AQ;rfl;rfl)|(apply Ad.Ae;rfl)|(apply Ad.cond_true;rfl)|(apply Ad.AY;rfl)|(intro _;try (exfalso;omega)))
    all_goals first|(exfalso;omega)|contradiction|(refine Done.ret rfl (.refl _) (by exact PV.Ac rfl) Ak.nil (Nat.zero_le _) (Nat.le_refl _) ⟨?_,rfl,rfl⟩;try rfl)
  ·intro hi
   exact absurd hi e4
 rw [if_neg (fun h=>h e4)]
 repeat' (first|apply Ad.assoc|apply Ad.AA|apply Ad.Ar|apply Ad.Ai|apply Af.nil|apply Af.one|(apply Aa.fn;rfl;rfl;exact fP;intro _;rfl)|(apply Aa.fn;rfl;rfl;exact hcR;intro _;rfl)|(apply Aa.fn;rfl;rfl;exact xq;intro _;rfl)|(apply Aa.uo;rfl;rfl;rfl;rfl;rfl)|(apply Aa.assign;rfl)|(apply Aa.move;rfl)|(apply Aa.int;rfl;rfl;rfl)|(apply Aa.load;rfl;rfl)|(apply Aa.AV;rfl;rfl;rfl)|(apply Aa.box;rfl;trivial)|(apply Ad.Az;rfl))
 all_goals try (exfalso;omega)
 all_goals try contradiction
 apply Ad.H8 (4) (fun k=>True) [(1,_),(40,_)] [(0,_)] (fun k r=>(41,.p (.int .i64 (k:Int)))::r) (fun k r=>r) 1
 ·first|omega|decide
 ·first|omega|decide
 ·repeat (first|exact Ap.nil|(refine Ap.eq rfl ?_ ?_;(first|exact PV.Ac rfl|(simp [PV.under,AZ.under];done)))|refine Ap.cons trivial rfl (.of_eq (Au (by simp<;>omega))) ?_)
 ·repeat (first|exact Ak.nil|(refine Ak.eq rfl (Aj rfl) ?_ ?_;(first|exact HB.Ac rfl|exact AZ.Ag _ _|(simp [HB.under,AZ.under,PV.under];done)))|(refine Ak.cons (Aj rfl) ?_ rfl ?_ ?_;(first|exact trivial|exact AZ.Ag _ _|(simp [HB.under,AZ.under,PV.under]));(first|exact Bv.refl _|exact Bv.vec (Bl.refl _) (by simp))))
 ·first|(intro _ _;omega)|omega|trivial
 ·intro k hk _
  have hw:=tZ q.IE hk
  have hb:=e4 k hk
  repeat' (first|apply Ad.AA|apply Ad.region|apply Ad.Ar|apply Ad.Ai|apply AU.normal|apply AO.normal|apply Ad.skip|apply Af.nil|apply Af.one|(apply Af.take;rfl;rfl)|(apply Af.guard;rfl;rfl)|(apply Aa.iL;rfl;rfl;rfl;rfl;rfl;omega;exact hw)|(apply Aa.assign;rfl)|(apply Aa.move;rfl)|(apply Aa.Bz;rfl;rfl;omega)|(apply Aa.int;rfl;rfl;rfl)|(apply Aa.AQ;rfl;rfl)|(apply Ad.Ae;rfl)|(apply Ad.AY;rfl)|(intro _;try (exfalso;omega)))
  all_goals try (exfalso;omega)
  refine Aw.normal ⟨trivial,by first|omega|decide,?_,?_⟩
  ·repeat (first|exact Ap.nil|refine Ap.same (by exact PV.Ac rfl) rfl ?_|refine Ap.cons trivial rfl (.of_eq (Au (by simp<;>omega))) ?_)
  ·repeat (first|exact Ak.nil|(refine Ak.cons (Aj rfl) ?_ rfl ?_ ?_;(first|exact HB.Ac rfl|exact AZ.Ag _ _|(simp [HB.under,AZ.under,PV.under]));(first|exact Bv.refl _|exact Bv.vec (Bl.refl _) (by simp))))
 ·intro _
  by_cases e5:(Ce q.Df q.reg).length>60
  ·rw [if_pos (.inl e5)]
   repeat' (first|apply Ad.assoc|apply Ad.AA|apply Ad.BI|apply Ad.A8|apply AU.normal|apply AO.exit|apply Aw.exit|apply Af.nil|apply Af.one|(apply Af.drop;rfl;rfl;rfl)|(apply Af.guard;rfl;rfl)|(apply Aa.fn;rfl;rfl;exact hdr;intro _;rfl)|(apply Aa.assign;rfl)|(apply Aa.move;rfl)|(apply Aa.int;rfl;rfl;rfl)|(apply Aa.load;rfl;rfl)|(apply Aa.Bo;rfl;rfl)|(apply Aa.BQ;rfl;rfl)|(apply Aa.AV;rfl;rfl;rfl)|(apply Ad.Bc;rfl)|(apply Ad.Az;rfl)|(intro _;try (exfalso;omega)))
   all_goals try (exfalso;omega)
   all_goals try contradiction
   all_goals first|(exfalso;omega)|contradiction|(refine Done.ret rfl (.refl _) (by exact PV.Ac rfl) Ak.nil (Nat.zero_le _) (Nat.le_refl _) ⟨?_,rfl,rfl⟩;try rfl)
  ·by_cases e6:(Dj q.tgt).length>120
   ·rw [if_pos (.inr e6)]
    repeat' (first|apply Ad.assoc|apply Ad.AA|apply Ad.BI|apply Ad.A8|apply AU.normal|(apply Bq.ret;rfl)|apply AO.exit|apply Aw.exit|apply Ad.ret|apply Af.nil|apply Af.one|(apply Af.take;rfl;rfl)|(apply Af.guard;rfl;rfl)|(apply Aa.fn;rfl;rfl;exact hdr;intro _;rfl)|(apply U6;rfl;rfl;rfl;exact le_dec rfl)|(apply Aa.mY [1] (hcl);rfl;rfl;exact .of_eq rfl;exact AZ.Ac rfl;exact Gl rfl;(repeat (first|exact trivial|refine ⟨⟨_,rfl,.of_eq rfl⟩,?_⟩));decide;(intro _ hb;first|(simp at hb;done)|(simp at hb ⊢<;>omega));(rintro _ _ _ ⟨rfl,rfl,rfl⟩))|(apply Aa.makeFunc;rfl;rfl)|(apply Aa.assign;rfl)|(apply Aa.move;rfl)|(apply Aa.int;rfl;rfl;rfl)|(apply Aa.load;rfl;rfl)|(apply Aa.AQ;rfl;rfl)|(apply Aa.BQ;rfl;rfl)|(apply Aa.lenV;rfl;rfl;rfl)|(apply Aa.AV;rfl;rfl;rfl)|(apply Aa.box;rfl;trivial)|(apply Ad.Az;rfl)|(apply Ad.Ae;rfl)|(intro _;try (exfalso;omega)))
    all_goals try (exfalso;omega)
    all_goals try contradiction
    all_goals first|(exfalso;omega)|contradiction|(refine Done.ret rfl (.refl _) (by exact PV.Ac rfl) Ak.nil (Nat.zero_le _) (Nat.le_refl _) ⟨?_,rfl,rfl⟩;try rfl)
   ·rw [if_neg (by omega)]
    repeat' (first|apply Ad.assoc|apply Ad.AA|apply Ad.Ar|apply Ad.A8|apply AU.normal|(apply Bq.ret;rfl)|apply AO.exit|apply Aw.exit|apply Ad.ret|apply Af.nil|apply Af.one|(apply Af.take;rfl;rfl)|(apply Af.guard;rfl;rfl)|(apply Aa.fn;rfl;rfl;exact hdr;intro _;rfl)|(apply U6;rfl;rfl;rfl;exact le_dec rfl)|(apply Aa.mY [1] (hcl);rfl;rfl;exact .of_eq rfl;exact AZ.Ac rfl;exact Gl rfl;(repeat (first|exact trivial|refine ⟨⟨_,rfl,.of_eq rfl⟩,?_⟩));decide;(intro _ hb;first|(simp at hb;done)|(simp at hb ⊢<;>omega));(rintro _ _ _ ⟨rfl,rfl,rfl⟩))|(apply Aa.makeFunc;rfl;rfl)|(apply Aa.assign;rfl)|(apply Aa.move;rfl)|(apply Aa.int;rfl;rfl;rfl)|(apply Aa.load;rfl;rfl)|(apply Aa.AQ;rfl;rfl)|(apply Aa.BQ;rfl;rfl)|(apply Aa.lenV;rfl;rfl;rfl)|(apply Aa.AV;rfl;rfl;rfl)|(apply Aa.box;rfl;trivial)|(apply Ad.Az;rfl)|(apply Ad.Ae;rfl)|(intro _;try (exfalso;omega)))
    all_goals try (exfalso;omega)
    all_goals try contradiction
    all_goals first|(exfalso;omega)|contradiction|(refine Done.ret rfl (.refl _) (by exact PV.Ac rfl) Ak.nil (Nat.zero_le _) (Nat.le_refl _) ⟨?_,rfl,rfl⟩;try rfl)
end Go.Proofs.YtdabojnmoejilaaGreatDoor
namespace Go.Proofs.YtdabojnmoejilaaGreatDoor
open Go Go.Am Go.Vm
instance a9v:Enc (List Int):={ default:=[],enc:=fun l=>[.lst 3 (cells l) l.length],size:=1,len:=fun _=>rfl }
attribute [local irreducible] Aa Af Aq Ad BF AX Ci AU AO Aw Vm.Done CS Bq
theorem cO (n:Nat) (hn:n<4294967296):AX env 120 [.int .u64 1,.int .u64 (n:Int)] (.EW [.p (.int .u64 0),.p (.int .u64 (n:Int))]):=by
 have e1:n &&& 4294967295=n:=by
  have:=Nat.and_two_pow_sub_one_eq_mod n 32
  rw [show (2 ^ 32-1:Nat)=4294967295 from rfl] at this
  rw [this]
  exact Nat.mod_eq_of_lt (by simpa using hn)
 have hA1:FP .and .u64 (n:Int) 4294967295=some (.int .u64 (n:Int)):=by
  have h0:=bits_and_u64_nat n 4294967295 (by omega) (by omega)
  rw [e1] at h0
  exact congrArg (fun x=>some (FV.int .u64 x)) h0
 have hA2:FP .mul .u64 1 (n:Int)=some (.int .u64 (n:Int)):=by
  simp only [FP,Int.one_mul];rw [wrap_u64 (by omega) (by omega)]
 have hZ:FP .mul .u64 0 (n:Int)=some (.int .u64 0):=by
  simp only [FP,Int.zero_mul];rfl
 have hS:∀ a:Int,0≤a→a<4294967296→(FV.int .u64 0)=if BinOp.shr=.shl then FV.int .u64 (IntKind.u64.wrap (a*2 ^ (min (32:Int).toNat IntKind.u64.bits))) else .int .u64 (a.fdiv (2 ^ (min (32:Int).toNat IntKind.u64.bits))):=fun a h0 h1=>by
  rw [if_neg (by decide)]
  have e3:(min (32:Int).toNat IntKind.u64.bits)=32:=rfl
  rw [e3,Int.fdiv_eq_ediv_of_nonneg _ (by decide)]
  have:a / 2 ^ 32=0:=by omega
  rw [this]
 have k1:FP .and .u64 1 4294967295=some (.int .u64 1):=rfl
 have k2:FP .and .u64 0 4294967295=some (.int .u64 0):=rfl
 have k3:FP .mul .u64 1 0=some (.int .u64 0):=rfl
 have k4:FP .mul .u64 0 0=some (.int .u64 0):=rfl
 have k5:FP .add .u64 0 0=some (.int .u64 0):=rfl
 refine AX.enter (AB (by decide)) Tryz.func120 rfl (by kernel_rfl) (by simp [Tryz.ntmps120]) ?_
 repeat' (first|apply Ad.AA|apply Ad.ret|apply Af.nil|apply Af.one|(apply Aa.shift (r:=.int .u64 0);exact .inr rfl;rfl;rfl;decide;exact hS _ (by omega) (by omega))|(apply Aa.int;rfl;rfl;exact hA1)|(apply Aa.int;rfl;rfl;exact hA2)|(apply Aa.int;rfl;rfl;exact hZ)|(apply Aa.int;rfl;rfl;exact k1)|(apply Aa.int;rfl;rfl;exact k2)|(apply Aa.assign;rfl)|(apply Aa.move;rfl))
 (refine Done.ret rfl (.refl _) (by exact PV.Ac rfl) Ak.nil (Nat.zero_le _) (Nat.le_refl _) ⟨?_,rfl,rfl⟩;try rfl)
theorem pG (n:Nat) (hn:n<4294967296):AX env 100 [.int .u64 1,.int .u64 (n:Int)] (.EW [.p (.int .u64 0),.p (.int .u64 (n:Int))]):=by
 have h:=cO n hn
 refine AX.enter (AB (by decide)) Tryz.func100 rfl (by kernel_rfl) (by simp [Tryz.ntmps100]) ?_
 repeat' (first|apply Ad.AA|apply Ad.Ar|apply Ad.ret|apply Af.nil|apply Af.one|(apply Aa.fn;rfl;rfl;exact h;intro _;rfl)|(apply Aa.assign;rfl)|(apply Aa.move;rfl)|(apply Aa.extract;rfl;rfl)|(apply Ad.Az;rfl))
 (refine Done.ret rfl (.refl _) (by exact PV.Ac rfl) Ak.nil (Nat.zero_le _) (Nat.le_refl _) ⟨?_,rfl,rfl⟩;try rfl)
def OJ (n k:Nat) (v:Int):List Int:=List.replicate k v++List.replicate (n-k) 0
theorem Qj (n k:Nat) (v:Int) (h:k≤n):(OJ n k v).length=n:=by simp [OJ];omega
theorem vF (n:Nat) (v:Int):OJ n n v=List.replicate n v:=by simp [OJ]
theorem qW (n:Nat) (v:Int) (h:0<n):BJ (cells (List.replicate n (0:Int))) 0 [FV.int .i64 v]=cells (OJ n 1 v):=by
 have:=QF (List.replicate n (0:Int)) [v] 0 (by simp;omega)
 rw [Nat.zero_mul] at this
 show BJ (cells (List.replicate n (0:Int))) 0 (cells [v])=_
 rw [this]
 congr 1
 simp [OJ]
theorem yg (n k:Nat) (v:Int) (h:k≤n):0+k*1≤(cells (OJ n k v)).length:=by
 rw [BK,Qj n k v h]
 show 0+k*1≤n*1
 omega
theorem vS (n k:Nat) (v:Int) (h:k≤n):cells (List.replicate (min k (n-k)) v)=((cells (OJ n k v)).drop 0).take (min k (n-k)*1):=by
 have:=Ku (OJ n k v) (min k (n-k))
 rw [List.drop_zero]
 refine Eq.trans ?_ this.symm
 congr 1
 unfold OJ
 rw [List.take_append_of_le_length (by simp;omega),List.take_replicate]
 congr 1
 omega
theorem xM (n k:Nat) (v:Int):(cells (List.replicate (min k (n-k)) v)).length=min k (n-k)*1:=by
 rw [BK,List.length_replicate];rfl
theorem nK (n k:Nat) (v:Int) (h:k≤n):0+k*1+min k (n-k)*1≤(cells (OJ n k v)).length:=by
 rw [BK,Qj n k v h]
 show _≤n*1
 omega
theorem ru (n k:Nat) (v:Int) (h:k≤n):BJ (cells (OJ n k v)) (0+k*1) (cells (List.replicate (min k (n-k)) v))=cells (OJ n (k+min k (n-k)) v):=by
 have:=QF (OJ n k v) (List.replicate (min k (n-k)) v) k (by rw [Qj n k v h];simp;omega)
 rw [Nat.zero_add]
 refine Eq.trans this ?_
 congr 1
 unfold OJ
 rw [List.take_append_of_le_length (by simp),List.take_replicate,Nat.min_self,List.length_replicate,List.drop_append,List.drop_of_length_le (by simp),List.length_replicate,List.nil_append,List.drop_replicate,List.replicate_append_replicate]
 congr 2
 omega
theorem Uw (e:TypeId) (v:Int) (n:Nat) (h0:0<n) (hn:n<1000000):Ci env 71 [.lst e [.int .i64 v] 1,.int .i64 (n:Int)] 3 (cells (List.replicate n v)) n false:=by
 have hm:=pG n (by omega)
 refine Ci.enter (AB (by decide)) Tryz.func71 rfl (by kernel_rfl) (by simp [Tryz.ntmps71]) ?_
 repeat' (first|apply Ad.assoc|apply Ad.AA|apply Ad.Ar|apply Ad.Ai|apply Af.nil|apply Af.one|(apply Af.take;rfl;rfl)|(apply Aa.fn;rfl;rfl;exact hm;intro _;rfl)|(apply Aa.ED n (0:Int);rfl;rfl;rfl;rfl;rfl;rfl;rfl;omega;decide;decide;rfl)|(apply Aa.copy (k:=1) (N:=1) (xs:=[.int .i64 v]);rfl;rfl;exact h0;rfl;rfl;decide;exact SlT.lst rfl rfl (Nat.le_refl 1) rfl;omega;decide;rfl;(rw [BK,List.length_replicate];show 0+1*1≤n*1;omega))|(apply Aa.assign;rfl)|(apply Aa.move;rfl)|(apply Aa.int;rfl;rfl;rfl)|(apply Aa.AQ;rfl;rfl)|(apply Aa.BQ;rfl;rfl)|(apply Aa.extract;rfl;rfl)|(apply Aa.DZ;rfl;rfl;rfl;rfl;omega)|(apply Aa.XO;rfl;rfl;rfl;rfl;omega)|(apply Ad.Az;rfl)|(apply Ad.Ae;rfl)|(intro _;try (exfalso;omega)))
 all_goals try (exfalso;omega)
 refine Ad.Ee (fun k:Nat=>[(7,.vec 0 n 0 n),(8,.p (.int .i64 (k:Int)))]) (fun k=>[(0,.vec 3 (cells (OJ n k v)) n false)]) 1 (fun k=>1≤k∧k≤n) (fun k=>n-k) 1 (by omega) ⟨by omega,by omega⟩ ⟨by omega,?_,?_⟩ ?_
 ·repeat (first|exact Ap.nil|refine Ap.same (by exact PV.Ac rfl) rfl ?_|refine Ap.cons trivial rfl (.of_eq (Au (by simp<;>omega))) ?_)
 ·have:=qW n v h0
  rw [this]
  repeat (first|exact Ak.nil|(refine Ak.cons (Aj rfl) ?_ rfl ?_ ?_;(first|exact HB.Ac rfl|exact AZ.Ag _ _|(simp [HB.under,AZ.under,PV.under]));(first|exact Bv.refl _|exact Bv.vec (Bl.refl _) (by simp))))
 ·rintro k ⟨k1,k2⟩
  have hl:=Qj n k v k2
  by_cases hk:k<n
  ·repeat' (first|apply Ad.assoc|apply Ad.AA|apply Ad.Fq|apply Ad.Ar|apply AO.normal|apply Ad.Fv|apply Af.nil|apply Aq.nil|apply Af.one|(apply Aq.bar;decide +kernel)|apply Aq.quiet|(apply Aa.Zq (sz:=1) (a:=k) (c:=n);rfl;rfl;exact h0;rfl;rfl;rfl;exact ⟨_,rfl⟩;rfl;omega;exact Nat.le_refl _)|(apply Aa.Zq (sz:=1) (a:=0) (c:=k);rfl;rfl;exact h0;rfl;rfl;rfl;rfl;exact ⟨_,rfl⟩;omega;exact k2)|(apply Aa.copy (k:=min k (n-k)) (N:=k) (xs:=cells (List.replicate (min k (n-k)) v));rfl;rfl;exact h0;rfl;rfl;decide;exact SlT.vec rfl rfl h0 (yg n k v k2) (by omega) (vS n k v k2);rfl;omega;exact xM n k v;exact nK n k v k2)|(apply Aa.assign;rfl)|(apply Aa.move;rfl)|(apply Aa.Bz;rfl;rfl;omega)|(apply Aa.int;rfl;rfl;rfl)|(apply Aa.lenV;rfl;rfl;rfl)|(apply Ad.Ae;rfl)|(intro _;try (exfalso;omega)))
   refine Aw.normal ⟨k+min k (n-k),⟨by omega,by omega⟩,by omega,⟨by omega,?_,?_⟩⟩
   ·repeat (first|exact Ap.nil|refine Ap.same (by exact PV.Ac rfl) rfl ?_|refine Ap.cons trivial rfl (.of_eq (Au (by simp<;>omega))) ?_)
   ·rw [ru n k v k2]
    repeat (first|exact Ak.nil|(refine Ak.cons (Aj rfl) ?_ rfl ?_ ?_;(first|exact HB.Ac rfl|exact AZ.Ag _ _|(simp [HB.under,AZ.under,PV.under]));(first|exact Bv.refl _|exact Bv.vec (Bl.refl _) (by simp))))
  ·obtain rfl:k=n:=by omega
   repeat' (first|apply Ad.assoc|apply Ad.AA|apply Ad.A8|apply AU.normal|apply AO.exit|apply Aw.exit|apply Ad.ret|apply Af.nil|apply Af.one|(apply Aa.assign;rfl)|(apply Aa.move;rfl)|(apply Aa.int;rfl;rfl;rfl)|(apply Aa.lenV;rfl;rfl;rfl)|(apply Ad.Ae;rfl)|(intro _;try (exfalso;omega)))
   rw [vF]
   exact CS.ret rfl rfl rfl rfl
end Go.Proofs.YtdabojnmoejilaaGreatDoor
namespace Go.Proofs.YtdabojnmoejilaaGreatDoor
open Go Go.Am Go.Vm Go.Tra
attribute [local irreducible] Aa Af Aq Ad BF AX Ci AU AO Aw Vm.Done CS Bq
attribute [local irreducible] DW DN Je Kz QO Dc
def xC (F T:D7) (a b:Q8):Int:=(Dc (Ih T b).Dp (Ih F a).Dp).1
def ShB (F T:D7):Prop:=∀ a b,Jr F a→Jr T b→(Dc (Ih T b).Dp (Ih F a).Dp).2=0∧-1000≤xC F T a b∧xC F T a b≤1000
def O9 (F T:D7) (w:U2) (a b:Q8):Int :=
 (if X4 F a=X4 T b then 0 else w.Ep)+w.J5*max (xC F T a b) (-xC F T a b)+(if (gi F.Ah a.d).Dx=(gi T.Ah b.d).Dx then 0 else w.Dx)
theorem Ro {w:U2} (h:KQ w):(0≤w.Ep∧w.Ep≤100000)∧(0≤w.J5∧w.J5≤100000)∧(0≤w.Dx∧w.Dx≤100000)∧(0≤w.miss∧w.miss≤100000):=⟨h 0 (by omega),h 1 (by omega),h 2 (by omega),h 3 (by omega)⟩
theorem TW {w:U2} (h:KQ w) {n:Int} (h1:-1000≤n) (h2:n≤1000):0≤w.J5*max n (-n)∧w.J5*max n (-n)≤100000000:=by
 obtain ⟨_,⟨p1,p2⟩,_,_⟩:=Ro h
 have m1:0≤max n (-n):=by omega
 have m2:max n (-n)≤1000:=by omega
 refine ⟨Int.mul_nonneg p1 m1,?_⟩
 have:=Int.mul_le_mul p2 m2 m1 (by omega)
 omega
theorem jH {F T:D7} {w:U2} (h:KQ w) (hs:ShB F T) {a b:Q8} (ha:Jr F a) (hb:Jr T b):0≤O9 F T w a b∧O9 F T w a b≤101000000:=by
 obtain ⟨t,_,p,_⟩:=Ro h
 obtain ⟨_,s1,s2⟩:=hs a b ha hb
 have:=TW h s1 s2
 unfold O9
 generalize w.J5*max (xC F T a b) (-xC F T a b)=P at *
 split<;>split<;>omega
theorem gW (q:P5) (k1:KU q.Df) (k2:KU q.tgt) (hw:KQ q.IE) (hs:ShB q.Df q.tgt) (a b:Q8) (ha:Jr q.Df a) (hb:Jr q.tgt b) :
 AX env 66 [.agg (Enc.enc q),.agg (Enc.enc a),.agg (Enc.enc b)] (.EW [.p (.int .i64 (O9 q.Df q.tgt q.IE a b)),.p (.int .i64 0)]):=by
 obtain ⟨t,_,p,_⟩:=Ro hw
 obtain ⟨s0,s1,s2⟩:=hs a b ha hb
 have hP:=TW hw s1 s2
 have h1:=V7 q.Df k1 a ha
 have h2:=V7 q.tgt k2 b hb
 have h3:=PS q.Df k1 a ha
 have h4:=PS q.tgt k2 b hb
 have h5:=Nw (Ih q.tgt b).Dp (Ih q.Df a).Dp
 rw [s0,show (Dc (Ih q.tgt b).Dp (Ih q.Df a).Dp).1=xC q.Df q.tgt a b from rfl] at h5
 unfold O9
 generalize xC q.Df q.tgt a b=n at *
 generalize hPP:q.IE.J5*max n (-n)=P at *
 have hmul:-9223372036854775808≤q.IE.J5*max n (-n)∧q.IE.J5*max n (-n)<9223372036854775808:=by rw [hPP];omega
 obtain ⟨a1,a2⟩:=ha
 obtain ⟨b1,b2⟩:=hb
 refine AX.enter (AB (by decide)) Tryz.func66 rfl (by kernel_rfl) (by simp [Tryz.ntmps66]) ?_
 by_cases e1:X4 q.Df a=X4 q.tgt b
 ·rw [if_pos e1]
  have d1:=decide_eq_true e1
  by_cases e2:(gi q.Df.Ah a.d).Dx=(gi q.tgt.Ah b.d).Dx
  ·rw [if_pos e2]
   have d2:((gi q.Df.Ah a.d).Dx != (gi q.tgt.Ah b.d).Dx)=false:=by rw [e2];simp
   repeat' (first|apply Ad.assoc|apply Ad.AA|apply Ad.Bj|apply Ad.Ar|apply Ad.ret|apply Af.nil|apply Aq.nil|apply Af.one|(apply Aq.bar;decide +kernel)|apply Aq.quiet|(apply Aa.fn;rfl;rfl;exact h1;intro _;rfl)|(apply Aa.fn;rfl;rfl;exact h2;intro _;rfl)|(apply Aa.fn;rfl;rfl;exact h3;intro _;rfl)|(apply Aa.fn;rfl;rfl;exact h4;intro _;rfl)|(apply Aa.fn;rfl;rfl;exact h5;intro _;rfl)|(apply Aa.VG;rfl;rfl;rfl;rfl)|(apply Aa.zu;rfl;rfl;exact d1)|(apply Aa.zG;rfl;rfl;rfl;exact d2)|(apply Aa.KA;rfl;rfl;exact hmul)|(apply Aa.Ba (l:=q.Df.Ah) (i:=a.d);rfl;rfl;rfl;exact a1;rfl)|(apply Aa.Ba (l:=q.tgt.Ah) (i:=b.d);rfl;rfl;rfl;exact b1;rfl)|(apply Aa.assign;rfl)|(apply Aa.move;rfl)|(apply Aa.Bz;rfl;rfl;omega)|(apply Aa.int;rfl;rfl;rfl)|(apply Aa.load;rfl;rfl)|(apply Aa.AV;rfl;rfl;rfl)|(apply Aa.Fa;rfl;rfl)|(apply Aa.box;rfl;trivial)|(apply Aa.neg;rfl;omega)|(apply Aa.qA;rfl;rfl)|(apply Aa.extract;rfl;rfl)|(apply Ad.Az;rfl))
   all_goals try (exfalso;omega)
   all_goals (refine Done.ret rfl (.refl _) (by exact PV.Ac rfl) Ak.nil (Nat.zero_le _) (Nat.le_refl _) ⟨?_,rfl,rfl⟩;refine congrArg (fun x=>PV.EW [PV.p (FV.int .i64 x),PV.p (FV.int .i64 0)]) ?_;omega)
  ·rw [if_neg e2]
   have d2:((gi q.Df.Ah a.d).Dx != (gi q.tgt.Ah b.d).Dx)=true:=by simp [e2]
   repeat' (first|apply Ad.assoc|apply Ad.AA|apply Ad.Bj|apply Ad.Ar|apply Ad.ret|apply Af.nil|apply Aq.nil|apply Af.one|(apply Aq.bar;decide +kernel)|apply Aq.quiet|(apply Aa.fn;rfl;rfl;exact h1;intro _;rfl)|(apply Aa.fn;rfl;rfl;exact h2;intro _;rfl)|(apply Aa.fn;rfl;rfl;exact h3;intro _;rfl)|(apply Aa.fn;rfl;rfl;exact h4;intro _;rfl)|(apply Aa.fn;rfl;rfl;exact h5;intro _;rfl)|(apply Aa.VG;rfl;rfl;rfl;rfl)|(apply Aa.zu;rfl;rfl;exact d1)|(apply Aa.zG;rfl;rfl;rfl;exact d2)|(apply Aa.KA;rfl;rfl;exact hmul)|(apply Aa.Ba (l:=q.Df.Ah) (i:=a.d);rfl;rfl;rfl;exact a1;rfl)|(apply Aa.Ba (l:=q.tgt.Ah) (i:=b.d);rfl;rfl;rfl;exact b1;rfl)|(apply Aa.assign;rfl)|(apply Aa.move;rfl)|(apply Aa.Bz;rfl;rfl;omega)|(apply Aa.int;rfl;rfl;rfl)|(apply Aa.load;rfl;rfl)|(apply Aa.AV;rfl;rfl;rfl)|(apply Aa.Fa;rfl;rfl)|(apply Aa.box;rfl;trivial)|(apply Aa.neg;rfl;omega)|(apply Aa.qA;rfl;rfl)|(apply Aa.extract;rfl;rfl)|(apply Ad.Bc;rfl)|(apply Ad.Az;rfl))
   all_goals try (exfalso;omega)
   all_goals (refine Done.ret rfl (.refl _) (by exact PV.Ac rfl) Ak.nil (Nat.zero_le _) (Nat.le_refl _) ⟨?_,rfl,rfl⟩;refine congrArg (fun x=>PV.EW [PV.p (FV.int .i64 x),PV.p (FV.int .i64 0)]) ?_;omega)
 ·rw [if_neg e1]
  have d1:=decide_eq_false e1
  by_cases e2:(gi q.Df.Ah a.d).Dx=(gi q.tgt.Ah b.d).Dx
  ·rw [if_pos e2]
   have d2:((gi q.Df.Ah a.d).Dx != (gi q.tgt.Ah b.d).Dx)=false:=by rw [e2];simp
   repeat' (first|apply Ad.assoc|apply Ad.AA|apply Ad.Bj|apply Ad.Ar|apply Ad.ret|apply Af.nil|apply Aq.nil|apply Af.one|(apply Aq.bar;decide +kernel)|apply Aq.quiet|(apply Aa.fn;rfl;rfl;exact h1;intro _;rfl)|(apply Aa.fn;rfl;rfl;exact h2;intro _;rfl)|(apply Aa.fn;rfl;rfl;exact h3;intro _;rfl)|(apply Aa.fn;rfl;rfl;exact h4;intro _;rfl)|(apply Aa.fn;rfl;rfl;exact h5;intro _;rfl)|(apply Aa.VG;rfl;rfl;rfl;rfl)|(apply Aa.zu;rfl;rfl;exact d1)|(apply Aa.zG;rfl;rfl;rfl;exact d2)|(apply Aa.KA;rfl;rfl;exact hmul)|(apply Aa.Ba (l:=q.Df.Ah) (i:=a.d);rfl;rfl;rfl;exact a1;rfl)|(apply Aa.Ba (l:=q.tgt.Ah) (i:=b.d);rfl;rfl;rfl;exact b1;rfl)|(apply Aa.assign;rfl)|(apply Aa.move;rfl)|(apply Aa.Bz;rfl;rfl;omega)|(apply Aa.int;rfl;rfl;rfl)|(apply Aa.load;rfl;rfl)|(apply Aa.AV;rfl;rfl;rfl)|(apply Aa.Fa;rfl;rfl)|(apply Aa.box;rfl;trivial)|(apply Aa.neg;rfl;omega)|(apply Aa.qA;rfl;rfl)|(apply Aa.extract;rfl;rfl)|(apply Ad.Bc;rfl)|(apply Ad.Az;rfl))
   all_goals try (exfalso;omega)
   all_goals (refine Done.ret rfl (.refl _) (by exact PV.Ac rfl) Ak.nil (Nat.zero_le _) (Nat.le_refl _) ⟨?_,rfl,rfl⟩;refine congrArg (fun x=>PV.EW [PV.p (FV.int .i64 x),PV.p (FV.int .i64 0)]) ?_;omega)
  ·rw [if_neg e2]
   have d2:((gi q.Df.Ah a.d).Dx != (gi q.tgt.Ah b.d).Dx)=true:=by simp [e2]
   repeat' (first|apply Ad.assoc|apply Ad.AA|apply Ad.Bj|apply Ad.Ar|apply Ad.ret|apply Af.nil|apply Aq.nil|apply Af.one|(apply Aq.bar;decide +kernel)|apply Aq.quiet|(apply Aa.fn;rfl;rfl;exact h1;intro _;rfl)|(apply Aa.fn;rfl;rfl;exact h2;intro _;rfl)|(apply Aa.fn;rfl;rfl;exact h3;intro _;rfl)|(apply Aa.fn;rfl;rfl;exact h4;intro _;rfl)|(apply Aa.fn;rfl;rfl;exact h5;intro _;rfl)|(apply Aa.VG;rfl;rfl;rfl;rfl)|(apply Aa.zu;rfl;rfl;exact d1)|(apply Aa.zG;rfl;rfl;rfl;exact d2)|(apply Aa.KA;rfl;rfl;exact hmul)|(apply Aa.Ba (l:=q.Df.Ah) (i:=a.d);rfl;rfl;rfl;exact a1;rfl)|(apply Aa.Ba (l:=q.tgt.Ah) (i:=b.d);rfl;rfl;rfl;exact b1;rfl)|(apply Aa.assign;rfl)|(apply Aa.move;rfl)|(apply Aa.Bz;rfl;rfl;omega)|(apply Aa.int;rfl;rfl;rfl)|(apply Aa.load;rfl;rfl)|(apply Aa.AV;rfl;rfl;rfl)|(apply Aa.Fa;rfl;rfl)|(apply Aa.box;rfl;trivial)|(apply Aa.neg;rfl;omega)|(apply Aa.qA;rfl;rfl)|(apply Aa.extract;rfl;rfl)|(apply Ad.Bc;rfl)|(apply Ad.Az;rfl))
   all_goals try (exfalso;omega)
   all_goals (refine Done.ret rfl (.refl _) (by exact PV.Ac rfl) Ak.nil (Nat.zero_le _) (Nat.le_refl _) ⟨?_,rfl,rfl⟩;refine congrArg (fun x=>PV.EW [PV.p (FV.int .i64 x),PV.p (FV.int .i64 0)]) ?_;omega)
def P8 (F T:D7) (w:U2) (a:Q8) (k:Nat):List Int:=((Dj T).take k).map (O9 F T w a)
theorem dH (F T:D7) (w:U2) (a:Q8) {k:Nat} (h:k≤(Dj T).length):(P8 F T w a k).length=k:=by unfold P8;rw [List.length_map,List.length_take];omega
theorem nD (F T:D7) (w:U2) (a:Q8) {k:Nat} (h:k<(Dj T).length):P8 F T w a (k+1)=P8 F T w a k++[O9 F T w a (gi (Dj T) k)]:=by unfold P8;rw [DJ h,List.map_append];rfl
def Jb (F T:D7) (r:Rgs) (w:U2) (k:Nat):List (List Int):=((Ce F r).take k).map fun a=>P8 F T w a (Dj T).length
def Nr (F T:D7) (r:Rgs) (w:U2):List (List Int):=(Ce F r).map fun a=>(Dj T).map (O9 F T w a)
theorem nS (F T:D7) (r:Rgs) (w:U2) {k:Nat} (h:k≤(Ce F r).length):(Jb F T r w k).length=k:=by unfold Jb;rw [List.length_map,List.length_take];omega
theorem jo (F T:D7) (r:Rgs) (w:U2) {k:Nat} (h:k<(Ce F r).length):Jb F T r w (k+1)=Jb F T r w k++[P8 F T w (gi (Ce F r) k) (Dj T).length]:=by unfold Jb;rw [DJ h,List.map_append];rfl
theorem oz (F T:D7) (r:Rgs) (w:U2):Jb F T r w (Ce F r).length=Nr F T r w:=by
 unfold Jb Nr P8
 rw [List.take_of_length_le (Nat.le_refl _),List.take_of_length_le (Nat.le_refl _)]
theorem Xm (q:P5) (k1:KU q.Df) (k2:KU q.tgt) (hw:KQ q.IE) (hs:ShB q.Df q.tgt) (hr:q.reg.Ok) (hl:q.reg.stops.length=q.Df.Ah.length) :
 AX env 43 [.agg (Enc.enc q)] (.EW [.p (.lst 52 (cells (Nr q.Df q.tgt q.reg q.IE)) (Nr q.Df q.tgt q.reg q.IE).length),.p (.int .i64 0)]):=by
 have hdr:=Uf q.Df k1 q.reg hr hl
 have b1:=F5 k2
 have b2:(Ce q.Df q.reg).length≤480:=by
  have:=F5 k1
  have:(Ce q.Df q.reg).length≤(Dj q.Df).length:=List.length_filter_le _ _
  omega
 refine AX.enter (AB (by decide)) Tryz.func43 rfl (by kernel_rfl) (by simp [Tryz.ntmps43]) ?_
 repeat' (first|apply Ad.assoc|apply Ad.AA|apply Ad.Ai|apply Af.nil|apply Af.one|(apply Aa.fn;rfl;rfl;exact hdr;intro _;rfl)|(apply Aa.assign;rfl)|(apply Aa.move;rfl)|(apply Aa.load;rfl;rfl)|(apply Aa.BQ;rfl;rfl)|(apply Aa.AV;rfl;rfl;rfl)|(apply Aa.box;rfl;trivial)|(apply Aa.alloc;rfl))
 all_goals try (exfalso;omega)
 refine Ad.ghost (AL.adopt 4 52 rfl) ?_
 apply Ad.EF ((Ce q.Df q.reg).length) [(1,_),(2,_),(3,_),(15,_),(16,_)] [(0,_),(1,_),(2,_)] (fun k r=>(4,.vec 3 (Jb q.Df q.tgt q.reg q.IE k).length 0 (Jb q.Df q.tgt q.reg q.IE k).length)::(17,.p (.int .i64 (k:Int)))::r) (fun k r=>(3,.vec 52 (cells (Jb q.Df q.tgt q.reg q.IE k)) (Jb q.Df q.tgt q.reg q.IE k).length true)::r) 4
 ·first|omega|decide
 ·first|omega|decide
 ·repeat (first|exact Ap.nil|(refine Ap.eq rfl ?_ ?_;(first|exact PV.Ac rfl|(simp [PV.under,AZ.under];done)))|refine Ap.cons trivial rfl (.of_eq (Au (by simp<;>omega))) ?_)
 ·repeat (first|exact Ak.nil|(refine Ak.eq rfl (Aj rfl) ?_ ?_;(first|exact HB.Ac rfl|exact AZ.Ag _ _|(simp [HB.under,AZ.under,PV.under];done)))|(refine Ak.cons (Aj rfl) ?_ rfl ?_ ?_;(first|exact trivial|exact AZ.Ag _ _|(simp [HB.under,AZ.under,PV.under]));(first|exact Bv.refl _|exact Bv.vec (Bl.refl _) (by simp))))
 ·intro k hk
  have ha:Jr q.Df (gi (Ce q.Df q.reg) k):=Yl (iO hk)
  have e1:=jo q.Df q.tgt q.reg q.IE hk
  have e2:(Jb q.Df q.tgt q.reg q.IE (k+1)).length=(Jb q.Df q.tgt q.reg q.IE k).length+1:=by rw [e1];simp
  have e3:=nS q.Df q.tgt q.reg q.IE (Nat.le_of_lt hk)
  repeat' (first|apply Ad.assoc|apply Ad.AA|apply Ad.Ar|apply Ad.Ai|(apply Bq.ret;rfl)|apply Ad.ret|apply Af.nil|apply Af.one|(apply U6;rfl;rfl;rfl;exact le_dec rfl)|(apply Aa.makeFunc;rfl;rfl)|(apply Aa.assign;rfl)|(apply Aa.int;rfl;rfl;rfl)|(apply Aa.Ba;rfl;rfl;rfl;omega;rfl)|(apply Aa.load;rfl;rfl)|(apply Aa.AV;rfl;rfl;rfl)|(apply Aa.box;rfl;trivial)|(apply Aa.alloc;rfl)|(apply Aa.Bd;rfl;rfl;rfl;trivial;rfl;rfl;exact Aj rfl;exact le_dec rfl)|(apply Aa.buildSlice;rfl;rfl;rfl;decide;rfl;rfl;rfl)|(apply Ad.Ae;rfl)|(intro _;try (exfalso;omega)))
  all_goals try (exfalso;omega)
  refine Ad.Ws (Dj q.tgt).length (fun j=>[.agg (Enc.enc (gi (Dj q.tgt) j))]) (fun j=>VB (gi (Dj q.tgt) j)) [(1,.ref 0 0),(2,.ref 1 0),(3,.ref 2 0),(4,.vec 3 (Jb q.Df q.tgt q.reg q.IE k).length 0 (Jb q.Df q.tgt q.reg q.IE k).length),(6,.ref 4 0),(7,.ref 6 0),(15,.p (.lst 85 (cells (Ce q.Df q.reg)) (Ce q.Df q.reg).length)),(16,.p (.int .i64 ((Ce q.Df q.reg).length:Int))),(17,.p (.int .i64 (k:Int)))]
   (fun j=>[(6,.box 52 [.vec 5 (P8 q.Df q.tgt q.IE (gi (Ce q.Df q.reg) k) j).length 0 (P8 q.Df q.tgt q.IE (gi (Ce q.Df q.reg) k) j).length]),(5,.vec 3 (cells (P8 q.Df q.tgt q.IE (gi (Ce q.Df q.reg) k) j)) (P8 q.Df q.tgt q.IE (gi (Ce q.Df q.reg) k) j).length false),(4,.box 85 ((Enc.enc (gi (Ce q.Df q.reg) k)).map .p)),
    (3,.vec 52 (cells (Jb q.Df q.tgt q.reg q.IE k)) (Jb q.Df q.tgt q.reg q.IE k).length true),(0,.box 45 ((Enc.enc q).map .p)),(1,.box 47 [.p (.val (.slice none 0 0))]),(2,.box 48 [.p (.int .i64 0)])]) 7 (fun _=>True)
   rfl rfl Tryz.func81 rfl Yw (YC q.tgt) (fun _ _=>rfl) (fun _ _=>rfl) (fun k _ m F=>.cons (.agg (.cons (.int _ _) (.cons (.int _ _) .nil)) rfl) .nil) (by omega) ⟨by omega,?_,?_⟩ ?_ (Vr k2) trivial ?_ ?_
  ·repeat (first|exact Ap.nil|refine Ap.same (by exact PV.Ac rfl) rfl ?_|refine Ap.cons trivial rfl (.of_eq (Au (by simp<;>omega))) ?_)
  ·repeat (first|exact Ak.nil|(refine Ak.cons (Aj rfl) ?_ rfl ?_ ?_;(first|exact HB.Ac rfl|exact AZ.Ag _ _|(simp [HB.under,AZ.under,PV.under]));(first|exact Bv.refl _|exact Bv.vec (Bl.refl _) (by simp))))
  ·repeat (first|exact Ap.nil|refine Ap.same (by exact PV.Ac rfl) rfl ?_|refine Ap.cons trivial rfl (.of_eq (Au (by simp<;>omega))) ?_)
  ·intro j hj _
   have hb:Jr q.tgt (gi (Dj q.tgt) j):=Ve hj
   have hlo:=gW q k1 k2 hw hs _ _ ha hb
   have f1:=nD q.Df q.tgt q.IE (gi (Ce q.Df q.reg) k) hj
   have f2:(P8 q.Df q.tgt q.IE (gi (Ce q.Df q.reg) k) (j+1)).length=(P8 q.Df q.tgt q.IE (gi (Ce q.Df q.reg) k) j).length+1:=by rw [f1];simp
   have f3:=dH q.Df q.tgt q.IE (gi (Ce q.Df q.reg) k) (Nat.le_of_lt hj)
   repeat' (first|apply Ad.region|apply Af.nil|apply Af.one|(apply Aa.alloc;rfl)|(apply Aa.Bd;rfl;rfl;rfl;trivial;rfl;rfl;exact Aj rfl;exact le_dec rfl))
   refine ⟨rfl,?_⟩
   repeat' (first|apply Ad.assoc|apply Ad.AA|apply Ad.region|apply Ad.Ar|apply AO.normal|apply Ad.Fv|apply Af.nil|apply Af.one|(apply Aa.fn;rfl;rfl;exact hlo;intro _;rfl)|(apply Aa.Dv (a:=O9 q.Df q.tgt q.IE (gi (Ce q.Df q.reg) k) (gi (Dj q.tgt) j));rfl;rfl;rfl;rfl;rfl;rfl;rfl;rfl;(intro _ h;cases h);rfl;rfl;rfl;decide;decide;(first|omega|(simp only [List.length_take,List.length_drop,List.length_append,List.length_singleton,List.length_cons,List.length_nil]<;>omega)))|(apply Aa.assign;rfl)|(apply Aa.move;rfl)|(apply Aa.int;rfl;rfl;rfl)|(apply Aa.load;rfl;rfl)|(apply Aa.Bd;rfl;rfl;rfl;trivial;rfl;rfl;exact Aj rfl;exact le_dec rfl)|(apply Aa.buildSlice;rfl;rfl;rfl;decide;rfl;rfl;rfl)|(apply Aa.extract;rfl;rfl)|(apply Ad.Az;rfl))
   all_goals try (exfalso;omega)
   refine ⟨trivial,by omega,?_⟩
   rw [f2,f1]
   repeat (first|exact Ak.nil|(refine Ak.cons (Aj rfl) ?_ rfl ?_ ?_;(first|exact HB.Ac rfl|exact AZ.Ag _ _|(simp [HB.under,AZ.under,PV.under]));(first|exact Bv.refl _|exact Bv.vec (Bl.refl _) (by simp))))
  ·intro _
   have f3:=dH q.Df q.tgt q.IE (gi (Ce q.Df q.reg) k) (Nat.le_refl (Dj q.tgt).length)
   repeat' (first|(refine Ad.atEnd 12 ?_;refine Ad.ghost (AL.AP 6 0 rfl rfl rfl) ?_;first|apply Ad.region|apply Ad.Fq)|apply Ad.region|apply AU.normal|apply AO.normal|apply Af.nil|apply Af.one|(apply Aa.Dv (a:=P8 q.Df q.tgt q.IE (gi (Ce q.Df q.reg) k) (Dj q.tgt).length);rfl;rfl;rfl;rfl;rfl;rfl;rfl;rfl;(intro _ h;cases h);rfl;rfl;rfl;decide;decide;(first|omega|(simp only [List.length_take,List.length_drop,List.length_append,List.length_singleton,List.length_cons,List.length_nil]<;>omega)))|(apply Aa.assign;rfl)|(apply Aa.move;rfl)|(apply Aa.Bz;rfl;rfl;omega)|(apply Aa.load;rfl;rfl)|(apply Aa.buildSlice;rfl;rfl;rfl;decide;rfl;rfl;rfl))
   all_goals try (exfalso;omega)
   refine Aw.normal ⟨by omega,?_,?_⟩
   ·rw [e2]
    repeat (first|exact Ap.nil|refine Ap.same (by exact PV.Ac rfl) rfl ?_|refine Ap.cons trivial rfl (.of_eq (Au (by simp<;>omega))) ?_)
   ·rw [e2,e1]
    repeat (first|exact Ak.nil|(refine Ak.cons (Aj rfl) ?_ rfl ?_ ?_;(first|exact HB.Ac rfl|exact AZ.Ag _ _|(simp [HB.under,AZ.under,PV.under]));(first|exact Bv.refl _|exact Bv.vec (Bl.refl _) (by simp))))
 ·rw [oz]
  repeat' (first|(refine Af.He 45 ?_;refine Af.ghost (AL.freeze 4 rfl rfl) ?_)|apply Ad.AA|apply Ad.A8|apply AU.normal|apply AO.exit|apply Aw.exit|apply Ad.ret|apply Af.nil|apply Af.one|(apply Aa.move;rfl)|(apply Aa.int;rfl;rfl;rfl)|(apply Aa.Bd;rfl;rfl;rfl;trivial;rfl;rfl;exact Aj rfl;exact le_dec rfl)|(apply Ad.Ae;rfl)|(intro _;try (exfalso;omega)))
  all_goals first|(exfalso;omega)|(refine Done.ret rfl (.refl _) (by exact PV.Ac rfl) Ak.nil (Nat.zero_le _) (Nat.le_refl _) ⟨?_,rfl,rfl⟩;try rfl)
end Go.Proofs.YtdabojnmoejilaaGreatDoor
namespace Go.Hun
open Go.Vm
structure Ix where
 n:Nat
instance:Enc Ix:={ default:=⟨0⟩,enc:=fun x=>[.int .i64 (x.n:Int)],size:=1,len:=fun _=>rfl }
instance:Inhabited Ix:=⟨⟨0⟩⟩
instance a6g:Enc Bool:={ default:=false,enc:=fun b=>[.bool b],size:=1,len:=fun _=>rfl }
def far:Int:=1152921504606846976
structure qL where
 least:List Int
 way:List Ix
 delta:Int
 next:Nat
def Un (row:List Int) (ur:Int) (v:List Int) (k:Nat):Int:=gi row (k-1)-ur-gi v k
def Lm (row:List Int) (ur:Int) (v:List Int) (done:List Bool) (a:Nat) (s:qL) (k:Nat):qL :=
 if gi done k=true then s
 else if Un row ur v k<gi s.least k then
  (if Un row ur v k<s.delta then ⟨s.least.set k (Un row ur v k),s.way.set k ⟨a⟩,Un row ur v k,k⟩ else ⟨s.least.set k (Un row ur v k),s.way.set k ⟨a⟩,s.delta,s.next⟩)
 else if gi s.least k<s.delta then ⟨s.least,s.way,gi s.least k,k⟩ else s
def KI (row:List Int) (ur:Int) (v:List Int) (done:List Bool) (a:Nat) (s0:qL):Nat→qL
 |0=>s0
 |j+1=>Lm row ur v done a (KI row ur v done a s0 j) (j+1)
structure xB where
 u:List Int
 v:List Int
 least:List Int
def Sm (owner:List Ix) (done:List Bool) (delta:Int) (t:xB) (k:Nat):xB :=
 if gi done k=true then ⟨t.u.set (gi owner k).n (gi t.u (gi owner k).n+delta),t.v.set k (gi t.v k-delta),t.least⟩ else ⟨t.u,t.v,t.least.set k (gi t.least k-delta)⟩
def Ia (owner:List Ix) (done:List Bool) (delta:Int) (t:xB):Nat→xB
 |0=>t
 |k+1=>Sm owner done delta (Ia owner done delta t k) k
structure Gr where
 u:List Int
 v:List Int
 way:List Ix
 least:List Int
 done:List Bool
 at_:Nat
def CP (g:Gr):List Bool:=g.done.set g.at_ true
def DV (costs:List (List Int)) (owner:List Ix) (m:Nat) (g:Gr):qL :=
 KI (gi costs ((gi owner g.at_).n-1)) (gi g.u (gi owner g.at_).n) g.v (CP g) g.at_ ⟨g.least,g.way,far,0⟩ m
def Jo (costs:List (List Int)) (owner:List Ix) (m:Nat) (g:Gr):xB :=
 Ia owner (CP g) (DV costs owner m g).delta ⟨g.u,g.v,(DV costs owner m g).least⟩ (m+1)
def GH (costs:List (List Int)) (owner:List Ix) (m:Nat) (g:Gr):Gr :=
 ⟨(Jo costs owner m g).u,(Jo costs owner m g).v,(DV costs owner m g).way,(Jo costs owner m g).least,CP g,(DV costs owner m g).next⟩
def Et (costs:List (List Int)) (owner:List Ix) (m:Nat) (g0:Gr):Nat→Gr
 |0=>g0
 |t+1=>GH costs owner m (Et costs owner m g0 t)
def Uj (costs:List (List Int)) (owner:List Ix) (m:Nat) (g0:Gr):Nat→Nat→Nat
 |0,t=>t
 |f+1,t=>if (gi owner (Et costs owner m g0 t).at_).n=0 then t else Uj costs owner m g0 f (t+1)
structure Aug where
 owner:List Ix
 at_:Nat
def jU (way:List Ix) (a:Aug):Aug:=⟨a.owner.set a.at_ (gi a.owner (gi way a.at_).n),(gi way a.at_).n⟩
def G9 (way:List Ix) (a:Aug):Nat→Aug
 |0=>a
 |t+1=>jU way (G9 way a t)
def fM (way:List Ix) (a:Aug):Nat→Nat→Nat
 |0,t=>t
 |f+1,t=>if (G9 way a t).at_=0 then t else fM way a f (t+1)
structure jW where
 u:List Int
 v:List Int
 owner:List Ix
 way:List Ix
def Ql (m:Nat) (s:jW):Gr:=⟨s.u,s.v,s.way,List.replicate (m+1) far,List.replicate (m+1) false,0⟩
def Jp (s:jW) (i:Nat):List Ix:=s.owner.set 0 ⟨i⟩
def Xh (costs:List (List Int)) (m:Nat) (s:jW) (i:Nat):Nat:=Uj costs (Jp s i) m (Ql m s) (m+2) 0
def LZ (costs:List (List Int)) (m:Nat) (s:jW) (i:Nat):Gr:=Et costs (Jp s i) m (Ql m s) (Xh costs m s i)
def stA (costs:List (List Int)) (m:Nat) (s:jW) (i:Nat):Aug:=⟨Jp s i,(LZ costs m s i).at_⟩
def yu (costs:List (List Int)) (m:Nat) (s:jW) (i:Nat):Nat:=fM (LZ costs m s i).way (stA costs m s i) (m+2) 0
def NZ (costs:List (List Int)) (m:Nat) (s:jW) (i:Nat):jW :=
 ⟨(LZ costs m s i).u,(LZ costs m s i).v,(G9 (LZ costs m s i).way (stA costs m s i) (yu costs m s i)).owner,(LZ costs m s i).way⟩
def Dk (costs:List (List Int)) (n m:Nat):Nat→jW
 |0=>⟨List.replicate (n+1) 0,List.replicate (m+1) 0,List.replicate (m+1) ⟨0⟩,List.replicate (m+1) ⟨0⟩⟩
 |i+1=>NZ costs m (Dk costs n m i) (i+1)
structure Out where
 cols:List Int
 total:Int
def oN (costs:List (List Int)) (owner:List Ix) (o:Out) (k:Nat):Out :=
 if 0<(gi owner k).n then ⟨o.cols.set ((gi owner k).n-1) ((k:Int)-1),o.total+gi (gi costs ((gi owner k).n-1)) (k-1)⟩ else o
def KW (costs:List (List Int)) (owner:List Ix) (n:Nat):Nat→Out
 |0=>⟨List.replicate n 0,0⟩
 |k+1=>oN costs owner (KW costs owner n k) (k+1)
theorem gs {α:Type} [Inhabited α] {l:List α} {i j:Nat} {a:α} (h:i<l.length):gi (l.set i a) j=if i=j then a else gi l j:=by
 rw [SH]
 by_cases e:i=j
 ·subst e;rw [if_pos ⟨rfl,h⟩,if_pos rfl]
 ·rw [if_neg (fun x=>e x.1),if_neg e]
structure a3u (row:List Int) (ur:Int) (v:List Int) (done:List Bool) (a m:Nat) (s0 s:qL) (j:Nat):Prop where
 ll:s.least.length=m+1
 lw:s.way.length=m+1
 least:∀ k,gi s.least k=if 1≤k∧k≤j∧gi done k=false∧Un row ur v k<gi s0.least k then Un row ur v k else gi s0.least k
 way:∀ k,gi s.way k=if 1≤k∧k≤j∧gi done k=false∧Un row ur v k<gi s0.least k then ⟨a⟩ else gi s0.way k
 delta:∀ k,1≤k→k≤j→gi done k=false→s.delta≤gi s.least k
 le:s.delta≤s0.delta
 next:(s.next=s0.next∧s.delta=s0.delta)∨(1≤s.next∧s.next≤j∧gi done s.next=false∧s.delta=gi s.least s.next)
theorem RJ {row:List Int} {ur:Int} {v:List Int} {done:List Bool} {a m:Nat} {s0:qL} (hl:s0.least.length=m+1) (hw:s0.way.length=m+1):∀ j,j≤m→a3u row ur v done a m s0 (KI row ur v done a s0 j) j
 |0,_=>⟨hl,hw,fun k=>by rw [if_neg (by omega)];rfl,fun k=>by rw [if_neg (by omega)];rfl,fun k h1 h2=>by omega,Int.le_refl _,.inl ⟨rfl,rfl⟩⟩
 |j+1,hj=>by
  have ih:=RJ (row:=row) (ur:=ur) (v:=v) (done:=done) (a:=a) hl hw j (by omega)
  generalize hs:KI row ur v done a s0 j=s at ih
  have e0:KI row ur v done a s0 (j+1)=Lm row ur v done a s (j+1):=by rw [← hs];rfl
  rw [e0]
  obtain ⟨l1,l2,h1,h2,h3,h4,h5⟩:=ih
  have hlt:j+1<s.least.length:=by omega
  have hwt:j+1<s.way.length:=by omega
  have hj1:gi s.least (j+1)=gi s0.least (j+1):=by rw [h1,if_neg (by omega)]
  have hne:∀ k,k≤j→j+1≠k:=fun k hk=>by omega
  unfold Lm
  by_cases hd:gi done (j+1)=true
  ·rw [if_pos hd]
   refine ⟨l1,l2,fun k=>?_,fun k=>?_,fun k k1 k2 k3=>?_,h4,?_⟩
   ·rw [h1]
    by_cases e:k=j+1
    ·subst e;rw [if_neg (by omega),if_neg (by rw [hd];simp)]
    ·by_cases hc:1≤k∧k≤j∧gi done k=false∧Un row ur v k<gi s0.least k
     ·rw [if_pos hc,if_pos ⟨hc.1,by omega,hc.2.2⟩]
     ·rw [if_neg hc,if_neg (fun x=>hc ⟨x.1,by omega,x.2.2⟩)]
   ·rw [h2]
    by_cases e:k=j+1
    ·subst e;rw [if_neg (by omega),if_neg (by rw [hd];simp)]
    ·by_cases hc:1≤k∧k≤j∧gi done k=false∧Un row ur v k<gi s0.least k
     ·rw [if_pos hc,if_pos ⟨hc.1,by omega,hc.2.2⟩]
     ·rw [if_neg hc,if_neg (fun x=>hc ⟨x.1,by omega,x.2.2⟩)]
   ·by_cases e:k=j+1
    ·subst e;rw [hd] at k3;cases k3
    ·exact h3 k k1 (by omega) k3
   ·rcases h5 with h5|⟨x1,x2,x3,x4⟩
    ·exact .inl h5
    ·exact .inr ⟨x1,by omega,x3,x4⟩
  ·have hd':gi done (j+1)=false:=by cases h:gi done (j+1)<;>simp_all
   rw [if_neg hd]
   by_cases hc:Un row ur v (j+1)<gi s.least (j+1)
   ·rw [if_pos hc]
    rw [hj1] at hc
    have L:∀ k,gi (s.least.set (j+1) (Un row ur v (j+1))) k=if 1≤k∧k≤j+1∧gi done k=false∧Un row ur v k<gi s0.least k then Un row ur v k else gi s0.least k:=fun k=>by
     rw [gs hlt]
     by_cases e:j+1=k
     ·subst e;rw [if_pos rfl,if_pos ⟨by omega,Nat.le_refl _,hd',hc⟩]
     ·rw [if_neg e,h1]
      by_cases hc':1≤k∧k≤j∧gi done k=false∧Un row ur v k<gi s0.least k
      ·rw [if_pos hc',if_pos ⟨hc'.1,by omega,hc'.2.2⟩]
      ·rw [if_neg hc',if_neg (fun x=>hc' ⟨x.1,by omega,x.2.2⟩)]
    have W:∀ k,gi (s.way.set (j+1) ⟨a⟩) k=if 1≤k∧k≤j+1∧gi done k=false∧Un row ur v k<gi s0.least k then ⟨a⟩ else gi s0.way k:=fun k=>by
     rw [gs hwt]
     by_cases e:j+1=k
     ·subst e;rw [if_pos rfl,if_pos ⟨by omega,Nat.le_refl _,hd',hc⟩]
     ·rw [if_neg e,h2]
      by_cases hc':1≤k∧k≤j∧gi done k=false∧Un row ur v k<gi s0.least k
      ·rw [if_pos hc',if_pos ⟨hc'.1,by omega,hc'.2.2⟩]
      ·rw [if_neg hc',if_neg (fun x=>hc' ⟨x.1,by omega,x.2.2⟩)]
    by_cases hb:Un row ur v (j+1)<s.delta
    ·rw [if_pos hb]
     refine ⟨by simp [l1],by simp [l2],L,W,fun k k1 k2 k3=>?_,by simp only;omega,.inr ⟨by simp only;omega,Nat.le_refl _,hd',?_⟩⟩
     ·simp only
      rw [gs hlt]
      by_cases e:j+1=k
      ·rw [if_pos e];omega
      ·rw [if_neg e]
       have:=h3 k k1 (by omega) k3
       omega
     ·simp only
      rw [gs hlt,if_pos rfl]
    ·rw [if_neg hb]
     refine ⟨by simp [l1],by simp [l2],L,W,fun k k1 k2 k3=>?_,h4,?_⟩
     ·simp only
      rw [gs hlt]
      by_cases e:j+1=k
      ·rw [if_pos e];omega
      ·rw [if_neg e]
       exact h3 k k1 (by omega) k3
     ·rcases h5 with h5|⟨x1,x2,x3,x4⟩
      ·exact .inl h5
      ·refine .inr ⟨x1,by simp only;omega,x3,?_⟩
       simp only
       rw [gs hlt,if_neg (by omega)]
       exact x4
   ·rw [if_neg hc]
    have hc0:¬ Un row ur v (j+1)<gi s0.least (j+1):=by rw [← hj1];exact hc
    have L:∀ k,gi s.least k=if 1≤k∧k≤j+1∧gi done k=false∧Un row ur v k<gi s0.least k then Un row ur v k else gi s0.least k:=fun k=>by
     rw [h1]
     by_cases e:j+1=k
     ·subst e;rw [if_neg (by omega),if_neg (fun x=>hc0 x.2.2.2)]
     ·by_cases hc':1≤k∧k≤j∧gi done k=false∧Un row ur v k<gi s0.least k
      ·rw [if_pos hc',if_pos ⟨hc'.1,by omega,hc'.2.2⟩]
      ·rw [if_neg hc',if_neg (fun x=>hc' ⟨x.1,by omega,x.2.2⟩)]
    have W:∀ k,gi s.way k=if 1≤k∧k≤j+1∧gi done k=false∧Un row ur v k<gi s0.least k then ⟨a⟩ else gi s0.way k:=fun k=>by
     rw [h2]
     by_cases e:j+1=k
     ·subst e;rw [if_neg (by omega),if_neg (fun x=>hc0 x.2.2.2)]
     ·by_cases hc':1≤k∧k≤j∧gi done k=false∧Un row ur v k<gi s0.least k
      ·rw [if_pos hc',if_pos ⟨hc'.1,by omega,hc'.2.2⟩]
      ·rw [if_neg hc',if_neg (fun x=>hc' ⟨x.1,by omega,x.2.2⟩)]
    by_cases hb:gi s.least (j+1)<s.delta
    ·rw [if_pos hb]
     refine ⟨l1,l2,L,W,fun k k1 k2 k3=>?_,by simp only;omega,.inr ⟨by simp only;omega,Nat.le_refl _,hd',rfl⟩⟩
     simp only
     by_cases e:j+1=k
     ·rw [e];omega
     ·have:=h3 k k1 (by omega) k3
      omega
    ·rw [if_neg hb]
     refine ⟨l1,l2,L,W,fun k k1 k2 k3=>?_,h4,?_⟩
     ·by_cases e:j+1=k
      ·rw [← e];omega
      ·exact h3 k k1 (by omega) k3
     ·rcases h5 with h5|⟨x1,x2,x3,x4⟩
      ·exact .inl h5
      ·exact .inr ⟨x1,by omega,x3,x4⟩
structure a1l (owner:List Ix) (done:List Bool) (delta:Int) (t s:xB) (k:Nat):Prop where
 lu:s.u.length=t.u.length
 lv:s.v.length=t.v.length
 ll:s.least.length=t.least.length
 u0:∀ r,(∀ d,d<k→gi done d=true→(gi owner d).n≠r)→gi s.u r=gi t.u r
 u1:∀ d,d<k→gi done d=true→gi s.u (gi owner d).n=gi t.u (gi owner d).n+delta
 v:∀ d,gi s.v d=if d<k∧gi done d=true then gi t.v d-delta else gi t.v d
 least:∀ d,gi s.least d=if d<k∧gi done d=false then gi t.least d-delta else gi t.least d
theorem JO {owner:List Ix} {done:List Bool} {delta:Int} {t:xB} {m:Nat} (hv:t.v.length=m+1) (hl:t.least.length=m+1)
 (hu:∀ d,d≤m→gi done d=true→(gi owner d).n<t.u.length) (hi:∀ d e,d≤m→e≤m→gi done d=true→gi done e=true→(gi owner d).n=(gi owner e).n→d=e) :
 ∀ k,k≤m+1→a1l owner done delta t (Ia owner done delta t k) k
 |0,_=>⟨rfl,rfl,rfl,fun _ _=>rfl,fun d h=>by omega,fun d=>by rw [if_neg (by omega)];rfl,fun d=>by rw [if_neg (by omega)];rfl⟩
 |k+1,hk=>by
  have ih:=JO (delta:=delta) hv hl hu hi k (by omega)
  generalize hs:Ia owner done delta t k=s at ih
  have e0:Ia owner done delta t (k+1)=Sm owner done delta s k:=by rw [← hs];rfl
  rw [e0]
  obtain ⟨l1,l2,l3,h0,h1,h2,h3⟩:=ih
  unfold Sm
  by_cases hd:gi done k=true
  ·rw [if_pos hd]
   have hlt:=hu k (by omega) hd
   refine ⟨by simp [l1],by simp [l2],l3,fun r hr=>?_,fun d hd1 hd2=>?_,fun d=>?_,fun d=>?_⟩
   ·simp only
    rw [gs (by omega),if_neg (hr k (by omega) hd)]
    exact h0 r fun d x y=>hr d (by omega) y
   ·simp only
    rw [gs (by omega)]
    by_cases e:k=d
    ·subst e
     rw [if_pos rfl,h0 _ fun d x y z=>by have:=hi d k (by omega) (by omega) y hd z;omega]
    ·rw [if_neg fun x=>e (hi k d (by omega) (by omega) hd hd2 x)]
     exact h1 d (by omega) hd2
   ·simp only
    rw [gs (by omega)]
    by_cases e:k=d
    ·subst e
     rw [if_pos rfl,if_pos ⟨by omega,hd⟩,h2,if_neg (by omega)]
    ·rw [if_neg e,h2]
     by_cases x:d<k∧gi done d=true
     ·rw [if_pos x,if_pos ⟨by omega,x.2⟩]
     ·rw [if_neg x,if_neg fun y=>x ⟨by omega,y.2⟩]
   ·rw [h3]
    by_cases e:k=d
    ·subst e
     rw [if_neg (by omega),if_neg (by rw [hd];simp)]
    ·by_cases x:d<k∧gi done d=false
     ·rw [if_pos x,if_pos ⟨by omega,x.2⟩]
     ·rw [if_neg x,if_neg fun y=>x ⟨by omega,y.2⟩]
  ·have hd':gi done k=false:=by cases h:gi done k<;>simp_all
   rw [if_neg hd]
   refine ⟨l1,l2,by simp [l3],fun r hr=>h0 r fun d x y=>hr d (by omega) y,fun d hd1 hd2=>?_,fun d=>?_,fun d=>?_⟩
   ·by_cases e:k=d
    ·subst e;exact absurd hd2 hd
    ·exact h1 d (by omega) hd2
   ·rw [h2]
    by_cases e:k=d
    ·subst e
     rw [if_neg (by omega),if_neg (by rw [hd'];simp)]
    ·by_cases x:d<k∧gi done d=true
     ·rw [if_pos x,if_pos ⟨by omega,x.2⟩]
     ·rw [if_neg x,if_neg fun y=>x ⟨by omega,y.2⟩]
   ·simp only
    rw [gs (by omega)]
    by_cases e:k=d
    ·subst e
     rw [if_pos rfl,if_pos ⟨by omega,hd'⟩,h3,if_neg (by omega)]
    ·rw [if_neg e,h3]
     by_cases x:d<k∧gi done d=false
     ·rw [if_pos x,if_pos ⟨by omega,x.2⟩]
     ·rw [if_neg x,if_neg fun y=>x ⟨by omega,y.2⟩]
end Go.Hun
namespace Go.Hun
open Go.Vm
theorem V3:∀ (n m:Nat) (f:Nat→Nat),(∀ k,k<m→f k<n)→(∀ k e,k<m→e<m→f k=f e→k=e)→m≤n
 |0,m,f,h,hi=>by
  rcases Nat.eq_zero_or_pos m with h0|h0
  ·omega
  ·exact absurd (h 0 h0) (by omega)
 |n+1,0,f,h,hi=>by omega
 |n+1,m+1,f,h,hi=>by
  have:=V3 n m (fun k=>if f k=n then f m else f k) (fun k hk=>by
   have h1:=h k (by omega)
   have h2:=h m (by omega)
   by_cases e:f k=n
   ·simp only [if_pos e]
    have:f m≠n:=fun e2=>by have:=hi k m (by omega) (by omega) (by omega);omega
    omega
   ·simp only [if_neg e];omega) (fun k e hk he hf=>by
   by_cases e1:f k=n<;>by_cases e2:f e=n
   ·exact hi k e (by omega) (by omega) (by omega)
   ·simp only [if_pos e1,if_neg e2] at hf
    have:=hi m e (by omega) (by omega) hf;omega
   ·simp only [if_neg e1,if_pos e2] at hf
    have:=hi k m (by omega) (by omega) hf;omega
   ·simp only [if_neg e1,if_neg e2] at hf
    exact hi k e (by omega) (by omega) hf)
  omega
def cst (costs:List (List Int)) (r k:Nat):Int:=gi (gi costs (r-1)) (k-1)
def own (o:List Ix) (k:Nat):Nat:=(gi o k).n
structure Iz (costs:List (List Int)) (n m:Nat) (B:Int):Prop where
 lo:∀ r k,0≤cst costs r k
 hi:∀ r k,cst costs r k≤B
 big:0≤B∧B≤1000000000000
 nm:n<m
structure qH (costs:List (List Int)) (n m i:Nat) (s:jW):Prop where
 lu:s.u.length=n+1
 lv:s.v.length=m+1
 lo:s.owner.length=m+1
 lw:s.way.length=m+1
 own:∀ k,1≤k→k≤m→own s.owner k≤i
 all:∀ r,1≤r→r≤i→∃ k,1≤k∧k≤m∧Hun.own s.owner k=r
 inj:∀ k e,1≤k→k≤m→1≤e→e≤m→Hun.own s.owner k=Hun.own s.owner e→Hun.own s.owner k≠0→k=e
 WQ:∀ r k,1≤r→r≤i→1≤k→k≤m→gi s.u r+gi s.v k≤cst costs r k
 tight:∀ k,1≤k→k≤m→Hun.own s.owner k≠0→gi s.u (Hun.own s.owner k)+gi s.v k=cst costs (Hun.own s.owner k) k
 aA:∀ k,1≤k→k≤m→gi s.v k≤0
 Pj:∀ k,1≤k→k≤m→Hun.own s.owner k=0→gi s.v k=0
 UG:∀ r,1≤r→r≤i→0≤gi s.u r
 uz:∀ r,i<r→gi s.u r=0
structure qJ (m i:Nat) (o:List Ix):Prop where
 len:o.length=m+1
 zero:own o 0=i+1
 le:∀ k,1≤k→k≤m→own o k≤i
 inj:∀ k e,k≤m→e≤m→own o k=own o e→own o k≠0→k=e
theorem qJ.lt {m i:Nat} {o:List Ix} (h:qJ m i o) {k:Nat} (hk:k≤m):own o k≤i+1:=by
 rcases Nat.eq_zero_or_pos k with h0|h0
 ·subst h0;rw [h.zero];omega
 ·have:=h.le k h0 hk;omega
theorem qJ.free {m i:Nat} {o:List Ix} (h:qJ m i o) (hm:i<m):∃ k,1≤k∧k≤m∧own o k=0:=by
 refine Classical.byContradiction fun hn=>?_
 have hn:∀ k,1≤k→k≤m→own o k≠0:=fun k h1 h2 h3=>hn ⟨k,h1,h2,h3⟩
 have:=V3 i m (fun k=>own o (k+1)-1) (fun k hk=>by
  have h1:=hn (k+1) (by omega) (by omega)
  have h2:=h.le (k+1) (by omega) (by omega)
  show own o (k+1)-1<i
  omega) (fun k e hk he hf=>by
  have h1:=hn (k+1) (by omega) (by omega)
  have h2:=hn (e+1) (by omega) (by omega)
  have hf:own o (k+1)-1=own o (e+1)-1:=hf
  have:=h.inj (k+1) (e+1) (by omega) (by omega) (by omega) h1
  omega)
 omega
structure fV (costs:List (List Int)) (n m i:Nat) (o:List Ix) (A:Nat→Nat) (t:Nat) (g:Gr):Prop where
 lu:g.u.length=n+1
 lv:g.v.length=m+1
 lw:g.way.length=m+1
 ll:g.least.length=m+1
 ld:g.done.length=m+1
 at_:g.at_=A t
 le:∀ p,p≤t→A p≤m
 zero:A 0=0
 pos:∀ p,1≤p→p≤t→1≤A p
 done:∀ k,gi g.done k=true↔∃ p,p<t∧A p=k
 new:gi g.done (A t)=false
 nO:∀ p,p<t→own o (A p)≠0
 WQ:∀ r k,1≤r→r≤i+1→1≤k→k≤m→gi g.u r+gi g.v k≤cst costs r k
 tight:∀ k,1≤k→k≤m→own o k≠0→gi g.u (own o k)+gi g.v k=cst costs (own o k) k
 aA:∀ k,1≤k→k≤m→gi g.v k≤0
 Pj:∀ k,1≤k→k≤m→own o k=0→gi g.v k=0
 UG:∀ r,1≤r→r≤i+1→0≤gi g.u r
 uz:∀ r,i+1<r→gi g.u r=0
 least:∀ k,1≤k→k≤m→gi g.done k=false→∀ p,p<t→gi g.least k≤cst costs (own o (A p)) k-gi g.u (own o (A p))-gi g.v k
 WH:∀ k,1≤k→k≤m→gi g.done k=false→(t=0∧gi g.least k=far)∨∃ p,p<t∧own g.way k=A p∧gi g.least k=cst costs (own o (A p)) k-gi g.u (own o (A p))-gi g.v k
 path:∀ p,1≤p→p≤t→∃ q,q<p∧own g.way (A p)=A q∧gi g.u (own o (A q))+gi g.v (A p)=cst costs (own o (A q)) (A p)
section
variable {costs:List (List Int)} {n m i:Nat} {o:List Ix} {A:Nat→Nat} {t:Nat} {g:Gr} {B:Int}
theorem fV.ule (h:fV costs n m i o A t g) (hc:Iz costs n m B) (ho:qJ m i o) (hi:i<m) {r:Nat} (h1:1≤r) (h2:r≤i+1):gi g.u r≤B:=by
 obtain ⟨f,f1,f2,f3⟩:=ho.free hi
 have:=h.WQ r f h1 h2 f1 f2
 have:=h.Pj f f1 f2 f3
 have:=hc.hi r f
 omega
theorem fV.vge (h:fV costs n m i o A t g) (hc:Iz costs n m B) (ho:qJ m i o) (hi:i<m) {k:Nat} (h1:1≤k) (h2:k≤m):-B≤gi g.v k:=by
 have hb:=hc.big
 by_cases e:own o k=0
 ·rw [h.Pj k h1 h2 e];omega
 ·have h3:=ho.lt h2
  have:=h.tight k h1 h2 e
  have:=h.ule hc ho hi (r:=own o k) (by omega) h3
  have:=hc.lo (own o k) k
  omega
end
structure RdI (costs:List (List Int)) (n m i:Nat) (o:List Ix) (A:Nat→Nat) (t:Nat) (g:Gr) (B:Int) (s:qL):Prop where
 ll:s.least.length=m+1
 lw:s.way.length=m+1
 next:1≤s.next∧s.next≤m
 newN:gi (CP g) s.next=false
 dn:s.delta=gi s.least s.next
 dle:∀ k,1≤k→k≤m→gi (CP g) k=false→s.delta≤gi s.least k
 d0:0≤s.delta
 dB:s.delta≤B
 least:∀ k,1≤k→k≤m→gi (CP g) k=false→∀ p,p<t+1→gi s.least k≤cst costs (own o (A p)) k-gi g.u (own o (A p))-gi g.v k
 WH:∀ k,1≤k→k≤m→gi (CP g) k=false→∃ p,p<t+1∧own s.way k=A p∧gi s.least k=cst costs (own o (A p)) k-gi g.u (own o (A p))-gi g.v k
 way:∀ k,gi (CP g) k=true→gi s.way k=gi g.way k
 doneD:∀ k,gi (CP g) k=true↔∃ p,p<t+1∧A p=k
theorem J7 {costs:List (List Int)} {n m i:Nat} {o:List Ix} {A:Nat→Nat} {t:Nat} {g:Gr} {B:Int} (h:fV costs n m i o A t g) (hc:Iz costs n m B) (ho:qJ m i o) (hi:i<n) (hr:own o (A t)≠0):RdI costs n m i o A t g B (DV costs o m g):=by
 have hm:=hc.nm
 have hb:=hc.big
 have hA:=h.le t (Nat.le_refl _)
 have hrow:=ho.lt hA
 have hD:∀ k,gi (CP g) k=true↔∃ p,p<t+1∧A p=k:=fun k=>by
  unfold CP
  rw [gs (by rw [h.ld,h.at_];omega),h.at_]
  by_cases e:A t=k
  ·rw [if_pos e];exact ⟨fun _=>⟨t,by omega,e⟩,fun _=>rfl⟩
  ·rw [if_neg e,h.done]
   exact ⟨fun ⟨p,h1,h2⟩=>⟨p,by omega,h2⟩,fun ⟨p,h1,h2⟩=>⟨p,by
    rcases Nat.lt_or_ge p t with h3|h3
    ·exact h3
    ·obtain rfl:p=t:=by omega
     exact absurd h2 e,h2⟩⟩
 have hO:∀ p,p<t+1→own o (A p)≠0:=fun p hp=>by
  rcases Nat.lt_or_ge p t with h3|h3
  ·exact h.nO p h3
  ·obtain rfl:p=t:=by omega
   exact hr
 have hN:∀ k,gi (CP g) k=false→gi g.done k=false:=fun k hk=>by
  cases hg:gi g.done k with
  |false=>rfl
  |true =>
   obtain ⟨p,h1,h2⟩:=(h.done k).1 hg
   rw [(hD k).2 ⟨p,by omega,h2⟩] at hk
   cases hk
 have spec:=RJ (row:=gi costs ((gi o g.at_).n-1)) (ur:=gi g.u (gi o g.at_).n) (v:=g.v) (done:=CP g) (a:=g.at_) (m:=m) (s0:=⟨g.least,g.way,far,0⟩) h.ll h.lw m (Nat.le_refl _)
 have a9a:∀ k,Un (gi costs ((gi o g.at_).n-1)) (gi g.u (gi o g.at_).n) g.v k=cst costs (own o (A t)) k-gi g.u (own o (A t))-gi g.v k:=fun k=>by
  rw [h.at_];rfl
 have es:DV costs o m g=KI (gi costs ((gi o g.at_).n-1)) (gi g.u (gi o g.at_).n) g.v (CP g) g.at_ ⟨g.least,g.way,far,0⟩ m:=rfl
 rw [← es] at spec
 generalize DV costs o m g=s at spec ⊢
 obtain ⟨l1,l2,h1,h2,h3,h4,h5⟩:=spec
 simp only [a9a] at h1 h2 h4 h5
 have red:∀ p k,p<t+1→1≤k→k≤m→0≤cst costs (own o (A p)) k-gi g.u (own o (A p))-gi g.v k:=fun p k hp k1 k2=>by
  have:=h.WQ (own o (A p)) k (by have:=hO p hp;omega) (ho.lt (h.le p (by omega))) k1 k2
  omega
 have a8r:∀ p k,p<t+1→1≤k→k≤m→cst costs (own o (A p)) k-gi g.u (own o (A p))-gi g.v k<far:=fun p k hp k1 k2=>by
  have:=hc.hi (own o (A p)) k
  have:=h.UG (own o (A p)) (by have:=hO p hp;omega) (ho.lt (h.le p (by omega)))
  have:=h.vge hc ho (by omega) k1 k2
  unfold far
  omega
 have LL:∀ k,1≤k→k≤m→gi (CP g) k=false→∀ p,p<t+1→gi s.least k≤cst costs (own o (A p)) k-gi g.u (own o (A p))-gi g.v k:=fun k k1 k2 k3 p hp=>by
  rw [h1]
  rcases Nat.lt_or_ge p t with hpt|hpt
  ·have:=h.least k k1 k2 (hN k k3) p hpt
   split
   ·rename_i hx;omega
   ·exact this
  ·obtain rfl:p=t:=by omega
   split
   ·exact Int.le_refl _
   ·rename_i hx
    have:¬ cst costs (own o (A p)) k-gi g.u (own o (A p))-gi g.v k<gi g.least k:=fun y=>hx ⟨k1,k2,k3,y⟩
    omega
 have LE:∀ k,1≤k→k≤m→gi (CP g) k=false→∃ p,p<t+1∧own s.way k=A p∧gi s.least k=cst costs (own o (A p)) k-gi g.u (own o (A p))-gi g.v k:=fun k k1 k2 k3=>by
  unfold own
  rw [h1,h2]
  split
  ·exact ⟨t,by omega,h.at_,rfl⟩
  ·rename_i hx
   rcases h.WH k k1 k2 (hN k k3) with ⟨_,h7⟩|⟨p,h6,h7,h8⟩
   ·exact absurd ⟨k1,k2,k3,by rw [h7];exact a8r t k (by omega) k1 k2⟩ hx
   ·exact ⟨p,by omega,h7,h8⟩
 obtain ⟨f,f1,f2,f3⟩:=ho.free (by omega:i<m)
 have f4:gi (CP g) f=false:=by
  cases hg:gi (CP g) f with
  |false=>rfl
  |true =>
   obtain ⟨p,h6,h7⟩:=(hD f).1 hg
   have:=hO p h6
   rw [h7] at this
   exact absurd f3 this
 have f5:=h3 f f1 f2 f4
 have f6:=LL f f1 f2 f4 t (by omega)
 have f7:=h.Pj f f1 f2 f3
 have f8:=hc.hi (own o (A t)) f
 have f9:=h.UG (own o (A t)) (by omega) hrow
 have b1k:far=1152921504606846976:=rfl
 rcases h5 with ⟨_,h6⟩|⟨h6,h7,h8,h9⟩
 ·omega
 ·refine ⟨l1,l2,⟨h6,h7⟩,h8,h9,h3,?_,by omega,LL,LE,fun k hk=>?_,hD⟩
  ·obtain ⟨p,p1,p2,p3⟩:=LE s.next h6 h7 h8
   rw [h9,p3]
   exact red p _ p1 h6 h7
  ·rw [h2,if_neg]
   rintro ⟨_,_,x,_⟩
   rw [hk] at x;cases x
structure ShI (m:Nat) (o:List Ix) (g:Gr) (d:Int) (s:qL) (t:xB):Prop where
 lu:t.u.length=g.u.length
 lv:t.v.length=m+1
 ll:t.least.length=m+1
 u1:∀ k,k≤m→gi (CP g) k=true→gi t.u (own o k)=gi g.u (own o k)+d
 u0:∀ r,(∀ k,k≤m→gi (CP g) k=true→own o k≠r)→gi t.u r=gi g.u r
 v1:∀ k,k≤m→gi (CP g) k=true→gi t.v k=gi g.v k-d
 v0:∀ k,gi (CP g) k=false→gi t.v k=gi g.v k
 least:∀ k,k≤m→gi (CP g) k=false→gi t.least k=gi s.least k-d
section
variable {costs:List (List Int)} {n m i:Nat} {o:List Ix} {A:Nat→Nat} {t:Nat} {g:Gr} {B:Int}
theorem Yp (h:fV costs n m i o A t g) (hc:Iz costs n m B) (ho:qJ m i o) (hi:i<n) (hr:own o (A t)≠0) :
 (∀ d,d≤m→gi (CP g) d=true→(gi o d).n<g.u.length)∧∀ d e,d≤m→e≤m→gi (CP g) d=true→gi (CP g) e=true→(gi o d).n=(gi o e).n→d=e:=by
 have hR:=J7 h hc ho hi hr
 refine ⟨fun d hd _=>?_,fun d e hd he h1 h2 h3=>?_⟩
 ·have:=ho.lt hd
  unfold own at this
  rw [h.lu];omega
 ·refine ho.inj d e hd he h3 ?_
  obtain ⟨p,p1,p2⟩:=(hR.doneD d).1 h1
  rw [← p2]
  rcases Nat.lt_or_ge p t with h4|h4
  ·exact h.nO p h4
  ·obtain rfl:p=t:=by omega
   exact hr
theorem NW (h:fV costs n m i o A t g) (hc:Iz costs n m B) (ho:qJ m i o) (hi:i<n) (hr:own o (A t)≠0):ShI m o g (DV costs o m g).delta (DV costs o m g) (Jo costs o m g):=by
 have hR:=J7 h hc ho hi hr
 obtain ⟨e1,e2⟩:=Yp h hc ho hi hr
 have spec:=JO (owner:=o) (done:=CP g) (delta:=(DV costs o m g).delta) (t:=⟨g.u,g.v,(DV costs o m g).least⟩) (m:=m) h.lv hR.ll e1 e2 (m+1) (Nat.le_refl _)
 have es:Jo costs o m g=Ia o (CP g) (DV costs o m g).delta ⟨g.u,g.v,(DV costs o m g).least⟩ (m+1):=rfl
 rw [← es] at spec
 generalize Jo costs o m g=T at spec ⊢
 generalize DV costs o m g=s at spec hR ⊢
 obtain ⟨l1,l2,l3,h0,h1,h2,h3⟩:=spec
 simp only at l1 l2 l3 h0 h1 h2 h3
 refine ⟨l1,by rw [l2,h.lv],by rw [l3,hR.ll],fun k hk hd=>h1 k (by omega) hd,fun r hx=>h0 r fun d hd hd2=>hx d (by omega) hd2,fun k hk hd=>?_,fun k hd=>?_,fun k hk hd=>?_⟩
 ·rw [h2,if_pos ⟨by omega,hd⟩]
 ·rw [h2,if_neg (by rw [hd];simp)]
 ·rw [h3,if_pos ⟨by omega,hd⟩]
theorem fV.step (h:fV costs n m i o A t g) (hc:Iz costs n m B) (ho:qJ m i o) (hi:i<n) (hr:own o (A t)≠0) (hA:A (t+1)=(GH costs o m g).at_):fV costs n m i o A (t+1) (GH costs o m g):=by
 have hR:=J7 h hc ho hi hr
 have hS:=NW h hc ho hi hr
 have hnm:=hc.nm
 have eu:(GH costs o m g).u=(Jo costs o m g).u:=rfl
 have ev:(GH costs o m g).v=(Jo costs o m g).v:=rfl
 have ew:(GH costs o m g).way=(DV costs o m g).way:=rfl
 have el:(GH costs o m g).least=(Jo costs o m g).least:=rfl
 have ed:(GH costs o m g).done=CP g:=rfl
 have ea:(GH costs o m g).at_=(DV costs o m g).next:=rfl
 rw [ea] at hA
 generalize Jo costs o m g=T at *
 generalize DV costs o m g=s at *
 generalize GH costs o m g=G at *
 have hO:∀ p,p<t+1→own o (A p)≠0:=fun p hp=>by
  rcases Nat.lt_or_ge p t with h3|h3
  ·exact h.nO p h3
  ·obtain rfl:p=t:=by omega
   exact hr
 have hd0:=hR.d0
 have uR:∀ r,(∃ p,p<t+1∧own o (A p)=r∧gi T.u r=gi g.u r+s.delta)∨((∀ p,p<t+1→own o (A p)≠r)∧gi T.u r=gi g.u r):=fun r=>by
  by_cases hx:∃ p,p<t+1∧own o (A p)=r
  ·obtain ⟨p,p1,p2⟩:=hx
   have:=hS.u1 (A p) (h.le p (by omega)) ((hR.doneD _).2 ⟨p,p1,rfl⟩)
   rw [p2] at this
   exact .inl ⟨p,p1,p2,this⟩
  ·refine .inr ⟨fun p p1 p2=>hx ⟨p,p1,p2⟩,hS.u0 r fun k hk hd e=>?_⟩
   obtain ⟨p,p1,p2⟩:=(hR.doneD k).1 hd
   exact hx ⟨p,p1,by rw [p2];exact e⟩
 have uP:∀ p,p<t+1→gi T.u (own o (A p))=gi g.u (own o (A p))+s.delta:=fun p hp=>hS.u1 (A p) (h.le p (by omega)) ((hR.doneD _).2 ⟨p,hp,rfl⟩)
 have vR:∀ k,k≤m→(gi (CP g) k=true∧gi T.v k=gi g.v k-s.delta)∨(gi (CP g) k=false∧gi T.v k=gi g.v k):=fun k hk=>by
  cases hd:gi (CP g) k with
  |true=>exact .inl ⟨rfl,hS.v1 k hk hd⟩
  |false=>exact .inr ⟨rfl,hS.v0 k hd⟩
 refine ⟨by rw [eu,hS.lu,h.lu],by rw [ev,hS.lv],by rw [ew,hR.lw],by rw [el,hS.ll],by rw [ed];unfold CP;simp [h.ld],by rw [ea,hA],fun p hp=>?_,h.zero,fun p p1 hp=>?_,fun k=>by rw [ed];exact hR.doneD k,by rw [ed,hA];exact hR.newN,hO,?_,?_,?_,?_,?_,?_,?_,?_,?_⟩
 ·rcases Nat.lt_or_ge p (t+1) with h3|h3
  ·exact h.le p (by omega)
  ·obtain rfl:p=t+1:=by omega
   rw [hA];exact hR.next.2
 ·rcases Nat.lt_or_ge p (t+1) with h3|h3
  ·exact h.pos p p1 (by omega)
  ·obtain rfl:p=t+1:=by omega
   rw [hA];exact hR.next.1
 ·intro r k r1 r2 k1 k2
  rw [eu,ev]
  have h0:=h.WQ r k r1 r2 k1 k2
  rcases uR r with ⟨p,p1,p2,p3⟩|⟨p1,p3⟩<;>rcases vR k k2 with ⟨q1,q2⟩|⟨q1,q2⟩
  ·omega
  ·have h1:=hR.dle k k1 k2 q1
   have h2:=hR.least k k1 k2 q1 p p1
   rw [p2] at h2
   omega
  ·omega
  ·omega
 ·intro k k1 k2 hk
  rw [eu,ev]
  have h0:=h.tight k k1 k2 hk
  rcases vR k k2 with ⟨q1,q2⟩|⟨q1,q2⟩
  ·have:=hS.u1 k k2 q1
   omega
  ·rcases uR (own o k) with ⟨p,p1,p2,p3⟩|⟨p1,p3⟩
   ·have:=ho.inj (A p) k (h.le p (by omega)) k2 p2 (hO p p1)
    rw [(hR.doneD k).2 ⟨p,p1,this⟩] at q1
    cases q1
   ·omega
 ·intro k k1 k2
  rw [ev]
  have h0:=h.aA k k1 k2
  rcases vR k k2 with ⟨q1,q2⟩|⟨q1,q2⟩<;>omega
 ·intro k k1 k2 hk
  rw [ev]
  have h0:=h.Pj k k1 k2 hk
  rcases vR k k2 with ⟨q1,q2⟩|⟨q1,q2⟩
  ·obtain ⟨p,p1,p2⟩:=(hR.doneD k).1 q1
   have:=hO p p1
   rw [p2] at this
   exact absurd hk this
  ·omega
 ·intro r r1 r2
  rw [eu]
  have h0:=h.UG r r1 r2
  rcases uR r with ⟨p,p1,p2,p3⟩|⟨p1,p3⟩<;>omega
 ·intro r hr1
  rw [eu]
  rcases uR r with ⟨p,p1,p2,p3⟩|⟨p1,p3⟩
  ·have:=ho.lt (h.le p (by omega));omega
  ·rw [p3];exact h.uz r hr1
 ·intro k k1 k2 hk p hp
  rw [ed] at hk
  rw [eu,ev,el,hS.least k k2 hk,uP p hp,hS.v0 k hk]
  have:=hR.least k k1 k2 hk p hp
  omega
 ·intro k k1 k2 hk
  rw [ed] at hk
  obtain ⟨p,p1,p2,p3⟩:=hR.WH k k1 k2 hk
  refine .inr ⟨p,p1,by rw [ew];exact p2,?_⟩
  rw [eu,ev,el,hS.least k k2 hk,uP p p1,hS.v0 k hk]
  omega
 ·intro p p1 hp
  rw [eu,ev,ew]
  rcases Nat.lt_or_ge p (t+1) with h3|h3
  ·obtain ⟨q,q1,q2,q3⟩:=h.path p p1 (by omega)
   have hd:=(hR.doneD (A p)).2 ⟨p,h3,rfl⟩
   refine ⟨q,q1,?_,?_⟩
   ·unfold own
    rw [hR.way _ hd];exact q2
   ·rw [uP q (by omega),hS.v1 _ (h.le p (by omega)) hd]
    omega
  ·obtain rfl:p=t+1:=by omega
   obtain ⟨q,q1,q2,q3⟩:=hR.WH s.next hR.next.1 hR.next.2 hR.newN
   refine ⟨q,q1,by rw [hA];exact q2,?_⟩
   rw [hA,uP q q1,hS.v0 _ hR.newN]
   have:=hR.dn
   omega
end
end Go.Hun
namespace Go.Hun
open Go.Vm
section
variable {costs:List (List Int)} {n m i:Nat} {s:jW} {B:Int}
theorem Zh {l:List Ix} {j k x:Nat} (h:j<l.length):own (l.set j ⟨x⟩) k=if j=k then x else own l k:=by
 unfold own
 rw [gs h]
 split<;>rfl
theorem a1r {α:Type} [Inhabited α] {a:α} {n i:Nat} (h:i<n):gi (List.replicate n a) i=a:=MV h
theorem U3 {n:Nat} (i:Nat):gi (List.replicate n (0:Int)) i=0:=by
 unfold gi
 rw [List.getElem?_replicate]
 split<;>rfl
theorem YN (h:qH costs n m i s):qJ m i (Jp s (i+1)):=by
 have e:∀ k,own (Jp s (i+1)) k=if 0=k then i+1 else own s.owner k:=fun k=>Zh (by rw [h.lo];omega)
 refine ⟨by unfold Jp;simp [h.lo],by rw [e];rfl,fun k k1 k2=>?_,fun k j k1 k2=>?_⟩
 ·rw [e,if_neg (by omega)];exact h.own k k1 k2
 ·rw [e,e]
  intro h1 h2
  by_cases a:0=k<;>by_cases b:0=j
  ·omega
  ·rw [if_pos a,if_neg b] at h1
   have:=h.own j (by omega) k2;omega
  ·rw [if_neg a,if_pos b] at h1
   have:=h.own k (by omega) k1;omega
  ·rw [if_neg a,if_neg b] at h1
   rw [if_neg a] at h2
   exact h.inj k j (by omega) k1 (by omega) k2 h1 h2
def MS (costs:List (List Int)) (m i:Nat) (s:jW) (p:Nat):Nat:=(Et costs (Jp s (i+1)) m (Ql m s) p).at_
theorem a1s (h:qH costs n m i s) (hc:Iz costs n m B) (hi:i<n):fV costs n m i (Jp s (i+1)) (MS costs m i s) 0 (Et costs (Jp s (i+1)) m (Ql m s) 0):=by
 have ho:=YN h
 have eo:∀ k,own (Jp s (i+1)) k=if 0=k then i+1 else own s.owner k:=fun k=>Zh (by rw [h.lo];omega)
 have nd:∀ k,gi (List.replicate (m+1) false) k=false:=fun k=>by
  unfold gi
  rw [List.getElem?_replicate]
  split<;>rfl
 refine ⟨h.lu,h.lv,h.lw,by simp [Et,Ql],by simp [Et,Ql],rfl,fun p hp=>?_,rfl,fun p p1 p2=>by omega,fun k=>?_,nd _,fun p hp=>by omega,?_,?_,h.aA,?_,?_,?_,fun k _ _ _ p hp=>by omega,fun k k1 k2 _=>.inl ⟨rfl,?_⟩,fun p p1 p2=>by omega⟩
 ·obtain rfl:p=0:=by omega
  exact Nat.zero_le _
 ·constructor
  ·intro hk
   have:gi (List.replicate (m+1) false) k=true:=hk
   rw [nd] at this;cases this
  ·rintro ⟨p,hp,_⟩;omega
 ·intro r k r1 r2 k1 k2
  show gi s.u r+gi s.v k≤_
  rcases Nat.lt_or_ge r (i+1) with h3|h3
  ·exact h.WQ r k r1 (by omega) k1 k2
  ·have:=h.uz r (by omega)
   have:=h.aA k k1 k2
   have:=hc.lo r k
   omega
 ·intro k k1 k2
  rw [eo,if_neg (by omega)]
  exact h.tight k k1 k2
 ·intro k k1 k2
  rw [eo,if_neg (by omega)]
  exact h.Pj k k1 k2
 ·intro r r1 r2
  show 0≤gi s.u r
  rcases Nat.lt_or_ge r (i+1) with h3|h3
  ·exact h.UG r r1 (by omega)
  ·rw [h.uz r (by omega)];omega
 ·intro r hr
  exact h.uz r (by omega)
 ·exact a1r (by omega)
theorem OZ (h:qH costs n m i s) (hc:Iz costs n m B) (hi:i<n):∀ t,(∀ p,p<t→own (Jp s (i+1)) (MS costs m i s p)≠0)→fV costs n m i (Jp s (i+1)) (MS costs m i s) t (Et costs (Jp s (i+1)) m (Ql m s) t)
 |0,_=>a1s h hc hi
 |t+1,hp=>(OZ h hc hi t fun p hp'=>hp p (by omega)).step hc (YN h) hi (hp t (by omega)) rfl
theorem Xc (o:List Ix) (g0:Gr):∀ f t,(∀ p,p<t→own o (Et costs o m g0 p).at_≠0) →
 (∀ p,p<Uj costs o m g0 f t→own o (Et costs o m g0 p).at_≠0)∧(own o (Et costs o m g0 (Uj costs o m g0 f t)).at_=0∨Uj costs o m g0 f t=t+f)∧Uj costs o m g0 f t≤t+f
 |0,t,h=>⟨h,.inr rfl,Nat.le_refl _⟩
 |f+1,t,h=>by
  unfold Uj
  by_cases e:(gi o (Et costs o m g0 t).at_).n=0
  ·rw [if_pos e];exact ⟨h,.inl e,by omega⟩
  ·rw [if_neg e]
   obtain ⟨a,b,c⟩:=Xc o g0 f (t+1) fun p hp=>by
    rcases Nat.lt_or_ge p t with h3|h3
    ·exact h p h3
    ·obtain rfl:p=t:=by omega
     exact e
   exact ⟨a,by rcases b with b|b;exact .inl b;exact .inr (by omega),by omega⟩
theorem fV.ne {o:List Ix} {A:Nat→Nat} {p q:Nat} {g:Gr} (h:fV costs n m i o A p g) (hq:q<p):A q≠A p:=fun e=>by
 have:=(h.done (A p)).2 ⟨q,hq,e⟩
 rw [h.new] at this;cases this
theorem ZB (h:qH costs n m i s) (hc:Iz costs n m B) (hi:i<n):(∀ p,p<Xh costs m s (i+1)→own (Jp s (i+1)) (MS costs m i s p)≠0)∧own (Jp s (i+1)) (MS costs m i s (Xh costs m s (i+1)))=0∧Xh costs m s (i+1)≤m+1:=by
 obtain ⟨a,b,c⟩:=Xc (costs:=costs) (m:=m) (Jp s (i+1)) (Ql m s) (m+2) 0 (fun p hp=>by omega)
 have e:Xh costs m s (i+1)=Uj costs (Jp s (i+1)) m (Ql m s) (m+2) 0:=rfl
 rw [← e] at a b c
 have hlt:Xh costs m s (i+1)≠m+2:=fun e2=>by
  have:=V3 (m+1) (m+2) (MS costs m i s) (fun k hk=>by
   have:=(OZ h hc hi k fun p hp=>a p (by omega)).le k (Nat.le_refl _)
   omega) (fun k j hk hj hkj=>by
   rcases Nat.lt_trichotomy k j with h3|h3|h3
   ·exact absurd hkj ((OZ h hc hi j fun p hp=>a p (by omega)).ne h3)
   ·exact h3
   ·exact absurd hkj.symm ((OZ h hc hi k fun p hp=>a p (by omega)).ne h3))
  omega
 refine ⟨a,?_,by omega⟩
 rcases b with b|b
 ·exact b
 ·omega
structure oq (costs:List (List Int)) (m i:Nat) (u v:List Int) (o:List Ix) (A:Nat→Nat) (q:Nat) (a:Aug):Prop where
 len:a.owner.length=m+1
 at_:a.at_=A q
 tight:∀ k,1≤k→k≤m→k≠a.at_→own a.owner k≠0→gi u (own a.owner k)+gi v k=cst costs (own a.owner k) k
 inj:∀ k e,k≤m→e≤m→k≠a.at_→e≠a.at_→own a.owner k=own a.owner e→own a.owner k≠0→k=e
 all:∀ r,1≤r→r≤i+1→∃ k,k≤m∧k≠a.at_∧own a.owner k=r
 same:∀ p,p<q→own a.owner (A p)=own o (A p)
 free:∀ k,1≤k→k≤m→k≠a.at_→own a.owner k=0→gi v k=0
 le:∀ k,k≤m→own a.owner k≤i+1
theorem oq.step {o:List Ix} {A:Nat→Nat} {T q:Nat} {g:Gr} {a:Aug} (h:oq costs m i g.u g.v o A q a) (hg:fV costs n m i o A T g) (hne:∀ p q,q<p→p≤T→A q≠A p) (hq:1≤q) (hqT:q≤T):∃ q',q'<q∧oq costs m i g.u g.v o A q' (jU g.way a):=by
 obtain ⟨q',q1,q2,q3⟩:=hg.path q hq hqT
 have ew:(gi g.way a.at_).n=A q':=by rw [h.at_];exact q2
 have hle:=hg.le q hqT
 have hle':=hg.le q' (by omega)
 have hab:A q'≠A q:=hne q q' q1 hqT
 have eo:∀ k,own (jU g.way a).owner k=if A q=k then own a.owner (A q') else own a.owner k:=fun k=>by
  unfold jU own
  simp only
  rw [gs (by rw [h.len,h.at_];omega),h.at_]
  rw [show gi g.way (A q)=⟨A q'⟩ from by
   have:own g.way (A q)=A q':=q2
   unfold own at this
   rw [← this]]
  split<;>rfl
 have ea:(jU g.way a).at_=A q':=by
  unfold jU;simp only;exact ew
 have hs:=h.same q' q1
 refine ⟨q',q1,by unfold jU;simp [h.len],ea,fun k k1 k2 k3=>?_,fun k e k1 k2 k3 k4=>?_,fun r r1 r2=>?_,fun p hp=>?_,fun k k1 k2 k3=>?_,fun k hk=>?_⟩
 ·rw [eo]
  rw [ea] at k3
  by_cases e:A q=k
  ·subst e
   rw [if_pos rfl,hs]
   intro _;exact q3
  ·rw [if_neg e]
   exact h.tight k k1 k2 (by rw [h.at_];exact fun x=>e x.symm)
 ·rw [ea] at k3 k4
  rw [eo,eo]
  have d1:A q'≠a.at_:=by rw [h.at_];exact hab
  by_cases e1:A q=k<;>by_cases e2:A q=e
  ·intro _ _;omega
  ·rw [if_pos e1,if_neg e2]
   intro x y
   have:=h.inj (A q') e hle' k2 d1 (by rw [h.at_];exact fun z=>e2 z.symm) x y
   exact absurd this.symm k4
  ·rw [if_neg e1,if_pos e2]
   intro x y
   have:=h.inj k (A q') k1 hle' (by rw [h.at_];exact fun z=>e1 z.symm) d1 x y
   exact absurd this k3
  ·rw [if_neg e1,if_neg e2]
   intro x y
   exact h.inj k e k1 k2 (by rw [h.at_];exact fun z=>e1 z.symm) (by rw [h.at_];exact fun z=>e2 z.symm) x y
 ·obtain ⟨k,k1,k2,k3⟩:=h.all r r1 r2
  rw [h.at_] at k2
  by_cases e:k=A q'
  ·refine ⟨A q,hle,by rw [ea];exact fun x=>hab x.symm,?_⟩
   rw [eo,if_pos rfl,← e];exact k3
  ·refine ⟨k,k1,by rw [ea];exact e,?_⟩
   rw [eo,if_neg (fun x=>k2 x.symm)];exact k3
 ·rw [eo,if_neg (fun x=>hne q p (by omega) hqT x.symm)]
  exact h.same p (by omega)
 ·rw [eo]
  rw [ea] at k3
  by_cases e:A q=k
  ·rw [if_pos e,hs]
   intro x
   exact absurd x (hg.nO q' (by omega))
  ·rw [if_neg e]
   exact h.free k k1 k2 (by rw [h.at_];exact fun x=>e x.symm)
 ·rw [eo]
  split
  ·exact h.le _ hle'
  ·exact h.le k hk
theorem YB (way:List Ix) (a:Aug):∀ f t,(∀ p,p<t→(G9 way a p).at_≠0) →
 (∀ p,p<fM way a f t→(G9 way a p).at_≠0)∧((G9 way a (fM way a f t)).at_=0∨fM way a f t=t+f)∧fM way a f t≤t+f
 |0,t,h=>⟨h,.inr rfl,Nat.le_refl _⟩
 |f+1,t,h=>by
  unfold fM
  by_cases e:(G9 way a t).at_=0
  ·rw [if_pos e];exact ⟨h,.inl e,by omega⟩
  ·rw [if_neg e]
   obtain ⟨x,b,c⟩:=YB way a f (t+1) fun p hp=>by
    rcases Nat.lt_or_ge p t with h3|h3
    ·exact h p h3
    ·obtain rfl:p=t:=by omega
     exact e
   exact ⟨x,by rcases b with b|b;exact .inl b;exact .inr (by omega),by omega⟩
structure a5m (costs:List (List Int)) (m:Nat) (s:jW) (i:Nat):Prop where
 go:∀ t,t<yu costs m s (i+1)→(G9 (LZ costs m s (i+1)).way (stA costs m s (i+1)) t).at_≠0
 fin:(G9 (LZ costs m s (i+1)).way (stA costs m s (i+1)) (yu costs m s (i+1))).at_=0
 inv:∀ t,t≤yu costs m s (i+1)→∃ q,q+t≤Xh costs m s (i+1)∧oq costs m i (LZ costs m s (i+1)).u (LZ costs m s (i+1)).v (Jp s (i+1)) (MS costs m i s) q (G9 (LZ costs m s (i+1)).way (stA costs m s (i+1)) t)
theorem kM (h:qH costs n m i s) (hc:Iz costs n m B) (hi:i<n):a5m costs m s i:=by
 obtain ⟨a,b,c⟩:=ZB h hc hi
 have ho:=YN h
 have hg:=OZ h hc hi (Xh costs m s (i+1)) a
 have eE:Et costs (Jp s (i+1)) m (Ql m s) (Xh costs m s (i+1))=LZ costs m s (i+1):=rfl
 rw [eE] at hg
 have hne:∀ p q,q<p→p≤Xh costs m s (i+1)→MS costs m i s q≠MS costs m i s p:=fun p q h1 h2=>(OZ h hc hi p fun p' hp'=>a p' (by omega)).ne h1
 have eA:stA costs m s (i+1)=⟨Jp s (i+1),MS costs m i s (Xh costs m s (i+1))⟩:=rfl
 have i0:oq costs m i (LZ costs m s (i+1)).u (LZ costs m s (i+1)).v (Jp s (i+1)) (MS costs m i s) (Xh costs m s (i+1)) (stA costs m s (i+1)):=by
  rw [eA]
  refine ⟨ho.len,rfl,fun k k1 k2 _=>hg.tight k k1 k2,fun k e k1 k2 _ _=>ho.inj k e k1 k2,fun r r1 r2=>?_,fun _ _=>rfl,fun k k1 k2 _=>hg.Pj k k1 k2,fun k hk=>ho.lt hk⟩
  have nz:∀ k,own (Jp s (i+1)) k=r→k≠MS costs m i s (Xh costs m s (i+1)):=fun k hk e=>by rw [e,b] at hk;omega
  rcases Nat.lt_or_ge r (i+1) with h3|h3
  ·obtain ⟨k,k1,k2,k3⟩:=h.all r r1 (by omega)
   have:own (Jp s (i+1)) k=r:=by
    unfold Jp
    rw [Zh (by rw [h.lo];omega),if_neg (by omega)];exact k3
   exact ⟨k,k2,nz k this,this⟩
  ·have:own (Jp s (i+1)) 0=r:=by rw [ho.zero];omega
   exact ⟨0,Nat.zero_le _,nz 0 this,this⟩
 have inv:∀ t,(∀ p,p<t→(G9 (LZ costs m s (i+1)).way (stA costs m s (i+1)) p).at_≠0)→∃ q,q+t≤Xh costs m s (i+1)∧oq costs m i (LZ costs m s (i+1)).u (LZ costs m s (i+1)).v (Jp s (i+1)) (MS costs m i s) q (G9 (LZ costs m s (i+1)).way (stA costs m s (i+1)) t):=by
  intro t
  induction t with
  |zero=>intro _;exact ⟨_,Nat.le_refl _,i0⟩
  |succ t ih =>
   intro hp
   obtain ⟨q,q1,q2⟩:=ih fun p hp'=>hp p (by omega)
   have h0:=hp t (by omega)
   have hq:1≤q:=by
    rcases Nat.eq_zero_or_pos q with e|e
    ·subst e
     rw [q2.at_,hg.zero] at h0;exact absurd rfl h0
    ·exact e
   obtain ⟨q',x1,x2⟩:=q2.step hg hne hq (by omega)
   exact ⟨q',by omega,x2⟩
 obtain ⟨x,y,z⟩:=YB (LZ costs m s (i+1)).way (stA costs m s (i+1)) (m+2) 0 (fun p hp=>by omega)
 have e:yu costs m s (i+1)=fM (LZ costs m s (i+1)).way (stA costs m s (i+1)) (m+2) 0:=rfl
 rw [← e] at x y z
 refine ⟨x,?_,fun t ht=>inv t fun p hp=>x p (by omega)⟩
 rcases y with y|y
 ·exact y
 ·obtain ⟨q,q1,_⟩:=inv (yu costs m s (i+1)) x
  omega
theorem qH.step (h:qH costs n m i s) (hc:Iz costs n m B) (hi:i<n):qH costs n m (i+1) (NZ costs m s (i+1)):=by
 obtain ⟨a,b,c⟩:=ZB h hc hi
 have hg:=OZ h hc hi (Xh costs m s (i+1)) a
 have eE:Et costs (Jp s (i+1)) m (Ql m s) (Xh costs m s (i+1))=LZ costs m s (i+1):=rfl
 rw [eE] at hg
 obtain ⟨_,fin,inv⟩:=kM h hc hi
 obtain ⟨q,_,hA⟩:=inv _ (Nat.le_refl _)
 have e1:(NZ costs m s (i+1)).u=(LZ costs m s (i+1)).u:=rfl
 have e2:(NZ costs m s (i+1)).v=(LZ costs m s (i+1)).v:=rfl
 have e3:(NZ costs m s (i+1)).owner=(G9 (LZ costs m s (i+1)).way (stA costs m s (i+1)) (yu costs m s (i+1))).owner:=rfl
 have e4:(NZ costs m s (i+1)).way=(LZ costs m s (i+1)).way:=rfl
 generalize NZ costs m s (i+1)=S at *
 generalize G9 (LZ costs m s (i+1)).way (stA costs m s (i+1)) (yu costs m s (i+1))=a' at *
 refine ⟨by rw [e1];exact hg.lu,by rw [e2];exact hg.lv,by rw [e3];exact hA.len,by rw [e4];exact hg.lw,fun k k1 k2=>by rw [e3];exact hA.le k k2,fun r r1 r2=>?_,fun k e k1 k2 k3 k4=>?_,fun r k r1 r2 k1 k2=>by rw [e1,e2];exact hg.WQ r k r1 r2 k1 k2,fun k k1 k2=>?_,fun k k1 k2=>by rw [e2];exact hg.aA k k1 k2,fun k k1 k2=>?_,fun r r1 r2=>by rw [e1];exact hg.UG r r1 r2,fun r hr=>by rw [e1];exact hg.uz r hr⟩
 ·obtain ⟨k,k1,k2,k3⟩:=hA.all r r1 r2
  rw [fin] at k2
  exact ⟨k,by omega,k1,by rw [e3];exact k3⟩
 ·rw [e3]
  exact hA.inj k e k2 k4 (by omega) (by omega)
 ·rw [e1,e2,e3]
  exact hA.tight k k1 k2 (by omega)
 ·rw [e2,e3]
  exact hA.free k k1 k2 (by omega)
theorem stage0:qH costs n m 0 (Dk costs n m 0):=by
 have z:∀ k,own (List.replicate (m+1) (⟨0⟩:Ix)) k=0:=fun k=>by
  unfold own gi
  rw [List.getElem?_replicate]
  split<;>rfl
 refine ⟨by simp [Dk],by simp [Dk],by simp [Dk],by simp [Dk],fun k _ _=>?_,fun r h1 h2=>by omega,fun k e _ _ _ _ _ h=>absurd (z k) h,fun r k h1 h2=>by omega,fun k _ _ h=>absurd (z k) h,fun k _ _=>?_,fun k _ _ _=>?_,fun r h1 h2=>by omega,fun r _=>?_⟩
 ·show own (List.replicate (m+1) (⟨0⟩:Ix)) k≤0
  rw [z];exact Nat.le_refl _
 ·show gi (List.replicate (m+1) (0:Int)) k≤0
  rw [U3];omega
 ·show gi (List.replicate (m+1) (0:Int)) k=0
  exact U3 k
 ·show gi (List.replicate (n+1) (0:Int)) r=0
  exact U3 r
theorem Oi (hc:Iz costs n m B):∀ i,i≤n→qH costs n m i (Dk costs n m i)
 |0,_=>stage0
 |i+1,hi=>(Oi hc i (by omega)).step hc (by omega)
end
end Go.Hun
