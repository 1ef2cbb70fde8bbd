/-
  Sorting elements by their choices. Conditions: in each statement.
-/
import Derived.Test.YtmfnchgkffhpfaaDoorCovU
set_option linter.unusedSimpArgs false
set_option linter.unusedVariables false
set_option linter.unusedSectionVars false
namespace Go.Proofs.YtmfnchgkffhpfaaDoor
open Go Go.Am Go.Vm
attribute [local irreducible] VVal VOps VOpsD VWp VCalls VFun VFunV QSeq QBlk QLoop Vm.Done DoneV DoneI VRead VReadV
def sortH (f:Int→List Int) (ks:List Int) (n:Nat) (l:List Int):Vm.Heap:=[(0,.vec 3 (cells l) n true),(1,.box 113 [.mref 2]),(2,.map (mapI 3 ks f))]
set_option maxRecDepth 100000 in
theorem cmp_spec (f:Int→List Int) (ks:List Int) (a b:Int) (ha:a∈ks) (hb:b∈ks) (h7:∀ e,(f e).length≤7):VRead env 67 [.p (.int .i64 a),.p (.int .i64 b),.ref 0 0] [(0,.box 113 [.mref 1]),(1,.map (mapI 3 ks f))] 2 (.int .i64 (((f a).length:Int)-((f b).length:Int))):=by
 have h1:=h7 a
 have h2:=h7 b
 refine VRead.enter (env_none (by decide)) Tryd.func67 rfl (by kernel_rfl) (by simp [Tryd.ntmps67]) ?_
 repeat' (first
  |apply VWp.rseq
  |apply VWp.ret
  |apply VOps.nil
  |apply VOps.one
  |(apply VVal.lookupI (ks:=ks) (f:=f) (e:=3);rfl;rfl;rfl;rfl;rfl;rfl;assumption)
  |(apply VVal.assign;rfl)
  |(apply VVal.move;rfl)
  |(apply VVal.sub64;rfl;rfl;omega)
  |(apply VVal.load;rfl;rfl)
  |(apply VVal.lenF;rfl;rfl))
 all_goals first|(exfalso;omega)|(refine Done.ret rfl (.refl _) trivial ?_ (by omega) (Nat.le_refl _) ⟨?_,rfl,rfl⟩;repeat (first|exact HCov.nil|(refine HCov.cons (lt_dec rfl) ?_ rfl ?_ ?_;(first|exact HB.under_of rfl|exact PVs.under_pure _ _|(simp [HB.under,PVs.under,PV.under]));(first|exact HLe.refl _|exact HLe.vec (FLes.refl _) (by simp))));try rfl)
theorem perm_swap {l:List Int} {j:Nat} (hj:j+1<l.length):((l.set (j+1) (gi l j)).set j (gi l (j+1))).Perm l:=by
 rw [gi_eq (by omega),gi_eq hj]
 exact List.set_set_perm hj (by omega)
set_option maxRecDepth 100000 in
set_option maxHeartbeats 2000000 in
theorem insertion_spec (f:Int→List Int) (ks l:List Int) (hl:l.length≤7) (hk:∀ e,e∈l→e∈ks) (h7:∀ e,(f e).length≤7) :
 VCalls env 86 [.vec 0 l.length 0 l.length,.p (.int .i64 0),.p (.int .i64 (l.length:Int)),.clo 67 [] [.ref 1 0]] (sortH f ks l.length l) 3 fun r H' nx'=>r=.tup []∧(∃ D,D.Perm l∧H'=sortH f ks l.length D)∧nx'=3:=by
 unfold sortH
 refine VCalls.enter (env_none (by decide)) Tryd.func86 rfl (by kernel_rfl) (by simp [Tryd.ntmps86]) ?_
 repeat' (first
  |apply VWp.rseq
  |apply VWp.blockQ
  |apply VOps.nil
  |apply VOps.one
  |(apply VVal.assign;rfl)
  |(apply VVal.move;rfl)
  |(apply VVal.add64;rfl;rfl;omega))
 refine VWp.loopQ (fun s:Nat×List Int=>[(0,.vec 0 l.length 0 l.length),(1,.p (.int .i64 0)),(2,.p (.int .i64 (l.length:Int))),(3,.clo 67 [] [.ref 1 0]),(8,.p (.int .i64 (s.1:Int)))])
  (fun s=>[(0,.vec 3 (cells s.2) l.length true),(1,.box 113 [.mref 2]),(2,.map (mapI 3 ks f))]) 3 (fun s=>s.2.Perm l∧1≤s.1∧s.1≤8) (fun s=>8-s.1) (1,l) (by omega) ⟨.refl _,by omega,by omega⟩ ⟨by omega,?_,?_⟩ ?_
 ·repeat (first|exact LCov.nil|refine LCov.same trivial rfl ?_|refine LCov.same (lt_dec rfl) rfl ?_|refine LCov.same ⟨trivial,lt_dec rfl,trivial⟩ rfl ?_|refine LCov.same ⟨trivial,lt_dec rfl,lt_dec rfl,trivial⟩ rfl ?_|refine LCov.same ⟨trivial,lt_dec rfl,lt_dec rfl,lt_dec rfl,trivial⟩ rfl ?_|refine LCov.same ⟨trivial,trivial⟩ rfl ?_|refine LCov.cons trivial rfl (.of_eq (lst_len (by simp<;>omega))) ?_)
 ·repeat (first|exact HCov.nil|(refine HCov.cons (lt_dec rfl) ?_ rfl ?_ ?_;(first|exact HB.under_of rfl|exact PVs.under_pure _ _|(simp [HB.under,PVs.under,PV.under]));(first|exact HLe.refl _|exact HLe.vec (FLes.refl _) (by simp))))
 rintro ⟨i,D⟩ ⟨hp,h1,h2⟩
 simp only at hp h1 h2
 dsimp only
 by_cases hlt:i<l.length
 case neg =>
  repeat' (first
   |apply VWp.assoc
   |apply VWp.rseq
   |apply VWp.exitSeq
   |apply QBlk.exit
   |apply QLoop.exit
   |apply VOps.nil
   |apply VOps.one
   |(apply VVal.move;rfl)
   |(apply VVal.int;rfl;rfl;rfl)
   |(apply VWp.condSeq_dec;rfl)
   |(intro _;try (exfalso;omega)))
  all_goals try (exfalso;omega)
  refine Done.normal (H0:=[(0,.vec 3 (cells D) l.length true),(1,.box 113 [.mref 2]),(2,.map (mapI 3 ks f))]) (nx0:=3) rfl (.refl _) trivial ?_ (by omega) (Nat.le_refl _) ⟨rfl,⟨D,hp,rfl⟩,rfl⟩
  repeat (first|exact HCov.nil|(refine HCov.cons (lt_dec rfl) ?_ rfl ?_ ?_;(first|exact HB.under_of rfl|exact PVs.under_pure _ _|(simp [HB.under,PVs.under,PV.under]));(first|exact HLe.refl _|exact HLe.vec (FLes.refl _) (by simp))))
 repeat' (first
  |apply VWp.assoc
  |apply VWp.rseq
  |apply VWp.skipSeq
  |apply VWp.blockSeq
  |apply VWp.blockQ
  |apply VOps.nil
  |apply VOps.one
  |(apply VVal.assign;rfl)
  |(apply VVal.move;rfl)
  |(apply VVal.int;rfl;rfl;rfl)
  |(apply VWp.condSeq_dec;rfl)
  |(intro _;try (exfalso;omega)))
 all_goals try (exfalso;omega)
 refine VWp.loopQ (fun s:Nat×List Int=>[(0,.vec 0 l.length 0 l.length),(1,.p (.int .i64 0)),(2,.p (.int .i64 (l.length:Int))),(3,.clo 67 [] [.ref 1 0]),(8,.p (.int .i64 (i:Int))),(9,.p (.int .i64 (s.1:Int)))])
  (fun s=>[(0,.vec 3 (cells s.2) l.length true),(1,.box 113 [.mref 2]),(2,.map (mapI 3 ks f))]) 3 (fun s=>s.2.Perm l∧s.1≤i) (fun s=>s.1) (i,D) (by omega) ⟨hp,by omega⟩ ⟨by omega,?_,?_⟩ ?_
 ·repeat (first|exact LCov.nil|refine LCov.same trivial rfl ?_|refine LCov.same (lt_dec rfl) rfl ?_|refine LCov.same ⟨trivial,lt_dec rfl,trivial⟩ rfl ?_|refine LCov.same ⟨trivial,lt_dec rfl,lt_dec rfl,trivial⟩ rfl ?_|refine LCov.same ⟨trivial,lt_dec rfl,lt_dec rfl,lt_dec rfl,trivial⟩ rfl ?_|refine LCov.same ⟨trivial,trivial⟩ rfl ?_|refine LCov.cons trivial rfl (.of_eq (lst_len (by simp<;>omega))) ?_)
 ·repeat (first|exact HCov.nil|(refine HCov.cons (lt_dec rfl) ?_ rfl ?_ ?_;(first|exact HB.under_of rfl|exact PVs.under_pure _ _|(simp [HB.under,PVs.under,PV.under]));(first|exact HLe.refl _|exact HLe.vec (FLes.refl _) (by simp))))
 skip
 rintro ⟨j,D2⟩ ⟨hp2,hj⟩
 simp only at hp2 hj
 dsimp only
 have hDl:=hp2.length_eq
 have hmem:∀ i,i<l.length→gi D2 i∈ks:=fun i hi=>hk _ (hp2.mem_iff.1 (gi_mem (by omega)))
 match j with
 |0 =>
  repeat' (first
   |apply VWp.assoc
   |apply VWp.rseqD
   |apply VWp.region
   |apply VWp.exitSeq
   |apply QSeq.normal
   |apply QBlk.normal
   |apply QBlk.exit
   |apply QLoop.exit
   |apply VOps.nil
   |apply VOpsD.nil
   |apply VOps.one
   |(apply VOpsD.bar;decide +kernel)
   |(apply VOpsD.drop;rfl;rfl;rfl)
   |(apply VVal.assign;rfl)
   |(apply VVal.move;rfl)
   |(apply VVal.add64;rfl;rfl;omega)
   |(apply VVal.int;rfl;rfl;rfl)
   |(apply VVal.pick_false;rfl;rfl)
   |(apply VWp.condSeq_false;rfl))
  all_goals try (exfalso;omega)
  refine QLoop.normal ⟨(i+1,D2),⟨hp2,by simp only;omega,by simp only;omega⟩,by simp only;omega,⟨by omega,?_,?_⟩⟩
  ·repeat (first|exact LCov.nil|refine LCov.same trivial rfl ?_|refine LCov.same (lt_dec rfl) rfl ?_|refine LCov.same ⟨trivial,lt_dec rfl,trivial⟩ rfl ?_|refine LCov.same ⟨trivial,lt_dec rfl,lt_dec rfl,trivial⟩ rfl ?_|refine LCov.same ⟨trivial,lt_dec rfl,lt_dec rfl,lt_dec rfl,trivial⟩ rfl ?_|refine LCov.same ⟨trivial,trivial⟩ rfl ?_|refine LCov.cons trivial rfl (.of_eq (lst_len (by simp<;>omega))) ?_)
  ·repeat (first|exact HCov.nil|(refine HCov.cons (lt_dec rfl) ?_ rfl ?_ ?_;(first|exact HB.under_of rfl|exact PVs.under_pure _ _|(simp [HB.under,PVs.under,PV.under]));(first|exact HLe.refl _|exact HLe.vec (FLes.refl _) (by simp))))
 |j+1 =>
  have e0:(((j+1:Nat):Int)-1).toNat=j:=by omega
  have m2:gi D2 (((j+1:Nat):Int)-1).toNat∈ks:=by rw [e0];exact hmem j (by omega)
  have hcl:=cmp_spec f ks (gi D2 (j+1)) (gi D2 (((j+1:Nat):Int)-1).toNat) (hmem (j+1) (by omega)) m2 h7
  repeat' (first
   |(apply VOpsD.take (w:=true);rfl;rfl;decide +kernel)
   |apply VWp.assoc
   |apply VWp.rseqD
   |apply VWp.region
   |apply VWp.regionD
   |apply VWp.skipSeq
   |apply VWp.exitSeq
   |apply VWp.blockSeq
   |apply QSeq.normal
   |apply QBlk.normal
   |apply QBlk.exit
   |apply QLoop.exit
   |apply VOps.nil
   |apply VOpsD.nil
   |apply VOps.one
   |(apply VOpsD.bar;decide +kernel)
   |apply VOpsD.quiet
   |(apply VOpsD.quietTake;rfl;rfl)
   |(apply VOpsD.guard;rfl;rfl)
   |(apply VVal.read [1,2] hcl;rfl;rfl;exact .of_eq rfl;exact PVs.under_of rfl;exact HUnder_of rfl;(repeat (first|exact trivial|refine ⟨⟨_,rfl,.of_eq rfl⟩,?_⟩));decide;(intro _ hb;simp at hb<;>omega);rfl)
   |(apply VVal.storeVL (y:=gi D2 (((j+1:Nat):Int)-1).toNat);rfl;rfl;rfl;trivial;(first|rfl|(refine congrArg (fun t=>[PV.p (FV.int _ t)]) ?_;first|omega|(simp only [Int.natCast_add,Int.natCast_mul,Int.natCast_ediv,Int.natCast_emod]<;>omega)));rfl;rfl;decide;(first|omega|(simp only [List.length_set]<;>omega)))
   |(apply VVal.storeVL (y:=gi D2 (j+1));rfl;rfl;rfl;trivial;(first|rfl|(refine congrArg (fun t=>[PV.p (FV.int _ t)]) ?_;first|omega|(simp only [Int.natCast_add,Int.natCast_mul,Int.natCast_ediv,Int.natCast_emod]<;>omega)));rfl;rfl;decide;(first|omega|(simp only [List.length_set]<;>omega)))
   |(apply VVal.assign;rfl)
   |(apply VVal.move;rfl)
   |(apply VVal.add64;rfl;rfl;omega)
   |(apply VVal.sub64;rfl;rfl;omega)
   |(apply VVal.int;rfl;rfl;rfl)
   |(apply VVal.loadVL;rfl;rfl;omega;rfl)
   |(apply VVal.pick_true;rfl;rfl)
   |(apply VVal.indexVN;rfl;rfl;rfl;rfl;omega)
   |(apply VVal.indexVE;rfl;rfl;rfl;rfl;omega;omega)
   |(apply VWp.condSeq_dec;rfl)
   |(intro _;try (exfalso;omega)))
  all_goals try (exfalso;omega)
  ·refine QLoop.normal ⟨(j,(D2.set (j+1) (gi D2 j)).set j (gi D2 (j+1))),⟨(perm_swap (by omega)).trans hp2,by simp only;omega⟩,by simp only;omega,⟨by omega,?_,?_⟩⟩
   ·have e1:(((j+1:Nat):Int)-1)=(j:Int):=by omega
    try rw [e1]
    repeat (first|exact LCov.nil|refine LCov.same trivial rfl ?_|refine LCov.same (lt_dec rfl) rfl ?_|refine LCov.same ⟨trivial,lt_dec rfl,trivial⟩ rfl ?_|refine LCov.same ⟨trivial,lt_dec rfl,lt_dec rfl,trivial⟩ rfl ?_|refine LCov.same ⟨trivial,lt_dec rfl,lt_dec rfl,lt_dec rfl,trivial⟩ rfl ?_|refine LCov.same ⟨trivial,trivial⟩ rfl ?_|refine LCov.cons trivial rfl (.of_eq (lst_len (by simp<;>omega))) ?_)
   ·try rw [e0]
    repeat (first|exact HCov.nil|(refine HCov.cons (lt_dec rfl) ?_ rfl ?_ ?_;(first|exact HB.under_of rfl|exact PVs.under_pure _ _|(simp [HB.under,PVs.under,PV.under]));(first|exact HLe.refl _|exact HLe.vec (FLes.refl _) (by simp))))
  ·refine QLoop.normal ⟨(i+1,D2),⟨hp2,by simp only;omega,by simp only;omega⟩,by simp only;omega,⟨by omega,?_,?_⟩⟩
   ·repeat (first|exact LCov.nil|refine LCov.same trivial rfl ?_|refine LCov.same (lt_dec rfl) rfl ?_|refine LCov.same ⟨trivial,lt_dec rfl,trivial⟩ rfl ?_|refine LCov.same ⟨trivial,lt_dec rfl,lt_dec rfl,trivial⟩ rfl ?_|refine LCov.same ⟨trivial,lt_dec rfl,lt_dec rfl,lt_dec rfl,trivial⟩ rfl ?_|refine LCov.same ⟨trivial,trivial⟩ rfl ?_|refine LCov.cons trivial rfl (.of_eq (lst_len (by simp<;>omega))) ?_)
   ·repeat (first|exact HCov.nil|(refine HCov.cons (lt_dec rfl) ?_ rfl ?_ ?_;(first|exact HB.under_of rfl|exact PVs.under_pure _ _|(simp [HB.under,PVs.under,PV.under]));(first|exact HLe.refl _|exact HLe.vec (FLes.refl _) (by simp))))
set_option maxRecDepth 100000 in
set_option maxHeartbeats 2000000 in
theorem stable_spec (f:Int→List Int) (ks l:List Int) (hl:l.length≤7) (hk:∀ e,e∈l→e∈ks) (h7:∀ e,(f e).length≤7) :
 VCalls env 79 [.vec 0 l.length 0 l.length,.p (.int .i64 (l.length:Int)),.clo 67 [] [.ref 1 0]] (sortH f ks l.length l) 3 fun r H' nx'=>r=.tup []∧(∃ D,D.Perm l∧H'=sortH f ks l.length D)∧nx'=3:=by
 have hin:=insertion_spec f ks l hl hk h7
 unfold sortH at *
 refine VCalls.enter (env_none (by decide)) Tryd.func79 rfl (by kernel_rfl) (by simp [Tryd.ntmps79]) ?_
 repeat' (first
  |apply VWp.rseq
  |apply VWp.blockSeq
  |apply VOps.nil
  |apply VOps.one
  |(apply VVal.assign;rfl)
  |(apply VVal.move;rfl))
 apply VWp.loopN 0
 apply VUn.zero
 repeat' (first
  |apply VWp.assoc
  |apply VWp.rseq
  |apply VWp.exitSeq
  |apply QSeq.normal
  |apply QBlk.exit
  |apply QLoop.exit
  |apply VOps.nil
  |apply VOps.one
  |(apply VVal.move;rfl)
  |(apply VVal.int;rfl;rfl;rfl)
  |(apply VWp.condSeq_dec;rfl)
  |(intro _;try (exfalso;omega)))
 all_goals try (exfalso;omega)
 refine VVal.callSame rfl rfl (.of_eq rfl) hin ?_
 rintro r H' nx' ⟨rfl,⟨D,hp,rfl⟩,rfl⟩
 repeat' (first
  |apply VWp.blockQ
  |apply VOps.nil)
 apply VWp.loopN 0
 apply VUn.zero
 repeat' (first
  |apply VWp.assoc
  |apply VWp.rseq
  |apply VWp.exitSeq
  |apply QBlk.exit
  |apply QLoop.exit
  |apply VOps.nil
  |apply VOps.one
  |(apply VVal.move;rfl)
  |(apply VVal.int;rfl;rfl;rfl)
  |(apply VWp.condSeq_dec;rfl)
  |(intro _;try (exfalso;omega)))
 all_goals try (exfalso;omega)
 refine Done.normal (H0:=[(0,.vec 3 (cells D) l.length true),(1,.box 113 [.mref 2]),(2,.map (mapI 3 ks f))]) (nx0:=3) rfl (.refl _) trivial ?_ (by omega) (Nat.le_refl _) ⟨rfl,⟨D,hp,rfl⟩,rfl⟩
 repeat (first|exact HCov.nil|(refine HCov.cons (lt_dec rfl) ?_ rfl ?_ ?_;(first|exact HB.under_of rfl|exact PVs.under_pure _ _|(simp [HB.under,PVs.under,PV.under]));(first|exact HLe.refl _|exact HLe.vec (FLes.refl _) (by simp))))
set_option maxRecDepth 100000 in
theorem sort_spec (f:Int→List Int) (ks l:List Int) (hl:l.length≤7) (hk:∀ e,e∈l→e∈ks) (h7:∀ e,(f e).length≤7) :
 VCalls env 66 [.vec 0 l.length 0 l.length,.clo 67 [] [.ref 1 0]] (sortH f ks l.length l) 3 fun r H' nx'=>r=.tup []∧(∃ D,D.Perm l∧H'=sortH f ks l.length D)∧nx'=3:=by
 have hin:=stable_spec f ks l hl hk h7
 unfold sortH at *
 refine VCalls.enter (env_none (by decide)) Tryd.func66 rfl (by kernel_rfl) (by simp [Tryd.ntmps66]) ?_
 repeat' (first
  |apply VWp.region
  |apply VOps.one
  |(apply VVal.move;rfl)
  |(apply VVal.lenV;rfl;rfl;rfl))
 refine VVal.callSame rfl rfl (.of_eq rfl) hin ?_
 rintro r H' nx' ⟨rfl,⟨D,hp,rfl⟩,rfl⟩
 repeat' (first
  |apply VOps.nil)
 refine Done.normal (H0:=[(0,.vec 3 (cells D) l.length true),(1,.box 113 [.mref 2]),(2,.map (mapI 3 ks f))]) (nx0:=3) rfl (.refl _) trivial ?_ (by omega) (Nat.le_refl _) ⟨rfl,⟨D,hp,rfl⟩,rfl⟩
 repeat (first|exact HCov.nil|(refine HCov.cons (lt_dec rfl) ?_ rfl ?_ ?_;(first|exact HB.under_of rfl|exact PVs.under_pure _ _|(simp [HB.under,PVs.under,PV.under]));(first|exact HLe.refl _|exact HLe.vec (FLes.refl _) (by simp))))
end Go.Proofs.YtmfnchgkffhpfaaDoor
