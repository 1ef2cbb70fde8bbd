/-
  The greedy cover and the essential sets: what the layer's functions compute. Conditions: in each statement.
-/
import Derived.Test.YtmfnchgkffhpfaaDoorCovN
set_option linter.unusedSimpArgs false
set_option linter.unusedVariables false
set_option linter.unusedSectionVars false
namespace Go.Proofs.YtmfnchgkffhpfaaDoor
open Go Go.Am Go.Vm
attribute [local irreducible] VVal VOps VOpsD VWp VCalls VFun VFunV QSeq QBlk QLoop Vm.Done DoneV
theorem vint_cells_len {L:List CSet} {k:Nat} (hk:k≤L.length):((wordsL L).take k).length=k:=by rw [List.length_take];unfold wordsL;rw [List.length_map];omega
set_option maxRecDepth 100000 in
theorem words_spec (p:CProb) (hL:p.sets.length<1000) (h:ElsOk p.sets):VFunV env 50 [.agg (Enc.enc p)] 74 (cells (wordsL p.sets)) (wordsL p.sets).length true:=by
 have e0:(wordsL p.sets).length=p.sets.length:=by unfold wordsL;rw [List.length_map]
 refine VFunV.enter (env_none (by decide)) Tryd.func50 rfl (by kernel_rfl) (by simp [Tryd.ntmps50]) ?_
 repeat' (first
  |apply VWp.assoc
  |apply VWp.rseq
  |apply VWp.blockSeq
  |apply VOps.nil
  |apply VOps.one
  |(apply VVal.assign;rfl)
  |(apply VVal.move;rfl)
  |(apply VVal.load;rfl;rfl)
  |(apply VVal.lenF;rfl;rfl)
  |(apply VVal.fieldB;rfl;rfl;rfl)
  |(apply VVal.box;rfl;trivial))
 refine VWp.ghost (Ghost.adopt 3 74 rfl) ?_
 apply VWp.loopR (p.sets.length) [(1,_),(7,_),(8,_)] [(0,_)] (fun k r=>(9,.p (.int .i64 (k:Int)))::(3,.vec 1 ((wordsL p.sets).take k).length 0 ((wordsL p.sets).take k).length)::r) (fun k r=>(1,.vec 74 (cells ((wordsL p.sets).take k)) ((wordsL p.sets).take k).length true)::r) 2
 ·omega
 ·omega
 ·repeat (first|exact LCov.nil|(refine LCov.eq rfl ?_ ?_;(first|exact PV.under_of rfl|(simp [PV.under,PVs.under];done)))|refine LCov.cons trivial rfl (.of_eq (lst_len (by simp<;>omega))) ?_)
 ·repeat (first|exact HCov.nil|(refine HCov.eq rfl (lt_dec rfl) ?_ ?_;(first|exact HB.under_of rfl|exact PVs.under_pure _ _|(simp [HB.under,PVs.under,PV.under];done)))|(refine HCov.cons (lt_dec rfl) ?_ rfl ?_ ?_;(first|exact trivial|exact PVs.under_pure _ _|(simp [HB.under,PVs.under,PV.under]));(first|exact HLe.refl _|exact HLe.vec (FLes.refl _) (by simp))))
 ·intro k hk
  have e1:(wordsL p.sets).take (k+1)=(wordsL p.sets).take k++[wordC (gi p.sets k)]:=by rw [take_succ_gi (by omega),wordsL_gi hk]
  have e2:((wordsL p.sets).take (k+1)).length=((wordsL p.sets).take k).length+1:=by rw [e1];simp
  have e3:=vint_cells_len (L:=p.sets) (k:=k) (by omega)
  obtain ⟨g1,g2,g3,g4⟩:=h k hk
  have hw:=word_spec 3 (gi p.sets k).els (by omega) g2
  have h4:=(wordC_spec h hk).1
  repeat' (first
   |apply VWp.rseq
   |apply VWp.region
   |apply VWp.skipSeq
   |apply VWp.blockSeq
   |apply QSeq.normal
   |apply QBlk.normal
   |apply VOps.nil
   |apply VOps.one
   |(apply VVal.fn;rfl;rfl;exact hw;intro _;rfl)
   |(apply VVal.append1 (a:=wordC (gi p.sets k));rfl;rfl;rfl;rfl;rfl;rfl;rfl;rfl;(intro _ h;cases h);rfl;rfl;rfl;decide;decide;(first|omega|(simp only [List.length_take,List.length_drop,List.length_append,List.length_singleton,List.length_cons,List.length_nil]<;>omega)))
   |(apply VVal.assign;rfl)
   |(apply VVal.move;rfl)
   |(apply VVal.add64;rfl;rfl;omega)
   |(apply VVal.int;rfl;rfl;rfl)
   |(apply VVal.indexN;rfl;rfl;rfl;omega;rfl)
   |(apply VVal.load;rfl;rfl)
   |(apply VVal.fieldB;rfl;rfl;rfl)
   |(apply VVal.alloc;rfl)
   |(apply VVal.storeB;rfl;rfl;rfl;trivial;rfl;rfl;exact lt_dec rfl;exact le_dec rfl)
   |(apply VVal.buildSlice;rfl;rfl;rfl;decide;rfl;rfl;rfl)
   |(apply VWp.condSeq_dec;rfl)
   |(intro _;try (exfalso;omega)))
  all_goals try (exfalso;omega)
  refine QLoop.normal ⟨by omega,?_,?_⟩
  ·try ((try rw [e2])<;>(try rw [e1]))
   repeat (first|exact LCov.nil|refine LCov.same trivial rfl ?_|refine LCov.same (lt_dec rfl) rfl ?_|refine LCov.same ⟨trivial,lt_dec rfl,trivial⟩ rfl ?_|refine LCov.same ⟨trivial,lt_dec rfl,lt_dec rfl,trivial⟩ rfl ?_|refine LCov.same ⟨trivial,lt_dec rfl,lt_dec rfl,lt_dec rfl,trivial⟩ rfl ?_|refine LCov.same ⟨trivial,trivial⟩ rfl ?_|refine LCov.cons trivial rfl (.of_eq (lst_len (by simp<;>omega))) ?_)
  ·(try rw [e2])<;>(try rw [e1])
   repeat (first|exact HCov.nil|(refine HCov.cons (lt_dec rfl) ?_ rfl ?_ ?_;(first|exact HB.under_of rfl|exact PVs.under_pure _ _|(simp [HB.under,PVs.under,PV.under]));(first|exact HLe.refl _|exact HLe.vec (FLes.refl _) (by simp))))
 ·rw [List.take_of_length_le (by omega)]
  repeat' (first
   |apply VWp.rseq
   |apply VWp.exitSeq
   |apply QSeq.normal
   |apply QBlk.exit
   |apply QLoop.exit
   |apply VWp.ret
   |apply VOps.nil
   |apply VOps.one
   |(apply VVal.assign;rfl)
   |(apply VVal.move;rfl)
   |(apply VVal.int;rfl;rfl;rfl)
   |(apply VWp.condSeq_dec;rfl)
   |(intro _;try (exfalso;omega)))
  all_goals first|(exfalso;omega)|exact DoneV.ret rfl rfl rfl rfl
set_option maxRecDepth 100000 in
theorem possible_spec (p:CProb) (n:Nat) (hp:p.n=n) (hn:n≤7) (hL:p.sets.length<1000) (h:ElsOk p.sets):VFun env 49 [.agg (Enc.enc p)] (.p (.bool (decide (orK p.sets p.sets.length p.sets.length=2 ^ n-1)))):=by
 have hw:=words_spec p hL h
 have ha:=all_spec p n hp hn
 have e0:(wordsL p.sets).length=p.sets.length:=by unfold wordsL;rw [List.length_map]
 refine VFun.enter (env_none (by decide)) Tryd.func49 rfl (by kernel_rfl) (by simp [Tryd.ntmps49]) ?_
 repeat' (first
  |(refine VOps.atOp 8 ?_;refine VOps.ghost (Ghost.freeze 7 rfl rfl) ?_)
  |apply VWp.assoc
  |apply VWp.rseq
  |apply VWp.blockSeq
  |apply VOps.nil
  |apply VOps.one
  |(apply VVal.fv;rfl;rfl;exact hw)
  |(apply VVal.assign;rfl)
  |(apply VVal.move;rfl)
  |(apply VVal.load;rfl;rfl)
  |(apply VVal.lenF;rfl;rfl)
  |(apply VVal.box;rfl;trivial))
 apply VWp.loopR (p.sets.length) [(1,_),(7,_),(8,_)] [(0,_)] (fun k r=>(9,.p (.int .i64 (k:Int)))::(3,.p (.int .u64 (orK p.sets p.sets.length k:Int)))::r) (fun k r=>r) 2
 ·omega
 ·omega
 ·repeat (first|exact LCov.nil|(refine LCov.eq rfl ?_ ?_;(first|exact PV.under_of rfl|(simp [PV.under,PVs.under];done)))|refine LCov.cons trivial rfl (.of_eq (lst_len (by simp<;>omega))) ?_)
 ·repeat (first|exact HCov.nil|(refine HCov.eq rfl (lt_dec rfl) ?_ ?_;(first|exact HB.under_of rfl|exact PVs.under_pure _ _|(simp [HB.under,PVs.under,PV.under];done)))|(refine HCov.cons (lt_dec rfl) ?_ rfl ?_ ?_;(first|exact trivial|exact PVs.under_pure _ _|(simp [HB.under,PVs.under,PV.under]));(first|exact HLe.refl _|exact HLe.vec (FLes.refl _) (by simp))))
 ·intro k hk
  have h1:=(orK_spec h p.sets.length k (by omega)).1
  have h2:=(wordC_spec h hk).1
  have h3:=wordsL_gi hk
  have e1:orK p.sets p.sets.length (k+1)=orK p.sets p.sets.length k ||| gi (wordsL p.sets) k:=by rw [orK,if_pos (by omega),h3]
  rw [← h3] at h2
  repeat' (first
   |apply VWp.rseq
   |apply VWp.region
   |apply VWp.skipSeq
   |apply VWp.blockSeq
   |apply QSeq.normal
   |apply QBlk.normal
   |apply VOps.nil
   |apply VOps.one
   |(apply VVal.assign;rfl)
   |(apply VVal.move;rfl)
   |(apply VVal.add64;rfl;rfl;omega)
   |(apply VVal.orU;rfl;rfl;omega;omega)
   |(apply VVal.int;rfl;rfl;rfl)
   |(apply VVal.indexN;rfl;rfl;rfl;omega;rfl)
   |(apply VVal.load;rfl;rfl)
   |(apply VWp.condSeq_dec;rfl)
   |(intro _;try (exfalso;omega)))
  all_goals try (exfalso;omega)
  refine QLoop.normal ⟨by omega,?_,?_⟩
  ·try ((try rw [e1]))
   repeat (first|exact LCov.nil|refine LCov.same trivial rfl ?_|refine LCov.same (lt_dec rfl) rfl ?_|refine LCov.same ⟨trivial,lt_dec rfl,trivial⟩ rfl ?_|refine LCov.same ⟨trivial,lt_dec rfl,lt_dec rfl,trivial⟩ rfl ?_|refine LCov.same ⟨trivial,lt_dec rfl,lt_dec rfl,lt_dec rfl,trivial⟩ rfl ?_|refine LCov.same ⟨trivial,trivial⟩ rfl ?_|refine LCov.cons trivial rfl (.of_eq (lst_len (by simp<;>omega))) ?_)
  ·(try rw [e1])
   repeat (first|exact HCov.nil|(refine HCov.cons (lt_dec rfl) ?_ rfl ?_ ?_;(first|exact HB.under_of rfl|exact PVs.under_pure _ _|(simp [HB.under,PVs.under,PV.under]));(first|exact HLe.refl _|exact HLe.vec (FLes.refl _) (by simp))))
 ·have h1:=(orK_spec h p.sets.length p.sets.length (by omega)).1
  generalize orK p.sets p.sets.length p.sets.length=w at *
  repeat' (first
   |apply VWp.rseq
   |apply VWp.exitSeq
   |apply QSeq.normal
   |apply QBlk.exit
   |apply QLoop.exit
   |apply VWp.ret
   |apply VOps.nil
   |apply VOps.one
   |(apply VVal.fn;rfl;rfl;exact ha;intro _;rfl)
   |(apply VVal.assign;rfl)
   |(apply VVal.move;rfl)
   |(apply VVal.int;rfl;rfl;rfl)
   |(apply VVal.load;rfl;rfl)
   |(apply VWp.condSeq_dec;rfl)
   |(intro _;try (exfalso;omega)))
  all_goals first|(exfalso;omega)|((refine Done.ret rfl (.refl _) (by first|exact trivial|exact ⟨trivial,trivial,trivial⟩|exact ⟨trivial,trivial,trivial,trivial⟩) HCov.nil (Nat.zero_le _) (Nat.le_refl _) ⟨?_,rfl,rfl⟩;try rfl);try (congr 2;rw [decide_eq_decide];omega))
set_option maxRecDepth 100000 in
theorem lall_spec (p:CProb) (hL:p.sets.length<1000):VFunV env 30 [.agg (Enc.enc p)] 3 (cells (allL p.sets.length)) (allL p.sets.length).length true:=by
 have e0:=allL_len p.sets.length
 refine VFunV.enter (env_none (by decide)) Tryd.func30 rfl (by kernel_rfl) (by simp [Tryd.ntmps30]) ?_
 repeat' (first
  |apply VWp.assoc
  |apply VWp.rseq
  |apply VWp.blockSeq
  |apply VOps.nil
  |apply VOps.one
  |(apply VVal.assign;rfl)
  |(apply VVal.box;rfl;trivial))
 refine VWp.ghost (Ghost.adopt 3 3 rfl) ?_
 apply VWp.loopR (p.sets.length) [(1,_)] [(0,_)] (fun k r=>(4,.p (.int .i64 (k:Int)))::(3,.vec 1 (allL k).length 0 (allL k).length)::r) (fun k r=>(1,.vec 3 (cells (allL k)) (allL k).length true)::r) 2
 ·omega
 ·omega
 ·repeat (first|exact LCov.nil|(refine LCov.eq rfl ?_ ?_;(first|exact PV.under_of rfl|(simp [PV.under,PVs.under];done)))|refine LCov.cons trivial rfl (.of_eq (lst_len (by simp<;>omega))) ?_)
 ·repeat (first|exact HCov.nil|(refine HCov.eq rfl (lt_dec rfl) ?_ ?_;(first|exact HB.under_of rfl|exact PVs.under_pure _ _|(simp [HB.under,PVs.under,PV.under];done)))|(refine HCov.cons (lt_dec rfl) ?_ rfl ?_ ?_;(first|exact trivial|exact PVs.under_pure _ _|(simp [HB.under,PVs.under,PV.under]));(first|exact HLe.refl _|exact HLe.vec (FLes.refl _) (by simp))))
 ·intro k hk
  have e1:=allL_succ k
  have e2:(allL (k+1)).length=(allL k).length+1:=by rw [e1];simp
  have e3:=allL_len k
  repeat' (first
   |apply VWp.assoc
   |apply VWp.rseq
   |apply VWp.region
   |apply VWp.skipSeq
   |apply VWp.blockSeq
   |apply QSeq.normal
   |apply QBlk.normal
   |apply VOps.nil
   |apply VOps.one
   |(apply VVal.append1 (a:=(k:Int));rfl;rfl;rfl;rfl;rfl;rfl;rfl;rfl;(intro _ h;cases h);rfl;rfl;rfl;decide;decide;(first|omega|(simp only [List.length_take,List.length_drop,List.length_append,List.length_singleton,List.length_cons,List.length_nil]<;>omega)))
   |(apply VVal.assign;rfl)
   |(apply VVal.move;rfl)
   |(apply VVal.add64;rfl;rfl;omega)
   |(apply VVal.int;rfl;rfl;rfl)
   |(apply VVal.load;rfl;rfl)
   |(apply VVal.lenF;rfl;rfl)
   |(apply VVal.fieldB;rfl;rfl;rfl)
   |(apply VVal.buildSlice;rfl;rfl;rfl;decide;rfl;rfl;rfl)
   |(apply VWp.condSeq_dec;rfl)
   |(intro _;try (exfalso;omega)))
  all_goals try (exfalso;omega)
  refine QLoop.normal ⟨by omega,?_,?_⟩
  ·try ((try rw [e2])<;>(try rw [e1]))
   repeat (first|exact LCov.nil|refine LCov.same trivial rfl ?_|refine LCov.same (lt_dec rfl) rfl ?_|refine LCov.same ⟨trivial,lt_dec rfl,trivial⟩ rfl ?_|refine LCov.same ⟨trivial,lt_dec rfl,lt_dec rfl,trivial⟩ rfl ?_|refine LCov.same ⟨trivial,lt_dec rfl,lt_dec rfl,lt_dec rfl,trivial⟩ rfl ?_|refine LCov.same ⟨trivial,trivial⟩ rfl ?_|refine LCov.cons trivial rfl (.of_eq (lst_len (by simp<;>omega))) ?_)
  ·(try rw [e2])<;>(try rw [e1])
   repeat (first|exact HCov.nil|(refine HCov.cons (lt_dec rfl) ?_ rfl ?_ ?_;(first|exact HB.under_of rfl|exact PVs.under_pure _ _|(simp [HB.under,PVs.under,PV.under]));(first|exact HLe.refl _|exact HLe.vec (FLes.refl _) (by simp))))
 ·repeat' (first
   |apply VWp.assoc
   |apply VWp.rseq
   |apply VWp.exitSeq
   |apply QSeq.normal
   |apply QBlk.exit
   |apply QLoop.exit
   |apply VWp.ret
   |apply VOps.nil
   |apply VOps.one
   |(apply VVal.assign;rfl)
   |(apply VVal.move;rfl)
   |(apply VVal.int;rfl;rfl;rfl)
   |(apply VVal.load;rfl;rfl)
   |(apply VVal.lenF;rfl;rfl)
   |(apply VVal.fieldB;rfl;rfl;rfl)
   |(apply VWp.condSeq_dec;rfl)
   |(intro _;try (exfalso;omega)))
  all_goals first|(exfalso;omega)|exact DoneV.ret rfl rfl rfl rfl
section
variable {p:CProb} (hc:VFun env 34 [.agg (Enc.enc p)] (.p (.int .i64 0)))
include hc
set_option maxRecDepth 100000 in
theorem greedyNone_spec (hq:VFun env 49 [.agg (Enc.enc p)] (.p (.bool false))):VFun env 28 [.agg (Enc.enc p)] (.tup [.p (.val (.slice none 0 0)),.p (.int .i64 18)]):=by
 refine VFun.enter (env_none (by decide)) Tryd.func28 rfl (by kernel_rfl) (by simp [Tryd.ntmps28]) ?_
 repeat' (first
  |apply VWp.assoc
  |apply VWp.rseq
  |apply VWp.skipSeq
  |apply VWp.retSeq
  |apply VOps.nil
  |apply VOps.one
  |(apply VVal.fn;rfl;rfl;exact hc;intro _;rfl)
  |(apply VVal.fn;rfl;rfl;exact hq;intro _;rfl)
  |(apply VVal.assign;rfl)
  |(apply VVal.move;rfl)
  |(apply VVal.int;rfl;rfl;rfl)
  |(apply VVal.load;rfl;rfl)
  |(apply VVal.box;rfl;trivial)
  |(apply VVal.not;rfl)
  |(apply VWp.condSeq_true;rfl)
  |(apply VWp.condSeq_false;rfl))
 all_goals first|(exfalso;omega)|contradiction|(refine Done.ret rfl (.refl _) (by first|exact trivial|exact ⟨trivial,trivial,trivial⟩|exact ⟨trivial,trivial,trivial,trivial⟩) HCov.nil (Nat.zero_le _) (Nat.le_refl _) ⟨?_,rfl,rfl⟩;try rfl)
set_option maxRecDepth 100000 in
theorem essentialNone_spec (hq:VFun env 49 [.agg (Enc.enc p)] (.p (.bool false))):VFun env 29 [.agg (Enc.enc p)] (.tup [.p (.val (.slice none 0 0)),.p (.int .i64 18)]):=by
 refine VFun.enter (env_none (by decide)) Tryd.func29 rfl (by kernel_rfl) (by simp [Tryd.ntmps29]) ?_
 repeat' (first
  |apply VWp.assoc
  |apply VWp.rseq
  |apply VWp.skipSeq
  |apply VWp.retSeq
  |apply VOps.nil
  |apply VOps.one
  |(apply VVal.fn;rfl;rfl;exact hc;intro _;rfl)
  |(apply VVal.fn;rfl;rfl;exact hq;intro _;rfl)
  |(apply VVal.assign;rfl)
  |(apply VVal.move;rfl)
  |(apply VVal.int;rfl;rfl;rfl)
  |(apply VVal.load;rfl;rfl)
  |(apply VVal.box;rfl;trivial)
  |(apply VVal.not;rfl)
  |(apply VWp.condSeq_true;rfl)
  |(apply VWp.condSeq_false;rfl))
 all_goals first|(exfalso;omega)|contradiction|(refine Done.ret rfl (.refl _) (by first|exact trivial|exact ⟨trivial,trivial,trivial⟩|exact ⟨trivial,trivial,trivial,trivial⟩) HCov.nil (Nat.zero_le _) (Nat.le_refl _) ⟨?_,rfl,rfl⟩;try rfl)
end
def essK (L:List CSet) (n k:Nat):List Int:=(allL k).filter fun x=>decide (orK L x.toNat L.length≠2 ^ n-1)
theorem essK_succ (L:List CSet) (n k:Nat):essK L n (k+1)=if orK L k L.length≠2 ^ n-1 then essK L n k++[(k:Int)] else essK L n k:=by
 unfold essK
 rw [allL_succ,List.filter_append]
 by_cases h:orK L k L.length=2 ^ n-1
 ·rw [if_neg (by simpa using h)];simp [h]
 ·rw [if_pos h];simp [h]
theorem essK_len (L:List CSet) (n k:Nat):(essK L n k).length≤k:=by
 have:=List.length_filter_le (fun x:Int=>decide (orK L x.toNat L.length≠2 ^ n-1)) (allL k)
 rw [allL_len] at this
 exact this
set_option maxRecDepth 100000 in
set_option maxHeartbeats 1000000 in
theorem essential_spec {p:CProb} (hc:VFun env 34 [.agg (Enc.enc p)] (.p (.int .i64 0))) (n:Nat) (hp:p.n=n) (hn:n≤7) (hL:p.sets.length<1000) (h:ElsOk p.sets) (hq:VFun env 49 [.agg (Enc.enc p)] (.p (.bool true))) :
 VFun env 29 [.agg (Enc.enc p)] (.tup [.p (.lst 3 (cells (essK p.sets n p.sets.length)) (essK p.sets n p.sets.length).length),.p (.int .i64 0)]):=by
 have hw:=words_spec p hL h
 have ha:=all_spec p n hp hn
 have e0:(wordsL p.sets).length=p.sets.length:=by unfold wordsL;rw [List.length_map]
 have hfull:2 ^ n-1<128:=by have:=Nat.pow_le_pow_right (show 0<2 by omega) hn;have:=Nat.two_pow_pos n;omega
 refine VFun.enter (env_none (by decide)) Tryd.func29 rfl (by kernel_rfl) (by simp [Tryd.ntmps29]) ?_
 repeat' (first
  |(refine VWp.at 7 ?_;refine VWp.ghost (Ghost.freeze 5 rfl rfl) ?_;first|apply VWp.rseq|apply VWp.rseqD)
  |apply VWp.assoc
  |apply VWp.rseq
  |apply VWp.skipSeq
  |apply VWp.blockSeq
  |apply VOps.nil
  |apply VOps.one
  |(apply VVal.fn;rfl;rfl;exact hc;intro _;rfl)
  |(apply VVal.fn;rfl;rfl;exact hq;intro _;rfl)
  |(apply VVal.fv;rfl;rfl;exact hw)
  |(apply VVal.assign;rfl)
  |(apply VVal.move;rfl)
  |(apply VVal.int;rfl;rfl;rfl)
  |(apply VVal.load;rfl;rfl)
  |(apply VVal.lenF;rfl;rfl)
  |(apply VVal.box;rfl;trivial)
  |(apply VVal.not;rfl)
  |(apply VWp.condSeq_false;rfl))
 all_goals try (exfalso;omega)
 all_goals try contradiction
 refine VWp.ghost (Ghost.adopt 6 3 rfl) ?_
 apply VWp.loopR (p.sets.length) [(1,_),(5,_),(22,_)] [(0,_)] (fun k r=>(23,.p (.int .i64 (k:Int)))::(6,.vec 2 (essK p.sets n k).length 0 (essK p.sets n k).length)::r) (fun k r=>(2,.vec 3 (cells (essK p.sets n k)) (essK p.sets n k).length true)::r) 3
 ·omega
 ·omega
 ·repeat (first|exact LCov.nil|(refine LCov.eq rfl ?_ ?_;(first|exact PV.under_of rfl|(simp [PV.under,PVs.under];done)))|refine LCov.cons trivial rfl (.of_eq (lst_len (by simp<;>omega))) ?_)
 ·repeat (first|exact HCov.nil|(refine HCov.eq rfl (lt_dec rfl) ?_ ?_;(first|exact HB.under_of rfl|exact PVs.under_pure _ _|(simp [HB.under,PVs.under,PV.under];done)))|(refine HCov.cons (lt_dec rfl) ?_ rfl ?_ ?_;(first|exact trivial|exact PVs.under_pure _ _|(simp [HB.under,PVs.under,PV.under]));(first|exact HLe.refl _|exact HLe.vec (FLes.refl _) (by simp))))
 ·intro i hi
  have hlen:=essK_len p.sets n i
  have hs:=essK_succ p.sets n i
  repeat' (first
   |apply VWp.assoc
   |apply VWp.rseq
   |apply VWp.skipSeq
   |apply VWp.blockSeq
   |apply VOps.nil
   |apply VOps.one
   |(apply VVal.assign;rfl)
   |(apply VVal.move;rfl)
   |(apply VVal.int;rfl;rfl;rfl)
   |(apply VVal.lenF;rfl;rfl)
   |(apply VWp.condSeq_dec;rfl)
   |(intro _;try (exfalso;omega)))
  all_goals try (exfalso;omega)
  apply VWp.loopR (p.sets.length) [(1,_),(5,_),(6,_),(7,_),(22,_),(23,_),(26,_),(27,_)] [(0,_),(2,_)] (fun k_ r=>(28,.p (.int .i64 (k_:Int)))::(8,.p (.int .u64 (orK p.sets i k_:Int)))::r) (fun k_ r=>r) 3
  ·omega
  ·omega
  ·repeat (first|exact LCov.nil|(refine LCov.eq rfl ?_ ?_;(first|exact PV.under_of rfl|(simp [PV.under,PVs.under];done)))|refine LCov.cons trivial rfl (.of_eq (lst_len (by simp<;>omega))) ?_)
  ·repeat (first|exact HCov.nil|(refine HCov.eq rfl (lt_dec rfl) ?_ ?_;(first|exact HB.under_of rfl|exact PVs.under_pure _ _|(simp [HB.under,PVs.under,PV.under];done)))|(refine HCov.cons (lt_dec rfl) ?_ rfl ?_ ?_;(first|exact trivial|exact PVs.under_pure _ _|(simp [HB.under,PVs.under,PV.under]));(first|exact HLe.refl _|exact HLe.vec (FLes.refl _) (by simp))))
  ·intro k hk
   have h1:=(orK_spec h i k (by omega)).1
   have h2:=(wordC_spec h hk).1
   have h3:=wordsL_gi hk
   rw [← h3] at h2
   by_cases hki:k=i
   ·have e1:orK p.sets i (k+1)=orK p.sets i k:=by rw [orK,if_neg (by omega)]
    repeat' (first
     |apply VWp.rseq
     |apply VWp.region
     |apply VWp.skipSeq
     |apply VWp.blockSeq
     |apply QSeq.normal
     |apply QBlk.normal
     |apply VWp.skip
     |apply VOps.nil
     |apply VOps.one
     |(apply VVal.assign;rfl)
     |(apply VVal.move;rfl)
     |(apply VVal.add64;rfl;rfl;omega)
     |(apply VVal.int;rfl;rfl;rfl)
     |(apply VVal.indexN;rfl;rfl;rfl;omega;rfl)
     |(apply VVal.load;rfl;rfl)
     |(apply VWp.condSeq_dec;rfl)
     |(apply VWp.cond_dec;rfl)
     |(intro _;try (exfalso;omega)))
    all_goals try (exfalso;omega)
    refine QLoop.normal ⟨by omega,?_,?_⟩
    ·try ((try rw [e1]))
     repeat (first|exact LCov.nil|refine LCov.same trivial rfl ?_|refine LCov.same (lt_dec rfl) rfl ?_|refine LCov.same ⟨trivial,lt_dec rfl,trivial⟩ rfl ?_|refine LCov.same ⟨trivial,lt_dec rfl,lt_dec rfl,trivial⟩ rfl ?_|refine LCov.same ⟨trivial,lt_dec rfl,lt_dec rfl,lt_dec rfl,trivial⟩ rfl ?_|refine LCov.same ⟨trivial,trivial⟩ rfl ?_|refine LCov.cons trivial rfl (.of_eq (lst_len (by simp<;>omega))) ?_)
    ·(try rw [e1])
     repeat (first|exact HCov.nil|(refine HCov.cons (lt_dec rfl) ?_ rfl ?_ ?_;(first|exact HB.under_of rfl|exact PVs.under_pure _ _|(simp [HB.under,PVs.under,PV.under]));(first|exact HLe.refl _|exact HLe.vec (FLes.refl _) (by simp))))
   ·have e1:orK p.sets i (k+1)=orK p.sets i k ||| gi (wordsL p.sets) k:=by rw [orK,if_pos hki,h3]
    repeat' (first
     |apply VWp.rseq
     |apply VWp.region
     |apply VWp.skipSeq
     |apply VWp.blockSeq
     |apply QSeq.normal
     |apply QBlk.normal
     |apply VOps.nil
     |apply VOps.one
     |(apply VVal.assign;rfl)
     |(apply VVal.move;rfl)
     |(apply VVal.add64;rfl;rfl;omega)
     |(apply VVal.orU;rfl;rfl;omega;omega)
     |(apply VVal.int;rfl;rfl;rfl)
     |(apply VVal.indexN;rfl;rfl;rfl;omega;rfl)
     |(apply VVal.load;rfl;rfl)
     |(apply VWp.condSeq_dec;rfl)
     |(apply VWp.cond_dec;rfl)
     |(intro _;try (exfalso;omega)))
    all_goals try (exfalso;omega)
    refine QLoop.normal ⟨by omega,?_,?_⟩
    ·try ((try rw [e1]))
     repeat (first|exact LCov.nil|refine LCov.same trivial rfl ?_|refine LCov.same (lt_dec rfl) rfl ?_|refine LCov.same ⟨trivial,lt_dec rfl,trivial⟩ rfl ?_|refine LCov.same ⟨trivial,lt_dec rfl,lt_dec rfl,trivial⟩ rfl ?_|refine LCov.same ⟨trivial,lt_dec rfl,lt_dec rfl,lt_dec rfl,trivial⟩ rfl ?_|refine LCov.same ⟨trivial,trivial⟩ rfl ?_|refine LCov.cons trivial rfl (.of_eq (lst_len (by simp<;>omega))) ?_)
    ·(try rw [e1])
     repeat (first|exact HCov.nil|(refine HCov.cons (lt_dec rfl) ?_ rfl ?_ ?_;(first|exact HB.under_of rfl|exact PVs.under_pure _ _|(simp [HB.under,PVs.under,PV.under]));(first|exact HLe.refl _|exact HLe.vec (FLes.refl _) (by simp))))
  ·have h1:=(orK_spec h i p.sets.length (by omega)).1
   by_cases hz:orK p.sets i p.sets.length=2 ^ n-1
   ·rw [if_neg (by simpa using hz)] at hs
    rw [hz] at *
    repeat' (first
     |apply VWp.rseq
     |apply VWp.region
     |apply VWp.exitSeq
     |apply QSeq.normal
     |apply QBlk.normal
     |apply QBlk.exit
     |apply QLoop.exit
     |apply VWp.skip
     |apply VOps.nil
     |apply VOps.one
     |(apply VVal.fn;rfl;rfl;exact ha;intro _;rfl)
     |(apply VVal.move;rfl)
     |(apply VVal.add64;rfl;rfl;omega)
     |(apply VVal.int;rfl;rfl;rfl)
     |(apply VVal.load;rfl;rfl)
     |(apply VWp.condSeq_dec;rfl)
     |(apply VWp.cond_dec;rfl)
     |(intro _;try (exfalso;omega)))
    all_goals try (exfalso;omega)
    refine QLoop.normal ⟨by omega,?_,?_⟩
    ·try ((try rw [hs]))
     repeat (first|exact LCov.nil|refine LCov.same trivial rfl ?_|refine LCov.same (lt_dec rfl) rfl ?_|refine LCov.same ⟨trivial,lt_dec rfl,trivial⟩ rfl ?_|refine LCov.same ⟨trivial,lt_dec rfl,lt_dec rfl,trivial⟩ rfl ?_|refine LCov.same ⟨trivial,lt_dec rfl,lt_dec rfl,lt_dec rfl,trivial⟩ rfl ?_|refine LCov.same ⟨trivial,trivial⟩ rfl ?_|refine LCov.cons trivial rfl (.of_eq (lst_len (by simp<;>omega))) ?_)
    ·(try rw [hs])
     repeat (first|exact HCov.nil|(refine HCov.cons (lt_dec rfl) ?_ rfl ?_ ?_;(first|exact HB.under_of rfl|exact PVs.under_pure _ _|(simp [HB.under,PVs.under,PV.under]));(first|exact HLe.refl _|exact HLe.vec (FLes.refl _) (by simp))))
   ·rw [if_pos hz] at hs
    have e2:(essK p.sets n (i+1)).length=(essK p.sets n i).length+1:=by rw [hs];simp
    generalize orK p.sets i p.sets.length=w at *
    repeat' (first
     |apply VWp.rseq
     |apply VWp.region
     |apply VWp.exitSeq
     |apply QSeq.normal
     |apply QBlk.normal
     |apply QBlk.exit
     |apply QLoop.exit
     |apply VOps.nil
     |apply VOps.one
     |(apply VVal.fn;rfl;rfl;exact ha;intro _;rfl)
     |(apply VVal.append1 (a:=(i:Int));rfl;rfl;rfl;rfl;rfl;rfl;rfl;rfl;(intro _ h;cases h);rfl;rfl;rfl;decide;decide;(first|omega|(simp only [List.length_take,List.length_drop,List.length_append,List.length_singleton,List.length_cons,List.length_nil]<;>omega)))
     |(apply VVal.assign;rfl)
     |(apply VVal.move;rfl)
     |(apply VVal.add64;rfl;rfl;omega)
     |(apply VVal.int;rfl;rfl;rfl)
     |(apply VVal.load;rfl;rfl)
     |(apply VVal.buildSlice;rfl;rfl;rfl;decide;rfl;rfl;rfl)
     |(apply VWp.condSeq_dec;rfl)
     |(apply VWp.cond_dec;rfl)
     |(intro _;try (exfalso;omega)))
    all_goals try (exfalso;omega)
    refine QLoop.normal ⟨by omega,?_,?_⟩
    ·try ((try rw [e2])<;>(try rw [hs]))
     repeat (first|exact LCov.nil|refine LCov.same trivial rfl ?_|refine LCov.same (lt_dec rfl) rfl ?_|refine LCov.same ⟨trivial,lt_dec rfl,trivial⟩ rfl ?_|refine LCov.same ⟨trivial,lt_dec rfl,lt_dec rfl,trivial⟩ rfl ?_|refine LCov.same ⟨trivial,lt_dec rfl,lt_dec rfl,lt_dec rfl,trivial⟩ rfl ?_|refine LCov.same ⟨trivial,trivial⟩ rfl ?_|refine LCov.cons trivial rfl (.of_eq (lst_len (by simp<;>omega))) ?_)
    ·(try rw [e2])<;>(try rw [hs])
     repeat (first|exact HCov.nil|(refine HCov.cons (lt_dec rfl) ?_ rfl ?_ ?_;(first|exact HB.under_of rfl|exact PVs.under_pure _ _|(simp [HB.under,PVs.under,PV.under]));(first|exact HLe.refl _|exact HLe.vec (FLes.refl _) (by simp))))
 ·repeat' (first
   |(refine VWp.at 21 ?_;refine VWp.ghost (Ghost.freeze 6 rfl rfl) ?_;first|apply VWp.rseq|apply VWp.rseqD)
   |apply VWp.rseq
   |apply VWp.exitSeq
   |apply QSeq.normal
   |apply QBlk.exit
   |apply QLoop.exit
   |apply VWp.ret
   |apply VOps.nil
   |apply VOps.one
   |(apply VVal.assign;rfl)
   |(apply VVal.move;rfl)
   |(apply VVal.int;rfl;rfl;rfl)
   |(apply VWp.condSeq_dec;rfl)
   |(intro _;try (exfalso;omega)))
  all_goals first|(exfalso;omega)|contradiction|(refine Done.ret rfl (.refl _) (by first|exact trivial|exact ⟨trivial,trivial,trivial⟩|exact ⟨trivial,trivial,trivial,trivial⟩) HCov.nil (Nat.zero_le _) (Nat.le_refl _) ⟨?_,rfl,rfl⟩;try rfl)
end Go.Proofs.YtmfnchgkffhpfaaDoor
