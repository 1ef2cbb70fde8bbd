/-
  What the layer's functions return for a problem that is not right; the law's check. Conditions: in each statement.
-/
import Derived.Test.YtmfnchgkffhpfaaDoorCovI
namespace Go.Proofs.YtmfnchgkffhpfaaDoor
open Go Go.Am Go.Vm
attribute [local irreducible] VVal VOps VOpsD VWp VCalls VFun VFunV QSeq QBlk QLoop Vm.Done DoneV

abbrev nilF : FV := .val (.slice none 0 0)
section
variable {p : CProb} {e : Int} (hc : VFun env 34 [.agg (Enc.enc p)] (.p (.int .i64 e))) (he : e ≠ 0)
include hc he
set_option maxRecDepth 100000 in
theorem bad_check (s : FV) : VFun env 39 [.agg (Enc.enc p), s] (.p (.int .i64 e)) := by
  refine VFun.enter (env_none (by decide)) Tryd.func39 rfl (by kernel_rfl) (by simp [Tryd.ntmps39]) ?_
  repeat' (first
    | apply VWp.assoc
    | apply VWp.rseq
    | apply VWp.rseqD
    | apply VWp.region
    | apply VWp.regionD
    | apply VWp.skipSeq
    | apply VWp.retSeq
    | apply VWp.exitSeq
    | apply VWp.blockSeq
    | apply QSeq.normal
    | apply QSeq.ret
    | apply QSeq.exit
    | apply QBlk.normal
    | apply QBlk.ret
    | apply QBlk.exit
    | (apply QBlk.out; decide)
    | apply QLoop.ret
    | apply QLoop.exit
    | apply VWp.ret
    | apply VWp.skip
    | apply VWp.exit
    | apply VWp.blockQ
    | apply VOps.nil
    | apply VOpsD.nil
    | apply VOps.one
    | (apply VOpsD.bar; decide +kernel)
    | apply VOpsD.quiet
    | (apply VOps.take; rfl; rfl)
    | (apply VOpsD.quietTake; rfl; rfl)
    | (apply VOps.drop; rfl; rfl; rfl)
    | (apply VOpsD.drop; rfl; rfl; rfl)
    | (apply VOps.guard; rfl; rfl)
    | (apply VOpsD.guard; rfl; rfl)
    | (apply VOps.dropU; rfl; rfl)
    | (apply VOpsD.dropU; rfl; rfl)
    | (apply VOps.guardB; rfl; rfl)
    | (apply VOpsD.guardB; rfl; rfl)
    | (apply VVal.fn; rfl; rfl; exact hc; intro _; rfl)
    | (apply VVal.assign; rfl)
    | (apply VVal.move; rfl)
    | (apply VVal.add64; rfl; rfl; omega)
    | (apply VVal.sub64; rfl; rfl; omega)
    | (apply VVal.and1; rfl; rfl; omega)
    | (apply VVal.and1U; rfl; rfl; omega)
    | (apply VVal.and1B; rfl; rfl; omega)
    | (apply VVal.andU; rfl; rfl; omega; omega)
    | (apply VVal.orU; rfl; rfl; omega; omega)
    | (apply VVal.andNotU; rfl; rfl; omega; omega)
    | (apply VVal.remI; rfl; rfl; omega; omega)
    | (apply VVal.quoI; rfl; rfl; omega; omega)
    | (apply VVal.int; rfl; rfl; rfl)
    | (apply VVal.indexN; rfl; rfl; rfl; omega; rfl)
    | (apply VVal.indexP; rfl; rfl; rfl; omega; omega; rfl)
    | (apply VVal.indexE; rfl; rfl; rfl; omega; omega; rfl)
    | (apply VVal.load; rfl; rfl)
    | (apply VVal.pick_true; rfl; rfl)
    | (apply VVal.pick_false; rfl; rfl)
    | (apply VVal.lenF; rfl; rfl)
    | (apply VVal.lenNil; rfl; rfl)
    | (apply VVal.lenV; rfl; rfl; rfl)
    | (apply VVal.fieldB; rfl; rfl; rfl)
    | (apply VVal.fieldF; rfl; rfl)
    | (apply VVal.box; rfl; trivial)
    | (apply VVal.alloc; rfl)
    | (apply VVal.storeB; rfl; rfl; rfl; trivial; rfl; rfl; exact lt_dec rfl; exact le_dec rfl)
    | (apply VVal.build; rfl; rfl; rfl; rfl; rfl)
    | (apply VVal.buildSlice; rfl; rfl; rfl; decide; rfl; rfl; rfl)
    | (apply VVal.not; rfl)
    | (apply VVal.extract; rfl; rfl)
    | (apply VVal.convI; rfl; rfl; rfl; omega)
    | (apply VVal.convInt; rfl; rfl; rfl)
    | (apply VVal.append1; rfl; rfl; rfl; rfl; rfl; rfl; rfl; rfl; (intro _ h; cases h); rfl; rfl; rfl; decide; decide; (first | omega | (simp only [List.length_take, List.length_drop, List.length_append, List.length_singleton, List.length_cons, List.length_nil] <;> omega)))
    | (apply VVal.appendL0; rfl; rfl; rfl; (first | rfl | omega | (simp only [List.length_take, List.length_drop, List.length_append, List.length_singleton, List.length_cons, List.length_nil] <;> omega)); rfl; rfl; (intro _ h; cases h); rfl; rfl; rfl; decide; decide; (first | omega | (simp only [List.length_take, List.length_drop, List.length_append, List.length_singleton, List.length_cons, List.length_nil] <;> omega)))
    | (apply VVal.appendL; rfl; rfl; rfl; (first | rfl | omega | (simp only [List.length_take, List.length_drop, List.length_append, List.length_singleton, List.length_cons, List.length_nil])); (first | rfl | omega | (simp only [List.length_take, List.length_drop, List.length_append, List.length_singleton, List.length_cons, List.length_nil] <;> omega)); rfl; rfl; (intro _ h; cases h); rfl; rfl; rfl; decide; decide; (first | omega | (simp only [List.length_take, List.length_drop, List.length_append, List.length_singleton, List.length_cons, List.length_nil] <;> omega)))
    | (apply VVal.shlOne; rfl; rfl; omega)
    | (apply VVal.shlOneU; rfl; rfl; omega)
    | (apply VVal.shrN; rfl; rfl; (simp only [IntKind.bits]; omega))
    | (apply VVal.sliceTo; rfl; rfl; rfl; rfl; rfl; rfl; omega)
    | (apply VVal.sliceFrom; rfl; rfl; rfl; rfl; rfl; rfl; omega)
    | (apply VVal.shr; rfl; rfl; omega)
    | (apply VVal.shl; rfl; rfl; omega)
    | (apply VWp.condSeq_true; rfl)
    | (apply VWp.condSeq_false; rfl)
    | (apply VWp.condSeq_dec; rfl)
    | (apply VWp.condSeq; rfl)
    | (apply VWp.cond_true; rfl)
    | (apply VWp.cond_false; rfl)
    | (apply VWp.cond_dec; rfl)
    | (apply VWp.cond; rfl)
    | (intro _; try (exfalso; omega)))
  all_goals (refine Done.ret rfl (.refl _) (by first | exact trivial | exact ⟨trivial, trivial, trivial⟩ | exact ⟨trivial, trivial, trivial, trivial⟩) HCov.nil (Nat.zero_le _) (Nat.le_refl _) ⟨?_, rfl, rfl⟩; rfl)
set_option maxRecDepth 100000 in
theorem bad_missing (s : FV) : VFun env 16 [.agg (Enc.enc p), s] (.tup [.p nilF, .p (.int .i64 e)]) := by
  have hk := bad_check hc he s
  refine VFun.enter (env_none (by decide)) Tryd.func16 rfl (by kernel_rfl) (by simp [Tryd.ntmps16]) ?_
  repeat' (first
    | apply VWp.assoc
    | apply VWp.rseq
    | apply VWp.rseqD
    | apply VWp.region
    | apply VWp.regionD
    | apply VWp.skipSeq
    | apply VWp.retSeq
    | apply VWp.exitSeq
    | apply VWp.blockSeq
    | apply QSeq.normal
    | apply QSeq.ret
    | apply QSeq.exit
    | apply QBlk.normal
    | apply QBlk.ret
    | apply QBlk.exit
    | (apply QBlk.out; decide)
    | apply QLoop.ret
    | apply QLoop.exit
    | apply VWp.ret
    | apply VWp.skip
    | apply VWp.exit
    | apply VWp.blockQ
    | apply VOps.nil
    | apply VOpsD.nil
    | apply VOps.one
    | (apply VOpsD.bar; decide +kernel)
    | apply VOpsD.quiet
    | (apply VOps.take; rfl; rfl)
    | (apply VOpsD.quietTake; rfl; rfl)
    | (apply VOps.drop; rfl; rfl; rfl)
    | (apply VOpsD.drop; rfl; rfl; rfl)
    | (apply VOps.guard; rfl; rfl)
    | (apply VOpsD.guard; rfl; rfl)
    | (apply VOps.dropU; rfl; rfl)
    | (apply VOpsD.dropU; rfl; rfl)
    | (apply VOps.guardB; rfl; rfl)
    | (apply VOpsD.guardB; rfl; rfl)
    | (apply VVal.fn; rfl; rfl; exact hk; intro _; rfl)
    | (apply VVal.assign; rfl)
    | (apply VVal.move; rfl)
    | (apply VVal.add64; rfl; rfl; omega)
    | (apply VVal.sub64; rfl; rfl; omega)
    | (apply VVal.and1; rfl; rfl; omega)
    | (apply VVal.and1U; rfl; rfl; omega)
    | (apply VVal.and1B; rfl; rfl; omega)
    | (apply VVal.andU; rfl; rfl; omega; omega)
    | (apply VVal.orU; rfl; rfl; omega; omega)
    | (apply VVal.andNotU; rfl; rfl; omega; omega)
    | (apply VVal.remI; rfl; rfl; omega; omega)
    | (apply VVal.quoI; rfl; rfl; omega; omega)
    | (apply VVal.int; rfl; rfl; rfl)
    | (apply VVal.indexN; rfl; rfl; rfl; omega; rfl)
    | (apply VVal.indexP; rfl; rfl; rfl; omega; omega; rfl)
    | (apply VVal.indexE; rfl; rfl; rfl; omega; omega; rfl)
    | (apply VVal.load; rfl; rfl)
    | (apply VVal.pick_true; rfl; rfl)
    | (apply VVal.pick_false; rfl; rfl)
    | (apply VVal.lenF; rfl; rfl)
    | (apply VVal.lenNil; rfl; rfl)
    | (apply VVal.lenV; rfl; rfl; rfl)
    | (apply VVal.fieldB; rfl; rfl; rfl)
    | (apply VVal.fieldF; rfl; rfl)
    | (apply VVal.box; rfl; trivial)
    | (apply VVal.alloc; rfl)
    | (apply VVal.storeB; rfl; rfl; rfl; trivial; rfl; rfl; exact lt_dec rfl; exact le_dec rfl)
    | (apply VVal.build; rfl; rfl; rfl; rfl; rfl)
    | (apply VVal.buildSlice; rfl; rfl; rfl; decide; rfl; rfl; rfl)
    | (apply VVal.not; rfl)
    | (apply VVal.extract; rfl; rfl)
    | (apply VVal.convI; rfl; rfl; rfl; omega)
    | (apply VVal.convInt; rfl; rfl; rfl)
    | (apply VVal.append1; rfl; rfl; rfl; rfl; rfl; rfl; rfl; rfl; (intro _ h; cases h); rfl; rfl; rfl; decide; decide; (first | omega | (simp only [List.length_take, List.length_drop, List.length_append, List.length_singleton, List.length_cons, List.length_nil] <;> omega)))
    | (apply VVal.appendL0; rfl; rfl; rfl; (first | rfl | omega | (simp only [List.length_take, List.length_drop, List.length_append, List.length_singleton, List.length_cons, List.length_nil] <;> omega)); rfl; rfl; (intro _ h; cases h); rfl; rfl; rfl; decide; decide; (first | omega | (simp only [List.length_take, List.length_drop, List.length_append, List.length_singleton, List.length_cons, List.length_nil] <;> omega)))
    | (apply VVal.appendL; rfl; rfl; rfl; (first | rfl | omega | (simp only [List.length_take, List.length_drop, List.length_append, List.length_singleton, List.length_cons, List.length_nil])); (first | rfl | omega | (simp only [List.length_take, List.length_drop, List.length_append, List.length_singleton, List.length_cons, List.length_nil] <;> omega)); rfl; rfl; (intro _ h; cases h); rfl; rfl; rfl; decide; decide; (first | omega | (simp only [List.length_take, List.length_drop, List.length_append, List.length_singleton, List.length_cons, List.length_nil] <;> omega)))
    | (apply VVal.shlOne; rfl; rfl; omega)
    | (apply VVal.shlOneU; rfl; rfl; omega)
    | (apply VVal.shrN; rfl; rfl; (simp only [IntKind.bits]; omega))
    | (apply VVal.sliceTo; rfl; rfl; rfl; rfl; rfl; rfl; omega)
    | (apply VVal.sliceFrom; rfl; rfl; rfl; rfl; rfl; rfl; omega)
    | (apply VVal.shr; rfl; rfl; omega)
    | (apply VVal.shl; rfl; rfl; omega)
    | (apply VWp.condSeq_true; rfl)
    | (apply VWp.condSeq_false; rfl)
    | (apply VWp.condSeq_dec; rfl)
    | (apply VWp.condSeq; rfl)
    | (apply VWp.cond_true; rfl)
    | (apply VWp.cond_false; rfl)
    | (apply VWp.cond_dec; rfl)
    | (apply VWp.cond; rfl)
    | (intro _; try (exfalso; omega)))
  all_goals (refine Done.ret rfl (.refl _) (by first | exact trivial | exact ⟨trivial, trivial, trivial⟩ | exact ⟨trivial, trivial, trivial, trivial⟩) HCov.nil (Nat.zero_le _) (Nat.le_refl _) ⟨?_, rfl, rfl⟩; rfl)
set_option maxRecDepth 100000 in
theorem bad_cost (s : FV) : VFun env 17 [.agg (Enc.enc p), s] (.tup [.p (.int .i64 0), .p (.int .i64 e)]) := by
  have hk := bad_check hc he s
  refine VFun.enter (env_none (by decide)) Tryd.func17 rfl (by kernel_rfl) (by simp [Tryd.ntmps17]) ?_
  repeat' (first
    | apply VWp.assoc
    | apply VWp.rseq
    | apply VWp.rseqD
    | apply VWp.region
    | apply VWp.regionD
    | apply VWp.skipSeq
    | apply VWp.retSeq
    | apply VWp.exitSeq
    | apply VWp.blockSeq
    | apply QSeq.normal
    | apply QSeq.ret
    | apply QSeq.exit
    | apply QBlk.normal
    | apply QBlk.ret
    | apply QBlk.exit
    | (apply QBlk.out; decide)
    | apply QLoop.ret
    | apply QLoop.exit
    | apply VWp.ret
    | apply VWp.skip
    | apply VWp.exit
    | apply VWp.blockQ
    | apply VOps.nil
    | apply VOpsD.nil
    | apply VOps.one
    | (apply VOpsD.bar; decide +kernel)
    | apply VOpsD.quiet
    | (apply VOps.take; rfl; rfl)
    | (apply VOpsD.quietTake; rfl; rfl)
    | (apply VOps.drop; rfl; rfl; rfl)
    | (apply VOpsD.drop; rfl; rfl; rfl)
    | (apply VOps.guard; rfl; rfl)
    | (apply VOpsD.guard; rfl; rfl)
    | (apply VOps.dropU; rfl; rfl)
    | (apply VOpsD.dropU; rfl; rfl)
    | (apply VOps.guardB; rfl; rfl)
    | (apply VOpsD.guardB; rfl; rfl)
    | (apply VVal.fn; rfl; rfl; exact hk; intro _; rfl)
    | (apply VVal.assign; rfl)
    | (apply VVal.move; rfl)
    | (apply VVal.add64; rfl; rfl; omega)
    | (apply VVal.sub64; rfl; rfl; omega)
    | (apply VVal.and1; rfl; rfl; omega)
    | (apply VVal.and1U; rfl; rfl; omega)
    | (apply VVal.and1B; rfl; rfl; omega)
    | (apply VVal.andU; rfl; rfl; omega; omega)
    | (apply VVal.orU; rfl; rfl; omega; omega)
    | (apply VVal.andNotU; rfl; rfl; omega; omega)
    | (apply VVal.remI; rfl; rfl; omega; omega)
    | (apply VVal.quoI; rfl; rfl; omega; omega)
    | (apply VVal.int; rfl; rfl; rfl)
    | (apply VVal.indexN; rfl; rfl; rfl; omega; rfl)
    | (apply VVal.indexP; rfl; rfl; rfl; omega; omega; rfl)
    | (apply VVal.indexE; rfl; rfl; rfl; omega; omega; rfl)
    | (apply VVal.load; rfl; rfl)
    | (apply VVal.pick_true; rfl; rfl)
    | (apply VVal.pick_false; rfl; rfl)
    | (apply VVal.lenF; rfl; rfl)
    | (apply VVal.lenNil; rfl; rfl)
    | (apply VVal.lenV; rfl; rfl; rfl)
    | (apply VVal.fieldB; rfl; rfl; rfl)
    | (apply VVal.fieldF; rfl; rfl)
    | (apply VVal.box; rfl; trivial)
    | (apply VVal.alloc; rfl)
    | (apply VVal.storeB; rfl; rfl; rfl; trivial; rfl; rfl; exact lt_dec rfl; exact le_dec rfl)
    | (apply VVal.build; rfl; rfl; rfl; rfl; rfl)
    | (apply VVal.buildSlice; rfl; rfl; rfl; decide; rfl; rfl; rfl)
    | (apply VVal.not; rfl)
    | (apply VVal.extract; rfl; rfl)
    | (apply VVal.convI; rfl; rfl; rfl; omega)
    | (apply VVal.convInt; rfl; rfl; rfl)
    | (apply VVal.append1; rfl; rfl; rfl; rfl; rfl; rfl; rfl; rfl; (intro _ h; cases h); rfl; rfl; rfl; decide; decide; (first | omega | (simp only [List.length_take, List.length_drop, List.length_append, List.length_singleton, List.length_cons, List.length_nil] <;> omega)))
    | (apply VVal.appendL0; rfl; rfl; rfl; (first | rfl | omega | (simp only [List.length_take, List.length_drop, List.length_append, List.length_singleton, List.length_cons, List.length_nil] <;> omega)); rfl; rfl; (intro _ h; cases h); rfl; rfl; rfl; decide; decide; (first | omega | (simp only [List.length_take, List.length_drop, List.length_append, List.length_singleton, List.length_cons, List.length_nil] <;> omega)))
    | (apply VVal.appendL; rfl; rfl; rfl; (first | rfl | omega | (simp only [List.length_take, List.length_drop, List.length_append, List.length_singleton, List.length_cons, List.length_nil])); (first | rfl | omega | (simp only [List.length_take, List.length_drop, List.length_append, List.length_singleton, List.length_cons, List.length_nil] <;> omega)); rfl; rfl; (intro _ h; cases h); rfl; rfl; rfl; decide; decide; (first | omega | (simp only [List.length_take, List.length_drop, List.length_append, List.length_singleton, List.length_cons, List.length_nil] <;> omega)))
    | (apply VVal.shlOne; rfl; rfl; omega)
    | (apply VVal.shlOneU; rfl; rfl; omega)
    | (apply VVal.shrN; rfl; rfl; (simp only [IntKind.bits]; omega))
    | (apply VVal.sliceTo; rfl; rfl; rfl; rfl; rfl; rfl; omega)
    | (apply VVal.sliceFrom; rfl; rfl; rfl; rfl; rfl; rfl; omega)
    | (apply VVal.shr; rfl; rfl; omega)
    | (apply VVal.shl; rfl; rfl; omega)
    | (apply VWp.condSeq_true; rfl)
    | (apply VWp.condSeq_false; rfl)
    | (apply VWp.condSeq_dec; rfl)
    | (apply VWp.condSeq; rfl)
    | (apply VWp.cond_true; rfl)
    | (apply VWp.cond_false; rfl)
    | (apply VWp.cond_dec; rfl)
    | (apply VWp.cond; rfl)
    | (intro _; try (exfalso; omega)))
  all_goals (refine Done.ret rfl (.refl _) (by first | exact trivial | exact ⟨trivial, trivial, trivial⟩ | exact ⟨trivial, trivial, trivial, trivial⟩) HCov.nil (Nat.zero_le _) (Nat.le_refl _) ⟨?_, rfl, rfl⟩; rfl)
set_option maxRecDepth 100000 in
theorem bad_irredundant (s : FV) : VFun env 18 [.agg (Enc.enc p), s] (.tup [.p nilF, .p (.int .i64 e)]) := by
  have hk := bad_check hc he s
  refine VFun.enter (env_none (by decide)) Tryd.func18 rfl (by kernel_rfl) (by simp [Tryd.ntmps18]) ?_
  repeat' (first
    | apply VWp.assoc
    | apply VWp.rseq
    | apply VWp.rseqD
    | apply VWp.region
    | apply VWp.regionD
    | apply VWp.skipSeq
    | apply VWp.retSeq
    | apply VWp.exitSeq
    | apply VWp.blockSeq
    | apply QSeq.normal
    | apply QSeq.ret
    | apply QSeq.exit
    | apply QBlk.normal
    | apply QBlk.ret
    | apply QBlk.exit
    | (apply QBlk.out; decide)
    | apply QLoop.ret
    | apply QLoop.exit
    | apply VWp.ret
    | apply VWp.skip
    | apply VWp.exit
    | apply VWp.blockQ
    | apply VOps.nil
    | apply VOpsD.nil
    | apply VOps.one
    | (apply VOpsD.bar; decide +kernel)
    | apply VOpsD.quiet
    | (apply VOps.take; rfl; rfl)
    | (apply VOpsD.quietTake; rfl; rfl)
    | (apply VOps.drop; rfl; rfl; rfl)
    | (apply VOpsD.drop; rfl; rfl; rfl)
    | (apply VOps.guard; rfl; rfl)
    | (apply VOpsD.guard; rfl; rfl)
    | (apply VOps.dropU; rfl; rfl)
    | (apply VOpsD.dropU; rfl; rfl)
    | (apply VOps.guardB; rfl; rfl)
    | (apply VOpsD.guardB; rfl; rfl)
    | (apply VVal.fn; rfl; rfl; exact hk; intro _; rfl)
    | (apply VVal.assign; rfl)
    | (apply VVal.move; rfl)
    | (apply VVal.add64; rfl; rfl; omega)
    | (apply VVal.sub64; rfl; rfl; omega)
    | (apply VVal.and1; rfl; rfl; omega)
    | (apply VVal.and1U; rfl; rfl; omega)
    | (apply VVal.and1B; rfl; rfl; omega)
    | (apply VVal.andU; rfl; rfl; omega; omega)
    | (apply VVal.orU; rfl; rfl; omega; omega)
    | (apply VVal.andNotU; rfl; rfl; omega; omega)
    | (apply VVal.remI; rfl; rfl; omega; omega)
    | (apply VVal.quoI; rfl; rfl; omega; omega)
    | (apply VVal.int; rfl; rfl; rfl)
    | (apply VVal.indexN; rfl; rfl; rfl; omega; rfl)
    | (apply VVal.indexP; rfl; rfl; rfl; omega; omega; rfl)
    | (apply VVal.indexE; rfl; rfl; rfl; omega; omega; rfl)
    | (apply VVal.load; rfl; rfl)
    | (apply VVal.pick_true; rfl; rfl)
    | (apply VVal.pick_false; rfl; rfl)
    | (apply VVal.lenF; rfl; rfl)
    | (apply VVal.lenNil; rfl; rfl)
    | (apply VVal.lenV; rfl; rfl; rfl)
    | (apply VVal.fieldB; rfl; rfl; rfl)
    | (apply VVal.fieldF; rfl; rfl)
    | (apply VVal.box; rfl; trivial)
    | (apply VVal.alloc; rfl)
    | (apply VVal.storeB; rfl; rfl; rfl; trivial; rfl; rfl; exact lt_dec rfl; exact le_dec rfl)
    | (apply VVal.build; rfl; rfl; rfl; rfl; rfl)
    | (apply VVal.buildSlice; rfl; rfl; rfl; decide; rfl; rfl; rfl)
    | (apply VVal.not; rfl)
    | (apply VVal.extract; rfl; rfl)
    | (apply VVal.convI; rfl; rfl; rfl; omega)
    | (apply VVal.convInt; rfl; rfl; rfl)
    | (apply VVal.append1; rfl; rfl; rfl; rfl; rfl; rfl; rfl; rfl; (intro _ h; cases h); rfl; rfl; rfl; decide; decide; (first | omega | (simp only [List.length_take, List.length_drop, List.length_append, List.length_singleton, List.length_cons, List.length_nil] <;> omega)))
    | (apply VVal.appendL0; rfl; rfl; rfl; (first | rfl | omega | (simp only [List.length_take, List.length_drop, List.length_append, List.length_singleton, List.length_cons, List.length_nil] <;> omega)); rfl; rfl; (intro _ h; cases h); rfl; rfl; rfl; decide; decide; (first | omega | (simp only [List.length_take, List.length_drop, List.length_append, List.length_singleton, List.length_cons, List.length_nil] <;> omega)))
    | (apply VVal.appendL; rfl; rfl; rfl; (first | rfl | omega | (simp only [List.length_take, List.length_drop, List.length_append, List.length_singleton, List.length_cons, List.length_nil])); (first | rfl | omega | (simp only [List.length_take, List.length_drop, List.length_append, List.length_singleton, List.length_cons, List.length_nil] <;> omega)); rfl; rfl; (intro _ h; cases h); rfl; rfl; rfl; decide; decide; (first | omega | (simp only [List.length_take, List.length_drop, List.length_append, List.length_singleton, List.length_cons, List.length_nil] <;> omega)))
    | (apply VVal.shlOne; rfl; rfl; omega)
    | (apply VVal.shlOneU; rfl; rfl; omega)
    | (apply VVal.shrN; rfl; rfl; (simp only [IntKind.bits]; omega))
    | (apply VVal.sliceTo; rfl; rfl; rfl; rfl; rfl; rfl; omega)
    | (apply VVal.sliceFrom; rfl; rfl; rfl; rfl; rfl; rfl; omega)
    | (apply VVal.shr; rfl; rfl; omega)
    | (apply VVal.shl; rfl; rfl; omega)
    | (apply VWp.condSeq_true; rfl)
    | (apply VWp.condSeq_false; rfl)
    | (apply VWp.condSeq_dec; rfl)
    | (apply VWp.condSeq; rfl)
    | (apply VWp.cond_true; rfl)
    | (apply VWp.cond_false; rfl)
    | (apply VWp.cond_dec; rfl)
    | (apply VWp.cond; rfl)
    | (intro _; try (exfalso; omega)))
  all_goals (refine Done.ret rfl (.refl _) (by first | exact trivial | exact ⟨trivial, trivial, trivial⟩ | exact ⟨trivial, trivial, trivial, trivial⟩) HCov.nil (Nat.zero_le _) (Nat.le_refl _) ⟨?_, rfl, rfl⟩; rfl)
set_option maxRecDepth 100000 in
theorem bad_packing (s : FV) : VFun env 12 [.agg (Enc.enc p), s] (.tup [.p (.int .i64 0), .p (.int .i64 e)]) := by
  refine VFun.enter (env_none (by decide)) Tryd.func12 rfl (by kernel_rfl) (by simp [Tryd.ntmps12]) ?_
  repeat' (first
    | apply VWp.assoc
    | apply VWp.rseq
    | apply VWp.rseqD
    | apply VWp.region
    | apply VWp.regionD
    | apply VWp.skipSeq
    | apply VWp.retSeq
    | apply VWp.exitSeq
    | apply VWp.blockSeq
    | apply QSeq.normal
    | apply QSeq.ret
    | apply QSeq.exit
    | apply QBlk.normal
    | apply QBlk.ret
    | apply QBlk.exit
    | (apply QBlk.out; decide)
    | apply QLoop.ret
    | apply QLoop.exit
    | apply VWp.ret
    | apply VWp.skip
    | apply VWp.exit
    | apply VWp.blockQ
    | apply VOps.nil
    | apply VOpsD.nil
    | apply VOps.one
    | (apply VOpsD.bar; decide +kernel)
    | apply VOpsD.quiet
    | (apply VOps.take; rfl; rfl)
    | (apply VOpsD.quietTake; rfl; rfl)
    | (apply VOps.drop; rfl; rfl; rfl)
    | (apply VOpsD.drop; rfl; rfl; rfl)
    | (apply VOps.guard; rfl; rfl)
    | (apply VOpsD.guard; rfl; rfl)
    | (apply VOps.dropU; rfl; rfl)
    | (apply VOpsD.dropU; rfl; rfl)
    | (apply VOps.guardB; rfl; rfl)
    | (apply VOpsD.guardB; rfl; rfl)
    | (apply VVal.fn; rfl; rfl; exact hc; intro _; rfl)
    | (apply VVal.assign; rfl)
    | (apply VVal.move; rfl)
    | (apply VVal.add64; rfl; rfl; omega)
    | (apply VVal.sub64; rfl; rfl; omega)
    | (apply VVal.and1; rfl; rfl; omega)
    | (apply VVal.and1U; rfl; rfl; omega)
    | (apply VVal.and1B; rfl; rfl; omega)
    | (apply VVal.andU; rfl; rfl; omega; omega)
    | (apply VVal.orU; rfl; rfl; omega; omega)
    | (apply VVal.andNotU; rfl; rfl; omega; omega)
    | (apply VVal.remI; rfl; rfl; omega; omega)
    | (apply VVal.quoI; rfl; rfl; omega; omega)
    | (apply VVal.int; rfl; rfl; rfl)
    | (apply VVal.indexN; rfl; rfl; rfl; omega; rfl)
    | (apply VVal.indexP; rfl; rfl; rfl; omega; omega; rfl)
    | (apply VVal.indexE; rfl; rfl; rfl; omega; omega; rfl)
    | (apply VVal.load; rfl; rfl)
    | (apply VVal.pick_true; rfl; rfl)
    | (apply VVal.pick_false; rfl; rfl)
    | (apply VVal.lenF; rfl; rfl)
    | (apply VVal.lenNil; rfl; rfl)
    | (apply VVal.lenV; rfl; rfl; rfl)
    | (apply VVal.fieldB; rfl; rfl; rfl)
    | (apply VVal.fieldF; rfl; rfl)
    | (apply VVal.box; rfl; trivial)
    | (apply VVal.alloc; rfl)
    | (apply VVal.storeB; rfl; rfl; rfl; trivial; rfl; rfl; exact lt_dec rfl; exact le_dec rfl)
    | (apply VVal.build; rfl; rfl; rfl; rfl; rfl)
    | (apply VVal.buildSlice; rfl; rfl; rfl; decide; rfl; rfl; rfl)
    | (apply VVal.not; rfl)
    | (apply VVal.extract; rfl; rfl)
    | (apply VVal.convI; rfl; rfl; rfl; omega)
    | (apply VVal.convInt; rfl; rfl; rfl)
    | (apply VVal.append1; rfl; rfl; rfl; rfl; rfl; rfl; rfl; rfl; (intro _ h; cases h); rfl; rfl; rfl; decide; decide; (first | omega | (simp only [List.length_take, List.length_drop, List.length_append, List.length_singleton, List.length_cons, List.length_nil] <;> omega)))
    | (apply VVal.appendL0; rfl; rfl; rfl; (first | rfl | omega | (simp only [List.length_take, List.length_drop, List.length_append, List.length_singleton, List.length_cons, List.length_nil] <;> omega)); rfl; rfl; (intro _ h; cases h); rfl; rfl; rfl; decide; decide; (first | omega | (simp only [List.length_take, List.length_drop, List.length_append, List.length_singleton, List.length_cons, List.length_nil] <;> omega)))
    | (apply VVal.appendL; rfl; rfl; rfl; (first | rfl | omega | (simp only [List.length_take, List.length_drop, List.length_append, List.length_singleton, List.length_cons, List.length_nil])); (first | rfl | omega | (simp only [List.length_take, List.length_drop, List.length_append, List.length_singleton, List.length_cons, List.length_nil] <;> omega)); rfl; rfl; (intro _ h; cases h); rfl; rfl; rfl; decide; decide; (first | omega | (simp only [List.length_take, List.length_drop, List.length_append, List.length_singleton, List.length_cons, List.length_nil] <;> omega)))
    | (apply VVal.shlOne; rfl; rfl; omega)
    | (apply VVal.shlOneU; rfl; rfl; omega)
    | (apply VVal.shrN; rfl; rfl; (simp only [IntKind.bits]; omega))
    | (apply VVal.sliceTo; rfl; rfl; rfl; rfl; rfl; rfl; omega)
    | (apply VVal.sliceFrom; rfl; rfl; rfl; rfl; rfl; rfl; omega)
    | (apply VVal.shr; rfl; rfl; omega)
    | (apply VVal.shl; rfl; rfl; omega)
    | (apply VWp.condSeq_true; rfl)
    | (apply VWp.condSeq_false; rfl)
    | (apply VWp.condSeq_dec; rfl)
    | (apply VWp.condSeq; rfl)
    | (apply VWp.cond_true; rfl)
    | (apply VWp.cond_false; rfl)
    | (apply VWp.cond_dec; rfl)
    | (apply VWp.cond; rfl)
    | (intro _; try (exfalso; omega)))
  all_goals (refine Done.ret rfl (.refl _) (by first | exact trivial | exact ⟨trivial, trivial, trivial⟩ | exact ⟨trivial, trivial, trivial, trivial⟩) HCov.nil (Nat.zero_le _) (Nat.le_refl _) ⟨?_, rfl, rfl⟩; rfl)
set_option maxRecDepth 100000 in
theorem bad_greedy : VFun env 28 [.agg (Enc.enc p)] (.tup [.p nilF, .p (.int .i64 e)]) := by
  refine VFun.enter (env_none (by decide)) Tryd.func28 rfl (by kernel_rfl) (by simp [Tryd.ntmps28]) ?_
  repeat' (first
    | apply VWp.assoc
    | apply VWp.rseq
    | apply VWp.rseqD
    | apply VWp.region
    | apply VWp.regionD
    | apply VWp.skipSeq
    | apply VWp.retSeq
    | apply VWp.exitSeq
    | apply VWp.blockSeq
    | apply QSeq.normal
    | apply QSeq.ret
    | apply QSeq.exit
    | apply QBlk.normal
    | apply QBlk.ret
    | apply QBlk.exit
    | (apply QBlk.out; decide)
    | apply QLoop.ret
    | apply QLoop.exit
    | apply VWp.ret
    | apply VWp.skip
    | apply VWp.exit
    | apply VWp.blockQ
    | apply VOps.nil
    | apply VOpsD.nil
    | apply VOps.one
    | (apply VOpsD.bar; decide +kernel)
    | apply VOpsD.quiet
    | (apply VOps.take; rfl; rfl)
    | (apply VOpsD.quietTake; rfl; rfl)
    | (apply VOps.drop; rfl; rfl; rfl)
    | (apply VOpsD.drop; rfl; rfl; rfl)
    | (apply VOps.guard; rfl; rfl)
    | (apply VOpsD.guard; rfl; rfl)
    | (apply VOps.dropU; rfl; rfl)
    | (apply VOpsD.dropU; rfl; rfl)
    | (apply VOps.guardB; rfl; rfl)
    | (apply VOpsD.guardB; rfl; rfl)
    | (apply VVal.fn; rfl; rfl; exact hc; intro _; rfl)
    | (apply VVal.assign; rfl)
    | (apply VVal.move; rfl)
    | (apply VVal.add64; rfl; rfl; omega)
    | (apply VVal.sub64; rfl; rfl; omega)
    | (apply VVal.and1; rfl; rfl; omega)
    | (apply VVal.and1U; rfl; rfl; omega)
    | (apply VVal.and1B; rfl; rfl; omega)
    | (apply VVal.andU; rfl; rfl; omega; omega)
    | (apply VVal.orU; rfl; rfl; omega; omega)
    | (apply VVal.andNotU; rfl; rfl; omega; omega)
    | (apply VVal.remI; rfl; rfl; omega; omega)
    | (apply VVal.quoI; rfl; rfl; omega; omega)
    | (apply VVal.int; rfl; rfl; rfl)
    | (apply VVal.indexN; rfl; rfl; rfl; omega; rfl)
    | (apply VVal.indexP; rfl; rfl; rfl; omega; omega; rfl)
    | (apply VVal.indexE; rfl; rfl; rfl; omega; omega; rfl)
    | (apply VVal.load; rfl; rfl)
    | (apply VVal.pick_true; rfl; rfl)
    | (apply VVal.pick_false; rfl; rfl)
    | (apply VVal.lenF; rfl; rfl)
    | (apply VVal.lenNil; rfl; rfl)
    | (apply VVal.lenV; rfl; rfl; rfl)
    | (apply VVal.fieldB; rfl; rfl; rfl)
    | (apply VVal.fieldF; rfl; rfl)
    | (apply VVal.box; rfl; trivial)
    | (apply VVal.alloc; rfl)
    | (apply VVal.storeB; rfl; rfl; rfl; trivial; rfl; rfl; exact lt_dec rfl; exact le_dec rfl)
    | (apply VVal.build; rfl; rfl; rfl; rfl; rfl)
    | (apply VVal.buildSlice; rfl; rfl; rfl; decide; rfl; rfl; rfl)
    | (apply VVal.not; rfl)
    | (apply VVal.extract; rfl; rfl)
    | (apply VVal.convI; rfl; rfl; rfl; omega)
    | (apply VVal.convInt; rfl; rfl; rfl)
    | (apply VVal.append1; rfl; rfl; rfl; rfl; rfl; rfl; rfl; rfl; (intro _ h; cases h); rfl; rfl; rfl; decide; decide; (first | omega | (simp only [List.length_take, List.length_drop, List.length_append, List.length_singleton, List.length_cons, List.length_nil] <;> omega)))
    | (apply VVal.appendL0; rfl; rfl; rfl; (first | rfl | omega | (simp only [List.length_take, List.length_drop, List.length_append, List.length_singleton, List.length_cons, List.length_nil] <;> omega)); rfl; rfl; (intro _ h; cases h); rfl; rfl; rfl; decide; decide; (first | omega | (simp only [List.length_take, List.length_drop, List.length_append, List.length_singleton, List.length_cons, List.length_nil] <;> omega)))
    | (apply VVal.appendL; rfl; rfl; rfl; (first | rfl | omega | (simp only [List.length_take, List.length_drop, List.length_append, List.length_singleton, List.length_cons, List.length_nil])); (first | rfl | omega | (simp only [List.length_take, List.length_drop, List.length_append, List.length_singleton, List.length_cons, List.length_nil] <;> omega)); rfl; rfl; (intro _ h; cases h); rfl; rfl; rfl; decide; decide; (first | omega | (simp only [List.length_take, List.length_drop, List.length_append, List.length_singleton, List.length_cons, List.length_nil] <;> omega)))
    | (apply VVal.shlOne; rfl; rfl; omega)
    | (apply VVal.shlOneU; rfl; rfl; omega)
    | (apply VVal.shrN; rfl; rfl; (simp only [IntKind.bits]; omega))
    | (apply VVal.sliceTo; rfl; rfl; rfl; rfl; rfl; rfl; omega)
    | (apply VVal.sliceFrom; rfl; rfl; rfl; rfl; rfl; rfl; omega)
    | (apply VVal.shr; rfl; rfl; omega)
    | (apply VVal.shl; rfl; rfl; omega)
    | (apply VWp.condSeq_true; rfl)
    | (apply VWp.condSeq_false; rfl)
    | (apply VWp.condSeq_dec; rfl)
    | (apply VWp.condSeq; rfl)
    | (apply VWp.cond_true; rfl)
    | (apply VWp.cond_false; rfl)
    | (apply VWp.cond_dec; rfl)
    | (apply VWp.cond; rfl)
    | (intro _; try (exfalso; omega)))
  all_goals (refine Done.ret rfl (.refl _) (by first | exact trivial | exact ⟨trivial, trivial, trivial⟩ | exact ⟨trivial, trivial, trivial, trivial⟩) HCov.nil (Nat.zero_le _) (Nat.le_refl _) ⟨?_, rfl, rfl⟩; rfl)
set_option maxRecDepth 100000 in
theorem bad_essential : VFun env 29 [.agg (Enc.enc p)] (.tup [.p nilF, .p (.int .i64 e)]) := by
  refine VFun.enter (env_none (by decide)) Tryd.func29 rfl (by kernel_rfl) (by simp [Tryd.ntmps29]) ?_
  repeat' (first
    | apply VWp.assoc
    | apply VWp.rseq
    | apply VWp.rseqD
    | apply VWp.region
    | apply VWp.regionD
    | apply VWp.skipSeq
    | apply VWp.retSeq
    | apply VWp.exitSeq
    | apply VWp.blockSeq
    | apply QSeq.normal
    | apply QSeq.ret
    | apply QSeq.exit
    | apply QBlk.normal
    | apply QBlk.ret
    | apply QBlk.exit
    | (apply QBlk.out; decide)
    | apply QLoop.ret
    | apply QLoop.exit
    | apply VWp.ret
    | apply VWp.skip
    | apply VWp.exit
    | apply VWp.blockQ
    | apply VOps.nil
    | apply VOpsD.nil
    | apply VOps.one
    | (apply VOpsD.bar; decide +kernel)
    | apply VOpsD.quiet
    | (apply VOps.take; rfl; rfl)
    | (apply VOpsD.quietTake; rfl; rfl)
    | (apply VOps.drop; rfl; rfl; rfl)
    | (apply VOpsD.drop; rfl; rfl; rfl)
    | (apply VOps.guard; rfl; rfl)
    | (apply VOpsD.guard; rfl; rfl)
    | (apply VOps.dropU; rfl; rfl)
    | (apply VOpsD.dropU; rfl; rfl)
    | (apply VOps.guardB; rfl; rfl)
    | (apply VOpsD.guardB; rfl; rfl)
    | (apply VVal.fn; rfl; rfl; exact hc; intro _; rfl)
    | (apply VVal.assign; rfl)
    | (apply VVal.move; rfl)
    | (apply VVal.add64; rfl; rfl; omega)
    | (apply VVal.sub64; rfl; rfl; omega)
    | (apply VVal.and1; rfl; rfl; omega)
    | (apply VVal.and1U; rfl; rfl; omega)
    | (apply VVal.and1B; rfl; rfl; omega)
    | (apply VVal.andU; rfl; rfl; omega; omega)
    | (apply VVal.orU; rfl; rfl; omega; omega)
    | (apply VVal.andNotU; rfl; rfl; omega; omega)
    | (apply VVal.remI; rfl; rfl; omega; omega)
    | (apply VVal.quoI; rfl; rfl; omega; omega)
    | (apply VVal.int; rfl; rfl; rfl)
    | (apply VVal.indexN; rfl; rfl; rfl; omega; rfl)
    | (apply VVal.indexP; rfl; rfl; rfl; omega; omega; rfl)
    | (apply VVal.indexE; rfl; rfl; rfl; omega; omega; rfl)
    | (apply VVal.load; rfl; rfl)
    | (apply VVal.pick_true; rfl; rfl)
    | (apply VVal.pick_false; rfl; rfl)
    | (apply VVal.lenF; rfl; rfl)
    | (apply VVal.lenNil; rfl; rfl)
    | (apply VVal.lenV; rfl; rfl; rfl)
    | (apply VVal.fieldB; rfl; rfl; rfl)
    | (apply VVal.fieldF; rfl; rfl)
    | (apply VVal.box; rfl; trivial)
    | (apply VVal.alloc; rfl)
    | (apply VVal.storeB; rfl; rfl; rfl; trivial; rfl; rfl; exact lt_dec rfl; exact le_dec rfl)
    | (apply VVal.build; rfl; rfl; rfl; rfl; rfl)
    | (apply VVal.buildSlice; rfl; rfl; rfl; decide; rfl; rfl; rfl)
    | (apply VVal.not; rfl)
    | (apply VVal.extract; rfl; rfl)
    | (apply VVal.convI; rfl; rfl; rfl; omega)
    | (apply VVal.convInt; rfl; rfl; rfl)
    | (apply VVal.append1; rfl; rfl; rfl; rfl; rfl; rfl; rfl; rfl; (intro _ h; cases h); rfl; rfl; rfl; decide; decide; (first | omega | (simp only [List.length_take, List.length_drop, List.length_append, List.length_singleton, List.length_cons, List.length_nil] <;> omega)))
    | (apply VVal.appendL0; rfl; rfl; rfl; (first | rfl | omega | (simp only [List.length_take, List.length_drop, List.length_append, List.length_singleton, List.length_cons, List.length_nil] <;> omega)); rfl; rfl; (intro _ h; cases h); rfl; rfl; rfl; decide; decide; (first | omega | (simp only [List.length_take, List.length_drop, List.length_append, List.length_singleton, List.length_cons, List.length_nil] <;> omega)))
    | (apply VVal.appendL; rfl; rfl; rfl; (first | rfl | omega | (simp only [List.length_take, List.length_drop, List.length_append, List.length_singleton, List.length_cons, List.length_nil])); (first | rfl | omega | (simp only [List.length_take, List.length_drop, List.length_append, List.length_singleton, List.length_cons, List.length_nil] <;> omega)); rfl; rfl; (intro _ h; cases h); rfl; rfl; rfl; decide; decide; (first | omega | (simp only [List.length_take, List.length_drop, List.length_append, List.length_singleton, List.length_cons, List.length_nil] <;> omega)))
    | (apply VVal.shlOne; rfl; rfl; omega)
    | (apply VVal.shlOneU; rfl; rfl; omega)
    | (apply VVal.shrN; rfl; rfl; (simp only [IntKind.bits]; omega))
    | (apply VVal.sliceTo; rfl; rfl; rfl; rfl; rfl; rfl; omega)
    | (apply VVal.sliceFrom; rfl; rfl; rfl; rfl; rfl; rfl; omega)
    | (apply VVal.shr; rfl; rfl; omega)
    | (apply VVal.shl; rfl; rfl; omega)
    | (apply VWp.condSeq_true; rfl)
    | (apply VWp.condSeq_false; rfl)
    | (apply VWp.condSeq_dec; rfl)
    | (apply VWp.condSeq; rfl)
    | (apply VWp.cond_true; rfl)
    | (apply VWp.cond_false; rfl)
    | (apply VWp.cond_dec; rfl)
    | (apply VWp.cond; rfl)
    | (intro _; try (exfalso; omega)))
  all_goals (refine Done.ret rfl (.refl _) (by first | exact trivial | exact ⟨trivial, trivial, trivial⟩ | exact ⟨trivial, trivial, trivial, trivial⟩) HCov.nil (Nat.zero_le _) (Nat.le_refl _) ⟨?_, rfl, rfl⟩; rfl)
set_option maxRecDepth 100000 in
theorem bad_solve' : VFun env 45 [.agg (Enc.enc p)] (.tup [.p (.val (.pointer none)), .p (.int .i64 e)]) := by
  refine VFun.enter (env_none (by decide)) Tryd.func45 rfl (by kernel_rfl) (by simp [Tryd.ntmps45]) ?_
  repeat' (first
    | apply VWp.assoc
    | apply VWp.rseq
    | apply VWp.rseqD
    | apply VWp.region
    | apply VWp.regionD
    | apply VWp.skipSeq
    | apply VWp.retSeq
    | apply VWp.exitSeq
    | apply VWp.blockSeq
    | apply QSeq.normal
    | apply QSeq.ret
    | apply QSeq.exit
    | apply QBlk.normal
    | apply QBlk.ret
    | apply QBlk.exit
    | (apply QBlk.out; decide)
    | apply QLoop.ret
    | apply QLoop.exit
    | apply VWp.ret
    | apply VWp.skip
    | apply VWp.exit
    | apply VWp.blockQ
    | apply VOps.nil
    | apply VOpsD.nil
    | apply VOps.one
    | (apply VOpsD.bar; decide +kernel)
    | apply VOpsD.quiet
    | (apply VOps.take; rfl; rfl)
    | (apply VOpsD.quietTake; rfl; rfl)
    | (apply VOps.drop; rfl; rfl; rfl)
    | (apply VOpsD.drop; rfl; rfl; rfl)
    | (apply VOps.guard; rfl; rfl)
    | (apply VOpsD.guard; rfl; rfl)
    | (apply VOps.dropU; rfl; rfl)
    | (apply VOpsD.dropU; rfl; rfl)
    | (apply VOps.guardB; rfl; rfl)
    | (apply VOpsD.guardB; rfl; rfl)
    | (apply VVal.fn; rfl; rfl; exact hc; intro _; rfl)
    | (apply VVal.assign; rfl)
    | (apply VVal.move; rfl)
    | (apply VVal.add64; rfl; rfl; omega)
    | (apply VVal.sub64; rfl; rfl; omega)
    | (apply VVal.and1; rfl; rfl; omega)
    | (apply VVal.and1U; rfl; rfl; omega)
    | (apply VVal.and1B; rfl; rfl; omega)
    | (apply VVal.andU; rfl; rfl; omega; omega)
    | (apply VVal.orU; rfl; rfl; omega; omega)
    | (apply VVal.andNotU; rfl; rfl; omega; omega)
    | (apply VVal.remI; rfl; rfl; omega; omega)
    | (apply VVal.quoI; rfl; rfl; omega; omega)
    | (apply VVal.int; rfl; rfl; rfl)
    | (apply VVal.indexN; rfl; rfl; rfl; omega; rfl)
    | (apply VVal.indexP; rfl; rfl; rfl; omega; omega; rfl)
    | (apply VVal.indexE; rfl; rfl; rfl; omega; omega; rfl)
    | (apply VVal.load; rfl; rfl)
    | (apply VVal.pick_true; rfl; rfl)
    | (apply VVal.pick_false; rfl; rfl)
    | (apply VVal.lenF; rfl; rfl)
    | (apply VVal.lenNil; rfl; rfl)
    | (apply VVal.lenV; rfl; rfl; rfl)
    | (apply VVal.fieldB; rfl; rfl; rfl)
    | (apply VVal.fieldF; rfl; rfl)
    | (apply VVal.box; rfl; trivial)
    | (apply VVal.alloc; rfl)
    | (apply VVal.storeB; rfl; rfl; rfl; trivial; rfl; rfl; exact lt_dec rfl; exact le_dec rfl)
    | (apply VVal.build; rfl; rfl; rfl; rfl; rfl)
    | (apply VVal.buildSlice; rfl; rfl; rfl; decide; rfl; rfl; rfl)
    | (apply VVal.not; rfl)
    | (apply VVal.extract; rfl; rfl)
    | (apply VVal.convI; rfl; rfl; rfl; omega)
    | (apply VVal.convInt; rfl; rfl; rfl)
    | (apply VVal.append1; rfl; rfl; rfl; rfl; rfl; rfl; rfl; rfl; (intro _ h; cases h); rfl; rfl; rfl; decide; decide; (first | omega | (simp only [List.length_take, List.length_drop, List.length_append, List.length_singleton, List.length_cons, List.length_nil] <;> omega)))
    | (apply VVal.appendL0; rfl; rfl; rfl; (first | rfl | omega | (simp only [List.length_take, List.length_drop, List.length_append, List.length_singleton, List.length_cons, List.length_nil] <;> omega)); rfl; rfl; (intro _ h; cases h); rfl; rfl; rfl; decide; decide; (first | omega | (simp only [List.length_take, List.length_drop, List.length_append, List.length_singleton, List.length_cons, List.length_nil] <;> omega)))
    | (apply VVal.appendL; rfl; rfl; rfl; (first | rfl | omega | (simp only [List.length_take, List.length_drop, List.length_append, List.length_singleton, List.length_cons, List.length_nil])); (first | rfl | omega | (simp only [List.length_take, List.length_drop, List.length_append, List.length_singleton, List.length_cons, List.length_nil] <;> omega)); rfl; rfl; (intro _ h; cases h); rfl; rfl; rfl; decide; decide; (first | omega | (simp only [List.length_take, List.length_drop, List.length_append, List.length_singleton, List.length_cons, List.length_nil] <;> omega)))
    | (apply VVal.shlOne; rfl; rfl; omega)
    | (apply VVal.shlOneU; rfl; rfl; omega)
    | (apply VVal.shrN; rfl; rfl; (simp only [IntKind.bits]; omega))
    | (apply VVal.sliceTo; rfl; rfl; rfl; rfl; rfl; rfl; omega)
    | (apply VVal.sliceFrom; rfl; rfl; rfl; rfl; rfl; rfl; omega)
    | (apply VVal.shr; rfl; rfl; omega)
    | (apply VVal.shl; rfl; rfl; omega)
    | (apply VWp.condSeq_true; rfl)
    | (apply VWp.condSeq_false; rfl)
    | (apply VWp.condSeq_dec; rfl)
    | (apply VWp.condSeq; rfl)
    | (apply VWp.cond_true; rfl)
    | (apply VWp.cond_false; rfl)
    | (apply VWp.cond_dec; rfl)
    | (apply VWp.cond; rfl)
    | (intro _; try (exfalso; omega)))
  all_goals (refine Done.ret rfl (.refl _) (by first | exact trivial | exact ⟨trivial, trivial, trivial⟩ | exact ⟨trivial, trivial, trivial, trivial⟩) HCov.nil (Nat.zero_le _) (Nat.le_refl _) ⟨?_, rfl, rfl⟩; rfl)
set_option maxRecDepth 100000 in
theorem bad_solve : VFun env 23 [.agg (Enc.enc p)] (.tup [.p (.agg [nilF, .int .i64 0, nilF]), .p (.int .i64 e)]) := by
  have hk := bad_solve' hc he
  refine VFun.enter (env_none (by decide)) Tryd.func23 rfl (by kernel_rfl) (by simp [Tryd.ntmps23]) ?_
  repeat' (first
    | apply VWp.assoc
    | apply VWp.rseq
    | apply VWp.rseqD
    | apply VWp.region
    | apply VWp.regionD
    | apply VWp.skipSeq
    | apply VWp.retSeq
    | apply VWp.exitSeq
    | apply VWp.blockSeq
    | apply QSeq.normal
    | apply QSeq.ret
    | apply QSeq.exit
    | apply QBlk.normal
    | apply QBlk.ret
    | apply QBlk.exit
    | (apply QBlk.out; decide)
    | apply QLoop.ret
    | apply QLoop.exit
    | apply VWp.ret
    | apply VWp.skip
    | apply VWp.exit
    | apply VWp.blockQ
    | apply VOps.nil
    | apply VOpsD.nil
    | apply VOps.one
    | (apply VOpsD.bar; decide +kernel)
    | apply VOpsD.quiet
    | (apply VOps.take; rfl; rfl)
    | (apply VOpsD.quietTake; rfl; rfl)
    | (apply VOps.drop; rfl; rfl; rfl)
    | (apply VOpsD.drop; rfl; rfl; rfl)
    | (apply VOps.guard; rfl; rfl)
    | (apply VOpsD.guard; rfl; rfl)
    | (apply VOps.dropU; rfl; rfl)
    | (apply VOpsD.dropU; rfl; rfl)
    | (apply VOps.guardB; rfl; rfl)
    | (apply VOpsD.guardB; rfl; rfl)
    | (apply VVal.fn; rfl; rfl; exact hk; intro _; rfl)
    | (apply VVal.assign; rfl)
    | (apply VVal.move; rfl)
    | (apply VVal.add64; rfl; rfl; omega)
    | (apply VVal.sub64; rfl; rfl; omega)
    | (apply VVal.and1; rfl; rfl; omega)
    | (apply VVal.and1U; rfl; rfl; omega)
    | (apply VVal.and1B; rfl; rfl; omega)
    | (apply VVal.andU; rfl; rfl; omega; omega)
    | (apply VVal.orU; rfl; rfl; omega; omega)
    | (apply VVal.andNotU; rfl; rfl; omega; omega)
    | (apply VVal.remI; rfl; rfl; omega; omega)
    | (apply VVal.quoI; rfl; rfl; omega; omega)
    | (apply VVal.int; rfl; rfl; rfl)
    | (apply VVal.indexN; rfl; rfl; rfl; omega; rfl)
    | (apply VVal.indexP; rfl; rfl; rfl; omega; omega; rfl)
    | (apply VVal.indexE; rfl; rfl; rfl; omega; omega; rfl)
    | (apply VVal.load; rfl; rfl)
    | (apply VVal.pick_true; rfl; rfl)
    | (apply VVal.pick_false; rfl; rfl)
    | (apply VVal.lenF; rfl; rfl)
    | (apply VVal.lenNil; rfl; rfl)
    | (apply VVal.lenV; rfl; rfl; rfl)
    | (apply VVal.fieldB; rfl; rfl; rfl)
    | (apply VVal.fieldF; rfl; rfl)
    | (apply VVal.box; rfl; trivial)
    | (apply VVal.alloc; rfl)
    | (apply VVal.storeB; rfl; rfl; rfl; trivial; rfl; rfl; exact lt_dec rfl; exact le_dec rfl)
    | (apply VVal.build; rfl; rfl; rfl; rfl; rfl)
    | (apply VVal.buildSlice; rfl; rfl; rfl; decide; rfl; rfl; rfl)
    | (apply VVal.not; rfl)
    | (apply VVal.extract; rfl; rfl)
    | (apply VVal.convI; rfl; rfl; rfl; omega)
    | (apply VVal.convInt; rfl; rfl; rfl)
    | (apply VVal.append1; rfl; rfl; rfl; rfl; rfl; rfl; rfl; rfl; (intro _ h; cases h); rfl; rfl; rfl; decide; decide; (first | omega | (simp only [List.length_take, List.length_drop, List.length_append, List.length_singleton, List.length_cons, List.length_nil] <;> omega)))
    | (apply VVal.appendL0; rfl; rfl; rfl; (first | rfl | omega | (simp only [List.length_take, List.length_drop, List.length_append, List.length_singleton, List.length_cons, List.length_nil] <;> omega)); rfl; rfl; (intro _ h; cases h); rfl; rfl; rfl; decide; decide; (first | omega | (simp only [List.length_take, List.length_drop, List.length_append, List.length_singleton, List.length_cons, List.length_nil] <;> omega)))
    | (apply VVal.appendL; rfl; rfl; rfl; (first | rfl | omega | (simp only [List.length_take, List.length_drop, List.length_append, List.length_singleton, List.length_cons, List.length_nil])); (first | rfl | omega | (simp only [List.length_take, List.length_drop, List.length_append, List.length_singleton, List.length_cons, List.length_nil] <;> omega)); rfl; rfl; (intro _ h; cases h); rfl; rfl; rfl; decide; decide; (first | omega | (simp only [List.length_take, List.length_drop, List.length_append, List.length_singleton, List.length_cons, List.length_nil] <;> omega)))
    | (apply VVal.shlOne; rfl; rfl; omega)
    | (apply VVal.shlOneU; rfl; rfl; omega)
    | (apply VVal.shrN; rfl; rfl; (simp only [IntKind.bits]; omega))
    | (apply VVal.sliceTo; rfl; rfl; rfl; rfl; rfl; rfl; omega)
    | (apply VVal.sliceFrom; rfl; rfl; rfl; rfl; rfl; rfl; omega)
    | (apply VVal.shr; rfl; rfl; omega)
    | (apply VVal.shl; rfl; rfl; omega)
    | (apply VWp.condSeq_true; rfl)
    | (apply VWp.condSeq_false; rfl)
    | (apply VWp.condSeq_dec; rfl)
    | (apply VWp.condSeq; rfl)
    | (apply VWp.cond_true; rfl)
    | (apply VWp.cond_false; rfl)
    | (apply VWp.cond_dec; rfl)
    | (apply VWp.cond; rfl)
    | (intro _; try (exfalso; omega)))
  all_goals (refine Done.ret rfl (.refl _) (by first | exact trivial | exact ⟨trivial, trivial, trivial⟩ | exact ⟨trivial, trivial, trivial, trivial⟩) HCov.nil (Nat.zero_le _) (Nat.le_refl _) ⟨?_, rfl, rfl⟩; rfl)
set_option maxRecDepth 100000 in
theorem bad_all : VFun env 27 [.agg (Enc.enc p)] (.tup [.p nilF, .p (.int .i64 e)]) := by
  have hk := bad_solve' hc he
  refine VFun.enter (env_none (by decide)) Tryd.func27 rfl (by kernel_rfl) (by simp [Tryd.ntmps27]) ?_
  repeat' (first
    | apply VWp.assoc
    | apply VWp.rseq
    | apply VWp.rseqD
    | apply VWp.region
    | apply VWp.regionD
    | apply VWp.skipSeq
    | apply VWp.retSeq
    | apply VWp.exitSeq
    | apply VWp.blockSeq
    | apply QSeq.normal
    | apply QSeq.ret
    | apply QSeq.exit
    | apply QBlk.normal
    | apply QBlk.ret
    | apply QBlk.exit
    | (apply QBlk.out; decide)
    | apply QLoop.ret
    | apply QLoop.exit
    | apply VWp.ret
    | apply VWp.skip
    | apply VWp.exit
    | apply VWp.blockQ
    | apply VOps.nil
    | apply VOpsD.nil
    | apply VOps.one
    | (apply VOpsD.bar; decide +kernel)
    | apply VOpsD.quiet
    | (apply VOps.take; rfl; rfl)
    | (apply VOpsD.quietTake; rfl; rfl)
    | (apply VOps.drop; rfl; rfl; rfl)
    | (apply VOpsD.drop; rfl; rfl; rfl)
    | (apply VOps.guard; rfl; rfl)
    | (apply VOpsD.guard; rfl; rfl)
    | (apply VOps.dropU; rfl; rfl)
    | (apply VOpsD.dropU; rfl; rfl)
    | (apply VOps.guardB; rfl; rfl)
    | (apply VOpsD.guardB; rfl; rfl)
    | (apply VVal.fn; rfl; rfl; exact hk; intro _; rfl)
    | (apply VVal.assign; rfl)
    | (apply VVal.move; rfl)
    | (apply VVal.add64; rfl; rfl; omega)
    | (apply VVal.sub64; rfl; rfl; omega)
    | (apply VVal.and1; rfl; rfl; omega)
    | (apply VVal.and1U; rfl; rfl; omega)
    | (apply VVal.and1B; rfl; rfl; omega)
    | (apply VVal.andU; rfl; rfl; omega; omega)
    | (apply VVal.orU; rfl; rfl; omega; omega)
    | (apply VVal.andNotU; rfl; rfl; omega; omega)
    | (apply VVal.remI; rfl; rfl; omega; omega)
    | (apply VVal.quoI; rfl; rfl; omega; omega)
    | (apply VVal.int; rfl; rfl; rfl)
    | (apply VVal.indexN; rfl; rfl; rfl; omega; rfl)
    | (apply VVal.indexP; rfl; rfl; rfl; omega; omega; rfl)
    | (apply VVal.indexE; rfl; rfl; rfl; omega; omega; rfl)
    | (apply VVal.load; rfl; rfl)
    | (apply VVal.pick_true; rfl; rfl)
    | (apply VVal.pick_false; rfl; rfl)
    | (apply VVal.lenF; rfl; rfl)
    | (apply VVal.lenNil; rfl; rfl)
    | (apply VVal.lenV; rfl; rfl; rfl)
    | (apply VVal.fieldB; rfl; rfl; rfl)
    | (apply VVal.fieldF; rfl; rfl)
    | (apply VVal.box; rfl; trivial)
    | (apply VVal.alloc; rfl)
    | (apply VVal.storeB; rfl; rfl; rfl; trivial; rfl; rfl; exact lt_dec rfl; exact le_dec rfl)
    | (apply VVal.build; rfl; rfl; rfl; rfl; rfl)
    | (apply VVal.buildSlice; rfl; rfl; rfl; decide; rfl; rfl; rfl)
    | (apply VVal.not; rfl)
    | (apply VVal.extract; rfl; rfl)
    | (apply VVal.convI; rfl; rfl; rfl; omega)
    | (apply VVal.convInt; rfl; rfl; rfl)
    | (apply VVal.append1; rfl; rfl; rfl; rfl; rfl; rfl; rfl; rfl; (intro _ h; cases h); rfl; rfl; rfl; decide; decide; (first | omega | (simp only [List.length_take, List.length_drop, List.length_append, List.length_singleton, List.length_cons, List.length_nil] <;> omega)))
    | (apply VVal.appendL0; rfl; rfl; rfl; (first | rfl | omega | (simp only [List.length_take, List.length_drop, List.length_append, List.length_singleton, List.length_cons, List.length_nil] <;> omega)); rfl; rfl; (intro _ h; cases h); rfl; rfl; rfl; decide; decide; (first | omega | (simp only [List.length_take, List.length_drop, List.length_append, List.length_singleton, List.length_cons, List.length_nil] <;> omega)))
    | (apply VVal.appendL; rfl; rfl; rfl; (first | rfl | omega | (simp only [List.length_take, List.length_drop, List.length_append, List.length_singleton, List.length_cons, List.length_nil])); (first | rfl | omega | (simp only [List.length_take, List.length_drop, List.length_append, List.length_singleton, List.length_cons, List.length_nil] <;> omega)); rfl; rfl; (intro _ h; cases h); rfl; rfl; rfl; decide; decide; (first | omega | (simp only [List.length_take, List.length_drop, List.length_append, List.length_singleton, List.length_cons, List.length_nil] <;> omega)))
    | (apply VVal.shlOne; rfl; rfl; omega)
    | (apply VVal.shlOneU; rfl; rfl; omega)
    | (apply VVal.shrN; rfl; rfl; (simp only [IntKind.bits]; omega))
    | (apply VVal.sliceTo; rfl; rfl; rfl; rfl; rfl; rfl; omega)
    | (apply VVal.sliceFrom; rfl; rfl; rfl; rfl; rfl; rfl; omega)
    | (apply VVal.shr; rfl; rfl; omega)
    | (apply VVal.shl; rfl; rfl; omega)
    | (apply VWp.condSeq_true; rfl)
    | (apply VWp.condSeq_false; rfl)
    | (apply VWp.condSeq_dec; rfl)
    | (apply VWp.condSeq; rfl)
    | (apply VWp.cond_true; rfl)
    | (apply VWp.cond_false; rfl)
    | (apply VWp.cond_dec; rfl)
    | (apply VWp.cond; rfl)
    | (intro _; try (exfalso; omega)))
  all_goals (refine Done.ret rfl (.refl _) (by first | exact trivial | exact ⟨trivial, trivial, trivial⟩ | exact ⟨trivial, trivial, trivial, trivial⟩) HCov.nil (Nat.zero_le _) (Nat.le_refl _) ⟨?_, rfl, rfl⟩; rfl)
set_option maxRecDepth 100000 in
theorem bad_verify : VFun env 26 [.agg (Enc.enc p), .agg [nilF, .int .i64 0, nilF]] (.p (.int .i64 e)) := by
  have hk := bad_check hc he nilF
  refine VFun.enter (env_none (by decide)) Tryd.func26 rfl (by kernel_rfl) (by simp [Tryd.ntmps26]) ?_
  repeat' (first
    | apply VWp.assoc
    | apply VWp.rseq
    | apply VWp.rseqD
    | apply VWp.region
    | apply VWp.regionD
    | apply VWp.skipSeq
    | apply VWp.retSeq
    | apply VWp.exitSeq
    | apply VWp.blockSeq
    | apply QSeq.normal
    | apply QSeq.ret
    | apply QSeq.exit
    | apply QBlk.normal
    | apply QBlk.ret
    | apply QBlk.exit
    | (apply QBlk.out; decide)
    | apply QLoop.ret
    | apply QLoop.exit
    | apply VWp.ret
    | apply VWp.skip
    | apply VWp.exit
    | apply VWp.blockQ
    | apply VOps.nil
    | apply VOpsD.nil
    | apply VOps.one
    | (apply VOpsD.bar; decide +kernel)
    | apply VOpsD.quiet
    | (apply VOps.take; rfl; rfl)
    | (apply VOpsD.quietTake; rfl; rfl)
    | (apply VOps.drop; rfl; rfl; rfl)
    | (apply VOpsD.drop; rfl; rfl; rfl)
    | (apply VOps.guard; rfl; rfl)
    | (apply VOpsD.guard; rfl; rfl)
    | (apply VOps.dropU; rfl; rfl)
    | (apply VOpsD.dropU; rfl; rfl)
    | (apply VOps.guardB; rfl; rfl)
    | (apply VOpsD.guardB; rfl; rfl)
    | (apply VVal.fn; rfl; rfl; exact hk; intro _; rfl)
    | (apply VVal.assign; rfl)
    | (apply VVal.move; rfl)
    | (apply VVal.add64; rfl; rfl; omega)
    | (apply VVal.sub64; rfl; rfl; omega)
    | (apply VVal.and1; rfl; rfl; omega)
    | (apply VVal.and1U; rfl; rfl; omega)
    | (apply VVal.and1B; rfl; rfl; omega)
    | (apply VVal.andU; rfl; rfl; omega; omega)
    | (apply VVal.orU; rfl; rfl; omega; omega)
    | (apply VVal.andNotU; rfl; rfl; omega; omega)
    | (apply VVal.remI; rfl; rfl; omega; omega)
    | (apply VVal.quoI; rfl; rfl; omega; omega)
    | (apply VVal.int; rfl; rfl; rfl)
    | (apply VVal.indexN; rfl; rfl; rfl; omega; rfl)
    | (apply VVal.indexP; rfl; rfl; rfl; omega; omega; rfl)
    | (apply VVal.indexE; rfl; rfl; rfl; omega; omega; rfl)
    | (apply VVal.load; rfl; rfl)
    | (apply VVal.pick_true; rfl; rfl)
    | (apply VVal.pick_false; rfl; rfl)
    | (apply VVal.lenF; rfl; rfl)
    | (apply VVal.lenNil; rfl; rfl)
    | (apply VVal.lenV; rfl; rfl; rfl)
    | (apply VVal.fieldB; rfl; rfl; rfl)
    | (apply VVal.fieldF; rfl; rfl)
    | (apply VVal.box; rfl; trivial)
    | (apply VVal.alloc; rfl)
    | (apply VVal.storeB; rfl; rfl; rfl; trivial; rfl; rfl; exact lt_dec rfl; exact le_dec rfl)
    | (apply VVal.build; rfl; rfl; rfl; rfl; rfl)
    | (apply VVal.buildSlice; rfl; rfl; rfl; decide; rfl; rfl; rfl)
    | (apply VVal.not; rfl)
    | (apply VVal.extract; rfl; rfl)
    | (apply VVal.convI; rfl; rfl; rfl; omega)
    | (apply VVal.convInt; rfl; rfl; rfl)
    | (apply VVal.append1; rfl; rfl; rfl; rfl; rfl; rfl; rfl; rfl; (intro _ h; cases h); rfl; rfl; rfl; decide; decide; (first | omega | (simp only [List.length_take, List.length_drop, List.length_append, List.length_singleton, List.length_cons, List.length_nil] <;> omega)))
    | (apply VVal.appendL0; rfl; rfl; rfl; (first | rfl | omega | (simp only [List.length_take, List.length_drop, List.length_append, List.length_singleton, List.length_cons, List.length_nil] <;> omega)); rfl; rfl; (intro _ h; cases h); rfl; rfl; rfl; decide; decide; (first | omega | (simp only [List.length_take, List.length_drop, List.length_append, List.length_singleton, List.length_cons, List.length_nil] <;> omega)))
    | (apply VVal.appendL; rfl; rfl; rfl; (first | rfl | omega | (simp only [List.length_take, List.length_drop, List.length_append, List.length_singleton, List.length_cons, List.length_nil])); (first | rfl | omega | (simp only [List.length_take, List.length_drop, List.length_append, List.length_singleton, List.length_cons, List.length_nil] <;> omega)); rfl; rfl; (intro _ h; cases h); rfl; rfl; rfl; decide; decide; (first | omega | (simp only [List.length_take, List.length_drop, List.length_append, List.length_singleton, List.length_cons, List.length_nil] <;> omega)))
    | (apply VVal.shlOne; rfl; rfl; omega)
    | (apply VVal.shlOneU; rfl; rfl; omega)
    | (apply VVal.shrN; rfl; rfl; (simp only [IntKind.bits]; omega))
    | (apply VVal.sliceTo; rfl; rfl; rfl; rfl; rfl; rfl; omega)
    | (apply VVal.sliceFrom; rfl; rfl; rfl; rfl; rfl; rfl; omega)
    | (apply VVal.shr; rfl; rfl; omega)
    | (apply VVal.shl; rfl; rfl; omega)
    | (apply VWp.condSeq_true; rfl)
    | (apply VWp.condSeq_false; rfl)
    | (apply VWp.condSeq_dec; rfl)
    | (apply VWp.condSeq; rfl)
    | (apply VWp.cond_true; rfl)
    | (apply VWp.cond_false; rfl)
    | (apply VWp.cond_dec; rfl)
    | (apply VWp.cond; rfl)
    | (intro _; try (exfalso; omega)))
  all_goals (refine Done.ret rfl (.refl _) (by first | exact trivial | exact ⟨trivial, trivial, trivial⟩ | exact ⟨trivial, trivial, trivial, trivial⟩) HCov.nil (Nat.zero_le _) (Nat.le_refl _) ⟨?_, rfl, rfl⟩; rfl)
end

/-! ## the law's check -/
set_option maxRecDepth 100000 in
theorem lcheck_spec (p : CProb) (hl : p.sets.length < 2^62) (h : ∀ i, i < p.sets.length → (gi p.sets i).els.length < 2^62) : VFun env 33 [.agg (Enc.enc p)] (.p (.int .i64 (checkM p))) := by
  refine VFun.enter (env_none (by decide)) Tryd.func33 rfl (by kernel_rfl) (by simp [Tryd.ntmps33]) ?_
  repeat' (first
    | apply VWp.assoc
    | apply VWp.rseq
    | apply VWp.rseqD
    | apply VWp.region
    | apply VWp.regionD
    | apply VWp.skipSeq
    | apply VWp.retSeq
    | apply VWp.exitSeq
    | apply VWp.blockSeq
    | apply QSeq.normal
    | apply QSeq.ret
    | apply QSeq.exit
    | apply QBlk.normal
    | apply QBlk.ret
    | apply QBlk.exit
    | (apply QBlk.out; decide)
    | apply QLoop.ret
    | apply QLoop.exit
    | apply VWp.ret
    | apply VWp.skip
    | apply VWp.exit
    | apply VWp.blockQ
    | apply VOps.nil
    | apply VOpsD.nil
    | apply VOps.one
    | (apply VOpsD.bar; decide +kernel)
    | apply VOpsD.quiet
    | (apply VOps.take; rfl; rfl)
    | (apply VOpsD.quietTake; rfl; rfl)
    | (apply VOps.drop; rfl; rfl; rfl)
    | (apply VOpsD.drop; rfl; rfl; rfl)
    | (apply VOps.guard; rfl; rfl)
    | (apply VOpsD.guard; rfl; rfl)
    | (apply VOps.dropU; rfl; rfl)
    | (apply VOpsD.dropU; rfl; rfl)
    | (apply VOps.guardB; rfl; rfl)
    | (apply VOpsD.guardB; rfl; rfl)
    | (apply VVal.assign; rfl)
    | (apply VVal.move; rfl)
    | (apply VVal.add64; rfl; rfl; omega)
    | (apply VVal.sub64; rfl; rfl; omega)
    | (apply VVal.and1; rfl; rfl; omega)
    | (apply VVal.and1U; rfl; rfl; omega)
    | (apply VVal.and1B; rfl; rfl; omega)
    | (apply VVal.andU; rfl; rfl; omega; omega)
    | (apply VVal.orU; rfl; rfl; omega; omega)
    | (apply VVal.andNotU; rfl; rfl; omega; omega)
    | (apply VVal.remI; rfl; rfl; omega; omega)
    | (apply VVal.quoI; rfl; rfl; omega; omega)
    | (apply VVal.int; rfl; rfl; rfl)
    | (apply VVal.indexN; rfl; rfl; rfl; omega; rfl)
    | (apply VVal.indexP; rfl; rfl; rfl; omega; omega; rfl)
    | (apply VVal.indexE; rfl; rfl; rfl; omega; omega; rfl)
    | (apply VVal.load; rfl; rfl)
    | (apply VVal.pick_true; rfl; rfl)
    | (apply VVal.pick_false; rfl; rfl)
    | (apply VVal.lenF; rfl; rfl)
    | (apply VVal.lenNil; rfl; rfl)
    | (apply VVal.lenV; rfl; rfl; rfl)
    | (apply VVal.fieldB; rfl; rfl; rfl)
    | (apply VVal.fieldF; rfl; rfl)
    | (apply VVal.box; rfl; trivial)
    | (apply VVal.alloc; rfl)
    | (apply VVal.storeB; rfl; rfl; rfl; trivial; rfl; rfl; exact lt_dec rfl; exact le_dec rfl)
    | (apply VVal.build; rfl; rfl; rfl; rfl; rfl)
    | (apply VVal.buildSlice; rfl; rfl; rfl; decide; rfl; rfl; rfl)
    | (apply VVal.not; rfl)
    | (apply VVal.extract; rfl; rfl)
    | (apply VVal.convI; rfl; rfl; rfl; omega)
    | (apply VVal.convInt; rfl; rfl; rfl)
    | (apply VVal.append1; rfl; rfl; rfl; rfl; rfl; rfl; rfl; rfl; (intro _ h; cases h); rfl; rfl; rfl; decide; decide; (first | omega | (simp only [List.length_take, List.length_drop, List.length_append, List.length_singleton, List.length_cons, List.length_nil] <;> omega)))
    | (apply VVal.appendL0; rfl; rfl; rfl; (first | rfl | omega | (simp only [List.length_take, List.length_drop, List.length_append, List.length_singleton, List.length_cons, List.length_nil] <;> omega)); rfl; rfl; (intro _ h; cases h); rfl; rfl; rfl; decide; decide; (first | omega | (simp only [List.length_take, List.length_drop, List.length_append, List.length_singleton, List.length_cons, List.length_nil] <;> omega)))
    | (apply VVal.appendL; rfl; rfl; rfl; (first | rfl | omega | (simp only [List.length_take, List.length_drop, List.length_append, List.length_singleton, List.length_cons, List.length_nil])); (first | rfl | omega | (simp only [List.length_take, List.length_drop, List.length_append, List.length_singleton, List.length_cons, List.length_nil] <;> omega)); rfl; rfl; (intro _ h; cases h); rfl; rfl; rfl; decide; decide; (first | omega | (simp only [List.length_take, List.length_drop, List.length_append, List.length_singleton, List.length_cons, List.length_nil] <;> omega)))
    | (apply VVal.shlOne; rfl; rfl; omega)
    | (apply VVal.shlOneU; rfl; rfl; omega)
    | (apply VVal.shrN; rfl; rfl; (simp only [IntKind.bits]; omega))
    | (apply VVal.sliceTo; rfl; rfl; rfl; rfl; rfl; rfl; omega)
    | (apply VVal.sliceFrom; rfl; rfl; rfl; rfl; rfl; rfl; omega)
    | (apply VVal.shr; rfl; rfl; omega)
    | (apply VVal.shl; rfl; rfl; omega)
    | (apply VWp.condSeq_true; rfl)
    | (apply VWp.condSeq_false; rfl)
    | (apply VWp.condSeq_dec; rfl)
    | (apply VWp.condSeq; rfl)
    | (apply VWp.cond_true; rfl)
    | (apply VWp.cond_false; rfl)
    | (apply VWp.cond_dec; rfl)
    | (apply VWp.cond; rfl)
    | (intro _; try (exfalso; omega)))
  all_goals try (refine Done.ret rfl (.refl _) (by first | exact trivial | exact ⟨trivial, trivial, trivial⟩ | exact ⟨trivial, trivial, trivial, trivial⟩) HCov.nil (Nat.zero_le _) (Nat.le_refl _) ⟨?_, rfl, rfl⟩; rw [checkM]; simp_all; done)
  refine VWp.loopQ (fun k : Nat => [(1, .ref 0 0), (20, lst 35 p.sets), (21, .p (.int .i64 p.sets.length)), (22, .p (.int .i64 k))]) (fun k => [(0, .box 29 ((Enc.enc p).map .p))]) 1 (fun k => k ≤ p.sets.length ∧ setsErr p.n p.sets k = setsErr p.n p.sets 0) (fun k => p.sets.length - k) 0 (by omega) ⟨by omega, rfl⟩ ⟨Nat.le_refl _, ?_, ?_⟩ ?_
  · repeat (first | exact LCov.nil | refine LCov.same trivial rfl ?_ | refine LCov.same (lt_dec rfl) rfl ?_ | refine LCov.cons trivial rfl (.of_eq (lst_len (by simp <;> omega))) ?_)
  · repeat (first | exact HCov.nil | (refine HCov.cons (lt_dec rfl) ?_ rfl ?_ ?_; (first | exact trivial | exact PVs.under_pure _ _ | (simp [HB.under, PVs.under, PV.under])); (first | exact HLe.refl _ | exact HLe.vec (FLes.refl _) (by simp))))
  rintro k ⟨hk, hr⟩
  have hc : checkM p = setsErr p.n p.sets k := by rw [checkM, if_neg (by omega), if_neg (by omega), hr]
  repeat' (first
    | apply VWp.assoc
    | apply VWp.rseq
    | apply VWp.rseqD
    | apply VWp.region
    | apply VWp.regionD
    | apply VWp.skipSeq
    | apply VWp.retSeq
    | apply VWp.exitSeq
    | apply VWp.blockSeq
    | apply QSeq.normal
    | apply QSeq.ret
    | apply QSeq.exit
    | apply QBlk.normal
    | apply QBlk.ret
    | apply QBlk.exit
    | (apply QBlk.out; decide)
    | apply QLoop.ret
    | apply QLoop.exit
    | apply VWp.ret
    | apply VWp.skip
    | apply VWp.exit
    | apply VWp.blockQ
    | apply VOps.nil
    | apply VOpsD.nil
    | apply VOps.one
    | (apply VOpsD.bar; decide +kernel)
    | apply VOpsD.quiet
    | (apply VOps.take; rfl; rfl)
    | (apply VOpsD.quietTake; rfl; rfl)
    | (apply VOps.drop; rfl; rfl; rfl)
    | (apply VOpsD.drop; rfl; rfl; rfl)
    | (apply VOps.guard; rfl; rfl)
    | (apply VOpsD.guard; rfl; rfl)
    | (apply VOps.dropU; rfl; rfl)
    | (apply VOpsD.dropU; rfl; rfl)
    | (apply VOps.guardB; rfl; rfl)
    | (apply VOpsD.guardB; rfl; rfl)
    | (apply VVal.assign; rfl)
    | (apply VVal.move; rfl)
    | (apply VVal.add64; rfl; rfl; omega)
    | (apply VVal.sub64; rfl; rfl; omega)
    | (apply VVal.and1; rfl; rfl; omega)
    | (apply VVal.and1U; rfl; rfl; omega)
    | (apply VVal.and1B; rfl; rfl; omega)
    | (apply VVal.andU; rfl; rfl; omega; omega)
    | (apply VVal.orU; rfl; rfl; omega; omega)
    | (apply VVal.andNotU; rfl; rfl; omega; omega)
    | (apply VVal.remI; rfl; rfl; omega; omega)
    | (apply VVal.quoI; rfl; rfl; omega; omega)
    | (apply VVal.int; rfl; rfl; rfl)
    | (apply VVal.indexN; rfl; rfl; rfl; omega; rfl)
    | (apply VVal.indexP; rfl; rfl; rfl; omega; omega; rfl)
    | (apply VVal.indexE; rfl; rfl; rfl; omega; omega; rfl)
    | (apply VVal.load; rfl; rfl)
    | (apply VVal.pick_true; rfl; rfl)
    | (apply VVal.pick_false; rfl; rfl)
    | (apply VVal.lenF; rfl; rfl)
    | (apply VVal.lenNil; rfl; rfl)
    | (apply VVal.lenV; rfl; rfl; rfl)
    | (apply VVal.fieldB; rfl; rfl; rfl)
    | (apply VVal.fieldF; rfl; rfl)
    | (apply VVal.box; rfl; trivial)
    | (apply VVal.alloc; rfl)
    | (apply VVal.storeB; rfl; rfl; rfl; trivial; rfl; rfl; exact lt_dec rfl; exact le_dec rfl)
    | (apply VVal.build; rfl; rfl; rfl; rfl; rfl)
    | (apply VVal.buildSlice; rfl; rfl; rfl; decide; rfl; rfl; rfl)
    | (apply VVal.not; rfl)
    | (apply VVal.extract; rfl; rfl)
    | (apply VVal.convI; rfl; rfl; rfl; omega)
    | (apply VVal.convInt; rfl; rfl; rfl)
    | (apply VVal.append1; rfl; rfl; rfl; rfl; rfl; rfl; rfl; rfl; (intro _ h; cases h); rfl; rfl; rfl; decide; decide; (first | omega | (simp only [List.length_take, List.length_drop, List.length_append, List.length_singleton, List.length_cons, List.length_nil] <;> omega)))
    | (apply VVal.appendL0; rfl; rfl; rfl; (first | rfl | omega | (simp only [List.length_take, List.length_drop, List.length_append, List.length_singleton, List.length_cons, List.length_nil] <;> omega)); rfl; rfl; (intro _ h; cases h); rfl; rfl; rfl; decide; decide; (first | omega | (simp only [List.length_take, List.length_drop, List.length_append, List.length_singleton, List.length_cons, List.length_nil] <;> omega)))
    | (apply VVal.appendL; rfl; rfl; rfl; (first | rfl | omega | (simp only [List.length_take, List.length_drop, List.length_append, List.length_singleton, List.length_cons, List.length_nil])); (first | rfl | omega | (simp only [List.length_take, List.length_drop, List.length_append, List.length_singleton, List.length_cons, List.length_nil] <;> omega)); rfl; rfl; (intro _ h; cases h); rfl; rfl; rfl; decide; decide; (first | omega | (simp only [List.length_take, List.length_drop, List.length_append, List.length_singleton, List.length_cons, List.length_nil] <;> omega)))
    | (apply VVal.shlOne; rfl; rfl; omega)
    | (apply VVal.shlOneU; rfl; rfl; omega)
    | (apply VVal.shrN; rfl; rfl; (simp only [IntKind.bits]; omega))
    | (apply VVal.sliceTo; rfl; rfl; rfl; rfl; rfl; rfl; omega)
    | (apply VVal.sliceFrom; rfl; rfl; rfl; rfl; rfl; rfl; omega)
    | (apply VVal.shr; rfl; rfl; omega)
    | (apply VVal.shl; rfl; rfl; omega)
    | (apply VWp.condSeq_true; rfl)
    | (apply VWp.condSeq_false; rfl)
    | (apply VWp.condSeq_dec; rfl)
    | (apply VWp.condSeq; rfl)
    | (apply VWp.cond_true; rfl)
    | (apply VWp.cond_false; rfl)
    | (apply VWp.cond_dec; rfl)
    | (apply VWp.cond; rfl)
    | (intro _; try (exfalso; omega)))
  · have hlk := h k (by omega)
    refine VWp.loopQ (fun j : Nat => [(1, .ref 0 0), (4, .ref 1 0), (20, lst 35 p.sets), (21, .p (.int .i64 p.sets.length)), (22, .p (.int .i64 k)), (27, lst 3 (gi p.sets k).els), (28, .p (.int .i64 (gi p.sets k).els.length)), (29, .p (.int .i64 j))])
      (fun _ => [(0, .box 29 ((Enc.enc p).map .p)), (1, .box 35 ((Enc.enc (gi p.sets k)).map .p))]) 2 (fun j => j ≤ (gi p.sets k).els.length ∧ rsg (gi p.sets k).els p.n j = rsg (gi p.sets k).els p.n 0) (fun j => (gi p.sets k).els.length - j) 0 (by omega) ⟨by omega, rfl⟩ ⟨by omega, ?_, ?_⟩ ?_
    · repeat (first | exact LCov.nil | refine LCov.same trivial rfl ?_ | refine LCov.same (lt_dec rfl) rfl ?_ | refine LCov.cons trivial rfl (.of_eq (lst_len (by simp <;> omega))) ?_)
    · repeat (first | exact HCov.nil | (refine HCov.cons (lt_dec rfl) ?_ rfl ?_ ?_; (first | exact trivial | exact PVs.under_pure _ _ | (simp [HB.under, PVs.under, PV.under])); (first | exact HLe.refl _ | exact HLe.vec (FLes.refl _) (by simp))))
    rintro j ⟨hj, hrj⟩
    repeat' (first
      | apply VWp.assoc
      | apply VWp.rseq
      | apply VWp.rseqD
      | apply VWp.region
      | apply VWp.regionD
      | apply VWp.skipSeq
      | apply VWp.retSeq
      | apply VWp.exitSeq
      | apply VWp.blockSeq
      | apply QSeq.normal
      | apply QSeq.ret
      | apply QSeq.exit
      | apply QBlk.normal
      | apply QBlk.ret
      | apply QBlk.exit
      | (apply QBlk.out; decide)
      | apply QLoop.ret
      | apply QLoop.exit
      | apply VWp.ret
      | apply VWp.skip
      | apply VWp.exit
      | apply VWp.blockQ
      | apply VOps.nil
      | apply VOpsD.nil
      | apply VOps.one
      | (apply VOpsD.bar; decide +kernel)
      | apply VOpsD.quiet
      | (apply VOps.take; rfl; rfl)
      | (apply VOpsD.quietTake; rfl; rfl)
      | (apply VOps.drop; rfl; rfl; rfl)
      | (apply VOpsD.drop; rfl; rfl; rfl)
      | (apply VOps.guard; rfl; rfl)
      | (apply VOpsD.guard; rfl; rfl)
      | (apply VOps.dropU; rfl; rfl)
      | (apply VOpsD.dropU; rfl; rfl)
      | (apply VOps.guardB; rfl; rfl)
      | (apply VOpsD.guardB; rfl; rfl)
      | (apply VVal.assign; rfl)
      | (apply VVal.move; rfl)
      | (apply VVal.add64; rfl; rfl; omega)
      | (apply VVal.sub64; rfl; rfl; omega)
      | (apply VVal.and1; rfl; rfl; omega)
      | (apply VVal.and1U; rfl; rfl; omega)
      | (apply VVal.and1B; rfl; rfl; omega)
      | (apply VVal.andU; rfl; rfl; omega; omega)
      | (apply VVal.orU; rfl; rfl; omega; omega)
      | (apply VVal.andNotU; rfl; rfl; omega; omega)
      | (apply VVal.remI; rfl; rfl; omega; omega)
      | (apply VVal.quoI; rfl; rfl; omega; omega)
      | (apply VVal.int; rfl; rfl; rfl)
      | (apply VVal.indexN; rfl; rfl; rfl; omega; rfl)
      | (apply VVal.indexP; rfl; rfl; rfl; omega; omega; rfl)
      | (apply VVal.indexE; rfl; rfl; rfl; omega; omega; rfl)
      | (apply VVal.load; rfl; rfl)
      | (apply VVal.pick_true; rfl; rfl)
      | (apply VVal.pick_false; rfl; rfl)
      | (apply VVal.lenF; rfl; rfl)
      | (apply VVal.lenNil; rfl; rfl)
      | (apply VVal.lenV; rfl; rfl; rfl)
      | (apply VVal.fieldB; rfl; rfl; rfl)
      | (apply VVal.fieldF; rfl; rfl)
      | (apply VVal.box; rfl; trivial)
      | (apply VVal.alloc; rfl)
      | (apply VVal.storeB; rfl; rfl; rfl; trivial; rfl; rfl; exact lt_dec rfl; exact le_dec rfl)
      | (apply VVal.build; rfl; rfl; rfl; rfl; rfl)
      | (apply VVal.buildSlice; rfl; rfl; rfl; decide; rfl; rfl; rfl)
      | (apply VVal.not; rfl)
      | (apply VVal.extract; rfl; rfl)
      | (apply VVal.convI; rfl; rfl; rfl; omega)
      | (apply VVal.convInt; rfl; rfl; rfl)
      | (apply VVal.append1; rfl; rfl; rfl; rfl; rfl; rfl; rfl; rfl; (intro _ h; cases h); rfl; rfl; rfl; decide; decide; (first | omega | (simp only [List.length_take, List.length_drop, List.length_append, List.length_singleton, List.length_cons, List.length_nil] <;> omega)))
      | (apply VVal.appendL0; rfl; rfl; rfl; (first | rfl | omega | (simp only [List.length_take, List.length_drop, List.length_append, List.length_singleton, List.length_cons, List.length_nil] <;> omega)); rfl; rfl; (intro _ h; cases h); rfl; rfl; rfl; decide; decide; (first | omega | (simp only [List.length_take, List.length_drop, List.length_append, List.length_singleton, List.length_cons, List.length_nil] <;> omega)))
      | (apply VVal.appendL; rfl; rfl; rfl; (first | rfl | omega | (simp only [List.length_take, List.length_drop, List.length_append, List.length_singleton, List.length_cons, List.length_nil])); (first | rfl | omega | (simp only [List.length_take, List.length_drop, List.length_append, List.length_singleton, List.length_cons, List.length_nil] <;> omega)); rfl; rfl; (intro _ h; cases h); rfl; rfl; rfl; decide; decide; (first | omega | (simp only [List.length_take, List.length_drop, List.length_append, List.length_singleton, List.length_cons, List.length_nil] <;> omega)))
      | (apply VVal.shlOne; rfl; rfl; omega)
      | (apply VVal.shlOneU; rfl; rfl; omega)
      | (apply VVal.shrN; rfl; rfl; (simp only [IntKind.bits]; omega))
      | (apply VVal.sliceTo; rfl; rfl; rfl; rfl; rfl; rfl; omega)
      | (apply VVal.sliceFrom; rfl; rfl; rfl; rfl; rfl; rfl; omega)
      | (apply VVal.shr; rfl; rfl; omega)
      | (apply VVal.shl; rfl; rfl; omega)
      | (apply VWp.condSeq_true; rfl)
      | (apply VWp.condSeq_false; rfl)
      | (apply VWp.condSeq_dec; rfl)
      | (apply VWp.condSeq; rfl)
      | (apply VWp.cond_true; rfl)
      | (apply VWp.cond_false; rfl)
      | (apply VWp.cond_dec; rfl)
      | (apply VWp.cond; rfl)
      | (intro _; try (exfalso; omega)))
    all_goals try (
      have hR : rsg (gi p.sets k).els p.n 0 = 10 := by rw [← hrj, rsg, if_pos (by omega), if_pos (by omega)]
      refine Done.ret rfl (.refl _) (by first | exact trivial | exact ⟨trivial, trivial, trivial⟩ | exact ⟨trivial, trivial, trivial, trivial⟩) HCov.nil (Nat.zero_le _) (Nat.le_refl _) ⟨?_, rfl, rfl⟩
      rw [hc, setsErr, if_pos (by omega)]
      simp [setErr, hR]
      done)
    all_goals try (
      have hR : rsg (gi p.sets k).els p.n 0 = 6 := by rw [← hrj, rsg, if_pos (by omega), if_neg (by omega), if_pos (by omega)]
      refine Done.ret rfl (.refl _) (by first | exact trivial | exact ⟨trivial, trivial, trivial⟩ | exact ⟨trivial, trivial, trivial, trivial⟩) HCov.nil (Nat.zero_le _) (Nat.le_refl _) ⟨?_, rfl, rfl⟩
      rw [hc, setsErr, if_pos (by omega)]
      simp [setErr, hR]
      done)
    all_goals try (
      refine QLoop.normal ⟨j + 1, ⟨by omega, ?_⟩, by omega, ⟨by omega, ?_, ?_⟩⟩
      · rw [← hrj]; conv => rhs; rw [rsg]
        rw [if_pos (by omega), if_neg (by omega), if_neg (by omega)]
      · repeat (first | exact LCov.nil | refine LCov.same trivial rfl ?_ | refine LCov.same (lt_dec rfl) rfl ?_ | refine LCov.cons trivial rfl (.of_eq (lst_len (by simp <;> omega))) ?_)
      · repeat (first | exact HCov.nil | (refine HCov.cons (lt_dec rfl) ?_ rfl ?_ ?_; (first | exact trivial | exact PVs.under_pure _ _ | (simp [HB.under, PVs.under, PV.under])); (first | exact HLe.refl _ | exact HLe.vec (FLes.refl _) (by simp)))))
    all_goals (have hR : rsg (gi p.sets k).els p.n 0 = 0 := by rw [← hrj, rsg, if_neg (by omega)])
    all_goals try (
      refine Done.ret rfl (.refl _) (by first | exact trivial | exact ⟨trivial, trivial, trivial⟩ | exact ⟨trivial, trivial, trivial, trivial⟩) HCov.nil (Nat.zero_le _) (Nat.le_refl _) ⟨?_, rfl, rfl⟩
      rw [hc, setsErr, if_pos (by omega)]
      simp_all [setErr]
      done)
    refine QLoop.normal ⟨k + 1, ⟨by omega, ?_⟩, by omega, ⟨by omega, ?_, ?_⟩⟩
    · have e0 : setErr p.n (gi p.sets k) = 0 := by simp_all [setErr]
      rw [← hr]; conv => rhs; rw [setsErr]
      rw [if_pos (by omega), if_neg (by omega)]
    · repeat (first | exact LCov.nil | refine LCov.same trivial rfl ?_ | refine LCov.same (lt_dec rfl) rfl ?_ | refine LCov.cons trivial rfl (.of_eq (lst_len (by simp <;> omega))) ?_)
    · repeat (first | exact HCov.nil | (refine HCov.cons (lt_dec rfl) ?_ rfl ?_ ?_; (first | exact trivial | exact PVs.under_pure _ _ | (simp [HB.under, PVs.under, PV.under])); (first | exact HLe.refl _ | exact HLe.vec (FLes.refl _) (by simp))))
  · refine Done.ret rfl (.refl _) (by first | exact trivial | exact ⟨trivial, trivial, trivial⟩ | exact ⟨trivial, trivial, trivial, trivial⟩) HCov.nil (Nat.zero_le _) (Nat.le_refl _) ⟨?_, rfl, rfl⟩
    rw [hc, setsErr, if_neg (by omega)]

/-! ## the law -/
set_option maxRecDepth 100000 in
set_option maxHeartbeats 1000000 in
theorem checks_spec (p : CProb) : VFun env 9 [.agg (Enc.enc p)] (.p (.bool true)) := by
  by_cases hbig : p.sets.length > 8 ∧ p.sets.length ≠ 41
  · refine VFun.enter (env_none (by decide)) Tryd.func9 rfl (by kernel_rfl) (by simp [Tryd.ntmps9]) ?_
    repeat' (first
      | apply VWp.assoc
      | apply VWp.rseq
      | apply VWp.rseqD
      | apply VWp.region
      | apply VWp.regionD
      | apply VWp.skipSeq
      | apply VWp.retSeq
      | apply VWp.exitSeq
      | apply VWp.blockSeq
      | apply QSeq.normal
      | apply QSeq.ret
      | apply QSeq.exit
      | apply QBlk.normal
      | apply QBlk.ret
      | apply QBlk.exit
      | (apply QBlk.out; decide)
      | apply QLoop.ret
      | apply QLoop.exit
      | apply VWp.ret
      | apply VWp.skip
      | apply VWp.exit
      | apply VWp.blockQ
      | apply VOps.nil
      | apply VOpsD.nil
      | apply VOps.one
      | (apply VOpsD.bar; decide +kernel)
      | apply VOpsD.quiet
      | (apply VOps.take; rfl; rfl)
      | (apply VOpsD.quietTake; rfl; rfl)
      | (apply VOps.drop; rfl; rfl; rfl)
      | (apply VOpsD.drop; rfl; rfl; rfl)
      | (apply VOps.guard; rfl; rfl)
      | (apply VOpsD.guard; rfl; rfl)
      | (apply VOps.dropU; rfl; rfl)
      | (apply VOpsD.dropU; rfl; rfl)
      | (apply VOps.guardB; rfl; rfl)
      | (apply VOpsD.guardB; rfl; rfl)
      | (apply VVal.fn; rfl; rfl; exact knownF; intro _; rfl)
      | (apply VVal.assign; rfl)
      | (apply VVal.move; rfl)
      | (apply VVal.add64; rfl; rfl; omega)
      | (apply VVal.sub64; rfl; rfl; omega)
      | (apply VVal.and1; rfl; rfl; omega)
      | (apply VVal.and1U; rfl; rfl; omega)
      | (apply VVal.and1B; rfl; rfl; omega)
      | (apply VVal.andU; rfl; rfl; omega; omega)
      | (apply VVal.orU; rfl; rfl; omega; omega)
      | (apply VVal.andNotU; rfl; rfl; omega; omega)
      | (apply VVal.remI; rfl; rfl; omega; omega)
      | (apply VVal.quoI; rfl; rfl; omega; omega)
      | (apply VVal.int; rfl; rfl; rfl)
      | (apply VVal.indexN; rfl; rfl; rfl; omega; rfl)
      | (apply VVal.indexP; rfl; rfl; rfl; omega; omega; rfl)
      | (apply VVal.indexE; rfl; rfl; rfl; omega; omega; rfl)
      | (apply VVal.load; rfl; rfl)
      | (apply VVal.pick_true; rfl; rfl)
      | (apply VVal.pick_false; rfl; rfl)
      | (apply VVal.lenF; rfl; rfl)
      | (apply VVal.lenNil; rfl; rfl)
      | (apply VVal.lenV; rfl; rfl; rfl)
      | (apply VVal.fieldB; rfl; rfl; rfl)
      | (apply VVal.fieldF; rfl; rfl)
      | (apply VVal.box; rfl; trivial)
      | (apply VVal.alloc; rfl)
      | (apply VVal.storeB; rfl; rfl; rfl; trivial; rfl; rfl; exact lt_dec rfl; exact le_dec rfl)
      | (apply VVal.build; rfl; rfl; rfl; rfl; rfl)
      | (apply VVal.buildSlice; rfl; rfl; rfl; decide; rfl; rfl; rfl)
      | (apply VVal.not; rfl)
      | (apply VVal.extract; rfl; rfl)
      | (apply VVal.convI; rfl; rfl; rfl; omega)
      | (apply VVal.convInt; rfl; rfl; rfl)
      | (apply VVal.append1; rfl; rfl; rfl; rfl; rfl; rfl; rfl; rfl; (intro _ h; cases h); rfl; rfl; rfl; decide; decide; (first | omega | (simp only [List.length_take, List.length_drop, List.length_append, List.length_singleton, List.length_cons, List.length_nil] <;> omega)))
      | (apply VVal.appendL0; rfl; rfl; rfl; (first | rfl | omega | (simp only [List.length_take, List.length_drop, List.length_append, List.length_singleton, List.length_cons, List.length_nil] <;> omega)); rfl; rfl; (intro _ h; cases h); rfl; rfl; rfl; decide; decide; (first | omega | (simp only [List.length_take, List.length_drop, List.length_append, List.length_singleton, List.length_cons, List.length_nil] <;> omega)))
      | (apply VVal.appendL; rfl; rfl; rfl; (first | rfl | omega | (simp only [List.length_take, List.length_drop, List.length_append, List.length_singleton, List.length_cons, List.length_nil])); (first | rfl | omega | (simp only [List.length_take, List.length_drop, List.length_append, List.length_singleton, List.length_cons, List.length_nil] <;> omega)); rfl; rfl; (intro _ h; cases h); rfl; rfl; rfl; decide; decide; (first | omega | (simp only [List.length_take, List.length_drop, List.length_append, List.length_singleton, List.length_cons, List.length_nil] <;> omega)))
      | (apply VVal.shlOne; rfl; rfl; omega)
      | (apply VVal.shlOneU; rfl; rfl; omega)
      | (apply VVal.shrN; rfl; rfl; (simp only [IntKind.bits]; omega))
      | (apply VVal.sliceTo; rfl; rfl; rfl; rfl; rfl; rfl; omega)
      | (apply VVal.sliceFrom; rfl; rfl; rfl; rfl; rfl; rfl; omega)
      | (apply VVal.shr; rfl; rfl; omega)
      | (apply VVal.shl; rfl; rfl; omega)
      | (apply VWp.condSeq_true; rfl)
      | (apply VWp.condSeq_false; rfl)
      | (apply VWp.condSeq_dec; rfl)
      | (apply VWp.condSeq; rfl)
      | (apply VWp.cond_true; rfl)
      | (apply VWp.cond_false; rfl)
      | (apply VWp.cond_dec; rfl)
      | (apply VWp.cond; rfl)
      | (intro _; try (exfalso; omega)))
    all_goals (refine Done.ret rfl (.refl _) (by first | exact trivial | exact ⟨trivial, trivial, trivial⟩ | exact ⟨trivial, trivial, trivial, trivial⟩) HCov.nil (Nat.zero_le _) (Nat.le_refl _) ⟨?_, rfl, rfl⟩; rfl)
  · refine VFun.enter (env_none (by decide)) Tryd.func9 rfl (by kernel_rfl) (by simp [Tryd.ntmps9]) ?_
    repeat' (first
      | apply VWp.assoc
      | apply VWp.rseq
      | apply VWp.rseqD
      | apply VWp.region
      | apply VWp.regionD
      | apply VWp.skipSeq
      | apply VWp.retSeq
      | apply VWp.exitSeq
      | apply VWp.blockSeq
      | apply QSeq.normal
      | apply QSeq.ret
      | apply QSeq.exit
      | apply QBlk.normal
      | apply QBlk.ret
      | apply QBlk.exit
      | (apply QBlk.out; decide)
      | apply QLoop.ret
      | apply QLoop.exit
      | apply VWp.ret
      | apply VWp.skip
      | apply VWp.exit
      | apply VWp.blockQ
      | apply VOps.nil
      | apply VOpsD.nil
      | apply VOps.one
      | (apply VOpsD.bar; decide +kernel)
      | apply VOpsD.quiet
      | (apply VOps.take; rfl; rfl)
      | (apply VOpsD.quietTake; rfl; rfl)
      | (apply VOps.drop; rfl; rfl; rfl)
      | (apply VOpsD.drop; rfl; rfl; rfl)
      | (apply VOps.guard; rfl; rfl)
      | (apply VOpsD.guard; rfl; rfl)
      | (apply VOps.dropU; rfl; rfl)
      | (apply VOpsD.dropU; rfl; rfl)
      | (apply VOps.guardB; rfl; rfl)
      | (apply VOpsD.guardB; rfl; rfl)
      | (apply VVal.fn; rfl; rfl; exact knownF; intro _; rfl)
      | (apply VVal.assign; rfl)
      | (apply VVal.move; rfl)
      | (apply VVal.add64; rfl; rfl; omega)
      | (apply VVal.sub64; rfl; rfl; omega)
      | (apply VVal.and1; rfl; rfl; omega)
      | (apply VVal.and1U; rfl; rfl; omega)
      | (apply VVal.and1B; rfl; rfl; omega)
      | (apply VVal.andU; rfl; rfl; omega; omega)
      | (apply VVal.orU; rfl; rfl; omega; omega)
      | (apply VVal.andNotU; rfl; rfl; omega; omega)
      | (apply VVal.remI; rfl; rfl; omega; omega)
      | (apply VVal.quoI; rfl; rfl; omega; omega)
      | (apply VVal.int; rfl; rfl; rfl)
      | (apply VVal.indexN; rfl; rfl; rfl; omega; rfl)
      | (apply VVal.indexP; rfl; rfl; rfl; omega; omega; rfl)
      | (apply VVal.indexE; rfl; rfl; rfl; omega; omega; rfl)
      | (apply VVal.load; rfl; rfl)
      | (apply VVal.pick_true; rfl; rfl)
      | (apply VVal.pick_false; rfl; rfl)
      | (apply VVal.lenF; rfl; rfl)
      | (apply VVal.lenNil; rfl; rfl)
      | (apply VVal.lenV; rfl; rfl; rfl)
      | (apply VVal.fieldB; rfl; rfl; rfl)
      | (apply VVal.fieldF; rfl; rfl)
      | (apply VVal.box; rfl; trivial)
      | (apply VVal.alloc; rfl)
      | (apply VVal.storeB; rfl; rfl; rfl; trivial; rfl; rfl; exact lt_dec rfl; exact le_dec rfl)
      | (apply VVal.build; rfl; rfl; rfl; rfl; rfl)
      | (apply VVal.buildSlice; rfl; rfl; rfl; decide; rfl; rfl; rfl)
      | (apply VVal.not; rfl)
      | (apply VVal.extract; rfl; rfl)
      | (apply VVal.convI; rfl; rfl; rfl; omega)
      | (apply VVal.convInt; rfl; rfl; rfl)
      | (apply VVal.append1; rfl; rfl; rfl; rfl; rfl; rfl; rfl; rfl; (intro _ h; cases h); rfl; rfl; rfl; decide; decide; (first | omega | (simp only [List.length_take, List.length_drop, List.length_append, List.length_singleton, List.length_cons, List.length_nil] <;> omega)))
      | (apply VVal.appendL0; rfl; rfl; rfl; (first | rfl | omega | (simp only [List.length_take, List.length_drop, List.length_append, List.length_singleton, List.length_cons, List.length_nil] <;> omega)); rfl; rfl; (intro _ h; cases h); rfl; rfl; rfl; decide; decide; (first | omega | (simp only [List.length_take, List.length_drop, List.length_append, List.length_singleton, List.length_cons, List.length_nil] <;> omega)))
      | (apply VVal.appendL; rfl; rfl; rfl; (first | rfl | omega | (simp only [List.length_take, List.length_drop, List.length_append, List.length_singleton, List.length_cons, List.length_nil])); (first | rfl | omega | (simp only [List.length_take, List.length_drop, List.length_append, List.length_singleton, List.length_cons, List.length_nil] <;> omega)); rfl; rfl; (intro _ h; cases h); rfl; rfl; rfl; decide; decide; (first | omega | (simp only [List.length_take, List.length_drop, List.length_append, List.length_singleton, List.length_cons, List.length_nil] <;> omega)))
      | (apply VVal.shlOne; rfl; rfl; omega)
      | (apply VVal.shlOneU; rfl; rfl; omega)
      | (apply VVal.shrN; rfl; rfl; (simp only [IntKind.bits]; omega))
      | (apply VVal.sliceTo; rfl; rfl; rfl; rfl; rfl; rfl; omega)
      | (apply VVal.sliceFrom; rfl; rfl; rfl; rfl; rfl; rfl; omega)
      | (apply VVal.shr; rfl; rfl; omega)
      | (apply VVal.shl; rfl; rfl; omega)
      | (apply VWp.condSeq_true; rfl)
      | (apply VWp.condSeq_false; rfl)
      | (apply VWp.condSeq_dec; rfl)
      | (apply VWp.condSeq; rfl)
      | (apply VWp.cond_true; rfl)
      | (apply VWp.cond_false; rfl)
      | (apply VWp.cond_dec; rfl)
      | (apply VWp.cond; rfl)
      | (intro _; try (exfalso; omega)))
    all_goals (
      refine VWp.loopQ (fun k : Nat => [(1, .ref 0 0), (38, lst 35 p.sets), (39, .p (.int .i64 p.sets.length)), (40, .p (.int .i64 k))]) (fun k => [(0, .box 29 ((Enc.enc p).map .p))]) 1 (fun k => k ≤ p.sets.length ∧ ∀ i, i < k → (gi p.sets i).els.length ≤ 8) (fun k => p.sets.length - k) 0 (by omega) ⟨by omega, fun i hi => by omega⟩ ⟨Nat.le_refl _, ?_, ?_⟩ ?_
      · repeat (first | exact LCov.nil | refine LCov.same trivial rfl ?_ | refine LCov.same (lt_dec rfl) rfl ?_ | refine LCov.cons trivial rfl (.of_eq (lst_len (by simp <;> omega))) ?_)
      · repeat (first | exact HCov.nil | (refine HCov.cons (lt_dec rfl) ?_ rfl ?_ ?_; (first | exact trivial | exact PVs.under_pure _ _ | (simp [HB.under, PVs.under, PV.under])); (first | exact HLe.refl _ | exact HLe.vec (FLes.refl _) (by simp))))
      rintro k ⟨hk, hr⟩
      by_cases hlt : k < p.sets.length
      · repeat' (first
          | apply VWp.assoc
          | apply VWp.rseq
          | apply VWp.rseqD
          | apply VWp.region
          | apply VWp.regionD
          | apply VWp.skipSeq
          | apply VWp.retSeq
          | apply VWp.exitSeq
          | apply VWp.blockSeq
          | apply QSeq.normal
          | apply QSeq.ret
          | apply QSeq.exit
          | apply QBlk.normal
          | apply QBlk.ret
          | apply QBlk.exit
          | (apply QBlk.out; decide)
          | apply QLoop.ret
          | apply QLoop.exit
          | apply VWp.ret
          | apply VWp.skip
          | apply VWp.exit
          | apply VWp.blockQ
          | apply VOps.nil
          | apply VOpsD.nil
          | apply VOps.one
          | (apply VOpsD.bar; decide +kernel)
          | apply VOpsD.quiet
          | (apply VOps.take; rfl; rfl)
          | (apply VOpsD.quietTake; rfl; rfl)
          | (apply VOps.drop; rfl; rfl; rfl)
          | (apply VOpsD.drop; rfl; rfl; rfl)
          | (apply VOps.guard; rfl; rfl)
          | (apply VOpsD.guard; rfl; rfl)
          | (apply VOps.dropU; rfl; rfl)
          | (apply VOpsD.dropU; rfl; rfl)
          | (apply VOps.guardB; rfl; rfl)
          | (apply VOpsD.guardB; rfl; rfl)
          | (apply VVal.assign; rfl)
          | (apply VVal.move; rfl)
          | (apply VVal.add64; rfl; rfl; omega)
          | (apply VVal.sub64; rfl; rfl; omega)
          | (apply VVal.and1; rfl; rfl; omega)
          | (apply VVal.and1U; rfl; rfl; omega)
          | (apply VVal.and1B; rfl; rfl; omega)
          | (apply VVal.andU; rfl; rfl; omega; omega)
          | (apply VVal.orU; rfl; rfl; omega; omega)
          | (apply VVal.andNotU; rfl; rfl; omega; omega)
          | (apply VVal.remI; rfl; rfl; omega; omega)
          | (apply VVal.quoI; rfl; rfl; omega; omega)
          | (apply VVal.int; rfl; rfl; rfl)
          | (apply VVal.indexN; rfl; rfl; rfl; omega; rfl)
          | (apply VVal.indexP; rfl; rfl; rfl; omega; omega; rfl)
          | (apply VVal.indexE; rfl; rfl; rfl; omega; omega; rfl)
          | (apply VVal.load; rfl; rfl)
          | (apply VVal.pick_true; rfl; rfl)
          | (apply VVal.pick_false; rfl; rfl)
          | (apply VVal.lenF; rfl; rfl)
          | (apply VVal.lenNil; rfl; rfl)
          | (apply VVal.lenV; rfl; rfl; rfl)
          | (apply VVal.fieldB; rfl; rfl; rfl)
          | (apply VVal.fieldF; rfl; rfl)
          | (apply VVal.box; rfl; trivial)
          | (apply VVal.alloc; rfl)
          | (apply VVal.storeB; rfl; rfl; rfl; trivial; rfl; rfl; exact lt_dec rfl; exact le_dec rfl)
          | (apply VVal.build; rfl; rfl; rfl; rfl; rfl)
          | (apply VVal.buildSlice; rfl; rfl; rfl; decide; rfl; rfl; rfl)
          | (apply VVal.not; rfl)
          | (apply VVal.extract; rfl; rfl)
          | (apply VVal.convI; rfl; rfl; rfl; omega)
          | (apply VVal.convInt; rfl; rfl; rfl)
          | (apply VVal.append1; rfl; rfl; rfl; rfl; rfl; rfl; rfl; rfl; (intro _ h; cases h); rfl; rfl; rfl; decide; decide; (first | omega | (simp only [List.length_take, List.length_drop, List.length_append, List.length_singleton, List.length_cons, List.length_nil] <;> omega)))
          | (apply VVal.appendL0; rfl; rfl; rfl; (first | rfl | omega | (simp only [List.length_take, List.length_drop, List.length_append, List.length_singleton, List.length_cons, List.length_nil] <;> omega)); rfl; rfl; (intro _ h; cases h); rfl; rfl; rfl; decide; decide; (first | omega | (simp only [List.length_take, List.length_drop, List.length_append, List.length_singleton, List.length_cons, List.length_nil] <;> omega)))
          | (apply VVal.appendL; rfl; rfl; rfl; (first | rfl | omega | (simp only [List.length_take, List.length_drop, List.length_append, List.length_singleton, List.length_cons, List.length_nil])); (first | rfl | omega | (simp only [List.length_take, List.length_drop, List.length_append, List.length_singleton, List.length_cons, List.length_nil] <;> omega)); rfl; rfl; (intro _ h; cases h); rfl; rfl; rfl; decide; decide; (first | omega | (simp only [List.length_take, List.length_drop, List.length_append, List.length_singleton, List.length_cons, List.length_nil] <;> omega)))
          | (apply VVal.shlOne; rfl; rfl; omega)
          | (apply VVal.shlOneU; rfl; rfl; omega)
          | (apply VVal.shrN; rfl; rfl; (simp only [IntKind.bits]; omega))
          | (apply VVal.sliceTo; rfl; rfl; rfl; rfl; rfl; rfl; omega)
          | (apply VVal.sliceFrom; rfl; rfl; rfl; rfl; rfl; rfl; omega)
          | (apply VVal.shr; rfl; rfl; omega)
          | (apply VVal.shl; rfl; rfl; omega)
          | (apply VWp.condSeq_true; rfl)
          | (apply VWp.condSeq_false; rfl)
          | (apply VWp.condSeq_dec; rfl)
          | (apply VWp.condSeq; rfl)
          | (apply VWp.cond_true; rfl)
          | (apply VWp.cond_false; rfl)
          | (apply VWp.cond_dec; rfl)
          | (apply VWp.cond; rfl)
          | (intro _; try (exfalso; omega)))
        · refine Done.ret rfl (.refl _) (by first | exact trivial | exact ⟨trivial, trivial, trivial⟩ | exact ⟨trivial, trivial, trivial, trivial⟩) HCov.nil (Nat.zero_le _) (Nat.le_refl _) ⟨?_, rfl, rfl⟩
          rfl
        · refine QLoop.normal ⟨k + 1, ⟨by omega, fun i hi => ?_⟩, by omega, ⟨by omega, ?_, ?_⟩⟩
          · rcases Nat.lt_or_ge i k with h' | h'
            · exact hr i h'
            · rw [show i = k by omega]; omega
          · repeat (first | exact LCov.nil | refine LCov.same trivial rfl ?_ | refine LCov.same (lt_dec rfl) rfl ?_ | refine LCov.cons trivial rfl (.of_eq (lst_len (by simp <;> omega))) ?_)
          · repeat (first | exact HCov.nil | (refine HCov.cons (lt_dec rfl) ?_ rfl ?_ ?_; (first | exact trivial | exact PVs.under_pure _ _ | (simp [HB.under, PVs.under, PV.under])); (first | exact HLe.refl _ | exact HLe.vec (FLes.refl _) (by simp))))
      have hk' : k = p.sets.length := by omega
      subst hk'
      have hck := check_spec p (by omega) (fun i hi => by have := hr i hi; omega)
      have hlc := lcheck_spec p (by omega) (fun i hi => by have := hr i hi; omega)
      generalize checkM p = c at *
      by_cases hc0 : c = 0
      · subst hc0
        repeat' (first
          | apply VWp.assoc
          | apply VWp.rseq
          | apply VWp.rseqD
          | apply VWp.region
          | apply VWp.regionD
          | apply VWp.skipSeq
          | apply VWp.retSeq
          | apply VWp.exitSeq
          | apply VWp.blockSeq
          | apply QSeq.normal
          | apply QSeq.ret
          | apply QSeq.exit
          | apply QBlk.normal
          | apply QBlk.ret
          | apply QBlk.exit
          | (apply QBlk.out; decide)
          | apply QLoop.ret
          | apply QLoop.exit
          | apply VWp.ret
          | apply VWp.skip
          | apply VWp.exit
          | apply VWp.blockQ
          | apply VOps.nil
          | apply VOpsD.nil
          | apply VOps.one
          | (apply VOpsD.bar; decide +kernel)
          | apply VOpsD.quiet
          | (apply VOps.take; rfl; rfl)
          | (apply VOpsD.quietTake; rfl; rfl)
          | (apply VOps.drop; rfl; rfl; rfl)
          | (apply VOpsD.drop; rfl; rfl; rfl)
          | (apply VOps.guard; rfl; rfl)
          | (apply VOpsD.guard; rfl; rfl)
          | (apply VOps.dropU; rfl; rfl)
          | (apply VOpsD.dropU; rfl; rfl)
          | (apply VOps.guardB; rfl; rfl)
          | (apply VOpsD.guardB; rfl; rfl)
          | (apply VVal.fn; rfl; rfl; exact hck; intro _; rfl)
          | (apply VVal.fn; rfl; rfl; exact hlc; intro _; rfl)
          | (apply VVal.assign; rfl)
          | (apply VVal.move; rfl)
          | (apply VVal.add64; rfl; rfl; omega)
          | (apply VVal.sub64; rfl; rfl; omega)
          | (apply VVal.and1; rfl; rfl; omega)
          | (apply VVal.and1U; rfl; rfl; omega)
          | (apply VVal.and1B; rfl; rfl; omega)
          | (apply VVal.andU; rfl; rfl; omega; omega)
          | (apply VVal.orU; rfl; rfl; omega; omega)
          | (apply VVal.andNotU; rfl; rfl; omega; omega)
          | (apply VVal.remI; rfl; rfl; omega; omega)
          | (apply VVal.quoI; rfl; rfl; omega; omega)
          | (apply VVal.int; rfl; rfl; rfl)
          | (apply VVal.indexN; rfl; rfl; rfl; omega; rfl)
          | (apply VVal.indexP; rfl; rfl; rfl; omega; omega; rfl)
          | (apply VVal.indexE; rfl; rfl; rfl; omega; omega; rfl)
          | (apply VVal.load; rfl; rfl)
          | (apply VVal.pick_true; rfl; rfl)
          | (apply VVal.pick_false; rfl; rfl)
          | (apply VVal.lenF; rfl; rfl)
          | (apply VVal.lenNil; rfl; rfl)
          | (apply VVal.lenV; rfl; rfl; rfl)
          | (apply VVal.fieldB; rfl; rfl; rfl)
          | (apply VVal.fieldF; rfl; rfl)
          | (apply VVal.box; rfl; trivial)
          | (apply VVal.alloc; rfl)
          | (apply VVal.storeB; rfl; rfl; rfl; trivial; rfl; rfl; exact lt_dec rfl; exact le_dec rfl)
          | (apply VVal.build; rfl; rfl; rfl; rfl; rfl)
          | (apply VVal.buildSlice; rfl; rfl; rfl; decide; rfl; rfl; rfl)
          | (apply VVal.not; rfl)
          | (apply VVal.extract; rfl; rfl)
          | (apply VVal.convI; rfl; rfl; rfl; omega)
          | (apply VVal.convInt; rfl; rfl; rfl)
          | (apply VVal.append1; rfl; rfl; rfl; rfl; rfl; rfl; rfl; rfl; (intro _ h; cases h); rfl; rfl; rfl; decide; decide; (first | omega | (simp only [List.length_take, List.length_drop, List.length_append, List.length_singleton, List.length_cons, List.length_nil] <;> omega)))
          | (apply VVal.appendL0; rfl; rfl; rfl; (first | rfl | omega | (simp only [List.length_take, List.length_drop, List.length_append, List.length_singleton, List.length_cons, List.length_nil] <;> omega)); rfl; rfl; (intro _ h; cases h); rfl; rfl; rfl; decide; decide; (first | omega | (simp only [List.length_take, List.length_drop, List.length_append, List.length_singleton, List.length_cons, List.length_nil] <;> omega)))
          | (apply VVal.appendL; rfl; rfl; rfl; (first | rfl | omega | (simp only [List.length_take, List.length_drop, List.length_append, List.length_singleton, List.length_cons, List.length_nil])); (first | rfl | omega | (simp only [List.length_take, List.length_drop, List.length_append, List.length_singleton, List.length_cons, List.length_nil] <;> omega)); rfl; rfl; (intro _ h; cases h); rfl; rfl; rfl; decide; decide; (first | omega | (simp only [List.length_take, List.length_drop, List.length_append, List.length_singleton, List.length_cons, List.length_nil] <;> omega)))
          | (apply VVal.shlOne; rfl; rfl; omega)
          | (apply VVal.shlOneU; rfl; rfl; omega)
          | (apply VVal.shrN; rfl; rfl; (simp only [IntKind.bits]; omega))
          | (apply VVal.sliceTo; rfl; rfl; rfl; rfl; rfl; rfl; omega)
          | (apply VVal.sliceFrom; rfl; rfl; rfl; rfl; rfl; rfl; omega)
          | (apply VVal.shr; rfl; rfl; omega)
          | (apply VVal.shl; rfl; rfl; omega)
          | (apply VWp.condSeq_true; rfl)
          | (apply VWp.condSeq_false; rfl)
          | (apply VWp.condSeq_dec; rfl)
          | (apply VWp.condSeq; rfl)
          | (apply VWp.cond_true; rfl)
          | (apply VWp.cond_false; rfl)
          | (apply VWp.cond_dec; rfl)
          | (apply VWp.cond; rfl)
          | (intro _; try (exfalso; omega)))
        all_goals (refine Done.ret rfl (.refl _) (by first | exact trivial | exact ⟨trivial, trivial, trivial⟩ | exact ⟨trivial, trivial, trivial, trivial⟩) HCov.nil (Nat.zero_le _) (Nat.le_refl _) ⟨?_, rfl, rfl⟩; rfl)
      · have b1 := bad_missing hck hc0 nilF
        have b2 := bad_cost hck hc0 nilF
        have b3 := bad_irredundant hck hc0 nilF
        have b4 := bad_packing hck hc0 nilF
        have b5 := bad_greedy hck hc0
        have b6 := bad_essential hck hc0
        have b7 := bad_solve hck hc0
        have b8 := bad_all hck hc0
        have b9 := bad_verify hck hc0
        repeat' (first
          | apply VWp.assoc
          | apply VWp.rseq
          | apply VWp.rseqD
          | apply VWp.region
          | apply VWp.regionD
          | apply VWp.skipSeq
          | apply VWp.retSeq
          | apply VWp.exitSeq
          | apply VWp.blockSeq
          | apply QSeq.normal
          | apply QSeq.ret
          | apply QSeq.exit
          | apply QBlk.normal
          | apply QBlk.ret
          | apply QBlk.exit
          | (apply QBlk.out; decide)
          | apply QLoop.ret
          | apply QLoop.exit
          | apply VWp.ret
          | apply VWp.skip
          | apply VWp.exit
          | apply VWp.blockQ
          | apply VOps.nil
          | apply VOpsD.nil
          | apply VOps.one
          | (apply VOpsD.bar; decide +kernel)
          | apply VOpsD.quiet
          | (apply VOps.take; rfl; rfl)
          | (apply VOpsD.quietTake; rfl; rfl)
          | (apply VOps.drop; rfl; rfl; rfl)
          | (apply VOpsD.drop; rfl; rfl; rfl)
          | (apply VOps.guard; rfl; rfl)
          | (apply VOpsD.guard; rfl; rfl)
          | (apply VOps.dropU; rfl; rfl)
          | (apply VOpsD.dropU; rfl; rfl)
          | (apply VOps.guardB; rfl; rfl)
          | (apply VOpsD.guardB; rfl; rfl)
          | (apply VVal.fn; rfl; rfl; exact hck; intro _; rfl)
          | (apply VVal.fn; rfl; rfl; exact hlc; intro _; rfl)
          | (apply VVal.fn; rfl; rfl; exact b1; intro _; rfl)
          | (apply VVal.fn; rfl; rfl; exact b2; intro _; rfl)
          | (apply VVal.fn; rfl; rfl; exact b3; intro _; rfl)
          | (apply VVal.fn; rfl; rfl; exact b4; intro _; rfl)
          | (apply VVal.fn; rfl; rfl; exact b5; intro _; rfl)
          | (apply VVal.fn; rfl; rfl; exact b6; intro _; rfl)
          | (apply VVal.fn; rfl; rfl; exact b7; intro _; rfl)
          | (apply VVal.fn; rfl; rfl; exact b8; intro _; rfl)
          | (apply VVal.fn; rfl; rfl; exact b9; intro _; rfl)
          | (apply VVal.assign; rfl)
          | (apply VVal.move; rfl)
          | (apply VVal.add64; rfl; rfl; omega)
          | (apply VVal.sub64; rfl; rfl; omega)
          | (apply VVal.and1; rfl; rfl; omega)
          | (apply VVal.and1U; rfl; rfl; omega)
          | (apply VVal.and1B; rfl; rfl; omega)
          | (apply VVal.andU; rfl; rfl; omega; omega)
          | (apply VVal.orU; rfl; rfl; omega; omega)
          | (apply VVal.andNotU; rfl; rfl; omega; omega)
          | (apply VVal.remI; rfl; rfl; omega; omega)
          | (apply VVal.quoI; rfl; rfl; omega; omega)
          | (apply VVal.int; rfl; rfl; rfl)
          | (apply VVal.indexN; rfl; rfl; rfl; omega; rfl)
          | (apply VVal.indexP; rfl; rfl; rfl; omega; omega; rfl)
          | (apply VVal.indexE; rfl; rfl; rfl; omega; omega; rfl)
          | (apply VVal.load; rfl; rfl)
          | (apply VVal.pick_true; rfl; rfl)
          | (apply VVal.pick_false; rfl; rfl)
          | (apply VVal.lenF; rfl; rfl)
          | (apply VVal.lenNil; rfl; rfl)
          | (apply VVal.lenV; rfl; rfl; rfl)
          | (apply VVal.fieldB; rfl; rfl; rfl)
          | (apply VVal.fieldF; rfl; rfl)
          | (apply VVal.box; rfl; trivial)
          | (apply VVal.alloc; rfl)
          | (apply VVal.storeB; rfl; rfl; rfl; trivial; rfl; rfl; exact lt_dec rfl; exact le_dec rfl)
          | (apply VVal.build; rfl; rfl; rfl; rfl; rfl)
          | (apply VVal.buildSlice; rfl; rfl; rfl; decide; rfl; rfl; rfl)
          | (apply VVal.not; rfl)
          | (apply VVal.extract; rfl; rfl)
          | (apply VVal.convI; rfl; rfl; rfl; omega)
          | (apply VVal.convInt; rfl; rfl; rfl)
          | (apply VVal.append1; rfl; rfl; rfl; rfl; rfl; rfl; rfl; rfl; (intro _ h; cases h); rfl; rfl; rfl; decide; decide; (first | omega | (simp only [List.length_take, List.length_drop, List.length_append, List.length_singleton, List.length_cons, List.length_nil] <;> omega)))
          | (apply VVal.appendL0; rfl; rfl; rfl; (first | rfl | omega | (simp only [List.length_take, List.length_drop, List.length_append, List.length_singleton, List.length_cons, List.length_nil] <;> omega)); rfl; rfl; (intro _ h; cases h); rfl; rfl; rfl; decide; decide; (first | omega | (simp only [List.length_take, List.length_drop, List.length_append, List.length_singleton, List.length_cons, List.length_nil] <;> omega)))
          | (apply VVal.appendL; rfl; rfl; rfl; (first | rfl | omega | (simp only [List.length_take, List.length_drop, List.length_append, List.length_singleton, List.length_cons, List.length_nil])); (first | rfl | omega | (simp only [List.length_take, List.length_drop, List.length_append, List.length_singleton, List.length_cons, List.length_nil] <;> omega)); rfl; rfl; (intro _ h; cases h); rfl; rfl; rfl; decide; decide; (first | omega | (simp only [List.length_take, List.length_drop, List.length_append, List.length_singleton, List.length_cons, List.length_nil] <;> omega)))
          | (apply VVal.shlOne; rfl; rfl; omega)
          | (apply VVal.shlOneU; rfl; rfl; omega)
          | (apply VVal.shrN; rfl; rfl; (simp only [IntKind.bits]; omega))
          | (apply VVal.sliceTo; rfl; rfl; rfl; rfl; rfl; rfl; omega)
          | (apply VVal.sliceFrom; rfl; rfl; rfl; rfl; rfl; rfl; omega)
          | (apply VVal.shr; rfl; rfl; omega)
          | (apply VVal.shl; rfl; rfl; omega)
          | (apply VWp.condSeq_true; rfl)
          | (apply VWp.condSeq_false; rfl)
          | (apply VWp.condSeq_dec; rfl)
          | (apply VWp.condSeq; rfl)
          | (apply VWp.cond_true; rfl)
          | (apply VWp.cond_false; rfl)
          | (apply VWp.cond_dec; rfl)
          | (apply VWp.cond; rfl)
          | (intro _; try (exfalso; omega)))
        all_goals (refine Done.ret rfl (.refl _) (by first | exact trivial | exact ⟨trivial, trivial, trivial⟩ | exact ⟨trivial, trivial, trivial, trivial⟩) HCov.nil (Nat.zero_le _) (Nat.le_refl _) ⟨?_, rfl, rfl⟩; exact PV.bool_eq (decide_eq_true rfl)))

set_option maxRecDepth 100000 in
theorem has_problem {j : Nat} {fs : List FV} (h : HasT Tryd.prog (j + 7) 29 fs) : ∃ p : CProb, fs = Enc.enc p := by
  obtain ⟨parts, rfl, hp⟩ := HasT.struct h Tryd.underlying29
  obtain ⟨a, b, rfl, ha, hb⟩ := all2_two hp
  obtain ⟨n, rfl, hn⟩ := HasT.int ha Tryd.underlying3
  obtain ⟨L, rfl, hl, hL⟩ := HasT.slice hb Tryd.underlying27
  obtain ⟨r, hr⟩ := map_choose (R := fun (a : CSet) fs => fs = Enc.enc a ∧ True) (l := L) (fun x hx => by
    obtain ⟨ps, rfl, hq⟩ := HasT.struct (hL x hx) Tryd.underlying35
    obtain ⟨c, d, rfl, hc, hd⟩ := all2_two hq
    obtain ⟨M, rfl, hm, hM⟩ := HasT.slice hc Tryd.underlying25
    obtain ⟨n2, rfl, h2⟩ := HasT.int hd Tryd.underlying3
    obtain ⟨s, hs⟩ := map_choose (R := fun (a : Int) fs => fs = Enc.enc a ∧ True) (l := M) (fun x hx => by
      obtain ⟨n, hn, _⟩ := HasT.int (hM x hx) Tryd.underlying3
      exact ⟨n, hn, trivial⟩)
    obtain ⟨e1, e2, _⟩ := flat_cells hs
    refine ⟨⟨s, n2⟩, ?_, trivial⟩
    rw [e1, e2]; rfl)
  obtain ⟨e1, e2, _⟩ := flat_cells hr
  refine ⟨⟨n, r⟩, ?_⟩
  rw [e1, e2]; rfl
end Go.Proofs.YtmfnchgkffhpfaaDoor
