/-
  The statements on the values of scales, as walks. Conditions: in each statement.
-/
import Derived.Test.YtemfebbakfhknaaDoorScaD
set_option linter.unusedSimpArgs false
set_option linter.unusedVariables false
namespace Go.Proofs.YtemfebbakfhknaaDoor
open Go Go.Am Go.Vm Go.Sca
attribute [local irreducible] VVal VOps VOpsD VWp VCalls VFun VFunV QSeq QBlk QLoop Vm.Done DoneV DoneI
attribute [local irreducible] hvl mea me rnd rk lo fstN

set_option maxRecDepth 100000 in
set_option maxHeartbeats 1000000 in
theorem values_spec (s : Scl) (n : Int) : VFun env 3 [.agg (Enc.enc s), .int .i64 n] (.p (.bool true)) := by
  have hk := known_spec
  have hv := sValue_spec s n
  have hc := lcheck_spec s
  have hw := lwithin_spec n
  by_cases h1 : sOk s
  · rw [show chk s = 0 from if_pos h1] at hc
    by_cases h2 : wOk n
    · rw [decide_eq_true h2] at hw
      have hm := most_spec s n 10000000 h1 h2
      have hb := mea_bd h1 n
      by_cases h3 : mea s n ≤ 10000000
      · rw [show valR s n = (mea s n, 0) by unfold valR; rw [if_pos ⟨h1, h2⟩, if_pos h3]] at hv
        have hi := is_spec s n (mea s n) h1 h2
        rw [decide_eq_true (show mea s n = mea s n ∧ mea s n ≤ 10000000 from ⟨rfl, h3⟩)] at hi
        rw [decide_eq_true (show mea s n ≤ min 10000000 10000000 by omega)] at hm
        refine VFun.enter (env_none (by decide)) Tryd.func3 rfl (by kernel_rfl) (by simp [Tryd.ntmps3]) ?_
        repeat' (first
          | apply VWp.assoc
          | apply VWp.rseq
          | apply VWp.rseqD
          | apply VWp.region
          | apply VWp.regionD
          | apply VWp.skipSeq
          | apply VWp.retSeq
          | apply VWp.exitSeq
          | apply VWp.blockSeq
          | apply QSeq.normal
          | apply QSeq.ret
          | apply QSeq.exit
          | (apply DoneI.ret; rfl)
          | (apply DoneI.normal; rfl)
          | apply QBlk.normal
          | apply QBlk.ret
          | apply QBlk.exit
          | (apply QBlk.out; decide)
          | apply QLoop.ret
          | apply QLoop.exit
          | apply VWp.ret
          | apply VWp.skip
          | apply VWp.exit
          | apply VWp.blockQ
          | apply VOps.nil
          | apply VOpsD.nil
          | apply VOps.one
          | (apply VOpsD.bar; decide +kernel)
          | apply VOpsD.quiet
          | (apply VOps.take; rfl; rfl)
          | (apply VOpsD.quietTake; rfl; rfl)
          | (apply VOps.drop; rfl; rfl; rfl)
          | (apply VOpsD.drop; rfl; rfl; rfl)
          | (apply VOps.guard; rfl; rfl)
          | (apply VOpsD.guard; rfl; rfl)
          | (apply VOps.dropU; rfl; rfl)
          | (apply VOpsD.dropU; rfl; rfl)
          | (apply VOps.guardB; rfl; rfl)
          | (apply VOpsD.guardB; rfl; rfl)
          | (apply VVal.fn; rfl; rfl; exact hk; intro _; rfl)
          | (apply VVal.fn; rfl; rfl; exact hv; intro _; rfl)
          | (apply VVal.fn; rfl; rfl; exact hc; intro _; rfl)
          | (apply VVal.fn; rfl; rfl; exact hw; intro _; rfl)
          | (apply VVal.fn; rfl; rfl; exact hm; intro _; rfl)
          | (apply VVal.fn; rfl; rfl; exact hi; intro _; rfl)
          | (apply VVal.assign; rfl)
          | (apply VVal.move; rfl)
          | (apply VVal.add64; rfl; rfl; omega)
          | (apply VVal.sub64; rfl; rfl; omega)
          | (apply VVal.mul64; rfl; rfl; omega)
          | (apply VVal.subBN (c := 48); rfl; rfl; omega)
          | (apply VVal.subB; rfl; rfl; omega)
          | (apply VVal.addB; rfl; rfl; omega)
          | (apply VVal.addUN; rfl; rfl; omega)
          | (apply VVal.mulUN; rfl; rfl; omega)
          | (apply VVal.subUN; rfl; rfl; omega)
          | (apply VVal.quoUN; rfl; rfl; omega)
          | (apply VVal.remUN; rfl; rfl; omega)
          | (apply VVal.quoUT; rfl; rfl; omega)
          | (apply VVal.remUT; rfl; rfl; omega)
          | (apply VVal.mulUN (a := 10); rfl; rfl; omega)
          | (apply VVal.and1; rfl; rfl; omega)
          | (apply VVal.and1U; rfl; rfl; omega)
          | (apply VVal.and1B; rfl; rfl; omega)
          | (apply VVal.andI; rfl; rfl; omega)
          | (apply VVal.andU; rfl; rfl; omega; omega)
          | (apply VVal.orU; rfl; rfl; omega; omega)
          | (apply VVal.andNotU; rfl; rfl; omega; omega)
          | (apply VVal.remI; rfl; rfl; omega; omega)
          | (apply VVal.quoI; rfl; rfl; omega; omega)
          | (apply VVal.int; rfl; rfl; rfl)
          | (apply VVal.indexN; rfl; rfl; rfl; omega; rfl)
          | (apply VVal.indexP; rfl; rfl; rfl; omega; omega; rfl)
          | (apply VVal.indexE; rfl; rfl; rfl; omega; omega; rfl)
          | (apply VVal.loadVL; rfl; rfl; omega; rfl)
          | (apply VVal.load; rfl; rfl)
          | (apply VVal.pick_true; rfl; rfl)
          | (apply VVal.pick_false; rfl; rfl)
          | (apply VVal.lenF; rfl; rfl)
          | (apply VVal.lenNil; rfl; rfl)
          | (apply VVal.lenV; rfl; rfl; rfl)
          | (apply VVal.fieldB; rfl; rfl; rfl)
          | (apply VVal.fieldF; rfl; rfl)
          | (apply VVal.box; rfl; trivial)
          | (apply VVal.alloc; rfl)
          | (apply VVal.storeB; rfl; rfl; rfl; trivial; rfl; rfl; exact lt_dec rfl; exact le_dec rfl)
          | (apply VVal.build; rfl; rfl; rfl; rfl; rfl)
          | (apply VVal.buildSlice; rfl; rfl; rfl; decide; rfl; rfl; rfl)
          | (apply VVal.lenSt; rfl; rfl)
          | (apply VVal.eqS; rfl; rfl)
          | (apply VVal.neS; rfl; rfl)
          | (apply VVal.indexStN; rfl; rfl; rfl; omega)
          | (apply VVal.indexSt; rfl; rfl; rfl; omega; omega)
          | (apply VVal.sliceSI; rfl; rfl; rfl; rfl; omega)
          | (apply VVal.sliceSto; rfl; rfl; rfl; omega)
          | (apply VVal.sliceSfrom; rfl; rfl; rfl; omega)
          | (apply VVal.convS; rfl; rfl; rfl)
          | (apply VVal.toBytes; rfl; rfl; rfl; rfl; rfl; rfl; omega)
          | (apply VVal.addS; rfl; rfl; (first | omega | (simp only [List.length_take, List.length_drop, List.length_append, List.length_singleton, List.length_cons, List.length_nil] <;> omega)))
          | (apply VVal.indexVN; rfl; rfl; rfl; rfl; omega)
          | (apply VVal.indexVE; rfl; rfl; rfl; rfl; omega; omega)
          | (apply VVal.neg; rfl; omega)
          | (apply VVal.neB; rfl; rfl; rfl)
          | (apply VVal.eqB; rfl; rfl; rfl)
          | (apply VVal.maxI; rfl; rfl)
          | (apply VVal.minI; rfl; rfl)
          | (apply VVal.not; rfl)
          | (apply VVal.extract; rfl; rfl)
          | (apply VVal.convI; rfl; rfl; rfl; rfl; omega)
          | (apply VVal.convU; rfl; rfl; rfl; rfl; omega)
          | (apply VVal.convB; rfl; rfl; rfl; rfl; omega)
          | (apply VVal.convInt; rfl; rfl; rfl; rfl)
          | (apply VVal.append1; rfl; rfl; rfl; rfl; rfl; rfl; rfl; rfl; (intro _ h; cases h); rfl; rfl; rfl; decide; decide; (first | omega | (simp only [List.length_take, List.length_drop, List.length_append, List.length_singleton, List.length_cons, List.length_nil] <;> omega)))
          | (apply VVal.appendL0; rfl; rfl; rfl; (first | rfl | omega | (simp only [List.length_take, List.length_drop, List.length_append, List.length_singleton, List.length_cons, List.length_nil] <;> omega)); rfl; rfl; (intro _ h; cases h); rfl; rfl; rfl; decide; decide; (first | omega | (simp only [List.length_take, List.length_drop, List.length_append, List.length_singleton, List.length_cons, List.length_nil] <;> omega)))
          | (apply VVal.appendL; rfl; rfl; rfl; (first | rfl | omega | (simp only [List.length_take, List.length_drop, List.length_append, List.length_singleton, List.length_cons, List.length_nil])); (first | rfl | omega | (simp only [List.length_take, List.length_drop, List.length_append, List.length_singleton, List.length_cons, List.length_nil] <;> omega)); rfl; rfl; (intro _ h; cases h); rfl; rfl; rfl; decide; decide; (first | omega | (simp only [List.length_take, List.length_drop, List.length_append, List.length_singleton, List.length_cons, List.length_nil] <;> omega)))
          | (apply VVal.shlOne; rfl; rfl; omega)
          | (apply VVal.shlOneU; rfl; rfl; omega)
          | (apply VVal.shrN; rfl; rfl; (simp only [IntKind.bits]; omega))
          | (apply VVal.sliceTo; rfl; rfl; rfl; rfl; rfl; rfl; omega)
          | (apply VVal.sliceFrom; rfl; rfl; rfl; rfl; rfl; rfl; omega)
          | (apply VVal.sliceToI; rfl; rfl; rfl; rfl; rfl; rfl; omega)
          | (apply VVal.shr; rfl; rfl; omega)
          | (apply VVal.shl; rfl; rfl; omega)
          | (apply VWp.condSeq_true; rfl)
          | (apply VWp.condSeq_false; rfl)
          | (apply VWp.condSeq_dec; rfl)
          | (apply VWp.condSeq; rfl)
          | (apply VWp.cond_true; rfl)
          | (apply VWp.cond_false; rfl)
          | (apply VWp.cond_dec; rfl)
          | (apply VWp.cond; rfl)
          | (intro _; try (exfalso; omega)))
        all_goals first | (exfalso; omega) | (refine Done.ret rfl (.refl _) (by first | exact trivial | exact ⟨trivial, trivial, trivial⟩ | exact ⟨trivial, trivial, trivial, trivial⟩) HCov.nil (Nat.zero_le _) (Nat.le_refl _) ⟨?_, rfl, rfl⟩; try rfl)
      · rw [show valR s n = (0, 4) by unfold valR; rw [if_pos ⟨h1, h2⟩, if_neg h3]] at hv
        rw [decide_eq_false (show ¬ mea s n ≤ min 10000000 10000000 by omega)] at hm
        refine VFun.enter (env_none (by decide)) Tryd.func3 rfl (by kernel_rfl) (by simp [Tryd.ntmps3]) ?_
        repeat' (first
          | apply VWp.assoc
          | apply VWp.rseq
          | apply VWp.rseqD
          | apply VWp.region
          | apply VWp.regionD
          | apply VWp.skipSeq
          | apply VWp.retSeq
          | apply VWp.exitSeq
          | apply VWp.blockSeq
          | apply QSeq.normal
          | apply QSeq.ret
          | apply QSeq.exit
          | (apply DoneI.ret; rfl)
          | (apply DoneI.normal; rfl)
          | apply QBlk.normal
          | apply QBlk.ret
          | apply QBlk.exit
          | (apply QBlk.out; decide)
          | apply QLoop.ret
          | apply QLoop.exit
          | apply VWp.ret
          | apply VWp.skip
          | apply VWp.exit
          | apply VWp.blockQ
          | apply VOps.nil
          | apply VOpsD.nil
          | apply VOps.one
          | (apply VOpsD.bar; decide +kernel)
          | apply VOpsD.quiet
          | (apply VOps.take; rfl; rfl)
          | (apply VOpsD.quietTake; rfl; rfl)
          | (apply VOps.drop; rfl; rfl; rfl)
          | (apply VOpsD.drop; rfl; rfl; rfl)
          | (apply VOps.guard; rfl; rfl)
          | (apply VOpsD.guard; rfl; rfl)
          | (apply VOps.dropU; rfl; rfl)
          | (apply VOpsD.dropU; rfl; rfl)
          | (apply VOps.guardB; rfl; rfl)
          | (apply VOpsD.guardB; rfl; rfl)
          | (apply VVal.fn; rfl; rfl; exact hk; intro _; rfl)
          | (apply VVal.fn; rfl; rfl; exact hv; intro _; rfl)
          | (apply VVal.fn; rfl; rfl; exact hc; intro _; rfl)
          | (apply VVal.fn; rfl; rfl; exact hw; intro _; rfl)
          | (apply VVal.fn; rfl; rfl; exact hm; intro _; rfl)
          | (apply VVal.assign; rfl)
          | (apply VVal.move; rfl)
          | (apply VVal.add64; rfl; rfl; omega)
          | (apply VVal.sub64; rfl; rfl; omega)
          | (apply VVal.mul64; rfl; rfl; omega)
          | (apply VVal.subBN (c := 48); rfl; rfl; omega)
          | (apply VVal.subB; rfl; rfl; omega)
          | (apply VVal.addB; rfl; rfl; omega)
          | (apply VVal.addUN; rfl; rfl; omega)
          | (apply VVal.mulUN; rfl; rfl; omega)
          | (apply VVal.subUN; rfl; rfl; omega)
          | (apply VVal.quoUN; rfl; rfl; omega)
          | (apply VVal.remUN; rfl; rfl; omega)
          | (apply VVal.quoUT; rfl; rfl; omega)
          | (apply VVal.remUT; rfl; rfl; omega)
          | (apply VVal.mulUN (a := 10); rfl; rfl; omega)
          | (apply VVal.and1; rfl; rfl; omega)
          | (apply VVal.and1U; rfl; rfl; omega)
          | (apply VVal.and1B; rfl; rfl; omega)
          | (apply VVal.andI; rfl; rfl; omega)
          | (apply VVal.andU; rfl; rfl; omega; omega)
          | (apply VVal.orU; rfl; rfl; omega; omega)
          | (apply VVal.andNotU; rfl; rfl; omega; omega)
          | (apply VVal.remI; rfl; rfl; omega; omega)
          | (apply VVal.quoI; rfl; rfl; omega; omega)
          | (apply VVal.int; rfl; rfl; rfl)
          | (apply VVal.indexN; rfl; rfl; rfl; omega; rfl)
          | (apply VVal.indexP; rfl; rfl; rfl; omega; omega; rfl)
          | (apply VVal.indexE; rfl; rfl; rfl; omega; omega; rfl)
          | (apply VVal.loadVL; rfl; rfl; omega; rfl)
          | (apply VVal.load; rfl; rfl)
          | (apply VVal.pick_true; rfl; rfl)
          | (apply VVal.pick_false; rfl; rfl)
          | (apply VVal.lenF; rfl; rfl)
          | (apply VVal.lenNil; rfl; rfl)
          | (apply VVal.lenV; rfl; rfl; rfl)
          | (apply VVal.fieldB; rfl; rfl; rfl)
          | (apply VVal.fieldF; rfl; rfl)
          | (apply VVal.box; rfl; trivial)
          | (apply VVal.alloc; rfl)
          | (apply VVal.storeB; rfl; rfl; rfl; trivial; rfl; rfl; exact lt_dec rfl; exact le_dec rfl)
          | (apply VVal.build; rfl; rfl; rfl; rfl; rfl)
          | (apply VVal.buildSlice; rfl; rfl; rfl; decide; rfl; rfl; rfl)
          | (apply VVal.lenSt; rfl; rfl)
          | (apply VVal.eqS; rfl; rfl)
          | (apply VVal.neS; rfl; rfl)
          | (apply VVal.indexStN; rfl; rfl; rfl; omega)
          | (apply VVal.indexSt; rfl; rfl; rfl; omega; omega)
          | (apply VVal.sliceSI; rfl; rfl; rfl; rfl; omega)
          | (apply VVal.sliceSto; rfl; rfl; rfl; omega)
          | (apply VVal.sliceSfrom; rfl; rfl; rfl; omega)
          | (apply VVal.convS; rfl; rfl; rfl)
          | (apply VVal.toBytes; rfl; rfl; rfl; rfl; rfl; rfl; omega)
          | (apply VVal.addS; rfl; rfl; (first | omega | (simp only [List.length_take, List.length_drop, List.length_append, List.length_singleton, List.length_cons, List.length_nil] <;> omega)))
          | (apply VVal.indexVN; rfl; rfl; rfl; rfl; omega)
          | (apply VVal.indexVE; rfl; rfl; rfl; rfl; omega; omega)
          | (apply VVal.neg; rfl; omega)
          | (apply VVal.neB; rfl; rfl; rfl)
          | (apply VVal.eqB; rfl; rfl; rfl)
          | (apply VVal.maxI; rfl; rfl)
          | (apply VVal.minI; rfl; rfl)
          | (apply VVal.not; rfl)
          | (apply VVal.extract; rfl; rfl)
          | (apply VVal.convI; rfl; rfl; rfl; rfl; omega)
          | (apply VVal.convU; rfl; rfl; rfl; rfl; omega)
          | (apply VVal.convB; rfl; rfl; rfl; rfl; omega)
          | (apply VVal.convInt; rfl; rfl; rfl; rfl)
          | (apply VVal.append1; rfl; rfl; rfl; rfl; rfl; rfl; rfl; rfl; (intro _ h; cases h); rfl; rfl; rfl; decide; decide; (first | omega | (simp only [List.length_take, List.length_drop, List.length_append, List.length_singleton, List.length_cons, List.length_nil] <;> omega)))
          | (apply VVal.appendL0; rfl; rfl; rfl; (first | rfl | omega | (simp only [List.length_take, List.length_drop, List.length_append, List.length_singleton, List.length_cons, List.length_nil] <;> omega)); rfl; rfl; (intro _ h; cases h); rfl; rfl; rfl; decide; decide; (first | omega | (simp only [List.length_take, List.length_drop, List.length_append, List.length_singleton, List.length_cons, List.length_nil] <;> omega)))
          | (apply VVal.appendL; rfl; rfl; rfl; (first | rfl | omega | (simp only [List.length_take, List.length_drop, List.length_append, List.length_singleton, List.length_cons, List.length_nil])); (first | rfl | omega | (simp only [List.length_take, List.length_drop, List.length_append, List.length_singleton, List.length_cons, List.length_nil] <;> omega)); rfl; rfl; (intro _ h; cases h); rfl; rfl; rfl; decide; decide; (first | omega | (simp only [List.length_take, List.length_drop, List.length_append, List.length_singleton, List.length_cons, List.length_nil] <;> omega)))
          | (apply VVal.shlOne; rfl; rfl; omega)
          | (apply VVal.shlOneU; rfl; rfl; omega)
          | (apply VVal.shrN; rfl; rfl; (simp only [IntKind.bits]; omega))
          | (apply VVal.sliceTo; rfl; rfl; rfl; rfl; rfl; rfl; omega)
          | (apply VVal.sliceFrom; rfl; rfl; rfl; rfl; rfl; rfl; omega)
          | (apply VVal.sliceToI; rfl; rfl; rfl; rfl; rfl; rfl; omega)
          | (apply VVal.shr; rfl; rfl; omega)
          | (apply VVal.shl; rfl; rfl; omega)
          | (apply VWp.condSeq_true; rfl)
          | (apply VWp.condSeq_false; rfl)
          | (apply VWp.condSeq_dec; rfl)
          | (apply VWp.condSeq; rfl)
          | (apply VWp.cond_true; rfl)
          | (apply VWp.cond_false; rfl)
          | (apply VWp.cond_dec; rfl)
          | (apply VWp.cond; rfl)
          | (intro _; try (exfalso; omega)))
        all_goals first | (exfalso; omega) | (refine Done.ret rfl (.refl _) (by first | exact trivial | exact ⟨trivial, trivial, trivial⟩ | exact ⟨trivial, trivial, trivial, trivial⟩) HCov.nil (Nat.zero_le _) (Nat.le_refl _) ⟨?_, rfl, rfl⟩; try rfl)
    · rw [decide_eq_false h2] at hw
      rw [show valR s n = (0, 3) by unfold valR; rw [if_neg (fun h => h2 h.2)]] at hv
      refine VFun.enter (env_none (by decide)) Tryd.func3 rfl (by kernel_rfl) (by simp [Tryd.ntmps3]) ?_
      repeat' (first
        | apply VWp.assoc
        | apply VWp.rseq
        | apply VWp.rseqD
        | apply VWp.region
        | apply VWp.regionD
        | apply VWp.skipSeq
        | apply VWp.retSeq
        | apply VWp.exitSeq
        | apply VWp.blockSeq
        | apply QSeq.normal
        | apply QSeq.ret
        | apply QSeq.exit
        | (apply DoneI.ret; rfl)
        | (apply DoneI.normal; rfl)
        | apply QBlk.normal
        | apply QBlk.ret
        | apply QBlk.exit
        | (apply QBlk.out; decide)
        | apply QLoop.ret
        | apply QLoop.exit
        | apply VWp.ret
        | apply VWp.skip
        | apply VWp.exit
        | apply VWp.blockQ
        | apply VOps.nil
        | apply VOpsD.nil
        | apply VOps.one
        | (apply VOpsD.bar; decide +kernel)
        | apply VOpsD.quiet
        | (apply VOps.take; rfl; rfl)
        | (apply VOpsD.quietTake; rfl; rfl)
        | (apply VOps.drop; rfl; rfl; rfl)
        | (apply VOpsD.drop; rfl; rfl; rfl)
        | (apply VOps.guard; rfl; rfl)
        | (apply VOpsD.guard; rfl; rfl)
        | (apply VOps.dropU; rfl; rfl)
        | (apply VOpsD.dropU; rfl; rfl)
        | (apply VOps.guardB; rfl; rfl)
        | (apply VOpsD.guardB; rfl; rfl)
        | (apply VVal.fn; rfl; rfl; exact hk; intro _; rfl)
        | (apply VVal.fn; rfl; rfl; exact hv; intro _; rfl)
        | (apply VVal.fn; rfl; rfl; exact hc; intro _; rfl)
        | (apply VVal.fn; rfl; rfl; exact hw; intro _; rfl)
        | (apply VVal.assign; rfl)
        | (apply VVal.move; rfl)
        | (apply VVal.add64; rfl; rfl; omega)
        | (apply VVal.sub64; rfl; rfl; omega)
        | (apply VVal.mul64; rfl; rfl; omega)
        | (apply VVal.subBN (c := 48); rfl; rfl; omega)
        | (apply VVal.subB; rfl; rfl; omega)
        | (apply VVal.addB; rfl; rfl; omega)
        | (apply VVal.addUN; rfl; rfl; omega)
        | (apply VVal.mulUN; rfl; rfl; omega)
        | (apply VVal.subUN; rfl; rfl; omega)
        | (apply VVal.quoUN; rfl; rfl; omega)
        | (apply VVal.remUN; rfl; rfl; omega)
        | (apply VVal.quoUT; rfl; rfl; omega)
        | (apply VVal.remUT; rfl; rfl; omega)
        | (apply VVal.mulUN (a := 10); rfl; rfl; omega)
        | (apply VVal.and1; rfl; rfl; omega)
        | (apply VVal.and1U; rfl; rfl; omega)
        | (apply VVal.and1B; rfl; rfl; omega)
        | (apply VVal.andI; rfl; rfl; omega)
        | (apply VVal.andU; rfl; rfl; omega; omega)
        | (apply VVal.orU; rfl; rfl; omega; omega)
        | (apply VVal.andNotU; rfl; rfl; omega; omega)
        | (apply VVal.remI; rfl; rfl; omega; omega)
        | (apply VVal.quoI; rfl; rfl; omega; omega)
        | (apply VVal.int; rfl; rfl; rfl)
        | (apply VVal.indexN; rfl; rfl; rfl; omega; rfl)
        | (apply VVal.indexP; rfl; rfl; rfl; omega; omega; rfl)
        | (apply VVal.indexE; rfl; rfl; rfl; omega; omega; rfl)
        | (apply VVal.loadVL; rfl; rfl; omega; rfl)
        | (apply VVal.load; rfl; rfl)
        | (apply VVal.pick_true; rfl; rfl)
        | (apply VVal.pick_false; rfl; rfl)
        | (apply VVal.lenF; rfl; rfl)
        | (apply VVal.lenNil; rfl; rfl)
        | (apply VVal.lenV; rfl; rfl; rfl)
        | (apply VVal.fieldB; rfl; rfl; rfl)
        | (apply VVal.fieldF; rfl; rfl)
        | (apply VVal.box; rfl; trivial)
        | (apply VVal.alloc; rfl)
        | (apply VVal.storeB; rfl; rfl; rfl; trivial; rfl; rfl; exact lt_dec rfl; exact le_dec rfl)
        | (apply VVal.build; rfl; rfl; rfl; rfl; rfl)
        | (apply VVal.buildSlice; rfl; rfl; rfl; decide; rfl; rfl; rfl)
        | (apply VVal.lenSt; rfl; rfl)
        | (apply VVal.eqS; rfl; rfl)
        | (apply VVal.neS; rfl; rfl)
        | (apply VVal.indexStN; rfl; rfl; rfl; omega)
        | (apply VVal.indexSt; rfl; rfl; rfl; omega; omega)
        | (apply VVal.sliceSI; rfl; rfl; rfl; rfl; omega)
        | (apply VVal.sliceSto; rfl; rfl; rfl; omega)
        | (apply VVal.sliceSfrom; rfl; rfl; rfl; omega)
        | (apply VVal.convS; rfl; rfl; rfl)
        | (apply VVal.toBytes; rfl; rfl; rfl; rfl; rfl; rfl; omega)
        | (apply VVal.addS; rfl; rfl; (first | omega | (simp only [List.length_take, List.length_drop, List.length_append, List.length_singleton, List.length_cons, List.length_nil] <;> omega)))
        | (apply VVal.indexVN; rfl; rfl; rfl; rfl; omega)
        | (apply VVal.indexVE; rfl; rfl; rfl; rfl; omega; omega)
        | (apply VVal.neg; rfl; omega)
        | (apply VVal.neB; rfl; rfl; rfl)
        | (apply VVal.eqB; rfl; rfl; rfl)
        | (apply VVal.maxI; rfl; rfl)
        | (apply VVal.minI; rfl; rfl)
        | (apply VVal.not; rfl)
        | (apply VVal.extract; rfl; rfl)
        | (apply VVal.convI; rfl; rfl; rfl; rfl; omega)
        | (apply VVal.convU; rfl; rfl; rfl; rfl; omega)
        | (apply VVal.convB; rfl; rfl; rfl; rfl; omega)
        | (apply VVal.convInt; rfl; rfl; rfl; rfl)
        | (apply VVal.append1; rfl; rfl; rfl; rfl; rfl; rfl; rfl; rfl; (intro _ h; cases h); rfl; rfl; rfl; decide; decide; (first | omega | (simp only [List.length_take, List.length_drop, List.length_append, List.length_singleton, List.length_cons, List.length_nil] <;> omega)))
        | (apply VVal.appendL0; rfl; rfl; rfl; (first | rfl | omega | (simp only [List.length_take, List.length_drop, List.length_append, List.length_singleton, List.length_cons, List.length_nil] <;> omega)); rfl; rfl; (intro _ h; cases h); rfl; rfl; rfl; decide; decide; (first | omega | (simp only [List.length_take, List.length_drop, List.length_append, List.length_singleton, List.length_cons, List.length_nil] <;> omega)))
        | (apply VVal.appendL; rfl; rfl; rfl; (first | rfl | omega | (simp only [List.length_take, List.length_drop, List.length_append, List.length_singleton, List.length_cons, List.length_nil])); (first | rfl | omega | (simp only [List.length_take, List.length_drop, List.length_append, List.length_singleton, List.length_cons, List.length_nil] <;> omega)); rfl; rfl; (intro _ h; cases h); rfl; rfl; rfl; decide; decide; (first | omega | (simp only [List.length_take, List.length_drop, List.length_append, List.length_singleton, List.length_cons, List.length_nil] <;> omega)))
        | (apply VVal.shlOne; rfl; rfl; omega)
        | (apply VVal.shlOneU; rfl; rfl; omega)
        | (apply VVal.shrN; rfl; rfl; (simp only [IntKind.bits]; omega))
        | (apply VVal.sliceTo; rfl; rfl; rfl; rfl; rfl; rfl; omega)
        | (apply VVal.sliceFrom; rfl; rfl; rfl; rfl; rfl; rfl; omega)
        | (apply VVal.sliceToI; rfl; rfl; rfl; rfl; rfl; rfl; omega)
        | (apply VVal.shr; rfl; rfl; omega)
        | (apply VVal.shl; rfl; rfl; omega)
        | (apply VWp.condSeq_true; rfl)
        | (apply VWp.condSeq_false; rfl)
        | (apply VWp.condSeq_dec; rfl)
        | (apply VWp.condSeq; rfl)
        | (apply VWp.cond_true; rfl)
        | (apply VWp.cond_false; rfl)
        | (apply VWp.cond_dec; rfl)
        | (apply VWp.cond; rfl)
        | (intro _; try (exfalso; omega)))
      all_goals first | (exfalso; omega) | (refine Done.ret rfl (.refl _) (by first | exact trivial | exact ⟨trivial, trivial, trivial⟩ | exact ⟨trivial, trivial, trivial, trivial⟩) HCov.nil (Nat.zero_le _) (Nat.le_refl _) ⟨?_, rfl, rfl⟩; try rfl)
  · rw [show chk s = 3 from if_neg h1] at hc
    rw [show valR s n = (0, 3) by unfold valR; rw [if_neg (fun h => h1 h.1)]] at hv
    refine VFun.enter (env_none (by decide)) Tryd.func3 rfl (by kernel_rfl) (by simp [Tryd.ntmps3]) ?_
    repeat' (first
      | apply VWp.assoc
      | apply VWp.rseq
      | apply VWp.rseqD
      | apply VWp.region
      | apply VWp.regionD
      | apply VWp.skipSeq
      | apply VWp.retSeq
      | apply VWp.exitSeq
      | apply VWp.blockSeq
      | apply QSeq.normal
      | apply QSeq.ret
      | apply QSeq.exit
      | (apply DoneI.ret; rfl)
      | (apply DoneI.normal; rfl)
      | apply QBlk.normal
      | apply QBlk.ret
      | apply QBlk.exit
      | (apply QBlk.out; decide)
      | apply QLoop.ret
      | apply QLoop.exit
      | apply VWp.ret
      | apply VWp.skip
      | apply VWp.exit
      | apply VWp.blockQ
      | apply VOps.nil
      | apply VOpsD.nil
      | apply VOps.one
      | (apply VOpsD.bar; decide +kernel)
      | apply VOpsD.quiet
      | (apply VOps.take; rfl; rfl)
      | (apply VOpsD.quietTake; rfl; rfl)
      | (apply VOps.drop; rfl; rfl; rfl)
      | (apply VOpsD.drop; rfl; rfl; rfl)
      | (apply VOps.guard; rfl; rfl)
      | (apply VOpsD.guard; rfl; rfl)
      | (apply VOps.dropU; rfl; rfl)
      | (apply VOpsD.dropU; rfl; rfl)
      | (apply VOps.guardB; rfl; rfl)
      | (apply VOpsD.guardB; rfl; rfl)
      | (apply VVal.fn; rfl; rfl; exact hk; intro _; rfl)
      | (apply VVal.fn; rfl; rfl; exact hv; intro _; rfl)
      | (apply VVal.fn; rfl; rfl; exact hc; intro _; rfl)
      | (apply VVal.fn; rfl; rfl; exact hw; intro _; rfl)
      | (apply VVal.assign; rfl)
      | (apply VVal.move; rfl)
      | (apply VVal.add64; rfl; rfl; omega)
      | (apply VVal.sub64; rfl; rfl; omega)
      | (apply VVal.mul64; rfl; rfl; omega)
      | (apply VVal.subBN (c := 48); rfl; rfl; omega)
      | (apply VVal.subB; rfl; rfl; omega)
      | (apply VVal.addB; rfl; rfl; omega)
      | (apply VVal.addUN; rfl; rfl; omega)
      | (apply VVal.mulUN; rfl; rfl; omega)
      | (apply VVal.subUN; rfl; rfl; omega)
      | (apply VVal.quoUN; rfl; rfl; omega)
      | (apply VVal.remUN; rfl; rfl; omega)
      | (apply VVal.quoUT; rfl; rfl; omega)
      | (apply VVal.remUT; rfl; rfl; omega)
      | (apply VVal.mulUN (a := 10); rfl; rfl; omega)
      | (apply VVal.and1; rfl; rfl; omega)
      | (apply VVal.and1U; rfl; rfl; omega)
      | (apply VVal.and1B; rfl; rfl; omega)
      | (apply VVal.andI; rfl; rfl; omega)
      | (apply VVal.andU; rfl; rfl; omega; omega)
      | (apply VVal.orU; rfl; rfl; omega; omega)
      | (apply VVal.andNotU; rfl; rfl; omega; omega)
      | (apply VVal.remI; rfl; rfl; omega; omega)
      | (apply VVal.quoI; rfl; rfl; omega; omega)
      | (apply VVal.int; rfl; rfl; rfl)
      | (apply VVal.indexN; rfl; rfl; rfl; omega; rfl)
      | (apply VVal.indexP; rfl; rfl; rfl; omega; omega; rfl)
      | (apply VVal.indexE; rfl; rfl; rfl; omega; omega; rfl)
      | (apply VVal.loadVL; rfl; rfl; omega; rfl)
      | (apply VVal.load; rfl; rfl)
      | (apply VVal.pick_true; rfl; rfl)
      | (apply VVal.pick_false; rfl; rfl)
      | (apply VVal.lenF; rfl; rfl)
      | (apply VVal.lenNil; rfl; rfl)
      | (apply VVal.lenV; rfl; rfl; rfl)
      | (apply VVal.fieldB; rfl; rfl; rfl)
      | (apply VVal.fieldF; rfl; rfl)
      | (apply VVal.box; rfl; trivial)
      | (apply VVal.alloc; rfl)
      | (apply VVal.storeB; rfl; rfl; rfl; trivial; rfl; rfl; exact lt_dec rfl; exact le_dec rfl)
      | (apply VVal.build; rfl; rfl; rfl; rfl; rfl)
      | (apply VVal.buildSlice; rfl; rfl; rfl; decide; rfl; rfl; rfl)
      | (apply VVal.lenSt; rfl; rfl)
      | (apply VVal.eqS; rfl; rfl)
      | (apply VVal.neS; rfl; rfl)
      | (apply VVal.indexStN; rfl; rfl; rfl; omega)
      | (apply VVal.indexSt; rfl; rfl; rfl; omega; omega)
      | (apply VVal.sliceSI; rfl; rfl; rfl; rfl; omega)
      | (apply VVal.sliceSto; rfl; rfl; rfl; omega)
      | (apply VVal.sliceSfrom; rfl; rfl; rfl; omega)
      | (apply VVal.convS; rfl; rfl; rfl)
      | (apply VVal.toBytes; rfl; rfl; rfl; rfl; rfl; rfl; omega)
      | (apply VVal.addS; rfl; rfl; (first | omega | (simp only [List.length_take, List.length_drop, List.length_append, List.length_singleton, List.length_cons, List.length_nil] <;> omega)))
      | (apply VVal.indexVN; rfl; rfl; rfl; rfl; omega)
      | (apply VVal.indexVE; rfl; rfl; rfl; rfl; omega; omega)
      | (apply VVal.neg; rfl; omega)
      | (apply VVal.neB; rfl; rfl; rfl)
      | (apply VVal.eqB; rfl; rfl; rfl)
      | (apply VVal.maxI; rfl; rfl)
      | (apply VVal.minI; rfl; rfl)
      | (apply VVal.not; rfl)
      | (apply VVal.extract; rfl; rfl)
      | (apply VVal.convI; rfl; rfl; rfl; rfl; omega)
      | (apply VVal.convU; rfl; rfl; rfl; rfl; omega)
      | (apply VVal.convB; rfl; rfl; rfl; rfl; omega)
      | (apply VVal.convInt; rfl; rfl; rfl; rfl)
      | (apply VVal.append1; rfl; rfl; rfl; rfl; rfl; rfl; rfl; rfl; (intro _ h; cases h); rfl; rfl; rfl; decide; decide; (first | omega | (simp only [List.length_take, List.length_drop, List.length_append, List.length_singleton, List.length_cons, List.length_nil] <;> omega)))
      | (apply VVal.appendL0; rfl; rfl; rfl; (first | rfl | omega | (simp only [List.length_take, List.length_drop, List.length_append, List.length_singleton, List.length_cons, List.length_nil] <;> omega)); rfl; rfl; (intro _ h; cases h); rfl; rfl; rfl; decide; decide; (first | omega | (simp only [List.length_take, List.length_drop, List.length_append, List.length_singleton, List.length_cons, List.length_nil] <;> omega)))
      | (apply VVal.appendL; rfl; rfl; rfl; (first | rfl | omega | (simp only [List.length_take, List.length_drop, List.length_append, List.length_singleton, List.length_cons, List.length_nil])); (first | rfl | omega | (simp only [List.length_take, List.length_drop, List.length_append, List.length_singleton, List.length_cons, List.length_nil] <;> omega)); rfl; rfl; (intro _ h; cases h); rfl; rfl; rfl; decide; decide; (first | omega | (simp only [List.length_take, List.length_drop, List.length_append, List.length_singleton, List.length_cons, List.length_nil] <;> omega)))
      | (apply VVal.shlOne; rfl; rfl; omega)
      | (apply VVal.shlOneU; rfl; rfl; omega)
      | (apply VVal.shrN; rfl; rfl; (simp only [IntKind.bits]; omega))
      | (apply VVal.sliceTo; rfl; rfl; rfl; rfl; rfl; rfl; omega)
      | (apply VVal.sliceFrom; rfl; rfl; rfl; rfl; rfl; rfl; omega)
      | (apply VVal.sliceToI; rfl; rfl; rfl; rfl; rfl; rfl; omega)
      | (apply VVal.shr; rfl; rfl; omega)
      | (apply VVal.shl; rfl; rfl; omega)
      | (apply VWp.condSeq_true; rfl)
      | (apply VWp.condSeq_false; rfl)
      | (apply VWp.condSeq_dec; rfl)
      | (apply VWp.condSeq; rfl)
      | (apply VWp.cond_true; rfl)
      | (apply VWp.cond_false; rfl)
      | (apply VWp.cond_dec; rfl)
      | (apply VWp.cond; rfl)
      | (intro _; try (exfalso; omega)))
    all_goals first | (exfalso; omega) | (refine Done.ret rfl (.refl _) (by first | exact trivial | exact ⟨trivial, trivial, trivial⟩ | exact ⟨trivial, trivial, trivial, trivial⟩) HCov.nil (Nat.zero_le _) (Nat.le_refl _) ⟨?_, rfl, rfl⟩; try rfl)
end Go.Proofs.YtemfebbakfhknaaDoor
