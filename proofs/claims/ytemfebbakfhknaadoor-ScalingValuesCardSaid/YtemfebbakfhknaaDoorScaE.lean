/-
  The statements on the values of scales, as walks. Conditions: in each statement.
-/
import Derived.Test.YtemfebbakfhknaaDoorScaD
set_option linter.unusedSimpArgs false
set_option linter.unusedVariables false
namespace Go.Proofs.YtemfebbakfhknaaDoor
open Go Go.Am Go.Vm Go.Sca
attribute [local irreducible] VVal VOps VOpsD VWp VCalls VFun VFunV QSeq QBlk QLoop Vm.Done DoneV DoneI
attribute [local irreducible] hvl mea me rnd rk lo fstN

set_option maxRecDepth 100000 in
set_option maxHeartbeats 1000000 in
theorem values_spec (s : Scl) (n : Int) : VFun env 3 [.agg (Enc.enc s), .int .i64 n] (.p (.bool true)) := by
  have hk := known_spec
  have hv := sValue_spec s n
  have hc := lcheck_spec s
  have hw := lwithin_spec n
  by_cases h1 : sOk s
  · rw [show chk s = 0 from if_pos h1] at hc
    by_cases h2 : wOk n
    · rw [decide_eq_true h2] at hw
      have hm := most_spec s n 10000000 h1 h2
      have hb := mea_bd h1 n
      by_cases h3 : mea s n ≤ 10000000
      · rw [show valR s n = (mea s n, 0) by unfold valR; rw [if_pos ⟨h1, h2⟩, if_pos h3]] at hv
        have hi := is_spec s n (mea s n) h1 h2
        rw [decide_eq_true (show mea s n = mea s n ∧ mea s n ≤ 10000000 from ⟨rfl, h3⟩)] at hi
        rw [decide_eq_true (show mea s n ≤ min 10000000 10000000 by omega)] at hm
        refine VFun.enter (env_none (by decide)) Tryd.func3 rfl (by kernel_rfl) (by simp [Tryd.ntmps3]) ?_
        repeat' (first
          | apply VWp.assoc
          | apply VWp.rseq
          | apply VWp.skipSeq
          | apply VWp.blockSeq
          | apply QSeq.normal
          | apply QBlk.normal
          | apply VWp.ret
          | apply VWp.skip
          | apply VOps.nil
          | apply VOps.one
          | (apply VOps.take; rfl; rfl)
          | (apply VOps.guard; rfl; rfl)
          | (apply VVal.fn; rfl; rfl; exact hk; intro _; rfl)
          | (apply VVal.fn; rfl; rfl; exact hv; intro _; rfl)
          | (apply VVal.fn; rfl; rfl; exact hc; intro _; rfl)
          | (apply VVal.fn; rfl; rfl; exact hw; intro _; rfl)
          | (apply VVal.fn; rfl; rfl; exact hm; intro _; rfl)
          | (apply VVal.fn; rfl; rfl; exact hi; intro _; rfl)
          | (apply VVal.assign; rfl)
          | (apply VVal.move; rfl)
          | (apply VVal.int; rfl; rfl; rfl)
          | (apply VVal.load; rfl; rfl)
          | (apply VVal.pick_true; rfl; rfl)
          | (apply VVal.pick_false; rfl; rfl)
          | (apply VVal.fieldB; rfl; rfl; rfl)
          | (apply VVal.box; rfl; trivial)
          | (apply VVal.not; rfl)
          | (apply VVal.extract; rfl; rfl)
          | (apply VWp.condSeq_false; rfl)
          | (apply VWp.cond_false; rfl)
          | (intro _; try (exfalso; omega)))
        all_goals first | (exfalso; omega) | (refine Done.ret rfl (.refl _) (by first | exact trivial | exact ⟨trivial, trivial, trivial⟩ | exact ⟨trivial, trivial, trivial, trivial⟩) HCov.nil (Nat.zero_le _) (Nat.le_refl _) ⟨?_, rfl, rfl⟩; try rfl)
      · rw [show valR s n = (0, 4) by unfold valR; rw [if_pos ⟨h1, h2⟩, if_neg h3]] at hv
        rw [decide_eq_false (show ¬ mea s n ≤ min 10000000 10000000 by omega)] at hm
        refine VFun.enter (env_none (by decide)) Tryd.func3 rfl (by kernel_rfl) (by simp [Tryd.ntmps3]) ?_
        repeat' (first
          | apply VWp.assoc
          | apply VWp.rseq
          | apply VWp.skipSeq
          | apply VWp.blockSeq
          | apply QSeq.ret
          | apply QBlk.ret
          | apply VWp.ret
          | apply VOps.nil
          | apply VOps.one
          | (apply VOps.take; rfl; rfl)
          | (apply VVal.fn; rfl; rfl; exact hk; intro _; rfl)
          | (apply VVal.fn; rfl; rfl; exact hv; intro _; rfl)
          | (apply VVal.fn; rfl; rfl; exact hc; intro _; rfl)
          | (apply VVal.fn; rfl; rfl; exact hw; intro _; rfl)
          | (apply VVal.fn; rfl; rfl; exact hm; intro _; rfl)
          | (apply VVal.assign; rfl)
          | (apply VVal.move; rfl)
          | (apply VVal.int; rfl; rfl; rfl)
          | (apply VVal.load; rfl; rfl)
          | (apply VVal.pick_true; rfl; rfl)
          | (apply VVal.pick_false; rfl; rfl)
          | (apply VVal.box; rfl; trivial)
          | (apply VVal.not; rfl)
          | (apply VVal.extract; rfl; rfl)
          | (apply VWp.condSeq_false; rfl)
          | (apply VWp.cond_true; rfl)
          | (apply VWp.cond_false; rfl))
        all_goals first | (exfalso; omega) | (refine Done.ret rfl (.refl _) (by first | exact trivial | exact ⟨trivial, trivial, trivial⟩ | exact ⟨trivial, trivial, trivial, trivial⟩) HCov.nil (Nat.zero_le _) (Nat.le_refl _) ⟨?_, rfl, rfl⟩; try rfl)
    · rw [decide_eq_false h2] at hw
      rw [show valR s n = (0, 3) by unfold valR; rw [if_neg (fun h => h2 h.2)]] at hv
      refine VFun.enter (env_none (by decide)) Tryd.func3 rfl (by kernel_rfl) (by simp [Tryd.ntmps3]) ?_
      repeat' (first
        | apply VWp.assoc
        | apply VWp.rseq
        | apply VWp.skipSeq
        | apply VWp.blockSeq
        | apply QSeq.ret
        | apply QBlk.ret
        | apply VWp.ret
        | apply VOps.nil
        | apply VOps.one
        | (apply VOps.take; rfl; rfl)
        | (apply VVal.fn; rfl; rfl; exact hk; intro _; rfl)
        | (apply VVal.fn; rfl; rfl; exact hv; intro _; rfl)
        | (apply VVal.fn; rfl; rfl; exact hc; intro _; rfl)
        | (apply VVal.fn; rfl; rfl; exact hw; intro _; rfl)
        | (apply VVal.assign; rfl)
        | (apply VVal.move; rfl)
        | (apply VVal.int; rfl; rfl; rfl)
        | (apply VVal.load; rfl; rfl)
        | (apply VVal.pick_true; rfl; rfl)
        | (apply VVal.pick_false; rfl; rfl)
        | (apply VVal.box; rfl; trivial)
        | (apply VVal.not; rfl)
        | (apply VVal.extract; rfl; rfl)
        | (apply VWp.condSeq_false; rfl)
        | (apply VWp.cond_true; rfl))
      all_goals first | (exfalso; omega) | (refine Done.ret rfl (.refl _) (by first | exact trivial | exact ⟨trivial, trivial, trivial⟩ | exact ⟨trivial, trivial, trivial, trivial⟩) HCov.nil (Nat.zero_le _) (Nat.le_refl _) ⟨?_, rfl, rfl⟩; try rfl)
  · rw [show chk s = 3 from if_neg h1] at hc
    rw [show valR s n = (0, 3) by unfold valR; rw [if_neg (fun h => h1 h.1)]] at hv
    refine VFun.enter (env_none (by decide)) Tryd.func3 rfl (by kernel_rfl) (by simp [Tryd.ntmps3]) ?_
    repeat' (first
      | apply VWp.assoc
      | apply VWp.rseq
      | apply VWp.skipSeq
      | apply VWp.blockSeq
      | apply QSeq.ret
      | apply QBlk.ret
      | apply VWp.ret
      | apply VOps.nil
      | apply VOps.one
      | (apply VOps.take; rfl; rfl)
      | (apply VOps.drop; rfl; rfl; rfl)
      | (apply VVal.fn; rfl; rfl; exact hk; intro _; rfl)
      | (apply VVal.fn; rfl; rfl; exact hv; intro _; rfl)
      | (apply VVal.fn; rfl; rfl; exact hc; intro _; rfl)
      | (apply VVal.assign; rfl)
      | (apply VVal.move; rfl)
      | (apply VVal.int; rfl; rfl; rfl)
      | (apply VVal.load; rfl; rfl)
      | (apply VVal.pick_true; rfl; rfl)
      | (apply VVal.box; rfl; trivial)
      | (apply VVal.not; rfl)
      | (apply VVal.extract; rfl; rfl)
      | (apply VWp.condSeq_false; rfl)
      | (apply VWp.cond_true; rfl))
    all_goals first | (exfalso; omega) | (refine Done.ret rfl (.refl _) (by first | exact trivial | exact ⟨trivial, trivial, trivial⟩ | exact ⟨trivial, trivial, trivial, trivial⟩) HCov.nil (Nat.zero_le _) (Nat.le_refl _) ⟨?_, rfl, rfl⟩; try rfl)
end Go.Proofs.YtemfebbakfhknaaDoor
