/-
  The laws of ranks: Checks. Conditions: in each statement.
-/
import Derived.Test.YtabjkjgpaahbhaaDoorRkN
set_option linter.unusedSimpArgs false
set_option linter.unusedVariables false
namespace Go.Proofs.YtabjkjgpaahbhaaDoor
open Go Go.Am Go.Vm
attribute [local irreducible] VVal VOps VOpsD VWp VCalls VFun VFunV QSeq QBlk QLoop Vm.Done DoneV DoneI
attribute [local irreducible] windsE shz shiftR

theorem pipE_chk {r : Rnk} {n : Int} (h : rchk r ≠ 0) : pipE r n = rchk r := by unfold pipE; rw [if_pos h]
theorem row801_ok : rchk (rowR 8 0 1) = 0 := row_ok (by decide +kernel) (by omega) (by omega)
theorem row801_len : rLen (rowR 8 0 1) := by unfold rLen rowR; simp
attribute [local irreducible] rchk pipE

set_option maxRecDepth 100000 in
set_option maxHeartbeats 2000000 in
theorem checks_spec (r : Rnk) (hl : rLen r) : VFun env 10 [.agg (Enc.enc r)] (.p (.bool true)) := by
  have hk := known_spec
  have hf := few_spec r hl
  have hw := lcheck_spec r hl
  have hc := rcheck_spec r hl.1 hl.2.1 hl.2.2
  have n1 := isName_spec r.name hl.1
  have n2 := lname_spec r.name hl.1
  have hq := requal_spec r r hl hl
  rw [decide_eq_true rfl] at hq
  generalize decide (fewR r) = gf at *
  generalize decide (nameOk r.name) = gn at *
  cases gf
  · refine VFun.enter (env_none (by decide)) Tryd.func10 rfl (by kernel_rfl) (by simp [Tryd.ntmps10]) ?_
    repeat' (first
      | apply VWp.assoc
      | apply VWp.rseq
      | apply VWp.retSeq
      | apply VOps.nil
      | apply VOps.one
      | (apply VOps.take; rfl; rfl)
      | (apply VVal.fn; rfl; rfl; exact hk; intro _; rfl)
      | (apply VVal.fn; rfl; rfl; exact hf; intro _; rfl)
      | (apply VVal.assign; rfl)
      | (apply VVal.move; rfl)
      | (apply VVal.load; rfl; rfl)
      | (apply VVal.pick_false; rfl; rfl)
      | (apply VVal.box; rfl; trivial)
      | (apply VVal.not; rfl)
      | (apply VWp.condSeq_true; rfl))
    all_goals first | contradiction | (refine Done.ret rfl (.refl _) (by first | exact trivial | exact ⟨trivial, trivial, trivial⟩ | exact ⟨trivial, trivial, trivial, trivial⟩) HCov.nil (Nat.zero_le _) (Nat.le_refl _) ⟨?_, rfl, rfl⟩; rfl)
  by_cases he : rchk r = 0
  · rw [he] at hw hc
    refine VFun.enter (env_none (by decide)) Tryd.func10 rfl (by kernel_rfl) (by simp [Tryd.ntmps10]) ?_
    cases gn
    all_goals
      repeat' (first
        | apply VWp.assoc
        | apply VWp.rseq
        | apply VWp.rseqD
        | apply VWp.skipSeq
        | apply VWp.retSeq
        | apply VOps.nil
        | apply VOpsD.nil
        | apply VOps.one
        | (apply VOpsD.bar; decide +kernel)
        | apply VOpsD.quiet
        | (apply VOps.take; rfl; rfl)
        | (apply VOpsD.quietTake; rfl; rfl)
        | (apply VVal.fn; rfl; rfl; exact hk; intro _; rfl)
        | (apply VVal.fn; rfl; rfl; exact hf; intro _; rfl)
        | (apply VVal.fn; rfl; rfl; exact hw; intro _; rfl)
        | (apply VVal.fn; rfl; rfl; exact hc; intro _; rfl)
        | (apply VVal.fn; rfl; rfl; exact n1; intro _; rfl)
        | (apply VVal.fn; rfl; rfl; exact n2; intro _; rfl)
        | (apply VVal.fn; rfl; rfl; exact hq; intro _; rfl)
        | (apply VVal.assign; rfl)
        | (apply VVal.move; rfl)
        | (apply VVal.int; rfl; rfl; rfl)
        | (apply VVal.load; rfl; rfl)
        | (apply VVal.pick_false; rfl; rfl)
        | (apply VVal.fieldB; rfl; rfl; rfl)
        | (apply VVal.box; rfl; trivial)
        | (apply VVal.neB; rfl; rfl; rfl)
        | (apply VVal.not; rfl)
        | (apply VWp.condSeq_true; rfl)
        | (apply VWp.condSeq_false; rfl))
    all_goals first | contradiction | (refine Done.ret rfl (.refl _) (by first | exact trivial | exact ⟨trivial, trivial, trivial⟩ | exact ⟨trivial, trivial, trivial, trivial⟩) HCov.nil (Nat.zero_le _) (Nat.le_refl _) ⟨?_, rfl, rfl⟩; rfl)
  have hzz := same_zz
  have c1 := number_spec r 0 hl
  have c2 := note_spec r 0 hl
  have c3 := last_spec r hl
  have c4 := wind_spec r 0 hl
  have c5 := total_spec r hl
  have c6 := sounding_spec r 0 hl (fun h => absurd h (by rw [pipE_chk he]; exact he)) (by have := shiftR_bd r.feet ⟨8, 1⟩; omega)
  have c7 := slice_spec r 0 1 hl
  have c8 : VFun env 18 [.agg (Enc.enc r), .val (.slice none 0 0)] _ := VFun.le (.cons (.refl _) (.cons (.nil 3) (.refl _))) (below_spec r [] hl (by simp))
  have c9 : VFun env 19 [.agg (Enc.enc r), .val (.slice none 0 0)] _ := VFun.le (.cons (.refl _) (.cons (.nil 3) (.refl _))) (above_spec r [] hl (by simp))
  have r8 := row_spec 8 0 1 (by decide)
  have c10 := join_spec (rowR 8 0 1) r row801_len hl
  have c11 := repitch_spec r ⟨0, 0⟩ hl
  have pe : ∀ n, pipE r n = rchk r := fun n => pipE_chk he
  rw [show numR r 0 = (0, false, rchk r) by unfold numR; rw [if_pos he]] at c1
  rw [show notR r 0 = (0, rchk r) by unfold notR; rw [pe, if_pos he]] at c2
  rw [show notR r (max 0 ((r.wind.length : Int) - 1)) = (0, rchk r) by unfold notR; rw [pe, if_pos he]] at c3
  rw [show wndR r 0 = (0, rchk r) by unfold wndR; rw [pe, if_pos he]] at c4
  rw [show totR r = (0, rchk r) by unfold totR; rw [if_pos he]] at c5
  rw [show sndR r 0 = (0, false, rchk r) by unfold sndR; rw [pe, if_pos he]] at c6
  rw [show sliR r 0 1 = (zeroF, rchk r) by unfold sliR; rw [pe, if_pos he]] at c7
  rw [show belR r [] = (zeroF, rchk r) by unfold belR; rw [if_pos he]] at c8
  rw [show aboR r [] = (zeroF, rchk r) by unfold aboR; rw [if_pos he]] at c9
  rw [show joiR (rowR 8 0 1) r = (zeroF, rchk r) by unfold joiR; rw [if_neg (fun h => h row801_ok), if_pos he]] at c10
  rw [show repR r ⟨0, 0⟩ = (zeroF, rchk r) by unfold repR; rw [if_pos he]] at c11
  clear pe
  generalize rchk r = e at *
  refine VFun.enter (env_none (by decide)) Tryd.func10 rfl (by kernel_rfl) (by simp [Tryd.ntmps10]) ?_
  cases gn
  all_goals
    repeat' (first
      | apply VWp.assoc
      | apply VWp.rseq
      | apply VWp.rseqD
      | apply VWp.skipSeq
      | apply VWp.ret
      | apply VOps.nil
      | apply VOpsD.nil
      | apply VOps.one
      | (apply VOpsD.bar; decide +kernel)
      | apply VOpsD.quiet
      | (apply VOps.take; rfl; rfl)
      | (apply VOpsD.quietTake; rfl; rfl)
      | (apply VOps.drop; rfl; rfl; rfl)
      | (apply VOps.guard; rfl; rfl)
      | (apply VOpsD.guard; rfl; rfl)
      | (apply VVal.fn; rfl; rfl; exact hk; intro _; rfl)
      | (apply VVal.fn; rfl; rfl; exact hf; intro _; rfl)
      | (apply VVal.fn; rfl; rfl; exact hw; intro _; rfl)
      | (apply VVal.fn; rfl; rfl; exact hc; intro _; rfl)
      | (apply VVal.fn; rfl; rfl; exact n1; intro _; rfl)
      | (apply VVal.fn; rfl; rfl; exact n2; intro _; rfl)
      | (apply VVal.fn; rfl; rfl; exact hq; intro _; rfl)
      | (apply VVal.fn; rfl; rfl; exact r8; intro _; rfl)
      | (apply VVal.fn; rfl; rfl; exact c1; intro _; rfl)
      | (apply VVal.fn; rfl; rfl; exact c2; intro _; rfl)
      | (apply VVal.fn; rfl; rfl; exact c3; intro _; rfl)
      | (apply VVal.fn; rfl; rfl; exact c4; intro _; rfl)
      | (apply VVal.fn; rfl; rfl; exact c5; intro _; rfl)
      | (apply VVal.fn; rfl; rfl; exact c6; intro _; rfl)
      | (apply VVal.fn; rfl; rfl; exact c7; intro _; rfl)
      | (apply VVal.fn; rfl; rfl; exact c8; intro _; rfl)
      | (apply VVal.fn; rfl; rfl; exact c9; intro _; rfl)
      | (apply VVal.fn; rfl; rfl; exact c10; intro _; rfl)
      | (apply VVal.fn; rfl; rfl; exact c11; intro _; rfl)
      | (apply VVal.fn; rfl; rfl; exact hzz; intro _; rfl)
      | (apply VVal.assign; rfl)
      | (apply VVal.move; rfl)
      | (apply VVal.int; rfl; rfl; rfl)
      | (apply VVal.load; rfl; rfl)
      | (apply VVal.pick_true; rfl; rfl)
      | (apply VVal.pick_false; rfl; rfl)
      | (apply VVal.fieldB; rfl; rfl; rfl)
      | (apply VVal.box; rfl; trivial)
      | (apply VVal.alloc; rfl)
      | (apply VVal.storeB; rfl; rfl; rfl; trivial; rfl; rfl; exact lt_dec rfl; exact le_dec rfl)
      | (apply VVal.build; rfl; rfl; rfl; rfl; rfl)
      | (apply VVal.neB; rfl; rfl; rfl)
      | (apply VVal.not; rfl)
      | (apply VVal.extract; rfl; rfl)
      | (apply VWp.condSeq_false; rfl)
      | (apply VWp.condSeq_dec; rfl)
      | (intro _; try (exfalso; omega)))
  all_goals first | contradiction | (refine Done.ret rfl (.refl _) (by first | exact trivial | exact ⟨trivial, trivial, trivial⟩ | exact ⟨trivial, trivial, trivial, trivial⟩) HCov.nil (Nat.zero_le _) (Nat.le_refl _) ⟨?_, rfl, rfl⟩; rfl) | (refine Done.ret rfl (.refl _) (by first | exact trivial | exact ⟨trivial, trivial, trivial⟩ | exact ⟨trivial, trivial, trivial, trivial⟩) HCov.nil (Nat.zero_le _) (Nat.le_refl _) ⟨?_, rfl, rfl⟩; refine PV.bool_eq ?_; simp; done)
end Go.Proofs.YtabjkjgpaahbhaaDoor
