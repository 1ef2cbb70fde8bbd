/-
  The layer of ranks: Number, Below, Repitch. Conditions: in each statement.
-/
import Derived.Test.YtabjkjgpaahbhaaDoorRkD
set_option linter.unusedSimpArgs false
set_option linter.unusedVariables false
namespace Go.Proofs.YtabjkjgpaahbhaaDoor
open Go Go.Am Go.Vm
attribute [local irreducible] VVal VOps VOpsD VWp VCalls VFun VFunV QSeq QBlk QLoop Vm.Done DoneV DoneI

theorem sh1_bd (den : Nat) : ∀ (f num : Nat) (n : Int), n - 12 * f ≤ (sh1 den f num n).2 ∧ (sh1 den f num n).2 ≤ n
  | 0, num, n => by simp [sh1]
  | f + 1, num, n => by
    have := sh1_bd den f (num * 2) (n - 12)
    simp only [sh1]
    split
    · omega
    · simp only; omega
theorem sh2_bd (num : Nat) : ∀ (f den : Nat) (n : Int), n ≤ (sh2 num f den n).2 ∧ (sh2 num f den n).2 ≤ n + 12 * f
  | 0, den, n => by simp [sh2]
  | f + 1, den, n => by
    have := sh2_bd num f (den * 2) (n + 12)
    simp only [sh2]
    split
    · omega
    · simp only; omega
theorem sh3_bd (p : Nat) : ∀ (f l : Nat) (n : Int), n ≤ sh3 p f l n ∧ sh3 p f l n ≤ n + f
  | 0, l, n => by simp [sh3]
  | f + 1, l, n => by
    have := sh3_bd p f (l * 4) (n + 1)
    simp only [sh3]
    split
    · omega
    · omega
theorem shN_bd (num den : Nat) : -1000 ≤ shN num den ∧ shN num den ≤ 1000 := by
  unfold shN
  simp only
  have h1 := sh1_bd den 30 num 0
  generalize sh1 den 30 num 0 = a at *
  have h2 := sh2_bd a.1 30 den a.2
  generalize sh2 a.1 30 den a.2 = b at *
  have h3 := sh3_bd (a.1 ^ 24) 30 (b.1 ^ 24 * 2) b.2
  omega
theorem shiftR_bd (x y : Frac) : -1000 ≤ (shiftR x y).1 ∧ (shiftR x y).1 ≤ 1000 := by
  unfold shiftR
  split
  · simp
  · exact shN_bd _ _

theorem rchk_ok {r : Rnk} (h : rchk r = 0) : (nameOk r.name ∧ nameOk r.tone) ∧ pOk r.feet ∧ (-256 ≤ r.first ∧ r.first ≤ 256) ∧ (0 < r.wind.length ∧ r.wind.length ≤ 128) ∧ okW r.wind := by
  unfold rchk at h
  split at h
  · cases h
  rename_i h1
  split at h
  · rename_i h2; exact absurd h h2
  rename_i h2
  split at h
  · cases h
  rename_i h3
  split at h
  · cases h
  rename_i h4
  split at h
  · cases h
  rename_i h5
  refine ⟨⟨Classical.not_not.1 fun h' => h1 (.inl h'), Classical.not_not.1 fun h' => h1 (.inr h')⟩, pchk_ok.1 (Classical.not_not.1 h2), by omega, by omega, ?_⟩
  unfold windsE at h
  split at h
  · assumption
  · cases h
attribute [local irreducible] rchk windsE shz shiftR

noncomputable def numR (r : Rnk) (n : Int) : Int × Bool × Int := if rchk r ≠ 0 then (0, false, rchk r) else if n < r.first ∨ n ≥ r.first + r.wind.length then (0, false, 0) else (n - r.first, true, 0)
set_option maxRecDepth 100000 in
set_option maxHeartbeats 1000000 in
theorem number_spec (r : Rnk) (n : Int) (h : rLen r) : VFun env 23 [.agg (Enc.enc r), .int .i64 n] (.tup [.p (.int .i64 (numR r n).1), .p (.bool (numR r n).2.1), .p (.int .i64 (numR r n).2.2)]) := by
  have hc := rcheck_spec r h.1 h.2.1 h.2.2
  unfold numR
  refine VFun.enter (env_none (by decide)) Tryd.func23 rfl (by kernel_rfl) (by simp [Tryd.ntmps23]) ?_
  by_cases h0 : rchk r = 0
  · obtain ⟨-, -, h1, h2, -⟩ := rchk_ok h0
    rw [h0] at hc ⊢
    rw [if_neg (by decide)]
    repeat' (first
      | apply VWp.assoc
      | apply VWp.rseq
      | apply VWp.skipSeq
      | apply VWp.retSeq
      | apply VWp.ret
      | apply VOps.nil
      | apply VOps.one
      | (apply VOps.take; rfl; rfl)
      | (apply VOps.drop; rfl; rfl; rfl)
      | (apply VOps.guard; rfl; rfl)
      | (apply VVal.fn; rfl; rfl; exact hc; intro _; rfl)
      | (apply VVal.assign; rfl)
      | (apply VVal.move; rfl)
      | (apply VVal.add64; rfl; rfl; omega)
      | (apply VVal.sub64; rfl; rfl; omega)
      | (apply VVal.int; rfl; rfl; rfl)
      | (apply VVal.load; rfl; rfl)
      | (apply VVal.pick_true; rfl; rfl)
      | (apply VVal.pick_false; rfl; rfl)
      | (apply VVal.lenF; rfl; rfl)
      | (apply VVal.fieldB; rfl; rfl; rfl)
      | (apply VVal.box; rfl; trivial)
      | (apply VWp.condSeq_true; rfl)
      | (apply VWp.condSeq_false; rfl)
      | (apply VWp.condSeq_dec; rfl)
      | (intro _; try (exfalso; omega)))
    all_goals first
      | (exfalso; omega)
      | (rw [if_pos (by omega)]; (refine Done.ret rfl (.refl _) (by first | exact trivial | exact ⟨trivial, trivial, trivial⟩ | exact ⟨trivial, trivial, trivial, trivial⟩) HCov.nil (Nat.zero_le _) (Nat.le_refl _) ⟨?_, rfl, rfl⟩; try rfl); done)
      | (rw [if_neg (by omega)]; (refine Done.ret rfl (.refl _) (by first | exact trivial | exact ⟨trivial, trivial, trivial⟩ | exact ⟨trivial, trivial, trivial, trivial⟩) HCov.nil (Nat.zero_le _) (Nat.le_refl _) ⟨?_, rfl, rfl⟩; try rfl); done)
  · rw [if_pos h0]
    repeat' (first
      | apply VWp.assoc
      | apply VWp.rseq
      | apply VWp.retSeq
      | apply VOps.nil
      | apply VOps.one
      | (apply VVal.fn; rfl; rfl; exact hc; intro _; rfl)
      | (apply VVal.assign; rfl)
      | (apply VVal.move; rfl)
      | (apply VVal.int; rfl; rfl; rfl)
      | (apply VVal.load; rfl; rfl)
      | (apply VVal.box; rfl; trivial)
      | (apply VWp.condSeq_dec; rfl)
      | (intro _; try (exfalso; omega)))
    all_goals first | (exfalso; omega) | (refine Done.ret rfl (.refl _) (by first | exact trivial | exact ⟨trivial, trivial, trivial⟩ | exact ⟨trivial, trivial, trivial, trivial⟩) HCov.nil (Nat.zero_le _) (Nat.le_refl _) ⟨?_, rfl, rfl⟩; try rfl)

theorem rebR_six (r : Rnk) (n : Int) (w : List Int) : ∃ c0 c1 c2 c3 c4 c5 e, rebR r n w = (.agg [c0, c1, c2, c3, c4, c5], e) := by
  unfold rebR
  split
  · exact ⟨_, _, _, _, _, _, _, rfl⟩
  · split
    · exact ⟨_, _, _, _, _, _, _, rfl⟩
    · exact ⟨_, _, _, _, _, _, _, rfl⟩
noncomputable def belR (r : Rnk) (w : List Int) : FV × Int := if rchk r ≠ 0 then (zeroF, rchk r) else if windsE w ≠ 0 then (zeroF, windsE w) else rebR r (r.first - w.length) (w ++ r.wind)
set_option maxRecDepth 100000 in
set_option maxHeartbeats 1000000 in
theorem below_spec (r : Rnk) (w : List Int) (h : rLen r) (hw : w.length ≤ 800) : VFun env 18 [.agg (Enc.enc r), .lst 3 (cells w) w.length] (.tup [.p (belR r w).1, .p (.int .i64 (belR r w).2)]) := by
  have hc := rcheck_spec r h.1 h.2.1 h.2.2
  have hn := winds_spec w (by omega)
  unfold belR
  refine VFun.enter (env_none (by decide)) Tryd.func18 rfl (by kernel_rfl) (by simp [Tryd.ntmps18]) ?_
  by_cases h0 : rchk r = 0
  · obtain ⟨-, -, h1, h2, -⟩ := rchk_ok h0
    have hr := rebuilt2_spec r (r.first - w.length) w r.wind (by omega) (by omega)
    obtain ⟨c0, c1, c2, c3, c4, c5, e, he⟩ := rebR_six r (r.first - w.length) (w ++ r.wind)
    rw [he] at hr ⊢
    rw [h0] at hc ⊢
    rw [if_neg (by decide)]
    repeat' (first
      | (refine VOps.atOp 30 ?_; refine VOps.ghost (Ghost.freeze 29 rfl rfl) ?_)
      | apply VWp.assoc
      | apply VWp.rseq
      | apply VWp.skipSeq
      | apply VWp.retSeq
      | apply VWp.ret
      | apply VOps.nil
      | apply VOps.one
      | (apply VVal.fn; rfl; rfl; exact hc; intro _; rfl)
      | (apply VVal.fn; rfl; rfl; exact hn; intro _; rfl)
      | (apply VVal.fn; rfl; rfl; exact hr; intro _; rfl)
      | (apply VVal.assign; rfl)
      | (apply VVal.move; rfl)
      | (apply VVal.sub64; rfl; rfl; omega)
      | (apply VVal.int; rfl; rfl; rfl)
      | (apply VVal.load; rfl; rfl)
      | (apply VVal.lenF; rfl; rfl)
      | (apply VVal.fieldB; rfl; rfl; rfl)
      | (apply VVal.box; rfl; trivial)
      | (apply VVal.alloc; rfl)
      | (apply VVal.storeB; rfl; rfl; rfl; trivial; rfl; rfl; exact lt_dec rfl; exact le_dec rfl)
      | (apply VVal.build; rfl; rfl; rfl; rfl; rfl)
      | (apply VVal.buildSlice; rfl; rfl; rfl; decide; rfl; rfl; rfl)
      | (apply VVal.extract; rfl; rfl)
      | (apply VWp.condSeq_false; rfl)
      | (apply VWp.condSeq_dec; rfl)
      | (intro _; try (exfalso; omega)))
    all_goals first | (rw [if_pos (by assumption)]; (refine Done.ret rfl (.refl _) (by first | exact trivial | exact ⟨trivial, trivial, trivial⟩ | exact ⟨trivial, trivial, trivial, trivial⟩) HCov.nil (Nat.zero_le _) (Nat.le_refl _) ⟨?_, rfl, rfl⟩; try rfl); done) | (rw [if_neg (by assumption)]; (refine Done.ret rfl (.refl _) (by first | exact trivial | exact ⟨trivial, trivial, trivial⟩ | exact ⟨trivial, trivial, trivial, trivial⟩) HCov.nil (Nat.zero_le _) (Nat.le_refl _) ⟨?_, rfl, rfl⟩; try rfl); done)
  · rw [if_pos h0]
    repeat' (first
      | apply VWp.assoc
      | apply VWp.rseq
      | apply VWp.retSeq
      | apply VOps.nil
      | apply VOps.one
      | (apply VVal.fn; rfl; rfl; exact hc; intro _; rfl)
      | (apply VVal.assign; rfl)
      | (apply VVal.move; rfl)
      | (apply VVal.int; rfl; rfl; rfl)
      | (apply VVal.load; rfl; rfl)
      | (apply VVal.box; rfl; trivial)
      | (apply VVal.alloc; rfl)
      | (apply VVal.storeB; rfl; rfl; rfl; trivial; rfl; rfl; exact lt_dec rfl; exact le_dec rfl)
      | (apply VVal.build; rfl; rfl; rfl; rfl; rfl)
      | (apply VWp.condSeq_dec; rfl)
      | (intro _; try (exfalso; omega)))
    all_goals first | (exfalso; omega) | (refine Done.ret rfl (.refl _) (by first | exact trivial | exact ⟨trivial, trivial, trivial⟩ | exact ⟨trivial, trivial, trivial, trivial⟩) HCov.nil (Nat.zero_le _) (Nat.le_refl _) ⟨?_, rfl, rfl⟩; try rfl)

noncomputable def repR (r : Rnk) (f : Frac) : FV × Int := if rchk r ≠ 0 then (zeroF, rchk r) else if (shiftR f r.feet).2 ≠ 0 then (zeroF, (shiftR f r.feet).2) else if firOk (r.first - (shiftR f r.feet).1) then (.agg (Enc.enc { r with first := r.first - (shiftR f r.feet).1, feet := f }), 0) else (zeroF, 3)
set_option maxRecDepth 100000 in
set_option maxHeartbeats 1000000 in
theorem repitch_spec (r : Rnk) (f : Frac) (h : rLen r) : VFun env 15 [.agg (Enc.enc r), .agg (Enc.enc f)] (.tup [.p (repR r f).1, .p (.int .i64 (repR r f).2)]) := by
  have hc := rcheck_spec r h.1 h.2.1 h.2.2
  have hs := pShift_spec f r.feet
  have hbd := shiftR_bd f r.feet
  unfold repR
  generalize shiftR f r.feet = S at *
  refine VFun.enter (env_none (by decide)) Tryd.func15 rfl (by kernel_rfl) (by simp [Tryd.ntmps15]) ?_
  by_cases h0 : rchk r = 0
  · obtain ⟨-, -, h1, h2, -⟩ := rchk_ok h0
    have hr := rebuilt1_spec r (r.first - S.1) r.wind (by omega) (by omega)
    rw [h0] at hc ⊢
    rw [if_neg (by decide)]
    by_cases a1 : firOk (r.first - S.1)
    · rw [if_pos a1]
      rw [show rebR r (r.first - S.1) r.wind = (.agg (Enc.enc { r with first := r.first - S.1, wind := r.wind }), 0) by unfold rebR; rw [if_neg (by omega), if_neg (Classical.not_not.2 a1)]] at hr
      repeat' (first
        | (refine VOps.atOp 36 ?_; refine VOps.ghost (Ghost.freeze 35 rfl rfl) ?_)
        | apply VWp.assoc
        | apply VWp.rseq
        | apply VWp.skipSeq
        | apply VWp.retSeq
        | apply VWp.ret
        | apply VOps.nil
        | apply VOps.one
        | (apply VVal.fn; rfl; rfl; exact hc; intro _; rfl)
        | (apply VVal.fn; rfl; rfl; exact hs; intro _; rfl)
        | (apply VVal.fn; rfl; rfl; exact hr; intro _; rfl)
        | (apply VVal.assign; rfl)
        | (apply VVal.move; rfl)
        | (apply VVal.sub64; rfl; rfl; omega)
        | (apply VVal.int; rfl; rfl; rfl)
        | (apply VVal.load; rfl; rfl)
        | (apply VVal.fieldB; rfl; rfl; rfl)
        | (apply VVal.box; rfl; trivial)
        | (apply VVal.alloc; rfl)
        | (apply VVal.storeB; rfl; rfl; rfl; trivial; rfl; rfl; exact lt_dec rfl; exact le_dec rfl)
        | (apply VVal.build; rfl; rfl; rfl; rfl; rfl)
        | (apply VVal.buildSlice; rfl; rfl; rfl; decide; rfl; rfl; rfl)
        | (apply VVal.extract; rfl; rfl)
        | (apply VWp.condSeq_false; rfl)
        | (apply VWp.condSeq_dec; rfl)
        | (intro _; try (exfalso; omega)))
      all_goals first | (exfalso; omega) | (rw [if_pos (by assumption)]; (refine Done.ret rfl (.refl _) (by first | exact trivial | exact ⟨trivial, trivial, trivial⟩ | exact ⟨trivial, trivial, trivial, trivial⟩) HCov.nil (Nat.zero_le _) (Nat.le_refl _) ⟨?_, rfl, rfl⟩; try rfl); done) | (rw [if_neg (by assumption)]; (refine Done.ret rfl (.refl _) (by first | exact trivial | exact ⟨trivial, trivial, trivial⟩ | exact ⟨trivial, trivial, trivial, trivial⟩) HCov.nil (Nat.zero_le _) (Nat.le_refl _) ⟨?_, rfl, rfl⟩; try rfl); done)
    · rw [if_neg a1]
      rw [show rebR r (r.first - S.1) r.wind = (zeroF, 3) by unfold rebR; rw [if_neg (by omega), if_pos a1]] at hr
      repeat' (first
        | (refine VOps.atOp 36 ?_; refine VOps.ghost (Ghost.freeze 35 rfl rfl) ?_)
        | apply VWp.assoc
        | apply VWp.rseq
        | apply VWp.skipSeq
        | apply VWp.retSeq
        | apply VOps.nil
        | apply VOps.one
        | (apply VVal.fn; rfl; rfl; exact hc; intro _; rfl)
        | (apply VVal.fn; rfl; rfl; exact hs; intro _; rfl)
        | (apply VVal.fn; rfl; rfl; exact hr; intro _; rfl)
        | (apply VVal.assign; rfl)
        | (apply VVal.move; rfl)
        | (apply VVal.sub64; rfl; rfl; omega)
        | (apply VVal.int; rfl; rfl; rfl)
        | (apply VVal.load; rfl; rfl)
        | (apply VVal.fieldB; rfl; rfl; rfl)
        | (apply VVal.box; rfl; trivial)
        | (apply VVal.alloc; rfl)
        | (apply VVal.storeB; rfl; rfl; rfl; trivial; rfl; rfl; exact lt_dec rfl; exact le_dec rfl)
        | (apply VVal.build; rfl; rfl; rfl; rfl; rfl)
        | (apply VVal.buildSlice; rfl; rfl; rfl; decide; rfl; rfl; rfl)
        | (apply VVal.extract; rfl; rfl)
        | (apply VWp.condSeq_true; rfl)
        | (apply VWp.condSeq_false; rfl)
        | (apply VWp.condSeq_dec; rfl)
        | (intro _; try (exfalso; omega)))
      all_goals first | (exfalso; omega) | (rw [if_pos (by assumption)]; (refine Done.ret rfl (.refl _) (by first | exact trivial | exact ⟨trivial, trivial, trivial⟩ | exact ⟨trivial, trivial, trivial, trivial⟩) HCov.nil (Nat.zero_le _) (Nat.le_refl _) ⟨?_, rfl, rfl⟩; try rfl); done) | (rw [if_neg (by assumption)]; (refine Done.ret rfl (.refl _) (by first | exact trivial | exact ⟨trivial, trivial, trivial⟩ | exact ⟨trivial, trivial, trivial, trivial⟩) HCov.nil (Nat.zero_le _) (Nat.le_refl _) ⟨?_, rfl, rfl⟩; try rfl); done)
  · rw [if_pos h0]
    repeat' (first
      | apply VWp.assoc
      | apply VWp.rseq
      | apply VWp.retSeq
      | apply VOps.nil
      | apply VOps.one
      | (apply VVal.fn; rfl; rfl; exact hc; intro _; rfl)
      | (apply VVal.assign; rfl)
      | (apply VVal.move; rfl)
      | (apply VVal.int; rfl; rfl; rfl)
      | (apply VVal.load; rfl; rfl)
      | (apply VVal.box; rfl; trivial)
      | (apply VVal.alloc; rfl)
      | (apply VVal.storeB; rfl; rfl; rfl; trivial; rfl; rfl; exact lt_dec rfl; exact le_dec rfl)
      | (apply VVal.build; rfl; rfl; rfl; rfl; rfl)
      | (apply VWp.condSeq_dec; rfl)
      | (intro _; try (exfalso; omega)))
    all_goals first | (exfalso; omega) | (refine Done.ret rfl (.refl _) (by first | exact trivial | exact ⟨trivial, trivial, trivial⟩ | exact ⟨trivial, trivial, trivial, trivial⟩) HCov.nil (Nat.zero_le _) (Nat.le_refl _) ⟨?_, rfl, rfl⟩; try rfl)
end Go.Proofs.YtabjkjgpaahbhaaDoor
