/-
  The layer of ranks: Slice, Join; what Make returns is right. Conditions: in each statement.
-/
import Derived.Test.YtabjkjgpaahbhaaDoorRkK
set_option linter.unusedSimpArgs false
set_option linter.unusedVariables false
namespace Go.Proofs.YtabjkjgpaahbhaaDoor
open Go Go.Am Go.Vm
attribute [local irreducible] VVal VOps VOpsD VWp VCalls VFun VFunV QSeq QBlk QLoop Vm.Done DoneV DoneI
attribute [local irreducible] rchk windsE shz shiftR pipE

noncomputable def sliR (r : Rnk) (f p : Int) : FV × Int := if pipE r f ≠ 0 then (zeroF, pipE r f) else if p < 1 ∨ p > r.wind.length - f then (zeroF, 3) else rebR r (r.first + f) ((r.wind.drop f.toNat).take ((f + p).toNat - f.toNat))
set_option maxRecDepth 100000 in
set_option maxHeartbeats 1000000 in
theorem slice_spec (r : Rnk) (f p : Int) (h : rLen r) : VFun env 28 [.agg (Enc.enc r), .int .i64 f, .int .i64 p] (.tup [.p (sliR r f p).1, .p (.int .i64 (sliR r f p).2)]) := by
  have hp := pipe_spec r f h
  unfold sliR
  refine VFun.enter (env_none (by decide)) Tryd.func28 rfl (by kernel_rfl) (by simp [Tryd.ntmps28]) ?_
  by_cases h0 : pipE r f = 0
  · obtain ⟨h1, h2, h3⟩ := pipE_ok h0
    obtain ⟨-, -, h4, h5, -⟩ := rchk_ok h1
    rw [h0] at hp ⊢
    rw [if_neg (by decide)]
    by_cases h6 : p < 1 ∨ p > r.wind.length - f
    · rw [if_pos h6]
      repeat' (first
        | apply VWp.assoc
        | apply VWp.rseq
        | apply VWp.skipSeq
        | apply VWp.retSeq
        | apply VOps.nil
        | apply VOps.one
        | (apply VOps.take; rfl; rfl)
        | (apply VOps.drop; rfl; rfl; rfl)
        | (apply VOps.guard; rfl; rfl)
        | (apply VVal.fn; rfl; rfl; exact hp; intro _; rfl)
        | (apply VVal.assign; rfl)
        | (apply VVal.move; rfl)
        | (apply VVal.sub64; rfl; rfl; omega)
        | (apply VVal.int; rfl; rfl; rfl)
        | (apply VVal.load; rfl; rfl)
        | (apply VVal.pick_true; rfl; rfl)
        | (apply VVal.pick_false; rfl; rfl)
        | (apply VVal.lenF; rfl; rfl)
        | (apply VVal.fieldB; rfl; rfl; rfl)
        | (apply VVal.box; rfl; trivial)
        | (apply VVal.alloc; rfl)
        | (apply VVal.storeB; rfl; rfl; rfl; trivial; rfl; rfl; exact lt_dec rfl; exact le_dec rfl)
        | (apply VVal.build; rfl; rfl; rfl; rfl; rfl)
        | (apply VWp.condSeq_true; rfl)
        | (apply VWp.condSeq_false; rfl)
        | (apply VWp.condSeq_dec; rfl)
        | (intro _; try (exfalso; omega)))
      all_goals first | (exfalso; omega) | (refine Done.ret rfl (.refl _) (by first | exact trivial | exact ⟨trivial, trivial, trivial⟩ | exact ⟨trivial, trivial, trivial, trivial⟩) HCov.nil (Nat.zero_le _) (Nat.le_refl _) ⟨?_, rfl, rfl⟩; try rfl)
    · rw [if_neg h6]
      have hla : ((r.wind.drop f.toNat).take ((f + p).toNat - f.toNat)).length = (f + p).toNat - f.toNat := by rw [List.length_take, List.length_drop]; omega
      have hr := rebuilt1_spec r (r.first + f) ((r.wind.drop f.toNat).take ((f + p).toNat - f.toNat)) (by omega) (by omega)
      rw [hla] at hr
      obtain ⟨c0, c1, c2, c3, c4, c5, e, he⟩ := rebR_six r (r.first + f) ((r.wind.drop f.toNat).take ((f + p).toNat - f.toNat))
      rw [he] at hr ⊢
      repeat' (first
        | (refine VOpsD.atOp 41 ?_; refine VOpsD.ghost (Ghost.freeze 40 rfl rfl) ?_)
        | apply VWp.assoc
        | apply VWp.rseq
        | apply VWp.rseqD
        | apply VWp.skipSeq
        | apply VWp.ret
        | apply VOps.nil
        | apply VOpsD.nil
        | apply VOps.one
        | (apply VOpsD.bar; decide +kernel)
        | apply VOpsD.quiet
        | (apply VOps.take; rfl; rfl)
        | (apply VOps.guard; rfl; rfl)
        | (apply VVal.fn; rfl; rfl; exact hp; intro _; rfl)
        | (apply VVal.fn; rfl; rfl; exact hr; intro _; rfl)
        | (apply VVal.sliceFT ; rfl ; rfl ; rfl ; rfl ; rfl ; rfl ; rfl ; omega)
        | (apply VVal.assign; rfl)
        | (apply VVal.move; rfl)
        | (apply VVal.add64; rfl; rfl; omega)
        | (apply VVal.sub64; rfl; rfl; omega)
        | (apply VVal.int; rfl; rfl; rfl)
        | (apply VVal.load; rfl; rfl)
        | (apply VVal.pick_false; rfl; rfl)
        | (apply VVal.lenF; rfl; rfl)
        | (apply VVal.fieldB; rfl; rfl; rfl)
        | (apply VVal.box; rfl; trivial)
        | (apply VVal.alloc; rfl)
        | (apply VVal.storeB; rfl; rfl; rfl; trivial; rfl; rfl; exact lt_dec rfl; exact le_dec rfl)
        | (apply VVal.buildSlice; rfl; rfl; rfl; decide; rfl; rfl; rfl)
        | (apply VVal.extract; rfl; rfl)
        | (apply VWp.condSeq_false; rfl)
        | (apply VWp.condSeq_dec; rfl)
        | (intro _; try (exfalso; omega)))
      all_goals first | (exfalso; omega) | (refine Done.ret rfl (.refl _) (by first | exact trivial | exact ⟨trivial, trivial, trivial⟩ | exact ⟨trivial, trivial, trivial, trivial⟩) HCov.nil (Nat.zero_le _) (Nat.le_refl _) ⟨?_, rfl, rfl⟩; try rfl)
  · rw [if_pos h0]
    repeat' (first
      | apply VWp.assoc
      | apply VWp.rseq
      | apply VWp.retSeq
      | apply VOps.nil
      | apply VOps.one
      | (apply VVal.fn; rfl; rfl; exact hp; intro _; rfl)
      | (apply VVal.assign; rfl)
      | (apply VVal.move; rfl)
      | (apply VVal.int; rfl; rfl; rfl)
      | (apply VVal.load; rfl; rfl)
      | (apply VVal.box; rfl; trivial)
      | (apply VVal.alloc; rfl)
      | (apply VVal.storeB; rfl; rfl; rfl; trivial; rfl; rfl; exact lt_dec rfl; exact le_dec rfl)
      | (apply VVal.build; rfl; rfl; rfl; rfl; rfl)
      | (apply VWp.condSeq_dec; rfl)
      | (intro _; try (exfalso; omega)))
    all_goals first | (exfalso; omega) | (refine Done.ret rfl (.refl _) (by first | exact trivial | exact ⟨trivial, trivial, trivial⟩ | exact ⟨trivial, trivial, trivial, trivial⟩) HCov.nil (Nat.zero_le _) (Nat.le_refl _) ⟨?_, rfl, rfl⟩; try rfl)

noncomputable def joiR (a b : Rnk) : FV × Int := if rchk a ≠ 0 then (zeroF, rchk a) else if rchk b ≠ 0 then (zeroF, rchk b) else if ¬ (a.tone = b.tone ∧ a.feet = b.feet) then (zeroF, 14) else if b.first ≠ a.first + a.wind.length then (zeroF, 6) else rebR a a.first (a.wind ++ b.wind)
set_option maxRecDepth 100000 in
set_option maxHeartbeats 1000000 in
theorem join_spec (a b : Rnk) (ha : rLen a) (hb : rLen b) : VFun env 29 [.agg (Enc.enc a), .agg (Enc.enc b)] (.tup [.p (joiR a b).1, .p (.int .i64 (joiR a b).2)]) := by
  have hc := rcheck_spec a ha.1 ha.2.1 ha.2.2
  have hd := rcheck_spec b hb.1 hb.2.1 hb.2.2
  have hf := eqFrac a.feet b.feet
  unfold joiR
  refine VFun.enter (env_none (by decide)) Tryd.func29 rfl (by kernel_rfl) (by simp [Tryd.ntmps29]) ?_
  by_cases h0 : rchk a = 0
  · obtain ⟨-, -, h4, h5, -⟩ := rchk_ok h0
    rw [h0] at hc ⊢
    rw [if_neg (by decide)]
    by_cases h1 : rchk b = 0
    · obtain ⟨-, -, h6, h7, -⟩ := rchk_ok h1
      rw [h1] at hd ⊢
      rw [if_neg (by decide)]
      by_cases h2 : a.tone = b.tone ∧ a.feet = b.feet
      · rw [if_neg (Classical.not_not.2 h2)]
        have g1 := decide_eq_true h2.1
        rw [decide_eq_true h2.2] at hf
        by_cases h3 : b.first = a.first + a.wind.length
        · rw [if_neg (Classical.not_not.2 h3)]
          have hr := rebuilt2_spec a a.first a.wind b.wind (by omega) (by omega)
          obtain ⟨c0, c1, c2, c3, c4, c5, e, he⟩ := rebR_six a a.first (a.wind ++ b.wind)
          rw [he] at hr ⊢
          repeat' (first
            | (refine VOps.atOp 53 ?_; refine VOps.ghost (Ghost.freeze 52 rfl rfl) ?_)
            | apply VWp.assoc
            | apply VWp.rseq
            | apply VWp.skipSeq
            | apply VWp.blockSeq
            | apply QSeq.normal
            | apply QBlk.normal
            | apply VWp.ret
            | apply VWp.skip
            | apply VOps.nil
            | apply VOps.one
            | (apply VOps.take; rfl; rfl)
            | (apply VVal.fn; rfl; rfl; exact hc; intro _; rfl)
            | (apply VVal.fn; rfl; rfl; exact hd; intro _; rfl)
            | (apply VVal.fn; rfl; rfl; exact hr; intro _; rfl)
            | (apply VVal.neSd ; rfl ; rfl ; exact g1)
            | (apply VVal.neSt1 ; rfl ; rfl ; exact freeFrac ; exact hf)
            | (apply VVal.assign; rfl)
            | (apply VVal.move; rfl)
            | (apply VVal.add64; rfl; rfl; omega)
            | (apply VVal.int; rfl; rfl; rfl)
            | (apply VVal.load; rfl; rfl)
            | (apply VVal.pick_false; rfl; rfl)
            | (apply VVal.lenF; rfl; rfl)
            | (apply VVal.fieldB; rfl; rfl; rfl)
            | (apply VVal.box; rfl; trivial)
            | (apply VVal.alloc; rfl)
            | (apply VVal.storeB; rfl; rfl; rfl; trivial; rfl; rfl; exact lt_dec rfl; exact le_dec rfl)
            | (apply VVal.buildSlice; rfl; rfl; rfl; decide; rfl; rfl; rfl)
            | (apply VVal.extract; rfl; rfl)
            | (apply VWp.condSeq_false; rfl)
            | (apply VWp.cond_false; rfl)
            | (apply VWp.cond_dec; rfl)
            | (intro _; try (exfalso; omega)))
          all_goals first | (exfalso; omega) | contradiction | (refine Done.ret rfl (.refl _) (by first | exact trivial | exact ⟨trivial, trivial, trivial⟩ | exact ⟨trivial, trivial, trivial, trivial⟩) HCov.nil (Nat.zero_le _) (Nat.le_refl _) ⟨?_, rfl, rfl⟩; try rfl)
        · rw [if_pos h3]
          repeat' (first
            | apply VWp.assoc
            | apply VWp.rseq
            | apply VWp.skipSeq
            | apply VWp.blockSeq
            | apply QSeq.ret
            | apply QBlk.ret
            | apply VWp.ret
            | apply VOps.nil
            | apply VOps.one
            | (apply VOps.take; rfl; rfl)
            | (apply VVal.fn; rfl; rfl; exact hc; intro _; rfl)
            | (apply VVal.fn; rfl; rfl; exact hd; intro _; rfl)
            | (apply VVal.neSd ; rfl ; rfl ; exact g1)
            | (apply VVal.neSt1 ; rfl ; rfl ; exact freeFrac ; exact hf)
            | (apply VVal.assign; rfl)
            | (apply VVal.move; rfl)
            | (apply VVal.add64; rfl; rfl; omega)
            | (apply VVal.int; rfl; rfl; rfl)
            | (apply VVal.load; rfl; rfl)
            | (apply VVal.pick_false; rfl; rfl)
            | (apply VVal.lenF; rfl; rfl)
            | (apply VVal.fieldB; rfl; rfl; rfl)
            | (apply VVal.box; rfl; trivial)
            | (apply VVal.alloc; rfl)
            | (apply VVal.storeB; rfl; rfl; rfl; trivial; rfl; rfl; exact lt_dec rfl; exact le_dec rfl)
            | (apply VVal.build; rfl; rfl; rfl; rfl; rfl)
            | (apply VWp.condSeq_false; rfl)
            | (apply VWp.cond_false; rfl)
            | (apply VWp.cond_dec; rfl)
            | (intro _; try (exfalso; omega)))
          all_goals first | (exfalso; omega) | contradiction | (refine Done.ret rfl (.refl _) (by first | exact trivial | exact ⟨trivial, trivial, trivial⟩ | exact ⟨trivial, trivial, trivial, trivial⟩) HCov.nil (Nat.zero_le _) (Nat.le_refl _) ⟨?_, rfl, rfl⟩; try rfl)
      · rw [if_pos h2]
        by_cases h3 : a.tone = b.tone
        · have g1 := decide_eq_true h3
          rw [decide_eq_false (show ¬ a.feet = b.feet from fun h => h2 ⟨h3, h⟩)] at hf
          repeat' (first
            | apply VWp.assoc
            | apply VWp.rseq
            | apply VWp.skipSeq
            | apply VWp.blockSeq
            | apply QSeq.ret
            | apply QBlk.ret
            | apply VWp.ret
            | apply VOps.nil
            | apply VOps.one
            | (apply VOps.take; rfl; rfl)
            | (apply VVal.fn; rfl; rfl; exact hc; intro _; rfl)
            | (apply VVal.fn; rfl; rfl; exact hd; intro _; rfl)
            | (apply VVal.neSd ; rfl ; rfl ; exact g1)
            | (apply VVal.neSt1 ; rfl ; rfl ; exact freeFrac ; exact hf)
            | (apply VVal.assign; rfl)
            | (apply VVal.move; rfl)
            | (apply VVal.int; rfl; rfl; rfl)
            | (apply VVal.load; rfl; rfl)
            | (apply VVal.pick_false; rfl; rfl)
            | (apply VVal.fieldB; rfl; rfl; rfl)
            | (apply VVal.box; rfl; trivial)
            | (apply VVal.alloc; rfl)
            | (apply VVal.storeB; rfl; rfl; rfl; trivial; rfl; rfl; exact lt_dec rfl; exact le_dec rfl)
            | (apply VVal.build; rfl; rfl; rfl; rfl; rfl)
            | (apply VWp.condSeq_false; rfl)
            | (apply VWp.cond_true; rfl))
          all_goals first | (exfalso; omega) | contradiction | (refine Done.ret rfl (.refl _) (by first | exact trivial | exact ⟨trivial, trivial, trivial⟩ | exact ⟨trivial, trivial, trivial, trivial⟩) HCov.nil (Nat.zero_le _) (Nat.le_refl _) ⟨?_, rfl, rfl⟩; try rfl)
        · have g1 := decide_eq_false h3
          repeat' (first
            | apply VWp.assoc
            | apply VWp.rseq
            | apply VWp.skipSeq
            | apply VWp.blockSeq
            | apply QSeq.ret
            | apply QBlk.ret
            | apply VWp.ret
            | apply VOps.nil
            | apply VOps.one
            | (apply VOps.drop; rfl; rfl; rfl)
            | (apply VVal.fn; rfl; rfl; exact hc; intro _; rfl)
            | (apply VVal.fn; rfl; rfl; exact hd; intro _; rfl)
            | (apply VVal.neSd ; rfl ; rfl ; exact g1)
            | (apply VVal.assign; rfl)
            | (apply VVal.move; rfl)
            | (apply VVal.int; rfl; rfl; rfl)
            | (apply VVal.load; rfl; rfl)
            | (apply VVal.pick_true; rfl; rfl)
            | (apply VVal.fieldB; rfl; rfl; rfl)
            | (apply VVal.box; rfl; trivial)
            | (apply VVal.alloc; rfl)
            | (apply VVal.storeB; rfl; rfl; rfl; trivial; rfl; rfl; exact lt_dec rfl; exact le_dec rfl)
            | (apply VVal.build; rfl; rfl; rfl; rfl; rfl)
            | (apply VWp.condSeq_false; rfl)
            | (apply VWp.cond_true; rfl))
          all_goals first | (exfalso; omega) | contradiction | (refine Done.ret rfl (.refl _) (by first | exact trivial | exact ⟨trivial, trivial, trivial⟩ | exact ⟨trivial, trivial, trivial, trivial⟩) HCov.nil (Nat.zero_le _) (Nat.le_refl _) ⟨?_, rfl, rfl⟩; try rfl)
    · rw [if_pos h1]
      repeat' (first
        | apply VWp.assoc
        | apply VWp.rseq
        | apply VWp.skipSeq
        | apply VWp.retSeq
        | apply VOps.nil
        | apply VOps.one
        | (apply VVal.fn; rfl; rfl; exact hc; intro _; rfl)
        | (apply VVal.fn; rfl; rfl; exact hd; intro _; rfl)
        | (apply VVal.assign; rfl)
        | (apply VVal.move; rfl)
        | (apply VVal.int; rfl; rfl; rfl)
        | (apply VVal.load; rfl; rfl)
        | (apply VVal.box; rfl; trivial)
        | (apply VVal.alloc; rfl)
        | (apply VVal.storeB; rfl; rfl; rfl; trivial; rfl; rfl; exact lt_dec rfl; exact le_dec rfl)
        | (apply VVal.build; rfl; rfl; rfl; rfl; rfl)
        | (apply VWp.condSeq_false; rfl)
        | (apply VWp.condSeq_dec; rfl)
        | (intro _; try (exfalso; omega)))
      all_goals first | (exfalso; omega) | (refine Done.ret rfl (.refl _) (by first | exact trivial | exact ⟨trivial, trivial, trivial⟩ | exact ⟨trivial, trivial, trivial, trivial⟩) HCov.nil (Nat.zero_le _) (Nat.le_refl _) ⟨?_, rfl, rfl⟩; try rfl)
  · rw [if_pos h0]
    repeat' (first
      | apply VWp.assoc
      | apply VWp.rseq
      | apply VWp.retSeq
      | apply VOps.nil
      | apply VOps.one
      | (apply VVal.fn; rfl; rfl; exact hc; intro _; rfl)
      | (apply VVal.assign; rfl)
      | (apply VVal.move; rfl)
      | (apply VVal.int; rfl; rfl; rfl)
      | (apply VVal.load; rfl; rfl)
      | (apply VVal.box; rfl; trivial)
      | (apply VVal.alloc; rfl)
      | (apply VVal.storeB; rfl; rfl; rfl; trivial; rfl; rfl; exact lt_dec rfl; exact le_dec rfl)
      | (apply VVal.build; rfl; rfl; rfl; rfl; rfl)
      | (apply VWp.condSeq_dec; rfl)
      | (intro _; try (exfalso; omega)))
    all_goals first | (exfalso; omega) | (refine Done.ret rfl (.refl _) (by first | exact trivial | exact ⟨trivial, trivial, trivial⟩ | exact ⟨trivial, trivial, trivial, trivial⟩) HCov.nil (Nat.zero_le _) (Nat.le_refl _) ⟨?_, rfl, rfl⟩; try rfl)

/-! ## what Make returns -/
theorem tones_ok : ∀ n, n < 3 → nameOk (gi tones n)
  | 0, _ => name_open
  | 1, _ => by
    refine ⟨by decide, by decide, by decide, fun i h1 h2 => ?_⟩
    have : i = 1 ∨ i = 2 ∨ i = 3 ∨ i = 4 := by simp [tones, gi] at h2; omega
    rcases this with rfl | rfl | rfl | rfl <;> exact .inl (by decide)
  | 2, _ => by
    refine ⟨by decide, by decide, by decide, fun i h1 h2 => ?_⟩
    have : i = 1 ∨ i = 2 ∨ i = 3 := by simp [tones, gi] at h2; omega
    rcases this with rfl | rfl | rfl <;> exact .inl (by decide)
theorem feet_ok : ∀ n, n < 16 → pOk (gi feetL n) := by decide +kernel
theorem windK_gi (x : RPlan) : ∀ k i, i < k → gi (windK x k) i = ((gi x.wind (i % 5) : Nat) : Int)
  | k + 1, i, h => by
    rcases Nat.lt_or_ge i k with h1 | h1
    · have : gi (windK x (k + 1)) i = gi (windK x k) i := by simp [windK, gi, List.getElem?_append_left (show i < (windK x k).length by rw [windK_len]; exact h1)]
      rw [this]; exact windK_gi x k i h1
    · obtain rfl : i = k := by omega
      simp [windK, gi, List.getElem?_append_right (show (windK x i).length ≤ i by rw [windK_len]; exact Nat.le_refl _), windK_len]
theorem mkR_ok (x : RPlan) (hx : x.Ok) (i : Int) (hi : 0 ≤ i) : rchk (mkR x i) = 0 := by
  obtain ⟨h1, h2, h3, h4, h5⟩ := hx
  refine rchk_intro ⟨by simp [mkR], by simp [mkR], (show isL (82 : UInt8).toNat by decide), fun j j1 j2 => ?_⟩ (tones_ok _ (Nat.mod_lt _ (by decide))) (feet_ok _ (Nat.mod_lt _ (by decide))) ⟨by simp only [mkR]; omega, by simp only [mkR]; omega⟩ ⟨by simp only [mkR, windK_len]; omega, by simp only [mkR, windK_len]; omega⟩ (fun j hj => ?_)
  · obtain rfl : j = 1 := by simp [mkR] at j2; omega
    have e : (gi (mkR x i).name 1).toNat = (48 + i % 10).toNat := by
      show (UInt8.ofNat (48 + i % 10).toNat).toNat = _
      rw [UInt8.toNat_ofNat']; omega
    rw [e]
    right; left; omega
  · simp only [mkR, windK_len] at hj ⊢
    rw [windK_gi x _ j hj]
    have := h5 (j % 5)
    unfold badW
    omega
theorem gi_lt {α : Type} [Inhabited α] {l : List α} {P : α → Prop} (h : ∀ a ∈ l, P a) {n : Nat} (hn : n < l.length) : P (gi l n) := by
  simp only [gi, List.getElem?_eq_getElem hn, Option.getD_some]
  exact h _ (List.getElem_mem hn)
theorem mkR_len (x : RPlan) (i : Int) : rLen (mkR x i) := by
  refine ⟨by simp [mkR], ?_, by simp only [mkR, windK_len]; omega⟩
  show (gi tones (x.tone % 3)).length < _
  exact Nat.lt_of_le_of_lt (gi_lt (P := fun l => l.length ≤ 5) (by decide) (show x.tone % 3 < tones.length from Nat.mod_lt _ (by decide))) (by decide)
theorem mkR_wind (x : RPlan) (i : Int) : (mkR x i).wind.length ≤ 25 := by simp only [mkR, windK_len]; omega

/-! ## the zero rank -/
def zeroR : Rnk := ⟨[], [], ⟨0, 0⟩, 0, []⟩
theorem zeroF_le : FLe zeroF (.agg (Enc.enc zeroR)) := .agg (.cons (.refl _) (.cons (.refl _) (.cons (.refl _) (.cons (.refl _) (.cons (.refl _) (.cons (.nil _) (.refl _)))))))
theorem zeroR_len : rLen zeroR := by unfold rLen zeroR; simp
theorem same_zz : VFun env 16 [zeroF, zeroF] (.p (.bool true)) := by
  have := same_spec zeroR zeroR zeroR_len zeroR_len
  rw [decide_eq_true rfl] at this
  exact VFun.le (.cons zeroF_le (.cons zeroF_le (.refl _))) this
theorem same_rr (r : Rnk) (h : rLen r) : VFun env 16 [.agg (Enc.enc r), .agg (Enc.enc r)] (.p (.bool true)) := by
  have := same_spec r r h h
  rw [decide_eq_true rfl] at this
  exact this
theorem shift_ok {x y : Frac} (hx : pOk x) (hy : pOk y) : (shiftR x y).2 = 0 := by
  unfold shiftR
  rw [if_neg (fun h => h (bothR_ok.2 ⟨hx, hy⟩))]
end Go.Proofs.YtabjkjgpaahbhaaDoor
