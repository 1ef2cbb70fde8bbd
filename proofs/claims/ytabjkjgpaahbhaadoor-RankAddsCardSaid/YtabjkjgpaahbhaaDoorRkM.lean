/-
  The laws of ranks: Sounds, Repitches. Conditions: in each statement.
-/
import Derived.Test.YtabjkjgpaahbhaaDoorRkL
set_option linter.unusedSimpArgs false
set_option linter.unusedVariables false
namespace Go.Proofs.YtabjkjgpaahbhaaDoor
open Go Go.Am Go.Vm
attribute [local irreducible] VVal VOps VOpsD VWp VCalls VFun VFunV QSeq QBlk QLoop Vm.Done DoneV DoneI

theorem pOk81 : pOk ⟨8, 1⟩ := by decide +kernel
theorem shN_self {n : Nat} (h : 0 < n) : shN n n = 0 := by
  unfold shN
  have e1 : sh1 n 30 n 0 = (n, 0) := by rw [sh1, if_neg (by omega)]
  have e2 : sh2 n 30 n 0 = (n, 0) := by rw [sh2, if_neg (by omega)]
  rw [e1]; simp only; rw [e2]; simp only
  rw [sh3, if_neg (by omega)]
theorem shift_self {x : Frac} (h : pOk x) : shiftR x x = (0, 0) := by
  unfold shiftR
  rw [if_neg (fun h' => h' (bothR_ok.2 ⟨h, h⟩))]
  have e : shz x x = 0 := by
    unfold shz
    rw [Int.mul_comm x.den x.num]
    refine shN_self ?_
    obtain ⟨⟨h1, -⟩, h2, -⟩ := h
    have := Int.mul_pos h2 h1
    omega
  rw [e]
theorem pchk_both {x y : Frac} (h : pchk x ≠ 0) : shiftR x y = (0, pchk x) := by
  have : bothR x y = pchk x := by unfold bothR; rw [if_pos h]
  unfold shiftR
  rw [this, if_pos h]
theorem pipE_bad {r : Rnk} {n : Int} (h : rchk r = 0) (h1 : ¬ (0 ≤ n ∧ n < r.wind.length)) : pipE r n = 10 := by
  unfold pipE
  rw [if_neg (fun h' => h' h), if_pos (by omega)]
attribute [local irreducible] rchk windsE shz shiftR pipE

set_option maxRecDepth 100000 in
set_option maxHeartbeats 1000000 in
theorem sounds_spec (x : RPlan) (hx : x.Ok) (n : Int) : VFun env 3 [.agg x.enc, .int .i64 n] (.p (.bool true)) := by
  have hk := known_spec
  have hm := make_spec x hx 0 (by omega)
  have hr := mkR_ok x hx 0 (by omega)
  have hl := mkR_len x 0
  generalize mkR x 0 = r at *
  obtain ⟨-, p1, p2, p3, -⟩ := rchk_ok hr
  have hbd := shiftR_bd r.feet ⟨8, 1⟩
  have hs := sounding_spec r n hl (fun h => by have := (pipE_ok h).2; omega) (by omega)
  have hh := pShift_spec r.feet ⟨8, 1⟩
  have he := shift_ok p1 pOk81
  unfold sndR at hs
  generalize shiftR r.feet ⟨8, 1⟩ = S at *
  refine VFun.enter (env_none (by decide)) Tryd.func3 rfl (by kernel_rfl) (by simp [Tryd.ntmps3]) ?_
  by_cases hn : 0 ≤ n ∧ n < r.wind.length
  · rw [if_neg (fun h => h (pipE_intro hr hn))] at hs
    by_cases hw : 0 ≤ r.first + n + S.1 ∧ r.first + n + S.1 ≤ 127
    · rw [if_neg (by omega)] at hs
      repeat' (first
        | apply VWp.assoc
        | apply VWp.rseq
        | apply VWp.skipSeq
        | apply VWp.retSeq
        | apply VWp.ret
        | apply VOps.nil
        | apply VOps.one
        | (apply VOps.take; rfl; rfl)
        | (apply VOps.drop; rfl; rfl; rfl)
        | (apply VOps.guard; rfl; rfl)
        | (apply VVal.fn; rfl; rfl; exact hk; intro _; rfl)
        | (apply VVal.fn; rfl; rfl; exact hm; intro _; rfl)
        | (apply VVal.fn; rfl; rfl; exact hs; intro _; rfl)
        | (apply VVal.fn; rfl; rfl; exact hh; intro _; rfl)
        | (apply VVal.assign; rfl)
        | (apply VVal.move; rfl)
        | (apply VVal.add64; rfl; rfl; omega)
        | (apply VVal.int; rfl; rfl; rfl)
        | (apply VVal.load; rfl; rfl)
        | (apply VVal.pick_true; rfl; rfl)
        | (apply VVal.pick_false; rfl; rfl)
        | (apply VVal.lenF; rfl; rfl)
        | (apply VVal.fieldB; rfl; rfl; rfl)
        | (apply VVal.box; rfl; trivial)
        | (apply VVal.alloc; rfl)
        | (apply VVal.storeB; rfl; rfl; rfl; trivial; rfl; rfl; exact lt_dec rfl; exact le_dec rfl)
        | (apply VVal.build; rfl; rfl; rfl; rfl; rfl)
        | (apply VVal.neB; rfl; rfl; rfl)
        | (apply VVal.not; rfl)
        | (apply VVal.extract; rfl; rfl)
        | (apply VWp.condSeq_false; rfl)
        | (apply VWp.condSeq_dec; rfl)
        | (apply VWp.condSeq; rfl)
        | (intro _; try (exfalso; omega)))
      all_goals first | (exfalso; omega) | contradiction | (refine Done.ret rfl (.refl _) (by first | exact trivial | exact ⟨trivial, trivial, trivial⟩ | exact ⟨trivial, trivial, trivial, trivial⟩) HCov.nil (Nat.zero_le _) (Nat.le_refl _) ⟨?_, rfl, rfl⟩; rfl) | (refine Done.ret rfl (.refl _) (by first | exact trivial | exact ⟨trivial, trivial, trivial⟩ | exact ⟨trivial, trivial, trivial, trivial⟩) HCov.nil (Nat.zero_le _) (Nat.le_refl _) ⟨?_, rfl, rfl⟩; refine PV.bool_eq ?_; simp; done) | (exfalso; simp_all; done) | (exfalso; simp_all; omega)
    · rw [if_pos (by omega), he] at hs
      repeat' (first
        | apply VWp.assoc
        | apply VWp.rseq
        | apply VWp.skipSeq
        | apply VWp.retSeq
        | apply VWp.ret
        | apply VOps.nil
        | apply VOps.one
        | (apply VOps.take; rfl; rfl)
        | (apply VOps.drop; rfl; rfl; rfl)
        | (apply VOps.guard; rfl; rfl)
        | (apply VOps.dropU; rfl; rfl)
        | (apply VVal.fn; rfl; rfl; exact hk; intro _; rfl)
        | (apply VVal.fn; rfl; rfl; exact hm; intro _; rfl)
        | (apply VVal.fn; rfl; rfl; exact hs; intro _; rfl)
        | (apply VVal.fn; rfl; rfl; exact hh; intro _; rfl)
        | (apply VVal.assign; rfl)
        | (apply VVal.move; rfl)
        | (apply VVal.add64; rfl; rfl; omega)
        | (apply VVal.int; rfl; rfl; rfl)
        | (apply VVal.load; rfl; rfl)
        | (apply VVal.pick_true; rfl; rfl)
        | (apply VVal.pick_false; rfl; rfl)
        | (apply VVal.lenF; rfl; rfl)
        | (apply VVal.fieldB; rfl; rfl; rfl)
        | (apply VVal.box; rfl; trivial)
        | (apply VVal.alloc; rfl)
        | (apply VVal.storeB; rfl; rfl; rfl; trivial; rfl; rfl; exact lt_dec rfl; exact le_dec rfl)
        | (apply VVal.build; rfl; rfl; rfl; rfl; rfl)
        | (apply VVal.neB; rfl; rfl; rfl)
        | (apply VVal.not; rfl)
        | (apply VVal.extract; rfl; rfl)
        | (apply VWp.condSeq_false; rfl)
        | (apply VWp.condSeq_dec; rfl)
        | (apply VWp.condSeq; rfl)
        | (intro _; try (exfalso; omega)))
      all_goals first | (exfalso; omega) | contradiction | (refine Done.ret rfl (.refl _) (by first | exact trivial | exact ⟨trivial, trivial, trivial⟩ | exact ⟨trivial, trivial, trivial, trivial⟩) HCov.nil (Nat.zero_le _) (Nat.le_refl _) ⟨?_, rfl, rfl⟩; rfl) | (refine Done.ret rfl (.refl _) (by first | exact trivial | exact ⟨trivial, trivial, trivial⟩ | exact ⟨trivial, trivial, trivial, trivial⟩) HCov.nil (Nat.zero_le _) (Nat.le_refl _) ⟨?_, rfl, rfl⟩; refine PV.bool_eq ?_; simp; done) | (exfalso; simp_all; done) | (exfalso; simp_all; omega)
  · rw [if_pos (by rw [pipE_bad hr hn]; decide), pipE_bad hr hn] at hs
    repeat' (first
      | apply VWp.assoc
      | apply VWp.rseq
      | apply VWp.skipSeq
      | apply VWp.retSeq
      | apply VOps.nil
      | apply VOps.one
      | (apply VOps.take; rfl; rfl)
      | (apply VOps.drop; rfl; rfl; rfl)
      | (apply VOps.guard; rfl; rfl)
      | (apply VVal.fn; rfl; rfl; exact hk; intro _; rfl)
      | (apply VVal.fn; rfl; rfl; exact hm; intro _; rfl)
      | (apply VVal.fn; rfl; rfl; exact hs; intro _; rfl)
      | (apply VVal.assign; rfl)
      | (apply VVal.move; rfl)
      | (apply VVal.int; rfl; rfl; rfl)
      | (apply VVal.load; rfl; rfl)
      | (apply VVal.pick_true; rfl; rfl)
      | (apply VVal.pick_false; rfl; rfl)
      | (apply VVal.lenF; rfl; rfl)
      | (apply VVal.fieldB; rfl; rfl; rfl)
      | (apply VVal.box; rfl; trivial)
      | (apply VVal.alloc; rfl)
      | (apply VVal.storeB; rfl; rfl; rfl; trivial; rfl; rfl; exact lt_dec rfl; exact le_dec rfl)
      | (apply VVal.not; rfl)
      | (apply VVal.extract; rfl; rfl)
      | (apply VWp.condSeq_true; rfl)
      | (apply VWp.condSeq_false; rfl)
      | (apply VWp.condSeq_dec; rfl)
      | (intro _; try (exfalso; omega)))
    all_goals first | (exfalso; omega) | contradiction | (refine Done.ret rfl (.refl _) (by first | exact trivial | exact ⟨trivial, trivial, trivial⟩ | exact ⟨trivial, trivial, trivial, trivial⟩) HCov.nil (Nat.zero_le _) (Nat.le_refl _) ⟨?_, rfl, rfl⟩; rfl)


/-! ## Equals -/
set_option maxRecDepth 100000 in
set_option maxHeartbeats 1000000 in
theorem equals_spec (a b : Rnk) (ha : rLen a) (hb : rLen b) : VFun env 6 [.agg (Enc.enc a), .agg (Enc.enc b)] (.p (.bool true)) := by
  have hk := known_spec
  have f1 := few_spec a ha
  have f2 := few_spec b hb
  have he := requal_spec a b ha hb
  have hs := same_spec a b ha hb
  generalize decide (fewR a) = g1 at *
  generalize decide (fewR b) = g2 at *
  generalize decide (a = b) = g3 at *
  refine VFun.enter (env_none (by decide)) Tryd.func6 rfl (by kernel_rfl) (by simp [Tryd.ntmps6]) ?_
  cases g1 <;> cases g2 <;> cases g3
  all_goals
    repeat' (first
      | apply VWp.assoc
      | apply VWp.rseq
      | apply VWp.rseqD
      | apply VWp.skipSeq
      | apply VWp.retSeq
      | apply VWp.ret
      | apply VOps.nil
      | apply VOpsD.nil
      | apply VOps.one
      | (apply VOpsD.bar; decide +kernel)
      | apply VOpsD.quiet
      | (apply VOps.take; rfl; rfl)
      | (apply VOps.drop; rfl; rfl; rfl)
      | (apply VVal.fn; rfl; rfl; exact hk; intro _; rfl)
      | (apply VVal.fn; rfl; rfl; exact f1; intro _; rfl)
      | (apply VVal.fn; rfl; rfl; exact f2; intro _; rfl)
      | (apply VVal.fn; rfl; rfl; exact he; intro _; rfl)
      | (apply VVal.fn; rfl; rfl; exact hs; intro _; rfl)
      | (apply VVal.assign; rfl)
      | (apply VVal.move; rfl)
      | (apply VVal.load; rfl; rfl)
      | (apply VVal.pick_true; rfl; rfl)
      | (apply VVal.pick_false; rfl; rfl)
      | (apply VVal.box; rfl; trivial)
      | (apply VVal.eqB; rfl; rfl; rfl)
      | (apply VVal.not; rfl)
      | (apply VWp.condSeq_true; rfl)
      | (apply VWp.condSeq_false; rfl))
  all_goals first | contradiction | (refine Done.ret rfl (.refl _) (by first | exact trivial | exact ⟨trivial, trivial, trivial⟩ | exact ⟨trivial, trivial, trivial, trivial⟩) HCov.nil (Nat.zero_le _) (Nat.le_refl _) ⟨?_, rfl, rfl⟩; rfl)

/-! ## Pipes -/
theorem sum_eq (r : Rnk) : ∀ k, k ≤ r.wind.length → sumK r.wind k = sumK r.wind k := fun _ _ => rfl
set_option maxRecDepth 100000 in
set_option maxHeartbeats 1000000 in
theorem pipes_spec (x : RPlan) (hx : x.Ok) (note n : Int) : VFun env 7 [.agg x.enc, .int .i64 note, .int .i64 n] (.p (.bool true)) := by
  have hk := known_spec
  have hm := make_spec x hx 0 (by omega)
  have hr := mkR_ok x hx 0 (by omega)
  have hl := mkR_len x 0
  generalize mkR x 0 = r at *
  obtain ⟨-, p1, p2, p3, p4⟩ := rchk_ok hr
  have h1 := number_spec r note hl
  have h2 := note_spec r n hl
  have h3 := wind_spec r n hl
  have h4 := last_spec r hl
  have h5 := total_spec r hl
  have e5 : totR r = (sumK r.wind r.wind.length, 0) := by unfold totR; rw [if_neg (fun h => h hr)]
  have e4 : notR r (max 0 ((r.wind.length : Int) - 1)) = (r.first + r.wind.length - 1, 0) := by
    have e : max 0 ((r.wind.length : Int) - 1) = r.wind.length - 1 := by omega
    unfold notR
    rw [e, if_neg (fun h => h (pipE_intro hr (by omega)))]
    congr 1; omega
  have e1 : numR r note = if note < r.first ∨ note ≥ r.first + r.wind.length then (0, false, 0) else (note - r.first, true, 0) := by unfold numR; rw [if_neg (fun h => h hr)]
  rw [e5] at h5
  rw [e4] at h4
  rw [e1] at h1
  have hbd := sumK_bd p4 r.wind.length (Nat.le_refl _)
  refine VFun.enter (env_none (by decide)) Tryd.func7 rfl (by kernel_rfl) (by simp [Tryd.ntmps7]) ?_
  by_cases hn : 0 ≤ n ∧ n < r.wind.length
  · have e2 : notR r n = (r.first + n, 0) := by unfold notR; rw [if_neg (fun h => h (pipE_intro hr hn))]
    have e3 : wndR r n = (gi r.wind n.toNat, 0) := by unfold wndR; rw [if_neg (fun h => h (pipE_intro hr hn))]
    rw [e2] at h2
    rw [e3] at h3
    repeat' (first
      | apply VWp.assoc
      | apply VWp.rseq
      | apply VWp.skipSeq
      | apply VWp.blockSeq
      | apply VOps.nil
      | apply VOps.one
      | (apply VVal.fn; rfl; rfl; exact hk; intro _; rfl)
      | (apply VVal.fn; rfl; rfl; exact hm; intro _; rfl)
      | (apply VVal.fn; rfl; rfl; exact h1; intro _; rfl)
      | (apply VVal.fn; rfl; rfl; exact h2; intro _; rfl)
      | (apply VVal.fn; rfl; rfl; exact h3; intro _; rfl)
      | (apply VVal.fn; rfl; rfl; exact h4; intro _; rfl)
      | (apply VVal.fn; rfl; rfl; exact h5; intro _; rfl)
      | (apply VVal.assign; rfl)
      | (apply VVal.move; rfl)
      | (apply VVal.load; rfl; rfl)
      | (apply VVal.lenF; rfl; rfl)
      | (apply VVal.fieldB; rfl; rfl; rfl)
      | (apply VVal.box; rfl; trivial)
      | (apply VVal.alloc; rfl)
      | (apply VVal.storeB; rfl; rfl; rfl; trivial; rfl; rfl; exact lt_dec rfl; exact le_dec rfl)
      | (apply VVal.not; rfl)
      | (apply VVal.extract; rfl; rfl)
      | (apply VWp.condSeq_false; rfl))
    all_goals try contradiction
    refine VWp.loopQ (fun k : Nat => [(3, .ref 0 0), (7, .ref 1 0), (8, .p (.int .i64 (r.wind.length : Int))), (1, .p (.int .i64 note)), (2, .p (.int .i64 n)), (9, .p (.int .i64 (if note < r.first ∨ note ≥ r.first + r.wind.length then ((0 : Int), false, (0 : Int)) else (note - r.first, true, 0)).1)), (10, .p (.bool (if note < r.first ∨ note ≥ r.first + r.wind.length then ((0 : Int), false, (0 : Int)) else (note - r.first, true, 0)).2.1)), (11, .p (.int .i64 (if note < r.first ∨ note ≥ r.first + r.wind.length then ((0 : Int), false, (0 : Int)) else (note - r.first, true, 0)).2.2)), (12, .p (.int .i64 (r.first + n))), (13, .p (.int .i64 0)), (14, .p (.int .i64 (gi r.wind n.toNat))), (15, .p (.int .i64 0)), (16, .p (.int .i64 (r.first + r.wind.length - 1))), (17, .p (.int .i64 0)), (18, .p (.int .i64 (sumK r.wind r.wind.length))), (19, .p (.int .i64 0)), (20, .p (.int .i64 (sumK r.wind k))), (21, .p (.int .i64 (k : Int)))]) (fun _ => [(1, .box 31 ((Enc.enc r).map .p)), (0, .box 25 (x.enc.map .p))]) 2 (fun k => k ≤ r.wind.length) (fun k => r.wind.length - k) 0 (by omega) (by omega) ⟨by omega, ?_, ?_⟩ ?_
    · repeat (first | exact LCov.nil | refine LCov.same trivial rfl ?_ | refine LCov.same (lt_dec rfl) rfl ?_ | refine LCov.same ⟨trivial, lt_dec rfl, lt_dec rfl, lt_dec rfl, trivial⟩ rfl ?_ | refine LCov.same ⟨trivial, lt_dec rfl, lt_dec rfl, trivial⟩ rfl ?_ | refine LCov.same ⟨trivial, trivial⟩ rfl ?_ | refine LCov.cons trivial rfl (.of_eq (lst_len (by simp <;> omega))) ?_)
    · repeat (first | exact HCov.nil | (refine HCov.cons (lt_dec rfl) ?_ rfl ?_ ?_; (first | exact trivial | exact PVs.under_pure _ _ | (simp [HB.under, PVs.under, PV.under])); (first | exact HLe.refl _ | exact HLe.vec (FLes.refl _) (by simp))))
    intro k hk2
    have hb := sumK_bd p4 k hk2
    by_cases hkl : k < r.wind.length
    · have hw := p4 k hkl
      unfold badW at hw
      repeat' (first
        | apply VWp.assoc
        | apply VWp.rseq
        | apply VWp.region
        | apply VWp.skipSeq
        | apply VWp.blockSeq
        | apply QSeq.normal
        | apply QBlk.normal
        | apply VOps.nil
        | apply VOps.one
        | (apply VVal.assign; rfl)
        | (apply VVal.move; rfl)
        | (apply VVal.add64; rfl; rfl; omega)
        | (apply VVal.int; rfl; rfl; rfl)
        | (apply VVal.indexN; rfl; rfl; rfl; omega; rfl)
        | (apply VVal.load; rfl; rfl)
        | (apply VVal.fieldB; rfl; rfl; rfl)
        | (apply VWp.condSeq_dec; rfl)
        | (intro _; try (exfalso; omega)))
      all_goals try (exfalso; omega)
      refine QLoop.normal ⟨k + 1, by omega, by omega, ⟨by omega, ?_, ?_⟩⟩
      · repeat (first | exact LCov.nil | refine LCov.same trivial rfl ?_ | refine LCov.same (lt_dec rfl) rfl ?_ | refine LCov.same ⟨trivial, lt_dec rfl, lt_dec rfl, lt_dec rfl, trivial⟩ rfl ?_ | refine LCov.same ⟨trivial, lt_dec rfl, lt_dec rfl, trivial⟩ rfl ?_ | refine LCov.same ⟨trivial, trivial⟩ rfl ?_ | refine LCov.cons trivial rfl (.of_eq (lst_len (by simp <;> omega))) ?_)
      · repeat (first | exact HCov.nil | (refine HCov.cons (lt_dec rfl) ?_ rfl ?_ ?_; (first | exact trivial | exact PVs.under_pure _ _ | (simp [HB.under, PVs.under, PV.under])); (first | exact HLe.refl _ | exact HLe.vec (FLes.refl _) (by simp))))
    · obtain rfl : k = r.wind.length := by omega
      by_cases hq : note < r.first ∨ note ≥ r.first + r.wind.length
      · simp only [if_pos hq]
        repeat' (first
          | apply VWp.assoc
          | apply VWp.rseq
          | apply VWp.skipSeq
          | apply VWp.exitSeq
          | apply QSeq.normal
          | apply QBlk.exit
          | apply QLoop.exit
          | apply VWp.ret
          | apply VOps.nil
          | apply VOps.one
          | (apply VOps.take; rfl; rfl)
          | (apply VOps.drop; rfl; rfl; rfl)
          | (apply VOps.guard; rfl; rfl)
          | (apply VVal.assign; rfl)
          | (apply VVal.move; rfl)
          | (apply VVal.add64; rfl; rfl; omega)
          | (apply VVal.sub64; rfl; rfl; omega)
          | (apply VVal.int; rfl; rfl; rfl)
          | (apply VVal.indexE; rfl; rfl; rfl; omega; omega; rfl)
          | (apply VVal.load; rfl; rfl)
          | (apply VVal.pick_true; rfl; rfl)
          | (apply VVal.pick_false; rfl; rfl)
          | (apply VVal.fieldB; rfl; rfl; rfl)
          | (apply VWp.condSeq_false; rfl)
          | (apply VWp.condSeq_dec; rfl)
          | (intro _; try (exfalso; omega)))
        all_goals first | (exfalso; omega) | contradiction | (refine Done.ret rfl (.refl _) (by first | exact trivial | exact ⟨trivial, trivial, trivial⟩ | exact ⟨trivial, trivial, trivial, trivial⟩) HCov.nil (Nat.zero_le _) (Nat.le_refl _) ⟨?_, rfl, rfl⟩; rfl) | (refine Done.ret rfl (.refl _) (by first | exact trivial | exact ⟨trivial, trivial, trivial⟩ | exact ⟨trivial, trivial, trivial, trivial⟩) HCov.nil (Nat.zero_le _) (Nat.le_refl _) ⟨?_, rfl, rfl⟩; refine PV.bool_eq ?_; simp; done)
      · simp only [if_neg hq]
        repeat' (first
          | apply VWp.assoc
          | apply VWp.rseq
          | apply VWp.skipSeq
          | apply VWp.exitSeq
          | apply QSeq.normal
          | apply QBlk.exit
          | apply QLoop.exit
          | apply VWp.ret
          | apply VOps.nil
          | apply VOps.one
          | (apply VOps.take; rfl; rfl)
          | (apply VOps.guard; rfl; rfl)
          | (apply VVal.assign; rfl)
          | (apply VVal.move; rfl)
          | (apply VVal.add64; rfl; rfl; omega)
          | (apply VVal.sub64; rfl; rfl; omega)
          | (apply VVal.int; rfl; rfl; rfl)
          | (apply VVal.indexE; rfl; rfl; rfl; omega; omega; rfl)
          | (apply VVal.load; rfl; rfl)
          | (apply VVal.pick_true; rfl; rfl)
          | (apply VVal.pick_false; rfl; rfl)
          | (apply VVal.fieldB; rfl; rfl; rfl)
          | (apply VVal.not; rfl)
          | (apply VWp.condSeq_dec; rfl)
          | (intro _; try (exfalso; omega)))
        all_goals first | (exfalso; omega) | contradiction | (refine Done.ret rfl (.refl _) (by first | exact trivial | exact ⟨trivial, trivial, trivial⟩ | exact ⟨trivial, trivial, trivial, trivial⟩) HCov.nil (Nat.zero_le _) (Nat.le_refl _) ⟨?_, rfl, rfl⟩; rfl) | (refine Done.ret rfl (.refl _) (by first | exact trivial | exact ⟨trivial, trivial, trivial⟩ | exact ⟨trivial, trivial, trivial, trivial⟩) HCov.nil (Nat.zero_le _) (Nat.le_refl _) ⟨?_, rfl, rfl⟩; refine PV.bool_eq ?_; simp; done)
  · have e2 : notR r n = (0, 10) := by unfold notR; rw [pipE_bad hr hn, if_pos (by decide)]
    have e3 : wndR r n = (0, 10) := by unfold wndR; rw [pipE_bad hr hn, if_pos (by decide)]
    rw [e2] at h2
    rw [e3] at h3
    repeat' (first
      | apply VWp.assoc
      | apply VWp.rseq
      | apply VWp.skipSeq
      | apply VWp.blockSeq
      | apply VOps.nil
      | apply VOps.one
      | (apply VVal.fn; rfl; rfl; exact hk; intro _; rfl)
      | (apply VVal.fn; rfl; rfl; exact hm; intro _; rfl)
      | (apply VVal.fn; rfl; rfl; exact h1; intro _; rfl)
      | (apply VVal.fn; rfl; rfl; exact h2; intro _; rfl)
      | (apply VVal.fn; rfl; rfl; exact h3; intro _; rfl)
      | (apply VVal.fn; rfl; rfl; exact h4; intro _; rfl)
      | (apply VVal.fn; rfl; rfl; exact h5; intro _; rfl)
      | (apply VVal.assign; rfl)
      | (apply VVal.move; rfl)
      | (apply VVal.load; rfl; rfl)
      | (apply VVal.lenF; rfl; rfl)
      | (apply VVal.fieldB; rfl; rfl; rfl)
      | (apply VVal.box; rfl; trivial)
      | (apply VVal.alloc; rfl)
      | (apply VVal.storeB; rfl; rfl; rfl; trivial; rfl; rfl; exact lt_dec rfl; exact le_dec rfl)
      | (apply VVal.not; rfl)
      | (apply VVal.extract; rfl; rfl)
      | (apply VWp.condSeq_false; rfl))
    all_goals try contradiction
    refine VWp.loopQ (fun k : Nat => [(3, .ref 0 0), (7, .ref 1 0), (8, .p (.int .i64 (r.wind.length : Int))), (1, .p (.int .i64 note)), (2, .p (.int .i64 n)), (9, .p (.int .i64 (if note < r.first ∨ note ≥ r.first + r.wind.length then ((0 : Int), false, (0 : Int)) else (note - r.first, true, 0)).1)), (10, .p (.bool (if note < r.first ∨ note ≥ r.first + r.wind.length then ((0 : Int), false, (0 : Int)) else (note - r.first, true, 0)).2.1)), (11, .p (.int .i64 (if note < r.first ∨ note ≥ r.first + r.wind.length then ((0 : Int), false, (0 : Int)) else (note - r.first, true, 0)).2.2)), (12, .p (.int .i64 0)), (13, .p (.int .i64 10)), (14, .p (.int .i64 0)), (15, .p (.int .i64 10)), (16, .p (.int .i64 (r.first + r.wind.length - 1))), (17, .p (.int .i64 0)), (18, .p (.int .i64 (sumK r.wind r.wind.length))), (19, .p (.int .i64 0)), (20, .p (.int .i64 (sumK r.wind k))), (21, .p (.int .i64 (k : Int)))]) (fun _ => [(1, .box 31 ((Enc.enc r).map .p)), (0, .box 25 (x.enc.map .p))]) 2 (fun k => k ≤ r.wind.length) (fun k => r.wind.length - k) 0 (by omega) (by omega) ⟨by omega, ?_, ?_⟩ ?_
    · repeat (first | exact LCov.nil | refine LCov.same trivial rfl ?_ | refine LCov.same (lt_dec rfl) rfl ?_ | refine LCov.same ⟨trivial, lt_dec rfl, lt_dec rfl, lt_dec rfl, trivial⟩ rfl ?_ | refine LCov.same ⟨trivial, lt_dec rfl, lt_dec rfl, trivial⟩ rfl ?_ | refine LCov.same ⟨trivial, trivial⟩ rfl ?_ | refine LCov.cons trivial rfl (.of_eq (lst_len (by simp <;> omega))) ?_)
    · repeat (first | exact HCov.nil | (refine HCov.cons (lt_dec rfl) ?_ rfl ?_ ?_; (first | exact trivial | exact PVs.under_pure _ _ | (simp [HB.under, PVs.under, PV.under])); (first | exact HLe.refl _ | exact HLe.vec (FLes.refl _) (by simp))))
    intro k hk2
    have hb := sumK_bd p4 k hk2
    by_cases hkl : k < r.wind.length
    · have hw := p4 k hkl
      unfold badW at hw
      repeat' (first
        | apply VWp.assoc
        | apply VWp.rseq
        | apply VWp.region
        | apply VWp.skipSeq
        | apply VWp.blockSeq
        | apply QSeq.normal
        | apply QBlk.normal
        | apply VOps.nil
        | apply VOps.one
        | (apply VVal.assign; rfl)
        | (apply VVal.move; rfl)
        | (apply VVal.add64; rfl; rfl; omega)
        | (apply VVal.int; rfl; rfl; rfl)
        | (apply VVal.indexN; rfl; rfl; rfl; omega; rfl)
        | (apply VVal.load; rfl; rfl)
        | (apply VVal.fieldB; rfl; rfl; rfl)
        | (apply VWp.condSeq_dec; rfl)
        | (intro _; try (exfalso; omega)))
      all_goals try (exfalso; omega)
      refine QLoop.normal ⟨k + 1, by omega, by omega, ⟨by omega, ?_, ?_⟩⟩
      · repeat (first | exact LCov.nil | refine LCov.same trivial rfl ?_ | refine LCov.same (lt_dec rfl) rfl ?_ | refine LCov.same ⟨trivial, lt_dec rfl, lt_dec rfl, lt_dec rfl, trivial⟩ rfl ?_ | refine LCov.same ⟨trivial, lt_dec rfl, lt_dec rfl, trivial⟩ rfl ?_ | refine LCov.same ⟨trivial, trivial⟩ rfl ?_ | refine LCov.cons trivial rfl (.of_eq (lst_len (by simp <;> omega))) ?_)
      · repeat (first | exact HCov.nil | (refine HCov.cons (lt_dec rfl) ?_ rfl ?_ ?_; (first | exact trivial | exact PVs.under_pure _ _ | (simp [HB.under, PVs.under, PV.under])); (first | exact HLe.refl _ | exact HLe.vec (FLes.refl _) (by simp))))
    · obtain rfl : k = r.wind.length := by omega
      by_cases hq : note < r.first ∨ note ≥ r.first + r.wind.length
      · simp only [if_pos hq]
        repeat' (first
          | apply VWp.assoc
          | apply VWp.rseq
          | apply VWp.skipSeq
          | apply VWp.retSeq
          | apply VWp.exitSeq
          | apply QSeq.normal
          | apply QBlk.exit
          | apply QLoop.exit
          | apply VOps.nil
          | apply VOps.one
          | (apply VOps.take; rfl; rfl)
          | (apply VOps.drop; rfl; rfl; rfl)
          | (apply VOps.guard; rfl; rfl)
          | (apply VVal.assign; rfl)
          | (apply VVal.move; rfl)
          | (apply VVal.add64; rfl; rfl; omega)
          | (apply VVal.sub64; rfl; rfl; omega)
          | (apply VVal.int; rfl; rfl; rfl)
          | (apply VVal.load; rfl; rfl)
          | (apply VVal.pick_true; rfl; rfl)
          | (apply VVal.pick_false; rfl; rfl)
          | (apply VVal.fieldB; rfl; rfl; rfl)
          | (apply VWp.condSeq_true; rfl)
          | (apply VWp.condSeq_false; rfl)
          | (apply VWp.condSeq_dec; rfl)
          | (intro _; try (exfalso; omega)))
        all_goals first | (exfalso; omega) | contradiction | (refine Done.ret rfl (.refl _) (by first | exact trivial | exact ⟨trivial, trivial, trivial⟩ | exact ⟨trivial, trivial, trivial, trivial⟩) HCov.nil (Nat.zero_le _) (Nat.le_refl _) ⟨?_, rfl, rfl⟩; rfl) | (refine Done.ret rfl (.refl _) (by first | exact trivial | exact ⟨trivial, trivial, trivial⟩ | exact ⟨trivial, trivial, trivial, trivial⟩) HCov.nil (Nat.zero_le _) (Nat.le_refl _) ⟨?_, rfl, rfl⟩; refine PV.bool_eq ?_; simp; done)
      · simp only [if_neg hq]
        repeat' (first
          | apply VWp.assoc
          | apply VWp.rseq
          | apply VWp.skipSeq
          | apply VWp.retSeq
          | apply VWp.exitSeq
          | apply QSeq.normal
          | apply QBlk.exit
          | apply QLoop.exit
          | apply VOps.nil
          | apply VOps.one
          | (apply VOps.take; rfl; rfl)
          | (apply VOps.drop; rfl; rfl; rfl)
          | (apply VOps.guard; rfl; rfl)
          | (apply VVal.assign; rfl)
          | (apply VVal.move; rfl)
          | (apply VVal.add64; rfl; rfl; omega)
          | (apply VVal.sub64; rfl; rfl; omega)
          | (apply VVal.int; rfl; rfl; rfl)
          | (apply VVal.load; rfl; rfl)
          | (apply VVal.pick_true; rfl; rfl)
          | (apply VVal.pick_false; rfl; rfl)
          | (apply VVal.fieldB; rfl; rfl; rfl)
          | (apply VVal.not; rfl)
          | (apply VWp.condSeq_true; rfl)
          | (apply VWp.condSeq_dec; rfl)
          | (intro _; try (exfalso; omega)))
        all_goals first | (exfalso; omega) | contradiction | (refine Done.ret rfl (.refl _) (by first | exact trivial | exact ⟨trivial, trivial, trivial⟩ | exact ⟨trivial, trivial, trivial, trivial⟩) HCov.nil (Nat.zero_le _) (Nat.le_refl _) ⟨?_, rfl, rfl⟩; rfl) | (refine Done.ret rfl (.refl _) (by first | exact trivial | exact ⟨trivial, trivial, trivial⟩ | exact ⟨trivial, trivial, trivial, trivial⟩) HCov.nil (Nat.zero_le _) (Nat.le_refl _) ⟨?_, rfl, rfl⟩; refine PV.bool_eq ?_; simp; done)
end Go.Proofs.YtabjkjgpaahbhaaDoor
