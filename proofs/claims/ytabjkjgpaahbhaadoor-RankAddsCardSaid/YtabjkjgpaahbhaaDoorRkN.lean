/-
  The laws of ranks: Joins, Checks. Conditions: in each statement.
-/
import Derived.Test.YtabjkjgpaahbhaaDoorRkM
set_option linter.unusedSimpArgs false
set_option linter.unusedVariables false
namespace Go.Proofs.YtabjkjgpaahbhaaDoor
open Go Go.Am Go.Vm
attribute [local irreducible] VVal VOps VOpsD VWp VCalls VFun VFunV QSeq QBlk QLoop Vm.Done DoneV DoneI
attribute [local irreducible] rchk windsE shz shiftR pipE

theorem sumK_left (a b : List Int) : ∀ k, k ≤ a.length → sumK (a ++ b) k = sumK a k
  | 0, _ => rfl
  | k + 1, h => by
    have e : gi (a ++ b) k = gi a k := by simp [gi, List.getElem?_append_left (show k < a.length by omega)]
    simp only [sumK, e, sumK_left a b k (by omega)]
theorem sumK_app (a b : List Int) : ∀ k, sumK (a ++ b) (a.length + k) = sumK a a.length + sumK b k
  | 0 => by simp [sumK, sumK_left a b a.length (Nat.le_refl _)]
  | k + 1 => by
    have e : gi (a ++ b) (a.length + k) = gi b k := by simp [gi, List.getElem?_append_right (show a.length ≤ a.length + k by omega)]
    rw [← Nat.add_assoc]
    simp only [sumK, e, sumK_app a b k]
    omega
theorem rebR_ok {r : Rnk} {n : Int} {w : List Int} (h : w.length ≤ 128) (h1 : firOk n) : rebR r n w = (.agg (Enc.enc { r with first := n, wind := w }), 0) := by
  unfold rebR
  rw [if_neg (by omega), if_neg (fun h => h h1)]
theorem rchk_set {r : Rnk} (h : rchk r = 0) {n : Int} {w : List Int} (h1 : -256 ≤ n ∧ n ≤ 256) (h2 : 0 < w.length ∧ w.length ≤ 128) (h3 : okW w) : rchk { r with first := n, wind := w } = 0 := by
  obtain ⟨⟨q1, q2⟩, q3, q4, q5, q6⟩ := rchk_ok h
  exact rchk_intro q1 q2 q3 h1 h2 h3
theorem totR_ok {r : Rnk} (h : rchk r = 0) : totR r = (sumK r.wind r.wind.length, 0) := by unfold totR; rw [if_neg (fun h' => h' h)]

set_option maxRecDepth 100000 in
set_option maxHeartbeats 2000000 in
theorem joins_true (x y : RPlan) (hx : x.Ok) (hy : y.Ok) : VFun env 9 [.agg x.enc, .agg y.enc, .bool true] (.p (.bool true)) := by
  have hk := known_spec
  have hzz := same_zz
  have hm := make_spec x hx 0 (by omega)
  have hn := make_spec y hy 1 (by omega)
  have ha := mkR_ok x hx 0 (by omega)
  have hla := mkR_len x 0
  have hb0 := mkR_ok y hy 1 (by omega)
  have hlb0 := mkR_len y 1
  have w1 := mkR_wind x 0
  have w2 := mkR_wind y 1
  have f1 : -128 ≤ (mkR x 0).first ∧ (mkR x 0).first ≤ 127 := hx.first
  generalize mkR x 0 = a at *
  generalize mkR y 1 = b0 at *
  obtain ⟨-, p1, p2, p3, p4⟩ := rchk_ok ha
  obtain ⟨-, q1, q2, q3, q4⟩ := rchk_ok hb0
  have hb := rchk_set hb0 (n := a.first + a.wind.length) (by omega) q3 q4
  obtain ⟨nm, tn, ft, fi, wd⟩ := b0
  simp only at hb w2 q2 q3 q4
  have hlb : rLen (⟨nm, tn, ft, a.first + a.wind.length, wd⟩ : Rnk) := hlb0
  have hf := eqFrac a.feet ft
  have ta := total_spec a hla
  rw [totR_ok ha] at ta
  have tb := total_spec (⟨nm, tn, ft, a.first + a.wind.length, wd⟩ : Rnk) hlb
  rw [totR_ok hb] at tb
  dsimp only at tb
  have s1 := sumK_bd p4 a.wind.length (Nat.le_refl _)
  have s2 := sumK_bd q4 wd.length (Nat.le_refl _)
  refine VFun.enter (env_none (by decide)) Tryd.func9 rfl (by kernel_rfl) (by simp [Tryd.ntmps9]) ?_
  have jc := join_spec a (⟨nm, tn, ft, a.first + a.wind.length, wd⟩ : Rnk) hla hlb
  by_cases c1 : a.tone = tn ∧ a.feet = ft
  · have g1 := decide_eq_true c1.1
    rw [decide_eq_true c1.2] at hf
    have c2 : a.first + (a.wind.length : Int) = a.first + a.wind.length := rfl
    have hlen : (a.wind ++ wd).length = a.wind.length + wd.length := List.length_append
    have ej : joiR a (⟨nm, tn, ft, a.first + a.wind.length, wd⟩ : Rnk) = (.agg (Enc.enc { a with first := a.first, wind := a.wind ++ wd }), 0) := by
      unfold joiR
      rw [if_neg (fun h => h ha), if_neg (fun h => h hb), if_neg (fun h => h c1), if_neg (fun h => h c2), rebR_ok (Nat.le_trans (Nat.le_of_eq hlen) (by omega)) (by unfold firOk; omega)]
    rw [ej] at jc
    have hj : rchk { a with first := a.first, wind := a.wind ++ wd } = 0 := rchk_set ha (by omega) (by omega) (okW_append p4 q4)
    have hlj : rLen { a with first := a.first, wind := a.wind ++ wd } := ⟨hla.1, hla.2.1, by simp only [hlen]; omega⟩
    have tj := total_spec { a with first := a.first, wind := a.wind ++ wd } hlj
    rw [totR_ok hj] at tj
    have es : sumK (a.wind ++ wd) (a.wind ++ wd).length = sumK a.wind a.wind.length + sumK wd wd.length := by rw [hlen]; exact sumK_app _ _ _
    simp only [es] at tj
    have hs : VFun env 16 [.agg (Enc.enc { a with first := a.first, wind := a.wind ++ wd }), .agg [.str (bs a.name), .str (bs a.tone), .int .i64 a.feet.num, .int .i64 a.feet.den, .int .i64 a.first, .lst 3 (cells (a.wind ++ wd)) (a.wind.length + wd.length)]] (.p (.bool true)) := by
      rw [← List.length_append]; exact same_rr _ hlj
    repeat' (first
      | (refine VWp.at 13 ?_; refine VWp.ghost (Ghost.freezeCell 5 5 rfl rfl rfl) ?_; first | apply VWp.rseq | apply VWp.rseqD)
      | (refine VOpsD.atIdx 3 ?_; apply VOpsD.weak [.tmp 8]; decide +kernel; rfl; rfl; (first | exact VOwn.ref rfl | exact VOwn.vec rfl | exact VOwn.eref rfl); decide +kernel; rfl)
      | apply VWp.assoc
      | apply VWp.rseq
      | apply VWp.rseqD
      | apply VWp.skipSeq
      | apply VWp.blockSeq
      | apply QSeq.normal
      | apply QBlk.normal
      | apply VWp.ret
      | apply VWp.skip
      | apply VOps.nil
      | apply VOpsD.nil
      | apply VOps.one
      | (apply VOpsD.bar; decide +kernel)
      | apply VOpsD.quiet
      | (apply VOps.take; rfl; rfl)
      | (apply VVal.fn; rfl; rfl; exact hk; intro _; rfl)
      | (apply VVal.fn; rfl; rfl; exact hm; intro _; rfl)
      | (apply VVal.fn; rfl; rfl; exact hn; intro _; rfl)
      | (apply VVal.fn; rfl; rfl; exact jc; intro _; rfl)
      | (apply VVal.fn; rfl; rfl; exact ta; intro _; rfl)
      | (apply VVal.fn; rfl; rfl; exact tb; intro _; rfl)
      | (apply VVal.fn; rfl; rfl; exact tj; intro _; rfl)
      | (apply VVal.fn; rfl; rfl; exact hs; intro _; rfl)
      | (apply VVal.neSd ; rfl ; rfl ; exact g1)
      | (apply VVal.neSt1 ; rfl ; rfl ; exact freeFrac ; exact hf)
      | (apply VVal.appendL (l := a.wind) (r := wd) ; rfl ; rfl ; rfl ; rfl ; rfl ; rfl ; rfl ; (intro _ h ; cases h) ; rfl ; rfl ; rfl ; decide ; decide ; omega)
      | (apply VVal.appendL0 (r := a.wind) ; rfl ; rfl ; rfl ; rfl ; rfl ; rfl ; (intro _ h ; cases h) ; rfl ; rfl ; rfl ; decide ; decide ; omega)
      | (apply VVal.assign; rfl)
      | (apply VVal.move; rfl)
      | (apply VVal.add64; rfl; rfl; omega)
      | (apply VVal.int; rfl; rfl; rfl)
      | (apply VVal.load; rfl; rfl)
      | (apply VVal.pick_true; rfl; rfl)
      | (apply VVal.pick_false; rfl; rfl)
      | (apply VVal.lenF; rfl; rfl)
      | (apply VVal.fieldB; rfl; rfl; rfl)
      | (apply VVal.box; rfl; trivial)
      | (apply VVal.alloc; rfl)
      | (apply VVal.storeB; rfl; rfl; rfl; trivial; rfl; rfl; exact lt_dec rfl; exact le_dec rfl)
      | (apply VVal.buildSlice; rfl; rfl; rfl; decide; rfl; rfl; rfl)
      | (apply VVal.not; rfl)
      | (apply VVal.extract; rfl; rfl)
      | (apply VWp.condSeq_true; rfl)
      | (apply VWp.condSeq_false; rfl)
      | (apply VWp.cond_false; rfl)
      | (apply VWp.cond_dec; rfl)
      | (intro _; try (exfalso; omega)))
    all_goals first | (exfalso; omega) | contradiction | (refine Done.ret rfl (.refl _) (by first | exact trivial | exact ⟨trivial, trivial, trivial⟩ | exact ⟨trivial, trivial, trivial, trivial⟩) HCov.nil (Nat.zero_le _) (Nat.le_refl _) ⟨?_, rfl, rfl⟩; rfl) | (refine Done.ret rfl (.refl _) (by first | exact trivial | exact ⟨trivial, trivial, trivial⟩ | exact ⟨trivial, trivial, trivial, trivial⟩) HCov.nil (Nat.zero_le _) (Nat.le_refl _) ⟨?_, rfl, rfl⟩; refine PV.bool_eq ?_; simp; done)
  · have ej : joiR a (⟨nm, tn, ft, a.first + a.wind.length, wd⟩ : Rnk) = (zeroF, 14) := by
      unfold joiR
      rw [if_neg (fun h => h ha), if_neg (fun h => h hb), if_pos c1]
    rw [ej] at jc
    have hnot : ¬ (decide (a.tone = tn) = true ∧ decide (a.feet = ft) = true) := fun h => c1 ⟨of_decide_eq_true h.1, of_decide_eq_true h.2⟩
    generalize hg1 : decide (a.tone = tn) = g1 at *
    generalize hg3 : decide (a.feet = ft) = g3 at *
    cases g1 <;> cases g3
    all_goals try (simp at hnot; done)
    all_goals
      repeat' (first
        | apply VWp.assoc
        | apply VWp.rseq
        | apply VWp.rseqD
        | apply VWp.skipSeq
        | apply VWp.blockSeq
        | apply QSeq.ret
        | apply QBlk.ret
        | apply VWp.ret
        | apply VOps.nil
        | apply VOpsD.nil
        | apply VOps.one
        | (apply VOpsD.bar; decide +kernel)
        | apply VOpsD.quiet
        | (apply VOps.take; rfl; rfl)
        | (apply VOps.drop; rfl; rfl; rfl)
        | (apply VVal.fn; rfl; rfl; exact hk; intro _; rfl)
        | (apply VVal.fn; rfl; rfl; exact hm; intro _; rfl)
        | (apply VVal.fn; rfl; rfl; exact hn; intro _; rfl)
        | (apply VVal.fn; rfl; rfl; exact jc; intro _; rfl)
        | (apply VVal.fn; rfl; rfl; exact hzz; intro _; rfl)
        | (apply VVal.neSd ; rfl ; rfl ; exact hg1)
        | (apply VVal.neSt1 ; rfl ; rfl ; exact freeFrac ; exact hf)
        | (apply VVal.assign; rfl)
        | (apply VVal.move; rfl)
        | (apply VVal.add64; rfl; rfl; omega)
        | (apply VVal.int; rfl; rfl; rfl)
        | (apply VVal.load; rfl; rfl)
        | (apply VVal.pick_true; rfl; rfl)
        | (apply VVal.pick_false; rfl; rfl)
        | (apply VVal.lenF; rfl; rfl)
        | (apply VVal.fieldB; rfl; rfl; rfl)
        | (apply VVal.box; rfl; trivial)
        | (apply VVal.alloc; rfl)
        | (apply VVal.storeB; rfl; rfl; rfl; trivial; rfl; rfl; exact lt_dec rfl; exact le_dec rfl)
        | (apply VVal.build; rfl; rfl; rfl; rfl; rfl)
        | (apply VVal.not; rfl)
        | (apply VVal.extract; rfl; rfl)
        | (apply VWp.condSeq_true; rfl)
        | (apply VWp.condSeq_false; rfl)
        | (apply VWp.cond_true; rfl))
    all_goals first | contradiction | (refine Done.ret rfl (.refl _) (by first | exact trivial | exact ⟨trivial, trivial, trivial⟩ | exact ⟨trivial, trivial, trivial, trivial⟩) HCov.nil (Nat.zero_le _) (Nat.le_refl _) ⟨?_, rfl, rfl⟩; rfl)

set_option maxRecDepth 100000 in
set_option maxHeartbeats 2000000 in
theorem joins_false (x y : RPlan) (hx : x.Ok) (hy : y.Ok) : VFun env 9 [.agg x.enc, .agg y.enc, .bool false] (.p (.bool true)) := by
  have hk := known_spec
  have hzz := same_zz
  have hm := make_spec x hx 0 (by omega)
  have hn := make_spec y hy 1 (by omega)
  have ha := mkR_ok x hx 0 (by omega)
  have hla := mkR_len x 0
  have hb := mkR_ok y hy 1 (by omega)
  have hlb := mkR_len y 1
  have w1 := mkR_wind x 0
  have w2 := mkR_wind y 1
  generalize mkR x 0 = a at *
  generalize mkR y 1 = b at *
  obtain ⟨-, p1, p2, p3, p4⟩ := rchk_ok ha
  obtain ⟨-, q1, q2, q3, q4⟩ := rchk_ok hb
  have hf := eqFrac a.feet b.feet
  have ta := total_spec a hla
  rw [totR_ok ha] at ta
  have tb := total_spec b hlb
  rw [totR_ok hb] at tb
  have s1 := sumK_bd p4 a.wind.length (Nat.le_refl _)
  have s2 := sumK_bd q4 b.wind.length (Nat.le_refl _)
  refine VFun.enter (env_none (by decide)) Tryd.func9 rfl (by kernel_rfl) (by simp [Tryd.ntmps9]) ?_
  have jc := join_spec a b hla hlb
  by_cases c1 : a.tone = b.tone ∧ a.feet = b.feet
  · have g1 := decide_eq_true c1.1
    rw [decide_eq_true c1.2] at hf
    by_cases c2 : b.first = a.first + a.wind.length
    · have hlen : (a.wind ++ b.wind).length = a.wind.length + b.wind.length := List.length_append
      have ej : joiR a b = (.agg (Enc.enc { a with first := a.first, wind := a.wind ++ b.wind }), 0) := by
        unfold joiR
        rw [if_neg (fun h => h ha), if_neg (fun h => h hb), if_neg (fun h => h c1), if_neg (fun h => h c2), rebR_ok (by omega) (by unfold firOk; omega)]
      rw [ej] at jc
      have hj : rchk { a with first := a.first, wind := a.wind ++ b.wind } = 0 := rchk_set ha (by omega) (by omega) (okW_append p4 q4)
      have hlj : rLen { a with first := a.first, wind := a.wind ++ b.wind } := ⟨hla.1, hla.2.1, by simp only [hlen]; omega⟩
      have tj := total_spec { a with first := a.first, wind := a.wind ++ b.wind } hlj
      rw [totR_ok hj] at tj
      have es : sumK (a.wind ++ b.wind) (a.wind ++ b.wind).length = sumK a.wind a.wind.length + sumK b.wind b.wind.length := by rw [hlen]; exact sumK_app _ _ _
      simp only [es] at tj
      have hs : VFun env 16 [.agg (Enc.enc { a with first := a.first, wind := a.wind ++ b.wind }), .agg [.str (bs a.name), .str (bs a.tone), .int .i64 a.feet.num, .int .i64 a.feet.den, .int .i64 a.first, .lst 3 (cells (a.wind ++ b.wind)) (a.wind.length + b.wind.length)]] (.p (.bool true)) := by
        rw [← List.length_append]; exact same_rr _ hlj
      repeat' (first
        | (refine VWp.at 13 ?_; refine VWp.ghost (Ghost.freezeCell 5 5 rfl rfl rfl) ?_; first | apply VWp.rseq | apply VWp.rseqD)
        | (refine VOpsD.atIdx 3 ?_; apply VOpsD.weak [.tmp 8]; decide +kernel; rfl; rfl; (first | exact VOwn.ref rfl | exact VOwn.vec rfl | exact VOwn.eref rfl); decide +kernel; rfl)
        | apply VWp.assoc
        | apply VWp.rseq
        | apply VWp.rseqD
        | apply VWp.skipSeq
        | apply VWp.blockSeq
        | apply QSeq.normal
        | apply QBlk.normal
        | apply VWp.ret
        | apply VWp.skip
        | apply VOps.nil
        | apply VOpsD.nil
        | apply VOps.one
        | (apply VOpsD.bar; decide +kernel)
        | apply VOpsD.quiet
        | (apply VOps.take; rfl; rfl)
        | (apply VVal.fn; rfl; rfl; exact hk; intro _; rfl)
        | (apply VVal.fn; rfl; rfl; exact hm; intro _; rfl)
        | (apply VVal.fn; rfl; rfl; exact hn; intro _; rfl)
        | (apply VVal.fn; rfl; rfl; exact jc; intro _; rfl)
        | (apply VVal.fn; rfl; rfl; exact ta; intro _; rfl)
        | (apply VVal.fn; rfl; rfl; exact tb; intro _; rfl)
        | (apply VVal.fn; rfl; rfl; exact tj; intro _; rfl)
        | (apply VVal.fn; rfl; rfl; exact hs; intro _; rfl)
        | (apply VVal.neSd ; rfl ; rfl ; exact g1)
        | (apply VVal.neSt1 ; rfl ; rfl ; exact freeFrac ; exact hf)
        | (apply VVal.appendL (l := a.wind) (r := b.wind) ; rfl ; rfl ; rfl ; rfl ; rfl ; rfl ; rfl ; (intro _ h ; cases h) ; rfl ; rfl ; rfl ; decide ; decide ; omega)
        | (apply VVal.appendL0 (r := a.wind) ; rfl ; rfl ; rfl ; rfl ; rfl ; rfl ; (intro _ h ; cases h) ; rfl ; rfl ; rfl ; decide ; decide ; omega)
        | (apply VVal.assign; rfl)
        | (apply VVal.move; rfl)
        | (apply VVal.add64; rfl; rfl; omega)
        | (apply VVal.int; rfl; rfl; rfl)
        | (apply VVal.load; rfl; rfl)
        | (apply VVal.pick_true; rfl; rfl)
        | (apply VVal.pick_false; rfl; rfl)
        | (apply VVal.lenF; rfl; rfl)
        | (apply VVal.fieldB; rfl; rfl; rfl)
        | (apply VVal.box; rfl; trivial)
        | (apply VVal.alloc; rfl)
        | (apply VVal.storeB; rfl; rfl; rfl; trivial; rfl; rfl; exact lt_dec rfl; exact le_dec rfl)
        | (apply VVal.buildSlice; rfl; rfl; rfl; decide; rfl; rfl; rfl)
        | (apply VVal.not; rfl)
        | (apply VVal.extract; rfl; rfl)
        | (apply VWp.condSeq_false; rfl)
        | (apply VWp.cond_false; rfl)
        | (apply VWp.cond_dec; rfl)
        | (intro _; try (exfalso; omega)))
      all_goals first | (exfalso; omega) | contradiction | (refine Done.ret rfl (.refl _) (by first | exact trivial | exact ⟨trivial, trivial, trivial⟩ | exact ⟨trivial, trivial, trivial, trivial⟩) HCov.nil (Nat.zero_le _) (Nat.le_refl _) ⟨?_, rfl, rfl⟩; rfl) | (refine Done.ret rfl (.refl _) (by first | exact trivial | exact ⟨trivial, trivial, trivial⟩ | exact ⟨trivial, trivial, trivial, trivial⟩) HCov.nil (Nat.zero_le _) (Nat.le_refl _) ⟨?_, rfl, rfl⟩; refine PV.bool_eq ?_; simp; done)
    · have ej : joiR a b = (zeroF, 6) := by
        unfold joiR
        rw [if_neg (fun h => h ha), if_neg (fun h => h hb), if_neg (fun h => h c1), if_pos c2]
      rw [ej] at jc
      repeat' (first
        | apply VWp.assoc
        | apply VWp.rseq
        | apply VWp.rseqD
        | apply VWp.skipSeq
        | apply VWp.blockSeq
        | apply QSeq.ret
        | apply QBlk.ret
        | apply VWp.ret
        | apply VOps.nil
        | apply VOpsD.nil
        | apply VOps.one
        | (apply VOpsD.bar; decide +kernel)
        | apply VOpsD.quiet
        | (apply VOps.take; rfl; rfl)
        | (apply VVal.fn; rfl; rfl; exact hk; intro _; rfl)
        | (apply VVal.fn; rfl; rfl; exact hm; intro _; rfl)
        | (apply VVal.fn; rfl; rfl; exact hn; intro _; rfl)
        | (apply VVal.fn; rfl; rfl; exact jc; intro _; rfl)
        | (apply VVal.fn; rfl; rfl; exact hzz; intro _; rfl)
        | (apply VVal.neSd ; rfl ; rfl ; exact g1)
        | (apply VVal.neSt1 ; rfl ; rfl ; exact freeFrac ; exact hf)
        | (apply VVal.assign; rfl)
        | (apply VVal.move; rfl)
        | (apply VVal.add64; rfl; rfl; omega)
        | (apply VVal.int; rfl; rfl; rfl)
        | (apply VVal.load; rfl; rfl)
        | (apply VVal.pick_true; rfl; rfl)
        | (apply VVal.pick_false; rfl; rfl)
        | (apply VVal.lenF; rfl; rfl)
        | (apply VVal.fieldB; rfl; rfl; rfl)
        | (apply VVal.box; rfl; trivial)
        | (apply VVal.alloc; rfl)
        | (apply VVal.storeB; rfl; rfl; rfl; trivial; rfl; rfl; exact lt_dec rfl; exact le_dec rfl)
        | (apply VVal.build; rfl; rfl; rfl; rfl; rfl)
        | (apply VVal.not; rfl)
        | (apply VVal.extract; rfl; rfl)
        | (apply VWp.condSeq_false; rfl)
        | (apply VWp.cond_false; rfl)
        | (apply VWp.cond_dec; rfl)
        | (intro _; try (exfalso; omega)))
      all_goals first | (exfalso; omega) | contradiction | (refine Done.ret rfl (.refl _) (by first | exact trivial | exact ⟨trivial, trivial, trivial⟩ | exact ⟨trivial, trivial, trivial, trivial⟩) HCov.nil (Nat.zero_le _) (Nat.le_refl _) ⟨?_, rfl, rfl⟩; rfl)
  · have ej : joiR a b = (zeroF, 14) := by
      unfold joiR
      rw [if_neg (fun h => h ha), if_neg (fun h => h hb), if_pos c1]
    rw [ej] at jc
    have hnot : ¬ (decide (a.tone = b.tone) = true ∧ decide (a.feet = b.feet) = true) := fun h => c1 ⟨of_decide_eq_true h.1, of_decide_eq_true h.2⟩
    generalize hg1 : decide (a.tone = b.tone) = g1 at *
    generalize hg3 : decide (a.feet = b.feet) = g3 at *
    cases g1 <;> cases g3
    all_goals try (simp at hnot; done)
    all_goals
      repeat' (first
        | apply VWp.assoc
        | apply VWp.rseq
        | apply VWp.rseqD
        | apply VWp.skipSeq
        | apply VWp.blockSeq
        | apply QSeq.ret
        | apply QBlk.ret
        | apply VWp.ret
        | apply VOps.nil
        | apply VOpsD.nil
        | apply VOps.one
        | (apply VOpsD.bar; decide +kernel)
        | apply VOpsD.quiet
        | (apply VOps.take; rfl; rfl)
        | (apply VOps.drop; rfl; rfl; rfl)
        | (apply VVal.fn; rfl; rfl; exact hk; intro _; rfl)
        | (apply VVal.fn; rfl; rfl; exact hm; intro _; rfl)
        | (apply VVal.fn; rfl; rfl; exact hn; intro _; rfl)
        | (apply VVal.fn; rfl; rfl; exact jc; intro _; rfl)
        | (apply VVal.fn; rfl; rfl; exact hzz; intro _; rfl)
        | (apply VVal.neSd ; rfl ; rfl ; exact hg1)
        | (apply VVal.neSt1 ; rfl ; rfl ; exact freeFrac ; exact hf)
        | (apply VVal.assign; rfl)
        | (apply VVal.move; rfl)
        | (apply VVal.int; rfl; rfl; rfl)
        | (apply VVal.load; rfl; rfl)
        | (apply VVal.pick_true; rfl; rfl)
        | (apply VVal.pick_false; rfl; rfl)
        | (apply VVal.fieldB; rfl; rfl; rfl)
        | (apply VVal.box; rfl; trivial)
        | (apply VVal.alloc; rfl)
        | (apply VVal.storeB; rfl; rfl; rfl; trivial; rfl; rfl; exact lt_dec rfl; exact le_dec rfl)
        | (apply VVal.build; rfl; rfl; rfl; rfl; rfl)
        | (apply VVal.not; rfl)
        | (apply VVal.extract; rfl; rfl)
        | (apply VWp.condSeq_false; rfl)
        | (apply VWp.cond_true; rfl))
    all_goals first | contradiction | (refine Done.ret rfl (.refl _) (by first | exact trivial | exact ⟨trivial, trivial, trivial⟩ | exact ⟨trivial, trivial, trivial, trivial⟩) HCov.nil (Nat.zero_le _) (Nat.le_refl _) ⟨?_, rfl, rfl⟩; rfl)
end Go.Proofs.YtabjkjgpaahbhaaDoor
