/-
  The laws of ranks: Repitches, Slices, Adds. Conditions: in each statement.
-/
import Derived.Test.YtabjkjgpaahbhaaDoorRkN
import Derived.Test.YtabjkjgpaahbhaaDoorVmE
set_option linter.unusedSimpArgs false
set_option linter.unusedVariables false
namespace Go.Proofs.YtabjkjgpaahbhaaDoor
open Go Go.Am Go.Vm
attribute [local irreducible] VVal VOps VOpsD VWp VCalls VFun VFunV QSeq QBlk QLoop Vm.Done DoneV DoneI
attribute [local irreducible] rchk windsE shz shiftR pipE

set_option maxRecDepth 100000 in
set_option maxHeartbeats 1000000 in
theorem repitches_spec (x : RPlan) (hx : x.Ok) (f : Frac) : VFun env 4 [.agg x.enc, .agg (Enc.enc f)] (.p (.bool true)) := by
  have hk := known_spec
  have hm := make_spec x hx 0 (by omega)
  have hr := mkR_ok x hx 0 (by omega)
  have hl := mkR_len x 0
  generalize mkR x 0 = r at *
  obtain ⟨-, p1, p2, p3, -⟩ := rchk_ok hr
  have hs := repitch_spec r f hl
  have ho := repitch_spec r r.feet hl
  have hpc := pcheck_spec f
  have hsh := pShift_spec f r.feet
  have hbd := shiftR_bd f r.feet
  have hso := same_rr r hl
  have hzz := same_zz
  have eo : repR r r.feet = (.agg (Enc.enc r), 0) := by
    unfold repR
    rw [if_neg (fun h => h hr), shift_self p1, if_neg (by decide), if_pos (by unfold firOk; omega)]
    simp only [Int.sub_zero]
  rw [eo] at ho
  refine VFun.enter (env_none (by decide)) Tryd.func4 rfl (by kernel_rfl) (by simp [Tryd.ntmps4]) ?_
  by_cases hf : pchk f = 0
  · have h2 := shift_ok (pchk_ok.1 hf) p1
    rw [hf] at hpc
    unfold repR at hs
    rw [if_neg (fun h => h hr), if_neg (by omega)] at hs
    generalize hS : shiftR f r.feet = S at *
    by_cases hq : firOk (r.first - S.1)
    · rw [if_pos hq] at hs
      unfold firOk at hq
      have hsr := same_rr { r with first := r.first - S.1, feet := f } hl
      repeat' (first
        | (refine VOpsD.atIdx 6 ?_; apply VOpsD.weak [.tmp 3]; decide +kernel; rfl; rfl; (first | exact VOwn.ref rfl | exact VOwn.vec rfl | exact VOwn.eref rfl); decide +kernel; rfl)
        | apply VWp.assoc
        | apply VWp.rseq
        | apply VWp.rseqD
        | apply VWp.skipSeq
        | apply VWp.ret
        | apply VOps.nil
        | apply VOpsD.nil
        | apply VOps.one
        | (apply VOpsD.bar; decide +kernel)
        | apply VOpsD.quiet
        | (apply VOps.take; rfl; rfl)
        | (apply VOps.guard; rfl; rfl)
        | (apply VVal.fn; rfl; rfl; exact hk; intro _; rfl)
        | (apply VVal.fn; rfl; rfl; exact hm; intro _; rfl)
        | (apply VVal.fn; rfl; rfl; exact hs; intro _; rfl)
        | (apply VVal.fn; rfl; rfl; exact ho; intro _; rfl)
        | (apply VVal.fn; rfl; rfl; exact hpc; intro _; rfl)
        | (apply VVal.fn; rfl; rfl; exact hsh; intro _; rfl)
        | (apply VVal.fn; rfl; rfl; exact hso; intro _; rfl)
        | (apply VVal.fn; rfl; rfl; exact hsr; intro _; rfl)
        | (apply VVal.assign; rfl)
        | (apply VVal.move; rfl)
        | (apply VVal.sub64; rfl; rfl; omega)
        | (apply VVal.int; rfl; rfl; rfl)
        | (apply VVal.load; rfl; rfl)
        | (apply VVal.pick_true; rfl; rfl)
        | (apply VVal.pick_false; rfl; rfl)
        | (apply VVal.fieldB; rfl; rfl; rfl)
        | (apply VVal.box; rfl; trivial)
        | (apply VVal.alloc; rfl)
        | (apply VVal.storeB; rfl; rfl; rfl; trivial; rfl; rfl; exact lt_dec rfl; exact le_dec rfl)
        | (apply VVal.not; rfl)
        | (apply VVal.extract; rfl; rfl)
        | (apply VWp.condSeq_false; rfl)
        | (apply VWp.condSeq_dec; rfl)
        | (intro _; try (exfalso; omega)))
      all_goals first | (exfalso; omega) | contradiction | (refine Done.ret rfl (.refl _) (by first | exact trivial | exact ⟨trivial, trivial, trivial⟩ | exact ⟨trivial, trivial, trivial, trivial⟩) HCov.nil (Nat.zero_le _) (Nat.le_refl _) ⟨?_, rfl, rfl⟩; rfl)
    · rw [if_neg hq] at hs
      unfold firOk at hq
      repeat' (first
        | (refine VOpsD.atIdx 6 ?_; apply VOpsD.weak [.tmp 3]; decide +kernel; rfl; rfl; (first | exact VOwn.ref rfl | exact VOwn.vec rfl | exact VOwn.eref rfl); decide +kernel; rfl)
        | apply VWp.assoc
        | apply VWp.rseq
        | apply VWp.rseqD
        | apply VWp.skipSeq
        | apply VWp.retSeq
        | apply VOps.nil
        | apply VOpsD.nil
        | apply VOps.one
        | (apply VOpsD.bar; decide +kernel)
        | apply VOpsD.quiet
        | (apply VOps.take; rfl; rfl)
        | (apply VOps.drop; rfl; rfl; rfl)
        | (apply VOps.guard; rfl; rfl)
        | (apply VVal.fn; rfl; rfl; exact hk; intro _; rfl)
        | (apply VVal.fn; rfl; rfl; exact hm; intro _; rfl)
        | (apply VVal.fn; rfl; rfl; exact hs; intro _; rfl)
        | (apply VVal.fn; rfl; rfl; exact ho; intro _; rfl)
        | (apply VVal.fn; rfl; rfl; exact hpc; intro _; rfl)
        | (apply VVal.fn; rfl; rfl; exact hsh; intro _; rfl)
        | (apply VVal.fn; rfl; rfl; exact hso; intro _; rfl)
        | (apply VVal.fn; rfl; rfl; exact hzz; intro _; rfl)
        | (apply VVal.assign; rfl)
        | (apply VVal.move; rfl)
        | (apply VVal.sub64; rfl; rfl; omega)
        | (apply VVal.int; rfl; rfl; rfl)
        | (apply VVal.load; rfl; rfl)
        | (apply VVal.pick_true; rfl; rfl)
        | (apply VVal.pick_false; rfl; rfl)
        | (apply VVal.fieldB; rfl; rfl; rfl)
        | (apply VVal.box; rfl; trivial)
        | (apply VVal.alloc; rfl)
        | (apply VVal.storeB; rfl; rfl; rfl; trivial; rfl; rfl; exact lt_dec rfl; exact le_dec rfl)
        | (apply VVal.build; rfl; rfl; rfl; rfl; rfl)
        | (apply VVal.not; rfl)
        | (apply VVal.extract; rfl; rfl)
        | (apply VWp.condSeq_true; rfl)
        | (apply VWp.condSeq_false; rfl)
        | (apply VWp.condSeq_dec; rfl)
        | (intro _; try (exfalso; omega)))
      all_goals first | (exfalso; omega) | contradiction | (refine Done.ret rfl (.refl _) (by first | exact trivial | exact ⟨trivial, trivial, trivial⟩ | exact ⟨trivial, trivial, trivial, trivial⟩) HCov.nil (Nat.zero_le _) (Nat.le_refl _) ⟨?_, rfl, rfl⟩; rfl)
  · have h1 := pchk_both (y := r.feet) hf
    unfold repR at hs
    rw [if_neg (fun h => h hr), if_pos (by rw [h1]; exact hf), h1] at hs
    repeat' (first
      | apply VWp.assoc
      | apply VWp.rseq
      | apply VWp.skipSeq
      | apply VWp.retSeq
      | apply VOps.nil
      | apply VOps.one
      | (apply VOps.take; rfl; rfl)
      | (apply VVal.fn; rfl; rfl; exact hk; intro _; rfl)
      | (apply VVal.fn; rfl; rfl; exact hm; intro _; rfl)
      | (apply VVal.fn; rfl; rfl; exact hs; intro _; rfl)
      | (apply VVal.fn; rfl; rfl; exact ho; intro _; rfl)
      | (apply VVal.fn; rfl; rfl; exact hpc; intro _; rfl)
      | (apply VVal.fn; rfl; rfl; exact hso; intro _; rfl)
      | (apply VVal.fn; rfl; rfl; exact hzz; intro _; rfl)
      | (apply VVal.assign; rfl)
      | (apply VVal.move; rfl)
      | (apply VVal.int; rfl; rfl; rfl)
      | (apply VVal.load; rfl; rfl)
      | (apply VVal.pick_true; rfl; rfl)
      | (apply VVal.pick_false; rfl; rfl)
      | (apply VVal.fieldB; rfl; rfl; rfl)
      | (apply VVal.box; rfl; trivial)
      | (apply VVal.alloc; rfl)
      | (apply VVal.storeB; rfl; rfl; rfl; trivial; rfl; rfl; exact lt_dec rfl; exact le_dec rfl)
      | (apply VVal.build; rfl; rfl; rfl; rfl; rfl)
      | (apply VVal.not; rfl)
      | (apply VVal.extract; rfl; rfl)
      | (apply VWp.condSeq_false; rfl)
      | (apply VWp.condSeq_dec; rfl)
      | (intro _; try (exfalso; omega)))
    all_goals first | (exfalso; omega) | contradiction | (refine Done.ret rfl (.refl _) (by first | exact trivial | exact ⟨trivial, trivial, trivial⟩ | exact ⟨trivial, trivial, trivial, trivial⟩) HCov.nil (Nat.zero_le _) (Nat.le_refl _) ⟨?_, rfl, rfl⟩; rfl) | (refine Done.ret rfl (.refl _) (by first | exact trivial | exact ⟨trivial, trivial, trivial⟩ | exact ⟨trivial, trivial, trivial, trivial⟩) HCov.nil (Nat.zero_le _) (Nat.le_refl _) ⟨?_, rfl, rfl⟩; refine PV.bool_eq ?_; simp; done)

set_option maxRecDepth 100000 in
set_option maxHeartbeats 2000000 in
theorem slices_spec (x : RPlan) (hx : x.Ok) (f p : Int) : VFun env 8 [.agg x.enc, .int .i64 f, .int .i64 p] (.p (.bool true)) := by
  have hk := known_spec
  have hzz := same_zz
  have hm := make_spec x hx 0 (by omega)
  have hr := mkR_ok x hx 0 (by omega)
  have hl := mkR_len x 0
  have hw := mkR_wind x 0
  have f1 : -128 ≤ (mkR x 0).first ∧ (mkR x 0).first ≤ 127 := hx.first
  generalize mkR x 0 = r at *
  obtain ⟨-, p1, p2, p3, p4⟩ := rchk_ok hr
  have hs := slice_spec r f p hl
  refine VFun.enter (env_none (by decide)) Tryd.func8 rfl (by kernel_rfl) (by simp [Tryd.ntmps8]) ?_
  by_cases hf : 0 ≤ f ∧ f < r.wind.length
  · by_cases hp : p < 1 ∨ p > r.wind.length - f
    · rw [show sliR r f p = (zeroF, 3) by unfold sliR; rw [pipE_intro hr hf, if_neg (by decide), if_pos hp]] at hs
      repeat' (first
        | apply VWp.assoc
        | apply VWp.rseq
        | apply VWp.skipSeq
        | apply VWp.retSeq
        | apply VOps.nil
        | apply VOps.one
        | (apply VOps.take; rfl; rfl)
        | (apply VOps.drop; rfl; rfl; rfl)
        | (apply VOps.guard; rfl; rfl)
        | (apply VVal.fn; rfl; rfl; exact hk; intro _; rfl)
        | (apply VVal.fn; rfl; rfl; exact hm; intro _; rfl)
        | (apply VVal.fn; rfl; rfl; exact hs; intro _; rfl)
        | (apply VVal.fn; rfl; rfl; exact hzz; intro _; rfl)
        | (apply VVal.assign; rfl)
        | (apply VVal.move; rfl)
        | (apply VVal.sub64; rfl; rfl; omega)
        | (apply VVal.int; rfl; rfl; rfl)
        | (apply VVal.load; rfl; rfl)
        | (apply VVal.pick_true; rfl; rfl)
        | (apply VVal.pick_false; rfl; rfl)
        | (apply VVal.lenF; rfl; rfl)
        | (apply VVal.fieldB; rfl; rfl; rfl)
        | (apply VVal.box; rfl; trivial)
        | (apply VVal.alloc; rfl)
        | (apply VVal.storeB; rfl; rfl; rfl; trivial; rfl; rfl; exact lt_dec rfl; exact le_dec rfl)
        | (apply VVal.build; rfl; rfl; rfl; rfl; rfl)
        | (apply VVal.not; rfl)
        | (apply VVal.extract; rfl; rfl)
        | (apply VWp.condSeq_true; rfl)
        | (apply VWp.condSeq_false; rfl)
        | (apply VWp.condSeq_dec; rfl)
        | (intro _; try (exfalso; omega)))
      all_goals first | (exfalso; omega) | contradiction | (refine Done.ret rfl (.refl _) (by first | exact trivial | exact ⟨trivial, trivial, trivial⟩ | exact ⟨trivial, trivial, trivial, trivial⟩) HCov.nil (Nat.zero_le _) (Nat.le_refl _) ⟨?_, rfl, rfl⟩; rfl)
    · have okD : ∀ (a n : Nat), okW ((r.wind.drop a).take n) := fun a n i hi => by
        rw [List.length_take, List.length_drop] at hi
        have : gi ((r.wind.drop a).take n) i = gi r.wind (a + i) := by simp [gi, List.getElem?_take, show i < n by omega]
        rw [this]; exact p4 _ (by omega)
      have la : ((r.wind.drop f.toNat).take ((f + p).toNat - f.toNat)).length = (f + p).toNat - f.toNat := by rw [List.length_take, List.length_drop]; omega
      have es : sliR r f p = (.agg (Enc.enc { r with first := r.first + f, wind := (r.wind.drop f.toNat).take ((f + p).toNat - f.toNat) }), 0) := by
        unfold sliR
        rw [pipE_intro hr hf, if_neg (by decide), if_neg hp, rebR_ok (by omega) (by unfold firOk; omega)]
      rw [es] at hs
      have hls : rLen { r with first := r.first + f, wind := (r.wind.drop f.toNat).take ((f + p).toNat - f.toNat) } := ⟨hl.1, hl.2.1, by simp only [la]; omega⟩
      have ok1 : rchk { r with first := r.first + f, wind := (r.wind.drop f.toNat).take ((f + p).toNat - f.toNat) } = 0 := rchk_set hr (by omega) (by omega) (okD _ _)
      have s1 : VFun env 16 [.agg (Enc.enc { r with first := r.first + f, wind := (r.wind.drop f.toNat).take ((f + p).toNat - f.toNat) }), .agg [.str (bs r.name), .str (bs r.tone), .int .i64 r.feet.num, .int .i64 r.feet.den, .int .i64 (r.first + f), .lst 3 (cells ((r.wind.drop f.toNat).take ((f + p).toNat - f.toNat))) ((f + p).toNat - f.toNat)]] (.p (.bool true)) := by
        have := same_rr _ hls
        have e : Enc.enc { r with first := r.first + f, wind := (r.wind.drop f.toNat).take ((f + p).toNat - f.toNat) } = [.str (bs r.name), .str (bs r.tone), .int .i64 r.feet.num, .int .i64 r.feet.den, .int .i64 (r.first + f), .lst 3 (cells ((r.wind.drop f.toNat).take ((f + p).toNat - f.toNat))) ((f + p).toNat - f.toNat)] := by
          show [FV.str (bs r.name), .str (bs r.tone), .int .i64 r.feet.num, .int .i64 r.feet.den, .int .i64 (r.first + f), .lst 3 (cells ((r.wind.drop f.toNat).take ((f + p).toNat - f.toNat))) ((r.wind.drop f.toNat).take ((f + p).toNat - f.toNat)).length] = _
          rw [la]
        rw [← e]; exact this
      by_cases h0 : f = 0
      · repeat' (first
          | (refine VOpsD.atIdx 12 ?_; apply VOpsD.weak [.tmp 65, .tmp 66]; decide +kernel; rfl; rfl; (first | exact VOwn.ref rfl | exact VOwn.vec rfl | exact VOwn.eref rfl); decide +kernel; rfl)
          | apply VWp.assoc
          | apply VWp.rseq
          | apply VWp.rseqD
          | apply VWp.skipSeq
          | apply VWp.retSeq
          | apply VOps.nil
          | apply VOpsD.nil
          | apply VOps.one
          | (apply VOpsD.bar; decide +kernel)
          | apply VOpsD.quiet
          | (apply VOps.take; rfl; rfl)
          | (apply VOps.guard; rfl; rfl)
          | (apply VVal.fn; rfl; rfl; exact hk; intro _; rfl)
          | (apply VVal.fn; rfl; rfl; exact hm; intro _; rfl)
          | (apply VVal.fn; rfl; rfl; exact hs; intro _; rfl)
          | (apply VVal.fn; rfl; rfl; exact s1; intro _; rfl)
          | (apply VVal.sliceFT ; rfl ; rfl ; rfl ; rfl ; rfl ; rfl ; rfl ; omega)
          | (apply VVal.assign; rfl)
          | (apply VVal.move; rfl)
          | (apply VVal.add64; rfl; rfl; omega)
          | (apply VVal.sub64; rfl; rfl; omega)
          | (apply VVal.int; rfl; rfl; rfl)
          | (apply VVal.load; rfl; rfl)
          | (apply VVal.pick_false; rfl; rfl)
          | (apply VVal.lenF; rfl; rfl)
          | (apply VVal.fieldB; rfl; rfl; rfl)
          | (apply VVal.box; rfl; trivial)
          | (apply VVal.alloc; rfl)
          | (apply VVal.storeB; rfl; rfl; rfl; trivial; rfl; rfl; exact lt_dec rfl; exact le_dec rfl)
          | (apply VVal.not; rfl)
          | (apply VVal.extract; rfl; rfl)
          | (apply VWp.condSeq_false; rfl)
          | (apply VWp.condSeq_dec; rfl)
          | (intro _; try (exfalso; omega)))
        all_goals first | (exfalso; omega) | contradiction | (refine Done.ret rfl (.refl _) (by first | exact trivial | exact ⟨trivial, trivial, trivial⟩ | exact ⟨trivial, trivial, trivial, trivial⟩) HCov.nil (Nat.zero_le _) (Nat.le_refl _) ⟨?_, rfl, rfl⟩; rfl)
      · have lb : ((r.wind.drop (0 : Int).toNat).take ((0 + f).toNat - (0 : Int).toNat)).length = f.toNat := by rw [List.length_take, List.length_drop]; simp; omega
        have hs2 := slice_spec r 0 f hl
        have es2 : sliR r 0 f = (.agg (Enc.enc { r with first := r.first + 0, wind := (r.wind.drop (0 : Int).toNat).take ((0 + f).toNat - (0 : Int).toNat) }), 0) := by
          unfold sliR
          rw [pipE_intro hr (by omega), if_neg (by decide), if_neg (by omega), rebR_ok (by omega) (by unfold firOk; omega)]
        rw [es2] at hs2
        have hlb : rLen { r with first := r.first + 0, wind := (r.wind.drop (0 : Int).toNat).take ((0 + f).toNat - (0 : Int).toNat) } := ⟨hl.1, hl.2.1, by simp only [lb]; omega⟩
        have ok2 : rchk { r with first := r.first + 0, wind := (r.wind.drop (0 : Int).toNat).take ((0 + f).toNat - (0 : Int).toNat) } = 0 := rchk_set hr (by omega) (by omega) (okD _ _)
        have hj := join_spec _ _ hlb hls
        have ew : (r.wind.drop (0 : Int).toNat).take ((0 + f).toNat - (0 : Int).toNat) ++ (r.wind.drop f.toNat).take ((f + p).toNat - f.toNat) = r.wind.take (f + p).toNat := by
          have e1 : (0 + f).toNat - (0 : Int).toNat = f.toNat := by simp
          have e2 : (f + p).toNat = f.toNat + ((f + p).toNat - f.toNat) := by omega
          rw [e1]
          conv => rhs; rw [e2, List.take_add]
          simp
        have lc : (r.wind.take (f + p).toNat).length = (f + p).toNat := by rw [List.length_take]; omega
        have ej : joiR { r with first := r.first + 0, wind := (r.wind.drop (0 : Int).toNat).take ((0 + f).toNat - (0 : Int).toNat) } { r with first := r.first + f, wind := (r.wind.drop f.toNat).take ((f + p).toNat - f.toNat) } = (.agg (Enc.enc { r with first := r.first, wind := r.wind.take (f + p).toNat }), 0) := by
          unfold joiR
          rw [if_neg (fun h => h ok2), if_neg (fun h => h ok1), if_neg (fun h => h ⟨rfl, rfl⟩), if_neg (fun h => h (by simp only [lb]; omega))]
          simp only [ew]
          rw [rebR_ok (by omega) (by unfold firOk; first | omega | (dsimp only; omega))]
          simp only [Int.add_zero]
        rw [ej] at hj
        have hlc : rLen { r with first := r.first, wind := r.wind.take (f + p).toNat } := ⟨hl.1, hl.2.1, by simp only [lc]; omega⟩
        have s2 : VFun env 16 [.agg (Enc.enc { r with first := r.first, wind := r.wind.take (f + p).toNat }), .agg [.str (bs r.name), .str (bs r.tone), .int .i64 r.feet.num, .int .i64 r.feet.den, .int .i64 r.first, .lst 3 (cells (r.wind.take (f + p).toNat)) (f + p).toNat]] (.p (.bool true)) := by
          have := same_rr _ hlc
          have e : Enc.enc { r with first := r.first, wind := r.wind.take (f + p).toNat } = [.str (bs r.name), .str (bs r.tone), .int .i64 r.feet.num, .int .i64 r.feet.den, .int .i64 r.first, .lst 3 (cells (r.wind.take (f + p).toNat)) (f + p).toNat] := by
            show [FV.str (bs r.name), .str (bs r.tone), .int .i64 r.feet.num, .int .i64 r.feet.den, .int .i64 r.first, .lst 3 (cells (r.wind.take (f + p).toNat)) (r.wind.take (f + p).toNat).length] = _
            rw [lc]
          rw [← e]; exact this
        repeat' (first
          | (refine VOpsD.atIdx 12 ?_; apply VOpsD.weak [.tmp 65, .tmp 66]; decide +kernel; rfl; rfl; (first | exact VOwn.ref rfl | exact VOwn.vec rfl | exact VOwn.eref rfl); decide +kernel; rfl)
          | (refine VOpsD.atIdx 9 ?_; apply VOpsD.weak [.tmp 98, .tmp 99]; decide +kernel; rfl; rfl; (first | exact VOwn.ref rfl | exact VOwn.vec rfl | exact VOwn.eref rfl); decide +kernel; rfl)
          | apply VWp.assoc
          | apply VWp.rseq
          | apply VWp.rseqD
          | apply VWp.skipSeq
          | apply VWp.ret
          | apply VOps.nil
          | apply VOpsD.nil
          | apply VOps.one
          | (apply VOpsD.bar; decide +kernel)
          | apply VOpsD.quiet
          | (apply VOps.take; rfl; rfl)
          | (apply VOps.guard; rfl; rfl)
          | (apply VVal.fn; rfl; rfl; exact hk; intro _; rfl)
          | (apply VVal.fn; rfl; rfl; exact hm; intro _; rfl)
          | (apply VVal.fn; rfl; rfl; exact hs; intro _; rfl)
          | (apply VVal.fn; rfl; rfl; exact hs2; intro _; rfl)
          | (apply VVal.fn; rfl; rfl; exact hj; intro _; rfl)
          | (apply VVal.fn; rfl; rfl; exact s1; intro _; rfl)
          | (apply VVal.fn; rfl; rfl; exact s2; intro _; rfl)
          | (apply VVal.sliceFT ; rfl ; rfl ; rfl ; rfl ; rfl ; rfl ; rfl ; omega)
          | (apply VVal.assign; rfl)
          | (apply VVal.move; rfl)
          | (apply VVal.add64; rfl; rfl; omega)
          | (apply VVal.sub64; rfl; rfl; omega)
          | (apply VVal.int; rfl; rfl; rfl)
          | (apply VVal.load; rfl; rfl)
          | (apply VVal.pick_true; rfl; rfl)
          | (apply VVal.pick_false; rfl; rfl)
          | (apply VVal.lenF; rfl; rfl)
          | (apply VVal.fieldB; rfl; rfl; rfl)
          | (apply VVal.box; rfl; trivial)
          | (apply VVal.alloc; rfl)
          | (apply VVal.storeB; rfl; rfl; rfl; trivial; rfl; rfl; exact lt_dec rfl; exact le_dec rfl)
          | (apply VVal.not; rfl)
          | (apply VVal.extract; rfl; rfl)
          | (apply VVal.sliceToI; rfl; rfl; rfl; rfl; rfl; rfl; omega)
          | (apply VWp.condSeq_false; rfl)
          | (apply VWp.condSeq_dec; rfl)
          | (intro _; try (exfalso; omega)))
        all_goals first | (exfalso; omega) | contradiction | (refine Done.ret rfl (.refl _) (by first | exact trivial | exact ⟨trivial, trivial, trivial⟩ | exact ⟨trivial, trivial, trivial, trivial⟩) HCov.nil (Nat.zero_le _) (Nat.le_refl _) ⟨?_, rfl, rfl⟩; rfl)
  · rw [show sliR r f p = (zeroF, 10) by unfold sliR; rw [pipE_bad hr hf, if_pos (by decide)]] at hs
    repeat' (first
      | apply VWp.assoc
      | apply VWp.rseq
      | apply VWp.skipSeq
      | apply VWp.retSeq
      | apply VOps.nil
      | apply VOps.one
      | (apply VOps.take; rfl; rfl)
      | (apply VOps.drop; rfl; rfl; rfl)
      | (apply VOps.guard; rfl; rfl)
      | (apply VVal.fn; rfl; rfl; exact hk; intro _; rfl)
      | (apply VVal.fn; rfl; rfl; exact hm; intro _; rfl)
      | (apply VVal.fn; rfl; rfl; exact hs; intro _; rfl)
      | (apply VVal.fn; rfl; rfl; exact hzz; intro _; rfl)
      | (apply VVal.assign; rfl)
      | (apply VVal.move; rfl)
      | (apply VVal.int; rfl; rfl; rfl)
      | (apply VVal.load; rfl; rfl)
      | (apply VVal.pick_true; rfl; rfl)
      | (apply VVal.pick_false; rfl; rfl)
      | (apply VVal.lenF; rfl; rfl)
      | (apply VVal.fieldB; rfl; rfl; rfl)
      | (apply VVal.box; rfl; trivial)
      | (apply VVal.alloc; rfl)
      | (apply VVal.storeB; rfl; rfl; rfl; trivial; rfl; rfl; exact lt_dec rfl; exact le_dec rfl)
      | (apply VVal.build; rfl; rfl; rfl; rfl; rfl)
      | (apply VVal.not; rfl)
      | (apply VVal.extract; rfl; rfl)
      | (apply VWp.condSeq_true; rfl)
      | (apply VWp.condSeq_false; rfl)
      | (apply VWp.condSeq_dec; rfl)
      | (intro _; try (exfalso; omega)))
    all_goals first | (exfalso; omega) | contradiction | (refine Done.ret rfl (.refl _) (by first | exact trivial | exact ⟨trivial, trivial, trivial⟩ | exact ⟨trivial, trivial, trivial, trivial⟩) HCov.nil (Nat.zero_le _) (Nat.le_refl _) ⟨?_, rfl, rfl⟩; rfl)

set_option maxRecDepth 100000 in
set_option maxHeartbeats 2000000 in
theorem adds_spec (x : RPlan) (hx : x.Ok) (w : List Int) (hw0 : w.length < 9223372036854775808) : VFun env 5 [.agg x.enc, .lst 3 (cells w) w.length] (.p (.bool true)) := by
  have hk := known_spec
  have hzz := same_zz
  have hm := make_spec x hx 0 (by omega)
  have hr := mkR_ok x hx 0 (by omega)
  have hl := mkR_len x 0
  have hw := mkR_wind x 0
  have f1 : -128 ≤ (mkR x 0).first ∧ (mkR x 0).first ≤ 127 := hx.first
  generalize mkR x 0 = r at *
  obtain ⟨-, p1, p2, p3, p4⟩ := rchk_ok hr
  have hwi := lwinds_spec w hw0
  refine VFun.enter (env_none (by decide)) Tryd.func5 rfl (by kernel_rfl) (by simp [Tryd.ntmps5]) ?_
  by_cases h130 : w.length ≤ 130
  · have ha := below_spec r w hl (by omega)
    have hb := above_spec r w hl (by omega)
    by_cases hwe : windsE w = 0
    · have l1 : (w ++ r.wind).length = w.length + r.wind.length := List.length_append
      have l2 : (r.wind ++ w).length = r.wind.length + w.length := List.length_append
      rw [hwe] at hwi
      by_cases h128 : w.length + r.wind.length ≤ 128
      · have eb : aboR r w = (.agg (Enc.enc { r with first := r.first, wind := r.wind ++ w }), 0) := by
          unfold aboR
          rw [if_neg (fun h => h hr), if_neg (fun h => h hwe), rebR_ok (by omega) (by unfold firOk; omega)]
        rw [eb] at hb
        have hlu : rLen { r with first := r.first, wind := r.wind ++ w } := ⟨hl.1, hl.2.1, by simp only [l2]; omega⟩
        have su : VFun env 16 [.agg (Enc.enc { r with first := r.first, wind := r.wind ++ w }), .agg [.str (bs r.name), .str (bs r.tone), .int .i64 r.feet.num, .int .i64 r.feet.den, .int .i64 r.first, .lst 3 (cells (r.wind ++ w)) (r.wind.length + w.length)]] (.p (.bool true)) := by
          rw [← List.length_append]; exact same_rr _ hlu
        by_cases hfi : r.first - w.length < -256
        · have ea : belR r w = (zeroF, 3) := by
            unfold belR
            rw [if_neg (fun h => h hr), if_neg (fun h => h hwe)]
            unfold rebR
            rw [if_neg (by omega), if_pos (fun h => by unfold firOk at h; omega)]
          rw [ea] at ha
          repeat' (first
            | apply VWp.assoc
            | apply VWp.rseq
            | apply VOps.nil
            | apply VOps.one
            | (apply VOps.take; rfl; rfl)
            | (apply VVal.fn; rfl; rfl; exact hk; intro _; rfl)
            | (apply VVal.assign; rfl)
            | (apply VVal.move; rfl)
            | (apply VVal.int; rfl; rfl; rfl)
            | (apply VVal.pick_false; rfl; rfl)
            | (apply VVal.lenF; rfl; rfl)
            | (apply VVal.box; rfl; trivial)
            | (apply VVal.not; rfl)
            | (apply VWp.condSeq_dec; rfl)
            | (intro _; try (exfalso; omega)))
          all_goals first | (exfalso; omega) | contradiction | (refine Done.ret rfl (.refl _) (by first | exact trivial | exact ⟨trivial, trivial, trivial⟩ | exact ⟨trivial, trivial, trivial, trivial⟩) HCov.nil (Nat.zero_le _) (Nat.le_refl _) ⟨?_, rfl, rfl⟩; rfl)
        · have ea : belR r w = (.agg (Enc.enc { r with first := r.first - w.length, wind := w ++ r.wind }), 0) := by
            unfold belR
            rw [if_neg (fun h => h hr), if_neg (fun h => h hwe), rebR_ok (by omega) (by unfold firOk; omega)]
          rw [ea] at ha
          have hld : rLen { r with first := r.first - w.length, wind := w ++ r.wind } := ⟨hl.1, hl.2.1, by simp only [l1]; omega⟩
          have sd : VFun env 16 [.agg (Enc.enc { r with first := r.first - w.length, wind := w ++ r.wind }), .agg [.str (bs r.name), .str (bs r.tone), .int .i64 r.feet.num, .int .i64 r.feet.den, .int .i64 (r.first - w.length), .lst 3 (cells (w ++ r.wind)) (w.length + r.wind.length)]] (.p (.bool true)) := by
            rw [← List.length_append]; exact same_rr _ hld
          repeat' (first
            | (refine VWp.at 16 ?_; refine VWp.ghost (Ghost.freezeCell 4 5 rfl rfl rfl) ?_; first | apply VWp.rseq | apply VWp.rseqD)
            | (refine VWp.at 19 ?_; refine VWp.ghost (Ghost.freezeCell 5 5 rfl rfl rfl) ?_; first | apply VWp.rseq | apply VWp.rseqD)
            | (refine VOpsD.atIdx 7 ?_; apply VOpsD.weak [.tmp 75, .tmp 5]; decide +kernel; rfl; rfl; (first | exact VOwn.ref rfl | exact VOwn.vec rfl | exact VOwn.eref rfl); decide +kernel; rfl)
            | (refine VOpsD.atIdx 10 ?_; apply VOpsD.weak [.tmp 75]; decide +kernel; rfl; rfl; (first | exact VOwn.ref rfl | exact VOwn.vec rfl | exact VOwn.eref rfl); decide +kernel; rfl)
            | apply VWp.assoc
            | apply VWp.rseq
            | apply VWp.rseqD
            | apply VWp.skipSeq
            | apply VWp.ret
            | apply VOps.nil
            | apply VOpsD.nil
            | apply VOps.one
            | (apply VOpsD.bar; decide +kernel)
            | apply VOpsD.quiet
            | (apply VOps.take; rfl; rfl)
            | (apply VVal.fn; rfl; rfl; exact hk; intro _; rfl)
            | (apply VVal.fn; rfl; rfl; exact hm; intro _; rfl)
            | (apply VVal.fn; rfl; rfl; exact ha; intro _; rfl)
            | (apply VVal.fn; rfl; rfl; exact hb; intro _; rfl)
            | (apply VVal.fn; rfl; rfl; exact hwi; intro _; rfl)
            | (apply VVal.fn; rfl; rfl; exact su; intro _; rfl)
            | (apply VVal.fn; rfl; rfl; exact sd; intro _; rfl)
            | (apply VVal.appendL (l := r.wind) (r := w) ; rfl ; rfl ; rfl ; rfl ; rfl ; rfl ; rfl ; (intro _ h ; cases h) ; rfl ; rfl ; rfl ; decide ; decide ; omega)
            | (apply VVal.appendL0 (r := r.wind) ; rfl ; rfl ; rfl ; rfl ; rfl ; rfl ; (intro _ h ; cases h) ; rfl ; rfl ; rfl ; decide ; decide ; omega)
            | (apply VVal.appendL (l := w) (r := r.wind) ; rfl ; rfl ; rfl ; rfl ; rfl ; rfl ; rfl ; (intro _ h ; cases h) ; rfl ; rfl ; rfl ; decide ; decide ; omega)
            | (apply VVal.appendL0 (r := w) ; rfl ; rfl ; rfl ; rfl ; rfl ; rfl ; (intro _ h ; cases h) ; rfl ; rfl ; rfl ; decide ; decide ; omega)
            | (apply VVal.assign; rfl)
            | (apply VVal.move; rfl)
            | (apply VVal.add64; rfl; rfl; omega)
            | (apply VVal.sub64; rfl; rfl; omega)
            | (apply VVal.int; rfl; rfl; rfl)
            | (apply VVal.load; rfl; rfl)
            | (apply VVal.pick_true; rfl; rfl)
            | (apply VVal.pick_false; rfl; rfl)
            | (apply VVal.lenF; rfl; rfl)
            | (apply VVal.fieldB; rfl; rfl; rfl)
            | (apply VVal.box; rfl; trivial)
            | (apply VVal.alloc; rfl)
            | (apply VVal.storeB; rfl; rfl; rfl; trivial; rfl; rfl; exact lt_dec rfl; exact le_dec rfl)
            | (apply VVal.build; rfl; rfl; rfl; rfl; rfl)
            | (apply VVal.buildSlice; rfl; rfl; rfl; decide; rfl; rfl; rfl)
            | (apply VVal.not; rfl)
            | (apply VVal.extract; rfl; rfl)
            | (apply VWp.condSeq_true; rfl)
            | (apply VWp.condSeq_dec; rfl)
            | (intro _; try (exfalso; omega)))
          all_goals first | (exfalso; omega) | contradiction | (refine Done.ret rfl (.refl _) (by first | exact trivial | exact ⟨trivial, trivial, trivial⟩ | exact ⟨trivial, trivial, trivial, trivial⟩) HCov.nil (Nat.zero_le _) (Nat.le_refl _) ⟨?_, rfl, rfl⟩; rfl)
      · have ea : belR r w = (zeroF, 4) := by
          unfold belR
          rw [if_neg (fun h => h hr), if_neg (fun h => h hwe)]
          unfold rebR
          rw [if_pos (by omega)]
        have eb : aboR r w = (zeroF, 4) := by
          unfold aboR
          rw [if_neg (fun h => h hr), if_neg (fun h => h hwe)]
          unfold rebR
          rw [if_pos (by omega)]
        rw [ea] at ha
        rw [eb] at hb
        repeat' (first
          | apply VWp.assoc
          | apply VWp.rseq
          | apply VWp.skipSeq
          | apply VWp.ret
          | apply VOps.nil
          | apply VOps.one
          | (apply VOps.take; rfl; rfl)
          | (apply VOps.drop; rfl; rfl; rfl)
          | (apply VVal.fn; rfl; rfl; exact hk; intro _; rfl)
          | (apply VVal.fn; rfl; rfl; exact hm; intro _; rfl)
          | (apply VVal.fn; rfl; rfl; exact ha; intro _; rfl)
          | (apply VVal.fn; rfl; rfl; exact hb; intro _; rfl)
          | (apply VVal.fn; rfl; rfl; exact hwi; intro _; rfl)
          | (apply VVal.fn; rfl; rfl; exact hzz; intro _; rfl)
          | (apply VVal.assign; rfl)
          | (apply VVal.move; rfl)
          | (apply VVal.add64; rfl; rfl; omega)
          | (apply VVal.int; rfl; rfl; rfl)
          | (apply VVal.load; rfl; rfl)
          | (apply VVal.pick_true; rfl; rfl)
          | (apply VVal.pick_false; rfl; rfl)
          | (apply VVal.lenF; rfl; rfl)
          | (apply VVal.fieldB; rfl; rfl; rfl)
          | (apply VVal.box; rfl; trivial)
          | (apply VVal.alloc; rfl)
          | (apply VVal.storeB; rfl; rfl; rfl; trivial; rfl; rfl; exact lt_dec rfl; exact le_dec rfl)
          | (apply VVal.build; rfl; rfl; rfl; rfl; rfl)
          | (apply VVal.not; rfl)
          | (apply VVal.extract; rfl; rfl)
          | (apply VWp.condSeq_false; rfl)
          | (apply VWp.condSeq_dec; rfl)
          | (intro _; try (exfalso; omega)))
        all_goals first | (exfalso; omega) | contradiction | (refine Done.ret rfl (.refl _) (by first | exact trivial | exact ⟨trivial, trivial, trivial⟩ | exact ⟨trivial, trivial, trivial, trivial⟩) HCov.nil (Nat.zero_le _) (Nat.le_refl _) ⟨?_, rfl, rfl⟩; rfl)
    · have ea : belR r w = (zeroF, windsE w) := by
        unfold belR
        rw [if_neg (fun h => h hr), if_pos hwe]
      have eb : aboR r w = (zeroF, windsE w) := by
        unfold aboR
        rw [if_neg (fun h => h hr), if_pos hwe]
      rw [ea] at ha
      rw [eb] at hb
      generalize windsE w = e at *
      repeat' (first
        | apply VWp.assoc
        | apply VWp.rseq
        | apply VWp.skipSeq
        | apply VWp.ret
        | apply VOps.nil
        | apply VOps.one
        | (apply VOps.take; rfl; rfl)
        | (apply VOps.drop; rfl; rfl; rfl)
        | (apply VOps.guard; rfl; rfl)
        | (apply VVal.fn; rfl; rfl; exact hk; intro _; rfl)
        | (apply VVal.fn; rfl; rfl; exact hm; intro _; rfl)
        | (apply VVal.fn; rfl; rfl; exact ha; intro _; rfl)
        | (apply VVal.fn; rfl; rfl; exact hb; intro _; rfl)
        | (apply VVal.fn; rfl; rfl; exact hwi; intro _; rfl)
        | (apply VVal.fn; rfl; rfl; exact hzz; intro _; rfl)
        | (apply VVal.assign; rfl)
        | (apply VVal.move; rfl)
        | (apply VVal.int; rfl; rfl; rfl)
        | (apply VVal.load; rfl; rfl)
        | (apply VVal.pick_true; rfl; rfl)
        | (apply VVal.pick_false; rfl; rfl)
        | (apply VVal.lenF; rfl; rfl)
        | (apply VVal.box; rfl; trivial)
        | (apply VVal.alloc; rfl)
        | (apply VVal.storeB; rfl; rfl; rfl; trivial; rfl; rfl; exact lt_dec rfl; exact le_dec rfl)
        | (apply VVal.build; rfl; rfl; rfl; rfl; rfl)
        | (apply VVal.not; rfl)
        | (apply VVal.extract; rfl; rfl)
        | (apply VWp.condSeq_false; rfl)
        | (apply VWp.condSeq_dec; rfl)
        | (intro _; try (exfalso; omega)))
      all_goals first | (exfalso; omega) | contradiction | (refine Done.ret rfl (.refl _) (by first | exact trivial | exact ⟨trivial, trivial, trivial⟩ | exact ⟨trivial, trivial, trivial, trivial⟩) HCov.nil (Nat.zero_le _) (Nat.le_refl _) ⟨?_, rfl, rfl⟩; rfl) | (refine Done.ret rfl (.refl _) (by first | exact trivial | exact ⟨trivial, trivial, trivial⟩ | exact ⟨trivial, trivial, trivial, trivial⟩) HCov.nil (Nat.zero_le _) (Nat.le_refl _) ⟨?_, rfl, rfl⟩; refine PV.bool_eq ?_; simp; done)
  · repeat' (first
      | apply VWp.assoc
      | apply VWp.rseq
      | apply VWp.retSeq
      | apply VOps.nil
      | apply VOps.one
      | (apply VOps.take; rfl; rfl)
      | (apply VVal.fn; rfl; rfl; exact hk; intro _; rfl)
      | (apply VVal.assign; rfl)
      | (apply VVal.move; rfl)
      | (apply VVal.int; rfl; rfl; rfl)
      | (apply VVal.pick_false; rfl; rfl)
      | (apply VVal.lenF; rfl; rfl)
      | (apply VVal.box; rfl; trivial)
      | (apply VVal.not; rfl)
      | (apply VWp.condSeq_dec; rfl)
      | (intro _; try (exfalso; omega)))
    all_goals first | (exfalso; omega) | contradiction | (refine Done.ret rfl (.refl _) (by first | exact trivial | exact ⟨trivial, trivial, trivial⟩ | exact ⟨trivial, trivial, trivial, trivial⟩) HCov.nil (Nat.zero_le _) (Nat.le_refl _) ⟨?_, rfl, rfl⟩; rfl)
end Go.Proofs.YtabjkjgpaahbhaaDoor
