/-
  The layer of ranks: pipe, Sounding, rebuilt. Conditions: in each statement.
-/
import Derived.Test.YtabjkjgpaahbhaaDoorRkC
import Derived.Test.YtabjkjgpaahbhaaDoorRkA
set_option linter.unusedSimpArgs false
set_option linter.unusedVariables false
namespace Go.Proofs.YtabjkjgpaahbhaaDoor
open Go Go.Am Go.Vm
attribute [local irreducible] VVal VOps VOpsD VWp VCalls VFun VFunV QSeq QBlk QLoop Vm.Done DoneV DoneI
attribute [local irreducible] rchk windsE shz shiftR

/-- the lengths of a rank's parts are small -/
def rLen (r : Rnk) : Prop := r.name.length < 9223372036854775808 ∧ r.tone.length < 9223372036854775808 ∧ r.wind.length < 9223372036854775808
noncomputable def pipE (r : Rnk) (n : Int) : Int := if rchk r ≠ 0 then rchk r else if n < 0 ∨ n ≥ r.wind.length then 10 else 0

set_option maxRecDepth 100000 in
theorem pipe_spec (r : Rnk) (n : Int) (h : rLen r) : VFun env 36 [.agg (Enc.enc r), .int .i64 n] (.p (.int .i64 (pipE r n))) := by
  have hc := rcheck_spec r h.1 h.2.1 h.2.2
  unfold pipE
  refine VFun.enter (env_none (by decide)) Tryd.func36 rfl (by kernel_rfl) (by simp [Tryd.ntmps36]) ?_
  repeat' (first
    | apply VWp.assoc
    | apply VWp.rseq
    | apply VWp.skipSeq
    | apply VWp.retSeq
    | apply VWp.ret
    | apply VOps.nil
    | apply VOps.one
    | (apply VOps.take; rfl; rfl)
    | (apply VOps.drop; rfl; rfl; rfl)
    | (apply VOps.guard; rfl; rfl)
    | (apply VVal.fn; rfl; rfl; exact hc; intro _; rfl)
    | (apply VVal.assign; rfl)
    | (apply VVal.move; rfl)
    | (apply VVal.int; rfl; rfl; rfl)
    | (apply VVal.load; rfl; rfl)
    | (apply VVal.pick_true; rfl; rfl)
    | (apply VVal.pick_false; rfl; rfl)
    | (apply VVal.lenF; rfl; rfl)
    | (apply VVal.fieldB; rfl; rfl; rfl)
    | (apply VVal.box; rfl; trivial)
    | (apply VWp.condSeq_true; rfl)
    | (apply VWp.condSeq_dec; rfl)
    | (intro _; try (exfalso; omega)))
  all_goals first
    | (rw [if_pos (by assumption)]; (refine Done.ret rfl (.refl _) (by first | exact trivial | exact ⟨trivial, trivial, trivial⟩ | exact ⟨trivial, trivial, trivial, trivial⟩) HCov.nil (Nat.zero_le _) (Nat.le_refl _) ⟨?_, rfl, rfl⟩; try rfl); done)
    | (rw [if_neg (by assumption), if_pos (by omega)]; (refine Done.ret rfl (.refl _) (by first | exact trivial | exact ⟨trivial, trivial, trivial⟩ | exact ⟨trivial, trivial, trivial, trivial⟩) HCov.nil (Nat.zero_le _) (Nat.le_refl _) ⟨?_, rfl, rfl⟩; try rfl); done)
    | (rw [if_neg (by assumption), if_neg (by omega)]; (refine Done.ret rfl (.refl _) (by first | exact trivial | exact ⟨trivial, trivial, trivial⟩ | exact ⟨trivial, trivial, trivial, trivial⟩) HCov.nil (Nat.zero_le _) (Nat.le_refl _) ⟨?_, rfl, rfl⟩; try rfl); done)

def zeroF : FV := .agg [.str ⟨#[]⟩, .str ⟨#[]⟩, .int .i64 0, .int .i64 0, .int .i64 0, .val (.slice none 0 0)]
def rebR (r : Rnk) (n : Int) (w : List Int) : FV × Int := if w.length > 128 then (zeroF, 4) else if ¬ firOk n then (zeroF, 3) else (.agg (Enc.enc { r with first := n, wind := w }), 0)

set_option maxRecDepth 100000 in
set_option maxHeartbeats 1000000 in
theorem rebuilt2_spec (r : Rnk) (n : Int) (a b : List Int) (h0 : 0 < a.length + b.length) (h1 : a.length + b.length ≤ 1000) :
    VFun env 39 [.agg (Enc.enc r), .int .i64 n, .lst 29 [.lst 3 (cells a) a.length, .lst 3 (cells b) b.length] 2] (.tup [.p (rebR r n (a ++ b)).1, .p (.int .i64 (rebR r n (a ++ b)).2)]) := by
  have hc := concat2_spec a b h0 h1
  have hf := first_spec n
  have hl : (a ++ b).length = a.length + b.length := List.length_append
  rw [← hl] at hc
  unfold rebR
  refine VFun.enter (env_none (by decide)) Tryd.func39 rfl (by kernel_rfl) (by simp [Tryd.ntmps39]) ?_
  by_cases a1 : firOk n
  · rw [decide_eq_true a1] at hf
    repeat' (first
      | (refine VWp.at 2 ?_; refine VWp.ghost (Ghost.freeze 8 rfl rfl) ?_; first | apply VWp.rseq | apply VWp.rseqD)
      | apply VWp.rseq
      | apply VWp.blockSeq
      | apply QSeq.normal
      | apply QSeq.ret
      | apply QBlk.normal
      | apply QBlk.ret
      | apply VWp.ret
      | apply VWp.skip
      | apply VOps.nil
      | apply VOps.one
      | (apply VVal.fv; rfl; rfl; exact hc)
      | (apply VVal.fn; rfl; rfl; exact hf; intro _; rfl)
      | (apply VVal.assign; rfl)
      | (apply VVal.move; rfl)
      | (apply VVal.int; rfl; rfl; rfl)
      | (apply VVal.load; rfl; rfl)
      | (apply VVal.lenF; rfl; rfl)
      | (apply VVal.fieldB; rfl; rfl; rfl)
      | (apply VVal.box; rfl; trivial)
      | (apply VVal.alloc; rfl)
      | (apply VVal.storeB; rfl; rfl; rfl; trivial; rfl; rfl; exact lt_dec rfl; exact le_dec rfl)
      | (apply VVal.build; rfl; rfl; rfl; rfl; rfl)
      | (apply VVal.not; rfl)
      | (apply VWp.cond_false; rfl)
      | (apply VWp.cond_dec; rfl)
      | (intro _; try (exfalso; omega)))
    all_goals first | (rw [if_pos (by omega)]; (refine Done.ret rfl (.refl _) (by first | exact trivial | exact ⟨trivial, trivial, trivial⟩ | exact ⟨trivial, trivial, trivial, trivial⟩) HCov.nil (Nat.zero_le _) (Nat.le_refl _) ⟨?_, rfl, rfl⟩; try rfl); done) | (rw [if_neg (by omega), if_neg (Classical.not_not.2 a1)]; (refine Done.ret rfl (.refl _) (by first | exact trivial | exact ⟨trivial, trivial, trivial⟩ | exact ⟨trivial, trivial, trivial, trivial⟩) HCov.nil (Nat.zero_le _) (Nat.le_refl _) ⟨?_, rfl, rfl⟩; try rfl); done) | (rw [if_neg (by omega), if_pos a1]; (refine Done.ret rfl (.refl _) (by first | exact trivial | exact ⟨trivial, trivial, trivial⟩ | exact ⟨trivial, trivial, trivial, trivial⟩) HCov.nil (Nat.zero_le _) (Nat.le_refl _) ⟨?_, rfl, rfl⟩; try rfl); done)
  · rw [decide_eq_false a1] at hf
    repeat' (first
      | (refine VWp.at 2 ?_; refine VWp.ghost (Ghost.freeze 8 rfl rfl) ?_; first | apply VWp.rseq | apply VWp.rseqD)
      | apply VWp.rseq
      | apply VWp.blockSeq
      | apply QSeq.ret
      | apply QBlk.ret
      | apply VWp.ret
      | apply VOps.nil
      | apply VOps.one
      | (apply VVal.fv; rfl; rfl; exact hc)
      | (apply VVal.fn; rfl; rfl; exact hf; intro _; rfl)
      | (apply VVal.assign; rfl)
      | (apply VVal.move; rfl)
      | (apply VVal.int; rfl; rfl; rfl)
      | (apply VVal.lenF; rfl; rfl)
      | (apply VVal.box; rfl; trivial)
      | (apply VVal.alloc; rfl)
      | (apply VVal.storeB; rfl; rfl; rfl; trivial; rfl; rfl; exact lt_dec rfl; exact le_dec rfl)
      | (apply VVal.build; rfl; rfl; rfl; rfl; rfl)
      | (apply VVal.not; rfl)
      | (apply VWp.cond_true; rfl)
      | (apply VWp.cond_dec; rfl)
      | (intro _; try (exfalso; omega)))
    all_goals first | (rw [if_pos (by omega)]; (refine Done.ret rfl (.refl _) (by first | exact trivial | exact ⟨trivial, trivial, trivial⟩ | exact ⟨trivial, trivial, trivial, trivial⟩) HCov.nil (Nat.zero_le _) (Nat.le_refl _) ⟨?_, rfl, rfl⟩; try rfl); done) | (rw [if_neg (by omega), if_neg (Classical.not_not.2 a1)]; (refine Done.ret rfl (.refl _) (by first | exact trivial | exact ⟨trivial, trivial, trivial⟩ | exact ⟨trivial, trivial, trivial, trivial⟩) HCov.nil (Nat.zero_le _) (Nat.le_refl _) ⟨?_, rfl, rfl⟩; try rfl); done) | (rw [if_neg (by omega), if_pos a1]; (refine Done.ret rfl (.refl _) (by first | exact trivial | exact ⟨trivial, trivial, trivial⟩ | exact ⟨trivial, trivial, trivial, trivial⟩) HCov.nil (Nat.zero_le _) (Nat.le_refl _) ⟨?_, rfl, rfl⟩; try rfl); done)
set_option maxRecDepth 100000 in
set_option maxHeartbeats 1000000 in
theorem rebuilt1_spec (r : Rnk) (n : Int) (a : List Int) (h0 : 0 < a.length) (h1 : a.length ≤ 1000) :
    VFun env 39 [.agg (Enc.enc r), .int .i64 n, .lst 29 [.lst 3 (cells a) a.length] 1] (.tup [.p (rebR r n a).1, .p (.int .i64 (rebR r n a).2)]) := by
  have hc := concat1_spec a h0 h1
  have hf := first_spec n
  unfold rebR
  refine VFun.enter (env_none (by decide)) Tryd.func39 rfl (by kernel_rfl) (by simp [Tryd.ntmps39]) ?_
  by_cases a1 : firOk n
  · rw [decide_eq_true a1] at hf
    repeat' (first
      | (refine VWp.at 2 ?_; refine VWp.ghost (Ghost.freeze 8 rfl rfl) ?_; first | apply VWp.rseq | apply VWp.rseqD)
      | apply VWp.rseq
      | apply VWp.blockSeq
      | apply QSeq.normal
      | apply QSeq.ret
      | apply QBlk.normal
      | apply QBlk.ret
      | apply VWp.ret
      | apply VWp.skip
      | apply VOps.nil
      | apply VOps.one
      | (apply VVal.fv; rfl; rfl; exact hc)
      | (apply VVal.fn; rfl; rfl; exact hf; intro _; rfl)
      | (apply VVal.assign; rfl)
      | (apply VVal.move; rfl)
      | (apply VVal.int; rfl; rfl; rfl)
      | (apply VVal.load; rfl; rfl)
      | (apply VVal.lenF; rfl; rfl)
      | (apply VVal.fieldB; rfl; rfl; rfl)
      | (apply VVal.box; rfl; trivial)
      | (apply VVal.alloc; rfl)
      | (apply VVal.storeB; rfl; rfl; rfl; trivial; rfl; rfl; exact lt_dec rfl; exact le_dec rfl)
      | (apply VVal.build; rfl; rfl; rfl; rfl; rfl)
      | (apply VVal.not; rfl)
      | (apply VWp.cond_false; rfl)
      | (apply VWp.cond_dec; rfl)
      | (intro _; try (exfalso; omega)))
    all_goals first | (rw [if_pos (by omega)]; (refine Done.ret rfl (.refl _) (by first | exact trivial | exact ⟨trivial, trivial, trivial⟩ | exact ⟨trivial, trivial, trivial, trivial⟩) HCov.nil (Nat.zero_le _) (Nat.le_refl _) ⟨?_, rfl, rfl⟩; try rfl); done) | (rw [if_neg (by omega), if_neg (Classical.not_not.2 a1)]; (refine Done.ret rfl (.refl _) (by first | exact trivial | exact ⟨trivial, trivial, trivial⟩ | exact ⟨trivial, trivial, trivial, trivial⟩) HCov.nil (Nat.zero_le _) (Nat.le_refl _) ⟨?_, rfl, rfl⟩; try rfl); done) | (rw [if_neg (by omega), if_pos a1]; (refine Done.ret rfl (.refl _) (by first | exact trivial | exact ⟨trivial, trivial, trivial⟩ | exact ⟨trivial, trivial, trivial, trivial⟩) HCov.nil (Nat.zero_le _) (Nat.le_refl _) ⟨?_, rfl, rfl⟩; try rfl); done)
  · rw [decide_eq_false a1] at hf
    repeat' (first
      | (refine VWp.at 2 ?_; refine VWp.ghost (Ghost.freeze 8 rfl rfl) ?_; first | apply VWp.rseq | apply VWp.rseqD)
      | apply VWp.rseq
      | apply VWp.blockSeq
      | apply QSeq.ret
      | apply QBlk.ret
      | apply VWp.ret
      | apply VOps.nil
      | apply VOps.one
      | (apply VVal.fv; rfl; rfl; exact hc)
      | (apply VVal.fn; rfl; rfl; exact hf; intro _; rfl)
      | (apply VVal.assign; rfl)
      | (apply VVal.move; rfl)
      | (apply VVal.int; rfl; rfl; rfl)
      | (apply VVal.lenF; rfl; rfl)
      | (apply VVal.box; rfl; trivial)
      | (apply VVal.alloc; rfl)
      | (apply VVal.storeB; rfl; rfl; rfl; trivial; rfl; rfl; exact lt_dec rfl; exact le_dec rfl)
      | (apply VVal.build; rfl; rfl; rfl; rfl; rfl)
      | (apply VVal.not; rfl)
      | (apply VWp.cond_true; rfl)
      | (apply VWp.cond_dec; rfl)
      | (intro _; try (exfalso; omega)))
    all_goals first | (rw [if_pos (by omega)]; (refine Done.ret rfl (.refl _) (by first | exact trivial | exact ⟨trivial, trivial, trivial⟩ | exact ⟨trivial, trivial, trivial, trivial⟩) HCov.nil (Nat.zero_le _) (Nat.le_refl _) ⟨?_, rfl, rfl⟩; try rfl); done) | (rw [if_neg (by omega), if_neg (Classical.not_not.2 a1)]; (refine Done.ret rfl (.refl _) (by first | exact trivial | exact ⟨trivial, trivial, trivial⟩ | exact ⟨trivial, trivial, trivial, trivial⟩) HCov.nil (Nat.zero_le _) (Nat.le_refl _) ⟨?_, rfl, rfl⟩; try rfl); done) | (rw [if_neg (by omega), if_pos a1]; (refine Done.ret rfl (.refl _) (by first | exact trivial | exact ⟨trivial, trivial, trivial⟩ | exact ⟨trivial, trivial, trivial, trivial⟩) HCov.nil (Nat.zero_le _) (Nat.le_refl _) ⟨?_, rfl, rfl⟩; try rfl); done)

noncomputable def sndR (r : Rnk) (k : Int) : Int × Bool × Int := if pipE r k ≠ 0 then (0, false, pipE r k) else if (shiftR r.feet ⟨8, 1⟩).2 ≠ 0 ∨ r.first + k + (shiftR r.feet ⟨8, 1⟩).1 < 0 ∨ r.first + k + (shiftR r.feet ⟨8, 1⟩).1 > 127 then (0, false, (shiftR r.feet ⟨8, 1⟩).2) else (r.first + k + (shiftR r.feet ⟨8, 1⟩).1, true, 0)
set_option maxRecDepth 100000 in
set_option maxHeartbeats 1000000 in
theorem sounding_spec (r : Rnk) (k : Int) (h : rLen r) (hb : pipE r k = 0 → -1000 ≤ r.first ∧ r.first ≤ 1000 ∧ -1000 ≤ k ∧ k ≤ 1000) (hs : -1000000 ≤ (shiftR r.feet ⟨8, 1⟩).1 ∧ (shiftR r.feet ⟨8, 1⟩).1 ≤ 1000000) :
    VFun env 13 [.agg (Enc.enc r), .int .i64 k] (.tup [.p (.int .i64 (sndR r k).1), .p (.bool (sndR r k).2.1), .p (.int .i64 (sndR r k).2.2)]) := by
  have hp := pipe_spec r k h
  have hh := pShift_spec r.feet ⟨8, 1⟩
  unfold sndR
  generalize shiftR r.feet ⟨8, 1⟩ = S at *
  refine VFun.enter (env_none (by decide)) Tryd.func13 rfl (by kernel_rfl) (by simp [Tryd.ntmps13]) ?_
  by_cases h0 : pipE r k = 0
  · have hb := hb h0
    rw [h0] at hp ⊢
    rw [if_neg (by decide)]
    repeat' (first
      | apply VWp.assoc
      | apply VWp.rseq
      | apply VWp.skipSeq
      | apply VWp.retSeq
      | apply VWp.ret
      | apply VOps.nil
      | apply VOps.one
      | (apply VOps.take; rfl; rfl)
      | (apply VOps.drop; rfl; rfl; rfl)
      | (apply VOps.guard; rfl; rfl)
      | (apply VVal.fn; rfl; rfl; exact hp; intro _; rfl)
      | (apply VVal.fn; rfl; rfl; exact hh; intro _; rfl)
      | (apply VVal.assign; rfl)
      | (apply VVal.move; rfl)
      | (apply VVal.add64; rfl; rfl; omega)
      | (apply VVal.int; rfl; rfl; rfl)
      | (apply VVal.load; rfl; rfl)
      | (apply VVal.pick_true; rfl; rfl)
      | (apply VVal.pick_false; rfl; rfl)
      | (apply VVal.fieldB; rfl; rfl; rfl)
      | (apply VVal.box; rfl; trivial)
      | (apply VVal.build; rfl; rfl; rfl; rfl; rfl)
      | (apply VVal.extract; rfl; rfl)
      | (apply VWp.condSeq_true; rfl)
      | (apply VWp.condSeq_false; rfl)
      | (apply VWp.condSeq_dec; rfl)
      | (intro _; try (exfalso; omega)))
    all_goals first
      | (exfalso; omega)
      | (rw [if_pos (by omega)]; (refine Done.ret rfl (.refl _) (by first | exact trivial | exact ⟨trivial, trivial, trivial⟩ | exact ⟨trivial, trivial, trivial, trivial⟩) HCov.nil (Nat.zero_le _) (Nat.le_refl _) ⟨?_, rfl, rfl⟩; try rfl); done)
      | (rw [if_neg (by omega)]; (refine Done.ret rfl (.refl _) (by first | exact trivial | exact ⟨trivial, trivial, trivial⟩ | exact ⟨trivial, trivial, trivial, trivial⟩) HCov.nil (Nat.zero_le _) (Nat.le_refl _) ⟨?_, rfl, rfl⟩; try rfl); done)
  · rw [if_pos h0]
    repeat' (first
      | apply VWp.assoc
      | apply VWp.rseq
      | apply VWp.retSeq
      | apply VOps.nil
      | apply VOps.one
      | (apply VVal.fn; rfl; rfl; exact hp; intro _; rfl)
      | (apply VVal.assign; rfl)
      | (apply VVal.move; rfl)
      | (apply VVal.int; rfl; rfl; rfl)
      | (apply VVal.load; rfl; rfl)
      | (apply VVal.box; rfl; trivial)
      | (apply VWp.condSeq_dec; rfl)
      | (intro _; try (exfalso; omega)))
    all_goals first | (exfalso; omega) | (refine Done.ret rfl (.refl _) (by first | exact trivial | exact ⟨trivial, trivial, trivial⟩ | exact ⟨trivial, trivial, trivial, trivial⟩) HCov.nil (Nat.zero_le _) (Nat.le_refl _) ⟨?_, rfl, rfl⟩; try rfl)
end Go.Proofs.YtabjkjgpaahbhaaDoor
