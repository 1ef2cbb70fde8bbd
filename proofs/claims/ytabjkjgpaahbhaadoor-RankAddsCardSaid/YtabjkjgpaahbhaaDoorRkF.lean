/-
  The layer of ranks: Note, Last, Wind, Total, Above. Conditions: in each statement.
-/
import Derived.Test.YtabjkjgpaahbhaaDoorRkE
set_option linter.unusedSimpArgs false
set_option linter.unusedVariables false
namespace Go.Proofs.YtabjkjgpaahbhaaDoor
open Go Go.Am Go.Vm
attribute [local irreducible] VVal VOps VOpsD VWp VCalls VFun VFunV QSeq QBlk QLoop Vm.Done DoneV DoneI

theorem pipE_ok {r : Rnk} {n : Int} (h : pipE r n = 0) : rchk r = 0 ∧ 0 ≤ n ∧ n < r.wind.length := by
  unfold pipE at h
  split at h
  · rename_i h1; exact absurd h h1
  · rename_i h1
    split at h
    · cases h
    · exact ⟨Classical.not_not.1 h1, by omega, by omega⟩
attribute [local irreducible] rchk windsE shz shiftR pipE

noncomputable def notR (r : Rnk) (n : Int) : Int × Int := if pipE r n ≠ 0 then (0, pipE r n) else (r.first + n, 0)
set_option maxRecDepth 100000 in
theorem note_spec (r : Rnk) (n : Int) (h : rLen r) : VFun env 24 [.agg (Enc.enc r), .int .i64 n] (.tup [.p (.int .i64 (notR r n).1), .p (.int .i64 (notR r n).2)]) := by
  have hp := pipe_spec r n h
  unfold notR
  refine VFun.enter (env_none (by decide)) Tryd.func24 rfl (by kernel_rfl) (by simp [Tryd.ntmps24]) ?_
  by_cases h0 : pipE r n = 0
  · obtain ⟨h1, h2, h3⟩ := pipE_ok h0
    obtain ⟨-, -, h4, h5, -⟩ := rchk_ok h1
    rw [h0] at hp ⊢
    rw [if_neg (by decide)]
    repeat' (first
      | apply VWp.assoc
      | apply VWp.rseq
      | apply VWp.skipSeq
      | apply VWp.ret
      | apply VOps.nil
      | apply VOps.one
      | (apply VVal.fn; rfl; rfl; exact hp; intro _; rfl)
      | (apply VVal.assign; rfl)
      | (apply VVal.move; rfl)
      | (apply VVal.add64; rfl; rfl; omega)
      | (apply VVal.int; rfl; rfl; rfl)
      | (apply VVal.load; rfl; rfl)
      | (apply VVal.fieldB; rfl; rfl; rfl)
      | (apply VVal.box; rfl; trivial)
      | (apply VWp.condSeq_false; rfl))
    all_goals first | (exfalso; omega) | (refine Done.ret rfl (.refl _) (by first | exact trivial | exact ⟨trivial, trivial, trivial⟩ | exact ⟨trivial, trivial, trivial, trivial⟩) HCov.nil (Nat.zero_le _) (Nat.le_refl _) ⟨?_, rfl, rfl⟩; try rfl)
  · rw [if_pos h0]
    repeat' (first
      | apply VWp.assoc
      | apply VWp.rseq
      | apply VWp.retSeq
      | apply VOps.nil
      | apply VOps.one
      | (apply VVal.fn; rfl; rfl; exact hp; intro _; rfl)
      | (apply VVal.assign; rfl)
      | (apply VVal.move; rfl)
      | (apply VVal.int; rfl; rfl; rfl)
      | (apply VVal.load; rfl; rfl)
      | (apply VVal.box; rfl; trivial)
      | (apply VWp.condSeq_dec; rfl)
      | (intro _; try (exfalso; omega)))
    all_goals first | (exfalso; omega) | (refine Done.ret rfl (.refl _) (by first | exact trivial | exact ⟨trivial, trivial, trivial⟩ | exact ⟨trivial, trivial, trivial, trivial⟩) HCov.nil (Nat.zero_le _) (Nat.le_refl _) ⟨?_, rfl, rfl⟩; try rfl)
noncomputable def wndR (r : Rnk) (n : Int) : Int × Int := if pipE r n ≠ 0 then (0, pipE r n) else (gi r.wind n.toNat, 0)
set_option maxRecDepth 100000 in
theorem wind_spec (r : Rnk) (n : Int) (h : rLen r) : VFun env 25 [.agg (Enc.enc r), .int .i64 n] (.tup [.p (.int .i64 (wndR r n).1), .p (.int .i64 (wndR r n).2)]) := by
  have hp := pipe_spec r n h
  unfold wndR
  refine VFun.enter (env_none (by decide)) Tryd.func25 rfl (by kernel_rfl) (by simp [Tryd.ntmps25]) ?_
  by_cases h0 : pipE r n = 0
  · obtain ⟨h1, h2, h3⟩ := pipE_ok h0
    rw [h0] at hp ⊢
    rw [if_neg (by decide)]
    repeat' (first
      | apply VWp.assoc
      | apply VWp.rseq
      | apply VWp.skipSeq
      | apply VWp.ret
      | apply VOps.nil
      | apply VOps.one
      | (apply VVal.fn; rfl; rfl; exact hp; intro _; rfl)
      | (apply VVal.assign; rfl)
      | (apply VVal.move; rfl)
      | (apply VVal.int; rfl; rfl; rfl)
      | (apply VVal.indexE; rfl; rfl; rfl; omega; omega; rfl)
      | (apply VVal.load; rfl; rfl)
      | (apply VVal.fieldB; rfl; rfl; rfl)
      | (apply VVal.box; rfl; trivial)
      | (apply VWp.condSeq_false; rfl))
    all_goals first | (exfalso; omega) | (refine Done.ret rfl (.refl _) (by first | exact trivial | exact ⟨trivial, trivial, trivial⟩ | exact ⟨trivial, trivial, trivial, trivial⟩) HCov.nil (Nat.zero_le _) (Nat.le_refl _) ⟨?_, rfl, rfl⟩; try rfl)
  · rw [if_pos h0]
    repeat' (first
      | apply VWp.assoc
      | apply VWp.rseq
      | apply VWp.retSeq
      | apply VOps.nil
      | apply VOps.one
      | (apply VVal.fn; rfl; rfl; exact hp; intro _; rfl)
      | (apply VVal.assign; rfl)
      | (apply VVal.move; rfl)
      | (apply VVal.int; rfl; rfl; rfl)
      | (apply VVal.load; rfl; rfl)
      | (apply VVal.box; rfl; trivial)
      | (apply VWp.condSeq_dec; rfl)
      | (intro _; try (exfalso; omega)))
    all_goals first | (exfalso; omega) | (refine Done.ret rfl (.refl _) (by first | exact trivial | exact ⟨trivial, trivial, trivial⟩ | exact ⟨trivial, trivial, trivial, trivial⟩) HCov.nil (Nat.zero_le _) (Nat.le_refl _) ⟨?_, rfl, rfl⟩; try rfl)

set_option maxRecDepth 100000 in
theorem last_spec (r : Rnk) (h : rLen r) : VFun env 26 [.agg (Enc.enc r)] (.tup [.p (.int .i64 (notR r (max 0 ((r.wind.length : Int) - 1))).1), .p (.int .i64 (notR r (max 0 ((r.wind.length : Int) - 1))).2)]) := by
  have hp := note_spec r (max 0 ((r.wind.length : Int) - 1)) h
  have hl := h.2.2
  refine VFun.enter (env_none (by decide)) Tryd.func26 rfl (by kernel_rfl) (by simp [Tryd.ntmps26]) ?_
  repeat' (first
    | apply VWp.rseq
    | apply VWp.ret
    | apply VOps.nil
    | apply VOps.one
    | (apply VVal.fn; rfl; rfl; exact hp; intro _; rfl)
    | (apply VVal.assign; rfl)
    | (apply VVal.sub64; rfl; rfl; omega)
    | (apply VVal.load; rfl; rfl)
    | (apply VVal.lenF; rfl; rfl)
    | (apply VVal.fieldB; rfl; rfl; rfl)
    | (apply VVal.box; rfl; trivial)
    | (apply VVal.maxI; rfl; rfl)
    | (apply VVal.extract; rfl; rfl))
  all_goals (refine Done.ret rfl (.refl _) (by first | exact trivial | exact ⟨trivial, trivial, trivial⟩ | exact ⟨trivial, trivial, trivial, trivial⟩) HCov.nil (Nat.zero_le _) (Nat.le_refl _) ⟨?_, rfl, rfl⟩; try rfl)

noncomputable def aboR (r : Rnk) (w : List Int) : FV × Int := if rchk r ≠ 0 then (zeroF, rchk r) else if windsE w ≠ 0 then (zeroF, windsE w) else rebR r r.first (r.wind ++ w)
set_option maxRecDepth 100000 in
set_option maxHeartbeats 1000000 in
theorem above_spec (r : Rnk) (w : List Int) (h : rLen r) (hw : w.length ≤ 800) : VFun env 19 [.agg (Enc.enc r), .lst 3 (cells w) w.length] (.tup [.p (aboR r w).1, .p (.int .i64 (aboR r w).2)]) := by
  have hc := rcheck_spec r h.1 h.2.1 h.2.2
  have hn := winds_spec w (by omega)
  unfold aboR
  refine VFun.enter (env_none (by decide)) Tryd.func19 rfl (by kernel_rfl) (by simp [Tryd.ntmps19]) ?_
  by_cases h0 : rchk r = 0
  · obtain ⟨-, -, h1, h2, -⟩ := rchk_ok h0
    have hr := rebuilt2_spec r r.first r.wind w (by omega) (by omega)
    obtain ⟨c0, c1, c2, c3, c4, c5, e, he⟩ := rebR_six r r.first (r.wind ++ w)
    rw [he] at hr ⊢
    rw [h0] at hc ⊢
    rw [if_neg (by decide)]
    repeat' (first
      | (refine VOps.atOp 27 ?_; refine VOps.ghost (Ghost.freeze 26 rfl rfl) ?_)
      | apply VWp.assoc
      | apply VWp.rseq
      | apply VWp.skipSeq
      | apply VWp.retSeq
      | apply VWp.ret
      | apply VOps.nil
      | apply VOps.one
      | (apply VVal.fn; rfl; rfl; exact hc; intro _; rfl)
      | (apply VVal.fn; rfl; rfl; exact hn; intro _; rfl)
      | (apply VVal.fn; rfl; rfl; exact hr; intro _; rfl)
      | (apply VVal.assign; rfl)
      | (apply VVal.move; rfl)
      | (apply VVal.int; rfl; rfl; rfl)
      | (apply VVal.load; rfl; rfl)
      | (apply VVal.fieldB; rfl; rfl; rfl)
      | (apply VVal.box; rfl; trivial)
      | (apply VVal.alloc; rfl)
      | (apply VVal.storeB; rfl; rfl; rfl; trivial; rfl; rfl; exact lt_dec rfl; exact le_dec rfl)
      | (apply VVal.build; rfl; rfl; rfl; rfl; rfl)
      | (apply VVal.buildSlice; rfl; rfl; rfl; decide; rfl; rfl; rfl)
      | (apply VVal.extract; rfl; rfl)
      | (apply VWp.condSeq_false; rfl)
      | (apply VWp.condSeq_dec; rfl)
      | (intro _; try (exfalso; omega)))
    all_goals first | (rw [if_pos (by assumption)]; (refine Done.ret rfl (.refl _) (by first | exact trivial | exact ⟨trivial, trivial, trivial⟩ | exact ⟨trivial, trivial, trivial, trivial⟩) HCov.nil (Nat.zero_le _) (Nat.le_refl _) ⟨?_, rfl, rfl⟩; try rfl); done) | (rw [if_neg (by assumption)]; (refine Done.ret rfl (.refl _) (by first | exact trivial | exact ⟨trivial, trivial, trivial⟩ | exact ⟨trivial, trivial, trivial, trivial⟩) HCov.nil (Nat.zero_le _) (Nat.le_refl _) ⟨?_, rfl, rfl⟩; try rfl); done)
  · rw [if_pos h0]
    repeat' (first
      | apply VWp.assoc
      | apply VWp.rseq
      | apply VWp.retSeq
      | apply VOps.nil
      | apply VOps.one
      | (apply VVal.fn; rfl; rfl; exact hc; intro _; rfl)
      | (apply VVal.assign; rfl)
      | (apply VVal.move; rfl)
      | (apply VVal.int; rfl; rfl; rfl)
      | (apply VVal.load; rfl; rfl)
      | (apply VVal.box; rfl; trivial)
      | (apply VVal.alloc; rfl)
      | (apply VVal.storeB; rfl; rfl; rfl; trivial; rfl; rfl; exact lt_dec rfl; exact le_dec rfl)
      | (apply VVal.build; rfl; rfl; rfl; rfl; rfl)
      | (apply VWp.condSeq_dec; rfl)
      | (intro _; try (exfalso; omega)))
    all_goals first | (exfalso; omega) | (refine Done.ret rfl (.refl _) (by first | exact trivial | exact ⟨trivial, trivial, trivial⟩ | exact ⟨trivial, trivial, trivial, trivial⟩) HCov.nil (Nat.zero_le _) (Nat.le_refl _) ⟨?_, rfl, rfl⟩; try rfl)
end Go.Proofs.YtabjkjgpaahbhaaDoor
