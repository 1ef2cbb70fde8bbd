/-
  The law of organs: OrganKeys. Conditions: in each statement.
-/
import Derived.Test.YtcnlhgmkelkikaaGreatDoorOrKc
set_option linter.unusedSimpArgs false
set_option linter.unusedVariables false
namespace Go.Proofs.YtcnlhgmkelkikaaGreatDoor
open Go Go.Am Go.Vm
attribute [local irreducible] VVal VOps VOpsD VWp VCalls VFun VFunV QSeq QBlk QLoop Vm.Done DoneV DoneI

theorem dueN_len (a : List Ctc) (i : Nat) (s : Nts) : ∀ n, (dueN a i s n).length ≤ a.length + n
  | 0 => Nat.le_refl _
  | n + 1 => by
    have := dueN_len a i s n
    simp only [dueN]
    split
    · simp; omega
    · omega

/-! ## the error -/
/-- a note outside of its compass, among the first n -/
def badN (o : Org) (i : Nat) (s : Nts) (n : Nat) : Prop := ∃ m, m < n ∧ s.has m = true ∧ ¬ ((gi o.divs i).lo ≤ m ∧ (m : Int) ≤ (gi o.divs i).hi)
open Classical in
noncomputable def wantN (o : Org) (i : Nat) (s : Nts) (n : Nat) : Int := if badN o i s n then 23 else 0
theorem wantN_zero (o : Org) (i : Nat) (s : Nts) : wantN o i s 0 = 0 := by
  unfold wantN; rw [if_neg]; rintro ⟨m, hm, _⟩; omega
theorem wantN_keep {o : Org} {i : Nat} {s : Nts} {n : Nat} (h : s.has n = true → (gi o.divs i).lo ≤ n ∧ (n : Int) ≤ (gi o.divs i).hi) : wantN o i s (n + 1) = wantN o i s n := by
  unfold wantN
  have : badN o i s (n + 1) ↔ badN o i s n := by
    constructor
    · rintro ⟨m, hm, h1, h2⟩
      by_cases e : m = n
      · subst e; exact absurd (h h1) h2
      · exact ⟨m, by omega, h1, h2⟩
    · rintro ⟨m, hm, h1⟩; exact ⟨m, by omega, h1⟩
  by_cases h' : badN o i s n
  · rw [if_pos h', if_pos (this.2 h')]
  · rw [if_neg h', if_neg (fun h2 => h' (this.1 h2))]
theorem wantN_bad {o : Org} {i : Nat} {s : Nts} {n : Nat} (h : s.has n = true) (h2 : ¬ ((gi o.divs i).lo ≤ n ∧ (n : Int) ≤ (gi o.divs i).hi)) : wantN o i s (n + 1) = 23 := by
  unfold wantN
  rw [if_pos ⟨n, by omega, h, h2⟩]
theorem wantN_or (o : Org) (i : Nat) (s : Nts) (n : Nat) : wantN o i s n = 0 ∨ wantN o i s n = 23 := by
  unfold wantN; split <;> simp
theorem wit_want {o : Org} (ho : OrgT o) {i : Nat} (hi : i < o.divs.length) {s : Nts} (hs : s.Ok) : witN s (rngD (gi o.divs i)) = decide (wantN o i s 128 = 0) := by
  rw [Bool.eq_iff_iff, witN_iff hs, decide_eq_true_iff]
  constructor
  · intro h
    unfold wantN
    rw [if_neg]
    rintro ⟨m, hm, h1, h2⟩
    have := h m hm h1
    rw [rngD_has ho hi hm, decide_eq_true_iff] at this
    exact h2 this
  · intro h m hm h1
    rw [rngD_has ho hi hm, decide_eq_true_iff]
    refine Classical.byContradiction fun h2 => ?_
    unfold wantN at h
    rw [if_pos ⟨m, hm, h1, h2⟩] at h
    cases h
/-- how many rounds the law makes, and what it finds -/
theorem rounds_of (o : Org) (l : List Nts) : ∃ m, m ≤ l.length ∧ (∀ i, i + 1 < m → wantN o i (gi l i) 128 = 0) ∧ (m = l.length ∧ (∀ i, i < m → wantN o i (gi l i) 128 = 0) ∨ 0 < m ∧ wantN o (m - 1) (gi l (m - 1)) 128 = 23) := by
  have key : ∀ k, k ≤ l.length → (∀ i, i < k → wantN o i (gi l i) 128 = 0) ∨ ∃ m, m ≤ k ∧ (∀ i, i + 1 < m → wantN o i (gi l i) 128 = 0) ∧ 0 < m ∧ wantN o (m - 1) (gi l (m - 1)) 128 = 23 := by
    intro k
    induction k with
    | zero => intro _; exact .inl fun i hi => by omega
    | succ k ih =>
      intro hk
      rcases ih (by omega) with h | ⟨m, h1, h2⟩
      · rcases wantN_or o k (gi l k) 128 with h3 | h3
        · refine .inl fun i hi => ?_
          by_cases e : i = k
          · rw [e]; exact h3
          · exact h i (by omega)
        · exact .inr ⟨k + 1, by omega, fun i hi => h i (by omega), by omega, h3⟩
      · exact .inr ⟨m, by omega, h2⟩
  rcases key _ (Nat.le_refl _) with h | ⟨m, h1, h2, h3⟩
  · exact ⟨l.length, Nat.le_refl _, fun i hi => h i (by omega), .inl ⟨rfl, h⟩⟩
  · exact ⟨m, h1, h2, .inr h3⟩
noncomputable def wantK (o : Org) (l : List Nts) (k : Nat) : Int := if k = 0 then 0 else wantN o (k - 1) (gi l (k - 1)) 128
theorem freeCtc : eqFree Tryz.prog 94 = true := by kernel_rfl
set_option maxRecDepth 100000 in
theorem eqCtc (x : Ctc) : Vm.eqSt Tryz.prog 94 (Enc.enc x) (Enc.enc x) = some true := by
  show some (decide (x.d = x.d) && (decide (x.k = x.k) && true)) = _
  simp
set_option maxRecDepth 100000 in
set_option maxHeartbeats 8000000 in
theorem organKeys_spec (x : OPl) (hx : x.Ok) (l : List Nts) (hk : KysOk l) (hl : l.length < 9223372036854775808) : VFun env 8 [.agg x.enc, .lst 92 (cells l) l.length] (.p (.bool true)) := by
  have hkn := known_spec
  have hfs := fits_spec x hx
  refine VFun.enter (env_none (by decide)) Tryz.func8 rfl (by kernel_rfl) (by simp [Tryz.ntmps8]) ?_
  by_cases hf : fitsP x
  case neg =>
    rw [decide_eq_false hf] at hfs
    repeat' (first
      | apply VWp.assoc
      | apply VWp.rseq
      | apply VWp.retSeq
      | apply VOps.nil
      | apply VOps.one
      | (apply VOps.take; rfl; rfl)
      | (apply VOps.drop; rfl; rfl; rfl)
      | (apply VVal.fn; rfl; rfl; exact hkn; intro _; rfl)
      | (apply VVal.fn; rfl; rfl; exact hfs; intro _; rfl)
      | (apply VVal.assign; rfl)
      | (apply VVal.move; rfl)
      | (apply VVal.load; rfl; rfl)
      | (apply VVal.pick_true; rfl; rfl)
      | (apply VVal.pick_false; rfl; rfl)
      | (apply VVal.box; rfl; trivial)
      | (apply VVal.not; rfl)
      | (apply VWp.condSeq_true; rfl))
    all_goals first | (exfalso; omega) | contradiction | ((refine Done.ret rfl (.refl _) (by first | exact trivial | exact ⟨trivial, trivial, trivial⟩ | exact ⟨trivial, trivial, trivial, trivial⟩) HCov.nil (Nat.zero_le _) (Nat.le_refl _) ⟨?_, rfl, rfl⟩; try rfl); try simp)
  rw [decide_eq_true hf] at hfs
  by_cases h5 : (l.length : Int) > 5
  · repeat' (first
      | apply VWp.assoc
      | apply VWp.rseq
      | apply VWp.retSeq
      | apply VOps.nil
      | apply VOps.one
      | (apply VOps.take; rfl; rfl)
      | (apply VVal.fn; rfl; rfl; exact hkn; intro _; rfl)
      | (apply VVal.fn; rfl; rfl; exact hfs; intro _; rfl)
      | (apply VVal.assign; rfl)
      | (apply VVal.move; rfl)
      | (apply VVal.int; rfl; rfl; rfl)
      | (apply VVal.load; rfl; rfl)
      | (apply VVal.pick_false; rfl; rfl)
      | (apply VVal.lenF; rfl; rfl)
      | (apply VVal.box; rfl; trivial)
      | (apply VVal.not; rfl)
      | (apply VWp.condSeq_dec; rfl)
      | (intro _; try (exfalso; omega)))
    all_goals first | (exfalso; omega) | contradiction | ((refine Done.ret rfl (.refl _) (by first | exact trivial | exact ⟨trivial, trivial, trivial⟩ | exact ⟨trivial, trivial, trivial, trivial⟩) HCov.nil (Nat.zero_le _) (Nat.le_refl _) ⟨?_, rfl, rfl⟩; try rfl); try simp)
  have hm := make18_spec x hx hf
  have ho := mkO_t x hx hf
  generalize mkO x = o at *
  have r2 := ho.divs
  have hck := checkKeys_spec o ho l (by omega) hk
  by_cases hlen : l.length = o.divs.length
  case neg =>
    rw [keysE_len hlen] at hck
    have hct := contactsBad_spec o ho l (by omega) hk 5 (by decide) (keysE_len hlen)
    repeat' (first
      | apply VWp.assoc
      | apply VWp.rseq
      | apply VWp.skipSeq
      | apply VWp.blockSeq
      | apply VOps.nil
      | apply VOps.one
      | (apply VOps.take; rfl; rfl)
      | (apply VVal.fn; rfl; rfl; exact hkn; intro _; rfl)
      | (apply VVal.fn; rfl; rfl; exact hfs; intro _; rfl)
      | (apply VVal.fn; rfl; rfl; exact hm; intro _; rfl)
      | (apply VVal.assign; rfl)
      | (apply VVal.move; rfl)
      | (apply VVal.int; rfl; rfl; rfl)
      | (apply VVal.load; rfl; rfl)
      | (apply VVal.pick_false; rfl; rfl)
      | (apply VVal.lenF; rfl; rfl)
      | (apply VVal.fieldB; rfl; rfl; rfl)
      | (apply VVal.box; rfl; trivial)
      | (apply VVal.alloc; rfl)
      | (apply VVal.storeB; rfl; rfl; rfl; trivial; rfl; rfl; exact lt_dec rfl; exact le_dec rfl)
      | (apply VVal.not; rfl)
      | (apply VWp.condSeq_dec; rfl)
      | (intro _; try (exfalso; omega)))
    all_goals try (exfalso; omega)
    all_goals try contradiction
    apply VWp.loopN 0
    apply VUn.zero
    repeat' (first
      | apply VWp.assoc
      | apply VWp.rseq
      | apply VWp.skipSeq
      | apply VWp.retSeq
      | apply VWp.exitSeq
      | apply QSeq.normal
      | apply QBlk.exit
      | apply QLoop.exit
      | apply VOps.nil
      | apply VOps.one
      | (apply VOps.take; rfl; rfl)
      | (apply VOps.drop; rfl; rfl; rfl)
      | (apply VOps.guard; rfl; rfl)
      | (apply VVal.fn; rfl; rfl; exact hck; intro _; rfl)
      | (apply VVal.fn; rfl; rfl; exact hct; intro _; rfl)
      | (apply VVal.assign; rfl)
      | (apply VVal.move; rfl)
      | (apply VVal.int; rfl; rfl; rfl)
      | (apply VVal.load; rfl; rfl)
      | (apply VVal.pick_true; rfl; rfl)
      | (apply VVal.pick_false; rfl; rfl)
      | (apply VVal.lenF; rfl; rfl)
      | (apply VVal.lenNil; rfl; rfl)
      | (apply VVal.extract; rfl; rfl)
      | (apply VWp.condSeq_true; rfl)
      | (apply VWp.condSeq_false; rfl)
      | (intro _; try (exfalso; omega)))
    all_goals first | (exfalso; omega) | contradiction | ((refine Done.ret rfl (.refl _) (by first | exact trivial | exact ⟨trivial, trivial, trivial⟩ | exact ⟨trivial, trivial, trivial, trivial⟩) HCov.nil (Nat.zero_le _) (Nat.le_refl _) ⟨?_, rfl, rfl⟩; try rfl); try simp)
  repeat' (first
    | apply VWp.assoc
    | apply VWp.rseq
    | apply VWp.skipSeq
    | apply VWp.blockSeq
    | apply VOps.nil
    | apply VOps.one
    | (apply VOps.take; rfl; rfl)
    | (apply VVal.fn; rfl; rfl; exact hkn; intro _; rfl)
    | (apply VVal.fn; rfl; rfl; exact hfs; intro _; rfl)
    | (apply VVal.fn; rfl; rfl; exact hm; intro _; rfl)
    | (apply VVal.assign; rfl)
    | (apply VVal.move; rfl)
    | (apply VVal.int; rfl; rfl; rfl)
    | (apply VVal.load; rfl; rfl)
    | (apply VVal.pick_false; rfl; rfl)
    | (apply VVal.lenF; rfl; rfl)
    | (apply VVal.fieldB; rfl; rfl; rfl)
    | (apply VVal.box; rfl; trivial)
    | (apply VVal.alloc; rfl)
    | (apply VVal.storeB; rfl; rfl; rfl; trivial; rfl; rfl; exact lt_dec rfl; exact le_dec rfl)
    | (apply VVal.not; rfl)
    | (apply VWp.condSeq_dec; rfl)
    | (intro _; try (exfalso; omega)))
  all_goals try (exfalso; omega)
  all_goals try contradiction
  refine VWp.ghost (Ghost.adopt 7 94 rfl) ?_
  obtain ⟨m, m1, m2, m3⟩ := rounds_of o l
  have c0 : ∀ k, k < m → wantK o l k = 0 := fun k hk => by
    unfold wantK
    split
    · rfl
    · exact m2 (k - 1) (by omega)
  apply VWp.loopR (m) [(1, _), (5, _)] [(0, _), (1, _)] (fun k r => (8, .p (.int .i64 (k : Int))) :: (6, .p (.int .i64 (wantK o l k))) :: (7, .vec 2 (conK l k).length 0 (conK l k).length) :: r) (fun k r => (2, .vec 94 (cells (conK l k)) (conK l k).length true) :: r) 3
  · omega
  · omega
  · repeat (first | exact LCov.nil | (refine LCov.eq rfl ?_ ?_; (first | exact PV.under_of rfl | (simp [PV.under, PVs.under]; done))) | refine LCov.cons trivial rfl (.of_eq (lst_len (by simp <;> omega))) ?_)
  · repeat (first | exact HCov.nil | (refine HCov.eq rfl (lt_dec rfl) ?_ ?_; (first | exact HB.under_of rfl | exact PVs.under_pure _ _ | (simp [HB.under, PVs.under, PV.under]; done))) | (refine HCov.cons (lt_dec rfl) ?_ rfl ?_ ?_; (first | exact trivial | exact PVs.under_pure _ _ | (simp [HB.under, PVs.under, PV.under])); (first | exact HLe.refl _ | exact HLe.vec (FLes.refl _) (by simp))))
  · intro k hk2
    have hkk := hk k (by omega)
    have cl := conK_len l k
    rw [c0 k hk2]
    repeat' (first
      | apply VWp.assoc
      | apply VWp.rseq
      | apply VWp.skipSeq
      | apply VWp.blockSeq
      | apply VWp.blockQ
      | apply VOps.nil
      | apply VOps.one
      | (apply VOps.take; rfl; rfl)
      | (apply VOps.guard; rfl; rfl)
      | (apply VVal.assign; rfl)
      | (apply VVal.move; rfl)
      | (apply VVal.int; rfl; rfl; rfl)
      | (apply VVal.pick_true; rfl; rfl)
      | (apply VVal.lenF; rfl; rfl)
      | (apply VWp.condSeq_true; rfl)
      | (intro _; try (exfalso; omega)))
    all_goals try (exfalso; omega)
    refine VWp.ghost (Ghost.le 6 rfl (v0 := .p (.int .i64 (wantN o k (gi l k) 0))) (.of_eq (by rw [wantN_zero]))) ?_
    apply VWp.loopR (128) [(1, _), (5, _), (8, _)] [(0, _), (1, _)] (fun k_ r => (9, .p (.int .i64 (k_ : Int))) :: (6, .p (.int .i64 (wantN o k (gi l k) k_))) :: (7, .vec 2 (dueN (conK l k) k (gi l k) k_).length 0 (dueN (conK l k) k (gi l k) k_).length) :: r) (fun k_ r => (2, .vec 94 (cells (dueN (conK l k) k (gi l k) k_)) (dueN (conK l k) k (gi l k) k_).length true) :: r) 3
    · omega
    · omega
    · repeat (first | exact LCov.nil | (refine LCov.eq rfl ?_ ?_; (first | exact PV.under_of rfl | (simp [PV.under, PVs.under]; done))) | refine LCov.cons trivial rfl (.of_eq (lst_len (by simp <;> omega))) ?_)
    · repeat (first | exact HCov.nil | (refine HCov.eq rfl (lt_dec rfl) ?_ ?_; (first | exact HB.under_of rfl | exact PVs.under_pure _ _ | (simp [HB.under, PVs.under, PV.under]; done))) | (refine HCov.cons (lt_dec rfl) ?_ rfl ?_ ?_; (first | exact trivial | exact PVs.under_pure _ _ | (simp [HB.under, PVs.under, PV.under])); (first | exact HLe.refl _ | exact HLe.vec (FLes.refl _) (by simp))))
    · intro n hn
      have hh := has3_spec (gi l k) hkk n hn
      have dl := dueN_len (conK l k) k (gi l k) n
      cases hb : (gi l k).has n with
      | false =>
        rw [hb] at hh
        have e1 : dueN (conK l k) k (gi l k) (n + 1) = dueN (conK l k) k (gi l k) n := by simp only [dueN, hb]; rfl
        have e2 := wantN_keep (o := o) (i := k) (s := gi l k) (n := n) (fun h => by rw [hb] at h; cases h)
        repeat' (first
          | apply VWp.assoc
          | apply VWp.rseq
          | apply VWp.region
          | apply VWp.skipSeq
          | apply VWp.exitSeq
          | apply VWp.blockSeq
          | apply QSeq.normal
          | apply QBlk.exit
          | apply VOps.nil
          | apply VOps.one
          | (apply VVal.fn; rfl; rfl; exact hh; intro _; rfl)
          | (apply VVal.assign; rfl)
          | (apply VVal.move; rfl)
          | (apply VVal.add64; rfl; rfl; omega)
          | (apply VVal.int; rfl; rfl; rfl)
          | (apply VVal.indexN; rfl; rfl; rfl; omega; rfl)
          | (apply VVal.load; rfl; rfl)
          | (apply VVal.not; rfl)
          | (apply VWp.condSeq_true; rfl)
          | (apply VWp.condSeq_dec; rfl)
          | (intro _; try (exfalso; omega)))
        all_goals try (exfalso; omega)
        refine QLoop.normal ⟨by omega, ?_, ?_⟩
        · try ((try rw [e2]) <;> (try rw [e1]))
          repeat (first | exact LCov.nil | refine LCov.same trivial rfl ?_ | refine LCov.same (lt_dec rfl) rfl ?_ | refine LCov.same ⟨trivial, lt_dec rfl, trivial⟩ rfl ?_ | refine LCov.same ⟨trivial, lt_dec rfl, lt_dec rfl, trivial⟩ rfl ?_ | refine LCov.same ⟨trivial, lt_dec rfl, lt_dec rfl, lt_dec rfl, trivial⟩ rfl ?_ | refine LCov.same ⟨trivial, trivial⟩ rfl ?_ | refine LCov.cons trivial rfl (.of_eq (lst_len (by simp <;> omega))) ?_)
        · (try rw [e2]) <;> (try rw [e1])
          repeat (first | exact HCov.nil | (refine HCov.cons (lt_dec rfl) ?_ rfl ?_ ?_; (first | exact HB.under_of rfl | exact PVs.under_pure _ _ | (simp [HB.under, PVs.under, PV.under])); (first | exact HLe.refl _ | exact HLe.vec (FLes.refl _) (by simp))))
      | true =>
        rw [hb] at hh
        have e1 : dueN (conK l k) k (gi l k) (n + 1) = dueN (conK l k) k (gi l k) n ++ [⟨(k : Int), (n : Int)⟩] := by simp only [dueN, hb]; rfl
        have e3 : (dueN (conK l k) k (gi l k) (n + 1)).length = (dueN (conK l k) k (gi l k) n).length + 1 := by rw [e1]; simp
        by_cases hin : (gi o.divs k).lo ≤ n ∧ (n : Int) ≤ (gi o.divs k).hi
        · have e2 := wantN_keep (o := o) (i := k) (s := gi l k) (n := n) (fun _ => hin)
          repeat' (first
            | apply VWp.assoc
            | apply VWp.rseq
            | apply VWp.region
            | apply VWp.skipSeq
            | apply VWp.blockSeq
            | apply QSeq.normal
            | apply QBlk.normal
            | apply VOps.nil
            | apply VOps.one
            | (apply VOps.take; rfl; rfl)
            | (apply VOps.guard; rfl; rfl)
            | (apply VVal.fn; rfl; rfl; exact hh; intro _; rfl)
            | (apply VVal.append1 (a := (⟨(k : Int), (n : Int)⟩ : Ctc)); rfl; rfl; rfl; rfl; rfl; rfl; rfl; rfl; (intro _ h; cases h); rfl; rfl; rfl; decide; decide; (first | omega | (simp only [List.length_take, List.length_drop, List.length_append, List.length_singleton, List.length_cons, List.length_nil] <;> omega)))
            | (apply VVal.assign; rfl)
            | (apply VVal.move; rfl)
            | (apply VVal.add64; rfl; rfl; omega)
            | (apply VVal.int; rfl; rfl; rfl)
            | (apply VVal.indexN; rfl; rfl; rfl; omega; rfl)
            | (apply VVal.load; rfl; rfl)
            | (apply VVal.pick_false; rfl; rfl)
            | (apply VVal.fieldB; rfl; rfl; rfl)
            | (apply VVal.fieldF; rfl; rfl)
            | (apply VVal.build; rfl; rfl; rfl; rfl; rfl)
            | (apply VVal.buildSlice; rfl; rfl; rfl; decide; rfl; rfl; rfl)
            | (apply VVal.not; rfl)
            | (apply VWp.condSeq_false; rfl)
            | (apply VWp.condSeq_dec; rfl)
            | (intro _; try (exfalso; omega)))
          all_goals try (exfalso; omega)
          refine QLoop.normal ⟨by omega, ?_, ?_⟩
          · try ((try rw [e2]) <;> (try rw [e3]) <;> (try rw [e1]))
            repeat (first | exact LCov.nil | refine LCov.same trivial rfl ?_ | refine LCov.same (lt_dec rfl) rfl ?_ | refine LCov.same ⟨trivial, lt_dec rfl, trivial⟩ rfl ?_ | refine LCov.same ⟨trivial, lt_dec rfl, lt_dec rfl, trivial⟩ rfl ?_ | refine LCov.same ⟨trivial, lt_dec rfl, lt_dec rfl, lt_dec rfl, trivial⟩ rfl ?_ | refine LCov.same ⟨trivial, trivial⟩ rfl ?_ | refine LCov.cons trivial rfl (.of_eq (lst_len (by simp <;> omega))) ?_)
          · (try rw [e2]) <;> (try rw [e3]) <;> (try rw [e1])
            repeat (first | exact HCov.nil | (refine HCov.cons (lt_dec rfl) ?_ rfl ?_ ?_; (first | exact HB.under_of rfl | exact PVs.under_pure _ _ | (simp [HB.under, PVs.under, PV.under])); (first | exact HLe.refl _ | exact HLe.vec (FLes.refl _) (by simp))))
        · have e2 := wantN_bad hb hin
          by_cases hin2 : (n : Int) < (gi o.divs k).lo
          · repeat' (first
              | apply VWp.assoc
              | apply VWp.rseq
              | apply VWp.region
              | apply VWp.skipSeq
              | apply VWp.blockSeq
              | apply QSeq.normal
              | apply QBlk.normal
              | apply VOps.nil
              | apply VOps.one
              | (apply VOps.drop; rfl; rfl; rfl)
              | (apply VOps.guard; rfl; rfl)
              | (apply VVal.fn; rfl; rfl; exact hh; intro _; rfl)
              | (apply VVal.append1 (a := (⟨(k : Int), (n : Int)⟩ : Ctc)); rfl; rfl; rfl; rfl; rfl; rfl; rfl; rfl; (intro _ h; cases h); rfl; rfl; rfl; decide; decide; (first | omega | (simp only [List.length_take, List.length_drop, List.length_append, List.length_singleton, List.length_cons, List.length_nil] <;> omega)))
              | (apply VVal.assign; rfl)
              | (apply VVal.move; rfl)
              | (apply VVal.add64; rfl; rfl; omega)
              | (apply VVal.int; rfl; rfl; rfl)
              | (apply VVal.indexN; rfl; rfl; rfl; omega; rfl)
              | (apply VVal.load; rfl; rfl)
              | (apply VVal.pick_true; rfl; rfl)
              | (apply VVal.fieldB; rfl; rfl; rfl)
              | (apply VVal.fieldF; rfl; rfl)
              | (apply VVal.build; rfl; rfl; rfl; rfl; rfl)
              | (apply VVal.buildSlice; rfl; rfl; rfl; decide; rfl; rfl; rfl)
              | (apply VVal.not; rfl)
              | (apply VWp.condSeq_true; rfl)
              | (apply VWp.condSeq_false; rfl)
              | (apply VWp.condSeq_dec; rfl)
              | (intro _; try (exfalso; omega)))
            all_goals try (exfalso; omega)
            refine QLoop.normal ⟨by omega, ?_, ?_⟩
            · try ((try rw [e2]) <;> (try rw [e3]) <;> (try rw [e1]))
              repeat (first | exact LCov.nil | refine LCov.same trivial rfl ?_ | refine LCov.same (lt_dec rfl) rfl ?_ | refine LCov.same ⟨trivial, lt_dec rfl, trivial⟩ rfl ?_ | refine LCov.same ⟨trivial, lt_dec rfl, lt_dec rfl, trivial⟩ rfl ?_ | refine LCov.same ⟨trivial, lt_dec rfl, lt_dec rfl, lt_dec rfl, trivial⟩ rfl ?_ | refine LCov.same ⟨trivial, trivial⟩ rfl ?_ | refine LCov.cons trivial rfl (.of_eq (lst_len (by simp <;> omega))) ?_)
            · (try rw [e2]) <;> (try rw [e3]) <;> (try rw [e1])
              repeat (first | exact HCov.nil | (refine HCov.cons (lt_dec rfl) ?_ rfl ?_ ?_; (first | exact HB.under_of rfl | exact PVs.under_pure _ _ | (simp [HB.under, PVs.under, PV.under])); (first | exact HLe.refl _ | exact HLe.vec (FLes.refl _) (by simp))))
          · repeat' (first
              | apply VWp.assoc
              | apply VWp.rseq
              | apply VWp.region
              | apply VWp.skipSeq
              | apply VWp.blockSeq
              | apply QSeq.normal
              | apply QBlk.normal
              | apply VOps.nil
              | apply VOps.one
              | (apply VOps.take; rfl; rfl)
              | (apply VOps.guard; rfl; rfl)
              | (apply VVal.fn; rfl; rfl; exact hh; intro _; rfl)
              | (apply VVal.append1 (a := (⟨(k : Int), (n : Int)⟩ : Ctc)); rfl; rfl; rfl; rfl; rfl; rfl; rfl; rfl; (intro _ h; cases h); rfl; rfl; rfl; decide; decide; (first | omega | (simp only [List.length_take, List.length_drop, List.length_append, List.length_singleton, List.length_cons, List.length_nil] <;> omega)))
              | (apply VVal.assign; rfl)
              | (apply VVal.move; rfl)
              | (apply VVal.add64; rfl; rfl; omega)
              | (apply VVal.int; rfl; rfl; rfl)
              | (apply VVal.indexN; rfl; rfl; rfl; omega; rfl)
              | (apply VVal.load; rfl; rfl)
              | (apply VVal.pick_false; rfl; rfl)
              | (apply VVal.fieldB; rfl; rfl; rfl)
              | (apply VVal.fieldF; rfl; rfl)
              | (apply VVal.build; rfl; rfl; rfl; rfl; rfl)
              | (apply VVal.buildSlice; rfl; rfl; rfl; decide; rfl; rfl; rfl)
              | (apply VVal.not; rfl)
              | (apply VWp.condSeq_false; rfl)
              | (apply VWp.condSeq_dec; rfl)
              | (intro _; try (exfalso; omega)))
            all_goals try (exfalso; omega)
            refine QLoop.normal ⟨by omega, ?_, ?_⟩
            · try ((try rw [e2]) <;> (try rw [e3]) <;> (try rw [e1]))
              repeat (first | exact LCov.nil | refine LCov.same trivial rfl ?_ | refine LCov.same (lt_dec rfl) rfl ?_ | refine LCov.same ⟨trivial, lt_dec rfl, trivial⟩ rfl ?_ | refine LCov.same ⟨trivial, lt_dec rfl, lt_dec rfl, trivial⟩ rfl ?_ | refine LCov.same ⟨trivial, lt_dec rfl, lt_dec rfl, lt_dec rfl, trivial⟩ rfl ?_ | refine LCov.same ⟨trivial, trivial⟩ rfl ?_ | refine LCov.cons trivial rfl (.of_eq (lst_len (by simp <;> omega))) ?_)
            · (try rw [e2]) <;> (try rw [e3]) <;> (try rw [e1])
              repeat (first | exact HCov.nil | (refine HCov.cons (lt_dec rfl) ?_ rfl ?_ ?_; (first | exact HB.under_of rfl | exact PVs.under_pure _ _ | (simp [HB.under, PVs.under, PV.under])); (first | exact HLe.refl _ | exact HLe.vec (FLes.refl _) (by simp))))
    · have e1 : conK l (k + 1) = dueN (conK l k) k (gi l k) 128 := (dueN_all _ _ _).symm
      have e2 : wantK o l (k + 1) = wantN o k (gi l k) 128 := rfl
      repeat' (first
        | apply VWp.assoc
        | apply VWp.rseq
        | apply VWp.region
        | apply VWp.exitSeq
        | apply QSeq.normal
        | apply QBlk.normal
        | apply QBlk.exit
        | apply QLoop.exit
        | apply VOps.nil
        | apply VOps.one
        | (apply VVal.assign; rfl)
        | (apply VVal.move; rfl)
        | (apply VVal.add64; rfl; rfl; omega)
        | (apply VVal.int; rfl; rfl; rfl)
        | (apply VWp.condSeq_false; rfl))
      all_goals try (exfalso; omega)
      refine QLoop.normal ⟨by omega, ?_, ?_⟩
      · try ((try rw [e1]) <;> (try rw [e2]))
        repeat (first | exact LCov.nil | refine LCov.same trivial rfl ?_ | refine LCov.same (lt_dec rfl) rfl ?_ | refine LCov.same ⟨trivial, lt_dec rfl, trivial⟩ rfl ?_ | refine LCov.same ⟨trivial, lt_dec rfl, lt_dec rfl, trivial⟩ rfl ?_ | refine LCov.same ⟨trivial, lt_dec rfl, lt_dec rfl, lt_dec rfl, trivial⟩ rfl ?_ | refine LCov.same ⟨trivial, trivial⟩ rfl ?_ | refine LCov.cons trivial rfl (.of_eq (lst_len (by simp <;> omega))) ?_)
      · (try rw [e1]) <;> (try rw [e2])
        repeat (first | exact HCov.nil | (refine HCov.cons (lt_dec rfl) ?_ rfl ?_ ?_; (first | exact HB.under_of rfl | exact PVs.under_pure _ _ | (simp [HB.under, PVs.under, PV.under])); (first | exact HLe.refl _ | exact HLe.vec (FLes.refl _) (by simp))))
  · have hw : m < l.length → wantK o l m = 23 := fun h => by
      rcases m3 with ⟨h1, _⟩ | ⟨h1, h2⟩
      · omega
      · unfold wantK; rw [if_neg (by omega)]; exact h2
    rcases m3 with ⟨g1, g2⟩ | ⟨g1, g2⟩
    · -- all is right
      subst g1
      have hE : keysE o l = 0 := keysE_ok hlen fun i hi => by rw [wit_want ho (by omega) (hk i hi), g2 i hi]; rfl
      rw [hE] at hck
      have hct := contacts_spec o ho l (by omega) hk hE
      have hwz : wantK o l l.length = 0 := by
        unfold wantK
        split
        · rfl
        · exact g2 _ (by omega)
      rw [hwz]
      have cl := conK_len l l.length
      repeat' (first
        | (refine VWp.at 25 ?_; refine VWp.ghost (Ghost.freeze 7 rfl rfl) ?_; first | apply VWp.rseq | apply VWp.rseqD)
        | apply VWp.assoc
        | apply VWp.rseq
        | apply VWp.skipSeq
        | apply VWp.exitSeq
        | apply VWp.blockSeq
        | apply QSeq.normal
        | apply QBlk.exit
        | apply QLoop.exit
        | apply VOps.nil
        | apply VOps.one
        | (apply VOps.take; rfl; rfl)
        | (apply VOps.drop; rfl; rfl; rfl)
        | (apply VOps.guard; rfl; rfl)
        | (apply VVal.fn; rfl; rfl; exact hck; intro _; rfl)
        | (apply VVal.fn; rfl; rfl; exact hct; intro _; rfl)
        | (apply VVal.assign; rfl)
        | (apply VVal.move; rfl)
        | (apply VVal.int; rfl; rfl; rfl)
        | (apply VVal.load; rfl; rfl)
        | (apply VVal.pick_false; rfl; rfl)
        | (apply VVal.lenF; rfl; rfl)
        | (apply VVal.lenV; rfl; rfl; rfl)
        | (apply VVal.extract; rfl; rfl)
        | (apply VWp.condSeq_false; rfl)
        | (apply VWp.condSeq_dec; rfl)
        | (intro _; try (exfalso; omega)))
      all_goals try (exfalso; omega)
      all_goals try contradiction
      apply VWp.loopR ((conK l l.length).length) [(7, _), (10, _)] [(0, _), (1, _)] (fun k r => (12, .p (.int .i64 (k : Int))) :: r) (fun k r => r) 2
      · omega
      · omega
      · repeat (first | exact LCov.nil | (refine LCov.eq rfl ?_ ?_; (first | exact PV.under_of rfl | (simp [PV.under, PVs.under]; done))) | refine LCov.cons trivial rfl (.of_eq (lst_len (by simp <;> omega))) ?_)
      · repeat (first | exact HCov.nil | (refine HCov.eq rfl (lt_dec rfl) ?_ ?_; (first | exact HB.under_of rfl | exact PVs.under_pure _ _ | (simp [HB.under, PVs.under, PV.under]; done))) | (refine HCov.cons (lt_dec rfl) ?_ rfl ?_ ?_; (first | exact trivial | exact PVs.under_pure _ _ | (simp [HB.under, PVs.under, PV.under])); (first | exact HLe.refl _ | exact HLe.vec (FLes.refl _) (by simp))))
      · intro k hk3
        repeat' (first
          | apply VWp.assoc
          | apply VWp.rseq
          | apply VWp.rseqD
          | apply VWp.region
          | apply VWp.skipSeq
          | apply VWp.blockSeq
          | apply QSeq.normal
          | apply QBlk.normal
          | apply VWp.skip
          | apply VOps.nil
          | apply VOpsD.nil
          | apply VOps.one
          | (apply VOpsD.bar; decide +kernel)
          | apply VOpsD.quiet
          | (apply VVal.neSt1 ; rfl ; rfl ; exact freeCtc ; exact eqCtc _)
          | (apply VVal.assign; rfl)
          | (apply VVal.move; rfl)
          | (apply VVal.add64; rfl; rfl; omega)
          | (apply VVal.int; rfl; rfl; rfl)
          | (apply VVal.indexN; rfl; rfl; rfl; omega; rfl)
          | (apply VVal.load; rfl; rfl)
          | (apply VVal.lenF; rfl; rfl)
          | (apply VWp.condSeq_dec; rfl)
          | (apply VWp.cond_false; rfl)
          | (intro _; try (exfalso; omega)))
        all_goals try (exfalso; omega)
        all_goals try contradiction
        refine QLoop.normal ⟨by omega, ?_, ?_⟩
        · repeat (first | exact LCov.nil | refine LCov.same trivial rfl ?_ | refine LCov.same (lt_dec rfl) rfl ?_ | refine LCov.same ⟨trivial, lt_dec rfl, trivial⟩ rfl ?_ | refine LCov.same ⟨trivial, lt_dec rfl, lt_dec rfl, trivial⟩ rfl ?_ | refine LCov.same ⟨trivial, lt_dec rfl, lt_dec rfl, lt_dec rfl, trivial⟩ rfl ?_ | refine LCov.same ⟨trivial, trivial⟩ rfl ?_ | refine LCov.cons trivial rfl (.of_eq (lst_len (by simp <;> omega))) ?_)
        · repeat (first | exact HCov.nil | (refine HCov.cons (lt_dec rfl) ?_ rfl ?_ ?_; (first | exact HB.under_of rfl | exact PVs.under_pure _ _ | (simp [HB.under, PVs.under, PV.under])); (first | exact HLe.refl _ | exact HLe.vec (FLes.refl _) (by simp))))
      · repeat' (first
          | apply VWp.assoc
          | apply VWp.rseq
          | apply VWp.exitSeq
          | apply QSeq.normal
          | apply QBlk.exit
          | apply QLoop.exit
          | apply VWp.ret
          | apply VOps.nil
          | apply VOps.one
          | (apply VVal.assign; rfl)
          | (apply VVal.move; rfl)
          | (apply VVal.int; rfl; rfl; rfl)
          | (apply VVal.lenF; rfl; rfl)
          | (apply VWp.condSeq_dec; rfl)
          | (intro _; try (exfalso; omega)))
        all_goals first | (exfalso; omega) | contradiction | ((refine Done.ret rfl (.refl _) (by first | exact trivial | exact ⟨trivial, trivial, trivial⟩ | exact ⟨trivial, trivial, trivial, trivial⟩) HCov.nil (Nat.zero_le _) (Nat.le_refl _) ⟨?_, rfl, rfl⟩; try rfl); try simp)
    · have hE : keysE o l = 23 := keysE_bad hlen (show m - 1 < l.length by omega) (by rw [wit_want ho (by omega) (hk _ (by omega)), g2]; rfl)
      rw [hE] at hck
      have hct := contactsBad_spec o ho l (by omega) hk 23 (by decide) hE
      have hwz : wantK o l m = 23 := by unfold wantK; rw [if_neg (by omega)]; exact g2
      rw [hwz]
      have cl := conK_len l m
      repeat' (first
        | apply VWp.assoc
        | apply VWp.rseq
        | apply VWp.skipSeq
        | apply VWp.retSeq
        | apply VWp.exitSeq
        | apply QSeq.normal
        | apply QBlk.exit
        | apply QLoop.exit
        | apply VOps.nil
        | apply VOps.one
        | (apply VOps.take; rfl; rfl)
        | (apply VOps.drop; rfl; rfl; rfl)
        | (apply VOps.guard; rfl; rfl)
        | (apply VVal.fn; rfl; rfl; exact hck; intro _; rfl)
        | (apply VVal.fn; rfl; rfl; exact hct; intro _; rfl)
        | (apply VVal.assign; rfl)
        | (apply VVal.move; rfl)
        | (apply VVal.int; rfl; rfl; rfl)
        | (apply VVal.load; rfl; rfl)
        | (apply VVal.pick_true; rfl; rfl)
        | (apply VVal.pick_false; rfl; rfl)
        | (apply VVal.lenF; rfl; rfl)
        | (apply VVal.lenNil; rfl; rfl)
        | (apply VVal.extract; rfl; rfl)
        | (apply VWp.condSeq_true; rfl)
        | (apply VWp.condSeq_false; rfl)
        | (intro _; try (exfalso; omega)))
      all_goals first | (exfalso; omega) | contradiction | ((refine Done.ret rfl (.refl _) (by first | exact trivial | exact ⟨trivial, trivial, trivial⟩ | exact ⟨trivial, trivial, trivial, trivial⟩) HCov.nil (Nat.zero_le _) (Nat.le_refl _) ⟨?_, rfl, rfl⟩; try rfl); try simp)
end Go.Proofs.YtcnlhgmkelkikaaGreatDoor
