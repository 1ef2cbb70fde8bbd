/-
  The law of organs: OrganPlays. Conditions: in each statement.
-/
import Derived.Test.YtcnlhgmkelkikaaGreatDoorOrKc
set_option linter.unusedSimpArgs false
set_option linter.unusedVariables false
namespace Go.Proofs.YtcnlhgmkelkikaaGreatDoor
open Go Go.Am Go.Vm
attribute [local irreducible] VVal VOps VOpsD VWp VCalls VFun VFunV QSeq QBlk QLoop Vm.Done DoneV DoneI

/-! ## the law's keys are right -/
theorem prsF_ok {o : Org} (ho : OrgT o) (b : Nat → Nat) {k : Nat} (hk : k < o.divs.length) : (prsF o b k).Ok := by
  have h := ho.dv k hk
  exact ofK_ok (fun i hi => by have := prsL_in ho b hk i hi; omega) _ (Nat.le_refl _)
theorem prsF_has {o : Org} (ho : OrgT o) (b : Nat → Nat) {k : Nat} (hk : k < o.divs.length) {m : Nat} (hm : m < 128) (hh : (prsF o b k).has m = true) : (gi o.divs k).lo ≤ m ∧ (m : Int) ≤ (gi o.divs k).hi := by
  have h := ho.dv k hk
  unfold prsF at hh
  rw [ofK_has (fun i hi => by have := prsL_in ho b hk i hi; omega) m hm _ (Nat.le_refl _), List.take_length, decide_eq_true_iff] at hh
  obtain ⟨i, hi, e⟩ := List.getElem_of_mem hh
  have := prsL_in ho b hk i hi
  have e2 : gi (prsL o b k) i = (m : Int) := by simp [gi, List.getElem?_eq_getElem hi, e]
  rw [e2] at this
  exact this
def prsS (o : Org) (b : Nat → Nat) : List Nts := snocK (prsF o b) o.divs.length
theorem prsS_len (o : Org) (b : Nat → Nat) : (prsS o b).length = o.divs.length := snocK_len _ _
theorem prsS_gi {o : Org} {b : Nat → Nat} {k : Nat} (hk : k < o.divs.length) : gi (prsS o b) k = prsF o b k := snocK_gi _ hk
theorem prsS_ok {o : Org} (ho : OrgT o) (b : Nat → Nat) : KysOk (prsS o b) := fun i hi => by
  rw [prsS_len] at hi
  rw [prsS_gi hi]; exact prsF_ok ho b hi
/-- all notes lie in their compasses -/
def KysIn (o : Org) (l : List Nts) : Prop := l.length = o.divs.length ∧ ∀ i, i < o.divs.length → ∀ m, m < 128 → (gi l i).has m = true → (gi o.divs i).lo ≤ m ∧ (m : Int) ≤ (gi o.divs i).hi
theorem kysIn_ok {o : Org} (ho : OrgT o) {l : List Nts} (hk : KysOk l) (h : KysIn o l) : keysE o l = 0 := keysE_ok h.1 fun i hi => by
  have hi' : i < o.divs.length := by rw [← h.1]; exact hi
  rw [witN_iff (hk i hi)]
  intro m hm hh
  rw [rngD_has ho hi' hm, decide_eq_true_iff]
  exact h.2 i hi' m hm hh
theorem prsS_in {o : Org} (ho : OrgT o) (b : Nat → Nat) : KysIn o (prsS o b) := ⟨prsS_len o b, fun i hi m hm hh => by
  rw [prsS_gi hi] at hh; exact prsF_has ho b hi hm hh⟩

/-! ## the contacts of the keys -/
theorem conK_mem (l : List Nts) : ∀ k, ∀ c, c ∈ conK l k ↔ ∃ d n : Nat, d < k ∧ n < 128 ∧ (gi l d).has n = true ∧ c = ⟨(d : Int), (n : Int)⟩
  | 0, c => by simp [conK]
  | k + 1, c => by
    have ih := conK_mem l k c
    simp only [conK]
    rw [conJ_map _ _ _ _ (Nat.le_refl _), List.take_length, List.mem_append, ih, notesL_eq, List.map_map, List.mem_map]
    constructor
    · rintro (⟨d, n, h1, h2⟩ | ⟨n, h1, h2⟩)
      · exact ⟨d, n, by omega, h2⟩
      · rw [List.mem_filter, List.mem_range] at h1
        exact ⟨k, n, by omega, h1.1, h1.2, h2.symm⟩
    · rintro ⟨d, n, h1, h2, h3, h4⟩
      by_cases e : d = k
      · subst e
        exact .inr ⟨n, by rw [List.mem_filter, List.mem_range]; exact ⟨h2, h3⟩, h4.symm⟩
      · exact .inl ⟨d, n, by omega, h2, h3, h4⟩
/-- the keys that come of the first j contacts -/
def agK (z : List Nts) (cs : List Ctc) : Nat → List Nts
  | 0 => z
  | j + 1 => playK (agK z cs j) (gi cs j).d.toNat (gi cs j).k.toNat
theorem agK_len (z : List Nts) (cs : List Ctc) : ∀ j, (agK z cs j).length = z.length
  | 0 => rfl
  | j + 1 => by simp only [agK, playK, List.length_set]; exact agK_len z cs j
def CtcIn (n : Nat) (c : Ctc) : Prop := ∃ d m : Nat, d < n ∧ m < 128 ∧ c = ⟨(d : Int), (m : Int)⟩
theorem agK_ok {z : List Nts} (hz : KysOk z) {cs : List Ctc} (hc : ∀ j, j < cs.length → CtcIn z.length (gi cs j)) : ∀ j, j ≤ cs.length → KysOk (agK z cs j)
  | 0, _ => hz
  | j + 1, hj => by
    obtain ⟨d, m, h1, h2, h3⟩ := hc j (by omega)
    simp only [agK]
    rw [h3]
    exact playK_ok (agK_ok hz hc j (by omega)) (by rw [agK_len]; simpa using h1) (by simpa using h2)
theorem agK_has {z : List Nts} {cs : List Ctc} (hc : ∀ j, j < cs.length → CtcIn z.length (gi cs j)) (i m : Nat) (hm : m < 128) : ∀ j, j ≤ cs.length → ((gi (agK z cs j) i).has m = true ↔ (gi z i).has m = true ∨ (⟨(i : Int), (m : Int)⟩ : Ctc) ∈ cs.take j)
  | 0, _ => by simp [agK]
  | j + 1, hj => by
    obtain ⟨d, n, h1, h2, h3⟩ := hc j (by omega)
    simp only [agK]
    rw [take_succ_gi (by omega), h3]
    rw [playK_has (by rw [agK_len]; simpa using h1) (by simpa using h2) hm, Bool.or_eq_true, agK_has hc i m hm j (by omega), List.mem_append, List.mem_singleton, decide_eq_true_iff, or_assoc]
    have e : (i = ((⟨(d : Int), (n : Int)⟩ : Ctc).d).toNat ∧ m = ((⟨(d : Int), (n : Int)⟩ : Ctc).k).toNat) ↔ (⟨(i : Int), (m : Int)⟩ : Ctc) = ⟨(d : Int), (n : Int)⟩ := by
      simp only [Int.toNat_natCast, Ctc.mk.injEq]
      omega
    rw [e]
theorem conK_in (l : List Nts) (j : Nat) (hj : j < (conK l l.length).length) : ∃ d m : Nat, d < l.length ∧ m < 128 ∧ (gi l d).has m = true ∧ gi (conK l l.length) j = ⟨(d : Int), (m : Int)⟩ := by
  exact (conK_mem l l.length _).1 (gi_memK hj)
theorem zeroS_gi {n i : Nat} (hi : i < n) : gi (List.replicate n (⟨0, 0⟩ : Nts)) i = ⟨0, 0⟩ := gi_replicate hi
theorem zeroS_ok (n : Nat) : KysOk (List.replicate n (⟨0, 0⟩ : Nts)) := fun i hi => by
  rw [List.length_replicate] at hi
  rw [zeroS_gi hi]; exact zeroN_ok
/-- all contacts together give the keys -/
theorem agK_all {l : List Nts} (hl : KysOk l) : agK (List.replicate l.length ⟨0, 0⟩) (conK l l.length) (conK l l.length).length = l := by
  have hc : ∀ j, j < (conK l l.length).length → CtcIn (List.replicate l.length (⟨0, 0⟩ : Nts)).length (gi (conK l l.length) j) := fun j hj => by
    obtain ⟨d, m, h1, h2, _, h3⟩ := conK_in l j hj
    exact ⟨d, m, by rw [List.length_replicate]; exact h1, h2, h3⟩
  have hlen := agK_len (List.replicate l.length ⟨0, 0⟩) (conK l l.length) (conK l l.length).length
  rw [List.length_replicate] at hlen
  refine list_gi hlen fun i hi => ?_
  have hi' : i < l.length := by omega
  refine nts_ext (agK_ok (zeroS_ok _) hc _ (Nat.le_refl _) i hi) (hl i hi') fun m hm => ?_
  rw [Bool.eq_iff_iff, agK_has hc i m hm _ (Nat.le_refl _), List.take_length, zeroS_gi hi', zeroN_has, conK_mem]
  constructor
  · rintro (h | ⟨d, n, h1, h2, h3, h4⟩)
    · cases h
    · simp only [Ctc.mk.injEq] at h4
      obtain rfl : d = i := by omega
      obtain rfl : n = m := by omega
      exact h3
  · intro h
    exact .inr ⟨i, m, hi', hm, h, rfl⟩
theorem agK_in {o : Org} {l : List Nts} (hl : KysOk l) (h : KysIn o l) : ∀ j, j ≤ (conK l l.length).length → KysIn o (agK (List.replicate l.length ⟨0, 0⟩) (conK l l.length) j) := fun j hj => by
  have hc : ∀ j, j < (conK l l.length).length → CtcIn (List.replicate l.length (⟨0, 0⟩ : Nts)).length (gi (conK l l.length) j) := fun j hj => by
    obtain ⟨d, m, h1, h2, _, h3⟩ := conK_in l j hj
    exact ⟨d, m, by rw [List.length_replicate]; exact h1, h2, h3⟩
  refine ⟨by rw [agK_len, List.length_replicate]; exact h.1, fun i hi m hm hh => ?_⟩
  have hi' : i < l.length := by rw [h.1]; exact hi
  rw [agK_has hc i m hm j hj, zeroS_gi hi', zeroN_has] at hh
  rcases hh with hh | hh
  · cases hh
  · obtain ⟨d, n, h1, h2, h3, h4⟩ := (conK_mem l l.length _).1 (List.mem_of_mem_take hh)
    simp only [Ctc.mk.injEq] at h4
    obtain rfl : d = i := by omega
    obtain rfl : n = m := by omega
    exact h.2 d hi n hm h3
end Go.Proofs.YtcnlhgmkelkikaaGreatDoor

/-
  The law of organs: OrganPlays, the walk. Conditions: in each statement.
-/
set_option linter.unusedSimpArgs false
set_option linter.unusedVariables false
namespace Go.Proofs.YtcnlhgmkelkikaaGreatDoor
open Go Go.Am Go.Vm
attribute [local irreducible] VVal VOps VOpsD VWp VCalls VFun VFunV QSeq QBlk QLoop Vm.Done DoneV DoneI

set_option maxRecDepth 100000 in
theorem eqNtsR (s : Nts) : Vm.eqSt Tryz.prog 92 (Enc.enc s) (Enc.enc s) = some true := by
  refine (eqNts s.lo s.hi s.lo s.hi).trans ?_
  simp
theorem pressedK_spec (o : Org) (ho : OrgT o) (b : Nat → Nat) (hb : ∀ i, b i < 65536) : VFun env 35 [.agg (Enc.enc o), .agg (keyE b)] (.p (.lst 92 (cells (prsS o b)) (prsS o b).length)) := by
  rw [prsS_len]; exact pressed_spec o ho b hb
set_option maxRecDepth 100000 in
set_option maxHeartbeats 8000000 in
theorem organPlays_spec (x : OPl) (hx : x.Ok) (b : Nat → Nat) (hb : ∀ i, b i < 65536) (d n : Int) : VFun env 9 [.agg x.enc, .agg (keyE b), .agg [.int .i64 d, .int .i64 n]] (.p (.bool true)) := by
  have hkn := known_spec
  have hfs := fits_spec x hx
  refine VFun.enter (env_none (by decide)) Tryz.func9 rfl (by kernel_rfl) (by simp [Tryz.ntmps9]) ?_
  by_cases hf : fitsP x
  case neg =>
    rw [decide_eq_false hf] at hfs
    repeat' (first
      | apply VWp.assoc
      | apply VWp.rseq
      | apply VWp.retSeq
      | apply VOps.nil
      | apply VOps.one
      | (apply VOps.take; rfl; rfl)
      | (apply VVal.fn; rfl; rfl; exact hkn; intro _; rfl)
      | (apply VVal.fn; rfl; rfl; exact hfs; intro _; rfl)
      | (apply VVal.assign; rfl)
      | (apply VVal.move; rfl)
      | (apply VVal.load; rfl; rfl)
      | (apply VVal.pick_false; rfl; rfl)
      | (apply VVal.box; rfl; trivial)
      | (apply VVal.not; rfl)
      | (apply VWp.condSeq_true; rfl))
    all_goals first | (exfalso; omega) | contradiction | ((refine Done.ret rfl (.refl _) (by first | exact trivial | exact ⟨trivial, trivial, trivial⟩ | exact ⟨trivial, trivial, trivial, trivial⟩) HCov.nil (Nat.zero_le _) (Nat.le_refl _) ⟨?_, rfl, rfl⟩; try rfl); try simp)
  rw [decide_eq_true hf] at hfs
  have hm := make18_spec x hx hf
  have ho := mkO_t x hx hf
  generalize mkO x = o at *
  have r2 := ho.divs
  have hpr := pressedK_spec o ho b hb
  have kok := prsS_ok ho b
  have kin := prsS_in ho b
  generalize prsS o b = K at *
  have kl := kin.1
  have hE := kysIn_ok ho kok kin
  have hct := contacts_spec o ho K (by omega) kok hE
  have hal := agK_all kok
  have hain := agK_in kok kin
  have cl := conK_len K K.length
  have haok : ∀ j, j ≤ (conK K K.length).length → KysOk (agK (List.replicate K.length ⟨0, 0⟩) (conK K K.length) j) := agK_ok (zeroS_ok _) (fun j hj => by
    obtain ⟨d, m, h1, h2, _, h3⟩ := conK_in K j hj
    exact ⟨d, m, by rw [List.length_replicate]; exact h1, h2, h3⟩)
  have hround : ∀ j, j < (conK K K.length).length → VFun env 36 [.agg (Enc.enc o), .lst 92 (cells (agK (List.replicate K.length ⟨0, 0⟩) (conK K K.length) j)) K.length, .agg (Enc.enc (gi (conK K K.length) j))] (.tup [.p (.lst 92 (cells (agK (List.replicate K.length ⟨0, 0⟩) (conK K K.length) (j + 1))) K.length), .p (.int .i64 0)]) := fun j hj => by
    obtain ⟨e, m, h1, h2, h3, h4⟩ := conK_in K j hj
    have hin := hain j (by omega)
    have hlen : (agK (List.replicate K.length ⟨0, 0⟩) (conK K K.length) j).length = K.length := by rw [agK_len, List.length_replicate]
    have hp := play_spec o ho (agK (List.replicate K.length ⟨0, 0⟩) (conK K K.length) j) (by omega) (haok j (by omega)) (kysIn_ok ho (haok j (by omega)) hin) e m (by omega) (kin.2 e (by omega) m h2 h3)
    rw [hlen] at hp
    show VFun env 36 [.agg (Enc.enc o), .lst 92 (cells (agK (List.replicate K.length ⟨0, 0⟩) (conK K K.length) j)) K.length, .agg (Enc.enc (gi (conK K K.length) j))] (.tup [.p (.lst 92 (cells (playK (agK (List.replicate K.length ⟨0, 0⟩) (conK K K.length) j) (gi (conK K K.length) j).d.toNat (gi (conK K K.length) j).k.toNat)) K.length), .p (.int .i64 0)])
    rw [h4]
    exact hp
  generalize conK K K.length = cs at *
  by_cases hd : 0 ≤ d ∧ d < o.divs.length
  case neg =>
    have hp := playBad_spec o ho K (by omega) kok hE d n hd
    repeat' (first
      | (refine VWp.at 10 ?_; refine VWp.ghost (Ghost.freeze 13 rfl rfl) ?_; first | apply VWp.rseq | apply VWp.rseqD)
      | apply VWp.assoc
      | apply VWp.rseq
      | apply VWp.skipSeq
      | apply VWp.blockSeq
      | apply VOps.nil
      | apply VOps.one
      | (apply VOps.take; rfl; rfl)
      | (apply VVal.fn; rfl; rfl; exact hkn; intro _; rfl)
      | (apply VVal.fn; rfl; rfl; exact hfs; intro _; rfl)
      | (apply VVal.fn; rfl; rfl; exact hm; intro _; rfl)
      | (apply VVal.fn; rfl; rfl; exact hpr; intro _; rfl)
      | (apply VVal.fn; rfl; rfl; exact hct; intro _; rfl)
      | (apply VVal.fn; rfl; rfl; exact hp; intro _; rfl)
      | (apply VVal.makeSliceL K.length (⟨0, 0⟩ : Nts) ; rfl ; rfl ; rfl ; rfl ; rfl ; omega ; omega ; omega ; decide ; decide ; rfl)
      | (apply VVal.assign; rfl)
      | (apply VVal.move; rfl)
      | (apply VVal.int; rfl; rfl; rfl)
      | (apply VVal.load; rfl; rfl)
      | (apply VVal.pick_false; rfl; rfl)
      | (apply VVal.lenF; rfl; rfl)
      | (apply VVal.fieldB; rfl; rfl; rfl)
      | (apply VVal.box; rfl; trivial)
      | (apply VVal.alloc; rfl)
      | (apply VVal.storeB; rfl; rfl; rfl; trivial; rfl; rfl; exact lt_dec rfl; exact le_dec rfl)
      | (apply VVal.not; rfl)
      | (apply VVal.extract; rfl; rfl)
      | (apply VWp.condSeq_false; rfl))
    all_goals try (exfalso; omega)
    all_goals try contradiction
    apply VWp.loopR (cs.length) [(5, _), (7, _), (8, _), (9, _), (10, _), (11, _)] [(2, _), (3, _)] (fun k r => (14, .p (.int .i64 (k : Int))) :: (13, .p (.lst 92 (cells (agK (List.replicate K.length ⟨0, 0⟩) cs k)) K.length)) :: r) (fun k r => r) 4
    · omega
    · omega
    · repeat (first | exact LCov.nil | (refine LCov.eq rfl ?_ ?_; (first | exact PV.under_of rfl | (simp [PV.under, PVs.under]; done))) | refine LCov.cons trivial rfl (.of_eq (lst_len (by simp <;> omega))) ?_)
    · repeat (first | exact HCov.nil | (refine HCov.eq rfl (lt_dec rfl) ?_ ?_; (first | exact HB.under_of rfl | exact PVs.under_pure _ _ | (simp [HB.under, PVs.under, PV.under]; done))) | (refine HCov.cons (lt_dec rfl) ?_ rfl ?_ ?_; (first | exact trivial | exact PVs.under_pure _ _ | (simp [HB.under, PVs.under, PV.under])); (first | exact HLe.refl _ | exact HLe.vec (FLes.refl _) (by simp))))
    · intro j hj
      have hr := hround j hj
      repeat' (first
        | apply VWp.assoc
        | apply VWp.rseq
        | apply VWp.rseqD
        | apply VWp.region
        | apply VWp.skipSeq
        | apply VWp.blockSeq
        | apply QSeq.normal
        | apply QBlk.normal
        | apply VOps.nil
        | apply VOpsD.nil
        | apply VOps.one
        | (apply VOpsD.bar; decide +kernel)
        | apply VOpsD.quiet
        | (apply VOps.take; rfl; rfl)
        | (apply VVal.fn; rfl; rfl; exact hr; intro _; rfl)
        | (apply VVal.assign; rfl)
        | (apply VVal.move; rfl)
        | (apply VVal.add64; rfl; rfl; omega)
        | (apply VVal.int; rfl; rfl; rfl)
        | (apply VVal.indexN; rfl; rfl; rfl; omega; rfl)
        | (apply VVal.load; rfl; rfl)
        | (apply VVal.pick_false; rfl; rfl)
        | (apply VVal.lenF; rfl; rfl)
        | (apply VVal.extract; rfl; rfl)
        | (apply VWp.condSeq_dec; rfl)
        | (intro _; try (exfalso; omega)))
      all_goals try (exfalso; omega)
      all_goals try contradiction
      refine QLoop.normal ⟨by omega, ?_, ?_⟩
      · repeat (first | exact LCov.nil | refine LCov.same trivial rfl ?_ | refine LCov.same (lt_dec rfl) rfl ?_ | refine LCov.same ⟨trivial, lt_dec rfl, trivial⟩ rfl ?_ | refine LCov.same ⟨trivial, lt_dec rfl, lt_dec rfl, trivial⟩ rfl ?_ | refine LCov.same ⟨trivial, lt_dec rfl, lt_dec rfl, lt_dec rfl, trivial⟩ rfl ?_ | refine LCov.same ⟨trivial, trivial⟩ rfl ?_ | refine LCov.cons trivial rfl (.of_eq (lst_len (by simp <;> omega))) ?_)
      · repeat (first | exact HCov.nil | (refine HCov.cons (lt_dec rfl) ?_ rfl ?_ ?_; (first | exact HB.under_of rfl | exact PVs.under_pure _ _ | (simp [HB.under, PVs.under, PV.under])); (first | exact HLe.refl _ | exact HLe.vec (FLes.refl _) (by simp))))
    rw [hal]
    repeat' (first
      | apply VWp.assoc
      | apply VWp.rseq
      | apply VWp.exitSeq
      | apply VWp.blockSeq
      | apply QSeq.normal
      | apply QBlk.exit
      | apply QLoop.exit
      | apply VOps.nil
      | apply VOps.one
      | (apply VVal.assign; rfl)
      | (apply VVal.move; rfl)
      | (apply VVal.int; rfl; rfl; rfl)
      | (apply VVal.lenF; rfl; rfl)
      | (apply VWp.condSeq_dec; rfl)
      | (intro _; try (exfalso; omega)))
    all_goals try (exfalso; omega)
    all_goals try contradiction
    apply VWp.loopR (K.length) [(5, _), (7, _), (8, _), (9, _), (10, _), (13, _)] [(2, _), (3, _)] (fun k r => (17, .p (.int .i64 (k : Int))) :: r) (fun k r => r) 4
    · omega
    · omega
    · repeat (first | exact LCov.nil | (refine LCov.eq rfl ?_ ?_; (first | exact PV.under_of rfl | (simp [PV.under, PVs.under]; done))) | refine LCov.cons trivial rfl (.of_eq (lst_len (by simp <;> omega))) ?_)
    · repeat (first | exact HCov.nil | (refine HCov.eq rfl (lt_dec rfl) ?_ ?_; (first | exact HB.under_of rfl | exact PVs.under_pure _ _ | (simp [HB.under, PVs.under, PV.under]; done))) | (refine HCov.cons (lt_dec rfl) ?_ rfl ?_ ?_; (first | exact trivial | exact PVs.under_pure _ _ | (simp [HB.under, PVs.under, PV.under])); (first | exact HLe.refl _ | exact HLe.vec (FLes.refl _) (by simp))))
    · intro j hj
      repeat' (first
        | apply VWp.assoc
        | apply VWp.rseq
        | apply VWp.rseqD
        | apply VWp.region
        | apply VWp.skipSeq
        | apply VWp.blockSeq
        | apply QSeq.normal
        | apply QBlk.normal
        | apply VWp.skip
        | apply VOps.nil
        | apply VOpsD.nil
        | apply VOps.one
        | (apply VOpsD.bar; decide +kernel)
        | apply VOpsD.quiet
        | (apply VVal.neSt1 ; rfl ; rfl ; exact freeNts ; exact eqNtsR _)
        | (apply VVal.assign; rfl)
        | (apply VVal.move; rfl)
        | (apply VVal.add64; rfl; rfl; omega)
        | (apply VVal.int; rfl; rfl; rfl)
        | (apply VVal.indexN; rfl; rfl; rfl; omega; rfl)
        | (apply VVal.load; rfl; rfl)
        | (apply VVal.lenF; rfl; rfl)
        | (apply VWp.condSeq_dec; rfl)
        | (apply VWp.cond_false; rfl)
        | (intro _; try (exfalso; omega)))
      all_goals try (exfalso; omega)
      all_goals try contradiction
      refine QLoop.normal ⟨by omega, ?_, ?_⟩
      · repeat (first | exact LCov.nil | refine LCov.same trivial rfl ?_ | refine LCov.same (lt_dec rfl) rfl ?_ | refine LCov.same ⟨trivial, lt_dec rfl, trivial⟩ rfl ?_ | refine LCov.same ⟨trivial, lt_dec rfl, lt_dec rfl, trivial⟩ rfl ?_ | refine LCov.same ⟨trivial, lt_dec rfl, lt_dec rfl, lt_dec rfl, trivial⟩ rfl ?_ | refine LCov.same ⟨trivial, trivial⟩ rfl ?_ | refine LCov.cons trivial rfl (.of_eq (lst_len (by simp <;> omega))) ?_)
      · repeat (first | exact HCov.nil | (refine HCov.cons (lt_dec rfl) ?_ rfl ?_ ?_; (first | exact HB.under_of rfl | exact PVs.under_pure _ _ | (simp [HB.under, PVs.under, PV.under])); (first | exact HLe.refl _ | exact HLe.vec (FLes.refl _) (by simp))))
    repeat' (first
      | apply VWp.assoc
      | apply VWp.rseq
      | apply VWp.retSeq
      | apply VWp.exitSeq
      | apply QSeq.normal
      | apply QBlk.exit
      | apply QLoop.exit
      | apply VOps.nil
      | apply VOps.one
      | (apply VOps.take; rfl; rfl)
      | (apply VOps.drop; rfl; rfl; rfl)
      | (apply VOps.guard; rfl; rfl)
      | (apply VVal.assign; rfl)
      | (apply VVal.move; rfl)
      | (apply VVal.int; rfl; rfl; rfl)
      | (apply VVal.load; rfl; rfl)
      | (apply VVal.pick_true; rfl; rfl)
      | (apply VVal.pick_false; rfl; rfl)
      | (apply VVal.lenF; rfl; rfl)
      | (apply VVal.lenNil; rfl; rfl)
      | (apply VVal.fieldB; rfl; rfl; rfl)
      | (apply VWp.condSeq_true; rfl)
      | (apply VWp.condSeq_dec; rfl)
      | (intro _; try (exfalso; omega)))
    all_goals first | (exfalso; omega) | contradiction | ((refine Done.ret rfl (.refl _) (by first | exact trivial | exact ⟨trivial, trivial, trivial⟩ | exact ⟨trivial, trivial, trivial, trivial⟩) HCov.nil (Nat.zero_le _) (Nat.le_refl _) ⟨?_, rfl, rfl⟩; try rfl); try simp)
  obtain ⟨e, rfl⟩ : ∃ e : Nat, d = e := ⟨d.toNat, by omega⟩
  have he : e < o.divs.length := by omega
  have hv := ho.dv e he
  by_cases hin : (gi o.divs e).lo ≤ n ∧ n ≤ (gi o.divs e).hi
  case neg =>
    have hp := playOut_spec o ho K (by omega) kok hE e n he hin
    repeat' (first
      | (refine VWp.at 10 ?_; refine VWp.ghost (Ghost.freeze 13 rfl rfl) ?_; first | apply VWp.rseq | apply VWp.rseqD)
      | apply VWp.assoc
      | apply VWp.rseq
      | apply VWp.skipSeq
      | apply VWp.blockSeq
      | apply VOps.nil
      | apply VOps.one
      | (apply VOps.take; rfl; rfl)
      | (apply VVal.fn; rfl; rfl; exact hkn; intro _; rfl)
      | (apply VVal.fn; rfl; rfl; exact hfs; intro _; rfl)
      | (apply VVal.fn; rfl; rfl; exact hm; intro _; rfl)
      | (apply VVal.fn; rfl; rfl; exact hpr; intro _; rfl)
      | (apply VVal.fn; rfl; rfl; exact hct; intro _; rfl)
      | (apply VVal.fn; rfl; rfl; exact hp; intro _; rfl)
      | (apply VVal.makeSliceL K.length (⟨0, 0⟩ : Nts) ; rfl ; rfl ; rfl ; rfl ; rfl ; omega ; omega ; omega ; decide ; decide ; rfl)
      | (apply VVal.assign; rfl)
      | (apply VVal.move; rfl)
      | (apply VVal.int; rfl; rfl; rfl)
      | (apply VVal.load; rfl; rfl)
      | (apply VVal.pick_false; rfl; rfl)
      | (apply VVal.lenF; rfl; rfl)
      | (apply VVal.fieldB; rfl; rfl; rfl)
      | (apply VVal.box; rfl; trivial)
      | (apply VVal.alloc; rfl)
      | (apply VVal.storeB; rfl; rfl; rfl; trivial; rfl; rfl; exact lt_dec rfl; exact le_dec rfl)
      | (apply VVal.not; rfl)
      | (apply VVal.extract; rfl; rfl)
      | (apply VWp.condSeq_false; rfl))
    all_goals try (exfalso; omega)
    all_goals try contradiction
    apply VWp.loopR (cs.length) [(5, _), (7, _), (8, _), (9, _), (10, _), (11, _)] [(2, _), (3, _)] (fun k r => (14, .p (.int .i64 (k : Int))) :: (13, .p (.lst 92 (cells (agK (List.replicate K.length ⟨0, 0⟩) cs k)) K.length)) :: r) (fun k r => r) 4
    · omega
    · omega
    · repeat (first | exact LCov.nil | (refine LCov.eq rfl ?_ ?_; (first | exact PV.under_of rfl | (simp [PV.under, PVs.under]; done))) | refine LCov.cons trivial rfl (.of_eq (lst_len (by simp <;> omega))) ?_)
    · repeat (first | exact HCov.nil | (refine HCov.eq rfl (lt_dec rfl) ?_ ?_; (first | exact HB.under_of rfl | exact PVs.under_pure _ _ | (simp [HB.under, PVs.under, PV.under]; done))) | (refine HCov.cons (lt_dec rfl) ?_ rfl ?_ ?_; (first | exact trivial | exact PVs.under_pure _ _ | (simp [HB.under, PVs.under, PV.under])); (first | exact HLe.refl _ | exact HLe.vec (FLes.refl _) (by simp))))
    · intro j hj
      have hr := hround j hj
      repeat' (first
        | apply VWp.assoc
        | apply VWp.rseq
        | apply VWp.rseqD
        | apply VWp.region
        | apply VWp.skipSeq
        | apply VWp.blockSeq
        | apply QSeq.normal
        | apply QBlk.normal
        | apply VOps.nil
        | apply VOpsD.nil
        | apply VOps.one
        | (apply VOpsD.bar; decide +kernel)
        | apply VOpsD.quiet
        | (apply VOps.take; rfl; rfl)
        | (apply VVal.fn; rfl; rfl; exact hr; intro _; rfl)
        | (apply VVal.assign; rfl)
        | (apply VVal.move; rfl)
        | (apply VVal.add64; rfl; rfl; omega)
        | (apply VVal.int; rfl; rfl; rfl)
        | (apply VVal.indexN; rfl; rfl; rfl; omega; rfl)
        | (apply VVal.load; rfl; rfl)
        | (apply VVal.pick_false; rfl; rfl)
        | (apply VVal.lenF; rfl; rfl)
        | (apply VVal.extract; rfl; rfl)
        | (apply VWp.condSeq_dec; rfl)
        | (intro _; try (exfalso; omega)))
      all_goals try (exfalso; omega)
      all_goals try contradiction
      refine QLoop.normal ⟨by omega, ?_, ?_⟩
      · repeat (first | exact LCov.nil | refine LCov.same trivial rfl ?_ | refine LCov.same (lt_dec rfl) rfl ?_ | refine LCov.same ⟨trivial, lt_dec rfl, trivial⟩ rfl ?_ | refine LCov.same ⟨trivial, lt_dec rfl, lt_dec rfl, trivial⟩ rfl ?_ | refine LCov.same ⟨trivial, lt_dec rfl, lt_dec rfl, lt_dec rfl, trivial⟩ rfl ?_ | refine LCov.same ⟨trivial, trivial⟩ rfl ?_ | refine LCov.cons trivial rfl (.of_eq (lst_len (by simp <;> omega))) ?_)
      · repeat (first | exact HCov.nil | (refine HCov.cons (lt_dec rfl) ?_ rfl ?_ ?_; (first | exact HB.under_of rfl | exact PVs.under_pure _ _ | (simp [HB.under, PVs.under, PV.under])); (first | exact HLe.refl _ | exact HLe.vec (FLes.refl _) (by simp))))
    rw [hal]
    repeat' (first
      | apply VWp.assoc
      | apply VWp.rseq
      | apply VWp.exitSeq
      | apply VWp.blockSeq
      | apply QSeq.normal
      | apply QBlk.exit
      | apply QLoop.exit
      | apply VOps.nil
      | apply VOps.one
      | (apply VVal.assign; rfl)
      | (apply VVal.move; rfl)
      | (apply VVal.int; rfl; rfl; rfl)
      | (apply VVal.lenF; rfl; rfl)
      | (apply VWp.condSeq_dec; rfl)
      | (intro _; try (exfalso; omega)))
    all_goals try (exfalso; omega)
    all_goals try contradiction
    apply VWp.loopR (K.length) [(5, _), (7, _), (8, _), (9, _), (10, _), (13, _)] [(2, _), (3, _)] (fun k r => (17, .p (.int .i64 (k : Int))) :: r) (fun k r => r) 4
    · omega
    · omega
    · repeat (first | exact LCov.nil | (refine LCov.eq rfl ?_ ?_; (first | exact PV.under_of rfl | (simp [PV.under, PVs.under]; done))) | refine LCov.cons trivial rfl (.of_eq (lst_len (by simp <;> omega))) ?_)
    · repeat (first | exact HCov.nil | (refine HCov.eq rfl (lt_dec rfl) ?_ ?_; (first | exact HB.under_of rfl | exact PVs.under_pure _ _ | (simp [HB.under, PVs.under, PV.under]; done))) | (refine HCov.cons (lt_dec rfl) ?_ rfl ?_ ?_; (first | exact trivial | exact PVs.under_pure _ _ | (simp [HB.under, PVs.under, PV.under])); (first | exact HLe.refl _ | exact HLe.vec (FLes.refl _) (by simp))))
    · intro j hj
      repeat' (first
        | apply VWp.assoc
        | apply VWp.rseq
        | apply VWp.rseqD
        | apply VWp.region
        | apply VWp.skipSeq
        | apply VWp.blockSeq
        | apply QSeq.normal
        | apply QBlk.normal
        | apply VWp.skip
        | apply VOps.nil
        | apply VOpsD.nil
        | apply VOps.one
        | (apply VOpsD.bar; decide +kernel)
        | apply VOpsD.quiet
        | (apply VVal.neSt1 ; rfl ; rfl ; exact freeNts ; exact eqNtsR _)
        | (apply VVal.assign; rfl)
        | (apply VVal.move; rfl)
        | (apply VVal.add64; rfl; rfl; omega)
        | (apply VVal.int; rfl; rfl; rfl)
        | (apply VVal.indexN; rfl; rfl; rfl; omega; rfl)
        | (apply VVal.load; rfl; rfl)
        | (apply VVal.lenF; rfl; rfl)
        | (apply VWp.condSeq_dec; rfl)
        | (apply VWp.cond_false; rfl)
        | (intro _; try (exfalso; omega)))
      all_goals try (exfalso; omega)
      all_goals try contradiction
      refine QLoop.normal ⟨by omega, ?_, ?_⟩
      · repeat (first | exact LCov.nil | refine LCov.same trivial rfl ?_ | refine LCov.same (lt_dec rfl) rfl ?_ | refine LCov.same ⟨trivial, lt_dec rfl, trivial⟩ rfl ?_ | refine LCov.same ⟨trivial, lt_dec rfl, lt_dec rfl, trivial⟩ rfl ?_ | refine LCov.same ⟨trivial, lt_dec rfl, lt_dec rfl, lt_dec rfl, trivial⟩ rfl ?_ | refine LCov.same ⟨trivial, trivial⟩ rfl ?_ | refine LCov.cons trivial rfl (.of_eq (lst_len (by simp <;> omega))) ?_)
      · repeat (first | exact HCov.nil | (refine HCov.cons (lt_dec rfl) ?_ rfl ?_ ?_; (first | exact HB.under_of rfl | exact PVs.under_pure _ _ | (simp [HB.under, PVs.under, PV.under])); (first | exact HLe.refl _ | exact HLe.vec (FLes.refl _) (by simp))))
    repeat' (first
      | apply VWp.assoc
      | apply VWp.rseq
      | apply VWp.skipSeq
      | apply VWp.retSeq
      | apply VWp.exitSeq
      | apply QSeq.normal
      | apply QBlk.exit
      | apply QLoop.exit
      | apply VOps.nil
      | apply VOps.one
      | (apply VOps.take; rfl; rfl)
      | (apply VOps.drop; rfl; rfl; rfl)
      | (apply VOps.guard; rfl; rfl)
      | (apply VVal.indexN (l := o.divs) (i := e) ; rfl ; rfl ; rfl ; exact he ; rfl)
      | (apply VVal.assign; rfl)
      | (apply VVal.move; rfl)
      | (apply VVal.int; rfl; rfl; rfl)
      | (apply VVal.load; rfl; rfl)
      | (apply VVal.pick_true; rfl; rfl)
      | (apply VVal.pick_false; rfl; rfl)
      | (apply VVal.lenF; rfl; rfl)
      | (apply VVal.lenNil; rfl; rfl)
      | (apply VVal.fieldB; rfl; rfl; rfl)
      | (apply VVal.fieldF; rfl; rfl)
      | (apply VVal.alloc; rfl)
      | (apply VVal.storeB; rfl; rfl; rfl; trivial; rfl; rfl; exact lt_dec rfl; exact le_dec rfl)
      | (apply VWp.condSeq_true; rfl)
      | (apply VWp.condSeq_dec; rfl)
      | (intro _; try (exfalso; omega)))
    all_goals first | (exfalso; omega) | contradiction | ((refine Done.ret rfl (.refl _) (by first | exact trivial | exact ⟨trivial, trivial, trivial⟩ | exact ⟨trivial, trivial, trivial, trivial⟩) HCov.nil (Nat.zero_le _) (Nat.le_refl _) ⟨?_, rfl, rfl⟩; try rfl); try simp)
  obtain ⟨m, rfl⟩ : ∃ m : Nat, n = m := ⟨n.toNat, by omega⟩
  have hp := play_spec o ho K (by omega) kok hE e m he hin
  have pok := playK_ok kok (show e < K.length by omega) (show m < 128 by omega)
  have plen : (playK K e m).length = K.length := by unfold playK; rw [List.length_set]
  have phas : ∀ i y, y < 128 → (gi (playK K e m) i).has y = ((gi K i).has y || decide (i = e ∧ y = m)) := fun i y hy => playK_has (by omega) (by omega) hy
  rw [← plen] at hp
  have hp : VFun env 36 [.agg (Enc.enc o), .lst 92 (cells K) K.length, .agg [.int .i64 (e : Int), .int .i64 (m : Int)]] (.tup [.p (.lst 92 (cells (playK K e m)) (playK K e m).length), .p (.int .i64 0)]) := by
    rw [plen] at hp ⊢; exact hp
  generalize playK K e m = Z at *
  repeat' (first
    | (refine VWp.at 10 ?_; refine VWp.ghost (Ghost.freeze 13 rfl rfl) ?_; first | apply VWp.rseq | apply VWp.rseqD)
    | apply VWp.assoc
    | apply VWp.rseq
    | apply VWp.skipSeq
    | apply VWp.blockSeq
    | apply VOps.nil
    | apply VOps.one
    | (apply VOps.take; rfl; rfl)
    | (apply VVal.fn; rfl; rfl; exact hkn; intro _; rfl)
    | (apply VVal.fn; rfl; rfl; exact hfs; intro _; rfl)
    | (apply VVal.fn; rfl; rfl; exact hm; intro _; rfl)
    | (apply VVal.fn; rfl; rfl; exact hpr; intro _; rfl)
    | (apply VVal.fn; rfl; rfl; exact hct; intro _; rfl)
    | (apply VVal.fn; rfl; rfl; exact hp; intro _; rfl)
    | (apply VVal.makeSliceL K.length (⟨0, 0⟩ : Nts) ; rfl ; rfl ; rfl ; rfl ; rfl ; omega ; omega ; omega ; decide ; decide ; rfl)
    | (apply VVal.assign; rfl)
    | (apply VVal.move; rfl)
    | (apply VVal.int; rfl; rfl; rfl)
    | (apply VVal.load; rfl; rfl)
    | (apply VVal.pick_false; rfl; rfl)
    | (apply VVal.lenF; rfl; rfl)
    | (apply VVal.fieldB; rfl; rfl; rfl)
    | (apply VVal.box; rfl; trivial)
    | (apply VVal.alloc; rfl)
    | (apply VVal.storeB; rfl; rfl; rfl; trivial; rfl; rfl; exact lt_dec rfl; exact le_dec rfl)
    | (apply VVal.not; rfl)
    | (apply VVal.extract; rfl; rfl)
    | (apply VWp.condSeq_false; rfl))
  all_goals try (exfalso; omega)
  all_goals try contradiction
  apply VWp.loopR (cs.length) [(5, _), (7, _), (8, _), (9, _), (10, _), (11, _)] [(2, _), (3, _)] (fun k r => (14, .p (.int .i64 (k : Int))) :: (13, .p (.lst 92 (cells (agK (List.replicate K.length ⟨0, 0⟩) cs k)) K.length)) :: r) (fun k r => r) 4
  · omega
  · omega
  · repeat (first | exact LCov.nil | (refine LCov.eq rfl ?_ ?_; (first | exact PV.under_of rfl | (simp [PV.under, PVs.under]; done))) | refine LCov.cons trivial rfl (.of_eq (lst_len (by simp <;> omega))) ?_)
  · repeat (first | exact HCov.nil | (refine HCov.eq rfl (lt_dec rfl) ?_ ?_; (first | exact HB.under_of rfl | exact PVs.under_pure _ _ | (simp [HB.under, PVs.under, PV.under]; done))) | (refine HCov.cons (lt_dec rfl) ?_ rfl ?_ ?_; (first | exact trivial | exact PVs.under_pure _ _ | (simp [HB.under, PVs.under, PV.under])); (first | exact HLe.refl _ | exact HLe.vec (FLes.refl _) (by simp))))
  · intro j hj
    have hr := hround j hj
    repeat' (first
      | apply VWp.assoc
      | apply VWp.rseq
      | apply VWp.rseqD
      | apply VWp.region
      | apply VWp.skipSeq
      | apply VWp.blockSeq
      | apply QSeq.normal
      | apply QBlk.normal
      | apply VOps.nil
      | apply VOpsD.nil
      | apply VOps.one
      | (apply VOpsD.bar; decide +kernel)
      | apply VOpsD.quiet
      | (apply VOps.take; rfl; rfl)
      | (apply VVal.fn; rfl; rfl; exact hr; intro _; rfl)
      | (apply VVal.assign; rfl)
      | (apply VVal.move; rfl)
      | (apply VVal.add64; rfl; rfl; omega)
      | (apply VVal.int; rfl; rfl; rfl)
      | (apply VVal.indexN; rfl; rfl; rfl; omega; rfl)
      | (apply VVal.load; rfl; rfl)
      | (apply VVal.pick_false; rfl; rfl)
      | (apply VVal.lenF; rfl; rfl)
      | (apply VVal.extract; rfl; rfl)
      | (apply VWp.condSeq_dec; rfl)
      | (intro _; try (exfalso; omega)))
    all_goals try (exfalso; omega)
    all_goals try contradiction
    refine QLoop.normal ⟨by omega, ?_, ?_⟩
    · repeat (first | exact LCov.nil | refine LCov.same trivial rfl ?_ | refine LCov.same (lt_dec rfl) rfl ?_ | refine LCov.same ⟨trivial, lt_dec rfl, trivial⟩ rfl ?_ | refine LCov.same ⟨trivial, lt_dec rfl, lt_dec rfl, trivial⟩ rfl ?_ | refine LCov.same ⟨trivial, lt_dec rfl, lt_dec rfl, lt_dec rfl, trivial⟩ rfl ?_ | refine LCov.same ⟨trivial, trivial⟩ rfl ?_ | refine LCov.cons trivial rfl (.of_eq (lst_len (by simp <;> omega))) ?_)
    · repeat (first | exact HCov.nil | (refine HCov.cons (lt_dec rfl) ?_ rfl ?_ ?_; (first | exact HB.under_of rfl | exact PVs.under_pure _ _ | (simp [HB.under, PVs.under, PV.under])); (first | exact HLe.refl _ | exact HLe.vec (FLes.refl _) (by simp))))
  rw [hal]
  repeat' (first
    | apply VWp.assoc
    | apply VWp.rseq
    | apply VWp.exitSeq
    | apply VWp.blockSeq
    | apply QSeq.normal
    | apply QBlk.exit
    | apply QLoop.exit
    | apply VOps.nil
    | apply VOps.one
    | (apply VVal.assign; rfl)
    | (apply VVal.move; rfl)
    | (apply VVal.int; rfl; rfl; rfl)
    | (apply VVal.lenF; rfl; rfl)
    | (apply VWp.condSeq_dec; rfl)
    | (intro _; try (exfalso; omega)))
  all_goals try (exfalso; omega)
  all_goals try contradiction
  apply VWp.loopR (K.length) [(5, _), (7, _), (8, _), (9, _), (10, _), (13, _)] [(2, _), (3, _)] (fun k r => (17, .p (.int .i64 (k : Int))) :: r) (fun k r => r) 4
  · omega
  · omega
  · repeat (first | exact LCov.nil | (refine LCov.eq rfl ?_ ?_; (first | exact PV.under_of rfl | (simp [PV.under, PVs.under]; done))) | refine LCov.cons trivial rfl (.of_eq (lst_len (by simp <;> omega))) ?_)
  · repeat (first | exact HCov.nil | (refine HCov.eq rfl (lt_dec rfl) ?_ ?_; (first | exact HB.under_of rfl | exact PVs.under_pure _ _ | (simp [HB.under, PVs.under, PV.under]; done))) | (refine HCov.cons (lt_dec rfl) ?_ rfl ?_ ?_; (first | exact trivial | exact PVs.under_pure _ _ | (simp [HB.under, PVs.under, PV.under])); (first | exact HLe.refl _ | exact HLe.vec (FLes.refl _) (by simp))))
  · intro j hj
    repeat' (first
      | apply VWp.assoc
      | apply VWp.rseq
      | apply VWp.rseqD
      | apply VWp.region
      | apply VWp.skipSeq
      | apply VWp.blockSeq
      | apply QSeq.normal
      | apply QBlk.normal
      | apply VWp.skip
      | apply VOps.nil
      | apply VOpsD.nil
      | apply VOps.one
      | (apply VOpsD.bar; decide +kernel)
      | apply VOpsD.quiet
      | (apply VVal.neSt1 ; rfl ; rfl ; exact freeNts ; exact eqNtsR _)
      | (apply VVal.assign; rfl)
      | (apply VVal.move; rfl)
      | (apply VVal.add64; rfl; rfl; omega)
      | (apply VVal.int; rfl; rfl; rfl)
      | (apply VVal.indexN; rfl; rfl; rfl; omega; rfl)
      | (apply VVal.load; rfl; rfl)
      | (apply VVal.lenF; rfl; rfl)
      | (apply VWp.condSeq_dec; rfl)
      | (apply VWp.cond_false; rfl)
      | (intro _; try (exfalso; omega)))
    all_goals try (exfalso; omega)
    all_goals try contradiction
    refine QLoop.normal ⟨by omega, ?_, ?_⟩
    · repeat (first | exact LCov.nil | refine LCov.same trivial rfl ?_ | refine LCov.same (lt_dec rfl) rfl ?_ | refine LCov.same ⟨trivial, lt_dec rfl, trivial⟩ rfl ?_ | refine LCov.same ⟨trivial, lt_dec rfl, lt_dec rfl, trivial⟩ rfl ?_ | refine LCov.same ⟨trivial, lt_dec rfl, lt_dec rfl, lt_dec rfl, trivial⟩ rfl ?_ | refine LCov.same ⟨trivial, trivial⟩ rfl ?_ | refine LCov.cons trivial rfl (.of_eq (lst_len (by simp <;> omega))) ?_)
    · repeat (first | exact HCov.nil | (refine HCov.cons (lt_dec rfl) ?_ rfl ?_ ?_; (first | exact HB.under_of rfl | exact PVs.under_pure _ _ | (simp [HB.under, PVs.under, PV.under])); (first | exact HLe.refl _ | exact HLe.vec (FLes.refl _) (by simp))))
  repeat' (first
    | apply VWp.assoc
    | apply VWp.rseq
    | apply VWp.skipSeq
    | apply VWp.exitSeq
    | apply VWp.blockSeq
    | apply QSeq.normal
    | apply QBlk.exit
    | apply QLoop.exit
    | apply VOps.nil
    | apply VOps.one
    | (apply VOps.take; rfl; rfl)
    | (apply VOps.guard; rfl; rfl)
    | (apply VVal.indexN (l := o.divs) (i := e) ; rfl ; rfl ; rfl ; exact he ; rfl)
    | (apply VVal.assign; rfl)
    | (apply VVal.move; rfl)
    | (apply VVal.int; rfl; rfl; rfl)
    | (apply VVal.load; rfl; rfl)
    | (apply VVal.pick_false; rfl; rfl)
    | (apply VVal.lenF; rfl; rfl)
    | (apply VVal.fieldB; rfl; rfl; rfl)
    | (apply VVal.fieldF; rfl; rfl)
    | (apply VVal.alloc; rfl)
    | (apply VVal.storeB; rfl; rfl; rfl; trivial; rfl; rfl; exact lt_dec rfl; exact le_dec rfl)
    | (apply VWp.condSeq_dec; rfl)
    | (intro _; try (exfalso; omega)))
  all_goals try (exfalso; omega)
  all_goals try contradiction
  apply VWp.loopR (K.length) [(5, _), (8, _), (9, _)] [(2, _)] (fun k r => (19, .p (.int .i64 (k : Int))) :: r) (fun k r => r) 5
  · omega
  · omega
  · repeat (first | exact LCov.nil | (refine LCov.eq rfl ?_ ?_; (first | exact PV.under_of rfl | (simp [PV.under, PVs.under]; done))) | refine LCov.cons trivial rfl (.of_eq (lst_len (by simp <;> omega))) ?_)
  · repeat (first | exact HCov.nil | (refine HCov.eq rfl (lt_dec rfl) ?_ ?_; (first | exact HB.under_of rfl | exact PVs.under_pure _ _ | (simp [HB.under, PVs.under, PV.under]; done))) | (refine HCov.cons (lt_dec rfl) ?_ rfl ?_ ?_; (first | exact trivial | exact PVs.under_pure _ _ | (simp [HB.under, PVs.under, PV.under])); (first | exact HLe.refl _ | exact HLe.vec (FLes.refl _) (by simp))))
  · intro i hi
    have ki := kok i hi
    have zi := pok i (by omega)
    repeat' (first
      | apply VWp.assoc
      | apply VWp.rseq
      | apply VWp.skipSeq
      | apply VWp.blockSeq
      | apply VWp.blockQ
      | apply VOps.nil
      | apply VOps.one
      | (apply VVal.assign; rfl)
      | (apply VVal.move; rfl)
      | (apply VVal.int; rfl; rfl; rfl)
      | (apply VVal.lenF; rfl; rfl)
      | (apply VWp.condSeq_dec; rfl)
      | (intro _; try (exfalso; omega)))
    all_goals try (exfalso; omega)
    apply VWp.loopR (128) [(5, _), (8, _), (9, _), (19, _)] [(2, _)] (fun k_ r => (20, .p (.int .i64 (k_ : Int))) :: r) (fun k_ r => r) 5
    · omega
    · omega
    · repeat (first | exact LCov.nil | (refine LCov.eq rfl ?_ ?_; (first | exact PV.under_of rfl | (simp [PV.under, PVs.under]; done))) | refine LCov.cons trivial rfl (.of_eq (lst_len (by simp <;> omega))) ?_)
    · repeat (first | exact HCov.nil | (refine HCov.eq rfl (lt_dec rfl) ?_ ?_; (first | exact HB.under_of rfl | exact PVs.under_pure _ _ | (simp [HB.under, PVs.under, PV.under]; done))) | (refine HCov.cons (lt_dec rfl) ?_ rfl ?_ ?_; (first | exact trivial | exact PVs.under_pure _ _ | (simp [HB.under, PVs.under, PV.under])); (first | exact HLe.refl _ | exact HLe.vec (FLes.refl _) (by simp))))
    · intro y hy
      have h1 := has3_spec (gi K i) ki y hy
      have h2 := has3_spec (gi Z i) zi y hy
      rw [phas i y hy] at h2
      cases hb : (gi K i).has y with
      | true =>
        rw [hb] at h1 h2
        rw [Bool.true_or] at h2
        repeat' (first
          | apply VWp.assoc
          | apply VWp.rseq
          | apply VWp.rseqD
          | apply VWp.region
          | apply VWp.skipSeq
          | apply VWp.blockSeq
          | apply QSeq.normal
          | apply QBlk.normal
          | apply VWp.skip
          | apply VOps.nil
          | apply VOpsD.nil
          | apply VOps.one
          | (apply VOpsD.bar; decide +kernel)
          | apply VOpsD.quiet
          | (apply VOpsD.drop; rfl; rfl; rfl)
          | (apply VOpsD.dropU; rfl; rfl)
          | (apply VVal.fn; rfl; rfl; exact h2; intro _; rfl)
          | (apply VVal.fn; rfl; rfl; exact h1; intro _; rfl)
          | (apply VVal.assign; rfl)
          | (apply VVal.move; rfl)
          | (apply VVal.add64; rfl; rfl; omega)
          | (apply VVal.int; rfl; rfl; rfl)
          | (apply VVal.indexN; rfl; rfl; rfl; omega; rfl)
          | (apply VVal.load; rfl; rfl)
          | (apply VVal.pick_true; rfl; rfl)
          | (apply VVal.neB; rfl; rfl; rfl)
          | (apply VWp.condSeq_dec; rfl)
          | (apply VWp.cond_false; rfl)
          | (intro _; try (exfalso; omega)))
        all_goals try (exfalso; omega)
        all_goals try contradiction
        refine QLoop.normal ⟨by omega, ?_, ?_⟩
        · repeat (first | exact LCov.nil | refine LCov.same trivial rfl ?_ | refine LCov.same (lt_dec rfl) rfl ?_ | refine LCov.same ⟨trivial, lt_dec rfl, trivial⟩ rfl ?_ | refine LCov.same ⟨trivial, lt_dec rfl, lt_dec rfl, trivial⟩ rfl ?_ | refine LCov.same ⟨trivial, lt_dec rfl, lt_dec rfl, lt_dec rfl, trivial⟩ rfl ?_ | refine LCov.same ⟨trivial, trivial⟩ rfl ?_ | refine LCov.cons trivial rfl (.of_eq (lst_len (by simp <;> omega))) ?_)
        · repeat (first | exact HCov.nil | (refine HCov.cons (lt_dec rfl) ?_ rfl ?_ ?_; (first | exact HB.under_of rfl | exact PVs.under_pure _ _ | (simp [HB.under, PVs.under, PV.under])); (first | exact HLe.refl _ | exact HLe.vec (FLes.refl _) (by simp))))
      | false =>
        rw [hb] at h1 h2
        rw [Bool.false_or] at h2
        by_cases e1 : i = e
        · by_cases e2 : y = m
          · rw [decide_eq_true ⟨e1, e2⟩] at h2
            repeat' (first
              | apply VWp.assoc
              | apply VWp.rseq
              | apply VWp.rseqD
              | apply VWp.region
              | apply VWp.skipSeq
              | apply VWp.blockSeq
              | apply QSeq.normal
              | apply QSeq.ret
              | apply QBlk.normal
              | apply QBlk.ret
              | apply QLoop.ret
              | apply VWp.ret
              | apply VWp.skip
              | apply VOps.nil
              | apply VOpsD.nil
              | apply VOps.one
              | (apply VOpsD.bar; decide +kernel)
              | apply VOpsD.quiet
              | (apply VOpsD.quietTake; rfl; rfl)
              | (apply VOpsD.guard; rfl; rfl)
              | (apply VVal.fn; rfl; rfl; exact h2; intro _; rfl)
              | (apply VVal.fn; rfl; rfl; exact h1; intro _; rfl)
              | (apply VVal.assign; rfl)
              | (apply VVal.move; rfl)
              | (apply VVal.add64; rfl; rfl; omega)
              | (apply VVal.int; rfl; rfl; rfl)
              | (apply VVal.indexN; rfl; rfl; rfl; omega; rfl)
              | (apply VVal.load; rfl; rfl)
              | (apply VVal.pick_true; rfl; rfl)
              | (apply VVal.pick_false; rfl; rfl)
              | (apply VVal.fieldB; rfl; rfl; rfl)
              | (apply VVal.neB; rfl; rfl; rfl)
              | (apply VWp.condSeq_dec; rfl)
              | (apply VWp.cond; rfl)
              | (intro _; try (exfalso; omega)))
            all_goals try (exfalso; omega)
            all_goals try contradiction
            all_goals try (exfalso; rename_i hh; simp [e2] at hh; done)
            all_goals try (exfalso; rename_i hh; simp at hh; omega)
            refine QLoop.normal ⟨by omega, ?_, ?_⟩
            · repeat (first | exact LCov.nil | refine LCov.same trivial rfl ?_ | refine LCov.same (lt_dec rfl) rfl ?_ | refine LCov.same ⟨trivial, lt_dec rfl, trivial⟩ rfl ?_ | refine LCov.same ⟨trivial, lt_dec rfl, lt_dec rfl, trivial⟩ rfl ?_ | refine LCov.same ⟨trivial, lt_dec rfl, lt_dec rfl, lt_dec rfl, trivial⟩ rfl ?_ | refine LCov.same ⟨trivial, trivial⟩ rfl ?_ | refine LCov.cons trivial rfl (.of_eq (lst_len (by simp <;> omega))) ?_)
            · repeat (first | exact HCov.nil | (refine HCov.cons (lt_dec rfl) ?_ rfl ?_ ?_; (first | exact HB.under_of rfl | exact PVs.under_pure _ _ | (simp [HB.under, PVs.under, PV.under])); (first | exact HLe.refl _ | exact HLe.vec (FLes.refl _) (by simp))))
          · rw [decide_eq_false (fun h => e2 h.2)] at h2
            repeat' (first
              | apply VWp.assoc
              | apply VWp.rseq
              | apply VWp.rseqD
              | apply VWp.region
              | apply VWp.skipSeq
              | apply VWp.blockSeq
              | apply QSeq.normal
              | apply QSeq.ret
              | apply QBlk.normal
              | apply QBlk.ret
              | apply QLoop.ret
              | apply VWp.ret
              | apply VWp.skip
              | apply VOps.nil
              | apply VOpsD.nil
              | apply VOps.one
              | (apply VOpsD.bar; decide +kernel)
              | apply VOpsD.quiet
              | (apply VOpsD.quietTake; rfl; rfl)
              | (apply VOpsD.guard; rfl; rfl)
              | (apply VVal.fn; rfl; rfl; exact h2; intro _; rfl)
              | (apply VVal.fn; rfl; rfl; exact h1; intro _; rfl)
              | (apply VVal.assign; rfl)
              | (apply VVal.move; rfl)
              | (apply VVal.add64; rfl; rfl; omega)
              | (apply VVal.int; rfl; rfl; rfl)
              | (apply VVal.indexN; rfl; rfl; rfl; omega; rfl)
              | (apply VVal.load; rfl; rfl)
              | (apply VVal.pick_true; rfl; rfl)
              | (apply VVal.pick_false; rfl; rfl)
              | (apply VVal.fieldB; rfl; rfl; rfl)
              | (apply VVal.neB; rfl; rfl; rfl)
              | (apply VWp.condSeq_dec; rfl)
              | (apply VWp.cond; rfl)
              | (intro _; try (exfalso; omega)))
            all_goals try (exfalso; omega)
            all_goals try contradiction
            all_goals try (exfalso; rename_i hh; simp [e2] at hh; done)
            all_goals try (exfalso; rename_i hh; simp at hh; omega)
            refine QLoop.normal ⟨by omega, ?_, ?_⟩
            · repeat (first | exact LCov.nil | refine LCov.same trivial rfl ?_ | refine LCov.same (lt_dec rfl) rfl ?_ | refine LCov.same ⟨trivial, lt_dec rfl, trivial⟩ rfl ?_ | refine LCov.same ⟨trivial, lt_dec rfl, lt_dec rfl, trivial⟩ rfl ?_ | refine LCov.same ⟨trivial, lt_dec rfl, lt_dec rfl, lt_dec rfl, trivial⟩ rfl ?_ | refine LCov.same ⟨trivial, trivial⟩ rfl ?_ | refine LCov.cons trivial rfl (.of_eq (lst_len (by simp <;> omega))) ?_)
            · repeat (first | exact HCov.nil | (refine HCov.cons (lt_dec rfl) ?_ rfl ?_ ?_; (first | exact HB.under_of rfl | exact PVs.under_pure _ _ | (simp [HB.under, PVs.under, PV.under])); (first | exact HLe.refl _ | exact HLe.vec (FLes.refl _) (by simp))))
        · rw [decide_eq_false (fun h => e1 h.1)] at h2
          repeat' (first
            | apply VWp.assoc
            | apply VWp.rseq
            | apply VWp.rseqD
            | apply VWp.region
            | apply VWp.skipSeq
            | apply VWp.blockSeq
            | apply QSeq.normal
            | apply QBlk.normal
            | apply VWp.skip
            | apply VOps.nil
            | apply VOpsD.nil
            | apply VOps.one
            | (apply VOpsD.bar; decide +kernel)
            | apply VOpsD.quiet
            | (apply VOpsD.quietTake; rfl; rfl)
            | (apply VOpsD.drop; rfl; rfl; rfl)
            | (apply VOpsD.guard; rfl; rfl)
            | (apply VVal.fn; rfl; rfl; exact h2; intro _; rfl)
            | (apply VVal.fn; rfl; rfl; exact h1; intro _; rfl)
            | (apply VVal.assign; rfl)
            | (apply VVal.move; rfl)
            | (apply VVal.add64; rfl; rfl; omega)
            | (apply VVal.int; rfl; rfl; rfl)
            | (apply VVal.indexN; rfl; rfl; rfl; omega; rfl)
            | (apply VVal.load; rfl; rfl)
            | (apply VVal.pick_false; rfl; rfl)
            | (apply VVal.fieldB; rfl; rfl; rfl)
            | (apply VVal.neB; rfl; rfl; rfl)
            | (apply VWp.condSeq_dec; rfl)
            | (apply VWp.cond_false; rfl)
            | (intro _; try (exfalso; omega)))
          all_goals try (exfalso; omega)
          all_goals try contradiction
          refine QLoop.normal ⟨by omega, ?_, ?_⟩
          · repeat (first | exact LCov.nil | refine LCov.same trivial rfl ?_ | refine LCov.same (lt_dec rfl) rfl ?_ | refine LCov.same ⟨trivial, lt_dec rfl, trivial⟩ rfl ?_ | refine LCov.same ⟨trivial, lt_dec rfl, lt_dec rfl, trivial⟩ rfl ?_ | refine LCov.same ⟨trivial, lt_dec rfl, lt_dec rfl, lt_dec rfl, trivial⟩ rfl ?_ | refine LCov.same ⟨trivial, trivial⟩ rfl ?_ | refine LCov.cons trivial rfl (.of_eq (lst_len (by simp <;> omega))) ?_)
          · repeat (first | exact HCov.nil | (refine HCov.cons (lt_dec rfl) ?_ rfl ?_ ?_; (first | exact HB.under_of rfl | exact PVs.under_pure _ _ | (simp [HB.under, PVs.under, PV.under])); (first | exact HLe.refl _ | exact HLe.vec (FLes.refl _) (by simp))))
    · repeat' (first
        | apply VWp.assoc
        | apply VWp.rseq
        | apply VWp.region
        | apply VWp.exitSeq
        | apply QSeq.normal
        | apply QBlk.normal
        | apply QBlk.exit
        | apply QLoop.exit
        | apply VOps.nil
        | apply VOps.one
        | (apply VVal.assign; rfl)
        | (apply VVal.move; rfl)
        | (apply VVal.add64; rfl; rfl; omega)
        | (apply VVal.int; rfl; rfl; rfl)
        | (apply VWp.condSeq_false; rfl))
      all_goals try (exfalso; omega)
      refine QLoop.normal ⟨by omega, ?_, ?_⟩
      · repeat (first | exact LCov.nil | refine LCov.same trivial rfl ?_ | refine LCov.same (lt_dec rfl) rfl ?_ | refine LCov.same ⟨trivial, lt_dec rfl, trivial⟩ rfl ?_ | refine LCov.same ⟨trivial, lt_dec rfl, lt_dec rfl, trivial⟩ rfl ?_ | refine LCov.same ⟨trivial, lt_dec rfl, lt_dec rfl, lt_dec rfl, trivial⟩ rfl ?_ | refine LCov.same ⟨trivial, trivial⟩ rfl ?_ | refine LCov.cons trivial rfl (.of_eq (lst_len (by simp <;> omega))) ?_)
      · repeat (first | exact HCov.nil | (refine HCov.cons (lt_dec rfl) ?_ rfl ?_ ?_; (first | exact HB.under_of rfl | exact PVs.under_pure _ _ | (simp [HB.under, PVs.under, PV.under])); (first | exact HLe.refl _ | exact HLe.vec (FLes.refl _) (by simp))))
  · repeat' (first
      | apply VWp.assoc
      | apply VWp.rseq
      | apply VWp.exitSeq
      | apply QSeq.normal
      | apply QBlk.exit
      | apply QLoop.exit
      | apply VWp.ret
      | apply VOps.nil
      | apply VOps.one
      | (apply VVal.assign; rfl)
      | (apply VVal.move; rfl)
      | (apply VVal.int; rfl; rfl; rfl)
      | (apply VVal.lenF; rfl; rfl)
      | (apply VWp.condSeq_dec; rfl)
      | (intro _; try (exfalso; omega)))
    all_goals first | (exfalso; omega) | contradiction | ((refine Done.ret rfl (.refl _) (by first | exact trivial | exact ⟨trivial, trivial, trivial⟩ | exact ⟨trivial, trivial, trivial, trivial⟩) HCov.nil (Nat.zero_le _) (Nat.le_refl _) ⟨?_, rfl, rfl⟩; try rfl); try simp)
end Go.Proofs.YtcnlhgmkelkikaaGreatDoor

