/-
  The values' layer: rules for loops, regions, calls. No condition. Nothing of one program stands here.
-/
import Derived.Test.YtmfnchgkffhpfaaDoorVm2
namespace Go.Vm
open Go.Am
variable {E : Env} {bn : Nat} {L : Frame} {H : Heap} {nx : Nat} {Q : AExit → Frame → Heap → Nat → Prop}

theorem VWp.weaken {c : Code} {L0 : Frame} {H0 : Heap} {nx0 : Nat} (hb : bn ≤ nx0) (hc : Cov L H nx L0 H0 nx0) (h : VWp E bn c L0 H0 nx0 Q) : VWp E bn c L H nx Q :=
  fun B hB m F σ t h1 h2 h3 => h B hB m F σ t (hc.ctx h1) (hc.rl h2) (hc.step (by omega) h3)

theorem VWp.loop {α : Type} {b : Code} (Lf : α → Frame) (Hf : α → Heap) (nx0 : Nat) (inv : α → Prop) (μ : α → Nat) (a0 : α) (hb : bn ≤ nx0) (h0 : inv a0) (hc : Cov L H nx (Lf a0) (Hf a0) nx0)
    (hs : ∀ a, inv a → VWp E bn b (Lf a) (Hf a) nx0 fun e L' H' nx' => match e with | .normal => ∃ a', inv a' ∧ μ a' < μ a ∧ Cov L' H' nx' (Lf a') (Hf a') nx0 | .ret => Q .ret L' H' nx' | .exit i => Q (.exit i) L' H' nx') :
    VWp E bn (.loop b) L H nx Q := by
  intro B hB m F σ t h1 h2 h3
  refine AWp.loop (fun n s => ∃ a F σ, inv a ∧ μ a = n ∧ Ctx E.Γ s.m F σ (Hf a) nx0 ∧ RL s.m F (htag (Hf a)) σ nx0 (Lf a) s.t ∧ B.to s.m F σ (Hf a) nx0) (μ a0) ⟨a0, F, σ, h0, rfl, hc.ctx h1, hc.rl h2, hc.step (by omega) h3⟩ ?_
  rintro n s ⟨a, F1, σ1, ha, rfl, c1, c2, c3⟩
  refine (hs a ha B hB s.m F1 σ1 s.t c1 c2 c3).mono ?_
  rintro e s' ⟨L', H', nx', F', σ', q, d1, d2, d3⟩
  cases e with
  | normal =>
    obtain ⟨a', i1, i2, i3⟩ := q
    exact ⟨_, i2, a', F', σ', i1, rfl, i3.ctx d1, i3.rl d2, i3.step (by omega) d3⟩
  | ret => exact ⟨L', H', nx', F', σ', q, d1, d2, d3⟩
  | exit i => exact ⟨L', H', nx', F', σ', q, d1, d2, d3⟩

/-! ## Regions -/
section
variable {ops : Array Oper} {o : Oper} {l : List Oper} {i : Nat} {R : Frame → Heap → Nat → Prop}

theorem VOps.nil (h : R L H nx) : VOps E bn ops [] L H nx R := fun _ _ _ F σ _ h1 h2 h3 => AOps.nil ⟨L, H, nx, F, σ, h, h1, h2, h3⟩
theorem VOpsD.nil (h : R L H nx) : VOpsD E bn ops i [] L H nx R := fun _ _ _ F σ _ h1 h2 h3 => AOpsD.nil ⟨L, H, nx, F, σ, h, h1, h2, h3⟩

/-- the guard, decided -/
def guardIs (ops : Array Oper) (L : Frame) (o : Oper) (w : Bool) : Prop :=
  match o.guard with
  | none => w = true
  | some (j, want) => ∃ b d, (ops[j]?).bind (·.dst) = some d ∧ lget L d = some (.p (.bool b)) ∧ w = (b == want)

theorem guardIs.wanted {Γ : Nat → Option (List Value × TypeId)} {m : Mem} {F : Nat → Prop} {σ : Nat → Value} {t : Tr Value} {w : Bool} (hx : Ctx Γ m F σ H nx) (hl : RL m F (htag H) σ nx L t) (h : guardIs ops L o w) : Region.wanted o (ayielded ops t) = w := by
  unfold guardIs at h
  unfold Region.wanted
  split at h
  · rename_i hg; rw [hg]; exact h.symm
  · rename_i j want hg
    obtain ⟨b, d, h1, h2, h3⟩ := h
    have hb : tget t d = .bool b := vev_bool (o := .tmp d) hx hl h2
    rw [hg]
    simp only [ayielded, h1, hb, h3]
    cases b <;> cases want <;> rfl

theorem VOps.cons (hg : guardIs ops L o true) (h : VVal E true o L H nx fun r H' nx' => VOps E bn ops l (lput L o.dst r) H' nx' R) : VOps E bn ops (o :: l) L H nx R := by
  intro B hB m F σ t h1 h2 h3
  refine AOps.cons (hg.wanted h1 h2) ((h m F σ t h1 h2).mono ?_)
  rintro v m' ⟨r, H', nx', F', σ', q, c1, c2, c3, _⟩
  exact q B hB m' F' σ' _ c1 ((h2.step c3 h1).put c2) (h3.trans c3)

theorem VOps.skip (hg : guardIs ops L o false) (h : VOps E bn ops l (lput L o.dst (.tup [])) H nx R) : VOps E bn ops (o :: l) L H nx R := by
  intro B hB m F σ t h1 h2 h3
  refine AOps.skip (hg.wanted h1 h2) (h B hB m F σ _ h1 (h2.put ?_) h3)
  exact .tup .nil

theorem at_fz (m : Mem) (k : Nat) (F : Nat → Prop) : ∀ c, F c → F c ∧ (m.at k).get c = m.get c := fun _ hc => ⟨hc, rfl⟩
/-- what is related stays so when the mark alone is set anew -/
theorem RL.at {Γ : Nat → Option (List Value × TypeId)} {m : Mem} {F : Nat → Prop} {T : Nat → Option Tg} {σ : Nat → Value} {t : Tr Value} (k : Nat) (h : RL m F T σ nx L t) : RL (m.at k) F T σ nx L t :=
  fun i v hi => (h i v hi).mono (at_fz m k F) (Names.refl _ _ _) (Nat.le_refl _)
theorem Ctx.at {Γ : Nat → Option (List Value × TypeId)} {m : Mem} {F : Nat → Prop} {σ : Nat → Value} (k : Nat) (h : Ctx Γ m F σ H nx) : Ctx Γ (m.at k) F σ H nx where
  fr := h.fr
  hp b x hb := by
    obtain ⟨h1, h2⟩ := h.hp b x hb
    refine ⟨h1, ?_⟩
    cases x with
    | box e cs => obtain ⟨c, vs, r1, r2, r3, r4, r5, r6⟩ := h2; exact ⟨c, vs, r1, r2, r3, r4, r5.mono (at_fz m k F) (Names.refl _ _ _) (Nat.le_refl _), r6⟩
    | vec e cs n z =>
      rcases h2 with h2 | ⟨c, g, vs, r1, r2, r3, r4, r5, r6⟩
      · exact .inl h2
      · exact .inr ⟨c, g, vs, r1, r2, r3, r4, r5.mono (at_fz m k F), r6⟩
    | map es => obtain ⟨r, l, clock, r1, r2, r3, r4, r5, r6⟩ := h2; exact ⟨r, l, clock, r1, r2, r3, r4, r5.mono (at_fz m k F), r6.mono (at_fz m k F)⟩
  sep := h.sep
  gl := h.gl

theorem Step.at {m m' : Mem} {F F' : Nat → Prop} {σ σ' : Nat → Value} {H H' : Heap} {nx nx' : Nat} (h : Step (m.at m.size) F σ H nx m' F' σ' H' nx') : Step m F σ H nx (m'.at (min m.low m'.low)) F' σ' H' nx' where
  size := h.size
  keep := h.keep
  fmono := h.fmono
  fback := h.fback
  oback := h.oback
  nxle := h.nxle
  names := h.names
  low k h1 h2 h3 := by
    have := h.low k h2 h2 h3
    simp only [Mem.at_low]
    omega

theorem Step.at0 (m : Mem) (k : Nat) (F : Nat → Prop) (σ : Nat → Value) (H : Heap) (nx : Nat) (hk : min m.low m.size ≤ k) : Step m F σ H nx (m.at k) F σ H nx where
  size := Nat.le_refl _
  keep _ _ _ := rfl
  fmono _ h := h
  fback _ _ h := .inl h
  oback _ _ h := h
  nxle := Nat.le_refl _
  names := Names.refl _ _ _
  low j h1 h2 _ := by simp only [Mem.at_low]; omega

theorem VOpsD.cons {w : Bool} (hg : guardIs ops L o true) (hw : barrier ops i = w) (h : VVal E w o L H nx fun r H' nx' => VOpsD E bn ops (i + 1) l (lput L o.dst r) H' nx' R) : VOpsD E bn ops i (o :: l) L H nx R := by
  intro B hB m F σ t h1 h2 h3
  refine AOpsD.cons (hg.wanted h1 h2) ((h (m.at m.size) F σ t (h1.at _) (RL.at (Γ := E.Γ) _ h2)).mono ?_)
  rintro v m' ⟨r, H', nx', F', σ', q, c1, c2, c3, c4⟩
  refine ⟨?_, ?_⟩
  · cases w with
    | true => exact .inl hw
    | false => exact .inr (c4 rfl m.size (Nat.le_refl _) (Nat.le_refl _))
  · refine q B hB _ F' σ' _ (c1.at _) (RL.at (Γ := E.Γ) _ (((RL.at (Γ := E.Γ) _ h2).step c3 (h1.at _)).put c2)) (h3.trans c3.at)

theorem VOpsD.skip (hg : guardIs ops L o false) (h : VOpsD E bn ops (i + 1) l (lput L o.dst (.tup [])) H nx R) : VOpsD E bn ops i (o :: l) L H nx R := by
  intro B hB m F σ t h1 h2 h3
  refine AOpsD.skip (hg.wanted h1 h2) (h B hB _ F σ _ (h1.at _) (RL.at (Γ := E.Γ) _ (h2.put (.tup .nil))) (h3.trans (Step.at0 _ _ _ _ _ _ (Nat.le_refl _))))

/-- a guard that is not decided yet -/
theorem VOps.split {j d : Nat} {want : Bool} {p : Prop} {_ : Decidable p} (hg : o.guard = some (j, want)) (hd : (ops[j]?).bind (·.dst) = some d) (hb : lget L d = some (.p (.bool (decide p))))
    (ht : p → VOps E bn ops (o :: l) ((d, .p (.bool true)) :: L) H nx R) (hf : ¬ p → VOps E bn ops (o :: l) ((d, .p (.bool false)) :: L) H nx R) : VOps E bn ops (o :: l) L H nx R := by
  have key : ∀ b, decide p = b → VOps E bn ops (o :: l) ((d, .p (.bool b)) :: L) H nx R → VOps E bn ops (o :: l) L H nx R := by
    intro b he h B hB m F σ t h1 h2 h3
    refine h B hB m F σ t h1 (fun k x hk => ?_) h3
    rw [lget_cons] at hk
    by_cases e : d = k
    · rw [if_pos e] at hk
      cases hk
      subst e
      have := h2 d _ hb
      rw [he] at this
      exact this
    · rw [if_neg e] at hk; exact h2 k x hk
  by_cases h : p
  · exact key true (decide_eq_true h) (ht h)
  · exact key false (decide_eq_false h) (hf h)
theorem VOpsD.split {j d : Nat} {want : Bool} {p : Prop} {_ : Decidable p} (hg : o.guard = some (j, want)) (hd : (ops[j]?).bind (·.dst) = some d) (hb : lget L d = some (.p (.bool (decide p))))
    (ht : p → VOpsD E bn ops i (o :: l) ((d, .p (.bool true)) :: L) H nx R) (hf : ¬ p → VOpsD E bn ops i (o :: l) ((d, .p (.bool false)) :: L) H nx R) : VOpsD E bn ops i (o :: l) L H nx R := by
  have key : ∀ b, decide p = b → VOpsD E bn ops i (o :: l) ((d, .p (.bool b)) :: L) H nx R → VOpsD E bn ops i (o :: l) L H nx R := by
    intro b he h B hB m F σ t h1 h2 h3
    refine h B hB m F σ t h1 (fun k x hk => ?_) h3
    rw [lget_cons] at hk
    by_cases e : d = k
    · rw [if_pos e] at hk
      cases hk
      subst e
      have := h2 d _ hb
      rw [he] at this
      exact this
    · rw [if_neg e] at hk; exact h2 k x hk
  by_cases h : p
  · exact key true (decide_eq_true h) (ht h)
  · exact key false (decide_eq_false h) (hf h)
end

/-! ## Loading -/
def takeF {α : Type} : Nat → List α → Option (List α)
  | 0, _ => some []
  | _ + 1, [] => none
  | n + 1, a :: l => (takeF n l).map (a :: ·)

/-- all pure? -/
def allP : List PV → Option (List FV)
  | [] => some []
  | .p x :: l => (allP l).map (x :: ·)
  | _ :: _ => none
def mkAgg (l : List PV) : PV := match allP l with
  | some fs => .p (.agg fs)
  | none => .agg l

def loadF (P : Program) (t : TypeId) (cs : List FV) : Option FV :=
  match isAggT P t with
  | some false => cs.head?
  | some true => match P.info? t with
    | some i => (takeF i.size cs).map .agg
    | none => none
  | none => none
def loadP (P : Program) (t : TypeId) (cs : List PV) : Option PV :=
  match isAggT P t with
  | some false => cs.head?
  | some true => match P.info? t with
    | some i => (takeF i.size cs).map mkAgg
    | none => none
  | none => none

def vload (P : Program) (t : TypeId) (H : Heap) : PV → Option PV
  | .p (.cptr cs) => (loadF P t cs).map .p
  | .ref b off => match hget H b with
    | some (.box _ cs) => loadP P t (cs.drop off)
    | _ => none
  | .eref b tag off => match hget H b with
    | some (.vec _ cs n _) => match Nat.decEq tag n with
      | .isTrue _ => (loadF P t (cs.drop off)).map .p
      | .isFalse _ => none
    | _ => none
  | _ => none

theorem takeF_takeN {m : Mem} {F : Nat → Prop} : ∀ {n : Nat} {cs : List FV} {ws : List Value} {l : List FV}, RFs m F cs ws → takeF n cs = some l → ∃ w, takeN n ws = some w ∧ RFs m F l w
  | 0, _, _, _, _, h => by cases h; exact ⟨[], by simp [takeN], .nil⟩
  | n + 1, [], _, _, _, h => by cases h
  | n + 1, c :: cs, _, l, .cons h t, hl => by
    simp only [takeF, Option.map_eq_some_iff] at hl
    obtain ⟨l', h1, rfl⟩ := hl
    obtain ⟨w, h2, h3⟩ := takeF_takeN t h1
    refine ⟨_ :: w, ?_, .cons h h3⟩
    unfold takeN at h2 ⊢
    split at h2
    · rename_i hn
      cases h2
      simp [hn]
    · cases h2

section
variable {m : Mem} {F : Nat → Prop} {T : Nat → Option Tg} {σ : Nat → Value} {n' : Nat}
theorem takeF_takeNP : ∀ {n : Nat} {cs : List PV} {ws : List Value} {l : List PV}, RPs m F T σ n' cs ws → takeF n cs = some l → ∃ w, takeN n ws = some w ∧ RPs m F T σ n' l w
  | 0, _, _, _, _, h => by cases h; exact ⟨[], by simp [takeN], .nil⟩
  | n + 1, [], _, _, _, h => by cases h
  | n + 1, c :: cs, _, l, .cons h t, hl => by
    simp only [takeF, Option.map_eq_some_iff] at hl
    obtain ⟨l', h1, rfl⟩ := hl
    obtain ⟨w, h2, h3⟩ := takeF_takeNP t h1
    refine ⟨_ :: w, ?_, .cons h h3⟩
    unfold takeN at h2 ⊢
    split at h2
    · rename_i hn
      cases h2
      simp [hn]
    · cases h2

theorem RFs.drop : ∀ {cs : List FV} {vs : List Value} (k : Nat), RFs m F cs vs → RFs m F (cs.drop k) (vs.drop k)
  | _, _, 0, h => h
  | _, _, _ + 1, .nil => .nil
  | _, _, k + 1, .cons _ t => RFs.drop k t
theorem RPs.drop : ∀ {cs : List PV} {vs : List Value} (k : Nat), RPs m F T σ n' cs vs → RPs m F T σ n' (cs.drop k) (vs.drop k)
  | _, _, 0, h => h
  | _, _, _ + 1, .nil => .nil
  | _, _, k + 1, .cons _ t => RPs.drop k t

theorem allP_rel : ∀ {l : List PV} {fs : List FV} {vs : List Value}, allP l = some fs → RPs m F T σ n' l vs → RFs m F fs vs
  | [], _, _, h, .nil => by cases h; exact .nil
  | .p x :: l, _, _, h, .cons h1 t => by
    simp only [allP, Option.map_eq_some_iff] at h
    obtain ⟨fs, h2, rfl⟩ := h
    cases h1 with
    | p h1 => exact .cons h1 (allP_rel h2 t)
  | .agg _ :: _, _, _, h, _ => by cases h
  | .tup _ :: _, _, _, h, _ => by cases h
  | .vec .. :: _, _, _, h, _ => by cases h
  | .ref .. :: _, _, _, h, _ => by cases h
  | .eref .. :: _, _, _, h, _ => by cases h
  | .mref .. :: _, _, _, h, _ => by cases h
  | .clo .. :: _, _, _, h, _ => by cases h
theorem mkAgg_rel {l : List PV} {vs : List Value} (h : RPs m F T σ n' l vs) (hc : vs.all isCell = true) : RP m F T σ n' (mkAgg l) (.agg vs.toArray) := by
  unfold mkAgg
  split
  · rename_i fs hf
    exact .p (.agg (allP_rel hf h) hc)
  · exact .agg h hc
end

theorem takeN_some {k : Nat} {l w : List Value} (h : takeN k l = some w) : w = l.take k ∧ k ≤ l.length := by
  unfold takeN at h
  split at h
  · rename_i hk; cases h; exact ⟨rfl, hk⟩
  · cases h

theorem all_take {l : List Value} (h : l.all isCell = true) (k : Nat) : (l.take k).all isCell = true := by
  rw [List.all_eq_true] at h ⊢
  exact fun x hx => h x (List.mem_of_mem_take hx)
theorem all_drop {l : List Value} (h : l.all isCell = true) (k : Nat) : (l.drop k).all isCell = true := by
  rw [List.all_eq_true] at h ⊢
  exact fun x hx => h x (List.mem_of_mem_drop hx)

end Go.Vm
