/-
  The abstract machine: a call is sound. No condition. Nothing of one program stands here.
-/
import Derived.Test.YtmfnchgkffhpfaaDoorAm18
namespace Go.Am
variable {P : Program} {G : List Nat}

theorem asteps_step {call : CallF} (hc : CallStep call) {ops : Array Oper} : ∀ (l : List Oper) (s s' : St), asteps P call ops l s = some s' → MemStep s.m s'.m
  | [], s, s', h => by cases h; exact MemStep.refl _
  | o :: l, s, s', h => by
    simp only [asteps] at h
    cases h1 : astep P call ops o s with
    | none => rw [h1] at h; cases h
    | some s1 =>
      rw [h1] at h
      refine MemStep.trans ?_ (asteps_step hc l s1 s' h)
      unfold astep at h1
      split at h1
      · unfold aact at h1
        split at h1
        · rename_i v m hv; cases h1; exact aval_step hc hv
        · cases h1
      · cases h1; exact MemStep.refl _

theorem dsteps_step {call : CallF} (hc : CallStep call) {ops : Array Oper} : ∀ (l : List Oper) (i : Nat) (s s' : St), dsteps P call ops i l s = some s' → MemStep s.m s'.m
  | [], i, s, s', h => by cases h; exact MemStep.refl _
  | o :: l, i, s, s', h => by
    simp only [dsteps] at h
    cases h1 : dstep P call ops i o s with
    | none => rw [h1] at h; cases h
    | some s1 =>
      rw [h1] at h
      refine MemStep.trans ?_ (dsteps_step hc l (i + 1) s1 s' h)
      rcases dstep_cases h1 with ⟨_, _, x, hm, hx, _⟩ | ⟨_, v, m', hv, _, hm, _⟩
      · rw [hm]; exact ⟨Nat.le_refl _, hx, fun _ _ _ => rfl, fun _ _ _ => rfl, fun _ _ => rfl⟩
      · have hs := aval_step hc hv
        rw [hm]
        exact ⟨hs.size, Nat.min_le_left _ _, fun b hb hl => hs.keep b hb (Nat.lt_of_lt_of_le hl (Nat.min_le_right _ _)), fun b hb hr => hs.ro b hb hr, fun b hb => hs.ro' b hb⟩

theorem aexec_step {call : CallF} (hc : CallStep call) {N : Nat} : ∀ (c : Code) (s s' : St) (x : AExit), aexec P call N c s = some (x, s') → MemStep s.m s'.m := by
  intro c
  induction c with
  | skip => intro s s' x h; cases h; exact MemStep.refl _
  | label l => intro s s' x h; cases h; exact MemStep.refl _
  | ret => intro s s' x h; cases h; exact MemStep.refl _
  | exit id => intro s s' x h; cases h; exact MemStep.refl _
  | goto l => intro s s' x h; cases h
  | scope b _ => intro s s' x h; cases h
  | refuse y => intro s s' x h; cases h
  | rangeFunc f ps y z _ _ => intro s s' x h; cases h
  | seq c1 c2 ih1 ih2 =>
    intro s s' x h
    simp only [aexec] at h
    cases h1 : aexec P call N c1 s with
    | none => rw [h1] at h; cases h
    | some r =>
      obtain ⟨x1, s1⟩ := r
      rw [h1] at h
      have := ih1 s s1 x1 h1
      cases x1 with
      | normal => exact this.trans (ih2 s1 s' x h)
      | ret => cases h; exact this
      | exit id => cases h; exact this
  | cond c0 c1 c2 ih1 ih2 =>
    intro s s' x h
    simp only [aexec] at h
    split at h
    · exact ih1 s s' x h
    · exact ih2 s s' x h
    · cases h
  | block id b ih =>
    intro s s' x h
    simp only [aexec] at h
    cases h1 : aexec P call N b s with
    | none => rw [h1] at h; cases h
    | some r =>
      obtain ⟨x1, s1⟩ := r
      rw [h1] at h
      have := ih s s1 x1 h1
      cases x1 with
      | normal => cases h; exact this
      | ret => cases h; exact this
      | exit i => simp only at h; split at h <;> (cases h; exact this)
  | loop b ih =>
    intro s s' x h
    simp only [aexec] at h
    have key : ∀ (k : Nat) (s s' : St) (x : AExit), iterate (aexec P call N b) k s = some (x, s') → MemStep s.m s'.m := by
      intro k
      induction k with
      | zero => intro s s' x h; cases h
      | succ k ihk =>
        intro s s' x h
        simp only [iterate] at h
        cases h1 : aexec P call N b s with
        | none => rw [h1] at h; cases h
        | some r =>
          obtain ⟨x1, s1⟩ := r
          rw [h1] at h
          have := ih s s1 x1 h1
          cases x1 with
          | normal => exact this.trans (ihk s1 s' x h)
          | ret => cases h; exact this
          | exit id => cases h; exact this
    exact key N s s' x h
  | region id ops draw =>
    intro s s' x h
    cases draw with
    | false =>
      simp only [aexec, Option.map_eq_some_iff] at h
      obtain ⟨s1, h1, he⟩ := h
      cases he
      exact asteps_step hc _ _ _ h1
    | true =>
      simp only [aexec, Option.map_eq_some_iff] at h
      obtain ⟨s1, h1, he⟩ := h
      cases he
      exact dsteps_step hc _ _ _ _ h1

/-! ## Results -/
theorem tget_tmpsOf : ∀ (l : List Value) (k : Nat) (t : Tr Value) (i : Nat), tget (tmpsOf k l t) i = if k ≤ i ∧ i < k + l.length then l.getD (i - k) undef else tget t i
  | [], k, t, i => by simp only [tmpsOf]; rw [if_neg (by simp)]
  | v :: l, k, t, i => by
    simp only [tmpsOf]
    rw [tget_tmpsOf l (k + 1) (tset t k v) i, tget_tset]
    by_cases h1 : k + 1 ≤ i ∧ i < k + 1 + l.length
    · rw [if_pos h1, if_pos (by simp only [List.length_cons]; omega)]
      have : i - k = (i - (k + 1)) + 1 := by omega
      rw [this, List.getD_cons_succ]
    · rw [if_neg h1]
      by_cases h2 : k = i
      · subst h2
        rw [if_pos rfl, if_pos (by simp only [List.length_cons]; omega)]
        simp
      · rw [if_neg h2, if_neg (by simp only [List.length_cons]; omega)]

def resSem (tmps : Array Value) : ResultVar → Sem Value
  | .tmp t => pure (tmps.getD t undef)
  | .cell a t => do loadVar t (← asAddr (tmps.getD a undef))

theorem resultOf_sound {ι : Inj} {s : St} {n : Nat} {a : Act} {w : World} (hst : Stands P G n s ι a w) {r : ResultVar} {v : Value} (h : resultOf P s r = some v) :
    ∃ v', (resSem a.tmps r).run P w = .ok v' w ∧ VRel ι s.m.gen v v' := by
  cases r with
  | tmp t => cases h; exact ⟨_, rfl, hst.2.val t⟩
  | cell c t =>
    simp only [resultOf] at h
    have hv := hst.2.val c
    cases hc : tget s.t c <;> rw [hc] at h hv <;> first | (cases h; done) | skip
    rename_i ad
    cases ad with
    | none => cases h
    | some ad =>
      obtain ⟨a', e1, har⟩ : ∃ a', a.tmps.getD c undef = .pointer (some a') ∧ ARel ι s.m.gen ad a' := by
        generalize a.tmps.getD c undef = u at hv
        cases hv; exact ⟨_, rfl, by assumption⟩
      obtain ⟨v', hr, hvr⟩ := aload_sound hst.1 har h
      exact ⟨v', by simp only [resSem, e1, asAddr, Sem.run_bind, Sem.run_pure, Result.andThen_ok]; exact hr, hvr⟩

theorem listAll_sound {ι : Inj} {s : St} {n : Nat} {a : Act} {w : World} (hst : Stands P G n s ι a w) : ∀ (rs : List ResultVar) (vs : List Value), listAll (resultOf P s) rs = some vs →
    ∃ vs', (rs.mapM (resSem a.tmps)).run P w = .ok vs' w ∧ LRel ι s.m.gen vs vs'
  | [], vs, h => by cases h; exact ⟨[], rfl, LRel.nil⟩
  | r :: rs, vs, h => by
    simp only [listAll] at h
    split at h
    · rename_i v l h1 h2
      cases h
      obtain ⟨v', q1, q2⟩ := resultOf_sound hst h1
      obtain ⟨l', r1, r2⟩ := listAll_sound hst rs l h2
      refine ⟨v' :: l', ?_, LRel.cons q2 r2⟩
      rw [List.mapM_cons]
      simp only [Sem.run_bind, q1, Result.andThen_ok, r1, Sem.run_pure]
    · cases h

theorem resultsOf_sound {ι : Inj} {s : St} {n : Nat} {a : Act} {w : World} {fn : Func} {v : Value} (hst : Stands P G n s ι a w) (h : resultsOf P fn s = some v) :
    ∃ v', (results fn a.tmps).run P w = .ok v' w ∧ VRel ι s.m.gen v v' := by
  have heq : results fn a.tmps = (do let vs ← fn.results.mapM (resSem a.tmps); pure (if h : vs.size = 1 then vs[0] else .tuple vs)) := by
    unfold results
    first
      | rfl
      | (congr 1; congr 1; funext r; cases r <;> rfl)
  unfold resultsOf at h
  have run : ∀ vs, listAll (resultOf P s) fn.results.toList = some vs → ∃ vs' : List Value, LRel ι s.m.gen vs vs' ∧ (results fn a.tmps).run P w = .ok (if h : vs'.toArray.size = 1 then vs'.toArray[0] else .tuple vs'.toArray) w := fun vs hvs => by
    obtain ⟨vs', h1, h2⟩ := listAll_sound hst _ _ hvs
    refine ⟨vs', h2, ?_⟩
    rw [heq, Array.mapM_eq_mapM_toList]
    simp only [Sem.run_bind, Sem.run_map, h1, Result.andThen_ok, Sem.run_pure]
  split at h
  · rename_i v0 hl
    cases h
    obtain ⟨vs', h1, h2⟩ := run _ hl
    obtain ⟨v', k', rfl, hv, hk⟩ := h1.uncons
    have : k' = [] := List.length_eq_zero_iff.1 hk.1.symm
    subst this
    exact ⟨v', by rw [h2]; simp, hv⟩
  · rename_i vs hne hl
    cases h
    obtain ⟨vs', h1, h2⟩ := run _ hl
    have hlen : vs'.length ≠ 1 := fun e => by
      have : vs.length = 1 := h1.1.trans e
      match vs, this with
      | [x], _ => exact hne x rfl
    exact ⟨.tuple vs'.toArray, by rw [h2]; simp [hlen], .tuple vs vs' h1.1 h1.2⟩
  · cases h

/-! ## Calls -/
/-- functions whose text is not run, with what is known of them -/
def OSound (P : Program) (G : List Nat) (O : Oracle) : Prop := ∀ f F, O f = some F → FnSound P G f F ∧ (∀ as m v m', F as m = some (v, m') → MemStep m m') ∧ Enters P f

theorem acall_step {O : Oracle} {N : Nat} (hO : OSound P G O) : ∀ D, CallStep (acall P O G N D)
  | 0 => fun f as m v m' h => by cases h
  | D + 1 => fun f as m v m' h => by
    simp only [acall] at h
    split at h
    · rename_i F hF
      exact (hO f F hF).2.1 as m v m' h
    · split at h
      · cases h
      · split at h
        · cases h
        · split at h
          · split at h
            · rename_i s' hx
              rw [Option.map_eq_some_iff] at h
              obtain ⟨u, _, h2⟩ := h
              cases h2
              exact aexec_step (acall_step hO D) _ _ _ _ hx
            · rename_i s' hx
              rw [Option.map_eq_some_iff] at h
              obtain ⟨u, _, h2⟩ := h
              cases h2
              exact aexec_step (acall_step hO D) _ _ _ _ hx
            · cases h
          · cases h

theorem acall_sound {O : Oracle} {N : Nat} (hO : OSound P G O) (hmix : P.follows .mixedOrders = true) : ∀ D, CallSound P G (acall P O G N D)
  | 0 => fun f => ⟨(fun as m v m' h => by cases h), (fun as m r h => by cases h)⟩
  | D + 1 => fun f => by
    have hcs := acall_step (N := N) hO D
    have hc := acall_sound (N := N) hO hmix D
    refine ⟨fun as m v m' h ι w as' hs hargs => ?_, fun as m r h => ?_⟩
    · simp only [acall] at h
      split at h
      · rename_i F hF
        exact (hO f F hF).1 as m v m' h ι w as' hs hargs
      · split at h
        · cases h
        · rename_i fn hfn
          split at h
          · cases h
          · rename_i c hb
            split at h
            · rename_i hok
              simp only [Bool.and_eq_true, decide_eq_true_eq] at hok
              obtain ⟨hok1, hlen⟩ := hok
              unfold fnOk at hok1
              simp only [Bool.and_eq_true] at hok1
              have hlen' : as'.size = as.length := by have := hargs.1; simpa using this.symm
              have hst : Stands P G fn.ntmps { t := tmpsOf 0 as .leaf, m := m } ι { tmps := as' ++ Array.replicate (fn.ntmps - as'.size) undef, defers := [] } w := by
                refine ⟨hs, by simp; omega, rfl, fun i => ?_⟩
                rw [tget_tmpsOf]
                by_cases hi : i < as.length
                · rw [if_pos (by omega)]
                  have h1 := hargs.2 i hi
                  have hi' : i < as'.size := by omega
                  have e : (as' ++ Array.replicate (fn.ntmps - as'.size) undef).getD i undef = as'.toList.getD i undef := by
                    rw [Array.getD_eq_getD_getElem?, Array.getElem?_append_left hi', getD_eq, Array.getElem?_toList]
                  rw [e, Nat.sub_zero]
                  exact h1
                · rw [if_neg (by omega)]
                  have e1 : tget (.leaf : Tr Value) i = undef := Tr.get_leaf _ _
                  have e2 : (as' ++ Array.replicate (fn.ntmps - as'.size) undef).getD i undef = undef := by
                    rw [Array.getD_eq_getD_getElem?, Array.getElem?_append_right (by omega)]
                    by_cases hr : i - as'.size < fn.ntmps - as'.size
                    · simp [hr]
                    · simp [hr]
                  rw [e1, e2]
                  exact VRel.undef
              have main : ∀ (x : AExit) (s' : St), aexec P (acall P O G N D) N c { t := tmpsOf 0 as .leaf, m := m } = some (x, s') → (x = .normal ∨ x = .ret) → (resultsOf P fn s').map (fun v => (v, s'.m)) = some (v, m') →
                  Calls P f as' w fun e w' => ∃ v', e = .returned v' ∧ Post P G ι m w v m' v' w' := fun x s' hx hxx hres => by
                rw [Option.map_eq_some_iff] at hres
                obtain ⟨v0, hr0, he⟩ := hres
                cases he
                refine calls_of_wp hfn hb ?_
                refine aexec_sound hc (draw_sound hc hcs hmix) c _ s' x ι _ w _ hok1.2 hx hst fun a' w' hr => ?_
                obtain ⟨ι', hext, hst'⟩ := hr
                obtain ⟨v', q1, q2⟩ := resultsOf_sound hst' hr0
                have hpost : a'.defers = [] ∧ ∃ u, (results fn a'.tmps).run P w' = .ok u w' ∧ ∃ v', (Ending.returned u) = .returned v' ∧ Post P G ι m w v s'.m v' w' :=
                  ⟨hst'.2.defers, v', q1, v', rfl, ι', hext, hst'.1, q2⟩
                rcases hxx with rfl | rfl <;> exact hpost
              split at h
              · rename_i s' hx; exact main .normal s' hx (.inl rfl) h
              · rename_i s' hx; exact main .ret s' hx (.inr rfl) h
              · cases h
            · cases h
    · simp only [acall] at h
      split at h
      · rename_i F hF; exact (hO f F hF).2.2
      · split at h
        · cases h
        · rename_i fn hfn
          split at h
          · cases h
          · rename_i c hb
            split at h
            · rename_i hok
              simp only [Bool.and_eq_true, decide_eq_true_eq] at hok
              have hok1 := hok.1
              unfold fnOk at hok1
              simp only [Bool.and_eq_true, Bool.not_eq_true'] at hok1
              exact ⟨fn, hfn, by rw [hb]; rfl, hok1.1⟩
            · cases h

end Go.Am
