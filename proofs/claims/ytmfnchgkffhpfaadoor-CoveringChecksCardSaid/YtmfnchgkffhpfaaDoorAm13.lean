/-
  The abstract machine: what a step does to the abstract memory alone. No condition. Nothing of one program stands here.
-/
import Derived.Test.YtmfnchgkffhpfaaDoorAm12
namespace Go.Am
variable {P : Program} {G : List Nat}

structure MemStep (m m' : Mem) : Prop where
  size : m.size ≤ m'.size
  low : m'.low ≤ m.low
  keep : ∀ b, b < m.size → b < m'.low → m'.get b = m.get b
  ro : ∀ b, b < m.size → m.ro b = true → m'.get b = m.get b
  ro' : ∀ b, b < m.size → m'.ro b = m.ro b

theorem MemStep.refl (m : Mem) : MemStep m m := ⟨Nat.le_refl _, Nat.le_refl _, fun _ _ _ => rfl, fun _ _ _ => rfl, fun _ _ => rfl⟩

theorem MemStep.trans {m m' m'' : Mem} (h : MemStep m m') (k : MemStep m' m'') : MemStep m m'' := by
  refine ⟨Nat.le_trans h.size k.size, Nat.le_trans k.low h.low, fun b hb hl => ?_, fun b hb hr => ?_, fun b hb => ?_⟩
  · rw [k.keep b (Nat.lt_of_lt_of_le hb h.size) hl, h.keep b hb (Nat.lt_of_lt_of_le hl k.low)]
  · rw [k.ro b (Nat.lt_of_lt_of_le hb h.size) (by rw [h.ro' b hb]; exact hr), h.ro b hb hr]
  · rw [k.ro' b (Nat.lt_of_lt_of_le hb h.size), h.ro' b hb]

theorem MemStep.alloc (m : Mem) (x : ABlk) : MemStep m (m.alloc x) := by
  have hget : ∀ b, b < m.size → (m.alloc x).get b = m.get b := fun b hb => by rw [Mem.get_alloc, if_neg (by omega)]
  exact ⟨Nat.le_succ _, Nat.le_refl _, fun b hb _ => hget b hb, fun b hb _ => hget b hb, fun b hb => ro_of_get (hget b hb)⟩

theorem MemStep.put {m : Mem} {b : Nat} {x : ABlk} (h : m.ro b = false) (hx : x.ro = false) : MemStep m (m.put b x) := by
  have hget : ∀ c, c ≠ b → (m.put b x).get c = m.get c := fun c hc => by rw [Mem.get_put, if_neg (fun e => hc e.symm)]
  refine ⟨Nat.le_refl _, Nat.min_le_left _ _, fun c hc hl => hget c fun e => ?_, fun c hc hr => hget c fun e => ?_, fun c hc => ?_⟩
  · subst e; have : (m.put c x).low ≤ c := Nat.min_le_right _ _; omega
  · subst e; rw [h] at hr; cases hr
  · by_cases e : c = b
    · subst e; rw [h]; unfold Mem.ro; rw [Mem.get_put, if_pos rfl]; exact hx
    · exact ro_of_get (hget c e)

theorem storeRow_step {m m' : Mem} {a : Addr} {l : List Value} (h : storeRow m a l = some m') : MemStep m m' := by
  unfold storeRow at h
  split at h
  · rename_i vs e g hg
    split at h
    · cases h; exact MemStep.put (Mem.ro_eq hg) rfl
    · cases h
  · cases h

theorem appendCells_step {m m' : Mem} {e : TypeId} {size n : Nat} {l : List Value} {s v : Value} (h : appendCells m e size l n s = some (v, m')) : MemStep m m' := by
  unfold appendCells at h
  split at h
  · split at h
    · cases h; exact MemStep.refl _
    · cases h; exact MemStep.alloc _ _
  · split at h
    · cases h; exact MemStep.refl _
    · cases h; exact MemStep.alloc _ _
  · split at h
    · rename_i vs e' g' hg
      split at h
      · split at h
        · cases h; exact MemStep.put (Mem.ro_eq hg) rfl
        · cases h
      · cases h
    · cases h
  · cases h

theorem aappend_step {aT : Array TypeId} {as : Array Value} {m m' : Mem} {v : Value} (h : aappend P aT as m = some (v, m')) : MemStep m m' := by
  unfold aappend at h
  repeat' split at h
  all_goals first
    | exact appendCells_step h
    | cases h

theorem acopy_step {aT : Array TypeId} {as : Array Value} {m m' : Mem} {v : Value} (h : acopy P aT as m = some (v, m')) : MemStep m m' := by
  unfold acopy at h
  simp only at h
  repeat' split at h
  all_goals first
    | (cases h; exact MemStep.refl _)
    | (rw [Option.map_eq_some_iff] at h; obtain ⟨m1, h1, h2⟩ := h; cases h2; exact storeRow_step h1)
    | cases h

theorem aupdate_step {t : TypeId} {x k v : Value} {m m' : Mem} (h : aupdate P t x k v m = some m') : MemStep m m' := by
  unfold aupdate at h
  split at h
  · split at h
    · rename_i kind es clock _ hg
      repeat' split at h
      all_goals first
        | (cases h; exact MemStep.put (by unfold Mem.ro; rw [hg]; rfl) rfl)
        | cases h
    · cases h
  · cases h

set_option maxHeartbeats 1000000 in
theorem aop_step {ρ : Operand → Value} {o : Oper} {m m' : Mem} {v : Value} (h : aop P ρ o m = some (v, m')) : MemStep m m' := by
  unfold aop at h
  split at h
  all_goals (repeat' split at h)
  all_goals first
    | (cases h; exact MemStep.refl _)
    | (cases h; exact MemStep.alloc _ _)
    | exact aappend_step h
    | exact acopy_step h
    | (rw [Option.map_eq_some_iff] at h; obtain ⟨u, h1, h2⟩ := h; cases h2; first
        | exact MemStep.refl _
        | exact MemStep.alloc _ _
        | exact aupdate_step h1
        | (unfold astore at h1; (repeat' split at h1) <;> first | exact storeRow_step h1 | cases h1))
    | cases h

/-- an operation that does not touch the memory gives the same value over any memory -/
theorem quiet_indep {ρ : Operand → Value} {o : Oper} {m m' : Mem} {v : Value} (hq : quietKind o.op = true) (h : aop P ρ o m = some (v, m')) (m2 : Mem) : m' = m ∧ aop P ρ o m2 = some (v, m2) := by
  obtain ⟨dst, op, ty, pos, after, guard⟩ := o
  have mapc : ∀ {x : Option Value}, x.map (fun v => (v, m)) = some (v, m') → m' = m ∧ x.map (fun v => (v, m2)) = some (v, m2) := fun {x} h => by
    rw [Option.map_eq_some_iff] at h
    obtain ⟨u, rfl, h2⟩ := h
    cases h2
    exact ⟨rfl, rfl⟩
  simp only at hq
  cases op <;> simp only [quietKind, Bool.false_eq_true] at hq <;> simp only [aop] at h ⊢
  case move => cases h; exact ⟨rfl, rfl⟩
  case assign => cases h; exact ⟨rfl, rfl⟩
  case makeFunc fn fs cs =>
    cases fn <;> simp only [reduceCtorEq] at h ⊢
    cases h; exact ⟨rfl, rfl⟩
  case pick c a b =>
    split at h
    · cases h; exact ⟨rfl, rfl⟩
    · cases h
  case call c =>
    obtain ⟨callee, args, aT⟩ := c
    cases callee <;> simp only [reduceCtorEq, Bool.false_eq_true] at hq h ⊢
    rename_i b
    cases b <;> simp only [reduceCtorEq, Bool.false_eq_true] at hq h ⊢
    case cap => exact mapc h
    case max => split at h <;> rename_i hp <;> first | (rw [if_pos hp]; exact mapc h) | cases h
    case min => split at h <;> rename_i hp <;> first | (rw [if_pos hp]; exact mapc h) | cases h
  all_goals first
    | exact mapc h
    | (split at h <;> rename_i hp <;> first | (rw [if_pos hp]; exact mapc h) | (cases h; done))
    | (repeat' split at h
       all_goals first
         | (cases h; refine ⟨rfl, ?_⟩; simp_all; done)
         | (cases h; exact ⟨rfl, rfl⟩)
         | exact mapc h
         | cases h)

end Go.Am
