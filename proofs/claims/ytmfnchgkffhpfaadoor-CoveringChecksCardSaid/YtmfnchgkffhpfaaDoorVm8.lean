/-
  The values' layer: calls of the program's functions. No condition. Nothing of one program stands here.
-/
import Derived.Test.YtmfnchgkffhpfaaDoorVm7
namespace Go.Vm
open Go.Am
variable {E : Env} {L : Frame} {H : Heap} {nx : Nat} {Q : PV → Heap → Nat → Prop} {w : Bool}
variable {dst : Option Tmp} {ty : TypeId} {pos : String} {af : Array Edge} {gd : Option (Nat × Bool)}

/-! ## Other names -/
mutual
def PV.rn (ρ : Nat → Nat) : PV → PV
  | .p x => .p x
  | .agg cs => .agg (PVs.rn ρ cs)
  | .tup cs => .tup (PVs.rn ρ cs)
  | .vec b tag off len => .vec (ρ b) tag off len
  | .ref b off => .ref (ρ b) off
  | .eref b tag off => .eref (ρ b) tag off
  | .mref b => .mref (ρ b)
  | .clo f fs cs => .clo f (PVs.rn ρ fs) (PVs.rn ρ cs)
def PVs.rn (ρ : Nat → Nat) : List PV → List PV
  | [] => []
  | c :: cs => PV.rn ρ c :: PVs.rn ρ cs
end
def HB.rn (ρ : Nat → Nat) : HB → HB
  | .box e cs => .box e (PVs.rn ρ cs)
  | .vec e cs n z => .vec e cs n z
  | .map es => .map es
theorem HB.rn_tag (ρ : Nat → Nat) (x : HB) : (x.rn ρ).tag = x.tag := by cases x <;> rfl

section
variable {m : Mem} {F : Nat → Prop} {T T' : Nat → Option Tg} {σ σ' : Nat → Value} {n n' : Nat} {ρ : Nat → Nat}
mutual
/-- from the callee's names to the caller's -/
theorem RP.rn (h : ∀ b, b < n → ρ b < n' ∧ T' (ρ b) = T b ∧ σ' (ρ b) = σ b) : ∀ {x : PV} {v : Value}, RP m F T σ n x v → RP m F T' σ' n' (x.rn ρ) v
  | _, _, .p r => .p r
  | _, _, .agg r hc => .agg (RPs.rn h r) hc
  | _, _, .tup r => .tup (RPs.rn h r)
  | _, _, .vec hb hc r => .vec (h _ hb).1 hc (by rw [(h _ hb).2.1, (h _ hb).2.2]; exact r)
  | _, _, .ref hb hc r => .ref (h _ hb).1 hc (by rw [(h _ hb).2.1, (h _ hb).2.2]; exact r)
  | _, _, .eref hb hc r => .eref (h _ hb).1 hc (by rw [(h _ hb).2.1, (h _ hb).2.2]; exact r)
  | _, _, .mref hb hc r => .mref (h _ hb).1 hc (by rw [(h _ hb).2.1, (h _ hb).2.2]; exact r)
  | _, _, .clo r1 r2 => .clo (RPs.rn h r1) (RPs.rn h r2)
theorem RPs.rn (h : ∀ b, b < n → ρ b < n' ∧ T' (ρ b) = T b ∧ σ' (ρ b) = σ b) : ∀ {x : List PV} {v : List Value}, RPs m F T σ n x v → RPs m F T' σ' n' (PVs.rn ρ x) v
  | _, _, .nil => .nil
  | _, _, .cons r t => .cons (RP.rn h r) (RPs.rn h t)
end
mutual
/-- .. and back; fewer objects may be known -/
theorem RP.unrn (h : ∀ b, b < n → (∀ t, T b = some t → T' (ρ b) = some t) ∧ σ' (ρ b) = σ b) : ∀ {x : PV} {v : Value}, x.under n → RP m F T' σ' n' (x.rn ρ) v → RP m F T σ n x v
  | .p _, _, _, r => by cases r with | p r => exact .p r
  | .agg cs, _, hu, r => by
    simp only [PV.rn] at r
    cases r with | agg r hc => exact .agg (RPs.unrn h hu r) hc
  | .tup cs, _, hu, r => by
    simp only [PV.rn] at r
    cases r with | tup r => exact .tup (RPs.unrn h hu r)
  | .vec b tag off len, _, hu, r => by
    simp only [PV.rn] at r
    cases r with
    | vec hb hc r =>
      refine .vec hu hc fun k hk => ?_
      have := r k ((h b hu).1 _ hk)
      rw [(h b hu).2] at this
      exact this
  | .ref b off, _, hu, r => by
    simp only [PV.rn] at r
    cases r with
    | ref hb hc r =>
      refine .ref hu hc fun hk => ?_
      have := r ((h b hu).1 _ hk)
      rw [(h b hu).2] at this
      exact this
  | .eref b tag off, _, hu, r => by
    simp only [PV.rn] at r
    cases r with
    | eref hb hc r =>
      refine .eref hu hc fun k hk => ?_
      have := r k ((h b hu).1 _ hk)
      rw [(h b hu).2] at this
      exact this
  | .mref b, _, hu, r => by
    simp only [PV.rn] at r
    cases r with
    | mref hb hc r =>
      refine .mref hu hc fun hk => ?_
      have := r ((h b hu).1 _ hk)
      rw [(h b hu).2] at this
      exact this
  | .clo f fs cs, _, hu, r => by
    simp only [PV.rn] at r
    cases r with | clo r1 r2 => exact .clo (RPs.unrn h hu.1 r1) (RPs.unrn h hu.2 r2)
theorem RPs.unrn (h : ∀ b, b < n → (∀ t, T b = some t → T' (ρ b) = some t) ∧ σ' (ρ b) = σ b) : ∀ {x : List PV} {v : List Value}, PVs.under n x → RPs m F T' σ' n' (PVs.rn ρ x) v → RPs m F T σ n x v
  | [], _, _, r => by cases r; exact .nil
  | c :: cs, _, hu, r => by cases r with | cons r t => exact .cons (RP.unrn h hu.1 r) (RPs.unrn h hu.2 t)
end
end

/-- the place of a name in a list -/
def idx : List Nat → Nat → Option Nat
  | [], _ => none
  | a :: l, b => match Nat.decEq a b with
    | .isTrue _ => some 0
    | .isFalse _ => (idx l b).map (· + 1)

theorem idx_some : ∀ {l : List Nat} {b i : Nat}, idx l b = some i → l[i]? = some b
  | a :: l, b, i, h => by
    simp only [idx] at h
    split at h
    · rename_i e _; cases h; subst e; rfl
    · simp only [Option.map_eq_some_iff] at h
      obtain ⟨j, h1, rfl⟩ := h
      simpa using idx_some h1
theorem idx_none : ∀ {l : List Nat} {b i : Nat}, idx l b = none → l[i]? ≠ some b
  | [], _, _, _ => by simp
  | a :: l, b, i, h => by
    simp only [idx] at h
    split at h
    · cases h
    · rename_i e _
      simp only [Option.map_eq_none_iff] at h
      cases i with
      | zero => simpa using e
      | succ i => simpa using idx_none h
theorem idx_of : ∀ {l : List Nat} {b i : Nat}, l.Nodup → l[i]? = some b → idx l b = some i
  | [], _, _, _, h => by simp at h
  | a :: l, b, i, hn, h => by
    simp only [List.nodup_cons] at hn
    cases i with
    | zero =>
      simp only [List.getElem?_cons_zero, Option.some.injEq] at h
      subst h
      simp only [idx]
      cases hd : Nat.decEq a a with
      | isTrue _ => rfl
      | isFalse e => exact absurd rfl e
    | succ i =>
      simp only [List.getElem?_cons_succ] at h
      have hne : a ≠ b := fun e => hn.1 (e ▸ List.mem_of_getElem? h)
      simp only [idx]
      cases hd : Nat.decEq a b with
      | isTrue e => exact absurd e hne
      | isFalse _ => simp only [idx_of hn.2 h, Option.map_some]

/-- the callee's name i is the caller's name -/
def rho (ns : List Nat) (nx : Nat) (i : Nat) : Nat :=
  match ns[i]? with
  | some b => b
  | none => nx + (i - ns.length)

/-- the caller's objects behind the call: those that were handed on are as the callee left them -/
def merge (ns : List Nat) (ρ : Nat → Nat) (H' : Heap) : Heap → Heap
  | [] => []
  | (b, x) :: H => match idx ns b with
    | none => (b, x) :: merge ns ρ H' H
    | some i => match hget H' i with
      | some y => (b, y.rn ρ) :: merge ns ρ H' H
      | none => merge ns ρ H' H
/-- .. and the callee's new ones -/
def news (k : Nat) (ρ : Nat → Nat) : Heap → Heap → Heap
  | [], H => H
  | (i, x) :: H', H => match Nat.decLt i k with
    | .isTrue _ => news k ρ H' H
    | .isFalse _ => (ρ i, x.rn ρ) :: news k ρ H' H

theorem hget_merge_none {ns : List Nat} {ρ : Nat → Nat} {H' : Heap} : ∀ {H : Heap} {b : Nat}, idx ns b = none → hget (merge ns ρ H' H) b = hget H b
  | [], _, _ => rfl
  | (a, x) :: H, b, h => by
    have ih := hget_merge_none (ns := ns) (ρ := ρ) (H' := H') (H := H) h
    simp only [merge]
    cases hi : idx ns a with
    | none => simp only [hget_cons, ih]
    | some i =>
      have hne : a ≠ b := fun e => by rw [e, h] at hi; cases hi
      simp only [hget_cons, if_neg hne]
      cases hget H' i with
      | none => exact ih
      | some y => simp only [hget_cons, if_neg hne]; exact ih
theorem hget_merge_some {ns : List Nat} {ρ : Nat → Nat} {H' : Heap} : ∀ {H : Heap} {b i : Nat}, idx ns b = some i → hget (merge ns ρ H' H) b = if (hget H b).isSome then (hget H' i).map (HB.rn ρ) else none
  | [], _, _, _ => by simp [merge, hget]
  | (a, x) :: H, b, i, h => by
    have ih := hget_merge_some (ns := ns) (ρ := ρ) (H' := H') (H := H) h
    simp only [merge]
    by_cases e : a = b
    · subst e
      rw [h]
      simp only [hget_cons, if_true, Option.isSome_some]
      cases hi : hget H' i with
      | none =>
        simp only [Option.map_none]
        rw [ih]
        split
        · rw [hi]; rfl
        · rfl
      | some y => simp only [hget_cons, if_true, Option.map_some]
    · simp only [hget_cons, if_neg e]
      cases hj : idx ns a with
      | none => simp only [hget_cons, if_neg e]; exact ih
      | some j =>
        simp only
        cases hget H' j with
        | none => exact ih
        | some y => simp only [hget_cons, if_neg e]; exact ih

theorem hget_news {k : Nat} {ρ : Nat → Nat} {H : Heap} : ∀ {H' : Heap} {b : Nat}, (∀ i j, ρ i = ρ j → k ≤ i → k ≤ j → i = j) →
    (∃ i, k ≤ i ∧ ρ i = b ∧ (hget H' i).isSome ∧ hget (news k ρ H' H) b = (hget H' i).map (HB.rn ρ)) ∨ ((∀ i, k ≤ i → ρ i = b → hget H' i = none) ∧ hget (news k ρ H' H) b = hget H b)
  | [], b, _ => .inr ⟨fun _ _ _ => rfl, rfl⟩
  | (i, x) :: H', b, hinj => by
    have ih := hget_news (k := k) (ρ := ρ) (H := H) (H' := H') (b := b) hinj
    simp only [news]
    cases hd : Nat.decLt i k with
    | isTrue hlt =>
      simp only
      rcases ih with ⟨j, h1, h2, h3, h4⟩ | ⟨h1, h2⟩
      · refine .inl ⟨j, h1, h2, ?_⟩
        rw [hget_cons, if_neg (by omega)]
        exact ⟨h3, h4⟩
      · refine .inr ⟨fun j hj hb => ?_, h2⟩
        rw [hget_cons, if_neg (by omega)]
        exact h1 j hj hb
    | isFalse hge =>
      simp only [hget_cons]
      by_cases e : ρ i = b
      · refine .inl ⟨i, by omega, e, ?_⟩
        rw [if_pos rfl, if_pos e]
        exact ⟨rfl, rfl⟩
      · rw [if_neg e]
        rcases ih with ⟨j, h1, h2, h3, h4⟩ | ⟨h1, h2⟩
        · refine .inl ⟨j, h1, h2, ?_⟩
          rw [if_neg (fun e' : i = j => e (by rw [e']; exact h2))]
          exact ⟨h3, h4⟩
        · refine .inr ⟨fun j hj hb => ?_, h2⟩
          rw [if_neg (fun e' : i = j => e (by rw [e']; exact hb))]
          exact h1 j hj hb

/-- what is handed on -/
def HIn (ρ : Nat → Nat) (H : Heap) : Heap → Prop
  | [] => True
  | (i, x) :: Hc => (∃ y, hget H (ρ i) = some y ∧ HLe y (x.rn ρ)) ∧ HIn ρ H Hc
theorem HIn.get {ρ : Nat → Nat} {H : Heap} : ∀ {Hc : Heap}, HIn ρ H Hc → ∀ i x, hget Hc i = some x → ∃ y, hget H (ρ i) = some y ∧ HLe y (x.rn ρ)
  | [], _, _, _, h => by cases h
  | (j, y) :: Hc, ⟨h1, h2⟩, i, x, h => by
    rw [hget_cons] at h
    by_cases e : j = i
    · rw [if_pos e] at h; cases h; subst e; exact h1
    · rw [if_neg e] at h; exact HIn.get h2 i x h

def HUnder (k : Nat) : Heap → Prop
  | [] => True
  | (i, x) :: H => (i < k ∧ x.under k) ∧ HUnder k H
theorem HUnder.get {k : Nat} : ∀ {H : Heap}, HUnder k H → ∀ i x, hget H i = some x → i < k ∧ x.under k
  | [], _, _, _, h => by cases h
  | (j, y) :: Hc, ⟨h1, h2⟩, i, x, h => by
    rw [hget_cons] at h
    by_cases e : j = i
    · rw [if_pos e] at h; cases h; subst e; exact h1
    · rw [if_neg e] at h; exact HUnder.get h2 i x h

theorem RB.le {m : Mem} {F : Nat → Prop} {T : Nat → Option Tg} {σ : Nat → Value} {n : Nat} {s : Value} {x y : HB} (h : HLe x y) (r : RB m F T σ n s x) : RB m F T σ n s y := by
  cases h with
  | refl => exact r
  | box h => obtain ⟨c, vs, r1, r2, r3, r4, r5, r6⟩ := r; exact ⟨c, vs, r1, r2, r3, r4, RPs.le h r5, r6⟩
  | vec h hn =>
    subst hn
    rcases r with ⟨r1, r2, r3⟩ | ⟨c, g, vs, r1, r2, r3, r4, r5, r6⟩
    · subst r1
      cases h with | refl => exact .inl ⟨rfl, r2, r3⟩
    · exact .inr ⟨c, g, vs, r1, r2, r3, r4, RFs.le h r5, r6⟩

theorem RB.rn {m : Mem} {F : Nat → Prop} {T T' : Nat → Option Tg} {σ σ' : Nat → Value} {n n' : Nat} {ρ : Nat → Nat} {s : Value} {x : HB} (h : ∀ b, b < n → ρ b < n' ∧ T' (ρ b) = T b ∧ σ' (ρ b) = σ b) (r : RB m F T σ n s x) : RB m F T' σ' n' s (x.rn ρ) := by
  cases x with
  | box e cs => obtain ⟨c, vs, r1, r2, r3, r4, r5, r6⟩ := r; exact ⟨c, vs, r1, r2, r3, r4, RPs.rn h r5, r6⟩
  | vec e cs k z => exact r
  | map es => exact r
theorem RB.unrn {m : Mem} {F : Nat → Prop} {T T' : Nat → Option Tg} {σ σ' : Nat → Value} {n n' : Nat} {ρ : Nat → Nat} {s : Value} {x : HB} (h : ∀ b, b < n → (∀ t, T b = some t → T' (ρ b) = some t) ∧ σ' (ρ b) = σ b) (hu : x.under n) (r : RB m F T' σ' n' s (x.rn ρ)) : RB m F T σ n s x := by
  cases x with
  | box e cs => obtain ⟨c, vs, r1, r2, r3, r4, r5, r6⟩ := r; exact ⟨c, vs, r1, r2, r3, r4, RPs.unrn h hu r5, r6⟩
  | vec e cs k z => exact r
  | map es => exact r

end Go.Vm
