/-
  The abstract machine: composites, parts, tests, addresses: sound as operations. No condition. Nothing of one program stands here.
-/
import Derived.Test.YtmfnchgkffhpfaaDoorAm8
namespace Go.Am
variable {P : Program} {G : List Nat}

theorem dry_bind' {α β : Type} (x : Sem α) (f : α → Sem β) : dry P (x.bind f) = (dry P x).bind fun a => dry P (f a) := by
  induction x <;> simp_all [Sem.bind, dry]
theorem dry_bind {α β : Type} (x : Sem α) (f : α → Sem β) : dry P (x >>= f) = (dry P x).bind fun a => dry P (f a) := dry_bind' x f
theorem dry_pure {α : Type} (a : α) : dry P (pure a : Sem α) = some a := rfl
theorem dry_stuck {α : Type} (s : String) : dry P (stuck s : Sem α) = none := rfl
theorem dry_unsupported {α : Type} (s : Unsupported) : dry P (unsupported s : Sem α) = none := rfl
theorem dry_underlying (t : TypeId) : dry P (underlying t) = P.underlying t := by
  simp only [underlying, dry_bind, program, dry, Option.bind_some]
  cases P.underlying t <;> rfl
theorem dry_typeInfo (t : TypeId) : dry P (typeInfo t) = P.info? t := by
  simp only [typeInfo, dry_bind, program, dry, Option.bind_some]
  cases P.info? t <;> rfl
theorem dry_sizeOf (t : TypeId) : dry P (sizeOf t) = (P.info? t).map (·.size) := by
  simp only [sizeOf, dry_bind, dry_typeInfo]
  cases P.info? t <;> rfl
theorem dry_isAgg (t : TypeId) : dry P (isAgg t) = isAggT P t := by
  simp only [isAgg, dry_bind, dry_underlying, isAggT]
  cases P.underlying t with
  | none => rfl
  | some d => cases d <;> rfl

theorem LRel.set {ι : Inj} {g : Nat → Nat} {l l' : List Value} (h : LRel ι g l l') {v v' : Value} (hv : VRel ι g v v') (i : Nat) : LRel ι g (l.set i v) (l'.set i v') := by
  refine ⟨by simp [h.1], fun j hj => ?_⟩
  rw [List.length_set] at hj
  have := h.2 j hj
  rw [getD_eq, getD_eq] at this ⊢
  by_cases e : i = j
  · subst e
    rw [List.getElem?_set_self (by omega), List.getElem?_set_self (by rw [← h.1]; omega)]
    exact hv
  · rw [List.getElem?_set_ne e, List.getElem?_set_ne e]
    exact this

theorem foldl_rel {ι : Inj} {g : Nat → Nat} (off : Nat) : ∀ {l l' : List Value} (k : Nat) {cs cs' : Array Value}, LRel ι g l l' → LRel ι g cs.toList cs'.toList →
    LRel ι g ((l.zipIdx k).foldl (fun cs (c, j) => cs.setIfInBounds (off + j) c) cs).toList ((l'.zipIdx k).foldl (fun cs (c, j) => cs.setIfInBounds (off + j) c) cs').toList
  | [], l', k, cs, cs', h, hc => by
    have : l' = [] := List.length_eq_zero_iff.1 h.1.symm
    subst this; exact hc
  | v :: l, l', k, cs, cs', h, hc => by
    obtain ⟨v', l2, rfl, hv, hl⟩ := h.uncons
    simp only [List.zipIdx_cons, List.foldl_cons]
    refine foldl_rel off (k + 1) hl ?_
    simp only [Array.toList_setIfInBounds]
    exact hc.set hv _

def PRel (ι : Inj) (g : Nat → Nat) : List (Nat × Value) → List (Nat × Value) → Prop
  | [], [] => True
  | p :: ps, p' :: ps' => p'.1 = p.1 ∧ VRel ι g p.2 p'.2 ∧ PRel ι g ps ps'
  | _, _ => False

theorem fill_rel {ι : Inj} {g : Nat → Nat} (place : Nat → Option (Nat × Nat)) : ∀ {ps ps' : List (Nat × Value)} {cs cs' out : Array Value}, PRel ι g ps ps' → LRel ι g cs.toList cs'.toList →
    Instr.fill place cs ps = some out → ∃ out', Instr.fill place cs' ps' = some out' ∧ LRel ι g out.toList out'.toList
  | [], [], cs, cs', out, _, hc, h => by
    simp only [Instr.fill, Option.some.injEq] at h ⊢
    subst h
    exact ⟨cs', rfl, hc⟩
  | (i, v) :: ps, (i', v') :: ps', cs, cs', out, ⟨h1, h2, h3⟩, hc, h => by
    simp only at h1 h2
    subst h1
    simp only [Instr.fill] at h ⊢
    cases hp : place i' with
    | none => rw [hp] at h; cases h
    | some q =>
      obtain ⟨off, size⟩ := q
      rw [hp] at h
      simp only at h ⊢
      have hcells := h2.cells
      have e1 : v'.cells.size = v.cells.size := by have := hcells.1; simpa using this.symm
      have e2 : cs'.size = cs.size := by have := hc.1; simpa using this.symm
      rw [e1, e2]
      split at h
      · cases h
      · rename_i hcond
        rw [if_neg hcond]
        refine fill_rel place h3 ?_ h
        have := foldl_rel (ι := ι) (g := g) off 0 hcells hc
        rw [← Array.foldl_toList, ← Array.foldl_toList, Array.toList_zipIdx, Array.toList_zipIdx]
        exact this
  | [], _ :: _, _, _, _, h, _, _ => h.elim
  | _ :: _, [], _, _, _, h, _, _ => h.elim

theorem PRel.map {ι : Inj} {g : Nat → Nat} {ρ ρ' : Operand → Value} : ∀ {ps : List (Nat × Operand)}, (∀ x ∈ ps.map (·.2), VRel ι g (ρ x) (ρ' x)) →
    PRel ι g (ps.map fun (i, x) => (i, ρ x)) (ps.map fun (i, x) => (i, ρ' x))
  | [], _ => trivial
  | (i, x) :: ps, h => ⟨rfl, h x (by simp), PRel.map fun y hy => h y (by simp at hy ⊢; exact .inr hy)⟩

theorem build_sound {ι : Inj} {g : Nat → Nat} {t : TypeId} {ps ps' : Array (Nat × Value)} {v : Value} (hp : PRel ι g ps.toList ps'.toList) (hz : ∀ z, zeroOf P t = some z → z.cells.toList.all plainCell = true)
    (h : dry P (Instr.build t ps) = some v) : ∃ v', dry P (Instr.build t ps') = some v' ∧ VRel ι g v v' := by
  unfold Instr.build at h ⊢
  simp only [dry_bind] at h ⊢
  have hzv : dry P (zeroValue t) = zeroOf P t := by
    simp only [zeroValue, dry_bind, dry_typeInfo, zeroOf]
    cases P.info? t with
    | none => rfl
    | some i => simp only [Option.bind_some]; cases i.zero <;> rfl
  rw [hzv] at h ⊢
  cases hz0 : zeroOf P t with
  | none => rw [hz0] at h; cases h
  | some z =>
    have hzz := LRel.plain (ι := ι) (g := g) (hz z hz0)
    rw [hz0] at h
    simp only [Option.bind_some, dry_underlying] at h ⊢
    cases hd : P.underlying t with
    | none => rw [hd] at h; cases h
    | some d =>
      rw [hd] at h
      simp only [Option.bind_some] at h ⊢
      cases d with
      | struct fields =>
        simp only [dry_bind] at h ⊢
        cases hpl : dry P (Array.mapM (fun f => do let __do_lift ← sizeOf f.type; pure (f.offset, __do_lift)) fields) with
        | none => rw [hpl] at h; cases h
        | some places =>
          rw [hpl] at h
          simp only [Option.bind_some] at h ⊢
          cases hf : Instr.fill (fun x => places[x]?) z.cells ps.toList with
          | none => rw [hf] at h; cases h
          | some out =>
            rw [hf] at h
            obtain ⟨out', ho, hr⟩ := fill_rel _ hp hzz hf
            rw [ho]
            simp only [dry_pure, Option.some.injEq] at h ⊢
            subst h
            exact ⟨_, rfl, .agg out.toList out'.toList hr.1 hr.2⟩
      | array n e =>
        simp only [dry_bind, dry_sizeOf] at h ⊢
        cases hi : P.info? e with
        | none => rw [hi] at h; cases h
        | some i =>
          rw [hi] at h
          simp only [Option.map_some, Option.bind_some] at h ⊢
          cases hf : Instr.fill (fun j => some (j * i.size, i.size)) z.cells ps.toList with
          | none => rw [hf] at h; cases h
          | some out =>
            rw [hf] at h
            obtain ⟨out', ho, hr⟩ := fill_rel _ hp hzz hf
            rw [ho]
            simp only [dry_pure, Option.some.injEq] at h ⊢
            subst h
            exact ⟨_, rfl, .agg out.toList out'.toList hr.1 hr.2⟩
      | _ => cases h

theorem part_rel {ι : Inj} {g : Nat → Nat} {t : TypeId} {cs cs' : Array Value} {off : Nat} {v : Value} (hr : LRel ι g cs.toList cs'.toList) (h : dry P (part t cs off) = some v) :
    ∃ v', dry P (part t cs' off) = some v' ∧ VRel ι g v v' := by
  unfold part at h ⊢
  simp only [dry_bind, dry_isAgg] at h ⊢
  cases ha : isAggT P t with
  | none => rw [ha] at h; cases h
  | some b =>
    rw [ha] at h
    simp only [Option.bind_some] at h ⊢
    cases b with
    | true =>
      simp only [if_true, dry_bind, dry_sizeOf] at h ⊢
      cases hi : P.info? t with
      | none => rw [hi] at h; cases h
      | some i =>
        rw [hi] at h
        simp only [Option.map_some, Option.bind_some, dry_pure, Option.some.injEq] at h ⊢
        subst h
        refine ⟨_, rfl, ?_⟩
        have := (hr.drop off).take i.size
        have e : ∀ (c : Array Value), c.extract off (off + i.size) = ⟨(c.toList.drop off).take i.size⟩ := fun c => by
          apply Array.ext'
          rw [Array.toList_extract]
          simp [List.extract_eq_take_drop]
        rw [e, e]
        exact .agg _ _ this.1 this.2
    | false =>
      simp only [Bool.false_eq_true, if_false] at h ⊢
      cases hc : cs[off]? with
      | none => rw [hc] at h; cases h
      | some u =>
        rw [hc] at h
        simp only [dry_pure, Option.some.injEq] at h
        subst h
        obtain ⟨v', h1, h2⟩ := hr.get (i := off) (v := u) (by simpa using hc)
        refine ⟨v', ?_, h2⟩
        have : cs'[off]? = some v' := by simpa using h1
        rw [this]; rfl

theorem field_sound {ι : Inj} {g : Nat → Nat} {t : TypeId} {x x' v : Value} {f : Nat} (hx : VRel ι g x x') (h : dry P (Instr.field t x f) = some v) :
    ∃ v', dry P (Instr.field t x' f) = some v' ∧ VRel ι g v v' := by
  unfold Instr.field at h ⊢
  simp only [dry_bind, dry_underlying] at h ⊢
  cases hd : P.underlying t with
  | none => rw [hd] at h; cases h
  | some d =>
    rw [hd] at h
    simp only [Option.bind_some] at h ⊢
    cases d <;> first | (cases h; done) | skip
    rename_i fields
    simp only at h ⊢
    cases hf : fields[f]? with
    | none => rw [hf] at h; cases h
    | some fd =>
      rw [hf] at h
      simp only [dry_bind] at h ⊢
      cases hx <;> first | (cases h; done) | skip
      rename_i l l' h1 h2
      exact part_rel (cs := ⟨l⟩) (cs' := ⟨l'⟩) ⟨h1, h2⟩ h

theorem index_sound {ι : Inj} {g : Nat → Nat} {t : TypeId} {x x' ix v : Value} (hx : VRel ι g x x') (h : dry P (Instr.index t x ix) = some v) :
    ∃ v', dry P (Instr.index t x' ix) = some v' ∧ VRel ι g v v' := by
  unfold Instr.index at h ⊢
  simp only [dry_bind] at h ⊢
  cases hi : dry P (asIntOf ix) with
  | none => rw [hi] at h; cases h
  | some p =>
    obtain ⟨k, i⟩ := p
    rw [hi] at h
    simp only [Option.bind_some, dry_bind, dry_underlying] at h ⊢
    cases hd : P.underlying t with
    | none => rw [hd] at h; cases h
    | some d =>
      rw [hd] at h
      simp only [Option.bind_some] at h ⊢
      cases hx with
      | agg l l' h1 h2 =>
        cases d <;> first | (cases h; done) | skip
        rename_i n e
        simp only at h ⊢
        split at h
        · rename_i hb
          rw [if_pos hb]
          simp only [dry_bind, dry_sizeOf] at h ⊢
          cases hii : P.info? e with
          | none => rw [hii] at h; cases h
          | some inf =>
            rw [hii] at h
            exact part_rel (cs := ⟨l⟩) (cs' := ⟨l'⟩) ⟨h1, h2⟩ h
        · exfalso
          revert h
          simp only [boundsPanic, dry_bind]
          split <;> intro h <;> first
            | (simp [choose, Functor.map, Sem.bind, dry] at h; done)
            | (cases h)
            | (simp [dry_pure, runtimePanic, dry_bind, program, dry, goPanic] at h)
      | str s =>
        refine ⟨v, h, ?_⟩
        cases d <;> first | (cases h; done) | skip
        simp only at h
        split at h
        · simp only [dry_pure, Option.some.injEq] at h
          subst h
          exact .int _ _
        · exfalso
          revert h
          simp only [boundsPanic, dry_bind]
          split <;> intro h <;> first
            | (simp [choose, Functor.map, Sem.bind, dry] at h; done)
            | (cases h)
            | (simp [dry_pure, runtimePanic, dry_bind, program, dry, goPanic] at h)
      | _ => cases d <;> cases h

theorem extract_sound {ι : Inj} {g : Nat → Nat} {x x' v : Value} {i : Nat} (hx : VRel ι g x x') (h : dry P (Instr.extract x i) = some v) :
    ∃ v', dry P (Instr.extract x' i) = some v' ∧ VRel ι g v v' := by
  unfold Instr.extract at h ⊢
  cases hx <;> first | (cases h; done) | skip
  rename_i l l' h1 h2
  simp only at h ⊢
  cases hc : (⟨l⟩ : Array Value)[i]? with
  | none => rw [hc] at h; cases h
  | some u =>
    rw [hc] at h
    simp only [dry_pure, Option.some.injEq] at h
    subst h
    obtain ⟨v', k1, k2⟩ := LRel.get (l := l) (l' := l') ⟨h1, h2⟩ (i := i) (v := u) (by simpa using hc)
    refine ⟨v', ?_, k2⟩
    have : (⟨l'⟩ : Array Value)[i]? = some v' := by simpa using k1
    rw [this]; rfl

end Go.Am
