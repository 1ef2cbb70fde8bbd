/-
  The abstract machine: arguments that came in, opened as read-only blocks. No condition. Nothing of one program stands here.
-/
import Derived.Test.YtmfnchgkffhpfaaDoorAm19
import GoSem.ClaimChange
namespace Go.Am
variable {P : Program} {G : List Nat}

def AllRo (m : Mem) : Prop := ∀ b, b < m.size → m.ro b = true

/-- the memory has only more blocks -/
structure Grow (ι : Inj) (m : Mem) (ι' : Inj) (m' : Mem) : Prop where
  le : Le ι m.gen ι' m'.gen
  size : m.size ≤ m'.size
  get : ∀ b, b < m.size → m'.get b = m.get b

theorem Grow.refl (ι : Inj) (m : Mem) : Grow ι m ι m := ⟨Le.refl _ _, Nat.le_refl _, fun _ _ => rfl⟩
theorem Grow.trans {ι ι' ι'' : Inj} {m m' m'' : Mem} (h : Grow ι m ι' m') (k : Grow ι' m' ι'' m'') : Grow ι m ι'' m'' :=
  ⟨h.le.trans k.le, Nat.le_trans h.size k.size, fun b hb => (k.get b (Nat.lt_of_lt_of_le hb h.size)).trans (h.get b hb)⟩

theorem open_block {ι : Inj} {m : Mem} {W : World} {c sh : Nat} {cs : Array Value} {e e' : TypeId} {fr : Nat × Nat} {vs : List Value} (hs : Sim P G ι m W) (hro : AllRo m)
    (hc : W.heap[c]? = some (.cells cs e' fr)) (hv : ∀ i, i < vs.length → ∃ v', cs[sh + i]? = some v' ∧ VRel ι m.gen (vs.getD i undef) v') :
    ∃ ι', Sim P G ι' (m.alloc (.cells vs e 0 true)) W ∧ ι' m.size = some ⟨c, sh, cs.size, P.cellsOf e⟩ ∧ Grow ι m ι' (m.alloc (.cells vs e 0 true)) ∧ AllRo (m.alloc (.cells vs e 0 true)) := by
  have hget : ∀ b, b < m.size → (m.alloc (.cells vs e 0 true)).get b = m.get b := fun b hb => by rw [Mem.get_alloc, if_neg (by omega)]
  have hgen : ∀ b, b < m.size → (m.alloc (.cells vs e 0 true)).gen b = m.gen b := fun b hb => gen_of_get (hget b hb)
  have hself : (m.alloc (.cells vs e 0 true)).get m.size = .cells vs e 0 true := by rw [Mem.get_alloc, if_pos rfl]
  have hroA : AllRo (m.alloc (.cells vs e 0 true)) := fun b hb => by
    by_cases h : b = m.size
    · subst h; exact Mem.ro_eq hself
    · have : b < m.size := by simp only [Mem.alloc] at hb; omega
      rw [ro_of_get (hget b this)]; exact hro b this
  let ι' : Inj := fun b => if b = m.size then some ⟨c, sh, cs.size, P.cellsOf e⟩ else ι b
  have hle : Le ι m.gen ι' (m.alloc (.cells vs e 0 true)).gen := fun b ib hb => by
    have hlt := (hs.dom b ib hb).1
    refine ⟨by rw [hgen b hlt]; exact Nat.le_refl _, ib, ?_, fun _ => rfl⟩
    show (if b = m.size then _ else ι b) = some ib
    rw [if_neg (by omega)]; exact hb
  have hclt : c < W.heap.size := (Array.getElem?_eq_some_iff.1 hc).1
  refine ⟨ι', ⟨fun b ib hb => ?_, fun b ib hb => ?_, fun b b' ib ib' hb hb' he => ?_, fun k hk => ?_⟩, if_pos rfl, ⟨hle, by simp [Mem.alloc], hget⟩, hroA⟩
  · change (if b = m.size then some _ else ι b) = some ib at hb
    split at hb
    · cases hb; exact ⟨by simp [Mem.alloc]; omega, hclt⟩
    · have := hs.dom b ib hb
      exact ⟨by simp only [Mem.alloc]; omega, this.2⟩
  · change (if b = m.size then some _ else ι b) = some ib at hb
    split at hb
    · rename_i hbe; cases hb; subst hbe
      rw [hself, hc]
      refine ⟨(fun h => by cases h), rfl, rfl, fun i hi => ?_, (fun h => by cases h)⟩
      obtain ⟨v', h1, h2⟩ := hv i hi
      exact ⟨v', h1, h2.mono hle⟩
    · rw [hget b (hs.dom b ib hb).1]
      exact (hs.blk b ib hb).mono hle
  · refine .inr ⟨hroA b ?_, hroA b' ?_⟩
    · change (if b = m.size then some _ else ι b) = some ib at hb
      split at hb
      · simp [Mem.alloc]; omega
      · have := (hs.dom b ib hb).1; simp only [Mem.alloc]; omega
    · change (if b' = m.size then some _ else ι b') = some ib' at hb'
      split at hb'
      · simp [Mem.alloc]; omega
      · have := (hs.dom b' ib' hb').1; simp only [Mem.alloc]; omega
  · obtain ⟨ib, h1, h2, h3, h4, h5⟩ := hs.glob k hk
    have hlt := (hs.dom k ib h1).1
    refine ⟨ib, ?_, h2, h3, by rw [hgen k hlt]; exact h4, by rw [ro_of_get (hget k hlt)]; exact h5⟩
    show (if k = m.size then some _ else ι k) = some ib
    rw [if_neg (by omega)]; exact h1

/-! ## Data as abstract cells -/
def absL {H : Type} (g : TypeId → DataW H → Mem → Option (List Value × Mem)) : List (TypeId × DataW H) → Mem → Option (List Value × Mem)
  | [], m => some ([], m)
  | (t, d) :: rest, m => match g t d m with
    | some (l, m1) => match absL g rest m1 with
      | some (r, m2) => some (l ++ r, m2)
      | none => none
    | none => none

/-- a datum that came in, laid into the abstract memory -/
def absD {H : Type} (P : Program) : Nat → TypeId → DataW H → Mem → Option (List Value × Mem)
  | 0, _, _, _ => none
  | f + 1, t, d, m =>
    match P.underlying t, d with
    | some .bool, .lit (.bool b) => some ([.bool b], m)
    | some (.int k), .lit (.int _ n) => some ([.int k n], m)
    | some .string, .lit (.string s) => some ([.string ⟨s.toArray⟩], m)
    | some (.slice _), .nil => some ([.slice none 0 0], m)
    | some (.slice e), .slice elems spare =>
      if P.cellsOf e = 0 then none else
      if elems.isEmpty && spare.isEmpty then some ([.slice (some ⟨0, 0, some 0⟩) 0 0], m) else
      match absL (absD P f) (elems.map fun x => (e, x)) m with
      | some (l, m1) => some ([.slice (some ⟨m1.size, 0, none⟩) elems.length 0], m1.alloc (.cells l e 0 true))
      | none => none
    | some (.struct fs), .agg parts =>
      if (fs.toList.map fun fd => ((List.range (P.cellsOf t)).drop fd.offset).take (P.cellsOf fd.type)).flatten = List.range (P.cellsOf t) then
        absL (absD P f) ((fs.toList.map (·.type)).zip parts) m else none
    | some (.array n e), .agg parts =>
      if ((List.range n).map fun i => ((List.range (P.cellsOf t)).drop (i * P.cellsOf e)).take (P.cellsOf e)).flatten = List.range (P.cellsOf t) then
        absL (absD P f) (parts.map fun x => (e, x)) m else none
    | _, _ => none

theorem mapM_some {α β : Type} {f : α → Option β} : ∀ {l : List α} {r : List β}, l.mapM f = some r → r.length = l.length ∧ ∀ (i : Nat) a, l[i]? = some a → ∃ b, r[i]? = some b ∧ f a = some b
  | [], r, h => by
    simp only [List.mapM_nil, pure, Option.some.injEq] at h
    subst h
    exact ⟨rfl, fun i a h => by simp at h⟩
  | x :: l, r, h => by
    rw [List.mapM_cons] at h
    simp only [bind, Option.bind_eq_some_iff, pure, Option.some.injEq] at h
    obtain ⟨y, h1, ys, h2, rfl⟩ := h
    obtain ⟨q1, q2⟩ := mapM_some h2
    refine ⟨by simp [q1], fun i a hi => ?_⟩
    cases i with
    | zero => simp only [List.getElem?_cons_zero, Option.some.injEq] at hi; subst hi; exact ⟨y, by simp, h1⟩
    | succ i => simpa using q2 i a (by simpa using hi)

/-- what 'opened' means of one reading -/
def OpenedTo (P : Program) (G : List Nat) (W : World) (ι : Inj) (m : Mem) (l : List Value) (m' : Mem) (cs : List Value) : Prop :=
  ∃ ι', Sim P G ι' m' W ∧ Grow ι m ι' m' ∧ AllRo m' ∧ LRel ι' m'.gen l cs

theorem absL_sound {H : Type} {W : World} {g : TypeId → DataW H → Mem → Option (List Value × Mem)} : ∀ (xs : List (TypeId × DataW H)) (css : List (List Value)) (ι : Inj) (m m' : Mem) (l : List Value),
    xs.length = css.length → (∀ (i : Nat) (t : TypeId) (d : DataW H) (cs : List Value), xs[i]? = some (t, d) → css[i]? = some cs → ∀ (ι : Inj) (m m' : Mem) (l : List Value), Sim P G ι m W → AllRo m → g t d m = some (l, m') → OpenedTo P G W ι m l m' cs) →
    Sim P G ι m W → AllRo m → absL g xs m = some (l, m') → OpenedTo P G W ι m l m' css.flatten
  | [], css, ι, m, m', l, hlen, _, hs, hro, h => by
    cases h
    have : css = [] := List.length_eq_zero_iff.1 hlen.symm
    subst this
    exact ⟨ι, hs, Grow.refl _ _, hro, LRel.nil⟩
  | (t, d) :: xs, css, ι, m, m', l, hlen, hg, hs, hro, h => by
    match css, hlen with
    | cs :: css, hlen =>
      simp only [absL] at h
      cases h1 : g t d m with
      | none => rw [h1] at h; cases h
      | some r =>
        obtain ⟨l1, m1⟩ := r
        rw [h1] at h
        simp only at h
        cases h2 : absL g xs m1 with
        | none => rw [h2] at h; cases h
        | some r2 =>
          obtain ⟨l2, m2⟩ := r2
          rw [h2] at h
          cases h
          obtain ⟨ι1, a1, a2, a3, a4⟩ := hg 0 t d cs (by simp) (by simp) ι m m1 l1 hs hro h1
          obtain ⟨ι2, b1, b2, b3, b4⟩ := absL_sound xs css ι1 m1 m' l2 (by simpa using hlen) (fun i t d cs q1 q2 => hg (i + 1) t d cs (by simpa using q1) (by simpa using q2)) a1 a3 h2
          refine ⟨ι2, b1, a2.trans b2, b3, ?_⟩
          rw [List.flatten_cons]
          exact (a4.mono b2.le).append b4

theorem map_getD_range (cs : List Value) : (List.range cs.length).map (fun i => cs.getD i undef) = cs := by
  apply List.ext_getElem?
  intro i
  by_cases hi : i < cs.length
  · rw [List.getElem?_map, List.getElem?_range hi, List.getElem?_eq_getElem hi]
    simp only [Option.map_some, getD_lt hi]
  · rw [List.getElem?_eq_none (by simpa using hi), List.getElem?_eq_none (by omega)]

/-- parts that cover the cells, in order -/
theorem parts_flatten {α : Type} (cs : List Value) (l : List α) (off size : α → Nat)
    (h : (l.map fun a => ((List.range cs.length).drop (off a)).take (size a)).flatten = List.range cs.length) : (l.map fun a => (cs.drop (off a)).take (size a)).flatten = cs := by
  have h2 := congrArg (List.map fun i => cs.getD i undef) h
  rw [map_getD_range, List.map_flatten, List.map_map] at h2
  refine Eq.trans ?_ h2
  congr 1
  apply List.map_congr_left
  intro a _
  simp only [Function.comp, List.map_take, List.map_drop, map_getD_range]

theorem rows_flatten (sz : Nat) : ∀ (n : Nat) (row : List Value), row.length = n * sz → ((List.range n).map fun i => (row.drop (i * sz)).take sz).flatten = row := by
  intro n
  induction n with
  | zero => intro row h; simp at h; subst h; rfl
  | succ n ih =>
    intro row h
    rw [List.range_succ_eq_map, List.map_cons, List.flatten_cons, List.map_map]
    have h1 : (row.drop sz).length = n * sz := by rw [List.length_drop, h, Nat.succ_mul]; omega
    have h2 := ih (row.drop sz) h1
    have h3 : (List.map ((fun i => List.take sz (List.drop (i * sz) row)) ∘ Nat.succ) (List.range n)) = (List.map (fun i => List.take sz (List.drop (i * sz) (List.drop sz row))) (List.range n)) := by
      apply List.map_congr_left
      intro i _
      simp only [Function.comp, List.drop_drop]
      congr 2
      rw [Nat.succ_mul, Nat.add_comm]
    rw [h3, h2]
    simp

theorem cells?_some {W : World} {a : Addr} {n : Nat} {cs : List Value} (h : W.cells? 0 a n = some cs) : cs.length = n ∧ ∀ i, i < n → W.cell? (a.add i) = cs[i]? := by
  unfold World.cells? at h
  rw [if_pos (Nat.zero_le _)] at h
  obtain ⟨h1, h2⟩ := mapM_some h
  refine ⟨by simpa using h1, fun i hi => ?_⟩
  obtain ⟨b, q1, q2⟩ := h2 i i (List.getElem?_range hi)
  rw [q1]; exact q2

theorem absD_sound {H : Type} {enc : TypeId × Value → H} {W : World} {held : Bool} : ∀ (f : Nat) (t : TypeId) (cs : List Value) (d : DataW H) (ps : List MemPlace),
    DataW.trod enc P W 0 (fun _ => true) held f t cs = some (d, ps) → ∀ (ι : Inj) (m m' : Mem) (l : List Value), Sim P G ι m W → AllRo m → absD P f t d m = some (l, m') → OpenedTo P G W ι m l m' cs := by
  intro f
  induction f with
  | zero => intro t cs d ps h; cases h
  | succ f ih =>
    intro t cs d ps h ι m m' l hs hro ha
    have one : ∀ {v : Value}, plain v = true → OpenedTo P G W ι m [v] m [v] := fun {v} hp => ⟨ι, hs, Grow.refl _ _, hro, LRel.cons (VRel.plain hp) LRel.nil⟩
    unfold DataW.trod at h
    unfold absD at ha
    cases hu : P.underlying t with
    | none => rw [hu] at h; simp at h
    | some u =>
      rw [hu] at h ha
      cases u with
      | bool =>
        match cs, h with
        | [.bool b], h =>
          simp only [Option.some.injEq, Prod.mk.injEq] at h
          obtain ⟨rfl, rfl⟩ := h
          simp only [Option.some.injEq, Prod.mk.injEq] at ha
          obtain ⟨rfl, rfl⟩ := ha
          exact one rfl
      | int k =>
        match cs, h with
        | [.int k' n], h =>
          simp only at h
          split at h
          · rename_i hc
            obtain ⟨rfl, _⟩ := hc
            simp only [Option.some.injEq, Prod.mk.injEq] at h
            obtain ⟨rfl, rfl⟩ := h
            simp only [Option.some.injEq, Prod.mk.injEq] at ha
            obtain ⟨rfl, rfl⟩ := ha
            exact one rfl
          · cases h
      | string =>
        match cs, h with
        | [.string s], h =>
          simp only at h
          split at h
          · simp only [Option.some.injEq, Prod.mk.injEq] at h
            obtain ⟨rfl, rfl⟩ := h
            simp only [Option.some.injEq, Prod.mk.injEq] at ha
            obtain ⟨rfl, rfl⟩ := ha
            exact one rfl
          · cases h
      | struct fs =>
        simp only at h
        split at h
        · rename_i hlen
          rw [Option.map_eq_some_iff] at h
          obtain ⟨xs, hxs, he⟩ := h
          simp only [Prod.mk.injEq] at he
          obtain ⟨rfl, rfl⟩ := he
          simp only at ha
          split at ha
          · rename_i hcov
            obtain ⟨q1, q2⟩ := mapM_some hxs
            have hfl := parts_flatten cs fs.toList (fun fd => fd.offset) (fun fd => P.cellsOf fd.type) (by rw [hlen]; exact hcov)
            have := absL_sound (W := W) (P := P) (G := G) ((fs.toList.map (·.type)).zip (xs.map (·.1))) (fs.toList.map fun fd => (cs.drop fd.offset).take (P.cellsOf fd.type)) ι m m' l
              (by simp only [List.length_zip, List.length_map, q1, Nat.min_self]) (fun i t' d' cs' r1 r2 ι m m' l hs hro ha => by
                rw [List.getElem?_zip_eq_some] at r1
                obtain ⟨r3, r4⟩ := r1
                rw [List.getElem?_map, Option.map_eq_some_iff] at r2 r3 r4
                obtain ⟨fd, s1, rfl⟩ := r2
                obtain ⟨fd', s2, rfl⟩ := r3
                obtain ⟨x, s3, rfl⟩ := r4
                rw [s1] at s2; cases s2
                obtain ⟨b, u1, u2⟩ := q2 i fd s1
                rw [s3] at u1; cases u1
                exact ih _ _ x.1 x.2 u2 ι m m' l hs hro ha) hs hro ha
            rw [hfl] at this
            exact this
          · cases ha
        · cases h
      | array n e =>
        simp only at h
        split at h
        · rename_i hlen
          rw [Option.map_eq_some_iff] at h
          obtain ⟨xs, hxs, he⟩ := h
          simp only [Prod.mk.injEq] at he
          obtain ⟨rfl, rfl⟩ := he
          simp only at ha
          split at ha
          · rename_i hcov
            obtain ⟨q1, q2⟩ := mapM_some hxs
            have hfl := parts_flatten cs (List.range n) (fun i => i * P.cellsOf e) (fun _ => P.cellsOf e) (by rw [hlen]; exact hcov)
            have := absL_sound (W := W) (P := P) (G := G) ((xs.map (·.1)).map fun x => (e, x)) ((List.range n).map fun i => (cs.drop (i * P.cellsOf e)).take (P.cellsOf e)) ι m m' l
              (by simp only [List.length_map, q1]) (fun i t' d' cs' r1 r2 ι m m' l hs hro ha => by
                rw [List.getElem?_map, List.getElem?_map] at r1
                rw [List.getElem?_map, Option.map_eq_some_iff] at r2
                obtain ⟨j, s1, rfl⟩ := r2
                simp only [Option.map_map, Option.map_eq_some_iff, Function.comp, Prod.mk.injEq] at r1
                obtain ⟨x, s3, rfl, rfl⟩ := r1
                obtain ⟨b, u1, u2⟩ := q2 i j s1
                rw [s3] at u1; cases u1
                exact ih _ _ x.1 x.2 u2 ι m m' l hs hro ha) hs hro ha
            rw [hfl] at this
            exact this
          · cases ha
        · cases h
      | slice e =>
        match cs, h with
        | [.slice none 0 0], h =>
          simp only [Option.some.injEq, Prod.mk.injEq] at h
          obtain ⟨rfl, rfl⟩ := h
          simp only [Option.some.injEq, Prod.mk.injEq] at ha
          obtain ⟨rfl, rfl⟩ := ha
          exact one rfl
        | [.slice (some a) len cap], h =>
          simp only [if_true] at h
          split at h
          · rename_i hc
            rw [Option.bind_eq_some_iff] at h
            obtain ⟨elems, he, h⟩ := h
            rw [Option.map_eq_some_iff] at h
            obtain ⟨rest, hr, hd⟩ := h
            simp only [Prod.mk.injEq] at hd
            obtain ⟨rfl, rfl⟩ := hd
            simp only at ha
            split at ha
            · cases ha
            · rename_i hsz
              obtain ⟨q1, q2⟩ := mapM_some he
              obtain ⟨r1, r2⟩ := mapM_some hr
              rw [List.length_range] at q1 r1
              -- each element's cells
              have cell : ∀ i, i < cap → ∃ ce, W.cells? 0 (a.add (i * P.cellsOf e)) (P.cellsOf e) = some ce := fun i hi => by
                by_cases h1 : i < len
                · obtain ⟨b, _, u2⟩ := q2 i i (List.getElem?_range h1)
                  rw [Option.bind_eq_some_iff] at u2
                  obtain ⟨ce, u3, _⟩ := u2
                  exact ⟨ce, u3⟩
                · obtain ⟨b, _, u2⟩ := r2 (i - len) (i - len) (List.getElem?_range (by omega))
                  rw [Option.bind_eq_some_iff] at u2
                  obtain ⟨ce, u3, _⟩ := u2
                  exact ⟨ce, by rw [← u3]; congr 3; omega⟩
              split at ha
              · rename_i hemp
                simp only [Option.some.injEq, Prod.mk.injEq] at ha
                obtain ⟨rfl, rfl⟩ := ha
                simp only [Bool.and_eq_true, List.isEmpty_iff, List.map_eq_nil_iff] at hemp
                obtain ⟨e1, e2⟩ := hemp
                have hl0 : len = 0 := by rw [← q1, e1]; rfl
                have hc0 : cap = 0 := by
                  have : cap - len = 0 := by rw [← r1, e2]; rfl
                  omega
                subst hl0; subst hc0
                exact ⟨ι, hs, Grow.refl _ _, hro, LRel.cons (.slE _ _ _ _) LRel.nil⟩
              · rename_i hemp
                have hcap : 0 < cap := by
                  rcases Nat.eq_zero_or_pos cap with h | h
                  · exfalso
                    subst h
                    have e1 : elems = [] := List.length_eq_zero_iff.1 (by omega)
                    have e2 : rest = [] := List.length_eq_zero_iff.1 (by omega)
                    rw [e1, e2] at hemp
                    simp at hemp
                  · exact h
                have hsz0 : 0 < P.cellsOf e := by omega
                -- the row
                obtain ⟨ce0, hce0⟩ := cell 0 hcap
                rw [Nat.zero_mul, Addr.add_zero'] at hce0
                obtain ⟨l0, c0⟩ := cells?_some hce0
                have hfirst := c0 0 hsz0
                rw [Addr.add_zero', List.getElem?_eq_getElem (by omega : 0 < ce0.length)] at hfirst
                obtain ⟨c, off, spot⟩ := a
                have hspot : spot = none := by
                  unfold World.cell? at hfirst
                  cases spot with
                  | none => rfl
                  | some s => split at hfirst <;> simp at hfirst
                subst hspot
                have hrow : ∃ cs0 e' fr, W.heap[c]? = some (.cells cs0 e' fr) := by
                  unfold World.cell? at hfirst
                  simp only at hfirst
                  split at hfirst
                  · rename_i cs0 e' fr hh; exact ⟨cs0, e', fr, hh⟩
                  · cases hfirst
                obtain ⟨cs0, e', fr, hrow⟩ := hrow
                have cellAt : ∀ k, k < cap * P.cellsOf e → ∃ v, cs0[off + k]? = some v := fun k hk => by
                  have hi : k / P.cellsOf e < cap := (Nat.div_lt_iff_lt_mul hsz0).2 hk
                  obtain ⟨ce, hce⟩ := cell (k / P.cellsOf e) hi
                  obtain ⟨l1, c1⟩ := cells?_some hce
                  have hm : k % P.cellsOf e < P.cellsOf e := Nat.mod_lt _ hsz0
                  have h1 := c1 (k % P.cellsOf e) hm
                  rw [addr_add, addr_add, cell_of_row hrow, List.getElem?_eq_getElem (by omega : k % P.cellsOf e < ce.length)] at h1
                  have e1 : off + k / P.cellsOf e * P.cellsOf e + k % P.cellsOf e = off + k := by
                    have := Nat.div_add_mod' k (P.cellsOf e); omega
                  rw [e1] at h1
                  exact ⟨_, h1⟩
                let row : List Value := (List.range (len * P.cellsOf e)).map fun k => cs0.getD (off + k) undef
                have hrl : row.length = len * P.cellsOf e := by simp [row]
                have hlc : len * P.cellsOf e ≤ cap * P.cellsOf e := Nat.mul_le_mul_right _ hc.2.1
                have rowAt : ∀ k, k < len * P.cellsOf e → row[k]? = cs0[off + k]? := fun k hk => by
                  obtain ⟨v, hv⟩ := cellAt k (by omega)
                  show ((List.range (len * P.cellsOf e)).map fun k => cs0.getD (off + k) undef)[k]? = _
                  rw [List.getElem?_map, List.getElem?_range hk, hv]
                  simp [hv]
                split at ha
                · rename_i l1 m1 habs
                  simp only [Option.some.injEq, Prod.mk.injEq] at ha
                  obtain ⟨rfl, rfl⟩ := ha
                  have hop := absL_sound (W := W) (P := P) (G := G) ((elems.map (·.1)).map fun x => (e, x)) ((List.range len).map fun i => (row.drop (i * P.cellsOf e)).take (P.cellsOf e)) ι m m1 l1
                    (by simp only [List.length_map, q1, List.length_range]) (fun i t' d' cs' u1 u2 ι m m' l hs hro ha => by
                      rw [List.getElem?_map, List.getElem?_map] at u1
                      rw [List.getElem?_map, Option.map_eq_some_iff] at u2
                      obtain ⟨j, s1, rfl⟩ := u2
                      simp only [Option.map_map, Option.map_eq_some_iff, Function.comp, Prod.mk.injEq] at u1
                      obtain ⟨x, s3, rfl, rfl⟩ := u1
                      have hil : i < len := by
                        rcases Nat.lt_or_ge i len with h | h
                        · exact h
                        · rw [List.getElem?_eq_none (by simpa using h)] at s1; cases s1
                      rw [List.getElem?_range hil] at s1
                      cases s1
                      obtain ⟨b, w1, w2⟩ := q2 i i (List.getElem?_range hil)
                      rw [s3] at w1; cases w1
                      rw [Option.bind_eq_some_iff] at w2
                      obtain ⟨ce, w3, w4⟩ := w2
                      obtain ⟨l2, c2⟩ := cells?_some w3
                      have hce : ce = (row.drop (i * P.cellsOf e)).take (P.cellsOf e) := by
                        apply List.ext_getElem?
                        intro j
                        by_cases hj : j < P.cellsOf e
                        · have h1 := c2 j hj
                          rw [addr_add, addr_add, cell_of_row hrow] at h1
                          rw [← h1, List.getElem?_take, if_pos hj, List.getElem?_drop, rowAt _ (by
                            have : (i + 1) * P.cellsOf e ≤ len * P.cellsOf e := Nat.mul_le_mul_right _ (by omega)
                            rw [Nat.succ_mul] at this; omega)]
                          congr 1; omega
                        · rw [List.getElem?_eq_none (by omega), List.getElem?_take, if_neg hj]
                      rw [← hce]
                      exact ih _ _ x.1 x.2 w4 ι m m' l hs hro ha) hs hro habs
                  rw [rows_flatten _ _ _ hrl] at hop
                  obtain ⟨ι1, o1, o2, o3, o4⟩ := hop
                  obtain ⟨ι2, p1, p2, p3, p4⟩ := open_block (e := e) (sh := off) (vs := l1) o1 o3 hrow (fun i hi => by
                    obtain ⟨v', h1, h2⟩ := o4.get (List.getElem?_eq_getElem hi)
                    refine ⟨v', ?_, by rw [getD_lt hi]; exact h2⟩
                    have hil : i < len * P.cellsOf e := by rw [← hrl, ← o4.1]; exact hi
                    rw [← rowAt i hil]; exact h1)
                  refine ⟨ι2, p1, o2.trans p3, p4, LRel.cons ?_ LRel.nil⟩
                  rw [show (elems.map (·.1)).length = len from by rw [List.length_map, q1]]
                  refine .sl _ _ _ _ _ _ ⟨_, p2, Nat.zero_le _, ?_, fun _ => ⟨rfl, rfl, .inr ⟨(Nat.zero_add off).symm, ?_⟩⟩⟩
                  · exact hc.2.1
                  · simp only
                    obtain ⟨v, hv⟩ := cellAt (cap * P.cellsOf e - 1) (by
                      have : 0 < cap * P.cellsOf e := Nat.mul_pos hcap hsz0
                      omega)
                    have := (Array.getElem?_eq_some_iff.1 hv).1
                    have hp : 0 < cap * P.cellsOf e := Nat.mul_pos hcap hsz0
                    omega
                · cases ha
          · cases h
      | _ => simp at ha

end Go.Am
