/-
  The values' layer: what comes in: data of plain types as frozen data. No condition. Nothing of one program stands here.
-/
import Derived.Test.YtmfnchgkffhpfaaDoorVm11
namespace Go.Vm
open Go.Am
variable {P : Program}

inductive All2 {α β : Type} (R : α → β → Prop) : List α → List β → Prop
  | nil : All2 R [] []
  | cons {a : α} {b : β} {l : List α} {r : List β} (h : R a b) (t : All2 R l r) : All2 R (a :: l) (b :: r)

/-- frozen data of a type -/
def HasT (P : Program) : Nat → TypeId → List FV → Prop
  | 0, _, _ => False
  | f + 1, t, fs => match P.underlying t with
    | some .bool => ∃ b, fs = [.bool b]
    | some (.int k) => ∃ n, fs = [.int k n] ∧ (Lit.int k n).wf = true
    | some .string => ∃ s : ByteArray, fs = [.str s] ∧ s.size ≤ maxLen
    | some (.slice e) => ∃ L : List (List FV), fs = [.lst e L.flatten L.length] ∧ L.length ≤ maxLen ∧ ∀ x ∈ L, HasT P f e x
    | some (.struct sf) => ∃ parts : List (List FV), fs = parts.flatten ∧ All2 (fun (fd : Field) x => HasT P f fd.type x) sf.toList parts
    | some (.array n e) => ∃ L : List (List FV), fs = L.flatten ∧ L.length = n ∧ ∀ x ∈ L, HasT P f e x
    | _ => False

/-- types that this layer knows -/
def tyOk (P : Program) : Nat → TypeId → Bool
  | 0, _ => false
  | f + 1, t => match P.underlying t with
    | some .bool | some (.int _) | some .string => true
    | some (.slice e) => P.cellsOf e != 0 && tyOk P f e
    | some (.struct fs) => decide ((fs.toList.map fun fd => ((List.range (P.cellsOf t)).drop fd.offset).take (P.cellsOf fd.type)).flatten = List.range (P.cellsOf t)) && fs.toList.all fun fd => tyOk P f fd.type
    | some (.array n e) => decide (((List.range n).map fun i => ((List.range (P.cellsOf t)).drop (i * P.cellsOf e)).take (P.cellsOf e)).flatten = List.range (P.cellsOf t)) && tyOk P f e
    | _ => false

/-- laid into the abstract memory -/
structure Laid (m m' : Mem) (fs : List FV) (l : List Value) : Prop where
  rel : RFs m' (fun c => c < m'.size) fs l
  cell : l.all isCell = true
  size : m.size ≤ m'.size
  get : ∀ c, c < m.size → m'.get c = m.get c

theorem Laid.refl (m : Mem) {fs : List FV} {l : List Value} (h : RFs m (fun c => c < m.size) fs l) (hc : l.all isCell = true) : Laid m m fs l := ⟨h, hc, Nat.le_refl _, fun _ _ => rfl⟩

theorem grow_fz {m m' : Mem} (hs : m.size ≤ m'.size) (hg : ∀ c, c < m.size → m'.get c = m.get c) : ∀ c, c < m.size → c < m'.size ∧ m'.get c = m.get c := fun c hc => ⟨by omega, hg c hc⟩

section
variable {H : Type} {enc : TypeId × Value → H} {W : World} {held : Bool}

/-- one datum can be laid -/
def CanLay (P : Program) (f : Nat) (t : TypeId) (d : DataW H) : Prop := ∀ m, ∃ l m' fs, absD P f t d m = some (l, m') ∧ HasT P f t fs ∧ Laid m m' fs l

theorem lay_list (f : Nat) : ∀ (xs : List (TypeId × DataW H)), (∀ x ∈ xs, CanLay P f x.1 x.2) → ∀ m, ∃ l m' L, absL (absD P f) xs m = some (l, m') ∧ All2 (fun (x : TypeId × DataW H) fs => HasT P f x.1 fs) xs L ∧ Laid m m' L.flatten l
  | [], _, m => ⟨[], m, [], rfl, .nil, Laid.refl m .nil rfl⟩
  | (t, d) :: xs, h, m => by
    obtain ⟨l1, m1, fs, h1, h2, h3⟩ := h (t, d) (by simp) m
    obtain ⟨l2, m2, L, h4, h5, h6⟩ := lay_list f xs (fun x hx => h x (by simp [hx])) m1
    refine ⟨l1 ++ l2, m2, fs :: L, by simp only [absL, h1, h4], .cons h2 h5, ?_⟩
    rw [List.flatten_cons]
    exact ⟨(h3.rel.mono (grow_fz h6.size h6.get)).append h6.rel, by rw [List.all_append, h3.cell, h6.cell]; rfl, Nat.le_trans h3.size h6.size, fun c hc => (h6.get c (by have := h3.size; omega)).trans (h3.get c hc)⟩

theorem All2.map_left {α β γ : Type} {R : β → γ → Prop} {g : α → β} : ∀ {l : List α} {r : List γ}, All2 R (l.map g) r → All2 (fun a c => R (g a) c) l r
  | [], _, .nil => .nil
  | _ :: _, _, .cons h t => .cons h (All2.map_left t)
theorem All2.const {α γ : Type} {R : γ → Prop} : ∀ {l : List α} {r : List γ}, All2 (fun _ c => R c) l r → l.length = r.length ∧ ∀ x ∈ r, R x
  | _, _, .nil => ⟨rfl, by simp⟩
  | _, _, .cons h t => by
    obtain ⟨h1, h2⟩ := All2.const t
    exact ⟨by simp [h1], fun x hx => (List.mem_cons.1 hx).elim (fun e => e ▸ h) (h2 x)⟩
theorem All2.zip {α β γ : Type} {R : α → γ → Prop} : ∀ {l : List α} {ds : List β} {r : List γ}, l.length = ds.length → All2 (fun (x : α × β) c => R x.1 c) (l.zip ds) r → All2 R l r
  | [], [], _, _, h => by cases h; exact .nil
  | a :: l, d :: ds, r, hl, h => by
    rw [List.zip_cons_cons] at h
    cases h with | cons h t => exact .cons h (All2.zip (by simpa using hl) t)
  | [], _ :: _, _, hl, _ => by simp at hl
  | _ :: _, [], _, hl, _ => by simp at hl

theorem can_lay : ∀ (f : Nat) (t : TypeId) (cs : List Value) (d : DataW H) (ps : List MemPlace), tyOk P f t = true → DataW.trod enc P W 0 (fun _ => true) held f t cs = some (d, ps) → CanLay P f t d
  | 0, _, _, _, _, h, _ => by cases h
  | f + 1, t, cs, d, ps, hok, h => by
    have ih := can_lay f
    intro m
    unfold DataW.trod at h
    unfold absD
    unfold tyOk at hok
    unfold HasT
    cases hu : P.underlying t with
    | none => rw [hu] at hok; cases hok
    | some u =>
      rw [hu] at h hok
      cases u with
      | bool =>
        match cs, h with
        | [.bool b], h =>
          simp only [Option.some.injEq, Prod.mk.injEq] at h
          obtain ⟨rfl, rfl⟩ := h
          exact ⟨_, _, _, rfl, ⟨b, rfl⟩, Laid.refl m (.cons (.bool b) .nil) rfl⟩
      | int k =>
        match cs, h with
        | [.int k' n], h =>
          simp only at h
          split at h
          · rename_i hc
            simp only [Option.some.injEq, Prod.mk.injEq] at h
            obtain ⟨rfl, rfl⟩ := h
            exact ⟨_, _, _, rfl, ⟨n, rfl, hc.2⟩, Laid.refl m (.cons (.int k n) .nil) rfl⟩
          · cases h
      | string =>
        match cs, h with
        | [.string s], h =>
          simp only at h
          split at h
          · rename_i hc
            simp only [Option.some.injEq, Prod.mk.injEq] at h
            obtain ⟨rfl, rfl⟩ := h
            exact ⟨_, _, _, rfl, ⟨s, rfl, hc⟩, Laid.refl m (.cons (.str s) .nil) rfl⟩
          · cases h
      | slice e =>
        simp only [Bool.and_eq_true, bne_iff_ne, ne_eq] at hok
        match cs, h with
        | [.slice none 0 0], h =>
          simp only [Option.some.injEq, Prod.mk.injEq] at h
          obtain ⟨rfl, rfl⟩ := h
          exact ⟨_, _, _, rfl, ⟨[], rfl, Nat.zero_le _, by simp⟩, Laid.refl m (.cons (.nil e) .nil) rfl⟩
        | [.slice (some a) len cap], h =>
          simp only at h
          split at h
          · rename_i hc
            simp only [Option.bind_eq_some_iff, Option.map_eq_some_iff] at h
            obtain ⟨elems, h1, rest, h2, h3⟩ := h
            simp only [Prod.mk.injEq] at h3
            obtain ⟨rfl, rfl⟩ := h3
            obtain ⟨hl, hm⟩ := mapM_some h1
            simp only [hok.1, if_false]
            split
            · rename_i he
              simp only [Bool.and_eq_true, List.isEmpty_iff] at he
              exact ⟨_, _, _, rfl, ⟨[], rfl, Nat.zero_le _, by simp⟩, Laid.refl m (.cons (.room e 0 0 0) .nil) rfl⟩
            · have hcan : ∀ x ∈ (elems.map (·.1)).map fun x => (e, x), CanLay P f x.1 x.2 := by
                intro x hx
                simp only [List.mem_map] at hx
                obtain ⟨y, ⟨z, hz, rfl⟩, rfl⟩ := hx
                obtain ⟨i, hi⟩ := List.getElem?_of_mem hz
                have hlt : i < (List.range len).length := by
                  have : i < elems.length := by
                    rcases Nat.lt_or_ge i elems.length with h | h
                    · exact h
                    · rw [List.getElem?_eq_none h] at hi; cases hi
                  omega
                obtain ⟨b, hb1, hb2⟩ := hm i _ (List.getElem?_eq_getElem hlt)
                rw [hi] at hb1; cases hb1
                simp only [Option.bind_eq_some_iff] at hb2
                obtain ⟨cs', _, hb3⟩ := hb2
                exact ih e cs' z.1 z.2 hok.2 hb3
              obtain ⟨l, m', L, e1, e2, e3⟩ := lay_list f _ hcan m
              obtain ⟨e4, e5⟩ := All2.const (R := fun fs => HasT P f e fs) (All2.map_left (R := fun (x : TypeId × DataW H) fs => HasT P f x.1 fs) (g := fun x => (e, x)) e2)
              rw [e1]
              simp only [List.length_map, List.length_range] at e4 hl ⊢
              have hg : ∀ c, c < m'.size → (m'.alloc (.cells l e 0 true)).get c = m'.get c := fun c hc => by rw [Mem.get_alloc, if_neg (by omega)]
              have hsz : (m'.alloc (.cells l e 0 true)).size = m'.size + 1 := rfl
              refine ⟨_, _, _, rfl, ⟨L, rfl, by omega, e5⟩, ⟨?_, rfl, by rw [hsz]; have := e3.size; omega, fun c hc => (hg c (by have := e3.size; omega)).trans (e3.get c hc)⟩⟩
              rw [show elems.length = L.length by omega]
              refine .cons (.lst (by rw [hsz]; omega) (by rw [Mem.get_alloc, if_pos rfl]) (ws := l) ?_ (e3.rel.mono fun c hc => ⟨by rw [hsz]; omega, hg c hc⟩) e3.cell) .nil
              rw [List.drop_zero, e3.rel.length]; simp [takeN]
          · cases h
      | struct sf =>
        simp only [Bool.and_eq_true, decide_eq_true_eq] at hok
        obtain ⟨hok1, hok2⟩ := hok
        have h' : (if cs.length = P.cellsOf t then (sf.toList.mapM fun f_1 => DataW.trod enc P W 0 (fun _ => true) held f f_1.type ((cs.drop f_1.offset).take (P.cellsOf f_1.type))).map fun xs => ((.agg (xs.map (·.1)) : DataW H), xs.flatMap (·.2)) else none) = some (d, ps) := by
          revert h; cases cs with
          | nil => exact id
          | cons c cs => cases c <;> cases cs <;> exact id
        split at h'
        · simp only [Option.map_eq_some_iff, Prod.mk.injEq] at h'
          obtain ⟨xs, h1, rfl, rfl⟩ := h'
          obtain ⟨hl, hm⟩ := mapM_some h1
          simp only [hok1, if_true]
          have hcan : ∀ x ∈ (sf.toList.map (·.type)).zip (xs.map (·.1)), CanLay P f x.1 x.2 := by
            intro x hx
            obtain ⟨i, hi⟩ := List.getElem?_of_mem hx
            rw [List.getElem?_zip_eq_some, List.getElem?_map, List.getElem?_map, Option.map_eq_some_iff, Option.map_eq_some_iff] at hi
            obtain ⟨⟨fd, hfd, hx1⟩, ⟨y, hy, hx2⟩⟩ := hi
            obtain ⟨b, hb1, hb2⟩ := hm i fd hfd
            rw [hy] at hb1; cases hb1
            have hx' : x = (fd.type, y.1) := by rw [hx1, hx2]
            rw [hx']
            exact ih fd.type _ y.1 y.2 (List.all_eq_true.1 hok2 fd (List.mem_of_getElem? hfd)) hb2
          obtain ⟨l, m', L, e1, e2, e3⟩ := lay_list f _ hcan m
          refine ⟨l, m', L.flatten, e1, ⟨L, rfl, ?_⟩, e3⟩
          exact All2.map_left (R := fun t fs => HasT P f t fs) (g := fun (fd : Field) => fd.type) (All2.zip (R := fun t fs => HasT P f t fs) (by simp only [List.length_map]; omega) e2)
        · cases h'
      | array n e =>
        simp only [Bool.and_eq_true, decide_eq_true_eq] at hok
        obtain ⟨hok1, hok2⟩ := hok
        have h' : (if cs.length = P.cellsOf t then ((List.range n).mapM fun i => DataW.trod enc P W 0 (fun _ => true) held f e ((cs.drop (i * P.cellsOf e)).take (P.cellsOf e))).map fun xs => ((.agg (xs.map (·.1)) : DataW H), xs.flatMap (·.2)) else none) = some (d, ps) := by
          revert h; cases cs with
          | nil => exact id
          | cons c cs => cases c <;> cases cs <;> exact id
        split at h'
        · simp only [Option.map_eq_some_iff, Prod.mk.injEq] at h'
          obtain ⟨xs, h1, rfl, rfl⟩ := h'
          obtain ⟨hl, hm⟩ := mapM_some h1
          simp only [hok1, if_true]
          have hcan : ∀ x ∈ (xs.map (·.1)).map fun x => (e, x), CanLay P f x.1 x.2 := by
            intro x hx
            simp only [List.mem_map] at hx
            obtain ⟨y, ⟨z, hz, rfl⟩, rfl⟩ := hx
            obtain ⟨i, hi⟩ := List.getElem?_of_mem hz
            have hlt : i < (List.range n).length := by
              have : i < xs.length := by
                rcases Nat.lt_or_ge i xs.length with h | h
                · exact h
                · rw [List.getElem?_eq_none h] at hi; cases hi
              omega
            obtain ⟨b, hb1, hb2⟩ := hm i _ (List.getElem?_eq_getElem hlt)
            rw [hi] at hb1; cases hb1
            exact ih e _ z.1 z.2 hok2 hb2
          obtain ⟨l, m', L, e1, e2, e3⟩ := lay_list f _ hcan m
          obtain ⟨e4, e5⟩ := All2.const (R := fun fs => HasT P f e fs) (All2.map_left (R := fun (x : TypeId × DataW H) fs => HasT P f x.1 fs) (g := fun x => (e, x)) e2)
          simp only [List.length_map, List.length_range] at e4 hl
          exact ⟨l, m', L.flatten, e1, ⟨L, rfl, by omega, e5⟩, e3⟩
        · cases h'
      | _ => cases hok
end

end Go.Vm
