/-
  The abstract machine: a law's arguments and the listed variables, opened; from 'acall' to 'Calls .. Below'. No condition. Nothing of one program stands here.
-/
import Derived.Test.YtmfnchgkffhpfaaDoorAm20
import Derived.ProofKit
import Derived.Below
import Derived.WideShapes
import Derived.ChangeMaps5
import GoSem.ClaimJoined
namespace Go.Am
variable {P : Program} {G : List Nat}

theorem absL_mono {H : Type} {g g' : TypeId → DataW H → Mem → Option (List Value × Mem)} (hg : ∀ t d m r, g t d m = some r → g' t d m = some r) :
    ∀ (xs : List (TypeId × DataW H)) (m : Mem) (r : List Value × Mem), absL g xs m = some r → absL g' xs m = some r
  | [], m, r, h => h
  | (t, d) :: xs, m, r, h => by
    simp only [absL] at h ⊢
    cases h1 : g t d m with
    | none => rw [h1] at h; cases h
    | some a =>
      rw [h1] at h
      rw [hg _ _ _ _ h1]
      simp only at h ⊢
      cases h2 : absL g xs a.2 with
      | none => rw [h2] at h; cases h
      | some b =>
        rw [h2] at h
        rw [absL_mono hg xs _ _ h2]
        exact h

theorem absD_succ {H : Type} : ∀ (f : Nat) (t : TypeId) (d : DataW H) (m : Mem) (r : List Value × Mem), absD P f t d m = some r → absD P (f + 1) t d m = some r
  | 0, _, _, _, _, h => by cases h
  | f + 1, t, d, m, r, h => by
    have ih := fun t d m r => absD_succ (H := H) f t d m r
    unfold absD at h ⊢
    split at h
    all_goals try exact h
    all_goals try (cases h; done)
    all_goals split at h
    all_goals try (cases h; done)
    all_goals rename_i h0
    · simp only [if_neg h0]
      split at h
      · rename_i h1; simp only [if_pos h1]; exact h
      · rename_i h1
        simp only [if_neg h1]
        split at h
        · rename_i l m1 h2
          rw [absL_mono ih _ _ _ h2]
          exact h
        · cases h
    · simp only [if_pos h0]; exact absL_mono ih _ _ _ h
    · simp only [if_pos h0]; exact absL_mono ih _ _ _ h

theorem absD_le {H : Type} {f g : Nat} {t : TypeId} {d : DataW H} {m : Mem} {r : List Value × Mem} (hfg : f ≤ g) (h : absD P f t d m = some r) : absD P g t d m = some r := by
  induction hfg with
  | refl => exact h
  | step _ ih => exact absD_succ _ _ _ _ _ ih

/-- a reading, opened, whatever the fuels -/
theorem trod_open {H : Type} {enc : TypeId × Value → H} {W : World} {held : Bool} {t : TypeId} {v : Value} {d : DataW H} {ps : List MemPlace} (h : DataW.Trod enc P W 0 (fun _ => true) held t v d ps)
    {F : Nat} {ι : Inj} {m m' : Mem} {l : List Value} (hs : Sim P G ι m W) (hro : AllRo m) (ha : absD P F t d m = some (l, m')) : OpenedTo P G W ι m l m' v.cells.toList := by
  obtain ⟨f, hf⟩ := h
  exact absD_sound (max f F) t _ d ps (DataW.trod_le (Nat.le_max_left _ _) hf) ι m m' l hs hro (absD_le (Nat.le_max_right _ _) ha)

def packT (P : Program) (t : TypeId) (l : List Value) : Option Value :=
  match P.underlying t, l with
  | some (.struct _), l => some (.agg ⟨l⟩)
  | some (.array _ _), l => some (.agg ⟨l⟩)
  | some .bool, [v] | some (.int _), [v] | some .string, [v] | some (.slice _), [v] => some v
  | _, _ => none

/-- the arguments of a call, laid into the abstract memory -/
def absArgs {H : Type} (P : Program) (F : Nat) : List TypeId → List (DataW H) → Mem → Option (List Value × Mem)
  | [], [], m => some ([], m)
  | t :: ts, d :: ds, m => match absD P F t d m with
    | some (l, m1) => match packT P t l with
      | some v => match absArgs P F ts ds m1 with
        | some (r, m2) => some (v :: r, m2)
        | none => none
      | none => none
    | none => none
  | _, _, _ => none

theorem pack_rel {W : World} {r : Go.Reach} {b0 : Nat} {ι : Inj} {g : Nat → Nat} {t : TypeId} {v x : Value} {l : List Value} (hv : Value.okWide P W r b0 t v) (hp : packT P t l = some x)
    (hl : LRel ι g l v.cells.toList) : VRel ι g x v := by
  unfold packT at hp
  split at hp
  · rename_i hu
    cases hp
    simp only [Value.okWide, hu] at hv
    obtain ⟨⟨cs⟩, rfl, -⟩ := hv
    exact .agg _ _ hl.1 hl.2
  · rename_i hu
    cases hp
    simp only [Value.okWide, hu] at hv
    obtain ⟨⟨cs⟩, rfl, -⟩ := hv
    exact .agg _ _ hl.1 hl.2
  all_goals first
    | (rename_i hu
       cases hp
       simp only [Value.okWide, hu, Cell.okWide] at hv
       have hc : v.cells = #[v] := by cases v <;> simp_all [Cell.ok, Value.cells]
       rw [hc] at hl
       have := hl.2 0 (by simp)
       simpa using this)
    | cases hp

theorem args_open {H : Type} {enc : TypeId × Value → H} {W : World} {held : Bool} {r : Go.Reach} {b0 : Nat} {F : Nat} : ∀ (ts : List TypeId) (vs : List Value) (ds : List (DataW H)) (ps : List MemPlace),
    DataW.TrodAll enc P W 0 (fun _ => true) held ts vs ds ps → (∀ (j : Nat) t v, ts[j]? = some t → vs[j]? = some v → Value.okWide P W r b0 t v) →
    ∀ (ι : Inj) (m m' : Mem) (as : List Value), Sim P G ι m W → AllRo m → absArgs P F ts ds m = some (as, m') → OpenedTo P G W ι m as m' vs
  | [], [], [], ps, h, hv, ι, m, m', as, hs, hro, ha => by
    cases ha
    exact ⟨ι, hs, Grow.refl _ _, hro, LRel.nil⟩
  | t :: ts, v :: vs, d :: ds, ps, h, hv, ι, m, m', as, hs, hro, ha => by
    obtain ⟨p, q, h1, h2, -⟩ := h
    simp only [absArgs] at ha
    split at ha
    · rename_i l m1 e1
      split at ha
      · rename_i x e2
        split at ha
        · rename_i r' m2 e3
          cases ha
          obtain ⟨ι1, o1, o2, o3, o4⟩ := trod_open h1 hs hro e1
          obtain ⟨ι2, p1, p2, p3, p4⟩ := args_open ts vs ds q h2 (fun j t v ht hv' => hv (j + 1) t v (by simpa using ht) (by simpa using hv')) ι1 m1 _ r' o1 o3 e3
          exact ⟨ι2, p1, o2.trans p2, p3, LRel.cons ((pack_rel (hv 0 t v rfl rfl) e2 o4).mono p2.le) p4⟩
        · cases ha
      · cases ha
    · cases ha
  | [], [], _ :: _, ps, h, _, _, _, _, _, _, _, _ => h.elim
  | [], _ :: _, _, ps, h, _, _, _, _, _, _, _, _ => h.elim
  | _ :: _, [], _, ps, h, _, _, _, _, _, _, _, _ => h.elim
  | _ :: _, _ :: _, [], ps, h, _, _, _, _, _, _, _, _ => h.elim

/-! ## The listed variables -/
def allocs (m : Mem) : List ABlk → Mem
  | [] => m
  | b :: r => allocs (m.alloc b) r

theorem size_allocs : ∀ (l : List ABlk) (m : Mem), (allocs m l).size = m.size + l.length
  | [], m => rfl
  | b :: r, m => by rw [allocs, size_allocs r]; simp [Mem.alloc]; omega

theorem get_allocs : ∀ (l : List ABlk) (m : Mem) (b : Nat), (allocs m l).get b = if b < m.size then m.get b else match l[b - m.size]? with | some x => x | none => m.get b
  | [], m, b => by simp [allocs]
  | x :: r, m, b => by
    rw [allocs, get_allocs r, Mem.get_alloc]
    have hsz : (m.alloc x).size = m.size + 1 := rfl
    rw [hsz]
    by_cases h1 : b < m.size
    · rw [if_pos (by omega), if_pos h1, if_neg (by omega)]
    · by_cases h2 : b = m.size
      · subst h2; simp
      · rw [if_neg (by omega), if_neg h1, if_neg (by omega)]
        have : b - m.size = (b - (m.size + 1)) + 1 := by omega
        rw [this, List.getElem?_cons_succ]

def empty : Mem := ⟨.leaf, 0, 0⟩

/-- a table of plain cells -/
def absP (P : Program) (F : Nat) (t : TypeId) (d : DataW Unit) : Option (List Value) :=
  match absD P F t d empty with
  | some (l, _) => if l.all plainCell then some l else none
  | none => none

def elemT (P : Program) (t : TypeId) : TypeId := match P.underlying t with | some (.array _ e) => e | _ => t

def globAt (P : Program) (F : Nat) (laid : List (String × DataW Unit)) (k : Nat) : Option (TypeId × List Value) :=
  match laid.find? (fun x => P.globalNamed x.1 == some k), P.globals[k]? with
  | some x, some g => (absP P F g.type x.2).map fun l => (elemT P g.type, l)
  | _, _ => none

def globMem (P : Program) (F : Nat) (laid : List (String × DataW Unit)) : Mem :=
  allocs empty ((List.range P.globals.size).map fun k => match globAt P F laid k with
    | some (e, l) => .cells l e 0 true
    | none => .cells [] 0 0 true)

def globList (P : Program) (F : Nat) (laid : List (String × DataW Unit)) : List Nat := (List.range P.globals.size).filter fun k => (globAt P F laid k).isSome

theorem laid_at {W : World} : ∀ {laid : List (String × DataW Unit)} {ps : List MemPlace}, DataW.LaidVars P W laid ps → ∀ x ∈ laid, ∃ g t cs fuel p, P.globalNamed x.1 = some g ∧ (P.globals[g]?).map (·.type) = some t ∧
    W.var? P x.1 = some cs ∧ DataW.trod (fun _ => ()) P W 0 (fun _ => true) false fuel t cs.toList = some (x.2, p)
  | [], _, _, x, hx => by cases hx
  | (n, d) :: r, ps, h, x, hx => by
    obtain ⟨g, t, cs, fuel, p, q, h1, h2, h3, h4, h5, -⟩ := h
    rcases List.mem_cons.1 hx with rfl | hx
    · exact ⟨g, t, cs, fuel, p, h1, h2, h3, h4⟩
    · exact laid_at h5 x hx

theorem emptySim (W : World) : Sim P [] (fun _ => none) empty W :=
  ⟨fun _ _ h => (by cases h), fun _ _ h => (by cases h), fun _ _ _ _ h => (by cases h), fun _ h => (by cases h)⟩

theorem glob_cells {F : Nat} {laid : List (String × DataW Unit)} {W : World} (hL : laidMet P laid W) {k : Nat} {e : TypeId} {l : List Value} (hk : globAt P F laid k = some (e, l)) :
    l.all plainCell = true ∧ ∃ cs e' fr, W.heap[k]? = some (.cells cs e' fr) ∧ cs.toList = l := by
  obtain ⟨ps, hL, -⟩ := hL
  unfold globAt at hk
  split at hk
  · rename_i x g hx hg
    rw [Option.map_eq_some_iff] at hk
    obtain ⟨l', h1, h2⟩ := hk
    cases h2
    have hmem := List.mem_of_find?_eq_some hx
    have hn : P.globalNamed x.1 = some k := by simpa using List.find?_some hx
    obtain ⟨g', t, cs, fuel, p, q1, q2, q3, q4⟩ := laid_at hL x hmem
    obtain rfl : g' = k := Option.some.inj (q1.symm.trans hn)
    have ht : t = g.type := by rw [hg] at q2; exact (Option.some.inj q2).symm
    subst ht
    unfold absP at h1
    split at h1
    · rename_i l2 m' ha
      split at h1
      · rename_i hp
        cases h1
        obtain ⟨ι', o1, o2, o3, o4⟩ := absD_sound (G := []) (max fuel F) _ _ _ _ (DataW.trod_le (Nat.le_max_left _ _) q4) (fun _ => none) empty _ _ (emptySim W) (fun b hb => by cases hb) (absD_le (Nat.le_max_right _ _) ha)
        refine ⟨hp, ?_⟩
        have hcs : cs.toList = l := by
          apply List.ext_getElem?
          intro i
          by_cases hi : i < l.length
          · obtain ⟨v', h1, h2⟩ := o4.get (List.getElem?_eq_getElem hi)
            rw [h1, List.getElem?_eq_getElem hi, h2.eq_of_plainCell (List.all_eq_true.1 hp _ (List.getElem_mem hi))]
          · rw [List.getElem?_eq_none (by have := o4.1; omega), List.getElem?_eq_none (by omega)]
        simp only [World.var?, q1, Option.bind_some] at q3
        split at q3
        · rename_i cs' e' fr hh
          cases q3
          exact ⟨cs, e', fr, hh, hcs⟩
        · cases q3
      · cases h1
    · cases h1
  · cases hk

theorem glob_open {F : Nat} {laid : List (String × DataW Unit)} {W : World} (hL : laidMet P laid W) : ∃ ι, Sim P (globList P F laid) ι (globMem P F laid) W ∧ AllRo (globMem P F laid) := by
  have hsz : (globMem P F laid).size = P.globals.size := by rw [globMem, size_allocs]; simp [empty]
  have hget : ∀ k, k < P.globals.size → (globMem P F laid).get k = match globAt P F laid k with | some (e, l) => .cells l e 0 true | none => .cells [] 0 0 true := fun k hk => by
    rw [globMem, get_allocs, if_neg (by simp [empty])]
    simp only [empty, Nat.sub_zero, List.getElem?_map, List.getElem?_range hk, Option.map_some]
  have hro : AllRo (globMem P F laid) := fun b hb => by
    have h := hget b (hsz ▸ hb)
    split at h <;> exact Mem.ro_eq h
  let ι : Inj := fun k => match globAt P F laid k, W.heap[k]? with
    | some (e, l), some (.cells cs _ _) => if k < P.globals.size then some ⟨k, 0, cs.size, P.cellsOf e⟩ else none
    | _, _ => none
  have hι : ∀ k ib, ι k = some ib → k < P.globals.size ∧ ∃ e l cs e' fr, globAt P F laid k = some (e, l) ∧ W.heap[k]? = some (.cells cs e' fr) ∧ ib = ⟨k, 0, cs.size, P.cellsOf e⟩ := fun k ib h => by
    simp only [ι] at h
    split at h
    · rename_i e l cs e' fr h1 h2
      split at h
      · rename_i h3
        cases h
        exact ⟨h3, e, l, cs, e', fr, h1, h2, rfl⟩
      · cases h
    · cases h
  refine ⟨ι, ⟨fun k ib h => ?_, fun k ib h => ?_, fun k k' ib ib' h h' _ => ?_, fun k hk => ?_⟩, hro⟩
  · obtain ⟨h1, e, l, cs, e', fr, h2, h3, rfl⟩ := hι k ib h
    exact ⟨hsz ▸ h1, (Array.getElem?_eq_some_iff.1 h3).1⟩
  · obtain ⟨h1, e, l, cs, e', fr, h2, h3, rfl⟩ := hι k ib h
    have hg := hget k h1
    rw [h2] at hg
    simp only at hg
    obtain ⟨hp, cs', e2, fr2, h4, h5⟩ := glob_cells hL h2
    rw [h3] at h4
    cases h4
    simp only [hg, h3]
    refine ⟨fun h => (by cases h), rfl, rfl, fun i hi => ?_, fun h => (by cases h)⟩
    refine ⟨l.getD i undef, ?_, VRel.plainCell (List.all_eq_true.1 hp _ (getD_mem hi))⟩
    rw [Nat.zero_add, ← Array.getElem?_toList, h5, getD_lt hi]
    exact List.getElem?_eq_getElem hi
  · exact .inr ⟨hro k (hsz ▸ (hι k ib h).1), hro k' (hsz ▸ (hι k' ib' h').1)⟩
  · simp only [globList, List.mem_filter, List.mem_range] at hk
    obtain ⟨h1, h2⟩ := hk
    obtain ⟨⟨e, l⟩, h3⟩ := Option.isSome_iff_exists.1 h2
    obtain ⟨hp, cs, e', fr, h4, h5⟩ := glob_cells hL h3
    refine ⟨⟨k, 0, cs.size, P.cellsOf e⟩, ?_, rfl, rfl, ?_, hro k (hsz ▸ h1)⟩
    · simp only [ι, h3, h4, if_pos h1]
    · have hg := hget k h1
      rw [h3] at hg
      simp only [Mem.gen, hg, ABlk.gen]

/-! ## From the machine to the program -/
theorem law_calls {H : Type} {enc : TypeId × Value → H} {W : World} {held : Bool} {r : Go.Reach} {b0 F N D : Nat} {laid : List (String × DataW Unit)} {O : Oracle} {f : FuncId} {ts : List TypeId} {args : Array Value}
    {ds : List (DataW H)} {ps : List MemPlace} (hL : laidMet P laid W) (hA : DataW.TrodAll enc P W 0 (fun _ => true) held ts args.toList ds ps)
    (hv : ∀ (j : Nat) t v, ts[j]? = some t → args.toList[j]? = some v → Value.okWide P W r b0 t v)
    (hO : OSound P (globList P F laid) O) (hmix : P.follows .mixedOrders = true) {as : List Value} {m1 : Mem} {m' : Mem} {b : Bool}
    (ha : absArgs P F ts ds (globMem P F laid) = some (as, m1)) (hc : acall P O (globList P F laid) N D f as m1 = some (.bool b, m')) :
    Calls P f args W fun e W' => e = .returned (.bool b) ∧ Go.RowKit.Below W.heap.size W W' := by
  obtain ⟨ι, hs, hro⟩ := glob_open (F := F) hL
  obtain ⟨ι1, o1, o2, o3, o4⟩ := args_open ts _ ds ps hA hv ι _ m1 as hs hro ha
  refine ((acall_sound hO hmix D f).1 as m1 _ m' hc ι1 W args o1 o4).mono fun e W' ⟨v', he, ι2, hx, hs2, hvr⟩ => ?_
  have := hvr.eq_of_plain (v := .bool b) rfl
  subst this
  exact ⟨he, ⟨hx.os, hx.tape, hx.output, hx.heap, fun c hcl => hx.frame c hcl fun b ib hb _ => .inl (o3 b (o1.dom b ib hb).1)⟩⟩

end Go.Am
