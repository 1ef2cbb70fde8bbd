/-
  The values' layer: from a proof about pure data to the law's call; functions without arguments that the kernel runs. No condition. Nothing of one program stands here.
-/
import Derived.Test.YtmfnchgkffhpfaaDoorVm12
namespace Go.Vm
open Go.Am
variable {P : Program}

def noO : Oracle := fun _ => none

open Classical in
/-- functions without arguments of which it is known that they return true -/
noncomputable def trueO (G : List Nat) (M0 : Mem) (fs : List FuncId) : Oracle := fun f =>
  if f ∈ fs then some fun as m => if as = [] ∧ ∀ k ∈ G, m.get k = M0.get k then some (.bool true, m) else none else none

theorem trueO_none {G : List Nat} {M0 : Mem} {fs : List FuncId} {f : FuncId} (h : f ∉ fs) : trueO G M0 fs f = none := if_neg h

theorem globMem_get {F : Nat} {laid : List (String × DataW Unit)} {k : Nat} (hk : k < P.globals.size) : (globMem P F laid).get k = match globAt P F laid k with | some (e, l) => .cells l e 0 true | none => .cells [] 0 0 true := by
  rw [globMem, get_allocs, if_neg (by simp [Am.empty])]
  simp only [Am.empty, Nat.sub_zero, List.getElem?_map]
  rw [List.getElem?_eq_getElem (by simpa using hk)]
  simp only [List.getElem_range, Option.map_some]
  cases globAt P F laid k <;> rfl

theorem globMem_size {F : Nat} {laid : List (String × DataW Unit)} : (globMem P F laid).size = P.globals.size := by rw [globMem, size_allocs]; simp [Am.empty]

theorem globList_mem {F : Nat} {laid : List (String × DataW Unit)} {k : Nat} (h : k ∈ globList P F laid) : k < P.globals.size ∧ ∃ e l, globAt P F laid k = some (e, l) := by
  simp only [globList, List.mem_filter, List.mem_range] at h
  obtain ⟨h1, h2⟩ := h
  cases hg : globAt P F laid k with
  | none => rw [hg] at h2; cases h2
  | some x => exact ⟨h1, x.1, x.2, rfl⟩

theorem globAt_plain {F : Nat} {laid : List (String × DataW Unit)} {k : Nat} {e : TypeId} {l : List Value} (h : globAt P F laid k = some (e, l)) : l.all Am.plainCell = true := by
  unfold globAt at h
  split at h
  · rename_i x g _ _
    simp only [Option.map_eq_some_iff, Prod.mk.injEq] at h
    obtain ⟨r, h1, _, rfl⟩ := h
    unfold absP at h1
    split at h1
    · rename_i l' m' _
      split at h1
      · rename_i hp; cases h1; exact hp
      · cases h1
    · cases h1
  · cases h

theorem trueO_sound {F N D : Nat} {laid : List (String × DataW Unit)} {fs : List FuncId} (hmix : P.follows .mixedOrders = true)
    (h : ∀ f ∈ fs, ∃ m', acall P noO (globList P F laid) N D f [] (globMem P F laid) = some (.bool true, m')) : OSound P (globList P F laid) (trueO (globList P F laid) (globMem P F laid) fs) := by
  intro f Fo hf
  unfold trueO at hf
  split at hf
  · rename_i hmem
    cases hf
    obtain ⟨m0, h0⟩ := h f hmem
    have hO : OSound P (globList P F laid) noO := fun _ _ h => by cases h
    have hs0 := acall_sound (N := N) hO hmix D f
    refine ⟨fun as m v m' ha ι w as' hsim hrel => ?_, fun as m v m' ha => ?_, hs0.2 _ _ _ h0⟩ <;> simp only at ha
    · split at ha
      · rename_i hc
        obtain ⟨rfl, hg⟩ := hc
        cases ha
        have hsim0 : Sim P (globList P F laid) (fun b => if b ∈ globList P F laid then ι b else none) (globMem P F laid) w := by
          refine ⟨fun b ib hb => ?_, fun b ib hb => ?_, fun b b' ib ib' hb hb' _ => ?_, fun k hk => ?_⟩
          · split at hb
            · rename_i hm
              exact ⟨by rw [globMem_size]; exact (globList_mem hm).1, (hsim.dom b ib hb).2⟩
            · cases hb
          · split at hb
            · rename_i hm
              obtain ⟨hlt, e, l, hgl⟩ := globList_mem hm
              have h1 := hsim.blk b ib hb
              rw [hg b hm] at h1
              have h2 : (globMem P F laid).get b = .cells l e 0 true := by rw [globMem_get hlt, hgl]
              rw [h2] at h1 ⊢
              have hp := globAt_plain hgl
              revert h1
              cases w.heap[ib.blk]? with
              | none => exact fun h => h
              | some o =>
                cases o with
                | cells cs e' fr =>
                  rintro ⟨a1, a2, a3, a4, a5⟩
                  refine ⟨a1, a2, a3, fun i hi => ?_, a5⟩
                  obtain ⟨v', b1, b2⟩ := a4 i hi
                  have hpi : plain (l.getD i undef) = true := by
                    rw [List.getD_eq_getElem?_getD, List.getElem?_eq_getElem hi]
                    have := List.all_eq_true.1 hp _ (List.getElem_mem hi)
                    generalize l[i] = x at this
                    cases x <;> first | exact this | cases this
                  rw [b2.eq_of_plain hpi] at b1
                  exact ⟨_, b1, VRel.plain hpi⟩
                | map es clock => exact fun h => h
                | _ => exact fun h => h
            · cases hb
          · split at hb
            · rename_i hm
              split at hb'
              · rename_i hm'
                obtain ⟨hlt, e, l, hgl⟩ := globList_mem hm
                obtain ⟨hlt', e', l', hgl'⟩ := globList_mem hm'
                right
                exact ⟨by simp only [Mem.ro, globMem_get hlt, hgl, ABlk.ro], by simp only [Mem.ro, globMem_get hlt', hgl', ABlk.ro]⟩
              · cases hb'
            · cases hb
          · obtain ⟨ib, h1, h2, h3, h4, h5⟩ := hsim.glob k hk
            obtain ⟨hlt, e, l, hgl⟩ := globList_mem hk
            refine ⟨ib, by rw [if_pos hk]; exact h1, h2, h3, ?_, ?_⟩
            · simp only [Mem.gen, globMem_get hlt, hgl, ABlk.gen]
            · simp only [Mem.ro, globMem_get hlt, hgl, ABlk.ro]
        have has : as' = #[] := by
          have := hrel.1
          simp only [List.length_nil, Array.length_toList] at this
          exact Array.eq_empty_of_size_eq_zero this.symm
        subst has
        refine (hs0.1 [] _ _ _ h0 _ w #[] hsim0 LRel.nil).mono ?_
        rintro e w' ⟨v', he, ι', hx, hs', hv⟩
        refine ⟨v', he, ι, ?_, ?_, ?_⟩
        · refine ⟨Nat.le_refl _, Nat.le_refl _, fun _ _ _ => rfl, fun _ _ _ => rfl, fun _ _ => rfl, Le.refl _ _, fun b ib' hb => .inl ⟨ib', hb, rfl⟩, fun b ib' hb => .inl ⟨ib', hb⟩, hx.heap, fun c hc _ => ?_, hx.tape, hx.os, hx.output⟩
          refine hx.frame c hc fun b ib hb _ => .inl ?_
          split at hb
          · rename_i hm
            obtain ⟨hlt, e, l, hgl⟩ := globList_mem hm
            simp only [Mem.ro, globMem_get hlt, hgl, ABlk.ro]
          · cases hb
        · refine hsim.world hx.heap fun c hc => hx.frame c hc fun b ib hb _ => .inl ?_
          split at hb
          · rename_i hm
            obtain ⟨hlt, e, l, hgl⟩ := globList_mem hm
            simp only [Mem.ro, globMem_get hlt, hgl, ABlk.ro]
          · cases hb
        · rw [hv.eq_of_plain (v := .bool true) rfl]
          exact VRel.plain (v := .bool true) rfl
      · cases ha
    · split at ha
      · cases ha; exact MemStep.refl _
      · cases ha
  · cases hf

/-- what the listed variables hold -/
def gam (P : Program) (F : Nat) (laid : List (String × DataW Unit)) : Nat → Option (List Value × TypeId) := fun k => if k < P.globals.size then (globAt P F laid k).map fun x => (x.2, x.1) else none

/-- the proof's surroundings for one program -/
noncomputable def lawEnv (P : Program) (F : Nat) (laid : List (String × DataW Unit)) (fs : List FuncId) : Env :=
  ⟨P, trueO (globList P F laid) (globMem P F laid) fs, globList P F laid, gam P F laid⟩

theorem known_fun {F : Nat} {laid : List (String × DataW Unit)} {fs : List FuncId} {f : FuncId} (hf : f ∈ fs) : VFun (lawEnv P F laid fs) f [] (.p (.bool true)) := by
  intro m F' σ as h1 h2
  cases h2
  refine ACalls.oracle (F := fun as m => open Classical in if as = [] ∧ ∀ k ∈ globList P F laid, m.get k = (globMem P F laid).get k then some (.bool true, m) else none) (m' := m) (v := .bool true) (by simp only [lawEnv, trueO, if_pos hf]) ?_ ⟨_, _, _, F', σ, ⟨rfl, rfl, rfl⟩, h1, .p (.bool true), Step.refl _ _ _ _ _⟩
  rw [if_pos]
  refine ⟨rfl, fun k hk => ?_⟩
  obtain ⟨hlt, e, l, hgl⟩ := globList_mem hk
  have := (h1.gl k l e (by simp only [lawEnv, gam, if_pos hlt, hgl, Option.map_some])).2.1
  rw [this, globMem_get hlt, hgl]

/-! ## The arguments -/
theorem HasT.struct {f : Nat} {t : TypeId} {fs : List FV} {sf : Array Field} (h : HasT P (f + 1) t fs) (hu : P.underlying t = some (.struct sf)) : ∃ parts : List (List FV), fs = parts.flatten ∧ All2 (fun (fd : Field) x => HasT P f fd.type x) sf.toList parts := by
  unfold HasT at h; rw [hu] at h; exact h
theorem HasT.slice {f : Nat} {t e : TypeId} {fs : List FV} (h : HasT P (f + 1) t fs) (hu : P.underlying t = some (.slice e)) : ∃ L : List (List FV), fs = [.lst e L.flatten L.length] ∧ L.length ≤ maxLen ∧ ∀ x ∈ L, HasT P f e x := by
  unfold HasT at h; rw [hu] at h; exact h
theorem HasT.array {f n : Nat} {t e : TypeId} {fs : List FV} (h : HasT P (f + 1) t fs) (hu : P.underlying t = some (.array n e)) : ∃ L : List (List FV), fs = L.flatten ∧ L.length = n ∧ ∀ x ∈ L, HasT P f e x := by
  unfold HasT at h; rw [hu] at h; exact h
theorem HasT.int {f : Nat} {t : TypeId} {fs : List FV} {k : IntKind} (h : HasT P (f + 1) t fs) (hu : P.underlying t = some (.int k)) : ∃ n, fs = [.int k n] ∧ (Lit.int k n).wf = true := by
  unfold HasT at h; rw [hu] at h; exact h
theorem HasT.bool {f : Nat} {t : TypeId} {fs : List FV} (h : HasT P (f + 1) t fs) (hu : P.underlying t = some .bool) : ∃ b, fs = [.bool b] := by
  unfold HasT at h; rw [hu] at h; exact h
theorem HasT.str {f : Nat} {t : TypeId} {fs : List FV} (h : HasT P (f + 1) t fs) (hu : P.underlying t = some .string) : ∃ s : ByteArray, fs = [.str s] ∧ s.size ≤ maxLen := by
  unfold HasT at h; rw [hu] at h; exact h

/-- data of the types ts -/
def HasTs (P : Program) (F : Nat) : List TypeId → List (List FV) → Prop := All2 (fun t fs => HasT P F t fs)

/-- cells as one value -/
def packF (P : Program) (t : TypeId) (fs : List FV) : Option FV :=
  match P.underlying t, fs with
  | some (.struct _), fs => some (.agg fs)
  | some (.array _ _), fs => some (.agg fs)
  | some .bool, [v] | some (.int _), [v] | some .string, [v] | some (.slice _), [v] => some v
  | _, _ => none

theorem pack_both {m : Mem} {F : Nat → Prop} {n : Nat} {t : TypeId} {fs : List FV} {l : List Value} (h : RFs m F fs l) (hc : l.all isCell = true) (ht : HasT P n t fs) : ∃ x v, packF P t fs = some x ∧ packT P t l = some v ∧ RF m F x v := by
  cases n with
  | zero => exact ht.elim
  | succ n =>
    unfold HasT at ht
    unfold packF packT
    cases hu : P.underlying t with
    | none => rw [hu] at ht; exact ht.elim
    | some u =>
      rw [hu] at ht
      cases u with
      | bool => obtain ⟨b, rfl⟩ := ht; cases h with | cons h1 t1 => cases t1; exact ⟨_, _, rfl, rfl, h1⟩
      | int k => obtain ⟨b, rfl, _⟩ := ht; cases h with | cons h1 t1 => cases t1; exact ⟨_, _, rfl, rfl, h1⟩
      | string => obtain ⟨b, rfl, _⟩ := ht; cases h with | cons h1 t1 => cases t1; exact ⟨_, _, rfl, rfl, h1⟩
      | slice e => obtain ⟨b, rfl, _⟩ := ht; cases h with | cons h1 t1 => cases t1; exact ⟨_, _, rfl, rfl, h1⟩
      | struct sf => exact ⟨_, _, rfl, rfl, .agg h hc⟩
      | array k e => exact ⟨_, _, rfl, rfl, .agg h hc⟩
      | _ => exact ht.elim

theorem tyOk_succ : ∀ (f : Nat) (t : TypeId), tyOk P f t = true → tyOk P (f + 1) t = true
  | 0, _, h => by cases h
  | f + 1, t, h => by
    have ih := tyOk_succ f
    unfold tyOk at h ⊢
    cases hu : P.underlying t with
    | none => rw [hu] at h; cases h
    | some u =>
      rw [hu] at h
      cases u with
      | bool => rfl
      | int k => rfl
      | string => rfl
      | slice e =>
        simp only [Bool.and_eq_true] at h ⊢
        exact ⟨h.1, ih e h.2⟩
      | struct fs =>
        simp only [Bool.and_eq_true, List.all_eq_true] at h ⊢
        exact ⟨h.1, fun fd hfd => ih _ (h.2 fd hfd)⟩
      | array n e =>
        simp only [Bool.and_eq_true] at h ⊢
        exact ⟨h.1, ih e h.2⟩
      | _ => cases h
theorem tyOk_le {f g : Nat} {t : TypeId} (hfg : f ≤ g) (h : tyOk P f t = true) : tyOk P g t = true := by
  induction hfg with
  | refl => exact h
  | step _ ih => exact tyOk_succ _ _ ih

section
variable {H : Type} {enc : TypeId × Value → H} {W : World} {held : Bool}
def TrodN (enc : TypeId × Value → H) (P : Program) (W : World) (held : Bool) (n : Nat) : List TypeId → List Value → List (DataW H) → Prop
  | [], [], [] => True
  | t :: ts, v :: vs, d :: ds => (∃ p, DataW.trod enc P W 0 (fun _ => true) held n t v.cells.toList = some (d, p)) ∧ TrodN enc P W held n ts vs ds
  | _, _, _ => False
theorem trodN : ∀ (ts : List TypeId) (vs : List Value) (ds : List (DataW H)) (ps : List MemPlace), DataW.TrodAll enc P W 0 (fun _ => true) held ts vs ds ps → ∃ N, ∀ n, N ≤ n → TrodN enc P W held n ts vs ds
  | [], [], [], _, _ => ⟨0, fun _ _ => trivial⟩
  | t :: ts, v :: vs, d :: ds, ps, ⟨p, q, ⟨f, h1⟩, h2, _⟩ => by
    obtain ⟨N, hN⟩ := trodN ts vs ds q h2
    exact ⟨max f N, fun n hn => ⟨⟨p, DataW.trod_le (by omega) h1⟩, hN n (by omega)⟩⟩
  | [], [], _ :: _, _, h => h.elim
  | [], _ :: _, _, _, h => h.elim
  | _ :: _, [], _, _, h => h.elim
  | _ :: _, _ :: _, [], _, h => h.elim

theorem args_layN {n : Nat} : ∀ (ts : List TypeId) (vs : List Value) (ds : List (DataW H)), (∀ t ∈ ts, tyOk P n t = true) → TrodN enc P W held n ts vs ds → ∀ m, ∃ as m' fss xs, absArgs P n ts ds m = some (as, m') ∧
    HasTs P n ts fss ∧ All2 (fun (tf : TypeId × List FV) x => packF P tf.1 tf.2 = some x) (ts.zip fss) xs ∧ RFs m' (fun c => c < m'.size) xs as ∧ m.size ≤ m'.size ∧ ∀ c, c < m.size → m'.get c = m.get c
  | [], [], [], _, _, m => ⟨[], m, [], [], rfl, .nil, .nil, .nil, Nat.le_refl _, fun _ _ => rfl⟩
  | t :: ts, v :: vs, d :: ds, hok, ⟨⟨p, h1⟩, h2⟩, m => by
    obtain ⟨l, m1, fs, e1, e2, e3⟩ := can_lay n t _ d p (hok t (by simp)) h1 m
    obtain ⟨x, u, p1, p2, p3⟩ := pack_both e3.rel e3.cell e2
    obtain ⟨as, m2, fss, xs, q1, q2, q3, q4, q5, q6⟩ := args_layN ts vs ds (fun t ht => hok t (by simp [ht])) h2 m1
    refine ⟨u :: as, m2, fs :: fss, x :: xs, by simp only [absArgs, e1, p2, q1], .cons e2 q2, .cons p1 q3, .cons (p3.mono (grow_fz q5 q6)) q4, Nat.le_trans e3.size q5, fun c hc => (q6 c (by have := e3.size; omega)).trans (e3.get c hc)⟩
  | [], [], _ :: _, _, h, _ => h.elim
  | [], _ :: _, _, _, h, _ => h.elim
  | _ :: _, [], _, _, h, _ => h.elim
  | _ :: _, _ :: _, [], _, h, _ => h.elim

/-- THE LAW: if the function returns true for all data of its parameters' types, the model's call does -/
theorem law {r : Go.Reach} {b0 F : Nat} {laid : List (String × DataW Unit)} {fs : List FuncId} {f : FuncId} {ts : List TypeId} {args : Array Value} {ds : List (DataW H)} {ps : List MemPlace}
    (hL : laidMet P laid W) (hA : DataW.TrodAll enc P W 0 (fun _ => true) held ts args.toList ds ps) (hv : ∀ (j : Nat) t v, ts[j]? = some t → args.toList[j]? = some v → Value.okWide P W r b0 t v)
    (hmix : P.follows .mixedOrders = true) (hty : ts.all (tyOk P F) = true)
    (hO : OSound P (globList P F laid) (trueO (globList P F laid) (globMem P F laid) fs))
    (hp : ∀ j fss xs, HasTs P (j + F) ts fss → All2 (fun (tf : TypeId × List FV) x => packF P tf.1 tf.2 = some x) (ts.zip fss) xs → VFun (lawEnv P F laid fs) f xs (.p (.bool true))) :
    Calls P f args W fun e W' => e = .returned (.bool true) ∧ Go.RowKit.Below W.heap.size W W' := by
  obtain ⟨N, hN⟩ := trodN ts _ ds ps hA
  obtain ⟨j, hj⟩ : ∃ j, max N F = j + F := ⟨max N F - F, by omega⟩
  obtain ⟨as, m1, fss, xs, q1, q2, q3, q4, q5, q6⟩ := args_layN ts _ ds (fun t ht => tyOk_le (by omega) (List.all_eq_true.1 hty t ht)) (hN (max N F) (by omega)) (globMem P F laid)
  rw [hj] at q2
  have hctx : Ctx (lawEnv P F laid fs).Γ m1 (fun c => c < m1.size) (fun _ => undef) [] 0 := by
    refine ⟨fun _ h => h, fun b x hb => (by cases hb), fun b b' x x' c hb => (by cases hb), fun g vs e hg => ?_⟩
    simp only [lawEnv, gam] at hg
    split at hg
    · rename_i hlt
      simp only [Option.map_eq_some_iff, Prod.mk.injEq] at hg
      obtain ⟨⟨e', l⟩, h1, rfl, rfl⟩ := hg
      have hlt' : g < (globMem P F laid).size := by rw [globMem_size]; exact hlt
      exact ⟨by omega, by rw [q6 g hlt', globMem_get hlt, h1], globAt_plain h1⟩
    · cases hg
  obtain ⟨v, m', ⟨K, hK⟩, r0, H', nx', F', σ', ⟨rfl, _, _⟩, _, hrv, _⟩ := hp j fss xs q2 q3 m1 _ _ as hctx (RPs.ofRFs q4)
  have hv1 : v = .bool true := by cases hrv with | p h => cases h; rfl
  subst hv1
  obtain ⟨ι, hs, hro⟩ := glob_open (F := F) hL
  obtain ⟨ι1, o1, o2, o3, o4⟩ := args_open ts _ ds ps hA hv ι _ m1 as hs hro q1
  refine ((acall_sound hO hmix K f).1 as m1 _ m' (hK K K (Nat.le_refl _) (Nat.le_refl _)) ι1 W args o1 o4).mono fun e W' ⟨v', he, ι2, hx, hs2, hvr⟩ => ?_
  have := hvr.eq_of_plain (v := .bool true) rfl
  subst this
  exact ⟨he, ⟨hx.os, hx.tape, hx.output, hx.heap, fun c hcl => hx.frame c hcl fun b ib hb _ => .inl (o3 b (o1.dom b ib hb).1)⟩⟩
end

end Go.Vm
