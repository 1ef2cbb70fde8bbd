/-
  The values' layer: the law over any sound oracle; an oracle for slices.Grow at the nil slice (it makes an own slice without elements). No condition. Nothing of one program stands here.
-/
import Derived.Test.YtmfnchgkffhpfaaDoorVmD
set_option linter.unusedSimpArgs false
set_option linter.unusedVariables false
namespace Go.Vm
open Go.Am
section
variable {P : Program}
/-- the proof's surroundings for one program, with any oracle -/
noncomputable def lawEnvX (P : Program) (F : Nat) (laid : List (String × DataW Unit)) (O : Oracle) : Env := ⟨P, O, globList P F laid, gam P F laid⟩
theorem lib_funX {O : Oracle} {F : Nat} {laid : List (String × DataW Unit)} {ls : List (FuncId × LibF)} {f : FuncId} {Fn : LibF} {xs : List FV} {r : FV} (hO : O f = libO (globList P F laid) (globMem P F laid) ls f) (hf : ls.lookup f = some Fn)
    (h : ∀ m F' as, RFs m F' xs as → ∃ v, Fn as m = some v ∧ RF m F' r v) : VFun (lawEnvX P F laid O) f xs (.p r) := by
  intro m F' σ as h1 h2
  have h2' : RFs m F' xs as := RFs.ofRPs h2
  obtain ⟨v, h3, h4⟩ := h m F' as h2'
  have hg : ∀ k ∈ globList P F laid, m.get k = (globMem P F laid).get k := fun k hk => by
    obtain ⟨hlt, e, l, hgl⟩ := globList_mem hk
    have := (h1.gl k l e (by simp only [lawEnvX, gam, if_pos hlt, hgl, Option.map_some])).2.1
    rw [this, globMem_get hlt, hgl]
  refine ACalls.oracle (F := fun as m => open Classical in if ∀ k ∈ globList P F laid, m.get k = (globMem P F laid).get k then (Fn as m).map fun v => (v, m) else none) (m' := m) (v := v) (by simp only [lawEnvX, hO, libO, hf]) ?_
    ⟨_, _, _, F', σ, ⟨rfl, rfl, rfl⟩, h1, .p h4, Step.refl _ _ _ _ _⟩
  rw [if_pos hg, h3]; rfl


variable {H : Type} {enc : TypeId × Value → H} {W : World} {held : Bool}
/-- THE LAW: if the function returns true for all data of its parameters' types, the model's call does -/
theorem lawX {r : Go.Reach} {b0 F : Nat} {laid : List (String × DataW Unit)} {O : Oracle} {f : FuncId} {ts : List TypeId} {args : Array Value} {ds : List (DataW H)} {ps : List MemPlace}
    (hL : laidMet P laid W) (hA : DataW.TrodAll enc P W 0 (fun _ => true) held ts args.toList ds ps) (hv : ∀ (j : Nat) t v, ts[j]? = some t → args.toList[j]? = some v → Value.okWide P W r b0 t v)
    (hmix : P.follows .mixedOrders = true) (hty : ts.all (tyOk P F) = true)
    (hO : OSound P (globList P F laid) O)
    (hp : ∀ j fss xs, HasTs P (j + F) ts fss → All2 (fun (tf : TypeId × List FV) x => packF P tf.1 tf.2 = some x) (ts.zip fss) xs → VFun (lawEnvX P F laid O) f xs (.p (.bool true))) :
    Calls P f args W fun e W' => e = .returned (.bool true) ∧ Go.RowKit.Below W.heap.size W W' := by
  obtain ⟨N, hN⟩ := trodN ts _ ds ps hA
  obtain ⟨j, hj⟩ : ∃ j, max N F = j + F := ⟨max N F - F, by omega⟩
  obtain ⟨as, m1, fss, xs, q1, q2, q3, q4, q5, q6⟩ := args_layN ts _ ds (fun t ht => tyOk_le (by omega) (List.all_eq_true.1 hty t ht)) (hN (max N F) (by omega)) (globMem P F laid)
  rw [hj] at q2
  have hctx : Ctx (lawEnvX P F laid O).Γ m1 (fun c => c < m1.size) (fun _ => undef) [] 0 := by
    refine ⟨fun _ h => h, fun b x hb => (by cases hb), fun b b' x x' c hb => (by cases hb), fun g vs e hg => ?_⟩
    simp only [lawEnvX, gam] at hg
    split at hg
    · rename_i hlt
      simp only [Option.map_eq_some_iff, Prod.mk.injEq] at hg
      obtain ⟨⟨e', l⟩, h1, rfl, rfl⟩ := hg
      have hlt' : g < (globMem P F laid).size := by rw [globMem_size]; exact hlt
      exact ⟨by omega, by rw [q6 g hlt', globMem_get hlt, h1], globAt_plain h1⟩
    · cases hg
  obtain ⟨v, m', ⟨K, hK⟩, r0, H', nx', F', σ', ⟨rfl, _, _⟩, _, hrv, _⟩ := hp j fss xs q2 q3 m1 _ _ as hctx (RPs.ofRFs q4)
  have hv1 : v = .bool true := by cases hrv with | p h => cases h; rfl
  subst hv1
  obtain ⟨ι, hs, hro⟩ := glob_open (F := F) hL
  obtain ⟨ι1, o1, o2, o3, o4⟩ := args_open ts _ ds ps hA hv ι _ m1 as hs hro q1
  refine ((acall_sound hO hmix K f).1 as m1 _ m' (hK K K (Nat.le_refl _) (Nat.le_refl _)) ι1 W args o1 o4).mono fun e W' ⟨v', he, ι2, hx, hs2, hvr⟩ => ?_
  have := hvr.eq_of_plain (v := .bool true) rfl
  subst this
  exact ⟨he, ⟨hx.os, hx.tape, hx.output, hx.heap, fun c hcl => hx.frame c hcl fun b ib hb _ => .inl (o3 b (o1.dom b ib hb).1)⟩⟩

/-! ## slices.Grow at nil -/
def growF (e : TypeId) (xs : List Value) (m : Mem) : Option (Value × Mem) := match xs with
  | [.slice none 0 0, .int .i64 n] => if 0 < n ∧ n ≤ 1000000 then some (newSlice m e [] 0) else none
  | _ => none
def growO (fg : FuncId) (e : TypeId) (O : Oracle) : Oracle := fun f => if f = fg then some (growF e) else O f
theorem growO_ne {fg f : FuncId} {e : TypeId} {O : Oracle} (h : f ≠ fg) : growO fg e O f = O f := if_neg h
theorem growO_at {fg : FuncId} {e : TypeId} {O : Oracle} : growO fg e O fg = some (growF e) := if_pos rfl
theorem growF_some {e : TypeId} {xs : List Value} {m m' : Mem} {v : Value} (h : growF e xs m = some (v, m')) : ∃ n : Int, xs = [.slice none 0 0, .int .i64 n] ∧ 0 < n ∧ n ≤ 1000000 ∧ (v, m') = newSlice m e [] 0 := by
  unfold growF at h
  split at h
  · rename_i n
    split at h
    · rename_i hn; cases h; exact ⟨n, rfl, hn.1, hn.2, rfl⟩
    · cases h
  · cases h
theorem growO_sound {G : List Nat} {O : Oracle} {fg : FuncId} {e : TypeId} (hO : OSound P G O) (he : Am.Enters P fg)
    (hc : ∀ (n : Nat) (w : World), 0 < n → n ≤ 1000000 → Calls P fg #[.slice none 0 0, .int .i64 n] w fun r w' => ∃ cap cs, r = .returned (.slice (some ⟨w.heap.size, 0, none⟩) 0 cap) ∧ w'.heap = w.heap.push (.cells cs e (0, 0)) ∧ w'.tape = w.tape ∧ w'.os = w.os ∧ w'.output = w.output ∧ cap * P.cellsOf e ≤ cs.size) :
    OSound P G (growO fg e O) := by
  intro f Fo hf
  by_cases h : f = fg
  · subst h
    rw [growO_at] at hf
    cases hf
    refine ⟨fun xs m v m' hv ι w as' hs hrel => ?_, fun xs m v m' hv => ?_, he⟩
    · obtain ⟨n, rfl, h1, h2, h3⟩ := growF_some hv
      cases h3
      obtain ⟨hlen, hat⟩ := hrel
      have hl2 : as'.toList.length = 2 := by simpa using hlen.symm
      have e0 : as' = #[.slice none 0 0, .int .i64 n] := by
        obtain ⟨l⟩ := as'
        match l, hl2 with
        | [a, b], _ =>
          have ha := hat 0 (by simp)
          have hb := hat 1 (by simp)
          simp only [List.getD_cons_zero, List.getD_cons_succ] at ha hb
          have hb' := hb.eq_of_plain (v := .int .i64 n) rfl
          cases ha
          rw [hb']
      subst e0
      have := hc n.toNat w (by omega) (by omega)
      rw [Int.toNat_of_nonneg (by omega)] at this
      refine this.mono ?_
      rintro r w' ⟨cap, cs, rfl, q1, q2, q3, q4, q5⟩
      exact ⟨_, rfl, newSlice_sound (e := e) (l := []) (n := 0) hs q1 q2 q3 q4 (fun i hi => by simp at hi) (Nat.zero_le _) (.inr q5)⟩
    · obtain ⟨n, rfl, h1, h2, h3⟩ := growF_some hv
      cases h3
      exact MemStep.alloc _ _
  · rw [growO_ne h] at hf
    exact hO f Fo hf
end
end Go.Vm
