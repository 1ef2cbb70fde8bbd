/-
  The values' layer: an oracle for functions without arguments that return true (run by the kernel), laid over another oracle. No condition. Nothing of one program stands here.
-/
import Derived.Test.YtmfnchgkffhpfaaDoorOra
set_option linter.unusedSimpArgs false
set_option linter.unusedVariables false
namespace Go.Vm
open Go.Am
section
variable {P : Program}
noncomputable def knO (G : List Nat) (M0 : Mem) (fs : List FuncId) (O : Oracle) : Oracle := fun f => if f ∈ fs then trueO G M0 fs f else O f
theorem knO_ne {G : List Nat} {M0 : Mem} {fs : List FuncId} {O : Oracle} {f : FuncId} (h : f ∉ fs) : knO G M0 fs O f = O f := if_neg h
theorem knO_at {G : List Nat} {M0 : Mem} {fs : List FuncId} {O : Oracle} {f : FuncId} (h : f ∈ fs) : knO G M0 fs O f = trueO G M0 fs f := if_pos h
theorem knO_sound {G : List Nat} {M0 : Mem} {fs : List FuncId} {O : Oracle} (h1 : OSound P G (trueO G M0 fs)) (h2 : OSound P G O) : OSound P G (knO G M0 fs O) := by
  intro f Fo hf
  by_cases h : f ∈ fs
  · rw [knO_at h] at hf; exact h1 f Fo hf
  · rw [knO_ne h] at hf; exact h2 f Fo hf
theorem known_funX {F : Nat} {laid : List (String × DataW Unit)} {fs : List FuncId} {O : Oracle} {f : FuncId} (hO : O f = trueO (globList P F laid) (globMem P F laid) fs f) (hf : f ∈ fs) : VFun (lawEnvX P F laid O) f [] (.p (.bool true)) := by
  intro m F' σ as h1 h2
  cases h2
  have hg : ∀ k ∈ globList P F laid, m.get k = (globMem P F laid).get k := fun k hk => by
    obtain ⟨hlt, e, l, hgl⟩ := globList_mem hk
    have := (h1.gl k l e (by simp only [lawEnvX, gam, if_pos hlt, hgl, Option.map_some])).2.1
    rw [this, globMem_get hlt, hgl]
  refine ACalls.oracle (F := fun as m => open Classical in if as = [] ∧ ∀ k ∈ globList P F laid, m.get k = (globMem P F laid).get k then some (.bool true, m) else none) (m' := m) (v := .bool true) (by simp only [lawEnvX, hO, trueO, if_pos hf]) ?_
    ⟨_, _, _, F', σ, ⟨rfl, rfl, rfl⟩, h1, .p (.bool true), Step.refl _ _ _ _ _⟩
  rw [if_pos ⟨rfl, hg⟩]
end
end Go.Vm
