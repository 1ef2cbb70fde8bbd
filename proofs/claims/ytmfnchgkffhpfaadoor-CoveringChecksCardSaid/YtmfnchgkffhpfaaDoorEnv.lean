/-
  The proof's surroundings for this program: the listed variable; 'known' by the kernel.
-/
import Derived.Test.YtmfnchgkffhpfaaDoorVm16
import Derived.Test.YtmfnchgkffhpfaaDoorShell
namespace Go.Proofs.YtmfnchgkffhpfaaDoor
open Go Go.Am Go.Vm
theorem mixOk : Tryd.prog.follows .mixedOrders = true := by kernel_rfl
theorem known_run : (match acall Tryd.prog noO (globList Tryd.prog 8 laidL) 400 40 10 [] (globMem Tryd.prog 8 laidL) with | some (.bool true, _) => true | _ => false) = true := by kernel_rfl
theorem known_acall : ∀ f ∈ [10], ∃ m', acall Tryd.prog noO (globList Tryd.prog 8 laidL) 400 40 f [] (globMem Tryd.prog 8 laidL) = some (.bool true, m') := by
  intro f hf
  simp only [List.mem_singleton] at hf
  subst hf
  have h := known_run
  revert h
  cases acall Tryd.prog noO (globList Tryd.prog 8 laidL) 400 40 10 [] (globMem Tryd.prog 8 laidL) with
  | none => intro h; cases h
  | some r =>
    obtain ⟨v, m⟩ := r
    cases v with
    | bool b => cases b <;> intro h <;> first | exact ⟨m, rfl⟩ | cases h
    | _ => intro h; cases h
theorem osound : OSound Tryd.prog (globList Tryd.prog 8 laidL) (trueO (globList Tryd.prog 8 laidL) (globMem Tryd.prog 8 laidL) [10]) := trueO_sound mixOk known_acall

/-- the functions that the kernel ran -/
abbrev knownL : List FuncId := [10]
/-- the surroundings of all walks -/
noncomputable abbrev env : Env := lawEnv Tryd.prog 8 laidL [10]
theorem env_none {f : FuncId} (h : f ∉ [10]) : env.O f = none := trueO_none h
end Go.Proofs.YtmfnchgkffhpfaaDoor
