/-
  The law of organs: OrganKeys: the notes of a set, in order. Conditions: in each statement.
-/
import Derived.Test.YtcnlhgmkelkikaaGreatDoorOrKY
set_option linter.unusedSimpArgs false
set_option linter.unusedVariables false
namespace Go.Proofs.YtcnlhgmkelkikaaGreatDoor
open Go Go.Am Go.Vm
attribute [local irreducible] VVal VOps VOpsD VWp VCalls VFun VFunV QSeq QBlk QLoop Vm.Done DoneV DoneI

/-! ## the notes of a set, in order -/
/-- the contacts that the law lists -/
def dueN (a : List Ctc) (i : Nat) (s : Nts) : Nat → List Ctc
  | 0 => a
  | n + 1 => if s.has n then dueN a i s n ++ [⟨(i : Int), (n : Int)⟩] else dueN a i s n
theorem dueN_eq (a : List Ctc) (i : Nat) (s : Nts) : ∀ n, dueN a i s n = a ++ ((List.range n).filter s.has).map (fun m : Nat => (⟨(i : Int), (m : Int)⟩ : Ctc))
  | 0 => by simp [dueN]
  | n + 1 => by
    simp only [dueN]
    rw [List.range_succ, List.filter_append, List.map_append, ← List.append_assoc, ← dueN_eq a i s n]
    by_cases h : s.has n = true
    · rw [if_pos h]; simp [h]
    · rw [if_neg h]; simp [h]
theorem notesL_eq (s : Nts) : notesL s.lo s.hi = ((List.range 128).filter s.has).map (fun m : Nat => (m : Int)) := by
  have e : List.range 128 = List.range 64 ++ (List.range 64).map (64 + ·) := by decide
  have e1 : (List.range 64).filter s.lo.testBit = (List.range 64).filter s.has := by
    refine List.filter_congr fun x hx => ?_
    have := List.mem_range.1 hx
    simp [Nts.has, this]
  have e2 : (List.range 64).filter s.hi.testBit = (List.range 64).filter (s.has ∘ (64 + ·)) := by
    refine List.filter_congr fun x hx => ?_
    have h0 : ¬ 64 + x < 64 := by omega
    simp [Nts.has, h0]
  unfold notesL bitsL
  rw [e, List.filter_append, List.map_append, List.filter_map, List.map_map, e1, e2]
  rfl
theorem conJ_map (a : List Ctc) (i : Nat) (s : Nts) : ∀ j, j ≤ (notesL s.lo s.hi).length → conJ a i s j = a ++ ((notesL s.lo s.hi).take j).map (fun n : Int => (⟨(i : Int), n⟩ : Ctc))
  | 0, _ => by simp [conJ]
  | j + 1, h => by
    simp only [conJ]
    rw [conJ_map a i s j (by omega), take_succ_gi (by omega), List.map_append, List.append_assoc]
    rfl
theorem dueN_all (a : List Ctc) (i : Nat) (s : Nts) : dueN a i s 128 = conJ a i s (notesL s.lo s.hi).length := by
  rw [conJ_map a i s _ (Nat.le_refl _), List.take_length, dueN_eq, notesL_eq, List.map_map]
  rfl
end Go.Proofs.YtcnlhgmkelkikaaGreatDoor
