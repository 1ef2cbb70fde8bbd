/-
  The data of the laws' parameters (organs), read as plain data: names, registrations, bits, changes. Conditions: in each statement.
-/
import Derived.Test.YtcnlhgmkelkikaaGreatDoorOrK
import Derived.Test.YtcnlhgmkelkikaaGreatDoorOrN
set_option linter.unusedSimpArgs false
set_option linter.unusedVariables false
namespace Go.Proofs.YtcnlhgmkelkikaaGreatDoor
open Go Go.Am Go.Vm
set_option maxRecDepth 100000 in
theorem has_str {j : Nat} {fs : List FV} (h : HasT Tryz.prog (j + 1) 9 fs) : ∃ l : List UInt8, fs = [.str (bs l)] ∧ l.length ≤ maxLen := by
  obtain ⟨s, rfl, hs⟩ := HasT.str h Tryz.underlying9
  refine ⟨s.data.toList, by rw [← bs_of s], ?_⟩
  have : s.data.toList.length = s.size := rfl
  omega
set_option maxRecDepth 100000 in
theorem has_u64 {j : Nat} {fs : List FV} (h : HasT Tryz.prog (j + 1) 59 fs) : ∃ n : Nat, fs = [.int .u64 (n : Int)] ∧ n < 18446744073709551616 := by
  obtain ⟨n, rfl, hn⟩ := HasT.int h Tryz.underlying59
  have h2 : 0 ≤ n ∧ n < 18446744073709551616 := by
    simp [Lit.wf, IntKind.min, IntKind.max, IntKind.signed, IntKind.bits] at hn
    omega
  exact ⟨n.toNat, by rw [Int.toNat_of_nonneg h2.1], by omega⟩
set_option maxRecDepth 100000 in
theorem has_reg {j : Nat} {fs : List FV} (h : HasT Tryz.prog (j + 3) 61 fs) : ∃ r : Rgs, fs = Enc.enc r ∧ r.Ok := by
  obtain ⟨parts, rfl, hp⟩ := hasT_struct h Tryz.underlying61
  obtain ⟨a, b, c, rfl, h1, h2, h3⟩ := all2_three hp
  obtain ⟨l, rfl, n1, g1⟩ := hasT_slice (n := j + 1) (p := fun n : Nat => n < 18446744073709551616) h1 Tryz.underlying58 (fun x hx => has_u64 hx)
  obtain ⟨m2, rfl, q2⟩ := has_u64 (j := j + 1) h2
  obtain ⟨m3, rfl, q3⟩ := has_u64 (j := j + 1) h3
  simp only [maxLen] at n1
  exact ⟨⟨l, m2, m3⟩, rfl, g1, q2, q3, by simp only; omega⟩
theorem list5 {α : Type} {L : List α} (h : L.length = 5) : ∃ a b c d e, L = [a, b, c, d, e] := by
  match L, h with
  | [a, b, c, d, e], _ => exact ⟨a, b, c, d, e, rfl⟩
theorem list2 {α : Type} {L : List α} (h : L.length = 2) : ∃ a b, L = [a, b] := by
  match L, h with
  | [a, b], _ => exact ⟨a, b, rfl⟩
theorem list3 {α : Type} {L : List α} (h : L.length = 3) : ∃ a b c, L = [a, b, c] := by
  match L, h with
  | [a, b, c], _ => exact ⟨a, b, c, rfl⟩
set_option maxRecDepth 100000 in
theorem has_bits5 {j : Nat} {fs : List FV} (h : HasT Tryz.prog (j + 2) 56 fs) : ∃ b : Nat → Nat, fs = bitsE b ∧ ∀ i, b i < 256 := by
  obtain ⟨L, rfl, hl, hL⟩ := HasT.array h Tryz.underlying56
  obtain ⟨a, b, c, d, e, rfl⟩ := list5 hl
  obtain ⟨m1, rfl, q1⟩ := has_u8 (j := j) (hL a (by simp))
  obtain ⟨m2, rfl, q2⟩ := has_u8 (j := j) (hL b (by simp))
  obtain ⟨m3, rfl, q3⟩ := has_u8 (j := j) (hL c (by simp))
  obtain ⟨m4, rfl, q4⟩ := has_u8 (j := j) (hL d (by simp))
  obtain ⟨m5, rfl, q5⟩ := has_u8 (j := j) (hL e (by simp))
  exact ⟨fun i => if i = 0 then m1 else if i = 1 then m2 else if i = 2 then m3 else if i = 3 then m4 else m5, rfl, fun i => by simp only; split <;> (try split) <;> (try split) <;> (try split) <;> omega⟩
set_option maxRecDepth 100000 in
theorem has_int2 {j : Nat} {fs : List FV} (h : HasT Tryz.prog (j + 2) 57 fs) : ∃ a b : Int, fs = [.int .i64 a, .int .i64 b] ∧ (-9223372036854775808 ≤ a ∧ a ≤ 9223372036854775807) ∧ -9223372036854775808 ≤ b ∧ b ≤ 9223372036854775807 := by
  obtain ⟨L, rfl, hl, hL⟩ := HasT.array h Tryz.underlying57
  obtain ⟨a, b, rfl⟩ := list2 hl
  obtain ⟨m1, rfl, q1⟩ := has_int (j := j) (hL a (by simp))
  obtain ⟨m2, rfl, q2⟩ := has_int (j := j) (hL b (by simp))
  exact ⟨m1, m2, rfl, q1, q2⟩
end Go.Proofs.YtcnlhgmkelkikaaGreatDoor
