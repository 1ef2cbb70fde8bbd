/-
  PROVED: the law HandsPossible of layer 46 (hands) returns true for every input. Each argument reads afterwards as it read before. Conditions: those of the given row alone (the listed variables read as the program's text lays them).
-/
import Derived.Test.YtnjkoebfgcbbdaaGreatDoorKPr
import Derived.Test.YtnjkoebfgcbbdaaGreatDoorCards
set_option linter.unusedSimpArgs false
set_option linter.unusedVariables false
namespace Go.Proofs.YtnjkoebfgcbbdaaGreatDoor
open Go Go.ChangeShapes Go.WideShapes Go.ChangeAt Go.WideMaps Go.WideElems Go.RowKit

namespace HandsPossible
set_option maxRecDepth 100000 in
theorem walk{H : Type}{enc : TypeId × Value → H}{W : World}{base : Nat}{args : Array Value}{ds : List (DataW H)}{p : List MemPlace}
    (l : laidMet Tryz.prog BU W) (m : DataW.TrodAll enc Tryz.prog W 0 (fun _ => true) true [59, 61] args.toList ds p)
    (c : ∀(j : Nat) t v, ([59, 61] : List TypeId)[j]? = some t → args.toList[j]? = some v → Value.okWide Tryz.prog W .any base t v) :
    Calls Tryz.prog 7 args W fun e q => e = .returned (.bool true) ∧ Go.RowKit.Below W.heap.size W q := by
  refine Vm.c6a (F := 8) l m c b0a (by kernel_rfl) b7m fun j r s o n => ?_
  obtain⟨x, w, rfl, k, i⟩ := Va o
  obtain⟨a, rfl, f⟩ := a6m (j := j + 1) k
  obtain⟨b, rfl, d⟩ := a3i (j := j + 6) i
  obtain⟨u, ub, rfl, h, g⟩ := Va n
  simp only[Vm.dY, Tryz.underlying59, Option.some.injEq] at h
  simp only[Vm.dY, Tryz.underlying61, Option.some.injEq] at g
  subst h; subst g
  exact Ua a f b d

set_option maxRecDepth 100000 in
theorem lifted(os : Os)(a : os.Started)(H : Type)(enc : TypeId × Value → H) :
    ReturnsInHanded {} Tryz.checked os 7 .any (fun w args => (Rows.handsPossibleSpec.pre enc Tryz.prog Tryz.f7 [] false w args ∧ laidMetH Tryz.prog BU w) ∧ sizedMet enc Tryz.prog Tryz.f7 (OpenSpec.ofChange Rows.handsPossibleSpec) false w args)
      (Rows.handsPossibleSpec.post enc Tryz.prog Tryz.f7 false true false false) := by
  refine returnsInHanded_of_change_and (C := Tryz.checked) (X := fun w _ => laidMetH Tryz.prog BU w) (fun _ _ _ M h => h.of_heap M) own a (by kernel_rfl) Tryz.func7
    (ChangeSpec.witness_shaped (enc := enc) (C := Tryz.checked) (os := os) (X := fun w _ => laidMetH Tryz.prog BU w) false (World.doorLaid Tryz.prog 400 os) #[.agg #[.slice none 0 0, .slice none 0 0, .slice none 0 0, .slice none 0 0, .slice none 0 0, .slice none 0 0], .agg #[.int .u8 0, .int .u8 0, .int .u8 0, .int .u8 0]] 8 rfl (World.shaped_of_RefB (by kernel_rfl) (by kernel_rfl)) (by kernel_rfl) (by kernel_rfl) (by kernel_rfl) (door_met os _)) ?_
  intro W base args S V g b r _ _ P _
  have c : ∀(j : Nat) t v, Tryz.f7.params[j]? = some t → args[j]? = some v → Value.okWide Tryz.prog W .any base t v := b
  have n := r
  obtain⟨p, q, f, O, rfl, N, K⟩ := r
  have o : DataW.TrodAll enc Tryz.prog W 0 (fun _ => true) true Tryz.f7.params.toList args.toList S p := f
  rw[Tryz.params7] at o c
  obtain⟨rfl, rfl⟩ := trodVars_none O
  have d := walk (a8l P) o (fun j t v L J => c j t v (by simpa using L) (by simpa using J))
  obtain⟨B, z, Z, R, I, U, l, rfl, rfl, u, F⟩ := trodAll_cons o
  obtain⟨A, y, Y, Q, G, T, rfl, rfl, rfl, s, E⟩ := trodAll_cons F
  obtain⟨rfl, rfl, rfl⟩ := trodAll_nil E
  obtain rfl : args = #[B, A] := by cases args; simp_all
  have i : ∀x ∈ I, x.block < W.heap.size := by obtain⟨m, k⟩ := u; exact DataW.trod_lt m _ _ _ k
  have lt1 : ∀x ∈ G, x.block < W.heap.size := by obtain⟨m, k⟩ := s; exact DataW.trod_lt m _ _ _ k
  clear f b
  refine d.mono fun e W' ⟨he, bel⟩ => ?_
  subst he
  exact⟨_, rfl, _, _, _, [], _, [], n, trodAll_mk1 (shut_bool Tryz.underlying4 _), (trodAll_cons_mk (Below.trod laidOut (by kernel_rfl) (of_decide_eq_true (by kernel_rfl)) u bel i) (trodAll_cons_mk (Below.trod laidOut (by kernel_rfl) (of_decide_eq_true (by kernel_rfl)) s bel lt1) trodAll_mk0)), rfl, bel.frame _, fun h => by cases h⟩

theorem said : Rows.HandsPossibleSaid :=
  OpenClaim.holds_of_wide 7 Tryz.f7 rfl rfl rfl rfl rfl rfl rfl ⟨rfl, rfl, rfl, rfl, rfl⟩ rfl rfl rfl rfl rfl (by kernel_rfl) Tryz.func7 (by kernel_rfl)
    (of_decide_eq_true (by kernel_rfl)) (by unfold Func.isWrapper; first | (rw[if_pos (by decide +kernel)]; kernel_rfl) | (rw[if_neg (by decide +kernel)]; exact⟨rfl, rfl⟩))
    (fun b a H enc _ => lifted b a H enc)
end HandsPossible

/-- THE STATEMENT -/
theorem handsPossible_holds : Rows.HandsPossibleCardSaid :=
  Claim7.holds_tied_plain_at .later [] [.data, .data, .data] true Rows.handsPossibleCard.stood.harness false
    HandsPossible.said (fun _ h => by cases h) (by kernel_rfl) (fun _ h => by cases h) handsPossible_row_tie rfl ⟨rfl, rfl⟩ (by kernel_rfl) rfl
    (fun f fn e b => by
      obtain rfl : f = 7 := ci ((show Tryz.prog.funcNamed Rows.handsPossibleRow.func = some 7 by kernel_rfl).symm.trans e) |>.symm
      obtain rfl : fn = Tryz.f7 := (ci (Tryz.func7.symm.trans b)).symm
      exact⟨by kernel_rfl, fun j t c => by
        rw[Tryz.params7] at c
        have d : t ∈ [59, 61] := by simpa using gO c
        have a : ([59, 61].all fun u => !Tryz.prog.wantsStandIn u) = true := by kernel_rfl
        exact(show Tryz.prog.wantsStandIn t = false by simpa using az.1 a t d)⟩)
    (by kernel_rfl)
#print axioms handsPossible_holds
end Go.Proofs.YtnjkoebfgcbbdaaGreatDoor
