/-
  PROVED: the law HandsMany of layer 46 (hands) returns true for every input. Each argument reads afterwards as it read before. Conditions: those of the given row alone (the listed variables read as the program's text lays them).
-/
import Derived.Test.YtnjkoebfgcbbdaaGreatDoorKMg
import Derived.Test.YtnjkoebfgcbbdaaGreatDoorCards
set_option linter.unusedSimpArgs false
set_option linter.unusedVariables false
namespace Go.Proofs.YtnjkoebfgcbbdaaGreatDoor
open Go Go.ChangeShapes Go.WideShapes Go.ChangeAt Go.WideMaps Go.WideElems Go.RowKit

namespace HandsMany
set_option maxRecDepth 100000 in
theorem walk {H : Type} {enc : TypeId × Value → H} {W : World} {base : Nat} {args : Array Value} {ds : List (DataW H)} {p : List MemPlace}
    (hL : laidMet Tryz.prog DX W) (hA : DataW.TrodAll enc Tryz.prog W 0 (fun _ => true) true [5] args.toList ds p)
    (hval : ∀ (j : Nat) t v, ([5] : List TypeId)[j]? = some t → args.toList[j]? = some v → Value.okWide Tryz.prog W .any base t v) :
    Calls Tryz.prog 3 args W fun e W' => e = .returned (.bool true) ∧ Go.RowKit.Below W.heap.size W W' := by
  refine Vm.b2c (F := 8) hL hA hval b3e (by kernel_rfl) a9f fun j nX xs h1 h2 => ?_
  obtain ⟨pa, rfl, ha⟩ := kU h1
  obtain ⟨a, rfl, aq⟩ := b0d (j := j + 7) ha
  obtain ⟨ua, rfl, ga⟩ := kU h2
  simp only [Vm.ZG, Tryz.underlying5, Option.some.injEq] at ga
  subst ga
  exact X5 a aq

set_option maxRecDepth 100000 in
theorem lifted (os : Os) (started : os.Started) (H : Type) (enc : TypeId × Value → H) :
    ReturnsInHanded {} Tryz.checked os 3 .any (fun w args => (Rows.handsManySpec.pre enc Tryz.prog Tryz.f3 [] false w args ∧ laidMetH Tryz.prog DX w) ∧ sizedMet enc Tryz.prog Tryz.f3 (OpenSpec.ofChange Rows.handsManySpec) false w args)
      (Rows.handsManySpec.post enc Tryz.prog Tryz.f3 false true false false) := by
  refine returnsInHanded_of_change_and (C := Tryz.checked) (X := fun w _ => laidMetH Tryz.prog DX w) (fun _ _ _ hh h => h.of_heap hh) own started (by kernel_rfl) Tryz.func3
    (ChangeSpec.witness_shaped (enc := enc) (C := Tryz.checked) (os := os) (X := fun w _ => laidMetH Tryz.prog DX w) false (World.doorLaid Tryz.prog 400 os) #[.int .u8 0] 8 rfl (World.shaped_of_RefB (by kernel_rfl) (by kernel_rfl)) (by kernel_rfl) (by kernel_rfl) (by kernel_rfl) (door_met os _)) ?_
  intro W base args ds gs before hval0 hW _ _ hL _
  have hval : ∀ (j : Nat) t v, Tryz.f3.params[j]? = some t → args[j]? = some v → Value.okWide Tryz.prog W .any base t v := hval0
  have hW' := hW
  obtain ⟨p, q, hA0, hV, rfl, hfz, hnd⟩ := hW
  have hA : DataW.TrodAll enc Tryz.prog W 0 (fun _ => true) true Tryz.f3.params.toList args.toList ds p := hA0
  rw [Tryz.params3] at hA hval
  obtain ⟨rfl, rfl⟩ := trodVars_none hV
  have hwalk := walk (zL hL) hA (fun j t v hj hv => hval j t v (by simpa using hj) (by simpa using hv))
  obtain ⟨v0, vs0, d0, ds0, p0, q0, hargs, rfl, rfl, h0, r0⟩ := trodAll_cons hA
  obtain ⟨rfl, rfl, rfl⟩ := trodAll_nil r0
  obtain rfl : args = #[v0] := by cases args; simp_all
  have lt0 : ∀ x ∈ p0, x.block < W.heap.size := by obtain ⟨m, hm⟩ := h0; exact DataW.trod_lt m _ _ _ hm
  clear hA0 hval0
  refine hwalk.mono fun e W' ⟨he, bel⟩ => ?_
  subst he
  exact ⟨_, rfl, _, _, _, [], _, [], hW', trodAll_mk1 (shut_bool Tryz.underlying4 _), (trodAll_cons_mk (Below.trod laidOut (by kernel_rfl) (of_decide_eq_true (by kernel_rfl)) h0 bel lt0) trodAll_mk0), rfl, bel.frame _, fun h => by cases h⟩

theorem said : Rows.HandsManySaid :=
  OpenClaim.holds_of_wide 3 Tryz.f3 rfl rfl rfl rfl rfl rfl rfl ⟨rfl, rfl, rfl, rfl, rfl⟩ rfl rfl rfl rfl rfl (by kernel_rfl) Tryz.func3 (by kernel_rfl)
    (of_decide_eq_true (by kernel_rfl)) (by unfold Func.isWrapper; first | (rw [if_pos (by decide +kernel)]; kernel_rfl) | (rw [if_neg (by decide +kernel)]; exact ⟨rfl, rfl⟩))
    (fun os started H enc _ => lifted os started H enc)
end HandsMany

/-- THE STATEMENT -/
theorem handsMany_holds : Rows.HandsManyCardSaid :=
  Claim7.holds_tied_plain_at .later [] [.data, .data, .data] true Rows.handsManyCard.stood.harness false
    HandsMany.said (fun _ h => by cases h) (by kernel_rfl) (fun _ h => by cases h) handsMany_row_tie rfl ⟨rfl, rfl⟩ (by kernel_rfl) rfl
    (fun f fn hf hfn => by
      obtain rfl : f = 3 := Option.some.inj ((show Tryz.prog.funcNamed Rows.handsManyRow.func = some 3 by kernel_rfl).symm.trans hf) |>.symm
      obtain rfl : fn = Tryz.f3 := (Option.some.inj (Tryz.func3.symm.trans hfn)).symm
      exact ⟨by kernel_rfl, fun j t ht => by
        rw [Tryz.params3] at ht
        have hm : t ∈ [5] := by simpa using Array.mem_of_getElem? ht
        have hall : ([5].all fun u => !Tryz.prog.wantsStandIn u) = true := by kernel_rfl
        exact (show Tryz.prog.wantsStandIn t = false by simpa using List.all_eq_true.1 hall t hm)⟩)
    (by kernel_rfl)
#print axioms handsMany_holds
end Go.Proofs.YtnjkoebfgcbbdaaGreatDoor
