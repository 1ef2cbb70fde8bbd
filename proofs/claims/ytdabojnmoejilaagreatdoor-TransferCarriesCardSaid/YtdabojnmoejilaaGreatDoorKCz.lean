/-
  PROVED: the law TransferCarries of layer 40 (transfer) returns true for every input. Each argument reads afterwards as it read before. Conditions: those of the given row alone (the listed variables read as the program's text lays them).
-/
import Derived.Test.YtdabojnmoejilaaGreatDoorKCg
import Derived.Test.YtdabojnmoejilaaGreatDoorCards
set_option linter.unusedSimpArgs false
set_option linter.unusedVariables false
namespace Go.Proofs.YtdabojnmoejilaaGreatDoor
open Go Go.ChangeShapes Go.WideShapes Go.ChangeAt Go.WideMaps Go.WideElems Go.RowKit

namespace TransferCarries
set_option maxRecDepth 100000 in
theorem walk {H : Type} {enc : TypeId × Value → H} {W : World} {base : Nat} {args : Array Value} {ds : List (DataW H)} {p : List MemPlace}
    (hL : laidMet Tryz.prog EG W) (hA : DataW.TrodAll enc Tryz.prog W 0 (fun _ => true) true [30, 52] args.toList ds p)
    (hval : ∀ (j : Nat) t v, ([30, 52] : List TypeId)[j]? = some t → args.toList[j]? = some v → Value.okWide Tryz.prog W .any base t v) :
    Calls Tryz.prog 10 args W fun e W' => e = .returned (.bool true) ∧ Go.RowKit.Below W.heap.size W W' := by
  refine Vm.b0k (F := 8) hL hA hval a6j (by kernel_rfl) a4h fun j jS xs h1 h2 => ?_
  obtain ⟨pa, pb, rfl, ha, hb⟩ := Xj h1
  obtain ⟨a, rfl, aok⟩ := qo (j := j + 1) ha
  obtain ⟨b, rfl, ble⟩ := yM (j := j + 6) hb
  obtain ⟨ua, ub, rfl, ga, gb⟩ := Xj h2
  simp only [Vm.XH, Tryz.underlying30, Option.some.injEq] at ga
  simp only [Vm.XH, Tryz.underlying52, Option.some.injEq] at gb
  subst ga; subst gb
  exact Oi a aok b (by simp only [maxLen] at ble; omega)

set_option maxRecDepth 100000 in
theorem lifted (os : Os) (started : os.Started) (H : Type) (enc : TypeId × Value → H) :
    ReturnsInHanded {} Tryz.checked os 10 .any (fun w args => (Rows.transferCarriesSpec.pre enc Tryz.prog Tryz.f10 [] false w args ∧ laidMetH Tryz.prog EG w) ∧ sizedMet enc Tryz.prog Tryz.f10 (OpenSpec.ofChange Rows.transferCarriesSpec) false w args)
      (Rows.transferCarriesSpec.post enc Tryz.prog Tryz.f10 false true false false) := by
  refine returnsInHanded_of_change_and (C := Tryz.checked) (X := fun w _ => laidMetH Tryz.prog EG w) (fun _ _ _ hh h => h.of_heap hh) own started (by kernel_rfl) Tryz.func10
    (ChangeSpec.witness_shaped (enc := enc) (C := Tryz.checked) (os := os) (X := fun w _ => laidMetH Tryz.prog EG w) false (World.doorLaid Tryz.prog 400 os) #[.agg #[.slice none 0 0, .slice none 0 0, .slice none 0 0, .slice none 0 0, .slice none 0 0, .slice none 0 0, .int .u8 0, .int .u8 0, .int .u8 0, .int .u8 0, .int .u8 0, .int .u8 0, .int .u8 0, .int .u8 0, .int .u8 0], .slice none 0 0] 8 rfl (World.shaped_of_RefB (by kernel_rfl) (by kernel_rfl)) (by kernel_rfl) (by kernel_rfl) (by kernel_rfl) (door_met os _)) ?_
  intro W base args ds gs before hval0 hW _ _ hL _
  have hval : ∀ (j : Nat) t v, Tryz.f10.params[j]? = some t → args[j]? = some v → Value.okWide Tryz.prog W .any base t v := hval0
  have hW' := hW
  obtain ⟨p, q, hA0, hV, rfl, hfz, hnd⟩ := hW
  have hA : DataW.TrodAll enc Tryz.prog W 0 (fun _ => true) true Tryz.f10.params.toList args.toList ds p := hA0
  rw [Tryz.params10] at hA hval
  obtain ⟨rfl, rfl⟩ := trodVars_none hV
  have hwalk := walk (uO hL) hA (fun j t v hj hv => hval j t v (by simpa using hj) (by simpa using hv))
  obtain ⟨v0, vs0, d0, ds0, p0, q0, hargs, rfl, rfl, h0, r0⟩ := trodAll_cons hA
  obtain ⟨v1, vs1, d1, ds1, p1, q1, rfl, rfl, rfl, h1, r1⟩ := trodAll_cons r0
  obtain ⟨rfl, rfl, rfl⟩ := trodAll_nil r1
  obtain rfl : args = #[v0, v1] := by cases args; simp_all
  have lt0 : ∀ x ∈ p0, x.block < W.heap.size := by obtain ⟨m, hm⟩ := h0; exact DataW.trod_lt m _ _ _ hm
  have lt1 : ∀ x ∈ p1, x.block < W.heap.size := by obtain ⟨m, hm⟩ := h1; exact DataW.trod_lt m _ _ _ hm
  clear hA0 hval0
  refine hwalk.mono fun e W' ⟨he, bel⟩ => ?_
  subst he
  exact ⟨_, rfl, _, _, _, [], _, [], hW', trodAll_mk1 (shut_bool Tryz.underlying4 _), (trodAll_cons_mk (Below.trod laidOut (by kernel_rfl) (of_decide_eq_true (by kernel_rfl)) h0 bel lt0) (trodAll_cons_mk (Below.trod laidOut (by kernel_rfl) (of_decide_eq_true (by kernel_rfl)) h1 bel lt1) trodAll_mk0)), rfl, bel.frame _, fun h => by cases h⟩

theorem said : Rows.TransferCarriesSaid :=
  OpenClaim.holds_of_wide 10 Tryz.f10 rfl rfl rfl rfl rfl rfl rfl ⟨rfl, rfl, rfl, rfl, rfl⟩ rfl rfl rfl rfl rfl (by kernel_rfl) Tryz.func10 (by kernel_rfl)
    (of_decide_eq_true (by kernel_rfl)) (by unfold Func.isWrapper; first | (rw [if_pos (by decide +kernel)]; kernel_rfl) | (rw [if_neg (by decide +kernel)]; exact ⟨rfl, rfl⟩))
    (fun os started H enc _ => lifted os started H enc)
end TransferCarries

/-- THE STATEMENT -/
theorem transferCarries_holds : Rows.TransferCarriesCardSaid :=
  Claim7.holds_tied_plain_at .later [] [.data, .data, .data] true Rows.transferCarriesCard.stood.harness false
    TransferCarries.said (fun _ h => by cases h) (by kernel_rfl) (fun _ h => by cases h) transferCarries_row_tie rfl ⟨rfl, rfl⟩ (by kernel_rfl) rfl
    (fun f fn hf hfn => by
      obtain rfl : f = 10 := Option.some.inj ((show Tryz.prog.funcNamed Rows.transferCarriesRow.func = some 10 by kernel_rfl).symm.trans hf) |>.symm
      obtain rfl : fn = Tryz.f10 := (Option.some.inj (Tryz.func10.symm.trans hfn)).symm
      exact ⟨by kernel_rfl, fun j t ht => by
        rw [Tryz.params10] at ht
        have hm : t ∈ [30, 52] := by simpa using Array.mem_of_getElem? ht
        have hall : ([30, 52].all fun u => !Tryz.prog.wantsStandIn u) = true := by kernel_rfl
        exact (show Tryz.prog.wantsStandIn t = false by simpa using List.all_eq_true.1 hall t hm)⟩)
    (by kernel_rfl)
#print axioms transferCarries_holds
end Go.Proofs.YtdabojnmoejilaaGreatDoor
