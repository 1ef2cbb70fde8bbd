/-
  PROVED: the law HandsChecks of layer 46 (hands) returns true for every input. Each argument reads afterwards as it read before. Conditions: those of the given row alone (the listed variables read as the program's text lays them).
-/
import Derived.Test.YtnjkoebfgcbbdaaGreatDoorKCq
import Derived.Test.YtnjkoebfgcbbdaaGreatDoorCards
set_option linter.unusedSimpArgs false
set_option linter.unusedVariables false
namespace Go.Proofs.YtnjkoebfgcbbdaaGreatDoor
open Go Go.ChangeShapes Go.WideShapes Go.ChangeAt Go.WideMaps Go.WideElems Go.RowKit

namespace HandsChecks
set_option maxRecDepth 100000 in
theorem walk {H : Type} {enc : TypeId × Value → H} {W : World} {base : Nat} {args : Array Value} {ds : List (DataW H)} {p : List MemPlace}
    (hL : laidMet Tryz.prog Es W) (hA : DataW.TrodAll enc Tryz.prog W 0 (fun _ => true) true [59, 99, 34] args.toList ds p)
    (hval : ∀ (j : Nat) t v, ([59, 99, 34] : List TypeId)[j]? = some t → args.toList[j]? = some v → Value.okWide Tryz.prog W .any base t v) :
    Calls Tryz.prog 8 args W fun e W' => e = .returned (.bool true) ∧ Go.RowKit.Below W.heap.size W W' := by
  refine Vm.c0f (F := 8) hL hA hval c1f (by kernel_rfl) b5h fun j vY xs h1 h2 => ?_
  obtain ⟨pa, pb, pc, rfl, ha, hb, hc⟩ := KW h1
  obtain ⟨a, rfl, aok⟩ := a1z (j := j + 1) ha
  obtain ⟨b1, b2, b3, rfl, b4, b5, b6⟩ := a3e (j := j + 6) hb
  obtain ⟨c, rfl⟩ := b2j (j := j + 6) hc
  obtain ⟨ua, ub, uc, rfl, ga, gb, gc⟩ := KW h2
  simp only [Vm.Xe, Tryz.underlying59, Option.some.injEq] at ga
  simp only [Vm.Xe, Tryz.underlying99, Option.some.injEq] at gb
  simp only [Vm.Xe, Tryz.underlying34, Option.some.injEq] at gc
  subst ga; subst gb; subst gc
  exact VP a aok b1 b2 b3 b4 b5 ⟨b6.1, b6.2⟩ c

set_option maxRecDepth 100000 in
theorem lifted (os : Os) (started : os.Started) (H : Type) (enc : TypeId × Value → H) :
    ReturnsInHanded {} Tryz.checked os 8 .any (fun w args => (Rows.handsChecksSpec.pre enc Tryz.prog Tryz.f8 [] false w args ∧ laidMetH Tryz.prog Es w) ∧ sizedMet enc Tryz.prog Tryz.f8 (OpenSpec.ofChange Rows.handsChecksSpec) false w args)
      (Rows.handsChecksSpec.post enc Tryz.prog Tryz.f8 false true false false) := by
  refine returnsInHanded_of_change_and (C := Tryz.checked) (X := fun w _ => laidMetH Tryz.prog Es w) (fun _ _ _ hh h => h.of_heap hh) own started (by kernel_rfl) Tryz.func8
    (ChangeSpec.witness_shaped (enc := enc) (C := Tryz.checked) (os := os) (X := fun w _ => laidMetH Tryz.prog Es w) false (World.doorLaid Tryz.prog 400 os) #[.agg #[.slice none 0 0, .slice none 0 0, .slice none 0 0, .slice none 0 0, .slice none 0 0, .slice none 0 0], .agg #[.int .u8 0, .int .u8 0, .int .i8 0], .agg #[.int .i64 0, .int .i64 0, .int .i64 0, .int .i64 0]] 8 rfl (World.shaped_of_RefB (by kernel_rfl) (by kernel_rfl)) (by kernel_rfl) (by kernel_rfl) (by kernel_rfl) (door_met os _)) ?_
  intro W base args ds gs before hval0 hW _ _ hL _
  have hval : ∀ (j : Nat) t v, Tryz.f8.params[j]? = some t → args[j]? = some v → Value.okWide Tryz.prog W .any base t v := hval0
  have hW' := hW
  obtain ⟨p, q, hA0, hV, rfl, hfz, hnd⟩ := hW
  have hA : DataW.TrodAll enc Tryz.prog W 0 (fun _ => true) true Tryz.f8.params.toList args.toList ds p := hA0
  rw [Tryz.params8] at hA hval
  obtain ⟨rfl, rfl⟩ := trodVars_none hV
  have hwalk := walk (a7h hL) hA (fun j t v hj hv => hval j t v (by simpa using hj) (by simpa using hv))
  obtain ⟨v0, vs0, d0, ds0, p0, q0, hargs, rfl, rfl, h0, r0⟩ := trodAll_cons hA
  obtain ⟨v1, vs1, d1, ds1, p1, q1, rfl, rfl, rfl, h1, r1⟩ := trodAll_cons r0
  obtain ⟨v2, vs2, d2, ds2, p2, q2, rfl, rfl, rfl, h2, r2⟩ := trodAll_cons r1
  obtain ⟨rfl, rfl, rfl⟩ := trodAll_nil r2
  obtain rfl : args = #[v0, v1, v2] := by cases args; simp_all
  have lt0 : ∀ x ∈ p0, x.block < W.heap.size := by obtain ⟨m, hm⟩ := h0; exact DataW.trod_lt m _ _ _ hm
  have lt1 : ∀ x ∈ p1, x.block < W.heap.size := by obtain ⟨m, hm⟩ := h1; exact DataW.trod_lt m _ _ _ hm
  have lt2 : ∀ x ∈ p2, x.block < W.heap.size := by obtain ⟨m, hm⟩ := h2; exact DataW.trod_lt m _ _ _ hm
  clear hA0 hval0
  refine hwalk.mono fun e W' ⟨he, bel⟩ => ?_
  subst he
  exact ⟨_, rfl, _, _, _, [], _, [], hW', trodAll_mk1 (shut_bool Tryz.underlying4 _), (trodAll_cons_mk (Below.trod laidOut (by kernel_rfl) (of_decide_eq_true (by kernel_rfl)) h0 bel lt0) (trodAll_cons_mk (Below.trod laidOut (by kernel_rfl) (of_decide_eq_true (by kernel_rfl)) h1 bel lt1) (trodAll_cons_mk (Below.trod laidOut (by kernel_rfl) (of_decide_eq_true (by kernel_rfl)) h2 bel lt2) trodAll_mk0))), rfl, bel.frame _, fun h => by cases h⟩

theorem said : Rows.HandsChecksSaid :=
  OpenClaim.holds_of_wide 8 Tryz.f8 rfl rfl rfl rfl rfl rfl rfl ⟨rfl, rfl, rfl, rfl, rfl⟩ rfl rfl rfl rfl rfl (by kernel_rfl) Tryz.func8 (by kernel_rfl)
    (of_decide_eq_true (by kernel_rfl)) (by unfold Func.isWrapper; first | (rw [if_pos (by decide +kernel)]; kernel_rfl) | (rw [if_neg (by decide +kernel)]; exact ⟨rfl, rfl⟩))
    (fun os started H enc _ => lifted os started H enc)
end HandsChecks

/-- THE STATEMENT -/
theorem handsChecks_holds : Rows.HandsChecksCardSaid :=
  Claim7.holds_tied_plain_at .later [] [.data, .data, .data] true Rows.handsChecksCard.stood.harness false
    HandsChecks.said (fun _ h => by cases h) (by kernel_rfl) (fun _ h => by cases h) handsChecks_row_tie rfl ⟨rfl, rfl⟩ (by kernel_rfl) rfl
    (fun f fn hf hfn => by
      obtain rfl : f = 8 := cd ((show Tryz.prog.funcNamed Rows.handsChecksRow.func = some 8 by kernel_rfl).symm.trans hf) |>.symm
      obtain rfl : fn = Tryz.f8 := (cd (Tryz.func8.symm.trans hfn)).symm
      exact ⟨by kernel_rfl, fun j t ht => by
        rw [Tryz.params8] at ht
        have hm : t ∈ [59, 99, 34] := by simpa using gC ht
        have hall : ([59, 99, 34].all fun u => !Tryz.prog.wantsStandIn u) = true := by kernel_rfl
        exact (show Tryz.prog.wantsStandIn t = false by simpa using aL.1 hall t hm)⟩)
    (by kernel_rfl)
#print axioms handsChecks_holds
end Go.Proofs.YtnjkoebfgcbbdaaGreatDoor
