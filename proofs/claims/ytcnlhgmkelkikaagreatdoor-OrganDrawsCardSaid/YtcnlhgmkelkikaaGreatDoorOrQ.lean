/-
  The law of organs: OrganRegistrations, OrganDraws. Conditions: in each statement.
-/
import Derived.Test.YtcnlhgmkelkikaaGreatDoorOrO
set_option linter.unusedSimpArgs false
set_option linter.unusedVariables false
namespace Go.Proofs.YtcnlhgmkelkikaaGreatDoor
open Go Go.Am Go.Vm
attribute [local irreducible] VVal VOps VOpsD VWp VCalls VFun VFunV QSeq QBlk QLoop Vm.Done DoneV DoneI

theorem unionR_eq (a b : Rgs) : unionR a b = ⟨snocK (unionF a b) a.stops.length, a.cp ||| b.cp, a.off ||| b.off⟩ := by
  unfold unionR
  congr 1
  refine list_gi (by rw [setK_len, snocK_len]) fun i hi => ?_
  rw [setK_len] at hi
  rw [setK_gi, if_pos ⟨hi, hi⟩, snocK_gi _ hi]
set_option maxRecDepth 100000 in
set_option maxHeartbeats 4000000 in
theorem organRegistrations_spec (x : OPl) (hx : x.Ok) (a : Rgs) (ha : a.Ok) (b : Rgs) (hb : b.Ok) : VFun env 6 [.agg x.enc, .agg (Enc.enc a), .agg (Enc.enc b)] (.p (.bool true)) := by
  have hkn := known_spec
  have hfs := fits_spec x hx
  have a1 := ha.cp
  have a2 := ha.off
  have a3 := ha.len
  have b1 := hb.cp
  have b2 := hb.off
  have b3 := hb.len
  refine VFun.enter (env_none (by decide)) Tryz.func6 rfl (by kernel_rfl) (by simp [Tryz.ntmps6]) ?_
  by_cases hf : fitsP x
  case neg =>
    rw [decide_eq_false hf] at hfs
    repeat' (first
      | apply VWp.assoc
      | apply VWp.rseq
      | apply VWp.retSeq
      | apply VOps.nil
      | apply VOps.one
      | (apply VOps.take; rfl; rfl)
      | (apply VOps.drop; rfl; rfl; rfl)
      | (apply VVal.fn; rfl; rfl; exact hkn; intro _; rfl)
      | (apply VVal.fn; rfl; rfl; exact hfs; intro _; rfl)
      | (apply VVal.assign; rfl)
      | (apply VVal.move; rfl)
      | (apply VVal.load; rfl; rfl)
      | (apply VVal.pick_true; rfl; rfl)
      | (apply VVal.pick_false; rfl; rfl)
      | (apply VVal.box; rfl; trivial)
      | (apply VVal.not; rfl)
      | (apply VWp.condSeq_true; rfl))
    all_goals first | (exfalso; omega) | contradiction | ((refine Done.ret rfl (.refl _) (by first | exact trivial | exact ⟨trivial, trivial, trivial⟩ | exact ⟨trivial, trivial, trivial, trivial⟩) HCov.nil (Nat.zero_le _) (Nat.le_refl _) ⟨?_, rfl, rfl⟩; try rfl); try simp)
  rw [decide_eq_true hf] at hfs
  by_cases h5 : (a.stops.length : Int) > 5 ∨ (b.stops.length : Int) > 5
  · repeat' (first
      | apply VWp.assoc
      | apply VWp.rseq
      | apply VWp.retSeq
      | apply VOps.nil
      | apply VOps.one
      | (apply VOps.take; rfl; rfl)
      | (apply VOps.drop; rfl; rfl; rfl)
      | (apply VOps.guard; rfl; rfl)
      | (apply VVal.fn; rfl; rfl; exact hkn; intro _; rfl)
      | (apply VVal.fn; rfl; rfl; exact hfs; intro _; rfl)
      | (apply VVal.assign; rfl)
      | (apply VVal.move; rfl)
      | (apply VVal.int; rfl; rfl; rfl)
      | (apply VVal.load; rfl; rfl)
      | (apply VVal.pick_true; rfl; rfl)
      | (apply VVal.pick_false; rfl; rfl)
      | (apply VVal.lenF; rfl; rfl)
      | (apply VVal.fieldB; rfl; rfl; rfl)
      | (apply VVal.box; rfl; trivial)
      | (apply VVal.not; rfl)
      | (apply VWp.condSeq_true; rfl)
      | (apply VWp.condSeq_dec; rfl)
      | (intro _; try (exfalso; omega)))
    all_goals first | (exfalso; omega) | contradiction | ((refine Done.ret rfl (.refl _) (by first | exact trivial | exact ⟨trivial, trivial, trivial⟩ | exact ⟨trivial, trivial, trivial, trivial⟩) HCov.nil (Nat.zero_le _) (Nat.le_refl _) ⟨?_, rfl, rfl⟩; try rfl); try simp)
  have hm := make18_spec x hx hf
  have ho := mkO_t x hx hf
  generalize mkO x = o at *
  have r2 := ho.divs
  have h1 := registration_spec o ho a ha
  have h2 := registration_spec o ho b hb
  have h3 := checkReg_spec o ho a ha
  by_cases ea : regE o a = 0
  case neg =>
    have h4 := unionBad_spec o ho a b ha hb (regE o a) ea (.inl rfl)
    generalize regE o a = w at *
    repeat' (first
      | apply VWp.assoc
      | apply VWp.rseq
      | apply VWp.skipSeq
      | apply VWp.retSeq
      | apply VOps.nil
      | apply VOps.one
      | (apply VOps.take; rfl; rfl)
      | (apply VOps.guard; rfl; rfl)
      | (apply VVal.fn; rfl; rfl; exact hkn; intro _; rfl)
      | (apply VVal.fn; rfl; rfl; exact hfs; intro _; rfl)
      | (apply VVal.fn; rfl; rfl; exact hm; intro _; rfl)
      | (apply VVal.fn; rfl; rfl; exact h1; intro _; rfl)
      | (apply VVal.fn; rfl; rfl; exact h3; intro _; rfl)
      | (apply VVal.fn; rfl; rfl; exact h4; intro _; rfl)
      | (apply VVal.assign; rfl)
      | (apply VVal.move; rfl)
      | (apply VVal.int; rfl; rfl; rfl)
      | (apply VVal.load; rfl; rfl)
      | (apply VVal.pick_true; rfl; rfl)
      | (apply VVal.pick_false; rfl; rfl)
      | (apply VVal.lenF; rfl; rfl)
      | (apply VVal.fieldB; rfl; rfl; rfl)
      | (apply VVal.box; rfl; trivial)
      | (apply VVal.alloc; rfl)
      | (apply VVal.storeB; rfl; rfl; rfl; trivial; rfl; rfl; exact lt_dec rfl; exact le_dec rfl)
      | (apply VVal.not; rfl)
      | (apply VVal.extract; rfl; rfl)
      | (apply VWp.condSeq_dec; rfl)
      | (intro _; try (exfalso; omega)))
    all_goals first | (exfalso; omega) | contradiction | ((refine Done.ret rfl (.refl _) (by first | exact trivial | exact ⟨trivial, trivial, trivial⟩ | exact ⟨trivial, trivial, trivial, trivial⟩) HCov.nil (Nat.zero_le _) (Nat.le_refl _) ⟨?_, rfl, rfl⟩; try rfl); try simp)
  rw [ea] at h1 h3
  by_cases eb : regE o b = 0
  case neg =>
    have h4 := unionBad_spec o ho a b ha hb (regE o b) eb (.inr ⟨ea, rfl⟩)
    generalize regE o b = w at *
    repeat' (first
      | apply VWp.assoc
      | apply VWp.rseq
      | apply VWp.skipSeq
      | apply VWp.retSeq
      | apply VOps.nil
      | apply VOps.one
      | (apply VOps.take; rfl; rfl)
      | (apply VOps.guard; rfl; rfl)
      | (apply VVal.fn; rfl; rfl; exact hkn; intro _; rfl)
      | (apply VVal.fn; rfl; rfl; exact hfs; intro _; rfl)
      | (apply VVal.fn; rfl; rfl; exact hm; intro _; rfl)
      | (apply VVal.fn; rfl; rfl; exact h1; intro _; rfl)
      | (apply VVal.fn; rfl; rfl; exact h2; intro _; rfl)
      | (apply VVal.fn; rfl; rfl; exact h3; intro _; rfl)
      | (apply VVal.fn; rfl; rfl; exact h4; intro _; rfl)
      | (apply VVal.assign; rfl)
      | (apply VVal.move; rfl)
      | (apply VVal.int; rfl; rfl; rfl)
      | (apply VVal.load; rfl; rfl)
      | (apply VVal.pick_true; rfl; rfl)
      | (apply VVal.pick_false; rfl; rfl)
      | (apply VVal.lenF; rfl; rfl)
      | (apply VVal.fieldB; rfl; rfl; rfl)
      | (apply VVal.box; rfl; trivial)
      | (apply VVal.alloc; rfl)
      | (apply VVal.storeB; rfl; rfl; rfl; trivial; rfl; rfl; exact lt_dec rfl; exact le_dec rfl)
      | (apply VVal.not; rfl)
      | (apply VVal.extract; rfl; rfl)
      | (apply VWp.condSeq_true; rfl)
      | (apply VWp.condSeq_false; rfl)
      | (apply VWp.condSeq_dec; rfl)
      | (intro _; try (exfalso; omega)))
    all_goals first | (exfalso; omega) | contradiction | ((refine Done.ret rfl (.refl _) (by first | exact trivial | exact ⟨trivial, trivial, trivial⟩ | exact ⟨trivial, trivial, trivial, trivial⟩) HCov.nil (Nat.zero_le _) (Nat.le_refl _) ⟨?_, rfl, rfl⟩; try rfl); try simp)
  rw [eb] at h2
  have la : a.stops.length = o.divs.length := Classical.byContradiction fun h => by rw [regE_len h] at ea; cases ea
  have lb : b.stops.length = o.divs.length := Classical.byContradiction fun h => by rw [regE_len h] at eb; cases eb
  have h4 := union_spec o ho a b ha hb ea eb
  have hs := same_refl (unionR a b) (by rw [unionR_eq]; simp only [snocK_len]; omega)
  rw [unionR_eq] at h4 hs
  repeat' (first
    | apply VWp.assoc
    | apply VWp.rseq
    | apply VWp.skipSeq
    | apply VWp.blockSeq
    | apply VOps.nil
    | apply VOps.one
    | (apply VOps.take; rfl; rfl)
    | (apply VOps.guard; rfl; rfl)
    | (apply VVal.fn; rfl; rfl; exact hkn; intro _; rfl)
    | (apply VVal.fn; rfl; rfl; exact hfs; intro _; rfl)
    | (apply VVal.fn; rfl; rfl; exact hm; intro _; rfl)
    | (apply VVal.fn; rfl; rfl; exact h1; intro _; rfl)
    | (apply VVal.fn; rfl; rfl; exact h2; intro _; rfl)
    | (apply VVal.fn; rfl; rfl; exact h3; intro _; rfl)
    | (apply VVal.fn; rfl; rfl; exact h4; intro _; rfl)
    | (apply VVal.assign; rfl)
    | (apply VVal.move; rfl)
    | (apply VVal.orU; rfl; rfl; omega; omega)
    | (apply VVal.int; rfl; rfl; rfl)
    | (apply VVal.load; rfl; rfl)
    | (apply VVal.pick_false; rfl; rfl)
    | (apply VVal.lenF; rfl; rfl)
    | (apply VVal.fieldB; rfl; rfl; rfl)
    | (apply VVal.box; rfl; trivial)
    | (apply VVal.alloc; rfl)
    | (apply VVal.storeB; rfl; rfl; rfl; trivial; rfl; rfl; exact lt_dec rfl; exact le_dec rfl)
    | (apply VVal.build; rfl; rfl; rfl; rfl; rfl)
    | (apply VVal.not; rfl)
    | (apply VVal.extract; rfl; rfl)
    | (apply VWp.condSeq_true; rfl)
    | (apply VWp.condSeq_false; rfl)
    | (apply VWp.condSeq_dec; rfl)
    | (intro _; try (exfalso; omega)))
  all_goals try (exfalso; omega)
  all_goals try contradiction
  refine VWp.ghost (Ghost.adoptCell 5 0 59 rfl rfl) ?_
  apply VWp.loopR (a.stops.length) [(4, _), (5, _), (9, _), (10, _), (11, _)] [(1, _), (2, _), (4, _)] (fun k r => (12, .p (.int .i64 (k : Int))) :: r) (fun k r => (6, .vec 59 (cells (snocK (unionF a b) k)) (snocK (unionF a b) k).length true) :: (5, .box 61 [.vec 6 (snocK (unionF a b) k).length 0 (snocK (unionF a b) k).length, .p (.int .u64 ((a.cp ||| b.cp : Nat) : Int)), .p (.int .u64 ((a.off ||| b.off : Nat) : Int))]) :: r) 7
  · omega
  · omega
  · repeat (first | exact LCov.nil | (refine LCov.eq rfl ?_ ?_; (first | exact PV.under_of rfl | (simp [PV.under, PVs.under]; done))) | refine LCov.cons trivial rfl (.of_eq (lst_len (by simp <;> omega))) ?_)
  · repeat (first | exact HCov.nil | (refine HCov.eq rfl (lt_dec rfl) ?_ ?_; (first | exact HB.under_of rfl | exact PVs.under_pure _ _ | (simp [HB.under, PVs.under, PV.under]; done))) | (refine HCov.cons (lt_dec rfl) ?_ rfl ?_ ?_; (first | exact trivial | exact PVs.under_pure _ _ | (simp [HB.under, PVs.under, PV.under])); (first | exact HLe.refl _ | exact HLe.vec (FLes.refl _) (by simp))))
  · intro k hk
    have hl := snocK_len (unionF a b) k
    have e1 : snocK (unionF a b) (k + 1) = snocK (unionF a b) k ++ [unionF a b k] := rfl
    have e2 : (snocK (unionF a b) (k + 1)).length = (snocK (unionF a b) k).length + 1 := by rw [e1]; simp
    have g1 := ha.stops k hk
    have g2 := hb.stops k (by omega)
    repeat' (first
      | apply VWp.assoc
      | apply VWp.rseq
      | apply VWp.region
      | apply VWp.regionD
      | apply VWp.skipSeq
      | apply VWp.blockSeq
      | apply QSeq.normal
      | apply QBlk.normal
      | apply VOps.nil
      | apply VOpsD.nil
      | apply VOps.one
      | (apply VOpsD.bar; decide +kernel)
      | apply VOpsD.quiet
      | (apply VVal.append1 (a := unionF a b k); rfl; rfl; rfl; rfl; rfl; rfl; rfl; rfl; (intro _ h; cases h); rfl; rfl; rfl; decide; decide; (first | omega | (simp only [List.length_take, List.length_drop, List.length_append, List.length_singleton, List.length_cons, List.length_nil] <;> omega)))
      | (apply VVal.assign; rfl)
      | (apply VVal.move; rfl)
      | (apply VVal.add64; rfl; rfl; omega)
      | (apply VVal.orU; rfl; rfl; omega; omega)
      | (apply VVal.int; rfl; rfl; rfl)
      | (apply VVal.indexN; rfl; rfl; rfl; omega; rfl)
      | (apply VVal.load; rfl; rfl)
      | (apply VVal.lenF; rfl; rfl)
      | (apply VVal.fieldB; rfl; rfl; rfl)
      | (apply VVal.storeB; rfl; rfl; rfl; trivial; rfl; rfl; exact lt_dec rfl; exact le_dec rfl)
      | (apply VVal.buildSlice; rfl; rfl; rfl; decide; rfl; rfl; rfl)
      | (apply VWp.condSeq_dec; rfl)
      | (intro _; try (exfalso; omega)))
    all_goals try (exfalso; omega)
    refine QLoop.normal ⟨by omega, ?_, ?_⟩
    · try (rw [e2, e1])
      repeat (first | exact LCov.nil | refine LCov.same trivial rfl ?_ | refine LCov.same (lt_dec rfl) rfl ?_ | refine LCov.same ⟨trivial, lt_dec rfl, trivial⟩ rfl ?_ | refine LCov.same ⟨trivial, lt_dec rfl, lt_dec rfl, trivial⟩ rfl ?_ | refine LCov.same ⟨trivial, lt_dec rfl, lt_dec rfl, lt_dec rfl, trivial⟩ rfl ?_ | refine LCov.same ⟨trivial, trivial⟩ rfl ?_ | refine LCov.cons trivial rfl (.of_eq (lst_len (by simp <;> omega))) ?_)
    · rw [e2, e1]
      repeat (first | exact HCov.nil | (refine HCov.cons (lt_dec rfl) ?_ rfl ?_ ?_; (first | exact HB.under_of rfl | exact PVs.under_pure _ _ | (simp [HB.under, PVs.under, PV.under])); (first | exact HLe.refl _ | exact HLe.vec (FLes.refl _) (by simp))))
  · repeat' (first
      | (refine VWp.at 17 ?_; refine VWp.ghost (Ghost.freezeCell 5 0 rfl rfl rfl) ?_; first | apply VWp.rseq | apply VWp.rseqD)
      | apply VWp.assoc
      | apply VWp.rseq
      | apply VWp.exitSeq
      | apply QSeq.normal
      | apply QBlk.exit
      | apply QLoop.exit
      | apply VWp.ret
      | apply VOps.nil
      | apply VOps.one
      | (apply VOps.take; rfl; rfl)
      | (apply VVal.fn; rfl; rfl; exact hs; intro _; rfl)
      | (apply VVal.assign; rfl)
      | (apply VVal.move; rfl)
      | (apply VVal.int; rfl; rfl; rfl)
      | (apply VVal.load; rfl; rfl)
      | (apply VVal.pick_true; rfl; rfl)
      | (apply VVal.lenF; rfl; rfl)
      | (apply VVal.fieldB; rfl; rfl; rfl)
      | (apply VWp.condSeq_dec; rfl)
      | (intro _; try (exfalso; omega)))
    all_goals first | (exfalso; omega) | contradiction | ((refine Done.ret rfl (.refl _) (by first | exact trivial | exact ⟨trivial, trivial, trivial⟩ | exact ⟨trivial, trivial, trivial, trivial⟩) HCov.nil (Nat.zero_le _) (Nat.le_refl _) ⟨?_, rfl, rfl⟩; try rfl); try simp)

/-! ## OrganDraws -/
theorem and_mask (x n : Nat) : (x &&& (2 ^ n - 1)) / 2 ^ n = 0 := by
  have h1 : x &&& (2 ^ n - 1) ≤ 2 ^ n - 1 := Nat.and_le_right
  have h2 : 0 < 2 ^ n := Nat.two_pow_pos n
  exact Nat.div_eq_of_lt (by omega)
theorem drawnR_ok (o : Org) (ho : OrgT o) (b : Nat → Nat) (hb : ∀ i, b i < 256) : (drawnR o b).Ok := by
  have r2 := ho.divs
  have l := snocK_len (drwnF o b) o.divs.length
  refine ⟨fun i hi => ?_, ?_, ?_, ?_⟩
  · have hi : i < (snocK (drwnF o b) o.divs.length).length := hi
    rw [l] at hi
    show gi (snocK (drwnF o b) o.divs.length) i < _
    rw [snocK_gi _ hi]
    have := hb (i % 3)
    have : drwnF o b i ≤ b (i % 3) := Nat.and_le_left
    omega
  · have := hb 3
    have : b 3 &&& (2 ^ o.cpls.length - 1) ≤ b 3 := Nat.and_le_left
    show b 3 &&& (2 ^ o.cpls.length - 1) < _
    omega
  · have := hb 4
    have : b 4 &&& (2 ^ o.divs.length - 1) ≤ b 4 := Nat.and_le_left
    show b 4 &&& (2 ^ o.divs.length - 1) < _
    omega
  · show (snocK (drwnF o b) o.divs.length).length < _
    omega
theorem drawnR_reg (o : Org) (b : Nat → Nat) : regE o (drawnR o b) = 0 := by
  have l := snocK_len (drwnF o b) o.divs.length
  rw [regE_rest (show (snocK (drwnF o b) o.divs.length).length = _ from l) fun i hi => ?_]
  · rw [if_neg]
    intro h
    rcases h with h | h
    · exact h (and_mask _ _)
    · exact h (and_mask _ _)
  · have hi : i < (snocK (drwnF o b) o.divs.length).length := hi
    rw [l] at hi
    show gi (snocK (drwnF o b) o.divs.length) i / _ = 0
    rw [snocK_gi _ hi]
    exact and_mask _ _
def b255 (i : Nat) : Nat := if i = 4 then 0 else 255
theorem mask255 {n : Nat} (h : n ≤ 3) : 255 &&& (2 ^ n - 1) = 2 ^ n - 1 := by
  match n, h with
  | 0, _ => rfl
  | 1, _ => rfl
  | 2, _ => rfl
  | 3, _ => rfl
theorem drawnR_none (o : Org) : drawnR o (fun _ => 0) = noneR o := by
  unfold drawnR noneR
  congr 1
  · refine list_gi (by rw [snocK_len, List.length_replicate]) fun i hi => ?_
    rw [snocK_len] at hi
    rw [snocK_gi _ hi, gi_replicate hi]
    exact Nat.zero_and _
  · exact Nat.zero_and _
  · exact Nat.zero_and _
theorem drawnR_full (o : Org) (ho : OrgT o) : drawnR o b255 = fullR o := by
  unfold drawnR fullR
  congr 1
  · have hl : (List.replicate o.divs.length 0 : List Nat).length = o.divs.length := List.length_replicate
    refine list_gi (by rw [snocK_len, setK_len, hl]) fun i hi => ?_
    rw [snocK_len] at hi
    rw [snocK_gi _ hi, setK_gi, if_pos ⟨hi, by omega⟩]
    unfold drwnF fullF b255
    rw [if_neg (by omega)]
    exact mask255 (ho.stops i hi)
  · exact mask255 ho.cpls
  · exact Nat.zero_and _
theorem inl_DRW {L : Vm.Frame} {H : Vm.Heap} {nx : Nat} {Q : PV → Vm.Heap → Nat → Prop} {dst : Option Tmp} {ty : TypeId} {pos : String} {af : Array Edge} {gd : Option (Nat × Bool)} {fo : Operand} {args : Array Operand} {aT : Array TypeId} {fs cs xs : List PV} {c : Code}
    (hf : vev env.Γ L fo = some (.clo 18 fs cs)) (ha : evs env.Γ L args.toList = some xs) (hb : Tryz.f18.body = some c) (hn : (fs ++ xs ++ cs).length ≤ Tryz.f18.ntmps)
    (h : VWp env nx c (argFrame 0 (fs ++ xs ++ cs)) H nx (DoneI env.P Tryz.f18.results.toList Q)) : VVal env true ⟨dst, .call { callee := .value fo, args := args, argTypes := aT }, ty, pos, af, gd⟩ L H nx Q := by
  have h0 : (match Tryz.f18.body with | some c => fnOk env.G Tryz.f18 c | none => false) = true := by kernel_rfl
  rw [hb] at h0
  exact VVal.inline rfl hf ha (env_none (by decide)) Tryz.func18 hb h0 hn h

set_option maxRecDepth 100000 in
set_option maxHeartbeats 4000000 in
theorem organDraws_spec (x : OPl) (hx : x.Ok) (b : Nat → Nat) (hb : ∀ i, b i < 256) (d1 d2 : Int) : VFun env 4 [.agg x.enc, .agg (bitsE b), .agg [.int .i64 d1, .int .i64 d2]] (.p (.bool true)) := by
  have hkn := known_spec
  have hfs := fits_spec x hx
  refine VFun.enter (env_none (by decide)) Tryz.func4 rfl (by kernel_rfl) (by simp [Tryz.ntmps4]) ?_
  by_cases hf : fitsP x
  case neg =>
    rw [decide_eq_false hf] at hfs
    repeat' (first
      | apply VWp.assoc
      | apply VWp.rseq
      | apply VWp.retSeq
      | apply VOps.nil
      | apply VOps.one
      | (apply VOps.take; rfl; rfl)
      | (apply VVal.fn; rfl; rfl; exact hkn; intro _; rfl)
      | (apply VVal.fn; rfl; rfl; exact hfs; intro _; rfl)
      | (apply VVal.assign; rfl)
      | (apply VVal.move; rfl)
      | (apply VVal.load; rfl; rfl)
      | (apply VVal.pick_false; rfl; rfl)
      | (apply VVal.box; rfl; trivial)
      | (apply VVal.not; rfl)
      | (apply VWp.condSeq_true; rfl))
    all_goals first | (exfalso; omega) | contradiction | (refine Done.ret rfl (.refl _) (by first | exact trivial | exact ⟨trivial, trivial, trivial⟩ | exact ⟨trivial, trivial, trivial, trivial⟩) HCov.nil (Nat.zero_le _) (Nat.le_refl _) ⟨?_, rfl, rfl⟩; try rfl)
  rw [decide_eq_true hf] at hfs
  have hm := make18_spec x hx hf
  have ho := mkO_t x hx hf
  generalize mkO x = o at *
  have r2 := ho.divs
  have r3 := ho.cpls
  have p3 := pow8 r3
  have p4 := pow8 r2.2
  have hn := none_spec o ho
  have hu := full_spec o ho
  have h0 := drawn_spec o ho (fun _ => 0) (fun _ => by decide)
  have h1 := drawn_spec o ho b255 (fun i => by unfold b255; split <;> decide)
  have hB := drawn_spec o ho b hb
  rw [drawnR_none] at h0
  rw [drawnR_full o ho] at h1
  have bk := drawnR_ok o ho b hb
  have s0 := same_refl (noneR o) (by show (List.replicate o.divs.length 0).length < _; rw [List.length_replicate]; omega)
  have s1 := same_refl (fullR o) (by show (setK (fullF o) (List.replicate o.divs.length 0) o.divs.length).length < _; rw [setK_len, List.length_replicate]; omega)
  have sB := same_refl (drawnR o b) bk.len
  by_cases hin : 0 ≤ d1 ∧ d1 < o.divs.length ∧ 0 ≤ d2 ∧ d2 < (gi o.divs d1.toNat).stops.length
  case neg =>
    have hw := withOut_spec o ho (drawnR o b) bk (drawnR_reg o b) d1 d2 hin
    by_cases hd : 0 ≤ d1 ∧ d1 < o.divs.length
    · obtain ⟨d, rfl⟩ : ∃ d : Nat, d1 = d := ⟨d1.toNat, by omega⟩
      have hdl : d < o.divs.length := by omega
      have s3 := ho.stops d hdl
      rw [Int.toNat_natCast] at hin
      repeat' (first
        | apply VWp.assoc
        | apply VWp.rseq
        | apply VWp.rseqD
        | apply VWp.skipSeq
        | apply VWp.retSeq
        | apply VOps.nil
        | apply VOpsD.nil
        | apply VOps.one
        | (apply VOpsD.bar; decide +kernel)
        | (apply VOps.take; rfl; rfl)
        | (apply VOpsD.quietTake; rfl; rfl)
        | (apply VOpsD.drop; rfl; rfl; rfl)
        | (apply VOpsD.guard; rfl; rfl)
        | (apply VVal.fn; rfl; rfl; exact hkn; intro _; rfl)
        | (apply VVal.fn; rfl; rfl; exact hfs; intro _; rfl)
        | (apply VVal.fn; rfl; rfl; exact hm; intro _; rfl)
        | (apply VVal.fn; rfl; rfl; exact hn; intro _; rfl)
        | (apply VVal.fn; rfl; rfl; exact hu; intro _; rfl)
        | (apply VVal.fn; rfl; rfl; exact h0; intro _; rfl)
        | (apply VVal.fn; rfl; rfl; exact h1; intro _; rfl)
        | (apply VVal.fn; rfl; rfl; exact hB; intro _; rfl)
        | (apply VVal.fn; rfl; rfl; exact hw; intro _; rfl)
        | (apply VVal.fn; rfl; rfl; exact s0; intro _; rfl)
        | (apply VVal.fn; rfl; rfl; exact s1; intro _; rfl)
        | (apply VVal.buildA ; rfl ; rfl ; rfl ; rfl ; rfl)
        | (apply VVal.indexAB ; rfl ; rfl ; rfl ; rfl ; rfl ; decide)
        | (apply VVal.indexN (l := o.divs) (i := d) ; rfl ; rfl ; rfl ; exact hdl ; rfl)
        | (apply VVal.assign; rfl)
        | (apply VVal.move; rfl)
        | (apply VVal.int; rfl; rfl; rfl)
        | (apply VVal.load; rfl; rfl)
        | (apply VVal.pick_true; rfl; rfl)
        | (apply VVal.pick_false; rfl; rfl)
        | (apply VVal.lenF; rfl; rfl)
        | (apply VVal.fieldB; rfl; rfl; rfl)
        | (apply VVal.fieldF; rfl; rfl)
        | (apply VVal.box; rfl; trivial)
        | (apply VVal.alloc; rfl)
        | (apply VVal.storeB; rfl; rfl; rfl; trivial; rfl; rfl; exact lt_dec rfl; exact le_dec rfl)
        | (apply VVal.not; rfl)
        | (apply VVal.extract; rfl; rfl)
        | (apply VWp.condSeq_true; rfl)
        | (apply VWp.condSeq_false; rfl)
        | (apply VWp.condSeq_dec; rfl)
        | (intro _; try (exfalso; omega)))
      all_goals first | (exfalso; omega) | contradiction | ((refine Done.ret rfl (.refl _) (by first | exact trivial | exact ⟨trivial, trivial, trivial⟩ | exact ⟨trivial, trivial, trivial, trivial⟩) HCov.nil (Nat.zero_le _) (Nat.le_refl _) ⟨?_, rfl, rfl⟩; try rfl); try simp)
    · repeat' (first
        | apply VWp.assoc
        | apply VWp.rseq
        | apply VWp.rseqD
        | apply VWp.skipSeq
        | apply VWp.retSeq
        | apply VOps.nil
        | apply VOpsD.nil
        | apply VOps.one
        | (apply VOpsD.bar; decide +kernel)
        | (apply VOps.take; rfl; rfl)
        | (apply VOpsD.quietTake; rfl; rfl)
        | (apply VOpsD.drop; rfl; rfl; rfl)
        | (apply VOpsD.guard; rfl; rfl)
        | (apply VVal.fn; rfl; rfl; exact hkn; intro _; rfl)
        | (apply VVal.fn; rfl; rfl; exact hfs; intro _; rfl)
        | (apply VVal.fn; rfl; rfl; exact hm; intro _; rfl)
        | (apply VVal.fn; rfl; rfl; exact hn; intro _; rfl)
        | (apply VVal.fn; rfl; rfl; exact hu; intro _; rfl)
        | (apply VVal.fn; rfl; rfl; exact h0; intro _; rfl)
        | (apply VVal.fn; rfl; rfl; exact h1; intro _; rfl)
        | (apply VVal.fn; rfl; rfl; exact hB; intro _; rfl)
        | (apply VVal.fn; rfl; rfl; exact hw; intro _; rfl)
        | (apply VVal.fn; rfl; rfl; exact s0; intro _; rfl)
        | (apply VVal.fn; rfl; rfl; exact s1; intro _; rfl)
        | (apply VVal.buildA ; rfl ; rfl ; rfl ; rfl ; rfl)
        | (apply VVal.indexAB ; rfl ; rfl ; rfl ; rfl ; rfl ; decide)
        | (apply VVal.assign; rfl)
        | (apply VVal.move; rfl)
        | (apply VVal.int; rfl; rfl; rfl)
        | (apply VVal.load; rfl; rfl)
        | (apply VVal.pick_true; rfl; rfl)
        | (apply VVal.pick_false; rfl; rfl)
        | (apply VVal.lenF; rfl; rfl)
        | (apply VVal.fieldB; rfl; rfl; rfl)
        | (apply VVal.box; rfl; trivial)
        | (apply VVal.alloc; rfl)
        | (apply VVal.storeB; rfl; rfl; rfl; trivial; rfl; rfl; exact lt_dec rfl; exact le_dec rfl)
        | (apply VVal.not; rfl)
        | (apply VVal.extract; rfl; rfl)
        | (apply VWp.condSeq_true; rfl)
        | (apply VWp.condSeq_false; rfl)
        | (intro _; try (exfalso; omega)))
      all_goals first | (exfalso; omega) | contradiction | ((refine Done.ret rfl (.refl _) (by first | exact trivial | exact ⟨trivial, trivial, trivial⟩ | exact ⟨trivial, trivial, trivial, trivial⟩) HCov.nil (Nat.zero_le _) (Nat.le_refl _) ⟨?_, rfl, rfl⟩; try rfl); try simp)
  obtain ⟨i1, i2, i3, i4⟩ := hin
  obtain ⟨d, rfl⟩ : ∃ d : Nat, d1 = d := ⟨d1.toNat, by omega⟩
  obtain ⟨s, rfl⟩ : ∃ s : Nat, d2 = s := ⟨d2.toNat, by omega⟩
  rw [Int.toNat_natCast] at i4
  have hdl : d < o.divs.length := by omega
  have s3 := ho.stops d hdl
  have hw := with_spec o ho (drawnR o b) bk (drawnR_reg o b) d s hdl (by omega)
  repeat' (first
    | apply VWp.assoc
    | apply VWp.rseq
    | apply VWp.rseqD
    | apply VWp.skipSeq
    | apply VOps.nil
    | apply VOpsD.nil
    | apply VOps.one
    | (apply VOpsD.bar; decide +kernel)
    | (apply VOps.take; rfl; rfl)
    | (apply VOpsD.quietTake; rfl; rfl)
    | (apply VVal.fn; rfl; rfl; exact hkn; intro _; rfl)
    | (apply VVal.fn; rfl; rfl; exact hfs; intro _; rfl)
    | (apply VVal.fn; rfl; rfl; exact hm; intro _; rfl)
    | (apply VVal.fn; rfl; rfl; exact hn; intro _; rfl)
    | (apply VVal.fn; rfl; rfl; exact hu; intro _; rfl)
    | (apply VVal.fn; rfl; rfl; exact h0; intro _; rfl)
    | (apply VVal.fn; rfl; rfl; exact h1; intro _; rfl)
    | (apply VVal.fn; rfl; rfl; exact s0; intro _; rfl)
    | (apply VVal.fn; rfl; rfl; exact s1; intro _; rfl)
    | (apply VVal.buildA ; rfl ; rfl ; rfl ; rfl ; rfl)
    | (apply VVal.assign; rfl)
    | (apply VVal.move; rfl)
    | (apply VVal.int; rfl; rfl; rfl)
    | (apply VVal.load; rfl; rfl)
    | (apply VVal.pick_false; rfl; rfl)
    | (apply VVal.box; rfl; trivial)
    | (apply VVal.alloc; rfl)
    | (apply VVal.storeB; rfl; rfl; rfl; trivial; rfl; rfl; exact lt_dec rfl; exact le_dec rfl)
    | (apply VVal.not; rfl)
    | (apply VVal.extract; rfl; rfl)
    | (apply VWp.condSeq_false; rfl))
  all_goals try (exfalso; omega)
  all_goals try contradiction
  apply VVal.fn; rfl; rfl; exact hB; intro _; rfl
  have b3 := hb 3
  have b4 := hb 4
  repeat' (first
    | apply VWp.assoc
    | apply VWp.rseq
    | apply VWp.rseqD
    | apply VWp.skipSeq
    | apply VWp.blockSeq
    | apply VOps.nil
    | apply VOpsD.nil
    | apply VOps.one
    | (apply VOpsD.bar; decide +kernel)
    | (apply VOpsD.quietTake; rfl; rfl)
    | (apply VOpsD.guard; rfl; rfl)
    | (apply VVal.fn; rfl; rfl; exact hw; intro _; rfl)
    | (apply inl_DRW; rfl; rfl; rfl; exact le_dec rfl)
    | (apply VVal.indexAB ; rfl ; rfl ; rfl ; rfl ; rfl ; decide)
    | (apply VVal.indexN (l := o.divs) (i := d) ; rfl ; rfl ; rfl ; exact hdl ; rfl)
    | (apply VVal.maskU ; rfl ; rfl ; omega)
    | (apply VVal.assign; rfl)
    | (apply VVal.move; rfl)
    | (apply VVal.andU; rfl; rfl; omega; omega)
    | (apply VVal.int; rfl; rfl; rfl)
    | (apply VVal.load; rfl; rfl)
    | (apply VVal.pick_false; rfl; rfl)
    | (apply VVal.lenF; rfl; rfl)
    | (apply VVal.fieldB; rfl; rfl; rfl)
    | (apply VVal.fieldF; rfl; rfl)
    | (apply VVal.box; rfl; trivial)
    | (apply VVal.alloc; rfl)
    | (apply VVal.storeB; rfl; rfl; rfl; trivial; rfl; rfl; exact lt_dec rfl; exact le_dec rfl)
    | (apply VVal.build; rfl; rfl; rfl; rfl; rfl)
    | (apply VVal.extract; rfl; rfl)
    | (apply VVal.convU; rfl; rfl; rfl; rfl; omega)
    | (apply VVal.shlOneU; rfl; rfl; omega)
    | (apply VWp.condSeq_dec; rfl)
    | (intro _; try (exfalso; omega)))
  all_goals try (exfalso; omega)
  all_goals try contradiction
  refine VWp.ghost (Ghost.adoptCell 11 0 59 rfl rfl) ?_
  apply VWp.loopR (o.divs.length) [(2, _), (3, _), (4, _), (5, _)] [(0, _), (1, _), (2, _), (3, _), (4, _), (5, _), (6, _), (7, _), (8, _), (9, _), (10, _)] (fun k r => (6, .p (.int .i64 (k : Int))) :: r) (fun k r => (12, .vec 59 (cells (snocK (drwnF o b) k)) (snocK (drwnF o b) k).length true) :: (11, .box 61 [.vec 12 (snocK (drwnF o b) k).length 0 (snocK (drwnF o b) k).length, .p (.int .u64 ((b 3 &&& (2 ^ o.cpls.length - 1) : Nat) : Int)), .p (.int .u64 ((b 4 &&& (2 ^ o.divs.length - 1) : Nat) : Int))]) :: r) 13
  · omega
  · omega
  · repeat (first | exact LCov.nil | (refine LCov.eq rfl ?_ ?_; (first | exact PV.under_of rfl | (simp [PV.under, PVs.under]; done))) | refine LCov.cons trivial rfl (.of_eq (lst_len (by simp <;> omega))) ?_)
  · repeat (first | exact HCov.nil | (refine HCov.eq rfl (lt_dec rfl) ?_ ?_; (first | exact HB.under_of rfl | exact PVs.under_pure _ _ | (simp [HB.under, PVs.under, PV.under]; done))) | (refine HCov.cons (lt_dec rfl) ?_ rfl ?_ ?_; (first | exact trivial | exact PVs.under_pure _ _ | (simp [HB.under, PVs.under, PV.under])); (first | exact HLe.refl _ | exact HLe.vec (FLes.refl _) (by simp))))
  · intro k hk
    have hl := snocK_len (drwnF o b) k
    have e1 : snocK (drwnF o b) (k + 1) = snocK (drwnF o b) k ++ [drwnF o b k] := rfl
    have e2 : (snocK (drwnF o b) (k + 1)).length = (snocK (drwnF o b) k).length + 1 := by rw [e1]; simp
    have t3 := ho.stops k hk
    have p1 := pow8 t3
    have hbk := hb (k % 3)
    have hr := bitsE_at b k
    repeat' (first
      | apply VWp.assoc
      | apply VWp.rseq
      | apply VWp.region
      | apply VWp.regionD
      | apply VWp.skipSeq
      | apply VWp.blockSeq
      | apply QSeq.normal
      | apply QBlk.normal
      | apply VOps.nil
      | apply VOpsD.nil
      | apply VOps.one
      | (apply VOpsD.bar; decide +kernel)
      | apply VOpsD.quiet
      | (apply VVal.maskU ; rfl ; rfl ; omega)
      | (apply VVal.loadBI ; rfl ; rfl ; rfl ; exact hr)
      | (apply VVal.indexAB ; rfl ; rfl ; rfl ; rfl ; rfl ; omega)
      | (apply VVal.append1 (a := drwnF o b k); rfl; rfl; rfl; rfl; rfl; rfl; rfl; rfl; (intro _ h; cases h); rfl; rfl; rfl; decide; decide; (first | omega | (simp only [List.length_take, List.length_drop, List.length_append, List.length_singleton, List.length_cons, List.length_nil] <;> omega)))
      | (apply VVal.assign; rfl)
      | (apply VVal.move; rfl)
      | (apply VVal.add64; rfl; rfl; omega)
      | (apply VVal.andU; rfl; rfl; omega; omega)
      | (apply VVal.remI; rfl; rfl; omega; omega)
      | (apply VVal.int; rfl; rfl; rfl)
      | (apply VVal.indexN; rfl; rfl; rfl; omega; rfl)
      | (apply VVal.load; rfl; rfl)
      | (apply VVal.lenF; rfl; rfl)
      | (apply VVal.fieldB; rfl; rfl; rfl)
      | (apply VVal.fieldF; rfl; rfl)
      | (apply VVal.storeB; rfl; rfl; rfl; trivial; rfl; rfl; exact lt_dec rfl; exact le_dec rfl)
      | (apply VVal.buildSlice; rfl; rfl; rfl; decide; rfl; rfl; rfl)
      | (apply VVal.convU; rfl; rfl; rfl; rfl; omega)
      | (apply VVal.shlOneU; rfl; rfl; omega)
      | (apply VWp.condSeq_dec; rfl)
      | (intro _; try (exfalso; omega)))
    all_goals try (exfalso; omega)
    refine QLoop.normal ⟨by omega, ?_, ?_⟩
    · try (rw [e2, e1])
      repeat (first | exact LCov.nil | refine LCov.same trivial rfl ?_ | refine LCov.same (lt_dec rfl) rfl ?_ | refine LCov.same ⟨trivial, lt_dec rfl, trivial⟩ rfl ?_ | refine LCov.same ⟨trivial, lt_dec rfl, lt_dec rfl, trivial⟩ rfl ?_ | refine LCov.same ⟨trivial, lt_dec rfl, lt_dec rfl, lt_dec rfl, trivial⟩ rfl ?_ | refine LCov.same ⟨trivial, trivial⟩ rfl ?_ | refine LCov.cons trivial rfl (.of_eq (lst_len (by simp <;> omega))) ?_)
    · rw [e2, e1]
      repeat (first | exact HCov.nil | (refine HCov.cons (lt_dec rfl) ?_ rfl ?_ ?_; (first | exact HB.under_of rfl | exact PVs.under_pure _ _ | (simp [HB.under, PVs.under, PV.under])); (first | exact HLe.refl _ | exact HLe.vec (FLes.refl _) (by simp))))
  · have hl := snocK_len (drwnF o b) o.divs.length
    have pS : 2 ^ s ≤ 8 := pow8 (by omega)
    have g1 : gi (snocK (drwnF o b) o.divs.length) d < 256 := by
      rw [snocK_gi _ hdl]
      have := hb (d % 3)
      have : drwnF o b d ≤ b (d % 3) := Nat.and_le_left
      omega
    have ew : Enc.enc (withR (drawnR o b) d s) = [.lst 59 (cells ((snocK (drwnF o b) o.divs.length).set d (gi (snocK (drwnF o b) o.divs.length) d ||| 2 ^ s))) (snocK (drwnF o b) o.divs.length).length, .int .u64 ((b 3 &&& (2 ^ o.cpls.length - 1) : Nat) : Int), .int .u64 ((b 4 &&& (2 ^ o.divs.length - 1) : Nat) : Int)] := by
      show [FV.lst 59 (cells ((snocK (drwnF o b) o.divs.length).set d (gi (snocK (drwnF o b) o.divs.length) d ||| 2 ^ s))) ((snocK (drwnF o b) o.divs.length).set d (gi (snocK (drwnF o b) o.divs.length) d ||| 2 ^ s)).length, _, _] = _
      rw [List.length_set]
      rfl
    have sW := same_refl (withR (drawnR o b) d s) (by show ((snocK (drwnF o b) o.divs.length).set d _).length < _; rw [List.length_set]; omega)
    have sV : VFun env 17 [.agg (Enc.enc (withR (drawnR o b) d s)), .agg [.lst 59 (cells ((snocK (drwnF o b) o.divs.length).set d (gi (snocK (drwnF o b) o.divs.length) d ||| 2 ^ s))) (snocK (drwnF o b) o.divs.length).length, .int .u64 ((b 3 &&& (2 ^ o.cpls.length - 1) : Nat) : Int), .int .u64 ((b 4 &&& (2 ^ o.divs.length - 1) : Nat) : Int)]] (.p (.bool true)) := by rw [← ew]; exact sW
    repeat' (first
      | (refine VWp.at 14 ?_; refine VWp.ghost (Ghost.freezeCell 13 0 rfl rfl rfl) ?_; first | apply VWp.rseq | apply VWp.rseqD)
      | apply VWp.assoc
      | apply VWp.rseq
      | apply VWp.rseqD
      | apply VWp.exitSeq
      | apply QSeq.normal
      | (apply DoneI.ret; rfl)
      | apply QBlk.exit
      | apply QLoop.exit
      | apply VWp.ret
      | apply VOps.nil
      | apply VOpsD.nil
      | apply VOps.one
      | (apply VOpsD.bar; decide +kernel)
      | apply VOpsD.quiet
      | (apply VOpsD.quietTake; rfl; rfl)
      | (apply VVal.fn; rfl; rfl; exact hB; intro _; rfl)
      | (apply VVal.fn; rfl; rfl; exact sB; intro _; rfl)
      | (apply VVal.fn; rfl; rfl; exact sV; intro _; rfl)
      | (apply VVal.indexAB ; rfl ; rfl ; rfl ; rfl ; rfl ; decide)
      | (apply VVal.storeVL (y := gi (snocK (drwnF o b) o.divs.length) d ||| 2 ^ s); rfl; rfl; rfl; trivial; (first | rfl | (refine congrArg (fun t => [PV.p (FV.int _ t)]) ?_; first | omega | (simp only [Int.natCast_add, Int.natCast_mul, Int.natCast_ediv, Int.natCast_emod] <;> omega))); rfl; rfl; decide; (first | omega | (simp only [List.length_set] <;> omega)))
      | (apply VVal.assign; rfl)
      | (apply VVal.move; rfl)
      | (apply VVal.orU; rfl; rfl; omega; omega)
      | (apply VVal.int; rfl; rfl; rfl)
      | (apply VVal.loadVL; rfl; rfl; omega; rfl)
      | (apply VVal.load; rfl; rfl)
      | (apply VVal.pick_true; rfl; rfl)
      | (apply VVal.lenF; rfl; rfl)
      | (apply VVal.fieldB; rfl; rfl; rfl)
      | (apply VVal.alloc; rfl)
      | (apply VVal.storeB; rfl; rfl; rfl; trivial; rfl; rfl; exact lt_dec rfl; exact le_dec rfl)
      | (apply VVal.indexVN; rfl; rfl; rfl; rfl; omega)
      | (apply VVal.convU; rfl; rfl; rfl; rfl; omega)
      | (apply VVal.shlOneU; rfl; rfl; omega)
      | (apply VWp.condSeq_dec; rfl)
      | (intro _; try (exfalso; omega)))
    all_goals first | (exfalso; omega) | contradiction | ((refine Done.ret rfl (.refl _) (by first | exact trivial | exact ⟨trivial, trivial, trivial⟩ | exact ⟨trivial, trivial, trivial, trivial⟩) HCov.nil (Nat.zero_le _) (Nat.le_refl _) ⟨?_, rfl, rfl⟩; try rfl); try simp)
end Go.Proofs.YtcnlhgmkelkikaaGreatDoor
