/-
  The layer of organs: registrations. Conditions: in each statement.
-/
import Derived.Test.YtcnlhgmkelkikaaGreatDoorOrI
import Derived.Test.YtcnlhgmkelkikaaGreatDoorOrE
import Derived.Test.YtcnlhgmkelkikaaGreatDoorVmG
set_option linter.unusedSimpArgs false
set_option linter.unusedVariables false
namespace Go.Proofs.YtcnlhgmkelkikaaGreatDoor
open Go Go.Am Go.Vm
attribute [local irreducible] VVal VOps VOpsD VWp VCalls VFun VFunV QSeq QBlk QLoop Vm.Done DoneV DoneI

structure Rgs where
  stops : List Nat
  cp : Nat
  off : Nat
instance : Enc Rgs := { default := ⟨[], 0, 0⟩, enc := fun x => [.lst 59 (cells x.stops) x.stops.length, .int .u64 (x.cp : Int), .int .u64 (x.off : Int)], size := 3, len := fun _ => rfl }
structure Rgs.Ok (r : Rgs) : Prop where
  stops : ∀ i, i < r.stops.length → gi r.stops i < 18446744073709551616
  cp : r.cp < 18446744073709551616
  off : r.off < 18446744073709551616
  len : r.stops.length < 9223372036854775808

/-! ## bits -/
def bitsE (b : Nat → Nat) : List FV := [.int .u8 (b 0 : Int), .int .u8 (b 1 : Int), .int .u8 (b 2 : Int), .int .u8 (b 3 : Int), .int .u8 (b 4 : Int)]
def drwnF (o : Org) (b : Nat → Nat) (k : Nat) : Nat := b (k % 3) &&& (2 ^ (gi o.divs k).stops.length - 1)
def drawnR (o : Org) (b : Nat → Nat) : Rgs := ⟨snocK (drwnF o b) o.divs.length, b 3 &&& (2 ^ o.cpls.length - 1), b 4 &&& (2 ^ o.divs.length - 1)⟩
theorem pow8 {n : Nat} (h : n ≤ 3) : 2 ^ n ≤ 8 := Nat.pow_le_pow_right (by omega) h
theorem bitsE_at (b : Nat → Nat) (k : Nat) : ((bitsE b).map PV.p)[0 + ((k : Int) % 3).toNat * 1]? = some (.p (.int .u8 ((b (k % 3) : Nat) : Int))) := by
  have e0 : ((k : Int) % 3).toNat = k % 3 := by omega
  rw [e0]
  have : k % 3 < 3 := Nat.mod_lt _ (by decide)
  generalize k % 3 = n at this
  match n, this with
  | 0, _ => rfl
  | 1, _ => rfl
  | 2, _ => rfl
set_option maxRecDepth 100000 in
set_option maxHeartbeats 1000000 in
theorem drawn_spec (o : Org) (ho : OrgT o) (b : Nat → Nat) (hb : ∀ i, b i < 256) : VFun env 18 [.agg (Enc.enc o), .agg (bitsE b)] (.p (.agg (Enc.enc (drawnR o b)))) := by
  have r2 := ho.divs
  have r3 := ho.cpls
  have b3 := hb 3
  have b4 := hb 4
  have p3 := pow8 r3
  have p4 := pow8 r2.2
  refine VFun.enter (env_none (by decide)) Tryz.func18 rfl (by kernel_rfl) (by simp [Tryz.ntmps18]) ?_
  repeat' (first
    | apply VWp.assoc
    | apply VWp.rseq
    | apply VWp.blockSeq
    | apply VOps.nil
    | apply VOps.one
    | (apply VVal.maskU ; rfl ; rfl ; omega)
    | (apply VVal.indexAB ; rfl ; rfl ; rfl ; rfl ; rfl ; decide)
    | (apply VVal.assign; rfl)
    | (apply VVal.andU; rfl; rfl; omega; omega)
    | (apply VVal.load; rfl; rfl)
    | (apply VVal.lenF; rfl; rfl)
    | (apply VVal.fieldB; rfl; rfl; rfl)
    | (apply VVal.box; rfl; trivial)
    | (apply VVal.alloc; rfl)
    | (apply VVal.storeB; rfl; rfl; rfl; trivial; rfl; rfl; exact lt_dec rfl; exact le_dec rfl)
    | (apply VVal.build; rfl; rfl; rfl; rfl; rfl)
    | (apply VVal.convU; rfl; rfl; rfl; rfl; omega)
    | (apply VVal.shlOneU; rfl; rfl; omega))
  refine VWp.ghost (Ghost.adoptCell 3 0 59 rfl rfl) ?_
  apply VWp.loopR (o.divs.length) [(2, _), (3, _), (4, _), (5, _)] [(0, _), (1, _), (2, _)] (fun k r => (6, .p (.int .i64 (k : Int))) :: r) (fun k r => (4, .vec 59 (cells (snocK (drwnF o b) k)) (snocK (drwnF o b) k).length true) :: (3, .box 61 [.vec 4 (snocK (drwnF o b) k).length 0 (snocK (drwnF o b) k).length, .p (.int .u64 ((b 3 &&& (2 ^ o.cpls.length - 1) : Nat) : Int)), .p (.int .u64 ((b 4 &&& (2 ^ o.divs.length - 1) : Nat) : Int))]) :: r) 5
  · omega
  · omega
  · repeat (first | exact LCov.nil | (refine LCov.eq rfl ?_ ?_; (first | exact PV.under_of rfl | (simp [PV.under, PVs.under]; done))) | refine LCov.cons trivial rfl (.of_eq (lst_len (by simp <;> omega))) ?_)
  · repeat (first | exact HCov.nil | (refine HCov.eq rfl (lt_dec rfl) ?_ ?_; (first | exact HB.under_of rfl | exact PVs.under_pure _ _ | (simp [HB.under, PVs.under, PV.under]; done))) | (refine HCov.cons (lt_dec rfl) ?_ rfl ?_ ?_; (first | exact trivial | exact PVs.under_pure _ _ | (simp [HB.under, PVs.under, PV.under])); (first | exact HLe.refl _ | exact HLe.vec (FLes.refl _) (by simp))))
  · intro k hk
    have hl := snocK_len (drwnF o b) k
    have e1 : snocK (drwnF o b) (k + 1) = snocK (drwnF o b) k ++ [drwnF o b k] := rfl
    have e2 : (snocK (drwnF o b) (k + 1)).length = (snocK (drwnF o b) k).length + 1 := by rw [e1]; simp
    have s3 := ho.stops k hk
    have p1 := pow8 s3
    have hbk := hb (k % 3)
    have hr := bitsE_at b k
    repeat' (first
      | apply VWp.assoc
      | apply VWp.rseq
      | apply VWp.region
      | apply VWp.regionD
      | apply VWp.skipSeq
      | apply VWp.blockSeq
      | apply QSeq.normal
      | apply QBlk.normal
      | apply VOps.nil
      | apply VOpsD.nil
      | apply VOps.one
      | (apply VOpsD.bar; decide +kernel)
      | apply VOpsD.quiet
      | (apply VVal.maskU ; rfl ; rfl ; omega)
      | (apply VVal.loadBI ; rfl ; rfl ; rfl ; exact hr)
      | (apply VVal.indexAB ; rfl ; rfl ; rfl ; rfl ; rfl ; omega)
      | (apply VVal.append1 (a := drwnF o b k); rfl; rfl; rfl; rfl; rfl; rfl; rfl; rfl; (intro _ h; cases h); rfl; rfl; rfl; decide; decide; (first | omega | (simp only [List.length_take, List.length_drop, List.length_append, List.length_singleton, List.length_cons, List.length_nil] <;> omega)))
      | (apply VVal.assign; rfl)
      | (apply VVal.move; rfl)
      | (apply VVal.add64; rfl; rfl; omega)
      | (apply VVal.andU; rfl; rfl; omega; omega)
      | (apply VVal.remI; rfl; rfl; omega; omega)
      | (apply VVal.int; rfl; rfl; rfl)
      | (apply VVal.indexN; rfl; rfl; rfl; omega; rfl)
      | (apply VVal.load; rfl; rfl)
      | (apply VVal.lenF; rfl; rfl)
      | (apply VVal.fieldB; rfl; rfl; rfl)
      | (apply VVal.fieldF; rfl; rfl)
      | (apply VVal.storeB; rfl; rfl; rfl; trivial; rfl; rfl; exact lt_dec rfl; exact le_dec rfl)
      | (apply VVal.buildSlice; rfl; rfl; rfl; decide; rfl; rfl; rfl)
      | (apply VVal.convU; rfl; rfl; rfl; rfl; omega)
      | (apply VVal.shlOneU; rfl; rfl; omega)
      | (apply VWp.condSeq_dec; rfl)
      | (intro _; try (exfalso; omega)))
    all_goals try (exfalso; omega)
    refine QLoop.normal ⟨by omega, ?_, ?_⟩
    · try (rw [e2, e1])
      repeat (first | exact LCov.nil | refine LCov.same trivial rfl ?_ | refine LCov.same (lt_dec rfl) rfl ?_ | refine LCov.same ⟨trivial, lt_dec rfl, trivial⟩ rfl ?_ | refine LCov.same ⟨trivial, lt_dec rfl, lt_dec rfl, trivial⟩ rfl ?_ | refine LCov.same ⟨trivial, lt_dec rfl, lt_dec rfl, lt_dec rfl, trivial⟩ rfl ?_ | refine LCov.same ⟨trivial, trivial⟩ rfl ?_ | refine LCov.cons trivial rfl (.of_eq (lst_len (by simp <;> omega))) ?_)
    · rw [e2, e1]
      repeat (first | exact HCov.nil | (refine HCov.cons (lt_dec rfl) ?_ rfl ?_ ?_; (first | exact HB.under_of rfl | exact PVs.under_pure _ _ | (simp [HB.under, PVs.under, PV.under])); (first | exact HLe.refl _ | exact HLe.vec (FLes.refl _) (by simp))))
  · have hl := snocK_len (drwnF o b) o.divs.length
    repeat' (first
      | (refine VWp.at 6 ?_; refine VWp.ghost (Ghost.freezeCell 3 0 rfl rfl rfl) ?_; first | apply VWp.rseq | apply VWp.rseqD)
      | apply VWp.assoc
      | apply VWp.rseq
      | apply VWp.exitSeq
      | apply QSeq.normal
      | apply QBlk.exit
      | apply QLoop.exit
      | apply VWp.ret
      | apply VOps.nil
      | apply VOps.one
      | (apply VVal.move; rfl)
      | (apply VVal.int; rfl; rfl; rfl)
      | (apply VVal.load; rfl; rfl)
      | (apply VVal.lenF; rfl; rfl)
      | (apply VVal.fieldB; rfl; rfl; rfl)
      | (apply VVal.storeB; rfl; rfl; rfl; trivial; rfl; rfl; exact lt_dec rfl; exact le_dec rfl)
      | (apply VWp.condSeq_dec; rfl)
      | (intro _; try (exfalso; omega)))
    all_goals first | (exfalso; omega) | (refine Done.ret rfl (.refl _) (by first | exact trivial | exact ⟨trivial, trivial, trivial⟩ | exact ⟨trivial, trivial, trivial, trivial⟩) HCov.nil (Nat.zero_le _) (Nat.le_refl _) ⟨?_, rfl, rfl⟩; try rfl)

/-! ## equal ones -/
set_option maxRecDepth 100000 in
set_option maxHeartbeats 1000000 in
theorem same_refl (r : Rgs) (hl : r.stops.length < 9223372036854775808) : VFun env 17 [.agg (Enc.enc r), .agg (Enc.enc r)] (.p (.bool true)) := by
  refine VFun.enter (env_none (by decide)) Tryz.func17 rfl (by kernel_rfl) (by simp [Tryz.ntmps17]) ?_
  repeat' (first
    | apply VWp.assoc
    | apply VWp.rseq
    | apply VWp.skipSeq
    | apply VWp.blockSeq
    | apply VOps.nil
    | apply VOps.one
    | (apply VOps.take; rfl; rfl)
    | (apply VOps.guard; rfl; rfl)
    | (apply VVal.assign; rfl)
    | (apply VVal.move; rfl)
    | (apply VVal.int; rfl; rfl; rfl)
    | (apply VVal.load; rfl; rfl)
    | (apply VVal.pick_false; rfl; rfl)
    | (apply VVal.lenF; rfl; rfl)
    | (apply VVal.fieldB; rfl; rfl; rfl)
    | (apply VVal.box; rfl; trivial)
    | (apply VWp.condSeq_dec; rfl)
    | (intro _; try (exfalso; omega)))
  all_goals try (exfalso; omega)
  apply VWp.loopR (r.stops.length) [(2, _), (3, _)] [(0, _), (1, _)] (fun k r => (5, .p (.int .i64 (k : Int))) :: r) (fun k r => r) 2
  · omega
  · omega
  · repeat (first | exact LCov.nil | (refine LCov.eq rfl ?_ ?_; (first | exact PV.under_of rfl | (simp [PV.under, PVs.under]; done))) | refine LCov.cons trivial rfl (.of_eq (lst_len (by simp <;> omega))) ?_)
  · repeat (first | exact HCov.nil | (refine HCov.eq rfl (lt_dec rfl) ?_ ?_; (first | exact HB.under_of rfl | exact PVs.under_pure _ _ | (simp [HB.under, PVs.under, PV.under]; done))) | (refine HCov.cons (lt_dec rfl) ?_ rfl ?_ ?_; (first | exact trivial | exact PVs.under_pure _ _ | (simp [HB.under, PVs.under, PV.under])); (first | exact HLe.refl _ | exact HLe.vec (FLes.refl _) (by simp))))
  · intro k hk
    repeat' (first
      | apply VWp.assoc
      | apply VWp.rseq
      | apply VWp.rseqD
      | apply VWp.region
      | apply VWp.skipSeq
      | apply VWp.blockSeq
      | apply QSeq.normal
      | apply QBlk.normal
      | apply VWp.skip
      | apply VOps.nil
      | apply VOpsD.nil
      | apply VOps.one
      | (apply VOpsD.bar; decide +kernel)
      | apply VOpsD.quiet
      | (apply VVal.assign; rfl)
      | (apply VVal.move; rfl)
      | (apply VVal.add64; rfl; rfl; omega)
      | (apply VVal.int; rfl; rfl; rfl)
      | (apply VVal.indexN; rfl; rfl; rfl; omega; rfl)
      | (apply VVal.load; rfl; rfl)
      | (apply VVal.lenF; rfl; rfl)
      | (apply VVal.fieldB; rfl; rfl; rfl)
      | (apply VWp.condSeq_dec; rfl)
      | (apply VWp.cond_dec; rfl)
      | (intro _; try (exfalso; omega)))
    all_goals try (exfalso; omega)
    refine QLoop.normal ⟨by omega, ?_, ?_⟩
    · repeat (first | exact LCov.nil | refine LCov.same trivial rfl ?_ | refine LCov.same (lt_dec rfl) rfl ?_ | refine LCov.same ⟨trivial, lt_dec rfl, trivial⟩ rfl ?_ | refine LCov.same ⟨trivial, lt_dec rfl, lt_dec rfl, trivial⟩ rfl ?_ | refine LCov.same ⟨trivial, lt_dec rfl, lt_dec rfl, lt_dec rfl, trivial⟩ rfl ?_ | refine LCov.same ⟨trivial, trivial⟩ rfl ?_ | refine LCov.cons trivial rfl (.of_eq (lst_len (by simp <;> omega))) ?_)
    · repeat (first | exact HCov.nil | (refine HCov.cons (lt_dec rfl) ?_ rfl ?_ ?_; (first | exact HB.under_of rfl | exact PVs.under_pure _ _ | (simp [HB.under, PVs.under, PV.under])); (first | exact HLe.refl _ | exact HLe.vec (FLes.refl _) (by simp))))
  · repeat' (first
      | apply VWp.assoc
      | apply VWp.rseq
      | apply VWp.exitSeq
      | apply QSeq.normal
      | apply QBlk.exit
      | apply QLoop.exit
      | apply VWp.ret
      | apply VOps.nil
      | apply VOps.one
      | (apply VVal.assign; rfl)
      | (apply VVal.move; rfl)
      | (apply VVal.int; rfl; rfl; rfl)
      | (apply VVal.load; rfl; rfl)
      | (apply VVal.lenF; rfl; rfl)
      | (apply VVal.fieldB; rfl; rfl; rfl)
      | (apply VWp.condSeq_dec; rfl)
      | (intro _; try (exfalso; omega)))
    all_goals first | (exfalso; omega) | (refine Done.ret rfl (.refl _) (by first | exact trivial | exact ⟨trivial, trivial, trivial⟩ | exact ⟨trivial, trivial, trivial, trivial⟩) HCov.nil (Nat.zero_le _) (Nat.le_refl _) ⟨?_, rfl, rfl⟩; try rfl)

/-! ## the error of a registration -/
noncomputable def regE (o : Org) (r : Rgs) : Int :=
  open Classical in
  if r.stops.length ≠ o.divs.length then 5
  else if ∃ i, i < r.stops.length ∧ gi r.stops i / 2 ^ (gi o.divs i).stops.length ≠ 0 then 3
  else if r.cp / 2 ^ o.cpls.length ≠ 0 ∨ r.off / 2 ^ o.divs.length ≠ 0 then 3 else 0
theorem regE_len {o : Org} {r : Rgs} (h : r.stops.length ≠ o.divs.length) : regE o r = 5 := by unfold regE; rw [if_pos h]
theorem regE_bad {o : Org} {r : Rgs} (h : r.stops.length = o.divs.length) {i : Nat} (hi : i < r.stops.length) (h2 : gi r.stops i / 2 ^ (gi o.divs i).stops.length ≠ 0) : regE o r = 3 := by
  unfold regE; rw [if_neg (fun h' => h' h), if_pos ⟨i, hi, h2⟩]
theorem regE_rest {o : Org} {r : Rgs} (h : r.stops.length = o.divs.length) (h2 : ∀ i, i < r.stops.length → gi r.stops i / 2 ^ (gi o.divs i).stops.length = 0) : regE o r = if r.cp / 2 ^ o.cpls.length ≠ 0 ∨ r.off / 2 ^ o.divs.length ≠ 0 then 3 else 0 := by
  unfold regE; rw [if_neg (fun h' => h' h), if_neg (fun ⟨i, hi, h3⟩ => h3 (h2 i hi))]
set_option maxRecDepth 100000 in
set_option maxHeartbeats 2000000 in
theorem registration_spec (o : Org) (ho : OrgT o) (r : Rgs) (hr : r.Ok) : VFun env 26 [.agg (Enc.enc o), .agg (Enc.enc r)] (.p (.int .i64 (regE o r))) := by
  have r2 := ho.divs
  have r3 := ho.cpls
  have c1 := hr.cp
  have c2 := hr.off
  have c3 := hr.len
  have hc := known_spec
  refine VFun.enter (env_none (by decide)) Tryz.func26 rfl (by kernel_rfl) (by simp [Tryz.ntmps26]) ?_
  by_cases h1 : r.stops.length = o.divs.length
  case neg =>
    rw [regE_len h1]
    repeat' (first
      | apply VWp.assoc
      | apply VWp.rseq
      | apply VWp.retSeq
      | apply VOps.nil
      | apply VOps.one
      | (apply VVal.assign; rfl)
      | (apply VVal.int; rfl; rfl; rfl)
      | (apply VVal.load; rfl; rfl)
      | (apply VVal.lenF; rfl; rfl)
      | (apply VVal.fieldB; rfl; rfl; rfl)
      | (apply VVal.box; rfl; trivial)
      | (apply VWp.condSeq_dec; rfl)
      | (intro _; try (exfalso; omega)))
    all_goals first | (exfalso; omega) | contradiction | (refine Done.ret rfl (.refl _) (by first | exact trivial | exact ⟨trivial, trivial, trivial⟩ | exact ⟨trivial, trivial, trivial, trivial⟩) HCov.nil (Nat.zero_le _) (Nat.le_refl _) ⟨?_, rfl, rfl⟩; try rfl)
  by_cases h2 : ∀ i, i < r.stops.length → gi r.stops i / 2 ^ (gi o.divs i).stops.length = 0
  case neg =>
    obtain ⟨i, hi⟩ := Classical.not_forall.1 h2
    obtain ⟨hi, h3⟩ := Classical.not_imp.1 hi
    rw [regE_bad h1 hi h3]
    clear h2
    repeat' (first
      | apply VWp.assoc
      | apply VWp.rseq
      | apply VWp.skipSeq
      | apply VWp.blockSeq
      | apply VOps.nil
      | apply VOps.one
      | (apply VVal.assign; rfl)
      | (apply VVal.int; rfl; rfl; rfl)
      | (apply VVal.load; rfl; rfl)
      | (apply VVal.lenF; rfl; rfl)
      | (apply VVal.fieldB; rfl; rfl; rfl)
      | (apply VVal.box; rfl; trivial)
      | (apply VWp.condSeq_dec; rfl)
      | (intro _; try (exfalso; omega)))
    all_goals try (exfalso; omega)
    all_goals try contradiction
    apply VWp.loopRI (r.stops.length) (fun k => ∀ i, i < k → gi r.stops i / 2 ^ (gi o.divs i).stops.length = 0) [(2, _), (3, _)] [(0, _), (1, _)] (fun k r => (5, .p (.int .i64 (k : Int))) :: r) (fun k r => r) 2
    · omega
    · omega
    · repeat (first | exact LCov.nil | (refine LCov.eq rfl ?_ ?_; (first | exact PV.under_of rfl | (simp [PV.under, PVs.under]; done))) | refine LCov.cons trivial rfl (.of_eq (lst_len (by simp <;> omega))) ?_)
    · repeat (first | exact HCov.nil | (refine HCov.eq rfl (lt_dec rfl) ?_ ?_; (first | exact HB.under_of rfl | exact PVs.under_pure _ _ | (simp [HB.under, PVs.under, PV.under]; done))) | (refine HCov.cons (lt_dec rfl) ?_ rfl ?_ ?_; (first | exact trivial | exact PVs.under_pure _ _ | (simp [HB.under, PVs.under, PV.under])); (first | exact HLe.refl _ | exact HLe.vec (FLes.refl _) (by simp))))
    · first | (intro _ _; omega) | omega | trivial
    · intro k hk hok
      have s3 := ho.stops k (by omega)
      have rk := hr.stops k (by omega)
      by_cases hb : gi r.stops k / 2 ^ (gi o.divs k).stops.length = 0
      · repeat' (first
          | apply VWp.assoc
          | apply VWp.rseq
          | apply VWp.rseqD
          | apply VWp.region
          | apply VWp.skipSeq
          | apply VWp.blockSeq
          | apply QSeq.normal
          | apply QBlk.normal
          | apply VWp.skip
          | apply VOps.nil
          | apply VOpsD.nil
          | apply VOps.one
          | (apply VOpsD.bar; decide +kernel)
          | apply VOpsD.quiet
          | (apply VVal.assign; rfl)
          | (apply VVal.move; rfl)
          | (apply VVal.add64; rfl; rfl; omega)
          | (apply VVal.int; rfl; rfl; rfl)
          | (apply VVal.indexN; rfl; rfl; rfl; omega; rfl)
          | (apply VVal.load; rfl; rfl)
          | (apply VVal.lenF; rfl; rfl)
          | (apply VVal.fieldB; rfl; rfl; rfl)
          | (apply VVal.fieldF; rfl; rfl)
          | (apply VVal.convU; rfl; rfl; rfl; rfl; omega)
          | (apply VVal.shrN; rfl; rfl; (simp only [IntKind.bits]; omega))
          | (apply VWp.condSeq_dec; rfl)
          | (apply VWp.cond_dec; rfl)
          | (intro _; try (exfalso; omega)))
        all_goals try (exfalso; omega)
        all_goals try contradiction
        refine QLoop.normal ⟨(all_succ hok hb), by omega, ?_, ?_⟩
        · repeat (first | exact LCov.nil | refine LCov.same trivial rfl ?_ | refine LCov.same (lt_dec rfl) rfl ?_ | refine LCov.same ⟨trivial, lt_dec rfl, trivial⟩ rfl ?_ | refine LCov.same ⟨trivial, lt_dec rfl, lt_dec rfl, trivial⟩ rfl ?_ | refine LCov.same ⟨trivial, lt_dec rfl, lt_dec rfl, lt_dec rfl, trivial⟩ rfl ?_ | refine LCov.same ⟨trivial, trivial⟩ rfl ?_ | refine LCov.cons trivial rfl (.of_eq (lst_len (by simp <;> omega))) ?_)
        · repeat (first | exact HCov.nil | (refine HCov.cons (lt_dec rfl) ?_ rfl ?_ ?_; (first | exact HB.under_of rfl | exact PVs.under_pure _ _ | (simp [HB.under, PVs.under, PV.under])); (first | exact HLe.refl _ | exact HLe.vec (FLes.refl _) (by simp))))
      · repeat' (first
          | apply VWp.assoc
          | apply VWp.rseq
          | apply VWp.rseqD
          | apply VWp.skipSeq
          | apply VWp.blockSeq
          | apply QSeq.ret
          | apply QBlk.ret
          | apply QLoop.ret
          | apply VWp.ret
          | apply VOps.nil
          | apply VOpsD.nil
          | apply VOps.one
          | (apply VOpsD.bar; decide +kernel)
          | apply VOpsD.quiet
          | (apply VVal.assign; rfl)
          | (apply VVal.move; rfl)
          | (apply VVal.int; rfl; rfl; rfl)
          | (apply VVal.indexN; rfl; rfl; rfl; omega; rfl)
          | (apply VVal.load; rfl; rfl)
          | (apply VVal.lenF; rfl; rfl)
          | (apply VVal.fieldB; rfl; rfl; rfl)
          | (apply VVal.fieldF; rfl; rfl)
          | (apply VVal.convU; rfl; rfl; rfl; rfl; omega)
          | (apply VVal.shrN; rfl; rfl; (simp only [IntKind.bits]; omega))
          | (apply VWp.condSeq_dec; rfl)
          | (apply VWp.cond_dec; rfl)
          | (intro _; try (exfalso; omega)))
        all_goals first | (exfalso; omega) | contradiction | (refine Done.ret rfl (.refl _) (by first | exact trivial | exact ⟨trivial, trivial, trivial⟩ | exact ⟨trivial, trivial, trivial, trivial⟩) HCov.nil (Nat.zero_le _) (Nat.le_refl _) ⟨?_, rfl, rfl⟩; try rfl)
    · intro hok
      exact absurd (hok i (by omega)) h3
  rw [regE_rest h1 h2]
  repeat' (first
    | apply VWp.assoc
    | apply VWp.rseq
    | apply VWp.skipSeq
    | apply VWp.blockSeq
    | apply VOps.nil
    | apply VOps.one
    | (apply VVal.assign; rfl)
    | (apply VVal.int; rfl; rfl; rfl)
    | (apply VVal.load; rfl; rfl)
    | (apply VVal.lenF; rfl; rfl)
    | (apply VVal.fieldB; rfl; rfl; rfl)
    | (apply VVal.box; rfl; trivial)
    | (apply VWp.condSeq_dec; rfl)
    | (intro _; try (exfalso; omega)))
  all_goals try (exfalso; omega)
  all_goals try contradiction
  apply VWp.loopRI (r.stops.length) (fun k => ∀ i, i < k → gi r.stops i / 2 ^ (gi o.divs i).stops.length = 0) [(2, _), (3, _)] [(0, _), (1, _)] (fun k r => (5, .p (.int .i64 (k : Int))) :: r) (fun k r => r) 2
  · omega
  · omega
  · repeat (first | exact LCov.nil | (refine LCov.eq rfl ?_ ?_; (first | exact PV.under_of rfl | (simp [PV.under, PVs.under]; done))) | refine LCov.cons trivial rfl (.of_eq (lst_len (by simp <;> omega))) ?_)
  · repeat (first | exact HCov.nil | (refine HCov.eq rfl (lt_dec rfl) ?_ ?_; (first | exact HB.under_of rfl | exact PVs.under_pure _ _ | (simp [HB.under, PVs.under, PV.under]; done))) | (refine HCov.cons (lt_dec rfl) ?_ rfl ?_ ?_; (first | exact trivial | exact PVs.under_pure _ _ | (simp [HB.under, PVs.under, PV.under])); (first | exact HLe.refl _ | exact HLe.vec (FLes.refl _) (by simp))))
  · first | (intro _ _; omega) | omega | trivial
  · intro k hk hok
    have s3 := ho.stops k (by omega)
    have rk := hr.stops k (by omega)
    have hb := h2 k (by omega)
    repeat' (first
      | apply VWp.assoc
      | apply VWp.rseq
      | apply VWp.rseqD
      | apply VWp.region
      | apply VWp.skipSeq
      | apply VWp.blockSeq
      | apply QSeq.normal
      | apply QBlk.normal
      | apply VWp.skip
      | apply VOps.nil
      | apply VOpsD.nil
      | apply VOps.one
      | (apply VOpsD.bar; decide +kernel)
      | apply VOpsD.quiet
      | (apply VVal.assign; rfl)
      | (apply VVal.move; rfl)
      | (apply VVal.add64; rfl; rfl; omega)
      | (apply VVal.int; rfl; rfl; rfl)
      | (apply VVal.indexN; rfl; rfl; rfl; omega; rfl)
      | (apply VVal.load; rfl; rfl)
      | (apply VVal.lenF; rfl; rfl)
      | (apply VVal.fieldB; rfl; rfl; rfl)
      | (apply VVal.fieldF; rfl; rfl)
      | (apply VVal.convU; rfl; rfl; rfl; rfl; omega)
      | (apply VVal.shrN; rfl; rfl; (simp only [IntKind.bits]; omega))
      | (apply VWp.condSeq_dec; rfl)
      | (apply VWp.cond_dec; rfl)
      | (intro _; try (exfalso; omega)))
    all_goals try (exfalso; omega)
    all_goals try contradiction
    refine QLoop.normal ⟨(fun j hj => h2 j (by omega)), by omega, ?_, ?_⟩
    · repeat (first | exact LCov.nil | refine LCov.same trivial rfl ?_ | refine LCov.same (lt_dec rfl) rfl ?_ | refine LCov.same ⟨trivial, lt_dec rfl, trivial⟩ rfl ?_ | refine LCov.same ⟨trivial, lt_dec rfl, lt_dec rfl, trivial⟩ rfl ?_ | refine LCov.same ⟨trivial, lt_dec rfl, lt_dec rfl, lt_dec rfl, trivial⟩ rfl ?_ | refine LCov.same ⟨trivial, trivial⟩ rfl ?_ | refine LCov.cons trivial rfl (.of_eq (lst_len (by simp <;> omega))) ?_)
    · repeat (first | exact HCov.nil | (refine HCov.cons (lt_dec rfl) ?_ rfl ?_ ?_; (first | exact HB.under_of rfl | exact PVs.under_pure _ _ | (simp [HB.under, PVs.under, PV.under])); (first | exact HLe.refl _ | exact HLe.vec (FLes.refl _) (by simp))))
  · intro hok
    by_cases h4 : r.cp / 2 ^ o.cpls.length = 0
    · by_cases h5 : r.off / 2 ^ o.divs.length = 0
      · rw [if_neg (by omega)]
        repeat' (first
          | apply VWp.assoc
          | apply VWp.rseq
          | apply VWp.skipSeq
          | apply VWp.exitSeq
          | apply QSeq.normal
          | apply QBlk.exit
          | apply QLoop.exit
          | apply VWp.ret
          | apply VOps.nil
          | apply VOps.one
          | (apply VOps.take; rfl; rfl)
          | (apply VOps.guard; rfl; rfl)
          | (apply VVal.assign; rfl)
          | (apply VVal.move; rfl)
          | (apply VVal.int; rfl; rfl; rfl)
          | (apply VVal.load; rfl; rfl)
          | (apply VVal.pick_false; rfl; rfl)
          | (apply VVal.lenF; rfl; rfl)
          | (apply VVal.fieldB; rfl; rfl; rfl)
          | (apply VVal.convU; rfl; rfl; rfl; rfl; omega)
          | (apply VVal.shrN; rfl; rfl; (simp only [IntKind.bits]; omega))
          | (apply VWp.condSeq_dec; rfl)
          | (intro _; try (exfalso; omega)))
        all_goals first | (exfalso; omega) | contradiction | (refine Done.ret rfl (.refl _) (by first | exact trivial | exact ⟨trivial, trivial, trivial⟩ | exact ⟨trivial, trivial, trivial, trivial⟩) HCov.nil (Nat.zero_le _) (Nat.le_refl _) ⟨?_, rfl, rfl⟩; try rfl)
      · rw [if_pos (.inr h5)]
        repeat' (first
          | apply VWp.assoc
          | apply VWp.rseq
          | apply VWp.retSeq
          | apply VWp.exitSeq
          | apply QSeq.normal
          | apply QBlk.exit
          | apply QLoop.exit
          | apply VOps.nil
          | apply VOps.one
          | (apply VOps.take; rfl; rfl)
          | (apply VOps.guard; rfl; rfl)
          | (apply VVal.assign; rfl)
          | (apply VVal.move; rfl)
          | (apply VVal.int; rfl; rfl; rfl)
          | (apply VVal.load; rfl; rfl)
          | (apply VVal.pick_false; rfl; rfl)
          | (apply VVal.lenF; rfl; rfl)
          | (apply VVal.fieldB; rfl; rfl; rfl)
          | (apply VVal.convU; rfl; rfl; rfl; rfl; omega)
          | (apply VVal.shrN; rfl; rfl; (simp only [IntKind.bits]; omega))
          | (apply VWp.condSeq_dec; rfl)
          | (intro _; try (exfalso; omega)))
        all_goals first | (exfalso; omega) | contradiction | (refine Done.ret rfl (.refl _) (by first | exact trivial | exact ⟨trivial, trivial, trivial⟩ | exact ⟨trivial, trivial, trivial, trivial⟩) HCov.nil (Nat.zero_le _) (Nat.le_refl _) ⟨?_, rfl, rfl⟩; try rfl)
    · rw [if_pos (.inl h4)]
      repeat' (first
        | apply VWp.assoc
        | apply VWp.rseq
        | apply VWp.retSeq
        | apply VWp.exitSeq
        | apply QSeq.normal
        | apply QBlk.exit
        | apply QLoop.exit
        | apply VOps.nil
        | apply VOps.one
        | (apply VOps.drop; rfl; rfl; rfl)
        | (apply VOps.guard; rfl; rfl)
        | (apply VVal.assign; rfl)
        | (apply VVal.move; rfl)
        | (apply VVal.int; rfl; rfl; rfl)
        | (apply VVal.load; rfl; rfl)
        | (apply VVal.pick_true; rfl; rfl)
        | (apply VVal.lenF; rfl; rfl)
        | (apply VVal.fieldB; rfl; rfl; rfl)
        | (apply VVal.convU; rfl; rfl; rfl; rfl; omega)
        | (apply VVal.shrN; rfl; rfl; (simp only [IntKind.bits]; omega))
        | (apply VWp.condSeq_true; rfl)
        | (apply VWp.condSeq_dec; rfl)
        | (intro _; try (exfalso; omega)))
      all_goals first | (exfalso; omega) | contradiction | (refine Done.ret rfl (.refl _) (by first | exact trivial | exact ⟨trivial, trivial, trivial⟩ | exact ⟨trivial, trivial, trivial, trivial⟩) HCov.nil (Nat.zero_le _) (Nat.le_refl _) ⟨?_, rfl, rfl⟩; try rfl)
set_option maxRecDepth 100000 in
set_option maxHeartbeats 2000000 in
theorem checkReg_spec (o : Org) (ho : OrgT o) (r : Rgs) (hr : r.Ok) : VFun env 27 [.agg (Enc.enc o), .agg (Enc.enc r)] (.p (.int .i64 (regE o r))) := by
  have r2 := ho.divs
  have r3 := ho.cpls
  have c1 := hr.cp
  have c2 := hr.off
  have c3 := hr.len
  have hc := ocheck_spec o ho.sm
  rw [ho.ok] at hc
  refine VFun.enter (env_none (by decide)) Tryz.func27 rfl (by kernel_rfl) (by simp [Tryz.ntmps27]) ?_
  by_cases h1 : r.stops.length = o.divs.length
  case neg =>
    rw [regE_len h1]
    repeat' (first
      | apply VWp.assoc
      | apply VWp.rseq
      | apply VWp.skipSeq
      | apply VWp.retSeq
      | apply VOps.nil
      | apply VOps.one
      | (apply VVal.fn; rfl; rfl; exact hc; intro _; rfl)
      | (apply VVal.assign; rfl)
      | (apply VVal.move; rfl)
      | (apply VVal.int; rfl; rfl; rfl)
      | (apply VVal.load; rfl; rfl)
      | (apply VVal.lenF; rfl; rfl)
      | (apply VVal.fieldB; rfl; rfl; rfl)
      | (apply VVal.box; rfl; trivial)
      | (apply VWp.condSeq_false; rfl)
      | (apply VWp.condSeq_dec; rfl)
      | (intro _; try (exfalso; omega)))
    all_goals first | (exfalso; omega) | contradiction | (refine Done.ret rfl (.refl _) (by first | exact trivial | exact ⟨trivial, trivial, trivial⟩ | exact ⟨trivial, trivial, trivial, trivial⟩) HCov.nil (Nat.zero_le _) (Nat.le_refl _) ⟨?_, rfl, rfl⟩; try rfl)
  by_cases h2 : ∀ i, i < r.stops.length → gi r.stops i / 2 ^ (gi o.divs i).stops.length = 0
  case neg =>
    obtain ⟨i, hi⟩ := Classical.not_forall.1 h2
    obtain ⟨hi, h3⟩ := Classical.not_imp.1 hi
    rw [regE_bad h1 hi h3]
    clear h2
    repeat' (first
      | apply VWp.assoc
      | apply VWp.rseq
      | apply VWp.skipSeq
      | apply VWp.blockSeq
      | apply VOps.nil
      | apply VOps.one
      | (apply VVal.fn; rfl; rfl; exact hc; intro _; rfl)
      | (apply VVal.assign; rfl)
      | (apply VVal.move; rfl)
      | (apply VVal.int; rfl; rfl; rfl)
      | (apply VVal.load; rfl; rfl)
      | (apply VVal.lenF; rfl; rfl)
      | (apply VVal.fieldB; rfl; rfl; rfl)
      | (apply VVal.box; rfl; trivial)
      | (apply VWp.condSeq_false; rfl)
      | (apply VWp.condSeq_dec; rfl)
      | (intro _; try (exfalso; omega)))
    all_goals try (exfalso; omega)
    all_goals try contradiction
    apply VWp.loopRI (o.divs.length) (fun k => ∀ i, i < k → gi r.stops i / 2 ^ (gi o.divs i).stops.length = 0) [(2, _), (3, _), (21, _), (22, _)] [(0, _), (1, _)] (fun k r => (23, .p (.int .i64 (k : Int))) :: r) (fun k r => r) 2
    · omega
    · omega
    · repeat (first | exact LCov.nil | (refine LCov.eq rfl ?_ ?_; (first | exact PV.under_of rfl | (simp [PV.under, PVs.under]; done))) | refine LCov.cons trivial rfl (.of_eq (lst_len (by simp <;> omega))) ?_)
    · repeat (first | exact HCov.nil | (refine HCov.eq rfl (lt_dec rfl) ?_ ?_; (first | exact HB.under_of rfl | exact PVs.under_pure _ _ | (simp [HB.under, PVs.under, PV.under]; done))) | (refine HCov.cons (lt_dec rfl) ?_ rfl ?_ ?_; (first | exact trivial | exact PVs.under_pure _ _ | (simp [HB.under, PVs.under, PV.under])); (first | exact HLe.refl _ | exact HLe.vec (FLes.refl _) (by simp))))
    · first | (intro _ _; omega) | omega | trivial
    · intro k hk hok
      have s3 := ho.stops k (by omega)
      have rk := hr.stops k (by omega)
      by_cases hb : gi r.stops k / 2 ^ (gi o.divs k).stops.length = 0
      · repeat' (first
          | apply VWp.rseq
          | apply VWp.rseqD
          | apply VWp.region
          | apply VWp.skipSeq
          | apply VWp.blockSeq
          | apply QSeq.normal
          | apply QBlk.normal
          | apply VWp.skip
          | apply VOps.nil
          | apply VOpsD.nil
          | apply VOps.one
          | (apply VOpsD.bar; decide +kernel)
          | apply VOpsD.quiet
          | (apply VVal.assign; rfl)
          | (apply VVal.move; rfl)
          | (apply VVal.add64; rfl; rfl; omega)
          | (apply VVal.int; rfl; rfl; rfl)
          | (apply VVal.indexN; rfl; rfl; rfl; omega; rfl)
          | (apply VVal.load; rfl; rfl)
          | (apply VVal.lenF; rfl; rfl)
          | (apply VVal.fieldB; rfl; rfl; rfl)
          | (apply VVal.alloc; rfl)
          | (apply VVal.storeB; rfl; rfl; rfl; trivial; rfl; rfl; exact lt_dec rfl; exact le_dec rfl)
          | (apply VVal.shrN; rfl; rfl; (simp only [IntKind.bits]; omega))
          | (apply VWp.condSeq_dec; rfl)
          | (apply VWp.cond_dec; rfl)
          | (intro _; try (exfalso; omega)))
        all_goals try (exfalso; omega)
        all_goals try contradiction
        refine QLoop.normal ⟨(all_succ hok hb), by omega, ?_, ?_⟩
        · repeat (first | exact LCov.nil | refine LCov.same trivial rfl ?_ | refine LCov.same (lt_dec rfl) rfl ?_ | refine LCov.same ⟨trivial, lt_dec rfl, trivial⟩ rfl ?_ | refine LCov.same ⟨trivial, lt_dec rfl, lt_dec rfl, trivial⟩ rfl ?_ | refine LCov.same ⟨trivial, lt_dec rfl, lt_dec rfl, lt_dec rfl, trivial⟩ rfl ?_ | refine LCov.same ⟨trivial, trivial⟩ rfl ?_ | refine LCov.cons trivial rfl (.of_eq (lst_len (by simp <;> omega))) ?_)
        · repeat (first | exact HCov.nil | (refine HCov.cons (lt_dec rfl) ?_ rfl ?_ ?_; (first | exact HB.under_of rfl | exact PVs.under_pure _ _ | (simp [HB.under, PVs.under, PV.under])); (first | exact HLe.refl _ | exact HLe.vec (FLes.refl _) (by simp))))
      · repeat' (first
          | apply VWp.rseq
          | apply VWp.rseqD
          | apply VWp.skipSeq
          | apply VWp.blockSeq
          | apply QSeq.ret
          | apply QBlk.ret
          | apply QLoop.ret
          | apply VWp.ret
          | apply VOps.nil
          | apply VOpsD.nil
          | apply VOps.one
          | (apply VOpsD.bar; decide +kernel)
          | apply VOpsD.quiet
          | (apply VVal.assign; rfl)
          | (apply VVal.move; rfl)
          | (apply VVal.int; rfl; rfl; rfl)
          | (apply VVal.indexN; rfl; rfl; rfl; omega; rfl)
          | (apply VVal.load; rfl; rfl)
          | (apply VVal.lenF; rfl; rfl)
          | (apply VVal.fieldB; rfl; rfl; rfl)
          | (apply VVal.alloc; rfl)
          | (apply VVal.storeB; rfl; rfl; rfl; trivial; rfl; rfl; exact lt_dec rfl; exact le_dec rfl)
          | (apply VVal.shrN; rfl; rfl; (simp only [IntKind.bits]; omega))
          | (apply VWp.condSeq_dec; rfl)
          | (apply VWp.cond_dec; rfl)
          | (intro _; try (exfalso; omega)))
        all_goals first | (exfalso; omega) | contradiction | (refine Done.ret rfl (.refl _) (by first | exact trivial | exact ⟨trivial, trivial, trivial⟩ | exact ⟨trivial, trivial, trivial, trivial⟩) HCov.nil (Nat.zero_le _) (Nat.le_refl _) ⟨?_, rfl, rfl⟩; try rfl)
    · intro hok
      exact absurd (hok i (by omega)) h3
  rw [regE_rest h1 h2]
  repeat' (first
    | apply VWp.assoc
    | apply VWp.rseq
    | apply VWp.skipSeq
    | apply VWp.blockSeq
    | apply VOps.nil
    | apply VOps.one
    | (apply VVal.fn; rfl; rfl; exact hc; intro _; rfl)
    | (apply VVal.assign; rfl)
    | (apply VVal.move; rfl)
    | (apply VVal.int; rfl; rfl; rfl)
    | (apply VVal.load; rfl; rfl)
    | (apply VVal.lenF; rfl; rfl)
    | (apply VVal.fieldB; rfl; rfl; rfl)
    | (apply VVal.box; rfl; trivial)
    | (apply VWp.condSeq_false; rfl)
    | (apply VWp.condSeq_dec; rfl)
    | (intro _; try (exfalso; omega)))
  all_goals try (exfalso; omega)
  all_goals try contradiction
  apply VWp.loopRI (o.divs.length) (fun k => ∀ i, i < k → gi r.stops i / 2 ^ (gi o.divs i).stops.length = 0) [(2, _), (3, _), (21, _), (22, _)] [(0, _), (1, _)] (fun k r => (23, .p (.int .i64 (k : Int))) :: r) (fun k r => r) 2
  · omega
  · omega
  · repeat (first | exact LCov.nil | (refine LCov.eq rfl ?_ ?_; (first | exact PV.under_of rfl | (simp [PV.under, PVs.under]; done))) | refine LCov.cons trivial rfl (.of_eq (lst_len (by simp <;> omega))) ?_)
  · repeat (first | exact HCov.nil | (refine HCov.eq rfl (lt_dec rfl) ?_ ?_; (first | exact HB.under_of rfl | exact PVs.under_pure _ _ | (simp [HB.under, PVs.under, PV.under]; done))) | (refine HCov.cons (lt_dec rfl) ?_ rfl ?_ ?_; (first | exact trivial | exact PVs.under_pure _ _ | (simp [HB.under, PVs.under, PV.under])); (first | exact HLe.refl _ | exact HLe.vec (FLes.refl _) (by simp))))
  · first | (intro _ _; omega) | omega | trivial
  · intro k hk hok
    have s3 := ho.stops k (by omega)
    have rk := hr.stops k (by omega)
    have hb := h2 k (by omega)
    repeat' (first
      | apply VWp.rseq
      | apply VWp.rseqD
      | apply VWp.region
      | apply VWp.skipSeq
      | apply VWp.blockSeq
      | apply QSeq.normal
      | apply QBlk.normal
      | apply VWp.skip
      | apply VOps.nil
      | apply VOpsD.nil
      | apply VOps.one
      | (apply VOpsD.bar; decide +kernel)
      | apply VOpsD.quiet
      | (apply VVal.assign; rfl)
      | (apply VVal.move; rfl)
      | (apply VVal.add64; rfl; rfl; omega)
      | (apply VVal.int; rfl; rfl; rfl)
      | (apply VVal.indexN; rfl; rfl; rfl; omega; rfl)
      | (apply VVal.load; rfl; rfl)
      | (apply VVal.lenF; rfl; rfl)
      | (apply VVal.fieldB; rfl; rfl; rfl)
      | (apply VVal.alloc; rfl)
      | (apply VVal.storeB; rfl; rfl; rfl; trivial; rfl; rfl; exact lt_dec rfl; exact le_dec rfl)
      | (apply VVal.shrN; rfl; rfl; (simp only [IntKind.bits]; omega))
      | (apply VWp.condSeq_dec; rfl)
      | (apply VWp.cond_dec; rfl)
      | (intro _; try (exfalso; omega)))
    all_goals try (exfalso; omega)
    all_goals try contradiction
    refine QLoop.normal ⟨(fun j hj => h2 j (by omega)), by omega, ?_, ?_⟩
    · repeat (first | exact LCov.nil | refine LCov.same trivial rfl ?_ | refine LCov.same (lt_dec rfl) rfl ?_ | refine LCov.same ⟨trivial, lt_dec rfl, trivial⟩ rfl ?_ | refine LCov.same ⟨trivial, lt_dec rfl, lt_dec rfl, trivial⟩ rfl ?_ | refine LCov.same ⟨trivial, lt_dec rfl, lt_dec rfl, lt_dec rfl, trivial⟩ rfl ?_ | refine LCov.same ⟨trivial, trivial⟩ rfl ?_ | refine LCov.cons trivial rfl (.of_eq (lst_len (by simp <;> omega))) ?_)
    · repeat (first | exact HCov.nil | (refine HCov.cons (lt_dec rfl) ?_ rfl ?_ ?_; (first | exact HB.under_of rfl | exact PVs.under_pure _ _ | (simp [HB.under, PVs.under, PV.under])); (first | exact HLe.refl _ | exact HLe.vec (FLes.refl _) (by simp))))
  · intro hok
    by_cases h4 : r.cp / 2 ^ o.cpls.length = 0
    · by_cases h5 : r.off / 2 ^ o.divs.length = 0
      · rw [if_neg (by omega)]
        repeat' (first
          | apply VWp.assoc
          | apply VWp.rseq
          | apply VWp.skipSeq
          | apply VWp.exitSeq
          | apply QSeq.normal
          | apply QBlk.exit
          | apply QLoop.exit
          | apply VWp.ret
          | apply VOps.nil
          | apply VOps.one
          | (apply VOps.take; rfl; rfl)
          | (apply VOps.guard; rfl; rfl)
          | (apply VVal.assign; rfl)
          | (apply VVal.move; rfl)
          | (apply VVal.int; rfl; rfl; rfl)
          | (apply VVal.load; rfl; rfl)
          | (apply VVal.pick_false; rfl; rfl)
          | (apply VVal.lenF; rfl; rfl)
          | (apply VVal.fieldB; rfl; rfl; rfl)
          | (apply VVal.shrN; rfl; rfl; (simp only [IntKind.bits]; omega))
          | (apply VWp.condSeq_dec; rfl)
          | (intro _; try (exfalso; omega)))
        all_goals first | (exfalso; omega) | contradiction | (refine Done.ret rfl (.refl _) (by first | exact trivial | exact ⟨trivial, trivial, trivial⟩ | exact ⟨trivial, trivial, trivial, trivial⟩) HCov.nil (Nat.zero_le _) (Nat.le_refl _) ⟨?_, rfl, rfl⟩; try rfl)
      · rw [if_pos (.inr h5)]
        repeat' (first
          | apply VWp.assoc
          | apply VWp.rseq
          | apply VWp.retSeq
          | apply VWp.exitSeq
          | apply QSeq.normal
          | apply QBlk.exit
          | apply QLoop.exit
          | apply VOps.nil
          | apply VOps.one
          | (apply VOps.take; rfl; rfl)
          | (apply VOps.guard; rfl; rfl)
          | (apply VVal.assign; rfl)
          | (apply VVal.move; rfl)
          | (apply VVal.int; rfl; rfl; rfl)
          | (apply VVal.load; rfl; rfl)
          | (apply VVal.pick_false; rfl; rfl)
          | (apply VVal.lenF; rfl; rfl)
          | (apply VVal.fieldB; rfl; rfl; rfl)
          | (apply VVal.shrN; rfl; rfl; (simp only [IntKind.bits]; omega))
          | (apply VWp.condSeq_dec; rfl)
          | (intro _; try (exfalso; omega)))
        all_goals first | (exfalso; omega) | contradiction | (refine Done.ret rfl (.refl _) (by first | exact trivial | exact ⟨trivial, trivial, trivial⟩ | exact ⟨trivial, trivial, trivial, trivial⟩) HCov.nil (Nat.zero_le _) (Nat.le_refl _) ⟨?_, rfl, rfl⟩; try rfl)
    · rw [if_pos (.inl h4)]
      repeat' (first
        | apply VWp.assoc
        | apply VWp.rseq
        | apply VWp.retSeq
        | apply VWp.exitSeq
        | apply QSeq.normal
        | apply QBlk.exit
        | apply QLoop.exit
        | apply VOps.nil
        | apply VOps.one
        | (apply VOps.drop; rfl; rfl; rfl)
        | (apply VOps.guard; rfl; rfl)
        | (apply VVal.assign; rfl)
        | (apply VVal.move; rfl)
        | (apply VVal.int; rfl; rfl; rfl)
        | (apply VVal.load; rfl; rfl)
        | (apply VVal.pick_true; rfl; rfl)
        | (apply VVal.lenF; rfl; rfl)
        | (apply VVal.fieldB; rfl; rfl; rfl)
        | (apply VVal.shrN; rfl; rfl; (simp only [IntKind.bits]; omega))
        | (apply VWp.condSeq_true; rfl)
        | (apply VWp.condSeq_dec; rfl)
        | (intro _; try (exfalso; omega)))
      all_goals first | (exfalso; omega) | contradiction | (refine Done.ret rfl (.refl _) (by first | exact trivial | exact ⟨trivial, trivial, trivial⟩ | exact ⟨trivial, trivial, trivial, trivial⟩) HCov.nil (Nat.zero_le _) (Nat.le_refl _) ⟨?_, rfl, rfl⟩; try rfl)
end Go.Proofs.YtcnlhgmkelkikaaGreatDoor
