/-
  The layer of organs: Statistics; the law's count. Conditions: in each statement. (Written by mkcnt.py.)
-/
import Derived.Test.YtcnlhgmkelkikaaGreatDoorOrI
import Derived.Test.YtcnlhgmkelkikaaGreatDoorOrE
set_option linter.unusedSimpArgs false
set_option linter.unusedVariables false
namespace Go.Proofs.YtcnlhgmkelkikaaGreatDoor
open Go Go.Am Go.Vm
attribute [local irreducible] VVal VOps VOpsD VWp VCalls VFun VFunV QSeq QBlk QLoop Vm.Done DoneV DoneI

def pipS (o : Org) : Nat → Int
  | 0 => 0
  | k + 1 => pipS o k + ((gi o.ranks k).wind.length : Int)
def stpS (o : Org) : Nat → Int
  | 0 => 0
  | k + 1 => stpS o k + ((gi o.divs k).stops.length : Int)
def drwS (a : Int) (s : Stp) : Nat → Int
  | 0 => a
  | i + 1 => drwS a s i + ((gi s.segs i).draws.length : Int)
def drwD (a : Int) (d : Dvs) : Nat → Int
  | 0 => a
  | j + 1 => drwS (drwD a d j) (gi d.stops j) (gi d.stops j).segs.length
def drwO (o : Org) : Nat → Int
  | 0 => 0
  | k + 1 => drwD (drwO o k) (gi o.divs k) (gi o.divs k).stops.length
theorem pipS_le {o : Org} (h : OrgT o) : ∀ k, k ≤ o.ranks.length → 0 ≤ pipS o k ∧ pipS o k ≤ k * 1000000
  | 0, _ => by simp [pipS]
  | k + 1, hk => by
    have := pipS_le h k (by omega)
    have := (h.sm.rk k (by omega)).wind
    simp only [pipS]; omega
theorem stpS_le {o : Org} (h : OrgT o) : ∀ k, k ≤ o.divs.length → 0 ≤ stpS o k ∧ stpS o k ≤ k * 3
  | 0, _ => by simp [stpS]
  | k + 1, hk => by
    have := stpS_le h k (by omega)
    have := h.stops k (by omega)
    simp only [stpS]; omega
theorem drwS_le {a : Int} {s : Stp} (h : ∀ i, i < s.segs.length → SegSm (gi s.segs i)) : ∀ i, i ≤ s.segs.length → a ≤ drwS a s i ∧ drwS a s i ≤ a + i * 1000000
  | 0, _ => by simp [drwS]
  | i + 1, hi => by
    have := drwS_le (a := a) h i (by omega)
    have := (h i (by omega)).draws
    simp only [drwS]; omega
theorem drwD_le {a : Int} {d : Dvs} (h : ∀ i, i < d.stops.length → StpSm (gi d.stops i)) : ∀ j, j ≤ d.stops.length → a ≤ drwD a d j ∧ drwD a d j ≤ a + j * 1000000000000
  | 0, _ => by simp [drwD]
  | j + 1, hj => by
    have := drwD_le (a := a) h j (by omega)
    have h1 := h j (by omega)
    have := h1.segs
    have := drwS_le (a := drwD a d j) h1.all _ (Nat.le_refl _)
    simp only [drwD]; omega
theorem drwO_le {o : Org} (h : OrgT o) : ∀ k, k ≤ o.divs.length → 0 ≤ drwO o k ∧ drwO o k ≤ k * 3000000000000
  | 0, _ => by simp [drwO]
  | k + 1, hk => by
    have := drwO_le h k (by omega)
    have := h.stops k (by omega)
    have := drwD_le (a := drwO o k) (h.sm.dv k (by omega)).all _ (Nat.le_refl _)
    simp only [drwO]; omega
def cntO (o : Org) : List FV := [.int .i64 (o.ranks.length : Int), .int .i64 (pipS o o.ranks.length), .int .i64 (o.divs.length : Int), .int .i64 (stpS o o.divs.length), .int .i64 (drwO o o.divs.length), .int .i64 (o.cpls.length : Int)]
theorem freeCnt : eqFree Tryz.prog 36 = true := by kernel_rfl
set_option maxRecDepth 100000 in
theorem eqCnt (o : Org) : Vm.eqSt Tryz.prog 36 (cntO o) (cntO o) = some true := by
  show some (decide (_ = _) && (decide (_ = _) && (decide (_ = _) && (decide (_ = _) && (decide (_ = _) && (decide (_ = _) && true)))))) = _
  simp

set_option maxRecDepth 100000 in
set_option maxHeartbeats 2000000 in
theorem stat_spec (o : Org) (ho : OrgT o) : VFun env 14 [.agg (Enc.enc o)] (.tup [.p (.agg (cntO o)), .p (.int .i64 0)]) := by
  have hc := ocheck_spec o ho.sm
  rw [ho.ok] at hc
  have r1 := ho.ranks
  have r2 := ho.divs
  have r3 := ho.cpls
  refine VFun.enter (env_none (by decide)) Tryz.func14 rfl (by kernel_rfl) (by simp [Tryz.ntmps14]) ?_
  repeat' (first
    | apply VWp.assoc
    | apply VWp.rseq
    | apply VWp.skipSeq
    | apply VWp.blockSeq
    | apply VOps.nil
    | apply VOps.one
    | (apply VVal.fn; rfl; rfl; exact hc; intro _; rfl)
    | (apply VVal.assign; rfl)
    | (apply VVal.move; rfl)
    | (apply VVal.int; rfl; rfl; rfl)
    | (apply VVal.load; rfl; rfl)
    | (apply VVal.lenF; rfl; rfl)
    | (apply VVal.fieldB; rfl; rfl; rfl)
    | (apply VVal.box; rfl; trivial)
    | (apply VVal.alloc; rfl)
    | (apply VVal.storeB; rfl; rfl; rfl; trivial; rfl; rfl; exact lt_dec rfl; exact le_dec rfl)
    | (apply VVal.build; rfl; rfl; rfl; rfl; rfl)
    | (apply VWp.condSeq_false; rfl))
  all_goals try (exfalso; omega)
  all_goals try contradiction
  refine VWp.loopQ (fun k : Nat => [(1, .ref 0 0), (2, .ref 1 0), (5, .ref 2 0), (31, .p (.lst 44 (cells o.ranks) o.ranks.length)), (32, .p (.int .i64 (o.ranks.length : Int))), (33, .p (.int .i64 (k : Int)))]) (fun k => [(2, .box 36 [.p (.int .i64 (o.ranks.length : Int)), .p (.int .i64 (pipS o k)), .p (.int .i64 (o.divs.length : Int)), .p (.int .i64 (0)), .p (.int .i64 (0)), .p (.int .i64 (o.cpls.length : Int))]), (1, .box 36 [.p (.int .i64 0), .p (.int .i64 0), .p (.int .i64 0), .p (.int .i64 0), .p (.int .i64 0), .p (.int .i64 0)]), (0, .box 33 ((Enc.enc o).map .p))]) 3 (fun k => k ≤ o.ranks.length) (fun k => o.ranks.length - k) 0 (by omega) (by omega) ⟨by omega, ?_, ?_⟩ ?_
  · repeat (first | exact LCov.nil | refine LCov.same trivial rfl ?_ | refine LCov.same (lt_dec rfl) rfl ?_ | refine LCov.same ⟨trivial, lt_dec rfl, lt_dec rfl, lt_dec rfl, trivial⟩ rfl ?_ | refine LCov.same ⟨trivial, lt_dec rfl, lt_dec rfl, trivial⟩ rfl ?_ | refine LCov.same ⟨trivial, trivial⟩ rfl ?_ | refine LCov.cons trivial rfl (.of_eq (lst_len (by simp <;> omega))) ?_)
  · repeat (first | exact HCov.nil | (refine HCov.cons (lt_dec rfl) ?_ rfl ?_ ?_; (first | exact trivial | exact PVs.under_pure _ _ | (simp [HB.under, PVs.under, PV.under])); (first | exact HLe.refl _ | exact HLe.vec (FLes.refl _) (by simp))))
  intro k hk
  have pb := pipS_le ho k (by omega)
  by_cases hkl : k < o.ranks.length
  · have w := (ho.sm.rk k hkl).wind
    repeat' (first
      | apply VWp.rseq
      | apply VWp.region
      | apply VWp.skipSeq
      | apply VWp.blockSeq
      | apply QSeq.normal
      | apply QBlk.normal
      | apply VOps.nil
      | apply VOps.one
      | (apply VVal.move; rfl)
      | (apply VVal.add64; rfl; rfl; omega)
      | (apply VVal.int; rfl; rfl; rfl)
      | (apply VVal.indexN; rfl; rfl; rfl; omega; rfl)
      | (apply VVal.load; rfl; rfl)
      | (apply VVal.lenF; rfl; rfl)
      | (apply VVal.fieldB; rfl; rfl; rfl)
      | (apply VVal.alloc; rfl)
      | (apply VVal.storeB; rfl; rfl; rfl; trivial; rfl; rfl; exact lt_dec rfl; exact le_dec rfl)
      | (apply VWp.condSeq_dec; rfl)
      | (intro _; try (exfalso; omega)))
    all_goals try (exfalso; omega)
    refine QLoop.normal ⟨k + 1, by omega, by omega, ⟨by omega, ?_, ?_⟩⟩
    · repeat (first | exact LCov.nil | refine LCov.same trivial rfl ?_ | refine LCov.same (lt_dec rfl) rfl ?_ | refine LCov.same ⟨trivial, lt_dec rfl, lt_dec rfl, lt_dec rfl, trivial⟩ rfl ?_ | refine LCov.same ⟨trivial, lt_dec rfl, lt_dec rfl, trivial⟩ rfl ?_ | refine LCov.same ⟨trivial, trivial⟩ rfl ?_ | refine LCov.cons trivial rfl (.of_eq (lst_len (by simp <;> omega))) ?_)
    · repeat (first | exact HCov.nil | (refine HCov.cons (lt_dec rfl) ?_ rfl ?_ ?_; (first | exact trivial | exact PVs.under_pure _ _ | (simp [HB.under, PVs.under, PV.under])); (first | exact HLe.refl _ | exact HLe.vec (FLes.refl _) (by simp))))
  obtain rfl : k = o.ranks.length := by omega
  clear hkl hk
  repeat' (first
    | apply VWp.assoc
    | apply VWp.rseq
    | apply VWp.exitSeq
    | apply VWp.blockSeq
    | apply QSeq.normal
    | apply QBlk.exit
    | apply QLoop.exit
    | apply VOps.nil
    | apply VOps.one
    | (apply VVal.move; rfl)
    | (apply VVal.int; rfl; rfl; rfl)
    | (apply VVal.load; rfl; rfl)
    | (apply VVal.lenF; rfl; rfl)
    | (apply VVal.fieldB; rfl; rfl; rfl)
    | (apply VWp.condSeq_dec; rfl)
    | (intro _; try (exfalso; omega)))
  all_goals try (exfalso; omega)
  refine VWp.loopQ (fun k : Nat => [(1, .ref 0 0), (2, .ref 1 0), (5, .ref 2 0), (46, .p (.lst 49 (cells o.divs) o.divs.length)), (47, .p (.int .i64 (o.divs.length : Int))), (48, .p (.int .i64 (k : Int)))]) (fun k => [(2, .box 36 [.p (.int .i64 (o.ranks.length : Int)), .p (.int .i64 (pipS o o.ranks.length)), .p (.int .i64 (o.divs.length : Int)), .p (.int .i64 (stpS o k)), .p (.int .i64 (drwO o k)), .p (.int .i64 (o.cpls.length : Int))]), (1, .box 36 [.p (.int .i64 0), .p (.int .i64 0), .p (.int .i64 0), .p (.int .i64 0), .p (.int .i64 0), .p (.int .i64 0)]), (0, .box 33 ((Enc.enc o).map .p))]) 3 (fun k => k ≤ o.divs.length) (fun k => o.divs.length - k) 0 (by omega) (by omega) ⟨by omega, ?_, ?_⟩ ?_
  · repeat (first | exact LCov.nil | refine LCov.same trivial rfl ?_ | refine LCov.same (lt_dec rfl) rfl ?_ | refine LCov.same ⟨trivial, lt_dec rfl, lt_dec rfl, lt_dec rfl, trivial⟩ rfl ?_ | refine LCov.same ⟨trivial, lt_dec rfl, lt_dec rfl, trivial⟩ rfl ?_ | refine LCov.same ⟨trivial, trivial⟩ rfl ?_ | refine LCov.cons trivial rfl (.of_eq (lst_len (by simp <;> omega))) ?_)
  · repeat (first | exact HCov.nil | (refine HCov.cons (lt_dec rfl) ?_ rfl ?_ ?_; (first | exact trivial | exact PVs.under_pure _ _ | (simp [HB.under, PVs.under, PV.under])); (first | exact HLe.refl _ | exact HLe.vec (FLes.refl _) (by simp))))
  intro k hk
  have sb := stpS_le ho k (by omega)
  have db := drwO_le ho k (by omega)
  by_cases hkl : k < o.divs.length
  · have q1 := ho.stops k hkl
    have q2 := (ho.sm.dv k hkl).all
    repeat' (first
      | apply VWp.rseq
      | apply VWp.skipSeq
      | apply VWp.blockSeq
      | apply VWp.blockQ
      | apply VOps.nil
      | apply VOps.one
      | (apply VVal.move; rfl)
      | (apply VVal.add64; rfl; rfl; omega)
      | (apply VVal.int; rfl; rfl; rfl)
      | (apply VVal.indexN; rfl; rfl; rfl; omega; rfl)
      | (apply VVal.load; rfl; rfl)
      | (apply VVal.lenF; rfl; rfl)
      | (apply VVal.fieldB; rfl; rfl; rfl)
      | (apply VVal.alloc; rfl)
      | (apply VVal.storeB; rfl; rfl; rfl; trivial; rfl; rfl; exact lt_dec rfl; exact le_dec rfl)
      | (apply VWp.condSeq_dec; rfl)
      | (intro _; try (exfalso; omega)))
    all_goals try (exfalso; omega)
    refine VWp.loopQ (fun j : Nat => [(1, .ref 0 0), (2, .ref 1 0), (5, .ref 2 0), (46, .p (.lst 49 (cells o.divs) o.divs.length)), (47, .p (.int .i64 (o.divs.length : Int))), (48, .p (.int .i64 (k : Int))), (60, .p (.lst 52 (cells (gi o.divs k).stops) (gi o.divs k).stops.length)), (61, .p (.int .i64 ((gi o.divs k).stops.length : Int))), (62, .p (.int .i64 (j : Int)))]) (fun j => [(2, .box 36 [.p (.int .i64 (o.ranks.length : Int)), .p (.int .i64 (pipS o o.ranks.length)), .p (.int .i64 (o.divs.length : Int)), .p (.int .i64 (stpS o (k + 1))), .p (.int .i64 (drwD (drwO o k) (gi o.divs k) j)), .p (.int .i64 (o.cpls.length : Int))]), (1, .box 36 [.p (.int .i64 0), .p (.int .i64 0), .p (.int .i64 0), .p (.int .i64 0), .p (.int .i64 0), .p (.int .i64 0)]), (0, .box 33 ((Enc.enc o).map .p))]) 4 (fun j => j ≤ (gi o.divs k).stops.length) (fun j => (gi o.divs k).stops.length - j) 0 (by omega) (by omega) ⟨by omega, ?_, ?_⟩ ?_
    · repeat (first | exact LCov.nil | refine LCov.same trivial rfl ?_ | refine LCov.same (lt_dec rfl) rfl ?_ | refine LCov.same ⟨trivial, lt_dec rfl, lt_dec rfl, lt_dec rfl, trivial⟩ rfl ?_ | refine LCov.same ⟨trivial, lt_dec rfl, lt_dec rfl, trivial⟩ rfl ?_ | refine LCov.same ⟨trivial, trivial⟩ rfl ?_ | refine LCov.cons trivial rfl (.of_eq (lst_len (by simp <;> omega))) ?_)
    · repeat (first | exact HCov.nil | (refine HCov.cons (lt_dec rfl) ?_ rfl ?_ ?_; (first | exact trivial | exact PVs.under_pure _ _ | (simp [HB.under, PVs.under, PV.under])); (first | exact HLe.refl _ | exact HLe.vec (FLes.refl _) (by simp))))
    intro j hj
    have eb := drwD_le (a := drwO o k) (d := gi o.divs k) q2 j (by omega)
    by_cases hjl : j < (gi o.divs k).stops.length
    · have q3 := (q2 j hjl).segs
      have q4 := (q2 j hjl).all
      repeat' (first
        | apply VWp.rseq
        | apply VWp.skipSeq
        | apply VWp.blockSeq
        | apply VWp.blockQ
        | apply VOps.nil
        | apply VOps.one
        | (apply VVal.move; rfl)
        | (apply VVal.int; rfl; rfl; rfl)
        | (apply VVal.indexN; rfl; rfl; rfl; omega; rfl)
        | (apply VVal.load; rfl; rfl)
        | (apply VVal.lenF; rfl; rfl)
        | (apply VVal.fieldB; rfl; rfl; rfl)
        | (apply VVal.alloc; rfl)
        | (apply VVal.storeB; rfl; rfl; rfl; trivial; rfl; rfl; exact lt_dec rfl; exact le_dec rfl)
        | (apply VWp.condSeq_dec; rfl)
        | (intro _; try (exfalso; omega)))
      all_goals try (exfalso; omega)
      refine VWp.loopQ (fun i : Nat => [(1, .ref 0 0), (2, .ref 1 0), (5, .ref 2 0), (46, .p (.lst 49 (cells o.divs) o.divs.length)), (47, .p (.int .i64 (o.divs.length : Int))), (48, .p (.int .i64 (k : Int))), (60, .p (.lst 52 (cells (gi o.divs k).stops) (gi o.divs k).stops.length)), (61, .p (.int .i64 ((gi o.divs k).stops.length : Int))), (62, .p (.int .i64 (j : Int))), (67, .p (.lst 55 (cells (gi (gi o.divs k).stops j).segs) (gi (gi o.divs k).stops j).segs.length)), (68, .p (.int .i64 ((gi (gi o.divs k).stops j).segs.length : Int))), (69, .p (.int .i64 (i : Int)))]) (fun i => [(2, .box 36 [.p (.int .i64 (o.ranks.length : Int)), .p (.int .i64 (pipS o o.ranks.length)), .p (.int .i64 (o.divs.length : Int)), .p (.int .i64 (stpS o (k + 1))), .p (.int .i64 (drwS (drwD (drwO o k) (gi o.divs k) j) (gi (gi o.divs k).stops j) i)), .p (.int .i64 (o.cpls.length : Int))]), (1, .box 36 [.p (.int .i64 0), .p (.int .i64 0), .p (.int .i64 0), .p (.int .i64 0), .p (.int .i64 0), .p (.int .i64 0)]), (0, .box 33 ((Enc.enc o).map .p))]) 5 (fun i => i ≤ (gi (gi o.divs k).stops j).segs.length) (fun i => (gi (gi o.divs k).stops j).segs.length - i) 0 (by omega) (by omega) ⟨by omega, ?_, ?_⟩ ?_
      · repeat (first | exact LCov.nil | refine LCov.same trivial rfl ?_ | refine LCov.same (lt_dec rfl) rfl ?_ | refine LCov.same ⟨trivial, lt_dec rfl, lt_dec rfl, lt_dec rfl, trivial⟩ rfl ?_ | refine LCov.same ⟨trivial, lt_dec rfl, lt_dec rfl, trivial⟩ rfl ?_ | refine LCov.same ⟨trivial, trivial⟩ rfl ?_ | refine LCov.cons trivial rfl (.of_eq (lst_len (by simp <;> omega))) ?_)
      · repeat (first | exact HCov.nil | (refine HCov.cons (lt_dec rfl) ?_ rfl ?_ ?_; (first | exact trivial | exact PVs.under_pure _ _ | (simp [HB.under, PVs.under, PV.under])); (first | exact HLe.refl _ | exact HLe.vec (FLes.refl _) (by simp))))
      intro i hi
      have fb := drwS_le (a := drwD (drwO o k) (gi o.divs k) j) (s := gi (gi o.divs k).stops j) q4 i (by omega)
      by_cases hil : i < (gi (gi o.divs k).stops j).segs.length
      · have q5 := (q4 i hil).draws
        repeat' (first
          | apply VWp.rseq
          | apply VWp.region
          | apply VWp.skipSeq
          | apply VWp.blockSeq
          | apply QSeq.normal
          | apply QBlk.normal
          | apply VOps.nil
          | apply VOps.one
          | (apply VVal.move; rfl)
          | (apply VVal.add64; rfl; rfl; omega)
          | (apply VVal.int; rfl; rfl; rfl)
          | (apply VVal.indexN; rfl; rfl; rfl; omega; rfl)
          | (apply VVal.load; rfl; rfl)
          | (apply VVal.lenF; rfl; rfl)
          | (apply VVal.fieldB; rfl; rfl; rfl)
          | (apply VVal.alloc; rfl)
          | (apply VVal.storeB; rfl; rfl; rfl; trivial; rfl; rfl; exact lt_dec rfl; exact le_dec rfl)
          | (apply VWp.condSeq_dec; rfl)
          | (intro _; try (exfalso; omega)))
        all_goals try (exfalso; omega)
        refine QLoop.normal ⟨i + 1, by omega, by omega, ⟨by omega, ?_, ?_⟩⟩
        · repeat (first | exact LCov.nil | refine LCov.same trivial rfl ?_ | refine LCov.same (lt_dec rfl) rfl ?_ | refine LCov.same ⟨trivial, lt_dec rfl, lt_dec rfl, lt_dec rfl, trivial⟩ rfl ?_ | refine LCov.same ⟨trivial, lt_dec rfl, lt_dec rfl, trivial⟩ rfl ?_ | refine LCov.same ⟨trivial, trivial⟩ rfl ?_ | refine LCov.cons trivial rfl (.of_eq (lst_len (by simp <;> omega))) ?_)
        · repeat (first | exact HCov.nil | (refine HCov.cons (lt_dec rfl) ?_ rfl ?_ ?_; (first | exact trivial | exact PVs.under_pure _ _ | (simp [HB.under, PVs.under, PV.under])); (first | exact HLe.refl _ | exact HLe.vec (FLes.refl _) (by simp))))
      obtain rfl : i = (gi (gi o.divs k).stops j).segs.length := by omega
      repeat' (first
        | apply VWp.rseq
        | apply VWp.region
        | apply VWp.exitSeq
        | apply QSeq.normal
        | apply QBlk.normal
        | apply QBlk.exit
        | apply QLoop.exit
        | apply VOps.nil
        | apply VOps.one
        | (apply VVal.move; rfl)
        | (apply VVal.add64; rfl; rfl; omega)
        | (apply VVal.int; rfl; rfl; rfl)
        | (apply VWp.condSeq_dec; rfl)
        | (intro _; try (exfalso; omega)))
      all_goals try (exfalso; omega)
      refine QLoop.normal ⟨j + 1, by omega, by omega, ⟨by omega, ?_, ?_⟩⟩
      · repeat (first | exact LCov.nil | refine LCov.same trivial rfl ?_ | refine LCov.same (lt_dec rfl) rfl ?_ | refine LCov.same ⟨trivial, lt_dec rfl, lt_dec rfl, lt_dec rfl, trivial⟩ rfl ?_ | refine LCov.same ⟨trivial, lt_dec rfl, lt_dec rfl, trivial⟩ rfl ?_ | refine LCov.same ⟨trivial, trivial⟩ rfl ?_ | refine LCov.cons trivial rfl (.of_eq (lst_len (by simp <;> omega))) ?_)
      · repeat (first | exact HCov.nil | (refine HCov.cons (lt_dec rfl) ?_ rfl ?_ ?_; (first | exact trivial | exact PVs.under_pure _ _ | (simp [HB.under, PVs.under, PV.under])); (first | exact HLe.refl _ | exact HLe.vec (FLes.refl _) (by simp))))
    obtain rfl : j = (gi o.divs k).stops.length := by omega
    repeat' (first
      | apply VWp.rseq
      | apply VWp.region
      | apply VWp.exitSeq
      | apply QSeq.normal
      | apply QBlk.normal
      | apply QBlk.exit
      | apply QLoop.exit
      | apply VOps.nil
      | apply VOps.one
      | (apply VVal.move; rfl)
      | (apply VVal.add64; rfl; rfl; omega)
      | (apply VVal.int; rfl; rfl; rfl)
      | (apply VWp.condSeq_dec; rfl)
      | (intro _; try (exfalso; omega)))
    all_goals try (exfalso; omega)
    refine QLoop.normal ⟨k + 1, by omega, by omega, ⟨by omega, ?_, ?_⟩⟩
    · repeat (first | exact LCov.nil | refine LCov.same trivial rfl ?_ | refine LCov.same (lt_dec rfl) rfl ?_ | refine LCov.same ⟨trivial, lt_dec rfl, lt_dec rfl, lt_dec rfl, trivial⟩ rfl ?_ | refine LCov.same ⟨trivial, lt_dec rfl, lt_dec rfl, trivial⟩ rfl ?_ | refine LCov.same ⟨trivial, trivial⟩ rfl ?_ | refine LCov.cons trivial rfl (.of_eq (lst_len (by simp <;> omega))) ?_)
    · repeat (first | exact HCov.nil | (refine HCov.cons (lt_dec rfl) ?_ rfl ?_ ?_; (first | exact trivial | exact PVs.under_pure _ _ | (simp [HB.under, PVs.under, PV.under])); (first | exact HLe.refl _ | exact HLe.vec (FLes.refl _) (by simp))))
  obtain rfl : k = o.divs.length := by omega
  clear hkl hk
  repeat' (first
    | apply VWp.rseq
    | apply VWp.exitSeq
    | apply QSeq.normal
    | apply QBlk.exit
    | apply QLoop.exit
    | apply VWp.ret
    | apply VOps.nil
    | apply VOps.one
    | (apply VVal.assign; rfl)
    | (apply VVal.int; rfl; rfl; rfl)
    | (apply VVal.load; rfl; rfl)
    | (apply VVal.storeB; rfl; rfl; rfl; trivial; rfl; rfl; exact lt_dec rfl; exact le_dec rfl)
    | (apply VWp.condSeq_dec; rfl)
    | (intro _; try (exfalso; omega)))
  all_goals first | (exfalso; omega) | contradiction | (refine Done.ret rfl (.refl _) (by first | exact trivial | exact ⟨trivial, trivial, trivial⟩ | exact ⟨trivial, trivial, trivial, trivial⟩) HCov.nil (Nat.zero_le _) (Nat.le_refl _) ⟨?_, rfl, rfl⟩; try rfl)

set_option maxRecDepth 100000 in
set_option maxHeartbeats 2000000 in
theorem organCounts_spec (x : OPl) (hx : x.Ok) : VFun env 3 [.agg x.enc] (.p (.bool true)) := by
  have hkn := known_spec
  have hfs := fits_spec x hx
  refine VFun.enter (env_none (by decide)) Tryz.func3 rfl (by kernel_rfl) (by simp [Tryz.ntmps3]) ?_
  by_cases hf : fitsP x
  case neg =>
    rw [decide_eq_false hf] at hfs
    repeat' (first
      | apply VWp.assoc
      | apply VWp.rseq
      | apply VWp.retSeq
      | apply VOps.nil
      | apply VOps.one
      | (apply VOps.take; rfl; rfl)
      | (apply VVal.fn; rfl; rfl; exact hkn; intro _; rfl)
      | (apply VVal.fn; rfl; rfl; exact hfs; intro _; rfl)
      | (apply VVal.assign; rfl)
      | (apply VVal.move; rfl)
      | (apply VVal.load; rfl; rfl)
      | (apply VVal.pick_false; rfl; rfl)
      | (apply VVal.box; rfl; trivial)
      | (apply VVal.not; rfl)
      | (apply VWp.condSeq_true; rfl))
    all_goals first | (exfalso; omega) | contradiction | (refine Done.ret rfl (.refl _) (by first | exact trivial | exact ⟨trivial, trivial, trivial⟩ | exact ⟨trivial, trivial, trivial, trivial⟩) HCov.nil (Nat.zero_le _) (Nat.le_refl _) ⟨?_, rfl, rfl⟩; try rfl)
  rw [decide_eq_true hf] at hfs
  have hm := make18_spec x hx hf
  have ho := mkO_t x hx hf
  generalize mkO x = o at *
  have hs := stat_spec o ho
  have r1 := ho.ranks
  have r2 := ho.divs
  have r3 := ho.cpls
  repeat' (first
    | apply VWp.assoc
    | apply VWp.rseq
    | apply VWp.skipSeq
    | apply VWp.blockSeq
    | apply VOps.nil
    | apply VOps.one
    | (apply VOps.take; rfl; rfl)
    | (apply VVal.fn; rfl; rfl; exact hkn; intro _; rfl)
    | (apply VVal.fn; rfl; rfl; exact hfs; intro _; rfl)
    | (apply VVal.fn; rfl; rfl; exact hm; intro _; rfl)
    | (apply VVal.fn; rfl; rfl; exact hs; intro _; rfl)
    | (apply VVal.assign; rfl)
    | (apply VVal.move; rfl)
    | (apply VVal.load; rfl; rfl)
    | (apply VVal.pick_false; rfl; rfl)
    | (apply VVal.lenF; rfl; rfl)
    | (apply VVal.fieldB; rfl; rfl; rfl)
    | (apply VVal.box; rfl; trivial)
    | (apply VVal.alloc; rfl)
    | (apply VVal.storeB; rfl; rfl; rfl; trivial; rfl; rfl; exact lt_dec rfl; exact le_dec rfl)
    | (apply VVal.build; rfl; rfl; rfl; rfl; rfl)
    | (apply VVal.not; rfl)
    | (apply VVal.extract; rfl; rfl)
    | (apply VWp.condSeq_false; rfl))
  all_goals try (exfalso; omega)
  all_goals try contradiction
  refine VWp.loopQ (fun k : Nat => [(1, .ref 0 0), (3, .ref 1 0), (4, .ref 2 0), (5, .p (.int .i64 0)), (6, .ref 3 0), (41, .p (.lst 44 (cells o.ranks) o.ranks.length)), (42, .p (.int .i64 (o.ranks.length : Int))), (43, .p (.int .i64 (k : Int)))]) (fun k => [(3, .box 36 [.p (.int .i64 (o.ranks.length : Int)), .p (.int .i64 (pipS o k)), .p (.int .i64 (o.divs.length : Int)), .p (.int .i64 (0)), .p (.int .i64 (0)), .p (.int .i64 (o.cpls.length : Int))]), (2, .box 36 ((cntO o).map .p)), (1, .box 33 ((Enc.enc o).map .p)), (0, .box 26 (x.enc.map .p))]) 4 (fun k => k ≤ o.ranks.length) (fun k => o.ranks.length - k) 0 (by omega) (by omega) ⟨by omega, ?_, ?_⟩ ?_
  · repeat (first | exact LCov.nil | refine LCov.same trivial rfl ?_ | refine LCov.same (lt_dec rfl) rfl ?_ | refine LCov.same ⟨trivial, lt_dec rfl, lt_dec rfl, lt_dec rfl, trivial⟩ rfl ?_ | refine LCov.same ⟨trivial, lt_dec rfl, lt_dec rfl, trivial⟩ rfl ?_ | refine LCov.same ⟨trivial, trivial⟩ rfl ?_ | refine LCov.cons trivial rfl (.of_eq (lst_len (by simp <;> omega))) ?_)
  · repeat (first | exact HCov.nil | (refine HCov.cons (lt_dec rfl) ?_ rfl ?_ ?_; (first | exact trivial | exact PVs.under_pure _ _ | (simp [HB.under, PVs.under, PV.under])); (first | exact HLe.refl _ | exact HLe.vec (FLes.refl _) (by simp))))
  intro k hk
  have pb := pipS_le ho k (by omega)
  by_cases hkl : k < o.ranks.length
  · have w := (ho.sm.rk k hkl).wind
    repeat' (first
      | apply VWp.rseq
      | apply VWp.region
      | apply VWp.skipSeq
      | apply VWp.blockSeq
      | apply QSeq.normal
      | apply QBlk.normal
      | apply VOps.nil
      | apply VOps.one
      | (apply VVal.move; rfl)
      | (apply VVal.add64; rfl; rfl; omega)
      | (apply VVal.int; rfl; rfl; rfl)
      | (apply VVal.indexN; rfl; rfl; rfl; omega; rfl)
      | (apply VVal.load; rfl; rfl)
      | (apply VVal.lenF; rfl; rfl)
      | (apply VVal.fieldB; rfl; rfl; rfl)
      | (apply VVal.alloc; rfl)
      | (apply VVal.storeB; rfl; rfl; rfl; trivial; rfl; rfl; exact lt_dec rfl; exact le_dec rfl)
      | (apply VWp.condSeq_dec; rfl)
      | (intro _; try (exfalso; omega)))
    all_goals try (exfalso; omega)
    refine QLoop.normal ⟨k + 1, by omega, by omega, ⟨by omega, ?_, ?_⟩⟩
    · repeat (first | exact LCov.nil | refine LCov.same trivial rfl ?_ | refine LCov.same (lt_dec rfl) rfl ?_ | refine LCov.same ⟨trivial, lt_dec rfl, lt_dec rfl, lt_dec rfl, trivial⟩ rfl ?_ | refine LCov.same ⟨trivial, lt_dec rfl, lt_dec rfl, trivial⟩ rfl ?_ | refine LCov.same ⟨trivial, trivial⟩ rfl ?_ | refine LCov.cons trivial rfl (.of_eq (lst_len (by simp <;> omega))) ?_)
    · repeat (first | exact HCov.nil | (refine HCov.cons (lt_dec rfl) ?_ rfl ?_ ?_; (first | exact trivial | exact PVs.under_pure _ _ | (simp [HB.under, PVs.under, PV.under])); (first | exact HLe.refl _ | exact HLe.vec (FLes.refl _) (by simp))))
  obtain rfl : k = o.ranks.length := by omega
  clear hkl hk
  repeat' (first
    | apply VWp.assoc
    | apply VWp.rseq
    | apply VWp.exitSeq
    | apply VWp.blockSeq
    | apply QSeq.normal
    | apply QBlk.exit
    | apply QLoop.exit
    | apply VOps.nil
    | apply VOps.one
    | (apply VVal.move; rfl)
    | (apply VVal.int; rfl; rfl; rfl)
    | (apply VVal.load; rfl; rfl)
    | (apply VVal.lenF; rfl; rfl)
    | (apply VVal.fieldB; rfl; rfl; rfl)
    | (apply VWp.condSeq_dec; rfl)
    | (intro _; try (exfalso; omega)))
  all_goals try (exfalso; omega)
  refine VWp.loopQ (fun k : Nat => [(1, .ref 0 0), (3, .ref 1 0), (4, .ref 2 0), (5, .p (.int .i64 0)), (6, .ref 3 0), (56, .p (.lst 49 (cells o.divs) o.divs.length)), (57, .p (.int .i64 (o.divs.length : Int))), (58, .p (.int .i64 (k : Int)))]) (fun k => [(3, .box 36 [.p (.int .i64 (o.ranks.length : Int)), .p (.int .i64 (pipS o o.ranks.length)), .p (.int .i64 (o.divs.length : Int)), .p (.int .i64 (stpS o k)), .p (.int .i64 (drwO o k)), .p (.int .i64 (o.cpls.length : Int))]), (2, .box 36 ((cntO o).map .p)), (1, .box 33 ((Enc.enc o).map .p)), (0, .box 26 (x.enc.map .p))]) 4 (fun k => k ≤ o.divs.length) (fun k => o.divs.length - k) 0 (by omega) (by omega) ⟨by omega, ?_, ?_⟩ ?_
  · repeat (first | exact LCov.nil | refine LCov.same trivial rfl ?_ | refine LCov.same (lt_dec rfl) rfl ?_ | refine LCov.same ⟨trivial, lt_dec rfl, lt_dec rfl, lt_dec rfl, trivial⟩ rfl ?_ | refine LCov.same ⟨trivial, lt_dec rfl, lt_dec rfl, trivial⟩ rfl ?_ | refine LCov.same ⟨trivial, trivial⟩ rfl ?_ | refine LCov.cons trivial rfl (.of_eq (lst_len (by simp <;> omega))) ?_)
  · repeat (first | exact HCov.nil | (refine HCov.cons (lt_dec rfl) ?_ rfl ?_ ?_; (first | exact trivial | exact PVs.under_pure _ _ | (simp [HB.under, PVs.under, PV.under])); (first | exact HLe.refl _ | exact HLe.vec (FLes.refl _) (by simp))))
  intro k hk
  have sb := stpS_le ho k (by omega)
  have db := drwO_le ho k (by omega)
  by_cases hkl : k < o.divs.length
  · have q1 := ho.stops k hkl
    have q2 := (ho.sm.dv k hkl).all
    repeat' (first
      | apply VWp.rseq
      | apply VWp.skipSeq
      | apply VWp.blockSeq
      | apply VWp.blockQ
      | apply VOps.nil
      | apply VOps.one
      | (apply VVal.move; rfl)
      | (apply VVal.add64; rfl; rfl; omega)
      | (apply VVal.int; rfl; rfl; rfl)
      | (apply VVal.indexN; rfl; rfl; rfl; omega; rfl)
      | (apply VVal.load; rfl; rfl)
      | (apply VVal.lenF; rfl; rfl)
      | (apply VVal.fieldB; rfl; rfl; rfl)
      | (apply VVal.alloc; rfl)
      | (apply VVal.storeB; rfl; rfl; rfl; trivial; rfl; rfl; exact lt_dec rfl; exact le_dec rfl)
      | (apply VWp.condSeq_dec; rfl)
      | (intro _; try (exfalso; omega)))
    all_goals try (exfalso; omega)
    refine VWp.loopQ (fun j : Nat => [(1, .ref 0 0), (3, .ref 1 0), (4, .ref 2 0), (5, .p (.int .i64 0)), (6, .ref 3 0), (56, .p (.lst 49 (cells o.divs) o.divs.length)), (57, .p (.int .i64 (o.divs.length : Int))), (58, .p (.int .i64 (k : Int))), (70, .p (.lst 52 (cells (gi o.divs k).stops) (gi o.divs k).stops.length)), (71, .p (.int .i64 ((gi o.divs k).stops.length : Int))), (72, .p (.int .i64 (j : Int)))]) (fun j => [(3, .box 36 [.p (.int .i64 (o.ranks.length : Int)), .p (.int .i64 (pipS o o.ranks.length)), .p (.int .i64 (o.divs.length : Int)), .p (.int .i64 (stpS o (k + 1))), .p (.int .i64 (drwD (drwO o k) (gi o.divs k) j)), .p (.int .i64 (o.cpls.length : Int))]), (2, .box 36 ((cntO o).map .p)), (1, .box 33 ((Enc.enc o).map .p)), (0, .box 26 (x.enc.map .p))]) 5 (fun j => j ≤ (gi o.divs k).stops.length) (fun j => (gi o.divs k).stops.length - j) 0 (by omega) (by omega) ⟨by omega, ?_, ?_⟩ ?_
    · repeat (first | exact LCov.nil | refine LCov.same trivial rfl ?_ | refine LCov.same (lt_dec rfl) rfl ?_ | refine LCov.same ⟨trivial, lt_dec rfl, lt_dec rfl, lt_dec rfl, trivial⟩ rfl ?_ | refine LCov.same ⟨trivial, lt_dec rfl, lt_dec rfl, trivial⟩ rfl ?_ | refine LCov.same ⟨trivial, trivial⟩ rfl ?_ | refine LCov.cons trivial rfl (.of_eq (lst_len (by simp <;> omega))) ?_)
    · repeat (first | exact HCov.nil | (refine HCov.cons (lt_dec rfl) ?_ rfl ?_ ?_; (first | exact trivial | exact PVs.under_pure _ _ | (simp [HB.under, PVs.under, PV.under])); (first | exact HLe.refl _ | exact HLe.vec (FLes.refl _) (by simp))))
    intro j hj
    have eb := drwD_le (a := drwO o k) (d := gi o.divs k) q2 j (by omega)
    by_cases hjl : j < (gi o.divs k).stops.length
    · have q3 := (q2 j hjl).segs
      have q4 := (q2 j hjl).all
      repeat' (first
        | apply VWp.rseq
        | apply VWp.skipSeq
        | apply VWp.blockSeq
        | apply VWp.blockQ
        | apply VOps.nil
        | apply VOps.one
        | (apply VVal.move; rfl)
        | (apply VVal.int; rfl; rfl; rfl)
        | (apply VVal.indexN; rfl; rfl; rfl; omega; rfl)
        | (apply VVal.load; rfl; rfl)
        | (apply VVal.lenF; rfl; rfl)
        | (apply VVal.fieldB; rfl; rfl; rfl)
        | (apply VVal.alloc; rfl)
        | (apply VVal.storeB; rfl; rfl; rfl; trivial; rfl; rfl; exact lt_dec rfl; exact le_dec rfl)
        | (apply VWp.condSeq_dec; rfl)
        | (intro _; try (exfalso; omega)))
      all_goals try (exfalso; omega)
      refine VWp.loopQ (fun i : Nat => [(1, .ref 0 0), (3, .ref 1 0), (4, .ref 2 0), (5, .p (.int .i64 0)), (6, .ref 3 0), (56, .p (.lst 49 (cells o.divs) o.divs.length)), (57, .p (.int .i64 (o.divs.length : Int))), (58, .p (.int .i64 (k : Int))), (70, .p (.lst 52 (cells (gi o.divs k).stops) (gi o.divs k).stops.length)), (71, .p (.int .i64 ((gi o.divs k).stops.length : Int))), (72, .p (.int .i64 (j : Int))), (77, .p (.lst 55 (cells (gi (gi o.divs k).stops j).segs) (gi (gi o.divs k).stops j).segs.length)), (78, .p (.int .i64 ((gi (gi o.divs k).stops j).segs.length : Int))), (79, .p (.int .i64 (i : Int)))]) (fun i => [(3, .box 36 [.p (.int .i64 (o.ranks.length : Int)), .p (.int .i64 (pipS o o.ranks.length)), .p (.int .i64 (o.divs.length : Int)), .p (.int .i64 (stpS o (k + 1))), .p (.int .i64 (drwS (drwD (drwO o k) (gi o.divs k) j) (gi (gi o.divs k).stops j) i)), .p (.int .i64 (o.cpls.length : Int))]), (2, .box 36 ((cntO o).map .p)), (1, .box 33 ((Enc.enc o).map .p)), (0, .box 26 (x.enc.map .p))]) 6 (fun i => i ≤ (gi (gi o.divs k).stops j).segs.length) (fun i => (gi (gi o.divs k).stops j).segs.length - i) 0 (by omega) (by omega) ⟨by omega, ?_, ?_⟩ ?_
      · repeat (first | exact LCov.nil | refine LCov.same trivial rfl ?_ | refine LCov.same (lt_dec rfl) rfl ?_ | refine LCov.same ⟨trivial, lt_dec rfl, lt_dec rfl, lt_dec rfl, trivial⟩ rfl ?_ | refine LCov.same ⟨trivial, lt_dec rfl, lt_dec rfl, trivial⟩ rfl ?_ | refine LCov.same ⟨trivial, trivial⟩ rfl ?_ | refine LCov.cons trivial rfl (.of_eq (lst_len (by simp <;> omega))) ?_)
      · repeat (first | exact HCov.nil | (refine HCov.cons (lt_dec rfl) ?_ rfl ?_ ?_; (first | exact trivial | exact PVs.under_pure _ _ | (simp [HB.under, PVs.under, PV.under])); (first | exact HLe.refl _ | exact HLe.vec (FLes.refl _) (by simp))))
      intro i hi
      have fb := drwS_le (a := drwD (drwO o k) (gi o.divs k) j) (s := gi (gi o.divs k).stops j) q4 i (by omega)
      by_cases hil : i < (gi (gi o.divs k).stops j).segs.length
      · have q5 := (q4 i hil).draws
        repeat' (first
          | apply VWp.rseq
          | apply VWp.region
          | apply VWp.skipSeq
          | apply VWp.blockSeq
          | apply QSeq.normal
          | apply QBlk.normal
          | apply VOps.nil
          | apply VOps.one
          | (apply VVal.move; rfl)
          | (apply VVal.add64; rfl; rfl; omega)
          | (apply VVal.int; rfl; rfl; rfl)
          | (apply VVal.indexN; rfl; rfl; rfl; omega; rfl)
          | (apply VVal.load; rfl; rfl)
          | (apply VVal.lenF; rfl; rfl)
          | (apply VVal.fieldB; rfl; rfl; rfl)
          | (apply VVal.alloc; rfl)
          | (apply VVal.storeB; rfl; rfl; rfl; trivial; rfl; rfl; exact lt_dec rfl; exact le_dec rfl)
          | (apply VWp.condSeq_dec; rfl)
          | (intro _; try (exfalso; omega)))
        all_goals try (exfalso; omega)
        refine QLoop.normal ⟨i + 1, by omega, by omega, ⟨by omega, ?_, ?_⟩⟩
        · repeat (first | exact LCov.nil | refine LCov.same trivial rfl ?_ | refine LCov.same (lt_dec rfl) rfl ?_ | refine LCov.same ⟨trivial, lt_dec rfl, lt_dec rfl, lt_dec rfl, trivial⟩ rfl ?_ | refine LCov.same ⟨trivial, lt_dec rfl, lt_dec rfl, trivial⟩ rfl ?_ | refine LCov.same ⟨trivial, trivial⟩ rfl ?_ | refine LCov.cons trivial rfl (.of_eq (lst_len (by simp <;> omega))) ?_)
        · repeat (first | exact HCov.nil | (refine HCov.cons (lt_dec rfl) ?_ rfl ?_ ?_; (first | exact trivial | exact PVs.under_pure _ _ | (simp [HB.under, PVs.under, PV.under])); (first | exact HLe.refl _ | exact HLe.vec (FLes.refl _) (by simp))))
      obtain rfl : i = (gi (gi o.divs k).stops j).segs.length := by omega
      repeat' (first
        | apply VWp.rseq
        | apply VWp.region
        | apply VWp.exitSeq
        | apply QSeq.normal
        | apply QBlk.normal
        | apply QBlk.exit
        | apply QLoop.exit
        | apply VOps.nil
        | apply VOps.one
        | (apply VVal.move; rfl)
        | (apply VVal.add64; rfl; rfl; omega)
        | (apply VVal.int; rfl; rfl; rfl)
        | (apply VWp.condSeq_dec; rfl)
        | (intro _; try (exfalso; omega)))
      all_goals try (exfalso; omega)
      refine QLoop.normal ⟨j + 1, by omega, by omega, ⟨by omega, ?_, ?_⟩⟩
      · repeat (first | exact LCov.nil | refine LCov.same trivial rfl ?_ | refine LCov.same (lt_dec rfl) rfl ?_ | refine LCov.same ⟨trivial, lt_dec rfl, lt_dec rfl, lt_dec rfl, trivial⟩ rfl ?_ | refine LCov.same ⟨trivial, lt_dec rfl, lt_dec rfl, trivial⟩ rfl ?_ | refine LCov.same ⟨trivial, trivial⟩ rfl ?_ | refine LCov.cons trivial rfl (.of_eq (lst_len (by simp <;> omega))) ?_)
      · repeat (first | exact HCov.nil | (refine HCov.cons (lt_dec rfl) ?_ rfl ?_ ?_; (first | exact trivial | exact PVs.under_pure _ _ | (simp [HB.under, PVs.under, PV.under])); (first | exact HLe.refl _ | exact HLe.vec (FLes.refl _) (by simp))))
    obtain rfl : j = (gi o.divs k).stops.length := by omega
    repeat' (first
      | apply VWp.rseq
      | apply VWp.region
      | apply VWp.exitSeq
      | apply QSeq.normal
      | apply QBlk.normal
      | apply QBlk.exit
      | apply QLoop.exit
      | apply VOps.nil
      | apply VOps.one
      | (apply VVal.move; rfl)
      | (apply VVal.add64; rfl; rfl; omega)
      | (apply VVal.int; rfl; rfl; rfl)
      | (apply VWp.condSeq_dec; rfl)
      | (intro _; try (exfalso; omega)))
    all_goals try (exfalso; omega)
    refine QLoop.normal ⟨k + 1, by omega, by omega, ⟨by omega, ?_, ?_⟩⟩
    · repeat (first | exact LCov.nil | refine LCov.same trivial rfl ?_ | refine LCov.same (lt_dec rfl) rfl ?_ | refine LCov.same ⟨trivial, lt_dec rfl, lt_dec rfl, lt_dec rfl, trivial⟩ rfl ?_ | refine LCov.same ⟨trivial, lt_dec rfl, lt_dec rfl, trivial⟩ rfl ?_ | refine LCov.same ⟨trivial, trivial⟩ rfl ?_ | refine LCov.cons trivial rfl (.of_eq (lst_len (by simp <;> omega))) ?_)
    · repeat (first | exact HCov.nil | (refine HCov.cons (lt_dec rfl) ?_ rfl ?_ ?_; (first | exact trivial | exact PVs.under_pure _ _ | (simp [HB.under, PVs.under, PV.under])); (first | exact HLe.refl _ | exact HLe.vec (FLes.refl _) (by simp))))
  obtain rfl : k = o.divs.length := by omega
  clear hkl hk
  repeat' (first
    | apply VWp.rseq
    | apply VWp.exitSeq
    | apply QSeq.normal
    | apply QBlk.exit
    | apply QLoop.exit
    | apply VWp.ret
    | apply VOps.nil
    | apply VOps.one
    | (apply VOps.take; rfl; rfl)
    | (apply VVal.eqSt1 ; rfl ; rfl ; exact freeCnt ; exact eqCnt o)
    | (apply VVal.assign; rfl)
    | (apply VVal.move; rfl)
    | (apply VVal.int; rfl; rfl; rfl)
    | (apply VVal.load; rfl; rfl)
    | (apply VVal.pick_true; rfl; rfl)
    | (apply VWp.condSeq_dec; rfl)
    | (intro _; try (exfalso; omega)))
  all_goals first | (exfalso; omega) | contradiction | (refine Done.ret rfl (.refl _) (by first | exact trivial | exact ⟨trivial, trivial, trivial⟩ | exact ⟨trivial, trivial, trivial, trivial⟩) HCov.nil (Nat.zero_le _) (Nat.le_refl _) ⟨?_, rfl, rfl⟩; try rfl)
end Go.Proofs.YtcnlhgmkelkikaaGreatDoor
