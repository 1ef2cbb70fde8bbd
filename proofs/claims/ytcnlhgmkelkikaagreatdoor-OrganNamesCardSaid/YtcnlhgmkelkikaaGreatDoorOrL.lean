/-
  The layer of organs: the index of a name. Conditions: in each statement. (Written by mkix.py.)
-/
import Derived.Test.YtcnlhgmkelkikaaGreatDoorOrI
import Derived.Test.YtcnlhgmkelkikaaGreatDoorOrE
set_option linter.unusedSimpArgs false
set_option linter.unusedVariables false
namespace Go.Proofs.YtcnlhgmkelkikaaGreatDoor
open Go Go.Am Go.Vm
attribute [local irreducible] VVal VOps VOpsD VWp VCalls VFun VFunV QSeq QBlk QLoop Vm.Done DoneV DoneI

/-- the first of m places whose name is n, or -1 -/
def ixF (f : Nat → List UInt8) (n : List UInt8) : Nat → Int
  | 0 => -1
  | m + 1 => if 0 ≤ ixF f n m then ixF f n m else if f m = n then (m : Int) else -1
theorem ixF_none {f : Nat → List UInt8} {n : List UInt8} : ∀ {m : Nat}, (∀ i, i < m → f i ≠ n) → ixF f n m = -1
  | 0, _ => rfl
  | m + 1, h => by
    have := ixF_none (m := m) (fun i hi => h i (by omega))
    rw [ixF, this, if_neg (by omega), if_neg (h m (by omega))]
theorem ixF_at {f : Nat → List UInt8} {n : List UInt8} {k : Nat} (h1 : f k = n) (h2 : ∀ i, i < k → f i ≠ n) : ∀ {m : Nat}, k < m → ixF f n m = k
  | m + 1, h => by
    by_cases hm : k < m
    · have := ixF_at h1 h2 hm
      rw [ixF, this, if_pos (by omega)]
    · obtain rfl : k = m := by omega
      rw [ixF, ixF_none h2, if_neg (by omega), if_pos h1]
theorem ixF_ge {f : Nat → List UInt8} {n : List UInt8} : ∀ m : Nat, -1 ≤ ixF f n m ∧ ixF f n m < m
  | 0 => by simp [ixF]
  | m + 1 => by
    have := ixF_ge (f := f) (n := n) m
    rw [ixF]
    split
    · omega
    · split <;> omega
theorem found_spec (n : Int) : VFun env 46 [.int .i64 n] (.tup [.p (.int .i64 (max n 0)), .p (.bool (decide (n ≥ 0))), .p (.int .i64 0)]) := by
  refine VFun.enter (env_none (by decide)) Tryz.func46 rfl (by kernel_rfl) (by simp [Tryz.ntmps46]) ?_
  repeat' (first
    | apply VWp.rseq
    | apply VWp.ret
    | apply VOps.nil
    | apply VOps.one
    | (apply VVal.assign; rfl)
    | (apply VVal.move; rfl)
    | (apply VVal.int; rfl; rfl; rfl)
    | (apply VVal.maxI; rfl; rfl))
  all_goals first | (exfalso; omega) | (refine Done.ret rfl (.refl _) (by first | exact trivial | exact ⟨trivial, trivial, trivial⟩ | exact ⟨trivial, trivial, trivial, trivial⟩) HCov.nil (Nat.zero_le _) (Nat.le_refl _) ⟨?_, rfl, rfl⟩; try rfl)

theorem inl_IXRank {L : Vm.Frame} {H : Vm.Heap} {nx : Nat} {Q : PV → Vm.Heap → Nat → Prop} {dst : Option Tmp} {ty : TypeId} {pos : String} {af : Array Edge} {gd : Option (Nat × Bool)} {fo : Operand} {args : Array Operand} {aT : Array TypeId} {fs cs xs : List PV} {c : Code}
    (hf : vev env.Γ L fo = some (.clo 47 fs cs)) (ha : evs env.Γ L args.toList = some xs) (hb : Tryz.f47.body = some c) (hn : (fs ++ xs ++ cs).length ≤ Tryz.f47.ntmps)
    (h : VWp env nx c (argFrame 0 (fs ++ xs ++ cs)) H nx (DoneI env.P Tryz.f47.results.toList Q)) : VVal env true ⟨dst, .call { callee := .value fo, args := args, argTypes := aT }, ty, pos, af, gd⟩ L H nx Q := by
  have h0 : (match Tryz.f47.body with | some c => fnOk env.G Tryz.f47 c | none => false) = true := by kernel_rfl
  rw [hb] at h0
  exact VVal.inline rfl hf ha (env_none (by decide)) Tryz.func47 hb h0 hn h

theorem inl_ICRank {L : Vm.Frame} {H : Vm.Heap} {nx : Nat} {Q : PV → Vm.Heap → Nat → Prop} {dst : Option Tmp} {ty : TypeId} {pos : String} {af : Array Edge} {gd : Option (Nat × Bool)} {fo : Operand} {args : Array Operand} {aT : Array TypeId} {fs cs xs : List PV} {c : Code}
    (hf : vev env.Γ L fo = some (.clo 48 fs cs)) (ha : evs env.Γ L args.toList = some xs) (hb : Tryz.f48.body = some c) (hn : (fs ++ xs ++ cs).length ≤ Tryz.f48.ntmps)
    (h : VWp env nx c (argFrame 0 (fs ++ xs ++ cs)) H nx (DoneI env.P Tryz.f48.results.toList Q)) : VVal env true ⟨dst, .call { callee := .value fo, args := args, argTypes := aT }, ty, pos, af, gd⟩ L H nx Q := by
  have h0 : (match Tryz.f48.body with | some c => fnOk env.G Tryz.f48 c | none => false) = true := by kernel_rfl
  rw [hb] at h0
  exact VVal.inline rfl hf ha (env_none (by decide)) Tryz.func48 hb h0 hn h

set_option maxRecDepth 100000 in
set_option maxHeartbeats 2000000 in
theorem ixRank_spec (o : Org) (ho : OrgT o) (n : List UInt8) : VFun env 21 [.agg (Enc.enc o), .str (bs n)] (.tup [.p (.int .i64 (max (ixF (fun i => (gi o.ranks i).name) n o.ranks.length) 0)), .p (.bool (decide (ixF (fun i => (gi o.ranks i).name) n o.ranks.length ≥ 0))), .p (.int .i64 0)]) := by
  have hc := ocheck_spec o ho.sm
  rw [ho.ok] at hc
  have r1 := ho.ranks
  have r2 := ho.divs
  have r3 := ho.cpls
  skip
  have hfd := found_spec (ixF (fun i => (gi o.ranks i).name) n o.ranks.length)
  refine VFun.enter (env_none (by decide)) Tryz.func21 rfl (by kernel_rfl) (by simp [Tryz.ntmps21]) ?_
  repeat' (first
    | apply VWp.assoc
    | apply VWp.rseq
    | apply VWp.skipSeq
    | apply VWp.blockSeq
    | apply VOps.nil
    | apply VOps.one
    | (apply VVal.fn; rfl; rfl; exact hc; intro _; rfl)
    | (apply inl_IXRank; rfl; rfl; rfl; exact le_dec rfl)
    | (apply VVal.makeFunc ; rfl ; rfl)
    | (apply VVal.assign; rfl)
    | (apply VVal.move; rfl)
    | (apply VVal.int; rfl; rfl; rfl)
    | (apply VVal.load; rfl; rfl)
    | (apply VVal.lenF; rfl; rfl)
    | (apply VVal.fieldB; rfl; rfl; rfl)
    | (apply VVal.box; rfl; trivial)
    | (apply VWp.condSeq_false; rfl))
  all_goals try (exfalso; omega)
  all_goals try contradiction
  refine VWp.loopQ (fun k : Nat => [(0, .p (.lst 44 (cells o.ranks) o.ranks.length)), (1, .clo 48 [] [.ref 1 0]), (7, .p (.int .i64 (o.ranks.length : Int))), (8, .p (.int .i64 (k : Int)))]) (fun _ => [(1, .box 9 [.p (.str (bs n))]), (0, .box 33 ((Enc.enc o).map .p))]) 2 (fun k => k ≤ o.ranks.length ∧ ∀ i, i < k → (gi o.ranks i).name ≠ n) (fun k => o.ranks.length - k) 0 (by omega) ⟨by omega, fun i hi => by omega⟩ ⟨by omega, ?_, ?_⟩ ?_
  · repeat (first | exact LCov.nil | refine LCov.same trivial rfl ?_ | refine LCov.same (lt_dec rfl) rfl ?_ | refine LCov.same ⟨trivial, lt_dec rfl, trivial⟩ rfl ?_ | refine LCov.same ⟨trivial, lt_dec rfl, lt_dec rfl, trivial⟩ rfl ?_ | refine LCov.same ⟨trivial, lt_dec rfl, lt_dec rfl, lt_dec rfl, trivial⟩ rfl ?_ | refine LCov.same ⟨trivial, trivial⟩ rfl ?_ | refine LCov.cons trivial rfl (.of_eq (lst_len (by simp <;> omega))) ?_)
  · repeat (first | exact HCov.nil | (refine HCov.cons (lt_dec rfl) ?_ rfl ?_ ?_; (first | exact trivial | exact PVs.under_pure _ _ | (simp [HB.under, PVs.under, PV.under])); (first | exact HLe.refl _ | exact HLe.vec (FLes.refl _) (by simp))))
  rintro k ⟨hk, hok⟩
  by_cases hkl : k < o.ranks.length
  · generalize hg : decide ((gi o.ranks k).name = n) = g at *
    cases g
    · repeat' (first
        | apply VWp.rseq
        | apply VWp.region
        | apply VWp.skipSeq
        | apply VWp.blockSeq
        | apply QSeq.normal
        | (apply DoneI.ret; rfl)
        | apply QBlk.normal
        | apply VWp.ret
        | apply VWp.skip
        | apply VOps.nil
        | apply VOps.one
        | (apply inl_ICRank; rfl; rfl; rfl; exact le_dec rfl)
        | (apply VVal.eqSd ; rfl ; rfl ; exact hg)
        | (apply VVal.assign; rfl)
        | (apply VVal.move; rfl)
        | (apply VVal.add64; rfl; rfl; omega)
        | (apply VVal.int; rfl; rfl; rfl)
        | (apply VVal.indexN; rfl; rfl; rfl; omega; rfl)
        | (apply VVal.load; rfl; rfl)
        | (apply VVal.fieldB; rfl; rfl; rfl)
        | (apply VVal.box; rfl; trivial)
        | (apply VWp.condSeq_dec; rfl)
        | (apply VWp.cond_false; rfl)
        | (intro _; try (exfalso; omega)))
      all_goals try (exfalso; omega)
      refine QLoop.normal ⟨k + 1, ⟨by omega, fun i hi => ?_⟩, by omega, ⟨by omega, ?_, ?_⟩⟩
      · rcases Nat.lt_or_ge i k with h | h
        · exact hok i h
        · obtain rfl : i = k := by omega
          exact of_decide_eq_false hg
      · repeat (first | exact LCov.nil | refine LCov.same trivial rfl ?_ | refine LCov.same (lt_dec rfl) rfl ?_ | refine LCov.same ⟨trivial, lt_dec rfl, trivial⟩ rfl ?_ | refine LCov.same ⟨trivial, lt_dec rfl, lt_dec rfl, trivial⟩ rfl ?_ | refine LCov.same ⟨trivial, lt_dec rfl, lt_dec rfl, lt_dec rfl, trivial⟩ rfl ?_ | refine LCov.same ⟨trivial, trivial⟩ rfl ?_ | refine LCov.cons trivial rfl (.of_eq (lst_len (by simp <;> omega))) ?_)
      · repeat (first | exact HCov.nil | (refine HCov.cons (lt_dec rfl) ?_ rfl ?_ ?_; (first | exact trivial | exact PVs.under_pure _ _ | (simp [HB.under, PVs.under, PV.under])); (first | exact HLe.refl _ | exact HLe.vec (FLes.refl _) (by simp))))
    · rw [ixF_at (k := k) (of_decide_eq_true hg) hok hkl] at hfd ⊢
      repeat' (first
        | apply VWp.rseq
        | apply VWp.skipSeq
        | apply VWp.blockSeq
        | apply QSeq.ret
        | (apply DoneI.ret; rfl)
        | apply QBlk.ret
        | apply QLoop.ret
        | apply VWp.ret
        | apply VOps.nil
        | apply VOps.one
        | (apply inl_ICRank; rfl; rfl; rfl; exact le_dec rfl)
        | (apply VVal.fn; rfl; rfl; exact hfd; intro _; rfl)
        | (apply VVal.eqSd ; rfl ; rfl ; exact hg)
        | (apply VVal.assign; rfl)
        | (apply VVal.move; rfl)
        | (apply VVal.int; rfl; rfl; rfl)
        | (apply VVal.indexN; rfl; rfl; rfl; omega; rfl)
        | (apply VVal.load; rfl; rfl)
        | (apply VVal.fieldB; rfl; rfl; rfl)
        | (apply VVal.box; rfl; trivial)
        | (apply VVal.extract; rfl; rfl)
        | (apply VWp.condSeq_dec; rfl)
        | (apply VWp.cond_true; rfl)
        | (intro _; try (exfalso; omega)))
      all_goals first | (exfalso; omega) | contradiction | (refine Done.ret rfl (.refl _) (by first | exact trivial | exact ⟨trivial, trivial, trivial⟩ | exact ⟨trivial, trivial, trivial, trivial⟩) HCov.nil (Nat.zero_le _) (Nat.le_refl _) ⟨?_, rfl, rfl⟩; try rfl)
  obtain rfl : k = o.ranks.length := by omega
  rw [ixF_none hok] at hfd ⊢
  repeat' (first
    | apply VWp.rseq
    | apply VWp.exitSeq
    | apply QSeq.normal
    | (apply DoneI.ret; rfl)
    | apply QBlk.exit
    | apply QLoop.exit
    | apply VWp.ret
    | apply VOps.nil
    | apply VOps.one
    | (apply VVal.fn; rfl; rfl; exact hfd; intro _; rfl)
    | (apply VVal.assign; rfl)
    | (apply VVal.int; rfl; rfl; rfl)
    | (apply VVal.extract; rfl; rfl)
    | (apply VWp.condSeq_dec; rfl)
    | (intro _; try (exfalso; omega)))
  all_goals first | (exfalso; omega) | contradiction | (refine Done.ret rfl (.refl _) (by first | exact trivial | exact ⟨trivial, trivial, trivial⟩ | exact ⟨trivial, trivial, trivial, trivial⟩) HCov.nil (Nat.zero_le _) (Nat.le_refl _) ⟨?_, rfl, rfl⟩; try rfl)

theorem inl_IXDivision {L : Vm.Frame} {H : Vm.Heap} {nx : Nat} {Q : PV → Vm.Heap → Nat → Prop} {dst : Option Tmp} {ty : TypeId} {pos : String} {af : Array Edge} {gd : Option (Nat × Bool)} {fo : Operand} {args : Array Operand} {aT : Array TypeId} {fs cs xs : List PV} {c : Code}
    (hf : vev env.Γ L fo = some (.clo 49 fs cs)) (ha : evs env.Γ L args.toList = some xs) (hb : Tryz.f49.body = some c) (hn : (fs ++ xs ++ cs).length ≤ Tryz.f49.ntmps)
    (h : VWp env nx c (argFrame 0 (fs ++ xs ++ cs)) H nx (DoneI env.P Tryz.f49.results.toList Q)) : VVal env true ⟨dst, .call { callee := .value fo, args := args, argTypes := aT }, ty, pos, af, gd⟩ L H nx Q := by
  have h0 : (match Tryz.f49.body with | some c => fnOk env.G Tryz.f49 c | none => false) = true := by kernel_rfl
  rw [hb] at h0
  exact VVal.inline rfl hf ha (env_none (by decide)) Tryz.func49 hb h0 hn h

theorem inl_ICDivision {L : Vm.Frame} {H : Vm.Heap} {nx : Nat} {Q : PV → Vm.Heap → Nat → Prop} {dst : Option Tmp} {ty : TypeId} {pos : String} {af : Array Edge} {gd : Option (Nat × Bool)} {fo : Operand} {args : Array Operand} {aT : Array TypeId} {fs cs xs : List PV} {c : Code}
    (hf : vev env.Γ L fo = some (.clo 50 fs cs)) (ha : evs env.Γ L args.toList = some xs) (hb : Tryz.f50.body = some c) (hn : (fs ++ xs ++ cs).length ≤ Tryz.f50.ntmps)
    (h : VWp env nx c (argFrame 0 (fs ++ xs ++ cs)) H nx (DoneI env.P Tryz.f50.results.toList Q)) : VVal env true ⟨dst, .call { callee := .value fo, args := args, argTypes := aT }, ty, pos, af, gd⟩ L H nx Q := by
  have h0 : (match Tryz.f50.body with | some c => fnOk env.G Tryz.f50 c | none => false) = true := by kernel_rfl
  rw [hb] at h0
  exact VVal.inline rfl hf ha (env_none (by decide)) Tryz.func50 hb h0 hn h

set_option maxRecDepth 100000 in
set_option maxHeartbeats 2000000 in
theorem ixDivision_spec (o : Org) (ho : OrgT o) (n : List UInt8) : VFun env 22 [.agg (Enc.enc o), .str (bs n)] (.tup [.p (.int .i64 (max (ixF (fun i => (gi o.divs i).name) n o.divs.length) 0)), .p (.bool (decide (ixF (fun i => (gi o.divs i).name) n o.divs.length ≥ 0))), .p (.int .i64 0)]) := by
  have hc := ocheck_spec o ho.sm
  rw [ho.ok] at hc
  have r1 := ho.ranks
  have r2 := ho.divs
  have r3 := ho.cpls
  skip
  have hfd := found_spec (ixF (fun i => (gi o.divs i).name) n o.divs.length)
  refine VFun.enter (env_none (by decide)) Tryz.func22 rfl (by kernel_rfl) (by simp [Tryz.ntmps22]) ?_
  repeat' (first
    | apply VWp.assoc
    | apply VWp.rseq
    | apply VWp.skipSeq
    | apply VWp.blockSeq
    | apply VOps.nil
    | apply VOps.one
    | (apply VVal.fn; rfl; rfl; exact hc; intro _; rfl)
    | (apply inl_IXDivision; rfl; rfl; rfl; exact le_dec rfl)
    | (apply VVal.makeFunc ; rfl ; rfl)
    | (apply VVal.assign; rfl)
    | (apply VVal.move; rfl)
    | (apply VVal.int; rfl; rfl; rfl)
    | (apply VVal.load; rfl; rfl)
    | (apply VVal.lenF; rfl; rfl)
    | (apply VVal.fieldB; rfl; rfl; rfl)
    | (apply VVal.box; rfl; trivial)
    | (apply VWp.condSeq_false; rfl))
  all_goals try (exfalso; omega)
  all_goals try contradiction
  refine VWp.loopQ (fun k : Nat => [(0, .p (.lst 49 (cells o.divs) o.divs.length)), (1, .clo 50 [] [.ref 1 0]), (7, .p (.int .i64 (o.divs.length : Int))), (8, .p (.int .i64 (k : Int)))]) (fun _ => [(1, .box 9 [.p (.str (bs n))]), (0, .box 33 ((Enc.enc o).map .p))]) 2 (fun k => k ≤ o.divs.length ∧ ∀ i, i < k → (gi o.divs i).name ≠ n) (fun k => o.divs.length - k) 0 (by omega) ⟨by omega, fun i hi => by omega⟩ ⟨by omega, ?_, ?_⟩ ?_
  · repeat (first | exact LCov.nil | refine LCov.same trivial rfl ?_ | refine LCov.same (lt_dec rfl) rfl ?_ | refine LCov.same ⟨trivial, lt_dec rfl, trivial⟩ rfl ?_ | refine LCov.same ⟨trivial, lt_dec rfl, lt_dec rfl, trivial⟩ rfl ?_ | refine LCov.same ⟨trivial, lt_dec rfl, lt_dec rfl, lt_dec rfl, trivial⟩ rfl ?_ | refine LCov.same ⟨trivial, trivial⟩ rfl ?_ | refine LCov.cons trivial rfl (.of_eq (lst_len (by simp <;> omega))) ?_)
  · repeat (first | exact HCov.nil | (refine HCov.cons (lt_dec rfl) ?_ rfl ?_ ?_; (first | exact trivial | exact PVs.under_pure _ _ | (simp [HB.under, PVs.under, PV.under])); (first | exact HLe.refl _ | exact HLe.vec (FLes.refl _) (by simp))))
  rintro k ⟨hk, hok⟩
  by_cases hkl : k < o.divs.length
  · generalize hg : decide ((gi o.divs k).name = n) = g at *
    cases g
    · repeat' (first
        | apply VWp.rseq
        | apply VWp.region
        | apply VWp.skipSeq
        | apply VWp.blockSeq
        | apply QSeq.normal
        | (apply DoneI.ret; rfl)
        | apply QBlk.normal
        | apply VWp.ret
        | apply VWp.skip
        | apply VOps.nil
        | apply VOps.one
        | (apply inl_ICDivision; rfl; rfl; rfl; exact le_dec rfl)
        | (apply VVal.eqSd ; rfl ; rfl ; exact hg)
        | (apply VVal.assign; rfl)
        | (apply VVal.move; rfl)
        | (apply VVal.add64; rfl; rfl; omega)
        | (apply VVal.int; rfl; rfl; rfl)
        | (apply VVal.indexN; rfl; rfl; rfl; omega; rfl)
        | (apply VVal.load; rfl; rfl)
        | (apply VVal.fieldB; rfl; rfl; rfl)
        | (apply VVal.box; rfl; trivial)
        | (apply VWp.condSeq_dec; rfl)
        | (apply VWp.cond_false; rfl)
        | (intro _; try (exfalso; omega)))
      all_goals try (exfalso; omega)
      refine QLoop.normal ⟨k + 1, ⟨by omega, fun i hi => ?_⟩, by omega, ⟨by omega, ?_, ?_⟩⟩
      · rcases Nat.lt_or_ge i k with h | h
        · exact hok i h
        · obtain rfl : i = k := by omega
          exact of_decide_eq_false hg
      · repeat (first | exact LCov.nil | refine LCov.same trivial rfl ?_ | refine LCov.same (lt_dec rfl) rfl ?_ | refine LCov.same ⟨trivial, lt_dec rfl, trivial⟩ rfl ?_ | refine LCov.same ⟨trivial, lt_dec rfl, lt_dec rfl, trivial⟩ rfl ?_ | refine LCov.same ⟨trivial, lt_dec rfl, lt_dec rfl, lt_dec rfl, trivial⟩ rfl ?_ | refine LCov.same ⟨trivial, trivial⟩ rfl ?_ | refine LCov.cons trivial rfl (.of_eq (lst_len (by simp <;> omega))) ?_)
      · repeat (first | exact HCov.nil | (refine HCov.cons (lt_dec rfl) ?_ rfl ?_ ?_; (first | exact trivial | exact PVs.under_pure _ _ | (simp [HB.under, PVs.under, PV.under])); (first | exact HLe.refl _ | exact HLe.vec (FLes.refl _) (by simp))))
    · rw [ixF_at (k := k) (of_decide_eq_true hg) hok hkl] at hfd ⊢
      repeat' (first
        | apply VWp.rseq
        | apply VWp.skipSeq
        | apply VWp.blockSeq
        | apply QSeq.ret
        | (apply DoneI.ret; rfl)
        | apply QBlk.ret
        | apply QLoop.ret
        | apply VWp.ret
        | apply VOps.nil
        | apply VOps.one
        | (apply inl_ICDivision; rfl; rfl; rfl; exact le_dec rfl)
        | (apply VVal.fn; rfl; rfl; exact hfd; intro _; rfl)
        | (apply VVal.eqSd ; rfl ; rfl ; exact hg)
        | (apply VVal.assign; rfl)
        | (apply VVal.move; rfl)
        | (apply VVal.int; rfl; rfl; rfl)
        | (apply VVal.indexN; rfl; rfl; rfl; omega; rfl)
        | (apply VVal.load; rfl; rfl)
        | (apply VVal.fieldB; rfl; rfl; rfl)
        | (apply VVal.box; rfl; trivial)
        | (apply VVal.extract; rfl; rfl)
        | (apply VWp.condSeq_dec; rfl)
        | (apply VWp.cond_true; rfl)
        | (intro _; try (exfalso; omega)))
      all_goals first | (exfalso; omega) | contradiction | (refine Done.ret rfl (.refl _) (by first | exact trivial | exact ⟨trivial, trivial, trivial⟩ | exact ⟨trivial, trivial, trivial, trivial⟩) HCov.nil (Nat.zero_le _) (Nat.le_refl _) ⟨?_, rfl, rfl⟩; try rfl)
  obtain rfl : k = o.divs.length := by omega
  rw [ixF_none hok] at hfd ⊢
  repeat' (first
    | apply VWp.rseq
    | apply VWp.exitSeq
    | apply QSeq.normal
    | (apply DoneI.ret; rfl)
    | apply QBlk.exit
    | apply QLoop.exit
    | apply VWp.ret
    | apply VOps.nil
    | apply VOps.one
    | (apply VVal.fn; rfl; rfl; exact hfd; intro _; rfl)
    | (apply VVal.assign; rfl)
    | (apply VVal.int; rfl; rfl; rfl)
    | (apply VVal.extract; rfl; rfl)
    | (apply VWp.condSeq_dec; rfl)
    | (intro _; try (exfalso; omega)))
  all_goals first | (exfalso; omega) | contradiction | (refine Done.ret rfl (.refl _) (by first | exact trivial | exact ⟨trivial, trivial, trivial⟩ | exact ⟨trivial, trivial, trivial, trivial⟩) HCov.nil (Nat.zero_le _) (Nat.le_refl _) ⟨?_, rfl, rfl⟩; try rfl)

theorem inl_IXCoupler {L : Vm.Frame} {H : Vm.Heap} {nx : Nat} {Q : PV → Vm.Heap → Nat → Prop} {dst : Option Tmp} {ty : TypeId} {pos : String} {af : Array Edge} {gd : Option (Nat × Bool)} {fo : Operand} {args : Array Operand} {aT : Array TypeId} {fs cs xs : List PV} {c : Code}
    (hf : vev env.Γ L fo = some (.clo 51 fs cs)) (ha : evs env.Γ L args.toList = some xs) (hb : Tryz.f51.body = some c) (hn : (fs ++ xs ++ cs).length ≤ Tryz.f51.ntmps)
    (h : VWp env nx c (argFrame 0 (fs ++ xs ++ cs)) H nx (DoneI env.P Tryz.f51.results.toList Q)) : VVal env true ⟨dst, .call { callee := .value fo, args := args, argTypes := aT }, ty, pos, af, gd⟩ L H nx Q := by
  have h0 : (match Tryz.f51.body with | some c => fnOk env.G Tryz.f51 c | none => false) = true := by kernel_rfl
  rw [hb] at h0
  exact VVal.inline rfl hf ha (env_none (by decide)) Tryz.func51 hb h0 hn h

theorem inl_ICCoupler {L : Vm.Frame} {H : Vm.Heap} {nx : Nat} {Q : PV → Vm.Heap → Nat → Prop} {dst : Option Tmp} {ty : TypeId} {pos : String} {af : Array Edge} {gd : Option (Nat × Bool)} {fo : Operand} {args : Array Operand} {aT : Array TypeId} {fs cs xs : List PV} {c : Code}
    (hf : vev env.Γ L fo = some (.clo 52 fs cs)) (ha : evs env.Γ L args.toList = some xs) (hb : Tryz.f52.body = some c) (hn : (fs ++ xs ++ cs).length ≤ Tryz.f52.ntmps)
    (h : VWp env nx c (argFrame 0 (fs ++ xs ++ cs)) H nx (DoneI env.P Tryz.f52.results.toList Q)) : VVal env true ⟨dst, .call { callee := .value fo, args := args, argTypes := aT }, ty, pos, af, gd⟩ L H nx Q := by
  have h0 : (match Tryz.f52.body with | some c => fnOk env.G Tryz.f52 c | none => false) = true := by kernel_rfl
  rw [hb] at h0
  exact VVal.inline rfl hf ha (env_none (by decide)) Tryz.func52 hb h0 hn h

set_option maxRecDepth 100000 in
set_option maxHeartbeats 2000000 in
theorem ixCoupler_spec (o : Org) (ho : OrgT o) (n : List UInt8) : VFun env 23 [.agg (Enc.enc o), .str (bs n)] (.tup [.p (.int .i64 (max (ixF (fun i => (gi o.cpls i).name) n o.cpls.length) 0)), .p (.bool (decide (ixF (fun i => (gi o.cpls i).name) n o.cpls.length ≥ 0))), .p (.int .i64 0)]) := by
  have hc := ocheck_spec o ho.sm
  rw [ho.ok] at hc
  have r1 := ho.ranks
  have r2 := ho.divs
  have r3 := ho.cpls
  skip
  have hfd := found_spec (ixF (fun i => (gi o.cpls i).name) n o.cpls.length)
  refine VFun.enter (env_none (by decide)) Tryz.func23 rfl (by kernel_rfl) (by simp [Tryz.ntmps23]) ?_
  repeat' (first
    | apply VWp.assoc
    | apply VWp.rseq
    | apply VWp.skipSeq
    | apply VWp.blockSeq
    | apply VOps.nil
    | apply VOps.one
    | (apply VVal.fn; rfl; rfl; exact hc; intro _; rfl)
    | (apply inl_IXCoupler; rfl; rfl; rfl; exact le_dec rfl)
    | (apply VVal.makeFunc ; rfl ; rfl)
    | (apply VVal.assign; rfl)
    | (apply VVal.move; rfl)
    | (apply VVal.int; rfl; rfl; rfl)
    | (apply VVal.load; rfl; rfl)
    | (apply VVal.lenF; rfl; rfl)
    | (apply VVal.fieldB; rfl; rfl; rfl)
    | (apply VVal.box; rfl; trivial)
    | (apply VWp.condSeq_false; rfl))
  all_goals try (exfalso; omega)
  all_goals try contradiction
  refine VWp.loopQ (fun k : Nat => [(0, .p (.lst 72 (cells o.cpls) o.cpls.length)), (1, .clo 52 [] [.ref 1 0]), (7, .p (.int .i64 (o.cpls.length : Int))), (8, .p (.int .i64 (k : Int)))]) (fun _ => [(1, .box 9 [.p (.str (bs n))]), (0, .box 33 ((Enc.enc o).map .p))]) 2 (fun k => k ≤ o.cpls.length ∧ ∀ i, i < k → (gi o.cpls i).name ≠ n) (fun k => o.cpls.length - k) 0 (by omega) ⟨by omega, fun i hi => by omega⟩ ⟨by omega, ?_, ?_⟩ ?_
  · repeat (first | exact LCov.nil | refine LCov.same trivial rfl ?_ | refine LCov.same (lt_dec rfl) rfl ?_ | refine LCov.same ⟨trivial, lt_dec rfl, trivial⟩ rfl ?_ | refine LCov.same ⟨trivial, lt_dec rfl, lt_dec rfl, trivial⟩ rfl ?_ | refine LCov.same ⟨trivial, lt_dec rfl, lt_dec rfl, lt_dec rfl, trivial⟩ rfl ?_ | refine LCov.same ⟨trivial, trivial⟩ rfl ?_ | refine LCov.cons trivial rfl (.of_eq (lst_len (by simp <;> omega))) ?_)
  · repeat (first | exact HCov.nil | (refine HCov.cons (lt_dec rfl) ?_ rfl ?_ ?_; (first | exact trivial | exact PVs.under_pure _ _ | (simp [HB.under, PVs.under, PV.under])); (first | exact HLe.refl _ | exact HLe.vec (FLes.refl _) (by simp))))
  rintro k ⟨hk, hok⟩
  by_cases hkl : k < o.cpls.length
  · generalize hg : decide ((gi o.cpls k).name = n) = g at *
    cases g
    · repeat' (first
        | apply VWp.rseq
        | apply VWp.region
        | apply VWp.skipSeq
        | apply VWp.blockSeq
        | apply QSeq.normal
        | (apply DoneI.ret; rfl)
        | apply QBlk.normal
        | apply VWp.ret
        | apply VWp.skip
        | apply VOps.nil
        | apply VOps.one
        | (apply inl_ICCoupler; rfl; rfl; rfl; exact le_dec rfl)
        | (apply VVal.eqSd ; rfl ; rfl ; exact hg)
        | (apply VVal.assign; rfl)
        | (apply VVal.move; rfl)
        | (apply VVal.add64; rfl; rfl; omega)
        | (apply VVal.int; rfl; rfl; rfl)
        | (apply VVal.indexN; rfl; rfl; rfl; omega; rfl)
        | (apply VVal.load; rfl; rfl)
        | (apply VVal.fieldB; rfl; rfl; rfl)
        | (apply VVal.box; rfl; trivial)
        | (apply VWp.condSeq_dec; rfl)
        | (apply VWp.cond_false; rfl)
        | (intro _; try (exfalso; omega)))
      all_goals try (exfalso; omega)
      refine QLoop.normal ⟨k + 1, ⟨by omega, fun i hi => ?_⟩, by omega, ⟨by omega, ?_, ?_⟩⟩
      · rcases Nat.lt_or_ge i k with h | h
        · exact hok i h
        · obtain rfl : i = k := by omega
          exact of_decide_eq_false hg
      · repeat (first | exact LCov.nil | refine LCov.same trivial rfl ?_ | refine LCov.same (lt_dec rfl) rfl ?_ | refine LCov.same ⟨trivial, lt_dec rfl, trivial⟩ rfl ?_ | refine LCov.same ⟨trivial, lt_dec rfl, lt_dec rfl, trivial⟩ rfl ?_ | refine LCov.same ⟨trivial, lt_dec rfl, lt_dec rfl, lt_dec rfl, trivial⟩ rfl ?_ | refine LCov.same ⟨trivial, trivial⟩ rfl ?_ | refine LCov.cons trivial rfl (.of_eq (lst_len (by simp <;> omega))) ?_)
      · repeat (first | exact HCov.nil | (refine HCov.cons (lt_dec rfl) ?_ rfl ?_ ?_; (first | exact trivial | exact PVs.under_pure _ _ | (simp [HB.under, PVs.under, PV.under])); (first | exact HLe.refl _ | exact HLe.vec (FLes.refl _) (by simp))))
    · rw [ixF_at (k := k) (of_decide_eq_true hg) hok hkl] at hfd ⊢
      repeat' (first
        | apply VWp.rseq
        | apply VWp.skipSeq
        | apply VWp.blockSeq
        | apply QSeq.ret
        | (apply DoneI.ret; rfl)
        | apply QBlk.ret
        | apply QLoop.ret
        | apply VWp.ret
        | apply VOps.nil
        | apply VOps.one
        | (apply inl_ICCoupler; rfl; rfl; rfl; exact le_dec rfl)
        | (apply VVal.fn; rfl; rfl; exact hfd; intro _; rfl)
        | (apply VVal.eqSd ; rfl ; rfl ; exact hg)
        | (apply VVal.assign; rfl)
        | (apply VVal.move; rfl)
        | (apply VVal.int; rfl; rfl; rfl)
        | (apply VVal.indexN; rfl; rfl; rfl; omega; rfl)
        | (apply VVal.load; rfl; rfl)
        | (apply VVal.fieldB; rfl; rfl; rfl)
        | (apply VVal.box; rfl; trivial)
        | (apply VVal.extract; rfl; rfl)
        | (apply VWp.condSeq_dec; rfl)
        | (apply VWp.cond_true; rfl)
        | (intro _; try (exfalso; omega)))
      all_goals first | (exfalso; omega) | contradiction | (refine Done.ret rfl (.refl _) (by first | exact trivial | exact ⟨trivial, trivial, trivial⟩ | exact ⟨trivial, trivial, trivial, trivial⟩) HCov.nil (Nat.zero_le _) (Nat.le_refl _) ⟨?_, rfl, rfl⟩; try rfl)
  obtain rfl : k = o.cpls.length := by omega
  rw [ixF_none hok] at hfd ⊢
  repeat' (first
    | apply VWp.rseq
    | apply VWp.exitSeq
    | apply QSeq.normal
    | (apply DoneI.ret; rfl)
    | apply QBlk.exit
    | apply QLoop.exit
    | apply VWp.ret
    | apply VOps.nil
    | apply VOps.one
    | (apply VVal.fn; rfl; rfl; exact hfd; intro _; rfl)
    | (apply VVal.assign; rfl)
    | (apply VVal.int; rfl; rfl; rfl)
    | (apply VVal.extract; rfl; rfl)
    | (apply VWp.condSeq_dec; rfl)
    | (intro _; try (exfalso; omega)))
  all_goals first | (exfalso; omega) | contradiction | (refine Done.ret rfl (.refl _) (by first | exact trivial | exact ⟨trivial, trivial, trivial⟩ | exact ⟨trivial, trivial, trivial, trivial⟩) HCov.nil (Nat.zero_le _) (Nat.le_refl _) ⟨?_, rfl, rfl⟩; try rfl)

theorem inl_IXStop {L : Vm.Frame} {H : Vm.Heap} {nx : Nat} {Q : PV → Vm.Heap → Nat → Prop} {dst : Option Tmp} {ty : TypeId} {pos : String} {af : Array Edge} {gd : Option (Nat × Bool)} {fo : Operand} {args : Array Operand} {aT : Array TypeId} {fs cs xs : List PV} {c : Code}
    (hf : vev env.Γ L fo = some (.clo 53 fs cs)) (ha : evs env.Γ L args.toList = some xs) (hb : Tryz.f53.body = some c) (hn : (fs ++ xs ++ cs).length ≤ Tryz.f53.ntmps)
    (h : VWp env nx c (argFrame 0 (fs ++ xs ++ cs)) H nx (DoneI env.P Tryz.f53.results.toList Q)) : VVal env true ⟨dst, .call { callee := .value fo, args := args, argTypes := aT }, ty, pos, af, gd⟩ L H nx Q := by
  have h0 : (match Tryz.f53.body with | some c => fnOk env.G Tryz.f53 c | none => false) = true := by kernel_rfl
  rw [hb] at h0
  exact VVal.inline rfl hf ha (env_none (by decide)) Tryz.func53 hb h0 hn h

theorem inl_ICStop {L : Vm.Frame} {H : Vm.Heap} {nx : Nat} {Q : PV → Vm.Heap → Nat → Prop} {dst : Option Tmp} {ty : TypeId} {pos : String} {af : Array Edge} {gd : Option (Nat × Bool)} {fo : Operand} {args : Array Operand} {aT : Array TypeId} {fs cs xs : List PV} {c : Code}
    (hf : vev env.Γ L fo = some (.clo 54 fs cs)) (ha : evs env.Γ L args.toList = some xs) (hb : Tryz.f54.body = some c) (hn : (fs ++ xs ++ cs).length ≤ Tryz.f54.ntmps)
    (h : VWp env nx c (argFrame 0 (fs ++ xs ++ cs)) H nx (DoneI env.P Tryz.f54.results.toList Q)) : VVal env true ⟨dst, .call { callee := .value fo, args := args, argTypes := aT }, ty, pos, af, gd⟩ L H nx Q := by
  have h0 : (match Tryz.f54.body with | some c => fnOk env.G Tryz.f54 c | none => false) = true := by kernel_rfl
  rw [hb] at h0
  exact VVal.inline rfl hf ha (env_none (by decide)) Tryz.func54 hb h0 hn h

set_option maxRecDepth 100000 in
set_option maxHeartbeats 2000000 in
theorem ixStop_spec (o : Org) (ho : OrgT o) (d : Nat) (hd : d < o.divs.length) (n : List UInt8) : VFun env 24 [.agg (Enc.enc o), .int .i64 (d : Int), .str (bs n)] (.tup [.p (.int .i64 (max (ixF (fun i => (gi (gi o.divs d).stops i).name) n (gi o.divs d).stops.length) 0)), .p (.bool (decide (ixF (fun i => (gi (gi o.divs d).stops i).name) n (gi o.divs d).stops.length ≥ 0))), .p (.int .i64 0)]) := by
  have hc := ocheck_spec o ho.sm
  rw [ho.ok] at hc
  have r1 := ho.ranks
  have r2 := ho.divs
  have r3 := ho.cpls
  have r4 := ho.stops d hd
  have hfd := found_spec (ixF (fun i => (gi (gi o.divs d).stops i).name) n (gi o.divs d).stops.length)
  refine VFun.enter (env_none (by decide)) Tryz.func24 rfl (by kernel_rfl) (by simp [Tryz.ntmps24]) ?_
  repeat' (first
    | apply VWp.assoc
    | apply VWp.rseq
    | apply VWp.skipSeq
    | apply VWp.blockSeq
    | apply VOps.nil
    | apply VOps.one
    | (apply VOps.take; rfl; rfl)
    | (apply VVal.fn; rfl; rfl; exact hc; intro _; rfl)
    | (apply inl_IXStop; rfl; rfl; rfl; exact le_dec rfl)
    | (apply VVal.makeFunc ; rfl ; rfl)
    | (apply VVal.indexN (l := o.divs) (i := d) ; rfl ; rfl ; rfl ; exact hd ; rfl)
    | (apply VVal.assign; rfl)
    | (apply VVal.move; rfl)
    | (apply VVal.int; rfl; rfl; rfl)
    | (apply VVal.load; rfl; rfl)
    | (apply VVal.pick_false; rfl; rfl)
    | (apply VVal.lenF; rfl; rfl)
    | (apply VVal.fieldB; rfl; rfl; rfl)
    | (apply VVal.fieldF; rfl; rfl)
    | (apply VVal.box; rfl; trivial)
    | (apply VWp.condSeq_false; rfl)
    | (apply VWp.condSeq_dec; rfl)
    | (intro _; try (exfalso; omega)))
  all_goals try (exfalso; omega)
  all_goals try contradiction
  refine VWp.loopQ (fun k : Nat => [(0, .p (.lst 52 (cells (gi o.divs d).stops) (gi o.divs d).stops.length)), (1, .clo 54 [] [.ref 1 0]), (7, .p (.int .i64 ((gi o.divs d).stops.length : Int))), (8, .p (.int .i64 (k : Int)))]) (fun _ => [(1, .box 9 [.p (.str (bs n))]), (0, .box 33 ((Enc.enc o).map .p))]) 2 (fun k => k ≤ (gi o.divs d).stops.length ∧ ∀ i, i < k → (gi (gi o.divs d).stops i).name ≠ n) (fun k => (gi o.divs d).stops.length - k) 0 (by omega) ⟨by omega, fun i hi => by omega⟩ ⟨by omega, ?_, ?_⟩ ?_
  · repeat (first | exact LCov.nil | refine LCov.same trivial rfl ?_ | refine LCov.same (lt_dec rfl) rfl ?_ | refine LCov.same ⟨trivial, lt_dec rfl, trivial⟩ rfl ?_ | refine LCov.same ⟨trivial, lt_dec rfl, lt_dec rfl, trivial⟩ rfl ?_ | refine LCov.same ⟨trivial, lt_dec rfl, lt_dec rfl, lt_dec rfl, trivial⟩ rfl ?_ | refine LCov.same ⟨trivial, trivial⟩ rfl ?_ | refine LCov.cons trivial rfl (.of_eq (lst_len (by simp <;> omega))) ?_)
  · repeat (first | exact HCov.nil | (refine HCov.cons (lt_dec rfl) ?_ rfl ?_ ?_; (first | exact trivial | exact PVs.under_pure _ _ | (simp [HB.under, PVs.under, PV.under])); (first | exact HLe.refl _ | exact HLe.vec (FLes.refl _) (by simp))))
  rintro k ⟨hk, hok⟩
  by_cases hkl : k < (gi o.divs d).stops.length
  · generalize hg : decide ((gi (gi o.divs d).stops k).name = n) = g at *
    cases g
    · repeat' (first
        | apply VWp.rseq
        | apply VWp.region
        | apply VWp.skipSeq
        | apply VWp.blockSeq
        | apply QSeq.normal
        | (apply DoneI.ret; rfl)
        | apply QBlk.normal
        | apply VWp.ret
        | apply VWp.skip
        | apply VOps.nil
        | apply VOps.one
        | (apply inl_ICStop; rfl; rfl; rfl; exact le_dec rfl)
        | (apply VVal.eqSd ; rfl ; rfl ; exact hg)
        | (apply VVal.assign; rfl)
        | (apply VVal.move; rfl)
        | (apply VVal.add64; rfl; rfl; omega)
        | (apply VVal.int; rfl; rfl; rfl)
        | (apply VVal.indexN; rfl; rfl; rfl; omega; rfl)
        | (apply VVal.load; rfl; rfl)
        | (apply VVal.fieldB; rfl; rfl; rfl)
        | (apply VVal.box; rfl; trivial)
        | (apply VWp.condSeq_dec; rfl)
        | (apply VWp.cond_false; rfl)
        | (intro _; try (exfalso; omega)))
      all_goals try (exfalso; omega)
      refine QLoop.normal ⟨k + 1, ⟨by omega, fun i hi => ?_⟩, by omega, ⟨by omega, ?_, ?_⟩⟩
      · rcases Nat.lt_or_ge i k with h | h
        · exact hok i h
        · obtain rfl : i = k := by omega
          exact of_decide_eq_false hg
      · repeat (first | exact LCov.nil | refine LCov.same trivial rfl ?_ | refine LCov.same (lt_dec rfl) rfl ?_ | refine LCov.same ⟨trivial, lt_dec rfl, trivial⟩ rfl ?_ | refine LCov.same ⟨trivial, lt_dec rfl, lt_dec rfl, trivial⟩ rfl ?_ | refine LCov.same ⟨trivial, lt_dec rfl, lt_dec rfl, lt_dec rfl, trivial⟩ rfl ?_ | refine LCov.same ⟨trivial, trivial⟩ rfl ?_ | refine LCov.cons trivial rfl (.of_eq (lst_len (by simp <;> omega))) ?_)
      · repeat (first | exact HCov.nil | (refine HCov.cons (lt_dec rfl) ?_ rfl ?_ ?_; (first | exact trivial | exact PVs.under_pure _ _ | (simp [HB.under, PVs.under, PV.under])); (first | exact HLe.refl _ | exact HLe.vec (FLes.refl _) (by simp))))
    · rw [ixF_at (k := k) (of_decide_eq_true hg) hok hkl] at hfd ⊢
      repeat' (first
        | apply VWp.rseq
        | apply VWp.skipSeq
        | apply VWp.blockSeq
        | apply QSeq.ret
        | (apply DoneI.ret; rfl)
        | apply QBlk.ret
        | apply QLoop.ret
        | apply VWp.ret
        | apply VOps.nil
        | apply VOps.one
        | (apply inl_ICStop; rfl; rfl; rfl; exact le_dec rfl)
        | (apply VVal.fn; rfl; rfl; exact hfd; intro _; rfl)
        | (apply VVal.eqSd ; rfl ; rfl ; exact hg)
        | (apply VVal.assign; rfl)
        | (apply VVal.move; rfl)
        | (apply VVal.int; rfl; rfl; rfl)
        | (apply VVal.indexN; rfl; rfl; rfl; omega; rfl)
        | (apply VVal.load; rfl; rfl)
        | (apply VVal.fieldB; rfl; rfl; rfl)
        | (apply VVal.box; rfl; trivial)
        | (apply VVal.extract; rfl; rfl)
        | (apply VWp.condSeq_dec; rfl)
        | (apply VWp.cond_true; rfl)
        | (intro _; try (exfalso; omega)))
      all_goals first | (exfalso; omega) | contradiction | (refine Done.ret rfl (.refl _) (by first | exact trivial | exact ⟨trivial, trivial, trivial⟩ | exact ⟨trivial, trivial, trivial, trivial⟩) HCov.nil (Nat.zero_le _) (Nat.le_refl _) ⟨?_, rfl, rfl⟩; try rfl)
  obtain rfl : k = (gi o.divs d).stops.length := by omega
  rw [ixF_none hok] at hfd ⊢
  repeat' (first
    | apply VWp.rseq
    | apply VWp.exitSeq
    | apply QSeq.normal
    | (apply DoneI.ret; rfl)
    | apply QBlk.exit
    | apply QLoop.exit
    | apply VWp.ret
    | apply VOps.nil
    | apply VOps.one
    | (apply VVal.fn; rfl; rfl; exact hfd; intro _; rfl)
    | (apply VVal.assign; rfl)
    | (apply VVal.int; rfl; rfl; rfl)
    | (apply VVal.extract; rfl; rfl)
    | (apply VWp.condSeq_dec; rfl)
    | (intro _; try (exfalso; omega)))
  all_goals first | (exfalso; omega) | contradiction | (refine Done.ret rfl (.refl _) (by first | exact trivial | exact ⟨trivial, trivial, trivial⟩ | exact ⟨trivial, trivial, trivial, trivial⟩) HCov.nil (Nat.zero_le _) (Nat.le_refl _) ⟨?_, rfl, rfl⟩; try rfl)

set_option maxRecDepth 100000 in
theorem fits18_spec (w : Int) (h : -1 ≤ w) : VFun env 25 [.int .i64 (max w 0), .bool (decide (w ≥ 0)), .int .i64 w] (.p (.bool true)) := by
  by_cases h0 : w ≥ 0
  · rw [decide_eq_true h0, show max w 0 = w by omega]
    refine VFun.enter (env_none (by decide)) Tryz.func25 rfl (by kernel_rfl) (by simp [Tryz.ntmps25]) ?_
    repeat' (first
      | apply VWp.rseq
      | apply VWp.ret
      | apply VOps.nil
      | apply VOps.one
      | (apply VOps.take; rfl; rfl)
      | (apply VOps.drop; rfl; rfl; rfl)
      | (apply VOps.guard; rfl; rfl)
      | (apply VOps.dropU; rfl; rfl)
      | (apply VVal.assign; rfl)
      | (apply VVal.move; rfl)
      | (apply VVal.int; rfl; rfl; rfl)
      | (apply VVal.pick_true; rfl; rfl)
      | (intro _; try (exfalso; omega)))
    all_goals first | (exfalso; omega) | contradiction | (refine Done.ret rfl (.refl _) (by first | exact trivial | exact ⟨trivial, trivial, trivial⟩ | exact ⟨trivial, trivial, trivial, trivial⟩) HCov.nil (Nat.zero_le _) (Nat.le_refl _) ⟨?_, rfl, rfl⟩; try rfl)
  · obtain rfl : w = -1 := by omega
    rw [decide_eq_false h0, show max (-1 : Int) 0 = 0 by omega]
    refine VFun.enter (env_none (by decide)) Tryz.func25 rfl (by kernel_rfl) (by simp [Tryz.ntmps25]) ?_
    repeat' (first
      | apply VWp.rseq
      | apply VWp.ret
      | apply VOps.nil
      | apply VOps.one
      | (apply VOps.take; rfl; rfl)
      | (apply VOps.drop; rfl; rfl; rfl)
      | (apply VVal.assign; rfl)
      | (apply VVal.move; rfl)
      | (apply VVal.int; rfl; rfl; rfl)
      | (apply VVal.pick_true; rfl; rfl)
      | (apply VVal.pick_false; rfl; rfl)
      | (apply VVal.not; rfl))
    all_goals first | (exfalso; omega) | contradiction | (refine Done.ret rfl (.refl _) (by first | exact trivial | exact ⟨trivial, trivial, trivial⟩ | exact ⟨trivial, trivial, trivial, trivial⟩) HCov.nil (Nat.zero_le _) (Nat.le_refl _) ⟨?_, rfl, rfl⟩; try rfl)
end Go.Proofs.YtcnlhgmkelkikaaGreatDoor
