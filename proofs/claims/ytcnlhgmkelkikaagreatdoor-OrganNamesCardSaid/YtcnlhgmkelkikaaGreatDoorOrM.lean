/-
  The law of organs: OrganNames. Conditions: in each statement. (Written by mknm.py.)
-/
import Derived.Test.YtcnlhgmkelkikaaGreatDoorOrL
import Derived.Test.YtcnlhgmkelkikaaGreatDoorVmG
set_option linter.unusedSimpArgs false
set_option linter.unusedVariables false
namespace Go.Proofs.YtcnlhgmkelkikaaGreatDoor
open Go Go.Am Go.Vm
attribute [local irreducible] VVal VOps VOpsD VWp VCalls VFun VFunV QSeq QBlk QLoop Vm.Done DoneV DoneI

set_option maxRecDepth 100000 in
set_option maxHeartbeats 1000000 in
theorem index_spec (l : List (List UInt8)) (n : List UInt8) (hl : l.length < 9223372036854775808) : VRead env 20 [.p (.lst 9 (cells l) l.length), .ref 0 0] [(0, .box 9 [.p (.str (bs n))])] 1 (.int .i64 (ixF (fun i => gi l i) n l.length)) := by
  refine VRead.enter (env_none (by decide)) Tryz.func20 rfl (by kernel_rfl) (by simp [Tryz.ntmps20]) ?_
  repeat' (first
    | apply VWp.assoc
    | apply VWp.rseq
    | apply VWp.blockSeq
    | apply VOps.nil
    | apply VOps.one
    | (apply VVal.assign; rfl))
  apply VWp.loopRI (l.length) (fun k => ∀ i, i < k → gi l i ≠ n) [(0, _), (1, _)] [(0, _)] (fun k r => (4, .p (.int .i64 (k : Int))) :: r) (fun k r => r) 1
  · omega
  · omega
  · repeat (first | exact LCov.nil | (refine LCov.eq rfl ?_ ?_; (first | exact PV.under_of rfl | (simp [PV.under, PVs.under]; done))) | refine LCov.cons trivial rfl (.of_eq (lst_len (by simp <;> omega))) ?_)
  · repeat (first | exact HCov.nil | (refine HCov.eq rfl (lt_dec rfl) ?_ ?_; (first | exact HB.under_of rfl | exact PVs.under_pure _ _ | (simp [HB.under, PVs.under, PV.under]; done))) | (refine HCov.cons (lt_dec rfl) ?_ rfl ?_ ?_; (first | exact trivial | exact PVs.under_pure _ _ | (simp [HB.under, PVs.under, PV.under])); (first | exact HLe.refl _ | exact HLe.vec (FLes.refl _) (by simp))))
  · first | (intro _ _; omega) | omega | trivial
  · intro k hk hok
    generalize hg : decide (gi l k = n) = g at *
    cases g
    · repeat' (first
        | apply VWp.assoc
        | apply VWp.rseq
        | apply VWp.rseqD
        | apply VWp.region
        | apply VWp.skipSeq
        | apply VWp.blockSeq
        | apply QSeq.normal
        | apply QBlk.normal
        | apply VWp.skip
        | apply VOps.nil
        | apply VOpsD.nil
        | apply VOps.one
        | (apply VOpsD.bar; decide +kernel)
        | apply VOpsD.quiet
        | (apply VVal.eqSd ; rfl ; rfl ; exact hg)
        | (apply VVal.assign; rfl)
        | (apply VVal.move; rfl)
        | (apply VVal.add64; rfl; rfl; omega)
        | (apply VVal.int; rfl; rfl; rfl)
        | (apply VVal.indexN; rfl; rfl; rfl; omega; rfl)
        | (apply VVal.load; rfl; rfl)
        | (apply VVal.lenF; rfl; rfl)
        | (apply VWp.condSeq_dec; rfl)
        | (apply VWp.cond_false; rfl)
        | (intro _; try (exfalso; omega)))
      all_goals try (exfalso; omega)
      refine QLoop.normal ⟨(all_succ hok (of_decide_eq_false hg)), by omega, ?_, ?_⟩
      · repeat (first | exact LCov.nil | refine LCov.same trivial rfl ?_ | refine LCov.same (lt_dec rfl) rfl ?_ | refine LCov.same ⟨trivial, lt_dec rfl, trivial⟩ rfl ?_ | refine LCov.same ⟨trivial, lt_dec rfl, lt_dec rfl, trivial⟩ rfl ?_ | refine LCov.same ⟨trivial, lt_dec rfl, lt_dec rfl, lt_dec rfl, trivial⟩ rfl ?_ | refine LCov.same ⟨trivial, trivial⟩ rfl ?_ | refine LCov.cons trivial rfl (.of_eq (lst_len (by simp <;> omega))) ?_)
      · repeat (first | exact HCov.nil | (refine HCov.cons (lt_dec rfl) ?_ rfl ?_ ?_; (first | exact HB.under_of rfl | exact PVs.under_pure _ _ | (simp [HB.under, PVs.under, PV.under])); (first | exact HLe.refl _ | exact HLe.vec (FLes.refl _) (by simp))))
    · rw [ixF_at (f := fun i => gi l i) (k := k) (of_decide_eq_true hg) hok hk]
      repeat' (first
        | apply VWp.assoc
        | apply VWp.rseq
        | apply VWp.rseqD
        | apply VWp.skipSeq
        | apply VWp.blockSeq
        | apply QSeq.ret
        | apply QBlk.ret
        | apply QLoop.ret
        | apply VWp.ret
        | apply VOps.nil
        | apply VOpsD.nil
        | apply VOps.one
        | (apply VOpsD.bar; decide +kernel)
        | apply VOpsD.quiet
        | (apply VVal.eqSd ; rfl ; rfl ; exact hg)
        | (apply VVal.assign; rfl)
        | (apply VVal.move; rfl)
        | (apply VVal.int; rfl; rfl; rfl)
        | (apply VVal.indexN; rfl; rfl; rfl; omega; rfl)
        | (apply VVal.load; rfl; rfl)
        | (apply VVal.lenF; rfl; rfl)
        | (apply VWp.condSeq_dec; rfl)
        | (apply VWp.cond_true; rfl)
        | (intro _; try (exfalso; omega)))
      all_goals first | (exfalso; omega) | contradiction | (refine Done.ret rfl (.refl _) trivial ?_ (by omega) (Nat.le_refl _) ⟨?_, rfl, rfl⟩; repeat (first | exact HCov.nil | (refine HCov.cons (lt_dec rfl) ?_ rfl ?_ ?_; (first | exact HB.under_of rfl | exact PVs.under_pure _ _ | (simp [HB.under, PVs.under, PV.under])); (first | exact HLe.refl _ | exact HLe.vec (FLes.refl _) (by simp)))); try rfl)
  · intro hok
    rw [ixF_none (f := fun i => gi l i) hok]
    repeat' (first
      | apply VWp.assoc
      | apply VWp.rseq
      | apply VWp.exitSeq
      | apply QSeq.normal
      | apply QBlk.exit
      | apply QLoop.exit
      | apply VWp.ret
      | apply VOps.nil
      | apply VOps.one
      | (apply VVal.assign; rfl)
      | (apply VVal.move; rfl)
      | (apply VVal.int; rfl; rfl; rfl)
      | (apply VVal.lenF; rfl; rfl)
      | (apply VWp.condSeq_dec; rfl)
      | (intro _; try (exfalso; omega)))
    all_goals first | (exfalso; omega) | contradiction | (refine Done.ret rfl (.refl _) trivial ?_ (by omega) (Nat.le_refl _) ⟨?_, rfl, rfl⟩; repeat (first | exact HCov.nil | (refine HCov.cons (lt_dec rfl) ?_ rfl ?_ ?_; (first | exact HB.under_of rfl | exact PVs.under_pure _ _ | (simp [HB.under, PVs.under, PV.under])); (first | exact HLe.refl _ | exact HLe.vec (FLes.refl _) (by simp)))); try rfl)
theorem ixF_congr {f g : Nat → List UInt8} {n : List UInt8} : ∀ {m : Nat}, (∀ i, i < m → f i = g i) → ixF f n m = ixF g n m
  | 0, _ => rfl
  | m + 1, h => by rw [ixF, ixF, ixF_congr (fun i hi => h i (by omega)), h m (by omega)]
theorem gi_map {α β : Type} [Inhabited α] [Inhabited β] (f : α → β) {l : List α} {i : Nat} (h : i < l.length) : gi (l.map f) i = f (gi l i) := by
  unfold gi; rw [List.getElem?_map, List.getElem?_eq_getElem h]; rfl
theorem ixF_map {α : Type} [Inhabited α] (f : α → List UInt8) (l : List α) (n : List UInt8) : ixF (fun i => gi (l.map f) i) n (l.map f).length = ixF (fun i => f (gi l i)) n l.length := by
  rw [List.length_map]; exact ixF_congr fun i hi => gi_map f hi
set_option maxRecDepth 100000 in
set_option maxHeartbeats 1000000 in
theorem ixStopOut_spec (o : Org) (ho : OrgT o) (d : Int) (hd : d < 0 ∨ d ≥ o.divs.length) (n : List UInt8) : VFun env 24 [.agg (Enc.enc o), .int .i64 d, .str (bs n)] (.tup [.p (.int .i64 0), .p (.bool false), .p (.int .i64 10)]) := by
  have hc := ocheck_spec o ho.sm
  rw [ho.ok] at hc
  have r2 := ho.divs
  refine VFun.enter (env_none (by decide)) Tryz.func24 rfl (by kernel_rfl) (by simp [Tryz.ntmps24]) ?_
  repeat' (first
    | apply VWp.assoc
    | apply VWp.rseq
    | apply VWp.skipSeq
    | apply VWp.retSeq
    | apply VOps.nil
    | apply VOps.one
    | (apply VOps.take; rfl; rfl)
    | (apply VOps.drop; rfl; rfl; rfl)
    | (apply VOps.guard; rfl; rfl)
    | (apply VVal.fn; rfl; rfl; exact hc; intro _; rfl)
    | (apply VVal.assign; rfl)
    | (apply VVal.move; rfl)
    | (apply VVal.int; rfl; rfl; rfl)
    | (apply VVal.load; rfl; rfl)
    | (apply VVal.pick_true; rfl; rfl)
    | (apply VVal.pick_false; rfl; rfl)
    | (apply VVal.lenF; rfl; rfl)
    | (apply VVal.fieldB; rfl; rfl; rfl)
    | (apply VVal.box; rfl; trivial)
    | (apply VWp.condSeq_true; rfl)
    | (apply VWp.condSeq_false; rfl)
    | (apply VWp.condSeq_dec; rfl)
    | (intro _; try (exfalso; omega)))
  all_goals first | (exfalso; omega) | contradiction | (refine Done.ret rfl (.refl _) (by first | exact trivial | exact ⟨trivial, trivial, trivial⟩ | exact ⟨trivial, trivial, trivial, trivial⟩) HCov.nil (Nat.zero_le _) (Nat.le_refl _) ⟨?_, rfl, rfl⟩; try rfl)
set_option maxRecDepth 100000 in
set_option maxHeartbeats 4000000 in
theorem organNames_spec (x : OPl) (hx : x.Ok) (n : List UInt8) (d : Int) (hn : n.length < 9223372036854775808) : VFun env 5 [.agg x.enc, .str (bs n), .int .i64 d] (.p (.bool true)) := by
  have hkn := known_spec
  have hfs := fits_spec x hx
  refine VFun.enter (env_none (by decide)) Tryz.func5 rfl (by kernel_rfl) (by simp [Tryz.ntmps5]) ?_
  by_cases hf : fitsP x
  case neg =>
    rw [decide_eq_false hf] at hfs
    repeat' (first
      | apply VWp.assoc
      | apply VWp.rseq
      | apply VWp.retSeq
      | apply VOps.nil
      | apply VOps.one
      | (apply VOps.take; rfl; rfl)
      | (apply VOps.drop; rfl; rfl; rfl)
      | (apply VVal.fn; rfl; rfl; exact hkn; intro _; rfl)
      | (apply VVal.fn; rfl; rfl; exact hfs; intro _; rfl)
      | (apply VVal.assign; rfl)
      | (apply VVal.move; rfl)
      | (apply VVal.load; rfl; rfl)
      | (apply VVal.pick_true; rfl; rfl)
      | (apply VVal.pick_false; rfl; rfl)
      | (apply VVal.box; rfl; trivial)
      | (apply VVal.not; rfl)
      | (apply VWp.condSeq_true; rfl))
    all_goals first | (exfalso; omega) | contradiction | (refine Done.ret rfl (.refl _) (by first | exact trivial | exact ⟨trivial, trivial, trivial⟩ | exact ⟨trivial, trivial, trivial, trivial⟩) HCov.nil (Nat.zero_le _) (Nat.le_refl _) ⟨?_, rfl, rfl⟩; try rfl)
  rw [decide_eq_true hf] at hfs
  by_cases hn40 : (n.length : Int) > 40
  · repeat' (first
      | apply VWp.assoc
      | apply VWp.rseq
      | apply VWp.retSeq
      | apply VOps.nil
      | apply VOps.one
      | (apply VOps.take; rfl; rfl)
      | (apply VVal.fn; rfl; rfl; exact hkn; intro _; rfl)
      | (apply VVal.fn; rfl; rfl; exact hfs; intro _; rfl)
      | (apply VVal.assign; rfl)
      | (apply VVal.move; rfl)
      | (apply VVal.int; rfl; rfl; rfl)
      | (apply VVal.load; rfl; rfl)
      | (apply VVal.pick_false; rfl; rfl)
      | (apply VVal.box; rfl; trivial)
      | (apply VVal.lenSt; rfl; rfl)
      | (apply VVal.not; rfl)
      | (apply VWp.condSeq_dec; rfl)
      | (intro _; try (exfalso; omega)))
    all_goals first | (exfalso; omega) | contradiction | (refine Done.ret rfl (.refl _) (by first | exact trivial | exact ⟨trivial, trivial, trivial⟩ | exact ⟨trivial, trivial, trivial, trivial⟩) HCov.nil (Nat.zero_le _) (Nat.le_refl _) ⟨?_, rfl, rfl⟩; try rfl)
  have hm := make18_spec x hx hf
  have ho := mkO_t x hx hf
  generalize mkO x = o at *
  have r1 := ho.ranks
  have r2 := ho.divs
  have r3 := ho.cpls
  repeat' (first
    | apply VWp.assoc
    | apply VWp.rseq
    | apply VWp.skipSeq
    | apply VWp.blockSeq
    | apply VOps.nil
    | apply VOps.one
    | (apply VOps.take; rfl; rfl)
    | (apply VVal.fn; rfl; rfl; exact hkn; intro _; rfl)
    | (apply VVal.fn; rfl; rfl; exact hfs; intro _; rfl)
    | (apply VVal.fn; rfl; rfl; exact hm; intro _; rfl)
    | (apply VVal.assign; rfl)
    | (apply VVal.move; rfl)
    | (apply VVal.int; rfl; rfl; rfl)
    | (apply VVal.load; rfl; rfl)
    | (apply VVal.pick_false; rfl; rfl)
    | (apply VVal.lenF; rfl; rfl)
    | (apply VVal.fieldB; rfl; rfl; rfl)
    | (apply VVal.box; rfl; trivial)
    | (apply VVal.alloc; rfl)
    | (apply VVal.storeB; rfl; rfl; rfl; trivial; rfl; rfl; exact lt_dec rfl; exact le_dec rfl)
    | (apply VVal.lenSt; rfl; rfl)
    | (apply VVal.not; rfl)
    | (apply VWp.condSeq_dec; rfl)
    | (intro _; try (exfalso; omega)))
  all_goals try (exfalso; omega)
  all_goals try contradiction
  refine VWp.ghost (Ghost.trans (Ghost.adoptCell 3 0 9 rfl rfl) (Ghost.trans (Ghost.adoptCell 3 1 9 rfl rfl) (Ghost.trans (Ghost.adoptCell 3 2 9 rfl rfl) (Ghost.adoptCell 3 3 9 rfl rfl)))) ?_
  refine VWp.loopQ (fun k : Nat => [(2, .p (.int .i64 d)), (3, .ref 0 0), (4, .ref 1 0), (7, .ref 2 0), (8, .ref 3 0), (47, .p (.lst 44 (cells o.ranks) o.ranks.length)), (48, .p (.int .i64 (o.ranks.length : Int))), (49, .p (.int .i64 (k : Int)))]) (fun k => [(7, .vec 9 [] 0 true), (6, .vec 9 [] 0 true), (5, .vec 9 [] 0 true), (4, .vec 9 (cells ((o.ranks.take k).map Rnk.name)) ((o.ranks.take k).map Rnk.name).length true), (3, .box 70 [.vec 4 ((o.ranks.take k).map Rnk.name).length 0 ((o.ranks.take k).map Rnk.name).length, .vec 5 0 0 0, .vec 6 0 0 0, .vec 7 0 0 0]), (2, .box 33 ((Enc.enc o).map .p)), (1, .box 9 [.p (.str (bs n))]), (0, .box 26 (x.enc.map .p))]) 8 (fun k => k ≤ o.ranks.length) (fun k => o.ranks.length - k) 0 (by omega) (by omega) ⟨by omega, ?_, ?_⟩ ?_
  · repeat (first | exact LCov.nil | refine LCov.same trivial rfl ?_ | refine LCov.same (lt_dec rfl) rfl ?_ | refine LCov.same ⟨trivial, lt_dec rfl, trivial⟩ rfl ?_ | refine LCov.same ⟨trivial, lt_dec rfl, lt_dec rfl, trivial⟩ rfl ?_ | refine LCov.same ⟨trivial, lt_dec rfl, lt_dec rfl, lt_dec rfl, trivial⟩ rfl ?_ | refine LCov.same ⟨trivial, trivial⟩ rfl ?_ | refine LCov.cons trivial rfl (.of_eq (lst_len (by simp <;> omega))) ?_)
  · repeat (first | exact HCov.nil | (refine HCov.cons (lt_dec rfl) ?_ rfl ?_ ?_; (first | exact trivial | exact PVs.under_pure _ _ | (simp [HB.under, PVs.under, PV.under])); (first | exact HLe.refl _ | exact HLe.vec (FLes.refl _) (by simp))))
  intro k hk
  by_cases hkl : k < o.ranks.length
  · have hl : ((o.ranks.take k).map Rnk.name).length = k := by rw [List.length_map, List.length_take]; omega
    have e1 := names_snoc Rnk.name hkl
    have e2 : ((o.ranks.take (k + 1)).map Rnk.name).length = ((o.ranks.take k).map Rnk.name).length + 1 := by rw [e1]; simp
    repeat' (first
      | apply VWp.rseq
      | apply VWp.region
      | apply VWp.skipSeq
      | apply VWp.blockSeq
      | apply QSeq.normal
      | apply QBlk.normal
      | apply VOps.nil
      | apply VOps.one
      | (apply VVal.indexAB ; rfl ; rfl ; rfl ; rfl ; rfl ; decide)
      | (apply VVal.append1 (a := Rnk.name (gi o.ranks k)); rfl; rfl; rfl; rfl; rfl; rfl; rfl; rfl; (intro _ h; cases h); rfl; rfl; rfl; decide; decide; (first | omega | (simp only [List.length_take, List.length_drop, List.length_append, List.length_singleton, List.length_cons, List.length_nil] <;> omega)))
      | (apply VVal.move; rfl)
      | (apply VVal.add64; rfl; rfl; omega)
      | (apply VVal.int; rfl; rfl; rfl)
      | (apply VVal.indexN; rfl; rfl; rfl; omega; rfl)
      | (apply VVal.load; rfl; rfl)
      | (apply VVal.fieldB; rfl; rfl; rfl)
      | (apply VVal.alloc; rfl)
      | (apply VVal.storeB; rfl; rfl; rfl; trivial; rfl; rfl; exact lt_dec rfl; exact le_dec rfl)
      | (apply VVal.buildSlice; rfl; rfl; rfl; decide; rfl; rfl; rfl)
      | (apply VWp.condSeq_dec; rfl)
      | (intro _; try (exfalso; omega)))
    all_goals try (exfalso; omega)
    refine QLoop.normal ⟨k + 1, by omega, by omega, ⟨by omega, ?_, ?_⟩⟩
    · repeat (first | exact LCov.nil | refine LCov.same trivial rfl ?_ | refine LCov.same (lt_dec rfl) rfl ?_ | refine LCov.same ⟨trivial, lt_dec rfl, trivial⟩ rfl ?_ | refine LCov.same ⟨trivial, lt_dec rfl, lt_dec rfl, trivial⟩ rfl ?_ | refine LCov.same ⟨trivial, lt_dec rfl, lt_dec rfl, lt_dec rfl, trivial⟩ rfl ?_ | refine LCov.same ⟨trivial, trivial⟩ rfl ?_ | refine LCov.cons trivial rfl (.of_eq (lst_len (by simp <;> omega))) ?_)
    · rw [e2, e1]; repeat (first | exact HCov.nil | (refine HCov.cons (lt_dec rfl) ?_ rfl ?_ ?_; (first | exact trivial | exact PVs.under_pure _ _ | (simp [HB.under, PVs.under, PV.under])); (first | exact HLe.refl _ | exact HLe.vec (FLes.refl _) (by simp))))
  obtain rfl : k = o.ranks.length := by omega
  rw [List.take_length]
  clear hkl hk
  repeat' (first
    | apply VWp.assoc
    | apply VWp.rseq
    | apply VWp.exitSeq
    | apply VWp.blockSeq
    | apply QSeq.normal
    | apply QBlk.exit
    | apply QLoop.exit
    | apply VOps.nil
    | apply VOps.one
    | (apply VVal.move; rfl)
    | (apply VVal.int; rfl; rfl; rfl)
    | (apply VVal.load; rfl; rfl)
    | (apply VVal.lenF; rfl; rfl)
    | (apply VVal.fieldB; rfl; rfl; rfl)
    | (apply VWp.condSeq_dec; rfl)
    | (intro _; try (exfalso; omega)))
  all_goals try (exfalso; omega)
  refine VWp.loopQ (fun k : Nat => [(2, .p (.int .i64 d)), (3, .ref 0 0), (4, .ref 1 0), (7, .ref 2 0), (8, .ref 3 0), (62, .p (.lst 49 (cells o.divs) o.divs.length)), (63, .p (.int .i64 (o.divs.length : Int))), (64, .p (.int .i64 (k : Int)))]) (fun k => [(7, .vec 9 [] 0 true), (6, .vec 9 [] 0 true), (5, .vec 9 (cells ((o.divs.take k).map Dvs.name)) ((o.divs.take k).map Dvs.name).length true), (4, .vec 9 (cells (o.ranks.map Rnk.name)) (o.ranks.map Rnk.name).length true), (3, .box 70 [.vec 4 (o.ranks.map Rnk.name).length 0 (o.ranks.map Rnk.name).length, .vec 5 ((o.divs.take k).map Dvs.name).length 0 ((o.divs.take k).map Dvs.name).length, .vec 6 0 0 0, .vec 7 0 0 0]), (2, .box 33 ((Enc.enc o).map .p)), (1, .box 9 [.p (.str (bs n))]), (0, .box 26 (x.enc.map .p))]) 8 (fun k => k ≤ o.divs.length) (fun k => o.divs.length - k) 0 (by omega) (by omega) ⟨by omega, ?_, ?_⟩ ?_
  · repeat (first | exact LCov.nil | refine LCov.same trivial rfl ?_ | refine LCov.same (lt_dec rfl) rfl ?_ | refine LCov.same ⟨trivial, lt_dec rfl, trivial⟩ rfl ?_ | refine LCov.same ⟨trivial, lt_dec rfl, lt_dec rfl, trivial⟩ rfl ?_ | refine LCov.same ⟨trivial, lt_dec rfl, lt_dec rfl, lt_dec rfl, trivial⟩ rfl ?_ | refine LCov.same ⟨trivial, trivial⟩ rfl ?_ | refine LCov.cons trivial rfl (.of_eq (lst_len (by simp <;> omega))) ?_)
  · repeat (first | exact HCov.nil | (refine HCov.cons (lt_dec rfl) ?_ rfl ?_ ?_; (first | exact trivial | exact PVs.under_pure _ _ | (simp [HB.under, PVs.under, PV.under])); (first | exact HLe.refl _ | exact HLe.vec (FLes.refl _) (by simp))))
  intro k hk
  by_cases hkl : k < o.divs.length
  · have hl : ((o.divs.take k).map Dvs.name).length = k := by rw [List.length_map, List.length_take]; omega
    have e1 := names_snoc Dvs.name hkl
    have e2 : ((o.divs.take (k + 1)).map Dvs.name).length = ((o.divs.take k).map Dvs.name).length + 1 := by rw [e1]; simp
    repeat' (first
      | apply VWp.rseq
      | apply VWp.region
      | apply VWp.skipSeq
      | apply VWp.blockSeq
      | apply QSeq.normal
      | apply QBlk.normal
      | apply VOps.nil
      | apply VOps.one
      | (apply VVal.indexAB ; rfl ; rfl ; rfl ; rfl ; rfl ; decide)
      | (apply VVal.append1 (a := Dvs.name (gi o.divs k)); rfl; rfl; rfl; rfl; rfl; rfl; rfl; rfl; (intro _ h; cases h); rfl; rfl; rfl; decide; decide; (first | omega | (simp only [List.length_take, List.length_drop, List.length_append, List.length_singleton, List.length_cons, List.length_nil] <;> omega)))
      | (apply VVal.move; rfl)
      | (apply VVal.add64; rfl; rfl; omega)
      | (apply VVal.int; rfl; rfl; rfl)
      | (apply VVal.indexN; rfl; rfl; rfl; omega; rfl)
      | (apply VVal.load; rfl; rfl)
      | (apply VVal.fieldB; rfl; rfl; rfl)
      | (apply VVal.alloc; rfl)
      | (apply VVal.storeB; rfl; rfl; rfl; trivial; rfl; rfl; exact lt_dec rfl; exact le_dec rfl)
      | (apply VVal.buildSlice; rfl; rfl; rfl; decide; rfl; rfl; rfl)
      | (apply VWp.condSeq_dec; rfl)
      | (intro _; try (exfalso; omega)))
    all_goals try (exfalso; omega)
    refine QLoop.normal ⟨k + 1, by omega, by omega, ⟨by omega, ?_, ?_⟩⟩
    · repeat (first | exact LCov.nil | refine LCov.same trivial rfl ?_ | refine LCov.same (lt_dec rfl) rfl ?_ | refine LCov.same ⟨trivial, lt_dec rfl, trivial⟩ rfl ?_ | refine LCov.same ⟨trivial, lt_dec rfl, lt_dec rfl, trivial⟩ rfl ?_ | refine LCov.same ⟨trivial, lt_dec rfl, lt_dec rfl, lt_dec rfl, trivial⟩ rfl ?_ | refine LCov.same ⟨trivial, trivial⟩ rfl ?_ | refine LCov.cons trivial rfl (.of_eq (lst_len (by simp <;> omega))) ?_)
    · rw [e2, e1]; repeat (first | exact HCov.nil | (refine HCov.cons (lt_dec rfl) ?_ rfl ?_ ?_; (first | exact trivial | exact PVs.under_pure _ _ | (simp [HB.under, PVs.under, PV.under])); (first | exact HLe.refl _ | exact HLe.vec (FLes.refl _) (by simp))))
  obtain rfl : k = o.divs.length := by omega
  rw [List.take_length]
  clear hkl hk
  repeat' (first
    | apply VWp.assoc
    | apply VWp.rseq
    | apply VWp.exitSeq
    | apply VWp.blockSeq
    | apply QSeq.normal
    | apply QBlk.exit
    | apply QLoop.exit
    | apply VOps.nil
    | apply VOps.one
    | (apply VVal.move; rfl)
    | (apply VVal.int; rfl; rfl; rfl)
    | (apply VVal.load; rfl; rfl)
    | (apply VVal.lenF; rfl; rfl)
    | (apply VVal.fieldB; rfl; rfl; rfl)
    | (apply VWp.condSeq_dec; rfl)
    | (intro _; try (exfalso; omega)))
  all_goals try (exfalso; omega)
  refine VWp.loopQ (fun k : Nat => [(2, .p (.int .i64 d)), (3, .ref 0 0), (4, .ref 1 0), (7, .ref 2 0), (8, .ref 3 0), (77, .p (.lst 72 (cells o.cpls) o.cpls.length)), (78, .p (.int .i64 (o.cpls.length : Int))), (79, .p (.int .i64 (k : Int)))]) (fun k => [(7, .vec 9 [] 0 true), (6, .vec 9 (cells ((o.cpls.take k).map Cpl.name)) ((o.cpls.take k).map Cpl.name).length true), (5, .vec 9 (cells (o.divs.map Dvs.name)) (o.divs.map Dvs.name).length true), (4, .vec 9 (cells (o.ranks.map Rnk.name)) (o.ranks.map Rnk.name).length true), (3, .box 70 [.vec 4 (o.ranks.map Rnk.name).length 0 (o.ranks.map Rnk.name).length, .vec 5 (o.divs.map Dvs.name).length 0 (o.divs.map Dvs.name).length, .vec 6 ((o.cpls.take k).map Cpl.name).length 0 ((o.cpls.take k).map Cpl.name).length, .vec 7 0 0 0]), (2, .box 33 ((Enc.enc o).map .p)), (1, .box 9 [.p (.str (bs n))]), (0, .box 26 (x.enc.map .p))]) 8 (fun k => k ≤ o.cpls.length) (fun k => o.cpls.length - k) 0 (by omega) (by omega) ⟨by omega, ?_, ?_⟩ ?_
  · repeat (first | exact LCov.nil | refine LCov.same trivial rfl ?_ | refine LCov.same (lt_dec rfl) rfl ?_ | refine LCov.same ⟨trivial, lt_dec rfl, trivial⟩ rfl ?_ | refine LCov.same ⟨trivial, lt_dec rfl, lt_dec rfl, trivial⟩ rfl ?_ | refine LCov.same ⟨trivial, lt_dec rfl, lt_dec rfl, lt_dec rfl, trivial⟩ rfl ?_ | refine LCov.same ⟨trivial, trivial⟩ rfl ?_ | refine LCov.cons trivial rfl (.of_eq (lst_len (by simp <;> omega))) ?_)
  · repeat (first | exact HCov.nil | (refine HCov.cons (lt_dec rfl) ?_ rfl ?_ ?_; (first | exact trivial | exact PVs.under_pure _ _ | (simp [HB.under, PVs.under, PV.under])); (first | exact HLe.refl _ | exact HLe.vec (FLes.refl _) (by simp))))
  intro k hk
  by_cases hkl : k < o.cpls.length
  · have hl : ((o.cpls.take k).map Cpl.name).length = k := by rw [List.length_map, List.length_take]; omega
    have e1 := names_snoc Cpl.name hkl
    have e2 : ((o.cpls.take (k + 1)).map Cpl.name).length = ((o.cpls.take k).map Cpl.name).length + 1 := by rw [e1]; simp
    repeat' (first
      | apply VWp.rseq
      | apply VWp.region
      | apply VWp.skipSeq
      | apply VWp.blockSeq
      | apply QSeq.normal
      | apply QBlk.normal
      | apply VOps.nil
      | apply VOps.one
      | (apply VVal.indexAB ; rfl ; rfl ; rfl ; rfl ; rfl ; decide)
      | (apply VVal.append1 (a := Cpl.name (gi o.cpls k)); rfl; rfl; rfl; rfl; rfl; rfl; rfl; rfl; (intro _ h; cases h); rfl; rfl; rfl; decide; decide; (first | omega | (simp only [List.length_take, List.length_drop, List.length_append, List.length_singleton, List.length_cons, List.length_nil] <;> omega)))
      | (apply VVal.move; rfl)
      | (apply VVal.add64; rfl; rfl; omega)
      | (apply VVal.int; rfl; rfl; rfl)
      | (apply VVal.indexN; rfl; rfl; rfl; omega; rfl)
      | (apply VVal.load; rfl; rfl)
      | (apply VVal.fieldB; rfl; rfl; rfl)
      | (apply VVal.alloc; rfl)
      | (apply VVal.storeB; rfl; rfl; rfl; trivial; rfl; rfl; exact lt_dec rfl; exact le_dec rfl)
      | (apply VVal.buildSlice; rfl; rfl; rfl; decide; rfl; rfl; rfl)
      | (apply VWp.condSeq_dec; rfl)
      | (intro _; try (exfalso; omega)))
    all_goals try (exfalso; omega)
    refine QLoop.normal ⟨k + 1, by omega, by omega, ⟨by omega, ?_, ?_⟩⟩
    · repeat (first | exact LCov.nil | refine LCov.same trivial rfl ?_ | refine LCov.same (lt_dec rfl) rfl ?_ | refine LCov.same ⟨trivial, lt_dec rfl, trivial⟩ rfl ?_ | refine LCov.same ⟨trivial, lt_dec rfl, lt_dec rfl, trivial⟩ rfl ?_ | refine LCov.same ⟨trivial, lt_dec rfl, lt_dec rfl, lt_dec rfl, trivial⟩ rfl ?_ | refine LCov.same ⟨trivial, trivial⟩ rfl ?_ | refine LCov.cons trivial rfl (.of_eq (lst_len (by simp <;> omega))) ?_)
    · rw [e2, e1]; repeat (first | exact HCov.nil | (refine HCov.cons (lt_dec rfl) ?_ rfl ?_ ?_; (first | exact trivial | exact PVs.under_pure _ _ | (simp [HB.under, PVs.under, PV.under])); (first | exact HLe.refl _ | exact HLe.vec (FLes.refl _) (by simp))))
  obtain rfl : k = o.cpls.length := by omega
  rw [List.take_length]
  clear hkl hk
  have hR := ixRank_spec o ho n
  have hD := ixDivision_spec o ho n
  have hC := ixCoupler_spec o ho n
  have n1 : (o.ranks.map Rnk.name).length < 9223372036854775808 := by rw [List.length_map]; omega
  have n2 : (o.divs.map Dvs.name).length < 9223372036854775808 := by rw [List.length_map]; omega
  have n3 : (o.cpls.map Cpl.name).length < 9223372036854775808 := by rw [List.length_map]; omega
  have i1 := index_spec (o.ranks.map Rnk.name) n n1
  have i2 := index_spec (o.divs.map Dvs.name) n n2
  have i3 := index_spec (o.cpls.map Cpl.name) n n3
  rw [ixF_map Rnk.name o.ranks n] at i1
  rw [ixF_map Dvs.name o.divs n] at i2
  rw [ixF_map Cpl.name o.cpls n] at i3
  have f1 := fits18_spec _ (ixF_ge (f := fun i => (gi o.ranks i).name) (n := n) o.ranks.length).1
  have f2 := fits18_spec _ (ixF_ge (f := fun i => (gi o.divs i).name) (n := n) o.divs.length).1
  have f3 := fits18_spec _ (ixF_ge (f := fun i => (gi o.cpls i).name) (n := n) o.cpls.length).1
  by_cases hd : 0 ≤ d ∧ d < o.divs.length
  case neg =>
    have hS := ixStopOut_spec o ho d (by omega) n
    repeat' (first
      | (refine VWp.at 26 ?_; refine VWp.ghost (Ghost.trans (Ghost.freezeCell 3 0 rfl rfl rfl) (Ghost.trans (Ghost.freezeCell 3 1 rfl rfl rfl) (Ghost.trans (Ghost.freezeCell 3 2 rfl rfl rfl) (Ghost.freezeCell 3 3 rfl rfl rfl)))) ?_; first | apply VWp.rseq | apply VWp.rseqD)
      | apply VWp.assoc
      | apply VWp.rseq
      | apply VWp.skipSeq
      | apply VWp.retSeq
      | apply VWp.exitSeq
      | apply QSeq.normal
      | apply QBlk.exit
      | apply QLoop.exit
      | apply VOps.nil
      | apply VOps.one
      | (apply VOps.take; rfl; rfl)
      | (apply VOps.drop; rfl; rfl; rfl)
      | (apply VOps.guard; rfl; rfl)
      | (apply VVal.fn; rfl; rfl; exact hR; intro _; rfl)
      | (apply VVal.fn; rfl; rfl; exact hD; intro _; rfl)
      | (apply VVal.fn; rfl; rfl; exact hC; intro _; rfl)
      | (apply VVal.fn; rfl; rfl; exact hS; intro _; rfl)
      | (apply VVal.fn; rfl; rfl; exact f1; intro _; rfl)
      | (apply VVal.fn; rfl; rfl; exact f2; intro _; rfl)
      | (apply VVal.fn; rfl; rfl; exact f3; intro _; rfl)
      | (apply VVal.read [1] i1; rfl; rfl; exact .of_eq rfl; exact PVs.under_of rfl; exact HUnder_of rfl; (repeat (first | exact trivial | refine ⟨⟨_, rfl, .of_eq rfl⟩, ?_⟩)); decide; (intro _ hb; simp at hb; omega); rfl)
      | (apply VVal.read [1] i2; rfl; rfl; exact .of_eq rfl; exact PVs.under_of rfl; exact HUnder_of rfl; (repeat (first | exact trivial | refine ⟨⟨_, rfl, .of_eq rfl⟩, ?_⟩)); decide; (intro _ hb; simp at hb; omega); rfl)
      | (apply VVal.read [1] i3; rfl; rfl; exact .of_eq rfl; exact PVs.under_of rfl; exact HUnder_of rfl; (repeat (first | exact trivial | refine ⟨⟨_, rfl, .of_eq rfl⟩, ?_⟩)); decide; (intro _ hb; simp at hb; omega); rfl)
      | (apply VVal.makeFunc ; rfl ; rfl)
      | (apply VVal.indexAB ; rfl ; rfl ; rfl ; rfl ; rfl ; decide)
      | (apply VVal.assign; rfl)
      | (apply VVal.move; rfl)
      | (apply VVal.int; rfl; rfl; rfl)
      | (apply VVal.load; rfl; rfl)
      | (apply VVal.pick_true; rfl; rfl)
      | (apply VVal.pick_false; rfl; rfl)
      | (apply VVal.lenF; rfl; rfl)
      | (apply VVal.fieldB; rfl; rfl; rfl)
      | (apply VVal.not; rfl)
      | (apply VVal.extract; rfl; rfl)
      | (apply VWp.condSeq_true; rfl)
      | (apply VWp.condSeq_false; rfl)
      | (apply VWp.condSeq_dec; rfl)
      | (intro _; try (exfalso; omega)))
    all_goals first | (exfalso; omega) | contradiction | (refine Done.ret rfl (.refl _) (by first | exact trivial | exact ⟨trivial, trivial, trivial⟩ | exact ⟨trivial, trivial, trivial, trivial⟩) HCov.nil (Nat.zero_le _) (Nat.le_refl _) ⟨?_, rfl, rfl⟩; try rfl)
  obtain ⟨e, rfl⟩ : ∃ e : Nat, d = e := ⟨d.toNat, by omega⟩
  have he : e < o.divs.length := by omega
  have hS := ixStop_spec o ho e he n
  have r4 := ho.stops e he
  repeat' (first
    | apply VWp.assoc
    | apply VWp.rseq
    | apply VWp.exitSeq
    | apply VWp.blockSeq
    | apply QSeq.normal
    | apply QBlk.exit
    | apply QLoop.exit
    | apply VOps.nil
    | apply VOps.one
    | (apply VOps.take; rfl; rfl)
    | (apply VVal.indexN (l := o.divs) (i := e) ; rfl ; rfl ; rfl ; exact he ; rfl)
    | (apply VVal.move; rfl)
    | (apply VVal.int; rfl; rfl; rfl)
    | (apply VVal.load; rfl; rfl)
    | (apply VVal.pick_true; rfl; rfl)
    | (apply VVal.lenF; rfl; rfl)
    | (apply VVal.fieldB; rfl; rfl; rfl)
    | (apply VVal.fieldF; rfl; rfl)
    | (apply VWp.condSeq_dec; rfl)
    | (intro _; try (exfalso; omega)))
  all_goals try (exfalso; omega)
  refine VWp.loopQ (fun k : Nat => [(2, .p (.int .i64 (e : Int))), (3, .ref 0 0), (4, .ref 1 0), (7, .ref 2 0), (8, .ref 3 0), (105, .p (.lst 52 (cells (gi o.divs e).stops) (gi o.divs e).stops.length)), (106, .p (.int .i64 ((gi o.divs e).stops.length : Int))), (107, .p (.int .i64 (k : Int)))]) (fun k => [(7, .vec 9 (cells (((gi o.divs e).stops.take k).map Stp.name)) (((gi o.divs e).stops.take k).map Stp.name).length true), (6, .vec 9 (cells (o.cpls.map Cpl.name)) (o.cpls.map Cpl.name).length true), (5, .vec 9 (cells (o.divs.map Dvs.name)) (o.divs.map Dvs.name).length true), (4, .vec 9 (cells (o.ranks.map Rnk.name)) (o.ranks.map Rnk.name).length true), (3, .box 70 [.vec 4 (o.ranks.map Rnk.name).length 0 (o.ranks.map Rnk.name).length, .vec 5 (o.divs.map Dvs.name).length 0 (o.divs.map Dvs.name).length, .vec 6 (o.cpls.map Cpl.name).length 0 (o.cpls.map Cpl.name).length, .vec 7 (((gi o.divs e).stops.take k).map Stp.name).length 0 (((gi o.divs e).stops.take k).map Stp.name).length]), (2, .box 33 ((Enc.enc o).map .p)), (1, .box 9 [.p (.str (bs n))]), (0, .box 26 (x.enc.map .p))]) 8 (fun k => k ≤ (gi o.divs e).stops.length) (fun k => (gi o.divs e).stops.length - k) 0 (by omega) (by omega) ⟨by omega, ?_, ?_⟩ ?_
  · repeat (first | exact LCov.nil | refine LCov.same trivial rfl ?_ | refine LCov.same (lt_dec rfl) rfl ?_ | refine LCov.same ⟨trivial, lt_dec rfl, trivial⟩ rfl ?_ | refine LCov.same ⟨trivial, lt_dec rfl, lt_dec rfl, trivial⟩ rfl ?_ | refine LCov.same ⟨trivial, lt_dec rfl, lt_dec rfl, lt_dec rfl, trivial⟩ rfl ?_ | refine LCov.same ⟨trivial, trivial⟩ rfl ?_ | refine LCov.cons trivial rfl (.of_eq (lst_len (by simp <;> omega))) ?_)
  · repeat (first | exact HCov.nil | (refine HCov.cons (lt_dec rfl) ?_ rfl ?_ ?_; (first | exact trivial | exact PVs.under_pure _ _ | (simp [HB.under, PVs.under, PV.under])); (first | exact HLe.refl _ | exact HLe.vec (FLes.refl _) (by simp))))
  intro k hk
  by_cases hkl : k < (gi o.divs e).stops.length
  · have hl : (((gi o.divs e).stops.take k).map Stp.name).length = k := by rw [List.length_map, List.length_take]; omega
    have e1 := names_snoc Stp.name hkl
    have e2 : (((gi o.divs e).stops.take (k + 1)).map Stp.name).length = (((gi o.divs e).stops.take k).map Stp.name).length + 1 := by rw [e1]; simp
    repeat' (first
      | apply VWp.rseq
      | apply VWp.region
      | apply VWp.skipSeq
      | apply VWp.blockSeq
      | apply QSeq.normal
      | apply QBlk.normal
      | apply VOps.nil
      | apply VOps.one
      | (apply VVal.indexAB ; rfl ; rfl ; rfl ; rfl ; rfl ; decide)
      | (apply VVal.append1 (a := Stp.name (gi (gi o.divs e).stops k)); rfl; rfl; rfl; rfl; rfl; rfl; rfl; rfl; (intro _ h; cases h); rfl; rfl; rfl; decide; decide; (first | omega | (simp only [List.length_take, List.length_drop, List.length_append, List.length_singleton, List.length_cons, List.length_nil] <;> omega)))
      | (apply VVal.move; rfl)
      | (apply VVal.add64; rfl; rfl; omega)
      | (apply VVal.int; rfl; rfl; rfl)
      | (apply VVal.indexN; rfl; rfl; rfl; omega; rfl)
      | (apply VVal.load; rfl; rfl)
      | (apply VVal.fieldB; rfl; rfl; rfl)
      | (apply VVal.alloc; rfl)
      | (apply VVal.storeB; rfl; rfl; rfl; trivial; rfl; rfl; exact lt_dec rfl; exact le_dec rfl)
      | (apply VVal.buildSlice; rfl; rfl; rfl; decide; rfl; rfl; rfl)
      | (apply VWp.condSeq_dec; rfl)
      | (intro _; try (exfalso; omega)))
    all_goals try (exfalso; omega)
    refine QLoop.normal ⟨k + 1, by omega, by omega, ⟨by omega, ?_, ?_⟩⟩
    · repeat (first | exact LCov.nil | refine LCov.same trivial rfl ?_ | refine LCov.same (lt_dec rfl) rfl ?_ | refine LCov.same ⟨trivial, lt_dec rfl, trivial⟩ rfl ?_ | refine LCov.same ⟨trivial, lt_dec rfl, lt_dec rfl, trivial⟩ rfl ?_ | refine LCov.same ⟨trivial, lt_dec rfl, lt_dec rfl, lt_dec rfl, trivial⟩ rfl ?_ | refine LCov.same ⟨trivial, trivial⟩ rfl ?_ | refine LCov.cons trivial rfl (.of_eq (lst_len (by simp <;> omega))) ?_)
    · rw [e2, e1]; repeat (first | exact HCov.nil | (refine HCov.cons (lt_dec rfl) ?_ rfl ?_ ?_; (first | exact trivial | exact PVs.under_pure _ _ | (simp [HB.under, PVs.under, PV.under])); (first | exact HLe.refl _ | exact HLe.vec (FLes.refl _) (by simp))))
  obtain rfl : k = (gi o.divs e).stops.length := by omega
  rw [List.take_length]
  clear hkl hk
  have n4 : ((gi o.divs e).stops.map Stp.name).length < 9223372036854775808 := by rw [List.length_map]; omega
  have i4 := index_spec ((gi o.divs e).stops.map Stp.name) n n4
  rw [ixF_map Stp.name (gi o.divs e).stops n] at i4
  have f4 := fits18_spec _ (ixF_ge (f := fun i => (gi (gi o.divs e).stops i).name) (n := n) (gi o.divs e).stops.length).1
  repeat' (first
    | (refine VWp.at 26 ?_; refine VWp.ghost (Ghost.trans (Ghost.freezeCell 3 0 rfl rfl rfl) (Ghost.trans (Ghost.freezeCell 3 1 rfl rfl rfl) (Ghost.trans (Ghost.freezeCell 3 2 rfl rfl rfl) (Ghost.freezeCell 3 3 rfl rfl rfl)))) ?_; first | apply VWp.rseq | apply VWp.rseqD)
    | apply VWp.assoc
    | apply VWp.rseq
    | apply VWp.skipSeq
    | apply VWp.exitSeq
    | apply QSeq.normal
    | apply QBlk.exit
    | apply QLoop.exit
    | apply VWp.ret
    | apply VOps.nil
    | apply VOps.one
    | (apply VOps.take; rfl; rfl)
    | (apply VVal.fn; rfl; rfl; exact hR; intro _; rfl)
    | (apply VVal.fn; rfl; rfl; exact hD; intro _; rfl)
    | (apply VVal.fn; rfl; rfl; exact hC; intro _; rfl)
    | (apply VVal.fn; rfl; rfl; exact hS; intro _; rfl)
    | (apply VVal.fn; rfl; rfl; exact f1; intro _; rfl)
    | (apply VVal.fn; rfl; rfl; exact f2; intro _; rfl)
    | (apply VVal.fn; rfl; rfl; exact f3; intro _; rfl)
    | (apply VVal.fn; rfl; rfl; exact f4; intro _; rfl)
    | (apply VVal.read [1] i1; rfl; rfl; exact .of_eq rfl; exact PVs.under_of rfl; exact HUnder_of rfl; (repeat (first | exact trivial | refine ⟨⟨_, rfl, .of_eq rfl⟩, ?_⟩)); decide; (intro _ hb; simp at hb; omega); rfl)
    | (apply VVal.read [1] i2; rfl; rfl; exact .of_eq rfl; exact PVs.under_of rfl; exact HUnder_of rfl; (repeat (first | exact trivial | refine ⟨⟨_, rfl, .of_eq rfl⟩, ?_⟩)); decide; (intro _ hb; simp at hb; omega); rfl)
    | (apply VVal.read [1] i3; rfl; rfl; exact .of_eq rfl; exact PVs.under_of rfl; exact HUnder_of rfl; (repeat (first | exact trivial | refine ⟨⟨_, rfl, .of_eq rfl⟩, ?_⟩)); decide; (intro _ hb; simp at hb; omega); rfl)
    | (apply VVal.read [1] i4; rfl; rfl; exact .of_eq rfl; exact PVs.under_of rfl; exact HUnder_of rfl; (repeat (first | exact trivial | refine ⟨⟨_, rfl, .of_eq rfl⟩, ?_⟩)); decide; (intro _ hb; simp at hb; omega); rfl)
    | (apply VVal.makeFunc ; rfl ; rfl)
    | (apply VVal.indexAB ; rfl ; rfl ; rfl ; rfl ; rfl ; decide)
    | (apply VVal.assign; rfl)
    | (apply VVal.move; rfl)
    | (apply VVal.int; rfl; rfl; rfl)
    | (apply VVal.load; rfl; rfl)
    | (apply VVal.pick_true; rfl; rfl)
    | (apply VVal.pick_false; rfl; rfl)
    | (apply VVal.lenF; rfl; rfl)
    | (apply VVal.fieldB; rfl; rfl; rfl)
    | (apply VVal.not; rfl)
    | (apply VVal.extract; rfl; rfl)
    | (apply VWp.condSeq_false; rfl)
    | (apply VWp.condSeq_dec; rfl)
    | (intro _; try (exfalso; omega)))
  all_goals first | (exfalso; omega) | contradiction | (refine Done.ret rfl (.refl _) (by first | exact trivial | exact ⟨trivial, trivial, trivial⟩ | exact ⟨trivial, trivial, trivial, trivial⟩) HCov.nil (Nat.zero_le _) (Nat.le_refl _) ⟨?_, rfl, rfl⟩; try rfl)
end Go.Proofs.YtcnlhgmkelkikaaGreatDoor
