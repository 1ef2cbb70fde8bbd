/-
  The layer of organs: None, Full, With, Union. Conditions: in each statement.
-/
import Derived.Test.YtcnlhgmkelkikaaGreatDoorOrN
set_option linter.unusedSimpArgs false
set_option linter.unusedVariables false
namespace Go.Proofs.YtcnlhgmkelkikaaGreatDoor
open Go Go.Am Go.Vm
attribute [local irreducible] VVal VOps VOpsD VWp VCalls VFun VFunV QSeq QBlk QLoop Vm.Done DoneV DoneI

def noneR (o : Org) : Rgs := ⟨List.replicate o.divs.length 0, 0, 0⟩
set_option maxRecDepth 100000 in
set_option maxHeartbeats 1000000 in
theorem none_spec (o : Org) (ho : OrgT o) : VFun env 15 [.agg (Enc.enc o)] (.tup [.p (.agg (Enc.enc (noneR o))), .p (.int .i64 0)]) := by
  have hc := ocheck_spec o ho.sm
  rw [ho.ok] at hc
  have r2 := ho.divs
  have hl : (List.replicate o.divs.length 0 : List Nat).length = o.divs.length := List.length_replicate
  have e : Enc.enc (noneR o) = [.lst 59 (cells (List.replicate o.divs.length (0 : Nat))) o.divs.length, .int .u64 0, .int .u64 0] := by
    show [FV.lst 59 (cells (List.replicate o.divs.length (0 : Nat))) (List.replicate o.divs.length (0 : Nat)).length, .int .u64 0, .int .u64 0] = _
    rw [hl]
  rw [e]
  refine VFun.enter (env_none (by decide)) Tryz.func15 rfl (by kernel_rfl) (by simp [Tryz.ntmps15]) ?_
  repeat' (first
    | (refine VOps.atOp 15 ?_; refine VOps.ghost (Ghost.freeze 14 rfl rfl) ?_)
    | apply VWp.assoc
    | apply VWp.rseq
    | apply VWp.skipSeq
    | apply VWp.ret
    | apply VOps.nil
    | apply VOps.one
    | (apply VVal.fn; rfl; rfl; exact hc; intro _; rfl)
    | (apply VVal.makeSliceL o.divs.length (0 : Nat) ; rfl ; rfl ; rfl ; rfl ; rfl ; rfl ; rfl ; omega ; decide ; decide ; rfl)
    | (apply VVal.assign; rfl)
    | (apply VVal.move; rfl)
    | (apply VVal.int; rfl; rfl; rfl)
    | (apply VVal.load; rfl; rfl)
    | (apply VVal.lenF; rfl; rfl)
    | (apply VVal.fieldB; rfl; rfl; rfl)
    | (apply VVal.box; rfl; trivial)
    | (apply VVal.alloc; rfl)
    | (apply VVal.storeB; rfl; rfl; rfl; trivial; rfl; rfl; exact lt_dec rfl; exact le_dec rfl)
    | (apply VVal.build; rfl; rfl; rfl; rfl; rfl)
    | (apply VWp.condSeq_false; rfl))
  all_goals first | (exfalso; omega) | contradiction | (refine Done.ret rfl (.refl _) (by first | exact trivial | exact ⟨trivial, trivial, trivial⟩ | exact ⟨trivial, trivial, trivial, trivial⟩) HCov.nil (Nat.zero_le _) (Nat.le_refl _) ⟨?_, rfl, rfl⟩; try rfl)

set_option maxRecDepth 100000 in
set_option maxHeartbeats 1000000 in
theorem clone64_spec (l : List Nat) (h0 : 0 < l.length) (h1 : l.length < 1000000) : VFunV env 88 [.lst 59 (cells l) l.length] 59 (cells l) l.length false := by
  refine VFunV.enter (env_none (by decide)) Tryz.func88 rfl (by kernel_rfl) (by simp [Tryz.ntmps88]) ?_
  repeat' (first
    | apply VWp.assoc
    | apply VWp.rseq
    | apply VWp.skipSeq
    | apply VWp.ret
    | apply VOps.nil
    | apply VOps.one
    | (apply VVal.eqNilF ; rfl ; rfl ; rfl ; exact h0)
    | (apply VVal.assign; rfl)
    | (apply VVal.move; rfl)
    | (apply VVal.buildSlice; rfl; rfl; rfl; decide; rfl; rfl; rfl)
    | (apply VVal.appendL0; rfl; rfl; rfl; (first | rfl | omega | (simp only [List.length_take, List.length_drop, List.length_append, List.length_singleton, List.length_cons, List.length_nil] <;> omega)); rfl; rfl; (intro _ h; cases h); rfl; rfl; rfl; decide; decide; (first | omega | (simp only [List.length_take, List.length_drop, List.length_append, List.length_singleton, List.length_cons, List.length_nil] <;> omega)))
    | (apply VWp.condSeq_false; rfl))
  exact DoneV.ret rfl rfl rfl rfl

theorem inl_CHG {L : Vm.Frame} {H : Vm.Heap} {nx : Nat} {Q : PV → Vm.Heap → Nat → Prop} {dst : Option Tmp} {ty : TypeId} {pos : String} {af : Array Edge} {gd : Option (Nat × Bool)} {fo : Operand} {args : Array Operand} {aT : Array TypeId} {fs cs xs : List PV} {c : Code}
    (hf : vev env.Γ L fo = some (.clo 43 fs cs)) (ha : evs env.Γ L args.toList = some xs) (hb : Tryz.f43.body = some c) (hn : (fs ++ xs ++ cs).length ≤ Tryz.f43.ntmps)
    (h : VWp env nx c (argFrame 0 (fs ++ xs ++ cs)) H nx (DoneI env.P Tryz.f43.results.toList Q)) : VVal env true ⟨dst, .call { callee := .value fo, args := args, argTypes := aT }, ty, pos, af, gd⟩ L H nx Q := by
  have h0 : (match Tryz.f43.body with | some c => fnOk env.G Tryz.f43 c | none => false) = true := by kernel_rfl
  rw [hb] at h0
  exact VVal.inline rfl hf ha (env_none (by decide)) Tryz.func43 hb h0 hn h

theorem inl_FUL {L : Vm.Frame} {H : Vm.Heap} {nx : Nat} {Q : PV → Vm.Heap → Nat → Prop} {dst : Option Tmp} {ty : TypeId} {pos : String} {af : Array Edge} {gd : Option (Nat × Bool)} {fo : Operand} {args : Array Operand} {aT : Array TypeId} {fs cs xs : List PV} {c : Code}
    (hf : vev env.Γ L fo = some (.clo 44 fs cs)) (ha : evs env.Γ L args.toList = some xs) (hb : Tryz.f44.body = some c) (hn : (fs ++ xs ++ cs).length ≤ Tryz.f44.ntmps)
    (h : VWp env nx c (argFrame 0 (fs ++ xs ++ cs)) H nx (DoneI env.P Tryz.f44.results.toList Q)) : VVal env true ⟨dst, .call { callee := .value fo, args := args, argTypes := aT }, ty, pos, af, gd⟩ L H nx Q := by
  have h0 : (match Tryz.f44.body with | some c => fnOk env.G Tryz.f44 c | none => false) = true := by kernel_rfl
  rw [hb] at h0
  exact VVal.inline rfl hf ha (env_none (by decide)) Tryz.func44 hb h0 hn h

theorem inl_WTH {L : Vm.Frame} {H : Vm.Heap} {nx : Nat} {Q : PV → Vm.Heap → Nat → Prop} {dst : Option Tmp} {ty : TypeId} {pos : String} {af : Array Edge} {gd : Option (Nat × Bool)} {fo : Operand} {args : Array Operand} {aT : Array TypeId} {fs cs xs : List PV} {c : Code}
    (hf : vev env.Γ L fo = some (.clo 45 fs cs)) (ha : evs env.Γ L args.toList = some xs) (hb : Tryz.f45.body = some c) (hn : (fs ++ xs ++ cs).length ≤ Tryz.f45.ntmps)
    (h : VWp env nx c (argFrame 0 (fs ++ xs ++ cs)) H nx (DoneI env.P Tryz.f45.results.toList Q)) : VVal env true ⟨dst, .call { callee := .value fo, args := args, argTypes := aT }, ty, pos, af, gd⟩ L H nx Q := by
  have h0 : (match Tryz.f45.body with | some c => fnOk env.G Tryz.f45 c | none => false) = true := by kernel_rfl
  rw [hb] at h0
  exact VVal.inline rfl hf ha (env_none (by decide)) Tryz.func45 hb h0 hn h

theorem inl_UNI {L : Vm.Frame} {H : Vm.Heap} {nx : Nat} {Q : PV → Vm.Heap → Nat → Prop} {dst : Option Tmp} {ty : TypeId} {pos : String} {af : Array Edge} {gd : Option (Nat × Bool)} {fo : Operand} {args : Array Operand} {aT : Array TypeId} {fs cs xs : List PV} {c : Code}
    (hf : vev env.Γ L fo = some (.clo 55 fs cs)) (ha : evs env.Γ L args.toList = some xs) (hb : Tryz.f55.body = some c) (hn : (fs ++ xs ++ cs).length ≤ Tryz.f55.ntmps)
    (h : VWp env nx c (argFrame 0 (fs ++ xs ++ cs)) H nx (DoneI env.P Tryz.f55.results.toList Q)) : VVal env true ⟨dst, .call { callee := .value fo, args := args, argTypes := aT }, ty, pos, af, gd⟩ L H nx Q := by
  have h0 : (match Tryz.f55.body with | some c => fnOk env.G Tryz.f55 c | none => false) = true := by kernel_rfl
  rw [hb] at h0
  exact VVal.inline rfl hf ha (env_none (by decide)) Tryz.func55 hb h0 hn h

def fullF (o : Org) (k : Nat) : Nat := 2 ^ (gi o.divs k).stops.length - 1
def fullR (o : Org) : Rgs := ⟨setK (fullF o) (List.replicate o.divs.length 0) o.divs.length, 2 ^ o.cpls.length - 1, 0⟩
set_option maxRecDepth 100000 in
set_option maxHeartbeats 2000000 in
theorem full_spec (o : Org) (ho : OrgT o) : VFun env 16 [.agg (Enc.enc o)] (.tup [.p (.agg (Enc.enc (fullR o))), .p (.int .i64 0)]) := by
  have r2 := ho.divs
  have r3 := ho.cpls
  have p3 := pow8 r3
  have hn := none_spec o ho
  have hl : (List.replicate o.divs.length 0 : List Nat).length = o.divs.length := List.length_replicate
  have hz : (noneR o).stops.length = o.divs.length := hl
  have hcl := clone64_spec (noneR o).stops (show 0 < (List.replicate o.divs.length 0 : List Nat).length by omega) (show (List.replicate o.divs.length 0 : List Nat).length < 1000000 by omega)
  refine VFun.enter (env_none (by decide)) Tryz.func16 rfl (by kernel_rfl) (by simp [Tryz.ntmps16]) ?_
  repeat' (first
    | apply VWp.assoc
    | apply VWp.rseq
    | apply VWp.skipSeq
    | apply VWp.blockSeq
    | apply VOps.nil
    | apply VOps.one
    | (apply VVal.fn; rfl; rfl; exact hn; intro _; rfl)
    | (apply VVal.fv; rfl; rfl; exact hcl)
    | (apply inl_CHG; rfl; rfl; rfl; exact le_dec rfl)
    | (apply inl_FUL; rfl; rfl; rfl; exact le_dec rfl)
    | (apply VVal.makeFunc ; rfl ; rfl)
    | (apply VVal.assign; rfl)
    | (apply VVal.move; rfl)
    | (apply VVal.int; rfl; rfl; rfl)
    | (apply VVal.load; rfl; rfl)
    | (apply VVal.lenF; rfl; rfl)
    | (apply VVal.fieldB; rfl; rfl; rfl)
    | (apply VVal.box; rfl; trivial)
    | (apply VVal.alloc; rfl)
    | (apply VVal.storeB; rfl; rfl; rfl; trivial; rfl; rfl; exact lt_dec rfl; exact le_dec rfl)
    | (apply VVal.extract; rfl; rfl)
    | (apply VWp.condSeq_false; rfl))
  all_goals try (exfalso; omega)
  all_goals try contradiction
  apply VWp.loopR (o.divs.length) [(0, _), (1, _), (6, _), (7, _)] [(0, _), (1, _), (2, _), (3, _), (4, _)] (fun k r => (8, .p (.int .i64 (k : Int))) :: r) (fun k r => (5, .vec 59 (cells (setK (fullF o) (List.replicate o.divs.length 0) k)) (List.replicate o.divs.length (0 : Nat)).length false) :: r) 6
  · omega
  · omega
  · repeat (first | exact LCov.nil | (refine LCov.eq rfl ?_ ?_; (first | exact PV.under_of rfl | (simp [PV.under, PVs.under]; done))) | refine LCov.cons trivial rfl (.of_eq (lst_len (by simp <;> omega))) ?_)
  · repeat (first | exact HCov.nil | (refine HCov.eq rfl (lt_dec rfl) ?_ ?_; (first | exact HB.under_of rfl | exact PVs.under_pure _ _ | (simp [HB.under, PVs.under, PV.under]; done))) | (refine HCov.cons (lt_dec rfl) ?_ rfl ?_ ?_; (first | exact trivial | exact PVs.under_pure _ _ | (simp [HB.under, PVs.under, PV.under])); (first | exact HLe.refl _ | exact HLe.vec (FLes.refl _) (by simp))))
  · intro k hk
    have hk2 := setK_len (fullF o) (List.replicate o.divs.length 0) k
    have s3 := ho.stops k hk
    have p1 := pow8 s3
    have e1 : (setK (fullF o) (List.replicate o.divs.length 0) k).set k (fullF o k) = setK (fullF o) (List.replicate o.divs.length 0) (k + 1) := rfl
    repeat' (first
      | apply VWp.rseq
      | apply VWp.region
      | apply VWp.regionD
      | apply VWp.skipSeq
      | apply VWp.blockSeq
      | apply QSeq.normal
      | apply QBlk.normal
      | apply VOps.nil
      | apply VOpsD.nil
      | apply VOps.one
      | (apply VOpsD.bar; decide +kernel)
      | apply VOpsD.quiet
      | (apply VVal.maskU ; rfl ; rfl ; omega)
      | (apply VVal.nilChk ; rfl ; rfl)
      | (apply VVal.storeVL (y := fullF o k); rfl; rfl; rfl; trivial; (first | rfl | (refine congrArg (fun t => [PV.p (FV.int _ t)]) ?_; first | omega | (simp only [Int.natCast_add, Int.natCast_mul, Int.natCast_ediv, Int.natCast_emod] <;> omega))); rfl; rfl; decide; (first | omega | (simp only [List.length_set] <;> omega)))
      | (apply VVal.assign; rfl)
      | (apply VVal.move; rfl)
      | (apply VVal.add64; rfl; rfl; omega)
      | (apply VVal.int; rfl; rfl; rfl)
      | (apply VVal.indexN; rfl; rfl; rfl; omega; rfl)
      | (apply VVal.load; rfl; rfl)
      | (apply VVal.lenF; rfl; rfl)
      | (apply VVal.fieldB; rfl; rfl; rfl)
      | (apply VVal.alloc; rfl)
      | (apply VVal.storeB; rfl; rfl; rfl; trivial; rfl; rfl; exact lt_dec rfl; exact le_dec rfl)
      | (apply VVal.indexVN; rfl; rfl; rfl; rfl; omega)
      | (apply VVal.shlOneU; rfl; rfl; omega)
      | (apply VWp.condSeq_dec; rfl)
      | (intro _; try (exfalso; omega)))
    all_goals try (exfalso; omega)
    refine QLoop.normal ⟨by omega, ?_, ?_⟩
    · try (rw [← e1])
      repeat (first | exact LCov.nil | refine LCov.same trivial rfl ?_ | refine LCov.same (lt_dec rfl) rfl ?_ | refine LCov.same ⟨trivial, lt_dec rfl, trivial⟩ rfl ?_ | refine LCov.same ⟨trivial, lt_dec rfl, lt_dec rfl, trivial⟩ rfl ?_ | refine LCov.same ⟨trivial, lt_dec rfl, lt_dec rfl, lt_dec rfl, trivial⟩ rfl ?_ | refine LCov.same ⟨trivial, trivial⟩ rfl ?_ | refine LCov.cons trivial rfl (.of_eq (lst_len (by simp <;> omega))) ?_)
    · rw [← e1]
      repeat (first | exact HCov.nil | (refine HCov.cons (lt_dec rfl) ?_ rfl ?_ ?_; (first | exact HB.under_of rfl | exact PVs.under_pure _ _ | (simp [HB.under, PVs.under, PV.under])); (first | exact HLe.refl _ | exact HLe.vec (FLes.refl _) (by simp))))
  · repeat' (first
      | (refine VWp.at 3 ?_; refine VWp.ghost (Ghost.freezeCell 3 0 rfl rfl rfl) ?_; first | apply VWp.rseq | apply VWp.rseqD)
      | apply VWp.rseq
      | apply VWp.region
      | apply VWp.exitSeq
      | apply QSeq.normal
      | (apply DoneI.ret; rfl)
      | (apply DoneI.normal; rfl)
      | apply QBlk.exit
      | apply QLoop.exit
      | apply VWp.ret
      | apply VOps.nil
      | apply VOps.one
      | (apply VVal.maskU ; rfl ; rfl ; omega)
      | (apply VVal.nilChk ; rfl ; rfl)
      | (apply VVal.assign; rfl)
      | (apply VVal.move; rfl)
      | (apply VVal.int; rfl; rfl; rfl)
      | (apply VVal.load; rfl; rfl)
      | (apply VVal.lenF; rfl; rfl)
      | (apply VVal.fieldB; rfl; rfl; rfl)
      | (apply VVal.storeB; rfl; rfl; rfl; trivial; rfl; rfl; exact lt_dec rfl; exact le_dec rfl)
      | (apply VVal.shlOneU; rfl; rfl; omega)
      | (apply VWp.condSeq_dec; rfl)
      | (intro _; try (exfalso; omega)))
    all_goals try (exfalso; omega)
    all_goals (refine Done.ret rfl (.refl _) ⟨trivial, trivial, trivial⟩ HCov.nil (Nat.zero_le _) (Nat.le_refl _) ⟨?_, rfl, rfl⟩)
    show PV.tup [.p (.agg [.lst 59 (cells (setK (fullF o) (List.replicate o.divs.length 0) o.divs.length)) (List.replicate o.divs.length (0 : Nat)).length, .int .u64 _, .int .u64 0]), .p (.int .i64 0)] = _
    rw [← setK_len (fullF o) (List.replicate o.divs.length 0) o.divs.length]
    rfl

/-! ## With -/
def withR (r : Rgs) (d s : Nat) : Rgs := ⟨r.stops.set d (gi r.stops d ||| 2 ^ s), r.cp, r.off⟩
set_option maxRecDepth 100000 in
set_option maxHeartbeats 2000000 in
theorem with_spec (o : Org) (ho : OrgT o) (r : Rgs) (hr : r.Ok) (he : regE o r = 0) (d s : Nat) (hd : d < o.divs.length) (hs : s < (gi o.divs d).stops.length) :
    VFun env 19 [.agg (Enc.enc o), .agg (Enc.enc r), .int .i64 (d : Int), .int .i64 (s : Int)] (.tup [.p (.agg (Enc.enc (withR r d s))), .p (.int .i64 0)]) := by
  have r2 := ho.divs
  have s3 := ho.stops d hd
  have hlen : r.stops.length = o.divs.length := Classical.byContradiction fun h => by rw [regE_len h] at he; cases he
  have hcl := clone64_spec r.stops (by omega) (by omega)
  have hcr := checkReg_spec o ho r hr
  rw [he] at hcr
  have b1 := hr.stops d (by omega)
  have p1 : 2 ^ s ≤ 8 := pow8 (by omega)
  refine VFun.enter (env_none (by decide)) Tryz.func19 rfl (by kernel_rfl) (by simp [Tryz.ntmps19]) ?_
  repeat' (first
    | (refine VWp.at 3 ?_; refine VWp.ghost (Ghost.freezeCell 5 0 rfl rfl rfl) ?_; first | apply VWp.rseq | apply VWp.rseqD)
    | apply VWp.assoc
    | apply VWp.rseq
    | apply VWp.rseqD
    | apply VWp.regionD
    | apply VWp.skipSeq
    | (apply DoneI.ret; rfl)
    | (apply DoneI.normal; rfl)
    | apply VWp.ret
    | apply VOps.nil
    | apply VOpsD.nil
    | apply VOps.one
    | (apply VOpsD.bar; decide +kernel)
    | apply VOpsD.quiet
    | (apply VOpsD.quietTake; rfl; rfl)
    | (apply VOpsD.guard; rfl; rfl)
    | (apply VVal.fn; rfl; rfl; exact hcr; intro _; rfl)
    | (apply VVal.fv; rfl; rfl; exact hcl)
    | (apply inl_CHG; rfl; rfl; rfl; exact le_dec rfl)
    | (apply inl_WTH; rfl; rfl; rfl; exact le_dec rfl)
    | (apply VVal.makeFunc ; rfl ; rfl)
    | (apply VVal.nilChk ; rfl ; rfl)
    | (apply VVal.indexN (l := o.divs) (i := d) ; rfl ; rfl ; rfl ; exact hd ; rfl)
    | (apply VVal.storeVL (y := gi r.stops d ||| 2 ^ s); rfl; rfl; rfl; trivial; (first | rfl | (refine congrArg (fun t => [PV.p (FV.int _ t)]) ?_; first | omega | (simp only [Int.natCast_add, Int.natCast_mul, Int.natCast_ediv, Int.natCast_emod] <;> omega))); rfl; rfl; decide; (first | omega | (simp only [List.length_set] <;> omega)))
    | (apply VVal.assign; rfl)
    | (apply VVal.move; rfl)
    | (apply VVal.orU; rfl; rfl; omega; omega)
    | (apply VVal.int; rfl; rfl; rfl)
    | (apply VVal.loadVL; rfl; rfl; omega; rfl)
    | (apply VVal.load; rfl; rfl)
    | (apply VVal.pick_false; rfl; rfl)
    | (apply VVal.lenF; rfl; rfl)
    | (apply VVal.fieldB; rfl; rfl; rfl)
    | (apply VVal.fieldF; rfl; rfl)
    | (apply VVal.box; rfl; trivial)
    | (apply VVal.alloc; rfl)
    | (apply VVal.storeB; rfl; rfl; rfl; trivial; rfl; rfl; exact lt_dec rfl; exact le_dec rfl)
    | (apply VVal.indexVN; rfl; rfl; rfl; rfl; omega)
    | (apply VVal.shlOneU; rfl; rfl; omega)
    | (apply VWp.condSeq_false; rfl)
    | (apply VWp.condSeq_dec; rfl)
    | (intro _; try (exfalso; omega)))
  all_goals try (exfalso; omega)
  all_goals try contradiction
  all_goals (refine Done.ret rfl (.refl _) ⟨trivial, trivial, trivial⟩ HCov.nil (Nat.zero_le _) (Nat.le_refl _) ⟨?_, rfl, rfl⟩)
  show PV.tup [.p (.agg [.lst 59 (cells (r.stops.set d (gi r.stops d ||| 2 ^ s))) r.stops.length, .int .u64 _, .int .u64 _]), .p (.int .i64 0)] = _
  have e : Enc.enc (withR r d s) = [.lst 59 (cells (r.stops.set d (gi r.stops d ||| 2 ^ s))) r.stops.length, .int .u64 (r.cp : Int), .int .u64 (r.off : Int)] := by
    show [FV.lst 59 (cells (r.stops.set d (gi r.stops d ||| 2 ^ s))) (r.stops.set d (gi r.stops d ||| 2 ^ s)).length, _, _] = _
    rw [List.length_set]
    rfl
  rw [e]
set_option maxRecDepth 100000 in
set_option maxHeartbeats 2000000 in
theorem withOut_spec (o : Org) (ho : OrgT o) (r : Rgs) (hr : r.Ok) (he : regE o r = 0) (d s : Int) (hd : ¬ (0 ≤ d ∧ d < o.divs.length ∧ 0 ≤ s ∧ s < (gi o.divs d.toNat).stops.length)) :
    VFun env 19 [.agg (Enc.enc o), .agg (Enc.enc r), .int .i64 d, .int .i64 s] (.tup [.p (.agg (Enc.enc (⟨[], 0, 0⟩ : Rgs))), .p (.int .i64 10)]) := by
  have r2 := ho.divs
  have hcr := checkReg_spec o ho r hr
  rw [he] at hcr
  refine VFun.enter (env_none (by decide)) Tryz.func19 rfl (by kernel_rfl) (by simp [Tryz.ntmps19]) ?_
  by_cases h1 : 0 ≤ d ∧ d < o.divs.length
  · obtain ⟨e, rfl⟩ : ∃ e : Nat, d = e := ⟨d.toNat, by omega⟩
    have he : e < o.divs.length := by omega
    have s3 := ho.stops e he
    rw [Int.toNat_natCast] at hd
    repeat' (first
      | apply VWp.assoc
      | apply VWp.rseq
      | apply VWp.rseqD
      | apply VWp.skipSeq
      | apply VWp.retSeq
      | apply VOps.nil
      | apply VOpsD.nil
      | apply VOps.one
      | (apply VOpsD.bar; decide +kernel)
      | (apply VOpsD.quietTake; rfl; rfl)
      | (apply VOpsD.drop; rfl; rfl; rfl)
      | (apply VOpsD.guard; rfl; rfl)
      | (apply VVal.fn; rfl; rfl; exact hcr; intro _; rfl)
      | (apply VVal.indexN (l := o.divs) (i := e) ; rfl ; rfl ; rfl ; exact he ; rfl)
      | (apply VVal.assign; rfl)
      | (apply VVal.move; rfl)
      | (apply VVal.int; rfl; rfl; rfl)
      | (apply VVal.load; rfl; rfl)
      | (apply VVal.pick_true; rfl; rfl)
      | (apply VVal.pick_false; rfl; rfl)
      | (apply VVal.lenF; rfl; rfl)
      | (apply VVal.fieldB; rfl; rfl; rfl)
      | (apply VVal.fieldF; rfl; rfl)
      | (apply VVal.box; rfl; trivial)
      | (apply VVal.alloc; rfl)
      | (apply VVal.storeB; rfl; rfl; rfl; trivial; rfl; rfl; exact lt_dec rfl; exact le_dec rfl)
      | (apply VVal.build; rfl; rfl; rfl; rfl; rfl)
      | (apply VWp.condSeq_true; rfl)
      | (apply VWp.condSeq_false; rfl)
      | (apply VWp.condSeq_dec; rfl)
      | (intro _; try (exfalso; omega)))
    all_goals first | (exfalso; omega) | contradiction | (refine Done.ret rfl (.tup (.cons (.p (.agg (.cons (.nil _) (.refl _)))) (.refl _))) ⟨trivial, trivial, trivial⟩ HCov.nil (Nat.zero_le _) (Nat.le_refl _) ⟨rfl, rfl, rfl⟩)
  · repeat' (first
      | apply VWp.assoc
      | apply VWp.rseq
      | apply VWp.rseqD
      | apply VWp.skipSeq
      | apply VWp.retSeq
      | apply VOps.nil
      | apply VOpsD.nil
      | apply VOps.one
      | (apply VOpsD.bar; decide +kernel)
      | (apply VOpsD.quietTake; rfl; rfl)
      | (apply VOpsD.drop; rfl; rfl; rfl)
      | (apply VOpsD.guard; rfl; rfl)
      | (apply VVal.fn; rfl; rfl; exact hcr; intro _; rfl)
      | (apply VVal.assign; rfl)
      | (apply VVal.move; rfl)
      | (apply VVal.int; rfl; rfl; rfl)
      | (apply VVal.load; rfl; rfl)
      | (apply VVal.pick_true; rfl; rfl)
      | (apply VVal.pick_false; rfl; rfl)
      | (apply VVal.lenF; rfl; rfl)
      | (apply VVal.fieldB; rfl; rfl; rfl)
      | (apply VVal.box; rfl; trivial)
      | (apply VVal.alloc; rfl)
      | (apply VVal.storeB; rfl; rfl; rfl; trivial; rfl; rfl; exact lt_dec rfl; exact le_dec rfl)
      | (apply VVal.build; rfl; rfl; rfl; rfl; rfl)
      | (apply VWp.condSeq_true; rfl)
      | (apply VWp.condSeq_false; rfl)
      | (intro _; try (exfalso; omega)))
    all_goals first | (exfalso; omega) | contradiction | (refine Done.ret rfl (.tup (.cons (.p (.agg (.cons (.nil _) (.refl _)))) (.refl _))) ⟨trivial, trivial, trivial⟩ HCov.nil (Nat.zero_le _) (Nat.le_refl _) ⟨rfl, rfl, rfl⟩)

/-! ## Union -/
def unionF (a b : Rgs) (k : Nat) : Nat := gi a.stops k ||| gi b.stops k
def unionR (a b : Rgs) : Rgs := ⟨setK (unionF a b) a.stops a.stops.length, a.cp ||| b.cp, a.off ||| b.off⟩
set_option maxRecDepth 100000 in
set_option maxHeartbeats 2000000 in
theorem union_spec (o : Org) (ho : OrgT o) (a b : Rgs) (ha : a.Ok) (hb : b.Ok) (ea : regE o a = 0) (eb : regE o b = 0) :
    VFun env 28 [.agg (Enc.enc o), .agg (Enc.enc a), .agg (Enc.enc b)] (.tup [.p (.agg (Enc.enc (unionR a b))), .p (.int .i64 0)]) := by
  have r2 := ho.divs
  have la : a.stops.length = o.divs.length := Classical.byContradiction fun h => by rw [regE_len h] at ea; cases ea
  have lb : b.stops.length = o.divs.length := Classical.byContradiction fun h => by rw [regE_len h] at eb; cases eb
  have hcl := clone64_spec a.stops (by omega) (by omega)
  have hca := checkReg_spec o ho a ha
  have hcb := checkReg_spec o ho b hb
  rw [ea] at hca
  rw [eb] at hcb
  have a1 := ha.cp
  have a2 := ha.off
  have b1 := hb.cp
  have b2 := hb.off
  refine VFun.enter (env_none (by decide)) Tryz.func28 rfl (by kernel_rfl) (by simp [Tryz.ntmps28]) ?_
  repeat' (first
    | apply VWp.assoc
    | apply VWp.rseq
    | apply VWp.skipSeq
    | apply VWp.blockSeq
    | apply VOps.nil
    | apply VOps.one
    | (apply VVal.fn; rfl; rfl; exact hca; intro _; rfl)
    | (apply VVal.fn; rfl; rfl; exact hcb; intro _; rfl)
    | (apply VVal.fv; rfl; rfl; exact hcl)
    | (apply inl_CHG; rfl; rfl; rfl; exact le_dec rfl)
    | (apply inl_UNI; rfl; rfl; rfl; exact le_dec rfl)
    | (apply VVal.makeFunc ; rfl ; rfl)
    | (apply VVal.nilChk ; rfl ; rfl)
    | (apply VVal.assign; rfl)
    | (apply VVal.move; rfl)
    | (apply VVal.int; rfl; rfl; rfl)
    | (apply VVal.load; rfl; rfl)
    | (apply VVal.lenV; rfl; rfl; rfl)
    | (apply VVal.fieldB; rfl; rfl; rfl)
    | (apply VVal.box; rfl; trivial)
    | (apply VVal.alloc; rfl)
    | (apply VVal.storeB; rfl; rfl; rfl; trivial; rfl; rfl; exact lt_dec rfl; exact le_dec rfl)
    | (apply VWp.condSeq_false; rfl))
  all_goals try (exfalso; omega)
  all_goals try contradiction
  apply VWp.loopR (a.stops.length) [(0, _), (1, _), (8, _)] [(0, _), (1, _), (2, _), (3, _), (4, _), (5, _)] (fun k r => (9, .p (.int .i64 (k : Int))) :: r) (fun k r => (6, .vec 59 (cells (setK (unionF a b) a.stops k)) a.stops.length false) :: r) 7
  · omega
  · omega
  · repeat (first | exact LCov.nil | (refine LCov.eq rfl ?_ ?_; (first | exact PV.under_of rfl | (simp [PV.under, PVs.under]; done))) | refine LCov.cons trivial rfl (.of_eq (lst_len (by simp <;> omega))) ?_)
  · repeat (first | exact HCov.nil | (refine HCov.eq rfl (lt_dec rfl) ?_ ?_; (first | exact HB.under_of rfl | exact PVs.under_pure _ _ | (simp [HB.under, PVs.under, PV.under]; done))) | (refine HCov.cons (lt_dec rfl) ?_ rfl ?_ ?_; (first | exact trivial | exact PVs.under_pure _ _ | (simp [HB.under, PVs.under, PV.under])); (first | exact HLe.refl _ | exact HLe.vec (FLes.refl _) (by simp))))
  · intro k hk
    have hk2 := setK_len (unionF a b) a.stops k
    have hg : gi (setK (unionF a b) a.stops k) k = gi a.stops k := by rw [setK_gi, if_neg (by omega)]
    have g1 : gi (setK (unionF a b) a.stops k) k < 18446744073709551616 := by rw [hg]; exact ha.stops k hk
    have g2 := hb.stops k (by omega)
    have e1 : (setK (unionF a b) a.stops k).set k (gi (setK (unionF a b) a.stops k) k ||| gi b.stops k) = setK (unionF a b) a.stops (k + 1) := by rw [hg]; rfl
    repeat' (first
      | apply VWp.rseq
      | apply VWp.region
      | apply VWp.regionD
      | apply VWp.skipSeq
      | apply VWp.blockSeq
      | apply QSeq.normal
      | apply QBlk.normal
      | apply VOps.nil
      | apply VOpsD.nil
      | apply VOps.one
      | (apply VOpsD.bar; decide +kernel)
      | apply VOpsD.quiet
      | (apply VVal.nilChk ; rfl ; rfl)
      | (apply VVal.storeVL (y := gi (setK (unionF a b) a.stops k) k ||| gi b.stops k); rfl; rfl; rfl; trivial; (first | rfl | (refine congrArg (fun t => [PV.p (FV.int _ t)]) ?_; first | omega | (simp only [Int.natCast_add, Int.natCast_mul, Int.natCast_ediv, Int.natCast_emod] <;> omega))); rfl; rfl; decide; (first | omega | (simp only [List.length_set] <;> omega)))
      | (apply VVal.assign; rfl)
      | (apply VVal.move; rfl)
      | (apply VVal.add64; rfl; rfl; omega)
      | (apply VVal.orU; rfl; rfl; omega; omega)
      | (apply VVal.int; rfl; rfl; rfl)
      | (apply VVal.indexN; rfl; rfl; rfl; omega; rfl)
      | (apply VVal.loadVL; rfl; rfl; omega; rfl)
      | (apply VVal.load; rfl; rfl)
      | (apply VVal.fieldB; rfl; rfl; rfl)
      | (apply VVal.indexVN; rfl; rfl; rfl; rfl; omega)
      | (apply VWp.condSeq_dec; rfl)
      | (intro _; try (exfalso; omega)))
    all_goals try (exfalso; omega)
    refine QLoop.normal ⟨by omega, ?_, ?_⟩
    · try (rw [← e1])
      repeat (first | exact LCov.nil | refine LCov.same trivial rfl ?_ | refine LCov.same (lt_dec rfl) rfl ?_ | refine LCov.same ⟨trivial, lt_dec rfl, trivial⟩ rfl ?_ | refine LCov.same ⟨trivial, lt_dec rfl, lt_dec rfl, trivial⟩ rfl ?_ | refine LCov.same ⟨trivial, lt_dec rfl, lt_dec rfl, lt_dec rfl, trivial⟩ rfl ?_ | refine LCov.same ⟨trivial, trivial⟩ rfl ?_ | refine LCov.cons trivial rfl (.of_eq (lst_len (by simp <;> omega))) ?_)
    · rw [← e1]
      repeat (first | exact HCov.nil | (refine HCov.cons (lt_dec rfl) ?_ rfl ?_ ?_; (first | exact HB.under_of rfl | exact PVs.under_pure _ _ | (simp [HB.under, PVs.under, PV.under])); (first | exact HLe.refl _ | exact HLe.vec (FLes.refl _) (by simp))))
  · repeat' (first
      | (refine VWp.at 3 ?_; refine VWp.ghost (Ghost.freezeCell 4 0 rfl rfl rfl) ?_; first | apply VWp.rseq | apply VWp.rseqD)
      | apply VWp.rseq
      | apply VWp.rseqD
      | apply VWp.regionD
      | apply VWp.exitSeq
      | apply QSeq.normal
      | (apply DoneI.ret; rfl)
      | (apply DoneI.normal; rfl)
      | apply QBlk.exit
      | apply QLoop.exit
      | apply VWp.ret
      | apply VOps.nil
      | apply VOpsD.nil
      | apply VOps.one
      | (apply VOpsD.bar; decide +kernel)
      | apply VOpsD.quiet
      | (apply VVal.nilChk ; rfl ; rfl)
      | (apply VVal.assign; rfl)
      | (apply VVal.move; rfl)
      | (apply VVal.orU; rfl; rfl; omega; omega)
      | (apply VVal.int; rfl; rfl; rfl)
      | (apply VVal.load; rfl; rfl)
      | (apply VVal.fieldB; rfl; rfl; rfl)
      | (apply VVal.storeB; rfl; rfl; rfl; trivial; rfl; rfl; exact lt_dec rfl; exact le_dec rfl)
      | (apply VWp.condSeq_dec; rfl)
      | (intro _; try (exfalso; omega)))
    all_goals try (exfalso; omega)
    all_goals (refine Done.ret rfl (.refl _) ⟨trivial, trivial, trivial⟩ HCov.nil (Nat.zero_le _) (Nat.le_refl _) ⟨?_, rfl, rfl⟩)
    have e : Enc.enc (unionR a b) = [.lst 59 (cells (setK (unionF a b) a.stops a.stops.length)) a.stops.length, .int .u64 ((a.cp ||| b.cp : Nat) : Int), .int .u64 ((a.off ||| b.off : Nat) : Int)] := by
      show [FV.lst 59 (cells (setK (unionF a b) a.stops a.stops.length)) (setK (unionF a b) a.stops a.stops.length).length, _, _] = _
      rw [setK_len]
      rfl
    rw [e]
    rfl
set_option maxRecDepth 100000 in
set_option maxHeartbeats 2000000 in
theorem unionBad_spec (o : Org) (ho : OrgT o) (a b : Rgs) (ha : a.Ok) (hb : b.Ok) (w : Int) (hw : w ≠ 0) (he : regE o a = w ∨ regE o a = 0 ∧ regE o b = w) :
    VFun env 28 [.agg (Enc.enc o), .agg (Enc.enc a), .agg (Enc.enc b)] (.tup [.p (.agg (Enc.enc (⟨[], 0, 0⟩ : Rgs))), .p (.int .i64 w)]) := by
  have hca := checkReg_spec o ho a ha
  have hcb := checkReg_spec o ho b hb
  rcases he with h1 | ⟨h1, h2⟩
  · rw [h1] at hca
    refine VFun.enter (env_none (by decide)) Tryz.func28 rfl (by kernel_rfl) (by simp [Tryz.ntmps28]) ?_
    repeat' (first
      | apply VWp.assoc
      | apply VWp.rseq
      | apply VWp.retSeq
      | apply VOps.nil
      | apply VOps.one
      | (apply VVal.fn; rfl; rfl; exact hca; intro _; rfl)
      | (apply VVal.assign; rfl)
      | (apply VVal.move; rfl)
      | (apply VVal.int; rfl; rfl; rfl)
      | (apply VVal.load; rfl; rfl)
      | (apply VVal.box; rfl; trivial)
      | (apply VVal.alloc; rfl)
      | (apply VVal.storeB; rfl; rfl; rfl; trivial; rfl; rfl; exact lt_dec rfl; exact le_dec rfl)
      | (apply VVal.build; rfl; rfl; rfl; rfl; rfl)
      | (apply VWp.condSeq_dec; rfl)
      | (intro _; try (exfalso; omega)))
    all_goals first | (exfalso; omega) | contradiction | (refine Done.ret rfl (.tup (.cons (.p (.agg (.cons (.nil _) (.refl _)))) (.refl _))) ⟨trivial, trivial, trivial⟩ HCov.nil (Nat.zero_le _) (Nat.le_refl _) ⟨rfl, rfl, rfl⟩)
  · rw [h1] at hca
    rw [h2] at hcb
    refine VFun.enter (env_none (by decide)) Tryz.func28 rfl (by kernel_rfl) (by simp [Tryz.ntmps28]) ?_
    repeat' (first
      | apply VWp.assoc
      | apply VWp.rseq
      | apply VWp.skipSeq
      | apply VWp.retSeq
      | apply VOps.nil
      | apply VOps.one
      | (apply VVal.fn; rfl; rfl; exact hca; intro _; rfl)
      | (apply VVal.fn; rfl; rfl; exact hcb; intro _; rfl)
      | (apply VVal.assign; rfl)
      | (apply VVal.move; rfl)
      | (apply VVal.int; rfl; rfl; rfl)
      | (apply VVal.load; rfl; rfl)
      | (apply VVal.box; rfl; trivial)
      | (apply VVal.alloc; rfl)
      | (apply VVal.storeB; rfl; rfl; rfl; trivial; rfl; rfl; exact lt_dec rfl; exact le_dec rfl)
      | (apply VVal.build; rfl; rfl; rfl; rfl; rfl)
      | (apply VWp.condSeq_false; rfl)
      | (apply VWp.condSeq_dec; rfl)
      | (intro _; try (exfalso; omega)))
    all_goals first | (exfalso; omega) | contradiction | (refine Done.ret rfl (.tup (.cons (.p (.agg (.cons (.nil _) (.refl _)))) (.refl _))) ⟨trivial, trivial, trivial⟩ HCov.nil (Nat.zero_le _) (Nat.le_refl _) ⟨rfl, rfl, rfl⟩)
end Go.Proofs.YtcnlhgmkelkikaaGreatDoor
