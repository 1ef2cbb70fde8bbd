/-
  The law CoveringPackings returns true for all data of its parameters' types. Conditions: in each statement.
-/
import Derived.Test.YtmfnchgkffhpfaaDoorCovG
namespace Go.Proofs.YtmfnchgkffhpfaaDoor
open Go Go.Am Go.Vm
attribute [local irreducible] VVal VOps VOpsD VWp VCalls VFun VFunV QSeq QBlk QLoop Vm.Done DoneV

theorem knownF : VFun env 10 [] (.p (.bool true)) := known_fun (by simp)

set_option maxRecDepth 100000 in
set_option maxHeartbeats 1000000 in
theorem packings_spec (e : TypeId) (x : CPlan) (ws : List Int) (hn : x.n < 256) (h : ∀ i, i < x.sets.length → (gi x.sets i).els < 256 ∧ (gi x.sets i).cost < 256) :
    VFun env 3 [.agg (Enc.enc x), .lst e (cells ws) ws.length] (.p (.bool true)) := by
  by_cases hbig : x.sets.length > 7 ∨ ws.length > 8
  · refine VFun.enter (env_none (by decide)) Tryd.func3 rfl (by kernel_rfl) (by simp [Tryd.ntmps3]) ?_
    repeat' (first
      | apply VWp.assoc
      | apply VWp.rseq
      | apply VWp.rseqD
      | apply VWp.region
      | apply VWp.regionD
      | apply VWp.skipSeq
      | apply VWp.retSeq
      | apply VWp.exitSeq
      | apply VWp.blockSeq
      | apply QSeq.normal
      | apply QSeq.ret
      | apply QSeq.exit
      | apply QBlk.normal
      | apply QBlk.ret
      | apply QBlk.exit
      | (apply QBlk.out; decide)
      | apply QLoop.ret
      | apply QLoop.exit
      | apply VWp.ret
      | apply VWp.skip
      | apply VWp.exit
      | apply VWp.blockQ
      | apply VOps.nil
      | apply VOpsD.nil
      | apply VOps.one
      | (apply VOpsD.bar; decide +kernel)
      | apply VOpsD.quiet
      | (apply VOps.take; rfl; rfl)
      | (apply VOpsD.quietTake; rfl; rfl)
      | (apply VOps.drop; rfl; rfl; rfl)
      | (apply VOpsD.drop; rfl; rfl; rfl)
      | (apply VOps.guard; rfl; rfl)
      | (apply VOpsD.guard; rfl; rfl)
      | (apply VOps.dropU; rfl; rfl)
      | (apply VOpsD.dropU; rfl; rfl)
      | (apply VOps.guardB; rfl; rfl)
      | (apply VOpsD.guardB; rfl; rfl)
      | (apply VVal.fn; rfl; rfl; exact knownF; intro _; rfl)
      | (apply VVal.assign; rfl)
      | (apply VVal.move; rfl)
      | (apply VVal.add64; rfl; rfl; omega)
      | (apply VVal.sub64; rfl; rfl; omega)
      | (apply VVal.and1; rfl; rfl; omega)
      | (apply VVal.and1U; rfl; rfl; omega)
      | (apply VVal.and1B; rfl; rfl; omega)
      | (apply VVal.andU; rfl; rfl; omega; omega)
      | (apply VVal.orU; rfl; rfl; omega; omega)
      | (apply VVal.andNotU; rfl; rfl; omega; omega)
      | (apply VVal.remI; rfl; rfl; omega; omega)
      | (apply VVal.quoI; rfl; rfl; omega; omega)
      | (apply VVal.int; rfl; rfl; rfl)
      | (apply VVal.indexN; rfl; rfl; rfl; omega; rfl)
      | (apply VVal.indexP; rfl; rfl; rfl; omega; omega; rfl)
      | (apply VVal.indexE; rfl; rfl; rfl; omega; omega; rfl)
      | (apply VVal.load; rfl; rfl)
      | (apply VVal.pick_true; rfl; rfl)
      | (apply VVal.pick_false; rfl; rfl)
      | (apply VVal.lenF; rfl; rfl)
      | (apply VVal.lenNil; rfl; rfl)
      | (apply VVal.lenV; rfl; rfl; rfl)
      | (apply VVal.fieldB; rfl; rfl; rfl)
      | (apply VVal.fieldF; rfl; rfl)
      | (apply VVal.box; rfl; trivial)
      | (apply VVal.alloc; rfl)
      | (apply VVal.storeB; rfl; rfl; rfl; trivial; rfl; rfl; exact lt_dec rfl; exact le_dec rfl)
      | (apply VVal.build; rfl; rfl; rfl; rfl; rfl)
      | (apply VVal.buildSlice; rfl; rfl; rfl; decide; rfl; rfl; rfl)
      | (apply VVal.not; rfl)
      | (apply VVal.extract; rfl; rfl)
      | (apply VVal.convI; rfl; rfl; rfl; omega)
      | (apply VVal.convInt; rfl; rfl; rfl)
      | (apply VVal.append1; rfl; rfl; rfl; rfl; rfl; rfl; rfl; rfl; (intro _ h; cases h); rfl; rfl; rfl; decide; decide; (first | omega | (simp only [List.length_take, List.length_drop, List.length_append, List.length_singleton, List.length_cons, List.length_nil] <;> omega)))
      | (apply VVal.appendL0; rfl; rfl; rfl; (first | rfl | omega | (simp only [List.length_take, List.length_drop, List.length_append, List.length_singleton, List.length_cons, List.length_nil] <;> omega)); rfl; rfl; (intro _ h; cases h); rfl; rfl; rfl; decide; decide; (first | omega | (simp only [List.length_take, List.length_drop, List.length_append, List.length_singleton, List.length_cons, List.length_nil] <;> omega)))
      | (apply VVal.appendL; rfl; rfl; rfl; (first | rfl | omega | (simp only [List.length_take, List.length_drop, List.length_append, List.length_singleton, List.length_cons, List.length_nil])); (first | rfl | omega | (simp only [List.length_take, List.length_drop, List.length_append, List.length_singleton, List.length_cons, List.length_nil] <;> omega)); rfl; rfl; (intro _ h; cases h); rfl; rfl; rfl; decide; decide; (first | omega | (simp only [List.length_take, List.length_drop, List.length_append, List.length_singleton, List.length_cons, List.length_nil] <;> omega)))
      | (apply VVal.shlOne; rfl; rfl; omega)
      | (apply VVal.shlOneU; rfl; rfl; omega)
      | (apply VVal.shrN; rfl; rfl; (simp only [IntKind.bits]; omega))
      | (apply VVal.sliceTo; rfl; rfl; rfl; rfl; rfl; rfl; omega)
      | (apply VVal.sliceFrom; rfl; rfl; rfl; rfl; rfl; rfl; omega)
      | (apply VVal.shr; rfl; rfl; omega)
      | (apply VVal.shl; rfl; rfl; omega)
      | (apply VWp.condSeq_true; rfl)
      | (apply VWp.condSeq_false; rfl)
      | (apply VWp.condSeq_dec; rfl)
      | (apply VWp.condSeq; rfl)
      | (apply VWp.cond_true; rfl)
      | (apply VWp.cond_false; rfl)
      | (apply VWp.cond_dec; rfl)
      | (apply VWp.cond; rfl)
      | (intro _; try (exfalso; omega)))
    all_goals (refine Done.ret rfl (.refl _) (by first | exact trivial | exact ⟨trivial, trivial, trivial⟩ | exact ⟨trivial, trivial, trivial, trivial⟩) HCov.nil (Nat.zero_le _) (Nat.le_refl _) ⟨?_, rfl, rfl⟩; rfl)
  · have hset := @makeM_set x
    have hsl := setsM_le x
    have hps : (makeM x).sets = setsM x 7 := rfl
    have hpn : (makeM x).n = (x.n : Int) % 8 := rfl
    have hok := makeM_ok x
    have hmk := make_spec x (by omega) hn h
    generalize hp : makeM x = p at *
    have hL : p.sets.length ≤ 7 := by rw [hps]; exact hsl
    have hpk := packing_spec e p ws (by omega) (by omega) hok (fun i hi => by have := (hset hi).1; omega) (fun i j hi hj => (hset hi).2.1 j hj)
    have hst := sets_spec p (by omega)
    have hnn : p.n = ((x.n % 8 : Nat) : Int) := by omega
    have hall := rall_spec 72 (x.n % 8) p.sets (by omega) (by omega) (fun i hi => by have := (hset hi).2.2; omega) (fun i hi => by have := (hset hi).1; omega)
    rw [← hnn] at hall
    have hBm := allK_mem (x.n % 8) p.sets (2 ^ p.sets.length)
    generalize allK (x.n % 8) p.sets (2 ^ p.sets.length) = B at *
    generalize hW : packM p ws = W at *
    obtain ⟨w1, w2⟩ := W
    simp only at hpk
    refine VFun.enter (env_none (by decide)) Tryd.func3 rfl (by kernel_rfl) (by simp [Tryd.ntmps3]) ?_
    repeat' (first
      | apply VWp.assoc
      | apply VWp.rseq
      | apply VWp.rseqD
      | apply VWp.region
      | apply VWp.regionD
      | apply VWp.skipSeq
      | apply VWp.retSeq
      | apply VWp.exitSeq
      | apply VWp.blockSeq
      | apply QSeq.normal
      | apply QSeq.ret
      | apply QSeq.exit
      | apply QBlk.normal
      | apply QBlk.ret
      | apply QBlk.exit
      | (apply QBlk.out; decide)
      | apply QLoop.ret
      | apply QLoop.exit
      | apply VWp.ret
      | apply VWp.skip
      | apply VWp.exit
      | apply VWp.blockQ
      | apply VOps.nil
      | apply VOpsD.nil
      | apply VOps.one
      | (apply VOpsD.bar; decide +kernel)
      | apply VOpsD.quiet
      | (apply VOps.take; rfl; rfl)
      | (apply VOpsD.quietTake; rfl; rfl)
      | (apply VOps.drop; rfl; rfl; rfl)
      | (apply VOpsD.drop; rfl; rfl; rfl)
      | (apply VOps.guard; rfl; rfl)
      | (apply VOpsD.guard; rfl; rfl)
      | (apply VOps.dropU; rfl; rfl)
      | (apply VOpsD.dropU; rfl; rfl)
      | (apply VOps.guardB; rfl; rfl)
      | (apply VOpsD.guardB; rfl; rfl)
      | (apply VVal.fn; rfl; rfl; exact knownF; intro _; rfl)
      | (apply VVal.fn; rfl; rfl; exact hmk; intro _; rfl)
      | (apply VVal.fn; rfl; rfl; exact hpk; intro _; rfl)
      | (apply VVal.assign; rfl)
      | (apply VVal.move; rfl)
      | (apply VVal.add64; rfl; rfl; omega)
      | (apply VVal.sub64; rfl; rfl; omega)
      | (apply VVal.and1; rfl; rfl; omega)
      | (apply VVal.and1U; rfl; rfl; omega)
      | (apply VVal.and1B; rfl; rfl; omega)
      | (apply VVal.andU; rfl; rfl; omega; omega)
      | (apply VVal.orU; rfl; rfl; omega; omega)
      | (apply VVal.andNotU; rfl; rfl; omega; omega)
      | (apply VVal.remI; rfl; rfl; omega; omega)
      | (apply VVal.quoI; rfl; rfl; omega; omega)
      | (apply VVal.int; rfl; rfl; rfl)
      | (apply VVal.indexN; rfl; rfl; rfl; omega; rfl)
      | (apply VVal.indexP; rfl; rfl; rfl; omega; omega; rfl)
      | (apply VVal.indexE; rfl; rfl; rfl; omega; omega; rfl)
      | (apply VVal.load; rfl; rfl)
      | (apply VVal.pick_true; rfl; rfl)
      | (apply VVal.pick_false; rfl; rfl)
      | (apply VVal.lenF; rfl; rfl)
      | (apply VVal.lenNil; rfl; rfl)
      | (apply VVal.lenV; rfl; rfl; rfl)
      | (apply VVal.fieldB; rfl; rfl; rfl)
      | (apply VVal.fieldF; rfl; rfl)
      | (apply VVal.box; rfl; trivial)
      | (apply VVal.alloc; rfl)
      | (apply VVal.storeB; rfl; rfl; rfl; trivial; rfl; rfl; exact lt_dec rfl; exact le_dec rfl)
      | (apply VVal.build; rfl; rfl; rfl; rfl; rfl)
      | (apply VVal.buildSlice; rfl; rfl; rfl; decide; rfl; rfl; rfl)
      | (apply VVal.not; rfl)
      | (apply VVal.extract; rfl; rfl)
      | (apply VVal.convI; rfl; rfl; rfl; omega)
      | (apply VVal.convInt; rfl; rfl; rfl)
      | (apply VVal.append1; rfl; rfl; rfl; rfl; rfl; rfl; rfl; rfl; (intro _ h; cases h); rfl; rfl; rfl; decide; decide; (first | omega | (simp only [List.length_take, List.length_drop, List.length_append, List.length_singleton, List.length_cons, List.length_nil] <;> omega)))
      | (apply VVal.appendL0; rfl; rfl; rfl; (first | rfl | omega | (simp only [List.length_take, List.length_drop, List.length_append, List.length_singleton, List.length_cons, List.length_nil] <;> omega)); rfl; rfl; (intro _ h; cases h); rfl; rfl; rfl; decide; decide; (first | omega | (simp only [List.length_take, List.length_drop, List.length_append, List.length_singleton, List.length_cons, List.length_nil] <;> omega)))
      | (apply VVal.appendL; rfl; rfl; rfl; (first | rfl | omega | (simp only [List.length_take, List.length_drop, List.length_append, List.length_singleton, List.length_cons, List.length_nil])); (first | rfl | omega | (simp only [List.length_take, List.length_drop, List.length_append, List.length_singleton, List.length_cons, List.length_nil] <;> omega)); rfl; rfl; (intro _ h; cases h); rfl; rfl; rfl; decide; decide; (first | omega | (simp only [List.length_take, List.length_drop, List.length_append, List.length_singleton, List.length_cons, List.length_nil] <;> omega)))
      | (apply VVal.shlOne; rfl; rfl; omega)
      | (apply VVal.shlOneU; rfl; rfl; omega)
      | (apply VVal.shrN; rfl; rfl; (simp only [IntKind.bits]; omega))
      | (apply VVal.sliceTo; rfl; rfl; rfl; rfl; rfl; rfl; omega)
      | (apply VVal.sliceFrom; rfl; rfl; rfl; rfl; rfl; rfl; omega)
      | (apply VVal.shr; rfl; rfl; omega)
      | (apply VVal.shl; rfl; rfl; omega)
      | (apply VWp.condSeq_true; rfl)
      | (apply VWp.condSeq_false; rfl)
      | (apply VWp.condSeq_dec; rfl)
      | (apply VWp.condSeq; rfl)
      | (apply VWp.cond_true; rfl)
      | (apply VWp.cond_false; rfl)
      | (apply VWp.cond_dec; rfl)
      | (apply VWp.cond; rfl)
      | (intro _; try (exfalso; omega)))
    · -- another length
      rename_i hlen
      have hm : w1 = 0 ∧ w2 = 5 := by rw [packM, if_pos hlen] at hW; cases hW; exact ⟨rfl, rfl⟩
      obtain ⟨hm1, hm2⟩ := hm
      refine VWp.loopQ (fun _ : Unit => [(1, lst e ws), (6, .p (.int .i64 w1)), (7, .p (.int .i64 w2)), (8, .p (.int .i64 5)), (10, .p (.int .i64 0))]) (fun _ => []) 0 (fun _ => True) (fun _ => 0) () (by omega) trivial ⟨by omega, ?_, ?_⟩ ?_
      · repeat (first | exact LCov.nil | refine LCov.same trivial rfl ?_ | refine LCov.same (lt_dec rfl) rfl ?_ | refine LCov.cons trivial rfl (.of_eq (lst_len (by simp <;> omega))) ?_)
      · repeat (first | exact HCov.nil | (refine HCov.cons (lt_dec rfl) ?_ rfl ?_ ?_; (first | exact trivial | exact PVs.under_pure _ _ | (simp [HB.under, PVs.under, PV.under])); (first | exact HLe.refl _ | exact HLe.vec (FLes.refl _) (by simp))))
      intro _ _
      repeat' (first
        | apply VWp.assoc
        | apply VWp.rseq
        | apply VWp.rseqD
        | apply VWp.region
        | apply VWp.regionD
        | apply VWp.skipSeq
        | apply VWp.retSeq
        | apply VWp.exitSeq
        | apply VWp.blockSeq
        | apply QSeq.normal
        | apply QSeq.ret
        | apply QSeq.exit
        | apply QBlk.normal
        | apply QBlk.ret
        | apply QBlk.exit
        | (apply QBlk.out; decide)
        | apply QLoop.ret
        | apply QLoop.exit
        | apply VWp.ret
        | apply VWp.skip
        | apply VWp.exit
        | apply VWp.blockQ
        | apply VOps.nil
        | apply VOpsD.nil
        | apply VOps.one
        | (apply VOpsD.bar; decide +kernel)
        | apply VOpsD.quiet
        | (apply VOps.take; rfl; rfl)
        | (apply VOpsD.quietTake; rfl; rfl)
        | (apply VOps.drop; rfl; rfl; rfl)
        | (apply VOpsD.drop; rfl; rfl; rfl)
        | (apply VOps.guard; rfl; rfl)
        | (apply VOpsD.guard; rfl; rfl)
        | (apply VOps.dropU; rfl; rfl)
        | (apply VOpsD.dropU; rfl; rfl)
        | (apply VOps.guardB; rfl; rfl)
        | (apply VOpsD.guardB; rfl; rfl)
        | (apply VVal.assign; rfl)
        | (apply VVal.move; rfl)
        | (apply VVal.add64; rfl; rfl; omega)
        | (apply VVal.sub64; rfl; rfl; omega)
        | (apply VVal.and1; rfl; rfl; omega)
        | (apply VVal.and1U; rfl; rfl; omega)
        | (apply VVal.and1B; rfl; rfl; omega)
        | (apply VVal.andU; rfl; rfl; omega; omega)
        | (apply VVal.orU; rfl; rfl; omega; omega)
        | (apply VVal.andNotU; rfl; rfl; omega; omega)
        | (apply VVal.remI; rfl; rfl; omega; omega)
        | (apply VVal.quoI; rfl; rfl; omega; omega)
        | (apply VVal.int; rfl; rfl; rfl)
        | (apply VVal.indexN; rfl; rfl; rfl; omega; rfl)
        | (apply VVal.indexP; rfl; rfl; rfl; omega; omega; rfl)
        | (apply VVal.indexE; rfl; rfl; rfl; omega; omega; rfl)
        | (apply VVal.load; rfl; rfl)
        | (apply VVal.pick_true; rfl; rfl)
        | (apply VVal.pick_false; rfl; rfl)
        | (apply VVal.lenF; rfl; rfl)
        | (apply VVal.lenNil; rfl; rfl)
        | (apply VVal.lenV; rfl; rfl; rfl)
        | (apply VVal.fieldB; rfl; rfl; rfl)
        | (apply VVal.fieldF; rfl; rfl)
        | (apply VVal.box; rfl; trivial)
        | (apply VVal.alloc; rfl)
        | (apply VVal.storeB; rfl; rfl; rfl; trivial; rfl; rfl; exact lt_dec rfl; exact le_dec rfl)
        | (apply VVal.build; rfl; rfl; rfl; rfl; rfl)
        | (apply VVal.buildSlice; rfl; rfl; rfl; decide; rfl; rfl; rfl)
        | (apply VVal.not; rfl)
        | (apply VVal.extract; rfl; rfl)
        | (apply VVal.convI; rfl; rfl; rfl; omega)
        | (apply VVal.convInt; rfl; rfl; rfl)
        | (apply VVal.append1; rfl; rfl; rfl; rfl; rfl; rfl; rfl; rfl; (intro _ h; cases h); rfl; rfl; rfl; decide; decide; (first | omega | (simp only [List.length_take, List.length_drop, List.length_append, List.length_singleton, List.length_cons, List.length_nil] <;> omega)))
        | (apply VVal.appendL0; rfl; rfl; rfl; (first | rfl | omega | (simp only [List.length_take, List.length_drop, List.length_append, List.length_singleton, List.length_cons, List.length_nil] <;> omega)); rfl; rfl; (intro _ h; cases h); rfl; rfl; rfl; decide; decide; (first | omega | (simp only [List.length_take, List.length_drop, List.length_append, List.length_singleton, List.length_cons, List.length_nil] <;> omega)))
        | (apply VVal.appendL; rfl; rfl; rfl; (first | rfl | omega | (simp only [List.length_take, List.length_drop, List.length_append, List.length_singleton, List.length_cons, List.length_nil])); (first | rfl | omega | (simp only [List.length_take, List.length_drop, List.length_append, List.length_singleton, List.length_cons, List.length_nil] <;> omega)); rfl; rfl; (intro _ h; cases h); rfl; rfl; rfl; decide; decide; (first | omega | (simp only [List.length_take, List.length_drop, List.length_append, List.length_singleton, List.length_cons, List.length_nil] <;> omega)))
        | (apply VVal.shlOne; rfl; rfl; omega)
        | (apply VVal.shlOneU; rfl; rfl; omega)
        | (apply VVal.shrN; rfl; rfl; (simp only [IntKind.bits]; omega))
        | (apply VVal.sliceTo; rfl; rfl; rfl; rfl; rfl; rfl; omega)
        | (apply VVal.sliceFrom; rfl; rfl; rfl; rfl; rfl; rfl; omega)
        | (apply VVal.shr; rfl; rfl; omega)
        | (apply VVal.shl; rfl; rfl; omega)
        | (apply VWp.condSeq_true; rfl)
        | (apply VWp.condSeq_false; rfl)
        | (apply VWp.condSeq_dec; rfl)
        | (apply VWp.condSeq; rfl)
        | (apply VWp.cond_true; rfl)
        | (apply VWp.cond_false; rfl)
        | (apply VWp.cond_dec; rfl)
        | (apply VWp.cond; rfl)
        | (intro _; try (exfalso; omega)))
      all_goals (refine Done.ret rfl (.refl _) (by first | exact trivial | exact ⟨trivial, trivial, trivial⟩ | exact ⟨trivial, trivial, trivial, trivial⟩) HCov.nil (Nat.zero_le _) (Nat.le_refl _) ⟨?_, rfl, rfl⟩; first | rfl | exact PV.bool_eq (decide_eq_true hm2))
    · rename_i hlen
      have hlen' : (ws.length : Int) = p.n := Decidable.not_not.1 hlen
      refine VWp.loopQ (fun s : Nat × Bool => [(1, lst e ws), (5, .ref 1 0), (6, .p (.int .i64 w1)), (7, .p (.int .i64 w2)), (8, .p (.int .i64 (if s.2 then 3 else 0))), (9, .p (.int .i64 0)), (10, .p (.int .i64 s.1))]) (fun _ => [(1, .box 29 ((Enc.enc p).map .p))]) 2
        (fun s => s.1 ≤ ws.length ∧ (s.2 = false → ∀ i, i < s.1 → 0 ≤ gi ws i ∧ gi ws i ≤ 1000000) ∧ (s.2 = true → badW ws ws.length)) (fun s => ws.length - s.1) (0, false) (by omega) ⟨by omega, fun _ i hi => by omega, fun h => by cases h⟩ ⟨by omega, ?_, ?_⟩ ?_
      · repeat (first | exact LCov.nil | refine LCov.same trivial rfl ?_ | refine LCov.same (lt_dec rfl) rfl ?_ | refine LCov.cons trivial rfl (.of_eq (lst_len (by simp <;> omega))) ?_)
      · repeat (first | exact HCov.nil | (refine HCov.cons (lt_dec rfl) ?_ rfl ?_ ?_; (first | exact trivial | exact PVs.under_pure _ _ | (simp [HB.under, PVs.under, PV.under])); (first | exact HLe.refl _ | exact HLe.vec (FLes.refl _) (by simp))))
      rintro ⟨k, b⟩ ⟨hk, hb1, hb2⟩
      cases b with
      | true =>
        have hm : w1 = 0 ∧ w2 = 3 := by rw [packM, if_neg (by omega), if_pos (hb2 rfl)] at hW; cases hW; exact ⟨rfl, rfl⟩
        obtain ⟨hm1, hm2⟩ := hm
        simp only at hk
        simp only [if_true]
        repeat' (first
          | apply VWp.assoc
          | apply VWp.rseq
          | apply VWp.rseqD
          | apply VWp.region
          | apply VWp.regionD
          | apply VWp.skipSeq
          | apply VWp.retSeq
          | apply VWp.exitSeq
          | apply VWp.blockSeq
          | apply QSeq.normal
          | apply QSeq.ret
          | apply QSeq.exit
          | apply QBlk.normal
          | apply QBlk.ret
          | apply QBlk.exit
          | (apply QBlk.out; decide)
          | apply QLoop.ret
          | apply QLoop.exit
          | apply VWp.ret
          | apply VWp.skip
          | apply VWp.exit
          | apply VWp.blockQ
          | apply VOps.nil
          | apply VOpsD.nil
          | apply VOps.one
          | (apply VOpsD.bar; decide +kernel)
          | apply VOpsD.quiet
          | (apply VOps.take; rfl; rfl)
          | (apply VOpsD.quietTake; rfl; rfl)
          | (apply VOps.drop; rfl; rfl; rfl)
          | (apply VOpsD.drop; rfl; rfl; rfl)
          | (apply VOps.guard; rfl; rfl)
          | (apply VOpsD.guard; rfl; rfl)
          | (apply VOps.dropU; rfl; rfl)
          | (apply VOpsD.dropU; rfl; rfl)
          | (apply VOps.guardB; rfl; rfl)
          | (apply VOpsD.guardB; rfl; rfl)
          | (apply VVal.assign; rfl)
          | (apply VVal.move; rfl)
          | (apply VVal.add64; rfl; rfl; omega)
          | (apply VVal.sub64; rfl; rfl; omega)
          | (apply VVal.and1; rfl; rfl; omega)
          | (apply VVal.and1U; rfl; rfl; omega)
          | (apply VVal.and1B; rfl; rfl; omega)
          | (apply VVal.andU; rfl; rfl; omega; omega)
          | (apply VVal.orU; rfl; rfl; omega; omega)
          | (apply VVal.andNotU; rfl; rfl; omega; omega)
          | (apply VVal.remI; rfl; rfl; omega; omega)
          | (apply VVal.quoI; rfl; rfl; omega; omega)
          | (apply VVal.int; rfl; rfl; rfl)
          | (apply VVal.indexN; rfl; rfl; rfl; omega; rfl)
          | (apply VVal.indexP; rfl; rfl; rfl; omega; omega; rfl)
          | (apply VVal.indexE; rfl; rfl; rfl; omega; omega; rfl)
          | (apply VVal.load; rfl; rfl)
          | (apply VVal.pick_true; rfl; rfl)
          | (apply VVal.pick_false; rfl; rfl)
          | (apply VVal.lenF; rfl; rfl)
          | (apply VVal.lenNil; rfl; rfl)
          | (apply VVal.lenV; rfl; rfl; rfl)
          | (apply VVal.fieldB; rfl; rfl; rfl)
          | (apply VVal.fieldF; rfl; rfl)
          | (apply VVal.box; rfl; trivial)
          | (apply VVal.alloc; rfl)
          | (apply VVal.storeB; rfl; rfl; rfl; trivial; rfl; rfl; exact lt_dec rfl; exact le_dec rfl)
          | (apply VVal.build; rfl; rfl; rfl; rfl; rfl)
          | (apply VVal.buildSlice; rfl; rfl; rfl; decide; rfl; rfl; rfl)
          | (apply VVal.not; rfl)
          | (apply VVal.extract; rfl; rfl)
          | (apply VVal.convI; rfl; rfl; rfl; omega)
          | (apply VVal.convInt; rfl; rfl; rfl)
          | (apply VVal.append1; rfl; rfl; rfl; rfl; rfl; rfl; rfl; rfl; (intro _ h; cases h); rfl; rfl; rfl; decide; decide; (first | omega | (simp only [List.length_take, List.length_drop, List.length_append, List.length_singleton, List.length_cons, List.length_nil] <;> omega)))
          | (apply VVal.appendL0; rfl; rfl; rfl; (first | rfl | omega | (simp only [List.length_take, List.length_drop, List.length_append, List.length_singleton, List.length_cons, List.length_nil] <;> omega)); rfl; rfl; (intro _ h; cases h); rfl; rfl; rfl; decide; decide; (first | omega | (simp only [List.length_take, List.length_drop, List.length_append, List.length_singleton, List.length_cons, List.length_nil] <;> omega)))
          | (apply VVal.appendL; rfl; rfl; rfl; (first | rfl | omega | (simp only [List.length_take, List.length_drop, List.length_append, List.length_singleton, List.length_cons, List.length_nil])); (first | rfl | omega | (simp only [List.length_take, List.length_drop, List.length_append, List.length_singleton, List.length_cons, List.length_nil] <;> omega)); rfl; rfl; (intro _ h; cases h); rfl; rfl; rfl; decide; decide; (first | omega | (simp only [List.length_take, List.length_drop, List.length_append, List.length_singleton, List.length_cons, List.length_nil] <;> omega)))
          | (apply VVal.shlOne; rfl; rfl; omega)
          | (apply VVal.shlOneU; rfl; rfl; omega)
          | (apply VVal.shrN; rfl; rfl; (simp only [IntKind.bits]; omega))
          | (apply VVal.sliceTo; rfl; rfl; rfl; rfl; rfl; rfl; omega)
          | (apply VVal.sliceFrom; rfl; rfl; rfl; rfl; rfl; rfl; omega)
          | (apply VVal.shr; rfl; rfl; omega)
          | (apply VVal.shl; rfl; rfl; omega)
          | (apply VWp.condSeq_true; rfl)
          | (apply VWp.condSeq_false; rfl)
          | (apply VWp.condSeq_dec; rfl)
          | (apply VWp.condSeq; rfl)
          | (apply VWp.cond_true; rfl)
          | (apply VWp.cond_false; rfl)
          | (apply VWp.cond_dec; rfl)
          | (apply VWp.cond; rfl)
          | (intro _; try (exfalso; omega)))
        all_goals (refine Done.ret rfl (.refl _) (by first | exact trivial | exact ⟨trivial, trivial, trivial⟩ | exact ⟨trivial, trivial, trivial, trivial⟩) HCov.nil (Nat.zero_le _) (Nat.le_refl _) ⟨?_, rfl, rfl⟩; first | rfl | exact PV.bool_eq (decide_eq_true hm2))
      | false =>
        simp only at hk
        simp only [Bool.false_eq_true, if_false]
        have hb := hb1 rfl
        simp only at hb
        clear hb1 hb2
        repeat' (first
          | apply VWp.assoc
          | apply VWp.rseq
          | apply VWp.rseqD
          | apply VWp.region
          | apply VWp.regionD
          | apply VWp.skipSeq
          | apply VWp.retSeq
          | apply VWp.exitSeq
          | apply VWp.blockSeq
          | apply QSeq.normal
          | apply QSeq.ret
          | apply QSeq.exit
          | apply QBlk.normal
          | apply QBlk.ret
          | apply QBlk.exit
          | (apply QBlk.out; decide)
          | apply QLoop.ret
          | apply QLoop.exit
          | apply VWp.ret
          | apply VWp.skip
          | apply VWp.exit
          | apply VWp.blockQ
          | apply VOps.nil
          | apply VOpsD.nil
          | apply VOps.one
          | (apply VOpsD.bar; decide +kernel)
          | apply VOpsD.quiet
          | (apply VOps.take; rfl; rfl)
          | (apply VOpsD.quietTake; rfl; rfl)
          | (apply VOps.drop; rfl; rfl; rfl)
          | (apply VOpsD.drop; rfl; rfl; rfl)
          | (apply VOps.guard; rfl; rfl)
          | (apply VOpsD.guard; rfl; rfl)
          | (apply VOps.dropU; rfl; rfl)
          | (apply VOpsD.dropU; rfl; rfl)
          | (apply VOps.guardB; rfl; rfl)
          | (apply VOpsD.guardB; rfl; rfl)
          | (apply VVal.assign; rfl)
          | (apply VVal.move; rfl)
          | (apply VVal.add64; rfl; rfl; omega)
          | (apply VVal.sub64; rfl; rfl; omega)
          | (apply VVal.and1; rfl; rfl; omega)
          | (apply VVal.and1U; rfl; rfl; omega)
          | (apply VVal.and1B; rfl; rfl; omega)
          | (apply VVal.andU; rfl; rfl; omega; omega)
          | (apply VVal.orU; rfl; rfl; omega; omega)
          | (apply VVal.andNotU; rfl; rfl; omega; omega)
          | (apply VVal.remI; rfl; rfl; omega; omega)
          | (apply VVal.quoI; rfl; rfl; omega; omega)
          | (apply VVal.int; rfl; rfl; rfl)
          | (apply VVal.indexN; rfl; rfl; rfl; omega; rfl)
          | (apply VVal.indexP; rfl; rfl; rfl; omega; omega; rfl)
          | (apply VVal.indexE; rfl; rfl; rfl; omega; omega; rfl)
          | (apply VVal.load; rfl; rfl)
          | (apply VVal.pick_true; rfl; rfl)
          | (apply VVal.pick_false; rfl; rfl)
          | (apply VVal.lenF; rfl; rfl)
          | (apply VVal.lenNil; rfl; rfl)
          | (apply VVal.lenV; rfl; rfl; rfl)
          | (apply VVal.fieldB; rfl; rfl; rfl)
          | (apply VVal.fieldF; rfl; rfl)
          | (apply VVal.box; rfl; trivial)
          | (apply VVal.alloc; rfl)
          | (apply VVal.storeB; rfl; rfl; rfl; trivial; rfl; rfl; exact lt_dec rfl; exact le_dec rfl)
          | (apply VVal.build; rfl; rfl; rfl; rfl; rfl)
          | (apply VVal.buildSlice; rfl; rfl; rfl; decide; rfl; rfl; rfl)
          | (apply VVal.not; rfl)
          | (apply VVal.extract; rfl; rfl)
          | (apply VVal.convI; rfl; rfl; rfl; omega)
          | (apply VVal.convInt; rfl; rfl; rfl)
          | (apply VVal.append1; rfl; rfl; rfl; rfl; rfl; rfl; rfl; rfl; (intro _ h; cases h); rfl; rfl; rfl; decide; decide; (first | omega | (simp only [List.length_take, List.length_drop, List.length_append, List.length_singleton, List.length_cons, List.length_nil] <;> omega)))
          | (apply VVal.appendL0; rfl; rfl; rfl; (first | rfl | omega | (simp only [List.length_take, List.length_drop, List.length_append, List.length_singleton, List.length_cons, List.length_nil] <;> omega)); rfl; rfl; (intro _ h; cases h); rfl; rfl; rfl; decide; decide; (first | omega | (simp only [List.length_take, List.length_drop, List.length_append, List.length_singleton, List.length_cons, List.length_nil] <;> omega)))
          | (apply VVal.appendL; rfl; rfl; rfl; (first | rfl | omega | (simp only [List.length_take, List.length_drop, List.length_append, List.length_singleton, List.length_cons, List.length_nil])); (first | rfl | omega | (simp only [List.length_take, List.length_drop, List.length_append, List.length_singleton, List.length_cons, List.length_nil] <;> omega)); rfl; rfl; (intro _ h; cases h); rfl; rfl; rfl; decide; decide; (first | omega | (simp only [List.length_take, List.length_drop, List.length_append, List.length_singleton, List.length_cons, List.length_nil] <;> omega)))
          | (apply VVal.shlOne; rfl; rfl; omega)
          | (apply VVal.shlOneU; rfl; rfl; omega)
          | (apply VVal.shrN; rfl; rfl; (simp only [IntKind.bits]; omega))
          | (apply VVal.sliceTo; rfl; rfl; rfl; rfl; rfl; rfl; omega)
          | (apply VVal.sliceFrom; rfl; rfl; rfl; rfl; rfl; rfl; omega)
          | (apply VVal.shr; rfl; rfl; omega)
          | (apply VVal.shl; rfl; rfl; omega)
          | (apply VWp.condSeq_true; rfl)
          | (apply VWp.condSeq_false; rfl)
          | (apply VWp.condSeq_dec; rfl)
          | (apply VWp.condSeq; rfl)
          | (apply VWp.cond_true; rfl)
          | (apply VWp.cond_false; rfl)
          | (apply VWp.cond_dec; rfl)
          | (apply VWp.cond; rfl)
          | (intro _; try (exfalso; omega)))
        · refine QLoop.normal ⟨(k + 1, true), ⟨by simp only; omega, fun h => (by cases h), fun _ => ⟨k, by omega, by omega, by omega⟩⟩, by simp only; omega, ⟨by omega, ?_, ?_⟩⟩
          · repeat (first | exact LCov.nil | refine LCov.same trivial rfl ?_ | refine LCov.same (lt_dec rfl) rfl ?_ | refine LCov.cons trivial rfl (.of_eq (lst_len (by simp <;> omega))) ?_)
          · repeat (first | exact HCov.nil | (refine HCov.cons (lt_dec rfl) ?_ rfl ?_ ?_; (first | exact trivial | exact PVs.under_pure _ _ | (simp [HB.under, PVs.under, PV.under])); (first | exact HLe.refl _ | exact HLe.vec (FLes.refl _) (by simp))))
        · refine QLoop.normal ⟨(k + 1, true), ⟨by simp only; omega, fun h => (by cases h), fun _ => ⟨k, by omega, by omega, by omega⟩⟩, by simp only; omega, ⟨by omega, ?_, ?_⟩⟩
          · repeat (first | exact LCov.nil | refine LCov.same trivial rfl ?_ | refine LCov.same (lt_dec rfl) rfl ?_ | refine LCov.cons trivial rfl (.of_eq (lst_len (by simp <;> omega))) ?_)
          · repeat (first | exact HCov.nil | (refine HCov.cons (lt_dec rfl) ?_ rfl ?_ ?_; (first | exact trivial | exact PVs.under_pure _ _ | (simp [HB.under, PVs.under, PV.under])); (first | exact HLe.refl _ | exact HLe.vec (FLes.refl _) (by simp))))
        · refine QLoop.normal ⟨(k + 1, false), ⟨by simp only; omega, fun _ i hi => ?_, fun h => by cases h⟩, by simp only; omega, ⟨by omega, ?_, ?_⟩⟩
          · simp only at hi
            rcases Nat.lt_or_ge i k with h' | h'
            · exact hb i h'
            · rw [show i = k by omega]; omega
          · repeat (first | exact LCov.nil | refine LCov.same trivial rfl ?_ | refine LCov.same (lt_dec rfl) rfl ?_ | refine LCov.cons trivial rfl (.of_eq (lst_len (by simp <;> omega))) ?_)
          · repeat (first | exact HCov.nil | (refine HCov.cons (lt_dec rfl) ?_ rfl ?_ ?_; (first | exact trivial | exact PVs.under_pure _ _ | (simp [HB.under, PVs.under, PV.under])); (first | exact HLe.refl _ | exact HLe.vec (FLes.refl _) (by simp))))
        have hk' : k = ws.length := by omega
        subst hk'
        have hnb : ¬ badW ws ws.length := fun ⟨i, h1, h2, h3⟩ => by have := hb i h1; omega
        refine VWp.loopQ (fun k : Nat => [(1, lst e ws), (5, .ref 1 0), (6, .p (.int .i64 w1)), (7, .p (.int .i64 w2)), (9, .p (.int .i64 (sumK ws k))), (11, .p (.int .i64 k))]) (fun _ => [(1, .box 29 ((Enc.enc p).map .p))]) 2
          (fun k => k ≤ ws.length) (fun k => ws.length - k) 0 (by omega) (by omega) ⟨by omega, ?_, ?_⟩ ?_
        · repeat (first | exact LCov.nil | refine LCov.same trivial rfl ?_ | refine LCov.same (lt_dec rfl) rfl ?_ | refine LCov.cons trivial rfl (.of_eq (lst_len (by simp <;> omega))) ?_)
        · repeat (first | exact HCov.nil | (refine HCov.cons (lt_dec rfl) ?_ rfl ?_ ?_; (first | exact trivial | exact PVs.under_pure _ _ | (simp [HB.under, PVs.under, PV.under])); (first | exact HLe.refl _ | exact HLe.vec (FLes.refl _) (by simp))))
        intro k hk
        have hbd := sumK_bd hb k hk
        have hgk := hb k
        by_cases hlt : k < ws.length
        · have hgk' := hgk hlt
          repeat' (first
            | apply VWp.assoc
            | apply VWp.rseq
            | apply VWp.rseqD
            | apply VWp.region
            | apply VWp.regionD
            | apply VWp.skipSeq
            | apply VWp.retSeq
            | apply VWp.exitSeq
            | apply VWp.blockSeq
            | apply QSeq.normal
            | apply QSeq.ret
            | apply QSeq.exit
            | apply QBlk.normal
            | apply QBlk.ret
            | apply QBlk.exit
            | (apply QBlk.out; decide)
            | apply QLoop.ret
            | apply QLoop.exit
            | apply VWp.ret
            | apply VWp.skip
            | apply VWp.exit
            | apply VWp.blockQ
            | apply VOps.nil
            | apply VOpsD.nil
            | apply VOps.one
            | (apply VOpsD.bar; decide +kernel)
            | apply VOpsD.quiet
            | (apply VOps.take; rfl; rfl)
            | (apply VOpsD.quietTake; rfl; rfl)
            | (apply VOps.drop; rfl; rfl; rfl)
            | (apply VOpsD.drop; rfl; rfl; rfl)
            | (apply VOps.guard; rfl; rfl)
            | (apply VOpsD.guard; rfl; rfl)
            | (apply VOps.dropU; rfl; rfl)
            | (apply VOpsD.dropU; rfl; rfl)
            | (apply VOps.guardB; rfl; rfl)
            | (apply VOpsD.guardB; rfl; rfl)
            | (apply VVal.assign; rfl)
            | (apply VVal.move; rfl)
            | (apply VVal.add64; rfl; rfl; omega)
            | (apply VVal.sub64; rfl; rfl; omega)
            | (apply VVal.and1; rfl; rfl; omega)
            | (apply VVal.and1U; rfl; rfl; omega)
            | (apply VVal.and1B; rfl; rfl; omega)
            | (apply VVal.andU; rfl; rfl; omega; omega)
            | (apply VVal.orU; rfl; rfl; omega; omega)
            | (apply VVal.andNotU; rfl; rfl; omega; omega)
            | (apply VVal.remI; rfl; rfl; omega; omega)
            | (apply VVal.quoI; rfl; rfl; omega; omega)
            | (apply VVal.int; rfl; rfl; rfl)
            | (apply VVal.indexN; rfl; rfl; rfl; omega; rfl)
            | (apply VVal.indexP; rfl; rfl; rfl; omega; omega; rfl)
            | (apply VVal.indexE; rfl; rfl; rfl; omega; omega; rfl)
            | (apply VVal.load; rfl; rfl)
            | (apply VVal.pick_true; rfl; rfl)
            | (apply VVal.pick_false; rfl; rfl)
            | (apply VVal.lenF; rfl; rfl)
            | (apply VVal.lenNil; rfl; rfl)
            | (apply VVal.lenV; rfl; rfl; rfl)
            | (apply VVal.fieldB; rfl; rfl; rfl)
            | (apply VVal.fieldF; rfl; rfl)
            | (apply VVal.box; rfl; trivial)
            | (apply VVal.alloc; rfl)
            | (apply VVal.storeB; rfl; rfl; rfl; trivial; rfl; rfl; exact lt_dec rfl; exact le_dec rfl)
            | (apply VVal.build; rfl; rfl; rfl; rfl; rfl)
            | (apply VVal.buildSlice; rfl; rfl; rfl; decide; rfl; rfl; rfl)
            | (apply VVal.not; rfl)
            | (apply VVal.extract; rfl; rfl)
            | (apply VVal.convI; rfl; rfl; rfl; omega)
            | (apply VVal.convInt; rfl; rfl; rfl)
            | (apply VVal.append1; rfl; rfl; rfl; rfl; rfl; rfl; rfl; rfl; (intro _ h; cases h); rfl; rfl; rfl; decide; decide; (first | omega | (simp only [List.length_take, List.length_drop, List.length_append, List.length_singleton, List.length_cons, List.length_nil] <;> omega)))
            | (apply VVal.appendL0; rfl; rfl; rfl; (first | rfl | omega | (simp only [List.length_take, List.length_drop, List.length_append, List.length_singleton, List.length_cons, List.length_nil] <;> omega)); rfl; rfl; (intro _ h; cases h); rfl; rfl; rfl; decide; decide; (first | omega | (simp only [List.length_take, List.length_drop, List.length_append, List.length_singleton, List.length_cons, List.length_nil] <;> omega)))
            | (apply VVal.appendL; rfl; rfl; rfl; (first | rfl | omega | (simp only [List.length_take, List.length_drop, List.length_append, List.length_singleton, List.length_cons, List.length_nil])); (first | rfl | omega | (simp only [List.length_take, List.length_drop, List.length_append, List.length_singleton, List.length_cons, List.length_nil] <;> omega)); rfl; rfl; (intro _ h; cases h); rfl; rfl; rfl; decide; decide; (first | omega | (simp only [List.length_take, List.length_drop, List.length_append, List.length_singleton, List.length_cons, List.length_nil] <;> omega)))
            | (apply VVal.shlOne; rfl; rfl; omega)
            | (apply VVal.shlOneU; rfl; rfl; omega)
            | (apply VVal.shrN; rfl; rfl; (simp only [IntKind.bits]; omega))
            | (apply VVal.sliceTo; rfl; rfl; rfl; rfl; rfl; rfl; omega)
            | (apply VVal.sliceFrom; rfl; rfl; rfl; rfl; rfl; rfl; omega)
            | (apply VVal.shr; rfl; rfl; omega)
            | (apply VVal.shl; rfl; rfl; omega)
            | (apply VWp.condSeq_true; rfl)
            | (apply VWp.condSeq_false; rfl)
            | (apply VWp.condSeq_dec; rfl)
            | (apply VWp.condSeq; rfl)
            | (apply VWp.cond_true; rfl)
            | (apply VWp.cond_false; rfl)
            | (apply VWp.cond_dec; rfl)
            | (apply VWp.cond; rfl)
            | (intro _; try (exfalso; omega)))
          · refine QLoop.normal ⟨k + 1, by omega, by omega, ⟨by omega, ?_, ?_⟩⟩
            · repeat (first | exact LCov.nil | refine LCov.same trivial rfl ?_ | refine LCov.same (lt_dec rfl) rfl ?_ | refine LCov.cons trivial rfl (.of_eq (lst_len (by simp <;> omega))) ?_)
            · repeat (first | exact HCov.nil | (refine HCov.cons (lt_dec rfl) ?_ rfl ?_ ?_; (first | exact trivial | exact PVs.under_pure _ _ | (simp [HB.under, PVs.under, PV.under])); (first | exact HLe.refl _ | exact HLe.vec (FLes.refl _) (by simp))))
        have hk' : k = ws.length := by omega
        subst hk'
        repeat' (first
          | apply VWp.assoc
          | apply VWp.rseq
          | apply VWp.rseqD
          | apply VWp.region
          | apply VWp.regionD
          | apply VWp.skipSeq
          | apply VWp.retSeq
          | apply VWp.exitSeq
          | apply VWp.blockSeq
          | apply QSeq.normal
          | apply QSeq.ret
          | apply QSeq.exit
          | apply QBlk.normal
          | apply QBlk.ret
          | apply QBlk.exit
          | (apply QBlk.out; decide)
          | apply QLoop.ret
          | apply QLoop.exit
          | apply VWp.ret
          | apply VWp.skip
          | apply VWp.exit
          | apply VWp.blockQ
          | apply VOps.nil
          | apply VOpsD.nil
          | apply VOps.one
          | (apply VOpsD.bar; decide +kernel)
          | apply VOpsD.quiet
          | (apply VOps.take; rfl; rfl)
          | (apply VOpsD.quietTake; rfl; rfl)
          | (apply VOps.drop; rfl; rfl; rfl)
          | (apply VOpsD.drop; rfl; rfl; rfl)
          | (apply VOps.guard; rfl; rfl)
          | (apply VOpsD.guard; rfl; rfl)
          | (apply VOps.dropU; rfl; rfl)
          | (apply VOpsD.dropU; rfl; rfl)
          | (apply VOps.guardB; rfl; rfl)
          | (apply VOpsD.guardB; rfl; rfl)
          | (apply VVal.assign; rfl)
          | (apply VVal.move; rfl)
          | (apply VVal.add64; rfl; rfl; omega)
          | (apply VVal.sub64; rfl; rfl; omega)
          | (apply VVal.and1; rfl; rfl; omega)
          | (apply VVal.and1U; rfl; rfl; omega)
          | (apply VVal.and1B; rfl; rfl; omega)
          | (apply VVal.andU; rfl; rfl; omega; omega)
          | (apply VVal.orU; rfl; rfl; omega; omega)
          | (apply VVal.andNotU; rfl; rfl; omega; omega)
          | (apply VVal.remI; rfl; rfl; omega; omega)
          | (apply VVal.quoI; rfl; rfl; omega; omega)
          | (apply VVal.int; rfl; rfl; rfl)
          | (apply VVal.indexN; rfl; rfl; rfl; omega; rfl)
          | (apply VVal.indexP; rfl; rfl; rfl; omega; omega; rfl)
          | (apply VVal.indexE; rfl; rfl; rfl; omega; omega; rfl)
          | (apply VVal.load; rfl; rfl)
          | (apply VVal.pick_true; rfl; rfl)
          | (apply VVal.pick_false; rfl; rfl)
          | (apply VVal.lenF; rfl; rfl)
          | (apply VVal.lenNil; rfl; rfl)
          | (apply VVal.lenV; rfl; rfl; rfl)
          | (apply VVal.fieldB; rfl; rfl; rfl)
          | (apply VVal.fieldF; rfl; rfl)
          | (apply VVal.box; rfl; trivial)
          | (apply VVal.alloc; rfl)
          | (apply VVal.storeB; rfl; rfl; rfl; trivial; rfl; rfl; exact lt_dec rfl; exact le_dec rfl)
          | (apply VVal.build; rfl; rfl; rfl; rfl; rfl)
          | (apply VVal.buildSlice; rfl; rfl; rfl; decide; rfl; rfl; rfl)
          | (apply VVal.not; rfl)
          | (apply VVal.extract; rfl; rfl)
          | (apply VVal.convI; rfl; rfl; rfl; omega)
          | (apply VVal.convInt; rfl; rfl; rfl)
          | (apply VVal.append1; rfl; rfl; rfl; rfl; rfl; rfl; rfl; rfl; (intro _ h; cases h); rfl; rfl; rfl; decide; decide; (first | omega | (simp only [List.length_take, List.length_drop, List.length_append, List.length_singleton, List.length_cons, List.length_nil] <;> omega)))
          | (apply VVal.appendL0; rfl; rfl; rfl; (first | rfl | omega | (simp only [List.length_take, List.length_drop, List.length_append, List.length_singleton, List.length_cons, List.length_nil] <;> omega)); rfl; rfl; (intro _ h; cases h); rfl; rfl; rfl; decide; decide; (first | omega | (simp only [List.length_take, List.length_drop, List.length_append, List.length_singleton, List.length_cons, List.length_nil] <;> omega)))
          | (apply VVal.appendL; rfl; rfl; rfl; (first | rfl | omega | (simp only [List.length_take, List.length_drop, List.length_append, List.length_singleton, List.length_cons, List.length_nil])); (first | rfl | omega | (simp only [List.length_take, List.length_drop, List.length_append, List.length_singleton, List.length_cons, List.length_nil] <;> omega)); rfl; rfl; (intro _ h; cases h); rfl; rfl; rfl; decide; decide; (first | omega | (simp only [List.length_take, List.length_drop, List.length_append, List.length_singleton, List.length_cons, List.length_nil] <;> omega)))
          | (apply VVal.shlOne; rfl; rfl; omega)
          | (apply VVal.shlOneU; rfl; rfl; omega)
          | (apply VVal.shrN; rfl; rfl; (simp only [IntKind.bits]; omega))
          | (apply VVal.sliceTo; rfl; rfl; rfl; rfl; rfl; rfl; omega)
          | (apply VVal.sliceFrom; rfl; rfl; rfl; rfl; rfl; rfl; omega)
          | (apply VVal.shr; rfl; rfl; omega)
          | (apply VVal.shl; rfl; rfl; omega)
          | (apply VWp.condSeq_true; rfl)
          | (apply VWp.condSeq_false; rfl)
          | (apply VWp.condSeq_dec; rfl)
          | (apply VWp.condSeq; rfl)
          | (apply VWp.cond_true; rfl)
          | (apply VWp.cond_false; rfl)
          | (apply VWp.cond_dec; rfl)
          | (apply VWp.cond; rfl)
          | (intro _; try (exfalso; omega)))
        refine VWp.loopQ (fun i : Nat => [(1, lst e ws), (5, .ref 1 0), (6, .p (.int .i64 w1)), (7, .p (.int .i64 w2)), (9, .p (.int .i64 (sumK ws ws.length))), (89, lst 35 p.sets), (90, .p (.int .i64 p.sets.length)), (91, .p (.int .i64 i))]) (fun _ => [(1, .box 29 ((Enc.enc p).map .p))]) 2
          (fun i => i ≤ p.sets.length ∧ ∀ a, a < i → weighK (gi p.sets a) ws (gi p.sets a).els.length ≤ (gi p.sets a).cost) (fun i => p.sets.length - i) 0 (by omega) ⟨by omega, fun a ha => by omega⟩ ⟨by omega, ?_, ?_⟩ ?_
        · repeat (first | exact LCov.nil | refine LCov.same trivial rfl ?_ | refine LCov.same (lt_dec rfl) rfl ?_ | refine LCov.cons trivial rfl (.of_eq (lst_len (by simp <;> omega))) ?_)
        · repeat (first | exact HCov.nil | (refine HCov.cons (lt_dec rfl) ?_ rfl ?_ ?_; (first | exact trivial | exact PVs.under_pure _ _ | (simp [HB.under, PVs.under, PV.under])); (first | exact HLe.refl _ | exact HLe.vec (FLes.refl _) (by simp))))
        rintro i ⟨hi, hws⟩
        have hcc : ∀ i, i < p.sets.length → 0 ≤ (gi p.sets i).cost ∧ (gi p.sets i).cost ≤ 1000000 := fun i hi => by have := (hset hi).2.2; omega
        have hB0 : 0 < B.1.length → (gi B.1 0).length < 1000 := fun h0 => by
          obtain ⟨m, h1, _⟩ := hBm _ (gi_mem h0)
          rw [h1]
          have := chosenK_len m p.sets.length
          omega
        have hB1 : 0 < B.1.length → ∀ i, i < (gi B.1 0).length → 0 ≤ gi (gi B.1 0) i ∧ gi (gi B.1 0) i < p.sets.length := fun h0 i hi => by
          obtain ⟨m, h1, _⟩ := hBm _ (gi_mem h0)
          rw [h1] at hi ⊢
          exact chosenK_gi _ _ i hi
        by_cases hilt : i < p.sets.length
        · repeat' (first
            | apply VWp.assoc
            | apply VWp.rseq
            | apply VWp.rseqD
            | apply VWp.region
            | apply VWp.regionD
            | apply VWp.skipSeq
            | apply VWp.retSeq
            | apply VWp.exitSeq
            | apply VWp.blockSeq
            | apply QSeq.normal
            | apply QSeq.ret
            | apply QSeq.exit
            | apply QBlk.normal
            | apply QBlk.ret
            | apply QBlk.exit
            | (apply QBlk.out; decide)
            | apply QLoop.ret
            | apply QLoop.exit
            | apply VWp.ret
            | apply VWp.skip
            | apply VWp.exit
            | apply VWp.blockQ
            | apply VOps.nil
            | apply VOpsD.nil
            | apply VOps.one
            | (apply VOpsD.bar; decide +kernel)
            | apply VOpsD.quiet
            | (apply VOps.take; rfl; rfl)
            | (apply VOpsD.quietTake; rfl; rfl)
            | (apply VOps.drop; rfl; rfl; rfl)
            | (apply VOpsD.drop; rfl; rfl; rfl)
            | (apply VOps.guard; rfl; rfl)
            | (apply VOpsD.guard; rfl; rfl)
            | (apply VOps.dropU; rfl; rfl)
            | (apply VOpsD.dropU; rfl; rfl)
            | (apply VOps.guardB; rfl; rfl)
            | (apply VOpsD.guardB; rfl; rfl)
            | (apply VVal.assign; rfl)
            | (apply VVal.move; rfl)
            | (apply VVal.add64; rfl; rfl; omega)
            | (apply VVal.sub64; rfl; rfl; omega)
            | (apply VVal.and1; rfl; rfl; omega)
            | (apply VVal.and1U; rfl; rfl; omega)
            | (apply VVal.and1B; rfl; rfl; omega)
            | (apply VVal.andU; rfl; rfl; omega; omega)
            | (apply VVal.orU; rfl; rfl; omega; omega)
            | (apply VVal.andNotU; rfl; rfl; omega; omega)
            | (apply VVal.remI; rfl; rfl; omega; omega)
            | (apply VVal.quoI; rfl; rfl; omega; omega)
            | (apply VVal.int; rfl; rfl; rfl)
            | (apply VVal.indexN; rfl; rfl; rfl; omega; rfl)
            | (apply VVal.indexP; rfl; rfl; rfl; omega; omega; rfl)
            | (apply VVal.indexE; rfl; rfl; rfl; omega; omega; rfl)
            | (apply VVal.load; rfl; rfl)
            | (apply VVal.pick_true; rfl; rfl)
            | (apply VVal.pick_false; rfl; rfl)
            | (apply VVal.lenF; rfl; rfl)
            | (apply VVal.lenNil; rfl; rfl)
            | (apply VVal.lenV; rfl; rfl; rfl)
            | (apply VVal.fieldB; rfl; rfl; rfl)
            | (apply VVal.fieldF; rfl; rfl)
            | (apply VVal.box; rfl; trivial)
            | (apply VVal.alloc; rfl)
            | (apply VVal.storeB; rfl; rfl; rfl; trivial; rfl; rfl; exact lt_dec rfl; exact le_dec rfl)
            | (apply VVal.build; rfl; rfl; rfl; rfl; rfl)
            | (apply VVal.buildSlice; rfl; rfl; rfl; decide; rfl; rfl; rfl)
            | (apply VVal.not; rfl)
            | (apply VVal.extract; rfl; rfl)
            | (apply VVal.convI; rfl; rfl; rfl; omega)
            | (apply VVal.convInt; rfl; rfl; rfl)
            | (apply VVal.append1; rfl; rfl; rfl; rfl; rfl; rfl; rfl; rfl; (intro _ h; cases h); rfl; rfl; rfl; decide; decide; (first | omega | (simp only [List.length_take, List.length_drop, List.length_append, List.length_singleton, List.length_cons, List.length_nil] <;> omega)))
            | (apply VVal.appendL0; rfl; rfl; rfl; (first | rfl | omega | (simp only [List.length_take, List.length_drop, List.length_append, List.length_singleton, List.length_cons, List.length_nil] <;> omega)); rfl; rfl; (intro _ h; cases h); rfl; rfl; rfl; decide; decide; (first | omega | (simp only [List.length_take, List.length_drop, List.length_append, List.length_singleton, List.length_cons, List.length_nil] <;> omega)))
            | (apply VVal.appendL; rfl; rfl; rfl; (first | rfl | omega | (simp only [List.length_take, List.length_drop, List.length_append, List.length_singleton, List.length_cons, List.length_nil])); (first | rfl | omega | (simp only [List.length_take, List.length_drop, List.length_append, List.length_singleton, List.length_cons, List.length_nil] <;> omega)); rfl; rfl; (intro _ h; cases h); rfl; rfl; rfl; decide; decide; (first | omega | (simp only [List.length_take, List.length_drop, List.length_append, List.length_singleton, List.length_cons, List.length_nil] <;> omega)))
            | (apply VVal.shlOne; rfl; rfl; omega)
            | (apply VVal.shlOneU; rfl; rfl; omega)
            | (apply VVal.shrN; rfl; rfl; (simp only [IntKind.bits]; omega))
            | (apply VVal.sliceTo; rfl; rfl; rfl; rfl; rfl; rfl; omega)
            | (apply VVal.sliceFrom; rfl; rfl; rfl; rfl; rfl; rfl; omega)
            | (apply VVal.shr; rfl; rfl; omega)
            | (apply VVal.shl; rfl; rfl; omega)
            | (apply VWp.condSeq_true; rfl)
            | (apply VWp.condSeq_false; rfl)
            | (apply VWp.condSeq_dec; rfl)
            | (apply VWp.condSeq; rfl)
            | (apply VWp.cond_true; rfl)
            | (apply VWp.cond_false; rfl)
            | (apply VWp.cond_dec; rfl)
            | (apply VWp.cond; rfl)
            | (intro _; try (exfalso; omega)))
          have hel := (hset hilt).2.1
          have hell := (hset hilt).1
          have hbd2 : ∀ j, j ≤ (gi p.sets i).els.length → 0 ≤ weighK (gi p.sets i) ws j ∧ weighK (gi p.sets i) ws j ≤ j * 1000000 := weighK_bd (by clear hbd hgk; intro a ha; exact hb a ha) (fun a ha => by rw [hlen']; exact hel a ha)
          refine VWp.loopQ (fun j : Nat => [(1, lst e ws), (5, .ref 1 0), (6, .p (.int .i64 w1)), (7, .p (.int .i64 w2)), (9, .p (.int .i64 (sumK ws ws.length))), (89, lst 35 p.sets), (90, .p (.int .i64 p.sets.length)), (91, .p (.int .i64 i)), (13, .ref 2 0), (14, .p (.int .i64 (weighK (gi p.sets i) ws j))), (96, lst 3 (gi p.sets i).els), (97, .p (.int .i64 (gi p.sets i).els.length)), (98, .p (.int .i64 j))])
            (fun _ => [(1, .box 29 ((Enc.enc p).map .p)), (2, .box 35 ((Enc.enc (gi p.sets i)).map .p))]) 3 (fun j => j ≤ (gi p.sets i).els.length) (fun j => (gi p.sets i).els.length - j) 0 (by omega) (by omega) ⟨by omega, ?_, ?_⟩ ?_
          · repeat (first | exact LCov.nil | refine LCov.same trivial rfl ?_ | refine LCov.same (lt_dec rfl) rfl ?_ | refine LCov.cons trivial rfl (.of_eq (lst_len (by simp <;> omega))) ?_)
          · repeat (first | exact HCov.nil | (refine HCov.cons (lt_dec rfl) ?_ rfl ?_ ?_; (first | exact trivial | exact PVs.under_pure _ _ | (simp [HB.under, PVs.under, PV.under])); (first | exact HLe.refl _ | exact HLe.vec (FLes.refl _) (by simp))))
          intro j hj
          have hbj := hbd2 j hj
          by_cases hjlt : j < (gi p.sets i).els.length
          · have hej := hel j hjlt
            have hwj := hb (gi (gi p.sets i).els j).toNat (by omega)
            repeat' (first
              | apply VWp.assoc
              | apply VWp.rseq
              | apply VWp.rseqD
              | apply VWp.region
              | apply VWp.regionD
              | apply VWp.skipSeq
              | apply VWp.retSeq
              | apply VWp.exitSeq
              | apply VWp.blockSeq
              | apply QSeq.normal
              | apply QSeq.ret
              | apply QSeq.exit
              | apply QBlk.normal
              | apply QBlk.ret
              | apply QBlk.exit
              | (apply QBlk.out; decide)
              | apply QLoop.ret
              | apply QLoop.exit
              | apply VWp.ret
              | apply VWp.skip
              | apply VWp.exit
              | apply VWp.blockQ
              | apply VOps.nil
              | apply VOpsD.nil
              | apply VOps.one
              | (apply VOpsD.bar; decide +kernel)
              | apply VOpsD.quiet
              | (apply VOps.take; rfl; rfl)
              | (apply VOpsD.quietTake; rfl; rfl)
              | (apply VOps.drop; rfl; rfl; rfl)
              | (apply VOpsD.drop; rfl; rfl; rfl)
              | (apply VOps.guard; rfl; rfl)
              | (apply VOpsD.guard; rfl; rfl)
              | (apply VOps.dropU; rfl; rfl)
              | (apply VOpsD.dropU; rfl; rfl)
              | (apply VOps.guardB; rfl; rfl)
              | (apply VOpsD.guardB; rfl; rfl)
              | (apply VVal.assign; rfl)
              | (apply VVal.move; rfl)
              | (apply VVal.add64; rfl; rfl; omega)
              | (apply VVal.sub64; rfl; rfl; omega)
              | (apply VVal.and1; rfl; rfl; omega)
              | (apply VVal.and1U; rfl; rfl; omega)
              | (apply VVal.and1B; rfl; rfl; omega)
              | (apply VVal.andU; rfl; rfl; omega; omega)
              | (apply VVal.orU; rfl; rfl; omega; omega)
              | (apply VVal.andNotU; rfl; rfl; omega; omega)
              | (apply VVal.remI; rfl; rfl; omega; omega)
              | (apply VVal.quoI; rfl; rfl; omega; omega)
              | (apply VVal.int; rfl; rfl; rfl)
              | (apply VVal.indexN; rfl; rfl; rfl; omega; rfl)
              | (apply VVal.indexP; rfl; rfl; rfl; omega; omega; rfl)
              | (apply VVal.indexE; rfl; rfl; rfl; omega; omega; rfl)
              | (apply VVal.load; rfl; rfl)
              | (apply VVal.pick_true; rfl; rfl)
              | (apply VVal.pick_false; rfl; rfl)
              | (apply VVal.lenF; rfl; rfl)
              | (apply VVal.lenNil; rfl; rfl)
              | (apply VVal.lenV; rfl; rfl; rfl)
              | (apply VVal.fieldB; rfl; rfl; rfl)
              | (apply VVal.fieldF; rfl; rfl)
              | (apply VVal.box; rfl; trivial)
              | (apply VVal.alloc; rfl)
              | (apply VVal.storeB; rfl; rfl; rfl; trivial; rfl; rfl; exact lt_dec rfl; exact le_dec rfl)
              | (apply VVal.build; rfl; rfl; rfl; rfl; rfl)
              | (apply VVal.buildSlice; rfl; rfl; rfl; decide; rfl; rfl; rfl)
              | (apply VVal.not; rfl)
              | (apply VVal.extract; rfl; rfl)
              | (apply VVal.convI; rfl; rfl; rfl; omega)
              | (apply VVal.convInt; rfl; rfl; rfl)
              | (apply VVal.append1; rfl; rfl; rfl; rfl; rfl; rfl; rfl; rfl; (intro _ h; cases h); rfl; rfl; rfl; decide; decide; (first | omega | (simp only [List.length_take, List.length_drop, List.length_append, List.length_singleton, List.length_cons, List.length_nil] <;> omega)))
              | (apply VVal.appendL0; rfl; rfl; rfl; (first | rfl | omega | (simp only [List.length_take, List.length_drop, List.length_append, List.length_singleton, List.length_cons, List.length_nil] <;> omega)); rfl; rfl; (intro _ h; cases h); rfl; rfl; rfl; decide; decide; (first | omega | (simp only [List.length_take, List.length_drop, List.length_append, List.length_singleton, List.length_cons, List.length_nil] <;> omega)))
              | (apply VVal.appendL; rfl; rfl; rfl; (first | rfl | omega | (simp only [List.length_take, List.length_drop, List.length_append, List.length_singleton, List.length_cons, List.length_nil])); (first | rfl | omega | (simp only [List.length_take, List.length_drop, List.length_append, List.length_singleton, List.length_cons, List.length_nil] <;> omega)); rfl; rfl; (intro _ h; cases h); rfl; rfl; rfl; decide; decide; (first | omega | (simp only [List.length_take, List.length_drop, List.length_append, List.length_singleton, List.length_cons, List.length_nil] <;> omega)))
              | (apply VVal.shlOne; rfl; rfl; omega)
              | (apply VVal.shlOneU; rfl; rfl; omega)
              | (apply VVal.shrN; rfl; rfl; (simp only [IntKind.bits]; omega))
              | (apply VVal.sliceTo; rfl; rfl; rfl; rfl; rfl; rfl; omega)
              | (apply VVal.sliceFrom; rfl; rfl; rfl; rfl; rfl; rfl; omega)
              | (apply VVal.shr; rfl; rfl; omega)
              | (apply VVal.shl; rfl; rfl; omega)
              | (apply VWp.condSeq_true; rfl)
              | (apply VWp.condSeq_false; rfl)
              | (apply VWp.condSeq_dec; rfl)
              | (apply VWp.condSeq; rfl)
              | (apply VWp.cond_true; rfl)
              | (apply VWp.cond_false; rfl)
              | (apply VWp.cond_dec; rfl)
              | (apply VWp.cond; rfl)
              | (intro _; try (exfalso; omega)))
            refine QLoop.normal ⟨j + 1, by omega, by omega, ⟨by omega, ?_, ?_⟩⟩
            · repeat (first | exact LCov.nil | refine LCov.same trivial rfl ?_ | refine LCov.same (lt_dec rfl) rfl ?_ | refine LCov.cons trivial rfl (.of_eq (lst_len (by simp <;> omega))) ?_)
            · repeat (first | exact HCov.nil | (refine HCov.cons (lt_dec rfl) ?_ rfl ?_ ?_; (first | exact trivial | exact PVs.under_pure _ _ | (simp [HB.under, PVs.under, PV.under])); (first | exact HLe.refl _ | exact HLe.vec (FLes.refl _) (by simp))))
          have hj' : j = (gi p.sets i).els.length := by omega
          subst hj'
          by_cases hover : weighK (gi p.sets i) ws (gi p.sets i).els.length > (gi p.sets i).cost
          · have hm : w1 = 0 ∧ w2 = 20 := by rw [packM, if_neg (by omega), if_neg hnb, if_pos ⟨i, by omega, by omega, hover⟩] at hW; cases hW; exact ⟨rfl, rfl⟩
            obtain ⟨hm1, hm2⟩ := hm
            repeat' (first
              | apply VWp.assoc
              | apply VWp.rseq
              | apply VWp.rseqD
              | apply VWp.region
              | apply VWp.regionD
              | apply VWp.skipSeq
              | apply VWp.retSeq
              | apply VWp.exitSeq
              | apply VWp.blockSeq
              | apply QSeq.normal
              | apply QSeq.ret
              | apply QSeq.exit
              | apply QBlk.normal
              | apply QBlk.ret
              | apply QBlk.exit
              | (apply QBlk.out; decide)
              | apply QLoop.ret
              | apply QLoop.exit
              | apply VWp.ret
              | apply VWp.skip
              | apply VWp.exit
              | apply VWp.blockQ
              | apply VOps.nil
              | apply VOpsD.nil
              | apply VOps.one
              | (apply VOpsD.bar; decide +kernel)
              | apply VOpsD.quiet
              | (apply VOps.take; rfl; rfl)
              | (apply VOpsD.quietTake; rfl; rfl)
              | (apply VOps.drop; rfl; rfl; rfl)
              | (apply VOpsD.drop; rfl; rfl; rfl)
              | (apply VOps.guard; rfl; rfl)
              | (apply VOpsD.guard; rfl; rfl)
              | (apply VOps.dropU; rfl; rfl)
              | (apply VOpsD.dropU; rfl; rfl)
              | (apply VOps.guardB; rfl; rfl)
              | (apply VOpsD.guardB; rfl; rfl)
              | (apply VVal.assign; rfl)
              | (apply VVal.move; rfl)
              | (apply VVal.add64; rfl; rfl; omega)
              | (apply VVal.sub64; rfl; rfl; omega)
              | (apply VVal.and1; rfl; rfl; omega)
              | (apply VVal.and1U; rfl; rfl; omega)
              | (apply VVal.and1B; rfl; rfl; omega)
              | (apply VVal.andU; rfl; rfl; omega; omega)
              | (apply VVal.orU; rfl; rfl; omega; omega)
              | (apply VVal.andNotU; rfl; rfl; omega; omega)
              | (apply VVal.remI; rfl; rfl; omega; omega)
              | (apply VVal.quoI; rfl; rfl; omega; omega)
              | (apply VVal.int; rfl; rfl; rfl)
              | (apply VVal.indexN; rfl; rfl; rfl; omega; rfl)
              | (apply VVal.indexP; rfl; rfl; rfl; omega; omega; rfl)
              | (apply VVal.indexE; rfl; rfl; rfl; omega; omega; rfl)
              | (apply VVal.load; rfl; rfl)
              | (apply VVal.pick_true; rfl; rfl)
              | (apply VVal.pick_false; rfl; rfl)
              | (apply VVal.lenF; rfl; rfl)
              | (apply VVal.lenNil; rfl; rfl)
              | (apply VVal.lenV; rfl; rfl; rfl)
              | (apply VVal.fieldB; rfl; rfl; rfl)
              | (apply VVal.fieldF; rfl; rfl)
              | (apply VVal.box; rfl; trivial)
              | (apply VVal.alloc; rfl)
              | (apply VVal.storeB; rfl; rfl; rfl; trivial; rfl; rfl; exact lt_dec rfl; exact le_dec rfl)
              | (apply VVal.build; rfl; rfl; rfl; rfl; rfl)
              | (apply VVal.buildSlice; rfl; rfl; rfl; decide; rfl; rfl; rfl)
              | (apply VVal.not; rfl)
              | (apply VVal.extract; rfl; rfl)
              | (apply VVal.convI; rfl; rfl; rfl; omega)
              | (apply VVal.convInt; rfl; rfl; rfl)
              | (apply VVal.append1; rfl; rfl; rfl; rfl; rfl; rfl; rfl; rfl; (intro _ h; cases h); rfl; rfl; rfl; decide; decide; (first | omega | (simp only [List.length_take, List.length_drop, List.length_append, List.length_singleton, List.length_cons, List.length_nil] <;> omega)))
              | (apply VVal.appendL0; rfl; rfl; rfl; (first | rfl | omega | (simp only [List.length_take, List.length_drop, List.length_append, List.length_singleton, List.length_cons, List.length_nil] <;> omega)); rfl; rfl; (intro _ h; cases h); rfl; rfl; rfl; decide; decide; (first | omega | (simp only [List.length_take, List.length_drop, List.length_append, List.length_singleton, List.length_cons, List.length_nil] <;> omega)))
              | (apply VVal.appendL; rfl; rfl; rfl; (first | rfl | omega | (simp only [List.length_take, List.length_drop, List.length_append, List.length_singleton, List.length_cons, List.length_nil])); (first | rfl | omega | (simp only [List.length_take, List.length_drop, List.length_append, List.length_singleton, List.length_cons, List.length_nil] <;> omega)); rfl; rfl; (intro _ h; cases h); rfl; rfl; rfl; decide; decide; (first | omega | (simp only [List.length_take, List.length_drop, List.length_append, List.length_singleton, List.length_cons, List.length_nil] <;> omega)))
              | (apply VVal.shlOne; rfl; rfl; omega)
              | (apply VVal.shlOneU; rfl; rfl; omega)
              | (apply VVal.shrN; rfl; rfl; (simp only [IntKind.bits]; omega))
              | (apply VVal.sliceTo; rfl; rfl; rfl; rfl; rfl; rfl; omega)
              | (apply VVal.sliceFrom; rfl; rfl; rfl; rfl; rfl; rfl; omega)
              | (apply VVal.shr; rfl; rfl; omega)
              | (apply VVal.shl; rfl; rfl; omega)
              | (apply VWp.condSeq_true; rfl)
              | (apply VWp.condSeq_false; rfl)
              | (apply VWp.condSeq_dec; rfl)
              | (apply VWp.condSeq; rfl)
              | (apply VWp.cond_true; rfl)
              | (apply VWp.cond_false; rfl)
              | (apply VWp.cond_dec; rfl)
              | (apply VWp.cond; rfl)
              | (intro _; try (exfalso; omega)))
            all_goals (refine Done.ret rfl (.refl _) (by first | exact trivial | exact ⟨trivial, trivial, trivial⟩ | exact ⟨trivial, trivial, trivial, trivial⟩) HCov.nil (Nat.zero_le _) (Nat.le_refl _) ⟨?_, rfl, rfl⟩; first | rfl | exact PV.bool_eq (decide_eq_true hm2))
          · repeat' (first
              | apply VWp.assoc
              | apply VWp.rseq
              | apply VWp.rseqD
              | apply VWp.region
              | apply VWp.regionD
              | apply VWp.skipSeq
              | apply VWp.retSeq
              | apply VWp.exitSeq
              | apply VWp.blockSeq
              | apply QSeq.normal
              | apply QSeq.ret
              | apply QSeq.exit
              | apply QBlk.normal
              | apply QBlk.ret
              | apply QBlk.exit
              | (apply QBlk.out; decide)
              | apply QLoop.ret
              | apply QLoop.exit
              | apply VWp.ret
              | apply VWp.skip
              | apply VWp.exit
              | apply VWp.blockQ
              | apply VOps.nil
              | apply VOpsD.nil
              | apply VOps.one
              | (apply VOpsD.bar; decide +kernel)
              | apply VOpsD.quiet
              | (apply VOps.take; rfl; rfl)
              | (apply VOpsD.quietTake; rfl; rfl)
              | (apply VOps.drop; rfl; rfl; rfl)
              | (apply VOpsD.drop; rfl; rfl; rfl)
              | (apply VOps.guard; rfl; rfl)
              | (apply VOpsD.guard; rfl; rfl)
              | (apply VOps.dropU; rfl; rfl)
              | (apply VOpsD.dropU; rfl; rfl)
              | (apply VOps.guardB; rfl; rfl)
              | (apply VOpsD.guardB; rfl; rfl)
              | (apply VVal.assign; rfl)
              | (apply VVal.move; rfl)
              | (apply VVal.add64; rfl; rfl; omega)
              | (apply VVal.sub64; rfl; rfl; omega)
              | (apply VVal.and1; rfl; rfl; omega)
              | (apply VVal.and1U; rfl; rfl; omega)
              | (apply VVal.and1B; rfl; rfl; omega)
              | (apply VVal.andU; rfl; rfl; omega; omega)
              | (apply VVal.orU; rfl; rfl; omega; omega)
              | (apply VVal.andNotU; rfl; rfl; omega; omega)
              | (apply VVal.remI; rfl; rfl; omega; omega)
              | (apply VVal.quoI; rfl; rfl; omega; omega)
              | (apply VVal.int; rfl; rfl; rfl)
              | (apply VVal.indexN; rfl; rfl; rfl; omega; rfl)
              | (apply VVal.indexP; rfl; rfl; rfl; omega; omega; rfl)
              | (apply VVal.indexE; rfl; rfl; rfl; omega; omega; rfl)
              | (apply VVal.load; rfl; rfl)
              | (apply VVal.pick_true; rfl; rfl)
              | (apply VVal.pick_false; rfl; rfl)
              | (apply VVal.lenF; rfl; rfl)
              | (apply VVal.lenNil; rfl; rfl)
              | (apply VVal.lenV; rfl; rfl; rfl)
              | (apply VVal.fieldB; rfl; rfl; rfl)
              | (apply VVal.fieldF; rfl; rfl)
              | (apply VVal.box; rfl; trivial)
              | (apply VVal.alloc; rfl)
              | (apply VVal.storeB; rfl; rfl; rfl; trivial; rfl; rfl; exact lt_dec rfl; exact le_dec rfl)
              | (apply VVal.build; rfl; rfl; rfl; rfl; rfl)
              | (apply VVal.buildSlice; rfl; rfl; rfl; decide; rfl; rfl; rfl)
              | (apply VVal.not; rfl)
              | (apply VVal.extract; rfl; rfl)
              | (apply VVal.convI; rfl; rfl; rfl; omega)
              | (apply VVal.convInt; rfl; rfl; rfl)
              | (apply VVal.append1; rfl; rfl; rfl; rfl; rfl; rfl; rfl; rfl; (intro _ h; cases h); rfl; rfl; rfl; decide; decide; (first | omega | (simp only [List.length_take, List.length_drop, List.length_append, List.length_singleton, List.length_cons, List.length_nil] <;> omega)))
              | (apply VVal.appendL0; rfl; rfl; rfl; (first | rfl | omega | (simp only [List.length_take, List.length_drop, List.length_append, List.length_singleton, List.length_cons, List.length_nil] <;> omega)); rfl; rfl; (intro _ h; cases h); rfl; rfl; rfl; decide; decide; (first | omega | (simp only [List.length_take, List.length_drop, List.length_append, List.length_singleton, List.length_cons, List.length_nil] <;> omega)))
              | (apply VVal.appendL; rfl; rfl; rfl; (first | rfl | omega | (simp only [List.length_take, List.length_drop, List.length_append, List.length_singleton, List.length_cons, List.length_nil])); (first | rfl | omega | (simp only [List.length_take, List.length_drop, List.length_append, List.length_singleton, List.length_cons, List.length_nil] <;> omega)); rfl; rfl; (intro _ h; cases h); rfl; rfl; rfl; decide; decide; (first | omega | (simp only [List.length_take, List.length_drop, List.length_append, List.length_singleton, List.length_cons, List.length_nil] <;> omega)))
              | (apply VVal.shlOne; rfl; rfl; omega)
              | (apply VVal.shlOneU; rfl; rfl; omega)
              | (apply VVal.shrN; rfl; rfl; (simp only [IntKind.bits]; omega))
              | (apply VVal.sliceTo; rfl; rfl; rfl; rfl; rfl; rfl; omega)
              | (apply VVal.sliceFrom; rfl; rfl; rfl; rfl; rfl; rfl; omega)
              | (apply VVal.shr; rfl; rfl; omega)
              | (apply VVal.shl; rfl; rfl; omega)
              | (apply VWp.condSeq_true; rfl)
              | (apply VWp.condSeq_false; rfl)
              | (apply VWp.condSeq_dec; rfl)
              | (apply VWp.condSeq; rfl)
              | (apply VWp.cond_true; rfl)
              | (apply VWp.cond_false; rfl)
              | (apply VWp.cond_dec; rfl)
              | (apply VWp.cond; rfl)
              | (intro _; try (exfalso; omega)))
            refine QLoop.normal ⟨i + 1, ⟨by omega, fun a ha => ?_⟩, by omega, ⟨by omega, ?_, ?_⟩⟩
            · rcases Nat.lt_or_ge a i with h' | h'
              · exact hws a h'
              · rw [show a = i by omega]; omega
            · repeat (first | exact LCov.nil | refine LCov.same trivial rfl ?_ | refine LCov.same (lt_dec rfl) rfl ?_ | refine LCov.cons trivial rfl (.of_eq (lst_len (by simp <;> omega))) ?_)
            · repeat (first | exact HCov.nil | (refine HCov.cons (lt_dec rfl) ?_ rfl ?_ ?_; (first | exact trivial | exact PVs.under_pure _ _ | (simp [HB.under, PVs.under, PV.under])); (first | exact HLe.refl _ | exact HLe.vec (FLes.refl _) (by simp))))
        have hi' : i = p.sets.length := by omega
        subst hi'
        have hns : ¬ badS p.sets ws p.sets.length := fun ⟨a, h1, h2, h3⟩ => by have := hws a (by omega); omega
        have hm : w1 = sumK ws ws.length ∧ w2 = 0 := by rw [packM, if_neg (by omega), if_neg hnb, if_neg hns] at hW; cases hW; exact ⟨rfl, rfl⟩
        obtain ⟨hm1, hm2⟩ := hm
        repeat' (first
          | (refine VOps.atOp 124 ?_; refine VOps.ghost (Ghost.freeze 123 rfl rfl) ?_)
          | (refine VOpsD.atOp 124 ?_; refine VOpsD.ghost (Ghost.freeze 123 rfl rfl) ?_)
          | (refine VOps.atOp 143 ?_; refine VOps.ghost (Ghost.freeze 139 rfl rfl) ?_)
          | (refine VOpsD.atOp 143 ?_; refine VOpsD.ghost (Ghost.freeze 139 rfl rfl) ?_)
          | apply VWp.assoc
          | apply VWp.rseq
          | apply VWp.rseqD
          | apply VWp.region
          | apply VWp.regionD
          | apply VWp.skipSeq
          | apply VWp.retSeq
          | apply VWp.exitSeq
          | apply VWp.blockSeq
          | apply QSeq.normal
          | apply QSeq.ret
          | apply QSeq.exit
          | apply QBlk.normal
          | apply QBlk.ret
          | apply QBlk.exit
          | (apply QBlk.out; decide)
          | apply QLoop.ret
          | apply QLoop.exit
          | apply VWp.ret
          | apply VWp.skip
          | apply VWp.exit
          | apply VWp.blockQ
          | apply VOps.nil
          | apply VOpsD.nil
          | apply VOps.one
          | (apply VOpsD.bar; decide +kernel)
          | apply VOpsD.quiet
          | (apply VOps.take; rfl; rfl)
          | (apply VOpsD.quietTake; rfl; rfl)
          | (apply VOps.drop; rfl; rfl; rfl)
          | (apply VOpsD.drop; rfl; rfl; rfl)
          | (apply VOps.guard; rfl; rfl)
          | (apply VOpsD.guard; rfl; rfl)
          | (apply VOps.dropU; rfl; rfl)
          | (apply VOpsD.dropU; rfl; rfl)
          | (apply VOps.guardB; rfl; rfl)
          | (apply VOpsD.guardB; rfl; rfl)
          | (apply VVal.fv; rfl; rfl; exact hst)
          | (apply VVal.fn; rfl; rfl; exact hall; intro _; rfl)
          | (apply VVal.fn; rfl; rfl; exact rcost_spec _ _ p.sets (gi B.1 0) (by omega) (hB0 (by omega)) hcc (hB1 (by omega)); intro _; rfl)
          | (apply VVal.assign; rfl)
          | (apply VVal.move; rfl)
          | (apply VVal.add64; rfl; rfl; omega)
          | (apply VVal.sub64; rfl; rfl; omega)
          | (apply VVal.and1; rfl; rfl; omega)
          | (apply VVal.and1U; rfl; rfl; omega)
          | (apply VVal.and1B; rfl; rfl; omega)
          | (apply VVal.andU; rfl; rfl; omega; omega)
          | (apply VVal.orU; rfl; rfl; omega; omega)
          | (apply VVal.andNotU; rfl; rfl; omega; omega)
          | (apply VVal.remI; rfl; rfl; omega; omega)
          | (apply VVal.quoI; rfl; rfl; omega; omega)
          | (apply VVal.int; rfl; rfl; rfl)
          | (apply VVal.indexN; rfl; rfl; rfl; omega; rfl)
          | (apply VVal.indexP; rfl; rfl; rfl; omega; omega; rfl)
          | (apply VVal.indexE; rfl; rfl; rfl; omega; omega; rfl)
          | (apply VVal.load; rfl; rfl)
          | (apply VVal.pick_true; rfl; rfl)
          | (apply VVal.pick_false; rfl; rfl)
          | (apply VVal.lenF; rfl; rfl)
          | (apply VVal.lenNil; rfl; rfl)
          | (apply VVal.lenV; rfl; rfl; rfl)
          | (apply VVal.fieldB; rfl; rfl; rfl)
          | (apply VVal.fieldF; rfl; rfl)
          | (apply VVal.box; rfl; trivial)
          | (apply VVal.alloc; rfl)
          | (apply VVal.storeB; rfl; rfl; rfl; trivial; rfl; rfl; exact lt_dec rfl; exact le_dec rfl)
          | (apply VVal.build; rfl; rfl; rfl; rfl; rfl)
          | (apply VVal.buildSlice; rfl; rfl; rfl; decide; rfl; rfl; rfl)
          | (apply VVal.not; rfl)
          | (apply VVal.extract; rfl; rfl)
          | (apply VVal.convI; rfl; rfl; rfl; omega)
          | (apply VVal.convInt; rfl; rfl; rfl)
          | (apply VVal.append1; rfl; rfl; rfl; rfl; rfl; rfl; rfl; rfl; (intro _ h; cases h); rfl; rfl; rfl; decide; decide; (first | omega | (simp only [List.length_take, List.length_drop, List.length_append, List.length_singleton, List.length_cons, List.length_nil] <;> omega)))
          | (apply VVal.appendL0; rfl; rfl; rfl; (first | rfl | omega | (simp only [List.length_take, List.length_drop, List.length_append, List.length_singleton, List.length_cons, List.length_nil] <;> omega)); rfl; rfl; (intro _ h; cases h); rfl; rfl; rfl; decide; decide; (first | omega | (simp only [List.length_take, List.length_drop, List.length_append, List.length_singleton, List.length_cons, List.length_nil] <;> omega)))
          | (apply VVal.appendL; rfl; rfl; rfl; (first | rfl | omega | (simp only [List.length_take, List.length_drop, List.length_append, List.length_singleton, List.length_cons, List.length_nil])); (first | rfl | omega | (simp only [List.length_take, List.length_drop, List.length_append, List.length_singleton, List.length_cons, List.length_nil] <;> omega)); rfl; rfl; (intro _ h; cases h); rfl; rfl; rfl; decide; decide; (first | omega | (simp only [List.length_take, List.length_drop, List.length_append, List.length_singleton, List.length_cons, List.length_nil] <;> omega)))
          | (apply VVal.shlOne; rfl; rfl; omega)
          | (apply VVal.shlOneU; rfl; rfl; omega)
          | (apply VVal.shrN; rfl; rfl; (simp only [IntKind.bits]; omega))
          | (apply VVal.sliceTo; rfl; rfl; rfl; rfl; rfl; rfl; omega)
          | (apply VVal.sliceFrom; rfl; rfl; rfl; rfl; rfl; rfl; omega)
          | (apply VVal.shr; rfl; rfl; omega)
          | (apply VVal.shl; rfl; rfl; omega)
          | (apply VWp.condSeq_true; rfl)
          | (apply VWp.condSeq_false; rfl)
          | (apply VWp.condSeq_dec; rfl)
          | (apply VWp.condSeq; rfl)
          | (apply VWp.cond_true; rfl)
          | (apply VWp.cond_false; rfl)
          | (apply VWp.cond_dec; rfl)
          | (apply VWp.cond; rfl)
          | (intro _; try (exfalso; omega)))
        · refine Done.ret rfl (.refl _) (by first | exact trivial | exact ⟨trivial, trivial, trivial⟩ | exact ⟨trivial, trivial, trivial, trivial⟩) HCov.nil (Nat.zero_le _) (Nat.le_refl _) ⟨?_, rfl, rfl⟩
          rfl
        · have hB0' : 0 < B.1.length := by omega
          have hdual : sumK ws ws.length ≤ costK p.sets (gi B.1 0) (gi B.1 0).length := by
            obtain ⟨m, h1, h2⟩ := hBm _ (gi_mem hB0')
            have hwn : ws.length = x.n % 8 := by omega
            refine duality p.sets (gi B.1 0) ws ws.length (fun a ha => (hb a ha).1) (hB1 hB0') (fun a c ha hc => by rw [hlen']; exact (hset ha).2.1 c hc) hws ?_
            rw [hwn]; exact h2
          refine Done.ret rfl (.refl _) (by first | exact trivial | exact ⟨trivial, trivial, trivial⟩ | exact ⟨trivial, trivial, trivial, trivial⟩) HCov.nil (Nat.zero_le _) (Nat.le_refl _) ⟨?_, rfl, rfl⟩
          exact PV.bool_eq (decide_eq_true hdual)

end Go.Proofs.YtmfnchgkffhpfaaDoor
