/-
  What small functions of the layer and of its reference compute. Conditions: in each statement.
-/
import Derived.Test.YtmfnchgkffhpfaaDoorEnv
namespace Go.Proofs.YtmfnchgkffhpfaaDoor
open Go Go.Am Go.Vm
attribute [local irreducible] VVal VOps VOpsD VWp VCalls VFun VFunV QSeq QBlk QLoop Vm.Done

structure CSet where
  els : List Int
  cost : Int
instance : Enc CSet := { default := ⟨[], 0⟩, enc := fun s => [.lst 3 (cells s.els) s.els.length, .int .i64 s.cost], size := 2, len := fun _ => rfl }

theorem mem_take_succ {l : List Int} {x : Int} {k : Nat} (hk : k < l.length) : x ∈ l.take (k + 1) ↔ x ∈ l.take k ∨ x = gi l k := by
  rw [List.take_succ_eq_append_getElem hk, List.mem_append]
  simp [gi, List.getElem?_eq_getElem hk]

set_option maxRecDepth 100000 in
theorem has_spec (e : TypeId) (l : List Int) (x : Int) (hl : l.length < 2^62) : VFun env 32 [.lst e (cells l) l.length, .int .i64 x] (.p (.bool (decide (x ∈ l)))) := by
  refine VFun.enter (env_none (by decide)) Tryd.func32 rfl (by kernel_rfl) (by simp [Tryd.ntmps32]) ?_
  repeat' (first
    | apply VWp.assoc
    | apply VWp.rseq
    | apply VWp.rseqD
    | apply VWp.region
    | apply VWp.regionD
    | apply VWp.skipSeq
    | apply VWp.retSeq
    | apply VWp.exitSeq
    | apply VWp.blockSeq
    | apply QSeq.normal
    | apply QSeq.ret
    | apply QSeq.exit
    | apply QBlk.normal
    | apply QBlk.ret
    | apply QBlk.exit
    | (apply QBlk.out; decide)
    | apply QLoop.ret
    | apply QLoop.exit
    | apply VWp.ret
    | apply VWp.skip
    | apply VWp.exit
    | apply VWp.blockQ
    | apply VOps.nil
    | apply VOpsD.nil
    | apply VOps.one
    | (apply VOpsD.bar; decide +kernel)
    | apply VOpsD.quiet
    | (apply VOps.take; rfl; rfl)
    | (apply VOpsD.quietTake; rfl; rfl)
    | (apply VOps.drop; rfl; rfl; rfl)
    | (apply VOpsD.drop; rfl; rfl; rfl)
    | (apply VOps.guard; rfl; rfl)
    | (apply VOpsD.guard; rfl; rfl)
    | (apply VOps.dropU; rfl; rfl)
    | (apply VOpsD.dropU; rfl; rfl)
    | (apply VOps.guardB; rfl; rfl)
    | (apply VOpsD.guardB; rfl; rfl)
    | (apply VVal.assign; rfl)
    | (apply VVal.move; rfl)
    | (apply VVal.add64; rfl; rfl; omega)
    | (apply VVal.sub64; rfl; rfl; omega)
    | (apply VVal.and1; rfl; rfl; omega)
    | (apply VVal.and1U; rfl; rfl; omega)
    | (apply VVal.and1B; rfl; rfl; omega)
    | (apply VVal.andU; rfl; rfl; omega; omega)
    | (apply VVal.orU; rfl; rfl; omega; omega)
    | (apply VVal.andNotU; rfl; rfl; omega; omega)
    | (apply VVal.remI; rfl; rfl; omega; omega)
    | (apply VVal.quoI; rfl; rfl; omega; omega)
    | (apply VVal.int; rfl; rfl; rfl)
    | (apply VVal.indexN; rfl; rfl; rfl; omega; rfl)
    | (apply VVal.indexP; rfl; rfl; rfl; omega; omega; rfl)
    | (apply VVal.indexE; rfl; rfl; rfl; omega; omega; rfl)
    | (apply VVal.load; rfl; rfl)
    | (apply VVal.pick_true; rfl; rfl)
    | (apply VVal.pick_false; rfl; rfl)
    | (apply VVal.lenF; rfl; rfl)
    | (apply VVal.lenNil; rfl; rfl)
    | (apply VVal.lenV; rfl; rfl; rfl)
    | (apply VVal.fieldB; rfl; rfl; rfl)
    | (apply VVal.fieldF; rfl; rfl)
    | (apply VVal.box; rfl; trivial)
    | (apply VVal.alloc; rfl)
    | (apply VVal.storeB; rfl; rfl; rfl; trivial; rfl; rfl; exact lt_dec rfl; exact le_dec rfl)
    | (apply VVal.build; rfl; rfl; rfl; rfl; rfl)
    | (apply VVal.buildSlice; rfl; rfl; rfl; decide; rfl; rfl; rfl)
    | (apply VVal.not; rfl)
    | (apply VVal.extract; rfl; rfl)
    | (apply VVal.convI; rfl; rfl; rfl; omega)
    | (apply VVal.convInt; rfl; rfl; rfl)
    | (apply VVal.append1; rfl; rfl; rfl; rfl; rfl; rfl; rfl; rfl; (intro _ h; cases h); rfl; rfl; rfl; decide; decide; (first | omega | (simp only [List.length_take, List.length_drop, List.length_append, List.length_singleton, List.length_cons, List.length_nil] <;> omega)))
    | (apply VVal.appendL0; rfl; rfl; rfl; (first | rfl | omega | (simp only [List.length_take, List.length_drop, List.length_append, List.length_singleton, List.length_cons, List.length_nil] <;> omega)); rfl; rfl; (intro _ h; cases h); rfl; rfl; rfl; decide; decide; (first | omega | (simp only [List.length_take, List.length_drop, List.length_append, List.length_singleton, List.length_cons, List.length_nil] <;> omega)))
    | (apply VVal.appendL; rfl; rfl; rfl; (first | rfl | omega | (simp only [List.length_take, List.length_drop, List.length_append, List.length_singleton, List.length_cons, List.length_nil])); (first | rfl | omega | (simp only [List.length_take, List.length_drop, List.length_append, List.length_singleton, List.length_cons, List.length_nil] <;> omega)); rfl; rfl; (intro _ h; cases h); rfl; rfl; rfl; decide; decide; (first | omega | (simp only [List.length_take, List.length_drop, List.length_append, List.length_singleton, List.length_cons, List.length_nil] <;> omega)))
    | (apply VVal.shlOne; rfl; rfl; omega)
    | (apply VVal.shlOneU; rfl; rfl; omega)
    | (apply VVal.shrN; rfl; rfl; (simp only [IntKind.bits]; omega))
    | (apply VVal.sliceTo; rfl; rfl; rfl; rfl; rfl; rfl; omega)
    | (apply VVal.sliceFrom; rfl; rfl; rfl; rfl; rfl; rfl; omega)
    | (apply VVal.shr; rfl; rfl; omega)
    | (apply VVal.shl; rfl; rfl; omega)
    | (apply VWp.condSeq_true; rfl)
    | (apply VWp.condSeq_false; rfl)
    | (apply VWp.condSeq_dec; rfl)
    | (apply VWp.condSeq; rfl)
    | (apply VWp.cond_true; rfl)
    | (apply VWp.cond_false; rfl)
    | (apply VWp.cond_dec; rfl)
    | (apply VWp.cond; rfl)
    | (intro _; try (exfalso; omega)))
  refine VWp.loopQ (fun k : Nat => [(0, lst e l), (1, .p (.int .i64 x)), (5, .p (.int .i64 k))]) (fun _ => []) 0 (fun k => k ≤ l.length ∧ x ∉ l.take k) (fun k => l.length - k) 0 (Nat.le_refl _) ⟨by omega, by simp⟩ ⟨Nat.le_refl _, ?_, trivial⟩ ?_
  · repeat (first | exact LCov.nil | refine LCov.same trivial rfl ?_ | refine LCov.same (lt_dec rfl) rfl ?_ | refine LCov.cons trivial rfl (.of_eq (lst_len (by simp <;> omega))) ?_)
  rintro k ⟨hk, hr⟩
  repeat' (first
    | apply VWp.assoc
    | apply VWp.rseq
    | apply VWp.rseqD
    | apply VWp.region
    | apply VWp.regionD
    | apply VWp.skipSeq
    | apply VWp.retSeq
    | apply VWp.exitSeq
    | apply VWp.blockSeq
    | apply QSeq.normal
    | apply QSeq.ret
    | apply QSeq.exit
    | apply QBlk.normal
    | apply QBlk.ret
    | apply QBlk.exit
    | (apply QBlk.out; decide)
    | apply QLoop.ret
    | apply QLoop.exit
    | apply VWp.ret
    | apply VWp.skip
    | apply VWp.exit
    | apply VWp.blockQ
    | apply VOps.nil
    | apply VOpsD.nil
    | apply VOps.one
    | (apply VOpsD.bar; decide +kernel)
    | apply VOpsD.quiet
    | (apply VOps.take; rfl; rfl)
    | (apply VOpsD.quietTake; rfl; rfl)
    | (apply VOps.drop; rfl; rfl; rfl)
    | (apply VOpsD.drop; rfl; rfl; rfl)
    | (apply VOps.guard; rfl; rfl)
    | (apply VOpsD.guard; rfl; rfl)
    | (apply VOps.dropU; rfl; rfl)
    | (apply VOpsD.dropU; rfl; rfl)
    | (apply VOps.guardB; rfl; rfl)
    | (apply VOpsD.guardB; rfl; rfl)
    | (apply VVal.assign; rfl)
    | (apply VVal.move; rfl)
    | (apply VVal.add64; rfl; rfl; omega)
    | (apply VVal.sub64; rfl; rfl; omega)
    | (apply VVal.and1; rfl; rfl; omega)
    | (apply VVal.and1U; rfl; rfl; omega)
    | (apply VVal.and1B; rfl; rfl; omega)
    | (apply VVal.andU; rfl; rfl; omega; omega)
    | (apply VVal.orU; rfl; rfl; omega; omega)
    | (apply VVal.andNotU; rfl; rfl; omega; omega)
    | (apply VVal.remI; rfl; rfl; omega; omega)
    | (apply VVal.quoI; rfl; rfl; omega; omega)
    | (apply VVal.int; rfl; rfl; rfl)
    | (apply VVal.indexN; rfl; rfl; rfl; omega; rfl)
    | (apply VVal.indexP; rfl; rfl; rfl; omega; omega; rfl)
    | (apply VVal.indexE; rfl; rfl; rfl; omega; omega; rfl)
    | (apply VVal.load; rfl; rfl)
    | (apply VVal.pick_true; rfl; rfl)
    | (apply VVal.pick_false; rfl; rfl)
    | (apply VVal.lenF; rfl; rfl)
    | (apply VVal.lenNil; rfl; rfl)
    | (apply VVal.lenV; rfl; rfl; rfl)
    | (apply VVal.fieldB; rfl; rfl; rfl)
    | (apply VVal.fieldF; rfl; rfl)
    | (apply VVal.box; rfl; trivial)
    | (apply VVal.alloc; rfl)
    | (apply VVal.storeB; rfl; rfl; rfl; trivial; rfl; rfl; exact lt_dec rfl; exact le_dec rfl)
    | (apply VVal.build; rfl; rfl; rfl; rfl; rfl)
    | (apply VVal.buildSlice; rfl; rfl; rfl; decide; rfl; rfl; rfl)
    | (apply VVal.not; rfl)
    | (apply VVal.extract; rfl; rfl)
    | (apply VVal.convI; rfl; rfl; rfl; omega)
    | (apply VVal.convInt; rfl; rfl; rfl)
    | (apply VVal.append1; rfl; rfl; rfl; rfl; rfl; rfl; rfl; rfl; (intro _ h; cases h); rfl; rfl; rfl; decide; decide; (first | omega | (simp only [List.length_take, List.length_drop, List.length_append, List.length_singleton, List.length_cons, List.length_nil] <;> omega)))
    | (apply VVal.appendL0; rfl; rfl; rfl; (first | rfl | omega | (simp only [List.length_take, List.length_drop, List.length_append, List.length_singleton, List.length_cons, List.length_nil] <;> omega)); rfl; rfl; (intro _ h; cases h); rfl; rfl; rfl; decide; decide; (first | omega | (simp only [List.length_take, List.length_drop, List.length_append, List.length_singleton, List.length_cons, List.length_nil] <;> omega)))
    | (apply VVal.appendL; rfl; rfl; rfl; (first | rfl | omega | (simp only [List.length_take, List.length_drop, List.length_append, List.length_singleton, List.length_cons, List.length_nil])); (first | rfl | omega | (simp only [List.length_take, List.length_drop, List.length_append, List.length_singleton, List.length_cons, List.length_nil] <;> omega)); rfl; rfl; (intro _ h; cases h); rfl; rfl; rfl; decide; decide; (first | omega | (simp only [List.length_take, List.length_drop, List.length_append, List.length_singleton, List.length_cons, List.length_nil] <;> omega)))
    | (apply VVal.shlOne; rfl; rfl; omega)
    | (apply VVal.shlOneU; rfl; rfl; omega)
    | (apply VVal.shrN; rfl; rfl; (simp only [IntKind.bits]; omega))
    | (apply VVal.sliceTo; rfl; rfl; rfl; rfl; rfl; rfl; omega)
    | (apply VVal.sliceFrom; rfl; rfl; rfl; rfl; rfl; rfl; omega)
    | (apply VVal.shr; rfl; rfl; omega)
    | (apply VVal.shl; rfl; rfl; omega)
    | (apply VWp.condSeq_true; rfl)
    | (apply VWp.condSeq_false; rfl)
    | (apply VWp.condSeq_dec; rfl)
    | (apply VWp.condSeq; rfl)
    | (apply VWp.cond_true; rfl)
    | (apply VWp.cond_false; rfl)
    | (apply VWp.cond_dec; rfl)
    | (apply VWp.cond; rfl)
    | (intro _; try (exfalso; omega)))
  · refine Done.ret rfl (.refl _) (by first | exact trivial | exact ⟨trivial, trivial, trivial⟩ | exact ⟨trivial, trivial, trivial, trivial⟩) HCov.nil (Nat.zero_le _) (Nat.le_refl _) ⟨?_, rfl, rfl⟩
    rename_i h1 h2
    refine PV.bool_eq (Eq.symm (decide_eq_true ?_))
    exact List.mem_of_mem_take ((mem_take_succ (by omega)).2 (.inr h2.symm))
  · rename_i h1 h2
    refine QLoop.normal ⟨k + 1, ⟨by omega, ?_⟩, by omega, ⟨Nat.le_refl _, ?_, trivial⟩⟩
    · rw [mem_take_succ (by omega)]; exact fun h => h.elim hr fun h => h2 h.symm
    · repeat (first | exact LCov.nil | refine LCov.same trivial rfl ?_ | refine LCov.same (lt_dec rfl) rfl ?_ | refine LCov.cons trivial rfl (.of_eq (lst_len (by simp <;> omega))) ?_)
  · refine Done.ret rfl (.refl _) (by first | exact trivial | exact ⟨trivial, trivial, trivial⟩ | exact ⟨trivial, trivial, trivial, trivial⟩) HCov.nil (Nat.zero_le _) (Nat.le_refl _) ⟨?_, rfl, rfl⟩
    rename_i h1
    refine PV.bool_eq (Eq.symm (decide_eq_false ?_))
    rwa [List.take_of_length_le (by omega)] at hr

def costK (L : List CSet) (s : List Int) : Nat → Int
  | 0 => 0
  | k + 1 => costK L s k + (gi L (gi s k).toNat).cost
theorem costK_bd {L : List CSet} {s : List Int} (h : ∀ i, i < L.length → 0 ≤ (gi L i).cost ∧ (gi L i).cost ≤ 1000000) (hs : ∀ i, i < s.length → 0 ≤ gi s i ∧ gi s i < L.length) : ∀ k, k ≤ s.length → 0 ≤ costK L s k ∧ costK L s k ≤ k * 1000000
  | 0, _ => by simp [costK]
  | k + 1, hk => by
    have h1 := costK_bd h hs k (by omega)
    have h2 := hs k (by omega)
    have h3 := h (gi s k).toNat (by omega)
    simp only [costK]
    omega

set_option maxRecDepth 100000 in
theorem rcost_spec (e e' : TypeId) (L : List CSet) (s : List Int) (hL : L.length < 1000) (hl : s.length < 1000) (h : ∀ i, i < L.length → 0 ≤ (gi L i).cost ∧ (gi L i).cost ≤ 1000000) (hs : ∀ i, i < s.length → 0 ≤ gi s i ∧ gi s i < L.length) :
    VFun env 15 [.lst e (cells L) L.length, .lst e' (cells s) s.length] (.p (.int .i64 (costK L s s.length))) := by
  refine VFun.enter (env_none (by decide)) Tryd.func15 rfl (by kernel_rfl) (by simp [Tryd.ntmps15]) ?_
  repeat' (first
    | apply VWp.assoc
    | apply VWp.rseq
    | apply VWp.rseqD
    | apply VWp.region
    | apply VWp.regionD
    | apply VWp.skipSeq
    | apply VWp.retSeq
    | apply VWp.exitSeq
    | apply VWp.blockSeq
    | apply QSeq.normal
    | apply QSeq.ret
    | apply QSeq.exit
    | apply QBlk.normal
    | apply QBlk.ret
    | apply QBlk.exit
    | (apply QBlk.out; decide)
    | apply QLoop.ret
    | apply QLoop.exit
    | apply VWp.ret
    | apply VWp.skip
    | apply VWp.exit
    | apply VWp.blockQ
    | apply VOps.nil
    | apply VOpsD.nil
    | apply VOps.one
    | (apply VOpsD.bar; decide +kernel)
    | apply VOpsD.quiet
    | (apply VOps.take; rfl; rfl)
    | (apply VOpsD.quietTake; rfl; rfl)
    | (apply VOps.drop; rfl; rfl; rfl)
    | (apply VOpsD.drop; rfl; rfl; rfl)
    | (apply VOps.guard; rfl; rfl)
    | (apply VOpsD.guard; rfl; rfl)
    | (apply VOps.dropU; rfl; rfl)
    | (apply VOpsD.dropU; rfl; rfl)
    | (apply VOps.guardB; rfl; rfl)
    | (apply VOpsD.guardB; rfl; rfl)
    | (apply VVal.assign; rfl)
    | (apply VVal.move; rfl)
    | (apply VVal.add64; rfl; rfl; omega)
    | (apply VVal.sub64; rfl; rfl; omega)
    | (apply VVal.and1; rfl; rfl; omega)
    | (apply VVal.and1U; rfl; rfl; omega)
    | (apply VVal.and1B; rfl; rfl; omega)
    | (apply VVal.andU; rfl; rfl; omega; omega)
    | (apply VVal.orU; rfl; rfl; omega; omega)
    | (apply VVal.andNotU; rfl; rfl; omega; omega)
    | (apply VVal.remI; rfl; rfl; omega; omega)
    | (apply VVal.quoI; rfl; rfl; omega; omega)
    | (apply VVal.int; rfl; rfl; rfl)
    | (apply VVal.indexN; rfl; rfl; rfl; omega; rfl)
    | (apply VVal.indexP; rfl; rfl; rfl; omega; omega; rfl)
    | (apply VVal.indexE; rfl; rfl; rfl; omega; omega; rfl)
    | (apply VVal.load; rfl; rfl)
    | (apply VVal.pick_true; rfl; rfl)
    | (apply VVal.pick_false; rfl; rfl)
    | (apply VVal.lenF; rfl; rfl)
    | (apply VVal.lenNil; rfl; rfl)
    | (apply VVal.lenV; rfl; rfl; rfl)
    | (apply VVal.fieldB; rfl; rfl; rfl)
    | (apply VVal.fieldF; rfl; rfl)
    | (apply VVal.box; rfl; trivial)
    | (apply VVal.alloc; rfl)
    | (apply VVal.storeB; rfl; rfl; rfl; trivial; rfl; rfl; exact lt_dec rfl; exact le_dec rfl)
    | (apply VVal.build; rfl; rfl; rfl; rfl; rfl)
    | (apply VVal.buildSlice; rfl; rfl; rfl; decide; rfl; rfl; rfl)
    | (apply VVal.not; rfl)
    | (apply VVal.extract; rfl; rfl)
    | (apply VVal.convI; rfl; rfl; rfl; omega)
    | (apply VVal.convInt; rfl; rfl; rfl)
    | (apply VVal.append1; rfl; rfl; rfl; rfl; rfl; rfl; rfl; rfl; (intro _ h; cases h); rfl; rfl; rfl; decide; decide; (first | omega | (simp only [List.length_take, List.length_drop, List.length_append, List.length_singleton, List.length_cons, List.length_nil] <;> omega)))
    | (apply VVal.appendL0; rfl; rfl; rfl; (first | rfl | omega | (simp only [List.length_take, List.length_drop, List.length_append, List.length_singleton, List.length_cons, List.length_nil] <;> omega)); rfl; rfl; (intro _ h; cases h); rfl; rfl; rfl; decide; decide; (first | omega | (simp only [List.length_take, List.length_drop, List.length_append, List.length_singleton, List.length_cons, List.length_nil] <;> omega)))
    | (apply VVal.appendL; rfl; rfl; rfl; (first | rfl | omega | (simp only [List.length_take, List.length_drop, List.length_append, List.length_singleton, List.length_cons, List.length_nil])); (first | rfl | omega | (simp only [List.length_take, List.length_drop, List.length_append, List.length_singleton, List.length_cons, List.length_nil] <;> omega)); rfl; rfl; (intro _ h; cases h); rfl; rfl; rfl; decide; decide; (first | omega | (simp only [List.length_take, List.length_drop, List.length_append, List.length_singleton, List.length_cons, List.length_nil] <;> omega)))
    | (apply VVal.shlOne; rfl; rfl; omega)
    | (apply VVal.shlOneU; rfl; rfl; omega)
    | (apply VVal.shrN; rfl; rfl; (simp only [IntKind.bits]; omega))
    | (apply VVal.sliceTo; rfl; rfl; rfl; rfl; rfl; rfl; omega)
    | (apply VVal.sliceFrom; rfl; rfl; rfl; rfl; rfl; rfl; omega)
    | (apply VVal.shr; rfl; rfl; omega)
    | (apply VVal.shl; rfl; rfl; omega)
    | (apply VWp.condSeq_true; rfl)
    | (apply VWp.condSeq_false; rfl)
    | (apply VWp.condSeq_dec; rfl)
    | (apply VWp.condSeq; rfl)
    | (apply VWp.cond_true; rfl)
    | (apply VWp.cond_false; rfl)
    | (apply VWp.cond_dec; rfl)
    | (apply VWp.cond; rfl)
    | (intro _; try (exfalso; omega)))
  refine VWp.loopQ (fun k : Nat => [(0, lst e L), (1, lst e' s), (5, .p (.int .i64 (costK L s k))), (6, .p (.int .i64 k))]) (fun _ => []) 0 (fun k => k ≤ s.length) (fun k => s.length - k) 0 (Nat.le_refl _) (by omega) ⟨Nat.le_refl _, ?_, trivial⟩ ?_
  · repeat (first | exact LCov.nil | refine LCov.same trivial rfl ?_ | refine LCov.same (lt_dec rfl) rfl ?_ | refine LCov.cons trivial rfl (.of_eq (lst_len (by simp <;> omega))) ?_)
  intro k hk
  have hbd := costK_bd h hs k hk
  by_cases hlt : k < s.length
  · have h1 := hs k hlt
    have h2 := h (gi s k).toNat (by omega)
    repeat' (first
      | apply VWp.assoc
      | apply VWp.rseq
      | apply VWp.rseqD
      | apply VWp.region
      | apply VWp.regionD
      | apply VWp.skipSeq
      | apply VWp.retSeq
      | apply VWp.exitSeq
      | apply VWp.blockSeq
      | apply QSeq.normal
      | apply QSeq.ret
      | apply QSeq.exit
      | apply QBlk.normal
      | apply QBlk.ret
      | apply QBlk.exit
      | (apply QBlk.out; decide)
      | apply QLoop.ret
      | apply QLoop.exit
      | apply VWp.ret
      | apply VWp.skip
      | apply VWp.exit
      | apply VWp.blockQ
      | apply VOps.nil
      | apply VOpsD.nil
      | apply VOps.one
      | (apply VOpsD.bar; decide +kernel)
      | apply VOpsD.quiet
      | (apply VOps.take; rfl; rfl)
      | (apply VOpsD.quietTake; rfl; rfl)
      | (apply VOps.drop; rfl; rfl; rfl)
      | (apply VOpsD.drop; rfl; rfl; rfl)
      | (apply VOps.guard; rfl; rfl)
      | (apply VOpsD.guard; rfl; rfl)
      | (apply VOps.dropU; rfl; rfl)
      | (apply VOpsD.dropU; rfl; rfl)
      | (apply VOps.guardB; rfl; rfl)
      | (apply VOpsD.guardB; rfl; rfl)
      | (apply VVal.assign; rfl)
      | (apply VVal.move; rfl)
      | (apply VVal.add64; rfl; rfl; omega)
      | (apply VVal.sub64; rfl; rfl; omega)
      | (apply VVal.and1; rfl; rfl; omega)
      | (apply VVal.and1U; rfl; rfl; omega)
      | (apply VVal.and1B; rfl; rfl; omega)
      | (apply VVal.andU; rfl; rfl; omega; omega)
      | (apply VVal.orU; rfl; rfl; omega; omega)
      | (apply VVal.andNotU; rfl; rfl; omega; omega)
      | (apply VVal.remI; rfl; rfl; omega; omega)
      | (apply VVal.quoI; rfl; rfl; omega; omega)
      | (apply VVal.int; rfl; rfl; rfl)
      | (apply VVal.indexN; rfl; rfl; rfl; omega; rfl)
      | (apply VVal.indexP; rfl; rfl; rfl; omega; omega; rfl)
      | (apply VVal.indexE; rfl; rfl; rfl; omega; omega; rfl)
      | (apply VVal.load; rfl; rfl)
      | (apply VVal.pick_true; rfl; rfl)
      | (apply VVal.pick_false; rfl; rfl)
      | (apply VVal.lenF; rfl; rfl)
      | (apply VVal.lenNil; rfl; rfl)
      | (apply VVal.lenV; rfl; rfl; rfl)
      | (apply VVal.fieldB; rfl; rfl; rfl)
      | (apply VVal.fieldF; rfl; rfl)
      | (apply VVal.box; rfl; trivial)
      | (apply VVal.alloc; rfl)
      | (apply VVal.storeB; rfl; rfl; rfl; trivial; rfl; rfl; exact lt_dec rfl; exact le_dec rfl)
      | (apply VVal.build; rfl; rfl; rfl; rfl; rfl)
      | (apply VVal.buildSlice; rfl; rfl; rfl; decide; rfl; rfl; rfl)
      | (apply VVal.not; rfl)
      | (apply VVal.extract; rfl; rfl)
      | (apply VVal.convI; rfl; rfl; rfl; omega)
      | (apply VVal.convInt; rfl; rfl; rfl)
      | (apply VVal.append1; rfl; rfl; rfl; rfl; rfl; rfl; rfl; rfl; (intro _ h; cases h); rfl; rfl; rfl; decide; decide; (first | omega | (simp only [List.length_take, List.length_drop, List.length_append, List.length_singleton, List.length_cons, List.length_nil] <;> omega)))
      | (apply VVal.appendL0; rfl; rfl; rfl; (first | rfl | omega | (simp only [List.length_take, List.length_drop, List.length_append, List.length_singleton, List.length_cons, List.length_nil] <;> omega)); rfl; rfl; (intro _ h; cases h); rfl; rfl; rfl; decide; decide; (first | omega | (simp only [List.length_take, List.length_drop, List.length_append, List.length_singleton, List.length_cons, List.length_nil] <;> omega)))
      | (apply VVal.appendL; rfl; rfl; rfl; (first | rfl | omega | (simp only [List.length_take, List.length_drop, List.length_append, List.length_singleton, List.length_cons, List.length_nil])); (first | rfl | omega | (simp only [List.length_take, List.length_drop, List.length_append, List.length_singleton, List.length_cons, List.length_nil] <;> omega)); rfl; rfl; (intro _ h; cases h); rfl; rfl; rfl; decide; decide; (first | omega | (simp only [List.length_take, List.length_drop, List.length_append, List.length_singleton, List.length_cons, List.length_nil] <;> omega)))
      | (apply VVal.shlOne; rfl; rfl; omega)
      | (apply VVal.shlOneU; rfl; rfl; omega)
      | (apply VVal.shrN; rfl; rfl; (simp only [IntKind.bits]; omega))
      | (apply VVal.sliceTo; rfl; rfl; rfl; rfl; rfl; rfl; omega)
      | (apply VVal.sliceFrom; rfl; rfl; rfl; rfl; rfl; rfl; omega)
      | (apply VVal.shr; rfl; rfl; omega)
      | (apply VVal.shl; rfl; rfl; omega)
      | (apply VWp.condSeq_true; rfl)
      | (apply VWp.condSeq_false; rfl)
      | (apply VWp.condSeq_dec; rfl)
      | (apply VWp.condSeq; rfl)
      | (apply VWp.cond_true; rfl)
      | (apply VWp.cond_false; rfl)
      | (apply VWp.cond_dec; rfl)
      | (apply VWp.cond; rfl)
      | (intro _; try (exfalso; omega)))
    · refine QLoop.normal ⟨k + 1, by omega, by omega, ⟨Nat.le_refl _, ?_, trivial⟩⟩
      repeat (first | exact LCov.nil | refine LCov.same trivial rfl ?_ | refine LCov.same (lt_dec rfl) rfl ?_ | refine LCov.cons trivial rfl (.of_eq (lst_len (by simp <;> omega))) ?_)
  · repeat' (first
      | apply VWp.assoc
      | apply VWp.rseq
      | apply VWp.rseqD
      | apply VWp.region
      | apply VWp.regionD
      | apply VWp.skipSeq
      | apply VWp.retSeq
      | apply VWp.exitSeq
      | apply VWp.blockSeq
      | apply QSeq.normal
      | apply QSeq.ret
      | apply QSeq.exit
      | apply QBlk.normal
      | apply QBlk.ret
      | apply QBlk.exit
      | (apply QBlk.out; decide)
      | apply QLoop.ret
      | apply QLoop.exit
      | apply VWp.ret
      | apply VWp.skip
      | apply VWp.exit
      | apply VWp.blockQ
      | apply VOps.nil
      | apply VOpsD.nil
      | apply VOps.one
      | (apply VOpsD.bar; decide +kernel)
      | apply VOpsD.quiet
      | (apply VOps.take; rfl; rfl)
      | (apply VOpsD.quietTake; rfl; rfl)
      | (apply VOps.drop; rfl; rfl; rfl)
      | (apply VOpsD.drop; rfl; rfl; rfl)
      | (apply VOps.guard; rfl; rfl)
      | (apply VOpsD.guard; rfl; rfl)
      | (apply VOps.dropU; rfl; rfl)
      | (apply VOpsD.dropU; rfl; rfl)
      | (apply VOps.guardB; rfl; rfl)
      | (apply VOpsD.guardB; rfl; rfl)
      | (apply VVal.assign; rfl)
      | (apply VVal.move; rfl)
      | (apply VVal.add64; rfl; rfl; omega)
      | (apply VVal.sub64; rfl; rfl; omega)
      | (apply VVal.and1; rfl; rfl; omega)
      | (apply VVal.and1U; rfl; rfl; omega)
      | (apply VVal.and1B; rfl; rfl; omega)
      | (apply VVal.andU; rfl; rfl; omega; omega)
      | (apply VVal.orU; rfl; rfl; omega; omega)
      | (apply VVal.andNotU; rfl; rfl; omega; omega)
      | (apply VVal.remI; rfl; rfl; omega; omega)
      | (apply VVal.quoI; rfl; rfl; omega; omega)
      | (apply VVal.int; rfl; rfl; rfl)
      | (apply VVal.indexN; rfl; rfl; rfl; omega; rfl)
      | (apply VVal.indexP; rfl; rfl; rfl; omega; omega; rfl)
      | (apply VVal.indexE; rfl; rfl; rfl; omega; omega; rfl)
      | (apply VVal.load; rfl; rfl)
      | (apply VVal.pick_true; rfl; rfl)
      | (apply VVal.pick_false; rfl; rfl)
      | (apply VVal.lenF; rfl; rfl)
      | (apply VVal.lenNil; rfl; rfl)
      | (apply VVal.lenV; rfl; rfl; rfl)
      | (apply VVal.fieldB; rfl; rfl; rfl)
      | (apply VVal.fieldF; rfl; rfl)
      | (apply VVal.box; rfl; trivial)
      | (apply VVal.alloc; rfl)
      | (apply VVal.storeB; rfl; rfl; rfl; trivial; rfl; rfl; exact lt_dec rfl; exact le_dec rfl)
      | (apply VVal.build; rfl; rfl; rfl; rfl; rfl)
      | (apply VVal.buildSlice; rfl; rfl; rfl; decide; rfl; rfl; rfl)
      | (apply VVal.not; rfl)
      | (apply VVal.extract; rfl; rfl)
      | (apply VVal.convI; rfl; rfl; rfl; omega)
      | (apply VVal.convInt; rfl; rfl; rfl)
      | (apply VVal.append1; rfl; rfl; rfl; rfl; rfl; rfl; rfl; rfl; (intro _ h; cases h); rfl; rfl; rfl; decide; decide; (first | omega | (simp only [List.length_take, List.length_drop, List.length_append, List.length_singleton, List.length_cons, List.length_nil] <;> omega)))
      | (apply VVal.appendL0; rfl; rfl; rfl; (first | rfl | omega | (simp only [List.length_take, List.length_drop, List.length_append, List.length_singleton, List.length_cons, List.length_nil] <;> omega)); rfl; rfl; (intro _ h; cases h); rfl; rfl; rfl; decide; decide; (first | omega | (simp only [List.length_take, List.length_drop, List.length_append, List.length_singleton, List.length_cons, List.length_nil] <;> omega)))
      | (apply VVal.appendL; rfl; rfl; rfl; (first | rfl | omega | (simp only [List.length_take, List.length_drop, List.length_append, List.length_singleton, List.length_cons, List.length_nil])); (first | rfl | omega | (simp only [List.length_take, List.length_drop, List.length_append, List.length_singleton, List.length_cons, List.length_nil] <;> omega)); rfl; rfl; (intro _ h; cases h); rfl; rfl; rfl; decide; decide; (first | omega | (simp only [List.length_take, List.length_drop, List.length_append, List.length_singleton, List.length_cons, List.length_nil] <;> omega)))
      | (apply VVal.shlOne; rfl; rfl; omega)
      | (apply VVal.shlOneU; rfl; rfl; omega)
      | (apply VVal.shrN; rfl; rfl; (simp only [IntKind.bits]; omega))
      | (apply VVal.sliceTo; rfl; rfl; rfl; rfl; rfl; rfl; omega)
      | (apply VVal.sliceFrom; rfl; rfl; rfl; rfl; rfl; rfl; omega)
      | (apply VVal.shr; rfl; rfl; omega)
      | (apply VVal.shl; rfl; rfl; omega)
      | (apply VWp.condSeq_true; rfl)
      | (apply VWp.condSeq_false; rfl)
      | (apply VWp.condSeq_dec; rfl)
      | (apply VWp.condSeq; rfl)
      | (apply VWp.cond_true; rfl)
      | (apply VWp.cond_false; rfl)
      | (apply VWp.cond_dec; rfl)
      | (apply VWp.cond; rfl)
      | (intro _; try (exfalso; omega)))
    · refine Done.ret rfl (.refl _) (by first | exact trivial | exact ⟨trivial, trivial, trivial⟩ | exact ⟨trivial, trivial, trivial, trivial⟩) HCov.nil (Nat.zero_le _) (Nat.le_refl _) ⟨?_, rfl, rfl⟩
      rw [show s.length = k by omega]
end Go.Proofs.YtmfnchgkffhpfaaDoor
