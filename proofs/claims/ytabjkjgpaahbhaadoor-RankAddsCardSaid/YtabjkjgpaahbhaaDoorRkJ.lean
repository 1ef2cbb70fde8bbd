/-
  The law of ranks: its own winds. Conditions: in each statement.
-/
import Derived.Test.YtabjkjgpaahbhaaDoorRkH
set_option linter.unusedSimpArgs false
set_option linter.unusedVariables false
namespace Go.Proofs.YtabjkjgpaahbhaaDoor
open Go Go.Am Go.Vm
attribute [local irreducible] VVal VOps VOpsD VWp VCalls VFun VFunV QSeq QBlk QLoop Vm.Done DoneV DoneI

set_option maxRecDepth 100000 in
set_option maxHeartbeats 1000000 in
theorem lwinds_spec (l : List Int) (hl : l.length < 9223372036854775808) : VFun env 20 [.lst 3 (cells l) l.length] (.p (.int .i64 (windsE l))) := by
  refine VFun.enter (env_none (by decide)) Tryd.func20 rfl (by kernel_rfl) (by simp [Tryd.ntmps20]) ?_
  repeat' (first
    | apply VWp.assoc
    | apply VWp.rseq
    | apply VWp.blockSeq
    | apply VOps.nil
    | apply VOps.one
    | (apply VVal.assign; rfl))
  refine VWp.loopQ (fun k : Nat => [(0, lst 3 l), (3, .p (.int .i64 (k : Int)))]) (fun _ => []) 0 (fun k => k ≤ l.length ∧ ∀ i, i < k → ¬ badW (gi l i)) (fun k => l.length - k) 0 (by omega) ⟨by omega, fun i hi => by omega⟩ ⟨by omega, ?_, ?_⟩ ?_
  · repeat (first | exact LCov.nil | refine LCov.same trivial rfl ?_ | refine LCov.same (lt_dec rfl) rfl ?_ | refine LCov.same ⟨trivial, lt_dec rfl, lt_dec rfl, lt_dec rfl, trivial⟩ rfl ?_ | refine LCov.same ⟨trivial, lt_dec rfl, lt_dec rfl, trivial⟩ rfl ?_ | refine LCov.same ⟨trivial, trivial⟩ rfl ?_ | refine LCov.cons trivial rfl (.of_eq (lst_len (by simp <;> omega))) ?_)
  · exact HCov.nil
  rintro k ⟨hk, hok⟩
  by_cases hkl : k < l.length
  · repeat' (first
      | apply VWp.assoc
      | apply VWp.rseq
      | apply VWp.region
      | apply VWp.skipSeq
      | apply VWp.blockSeq
      | apply QSeq.normal
      | apply QSeq.ret
      | apply QBlk.normal
      | apply QBlk.ret
      | apply QLoop.ret
      | apply VWp.ret
      | apply VWp.skip
      | apply VOps.nil
      | apply VOps.one
      | (apply VOps.take; rfl; rfl)
      | (apply VOps.drop; rfl; rfl; rfl)
      | (apply VOps.guard; rfl; rfl)
      | (apply VVal.assign; rfl)
      | (apply VVal.move; rfl)
      | (apply VVal.add64; rfl; rfl; omega)
      | (apply VVal.int; rfl; rfl; rfl)
      | (apply VVal.indexN; rfl; rfl; rfl; omega; rfl)
      | (apply VVal.load; rfl; rfl)
      | (apply VVal.pick_true; rfl; rfl)
      | (apply VVal.pick_false; rfl; rfl)
      | (apply VVal.lenF; rfl; rfl)
      | (apply VWp.condSeq_dec; rfl)
      | (apply VWp.cond_true; rfl)
      | (apply VWp.cond_dec; rfl)
      | (intro _; try (exfalso; omega)))
    all_goals try (exfalso; omega)
    all_goals first
      | (rw [show windsE l = 3 from if_neg (fun h => h k hkl (by unfold badW; omega))]; (refine Done.ret rfl (.refl _) (by first | exact trivial | exact ⟨trivial, trivial, trivial⟩ | exact ⟨trivial, trivial, trivial, trivial⟩) HCov.nil (Nat.zero_le _) (Nat.le_refl _) ⟨?_, rfl, rfl⟩; try rfl); done)
      | (refine QLoop.normal ⟨k + 1, ⟨by omega, fun i hi => ?_⟩, by omega, ⟨by omega, ?_, HCov.nil⟩⟩
         · rcases Nat.lt_or_ge i k with h | h
           · exact hok i h
           · obtain rfl : i = k := by omega
             unfold badW; omega
         · repeat (first | exact LCov.nil | refine LCov.same trivial rfl ?_ | refine LCov.same (lt_dec rfl) rfl ?_ | refine LCov.same ⟨trivial, lt_dec rfl, lt_dec rfl, lt_dec rfl, trivial⟩ rfl ?_ | refine LCov.same ⟨trivial, lt_dec rfl, lt_dec rfl, trivial⟩ rfl ?_ | refine LCov.same ⟨trivial, trivial⟩ rfl ?_ | refine LCov.cons trivial rfl (.of_eq (lst_len (by simp <;> omega))) ?_))
  · obtain rfl : k = l.length := by omega
    repeat' (first
      | apply VWp.assoc
      | apply VWp.rseq
      | apply VWp.exitSeq
      | apply QSeq.normal
      | apply QBlk.exit
      | apply QLoop.exit
      | apply VWp.ret
      | apply VOps.nil
      | apply VOps.one
      | (apply VVal.assign; rfl)
      | (apply VVal.move; rfl)
      | (apply VVal.int; rfl; rfl; rfl)
      | (apply VVal.lenF; rfl; rfl)
      | (apply VWp.condSeq_dec; rfl)
      | (intro _; try (exfalso; omega)))
    all_goals try (exfalso; omega)
    rw [show windsE l = 0 from if_pos (fun i hi => hok i hi)]
    (refine Done.ret rfl (.refl _) (by first | exact trivial | exact ⟨trivial, trivial, trivial⟩ | exact ⟨trivial, trivial, trivial, trivial⟩) HCov.nil (Nat.zero_le _) (Nat.le_refl _) ⟨?_, rfl, rfl⟩; try rfl)
end Go.Proofs.YtabjkjgpaahbhaaDoor
