/-
  The layer of ranks: Total; the law's table of feet. Conditions: in each statement.
-/
import Derived.Test.YtabjkjgpaahbhaaDoorRkF
set_option linter.unusedSimpArgs false
set_option linter.unusedVariables false
namespace Go.Proofs.YtabjkjgpaahbhaaDoor
open Go Go.Am Go.Vm
attribute [local irreducible] VVal VOps VOpsD VWp VCalls VFun VFunV QSeq QBlk QLoop Vm.Done DoneV DoneI
attribute [local irreducible] rchk windsE shz shiftR pipE

def sumK (l : List Int) : Nat → Int
  | 0 => 0
  | k + 1 => sumK l k + gi l k
theorem sumK_bd {l : List Int} (h : okW l) : ∀ k, k ≤ l.length → 0 ≤ sumK l k ∧ sumK l k ≤ k * 1000000
  | 0, _ => by simp [sumK]
  | k + 1, hk => by
    have h1 := sumK_bd h k (by omega)
    have h2 := h k (by omega)
    unfold badW at h2
    simp only [sumK]
    omega
noncomputable def totR (r : Rnk) : Int × Int := if rchk r ≠ 0 then (0, rchk r) else (sumK r.wind r.wind.length, 0)
set_option maxRecDepth 100000 in
set_option maxHeartbeats 1000000 in
theorem total_spec (r : Rnk) (h : rLen r) : VFun env 27 [.agg (Enc.enc r)] (.tup [.p (.int .i64 (totR r).1), .p (.int .i64 (totR r).2)]) := by
  have hc := rcheck_spec r h.1 h.2.1 h.2.2
  unfold totR
  refine VFun.enter (env_none (by decide)) Tryd.func27 rfl (by kernel_rfl) (by simp [Tryd.ntmps27]) ?_
  by_cases h0 : rchk r = 0
  · obtain ⟨-, -, -, h2, h3⟩ := rchk_ok h0
    rw [h0] at hc ⊢
    rw [if_neg (by decide)]
    repeat' (first
      | apply VWp.assoc
      | apply VWp.rseq
      | apply VWp.skipSeq
      | apply VWp.blockSeq
      | apply VOps.nil
      | apply VOps.one
      | (apply VVal.fn; rfl; rfl; exact hc; intro _; rfl)
      | (apply VVal.assign; rfl)
      | (apply VVal.move; rfl)
      | (apply VVal.int; rfl; rfl; rfl)
      | (apply VVal.load; rfl; rfl)
      | (apply VVal.lenF; rfl; rfl)
      | (apply VVal.fieldB; rfl; rfl; rfl)
      | (apply VVal.box; rfl; trivial)
      | (apply VWp.condSeq_false; rfl))
    all_goals try (exfalso; omega)
    refine VWp.loopQ (fun k : Nat => [(5, .p (.int .i64 (sumK r.wind k))), (14, lst 3 r.wind), (15, .p (.int .i64 (r.wind.length : Int))), (16, .p (.int .i64 (k : Int)))]) (fun _ => []) 0 (fun k => k ≤ r.wind.length) (fun k => r.wind.length - k) 0 (by omega) (by omega) ⟨by omega, ?_, ?_⟩ ?_
    · repeat (first | exact LCov.nil | refine LCov.same trivial rfl ?_ | refine LCov.same (lt_dec rfl) rfl ?_ | refine LCov.same ⟨trivial, lt_dec rfl, lt_dec rfl, lt_dec rfl, trivial⟩ rfl ?_ | refine LCov.same ⟨trivial, lt_dec rfl, lt_dec rfl, trivial⟩ rfl ?_ | refine LCov.same ⟨trivial, trivial⟩ rfl ?_ | refine LCov.cons trivial rfl (.of_eq (lst_len (by simp <;> omega))) ?_)
    · exact HCov.nil
    intro k hk
    have hb := sumK_bd h3 k hk
    by_cases hkl : k < r.wind.length
    · have hw := h3 k hkl
      unfold badW at hw
      repeat' (first
        | apply VWp.rseq
        | apply VWp.region
        | apply VWp.skipSeq
        | apply VWp.blockSeq
        | apply QSeq.normal
        | apply QBlk.normal
        | apply VOps.nil
        | apply VOps.one
        | (apply VVal.assign; rfl)
        | (apply VVal.move; rfl)
        | (apply VVal.add64; rfl; rfl; omega)
        | (apply VVal.int; rfl; rfl; rfl)
        | (apply VVal.indexN; rfl; rfl; rfl; omega; rfl)
        | (apply VVal.load; rfl; rfl)
        | (apply VWp.condSeq_dec; rfl)
        | (intro _; try (exfalso; omega)))
      all_goals try (exfalso; omega)
      refine QLoop.normal ⟨k + 1, by omega, by omega, ⟨by omega, ?_, ?_⟩⟩
      · repeat (first | exact LCov.nil | refine LCov.same trivial rfl ?_ | refine LCov.same (lt_dec rfl) rfl ?_ | refine LCov.same ⟨trivial, lt_dec rfl, lt_dec rfl, lt_dec rfl, trivial⟩ rfl ?_ | refine LCov.same ⟨trivial, lt_dec rfl, lt_dec rfl, trivial⟩ rfl ?_ | refine LCov.same ⟨trivial, trivial⟩ rfl ?_ | refine LCov.cons trivial rfl (.of_eq (lst_len (by simp <;> omega))) ?_)
      · exact HCov.nil
    · obtain rfl : k = r.wind.length := by omega
      repeat' (first
        | apply VWp.rseq
        | apply VWp.exitSeq
        | apply QSeq.normal
        | apply QBlk.exit
        | apply QLoop.exit
        | apply VWp.ret
        | apply VOps.nil
        | apply VOps.one
        | (apply VVal.assign; rfl)
        | (apply VVal.move; rfl)
        | (apply VVal.int; rfl; rfl; rfl)
        | (apply VWp.condSeq_dec; rfl)
        | (intro _; try (exfalso; omega)))
      all_goals first | (exfalso; omega) | (refine Done.ret rfl (.refl _) (by first | exact trivial | exact ⟨trivial, trivial, trivial⟩ | exact ⟨trivial, trivial, trivial, trivial⟩) HCov.nil (Nat.zero_le _) (Nat.le_refl _) ⟨?_, rfl, rfl⟩; try rfl)
  · rw [if_pos h0]
    repeat' (first
      | apply VWp.assoc
      | apply VWp.rseq
      | apply VWp.retSeq
      | apply VOps.nil
      | apply VOps.one
      | (apply VVal.fn; rfl; rfl; exact hc; intro _; rfl)
      | (apply VVal.assign; rfl)
      | (apply VVal.move; rfl)
      | (apply VVal.int; rfl; rfl; rfl)
      | (apply VVal.load; rfl; rfl)
      | (apply VVal.box; rfl; trivial)
      | (apply VWp.condSeq_dec; rfl)
      | (intro _; try (exfalso; omega)))
    all_goals first | (exfalso; omega) | (refine Done.ret rfl (.refl _) (by first | exact trivial | exact ⟨trivial, trivial, trivial⟩ | exact ⟨trivial, trivial, trivial, trivial⟩) HCov.nil (Nat.zero_le _) (Nat.le_refl _) ⟨?_, rfl, rfl⟩; try rfl)

def feetL : List Frac := [⟨8, 1⟩, ⟨4, 1⟩, ⟨16, 1⟩, ⟨2, 1⟩, ⟨8, 3⟩, ⟨8, 5⟩, ⟨4, 3⟩, ⟨1, 1⟩, ⟨32, 1⟩, ⟨16, 3⟩, ⟨16, 5⟩, ⟨32, 3⟩, ⟨8, 7⟩, ⟨2, 3⟩, ⟨1, 2⟩, ⟨64, 1⟩]
set_option maxRecDepth 100000 in
set_option maxHeartbeats 1000000 in
theorem feet_spec (n : Nat) (hn : n < 256) : VFun env 35 [.int .u8 (n : Int)] (.p (.agg (Enc.enc (gi feetL (n % 16))))) := by
  refine VFun.enter (env_none (by decide)) Tryd.func35 rfl (by kernel_rfl) (by simp [Tryd.ntmps35]) ?_
  have hlt : n % 16 < 16 := Nat.mod_lt _ (by decide)
  repeat' (first
    | (refine VOps.atOp 22 ?_; refine VOps.ghost (Ghost.freeze 19 rfl rfl) ?_)
    | apply VWp.rseq
    | apply VWp.ret
    | apply VOps.nil
    | apply VOps.one
    | (apply VVal.indexN (l := feetL) (i := n % 16) ; rfl ; rfl ; rfl ; exact hlt ; rfl)
    | (apply VVal.move; rfl)
    | (apply VVal.remI; rfl; rfl; omega; omega)
    | (apply VVal.load; rfl; rfl)
    | (apply VVal.alloc; rfl)
    | (apply VVal.storeB; rfl; rfl; rfl; trivial; rfl; rfl; exact lt_dec rfl; exact le_dec rfl)
    | (apply VVal.build; rfl; rfl; rfl; rfl; rfl)
    | (apply VVal.buildSlice; rfl; rfl; rfl; decide; rfl; rfl; rfl))
  all_goals (refine Done.ret rfl (.refl _) (by first | exact trivial | exact ⟨trivial, trivial, trivial⟩ | exact ⟨trivial, trivial, trivial, trivial⟩) HCov.nil (Nat.zero_le _) (Nat.le_refl _) ⟨?_, rfl, rfl⟩; try rfl)

set_option maxRecDepth 100000 in
set_option maxHeartbeats 1000000 in
theorem row_spec (feet first : Int) (pipes : Nat) (hp : pipes ≤ 1000) : VFun env 34 [.int .i64 feet, .int .i64 first, .int .i64 (pipes : Int)] (.p (.agg (Enc.enc (⟨[82, 111, 119], [79, 112, 101, 110], ⟨feet, 1⟩, first, List.replicate pipes 1⟩ : Rnk)))) := by
  refine VFun.enter (env_none (by decide)) Tryd.func34 rfl (by kernel_rfl) (by simp [Tryd.ntmps34]) ?_
  repeat' (first
    | apply VWp.assoc
    | apply VWp.rseq
    | apply VWp.blockSeq
    | apply VOps.nil
    | apply VOps.one
    | (apply VVal.assign; rfl)
    | (apply VVal.move; rfl)
    | (apply VVal.alloc; rfl)
    | (apply VVal.storeB; rfl; rfl; rfl; trivial; rfl; rfl; exact lt_dec rfl; exact le_dec rfl)
    | (apply VVal.build; rfl; rfl; rfl; rfl; rfl))
  refine VWp.ghost (Ghost.adoptCell 1 5 3 rfl rfl) ?_
  refine VWp.loopQ (fun k : Nat => [(2, .p (.int .i64 (pipes : Int))), (6, .ref 0 0), (7, .ref 1 0), (8, .p (.int .i64 (k : Int)))]) (fun k => [(2, .vec 3 (cells (List.replicate k (1 : Int))) (List.replicate k (1 : Int)).length true), (1, .box 31 [.p (.str ⟨#[82, 111, 119]⟩), .p (.str ⟨#[79, 112, 101, 110]⟩), .p (.int .i64 feet), .p (.int .i64 1), .p (.int .i64 first), .vec 2 (List.replicate k (1 : Int)).length 0 (List.replicate k (1 : Int)).length]), (0, .box 31 [.p (.str ⟨#[]⟩), .p (.str ⟨#[]⟩), .p (.int .i64 0), .p (.int .i64 0), .p (.int .i64 0), .p (.val (.slice none 0 0))])]) 3 (fun k => k ≤ pipes) (fun k => pipes - k) 0 (by omega) (by omega) ⟨by omega, ?_, ?_⟩ ?_
  · repeat (first | exact LCov.nil | refine LCov.same trivial rfl ?_ | refine LCov.same (lt_dec rfl) rfl ?_ | refine LCov.same ⟨trivial, lt_dec rfl, lt_dec rfl, lt_dec rfl, trivial⟩ rfl ?_ | refine LCov.same ⟨trivial, lt_dec rfl, lt_dec rfl, trivial⟩ rfl ?_ | refine LCov.same ⟨trivial, trivial⟩ rfl ?_ | refine LCov.cons trivial rfl (.of_eq (lst_len (by simp <;> omega))) ?_)
  · repeat (first | exact HCov.nil | (refine HCov.cons (lt_dec rfl) ?_ rfl ?_ ?_; (first | exact trivial | exact PVs.under_pure _ _ | (simp [HB.under, PVs.under, PV.under])); (first | exact HLe.refl _ | exact HLe.vec (FLes.refl _) (by simp))))
  intro k hk
  have hlen : (List.replicate k (1 : Int)).length = k := List.length_replicate
  have e1 : List.replicate (k + 1) (1 : Int) = List.replicate k 1 ++ [1] := List.replicate_succ'
  have e2 : (List.replicate (k + 1) (1 : Int)).length = (List.replicate k (1 : Int)).length + 1 := by rw [e1]; simp
  repeat' (first
    | (refine VWp.at 6 ?_; refine VWp.ghost (Ghost.freezeCell 1 5 rfl rfl rfl) ?_; first | apply VWp.rseq | apply VWp.rseqD)
    | apply VWp.assoc
    | apply VWp.rseq
    | apply VWp.region
    | apply VWp.skipSeq
    | apply VWp.exitSeq
    | apply VWp.blockSeq
    | apply QSeq.normal
    | apply QBlk.normal
    | apply QBlk.exit
    | apply QLoop.exit
    | apply VWp.ret
    | apply VOps.nil
    | apply VOps.one
    | (apply VVal.assign; rfl)
    | (apply VVal.move; rfl)
    | (apply VVal.add64; rfl; rfl; omega)
    | (apply VVal.int; rfl; rfl; rfl)
    | (apply VVal.load; rfl; rfl)
    | (apply VVal.fieldB; rfl; rfl; rfl)
    | (apply VVal.storeB; rfl; rfl; rfl; trivial; rfl; rfl; exact lt_dec rfl; exact le_dec rfl)
    | (apply VVal.buildSlice; rfl; rfl; rfl; decide; rfl; rfl; rfl)
    | (apply VVal.append1; rfl; rfl; rfl; rfl; rfl; rfl; rfl; rfl; (intro _ h; cases h); rfl; rfl; rfl; decide; decide; (first | omega | (simp only [List.length_take, List.length_drop, List.length_append, List.length_singleton, List.length_cons, List.length_nil] <;> omega)))
    | (apply VWp.condSeq_dec; rfl)
    | (intro _; try (exfalso; omega)))
  · refine QLoop.normal ⟨k + 1, by omega, by omega, ⟨by omega, ?_, ?_⟩⟩
    · repeat (first | exact LCov.nil | refine LCov.same trivial rfl ?_ | refine LCov.same (lt_dec rfl) rfl ?_ | refine LCov.same ⟨trivial, lt_dec rfl, lt_dec rfl, lt_dec rfl, trivial⟩ rfl ?_ | refine LCov.same ⟨trivial, lt_dec rfl, lt_dec rfl, trivial⟩ rfl ?_ | refine LCov.same ⟨trivial, trivial⟩ rfl ?_ | refine LCov.cons trivial rfl (.of_eq (lst_len (by simp <;> omega))) ?_)
    · rw [e2, e1]; repeat (first | exact HCov.nil | (refine HCov.cons (lt_dec rfl) ?_ rfl ?_ ?_; (first | exact trivial | exact PVs.under_pure _ _ | (simp [HB.under, PVs.under, PV.under])); (first | exact HLe.refl _ | exact HLe.vec (FLes.refl _) (by simp))))
  · obtain rfl : k = pipes := by omega
    (refine Done.ret rfl (.refl _) (by first | exact trivial | exact ⟨trivial, trivial, trivial⟩ | exact ⟨trivial, trivial, trivial, trivial⟩) HCov.nil (Nat.zero_le _) (Nat.le_refl _) ⟨?_, rfl, rfl⟩; try rfl)
end Go.Proofs.YtabjkjgpaahbhaaDoor
