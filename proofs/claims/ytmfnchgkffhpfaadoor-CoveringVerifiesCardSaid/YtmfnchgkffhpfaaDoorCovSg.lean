/-
  The statement's check of a proof. Conditions: in each statement.
-/
import Derived.Test.YtmfnchgkffhpfaaDoorCovSf
import Derived.Test.YtmfnchgkffhpfaaDoorCovSd
set_option linter.unusedSimpArgs false
set_option linter.unusedVariables false
set_option linter.unusedSectionVars false
namespace Go.Proofs.YtmfnchgkffhpfaaDoor
open Go Go.Am Go.Vm
attribute [local irreducible] VVal VOps VOpsD VWp VCalls VFun VFunV QSeq QBlk QLoop Vm.Done DoneV DoneI VRead VReadV
section
variable (p:CProb) (n:Nat) (hp:p.n=n) (hn:n≤7) (hL:p.sets.length≤7) (h:ElsOk p.sets) (hE:Elsn p.sets n)
include hp hn hL h hE
open Classical in
set_option maxRecDepth 100000 in
set_option maxHeartbeats 8000000 in
theorem lgap_spec (e:Int) (s:List Int) (hs:s.length=p.sets.length):VRead env 61 [.p (.agg (Enc.enc p)),.p (.int .i64 e),.vec 0 p.sets.length 0 p.sets.length] [(0,.vec 3 (cells s) p.sets.length false)] 1 (.bool (decide (gapP p.sets n e s))):=by
 by_cases hr:0≤e∧e<n
 case neg =>
  rw [decide_eq_false (fun hg:gapP _ _ _ _=>hr hg.1)]
  refine VRead.enter (env_none (by decide)) Tryd.func61 rfl (by kernel_rfl) (by simp [Tryd.ntmps61]) ?_
  repeat' (first
   |apply VWp.assoc
   |apply VWp.rseq
   |apply VWp.retSeq
   |apply VOps.nil
   |apply VOps.one
   |(apply VOps.take;rfl;rfl)
   |(apply VOps.drop;rfl;rfl;rfl)
   |(apply VOps.guard;rfl;rfl)
   |(apply VVal.assign;rfl)
   |(apply VVal.move;rfl)
   |(apply VVal.int;rfl;rfl;rfl)
   |(apply VVal.load;rfl;rfl)
   |(apply VVal.pick_true;rfl;rfl)
   |(apply VVal.pick_false;rfl;rfl)
   |(apply VVal.fieldB;rfl;rfl;rfl)
   |(apply VVal.box;rfl;trivial)
   |(apply VWp.condSeq_true;rfl)
   |(apply VWp.condSeq_dec;rfl)
   |(intro _;try (exfalso;omega)))
  all_goals first|(exfalso;omega)|(refine Done.ret rfl (.refl _) trivial ?_ (by omega) (Nat.le_refl _) ⟨?_,rfl,rfl⟩;repeat (first|exact HCov.nil|(refine HCov.cons (lt_dec rfl) ?_ rfl ?_ ?_;(first|exact HB.under_of rfl|exact PVs.under_pure _ _|(simp [HB.under,PVs.under,PV.under]));(first|exact HLe.refl _|exact HLe.vec (FLes.refl _) (by simp))));try rfl)
 refine VRead.enter (env_none (by decide)) Tryd.func61 rfl (by kernel_rfl) (by simp [Tryd.ntmps61]) ?_
 repeat' (first
  |apply VWp.assoc
  |apply VWp.rseq
  |apply VWp.skipSeq
  |apply VWp.blockSeq
  |apply VOps.nil
  |apply VOps.one
  |(apply VOps.take;rfl;rfl)
  |(apply VOps.guard;rfl;rfl)
  |(apply VVal.assign;rfl)
  |(apply VVal.move;rfl)
  |(apply VVal.int;rfl;rfl;rfl)
  |(apply VVal.load;rfl;rfl)
  |(apply VVal.pick_false;rfl;rfl)
  |(apply VVal.lenF;rfl;rfl)
  |(apply VVal.fieldB;rfl;rfl;rfl)
  |(apply VVal.box;rfl;trivial)
  |(apply VWp.condSeq_dec;rfl)
  |(intro _;try (exfalso;omega)))
 all_goals try (exfalso;omega)
 apply VWp.loopRI (p.sets.length) (fun k=>∀ i,i<k→¬ (gi s i≠2∧e∈(gi p.sets i).els)) [(1,_),(2,_),(18,_),(19,_)] [(0,_)] (fun k r=>(20,.p (.int .i64 (k:Int)))::r) (fun k r=>r) 2
 ·omega
 ·omega
 ·repeat (first|exact LCov.nil|(refine LCov.eq rfl ?_ ?_;(first|exact PV.under_of rfl|(simp [PV.under,PVs.under];done)))|refine LCov.cons trivial rfl (.of_eq (lst_len (by simp<;>omega))) ?_)
 ·repeat (first|exact HCov.nil|(refine HCov.eq rfl (lt_dec rfl) ?_ ?_;(first|exact HB.under_of rfl|exact PVs.under_pure _ _|(simp [HB.under,PVs.under,PV.under];done)))|(refine HCov.cons (lt_dec rfl) ?_ rfl ?_ ?_;(first|exact trivial|exact PVs.under_pure _ _|(simp [HB.under,PVs.under,PV.under]));(first|exact HLe.refl _|exact HLe.vec (FLes.refl _) (by simp))))
 ·first|(intro _ _;omega)|omega|trivial
 ·intro k hk hiv
  have hh:=has_spec 3 (gi p.sets k).els e (by have:=(h k hk).1;omega)
  by_cases h2:gi s k=2
  ·have hiv2:∀ i,i<k+1→¬ (gi s i≠2∧e∈(gi p.sets i).els):=fun i hi=>by
    by_cases e1:i=k
    ·subst e1;exact fun hh=>hh.1 h2
    ·exact hiv i (by omega)
   repeat' (first
    |apply VWp.rseq
    |apply VWp.region
    |apply VWp.skipSeq
    |apply VWp.blockSeq
    |apply QSeq.normal
    |apply QBlk.normal
    |apply VWp.skip
    |apply VOps.nil
    |apply VOps.one
    |(apply VOps.drop;rfl;rfl;rfl)
    |(apply VOps.guard;rfl;rfl)
    |(apply VVal.assign;rfl)
    |(apply VVal.move;rfl)
    |(apply VVal.add64;rfl;rfl;omega)
    |(apply VVal.int;rfl;rfl;rfl)
    |(apply VVal.indexN;rfl;rfl;rfl;omega;rfl)
    |(apply VVal.loadVL;rfl;rfl;omega;rfl)
    |(apply VVal.load;rfl;rfl)
    |(apply VVal.pick_false;rfl;rfl)
    |(apply VVal.alloc;rfl)
    |(apply VVal.storeB;rfl;rfl;rfl;trivial;rfl;rfl;exact lt_dec rfl;exact le_dec rfl)
    |(apply VVal.indexVN;rfl;rfl;rfl;rfl;omega)
    |(apply VWp.condSeq_dec;rfl)
    |(apply VWp.cond_false;rfl)
    |(intro _;try (exfalso;omega)))
   all_goals try (exfalso;omega)
   refine QLoop.normal ⟨hiv2,by omega,?_,?_⟩
   ·repeat (first|exact LCov.nil|refine LCov.same trivial rfl ?_|refine LCov.same (lt_dec rfl) rfl ?_|refine LCov.same ⟨trivial,lt_dec rfl,trivial⟩ rfl ?_|refine LCov.same ⟨trivial,lt_dec rfl,lt_dec rfl,trivial⟩ rfl ?_|refine LCov.same ⟨trivial,lt_dec rfl,lt_dec rfl,lt_dec rfl,trivial⟩ rfl ?_|refine LCov.same ⟨trivial,trivial⟩ rfl ?_|refine LCov.cons trivial rfl (.of_eq (lst_len (by simp<;>omega))) ?_)
   ·repeat (first|exact HCov.nil|(refine HCov.cons (lt_dec rfl) ?_ rfl ?_ ?_;(first|exact HB.under_of rfl|exact PVs.under_pure _ _|(simp [HB.under,PVs.under,PV.under]));(first|exact HLe.refl _|exact HLe.vec (FLes.refl _) (by simp))))
  ·by_cases hmem:e∈(gi p.sets k).els
   ·rw [decide_eq_false (fun hg:gapP _ _ _ _=>hg.2 k hk ⟨h2,hmem⟩)]
    rw [decide_eq_true hmem] at hh
    repeat' (first
     |apply VWp.rseq
     |apply VWp.skipSeq
     |apply VWp.blockSeq
     |apply QSeq.ret
     |apply QBlk.ret
     |apply QLoop.ret
     |apply VWp.ret
     |apply VOps.nil
     |apply VOps.one
     |(apply VOps.take;rfl;rfl)
     |(apply VOps.guard;rfl;rfl)
     |(apply VVal.fn;rfl;rfl;exact hh;intro _;rfl)
     |(apply VVal.assign;rfl)
     |(apply VVal.move;rfl)
     |(apply VVal.int;rfl;rfl;rfl)
     |(apply VVal.indexN;rfl;rfl;rfl;omega;rfl)
     |(apply VVal.loadVL;rfl;rfl;omega;rfl)
     |(apply VVal.load;rfl;rfl)
     |(apply VVal.pick_true;rfl;rfl)
     |(apply VVal.fieldB;rfl;rfl;rfl)
     |(apply VVal.alloc;rfl)
     |(apply VVal.storeB;rfl;rfl;rfl;trivial;rfl;rfl;exact lt_dec rfl;exact le_dec rfl)
     |(apply VVal.indexVN;rfl;rfl;rfl;rfl;omega)
     |(apply VWp.condSeq_dec;rfl)
     |(apply VWp.cond_true;rfl)
     |(intro _;try (exfalso;omega)))
    all_goals first|(exfalso;omega)|(refine Done.ret rfl (.refl _) trivial ?_ (by omega) (Nat.le_refl _) ⟨?_,rfl,rfl⟩;repeat (first|exact HCov.nil|(refine HCov.cons (lt_dec rfl) ?_ rfl ?_ ?_;(first|exact HB.under_of rfl|exact PVs.under_pure _ _|(simp [HB.under,PVs.under,PV.under]));(first|exact HLe.refl _|exact HLe.vec (FLes.refl _) (by simp))));try rfl)
   ·have hiv2:∀ i,i<k+1→¬ (gi s i≠2∧e∈(gi p.sets i).els):=fun i hi=>by
     by_cases e1:i=k
     ·subst e1;exact fun hh=>hmem hh.2
     ·exact hiv i (by omega)
    rw [decide_eq_false hmem] at hh
    repeat' (first
     |apply VWp.rseq
     |apply VWp.region
     |apply VWp.skipSeq
     |apply VWp.blockSeq
     |apply QSeq.normal
     |apply QBlk.normal
     |apply VWp.skip
     |apply VOps.nil
     |apply VOps.one
     |(apply VOps.take;rfl;rfl)
     |(apply VOps.guard;rfl;rfl)
     |(apply VVal.fn;rfl;rfl;exact hh;intro _;rfl)
     |(apply VVal.assign;rfl)
     |(apply VVal.move;rfl)
     |(apply VVal.add64;rfl;rfl;omega)
     |(apply VVal.int;rfl;rfl;rfl)
     |(apply VVal.indexN;rfl;rfl;rfl;omega;rfl)
     |(apply VVal.loadVL;rfl;rfl;omega;rfl)
     |(apply VVal.load;rfl;rfl)
     |(apply VVal.pick_true;rfl;rfl)
     |(apply VVal.fieldB;rfl;rfl;rfl)
     |(apply VVal.alloc;rfl)
     |(apply VVal.storeB;rfl;rfl;rfl;trivial;rfl;rfl;exact lt_dec rfl;exact le_dec rfl)
     |(apply VVal.indexVN;rfl;rfl;rfl;rfl;omega)
     |(apply VWp.condSeq_dec;rfl)
     |(apply VWp.cond_false;rfl)
     |(intro _;try (exfalso;omega)))
    all_goals try (exfalso;omega)
    refine QLoop.normal ⟨hiv2,by omega,?_,?_⟩
    ·repeat (first|exact LCov.nil|refine LCov.same trivial rfl ?_|refine LCov.same (lt_dec rfl) rfl ?_|refine LCov.same ⟨trivial,lt_dec rfl,trivial⟩ rfl ?_|refine LCov.same ⟨trivial,lt_dec rfl,lt_dec rfl,trivial⟩ rfl ?_|refine LCov.same ⟨trivial,lt_dec rfl,lt_dec rfl,lt_dec rfl,trivial⟩ rfl ?_|refine LCov.same ⟨trivial,trivial⟩ rfl ?_|refine LCov.cons trivial rfl (.of_eq (lst_len (by simp<;>omega))) ?_)
    ·repeat (first|exact HCov.nil|(refine HCov.cons (lt_dec rfl) ?_ rfl ?_ ?_;(first|exact HB.under_of rfl|exact PVs.under_pure _ _|(simp [HB.under,PVs.under,PV.under]));(first|exact HLe.refl _|exact HLe.vec (FLes.refl _) (by simp))))
 ·intro hiv
  rw [decide_eq_true (show gapP p.sets n e s from ⟨hr,hiv⟩)]
  repeat' (first
   |apply VWp.rseq
   |apply VWp.exitSeq
   |apply QSeq.normal
   |apply QBlk.exit
   |apply QLoop.exit
   |apply VWp.ret
   |apply VOps.nil
   |apply VOps.one
   |(apply VVal.assign;rfl)
   |(apply VVal.int;rfl;rfl;rfl)
   |(apply VWp.condSeq_dec;rfl)
   |(intro _;try (exfalso;omega)))
  all_goals first|(exfalso;omega)|(refine Done.ret rfl (.refl _) trivial ?_ (by omega) (Nat.le_refl _) ⟨?_,rfl,rfl⟩;repeat (first|exact HCov.nil|(refine HCov.cons (lt_dec rfl) ?_ rfl ?_ ?_;(first|exact HB.under_of rfl|exact PVs.under_pure _ _|(simp [HB.under,PVs.under,PV.under]));(first|exact HLe.refl _|exact HLe.vec (FLes.refl _) (by simp))));try rfl)
open Classical in
set_option maxRecDepth 100000 in
set_option maxHeartbeats 16000000 in
theorem lbound_spec (y:CNode) (cost:Int) (s:List Int) (hs:s.length=p.sets.length) (hy:y.ws.length<1000):VRead env 62 [.p (.agg (Enc.enc p)),.p (.agg (Enc.enc y)),.p (.int .i64 cost),.vec 0 p.sets.length 0 p.sets.length] [(0,.vec 3 (cells s) p.sets.length false)] 1 (.bool (decide (bndP p.sets n cost y s))):=by
 by_cases hlen:y.ws.length=n
 case neg =>
  rw [decide_eq_false (fun hb:bndP _ _ _ _ _=>hlen hb.1.1)]
  refine VRead.enter (env_none (by decide)) Tryd.func62 rfl (by kernel_rfl) (by simp [Tryd.ntmps62]) ?_
  repeat' (first
   |apply VWp.assoc
   |apply VWp.rseq
   |apply VWp.retSeq
   |apply VOps.nil
   |apply VOps.one
   |(apply VVal.assign;rfl)
   |(apply VVal.int;rfl;rfl;rfl)
   |(apply VVal.load;rfl;rfl)
   |(apply VVal.lenF;rfl;rfl)
   |(apply VVal.fieldB;rfl;rfl;rfl)
   |(apply VVal.box;rfl;trivial)
   |(apply VWp.condSeq_dec;rfl)
   |(intro _;try (exfalso;omega)))
  all_goals first|(exfalso;omega)|(refine Done.ret rfl (.refl _) trivial ?_ (by omega) (Nat.le_refl _) ⟨?_,rfl,rfl⟩;repeat (first|exact HCov.nil|(refine HCov.cons (lt_dec rfl) ?_ rfl ?_ ?_;(first|exact HB.under_of rfl|exact PVs.under_pure _ _|(simp [HB.under,PVs.under,PV.under]));(first|exact HLe.refl _|exact HLe.vec (FLes.refl _) (by simp))));try rfl)
 subst hlen
 have hsum:∀ k,k≤y.ws.length→(∀ i,i<k→0≤gi y.ws i∧gi y.ws i≤1000000)→0≤sumK y.ws k∧sumK y.ws k≤k*1000000:=fun k hk hb=>by
  induction k with
  |zero=>simp [sumK]
  |succ k ih =>
   have h1:=ih (by omega) (fun i hi=>hb i (by omega))
   have h2:=hb k (by omega)
   simp only [sumK]
   omega
 refine VRead.enter (env_none (by decide)) Tryd.func62 rfl (by kernel_rfl) (by simp [Tryd.ntmps62]) ?_
 repeat' (first
  |apply VWp.assoc
  |apply VWp.rseq
  |apply VWp.skipSeq
  |apply VWp.blockSeq
  |apply VOps.nil
  |apply VOps.one
  |(apply VVal.assign;rfl)
  |(apply VVal.move;rfl)
  |(apply VVal.int;rfl;rfl;rfl)
  |(apply VVal.load;rfl;rfl)
  |(apply VVal.lenF;rfl;rfl)
  |(apply VVal.fieldB;rfl;rfl;rfl)
  |(apply VVal.box;rfl;trivial)
  |(apply VWp.condSeq_dec;rfl)
  |(intro _;try (exfalso;omega)))
 all_goals try (exfalso;omega)
 apply VWp.loopRI (y.ws.length) (fun k=>∀ i,i<k→0≤gi y.ws i∧gi y.ws i≤1000000) [(2,_),(3,_),(4,_),(5,_),(24,_),(25,_)] [(0,_),(1,_),(2,_)] (fun k r=>(26,.p (.int .i64 (k:Int)))::(9,.p (.int .i64 (sumK y.ws k)))::r) (fun k r=>r) 3
 ·omega
 ·omega
 ·repeat (first|exact LCov.nil|(refine LCov.eq rfl ?_ ?_;(first|exact PV.under_of rfl|(simp [PV.under,PVs.under];done)))|refine LCov.cons trivial rfl (.of_eq (lst_len (by simp<;>omega))) ?_)
 ·repeat (first|exact HCov.nil|(refine HCov.eq rfl (lt_dec rfl) ?_ ?_;(first|exact HB.under_of rfl|exact PVs.under_pure _ _|(simp [HB.under,PVs.under,PV.under];done)))|(refine HCov.cons (lt_dec rfl) ?_ rfl ?_ ?_;(first|exact trivial|exact PVs.under_pure _ _|(simp [HB.under,PVs.under,PV.under]));(first|exact HLe.refl _|exact HLe.vec (FLes.refl _) (by simp))))
 ·first|(intro _ _;omega)|omega|trivial
 ·intro k hk hiv
  have hs0:=hsum k (by omega) hiv
  by_cases hok:0≤gi y.ws k∧gi y.ws k≤1000000
  ·have hiv2:∀ i,i<k+1→0≤gi y.ws i∧gi y.ws i≤1000000:=fun i hi=>by
    by_cases e1:i=k
    ·subst e1;exact hok
    ·exact hiv i (by omega)
   repeat' (first
    |apply VWp.assoc
    |apply VWp.rseq
    |apply VWp.region
    |apply VWp.skipSeq
    |apply VWp.blockSeq
    |apply QSeq.normal
    |apply QBlk.normal
    |apply VOps.nil
    |apply VOps.one
    |(apply VOps.take;rfl;rfl)
    |(apply VOps.guard;rfl;rfl)
    |(apply VVal.assign;rfl)
    |(apply VVal.move;rfl)
    |(apply VVal.add64;rfl;rfl;omega)
    |(apply VVal.int;rfl;rfl;rfl)
    |(apply VVal.indexN;rfl;rfl;rfl;omega;rfl)
    |(apply VVal.load;rfl;rfl)
    |(apply VVal.pick_false;rfl;rfl)
    |(apply VWp.condSeq_dec;rfl)
    |(intro _;try (exfalso;omega)))
   all_goals try (exfalso;omega)
   refine QLoop.normal ⟨hiv2,by omega,?_,?_⟩
   ·repeat (first|exact LCov.nil|refine LCov.same trivial rfl ?_|refine LCov.same (lt_dec rfl) rfl ?_|refine LCov.same ⟨trivial,lt_dec rfl,trivial⟩ rfl ?_|refine LCov.same ⟨trivial,lt_dec rfl,lt_dec rfl,trivial⟩ rfl ?_|refine LCov.same ⟨trivial,lt_dec rfl,lt_dec rfl,lt_dec rfl,trivial⟩ rfl ?_|refine LCov.same ⟨trivial,trivial⟩ rfl ?_|refine LCov.cons trivial rfl (.of_eq (lst_len (by simp<;>omega))) ?_)
   ·repeat (first|exact HCov.nil|(refine HCov.cons (lt_dec rfl) ?_ rfl ?_ ?_;(first|exact HB.under_of rfl|exact PVs.under_pure _ _|(simp [HB.under,PVs.under,PV.under]));(first|exact HLe.refl _|exact HLe.vec (FLes.refl _) (by simp))))
  ·rw [decide_eq_false (fun hb:bndP _ _ _ _ _=>hok (hb.1.2 k hk))]
   repeat' (first
    |apply VWp.assoc
    |apply VWp.rseq
    |apply VWp.skipSeq
    |apply VWp.retSeq
    |apply VWp.blockSeq
    |apply QSeq.ret
    |apply QBlk.ret
    |apply QLoop.ret
    |apply VOps.nil
    |apply VOps.one
    |(apply VOps.take;rfl;rfl)
    |(apply VOps.drop;rfl;rfl;rfl)
    |(apply VOps.guard;rfl;rfl)
    |(apply VVal.assign;rfl)
    |(apply VVal.move;rfl)
    |(apply VVal.int;rfl;rfl;rfl)
    |(apply VVal.indexN;rfl;rfl;rfl;omega;rfl)
    |(apply VVal.load;rfl;rfl)
    |(apply VVal.pick_true;rfl;rfl)
    |(apply VVal.pick_false;rfl;rfl)
    |(apply VWp.condSeq_true;rfl)
    |(apply VWp.condSeq_dec;rfl)
    |(intro _;try (exfalso;omega)))
   all_goals first|(exfalso;omega)|(refine Done.ret rfl (.refl _) trivial ?_ (by omega) (Nat.le_refl _) ⟨?_,rfl,rfl⟩;repeat (first|exact HCov.nil|(refine HCov.cons (lt_dec rfl) ?_ rfl ?_ ?_;(first|exact HB.under_of rfl|exact PVs.under_pure _ _|(simp [HB.under,PVs.under,PV.under]));(first|exact HLe.refl _|exact HLe.vec (FLes.refl _) (by simp))));try rfl)
 intro hiv
 have hs0:=hsum y.ws.length (Nat.le_refl _) hiv
 have hcs:=costS_bd h s
 repeat' (first
  |apply VWp.assoc
  |apply VWp.rseq
  |apply VWp.exitSeq
  |apply VWp.blockSeq
  |apply QSeq.normal
  |apply QBlk.exit
  |apply QLoop.exit
  |apply VOps.nil
  |apply VOps.one
  |(apply VVal.move;rfl)
  |(apply VVal.int;rfl;rfl;rfl)
  |(apply VVal.load;rfl;rfl)
  |(apply VVal.lenF;rfl;rfl)
  |(apply VVal.fieldB;rfl;rfl;rfl)
  |(apply VWp.condSeq_dec;rfl)
  |(intro _;try (exfalso;omega)))
 all_goals try (exfalso;omega)
 refine VWp.ghost (Ghost.le 9 rfl (v0:=.p (.int .i64 (sumK y.ws y.ws.length+costS p.sets s 0))) (.of_eq (by simp [costS]))) ?_
 apply VWp.loopRI (p.sets.length) (fun k=>∀ i,i<k→¬ (gi s i=1∧weighK (gi p.sets i) y.ws (gi p.sets i).els.length>0)∧¬ (gi s i=0∧weighK (gi p.sets i) y.ws (gi p.sets i).els.length>(gi p.sets i).cost)) [(2,_),(3,_),(5,_),(41,_),(42,_)] [(0,_),(1,_),(2,_)] (fun k r=>(43,.p (.int .i64 (k:Int)))::(9,.p (.int .i64 (sumK y.ws y.ws.length+costS p.sets s k)))::r) (fun k r=>r) 3
 ·omega
 ·omega
 ·repeat (first|exact LCov.nil|(refine LCov.eq rfl ?_ ?_;(first|exact PV.under_of rfl|(simp [PV.under,PVs.under];done)))|refine LCov.cons trivial rfl (.of_eq (lst_len (by simp<;>omega))) ?_)
 ·repeat (first|exact HCov.nil|(refine HCov.eq rfl (lt_dec rfl) ?_ ?_;(first|exact HB.under_of rfl|exact PVs.under_pure _ _|(simp [HB.under,PVs.under,PV.under];done)))|(refine HCov.cons (lt_dec rfl) ?_ rfl ?_ ?_;(first|exact trivial|exact PVs.under_pure _ _|(simp [HB.under,PVs.under,PV.under]));(first|exact HLe.refl _|exact HLe.vec (FLes.refl _) (by simp))))
 ·first|(intro _ _;omega)|omega|trivial
 ·intro k hk hiv2
  obtain ⟨g1,g2,g3,g4⟩:=h k hk
  have hEk:=hE k hk
  have hck:=hcs k (by omega)
  have hwb:=fun j hj=>weighK_bd (c:=gi p.sets k) (ws:=y.ws) hiv hEk j hj
  repeat' (first
   |apply VWp.assoc
   |apply VWp.rseq
   |apply VWp.skipSeq
   |apply VWp.blockSeq
   |apply VOps.nil
   |apply VOps.one
   |(apply VVal.assign;rfl)
   |(apply VVal.move;rfl)
   |(apply VVal.int;rfl;rfl;rfl)
   |(apply VVal.indexN;rfl;rfl;rfl;omega;rfl)
   |(apply VVal.load;rfl;rfl)
   |(apply VVal.lenF;rfl;rfl)
   |(apply VVal.fieldB;rfl;rfl;rfl)
   |(apply VVal.alloc;rfl)
   |(apply VVal.storeB;rfl;rfl;rfl;trivial;rfl;rfl;exact lt_dec rfl;exact le_dec rfl)
   |(apply VWp.condSeq_dec;rfl)
   |(intro _;try (exfalso;omega)))
  all_goals try (exfalso;omega)
  apply VWp.loopR ((gi p.sets k).els.length) [(2,_),(3,_),(5,_),(9,_),(12,_),(13,_),(41,_),(42,_),(43,_),(49,_),(50,_)] [(0,_),(1,_),(2,_),(3,_)] (fun k_ r=>(51,.p (.int .i64 (k_:Int)))::(14,.p (.int .i64 (weighK (gi p.sets k) y.ws k_)))::r) (fun k_ r=>r) 4
  ·omega
  ·omega
  ·repeat (first|exact LCov.nil|(refine LCov.eq rfl ?_ ?_;(first|exact PV.under_of rfl|(simp [PV.under,PVs.under];done)))|refine LCov.cons trivial rfl (.of_eq (lst_len (by simp<;>omega))) ?_)
  ·repeat (first|exact HCov.nil|(refine HCov.eq rfl (lt_dec rfl) ?_ ?_;(first|exact HB.under_of rfl|exact PVs.under_pure _ _|(simp [HB.under,PVs.under,PV.under];done)))|(refine HCov.cons (lt_dec rfl) ?_ rfl ?_ ?_;(first|exact trivial|exact PVs.under_pure _ _|(simp [HB.under,PVs.under,PV.under]));(first|exact HLe.refl _|exact HLe.vec (FLes.refl _) (by simp))))
  ·intro j hj
   have hej:=hEk j hj
   have hwj:=hiv (gi (gi p.sets k).els j).toNat (by omega)
   have hbj:=hwb j (by omega)
   repeat' (first
    |apply VWp.rseq
    |apply VWp.region
    |apply VWp.skipSeq
    |apply VWp.blockSeq
    |apply QSeq.normal
    |apply QBlk.normal
    |apply VOps.nil
    |apply VOps.one
    |(apply VVal.assign;rfl)
    |(apply VVal.move;rfl)
    |(apply VVal.add64;rfl;rfl;omega)
    |(apply VVal.int;rfl;rfl;rfl)
    |(apply VVal.indexN;rfl;rfl;rfl;omega;rfl)
    |(apply VVal.indexE;rfl;rfl;rfl;omega;omega;rfl)
    |(apply VVal.load;rfl;rfl)
    |(apply VVal.fieldB;rfl;rfl;rfl)
    |(apply VWp.condSeq_dec;rfl)
    |(intro _;try (exfalso;omega)))
   all_goals try (exfalso;omega)
   refine QLoop.normal ⟨by omega,?_,?_⟩
   ·repeat (first|exact LCov.nil|refine LCov.same trivial rfl ?_|refine LCov.same (lt_dec rfl) rfl ?_|refine LCov.same ⟨trivial,lt_dec rfl,trivial⟩ rfl ?_|refine LCov.same ⟨trivial,lt_dec rfl,lt_dec rfl,trivial⟩ rfl ?_|refine LCov.same ⟨trivial,lt_dec rfl,lt_dec rfl,lt_dec rfl,trivial⟩ rfl ?_|refine LCov.same ⟨trivial,trivial⟩ rfl ?_|refine LCov.cons trivial rfl (.of_eq (lst_len (by simp<;>omega))) ?_)
   ·repeat (first|exact HCov.nil|(refine HCov.cons (lt_dec rfl) ?_ rfl ?_ ?_;(first|exact HB.under_of rfl|exact PVs.under_pure _ _|(simp [HB.under,PVs.under,PV.under]));(first|exact HLe.refl _|exact HLe.vec (FLes.refl _) (by simp))))
  have hW:=hwb _ (Nat.le_refl _)
  have hcs1:costS p.sets s (k+1)=if gi s k=1 then costS p.sets s k+(gi p.sets k).cost else costS p.sets s k:=rfl
  generalize hWg:weighK (gi p.sets k) y.ws (gi p.sets k).els.length=W at *
  by_cases hok:¬ (gi s k=1∧W>0)∧¬ (gi s k=0∧W>(gi p.sets k).cost)
  case neg =>
   rw [decide_eq_false (fun hb:bndP _ _ _ _ _=>hok (by rw [← hWg];exact hb.2.1 k hk))]
   by_cases k1:gi s k=1
   ·repeat' (first
     |apply VWp.rseq
     |apply VWp.exitSeq
     |apply QSeq.normal
     |apply QSeq.ret
     |apply QBlk.ret
     |apply QBlk.exit
     |apply QLoop.ret
     |apply QLoop.exit
     |apply VWp.ret
     |apply VWp.blockQ
     |apply VOps.nil
     |apply VOps.one
     |(apply VOps.take;rfl;rfl)
     |(apply VOps.drop;rfl;rfl;rfl)
     |(apply VOps.guard;rfl;rfl)
     |(apply VOps.dropU;rfl;rfl)
     |(apply VVal.assign;rfl)
     |(apply VVal.move;rfl)
     |(apply VVal.int;rfl;rfl;rfl)
     |(apply VVal.loadVL;rfl;rfl;omega;rfl)
     |(apply VVal.pick_true;rfl;rfl)
     |(apply VVal.indexVN;rfl;rfl;rfl;rfl;omega)
     |(apply VWp.condSeq_dec;rfl)
     |(apply VWp.cond_true;rfl)
     |(intro _;try (exfalso;omega)))
    all_goals first|(exfalso;omega)|(refine Done.ret rfl (.refl _) trivial ?_ (by omega) (Nat.le_refl _) ⟨?_,rfl,rfl⟩;repeat (first|exact HCov.nil|(refine HCov.cons (lt_dec rfl) ?_ rfl ?_ ?_;(first|exact HB.under_of rfl|exact PVs.under_pure _ _|(simp [HB.under,PVs.under,PV.under]));(first|exact HLe.refl _|exact HLe.vec (FLes.refl _) (by simp))));try rfl)
   ·by_cases k0:gi s k=0
    ·repeat' (first
      |apply VWp.rseq
      |apply VWp.exitSeq
      |apply QSeq.normal
      |apply QSeq.ret
      |apply QBlk.ret
      |apply QBlk.exit
      |apply QLoop.ret
      |apply QLoop.exit
      |apply VWp.ret
      |apply VWp.blockQ
      |apply VOps.nil
      |apply VOps.one
      |(apply VOps.take;rfl;rfl)
      |(apply VOps.drop;rfl;rfl;rfl)
      |(apply VOps.guard;rfl;rfl)
      |(apply VVal.assign;rfl)
      |(apply VVal.move;rfl)
      |(apply VVal.int;rfl;rfl;rfl)
      |(apply VVal.loadVL;rfl;rfl;omega;rfl)
      |(apply VVal.load;rfl;rfl)
      |(apply VVal.pick_true;rfl;rfl)
      |(apply VVal.pick_false;rfl;rfl)
      |(apply VVal.fieldB;rfl;rfl;rfl)
      |(apply VVal.indexVN;rfl;rfl;rfl;rfl;omega)
      |(apply VWp.condSeq_dec;rfl)
      |(apply VWp.cond_dec;rfl)
      |(intro _;try (exfalso;omega)))
     all_goals first|(exfalso;omega)|(refine Done.ret rfl (.refl _) trivial ?_ (by omega) (Nat.le_refl _) ⟨?_,rfl,rfl⟩;repeat (first|exact HCov.nil|(refine HCov.cons (lt_dec rfl) ?_ rfl ?_ ?_;(first|exact HB.under_of rfl|exact PVs.under_pure _ _|(simp [HB.under,PVs.under,PV.under]));(first|exact HLe.refl _|exact HLe.vec (FLes.refl _) (by simp))));try rfl)
    ·repeat' (first
      |apply VWp.rseq
      |apply VOps.nil
      |apply VOps.one
      |(apply VVal.int;rfl;rfl;rfl)
      |(apply VWp.condSeq_dec;rfl)
      |(intro _;try (exfalso;omega)))
     all_goals first|(exfalso;omega)|(refine Done.ret rfl (.refl _) trivial ?_ (by omega) (Nat.le_refl _) ⟨?_,rfl,rfl⟩;repeat (first|exact HCov.nil|(refine HCov.cons (lt_dec rfl) ?_ rfl ?_ ?_;(first|exact HB.under_of rfl|exact PVs.under_pure _ _|(simp [HB.under,PVs.under,PV.under]));(first|exact HLe.refl _|exact HLe.vec (FLes.refl _) (by simp))));try rfl)
  have hiv3:∀ i,i<k+1→¬ (gi s i=1∧weighK (gi p.sets i) y.ws (gi p.sets i).els.length>0)∧¬ (gi s i=0∧weighK (gi p.sets i) y.ws (gi p.sets i).els.length>(gi p.sets i).cost):=fun i hi=>by
   by_cases e1:i=k
   ·subst e1;rw [hWg];exact hok
   ·exact hiv2 i (by omega)
  by_cases k1:gi s k=1
  ·rw [if_pos k1] at hcs1
   have e1:sumK y.ws y.ws.length+costS p.sets s (k+1)=sumK y.ws y.ws.length+costS p.sets s k+(gi p.sets k).cost:=by omega
   repeat' (first
    |apply VWp.rseq
    |apply VWp.region
    |apply VWp.exitSeq
    |apply QSeq.normal
    |apply QBlk.normal
    |apply QBlk.exit
    |apply QLoop.exit
    |apply VWp.blockQ
    |apply VOps.nil
    |apply VOps.one
    |(apply VOps.take;rfl;rfl)
    |(apply VOps.drop;rfl;rfl;rfl)
    |(apply VOps.guard;rfl;rfl)
    |(apply VVal.assign;rfl)
    |(apply VVal.move;rfl)
    |(apply VVal.add64;rfl;rfl;omega)
    |(apply VVal.int;rfl;rfl;rfl)
    |(apply VVal.loadVL;rfl;rfl;omega;rfl)
    |(apply VVal.load;rfl;rfl)
    |(apply VVal.pick_true;rfl;rfl)
    |(apply VVal.pick_false;rfl;rfl)
    |(apply VVal.fieldB;rfl;rfl;rfl)
    |(apply VVal.indexVN;rfl;rfl;rfl;rfl;omega)
    |(apply VWp.condSeq_dec;rfl)
    |(apply VWp.cond_false;rfl)
    |(apply VWp.cond_dec;rfl)
    |(intro _;try (exfalso;omega)))
   all_goals try (exfalso;omega)
   refine QLoop.normal ⟨hiv3,by omega,?_,?_⟩
   ·try (try rw [e1])
    repeat (first|exact LCov.nil|refine LCov.same trivial rfl ?_|refine LCov.same (lt_dec rfl) rfl ?_|refine LCov.same ⟨trivial,lt_dec rfl,trivial⟩ rfl ?_|refine LCov.same ⟨trivial,lt_dec rfl,lt_dec rfl,trivial⟩ rfl ?_|refine LCov.same ⟨trivial,lt_dec rfl,lt_dec rfl,lt_dec rfl,trivial⟩ rfl ?_|refine LCov.same ⟨trivial,trivial⟩ rfl ?_|refine LCov.cons trivial rfl (.of_eq (lst_len (by simp<;>omega))) ?_)
   ·try rw [e1]
    repeat (first|exact HCov.nil|(refine HCov.cons (lt_dec rfl) ?_ rfl ?_ ?_;(first|exact HB.under_of rfl|exact PVs.under_pure _ _|(simp [HB.under,PVs.under,PV.under]));(first|exact HLe.refl _|exact HLe.vec (FLes.refl _) (by simp))))
  ·rw [if_neg k1] at hcs1
   by_cases k0:gi s k=0
   ·repeat' (first
     |apply VWp.rseq
     |apply VWp.region
     |apply VWp.exitSeq
     |apply QSeq.normal
     |apply QBlk.normal
     |apply QBlk.exit
     |apply QLoop.exit
     |apply VWp.skip
     |apply VWp.blockQ
     |apply VOps.nil
     |apply VOps.one
     |(apply VOps.take;rfl;rfl)
     |(apply VOps.drop;rfl;rfl;rfl)
     |(apply VOps.guard;rfl;rfl)
     |(apply VVal.assign;rfl)
     |(apply VVal.move;rfl)
     |(apply VVal.add64;rfl;rfl;omega)
     |(apply VVal.int;rfl;rfl;rfl)
     |(apply VVal.loadVL;rfl;rfl;omega;rfl)
     |(apply VVal.load;rfl;rfl)
     |(apply VVal.pick_true;rfl;rfl)
     |(apply VVal.pick_false;rfl;rfl)
     |(apply VVal.fieldB;rfl;rfl;rfl)
     |(apply VVal.indexVN;rfl;rfl;rfl;rfl;omega)
     |(apply VWp.condSeq_dec;rfl)
     |(apply VWp.cond_dec;rfl)
     |(intro _;try (exfalso;omega)))
    all_goals try (exfalso;omega)
    refine QLoop.normal ⟨hiv3,by omega,?_,?_⟩
    ·try (try rw [hcs1])
     repeat (first|exact LCov.nil|refine LCov.same trivial rfl ?_|refine LCov.same (lt_dec rfl) rfl ?_|refine LCov.same ⟨trivial,lt_dec rfl,trivial⟩ rfl ?_|refine LCov.same ⟨trivial,lt_dec rfl,lt_dec rfl,trivial⟩ rfl ?_|refine LCov.same ⟨trivial,lt_dec rfl,lt_dec rfl,lt_dec rfl,trivial⟩ rfl ?_|refine LCov.same ⟨trivial,trivial⟩ rfl ?_|refine LCov.cons trivial rfl (.of_eq (lst_len (by simp<;>omega))) ?_)
    ·try rw [hcs1]
     repeat (first|exact HCov.nil|(refine HCov.cons (lt_dec rfl) ?_ rfl ?_ ?_;(first|exact HB.under_of rfl|exact PVs.under_pure _ _|(simp [HB.under,PVs.under,PV.under]));(first|exact HLe.refl _|exact HLe.vec (FLes.refl _) (by simp))))
   ·repeat' (first
     |apply VWp.rseq
     |apply VWp.region
     |apply VWp.exitSeq
     |apply QSeq.normal
     |apply QBlk.normal
     |apply QBlk.exit
     |apply QLoop.exit
     |apply VWp.skip
     |apply VWp.blockQ
     |apply VOps.nil
     |apply VOps.one
     |(apply VOps.take;rfl;rfl)
     |(apply VOps.drop;rfl;rfl;rfl)
     |(apply VOps.guard;rfl;rfl)
     |(apply VVal.assign;rfl)
     |(apply VVal.move;rfl)
     |(apply VVal.add64;rfl;rfl;omega)
     |(apply VVal.int;rfl;rfl;rfl)
     |(apply VVal.loadVL;rfl;rfl;omega;rfl)
     |(apply VVal.pick_false;rfl;rfl)
     |(apply VVal.indexVN;rfl;rfl;rfl;rfl;omega)
     |(apply VWp.condSeq_dec;rfl)
     |(apply VWp.cond_false;rfl)
     |(apply VWp.cond_dec;rfl)
     |(intro _;try (exfalso;omega)))
    all_goals try (exfalso;omega)
    refine QLoop.normal ⟨hiv3,by omega,?_,?_⟩
    ·try (try rw [hcs1])
     repeat (first|exact LCov.nil|refine LCov.same trivial rfl ?_|refine LCov.same (lt_dec rfl) rfl ?_|refine LCov.same ⟨trivial,lt_dec rfl,trivial⟩ rfl ?_|refine LCov.same ⟨trivial,lt_dec rfl,lt_dec rfl,trivial⟩ rfl ?_|refine LCov.same ⟨trivial,lt_dec rfl,lt_dec rfl,lt_dec rfl,trivial⟩ rfl ?_|refine LCov.same ⟨trivial,trivial⟩ rfl ?_|refine LCov.cons trivial rfl (.of_eq (lst_len (by simp<;>omega))) ?_)
    ·try rw [hcs1]
     repeat (first|exact HCov.nil|(refine HCov.cons (lt_dec rfl) ?_ rfl ?_ ?_;(first|exact HB.under_of rfl|exact PVs.under_pure _ _|(simp [HB.under,PVs.under,PV.under]));(first|exact HLe.refl _|exact HLe.vec (FLes.refl _) (by simp))))
 intro hiv2
 have hck:=hcs p.sets.length (Nat.le_refl _)
 generalize hSg:sumK y.ws y.ws.length+costS p.sets s p.sets.length=S at *
 by_cases hb1:y.bound=S
 ·by_cases hb2:S≥cost
  ·rw [decide_eq_true (show bndP p.sets y.ws.length cost y s from ⟨⟨rfl,hiv⟩,hiv2,by rw [hSg];exact hb1,by omega⟩)]
   repeat' (first
    |apply VWp.rseq
    |apply VWp.exitSeq
    |apply QSeq.normal
    |apply QBlk.exit
    |apply QLoop.exit
    |apply VWp.ret
    |apply VOps.nil
    |apply VOps.one
    |(apply VOps.take;rfl;rfl)
    |(apply VOps.guard;rfl;rfl)
    |(apply VVal.assign;rfl)
    |(apply VVal.move;rfl)
    |(apply VVal.int;rfl;rfl;rfl)
    |(apply VVal.load;rfl;rfl)
    |(apply VVal.pick_true;rfl;rfl)
    |(apply VVal.fieldB;rfl;rfl;rfl)
    |(apply VWp.condSeq_dec;rfl)
    |(intro _;try (exfalso;omega)))
   all_goals first|(exfalso;omega)|skip
   refine Done.ret (H0:=[(0,.vec 3 (cells s) p.sets.length false)]) (nx0:=1) rfl (.refl _) trivial ?_ (by omega) (Nat.le_refl _) ⟨?_,rfl,rfl⟩
   ·repeat (first|exact HCov.nil|(refine HCov.cons (lt_dec rfl) ?_ rfl ?_ ?_;(first|exact HB.under_of rfl|exact PVs.under_pure _ _|(simp [HB.under,PVs.under,PV.under]));(first|exact HLe.refl _|exact HLe.vec (FLes.refl _) (by simp))))
   ·simp [hb2]
  ·rw [decide_eq_false (fun hb:bndP _ _ _ _ _=>hb2 (by have:=hb.2.2.1;have:=hb.2.2.2;omega))]
   repeat' (first
    |apply VWp.rseq
    |apply VWp.exitSeq
    |apply QSeq.normal
    |apply QBlk.exit
    |apply QLoop.exit
    |apply VWp.ret
    |apply VOps.nil
    |apply VOps.one
    |(apply VOps.take;rfl;rfl)
    |(apply VOps.guard;rfl;rfl)
    |(apply VVal.assign;rfl)
    |(apply VVal.move;rfl)
    |(apply VVal.int;rfl;rfl;rfl)
    |(apply VVal.load;rfl;rfl)
    |(apply VVal.pick_true;rfl;rfl)
    |(apply VVal.fieldB;rfl;rfl;rfl)
    |(apply VWp.condSeq_dec;rfl)
    |(intro _;try (exfalso;omega)))
   all_goals first|(exfalso;omega)|skip
   refine Done.ret (H0:=[(0,.vec 3 (cells s) p.sets.length false)]) (nx0:=1) rfl (.refl _) trivial ?_ (by omega) (Nat.le_refl _) ⟨?_,rfl,rfl⟩
   ·repeat (first|exact HCov.nil|(refine HCov.cons (lt_dec rfl) ?_ rfl ?_ ?_;(first|exact HB.under_of rfl|exact PVs.under_pure _ _|(simp [HB.under,PVs.under,PV.under]));(first|exact HLe.refl _|exact HLe.vec (FLes.refl _) (by simp))))
   ·simp [hb2]
 ·rw [decide_eq_false (fun hb:bndP _ _ _ _ _=>hb1 (by rw [hb.2.2.1,hSg]))]
  repeat' (first
   |apply VWp.rseq
   |apply VWp.exitSeq
   |apply QSeq.normal
   |apply QBlk.exit
   |apply QLoop.exit
   |apply VWp.ret
   |apply VOps.nil
   |apply VOps.one
   |(apply VOps.drop;rfl;rfl;rfl)
   |(apply VOps.guard;rfl;rfl)
   |(apply VVal.assign;rfl)
   |(apply VVal.move;rfl)
   |(apply VVal.int;rfl;rfl;rfl)
   |(apply VVal.load;rfl;rfl)
   |(apply VVal.pick_false;rfl;rfl)
   |(apply VVal.fieldB;rfl;rfl;rfl)
   |(apply VWp.condSeq_dec;rfl)
   |(intro _;try (exfalso;omega)))
  all_goals first|(exfalso;omega)|(refine Done.ret rfl (.refl _) trivial ?_ (by omega) (Nat.le_refl _) ⟨?_,rfl,rfl⟩;repeat (first|exact HCov.nil|(refine HCov.cons (lt_dec rfl) ?_ rfl ?_ ?_;(first|exact HB.under_of rfl|exact PVs.under_pure _ _|(simp [HB.under,PVs.under,PV.under]));(first|exact HLe.refl _|exact HLe.vec (FLes.refl _) (by simp))));try rfl)
end
end Go.Proofs.YtmfnchgkffhpfaaDoor
