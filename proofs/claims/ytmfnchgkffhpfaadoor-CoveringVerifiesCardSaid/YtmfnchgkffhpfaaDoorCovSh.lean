/-
  The statement's check of a proof: node and proves. Conditions: in each statement.
-/
import Derived.Test.YtmfnchgkffhpfaaDoorCovSg
set_option linter.unusedSimpArgs false
set_option linter.unusedVariables false
set_option linter.unusedSectionVars false
namespace Go.Proofs.YtmfnchgkffhpfaaDoor
open Go Go.Am Go.Vm
attribute [local irreducible] VVal VOps VOpsD VWp VCalls VFun VFunV QSeq QBlk QLoop Vm.Done DoneV DoneI VRead VReadV
theorem set_back {s:List Int} {j:Nat} (h0:gi s j=0) (hj:j<s.length):((s.set j 1).set j 2).set j 0=s:=by
 refine gi_ext (by simp) fun i hi=>?_
 simp only [List.length_set] at hi
 rw [gis (by simp only [List.length_set];exact hj),gis (by simp only [List.length_set];exact hj),gis hj]
 by_cases e:i=j
 ·rw [if_pos e,e,h0]
 ·rw [if_neg e,if_neg e,if_neg e]
def parL (N:List CNode) (k:Nat):List Int:=(List.range N.length).map fun j:Nat=>(parK N j k:Int)
theorem parL_len (N:List CNode) (k:Nat):(parL N k).length=N.length:=by simp [parL]
theorem parL_gi {N:List CNode} {k j:Nat} (hj:j<N.length):gi (parL N k) j=parK N j k:=by simp [parL,gi,hj]
theorem parK_le (N:List CNode) (j:Int):∀ k,parK N j k≤2*k
 |0=>by simp [parK]
 |k+1=>by
  have:=parK_le N j k
  simp only [parK]
  repeat' split
  all_goals omega
section
variable (p:CProb) (n:Nat) (hp:p.n=n) (hn:n≤7) (hL:p.sets.length≤7) (h:ElsOk p.sets) (hE:Elsn p.sets n) (c:CCover) (hN:c.proof.length<1000) (hws:∀ i,i<c.proof.length→(gi c.proof i).ws.length<1000)
include hp hn hL h hE hN hws
open Classical in
set_option maxRecDepth 100000 in
set_option maxHeartbeats 16000000 in
theorem lnode_spec (hk:kidsP c.proof):∀ (d:Nat) (i:Int) (s:List Int),0≤i→i<c.proof.length→c.proof.length-i.toNat≤d→s.length=p.sets.length →
 VRead env 47 [.p (.agg (Enc.enc p)),.p (.agg (Enc.enc c)),.p (.int .i64 i),.vec 0 p.sets.length 0 p.sets.length] [(0,.vec 3 (cells s) p.sets.length false)] 1 (.bool (decide (nodeP p.sets n c.cost c.proof d i.toNat s)))
 |0,i,s,i0,i1,hd,hs=>by omega
 |d+1,i,s,i0,i1,hd,hs=>by
  have hwi:=hws i.toNat (by omega)
  have hki:=hk i.toNat (by omega)
  have ih:=lnode_spec hk d
  have hnd:nodeP p.sets n c.cost c.proof (d+1) i.toNat s↔if (gi c.proof i.toNat).pick<0 then leafP p.sets n c.cost (gi c.proof i.toNat) s else (gi c.proof i.toNat).pick<p.sets.length∧gi s (gi c.proof i.toNat).pick.toNat=0∧nodeP p.sets n c.cost c.proof d (gi c.proof i.toNat).yes.toNat (s.set (gi c.proof i.toNat).pick.toNat 1)∧nodeP p.sets n c.cost c.proof d (gi c.proof i.toNat).no.toNat (s.set (gi c.proof i.toNat).pick.toNat 2):=Iff.rfl
  obtain ⟨P,hPd⟩:∃ P,P=nodeP p.sets n c.cost c.proof (d+1) i.toNat s:=⟨_,rfl⟩
  rw [← hPd] at hnd ⊢
  clear hPd
  by_cases hp0:(gi c.proof i.toNat).pick<0
  ·rw [if_pos hp0] at hnd
   by_cases hp2:(gi c.proof i.toNat).pick=-2
   ·have hg:=lgap_spec p n hp hn hL h hE (gi c.proof i.toNat).bound s hs
    have hiff:P↔gapP p.sets n (gi c.proof i.toNat).bound s:=hnd.trans ⟨fun hh=>hh.elim (fun h1=>h1.2) fun h1=>by have:=h1.1;omega,fun hh=>.inl ⟨hp2,hh⟩⟩
    rw [show decide P=decide (gapP p.sets n (gi c.proof i.toNat).bound s) from decide_eq_decide.2 hiff]
    refine VRead.enter (env_none (by decide)) Tryd.func47 rfl (by kernel_rfl) (by simp [Tryd.ntmps47]) ?_
    repeat' (first
     |apply VWp.rseq
     |apply VWp.blockSeq
     |apply QSeq.ret
     |apply QBlk.ret
     |apply VWp.ret
     |apply VOps.nil
     |apply VOps.one
     |(apply VOps.take;rfl;rfl)
     |(apply VOps.guard;rfl;rfl)
     |(apply VVal.read [0] hg;rfl;rfl;exact .of_eq rfl;exact PVs.under_of rfl;exact HUnder_of rfl;(repeat (first|exact trivial|refine ⟨⟨_,rfl,.of_eq rfl⟩,?_⟩));decide;(intro _ hb;simp at hb<;>omega);rfl)
     |(apply VVal.assign;rfl)
     |(apply VVal.move;rfl)
     |(apply VVal.int;rfl;rfl;rfl)
     |(apply VVal.indexE;rfl;rfl;rfl;omega;omega;rfl)
     |(apply VVal.load;rfl;rfl)
     |(apply VVal.pick_false;rfl;rfl)
     |(apply VVal.lenF;rfl;rfl)
     |(apply VVal.fieldB;rfl;rfl;rfl)
     |(apply VVal.box;rfl;trivial)
     |(apply VVal.alloc;rfl)
     |(apply VVal.storeB;rfl;rfl;rfl;trivial;rfl;rfl;exact lt_dec rfl;exact le_dec rfl)
     |(apply VWp.cond_dec;rfl)
     |(intro _;try (exfalso;omega)))
    all_goals first|(exfalso;omega)|(refine Done.ret rfl (.refl _) trivial ?_ (by omega) (Nat.le_refl _) ⟨?_,rfl,rfl⟩;repeat (first|exact HCov.nil|(refine HCov.cons (lt_dec rfl) ?_ rfl ?_ ?_;(first|exact HB.under_of rfl|exact PVs.under_pure _ _|(simp [HB.under,PVs.under,PV.under]));(first|exact HLe.refl _|exact HLe.vec (FLes.refl _) (by simp))));try rfl)
   ·by_cases hp1:(gi c.proof i.toNat).pick=-1
    ·have hb:=lbound_spec p n hp hn hL h hE (gi c.proof i.toNat) c.cost s hs hwi
     have hiff:P↔bndP p.sets n c.cost (gi c.proof i.toNat) s:=hnd.trans ⟨fun hh=>hh.elim (fun h1=>by have:=h1.1;omega) fun h1=>h1.2,fun hh=>.inr ⟨hp1,hh⟩⟩
     rw [show decide P=decide (bndP p.sets n c.cost (gi c.proof i.toNat) s) from decide_eq_decide.2 hiff]
     refine VRead.enter (env_none (by decide)) Tryd.func47 rfl (by kernel_rfl) (by simp [Tryd.ntmps47]) ?_
     repeat' (first
      |apply VWp.rseq
      |apply VWp.blockSeq
      |apply QSeq.ret
      |apply QBlk.ret
      |apply VWp.ret
      |apply VOps.nil
      |apply VOps.one
      |(apply VOps.take;rfl;rfl)
      |(apply VOps.guard;rfl;rfl)
      |(apply VVal.read [0] hb;rfl;rfl;exact .of_eq rfl;exact PVs.under_of rfl;exact HUnder_of rfl;(repeat (first|exact trivial|refine ⟨⟨_,rfl,.of_eq rfl⟩,?_⟩));decide;(intro _ hb;simp at hb<;>omega);rfl)
      |(apply VVal.assign;rfl)
      |(apply VVal.move;rfl)
      |(apply VVal.int;rfl;rfl;rfl)
      |(apply VVal.indexE;rfl;rfl;rfl;omega;omega;rfl)
      |(apply VVal.load;rfl;rfl)
      |(apply VVal.pick_false;rfl;rfl)
      |(apply VVal.lenF;rfl;rfl)
      |(apply VVal.fieldB;rfl;rfl;rfl)
      |(apply VVal.box;rfl;trivial)
      |(apply VVal.alloc;rfl)
      |(apply VVal.storeB;rfl;rfl;rfl;trivial;rfl;rfl;exact lt_dec rfl;exact le_dec rfl)
      |(apply VWp.cond_dec;rfl)
      |(intro _;try (exfalso;omega)))
     all_goals first|(exfalso;omega)|(refine Done.ret rfl (.refl _) trivial ?_ (by omega) (Nat.le_refl _) ⟨?_,rfl,rfl⟩;repeat (first|exact HCov.nil|(refine HCov.cons (lt_dec rfl) ?_ rfl ?_ ?_;(first|exact HB.under_of rfl|exact PVs.under_pure _ _|(simp [HB.under,PVs.under,PV.under]));(first|exact HLe.refl _|exact HLe.vec (FLes.refl _) (by simp))));try rfl)
    ·rw [decide_eq_false (show ¬ P from fun hh=>(hnd.1 hh).elim (fun h1=>hp2 h1.1) fun h1=>hp1 h1.1)]
     refine VRead.enter (env_none (by decide)) Tryd.func47 rfl (by kernel_rfl) (by simp [Tryd.ntmps47]) ?_
     repeat' (first
      |apply VWp.rseq
      |apply VWp.blockSeq
      |apply QSeq.ret
      |apply QBlk.ret
      |apply VWp.ret
      |apply VOps.nil
      |apply VOps.one
      |(apply VOps.take;rfl;rfl)
      |(apply VOps.guard;rfl;rfl)
      |(apply VVal.assign;rfl)
      |(apply VVal.move;rfl)
      |(apply VVal.int;rfl;rfl;rfl)
      |(apply VVal.indexE;rfl;rfl;rfl;omega;omega;rfl)
      |(apply VVal.load;rfl;rfl)
      |(apply VVal.pick_false;rfl;rfl)
      |(apply VVal.lenF;rfl;rfl)
      |(apply VVal.fieldB;rfl;rfl;rfl)
      |(apply VVal.box;rfl;trivial)
      |(apply VVal.alloc;rfl)
      |(apply VVal.storeB;rfl;rfl;rfl;trivial;rfl;rfl;exact lt_dec rfl;exact le_dec rfl)
      |(apply VWp.cond_dec;rfl)
      |(intro _;try (exfalso;omega)))
     all_goals first|(exfalso;omega)|(refine Done.ret rfl (.refl _) trivial ?_ (by omega) (Nat.le_refl _) ⟨?_,rfl,rfl⟩;repeat (first|exact HCov.nil|(refine HCov.cons (lt_dec rfl) ?_ rfl ?_ ?_;(first|exact HB.under_of rfl|exact PVs.under_pure _ _|(simp [HB.under,PVs.under,PV.under]));(first|exact HLe.refl _|exact HLe.vec (FLes.refl _) (by simp))));try rfl)
  ·rw [if_neg hp0] at hnd
   obtain ⟨⟨y1,y2⟩,z1,z2⟩:=hki (by omega)
   by_cases hm:(gi c.proof i.toNat).pick<p.sets.length
   case neg =>
    rw [decide_eq_false (show ¬ P from fun hh=>hm (hnd.1 hh).1)]
    refine VRead.enter (env_none (by decide)) Tryd.func47 rfl (by kernel_rfl) (by simp [Tryd.ntmps47]) ?_
    repeat' (first
     |apply VWp.rseq
     |apply VWp.blockSeq
     |apply QSeq.ret
     |apply QBlk.ret
     |apply VWp.ret
     |apply VOps.nil
     |apply VOps.one
     |(apply VOps.drop;rfl;rfl;rfl)
     |(apply VOps.guard;rfl;rfl)
     |(apply VVal.assign;rfl)
     |(apply VVal.move;rfl)
     |(apply VVal.int;rfl;rfl;rfl)
     |(apply VVal.indexE;rfl;rfl;rfl;omega;omega;rfl)
     |(apply VVal.load;rfl;rfl)
     |(apply VVal.pick_true;rfl;rfl)
     |(apply VVal.lenF;rfl;rfl)
     |(apply VVal.fieldB;rfl;rfl;rfl)
     |(apply VVal.box;rfl;trivial)
     |(apply VVal.alloc;rfl)
     |(apply VVal.storeB;rfl;rfl;rfl;trivial;rfl;rfl;exact lt_dec rfl;exact le_dec rfl)
     |(apply VWp.cond_true;rfl)
     |(intro _;try (exfalso;omega)))
    all_goals first|(exfalso;omega)|(refine Done.ret rfl (.refl _) trivial ?_ (by omega) (Nat.le_refl _) ⟨?_,rfl,rfl⟩;repeat (first|exact HCov.nil|(refine HCov.cons (lt_dec rfl) ?_ rfl ?_ ?_;(first|exact HB.under_of rfl|exact PVs.under_pure _ _|(simp [HB.under,PVs.under,PV.under]));(first|exact HLe.refl _|exact HLe.vec (FLes.refl _) (by simp))));try rfl)
   by_cases h0:gi s (gi c.proof i.toNat).pick.toNat=0
   case neg =>
    rw [decide_eq_false (show ¬ P from fun hh=>h0 (hnd.1 hh).2.1)]
    refine VRead.enter (env_none (by decide)) Tryd.func47 rfl (by kernel_rfl) (by simp [Tryd.ntmps47]) ?_
    repeat' (first
     |apply VWp.rseq
     |apply VWp.blockSeq
     |apply QSeq.ret
     |apply QBlk.ret
     |apply VWp.ret
     |apply VOps.nil
     |apply VOps.one
     |(apply VOps.take;rfl;rfl)
     |(apply VOps.guard;rfl;rfl)
     |(apply VVal.assign;rfl)
     |(apply VVal.move;rfl)
     |(apply VVal.int;rfl;rfl;rfl)
     |(apply VVal.indexE;rfl;rfl;rfl;omega;omega;rfl)
     |(apply VVal.loadVL;rfl;rfl;omega;rfl)
     |(apply VVal.load;rfl;rfl)
     |(apply VVal.pick_false;rfl;rfl)
     |(apply VVal.lenF;rfl;rfl)
     |(apply VVal.fieldB;rfl;rfl;rfl)
     |(apply VVal.box;rfl;trivial)
     |(apply VVal.alloc;rfl)
     |(apply VVal.storeB;rfl;rfl;rfl;trivial;rfl;rfl;exact lt_dec rfl;exact le_dec rfl)
     |(apply VVal.indexVE;rfl;rfl;rfl;rfl;omega;omega)
     |(apply VWp.cond_dec;rfl)
     |(intro _;try (exfalso;omega)))
    all_goals first|(exfalso;omega)|(refine Done.ret rfl (.refl _) trivial ?_ (by omega) (Nat.le_refl _) ⟨?_,rfl,rfl⟩;repeat (first|exact HCov.nil|(refine HCov.cons (lt_dec rfl) ?_ rfl ?_ ?_;(first|exact HB.under_of rfl|exact PVs.under_pure _ _|(simp [HB.under,PVs.under,PV.under]));(first|exact HLe.refl _|exact HLe.vec (FLes.refl _) (by simp))));try rfl)
   have hback:=set_back h0 (by omega)
   have ih1:=ih (gi c.proof i.toNat).yes (s.set (gi c.proof i.toNat).pick.toNat 1) (by omega) y2 (by omega) (by simp only [List.length_set];exact hs)
   have ih2:=ih (gi c.proof i.toNat).no ((s.set (gi c.proof i.toNat).pick.toNat 1).set (gi c.proof i.toNat).pick.toNat 2) (by omega) z2 (by omega) (by simp only [List.length_set];exact hs)
   have e2:decide (nodeP p.sets n c.cost c.proof d (gi c.proof i.toNat).no.toNat ((s.set (gi c.proof i.toNat).pick.toNat 1).set (gi c.proof i.toNat).pick.toNat 2))=decide (nodeP p.sets n c.cost c.proof d (gi c.proof i.toNat).no.toNat (s.set (gi c.proof i.toNat).pick.toNat 2)):=by rw [List.set_set]
   rw [e2] at ih2
   clear e2
   have hiff:=hnd.trans ⟨fun hh=>hh.2.2,fun hh=>⟨hm,h0,hh⟩⟩
   have hdec:decide P=(decide (nodeP p.sets n c.cost c.proof d (gi c.proof i.toNat).yes.toNat (s.set (gi c.proof i.toNat).pick.toNat 1))&&decide (nodeP p.sets n c.cost c.proof d (gi c.proof i.toNat).no.toNat (s.set (gi c.proof i.toNat).pick.toNat 2))):=by
    rw [← Bool.decide_and]
    exact decide_eq_decide.2 hiff
   rw [hdec]
   generalize decide (nodeP p.sets n c.cost c.proof d (gi c.proof i.toNat).yes.toNat (s.set (gi c.proof i.toNat).pick.toNat 1))=b1 at *
   generalize decide (nodeP p.sets n c.cost c.proof d (gi c.proof i.toNat).no.toNat (s.set (gi c.proof i.toNat).pick.toNat 2))=b2 at *
   refine VRead.enter (env_none (by decide)) Tryd.func47 rfl (by kernel_rfl) (by simp [Tryd.ntmps47]) ?_
   repeat' (first
    |apply VWp.rseq
    |apply VWp.blockSeq
    |apply QSeq.normal
    |apply QBlk.normal
    |apply VWp.ret
    |apply VWp.skip
    |apply VOps.nil
    |apply VOps.one
    |(apply VOps.take;rfl;rfl)
    |(apply VOps.drop;rfl;rfl;rfl)
    |(apply VOps.guard;rfl;rfl)
    |(apply VOps.guardB;rfl;rfl)
    |(apply VVal.storeVL (y:=(1:Int));rfl;rfl;rfl;trivial;(first|rfl|(refine congrArg (fun t=>[PV.p (FV.int _ t)]) ?_;first|omega|(simp only [Int.natCast_add,Int.natCast_mul,Int.natCast_ediv,Int.natCast_emod]<;>omega)));rfl;rfl;decide;(first|omega|(simp only [List.length_set]<;>omega)))
    |(apply VVal.storeVL (y:=(2:Int));rfl;rfl;rfl;trivial;(first|rfl|(refine congrArg (fun t=>[PV.p (FV.int _ t)]) ?_;first|omega|(simp only [Int.natCast_add,Int.natCast_mul,Int.natCast_ediv,Int.natCast_emod]<;>omega)));rfl;rfl;decide;(first|omega|(simp only [List.length_set]<;>omega)))
    |(apply VVal.storeVL (y:=(0:Int));rfl;rfl;rfl;trivial;(first|rfl|(refine congrArg (fun t=>[PV.p (FV.int _ t)]) ?_;first|omega|(simp only [Int.natCast_add,Int.natCast_mul,Int.natCast_ediv,Int.natCast_emod]<;>omega)));rfl;rfl;decide;(first|omega|(simp only [List.length_set]<;>omega)))
    |(apply VVal.read [0] ih1;rfl;rfl;exact .of_eq rfl;exact PVs.under_of rfl;exact HUnder_of rfl;(repeat (first|exact trivial|refine ⟨⟨_,rfl,.of_eq rfl⟩,?_⟩));decide;(intro _ hb;simp at hb<;>omega);rfl)
    |(apply VVal.read [0] ih2;rfl;rfl;exact .of_eq rfl;exact PVs.under_of rfl;exact HUnder_of rfl;(repeat (first|exact trivial|refine ⟨⟨_,rfl,.of_eq rfl⟩,?_⟩));decide;(intro _ hb;simp at hb<;>omega);rfl)
    |(apply VVal.assign;rfl)
    |(apply VVal.move;rfl)
    |(apply VVal.int;rfl;rfl;rfl)
    |(apply VVal.indexE;rfl;rfl;rfl;omega;omega;rfl)
    |(apply VVal.loadVL;rfl;rfl;omega;rfl)
    |(apply VVal.load;rfl;rfl)
    |(apply VVal.pick_true;rfl;rfl)
    |(apply VVal.pick_false;rfl;rfl)
    |(apply VVal.lenF;rfl;rfl)
    |(apply VVal.fieldB;rfl;rfl;rfl)
    |(apply VVal.box;rfl;trivial)
    |(apply VVal.alloc;rfl)
    |(apply VVal.storeB;rfl;rfl;rfl;trivial;rfl;rfl;exact lt_dec rfl;exact le_dec rfl)
    |(apply VVal.indexVE;rfl;rfl;rfl;rfl;omega;omega)
    |(apply VWp.cond_dec;rfl)
    |(intro _;try (exfalso;omega)))
   all_goals try (exfalso;omega)
   all_goals (
    rename_i hb1
    refine Done.ret (H0:=[(0,.vec 3 (cells (((s.set (gi c.proof i.toNat).pick.toNat 1).set (gi c.proof i.toNat).pick.toNat 2).set (gi c.proof i.toNat).pick.toNat 0)) p.sets.length false)]) (nx0:=1) rfl (.refl _) trivial ?_ (by omega) (Nat.le_refl _) ⟨?_,by rw [hback],rfl⟩
    ·repeat (first|exact HCov.nil|(refine HCov.cons (lt_dec rfl) ?_ rfl ?_ ?_;(first|exact HB.under_of rfl|exact PVs.under_pure _ _|(simp [HB.under,PVs.under,PV.under]));(first|exact HLe.refl _|exact HLe.vec (FLes.refl _) (by simp))))
    ·subst hb1;simp)
open Classical in
set_option maxRecDepth 100000 in
set_option maxHeartbeats 16000000 in
theorem lproves_spec:VFun env 25 [.agg (Enc.enc p),.agg (Enc.enc c)] (.p (.bool (decide (lawP p.sets n c.cost c.proof)))):=by
 obtain ⟨P,hPd⟩:∃ P,P=lawP p.sets n c.cost c.proof:=⟨_,rfl⟩
 have hP0:P↔lawP p.sets n c.cost c.proof:=by rw [hPd]
 rw [← hPd]
 clear hPd
 by_cases h0:c.proof.length=0
 ·rw [decide_eq_false (show ¬ P from fun hb=>(hP0.1 hb).1 h0)]
  refine VFun.enter (env_none (by decide)) Tryd.func25 rfl (by kernel_rfl) (by simp [Tryd.ntmps25]) ?_
  repeat' (first
   |apply VWp.assoc
   |apply VWp.rseq
   |apply VWp.retSeq
   |apply VOps.nil
   |apply VOps.one
   |(apply VOps.drop;rfl;rfl;rfl)
   |(apply VOps.guard;rfl;rfl)
   |(apply VVal.assign;rfl)
   |(apply VVal.move;rfl)
   |(apply VVal.int;rfl;rfl;rfl)
   |(apply VVal.load;rfl;rfl)
   |(apply VVal.pick_true;rfl;rfl)
   |(apply VVal.lenF;rfl;rfl)
   |(apply VVal.fieldB;rfl;rfl;rfl)
   |(apply VVal.box;rfl;trivial)
   |(apply VWp.condSeq_true;rfl)
   |(intro _;try (exfalso;omega)))
  all_goals first|(exfalso;omega)|(refine Done.ret rfl (.refl _) (by first|exact trivial|exact ⟨trivial,trivial,trivial⟩|exact ⟨trivial,trivial,trivial,trivial⟩) HCov.nil (Nat.zero_le _) (Nat.le_refl _) ⟨?_,rfl,rfl⟩;try rfl)
 have hz:(List.replicate c.proof.length (0:Int))=parL c.proof 0:=gi_ext (by rw [parL_len,List.length_replicate]) fun i hi=>by
  rw [List.length_replicate] at hi
  rw [gi_rep hi,parL_gi hi];rfl
 refine VFun.enter (env_none (by decide)) Tryd.func25 rfl (by kernel_rfl) (by simp [Tryd.ntmps25]) ?_
 repeat' (first
  |apply VWp.assoc
  |apply VWp.rseq
  |apply VWp.skipSeq
  |apply VWp.blockSeq
  |apply VOps.nil
  |apply VOps.one
  |(apply VOps.take;rfl;rfl)
  |(apply VOps.guard;rfl;rfl)
  |(apply VVal.makeSliceL c.proof.length (0:Int);rfl;rfl;rfl;rfl;rfl;rfl;rfl;omega;decide;decide;rfl)
  |(apply VVal.assign;rfl)
  |(apply VVal.move;rfl)
  |(apply VVal.int;rfl;rfl;rfl)
  |(apply VVal.load;rfl;rfl)
  |(apply VVal.pick_false;rfl;rfl)
  |(apply VVal.lenF;rfl;rfl)
  |(apply VVal.fieldB;rfl;rfl;rfl)
  |(apply VVal.box;rfl;trivial)
  |(apply VWp.condSeq_dec;rfl)
  |(intro _;try (exfalso;omega)))
 all_goals try (exfalso;omega)
 rw [hz]
 apply VWp.loopRI (c.proof.length) (fun k=>∀ i,i<k→0≤(gi c.proof i).pick→((i:Int)<(gi c.proof i).yes∧(gi c.proof i).yes<c.proof.length)∧(i:Int)<(gi c.proof i).no∧(gi c.proof i).no<c.proof.length) [(2,_),(3,_),(5,_),(6,_),(22,_),(23,_)] [(0,_),(1,_)] (fun k r=>(24,.p (.int .i64 (k:Int)))::r) (fun k r=>(2,.vec 3 (cells (parL c.proof k)) c.proof.length false)::r) 3
 ·omega
 ·omega
 ·repeat (first|exact LCov.nil|(refine LCov.eq rfl ?_ ?_;(first|exact PV.under_of rfl|(simp [PV.under,PVs.under];done)))|refine LCov.cons trivial rfl (.of_eq (lst_len (by simp<;>omega))) ?_)
 ·repeat (first|exact HCov.nil|(refine HCov.eq rfl (lt_dec rfl) ?_ ?_;(first|exact HB.under_of rfl|exact PVs.under_pure _ _|(simp [HB.under,PVs.under,PV.under];done)))|(refine HCov.cons (lt_dec rfl) ?_ rfl ?_ ?_;(first|exact trivial|exact PVs.under_pure _ _|(simp [HB.under,PVs.under,PV.under]));(first|exact HLe.refl _|exact HLe.vec (FLes.refl _) (by simp))))
 ·first|(intro _ _;omega)|omega|trivial
 ·intro k hk hiv
  have hpl:=parL_len c.proof k
  have hpb:=fun j:Int=>parK_le c.proof j k
  by_cases hp0:(gi c.proof k).pick<0
  ·have e1:parL c.proof (k+1)=parL c.proof k:=by
    unfold parL
    refine List.map_congr_left fun j _=>?_
    simp only [parK]
    rw [if_neg (by omega)]
   have hiv2:∀ i,i<k+1→0≤(gi c.proof i).pick→((i:Int)<(gi c.proof i).yes∧(gi c.proof i).yes<c.proof.length)∧(i:Int)<(gi c.proof i).no∧(gi c.proof i).no<c.proof.length:=fun i hi hh=>by
    by_cases e:i=k
    ·subst e;omega
    ·exact hiv i (by omega) hh
   repeat' (first
    |apply VWp.assoc
    |apply VWp.rseq
    |apply VWp.region
    |apply VWp.skipSeq
    |apply VWp.exitSeq
    |apply VWp.blockSeq
    |apply QSeq.normal
    |apply QBlk.exit
    |apply VOps.nil
    |apply VOps.one
    |(apply VVal.assign;rfl)
    |(apply VVal.move;rfl)
    |(apply VVal.add64;rfl;rfl;omega)
    |(apply VVal.int;rfl;rfl;rfl)
    |(apply VVal.indexN;rfl;rfl;rfl;omega;rfl)
    |(apply VVal.load;rfl;rfl)
    |(apply VVal.fieldB;rfl;rfl;rfl)
    |(apply VVal.alloc;rfl)
    |(apply VVal.storeB;rfl;rfl;rfl;trivial;rfl;rfl;exact lt_dec rfl;exact le_dec rfl)
    |(apply VWp.condSeq_dec;rfl)
    |(intro _;try (exfalso;omega)))
   all_goals try (exfalso;omega)
   refine QLoop.normal ⟨hiv2,by omega,?_,?_⟩
   ·try (try rw [e1])
    repeat (first|exact LCov.nil|refine LCov.same trivial rfl ?_|refine LCov.same (lt_dec rfl) rfl ?_|refine LCov.same ⟨trivial,lt_dec rfl,trivial⟩ rfl ?_|refine LCov.same ⟨trivial,lt_dec rfl,lt_dec rfl,trivial⟩ rfl ?_|refine LCov.same ⟨trivial,lt_dec rfl,lt_dec rfl,lt_dec rfl,trivial⟩ rfl ?_|refine LCov.same ⟨trivial,trivial⟩ rfl ?_|refine LCov.cons trivial rfl (.of_eq (lst_len (by simp<;>omega))) ?_)
   ·try rw [e1]
    repeat (first|exact HCov.nil|(refine HCov.cons (lt_dec rfl) ?_ rfl ?_ ?_;(first|exact HB.under_of rfl|exact PVs.under_pure _ _|(simp [HB.under,PVs.under,PV.under]));(first|exact HLe.refl _|exact HLe.vec (FLes.refl _) (by simp))))
  ·by_cases hkid:((k:Int)<(gi c.proof k).yes∧(gi c.proof k).yes<c.proof.length)∧(k:Int)<(gi c.proof k).no∧(gi c.proof k).no<c.proof.length
   case neg =>
    rw [decide_eq_false (show ¬ P from fun hb=>hkid ((hP0.1 hb).2.1 k hk (by omega)))]
    repeat' (first
     |apply VWp.assoc
     |apply VWp.rseq
     |apply VWp.skipSeq
     |apply VWp.retSeq
     |apply VWp.blockSeq
     |apply QSeq.ret
     |apply QBlk.ret
     |apply QLoop.ret
     |apply VOps.nil
     |apply VOps.one
     |(apply VOps.take;rfl;rfl)
     |(apply VOps.drop;rfl;rfl;rfl)
     |(apply VOps.guard;rfl;rfl)
     |(apply VVal.assign;rfl)
     |(apply VVal.move;rfl)
     |(apply VVal.int;rfl;rfl;rfl)
     |(apply VVal.indexN;rfl;rfl;rfl;omega;rfl)
     |(apply VVal.load;rfl;rfl)
     |(apply VVal.pick_true;rfl;rfl)
     |(apply VVal.pick_false;rfl;rfl)
     |(apply VVal.fieldB;rfl;rfl;rfl)
     |(apply VVal.alloc;rfl)
     |(apply VVal.storeB;rfl;rfl;rfl;trivial;rfl;rfl;exact lt_dec rfl;exact le_dec rfl)
     |(apply VWp.condSeq_true;rfl)
     |(apply VWp.condSeq_dec;rfl)
     |(intro _;try (exfalso;omega)))
    all_goals first|(exfalso;omega)|(refine Done.ret rfl (.refl _) (by first|exact trivial|exact ⟨trivial,trivial,trivial⟩|exact ⟨trivial,trivial,trivial,trivial⟩) HCov.nil (Nat.zero_le _) (Nat.le_refl _) ⟨?_,rfl,rfl⟩;try rfl)
   have hiv2:∀ i,i<k+1→0≤(gi c.proof i).pick→((i:Int)<(gi c.proof i).yes∧(gi c.proof i).yes<c.proof.length)∧(i:Int)<(gi c.proof i).no∧(gi c.proof i).no<c.proof.length:=fun i hi hh=>by
    by_cases e:i=k
    ·subst e;exact hkid
    ·exact hiv i (by omega) hh
   obtain ⟨⟨y1,y2⟩,z1,z2⟩:=hkid
   have gy:gi (parL c.proof k) (gi c.proof k).yes.toNat=parK c.proof (gi c.proof k).yes k:=by rw [parL_gi (by omega),Int.toNat_of_nonneg (by omega)]
   have by1:=hpb (gi c.proof k).yes
   have hsl:((parL c.proof k).set (gi c.proof k).yes.toNat (gi (parL c.proof k) (gi c.proof k).yes.toNat+1)).length=c.proof.length:=by rw [List.length_set];exact hpl
   have gz:gi ((parL c.proof k).set (gi c.proof k).yes.toNat (gi (parL c.proof k) (gi c.proof k).yes.toNat+1)) (gi c.proof k).no.toNat=if (gi c.proof k).no.toNat=(gi c.proof k).yes.toNat then gi (parL c.proof k) (gi c.proof k).yes.toNat+1 else parK c.proof (gi c.proof k).no k:=by
    rw [gis (by omega)]
    split
    ·rfl
    ·rw [parL_gi (by omega),Int.toNat_of_nonneg (by omega)]
   have bz1:=hpb (gi c.proof k).no
   have bz:0≤gi ((parL c.proof k).set (gi c.proof k).yes.toNat (gi (parL c.proof k) (gi c.proof k).yes.toNat+1)) (gi c.proof k).no.toNat∧gi ((parL c.proof k).set (gi c.proof k).yes.toNat (gi (parL c.proof k) (gi c.proof k).yes.toNat+1)) (gi c.proof k).no.toNat≤100000:=by
    rw [gz,gy]
    split<;>omega
   have e1:parL c.proof (k+1)=((parL c.proof k).set (gi c.proof k).yes.toNat (gi (parL c.proof k) (gi c.proof k).yes.toNat+1)).set (gi c.proof k).no.toNat (gi ((parL c.proof k).set (gi c.proof k).yes.toNat (gi (parL c.proof k) (gi c.proof k).yes.toNat+1)) (gi c.proof k).no.toNat+1):=by
    refine gi_ext (by simp [parL_len]) fun j hj=>?_
    rw [parL_len] at hj
    rw [gis (by simp only [List.length_set];omega),gz,gis (by omega),parL_gi hj,gy,parL_gi hj]
    simp only [parK]
    rw [if_pos (by omega)]
    by_cases ez:j=(gi c.proof k).no.toNat
    ·have ez2:(gi c.proof k).no=(j:Int):=by omega
     rw [if_pos ez,if_pos ez2]
     by_cases ey:(gi c.proof k).yes=(j:Int)
     ·rw [if_pos ey,if_pos (by omega),ey];omega
     ·rw [if_neg ey,if_neg (by omega),ez2];omega
    ·have ez2:¬ (gi c.proof k).no=(j:Int):=by omega
     rw [if_neg ez,if_neg ez2]
     by_cases ey:(gi c.proof k).yes=(j:Int)
     ·rw [if_pos ey,if_pos (by omega),ey];omega
     ·rw [if_neg ey,if_neg (by omega)];omega
   repeat' (first
    |apply VWp.assoc
    |apply VWp.rseq
    |apply VWp.region
    |apply VWp.skipSeq
    |apply VWp.blockSeq
    |apply QSeq.normal
    |apply QBlk.normal
    |apply VOps.nil
    |apply VOps.one
    |(apply VOps.take;rfl;rfl)
    |(apply VOps.guard;rfl;rfl)
    |(apply VVal.storeVL (y:=(gi (parL c.proof k) (gi c.proof k).yes.toNat+1));rfl;rfl;rfl;trivial;(first|rfl|(refine congrArg (fun t=>[PV.p (FV.int _ t)]) ?_;first|omega|(simp only [Int.natCast_add,Int.natCast_mul,Int.natCast_ediv,Int.natCast_emod]<;>omega)));rfl;rfl;decide;(first|omega|(simp only [List.length_set]<;>omega)))
    |(apply VVal.storeVL (y:=(gi ((parL c.proof k).set (gi c.proof k).yes.toNat (gi (parL c.proof k) (gi c.proof k).yes.toNat+1)) (gi c.proof k).no.toNat+1));rfl;rfl;rfl;trivial;(first|rfl|(refine congrArg (fun t=>[PV.p (FV.int _ t)]) ?_;first|omega|(simp only [Int.natCast_add,Int.natCast_mul,Int.natCast_ediv,Int.natCast_emod]<;>omega)));rfl;rfl;decide;(first|omega|(simp only [List.length_set]<;>omega)))
    |(apply VVal.assign;rfl)
    |(apply VVal.move;rfl)
    |(apply VVal.add64;rfl;rfl;omega)
    |(apply VVal.int;rfl;rfl;rfl)
    |(apply VVal.indexN;rfl;rfl;rfl;omega;rfl)
    |(apply VVal.loadVL;rfl;rfl;omega;rfl)
    |(apply VVal.load;rfl;rfl)
    |(apply VVal.pick_false;rfl;rfl)
    |(apply VVal.fieldB;rfl;rfl;rfl)
    |(apply VVal.alloc;rfl)
    |(apply VVal.storeB;rfl;rfl;rfl;trivial;rfl;rfl;exact lt_dec rfl;exact le_dec rfl)
    |(apply VVal.indexVE;rfl;rfl;rfl;rfl;omega;omega)
    |(apply VWp.condSeq_dec;rfl)
    |(intro _;try (exfalso;omega)))
   all_goals try (exfalso;omega)
   refine QLoop.normal ⟨hiv2,by omega,?_,?_⟩
   ·try (try rw [e1])
    repeat (first|exact LCov.nil|refine LCov.same trivial rfl ?_|refine LCov.same (lt_dec rfl) rfl ?_|refine LCov.same ⟨trivial,lt_dec rfl,trivial⟩ rfl ?_|refine LCov.same ⟨trivial,lt_dec rfl,lt_dec rfl,trivial⟩ rfl ?_|refine LCov.same ⟨trivial,lt_dec rfl,lt_dec rfl,lt_dec rfl,trivial⟩ rfl ?_|refine LCov.same ⟨trivial,trivial⟩ rfl ?_|refine LCov.cons trivial rfl (.of_eq (lst_len (by simp<;>omega))) ?_)
   ·try rw [e1]
    repeat (first|exact HCov.nil|(refine HCov.cons (lt_dec rfl) ?_ rfl ?_ ?_;(first|exact HB.under_of rfl|exact PVs.under_pure _ _|(simp [HB.under,PVs.under,PV.under]));(first|exact HLe.refl _|exact HLe.vec (FLes.refl _) (by simp))))
 intro hk
 have hpl:=parL_len c.proof c.proof.length
 repeat' (first
  |apply VWp.assoc
  |apply VWp.rseq
  |apply VWp.exitSeq
  |apply VWp.blockSeq
  |apply QSeq.normal
  |apply QBlk.exit
  |apply QLoop.exit
  |apply VOps.nil
  |apply VOps.one
  |(apply VVal.assign;rfl)
  |(apply VVal.int;rfl;rfl;rfl)
  |(apply VWp.condSeq_dec;rfl)
  |(intro _;try (exfalso;omega)))
 all_goals try (exfalso;omega)
 refine VWp.ghost (Ghost.le 9 rfl (v0:=.p (.int .i64 (((0:Nat):Int)+1))) (.of_eq rfl)) ?_
 apply VWp.loopRI (c.proof.length-1) (fun k=>∀ j:Nat,1≤j→j<k+1→parK c.proof j c.proof.length=1) [(2,_),(3,_),(5,_),(6,_)] [(0,_),(1,_),(2,_)] (fun k r=>(9,.p (.int .i64 ((k:Int)+1)))::r) (fun k r=>r) 3
 ·omega
 ·omega
 ·repeat (first|exact LCov.nil|(refine LCov.eq rfl ?_ ?_;(first|exact PV.under_of rfl|(simp [PV.under,PVs.under];done)))|refine LCov.cons trivial rfl (.of_eq (lst_len (by simp<;>omega))) ?_)
 ·repeat (first|exact HCov.nil|(refine HCov.eq rfl (lt_dec rfl) ?_ ?_;(first|exact HB.under_of rfl|exact PVs.under_pure _ _|(simp [HB.under,PVs.under,PV.under];done)))|(refine HCov.cons (lt_dec rfl) ?_ rfl ?_ ?_;(first|exact trivial|exact PVs.under_pure _ _|(simp [HB.under,PVs.under,PV.under]));(first|exact HLe.refl _|exact HLe.vec (FLes.refl _) (by simp))))
 ·first|(intro _ _;omega)|omega|trivial
 ·intro k hkk hiv
  have hg:=parL_gi (N:=c.proof) (k:=c.proof.length) (j:=k+1) (by omega)
  have e0:((k:Int)+1).toNat=k+1:=by omega
  have hg2:gi (parL c.proof c.proof.length) ((k:Int)+1).toNat=parK c.proof ((k+1:Nat):Int) c.proof.length:=by rw [e0,hg]
  by_cases h1:parK c.proof ((k+1:Nat):Int) c.proof.length=1
  ·have hiv2:∀ j:Nat,1≤j→j<k+1+1→parK c.proof j c.proof.length=1:=fun j j1 j2=>by
    by_cases e:j=k+1
    ·subst e;exact h1
    ·exact hiv j j1 (by omega)
   repeat' (first
    |apply VWp.assoc
    |apply VWp.rseq
    |apply VWp.region
    |apply VWp.skipSeq
    |apply VWp.blockSeq
    |apply QSeq.normal
    |apply QBlk.normal
    |apply VWp.skip
    |apply VOps.nil
    |apply VOps.one
    |(apply VVal.assign;rfl)
    |(apply VVal.move;rfl)
    |(apply VVal.add64;rfl;rfl;omega)
    |(apply VVal.int;rfl;rfl;rfl)
    |(apply VVal.loadVL;rfl;rfl;omega;rfl)
    |(apply VVal.indexVE;rfl;rfl;rfl;rfl;omega;omega)
    |(apply VWp.condSeq_dec;rfl)
    |(apply VWp.cond_dec;rfl)
    |(intro _;try (exfalso;omega)))
   all_goals try (exfalso;omega)
   refine QLoop.normal ⟨hiv2,by omega,?_,?_⟩
   ·repeat (first|exact LCov.nil|refine LCov.same trivial rfl ?_|refine LCov.same (lt_dec rfl) rfl ?_|refine LCov.same ⟨trivial,lt_dec rfl,trivial⟩ rfl ?_|refine LCov.same ⟨trivial,lt_dec rfl,lt_dec rfl,trivial⟩ rfl ?_|refine LCov.same ⟨trivial,lt_dec rfl,lt_dec rfl,lt_dec rfl,trivial⟩ rfl ?_|refine LCov.same ⟨trivial,trivial⟩ rfl ?_|refine LCov.cons trivial rfl (.of_eq (lst_len (by simp<;>omega))) ?_)
   ·repeat (first|exact HCov.nil|(refine HCov.cons (lt_dec rfl) ?_ rfl ?_ ?_;(first|exact HB.under_of rfl|exact PVs.under_pure _ _|(simp [HB.under,PVs.under,PV.under]));(first|exact HLe.refl _|exact HLe.vec (FLes.refl _) (by simp))))
  ·rw [decide_eq_false (show ¬ P from fun hb=>h1 ((hP0.1 hb).2.2.1 (k+1) (by omega) (by omega)))]
   repeat' (first
    |apply VWp.assoc
    |apply VWp.rseq
    |apply VWp.skipSeq
    |apply VWp.blockSeq
    |apply QSeq.ret
    |apply QBlk.ret
    |apply QLoop.ret
    |apply VWp.ret
    |apply VOps.nil
    |apply VOps.one
    |(apply VVal.assign;rfl)
    |(apply VVal.move;rfl)
    |(apply VVal.int;rfl;rfl;rfl)
    |(apply VVal.loadVL;rfl;rfl;omega;rfl)
    |(apply VVal.indexVE;rfl;rfl;rfl;rfl;omega;omega)
    |(apply VWp.condSeq_dec;rfl)
    |(apply VWp.cond_dec;rfl)
    |(intro _;try (exfalso;omega)))
   all_goals first|(exfalso;omega)|(refine Done.ret rfl (.refl _) (by first|exact trivial|exact ⟨trivial,trivial,trivial⟩|exact ⟨trivial,trivial,trivial,trivial⟩) HCov.nil (Nat.zero_le _) (Nat.le_refl _) ⟨?_,rfl,rfl⟩;try rfl)
 intro hpar
 have hnode:=lnode_spec p n hp hn hL h hE c hN hws hk c.proof.length 0 (List.replicate p.sets.length 0) (by omega) (by omega) (by omega) (by simp)
 rw [show decide P=decide (nodeP p.sets n c.cost c.proof c.proof.length (0:Int).toNat (List.replicate p.sets.length 0)) from decide_eq_decide.2 (hP0.trans ⟨fun hb=>hb.2.2.2,fun hb=>⟨h0,hk,fun j j1 j2=>hpar j j1 (by omega),hb⟩⟩)]
 repeat' (first
  |apply VWp.assoc
  |apply VWp.rseq
  |apply VWp.rseqD
  |apply VWp.exitSeq
  |apply QSeq.normal
  |apply QBlk.exit
  |apply QLoop.exit
  |apply VWp.ret
  |apply VOps.nil
  |apply VOpsD.nil
  |apply VOps.one
  |(apply VOpsD.bar;decide +kernel)
  |apply VOpsD.quiet
  |(apply VVal.makeSliceL p.sets.length (0:Int);rfl;rfl;rfl;rfl;rfl;rfl;rfl;omega;decide;decide;rfl)
  |(apply VVal.read [3] hnode;rfl;rfl;exact .of_eq rfl;exact PVs.under_of rfl;exact HUnder_of rfl;(repeat (first|exact trivial|refine ⟨⟨_,rfl,.of_eq rfl⟩,?_⟩));decide;(intro _ hb;simp at hb<;>omega);rfl)
  |(apply VVal.assign;rfl)
  |(apply VVal.move;rfl)
  |(apply VVal.int;rfl;rfl;rfl)
  |(apply VVal.load;rfl;rfl)
  |(apply VVal.lenF;rfl;rfl)
  |(apply VVal.fieldB;rfl;rfl;rfl)
  |(apply VWp.condSeq_dec;rfl)
  |(intro _;try (exfalso;omega)))
 all_goals first|(exfalso;omega)|(refine Done.ret rfl (.refl _) (by first|exact trivial|exact ⟨trivial,trivial,trivial⟩|exact ⟨trivial,trivial,trivial,trivial⟩) HCov.nil (Nat.zero_le _) (Nat.le_refl _) ⟨?_,rfl,rfl⟩;try rfl)
end
end Go.Proofs.YtmfnchgkffhpfaaDoor
