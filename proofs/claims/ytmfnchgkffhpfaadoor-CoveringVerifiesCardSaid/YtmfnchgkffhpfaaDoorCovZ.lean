/-
  The search: look, all of it. Conditions: in each statement.
-/
import Derived.Test.YtmfnchgkffhpfaaDoorCovXY
set_option linter.unusedSimpArgs false
set_option linter.unusedVariables false
set_option linter.unusedSectionVars false
namespace Go.Proofs.YtmfnchgkffhpfaaDoor
open Go Go.Am Go.Vm
attribute [local irreducible] VVal VOps VOpsD VWp VCalls VFun VFunV QSeq QBlk QLoop Vm.Done DoneV DoneI VRead VReadV
def Elsn (L:List CSet) (n:Nat):Prop:=∀ i,i<L.length→∀ j,j<(gi L i).els.length→0≤gi (gi L i).els j∧gi (gi L i).els j<n
theorem sst_full {L:List CSet} {n i:Nat} {A:List Int} {x:CSt} (hn:n≤7) (hE:Elsn L n) (hi:i≤L.length) (hx:SSt L i A x):x.cov=2 ^ n-1↔missK L A n=[]:=by
 have hin:∀ j,j<A.length→0≤gi A j∧gi A j<L.length:=fun j hj=>by have:=ris_gi hx.ris j hj;omega
 exact full_iff hn hx.cov fun y hy=>hasK_lt hE hin y _ (Nat.le_refl _) (by rw [← hx.cov];exact hy)
theorem dfs_full {L:List CSet} {n:Nat} {A:List Int} (h:missK L A n=[]):∀ k i,dfsA L n k i A=[A]
 |0,i=>by simp only [dfsA];rw [if_pos h]
 |k+1,i=>by simp only [dfsA];rw [if_pos h]
theorem gap_skip {L:List CSet} {n k i:Nat} {A:List Int} {x:CSt} {g:Nat} (h:ElsOk L) (hik:i+k=L.length) (hx:SSt L i A x) (g1:g<n) (g2:x.cov.testBit g=false) (g3:freeK L x g L.length=[]):dfsA L n k i A=[]:=by
 refine gap_none hik g1 (by rw [← hx.cov];exact g2) fun j j1 j2 hin=>?_
 have:(j:Int)∈freeK L x g L.length:=freeK_mem.2 ⟨by omega,by omega,by
  unfold freeB
  rw [Int.toNat_natCast,hx.used,decide_eq_false (by omega),(wordC_spec h j2).2,decide_eq_true hin];rfl⟩
 rw [g3] at this;cases this
set_option maxRecDepth 100000 in
set_option maxHeartbeats 16000000 in
theorem look_spec (p:CProb) (n:Nat) (hp:p.n=n) (hn:n≤7) (hL:p.sets.length≤7) (h:ElsOk p.sets) (hS:ElsS p.sets) (hE:Elsn p.sets n):∀ (k i:Nat) (A:List Int) (x:CSt) (S:Int×List (List Int)) (steps:Int),i+k=p.sets.length→SSt p.sets i A x→S.2.length+2 ^ k≤189→0≤steps→steps+((2 ^ (k+1):Nat):Int)≤100000 →
 VCalls env 56 [.ref 0 0,.p (.agg (Enc.enc x)),.p (.int .i64 (i:Int))] (lookH p 1 S.1 S.2 steps) 2 (lookQ p k ((dfsA p.sets n k i A).foldl (updC p.sets) S) steps)
 |0,i,A,x,(least,AA),steps,hik,hx,hlen,hs0,hs1=>by
  have hfull:=sst_full hn hE (by omega) hx
  by_cases hm:missK p.sets A n=[]
  ·rw [dfs_full hm]
   exact look_full p n hp hn hL h hS 0 i A x (least,AA) steps hx (hfull.2 hm) (by simp only at hlen ⊢;omega) hs0 (by omega)
  ·have ha:=all_spec p n hp hn
   have hf:¬ x.cov=2 ^ n-1:=fun e=>hm (hfull.1 e)
   have hwl:(wordsL p.sets).length=p.sets.length:=by unfold wordsL;rw [List.length_map]
   have hD:dfsA p.sets n 0 i A=[]:=by simp only [dfsA];rw [if_neg hm]
   rw [hD]
   show VCalls env _ _ (lookH p 1 least AA steps) 2 (lookQ p 0 (least,AA) steps)
   refine look_names ?_
   refine VCalls.enter (env_none (by decide)) Tryd.func56 rfl (by kernel_rfl) (by simp [Tryd.ntmps56]) ?_
   unfold lookH
   repeat' (first
    |apply VWp.assoc
    |apply VWp.rseq
    |apply VWp.rseqD
    |apply VWp.skipSeq
    |apply VWp.retSeq
    |apply VOps.nil
    |apply VOpsD.nil
    |apply VOps.one
    |(apply VOpsD.bar;decide +kernel)
    |apply VOpsD.quiet
    |(apply VOps.drop;rfl;rfl;rfl)
    |(apply VOps.guard;rfl;rfl)
    |(apply VVal.fn;rfl;rfl;exact ha;intro _;rfl)
    |(apply VVal.nilChk;rfl;rfl)
    |(apply VVal.move;rfl)
    |(apply VVal.add64;rfl;rfl;omega)
    |(apply VVal.int;rfl;rfl;rfl)
    |(apply VVal.load;rfl;rfl)
    |(apply VVal.pick_false;rfl;rfl)
    |(apply VVal.lenF;rfl;rfl)
    |(apply VVal.fieldB;rfl;rfl;rfl)
    |(apply VVal.box;rfl;trivial)
    |(apply VVal.storeB;rfl;rfl;rfl;trivial;rfl;rfl;exact lt_dec rfl;exact le_dec rfl)
    |(apply VWp.condSeq_false;rfl)
    |(apply VWp.condSeq_dec;rfl)
    |(intro _;try (exfalso;omega)))
   all_goals try (exfalso;omega)
   refine Done.ret (H0:=lookH p 1 least AA (steps+1)) (nx0:=3) rfl (.refl _) trivial ?_ (by omega) (by omega) ⟨rfl,1,steps+1,by omega,by omega,by omega,by simp only [Nat.zero_add,Nat.pow_one];omega,rfl,by omega⟩
   unfold lookH
   repeat (first|exact HCov.nil|(refine HCov.cons (lt_dec rfl) ?_ rfl ?_ ?_;(first|exact HB.under_of rfl|exact PVs.under_pure _ _|(simp [HB.under,PVs.under,PV.under]));(first|exact HLe.refl _|exact HLe.vec (FLes.refl _) (by simp))))
 |k+1,i,A,x,(least,AA),steps,hik,hx,hlen,hs0,hs1=>by
  have hfull:=sst_full hn hE (by omega) hx
  have hpw:2 ^ (k+1)=2*2 ^ k:=by rw [Nat.pow_succ];omega
  have hpw2:2 ^ (k+1+1)=2*2 ^ (k+1):=by rw [Nat.pow_succ];omega
  have hp0:=Nat.two_pow_pos k
  simp only at hlen
  by_cases hm:missK p.sets A n=[]
  ·rw [dfs_full hm]
   exact look_full p n hp hn hL h hS (k+1) i A x (least,AA) steps hx (hfull.2 hm) (by simp only;omega) hs0 (by omega)
  ·have ha:=all_spec p n hp hn
   have hf:¬ x.cov=2 ^ n-1:=fun e=>hm (hfull.1 e)
   have hwl:(wordsL p.sets).length=p.sets.length:=by unfold wordsL;rw [List.length_map]
   have hi:i<p.sets.length:=by omega
   have hwei:=weights_spec p n hp hn hL h hS x hx.ok
   have ht:=take_spec p x i hi hL h hx.ok
   have hlv:=leave_spec (srchC p) x i (by omega) hx.ok
   have ih:=look_spec p n hp hn hL h hS hE k
   have hgap:=fun g g1 g2 g3=>gap_skip (n:=n) (g:=g) h hik hx g1 g2 g3
   have hbnd:=fun l sum hw=>bound_skip (l:=l) (sum:=sum) hik hE hx hw
   obtain ⟨o1,o2,o3,o4,o5⟩:=hx.ok
   match AA,hlen with
   |[],hlen =>
    refine look_names ?_
    refine VCalls.enter (env_none (by decide)) Tryd.func56 rfl (by kernel_rfl) (by simp [Tryd.ntmps56]) ?_
    unfold lookH
    repeat' (first
     |apply VWp.assoc
     |apply VWp.rseq
     |apply VWp.rseqD
     |apply VWp.skipSeq
     |apply VOps.nil
     |apply VOpsD.nil
     |apply VOps.one
     |(apply VOpsD.bar;decide +kernel)
     |apply VOpsD.quiet
     |(apply VOps.drop;rfl;rfl;rfl)
     |(apply VOps.guard;rfl;rfl)
     |(apply VVal.fn;rfl;rfl;exact ha;intro _;rfl)
     |(apply VVal.nilChk;rfl;rfl)
     |(apply VVal.move;rfl)
     |(apply VVal.add64;rfl;rfl;omega)
     |(apply VVal.int;rfl;rfl;rfl)
     |(apply VVal.load;rfl;rfl)
     |(apply VVal.pick_false;rfl;rfl)
     |(apply VVal.lenF;rfl;rfl)
     |(apply VVal.fieldB;rfl;rfl;rfl)
     |(apply VVal.box;rfl;trivial)
     |(apply VVal.storeB;rfl;rfl;rfl;trivial;rfl;rfl;exact lt_dec rfl;exact le_dec rfl)
     |(apply VWp.condSeq_false;rfl)
     |(apply VWp.condSeq_dec;rfl)
     |(intro _;try (exfalso;omega)))
    all_goals try (exfalso;omega)
    apply VVal.lendW hwei
    ·rfl
    ·rfl
    ·exact .of_eq rfl
    ·rfl
    ·intro g g1 g2 g3
     rw [hgap g g1 g2 g3]
     repeat' (first
      |apply VWp.assoc
      |apply VWp.rseqD
      |apply VWp.retSeq
      |apply VOps.nil
      |apply VOpsD.nil
      |apply VOps.one
      |(apply VOpsD.bar;decide +kernel)
      |(apply VOpsD.drop;rfl;rfl;rfl)
      |(apply VOpsD.dropU;rfl;rfl)
      |(apply VVal.assign;rfl)
      |(apply VVal.move;rfl)
      |(apply VVal.int;rfl;rfl;rfl)
      |(apply VVal.pick_true;rfl;rfl)
      |(apply VVal.extract;rfl;rfl)
      |(apply VWp.condSeq_true;rfl))
     all_goals try (exfalso;omega)
     refine Done.ret (H0:=lookH p 1 least [] (steps+1)) (nx0:=3) rfl (.refl _) trivial ?_ (by omega) (by omega) ⟨rfl,1,steps+1,by omega,by omega,by omega,by omega,rfl,by omega⟩
     unfold lookH
     repeat (first|exact HCov.nil|(refine HCov.cons (lt_dec rfl) ?_ rfl ?_ ?_;(first|exact HB.under_of rfl|exact PVs.under_pure _ _|(simp [HB.under,PVs.under,PV.under]));(first|exact HLe.refl _|exact HLe.vec (FLes.refl _) (by simp))))
    ·intro l sum w1 w2 w3 w4
     have hD:(dfsA p.sets n (k+1) i A).foldl (updC p.sets) (least,[])=(dfsA p.sets n k (i+1) A).foldl (updC p.sets) ((dfsA p.sets n k (i+1) (A++[(i:Int)])).foldl (updC p.sets) (least,[])):=by
      rw [← List.foldl_append]
      simp only [dfsA]
      rw [if_neg hm]
     rw [hD]
     repeat' (first
      |apply VWp.assoc
      |apply VWp.rseq
      |apply VWp.rseqD
      |apply VWp.skipSeq
      |apply VOps.nil
      |apply VOpsD.nil
      |apply VOps.one
      |(apply VOpsD.bar;decide +kernel)
      |(apply VOpsD.quietTake;rfl;rfl)
      |(apply VOpsD.drop;rfl;rfl;rfl)
      |(apply VVal.nilChk;rfl;rfl)
      |(apply VVal.neNilV;rfl;rfl;rfl;rfl)
      |(apply VVal.assign;rfl)
      |(apply VVal.move;rfl)
      |(apply VVal.int;rfl;rfl;rfl)
      |(apply VVal.load;rfl;rfl)
      |(apply VVal.pick_false;rfl;rfl)
      |(apply VVal.fieldB;rfl;rfl;rfl)
      |(apply VVal.extract;rfl;rfl)
      |(apply VWp.condSeq_false;rfl))
     all_goals try (exfalso;omega)
     have ih1:=ih (i+1) (A++[(i:Int)]) (takeS p.sets x i) (least,[]) (steps+1) (by omega) (sst_take h hL hi hx) (by simp only;omega) (by omega) (by omega)
     repeat' (first
      |apply VOps.one
      |(apply VVal.lendF (ht);rfl;rfl;rfl;exact .of_eq rfl;rfl)
      |(apply VVal.move;rfl)
      |(apply VVal.add64;rfl;rfl;omega))
     all_goals try (exfalso;omega)
     (apply VVal.callK [0,1] (ih1);rfl;rfl;exact .of_eq rfl;exact PVs.under_of rfl;exact HUnder_of rfl;(refine ⟨⟨_,rfl,.of_eq rfl⟩,?_⟩;repeat (first|exact trivial|refine ⟨⟨_,rfl,.of_eq rfl⟩,?_⟩));decide;(intro _ hb;simp at hb ⊢<;>omega))
     rintro r H' nx' ⟨rfl,c,st,hc,s1,s2,rfl,rfl⟩
     have hl1:=upd_len p.sets (dfsA p.sets n k (i+1) (A++[(i:Int)])) (least,[])
     have hl2:=dfs_len p.sets n k (i+1) (A++[(i:Int)])
     generalize hS1:(dfsA p.sets n k (i+1) (A++[(i:Int)])).foldl (updC p.sets) (least,[])=S1 at *
     simp only at hl1
     have ih2:=ih (i+1) A (leaveS x i) S1 st (by omega) (sst_leave h hL hi hx) (by omega) (by omega) (by omega)
     generalize (dfsA p.sets n k (i+1) A).foldl (updC p.sets) S1=S2 at *
     rcases hc with rfl|rfl
     ·skip
      repeat' (first
       |apply VWp.region
       |apply VOps.nil
       |apply VOps.one
       |(apply VVal.lendF (hlv);rfl;rfl;rfl;exact .of_eq rfl;rfl)
       |(apply VVal.move;rfl)
       |(apply VVal.add64;rfl;rfl;omega)
       |(apply VVal.load;rfl;rfl))
      all_goals try (exfalso;omega)
      (apply VVal.callK [0,1] (ih2);rfl;rfl;exact .of_eq rfl;exact PVs.under_of rfl;exact HUnder_of rfl;(refine ⟨⟨_,rfl,.of_eq rfl⟩,?_⟩;repeat (first|exact trivial|refine ⟨⟨_,rfl,.of_eq rfl⟩,?_⟩));decide;(intro _ hb;simp at hb ⊢<;>omega))
      rintro r H' nx' ⟨rfl,c,st2,hc,t1,t2,rfl,rfl⟩
      rcases hc with rfl|rfl
      ·skip
       repeat' (first
        |apply VOps.nil)
       refine Done.normal (H0:=lookH p 1 S2.1 S2.2 st2) (nx0:=3) rfl (.refl _) trivial ?_ (by first|omega|decide) (by omega) ⟨rfl,1,st2,by omega,by omega,by omega,by omega,rfl,by omega⟩
       unfold lookH
       repeat (first|exact HCov.nil|(refine HCov.cons (lt_dec rfl) ?_ rfl ?_ ?_;(first|exact HB.under_of rfl|exact PVs.under_pure _ _|(simp [HB.under,PVs.under,PV.under]));(first|exact HLe.refl _|exact HLe.vec (FLes.refl _) (by simp))))
      ·skip
       repeat' (first
        |apply VOps.nil)
       refine Done.normal (H0:=lookH p 6 S2.1 S2.2 st2) (nx0:=7) rfl (.refl _) trivial ?_ (by first|omega|decide) (by omega) ⟨rfl,6,st2,by omega,by omega,by omega,by omega,rfl,by omega⟩
       unfold lookH
       repeat (first|exact HCov.nil|(refine HCov.cons (lt_dec rfl) ?_ rfl ?_ ?_;(first|exact HB.under_of rfl|exact PVs.under_pure _ _|(simp [HB.under,PVs.under,PV.under]));(first|exact HLe.refl _|exact HLe.vec (FLes.refl _) (by simp))))
     ·skip
      repeat' (first
       |apply VWp.region
       |apply VOps.nil
       |apply VOps.one
       |(apply VVal.lendF (hlv);rfl;rfl;rfl;exact .of_eq rfl;rfl)
       |(apply VVal.move;rfl)
       |(apply VVal.add64;rfl;rfl;omega)
       |(apply VVal.load;rfl;rfl))
      all_goals try (exfalso;omega)
      (apply VVal.callK [0,5] (ih2);rfl;rfl;exact .of_eq rfl;exact PVs.under_of rfl;exact HUnder_of rfl;(refine ⟨⟨_,rfl,.of_eq rfl⟩,?_⟩;repeat (first|exact trivial|refine ⟨⟨_,rfl,.of_eq rfl⟩,?_⟩));decide;(intro _ hb;simp at hb ⊢<;>omega))
      rintro r H' nx' ⟨rfl,c,st2,hc,t1,t2,rfl,rfl⟩
      rcases hc with rfl|rfl
      ·skip
       repeat' (first
        |apply VOps.nil)
       refine Done.normal (H0:=lookH p 5 S2.1 S2.2 st2) (nx0:=6) rfl (.refl _) trivial ?_ (by first|omega|decide) (by omega) ⟨rfl,5,st2,by omega,by omega,by omega,by omega,rfl,by omega⟩
       unfold lookH
       repeat (first|exact HCov.nil|(refine HCov.cons (lt_dec rfl) ?_ rfl ?_ ?_;(first|exact HB.under_of rfl|exact PVs.under_pure _ _|(simp [HB.under,PVs.under,PV.under]));(first|exact HLe.refl _|exact HLe.vec (FLes.refl _) (by simp))))
      ·skip
       repeat' (first
        |apply VOps.nil)
       refine Done.normal (H0:=lookH p 6 S2.1 S2.2 st2) (nx0:=7) rfl (.refl _) trivial ?_ (by first|omega|decide) (by omega) ⟨rfl,6,st2,by omega,by omega,by omega,by omega,rfl,by omega⟩
       unfold lookH
       repeat (first|exact HCov.nil|(refine HCov.cons (lt_dec rfl) ?_ rfl ?_ ?_;(first|exact HB.under_of rfl|exact PVs.under_pure _ _|(simp [HB.under,PVs.under,PV.under]));(first|exact HLe.refl _|exact HLe.vec (FLes.refl _) (by simp))))
   |B::AA,hlen =>
    have hml:(msk (B::AA)).length=AA.length+1:=by rw [msk_len];rfl
    have hne:¬ (B::AA=[]):=by simp
    refine look_names ?_
    refine VCalls.enter (env_none (by decide)) Tryd.func56 rfl (by kernel_rfl) (by simp [Tryd.ntmps56]) ?_
    unfold lookH
    repeat' (first
     |apply VWp.assoc
     |apply VWp.rseq
     |apply VWp.rseqD
     |apply VWp.skipSeq
     |apply VOps.nil
     |apply VOpsD.nil
     |apply VOps.one
     |(apply VOpsD.bar;decide +kernel)
     |apply VOpsD.quiet
     |(apply VOps.drop;rfl;rfl;rfl)
     |(apply VOps.guard;rfl;rfl)
     |(apply VVal.fn;rfl;rfl;exact ha;intro _;rfl)
     |(apply VVal.nilChk;rfl;rfl)
     |(apply VVal.move;rfl)
     |(apply VVal.add64;rfl;rfl;omega)
     |(apply VVal.int;rfl;rfl;rfl)
     |(apply VVal.load;rfl;rfl)
     |(apply VVal.pick_false;rfl;rfl)
     |(apply VVal.lenF;rfl;rfl)
     |(apply VVal.fieldB;rfl;rfl;rfl)
     |(apply VVal.box;rfl;trivial)
     |(apply VVal.storeB;rfl;rfl;rfl;trivial;rfl;rfl;exact lt_dec rfl;exact le_dec rfl)
     |(apply VWp.condSeq_false;rfl)
     |(apply VWp.condSeq_dec;rfl)
     |(intro _;try (exfalso;omega)))
    all_goals try (exfalso;omega)
    apply VVal.lendW hwei
    ·rfl
    ·rfl
    ·exact .of_eq rfl
    ·rfl
    ·intro g g1 g2 g3
     rw [hgap g g1 g2 g3]
     repeat' (first
      |apply VWp.assoc
      |apply VWp.rseqD
      |apply VWp.retSeq
      |apply VOps.nil
      |apply VOpsD.nil
      |apply VOps.one
      |(apply VOpsD.bar;decide +kernel)
      |(apply VOpsD.drop;rfl;rfl;rfl)
      |(apply VOpsD.dropU;rfl;rfl)
      |(apply VVal.assign;rfl)
      |(apply VVal.move;rfl)
      |(apply VVal.int;rfl;rfl;rfl)
      |(apply VVal.pick_true;rfl;rfl)
      |(apply VVal.extract;rfl;rfl)
      |(apply VWp.condSeq_true;rfl))
     all_goals try (exfalso;omega)
     refine Done.ret (H0:=lookH p 1 least (B::AA) (steps+1)) (nx0:=3) rfl (.refl _) trivial ?_ (by omega) (by omega) ⟨rfl,1,steps+1,by omega,by omega,by omega,by omega,rfl,by omega⟩
     unfold lookH
     repeat (first|exact HCov.nil|(refine HCov.cons (lt_dec rfl) ?_ rfl ?_ ?_;(first|exact HB.under_of rfl|exact PVs.under_pure _ _|(simp [HB.under,PVs.under,PV.under]));(first|exact HLe.refl _|exact HLe.vec (FLes.refl _) (by simp))))
    ·intro l sum w1 w2 w3 w4
     by_cases hcut:x.cost+sum>least
     ·have hD:(dfsA p.sets n (k+1) i A).foldl (updC p.sets) (least,B::AA)=(least,B::AA):=upd_skip fun B' hB'=>⟨hne,by have:=hbnd l sum w1 B' hB';simp only;omega⟩
      rw [hD]
      repeat' (first
       |apply VWp.assoc
       |apply VWp.rseqD
       |apply VWp.retSeq
       |apply VOps.nil
       |apply VOpsD.nil
       |apply VOps.one
       |(apply VOpsD.bar;decide +kernel)
       |(apply VOpsD.quietTake;rfl;rfl)
       |(apply VVal.nilChk;rfl;rfl)
       |(apply VVal.neNilV;rfl;rfl;rfl;rfl)
       |(apply VVal.assign;rfl)
       |(apply VVal.move;rfl)
       |(apply VVal.add64;rfl;rfl;omega)
       |(apply VVal.int;rfl;rfl;rfl)
       |(apply VVal.load;rfl;rfl)
       |(apply VVal.pick_true;rfl;rfl)
       |(apply VVal.pick_false;rfl;rfl)
       |(apply VVal.fieldB;rfl;rfl;rfl)
       |(apply VVal.extract;rfl;rfl)
       |(apply VWp.condSeq_dec;rfl)
       |(intro _;try (exfalso;omega)))
      all_goals try (exfalso;omega)
      refine Done.ret (H0:=lookH p 1 least (B::AA) (steps+1)) (nx0:=3) rfl (.refl _) trivial ?_ (by omega) (by omega) ⟨rfl,1,steps+1,by omega,by omega,by omega,by omega,rfl,by omega⟩
      unfold lookH
      repeat (first|exact HCov.nil|(refine HCov.cons (lt_dec rfl) ?_ rfl ?_ ?_;(first|exact HB.under_of rfl|exact PVs.under_pure _ _|(simp [HB.under,PVs.under,PV.under]));(first|exact HLe.refl _|exact HLe.vec (FLes.refl _) (by simp))))
     ·have hD:(dfsA p.sets n (k+1) i A).foldl (updC p.sets) (least,B::AA)=(dfsA p.sets n k (i+1) A).foldl (updC p.sets) ((dfsA p.sets n k (i+1) (A++[(i:Int)])).foldl (updC p.sets) (least,B::AA)):=by
       rw [← List.foldl_append]
       simp only [dfsA]
       rw [if_neg hm]
      rw [hD]
      repeat' (first
       |apply VWp.assoc
       |apply VWp.rseq
       |apply VWp.rseqD
       |apply VWp.skipSeq
       |apply VOps.nil
       |apply VOpsD.nil
       |apply VOps.one
       |(apply VOpsD.bar;decide +kernel)
       |(apply VOpsD.quietTake;rfl;rfl)
       |(apply VVal.nilChk;rfl;rfl)
       |(apply VVal.neNilV;rfl;rfl;rfl;rfl)
       |(apply VVal.assign;rfl)
       |(apply VVal.move;rfl)
       |(apply VVal.add64;rfl;rfl;omega)
       |(apply VVal.int;rfl;rfl;rfl)
       |(apply VVal.load;rfl;rfl)
       |(apply VVal.pick_true;rfl;rfl)
       |(apply VVal.pick_false;rfl;rfl)
       |(apply VVal.fieldB;rfl;rfl;rfl)
       |(apply VVal.extract;rfl;rfl)
       |(apply VWp.condSeq_dec;rfl)
       |(intro _;try (exfalso;omega)))
      all_goals try (exfalso;omega)
      have ih1:=ih (i+1) (A++[(i:Int)]) (takeS p.sets x i) (least,(B::AA)) (steps+1) (by omega) (sst_take h hL hi hx) (by simp only;omega) (by omega) (by omega)
      repeat' (first
       |apply VOps.one
       |(apply VVal.lendF (ht);rfl;rfl;rfl;exact .of_eq rfl;rfl)
       |(apply VVal.move;rfl)
       |(apply VVal.add64;rfl;rfl;omega))
      all_goals try (exfalso;omega)
      (apply VVal.callK [0,1] (ih1);rfl;rfl;exact .of_eq rfl;exact PVs.under_of rfl;exact HUnder_of rfl;(refine ⟨⟨_,rfl,.of_eq rfl⟩,?_⟩;repeat (first|exact trivial|refine ⟨⟨_,rfl,.of_eq rfl⟩,?_⟩));decide;(intro _ hb;simp at hb ⊢<;>omega))
      rintro r H' nx' ⟨rfl,c,st,hc,s1,s2,rfl,rfl⟩
      have hl1:=upd_len p.sets (dfsA p.sets n k (i+1) (A++[(i:Int)])) (least,(B::AA))
      have hl2:=dfs_len p.sets n k (i+1) (A++[(i:Int)])
      generalize hS1:(dfsA p.sets n k (i+1) (A++[(i:Int)])).foldl (updC p.sets) (least,(B::AA))=S1 at *
      simp only at hl1
      have ih2:=ih (i+1) A (leaveS x i) S1 st (by omega) (sst_leave h hL hi hx) (by omega) (by omega) (by omega)
      generalize (dfsA p.sets n k (i+1) A).foldl (updC p.sets) S1=S2 at *
      rcases hc with rfl|rfl
      ·skip
       repeat' (first
        |apply VWp.region
        |apply VOps.nil
        |apply VOps.one
        |(apply VVal.lendF (hlv);rfl;rfl;rfl;exact .of_eq rfl;rfl)
        |(apply VVal.move;rfl)
        |(apply VVal.add64;rfl;rfl;omega)
        |(apply VVal.load;rfl;rfl))
       all_goals try (exfalso;omega)
       (apply VVal.callK [0,1] (ih2);rfl;rfl;exact .of_eq rfl;exact PVs.under_of rfl;exact HUnder_of rfl;(refine ⟨⟨_,rfl,.of_eq rfl⟩,?_⟩;repeat (first|exact trivial|refine ⟨⟨_,rfl,.of_eq rfl⟩,?_⟩));decide;(intro _ hb;simp at hb ⊢<;>omega))
       rintro r H' nx' ⟨rfl,c,st2,hc,t1,t2,rfl,rfl⟩
       rcases hc with rfl|rfl
       ·skip
        repeat' (first
         |apply VOps.nil)
        refine Done.normal (H0:=lookH p 1 S2.1 S2.2 st2) (nx0:=3) rfl (.refl _) trivial ?_ (by first|omega|decide) (by omega) ⟨rfl,1,st2,by omega,by omega,by omega,by omega,rfl,by omega⟩
        unfold lookH
        repeat (first|exact HCov.nil|(refine HCov.cons (lt_dec rfl) ?_ rfl ?_ ?_;(first|exact HB.under_of rfl|exact PVs.under_pure _ _|(simp [HB.under,PVs.under,PV.under]));(first|exact HLe.refl _|exact HLe.vec (FLes.refl _) (by simp))))
       ·skip
        repeat' (first
         |apply VOps.nil)
        refine Done.normal (H0:=lookH p 6 S2.1 S2.2 st2) (nx0:=7) rfl (.refl _) trivial ?_ (by first|omega|decide) (by omega) ⟨rfl,6,st2,by omega,by omega,by omega,by omega,rfl,by omega⟩
        unfold lookH
        repeat (first|exact HCov.nil|(refine HCov.cons (lt_dec rfl) ?_ rfl ?_ ?_;(first|exact HB.under_of rfl|exact PVs.under_pure _ _|(simp [HB.under,PVs.under,PV.under]));(first|exact HLe.refl _|exact HLe.vec (FLes.refl _) (by simp))))
      ·skip
       repeat' (first
        |apply VWp.region
        |apply VOps.nil
        |apply VOps.one
        |(apply VVal.lendF (hlv);rfl;rfl;rfl;exact .of_eq rfl;rfl)
        |(apply VVal.move;rfl)
        |(apply VVal.add64;rfl;rfl;omega)
        |(apply VVal.load;rfl;rfl))
       all_goals try (exfalso;omega)
       (apply VVal.callK [0,5] (ih2);rfl;rfl;exact .of_eq rfl;exact PVs.under_of rfl;exact HUnder_of rfl;(refine ⟨⟨_,rfl,.of_eq rfl⟩,?_⟩;repeat (first|exact trivial|refine ⟨⟨_,rfl,.of_eq rfl⟩,?_⟩));decide;(intro _ hb;simp at hb ⊢<;>omega))
       rintro r H' nx' ⟨rfl,c,st2,hc,t1,t2,rfl,rfl⟩
       rcases hc with rfl|rfl
       ·skip
        repeat' (first
         |apply VOps.nil)
        refine Done.normal (H0:=lookH p 5 S2.1 S2.2 st2) (nx0:=6) rfl (.refl _) trivial ?_ (by first|omega|decide) (by omega) ⟨rfl,5,st2,by omega,by omega,by omega,by omega,rfl,by omega⟩
        unfold lookH
        repeat (first|exact HCov.nil|(refine HCov.cons (lt_dec rfl) ?_ rfl ?_ ?_;(first|exact HB.under_of rfl|exact PVs.under_pure _ _|(simp [HB.under,PVs.under,PV.under]));(first|exact HLe.refl _|exact HLe.vec (FLes.refl _) (by simp))))
       ·skip
        repeat' (first
         |apply VOps.nil)
        refine Done.normal (H0:=lookH p 6 S2.1 S2.2 st2) (nx0:=7) rfl (.refl _) trivial ?_ (by first|omega|decide) (by omega) ⟨rfl,6,st2,by omega,by omega,by omega,by omega,rfl,by omega⟩
        unfold lookH
        repeat (first|exact HCov.nil|(refine HCov.cons (lt_dec rfl) ?_ rfl ?_ ?_;(first|exact HB.under_of rfl|exact PVs.under_pure _ _|(simp [HB.under,PVs.under,PV.under]));(first|exact HLe.refl _|exact HLe.vec (FLes.refl _) (by simp))))
end Go.Proofs.YtmfnchgkffhpfaaDoor
