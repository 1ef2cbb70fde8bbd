/-
  The law of coverings: facts of the problem that Make makes. Conditions: in each statement.
-/
import Derived.Test.YtmfnchgkffhpfaaDoorCovO
import Derived.Test.YtmfnchgkffhpfaaDoorCovG
import Derived.Test.YtmfnchgkffhpfaaDoorCovSf
import Derived.Test.YtmfnchgkffhpfaaDoorCovSd
import Derived.Test.YtmfnchgkffhpfaaDoorCovL
import Derived.Test.YtmfnchgkffhpfaaDoorCovSh
import Derived.Test.YtmfnchgkffhpfaaDoorCovM
set_option linter.unusedSimpArgs false
set_option linter.unusedVariables false
set_option linter.unusedSectionVars false
namespace Go.Proofs.YtmfnchgkffhpfaaDoor
open Go Go.Am Go.Vm
theorem els_lt {x:CPlan} {n:Nat} (hn:(makeM x).n=n):∀ i,i<(makeM x).sets.length→∀ j,j<(gi (makeM x).sets i).els.length→0≤gi (gi (makeM x).sets i).els j∧gi (gi (makeM x).sets i).els j<n:=fun i hi j hj=>by
 have:=(makeM_set x hi).2.1 j hj
 have hpn:(makeM x).n=(x.n:Int) % 8:=rfl
 omega
theorem or_full {L:List CSet} {n:Nat} (h:ElsOk L) (hx:∀ i,i<L.length→∀ j,j<(gi L i).els.length→0≤gi (gi L i).els j∧gi (gi L i).els j<n) (hn:n≤7) (i:Nat):orK L i L.length=2 ^ n-1↔missK L (restL L.length i) n=[] :=
 full_iff hn (orK_rest h i) fun y hy=>hasK_lt hx restL_in y _ (Nat.le_refl _) (by rw [← orK_rest h i];exact hy)
end Go.Proofs.YtmfnchgkffhpfaaDoor
set_option linter.unusedSimpArgs false
set_option linter.unusedVariables false
namespace Go.Proofs.YtmfnchgkffhpfaaDoor
open Go Go.Am Go.Vm
attribute [local irreducible] VVal VOps VOpsD VWp VCalls VFun VFunV QSeq QBlk QLoop Vm.Done DoneV DoneI VRead VReadV
open Classical in
noncomputable def verK (p:CProb) (n:Nat) (c:CCover):Int :=
 if rsg c.sets p.sets.length 0≠0 then rsg c.sets p.sets.length 0 else if covK p.sets c.sets c.sets.length≠2 ^ n-1 then 7 else if costK p.sets c.sets c.sets.length≠c.cost then 20 else if provP p.sets n c.cost c.proof then 0 else 20
open Classical in
set_option maxRecDepth 100000 in
set_option maxHeartbeats 4000000 in
theorem verify_spec (p:CProb) (n:Nat) (hc:VFun env 34 [.agg (Enc.enc p)] (.p (.int .i64 0))) (hp:p.n=n) (hn:n≤7) (hL:p.sets.length≤7) (h:ElsOk p.sets) (hE:Elsn p.sets n) (c:CCover) (hl:c.sets.length<1000) (hN:c.proof.length<1000) (hws:∀ i,i<c.proof.length→(gi c.proof i).ws.length<1000) :
 VFun env 26 [.agg (Enc.enc p),.agg (Enc.enc c)] (.p (.int .i64 (verK p n c))):=by
 have hk:=pcheck_spec 3 p c.sets hc (by omega)
 have ha:=all_spec p n hp hn
 have hpr:=proves_spec p n hp hn hL h hE c.cost c.proof hN hws
 obtain ⟨v,hv⟩:∃ v,v=verK p n c:=⟨_,rfl⟩
 rw [← hv]
 unfold verK at hv
 by_cases hr:rsg c.sets p.sets.length 0≠0
 ·rw [if_pos hr] at hv
  subst hv
  refine VFun.enter (env_none (by decide)) Tryd.func26 rfl (by kernel_rfl) (by simp [Tryd.ntmps26]) ?_
  repeat' (first
   |apply VWp.assoc
   |apply VWp.rseq
   |apply VWp.retSeq
   |apply VOps.nil
   |apply VOps.one
   |(apply VVal.fn;rfl;rfl;exact hk;intro _;rfl)
   |(apply VVal.assign;rfl)
   |(apply VVal.move;rfl)
   |(apply VVal.int;rfl;rfl;rfl)
   |(apply VVal.load;rfl;rfl)
   |(apply VVal.fieldB;rfl;rfl;rfl)
   |(apply VVal.box;rfl;trivial)
   |(apply VWp.condSeq_dec;rfl)
   |(intro _;try (exfalso;omega)))
  all_goals first|(exfalso;omega)|contradiction|(refine Done.ret rfl (.refl _) (by first|exact trivial|exact ⟨trivial,trivial,trivial⟩|exact ⟨trivial,trivial,trivial,trivial⟩) HCov.nil (Nat.zero_le _) (Nat.le_refl _) ⟨?_,rfl,rfl⟩;try rfl)
 rw [if_neg hr] at hv
 have hr:rsg c.sets p.sets.length 0=0:=by omega
 rw [hr] at hk
 have hs:=rsg_in hr
 have hcv:=covered_spec 3 p c.sets (by omega) hl h hs
 have p1:2 ^ n≤2 ^ 7:=Nat.pow_le_pow_right (by omega) hn
 have hw:=(covK_spec h hs _ (Nat.le_refl _)).1
 have hcb:=costK_bd (fun i hi=>⟨(h i hi).2.2.1,(h i hi).2.2.2⟩) hs _ (Nat.le_refl _)
 generalize 2 ^ n-1=A at *
 by_cases c1:covK p.sets c.sets c.sets.length≠A
 ·rw [if_pos c1] at hv
  subst hv
  refine VFun.enter (env_none (by decide)) Tryd.func26 rfl (by kernel_rfl) (by simp [Tryd.ntmps26]) ?_
  repeat' (first
   |apply VWp.assoc
   |apply VWp.rseq
   |apply VWp.skipSeq
   |apply VWp.blockSeq
   |apply QSeq.ret
   |apply QBlk.ret
   |apply VWp.ret
   |apply VOps.nil
   |apply VOps.one
   |(apply VVal.fn;rfl;rfl;exact hk;intro _;rfl)
   |(apply VVal.fn;rfl;rfl;exact hcv;intro _;rfl)
   |(apply VVal.fn;rfl;rfl;exact ha;intro _;rfl)
   |(apply VVal.assign;rfl)
   |(apply VVal.move;rfl)
   |(apply VVal.int;rfl;rfl;rfl)
   |(apply VVal.load;rfl;rfl)
   |(apply VVal.fieldB;rfl;rfl;rfl)
   |(apply VVal.box;rfl;trivial)
   |(apply VVal.extract;rfl;rfl)
   |(apply VWp.condSeq_false;rfl)
   |(apply VWp.cond_dec;rfl)
   |(intro _;try (exfalso;omega)))
  all_goals first|(exfalso;omega)|contradiction|(refine Done.ret rfl (.refl _) (by first|exact trivial|exact ⟨trivial,trivial,trivial⟩|exact ⟨trivial,trivial,trivial,trivial⟩) HCov.nil (Nat.zero_le _) (Nat.le_refl _) ⟨?_,rfl,rfl⟩;try rfl)
 rw [if_neg c1] at hv
 by_cases c2:costK p.sets c.sets c.sets.length≠c.cost
 ·rw [if_pos c2] at hv
  subst hv
  refine VFun.enter (env_none (by decide)) Tryd.func26 rfl (by kernel_rfl) (by simp [Tryd.ntmps26]) ?_
  repeat' (first
   |apply VWp.assoc
   |apply VWp.rseq
   |apply VWp.skipSeq
   |apply VWp.blockSeq
   |apply QSeq.ret
   |apply QBlk.ret
   |apply VWp.ret
   |apply VOps.nil
   |apply VOps.one
   |(apply VVal.fn;rfl;rfl;exact hk;intro _;rfl)
   |(apply VVal.fn;rfl;rfl;exact hcv;intro _;rfl)
   |(apply VVal.fn;rfl;rfl;exact ha;intro _;rfl)
   |(apply VVal.assign;rfl)
   |(apply VVal.move;rfl)
   |(apply VVal.int;rfl;rfl;rfl)
   |(apply VVal.load;rfl;rfl)
   |(apply VVal.fieldB;rfl;rfl;rfl)
   |(apply VVal.box;rfl;trivial)
   |(apply VVal.extract;rfl;rfl)
   |(apply VWp.condSeq_false;rfl)
   |(apply VWp.cond_dec;rfl)
   |(intro _;try (exfalso;omega)))
  all_goals first|(exfalso;omega)|contradiction|(refine Done.ret rfl (.refl _) (by first|exact trivial|exact ⟨trivial,trivial,trivial⟩|exact ⟨trivial,trivial,trivial,trivial⟩) HCov.nil (Nat.zero_le _) (Nat.le_refl _) ⟨?_,rfl,rfl⟩;try rfl)
 rw [if_neg c2] at hv
 by_cases c3:provP p.sets n c.cost c.proof
 ·rw [if_pos c3] at hv
  subst hv
  rw [decide_eq_true c3] at hpr
  refine VFun.enter (env_none (by decide)) Tryd.func26 rfl (by kernel_rfl) (by simp [Tryd.ntmps26]) ?_
  repeat' (first
   |apply VWp.assoc
   |apply VWp.rseq
   |apply VWp.skipSeq
   |apply VWp.blockSeq
   |apply QSeq.normal
   |apply QBlk.normal
   |apply VWp.ret
   |apply VWp.skip
   |apply VOps.nil
   |apply VOps.one
   |(apply VVal.fn;rfl;rfl;exact hk;intro _;rfl)
   |(apply VVal.fn;rfl;rfl;exact hcv;intro _;rfl)
   |(apply VVal.fn;rfl;rfl;exact ha;intro _;rfl)
   |(apply VVal.fn;rfl;rfl;exact hpr;intro _;rfl)
   |(apply VVal.assign;rfl)
   |(apply VVal.move;rfl)
   |(apply VVal.int;rfl;rfl;rfl)
   |(apply VVal.load;rfl;rfl)
   |(apply VVal.lenF;rfl;rfl)
   |(apply VVal.fieldB;rfl;rfl;rfl)
   |(apply VVal.box;rfl;trivial)
   |(apply VVal.not;rfl)
   |(apply VVal.extract;rfl;rfl)
   |(apply VWp.condSeq_false;rfl)
   |(apply VWp.cond_false;rfl)
   |(apply VWp.cond_dec;rfl)
   |(intro _;try (exfalso;omega)))
  all_goals first|(exfalso;omega)|contradiction|(refine Done.ret rfl (.refl _) (by first|exact trivial|exact ⟨trivial,trivial,trivial⟩|exact ⟨trivial,trivial,trivial,trivial⟩) HCov.nil (Nat.zero_le _) (Nat.le_refl _) ⟨?_,rfl,rfl⟩;try rfl)
 ·rw [if_neg c3] at hv
  subst hv
  rw [decide_eq_false c3] at hpr
  refine VFun.enter (env_none (by decide)) Tryd.func26 rfl (by kernel_rfl) (by simp [Tryd.ntmps26]) ?_
  repeat' (first
   |apply VWp.assoc
   |apply VWp.rseq
   |apply VWp.skipSeq
   |apply VWp.blockSeq
   |apply QSeq.ret
   |apply QBlk.ret
   |apply VWp.ret
   |apply VOps.nil
   |apply VOps.one
   |(apply VVal.fn;rfl;rfl;exact hk;intro _;rfl)
   |(apply VVal.fn;rfl;rfl;exact hcv;intro _;rfl)
   |(apply VVal.fn;rfl;rfl;exact ha;intro _;rfl)
   |(apply VVal.fn;rfl;rfl;exact hpr;intro _;rfl)
   |(apply VVal.assign;rfl)
   |(apply VVal.move;rfl)
   |(apply VVal.int;rfl;rfl;rfl)
   |(apply VVal.load;rfl;rfl)
   |(apply VVal.lenF;rfl;rfl)
   |(apply VVal.fieldB;rfl;rfl;rfl)
   |(apply VVal.box;rfl;trivial)
   |(apply VVal.not;rfl)
   |(apply VVal.extract;rfl;rfl)
   |(apply VWp.condSeq_false;rfl)
   |(apply VWp.cond_true;rfl)
   |(apply VWp.cond_dec;rfl)
   |(intro _;try (exfalso;omega)))
  all_goals first|(exfalso;omega)|contradiction|(refine Done.ret rfl (.refl _) (by first|exact trivial|exact ⟨trivial,trivial,trivial⟩|exact ⟨trivial,trivial,trivial,trivial⟩) HCov.nil (Nat.zero_le _) (Nat.le_refl _) ⟨?_,rfl,rfl⟩;try rfl)
end Go.Proofs.YtmfnchgkffhpfaaDoor
set_option linter.unusedSimpArgs false
set_option linter.unusedVariables false
namespace Go.Proofs.YtmfnchgkffhpfaaDoor
open Go Go.Am Go.Vm
attribute [local irreducible] VVal VOps VOpsD VWp VCalls VFun VFunV QSeq QBlk QLoop Vm.Done DoneV DoneI VRead VReadV
theorem makeM_sorted (x:CPlan):ElsS (makeM x).sets:=fun i hi=>by
 obtain ⟨b,hb⟩:=setsM_gi x hi
 show (gi (setsM x 7) i).els.Pairwise _
 rw [hb]
 exact chosenK_sorted _ _
theorem all_cvr {L:List CSet} {n:Nat} {B:List Int} (hr:Ris L.length B) (h:missK L B n=[]):missK L (allL L.length) n=[] :=
 List.eq_nil_iff_forall_not_mem.2 fun x hx=>by
  obtain ⟨h1,h2,h3⟩:=missK_mem.1 hx
  have:x∈missK L B n:=missK_mem.2 ⟨h1,h2,fun ⟨y,y1,y2⟩=>h3 ⟨y,allL_mem.2 (hr.2 y y1),y2⟩⟩
  rw [h] at this
  simp at this
theorem all_none {L:List CSet} {n:Nat} (hL:L.length≤7) (hm:missK L (allL L.length) n≠[]):(allK n L (2 ^ L.length)).1=[] :=
 List.eq_nil_iff_forall_not_mem.2 fun B hB=>by
  have:=((all_min hL).1 B).1 hB
  exact hm (all_cvr this.1.1 this.1.2)
theorem all_some {L:List CSet} {n:Nat} (hL:L.length≤7) (hm:missK L (allL L.length) n=[]):(allK n L (2 ^ L.length)).1≠[]:=fun h0=>by
 have hr:Ris L.length (allL L.length):=⟨allL_sorted _,fun x hx=>allL_mem.1 hx⟩
 obtain ⟨w1,w2⟩:=ris_word hL hr
 exact (allK_all n L (2 ^ L.length) (Nat.le_refl _)).2.2.2 h0 _ w1 (by rw [w2];exact hm)
theorem least_all {L:List CSet} {n:Nat} (hL:L.length≤7) (hc:∀ i,i<L.length→1≤(gi L i).cost) (hm:missK L (allL L.length) n=[]) {W:List (List Int)} (hW:(allK n L (2 ^ L.length)).1=W) :
 ∃ least:Int,(dfsA L n L.length 0 []).foldl (updC L) (0,[])=(least,W)∧W=gi W 0::W.tail∧0<W.length∧W.length≤128∧(∀ i,i<W.length→Ris L.length (gi W i)∧missK L (gi W i) n=[]∧cst L (gi W i)=least)∧∀ B,Cvr L n B→least≤cst L B:=by
 obtain ⟨s1,s2⟩:=search_all (n:=n) hL hc 0
 have hne:=all_some hL hm
 have hmi:=(all_min (n:=n) hL).1
 have hle:=allK_len n L (2 ^ L.length)
 have h7:2 ^ L.length≤2 ^ 7:=Nat.pow_le_pow_right (by omega) hL
 rw [hW] at s1 s2 hne hmi hle
 have h0:0<W.length:=List.length_pos_iff.2 hne
 refine ⟨_,Prod.ext rfl s1,?_,h0,by omega,fun i hi=>?_,fun B hB=>?_⟩
 ·cases W with
  |nil=>exact absurd rfl hne
  |cons a l=>rfl
 ·have hg:=gi_mem hi
  have:=(hmi _).1 hg
  exact ⟨this.1.1,this.1.2,s2 _ hg⟩
 ·have hg:=gi_mem h0
  exact Int.le_trans (Int.le_of_eq (s2 _ hg).symm) (((hmi _).1 hg).2 B hB)
theorem ver_ok {p:CProb} {n:Nat} (hn:n≤7) (h:ElsOk p.sets) (hE:Elsn p.sets n) {c:CCover} (hr:Ris p.sets.length c.sets) (hm:missK p.sets c.sets n=[]) (hc:cst p.sets c.sets=c.cost) (hp:lawP p.sets n c.cost c.proof):verK p n c=0:=by
 have hin:=ris_gi hr
 unfold verK
 rw [if_neg (by rw [rsg_ok hin hr.1 _ 0 rfl];simp),if_neg,if_neg (by simpa using hc),if_pos]
 ·exact ⟨hp.1,(law_run hp.1).1 hp⟩
 ·have:=(full_iff hn (covK_spec h hin _ (Nat.le_refl _)).2 fun y hy=>hasK_lt hE hin y _ (Nat.le_refl _) (by rw [← (covK_spec h hin _ (Nat.le_refl _)).2];exact hy)).2 hm
  simpa using this
open Classical in
theorem lproves_ok {p:CProb} {n:Nat} (hp:p.n=n) (hn:n≤7) (hL:p.sets.length≤7) (h:ElsOk p.sets) (hE:Elsn p.sets n) {c:CCover} (hN:c.proof.length<1000) (hws:∀ i,i<c.proof.length→(gi c.proof i).ws.length<1000) (hl:lawP p.sets n c.cost c.proof) :
 VFun env 25 [.agg (Enc.enc p),.agg (Enc.enc c)] (.p (.bool true)):=by
 have:=lproves_spec p n hp hn hL h hE c hN hws
 rwa [decide_eq_true hl] at this
end Go.Proofs.YtmfnchgkffhpfaaDoor
