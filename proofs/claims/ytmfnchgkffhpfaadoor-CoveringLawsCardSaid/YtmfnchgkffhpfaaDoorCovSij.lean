/-
  Verify. Conditions: in each statement.
-/
import Derived.Test.YtmfnchgkffhpfaaDoorCovSf
import Derived.Test.YtmfnchgkffhpfaaDoorCovSd
import Derived.Test.YtmfnchgkffhpfaaDoorCovL
import Derived.Test.YtmfnchgkffhpfaaDoorCovSh
import Derived.Test.YtmfnchgkffhpfaaDoorCovQ
set_option linter.unusedSimpArgs false
set_option linter.unusedVariables false
set_option linter.unusedSectionVars false
namespace Go.Proofs.YtmfnchgkffhpfaaDoor
open Go Go.Am Go.Vm
attribute [local irreducible] VVal VOps VOpsD VWp VCalls VFun VFunV QSeq QBlk QLoop Vm.Done DoneV DoneI VRead VReadV
open Classical in
noncomputable def verK (p:CProb) (n:Nat) (c:CCover):Int :=
 if rsg c.sets p.sets.length 0≠0 then rsg c.sets p.sets.length 0 else if covK p.sets c.sets c.sets.length≠2 ^ n-1 then 7 else if costK p.sets c.sets c.sets.length≠c.cost then 20 else if provP p.sets n c.cost c.proof then 0 else 20
open Classical in
set_option maxRecDepth 100000 in
set_option maxHeartbeats 4000000 in
theorem verify_spec (p:CProb) (n:Nat) (hc:VFun env 34 [.agg (Enc.enc p)] (.p (.int .i64 0))) (hp:p.n=n) (hn:n≤7) (hL:p.sets.length≤7) (h:ElsOk p.sets) (hE:Elsn p.sets n) (c:CCover) (hl:c.sets.length<1000) (hN:c.proof.length<1000) (hws:∀ i,i<c.proof.length→(gi c.proof i).ws.length<1000) :
 VFun env 26 [.agg (Enc.enc p),.agg (Enc.enc c)] (.p (.int .i64 (verK p n c))):=by
 have hk:=pcheck_spec 3 p c.sets hc (by omega)
 have ha:=all_spec p n hp hn
 have hpr:=proves_spec p n hp hn hL h hE c.cost c.proof hN hws
 obtain ⟨v,hv⟩:∃ v,v=verK p n c:=⟨_,rfl⟩
 rw [← hv]
 unfold verK at hv
 by_cases hr:rsg c.sets p.sets.length 0≠0
 ·rw [if_pos hr] at hv
  subst hv
  refine VFun.enter (env_none (by decide)) Tryd.func26 rfl (by kernel_rfl) (by simp [Tryd.ntmps26]) ?_
  repeat' (first
   |apply VWp.assoc
   |apply VWp.rseq
   |apply VWp.retSeq
   |apply VOps.nil
   |apply VOps.one
   |(apply VVal.fn;rfl;rfl;exact hk;intro _;rfl)
   |(apply VVal.assign;rfl)
   |(apply VVal.move;rfl)
   |(apply VVal.int;rfl;rfl;rfl)
   |(apply VVal.load;rfl;rfl)
   |(apply VVal.fieldB;rfl;rfl;rfl)
   |(apply VVal.box;rfl;trivial)
   |(apply VWp.condSeq_dec;rfl)
   |(intro _;try (exfalso;omega)))
  all_goals first|(exfalso;omega)|contradiction|(refine Done.ret rfl (.refl _) (by first|exact trivial|exact ⟨trivial,trivial,trivial⟩|exact ⟨trivial,trivial,trivial,trivial⟩) HCov.nil (Nat.zero_le _) (Nat.le_refl _) ⟨?_,rfl,rfl⟩;try rfl)
 rw [if_neg hr] at hv
 have hr:rsg c.sets p.sets.length 0=0:=by omega
 rw [hr] at hk
 have hs:=rsg_in hr
 have hcv:=covered_spec 3 p c.sets (by omega) hl h hs
 have p1:2 ^ n≤2 ^ 7:=Nat.pow_le_pow_right (by omega) hn
 have hw:=(covK_spec h hs _ (Nat.le_refl _)).1
 have hcb:=costK_bd (fun i hi=>⟨(h i hi).2.2.1,(h i hi).2.2.2⟩) hs _ (Nat.le_refl _)
 generalize 2 ^ n-1=A at *
 by_cases c1:covK p.sets c.sets c.sets.length≠A
 ·rw [if_pos c1] at hv
  subst hv
  refine VFun.enter (env_none (by decide)) Tryd.func26 rfl (by kernel_rfl) (by simp [Tryd.ntmps26]) ?_
  repeat' (first
   |apply VWp.assoc
   |apply VWp.rseq
   |apply VWp.skipSeq
   |apply VWp.blockSeq
   |apply QSeq.ret
   |apply QBlk.ret
   |apply VWp.ret
   |apply VOps.nil
   |apply VOps.one
   |(apply VVal.fn;rfl;rfl;exact hk;intro _;rfl)
   |(apply VVal.fn;rfl;rfl;exact hcv;intro _;rfl)
   |(apply VVal.fn;rfl;rfl;exact ha;intro _;rfl)
   |(apply VVal.assign;rfl)
   |(apply VVal.move;rfl)
   |(apply VVal.int;rfl;rfl;rfl)
   |(apply VVal.load;rfl;rfl)
   |(apply VVal.fieldB;rfl;rfl;rfl)
   |(apply VVal.box;rfl;trivial)
   |(apply VVal.extract;rfl;rfl)
   |(apply VWp.condSeq_false;rfl)
   |(apply VWp.cond_dec;rfl)
   |(intro _;try (exfalso;omega)))
  all_goals first|(exfalso;omega)|contradiction|(refine Done.ret rfl (.refl _) (by first|exact trivial|exact ⟨trivial,trivial,trivial⟩|exact ⟨trivial,trivial,trivial,trivial⟩) HCov.nil (Nat.zero_le _) (Nat.le_refl _) ⟨?_,rfl,rfl⟩;try rfl)
 rw [if_neg c1] at hv
 by_cases c2:costK p.sets c.sets c.sets.length≠c.cost
 ·rw [if_pos c2] at hv
  subst hv
  refine VFun.enter (env_none (by decide)) Tryd.func26 rfl (by kernel_rfl) (by simp [Tryd.ntmps26]) ?_
  repeat' (first
   |apply VWp.assoc
   |apply VWp.rseq
   |apply VWp.skipSeq
   |apply VWp.blockSeq
   |apply QSeq.ret
   |apply QBlk.ret
   |apply VWp.ret
   |apply VOps.nil
   |apply VOps.one
   |(apply VVal.fn;rfl;rfl;exact hk;intro _;rfl)
   |(apply VVal.fn;rfl;rfl;exact hcv;intro _;rfl)
   |(apply VVal.fn;rfl;rfl;exact ha;intro _;rfl)
   |(apply VVal.assign;rfl)
   |(apply VVal.move;rfl)
   |(apply VVal.int;rfl;rfl;rfl)
   |(apply VVal.load;rfl;rfl)
   |(apply VVal.fieldB;rfl;rfl;rfl)
   |(apply VVal.box;rfl;trivial)
   |(apply VVal.extract;rfl;rfl)
   |(apply VWp.condSeq_false;rfl)
   |(apply VWp.cond_dec;rfl)
   |(intro _;try (exfalso;omega)))
  all_goals first|(exfalso;omega)|contradiction|(refine Done.ret rfl (.refl _) (by first|exact trivial|exact ⟨trivial,trivial,trivial⟩|exact ⟨trivial,trivial,trivial,trivial⟩) HCov.nil (Nat.zero_le _) (Nat.le_refl _) ⟨?_,rfl,rfl⟩;try rfl)
 rw [if_neg c2] at hv
 by_cases c3:provP p.sets n c.cost c.proof
 ·rw [if_pos c3] at hv
  subst hv
  rw [decide_eq_true c3] at hpr
  refine VFun.enter (env_none (by decide)) Tryd.func26 rfl (by kernel_rfl) (by simp [Tryd.ntmps26]) ?_
  repeat' (first
   |apply VWp.assoc
   |apply VWp.rseq
   |apply VWp.skipSeq
   |apply VWp.blockSeq
   |apply QSeq.normal
   |apply QBlk.normal
   |apply VWp.ret
   |apply VWp.skip
   |apply VOps.nil
   |apply VOps.one
   |(apply VVal.fn;rfl;rfl;exact hk;intro _;rfl)
   |(apply VVal.fn;rfl;rfl;exact hcv;intro _;rfl)
   |(apply VVal.fn;rfl;rfl;exact ha;intro _;rfl)
   |(apply VVal.fn;rfl;rfl;exact hpr;intro _;rfl)
   |(apply VVal.assign;rfl)
   |(apply VVal.move;rfl)
   |(apply VVal.int;rfl;rfl;rfl)
   |(apply VVal.load;rfl;rfl)
   |(apply VVal.lenF;rfl;rfl)
   |(apply VVal.fieldB;rfl;rfl;rfl)
   |(apply VVal.box;rfl;trivial)
   |(apply VVal.not;rfl)
   |(apply VVal.extract;rfl;rfl)
   |(apply VWp.condSeq_false;rfl)
   |(apply VWp.cond_false;rfl)
   |(apply VWp.cond_dec;rfl)
   |(intro _;try (exfalso;omega)))
  all_goals first|(exfalso;omega)|contradiction|(refine Done.ret rfl (.refl _) (by first|exact trivial|exact ⟨trivial,trivial,trivial⟩|exact ⟨trivial,trivial,trivial,trivial⟩) HCov.nil (Nat.zero_le _) (Nat.le_refl _) ⟨?_,rfl,rfl⟩;try rfl)
 ·rw [if_neg c3] at hv
  subst hv
  rw [decide_eq_false c3] at hpr
  refine VFun.enter (env_none (by decide)) Tryd.func26 rfl (by kernel_rfl) (by simp [Tryd.ntmps26]) ?_
  repeat' (first
   |apply VWp.assoc
   |apply VWp.rseq
   |apply VWp.skipSeq
   |apply VWp.blockSeq
   |apply QSeq.ret
   |apply QBlk.ret
   |apply VWp.ret
   |apply VOps.nil
   |apply VOps.one
   |(apply VVal.fn;rfl;rfl;exact hk;intro _;rfl)
   |(apply VVal.fn;rfl;rfl;exact hcv;intro _;rfl)
   |(apply VVal.fn;rfl;rfl;exact ha;intro _;rfl)
   |(apply VVal.fn;rfl;rfl;exact hpr;intro _;rfl)
   |(apply VVal.assign;rfl)
   |(apply VVal.move;rfl)
   |(apply VVal.int;rfl;rfl;rfl)
   |(apply VVal.load;rfl;rfl)
   |(apply VVal.lenF;rfl;rfl)
   |(apply VVal.fieldB;rfl;rfl;rfl)
   |(apply VVal.box;rfl;trivial)
   |(apply VVal.not;rfl)
   |(apply VVal.extract;rfl;rfl)
   |(apply VWp.condSeq_false;rfl)
   |(apply VWp.cond_true;rfl)
   |(apply VWp.cond_dec;rfl)
   |(intro _;try (exfalso;omega)))
  all_goals first|(exfalso;omega)|contradiction|(refine Done.ret rfl (.refl _) (by first|exact trivial|exact ⟨trivial,trivial,trivial⟩|exact ⟨trivial,trivial,trivial,trivial⟩) HCov.nil (Nat.zero_le _) (Nat.le_refl _) ⟨?_,rfl,rfl⟩;try rfl)
end Go.Proofs.YtmfnchgkffhpfaaDoor
set_option linter.unusedSimpArgs false
set_option linter.unusedVariables false
namespace Go.Proofs.YtmfnchgkffhpfaaDoor
open Go Go.Am Go.Vm
attribute [local irreducible] VVal VOps VOpsD VWp VCalls VFun VFunV QSeq QBlk QLoop Vm.Done DoneV DoneI VRead VReadV
theorem makeM_sorted (x:CPlan):ElsS (makeM x).sets:=fun i hi=>by
 obtain ⟨b,hb⟩:=setsM_gi x hi
 show (gi (setsM x 7) i).els.Pairwise _
 rw [hb]
 exact chosenK_sorted _ _
theorem all_cvr {L:List CSet} {n:Nat} {B:List Int} (hr:Ris L.length B) (h:missK L B n=[]):missK L (allL L.length) n=[] :=
 List.eq_nil_iff_forall_not_mem.2 fun x hx=>by
  obtain ⟨h1,h2,h3⟩:=missK_mem.1 hx
  have:x∈missK L B n:=missK_mem.2 ⟨h1,h2,fun ⟨y,y1,y2⟩=>h3 ⟨y,allL_mem.2 (hr.2 y y1),y2⟩⟩
  rw [h] at this
  simp at this
theorem all_none {L:List CSet} {n:Nat} (hL:L.length≤7) (hm:missK L (allL L.length) n≠[]):(allK n L (2 ^ L.length)).1=[] :=
 List.eq_nil_iff_forall_not_mem.2 fun B hB=>by
  have:=((all_min hL).1 B).1 hB
  exact hm (all_cvr this.1.1 this.1.2)
theorem all_some {L:List CSet} {n:Nat} (hL:L.length≤7) (hm:missK L (allL L.length) n=[]):(allK n L (2 ^ L.length)).1≠[]:=fun h0=>by
 have hr:Ris L.length (allL L.length):=⟨allL_sorted _,fun x hx=>allL_mem.1 hx⟩
 obtain ⟨w1,w2⟩:=ris_word hL hr
 exact (allK_all n L (2 ^ L.length) (Nat.le_refl _)).2.2.2 h0 _ w1 (by rw [w2];exact hm)
theorem least_all {L:List CSet} {n:Nat} (hL:L.length≤7) (hc:∀ i,i<L.length→1≤(gi L i).cost) (hm:missK L (allL L.length) n=[]) {W:List (List Int)} (hW:(allK n L (2 ^ L.length)).1=W) :
 ∃ least:Int,(dfsA L n L.length 0 []).foldl (updC L) (0,[])=(least,W)∧W=gi W 0::W.tail∧0<W.length∧W.length≤128∧(∀ i,i<W.length→Ris L.length (gi W i)∧missK L (gi W i) n=[]∧cst L (gi W i)=least)∧∀ B,Cvr L n B→least≤cst L B:=by
 obtain ⟨s1,s2⟩:=search_all (n:=n) hL hc 0
 have hne:=all_some hL hm
 have hmi:=(all_min (n:=n) hL).1
 have hle:=allK_len n L (2 ^ L.length)
 have h7:2 ^ L.length≤2 ^ 7:=Nat.pow_le_pow_right (by omega) hL
 rw [hW] at s1 s2 hne hmi hle
 have h0:0<W.length:=List.length_pos_iff.2 hne
 refine ⟨_,Prod.ext rfl s1,?_,h0,by omega,fun i hi=>?_,fun B hB=>?_⟩
 ·cases W with
  |nil=>exact absurd rfl hne
  |cons a l=>rfl
 ·have hg:=gi_mem hi
  have:=(hmi _).1 hg
  exact ⟨this.1.1,this.1.2,s2 _ hg⟩
 ·have hg:=gi_mem h0
  exact Int.le_trans (Int.le_of_eq (s2 _ hg).symm) (((hmi _).1 hg).2 B hB)
theorem ver_ok {p:CProb} {n:Nat} (hn:n≤7) (h:ElsOk p.sets) (hE:Elsn p.sets n) {c:CCover} (hr:Ris p.sets.length c.sets) (hm:missK p.sets c.sets n=[]) (hc:cst p.sets c.sets=c.cost) (hp:lawP p.sets n c.cost c.proof):verK p n c=0:=by
 have hin:=ris_gi hr
 unfold verK
 rw [if_neg (by rw [rsg_ok hin hr.1 _ 0 rfl];simp),if_neg,if_neg (by simpa using hc),if_pos]
 ·exact ⟨hp.1,(law_run hp.1).1 hp⟩
 ·have:=(full_iff hn (covK_spec h hin _ (Nat.le_refl _)).2 fun y hy=>hasK_lt hE hin y _ (Nat.le_refl _) (by rw [← (covK_spec h hin _ (Nat.le_refl _)).2];exact hy)).2 hm
  simpa using this
open Classical in
theorem lproves_ok {p:CProb} {n:Nat} (hp:p.n=n) (hn:n≤7) (hL:p.sets.length≤7) (h:ElsOk p.sets) (hE:Elsn p.sets n) {c:CCover} (hN:c.proof.length<1000) (hws:∀ i,i<c.proof.length→(gi c.proof i).ws.length<1000) (hl:lawP p.sets n c.cost c.proof) :
 VFun env 25 [.agg (Enc.enc p),.agg (Enc.enc c)] (.p (.bool true)):=by
 have:=lproves_spec p n hp hn hL h hE c hN hws
 rwa [decide_eq_true hl] at this
set_option maxRecDepth 100000 in
set_option maxHeartbeats 8000000 in
theorem covSolves_spec (x:CPlan) (hn:x.n<256) (h:∀ i,i<x.sets.length→(gi x.sets i).els<256∧(gi x.sets i).cost<256) :
 VFun env 6 [.agg (Enc.enc x)] (.p (.bool true)):=by
 refine VFun.enter (env_none (by decide)) Tryd.func6 rfl (by kernel_rfl) (by simp [Tryd.ntmps6]) ?_
 by_cases hbig:x.sets.length>7
 ·repeat' (first
   |apply VWp.assoc
   |apply VWp.rseq
   |apply VWp.retSeq
   |apply VOps.nil
   |apply VOps.one
   |(apply VOps.take;rfl;rfl)
   |(apply VVal.fn;rfl;rfl;exact known_spec;intro _;rfl)
   |(apply VVal.assign;rfl)
   |(apply VVal.move;rfl)
   |(apply VVal.int;rfl;rfl;rfl)
   |(apply VVal.load;rfl;rfl)
   |(apply VVal.pick_false;rfl;rfl)
   |(apply VVal.lenF;rfl;rfl)
   |(apply VVal.fieldB;rfl;rfl;rfl)
   |(apply VVal.box;rfl;trivial)
   |(apply VVal.not;rfl)
   |(apply VWp.condSeq_dec;rfl)
   |(intro _;try (exfalso;omega)))
  all_goals first|(exfalso;omega)|contradiction|((refine Done.ret rfl (.refl _) (by first|exact trivial|exact ⟨trivial,trivial,trivial⟩|exact ⟨trivial,trivial,trivial,trivial⟩) HCov.nil (Nat.zero_le _) (Nat.le_refl _) ⟨?_,rfl,rfl⟩;try rfl);try simp)
 obtain ⟨n,hn8,hnn⟩:∃ n:Nat,n≤7∧(makeM x).n=n:=⟨x.n % 8,by omega,by show (x.n:Int) % 8=_;omega⟩
 have hx:=els_lt hnn
 have hset:=@makeM_set x
 have hsl:=setsM_le x
 have hps:(makeM x).sets=setsM x 7:=rfl
 have hok:=makeM_ok x
 have hmk:=make_spec x (by omega) hn h
 have hels:=makeM_els x
 have hS:=makeM_sorted x
 generalize hp:makeM x=p at *
 have hL:p.sets.length≤7:=by rw [hps];exact hsl
 have hck:=check_spec p (by omega) (fun i hi=>by have:=(hset hi).1;omega)
 rw [hok] at hck
 have hpos:=possible_spec p n hnn hn8 (by omega) hels
 have hst:=sets_spec p (by omega)
 have hfull:=or_full hels hx hn8 p.sets.length
 rw [restL_none (Nat.le_refl _)] at hfull
 have hra:=rall_spec 72 n p.sets (by omega) (by omega) (fun i hi=>by have:=(hset hi).2.2;omega) (fun i hi=>by have:=(hset hi).1;omega)
 rw [← hnn] at hra
 by_cases hm:missK p.sets (allL p.sets.length) n=[]
 case neg =>
  rw [decide_eq_false (fun e=>hm (hfull.1 e))] at hpos
  have h1:=solvNone_spec (solveNone_spec hck hpos)
  have h2:=allNone_spec (solveNone_spec hck hpos)
  rw [all_none hL hm] at hra
  have h0:([]:List (List Int)).length=0:=rfl
  repeat' (first
   |(refine VOpsD.atOp 35 ?_;refine VOpsD.ghost (Ghost.freeze 34 rfl rfl) ?_)
   |apply VWp.assoc
   |apply VWp.rseq
   |apply VWp.rseqD
   |apply VWp.skipSeq
   |apply VWp.retSeq
   |apply VOps.nil
   |apply VOpsD.nil
   |apply VOps.one
   |(apply VOpsD.bar;decide +kernel)
   |apply VOpsD.quiet
   |(apply VOps.take;rfl;rfl)
   |(apply VVal.fn;rfl;rfl;exact known_spec;intro _;rfl)
   |(apply VVal.fn;rfl;rfl;exact hmk;intro _;rfl)
   |(apply VVal.fn;rfl;rfl;exact h1;intro _;rfl)
   |(apply VVal.fn;rfl;rfl;exact h2;intro _;rfl)
   |(apply VVal.fv;rfl;rfl;exact hst)
   |(apply VVal.fn;rfl;rfl;exact hra;intro _;rfl)
   |(apply VVal.assign;rfl)
   |(apply VVal.move;rfl)
   |(apply VVal.add64;rfl;rfl;omega)
   |(apply VVal.int;rfl;rfl;rfl)
   |(apply VVal.load;rfl;rfl)
   |(apply VVal.pick_true;rfl;rfl)
   |(apply VVal.pick_false;rfl;rfl)
   |(apply VVal.lenF;rfl;rfl)
   |(apply VVal.lenNil;rfl;rfl)
   |(apply VVal.fieldB;rfl;rfl;rfl)
   |(apply VVal.box;rfl;trivial)
   |(apply VVal.alloc;rfl)
   |(apply VVal.storeB;rfl;rfl;rfl;trivial;rfl;rfl;exact lt_dec rfl;exact le_dec rfl)
   |(apply VVal.not;rfl)
   |(apply VVal.extract;rfl;rfl)
   |(apply VWp.condSeq_true;rfl)
   |(apply VWp.condSeq_dec;rfl)
   |(intro _;try (exfalso;omega)))
  all_goals first|(exfalso;omega)|contradiction|((refine Done.ret rfl (.refl _) (by first|exact trivial|exact ⟨trivial,trivial,trivial⟩|exact ⟨trivial,trivial,trivial,trivial⟩) HCov.nil (Nat.zero_le _) (Nat.le_refl _) ⟨?_,rfl,rfl⟩;try rfl);try simp)
 rw [decide_eq_true (hfull.2 hm)] at hpos
 obtain ⟨W,hW⟩:∃ W,(allK n p.sets (2 ^ p.sets.length)).1=W:=⟨_,rfl⟩
 rw [hW] at hra
 obtain ⟨least,l1,l2,l3,l4,l5,l6⟩:=least_all hL (fun i hi=>(hset hi).2.2.1) hm hW
 clear hW
 obtain ⟨m1,m2,m3⟩:=l5 0 l3
 have hsv:=solve_spec p n hnn hn8 hL hels hS hx hck hpos
 rw [l1] at hsv
 have h2:=allc_spec p n hnn hn8 hL hels hS hx least W hsv (fun i hi=>(l5 i hi).1) (by omega)
 rw [l2] at hsv
 have h1:=solv_spec p n hnn hn8 hL hels hS hx least (gi W 0) W.tail hsv l6 m1
 have hAl:=ris_len m1
 clear l2 hsv
 repeat' (first
  |apply VWp.assoc
  |apply VWp.rseq
  |apply VWp.skipSeq
  |apply VOps.nil
  |apply VOps.one
  |(apply VOps.take;rfl;rfl)
  |(apply VVal.fn;rfl;rfl;exact known_spec;intro _;rfl)
  |(apply VVal.fn;rfl;rfl;exact hmk;intro _;rfl)
  |(apply VVal.assign;rfl)
  |(apply VVal.move;rfl)
  |(apply VVal.int;rfl;rfl;rfl)
  |(apply VVal.load;rfl;rfl)
  |(apply VVal.pick_false;rfl;rfl)
  |(apply VVal.lenF;rfl;rfl)
  |(apply VVal.fieldB;rfl;rfl;rfl)
  |(apply VVal.box;rfl;trivial)
  |(apply VVal.alloc;rfl)
  |(apply VVal.storeB;rfl;rfl;rfl;trivial;rfl;rfl;exact lt_dec rfl;exact le_dec rfl)
  |(apply VVal.not;rfl)
  |(apply VWp.condSeq_dec;rfl)
  |(intro _;try (exfalso;omega)))
 (apply VVal.call0 (hc:=h1);rfl;rfl;exact .of_eq rfl)
 rintro r H' nx' ⟨⟨T,t1,t2,rfl⟩,rfl,rfl⟩
 have hlaw:=tree_law T t1
 have hTl:=T.flat_len 0
 have hTw:∀ i,i<(T.flat 0).length→(gi (T.flat 0) i).ws.length≤n:=fun i hi=>tree_ws T 0 _ t1 _ (gi_mem hi)
 generalize T.flat 0=N at *
 generalize hcc:(⟨gi W 0,least,N⟩:CCover)=c at *
 have c1:c.sets=gi W 0:=by rw [← hcc]
 have c2:c.cost=least:=by rw [← hcc]
 have c3:c.proof=N:=by rw [← hcc]
 clear hcc
 subst c3 c2
 rw [← c1] at m1 m2 m3 hAl
 have hsm:VFun env 21 [.lst 3 (cells c.sets) c.sets.length,.lst 3 (cells (gi W 0)) (gi W 0).length] (.p (.bool true)):=by rw [← c1];exact same_refl _ _ c.sets (by omega)
 have hco:=rcost_spec 72 3 p.sets (gi W 0) (by omega) (by rw [← c1];omega) (fun i hi=>by have:=(hset hi).2.2;omega) (by rw [← c1];exact ris_gi m1)
 have m4:costK p.sets c.sets c.sets.length=c.cost:=m3
 rw [← c1,m4] at hco
 rw [c1] at hco
 have hlp:=lproves_ok hnn hn8 hL hels hx (by omega) (fun i hi=>by have:=hTw i hi;omega) hlaw
 have hve:=verify_spec p n hck hnn hn8 hL hels hx c (by omega) (by omega) (fun i hi=>by have:=hTw i hi;omega)
 rw [ver_ok hn8 hels hx m1 m2 m3 hlaw] at hve
 have hsmk:∀ i,i<W.length→VFun env 21 [.lst 3 (cells (gi W i)) (gi W i).length,.lst 3 (cells (gi W i)) (gi W i).length] (.p (.bool true)):=fun i hi=>same_refl _ _ _ (by have:=ris_len (l5 i hi).1;omega)
 clear l5 l6 hx hset hels hS
 repeat' (first
  |(refine VOpsD.atOp 35 ?_;refine VOpsD.ghost (Ghost.freeze 34 rfl rfl) ?_)
  |(refine VOpsD.atOp 86 ?_;refine VOpsD.ghost (Ghost.freeze 82 rfl rfl) ?_)
  |apply VWp.assoc
  |apply VWp.rseq
  |apply VWp.rseqD
  |apply VWp.skipSeq
  |apply VWp.blockSeq
  |apply VOps.nil
  |apply VOpsD.nil
  |apply VOps.one
  |(apply VOpsD.bar;decide +kernel)
  |apply VOpsD.quiet
  |(apply VOpsD.quietTake;rfl;rfl)
  |(apply VOpsD.guard;rfl;rfl)
  |(apply VVal.fn;rfl;rfl;exact h2;intro _;rfl)
  |(apply VVal.fv;rfl;rfl;exact hst)
  |(apply VVal.fn;rfl;rfl;exact hra;intro _;rfl)
  |(apply VVal.fn;rfl;rfl;exact hsm;intro _;rfl)
  |(apply VVal.fn;rfl;rfl;exact hco;intro _;rfl)
  |(apply VVal.assign;rfl)
  |(apply VVal.move;rfl)
  |(apply VVal.int;rfl;rfl;rfl)
  |(apply VVal.indexN;rfl;rfl;rfl;omega;rfl)
  |(apply VVal.load;rfl;rfl)
  |(apply VVal.pick_false;rfl;rfl)
  |(apply VVal.lenF;rfl;rfl)
  |(apply VVal.fieldB;rfl;rfl;rfl)
  |(apply VVal.alloc;rfl)
  |(apply VVal.storeB;rfl;rfl;rfl;trivial;rfl;rfl;exact lt_dec rfl;exact le_dec rfl)
  |(apply VVal.not;rfl)
  |(apply VVal.extract;rfl;rfl)
  |(apply VWp.condSeq_dec;rfl)
  |(intro _;try (exfalso;omega)))
 all_goals try (exfalso;omega)
 all_goals try contradiction
 apply VWp.loopR (W.length) [(3,_),(4,_),(6,_),(8,_)] [(1,_),(2,_)] (fun k r=>(9,.p (.int .i64 (k:Int)))::r) (fun k r=>r) 5
 ·omega
 ·omega
 ·repeat (first|exact LCov.nil|(refine LCov.eq rfl ?_ ?_;(first|exact PV.under_of rfl|(simp [PV.under,PVs.under];done)))|refine LCov.cons trivial rfl (.of_eq (lst_len (by simp<;>omega))) ?_)
 ·repeat (first|exact HCov.nil|(refine HCov.eq rfl (lt_dec rfl) ?_ ?_;(first|exact HB.under_of rfl|exact PVs.under_pure _ _|(simp [HB.under,PVs.under,PV.under];done)))|(refine HCov.cons (lt_dec rfl) ?_ rfl ?_ ?_;(first|exact trivial|exact PVs.under_pure _ _|(simp [HB.under,PVs.under,PV.under]));(first|exact HLe.refl _|exact HLe.vec (FLes.refl _) (by simp))))
 ·intro k hk
  have hsk:=hsmk k hk
  repeat' (first
   |apply VWp.assoc
   |apply VWp.rseq
   |apply VWp.rseqD
   |apply VWp.region
   |apply VWp.skipSeq
   |apply VWp.blockSeq
   |apply QSeq.normal
   |apply QBlk.normal
   |apply VWp.skip
   |apply VOps.nil
   |apply VOpsD.nil
   |apply VOps.one
   |(apply VOpsD.bar;decide +kernel)
   |apply VOpsD.quiet
   |(apply VVal.fn;rfl;rfl;exact hsk;intro _;rfl)
   |(apply VVal.assign;rfl)
   |(apply VVal.move;rfl)
   |(apply VVal.add64;rfl;rfl;omega)
   |(apply VVal.int;rfl;rfl;rfl)
   |(apply VVal.indexN;rfl;rfl;rfl;omega;rfl)
   |(apply VVal.load;rfl;rfl)
   |(apply VVal.lenF;rfl;rfl)
   |(apply VVal.not;rfl)
   |(apply VWp.condSeq_dec;rfl)
   |(apply VWp.cond_false;rfl)
   |(intro _;try (exfalso;omega)))
  all_goals try (exfalso;omega)
  all_goals try contradiction
  refine QLoop.normal ⟨by omega,?_,?_⟩
  ·repeat (first|exact LCov.nil|refine LCov.same trivial rfl ?_|refine LCov.same (lt_dec rfl) rfl ?_|refine LCov.same ⟨trivial,lt_dec rfl,trivial⟩ rfl ?_|refine LCov.same ⟨trivial,lt_dec rfl,lt_dec rfl,trivial⟩ rfl ?_|refine LCov.same ⟨trivial,lt_dec rfl,lt_dec rfl,lt_dec rfl,trivial⟩ rfl ?_|refine LCov.same ⟨trivial,trivial⟩ rfl ?_|refine LCov.cons trivial rfl (.of_eq (lst_len (by simp<;>omega))) ?_)
  ·repeat (first|exact HCov.nil|(refine HCov.cons (lt_dec rfl) ?_ rfl ?_ ?_;(first|exact HB.under_of rfl|exact PVs.under_pure _ _|(simp [HB.under,PVs.under,PV.under]));(first|exact HLe.refl _|exact HLe.vec (FLes.refl _) (by simp))))
 ·repeat' (first
   |apply VWp.assoc
   |apply VWp.rseq
   |apply VWp.exitSeq
   |apply QSeq.normal
   |apply QBlk.exit
   |apply QLoop.exit
   |apply VWp.ret
   |apply VOps.nil
   |apply VOps.one
   |(apply VOps.take;rfl;rfl)
   |(apply VVal.fn;rfl;rfl;exact hlp;intro _;rfl)
   |(apply VVal.fn;rfl;rfl;exact hve;intro _;rfl)
   |(apply VVal.assign;rfl)
   |(apply VVal.move;rfl)
   |(apply VVal.int;rfl;rfl;rfl)
   |(apply VVal.load;rfl;rfl)
   |(apply VVal.pick_true;rfl;rfl)
   |(apply VVal.lenF;rfl;rfl)
   |(apply VWp.condSeq_dec;rfl)
   |(intro _;try (exfalso;omega)))
  all_goals first|(exfalso;omega)|contradiction|((refine Done.ret rfl (.refl _) (by first|exact trivial|exact ⟨trivial,trivial,trivial⟩|exact ⟨trivial,trivial,trivial,trivial⟩) HCov.nil (Nat.zero_le _) (Nat.le_refl _) ⟨?_,rfl,rfl⟩;try rfl);try simp)
end Go.Proofs.YtmfnchgkffhpfaaDoor
