/-
  The law of coverings: CoveringVerifies. Conditions: in each statement.
-/
import Derived.Test.YtmfnchgkffhpfaaDoorCovSl
import Derived.Test.YtmfnchgkffhpfaaDoorCovSij
import Derived.Test.YtmfnchgkffhpfaaDoorCovI
set_option linter.unusedSimpArgs false
set_option linter.unusedVariables false
set_option linter.unusedSectionVars false
namespace Go.Proofs.YtmfnchgkffhpfaaDoor
open Go Go.Am Go.Vm
attribute [local irreducible] VVal VOps VOpsD VWp VCalls VFun VFunV QSeq QBlk QLoop Vm.Done DoneV DoneI VRead VReadV
theorem all2_three {α β:Type} {R:α→β→Prop} {a b c:α} {r:List β} (h:All2 R [a,b,c] r):∃ x y z,r=[x,y,z]∧R a x∧R b y∧R c z:=by
 cases h with|cons h1 t=>cases t with|cons h2 t=>cases t with|cons h3 t=>cases t;exact ⟨_,_,_,rfl,h1,h2,h3⟩
set_option maxRecDepth 100000 in
theorem has_fault {j:Nat} {fs:List FV} (h:HasT Tryd.prog (j+4) 48 fs):∃ f:CFault,fs=Enc.enc f∧f.how<256∧f.at'<256:=by
 simp only [HasT,Tryd.underlying48,Tryd.underlying5,Tryd.underlying3] at h
 obtain ⟨parts,rfl,hp⟩:=h
 obtain ⟨a,b,c,rfl,⟨n1,rfl,h1⟩,⟨n2,rfl,h2⟩,⟨n3,rfl,h3⟩⟩:=all2_three hp
 obtain ⟨m1,hm1,rfl⟩:=nat_u8 h1
 obtain ⟨m2,hm2,rfl⟩:=nat_u8 h2
 exact ⟨⟨m1,m2,n3⟩,rfl,hm1,hm2⟩
section
variable {p:CProb} {n:Nat} (hn:n≤7) (h:ElsOk p.sets) (hE:Elsn p.sets n) {c:CCover}
theorem verK_rsg (hr:rsg c.sets p.sets.length 0≠0):verK p n c=rsg c.sets p.sets.length 0:=if_pos hr
include hn h hE
theorem cov_full (hr:rsg c.sets p.sets.length 0=0):covK p.sets c.sets c.sets.length=2 ^ n-1↔missK p.sets c.sets n=[]:=by
 have hin:=rsg_in hr
 exact full_iff hn (covK_spec h hin _ (Nat.le_refl _)).2 fun y hy=>hasK_lt hE hin y _ (Nat.le_refl _) (by rw [← (covK_spec h hin _ (Nat.le_refl _)).2];exact hy)
theorem verK_miss (hr:rsg c.sets p.sets.length 0=0) (hm:missK p.sets c.sets n≠[]):verK p n c=7:=by
 unfold verK
 rw [if_neg (by omega),if_pos (fun e=>hm ((cov_full hn h hE hr).1 e))]
theorem verK_cost (hr:rsg c.sets p.sets.length 0=0) (hm:missK p.sets c.sets n=[]) (hc:costK p.sets c.sets c.sets.length≠c.cost):verK p n c=20:=by
 unfold verK
 rw [if_neg (by omega),if_neg (fun e=>e ((cov_full hn h hE hr).2 hm)),if_pos hc]
theorem verK_law (hr:rsg c.sets p.sets.length 0=0) (hm:missK p.sets c.sets n=[]) (hc:costK p.sets c.sets c.sets.length=c.cost) (hl:lawP p.sets n c.cost c.proof):verK p n c=0:=by
 unfold verK
 rw [if_neg (by omega),if_neg (fun e=>e ((cov_full hn h hE hr).2 hm)),if_neg (fun e=>e hc),if_pos ⟨hl.1,(law_run hl.1).1 hl⟩]
theorem verK_no (hr:rsg c.sets p.sets.length 0=0) (hm:missK p.sets c.sets n=[]) (hc:costK p.sets c.sets c.sets.length=c.cost) (hl:¬ lawP p.sets n c.cost c.proof):verK p n c=20:=by
 unfold verK
 rw [if_neg (by omega),if_neg (fun e=>e ((cov_full hn h hE hr).2 hm)),if_neg (fun e=>e hc),if_neg (fun e=>hl ((law_run e.1).2 e.2))]
end
open Classical in
theorem lproves_no {p:CProb} {n:Nat} (hp:p.n=n) (hn:n≤7) (hL:p.sets.length≤7) (h:ElsOk p.sets) (hE:Elsn p.sets n) {c:CCover} (hN:c.proof.length<1000) (hws:∀ i,i<c.proof.length→(gi c.proof i).ws.length<1000) (hl:¬ lawP p.sets n c.cost c.proof) :
 VFun env 25 [.agg (Enc.enc p),.agg (Enc.enc c)] (.p (.bool false)):=by
 have:=lproves_spec p n hp hn hL h hE c hN hws
 rwa [decide_eq_false hl] at this
set_option maxRecDepth 100000 in
set_option maxHeartbeats 8000000 in
theorem covVerifies_spec (x:CPlan) (f:CFault) (hn:x.n<256) (h:∀ i,i<x.sets.length→(gi x.sets i).els<256∧(gi x.sets i).cost<256) (hf:f.how<256∧f.at'<256) :
 VFun env 5 [.agg (Enc.enc x),.agg (Enc.enc f)] (.p (.bool true)):=by
 refine VFun.enter (env_none (by decide)) Tryd.func5 rfl (by kernel_rfl) (by simp [Tryd.ntmps5]) ?_
 by_cases hbig:x.sets.length>7
 ·repeat' (first
   |apply VWp.assoc
   |apply VWp.rseq
   |apply VWp.retSeq
   |apply VOps.nil
   |apply VOps.one
   |(apply VOps.take;rfl;rfl)
   |(apply VVal.fn;rfl;rfl;exact known_spec;intro _;rfl)
   |(apply VVal.assign;rfl)
   |(apply VVal.move;rfl)
   |(apply VVal.int;rfl;rfl;rfl)
   |(apply VVal.load;rfl;rfl)
   |(apply VVal.pick_false;rfl;rfl)
   |(apply VVal.lenF;rfl;rfl)
   |(apply VVal.fieldB;rfl;rfl;rfl)
   |(apply VVal.box;rfl;trivial)
   |(apply VVal.not;rfl)
   |(apply VWp.condSeq_dec;rfl)
   |(intro _;try (exfalso;omega)))
  all_goals first|(exfalso;omega)|contradiction|((refine Done.ret rfl (.refl _) (by first|exact trivial|exact ⟨trivial,trivial,trivial⟩|exact ⟨trivial,trivial,trivial,trivial⟩) HCov.nil (Nat.zero_le _) (Nat.le_refl _) ⟨?_,rfl,rfl⟩;try rfl);try simp)
 obtain ⟨n,hn8,hnn⟩:∃ n:Nat,n≤7∧(makeM x).n=n:=⟨x.n % 8,by omega,by show (x.n:Int) % 8=_;omega⟩
 have hx:=els_lt hnn
 have hset:=@makeM_set x
 have hsl:=setsM_le x
 have hps:(makeM x).sets=setsM x 7:=rfl
 have hok:=makeM_ok x
 have hmk:=make_spec x (by omega) hn h
 have hels:=makeM_els x
 have hS:=makeM_sorted x
 generalize hp:makeM x=p at *
 have hL:p.sets.length≤7:=by rw [hps];exact hsl
 have hck:=check_spec p (by omega) (fun i hi=>by have:=(hset hi).1;omega)
 rw [hok] at hck
 have hpos:=possible_spec p n hnn hn8 (by omega) hels
 have hst:=sets_spec p (by omega)
 have hfull:=or_full hels hx hn8 p.sets.length
 rw [restL_none (Nat.le_refl _)] at hfull
 by_cases hm:missK p.sets (allL p.sets.length) n=[]
 case neg =>
  rw [decide_eq_false (fun e=>hm (hfull.1 e))] at hpos
  have h1:=solvNone_spec (solveNone_spec hck hpos)
  repeat' (first
   |apply VWp.assoc
   |apply VWp.rseq
   |apply VWp.skipSeq
   |apply VWp.retSeq
   |apply VOps.nil
   |apply VOps.one
   |(apply VOps.take;rfl;rfl)
   |(apply VVal.fn;rfl;rfl;exact known_spec;intro _;rfl)
   |(apply VVal.fn;rfl;rfl;exact hmk;intro _;rfl)
   |(apply VVal.fn;rfl;rfl;exact h1;intro _;rfl)
   |(apply VVal.assign;rfl)
   |(apply VVal.move;rfl)
   |(apply VVal.int;rfl;rfl;rfl)
   |(apply VVal.load;rfl;rfl)
   |(apply VVal.pick_false;rfl;rfl)
   |(apply VVal.lenF;rfl;rfl)
   |(apply VVal.fieldB;rfl;rfl;rfl)
   |(apply VVal.box;rfl;trivial)
   |(apply VVal.alloc;rfl)
   |(apply VVal.storeB;rfl;rfl;rfl;trivial;rfl;rfl;exact lt_dec rfl;exact le_dec rfl)
   |(apply VVal.not;rfl)
   |(apply VVal.extract;rfl;rfl)
   |(apply VWp.condSeq_true;rfl)
   |(apply VWp.condSeq_dec;rfl)
   |(intro _;try (exfalso;omega)))
  all_goals first|(exfalso;omega)|contradiction|((refine Done.ret rfl (.refl _) (by first|exact trivial|exact ⟨trivial,trivial,trivial⟩|exact ⟨trivial,trivial,trivial,trivial⟩) HCov.nil (Nat.zero_le _) (Nat.le_refl _) ⟨?_,rfl,rfl⟩;try rfl);try simp)
 rw [decide_eq_true (hfull.2 hm)] at hpos
 obtain ⟨W,hW⟩:∃ W,(allK n p.sets (2 ^ p.sets.length)).1=W:=⟨_,rfl⟩
 obtain ⟨least,l1,l2,l3,l4,l5,l6⟩:=least_all hL (fun i hi=>(hset hi).2.2.1) hm hW
 clear hW
 obtain ⟨m1,m2,m3⟩:=l5 0 l3
 have hsv:=solve_spec p n hnn hn8 hL hels hS hx hck hpos
 rw [l1,l2] at hsv
 have h1:=solv_spec p n hnn hn8 hL hels hS hx least (gi W 0) W.tail hsv l6 m1
 have hAl:=ris_len m1
 have hgb:=(costK_bd (L:=p.sets) (fun i hi=>by have:=(hset hi).2.2;omega) (ris_gi m1) (gi W 0).length (Nat.le_refl _))
 have m4:costK p.sets (gi W 0) (gi W 0).length=least:=m3
 clear l1 l2 l5 hsv
 repeat' (first
  |apply VWp.assoc
  |apply VWp.rseq
  |apply VWp.skipSeq
  |apply VOps.nil
  |apply VOps.one
  |(apply VOps.take;rfl;rfl)
  |(apply VVal.fn;rfl;rfl;exact known_spec;intro _;rfl)
  |(apply VVal.fn;rfl;rfl;exact hmk;intro _;rfl)
  |(apply VVal.assign;rfl)
  |(apply VVal.move;rfl)
  |(apply VVal.int;rfl;rfl;rfl)
  |(apply VVal.load;rfl;rfl)
  |(apply VVal.pick_false;rfl;rfl)
  |(apply VVal.lenF;rfl;rfl)
  |(apply VVal.fieldB;rfl;rfl;rfl)
  |(apply VVal.box;rfl;trivial)
  |(apply VVal.alloc;rfl)
  |(apply VVal.storeB;rfl;rfl;rfl;trivial;rfl;rfl;exact lt_dec rfl;exact le_dec rfl)
  |(apply VVal.not;rfl)
  |(apply VWp.condSeq_dec;rfl)
  |(intro _;try (exfalso;omega)))
 (apply VVal.call0 (hc:=h1);rfl;rfl;exact .of_eq rfl)
 rintro r H' nx' ⟨⟨T,t1,t2,rfl⟩,rfl,rfl⟩
 have hTl:=T.flat_len 0
 have hTp:=T.size_pos
 have hTw:∀ i,i<(T.flat 0).length→(gi (T.flat 0) i).ws.length≤n:=fun i hi=>tree_ws T 0 _ t1 _ (gi_mem hi)
 generalize T.flat 0=N at *
 generalize hcc:(⟨gi W 0,least,N⟩:CCover)=c at *
 have c1:c.sets=gi W 0:=by rw [← hcc]
 have c2:c.cost=least:=by rw [← hcc]
 have c3:c.proof=N:=by rw [← hcc]
 clear hcc
 subst c3 c2
 rw [← c1] at hAl hgb m4
 have hsp:=spoiled_spec c f ⟨by omega,by omega,fun i hi=>by have:=hTw i hi;omega⟩ (by omega) (by omega) (by omega) (by omega) hf
 clear m1 m2 m3 l6 hTw hTl hgb m4 t1 t2
 repeat' (first
  |apply VWp.assoc
  |apply VWp.rseq
  |apply VWp.skipSeq
  |apply VOps.nil
  |apply VOps.one
  |(apply VVal.assign;rfl)
  |(apply VVal.move;rfl)
  |(apply VVal.int;rfl;rfl;rfl)
  |(apply VVal.load;rfl;rfl)
  |(apply VVal.alloc;rfl)
  |(apply VVal.storeB;rfl;rfl;rfl;trivial;rfl;rfl;exact lt_dec rfl;exact le_dec rfl)
  |(apply VVal.extract;rfl;rfl)
  |(apply VWp.condSeq_false;rfl))
 all_goals try (exfalso;omega)
 all_goals try contradiction
 (apply VVal.call0 (hc:=hsp);rfl;rfl;exact .of_eq rfl)
 rintro r H' nx' ⟨⟨c',k1,rfl⟩,rfl,rfl⟩
 clear hsp c1 hAl hTp
 have k2:=k1.sets
 have k3:=k1.nodes
 have k4:=k1.ws
 have hli:=llist_spec 3 p c'.sets (by omega) (by omega)
 have hve:=verify_spec p n hck hnn hn8 hL hels hx c' (by omega) (by omega) (fun i hi=>by have:=k4 i hi;omega)
 by_cases hr:rsg c'.sets p.sets.length 0=0
 case neg =>
  rw [verK_rsg hr] at hve
  repeat' (first
   |apply VWp.rseq
   |apply VWp.blockSeq
   |apply QSeq.normal
   |apply QBlk.normal
   |apply VWp.ret
   |apply VWp.skip
   |apply VOps.nil
   |apply VOps.one
   |(apply VVal.fn;rfl;rfl;exact hli;intro _;rfl)
   |(apply VVal.fn;rfl;rfl;exact hve;intro _;rfl)
   |(apply VVal.assign;rfl)
   |(apply VVal.move;rfl)
   |(apply VVal.int;rfl;rfl;rfl)
   |(apply VVal.load;rfl;rfl)
   |(apply VVal.fieldB;rfl;rfl;rfl)
   |(apply VVal.storeB;rfl;rfl;rfl;trivial;rfl;rfl;exact lt_dec rfl;exact le_dec rfl)
   |(apply VWp.cond_dec;rfl)
   |(intro _;try (exfalso;omega)))
  all_goals first|(exfalso;omega)|contradiction|((refine Done.ret rfl (.refl _) (by first|exact trivial|exact ⟨trivial,trivial,trivial⟩|exact ⟨trivial,trivial,trivial,trivial⟩) HCov.nil (Nat.zero_le _) (Nat.le_refl _) ⟨?_,rfl,rfl⟩;try rfl);try simp)
 rw [hr] at hli
 have hin:=rsg_in hr
 have hmi:=rmissing_spec 72 3 n p.sets c'.sets (by omega) (by omega) (by omega) (fun i hi=>by have:=(hset hi).1;omega) hin
 rw [← hnn] at hmi
 by_cases hmk2:missK p.sets c'.sets n=[]
 case neg =>
  rw [verK_miss hn8 hels hx hr hmk2] at hve
  have hlen:0<(missK p.sets c'.sets n).length:=List.length_pos_iff.2 hmk2
  repeat' (first
   |(refine VOpsD.atOp 46 ?_;refine VOpsD.ghost (Ghost.freeze 43 rfl rfl) ?_)
   |apply VWp.rseq
   |apply VWp.rseqD
   |apply VWp.region
   |apply VWp.blockSeq
   |apply QSeq.normal
   |apply QBlk.normal
   |apply VWp.ret
   |apply VOps.nil
   |apply VOpsD.nil
   |apply VOps.one
   |(apply VOpsD.bar;decide +kernel)
   |apply VOpsD.quiet
   |(apply VVal.fn;rfl;rfl;exact hli;intro _;rfl)
   |(apply VVal.fv;rfl;rfl;exact hst)
   |(apply VVal.fv;rfl;rfl;exact hmi)
   |(apply VVal.fn;rfl;rfl;exact hve;intro _;rfl)
   |(apply VVal.assign;rfl)
   |(apply VVal.move;rfl)
   |(apply VVal.int;rfl;rfl;rfl)
   |(apply VVal.load;rfl;rfl)
   |(apply VVal.lenV;rfl;rfl;rfl)
   |(apply VVal.fieldB;rfl;rfl;rfl)
   |(apply VVal.storeB;rfl;rfl;rfl;trivial;rfl;rfl;exact lt_dec rfl;exact le_dec rfl)
   |(apply VWp.cond_false;rfl)
   |(apply VWp.cond_dec;rfl)
   |(intro _;try (exfalso;omega)))
  all_goals first|(exfalso;omega)|contradiction|((refine Done.ret rfl (.refl _) (by first|exact trivial|exact ⟨trivial,trivial,trivial⟩|exact ⟨trivial,trivial,trivial,trivial⟩) HCov.nil (Nat.zero_le _) (Nat.le_refl _) ⟨?_,rfl,rfl⟩;try rfl);try simp)
 have hco:=rcost_spec 72 3 p.sets c'.sets (by omega) (by omega) (fun i hi=>by have:=(hset hi).2.2;omega) hin
 by_cases hc:costK p.sets c'.sets c'.sets.length=c'.cost
 case neg =>
  rw [verK_cost hn8 hels hx hr hmk2 hc] at hve
  rw [hmk2] at hmi
  repeat' (first
   |(refine VOpsD.atOp 46 ?_;refine VOpsD.ghost (Ghost.freeze 43 rfl rfl) ?_)
   |(refine VOpsD.atOp 56 ?_;refine VOpsD.ghost (Ghost.freeze 53 rfl rfl) ?_)
   |apply VWp.rseq
   |apply VWp.rseqD
   |apply VWp.region
   |apply VWp.blockSeq
   |apply QSeq.normal
   |apply QBlk.normal
   |apply VWp.ret
   |apply VOps.nil
   |apply VOpsD.nil
   |apply VOps.one
   |(apply VOpsD.bar;decide +kernel)
   |apply VOpsD.quiet
   |(apply VOpsD.drop;rfl;rfl;rfl)
   |(apply VOpsD.guard;rfl;rfl)
   |(apply VVal.fn;rfl;rfl;exact hli;intro _;rfl)
   |(apply VVal.fv;rfl;rfl;exact hst)
   |(apply VVal.fv;rfl;rfl;exact hmi)
   |(apply VVal.fn;rfl;rfl;exact hco;intro _;rfl)
   |(apply VVal.fn;rfl;rfl;exact hve;intro _;rfl)
   |(apply VVal.assign;rfl)
   |(apply VVal.move;rfl)
   |(apply VVal.int;rfl;rfl;rfl)
   |(apply VVal.load;rfl;rfl)
   |(apply VVal.pick_true;rfl;rfl)
   |(apply VVal.lenV;rfl;rfl;rfl)
   |(apply VVal.fieldB;rfl;rfl;rfl)
   |(apply VVal.storeB;rfl;rfl;rfl;trivial;rfl;rfl;exact lt_dec rfl;exact le_dec rfl)
   |(apply VWp.cond_true;rfl)
   |(apply VWp.cond_false;rfl)
   |(intro _;try (exfalso;omega)))
  all_goals first|(exfalso;omega)|contradiction|((refine Done.ret rfl (.refl _) (by first|exact trivial|exact ⟨trivial,trivial,trivial⟩|exact ⟨trivial,trivial,trivial,trivial⟩) HCov.nil (Nat.zero_le _) (Nat.le_refl _) ⟨?_,rfl,rfl⟩;try rfl);try simp)
 by_cases hl:lawP p.sets n c'.cost c'.proof
 ·rw [verK_law hn8 hels hx hr hmk2 hc hl] at hve
  have hlp:=lproves_ok hnn hn8 hL hels hx (by omega) (fun i hi=>by have:=k4 i hi;omega) hl
  rw [hmk2] at hmi
  repeat' (first
   |(refine VOpsD.atOp 46 ?_;refine VOpsD.ghost (Ghost.freeze 43 rfl rfl) ?_)
   |(refine VOpsD.atOp 56 ?_;refine VOpsD.ghost (Ghost.freeze 53 rfl rfl) ?_)
   |apply VWp.rseq
   |apply VWp.rseqD
   |apply VWp.blockSeq
   |apply QSeq.normal
   |apply QBlk.normal
   |apply VWp.ret
   |apply VWp.skip
   |apply VOps.nil
   |apply VOpsD.nil
   |apply VOps.one
   |(apply VOpsD.bar;decide +kernel)
   |apply VOpsD.quiet
   |(apply VOpsD.quietTake;rfl;rfl)
   |(apply VOpsD.guard;rfl;rfl)
   |(apply VVal.fn;rfl;rfl;exact hli;intro _;rfl)
   |(apply VVal.fv;rfl;rfl;exact hst)
   |(apply VVal.fv;rfl;rfl;exact hmi)
   |(apply VVal.fn;rfl;rfl;exact hco;intro _;rfl)
   |(apply VVal.fn;rfl;rfl;exact hlp;intro _;rfl)
   |(apply VVal.fn;rfl;rfl;exact hve;intro _;rfl)
   |(apply VVal.assign;rfl)
   |(apply VVal.move;rfl)
   |(apply VVal.int;rfl;rfl;rfl)
   |(apply VVal.load;rfl;rfl)
   |(apply VVal.pick_false;rfl;rfl)
   |(apply VVal.lenV;rfl;rfl;rfl)
   |(apply VVal.fieldB;rfl;rfl;rfl)
   |(apply VVal.storeB;rfl;rfl;rfl;trivial;rfl;rfl;exact lt_dec rfl;exact le_dec rfl)
   |(apply VVal.not;rfl)
   |(apply VWp.cond_false;rfl)
   |(intro _;try (exfalso;omega)))
  all_goals first|(exfalso;omega)|contradiction|((refine Done.ret rfl (.refl _) (by first|exact trivial|exact ⟨trivial,trivial,trivial⟩|exact ⟨trivial,trivial,trivial,trivial⟩) HCov.nil (Nat.zero_le _) (Nat.le_refl _) ⟨?_,rfl,rfl⟩;try rfl);try simp)
 ·rw [verK_no hn8 hels hx hr hmk2 hc hl] at hve
  have hlp:=lproves_no hnn hn8 hL hels hx (by omega) (fun i hi=>by have:=k4 i hi;omega) hl
  rw [hmk2] at hmi
  repeat' (first
   |(refine VOpsD.atOp 46 ?_;refine VOpsD.ghost (Ghost.freeze 43 rfl rfl) ?_)
   |(refine VOpsD.atOp 56 ?_;refine VOpsD.ghost (Ghost.freeze 53 rfl rfl) ?_)
   |apply VWp.rseq
   |apply VWp.rseqD
   |apply VWp.region
   |apply VWp.blockSeq
   |apply QSeq.normal
   |apply QBlk.normal
   |apply VWp.ret
   |apply VOps.nil
   |apply VOpsD.nil
   |apply VOps.one
   |(apply VOpsD.bar;decide +kernel)
   |apply VOpsD.quiet
   |(apply VOpsD.quietTake;rfl;rfl)
   |(apply VOpsD.guard;rfl;rfl)
   |(apply VVal.fn;rfl;rfl;exact hli;intro _;rfl)
   |(apply VVal.fv;rfl;rfl;exact hst)
   |(apply VVal.fv;rfl;rfl;exact hmi)
   |(apply VVal.fn;rfl;rfl;exact hco;intro _;rfl)
   |(apply VVal.fn;rfl;rfl;exact hlp;intro _;rfl)
   |(apply VVal.fn;rfl;rfl;exact hve;intro _;rfl)
   |(apply VVal.assign;rfl)
   |(apply VVal.move;rfl)
   |(apply VVal.int;rfl;rfl;rfl)
   |(apply VVal.load;rfl;rfl)
   |(apply VVal.pick_false;rfl;rfl)
   |(apply VVal.lenV;rfl;rfl;rfl)
   |(apply VVal.fieldB;rfl;rfl;rfl)
   |(apply VVal.storeB;rfl;rfl;rfl;trivial;rfl;rfl;exact lt_dec rfl;exact le_dec rfl)
   |(apply VVal.not;rfl)
   |(apply VWp.cond_true;rfl)
   |(apply VWp.cond_false;rfl)
   |(intro _;try (exfalso;omega)))
  all_goals first|(exfalso;omega)|contradiction|((refine Done.ret rfl (.refl _) (by first|exact trivial|exact ⟨trivial,trivial,trivial⟩|exact ⟨trivial,trivial,trivial,trivial⟩) HCov.nil (Nat.zero_le _) (Nat.le_refl _) ⟨?_,rfl,rfl⟩;try rfl);try simp)
end Go.Proofs.YtmfnchgkffhpfaaDoor
