/-
  The law of coverings: CoveringLaws. Conditions: in each statement.
-/
import Derived.Test.YtmfnchgkffhpfaaDoorCovSij
set_option linter.unusedSimpArgs false
set_option linter.unusedVariables false
set_option linter.unusedSectionVars false
namespace Go.Proofs.YtmfnchgkffhpfaaDoor
open Go Go.Am Go.Vm
attribute [local irreducible] VVal VOps VOpsD VWp VCalls VFun VFunV QSeq QBlk QLoop Vm.Done DoneV DoneI VRead VReadV
theorem cst_cons (L:List CSet) (x:Int) (C:List Int):cst L (x::C)=(gi L x.toNat).cost+cst L C:=by
 have:=cst_append L [x] C
 rw [List.singleton_append] at this
 rw [this]
 have e:cst L [x]=0+(gi L x.toNat).cost:=rfl
 rw [e]
 omega
theorem irr_min {L:List CSet} {n:Nat} (hc:∀ i,i<L.length→1≤(gi L i).cost) {s:List Int} (hr:Ris L.length s) (hmin:∀ B,Cvr L n B→cst L s≤cst L B):∀ k,k≤s.length→irrO L n s k=s
 |0,_=>by unfold irrO;simp [irrT]
 |k+1,hk=>by
  have ih:=irr_min hc hr hmin k (by omega)
  rw [irrO_step L n s (by omega)]
  split
  ·rename_i hm
   exfalso
   rw [irrO_eq L n s (by omega)] at ih
   unfold irrR at hm
   generalize s.take (s.length-1-k)=A at *
   generalize irrT L n s k=C at *
   generalize hx:gi s (s.length-1-k)=x at *
   have hsub:(A++C).Sublist s:=by
    rw [← ih]
    exact List.Sublist.append (List.Sublist.refl A) (List.sublist_cons_self x C)
   have hB:Cvr L n (A++C):=⟨⟨hr.1.sublist hsub,fun y hy=>hr.2 y (hsub.subset hy)⟩,hm⟩
   have h1:=hmin _ hB
   have h2:cst L s=cst L (A++x::C):=by rw [ih]
   have h3:=cst_append L A (x::C)
   have h4:=cst_append L A C
   have h5:=cst_cons L x C
   have h6:=hr.2 x (by rw [← ih];simp)
   have h7:=hc x.toNat (by omega)
   omega
  ·exact ih
theorem ess_in {L:List CSet} {n:Nat} (h:ElsOk L) (hE:Elsn L n) (hn:n≤7) {B:List Int} (hB:Cvr L n B) {x:Int} (hx:x∈essK L n L.length):x∈B:=by
 unfold essK at hx
 obtain ⟨h1,h2⟩:=List.mem_filter.1 hx
 have h1:=allL_mem.1 h1
 have h2:=of_decide_eq_true h2
 refine Classical.byContradiction fun hno=>h2 ((or_full h hE hn x.toNat).2 ?_)
 refine List.eq_nil_iff_forall_not_mem.2 fun y hy=>?_
 obtain ⟨y1,y2,y3⟩:=missK_mem.1 hy
 have hyB:y∈missK L B n:=missK_mem.2 ⟨y1,y2,fun ⟨z,z1,z2⟩=>y3 ⟨z,?_,z2⟩⟩
 ·rw [hB.2] at hyB;simp at hyB
 ·unfold restL
  exact List.mem_filter.2 ⟨allL_mem.2 (hB.1.2 z z1),decide_eq_true fun e=>hno (by rw [← show z=x by omega];exact z1)⟩
theorem out_cvr {L:List CSet} {n:Nat} (hn:n≤7) (hall:missK L (allL L.length) n=[]) {J:Nat} (hJ:missK L (takeK L n J) n=[]) (hJl:∀ j,j<J→missK L (takeK L n j) n≠[]):Cvr L n (outK (takeK L n J) L.length):=by
 refine ⟨⟨(allL_sorted _).filter _,fun x hx=>allL_mem.1 (List.mem_filter.1 hx).1⟩,List.eq_nil_iff_forall_not_mem.2 fun y hy=>?_⟩
 obtain ⟨y1,y2,y3⟩:=missK_mem.1 hy
 have:y∈missK L (takeK L n J) n:=missK_mem.2 ⟨y1,y2,fun ⟨z,z1,z2⟩=>y3 ⟨z,?_,z2⟩⟩
 ·rw [hJ] at this;simp at this
 ·obtain ⟨i,hi,e⟩:=List.getElem_of_mem z1
  have:=take_in hn hall J hJl i hi
  rw [gi_eq hi,e] at this
  exact List.mem_filter.2 ⟨allL_mem.2 this,decide_eq_true z1⟩
theorem ver_no {p:CProb} {n:Nat} (hn:n≤7) (h:ElsOk p.sets) (hE:Elsn p.sets n) {c:CCover} (hr:Ris p.sets.length c.sets) (hm:missK p.sets c.sets n=[]) (hc:cst p.sets c.sets≠c.cost):verK p n c=20:=by
 have hin:=ris_gi hr
 unfold verK
 rw [if_neg (by rw [rsg_ok hin hr.1 _ 0 rfl];simp),if_neg,if_pos (by simpa using hc)]
 have:=(full_iff hn (covK_spec h hin _ (Nat.le_refl _)).2 fun y hy=>hasK_lt hE hin y _ (Nat.le_refl _) (by rw [← (covK_spec h hin _ (Nat.le_refl _)).2];exact hy)).2 hm
 simpa using this
theorem irrMin_spec {p:CProb} {n:Nat} (hc:VFun env 34 [.agg (Enc.enc p)] (.p (.int .i64 0))) (hp:p.n=n) (hn:n≤7) (hL:p.sets.length<1000) (h:ElsOk p.sets) (hE:Elsn p.sets n) (hco:∀ i,i<p.sets.length→1≤(gi p.sets i).cost) {s:List Int} (hl:s.length<1000) (hr:Ris p.sets.length s) (hm:missK p.sets s n=[]) (hmin:∀ B,Cvr p.sets n B→cst p.sets s≤cst p.sets B) (e:TypeId) :
 VFun env 18 [.agg (Enc.enc p),.lst e (cells s) s.length] (.tup [.p (.lst 3 (cells s) s.length),.p (.int .i64 0)]):=by
 have hin:=ris_gi hr
 have heq:=(full_iff hn (covK_spec h hin _ (Nat.le_refl _)).2 fun y hy=>hasK_lt hE hin y _ (Nat.le_refl _) (by rw [← (covK_spec h hin _ (Nat.le_refl _)).2];exact hy)).2 hm
 by_cases h0:0<s.length
 ·have:=irr_spec hc hp hn hL h hl e (rsg_ok hin hr.1 _ 0 rfl) heq hE h0
  rwa [irr_min hco hr hmin _ (Nat.le_refl _)] at this
 ·obtain rfl:s=[]:=List.length_eq_zero_iff.1 (by omega)
  exact irrNil_spec hc hp hn hL h e heq
set_option maxRecDepth 100000 in
set_option maxHeartbeats 8000000 in
theorem covLaws_spec (x:CPlan) (hn:x.n<256) (h:∀ i,i<x.sets.length→(gi x.sets i).els<256∧(gi x.sets i).cost<256) :
 VFun env 8 [.agg (Enc.enc x)] (.p (.bool true)):=by
 refine VFun.enter (env_none (by decide)) Tryd.func8 rfl (by kernel_rfl) (by simp [Tryd.ntmps8]) ?_
 by_cases hbig:x.sets.length>7
 ·repeat' (first
   |apply VWp.assoc
   |apply VWp.rseq
   |apply VWp.retSeq
   |apply VOps.nil
   |apply VOps.one
   |(apply VOps.take;rfl;rfl)
   |(apply VVal.fn;rfl;rfl;exact known_spec;intro _;rfl)
   |(apply VVal.assign;rfl)
   |(apply VVal.move;rfl)
   |(apply VVal.int;rfl;rfl;rfl)
   |(apply VVal.load;rfl;rfl)
   |(apply VVal.pick_false;rfl;rfl)
   |(apply VVal.lenF;rfl;rfl)
   |(apply VVal.fieldB;rfl;rfl;rfl)
   |(apply VVal.box;rfl;trivial)
   |(apply VVal.not;rfl)
   |(apply VWp.condSeq_dec;rfl)
   |(intro _;try (exfalso;omega)))
  all_goals first|(exfalso;omega)|contradiction|((refine Done.ret rfl (.refl _) (by first|exact trivial|exact ⟨trivial,trivial,trivial⟩|exact ⟨trivial,trivial,trivial,trivial⟩) HCov.nil (Nat.zero_le _) (Nat.le_refl _) ⟨?_,rfl,rfl⟩;try rfl);try simp)
 obtain ⟨n,hn8,hnn⟩:∃ n:Nat,n≤7∧(makeM x).n=n:=⟨x.n % 8,by omega,by show (x.n:Int) % 8=_;omega⟩
 have hx:=els_lt hnn
 have hset:=@makeM_set x
 have hsl:=setsM_le x
 have hps:(makeM x).sets=setsM x 7:=rfl
 have hok:=makeM_ok x
 have hmk:=make_spec x (by omega) hn h
 have hels:=makeM_els x
 have hS:=makeM_sorted x
 generalize hp:makeM x=p at *
 have hL:p.sets.length≤7:=by rw [hps];exact hsl
 have hck:=check_spec p (by omega) (fun i hi=>by have:=(hset hi).1;omega)
 rw [hok] at hck
 have hpos:=possible_spec p n hnn hn8 (by omega) hels
 have hfull:=or_full hels hx hn8 p.sets.length
 rw [restL_none (Nat.le_refl _)] at hfull
 by_cases hm:missK p.sets (allL p.sets.length) n=[]
 case neg =>
  rw [decide_eq_false (fun e=>hm (hfull.1 e))] at hpos
  have h1:=solvNone_spec (solveNone_spec hck hpos)
  have h2:=greedyNone_spec hck hpos
  repeat' (first
   |apply VWp.assoc
   |apply VWp.rseq
   |apply VWp.skipSeq
   |apply VWp.retSeq
   |apply VOps.nil
   |apply VOps.one
   |(apply VOps.take;rfl;rfl)
   |(apply VVal.fn;rfl;rfl;exact known_spec;intro _;rfl)
   |(apply VVal.fn;rfl;rfl;exact hmk;intro _;rfl)
   |(apply VVal.fn;rfl;rfl;exact h1;intro _;rfl)
   |(apply VVal.fn;rfl;rfl;exact h2;intro _;rfl)
   |(apply VVal.assign;rfl)
   |(apply VVal.move;rfl)
   |(apply VVal.int;rfl;rfl;rfl)
   |(apply VVal.load;rfl;rfl)
   |(apply VVal.pick_true;rfl;rfl)
   |(apply VVal.pick_false;rfl;rfl)
   |(apply VVal.lenF;rfl;rfl)
   |(apply VVal.fieldB;rfl;rfl;rfl)
   |(apply VVal.box;rfl;trivial)
   |(apply VVal.alloc;rfl)
   |(apply VVal.storeB;rfl;rfl;rfl;trivial;rfl;rfl;exact lt_dec rfl;exact le_dec rfl)
   |(apply VVal.not;rfl)
   |(apply VVal.extract;rfl;rfl)
   |(apply VWp.condSeq_true;rfl)
   |(apply VWp.condSeq_dec;rfl)
   |(intro _;try (exfalso;omega)))
  all_goals first|(exfalso;omega)|contradiction|((refine Done.ret rfl (.refl _) (by first|exact trivial|exact ⟨trivial,trivial,trivial⟩|exact ⟨trivial,trivial,trivial,trivial⟩) HCov.nil (Nat.zero_le _) (Nat.le_refl _) ⟨?_,rfl,rfl⟩;try rfl);try simp)
 rw [decide_eq_true (hfull.2 hm)] at hpos
 obtain ⟨W,hW⟩:∃ W,(allK n p.sets (2 ^ p.sets.length)).1=W:=⟨_,rfl⟩
 have hco:=fun i hi=>(hset (i:=i) hi).2.2.1
 obtain ⟨least,l1,l2,l3,l4,l5,l6⟩:=least_all hL hco hm hW
 clear hW
 obtain ⟨m1,m2,m3⟩:=l5 0 l3
 have hsv:=solve_spec p n hnn hn8 hL hels hS hx hck hpos
 rw [l1,l2] at hsv
 have h1:=solv_spec p n hnn hn8 hL hels hS hx least (gi W 0) W.tail hsv l6 m1
 have hAl:=ris_len m1
 clear l1 l2 l5 hsv
 obtain ⟨J,hJn,hJ,hJl⟩:=rounds hn8 hm
 have hG:=take_sort hn8 hm hJl
 have hgr:=greedy_spec hck hnn hn8 (by omega) hels hm hpos hJn hJ hJl _ hG
 have hgr:VFun env 28 [.agg (Enc.enc p)] (.tup [.p (.lst 3 (cells (outK (takeK p.sets n J) p.sets.length)) (outK (takeK p.sets n J) p.sets.length).length),.p (.int .i64 0)]):=hgr
 have hgc:=out_cvr hn8 hm hJ hJl
 have hgl:(outK (takeK p.sets n J) p.sets.length).length≤p.sets.length:=outK_len _ _
 clear hG hJ hJl
 generalize outK (takeK p.sets n J) p.sets.length=G at *
 have hge:least≤costK p.sets G G.length:=l6 G hgc
 have hgb:=(costK_bd (L:=p.sets) (fun i hi=>by have:=(hset hi).2.2;omega) (ris_gi hgc.1) G.length (Nat.le_refl _))
 have hcg:=cost_spec hck hnn hn8 (by omega) hels (by omega) 3 (rsg_ok (ris_gi hgc.1) hgc.1.1 _ 0 rfl)
 have hes:=essential_spec hck n hnn hn8 (by omega) hels hpos
 have hel:=essK_len p.sets n p.sets.length
 have hein:=fun B hB=>@ess_in p.sets n hels hx hn8 B hB
 generalize essK p.sets n p.sets.length=ES at *
 repeat' (first
  |apply VWp.assoc
  |apply VWp.rseq
  |apply VWp.skipSeq
  |apply VOps.nil
  |apply VOps.one
  |(apply VOps.take;rfl;rfl)
  |(apply VVal.fn;rfl;rfl;exact known_spec;intro _;rfl)
  |(apply VVal.fn;rfl;rfl;exact hmk;intro _;rfl)
  |(apply VVal.assign;rfl)
  |(apply VVal.move;rfl)
  |(apply VVal.int;rfl;rfl;rfl)
  |(apply VVal.load;rfl;rfl)
  |(apply VVal.pick_false;rfl;rfl)
  |(apply VVal.lenF;rfl;rfl)
  |(apply VVal.fieldB;rfl;rfl;rfl)
  |(apply VVal.box;rfl;trivial)
  |(apply VVal.alloc;rfl)
  |(apply VVal.storeB;rfl;rfl;rfl;trivial;rfl;rfl;exact lt_dec rfl;exact le_dec rfl)
  |(apply VVal.not;rfl)
  |(apply VWp.condSeq_dec;rfl)
  |(intro _;try (exfalso;omega)))
 (apply VVal.call0 (hc:=h1);rfl;rfl;exact .of_eq rfl)
 rintro r H' nx' ⟨⟨T,t1,t2,rfl⟩,rfl,rfl⟩
 have hlaw:=tree_law T t1
 have hTl:=T.flat_len 0
 have hTw:∀ i,i<(T.flat 0).length→(gi (T.flat 0) i).ws.length≤n:=fun i hi=>tree_ws T 0 _ t1 _ (gi_mem hi)
 generalize T.flat 0=N at *
 generalize hcc:(⟨gi W 0,least,N⟩:CCover)=c at *
 have c1:c.sets=gi W 0:=by rw [← hcc]
 have c2:c.cost=least:=by rw [← hcc]
 have c3:c.proof=N:=by rw [← hcc]
 clear hcc
 subst c3 c2
 rw [← c1] at m1 m2 m3 hAl
 have hirr:=irrMin_spec hck hnn hn8 (by omega) hels hx hco (by omega) m1 m2 (fun B hB=>by rw [m3];exact l6 B hB) 3
 have hsm:=same_refl 3 3 c.sets (by omega)
 have hve:=verify_spec p n hck hnn hn8 hL hels hx c (by omega) (by omega) (fun i hi=>by have:=hTw i hi;omega)
 rw [ver_ok hn8 hels hx m1 m2 m3 hlaw] at hve
 have hve2:=verify_spec p n hck hnn hn8 hL hels hx ⟨c.sets,c.cost-1,c.proof⟩ (by show c.sets.length<1000;omega) (by show c.proof.length<1000;omega) (fun i hi=>by have:=hTw i hi;show (gi c.proof i).ws.length<1000;omega)
 rw [ver_no (c:=⟨c.sets,c.cost-1,c.proof⟩) hn8 hels hx m1 m2 (by show cst p.sets c.sets≠c.cost-1;omega)] at hve2
 have hcb:=(costK_bd (L:=p.sets) (fun i hi=>by have:=(hset hi).2.2;omega) (ris_gi m1) c.sets.length (Nat.le_refl _))
 have m4:costK p.sets c.sets c.sets.length=c.cost:=m3
 have hin:=fun i (hi:i<ES.length)=>hein c.sets ⟨m1,m2⟩ (gi_mem hi)
 clear l6 hx hset hels hS hein
 repeat' (first
  |apply VWp.assoc
  |apply VWp.rseq
  |apply VWp.skipSeq
  |apply VWp.blockSeq
  |apply VOps.nil
  |apply VOps.one
  |(apply VOps.take;rfl;rfl)
  |(apply VOps.guard;rfl;rfl)
  |(apply VVal.fn;rfl;rfl;exact hes;intro _;rfl)
  |(apply VVal.fn;rfl;rfl;exact hgr;intro _;rfl)
  |(apply VVal.fn;rfl;rfl;exact hcg;intro _;rfl)
  |(apply VVal.fn;rfl;rfl;exact hirr;intro _;rfl)
  |(apply VVal.fn;rfl;rfl;exact hve;intro _;rfl)
  |(apply VVal.fn;rfl;rfl;exact hsm;intro _;rfl)
  |(apply VVal.assign;rfl)
  |(apply VVal.move;rfl)
  |(apply VVal.int;rfl;rfl;rfl)
  |(apply VVal.load;rfl;rfl)
  |(apply VVal.pick_false;rfl;rfl)
  |(apply VVal.lenF;rfl;rfl)
  |(apply VVal.fieldB;rfl;rfl;rfl)
  |(apply VVal.alloc;rfl)
  |(apply VVal.storeB;rfl;rfl;rfl;trivial;rfl;rfl;exact lt_dec rfl;exact le_dec rfl)
  |(apply VVal.not;rfl)
  |(apply VVal.extract;rfl;rfl)
  |(apply VWp.condSeq_false;rfl)
  |(intro _;try (exfalso;omega)))
 all_goals try (exfalso;omega)
 all_goals try contradiction
 apply VWp.loopR (ES.length) [(3,_),(4,_),(103,_),(104,_)] [(1,_),(2,_)] (fun k r=>(105,.p (.int .i64 (k:Int)))::r) (fun k r=>r) 3
 ·omega
 ·omega
 ·repeat (first|exact LCov.nil|(refine LCov.eq rfl ?_ ?_;(first|exact PV.under_of rfl|(simp [PV.under,PVs.under];done)))|refine LCov.cons trivial rfl (.of_eq (lst_len (by simp<;>omega))) ?_)
 ·repeat (first|exact HCov.nil|(refine HCov.eq rfl (lt_dec rfl) ?_ ?_;(first|exact HB.under_of rfl|exact PVs.under_pure _ _|(simp [HB.under,PVs.under,PV.under];done)))|(refine HCov.cons (lt_dec rfl) ?_ rfl ?_ ?_;(first|exact trivial|exact PVs.under_pure _ _|(simp [HB.under,PVs.under,PV.under]));(first|exact HLe.refl _|exact HLe.vec (FLes.refl _) (by simp))))
 ·intro k hk
  have hh:=has_spec 3 c.sets (gi ES k) (by omega)
  rw [decide_eq_true (hin k hk)] at hh
  repeat' (first
   |apply VWp.rseq
   |apply VWp.region
   |apply VWp.skipSeq
   |apply VWp.blockSeq
   |apply QSeq.normal
   |apply QBlk.normal
   |apply VWp.skip
   |apply VOps.nil
   |apply VOps.one
   |(apply VVal.fn;rfl;rfl;exact hh;intro _;rfl)
   |(apply VVal.assign;rfl)
   |(apply VVal.move;rfl)
   |(apply VVal.add64;rfl;rfl;omega)
   |(apply VVal.int;rfl;rfl;rfl)
   |(apply VVal.indexN;rfl;rfl;rfl;omega;rfl)
   |(apply VVal.load;rfl;rfl)
   |(apply VVal.fieldB;rfl;rfl;rfl)
   |(apply VVal.not;rfl)
   |(apply VWp.condSeq_dec;rfl)
   |(apply VWp.cond_false;rfl)
   |(intro _;try (exfalso;omega)))
  all_goals try (exfalso;omega)
  all_goals try contradiction
  refine QLoop.normal ⟨by omega,?_,?_⟩
  ·repeat (first|exact LCov.nil|refine LCov.same trivial rfl ?_|refine LCov.same (lt_dec rfl) rfl ?_|refine LCov.same ⟨trivial,lt_dec rfl,trivial⟩ rfl ?_|refine LCov.same ⟨trivial,lt_dec rfl,lt_dec rfl,trivial⟩ rfl ?_|refine LCov.same ⟨trivial,lt_dec rfl,lt_dec rfl,lt_dec rfl,trivial⟩ rfl ?_|refine LCov.same ⟨trivial,trivial⟩ rfl ?_|refine LCov.cons trivial rfl (.of_eq (lst_len (by simp<;>omega))) ?_)
  ·repeat (first|exact HCov.nil|(refine HCov.cons (lt_dec rfl) ?_ rfl ?_ ?_;(first|exact HB.under_of rfl|exact PVs.under_pure _ _|(simp [HB.under,PVs.under,PV.under]));(first|exact HLe.refl _|exact HLe.vec (FLes.refl _) (by simp))))
 ·repeat' (first
   |apply VWp.rseq
   |apply VWp.exitSeq
   |apply QSeq.normal
   |apply QBlk.exit
   |apply QLoop.exit
   |apply VWp.ret
   |apply VOps.nil
   |apply VOps.one
   |(apply VVal.fn;rfl;rfl;exact hve2;intro _;rfl)
   |(apply VVal.assign;rfl)
   |(apply VVal.sub64;rfl;rfl;omega)
   |(apply VVal.int;rfl;rfl;rfl)
   |(apply VVal.load;rfl;rfl)
   |(apply VVal.fieldB;rfl;rfl;rfl)
   |(apply VVal.storeB;rfl;rfl;rfl;trivial;rfl;rfl;exact lt_dec rfl;exact le_dec rfl)
   |(apply VWp.condSeq_dec;rfl)
   |(intro _;try (exfalso;omega)))
  all_goals first|(exfalso;omega)|contradiction|((refine Done.ret rfl (.refl _) (by first|exact trivial|exact ⟨trivial,trivial,trivial⟩|exact ⟨trivial,trivial,trivial,trivial⟩) HCov.nil (Nat.zero_le _) (Nat.le_refl _) ⟨?_,rfl,rfl⟩;try rfl);try simp)
end Go.Proofs.YtmfnchgkffhpfaaDoor
