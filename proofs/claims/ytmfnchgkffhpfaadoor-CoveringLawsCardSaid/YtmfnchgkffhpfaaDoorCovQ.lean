/-
  The law of coverings: CoveringGreedy. Conditions: in each statement.
-/
import Derived.Test.YtmfnchgkffhpfaaDoorCovP
import Derived.Test.YtmfnchgkffhpfaaDoorCovM
set_option linter.unusedSimpArgs false
set_option linter.unusedVariables false
set_option linter.unusedSectionVars false
namespace Go.Proofs.YtmfnchgkffhpfaaDoor
open Go Go.Am Go.Vm
attribute [local irreducible] VVal VOps VOpsD VWp VCalls VFun VFunV QSeq QBlk QLoop Vm.Done DoneV DoneI
theorem els_lt {x:CPlan} {n:Nat} (hn:(makeM x).n=n):∀ i,i<(makeM x).sets.length→∀ j,j<(gi (makeM x).sets i).els.length→0≤gi (gi (makeM x).sets i).els j∧gi (gi (makeM x).sets i).els j<n:=fun i hi j hj=>by
 have:=(makeM_set x hi).2.1 j hj
 have hpn:(makeM x).n=(x.n:Int) % 8:=rfl
 omega
theorem or_full {L:List CSet} {n:Nat} (h:ElsOk L) (hx:∀ i,i<L.length→∀ j,j<(gi L i).els.length→0≤gi (gi L i).els j∧gi (gi L i).els j<n) (hn:n≤7) (i:Nat):orK L i L.length=2 ^ n-1↔missK L (restL L.length i) n=[] :=
 full_iff hn (orK_rest h i) fun y hy=>hasK_lt hx restL_in y _ (Nat.le_refl _) (by rw [← orK_rest h i];exact hy)
theorem rest_take {m i j:Nat} (hj:j≤m):((allL m).take j).filter (fun x=>decide (x≠(i:Int)))=restL j i:=by rw [allL_take hj];rfl
theorem restL_succ (i k:Nat):restL (k+1) i=if k=i then restL k i else restL k i++[(k:Int)]:=by
 unfold restL
 rw [allL_succ,List.filter_append]
 by_cases h:k=i
 ·rw [if_pos h];simp [h]
 ·rw [if_neg h]
  have:¬ (k:Int)=i:=by omega
  simp [this]
theorem restL_len (m i:Nat):(restL m i).length≤m:=by
 have:=List.length_filter_le (fun x:Int=>decide (x≠(i:Int))) (allL m)
 rw [allL_len] at this
 exact this
set_option maxRecDepth 100000 in
set_option maxHeartbeats 4000000 in
theorem covGreedy_spec (x:CPlan) (hn:x.n<256) (h:∀ i,i<x.sets.length→(gi x.sets i).els<256∧(gi x.sets i).cost<256) :
 VFun env 7 [.agg (Enc.enc x)] (.p (.bool true)):=by
 refine VFun.enter (env_none (by decide)) Tryd.func7 rfl (by kernel_rfl) (by simp [Tryd.ntmps7]) ?_
 by_cases hbig:x.sets.length>7
 ·repeat' (first
   |apply VWp.assoc
   |apply VWp.rseq
   |apply VWp.retSeq
   |apply VOps.nil
   |apply VOps.one
   |(apply VOps.take;rfl;rfl)
   |(apply VVal.fn;rfl;rfl;exact known_spec;intro _;rfl)
   |(apply VVal.assign;rfl)
   |(apply VVal.move;rfl)
   |(apply VVal.int;rfl;rfl;rfl)
   |(apply VVal.load;rfl;rfl)
   |(apply VVal.pick_false;rfl;rfl)
   |(apply VVal.lenF;rfl;rfl)
   |(apply VVal.fieldB;rfl;rfl;rfl)
   |(apply VVal.box;rfl;trivial)
   |(apply VVal.not;rfl)
   |(apply VWp.condSeq_dec;rfl)
   |(intro _;try (exfalso;omega)))
  all_goals first|(exfalso;omega)|contradiction|((refine Done.ret rfl (.refl _) (by first|exact trivial|exact ⟨trivial,trivial,trivial⟩|exact ⟨trivial,trivial,trivial,trivial⟩) HCov.nil (Nat.zero_le _) (Nat.le_refl _) ⟨?_,rfl,rfl⟩;try rfl);try simp)
 obtain ⟨n,hn8,hnn⟩:∃ n:Nat,n≤7∧(makeM x).n=n:=⟨x.n % 8,by omega,by show (x.n:Int) % 8=_;omega⟩
 have hx:=els_lt hnn
 have hset:=@makeM_set x
 have hsl:=setsM_le x
 have hps:(makeM x).sets=setsM x 7:=rfl
 have hok:=makeM_ok x
 have hmk:=make_spec x (by omega) hn h
 have hels:=makeM_els x
 generalize hp:makeM x=p at *
 have hL:p.sets.length≤7:=by rw [hps];exact hsl
 have hck:=check_spec p (by omega) (fun i hi=>by have:=(hset hi).1;omega)
 rw [hok] at hck
 have hpos:=possible_spec p n hnn hn8 (by omega) hels
 have hst:=sets_spec p (by omega)
 have hal:=lall_spec p (by omega)
 have hall:=allL_len p.sets.length
 have hallin:∀ i,i<(allL p.sets.length).length→0≤gi (allL p.sets.length) i∧gi (allL p.sets.length) i<p.sets.length:=fun i hi=>by rw [hall] at hi;rw [allL_gi hi];omega
 have hmi:=rmissing_spec 72 3 n p.sets (allL p.sets.length) (by omega) (by omega) (by omega) (fun i hi=>by have:=(hset hi).1;omega) hallin
 have hml:=missK_len p.sets (allL p.sets.length) n
 have hfull:=or_full hels hx hn8 p.sets.length
 rw [restL_none (Nat.le_refl _)] at hfull
 rw [← hnn] at hmi
 by_cases hm:missK p.sets (allL p.sets.length) n=[]
 case neg =>
  rw [decide_eq_false (fun e=>hm (hfull.1 e))] at hpos
  have h1:=greedyNone_spec hck hpos
  have h2:=essentialNone_spec hck hpos
  have hlen:0<(missK p.sets (allL p.sets.length) n).length:=List.length_pos_iff.2 hm
  repeat' (first
   |(refine VWp.at 7 ?_;refine VWp.ghost (Ghost.freeze 8 rfl rfl) ?_;first|apply VWp.rseq|apply VWp.rseqD)
   |(refine VOpsD.atOp 42 ?_;refine VOpsD.ghost (Ghost.freeze 41 rfl rfl) ?_)
   |apply VWp.assoc
   |apply VWp.rseq
   |apply VWp.skipSeq
   |apply VWp.retSeq
   |apply VOps.nil
   |apply VOpsD.nil
   |apply VOps.one
   |(apply VOpsD.bar;decide +kernel)
   |apply VOpsD.quiet
   |(apply VOps.take;rfl;rfl)
   |(apply VVal.fn;rfl;rfl;exact known_spec;intro _;rfl)
   |(apply VVal.fn;rfl;rfl;exact hmk;intro _;rfl)
   |(apply VVal.fn;rfl;rfl;exact h1;intro _;rfl)
   |(apply VVal.fn;rfl;rfl;exact h2;intro _;rfl)
   |(apply VVal.fv;rfl;rfl;exact hst)
   |(apply VVal.fv;rfl;rfl;exact hal)
   |(apply VVal.fv;rfl;rfl;exact hmi)
   |(apply VVal.assign;rfl)
   |(apply VVal.move;rfl)
   |(apply VVal.add64;rfl;rfl;omega)
   |(apply VVal.int;rfl;rfl;rfl)
   |(apply VVal.load;rfl;rfl)
   |(apply VVal.pick_true;rfl;rfl)
   |(apply VVal.pick_false;rfl;rfl)
   |(apply VVal.lenF;rfl;rfl)
   |(apply VVal.lenNil;rfl;rfl)
   |(apply VVal.lenV;rfl;rfl;rfl)
   |(apply VVal.fieldB;rfl;rfl;rfl)
   |(apply VVal.box;rfl;trivial)
   |(apply VVal.alloc;rfl)
   |(apply VVal.storeB;rfl;rfl;rfl;trivial;rfl;rfl;exact lt_dec rfl;exact le_dec rfl)
   |(apply VVal.not;rfl)
   |(apply VVal.extract;rfl;rfl)
   |(apply VWp.condSeq_dec;rfl)
   |(intro _;try (exfalso;omega)))
  all_goals first|(exfalso;omega)|contradiction|((refine Done.ret rfl (.refl _) (by first|exact trivial|exact ⟨trivial,trivial,trivial⟩|exact ⟨trivial,trivial,trivial,trivial⟩) HCov.nil (Nat.zero_le _) (Nat.le_refl _) ⟨?_,rfl,rfl⟩;try rfl);try simp)
 rw [decide_eq_true (hfull.2 hm)] at hpos
 obtain ⟨J,hJn,hJ,hJl⟩:=rounds hn8 hm
 have hG:=take_sort hn8 hm hJl
 have h1:=greedy_spec hck hnn hn8 (by omega) hels hm hpos hJn hJ hJl _ hG
 have h2:=essential_spec hck n hnn hn8 (by omega) hels hpos
 have h3:=rgreedy_spec 72 hn8 (by omega) hels hm hJn hJ hJl
 rw [← hnn] at h3
 have ho1:(outK (takeK p.sets n J) p.sets.length).length≤p.sets.length:=outK_len _ _
 have ho2:=essK_len p.sets n p.sets.length
 have hsm1:=same_refl 3 3 (outK (takeK p.sets n J) p.sets.length) (by omega)
 have hsm2:=same_refl 3 3 (essK p.sets n p.sets.length) (by omega)
 have h1:VFun env 28 [.agg (Enc.enc p)] (.tup [.p (.lst 3 (cells (outK (takeK p.sets n J) p.sets.length)) (outK (takeK p.sets n J) p.sets.length).length),.p (.int .i64 0)]):=h1
 generalize outK (takeK p.sets n J) p.sets.length=G at *
 rw [hm] at hmi hml
 have hrin:=@restL_in p.sets.length
 have hrl:=restL_len p.sets.length
 have hrm:=fun i=>rmissing_spec 72 3 n p.sets (restL p.sets.length i) (by omega) (by omega) (by have:=hrl i;omega) (fun i hi=>by have:=(hset hi).1;omega) (@hrin i)
 have hof:=or_full hels hx hn8
 have hes:=essK_succ p.sets n
 have hel:=essK_len p.sets n
 repeat' (first
  |(refine VWp.at 7 ?_;refine VWp.ghost (Ghost.freeze 8 rfl rfl) ?_;first|apply VWp.rseq|apply VWp.rseqD)
  |(refine VOpsD.atOp 42 ?_;refine VOpsD.ghost (Ghost.freeze 41 rfl rfl) ?_)
  |apply VWp.assoc
  |apply VWp.rseq
  |apply VWp.skipSeq
  |apply VWp.blockSeq
  |apply VOps.nil
  |apply VOpsD.nil
  |apply VOps.one
  |(apply VOpsD.bar;decide +kernel)
  |apply VOpsD.quiet
  |(apply VOps.take;rfl;rfl)
  |(apply VVal.fn;rfl;rfl;exact known_spec;intro _;rfl)
  |(apply VVal.fn;rfl;rfl;exact hmk;intro _;rfl)
  |(apply VVal.fn;rfl;rfl;exact h1;intro _;rfl)
  |(apply VVal.fn;rfl;rfl;exact h2;intro _;rfl)
  |(apply VVal.fv;rfl;rfl;exact hst)
  |(apply VVal.fv;rfl;rfl;exact hal)
  |(apply VVal.fv;rfl;rfl;exact hmi)
  |(apply VVal.assign;rfl)
  |(apply VVal.move;rfl)
  |(apply VVal.int;rfl;rfl;rfl)
  |(apply VVal.load;rfl;rfl)
  |(apply VVal.pick_false;rfl;rfl)
  |(apply VVal.lenF;rfl;rfl)
  |(apply VVal.lenV;rfl;rfl;rfl)
  |(apply VVal.fieldB;rfl;rfl;rfl)
  |(apply VVal.box;rfl;trivial)
  |(apply VVal.alloc;rfl)
  |(apply VVal.storeB;rfl;rfl;rfl;trivial;rfl;rfl;exact lt_dec rfl;exact le_dec rfl)
  |(apply VVal.not;rfl)
  |(apply VVal.extract;rfl;rfl)
  |(apply VWp.condSeq_false;rfl)
  |(apply VWp.condSeq_dec;rfl)
  |(intro _;try (exfalso;omega)))
 all_goals try (exfalso;omega)
 all_goals try contradiction
 refine VWp.ghost (Ghost.adopt 9 3 rfl) ?_
 apply VWp.loopR (p.sets.length) [(3,_),(4,_),(5,_),(6,_),(7,_),(8,_)] [(1,_)] (fun k r=>(10,.p (.int .i64 (k:Int)))::(9,.vec 5 (essK p.sets n k).length 0 (essK p.sets n k).length)::r) (fun k r=>(5,.vec 3 (cells (essK p.sets n k)) (essK p.sets n k).length true)::r) 6
 ·omega
 ·omega
 ·repeat (first|exact LCov.nil|(refine LCov.eq rfl ?_ ?_;(first|exact PV.under_of rfl|(simp [PV.under,PVs.under];done)))|refine LCov.cons trivial rfl (.of_eq (lst_len (by simp<;>omega))) ?_)
 ·repeat (first|exact HCov.nil|(refine HCov.eq rfl (lt_dec rfl) ?_ ?_;(first|exact HB.under_of rfl|exact PVs.under_pure _ _|(simp [HB.under,PVs.under,PV.under];done)))|(refine HCov.cons (lt_dec rfl) ?_ rfl ?_ ?_;(first|exact trivial|exact PVs.under_pure _ _|(simp [HB.under,PVs.under,PV.under]));(first|exact HLe.refl _|exact HLe.vec (FLes.refl _) (by simp))))
 ·intro i hi
  have hei:=hel i
  have hsi:=hes i
  have hri:=hrm i
  rw [← hnn] at hri
  have hfi:=hof i
  have hmil:=missK_len p.sets (restL p.sets.length i) n
  repeat' (first
   |(refine VOps.atOp 67 ?_;refine VOps.ghost (Ghost.freeze 66 rfl rfl) ?_)
   |apply VWp.assoc
   |apply VWp.rseq
   |apply VWp.skipSeq
   |apply VWp.blockSeq
   |apply VOps.nil
   |apply VOps.one
   |(apply VVal.fv;rfl;rfl;exact hal)
   |(apply VVal.assign;rfl)
   |(apply VVal.move;rfl)
   |(apply VVal.int;rfl;rfl;rfl)
   |(apply VVal.load;rfl;rfl)
   |(apply VVal.lenF;rfl;rfl)
   |(apply VWp.condSeq_dec;rfl)
   |(intro _;try (exfalso;omega)))
  all_goals try (exfalso;omega)
  all_goals try contradiction
  refine VWp.ghost (Ghost.adopt 11 3 rfl) ?_
  apply VWp.loopR (p.sets.length) [(3,_),(4,_),(5,_),(6,_),(7,_),(8,_),(9,_),(10,_),(66,_),(67,_)] [(1,_),(5,_)] (fun k_ r=>(68,.p (.int .i64 (k_:Int)))::(11,.vec 7 (restL k_ i).length 0 (restL k_ i).length)::r) (fun k_ r=>(7,.vec 3 (cells (restL k_ i)) (restL k_ i).length true)::r) 8
  ·omega
  ·omega
  ·repeat (first|exact LCov.nil|(refine LCov.eq rfl ?_ ?_;(first|exact PV.under_of rfl|(simp [PV.under,PVs.under];done)))|refine LCov.cons trivial rfl (.of_eq (lst_len (by simp<;>omega))) ?_)
  ·repeat (first|exact HCov.nil|(refine HCov.eq rfl (lt_dec rfl) ?_ ?_;(first|exact HB.under_of rfl|exact PVs.under_pure _ _|(simp [HB.under,PVs.under,PV.under];done)))|(refine HCov.cons (lt_dec rfl) ?_ rfl ?_ ?_;(first|exact trivial|exact PVs.under_pure _ _|(simp [HB.under,PVs.under,PV.under]));(first|exact HLe.refl _|exact HLe.vec (FLes.refl _) (by simp))))
  ·intro k hk
   have e0:=allL_gi hk
   have e1:=restL_succ i k
   have e3:=restL_len k i
   by_cases hki:k=i
   ·rw [if_pos hki] at e1
    repeat' (first
     |apply VWp.rseq
     |apply VWp.region
     |apply VWp.skipSeq
     |apply VWp.blockSeq
     |apply QSeq.normal
     |apply QBlk.normal
     |apply VWp.skip
     |apply VOps.nil
     |apply VOps.one
     |(apply VVal.assign;rfl)
     |(apply VVal.move;rfl)
     |(apply VVal.add64;rfl;rfl;omega)
     |(apply VVal.int;rfl;rfl;rfl)
     |(apply VVal.indexN;rfl;rfl;rfl;omega;rfl)
     |(apply VVal.load;rfl;rfl)
     |(apply VWp.condSeq_dec;rfl)
     |(apply VWp.cond_dec;rfl)
     |(intro _;try (exfalso;omega)))
    all_goals try (exfalso;omega)
    all_goals try contradiction
    refine QLoop.normal ⟨by omega,?_,?_⟩
    ·try ((try rw [e1]))
     repeat (first|exact LCov.nil|refine LCov.same trivial rfl ?_|refine LCov.same (lt_dec rfl) rfl ?_|refine LCov.same ⟨trivial,lt_dec rfl,trivial⟩ rfl ?_|refine LCov.same ⟨trivial,lt_dec rfl,lt_dec rfl,trivial⟩ rfl ?_|refine LCov.same ⟨trivial,lt_dec rfl,lt_dec rfl,lt_dec rfl,trivial⟩ rfl ?_|refine LCov.same ⟨trivial,trivial⟩ rfl ?_|refine LCov.cons trivial rfl (.of_eq (lst_len (by simp<;>omega))) ?_)
    ·(try rw [e1])
     repeat (first|exact HCov.nil|(refine HCov.cons (lt_dec rfl) ?_ rfl ?_ ?_;(first|exact HB.under_of rfl|exact PVs.under_pure _ _|(simp [HB.under,PVs.under,PV.under]));(first|exact HLe.refl _|exact HLe.vec (FLes.refl _) (by simp))))
   ·rw [if_neg hki,← e0] at e1
    have e2:(restL (k+1) i).length=(restL k i).length+1:=by rw [e1];simp
    repeat' (first
     |apply VWp.rseq
     |apply VWp.region
     |apply VWp.skipSeq
     |apply VWp.blockSeq
     |apply QSeq.normal
     |apply QBlk.normal
     |apply VOps.nil
     |apply VOps.one
     |(apply VVal.append1 (a:=gi (allL p.sets.length) k);rfl;rfl;rfl;rfl;rfl;rfl;rfl;rfl;(intro _ h;cases h);rfl;rfl;rfl;decide;decide;(first|omega|(simp only [List.length_take,List.length_drop,List.length_append,List.length_singleton,List.length_cons,List.length_nil]<;>omega)))
     |(apply VVal.assign;rfl)
     |(apply VVal.move;rfl)
     |(apply VVal.add64;rfl;rfl;omega)
     |(apply VVal.int;rfl;rfl;rfl)
     |(apply VVal.indexN;rfl;rfl;rfl;omega;rfl)
     |(apply VVal.load;rfl;rfl)
     |(apply VVal.buildSlice;rfl;rfl;rfl;decide;rfl;rfl;rfl)
     |(apply VWp.condSeq_dec;rfl)
     |(apply VWp.cond_dec;rfl)
     |(intro _;try (exfalso;omega)))
    all_goals try (exfalso;omega)
    all_goals try contradiction
    refine QLoop.normal ⟨by omega,?_,?_⟩
    ·try ((try rw [e2])<;>(try rw [e1]))
     repeat (first|exact LCov.nil|refine LCov.same trivial rfl ?_|refine LCov.same (lt_dec rfl) rfl ?_|refine LCov.same ⟨trivial,lt_dec rfl,trivial⟩ rfl ?_|refine LCov.same ⟨trivial,lt_dec rfl,lt_dec rfl,trivial⟩ rfl ?_|refine LCov.same ⟨trivial,lt_dec rfl,lt_dec rfl,lt_dec rfl,trivial⟩ rfl ?_|refine LCov.same ⟨trivial,trivial⟩ rfl ?_|refine LCov.cons trivial rfl (.of_eq (lst_len (by simp<;>omega))) ?_)
    ·(try rw [e2])<;>(try rw [e1])
     repeat (first|exact HCov.nil|(refine HCov.cons (lt_dec rfl) ?_ rfl ?_ ?_;(first|exact HB.under_of rfl|exact PVs.under_pure _ _|(simp [HB.under,PVs.under,PV.under]));(first|exact HLe.refl _|exact HLe.vec (FLes.refl _) (by simp))))
  ·by_cases hz:missK p.sets (restL p.sets.length i) n=[]
   ·rw [if_neg (by simpa using hfi.2 hz)] at hsi
    rw [hz] at hri
    repeat' (first
     |(refine VOps.atOp 84 ?_;refine VOps.ghost (Ghost.freeze 83 rfl rfl) ?_)
     |apply VWp.rseq
     |apply VWp.region
     |apply VWp.exitSeq
     |apply QSeq.normal
     |apply QBlk.normal
     |apply QBlk.exit
     |apply QLoop.exit
     |apply VWp.skip
     |apply VOps.nil
     |apply VOps.one
     |(apply VVal.fv;rfl;rfl;exact hri)
     |(apply VVal.assign;rfl)
     |(apply VVal.move;rfl)
     |(apply VVal.add64;rfl;rfl;omega)
     |(apply VVal.int;rfl;rfl;rfl)
     |(apply VVal.load;rfl;rfl)
     |(apply VVal.lenV;rfl;rfl;rfl)
     |(apply VVal.fieldB;rfl;rfl;rfl)
     |(apply VWp.condSeq_dec;rfl)
     |(apply VWp.cond_false;rfl)
     |(intro _;try (exfalso;omega)))
    all_goals try (exfalso;omega)
    all_goals try contradiction
    refine QLoop.normal ⟨by omega,?_,?_⟩
    ·try ((try rw [hsi]))
     repeat (first|exact LCov.nil|refine LCov.same trivial rfl ?_|refine LCov.same (lt_dec rfl) rfl ?_|refine LCov.same ⟨trivial,lt_dec rfl,trivial⟩ rfl ?_|refine LCov.same ⟨trivial,lt_dec rfl,lt_dec rfl,trivial⟩ rfl ?_|refine LCov.same ⟨trivial,lt_dec rfl,lt_dec rfl,lt_dec rfl,trivial⟩ rfl ?_|refine LCov.same ⟨trivial,trivial⟩ rfl ?_|refine LCov.cons trivial rfl (.of_eq (lst_len (by simp<;>omega))) ?_)
    ·(try rw [hsi])
     repeat (first|exact HCov.nil|(refine HCov.cons (lt_dec rfl) ?_ rfl ?_ ?_;(first|exact HB.under_of rfl|exact PVs.under_pure _ _|(simp [HB.under,PVs.under,PV.under]));(first|exact HLe.refl _|exact HLe.vec (FLes.refl _) (by simp))))
   ·rw [if_pos (fun e=>hz (hfi.1 e))] at hsi
    have e2:(essK p.sets n (i+1)).length=(essK p.sets n i).length+1:=by rw [hsi];simp
    have hmp:0<(missK p.sets (restL p.sets.length i) n).length:=List.length_pos_iff.2 hz
    repeat' (first
     |(refine VOps.atOp 84 ?_;refine VOps.ghost (Ghost.freeze 83 rfl rfl) ?_)
     |apply VWp.rseq
     |apply VWp.region
     |apply VWp.exitSeq
     |apply QSeq.normal
     |apply QBlk.normal
     |apply QBlk.exit
     |apply QLoop.exit
     |apply VOps.nil
     |apply VOps.one
     |(apply VVal.fv;rfl;rfl;exact hri)
     |(apply VVal.append1 (a:=(i:Int));rfl;rfl;rfl;rfl;rfl;rfl;rfl;rfl;(intro _ h;cases h);rfl;rfl;rfl;decide;decide;(first|omega|(simp only [List.length_take,List.length_drop,List.length_append,List.length_singleton,List.length_cons,List.length_nil]<;>omega)))
     |(apply VVal.assign;rfl)
     |(apply VVal.move;rfl)
     |(apply VVal.add64;rfl;rfl;omega)
     |(apply VVal.int;rfl;rfl;rfl)
     |(apply VVal.load;rfl;rfl)
     |(apply VVal.lenV;rfl;rfl;rfl)
     |(apply VVal.fieldB;rfl;rfl;rfl)
     |(apply VVal.buildSlice;rfl;rfl;rfl;decide;rfl;rfl;rfl)
     |(apply VWp.condSeq_dec;rfl)
     |(apply VWp.cond_dec;rfl)
     |(intro _;try (exfalso;omega)))
    all_goals try (exfalso;omega)
    all_goals try contradiction
    refine QLoop.normal ⟨by omega,?_,?_⟩
    ·try ((try rw [e2])<;>(try rw [hsi]))
     repeat (first|exact LCov.nil|refine LCov.same trivial rfl ?_|refine LCov.same (lt_dec rfl) rfl ?_|refine LCov.same ⟨trivial,lt_dec rfl,trivial⟩ rfl ?_|refine LCov.same ⟨trivial,lt_dec rfl,lt_dec rfl,trivial⟩ rfl ?_|refine LCov.same ⟨trivial,lt_dec rfl,lt_dec rfl,lt_dec rfl,trivial⟩ rfl ?_|refine LCov.same ⟨trivial,trivial⟩ rfl ?_|refine LCov.cons trivial rfl (.of_eq (lst_len (by simp<;>omega))) ?_)
    ·(try rw [e2])<;>(try rw [hsi])
     repeat (first|exact HCov.nil|(refine HCov.cons (lt_dec rfl) ?_ rfl ?_ ?_;(first|exact HB.under_of rfl|exact PVs.under_pure _ _|(simp [HB.under,PVs.under,PV.under]));(first|exact HLe.refl _|exact HLe.vec (FLes.refl _) (by simp))))
 ·repeat' (first
   |(refine VWp.at 22 ?_;refine VWp.ghost (Ghost.freeze 9 rfl rfl) ?_;first|apply VWp.rseq|apply VWp.rseqD)
   |(refine VOps.atOp 103 ?_;refine VOps.ghost (Ghost.freeze 102 rfl rfl) ?_)
   |apply VWp.assoc
   |apply VWp.rseq
   |apply VWp.exitSeq
   |apply QSeq.normal
   |apply QBlk.exit
   |apply QLoop.exit
   |apply VWp.ret
   |apply VOps.nil
   |apply VOps.one
   |(apply VOps.take;rfl;rfl)
   |(apply VVal.fv;rfl;rfl;exact h3)
   |(apply VVal.fn;rfl;rfl;exact hsm1;intro _;rfl)
   |(apply VVal.fn;rfl;rfl;exact hsm2;intro _;rfl)
   |(apply VVal.assign;rfl)
   |(apply VVal.move;rfl)
   |(apply VVal.int;rfl;rfl;rfl)
   |(apply VVal.load;rfl;rfl)
   |(apply VVal.pick_true;rfl;rfl)
   |(apply VVal.lenF;rfl;rfl)
   |(apply VVal.fieldB;rfl;rfl;rfl)
   |(apply VWp.condSeq_dec;rfl)
   |(intro _;try (exfalso;omega)))
  all_goals first|(exfalso;omega)|contradiction|((refine Done.ret rfl (.refl _) (by first|exact trivial|exact ⟨trivial,trivial,trivial⟩|exact ⟨trivial,trivial,trivial,trivial⟩) HCov.nil (Nat.zero_le _) (Nat.le_refl _) ⟨?_,rfl,rfl⟩;try rfl);try simp)
end Go.Proofs.YtmfnchgkffhpfaaDoor
