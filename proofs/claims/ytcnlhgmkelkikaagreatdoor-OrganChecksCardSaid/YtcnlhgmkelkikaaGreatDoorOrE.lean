/-
  Organs: what the layer's Check and division compute. Conditions: in each statement.
-/
import Derived.Test.YtcnlhgmkelkikaaGreatDoorOrD
set_option linter.unusedSimpArgs false
set_option linter.unusedVariables false
namespace Go.Proofs.YtcnlhgmkelkikaaGreatDoor
open Go Go.Am Go.Vm
attribute [local irreducible] VVal VOps VOpsD VWp VCalls VFun VFunV QSeq QBlk QLoop Vm.Done DoneV DoneI
attribute [local irreducible] rchk windsE stoE dvsE cplE
theorem names_snoc {α:Type} [Inhabited α] (f:α→List UInt8) {l:List α} {k:Nat} (hk:k<l.length):(l.take (k+1)).map f=(l.take k).map f++[f (gi l k)]:=by
 rw [take_succ_gi hk,List.map_append];rfl
theorem inl_AG {L:Vm.Frame} {H:Vm.Heap} {nx:Nat} {Q:PV→Vm.Heap→Nat→Prop} {dst:Option Tmp} {ty:TypeId} {pos:String} {af:Array Edge} {gd:Option (Nat×Bool)} {fo:Operand} {args:Array Operand} {aT:Array TypeId} {fs cs xs:List PV} {c:Code}
 (hf:vev env.Γ L fo=some (.clo 81 fs cs)) (ha:evs env.Γ L args.toList=some xs) (hb:Tryz.f81.body=some c) (hn:(fs++xs++cs).length≤Tryz.f81.ntmps)
 (h:VWp env nx c (argFrame 0 (fs++xs++cs)) H nx (DoneI env.P Tryz.f81.results.toList Q)):VVal env true ⟨dst,.call { callee:=.value fo,args:=args,argTypes:=aT },ty,pos,af,gd⟩ L H nx Q:=by
 have h0:(match Tryz.f81.body with|some c=>fnOk env.G Tryz.f81 c|none=>false)=true:=by kernel_rfl
 rw [hb] at h0
 exact VVal.inline rfl hf ha (env_none (by decide)) Tryz.func81 hb h0 hn h
set_option maxRecDepth 100000 in
set_option maxHeartbeats 2000000 in
theorem division_spec (o:Org) (d:Dvs) (ho:OrgSm o) (hd:DvsSm d):VFun env 82 [.agg (Enc.enc o),.agg (Enc.enc d)] (.p (.int .i64 (dvsE o.ranks d))):=by
 have hc:=cmp_spec d.lo d.hi
 obtain ⟨d1,d2,d3⟩:=hd
 unfold dvsE
 refine VFun.enter (env_none (by decide)) Tryz.func82 rfl (by kernel_rfl) (by simp [Tryz.ntmps82]) ?_
 by_cases h0:cmpE d.lo d.hi=0
 case neg =>
  rw [if_pos h0]
  repeat' (first
   |apply VWp.assoc
   |apply VWp.rseq
   |apply VWp.retSeq
   |apply VOps.nil
   |apply VOps.one
   |(apply VVal.fn;rfl;rfl;exact hc;intro _;rfl)
   |(apply VVal.assign;rfl)
   |(apply VVal.move;rfl)
   |(apply VVal.int;rfl;rfl;rfl)
   |(apply VVal.load;rfl;rfl)
   |(apply VVal.fieldB;rfl;rfl;rfl)
   |(apply VVal.box;rfl;trivial)
   |(apply VWp.condSeq_dec;rfl)
   |(intro _;try (exfalso;omega)))
  all_goals first|(exfalso;omega)|(refine Done.ret rfl (.refl _) (by first|exact trivial|exact ⟨trivial,trivial,trivial⟩|exact ⟨trivial,trivial,trivial,trivial⟩) HCov.nil (Nat.zero_le _) (Nat.le_refl _) ⟨?_,rfl,rfl⟩;try rfl)
 rw [h0] at hc ⊢
 rw [if_neg (by decide)]
 repeat' (first
  |apply VWp.assoc
  |apply VWp.rseq
  |apply VWp.skipSeq
  |apply VWp.retSeq
  |apply VWp.blockSeq
  |apply VOps.nil
  |apply VOps.one
  |(apply VVal.fn;rfl;rfl;exact hc;intro _;rfl)
  |(apply VVal.makeMap)
  |(apply VVal.assign;rfl)
  |(apply VVal.move;rfl)
  |(apply VVal.int;rfl;rfl;rfl)
  |(apply VVal.load;rfl;rfl)
  |(apply VVal.lenF;rfl;rfl)
  |(apply VVal.fieldB;rfl;rfl;rfl)
  |(apply VVal.box;rfl;trivial)
  |(apply VWp.condSeq_false;rfl)
  |(apply VWp.condSeq_dec;rfl)
  |(intro _;try (exfalso;omega)))
 all_goals try contradiction
 ·rw [if_pos (by omega)];(refine Done.ret rfl (.refl _) (by first|exact trivial|exact ⟨trivial,trivial,trivial⟩|exact ⟨trivial,trivial,trivial,trivial⟩) HCov.nil (Nat.zero_le _) (Nat.le_refl _) ⟨?_,rfl,rfl⟩;try rfl)
 rw [if_neg (by omega)]
 refine VWp.loopQ (fun k:Nat=>[(2,.ref 0 0),(3,.ref 1 0),(6,.mref 2),(23,lst 52 d.stops),(24,.p (.int .i64 (d.stops.length:Int))),(25,.p (.int .i64 (k:Int)))]) (fun k=>[(2,.map (setE ((d.stops.take k).map Stp.name))),(1,.box 49 ((Enc.enc d).map .p)),(0,.box 33 ((Enc.enc o).map .p))]) 3 (fun k=>k≤d.stops.length∧stosE o.ranks d.lo d.hi d.stops k=stosE o.ranks d.lo d.hi d.stops 0) (fun k=>d.stops.length-k) 0 (by omega) ⟨by omega,rfl⟩ ⟨by omega,?_,?_⟩ ?_
 ·repeat (first|exact LCov.nil|refine LCov.same trivial rfl ?_|refine LCov.same (lt_dec rfl) rfl ?_|refine LCov.same ⟨trivial,lt_dec rfl,lt_dec rfl,lt_dec rfl,trivial⟩ rfl ?_|refine LCov.same ⟨trivial,lt_dec rfl,lt_dec rfl,trivial⟩ rfl ?_|refine LCov.same ⟨trivial,trivial⟩ rfl ?_|refine LCov.cons trivial rfl (.of_eq (lst_len (by simp<;>omega))) ?_)
 ·repeat (first|exact HCov.nil|(refine HCov.cons (lt_dec rfl) ?_ rfl ?_ ?_;(first|exact trivial|exact PVs.under_pure _ _|(simp [HB.under,PVs.under,PV.under]));(first|exact HLe.refl _|exact HLe.vec (FLes.refl _) (by simp))))
 rintro k ⟨hk,hE⟩
 rw [← hE]
 by_cases hkl:k<d.stops.length
 case neg =>
  rw [stosE,if_neg hkl]
  repeat' (first
   |apply VWp.rseq
   |apply VWp.exitSeq
   |apply QSeq.normal
   |apply QBlk.exit
   |apply QLoop.exit
   |apply VWp.ret
   |apply VOps.nil
   |apply VOps.one
   |(apply VVal.assign;rfl)
   |(apply VVal.int;rfl;rfl;rfl)
   |(apply VWp.condSeq_dec;rfl)
   |(intro _;try (exfalso;omega)))
  all_goals first|(exfalso;omega)|(refine Done.ret rfl (.refl _) (by first|exact trivial|exact ⟨trivial,trivial,trivial⟩|exact ⟨trivial,trivial,trivial,trivial⟩) HCov.nil (Nat.zero_le _) (Nat.le_refl _) ⟨?_,rfl,rfl⟩;try rfl)
 rw [stosE,if_pos hkl]
 have hst:=stop_spec o.ranks d.lo d.hi (gi d.stops k) ho.ranks ho.rk (d3 k hkl)
 by_cases h1:stoE o.ranks d.lo d.hi (gi d.stops k)=0
 case neg =>
  rw [if_pos h1]
  repeat' (first
   |apply VWp.assoc
   |apply VWp.rseq
   |apply VWp.skipSeq
   |apply VWp.retSeq
   |apply VWp.blockSeq
   |apply QSeq.ret
   |apply QBlk.ret
   |apply QLoop.ret
   |apply VOps.nil
   |apply VOps.one
   |(apply VVal.fn;rfl;rfl;exact hst;intro _;rfl)
   |(apply VVal.assign;rfl)
   |(apply VVal.move;rfl)
   |(apply VVal.int;rfl;rfl;rfl)
   |(apply VVal.indexN;rfl;rfl;rfl;omega;rfl)
   |(apply VVal.load;rfl;rfl)
   |(apply VVal.fieldB;rfl;rfl;rfl)
   |(apply VVal.alloc;rfl)
   |(apply VVal.storeB;rfl;rfl;rfl;trivial;rfl;rfl;exact lt_dec rfl;exact le_dec rfl)
   |(apply VVal.build;rfl;rfl;rfl;rfl;rfl)
   |(apply VWp.condSeq_dec;rfl)
   |(intro _;try (exfalso;omega)))
  all_goals first|(exfalso;omega)|contradiction|(refine Done.ret rfl (.refl _) (by first|exact trivial|exact ⟨trivial,trivial,trivial⟩|exact ⟨trivial,trivial,trivial,trivial⟩) HCov.nil (Nat.zero_le _) (Nat.le_refl _) ⟨?_,rfl,rfl⟩;try rfl)
 rw [h1] at hst ⊢
 rw [if_neg (by decide)]
 by_cases h2:(gi d.stops k).name∈(d.stops.take k).map Stp.name
 ·rw [if_pos h2]
  repeat' (first
   |apply VWp.assoc
   |apply VWp.rseq
   |apply VWp.skipSeq
   |apply VWp.retSeq
   |apply VWp.blockSeq
   |apply QSeq.ret
   |(apply DoneI.ret;rfl)
   |apply QBlk.ret
   |apply QLoop.ret
   |apply VWp.ret
   |apply VOps.nil
   |apply VOps.one
   |(apply VVal.fn;rfl;rfl;exact hst;intro _;rfl)
   |(apply inl_AG;rfl;rfl;rfl;exact le_dec rfl)
   |(apply VVal.lookupSet;rfl;rfl;rfl;rfl;rfl;rfl)
   |(apply VVal.assign;rfl)
   |(apply VVal.move;rfl)
   |(apply VVal.int;rfl;rfl;rfl)
   |(apply VVal.indexN;rfl;rfl;rfl;omega;rfl)
   |(apply VVal.load;rfl;rfl)
   |(apply VVal.fieldB;rfl;rfl;rfl)
   |(apply VVal.alloc;rfl)
   |(apply VVal.storeB;rfl;rfl;rfl;trivial;rfl;rfl;exact lt_dec rfl;exact le_dec rfl)
   |(apply VVal.build;rfl;rfl;rfl;rfl;rfl)
   |(apply VWp.condSeq_false;rfl)
   |(apply VWp.condSeq_dec;rfl)
   |(apply VWp.cond_true;rfl)
   |(intro _;try (exfalso;omega)))
  all_goals first|(exfalso;omega)|contradiction|(refine Done.ret rfl (.refl _) (by first|exact trivial|exact ⟨trivial,trivial,trivial⟩|exact ⟨trivial,trivial,trivial,trivial⟩) HCov.nil (Nat.zero_le _) (Nat.le_refl _) ⟨?_,rfl,rfl⟩;try rfl)
 ·rw [if_neg h2]
  repeat' (first
   |apply VWp.assoc
   |apply VWp.rseq
   |apply VWp.region
   |apply VWp.skipSeq
   |apply VWp.retSeq
   |apply VWp.blockSeq
   |apply QSeq.normal
   |apply QSeq.ret
   |(apply DoneI.ret;rfl)
   |apply QBlk.normal
   |apply QBlk.ret
   |apply QLoop.ret
   |apply VWp.ret
   |apply VWp.skip
   |apply VOps.nil
   |apply VOps.one
   |(apply VVal.fn;rfl;rfl;exact hst;intro _;rfl)
   |(apply inl_AG;rfl;rfl;rfl;exact le_dec rfl)
   |(apply VVal.lookupSet;rfl;rfl;rfl;rfl;rfl;rfl)
   |(apply VVal.addSet;rfl;rfl;rfl;rfl;rfl;rfl;exact h2)
   |(apply VVal.assign;rfl)
   |(apply VVal.move;rfl)
   |(apply VVal.add64;rfl;rfl;omega)
   |(apply VVal.int;rfl;rfl;rfl)
   |(apply VVal.indexN;rfl;rfl;rfl;omega;rfl)
   |(apply VVal.load;rfl;rfl)
   |(apply VVal.fieldB;rfl;rfl;rfl)
   |(apply VVal.alloc;rfl)
   |(apply VVal.storeB;rfl;rfl;rfl;trivial;rfl;rfl;exact lt_dec rfl;exact le_dec rfl)
   |(apply VVal.build;rfl;rfl;rfl;rfl;rfl)
   |(apply VWp.condSeq_false;rfl)
   |(apply VWp.condSeq_dec;rfl)
   |(apply VWp.cond_true;rfl)
   |(apply VWp.cond_false;rfl)
   |(intro _;try (exfalso;omega)))
  all_goals try (exfalso;omega)
  all_goals try contradiction
  refine QLoop.normal ⟨k+1,⟨by omega,?_⟩,by omega,⟨by omega,?_,?_⟩⟩
  ·first|rfl|(refine Eq.trans ?_ hE;symm;(conv=>lhs;rw [stosE]);rw [if_pos hkl,if_neg (fun h=>h h1),if_neg h2])
  ·repeat (first|exact LCov.nil|refine LCov.same trivial rfl ?_|refine LCov.same (lt_dec rfl) rfl ?_|refine LCov.same ⟨trivial,lt_dec rfl,lt_dec rfl,lt_dec rfl,trivial⟩ rfl ?_|refine LCov.same ⟨trivial,lt_dec rfl,lt_dec rfl,trivial⟩ rfl ?_|refine LCov.same ⟨trivial,trivial⟩ rfl ?_|refine LCov.cons trivial rfl (.of_eq (lst_len (by simp<;>omega))) ?_)
  ·rw [names_snoc Stp.name hkl];repeat (first|exact HCov.nil|(refine HCov.cons (lt_dec rfl) ?_ rfl ?_ ?_;(first|exact trivial|exact PVs.under_pure _ _|(simp [HB.under,PVs.under,PV.under]));(first|exact HLe.refl _|exact HLe.vec (FLes.refl _) (by simp))))
set_option maxRecDepth 100000 in
set_option maxHeartbeats 2000000 in
theorem ocheck_spec (o:Org) (ho:OrgSm o):VFun env 38 [.agg (Enc.enc o)] (.p (.int .i64 (orgE o))):=by
 have hn:=isName_spec o.name (by have:=ho.name;omega)
 have b1:=ho.ranks
 have b2:=ho.divs
 unfold orgE
 refine VFun.enter (env_none (by decide)) Tryz.func38 rfl (by kernel_rfl) (by simp [Tryz.ntmps38]) ?_
 by_cases h0:nameOk o.name
 case neg =>
  rw [if_pos h0]
  rw [decide_eq_false h0] at hn
  repeat' (first
   |apply VWp.rseq
   |apply VWp.blockSeq
   |apply QSeq.ret
   |apply QBlk.ret
   |apply VWp.ret
   |apply VOps.nil
   |apply VOps.one
   |(apply VVal.fn;rfl;rfl;exact hn;intro _;rfl)
   |(apply VVal.assign;rfl)
   |(apply VVal.load;rfl;rfl)
   |(apply VVal.fieldB;rfl;rfl;rfl)
   |(apply VVal.box;rfl;trivial)
   |(apply VVal.not;rfl)
   |(apply VWp.cond_true;rfl))
  all_goals first|(exfalso;omega)|contradiction|(refine Done.ret rfl (.refl _) (by first|exact trivial|exact ⟨trivial,trivial,trivial⟩|exact ⟨trivial,trivial,trivial,trivial⟩) HCov.nil (Nat.zero_le _) (Nat.le_refl _) ⟨?_,rfl,rfl⟩;try rfl)
 rw [if_neg (fun h=>h h0)]
 rw [decide_eq_true h0] at hn
 repeat' (first
  |apply VWp.assoc
  |apply VWp.rseq
  |apply VWp.blockSeq
  |apply QSeq.normal
  |apply QSeq.ret
  |apply QBlk.normal
  |apply QBlk.ret
  |apply VWp.ret
  |apply VWp.skip
  |apply VOps.nil
  |apply VOps.one
  |(apply VVal.fn;rfl;rfl;exact hn;intro _;rfl)
  |(apply VVal.makeMap)
  |(apply VVal.assign;rfl)
  |(apply VVal.move;rfl)
  |(apply VVal.int;rfl;rfl;rfl)
  |(apply VVal.load;rfl;rfl)
  |(apply VVal.lenF;rfl;rfl)
  |(apply VVal.fieldB;rfl;rfl;rfl)
  |(apply VVal.box;rfl;trivial)
  |(apply VVal.not;rfl)
  |(apply VWp.cond_false;rfl)
  |(apply VWp.cond_dec;rfl)
  |(intro _;try (exfalso;omega)))
 all_goals try contradiction
 ·rw [if_pos (by omega)];(refine Done.ret rfl (.refl _) (by first|exact trivial|exact ⟨trivial,trivial,trivial⟩|exact ⟨trivial,trivial,trivial,trivial⟩) HCov.nil (Nat.zero_le _) (Nat.le_refl _) ⟨?_,rfl,rfl⟩;try rfl)
 rw [if_neg (by omega)]
 refine VWp.loopQ (fun k:Nat=>[(1,.ref 0 0),(3,.mref 1),(25,lst 44 o.ranks),(26,.p (.int .i64 (o.ranks.length:Int))),(27,.p (.int .i64 (k:Int)))]) (fun k=>[(1,.map (setE ((o.ranks.take k).map Rnk.name))),(0,.box 33 ((Enc.enc o).map .p))]) 2 (fun k=>k≤o.ranks.length∧rnkE o.ranks k=rnkE o.ranks 0) (fun k=>o.ranks.length-k) 0 (by omega) ⟨by omega,rfl⟩ ⟨by omega,?_,?_⟩ ?_
 ·repeat (first|exact LCov.nil|refine LCov.same trivial rfl ?_|refine LCov.same (lt_dec rfl) rfl ?_|refine LCov.same ⟨trivial,lt_dec rfl,lt_dec rfl,lt_dec rfl,trivial⟩ rfl ?_|refine LCov.same ⟨trivial,lt_dec rfl,lt_dec rfl,trivial⟩ rfl ?_|refine LCov.same ⟨trivial,trivial⟩ rfl ?_|refine LCov.cons trivial rfl (.of_eq (lst_len (by simp<;>omega))) ?_)
 ·repeat (first|exact HCov.nil|(refine HCov.cons (lt_dec rfl) ?_ rfl ?_ ?_;(first|exact trivial|exact PVs.under_pure _ _|(simp [HB.under,PVs.under,PV.under]));(first|exact HLe.refl _|exact HLe.vec (FLes.refl _) (by simp))))
 rintro k ⟨hk,hE⟩
 by_cases hkl:k<o.ranks.length
 ·have hsm:=(ho.rk k hkl).len
  have hc:=rcheck_spec (gi o.ranks k) hsm.1 hsm.2.1 hsm.2.2
  by_cases h1:rchk (gi o.ranks k)=0
  case neg =>
   have e:rnkE o.ranks 0=rchk (gi o.ranks k):=by rw [← hE,rnkE,if_pos hkl,if_pos h1]
   rw [e,if_pos h1]
   repeat' (first
    |apply VWp.assoc
    |apply VWp.rseq
    |apply VWp.skipSeq
    |apply VWp.retSeq
    |apply VWp.blockSeq
    |apply QSeq.ret
    |apply QBlk.ret
    |apply QLoop.ret
    |apply VOps.nil
    |apply VOps.one
    |(apply VVal.fn;rfl;rfl;exact hc;intro _;rfl)
    |(apply VVal.assign;rfl)
    |(apply VVal.move;rfl)
    |(apply VVal.int;rfl;rfl;rfl)
    |(apply VVal.indexN;rfl;rfl;rfl;omega;rfl)
    |(apply VVal.load;rfl;rfl)
    |(apply VVal.alloc;rfl)
    |(apply VVal.storeB;rfl;rfl;rfl;trivial;rfl;rfl;exact lt_dec rfl;exact le_dec rfl)
    |(apply VWp.condSeq_dec;rfl)
    |(intro _;try (exfalso;omega)))
   all_goals first|(exfalso;omega)|contradiction|(refine Done.ret rfl (.refl _) (by first|exact trivial|exact ⟨trivial,trivial,trivial⟩|exact ⟨trivial,trivial,trivial,trivial⟩) HCov.nil (Nat.zero_le _) (Nat.le_refl _) ⟨?_,rfl,rfl⟩;try rfl)
  rw [h1] at hc
  by_cases h2:(gi o.ranks k).name∈(o.ranks.take k).map Rnk.name
  ·have e:rnkE o.ranks 0=9:=by rw [← hE,rnkE,if_pos hkl,if_neg (fun h=>h h1),if_pos h2]
   rw [e,if_pos (by decide)]
   repeat' (first
    |apply VWp.assoc
    |apply VWp.rseq
    |apply VWp.skipSeq
    |apply VWp.retSeq
    |apply VWp.blockSeq
    |apply QSeq.ret
    |(apply DoneI.ret;rfl)
    |apply QBlk.ret
    |apply QLoop.ret
    |apply VWp.ret
    |apply VOps.nil
    |apply VOps.one
    |(apply VVal.fn;rfl;rfl;exact hc;intro _;rfl)
    |(apply inl_AG;rfl;rfl;rfl;exact le_dec rfl)
    |(apply VVal.lookupSet;rfl;rfl;rfl;rfl;rfl;rfl)
    |(apply VVal.assign;rfl)
    |(apply VVal.move;rfl)
    |(apply VVal.int;rfl;rfl;rfl)
    |(apply VVal.indexN;rfl;rfl;rfl;omega;rfl)
    |(apply VVal.load;rfl;rfl)
    |(apply VVal.fieldB;rfl;rfl;rfl)
    |(apply VVal.alloc;rfl)
    |(apply VVal.storeB;rfl;rfl;rfl;trivial;rfl;rfl;exact lt_dec rfl;exact le_dec rfl)
    |(apply VWp.condSeq_false;rfl)
    |(apply VWp.condSeq_dec;rfl)
    |(apply VWp.cond_true;rfl)
    |(intro _;try (exfalso;omega)))
   all_goals first|(exfalso;omega)|contradiction|(refine Done.ret rfl (.refl _) (by first|exact trivial|exact ⟨trivial,trivial,trivial⟩|exact ⟨trivial,trivial,trivial,trivial⟩) HCov.nil (Nat.zero_le _) (Nat.le_refl _) ⟨?_,rfl,rfl⟩;try rfl)
  ·repeat' (first
    |apply VWp.assoc
    |apply VWp.rseq
    |apply VWp.region
    |apply VWp.skipSeq
    |apply VWp.retSeq
    |apply VWp.blockSeq
    |apply QSeq.normal
    |apply QSeq.ret
    |(apply DoneI.ret;rfl)
    |apply QBlk.normal
    |apply QBlk.ret
    |apply QLoop.ret
    |apply VWp.ret
    |apply VWp.skip
    |apply VOps.nil
    |apply VOps.one
    |(apply VVal.fn;rfl;rfl;exact hc;intro _;rfl)
    |(apply inl_AG;rfl;rfl;rfl;exact le_dec rfl)
    |(apply VVal.lookupSet;rfl;rfl;rfl;rfl;rfl;rfl)
    |(apply VVal.addSet;rfl;rfl;rfl;rfl;rfl;rfl;exact h2)
    |(apply VVal.assign;rfl)
    |(apply VVal.move;rfl)
    |(apply VVal.add64;rfl;rfl;omega)
    |(apply VVal.int;rfl;rfl;rfl)
    |(apply VVal.indexN;rfl;rfl;rfl;omega;rfl)
    |(apply VVal.load;rfl;rfl)
    |(apply VVal.fieldB;rfl;rfl;rfl)
    |(apply VVal.alloc;rfl)
    |(apply VVal.storeB;rfl;rfl;rfl;trivial;rfl;rfl;exact lt_dec rfl;exact le_dec rfl)
    |(apply VWp.condSeq_false;rfl)
    |(apply VWp.condSeq_dec;rfl)
    |(apply VWp.cond_true;rfl)
    |(apply VWp.cond_false;rfl)
    |(intro _;try (exfalso;omega)))
   all_goals try (exfalso;omega)
   all_goals try contradiction
   refine QLoop.normal ⟨k+1,⟨by omega,?_⟩,by omega,⟨by omega,?_,?_⟩⟩
   ·first|rfl|(refine Eq.trans ?_ hE;symm;(conv=>lhs;rw [rnkE]);rw [if_pos hkl,if_neg (fun h=>h h1),if_neg h2])
   ·repeat (first|exact LCov.nil|refine LCov.same trivial rfl ?_|refine LCov.same (lt_dec rfl) rfl ?_|refine LCov.same ⟨trivial,lt_dec rfl,lt_dec rfl,lt_dec rfl,trivial⟩ rfl ?_|refine LCov.same ⟨trivial,lt_dec rfl,lt_dec rfl,trivial⟩ rfl ?_|refine LCov.same ⟨trivial,trivial⟩ rfl ?_|refine LCov.cons trivial rfl (.of_eq (lst_len (by simp<;>omega))) ?_)
   ·rw [names_snoc Rnk.name hkl];repeat (first|exact HCov.nil|(refine HCov.cons (lt_dec rfl) ?_ rfl ?_ ?_;(first|exact trivial|exact PVs.under_pure _ _|(simp [HB.under,PVs.under,PV.under]));(first|exact HLe.refl _|exact HLe.vec (FLes.refl _) (by simp))))
 obtain rfl:k=o.ranks.length:=by omega
 have e:rnkE o.ranks 0=0:=by rw [← hE,rnkE,if_neg (by omega)]
 rw [if_neg (fun h=>h e)]
 repeat' (first
  |apply VWp.assoc
  |apply VWp.rseq
  |apply VWp.exitSeq
  |apply VWp.blockSeq
  |apply QSeq.normal
  |apply QSeq.ret
  |apply QBlk.normal
  |apply QBlk.ret
  |apply QBlk.exit
  |apply QLoop.exit
  |apply VWp.ret
  |apply VWp.skip
  |apply VOps.nil
  |apply VOps.one
  |(apply VVal.makeMap)
  |(apply VVal.assign;rfl)
  |(apply VVal.move;rfl)
  |(apply VVal.int;rfl;rfl;rfl)
  |(apply VVal.load;rfl;rfl)
  |(apply VVal.lenF;rfl;rfl)
  |(apply VVal.fieldB;rfl;rfl;rfl)
  |(apply VWp.condSeq_dec;rfl)
  |(apply VWp.cond_dec;rfl)
  |(intro _;try (exfalso;omega)))
 all_goals try (exfalso;omega)
 ·rw [if_pos (by omega)];(refine Done.ret rfl (.refl _) (by first|exact trivial|exact ⟨trivial,trivial,trivial⟩|exact ⟨trivial,trivial,trivial,trivial⟩) HCov.nil (Nat.zero_le _) (Nat.le_refl _) ⟨?_,rfl,rfl⟩;try rfl)
 ·rw [if_neg (by omega),if_pos (by omega)];(refine Done.ret rfl (.refl _) (by first|exact trivial|exact ⟨trivial,trivial,trivial⟩|exact ⟨trivial,trivial,trivial,trivial⟩) HCov.nil (Nat.zero_le _) (Nat.le_refl _) ⟨?_,rfl,rfl⟩;try rfl)
 rw [if_neg (by omega),if_neg (by omega)]
 refine VWp.ghost (Ghost.adopt 8 46 rfl) ?_
 refine VWp.loopQ (fun k:Nat=>[(1,.ref 0 0),(3,.mref 2),(8,.vec 3 ((o.divs.take k).map fun d=>(⟨d.lo,d.hi⟩:Cps)).length 0 ((o.divs.take k).map fun d=>(⟨d.lo,d.hi⟩:Cps)).length),(56,lst 49 o.divs),(57,.p (.int .i64 (o.divs.length:Int))),(58,.p (.int .i64 (k:Int)))]) (fun k=>[(3,.vec 46 (cells ((o.divs.take k).map fun d=>(⟨d.lo,d.hi⟩:Cps))) ((o.divs.take k).map fun d=>(⟨d.lo,d.hi⟩:Cps)).length true),(2,.map (setE ((o.divs.take k).map Dvs.name))),(0,.box 33 ((Enc.enc o).map .p))]) 4 (fun k=>k≤o.divs.length∧divsE o.ranks o.divs k=divsE o.ranks o.divs 0) (fun k=>o.divs.length-k) 0 (by omega) ⟨by omega,rfl⟩ ⟨by omega,?_,?_⟩ ?_
 ·repeat (first|exact LCov.nil|refine LCov.same trivial rfl ?_|refine LCov.same (lt_dec rfl) rfl ?_|refine LCov.same ⟨trivial,lt_dec rfl,lt_dec rfl,lt_dec rfl,trivial⟩ rfl ?_|refine LCov.same ⟨trivial,lt_dec rfl,lt_dec rfl,trivial⟩ rfl ?_|refine LCov.same ⟨trivial,trivial⟩ rfl ?_|refine LCov.cons trivial rfl (.of_eq (lst_len (by simp<;>omega))) ?_)
 ·repeat (first|exact HCov.nil|(refine HCov.cons (lt_dec rfl) ?_ rfl ?_ ?_;(first|exact trivial|exact PVs.under_pure _ _|(simp [HB.under,PVs.under,PV.under]));(first|exact HLe.refl _|exact HLe.vec (FLes.refl _) (by simp))))
 rintro k ⟨hk,hE⟩
 have hlen:((o.divs.take k).map fun d=>(⟨d.lo,d.hi⟩:Cps)).length=k:=by rw [List.length_map,List.length_take];omega
 by_cases hkl:k<o.divs.length
 ·have hds:=ho.dv k hkl
  have hdn:=isName_spec (gi o.divs k).name (by have:=hds.name;omega)
  have hdv:=division_spec o (gi o.divs k) ho hds
  by_cases h1:nameOk (gi o.divs k).name
  case neg =>
   have e2:divsE o.ranks o.divs 0=8:=by rw [← hE,divsE,if_pos hkl,if_pos h1]
   rw [e2,if_pos (by decide)]
   rw [decide_eq_false h1] at hdn
   repeat' (first
    |apply VWp.assoc
    |apply VWp.rseq
    |apply VWp.skipSeq
    |apply VWp.retSeq
    |apply VWp.blockSeq
    |apply QSeq.ret
    |apply QBlk.ret
    |apply QLoop.ret
    |apply VOps.nil
    |apply VOps.one
    |(apply VVal.fn;rfl;rfl;exact hdn;intro _;rfl)
    |(apply VVal.assign;rfl)
    |(apply VVal.int;rfl;rfl;rfl)
    |(apply VVal.indexN;rfl;rfl;rfl;omega;rfl)
    |(apply VVal.load;rfl;rfl)
    |(apply VVal.fieldB;rfl;rfl;rfl)
    |(apply VVal.alloc;rfl)
    |(apply VVal.storeB;rfl;rfl;rfl;trivial;rfl;rfl;exact lt_dec rfl;exact le_dec rfl)
    |(apply VVal.not;rfl)
    |(apply VWp.condSeq_true;rfl)
    |(apply VWp.condSeq_dec;rfl)
    |(intro _;try (exfalso;omega)))
   all_goals first|(exfalso;omega)|contradiction|(refine Done.ret rfl (.refl _) (by first|exact trivial|exact ⟨trivial,trivial,trivial⟩|exact ⟨trivial,trivial,trivial,trivial⟩) HCov.nil (Nat.zero_le _) (Nat.le_refl _) ⟨?_,rfl,rfl⟩;try rfl)
  rw [decide_eq_true h1] at hdn
  by_cases h2:(gi o.divs k).name∈(o.divs.take k).map Dvs.name
  ·have e2:divsE o.ranks o.divs 0=9:=by rw [← hE,divsE,if_pos hkl,if_neg (fun h=>h h1),if_pos h2]
   rw [e2,if_pos (by decide)]
   repeat' (first
    |apply VWp.assoc
    |apply VWp.rseq
    |apply VWp.skipSeq
    |apply VWp.retSeq
    |apply VWp.blockSeq
    |apply QSeq.ret
    |(apply DoneI.ret;rfl)
    |apply QBlk.ret
    |apply QLoop.ret
    |apply VOps.nil
    |apply VOps.one
    |(apply VVal.fn;rfl;rfl;exact hdn;intro _;rfl)
    |(apply inl_AG;rfl;rfl;rfl;exact le_dec rfl)
    |(apply VVal.lookupSet;rfl;rfl;rfl;rfl;rfl;rfl)
    |(apply VVal.assign;rfl)
    |(apply VVal.move;rfl)
    |(apply VVal.int;rfl;rfl;rfl)
    |(apply VVal.indexN;rfl;rfl;rfl;omega;rfl)
    |(apply VVal.load;rfl;rfl)
    |(apply VVal.fieldB;rfl;rfl;rfl)
    |(apply VVal.alloc;rfl)
    |(apply VVal.storeB;rfl;rfl;rfl;trivial;rfl;rfl;exact lt_dec rfl;exact le_dec rfl)
    |(apply VVal.not;rfl)
    |(apply VWp.condSeq_true;rfl)
    |(apply VWp.condSeq_false;rfl)
    |(apply VWp.condSeq_dec;rfl)
    |(intro _;try (exfalso;omega)))
   all_goals first|(exfalso;omega)|contradiction|(refine Done.ret rfl (.refl _) (by first|exact trivial|exact ⟨trivial,trivial,trivial⟩|exact ⟨trivial,trivial,trivial,trivial⟩) HCov.nil (Nat.zero_le _) (Nat.le_refl _) ⟨?_,rfl,rfl⟩;try rfl)
  by_cases h3:dvsE o.ranks (gi o.divs k)=0
  case neg =>
   have e2:divsE o.ranks o.divs 0=dvsE o.ranks (gi o.divs k):=by rw [← hE,divsE,if_pos hkl,if_neg (fun h=>h h1),if_neg h2,if_pos h3]
   rw [e2,if_pos h3]
   repeat' (first
    |apply VWp.assoc
    |apply VWp.rseq
    |apply VWp.skipSeq
    |apply VWp.retSeq
    |apply VWp.blockSeq
    |apply QSeq.ret
    |(apply DoneI.ret;rfl)
    |apply QBlk.ret
    |apply QLoop.ret
    |apply VWp.ret
    |apply VOps.nil
    |apply VOps.one
    |(apply VVal.fn;rfl;rfl;exact hdn;intro _;rfl)
    |(apply VVal.fn;rfl;rfl;exact hdv;intro _;rfl)
    |(apply inl_AG;rfl;rfl;rfl;exact le_dec rfl)
    |(apply VVal.lookupSet;rfl;rfl;rfl;rfl;rfl;rfl)
    |(apply VVal.addSet;rfl;rfl;rfl;rfl;rfl;rfl;exact h2)
    |(apply VVal.assign;rfl)
    |(apply VVal.move;rfl)
    |(apply VVal.int;rfl;rfl;rfl)
    |(apply VVal.indexN;rfl;rfl;rfl;omega;rfl)
    |(apply VVal.load;rfl;rfl)
    |(apply VVal.fieldB;rfl;rfl;rfl)
    |(apply VVal.alloc;rfl)
    |(apply VVal.storeB;rfl;rfl;rfl;trivial;rfl;rfl;exact lt_dec rfl;exact le_dec rfl)
    |(apply VVal.not;rfl)
    |(apply VWp.condSeq_true;rfl)
    |(apply VWp.condSeq_false;rfl)
    |(apply VWp.condSeq_dec;rfl)
    |(intro _;try (exfalso;omega)))
   all_goals first|(exfalso;omega)|contradiction|(refine Done.ret rfl (.refl _) (by first|exact trivial|exact ⟨trivial,trivial,trivial⟩|exact ⟨trivial,trivial,trivial,trivial⟩) HCov.nil (Nat.zero_le _) (Nat.le_refl _) ⟨?_,rfl,rfl⟩;try rfl)
  rw [h3] at hdv
  have e5:((o.divs.take (k+1)).map fun d=>(⟨d.lo,d.hi⟩:Cps))=((o.divs.take k).map fun d=>(⟨d.lo,d.hi⟩:Cps))++[⟨(gi o.divs k).lo,(gi o.divs k).hi⟩]:=by rw [take_succ_gi hkl,List.map_append];rfl
  have e6:((o.divs.take (k+1)).map fun d=>(⟨d.lo,d.hi⟩:Cps)).length=((o.divs.take k).map fun d=>(⟨d.lo,d.hi⟩:Cps)).length+1:=by rw [e5,List.length_append];rfl
  repeat' (first
   |apply VWp.assoc
   |apply VWp.rseq
   |apply VWp.region
   |apply VWp.skipSeq
   |apply VWp.retSeq
   |apply VWp.blockSeq
   |apply QSeq.normal
   |apply QSeq.ret
   |(apply DoneI.ret;rfl)
   |apply QBlk.normal
   |apply QBlk.ret
   |apply QLoop.ret
   |apply VWp.ret
   |apply VOps.nil
   |apply VOps.one
   |(apply VVal.fn;rfl;rfl;exact hdn;intro _;rfl)
   |(apply VVal.fn;rfl;rfl;exact hdv;intro _;rfl)
   |(apply VVal.append1 (a:=(⟨(gi o.divs k).lo,(gi o.divs k).hi⟩:Cps));rfl;rfl;rfl;rfl;rfl;rfl;rfl;rfl;(intro _ h;cases h);rfl;rfl;rfl;decide;decide;(first|omega|(simp only [List.length_take,List.length_drop,List.length_append,List.length_singleton,List.length_cons,List.length_nil]<;>omega)))
   |(apply inl_AG;rfl;rfl;rfl;exact le_dec rfl)
   |(apply VVal.lookupSet;rfl;rfl;rfl;rfl;rfl;rfl)
   |(apply VVal.addSet;rfl;rfl;rfl;rfl;rfl;rfl;exact h2)
   |(apply VVal.assign;rfl)
   |(apply VVal.move;rfl)
   |(apply VVal.add64;rfl;rfl;omega)
   |(apply VVal.int;rfl;rfl;rfl)
   |(apply VVal.indexN;rfl;rfl;rfl;omega;rfl)
   |(apply VVal.load;rfl;rfl)
   |(apply VVal.fieldB;rfl;rfl;rfl)
   |(apply VVal.alloc;rfl)
   |(apply VVal.storeB;rfl;rfl;rfl;trivial;rfl;rfl;exact lt_dec rfl;exact le_dec rfl)
   |(apply VVal.buildSlice;rfl;rfl;rfl;decide;rfl;rfl;rfl)
   |(apply VVal.not;rfl)
   |(apply VWp.condSeq_true;rfl)
   |(apply VWp.condSeq_false;rfl)
   |(apply VWp.condSeq_dec;rfl)
   |(intro _;try (exfalso;omega)))
  all_goals try (exfalso;omega)
  all_goals try contradiction
  refine QLoop.normal ⟨k+1,⟨by omega,?_⟩,by omega,⟨by omega,?_,?_⟩⟩
  ·first|rfl|(refine Eq.trans ?_ hE;symm;(conv=>lhs;rw [divsE]);rw [if_pos hkl,if_neg (fun h=>h h1),if_neg h2,if_neg (fun h=>h h3)])
  ·rw [e6];repeat (first|exact LCov.nil|refine LCov.same trivial rfl ?_|refine LCov.same (lt_dec rfl) rfl ?_|refine LCov.same ⟨trivial,lt_dec rfl,lt_dec rfl,lt_dec rfl,trivial⟩ rfl ?_|refine LCov.same ⟨trivial,lt_dec rfl,lt_dec rfl,trivial⟩ rfl ?_|refine LCov.same ⟨trivial,trivial⟩ rfl ?_|refine LCov.cons trivial rfl (.of_eq (lst_len (by simp<;>omega))) ?_)
  ·rw [e6,e5,names_snoc Dvs.name hkl];repeat (first|exact HCov.nil|(refine HCov.cons (lt_dec rfl) ?_ rfl ?_ ?_;(first|exact trivial|exact PVs.under_pure _ _|(simp [HB.under,PVs.under,PV.under]));(first|exact HLe.refl _|exact HLe.vec (FLes.refl _) (by simp))))
 obtain rfl:k=o.divs.length:=by omega
 have e2:divsE o.ranks o.divs 0=0:=by rw [← hE,divsE,if_neg (by omega)]
 rw [if_neg (fun h=>h e2)]
 have et:o.divs.take o.divs.length=o.divs:=List.take_of_length_le (Nat.le_refl _)
 have hcp:=coupler_spec (o.divs.map fun d=>(⟨d.lo,d.hi⟩:Cps)) o.cpls (by rw [List.length_map];exact b2) ho.cpls ho.cp
 rw [et]
 repeat' (first
  |(refine VWp.at 35 ?_;refine VWp.ghost (Ghost.freeze 8 rfl rfl) ?_;first|apply VWp.rseq|apply VWp.rseqD)
  |apply VWp.rseq
  |apply VWp.exitSeq
  |apply QSeq.normal
  |apply QBlk.exit
  |apply QLoop.exit
  |apply VWp.ret
  |apply VOps.nil
  |apply VOps.one
  |(apply VVal.fn;rfl;rfl;exact hcp;intro _;rfl)
  |(apply VVal.assign;rfl)
  |(apply VVal.move;rfl)
  |(apply VVal.int;rfl;rfl;rfl)
  |(apply VVal.load;rfl;rfl)
  |(apply VVal.fieldB;rfl;rfl;rfl)
  |(apply VWp.condSeq_dec;rfl)
  |(intro _;try (exfalso;omega)))
 all_goals first|(exfalso;omega)|(refine Done.ret rfl (.refl _) (by first|exact trivial|exact ⟨trivial,trivial,trivial⟩|exact ⟨trivial,trivial,trivial,trivial⟩) HCov.nil (Nat.zero_le _) (Nat.le_refl _) ⟨?_,rfl,rfl⟩;try rfl)
end Go.Proofs.YtcnlhgmkelkikaaGreatDoor
