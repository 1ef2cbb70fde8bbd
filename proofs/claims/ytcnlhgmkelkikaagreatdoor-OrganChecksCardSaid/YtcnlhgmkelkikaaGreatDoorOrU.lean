/-
  The layer of organs: Equal; the law's equal. Conditions: in each statement.
-/
import Derived.Test.YtcnlhgmkelkikaaGreatDoorOrT
set_option linter.unusedSimpArgs false
set_option linter.unusedVariables false
namespace Go.Proofs.YtcnlhgmkelkikaaGreatDoor
open Go Go.Am Go.Vm
theorem VFun.toRead {f:FuncId} {xs:List FV} {x:FV} (h:VFun env f xs (.p x)):VRead env f (xs.map .p) [] 0 x:=by
 unfold VFun at h
 exact h
theorem tr3:True∧True∧True:=⟨trivial,trivial,trivial⟩
theorem tr4:True∧True∧True∧True:=⟨trivial,trivial,trivial,trivial⟩
attribute [local irreducible] VVal VOps VOpsD VWp VCalls VFun VFunV QSeq QBlk QLoop Vm.Done DoneV DoneI
theorem RnkSm.rl {r:Rnk} (h:RnkSm r):rLen r:=h.len
set_option maxRecDepth 100000 in
set_option maxHeartbeats 2000000 in
theorem oequal_spec (a b:Org) (ha:OrgSm a) (hb:OrgSm b):VFun env 30 [.agg (Enc.enc a),.agg (Enc.enc b)] (.p (.bool (decide (a=b)))):=by
 have a1:=ha.ranks
 have a2:=ha.divs
 have a3:=ha.cpls
 have b1:=hb.ranks
 have b2:=hb.divs
 have b3:=hb.cpls
 have hR:=eqfRnk a.ranks b.ranks (by omega) (by omega) (fun i h1 h2=>VFun.toRead (requal_spec _ _ (ha.rk i h1).rl (hb.rk i h2).rl))
 have hD:=eqfDvs a.divs b.divs (by omega) (by omega) (fun i h1 h2=>eqDvs_spec _ _ (ha.dv i h1) (hb.dv i h2))
 have hC:=seqCpl a.cpls b.cpls (by omega) (by omega)
 by_cases h1:a.name=b.name
 ·have g1:=decide_eq_true h1
  by_cases h2:a.ranks=b.ranks
  ·rw [decide_eq_true h2] at hR
   by_cases h3:a.divs=b.divs
   ·rw [decide_eq_true h3] at hD
    have e:decide (a=b)=decide (a.cpls=b.cpls):=by
     by_cases h:a.cpls=b.cpls
     ·rw [decide_eq_true h,decide_eq_true (show a=b by cases a;cases b;simp_all)]
     ·rw [decide_eq_false h,decide_eq_false (fun e=>h (by rw [e]))]
    rw [e]
    refine VFun.enter (env_none (by decide)) Tryz.func30 rfl (by kernel_rfl) (by simp [Tryz.ntmps30]) ?_
    repeat' (first|apply VWp.rseq|apply VWp.ret|apply VOps.nil|apply VOps.one|(apply VOps.take;rfl;rfl)|(apply VVal.fn;rfl;rfl;exact hC;intro _;rfl)|(apply VVal.read [] hR;rfl;rfl;exact .of_eq rfl;exact PVs.under_of rfl;exact HUnder_of rfl;(repeat (first|exact trivial|refine ⟨⟨_,rfl,.of_eq rfl⟩,?_⟩));decide;(intro _ hb;simp at hb<;>omega);rfl)|(apply VVal.read [2,3] hD;rfl;rfl;exact .of_eq rfl;exact PVs.under_of rfl;exact HUnder_of rfl;(repeat (first|exact trivial|refine ⟨⟨_,rfl,.of_eq rfl⟩,?_⟩));decide;(intro _ hb;simp at hb<;>omega);rfl)|(apply VVal.makeFunc;rfl;rfl)|(apply VVal.eqSd;rfl;rfl;exact g1)|(apply VVal.assign;rfl)|(apply VVal.move;rfl)|(apply VVal.load;rfl;rfl)|(apply VVal.pick_true;rfl;rfl)|(apply VVal.fieldB;rfl;rfl;rfl)|(apply VVal.box;rfl;trivial)|(apply VVal.alloc;rfl)|(apply VVal.storeB;rfl;rfl;rfl;trivial;rfl;rfl;exact lt_dec rfl;exact le_dec rfl))
    all_goals first|(exfalso;omega)|contradiction|(refine Done.ret rfl (.refl _) (by first|exact trivial|exact tr3|exact tr4) HCov.nil (Nat.zero_le _) (Nat.le_refl _) ⟨?_,rfl,rfl⟩;try rfl)
   ·rw [decide_eq_false h3] at hD
    rw [decide_eq_false (fun e=>h3 (by rw [e]))]
    refine VFun.enter (env_none (by decide)) Tryz.func30 rfl (by kernel_rfl) (by simp [Tryz.ntmps30]) ?_
    repeat' (first|apply VWp.rseq|apply VWp.ret|apply VOps.nil|apply VOps.one|(apply VOps.take;rfl;rfl)|(apply VOps.drop;rfl;rfl;rfl)|(apply VVal.read [] hR;rfl;rfl;exact .of_eq rfl;exact PVs.under_of rfl;exact HUnder_of rfl;(repeat (first|exact trivial|refine ⟨⟨_,rfl,.of_eq rfl⟩,?_⟩));decide;(intro _ hb;simp at hb<;>omega);rfl)|(apply VVal.read [2,3] hD;rfl;rfl;exact .of_eq rfl;exact PVs.under_of rfl;exact HUnder_of rfl;(repeat (first|exact trivial|refine ⟨⟨_,rfl,.of_eq rfl⟩,?_⟩));decide;(intro _ hb;simp at hb<;>omega);rfl)|(apply VVal.makeFunc;rfl;rfl)|(apply VVal.eqSd;rfl;rfl;exact g1)|(apply VVal.assign;rfl)|(apply VVal.move;rfl)|(apply VVal.load;rfl;rfl)|(apply VVal.pick_true;rfl;rfl)|(apply VVal.pick_false;rfl;rfl)|(apply VVal.fieldB;rfl;rfl;rfl)|(apply VVal.box;rfl;trivial)|(apply VVal.alloc;rfl)|(apply VVal.storeB;rfl;rfl;rfl;trivial;rfl;rfl;exact lt_dec rfl;exact le_dec rfl))
    all_goals first|(exfalso;omega)|contradiction|(refine Done.ret rfl (.refl _) (by first|exact trivial|exact tr3|exact tr4) HCov.nil (Nat.zero_le _) (Nat.le_refl _) ⟨?_,rfl,rfl⟩;try rfl)
  ·rw [decide_eq_false h2] at hR
   rw [decide_eq_false (fun e=>h2 (by rw [e]))]
   refine VFun.enter (env_none (by decide)) Tryz.func30 rfl (by kernel_rfl) (by simp [Tryz.ntmps30]) ?_
   repeat' (first|apply VWp.rseq|apply VWp.ret|apply VOps.nil|apply VOps.one|(apply VOps.take;rfl;rfl)|(apply VOps.drop;rfl;rfl;rfl)|(apply VVal.read [] hR;rfl;rfl;exact .of_eq rfl;exact PVs.under_of rfl;exact HUnder_of rfl;(repeat (first|exact trivial|refine ⟨⟨_,rfl,.of_eq rfl⟩,?_⟩));decide;(intro _ hb;simp at hb<;>omega);rfl)|(apply VVal.makeFunc;rfl;rfl)|(apply VVal.eqSd;rfl;rfl;exact g1)|(apply VVal.assign;rfl)|(apply VVal.move;rfl)|(apply VVal.load;rfl;rfl)|(apply VVal.pick_true;rfl;rfl)|(apply VVal.pick_false;rfl;rfl)|(apply VVal.fieldB;rfl;rfl;rfl)|(apply VVal.box;rfl;trivial)|(apply VVal.alloc;rfl)|(apply VVal.storeB;rfl;rfl;rfl;trivial;rfl;rfl;exact lt_dec rfl;exact le_dec rfl))
   all_goals first|(exfalso;omega)|contradiction|(refine Done.ret rfl (.refl _) (by first|exact trivial|exact tr3|exact tr4) HCov.nil (Nat.zero_le _) (Nat.le_refl _) ⟨?_,rfl,rfl⟩;try rfl)
 ·have g1:=decide_eq_false h1
  rw [decide_eq_false (fun e=>h1 (by rw [e]))]
  refine VFun.enter (env_none (by decide)) Tryz.func30 rfl (by kernel_rfl) (by simp [Tryz.ntmps30]) ?_
  repeat' (first|apply VWp.rseq|apply VWp.ret|apply VOps.nil|apply VOps.one|(apply VOps.drop;rfl;rfl;rfl)|(apply VVal.makeFunc;rfl;rfl)|(apply VVal.eqSd;rfl;rfl;exact g1)|(apply VVal.assign;rfl)|(apply VVal.move;rfl)|(apply VVal.load;rfl;rfl)|(apply VVal.pick_false;rfl;rfl)|(apply VVal.fieldB;rfl;rfl;rfl)|(apply VVal.box;rfl;trivial)|(apply VVal.alloc;rfl)|(apply VVal.storeB;rfl;rfl;rfl;trivial;rfl;rfl;exact lt_dec rfl;exact le_dec rfl))
  all_goals first|(exfalso;omega)|contradiction|(refine Done.ret rfl (.refl _) (by first|exact trivial|exact tr3|exact tr4) HCov.nil (Nat.zero_le _) (Nat.le_refl _) ⟨?_,rfl,rfl⟩;try rfl)
set_option maxRecDepth 100000 in
set_option maxHeartbeats 4000000 in
theorem sameStop_spec (a b:Stp) (ha:StpSm a) (hb:StpSm b):VFun env 67 [.agg (Enc.enc a),.agg (Enc.enc b)] (.p (.bool (decide (a=b)))):=by
 have hl1:=ha.segs
 have hl2:=hb.segs
 have hf:=eqFrac a.feet b.feet
 by_cases h1:a.name=b.name∧a.feet=b.feet∧a.segs.length=b.segs.length
 ·obtain ⟨h1,h2,h5⟩:=h1
  have g1:=decide_eq_true h1
  rw [decide_eq_true h2] at hf
  refine VFun.enter (env_none (by decide)) Tryz.func67 rfl (by kernel_rfl) (by simp [Tryz.ntmps67]) ?_
  repeat' (first|apply VWp.assoc|apply VWp.rseq|apply VWp.skipSeq|apply VWp.blockSeq|apply VOps.nil|apply VOps.one|(apply VOps.take;rfl;rfl)|(apply VVal.neSd;rfl;rfl;exact g1)|(apply VVal.neSt1;rfl;rfl;exact freeFrac;exact hf)|(apply VVal.assign;rfl)|(apply VVal.move;rfl)|(apply VVal.int;rfl;rfl;rfl)|(apply VVal.load;rfl;rfl)|(apply VVal.pick_false;rfl;rfl)|(apply VVal.lenF;rfl;rfl)|(apply VVal.fieldB;rfl;rfl;rfl)|(apply VVal.box;rfl;trivial)|(apply VWp.condSeq_dec;rfl)|(intro _;try (exfalso;omega)))
  all_goals try contradiction
  all_goals try (exfalso;omega)
  apply VWp.loopRI (a.segs.length) (fun k=>∀ i,i<k→gi a.segs i=gi b.segs i) [(2,_),(3,_)] [(0,_),(1,_)] (fun k r=>(5,.p (.int .i64 (k:Int)))::r) (fun k r=>r) 2
  ·omega
  ·omega
  ·repeat (first|exact LCov.nil|(refine LCov.eq rfl ?_ ?_;(first|exact PV.under_of rfl|(simp [PV.under,PVs.under];done)))|refine LCov.cons trivial rfl (.of_eq (lst_len (by simp<;>omega))) ?_)
  ·repeat (first|exact HCov.nil|(refine HCov.eq rfl (lt_dec rfl) ?_ ?_;(first|exact HB.under_of rfl|exact PVs.under_pure _ _))|(refine HCov.cons (lt_dec rfl) ?_ rfl ?_ ?_;(first|exact trivial|exact PVs.under_pure _ _);(first|exact HLe.refl _)))
  ·first|(intro _ _;omega)|omega|trivial
  ·intro k hk hok
   have sa:=(ha.all k hk).draws
   have sb:=(hb.all k (by omega)).draws
   by_cases h6:(gi a.segs k).lo=(gi b.segs k).lo∧(gi a.segs k).hi=(gi b.segs k).hi∧(gi a.segs k).draws.length=(gi b.segs k).draws.length
   ·obtain ⟨h6,h7,h8⟩:=h6
    repeat' (first|(refine VOpsD.atIdx 12 ?_;apply VOpsD.weak [.tmp 42,.tmp 45];decide +kernel;rfl;rfl;(first|exact VOwn.ref rfl|exact VOwn.vec rfl|exact VOwn.eref rfl);decide +kernel;rfl)|apply VWp.assoc|apply VWp.rseq|apply VWp.rseqD|apply VWp.skipSeq|apply VWp.blockSeq|apply VWp.blockQ|apply VOps.nil|apply VOpsD.nil|apply VOps.one|(apply VOpsD.bar;decide +kernel)|apply VOpsD.quiet|(apply VOps.take;rfl;rfl)|(apply VOps.guard;rfl;rfl)|(apply VVal.assign;rfl)|(apply VVal.move;rfl)|(apply VVal.int;rfl;rfl;rfl)|(apply VVal.indexN;rfl;rfl;rfl;omega;rfl)|(apply VVal.load;rfl;rfl)|(apply VVal.pick_false;rfl;rfl)|(apply VVal.lenF;rfl;rfl)|(apply VVal.fieldB;rfl;rfl;rfl)|(apply VVal.alloc;rfl)|(apply VVal.storeB;rfl;rfl;rfl;trivial;rfl;rfl;exact lt_dec rfl;exact le_dec rfl)|(apply VWp.condSeq_dec;rfl)|(intro _;try (exfalso;omega)))
    all_goals try contradiction
    all_goals try (exfalso;omega)
    apply VWp.loopRI ((gi a.segs k).draws.length) (fun k_=>∀ i,i<k_→gi (gi a.segs k).draws i=gi (gi b.segs k).draws i) [(2,_),(3,_),(5,_),(6,_),(7,_)] [(0,_),(1,_),(2,_),(3,_)] (fun k_ r=>(8,.p (.int .i64 (k_:Int)))::r) (fun k_ r=>r) 4
    ·omega
    ·omega
    ·repeat (first|exact LCov.nil|(refine LCov.eq rfl ?_ ?_;(first|exact PV.under_of rfl|(simp [PV.under,PVs.under];done)))|refine LCov.cons trivial rfl (.of_eq (lst_len (by simp<;>omega))) ?_)
    ·repeat (first|exact HCov.nil|(refine HCov.eq rfl (lt_dec rfl) ?_ ?_;(first|exact HB.under_of rfl|exact PVs.under_pure _ _))|(refine HCov.cons (lt_dec rfl) ?_ rfl ?_ ?_;(first|exact trivial|exact PVs.under_pure _ _);(first|exact HLe.refl _)))
    ·first|(intro _ _;omega)|omega|trivial
    ·intro j hj hoj
     have he:=eqDraw (gi (gi a.segs k).draws j) (gi (gi b.segs k).draws j)
     by_cases h:gi (gi a.segs k).draws j=gi (gi b.segs k).draws j
     ·rw [decide_eq_true h] at he
      repeat' (first|apply VWp.assoc|apply VWp.rseq|apply VWp.rseqD|apply VWp.region|apply VWp.skipSeq|apply VWp.blockSeq|apply QSeq.normal|apply QBlk.normal|apply VWp.skip|apply VOps.nil|apply VOpsD.nil|apply VOps.one|(apply VOpsD.bar;decide +kernel)|apply VOpsD.quiet|(apply VVal.neSt1;rfl;rfl;exact freeDraw;exact he)|(apply VVal.assign;rfl)|(apply VVal.move;rfl)|(apply VVal.add64;rfl;rfl;omega)|(apply VVal.int;rfl;rfl;rfl)|(apply VVal.indexN;rfl;rfl;rfl;omega;rfl)|(apply VVal.load;rfl;rfl)|(apply VVal.lenF;rfl;rfl)|(apply VVal.fieldB;rfl;rfl;rfl)|(apply VWp.condSeq_dec;rfl)|(apply VWp.cond_false;rfl)|(intro _;try (exfalso;omega)))
      all_goals try contradiction
      all_goals try (exfalso;omega)
      refine QLoop.normal ⟨(all_succ hoj h),by omega,?_,?_⟩
      ·repeat (first|exact LCov.nil|refine LCov.same trivial rfl ?_|refine LCov.same (lt_dec rfl) rfl ?_|refine LCov.same ⟨trivial,lt_dec rfl,trivial⟩ rfl ?_|refine LCov.same ⟨trivial,lt_dec rfl,lt_dec rfl,trivial⟩ rfl ?_|refine LCov.same ⟨trivial,lt_dec rfl,lt_dec rfl,lt_dec rfl,trivial⟩ rfl ?_|refine LCov.same ⟨trivial,trivial⟩ rfl ?_|refine LCov.cons trivial rfl (.of_eq (lst_len (by simp<;>omega))) ?_)
      ·repeat (first|exact HCov.nil|(refine HCov.cons (lt_dec rfl) ?_ rfl ?_ ?_;(first|exact HB.under_of rfl|exact PVs.under_pure _ _);(first|exact HLe.refl _)))
     ·rw [decide_eq_false h] at he
      rw [decide_eq_false (fun e=>h (by rw [e]))]
      repeat' (first|apply VWp.assoc|apply VWp.rseq|apply VWp.rseqD|apply VWp.skipSeq|apply VWp.blockSeq|apply QSeq.ret|apply QBlk.ret|apply QLoop.ret|apply VWp.ret|apply VOps.nil|apply VOpsD.nil|apply VOps.one|(apply VOpsD.bar;decide +kernel)|apply VOpsD.quiet|(apply VVal.neSt1;rfl;rfl;exact freeDraw;exact he)|(apply VVal.assign;rfl)|(apply VVal.move;rfl)|(apply VVal.int;rfl;rfl;rfl)|(apply VVal.indexN;rfl;rfl;rfl;omega;rfl)|(apply VVal.load;rfl;rfl)|(apply VVal.lenF;rfl;rfl)|(apply VVal.fieldB;rfl;rfl;rfl)|(apply VWp.condSeq_dec;rfl)|(apply VWp.cond_true;rfl)|(intro _;try (exfalso;omega)))
      all_goals first|(exfalso;omega)|contradiction|(refine Done.ret rfl (.refl _) (by first|exact trivial|exact tr3|exact tr4) HCov.nil (Nat.zero_le _) (Nat.le_refl _) ⟨?_,rfl,rfl⟩;try rfl)
    ·intro hoj
     have h9:=gi_ext h8 hoj
     have h10:gi a.segs k=gi b.segs k:=by
      generalize gi a.segs k=s at *
      generalize gi b.segs k=t at *
      cases s;cases t;simp_all
     repeat' (first|apply VWp.assoc|apply VWp.rseq|apply VWp.region|apply VWp.exitSeq|apply QSeq.normal|apply QBlk.normal|apply QBlk.exit|apply QLoop.exit|apply VOps.nil|apply VOps.one|(apply VVal.assign;rfl)|(apply VVal.move;rfl)|(apply VVal.add64;rfl;rfl;omega)|(apply VVal.int;rfl;rfl;rfl)|(apply VVal.load;rfl;rfl)|(apply VVal.lenF;rfl;rfl)|(apply VVal.fieldB;rfl;rfl;rfl)|(apply VWp.condSeq_dec;rfl)|(intro _;try (exfalso;omega)))
     all_goals try contradiction
     all_goals try (exfalso;omega)
     refine QLoop.normal ⟨(all_succ hok h10),by omega,?_,?_⟩
     ·repeat (first|exact LCov.nil|refine LCov.same trivial rfl ?_|refine LCov.same (lt_dec rfl) rfl ?_|refine LCov.same ⟨trivial,lt_dec rfl,trivial⟩ rfl ?_|refine LCov.same ⟨trivial,lt_dec rfl,lt_dec rfl,trivial⟩ rfl ?_|refine LCov.same ⟨trivial,lt_dec rfl,lt_dec rfl,lt_dec rfl,trivial⟩ rfl ?_|refine LCov.same ⟨trivial,trivial⟩ rfl ?_|refine LCov.cons trivial rfl (.of_eq (lst_len (by simp<;>omega))) ?_)
     ·repeat (first|exact HCov.nil|(refine HCov.cons (lt_dec rfl) ?_ rfl ?_ ?_;(first|exact HB.under_of rfl|exact PVs.under_pure _ _);(first|exact HLe.refl _)))
   ·rw [decide_eq_false (fun e=>h6 (by rw [e];exact ⟨rfl,rfl,rfl⟩))]
    repeat' (first|(refine VOpsD.atIdx 12 ?_;apply VOpsD.weak [.tmp 42,.tmp 45];decide +kernel;rfl;rfl;(first|exact VOwn.ref rfl|exact VOwn.vec rfl|exact VOwn.eref rfl);decide +kernel;rfl)|apply VWp.assoc|apply VWp.rseq|apply VWp.rseqD|apply VWp.skipSeq|apply VWp.retSeq|apply VWp.blockSeq|apply QSeq.ret|apply QBlk.ret|apply QLoop.ret|apply VOps.nil|apply VOpsD.nil|apply VOps.one|(apply VOpsD.bar;decide +kernel)|apply VOpsD.quiet|(apply VOps.take;rfl;rfl)|(apply VOps.drop;rfl;rfl;rfl)|(apply VOps.guard;rfl;rfl)|(apply VVal.assign;rfl)|(apply VVal.move;rfl)|(apply VVal.int;rfl;rfl;rfl)|(apply VVal.indexN;rfl;rfl;rfl;omega;rfl)|(apply VVal.load;rfl;rfl)|(apply VVal.pick_true;rfl;rfl)|(apply VVal.pick_false;rfl;rfl)|(apply VVal.lenF;rfl;rfl)|(apply VVal.fieldB;rfl;rfl;rfl)|(apply VVal.alloc;rfl)|(apply VVal.storeB;rfl;rfl;rfl;trivial;rfl;rfl;exact lt_dec rfl;exact le_dec rfl)|(apply VWp.condSeq_true;rfl)|(apply VWp.condSeq_dec;rfl)|(intro _;try (exfalso;omega)))
    all_goals first|(exfalso;omega)|contradiction|(refine Done.ret rfl (.refl _) (by first|exact trivial|exact tr3|exact tr4) HCov.nil (Nat.zero_le _) (Nat.le_refl _) ⟨?_,rfl,rfl⟩;try rfl)
  ·intro hok
   have h6:=gi_ext h5 hok
   rw [decide_eq_true (show a=b by cases a;cases b;simp_all)]
   repeat' (first|apply VWp.assoc|apply VWp.rseq|apply VWp.exitSeq|apply QSeq.normal|apply QBlk.exit|apply QLoop.exit|apply VWp.ret|apply VOps.nil|apply VOps.one|(apply VVal.assign;rfl)|(apply VVal.move;rfl)|(apply VVal.int;rfl;rfl;rfl)|(apply VVal.load;rfl;rfl)|(apply VVal.lenF;rfl;rfl)|(apply VVal.fieldB;rfl;rfl;rfl)|(apply VWp.condSeq_dec;rfl)|(intro _;try (exfalso;omega)))
   all_goals first|(exfalso;omega)|contradiction|(refine Done.ret rfl (.refl _) (by first|exact trivial|exact tr3|exact tr4) HCov.nil (Nat.zero_le _) (Nat.le_refl _) ⟨?_,rfl,rfl⟩;try rfl)
 ·rw [decide_eq_false (fun e=>h1 (by subst e;exact ⟨rfl,rfl,rfl⟩))]
  generalize hg1:decide (a.name=b.name)=g1 at *
  generalize hg3:decide (a.feet=b.feet)=g3 at *
  refine VFun.enter (env_none (by decide)) Tryz.func67 rfl (by kernel_rfl) (by simp [Tryz.ntmps67]) ?_
  cases g1<;>cases g3
  all_goals
   repeat' (first|apply VWp.assoc|apply VWp.rseq|apply VWp.skipSeq|apply VWp.retSeq|apply VWp.blockSeq|apply VOps.nil|apply VOps.one|(apply VOps.take;rfl;rfl)|(apply VOps.drop;rfl;rfl;rfl)|(apply VVal.neSd;rfl;rfl;exact hg1)|(apply VVal.neSt1;rfl;rfl;exact freeFrac;exact hf)|(apply VVal.assign;rfl)|(apply VVal.move;rfl)|(apply VVal.int;rfl;rfl;rfl)|(apply VVal.load;rfl;rfl)|(apply VVal.pick_true;rfl;rfl)|(apply VVal.pick_false;rfl;rfl)|(apply VVal.lenF;rfl;rfl)|(apply VVal.fieldB;rfl;rfl;rfl)|(apply VVal.box;rfl;trivial)|(apply VWp.condSeq_true;rfl)|(apply VWp.condSeq_dec;rfl)|(intro _;try (exfalso;omega)))
  all_goals first|(refine Done.ret rfl (.refl _) (by first|exact trivial|exact tr3|exact tr4) HCov.nil (Nat.zero_le _) (Nat.le_refl _) ⟨?_,rfl,rfl⟩;try rfl)|(exfalso;apply h1;refine ⟨of_decide_eq_true hg1,of_decide_eq_true hg3,by omega⟩)
set_option maxRecDepth 100000 in
set_option maxHeartbeats 4000000 in
theorem equal18_spec (a b:Org) (ha:OrgSm a) (hb:OrgSm b):VFun env 31 [.agg (Enc.enc a),.agg (Enc.enc b)] (.p (.bool (decide (a=b)))):=by
 have a1:=ha.ranks
 have a2:=ha.divs
 have a3:=ha.cpls
 have b1:=hb.ranks
 have b2:=hb.divs
 have b3:=hb.cpls
 by_cases h1:a.name=b.name∧a.ranks.length=b.ranks.length∧a.divs.length=b.divs.length∧a.cpls.length=b.cpls.length
 case neg =>
  rw [decide_eq_false (fun e=>h1 (by subst e;exact ⟨rfl,rfl,rfl,rfl⟩))]
  generalize hg1:decide (a.name=b.name)=g1 at *
  refine VFun.enter (env_none (by decide)) Tryz.func31 rfl (by kernel_rfl) (by simp [Tryz.ntmps31]) ?_
  cases g1
  ·repeat' (first|apply VWp.assoc|apply VWp.rseq|apply VWp.retSeq|apply VOps.nil|apply VOps.one|(apply VOps.drop;rfl;rfl;rfl)|(apply VVal.neSd;rfl;rfl;exact hg1)|(apply VVal.assign;rfl)|(apply VVal.move;rfl)|(apply VVal.load;rfl;rfl)|(apply VVal.pick_true;rfl;rfl)|(apply VVal.fieldB;rfl;rfl;rfl)|(apply VVal.box;rfl;trivial)|(apply VWp.condSeq_true;rfl))
   all_goals first|(exfalso;omega)|contradiction|(refine Done.ret rfl (.refl _) (by first|exact trivial|exact tr3|exact tr4) HCov.nil (Nat.zero_le _) (Nat.le_refl _) ⟨?_,rfl,rfl⟩;try rfl)
  ·have h2:=of_decide_eq_true hg1
   repeat' (first|apply VWp.assoc|apply VWp.rseq|apply VWp.skipSeq|apply VWp.retSeq|apply VWp.blockSeq|apply VOps.nil|apply VOps.one|(apply VOps.take;rfl;rfl)|(apply VOps.drop;rfl;rfl;rfl)|(apply VOps.guard;rfl;rfl)|(apply VVal.neSd;rfl;rfl;exact hg1)|(apply VVal.assign;rfl)|(apply VVal.move;rfl)|(apply VVal.int;rfl;rfl;rfl)|(apply VVal.load;rfl;rfl)|(apply VVal.pick_true;rfl;rfl)|(apply VVal.pick_false;rfl;rfl)|(apply VVal.lenF;rfl;rfl)|(apply VVal.fieldB;rfl;rfl;rfl)|(apply VVal.box;rfl;trivial)|(apply VWp.condSeq_true;rfl)|(apply VWp.condSeq_dec;rfl)|(intro _;try (exfalso;omega)))
   all_goals first|(refine Done.ret rfl (.refl _) (by first|exact trivial|exact tr3|exact tr4) HCov.nil (Nat.zero_le _) (Nat.le_refl _) ⟨?_,rfl,rfl⟩;try rfl)|(exfalso;apply h1;refine ⟨h2,by omega,by omega,by omega⟩)
 obtain ⟨h1,h2,h3,h4⟩:=h1
 have g1:=decide_eq_true h1
 refine VFun.enter (env_none (by decide)) Tryz.func31 rfl (by kernel_rfl) (by simp [Tryz.ntmps31]) ?_
 repeat' (first|apply VWp.assoc|apply VWp.rseq|apply VWp.skipSeq|apply VWp.blockSeq|apply VOps.nil|apply VOps.one|(apply VOps.take;rfl;rfl)|(apply VOps.guard;rfl;rfl)|(apply VVal.neSd;rfl;rfl;exact g1)|(apply VVal.assign;rfl)|(apply VVal.move;rfl)|(apply VVal.int;rfl;rfl;rfl)|(apply VVal.load;rfl;rfl)|(apply VVal.pick_false;rfl;rfl)|(apply VVal.lenF;rfl;rfl)|(apply VVal.fieldB;rfl;rfl;rfl)|(apply VVal.box;rfl;trivial)|(apply VWp.condSeq_dec;rfl)|(intro _;try (exfalso;omega)))
 all_goals try contradiction
 all_goals try (exfalso;omega)
 apply VWp.loopRI (a.ranks.length) (fun k=>∀ i,i<k→gi a.ranks i=gi b.ranks i) [(2,_),(3,_)] [(0,_),(1,_)] (fun k r=>(5,.p (.int .i64 (k:Int)))::r) (fun k r=>r) 2
 ·omega
 ·omega
 ·repeat (first|exact LCov.nil|(refine LCov.eq rfl ?_ ?_;(first|exact PV.under_of rfl|(simp [PV.under,PVs.under];done)))|refine LCov.cons trivial rfl (.of_eq (lst_len (by simp<;>omega))) ?_)
 ·repeat (first|exact HCov.nil|(refine HCov.eq rfl (lt_dec rfl) ?_ ?_;(first|exact HB.under_of rfl|exact PVs.under_pure _ _))|(refine HCov.cons (lt_dec rfl) ?_ rfl ?_ ?_;(first|exact trivial|exact PVs.under_pure _ _);(first|exact HLe.refl _)))
 ·first|(intro _ _;omega)|omega|trivial
 ·intro k hk hok
  have hs:=same_spec (gi a.ranks k) (gi b.ranks k) (ha.rk k hk).rl (hb.rk k (by omega)).rl
  by_cases h:gi a.ranks k=gi b.ranks k
  ·rw [decide_eq_true h] at hs
   repeat' (first|apply VWp.assoc|apply VWp.rseq|apply VWp.rseqD|apply VWp.region|apply VWp.skipSeq|apply VWp.blockSeq|apply QSeq.normal|apply QBlk.normal|apply VWp.skip|apply VOps.nil|apply VOpsD.nil|apply VOps.one|(apply VOpsD.bar;decide +kernel)|apply VOpsD.quiet|(apply VVal.fn;rfl;rfl;exact hs;intro _;rfl)|(apply VVal.assign;rfl)|(apply VVal.move;rfl)|(apply VVal.add64;rfl;rfl;omega)|(apply VVal.int;rfl;rfl;rfl)|(apply VVal.indexN;rfl;rfl;rfl;omega;rfl)|(apply VVal.load;rfl;rfl)|(apply VVal.lenF;rfl;rfl)|(apply VVal.fieldB;rfl;rfl;rfl)|(apply VVal.not;rfl)|(apply VWp.condSeq_dec;rfl)|(apply VWp.cond_false;rfl)|(intro _;try (exfalso;omega)))
   all_goals try contradiction
   all_goals try (exfalso;omega)
   refine QLoop.normal ⟨(all_succ hok h),by omega,?_,?_⟩
   ·repeat (first|exact LCov.nil|refine LCov.same trivial rfl ?_|refine LCov.same (lt_dec rfl) rfl ?_|refine LCov.same ⟨trivial,lt_dec rfl,trivial⟩ rfl ?_|refine LCov.same ⟨trivial,lt_dec rfl,lt_dec rfl,trivial⟩ rfl ?_|refine LCov.same ⟨trivial,lt_dec rfl,lt_dec rfl,lt_dec rfl,trivial⟩ rfl ?_|refine LCov.same ⟨trivial,trivial⟩ rfl ?_|refine LCov.cons trivial rfl (.of_eq (lst_len (by simp<;>omega))) ?_)
   ·repeat (first|exact HCov.nil|(refine HCov.cons (lt_dec rfl) ?_ rfl ?_ ?_;(first|exact HB.under_of rfl|exact PVs.under_pure _ _);(first|exact HLe.refl _)))
  ·rw [decide_eq_false h] at hs
   rw [decide_eq_false (fun e=>h (by rw [e]))]
   repeat' (first|apply VWp.assoc|apply VWp.rseq|apply VWp.rseqD|apply VWp.skipSeq|apply VWp.blockSeq|apply QSeq.ret|apply QBlk.ret|apply QLoop.ret|apply VWp.ret|apply VOps.nil|apply VOpsD.nil|apply VOps.one|(apply VOpsD.bar;decide +kernel)|apply VOpsD.quiet|(apply VVal.fn;rfl;rfl;exact hs;intro _;rfl)|(apply VVal.assign;rfl)|(apply VVal.move;rfl)|(apply VVal.int;rfl;rfl;rfl)|(apply VVal.indexN;rfl;rfl;rfl;omega;rfl)|(apply VVal.load;rfl;rfl)|(apply VVal.lenF;rfl;rfl)|(apply VVal.fieldB;rfl;rfl;rfl)|(apply VVal.not;rfl)|(apply VWp.condSeq_dec;rfl)|(apply VWp.cond_true;rfl)|(intro _;try (exfalso;omega)))
   all_goals first|(exfalso;omega)|contradiction|(refine Done.ret rfl (.refl _) (by first|exact trivial|exact tr3|exact tr4) HCov.nil (Nat.zero_le _) (Nat.le_refl _) ⟨?_,rfl,rfl⟩;try rfl)
 intro hok1
 have hR:=gi_ext h2 hok1
 repeat' (first|apply VWp.assoc|apply VWp.rseq|apply VWp.exitSeq|apply VWp.blockSeq|apply QSeq.normal|apply QBlk.exit|apply QLoop.exit|apply VOps.nil|apply VOps.one|(apply VVal.assign;rfl)|(apply VVal.move;rfl)|(apply VVal.int;rfl;rfl;rfl)|(apply VVal.load;rfl;rfl)|(apply VVal.lenF;rfl;rfl)|(apply VVal.fieldB;rfl;rfl;rfl)|(apply VWp.condSeq_dec;rfl)|(intro _;try (exfalso;omega)))
 all_goals try contradiction
 all_goals try (exfalso;omega)
 apply VWp.loopRI (a.cpls.length) (fun k=>∀ i,i<k→gi a.cpls i=gi b.cpls i) [(2,_),(3,_)] [(0,_),(1,_)] (fun k r=>(6,.p (.int .i64 (k:Int)))::r) (fun k r=>r) 2
 ·omega
 ·omega
 ·repeat (first|exact LCov.nil|(refine LCov.eq rfl ?_ ?_;(first|exact PV.under_of rfl|(simp [PV.under,PVs.under];done)))|refine LCov.cons trivial rfl (.of_eq (lst_len (by simp<;>omega))) ?_)
 ·repeat (first|exact HCov.nil|(refine HCov.eq rfl (lt_dec rfl) ?_ ?_;(first|exact HB.under_of rfl|exact PVs.under_pure _ _))|(refine HCov.cons (lt_dec rfl) ?_ rfl ?_ ?_;(first|exact trivial|exact PVs.under_pure _ _);(first|exact HLe.refl _)))
 ·first|(intro _ _;omega)|omega|trivial
 ·intro k hk hok
  have he:=eqCpl (gi a.cpls k) (gi b.cpls k)
  by_cases h:gi a.cpls k=gi b.cpls k
  ·rw [decide_eq_true h] at he
   repeat' (first|apply VWp.assoc|apply VWp.rseq|apply VWp.rseqD|apply VWp.region|apply VWp.skipSeq|apply VWp.blockSeq|apply QSeq.normal|apply QBlk.normal|apply VWp.skip|apply VOps.nil|apply VOpsD.nil|apply VOps.one|(apply VOpsD.bar;decide +kernel)|apply VOpsD.quiet|(apply VVal.neSt1;rfl;rfl;exact freeCpl;exact he)|(apply VVal.assign;rfl)|(apply VVal.move;rfl)|(apply VVal.add64;rfl;rfl;omega)|(apply VVal.int;rfl;rfl;rfl)|(apply VVal.indexN;rfl;rfl;rfl;omega;rfl)|(apply VVal.load;rfl;rfl)|(apply VVal.lenF;rfl;rfl)|(apply VVal.fieldB;rfl;rfl;rfl)|(apply VWp.condSeq_dec;rfl)|(apply VWp.cond_false;rfl)|(intro _;try (exfalso;omega)))
   all_goals try contradiction
   all_goals try (exfalso;omega)
   refine QLoop.normal ⟨(all_succ hok h),by omega,?_,?_⟩
   ·repeat (first|exact LCov.nil|refine LCov.same trivial rfl ?_|refine LCov.same (lt_dec rfl) rfl ?_|refine LCov.same ⟨trivial,lt_dec rfl,trivial⟩ rfl ?_|refine LCov.same ⟨trivial,lt_dec rfl,lt_dec rfl,trivial⟩ rfl ?_|refine LCov.same ⟨trivial,lt_dec rfl,lt_dec rfl,lt_dec rfl,trivial⟩ rfl ?_|refine LCov.same ⟨trivial,trivial⟩ rfl ?_|refine LCov.cons trivial rfl (.of_eq (lst_len (by simp<;>omega))) ?_)
   ·repeat (first|exact HCov.nil|(refine HCov.cons (lt_dec rfl) ?_ rfl ?_ ?_;(first|exact HB.under_of rfl|exact PVs.under_pure _ _);(first|exact HLe.refl _)))
  ·rw [decide_eq_false h] at he
   rw [decide_eq_false (fun e=>h (by rw [e]))]
   repeat' (first|apply VWp.assoc|apply VWp.rseq|apply VWp.rseqD|apply VWp.skipSeq|apply VWp.blockSeq|apply QSeq.ret|apply QBlk.ret|apply QLoop.ret|apply VWp.ret|apply VOps.nil|apply VOpsD.nil|apply VOps.one|(apply VOpsD.bar;decide +kernel)|apply VOpsD.quiet|(apply VVal.neSt1;rfl;rfl;exact freeCpl;exact he)|(apply VVal.assign;rfl)|(apply VVal.move;rfl)|(apply VVal.int;rfl;rfl;rfl)|(apply VVal.indexN;rfl;rfl;rfl;omega;rfl)|(apply VVal.load;rfl;rfl)|(apply VVal.lenF;rfl;rfl)|(apply VVal.fieldB;rfl;rfl;rfl)|(apply VWp.condSeq_dec;rfl)|(apply VWp.cond_true;rfl)|(intro _;try (exfalso;omega)))
   all_goals first|(exfalso;omega)|contradiction|(refine Done.ret rfl (.refl _) (by first|exact trivial|exact tr3|exact tr4) HCov.nil (Nat.zero_le _) (Nat.le_refl _) ⟨?_,rfl,rfl⟩;try rfl)
 intro hok2
 have hC:=gi_ext h4 hok2
 repeat' (first|apply VWp.assoc|apply VWp.rseq|apply VWp.exitSeq|apply VWp.blockSeq|apply QSeq.normal|apply QBlk.exit|apply QLoop.exit|apply VOps.nil|apply VOps.one|(apply VVal.assign;rfl)|(apply VVal.move;rfl)|(apply VVal.int;rfl;rfl;rfl)|(apply VVal.load;rfl;rfl)|(apply VVal.lenF;rfl;rfl)|(apply VVal.fieldB;rfl;rfl;rfl)|(apply VWp.condSeq_dec;rfl)|(intro _;try (exfalso;omega)))
 all_goals try contradiction
 all_goals try (exfalso;omega)
 apply VWp.loopRI (a.divs.length) (fun k=>∀ i,i<k→gi a.divs i=gi b.divs i) [(2,_),(3,_)] [(0,_),(1,_)] (fun k r=>(7,.p (.int .i64 (k:Int)))::r) (fun k r=>r) 2
 ·omega
 ·omega
 ·repeat (first|exact LCov.nil|(refine LCov.eq rfl ?_ ?_;(first|exact PV.under_of rfl|(simp [PV.under,PVs.under];done)))|refine LCov.cons trivial rfl (.of_eq (lst_len (by simp<;>omega))) ?_)
 ·repeat (first|exact HCov.nil|(refine HCov.eq rfl (lt_dec rfl) ?_ ?_;(first|exact HB.under_of rfl|exact PVs.under_pure _ _))|(refine HCov.cons (lt_dec rfl) ?_ rfl ?_ ?_;(first|exact trivial|exact PVs.under_pure _ _);(first|exact HLe.refl _)))
 ·first|(intro _ _;omega)|omega|trivial
 ·intro k hk hok
  have sa:=ha.dv k hk
  have sb:=hb.dv k (by omega)
  have sa1:=sa.stops
  have sb1:=sb.stops
  have hf:=eqCps ⟨(gi a.divs k).lo,(gi a.divs k).hi⟩ ⟨(gi b.divs k).lo,(gi b.divs k).hi⟩
  by_cases hh:(gi a.divs k).name=(gi b.divs k).name∧(gi a.divs k).pedal=(gi b.divs k).pedal∧(⟨(gi a.divs k).lo,(gi a.divs k).hi⟩:Cps)=⟨(gi b.divs k).lo,(gi b.divs k).hi⟩∧(gi a.divs k).stops.length=(gi b.divs k).stops.length
  case neg =>
   rw [decide_eq_false (fun e=>hh (by subst e;exact ⟨rfl,rfl,rfl,rfl⟩))]
   generalize hg1:decide ((gi a.divs k).name=(gi b.divs k).name)=g1 at *
   generalize hg2:((gi a.divs k).pedal != (gi b.divs k).pedal)=g2 at *
   generalize hg3:decide ((⟨(gi a.divs k).lo,(gi a.divs k).hi⟩:Cps)=⟨(gi b.divs k).lo,(gi b.divs k).hi⟩)=g3 at *
   cases g1<;>cases g2<;>cases g3
   all_goals
    repeat' (first|(refine VOpsD.atIdx 12 ?_;apply VOpsD.weak [.tmp 92,.tmp 95];decide +kernel;rfl;rfl;(first|exact VOwn.ref rfl|exact VOwn.vec rfl|exact VOwn.eref rfl);decide +kernel;rfl)|apply VWp.assoc|apply VWp.rseq|apply VWp.rseqD|apply VWp.skipSeq|apply VWp.retSeq|apply VWp.blockSeq|apply QSeq.ret|apply QBlk.ret|apply QLoop.ret|apply VWp.blockQ|apply VOps.nil|apply VOpsD.nil|apply VOps.one|(apply VOpsD.bar;decide +kernel)|apply VOpsD.quiet|(apply VOps.take;rfl;rfl)|(apply VOps.drop;rfl;rfl;rfl)|(apply VVal.neSd;rfl;rfl;exact hg1)|((apply VVal.neB;rfl;rfl;rfl;rw [hg2]))|(apply VVal.neSt1;rfl;rfl;exact freeCps;exact hf)|(apply VVal.assign;rfl)|(apply VVal.move;rfl)|(apply VVal.int;rfl;rfl;rfl)|(apply VVal.indexN;rfl;rfl;rfl;omega;rfl)|(apply VVal.load;rfl;rfl)|(apply VVal.pick_true;rfl;rfl)|(apply VVal.pick_false;rfl;rfl)|(apply VVal.lenF;rfl;rfl)|(apply VVal.fieldB;rfl;rfl;rfl)|(apply VVal.alloc;rfl)|(apply VVal.storeB;rfl;rfl;rfl;trivial;rfl;rfl;exact lt_dec rfl;exact le_dec rfl)|(apply VWp.condSeq_true;rfl)|(apply VWp.condSeq_dec;rfl)|(intro _;try (exfalso;omega)))
   all_goals first|(exfalso;omega)|contradiction|((refine Done.ret rfl (.refl _) (by first|exact trivial|exact tr3|exact tr4) HCov.nil (Nat.zero_le _) (Nat.le_refl _) ⟨?_,rfl,rfl⟩;try rfl);done)|(exfalso;apply hh;refine ⟨of_decide_eq_true hg1,by simpa using hg2,of_decide_eq_true hg3,by omega⟩)
  obtain ⟨e1,e2,e3,e4⟩:=hh
  have g1:=decide_eq_true e1
  have g2:((gi a.divs k).pedal != (gi b.divs k).pedal)=false:=by simpa using e2
  rw [decide_eq_true e3] at hf
  repeat' (first|(refine VOpsD.atIdx 12 ?_;apply VOpsD.weak [.tmp 92,.tmp 95];decide +kernel;rfl;rfl;(first|exact VOwn.ref rfl|exact VOwn.vec rfl|exact VOwn.eref rfl);decide +kernel;rfl)|apply VWp.assoc|apply VWp.rseq|apply VWp.rseqD|apply VWp.skipSeq|apply VWp.blockSeq|apply VWp.blockQ|apply VOps.nil|apply VOpsD.nil|apply VOps.one|(apply VOpsD.bar;decide +kernel)|apply VOpsD.quiet|(apply VOps.take;rfl;rfl)|(apply VVal.neSd;rfl;rfl;exact g1)|((apply VVal.neB;rfl;rfl;rfl;rw [g2]))|(apply VVal.neSt1;rfl;rfl;exact freeCps;exact hf)|(apply VVal.assign;rfl)|(apply VVal.move;rfl)|(apply VVal.int;rfl;rfl;rfl)|(apply VVal.indexN;rfl;rfl;rfl;omega;rfl)|(apply VVal.load;rfl;rfl)|(apply VVal.pick_false;rfl;rfl)|(apply VVal.lenF;rfl;rfl)|(apply VVal.fieldB;rfl;rfl;rfl)|(apply VVal.alloc;rfl)|(apply VVal.storeB;rfl;rfl;rfl;trivial;rfl;rfl;exact lt_dec rfl;exact le_dec rfl)|(apply VWp.condSeq_dec;rfl)|(intro _;try (exfalso;omega)))
  all_goals try contradiction
  all_goals try (exfalso;omega)
  apply VWp.loopRI ((gi a.divs k).stops.length) (fun k_=>∀ i,i<k_→gi (gi a.divs k).stops i=gi (gi b.divs k).stops i) [(2,_),(3,_),(7,_),(8,_),(9,_)] [(0,_),(1,_),(2,_),(3,_)] (fun k_ r=>(10,.p (.int .i64 (k_:Int)))::r) (fun k_ r=>r) 4
  ·omega
  ·omega
  ·repeat (first|exact LCov.nil|(refine LCov.eq rfl ?_ ?_;(first|exact PV.under_of rfl|(simp [PV.under,PVs.under];done)))|refine LCov.cons trivial rfl (.of_eq (lst_len (by simp<;>omega))) ?_)
  ·repeat (first|exact HCov.nil|(refine HCov.eq rfl (lt_dec rfl) ?_ ?_;(first|exact HB.under_of rfl|exact PVs.under_pure _ _))|(refine HCov.cons (lt_dec rfl) ?_ rfl ?_ ?_;(first|exact trivial|exact PVs.under_pure _ _);(first|exact HLe.refl _)))
  ·first|(intro _ _;omega)|omega|trivial
  ·intro j hj hoj
   have hs:=sameStop_spec (gi (gi a.divs k).stops j) (gi (gi b.divs k).stops j) (sa.all j hj) (sb.all j (by omega))
   by_cases h:gi (gi a.divs k).stops j=gi (gi b.divs k).stops j
   ·rw [decide_eq_true h] at hs
    repeat' (first|apply VWp.assoc|apply VWp.rseq|apply VWp.rseqD|apply VWp.region|apply VWp.skipSeq|apply VWp.blockSeq|apply QSeq.normal|apply QBlk.normal|apply VWp.skip|apply VOps.nil|apply VOpsD.nil|apply VOps.one|(apply VOpsD.bar;decide +kernel)|apply VOpsD.quiet|(apply VVal.fn;rfl;rfl;exact hs;intro _;rfl)|(apply VVal.assign;rfl)|(apply VVal.move;rfl)|(apply VVal.add64;rfl;rfl;omega)|(apply VVal.int;rfl;rfl;rfl)|(apply VVal.indexN;rfl;rfl;rfl;omega;rfl)|(apply VVal.load;rfl;rfl)|(apply VVal.lenF;rfl;rfl)|(apply VVal.fieldB;rfl;rfl;rfl)|(apply VVal.not;rfl)|(apply VWp.condSeq_dec;rfl)|(apply VWp.cond_false;rfl)|(intro _;try (exfalso;omega)))
    all_goals try contradiction
    all_goals try (exfalso;omega)
    refine QLoop.normal ⟨(all_succ hoj h),by omega,?_,?_⟩
    ·repeat (first|exact LCov.nil|refine LCov.same trivial rfl ?_|refine LCov.same (lt_dec rfl) rfl ?_|refine LCov.same ⟨trivial,lt_dec rfl,trivial⟩ rfl ?_|refine LCov.same ⟨trivial,lt_dec rfl,lt_dec rfl,trivial⟩ rfl ?_|refine LCov.same ⟨trivial,lt_dec rfl,lt_dec rfl,lt_dec rfl,trivial⟩ rfl ?_|refine LCov.same ⟨trivial,trivial⟩ rfl ?_|refine LCov.cons trivial rfl (.of_eq (lst_len (by simp<;>omega))) ?_)
    ·repeat (first|exact HCov.nil|(refine HCov.cons (lt_dec rfl) ?_ rfl ?_ ?_;(first|exact HB.under_of rfl|exact PVs.under_pure _ _);(first|exact HLe.refl _)))
   ·rw [decide_eq_false h] at hs
    rw [decide_eq_false (fun e=>h (by rw [e]))]
    repeat' (first|apply VWp.assoc|apply VWp.rseq|apply VWp.rseqD|apply VWp.skipSeq|apply VWp.blockSeq|apply QSeq.ret|apply QBlk.ret|apply QLoop.ret|apply VWp.ret|apply VOps.nil|apply VOpsD.nil|apply VOps.one|(apply VOpsD.bar;decide +kernel)|apply VOpsD.quiet|(apply VVal.fn;rfl;rfl;exact hs;intro _;rfl)|(apply VVal.assign;rfl)|(apply VVal.move;rfl)|(apply VVal.int;rfl;rfl;rfl)|(apply VVal.indexN;rfl;rfl;rfl;omega;rfl)|(apply VVal.load;rfl;rfl)|(apply VVal.lenF;rfl;rfl)|(apply VVal.fieldB;rfl;rfl;rfl)|(apply VVal.not;rfl)|(apply VWp.condSeq_dec;rfl)|(apply VWp.cond_true;rfl)|(intro _;try (exfalso;omega)))
    all_goals first|(exfalso;omega)|contradiction|(refine Done.ret rfl (.refl _) (by first|exact trivial|exact tr3|exact tr4) HCov.nil (Nat.zero_le _) (Nat.le_refl _) ⟨?_,rfl,rfl⟩;try rfl)
  ·intro hoj
   have e5:=gi_ext e4 hoj
   have h10:gi a.divs k=gi b.divs k:=by
    have e6:=Cps.mk.inj e3
    generalize gi a.divs k=s at *
    generalize gi b.divs k=t at *
    cases s;cases t;simp_all
   repeat' (first|apply VWp.assoc|apply VWp.rseq|apply VWp.region|apply VWp.exitSeq|apply QSeq.normal|apply QBlk.normal|apply QBlk.exit|apply QLoop.exit|apply VOps.nil|apply VOps.one|(apply VVal.assign;rfl)|(apply VVal.move;rfl)|(apply VVal.add64;rfl;rfl;omega)|(apply VVal.int;rfl;rfl;rfl)|(apply VVal.load;rfl;rfl)|(apply VVal.lenF;rfl;rfl)|(apply VVal.fieldB;rfl;rfl;rfl)|(apply VWp.condSeq_dec;rfl)|(intro _;try (exfalso;omega)))
   all_goals try contradiction
   all_goals try (exfalso;omega)
   refine QLoop.normal ⟨(all_succ hok h10),by omega,?_,?_⟩
   ·repeat (first|exact LCov.nil|refine LCov.same trivial rfl ?_|refine LCov.same (lt_dec rfl) rfl ?_|refine LCov.same ⟨trivial,lt_dec rfl,trivial⟩ rfl ?_|refine LCov.same ⟨trivial,lt_dec rfl,lt_dec rfl,trivial⟩ rfl ?_|refine LCov.same ⟨trivial,lt_dec rfl,lt_dec rfl,lt_dec rfl,trivial⟩ rfl ?_|refine LCov.same ⟨trivial,trivial⟩ rfl ?_|refine LCov.cons trivial rfl (.of_eq (lst_len (by simp<;>omega))) ?_)
   ·repeat (first|exact HCov.nil|(refine HCov.cons (lt_dec rfl) ?_ rfl ?_ ?_;(first|exact HB.under_of rfl|exact PVs.under_pure _ _);(first|exact HLe.refl _)))
 intro hok3
 have hD:=gi_ext h3 hok3
 rw [decide_eq_true (show a=b by cases a;cases b;simp_all)]
 repeat' (first|apply VWp.assoc|apply VWp.rseq|apply VWp.exitSeq|apply QSeq.normal|apply QBlk.exit|apply QLoop.exit|apply VWp.ret|apply VOps.nil|apply VOps.one|(apply VVal.assign;rfl)|(apply VVal.move;rfl)|(apply VVal.int;rfl;rfl;rfl)|(apply VVal.load;rfl;rfl)|(apply VVal.lenF;rfl;rfl)|(apply VVal.fieldB;rfl;rfl;rfl)|(apply VWp.condSeq_dec;rfl)|(intro _;try (exfalso;omega)))
 all_goals first|(exfalso;omega)|contradiction|(refine Done.ret rfl (.refl _) (by first|exact trivial|exact tr3|exact tr4) HCov.nil (Nat.zero_le _) (Nat.le_refl _) ⟨?_,rfl,rfl⟩;try rfl)
end Go.Proofs.YtcnlhgmkelkikaaGreatDoor
