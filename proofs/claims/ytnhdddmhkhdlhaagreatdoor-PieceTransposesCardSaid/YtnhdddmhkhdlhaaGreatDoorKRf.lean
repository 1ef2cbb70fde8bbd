/-
  Texts of a proof, merged (PieT, OrKa, Vm43, PieH, PieI, PieK, Vm44, Vm39, PieU, PieS, Vm35, TraA, PieN, PieO, RkQ, OrK, OrP, PieV, PieX, PieZ, PieTr, PieTs). Conditions: in each statement.
-/
import Derived.Test.YtnhdddmhkhdlhaaGreatDoorKRe
set_option linter.unusedSimpArgs false
set_option linter.unusedVariables false
set_option linter.unusedSectionVars false
set_option maxRecDepth 100000
set_option maxHeartbeats 8000000
namespace Go.Proofs.YtnhdddmhkhdlhaaGreatDoor
open Go Go.Am Go.Vm Go.Pie
attribute [local irreducible] VVal VOps VOpsD VWp VCalls VFun VFunV QSeq QBlk QLoop Vm.Done DoneV DoneI
attribute [local irreducible] rchk windsE stoE dvsE cplE shiftR tailH
theorem fstB_def (p:Pce):fstB p=gi p.bars (nat_lit 0):=rfl
theorem endB_def (p:Pce):endB p=gi p.bars (p.bars.length-1):=rfl
def lwR (r:Rgs) (p:Pce) (t:Int):Nat→Rgs
 |0=>r
 |k+1=>if gi p.bars (gi p.sets k).bar.toNat≤t then (gi p.sets k).reg else lwR r p t k
theorem note1_spec (n m:Nte):VRead env 88 ([.p (.agg (Enc.enc m))]++[.ref 0 0]) [(0,nteB n)] 1 (.bool (ovl m n)):=by
 have h:=ovl_spec m n
 refine VRead.enter (env_none (by decide)) Tryz.func88 rfl (by kernel_rfl) (by simp [Tryz.ntmps88]) ?_
 repeat' (first|apply VWp.rseq|apply VWp.ret|apply VOps.nil|apply VOps.one|(apply VVal.fn;rfl;rfl;exact h;intro _;rfl)|(apply VVal.assign;rfl)|(apply VVal.load;rfl;rfl)|(apply VVal.box;rfl;trivial))
 all_goals first|(exfalso;omega)|(refine Done.ret rfl (.refl _) trivial ?_ (by omega) (Nat.le_refl _) ⟨?_,rfl,rfl⟩;repeat (first|exact HCov.nil|(refine HCov.cons (lt_dec rfl) ?_ rfl ?_ ?_;(first|exact HB.under_of rfl|exact PVs.under_pure _ _|(simp [HB.under,PVs.under,PV.under]));(first|exact HLe.refl _|exact HLe.vec (FLes.refl _) (by simp))));try rfl)
theorem lnote_spec (o:Org) (p:Pce) (ho:OrgSm o) (h:PceSm p) (h0:0<p.bars.length) (i:Nat) (hi:i<p.notes.length):VFun env 67 [.agg (Enc.enc o),.agg (Enc.enc p),.int .i64 (i:Int),.agg (Enc.enc (gi p.notes i))] (.p (.int .i64 (noteE o (fstB p) (endB p) (p.notes.take i) (gi p.notes i)))):=by
 have b1:=h.bars
 have b2:=h.notes
 have hd:=ho.divs
 have hn:(p.bars.length:Int)-1=((p.bars.length-1:Nat):Int):=by omega
 have e1:=fstB_def p
 have e2:=endB_def p
 have lt:(p.notes.take i).length=i:=by rw [List.length_take];omega
 have hany:=anyNte 88 (gi p.notes i) (p.notes.take i) 66 (fun m=>ovl m (gi p.notes i)) (by omega) (fun m=>note1_spec (gi p.notes i) m)
 rw [lt] at hany
 unfold noteE
 generalize gi p.notes i=n at *
 refine VFun.enter (env_none (by decide)) Tryz.func67 rfl (by kernel_rfl) (by simp [Tryz.ntmps67]) ?_
 by_cases h1:n.d<0∨n.d≥o.divs.length
 ·rw [if_pos h1]
  repeat' (first|apply VWp.rseq|apply VWp.blockSeq|apply QSeq.ret|apply QBlk.ret|apply VWp.ret|apply VOps.nil|apply VOps.one|(apply VOps.take;rfl;rfl)|(apply VOps.drop;rfl;rfl;rfl)|(apply VOps.guard;rfl;rfl)|(apply VVal.assign;rfl)|(apply VVal.move;rfl)|(apply VVal.int;rfl;rfl;rfl)|(apply VVal.load;rfl;rfl)|(apply VVal.pick_true;rfl;rfl)|(apply VVal.pick_false;rfl;rfl)|(apply VVal.lenF;rfl;rfl)|(apply VVal.fieldB;rfl;rfl;rfl)|(apply VVal.box;rfl;trivial)|(apply VWp.cond_true;rfl)|(apply VWp.cond_dec;rfl)|(intro _;try (exfalso;omega)))
  all_goals first|(exfalso;omega)|(refine Done.ret rfl (.refl _) (by exact PV.under_of rfl) HCov.nil (Nat.zero_le _) (Nat.le_refl _) ⟨?_,rfl,rfl⟩;try rfl)
 rw [if_neg h1]
 by_cases h2:n.k<(gi o.divs n.d.toNat).lo∨n.k>(gi o.divs n.d.toNat).hi
 ·rw [if_pos h2]
  repeat' (first|apply VWp.rseq|apply VWp.rseqD|apply VWp.blockSeq|apply QSeq.ret|apply QBlk.ret|apply VWp.ret|apply VOps.nil|apply VOpsD.nil|apply VOps.one|(apply VOpsD.bar;decide +kernel)|apply VOpsD.quiet|(apply VOps.take;rfl;rfl)|(apply VOpsD.quietTake;rfl;rfl)|(apply VOpsD.drop;rfl;rfl;rfl)|(apply VOps.guard;rfl;rfl)|(apply VOpsD.guard;rfl;rfl)|(apply VVal.assign;rfl)|(apply VVal.move;rfl)|(apply VVal.int;rfl;rfl;rfl)|(apply VVal.indexE;rfl;rfl;rfl;omega;omega;rfl)|(apply VVal.load;rfl;rfl)|(apply VVal.pick_true;rfl;rfl)|(apply VVal.pick_false;rfl;rfl)|(apply VVal.lenF;rfl;rfl)|(apply VVal.fieldB;rfl;rfl;rfl)|(apply VVal.fieldF;rfl;rfl)|(apply VVal.box;rfl;trivial)|(apply VWp.cond_true;rfl)|(apply VWp.cond_dec;rfl)|(intro _;try (exfalso;omega)))
  all_goals first|(exfalso;omega)|(refine Done.ret rfl (.refl _) (by exact PV.under_of rfl) HCov.nil (Nat.zero_le _) (Nat.le_refl _) ⟨?_,rfl,rfl⟩;try rfl)
 rw [if_neg h2]
 by_cases h3:n.s<fstB p∨n.e>endB p
 ·rw [if_pos h3]
  repeat' (first|apply VWp.rseq|apply VWp.rseqD|apply VWp.blockSeq|apply QSeq.ret|apply QBlk.ret|apply VWp.ret|apply VOps.nil|apply VOpsD.nil|apply VOps.one|(apply VOpsD.bar;decide +kernel)|apply VOpsD.quiet|(apply VOps.take;rfl;rfl)|(apply VOpsD.quietTake;rfl;rfl)|(apply VOpsD.drop;rfl;rfl;rfl)|(apply VOps.guard;rfl;rfl)|(apply VOpsD.guard;rfl;rfl)|(apply VVal.indexN (l:=p.bars) (i:=p.bars.length-1);rfl;exact congrArg (fun b=>some (PV.p (.int .i64 b))) hn;rfl;omega;rfl)|(apply VVal.assign;rfl)|(apply VVal.move;rfl)|(apply VVal.sub64;rfl;rfl;omega)|(apply VVal.int;rfl;rfl;rfl)|(apply VVal.indexN;rfl;rfl;rfl;omega;rfl)|(apply VVal.indexE;rfl;rfl;rfl;omega;omega;rfl)|(apply VVal.load;rfl;rfl)|(apply VVal.pick_true;rfl;rfl)|(apply VVal.pick_false;rfl;rfl)|(apply VVal.lenF;rfl;rfl)|(apply VVal.fieldB;rfl;rfl;rfl)|(apply VVal.fieldF;rfl;rfl)|(apply VVal.box;rfl;trivial)|(apply VWp.cond_true;rfl)|(apply VWp.cond_dec;rfl)|(intro _;try (exfalso;omega)))
  all_goals first|(exfalso;omega)|(refine Done.ret rfl (.refl _) (by exact PV.under_of rfl) HCov.nil (Nat.zero_le _) (Nat.le_refl _) ⟨?_,rfl,rfl⟩;try rfl)
 rw [if_neg h3]
 by_cases h4:n.s≥n.e
 ·rw [if_pos h4]
  repeat' (first|apply VWp.rseq|apply VWp.rseqD|apply VWp.blockSeq|apply QSeq.ret|apply QBlk.ret|apply VWp.ret|apply VOps.nil|apply VOpsD.nil|apply VOps.one|(apply VOpsD.bar;decide +kernel)|apply VOpsD.quiet|(apply VOps.take;rfl;rfl)|(apply VOpsD.quietTake;rfl;rfl)|(apply VOps.guard;rfl;rfl)|(apply VOpsD.guard;rfl;rfl)|(apply VVal.indexN (l:=p.bars) (i:=p.bars.length-1);rfl;exact congrArg (fun b=>some (PV.p (.int .i64 b))) hn;rfl;omega;rfl)|(apply VVal.assign;rfl)|(apply VVal.move;rfl)|(apply VVal.sub64;rfl;rfl;omega)|(apply VVal.int;rfl;rfl;rfl)|(apply VVal.indexN;rfl;rfl;rfl;omega;rfl)|(apply VVal.indexE;rfl;rfl;rfl;omega;omega;rfl)|(apply VVal.load;rfl;rfl)|(apply VVal.pick_false;rfl;rfl)|(apply VVal.lenF;rfl;rfl)|(apply VVal.fieldB;rfl;rfl;rfl)|(apply VVal.fieldF;rfl;rfl)|(apply VVal.box;rfl;trivial)|(apply VWp.cond_dec;rfl)|(intro _;try (exfalso;omega)))
  all_goals first|(exfalso;omega)|(refine Done.ret rfl (.refl _) (by exact PV.under_of rfl) HCov.nil (Nat.zero_le _) (Nat.le_refl _) ⟨?_,rfl,rfl⟩;try rfl)
 rw [if_neg h4]
 by_cases h5:(p.notes.take i).any (fun m=>ovl m n)=true
 all_goals first|rw [h5] at hany|rw [show (p.notes.take i).any (fun m=>ovl m n)=false by simpa using h5] at hany
 all_goals first|rw [if_pos h5]|rw [if_neg h5]
 all_goals
  repeat' (first|apply VWp.rseq|apply VWp.rseqD|apply VWp.blockSeq|apply QSeq.normal|apply QSeq.ret|apply QBlk.normal|apply QBlk.ret|apply VWp.ret|apply VWp.skip|apply VOps.nil|apply VOpsD.nil|apply VOps.one|(apply VOpsD.bar;decide +kernel)|apply VOpsD.quiet|(apply VOps.take;rfl;rfl)|(apply VOpsD.quietTake;rfl;rfl)|(apply VOps.guard;rfl;rfl)|(apply VOpsD.guard;rfl;rfl)|(apply VVal.read [2] hany;rfl;rfl;exact .of_eq rfl;exact PVs.under_of rfl;exact HUnder_of rfl;(repeat (first|exact trivial|refine ⟨⟨_,rfl,.of_eq rfl⟩,?_⟩));decide;(intro _ hb;simp at hb<;>omega);rfl)|(apply VVal.indexN (l:=p.bars) (i:=p.bars.length-1);rfl;exact congrArg (fun b=>some (PV.p (.int .i64 b))) hn;rfl;omega;rfl)|(apply VVal.makeFunc;rfl;rfl)|(apply VVal.assign;rfl)|(apply VVal.move;rfl)|(apply VVal.sub64;rfl;rfl;omega)|(apply VVal.int;rfl;rfl;rfl)|(apply VVal.indexN;rfl;rfl;rfl;omega;rfl)|(apply VVal.indexE;rfl;rfl;rfl;omega;omega;rfl)|(apply VVal.load;rfl;rfl)|(apply VVal.pick_false;rfl;rfl)|(apply VVal.lenF;rfl;rfl)|(apply VVal.fieldB;rfl;rfl;rfl)|(apply VVal.fieldF;rfl;rfl)|(apply VVal.box;rfl;trivial)|(apply VVal.sliceTo;rfl;rfl;rfl;rfl;rfl;rfl;omega)|(apply VWp.cond_true;rfl)|(apply VWp.cond_false;rfl)|(apply VWp.cond_dec;rfl)|(intro _;try (exfalso;omega)))
 all_goals first|(exfalso;omega)|(refine Done.ret rfl (.refl _) (by exact PV.under_of rfl) HCov.nil (Nat.zero_le _) (Nat.le_refl _) ⟨?_,rfl,rfl⟩;try rfl)
theorem lcheck_spec {o:Org} {p:Pce} (k1:OrgK o) (hp:PceSm p):VFun env 29 [.agg (Enc.enc o),.agg (Enc.enc p)] (.p (.int .i64 (restE o p))):=by
 have b1:=hp.bars
 have b2:=hp.notes
 have b3:=hp.sets
 unfold restE barsE
 refine VFun.enter (env_none (by decide)) Tryz.func29 rfl (by kernel_rfl) (by simp [Tryz.ntmps29]) ?_
 by_cases c1:p.bars.length<2
 ·rw [if_pos c1]
  repeat' (first|apply VWp.assoc|apply VWp.rseq|apply VWp.retSeq|apply VOps.nil|apply VOps.one|(apply VVal.assign;rfl)|(apply VVal.int;rfl;rfl;rfl)|(apply VVal.load;rfl;rfl)|(apply VVal.lenF;rfl;rfl)|(apply VVal.fieldB;rfl;rfl;rfl)|(apply VVal.box;rfl;trivial)|(apply VWp.condSeq_dec;rfl)|(intro _;try (exfalso;omega)))
  all_goals first|(exfalso;omega)|(refine Done.ret rfl (.refl _) (by exact PV.under_of rfl) HCov.nil (Nat.zero_le _) (Nat.le_refl _) ⟨?_,rfl,rfl⟩;try rfl)
 rw [if_neg c1]
 by_cases c2:p.bars.length>201
 ·rw [if_pos c2]
  repeat' (first|apply VWp.assoc|apply VWp.rseq|apply VWp.skipSeq|apply VWp.retSeq|apply VOps.nil|apply VOps.one|(apply VVal.assign;rfl)|(apply VVal.int;rfl;rfl;rfl)|(apply VVal.load;rfl;rfl)|(apply VVal.lenF;rfl;rfl)|(apply VVal.fieldB;rfl;rfl;rfl)|(apply VVal.box;rfl;trivial)|(apply VWp.condSeq_dec;rfl)|(intro _;try (exfalso;omega)))
  all_goals first|(exfalso;omega)|(refine Done.ret rfl (.refl _) (by exact PV.under_of rfl) HCov.nil (Nat.zero_le _) (Nat.le_refl _) ⟨?_,rfl,rfl⟩;try rfl)
 rw [if_neg c2]
 repeat' (first|apply VWp.assoc|apply VWp.rseq|apply VWp.skipSeq|apply VWp.blockSeq|apply VOps.nil|apply VOps.one|(apply VVal.assign;rfl)|(apply VVal.move;rfl)|(apply VVal.int;rfl;rfl;rfl)|(apply VVal.load;rfl;rfl)|(apply VVal.lenF;rfl;rfl)|(apply VVal.fieldB;rfl;rfl;rfl)|(apply VVal.box;rfl;trivial)|(apply VWp.condSeq_dec;rfl)|(intro _;try (exfalso;omega)))
 all_goals try (exfalso;omega)
 apply VWp.loopRI (p.bars.length) (fun k=>barK p.bars k=barK p.bars 0) [(2,_),(3,_),(22,_),(23,_)] [(0,_),(1,_)] (fun k r=>(24,.p (.int .i64 (k:Int)))::r) (fun k r=>r) 2
 ·first|omega|decide
 ·first|omega|decide
 ·repeat (first|exact LCov.nil|(refine LCov.eq rfl ?_ ?_;(first|exact PV.under_of rfl|(simp [PV.under,PVs.under];done)))|refine LCov.cons trivial rfl (.of_eq (lst_len (by simp<;>omega))) ?_)
 ·repeat (first|exact HCov.nil|(refine HCov.eq rfl (lt_dec rfl) ?_ ?_;(first|exact HB.under_of rfl|exact PVs.under_pure _ _|(simp [HB.under,PVs.under,PV.under];done)))|(refine HCov.cons (lt_dec rfl) ?_ rfl ?_ ?_;(first|exact trivial|exact PVs.under_pure _ _|(simp [HB.under,PVs.under,PV.under]));(first|exact HLe.refl _|exact HLe.vec (FLes.refl _) (by simp))))
 ·first|(intro _ _;omega)|omega|trivial
 ·intro k hk hi
  have e:=barK_at hk
  have hkc:0<k→(k:Int)-1=((k-1:Nat):Int):=fun h=>by omega
  by_cases h1:gi p.bars k<0∨gi p.bars k>100000
  ·rw [if_pos h1] at e
   rw [← hi,e,if_pos (by decide)]
   repeat' (first|apply VWp.assoc|apply VWp.rseq|apply VWp.skipSeq|apply VWp.retSeq|apply VWp.blockSeq|apply QSeq.ret|apply QBlk.ret|apply QLoop.ret|apply VOps.nil|apply VOps.one|(apply VOps.take;rfl;rfl)|(apply VOps.drop;rfl;rfl;rfl)|(apply VOps.guard;rfl;rfl)|(apply VVal.assign;rfl)|(apply VVal.move;rfl)|(apply VVal.int;rfl;rfl;rfl)|(apply VVal.indexN;rfl;rfl;rfl;omega;rfl)|(apply VVal.load;rfl;rfl)|(apply VVal.pick_true;rfl;rfl)|(apply VVal.pick_false;rfl;rfl)|(apply VWp.condSeq_true;rfl)|(apply VWp.condSeq_dec;rfl)|(intro _;try (exfalso;omega)))
   all_goals first|(exfalso;omega)|(refine Done.ret rfl (.refl _) (by exact PV.under_of rfl) HCov.nil (Nat.zero_le _) (Nat.le_refl _) ⟨?_,rfl,rfl⟩;try rfl)
  rw [if_neg h1] at e
  by_cases h2:0<k∧gi p.bars k≤gi p.bars (k-1)
  ·rw [if_pos h2] at e
   rw [← hi,e,if_pos (by decide)]
   repeat' (first|apply VWp.assoc|apply VWp.rseq|apply VWp.skipSeq|apply VWp.blockSeq|apply QSeq.ret|apply QBlk.ret|apply QLoop.ret|apply VWp.ret|apply VOps.nil|apply VOps.one|(apply VOps.take;rfl;rfl)|(apply VOps.guard;rfl;rfl)|(apply VVal.indexN (l:=p.bars) (i:=k-1);rfl;exact congrArg (fun b=>some (PV.p (.int .i64 b))) (hkc h2.1);rfl;omega;rfl)|(apply VVal.assign;rfl)|(apply VVal.move;rfl)|(apply VVal.sub64;rfl;rfl;omega)|(apply VVal.int;rfl;rfl;rfl)|(apply VVal.indexN;rfl;rfl;rfl;omega;rfl)|(apply VVal.load;rfl;rfl)|(apply VVal.pick_true;rfl;rfl)|(apply VVal.pick_false;rfl;rfl)|(apply VVal.fieldB;rfl;rfl;rfl)|(apply VWp.condSeq_dec;rfl)|(apply VWp.cond_dec;rfl)|(intro _;try (exfalso;omega)))
   all_goals first|(exfalso;omega)|(refine Done.ret rfl (.refl _) (by exact PV.under_of rfl) HCov.nil (Nat.zero_le _) (Nat.le_refl _) ⟨?_,rfl,rfl⟩;try rfl)
  rw [if_neg h2] at e
  by_cases h0:k=0
  ·repeat' (first|apply VWp.assoc|apply VWp.rseq|apply VWp.region|apply VWp.skipSeq|apply VWp.blockSeq|apply QSeq.normal|apply QBlk.normal|apply VWp.skip|apply VOps.nil|apply VOps.one|(apply VOps.take;rfl;rfl)|(apply VOps.drop;rfl;rfl;rfl)|(apply VOps.guard;rfl;rfl)|(apply VVal.assign;rfl)|(apply VVal.move;rfl)|(apply VVal.add64;rfl;rfl;omega)|(apply VVal.int;rfl;rfl;rfl)|(apply VVal.indexN;rfl;rfl;rfl;omega;rfl)|(apply VVal.load;rfl;rfl)|(apply VVal.pick_false;rfl;rfl)|(apply VWp.condSeq_dec;rfl)|(apply VWp.cond_false;rfl)|(intro _;try (exfalso;omega)))
   all_goals try (exfalso;omega)
   refine QLoop.normal ⟨(e.symm.trans hi),by first|omega|decide,?_,?_⟩
   ·repeat (first|exact LCov.nil|refine LCov.same (by exact PV.under_of rfl) rfl ?_|refine LCov.cons trivial rfl (.of_eq (lst_len (by simp<;>omega))) ?_)
   ·repeat (first|exact HCov.nil|(refine HCov.cons (lt_dec rfl) ?_ rfl ?_ ?_;(first|exact HB.under_of rfl|exact PVs.under_pure _ _|(simp [HB.under,PVs.under,PV.under]));(first|exact HLe.refl _|exact HLe.vec (FLes.refl _) (by simp))))
  ·repeat' (first|apply VWp.assoc|apply VWp.rseq|apply VWp.region|apply VWp.skipSeq|apply VWp.blockSeq|apply QSeq.normal|apply QBlk.normal|apply VWp.skip|apply VOps.nil|apply VOps.one|(apply VOps.take;rfl;rfl)|(apply VOps.guard;rfl;rfl)|(apply VVal.indexN (l:=p.bars) (i:=k-1);rfl;exact congrArg (fun b=>some (PV.p (.int .i64 b))) (hkc (by omega));rfl;omega;rfl)|(apply VVal.assign;rfl)|(apply VVal.move;rfl)|(apply VVal.add64;rfl;rfl;omega)|(apply VVal.sub64;rfl;rfl;omega)|(apply VVal.int;rfl;rfl;rfl)|(apply VVal.indexN;rfl;rfl;rfl;omega;rfl)|(apply VVal.load;rfl;rfl)|(apply VVal.pick_true;rfl;rfl)|(apply VVal.pick_false;rfl;rfl)|(apply VVal.fieldB;rfl;rfl;rfl)|(apply VWp.condSeq_dec;rfl)|(apply VWp.cond_dec;rfl)|(intro _;try (exfalso;omega)))
   all_goals try (exfalso;omega)
   refine QLoop.normal ⟨(e.symm.trans hi),by first|omega|decide,?_,?_⟩
   ·repeat (first|exact LCov.nil|refine LCov.same (by exact PV.under_of rfl) rfl ?_|refine LCov.cons trivial rfl (.of_eq (lst_len (by simp<;>omega))) ?_)
   ·repeat (first|exact HCov.nil|(refine HCov.cons (lt_dec rfl) ?_ rfl ?_ ?_;(first|exact HB.under_of rfl|exact PVs.under_pure _ _|(simp [HB.under,PVs.under,PV.under]));(first|exact HLe.refl _|exact HLe.vec (FLes.refl _) (by simp))))
 intro hi
 rw [barK_end] at hi
 rw [← hi,if_neg (by decide)]
 clear hi
 by_cases c3:p.notes.length>1000
 ·rw [if_pos c3]
  repeat' (first|apply VWp.assoc|apply VWp.rseq|apply VWp.retSeq|apply VWp.exitSeq|apply QSeq.normal|apply QBlk.exit|apply QLoop.exit|apply VOps.nil|apply VOps.one|(apply VVal.assign;rfl)|(apply VVal.int;rfl;rfl;rfl)|(apply VVal.load;rfl;rfl)|(apply VVal.lenF;rfl;rfl)|(apply VVal.fieldB;rfl;rfl;rfl)|(apply VWp.condSeq_dec;rfl)|(intro _;try (exfalso;omega)))
  all_goals first|(exfalso;omega)|(refine Done.ret rfl (.refl _) (by exact PV.under_of rfl) HCov.nil (Nat.zero_le _) (Nat.le_refl _) ⟨?_,rfl,rfl⟩;try rfl)
 rw [if_neg c3]
 repeat' (first|apply VWp.assoc|apply VWp.rseq|apply VWp.skipSeq|apply VWp.exitSeq|apply VWp.blockSeq|apply QSeq.normal|apply QBlk.exit|apply QLoop.exit|apply VOps.nil|apply VOps.one|(apply VVal.move;rfl)|(apply VVal.int;rfl;rfl;rfl)|(apply VVal.load;rfl;rfl)|(apply VVal.lenF;rfl;rfl)|(apply VVal.fieldB;rfl;rfl;rfl)|(apply VWp.condSeq_dec;rfl)|(intro _;try (exfalso;omega)))
 all_goals try (exfalso;omega)
 apply VWp.loopRI (p.notes.length) (fun k=>notesK o (fstB p) (endB p) p.notes k=notesK o (fstB p) (endB p) p.notes 0) [(2,_),(3,_),(53,_),(54,_)] [(0,_),(1,_)] (fun k r=>(55,.p (.int .i64 (k:Int)))::r) (fun k r=>r) 2
 ·first|omega|decide
 ·first|omega|decide
 ·repeat (first|exact LCov.nil|(refine LCov.eq rfl ?_ ?_;(first|exact PV.under_of rfl|(simp [PV.under,PVs.under];done)))|refine LCov.cons trivial rfl (.of_eq (lst_len (by simp<;>omega))) ?_)
 ·repeat (first|exact HCov.nil|(refine HCov.eq rfl (lt_dec rfl) ?_ ?_;(first|exact HB.under_of rfl|exact PVs.under_pure _ _|(simp [HB.under,PVs.under,PV.under];done)))|(refine HCov.cons (lt_dec rfl) ?_ rfl ?_ ?_;(first|exact trivial|exact PVs.under_pure _ _|(simp [HB.under,PVs.under,PV.under]));(first|exact HLe.refl _|exact HLe.vec (FLes.refl _) (by simp))))
 ·first|(intro _ _;omega)|omega|trivial
 ·intro k hk hi
  have e:=notesK_at (o:=o) (a:=fstB p) (z:=endB p) hk
  have hn:=lnote_spec o p k1.sm hp (by omega) k hk
  by_cases h1:noteE o (fstB p) (endB p) (p.notes.take k) (gi p.notes k)=0
  ·rw [if_neg (fun h=>h h1)] at e
   rw [h1] at hn
   repeat' (first|apply VWp.rseq|apply VWp.region|apply VWp.skipSeq|apply VWp.blockSeq|apply QSeq.normal|apply QBlk.normal|apply VWp.skip|apply VOps.nil|apply VOps.one|(apply VVal.fn;rfl;rfl;exact hn;intro _;rfl)|(apply VVal.assign;rfl)|(apply VVal.move;rfl)|(apply VVal.add64;rfl;rfl;omega)|(apply VVal.int;rfl;rfl;rfl)|(apply VVal.indexN;rfl;rfl;rfl;omega;rfl)|(apply VVal.load;rfl;rfl)|(apply VVal.alloc;rfl)|(apply VVal.storeB;rfl;rfl;rfl;trivial;rfl;rfl;exact lt_dec rfl;exact le_dec rfl)|(apply VWp.condSeq_dec;rfl)|(apply VWp.cond_false;rfl)|(intro _;try (exfalso;omega)))
   all_goals try (exfalso;omega)
   all_goals try contradiction
   refine QLoop.normal ⟨(e.symm.trans hi),by first|omega|decide,?_,?_⟩
   ·repeat (first|exact LCov.nil|refine LCov.same (by exact PV.under_of rfl) rfl ?_|refine LCov.cons trivial rfl (.of_eq (lst_len (by simp<;>omega))) ?_)
   ·repeat (first|exact HCov.nil|(refine HCov.cons (lt_dec rfl) ?_ rfl ?_ ?_;(first|exact HB.under_of rfl|exact PVs.under_pure _ _|(simp [HB.under,PVs.under,PV.under]));(first|exact HLe.refl _|exact HLe.vec (FLes.refl _) (by simp))))
  ·rw [if_pos h1] at e
   rw [← hi,e,if_pos h1]
   repeat' (first|apply VWp.rseq|apply VWp.skipSeq|apply VWp.blockSeq|apply QSeq.ret|apply QBlk.ret|apply QLoop.ret|apply VWp.ret|apply VOps.nil|apply VOps.one|(apply VVal.fn;rfl;rfl;exact hn;intro _;rfl)|(apply VVal.assign;rfl)|(apply VVal.move;rfl)|(apply VVal.int;rfl;rfl;rfl)|(apply VVal.indexN;rfl;rfl;rfl;omega;rfl)|(apply VVal.load;rfl;rfl)|(apply VVal.alloc;rfl)|(apply VVal.storeB;rfl;rfl;rfl;trivial;rfl;rfl;exact lt_dec rfl;exact le_dec rfl)|(apply VWp.condSeq_dec;rfl)|(apply VWp.cond_dec;rfl)|(intro _;try (exfalso;omega)))
   all_goals first|(exfalso;omega)|contradiction|(refine Done.ret rfl (.refl _) (by exact PV.under_of rfl) HCov.nil (Nat.zero_le _) (Nat.le_refl _) ⟨?_,rfl,rfl⟩;try rfl)
 intro hi
 rw [notesK_end] at hi
 rw [← hi,if_neg (by decide)]
 clear hi
 by_cases c4:p.sets.length>100
 ·rw [if_pos c4]
  repeat' (first|apply VWp.assoc|apply VWp.rseq|apply VWp.retSeq|apply VWp.exitSeq|apply QSeq.normal|apply QBlk.exit|apply QLoop.exit|apply VOps.nil|apply VOps.one|(apply VVal.assign;rfl)|(apply VVal.int;rfl;rfl;rfl)|(apply VVal.load;rfl;rfl)|(apply VVal.lenF;rfl;rfl)|(apply VVal.fieldB;rfl;rfl;rfl)|(apply VWp.condSeq_dec;rfl)|(intro _;try (exfalso;omega)))
  all_goals first|(exfalso;omega)|(refine Done.ret rfl (.refl _) (by exact PV.under_of rfl) HCov.nil (Nat.zero_le _) (Nat.le_refl _) ⟨?_,rfl,rfl⟩;try rfl)
 rw [if_neg c4]
 obtain ⟨E,hE⟩:∃ E,E=setsK o p.bars.length p.sets 0:=⟨_,rfl⟩
 rw [← hE]
 repeat' (first|apply VWp.assoc|apply VWp.rseq|apply VWp.skipSeq|apply VWp.exitSeq|apply VWp.blockSeq|apply QSeq.normal|apply QBlk.exit|apply QLoop.exit|apply VOps.nil|apply VOps.one|(apply VVal.move;rfl)|(apply VVal.int;rfl;rfl;rfl)|(apply VVal.load;rfl;rfl)|(apply VVal.lenF;rfl;rfl)|(apply VVal.fieldB;rfl;rfl;rfl)|(apply VWp.condSeq_dec;rfl)|(intro _;try (exfalso;omega)))
 all_goals try (exfalso;omega)
 apply VWp.loopRI (p.sets.length) (fun k=>setsK o p.bars.length p.sets k=E) [(2,_),(3,_),(74,_),(75,_)] [(0,_),(1,_)] (fun k r=>(76,.p (.int .i64 (k:Int)))::r) (fun k r=>r) 2
 ·first|omega|decide
 ·first|omega|decide
 ·repeat (first|exact LCov.nil|(refine LCov.eq rfl ?_ ?_;(first|exact PV.under_of rfl|(simp [PV.under,PVs.under];done)))|refine LCov.cons trivial rfl (.of_eq (lst_len (by simp<;>omega))) ?_)
 ·repeat (first|exact HCov.nil|(refine HCov.eq rfl (lt_dec rfl) ?_ ?_;(first|exact HB.under_of rfl|exact PVs.under_pure _ _|(simp [HB.under,PVs.under,PV.under];done)))|(refine HCov.cons (lt_dec rfl) ?_ rfl ?_ ?_;(first|exact trivial|exact PVs.under_pure _ _|(simp [HB.under,PVs.under,PV.under]));(first|exact HLe.refl _|exact HLe.vec (FLes.refl _) (by simp))))
 ·first|(intro _ _;omega)|omega|trivial
 ·intro k hk hi
  have e:=setsK_at (o:=o) (nb:=p.bars.length) hk
  have hr:=regK_spec o k1 (gi p.sets k).reg (hp.reg k hk)
  have hkc:0<k→(k:Int)-1=((k-1:Nat):Int):=fun h=>by omega
  unfold setE at e
  by_cases h1:(gi p.sets k).bar<0∨(gi p.sets k).bar≥(p.bars.length:Int)-1
  ·rw [if_pos h1,if_pos (by decide)] at e
   rw [← hi,e]
   repeat' (first|apply VWp.assoc|apply VWp.rseq|apply VWp.skipSeq|apply VWp.retSeq|apply VWp.blockSeq|apply QSeq.ret|apply QBlk.ret|apply QLoop.ret|apply VOps.nil|apply VOps.one|(apply VOps.take;rfl;rfl)|(apply VOps.drop;rfl;rfl;rfl)|(apply VOps.guard;rfl;rfl)|(apply VVal.assign;rfl)|(apply VVal.move;rfl)|(apply VVal.sub64;rfl;rfl;omega)|(apply VVal.int;rfl;rfl;rfl)|(apply VVal.indexN;rfl;rfl;rfl;omega;rfl)|(apply VVal.load;rfl;rfl)|(apply VVal.pick_true;rfl;rfl)|(apply VVal.pick_false;rfl;rfl)|(apply VVal.lenF;rfl;rfl)|(apply VVal.fieldB;rfl;rfl;rfl)|(apply VVal.alloc;rfl)|(apply VVal.storeB;rfl;rfl;rfl;trivial;rfl;rfl;exact lt_dec rfl;exact le_dec rfl)|(apply VWp.condSeq_true;rfl)|(apply VWp.condSeq_dec;rfl)|(intro _;try (exfalso;omega)))
   all_goals first|(exfalso;omega)|(refine Done.ret rfl (.refl _) (by exact PV.under_of rfl) HCov.nil (Nat.zero_le _) (Nat.le_refl _) ⟨?_,rfl,rfl⟩;try rfl)
  rw [if_neg h1] at e
  by_cases h3:0<k∧(gi p.sets k).bar=(gi p.sets (k-1)).bar
  ·rw [if_pos h3,if_pos (by decide)] at e
   rw [← hi,e]
   repeat' (first|apply VWp.assoc|apply VWp.rseq|apply VWp.rseqD|apply VWp.skipSeq|apply VWp.retSeq|apply VWp.blockSeq|apply QSeq.ret|apply QBlk.ret|apply QLoop.ret|apply VOps.nil|apply VOpsD.nil|apply VOps.one|(apply VOpsD.bar;decide +kernel)|(apply VOps.take;rfl;rfl)|(apply VOpsD.quietTake;rfl;rfl)|(apply VOps.guard;rfl;rfl)|(apply VOpsD.guard;rfl;rfl)|(apply VVal.indexN (l:=p.sets) (i:=k-1);rfl;exact congrArg (fun b=>some (PV.p (.int .i64 b))) (hkc h3.1);rfl;omega;rfl)|(apply VVal.assign;rfl)|(apply VVal.move;rfl)|(apply VVal.sub64;rfl;rfl;omega)|(apply VVal.int;rfl;rfl;rfl)|(apply VVal.indexN;rfl;rfl;rfl;omega;rfl)|(apply VVal.load;rfl;rfl)|(apply VVal.pick_true;rfl;rfl)|(apply VVal.pick_false;rfl;rfl)|(apply VVal.lenF;rfl;rfl)|(apply VVal.fieldB;rfl;rfl;rfl)|(apply VVal.fieldF;rfl;rfl)|(apply VVal.alloc;rfl)|(apply VVal.storeB;rfl;rfl;rfl;trivial;rfl;rfl;exact lt_dec rfl;exact le_dec rfl)|(apply VWp.condSeq_dec;rfl)|(intro _;try (exfalso;omega)))
   all_goals first|(exfalso;omega)|(refine Done.ret rfl (.refl _) (by exact PV.under_of rfl) HCov.nil (Nat.zero_le _) (Nat.le_refl _) ⟨?_,rfl,rfl⟩;try rfl)
  rw [if_neg h3] at e
  by_cases h4:0<k∧(gi p.sets k).bar<(gi p.sets (k-1)).bar
  ·rw [if_pos h4,if_pos (by decide)] at e
   rw [← hi,e]
   repeat' (first|apply VWp.assoc|apply VWp.rseq|apply VWp.rseqD|apply VWp.skipSeq|apply VWp.retSeq|apply VWp.blockSeq|apply QSeq.ret|apply QBlk.ret|apply QLoop.ret|apply VOps.nil|apply VOpsD.nil|apply VOps.one|(apply VOpsD.bar;decide +kernel)|(apply VOps.take;rfl;rfl)|(apply VOpsD.quietTake;rfl;rfl)|(apply VOps.guard;rfl;rfl)|(apply VOpsD.guard;rfl;rfl)|(apply VVal.indexN (l:=p.sets) (i:=k-1);rfl;exact congrArg (fun b=>some (PV.p (.int .i64 b))) (hkc h4.1);rfl;omega;rfl)|(apply VVal.assign;rfl)|(apply VVal.move;rfl)|(apply VVal.sub64;rfl;rfl;omega)|(apply VVal.int;rfl;rfl;rfl)|(apply VVal.indexN;rfl;rfl;rfl;omega;rfl)|(apply VVal.load;rfl;rfl)|(apply VVal.pick_true;rfl;rfl)|(apply VVal.pick_false;rfl;rfl)|(apply VVal.lenF;rfl;rfl)|(apply VVal.fieldB;rfl;rfl;rfl)|(apply VVal.fieldF;rfl;rfl)|(apply VVal.alloc;rfl)|(apply VVal.storeB;rfl;rfl;rfl;trivial;rfl;rfl;exact lt_dec rfl;exact le_dec rfl)|(apply VWp.condSeq_dec;rfl)|(intro _;try (exfalso;omega)))
   all_goals first|(exfalso;omega)|(refine Done.ret rfl (.refl _) (by exact PV.under_of rfl) HCov.nil (Nat.zero_le _) (Nat.le_refl _) ⟨?_,rfl,rfl⟩;try rfl)
  rw [if_neg h4] at e
  by_cases h5:regE o (gi p.sets k).reg=0
  case neg =>
   rw [if_pos h5] at e
   rw [← hi,e]
   by_cases h0:k=0
   ·repeat' (first|apply VWp.assoc|apply VWp.rseq|apply VWp.rseqD|apply VWp.skipSeq|apply VWp.blockSeq|apply QSeq.ret|apply QBlk.ret|apply QLoop.ret|apply VWp.ret|apply VOps.nil|apply VOpsD.nil|apply VOps.one|(apply VOpsD.bar;decide +kernel)|(apply VOps.take;rfl;rfl)|(apply VOpsD.drop;rfl;rfl;rfl)|(apply VOps.guard;rfl;rfl)|(apply VOpsD.guard;rfl;rfl)|(apply VVal.fn;rfl;rfl;exact hr;intro _;rfl)|(apply VVal.assign;rfl)|(apply VVal.move;rfl)|(apply VVal.sub64;rfl;rfl;omega)|(apply VVal.int;rfl;rfl;rfl)|(apply VVal.indexN;rfl;rfl;rfl;omega;rfl)|(apply VVal.load;rfl;rfl)|(apply VVal.pick_false;rfl;rfl)|(apply VVal.lenF;rfl;rfl)|(apply VVal.fieldB;rfl;rfl;rfl)|(apply VVal.alloc;rfl)|(apply VVal.storeB;rfl;rfl;rfl;trivial;rfl;rfl;exact lt_dec rfl;exact le_dec rfl)|(apply VWp.condSeq_false;rfl)|(apply VWp.condSeq_dec;rfl)|(apply VWp.cond_dec;rfl)|(intro _;try (exfalso;omega)))
    all_goals first|(exfalso;omega)|contradiction|(refine Done.ret rfl (.refl _) (by exact PV.under_of rfl) HCov.nil (Nat.zero_le _) (Nat.le_refl _) ⟨?_,rfl,rfl⟩;try rfl)
   ·repeat' (first|apply VWp.assoc|apply VWp.rseq|apply VWp.rseqD|apply VWp.skipSeq|apply VWp.blockSeq|apply QSeq.ret|apply QBlk.ret|apply QLoop.ret|apply VWp.ret|apply VOps.nil|apply VOpsD.nil|apply VOps.one|(apply VOpsD.bar;decide +kernel)|(apply VOps.take;rfl;rfl)|(apply VOpsD.quietTake;rfl;rfl)|(apply VOps.guard;rfl;rfl)|(apply VOpsD.guard;rfl;rfl)|(apply VVal.fn;rfl;rfl;exact hr;intro _;rfl)|(apply VVal.indexN (l:=p.sets) (i:=k-1);rfl;exact congrArg (fun b=>some (PV.p (.int .i64 b))) (hkc (by omega));rfl;omega;rfl)|(apply VVal.assign;rfl)|(apply VVal.move;rfl)|(apply VVal.sub64;rfl;rfl;omega)|(apply VVal.int;rfl;rfl;rfl)|(apply VVal.indexN;rfl;rfl;rfl;omega;rfl)|(apply VVal.load;rfl;rfl)|(apply VVal.pick_true;rfl;rfl)|(apply VVal.pick_false;rfl;rfl)|(apply VVal.lenF;rfl;rfl)|(apply VVal.fieldB;rfl;rfl;rfl)|(apply VVal.fieldF;rfl;rfl)|(apply VVal.alloc;rfl)|(apply VVal.storeB;rfl;rfl;rfl;trivial;rfl;rfl;exact lt_dec rfl;exact le_dec rfl)|(apply VWp.condSeq_dec;rfl)|(apply VWp.cond_dec;rfl)|(intro _;try (exfalso;omega)))
    all_goals first|(exfalso;omega)|contradiction|(refine Done.ret rfl (.refl _) (by exact PV.under_of rfl) HCov.nil (Nat.zero_le _) (Nat.le_refl _) ⟨?_,rfl,rfl⟩;try rfl)
  rw [if_neg (fun h=>h h5)] at e
  rw [h5] at hr
  by_cases h0:k=0
  ·repeat' (first|apply VWp.assoc|apply VWp.rseq|apply VWp.rseqD|apply VWp.region|apply VWp.skipSeq|apply VWp.blockSeq|apply QSeq.normal|apply QBlk.normal|apply VWp.skip|apply VOps.nil|apply VOpsD.nil|apply VOps.one|(apply VOpsD.bar;decide +kernel)|(apply VOps.take;rfl;rfl)|(apply VOpsD.drop;rfl;rfl;rfl)|(apply VOps.guard;rfl;rfl)|(apply VOpsD.guard;rfl;rfl)|(apply VVal.fn;rfl;rfl;exact hr;intro _;rfl)|(apply VVal.assign;rfl)|(apply VVal.move;rfl)|(apply VVal.add64;rfl;rfl;omega)|(apply VVal.sub64;rfl;rfl;omega)|(apply VVal.int;rfl;rfl;rfl)|(apply VVal.indexN;rfl;rfl;rfl;omega;rfl)|(apply VVal.load;rfl;rfl)|(apply VVal.pick_false;rfl;rfl)|(apply VVal.lenF;rfl;rfl)|(apply VVal.fieldB;rfl;rfl;rfl)|(apply VVal.alloc;rfl)|(apply VVal.storeB;rfl;rfl;rfl;trivial;rfl;rfl;exact lt_dec rfl;exact le_dec rfl)|(apply VWp.condSeq_false;rfl)|(apply VWp.condSeq_dec;rfl)|(apply VWp.cond_false;rfl)|(intro _;try (exfalso;omega)))
   all_goals try (exfalso;omega)
   all_goals try contradiction
   refine QLoop.normal ⟨(e.symm.trans hi),by first|omega|decide,?_,?_⟩
   ·repeat (first|exact LCov.nil|refine LCov.same (by exact PV.under_of rfl) rfl ?_|refine LCov.cons trivial rfl (.of_eq (lst_len (by simp<;>omega))) ?_)
   ·repeat (first|exact HCov.nil|(refine HCov.cons (lt_dec rfl) ?_ rfl ?_ ?_;(first|exact HB.under_of rfl|exact PVs.under_pure _ _|(simp [HB.under,PVs.under,PV.under]));(first|exact HLe.refl _|exact HLe.vec (FLes.refl _) (by simp))))
  ·repeat' (first|apply VWp.assoc|apply VWp.rseq|apply VWp.rseqD|apply VWp.region|apply VWp.skipSeq|apply VWp.blockSeq|apply QSeq.normal|apply QBlk.normal|apply VWp.skip|apply VOps.nil|apply VOpsD.nil|apply VOps.one|(apply VOpsD.bar;decide +kernel)|(apply VOps.take;rfl;rfl)|(apply VOpsD.quietTake;rfl;rfl)|(apply VOps.guard;rfl;rfl)|(apply VOpsD.guard;rfl;rfl)|(apply VVal.fn;rfl;rfl;exact hr;intro _;rfl)|(apply VVal.indexN (l:=p.sets) (i:=k-1);rfl;exact congrArg (fun b=>some (PV.p (.int .i64 b))) (hkc (by omega));rfl;omega;rfl)|(apply VVal.assign;rfl)|(apply VVal.move;rfl)|(apply VVal.add64;rfl;rfl;omega)|(apply VVal.sub64;rfl;rfl;omega)|(apply VVal.int;rfl;rfl;rfl)|(apply VVal.indexN;rfl;rfl;rfl;omega;rfl)|(apply VVal.load;rfl;rfl)|(apply VVal.pick_true;rfl;rfl)|(apply VVal.pick_false;rfl;rfl)|(apply VVal.lenF;rfl;rfl)|(apply VVal.fieldB;rfl;rfl;rfl)|(apply VVal.fieldF;rfl;rfl)|(apply VVal.alloc;rfl)|(apply VVal.storeB;rfl;rfl;rfl;trivial;rfl;rfl;exact lt_dec rfl;exact le_dec rfl)|(apply VWp.condSeq_dec;rfl)|(apply VWp.cond_false;rfl)|(intro _;try (exfalso;omega)))
   all_goals try (exfalso;omega)
   all_goals try contradiction
   refine QLoop.normal ⟨(e.symm.trans hi),by first|omega|decide,?_,?_⟩
   ·repeat (first|exact LCov.nil|refine LCov.same (by exact PV.under_of rfl) rfl ?_|refine LCov.cons trivial rfl (.of_eq (lst_len (by simp<;>omega))) ?_)
   ·repeat (first|exact HCov.nil|(refine HCov.cons (lt_dec rfl) ?_ rfl ?_ ?_;(first|exact HB.under_of rfl|exact PVs.under_pure _ _|(simp [HB.under,PVs.under,PV.under]));(first|exact HLe.refl _|exact HLe.vec (FLes.refl _) (by simp))))
 ·intro hi
  rw [setsK_end] at hi
  rw [← hi]
  repeat' (first|apply VWp.rseq|apply VWp.exitSeq|apply QSeq.normal|apply QBlk.exit|apply QLoop.exit|apply VWp.ret|apply VOps.nil|apply VOps.one|(apply VVal.assign;rfl)|(apply VVal.int;rfl;rfl;rfl)|(apply VWp.condSeq_dec;rfl)|(intro _;try (exfalso;omega)))
  all_goals first|(exfalso;omega)|(refine Done.ret rfl (.refl _) (by exact PV.under_of rfl) HCov.nil (Nat.zero_le _) (Nat.le_refl _) ⟨?_,rfl,rfl⟩;try rfl)
end Go.Proofs.YtnhdddmhkhdlhaaGreatDoor
namespace Go.Proofs.YtnhdddmhkhdlhaaGreatDoor
open Go Go.Am Go.Vm
attribute [local irreducible] VVal VOps VOpsD VWp VCalls VFun VFunV QSeq QBlk QLoop Vm.Done DoneV DoneI
structure Nts where
 lo:Nat
 hi:Nat
instance:Enc Nts:={ default:=⟨0,0⟩,enc:=fun x=>[.int .u64 (x.lo:Int),.int .u64 (x.hi:Int)],size:=2,len:=fun _=>rfl }
structure Nts.Ok (s:Nts):Prop where
 lo:s.lo<2 ^ 64
 hi:s.hi<2 ^ 64
def Nts.has (s:Nts) (n:Nat):Bool:=if n<64 then s.lo.testBit n else s.hi.testBit (n-64)
def withN (s:Nts) (n:Nat):Nts:=if n<64 then ⟨s.lo ||| 2 ^ n,s.hi⟩ else ⟨s.lo,s.hi ||| 2 ^ (n-64)⟩
def uniN (a b:Nts):Nts:=⟨a.lo ||| b.lo,a.hi ||| b.hi⟩
def witN (a b:Nts):Bool:=decide (a.lo ^^^ (a.lo &&& b.lo)=0)&&decide (a.hi ^^^ (a.hi &&& b.hi)=0)
def ofK (l:List Int):Nat→Nts
 |0=>⟨0,0⟩
 |k+1=>withN (ofK l k) (gi l k).toNat
def rngK (a:Nat):Nat→Nts
 |0=>⟨0,0⟩
 |k+1=>withN (rngK a k) (a+k)
section
variable {E:Env} {L:Vm.Frame} {H:Vm.Heap} {nx:Nat} {Q:PV→Heap→Nat→Prop} {w:Bool} {dst:Option Tmp} {ty:TypeId} {pos:String} {af:Array Edge} {gd:Option (Nat×Bool)}
end
end Go.Proofs.YtnhdddmhkhdlhaaGreatDoor
namespace Go.Vm
open Go.Am
structure NilS where
instance:Enc NilS:={ default:=⟨⟩,enc:=fun _=>[.val (.slice none 0 0)],size:=1,len:=fun _=>rfl }
section
variable {E:Env} {L:Frame} {H:Heap} {nx:Nat}
variable {Q:PV→Heap→Nat→Prop} {dst:Option Tmp} {ty:TypeId} {pos:String} {af:Array Edge} {gd:Option (Nat×Bool)}
theorem VVal.append2 {α:Type} {_:Enc α} {l:List α} (a1 a2:α) {s x:Operand} {sT xT e e2:TypeId} {xd:TypeDesc} {i:TypeInfo} {b b2 n:Nat} {xs:List FV} {z z2:Bool} (hs:vev E.Γ L s=some (.vec b n 0 n)) (hb:hget H b=some (.vec e (cells l) n z))
 (hx:vev E.Γ L x=some (.vec b2 2 0 2)) (hb2:hget H b2=some (.vec e2 xs 2 z2)) (hxs:xs=Enc.enc a1++Enc.enc a2) (hn:l.length=n) (hsT:E.P.underlying sT=some (.slice e)) (hxT:E.P.underlying xT=some xd) (hd:∀ k,xd≠.int k) (hi:E.P.info? e=some i)
 (hsz:Enc.size α=i.size) (hzs:zeroSized i=true) (h0:0<i.size) (hby:i.bytes<1000000) (hlen:l.length<900000) (q:Q (.vec b (l.length+2) 0 (l.length+2)) (hput H b (.vec e (cells (l++[a1,a2])) (l.length+2) z)) nx) :
 VVal E true ⟨dst,.call { callee:=.builtin .append,args:=#[s,x],argTypes:=#[sT,xT] },ty,pos,af,gd⟩ L H nx Q:=by
 subst hn
 have hroom:(l.length+2)*(i.bytes+1)≤room:=Nat.le_trans (Nat.mul_le_mul (by omega:l.length+2≤1000000) (by omega:i.bytes+1≤1000000)) (by decide)
 refine VVal.append (i:=i) hs hb (SlC.all hx hb2 (by rw [hxs,List.length_append,Enc.len,Enc.len,← hsz];omega)) hsT hxT hd hi hzs (by omega) hroom (by rw [cells_length,hsz]) h0 ?_
 have:cells (l++[a1,a2])=cells l++xs:=by rw [cells_append,hxs];simp [cells,encs]
 rw [← this]
 exact q
end
end Go.Vm
namespace Go.Proofs.YtnhdddmhkhdlhaaGreatDoor
open Go Go.Am Go.Vm Go.Pie
attribute [local irreducible] VVal VOps VOpsD VWp VCalls VFun VFunV QSeq QBlk QLoop Vm.Done DoneV DoneI
attribute [local irreducible] rchk windsE stoE dvsE cplE shiftR tailH
instance:Enc (List Int):={ default:=[],enc:=fun l=>[.lst 3 (cells l) l.length],size:=1,len:=fun _=>rfl }
def kdK (p:Pce) (L:List Int) (d:Nat):Nat→List Int
 |0=>[]
 |k+1=>if (gi p.notes (gi L k).toNat).d=(d:Int) then kdK p L d k++[(gi p.notes (gi L k).toNat).k] else kdK p L d k
theorem OrgK.cmp {o:Org} (h:OrgK o) {i:Nat} (hi:i<o.divs.length):0≤(gi o.divs i).lo∧(gi o.divs i).hi≤127:=by
 have h0:=h.err
 unfold orgE at h0
 split at h0
 ·exact absurd h0 (by decide)
 split at h0
 ·exact absurd h0 (by decide)
 split at h0
 ·rename_i h1;exact absurd h0 h1
 split at h0
 ·exact absurd h0 (by decide)
 split at h0
 ·exact absurd h0 (by decide)
 split at h0
 ·rename_i h1;exact absurd h0 h1
 rename_i d3
 have d3:divsE o.ranks o.divs 0=0:=Decidable.byContradiction d3
 have:=divsE_all _ 0 rfl d3 i (Nat.zero_le _) hi
 unfold dvsE at this
 split at this
 ·rename_i h1;exact absurd this h1
 rename_i h1
 have h1:=Decidable.byContradiction h1
 unfold cmpE at h1
 split at h1
 ·exact absurd h1 (by decide)
 omega
def tlK (p:Pce) (L:List Int) (k:Nat) (j:Nat):HB:=.vec 3 (cells (kdK p L j k)) (kdK p L j k).length true
def kdV (p:Pce) (L:List Int) (nd k:Nat):HB:=.vecp 41 ((List.range nd).map fun j=>.vec (4+j) (kdK p L j k).length 0 (kdK p L j k).length) nd
noncomputable def keysR (o:Org) (p:Pce) (t:Int):List Nts:=snocK (fun d=>ofK (kdK p (snd p t) d (snd p t).length) (kdK p (snd p t) d (snd p t).length).length) o.divs.length
end Go.Proofs.YtnhdddmhkhdlhaaGreatDoor
namespace Go.Proofs.YtnhdddmhkhdlhaaGreatDoor
open Go Go.Am Go.Vm Go.Pie
attribute [local irreducible] VVal VOps VOpsD VWp VCalls VFun VFunV QSeq QBlk QLoop Vm.Done DoneV DoneI
attribute [local irreducible] rchk windsE stoE dvsE cplE shiftR tailH
instance:Enc Slc:={ default:=⟨0,0,[]⟩,enc:=fun x=>[.int .i64 x.s,.int .i64 x.e,.lst 3 (cells x.notes) x.notes.length],size:=3,len:=fun _=>rfl }
def zsK (p:Pce):Nat→List Int
 |0=>[fstB p,endB p]
 |k+1=>zsK p k++[(gi p.notes k).s,(gi p.notes k).e]
theorem zsK_len (p:Pce):∀ k,(zsK p k).length=2*k+2
 |0=>rfl
 |k+1=>by
  have:=zsK_len p k
  unfold zsK
  simp only [List.length_append,List.length_cons,List.length_nil]
  omega
def tksP (p:Pce):List Int:=Lib.compact ((zsK p p.notes.length).mergeSort fun x y=>decide (x≤y))
theorem compact_len (zs:List Int):(Lib.compact zs).length≤zs.length:=by
 unfold Lib.compact Lib.compactUpTo
 rw [List.length_map]
 exact Nat.le_trans (List.length_filter_le _ _) (by simp)
theorem tks_pos (p:Pce):0<(tksP p).length:=by
 have h0:fstB p∈tksP p:=by
  unfold tksP
  rw [compact_mem,List.mem_mergeSort]
  have:∀ k,fstB p∈zsK p k:=by
   intro k
   induction k with
   |zero=>simp [zsK]
   |succ k ih=>exact List.mem_append_left _ ih
  exact this _
 exact List.length_pos_of_mem h0
theorem rfs0:∀ (m:Mem) (F:Nat→Prop) (us:List Value),RFs m F [] us→us=[]:=fun m F us h=>by cases h;rfl
def sndL (p:Pce):List Slc:=strT (snd p) (tksP p)
theorem Slices_spec {o:Org} {p:Pce} (ho:OrgSm o) (hE:pceE o p=0) (h:PceK o p):VFun env 17 [.agg (Enc.enc o),.agg (Enc.enc p)] (.tup [.p (.lst 59 (cells (sndL p)) (sndL p).length),.p (.int .i64 0)]):=by
 have ha:=pieCheck_spec o p ho h.sm
 rw [hE] at ha
 have hen:=ends_spec p (by have:=h.bars;omega) h.sm.bars
 have n1:=h.notes
 have hsn:=pieSnd_spec p h.sm
 refine VFun.enter (env_none (by decide)) Tryz.func17 rfl (by kernel_rfl) (by simp [Tryz.ntmps17]) ?_
 repeat' (first|apply VWp.assoc|apply VWp.rseq|apply VWp.skipSeq|apply VWp.blockSeq|apply VOps.nil|apply VOps.one|(apply VVal.fn;rfl;rfl;exact ha;intro _;rfl)|(apply VVal.fn;rfl;rfl;exact hen;intro _;rfl)|(apply VVal.assign;rfl)|(apply VVal.move;rfl)|(apply VVal.int;rfl;rfl;rfl)|(apply VVal.load;rfl;rfl)|(apply VVal.lenF;rfl;rfl)|(apply VVal.fieldB;rfl;rfl;rfl)|(apply VVal.box;rfl;trivial)|(apply VVal.buildSlice;rfl;rfl;rfl;decide;rfl;rfl;rfl)|(apply VVal.extract;rfl;rfl)|(apply VWp.condSeq_false;rfl))
 all_goals try (exfalso;omega)
 all_goals try contradiction
 apply VWp.loopR (p.notes.length) [(3,_),(30,_),(31,_)] [(1,_)] (fun k r=>(32,.p (.int .i64 (k:Int)))::(9,.vec 2 (zsK p k).length 0 (zsK p k).length)::r) (fun k r=>(2,.vec 3 (cells (zsK p k)) (zsK p k).length false)::r) 3
 ·first|omega|decide
 ·first|omega|decide
 ·repeat (first|exact LCov.nil|(refine LCov.eq rfl ?_ ?_;(first|exact PV.under_of rfl|(simp [PV.under,PVs.under];done)))|refine LCov.cons trivial rfl (.of_eq (lst_len (by simp<;>omega))) ?_)
 ·repeat (first|exact HCov.nil|(refine HCov.eq rfl (lt_dec rfl) ?_ ?_;(first|exact HB.under_of rfl|exact PVs.under_pure _ _|(simp [HB.under,PVs.under,PV.under];done)))|(refine HCov.cons (lt_dec rfl) ?_ rfl ?_ ?_;(first|exact trivial|exact PVs.under_pure _ _|(simp [HB.under,PVs.under,PV.under]));(first|exact HLe.refl _|exact HLe.vec (FLes.refl _) (by simp))))
 ·intro k hk
  have hl:=zsK_len p k
  have e1:zsK p (k+1)=zsK p k++[(gi p.notes k).s,(gi p.notes k).e]:=rfl
  have e2:(zsK p (k+1)).length=(zsK p k).length+2:=by rw [e1];simp
  repeat' (first|apply VWp.rseq|apply VWp.region|apply VWp.skipSeq|apply VWp.blockSeq|apply QSeq.normal|apply QBlk.normal|apply VOps.nil|apply VOps.one|(apply VVal.append2 (l:=zsK p k) (gi p.notes k).s (gi p.notes k).e;rfl;rfl;rfl;rfl;rfl;rfl;rfl;rfl;(intro _ h;cases h);rfl;rfl;rfl;decide;decide;omega)|(apply VVal.assign;rfl)|(apply VVal.move;rfl)|(apply VVal.add64;rfl;rfl;omega)|(apply VVal.int;rfl;rfl;rfl)|(apply VVal.indexN;rfl;rfl;rfl;omega;rfl)|(apply VVal.load;rfl;rfl)|(apply VVal.fieldB;rfl;rfl;rfl)|(apply VVal.alloc;rfl)|(apply VVal.storeB;rfl;rfl;rfl;trivial;rfl;rfl;exact lt_dec rfl;exact le_dec rfl)|(apply VVal.buildSlice;rfl;rfl;rfl;decide;rfl;rfl;rfl)|(apply VWp.condSeq_dec;rfl)|(intro _;try (exfalso;omega)))
  all_goals try (exfalso;omega)
  refine QLoop.normal ⟨by first|omega|decide,?_,?_⟩
  ·try (first|rw [e2,e1]|rw [e2])
   repeat (first|exact LCov.nil|refine LCov.same (by exact PV.under_of rfl) rfl ?_|refine LCov.cons trivial rfl (.of_eq (lst_len (by simp<;>omega))) ?_)
  ·first|rw [e2,e1]|rw [e2]
   repeat (first|exact HCov.nil|(refine HCov.cons (lt_dec rfl) ?_ rfl ?_ ?_;(first|exact HB.under_of rfl|exact PVs.under_pure _ _|(simp [HB.under,PVs.under,PV.under]));(first|exact HLe.refl _|exact HLe.vec (FLes.refl _) (by simp))))
 ·have hl:=zsK_len p p.notes.length
  obtain ⟨zs,hzs⟩:∃ zs,zs=zsK p p.notes.length:=⟨_,rfl⟩
  have hcl:=compact_len ((zsK p p.notes.length).mergeSort fun x y=>decide (x≤y))
  have hml:((zsK p p.notes.length).mergeSort fun x y=>decide (x≤y)).length=(zsK p p.notes.length).length:=List.length_mergeSort _
  have htp:=tks_pos p
  have htc:((tksP p).length:Int)-1=(((tksP p).length-1:Nat):Int):=by omega
  rw [show Lib.compact ((zsK p p.notes.length).mergeSort fun x y=>decide (x≤y))=tksP p from rfl] at hcl
  repeat' (first|(refine VWp.at 14 ?_;refine VWp.ghost (Ghost.freeze 9 rfl rfl) ?_;first|apply VWp.rseq|apply VWp.rseqD)|apply VWp.assoc|apply VWp.rseq|apply VWp.exitSeq|apply VWp.blockSeq|apply QSeq.normal|apply QBlk.exit|apply QLoop.exit|apply VOps.nil|apply VOps.one|((refine VVal.inPut (Fn:=sortF) (zs':=(zsK p p.notes.length).mergeSort fun x y=>decide (x≤y)) sort_at rfl rfl rfl (rest:=[]) (rv:=[]) rfs0 rfl rfl (by omega) ?_ (by omega) ?_;(simp only [sortF];rw [if_pos (by omega)])))|((refine VVal.inCut (Fn:=compF) (zs:=(zsK p p.notes.length).mergeSort fun x y=>decide (x≤y)) (zs':=tksP p++List.replicate ((zsK p p.notes.length).length-(tksP p).length) 0) (k:=(tksP p).length) comp_at rfl rfl rfl (rest:=[]) (rv:=[]) rfs0 rfl hml (by omega) ?_ (by simp;omega) (by omega) ?_;(simp only [compF];rw [if_pos (by omega),hml];rfl);rw [List.take_left]))|(apply VVal.sliceTo (b:=(tksP p).length-1);rfl;exact congrArg (fun b=>some (PV.p (.int .i64 b))) htc;rfl;rfl;rfl;rfl;omega)|(apply VVal.assign;rfl)|(apply VVal.move;rfl)|(apply VVal.sub64;rfl;rfl;omega)|(apply VVal.int;rfl;rfl;rfl)|(apply VVal.lenF;rfl;rfl)|(apply VWp.condSeq_dec;rfl)|(intro _;try (exfalso;omega)))
  all_goals try (exfalso;omega)
  refine VWp.ghost (Ghost.adopt 12 59 rfl) ?_
  obtain ⟨F,hF⟩:∃ F:Nat→Slc,F=fun i=>⟨gi (tksP p) i,gi (tksP p) (i+1),snd p (gi (tksP p) i)⟩:=⟨_,rfl⟩
  have hR:sndL p=snocK F ((tksP p).length-1):=by rw [hF];rfl
  rw [hR]
  apply VWp.loopR ((tksP p).length-1) [(3,_),(9,_),(52,_),(53,_)] [(1,_)] (fun k r=>(54,.p (.int .i64 (k:Int)))::(12,.vec 4 (snocK F k).length 0 (snocK F k).length)::r) (fun k r=>(4,.vec 59 (cells (snocK F k)) (snocK F k).length true)::r) 5
  ·first|omega|decide
  ·first|omega|decide
  ·repeat (first|exact LCov.nil|(refine LCov.eq rfl ?_ ?_;(first|exact PV.under_of rfl|(simp [PV.under,PVs.under];done)))|refine LCov.cons trivial rfl (.of_eq (lst_len (by simp<;>omega))) ?_)
  ·repeat (first|exact HCov.nil|(refine HCov.eq rfl (lt_dec rfl) ?_ ?_;(first|exact HB.under_of rfl|exact PVs.under_pure _ _|(simp [HB.under,PVs.under,PV.under];done)))|(refine HCov.cons (lt_dec rfl) ?_ rfl ?_ ?_;(first|exact trivial|exact PVs.under_pure _ _|(simp [HB.under,PVs.under,PV.under]));(first|exact HLe.refl _|exact HLe.vec (FLes.refl _) (by simp))))
  ·intro k hk
   have hlF:=snocK_len F k
   have hFk:F k=⟨gi (tksP p) k,gi (tksP p) (k+1),snd p (gi (tksP p) k)⟩:=by rw [hF]
   have e1:snocK F (k+1)=snocK F k++[⟨gi (tksP p) k,gi (tksP p) (k+1),snd p (gi (tksP p) k)⟩]:=by rw [← hFk];rfl
   have e2:(snocK F (k+1)).length=(snocK F k).length+1:=by rw [e1];simp
   have hg:gi ((tksP p).take ((tksP p).length-1)) k=gi (tksP p) k:=gi_take hk
   have hk1:(k:Int)+1=((k+1:Nat):Int):=by omega
   have hs:=hsn (gi (tksP p) k)
   repeat' (first|(refine VOpsD.atIdx 10 ?_;refine VOpsD.ghost (Ghost.freeze 68 rfl rfl) ?_)|(refine VOpsD.atIdx 9 ?_;apply VOpsD.weakF [.tmp 64];decide +kernel;decide +kernel;rfl)|apply VWp.rseq|apply VWp.region|apply VWp.regionD|apply VWp.skipSeq|apply VWp.blockSeq|apply QSeq.normal|apply QBlk.normal|apply VOps.nil|apply VOpsD.nil|apply VOps.one|(apply VOpsD.bar;decide +kernel)|apply VOpsD.quiet|(apply VVal.fv;rfl;rfl;exact hs)|(apply VVal.indexN (l:=(tksP p).take ((tksP p).length-1)) (i:=k);rfl;rfl;rfl;(rw [List.length_take];omega);(rw [List.length_take];omega))|(apply VVal.load (r:=.p (.int .i64 (gi (tksP p) k)));rfl;exact (congrArg (fun b=>some (PV.p (FV.int .i64 b))) hg))|(apply VVal.indexN (l:=tksP p) (i:=k+1);rfl;exact congrArg (fun b=>some (PV.p (.int .i64 b))) hk1;rfl;omega;rfl)|(apply VVal.append1 (a:=(⟨gi (tksP p) k,gi (tksP p) (k+1),snd p (gi (tksP p) k)⟩:Slc));rfl;rfl;rfl;rfl;rfl;rfl;rfl;rfl;(intro _ h;cases h);rfl;rfl;rfl;decide;decide;(first|omega|(simp only [List.length_take,List.length_drop,List.length_append,List.length_singleton,List.length_cons,List.length_nil]<;>omega)))|(apply VVal.assign;rfl)|(apply VVal.move;rfl)|(apply VVal.add64;rfl;rfl;omega)|(apply VVal.int;rfl;rfl;rfl)|(apply VVal.load;rfl;rfl)|(apply VVal.build;rfl;rfl;rfl;rfl;rfl)|(apply VVal.buildSlice;rfl;rfl;rfl;decide;rfl;rfl;rfl)|(apply VWp.condSeq_dec;rfl)|(intro _;try (exfalso;omega)))
   all_goals try (exfalso;omega)
   refine QLoop.normal ⟨by first|omega|decide,?_,?_⟩
   ·try (first|rw [e2,e1]|rw [e2])
    repeat (first|exact LCov.nil|refine LCov.same (by exact PV.under_of rfl) rfl ?_|refine LCov.cons trivial rfl (.of_eq (lst_len (by simp<;>omega))) ?_)
   ·first|rw [e2,e1]|rw [e2]
    repeat (first|exact HCov.nil|(refine HCov.cons (lt_dec rfl) ?_ rfl ?_ ?_;(first|exact HB.under_of rfl|exact PVs.under_pure _ _|(simp [HB.under,PVs.under,PV.under]));(first|exact HLe.refl _|exact HLe.vec (FLes.refl _) (by simp))))
  ·repeat' (first|(refine VOps.atOp 4 ?_;refine VOps.ghost (Ghost.freeze 73 rfl rfl) ?_)|apply VWp.rseq|apply VWp.exitSeq|apply QSeq.normal|apply QBlk.exit|apply QLoop.exit|apply VWp.ret|apply VOps.nil|apply VOps.one|(apply VVal.assign;rfl)|(apply VVal.move;rfl)|(apply VVal.int;rfl;rfl;rfl)|(apply VWp.condSeq_dec;rfl)|(intro _;try (exfalso;omega)))
   all_goals first|(exfalso;omega)|(refine Done.ret rfl (.refl _) (by exact PV.under_of rfl) HCov.nil (Nat.zero_le _) (Nat.le_refl _) ⟨?_,rfl,rfl⟩;try rfl)
end Go.Proofs.YtnhdddmhkhdlhaaGreatDoor
namespace Go.Proofs.YtnhdddmhkhdlhaaGreatDoor
open Go Go.Am Go.Vm Go.Pie
attribute [local irreducible] VVal VOps VOpsD VWp VCalls VFun VFunV QSeq QBlk QLoop Vm.Done DoneV DoneI
attribute [local irreducible] rchk windsE stoE dvsE cplE shiftR tailH
theorem cloneB_spec (l:List Int) (h0:0<l.length) (h1:l.length<1000000):VFunV env 57 [.lst 3 (cells l) l.length] 3 (cells l) l.length false:=by
 refine VFunV.enter (env_none (by decide)) Tryz.func57 rfl (by kernel_rfl) (by simp [Tryz.ntmps57]) ?_
 repeat' (first|apply VWp.assoc|apply VWp.rseq|apply VWp.skipSeq|apply VWp.ret|apply VOps.nil|apply VOps.one|(apply VVal.eqNilF;rfl;rfl;rfl;exact h0)|(apply VVal.assign;rfl)|(apply VVal.move;rfl)|(apply VVal.buildSlice;rfl;rfl;rfl;decide;rfl;rfl;rfl)|(apply VVal.appendL0;rfl;rfl;rfl;(first|rfl|omega|(simp only [List.length_take,List.length_drop,List.length_append,List.length_singleton,List.length_cons,List.length_nil]<;>omega));rfl;rfl;(intro _ h;cases h);rfl;rfl;rfl;decide;decide;(first|omega|(simp only [List.length_take,List.length_drop,List.length_append,List.length_singleton,List.length_cons,List.length_nil]<;>omega)))|(apply VWp.condSeq_false;rfl))
 exact DoneV.ret rfl rfl rfl rfl
def ctN (p:Pce) (a z:Int):Nat→List Nte
 |0=>[]
 |k+1=>if (gi p.notes k).s<z∧(gi p.notes k).e>a then ctN p a z k++[⟨max (gi p.notes k).s a,min (gi p.notes k).e z,(gi p.notes k).d,(gi p.notes k).k⟩] else ctN p a z k
theorem ctN_len (p:Pce) (a z:Int):∀ k,(ctN p a z k).length≤k
 |0=>Nat.le_refl _
 |k+1=>by
  have:=ctN_len p a z k
  unfold ctN
  split
  ·simp;omega
  ·omega
def ctS0 (p:Pce) (f:Nat):List Stg:=if 0≤wan p (gi p.bars f)∧(gi p.sets (wan p (gi p.bars f)).toNat).bar<f then [⟨0,(gi p.sets (wan p (gi p.bars f)).toNat).reg⟩] else []
def ctS (p:Pce) (f t:Nat) (s0:List Stg):Nat→List Stg
 |0=>s0
 |k+1=>if (gi p.sets k).bar≥f∧(gi p.sets k).bar<t then ctS p f t s0 k++[⟨(gi p.sets k).bar-f,(gi p.sets k).reg⟩] else ctS p f t s0 k
theorem ctS0_len (p:Pce) (f:Nat):(ctS0 p f).length≤1:=by
 unfold ctS0
 split<;>simp
theorem ctS_len (p:Pce) (f t:Nat) (s0:List Stg):∀ k,(ctS p f t s0 k).length≤s0.length+k
 |0=>Nat.le_refl _
 |k+1=>by
  have:=ctS_len p f t s0 k
  unfold ctS
  split
  ·simp;omega
  ·omega
def ctB (p:Pce) (f t:Nat):List Int:=(p.bars.drop f).take (t+1-f)
def cutP (p:Pce) (f t:Nat):Pce:=⟨ctB p f t,ctN p (gi p.bars f) (gi p.bars t) p.notes.length,ctS p f t (ctS0 p f) p.sets.length⟩
theorem ctB_len {p:Pce} {f t:Nat} (h1:f<t) (h2:t<p.bars.length):(ctB p f t).length=t+1-f:=by
 unfold ctB;rw [List.length_take,List.length_drop];omega
theorem ctB_gi {p:Pce} {f t i:Nat} (h:i<t+1-f):gi (ctB p f t) i=gi p.bars (f+i):=by
 unfold ctB gi
 rw [List.getElem?_take_of_lt h,List.getElem?_drop]
def pceZ:List FV:=[.val (.slice none 0 0),.val (.slice none 0 0),.val (.slice none 0 0)]
theorem Cut_spec {o:Org} {p:Pce} (ho:OrgK o) (hE:pceE o p=0) (h:PceK o p) (f t:Nat) (h1:f<t) (h2:t<p.bars.length):VFun env 22 [.agg (Enc.enc o),.agg (Enc.enc p),.int .i64 (f:Int),.int .i64 (t:Int)] (.tup [.p (.agg (Enc.enc (cutP p f t))),.p (.int .i64 0)]):=by
 have ha:=pieCheck_spec o p ho.sm h.sm
 rw [hE] at ha
 have d1:=ho.divs
 have n1:=h.notes
 have n2:=h.bars
 have n3:=h.sets
 have hBl:=ctB_len h1 h2
 have hBf:gi (ctB p f t) 0=gi p.bars f:=ctB_gi (by omega)
 have hBt:gi (ctB p f t) (t+1-f-1)=gi p.bars t:=by rw [ctB_gi (by omega)];congr 1;omega
 have hcb:=cloneB_spec (ctB p f t) (by omega) (by omega)
 have hen:=ends_spec ⟨ctB p f t,[],[]⟩ (by show 0<(ctB p f t).length;omega) (by show (ctB p f t).length<_;omega)
 rw [show fstB ⟨ctB p f t,[],[]⟩=gi p.bars f from hBf,show endB ⟨ctB p f t,[],[]⟩=gi p.bars t by show gi (ctB p f t) ((ctB p f t).length-1)=_;rw [hBl,hBt]] at hen
 have hen:VFun env 53 [.agg [.lst 3 (cells (ctB p f t)) (t+1-f),.val (.slice none 0 0),.val (.slice none 0 0)]] (.tup [.p (.int .i64 (gi p.bars f)),.p (.int .i64 (gi p.bars t))]):=by
  refine VFun.le ?_ hen
  rw [show Enc.enc (⟨ctB p f t,[],[]⟩:Pce)=[.lst 3 (cells (ctB p f t)) (t+1-f),.lst 66 [] 0,.lst 74 [] 0] by show [FV.lst 3 (cells (ctB p f t)) (ctB p f t).length,_,_]=_;rw [hBl];rfl]
  exact .cons (.agg (.cons (.refl _) (.cons (.nil _) (.cons (.nil _) (.refl _))))) (.refl _)
 have hw:=pieWan_spec h (gi p.bars f)
 have hwr:=wanK_rng p (gi p.bars f) p.sets.length
 rw [show wanK p (gi p.bars f) p.sets.length=wan p (gi p.bars f) from rfl] at hwr
 have hcop:∀ i,i<p.sets.length→VFun env 59 [.agg (Enc.enc (gi p.sets i).reg)] (.p (.agg (Enc.enc (gi p.sets i).reg))):=fun i hi=>by
  have hl:=regE_len0 (h.set i hi).2.2
  exact pieCopied_spec _ (by omega) (by omega)
 have hBe:Enc.enc (cutP p f t)=[.lst 3 (cells (ctB p f t)) (t+1-f),.lst 66 (cells (ctN p (gi p.bars f) (gi p.bars t) p.notes.length)) (ctN p (gi p.bars f) (gi p.bars t) p.notes.length).length,.lst 74 (cells (ctS p f t (ctS0 p f) p.sets.length)) (ctS p f t (ctS0 p f) p.sets.length).length]:=by
  show [FV.lst 3 (cells (ctB p f t)) (ctB p f t).length,_,_]=_
  rw [hBl]
  rfl
 rw [hBl] at hcb
 rw [hBe]
 have hS0:=ctS0_len p f
 refine VFun.enter (env_none (by decide)) Tryz.func22 rfl (by kernel_rfl) (by simp [Tryz.ntmps22]) ?_
 repeat' (first|(refine VOps.atOp 49 ?_;refine VOps.ghost (Ghost.freeze 48 rfl rfl) ?_)|apply VWp.assoc|apply VWp.rseq|apply VWp.skipSeq|apply VWp.blockSeq|apply VOps.nil|apply VOps.one|(apply VOps.take;rfl;rfl)|(apply VOps.guard;rfl;rfl)|(apply VVal.fn;rfl;rfl;exact ha;intro _;rfl)|(apply VVal.fn;rfl;rfl;exact hen;intro _;rfl)|(apply VVal.fv;rfl;rfl;exact hcb)|(apply VVal.sliceFT;rfl;rfl;rfl;rfl;rfl;rfl;rfl;omega)|(apply VVal.assign;rfl)|(apply VVal.move;rfl)|(apply VVal.add64;rfl;rfl;omega)|(apply VVal.sub64;rfl;rfl;omega)|(apply VVal.int;rfl;rfl;rfl)|(apply VVal.load;rfl;rfl)|(apply VVal.pick_false;rfl;rfl)|(apply VVal.lenF;rfl;rfl)|(apply VVal.fieldB;rfl;rfl;rfl)|(apply VVal.box;rfl;trivial)|(apply VVal.alloc;rfl)|(apply VVal.storeB;rfl;rfl;rfl;trivial;rfl;rfl;exact lt_dec rfl;exact le_dec rfl)|(apply VVal.build;rfl;rfl;rfl;rfl;rfl)|(apply VVal.extract;rfl;rfl)|(apply VWp.condSeq_false;rfl)|(apply VWp.condSeq_dec;rfl)|(intro _;try (exfalso;omega)))
 all_goals try (exfalso;omega)
 all_goals try contradiction
 refine VWp.ghost (Ghost.adoptCell 4 1 66 rfl rfl) ?_
 refine VWp.ghost (Ghost.adoptCell 4 2 74 rfl rfl) ?_
 have hNl:=ctN_len p (gi p.bars f) (gi p.bars t)
 apply VWp.loopR (p.notes.length) [(2,_),(3,_),(5,_),(8,_),(12,_),(13,_),(11,_),(56,_),(57,_)] [(1,_),(2,_),(6,_)] (fun k r=>(58,.p (.int .i64 (k:Int)))::r) (fun k r=>(5,.vec 66 (cells (ctN p (gi p.bars f) (gi p.bars t) k)) (ctN p (gi p.bars f) (gi p.bars t) k).length true)::(4,.box 45 [.p (.lst 3 (cells (ctB p f t)) (t+1-f)),.vec 5 (ctN p (gi p.bars f) (gi p.bars t) k).length 0 (ctN p (gi p.bars f) (gi p.bars t) k).length,.vec 6 0 0 0])::r) 7
 ·first|omega|decide
 ·first|omega|decide
 ·repeat (first|exact LCov.nil|(refine LCov.eq rfl ?_ ?_;(first|exact PV.under_of rfl|(simp [PV.under,PVs.under];done)))|refine LCov.cons trivial rfl (.of_eq (lst_len (by simp<;>omega))) ?_)
 ·repeat (first|exact HCov.nil|(refine HCov.eq rfl (lt_dec rfl) ?_ ?_;(first|exact HB.under_of rfl|exact PVs.under_pure _ _|(simp [HB.under,PVs.under,PV.under];done)))|(refine HCov.cons (lt_dec rfl) ?_ rfl ?_ ?_;(first|exact trivial|exact PVs.under_pure _ _|(simp [HB.under,PVs.under,PV.under]));(first|exact HLe.refl _|exact HLe.vec (FLes.refl _) (by simp))))
 ·intro k hk
  have hl:=hNl k
  have e1:ctN p (gi p.bars f) (gi p.bars t) (k+1)=if (gi p.notes k).s<gi p.bars t∧(gi p.notes k).e>gi p.bars f then ctN p (gi p.bars f) (gi p.bars t) k++[⟨max (gi p.notes k).s (gi p.bars f),min (gi p.notes k).e (gi p.bars t),(gi p.notes k).d,(gi p.notes k).k⟩] else ctN p (gi p.bars f) (gi p.bars t) k:=rfl
  by_cases c:(gi p.notes k).s<gi p.bars t∧(gi p.notes k).e>gi p.bars f
  ·rw [if_pos c] at e1
   have e2:(ctN p (gi p.bars f) (gi p.bars t) (k+1)).length=(ctN p (gi p.bars f) (gi p.bars t) k).length+1:=by rw [e1];simp
   repeat' (first|apply VWp.rseq|apply VWp.region|apply VWp.skipSeq|apply VWp.blockSeq|apply QSeq.normal|apply QBlk.normal|apply VOps.nil|apply VOps.one|(apply VOps.take;rfl;rfl)|(apply VOps.guard;rfl;rfl)|(apply VVal.append1 (a:=(⟨max (gi p.notes k).s (gi p.bars f),min (gi p.notes k).e (gi p.bars t),(gi p.notes k).d,(gi p.notes k).k⟩:Nte));rfl;rfl;rfl;rfl;rfl;rfl;rfl;rfl;(intro _ h;cases h);rfl;rfl;rfl;decide;decide;(first|omega|(simp only [List.length_take,List.length_drop,List.length_append,List.length_singleton,List.length_cons,List.length_nil]<;>omega)))|(apply VVal.move;rfl)|(apply VVal.add64;rfl;rfl;omega)|(apply VVal.int;rfl;rfl;rfl)|(apply VVal.indexN;rfl;rfl;rfl;omega;rfl)|(apply VVal.load;rfl;rfl)|(apply VVal.pick_true;rfl;rfl)|(apply VVal.fieldB;rfl;rfl;rfl)|(apply VVal.alloc;rfl)|(apply VVal.storeB;rfl;rfl;rfl;trivial;rfl;rfl;exact lt_dec rfl;exact le_dec rfl)|(apply VVal.buildSlice;rfl;rfl;rfl;decide;rfl;rfl;rfl)|(apply VVal.maxI;rfl;rfl)|(apply VVal.minI;rfl;rfl)|(apply VWp.condSeq_dec;rfl)|(apply VWp.cond_dec;rfl)|(intro _;try (exfalso;omega)))
   all_goals try (exfalso;omega)
   refine QLoop.normal ⟨by first|omega|decide,?_,?_⟩
   ·try (rw [e2,e1])
    repeat (first|exact LCov.nil|refine LCov.same (by exact PV.under_of rfl) rfl ?_|refine LCov.cons trivial rfl (.of_eq (lst_len (by simp<;>omega))) ?_)
   ·rw [e2,e1]
    repeat (first|exact HCov.nil|(refine HCov.cons (lt_dec rfl) ?_ rfl ?_ ?_;(first|exact HB.under_of rfl|exact PVs.under_pure _ _|(simp [HB.under,PVs.under,PV.under]));(first|exact HLe.refl _|exact HLe.vec (FLes.refl _) (by simp))))
  ·rw [if_neg c] at e1
   repeat' (first|apply VWp.rseq|apply VWp.region|apply VWp.skipSeq|apply VWp.blockSeq|apply QSeq.normal|apply QBlk.normal|apply VWp.skip|apply VOps.nil|apply VOps.one|(apply VOps.take;rfl;rfl)|(apply VOps.drop;rfl;rfl;rfl)|(apply VOps.guard;rfl;rfl)|(apply VVal.move;rfl)|(apply VVal.add64;rfl;rfl;omega)|(apply VVal.int;rfl;rfl;rfl)|(apply VVal.indexN;rfl;rfl;rfl;omega;rfl)|(apply VVal.load;rfl;rfl)|(apply VVal.pick_true;rfl;rfl)|(apply VVal.pick_false;rfl;rfl)|(apply VVal.fieldB;rfl;rfl;rfl)|(apply VVal.alloc;rfl)|(apply VVal.storeB;rfl;rfl;rfl;trivial;rfl;rfl;exact lt_dec rfl;exact le_dec rfl)|(apply VWp.condSeq_dec;rfl)|(apply VWp.cond_false;rfl)|(apply VWp.cond_dec;rfl)|(intro _;try (exfalso;omega)))
   all_goals try (exfalso;omega)
   all_goals
    refine QLoop.normal ⟨by first|omega|decide,?_,?_⟩
    ·try (rw [e1])
     repeat (first|exact LCov.nil|refine LCov.same (by exact PV.under_of rfl) rfl ?_|refine LCov.cons trivial rfl (.of_eq (lst_len (by simp<;>omega))) ?_)
    ·rw [e1]
     repeat (first|exact HCov.nil|(refine HCov.cons (lt_dec rfl) ?_ rfl ?_ ?_;(first|exact HB.under_of rfl|exact PVs.under_pure _ _|(simp [HB.under,PVs.under,PV.under]));(first|exact HLe.refl _|exact HLe.vec (FLes.refl _) (by simp))))
 ·have hl:=hNl p.notes.length
  by_cases c:0≤wan p (gi p.bars f)∧(gi p.sets (wan p (gi p.bars f)).toNat).bar<f
  ·have hS:ctS0 p f=[⟨0,(gi p.sets (wan p (gi p.bars f)).toNat).reg⟩]:=by unfold ctS0;rw [if_pos c]
   rw [hS]
   have hb:wan p (gi p.bars f)=((wan p (gi p.bars f)).toNat:Int):=by omega
   have hc0:=hcop (wan p (gi p.bars f)).toNat (by omega)
   repeat' (first|apply VWp.assoc|apply VWp.rseq|apply VWp.rseqD|apply VWp.exitSeq|apply VWp.blockSeq|apply QSeq.normal|apply QBlk.exit|apply QLoop.exit|apply VOps.nil|apply VOpsD.nil|apply VOps.one|(apply VOpsD.bar;decide +kernel)|apply VOpsD.quiet|(apply VOps.take;rfl;rfl)|(apply VOps.guard;rfl;rfl)|(apply VVal.fn;rfl;rfl;exact hw;intro _;rfl)|(apply VVal.fn;rfl;rfl;exact hc0;intro _;rfl)|(apply VVal.indexN (l:=p.sets) (i:=(wan p (gi p.bars f)).toNat);rfl;exact congrArg (fun b=>some (PV.p (.int .i64 b))) hb;rfl;omega;rfl)|(apply VVal.append1 (l:=[]) (a:=(⟨0,(gi p.sets (wan p (gi p.bars f)).toNat).reg⟩:Stg));rfl;rfl;rfl;rfl;rfl;rfl;rfl;rfl;(intro _ h;cases h);rfl;rfl;rfl;decide;decide;(first|omega|(simp only [List.length_take,List.length_drop,List.length_append,List.length_singleton,List.length_cons,List.length_nil]<;>omega)))|(apply VVal.assign;rfl)|(apply VVal.move;rfl)|(apply VVal.int;rfl;rfl;rfl)|(apply VVal.load;rfl;rfl)|(apply VVal.pick_true;rfl;rfl)|(apply VVal.lenF;rfl;rfl)|(apply VVal.fieldB;rfl;rfl;rfl)|(apply VVal.fieldF;rfl;rfl)|(apply VVal.storeB;rfl;rfl;rfl;trivial;rfl;rfl;exact lt_dec rfl;exact le_dec rfl)|(apply VVal.build;rfl;rfl;rfl;rfl;rfl)|(apply VVal.buildSlice;rfl;rfl;rfl;decide;rfl;rfl;rfl)|(apply VWp.condSeq_dec;rfl)|(intro _;try (exfalso;omega)))
   all_goals try (exfalso;omega)
   apply VWp.loopR (p.sets.length) [(2,_),(3,_),(5,_),(8,_),(11,_),(118,_),(119,_)] [(1,_),(2,_),(5,_)] (fun k r=>(120,.p (.int .i64 (k:Int)))::r) (fun k r=>(6,.vec 74 (cells (ctS p f t [⟨0,(gi p.sets (wan p (gi p.bars f)).toNat).reg⟩] k)) (ctS p f t [⟨0,(gi p.sets (wan p (gi p.bars f)).toNat).reg⟩] k).length true)::(4,.box 45 [.p (.lst 3 (cells (ctB p f t)) (t+1-f)),.vec 5 (ctN p (gi p.bars f) (gi p.bars t) p.notes.length).length 0 (ctN p (gi p.bars f) (gi p.bars t) p.notes.length).length,.vec 6 (ctS p f t [⟨0,(gi p.sets (wan p (gi p.bars f)).toNat).reg⟩] k).length 0 (ctS p f t [⟨0,(gi p.sets (wan p (gi p.bars f)).toNat).reg⟩] k).length])::r) 7
   ·first|omega|decide
   ·first|omega|decide
   ·repeat (first|exact LCov.nil|(refine LCov.eq rfl ?_ ?_;(first|exact PV.under_of rfl|(simp [PV.under,PVs.under];done)))|refine LCov.cons trivial rfl (.of_eq (lst_len (by simp<;>omega))) ?_)
   ·repeat (first|exact HCov.nil|(refine HCov.eq rfl (lt_dec rfl) ?_ ?_;(first|exact HB.under_of rfl|exact PVs.under_pure _ _|(simp [HB.under,PVs.under,PV.under];done)))|(refine HCov.cons (lt_dec rfl) ?_ rfl ?_ ?_;(first|exact trivial|exact PVs.under_pure _ _|(simp [HB.under,PVs.under,PV.under]));(first|exact HLe.refl _|exact HLe.vec (FLes.refl _) (by simp))))
   ·intro k hk
    have hl2:=ctS_len p f t [⟨0,(gi p.sets (wan p (gi p.bars f)).toNat).reg⟩] k
    have hl3:([⟨0,(gi p.sets (wan p (gi p.bars f)).toNat).reg⟩]:List Stg).length≤1:=by simp
    have e1:ctS p f t [⟨0,(gi p.sets (wan p (gi p.bars f)).toNat).reg⟩] (k+1)=if (gi p.sets k).bar≥f∧(gi p.sets k).bar<t then ctS p f t [⟨0,(gi p.sets (wan p (gi p.bars f)).toNat).reg⟩] k++[⟨(gi p.sets k).bar-f,(gi p.sets k).reg⟩] else ctS p f t [⟨0,(gi p.sets (wan p (gi p.bars f)).toNat).reg⟩] k:=rfl
    have hck:=hcop k hk
    have hsk:=(h.set k hk).1
    by_cases d:(gi p.sets k).bar≥f∧(gi p.sets k).bar<t
    ·rw [if_pos d] at e1
     have e2:(ctS p f t [⟨0,(gi p.sets (wan p (gi p.bars f)).toNat).reg⟩] (k+1)).length=(ctS p f t [⟨0,(gi p.sets (wan p (gi p.bars f)).toNat).reg⟩] k).length+1:=by rw [e1];simp
     repeat' (first|apply VWp.rseq|apply VWp.region|apply VWp.regionD|apply VWp.skipSeq|apply VWp.blockSeq|apply QSeq.normal|apply QBlk.normal|apply VOps.nil|apply VOpsD.nil|apply VOps.one|(apply VOpsD.bar;decide +kernel)|apply VOpsD.quiet|(apply VOps.take;rfl;rfl)|(apply VOps.guard;rfl;rfl)|(apply VVal.fn;rfl;rfl;exact hck;intro _;rfl)|(apply VVal.append1 (a:=(⟨(gi p.sets k).bar-f,(gi p.sets k).reg⟩:Stg));rfl;rfl;rfl;rfl;rfl;rfl;rfl;rfl;(intro _ h;cases h);rfl;rfl;rfl;decide;decide;(first|omega|(simp only [List.length_take,List.length_drop,List.length_append,List.length_singleton,List.length_cons,List.length_nil]<;>omega)))|(apply VVal.move;rfl)|(apply VVal.add64;rfl;rfl;omega)|(apply VVal.sub64;rfl;rfl;omega)|(apply VVal.int;rfl;rfl;rfl)|(apply VVal.indexN;rfl;rfl;rfl;omega;rfl)|(apply VVal.load;rfl;rfl)|(apply VVal.pick_true;rfl;rfl)|(apply VVal.fieldB;rfl;rfl;rfl)|(apply VVal.alloc;rfl)|(apply VVal.storeB;rfl;rfl;rfl;trivial;rfl;rfl;exact lt_dec rfl;exact le_dec rfl)|(apply VVal.build;rfl;rfl;rfl;rfl;rfl)|(apply VVal.buildSlice;rfl;rfl;rfl;decide;rfl;rfl;rfl)|(apply VWp.condSeq_dec;rfl)|(apply VWp.cond_dec;rfl)|(intro _;try (exfalso;omega)))
     all_goals try (exfalso;omega)
     refine QLoop.normal ⟨by first|omega|decide,?_,?_⟩
     ·try (rw [e2,e1])
      repeat (first|exact LCov.nil|refine LCov.same (by exact PV.under_of rfl) rfl ?_|refine LCov.cons trivial rfl (.of_eq (lst_len (by simp<;>omega))) ?_)
     ·rw [e2,e1]
      repeat (first|exact HCov.nil|(refine HCov.cons (lt_dec rfl) ?_ rfl ?_ ?_;(first|exact HB.under_of rfl|exact PVs.under_pure _ _|(simp [HB.under,PVs.under,PV.under]));(first|exact HLe.refl _|exact HLe.vec (FLes.refl _) (by simp))))
    ·rw [if_neg d] at e1
     repeat' (first|apply VWp.rseq|apply VWp.region|apply VWp.skipSeq|apply VWp.blockSeq|apply QSeq.normal|apply QBlk.normal|apply VWp.skip|apply VOps.nil|apply VOps.one|(apply VOps.take;rfl;rfl)|(apply VOps.drop;rfl;rfl;rfl)|(apply VOps.guard;rfl;rfl)|(apply VVal.move;rfl)|(apply VVal.add64;rfl;rfl;omega)|(apply VVal.int;rfl;rfl;rfl)|(apply VVal.indexN;rfl;rfl;rfl;omega;rfl)|(apply VVal.load;rfl;rfl)|(apply VVal.pick_true;rfl;rfl)|(apply VVal.pick_false;rfl;rfl)|(apply VVal.fieldB;rfl;rfl;rfl)|(apply VVal.alloc;rfl)|(apply VVal.storeB;rfl;rfl;rfl;trivial;rfl;rfl;exact lt_dec rfl;exact le_dec rfl)|(apply VWp.condSeq_dec;rfl)|(apply VWp.cond_false;rfl)|(apply VWp.cond_dec;rfl)|(intro _;try (exfalso;omega)))
     all_goals try (exfalso;omega)
     all_goals
      refine QLoop.normal ⟨by first|omega|decide,?_,?_⟩
      ·try (rw [e1])
       repeat (first|exact LCov.nil|refine LCov.same (by exact PV.under_of rfl) rfl ?_|refine LCov.cons trivial rfl (.of_eq (lst_len (by simp<;>omega))) ?_)
      ·rw [e1]
       repeat (first|exact HCov.nil|(refine HCov.cons (lt_dec rfl) ?_ rfl ?_ ?_;(first|exact HB.under_of rfl|exact PVs.under_pure _ _|(simp [HB.under,PVs.under,PV.under]));(first|exact HLe.refl _|exact HLe.vec (FLes.refl _) (by simp))))
   ·repeat' (first|(refine VWp.at 24 ?_;refine VWp.ghost (Ghost.trans (Ghost.freezeCell 4 1 rfl rfl rfl) (Ghost.freezeCell 4 2 rfl rfl rfl)) ?_;first|apply VWp.rseq|apply VWp.rseqD)|apply VWp.rseq|apply VWp.exitSeq|apply QSeq.normal|apply QBlk.exit|apply QLoop.exit|apply VWp.ret|apply VOps.nil|apply VOps.one|(apply VVal.assign;rfl)|(apply VVal.int;rfl;rfl;rfl)|(apply VVal.load;rfl;rfl)|(apply VVal.storeB;rfl;rfl;rfl;trivial;rfl;rfl;exact lt_dec rfl;exact le_dec rfl)|(apply VWp.condSeq_dec;rfl)|(intro _;try (exfalso;omega)))
    all_goals first|(exfalso;omega)|(refine Done.ret rfl (.refl _) (by exact PV.under_of rfl) HCov.nil (Nat.zero_le _) (Nat.le_refl _) ⟨?_,rfl,rfl⟩;try rfl)
  ·have hS:ctS0 p f=[]:=by unfold ctS0;rw [if_neg c]
   rw [hS]
   by_cases c2:0≤wan p (gi p.bars f)
   ·have hb:wan p (gi p.bars f)=((wan p (gi p.bars f)).toNat:Int):=by omega
    repeat' (first|apply VWp.assoc|apply VWp.rseq|apply VWp.skipSeq|apply VWp.exitSeq|apply VWp.blockSeq|apply QSeq.normal|apply QBlk.exit|apply QLoop.exit|apply VOps.nil|apply VOps.one|(apply VOps.take;rfl;rfl)|(apply VOps.guard;rfl;rfl)|(apply VVal.fn;rfl;rfl;exact hw;intro _;rfl)|(apply VVal.indexN (l:=p.sets) (i:=(wan p (gi p.bars f)).toNat);rfl;exact congrArg (fun b=>some (PV.p (.int .i64 b))) hb;rfl;omega;rfl)|(apply VVal.assign;rfl)|(apply VVal.move;rfl)|(apply VVal.int;rfl;rfl;rfl)|(apply VVal.load;rfl;rfl)|(apply VVal.pick_true;rfl;rfl)|(apply VVal.lenF;rfl;rfl)|(apply VVal.fieldB;rfl;rfl;rfl)|(apply VVal.fieldF;rfl;rfl)|(apply VWp.condSeq_dec;rfl)|(intro _;try (exfalso;omega)))
    all_goals try (exfalso;omega)
    apply VWp.loopR (p.sets.length) [(2,_),(3,_),(5,_),(8,_),(11,_),(118,_),(119,_)] [(1,_),(2,_),(5,_)] (fun k r=>(120,.p (.int .i64 (k:Int)))::r) (fun k r=>(6,.vec 74 (cells (ctS p f t [] k)) (ctS p f t [] k).length true)::(4,.box 45 [.p (.lst 3 (cells (ctB p f t)) (t+1-f)),.vec 5 (ctN p (gi p.bars f) (gi p.bars t) p.notes.length).length 0 (ctN p (gi p.bars f) (gi p.bars t) p.notes.length).length,.vec 6 (ctS p f t [] k).length 0 (ctS p f t [] k).length])::r) 7
    ·first|omega|decide
    ·first|omega|decide
    ·repeat (first|exact LCov.nil|(refine LCov.eq rfl ?_ ?_;(first|exact PV.under_of rfl|(simp [PV.under,PVs.under];done)))|refine LCov.cons trivial rfl (.of_eq (lst_len (by simp<;>omega))) ?_)
    ·repeat (first|exact HCov.nil|(refine HCov.eq rfl (lt_dec rfl) ?_ ?_;(first|exact HB.under_of rfl|exact PVs.under_pure _ _|(simp [HB.under,PVs.under,PV.under];done)))|(refine HCov.cons (lt_dec rfl) ?_ rfl ?_ ?_;(first|exact trivial|exact PVs.under_pure _ _|(simp [HB.under,PVs.under,PV.under]));(first|exact HLe.refl _|exact HLe.vec (FLes.refl _) (by simp))))
    ·intro k hk
     have hl2:=ctS_len p f t [] k
     have hl3:([]:List Stg).length≤1:=by simp
     have e1:ctS p f t [] (k+1)=if (gi p.sets k).bar≥f∧(gi p.sets k).bar<t then ctS p f t [] k++[⟨(gi p.sets k).bar-f,(gi p.sets k).reg⟩] else ctS p f t [] k:=rfl
     have hck:=hcop k hk
     have hsk:=(h.set k hk).1
     by_cases d:(gi p.sets k).bar≥f∧(gi p.sets k).bar<t
     ·rw [if_pos d] at e1
      have e2:(ctS p f t [] (k+1)).length=(ctS p f t [] k).length+1:=by rw [e1];simp
      repeat' (first|apply VWp.rseq|apply VWp.region|apply VWp.regionD|apply VWp.skipSeq|apply VWp.blockSeq|apply QSeq.normal|apply QBlk.normal|apply VOps.nil|apply VOpsD.nil|apply VOps.one|(apply VOpsD.bar;decide +kernel)|apply VOpsD.quiet|(apply VOps.take;rfl;rfl)|(apply VOps.guard;rfl;rfl)|(apply VVal.fn;rfl;rfl;exact hck;intro _;rfl)|(apply VVal.append1 (a:=(⟨(gi p.sets k).bar-f,(gi p.sets k).reg⟩:Stg));rfl;rfl;rfl;rfl;rfl;rfl;rfl;rfl;(intro _ h;cases h);rfl;rfl;rfl;decide;decide;(first|omega|(simp only [List.length_take,List.length_drop,List.length_append,List.length_singleton,List.length_cons,List.length_nil]<;>omega)))|(apply VVal.move;rfl)|(apply VVal.add64;rfl;rfl;omega)|(apply VVal.sub64;rfl;rfl;omega)|(apply VVal.int;rfl;rfl;rfl)|(apply VVal.indexN;rfl;rfl;rfl;omega;rfl)|(apply VVal.load;rfl;rfl)|(apply VVal.pick_true;rfl;rfl)|(apply VVal.fieldB;rfl;rfl;rfl)|(apply VVal.alloc;rfl)|(apply VVal.storeB;rfl;rfl;rfl;trivial;rfl;rfl;exact lt_dec rfl;exact le_dec rfl)|(apply VVal.build;rfl;rfl;rfl;rfl;rfl)|(apply VVal.buildSlice;rfl;rfl;rfl;decide;rfl;rfl;rfl)|(apply VWp.condSeq_dec;rfl)|(apply VWp.cond_dec;rfl)|(intro _;try (exfalso;omega)))
      all_goals try (exfalso;omega)
      refine QLoop.normal ⟨by first|omega|decide,?_,?_⟩
      ·try (rw [e2,e1])
       repeat (first|exact LCov.nil|refine LCov.same (by exact PV.under_of rfl) rfl ?_|refine LCov.cons trivial rfl (.of_eq (lst_len (by simp<;>omega))) ?_)
      ·rw [e2,e1]
       repeat (first|exact HCov.nil|(refine HCov.cons (lt_dec rfl) ?_ rfl ?_ ?_;(first|exact HB.under_of rfl|exact PVs.under_pure _ _|(simp [HB.under,PVs.under,PV.under]));(first|exact HLe.refl _|exact HLe.vec (FLes.refl _) (by simp))))
     ·rw [if_neg d] at e1
      repeat' (first|apply VWp.rseq|apply VWp.region|apply VWp.skipSeq|apply VWp.blockSeq|apply QSeq.normal|apply QBlk.normal|apply VWp.skip|apply VOps.nil|apply VOps.one|(apply VOps.take;rfl;rfl)|(apply VOps.drop;rfl;rfl;rfl)|(apply VOps.guard;rfl;rfl)|(apply VVal.move;rfl)|(apply VVal.add64;rfl;rfl;omega)|(apply VVal.int;rfl;rfl;rfl)|(apply VVal.indexN;rfl;rfl;rfl;omega;rfl)|(apply VVal.load;rfl;rfl)|(apply VVal.pick_true;rfl;rfl)|(apply VVal.pick_false;rfl;rfl)|(apply VVal.fieldB;rfl;rfl;rfl)|(apply VVal.alloc;rfl)|(apply VVal.storeB;rfl;rfl;rfl;trivial;rfl;rfl;exact lt_dec rfl;exact le_dec rfl)|(apply VWp.condSeq_dec;rfl)|(apply VWp.cond_false;rfl)|(apply VWp.cond_dec;rfl)|(intro _;try (exfalso;omega)))
      all_goals try (exfalso;omega)
      all_goals
       refine QLoop.normal ⟨by first|omega|decide,?_,?_⟩
       ·try (rw [e1])
        repeat (first|exact LCov.nil|refine LCov.same (by exact PV.under_of rfl) rfl ?_|refine LCov.cons trivial rfl (.of_eq (lst_len (by simp<;>omega))) ?_)
       ·rw [e1]
        repeat (first|exact HCov.nil|(refine HCov.cons (lt_dec rfl) ?_ rfl ?_ ?_;(first|exact HB.under_of rfl|exact PVs.under_pure _ _|(simp [HB.under,PVs.under,PV.under]));(first|exact HLe.refl _|exact HLe.vec (FLes.refl _) (by simp))))
    ·repeat' (first|(refine VWp.at 24 ?_;refine VWp.ghost (Ghost.trans (Ghost.freezeCell 4 1 rfl rfl rfl) (Ghost.freezeCell 4 2 rfl rfl rfl)) ?_;first|apply VWp.rseq|apply VWp.rseqD)|apply VWp.rseq|apply VWp.exitSeq|apply QSeq.normal|apply QBlk.exit|apply QLoop.exit|apply VWp.ret|apply VOps.nil|apply VOps.one|(apply VVal.assign;rfl)|(apply VVal.int;rfl;rfl;rfl)|(apply VVal.load;rfl;rfl)|(apply VVal.storeB;rfl;rfl;rfl;trivial;rfl;rfl;exact lt_dec rfl;exact le_dec rfl)|(apply VWp.condSeq_dec;rfl)|(intro _;try (exfalso;omega)))
     all_goals first|(exfalso;omega)|(refine Done.ret rfl (.refl _) (by exact PV.under_of rfl) HCov.nil (Nat.zero_le _) (Nat.le_refl _) ⟨?_,rfl,rfl⟩;try rfl)
   ·repeat' (first|apply VWp.assoc|apply VWp.rseq|apply VWp.skipSeq|apply VWp.exitSeq|apply VWp.blockSeq|apply QSeq.normal|apply QBlk.exit|apply QLoop.exit|apply VOps.nil|apply VOps.one|(apply VOps.drop;rfl;rfl;rfl)|(apply VOps.guard;rfl;rfl)|(apply VVal.fn;rfl;rfl;exact hw;intro _;rfl)|(apply VVal.assign;rfl)|(apply VVal.move;rfl)|(apply VVal.int;rfl;rfl;rfl)|(apply VVal.load;rfl;rfl)|(apply VVal.pick_false;rfl;rfl)|(apply VVal.lenF;rfl;rfl)|(apply VVal.fieldB;rfl;rfl;rfl)|(apply VWp.condSeq_false;rfl)|(apply VWp.condSeq_dec;rfl)|(intro _;try (exfalso;omega)))
    all_goals try (exfalso;omega)
    apply VWp.loopR (p.sets.length) [(2,_),(3,_),(5,_),(8,_),(11,_),(118,_),(119,_)] [(1,_),(2,_),(5,_)] (fun k r=>(120,.p (.int .i64 (k:Int)))::r) (fun k r=>(6,.vec 74 (cells (ctS p f t [] k)) (ctS p f t [] k).length true)::(4,.box 45 [.p (.lst 3 (cells (ctB p f t)) (t+1-f)),.vec 5 (ctN p (gi p.bars f) (gi p.bars t) p.notes.length).length 0 (ctN p (gi p.bars f) (gi p.bars t) p.notes.length).length,.vec 6 (ctS p f t [] k).length 0 (ctS p f t [] k).length])::r) 7
    ·first|omega|decide
    ·first|omega|decide
    ·repeat (first|exact LCov.nil|(refine LCov.eq rfl ?_ ?_;(first|exact PV.under_of rfl|(simp [PV.under,PVs.under];done)))|refine LCov.cons trivial rfl (.of_eq (lst_len (by simp<;>omega))) ?_)
    ·repeat (first|exact HCov.nil|(refine HCov.eq rfl (lt_dec rfl) ?_ ?_;(first|exact HB.under_of rfl|exact PVs.under_pure _ _|(simp [HB.under,PVs.under,PV.under];done)))|(refine HCov.cons (lt_dec rfl) ?_ rfl ?_ ?_;(first|exact trivial|exact PVs.under_pure _ _|(simp [HB.under,PVs.under,PV.under]));(first|exact HLe.refl _|exact HLe.vec (FLes.refl _) (by simp))))
    ·intro k hk
     have hl2:=ctS_len p f t [] k
     have hl3:([]:List Stg).length≤1:=by simp
     have e1:ctS p f t [] (k+1)=if (gi p.sets k).bar≥f∧(gi p.sets k).bar<t then ctS p f t [] k++[⟨(gi p.sets k).bar-f,(gi p.sets k).reg⟩] else ctS p f t [] k:=rfl
     have hck:=hcop k hk
     have hsk:=(h.set k hk).1
     by_cases d:(gi p.sets k).bar≥f∧(gi p.sets k).bar<t
     ·rw [if_pos d] at e1
      have e2:(ctS p f t [] (k+1)).length=(ctS p f t [] k).length+1:=by rw [e1];simp
      repeat' (first|apply VWp.rseq|apply VWp.region|apply VWp.regionD|apply VWp.skipSeq|apply VWp.blockSeq|apply QSeq.normal|apply QBlk.normal|apply VOps.nil|apply VOpsD.nil|apply VOps.one|(apply VOpsD.bar;decide +kernel)|apply VOpsD.quiet|(apply VOps.take;rfl;rfl)|(apply VOps.guard;rfl;rfl)|(apply VVal.fn;rfl;rfl;exact hck;intro _;rfl)|(apply VVal.append1 (a:=(⟨(gi p.sets k).bar-f,(gi p.sets k).reg⟩:Stg));rfl;rfl;rfl;rfl;rfl;rfl;rfl;rfl;(intro _ h;cases h);rfl;rfl;rfl;decide;decide;(first|omega|(simp only [List.length_take,List.length_drop,List.length_append,List.length_singleton,List.length_cons,List.length_nil]<;>omega)))|(apply VVal.move;rfl)|(apply VVal.add64;rfl;rfl;omega)|(apply VVal.sub64;rfl;rfl;omega)|(apply VVal.int;rfl;rfl;rfl)|(apply VVal.indexN;rfl;rfl;rfl;omega;rfl)|(apply VVal.load;rfl;rfl)|(apply VVal.pick_true;rfl;rfl)|(apply VVal.fieldB;rfl;rfl;rfl)|(apply VVal.alloc;rfl)|(apply VVal.storeB;rfl;rfl;rfl;trivial;rfl;rfl;exact lt_dec rfl;exact le_dec rfl)|(apply VVal.build;rfl;rfl;rfl;rfl;rfl)|(apply VVal.buildSlice;rfl;rfl;rfl;decide;rfl;rfl;rfl)|(apply VWp.condSeq_dec;rfl)|(apply VWp.cond_dec;rfl)|(intro _;try (exfalso;omega)))
      all_goals try (exfalso;omega)
      refine QLoop.normal ⟨by first|omega|decide,?_,?_⟩
      ·try (rw [e2,e1])
       repeat (first|exact LCov.nil|refine LCov.same (by exact PV.under_of rfl) rfl ?_|refine LCov.cons trivial rfl (.of_eq (lst_len (by simp<;>omega))) ?_)
      ·rw [e2,e1]
       repeat (first|exact HCov.nil|(refine HCov.cons (lt_dec rfl) ?_ rfl ?_ ?_;(first|exact HB.under_of rfl|exact PVs.under_pure _ _|(simp [HB.under,PVs.under,PV.under]));(first|exact HLe.refl _|exact HLe.vec (FLes.refl _) (by simp))))
     ·rw [if_neg d] at e1
      repeat' (first|apply VWp.rseq|apply VWp.region|apply VWp.skipSeq|apply VWp.blockSeq|apply QSeq.normal|apply QBlk.normal|apply VWp.skip|apply VOps.nil|apply VOps.one|(apply VOps.take;rfl;rfl)|(apply VOps.drop;rfl;rfl;rfl)|(apply VOps.guard;rfl;rfl)|(apply VVal.move;rfl)|(apply VVal.add64;rfl;rfl;omega)|(apply VVal.int;rfl;rfl;rfl)|(apply VVal.indexN;rfl;rfl;rfl;omega;rfl)|(apply VVal.load;rfl;rfl)|(apply VVal.pick_true;rfl;rfl)|(apply VVal.pick_false;rfl;rfl)|(apply VVal.fieldB;rfl;rfl;rfl)|(apply VVal.alloc;rfl)|(apply VVal.storeB;rfl;rfl;rfl;trivial;rfl;rfl;exact lt_dec rfl;exact le_dec rfl)|(apply VWp.condSeq_dec;rfl)|(apply VWp.cond_false;rfl)|(apply VWp.cond_dec;rfl)|(intro _;try (exfalso;omega)))
      all_goals try (exfalso;omega)
      all_goals
       refine QLoop.normal ⟨by first|omega|decide,?_,?_⟩
       ·try (rw [e1])
        repeat (first|exact LCov.nil|refine LCov.same (by exact PV.under_of rfl) rfl ?_|refine LCov.cons trivial rfl (.of_eq (lst_len (by simp<;>omega))) ?_)
       ·rw [e1]
        repeat (first|exact HCov.nil|(refine HCov.cons (lt_dec rfl) ?_ rfl ?_ ?_;(first|exact HB.under_of rfl|exact PVs.under_pure _ _|(simp [HB.under,PVs.under,PV.under]));(first|exact HLe.refl _|exact HLe.vec (FLes.refl _) (by simp))))
    ·repeat' (first|(refine VWp.at 24 ?_;refine VWp.ghost (Ghost.trans (Ghost.freezeCell 4 1 rfl rfl rfl) (Ghost.freezeCell 4 2 rfl rfl rfl)) ?_;first|apply VWp.rseq|apply VWp.rseqD)|apply VWp.rseq|apply VWp.exitSeq|apply QSeq.normal|apply QBlk.exit|apply QLoop.exit|apply VWp.ret|apply VOps.nil|apply VOps.one|(apply VVal.assign;rfl)|(apply VVal.int;rfl;rfl;rfl)|(apply VVal.load;rfl;rfl)|(apply VVal.storeB;rfl;rfl;rfl;trivial;rfl;rfl;exact lt_dec rfl;exact le_dec rfl)|(apply VWp.condSeq_dec;rfl)|(intro _;try (exfalso;omega)))
     all_goals first|(exfalso;omega)|(refine Done.ret rfl (.refl _) (by exact PV.under_of rfl) HCov.nil (Nat.zero_le _) (Nat.le_refl _) ⟨?_,rfl,rfl⟩;try rfl)
end Go.Proofs.YtnhdddmhkhdlhaaGreatDoor
namespace Go.Vm
open Go.Am
variable {E:Env} {L:Frame} {H:Heap} {nx:Nat}
section
variable {Q:PV→Heap→Nat→Prop} {w:Bool} {dst:Option Tmp} {ty:TypeId} {pos:String} {af:Array Edge} {gd:Option (Nat×Bool)}
theorem VVal.nilChkE {x:Operand} {b tag off:Nat} {e:TypeId} {cs:List FV} {z:Bool} (hx:vev E.Γ L x=some (.eref b tag off)) (hb:hget H b=some (.vec e cs tag z)) (q:Q (.eref b tag off) H nx) :
 VVal E w ⟨dst,.nilCheck x,ty,pos,af,gd⟩ L H nx Q :=
 VVal.quiet q fun m F σ tt h1 h2=>by
  obtain ⟨c,k',g,h3,h4⟩:=vev_eref h1 h2 hx hb
  refine ⟨.pointer (some ⟨c,off,some g⟩),fun _=>by simp only [aval,aop,h3],.eref (h1.hp b _ hb).1 rfl fun n hn=>?_⟩
  simp only [htag,hb,HB.tag,Option.map_some,Option.some.injEq,Tg.vec.injEq] at hn
  exact ⟨by omega,fun _=>⟨c,k',g,h4,rfl⟩⟩
end
end Go.Vm
namespace Go.Vm
open Go.Am
theorem cells_dropF {α:Type} [Enc α] (l:List α) (i f:Nat) (hi:i<l.length) (hf:f≤Enc.size α):(cells l).drop (i*Enc.size α+f)=(Enc.enc (gi l i)).drop f++cells (l.drop (i+1)):=by
 rw [← List.drop_drop,cells_drop l i hi,List.drop_append_of_le_length (by rw [Enc.len];exact hf)]
section
variable {E:Env} {L:Frame} {H:Heap} {nx:Nat} {Q:PV→Heap→Nat→Prop} {w:Bool}
variable {dst:Option Tmp} {ty:TypeId} {pos:String} {af:Array Edge} {gd:Option (Nat×Bool)}
variable {bn:Nat} {ops:Array Oper} {op:Op} {l:List Oper} {i:Nat} {R:Frame→Heap→Nat→Prop}
def VOpsDt (E:Env) (bn d:Nat) (ops:Array Oper) (i:Nat) (l:List Oper) (L:Frame) (H:Heap) (nx:Nat) (Q:Frame→Heap→Nat→Prop):Prop :=
 ∀ (B:Base),B.nx=bn→∀ m F σ t,Ctx E.Γ m F σ H nx→RL m F (htag H) σ nx L t→tget t d=.slice emptyAt 0 0→B.to m F σ H nx →
  AOpsD E.P E.O E.G ops i l ⟨t,m⟩ fun s'=>∃ L' H' nx' F' σ',Q L' H' nx'∧Ctx E.Γ s'.m F' σ' H' nx'∧RL s'.m F' (htag H') σ' nx' L' s'.t∧B.to s'.m F' σ' H' nx'
theorem VVal.loadVF {α:Type} {_:Enc α} {t:TypeId} {a:Operand} {b n i f:Nat} {e:TypeId} {l:List α} {z:Bool} {r:FV} (ha:vev E.Γ L a=some (.eref b n (i*Enc.size α+f))) (hb:hget H b=some (.vec e (cells l) n z)) (hi:i<l.length) (hf:f≤Enc.size α)
 (h:loadF E.P t ((Enc.enc (gi l i)).drop f++cells (l.drop (i+1)))=some r) (q:Q (.p r) H nx):VVal E w ⟨dst,.load t a,ty,pos,af,gd⟩ L H nx Q :=
 VVal.loadV ha hb (by rw [cells_dropF l i f hi hf];exact h) q
end
end Go.Vm
namespace Go.Proofs.YtnhdddmhkhdlhaaGreatDoor
open Go Go.Am Go.Vm Go.Pie
attribute [local irreducible] VVal VOps VOpsD VWp VCalls VFun VFunV QSeq QBlk QLoop Vm.Done DoneV DoneI
attribute [local irreducible] rchk windsE stoE dvsE cplE shiftR tailH
def lkF (p:Pce) (L:List Int) (k d:Nat):Nts:=ofK (kdK p L d k) (kdK p L d k).length
end Go.Proofs.YtnhdddmhkhdlhaaGreatDoor
namespace Go.Proofs.YtnhdddmhkhdlhaaGreatDoor
open Go Go.Am Go.Vm Go.Pie
attribute [local irreducible] VVal VOps VOpsD VWp VCalls VFun VFunV QSeq QBlk QLoop Vm.Done DoneV DoneI
attribute [local irreducible] rchk windsE stoE dvsE cplE shiftR tailH
noncomputable instance (a b:Rgs):Decidable (a=b):=Classical.propDecidable _
noncomputable instance (a b:Stg):Decidable (a=b):=Classical.propDecidable _
noncomputable instance (a b:Pce):Decidable (a=b):=Classical.propDecidable _
theorem all_succP {α:Type} [Inhabited α] {a b:List α} {k:Nat} (hok:∀ i,i<k→gi a i=gi b i) (h:gi a k=gi b k):∀ i,i<k+1→gi a i=gi b i:=fun i hi=>by
 rcases Nat.lt_or_ge i k with h1|h1
 ·exact hok i h1
 ·obtain rfl:i=k:=by omega
  exact h
theorem seq64 (a b:List Nat) (ha:a.length<9223372036854775808) (hb:b.length<9223372036854775808):VFun env 65 [.lst 68 (cells a) a.length,.lst 68 (cells b) b.length] (.p (.bool (decide (a=b)))):=by
 by_cases hlen:a.length=b.length
 case neg =>
  rw [decide_eq_false (fun e=>hlen (by rw [e]))]
  refine VFun.enter (env_none (by decide)) Tryz.func65 rfl (by kernel_rfl) (by simp [Tryz.ntmps65]) ?_
  repeat' (first|apply VWp.assoc|apply VWp.rseq|apply VWp.retSeq|apply VOps.nil|apply VOps.one|(apply VVal.assign;rfl)|(apply VVal.move;rfl)|(apply VVal.int;rfl;rfl;rfl)|(apply VVal.lenF;rfl;rfl)|(apply VWp.condSeq_dec;rfl)|(intro _;try (exfalso;omega)))
  all_goals first|(exfalso;omega)|contradiction|(refine Done.ret rfl (.refl _) (by exact PV.under_of rfl) HCov.nil (Nat.zero_le _) (Nat.le_refl _) ⟨?_,rfl,rfl⟩;try rfl)
 refine VFun.enter (env_none (by decide)) Tryz.func65 rfl (by kernel_rfl) (by simp [Tryz.ntmps65]) ?_
 repeat' (first|apply VWp.assoc|apply VWp.rseq|apply VWp.skipSeq|apply VWp.blockSeq|apply VOps.nil|apply VOps.one|(apply VVal.assign;rfl)|(apply VVal.move;rfl)|(apply VVal.int;rfl;rfl;rfl)|(apply VVal.lenF;rfl;rfl)|(apply VWp.condSeq_dec;rfl)|(intro _;try (exfalso;omega)))
 all_goals try (exfalso;omega)
 apply VWp.loopRI (a.length) (fun k=>∀ i,i<k→gi a i=gi b i) [(0,_),(1,_),(12,_)] [] (fun k r=>(13,.p (.int .i64 (k:Int)))::r) (fun k r=>r) 0
 ·first|omega|decide
 ·first|omega|decide
 ·repeat (first|exact LCov.nil|(refine LCov.eq rfl ?_ ?_;(first|exact PV.under_of rfl|(simp [PV.under,PVs.under];done)))|refine LCov.cons trivial rfl (.of_eq (lst_len (by simp<;>omega))) ?_)
 ·repeat (first|exact HCov.nil|(refine HCov.eq rfl (lt_dec rfl) ?_ ?_;(first|exact HB.under_of rfl|exact PVs.under_pure _ _|(simp [HB.under,PVs.under,PV.under];done)))|(refine HCov.cons (lt_dec rfl) ?_ rfl ?_ ?_;(first|exact trivial|exact PVs.under_pure _ _|(simp [HB.under,PVs.under,PV.under]));(first|exact HLe.refl _|exact HLe.vec (FLes.refl _) (by simp))))
 ·first|(intro _ _;omega)|omega|trivial
 ·intro k hk hok
  by_cases h:gi a k=gi b k
  ·repeat' (first|apply VWp.rseq|apply VWp.rseqD|apply VWp.region|apply VWp.skipSeq|apply VWp.blockSeq|apply QSeq.normal|apply QBlk.normal|apply VWp.skip|apply VOps.nil|apply VOpsD.nil|apply VOps.one|(apply VOpsD.bar;decide +kernel)|apply VOpsD.quiet|(apply VVal.assign;rfl)|(apply VVal.move;rfl)|(apply VVal.add64;rfl;rfl;omega)|(apply VVal.int;rfl;rfl;rfl)|(apply VVal.indexN;rfl;rfl;rfl;omega;rfl)|(apply VVal.load;rfl;rfl)|(apply VWp.condSeq_dec;rfl)|(apply VWp.cond_dec;rfl)|(intro _;try (exfalso;omega)))
   all_goals try (exfalso;omega)
   all_goals try contradiction
   refine QLoop.normal ⟨(all_succP hok h),by first|omega|decide,?_,?_⟩
   ·repeat (first|exact LCov.nil|refine LCov.same (by exact PV.under_of rfl) rfl ?_|refine LCov.cons trivial rfl (.of_eq (lst_len (by simp<;>omega))) ?_)
   ·repeat (first|exact HCov.nil|(refine HCov.cons (lt_dec rfl) ?_ rfl ?_ ?_;(first|exact HB.under_of rfl|exact PVs.under_pure _ _|(simp [HB.under,PVs.under,PV.under]));(first|exact HLe.refl _|exact HLe.vec (FLes.refl _) (by simp))))
  ·rw [decide_eq_false (fun e=>h (by rw [e]))]
   repeat' (first|apply VWp.rseq|apply VWp.rseqD|apply VWp.skipSeq|apply VWp.blockSeq|apply QSeq.ret|apply QBlk.ret|apply QLoop.ret|apply VWp.ret|apply VOps.nil|apply VOpsD.nil|apply VOps.one|(apply VOpsD.bar;decide +kernel)|apply VOpsD.quiet|(apply VVal.assign;rfl)|(apply VVal.move;rfl)|(apply VVal.int;rfl;rfl;rfl)|(apply VVal.indexN;rfl;rfl;rfl;omega;rfl)|(apply VVal.load;rfl;rfl)|(apply VWp.condSeq_dec;rfl)|(apply VWp.cond_dec;rfl)|(intro _;try (exfalso;omega)))
   all_goals first|(exfalso;omega)|contradiction|(refine Done.ret rfl (.refl _) (by exact PV.under_of rfl) HCov.nil (Nat.zero_le _) (Nat.le_refl _) ⟨?_,rfl,rfl⟩;try rfl)
 ·intro hok
  rw [decide_eq_true (gi_ext hlen hok)]
  repeat' (first|apply VWp.rseq|apply VWp.exitSeq|apply QSeq.normal|apply QBlk.exit|apply QLoop.exit|apply VWp.ret|apply VOps.nil|apply VOps.one|(apply VVal.assign;rfl)|(apply VVal.int;rfl;rfl;rfl)|(apply VWp.condSeq_dec;rfl)|(intro _;try (exfalso;omega)))
  all_goals first|(exfalso;omega)|contradiction|(refine Done.ret rfl (.refl _) (by exact PV.under_of rfl) HCov.nil (Nat.zero_le _) (Nat.le_refl _) ⟨?_,rfl,rfl⟩;try rfl)
theorem freeNte:eqFree Tryz.prog 66=true:=by kernel_rfl
theorem eqNte (x y:Nte):Vm.eqSt Tryz.prog 66 (Enc.enc x) (Enc.enc y)=some (decide (x=y)):=by
 show some (decide (x.s=y.s)&&(decide (x.e=y.e)&&(decide (x.d=y.d)&&(decide (x.k=y.k)&&true))))=_
 by_cases h:x=y
 ·subst h;simp
 ·rw [decide_eq_false h]
  have:¬ (x.s=y.s∧x.e=y.e∧x.d=y.d∧x.k=y.k):=fun h'=>h (by cases x;cases y;simp_all)
  by_cases h1:x.s=y.s<;>by_cases h2:x.e=y.e<;>by_cases h3:x.d=y.d<;>simp_all
theorem seqNte (a b:List Nte) (ha:a.length<9223372036854775808) (hb:b.length<9223372036854775808):VFun env 60 [.lst 66 (cells a) a.length,.lst 66 (cells b) b.length] (.p (.bool (decide (a=b)))):=by
 by_cases hlen:a.length=b.length
 case neg =>
  rw [decide_eq_false (fun e=>hlen (by rw [e]))]
  refine VFun.enter (env_none (by decide)) Tryz.func60 rfl (by kernel_rfl) (by simp [Tryz.ntmps60]) ?_
  repeat' (first|apply VWp.assoc|apply VWp.rseq|apply VWp.retSeq|apply VOps.nil|apply VOps.one|(apply VVal.assign;rfl)|(apply VVal.move;rfl)|(apply VVal.int;rfl;rfl;rfl)|(apply VVal.lenF;rfl;rfl)|(apply VWp.condSeq_dec;rfl)|(intro _;try (exfalso;omega)))
  all_goals first|(exfalso;omega)|contradiction|(refine Done.ret rfl (.refl _) (by exact PV.under_of rfl) HCov.nil (Nat.zero_le _) (Nat.le_refl _) ⟨?_,rfl,rfl⟩;try rfl)
 refine VFun.enter (env_none (by decide)) Tryz.func60 rfl (by kernel_rfl) (by simp [Tryz.ntmps60]) ?_
 repeat' (first|apply VWp.assoc|apply VWp.rseq|apply VWp.skipSeq|apply VWp.blockSeq|apply VOps.nil|apply VOps.one|(apply VVal.assign;rfl)|(apply VVal.move;rfl)|(apply VVal.int;rfl;rfl;rfl)|(apply VVal.lenF;rfl;rfl)|(apply VWp.condSeq_dec;rfl)|(intro _;try (exfalso;omega)))
 all_goals try (exfalso;omega)
 apply VWp.loopRI (a.length) (fun k=>∀ i,i<k→gi a i=gi b i) [(0,_),(1,_),(12,_)] [] (fun k r=>(13,.p (.int .i64 (k:Int)))::r) (fun k r=>r) 0
 ·first|omega|decide
 ·first|omega|decide
 ·repeat (first|exact LCov.nil|(refine LCov.eq rfl ?_ ?_;(first|exact PV.under_of rfl|(simp [PV.under,PVs.under];done)))|refine LCov.cons trivial rfl (.of_eq (lst_len (by simp<;>omega))) ?_)
 ·repeat (first|exact HCov.nil|(refine HCov.eq rfl (lt_dec rfl) ?_ ?_;(first|exact HB.under_of rfl|exact PVs.under_pure _ _|(simp [HB.under,PVs.under,PV.under];done)))|(refine HCov.cons (lt_dec rfl) ?_ rfl ?_ ?_;(first|exact trivial|exact PVs.under_pure _ _|(simp [HB.under,PVs.under,PV.under]));(first|exact HLe.refl _|exact HLe.vec (FLes.refl _) (by simp))))
 ·first|(intro _ _;omega)|omega|trivial
 ·intro k hk hok
  have he:=eqNte (gi a k) (gi b k)
  by_cases h:gi a k=gi b k
  ·rw [decide_eq_true h] at he
   repeat' (first|apply VWp.rseq|apply VWp.rseqD|apply VWp.region|apply VWp.skipSeq|apply VWp.blockSeq|apply QSeq.normal|apply QBlk.normal|apply VWp.skip|apply VOps.nil|apply VOpsD.nil|apply VOps.one|(apply VOpsD.bar;decide +kernel)|apply VOpsD.quiet|(apply VVal.neSt1;rfl;rfl;exact freeNte;exact he)|(apply VVal.assign;rfl)|(apply VVal.move;rfl)|(apply VVal.add64;rfl;rfl;omega)|(apply VVal.int;rfl;rfl;rfl)|(apply VVal.indexN;rfl;rfl;rfl;omega;rfl)|(apply VVal.load;rfl;rfl)|(apply VWp.condSeq_dec;rfl)|(apply VWp.cond_false;rfl)|(intro _;try (exfalso;omega)))
   all_goals try (exfalso;omega)
   all_goals try contradiction
   refine QLoop.normal ⟨(all_succP hok h),by first|omega|decide,?_,?_⟩
   ·repeat (first|exact LCov.nil|refine LCov.same (by exact PV.under_of rfl) rfl ?_|refine LCov.cons trivial rfl (.of_eq (lst_len (by simp<;>omega))) ?_)
   ·repeat (first|exact HCov.nil|(refine HCov.cons (lt_dec rfl) ?_ rfl ?_ ?_;(first|exact HB.under_of rfl|exact PVs.under_pure _ _|(simp [HB.under,PVs.under,PV.under]));(first|exact HLe.refl _|exact HLe.vec (FLes.refl _) (by simp))))
  ·rw [decide_eq_false h] at he
   rw [decide_eq_false (fun e=>h (by rw [e]))]
   repeat' (first|apply VWp.rseq|apply VWp.rseqD|apply VWp.skipSeq|apply VWp.blockSeq|apply QSeq.ret|apply QBlk.ret|apply QLoop.ret|apply VWp.ret|apply VOps.nil|apply VOpsD.nil|apply VOps.one|(apply VOpsD.bar;decide +kernel)|apply VOpsD.quiet|(apply VVal.neSt1;rfl;rfl;exact freeNte;exact he)|(apply VVal.assign;rfl)|(apply VVal.move;rfl)|(apply VVal.int;rfl;rfl;rfl)|(apply VVal.indexN;rfl;rfl;rfl;omega;rfl)|(apply VVal.load;rfl;rfl)|(apply VWp.condSeq_dec;rfl)|(apply VWp.cond_true;rfl)|(intro _;try (exfalso;omega)))
   all_goals first|(exfalso;omega)|contradiction|(refine Done.ret rfl (.refl _) (by exact PV.under_of rfl) HCov.nil (Nat.zero_le _) (Nat.le_refl _) ⟨?_,rfl,rfl⟩;try rfl)
 ·intro hok
  rw [decide_eq_true (gi_ext hlen hok)]
  repeat' (first|apply VWp.rseq|apply VWp.exitSeq|apply QSeq.normal|apply QBlk.exit|apply QLoop.exit|apply VWp.ret|apply VOps.nil|apply VOps.one|(apply VVal.assign;rfl)|(apply VVal.int;rfl;rfl;rfl)|(apply VWp.condSeq_dec;rfl)|(intro _;try (exfalso;omega)))
  all_goals first|(exfalso;omega)|contradiction|(refine Done.ret rfl (.refl _) (by exact PV.under_of rfl) HCov.nil (Nat.zero_le _) (Nat.le_refl _) ⟨?_,rfl,rfl⟩;try rfl)
theorem rgs_dec {a b:Rgs}:(a=b)↔(a.stops=b.stops∧a.cp=b.cp∧a.off=b.off):=by
 constructor
 ·rintro rfl;exact ⟨rfl,rfl,rfl⟩
 ·rintro ⟨h1,h2,h3⟩;cases a;cases b;simp_all
theorem stg_dec {a b:Stg}:(a=b)↔(a.bar=b.bar∧a.reg=b.reg):=by
 constructor
 ·rintro rfl;exact ⟨rfl,rfl⟩
 ·rintro ⟨h1,h2⟩;cases a;cases b;simp_all
theorem pce_dec {a b:Pce}:(a=b)↔(a.bars=b.bars∧a.notes=b.notes∧a.sets=b.sets):=by
 constructor
 ·rintro rfl;exact ⟨rfl,rfl,rfl⟩
 ·rintro ⟨h1,h2,h3⟩;cases a;cases b;simp_all
theorem sameR_spec (a b:Rgs) (ha:a.stops.length<9223372036854775808) (hb:b.stops.length<9223372036854775808):VFun env 33 [.agg (Enc.enc a),.agg (Enc.enc b)] (.p (.bool (decide (a=b)))):=by
 have hs:=seq64 a.stops b.stops ha hb
 by_cases h1:a.stops=b.stops<;>by_cases h2:a.cp=b.cp<;>by_cases h3:a.off=b.off
 all_goals first|rw [decide_eq_true h1] at hs|rw [decide_eq_false h1] at hs
 all_goals first|rw [decide_eq_true (rgs_dec.2 ⟨h1,h2,h3⟩)]|rw [decide_eq_false (fun e=>by have:=rgs_dec.1 e;simp_all)]
 all_goals
  refine VFun.enter (env_none (by decide)) Tryz.func33 rfl (by kernel_rfl) (by simp [Tryz.ntmps33]) ?_
 all_goals
  repeat' (first|apply VWp.rseq|apply VWp.ret|apply VOps.nil|apply VOps.one|(apply VOps.take;rfl;rfl)|(apply VOps.drop;rfl;rfl;rfl)|(apply VOps.guard;rfl;rfl)|(apply VVal.fn;rfl;rfl;exact hs;intro _;rfl)|(apply VVal.assign;rfl)|(apply VVal.move;rfl)|(apply VVal.int;rfl;rfl;rfl)|(apply VVal.load;rfl;rfl)|(apply VVal.pick_true;rfl;rfl)|(apply VVal.pick_false;rfl;rfl)|(apply VVal.fieldB;rfl;rfl;rfl)|(apply VVal.box;rfl;trivial)|(intro _;try (exfalso;omega)))
 all_goals first|(exfalso;omega)|contradiction|(refine Done.ret rfl (.refl _) (by exact PV.under_of rfl) HCov.nil (Nat.zero_le _) (Nat.le_refl _) ⟨?_,rfl,rfl⟩;try rfl)
 all_goals exact PV.bool_eq (by simp;omega)
theorem eqStgL (x y:Stg) (hx:x.reg.Ok) (hy:y.reg.Ok):VRead env 62 ([.p (.agg (Enc.enc x)),.p (.agg (Enc.enc y))]++[]) [] 0 (.bool (decide (x=y))):=by
 have hs:=sameR_spec x.reg y.reg hx.len hy.len
 by_cases h1:x.bar=y.bar<;>by_cases h2:x.reg=y.reg
 all_goals first|rw [decide_eq_true h2] at hs|rw [decide_eq_false h2] at hs
 all_goals first|rw [decide_eq_true (stg_dec.2 ⟨h1,h2⟩)]|rw [decide_eq_false (fun e=>by have:=stg_dec.1 e;simp_all)]
 all_goals
  refine VRead.enter (env_none (by decide)) Tryz.func62 rfl (by kernel_rfl) (by simp [Tryz.ntmps62]) ?_
 all_goals
  repeat' (first|apply VWp.rseq|apply VWp.ret|apply VOps.nil|apply VOps.one|(apply VOps.take;rfl;rfl)|(apply VOps.drop;rfl;rfl;rfl)|(apply VOps.guard;rfl;rfl)|(apply VVal.fn;rfl;rfl;exact hs;intro _;rfl)|(apply VVal.assign;rfl)|(apply VVal.move;rfl)|(apply VVal.int;rfl;rfl;rfl)|(apply VVal.load;rfl;rfl)|(apply VVal.pick_true;rfl;rfl)|(apply VVal.pick_false;rfl;rfl)|(apply VVal.fieldB;rfl;rfl;rfl)|(apply VVal.box;rfl;trivial)|(intro _;try (exfalso;omega)))
 all_goals first|(exfalso;omega)|contradiction|(refine Done.ret rfl (.refl _) trivial ?_ (by omega) (Nat.le_refl _) ⟨?_,rfl,rfl⟩;repeat (first|exact HCov.nil|(refine HCov.cons (lt_dec rfl) ?_ rfl ?_ ?_;(first|exact HB.under_of rfl|exact PVs.under_pure _ _|(simp [HB.under,PVs.under,PV.under]));(first|exact HLe.refl _|exact HLe.vec (FLes.refl _) (by simp))));try rfl)
 all_goals exact PV.bool_eq (by simp;omega)
theorem eqfStg (g:Nat) (hg:g=62∨g=64) (a b:List Stg) (ha:a.length<9223372036854775808) (hb:b.length<9223372036854775808) (he:∀ i,i<a.length→i<b.length→VRead env g ([.p (.agg (Enc.enc (gi a i))),.p (.agg (Enc.enc (gi b i)))]++[]) [] 0 (.bool (decide (gi a i=gi b i)))) :
 VRead env 61 [.p (.lst 74 (cells a) a.length),.p (.lst 74 (cells b) b.length),.clo g [] []] [] 0 (.bool (decide (a=b))):=by
 rcases hg with rfl|rfl
 ·skip
  by_cases hlen:a.length=b.length
  case neg =>
   rw [decide_eq_false (fun e=>hlen (by rw [e]))]
   refine VRead.enter (env_none (by decide)) Tryz.func61 rfl (by kernel_rfl) (by simp [Tryz.ntmps61]) ?_
   repeat' (first|apply VWp.assoc|apply VWp.rseq|apply VWp.retSeq|apply VOps.nil|apply VOps.one|(apply VVal.assign;rfl)|(apply VVal.move;rfl)|(apply VVal.int;rfl;rfl;rfl)|(apply VVal.lenF;rfl;rfl)|(apply VWp.condSeq_dec;rfl)|(intro _;try (exfalso;omega)))
   all_goals first|(exfalso;omega)|contradiction|(refine Done.ret rfl (.refl _) trivial ?_ (by omega) (Nat.le_refl _) ⟨?_,rfl,rfl⟩;repeat (first|exact HCov.nil|(refine HCov.cons (lt_dec rfl) ?_ rfl ?_ ?_;(first|exact HB.under_of rfl|exact PVs.under_pure _ _|(simp [HB.under,PVs.under,PV.under]));(first|exact HLe.refl _|exact HLe.vec (FLes.refl _) (by simp))));try rfl)
  refine VRead.enter (env_none (by decide)) Tryz.func61 rfl (by kernel_rfl) (by simp [Tryz.ntmps61]) ?_
  repeat' (first|apply VWp.assoc|apply VWp.rseq|apply VWp.skipSeq|apply VWp.blockSeq|apply VOps.nil|apply VOps.one|(apply VVal.assign;rfl)|(apply VVal.move;rfl)|(apply VVal.int;rfl;rfl;rfl)|(apply VVal.lenF;rfl;rfl)|(apply VWp.condSeq_dec;rfl)|(intro _;try (exfalso;omega)))
  all_goals try (exfalso;omega)
  apply VWp.loopRI (a.length) (fun k=>∀ i,i<k→gi a i=gi b i) [(1,_),(2,_),(15,_),(16,_)] [] (fun k r=>(17,.p (.int .i64 (k:Int)))::r) (fun k r=>r) 0
  ·first|omega|decide
  ·first|omega|decide
  ·repeat (first|exact LCov.nil|(refine LCov.eq rfl ?_ ?_;(first|exact PV.under_of rfl|(simp [PV.under,PVs.under];done)))|refine LCov.cons trivial rfl (.of_eq (lst_len (by simp<;>omega))) ?_)
  ·repeat (first|exact HCov.nil|(refine HCov.eq rfl (lt_dec rfl) ?_ ?_;(first|exact HB.under_of rfl|exact PVs.under_pure _ _|(simp [HB.under,PVs.under,PV.under];done)))|(refine HCov.cons (lt_dec rfl) ?_ rfl ?_ ?_;(first|exact trivial|exact PVs.under_pure _ _|(simp [HB.under,PVs.under,PV.under]));(first|exact HLe.refl _|exact HLe.vec (FLes.refl _) (by simp))))
  ·first|(intro _ _;omega)|omega|trivial
  ·intro k hk hok
   have hc:=he k hk (by omega)
   by_cases h:gi a k=gi b k
   ·rw [decide_eq_true h] at hc
    repeat' (first|apply VWp.rseq|apply VWp.region|apply VWp.skipSeq|apply VWp.blockSeq|apply QSeq.normal|apply QBlk.normal|apply VWp.skip|apply VOps.nil|apply VOps.one|(apply VVal.read [] hc;rfl;rfl;exact .of_eq rfl;exact PVs.under_of rfl;exact HUnder_of rfl;(repeat (first|exact trivial|refine ⟨⟨_,rfl,.of_eq rfl⟩,?_⟩));decide;(intro _ hb;simp at hb<;>omega);rfl)|(apply VVal.assign;rfl)|(apply VVal.move;rfl)|(apply VVal.add64;rfl;rfl;omega)|(apply VVal.int;rfl;rfl;rfl)|(apply VVal.indexN;rfl;rfl;rfl;omega;rfl)|(apply VVal.load;rfl;rfl)|(apply VVal.alloc;rfl)|(apply VVal.storeB;rfl;rfl;rfl;trivial;rfl;rfl;exact lt_dec rfl;exact le_dec rfl)|(apply VVal.not;rfl)|(apply VWp.condSeq_dec;rfl)|(apply VWp.cond_false;rfl)|(intro _;try (exfalso;omega)))
    all_goals try (exfalso;omega)
    all_goals try contradiction
    refine QLoop.normal ⟨(all_succP hok h),by first|omega|decide,?_,?_⟩
    ·repeat (first|exact LCov.nil|refine LCov.same (by exact PV.under_of rfl) rfl ?_|refine LCov.cons trivial rfl (.of_eq (lst_len (by simp<;>omega))) ?_)
    ·repeat (first|exact HCov.nil|(refine HCov.cons (lt_dec rfl) ?_ rfl ?_ ?_;(first|exact HB.under_of rfl|exact PVs.under_pure _ _|(simp [HB.under,PVs.under,PV.under]));(first|exact HLe.refl _|exact HLe.vec (FLes.refl _) (by simp))))
   ·rw [decide_eq_false h] at hc
    rw [decide_eq_false (fun e=>h (by rw [e]))]
    repeat' (first|apply VWp.rseq|apply VWp.skipSeq|apply VWp.blockSeq|apply QSeq.ret|apply QBlk.ret|apply QLoop.ret|apply VWp.ret|apply VOps.nil|apply VOps.one|(apply VVal.read [] hc;rfl;rfl;exact .of_eq rfl;exact PVs.under_of rfl;exact HUnder_of rfl;(repeat (first|exact trivial|refine ⟨⟨_,rfl,.of_eq rfl⟩,?_⟩));decide;(intro _ hb;simp at hb<;>omega);rfl)|(apply VVal.assign;rfl)|(apply VVal.move;rfl)|(apply VVal.int;rfl;rfl;rfl)|(apply VVal.indexN;rfl;rfl;rfl;omega;rfl)|(apply VVal.load;rfl;rfl)|(apply VVal.alloc;rfl)|(apply VVal.storeB;rfl;rfl;rfl;trivial;rfl;rfl;exact lt_dec rfl;exact le_dec rfl)|(apply VVal.not;rfl)|(apply VWp.condSeq_dec;rfl)|(apply VWp.cond_true;rfl)|(intro _;try (exfalso;omega)))
    all_goals first|(exfalso;omega)|contradiction|(refine Done.ret rfl (.refl _) trivial ?_ (by omega) (Nat.le_refl _) ⟨?_,rfl,rfl⟩;repeat (first|exact HCov.nil|(refine HCov.cons (lt_dec rfl) ?_ rfl ?_ ?_;(first|exact HB.under_of rfl|exact PVs.under_pure _ _|(simp [HB.under,PVs.under,PV.under]));(first|exact HLe.refl _|exact HLe.vec (FLes.refl _) (by simp))));try rfl)
  ·intro hok
   rw [decide_eq_true (gi_ext hlen hok)]
   repeat' (first|apply VWp.rseq|apply VWp.exitSeq|apply QSeq.normal|apply QBlk.exit|apply QLoop.exit|apply VWp.ret|apply VOps.nil|apply VOps.one|(apply VVal.assign;rfl)|(apply VVal.int;rfl;rfl;rfl)|(apply VWp.condSeq_dec;rfl)|(intro _;try (exfalso;omega)))
   all_goals first|(exfalso;omega)|contradiction|(refine Done.ret rfl (.refl _) trivial ?_ (by omega) (Nat.le_refl _) ⟨?_,rfl,rfl⟩;repeat (first|exact HCov.nil|(refine HCov.cons (lt_dec rfl) ?_ rfl ?_ ?_;(first|exact HB.under_of rfl|exact PVs.under_pure _ _|(simp [HB.under,PVs.under,PV.under]));(first|exact HLe.refl _|exact HLe.vec (FLes.refl _) (by simp))));try rfl)
 ·skip
  by_cases hlen:a.length=b.length
  case neg =>
   rw [decide_eq_false (fun e=>hlen (by rw [e]))]
   refine VRead.enter (env_none (by decide)) Tryz.func61 rfl (by kernel_rfl) (by simp [Tryz.ntmps61]) ?_
   repeat' (first|apply VWp.assoc|apply VWp.rseq|apply VWp.retSeq|apply VOps.nil|apply VOps.one|(apply VVal.assign;rfl)|(apply VVal.move;rfl)|(apply VVal.int;rfl;rfl;rfl)|(apply VVal.lenF;rfl;rfl)|(apply VWp.condSeq_dec;rfl)|(intro _;try (exfalso;omega)))
   all_goals first|(exfalso;omega)|contradiction|(refine Done.ret rfl (.refl _) trivial ?_ (by omega) (Nat.le_refl _) ⟨?_,rfl,rfl⟩;repeat (first|exact HCov.nil|(refine HCov.cons (lt_dec rfl) ?_ rfl ?_ ?_;(first|exact HB.under_of rfl|exact PVs.under_pure _ _|(simp [HB.under,PVs.under,PV.under]));(first|exact HLe.refl _|exact HLe.vec (FLes.refl _) (by simp))));try rfl)
  refine VRead.enter (env_none (by decide)) Tryz.func61 rfl (by kernel_rfl) (by simp [Tryz.ntmps61]) ?_
  repeat' (first|apply VWp.assoc|apply VWp.rseq|apply VWp.skipSeq|apply VWp.blockSeq|apply VOps.nil|apply VOps.one|(apply VVal.assign;rfl)|(apply VVal.move;rfl)|(apply VVal.int;rfl;rfl;rfl)|(apply VVal.lenF;rfl;rfl)|(apply VWp.condSeq_dec;rfl)|(intro _;try (exfalso;omega)))
  all_goals try (exfalso;omega)
  apply VWp.loopRI (a.length) (fun k=>∀ i,i<k→gi a i=gi b i) [(1,_),(2,_),(15,_),(16,_)] [] (fun k r=>(17,.p (.int .i64 (k:Int)))::r) (fun k r=>r) 0
  ·first|omega|decide
  ·first|omega|decide
  ·repeat (first|exact LCov.nil|(refine LCov.eq rfl ?_ ?_;(first|exact PV.under_of rfl|(simp [PV.under,PVs.under];done)))|refine LCov.cons trivial rfl (.of_eq (lst_len (by simp<;>omega))) ?_)
  ·repeat (first|exact HCov.nil|(refine HCov.eq rfl (lt_dec rfl) ?_ ?_;(first|exact HB.under_of rfl|exact PVs.under_pure _ _|(simp [HB.under,PVs.under,PV.under];done)))|(refine HCov.cons (lt_dec rfl) ?_ rfl ?_ ?_;(first|exact trivial|exact PVs.under_pure _ _|(simp [HB.under,PVs.under,PV.under]));(first|exact HLe.refl _|exact HLe.vec (FLes.refl _) (by simp))))
  ·first|(intro _ _;omega)|omega|trivial
  ·intro k hk hok
   have hc:=he k hk (by omega)
   by_cases h:gi a k=gi b k
   ·rw [decide_eq_true h] at hc
    repeat' (first|apply VWp.rseq|apply VWp.region|apply VWp.skipSeq|apply VWp.blockSeq|apply QSeq.normal|apply QBlk.normal|apply VWp.skip|apply VOps.nil|apply VOps.one|(apply VVal.read [] hc;rfl;rfl;exact .of_eq rfl;exact PVs.under_of rfl;exact HUnder_of rfl;(repeat (first|exact trivial|refine ⟨⟨_,rfl,.of_eq rfl⟩,?_⟩));decide;(intro _ hb;simp at hb<;>omega);rfl)|(apply VVal.assign;rfl)|(apply VVal.move;rfl)|(apply VVal.add64;rfl;rfl;omega)|(apply VVal.int;rfl;rfl;rfl)|(apply VVal.indexN;rfl;rfl;rfl;omega;rfl)|(apply VVal.load;rfl;rfl)|(apply VVal.alloc;rfl)|(apply VVal.storeB;rfl;rfl;rfl;trivial;rfl;rfl;exact lt_dec rfl;exact le_dec rfl)|(apply VVal.not;rfl)|(apply VWp.condSeq_dec;rfl)|(apply VWp.cond_false;rfl)|(intro _;try (exfalso;omega)))
    all_goals try (exfalso;omega)
    all_goals try contradiction
    refine QLoop.normal ⟨(all_succP hok h),by first|omega|decide,?_,?_⟩
    ·repeat (first|exact LCov.nil|refine LCov.same (by exact PV.under_of rfl) rfl ?_|refine LCov.cons trivial rfl (.of_eq (lst_len (by simp<;>omega))) ?_)
    ·repeat (first|exact HCov.nil|(refine HCov.cons (lt_dec rfl) ?_ rfl ?_ ?_;(first|exact HB.under_of rfl|exact PVs.under_pure _ _|(simp [HB.under,PVs.under,PV.under]));(first|exact HLe.refl _|exact HLe.vec (FLes.refl _) (by simp))))
   ·rw [decide_eq_false h] at hc
    rw [decide_eq_false (fun e=>h (by rw [e]))]
    repeat' (first|apply VWp.rseq|apply VWp.skipSeq|apply VWp.blockSeq|apply QSeq.ret|apply QBlk.ret|apply QLoop.ret|apply VWp.ret|apply VOps.nil|apply VOps.one|(apply VVal.read [] hc;rfl;rfl;exact .of_eq rfl;exact PVs.under_of rfl;exact HUnder_of rfl;(repeat (first|exact trivial|refine ⟨⟨_,rfl,.of_eq rfl⟩,?_⟩));decide;(intro _ hb;simp at hb<;>omega);rfl)|(apply VVal.assign;rfl)|(apply VVal.move;rfl)|(apply VVal.int;rfl;rfl;rfl)|(apply VVal.indexN;rfl;rfl;rfl;omega;rfl)|(apply VVal.load;rfl;rfl)|(apply VVal.alloc;rfl)|(apply VVal.storeB;rfl;rfl;rfl;trivial;rfl;rfl;exact lt_dec rfl;exact le_dec rfl)|(apply VVal.not;rfl)|(apply VWp.condSeq_dec;rfl)|(apply VWp.cond_true;rfl)|(intro _;try (exfalso;omega)))
    all_goals first|(exfalso;omega)|contradiction|(refine Done.ret rfl (.refl _) trivial ?_ (by omega) (Nat.le_refl _) ⟨?_,rfl,rfl⟩;repeat (first|exact HCov.nil|(refine HCov.cons (lt_dec rfl) ?_ rfl ?_ ?_;(first|exact HB.under_of rfl|exact PVs.under_pure _ _|(simp [HB.under,PVs.under,PV.under]));(first|exact HLe.refl _|exact HLe.vec (FLes.refl _) (by simp))));try rfl)
  ·intro hok
   rw [decide_eq_true (gi_ext hlen hok)]
   repeat' (first|apply VWp.rseq|apply VWp.exitSeq|apply QSeq.normal|apply QBlk.exit|apply QLoop.exit|apply VWp.ret|apply VOps.nil|apply VOps.one|(apply VVal.assign;rfl)|(apply VVal.int;rfl;rfl;rfl)|(apply VWp.condSeq_dec;rfl)|(intro _;try (exfalso;omega)))
   all_goals first|(exfalso;omega)|contradiction|(refine Done.ret rfl (.refl _) trivial ?_ (by omega) (Nat.le_refl _) ⟨?_,rfl,rfl⟩;repeat (first|exact HCov.nil|(refine HCov.cons (lt_dec rfl) ?_ rfl ?_ ?_;(first|exact HB.under_of rfl|exact PVs.under_pure _ _|(simp [HB.under,PVs.under,PV.under]));(first|exact HLe.refl _|exact HLe.vec (FLes.refl _) (by simp))));try rfl)
theorem lequal_spec (x y:Pce) (hx:PceSm x) (hy:PceSm y):VFun env 23 [.agg (Enc.enc x),.agg (Enc.enc y)] (.p (.bool (decide (x=y)))):=by
 have a1:=hx.bars
 have a2:=hx.notes
 have a3:=hx.sets
 have b1:=hy.bars
 have b2:=hy.notes
 have b3:=hy.sets
 have s1:=seq_spec x.bars y.bars (by omega) (by omega)
 have s2:=seqNte x.notes y.notes (by omega) (by omega)
 have s3:=eqfStg _ (.inl rfl) x.sets y.sets (by omega) (by omega) (fun i h1 h2=>eqStgL _ _ (hx.reg i h1) (hy.reg i h2))
 by_cases h1:x.bars=y.bars<;>by_cases h2:x.notes=y.notes<;>by_cases h3:x.sets=y.sets
 all_goals first|rw [decide_eq_true h1] at s1|rw [decide_eq_false h1] at s1
 all_goals first|rw [decide_eq_true h2] at s2|rw [decide_eq_false h2] at s2
 all_goals first|rw [decide_eq_true h3] at s3|rw [decide_eq_false h3] at s3
 all_goals first|rw [decide_eq_true (pce_dec.2 ⟨h1,h2,h3⟩)]|rw [decide_eq_false (fun e=>by have:=pce_dec.1 e;simp_all)]
 all_goals
  refine VFun.enter (env_none (by decide)) Tryz.func23 rfl (by kernel_rfl) (by simp [Tryz.ntmps23]) ?_
 all_goals
  repeat' (first|apply VWp.rseq|apply VWp.ret|apply VOps.nil|apply VOps.one|(apply VOps.take;rfl;rfl)|(apply VOps.drop;rfl;rfl;rfl)|(apply VVal.fn;rfl;rfl;exact s1;intro _;rfl)|(apply VVal.fn;rfl;rfl;exact s2;intro _;rfl)|(apply VVal.read [] s3;rfl;rfl;exact .of_eq rfl;exact PVs.under_of rfl;exact HUnder_of rfl;(repeat (first|exact trivial|refine ⟨⟨_,rfl,.of_eq rfl⟩,?_⟩));decide;(intro _ hb;simp at hb<;>omega);rfl)|(apply VVal.assign;rfl)|(apply VVal.move;rfl)|(apply VVal.load;rfl;rfl)|(apply VVal.pick_true;rfl;rfl)|(apply VVal.pick_false;rfl;rfl)|(apply VVal.fieldB;rfl;rfl;rfl)|(apply VVal.box;rfl;trivial))
 all_goals first|(exfalso;omega)|contradiction|(refine Done.ret rfl (.refl _) (by exact PV.under_of rfl) HCov.nil (Nat.zero_le _) (Nat.le_refl _) ⟨?_,rfl,rfl⟩;try rfl)
end Go.Proofs.YtnhdddmhkhdlhaaGreatDoor
namespace Go.Vm
open Go.Am
variable {E:Env} {L:Frame} {H:Heap} {nx:Nat} {Q:PV→Heap→Nat→Prop} {w:Bool}
variable {dst:Option Tmp} {ty:TypeId} {pos:String} {af:Array Edge} {gd:Option (Nat×Bool)}
theorem VVal.sliceV {t:TypeId} {x:Operand} {lo hi:Option Operand} {e:TypeId} {cs:List FV} {b n off len a c sz:Nat} {z:Bool} {inf:TypeInfo} (hx:vev E.Γ L x=some (.vec b n off len)) (hb:hget H b=some (.vec e cs n z)) (hn:0<n) (ht:E.P.underlying t=some (.slice e)) (hi':E.P.info? e=some inf) (hsz:inf.size=sz)
 (hlo:match lo with|none=>a=0|some o=>∃ k,vev E.Γ L o=some (.p (.int k (a:Int)))) (hhi:match hi with|none=>c=len|some o=>∃ k,vev E.Γ L o=some (.p (.int k (c:Int)))) (hac:a≤c) (hcl:c≤len)
 (q:Q (.vec b n (off+a*sz) (c-a)) H nx):VVal E w ⟨dst,.slice t x lo hi none,ty,pos,af,gd⟩ L H nx Q :=
 VVal.quiet q fun m F σ tt h1 h2=>by
  have hblo:bnd 0 (lo.map (ev tt))=some a:=by
   cases lo with
   |none=>simp only at hlo;rw [hlo];rfl
   |some o =>
    obtain ⟨k,hk⟩:=hlo
    simp only [Option.map_some,vev_int h1 h2 hk,bnd]
    rw [if_pos (by omega)];simp
  have hbhi:bnd len (hi.map (ev tt))=some c:=by
   cases hi with
   |none=>simp only at hhi;rw [hhi];rfl
   |some o =>
    obtain ⟨k,hk⟩:=hhi
    simp only [Option.map_some,vev_int h1 h2 hk,bnd]
    rw [if_pos (by omega)];simp
  have hsub:=vev_vec h1 h2 hx hb
  obtain ⟨hlt,hr⟩:=h1.hp b _ hb
  rcases hr with ⟨r1,r2,r3⟩|⟨d,g,vs,r1,r2,r3,r4,r5,r6,r7⟩
  ·omega
  rw [r1] at hsub
  simp only [SubOf] at hsub
  refine ⟨.slice (some ⟨d,off+a*sz,none⟩) (c-a) g,fun _=>?_,.vec hlt rfl fun j hj=>?_⟩
  ·simp only [aval,aop,hsub,aslice,Option.isSome_none,Option.map_none,Bool.false_and,Bool.false_eq_true,if_false,ht,hi',hblo,hbhi,r4,hac,hcl,r2,and_self,if_true,Option.map_some,hsz]
  ·simp only [htag,hb,HB.tag,Option.map_some,Option.some.injEq,Tg.vec.injEq] at hj
   refine ⟨by omega,fun _=>?_⟩
   rw [r1];rfl
theorem put_cells {m:Mem} {F:Nat→Prop} {σ:Nat→Value} {b n off c g:Nat} {e:TypeId} {cs fs:List FV} {vs l:List Value} {z:Bool} (h1:Ctx E.Γ m F σ H nx) (hb:hget H b=some (.vec e cs n z)) (hn:0<n) (h4:σ b=.slice (some ⟨c,0,none⟩) n g) (r2:c<m.size) (r3:¬ F c) (r4:m.get c=.cells vs e g false) (r5:RFs m F cs vs) (r6:vs.all isCell=true)
 (hl:RFs m F fs l) (hc:l.all isCell=true) :
 Ctx E.Γ (m.put c (.cells (splice vs off l) e g false)) F (upd σ b (σ b)) (hput H b (.vec e (psplice cs off fs) n z)) nx∧Step m F σ H nx (m.put c (.cells (splice vs off l) e g false)) F (upd σ b (σ b)) (hput H b (.vec e (psplice cs off fs) n z)) nx:=by
 have hput':∀ d,c≠d→(m.put c (.cells (splice vs off l) e g false)).get d=m.get d:=fun d hd=>by rw [Mem.get_put,if_neg hd]
 exact h1.change (m':=m.put c (.cells (splice vs off l) e g false)) (x':=.vec e (psplice cs off fs) n z) (s':=σ b) hb (Nat.le_refl _) (fun _=>rfl) (Nat.le_refl _)
  (fun d _ hd=>hput' d fun e=>hd (by rw [h4,e];rfl)) (fun k k1 k2 k3=>by
   have:=k3 c (by rw [h4];rfl)
   simp only [Mem.put];omega) (fun d hd=>.inl hd) (by
   refine .inr ⟨c,g,splice vs off l,h4,r2,r3,by rw [Mem.get_put,if_pos rfl],?_,all_splice _ r6 hc,fun h=>by omega⟩
   exact (RFs.splice off r5 hl).mono (fun d hd=>⟨hd,hput' d fun e=>r3 (e▸hd)⟩))
def SlT (Γ:Nat→Option (List Value×TypeId)) (L:Frame) (H:Heap) (nx:Nat) (x:Operand) (sz n:Nat) (xs:List FV) (k:Nat):Prop :=
 ∀ m F σ t,Ctx Γ m F σ H nx→RL m F (htag H) σ nx L t→lenOf (ev t x)=some n∧∃ l,sliceCells m sz k (ev t x)=some l∧RFs m F xs l∧l.all isCell=true
theorem SlT.lst {Γ:Nat→Option (List Value×TypeId)} {x:Operand} {e:TypeId} {sz n k:Nat} {xs ys:List FV} (h:vev Γ L x=some (.p (.lst e xs n))) (hl:xs.length=n*sz) (hk:k≤n) (hy:ys=xs.take (k*sz)):SlT Γ L H nx x sz n ys k:=fun m F σ t h1 h2=>by
 subst hy
 have:=vev_rel h1 h2 h
 generalize ev t x=v at this
 cases this with
 |p h =>
  cases h with
  |nil=>obtain rfl:k=0:=by omega
        exact ⟨rfl,[],rfl,by rw [Nat.zero_mul,List.take_zero];exact .nil,rfl⟩
  |room=>obtain rfl:k=0:=by omega
         exact ⟨rfl,[],rfl,by rw [Nat.zero_mul,List.take_zero];exact .nil,rfl⟩
  |lst hF hm hw hr hc =>
   rename_i b o g vs ws ro
   refine ⟨rfl,ws.take (k*sz),?_,RFs.take _ hr,all_take hc _⟩
   have h3:=takeN_take (k:=k*sz) hw
   rw [hl,Nat.min_eq_left (Nat.mul_le_mul_right sz hk)] at h3
   simp only [sliceCells,if_pos hk,Mem.cellsAt,hm]
   simp only [agen,Option.getD_some,if_true]
   exact h3
theorem SlT.vec {Γ:Nat→Option (List Value×TypeId)} {x:Operand} {b n off len sz k:Nat} {e:TypeId} {cs ys:List FV} {z:Bool} (h:vev Γ L x=some (.vec b n off len)) (hb:hget H b=some (.vec e cs n z)) (hn:0<n) (hl:off+len*sz≤cs.length) (hk:k≤len) (hy:ys=(cs.drop off).take (k*sz)) :
 SlT Γ L H nx x sz len ys k:=fun m F σ t h1 h2=>by
 subst hy
 have hsub:=vev_vec h1 h2 h hb
 obtain ⟨_,hr⟩:=h1.hp b _ hb
 rcases hr with ⟨r1,r2,r3⟩|⟨c,g,vs,r1,r2,r3,r4,r5,r6,r7⟩
 ·omega
 ·rw [r1] at hsub
  simp only [SubOf] at hsub
  rw [hsub]
  have hlen:=r5.length
  have h0:=Nat.mul_le_mul_right sz hk
  have hle:k*sz≤(vs.drop off).length:=by rw [List.length_drop];omega
  refine ⟨rfl,(vs.drop off).take (k*sz),?_,RFs.take _ (RFs.drop off r5),all_take (all_drop r6 _) _⟩
  simp only [sliceCells,if_pos hk,Mem.cellsAt,r4]
  simp only [agen,Option.getD_some,if_true,takeN,if_pos hle]
theorem VVal.copy {d x:Operand} {dT xT e:TypeId} {i:TypeInfo} {b n off len k N:Nat} {cs xs:List FV} {z:Bool} (hd:vev E.Γ L d=some (.vec b n off len)) (hb:hget H b=some (.vec e cs n z)) (hn:0<n)
 (hdT:E.P.underlying dT=some (.slice e)) (hi:E.P.info? e=some i) (hsz:0<i.size) (hx:SlT E.Γ L H nx x i.size N xs k) (hk:k=min N len) (h0:0<k) (hxs:xs.length=k*i.size) (hl:off+k*i.size≤cs.length) (q:Q (.p (.int .i64 (k:Int))) (hput H b (.vec e (psplice cs off xs) n z)) nx) :
 VVal E true ⟨dst,.call { callee:=.builtin .copy,args:=#[d,x],argTypes:=#[dT,xT] },ty,pos,af,gd⟩ L H nx Q:=by
 intro m F σ t h1 h2
 have hsub:=vev_vec h1 h2 hd hb
 obtain ⟨hx1,l,hx2,hx3,hx4⟩:=hx m F σ t h1 h2
 obtain ⟨hlt,hr⟩:=h1.hp b _ hb
 rcases hr with ⟨r1,r2,r3⟩|⟨c,g,vs,r1,r2,r3,r4,r5,r6,r7⟩
 ·omega
 rw [r1] at hsub
 simp only [SubOf] at hsub
 have hlen:=hx3.length
 have hlen2:=r5.length
 obtain ⟨d1,d2⟩:=put_cells (E:=E) (off:=off) h1 hb hn r1 r2 r3 r4 r5 r6 hx3 hx4
 refine AVal.op (v:=.int .i64 (k:Int)) (m':=m.put c (.cells (splice vs off l) e g false)) (fun _=>?_) ⟨_,_,_,F,_,q,d1,.p (.int _ _),d2,fun h=>by cases h⟩
 have hk2:(k:Nat)=Nat.min N len:=hk
 have hp:=Nat.mul_pos h0 hsz
 simp only [aval,aop,acopy,List.map_toArray,List.map_cons,List.map_nil,List.getElem?_toArray,List.getElem?_cons_zero,List.getElem?_cons_succ,hsub,hdT,hx1,hi]
 rw [← hk2,if_neg (by omega),hx2]
 simp only [storeRow,r4,agen,Option.getD_some,beq_self_eq_true,Bool.true_and]
 rw [if_pos (by simp only [Bool.and_eq_true,decide_eq_true_eq];exact ⟨⟨by rw [← hlen,hxs,← hlen2];exact ⟨trivial,hl⟩,by rw [← hlen,hxs];exact hp⟩,hx4⟩)]
 rfl
def leftReg:Code→Option Nat
 | .region n _ _=>some n
 | .seq a b=>match leftReg a with
  |some n=>some n
  |none=>leftReg b
 | .block _ b=>leftReg b
 | .loop b=>leftReg b
 | .scope b=>leftReg b
 |_=>none
def loopAt (r:Nat):Code→Option Code
 | .loop b=>match leftReg b with
  |some n=>match Nat.beq n r with
   |true=>some (.loop b)
   |false=>loopAt r b
  |none=>loopAt r b
 | .seq a b=>match loopAt r a with
  |some c=>some c
  |none=>loopAt r b
 | .cond _ a b=>match loopAt r a with
  |some c=>some c
  |none=>loopAt r b
 | .block _ b=>loopAt r b
 | .scope b=>loopAt r b
 | .rangeFunc _ _ _ b=>loopAt r b
 |_=>none
def loopOf (fn:Func) (r:Nat):Code:=match fn.body with
 |some c=>match loopAt r c with
  |some c=>c
  |none=>.skip
 |none=>.skip
theorem psplice_eq {α:Type}:∀ (r cs:List α) (o:Nat),o+r.length≤cs.length→psplice cs o r=cs.take o++r++cs.drop (o+r.length)
 |[],cs,o,h=>by simp [psplice]
 |a::r,cs,o,h=>by
  simp only [List.length_cons] at h
  have ih:=psplice_eq r (cs.set o a) (o+1) (by simp;omega)
  simp only [psplice]
  rw [ih]
  have e1:(cs.set o a).take (o+1)=cs.take o++[a]:=by
   rw [List.take_succ_eq_append_getElem (by simp;omega)]
   rw [List.take_set_of_le (by omega)]
   simp
  have e2:(cs.set o a).drop (o+1+r.length)=cs.drop (o+(r.length+1)):=by
   rw [List.drop_set_of_lt (by omega)]
   congr 1
   omega
  rw [e1,e2]
  simp [Nat.add_assoc]
theorem psplice_many {α:Type} [Enc α] (l r:List α) (i:Nat) (h:i+r.length≤l.length):psplice (cells l) (i*Enc.size α) (cells r)=cells (l.take i++r++l.drop (i+r.length)):=by
 rw [psplice_eq _ _ _ (by rw [cells_length,cells_length,← Nat.add_mul];exact Nat.mul_le_mul_right _ h),cells_length,← Nat.add_mul,cells_take,cells_drop',← cells_append,← cells_append]
end Go.Vm
namespace Go.Proofs.YtnhdddmhkhdlhaaGreatDoor
open Go Go.Am Go.Vm
instance encLI:Enc (List Int):={ default:=[],enc:=fun l=>[.lst 3 (cells l) l.length],size:=1,len:=fun _=>rfl }
attribute [local irreducible] VVal VOps VOpsD VWp VCalls VFun VFunV QSeq QBlk QLoop Vm.Done DoneV DoneI
theorem bmul64_spec (n:Nat) (hn:n<4294967296):VFun env 136 [.int .u64 1,.int .u64 (n:Int)] (.tup [.p (.int .u64 0),.p (.int .u64 (n:Int))]):=by
 have e1:n &&& 4294967295=n:=by
  have:=Nat.and_two_pow_sub_one_eq_mod n 32
  rw [show (2 ^ 32-1:Nat)=4294967295 from rfl] at this
  rw [this]
  exact Nat.mod_eq_of_lt (by simpa using hn)
 have hA1:vint .and .u64 (n:Int) 4294967295=some (.int .u64 (n:Int)):=by
  have h0:=bits_and_u64_nat n 4294967295 (by omega) (by omega)
  rw [e1] at h0
  exact congrArg (fun x=>some (FV.int .u64 x)) h0
 have hA2:vint .mul .u64 1 (n:Int)=some (.int .u64 (n:Int)):=by
  simp only [vint,Int.one_mul];rw [wrap_u64 (by omega) (by omega)]
 have hZ:vint .mul .u64 0 (n:Int)=some (.int .u64 0):=by
  simp only [vint,Int.zero_mul];rfl
 have hS:∀ a:Int,0≤a→a<4294967296→(FV.int .u64 0)=if BinOp.shr=.shl then FV.int .u64 (IntKind.u64.wrap (a*2 ^ (min (32:Int).toNat IntKind.u64.bits))) else .int .u64 (a.fdiv (2 ^ (min (32:Int).toNat IntKind.u64.bits))):=fun a h0 h1=>by
  rw [if_neg (by decide)]
  have e3:(min (32:Int).toNat IntKind.u64.bits)=32:=rfl
  rw [e3,Int.fdiv_eq_ediv_of_nonneg _ (by decide)]
  have:a / 2 ^ 32=0:=by omega
  rw [this]
 have k1:vint .and .u64 1 4294967295=some (.int .u64 1):=rfl
 have k2:vint .and .u64 0 4294967295=some (.int .u64 0):=rfl
 have k3:vint .mul .u64 1 0=some (.int .u64 0):=rfl
 have k4:vint .mul .u64 0 0=some (.int .u64 0):=rfl
 have k5:vint .add .u64 0 0=some (.int .u64 0):=rfl
 refine VFun.enter (env_none (by decide)) Tryz.func136 rfl (by kernel_rfl) (by simp [Tryz.ntmps136]) ?_
 repeat' (first|apply VWp.rseq|apply VWp.ret|apply VOps.nil|apply VOps.one|(apply VVal.shift (r:=.int .u64 0);exact .inr rfl;rfl;rfl;decide;exact hS _ (by omega) (by omega))|(apply VVal.int;rfl;rfl;exact hA1)|(apply VVal.int;rfl;rfl;exact hA2)|(apply VVal.int;rfl;rfl;exact hZ)|(apply VVal.int;rfl;rfl;exact k1)|(apply VVal.int;rfl;rfl;exact k2)|(apply VVal.assign;rfl)|(apply VVal.move;rfl))
 (refine Done.ret rfl (.refl _) (by exact PV.under_of rfl) HCov.nil (Nat.zero_le _) (Nat.le_refl _) ⟨?_,rfl,rfl⟩;try rfl)
theorem bmul_spec (n:Nat) (hn:n<4294967296):VFun env 128 [.int .u64 1,.int .u64 (n:Int)] (.tup [.p (.int .u64 0),.p (.int .u64 (n:Int))]):=by
 have h:=bmul64_spec n hn
 refine VFun.enter (env_none (by decide)) Tryz.func128 rfl (by kernel_rfl) (by simp [Tryz.ntmps128]) ?_
 repeat' (first|apply VWp.rseq|apply VWp.skipSeq|apply VWp.ret|apply VOps.nil|apply VOps.one|(apply VVal.fn;rfl;rfl;exact h;intro _;rfl)|(apply VVal.assign;rfl)|(apply VVal.move;rfl)|(apply VVal.extract;rfl;rfl)|(apply VWp.condSeq_false;rfl))
 (refine Done.ret rfl (.refl _) (by exact PV.under_of rfl) HCov.nil (Nat.zero_le _) (Nat.le_refl _) ⟨?_,rfl,rfl⟩;try rfl)
def repS (n k:Nat) (v:Int):List Int:=List.replicate k v++List.replicate (n-k) 0
theorem repS_len (n k:Nat) (v:Int) (h:k≤n):(repS n k v).length=n:=by simp [repS];omega
theorem repS_all (n:Nat) (v:Int):repS n n v=List.replicate n v:=by simp [repS]
theorem repS_one (n:Nat) (v:Int) (h:0<n):psplice (cells (List.replicate n (0:Int))) 0 [FV.int .i64 v]=cells (repS n 1 v):=by
 have:=psplice_many (List.replicate n (0:Int)) [v] 0 (by simp;omega)
 rw [Nat.zero_mul] at this
 show psplice (cells (List.replicate n (0:Int))) 0 (cells [v])=_
 rw [this]
 congr 1
 simp [repS]
theorem repS_ok (n k:Nat) (v:Int) (h:k≤n):0+k*1≤(cells (repS n k v)).length:=by
 rw [cells_length,repS_len n k v h]
 show 0+k*1≤n*1
 omega
theorem repS_cut (n k:Nat) (v:Int) (h:k≤n):cells (List.replicate (min k (n-k)) v)=((cells (repS n k v)).drop 0).take (min k (n-k)*1):=by
 have:=cells_take (repS n k v) (min k (n-k))
 rw [List.drop_zero]
 refine Eq.trans ?_ this.symm
 congr 1
 unfold repS
 rw [List.take_append_of_le_length (by simp;omega),List.take_replicate]
 congr 1
 omega
theorem repS_xs (n k:Nat) (v:Int):(cells (List.replicate (min k (n-k)) v)).length=min k (n-k)*1:=by
 rw [cells_length,List.length_replicate];rfl
theorem repS_room (n k:Nat) (v:Int) (h:k≤n):0+k*1+min k (n-k)*1≤(cells (repS n k v)).length:=by
 rw [cells_length,repS_len n k v h]
 show _≤n*1
 omega
theorem repS_put (n k:Nat) (v:Int) (h:k≤n):psplice (cells (repS n k v)) (0+k*1) (cells (List.replicate (min k (n-k)) v))=cells (repS n (k+min k (n-k)) v):=by
 have:=psplice_many (repS n k v) (List.replicate (min k (n-k)) v) k (by rw [repS_len n k v h];simp;omega)
 rw [Nat.zero_add]
 refine Eq.trans this ?_
 congr 1
 unfold repS
 rw [List.take_append_of_le_length (by simp),List.take_replicate,Nat.min_self,List.length_replicate,List.drop_append,List.drop_of_length_le (by simp),List.length_replicate,List.nil_append,List.drop_replicate,List.replicate_append_replicate]
 congr 2
 omega
theorem repeat_spec (e:TypeId) (v:Int) (n:Nat) (h0:0<n) (hn:n<1000000):VFunV env 115 [.lst e [.int .i64 v] 1,.int .i64 (n:Int)] 3 (cells (List.replicate n v)) n false:=by
 have hm:=bmul_spec n (by omega)
 refine VFunV.enter (env_none (by decide)) Tryz.func115 rfl (by kernel_rfl) (by simp [Tryz.ntmps115]) ?_
 repeat' (first|apply VWp.assoc|apply VWp.rseq|apply VWp.skipSeq|apply VWp.blockSeq|apply VOps.nil|apply VOps.one|(apply VOps.take;rfl;rfl)|(apply VVal.fn;rfl;rfl;exact hm;intro _;rfl)|(apply VVal.makeSliceL n (0:Int);rfl;rfl;rfl;rfl;rfl;rfl;rfl;omega;decide;decide;rfl)|(apply VVal.copy (k:=1) (N:=1) (xs:=[.int .i64 v]);rfl;rfl;exact h0;rfl;rfl;decide;exact SlT.lst rfl rfl (Nat.le_refl 1) rfl;omega;decide;rfl;(rw [cells_length,List.length_replicate];show 0+1*1≤n*1;omega))|(apply VVal.assign;rfl)|(apply VVal.move;rfl)|(apply VVal.int;rfl;rfl;rfl)|(apply VVal.pick_false;rfl;rfl)|(apply VVal.lenF;rfl;rfl)|(apply VVal.extract;rfl;rfl)|(apply VVal.convI;rfl;rfl;rfl;rfl;omega)|(apply VVal.convU;rfl;rfl;rfl;rfl;omega)|(apply VWp.condSeq_false;rfl)|(apply VWp.condSeq_dec;rfl)|(intro _;try (exfalso;omega)))
 all_goals try (exfalso;omega)
 refine VWp.loopQ (fun k:Nat=>[(7,.vec 0 n 0 n),(8,.p (.int .i64 (k:Int)))]) (fun k=>[(0,.vec 3 (cells (repS n k v)) n false)]) 1 (fun k=>1≤k∧k≤n) (fun k=>n-k) 1 (by omega) ⟨by omega,by omega⟩ ⟨by omega,?_,?_⟩ ?_
 ·repeat (first|exact LCov.nil|refine LCov.same (by exact PV.under_of rfl) rfl ?_|refine LCov.cons trivial rfl (.of_eq (lst_len (by simp<;>omega))) ?_)
 ·have:=repS_one n v h0
  rw [this]
  repeat (first|exact HCov.nil|(refine HCov.cons (lt_dec rfl) ?_ rfl ?_ ?_;(first|exact HB.under_of rfl|exact PVs.under_pure _ _|(simp [HB.under,PVs.under,PV.under]));(first|exact HLe.refl _|exact HLe.vec (FLes.refl _) (by simp))))
 ·rintro k ⟨k1,k2⟩
  have hl:=repS_len n k v k2
  by_cases hk:k<n
  ·repeat' (first|apply VWp.assoc|apply VWp.rseq|apply VWp.regionD|apply VWp.skipSeq|apply QBlk.normal|apply VWp.blockQ|apply VOps.nil|apply VOpsD.nil|apply VOps.one|(apply VOpsD.bar;decide +kernel)|apply VOpsD.quiet|(apply VVal.sliceV (sz:=1) (a:=k) (c:=n);rfl;rfl;exact h0;rfl;rfl;rfl;exact ⟨_,rfl⟩;rfl;omega;exact Nat.le_refl _)|(apply VVal.sliceV (sz:=1) (a:=0) (c:=k);rfl;rfl;exact h0;rfl;rfl;rfl;rfl;exact ⟨_,rfl⟩;omega;exact k2)|(apply VVal.copy (k:=min k (n-k)) (N:=k) (xs:=cells (List.replicate (min k (n-k)) v));rfl;rfl;exact h0;rfl;rfl;decide;exact SlT.vec rfl rfl h0 (repS_ok n k v k2) (by omega) (repS_cut n k v k2);rfl;omega;exact repS_xs n k v;exact repS_room n k v k2)|(apply VVal.assign;rfl)|(apply VVal.move;rfl)|(apply VVal.add64;rfl;rfl;omega)|(apply VVal.int;rfl;rfl;rfl)|(apply VVal.lenV;rfl;rfl;rfl)|(apply VWp.condSeq_dec;rfl)|(intro _;try (exfalso;omega)))
   refine QLoop.normal ⟨k+min k (n-k),⟨by omega,by omega⟩,by omega,⟨by omega,?_,?_⟩⟩
   ·repeat (first|exact LCov.nil|refine LCov.same (by exact PV.under_of rfl) rfl ?_|refine LCov.cons trivial rfl (.of_eq (lst_len (by simp<;>omega))) ?_)
   ·rw [repS_put n k v k2]
    repeat (first|exact HCov.nil|(refine HCov.cons (lt_dec rfl) ?_ rfl ?_ ?_;(first|exact HB.under_of rfl|exact PVs.under_pure _ _|(simp [HB.under,PVs.under,PV.under]));(first|exact HLe.refl _|exact HLe.vec (FLes.refl _) (by simp))))
  ·obtain rfl:k=n:=by omega
   repeat' (first|apply VWp.assoc|apply VWp.rseq|apply VWp.exitSeq|apply QSeq.normal|apply QBlk.exit|apply QLoop.exit|apply VWp.ret|apply VOps.nil|apply VOps.one|(apply VVal.assign;rfl)|(apply VVal.move;rfl)|(apply VVal.int;rfl;rfl;rfl)|(apply VVal.lenV;rfl;rfl;rfl)|(apply VWp.condSeq_dec;rfl)|(intro _;try (exfalso;omega)))
   rw [repS_all]
   exact DoneV.ret rfl rfl rfl rfl
end Go.Proofs.YtnhdddmhkhdlhaaGreatDoor
namespace Go.Proofs.YtnhdddmhkhdlhaaGreatDoor
open Go Go.Am Go.Vm Go.Pie
attribute [local irreducible] VVal VOps VOpsD VWp VCalls VFun VFunV QSeq QBlk QLoop Vm.Done DoneV DoneI
attribute [local irreducible] rchk windsE stoE dvsE cplE shiftR tailH
def exR (c:UInt8):Rnk:=⟨[c],[102,108,117,116,101],⟨8,1⟩,36,List.replicate 25 1⟩
def exS (n feet sh:Int):Stp:=⟨[97],⟨feet,1⟩,[⟨36,48,[⟨n,sh⟩]⟩]⟩
def exD1:Dvs:=⟨[111,110,101],false,36,48,[exS 0 8 0]⟩
def exD2:Dvs:=⟨[116,119,111],false,36,48,[exS 1 4 12]⟩
def exO:Org:=⟨[101],[exR 114,exR 115],[exD1,exD2],[⟨[99],0,1,0,false⟩]⟩
def exG:Rgs:=⟨[1,0],0,0⟩
def exP:Pce:=⟨[0,4,8],[⟨0,6,0,40⟩,⟨4,8,0,43⟩],[⟨1,exG⟩]⟩
theorem exR_spec (c:UInt8):VFun env 93 [.str (bs [c])] (.p (.agg (Enc.enc (exR c)))):=by
 have hr:=repeat_spec 3 1 25 (by decide) (by decide)
 refine VFun.enter (env_none (by decide)) Tryz.func93 rfl (by kernel_rfl) (by simp [Tryz.ntmps93]) ?_
 repeat' (first|(refine VOps.atOp 6 ?_;refine VOps.ghost (Ghost.freeze 5 rfl rfl) ?_)|(refine VOps.atOp 7 ?_;refine VOps.ghost (Ghost.freeze 6 rfl rfl) ?_)|apply VWp.rseq|apply VWp.ret|apply VOps.nil|apply VOps.one|(apply VVal.fv;rfl;rfl;exact hr)|(apply VVal.move;rfl)|(apply VVal.alloc;rfl)|(apply VVal.storeB;rfl;rfl;rfl;trivial;rfl;rfl;exact lt_dec rfl;exact le_dec rfl)|(apply VVal.build;rfl;rfl;rfl;rfl;rfl)|(apply VVal.buildSlice;rfl;rfl;rfl;decide;rfl;rfl;rfl))
 all_goals first|(exfalso;omega)|(refine Done.ret rfl (.refl _) (by exact PV.under_of rfl) HCov.nil (Nat.zero_le _) (Nat.le_refl _) ⟨?_,rfl,rfl⟩;try rfl)
theorem exS_spec (n feet sh:Int):VFun env 92 [.int .i64 n,.int .i64 feet,.int .i64 sh] (.p (.lst 127 (cells [exS n feet sh]) 1)):=by
 refine VFun.enter (env_none (by decide)) Tryz.func92 rfl (by kernel_rfl) (by simp [Tryz.ntmps92]) ?_
 repeat' (first|(refine VOps.atOp 13 ?_;refine VOps.ghost (Ghost.freeze 12 rfl rfl) ?_)|(refine VOps.atOp 15 ?_;refine VOps.ghost (Ghost.freeze 14 rfl rfl) ?_)|(refine VOps.atOp 6 ?_;refine VOps.ghost (Ghost.freeze 16 rfl rfl) ?_)|apply VWp.rseq|apply VWp.ret|apply VOps.nil|apply VOps.one|(apply VVal.assign;rfl)|(apply VVal.move;rfl)|(apply VVal.build;rfl;rfl;rfl;rfl;rfl)|(apply VVal.buildSlice;rfl;rfl;rfl;decide;rfl;rfl;rfl))
 all_goals first|(exfalso;omega)|(refine Done.ret rfl (.refl _) (by exact PV.under_of rfl) HCov.nil (Nat.zero_le _) (Nat.le_refl _) ⟨?_,rfl,rfl⟩;try rfl)
theorem exO_spec:VFun env 72 [] (.p (.agg (Enc.enc exO))):=by
 have h1:=exR_spec 114
 have h2:=exR_spec 115
 have h3:=exS_spec 0 8 0
 have h4:=exS_spec 1 4 12
 refine VFun.enter (env_none (by decide)) Tryz.func72 rfl (by kernel_rfl) (by simp [Tryz.ntmps72]) ?_
 repeat' (first|(refine VOpsD.atIdx 14 ?_;refine VOpsD.ghost (Ghost.trans (Ghost.freeze 6 rfl rfl) (Ghost.trans (Ghost.freeze 15 rfl rfl) (Ghost.freeze 17 rfl rfl))) ?_)|apply VWp.rseq|apply VWp.rseqD|apply VWp.ret|apply VOps.nil|apply VOpsD.nil|apply VOps.one|(apply VOpsD.bar;decide +kernel)|apply VOpsD.quiet|(apply VVal.fn;rfl;rfl;exact h1;intro _;rfl)|(apply VVal.fn;rfl;rfl;exact h2;intro _;rfl)|(apply VVal.fn;rfl;rfl;exact h3;intro _;rfl)|(apply VVal.fn;rfl;rfl;exact h4;intro _;rfl)|(apply VVal.assign;rfl)|(apply VVal.move;rfl)|(apply VVal.load;rfl;rfl)|(apply VVal.alloc;rfl)|(apply VVal.storeB;rfl;rfl;rfl;trivial;rfl;rfl;exact lt_dec rfl;exact le_dec rfl)|(apply VVal.build;rfl;rfl;rfl;rfl;rfl)|(apply VVal.buildSlice;rfl;rfl;rfl;decide;rfl;rfl;rfl))
 all_goals first|(exfalso;omega)|(refine Done.ret rfl (.refl _) (by exact PV.under_of rfl) HCov.nil (Nat.zero_le _) (Nat.le_refl _) ⟨?_,rfl,rfl⟩;try rfl)
theorem exP_spec:VFun env 38 [] (.tup [.p (.agg (Enc.enc exO)),.p (.agg (Enc.enc exP))]):=by
 have h1:=exO_spec
 refine VFun.enter (env_none (by decide)) Tryz.func38 rfl (by kernel_rfl) (by simp [Tryz.ntmps38]) ?_
 repeat' (first|(refine VOps.atOp 4 ?_;refine VOps.ghost (Ghost.freeze 3 rfl rfl) ?_)|(refine VOpsD.atIdx 8 ?_;refine VOpsD.ghost (Ghost.trans (Ghost.freeze 6 rfl rfl) (Ghost.trans (Ghost.freeze 9 rfl rfl) (Ghost.freeze 12 rfl rfl))) ?_)|(refine VOpsD.atIdx 9 ?_;apply VOpsD.weak [.tmp 2];decide +kernel;rfl;rfl;(first|exact VOwn.ref rfl|exact VOwn.vec rfl|exact VOwn.eref rfl);decide +kernel;rfl)|apply VWp.rseq|apply VWp.rseqD|apply VWp.ret|apply VOps.nil|apply VOpsD.nil|apply VOps.one|(apply VOpsD.bar;decide +kernel)|apply VOpsD.quiet|(apply VVal.fn;rfl;rfl;exact h1;intro _;rfl)|(apply VVal.load;rfl;rfl)|(apply VVal.alloc;rfl)|(apply VVal.storeB;rfl;rfl;rfl;trivial;rfl;rfl;exact lt_dec rfl;exact le_dec rfl)|(apply VVal.build;rfl;rfl;rfl;rfl;rfl)|(apply VVal.buildSlice;rfl;rfl;rfl;decide;rfl;rfl;rfl))
 all_goals first|(exfalso;omega)|(refine Done.ret rfl (.refl _) (by exact PV.under_of rfl) HCov.nil (Nat.zero_le _) (Nat.le_refl _) ⟨?_,rfl,rfl⟩;try rfl)
end Go.Proofs.YtnhdddmhkhdlhaaGreatDoor
namespace Go.Proofs.YtnhdddmhkhdlhaaGreatDoor
open Go Go.Am Go.Vm Go.Pie
attribute [local irreducible] VVal VOps VOpsD VWp VCalls VFun VFunV QSeq QBlk QLoop Vm.Done DoneV DoneI
attribute [local irreducible] rchk windsE stoE dvsE cplE shiftR tailH
instance (c:Nat):Decidable (isL c):=by unfold isL;infer_instance
theorem nm_al (s:List UInt8) (h0:0<s.length) (h1:s.length≤32) (h:∀ i,i<s.length→isL (gi s i).toNat):nameOk s:=⟨h0,h1,h 0 h0,fun i _ hi=>.inl (h i hi)⟩
theorem lt2 {i:Nat} (h:i<2):i=0∨i=1:=by omega
theorem pk1 (n:Int) (h:n=8∨n=4):pchk ⟨n,1⟩=0:=pchk_ok.2 (by rcases h with rfl|rfl<;>decide +kernel)
theorem exR_ok {c:UInt8} (hc:isL c.toNat):rchk (exR c)=0:=by
 unfold rchk
 have h1:nameOk (exR c).name:=⟨by show 0<1;decide,by show 1≤32;decide,hc,fun i h1 h2=>by
  have:i<1:=h2
  omega⟩
 have h2:nameOk (exR c).tone:=nm_al [102,108,117,116,101] (by decide) (by decide) (by decide)
 have h3:pchk (exR c).feet=0:=pk1 8 (.inl rfl)
 have hw:(exR c).wind=List.replicate 25 1:=rfl
 rw [if_neg (by rintro (h|h);exact h h1;exact h h2),if_neg (fun h=>h h3),if_neg (by show ¬ ((36:Int)< -256∨(36:Int)>256);omega),hw,List.length_replicate,if_neg (by omega),if_neg (by omega)]
 unfold windsE
 rw [if_pos]
 intro j hj
 rw [List.length_replicate] at hj
 have:gi (List.replicate 25 (1:Int)) j=1:=by unfold gi;rw [List.getElem?_replicate,if_pos hj];rfl
 rw [this]
 decide
theorem exRk:∀ i,i<[exR 114,exR 115].length→rchk (gi [exR 114,exR 115] i)=0:=fun i hi=>by
 rcases lt2 hi with rfl|rfl
 ·exact exR_ok (c:=114) (by decide)
 ·exact exR_ok (c:=115) (by decide)
theorem exS_ok {n feet sh:Int} (h1:0≤n∧n<2) (h2:feet=8∨feet=4) (h3:-127≤sh∧sh≤127):stoE [exR 114,exR 115] 36 48 (exS n feet sh)=0:=by
 unfold stoE
 rw [plcE_zero exRk (by decide) (by decide),if_neg (fun h=>h rfl)]
 unfold stpE
 have e1:nameOk (exS n feet sh).name:=nm_al [97] (by decide) (by decide) (by decide)
 have e2:pchk (exS n feet sh).feet=0:=pk1 feet h2
 have es:(exS n feet sh).segs=[⟨36,48,[⟨n,sh⟩]⟩]:=rfl
 rw [if_neg (fun h=>h e1),if_neg (fun h=>h e2),es,if_neg (by simp),if_neg (by simp)]
 exact segsE_one (by simp) (drwE_one ⟨h1,h3⟩)
theorem exDv {nm:List UInt8} {s:Stp} (h:stoE [exR 114,exR 115] 36 48 s=0):dvsE [exR 114,exR 115] ⟨nm,false,36,48,[s]⟩=0:=by
 unfold dvsE
 rw [show cmpE 36 48=0 from cmpE_zero (by decide),if_neg (fun h=>h rfl),if_neg (by show ¬ ([s].length>60);simp)]
 exact stosE_zero (fun i hi=>by
  obtain rfl:i=0:=by
   have:i<1:=hi
   omega
  exact ⟨h,by simp⟩) _ 0 rfl
theorem exO_err:orgE exO=0:=by
 have eR:exO.ranks=[exR 114,exR 115]:=rfl
 have eD:exO.divs=[exD1,exD2]:=rfl
 have eC:exO.cpls=[⟨[99],0,1,0,false⟩]:=rfl
 have eN:exO.name=[101]:=rfl
 unfold orgE
 rw [eR,eD,eC,eN]
 have hr:rnkE [exR 114,exR 115] 0=0:=rnkE_zero (fun i hi=>⟨exRk i hi,by
  rcases lt2 hi with rfl|rfl
  ·simp
  ·show [115]∉[[114]];simp⟩) _ 0 rfl
 have hd:divsE [exR 114,exR 115] [exD1,exD2] 0=0:=divsE_zero (fun i hi=>by
  rcases lt2 hi with rfl|rfl
  ·exact ⟨nm_al [111,110,101] (by decide) (by decide) (by decide),by simp,exDv (exS_ok (by decide) (.inl rfl) (by decide))⟩
  ·exact ⟨nm_al [116,119,111] (by decide) (by decide) (by decide),by show [116,119,111]∉[[111,110,101]];simp,exDv (exS_ok (by decide) (.inr rfl) (by decide))⟩) _ 0 rfl
 rw [if_neg (fun h=>h (nm_al [101] (by decide) (by decide) (by decide))),if_neg (by simp),if_neg (fun h=>h hr),if_neg (by simp),if_neg (by simp),if_neg (fun h=>h hd)]
 unfold cplE
 rw [if_neg (by simp)]
 have hc:cpsE ([exD1,exD2].map fun d=>(⟨d.lo,d.hi⟩:Cps)) 0=0:=cpsE_zero (fun i hi=>by
  rcases lt2 hi with rfl|rfl
  ·exact cmpE_zero (by decide)
  ·exact cmpE_zero (by decide)) _ 0 rfl
 rw [if_neg (fun h=>h hc)]
 exact cplsE_zero (fun i hi=>by
  obtain rfl:i=0:=by
   have:i<1:=hi
   omega
  exact ⟨⟨nm_al [99] (by decide) (by decide) (by decide),by decide,by decide,by decide,by decide⟩,by simp⟩) _ 0 rfl
theorem exS_sm (n feet sh:Int):StpSm (exS n feet sh):=⟨by show 1<1000000;decide,by show 1<1000000;decide,fun i hi=>by
 obtain rfl:i=0:=by
  have:i<1:=hi
  omega
 exact ⟨by show 1<1000000;decide⟩⟩
theorem exR_sm (c:UInt8):RnkSm (exR c):=⟨by show 1<1000000;decide,by show 5<1000000;decide,by show (List.replicate 25 1).length<1000000;decide⟩
theorem exO_sm:OrgSm exO:=by
 refine ⟨by show 1<1000000;decide,by show 2<1000000;decide,by show 2<1000000;decide,by show 1<1000000;decide,fun i hi=>?_,fun i hi=>?_,fun i hi=>?_⟩
 ·rcases lt2 hi with rfl|rfl
  ·exact exR_sm 114
  ·exact exR_sm 115
 ·rcases lt2 hi with rfl|rfl
  ·refine ⟨by show 3<1000000;decide,by show 1<1000000;decide,fun j hj=>?_⟩
   obtain rfl:j=0:=by
    have:j<1:=hj
    omega
   exact exS_sm 0 8 0
  ·refine ⟨by show 3<1000000;decide,by show 1<1000000;decide,fun j hj=>?_⟩
   obtain rfl:j=0:=by
    have:j<1:=hj
    omega
   exact exS_sm 1 4 12
 ·obtain rfl:i=0:=by
   have:i<1:=hi
   omega
  show 1<1000000
  decide
theorem exO_k:OrgK exO:=orgK exO_sm exO_err
theorem exG_reg:regE exO exG=0:=by
 rw [regE_rest rfl (fun i hi=>by
  rcases lt2 hi with rfl|rfl
  ·rfl
  ·rfl)]
 rfl
theorem exP_sm:PceSm exP:=⟨by show 3<1000000;decide,by show 2<1000000;decide,by show 1<1000000;decide,fun i hi=>by
 obtain rfl:i=0:=by
  have:i<1:=hi
  omega
 exact ⟨fun j hj=>by
  rcases lt2 hj with rfl|rfl
  ·show 1<18446744073709551616;decide
  ·show 0<18446744073709551616;decide,by show 0<18446744073709551616;decide,by show 0<18446744073709551616;decide,by show 2<9223372036854775808;decide⟩⟩
theorem exP_k:PceK exO exP:=by
 refine pceK_of exP_sm ⟨by show 2≤3;decide,by show 3≤201;decide⟩ (fun i hi=>?_) (by show 2≤1000;decide) (fun i hi=>?_) (by show 1≤100;decide) fun i hi=>?_
 ·have:i=0∨i=1∨i=2:=by
   have:i<3:=hi
   omega
  rcases this with rfl|rfl|rfl
  ·exact ⟨by decide,fun h=>by omega⟩
  ·exact ⟨by decide,fun _=>by decide⟩
  ·exact ⟨by decide,fun _=>by decide⟩
 ·rcases lt2 hi with rfl|rfl
  ·exact ⟨by decide,by decide,by decide,fun j hj=>by omega⟩
  ·refine ⟨by decide,by decide,by decide,fun j hj=>?_⟩
   obtain rfl:j=0:=by omega
   decide
 ·obtain rfl:i=0:=by
   have:i<1:=hi
   omega
  exact ⟨by decide,fun h=>by omega,exG_reg⟩
theorem exP_err:pceE exO exP=0:=by unfold pceE;rw [if_neg (fun h=>h exO_err)];exact exP_k.err
theorem exP_at {t:Int} (h:0≤t∧t<8):atE exO exP t=0:=by
 unfold atE
 rw [if_neg (fun h=>h exP_err),if_neg]
 show ¬ (t<0∨t≥8)
 omega
theorem exP_tks:tksP exP=[0,4,6,8]:=by
 refine inc_ext (compact_inc (sort_pair _)) (by unfold Inc;simp) fun x=>?_
 unfold tksP
 rw [compact_mem,List.mem_mergeSort]
 have:zsK exP exP.notes.length=[0,8,0,6,4,8]:=rfl
 rw [this]
 simp only [List.mem_cons,List.not_mem_nil,or_false]
 omega
theorem exP_snd:sndL exP=[⟨0,4,[0]⟩,⟨4,6,[0,1]⟩,⟨6,8,[1]⟩]:=by
 unfold sndL
 rw [exP_tks]
 decide +kernel
theorem exP_cut:(cutP exP 1 2).notes=[⟨4,6,0,40⟩,⟨4,8,0,43⟩]:=by decide +kernel
theorem known_spec:VFun env 11 [] (.p (.bool true)):=by
 have h0:=exP_spec
 have hs:=Slices_spec exO_sm exP_err exP_k
 rw [exP_snd] at hs
 have h3:=Wanted_spec exO_k exP_k 3 (exP_at (by decide))
 rw [show wan exP 3=-1 from rfl] at h3
 have h4:=Wanted_spec exO_k exP_k 4 (exP_at (by decide))
 rw [show wan exP 4=0 from rfl,show wanR exO exP 4=exG from rfl] at h4
 have hc:=Cut_spec exO_k exP_err exP_k 1 2 (by decide) (by decide)
 have ec:=exP_cut
 generalize cutP exP 1 2=C at *
 obtain ⟨cb,cn,cs⟩:=C
 simp only at ec
 subst ec
 generalize wanR exO exP 3=W at *
 refine VFun.enter (env_none (by decide)) Tryz.func11 rfl (by kernel_rfl) (by simp [Tryz.ntmps11]) ?_
 repeat' (first|apply VWp.rseq|apply VWp.ret|apply VOps.nil|apply VOps.one|(apply VOps.take;rfl;rfl)|(apply VVal.fn;rfl;rfl;exact h0;intro _;rfl)|(apply VVal.fn;rfl;rfl;exact hs;intro _;rfl)|(apply VVal.fn;rfl;rfl;exact h3;intro _;rfl)|(apply VVal.fn;rfl;rfl;exact h4;intro _;rfl)|(apply VVal.fn;rfl;rfl;exact hc;intro _;rfl)|(apply VVal.indexF;rfl;rfl;rfl;decide;(first|decide|simp))|(apply VVal.assign;rfl)|(apply VVal.move;rfl)|(apply VVal.int;rfl;rfl;rfl)|(apply VVal.load;rfl;rfl)|(apply VVal.pick_true;rfl;rfl)|(apply VVal.lenF;rfl;rfl)|(apply VVal.fieldB;rfl;rfl;rfl)|(apply VVal.fieldF;rfl;rfl)|(apply VVal.alloc;rfl)|(apply VVal.storeB;rfl;rfl;rfl;trivial;rfl;rfl;exact lt_dec rfl;exact le_dec rfl)|(apply VVal.extract;rfl;rfl))
 all_goals try (exfalso;omega)
 all_goals (refine Done.ret rfl (.refl _) (by exact PV.under_of rfl) HCov.nil (Nat.zero_le _) (Nat.le_refl _) ⟨?_,rfl,rfl⟩;try rfl)
end Go.Proofs.YtnhdddmhkhdlhaaGreatDoor
namespace Go.Proofs.YtnhdddmhkhdlhaaGreatDoor
open Go Go.Am Go.Vm
theorem nat_u8 {n:Int} (h:(Lit.int .u8 n).wf=true):∃ m:Nat,m<256∧n=m:=by
 simp [Lit.wf,IntKind.min,IntKind.max,IntKind.signed,IntKind.bits] at h
 exact ⟨n.toNat,by omega,by omega⟩
theorem int_i8 {n:Int} (h:(Lit.int .i8 n).wf=true):-128≤n∧n≤127:=by
 simp [Lit.wf,IntKind.min,IntKind.max,IntKind.signed,IntKind.bits] at h
 omega
theorem int_i64 {n:Int} (h:(Lit.int .i64 n).wf=true):-9223372036854775808≤n∧n≤9223372036854775807:=by
 simp [Lit.wf,IntKind.min,IntKind.max,IntKind.signed,IntKind.bits] at h
 omega
theorem map_choose {α β:Type} {R:β→α→Prop}:∀ {l:List α},(∀ x∈l,∃ y,R y x)→∃ r:List β,All2 R r l
 |[],_=>⟨[],.nil⟩
 |a::l,h=>by
  obtain ⟨y,hy⟩:=h a (by simp)
  obtain ⟨r,hr⟩:=map_choose (l:=l) (fun x hx=>h x (by simp [hx]))
  exact ⟨y::r,.cons hy hr⟩
theorem flat_cells {α:Type} [Enc α] {p:α→Prop}:∀ {r:List α} {L:List (List FV)},All2 (fun a fs=>fs=Enc.enc a∧p a) r L→L.flatten=cells r∧L.length=r.length∧∀ i,i<r.length→p (gi r i)
 |_,_,.nil=>⟨rfl,rfl,fun i hi=>by simp at hi⟩
 |a::r,fs::L,.cons ⟨h1,h2⟩ t=>by
  obtain ⟨e1,e2,e3⟩:=flat_cells t
  refine ⟨by rw [List.flatten_cons,e1,h1];rfl,by simp [e2],fun i hi=>?_⟩
  cases i with
  |zero=>exact h2
  |succ i=>exact e3 i (by simpa using hi)
section
variable {α β:Type} {R:α→β→Prop} {a b c d e:α} {r:List β}
theorem all2_one (h:All2 R [a] r):∃ x,r=[x]∧R a x:=by
 cases h with|cons h1 t=>cases t;exact ⟨_,rfl,h1⟩
theorem all2_two (h:All2 R [a,b] r):∃ x y,r=[x,y]∧R a x∧R b y:=by
 cases h with|cons h1 t=>obtain ⟨x,rfl,h2⟩:=all2_one t;exact ⟨_,_,rfl,h1,h2⟩
theorem all2_three (h:All2 R [a,b,c] r):∃ x y z,r=[x,y,z]∧R a x∧R b y∧R c z:=by
 cases h with|cons h1 t=>obtain ⟨x,y,rfl,h2,h3⟩:=all2_two t;exact ⟨_,_,_,rfl,h1,h2,h3⟩
theorem all2_four (h:All2 R [a,b,c,d] r):∃ x y z w,r=[x,y,z,w]∧R a x∧R b y∧R c z∧R d w:=by
 cases h with|cons h1 t=>obtain ⟨x,y,z,rfl,h2,h3,h4⟩:=all2_three t;exact ⟨_,_,_,_,rfl,h1,h2,h3,h4⟩
theorem all2_five (h:All2 R [a,b,c,d,e] r):∃ x y z w v,r=[x,y,z,w,v]∧R a x∧R b y∧R c z∧R d w∧R e v:=by
 cases h with|cons h1 t=>obtain ⟨x,y,z,w,rfl,h2,h3,h4,h5⟩:=all2_four t;exact ⟨_,_,_,_,_,rfl,h1,h2,h3,h4,h5⟩
end
theorem has_int {j:Nat} {fs:List FV} (h:HasT Tryz.prog (j+1) 3 fs):∃ n:Int,fs=[.int .i64 n]∧-9223372036854775808≤n∧n≤9223372036854775807:=by
 simp only [HasT,Tryz.underlying3] at h
 obtain ⟨n,rfl,hn⟩:=h
 exact ⟨n,rfl,int_i64 hn⟩
theorem has_bool {j:Nat} {fs:List FV} (h:HasT Tryz.prog (j+1) 4 fs):∃ b:Bool,fs=[.bool b]:=by
 simp only [HasT,Tryz.underlying4] at h
 exact h
theorem len5 {α:Type} {l:List α} (h:l.length=5):∃ a b c d e,l=[a,b,c,d,e]:=by
 match l,h with|[a,b,c,d,e],_=>exact ⟨a,b,c,d,e,rfl⟩
theorem has_rplan {j:Nat} {fs:List FV} (h:HasT Tryz.prog (j+3) 166 fs):∃ x:RPlan,fs=x.enc∧x.Ok:=by
 simp only [HasT,Tryz.underlying166,Tryz.underlying5,Tryz.underlying76,Tryz.underlying115] at h
 obtain ⟨parts,rfl,hp⟩:=h
 obtain ⟨a,b,c,d,e,rfl,⟨n1,rfl,h1⟩,⟨n2,rfl,h2⟩,⟨n3,rfl,h3⟩,⟨n4,rfl,h4⟩,L,rfl,hl,hL⟩:=all2_five hp
 obtain ⟨m1,q1,rfl⟩:=nat_u8 h1
 obtain ⟨m2,q2,rfl⟩:=nat_u8 h2
 obtain ⟨m4,q4,rfl⟩:=nat_u8 h4
 obtain ⟨a,b,c,d,e,rfl⟩:=len5 hl
 obtain ⟨w0,rfl,g0⟩:=hL a (by simp)
 obtain ⟨w1,rfl,g1⟩:=hL b (by simp)
 obtain ⟨w2,rfl,g2⟩:=hL c (by simp)
 obtain ⟨w3,rfl,g3⟩:=hL d (by simp)
 obtain ⟨w4,rfl,g4⟩:=hL e (by simp)
 obtain ⟨v0,k0,rfl⟩:=nat_u8 g0
 obtain ⟨v1,k1,rfl⟩:=nat_u8 g1
 obtain ⟨v2,k2,rfl⟩:=nat_u8 g2
 obtain ⟨v3,k3,rfl⟩:=nat_u8 g3
 obtain ⟨v4,k4,rfl⟩:=nat_u8 g4
 refine ⟨⟨m1,m2,n3,m4,[v0,v1,v2,v3,v4]⟩,rfl,q1,q2,int_i8 h3,q4,fun i=>?_⟩
 match i with
 |0=>exact k0
 |1=>exact k1
 |2=>exact k2
 |3=>exact k3
 |4=>exact k4
 |n+5=>simp [gi]
end Go.Proofs.YtnhdddmhkhdlhaaGreatDoor
namespace Go.Proofs.YtnhdddmhkhdlhaaGreatDoor
open Go Go.Am Go.Vm
theorem hasT_struct {P:Program} {n:Nat} {t:TypeId} {fs:List FV} {sf:Array Field} (h:HasT P (n+1) t fs) (hu:P.underlying t=some (.struct sf)):∃ parts:List (List FV),fs=parts.flatten∧All2 (fun (fd:Field) x=>HasT P n fd.type x) sf.toList parts:=by
 unfold HasT at h;rw [hu] at h;exact h
theorem hasT_slice {P:Program} {n:Nat} {t e:TypeId} {fs:List FV} {α:Type} [Enc α] {p:α→Prop} (h:HasT P (n+1) t fs) (hu:P.underlying t=some (.slice e)) (he:∀ x,HasT P n e x→∃ a:α,x=Enc.enc a∧p a):∃ l:List α,fs=[.lst e (cells l) l.length]∧l.length≤maxLen∧∀ i,i<l.length→p (gi l i):=by
 unfold HasT at h;rw [hu] at h
 obtain ⟨L,rfl,hl,hL⟩:=h
 obtain ⟨r,hr⟩:=map_choose (R:=fun (a:α) fs=>fs=Enc.enc a∧p a) (l:=L) (fun x hx=>he x (hL x hx))
 obtain ⟨e1,e2,e3⟩:=flat_cells hr
 exact ⟨r,by rw [e1,e2],by omega,e3⟩
theorem has_u8 {j:Nat} {fs:List FV} (h:HasT Tryz.prog (j+1) 5 fs):∃ n:Nat,fs=[.int .u8 (n:Int)]∧n<256:=by
 simp only [HasT,Tryz.underlying5] at h
 obtain ⟨n,rfl,hn⟩:=h
 obtain ⟨m,q,rfl⟩:=nat_u8 hn
 exact ⟨m,rfl,q⟩
theorem has_i8 {j:Nat} {fs:List FV} (h:HasT Tryz.prog (j+1) 76 fs):∃ n:Int,fs=[.int .i8 n]∧-128≤n∧n≤127:=by
 simp only [HasT,Tryz.underlying76] at h
 obtain ⟨n,rfl,hn⟩:=h
 exact ⟨n,rfl,int_i8 hn⟩
theorem has_pull {j:Nat} {fs:List FV} (h:HasT Tryz.prog (j+2) 169 fs):∃ x:Pul,fs=Enc.enc x∧x.Ok:=by
 obtain ⟨parts,rfl,hp⟩:=hasT_struct h Tryz.underlying169
 obtain ⟨a,b,c,d,rfl,h1,h2,h3,h4⟩:=all2_four hp
 obtain ⟨m1,rfl,q1⟩:=has_u8 (j:=j) h1
 obtain ⟨m2,rfl,q2⟩:=has_u8 (j:=j) h2
 obtain ⟨m3,rfl,q3⟩:=has_u8 (j:=j) h3
 obtain ⟨m4,rfl,q4⟩:=has_u8 (j:=j) h4
 exact ⟨⟨m1,m2,m3,m4⟩,rfl,q1,q2,q3,q4⟩
theorem has_board {j:Nat} {fs:List FV} (h:HasT Tryz.prog (j+4) 163 fs):∃ x:Brd,fs=Enc.enc x∧x.Ok:=by
 obtain ⟨parts,rfl,hp⟩:=hasT_struct h Tryz.underlying163
 obtain ⟨a,b,c,d,rfl,h1,h2,h3,h4⟩:=all2_four hp
 obtain ⟨m1,rfl,q1⟩:=has_u8 (j:=j+2) h1
 obtain ⟨m2,rfl,q2⟩:=has_u8 (j:=j+2) h2
 obtain ⟨m3,rfl⟩:=has_bool (j:=j+2) h3
 obtain ⟨l,rfl,hl,hL⟩:=hasT_slice (n:=j+2) (p:=Pul.Ok) h4 Tryz.underlying161 (fun x hx=>has_pull hx)
 exact ⟨⟨m1,m2,m3,l⟩,rfl,q1,q2,by simp only [maxLen] at hl;simp only;omega,hL⟩
theorem has_link {j:Nat} {fs:List FV} (h:HasT Tryz.prog (j+2) 171 fs):∃ x:Lnk,fs=Enc.enc x∧x.Ok:=by
 obtain ⟨parts,rfl,hp⟩:=hasT_struct h Tryz.underlying171
 obtain ⟨a,b,c,d,rfl,h1,h2,h3,h4⟩:=all2_four hp
 obtain ⟨m1,rfl,q1⟩:=has_u8 (j:=j) h1
 obtain ⟨m2,rfl,q2⟩:=has_u8 (j:=j) h2
 obtain ⟨m3,rfl,q3⟩:=has_i8 (j:=j) h3
 obtain ⟨m4,rfl⟩:=has_bool (j:=j) h4
 exact ⟨⟨m1,m2,m3,m4⟩,rfl,q1,q2,q3⟩
theorem has_oplan {j:Nat} {fs:List FV} (h:HasT Tryz.prog (j+6) 26 fs):∃ x:OPl,fs=x.enc∧x.Ok:=by
 obtain ⟨parts,rfl,hp⟩:=hasT_struct h Tryz.underlying26
 obtain ⟨a,b,c,rfl,h1,h2,h3⟩:=all2_three hp
 obtain ⟨l1,rfl,n1,g1⟩:=hasT_slice (n:=j+4) (p:=RPlan.Ok) h1 Tryz.underlying22 (fun x hx=>has_rplan (j:=j+1) hx)
 obtain ⟨l2,rfl,n2,g2⟩:=hasT_slice (n:=j+4) (p:=Brd.Ok) h2 Tryz.underlying23 (fun x hx=>has_board hx)
 obtain ⟨l3,rfl,n3,g3⟩:=hasT_slice (n:=j+4) (p:=Lnk.Ok) h3 Tryz.underlying24 (fun x hx=>has_link (j:=j+2) hx)
 simp only [maxLen] at n1 n2 n3
 exact ⟨⟨l1,l2,l3⟩,rfl,g1,g2,g3,by simp only;omega,by simp only;omega,by simp only;omega⟩
end Go.Proofs.YtnhdddmhkhdlhaaGreatDoor
namespace Go.Proofs.YtnhdddmhkhdlhaaGreatDoor
open Go Go.Am Go.Vm
theorem list5 {α:Type} {L:List α} (h:L.length=5):∃ a b c d e,L=[a,b,c,d,e]:=by
 match L,h with
 |[a,b,c,d,e],_=>exact ⟨a,b,c,d,e,rfl⟩
theorem has_bits5 {j:Nat} {fs:List FV} (h:HasT Tryz.prog (j+2) 115 fs):∃ b:Nat→Nat,fs=bitsE b∧∀ i,b i<256:=by
 obtain ⟨L,rfl,hl,hL⟩:=HasT.array h Tryz.underlying115
 obtain ⟨a,b,c,d,e,rfl⟩:=list5 hl
 obtain ⟨m1,rfl,q1⟩:=has_u8 (j:=j) (hL a (by simp))
 obtain ⟨m2,rfl,q2⟩:=has_u8 (j:=j) (hL b (by simp))
 obtain ⟨m3,rfl,q3⟩:=has_u8 (j:=j) (hL c (by simp))
 obtain ⟨m4,rfl,q4⟩:=has_u8 (j:=j) (hL d (by simp))
 obtain ⟨m5,rfl,q5⟩:=has_u8 (j:=j) (hL e (by simp))
 exact ⟨fun i=>if i=0 then m1 else if i=1 then m2 else if i=2 then m3 else if i=3 then m4 else m5,rfl,fun i=>by simp only;split<;>(try split)<;>(try split)<;>(try split)<;>omega⟩
end Go.Proofs.YtnhdddmhkhdlhaaGreatDoor
namespace Go.Proofs.YtnhdddmhkhdlhaaGreatDoor
open Go Go.Am Go.Vm Go.Pie
attribute [local irreducible] VVal VOps VOpsD VWp VCalls VFun VFunV QSeq QBlk QLoop Vm.Done DoneV DoneI
attribute [local irreducible] rchk windsE stoE dvsE cplE shiftR tailH
theorem has_byte {j:Nat} {fs:List FV} (h:HasT Tryz.prog (j+1) 5 fs):∃ x:UInt8,fs=Enc.enc x∧True:=by
 obtain ⟨n,rfl,hn⟩:=has_u8 h
 refine ⟨UInt8.ofNat n,?_,trivial⟩
 show _=[FV.int .u8 (((UInt8.ofNat n).toNat:Nat):Int)]
 rw [UInt8.toNat_ofNat',Nat.mod_eq_of_lt hn]
def Sd8.Ok (y:Sd8):Prop:=y.st<256∧y.lg<256∧y.dv<256∧y.ky<256
def Mrk.Ok (y:Mrk):Prop:=y.bar<256∧∀ j,y.b j<256
theorem has_sound {j:Nat} {fs:List FV} (h:HasT Tryz.prog (j+2) 106 fs):∃ x:Sd8,fs=Enc.enc x∧x.Ok:=by
 obtain ⟨parts,rfl,hp⟩:=hasT_struct h Tryz.underlying106
 obtain ⟨a,b,c,d,rfl,h1,h2,h3,h4⟩:=all2_four hp
 obtain ⟨m1,rfl,q1⟩:=has_u8 (j:=j) h1
 obtain ⟨m2,rfl,q2⟩:=has_u8 (j:=j) h2
 obtain ⟨m3,rfl,q3⟩:=has_u8 (j:=j) h3
 obtain ⟨m4,rfl,q4⟩:=has_u8 (j:=j) h4
 exact ⟨⟨m1,m2,m3,m4⟩,rfl,q1,q2,q3,q4⟩
theorem has_mark {j:Nat} {fs:List FV} (h:HasT Tryz.prog (j+3) 117 fs):∃ x:Mrk,fs=Enc.enc x∧x.Ok:=by
 obtain ⟨parts,rfl,hp⟩:=hasT_struct h Tryz.underlying117
 obtain ⟨a,b,rfl,h1,h2⟩:=all2_two hp
 obtain ⟨m1,rfl,q1⟩:=has_u8 (j:=j+1) h1
 obtain ⟨b5,rfl,k3⟩:=has_bits5 (j:=j) h2
 exact ⟨⟨m1,b5⟩,rfl,q1,k3⟩
theorem has_pplan {j:Nat} {fs:List FV} (h:HasT Tryz.prog (j+7) 31 fs):∃ x:PPl,fs=x.enc∧x.Ok:=by
 obtain ⟨parts,rfl,hp⟩:=hasT_struct h Tryz.underlying31
 obtain ⟨a,b,c,d,rfl,h1,h2,h3,h4⟩:=all2_four hp
 obtain ⟨x1,rfl,k1⟩:=has_oplan (j:=j) h1
 obtain ⟨l2,rfl,n2,g2⟩:=hasT_slice (n:=j+5) (p:=fun _:UInt8=>True) h2 Tryz.underlying27 (fun x hx=>has_byte (j:=j+4) hx)
 obtain ⟨l3,rfl,n3,g3⟩:=hasT_slice (n:=j+5) (p:=Sd8.Ok) h3 Tryz.underlying28 (fun x hx=>has_sound (j:=j+3) hx)
 obtain ⟨l4,rfl,n4,g4⟩:=hasT_slice (n:=j+5) (p:=Mrk.Ok) h4 Tryz.underlying29 (fun x hx=>has_mark (j:=j+2) hx)
 simp only [maxLen] at n2 n3 n4
 exact ⟨⟨x1,l2,l3,l4⟩,rfl,k1,by simp only;omega,by simp only;omega,by simp only;omega,g3,g4⟩
noncomputable instance (a b:Nts):Decidable (a=b):=Classical.propDecidable _
end Go.Proofs.YtnhdddmhkhdlhaaGreatDoor
namespace Go.Proofs.YtnhdddmhkhdlhaaGreatDoor
open Go Go.Am Go.Vm Go.Pie
attribute [local irreducible] VVal VOps VOpsD VWp VCalls VFun VFunV QSeq QBlk QLoop Vm.Done DoneV DoneI
attribute [local irreducible] rchk windsE stoE dvsE cplE shiftR tailH
end Go.Proofs.YtnhdddmhkhdlhaaGreatDoor
namespace Go.Proofs.YtnhdddmhkhdlhaaGreatDoor
open Go Go.Am Go.Vm Go.Pie
attribute [local irreducible] VVal VOps VOpsD VWp VCalls VFun VFunV QSeq QBlk QLoop Vm.Done DoneV DoneI
attribute [local irreducible] rchk windsE stoE dvsE cplE shiftR tailH
theorem pceZ_sm:PceSm ⟨[],[],[]⟩:=⟨by show 0<1000000;decide,by show 0<1000000;decide,by show 0<1000000;decide,fun i hi=>absurd hi (Nat.not_lt_zero _)⟩
theorem lequalZ:VFun env 23 [.agg pceZ,.agg pceZ] (.p (.bool true)):=by
 have h:=lequal_spec ⟨[],[],[]⟩ ⟨[],[],[]⟩ pceZ_sm pceZ_sm
 rw [decide_eq_true rfl] at h
 refine VFun.le ?_ h
 exact .cons (.agg (.cons (.nil _) (.cons (.nil _) (.cons (.nil _) (.refl _))))) (.cons (.agg (.cons (.nil _) (.cons (.nil _) (.cons (.nil _) (.refl _))))) (.refl _))
end Go.Proofs.YtnhdddmhkhdlhaaGreatDoor
namespace Go.Proofs.YtnhdddmhkhdlhaaGreatDoor
open Go Go.Am Go.Vm Go.Pie
attribute [local irreducible] VVal VOps VOpsD VWp VCalls VFun VFunV QSeq QBlk QLoop Vm.Done DoneV DoneI
attribute [local irreducible] rchk windsE stoE dvsE cplE shiftR tailH
def mvN (b:Int) (n:Nte):Nte:=⟨n.s,n.e,n.d,n.k+b⟩
def trK (b:Int) (l:List Nte) (k:Nat):List Nte:=snocK (fun i=>if i<k then mvN b (gi l i) else gi l i) l.length
def trP (b:Int) (p:Pce):Pce:=⟨p.bars,trK b p.notes p.notes.length,p.sets⟩
theorem trK_len (b:Int) (l:List Nte) (k:Nat):(trK b l k).length=l.length:=snocK_len _ _
theorem trK_zero (b:Int) (l:List Nte):trK b l 0=l:=list_gi (trK_len b l 0) fun i hi=>by
 rw [trK_len] at hi
 unfold trK
 rw [snocK_gi _ hi,if_neg (by omega)]
theorem trK_at (b:Int) (l:List Nte) {k:Nat} (h:k<l.length):gi (trK b l k) k=gi l k:=by
 unfold trK
 rw [snocK_gi _ h,if_neg (by omega)]
theorem trK_all (b:Int) (l:List Nte) {i:Nat} (h:i<l.length):gi (trK b l l.length) i=mvN b (gi l i):=by
 unfold trK
 rw [snocK_gi _ h,if_pos h]
theorem trK_set (b:Int) (l:List Nte) {k:Nat} (h:k<l.length):(trK b l k).set k (mvN b (gi l k))=trK b l (k+1):=by
 refine list_gi (by rw [List.length_set,trK_len,trK_len]) fun i hi=>?_
 rw [List.length_set,trK_len] at hi
 rw [gi_set,trK_len]
 unfold trK
 rw [snocK_gi _ hi,snocK_gi _ hi]
 by_cases e:k=i
 ·subst e;rw [if_pos ⟨rfl,hi⟩,if_pos (by omega)]
 ·rw [if_neg (fun h=>e h.1)]
  by_cases e2:i<k
  ·rw [if_pos e2,if_pos (by omega)]
  ·rw [if_neg e2,if_neg (by omega)]
theorem snocK_self {α:Type} [Inhabited α] (l:List α):snocK (gi l) l.length=l:=list_gi (snocK_len _ _) fun i hi=>by
 rw [snocK_len] at hi
 exact snocK_gi _ hi
def trIn (o:Org) (p:Pce) (b:Int) (i:Nat):Prop:=(gi o.divs (gi p.notes i).d.toNat).lo≤(gi p.notes i).k+b∧(gi p.notes i).k+b≤(gi o.divs (gi p.notes i).d.toNat).hi
def trOk (o:Org) (p:Pce) (b:Int):Prop:=∀ i,i<p.notes.length→trIn o p b i
noncomputable instance (o:Org) (p:Pce) (b:Int):Decidable (trOk o p b):=Classical.propDecidable _
theorem cloneNte_spec (l:List Nte) (h0:0<l.length) (h1:l.length<1000000):VFunV env 28 [.lst 66 (cells l) l.length] 66 (cells l) l.length false:=by
 refine VFunV.enter (env_none (by decide)) Tryz.func28 rfl (by kernel_rfl) (by simp [Tryz.ntmps28]) ?_
 repeat' (first|apply VWp.assoc|apply VWp.rseq|apply VWp.skipSeq|apply VWp.ret|apply VOps.nil|apply VOps.one|(apply VVal.eqNilF;rfl;rfl;rfl;exact h0)|(apply VVal.assign;rfl)|(apply VVal.move;rfl)|(apply VVal.buildSlice;rfl;rfl;rfl;decide;rfl;rfl;rfl)|(apply VVal.appendL0;rfl;rfl;rfl;(first|rfl|omega|(simp only [List.length_take,List.length_drop,List.length_append,List.length_singleton,List.length_cons,List.length_nil]<;>omega));rfl;rfl;(intro _ h;cases h);rfl;rfl;rfl;decide;decide;(first|omega|(simp only [List.length_take,List.length_drop,List.length_append,List.length_singleton,List.length_cons,List.length_nil]<;>omega)))|(apply VWp.condSeq_false;rfl))
 exact DoneV.ret rfl rfl rfl rfl
theorem cloneNte0_spec:VFun env 28 [.lst 66 (cells ([]:List Nte)) 0] (.p (.lst 66 (cells ([]:List Nte)) 0)):=by
 refine VFun.enter (env_none (by decide)) Tryz.func28 rfl (by kernel_rfl) (by simp [Tryz.ntmps28]) ?_
 repeat' (first|(refine VOps.atOp 2 ?_;refine VOps.ghost (Ghost.freeze 7 rfl rfl) ?_)|apply VWp.assoc|apply VWp.rseq|apply VWp.skipSeq|apply VWp.retSeq|apply VWp.ret|apply VOps.nil|apply VOps.one|(apply VVal.eqNil;rfl;rfl;rfl)|(apply VVal.assign;rfl)|(apply VVal.move;rfl)|(apply VVal.buildSlice;rfl;rfl;rfl;decide;rfl;rfl;rfl)|(apply VVal.appendL0;rfl;rfl;rfl;(first|rfl|omega|(simp only [List.length_take,List.length_drop,List.length_append,List.length_singleton,List.length_cons,List.length_nil]<;>omega));rfl;rfl;(intro _ h;cases h);rfl;rfl;rfl;decide;decide;(first|omega|(simp only [List.length_take,List.length_drop,List.length_append,List.length_singleton,List.length_cons,List.length_nil]<;>omega)))|(apply VWp.condSeq;rfl)|(intro _;try (exfalso;omega)))
 all_goals first|(exfalso;omega)|(refine Done.ret rfl (.p (.nil _)) trivial HCov.nil (Nat.zero_le _) (Nat.le_refl _) ⟨rfl,rfl,rfl⟩;done)|(refine Done.ret rfl (.refl _) (by exact PV.under_of rfl) HCov.nil (Nat.zero_le _) (Nat.le_refl _) ⟨?_,rfl,rfl⟩;try rfl)
theorem inl_CLN {L:Vm.Frame} {H:Vm.Heap} {nx:Nat} {Q:PV→Vm.Heap→Nat→Prop} {dst:Option Tmp} {ty:TypeId} {pos:String} {af:Array Edge} {gd:Option (Nat×Bool)} {fo:Operand} {args:Array Operand} {aT:Array TypeId} {fs cs xs:List PV} {c:Code}
 (hf:vev env.Γ L fo=some (.clo 66 fs cs)) (ha:evs env.Γ L args.toList=some xs) (hb:Tryz.f66.body=some c) (hn:(fs++xs++cs).length≤Tryz.f66.ntmps)
 (h:VWp env nx c (argFrame 0 (fs++xs++cs)) H nx (DoneI env.P Tryz.f66.results.toList Q)):VVal env true ⟨dst,.call { callee:=.value fo,args:=args,argTypes:=aT },ty,pos,af,gd⟩ L H nx Q:=by
 have h0:(match Tryz.f66.body with|some c=>fnOk env.G Tryz.f66 c|none=>false)=true:=by kernel_rfl
 rw [hb] at h0
 exact VVal.inline rfl hf ha (env_none (by decide)) Tryz.func66 hb h0 hn h
theorem TransposeR_spec {o:Org} {p:Pce} (ho:OrgSm o) (hE:pceE o p=0) (h:PceSm p) (b:Int) (hr:b< -127∨b>127):VFun env 27 [.agg (Enc.enc o),.agg (Enc.enc p),.int .i64 b] (.tup [.p (.agg pceZ),.p (.int .i64 3)]):=by
 have ha:=pieCheck_spec o p ho h
 rw [hE] at ha
 unfold pceZ
 refine VFun.enter (env_none (by decide)) Tryz.func27 rfl (by kernel_rfl) (by simp [Tryz.ntmps27]) ?_
 repeat' (first|apply VWp.assoc|apply VWp.rseq|apply VWp.skipSeq|apply VWp.retSeq|apply VOps.nil|apply VOps.one|(apply VOps.take;rfl;rfl)|(apply VOps.drop;rfl;rfl;rfl)|(apply VOps.guard;rfl;rfl)|(apply VVal.fn;rfl;rfl;exact ha;intro _;rfl)|(apply VVal.assign;rfl)|(apply VVal.move;rfl)|(apply VVal.int;rfl;rfl;rfl)|(apply VVal.load;rfl;rfl)|(apply VVal.pick_true;rfl;rfl)|(apply VVal.pick_false;rfl;rfl)|(apply VVal.box;rfl;trivial)|(apply VVal.alloc;rfl)|(apply VVal.storeB;rfl;rfl;rfl;trivial;rfl;rfl;exact lt_dec rfl;exact le_dec rfl)|(apply VVal.build;rfl;rfl;rfl;rfl;rfl)|(apply VWp.condSeq_true;rfl)|(apply VWp.condSeq_false;rfl)|(apply VWp.condSeq_dec;rfl)|(intro _;try (exfalso;omega)))
 all_goals first|(exfalso;omega)|contradiction|(refine Done.ret rfl (.refl _) (by exact PV.under_of rfl) HCov.nil (Nat.zero_le _) (Nat.le_refl _) ⟨?_,rfl,rfl⟩;try rfl)
theorem Transpose_spec {o:Org} {p:Pce} (ho:OrgK o) (hE:pceE o p=0) (h:PceK o p) (b:Int) (hb:-127≤b∧b≤127) (hz:0<p.notes.length) :
 VFun env 27 [.agg (Enc.enc o),.agg (Enc.enc p),.int .i64 b] (if trOk o p b then .tup [.p (.agg (Enc.enc (trP b p))),.p (.int .i64 0)] else .tup [.p (.agg pceZ),.p (.int .i64 23)]):=by
 have ha:=pieCheck_spec o p ho.sm h.sm
 rw [hE] at ha
 have n1:=h.notes
 have n2:=h.bars
 have n3:=h.sets
 have d1:=ho.divs
 have hcb:=cloneB_spec p.bars (by omega) (by omega)
 have hcn:=cloneNte_spec p.notes hz (by omega)
 have hcop:∀ i,i<p.sets.length→VFun env 59 [.agg (Enc.enc (gi p.sets i).reg)] (.p (.agg (Enc.enc (gi p.sets i).reg))):=fun i hi=>by
  have hl:=regE_len0 (h.set i hi).2.2
  exact pieCopied_spec _ (by omega) (by omega)
 have hTe:Enc.enc (trP b p)=[.lst 3 (cells p.bars) p.bars.length,.lst 66 (cells (trK b p.notes p.notes.length)) p.notes.length,.lst 74 (cells p.sets) p.sets.length]:=by
  show [FV.lst 3 (cells p.bars) p.bars.length,FV.lst 66 (cells (trK b p.notes p.notes.length)) (trK b p.notes p.notes.length).length,_]=_
  rw [trK_len]
  rfl
 rw [hTe]
 unfold pceZ
 refine VFun.enter (env_none (by decide)) Tryz.func27 rfl (by kernel_rfl) (by simp [Tryz.ntmps27]) ?_
 repeat' (first|apply VWp.assoc|apply VWp.rseq|apply VWp.rseqD|apply VWp.skipSeq|apply VWp.blockSeq|apply VOps.nil|apply VOpsD.nil|apply VOps.one|(apply VOpsD.bar;decide +kernel)|apply VOpsD.quiet|(apply VOps.take;rfl;rfl)|(apply VOps.guard;rfl;rfl)|(apply VVal.fn;rfl;rfl;exact ha;intro _;rfl)|(apply inl_CLN;rfl;rfl;rfl;exact le_dec rfl)|(apply VVal.fv;rfl;rfl;exact hcb)|(apply VVal.fv;rfl;rfl;exact hcn)|(apply VVal.assign;rfl)|(apply VVal.move;rfl)|(apply VVal.int;rfl;rfl;rfl)|(apply VVal.load;rfl;rfl)|(apply VVal.pick_false;rfl;rfl)|(apply VVal.lenF;rfl;rfl)|(apply VVal.fieldB;rfl;rfl;rfl)|(apply VVal.box;rfl;trivial)|(apply VVal.alloc;rfl)|(apply VVal.storeB;rfl;rfl;rfl;trivial;rfl;rfl;exact lt_dec rfl;exact le_dec rfl)|(apply VVal.build;rfl;rfl;rfl;rfl;rfl)|(apply VWp.condSeq_false;rfl)|(apply VWp.condSeq_dec;rfl)|(intro _;try (exfalso;omega)))
 all_goals try (exfalso;omega)
 all_goals try contradiction
 refine VWp.ghost (Ghost.adoptCell 7 2 74 rfl rfl) ?_
 apply VWp.loopR (p.sets.length) [(1,_),(2,_),(3,_),(14,_),(15,_)] [(0,_),(1,_),(2,_),(4,_),(5,_),(6,_)] (fun k r=>(16,.p (.int .i64 (k:Int)))::r) (fun k r=>(8,.vec 74 (cells (snocK (gi p.sets) k)) (snocK (gi p.sets) k).length true)::(7,.box 45 [.vec 5 p.bars.length 0 p.bars.length,.vec 6 p.notes.length 0 p.notes.length,.vec 8 (snocK (gi p.sets) k).length 0 (snocK (gi p.sets) k).length])::r) 9
 ·first|omega|decide
 ·first|omega|decide
 ·repeat (first|exact LCov.nil|(refine LCov.eq rfl ?_ ?_;(first|exact PV.under_of rfl|(simp [PV.under,PVs.under];done)))|refine LCov.cons trivial rfl (.of_eq (lst_len (by simp<;>omega))) ?_)
 ·repeat (first|exact HCov.nil|(refine HCov.eq rfl (lt_dec rfl) ?_ ?_;(first|exact HB.under_of rfl|exact PVs.under_pure _ _|(simp [HB.under,PVs.under,PV.under];done)))|(refine HCov.cons (lt_dec rfl) ?_ rfl ?_ ?_;(first|exact trivial|exact PVs.under_pure _ _|(simp [HB.under,PVs.under,PV.under]));(first|exact HLe.refl _|exact HLe.vec (FLes.refl _) (by simp))))
 ·intro k hk
  have hl2:=snocK_len (gi p.sets) k
  have hck:=hcop k hk
  have e1:snocK (gi p.sets) (k+1)=snocK (gi p.sets) k++[gi p.sets k]:=rfl
  have e2:(snocK (gi p.sets) (k+1)).length=(snocK (gi p.sets) k).length+1:=by rw [e1];simp
  repeat' (first|apply VWp.rseq|apply VWp.region|apply VWp.regionD|apply VWp.skipSeq|apply VWp.blockSeq|apply QSeq.normal|apply QBlk.normal|apply VOps.nil|apply VOpsD.nil|apply VOps.one|(apply VOpsD.bar;decide +kernel)|apply VOpsD.quiet|(apply VVal.fn;rfl;rfl;exact hck;intro _;rfl)|(apply VVal.append1 (a:=gi p.sets k);rfl;rfl;rfl;rfl;rfl;rfl;rfl;rfl;(intro _ h;cases h);rfl;rfl;rfl;decide;decide;(first|omega|(simp only [List.length_take,List.length_drop,List.length_append,List.length_singleton,List.length_cons,List.length_nil]<;>omega)))|(apply VVal.move;rfl)|(apply VVal.add64;rfl;rfl;omega)|(apply VVal.int;rfl;rfl;rfl)|(apply VVal.indexN;rfl;rfl;rfl;omega;rfl)|(apply VVal.load;rfl;rfl)|(apply VVal.fieldB;rfl;rfl;rfl)|(apply VVal.alloc;rfl)|(apply VVal.storeB;rfl;rfl;rfl;trivial;rfl;rfl;exact lt_dec rfl;exact le_dec rfl)|(apply VVal.build;rfl;rfl;rfl;rfl;rfl)|(apply VVal.buildSlice;rfl;rfl;rfl;decide;rfl;rfl;rfl)|(apply VWp.condSeq_dec;rfl)|(intro _;try (exfalso;omega)))
  all_goals try (exfalso;omega)
  refine QLoop.normal ⟨by first|omega|decide,?_,?_⟩
  ·try (rw [e2,e1])
   repeat (first|exact LCov.nil|refine LCov.same (by exact PV.under_of rfl) rfl ?_|refine LCov.cons trivial rfl (.of_eq (lst_len (by simp<;>omega))) ?_)
  ·rw [e2,e1]
   repeat (first|exact HCov.nil|(refine HCov.cons (lt_dec rfl) ?_ rfl ?_ ?_;(first|exact HB.under_of rfl|exact PVs.under_pure _ _|(simp [HB.under,PVs.under,PV.under]));(first|exact HLe.refl _|exact HLe.vec (FLes.refl _) (by simp))))
 ·rw [snocK_self p.sets]
  refine VWp.ghost (Ghost.trans (Ghost.freezeCell 7 0 rfl rfl rfl) (Ghost.freezeCell 7 2 rfl rfl rfl)) ?_
  have t0:=trK_zero b p.notes
  repeat' (first|apply VWp.assoc|apply VWp.rseq|apply VWp.exitSeq|apply VWp.blockSeq|apply QSeq.normal|(apply DoneI.ret;rfl)|apply QBlk.exit|apply QLoop.exit|apply VWp.ret|apply VOps.nil|apply VOps.one|(apply VVal.move;rfl)|(apply VVal.int;rfl;rfl;rfl)|(apply VVal.load;rfl;rfl)|(apply VVal.lenV;rfl;rfl;rfl)|(apply VVal.fieldB;rfl;rfl;rfl)|(apply VVal.alloc;rfl)|(apply VVal.storeB;rfl;rfl;rfl;trivial;rfl;rfl;exact lt_dec rfl;exact le_dec rfl)|(apply VWp.condSeq_dec;rfl)|(intro _;try (exfalso;omega)))
  all_goals try (exfalso;omega)
  rw [show cells p.notes=cells (trK b p.notes 0) from by rw [trK_zero]]
  apply VWp.loopRI (p.notes.length) (fun k=>∀ i,i<k→trIn o p b i) [(2,_),(3,_),(6,_),(9,_),(31,_)] [(0,_),(2,_),(9,_)] (fun k r=>(32,.p (.int .i64 (k:Int)))::r) (fun k r=>(6,.vec 66 (cells (trK b p.notes k)) p.notes.length false)::r) 10
  ·first|omega|decide
  ·first|omega|decide
  ·repeat (first|exact LCov.nil|(refine LCov.eq rfl ?_ ?_;(first|exact PV.under_of rfl|(simp [PV.under,PVs.under];done)))|refine LCov.cons trivial rfl (.of_eq (lst_len (by simp<;>omega))) ?_)
  ·repeat (first|exact HCov.nil|(refine HCov.eq rfl (lt_dec rfl) ?_ ?_;(first|exact HB.under_of rfl|exact PVs.under_pure _ _|(simp [HB.under,PVs.under,PV.under];done)))|(refine HCov.cons (lt_dec rfl) ?_ rfl ?_ ?_;(first|exact trivial|exact PVs.under_pure _ _|(simp [HB.under,PVs.under,PV.under]));(first|exact HLe.refl _|exact HLe.vec (FLes.refl _) (by simp))))
  ·first|(intro _ _;omega)|omega|trivial
  ·intro k hk hok
   have hN:=h.note k hk
   obtain ⟨j,hj⟩:∃ j:Nat,(gi p.notes k).d=(j:Int):=⟨(gi p.notes k).d.toNat,by have:=hN.d;omega⟩
   have hjn:j<o.divs.length:=by have:=hN.d;omega
   have hc:=ho.cmp (i:=j) hjn
   have hk2:=hN.k
   have hdef:trIn o p b k↔(gi o.divs j).lo≤(gi p.notes k).k+b∧(gi p.notes k).k+b≤(gi o.divs j).hi:=by
    unfold trIn
    rw [hj,Int.toNat_natCast]
   rw [hj,Int.toNat_natCast] at hk2
   have w0:=trK_at b p.notes hk
   have w1:=trK_set b p.notes hk
   have wl:=trK_len b p.notes k
   generalize trK b p.notes k=W at *
   have v1:(gi W k).k=(gi p.notes k).k:=by rw [w0]
   have w2:mvN b (gi p.notes k)=⟨(gi W k).s,(gi W k).e,(gi W k).d,(gi W k).k+b⟩:=by rw [w0];rfl
   rw [w2] at w1
   have g0:gi (W.set k ⟨(gi W k).s,(gi W k).e,(gi W k).d,(gi W k).k+b⟩) k=⟨(gi W k).s,(gi W k).e,(gi W k).d,(gi W k).k+b⟩:=by rw [gi_set,if_pos ⟨rfl,by omega⟩]
   have g1:(gi (W.set k ⟨(gi W k).s,(gi W k).e,(gi W k).d,(gi W k).k+b⟩) k).k=(gi p.notes k).k+b:=by rw [g0,← v1]
   have g2:(gi (W.set k ⟨(gi W k).s,(gi W k).e,(gi W k).d,(gi W k).k+b⟩) k).d=(j:Int):=by rw [g0,← hj,w0]
   have gl:(W.set k ⟨(gi W k).s,(gi W k).e,(gi W k).d,(gi W k).k+b⟩).length=p.notes.length:=by rw [List.length_set];exact wl
   by_cases hin:trIn o p b k
   all_goals have hin2:=hin
   all_goals rw [hdef] at hin2
   all_goals try rw [if_neg (fun hh:trOk o p b=>hin (hh k hk))]
   all_goals
    repeat' (first|apply VWp.rseq|apply VWp.rseqD|apply VWp.region|apply VWp.skipSeq|apply VWp.blockSeq|apply QSeq.normal|apply QSeq.ret|apply QBlk.normal|apply QBlk.ret|apply QLoop.ret|apply VWp.ret|apply VWp.skip|apply VOps.nil|apply VOpsD.nil|apply VOps.one|(apply VOpsD.bar;decide +kernel)|apply VOpsD.quiet|(apply VOpsD.quietTake;rfl;rfl)|(apply VOpsD.drop;rfl;rfl;rfl)|(apply VOpsD.guard;rfl;rfl)|(apply VVal.indexVN (l:=W) (i:=k);rfl;rfl;rfl;rfl;omega)|(apply VVal.nilChkE;rfl;rfl)|(apply VVal.fieldV;rfl;rfl;rfl)|(apply VVal.loadVF (α:=Nte) (l:=W) (i:=k) (f:=3);rfl;rfl;omega;decide;rfl)|(apply VVal.storeVF (α:=Nte) (l:=W) (i:=k) (f:=3) (y:=⟨(gi W k).s,(gi W k).e,(gi W k).d,(gi W k).k+b⟩) (fs:=[.int .i64 ((gi W k).k+b)]);rfl;rfl;rfl;trivial;rfl;rfl;rfl;decide;omega;decide;exact .refl _)|(apply VVal.loadVF (α:=Nte) (l:=W.set k ⟨(gi W k).s,(gi W k).e,(gi W k).d,(gi W k).k+b⟩) (i:=k) (f:=2);rfl;rfl;omega;decide;rfl)|(apply VVal.loadVF (α:=Nte) (l:=W.set k ⟨(gi W k).s,(gi W k).e,(gi W k).d,(gi W k).k+b⟩) (i:=k) (f:=3);rfl;rfl;omega;decide;rfl)|(apply VVal.indexN (l:=o.divs) (i:=j);rfl;exact congrArg (fun b=>some (PV.p (.int .i64 b))) g2;rfl;omega;rfl)|(apply VVal.assign;rfl)|(apply VVal.move;rfl)|(apply VVal.add64;rfl;rfl;omega)|(apply VVal.int;rfl;rfl;rfl)|(apply VVal.load;rfl;rfl)|(apply VVal.pick_true;rfl;rfl)|(apply VVal.pick_false;rfl;rfl)|(apply VVal.fieldB;rfl;rfl;rfl)|(apply VVal.fieldF;rfl;rfl)|(apply VVal.alloc;rfl)|(apply VVal.storeB;rfl;rfl;rfl;trivial;rfl;rfl;exact lt_dec rfl;exact le_dec rfl)|(apply VVal.build;rfl;rfl;rfl;rfl;rfl)|(apply VWp.condSeq_dec;rfl)|(apply VWp.cond_true;rfl)|(apply VWp.cond_dec;rfl)|(intro _;try (exfalso;omega)))
   all_goals try (exfalso;omega)
   all_goals first|((refine Done.ret rfl (.refl _) (by exact PV.under_of rfl) HCov.nil (Nat.zero_le _) (Nat.le_refl _) ⟨?_,rfl,rfl⟩;try rfl);done)|skip
   have hok1:∀ i,i<k+1→trIn o p b i:=fun i hi=>by
    rcases Nat.lt_or_ge i k with h5|h5
    ·exact hok i h5
    ·obtain rfl:i=k:=by omega
     exact hin
   refine QLoop.normal ⟨hok1,by first|omega|decide,?_,?_⟩
   ·try (rw [← w1])
    repeat (first|exact LCov.nil|refine LCov.same (by exact PV.under_of rfl) rfl ?_|refine LCov.cons trivial rfl (.of_eq (lst_len (by simp<;>omega))) ?_)
   ·rw [← w1]
    repeat (first|exact HCov.nil|(refine HCov.cons (lt_dec rfl) ?_ rfl ?_ ?_;(first|exact HB.under_of rfl|exact PVs.under_pure _ _|(simp [HB.under,PVs.under,PV.under]));(first|exact HLe.refl _|exact HLe.vec (FLes.refl _) (by simp))))
  ·intro hok
   rw [if_pos (show trOk o p b from hok)]
   repeat' (first|(refine VWp.at 16 ?_;refine VWp.ghost (Ghost.freezeCell 9 1 rfl rfl rfl) ?_;first|apply VWp.rseq|apply VWp.rseqD)|apply VWp.rseq|apply VWp.exitSeq|apply QSeq.normal|apply QBlk.exit|apply QLoop.exit|apply VWp.ret|apply VOps.nil|apply VOps.one|(apply VVal.assign;rfl)|(apply VVal.int;rfl;rfl;rfl)|(apply VVal.load;rfl;rfl)|(apply VVal.storeB;rfl;rfl;rfl;trivial;rfl;rfl;exact lt_dec rfl;exact le_dec rfl)|(apply VWp.condSeq_dec;rfl)|(intro _;try (exfalso;omega)))
   all_goals first|(exfalso;omega)|(refine Done.ret rfl (.refl _) (by exact PV.under_of rfl) HCov.nil (Nat.zero_le _) (Nat.le_refl _) ⟨?_,rfl,rfl⟩;try rfl)
theorem Transpose0A_spec {o:Org} {p:Pce} (ho:OrgK o) (hE:pceE o p=0) (h:PceK o p) (b:Int) (hb:-127≤b∧b≤127) (hz:p.notes=[]) :
 VFun env 27 [.agg (Enc.enc o),.agg (Enc.enc p),.int .i64 b] (.tup [.p (.agg [.lst 3 (cells p.bars) p.bars.length,.lst 66 (cells ([]:List Nte)) 0,.lst 74 (cells p.sets) p.sets.length]),.p (.int .i64 0)]):=by
 have ha:=pieCheck_spec o p ho.sm h.sm
 rw [hE] at ha
 have n2:=h.bars
 have n3:=h.sets
 have hz0:p.notes.length=0:=by rw [hz];rfl
 have d1:=ho.divs
 have hcb:=cloneB_spec p.bars (by omega) (by omega)
 have hcn:VFun env 28 [.lst 66 (cells p.notes) p.notes.length] (.p (.lst 66 (cells ([]:List Nte)) 0)):=by rw [hz];exact cloneNte0_spec
 have hcop:∀ i,i<p.sets.length→VFun env 59 [.agg (Enc.enc (gi p.sets i).reg)] (.p (.agg (Enc.enc (gi p.sets i).reg))):=fun i hi=>by
  have hl:=regE_len0 (h.set i hi).2.2
  exact pieCopied_spec _ (by omega) (by omega)
 refine VFun.enter (env_none (by decide)) Tryz.func27 rfl (by kernel_rfl) (by simp [Tryz.ntmps27]) ?_
 repeat' (first|apply VWp.assoc|apply VWp.rseq|apply VWp.rseqD|apply VWp.skipSeq|apply VWp.blockSeq|apply VOps.nil|apply VOpsD.nil|apply VOps.one|(apply VOpsD.bar;decide +kernel)|apply VOpsD.quiet|(apply VOps.take;rfl;rfl)|(apply VOps.guard;rfl;rfl)|(apply VVal.fn;rfl;rfl;exact ha;intro _;rfl)|(apply inl_CLN;rfl;rfl;rfl;exact le_dec rfl)|(apply VVal.fv;rfl;rfl;exact hcb)|(apply VVal.fn;rfl;rfl;exact hcn;intro _;rfl)|(apply VVal.assign;rfl)|(apply VVal.move;rfl)|(apply VVal.int;rfl;rfl;rfl)|(apply VVal.load;rfl;rfl)|(apply VVal.pick_false;rfl;rfl)|(apply VVal.lenF;rfl;rfl)|(apply VVal.fieldB;rfl;rfl;rfl)|(apply VVal.box;rfl;trivial)|(apply VVal.alloc;rfl)|(apply VVal.storeB;rfl;rfl;rfl;trivial;rfl;rfl;exact lt_dec rfl;exact le_dec rfl)|(apply VVal.build;rfl;rfl;rfl;rfl;rfl)|(apply VWp.condSeq_false;rfl)|(apply VWp.condSeq_dec;rfl)|(intro _;try (exfalso;omega)))
 all_goals try (exfalso;omega)
 all_goals try contradiction
 refine VWp.ghost (Ghost.adoptCell 6 2 74 rfl rfl) ?_
 apply VWp.loopR (p.sets.length) [(1,_),(2,_),(3,_),(14,_),(15,_)] [(0,_),(1,_),(2,_),(4,_),(5,_)] (fun k r=>(16,.p (.int .i64 (k:Int)))::r) (fun k r=>(7,.vec 74 (cells (snocK (gi p.sets) k)) (snocK (gi p.sets) k).length true)::(6,.box 45 [.vec 5 p.bars.length 0 p.bars.length,.p (.lst 66 (cells ([]:List Nte)) 0),.vec 7 (snocK (gi p.sets) k).length 0 (snocK (gi p.sets) k).length])::r) 8
 ·first|omega|decide
 ·first|omega|decide
 ·repeat (first|exact LCov.nil|(refine LCov.eq rfl ?_ ?_;(first|exact PV.under_of rfl|(simp [PV.under,PVs.under];done)))|refine LCov.cons trivial rfl (.of_eq (lst_len (by simp<;>omega))) ?_)
 ·repeat (first|exact HCov.nil|(refine HCov.eq rfl (lt_dec rfl) ?_ ?_;(first|exact HB.under_of rfl|exact PVs.under_pure _ _|(simp [HB.under,PVs.under,PV.under];done)))|(refine HCov.cons (lt_dec rfl) ?_ rfl ?_ ?_;(first|exact trivial|exact PVs.under_pure _ _|(simp [HB.under,PVs.under,PV.under]));(first|exact HLe.refl _|exact HLe.vec (FLes.refl _) (by simp))))
 ·intro k hk
  have hl2:=snocK_len (gi p.sets) k
  have hck:=hcop k hk
  have e1:snocK (gi p.sets) (k+1)=snocK (gi p.sets) k++[gi p.sets k]:=rfl
  have e2:(snocK (gi p.sets) (k+1)).length=(snocK (gi p.sets) k).length+1:=by rw [e1];simp
  repeat' (first|apply VWp.rseq|apply VWp.region|apply VWp.regionD|apply VWp.skipSeq|apply VWp.blockSeq|apply QSeq.normal|apply QBlk.normal|apply VOps.nil|apply VOpsD.nil|apply VOps.one|(apply VOpsD.bar;decide +kernel)|apply VOpsD.quiet|(apply VVal.fn;rfl;rfl;exact hck;intro _;rfl)|(apply VVal.append1 (a:=gi p.sets k);rfl;rfl;rfl;rfl;rfl;rfl;rfl;rfl;(intro _ h;cases h);rfl;rfl;rfl;decide;decide;(first|omega|(simp only [List.length_take,List.length_drop,List.length_append,List.length_singleton,List.length_cons,List.length_nil]<;>omega)))|(apply VVal.move;rfl)|(apply VVal.add64;rfl;rfl;omega)|(apply VVal.int;rfl;rfl;rfl)|(apply VVal.indexN;rfl;rfl;rfl;omega;rfl)|(apply VVal.load;rfl;rfl)|(apply VVal.fieldB;rfl;rfl;rfl)|(apply VVal.alloc;rfl)|(apply VVal.storeB;rfl;rfl;rfl;trivial;rfl;rfl;exact lt_dec rfl;exact le_dec rfl)|(apply VVal.build;rfl;rfl;rfl;rfl;rfl)|(apply VVal.buildSlice;rfl;rfl;rfl;decide;rfl;rfl;rfl)|(apply VWp.condSeq_dec;rfl)|(intro _;try (exfalso;omega)))
  all_goals try (exfalso;omega)
  refine QLoop.normal ⟨by first|omega|decide,?_,?_⟩
  ·try (rw [e2,e1])
   repeat (first|exact LCov.nil|refine LCov.same (by exact PV.under_of rfl) rfl ?_|refine LCov.cons trivial rfl (.of_eq (lst_len (by simp<;>omega))) ?_)
  ·rw [e2,e1]
   repeat (first|exact HCov.nil|(refine HCov.cons (lt_dec rfl) ?_ rfl ?_ ?_;(first|exact HB.under_of rfl|exact PVs.under_pure _ _|(simp [HB.under,PVs.under,PV.under]));(first|exact HLe.refl _|exact HLe.vec (FLes.refl _) (by simp))))
 ·rw [snocK_self p.sets]
  refine VWp.ghost (Ghost.trans (Ghost.freezeCell 6 0 rfl rfl rfl) (Ghost.freezeCell 6 2 rfl rfl rfl)) ?_
  repeat' (first|apply VWp.assoc|apply VWp.rseq|apply VWp.exitSeq|apply VWp.blockSeq|apply QSeq.normal|(apply DoneI.ret;rfl)|apply QBlk.exit|apply QLoop.exit|apply VWp.ret|apply VOps.nil|apply VOps.one|(apply VVal.move;rfl)|(apply VVal.int;rfl;rfl;rfl)|(apply VVal.load;rfl;rfl)|(apply VVal.lenF;rfl;rfl)|(apply VVal.fieldB;rfl;rfl;rfl)|(apply VVal.alloc;rfl)|(apply VVal.storeB;rfl;rfl;rfl;trivial;rfl;rfl;exact lt_dec rfl;exact le_dec rfl)|(apply VWp.condSeq_dec;rfl)|(intro _;try (exfalso;omega)))
  all_goals try (exfalso;omega)
  apply VWp.loopR (p.notes.length) [(2,_),(3,_),(6,_),(9,_),(31,_)] [(0,_),(2,_),(8,_)] (fun k r=>(32,.p (.int .i64 (k:Int)))::r) (fun k r=>r) 9
  ·first|omega|decide
  ·first|omega|decide
  ·repeat (first|exact LCov.nil|(refine LCov.eq rfl ?_ ?_;(first|exact PV.under_of rfl|(simp [PV.under,PVs.under];done)))|refine LCov.cons trivial rfl (.of_eq (lst_len (by simp<;>omega))) ?_)
  ·repeat (first|exact HCov.nil|(refine HCov.eq rfl (lt_dec rfl) ?_ ?_;(first|exact HB.under_of rfl|exact PVs.under_pure _ _|(simp [HB.under,PVs.under,PV.under];done)))|(refine HCov.cons (lt_dec rfl) ?_ rfl ?_ ?_;(first|exact trivial|exact PVs.under_pure _ _|(simp [HB.under,PVs.under,PV.under]));(first|exact HLe.refl _|exact HLe.vec (FLes.refl _) (by simp))))
  ·intro k hk
   omega
  ·repeat' (first|apply VWp.rseq|apply VWp.exitSeq|apply QSeq.normal|apply QBlk.exit|apply QLoop.exit|apply VWp.ret|apply VOps.nil|apply VOps.one|(apply VVal.assign;rfl)|(apply VVal.int;rfl;rfl;rfl)|(apply VVal.load;rfl;rfl)|(apply VVal.storeB;rfl;rfl;rfl;trivial;rfl;rfl;exact lt_dec rfl;exact le_dec rfl)|(apply VWp.condSeq_false;rfl))
   all_goals first|(exfalso;omega)|(refine Done.ret rfl (.refl _) (by exact PV.under_of rfl) HCov.nil (Nat.zero_le _) (Nat.le_refl _) ⟨?_,rfl,rfl⟩;try rfl)
theorem TransposeK_spec {o:Org} {p:Pce} (ho:OrgK o) (hE:pceE o p=0) (h:PceK o p) (b:Int) (hb:-127≤b∧b≤127) :
 VFun env 27 [.agg (Enc.enc o),.agg (Enc.enc p),.int .i64 b] (if trOk o p b then .tup [.p (.agg (Enc.enc (trP b p))),.p (.int .i64 0)] else .tup [.p (.agg pceZ),.p (.int .i64 23)]):=by
 rcases Nat.eq_zero_or_pos p.notes.length with hz|hz
 ·have hn:p.notes=[]:=List.length_eq_zero_iff.1 hz
  rw [if_pos (show trOk o p b from fun i hi=>by omega)]
  have h0:=Transpose0A_spec ho hE h b hb hn
  have e:Enc.enc (trP b p)=[.lst 3 (cells p.bars) p.bars.length,.lst 66 (cells ([]:List Nte)) 0,.lst 74 (cells p.sets) p.sets.length]:=by
   unfold trP
   rw [hn]
   rfl
  rw [e]
  exact h0
 ·exact Transpose_spec ho hE h b hb hz
theorem trP_notes (b:Int) (p:Pce):(trP b p).notes.length=p.notes.length:=trK_len _ _ _
theorem trP_at (b:Int) (p:Pce) {i:Nat} (h:i<p.notes.length):gi (trP b p).notes i=mvN b (gi p.notes i):=trK_all b p.notes h
theorem trP_k {o:Org} {p:Pce} (h:PceK o p) {b:Int} (hb:trOk o p b):PceK o (trP b p):=by
 refine pceK_of ⟨h.sm.bars,by rw [trP_notes];exact h.sm.notes,h.sm.sets,h.sm.reg⟩ h.bars h.bar (by rw [trP_notes];exact h.notes) (fun i hi=>?_) h.sets h.set
 rw [trP_notes] at hi
 obtain ⟨q1,q2,q3,q4⟩:=h.note i hi
 refine ⟨by rw [trP_at b p hi];exact q1,by rw [trP_at b p hi];exact hb i hi,by rw [trP_at b p hi];exact q3,fun j hj=>?_⟩
 rw [trP_at b p hi,trP_at b p (by omega)]
 have:=q4 j hj
 unfold ovl mvN at *
 simp only [Bool.and_eq_false_iff,decide_eq_false_iff_not] at this ⊢
 omega
theorem trP_bad {o:Org} {p:Pce} (h:PceK o p) {b:Int} (hb:¬ trOk o p b):restE o (trP b p)≠0:=fun he=>hb fun i hi=>by
 have hk:=pceK (o:=o) (p:=trP b p) ⟨h.sm.bars,by rw [trP_notes];exact h.sm.notes,h.sm.sets,h.sm.reg⟩ he
 have:=(hk.note i (by rw [trP_notes];exact hi)).k
 rw [trP_at b p hi] at this
 exact this
theorem trP_back (b:Int) (p:Pce):trP (-b) (trP b p)=p:=by
 have:trK (-b) (trP b p).notes (trP b p).notes.length=p.notes:=list_gi (by rw [trK_len,trP_notes]) fun i hi=>by
  rw [trK_len,trP_notes] at hi
  rw [trK_all _ _ (by rw [trP_notes];exact hi),trP_at b p hi]
  unfold mvN
  have e:(gi p.notes i).k+b+-b=(gi p.notes i).k:=by omega
  simp only [e]
 unfold trP at this ⊢
 simp only at this ⊢
 rw [this]
theorem trP_backOk {o:Org} {p:Pce} (h:PceK o p) (b:Int):trOk o (trP b p) (-b):=fun i hi=>by
 rw [trP_notes] at hi
 unfold trIn
 rw [trP_at b p hi]
 have:=(h.note i hi).k
 unfold mvN
 simp only
 rw [show (gi p.notes i).k+b+-b=(gi p.notes i).k by omega]
 exact this
end Go.Proofs.YtnhdddmhkhdlhaaGreatDoor
namespace Go.Proofs.YtnhdddmhkhdlhaaGreatDoor
open Go Go.Am Go.Vm Go.Pie
attribute [local irreducible] VVal VOps VOpsD VWp VCalls VFun VFunV QSeq QBlk QLoop Vm.Done DoneV DoneI
attribute [local irreducible] rchk windsE stoE dvsE cplE shiftR tailH
theorem pieceTransposes_spec (x:PPl) (hx:x.Ok) (b:Int) (hbi:-9223372036854775808≤b∧b≤9223372036854775807):VFun env 7 [.agg x.enc,.int .i64 b] (.p (.bool true)):=by
 have hkn:=known_spec
 have hfit:=pfits_spec x hx
 by_cases hf:pfits x
 case neg =>
  rw [decide_eq_false hf] at hfit
  refine VFun.enter (env_none (by decide)) Tryz.func7 rfl (by kernel_rfl) (by simp [Tryz.ntmps7]) ?_
  repeat' (first|apply VWp.assoc|apply VWp.rseq|apply VWp.retSeq|apply VOps.nil|apply VOps.one|(apply VOps.take;rfl;rfl)|(apply VVal.fn;rfl;rfl;exact hkn;intro _;rfl)|(apply VVal.fn;rfl;rfl;exact hfit;intro _;rfl)|(apply VVal.assign;rfl)|(apply VVal.move;rfl)|(apply VVal.load;rfl;rfl)|(apply VVal.pick_false;rfl;rfl)|(apply VVal.box;rfl;trivial)|(apply VVal.not;rfl)|(apply VWp.condSeq_true;rfl))
  all_goals first|(exfalso;omega)|contradiction|(refine Done.ret rfl (.refl _) (by exact PV.under_of rfl) HCov.nil (Nat.zero_le _) (Nat.le_refl _) ⟨?_,rfl,rfl⟩;try rfl)
 rw [decide_eq_true hf] at hfit
 have hm:=make45_spec x hx hf
 have oT:=mkO_t x.org hx.org hf.1
 have oK:=oT.k
 have oS:=oT.sm
 have h:=mkP_k x hx hf
 have hE:=mkP_err x hx hf
 have nL:(mkP x).notes.length≤8:=Nat.le_trans (ntsK_len _ _ _ _) hf.2.2.1
 generalize mkO x.org=o at *
 generalize mkP x=p at *
 have hz:=lequalZ
 unfold pceZ at hz
 by_cases hr:b< -127∨b>127
 ·have ht:=TransposeR_spec oS hE h.sm b hr
  unfold pceZ at ht
  by_cases r1:b< -127
  all_goals
   refine VFun.enter (env_none (by decide)) Tryz.func7 rfl (by kernel_rfl) (by simp [Tryz.ntmps7]) ?_
  all_goals
   repeat' (first|apply VWp.assoc|apply VWp.rseq|apply VWp.skipSeq|apply VWp.retSeq|apply VOps.nil|apply VOps.one|(apply VOps.take;rfl;rfl)|(apply VOps.drop;rfl;rfl;rfl)|(apply VOps.guard;rfl;rfl)|(apply VVal.fn;rfl;rfl;exact hkn;intro _;rfl)|(apply VVal.fn;rfl;rfl;exact hfit;intro _;rfl)|(apply VVal.fn;rfl;rfl;exact hm;intro _;rfl)|(apply VVal.fn;rfl;rfl;exact ht;intro _;rfl)|(apply VVal.fn;rfl;rfl;exact hz;intro _;rfl)|(apply VVal.assign;rfl)|(apply VVal.move;rfl)|(apply VVal.int;rfl;rfl;rfl)|(apply VVal.load;rfl;rfl)|(apply VVal.pick_true;rfl;rfl)|(apply VVal.pick_false;rfl;rfl)|(apply VVal.box;rfl;trivial)|(apply VVal.alloc;rfl)|(apply VVal.storeB;rfl;rfl;rfl;trivial;rfl;rfl;exact lt_dec rfl;exact le_dec rfl)|(apply VVal.build;rfl;rfl;rfl;rfl;rfl)|(apply VVal.not;rfl)|(apply VVal.extract;rfl;rfl)|(apply VWp.condSeq_true;rfl)|(apply VWp.condSeq_false;rfl)|(apply VWp.condSeq_dec;rfl)|(intro _;try (exfalso;omega)))
  all_goals first|(exfalso;omega)|contradiction|(refine Done.ret rfl (.refl _) (by exact PV.under_of rfl) HCov.nil (Nat.zero_le _) (Nat.le_refl _) ⟨?_,rfl,rfl⟩;try rfl)
 have hb:-127≤b∧b≤127:=by omega
 have ht:=TransposeK_spec oK hE h b hb
 have hTe:Enc.enc (trP b p)=[.lst 3 (cells p.bars) p.bars.length,.lst 66 (cells (trK b p.notes p.notes.length)) p.notes.length,.lst 74 (cells p.sets) p.sets.length]:=by
  show [FV.lst 3 (cells p.bars) p.bars.length,FV.lst 66 (cells (trK b p.notes p.notes.length)) (trK b p.notes p.notes.length).length,_]=_
  rw [trK_len]
  rfl
 have n1:=h.notes
 have n2:=h.bars
 have n3:=h.sets
 have smT:PceSm (trP b p):=⟨h.sm.bars,by rw [trP_notes];exact h.sm.notes,h.sm.sets,h.sm.reg⟩
 have hck:=lcheck_spec (p:=trP b p) oK smT
 by_cases hz0:p.notes.length=0
 ·have hn:p.notes=[]:=List.length_eq_zero_iff.1 hz0
  have hok:trOk o p b:=fun i hi=>by omega
  rw [if_pos hok] at ht
  have hkT:=trP_k h hok
  rw [hkT.err] at hck
  have hET:pceE o (trP b p)=0:=by unfold pceE;rw [if_neg (fun h=>h oT.ok)];exact hkT.err
  have hbk:=TransposeK_spec oK hET hkT (-b) (by omega)
  rw [if_pos (trP_backOk h b),trP_back] at hbk
  have he1:=lequal_spec (trP b p) (trP b p) smT smT
  have he2:=lequal_spec p p h.sm h.sm
  rw [decide_eq_true rfl] at he1 he2
  have hT0:Enc.enc (trP b p)=[.lst 3 (cells p.bars) p.bars.length,.lst 66 (cells ([]:List Nte)) 0,.lst 74 (cells p.sets) p.sets.length]:=by
   rw [hTe,hn]
   rfl
  rw [hT0] at ht hck hbk he1
  have hcn:VFun env 28 [.lst 66 (cells p.notes) p.notes.length] (.p (.lst 66 (cells ([]:List Nte)) 0)):=by rw [hn];exact cloneNte0_spec
  refine VFun.enter (env_none (by decide)) Tryz.func7 rfl (by kernel_rfl) (by simp [Tryz.ntmps7]) ?_
  repeat' (first|apply VWp.assoc|apply VWp.rseq|apply VWp.skipSeq|apply VWp.blockSeq|apply VOps.nil|apply VOps.one|(apply VOps.take;rfl;rfl)|(apply VOps.guard;rfl;rfl)|(apply VVal.fn;rfl;rfl;exact hkn;intro _;rfl)|(apply VVal.fn;rfl;rfl;exact hfit;intro _;rfl)|(apply VVal.fn;rfl;rfl;exact hm;intro _;rfl)|(apply VVal.fn;rfl;rfl;exact ht;intro _;rfl)|(apply VVal.fn;rfl;rfl;exact hcn;intro _;rfl)|(apply VVal.assign;rfl)|(apply VVal.move;rfl)|(apply VVal.int;rfl;rfl;rfl)|(apply VVal.load;rfl;rfl)|(apply VVal.pick_false;rfl;rfl)|(apply VVal.lenF;rfl;rfl)|(apply VVal.fieldB;rfl;rfl;rfl)|(apply VVal.box;rfl;trivial)|(apply VVal.alloc;rfl)|(apply VVal.storeB;rfl;rfl;rfl;trivial;rfl;rfl;exact lt_dec rfl;exact le_dec rfl)|(apply VVal.not;rfl)|(apply VVal.extract;rfl;rfl)|(apply VWp.condSeq_false;rfl)|(apply VWp.condSeq_dec;rfl)|(intro _;try (exfalso;omega)))
  all_goals try (exfalso;omega)
  all_goals try contradiction
  apply VWp.loopR (p.notes.length) [(1,_),(5,_),(6,_),(7,_),(8,_),(9,_),(53,_)] [(1,_),(2,_),(3,_),(4,_)] (fun k r=>(54,.p (.int .i64 (k:Int)))::r) (fun k r=>r) 5
  ·first|omega|decide
  ·first|omega|decide
  ·repeat (first|exact LCov.nil|(refine LCov.eq rfl ?_ ?_;(first|exact PV.under_of rfl|(simp [PV.under,PVs.under];done)))|refine LCov.cons trivial rfl (.of_eq (lst_len (by simp<;>omega))) ?_)
  ·repeat (first|exact HCov.nil|(refine HCov.eq rfl (lt_dec rfl) ?_ ?_;(first|exact HB.under_of rfl|exact PVs.under_pure _ _|(simp [HB.under,PVs.under,PV.under];done)))|(refine HCov.cons (lt_dec rfl) ?_ rfl ?_ ?_;(first|exact trivial|exact PVs.under_pure _ _|(simp [HB.under,PVs.under,PV.under]));(first|exact HLe.refl _|exact HLe.vec (FLes.refl _) (by simp))))
  ·intro k hk
   omega
  ·repeat' (first|apply VWp.assoc|apply VWp.rseq|apply VWp.skipSeq|apply VWp.exitSeq|apply QSeq.normal|apply QBlk.exit|apply QLoop.exit|apply VWp.ret|apply VOps.nil|apply VOps.one|(apply VOps.take;rfl;rfl)|(apply VVal.fn;rfl;rfl;exact hck;intro _;rfl)|(apply VVal.fn;rfl;rfl;exact hbk;intro _;rfl)|(apply VVal.fn;rfl;rfl;exact he1;intro _;rfl)|(apply VVal.fn;rfl;rfl;exact he2;intro _;rfl)|(apply VVal.assign;rfl)|(apply VVal.move;rfl)|(apply VVal.int;rfl;rfl;rfl)|(apply VVal.load;rfl;rfl)|(apply VVal.pick_true;rfl;rfl)|(apply VVal.alloc;rfl)|(apply VVal.storeB;rfl;rfl;rfl;trivial;rfl;rfl;exact lt_dec rfl;exact le_dec rfl)|(apply VVal.neg;rfl;omega)|(apply VVal.extract;rfl;rfl)|(apply VWp.condSeq_false;rfl))
   all_goals first|(exfalso;omega)|contradiction|(refine Done.ret rfl (.refl _) (by exact PV.under_of rfl) HCov.nil (Nat.zero_le _) (Nat.le_refl _) ⟨?_,rfl,rfl⟩;try rfl)
 have hcn:=cloneNte_spec p.notes (by omega) (by omega)
 by_cases hok:trOk o p b
 ·rw [if_pos hok] at ht
  have hkT:=trP_k h hok
  rw [hkT.err] at hck
  have hET:pceE o (trP b p)=0:=by unfold pceE;rw [if_neg (fun h=>h oT.ok)];exact hkT.err
  have hbk:=TransposeK_spec oK hET hkT (-b) (by omega)
  rw [if_pos (trP_backOk h b),trP_back] at hbk
  have he1:=lequal_spec (trP b p) (trP b p) smT smT
  have he2:=lequal_spec p p h.sm h.sm
  rw [decide_eq_true rfl] at he1 he2
  rw [hTe] at ht hck hbk he1
  refine VFun.enter (env_none (by decide)) Tryz.func7 rfl (by kernel_rfl) (by simp [Tryz.ntmps7]) ?_
  repeat' (first|apply VWp.assoc|apply VWp.rseq|apply VWp.skipSeq|apply VWp.blockSeq|apply VOps.nil|apply VOps.one|(apply VOps.take;rfl;rfl)|(apply VOps.guard;rfl;rfl)|(apply VVal.fn;rfl;rfl;exact hkn;intro _;rfl)|(apply VVal.fn;rfl;rfl;exact hfit;intro _;rfl)|(apply VVal.fn;rfl;rfl;exact hm;intro _;rfl)|(apply VVal.fn;rfl;rfl;exact ht;intro _;rfl)|(apply VVal.fv;rfl;rfl;exact hcn)|(apply VVal.assign;rfl)|(apply VVal.move;rfl)|(apply VVal.int;rfl;rfl;rfl)|(apply VVal.load;rfl;rfl)|(apply VVal.pick_false;rfl;rfl)|(apply VVal.lenV;rfl;rfl;rfl)|(apply VVal.fieldB;rfl;rfl;rfl)|(apply VVal.box;rfl;trivial)|(apply VVal.alloc;rfl)|(apply VVal.storeB;rfl;rfl;rfl;trivial;rfl;rfl;exact lt_dec rfl;exact le_dec rfl)|(apply VVal.not;rfl)|(apply VVal.extract;rfl;rfl)|(apply VWp.condSeq_false;rfl)|(apply VWp.condSeq_dec;rfl)|(intro _;try (exfalso;omega)))
  all_goals try (exfalso;omega)
  all_goals try contradiction
  rw [show cells p.notes=cells (trK b p.notes 0) from by rw [trK_zero]]
  apply VWp.loopR (p.notes.length) [(1,_),(5,_),(6,_),(7,_),(8,_),(9,_),(53,_)] [(1,_),(2,_),(3,_),(4,_)] (fun k r=>(54,.p (.int .i64 (k:Int)))::r) (fun k r=>(5,.vec 66 (cells (trK b p.notes k)) p.notes.length false)::r) 6
  ·first|omega|decide
  ·first|omega|decide
  ·repeat (first|exact LCov.nil|(refine LCov.eq rfl ?_ ?_;(first|exact PV.under_of rfl|(simp [PV.under,PVs.under];done)))|refine LCov.cons trivial rfl (.of_eq (lst_len (by simp<;>omega))) ?_)
  ·repeat (first|exact HCov.nil|(refine HCov.eq rfl (lt_dec rfl) ?_ ?_;(first|exact HB.under_of rfl|exact PVs.under_pure _ _|(simp [HB.under,PVs.under,PV.under];done)))|(refine HCov.cons (lt_dec rfl) ?_ rfl ?_ ?_;(first|exact trivial|exact PVs.under_pure _ _|(simp [HB.under,PVs.under,PV.under]));(first|exact HLe.refl _|exact HLe.vec (FLes.refl _) (by simp))))
  ·intro k hk
   have hN:=h.note k hk
   have hc:=oK.cmp (i:=(gi p.notes k).d.toNat) (by have:=hN.d;omega)
   have hk2:=hN.k
   have w0:=trK_at b p.notes hk
   have w1:=trK_set b p.notes hk
   have wl:=trK_len b p.notes k
   generalize trK b p.notes k=W at *
   have v1:(gi W k).k=(gi p.notes k).k:=by rw [w0]
   have w2:mvN b (gi p.notes k)=⟨(gi W k).s,(gi W k).e,(gi W k).d,(gi W k).k+b⟩:=by rw [w0];rfl
   rw [w2] at w1
   repeat' (first|apply VWp.rseq|apply VWp.region|apply VWp.skipSeq|apply VWp.blockSeq|apply QSeq.normal|apply QBlk.normal|apply VOps.nil|apply VOps.one|(apply VVal.indexVN (l:=W) (i:=k);rfl;rfl;rfl;rfl;omega)|(apply VVal.fieldV;rfl;rfl;rfl)|(apply VVal.loadVF (α:=Nte) (l:=W) (i:=k) (f:=3);rfl;rfl;omega;decide;rfl)|(apply VVal.storeVF (α:=Nte) (l:=W) (i:=k) (f:=3) (y:=⟨(gi W k).s,(gi W k).e,(gi W k).d,(gi W k).k+b⟩) (fs:=[.int .i64 ((gi W k).k+b)]);rfl;rfl;rfl;trivial;rfl;rfl;rfl;decide;omega;decide;exact .refl _)|(apply VVal.assign;rfl)|(apply VVal.move;rfl)|(apply VVal.add64;rfl;rfl;omega)|(apply VVal.int;rfl;rfl;rfl)|(apply VVal.load;rfl;rfl)|(apply VVal.fieldB;rfl;rfl;rfl)|(apply VWp.condSeq_dec;rfl)|(intro _;try (exfalso;omega)))
   all_goals try (exfalso;omega)
   refine QLoop.normal ⟨by first|omega|decide,?_,?_⟩
   ·try (rw [← w1])
    repeat (first|exact LCov.nil|refine LCov.same (by exact PV.under_of rfl) rfl ?_|refine LCov.cons trivial rfl (.of_eq (lst_len (by simp<;>omega))) ?_)
   ·rw [← w1]
    repeat (first|exact HCov.nil|(refine HCov.cons (lt_dec rfl) ?_ rfl ?_ ?_;(first|exact HB.under_of rfl|exact PVs.under_pure _ _|(simp [HB.under,PVs.under,PV.under]));(first|exact HLe.refl _|exact HLe.vec (FLes.refl _) (by simp))))
  ·repeat' (first|(refine VWp.at 14 ?_;refine VWp.ghost (Ghost.freezeCell 4 1 rfl rfl rfl) ?_;first|apply VWp.rseq|apply VWp.rseqD)|apply VWp.assoc|apply VWp.rseq|apply VWp.skipSeq|apply VWp.exitSeq|apply QSeq.normal|apply QBlk.exit|apply QLoop.exit|apply VWp.ret|apply VOps.nil|apply VOps.one|(apply VOps.take;rfl;rfl)|(apply VVal.fn;rfl;rfl;exact hck;intro _;rfl)|(apply VVal.fn;rfl;rfl;exact hbk;intro _;rfl)|(apply VVal.fn;rfl;rfl;exact he1;intro _;rfl)|(apply VVal.fn;rfl;rfl;exact he2;intro _;rfl)|(apply VVal.assign;rfl)|(apply VVal.move;rfl)|(apply VVal.int;rfl;rfl;rfl)|(apply VVal.load;rfl;rfl)|(apply VVal.pick_true;rfl;rfl)|(apply VVal.alloc;rfl)|(apply VVal.storeB;rfl;rfl;rfl;trivial;rfl;rfl;exact lt_dec rfl;exact le_dec rfl)|(apply VVal.neg;rfl;omega)|(apply VVal.extract;rfl;rfl)|(apply VWp.condSeq_false;rfl)|(apply VWp.condSeq_dec;rfl)|(intro _;try (exfalso;omega)))
   all_goals first|(exfalso;omega)|contradiction|(refine Done.ret rfl (.refl _) (by exact PV.under_of rfl) HCov.nil (Nat.zero_le _) (Nat.le_refl _) ⟨?_,rfl,rfl⟩;try rfl)
 ·rw [if_neg hok] at ht
  unfold pceZ at ht
  have hbad:=trP_bad h hok
  generalize restE o (trP b p)=E at *
  rw [hTe] at hck
  refine VFun.enter (env_none (by decide)) Tryz.func7 rfl (by kernel_rfl) (by simp [Tryz.ntmps7]) ?_
  repeat' (first|apply VWp.assoc|apply VWp.rseq|apply VWp.skipSeq|apply VWp.blockSeq|apply VOps.nil|apply VOps.one|(apply VOps.take;rfl;rfl)|(apply VOps.guard;rfl;rfl)|(apply VVal.fn;rfl;rfl;exact hkn;intro _;rfl)|(apply VVal.fn;rfl;rfl;exact hfit;intro _;rfl)|(apply VVal.fn;rfl;rfl;exact hm;intro _;rfl)|(apply VVal.fn;rfl;rfl;exact ht;intro _;rfl)|(apply VVal.fv;rfl;rfl;exact hcn)|(apply VVal.assign;rfl)|(apply VVal.move;rfl)|(apply VVal.int;rfl;rfl;rfl)|(apply VVal.load;rfl;rfl)|(apply VVal.pick_false;rfl;rfl)|(apply VVal.lenV;rfl;rfl;rfl)|(apply VVal.fieldB;rfl;rfl;rfl)|(apply VVal.box;rfl;trivial)|(apply VVal.alloc;rfl)|(apply VVal.storeB;rfl;rfl;rfl;trivial;rfl;rfl;exact lt_dec rfl;exact le_dec rfl)|(apply VVal.not;rfl)|(apply VVal.extract;rfl;rfl)|(apply VWp.condSeq_false;rfl)|(apply VWp.condSeq_dec;rfl)|(intro _;try (exfalso;omega)))
  all_goals try (exfalso;omega)
  all_goals try contradiction
  rw [show cells p.notes=cells (trK b p.notes 0) from by rw [trK_zero]]
  apply VWp.loopR (p.notes.length) [(1,_),(5,_),(6,_),(7,_),(8,_),(9,_),(53,_)] [(1,_),(2,_),(3,_),(4,_)] (fun k r=>(54,.p (.int .i64 (k:Int)))::r) (fun k r=>(5,.vec 66 (cells (trK b p.notes k)) p.notes.length false)::r) 6
  ·first|omega|decide
  ·first|omega|decide
  ·repeat (first|exact LCov.nil|(refine LCov.eq rfl ?_ ?_;(first|exact PV.under_of rfl|(simp [PV.under,PVs.under];done)))|refine LCov.cons trivial rfl (.of_eq (lst_len (by simp<;>omega))) ?_)
  ·repeat (first|exact HCov.nil|(refine HCov.eq rfl (lt_dec rfl) ?_ ?_;(first|exact HB.under_of rfl|exact PVs.under_pure _ _|(simp [HB.under,PVs.under,PV.under];done)))|(refine HCov.cons (lt_dec rfl) ?_ rfl ?_ ?_;(first|exact trivial|exact PVs.under_pure _ _|(simp [HB.under,PVs.under,PV.under]));(first|exact HLe.refl _|exact HLe.vec (FLes.refl _) (by simp))))
  ·intro k hk
   have hN:=h.note k hk
   have hc:=oK.cmp (i:=(gi p.notes k).d.toNat) (by have:=hN.d;omega)
   have hk2:=hN.k
   have w0:=trK_at b p.notes hk
   have w1:=trK_set b p.notes hk
   have wl:=trK_len b p.notes k
   generalize trK b p.notes k=W at *
   have v1:(gi W k).k=(gi p.notes k).k:=by rw [w0]
   have w2:mvN b (gi p.notes k)=⟨(gi W k).s,(gi W k).e,(gi W k).d,(gi W k).k+b⟩:=by rw [w0];rfl
   rw [w2] at w1
   repeat' (first|apply VWp.rseq|apply VWp.region|apply VWp.skipSeq|apply VWp.blockSeq|apply QSeq.normal|apply QBlk.normal|apply VOps.nil|apply VOps.one|(apply VVal.indexVN (l:=W) (i:=k);rfl;rfl;rfl;rfl;omega)|(apply VVal.fieldV;rfl;rfl;rfl)|(apply VVal.loadVF (α:=Nte) (l:=W) (i:=k) (f:=3);rfl;rfl;omega;decide;rfl)|(apply VVal.storeVF (α:=Nte) (l:=W) (i:=k) (f:=3) (y:=⟨(gi W k).s,(gi W k).e,(gi W k).d,(gi W k).k+b⟩) (fs:=[.int .i64 ((gi W k).k+b)]);rfl;rfl;rfl;trivial;rfl;rfl;rfl;decide;omega;decide;exact .refl _)|(apply VVal.assign;rfl)|(apply VVal.move;rfl)|(apply VVal.add64;rfl;rfl;omega)|(apply VVal.int;rfl;rfl;rfl)|(apply VVal.load;rfl;rfl)|(apply VVal.fieldB;rfl;rfl;rfl)|(apply VWp.condSeq_dec;rfl)|(intro _;try (exfalso;omega)))
   all_goals try (exfalso;omega)
   refine QLoop.normal ⟨by first|omega|decide,?_,?_⟩
   ·try (rw [← w1])
    repeat (first|exact LCov.nil|refine LCov.same (by exact PV.under_of rfl) rfl ?_|refine LCov.cons trivial rfl (.of_eq (lst_len (by simp<;>omega))) ?_)
   ·rw [← w1]
    repeat (first|exact HCov.nil|(refine HCov.cons (lt_dec rfl) ?_ rfl ?_ ?_;(first|exact HB.under_of rfl|exact PVs.under_pure _ _|(simp [HB.under,PVs.under,PV.under]));(first|exact HLe.refl _|exact HLe.vec (FLes.refl _) (by simp))))
  ·repeat' (first|(refine VWp.at 14 ?_;refine VWp.ghost (Ghost.freezeCell 4 1 rfl rfl rfl) ?_;first|apply VWp.rseq|apply VWp.rseqD)|apply VWp.assoc|apply VWp.rseq|apply VWp.retSeq|apply VWp.exitSeq|apply QSeq.normal|apply QBlk.exit|apply QLoop.exit|apply VOps.nil|apply VOps.one|(apply VOps.take;rfl;rfl)|(apply VVal.fn;rfl;rfl;exact hck;intro _;rfl)|(apply VVal.fn;rfl;rfl;exact hz;intro _;rfl)|(apply VVal.assign;rfl)|(apply VVal.move;rfl)|(apply VVal.int;rfl;rfl;rfl)|(apply VVal.load;rfl;rfl)|(apply VVal.pick_true;rfl;rfl)|(apply VVal.build;rfl;rfl;rfl;rfl;rfl)|(apply VWp.condSeq_dec;rfl)|(intro _;try (exfalso;omega)))
   all_goals first|(exfalso;omega)|contradiction|(refine Done.ret rfl (.refl _) (by exact PV.under_of rfl) HCov.nil (Nat.zero_le _) (Nat.le_refl _) ⟨?_,rfl,rfl⟩;try rfl)
end Go.Proofs.YtnhdddmhkhdlhaaGreatDoor
