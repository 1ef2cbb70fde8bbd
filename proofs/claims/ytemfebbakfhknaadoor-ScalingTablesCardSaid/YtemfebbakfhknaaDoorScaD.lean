/-
  The layer of scaling: what Halvings computes; the chapter's examples. Conditions: in each statement.
-/
import Derived.Test.YtemfebbakfhknaaDoorScaC
set_option linter.unusedSimpArgs false
set_option linter.unusedVariables false
namespace Go.Proofs.YtemfebbakfhknaaDoor
open Go Go.Am Go.Vm Go.Sca
attribute [local irreducible] VVal VOps VOpsD VWp VCalls VFun VFunV QSeq QBlk QLoop Vm.Done DoneV DoneI
def hvl (b n want:Int):Nat→List Int
 |0=>[]
 |k+1=>if mea ⟨b,(k:Int)+1,0⟩ n≤10000000∧mea ⟨b,(k:Int)+1,0⟩ n=want then hvl b n want k++[(k:Int)+1] else hvl b n want k
theorem hvl_len (b n want:Int):∀ k,(hvl b n want k).length≤k
 |0=>by simp [hvl]
 |k+1=>by
  have:=hvl_len b n want k
  simp only [hvl]
  split
  ·simp;omega
  ·omega
theorem hvl_zero (b n want:Int):hvl b n want 0=[]:=rfl
theorem hvl_succ (b n want:Int) (k:Nat):hvl b n want (k+1)=if mea ⟨b,(k:Int)+1,0⟩ n≤10000000∧mea ⟨b,(k:Int)+1,0⟩ n=want then hvl b n want k++[(k:Int)+1] else hvl b n want k:=rfl
theorem me_known1:me 1550 1 16 12=922:=rnd_eq (by decide) (.inr (by decide +kernel)) (.inr (by decide +kernel))
theorem me_known2:me 1550 1 16 (-16)=3100:=rnd_eq (by decide) (.inr (by decide +kernel)) (.inr (by decide +kernel))
theorem me_known3:me 2400 1 12 7=1602:=rnd_eq (by decide) (.inr (by decide +kernel)) (.inr (by decide +kernel))
theorem me_known4 (k:Nat) (hk:k<24):me 2 1 (k+1) 1=if k<2 then 1 else 2:=by
 have key:∀ k,k<24→¬ gt (sl 1 (k+1) 1) (sr 2 (k+1) 1) (k+1) ((if k<2 then 1 else 2)-1)∧gt (sl 1 (k+1) 1) (sr 2 (k+1) 1) (k+1) (if k<2 then 1 else 2):=by decide +kernel
 exact rnd_eq (by split<;>omega) (.inr (key k hk).1) (.inr (key k hk).2)
attribute [local irreducible] hvl mea me rnd rk lo fstN
set_option maxRecDepth 100000 in
set_option maxHeartbeats 1000000 in
theorem halv_spec (b n want:Int) (hb:1≤b∧b≤1000000) (hn:wOk n):VFun env 18 [.int .i64 b,.int .i64 n,.int .i64 want] (.tup [lst 3 (hvl b n want 24),.p (.int .i64 0)]):=by
 have hw:=swithin_spec n
 rw [show win n=0 from if_pos hn] at hw
 refine VFun.enter (env_none (by decide)) Tryd.func18 rfl (by kernel_rfl) (by simp [Tryd.ntmps18]) ?_
 repeat' (first
  |apply VWp.assoc
  |apply VWp.rseq
  |apply VWp.rseqD
  |apply VWp.region
  |apply VWp.regionD
  |apply VWp.skipSeq
  |apply VWp.retSeq
  |apply VWp.exitSeq
  |apply VWp.blockSeq
  |apply QSeq.normal
  |apply QSeq.ret
  |apply QSeq.exit
  |(apply DoneI.ret;rfl)
  |(apply DoneI.normal;rfl)
  |apply QBlk.normal
  |apply QBlk.ret
  |apply QBlk.exit
  |(apply QBlk.out;decide)
  |apply QLoop.ret
  |apply QLoop.exit
  |apply VWp.ret
  |apply VWp.skip
  |apply VWp.exit
  |apply VWp.blockQ
  |apply VOps.nil
  |apply VOpsD.nil
  |apply VOps.one
  |(apply VOpsD.bar;decide +kernel)
  |apply VOpsD.quiet
  |(apply VOps.take;rfl;rfl)
  |(apply VOpsD.quietTake;rfl;rfl)
  |(apply VOps.drop;rfl;rfl;rfl)
  |(apply VOpsD.drop;rfl;rfl;rfl)
  |(apply VOps.guard;rfl;rfl)
  |(apply VOpsD.guard;rfl;rfl)
  |(apply VOps.dropU;rfl;rfl)
  |(apply VOpsD.dropU;rfl;rfl)
  |(apply VOps.guardB;rfl;rfl)
  |(apply VOpsD.guardB;rfl;rfl)
  |(apply VVal.fn;rfl;rfl;exact hw;intro _;rfl)
  |(apply VVal.assign;rfl)
  |(apply VVal.move;rfl)
  |(apply VVal.add64;rfl;rfl;omega)
  |(apply VVal.sub64;rfl;rfl;omega)
  |(apply VVal.mul64;rfl;rfl;omega)
  |(apply VVal.subBN (c:=48);rfl;rfl;omega)
  |(apply VVal.subB;rfl;rfl;omega)
  |(apply VVal.addB;rfl;rfl;omega)
  |(apply VVal.addUN;rfl;rfl;omega)
  |(apply VVal.mulUN;rfl;rfl;omega)
  |(apply VVal.subUN;rfl;rfl;omega)
  |(apply VVal.quoUN;rfl;rfl;omega)
  |(apply VVal.remUN;rfl;rfl;omega)
  |(apply VVal.quoUT;rfl;rfl;omega)
  |(apply VVal.remUT;rfl;rfl;omega)
  |(apply VVal.mulUN (a:=10);rfl;rfl;omega)
  |(apply VVal.and1;rfl;rfl;omega)
  |(apply VVal.and1U;rfl;rfl;omega)
  |(apply VVal.and1B;rfl;rfl;omega)
  |(apply VVal.andI;rfl;rfl;omega)
  |(apply VVal.andU;rfl;rfl;omega;omega)
  |(apply VVal.orU;rfl;rfl;omega;omega)
  |(apply VVal.andNotU;rfl;rfl;omega;omega)
  |(apply VVal.remI;rfl;rfl;omega;omega)
  |(apply VVal.quoI;rfl;rfl;omega;omega)
  |(apply VVal.int;rfl;rfl;rfl)
  |(apply VVal.indexN;rfl;rfl;rfl;omega;rfl)
  |(apply VVal.indexP;rfl;rfl;rfl;omega;omega;rfl)
  |(apply VVal.indexE;rfl;rfl;rfl;omega;omega;rfl)
  |(apply VVal.loadVL;rfl;rfl;omega;rfl)
  |(apply VVal.load;rfl;rfl)
  |(apply VVal.pick_true;rfl;rfl)
  |(apply VVal.pick_false;rfl;rfl)
  |(apply VVal.lenF;rfl;rfl)
  |(apply VVal.lenNil;rfl;rfl)
  |(apply VVal.lenV;rfl;rfl;rfl)
  |(apply VVal.fieldB;rfl;rfl;rfl)
  |(apply VVal.fieldF;rfl;rfl)
  |(apply VVal.box;rfl;trivial)
  |(apply VVal.alloc;rfl)
  |(apply VVal.storeB;rfl;rfl;rfl;trivial;rfl;rfl;exact lt_dec rfl;exact le_dec rfl)
  |(apply VVal.build;rfl;rfl;rfl;rfl;rfl)
  |(apply VVal.buildSlice;rfl;rfl;rfl;decide;rfl;rfl;rfl)
  |(apply VVal.lenSt;rfl;rfl)
  |(apply VVal.eqS;rfl;rfl)
  |(apply VVal.neS;rfl;rfl)
  |(apply VVal.indexStN;rfl;rfl;rfl;omega)
  |(apply VVal.indexSt;rfl;rfl;rfl;omega;omega)
  |(apply VVal.sliceSI;rfl;rfl;rfl;rfl;omega)
  |(apply VVal.sliceSto;rfl;rfl;rfl;omega)
  |(apply VVal.sliceSfrom;rfl;rfl;rfl;omega)
  |(apply VVal.convS;rfl;rfl;rfl)
  |(apply VVal.toBytes;rfl;rfl;rfl;rfl;rfl;rfl;omega)
  |(apply VVal.addS;rfl;rfl;(first|omega|(simp only [List.length_take,List.length_drop,List.length_append,List.length_singleton,List.length_cons,List.length_nil]<;>omega)))
  |(apply VVal.indexVN;rfl;rfl;rfl;rfl;omega)
  |(apply VVal.indexVE;rfl;rfl;rfl;rfl;omega;omega)
  |(apply VVal.neg;rfl;omega)
  |(apply VVal.neB;rfl;rfl;rfl)
  |(apply VVal.eqB;rfl;rfl;rfl)
  |(apply VVal.maxI;rfl;rfl)
  |(apply VVal.minI;rfl;rfl)
  |(apply VVal.not;rfl)
  |(apply VVal.extract;rfl;rfl)
  |(apply VVal.convI;rfl;rfl;rfl;rfl;omega)
  |(apply VVal.convU;rfl;rfl;rfl;rfl;omega)
  |(apply VVal.convB;rfl;rfl;rfl;rfl;omega)
  |(apply VVal.convInt;rfl;rfl;rfl;rfl)
  |(apply VVal.append1;rfl;rfl;rfl;rfl;rfl;rfl;rfl;rfl;(intro _ h;cases h);rfl;rfl;rfl;decide;decide;(first|omega|(simp only [List.length_take,List.length_drop,List.length_append,List.length_singleton,List.length_cons,List.length_nil]<;>omega)))
  |(apply VVal.appendL0;rfl;rfl;rfl;(first|rfl|omega|(simp only [List.length_take,List.length_drop,List.length_append,List.length_singleton,List.length_cons,List.length_nil]<;>omega));rfl;rfl;(intro _ h;cases h);rfl;rfl;rfl;decide;decide;(first|omega|(simp only [List.length_take,List.length_drop,List.length_append,List.length_singleton,List.length_cons,List.length_nil]<;>omega)))
  |(apply VVal.appendL;rfl;rfl;rfl;(first|rfl|omega|(simp only [List.length_take,List.length_drop,List.length_append,List.length_singleton,List.length_cons,List.length_nil]));(first|rfl|omega|(simp only [List.length_take,List.length_drop,List.length_append,List.length_singleton,List.length_cons,List.length_nil]<;>omega));rfl;rfl;(intro _ h;cases h);rfl;rfl;rfl;decide;decide;(first|omega|(simp only [List.length_take,List.length_drop,List.length_append,List.length_singleton,List.length_cons,List.length_nil]<;>omega)))
  |(apply VVal.shlOne;rfl;rfl;omega)
  |(apply VVal.shlOneU;rfl;rfl;omega)
  |(apply VVal.shrN;rfl;rfl;(simp only [IntKind.bits];omega))
  |(apply VVal.sliceTo;rfl;rfl;rfl;rfl;rfl;rfl;omega)
  |(apply VVal.sliceFrom;rfl;rfl;rfl;rfl;rfl;rfl;omega)
  |(apply VVal.sliceToI;rfl;rfl;rfl;rfl;rfl;rfl;omega)
  |(apply VVal.shr;rfl;rfl;omega)
  |(apply VVal.shl;rfl;rfl;omega)
  |(apply VWp.condSeq_true;rfl)
  |(apply VWp.condSeq_false;rfl)
  |(apply VWp.condSeq_dec;rfl)
  |(apply VWp.condSeq;rfl)
  |(apply VWp.cond_true;rfl)
  |(apply VWp.cond_false;rfl)
  |(apply VWp.cond_dec;rfl)
  |(apply VWp.cond;rfl)
  |(intro _;try (exfalso;omega)))
 all_goals try (exfalso;omega)
 refine VWp.ghost (Ghost.adopt 8 3 rfl) ?_
 refine VWp.loopQ (fun k:Nat=>[(0,.p (.int .i64 b)),(1,.p (.int .i64 n)),(2,.p (.int .i64 want)),(8,.vec 0 (hvl b n want k).length 0 (hvl b n want k).length),(9,.p (.int .i64 ((k:Int)+1)))]) (fun k=>[(0,.vec 3 (cells (hvl b n want k)) (hvl b n want k).length true)]) 1 (fun k=>k≤24) (fun k=>24-k) 0 (by omega) (by omega) ⟨Nat.le_refl _,?_,?_⟩ ?_
 ·rw [hvl_zero];repeat (first|exact LCov.nil|refine LCov.same trivial rfl ?_|refine LCov.same (lt_dec rfl) rfl ?_|refine LCov.same ⟨trivial,lt_dec rfl,lt_dec rfl,lt_dec rfl,trivial⟩ rfl ?_|refine LCov.same ⟨trivial,lt_dec rfl,lt_dec rfl,trivial⟩ rfl ?_|refine LCov.same ⟨trivial,trivial⟩ rfl ?_|refine LCov.cons trivial rfl (.of_eq (lst_len (by simp<;>omega))) ?_)
 ·rw [hvl_zero];exact HCov.cons (by decide) trivial rfl (.refl _) HCov.nil
 intro k hk
 have hlen:=hvl_len b n want k
 have hv:k<24→VFun env 28 [.agg [.int .i64 b,.int .i64 ((k:Int)+1),.int .i64 0],.int .i64 n] (.tup [.p (.int .i64 (mea ⟨b,(k:Int)+1,0⟩ n)),.p (.bool (decide (mea ⟨b,(k:Int)+1,0⟩ n≤10000000)))]):=fun h=>svalue_spec ⟨b,(k:Int)+1,0⟩ n ⟨by simp only;omega,by simp only;omega,by simp only;omega,by simp only;omega,by simp only;omega,by simp only;omega⟩ hn
 repeat' (first
  |(refine VWp.at 10 ?_;refine VWp.ghost (Ghost.freeze 8 rfl rfl) ?_;first|apply VWp.rseq|apply VWp.rseqD)
  |(refine VWp.atEnd 10 ?_;refine VWp.ghost (Ghost.freeze 8 rfl rfl) ?_;first|apply VWp.region|apply VWp.regionD)
  |apply VWp.assoc
  |apply VWp.rseq
  |apply VWp.rseqD
  |apply VWp.region
  |apply VWp.regionD
  |apply VWp.skipSeq
  |apply VWp.retSeq
  |apply VWp.exitSeq
  |apply VWp.blockSeq
  |apply QSeq.normal
  |apply QSeq.ret
  |apply QSeq.exit
  |(apply DoneI.ret;rfl)
  |(apply DoneI.normal;rfl)
  |apply QBlk.normal
  |apply QBlk.ret
  |apply QBlk.exit
  |(apply QBlk.out;decide)
  |apply QLoop.ret
  |apply QLoop.exit
  |apply VWp.ret
  |apply VWp.skip
  |apply VWp.exit
  |apply VWp.blockQ
  |apply VOps.nil
  |apply VOpsD.nil
  |apply VOps.one
  |(apply VOpsD.bar;decide +kernel)
  |apply VOpsD.quiet
  |(apply VOps.take;rfl;rfl)
  |(apply VOpsD.quietTake;rfl;rfl)
  |(apply VOps.drop;rfl;rfl;rfl)
  |(apply VOpsD.drop;rfl;rfl;rfl)
  |(apply VOps.guard;rfl;rfl)
  |(apply VOpsD.guard;rfl;rfl)
  |(apply VOps.dropU;rfl;rfl)
  |(apply VOpsD.dropU;rfl;rfl)
  |(apply VOps.guardB;rfl;rfl)
  |(apply VOpsD.guardB;rfl;rfl)
  |(apply VVal.fn;rfl;rfl;exact hv (by omega);intro _;rfl)
  |(apply VVal.assign;rfl)
  |(apply VVal.move;rfl)
  |(apply VVal.add64;rfl;rfl;omega)
  |(apply VVal.sub64;rfl;rfl;omega)
  |(apply VVal.mul64;rfl;rfl;omega)
  |(apply VVal.subBN (c:=48);rfl;rfl;omega)
  |(apply VVal.subB;rfl;rfl;omega)
  |(apply VVal.addB;rfl;rfl;omega)
  |(apply VVal.addUN;rfl;rfl;omega)
  |(apply VVal.mulUN;rfl;rfl;omega)
  |(apply VVal.subUN;rfl;rfl;omega)
  |(apply VVal.quoUN;rfl;rfl;omega)
  |(apply VVal.remUN;rfl;rfl;omega)
  |(apply VVal.quoUT;rfl;rfl;omega)
  |(apply VVal.remUT;rfl;rfl;omega)
  |(apply VVal.mulUN (a:=10);rfl;rfl;omega)
  |(apply VVal.and1;rfl;rfl;omega)
  |(apply VVal.and1U;rfl;rfl;omega)
  |(apply VVal.and1B;rfl;rfl;omega)
  |(apply VVal.andI;rfl;rfl;omega)
  |(apply VVal.andU;rfl;rfl;omega;omega)
  |(apply VVal.orU;rfl;rfl;omega;omega)
  |(apply VVal.andNotU;rfl;rfl;omega;omega)
  |(apply VVal.remI;rfl;rfl;omega;omega)
  |(apply VVal.quoI;rfl;rfl;omega;omega)
  |(apply VVal.int;rfl;rfl;rfl)
  |(apply VVal.indexN;rfl;rfl;rfl;omega;rfl)
  |(apply VVal.indexP;rfl;rfl;rfl;omega;omega;rfl)
  |(apply VVal.indexE;rfl;rfl;rfl;omega;omega;rfl)
  |(apply VVal.loadVL;rfl;rfl;omega;rfl)
  |(apply VVal.load;rfl;rfl)
  |(apply VVal.pick_true;rfl;rfl)
  |(apply VVal.pick_false;rfl;rfl)
  |(apply VVal.lenF;rfl;rfl)
  |(apply VVal.lenNil;rfl;rfl)
  |(apply VVal.lenV;rfl;rfl;rfl)
  |(apply VVal.fieldB;rfl;rfl;rfl)
  |(apply VVal.fieldF;rfl;rfl)
  |(apply VVal.box;rfl;trivial)
  |(apply VVal.alloc;rfl)
  |(apply VVal.storeB;rfl;rfl;rfl;trivial;rfl;rfl;exact lt_dec rfl;exact le_dec rfl)
  |(apply VVal.build;rfl;rfl;rfl;rfl;rfl)
  |(apply VVal.buildSlice;rfl;rfl;rfl;decide;rfl;rfl;rfl)
  |(apply VVal.lenSt;rfl;rfl)
  |(apply VVal.eqS;rfl;rfl)
  |(apply VVal.neS;rfl;rfl)
  |(apply VVal.indexStN;rfl;rfl;rfl;omega)
  |(apply VVal.indexSt;rfl;rfl;rfl;omega;omega)
  |(apply VVal.sliceSI;rfl;rfl;rfl;rfl;omega)
  |(apply VVal.sliceSto;rfl;rfl;rfl;omega)
  |(apply VVal.sliceSfrom;rfl;rfl;rfl;omega)
  |(apply VVal.convS;rfl;rfl;rfl)
  |(apply VVal.toBytes;rfl;rfl;rfl;rfl;rfl;rfl;omega)
  |(apply VVal.addS;rfl;rfl;(first|omega|(simp only [List.length_take,List.length_drop,List.length_append,List.length_singleton,List.length_cons,List.length_nil]<;>omega)))
  |(apply VVal.indexVN;rfl;rfl;rfl;rfl;omega)
  |(apply VVal.indexVE;rfl;rfl;rfl;rfl;omega;omega)
  |(apply VVal.neg;rfl;omega)
  |(apply VVal.neB;rfl;rfl;rfl)
  |(apply VVal.eqB;rfl;rfl;rfl)
  |(apply VVal.maxI;rfl;rfl)
  |(apply VVal.minI;rfl;rfl)
  |(apply VVal.not;rfl)
  |(apply VVal.extract;rfl;rfl)
  |(apply VVal.convI;rfl;rfl;rfl;rfl;omega)
  |(apply VVal.convU;rfl;rfl;rfl;rfl;omega)
  |(apply VVal.convB;rfl;rfl;rfl;rfl;omega)
  |(apply VVal.convInt;rfl;rfl;rfl;rfl)
  |(apply VVal.append1;rfl;rfl;rfl;rfl;rfl;rfl;rfl;rfl;(intro _ h;cases h);rfl;rfl;rfl;decide;decide;(first|omega|(simp only [List.length_take,List.length_drop,List.length_append,List.length_singleton,List.length_cons,List.length_nil]<;>omega)))
  |(apply VVal.appendL0;rfl;rfl;rfl;(first|rfl|omega|(simp only [List.length_take,List.length_drop,List.length_append,List.length_singleton,List.length_cons,List.length_nil]<;>omega));rfl;rfl;(intro _ h;cases h);rfl;rfl;rfl;decide;decide;(first|omega|(simp only [List.length_take,List.length_drop,List.length_append,List.length_singleton,List.length_cons,List.length_nil]<;>omega)))
  |(apply VVal.appendL;rfl;rfl;rfl;(first|rfl|omega|(simp only [List.length_take,List.length_drop,List.length_append,List.length_singleton,List.length_cons,List.length_nil]));(first|rfl|omega|(simp only [List.length_take,List.length_drop,List.length_append,List.length_singleton,List.length_cons,List.length_nil]<;>omega));rfl;rfl;(intro _ h;cases h);rfl;rfl;rfl;decide;decide;(first|omega|(simp only [List.length_take,List.length_drop,List.length_append,List.length_singleton,List.length_cons,List.length_nil]<;>omega)))
  |(apply VVal.shlOne;rfl;rfl;omega)
  |(apply VVal.shlOneU;rfl;rfl;omega)
  |(apply VVal.shrN;rfl;rfl;(simp only [IntKind.bits];omega))
  |(apply VVal.sliceTo;rfl;rfl;rfl;rfl;rfl;rfl;omega)
  |(apply VVal.sliceFrom;rfl;rfl;rfl;rfl;rfl;rfl;omega)
  |(apply VVal.sliceToI;rfl;rfl;rfl;rfl;rfl;rfl;omega)
  |(apply VVal.shr;rfl;rfl;omega)
  |(apply VVal.shl;rfl;rfl;omega)
  |(apply VWp.condSeq_true;rfl)
  |(apply VWp.condSeq_false;rfl)
  |(apply VWp.condSeq_dec;rfl)
  |(apply VWp.condSeq;rfl)
  |(apply VWp.cond_true;rfl)
  |(apply VWp.cond_false;rfl)
  |(apply VWp.cond_dec;rfl)
  |(apply VWp.cond;rfl)
  |(intro _;try (exfalso;omega)))
 ·rename_i a1 a2 a3 a4 a5
  have e:=hvl_succ b n want k
  rw [if_pos ⟨a4,a5⟩] at e
  have e2:(hvl b n want (k+1)).length=(hvl b n want k).length+1:=by rw [e];simp
  refine QLoop.normal ⟨k+1,by omega,by omega,⟨by omega,?_,?_⟩⟩
  ·rw [e2];repeat (first|exact LCov.nil|refine LCov.same trivial rfl ?_|refine LCov.same (lt_dec rfl) rfl ?_|refine LCov.same ⟨trivial,lt_dec rfl,lt_dec rfl,lt_dec rfl,trivial⟩ rfl ?_|refine LCov.same ⟨trivial,lt_dec rfl,lt_dec rfl,trivial⟩ rfl ?_|refine LCov.same ⟨trivial,trivial⟩ rfl ?_|refine LCov.cons trivial rfl (.of_eq (lst_len (by simp<;>omega))) ?_)
  ·rw [e2,e];exact HCov.cons (by decide) trivial rfl (.refl _) HCov.nil
 ·rename_i a1 a2 a3 a4 a5
  have e:=hvl_succ b n want k
  rw [if_neg (fun h=>a5 h.2)] at e
  refine QLoop.normal ⟨k+1,by omega,by omega,⟨by omega,?_,?_⟩⟩
  ·rw [e];repeat (first|exact LCov.nil|refine LCov.same trivial rfl ?_|refine LCov.same (lt_dec rfl) rfl ?_|refine LCov.same ⟨trivial,lt_dec rfl,lt_dec rfl,lt_dec rfl,trivial⟩ rfl ?_|refine LCov.same ⟨trivial,lt_dec rfl,lt_dec rfl,trivial⟩ rfl ?_|refine LCov.same ⟨trivial,trivial⟩ rfl ?_|refine LCov.cons trivial rfl (.of_eq (lst_len (by simp<;>omega))) ?_)
  ·rw [e];exact HCov.cons (by decide) trivial rfl (.refl _) HCov.nil
 ·rename_i a1 a2 a3 a4
  have e:=hvl_succ b n want k
  rw [if_neg (fun h=>a4 h.1)] at e
  refine QLoop.normal ⟨k+1,by omega,by omega,⟨by omega,?_,?_⟩⟩
  ·rw [e];repeat (first|exact LCov.nil|refine LCov.same trivial rfl ?_|refine LCov.same (lt_dec rfl) rfl ?_|refine LCov.same ⟨trivial,lt_dec rfl,lt_dec rfl,lt_dec rfl,trivial⟩ rfl ?_|refine LCov.same ⟨trivial,lt_dec rfl,lt_dec rfl,trivial⟩ rfl ?_|refine LCov.same ⟨trivial,trivial⟩ rfl ?_|refine LCov.cons trivial rfl (.of_eq (lst_len (by simp<;>omega))) ?_)
  ·rw [e];exact HCov.cons (by decide) trivial rfl (.refl _) HCov.nil
 ·rename_i a1 a2 a3
  obtain rfl:k=24:=by omega
  (refine Done.ret rfl (.refl _) (by first|exact trivial|exact ⟨trivial,trivial,trivial⟩|exact ⟨trivial,trivial,trivial,trivial⟩) HCov.nil (Nat.zero_le _) (Nat.le_refl _) ⟨?_,rfl,rfl⟩;try rfl)
set_option maxRecDepth 100000 in
theorem halv_bad (b n want:Int) (hb:¬ ((1≤b∧b≤1000000)∧wOk n)):VFun env 18 [.int .i64 b,.int .i64 n,.int .i64 want] (.tup [.p (.val (.slice none 0 0)),.p (.int .i64 3)]):=by
 have hw:=swithin_spec n
 by_cases hn:wOk n
 ·rw [show win n=0 from if_pos hn] at hw
  have hb':¬ (1≤b∧b≤1000000):=fun h=>hb ⟨h,hn⟩
  refine VFun.enter (env_none (by decide)) Tryd.func18 rfl (by kernel_rfl) (by simp [Tryd.ntmps18]) ?_
  repeat' (first
   |apply VWp.assoc
   |apply VWp.rseq
   |apply VWp.rseqD
   |apply VWp.region
   |apply VWp.regionD
   |apply VWp.skipSeq
   |apply VWp.retSeq
   |apply VWp.exitSeq
   |apply VWp.blockSeq
   |apply QSeq.normal
   |apply QSeq.ret
   |apply QSeq.exit
   |(apply DoneI.ret;rfl)
   |(apply DoneI.normal;rfl)
   |apply QBlk.normal
   |apply QBlk.ret
   |apply QBlk.exit
   |(apply QBlk.out;decide)
   |apply QLoop.ret
   |apply QLoop.exit
   |apply VWp.ret
   |apply VWp.skip
   |apply VWp.exit
   |apply VWp.blockQ
   |apply VOps.nil
   |apply VOpsD.nil
   |apply VOps.one
   |(apply VOpsD.bar;decide +kernel)
   |apply VOpsD.quiet
   |(apply VOps.take;rfl;rfl)
   |(apply VOpsD.quietTake;rfl;rfl)
   |(apply VOps.drop;rfl;rfl;rfl)
   |(apply VOpsD.drop;rfl;rfl;rfl)
   |(apply VOps.guard;rfl;rfl)
   |(apply VOpsD.guard;rfl;rfl)
   |(apply VOps.dropU;rfl;rfl)
   |(apply VOpsD.dropU;rfl;rfl)
   |(apply VOps.guardB;rfl;rfl)
   |(apply VOpsD.guardB;rfl;rfl)
   |(apply VVal.fn;rfl;rfl;exact hw;intro _;rfl)
   |(apply VVal.assign;rfl)
   |(apply VVal.move;rfl)
   |(apply VVal.add64;rfl;rfl;omega)
   |(apply VVal.sub64;rfl;rfl;omega)
   |(apply VVal.mul64;rfl;rfl;omega)
   |(apply VVal.subBN (c:=48);rfl;rfl;omega)
   |(apply VVal.subB;rfl;rfl;omega)
   |(apply VVal.addB;rfl;rfl;omega)
   |(apply VVal.addUN;rfl;rfl;omega)
   |(apply VVal.mulUN;rfl;rfl;omega)
   |(apply VVal.subUN;rfl;rfl;omega)
   |(apply VVal.quoUN;rfl;rfl;omega)
   |(apply VVal.remUN;rfl;rfl;omega)
   |(apply VVal.quoUT;rfl;rfl;omega)
   |(apply VVal.remUT;rfl;rfl;omega)
   |(apply VVal.mulUN (a:=10);rfl;rfl;omega)
   |(apply VVal.and1;rfl;rfl;omega)
   |(apply VVal.and1U;rfl;rfl;omega)
   |(apply VVal.and1B;rfl;rfl;omega)
   |(apply VVal.andI;rfl;rfl;omega)
   |(apply VVal.andU;rfl;rfl;omega;omega)
   |(apply VVal.orU;rfl;rfl;omega;omega)
   |(apply VVal.andNotU;rfl;rfl;omega;omega)
   |(apply VVal.remI;rfl;rfl;omega;omega)
   |(apply VVal.quoI;rfl;rfl;omega;omega)
   |(apply VVal.int;rfl;rfl;rfl)
   |(apply VVal.indexN;rfl;rfl;rfl;omega;rfl)
   |(apply VVal.indexP;rfl;rfl;rfl;omega;omega;rfl)
   |(apply VVal.indexE;rfl;rfl;rfl;omega;omega;rfl)
   |(apply VVal.loadVL;rfl;rfl;omega;rfl)
   |(apply VVal.load;rfl;rfl)
   |(apply VVal.pick_true;rfl;rfl)
   |(apply VVal.pick_false;rfl;rfl)
   |(apply VVal.lenF;rfl;rfl)
   |(apply VVal.lenNil;rfl;rfl)
   |(apply VVal.lenV;rfl;rfl;rfl)
   |(apply VVal.fieldB;rfl;rfl;rfl)
   |(apply VVal.fieldF;rfl;rfl)
   |(apply VVal.box;rfl;trivial)
   |(apply VVal.alloc;rfl)
   |(apply VVal.storeB;rfl;rfl;rfl;trivial;rfl;rfl;exact lt_dec rfl;exact le_dec rfl)
   |(apply VVal.build;rfl;rfl;rfl;rfl;rfl)
   |(apply VVal.buildSlice;rfl;rfl;rfl;decide;rfl;rfl;rfl)
   |(apply VVal.lenSt;rfl;rfl)
   |(apply VVal.eqS;rfl;rfl)
   |(apply VVal.neS;rfl;rfl)
   |(apply VVal.indexStN;rfl;rfl;rfl;omega)
   |(apply VVal.indexSt;rfl;rfl;rfl;omega;omega)
   |(apply VVal.sliceSI;rfl;rfl;rfl;rfl;omega)
   |(apply VVal.sliceSto;rfl;rfl;rfl;omega)
   |(apply VVal.sliceSfrom;rfl;rfl;rfl;omega)
   |(apply VVal.convS;rfl;rfl;rfl)
   |(apply VVal.toBytes;rfl;rfl;rfl;rfl;rfl;rfl;omega)
   |(apply VVal.addS;rfl;rfl;(first|omega|(simp only [List.length_take,List.length_drop,List.length_append,List.length_singleton,List.length_cons,List.length_nil]<;>omega)))
   |(apply VVal.indexVN;rfl;rfl;rfl;rfl;omega)
   |(apply VVal.indexVE;rfl;rfl;rfl;rfl;omega;omega)
   |(apply VVal.neg;rfl;omega)
   |(apply VVal.neB;rfl;rfl;rfl)
   |(apply VVal.eqB;rfl;rfl;rfl)
   |(apply VVal.maxI;rfl;rfl)
   |(apply VVal.minI;rfl;rfl)
   |(apply VVal.not;rfl)
   |(apply VVal.extract;rfl;rfl)
   |(apply VVal.convI;rfl;rfl;rfl;rfl;omega)
   |(apply VVal.convU;rfl;rfl;rfl;rfl;omega)
   |(apply VVal.convB;rfl;rfl;rfl;rfl;omega)
   |(apply VVal.convInt;rfl;rfl;rfl;rfl)
   |(apply VVal.append1;rfl;rfl;rfl;rfl;rfl;rfl;rfl;rfl;(intro _ h;cases h);rfl;rfl;rfl;decide;decide;(first|omega|(simp only [List.length_take,List.length_drop,List.length_append,List.length_singleton,List.length_cons,List.length_nil]<;>omega)))
   |(apply VVal.appendL0;rfl;rfl;rfl;(first|rfl|omega|(simp only [List.length_take,List.length_drop,List.length_append,List.length_singleton,List.length_cons,List.length_nil]<;>omega));rfl;rfl;(intro _ h;cases h);rfl;rfl;rfl;decide;decide;(first|omega|(simp only [List.length_take,List.length_drop,List.length_append,List.length_singleton,List.length_cons,List.length_nil]<;>omega)))
   |(apply VVal.appendL;rfl;rfl;rfl;(first|rfl|omega|(simp only [List.length_take,List.length_drop,List.length_append,List.length_singleton,List.length_cons,List.length_nil]));(first|rfl|omega|(simp only [List.length_take,List.length_drop,List.length_append,List.length_singleton,List.length_cons,List.length_nil]<;>omega));rfl;rfl;(intro _ h;cases h);rfl;rfl;rfl;decide;decide;(first|omega|(simp only [List.length_take,List.length_drop,List.length_append,List.length_singleton,List.length_cons,List.length_nil]<;>omega)))
   |(apply VVal.shlOne;rfl;rfl;omega)
   |(apply VVal.shlOneU;rfl;rfl;omega)
   |(apply VVal.shrN;rfl;rfl;(simp only [IntKind.bits];omega))
   |(apply VVal.sliceTo;rfl;rfl;rfl;rfl;rfl;rfl;omega)
   |(apply VVal.sliceFrom;rfl;rfl;rfl;rfl;rfl;rfl;omega)
   |(apply VVal.sliceToI;rfl;rfl;rfl;rfl;rfl;rfl;omega)
   |(apply VVal.shr;rfl;rfl;omega)
   |(apply VVal.shl;rfl;rfl;omega)
   |(apply VWp.condSeq_true;rfl)
   |(apply VWp.condSeq_false;rfl)
   |(apply VWp.condSeq_dec;rfl)
   |(apply VWp.condSeq;rfl)
   |(apply VWp.cond_true;rfl)
   |(apply VWp.cond_false;rfl)
   |(apply VWp.cond_dec;rfl)
   |(apply VWp.cond;rfl)
   |(intro _;try (exfalso;omega)))
  all_goals first|(exfalso;omega)|(refine Done.ret rfl (.refl _) (by first|exact trivial|exact ⟨trivial,trivial,trivial⟩|exact ⟨trivial,trivial,trivial,trivial⟩) HCov.nil (Nat.zero_le _) (Nat.le_refl _) ⟨?_,rfl,rfl⟩;try rfl)
 ·rw [show win n=3 from if_neg hn] at hw
  refine VFun.enter (env_none (by decide)) Tryd.func18 rfl (by kernel_rfl) (by simp [Tryd.ntmps18]) ?_
  repeat' (first
   |apply VWp.assoc
   |apply VWp.rseq
   |apply VWp.rseqD
   |apply VWp.region
   |apply VWp.regionD
   |apply VWp.skipSeq
   |apply VWp.retSeq
   |apply VWp.exitSeq
   |apply VWp.blockSeq
   |apply QSeq.normal
   |apply QSeq.ret
   |apply QSeq.exit
   |(apply DoneI.ret;rfl)
   |(apply DoneI.normal;rfl)
   |apply QBlk.normal
   |apply QBlk.ret
   |apply QBlk.exit
   |(apply QBlk.out;decide)
   |apply QLoop.ret
   |apply QLoop.exit
   |apply VWp.ret
   |apply VWp.skip
   |apply VWp.exit
   |apply VWp.blockQ
   |apply VOps.nil
   |apply VOpsD.nil
   |apply VOps.one
   |(apply VOpsD.bar;decide +kernel)
   |apply VOpsD.quiet
   |(apply VOps.take;rfl;rfl)
   |(apply VOpsD.quietTake;rfl;rfl)
   |(apply VOps.drop;rfl;rfl;rfl)
   |(apply VOpsD.drop;rfl;rfl;rfl)
   |(apply VOps.guard;rfl;rfl)
   |(apply VOpsD.guard;rfl;rfl)
   |(apply VOps.dropU;rfl;rfl)
   |(apply VOpsD.dropU;rfl;rfl)
   |(apply VOps.guardB;rfl;rfl)
   |(apply VOpsD.guardB;rfl;rfl)
   |(apply VVal.fn;rfl;rfl;exact hw;intro _;rfl)
   |(apply VVal.assign;rfl)
   |(apply VVal.move;rfl)
   |(apply VVal.add64;rfl;rfl;omega)
   |(apply VVal.sub64;rfl;rfl;omega)
   |(apply VVal.mul64;rfl;rfl;omega)
   |(apply VVal.subBN (c:=48);rfl;rfl;omega)
   |(apply VVal.subB;rfl;rfl;omega)
   |(apply VVal.addB;rfl;rfl;omega)
   |(apply VVal.addUN;rfl;rfl;omega)
   |(apply VVal.mulUN;rfl;rfl;omega)
   |(apply VVal.subUN;rfl;rfl;omega)
   |(apply VVal.quoUN;rfl;rfl;omega)
   |(apply VVal.remUN;rfl;rfl;omega)
   |(apply VVal.quoUT;rfl;rfl;omega)
   |(apply VVal.remUT;rfl;rfl;omega)
   |(apply VVal.mulUN (a:=10);rfl;rfl;omega)
   |(apply VVal.and1;rfl;rfl;omega)
   |(apply VVal.and1U;rfl;rfl;omega)
   |(apply VVal.and1B;rfl;rfl;omega)
   |(apply VVal.andI;rfl;rfl;omega)
   |(apply VVal.andU;rfl;rfl;omega;omega)
   |(apply VVal.orU;rfl;rfl;omega;omega)
   |(apply VVal.andNotU;rfl;rfl;omega;omega)
   |(apply VVal.remI;rfl;rfl;omega;omega)
   |(apply VVal.quoI;rfl;rfl;omega;omega)
   |(apply VVal.int;rfl;rfl;rfl)
   |(apply VVal.indexN;rfl;rfl;rfl;omega;rfl)
   |(apply VVal.indexP;rfl;rfl;rfl;omega;omega;rfl)
   |(apply VVal.indexE;rfl;rfl;rfl;omega;omega;rfl)
   |(apply VVal.loadVL;rfl;rfl;omega;rfl)
   |(apply VVal.load;rfl;rfl)
   |(apply VVal.pick_true;rfl;rfl)
   |(apply VVal.pick_false;rfl;rfl)
   |(apply VVal.lenF;rfl;rfl)
   |(apply VVal.lenNil;rfl;rfl)
   |(apply VVal.lenV;rfl;rfl;rfl)
   |(apply VVal.fieldB;rfl;rfl;rfl)
   |(apply VVal.fieldF;rfl;rfl)
   |(apply VVal.box;rfl;trivial)
   |(apply VVal.alloc;rfl)
   |(apply VVal.storeB;rfl;rfl;rfl;trivial;rfl;rfl;exact lt_dec rfl;exact le_dec rfl)
   |(apply VVal.build;rfl;rfl;rfl;rfl;rfl)
   |(apply VVal.buildSlice;rfl;rfl;rfl;decide;rfl;rfl;rfl)
   |(apply VVal.lenSt;rfl;rfl)
   |(apply VVal.eqS;rfl;rfl)
   |(apply VVal.neS;rfl;rfl)
   |(apply VVal.indexStN;rfl;rfl;rfl;omega)
   |(apply VVal.indexSt;rfl;rfl;rfl;omega;omega)
   |(apply VVal.sliceSI;rfl;rfl;rfl;rfl;omega)
   |(apply VVal.sliceSto;rfl;rfl;rfl;omega)
   |(apply VVal.sliceSfrom;rfl;rfl;rfl;omega)
   |(apply VVal.convS;rfl;rfl;rfl)
   |(apply VVal.toBytes;rfl;rfl;rfl;rfl;rfl;rfl;omega)
   |(apply VVal.addS;rfl;rfl;(first|omega|(simp only [List.length_take,List.length_drop,List.length_append,List.length_singleton,List.length_cons,List.length_nil]<;>omega)))
   |(apply VVal.indexVN;rfl;rfl;rfl;rfl;omega)
   |(apply VVal.indexVE;rfl;rfl;rfl;rfl;omega;omega)
   |(apply VVal.neg;rfl;omega)
   |(apply VVal.neB;rfl;rfl;rfl)
   |(apply VVal.eqB;rfl;rfl;rfl)
   |(apply VVal.maxI;rfl;rfl)
   |(apply VVal.minI;rfl;rfl)
   |(apply VVal.not;rfl)
   |(apply VVal.extract;rfl;rfl)
   |(apply VVal.convI;rfl;rfl;rfl;rfl;omega)
   |(apply VVal.convU;rfl;rfl;rfl;rfl;omega)
   |(apply VVal.convB;rfl;rfl;rfl;rfl;omega)
   |(apply VVal.convInt;rfl;rfl;rfl;rfl)
   |(apply VVal.append1;rfl;rfl;rfl;rfl;rfl;rfl;rfl;rfl;(intro _ h;cases h);rfl;rfl;rfl;decide;decide;(first|omega|(simp only [List.length_take,List.length_drop,List.length_append,List.length_singleton,List.length_cons,List.length_nil]<;>omega)))
   |(apply VVal.appendL0;rfl;rfl;rfl;(first|rfl|omega|(simp only [List.length_take,List.length_drop,List.length_append,List.length_singleton,List.length_cons,List.length_nil]<;>omega));rfl;rfl;(intro _ h;cases h);rfl;rfl;rfl;decide;decide;(first|omega|(simp only [List.length_take,List.length_drop,List.length_append,List.length_singleton,List.length_cons,List.length_nil]<;>omega)))
   |(apply VVal.appendL;rfl;rfl;rfl;(first|rfl|omega|(simp only [List.length_take,List.length_drop,List.length_append,List.length_singleton,List.length_cons,List.length_nil]));(first|rfl|omega|(simp only [List.length_take,List.length_drop,List.length_append,List.length_singleton,List.length_cons,List.length_nil]<;>omega));rfl;rfl;(intro _ h;cases h);rfl;rfl;rfl;decide;decide;(first|omega|(simp only [List.length_take,List.length_drop,List.length_append,List.length_singleton,List.length_cons,List.length_nil]<;>omega)))
   |(apply VVal.shlOne;rfl;rfl;omega)
   |(apply VVal.shlOneU;rfl;rfl;omega)
   |(apply VVal.shrN;rfl;rfl;(simp only [IntKind.bits];omega))
   |(apply VVal.sliceTo;rfl;rfl;rfl;rfl;rfl;rfl;omega)
   |(apply VVal.sliceFrom;rfl;rfl;rfl;rfl;rfl;rfl;omega)
   |(apply VVal.sliceToI;rfl;rfl;rfl;rfl;rfl;rfl;omega)
   |(apply VVal.shr;rfl;rfl;omega)
   |(apply VVal.shl;rfl;rfl;omega)
   |(apply VWp.condSeq_true;rfl)
   |(apply VWp.condSeq_false;rfl)
   |(apply VWp.condSeq_dec;rfl)
   |(apply VWp.condSeq;rfl)
   |(apply VWp.cond_true;rfl)
   |(apply VWp.cond_false;rfl)
   |(apply VWp.cond_dec;rfl)
   |(apply VWp.cond;rfl)
   |(intro _;try (exfalso;omega)))
  all_goals (refine Done.ret rfl (.refl _) (by first|exact trivial|exact ⟨trivial,trivial,trivial⟩|exact ⟨trivial,trivial,trivial,trivial⟩) HCov.nil (Nat.zero_le _) (Nat.le_refl _) ⟨?_,rfl,rfl⟩;try rfl)
theorem hvl_known:∀ k,k≤24→hvl 2 1 1 k=if k=0 then [] else if k=1 then [1] else [1,2]
 |0,_=>hvl_zero 2 1 1
 |k+1,hk=>by
  have ih:=hvl_known k (by omega)
  have hm:=me_known4 k (by omega)
  have e:mea ⟨2,(k:Int)+1,0⟩ 1=((me 2 1 (k+1) 1:Nat):Int):=by
   unfold mea
   show ((me (2:Int).toNat 1 ((k:Int)+1).toNat 1:Nat):Int)+0=_
   rw [show ((k:Int)+1).toNat=k+1 by omega,show (2:Int).toNat=2 from rfl,Int.add_zero]
  rw [hvl_succ,e,hm,ih]
  match k with
  |0=>rfl
  |1=>rfl
  |k+2=>rw [if_neg (show ¬ k+2<2 by omega),if_neg (by decide)];simp
set_option maxRecDepth 100000 in
set_option maxHeartbeats 1000000 in
theorem known_spec:VFun env 12 [] (.p (.bool true)):=by
 have v1:=sValue_spec ⟨1550,16,0⟩ 12
 have v2:=sValue_spec ⟨1550,16,0⟩ (-16)
 have m1:mea ⟨1550,16,0⟩ 12=922:=by
  unfold mea
  show ((me 1550 1 16 12:Nat):Int)+0=922
  rw [me_known1];rfl
 have m2:mea ⟨1550,16,0⟩ (-16)=3100:=by
  unfold mea
  show ((me 1550 1 16 (-16):Nat):Int)+0=3100
  rw [me_known2];rfl
 have e1:valR ⟨1550,16,0⟩ 12=(922,0):=by unfold valR;rw [if_pos (by decide),m1];rfl
 have e2:valR ⟨1550,16,0⟩ (-16)=(3100,0):=by unfold valR;rw [if_pos (by decide),m2];rfl
 rw [e1] at v1
 rw [e2] at v2
 have v3:=halv_spec 2 1 1 (by decide) (by decide)
 rw [show hvl 2 1 1 24=[1,2] from hvl_known 24 (by decide)] at v3
 have v4:=sLength_spec ⟨8,1⟩ 300 7
 have m4:lenM ⟨8,1⟩ 300 7=1602:=by
  unfold lenM
  show me 2400 1 12 7=1602
  exact me_known3
 have e4:lenR ⟨8,1⟩ 300 7=(1602,0):=by
  unfold lenR
  rw [if_pos (by decide +kernel),m4];rfl
 rw [e4] at v4
 refine VFun.enter (env_none (by decide)) Tryd.func12 rfl (by kernel_rfl) (by simp [Tryd.ntmps12]) ?_
 repeat' (first
  |apply VWp.assoc
  |apply VWp.rseq
  |apply VWp.rseqD
  |apply VWp.region
  |apply VWp.regionD
  |apply VWp.skipSeq
  |apply VWp.retSeq
  |apply VWp.exitSeq
  |apply VWp.blockSeq
  |apply QSeq.normal
  |apply QSeq.ret
  |apply QSeq.exit
  |(apply DoneI.ret;rfl)
  |(apply DoneI.normal;rfl)
  |apply QBlk.normal
  |apply QBlk.ret
  |apply QBlk.exit
  |(apply QBlk.out;decide)
  |apply QLoop.ret
  |apply QLoop.exit
  |apply VWp.ret
  |apply VWp.skip
  |apply VWp.exit
  |apply VWp.blockQ
  |apply VOps.nil
  |apply VOpsD.nil
  |apply VOps.one
  |(apply VOpsD.bar;decide +kernel)
  |apply VOpsD.quiet
  |(apply VOps.take;rfl;rfl)
  |(apply VOpsD.quietTake;rfl;rfl)
  |(apply VOps.drop;rfl;rfl;rfl)
  |(apply VOpsD.drop;rfl;rfl;rfl)
  |(apply VOps.guard;rfl;rfl)
  |(apply VOpsD.guard;rfl;rfl)
  |(apply VOps.dropU;rfl;rfl)
  |(apply VOpsD.dropU;rfl;rfl)
  |(apply VOps.guardB;rfl;rfl)
  |(apply VOpsD.guardB;rfl;rfl)
  |(apply VVal.fn;rfl;rfl;exact v1;intro _;rfl)
  |(apply VVal.fn;rfl;rfl;exact v2;intro _;rfl)
  |(apply VVal.fn;rfl;rfl;exact v3;intro _;rfl)
  |(apply VVal.fn;rfl;rfl;exact v4;intro _;rfl)
  |(apply VVal.indexE;rfl;rfl;rfl;decide;decide;rfl)
  |(apply VVal.assign;rfl)
  |(apply VVal.move;rfl)
  |(apply VVal.add64;rfl;rfl;omega)
  |(apply VVal.sub64;rfl;rfl;omega)
  |(apply VVal.mul64;rfl;rfl;omega)
  |(apply VVal.subBN (c:=48);rfl;rfl;omega)
  |(apply VVal.subB;rfl;rfl;omega)
  |(apply VVal.addB;rfl;rfl;omega)
  |(apply VVal.addUN;rfl;rfl;omega)
  |(apply VVal.mulUN;rfl;rfl;omega)
  |(apply VVal.subUN;rfl;rfl;omega)
  |(apply VVal.quoUN;rfl;rfl;omega)
  |(apply VVal.remUN;rfl;rfl;omega)
  |(apply VVal.quoUT;rfl;rfl;omega)
  |(apply VVal.remUT;rfl;rfl;omega)
  |(apply VVal.mulUN (a:=10);rfl;rfl;omega)
  |(apply VVal.and1;rfl;rfl;omega)
  |(apply VVal.and1U;rfl;rfl;omega)
  |(apply VVal.and1B;rfl;rfl;omega)
  |(apply VVal.andI;rfl;rfl;omega)
  |(apply VVal.andU;rfl;rfl;omega;omega)
  |(apply VVal.orU;rfl;rfl;omega;omega)
  |(apply VVal.andNotU;rfl;rfl;omega;omega)
  |(apply VVal.remI;rfl;rfl;omega;omega)
  |(apply VVal.quoI;rfl;rfl;omega;omega)
  |(apply VVal.int;rfl;rfl;rfl)
  |(apply VVal.indexN;rfl;rfl;rfl;omega;rfl)
  |(apply VVal.indexP;rfl;rfl;rfl;omega;omega;rfl)
  |(apply VVal.indexE;rfl;rfl;rfl;omega;omega;rfl)
  |(apply VVal.loadVL;rfl;rfl;omega;rfl)
  |(apply VVal.load;rfl;rfl)
  |(apply VVal.pick_true;rfl;rfl)
  |(apply VVal.pick_false;rfl;rfl)
  |(apply VVal.lenF;rfl;rfl)
  |(apply VVal.lenNil;rfl;rfl)
  |(apply VVal.lenV;rfl;rfl;rfl)
  |(apply VVal.fieldB;rfl;rfl;rfl)
  |(apply VVal.fieldF;rfl;rfl)
  |(apply VVal.box;rfl;trivial)
  |(apply VVal.alloc;rfl)
  |(apply VVal.storeB;rfl;rfl;rfl;trivial;rfl;rfl;exact lt_dec rfl;exact le_dec rfl)
  |(apply VVal.build;rfl;rfl;rfl;rfl;rfl)
  |(apply VVal.buildSlice;rfl;rfl;rfl;decide;rfl;rfl;rfl)
  |(apply VVal.lenSt;rfl;rfl)
  |(apply VVal.eqS;rfl;rfl)
  |(apply VVal.neS;rfl;rfl)
  |(apply VVal.indexStN;rfl;rfl;rfl;omega)
  |(apply VVal.indexSt;rfl;rfl;rfl;omega;omega)
  |(apply VVal.sliceSI;rfl;rfl;rfl;rfl;omega)
  |(apply VVal.sliceSto;rfl;rfl;rfl;omega)
  |(apply VVal.sliceSfrom;rfl;rfl;rfl;omega)
  |(apply VVal.convS;rfl;rfl;rfl)
  |(apply VVal.toBytes;rfl;rfl;rfl;rfl;rfl;rfl;omega)
  |(apply VVal.addS;rfl;rfl;(first|omega|(simp only [List.length_take,List.length_drop,List.length_append,List.length_singleton,List.length_cons,List.length_nil]<;>omega)))
  |(apply VVal.indexVN;rfl;rfl;rfl;rfl;omega)
  |(apply VVal.indexVE;rfl;rfl;rfl;rfl;omega;omega)
  |(apply VVal.neg;rfl;omega)
  |(apply VVal.neB;rfl;rfl;rfl)
  |(apply VVal.eqB;rfl;rfl;rfl)
  |(apply VVal.maxI;rfl;rfl)
  |(apply VVal.minI;rfl;rfl)
  |(apply VVal.not;rfl)
  |(apply VVal.extract;rfl;rfl)
  |(apply VVal.convI;rfl;rfl;rfl;rfl;omega)
  |(apply VVal.convU;rfl;rfl;rfl;rfl;omega)
  |(apply VVal.convB;rfl;rfl;rfl;rfl;omega)
  |(apply VVal.convInt;rfl;rfl;rfl;rfl)
  |(apply VVal.append1;rfl;rfl;rfl;rfl;rfl;rfl;rfl;rfl;(intro _ h;cases h);rfl;rfl;rfl;decide;decide;(first|omega|(simp only [List.length_take,List.length_drop,List.length_append,List.length_singleton,List.length_cons,List.length_nil]<;>omega)))
  |(apply VVal.appendL0;rfl;rfl;rfl;(first|rfl|omega|(simp only [List.length_take,List.length_drop,List.length_append,List.length_singleton,List.length_cons,List.length_nil]<;>omega));rfl;rfl;(intro _ h;cases h);rfl;rfl;rfl;decide;decide;(first|omega|(simp only [List.length_take,List.length_drop,List.length_append,List.length_singleton,List.length_cons,List.length_nil]<;>omega)))
  |(apply VVal.appendL;rfl;rfl;rfl;(first|rfl|omega|(simp only [List.length_take,List.length_drop,List.length_append,List.length_singleton,List.length_cons,List.length_nil]));(first|rfl|omega|(simp only [List.length_take,List.length_drop,List.length_append,List.length_singleton,List.length_cons,List.length_nil]<;>omega));rfl;rfl;(intro _ h;cases h);rfl;rfl;rfl;decide;decide;(first|omega|(simp only [List.length_take,List.length_drop,List.length_append,List.length_singleton,List.length_cons,List.length_nil]<;>omega)))
  |(apply VVal.shlOne;rfl;rfl;omega)
  |(apply VVal.shlOneU;rfl;rfl;omega)
  |(apply VVal.shrN;rfl;rfl;(simp only [IntKind.bits];omega))
  |(apply VVal.sliceTo;rfl;rfl;rfl;rfl;rfl;rfl;omega)
  |(apply VVal.sliceFrom;rfl;rfl;rfl;rfl;rfl;rfl;omega)
  |(apply VVal.sliceToI;rfl;rfl;rfl;rfl;rfl;rfl;omega)
  |(apply VVal.shr;rfl;rfl;omega)
  |(apply VVal.shl;rfl;rfl;omega)
  |(apply VWp.condSeq_true;rfl)
  |(apply VWp.condSeq_false;rfl)
  |(apply VWp.condSeq_dec;rfl)
  |(apply VWp.condSeq;rfl)
  |(apply VWp.cond_true;rfl)
  |(apply VWp.cond_false;rfl)
  |(apply VWp.cond_dec;rfl)
  |(apply VWp.cond;rfl)
  |(intro _;try (exfalso;omega)))
 all_goals (refine Done.ret rfl (.refl _) (by first|exact trivial|exact ⟨trivial,trivial,trivial⟩|exact ⟨trivial,trivial,trivial,trivial⟩) HCov.nil (Nat.zero_le _) (Nat.le_refl _) ⟨?_,rfl,rfl⟩;try rfl)
end Go.Proofs.YtemfebbakfhknaaDoor
