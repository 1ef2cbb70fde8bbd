/-
  The statements on First and Halvings, as walks. Conditions: in each statement.
-/
import Derived.Test.YtemfebbakfhknaaDoorScaD
set_option linter.unusedSimpArgs false
set_option linter.unusedVariables false
namespace Go.Proofs.YtemfebbakfhknaaDoor
open Go Go.Am Go.Vm Go.Sca
attribute [local irreducible] VVal VOps VOpsD VWp VCalls VFun VFunV QSeq QBlk QLoop Vm.Done DoneV DoneI
attribute [local irreducible] hvl mea me rnd rk lo fstN
def mk (b x y:Nat):Scl:=⟨1+(b:Int) % 4096,1+(x:Int) % 24,(y:Int)⟩
theorem mk_ok {b x y:Nat} (hy:y<256):sOk (mk b x y):=by unfold sOk mk;simp only;omega
set_option maxRecDepth 100000 in
set_option maxHeartbeats 1000000 in
theorem firsts_spec (b x y:Nat) (v:Int) (hb:b<65536) (hx:x<256) (hy:y<256):VFun env 7 [.int .u16 (b:Int),.agg [.int .u8 (x:Int),.int .u8 (y:Int)],.int .i64 v] (.p (.bool true)):=by
 have hk:=known_spec
 have hm:=made_spec b x y hb hx hy
 have hs:sOk (mk b x y):=mk_ok hy
 change VFun env _ _ (.p (.agg (Enc.enc (mk b x y)))) at hm
 have hf:=sFirst_spec (mk b x y) v hs
 have hle:=fstN_le (mk b x y) v
 have hiff:=fstN_iff (mk b x y) v
 have hms:=fun n h=>most_spec (mk b x y) n v hs h
 have h72:=hiff 144 (by decide)
 have m72:=hms 72 (by decide)
 generalize mk b x y=s at *
 by_cases h1:fstN s v>144
 ·rw [show fstR s v=(0,false) from if_pos h1] at hf
  rw [decide_eq_false (fun h=>by have:=h72.1 (by simpa using h);omega)] at m72
  refine VFun.enter (env_none (by decide)) Tryd.func7 rfl (by kernel_rfl) (by simp [Tryd.ntmps7]) ?_
  repeat' (first
   |apply VWp.assoc
   |apply VWp.rseq
   |apply VWp.rseqD
   |apply VWp.region
   |apply VWp.regionD
   |apply VWp.skipSeq
   |apply VWp.retSeq
   |apply VWp.exitSeq
   |apply VWp.blockSeq
   |apply QSeq.normal
   |apply QSeq.ret
   |apply QSeq.exit
   |(apply DoneI.ret;rfl)
   |(apply DoneI.normal;rfl)
   |apply QBlk.normal
   |apply QBlk.ret
   |apply QBlk.exit
   |(apply QBlk.out;decide)
   |apply QLoop.ret
   |apply QLoop.exit
   |apply VWp.ret
   |apply VWp.skip
   |apply VWp.exit
   |apply VWp.blockQ
   |apply VOps.nil
   |apply VOpsD.nil
   |apply VOps.one
   |(apply VOpsD.bar;decide +kernel)
   |apply VOpsD.quiet
   |(apply VOps.take;rfl;rfl)
   |(apply VOpsD.quietTake;rfl;rfl)
   |(apply VOps.drop;rfl;rfl;rfl)
   |(apply VOpsD.drop;rfl;rfl;rfl)
   |(apply VOps.guard;rfl;rfl)
   |(apply VOpsD.guard;rfl;rfl)
   |(apply VOps.dropU;rfl;rfl)
   |(apply VOpsD.dropU;rfl;rfl)
   |(apply VOps.guardB;rfl;rfl)
   |(apply VOpsD.guardB;rfl;rfl)
   |(apply VVal.fn;rfl;rfl;exact hk;intro _;rfl)
   |(apply VVal.fn;rfl;rfl;exact hm;intro _;rfl)
   |(apply VVal.fn;rfl;rfl;exact hf;intro _;rfl)
   |(apply VVal.fn;rfl;rfl;exact m72;intro _;rfl)
   |(apply VVal.indexB;rfl;rfl;rfl;rfl;rfl;decide)
   |(apply VVal.assign;rfl)
   |(apply VVal.move;rfl)
   |(apply VVal.add64;rfl;rfl;omega)
   |(apply VVal.sub64;rfl;rfl;omega)
   |(apply VVal.mul64;rfl;rfl;omega)
   |(apply VVal.subBN (c:=48);rfl;rfl;omega)
   |(apply VVal.subB;rfl;rfl;omega)
   |(apply VVal.addB;rfl;rfl;omega)
   |(apply VVal.addUN;rfl;rfl;omega)
   |(apply VVal.mulUN;rfl;rfl;omega)
   |(apply VVal.subUN;rfl;rfl;omega)
   |(apply VVal.quoUN;rfl;rfl;omega)
   |(apply VVal.remUN;rfl;rfl;omega)
   |(apply VVal.quoUT;rfl;rfl;omega)
   |(apply VVal.remUT;rfl;rfl;omega)
   |(apply VVal.mulUN (a:=10);rfl;rfl;omega)
   |(apply VVal.and1;rfl;rfl;omega)
   |(apply VVal.and1U;rfl;rfl;omega)
   |(apply VVal.and1B;rfl;rfl;omega)
   |(apply VVal.andI;rfl;rfl;omega)
   |(apply VVal.andU;rfl;rfl;omega;omega)
   |(apply VVal.orU;rfl;rfl;omega;omega)
   |(apply VVal.andNotU;rfl;rfl;omega;omega)
   |(apply VVal.remI;rfl;rfl;omega;omega)
   |(apply VVal.quoI;rfl;rfl;omega;omega)
   |(apply VVal.int;rfl;rfl;rfl)
   |(apply VVal.indexN;rfl;rfl;rfl;omega;rfl)
   |(apply VVal.indexP;rfl;rfl;rfl;omega;omega;rfl)
   |(apply VVal.indexE;rfl;rfl;rfl;omega;omega;rfl)
   |(apply VVal.loadVL;rfl;rfl;omega;rfl)
   |(apply VVal.load;rfl;rfl)
   |(apply VVal.pick_true;rfl;rfl)
   |(apply VVal.pick_false;rfl;rfl)
   |(apply VVal.lenF;rfl;rfl)
   |(apply VVal.lenNil;rfl;rfl)
   |(apply VVal.lenV;rfl;rfl;rfl)
   |(apply VVal.fieldB;rfl;rfl;rfl)
   |(apply VVal.fieldF;rfl;rfl)
   |(apply VVal.box;rfl;trivial)
   |(apply VVal.alloc;rfl)
   |(apply VVal.storeB;rfl;rfl;rfl;trivial;rfl;rfl;exact lt_dec rfl;exact le_dec rfl)
   |(apply VVal.build;rfl;rfl;rfl;rfl;rfl)
   |(apply VVal.buildSlice;rfl;rfl;rfl;decide;rfl;rfl;rfl)
   |(apply VVal.lenSt;rfl;rfl)
   |(apply VVal.eqS;rfl;rfl)
   |(apply VVal.neS;rfl;rfl)
   |(apply VVal.indexStN;rfl;rfl;rfl;omega)
   |(apply VVal.indexSt;rfl;rfl;rfl;omega;omega)
   |(apply VVal.sliceSI;rfl;rfl;rfl;rfl;omega)
   |(apply VVal.sliceSto;rfl;rfl;rfl;omega)
   |(apply VVal.sliceSfrom;rfl;rfl;rfl;omega)
   |(apply VVal.convS;rfl;rfl;rfl)
   |(apply VVal.toBytes;rfl;rfl;rfl;rfl;rfl;rfl;omega)
   |(apply VVal.addS;rfl;rfl;(first|omega|(simp only [List.length_take,List.length_drop,List.length_append,List.length_singleton,List.length_cons,List.length_nil]<;>omega)))
   |(apply VVal.indexVN;rfl;rfl;rfl;rfl;omega)
   |(apply VVal.indexVE;rfl;rfl;rfl;rfl;omega;omega)
   |(apply VVal.neg;rfl;omega)
   |(apply VVal.neB;rfl;rfl;rfl)
   |(apply VVal.eqB;rfl;rfl;rfl)
   |(apply VVal.maxI;rfl;rfl)
   |(apply VVal.minI;rfl;rfl)
   |(apply VVal.not;rfl)
   |(apply VVal.extract;rfl;rfl)
   |(apply VVal.convI;rfl;rfl;rfl;rfl;omega)
   |(apply VVal.convU;rfl;rfl;rfl;rfl;omega)
   |(apply VVal.convB;rfl;rfl;rfl;rfl;omega)
   |(apply VVal.convInt;rfl;rfl;rfl;rfl)
   |(apply VVal.append1;rfl;rfl;rfl;rfl;rfl;rfl;rfl;rfl;(intro _ h;cases h);rfl;rfl;rfl;decide;decide;(first|omega|(simp only [List.length_take,List.length_drop,List.length_append,List.length_singleton,List.length_cons,List.length_nil]<;>omega)))
   |(apply VVal.appendL0;rfl;rfl;rfl;(first|rfl|omega|(simp only [List.length_take,List.length_drop,List.length_append,List.length_singleton,List.length_cons,List.length_nil]<;>omega));rfl;rfl;(intro _ h;cases h);rfl;rfl;rfl;decide;decide;(first|omega|(simp only [List.length_take,List.length_drop,List.length_append,List.length_singleton,List.length_cons,List.length_nil]<;>omega)))
   |(apply VVal.appendL;rfl;rfl;rfl;(first|rfl|omega|(simp only [List.length_take,List.length_drop,List.length_append,List.length_singleton,List.length_cons,List.length_nil]));(first|rfl|omega|(simp only [List.length_take,List.length_drop,List.length_append,List.length_singleton,List.length_cons,List.length_nil]<;>omega));rfl;rfl;(intro _ h;cases h);rfl;rfl;rfl;decide;decide;(first|omega|(simp only [List.length_take,List.length_drop,List.length_append,List.length_singleton,List.length_cons,List.length_nil]<;>omega)))
   |(apply VVal.shlOne;rfl;rfl;omega)
   |(apply VVal.shlOneU;rfl;rfl;omega)
   |(apply VVal.shrN;rfl;rfl;(simp only [IntKind.bits];omega))
   |(apply VVal.sliceTo;rfl;rfl;rfl;rfl;rfl;rfl;omega)
   |(apply VVal.sliceFrom;rfl;rfl;rfl;rfl;rfl;rfl;omega)
   |(apply VVal.sliceToI;rfl;rfl;rfl;rfl;rfl;rfl;omega)
   |(apply VVal.shr;rfl;rfl;omega)
   |(apply VVal.shl;rfl;rfl;omega)
   |(apply VWp.condSeq_true;rfl)
   |(apply VWp.condSeq_false;rfl)
   |(apply VWp.condSeq_dec;rfl)
   |(apply VWp.condSeq;rfl)
   |(apply VWp.cond_true;rfl)
   |(apply VWp.cond_false;rfl)
   |(apply VWp.cond_dec;rfl)
   |(apply VWp.cond;rfl)
   |(intro _;try (exfalso;omega)))
  all_goals first|(exfalso;omega)|(refine Done.ret rfl (.refl _) (by first|exact trivial|exact ⟨trivial,trivial,trivial⟩|exact ⟨trivial,trivial,trivial,trivial⟩) HCov.nil (Nat.zero_le _) (Nat.le_refl _) ⟨?_,rfl,rfl⟩;try rfl)
 ·rw [show fstR s v=((fstN s v:Int)-72,true) from if_neg h1] at hf
  rw [decide_eq_true (by simpa using h72.2 (by omega))] at m72
  have hw:=lwithin_spec ((fstN s v:Int)-72)
  have wk:wOk ((fstN s v:Int)-72):=by unfold wOk;omega
  rw [decide_eq_true wk] at hw
  have q1:=hms _ wk
  rw [decide_eq_true ((hiff (fstN s v) (by omega)).2 (Nat.le_refl _))] at q1
  have q2:0<fstN s v→VFun env 16 [.agg (Enc.enc s),.int .i64 ((fstN s v:Int)-72-1),.int .i64 v] (.p (.bool false)):=fun h0=>by
   have q:=hms ((fstN s v:Int)-72-1) (by unfold wOk;omega)
   rwa [decide_eq_false (fun h=>by
    have:=(hiff (fstN s v-1) (by omega)).1 (by rwa [show ((fstN s v-1:Nat):Int)-72=(fstN s v:Int)-72-1 by omega])
    omega)] at q
  generalize fstN s v=N at *
  refine VFun.enter (env_none (by decide)) Tryd.func7 rfl (by kernel_rfl) (by simp [Tryd.ntmps7]) ?_
  repeat' (first
   |apply VWp.assoc
   |apply VWp.rseq
   |apply VWp.rseqD
   |apply VWp.region
   |apply VWp.regionD
   |apply VWp.skipSeq
   |apply VWp.retSeq
   |apply VWp.exitSeq
   |apply VWp.blockSeq
   |apply QSeq.normal
   |apply QSeq.ret
   |apply QSeq.exit
   |(apply DoneI.ret;rfl)
   |(apply DoneI.normal;rfl)
   |apply QBlk.normal
   |apply QBlk.ret
   |apply QBlk.exit
   |(apply QBlk.out;decide)
   |apply QLoop.ret
   |apply QLoop.exit
   |apply VWp.ret
   |apply VWp.skip
   |apply VWp.exit
   |apply VWp.blockQ
   |apply VOps.nil
   |apply VOpsD.nil
   |apply VOps.one
   |(apply VOpsD.bar;decide +kernel)
   |apply VOpsD.quiet
   |(apply VOps.take;rfl;rfl)
   |(apply VOpsD.quietTake;rfl;rfl)
   |(apply VOps.drop;rfl;rfl;rfl)
   |(apply VOpsD.drop;rfl;rfl;rfl)
   |(apply VOps.guard;rfl;rfl)
   |(apply VOpsD.guard;rfl;rfl)
   |(apply VOps.dropU;rfl;rfl)
   |(apply VOpsD.dropU;rfl;rfl)
   |(apply VOps.guardB;rfl;rfl)
   |(apply VOpsD.guardB;rfl;rfl)
   |(apply VVal.fn;rfl;rfl;exact hk;intro _;rfl)
   |(apply VVal.fn;rfl;rfl;exact hm;intro _;rfl)
   |(apply VVal.fn;rfl;rfl;exact hf;intro _;rfl)
   |(apply VVal.fn;rfl;rfl;exact m72;intro _;rfl)
   |(apply VVal.fn;rfl;rfl;exact hw;intro _;rfl)
   |(apply VVal.fn;rfl;rfl;exact q1;intro _;rfl)
   |(apply VVal.fn;rfl;rfl;exact q2 (by omega);intro _;rfl)
   |(apply VVal.indexB;rfl;rfl;rfl;rfl;rfl;decide)
   |(apply VVal.assign;rfl)
   |(apply VVal.move;rfl)
   |(apply VVal.add64;rfl;rfl;omega)
   |(apply VVal.sub64;rfl;rfl;omega)
   |(apply VVal.mul64;rfl;rfl;omega)
   |(apply VVal.subBN (c:=48);rfl;rfl;omega)
   |(apply VVal.subB;rfl;rfl;omega)
   |(apply VVal.addB;rfl;rfl;omega)
   |(apply VVal.addUN;rfl;rfl;omega)
   |(apply VVal.mulUN;rfl;rfl;omega)
   |(apply VVal.subUN;rfl;rfl;omega)
   |(apply VVal.quoUN;rfl;rfl;omega)
   |(apply VVal.remUN;rfl;rfl;omega)
   |(apply VVal.quoUT;rfl;rfl;omega)
   |(apply VVal.remUT;rfl;rfl;omega)
   |(apply VVal.mulUN (a:=10);rfl;rfl;omega)
   |(apply VVal.and1;rfl;rfl;omega)
   |(apply VVal.and1U;rfl;rfl;omega)
   |(apply VVal.and1B;rfl;rfl;omega)
   |(apply VVal.andI;rfl;rfl;omega)
   |(apply VVal.andU;rfl;rfl;omega;omega)
   |(apply VVal.orU;rfl;rfl;omega;omega)
   |(apply VVal.andNotU;rfl;rfl;omega;omega)
   |(apply VVal.remI;rfl;rfl;omega;omega)
   |(apply VVal.quoI;rfl;rfl;omega;omega)
   |(apply VVal.int;rfl;rfl;rfl)
   |(apply VVal.indexN;rfl;rfl;rfl;omega;rfl)
   |(apply VVal.indexP;rfl;rfl;rfl;omega;omega;rfl)
   |(apply VVal.indexE;rfl;rfl;rfl;omega;omega;rfl)
   |(apply VVal.loadVL;rfl;rfl;omega;rfl)
   |(apply VVal.load;rfl;rfl)
   |(apply VVal.pick_true;rfl;rfl)
   |(apply VVal.pick_false;rfl;rfl)
   |(apply VVal.lenF;rfl;rfl)
   |(apply VVal.lenNil;rfl;rfl)
   |(apply VVal.lenV;rfl;rfl;rfl)
   |(apply VVal.fieldB;rfl;rfl;rfl)
   |(apply VVal.fieldF;rfl;rfl)
   |(apply VVal.box;rfl;trivial)
   |(apply VVal.alloc;rfl)
   |(apply VVal.storeB;rfl;rfl;rfl;trivial;rfl;rfl;exact lt_dec rfl;exact le_dec rfl)
   |(apply VVal.build;rfl;rfl;rfl;rfl;rfl)
   |(apply VVal.buildSlice;rfl;rfl;rfl;decide;rfl;rfl;rfl)
   |(apply VVal.lenSt;rfl;rfl)
   |(apply VVal.eqS;rfl;rfl)
   |(apply VVal.neS;rfl;rfl)
   |(apply VVal.indexStN;rfl;rfl;rfl;omega)
   |(apply VVal.indexSt;rfl;rfl;rfl;omega;omega)
   |(apply VVal.sliceSI;rfl;rfl;rfl;rfl;omega)
   |(apply VVal.sliceSto;rfl;rfl;rfl;omega)
   |(apply VVal.sliceSfrom;rfl;rfl;rfl;omega)
   |(apply VVal.convS;rfl;rfl;rfl)
   |(apply VVal.toBytes;rfl;rfl;rfl;rfl;rfl;rfl;omega)
   |(apply VVal.addS;rfl;rfl;(first|omega|(simp only [List.length_take,List.length_drop,List.length_append,List.length_singleton,List.length_cons,List.length_nil]<;>omega)))
   |(apply VVal.indexVN;rfl;rfl;rfl;rfl;omega)
   |(apply VVal.indexVE;rfl;rfl;rfl;rfl;omega;omega)
   |(apply VVal.neg;rfl;omega)
   |(apply VVal.neB;rfl;rfl;rfl)
   |(apply VVal.eqB;rfl;rfl;rfl)
   |(apply VVal.maxI;rfl;rfl)
   |(apply VVal.minI;rfl;rfl)
   |(apply VVal.not;rfl)
   |(apply VVal.extract;rfl;rfl)
   |(apply VVal.convI;rfl;rfl;rfl;rfl;omega)
   |(apply VVal.convU;rfl;rfl;rfl;rfl;omega)
   |(apply VVal.convB;rfl;rfl;rfl;rfl;omega)
   |(apply VVal.convInt;rfl;rfl;rfl;rfl)
   |(apply VVal.append1;rfl;rfl;rfl;rfl;rfl;rfl;rfl;rfl;(intro _ h;cases h);rfl;rfl;rfl;decide;decide;(first|omega|(simp only [List.length_take,List.length_drop,List.length_append,List.length_singleton,List.length_cons,List.length_nil]<;>omega)))
   |(apply VVal.appendL0;rfl;rfl;rfl;(first|rfl|omega|(simp only [List.length_take,List.length_drop,List.length_append,List.length_singleton,List.length_cons,List.length_nil]<;>omega));rfl;rfl;(intro _ h;cases h);rfl;rfl;rfl;decide;decide;(first|omega|(simp only [List.length_take,List.length_drop,List.length_append,List.length_singleton,List.length_cons,List.length_nil]<;>omega)))
   |(apply VVal.appendL;rfl;rfl;rfl;(first|rfl|omega|(simp only [List.length_take,List.length_drop,List.length_append,List.length_singleton,List.length_cons,List.length_nil]));(first|rfl|omega|(simp only [List.length_take,List.length_drop,List.length_append,List.length_singleton,List.length_cons,List.length_nil]<;>omega));rfl;rfl;(intro _ h;cases h);rfl;rfl;rfl;decide;decide;(first|omega|(simp only [List.length_take,List.length_drop,List.length_append,List.length_singleton,List.length_cons,List.length_nil]<;>omega)))
   |(apply VVal.shlOne;rfl;rfl;omega)
   |(apply VVal.shlOneU;rfl;rfl;omega)
   |(apply VVal.shrN;rfl;rfl;(simp only [IntKind.bits];omega))
   |(apply VVal.sliceTo;rfl;rfl;rfl;rfl;rfl;rfl;omega)
   |(apply VVal.sliceFrom;rfl;rfl;rfl;rfl;rfl;rfl;omega)
   |(apply VVal.sliceToI;rfl;rfl;rfl;rfl;rfl;rfl;omega)
   |(apply VVal.shr;rfl;rfl;omega)
   |(apply VVal.shl;rfl;rfl;omega)
   |(apply VWp.condSeq_true;rfl)
   |(apply VWp.condSeq_false;rfl)
   |(apply VWp.condSeq_dec;rfl)
   |(apply VWp.condSeq;rfl)
   |(apply VWp.cond_true;rfl)
   |(apply VWp.cond_false;rfl)
   |(apply VWp.cond_dec;rfl)
   |(apply VWp.cond;rfl)
   |(intro _;try (exfalso;omega)))
  all_goals first|(exfalso;omega)|(refine Done.ret rfl (.refl _) (by first|exact trivial|exact ⟨trivial,trivial,trivial⟩|exact ⟨trivial,trivial,trivial,trivial⟩) HCov.nil (Nat.zero_le _) (Nat.le_refl _) ⟨?_,rfl,rfl⟩;try rfl)
theorem hvl_split (b n want:Int) (k:Nat):∀ j,k≤j→∃ t,hvl b n want j=hvl b n want k++t:=by
 intro j hj
 induction hj with
 |refl=>exact ⟨[],by simp⟩
 |@step j hj ih =>
  obtain ⟨t,ht⟩:=ih
  rw [hvl_succ,ht]
  split
  ·exact ⟨t++[(j:Int)+1],by rw [List.append_assoc]⟩
  ·exact ⟨t,rfl⟩
theorem hvl_at {b n want:Int} {k:Nat} (hk:k<24) (h:mea ⟨b,(k:Int)+1,0⟩ n≤10000000∧mea ⟨b,(k:Int)+1,0⟩ n=want) :
 (hvl b n want k).length<(hvl b n want 24).length∧gi (hvl b n want 24) (hvl b n want k).length=(k:Int)+1:=by
 obtain ⟨t,ht⟩:=hvl_split b n want (k+1) 24 (by omega)
 rw [hvl_succ b n want k,if_pos h] at ht
 rw [ht]
 refine ⟨by simp,?_⟩
 unfold gi
 rw [List.getElem?_append_left (by simp)]
 simp
set_option maxRecDepth 100000 in
set_option maxHeartbeats 1000000 in
theorem halvings_spec (b n v:Int):VFun env 4 [.int .i64 b,.int .i64 n,.int .i64 v] (.p (.bool true)):=by
 have hk:=known_spec
 have hw:=lwithin_spec n
 by_cases h1:(1≤b∧b≤1000000)∧wOk n
 ·by_cases h2:b≤100
  ·have hh:=halv_spec b n v h1.1 h1.2
   rw [decide_eq_true h1.2] at hw
   have hb:=h1.1
   refine VFun.enter (env_none (by decide)) Tryd.func4 rfl (by kernel_rfl) (by simp [Tryd.ntmps4]) ?_
   repeat' (first
    |apply VWp.assoc
    |apply VWp.rseq
    |apply VWp.rseqD
    |apply VWp.region
    |apply VWp.regionD
    |apply VWp.skipSeq
    |apply VWp.retSeq
    |apply VWp.exitSeq
    |apply VWp.blockSeq
    |apply QSeq.normal
    |apply QSeq.ret
    |apply QSeq.exit
    |(apply DoneI.ret;rfl)
    |(apply DoneI.normal;rfl)
    |apply QBlk.normal
    |apply QBlk.ret
    |apply QBlk.exit
    |(apply QBlk.out;decide)
    |apply QLoop.ret
    |apply QLoop.exit
    |apply VWp.ret
    |apply VWp.skip
    |apply VWp.exit
    |apply VWp.blockQ
    |apply VOps.nil
    |apply VOpsD.nil
    |apply VOps.one
    |(apply VOpsD.bar;decide +kernel)
    |apply VOpsD.quiet
    |(apply VOps.take;rfl;rfl)
    |(apply VOpsD.quietTake;rfl;rfl)
    |(apply VOps.drop;rfl;rfl;rfl)
    |(apply VOpsD.drop;rfl;rfl;rfl)
    |(apply VOps.guard;rfl;rfl)
    |(apply VOpsD.guard;rfl;rfl)
    |(apply VOps.dropU;rfl;rfl)
    |(apply VOpsD.dropU;rfl;rfl)
    |(apply VOps.guardB;rfl;rfl)
    |(apply VOpsD.guardB;rfl;rfl)
    |(apply VVal.fn;rfl;rfl;exact hk;intro _;rfl)
    |(apply VVal.fn;rfl;rfl;exact hw;intro _;rfl)
    |(apply VVal.fn;rfl;rfl;exact hh;intro _;rfl)
    |(apply VVal.assign;rfl)
    |(apply VVal.move;rfl)
    |(apply VVal.add64;rfl;rfl;omega)
    |(apply VVal.sub64;rfl;rfl;omega)
    |(apply VVal.mul64;rfl;rfl;omega)
    |(apply VVal.subBN (c:=48);rfl;rfl;omega)
    |(apply VVal.subB;rfl;rfl;omega)
    |(apply VVal.addB;rfl;rfl;omega)
    |(apply VVal.addUN;rfl;rfl;omega)
    |(apply VVal.mulUN;rfl;rfl;omega)
    |(apply VVal.subUN;rfl;rfl;omega)
    |(apply VVal.quoUN;rfl;rfl;omega)
    |(apply VVal.remUN;rfl;rfl;omega)
    |(apply VVal.quoUT;rfl;rfl;omega)
    |(apply VVal.remUT;rfl;rfl;omega)
    |(apply VVal.mulUN (a:=10);rfl;rfl;omega)
    |(apply VVal.and1;rfl;rfl;omega)
    |(apply VVal.and1U;rfl;rfl;omega)
    |(apply VVal.and1B;rfl;rfl;omega)
    |(apply VVal.andI;rfl;rfl;omega)
    |(apply VVal.andU;rfl;rfl;omega;omega)
    |(apply VVal.orU;rfl;rfl;omega;omega)
    |(apply VVal.andNotU;rfl;rfl;omega;omega)
    |(apply VVal.remI;rfl;rfl;omega;omega)
    |(apply VVal.quoI;rfl;rfl;omega;omega)
    |(apply VVal.int;rfl;rfl;rfl)
    |(apply VVal.indexN;rfl;rfl;rfl;omega;rfl)
    |(apply VVal.indexP;rfl;rfl;rfl;omega;omega;rfl)
    |(apply VVal.indexE;rfl;rfl;rfl;omega;omega;rfl)
    |(apply VVal.loadVL;rfl;rfl;omega;rfl)
    |(apply VVal.load;rfl;rfl)
    |(apply VVal.pick_true;rfl;rfl)
    |(apply VVal.pick_false;rfl;rfl)
    |(apply VVal.lenF;rfl;rfl)
    |(apply VVal.lenNil;rfl;rfl)
    |(apply VVal.lenV;rfl;rfl;rfl)
    |(apply VVal.fieldB;rfl;rfl;rfl)
    |(apply VVal.fieldF;rfl;rfl)
    |(apply VVal.box;rfl;trivial)
    |(apply VVal.alloc;rfl)
    |(apply VVal.storeB;rfl;rfl;rfl;trivial;rfl;rfl;exact lt_dec rfl;exact le_dec rfl)
    |(apply VVal.build;rfl;rfl;rfl;rfl;rfl)
    |(apply VVal.buildSlice;rfl;rfl;rfl;decide;rfl;rfl;rfl)
    |(apply VVal.lenSt;rfl;rfl)
    |(apply VVal.eqS;rfl;rfl)
    |(apply VVal.neS;rfl;rfl)
    |(apply VVal.indexStN;rfl;rfl;rfl;omega)
    |(apply VVal.indexSt;rfl;rfl;rfl;omega;omega)
    |(apply VVal.sliceSI;rfl;rfl;rfl;rfl;omega)
    |(apply VVal.sliceSto;rfl;rfl;rfl;omega)
    |(apply VVal.sliceSfrom;rfl;rfl;rfl;omega)
    |(apply VVal.convS;rfl;rfl;rfl)
    |(apply VVal.toBytes;rfl;rfl;rfl;rfl;rfl;rfl;omega)
    |(apply VVal.addS;rfl;rfl;(first|omega|(simp only [List.length_take,List.length_drop,List.length_append,List.length_singleton,List.length_cons,List.length_nil]<;>omega)))
    |(apply VVal.indexVN;rfl;rfl;rfl;rfl;omega)
    |(apply VVal.indexVE;rfl;rfl;rfl;rfl;omega;omega)
    |(apply VVal.neg;rfl;omega)
    |(apply VVal.neB;rfl;rfl;rfl)
    |(apply VVal.eqB;rfl;rfl;rfl)
    |(apply VVal.maxI;rfl;rfl)
    |(apply VVal.minI;rfl;rfl)
    |(apply VVal.not;rfl)
    |(apply VVal.extract;rfl;rfl)
    |(apply VVal.convI;rfl;rfl;rfl;rfl;omega)
    |(apply VVal.convU;rfl;rfl;rfl;rfl;omega)
    |(apply VVal.convB;rfl;rfl;rfl;rfl;omega)
    |(apply VVal.convInt;rfl;rfl;rfl;rfl)
    |(apply VVal.append1;rfl;rfl;rfl;rfl;rfl;rfl;rfl;rfl;(intro _ h;cases h);rfl;rfl;rfl;decide;decide;(first|omega|(simp only [List.length_take,List.length_drop,List.length_append,List.length_singleton,List.length_cons,List.length_nil]<;>omega)))
    |(apply VVal.appendL0;rfl;rfl;rfl;(first|rfl|omega|(simp only [List.length_take,List.length_drop,List.length_append,List.length_singleton,List.length_cons,List.length_nil]<;>omega));rfl;rfl;(intro _ h;cases h);rfl;rfl;rfl;decide;decide;(first|omega|(simp only [List.length_take,List.length_drop,List.length_append,List.length_singleton,List.length_cons,List.length_nil]<;>omega)))
    |(apply VVal.appendL;rfl;rfl;rfl;(first|rfl|omega|(simp only [List.length_take,List.length_drop,List.length_append,List.length_singleton,List.length_cons,List.length_nil]));(first|rfl|omega|(simp only [List.length_take,List.length_drop,List.length_append,List.length_singleton,List.length_cons,List.length_nil]<;>omega));rfl;rfl;(intro _ h;cases h);rfl;rfl;rfl;decide;decide;(first|omega|(simp only [List.length_take,List.length_drop,List.length_append,List.length_singleton,List.length_cons,List.length_nil]<;>omega)))
    |(apply VVal.shlOne;rfl;rfl;omega)
    |(apply VVal.shlOneU;rfl;rfl;omega)
    |(apply VVal.shrN;rfl;rfl;(simp only [IntKind.bits];omega))
    |(apply VVal.sliceTo;rfl;rfl;rfl;rfl;rfl;rfl;omega)
    |(apply VVal.sliceFrom;rfl;rfl;rfl;rfl;rfl;rfl;omega)
    |(apply VVal.sliceToI;rfl;rfl;rfl;rfl;rfl;rfl;omega)
    |(apply VVal.shr;rfl;rfl;omega)
    |(apply VVal.shl;rfl;rfl;omega)
    |(apply VWp.condSeq_true;rfl)
    |(apply VWp.condSeq_false;rfl)
    |(apply VWp.condSeq_dec;rfl)
    |(apply VWp.condSeq;rfl)
    |(apply VWp.cond_true;rfl)
    |(apply VWp.cond_false;rfl)
    |(apply VWp.cond_dec;rfl)
    |(apply VWp.cond;rfl)
    |(intro _;try (exfalso;omega)))
   all_goals try (exfalso;omega)
   have h24:=hvl_len b n v 24
   refine VWp.loopQ (fun k:Nat=>[(0,.p (.int .i64 b)),(1,.p (.int .i64 n)),(2,.p (.int .i64 v)),(7,lst 3 (hvl b n v 24)),(8,.p (.int .i64 0)),(9,.p (.int .i64 ((hvl b n v k).length:Int))),(10,.p (.int .i64 ((k:Int)+1)))]) (fun _=>[]) 0 (fun k=>k≤24) (fun k=>24-k) 0 (by omega) (by omega) ⟨Nat.le_refl _,?_,?_⟩ ?_
   ·rw [hvl_zero];repeat (first|exact LCov.nil|refine LCov.same trivial rfl ?_|refine LCov.same (lt_dec rfl) rfl ?_|refine LCov.same ⟨trivial,lt_dec rfl,lt_dec rfl,lt_dec rfl,trivial⟩ rfl ?_|refine LCov.same ⟨trivial,lt_dec rfl,lt_dec rfl,trivial⟩ rfl ?_|refine LCov.same ⟨trivial,trivial⟩ rfl ?_|refine LCov.cons trivial rfl (.of_eq (lst_len (by simp<;>omega))) ?_)
   ·exact HCov.nil
   intro k hk'
   have hi:k<24→VFun env 17 [.agg [.int .i64 b,.int .i64 ((k:Int)+1),.int .i64 0],.int .i64 n,.int .i64 v] (.p (.bool (decide (v=mea ⟨b,(k:Int)+1,0⟩ n∧v≤10000000)))):=fun h=>is_spec ⟨b,(k:Int)+1,0⟩ n v ⟨by simp only;omega,by simp only;omega,by simp only;omega,by simp only;omega,by simp only;omega,by simp only;omega⟩ h1.2
   have hlen:=hvl_len b n v k
   by_cases h3:k<24
   ·have hpos:0≤mea ⟨b,(k:Int)+1,0⟩ n:=(mea_bd (s:=⟨b,(k:Int)+1,0⟩) ⟨by simp only;omega,by simp only;omega,by simp only;omega,by simp only;omega,by simp only;omega,by simp only;omega⟩ n).1
    have hi:=hi h3
    by_cases h4:v=mea ⟨b,(k:Int)+1,0⟩ n∧v≤10000000
    ·rw [decide_eq_true h4] at hi
     obtain ⟨g1,g2⟩:=hvl_at (b:=b) (n:=n) (want:=v) h3 ⟨by omega,by omega⟩
     have e:=hvl_succ b n v k
     rw [if_pos (by omega)] at e
     have e2:(hvl b n v (k+1)).length=(hvl b n v k).length+1:=by rw [e];simp
     repeat' (first
      |apply VWp.assoc
      |apply VWp.rseq
      |apply VWp.rseqD
      |apply VWp.region
      |apply VWp.regionD
      |apply VWp.skipSeq
      |apply VWp.retSeq
      |apply VWp.exitSeq
      |apply VWp.blockSeq
      |apply QSeq.normal
      |apply QSeq.ret
      |apply QSeq.exit
      |(apply DoneI.ret;rfl)
      |(apply DoneI.normal;rfl)
      |apply QBlk.normal
      |apply QBlk.ret
      |apply QBlk.exit
      |(apply QBlk.out;decide)
      |apply QLoop.ret
      |apply QLoop.exit
      |apply VWp.ret
      |apply VWp.skip
      |apply VWp.exit
      |apply VWp.blockQ
      |apply VOps.nil
      |apply VOpsD.nil
      |apply VOps.one
      |(apply VOpsD.bar;decide +kernel)
      |apply VOpsD.quiet
      |(apply VOps.take;rfl;rfl)
      |(apply VOpsD.quietTake;rfl;rfl)
      |(apply VOps.drop;rfl;rfl;rfl)
      |(apply VOpsD.drop;rfl;rfl;rfl)
      |(apply VOps.guard;rfl;rfl)
      |(apply VOpsD.guard;rfl;rfl)
      |(apply VOps.dropU;rfl;rfl)
      |(apply VOpsD.dropU;rfl;rfl)
      |(apply VOps.guardB;rfl;rfl)
      |(apply VOpsD.guardB;rfl;rfl)
      |(apply VVal.fn;rfl;rfl;exact hi;intro _;rfl)
      |(apply VVal.assign;rfl)
      |(apply VVal.move;rfl)
      |(apply VVal.add64;rfl;rfl;omega)
      |(apply VVal.sub64;rfl;rfl;omega)
      |(apply VVal.mul64;rfl;rfl;omega)
      |(apply VVal.subBN (c:=48);rfl;rfl;omega)
      |(apply VVal.subB;rfl;rfl;omega)
      |(apply VVal.addB;rfl;rfl;omega)
      |(apply VVal.addUN;rfl;rfl;omega)
      |(apply VVal.mulUN;rfl;rfl;omega)
      |(apply VVal.subUN;rfl;rfl;omega)
      |(apply VVal.quoUN;rfl;rfl;omega)
      |(apply VVal.remUN;rfl;rfl;omega)
      |(apply VVal.quoUT;rfl;rfl;omega)
      |(apply VVal.remUT;rfl;rfl;omega)
      |(apply VVal.mulUN (a:=10);rfl;rfl;omega)
      |(apply VVal.and1;rfl;rfl;omega)
      |(apply VVal.and1U;rfl;rfl;omega)
      |(apply VVal.and1B;rfl;rfl;omega)
      |(apply VVal.andI;rfl;rfl;omega)
      |(apply VVal.andU;rfl;rfl;omega;omega)
      |(apply VVal.orU;rfl;rfl;omega;omega)
      |(apply VVal.andNotU;rfl;rfl;omega;omega)
      |(apply VVal.remI;rfl;rfl;omega;omega)
      |(apply VVal.quoI;rfl;rfl;omega;omega)
      |(apply VVal.int;rfl;rfl;rfl)
      |(apply VVal.indexN;rfl;rfl;rfl;omega;rfl)
      |(apply VVal.indexP;rfl;rfl;rfl;omega;omega;rfl)
      |(apply VVal.indexE;rfl;rfl;rfl;omega;omega;rfl)
      |(apply VVal.loadVL;rfl;rfl;omega;rfl)
      |(apply VVal.load;rfl;rfl)
      |(apply VVal.pick_true;rfl;rfl)
      |(apply VVal.pick_false;rfl;rfl)
      |(apply VVal.lenF;rfl;rfl)
      |(apply VVal.lenNil;rfl;rfl)
      |(apply VVal.lenV;rfl;rfl;rfl)
      |(apply VVal.fieldB;rfl;rfl;rfl)
      |(apply VVal.fieldF;rfl;rfl)
      |(apply VVal.box;rfl;trivial)
      |(apply VVal.alloc;rfl)
      |(apply VVal.storeB;rfl;rfl;rfl;trivial;rfl;rfl;exact lt_dec rfl;exact le_dec rfl)
      |(apply VVal.build;rfl;rfl;rfl;rfl;rfl)
      |(apply VVal.buildSlice;rfl;rfl;rfl;decide;rfl;rfl;rfl)
      |(apply VVal.lenSt;rfl;rfl)
      |(apply VVal.eqS;rfl;rfl)
      |(apply VVal.neS;rfl;rfl)
      |(apply VVal.indexStN;rfl;rfl;rfl;omega)
      |(apply VVal.indexSt;rfl;rfl;rfl;omega;omega)
      |(apply VVal.sliceSI;rfl;rfl;rfl;rfl;omega)
      |(apply VVal.sliceSto;rfl;rfl;rfl;omega)
      |(apply VVal.sliceSfrom;rfl;rfl;rfl;omega)
      |(apply VVal.convS;rfl;rfl;rfl)
      |(apply VVal.toBytes;rfl;rfl;rfl;rfl;rfl;rfl;omega)
      |(apply VVal.addS;rfl;rfl;(first|omega|(simp only [List.length_take,List.length_drop,List.length_append,List.length_singleton,List.length_cons,List.length_nil]<;>omega)))
      |(apply VVal.indexVN;rfl;rfl;rfl;rfl;omega)
      |(apply VVal.indexVE;rfl;rfl;rfl;rfl;omega;omega)
      |(apply VVal.neg;rfl;omega)
      |(apply VVal.neB;rfl;rfl;rfl)
      |(apply VVal.eqB;rfl;rfl;rfl)
      |(apply VVal.maxI;rfl;rfl)
      |(apply VVal.minI;rfl;rfl)
      |(apply VVal.not;rfl)
      |(apply VVal.extract;rfl;rfl)
      |(apply VVal.convI;rfl;rfl;rfl;rfl;omega)
      |(apply VVal.convU;rfl;rfl;rfl;rfl;omega)
      |(apply VVal.convB;rfl;rfl;rfl;rfl;omega)
      |(apply VVal.convInt;rfl;rfl;rfl;rfl)
      |(apply VVal.append1;rfl;rfl;rfl;rfl;rfl;rfl;rfl;rfl;(intro _ h;cases h);rfl;rfl;rfl;decide;decide;(first|omega|(simp only [List.length_take,List.length_drop,List.length_append,List.length_singleton,List.length_cons,List.length_nil]<;>omega)))
      |(apply VVal.appendL0;rfl;rfl;rfl;(first|rfl|omega|(simp only [List.length_take,List.length_drop,List.length_append,List.length_singleton,List.length_cons,List.length_nil]<;>omega));rfl;rfl;(intro _ h;cases h);rfl;rfl;rfl;decide;decide;(first|omega|(simp only [List.length_take,List.length_drop,List.length_append,List.length_singleton,List.length_cons,List.length_nil]<;>omega)))
      |(apply VVal.appendL;rfl;rfl;rfl;(first|rfl|omega|(simp only [List.length_take,List.length_drop,List.length_append,List.length_singleton,List.length_cons,List.length_nil]));(first|rfl|omega|(simp only [List.length_take,List.length_drop,List.length_append,List.length_singleton,List.length_cons,List.length_nil]<;>omega));rfl;rfl;(intro _ h;cases h);rfl;rfl;rfl;decide;decide;(first|omega|(simp only [List.length_take,List.length_drop,List.length_append,List.length_singleton,List.length_cons,List.length_nil]<;>omega)))
      |(apply VVal.shlOne;rfl;rfl;omega)
      |(apply VVal.shlOneU;rfl;rfl;omega)
      |(apply VVal.shrN;rfl;rfl;(simp only [IntKind.bits];omega))
      |(apply VVal.sliceTo;rfl;rfl;rfl;rfl;rfl;rfl;omega)
      |(apply VVal.sliceFrom;rfl;rfl;rfl;rfl;rfl;rfl;omega)
      |(apply VVal.sliceToI;rfl;rfl;rfl;rfl;rfl;rfl;omega)
      |(apply VVal.shr;rfl;rfl;omega)
      |(apply VVal.shl;rfl;rfl;omega)
      |(apply VWp.condSeq_true;rfl)
      |(apply VWp.condSeq_false;rfl)
      |(apply VWp.condSeq_dec;rfl)
      |(apply VWp.condSeq;rfl)
      |(apply VWp.cond_true;rfl)
      |(apply VWp.cond_false;rfl)
      |(apply VWp.cond_dec;rfl)
      |(apply VWp.cond;rfl)
      |(intro _;try (exfalso;omega)))
     refine QLoop.normal ⟨k+1,by omega,by omega,⟨by omega,?_,?_⟩⟩
     ·rw [e2];repeat (first|exact LCov.nil|refine LCov.same trivial rfl ?_|refine LCov.same (lt_dec rfl) rfl ?_|refine LCov.same ⟨trivial,lt_dec rfl,lt_dec rfl,lt_dec rfl,trivial⟩ rfl ?_|refine LCov.same ⟨trivial,lt_dec rfl,lt_dec rfl,trivial⟩ rfl ?_|refine LCov.same ⟨trivial,trivial⟩ rfl ?_|refine LCov.cons trivial rfl (.of_eq (lst_len (by simp<;>omega))) ?_)
     ·exact HCov.nil
    ·rw [decide_eq_false h4] at hi
     have e:=hvl_succ b n v k
     rw [if_neg (by omega)] at e
     repeat' (first
      |apply VWp.assoc
      |apply VWp.rseq
      |apply VWp.rseqD
      |apply VWp.region
      |apply VWp.regionD
      |apply VWp.skipSeq
      |apply VWp.retSeq
      |apply VWp.exitSeq
      |apply VWp.blockSeq
      |apply QSeq.normal
      |apply QSeq.ret
      |apply QSeq.exit
      |(apply DoneI.ret;rfl)
      |(apply DoneI.normal;rfl)
      |apply QBlk.normal
      |apply QBlk.ret
      |apply QBlk.exit
      |(apply QBlk.out;decide)
      |apply QLoop.ret
      |apply QLoop.exit
      |apply VWp.ret
      |apply VWp.skip
      |apply VWp.exit
      |apply VWp.blockQ
      |apply VOps.nil
      |apply VOpsD.nil
      |apply VOps.one
      |(apply VOpsD.bar;decide +kernel)
      |apply VOpsD.quiet
      |(apply VOps.take;rfl;rfl)
      |(apply VOpsD.quietTake;rfl;rfl)
      |(apply VOps.drop;rfl;rfl;rfl)
      |(apply VOpsD.drop;rfl;rfl;rfl)
      |(apply VOps.guard;rfl;rfl)
      |(apply VOpsD.guard;rfl;rfl)
      |(apply VOps.dropU;rfl;rfl)
      |(apply VOpsD.dropU;rfl;rfl)
      |(apply VOps.guardB;rfl;rfl)
      |(apply VOpsD.guardB;rfl;rfl)
      |(apply VVal.fn;rfl;rfl;exact hi;intro _;rfl)
      |(apply VVal.assign;rfl)
      |(apply VVal.move;rfl)
      |(apply VVal.add64;rfl;rfl;omega)
      |(apply VVal.sub64;rfl;rfl;omega)
      |(apply VVal.mul64;rfl;rfl;omega)
      |(apply VVal.subBN (c:=48);rfl;rfl;omega)
      |(apply VVal.subB;rfl;rfl;omega)
      |(apply VVal.addB;rfl;rfl;omega)
      |(apply VVal.addUN;rfl;rfl;omega)
      |(apply VVal.mulUN;rfl;rfl;omega)
      |(apply VVal.subUN;rfl;rfl;omega)
      |(apply VVal.quoUN;rfl;rfl;omega)
      |(apply VVal.remUN;rfl;rfl;omega)
      |(apply VVal.quoUT;rfl;rfl;omega)
      |(apply VVal.remUT;rfl;rfl;omega)
      |(apply VVal.mulUN (a:=10);rfl;rfl;omega)
      |(apply VVal.and1;rfl;rfl;omega)
      |(apply VVal.and1U;rfl;rfl;omega)
      |(apply VVal.and1B;rfl;rfl;omega)
      |(apply VVal.andI;rfl;rfl;omega)
      |(apply VVal.andU;rfl;rfl;omega;omega)
      |(apply VVal.orU;rfl;rfl;omega;omega)
      |(apply VVal.andNotU;rfl;rfl;omega;omega)
      |(apply VVal.remI;rfl;rfl;omega;omega)
      |(apply VVal.quoI;rfl;rfl;omega;omega)
      |(apply VVal.int;rfl;rfl;rfl)
      |(apply VVal.indexN;rfl;rfl;rfl;omega;rfl)
      |(apply VVal.indexP;rfl;rfl;rfl;omega;omega;rfl)
      |(apply VVal.indexE;rfl;rfl;rfl;omega;omega;rfl)
      |(apply VVal.loadVL;rfl;rfl;omega;rfl)
      |(apply VVal.load;rfl;rfl)
      |(apply VVal.pick_true;rfl;rfl)
      |(apply VVal.pick_false;rfl;rfl)
      |(apply VVal.lenF;rfl;rfl)
      |(apply VVal.lenNil;rfl;rfl)
      |(apply VVal.lenV;rfl;rfl;rfl)
      |(apply VVal.fieldB;rfl;rfl;rfl)
      |(apply VVal.fieldF;rfl;rfl)
      |(apply VVal.box;rfl;trivial)
      |(apply VVal.alloc;rfl)
      |(apply VVal.storeB;rfl;rfl;rfl;trivial;rfl;rfl;exact lt_dec rfl;exact le_dec rfl)
      |(apply VVal.build;rfl;rfl;rfl;rfl;rfl)
      |(apply VVal.buildSlice;rfl;rfl;rfl;decide;rfl;rfl;rfl)
      |(apply VVal.lenSt;rfl;rfl)
      |(apply VVal.eqS;rfl;rfl)
      |(apply VVal.neS;rfl;rfl)
      |(apply VVal.indexStN;rfl;rfl;rfl;omega)
      |(apply VVal.indexSt;rfl;rfl;rfl;omega;omega)
      |(apply VVal.sliceSI;rfl;rfl;rfl;rfl;omega)
      |(apply VVal.sliceSto;rfl;rfl;rfl;omega)
      |(apply VVal.sliceSfrom;rfl;rfl;rfl;omega)
      |(apply VVal.convS;rfl;rfl;rfl)
      |(apply VVal.toBytes;rfl;rfl;rfl;rfl;rfl;rfl;omega)
      |(apply VVal.addS;rfl;rfl;(first|omega|(simp only [List.length_take,List.length_drop,List.length_append,List.length_singleton,List.length_cons,List.length_nil]<;>omega)))
      |(apply VVal.indexVN;rfl;rfl;rfl;rfl;omega)
      |(apply VVal.indexVE;rfl;rfl;rfl;rfl;omega;omega)
      |(apply VVal.neg;rfl;omega)
      |(apply VVal.neB;rfl;rfl;rfl)
      |(apply VVal.eqB;rfl;rfl;rfl)
      |(apply VVal.maxI;rfl;rfl)
      |(apply VVal.minI;rfl;rfl)
      |(apply VVal.not;rfl)
      |(apply VVal.extract;rfl;rfl)
      |(apply VVal.convI;rfl;rfl;rfl;rfl;omega)
      |(apply VVal.convU;rfl;rfl;rfl;rfl;omega)
      |(apply VVal.convB;rfl;rfl;rfl;rfl;omega)
      |(apply VVal.convInt;rfl;rfl;rfl;rfl)
      |(apply VVal.append1;rfl;rfl;rfl;rfl;rfl;rfl;rfl;rfl;(intro _ h;cases h);rfl;rfl;rfl;decide;decide;(first|omega|(simp only [List.length_take,List.length_drop,List.length_append,List.length_singleton,List.length_cons,List.length_nil]<;>omega)))
      |(apply VVal.appendL0;rfl;rfl;rfl;(first|rfl|omega|(simp only [List.length_take,List.length_drop,List.length_append,List.length_singleton,List.length_cons,List.length_nil]<;>omega));rfl;rfl;(intro _ h;cases h);rfl;rfl;rfl;decide;decide;(first|omega|(simp only [List.length_take,List.length_drop,List.length_append,List.length_singleton,List.length_cons,List.length_nil]<;>omega)))
      |(apply VVal.appendL;rfl;rfl;rfl;(first|rfl|omega|(simp only [List.length_take,List.length_drop,List.length_append,List.length_singleton,List.length_cons,List.length_nil]));(first|rfl|omega|(simp only [List.length_take,List.length_drop,List.length_append,List.length_singleton,List.length_cons,List.length_nil]<;>omega));rfl;rfl;(intro _ h;cases h);rfl;rfl;rfl;decide;decide;(first|omega|(simp only [List.length_take,List.length_drop,List.length_append,List.length_singleton,List.length_cons,List.length_nil]<;>omega)))
      |(apply VVal.shlOne;rfl;rfl;omega)
      |(apply VVal.shlOneU;rfl;rfl;omega)
      |(apply VVal.shrN;rfl;rfl;(simp only [IntKind.bits];omega))
      |(apply VVal.sliceTo;rfl;rfl;rfl;rfl;rfl;rfl;omega)
      |(apply VVal.sliceFrom;rfl;rfl;rfl;rfl;rfl;rfl;omega)
      |(apply VVal.sliceToI;rfl;rfl;rfl;rfl;rfl;rfl;omega)
      |(apply VVal.shr;rfl;rfl;omega)
      |(apply VVal.shl;rfl;rfl;omega)
      |(apply VWp.condSeq_true;rfl)
      |(apply VWp.condSeq_false;rfl)
      |(apply VWp.condSeq_dec;rfl)
      |(apply VWp.condSeq;rfl)
      |(apply VWp.cond_true;rfl)
      |(apply VWp.cond_false;rfl)
      |(apply VWp.cond_dec;rfl)
      |(apply VWp.cond;rfl)
      |(intro _;try (exfalso;omega)))
     all_goals
      refine QLoop.normal ⟨k+1,by omega,by omega,⟨by omega,?_,?_⟩⟩
      ·rw [e];repeat (first|exact LCov.nil|refine LCov.same trivial rfl ?_|refine LCov.same (lt_dec rfl) rfl ?_|refine LCov.same ⟨trivial,lt_dec rfl,lt_dec rfl,lt_dec rfl,trivial⟩ rfl ?_|refine LCov.same ⟨trivial,lt_dec rfl,lt_dec rfl,trivial⟩ rfl ?_|refine LCov.same ⟨trivial,trivial⟩ rfl ?_|refine LCov.cons trivial rfl (.of_eq (lst_len (by simp<;>omega))) ?_)
      ·exact HCov.nil
   ·obtain rfl:k=24:=by omega
    repeat' (first
     |apply VWp.assoc
     |apply VWp.rseq
     |apply VWp.rseqD
     |apply VWp.region
     |apply VWp.regionD
     |apply VWp.skipSeq
     |apply VWp.retSeq
     |apply VWp.exitSeq
     |apply VWp.blockSeq
     |apply QSeq.normal
     |apply QSeq.ret
     |apply QSeq.exit
     |(apply DoneI.ret;rfl)
     |(apply DoneI.normal;rfl)
     |apply QBlk.normal
     |apply QBlk.ret
     |apply QBlk.exit
     |(apply QBlk.out;decide)
     |apply QLoop.ret
     |apply QLoop.exit
     |apply VWp.ret
     |apply VWp.skip
     |apply VWp.exit
     |apply VWp.blockQ
     |apply VOps.nil
     |apply VOpsD.nil
     |apply VOps.one
     |(apply VOpsD.bar;decide +kernel)
     |apply VOpsD.quiet
     |(apply VOps.take;rfl;rfl)
     |(apply VOpsD.quietTake;rfl;rfl)
     |(apply VOps.drop;rfl;rfl;rfl)
     |(apply VOpsD.drop;rfl;rfl;rfl)
     |(apply VOps.guard;rfl;rfl)
     |(apply VOpsD.guard;rfl;rfl)
     |(apply VOps.dropU;rfl;rfl)
     |(apply VOpsD.dropU;rfl;rfl)
     |(apply VOps.guardB;rfl;rfl)
     |(apply VOpsD.guardB;rfl;rfl)
     |(apply VVal.assign;rfl)
     |(apply VVal.move;rfl)
     |(apply VVal.add64;rfl;rfl;omega)
     |(apply VVal.sub64;rfl;rfl;omega)
     |(apply VVal.mul64;rfl;rfl;omega)
     |(apply VVal.subBN (c:=48);rfl;rfl;omega)
     |(apply VVal.subB;rfl;rfl;omega)
     |(apply VVal.addB;rfl;rfl;omega)
     |(apply VVal.addUN;rfl;rfl;omega)
     |(apply VVal.mulUN;rfl;rfl;omega)
     |(apply VVal.subUN;rfl;rfl;omega)
     |(apply VVal.quoUN;rfl;rfl;omega)
     |(apply VVal.remUN;rfl;rfl;omega)
     |(apply VVal.quoUT;rfl;rfl;omega)
     |(apply VVal.remUT;rfl;rfl;omega)
     |(apply VVal.mulUN (a:=10);rfl;rfl;omega)
     |(apply VVal.and1;rfl;rfl;omega)
     |(apply VVal.and1U;rfl;rfl;omega)
     |(apply VVal.and1B;rfl;rfl;omega)
     |(apply VVal.andI;rfl;rfl;omega)
     |(apply VVal.andU;rfl;rfl;omega;omega)
     |(apply VVal.orU;rfl;rfl;omega;omega)
     |(apply VVal.andNotU;rfl;rfl;omega;omega)
     |(apply VVal.remI;rfl;rfl;omega;omega)
     |(apply VVal.quoI;rfl;rfl;omega;omega)
     |(apply VVal.int;rfl;rfl;rfl)
     |(apply VVal.indexN;rfl;rfl;rfl;omega;rfl)
     |(apply VVal.indexP;rfl;rfl;rfl;omega;omega;rfl)
     |(apply VVal.indexE;rfl;rfl;rfl;omega;omega;rfl)
     |(apply VVal.loadVL;rfl;rfl;omega;rfl)
     |(apply VVal.load;rfl;rfl)
     |(apply VVal.pick_true;rfl;rfl)
     |(apply VVal.pick_false;rfl;rfl)
     |(apply VVal.lenF;rfl;rfl)
     |(apply VVal.lenNil;rfl;rfl)
     |(apply VVal.lenV;rfl;rfl;rfl)
     |(apply VVal.fieldB;rfl;rfl;rfl)
     |(apply VVal.fieldF;rfl;rfl)
     |(apply VVal.box;rfl;trivial)
     |(apply VVal.alloc;rfl)
     |(apply VVal.storeB;rfl;rfl;rfl;trivial;rfl;rfl;exact lt_dec rfl;exact le_dec rfl)
     |(apply VVal.build;rfl;rfl;rfl;rfl;rfl)
     |(apply VVal.buildSlice;rfl;rfl;rfl;decide;rfl;rfl;rfl)
     |(apply VVal.lenSt;rfl;rfl)
     |(apply VVal.eqS;rfl;rfl)
     |(apply VVal.neS;rfl;rfl)
     |(apply VVal.indexStN;rfl;rfl;rfl;omega)
     |(apply VVal.indexSt;rfl;rfl;rfl;omega;omega)
     |(apply VVal.sliceSI;rfl;rfl;rfl;rfl;omega)
     |(apply VVal.sliceSto;rfl;rfl;rfl;omega)
     |(apply VVal.sliceSfrom;rfl;rfl;rfl;omega)
     |(apply VVal.convS;rfl;rfl;rfl)
     |(apply VVal.toBytes;rfl;rfl;rfl;rfl;rfl;rfl;omega)
     |(apply VVal.addS;rfl;rfl;(first|omega|(simp only [List.length_take,List.length_drop,List.length_append,List.length_singleton,List.length_cons,List.length_nil]<;>omega)))
     |(apply VVal.indexVN;rfl;rfl;rfl;rfl;omega)
     |(apply VVal.indexVE;rfl;rfl;rfl;rfl;omega;omega)
     |(apply VVal.neg;rfl;omega)
     |(apply VVal.neB;rfl;rfl;rfl)
     |(apply VVal.eqB;rfl;rfl;rfl)
     |(apply VVal.maxI;rfl;rfl)
     |(apply VVal.minI;rfl;rfl)
     |(apply VVal.not;rfl)
     |(apply VVal.extract;rfl;rfl)
     |(apply VVal.convI;rfl;rfl;rfl;rfl;omega)
     |(apply VVal.convU;rfl;rfl;rfl;rfl;omega)
     |(apply VVal.convB;rfl;rfl;rfl;rfl;omega)
     |(apply VVal.convInt;rfl;rfl;rfl;rfl)
     |(apply VVal.append1;rfl;rfl;rfl;rfl;rfl;rfl;rfl;rfl;(intro _ h;cases h);rfl;rfl;rfl;decide;decide;(first|omega|(simp only [List.length_take,List.length_drop,List.length_append,List.length_singleton,List.length_cons,List.length_nil]<;>omega)))
     |(apply VVal.appendL0;rfl;rfl;rfl;(first|rfl|omega|(simp only [List.length_take,List.length_drop,List.length_append,List.length_singleton,List.length_cons,List.length_nil]<;>omega));rfl;rfl;(intro _ h;cases h);rfl;rfl;rfl;decide;decide;(first|omega|(simp only [List.length_take,List.length_drop,List.length_append,List.length_singleton,List.length_cons,List.length_nil]<;>omega)))
     |(apply VVal.appendL;rfl;rfl;rfl;(first|rfl|omega|(simp only [List.length_take,List.length_drop,List.length_append,List.length_singleton,List.length_cons,List.length_nil]));(first|rfl|omega|(simp only [List.length_take,List.length_drop,List.length_append,List.length_singleton,List.length_cons,List.length_nil]<;>omega));rfl;rfl;(intro _ h;cases h);rfl;rfl;rfl;decide;decide;(first|omega|(simp only [List.length_take,List.length_drop,List.length_append,List.length_singleton,List.length_cons,List.length_nil]<;>omega)))
     |(apply VVal.shlOne;rfl;rfl;omega)
     |(apply VVal.shlOneU;rfl;rfl;omega)
     |(apply VVal.shrN;rfl;rfl;(simp only [IntKind.bits];omega))
     |(apply VVal.sliceTo;rfl;rfl;rfl;rfl;rfl;rfl;omega)
     |(apply VVal.sliceFrom;rfl;rfl;rfl;rfl;rfl;rfl;omega)
     |(apply VVal.sliceToI;rfl;rfl;rfl;rfl;rfl;rfl;omega)
     |(apply VVal.shr;rfl;rfl;omega)
     |(apply VVal.shl;rfl;rfl;omega)
     |(apply VWp.condSeq_true;rfl)
     |(apply VWp.condSeq_false;rfl)
     |(apply VWp.condSeq_dec;rfl)
     |(apply VWp.condSeq;rfl)
     |(apply VWp.cond_true;rfl)
     |(apply VWp.cond_false;rfl)
     |(apply VWp.cond_dec;rfl)
     |(apply VWp.cond;rfl)
     |(intro _;try (exfalso;omega)))
    all_goals first|(exfalso;omega)|(refine Done.ret rfl (.refl _) (by first|exact trivial|exact ⟨trivial,trivial,trivial⟩|exact ⟨trivial,trivial,trivial,trivial⟩) HCov.nil (Nat.zero_le _) (Nat.le_refl _) ⟨?_,rfl,rfl⟩;exact PV.bool_eq (decide_eq_true rfl))
  ·refine VFun.enter (env_none (by decide)) Tryd.func4 rfl (by kernel_rfl) (by simp [Tryd.ntmps4]) ?_
   have hb:=h1.1
   repeat' (first
    |apply VWp.assoc
    |apply VWp.rseq
    |apply VWp.rseqD
    |apply VWp.region
    |apply VWp.regionD
    |apply VWp.skipSeq
    |apply VWp.retSeq
    |apply VWp.exitSeq
    |apply VWp.blockSeq
    |apply QSeq.normal
    |apply QSeq.ret
    |apply QSeq.exit
    |(apply DoneI.ret;rfl)
    |(apply DoneI.normal;rfl)
    |apply QBlk.normal
    |apply QBlk.ret
    |apply QBlk.exit
    |(apply QBlk.out;decide)
    |apply QLoop.ret
    |apply QLoop.exit
    |apply VWp.ret
    |apply VWp.skip
    |apply VWp.exit
    |apply VWp.blockQ
    |apply VOps.nil
    |apply VOpsD.nil
    |apply VOps.one
    |(apply VOpsD.bar;decide +kernel)
    |apply VOpsD.quiet
    |(apply VOps.take;rfl;rfl)
    |(apply VOpsD.quietTake;rfl;rfl)
    |(apply VOps.drop;rfl;rfl;rfl)
    |(apply VOpsD.drop;rfl;rfl;rfl)
    |(apply VOps.guard;rfl;rfl)
    |(apply VOpsD.guard;rfl;rfl)
    |(apply VOps.dropU;rfl;rfl)
    |(apply VOpsD.dropU;rfl;rfl)
    |(apply VOps.guardB;rfl;rfl)
    |(apply VOpsD.guardB;rfl;rfl)
    |(apply VVal.fn;rfl;rfl;exact hk;intro _;rfl)
    |(apply VVal.assign;rfl)
    |(apply VVal.move;rfl)
    |(apply VVal.add64;rfl;rfl;omega)
    |(apply VVal.sub64;rfl;rfl;omega)
    |(apply VVal.mul64;rfl;rfl;omega)
    |(apply VVal.subBN (c:=48);rfl;rfl;omega)
    |(apply VVal.subB;rfl;rfl;omega)
    |(apply VVal.addB;rfl;rfl;omega)
    |(apply VVal.addUN;rfl;rfl;omega)
    |(apply VVal.mulUN;rfl;rfl;omega)
    |(apply VVal.subUN;rfl;rfl;omega)
    |(apply VVal.quoUN;rfl;rfl;omega)
    |(apply VVal.remUN;rfl;rfl;omega)
    |(apply VVal.quoUT;rfl;rfl;omega)
    |(apply VVal.remUT;rfl;rfl;omega)
    |(apply VVal.mulUN (a:=10);rfl;rfl;omega)
    |(apply VVal.and1;rfl;rfl;omega)
    |(apply VVal.and1U;rfl;rfl;omega)
    |(apply VVal.and1B;rfl;rfl;omega)
    |(apply VVal.andI;rfl;rfl;omega)
    |(apply VVal.andU;rfl;rfl;omega;omega)
    |(apply VVal.orU;rfl;rfl;omega;omega)
    |(apply VVal.andNotU;rfl;rfl;omega;omega)
    |(apply VVal.remI;rfl;rfl;omega;omega)
    |(apply VVal.quoI;rfl;rfl;omega;omega)
    |(apply VVal.int;rfl;rfl;rfl)
    |(apply VVal.indexN;rfl;rfl;rfl;omega;rfl)
    |(apply VVal.indexP;rfl;rfl;rfl;omega;omega;rfl)
    |(apply VVal.indexE;rfl;rfl;rfl;omega;omega;rfl)
    |(apply VVal.loadVL;rfl;rfl;omega;rfl)
    |(apply VVal.load;rfl;rfl)
    |(apply VVal.pick_true;rfl;rfl)
    |(apply VVal.pick_false;rfl;rfl)
    |(apply VVal.lenF;rfl;rfl)
    |(apply VVal.lenNil;rfl;rfl)
    |(apply VVal.lenV;rfl;rfl;rfl)
    |(apply VVal.fieldB;rfl;rfl;rfl)
    |(apply VVal.fieldF;rfl;rfl)
    |(apply VVal.box;rfl;trivial)
    |(apply VVal.alloc;rfl)
    |(apply VVal.storeB;rfl;rfl;rfl;trivial;rfl;rfl;exact lt_dec rfl;exact le_dec rfl)
    |(apply VVal.build;rfl;rfl;rfl;rfl;rfl)
    |(apply VVal.buildSlice;rfl;rfl;rfl;decide;rfl;rfl;rfl)
    |(apply VVal.lenSt;rfl;rfl)
    |(apply VVal.eqS;rfl;rfl)
    |(apply VVal.neS;rfl;rfl)
    |(apply VVal.indexStN;rfl;rfl;rfl;omega)
    |(apply VVal.indexSt;rfl;rfl;rfl;omega;omega)
    |(apply VVal.sliceSI;rfl;rfl;rfl;rfl;omega)
    |(apply VVal.sliceSto;rfl;rfl;rfl;omega)
    |(apply VVal.sliceSfrom;rfl;rfl;rfl;omega)
    |(apply VVal.convS;rfl;rfl;rfl)
    |(apply VVal.toBytes;rfl;rfl;rfl;rfl;rfl;rfl;omega)
    |(apply VVal.addS;rfl;rfl;(first|omega|(simp only [List.length_take,List.length_drop,List.length_append,List.length_singleton,List.length_cons,List.length_nil]<;>omega)))
    |(apply VVal.indexVN;rfl;rfl;rfl;rfl;omega)
    |(apply VVal.indexVE;rfl;rfl;rfl;rfl;omega;omega)
    |(apply VVal.neg;rfl;omega)
    |(apply VVal.neB;rfl;rfl;rfl)
    |(apply VVal.eqB;rfl;rfl;rfl)
    |(apply VVal.maxI;rfl;rfl)
    |(apply VVal.minI;rfl;rfl)
    |(apply VVal.not;rfl)
    |(apply VVal.extract;rfl;rfl)
    |(apply VVal.convI;rfl;rfl;rfl;rfl;omega)
    |(apply VVal.convU;rfl;rfl;rfl;rfl;omega)
    |(apply VVal.convB;rfl;rfl;rfl;rfl;omega)
    |(apply VVal.convInt;rfl;rfl;rfl;rfl)
    |(apply VVal.append1;rfl;rfl;rfl;rfl;rfl;rfl;rfl;rfl;(intro _ h;cases h);rfl;rfl;rfl;decide;decide;(first|omega|(simp only [List.length_take,List.length_drop,List.length_append,List.length_singleton,List.length_cons,List.length_nil]<;>omega)))
    |(apply VVal.appendL0;rfl;rfl;rfl;(first|rfl|omega|(simp only [List.length_take,List.length_drop,List.length_append,List.length_singleton,List.length_cons,List.length_nil]<;>omega));rfl;rfl;(intro _ h;cases h);rfl;rfl;rfl;decide;decide;(first|omega|(simp only [List.length_take,List.length_drop,List.length_append,List.length_singleton,List.length_cons,List.length_nil]<;>omega)))
    |(apply VVal.appendL;rfl;rfl;rfl;(first|rfl|omega|(simp only [List.length_take,List.length_drop,List.length_append,List.length_singleton,List.length_cons,List.length_nil]));(first|rfl|omega|(simp only [List.length_take,List.length_drop,List.length_append,List.length_singleton,List.length_cons,List.length_nil]<;>omega));rfl;rfl;(intro _ h;cases h);rfl;rfl;rfl;decide;decide;(first|omega|(simp only [List.length_take,List.length_drop,List.length_append,List.length_singleton,List.length_cons,List.length_nil]<;>omega)))
    |(apply VVal.shlOne;rfl;rfl;omega)
    |(apply VVal.shlOneU;rfl;rfl;omega)
    |(apply VVal.shrN;rfl;rfl;(simp only [IntKind.bits];omega))
    |(apply VVal.sliceTo;rfl;rfl;rfl;rfl;rfl;rfl;omega)
    |(apply VVal.sliceFrom;rfl;rfl;rfl;rfl;rfl;rfl;omega)
    |(apply VVal.sliceToI;rfl;rfl;rfl;rfl;rfl;rfl;omega)
    |(apply VVal.shr;rfl;rfl;omega)
    |(apply VVal.shl;rfl;rfl;omega)
    |(apply VWp.condSeq_true;rfl)
    |(apply VWp.condSeq_false;rfl)
    |(apply VWp.condSeq_dec;rfl)
    |(apply VWp.condSeq;rfl)
    |(apply VWp.cond_true;rfl)
    |(apply VWp.cond_false;rfl)
    |(apply VWp.cond_dec;rfl)
    |(apply VWp.cond;rfl)
    |(intro _;try (exfalso;omega)))
   all_goals first|(exfalso;omega)|(refine Done.ret rfl (.refl _) (by first|exact trivial|exact ⟨trivial,trivial,trivial⟩|exact ⟨trivial,trivial,trivial,trivial⟩) HCov.nil (Nat.zero_le _) (Nat.le_refl _) ⟨?_,rfl,rfl⟩;try rfl)
 ·have hh:=halv_bad b n v h1
  by_cases h2:wOk n
  ·rw [decide_eq_true h2] at hw
   have hb:¬ (1≤b∧b≤1000000):=fun h=>h1 ⟨h,h2⟩
   refine VFun.enter (env_none (by decide)) Tryd.func4 rfl (by kernel_rfl) (by simp [Tryd.ntmps4]) ?_
   repeat' (first
    |apply VWp.assoc
    |apply VWp.rseq
    |apply VWp.rseqD
    |apply VWp.region
    |apply VWp.regionD
    |apply VWp.skipSeq
    |apply VWp.retSeq
    |apply VWp.exitSeq
    |apply VWp.blockSeq
    |apply QSeq.normal
    |apply QSeq.ret
    |apply QSeq.exit
    |(apply DoneI.ret;rfl)
    |(apply DoneI.normal;rfl)
    |apply QBlk.normal
    |apply QBlk.ret
    |apply QBlk.exit
    |(apply QBlk.out;decide)
    |apply QLoop.ret
    |apply QLoop.exit
    |apply VWp.ret
    |apply VWp.skip
    |apply VWp.exit
    |apply VWp.blockQ
    |apply VOps.nil
    |apply VOpsD.nil
    |apply VOps.one
    |(apply VOpsD.bar;decide +kernel)
    |apply VOpsD.quiet
    |(apply VOps.take;rfl;rfl)
    |(apply VOpsD.quietTake;rfl;rfl)
    |(apply VOps.drop;rfl;rfl;rfl)
    |(apply VOpsD.drop;rfl;rfl;rfl)
    |(apply VOps.guard;rfl;rfl)
    |(apply VOpsD.guard;rfl;rfl)
    |(apply VOps.dropU;rfl;rfl)
    |(apply VOpsD.dropU;rfl;rfl)
    |(apply VOps.guardB;rfl;rfl)
    |(apply VOpsD.guardB;rfl;rfl)
    |(apply VVal.fn;rfl;rfl;exact hk;intro _;rfl)
    |(apply VVal.fn;rfl;rfl;exact hw;intro _;rfl)
    |(apply VVal.fn;rfl;rfl;exact hh;intro _;rfl)
    |(apply VVal.assign;rfl)
    |(apply VVal.move;rfl)
    |(apply VVal.add64;rfl;rfl;omega)
    |(apply VVal.sub64;rfl;rfl;omega)
    |(apply VVal.mul64;rfl;rfl;omega)
    |(apply VVal.subBN (c:=48);rfl;rfl;omega)
    |(apply VVal.subB;rfl;rfl;omega)
    |(apply VVal.addB;rfl;rfl;omega)
    |(apply VVal.addUN;rfl;rfl;omega)
    |(apply VVal.mulUN;rfl;rfl;omega)
    |(apply VVal.subUN;rfl;rfl;omega)
    |(apply VVal.quoUN;rfl;rfl;omega)
    |(apply VVal.remUN;rfl;rfl;omega)
    |(apply VVal.quoUT;rfl;rfl;omega)
    |(apply VVal.remUT;rfl;rfl;omega)
    |(apply VVal.mulUN (a:=10);rfl;rfl;omega)
    |(apply VVal.and1;rfl;rfl;omega)
    |(apply VVal.and1U;rfl;rfl;omega)
    |(apply VVal.and1B;rfl;rfl;omega)
    |(apply VVal.andI;rfl;rfl;omega)
    |(apply VVal.andU;rfl;rfl;omega;omega)
    |(apply VVal.orU;rfl;rfl;omega;omega)
    |(apply VVal.andNotU;rfl;rfl;omega;omega)
    |(apply VVal.remI;rfl;rfl;omega;omega)
    |(apply VVal.quoI;rfl;rfl;omega;omega)
    |(apply VVal.int;rfl;rfl;rfl)
    |(apply VVal.indexN;rfl;rfl;rfl;omega;rfl)
    |(apply VVal.indexP;rfl;rfl;rfl;omega;omega;rfl)
    |(apply VVal.indexE;rfl;rfl;rfl;omega;omega;rfl)
    |(apply VVal.loadVL;rfl;rfl;omega;rfl)
    |(apply VVal.load;rfl;rfl)
    |(apply VVal.pick_true;rfl;rfl)
    |(apply VVal.pick_false;rfl;rfl)
    |(apply VVal.lenF;rfl;rfl)
    |(apply VVal.lenNil;rfl;rfl)
    |(apply VVal.lenV;rfl;rfl;rfl)
    |(apply VVal.fieldB;rfl;rfl;rfl)
    |(apply VVal.fieldF;rfl;rfl)
    |(apply VVal.box;rfl;trivial)
    |(apply VVal.alloc;rfl)
    |(apply VVal.storeB;rfl;rfl;rfl;trivial;rfl;rfl;exact lt_dec rfl;exact le_dec rfl)
    |(apply VVal.build;rfl;rfl;rfl;rfl;rfl)
    |(apply VVal.buildSlice;rfl;rfl;rfl;decide;rfl;rfl;rfl)
    |(apply VVal.lenSt;rfl;rfl)
    |(apply VVal.eqS;rfl;rfl)
    |(apply VVal.neS;rfl;rfl)
    |(apply VVal.indexStN;rfl;rfl;rfl;omega)
    |(apply VVal.indexSt;rfl;rfl;rfl;omega;omega)
    |(apply VVal.sliceSI;rfl;rfl;rfl;rfl;omega)
    |(apply VVal.sliceSto;rfl;rfl;rfl;omega)
    |(apply VVal.sliceSfrom;rfl;rfl;rfl;omega)
    |(apply VVal.convS;rfl;rfl;rfl)
    |(apply VVal.toBytes;rfl;rfl;rfl;rfl;rfl;rfl;omega)
    |(apply VVal.addS;rfl;rfl;(first|omega|(simp only [List.length_take,List.length_drop,List.length_append,List.length_singleton,List.length_cons,List.length_nil]<;>omega)))
    |(apply VVal.indexVN;rfl;rfl;rfl;rfl;omega)
    |(apply VVal.indexVE;rfl;rfl;rfl;rfl;omega;omega)
    |(apply VVal.neg;rfl;omega)
    |(apply VVal.neB;rfl;rfl;rfl)
    |(apply VVal.eqB;rfl;rfl;rfl)
    |(apply VVal.maxI;rfl;rfl)
    |(apply VVal.minI;rfl;rfl)
    |(apply VVal.not;rfl)
    |(apply VVal.extract;rfl;rfl)
    |(apply VVal.convI;rfl;rfl;rfl;rfl;omega)
    |(apply VVal.convU;rfl;rfl;rfl;rfl;omega)
    |(apply VVal.convB;rfl;rfl;rfl;rfl;omega)
    |(apply VVal.convInt;rfl;rfl;rfl;rfl)
    |(apply VVal.append1;rfl;rfl;rfl;rfl;rfl;rfl;rfl;rfl;(intro _ h;cases h);rfl;rfl;rfl;decide;decide;(first|omega|(simp only [List.length_take,List.length_drop,List.length_append,List.length_singleton,List.length_cons,List.length_nil]<;>omega)))
    |(apply VVal.appendL0;rfl;rfl;rfl;(first|rfl|omega|(simp only [List.length_take,List.length_drop,List.length_append,List.length_singleton,List.length_cons,List.length_nil]<;>omega));rfl;rfl;(intro _ h;cases h);rfl;rfl;rfl;decide;decide;(first|omega|(simp only [List.length_take,List.length_drop,List.length_append,List.length_singleton,List.length_cons,List.length_nil]<;>omega)))
    |(apply VVal.appendL;rfl;rfl;rfl;(first|rfl|omega|(simp only [List.length_take,List.length_drop,List.length_append,List.length_singleton,List.length_cons,List.length_nil]));(first|rfl|omega|(simp only [List.length_take,List.length_drop,List.length_append,List.length_singleton,List.length_cons,List.length_nil]<;>omega));rfl;rfl;(intro _ h;cases h);rfl;rfl;rfl;decide;decide;(first|omega|(simp only [List.length_take,List.length_drop,List.length_append,List.length_singleton,List.length_cons,List.length_nil]<;>omega)))
    |(apply VVal.shlOne;rfl;rfl;omega)
    |(apply VVal.shlOneU;rfl;rfl;omega)
    |(apply VVal.shrN;rfl;rfl;(simp only [IntKind.bits];omega))
    |(apply VVal.sliceTo;rfl;rfl;rfl;rfl;rfl;rfl;omega)
    |(apply VVal.sliceFrom;rfl;rfl;rfl;rfl;rfl;rfl;omega)
    |(apply VVal.sliceToI;rfl;rfl;rfl;rfl;rfl;rfl;omega)
    |(apply VVal.shr;rfl;rfl;omega)
    |(apply VVal.shl;rfl;rfl;omega)
    |(apply VWp.condSeq_true;rfl)
    |(apply VWp.condSeq_false;rfl)
    |(apply VWp.condSeq_dec;rfl)
    |(apply VWp.condSeq;rfl)
    |(apply VWp.cond_true;rfl)
    |(apply VWp.cond_false;rfl)
    |(apply VWp.cond_dec;rfl)
    |(apply VWp.cond;rfl)
    |(intro _;try (exfalso;omega)))
   all_goals first|(exfalso;omega)|(refine Done.ret rfl (.refl _) (by first|exact trivial|exact ⟨trivial,trivial,trivial⟩|exact ⟨trivial,trivial,trivial,trivial⟩) HCov.nil (Nat.zero_le _) (Nat.le_refl _) ⟨?_,rfl,rfl⟩;try rfl)
  ·rw [decide_eq_false h2] at hw
   refine VFun.enter (env_none (by decide)) Tryd.func4 rfl (by kernel_rfl) (by simp [Tryd.ntmps4]) ?_
   repeat' (first
    |apply VWp.assoc
    |apply VWp.rseq
    |apply VWp.rseqD
    |apply VWp.region
    |apply VWp.regionD
    |apply VWp.skipSeq
    |apply VWp.retSeq
    |apply VWp.exitSeq
    |apply VWp.blockSeq
    |apply QSeq.normal
    |apply QSeq.ret
    |apply QSeq.exit
    |(apply DoneI.ret;rfl)
    |(apply DoneI.normal;rfl)
    |apply QBlk.normal
    |apply QBlk.ret
    |apply QBlk.exit
    |(apply QBlk.out;decide)
    |apply QLoop.ret
    |apply QLoop.exit
    |apply VWp.ret
    |apply VWp.skip
    |apply VWp.exit
    |apply VWp.blockQ
    |apply VOps.nil
    |apply VOpsD.nil
    |apply VOps.one
    |(apply VOpsD.bar;decide +kernel)
    |apply VOpsD.quiet
    |(apply VOps.take;rfl;rfl)
    |(apply VOpsD.quietTake;rfl;rfl)
    |(apply VOps.drop;rfl;rfl;rfl)
    |(apply VOpsD.drop;rfl;rfl;rfl)
    |(apply VOps.guard;rfl;rfl)
    |(apply VOpsD.guard;rfl;rfl)
    |(apply VOps.dropU;rfl;rfl)
    |(apply VOpsD.dropU;rfl;rfl)
    |(apply VOps.guardB;rfl;rfl)
    |(apply VOpsD.guardB;rfl;rfl)
    |(apply VVal.fn;rfl;rfl;exact hk;intro _;rfl)
    |(apply VVal.fn;rfl;rfl;exact hw;intro _;rfl)
    |(apply VVal.fn;rfl;rfl;exact hh;intro _;rfl)
    |(apply VVal.assign;rfl)
    |(apply VVal.move;rfl)
    |(apply VVal.add64;rfl;rfl;omega)
    |(apply VVal.sub64;rfl;rfl;omega)
    |(apply VVal.mul64;rfl;rfl;omega)
    |(apply VVal.subBN (c:=48);rfl;rfl;omega)
    |(apply VVal.subB;rfl;rfl;omega)
    |(apply VVal.addB;rfl;rfl;omega)
    |(apply VVal.addUN;rfl;rfl;omega)
    |(apply VVal.mulUN;rfl;rfl;omega)
    |(apply VVal.subUN;rfl;rfl;omega)
    |(apply VVal.quoUN;rfl;rfl;omega)
    |(apply VVal.remUN;rfl;rfl;omega)
    |(apply VVal.quoUT;rfl;rfl;omega)
    |(apply VVal.remUT;rfl;rfl;omega)
    |(apply VVal.mulUN (a:=10);rfl;rfl;omega)
    |(apply VVal.and1;rfl;rfl;omega)
    |(apply VVal.and1U;rfl;rfl;omega)
    |(apply VVal.and1B;rfl;rfl;omega)
    |(apply VVal.andI;rfl;rfl;omega)
    |(apply VVal.andU;rfl;rfl;omega;omega)
    |(apply VVal.orU;rfl;rfl;omega;omega)
    |(apply VVal.andNotU;rfl;rfl;omega;omega)
    |(apply VVal.remI;rfl;rfl;omega;omega)
    |(apply VVal.quoI;rfl;rfl;omega;omega)
    |(apply VVal.int;rfl;rfl;rfl)
    |(apply VVal.indexN;rfl;rfl;rfl;omega;rfl)
    |(apply VVal.indexP;rfl;rfl;rfl;omega;omega;rfl)
    |(apply VVal.indexE;rfl;rfl;rfl;omega;omega;rfl)
    |(apply VVal.loadVL;rfl;rfl;omega;rfl)
    |(apply VVal.load;rfl;rfl)
    |(apply VVal.pick_true;rfl;rfl)
    |(apply VVal.pick_false;rfl;rfl)
    |(apply VVal.lenF;rfl;rfl)
    |(apply VVal.lenNil;rfl;rfl)
    |(apply VVal.lenV;rfl;rfl;rfl)
    |(apply VVal.fieldB;rfl;rfl;rfl)
    |(apply VVal.fieldF;rfl;rfl)
    |(apply VVal.box;rfl;trivial)
    |(apply VVal.alloc;rfl)
    |(apply VVal.storeB;rfl;rfl;rfl;trivial;rfl;rfl;exact lt_dec rfl;exact le_dec rfl)
    |(apply VVal.build;rfl;rfl;rfl;rfl;rfl)
    |(apply VVal.buildSlice;rfl;rfl;rfl;decide;rfl;rfl;rfl)
    |(apply VVal.lenSt;rfl;rfl)
    |(apply VVal.eqS;rfl;rfl)
    |(apply VVal.neS;rfl;rfl)
    |(apply VVal.indexStN;rfl;rfl;rfl;omega)
    |(apply VVal.indexSt;rfl;rfl;rfl;omega;omega)
    |(apply VVal.sliceSI;rfl;rfl;rfl;rfl;omega)
    |(apply VVal.sliceSto;rfl;rfl;rfl;omega)
    |(apply VVal.sliceSfrom;rfl;rfl;rfl;omega)
    |(apply VVal.convS;rfl;rfl;rfl)
    |(apply VVal.toBytes;rfl;rfl;rfl;rfl;rfl;rfl;omega)
    |(apply VVal.addS;rfl;rfl;(first|omega|(simp only [List.length_take,List.length_drop,List.length_append,List.length_singleton,List.length_cons,List.length_nil]<;>omega)))
    |(apply VVal.indexVN;rfl;rfl;rfl;rfl;omega)
    |(apply VVal.indexVE;rfl;rfl;rfl;rfl;omega;omega)
    |(apply VVal.neg;rfl;omega)
    |(apply VVal.neB;rfl;rfl;rfl)
    |(apply VVal.eqB;rfl;rfl;rfl)
    |(apply VVal.maxI;rfl;rfl)
    |(apply VVal.minI;rfl;rfl)
    |(apply VVal.not;rfl)
    |(apply VVal.extract;rfl;rfl)
    |(apply VVal.convI;rfl;rfl;rfl;rfl;omega)
    |(apply VVal.convU;rfl;rfl;rfl;rfl;omega)
    |(apply VVal.convB;rfl;rfl;rfl;rfl;omega)
    |(apply VVal.convInt;rfl;rfl;rfl;rfl)
    |(apply VVal.append1;rfl;rfl;rfl;rfl;rfl;rfl;rfl;rfl;(intro _ h;cases h);rfl;rfl;rfl;decide;decide;(first|omega|(simp only [List.length_take,List.length_drop,List.length_append,List.length_singleton,List.length_cons,List.length_nil]<;>omega)))
    |(apply VVal.appendL0;rfl;rfl;rfl;(first|rfl|omega|(simp only [List.length_take,List.length_drop,List.length_append,List.length_singleton,List.length_cons,List.length_nil]<;>omega));rfl;rfl;(intro _ h;cases h);rfl;rfl;rfl;decide;decide;(first|omega|(simp only [List.length_take,List.length_drop,List.length_append,List.length_singleton,List.length_cons,List.length_nil]<;>omega)))
    |(apply VVal.appendL;rfl;rfl;rfl;(first|rfl|omega|(simp only [List.length_take,List.length_drop,List.length_append,List.length_singleton,List.length_cons,List.length_nil]));(first|rfl|omega|(simp only [List.length_take,List.length_drop,List.length_append,List.length_singleton,List.length_cons,List.length_nil]<;>omega));rfl;rfl;(intro _ h;cases h);rfl;rfl;rfl;decide;decide;(first|omega|(simp only [List.length_take,List.length_drop,List.length_append,List.length_singleton,List.length_cons,List.length_nil]<;>omega)))
    |(apply VVal.shlOne;rfl;rfl;omega)
    |(apply VVal.shlOneU;rfl;rfl;omega)
    |(apply VVal.shrN;rfl;rfl;(simp only [IntKind.bits];omega))
    |(apply VVal.sliceTo;rfl;rfl;rfl;rfl;rfl;rfl;omega)
    |(apply VVal.sliceFrom;rfl;rfl;rfl;rfl;rfl;rfl;omega)
    |(apply VVal.sliceToI;rfl;rfl;rfl;rfl;rfl;rfl;omega)
    |(apply VVal.shr;rfl;rfl;omega)
    |(apply VVal.shl;rfl;rfl;omega)
    |(apply VWp.condSeq_true;rfl)
    |(apply VWp.condSeq_false;rfl)
    |(apply VWp.condSeq_dec;rfl)
    |(apply VWp.condSeq;rfl)
    |(apply VWp.cond_true;rfl)
    |(apply VWp.cond_false;rfl)
    |(apply VWp.cond_dec;rfl)
    |(apply VWp.cond;rfl)
    |(intro _;try (exfalso;omega)))
   all_goals first|(exfalso;omega)|(refine Done.ret rfl (.refl _) (by first|exact trivial|exact ⟨trivial,trivial,trivial⟩|exact ⟨trivial,trivial,trivial,trivial⟩) HCov.nil (Nat.zero_le _) (Nat.le_refl _) ⟨?_,rfl,rfl⟩;try rfl)
end Go.Proofs.YtemfebbakfhknaaDoor
