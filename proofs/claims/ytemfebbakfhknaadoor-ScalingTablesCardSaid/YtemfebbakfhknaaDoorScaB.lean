/-
  The layer of scaling: what Check, value, Value, First and Length compute. Conditions: in each statement.
-/
import Derived.Test.YtemfebbakfhknaaDoorScaA
set_option linter.unusedSimpArgs false
set_option linter.unusedVariables false
namespace Go.Proofs.YtemfebbakfhknaaDoor
open Go Go.Am Go.Vm Go.Sca
attribute [local irreducible] VVal VOps VOpsD VWp VCalls VFun VFunV QSeq QBlk QLoop Vm.Done DoneV DoneI
structure Scl where
 base:Int
 halv:Int
 add:Int
instance:Enc Scl:={ default:=⟨0,0,0⟩,enc:=fun s=>[.int .i64 s.base,.int .i64 s.halv,.int .i64 s.add],size:=3,len:=fun _=>rfl }
def sOk (s:Scl):Prop:=1≤s.base∧s.base≤1000000∧1≤s.halv∧s.halv≤24∧0≤s.add∧s.add≤1000000
instance (s:Scl):Decidable (sOk s):=by unfold sOk;infer_instance
def chk (s:Scl):Int:=if sOk s then 0 else 3
def wOk (n:Int):Prop:=-72≤n∧n≤72
instance (n:Int):Decidable (wOk n):=by unfold wOk;infer_instance
def win (n:Int):Int:=if wOk n then 0 else 3
def mea (s:Scl) (n:Int):Int:=((me s.base.toNat 1 s.halv.toNat n:Nat):Int)+s.add
theorem mea_bd {s:Scl} (h:sOk s) (n:Int):0≤mea s n∧s.add≤mea s n∧mea s n≤11000001:=by
 have:=rnd_le (sl 1 s.halv.toNat n) (sr s.base.toNat s.halv.toNat n) s.halv.toNat
 obtain ⟨_,_,_,_,_,_⟩:=h
 have e:me s.base.toNat 1 s.halv.toNat n=rnd (sl 1 s.halv.toNat n) (sr s.base.toNat s.halv.toNat n) s.halv.toNat:=rfl
 unfold mea
 omega
theorem mea_le {s:Scl} {m n:Int} (h:m≤n):mea s n≤mea s m:=by
 have:=me_le (num:=s.base.toNat) (den:=1) (h:=s.halv.toNat) h
 unfold mea;omega
set_option maxRecDepth 100000 in
theorem scheck_spec (s:Scl):VFun env 26 [.agg (Enc.enc s)] (.p (.int .i64 (chk s))):=by
 refine VFun.enter (env_none (by decide)) Tryd.func26 rfl (by kernel_rfl) (by simp [Tryd.ntmps26]) ?_
 repeat' (first
  |apply VWp.assoc
  |apply VWp.rseq
  |apply VWp.rseqD
  |apply VWp.region
  |apply VWp.regionD
  |apply VWp.skipSeq
  |apply VWp.retSeq
  |apply VWp.exitSeq
  |apply VWp.blockSeq
  |apply QSeq.normal
  |apply QSeq.ret
  |apply QSeq.exit
  |(apply DoneI.ret;rfl)
  |(apply DoneI.normal;rfl)
  |apply QBlk.normal
  |apply QBlk.ret
  |apply QBlk.exit
  |(apply QBlk.out;decide)
  |apply QLoop.ret
  |apply QLoop.exit
  |apply VWp.ret
  |apply VWp.skip
  |apply VWp.exit
  |apply VWp.blockQ
  |apply VOps.nil
  |apply VOpsD.nil
  |apply VOps.one
  |(apply VOpsD.bar;decide +kernel)
  |apply VOpsD.quiet
  |(apply VOps.take;rfl;rfl)
  |(apply VOpsD.quietTake;rfl;rfl)
  |(apply VOps.drop;rfl;rfl;rfl)
  |(apply VOpsD.drop;rfl;rfl;rfl)
  |(apply VOps.guard;rfl;rfl)
  |(apply VOpsD.guard;rfl;rfl)
  |(apply VOps.dropU;rfl;rfl)
  |(apply VOpsD.dropU;rfl;rfl)
  |(apply VOps.guardB;rfl;rfl)
  |(apply VOpsD.guardB;rfl;rfl)
  |(apply VVal.assign;rfl)
  |(apply VVal.move;rfl)
  |(apply VVal.add64;rfl;rfl;omega)
  |(apply VVal.sub64;rfl;rfl;omega)
  |(apply VVal.mul64;rfl;rfl;omega)
  |(apply VVal.subBN (c:=48);rfl;rfl;omega)
  |(apply VVal.subB;rfl;rfl;omega)
  |(apply VVal.addB;rfl;rfl;omega)
  |(apply VVal.addUN;rfl;rfl;omega)
  |(apply VVal.mulUN;rfl;rfl;omega)
  |(apply VVal.subUN;rfl;rfl;omega)
  |(apply VVal.quoUN;rfl;rfl;omega)
  |(apply VVal.remUN;rfl;rfl;omega)
  |(apply VVal.quoUT;rfl;rfl;omega)
  |(apply VVal.remUT;rfl;rfl;omega)
  |(apply VVal.mulUN (a:=10);rfl;rfl;omega)
  |(apply VVal.and1;rfl;rfl;omega)
  |(apply VVal.and1U;rfl;rfl;omega)
  |(apply VVal.and1B;rfl;rfl;omega)
  |(apply VVal.andI;rfl;rfl;omega)
  |(apply VVal.andU;rfl;rfl;omega;omega)
  |(apply VVal.orU;rfl;rfl;omega;omega)
  |(apply VVal.andNotU;rfl;rfl;omega;omega)
  |(apply VVal.remI;rfl;rfl;omega;omega)
  |(apply VVal.quoI;rfl;rfl;omega;omega)
  |(apply VVal.int;rfl;rfl;rfl)
  |(apply VVal.indexN;rfl;rfl;rfl;omega;rfl)
  |(apply VVal.indexP;rfl;rfl;rfl;omega;omega;rfl)
  |(apply VVal.indexE;rfl;rfl;rfl;omega;omega;rfl)
  |(apply VVal.loadVL;rfl;rfl;omega;rfl)
  |(apply VVal.load;rfl;rfl)
  |(apply VVal.pick_true;rfl;rfl)
  |(apply VVal.pick_false;rfl;rfl)
  |(apply VVal.lenF;rfl;rfl)
  |(apply VVal.lenNil;rfl;rfl)
  |(apply VVal.lenV;rfl;rfl;rfl)
  |(apply VVal.fieldB;rfl;rfl;rfl)
  |(apply VVal.fieldF;rfl;rfl)
  |(apply VVal.box;rfl;trivial)
  |(apply VVal.alloc;rfl)
  |(apply VVal.storeB;rfl;rfl;rfl;trivial;rfl;rfl;exact lt_dec rfl;exact le_dec rfl)
  |(apply VVal.build;rfl;rfl;rfl;rfl;rfl)
  |(apply VVal.buildSlice;rfl;rfl;rfl;decide;rfl;rfl;rfl)
  |(apply VVal.lenSt;rfl;rfl)
  |(apply VVal.eqS;rfl;rfl)
  |(apply VVal.neS;rfl;rfl)
  |(apply VVal.indexStN;rfl;rfl;rfl;omega)
  |(apply VVal.indexSt;rfl;rfl;rfl;omega;omega)
  |(apply VVal.sliceSI;rfl;rfl;rfl;rfl;omega)
  |(apply VVal.sliceSto;rfl;rfl;rfl;omega)
  |(apply VVal.sliceSfrom;rfl;rfl;rfl;omega)
  |(apply VVal.convS;rfl;rfl;rfl)
  |(apply VVal.toBytes;rfl;rfl;rfl;rfl;rfl;rfl;omega)
  |(apply VVal.addS;rfl;rfl;(first|omega|(simp only [List.length_take,List.length_drop,List.length_append,List.length_singleton,List.length_cons,List.length_nil]<;>omega)))
  |(apply VVal.indexVN;rfl;rfl;rfl;rfl;omega)
  |(apply VVal.indexVE;rfl;rfl;rfl;rfl;omega;omega)
  |(apply VVal.neg;rfl;omega)
  |(apply VVal.neB;rfl;rfl;rfl)
  |(apply VVal.eqB;rfl;rfl;rfl)
  |(apply VVal.maxI;rfl;rfl)
  |(apply VVal.minI;rfl;rfl)
  |(apply VVal.not;rfl)
  |(apply VVal.extract;rfl;rfl)
  |(apply VVal.convI;rfl;rfl;rfl;rfl;omega)
  |(apply VVal.convU;rfl;rfl;rfl;rfl;omega)
  |(apply VVal.convB;rfl;rfl;rfl;rfl;omega)
  |(apply VVal.convInt;rfl;rfl;rfl;rfl)
  |(apply VVal.append1;rfl;rfl;rfl;rfl;rfl;rfl;rfl;rfl;(intro _ h;cases h);rfl;rfl;rfl;decide;decide;(first|omega|(simp only [List.length_take,List.length_drop,List.length_append,List.length_singleton,List.length_cons,List.length_nil]<;>omega)))
  |(apply VVal.appendL0;rfl;rfl;rfl;(first|rfl|omega|(simp only [List.length_take,List.length_drop,List.length_append,List.length_singleton,List.length_cons,List.length_nil]<;>omega));rfl;rfl;(intro _ h;cases h);rfl;rfl;rfl;decide;decide;(first|omega|(simp only [List.length_take,List.length_drop,List.length_append,List.length_singleton,List.length_cons,List.length_nil]<;>omega)))
  |(apply VVal.appendL;rfl;rfl;rfl;(first|rfl|omega|(simp only [List.length_take,List.length_drop,List.length_append,List.length_singleton,List.length_cons,List.length_nil]));(first|rfl|omega|(simp only [List.length_take,List.length_drop,List.length_append,List.length_singleton,List.length_cons,List.length_nil]<;>omega));rfl;rfl;(intro _ h;cases h);rfl;rfl;rfl;decide;decide;(first|omega|(simp only [List.length_take,List.length_drop,List.length_append,List.length_singleton,List.length_cons,List.length_nil]<;>omega)))
  |(apply VVal.shlOne;rfl;rfl;omega)
  |(apply VVal.shlOneU;rfl;rfl;omega)
  |(apply VVal.shrN;rfl;rfl;(simp only [IntKind.bits];omega))
  |(apply VVal.sliceTo;rfl;rfl;rfl;rfl;rfl;rfl;omega)
  |(apply VVal.sliceFrom;rfl;rfl;rfl;rfl;rfl;rfl;omega)
  |(apply VVal.sliceToI;rfl;rfl;rfl;rfl;rfl;rfl;omega)
  |(apply VVal.shr;rfl;rfl;omega)
  |(apply VVal.shl;rfl;rfl;omega)
  |(apply VWp.condSeq_true;rfl)
  |(apply VWp.condSeq_false;rfl)
  |(apply VWp.condSeq_dec;rfl)
  |(apply VWp.condSeq;rfl)
  |(apply VWp.cond_true;rfl)
  |(apply VWp.cond_false;rfl)
  |(apply VWp.cond_dec;rfl)
  |(apply VWp.cond;rfl)
  |(intro _;try (exfalso;omega)))
 all_goals (refine Done.ret rfl (.refl _) (by first|exact trivial|exact ⟨trivial,trivial,trivial⟩|exact ⟨trivial,trivial,trivial,trivial⟩) HCov.nil (Nat.zero_le _) (Nat.le_refl _) ⟨?_,rfl,rfl⟩;refine PV.int_eq ?_;unfold chk;first|(rw [if_neg (show ¬ sOk s from fun h=>by unfold sOk at h;omega)];done)|(rw [if_pos (show sOk s from by unfold sOk;omega)];done))
set_option maxRecDepth 100000 in
theorem swithin_spec (n:Int):VFun env 27 [.int .i64 n] (.p (.int .i64 (win n))):=by
 refine VFun.enter (env_none (by decide)) Tryd.func27 rfl (by kernel_rfl) (by simp [Tryd.ntmps27]) ?_
 repeat' (first
  |apply VWp.assoc
  |apply VWp.rseq
  |apply VWp.rseqD
  |apply VWp.region
  |apply VWp.regionD
  |apply VWp.skipSeq
  |apply VWp.retSeq
  |apply VWp.exitSeq
  |apply VWp.blockSeq
  |apply QSeq.normal
  |apply QSeq.ret
  |apply QSeq.exit
  |(apply DoneI.ret;rfl)
  |(apply DoneI.normal;rfl)
  |apply QBlk.normal
  |apply QBlk.ret
  |apply QBlk.exit
  |(apply QBlk.out;decide)
  |apply QLoop.ret
  |apply QLoop.exit
  |apply VWp.ret
  |apply VWp.skip
  |apply VWp.exit
  |apply VWp.blockQ
  |apply VOps.nil
  |apply VOpsD.nil
  |apply VOps.one
  |(apply VOpsD.bar;decide +kernel)
  |apply VOpsD.quiet
  |(apply VOps.take;rfl;rfl)
  |(apply VOpsD.quietTake;rfl;rfl)
  |(apply VOps.drop;rfl;rfl;rfl)
  |(apply VOpsD.drop;rfl;rfl;rfl)
  |(apply VOps.guard;rfl;rfl)
  |(apply VOpsD.guard;rfl;rfl)
  |(apply VOps.dropU;rfl;rfl)
  |(apply VOpsD.dropU;rfl;rfl)
  |(apply VOps.guardB;rfl;rfl)
  |(apply VOpsD.guardB;rfl;rfl)
  |(apply VVal.assign;rfl)
  |(apply VVal.move;rfl)
  |(apply VVal.add64;rfl;rfl;omega)
  |(apply VVal.sub64;rfl;rfl;omega)
  |(apply VVal.mul64;rfl;rfl;omega)
  |(apply VVal.subBN (c:=48);rfl;rfl;omega)
  |(apply VVal.subB;rfl;rfl;omega)
  |(apply VVal.addB;rfl;rfl;omega)
  |(apply VVal.addUN;rfl;rfl;omega)
  |(apply VVal.mulUN;rfl;rfl;omega)
  |(apply VVal.subUN;rfl;rfl;omega)
  |(apply VVal.quoUN;rfl;rfl;omega)
  |(apply VVal.remUN;rfl;rfl;omega)
  |(apply VVal.quoUT;rfl;rfl;omega)
  |(apply VVal.remUT;rfl;rfl;omega)
  |(apply VVal.mulUN (a:=10);rfl;rfl;omega)
  |(apply VVal.and1;rfl;rfl;omega)
  |(apply VVal.and1U;rfl;rfl;omega)
  |(apply VVal.and1B;rfl;rfl;omega)
  |(apply VVal.andI;rfl;rfl;omega)
  |(apply VVal.andU;rfl;rfl;omega;omega)
  |(apply VVal.orU;rfl;rfl;omega;omega)
  |(apply VVal.andNotU;rfl;rfl;omega;omega)
  |(apply VVal.remI;rfl;rfl;omega;omega)
  |(apply VVal.quoI;rfl;rfl;omega;omega)
  |(apply VVal.int;rfl;rfl;rfl)
  |(apply VVal.indexN;rfl;rfl;rfl;omega;rfl)
  |(apply VVal.indexP;rfl;rfl;rfl;omega;omega;rfl)
  |(apply VVal.indexE;rfl;rfl;rfl;omega;omega;rfl)
  |(apply VVal.loadVL;rfl;rfl;omega;rfl)
  |(apply VVal.load;rfl;rfl)
  |(apply VVal.pick_true;rfl;rfl)
  |(apply VVal.pick_false;rfl;rfl)
  |(apply VVal.lenF;rfl;rfl)
  |(apply VVal.lenNil;rfl;rfl)
  |(apply VVal.lenV;rfl;rfl;rfl)
  |(apply VVal.fieldB;rfl;rfl;rfl)
  |(apply VVal.fieldF;rfl;rfl)
  |(apply VVal.box;rfl;trivial)
  |(apply VVal.alloc;rfl)
  |(apply VVal.storeB;rfl;rfl;rfl;trivial;rfl;rfl;exact lt_dec rfl;exact le_dec rfl)
  |(apply VVal.build;rfl;rfl;rfl;rfl;rfl)
  |(apply VVal.buildSlice;rfl;rfl;rfl;decide;rfl;rfl;rfl)
  |(apply VVal.lenSt;rfl;rfl)
  |(apply VVal.eqS;rfl;rfl)
  |(apply VVal.neS;rfl;rfl)
  |(apply VVal.indexStN;rfl;rfl;rfl;omega)
  |(apply VVal.indexSt;rfl;rfl;rfl;omega;omega)
  |(apply VVal.sliceSI;rfl;rfl;rfl;rfl;omega)
  |(apply VVal.sliceSto;rfl;rfl;rfl;omega)
  |(apply VVal.sliceSfrom;rfl;rfl;rfl;omega)
  |(apply VVal.convS;rfl;rfl;rfl)
  |(apply VVal.toBytes;rfl;rfl;rfl;rfl;rfl;rfl;omega)
  |(apply VVal.addS;rfl;rfl;(first|omega|(simp only [List.length_take,List.length_drop,List.length_append,List.length_singleton,List.length_cons,List.length_nil]<;>omega)))
  |(apply VVal.indexVN;rfl;rfl;rfl;rfl;omega)
  |(apply VVal.indexVE;rfl;rfl;rfl;rfl;omega;omega)
  |(apply VVal.neg;rfl;omega)
  |(apply VVal.neB;rfl;rfl;rfl)
  |(apply VVal.eqB;rfl;rfl;rfl)
  |(apply VVal.maxI;rfl;rfl)
  |(apply VVal.minI;rfl;rfl)
  |(apply VVal.not;rfl)
  |(apply VVal.extract;rfl;rfl)
  |(apply VVal.convI;rfl;rfl;rfl;rfl;omega)
  |(apply VVal.convU;rfl;rfl;rfl;rfl;omega)
  |(apply VVal.convB;rfl;rfl;rfl;rfl;omega)
  |(apply VVal.convInt;rfl;rfl;rfl;rfl)
  |(apply VVal.append1;rfl;rfl;rfl;rfl;rfl;rfl;rfl;rfl;(intro _ h;cases h);rfl;rfl;rfl;decide;decide;(first|omega|(simp only [List.length_take,List.length_drop,List.length_append,List.length_singleton,List.length_cons,List.length_nil]<;>omega)))
  |(apply VVal.appendL0;rfl;rfl;rfl;(first|rfl|omega|(simp only [List.length_take,List.length_drop,List.length_append,List.length_singleton,List.length_cons,List.length_nil]<;>omega));rfl;rfl;(intro _ h;cases h);rfl;rfl;rfl;decide;decide;(first|omega|(simp only [List.length_take,List.length_drop,List.length_append,List.length_singleton,List.length_cons,List.length_nil]<;>omega)))
  |(apply VVal.appendL;rfl;rfl;rfl;(first|rfl|omega|(simp only [List.length_take,List.length_drop,List.length_append,List.length_singleton,List.length_cons,List.length_nil]));(first|rfl|omega|(simp only [List.length_take,List.length_drop,List.length_append,List.length_singleton,List.length_cons,List.length_nil]<;>omega));rfl;rfl;(intro _ h;cases h);rfl;rfl;rfl;decide;decide;(first|omega|(simp only [List.length_take,List.length_drop,List.length_append,List.length_singleton,List.length_cons,List.length_nil]<;>omega)))
  |(apply VVal.shlOne;rfl;rfl;omega)
  |(apply VVal.shlOneU;rfl;rfl;omega)
  |(apply VVal.shrN;rfl;rfl;(simp only [IntKind.bits];omega))
  |(apply VVal.sliceTo;rfl;rfl;rfl;rfl;rfl;rfl;omega)
  |(apply VVal.sliceFrom;rfl;rfl;rfl;rfl;rfl;rfl;omega)
  |(apply VVal.sliceToI;rfl;rfl;rfl;rfl;rfl;rfl;omega)
  |(apply VVal.shr;rfl;rfl;omega)
  |(apply VVal.shl;rfl;rfl;omega)
  |(apply VWp.condSeq_true;rfl)
  |(apply VWp.condSeq_false;rfl)
  |(apply VWp.condSeq_dec;rfl)
  |(apply VWp.condSeq;rfl)
  |(apply VWp.cond_true;rfl)
  |(apply VWp.cond_false;rfl)
  |(apply VWp.cond_dec;rfl)
  |(apply VWp.cond;rfl)
  |(intro _;try (exfalso;omega)))
 all_goals (refine Done.ret rfl (.refl _) (by first|exact trivial|exact ⟨trivial,trivial,trivial⟩|exact ⟨trivial,trivial,trivial,trivial⟩) HCov.nil (Nat.zero_le _) (Nat.le_refl _) ⟨?_,rfl,rfl⟩;refine PV.int_eq ?_;unfold win;first|(rw [if_neg (show ¬ wOk n from fun h=>by unfold wOk at h;omega)];done)|(rw [if_pos (show wOk n from by unfold wOk;omega)];done))
set_option maxRecDepth 100000 in
theorem svalue_spec (s:Scl) (n:Int) (hs:sOk s) (hn:wOk n):VFun env 28 [.agg (Enc.enc s),.int .i64 n] (.tup [.p (.int .i64 (mea s n)),.p (.bool (decide (mea s n≤10000000)))]):=by
 have hb:=mea_bd hs n
 obtain ⟨h1,h2,h3,h4,h5,h6⟩:=hs
 obtain ⟨h7,h8⟩:=hn
 have hr:=rounded_spec s.base.toNat 1 s.halv.toNat n (by omega) (by omega) (by omega) (by omega)
 rw [Int.toNat_of_nonneg (by omega),Int.toNat_of_nonneg (by omega)] at hr
 have e:mea s n=((me s.base.toNat 1 s.halv.toNat n:Nat):Int)+s.add:=rfl
 rw [e] at hb ⊢
 generalize me s.base.toNat 1 s.halv.toNat n=M at *
 refine VFun.enter (env_none (by decide)) Tryd.func28 rfl (by kernel_rfl) (by simp [Tryd.ntmps28]) ?_
 repeat' (first
  |apply VWp.assoc
  |apply VWp.rseq
  |apply VWp.rseqD
  |apply VWp.region
  |apply VWp.regionD
  |apply VWp.skipSeq
  |apply VWp.retSeq
  |apply VWp.exitSeq
  |apply VWp.blockSeq
  |apply QSeq.normal
  |apply QSeq.ret
  |apply QSeq.exit
  |(apply DoneI.ret;rfl)
  |(apply DoneI.normal;rfl)
  |apply QBlk.normal
  |apply QBlk.ret
  |apply QBlk.exit
  |(apply QBlk.out;decide)
  |apply QLoop.ret
  |apply QLoop.exit
  |apply VWp.ret
  |apply VWp.skip
  |apply VWp.exit
  |apply VWp.blockQ
  |apply VOps.nil
  |apply VOpsD.nil
  |apply VOps.one
  |(apply VOpsD.bar;decide +kernel)
  |apply VOpsD.quiet
  |(apply VOps.take;rfl;rfl)
  |(apply VOpsD.quietTake;rfl;rfl)
  |(apply VOps.drop;rfl;rfl;rfl)
  |(apply VOpsD.drop;rfl;rfl;rfl)
  |(apply VOps.guard;rfl;rfl)
  |(apply VOpsD.guard;rfl;rfl)
  |(apply VOps.dropU;rfl;rfl)
  |(apply VOpsD.dropU;rfl;rfl)
  |(apply VOps.guardB;rfl;rfl)
  |(apply VOpsD.guardB;rfl;rfl)
  |(apply VVal.fn;rfl;rfl;exact hr;intro _;rfl)
  |(apply VVal.assign;rfl)
  |(apply VVal.move;rfl)
  |(apply VVal.add64;rfl;rfl;omega)
  |(apply VVal.sub64;rfl;rfl;omega)
  |(apply VVal.mul64;rfl;rfl;omega)
  |(apply VVal.subBN (c:=48);rfl;rfl;omega)
  |(apply VVal.subB;rfl;rfl;omega)
  |(apply VVal.addB;rfl;rfl;omega)
  |(apply VVal.addUN;rfl;rfl;omega)
  |(apply VVal.mulUN;rfl;rfl;omega)
  |(apply VVal.subUN;rfl;rfl;omega)
  |(apply VVal.quoUN;rfl;rfl;omega)
  |(apply VVal.remUN;rfl;rfl;omega)
  |(apply VVal.quoUT;rfl;rfl;omega)
  |(apply VVal.remUT;rfl;rfl;omega)
  |(apply VVal.mulUN (a:=10);rfl;rfl;omega)
  |(apply VVal.and1;rfl;rfl;omega)
  |(apply VVal.and1U;rfl;rfl;omega)
  |(apply VVal.and1B;rfl;rfl;omega)
  |(apply VVal.andI;rfl;rfl;omega)
  |(apply VVal.andU;rfl;rfl;omega;omega)
  |(apply VVal.orU;rfl;rfl;omega;omega)
  |(apply VVal.andNotU;rfl;rfl;omega;omega)
  |(apply VVal.remI;rfl;rfl;omega;omega)
  |(apply VVal.quoI;rfl;rfl;omega;omega)
  |(apply VVal.int;rfl;rfl;rfl)
  |(apply VVal.indexN;rfl;rfl;rfl;omega;rfl)
  |(apply VVal.indexP;rfl;rfl;rfl;omega;omega;rfl)
  |(apply VVal.indexE;rfl;rfl;rfl;omega;omega;rfl)
  |(apply VVal.loadVL;rfl;rfl;omega;rfl)
  |(apply VVal.load;rfl;rfl)
  |(apply VVal.pick_true;rfl;rfl)
  |(apply VVal.pick_false;rfl;rfl)
  |(apply VVal.lenF;rfl;rfl)
  |(apply VVal.lenNil;rfl;rfl)
  |(apply VVal.lenV;rfl;rfl;rfl)
  |(apply VVal.fieldB;rfl;rfl;rfl)
  |(apply VVal.fieldF;rfl;rfl)
  |(apply VVal.box;rfl;trivial)
  |(apply VVal.alloc;rfl)
  |(apply VVal.storeB;rfl;rfl;rfl;trivial;rfl;rfl;exact lt_dec rfl;exact le_dec rfl)
  |(apply VVal.build;rfl;rfl;rfl;rfl;rfl)
  |(apply VVal.buildSlice;rfl;rfl;rfl;decide;rfl;rfl;rfl)
  |(apply VVal.lenSt;rfl;rfl)
  |(apply VVal.eqS;rfl;rfl)
  |(apply VVal.neS;rfl;rfl)
  |(apply VVal.indexStN;rfl;rfl;rfl;omega)
  |(apply VVal.indexSt;rfl;rfl;rfl;omega;omega)
  |(apply VVal.sliceSI;rfl;rfl;rfl;rfl;omega)
  |(apply VVal.sliceSto;rfl;rfl;rfl;omega)
  |(apply VVal.sliceSfrom;rfl;rfl;rfl;omega)
  |(apply VVal.convS;rfl;rfl;rfl)
  |(apply VVal.toBytes;rfl;rfl;rfl;rfl;rfl;rfl;omega)
  |(apply VVal.addS;rfl;rfl;(first|omega|(simp only [List.length_take,List.length_drop,List.length_append,List.length_singleton,List.length_cons,List.length_nil]<;>omega)))
  |(apply VVal.indexVN;rfl;rfl;rfl;rfl;omega)
  |(apply VVal.indexVE;rfl;rfl;rfl;rfl;omega;omega)
  |(apply VVal.neg;rfl;omega)
  |(apply VVal.neB;rfl;rfl;rfl)
  |(apply VVal.eqB;rfl;rfl;rfl)
  |(apply VVal.maxI;rfl;rfl)
  |(apply VVal.minI;rfl;rfl)
  |(apply VVal.not;rfl)
  |(apply VVal.extract;rfl;rfl)
  |(apply VVal.convI;rfl;rfl;rfl;rfl;omega)
  |(apply VVal.convU;rfl;rfl;rfl;rfl;omega)
  |(apply VVal.convB;rfl;rfl;rfl;rfl;omega)
  |(apply VVal.convInt;rfl;rfl;rfl;rfl)
  |(apply VVal.append1;rfl;rfl;rfl;rfl;rfl;rfl;rfl;rfl;(intro _ h;cases h);rfl;rfl;rfl;decide;decide;(first|omega|(simp only [List.length_take,List.length_drop,List.length_append,List.length_singleton,List.length_cons,List.length_nil]<;>omega)))
  |(apply VVal.appendL0;rfl;rfl;rfl;(first|rfl|omega|(simp only [List.length_take,List.length_drop,List.length_append,List.length_singleton,List.length_cons,List.length_nil]<;>omega));rfl;rfl;(intro _ h;cases h);rfl;rfl;rfl;decide;decide;(first|omega|(simp only [List.length_take,List.length_drop,List.length_append,List.length_singleton,List.length_cons,List.length_nil]<;>omega)))
  |(apply VVal.appendL;rfl;rfl;rfl;(first|rfl|omega|(simp only [List.length_take,List.length_drop,List.length_append,List.length_singleton,List.length_cons,List.length_nil]));(first|rfl|omega|(simp only [List.length_take,List.length_drop,List.length_append,List.length_singleton,List.length_cons,List.length_nil]<;>omega));rfl;rfl;(intro _ h;cases h);rfl;rfl;rfl;decide;decide;(first|omega|(simp only [List.length_take,List.length_drop,List.length_append,List.length_singleton,List.length_cons,List.length_nil]<;>omega)))
  |(apply VVal.shlOne;rfl;rfl;omega)
  |(apply VVal.shlOneU;rfl;rfl;omega)
  |(apply VVal.shrN;rfl;rfl;(simp only [IntKind.bits];omega))
  |(apply VVal.sliceTo;rfl;rfl;rfl;rfl;rfl;rfl;omega)
  |(apply VVal.sliceFrom;rfl;rfl;rfl;rfl;rfl;rfl;omega)
  |(apply VVal.sliceToI;rfl;rfl;rfl;rfl;rfl;rfl;omega)
  |(apply VVal.shr;rfl;rfl;omega)
  |(apply VVal.shl;rfl;rfl;omega)
  |(apply VWp.condSeq_true;rfl)
  |(apply VWp.condSeq_false;rfl)
  |(apply VWp.condSeq_dec;rfl)
  |(apply VWp.condSeq;rfl)
  |(apply VWp.cond_true;rfl)
  |(apply VWp.cond_false;rfl)
  |(apply VWp.cond_dec;rfl)
  |(apply VWp.cond;rfl)
  |(intro _;try (exfalso;omega)))
 all_goals (refine Done.ret rfl (.refl _) (by first|exact trivial|exact ⟨trivial,trivial,trivial⟩|exact ⟨trivial,trivial,trivial,trivial⟩) HCov.nil (Nat.zero_le _) (Nat.le_refl _) ⟨?_,rfl,rfl⟩;try rfl)
def valR (s:Scl) (n:Int):Int×Int:=if sOk s∧wOk n then (if mea s n≤10000000 then (mea s n,0) else (0,4)) else (0,3)
set_option maxRecDepth 100000 in
theorem sValue_spec (s:Scl) (n:Int):VFun env 13 [.agg (Enc.enc s),.int .i64 n] (.tup [.p (.int .i64 (valR s n).1),.p (.int .i64 (valR s n).2)]):=by
 have hc:=scheck_spec s
 have hw:=swithin_spec n
 refine VFun.enter (env_none (by decide)) Tryd.func13 rfl (by kernel_rfl) (by simp [Tryd.ntmps13]) ?_
 by_cases h1:sOk s
 ·rw [show chk s=0 from if_pos h1] at hc
  by_cases h2:wOk n
  ·rw [show win n=0 from if_pos h2] at hw
   have hv:=svalue_spec s n h1 h2
   unfold valR;rw [if_pos ⟨h1,h2⟩]
   repeat' (first
    |apply VWp.assoc
    |apply VWp.rseq
    |apply VWp.rseqD
    |apply VWp.region
    |apply VWp.regionD
    |apply VWp.skipSeq
    |apply VWp.retSeq
    |apply VWp.exitSeq
    |apply VWp.blockSeq
    |apply QSeq.normal
    |apply QSeq.ret
    |apply QSeq.exit
    |(apply DoneI.ret;rfl)
    |(apply DoneI.normal;rfl)
    |apply QBlk.normal
    |apply QBlk.ret
    |apply QBlk.exit
    |(apply QBlk.out;decide)
    |apply QLoop.ret
    |apply QLoop.exit
    |apply VWp.ret
    |apply VWp.skip
    |apply VWp.exit
    |apply VWp.blockQ
    |apply VOps.nil
    |apply VOpsD.nil
    |apply VOps.one
    |(apply VOpsD.bar;decide +kernel)
    |apply VOpsD.quiet
    |(apply VOps.take;rfl;rfl)
    |(apply VOpsD.quietTake;rfl;rfl)
    |(apply VOps.drop;rfl;rfl;rfl)
    |(apply VOpsD.drop;rfl;rfl;rfl)
    |(apply VOps.guard;rfl;rfl)
    |(apply VOpsD.guard;rfl;rfl)
    |(apply VOps.dropU;rfl;rfl)
    |(apply VOpsD.dropU;rfl;rfl)
    |(apply VOps.guardB;rfl;rfl)
    |(apply VOpsD.guardB;rfl;rfl)
    |(apply VVal.fn;rfl;rfl;exact hc;intro _;rfl)
    |(apply VVal.fn;rfl;rfl;exact hw;intro _;rfl)
    |(apply VVal.fn;rfl;rfl;exact hv;intro _;rfl)
    |(apply VVal.notD;rfl)
    |(apply VVal.assign;rfl)
    |(apply VVal.move;rfl)
    |(apply VVal.add64;rfl;rfl;omega)
    |(apply VVal.sub64;rfl;rfl;omega)
    |(apply VVal.mul64;rfl;rfl;omega)
    |(apply VVal.subBN (c:=48);rfl;rfl;omega)
    |(apply VVal.subB;rfl;rfl;omega)
    |(apply VVal.addB;rfl;rfl;omega)
    |(apply VVal.addUN;rfl;rfl;omega)
    |(apply VVal.mulUN;rfl;rfl;omega)
    |(apply VVal.subUN;rfl;rfl;omega)
    |(apply VVal.quoUN;rfl;rfl;omega)
    |(apply VVal.remUN;rfl;rfl;omega)
    |(apply VVal.quoUT;rfl;rfl;omega)
    |(apply VVal.remUT;rfl;rfl;omega)
    |(apply VVal.mulUN (a:=10);rfl;rfl;omega)
    |(apply VVal.and1;rfl;rfl;omega)
    |(apply VVal.and1U;rfl;rfl;omega)
    |(apply VVal.and1B;rfl;rfl;omega)
    |(apply VVal.andI;rfl;rfl;omega)
    |(apply VVal.andU;rfl;rfl;omega;omega)
    |(apply VVal.orU;rfl;rfl;omega;omega)
    |(apply VVal.andNotU;rfl;rfl;omega;omega)
    |(apply VVal.remI;rfl;rfl;omega;omega)
    |(apply VVal.quoI;rfl;rfl;omega;omega)
    |(apply VVal.int;rfl;rfl;rfl)
    |(apply VVal.indexN;rfl;rfl;rfl;omega;rfl)
    |(apply VVal.indexP;rfl;rfl;rfl;omega;omega;rfl)
    |(apply VVal.indexE;rfl;rfl;rfl;omega;omega;rfl)
    |(apply VVal.loadVL;rfl;rfl;omega;rfl)
    |(apply VVal.load;rfl;rfl)
    |(apply VVal.pick_true;rfl;rfl)
    |(apply VVal.pick_false;rfl;rfl)
    |(apply VVal.lenF;rfl;rfl)
    |(apply VVal.lenNil;rfl;rfl)
    |(apply VVal.lenV;rfl;rfl;rfl)
    |(apply VVal.fieldB;rfl;rfl;rfl)
    |(apply VVal.fieldF;rfl;rfl)
    |(apply VVal.box;rfl;trivial)
    |(apply VVal.alloc;rfl)
    |(apply VVal.storeB;rfl;rfl;rfl;trivial;rfl;rfl;exact lt_dec rfl;exact le_dec rfl)
    |(apply VVal.build;rfl;rfl;rfl;rfl;rfl)
    |(apply VVal.buildSlice;rfl;rfl;rfl;decide;rfl;rfl;rfl)
    |(apply VVal.lenSt;rfl;rfl)
    |(apply VVal.eqS;rfl;rfl)
    |(apply VVal.neS;rfl;rfl)
    |(apply VVal.indexStN;rfl;rfl;rfl;omega)
    |(apply VVal.indexSt;rfl;rfl;rfl;omega;omega)
    |(apply VVal.sliceSI;rfl;rfl;rfl;rfl;omega)
    |(apply VVal.sliceSto;rfl;rfl;rfl;omega)
    |(apply VVal.sliceSfrom;rfl;rfl;rfl;omega)
    |(apply VVal.convS;rfl;rfl;rfl)
    |(apply VVal.toBytes;rfl;rfl;rfl;rfl;rfl;rfl;omega)
    |(apply VVal.addS;rfl;rfl;(first|omega|(simp only [List.length_take,List.length_drop,List.length_append,List.length_singleton,List.length_cons,List.length_nil]<;>omega)))
    |(apply VVal.indexVN;rfl;rfl;rfl;rfl;omega)
    |(apply VVal.indexVE;rfl;rfl;rfl;rfl;omega;omega)
    |(apply VVal.neg;rfl;omega)
    |(apply VVal.neB;rfl;rfl;rfl)
    |(apply VVal.eqB;rfl;rfl;rfl)
    |(apply VVal.maxI;rfl;rfl)
    |(apply VVal.minI;rfl;rfl)
    |(apply VVal.not;rfl)
    |(apply VVal.extract;rfl;rfl)
    |(apply VVal.convI;rfl;rfl;rfl;rfl;omega)
    |(apply VVal.convU;rfl;rfl;rfl;rfl;omega)
    |(apply VVal.convB;rfl;rfl;rfl;rfl;omega)
    |(apply VVal.convInt;rfl;rfl;rfl;rfl)
    |(apply VVal.append1;rfl;rfl;rfl;rfl;rfl;rfl;rfl;rfl;(intro _ h;cases h);rfl;rfl;rfl;decide;decide;(first|omega|(simp only [List.length_take,List.length_drop,List.length_append,List.length_singleton,List.length_cons,List.length_nil]<;>omega)))
    |(apply VVal.appendL0;rfl;rfl;rfl;(first|rfl|omega|(simp only [List.length_take,List.length_drop,List.length_append,List.length_singleton,List.length_cons,List.length_nil]<;>omega));rfl;rfl;(intro _ h;cases h);rfl;rfl;rfl;decide;decide;(first|omega|(simp only [List.length_take,List.length_drop,List.length_append,List.length_singleton,List.length_cons,List.length_nil]<;>omega)))
    |(apply VVal.appendL;rfl;rfl;rfl;(first|rfl|omega|(simp only [List.length_take,List.length_drop,List.length_append,List.length_singleton,List.length_cons,List.length_nil]));(first|rfl|omega|(simp only [List.length_take,List.length_drop,List.length_append,List.length_singleton,List.length_cons,List.length_nil]<;>omega));rfl;rfl;(intro _ h;cases h);rfl;rfl;rfl;decide;decide;(first|omega|(simp only [List.length_take,List.length_drop,List.length_append,List.length_singleton,List.length_cons,List.length_nil]<;>omega)))
    |(apply VVal.shlOne;rfl;rfl;omega)
    |(apply VVal.shlOneU;rfl;rfl;omega)
    |(apply VVal.shrN;rfl;rfl;(simp only [IntKind.bits];omega))
    |(apply VVal.sliceTo;rfl;rfl;rfl;rfl;rfl;rfl;omega)
    |(apply VVal.sliceFrom;rfl;rfl;rfl;rfl;rfl;rfl;omega)
    |(apply VVal.sliceToI;rfl;rfl;rfl;rfl;rfl;rfl;omega)
    |(apply VVal.shr;rfl;rfl;omega)
    |(apply VVal.shl;rfl;rfl;omega)
    |(apply VWp.condSeq_true;rfl)
    |(apply VWp.condSeq_false;rfl)
    |(apply VWp.condSeq_dec;rfl)
    |(apply VWp.condSeq;rfl)
    |(apply VWp.cond_true;rfl)
    |(apply VWp.cond_false;rfl)
    |(apply VWp.cond_dec;rfl)
    |(apply VWp.cond;rfl)
    |(intro _;try (exfalso;omega)))
   all_goals (refine Done.ret rfl (.refl _) (by first|exact trivial|exact ⟨trivial,trivial,trivial⟩|exact ⟨trivial,trivial,trivial,trivial⟩) HCov.nil (Nat.zero_le _) (Nat.le_refl _) ⟨?_,rfl,rfl⟩;first|(rw [if_pos (by omega)];done)|(rw [if_neg (by omega)];done))
  ·rw [show win n=3 from if_neg h2] at hw
   unfold valR;rw [if_neg (fun h=>h2 h.2)]
   repeat' (first
    |apply VWp.assoc
    |apply VWp.rseq
    |apply VWp.rseqD
    |apply VWp.region
    |apply VWp.regionD
    |apply VWp.skipSeq
    |apply VWp.retSeq
    |apply VWp.exitSeq
    |apply VWp.blockSeq
    |apply QSeq.normal
    |apply QSeq.ret
    |apply QSeq.exit
    |(apply DoneI.ret;rfl)
    |(apply DoneI.normal;rfl)
    |apply QBlk.normal
    |apply QBlk.ret
    |apply QBlk.exit
    |(apply QBlk.out;decide)
    |apply QLoop.ret
    |apply QLoop.exit
    |apply VWp.ret
    |apply VWp.skip
    |apply VWp.exit
    |apply VWp.blockQ
    |apply VOps.nil
    |apply VOpsD.nil
    |apply VOps.one
    |(apply VOpsD.bar;decide +kernel)
    |apply VOpsD.quiet
    |(apply VOps.take;rfl;rfl)
    |(apply VOpsD.quietTake;rfl;rfl)
    |(apply VOps.drop;rfl;rfl;rfl)
    |(apply VOpsD.drop;rfl;rfl;rfl)
    |(apply VOps.guard;rfl;rfl)
    |(apply VOpsD.guard;rfl;rfl)
    |(apply VOps.dropU;rfl;rfl)
    |(apply VOpsD.dropU;rfl;rfl)
    |(apply VOps.guardB;rfl;rfl)
    |(apply VOpsD.guardB;rfl;rfl)
    |(apply VVal.fn;rfl;rfl;exact hc;intro _;rfl)
    |(apply VVal.fn;rfl;rfl;exact hw;intro _;rfl)
    |(apply VVal.assign;rfl)
    |(apply VVal.move;rfl)
    |(apply VVal.add64;rfl;rfl;omega)
    |(apply VVal.sub64;rfl;rfl;omega)
    |(apply VVal.mul64;rfl;rfl;omega)
    |(apply VVal.subBN (c:=48);rfl;rfl;omega)
    |(apply VVal.subB;rfl;rfl;omega)
    |(apply VVal.addB;rfl;rfl;omega)
    |(apply VVal.addUN;rfl;rfl;omega)
    |(apply VVal.mulUN;rfl;rfl;omega)
    |(apply VVal.subUN;rfl;rfl;omega)
    |(apply VVal.quoUN;rfl;rfl;omega)
    |(apply VVal.remUN;rfl;rfl;omega)
    |(apply VVal.quoUT;rfl;rfl;omega)
    |(apply VVal.remUT;rfl;rfl;omega)
    |(apply VVal.mulUN (a:=10);rfl;rfl;omega)
    |(apply VVal.and1;rfl;rfl;omega)
    |(apply VVal.and1U;rfl;rfl;omega)
    |(apply VVal.and1B;rfl;rfl;omega)
    |(apply VVal.andI;rfl;rfl;omega)
    |(apply VVal.andU;rfl;rfl;omega;omega)
    |(apply VVal.orU;rfl;rfl;omega;omega)
    |(apply VVal.andNotU;rfl;rfl;omega;omega)
    |(apply VVal.remI;rfl;rfl;omega;omega)
    |(apply VVal.quoI;rfl;rfl;omega;omega)
    |(apply VVal.int;rfl;rfl;rfl)
    |(apply VVal.indexN;rfl;rfl;rfl;omega;rfl)
    |(apply VVal.indexP;rfl;rfl;rfl;omega;omega;rfl)
    |(apply VVal.indexE;rfl;rfl;rfl;omega;omega;rfl)
    |(apply VVal.loadVL;rfl;rfl;omega;rfl)
    |(apply VVal.load;rfl;rfl)
    |(apply VVal.pick_true;rfl;rfl)
    |(apply VVal.pick_false;rfl;rfl)
    |(apply VVal.lenF;rfl;rfl)
    |(apply VVal.lenNil;rfl;rfl)
    |(apply VVal.lenV;rfl;rfl;rfl)
    |(apply VVal.fieldB;rfl;rfl;rfl)
    |(apply VVal.fieldF;rfl;rfl)
    |(apply VVal.box;rfl;trivial)
    |(apply VVal.alloc;rfl)
    |(apply VVal.storeB;rfl;rfl;rfl;trivial;rfl;rfl;exact lt_dec rfl;exact le_dec rfl)
    |(apply VVal.build;rfl;rfl;rfl;rfl;rfl)
    |(apply VVal.buildSlice;rfl;rfl;rfl;decide;rfl;rfl;rfl)
    |(apply VVal.lenSt;rfl;rfl)
    |(apply VVal.eqS;rfl;rfl)
    |(apply VVal.neS;rfl;rfl)
    |(apply VVal.indexStN;rfl;rfl;rfl;omega)
    |(apply VVal.indexSt;rfl;rfl;rfl;omega;omega)
    |(apply VVal.sliceSI;rfl;rfl;rfl;rfl;omega)
    |(apply VVal.sliceSto;rfl;rfl;rfl;omega)
    |(apply VVal.sliceSfrom;rfl;rfl;rfl;omega)
    |(apply VVal.convS;rfl;rfl;rfl)
    |(apply VVal.toBytes;rfl;rfl;rfl;rfl;rfl;rfl;omega)
    |(apply VVal.addS;rfl;rfl;(first|omega|(simp only [List.length_take,List.length_drop,List.length_append,List.length_singleton,List.length_cons,List.length_nil]<;>omega)))
    |(apply VVal.indexVN;rfl;rfl;rfl;rfl;omega)
    |(apply VVal.indexVE;rfl;rfl;rfl;rfl;omega;omega)
    |(apply VVal.neg;rfl;omega)
    |(apply VVal.neB;rfl;rfl;rfl)
    |(apply VVal.eqB;rfl;rfl;rfl)
    |(apply VVal.maxI;rfl;rfl)
    |(apply VVal.minI;rfl;rfl)
    |(apply VVal.not;rfl)
    |(apply VVal.extract;rfl;rfl)
    |(apply VVal.convI;rfl;rfl;rfl;rfl;omega)
    |(apply VVal.convU;rfl;rfl;rfl;rfl;omega)
    |(apply VVal.convB;rfl;rfl;rfl;rfl;omega)
    |(apply VVal.convInt;rfl;rfl;rfl;rfl)
    |(apply VVal.append1;rfl;rfl;rfl;rfl;rfl;rfl;rfl;rfl;(intro _ h;cases h);rfl;rfl;rfl;decide;decide;(first|omega|(simp only [List.length_take,List.length_drop,List.length_append,List.length_singleton,List.length_cons,List.length_nil]<;>omega)))
    |(apply VVal.appendL0;rfl;rfl;rfl;(first|rfl|omega|(simp only [List.length_take,List.length_drop,List.length_append,List.length_singleton,List.length_cons,List.length_nil]<;>omega));rfl;rfl;(intro _ h;cases h);rfl;rfl;rfl;decide;decide;(first|omega|(simp only [List.length_take,List.length_drop,List.length_append,List.length_singleton,List.length_cons,List.length_nil]<;>omega)))
    |(apply VVal.appendL;rfl;rfl;rfl;(first|rfl|omega|(simp only [List.length_take,List.length_drop,List.length_append,List.length_singleton,List.length_cons,List.length_nil]));(first|rfl|omega|(simp only [List.length_take,List.length_drop,List.length_append,List.length_singleton,List.length_cons,List.length_nil]<;>omega));rfl;rfl;(intro _ h;cases h);rfl;rfl;rfl;decide;decide;(first|omega|(simp only [List.length_take,List.length_drop,List.length_append,List.length_singleton,List.length_cons,List.length_nil]<;>omega)))
    |(apply VVal.shlOne;rfl;rfl;omega)
    |(apply VVal.shlOneU;rfl;rfl;omega)
    |(apply VVal.shrN;rfl;rfl;(simp only [IntKind.bits];omega))
    |(apply VVal.sliceTo;rfl;rfl;rfl;rfl;rfl;rfl;omega)
    |(apply VVal.sliceFrom;rfl;rfl;rfl;rfl;rfl;rfl;omega)
    |(apply VVal.sliceToI;rfl;rfl;rfl;rfl;rfl;rfl;omega)
    |(apply VVal.shr;rfl;rfl;omega)
    |(apply VVal.shl;rfl;rfl;omega)
    |(apply VWp.condSeq_true;rfl)
    |(apply VWp.condSeq_false;rfl)
    |(apply VWp.condSeq_dec;rfl)
    |(apply VWp.condSeq;rfl)
    |(apply VWp.cond_true;rfl)
    |(apply VWp.cond_false;rfl)
    |(apply VWp.cond_dec;rfl)
    |(apply VWp.cond;rfl)
    |(intro _;try (exfalso;omega)))
   all_goals (refine Done.ret rfl (.refl _) (by first|exact trivial|exact ⟨trivial,trivial,trivial⟩|exact ⟨trivial,trivial,trivial,trivial⟩) HCov.nil (Nat.zero_le _) (Nat.le_refl _) ⟨?_,rfl,rfl⟩;try rfl)
 ·rw [show chk s=3 from if_neg h1] at hc
  unfold valR;rw [if_neg (fun h=>h1 h.1)]
  repeat' (first
   |apply VWp.assoc
   |apply VWp.rseq
   |apply VWp.rseqD
   |apply VWp.region
   |apply VWp.regionD
   |apply VWp.skipSeq
   |apply VWp.retSeq
   |apply VWp.exitSeq
   |apply VWp.blockSeq
   |apply QSeq.normal
   |apply QSeq.ret
   |apply QSeq.exit
   |(apply DoneI.ret;rfl)
   |(apply DoneI.normal;rfl)
   |apply QBlk.normal
   |apply QBlk.ret
   |apply QBlk.exit
   |(apply QBlk.out;decide)
   |apply QLoop.ret
   |apply QLoop.exit
   |apply VWp.ret
   |apply VWp.skip
   |apply VWp.exit
   |apply VWp.blockQ
   |apply VOps.nil
   |apply VOpsD.nil
   |apply VOps.one
   |(apply VOpsD.bar;decide +kernel)
   |apply VOpsD.quiet
   |(apply VOps.take;rfl;rfl)
   |(apply VOpsD.quietTake;rfl;rfl)
   |(apply VOps.drop;rfl;rfl;rfl)
   |(apply VOpsD.drop;rfl;rfl;rfl)
   |(apply VOps.guard;rfl;rfl)
   |(apply VOpsD.guard;rfl;rfl)
   |(apply VOps.dropU;rfl;rfl)
   |(apply VOpsD.dropU;rfl;rfl)
   |(apply VOps.guardB;rfl;rfl)
   |(apply VOpsD.guardB;rfl;rfl)
   |(apply VVal.fn;rfl;rfl;exact hc;intro _;rfl)
   |(apply VVal.assign;rfl)
   |(apply VVal.move;rfl)
   |(apply VVal.add64;rfl;rfl;omega)
   |(apply VVal.sub64;rfl;rfl;omega)
   |(apply VVal.mul64;rfl;rfl;omega)
   |(apply VVal.subBN (c:=48);rfl;rfl;omega)
   |(apply VVal.subB;rfl;rfl;omega)
   |(apply VVal.addB;rfl;rfl;omega)
   |(apply VVal.addUN;rfl;rfl;omega)
   |(apply VVal.mulUN;rfl;rfl;omega)
   |(apply VVal.subUN;rfl;rfl;omega)
   |(apply VVal.quoUN;rfl;rfl;omega)
   |(apply VVal.remUN;rfl;rfl;omega)
   |(apply VVal.quoUT;rfl;rfl;omega)
   |(apply VVal.remUT;rfl;rfl;omega)
   |(apply VVal.mulUN (a:=10);rfl;rfl;omega)
   |(apply VVal.and1;rfl;rfl;omega)
   |(apply VVal.and1U;rfl;rfl;omega)
   |(apply VVal.and1B;rfl;rfl;omega)
   |(apply VVal.andI;rfl;rfl;omega)
   |(apply VVal.andU;rfl;rfl;omega;omega)
   |(apply VVal.orU;rfl;rfl;omega;omega)
   |(apply VVal.andNotU;rfl;rfl;omega;omega)
   |(apply VVal.remI;rfl;rfl;omega;omega)
   |(apply VVal.quoI;rfl;rfl;omega;omega)
   |(apply VVal.int;rfl;rfl;rfl)
   |(apply VVal.indexN;rfl;rfl;rfl;omega;rfl)
   |(apply VVal.indexP;rfl;rfl;rfl;omega;omega;rfl)
   |(apply VVal.indexE;rfl;rfl;rfl;omega;omega;rfl)
   |(apply VVal.loadVL;rfl;rfl;omega;rfl)
   |(apply VVal.load;rfl;rfl)
   |(apply VVal.pick_true;rfl;rfl)
   |(apply VVal.pick_false;rfl;rfl)
   |(apply VVal.lenF;rfl;rfl)
   |(apply VVal.lenNil;rfl;rfl)
   |(apply VVal.lenV;rfl;rfl;rfl)
   |(apply VVal.fieldB;rfl;rfl;rfl)
   |(apply VVal.fieldF;rfl;rfl)
   |(apply VVal.box;rfl;trivial)
   |(apply VVal.alloc;rfl)
   |(apply VVal.storeB;rfl;rfl;rfl;trivial;rfl;rfl;exact lt_dec rfl;exact le_dec rfl)
   |(apply VVal.build;rfl;rfl;rfl;rfl;rfl)
   |(apply VVal.buildSlice;rfl;rfl;rfl;decide;rfl;rfl;rfl)
   |(apply VVal.lenSt;rfl;rfl)
   |(apply VVal.eqS;rfl;rfl)
   |(apply VVal.neS;rfl;rfl)
   |(apply VVal.indexStN;rfl;rfl;rfl;omega)
   |(apply VVal.indexSt;rfl;rfl;rfl;omega;omega)
   |(apply VVal.sliceSI;rfl;rfl;rfl;rfl;omega)
   |(apply VVal.sliceSto;rfl;rfl;rfl;omega)
   |(apply VVal.sliceSfrom;rfl;rfl;rfl;omega)
   |(apply VVal.convS;rfl;rfl;rfl)
   |(apply VVal.toBytes;rfl;rfl;rfl;rfl;rfl;rfl;omega)
   |(apply VVal.addS;rfl;rfl;(first|omega|(simp only [List.length_take,List.length_drop,List.length_append,List.length_singleton,List.length_cons,List.length_nil]<;>omega)))
   |(apply VVal.indexVN;rfl;rfl;rfl;rfl;omega)
   |(apply VVal.indexVE;rfl;rfl;rfl;rfl;omega;omega)
   |(apply VVal.neg;rfl;omega)
   |(apply VVal.neB;rfl;rfl;rfl)
   |(apply VVal.eqB;rfl;rfl;rfl)
   |(apply VVal.maxI;rfl;rfl)
   |(apply VVal.minI;rfl;rfl)
   |(apply VVal.not;rfl)
   |(apply VVal.extract;rfl;rfl)
   |(apply VVal.convI;rfl;rfl;rfl;rfl;omega)
   |(apply VVal.convU;rfl;rfl;rfl;rfl;omega)
   |(apply VVal.convB;rfl;rfl;rfl;rfl;omega)
   |(apply VVal.convInt;rfl;rfl;rfl;rfl)
   |(apply VVal.append1;rfl;rfl;rfl;rfl;rfl;rfl;rfl;rfl;(intro _ h;cases h);rfl;rfl;rfl;decide;decide;(first|omega|(simp only [List.length_take,List.length_drop,List.length_append,List.length_singleton,List.length_cons,List.length_nil]<;>omega)))
   |(apply VVal.appendL0;rfl;rfl;rfl;(first|rfl|omega|(simp only [List.length_take,List.length_drop,List.length_append,List.length_singleton,List.length_cons,List.length_nil]<;>omega));rfl;rfl;(intro _ h;cases h);rfl;rfl;rfl;decide;decide;(first|omega|(simp only [List.length_take,List.length_drop,List.length_append,List.length_singleton,List.length_cons,List.length_nil]<;>omega)))
   |(apply VVal.appendL;rfl;rfl;rfl;(first|rfl|omega|(simp only [List.length_take,List.length_drop,List.length_append,List.length_singleton,List.length_cons,List.length_nil]));(first|rfl|omega|(simp only [List.length_take,List.length_drop,List.length_append,List.length_singleton,List.length_cons,List.length_nil]<;>omega));rfl;rfl;(intro _ h;cases h);rfl;rfl;rfl;decide;decide;(first|omega|(simp only [List.length_take,List.length_drop,List.length_append,List.length_singleton,List.length_cons,List.length_nil]<;>omega)))
   |(apply VVal.shlOne;rfl;rfl;omega)
   |(apply VVal.shlOneU;rfl;rfl;omega)
   |(apply VVal.shrN;rfl;rfl;(simp only [IntKind.bits];omega))
   |(apply VVal.sliceTo;rfl;rfl;rfl;rfl;rfl;rfl;omega)
   |(apply VVal.sliceFrom;rfl;rfl;rfl;rfl;rfl;rfl;omega)
   |(apply VVal.sliceToI;rfl;rfl;rfl;rfl;rfl;rfl;omega)
   |(apply VVal.shr;rfl;rfl;omega)
   |(apply VVal.shl;rfl;rfl;omega)
   |(apply VWp.condSeq_true;rfl)
   |(apply VWp.condSeq_false;rfl)
   |(apply VWp.condSeq_dec;rfl)
   |(apply VWp.condSeq;rfl)
   |(apply VWp.cond_true;rfl)
   |(apply VWp.cond_false;rfl)
   |(apply VWp.cond_dec;rfl)
   |(apply VWp.cond;rfl)
   |(intro _;try (exfalso;omega)))
  all_goals (refine Done.ret rfl (.refl _) (by first|exact trivial|exact ⟨trivial,trivial,trivial⟩|exact ⟨trivial,trivial,trivial,trivial⟩) HCov.nil (Nat.zero_le _) (Nat.le_refl _) ⟨?_,rfl,rfl⟩;try rfl)
def lo (P:Nat→Prop) [DecidablePred P]:Nat→Nat
 |0=>0
 |k+1=>if lo P k<k then lo P k else if P k then k else k+1
theorem lo_le (P:Nat→Prop) [DecidablePred P]:∀ k,lo P k≤k
 |0=>Nat.le_refl _
 |k+1=>by
  have:=lo_le P k
  simp only [lo];split
  ·omega
  ·split<;>omega
theorem lo_iff (P:Nat→Prop) [DecidablePred P] (hP:∀ i j,i≤j→P i→P j):∀ k j,j<k→(P j↔lo P k≤j)
 |0,j,hj=>by omega
 |k+1,j,hj=>by
  have hle:=lo_le P k
  have ih:=lo_iff P hP k
  simp only [lo]
  by_cases h1:lo P k<k
  ·rw [if_pos h1]
   rcases Nat.lt_or_ge j k with h2|h2
   ·exact ih j h2
   ·have:j=k:=by omega
    subst this
    refine ⟨fun _=>by omega,fun _=>hP _ _ (Nat.le_of_lt h1) ((ih _ h1).2 (Nat.le_refl _))⟩
  ·rw [if_neg h1]
   rcases Nat.lt_or_ge j k with h2|h2
   ·have:¬ P j:=fun g=>by have:=(ih j h2).1 g;omega
    refine ⟨fun g=>absurd g this,fun g=>?_⟩
    split at g<;>omega
   ·have:j=k:=by omega
    subst this
    split
    ·rename_i g;exact ⟨fun _=>Nat.le_refl _,fun _=>g⟩
    ·rename_i g;exact ⟨fun g'=>absurd g' g,fun g'=>by omega⟩
def fstP (s:Scl) (most:Int) (i:Nat):Prop:=mea s ((i:Int)-72)≤min most 10000000
instance (s:Scl) (most:Int):DecidablePred (fstP s most):=fun i=>by unfold fstP;infer_instance
def fstN (s:Scl) (most:Int):Nat:=lo (fstP s most) 145
theorem fstN_le (s:Scl) (most:Int):fstN s most≤145:=lo_le _ _
theorem fstN_iff (s:Scl) (most:Int) (j:Nat) (hj:j<145):mea s ((j:Int)-72)≤min most 10000000↔fstN s most≤j :=
 lo_iff (fstP s most) (fun i j hij h=>by
  have:=mea_le (s:=s) (m:=(i:Int)-72) (n:=(j:Int)-72) (by omega)
  unfold fstP at *;omega) 145 j hj
def fstR (s:Scl) (most:Int):Int×Bool:=if fstN s most>144 then (0,false) else ((fstN s most:Int)-72,true)
theorem inl_F1 {L:Vm.Frame} {H:Vm.Heap} {nx:Nat} {Q:PV→Vm.Heap→Nat→Prop} {dst:Option Tmp} {ty:TypeId} {pos:String} {af:Array Edge} {gd:Option (Nat×Bool)} {fo:Operand} {args:Array Operand} {aT:Array TypeId} {fs cs xs:List PV} {c:Code}
 (hf:vev env.Γ L fo=some (.clo 36 fs cs)) (ha:evs env.Γ L args.toList=some xs) (hb:Tryd.f36.body=some c) (hn:(fs++xs++cs).length≤Tryd.f36.ntmps)
 (h:VWp env nx c (argFrame 0 (fs++xs++cs)) H nx (DoneI env.P Tryd.f36.results.toList Q)):VVal env true ⟨dst,.call { callee:=.value fo,args:=args,argTypes:=aT },ty,pos,af,gd⟩ L H nx Q:=by
 have h0:(match Tryd.f36.body with|some c=>fnOk env.G Tryd.f36 c|none=>false)=true:=by kernel_rfl
 rw [hb] at h0
 exact VVal.inline rfl hf ha (env_none (by decide)) Tryd.func36 hb h0 hn h
set_option maxRecDepth 100000 in
set_option maxHeartbeats 1000000 in
theorem sFirst_spec (s:Scl) (most:Int) (hs:sOk s):VFun env 23 [.agg (Enc.enc s),.int .i64 most] (.tup [.p (.int .i64 (fstR s most).1),.p (.bool (fstR s most).2),.p (.int .i64 0)]):=by
 have hc:=scheck_spec s
 rw [show chk s=0 from if_pos hs] at hc
 have hv:∀ i:Nat,i≤144→VFun env 28 [.agg (Enc.enc s),.int .i64 ((i:Int)-72)] (.tup [.p (.int .i64 (mea s ((i:Int)-72))),.p (.bool (decide (mea s ((i:Int)-72)≤10000000)))]):=fun i hi=>svalue_spec s _ hs ⟨by omega,by omega⟩
 have hmle:=fstN_le s most
 have hcl:=fstN_iff s most
 have hfr:fstR s most=if fstN s most>144 then (0,false) else ((fstN s most:Int)-72,true):=rfl
 generalize fstN s most=N at *
 rw [hfr]
 refine VFun.enter (env_none (by decide)) Tryd.func23 rfl (by kernel_rfl) (by simp [Tryd.ntmps23]) ?_
 repeat' (first
  |apply VWp.assoc
  |apply VWp.rseq
  |apply VWp.rseqD
  |apply VWp.region
  |apply VWp.regionD
  |apply VWp.skipSeq
  |apply VWp.retSeq
  |apply VWp.exitSeq
  |apply VWp.blockSeq
  |apply QSeq.normal
  |apply QSeq.ret
  |apply QSeq.exit
  |(apply DoneI.ret;rfl)
  |(apply DoneI.normal;rfl)
  |apply QBlk.normal
  |apply QBlk.ret
  |apply QBlk.exit
  |(apply QBlk.out;decide)
  |apply QLoop.ret
  |apply QLoop.exit
  |apply VWp.ret
  |apply VWp.skip
  |apply VWp.exit
  |apply VWp.blockQ
  |apply VOps.nil
  |apply VOpsD.nil
  |apply VOps.one
  |(apply VOpsD.bar;decide +kernel)
  |apply VOpsD.quiet
  |(apply VOps.take;rfl;rfl)
  |(apply VOpsD.quietTake;rfl;rfl)
  |(apply VOps.drop;rfl;rfl;rfl)
  |(apply VOpsD.drop;rfl;rfl;rfl)
  |(apply VOps.guard;rfl;rfl)
  |(apply VOpsD.guard;rfl;rfl)
  |(apply VOps.dropU;rfl;rfl)
  |(apply VOpsD.dropU;rfl;rfl)
  |(apply VOps.guardB;rfl;rfl)
  |(apply VOpsD.guardB;rfl;rfl)
  |(apply VVal.fn;rfl;rfl;exact hc;intro _;rfl)
  |(apply VVal.makeFunc;rfl;rfl)
  |(apply inl_Search;rfl;rfl;rfl;exact le_dec rfl)
  |(apply VVal.assign;rfl)
  |(apply VVal.move;rfl)
  |(apply VVal.add64;rfl;rfl;omega)
  |(apply VVal.sub64;rfl;rfl;omega)
  |(apply VVal.mul64;rfl;rfl;omega)
  |(apply VVal.subBN (c:=48);rfl;rfl;omega)
  |(apply VVal.subB;rfl;rfl;omega)
  |(apply VVal.addB;rfl;rfl;omega)
  |(apply VVal.addUN;rfl;rfl;omega)
  |(apply VVal.mulUN;rfl;rfl;omega)
  |(apply VVal.subUN;rfl;rfl;omega)
  |(apply VVal.quoUN;rfl;rfl;omega)
  |(apply VVal.remUN;rfl;rfl;omega)
  |(apply VVal.quoUT;rfl;rfl;omega)
  |(apply VVal.remUT;rfl;rfl;omega)
  |(apply VVal.mulUN (a:=10);rfl;rfl;omega)
  |(apply VVal.and1;rfl;rfl;omega)
  |(apply VVal.and1U;rfl;rfl;omega)
  |(apply VVal.and1B;rfl;rfl;omega)
  |(apply VVal.andI;rfl;rfl;omega)
  |(apply VVal.andU;rfl;rfl;omega;omega)
  |(apply VVal.orU;rfl;rfl;omega;omega)
  |(apply VVal.andNotU;rfl;rfl;omega;omega)
  |(apply VVal.remI;rfl;rfl;omega;omega)
  |(apply VVal.quoI;rfl;rfl;omega;omega)
  |(apply VVal.int;rfl;rfl;rfl)
  |(apply VVal.indexN;rfl;rfl;rfl;omega;rfl)
  |(apply VVal.indexP;rfl;rfl;rfl;omega;omega;rfl)
  |(apply VVal.indexE;rfl;rfl;rfl;omega;omega;rfl)
  |(apply VVal.loadVL;rfl;rfl;omega;rfl)
  |(apply VVal.load;rfl;rfl)
  |(apply VVal.pick_true;rfl;rfl)
  |(apply VVal.pick_false;rfl;rfl)
  |(apply VVal.lenF;rfl;rfl)
  |(apply VVal.lenNil;rfl;rfl)
  |(apply VVal.lenV;rfl;rfl;rfl)
  |(apply VVal.fieldB;rfl;rfl;rfl)
  |(apply VVal.fieldF;rfl;rfl)
  |(apply VVal.box;rfl;trivial)
  |(apply VVal.alloc;rfl)
  |(apply VVal.storeB;rfl;rfl;rfl;trivial;rfl;rfl;exact lt_dec rfl;exact le_dec rfl)
  |(apply VVal.build;rfl;rfl;rfl;rfl;rfl)
  |(apply VVal.buildSlice;rfl;rfl;rfl;decide;rfl;rfl;rfl)
  |(apply VVal.lenSt;rfl;rfl)
  |(apply VVal.eqS;rfl;rfl)
  |(apply VVal.neS;rfl;rfl)
  |(apply VVal.indexStN;rfl;rfl;rfl;omega)
  |(apply VVal.indexSt;rfl;rfl;rfl;omega;omega)
  |(apply VVal.sliceSI;rfl;rfl;rfl;rfl;omega)
  |(apply VVal.sliceSto;rfl;rfl;rfl;omega)
  |(apply VVal.sliceSfrom;rfl;rfl;rfl;omega)
  |(apply VVal.convS;rfl;rfl;rfl)
  |(apply VVal.toBytes;rfl;rfl;rfl;rfl;rfl;rfl;omega)
  |(apply VVal.addS;rfl;rfl;(first|omega|(simp only [List.length_take,List.length_drop,List.length_append,List.length_singleton,List.length_cons,List.length_nil]<;>omega)))
  |(apply VVal.indexVN;rfl;rfl;rfl;rfl;omega)
  |(apply VVal.indexVE;rfl;rfl;rfl;rfl;omega;omega)
  |(apply VVal.neg;rfl;omega)
  |(apply VVal.neB;rfl;rfl;rfl)
  |(apply VVal.eqB;rfl;rfl;rfl)
  |(apply VVal.maxI;rfl;rfl)
  |(apply VVal.minI;rfl;rfl)
  |(apply VVal.not;rfl)
  |(apply VVal.extract;rfl;rfl)
  |(apply VVal.convI;rfl;rfl;rfl;rfl;omega)
  |(apply VVal.convU;rfl;rfl;rfl;rfl;omega)
  |(apply VVal.convB;rfl;rfl;rfl;rfl;omega)
  |(apply VVal.convInt;rfl;rfl;rfl;rfl)
  |(apply VVal.append1;rfl;rfl;rfl;rfl;rfl;rfl;rfl;rfl;(intro _ h;cases h);rfl;rfl;rfl;decide;decide;(first|omega|(simp only [List.length_take,List.length_drop,List.length_append,List.length_singleton,List.length_cons,List.length_nil]<;>omega)))
  |(apply VVal.appendL0;rfl;rfl;rfl;(first|rfl|omega|(simp only [List.length_take,List.length_drop,List.length_append,List.length_singleton,List.length_cons,List.length_nil]<;>omega));rfl;rfl;(intro _ h;cases h);rfl;rfl;rfl;decide;decide;(first|omega|(simp only [List.length_take,List.length_drop,List.length_append,List.length_singleton,List.length_cons,List.length_nil]<;>omega)))
  |(apply VVal.appendL;rfl;rfl;rfl;(first|rfl|omega|(simp only [List.length_take,List.length_drop,List.length_append,List.length_singleton,List.length_cons,List.length_nil]));(first|rfl|omega|(simp only [List.length_take,List.length_drop,List.length_append,List.length_singleton,List.length_cons,List.length_nil]<;>omega));rfl;rfl;(intro _ h;cases h);rfl;rfl;rfl;decide;decide;(first|omega|(simp only [List.length_take,List.length_drop,List.length_append,List.length_singleton,List.length_cons,List.length_nil]<;>omega)))
  |(apply VVal.shlOne;rfl;rfl;omega)
  |(apply VVal.shlOneU;rfl;rfl;omega)
  |(apply VVal.shrN;rfl;rfl;(simp only [IntKind.bits];omega))
  |(apply VVal.sliceTo;rfl;rfl;rfl;rfl;rfl;rfl;omega)
  |(apply VVal.sliceFrom;rfl;rfl;rfl;rfl;rfl;rfl;omega)
  |(apply VVal.sliceToI;rfl;rfl;rfl;rfl;rfl;rfl;omega)
  |(apply VVal.shr;rfl;rfl;omega)
  |(apply VVal.shl;rfl;rfl;omega)
  |(apply VWp.condSeq_true;rfl)
  |(apply VWp.condSeq_false;rfl)
  |(apply VWp.condSeq_dec;rfl)
  |(apply VWp.condSeq;rfl)
  |(apply VWp.cond_true;rfl)
  |(apply VWp.cond_false;rfl)
  |(apply VWp.cond_dec;rfl)
  |(apply VWp.cond;rfl)
  |(intro _;try (exfalso;omega)))
 refine VWp.loopQ (fun ij:Nat×Nat=>[(0,.p (.int .i64 145)),(1,.clo 36 [] [.ref 0 0,.ref 1 0]),(5,.p (.int .i64 (ij.1:Int))),(6,.p (.int .i64 (ij.2:Int)))]) (fun _=>[(1,.box 3 [.p (.int .i64 most)]),(0,.box 23 [.p (.int .i64 s.base),.p (.int .i64 s.halv),.p (.int .i64 s.add)])]) 2 (fun ij=>ij.1≤N∧N≤ij.2∧ij.2≤145) (fun ij=>ij.2-ij.1) (0,145) (by omega) ⟨by omega,by omega,by omega⟩ ⟨by omega,?_,?_⟩ ?_
 ·repeat (first|exact LCov.nil|refine LCov.same trivial rfl ?_|refine LCov.same (lt_dec rfl) rfl ?_|refine LCov.same ⟨trivial,lt_dec rfl,lt_dec rfl,lt_dec rfl,trivial⟩ rfl ?_|refine LCov.same ⟨trivial,lt_dec rfl,lt_dec rfl,trivial⟩ rfl ?_|refine LCov.same ⟨trivial,trivial⟩ rfl ?_|refine LCov.cons trivial rfl (.of_eq (lst_len (by simp<;>omega))) ?_)
 ·repeat (first|exact HCov.nil|(refine HCov.cons (lt_dec rfl) ?_ rfl ?_ ?_;(first|exact trivial|exact PVs.under_pure _ _|(simp [HB.under,PVs.under,PV.under]));(first|exact HLe.refl _|exact HLe.vec (FLes.refl _) (by simp))))
 rintro ⟨i,j⟩ ⟨h1,h2,h3⟩
 simp only at h1 h2 h3
 repeat' (first
  |apply VWp.assoc
  |apply VWp.rseq
  |apply VWp.rseqD
  |apply VWp.region
  |apply VWp.regionD
  |apply VWp.skipSeq
  |apply VWp.retSeq
  |apply VWp.exitSeq
  |apply VWp.blockSeq
  |apply QSeq.normal
  |apply QSeq.ret
  |apply QSeq.exit
  |(apply DoneI.ret;rfl)
  |(apply DoneI.normal;rfl)
  |apply QBlk.normal
  |apply QBlk.ret
  |apply QBlk.exit
  |(apply QBlk.out;decide)
  |apply QLoop.ret
  |apply QLoop.exit
  |apply VWp.ret
  |apply VWp.skip
  |apply VWp.exit
  |apply VWp.blockQ
  |apply VOps.nil
  |apply VOpsD.nil
  |apply VOps.one
  |(apply VOpsD.bar;decide +kernel)
  |apply VOpsD.quiet
  |(apply VOps.take;rfl;rfl)
  |(apply VOpsD.quietTake;rfl;rfl)
  |(apply VOps.drop;rfl;rfl;rfl)
  |(apply VOpsD.drop;rfl;rfl;rfl)
  |(apply VOps.guard;rfl;rfl)
  |(apply VOpsD.guard;rfl;rfl)
  |(apply VOps.dropU;rfl;rfl)
  |(apply VOpsD.dropU;rfl;rfl)
  |(apply VOps.guardB;rfl;rfl)
  |(apply VOpsD.guardB;rfl;rfl)
  |(apply VVal.shrN (m:=i+j) (n:=1);rfl;rfl;exact le_dec rfl)
  |(apply VVal.notD;rfl)
  |(apply inl_F1;rfl;rfl;rfl;exact le_dec rfl)
  |(apply VVal.fn;rfl;rfl;exact hv ((i+j) / 2 ^ 1) (by omega);intro _;rfl)
  |(apply VVal.assign;rfl)
  |(apply VVal.move;rfl)
  |(apply VVal.add64;rfl;rfl;omega)
  |(apply VVal.sub64;rfl;rfl;omega)
  |(apply VVal.mul64;rfl;rfl;omega)
  |(apply VVal.subBN (c:=48);rfl;rfl;omega)
  |(apply VVal.subB;rfl;rfl;omega)
  |(apply VVal.addB;rfl;rfl;omega)
  |(apply VVal.addUN;rfl;rfl;omega)
  |(apply VVal.mulUN;rfl;rfl;omega)
  |(apply VVal.subUN;rfl;rfl;omega)
  |(apply VVal.quoUN;rfl;rfl;omega)
  |(apply VVal.remUN;rfl;rfl;omega)
  |(apply VVal.quoUT;rfl;rfl;omega)
  |(apply VVal.remUT;rfl;rfl;omega)
  |(apply VVal.mulUN (a:=10);rfl;rfl;omega)
  |(apply VVal.and1;rfl;rfl;omega)
  |(apply VVal.and1U;rfl;rfl;omega)
  |(apply VVal.and1B;rfl;rfl;omega)
  |(apply VVal.andI;rfl;rfl;omega)
  |(apply VVal.andU;rfl;rfl;omega;omega)
  |(apply VVal.orU;rfl;rfl;omega;omega)
  |(apply VVal.andNotU;rfl;rfl;omega;omega)
  |(apply VVal.remI;rfl;rfl;omega;omega)
  |(apply VVal.quoI;rfl;rfl;omega;omega)
  |(apply VVal.int;rfl;rfl;rfl)
  |(apply VVal.indexN;rfl;rfl;rfl;omega;rfl)
  |(apply VVal.indexP;rfl;rfl;rfl;omega;omega;rfl)
  |(apply VVal.indexE;rfl;rfl;rfl;omega;omega;rfl)
  |(apply VVal.loadVL;rfl;rfl;omega;rfl)
  |(apply VVal.load;rfl;rfl)
  |(apply VVal.pick_true;rfl;rfl)
  |(apply VVal.pick_false;rfl;rfl)
  |(apply VVal.lenF;rfl;rfl)
  |(apply VVal.lenNil;rfl;rfl)
  |(apply VVal.lenV;rfl;rfl;rfl)
  |(apply VVal.fieldB;rfl;rfl;rfl)
  |(apply VVal.fieldF;rfl;rfl)
  |(apply VVal.box;rfl;trivial)
  |(apply VVal.alloc;rfl)
  |(apply VVal.storeB;rfl;rfl;rfl;trivial;rfl;rfl;exact lt_dec rfl;exact le_dec rfl)
  |(apply VVal.build;rfl;rfl;rfl;rfl;rfl)
  |(apply VVal.buildSlice;rfl;rfl;rfl;decide;rfl;rfl;rfl)
  |(apply VVal.lenSt;rfl;rfl)
  |(apply VVal.eqS;rfl;rfl)
  |(apply VVal.neS;rfl;rfl)
  |(apply VVal.indexStN;rfl;rfl;rfl;omega)
  |(apply VVal.indexSt;rfl;rfl;rfl;omega;omega)
  |(apply VVal.sliceSI;rfl;rfl;rfl;rfl;omega)
  |(apply VVal.sliceSto;rfl;rfl;rfl;omega)
  |(apply VVal.sliceSfrom;rfl;rfl;rfl;omega)
  |(apply VVal.convS;rfl;rfl;rfl)
  |(apply VVal.toBytes;rfl;rfl;rfl;rfl;rfl;rfl;omega)
  |(apply VVal.addS;rfl;rfl;(first|omega|(simp only [List.length_take,List.length_drop,List.length_append,List.length_singleton,List.length_cons,List.length_nil]<;>omega)))
  |(apply VVal.indexVN;rfl;rfl;rfl;rfl;omega)
  |(apply VVal.indexVE;rfl;rfl;rfl;rfl;omega;omega)
  |(apply VVal.neg;rfl;omega)
  |(apply VVal.neB;rfl;rfl;rfl)
  |(apply VVal.eqB;rfl;rfl;rfl)
  |(apply VVal.maxI;rfl;rfl)
  |(apply VVal.minI;rfl;rfl)
  |(apply VVal.not;rfl)
  |(apply VVal.extract;rfl;rfl)
  |(apply VVal.convI;rfl;rfl;rfl;rfl;omega)
  |(apply VVal.convU;rfl;rfl;rfl;rfl;omega)
  |(apply VVal.convB;rfl;rfl;rfl;rfl;omega)
  |(apply VVal.convInt;rfl;rfl;rfl;rfl)
  |(apply VVal.append1;rfl;rfl;rfl;rfl;rfl;rfl;rfl;rfl;(intro _ h;cases h);rfl;rfl;rfl;decide;decide;(first|omega|(simp only [List.length_take,List.length_drop,List.length_append,List.length_singleton,List.length_cons,List.length_nil]<;>omega)))
  |(apply VVal.appendL0;rfl;rfl;rfl;(first|rfl|omega|(simp only [List.length_take,List.length_drop,List.length_append,List.length_singleton,List.length_cons,List.length_nil]<;>omega));rfl;rfl;(intro _ h;cases h);rfl;rfl;rfl;decide;decide;(first|omega|(simp only [List.length_take,List.length_drop,List.length_append,List.length_singleton,List.length_cons,List.length_nil]<;>omega)))
  |(apply VVal.appendL;rfl;rfl;rfl;(first|rfl|omega|(simp only [List.length_take,List.length_drop,List.length_append,List.length_singleton,List.length_cons,List.length_nil]));(first|rfl|omega|(simp only [List.length_take,List.length_drop,List.length_append,List.length_singleton,List.length_cons,List.length_nil]<;>omega));rfl;rfl;(intro _ h;cases h);rfl;rfl;rfl;decide;decide;(first|omega|(simp only [List.length_take,List.length_drop,List.length_append,List.length_singleton,List.length_cons,List.length_nil]<;>omega)))
  |(apply VVal.shlOne;rfl;rfl;omega)
  |(apply VVal.shlOneU;rfl;rfl;omega)
  |(apply VVal.shrN;rfl;rfl;(simp only [IntKind.bits];omega))
  |(apply VVal.sliceTo;rfl;rfl;rfl;rfl;rfl;rfl;omega)
  |(apply VVal.sliceFrom;rfl;rfl;rfl;rfl;rfl;rfl;omega)
  |(apply VVal.sliceToI;rfl;rfl;rfl;rfl;rfl;rfl;omega)
  |(apply VVal.shr;rfl;rfl;omega)
  |(apply VVal.shl;rfl;rfl;omega)
  |(apply VWp.condSeq_true;rfl)
  |(apply VWp.condSeq_false;rfl)
  |(apply VWp.condSeq_dec;rfl)
  |(apply VWp.condSeq;rfl)
  |(apply VWp.cond_true;rfl)
  |(apply VWp.cond_false;rfl)
  |(apply VWp.cond_dec;rfl)
  |(apply VWp.cond;rfl)
  |(intro _;try (exfalso;omega)))
 ·rename_i ha hb hd
  have hc:=hcl ((i+j) / 2 ^ 1) (by omega)
  have hc':¬ N≤(i+j) / 2 ^ 1:=fun q=>by have:=hc.2 q;omega
  refine QLoop.normal ⟨((i+j) / 2 ^ 1+1,j),⟨by simp only;omega,h2,h3⟩,by simp only;omega,⟨by omega,?_,?_⟩⟩
  ·repeat (first|exact LCov.nil|refine LCov.same trivial rfl ?_|refine LCov.same (lt_dec rfl) rfl ?_|refine LCov.same ⟨trivial,lt_dec rfl,lt_dec rfl,lt_dec rfl,trivial⟩ rfl ?_|refine LCov.same ⟨trivial,lt_dec rfl,lt_dec rfl,trivial⟩ rfl ?_|refine LCov.same ⟨trivial,trivial⟩ rfl ?_|refine LCov.cons trivial rfl (.of_eq (lst_len (by simp<;>omega))) ?_)
  ·repeat (first|exact HCov.nil|(refine HCov.cons (lt_dec rfl) ?_ rfl ?_ ?_;(first|exact trivial|exact PVs.under_pure _ _|(simp [HB.under,PVs.under,PV.under]));(first|exact HLe.refl _|exact HLe.vec (FLes.refl _) (by simp))))
 ·rename_i ha hb hd
  have hc:=hcl ((i+j) / 2 ^ 1) (by omega)
  have hc':N≤(i+j) / 2 ^ 1:=hc.1 (by omega)
  refine QLoop.normal ⟨(i,(i+j) / 2 ^ 1),⟨h1,hc',by simp only;omega⟩,by simp only;omega,⟨by omega,?_,?_⟩⟩
  ·repeat (first|exact LCov.nil|refine LCov.same trivial rfl ?_|refine LCov.same (lt_dec rfl) rfl ?_|refine LCov.same ⟨trivial,lt_dec rfl,lt_dec rfl,lt_dec rfl,trivial⟩ rfl ?_|refine LCov.same ⟨trivial,lt_dec rfl,lt_dec rfl,trivial⟩ rfl ?_|refine LCov.same ⟨trivial,trivial⟩ rfl ?_|refine LCov.cons trivial rfl (.of_eq (lst_len (by simp<;>omega))) ?_)
  ·repeat (first|exact HCov.nil|(refine HCov.cons (lt_dec rfl) ?_ rfl ?_ ?_;(first|exact trivial|exact PVs.under_pure _ _|(simp [HB.under,PVs.under,PV.under]));(first|exact HLe.refl _|exact HLe.vec (FLes.refl _) (by simp))))
 ·rename_i ha hb
  have hc:=hcl ((i+j) / 2 ^ 1) (by omega)
  have hc':¬ N≤(i+j) / 2 ^ 1:=fun q=>by have:=hc.2 q;omega
  refine QLoop.normal ⟨((i+j) / 2 ^ 1+1,j),⟨by simp only;omega,h2,h3⟩,by simp only;omega,⟨by omega,?_,?_⟩⟩
  ·repeat (first|exact LCov.nil|refine LCov.same trivial rfl ?_|refine LCov.same (lt_dec rfl) rfl ?_|refine LCov.same ⟨trivial,lt_dec rfl,lt_dec rfl,lt_dec rfl,trivial⟩ rfl ?_|refine LCov.same ⟨trivial,lt_dec rfl,lt_dec rfl,trivial⟩ rfl ?_|refine LCov.same ⟨trivial,trivial⟩ rfl ?_|refine LCov.cons trivial rfl (.of_eq (lst_len (by simp<;>omega))) ?_)
  ·repeat (first|exact HCov.nil|(refine HCov.cons (lt_dec rfl) ?_ rfl ?_ ?_;(first|exact trivial|exact PVs.under_pure _ _|(simp [HB.under,PVs.under,PV.under]));(first|exact HLe.refl _|exact HLe.vec (FLes.refl _) (by simp))))
 ·rename_i ha hb
  simp only at ha hb
  have hN:N>144:=by omega
  rw [if_pos hN]
  (refine Done.ret rfl (.refl _) (by first|exact trivial|exact ⟨trivial,trivial,trivial⟩|exact ⟨trivial,trivial,trivial,trivial⟩) HCov.nil (Nat.zero_le _) (Nat.le_refl _) ⟨?_,rfl,rfl⟩;try rfl)
 ·rename_i ha hb
  simp only at ha hb
  have hN:¬ N>144:=by omega
  obtain rfl:i=N:=by omega
  rw [if_neg hN]
  (refine Done.ret rfl (.refl _) (by first|exact trivial|exact ⟨trivial,trivial,trivial⟩|exact ⟨trivial,trivial,trivial,trivial⟩) HCov.nil (Nat.zero_le _) (Nat.le_refl _) ⟨?_,rfl,rfl⟩;try rfl)
set_option maxRecDepth 100000 in
theorem sFirst_bad (s:Scl) (most:Int) (hs:¬ sOk s):VFun env 23 [.agg (Enc.enc s),.int .i64 most] (.tup [.p (.int .i64 0),.p (.bool false),.p (.int .i64 3)]):=by
 have hc:=scheck_spec s
 rw [show chk s=3 from if_neg hs] at hc
 refine VFun.enter (env_none (by decide)) Tryd.func23 rfl (by kernel_rfl) (by simp [Tryd.ntmps23]) ?_
 repeat' (first
  |apply VWp.assoc
  |apply VWp.rseq
  |apply VWp.rseqD
  |apply VWp.region
  |apply VWp.regionD
  |apply VWp.skipSeq
  |apply VWp.retSeq
  |apply VWp.exitSeq
  |apply VWp.blockSeq
  |apply QSeq.normal
  |apply QSeq.ret
  |apply QSeq.exit
  |(apply DoneI.ret;rfl)
  |(apply DoneI.normal;rfl)
  |apply QBlk.normal
  |apply QBlk.ret
  |apply QBlk.exit
  |(apply QBlk.out;decide)
  |apply QLoop.ret
  |apply QLoop.exit
  |apply VWp.ret
  |apply VWp.skip
  |apply VWp.exit
  |apply VWp.blockQ
  |apply VOps.nil
  |apply VOpsD.nil
  |apply VOps.one
  |(apply VOpsD.bar;decide +kernel)
  |apply VOpsD.quiet
  |(apply VOps.take;rfl;rfl)
  |(apply VOpsD.quietTake;rfl;rfl)
  |(apply VOps.drop;rfl;rfl;rfl)
  |(apply VOpsD.drop;rfl;rfl;rfl)
  |(apply VOps.guard;rfl;rfl)
  |(apply VOpsD.guard;rfl;rfl)
  |(apply VOps.dropU;rfl;rfl)
  |(apply VOpsD.dropU;rfl;rfl)
  |(apply VOps.guardB;rfl;rfl)
  |(apply VOpsD.guardB;rfl;rfl)
  |(apply VVal.fn;rfl;rfl;exact hc;intro _;rfl)
  |(apply VVal.assign;rfl)
  |(apply VVal.move;rfl)
  |(apply VVal.add64;rfl;rfl;omega)
  |(apply VVal.sub64;rfl;rfl;omega)
  |(apply VVal.mul64;rfl;rfl;omega)
  |(apply VVal.subBN (c:=48);rfl;rfl;omega)
  |(apply VVal.subB;rfl;rfl;omega)
  |(apply VVal.addB;rfl;rfl;omega)
  |(apply VVal.addUN;rfl;rfl;omega)
  |(apply VVal.mulUN;rfl;rfl;omega)
  |(apply VVal.subUN;rfl;rfl;omega)
  |(apply VVal.quoUN;rfl;rfl;omega)
  |(apply VVal.remUN;rfl;rfl;omega)
  |(apply VVal.quoUT;rfl;rfl;omega)
  |(apply VVal.remUT;rfl;rfl;omega)
  |(apply VVal.mulUN (a:=10);rfl;rfl;omega)
  |(apply VVal.and1;rfl;rfl;omega)
  |(apply VVal.and1U;rfl;rfl;omega)
  |(apply VVal.and1B;rfl;rfl;omega)
  |(apply VVal.andI;rfl;rfl;omega)
  |(apply VVal.andU;rfl;rfl;omega;omega)
  |(apply VVal.orU;rfl;rfl;omega;omega)
  |(apply VVal.andNotU;rfl;rfl;omega;omega)
  |(apply VVal.remI;rfl;rfl;omega;omega)
  |(apply VVal.quoI;rfl;rfl;omega;omega)
  |(apply VVal.int;rfl;rfl;rfl)
  |(apply VVal.indexN;rfl;rfl;rfl;omega;rfl)
  |(apply VVal.indexP;rfl;rfl;rfl;omega;omega;rfl)
  |(apply VVal.indexE;rfl;rfl;rfl;omega;omega;rfl)
  |(apply VVal.loadVL;rfl;rfl;omega;rfl)
  |(apply VVal.load;rfl;rfl)
  |(apply VVal.pick_true;rfl;rfl)
  |(apply VVal.pick_false;rfl;rfl)
  |(apply VVal.lenF;rfl;rfl)
  |(apply VVal.lenNil;rfl;rfl)
  |(apply VVal.lenV;rfl;rfl;rfl)
  |(apply VVal.fieldB;rfl;rfl;rfl)
  |(apply VVal.fieldF;rfl;rfl)
  |(apply VVal.box;rfl;trivial)
  |(apply VVal.alloc;rfl)
  |(apply VVal.storeB;rfl;rfl;rfl;trivial;rfl;rfl;exact lt_dec rfl;exact le_dec rfl)
  |(apply VVal.build;rfl;rfl;rfl;rfl;rfl)
  |(apply VVal.buildSlice;rfl;rfl;rfl;decide;rfl;rfl;rfl)
  |(apply VVal.lenSt;rfl;rfl)
  |(apply VVal.eqS;rfl;rfl)
  |(apply VVal.neS;rfl;rfl)
  |(apply VVal.indexStN;rfl;rfl;rfl;omega)
  |(apply VVal.indexSt;rfl;rfl;rfl;omega;omega)
  |(apply VVal.sliceSI;rfl;rfl;rfl;rfl;omega)
  |(apply VVal.sliceSto;rfl;rfl;rfl;omega)
  |(apply VVal.sliceSfrom;rfl;rfl;rfl;omega)
  |(apply VVal.convS;rfl;rfl;rfl)
  |(apply VVal.toBytes;rfl;rfl;rfl;rfl;rfl;rfl;omega)
  |(apply VVal.addS;rfl;rfl;(first|omega|(simp only [List.length_take,List.length_drop,List.length_append,List.length_singleton,List.length_cons,List.length_nil]<;>omega)))
  |(apply VVal.indexVN;rfl;rfl;rfl;rfl;omega)
  |(apply VVal.indexVE;rfl;rfl;rfl;rfl;omega;omega)
  |(apply VVal.neg;rfl;omega)
  |(apply VVal.neB;rfl;rfl;rfl)
  |(apply VVal.eqB;rfl;rfl;rfl)
  |(apply VVal.maxI;rfl;rfl)
  |(apply VVal.minI;rfl;rfl)
  |(apply VVal.not;rfl)
  |(apply VVal.extract;rfl;rfl)
  |(apply VVal.convI;rfl;rfl;rfl;rfl;omega)
  |(apply VVal.convU;rfl;rfl;rfl;rfl;omega)
  |(apply VVal.convB;rfl;rfl;rfl;rfl;omega)
  |(apply VVal.convInt;rfl;rfl;rfl;rfl)
  |(apply VVal.append1;rfl;rfl;rfl;rfl;rfl;rfl;rfl;rfl;(intro _ h;cases h);rfl;rfl;rfl;decide;decide;(first|omega|(simp only [List.length_take,List.length_drop,List.length_append,List.length_singleton,List.length_cons,List.length_nil]<;>omega)))
  |(apply VVal.appendL0;rfl;rfl;rfl;(first|rfl|omega|(simp only [List.length_take,List.length_drop,List.length_append,List.length_singleton,List.length_cons,List.length_nil]<;>omega));rfl;rfl;(intro _ h;cases h);rfl;rfl;rfl;decide;decide;(first|omega|(simp only [List.length_take,List.length_drop,List.length_append,List.length_singleton,List.length_cons,List.length_nil]<;>omega)))
  |(apply VVal.appendL;rfl;rfl;rfl;(first|rfl|omega|(simp only [List.length_take,List.length_drop,List.length_append,List.length_singleton,List.length_cons,List.length_nil]));(first|rfl|omega|(simp only [List.length_take,List.length_drop,List.length_append,List.length_singleton,List.length_cons,List.length_nil]<;>omega));rfl;rfl;(intro _ h;cases h);rfl;rfl;rfl;decide;decide;(first|omega|(simp only [List.length_take,List.length_drop,List.length_append,List.length_singleton,List.length_cons,List.length_nil]<;>omega)))
  |(apply VVal.shlOne;rfl;rfl;omega)
  |(apply VVal.shlOneU;rfl;rfl;omega)
  |(apply VVal.shrN;rfl;rfl;(simp only [IntKind.bits];omega))
  |(apply VVal.sliceTo;rfl;rfl;rfl;rfl;rfl;rfl;omega)
  |(apply VVal.sliceFrom;rfl;rfl;rfl;rfl;rfl;rfl;omega)
  |(apply VVal.sliceToI;rfl;rfl;rfl;rfl;rfl;rfl;omega)
  |(apply VVal.shr;rfl;rfl;omega)
  |(apply VVal.shl;rfl;rfl;omega)
  |(apply VWp.condSeq_true;rfl)
  |(apply VWp.condSeq_false;rfl)
  |(apply VWp.condSeq_dec;rfl)
  |(apply VWp.condSeq;rfl)
  |(apply VWp.cond_true;rfl)
  |(apply VWp.cond_false;rfl)
  |(apply VWp.cond_dec;rfl)
  |(apply VWp.cond;rfl)
  |(intro _;try (exfalso;omega)))
 all_goals (refine Done.ret rfl (.refl _) (by first|exact trivial|exact ⟨trivial,trivial,trivial⟩|exact ⟨trivial,trivial,trivial,trivial⟩) HCov.nil (Nat.zero_le _) (Nat.le_refl _) ⟨?_,rfl,rfl⟩;try rfl)
def lenE (x:Frac) (u n:Int):Int:=if ¬ fOk x then 2 else if x.num≤0∨x.num>64*x.den∨u<1∨u>10000∨¬ wOk n then 3 else if x.num>1000∨x.den>1000 then 4 else 0
def lenM (x:Frac) (u n:Int):Nat:=me (u.toNat*x.num.toNat) x.den.toNat 12 n
def lenR (x:Frac) (u n:Int):Int×Int:=if lenE x u n=0 then (if lenM x u n≤10000000 then ((lenM x u n:Int),0) else (0,4)) else (0,lenE x u n)
set_option maxRecDepth 100000 in
set_option maxHeartbeats 1000000 in
theorem sLength_spec (x:Frac) (u n:Int):VFun env 19 [.agg (Enc.enc x),.int .i64 u,.int .i64 n] (.tup [.p (.int .i64 (lenR x u n).1),.p (.int .i64 (lenR x u n).2)]):=by
 have hc:=fcheck_spec x
 have hw:=swithin_spec n
 refine VFun.enter (env_none (by decide)) Tryd.func19 rfl (by kernel_rfl) (by simp [Tryd.ntmps19]) ?_
 by_cases h1:fOk x
 ·rw [show fchk x=0 from if_pos h1] at hc
  have h1':=h1
  obtain ⟨h2,h3,h4,h5,-⟩:=h1'
  by_cases h6:x.num≤0∨x.num>64*x.den∨u<1∨u>10000∨¬ wOk n
  ·have hE:lenE x u n=3:=by unfold lenE;rw [if_neg (Classical.not_not.2 h1),if_pos h6]
   unfold lenR;rw [hE,if_neg (by decide)]
   by_cases h7:wOk n
   ·rw [show win n=0 from if_pos h7] at hw
    have h6':x.num≤0∨x.num>64*x.den∨u<1∨u>10000:=by
     rcases h6 with h|h|h|h|h
     ·exact .inl h
     ·exact .inr (.inl h)
     ·exact .inr (.inr (.inl h))
     ·exact .inr (.inr (.inr h))
     ·exact absurd h7 h
    repeat' (first
     |apply VWp.assoc
     |apply VWp.rseq
     |apply VWp.rseqD
     |apply VWp.region
     |apply VWp.regionD
     |apply VWp.skipSeq
     |apply VWp.retSeq
     |apply VWp.exitSeq
     |apply VWp.blockSeq
     |apply QSeq.normal
     |apply QSeq.ret
     |apply QSeq.exit
     |(apply DoneI.ret;rfl)
     |(apply DoneI.normal;rfl)
     |apply QBlk.normal
     |apply QBlk.ret
     |apply QBlk.exit
     |(apply QBlk.out;decide)
     |apply QLoop.ret
     |apply QLoop.exit
     |apply VWp.ret
     |apply VWp.skip
     |apply VWp.exit
     |apply VWp.blockQ
     |apply VOps.nil
     |apply VOpsD.nil
     |apply VOps.one
     |(apply VOpsD.bar;decide +kernel)
     |apply VOpsD.quiet
     |(apply VOps.take;rfl;rfl)
     |(apply VOpsD.quietTake;rfl;rfl)
     |(apply VOps.drop;rfl;rfl;rfl)
     |(apply VOpsD.drop;rfl;rfl;rfl)
     |(apply VOps.guard;rfl;rfl)
     |(apply VOpsD.guard;rfl;rfl)
     |(apply VOps.dropU;rfl;rfl)
     |(apply VOpsD.dropU;rfl;rfl)
     |(apply VOps.guardB;rfl;rfl)
     |(apply VOpsD.guardB;rfl;rfl)
     |(apply VVal.fn;rfl;rfl;exact hc;intro _;rfl)
     |(apply VVal.fn;rfl;rfl;exact hw;intro _;rfl)
     |(apply VVal.assign;rfl)
     |(apply VVal.move;rfl)
     |(apply VVal.add64;rfl;rfl;omega)
     |(apply VVal.sub64;rfl;rfl;omega)
     |(apply VVal.mul64;rfl;rfl;omega)
     |(apply VVal.subBN (c:=48);rfl;rfl;omega)
     |(apply VVal.subB;rfl;rfl;omega)
     |(apply VVal.addB;rfl;rfl;omega)
     |(apply VVal.addUN;rfl;rfl;omega)
     |(apply VVal.mulUN;rfl;rfl;omega)
     |(apply VVal.subUN;rfl;rfl;omega)
     |(apply VVal.quoUN;rfl;rfl;omega)
     |(apply VVal.remUN;rfl;rfl;omega)
     |(apply VVal.quoUT;rfl;rfl;omega)
     |(apply VVal.remUT;rfl;rfl;omega)
     |(apply VVal.mulUN (a:=10);rfl;rfl;omega)
     |(apply VVal.and1;rfl;rfl;omega)
     |(apply VVal.and1U;rfl;rfl;omega)
     |(apply VVal.and1B;rfl;rfl;omega)
     |(apply VVal.andI;rfl;rfl;omega)
     |(apply VVal.andU;rfl;rfl;omega;omega)
     |(apply VVal.orU;rfl;rfl;omega;omega)
     |(apply VVal.andNotU;rfl;rfl;omega;omega)
     |(apply VVal.remI;rfl;rfl;omega;omega)
     |(apply VVal.quoI;rfl;rfl;omega;omega)
     |(apply VVal.int;rfl;rfl;rfl)
     |(apply VVal.indexN;rfl;rfl;rfl;omega;rfl)
     |(apply VVal.indexP;rfl;rfl;rfl;omega;omega;rfl)
     |(apply VVal.indexE;rfl;rfl;rfl;omega;omega;rfl)
     |(apply VVal.loadVL;rfl;rfl;omega;rfl)
     |(apply VVal.load;rfl;rfl)
     |(apply VVal.pick_true;rfl;rfl)
     |(apply VVal.pick_false;rfl;rfl)
     |(apply VVal.lenF;rfl;rfl)
     |(apply VVal.lenNil;rfl;rfl)
     |(apply VVal.lenV;rfl;rfl;rfl)
     |(apply VVal.fieldB;rfl;rfl;rfl)
     |(apply VVal.fieldF;rfl;rfl)
     |(apply VVal.box;rfl;trivial)
     |(apply VVal.alloc;rfl)
     |(apply VVal.storeB;rfl;rfl;rfl;trivial;rfl;rfl;exact lt_dec rfl;exact le_dec rfl)
     |(apply VVal.build;rfl;rfl;rfl;rfl;rfl)
     |(apply VVal.buildSlice;rfl;rfl;rfl;decide;rfl;rfl;rfl)
     |(apply VVal.lenSt;rfl;rfl)
     |(apply VVal.eqS;rfl;rfl)
     |(apply VVal.neS;rfl;rfl)
     |(apply VVal.indexStN;rfl;rfl;rfl;omega)
     |(apply VVal.indexSt;rfl;rfl;rfl;omega;omega)
     |(apply VVal.sliceSI;rfl;rfl;rfl;rfl;omega)
     |(apply VVal.sliceSto;rfl;rfl;rfl;omega)
     |(apply VVal.sliceSfrom;rfl;rfl;rfl;omega)
     |(apply VVal.convS;rfl;rfl;rfl)
     |(apply VVal.toBytes;rfl;rfl;rfl;rfl;rfl;rfl;omega)
     |(apply VVal.addS;rfl;rfl;(first|omega|(simp only [List.length_take,List.length_drop,List.length_append,List.length_singleton,List.length_cons,List.length_nil]<;>omega)))
     |(apply VVal.indexVN;rfl;rfl;rfl;rfl;omega)
     |(apply VVal.indexVE;rfl;rfl;rfl;rfl;omega;omega)
     |(apply VVal.neg;rfl;omega)
     |(apply VVal.neB;rfl;rfl;rfl)
     |(apply VVal.eqB;rfl;rfl;rfl)
     |(apply VVal.maxI;rfl;rfl)
     |(apply VVal.minI;rfl;rfl)
     |(apply VVal.not;rfl)
     |(apply VVal.extract;rfl;rfl)
     |(apply VVal.convI;rfl;rfl;rfl;rfl;omega)
     |(apply VVal.convU;rfl;rfl;rfl;rfl;omega)
     |(apply VVal.convB;rfl;rfl;rfl;rfl;omega)
     |(apply VVal.convInt;rfl;rfl;rfl;rfl)
     |(apply VVal.append1;rfl;rfl;rfl;rfl;rfl;rfl;rfl;rfl;(intro _ h;cases h);rfl;rfl;rfl;decide;decide;(first|omega|(simp only [List.length_take,List.length_drop,List.length_append,List.length_singleton,List.length_cons,List.length_nil]<;>omega)))
     |(apply VVal.appendL0;rfl;rfl;rfl;(first|rfl|omega|(simp only [List.length_take,List.length_drop,List.length_append,List.length_singleton,List.length_cons,List.length_nil]<;>omega));rfl;rfl;(intro _ h;cases h);rfl;rfl;rfl;decide;decide;(first|omega|(simp only [List.length_take,List.length_drop,List.length_append,List.length_singleton,List.length_cons,List.length_nil]<;>omega)))
     |(apply VVal.appendL;rfl;rfl;rfl;(first|rfl|omega|(simp only [List.length_take,List.length_drop,List.length_append,List.length_singleton,List.length_cons,List.length_nil]));(first|rfl|omega|(simp only [List.length_take,List.length_drop,List.length_append,List.length_singleton,List.length_cons,List.length_nil]<;>omega));rfl;rfl;(intro _ h;cases h);rfl;rfl;rfl;decide;decide;(first|omega|(simp only [List.length_take,List.length_drop,List.length_append,List.length_singleton,List.length_cons,List.length_nil]<;>omega)))
     |(apply VVal.shlOne;rfl;rfl;omega)
     |(apply VVal.shlOneU;rfl;rfl;omega)
     |(apply VVal.shrN;rfl;rfl;(simp only [IntKind.bits];omega))
     |(apply VVal.sliceTo;rfl;rfl;rfl;rfl;rfl;rfl;omega)
     |(apply VVal.sliceFrom;rfl;rfl;rfl;rfl;rfl;rfl;omega)
     |(apply VVal.sliceToI;rfl;rfl;rfl;rfl;rfl;rfl;omega)
     |(apply VVal.shr;rfl;rfl;omega)
     |(apply VVal.shl;rfl;rfl;omega)
     |(apply VWp.condSeq_true;rfl)
     |(apply VWp.condSeq_false;rfl)
     |(apply VWp.condSeq_dec;rfl)
     |(apply VWp.condSeq;rfl)
     |(apply VWp.cond_true;rfl)
     |(apply VWp.cond_false;rfl)
     |(apply VWp.cond_dec;rfl)
     |(apply VWp.cond;rfl)
     |(intro _;try (exfalso;omega)))
    all_goals first|(exfalso;omega)|(refine Done.ret rfl (.refl _) (by first|exact trivial|exact ⟨trivial,trivial,trivial⟩|exact ⟨trivial,trivial,trivial,trivial⟩) HCov.nil (Nat.zero_le _) (Nat.le_refl _) ⟨?_,rfl,rfl⟩;try rfl)
   ·rw [show win n=3 from if_neg h7] at hw
    repeat' (first
     |apply VWp.assoc
     |apply VWp.rseq
     |apply VWp.rseqD
     |apply VWp.region
     |apply VWp.regionD
     |apply VWp.skipSeq
     |apply VWp.retSeq
     |apply VWp.exitSeq
     |apply VWp.blockSeq
     |apply QSeq.normal
     |apply QSeq.ret
     |apply QSeq.exit
     |(apply DoneI.ret;rfl)
     |(apply DoneI.normal;rfl)
     |apply QBlk.normal
     |apply QBlk.ret
     |apply QBlk.exit
     |(apply QBlk.out;decide)
     |apply QLoop.ret
     |apply QLoop.exit
     |apply VWp.ret
     |apply VWp.skip
     |apply VWp.exit
     |apply VWp.blockQ
     |apply VOps.nil
     |apply VOpsD.nil
     |apply VOps.one
     |(apply VOpsD.bar;decide +kernel)
     |apply VOpsD.quiet
     |(apply VOps.take;rfl;rfl)
     |(apply VOpsD.quietTake;rfl;rfl)
     |(apply VOps.drop;rfl;rfl;rfl)
     |(apply VOpsD.drop;rfl;rfl;rfl)
     |(apply VOps.guard;rfl;rfl)
     |(apply VOpsD.guard;rfl;rfl)
     |(apply VOps.dropU;rfl;rfl)
     |(apply VOpsD.dropU;rfl;rfl)
     |(apply VOps.guardB;rfl;rfl)
     |(apply VOpsD.guardB;rfl;rfl)
     |(apply VVal.fn;rfl;rfl;exact hc;intro _;rfl)
     |(apply VVal.fn;rfl;rfl;exact hw;intro _;rfl)
     |(apply VVal.assign;rfl)
     |(apply VVal.move;rfl)
     |(apply VVal.add64;rfl;rfl;omega)
     |(apply VVal.sub64;rfl;rfl;omega)
     |(apply VVal.mul64;rfl;rfl;omega)
     |(apply VVal.subBN (c:=48);rfl;rfl;omega)
     |(apply VVal.subB;rfl;rfl;omega)
     |(apply VVal.addB;rfl;rfl;omega)
     |(apply VVal.addUN;rfl;rfl;omega)
     |(apply VVal.mulUN;rfl;rfl;omega)
     |(apply VVal.subUN;rfl;rfl;omega)
     |(apply VVal.quoUN;rfl;rfl;omega)
     |(apply VVal.remUN;rfl;rfl;omega)
     |(apply VVal.quoUT;rfl;rfl;omega)
     |(apply VVal.remUT;rfl;rfl;omega)
     |(apply VVal.mulUN (a:=10);rfl;rfl;omega)
     |(apply VVal.and1;rfl;rfl;omega)
     |(apply VVal.and1U;rfl;rfl;omega)
     |(apply VVal.and1B;rfl;rfl;omega)
     |(apply VVal.andI;rfl;rfl;omega)
     |(apply VVal.andU;rfl;rfl;omega;omega)
     |(apply VVal.orU;rfl;rfl;omega;omega)
     |(apply VVal.andNotU;rfl;rfl;omega;omega)
     |(apply VVal.remI;rfl;rfl;omega;omega)
     |(apply VVal.quoI;rfl;rfl;omega;omega)
     |(apply VVal.int;rfl;rfl;rfl)
     |(apply VVal.indexN;rfl;rfl;rfl;omega;rfl)
     |(apply VVal.indexP;rfl;rfl;rfl;omega;omega;rfl)
     |(apply VVal.indexE;rfl;rfl;rfl;omega;omega;rfl)
     |(apply VVal.loadVL;rfl;rfl;omega;rfl)
     |(apply VVal.load;rfl;rfl)
     |(apply VVal.pick_true;rfl;rfl)
     |(apply VVal.pick_false;rfl;rfl)
     |(apply VVal.lenF;rfl;rfl)
     |(apply VVal.lenNil;rfl;rfl)
     |(apply VVal.lenV;rfl;rfl;rfl)
     |(apply VVal.fieldB;rfl;rfl;rfl)
     |(apply VVal.fieldF;rfl;rfl)
     |(apply VVal.box;rfl;trivial)
     |(apply VVal.alloc;rfl)
     |(apply VVal.storeB;rfl;rfl;rfl;trivial;rfl;rfl;exact lt_dec rfl;exact le_dec rfl)
     |(apply VVal.build;rfl;rfl;rfl;rfl;rfl)
     |(apply VVal.buildSlice;rfl;rfl;rfl;decide;rfl;rfl;rfl)
     |(apply VVal.lenSt;rfl;rfl)
     |(apply VVal.eqS;rfl;rfl)
     |(apply VVal.neS;rfl;rfl)
     |(apply VVal.indexStN;rfl;rfl;rfl;omega)
     |(apply VVal.indexSt;rfl;rfl;rfl;omega;omega)
     |(apply VVal.sliceSI;rfl;rfl;rfl;rfl;omega)
     |(apply VVal.sliceSto;rfl;rfl;rfl;omega)
     |(apply VVal.sliceSfrom;rfl;rfl;rfl;omega)
     |(apply VVal.convS;rfl;rfl;rfl)
     |(apply VVal.toBytes;rfl;rfl;rfl;rfl;rfl;rfl;omega)
     |(apply VVal.addS;rfl;rfl;(first|omega|(simp only [List.length_take,List.length_drop,List.length_append,List.length_singleton,List.length_cons,List.length_nil]<;>omega)))
     |(apply VVal.indexVN;rfl;rfl;rfl;rfl;omega)
     |(apply VVal.indexVE;rfl;rfl;rfl;rfl;omega;omega)
     |(apply VVal.neg;rfl;omega)
     |(apply VVal.neB;rfl;rfl;rfl)
     |(apply VVal.eqB;rfl;rfl;rfl)
     |(apply VVal.maxI;rfl;rfl)
     |(apply VVal.minI;rfl;rfl)
     |(apply VVal.not;rfl)
     |(apply VVal.extract;rfl;rfl)
     |(apply VVal.convI;rfl;rfl;rfl;rfl;omega)
     |(apply VVal.convU;rfl;rfl;rfl;rfl;omega)
     |(apply VVal.convB;rfl;rfl;rfl;rfl;omega)
     |(apply VVal.convInt;rfl;rfl;rfl;rfl)
     |(apply VVal.append1;rfl;rfl;rfl;rfl;rfl;rfl;rfl;rfl;(intro _ h;cases h);rfl;rfl;rfl;decide;decide;(first|omega|(simp only [List.length_take,List.length_drop,List.length_append,List.length_singleton,List.length_cons,List.length_nil]<;>omega)))
     |(apply VVal.appendL0;rfl;rfl;rfl;(first|rfl|omega|(simp only [List.length_take,List.length_drop,List.length_append,List.length_singleton,List.length_cons,List.length_nil]<;>omega));rfl;rfl;(intro _ h;cases h);rfl;rfl;rfl;decide;decide;(first|omega|(simp only [List.length_take,List.length_drop,List.length_append,List.length_singleton,List.length_cons,List.length_nil]<;>omega)))
     |(apply VVal.appendL;rfl;rfl;rfl;(first|rfl|omega|(simp only [List.length_take,List.length_drop,List.length_append,List.length_singleton,List.length_cons,List.length_nil]));(first|rfl|omega|(simp only [List.length_take,List.length_drop,List.length_append,List.length_singleton,List.length_cons,List.length_nil]<;>omega));rfl;rfl;(intro _ h;cases h);rfl;rfl;rfl;decide;decide;(first|omega|(simp only [List.length_take,List.length_drop,List.length_append,List.length_singleton,List.length_cons,List.length_nil]<;>omega)))
     |(apply VVal.shlOne;rfl;rfl;omega)
     |(apply VVal.shlOneU;rfl;rfl;omega)
     |(apply VVal.shrN;rfl;rfl;(simp only [IntKind.bits];omega))
     |(apply VVal.sliceTo;rfl;rfl;rfl;rfl;rfl;rfl;omega)
     |(apply VVal.sliceFrom;rfl;rfl;rfl;rfl;rfl;rfl;omega)
     |(apply VVal.sliceToI;rfl;rfl;rfl;rfl;rfl;rfl;omega)
     |(apply VVal.shr;rfl;rfl;omega)
     |(apply VVal.shl;rfl;rfl;omega)
     |(apply VWp.condSeq_true;rfl)
     |(apply VWp.condSeq_false;rfl)
     |(apply VWp.condSeq_dec;rfl)
     |(apply VWp.condSeq;rfl)
     |(apply VWp.cond_true;rfl)
     |(apply VWp.cond_false;rfl)
     |(apply VWp.cond_dec;rfl)
     |(apply VWp.cond;rfl)
     |(intro _;try (exfalso;omega)))
    all_goals (refine Done.ret rfl (.refl _) (by first|exact trivial|exact ⟨trivial,trivial,trivial⟩|exact ⟨trivial,trivial,trivial,trivial⟩) HCov.nil (Nat.zero_le _) (Nat.le_refl _) ⟨?_,rfl,rfl⟩;try rfl)
  ·have h8:0<x.num∧x.num≤64*x.den∧1≤u∧u≤10000∧wOk n:=by
    refine ⟨?_,?_,?_,?_,?_⟩
    ·exact Int.not_le.1 fun h=>h6 (.inl h)
    ·exact Int.not_lt.1 fun h=>h6 (.inr (.inl h))
    ·exact Int.not_lt.1 fun h=>h6 (.inr (.inr (.inl h)))
    ·exact Int.not_lt.1 fun h=>h6 (.inr (.inr (.inr (.inl h))))
    ·exact Classical.not_not.1 fun h=>h6 (.inr (.inr (.inr (.inr h))))
   obtain ⟨a1,a2,a3,a4,a5⟩:=h8
   rw [show win n=0 from if_pos a5] at hw
   obtain ⟨a6,a7⟩:=a5
   by_cases h9:x.num>1000∨x.den>1000
   ·have hE:lenE x u n=4:=by unfold lenE;rw [if_neg (Classical.not_not.2 h1),if_neg h6,if_pos h9]
    unfold lenR;rw [hE,if_neg (by decide)]
    repeat' (first
     |apply VWp.assoc
     |apply VWp.rseq
     |apply VWp.rseqD
     |apply VWp.region
     |apply VWp.regionD
     |apply VWp.skipSeq
     |apply VWp.retSeq
     |apply VWp.exitSeq
     |apply VWp.blockSeq
     |apply QSeq.normal
     |apply QSeq.ret
     |apply QSeq.exit
     |(apply DoneI.ret;rfl)
     |(apply DoneI.normal;rfl)
     |apply QBlk.normal
     |apply QBlk.ret
     |apply QBlk.exit
     |(apply QBlk.out;decide)
     |apply QLoop.ret
     |apply QLoop.exit
     |apply VWp.ret
     |apply VWp.skip
     |apply VWp.exit
     |apply VWp.blockQ
     |apply VOps.nil
     |apply VOpsD.nil
     |apply VOps.one
     |(apply VOpsD.bar;decide +kernel)
     |apply VOpsD.quiet
     |(apply VOps.take;rfl;rfl)
     |(apply VOpsD.quietTake;rfl;rfl)
     |(apply VOps.drop;rfl;rfl;rfl)
     |(apply VOpsD.drop;rfl;rfl;rfl)
     |(apply VOps.guard;rfl;rfl)
     |(apply VOpsD.guard;rfl;rfl)
     |(apply VOps.dropU;rfl;rfl)
     |(apply VOpsD.dropU;rfl;rfl)
     |(apply VOps.guardB;rfl;rfl)
     |(apply VOpsD.guardB;rfl;rfl)
     |(apply VVal.fn;rfl;rfl;exact hc;intro _;rfl)
     |(apply VVal.fn;rfl;rfl;exact hw;intro _;rfl)
     |(apply VVal.assign;rfl)
     |(apply VVal.move;rfl)
     |(apply VVal.add64;rfl;rfl;omega)
     |(apply VVal.sub64;rfl;rfl;omega)
     |(apply VVal.mul64;rfl;rfl;omega)
     |(apply VVal.subBN (c:=48);rfl;rfl;omega)
     |(apply VVal.subB;rfl;rfl;omega)
     |(apply VVal.addB;rfl;rfl;omega)
     |(apply VVal.addUN;rfl;rfl;omega)
     |(apply VVal.mulUN;rfl;rfl;omega)
     |(apply VVal.subUN;rfl;rfl;omega)
     |(apply VVal.quoUN;rfl;rfl;omega)
     |(apply VVal.remUN;rfl;rfl;omega)
     |(apply VVal.quoUT;rfl;rfl;omega)
     |(apply VVal.remUT;rfl;rfl;omega)
     |(apply VVal.mulUN (a:=10);rfl;rfl;omega)
     |(apply VVal.and1;rfl;rfl;omega)
     |(apply VVal.and1U;rfl;rfl;omega)
     |(apply VVal.and1B;rfl;rfl;omega)
     |(apply VVal.andI;rfl;rfl;omega)
     |(apply VVal.andU;rfl;rfl;omega;omega)
     |(apply VVal.orU;rfl;rfl;omega;omega)
     |(apply VVal.andNotU;rfl;rfl;omega;omega)
     |(apply VVal.remI;rfl;rfl;omega;omega)
     |(apply VVal.quoI;rfl;rfl;omega;omega)
     |(apply VVal.int;rfl;rfl;rfl)
     |(apply VVal.indexN;rfl;rfl;rfl;omega;rfl)
     |(apply VVal.indexP;rfl;rfl;rfl;omega;omega;rfl)
     |(apply VVal.indexE;rfl;rfl;rfl;omega;omega;rfl)
     |(apply VVal.loadVL;rfl;rfl;omega;rfl)
     |(apply VVal.load;rfl;rfl)
     |(apply VVal.pick_true;rfl;rfl)
     |(apply VVal.pick_false;rfl;rfl)
     |(apply VVal.lenF;rfl;rfl)
     |(apply VVal.lenNil;rfl;rfl)
     |(apply VVal.lenV;rfl;rfl;rfl)
     |(apply VVal.fieldB;rfl;rfl;rfl)
     |(apply VVal.fieldF;rfl;rfl)
     |(apply VVal.box;rfl;trivial)
     |(apply VVal.alloc;rfl)
     |(apply VVal.storeB;rfl;rfl;rfl;trivial;rfl;rfl;exact lt_dec rfl;exact le_dec rfl)
     |(apply VVal.build;rfl;rfl;rfl;rfl;rfl)
     |(apply VVal.buildSlice;rfl;rfl;rfl;decide;rfl;rfl;rfl)
     |(apply VVal.lenSt;rfl;rfl)
     |(apply VVal.eqS;rfl;rfl)
     |(apply VVal.neS;rfl;rfl)
     |(apply VVal.indexStN;rfl;rfl;rfl;omega)
     |(apply VVal.indexSt;rfl;rfl;rfl;omega;omega)
     |(apply VVal.sliceSI;rfl;rfl;rfl;rfl;omega)
     |(apply VVal.sliceSto;rfl;rfl;rfl;omega)
     |(apply VVal.sliceSfrom;rfl;rfl;rfl;omega)
     |(apply VVal.convS;rfl;rfl;rfl)
     |(apply VVal.toBytes;rfl;rfl;rfl;rfl;rfl;rfl;omega)
     |(apply VVal.addS;rfl;rfl;(first|omega|(simp only [List.length_take,List.length_drop,List.length_append,List.length_singleton,List.length_cons,List.length_nil]<;>omega)))
     |(apply VVal.indexVN;rfl;rfl;rfl;rfl;omega)
     |(apply VVal.indexVE;rfl;rfl;rfl;rfl;omega;omega)
     |(apply VVal.neg;rfl;omega)
     |(apply VVal.neB;rfl;rfl;rfl)
     |(apply VVal.eqB;rfl;rfl;rfl)
     |(apply VVal.maxI;rfl;rfl)
     |(apply VVal.minI;rfl;rfl)
     |(apply VVal.not;rfl)
     |(apply VVal.extract;rfl;rfl)
     |(apply VVal.convI;rfl;rfl;rfl;rfl;omega)
     |(apply VVal.convU;rfl;rfl;rfl;rfl;omega)
     |(apply VVal.convB;rfl;rfl;rfl;rfl;omega)
     |(apply VVal.convInt;rfl;rfl;rfl;rfl)
     |(apply VVal.append1;rfl;rfl;rfl;rfl;rfl;rfl;rfl;rfl;(intro _ h;cases h);rfl;rfl;rfl;decide;decide;(first|omega|(simp only [List.length_take,List.length_drop,List.length_append,List.length_singleton,List.length_cons,List.length_nil]<;>omega)))
     |(apply VVal.appendL0;rfl;rfl;rfl;(first|rfl|omega|(simp only [List.length_take,List.length_drop,List.length_append,List.length_singleton,List.length_cons,List.length_nil]<;>omega));rfl;rfl;(intro _ h;cases h);rfl;rfl;rfl;decide;decide;(first|omega|(simp only [List.length_take,List.length_drop,List.length_append,List.length_singleton,List.length_cons,List.length_nil]<;>omega)))
     |(apply VVal.appendL;rfl;rfl;rfl;(first|rfl|omega|(simp only [List.length_take,List.length_drop,List.length_append,List.length_singleton,List.length_cons,List.length_nil]));(first|rfl|omega|(simp only [List.length_take,List.length_drop,List.length_append,List.length_singleton,List.length_cons,List.length_nil]<;>omega));rfl;rfl;(intro _ h;cases h);rfl;rfl;rfl;decide;decide;(first|omega|(simp only [List.length_take,List.length_drop,List.length_append,List.length_singleton,List.length_cons,List.length_nil]<;>omega)))
     |(apply VVal.shlOne;rfl;rfl;omega)
     |(apply VVal.shlOneU;rfl;rfl;omega)
     |(apply VVal.shrN;rfl;rfl;(simp only [IntKind.bits];omega))
     |(apply VVal.sliceTo;rfl;rfl;rfl;rfl;rfl;rfl;omega)
     |(apply VVal.sliceFrom;rfl;rfl;rfl;rfl;rfl;rfl;omega)
     |(apply VVal.sliceToI;rfl;rfl;rfl;rfl;rfl;rfl;omega)
     |(apply VVal.shr;rfl;rfl;omega)
     |(apply VVal.shl;rfl;rfl;omega)
     |(apply VWp.condSeq_true;rfl)
     |(apply VWp.condSeq_false;rfl)
     |(apply VWp.condSeq_dec;rfl)
     |(apply VWp.condSeq;rfl)
     |(apply VWp.cond_true;rfl)
     |(apply VWp.cond_false;rfl)
     |(apply VWp.cond_dec;rfl)
     |(apply VWp.cond;rfl)
     |(intro _;try (exfalso;omega)))
    all_goals first|(exfalso;omega)|(refine Done.ret rfl (.refl _) (by first|exact trivial|exact ⟨trivial,trivial,trivial⟩|exact ⟨trivial,trivial,trivial,trivial⟩) HCov.nil (Nat.zero_le _) (Nat.le_refl _) ⟨?_,rfl,rfl⟩;try rfl)
   ·have hE:lenE x u n=0:=by unfold lenE;rw [if_neg (Classical.not_not.2 h1),if_neg h6,if_neg h9]
    have b1:x.num≤1000:=Int.not_lt.1 fun h=>h9 (.inl h)
    have b2:x.den≤1000:=Int.not_lt.1 fun h=>h9 (.inr h)
    have b3:u.toNat*x.num.toNat≤10000*1000:=Nat.mul_le_mul (by omega) (by omega)
    have b4:((u.toNat*x.num.toNat:Nat):Int)=u*x.num:=by rw [Int.natCast_mul,Int.toNat_of_nonneg (by omega),Int.toNat_of_nonneg (by omega)]
    have hr:=rounded_spec (u.toNat*x.num.toNat) x.den.toNat 12 n (by omega) (by omega) (by omega) (by omega)
    rw [b4,Int.toNat_of_nonneg (by omega)] at hr
    have b5:-9223372036854775808≤u*x.num∧u*x.num<9223372036854775808:=by rw [← b4];omega
    have hR:lenR x u n=if lenM x u n≤10000000 then ((lenM x u n:Int),0) else (0,4):=by unfold lenR;rw [if_pos hE]
    rw [hR]
    have hM:me (u.toNat*x.num.toNat) x.den.toNat 12 n=lenM x u n:=rfl
    rw [hM] at hr
    generalize lenM x u n=M at *
    repeat' (first
     |apply VWp.assoc
     |apply VWp.rseq
     |apply VWp.rseqD
     |apply VWp.region
     |apply VWp.regionD
     |apply VWp.skipSeq
     |apply VWp.retSeq
     |apply VWp.exitSeq
     |apply VWp.blockSeq
     |apply QSeq.normal
     |apply QSeq.ret
     |apply QSeq.exit
     |(apply DoneI.ret;rfl)
     |(apply DoneI.normal;rfl)
     |apply QBlk.normal
     |apply QBlk.ret
     |apply QBlk.exit
     |(apply QBlk.out;decide)
     |apply QLoop.ret
     |apply QLoop.exit
     |apply VWp.ret
     |apply VWp.skip
     |apply VWp.exit
     |apply VWp.blockQ
     |apply VOps.nil
     |apply VOpsD.nil
     |apply VOps.one
     |(apply VOpsD.bar;decide +kernel)
     |apply VOpsD.quiet
     |(apply VOps.take;rfl;rfl)
     |(apply VOpsD.quietTake;rfl;rfl)
     |(apply VOps.drop;rfl;rfl;rfl)
     |(apply VOpsD.drop;rfl;rfl;rfl)
     |(apply VOps.guard;rfl;rfl)
     |(apply VOpsD.guard;rfl;rfl)
     |(apply VOps.dropU;rfl;rfl)
     |(apply VOpsD.dropU;rfl;rfl)
     |(apply VOps.guardB;rfl;rfl)
     |(apply VOpsD.guardB;rfl;rfl)
     |(apply VVal.fn;rfl;rfl;exact hc;intro _;rfl)
     |(apply VVal.fn;rfl;rfl;exact hw;intro _;rfl)
     |(apply VVal.fn;rfl;rfl;exact hr;intro _;rfl)
     |(apply VVal.assign;rfl)
     |(apply VVal.move;rfl)
     |(apply VVal.add64;rfl;rfl;omega)
     |(apply VVal.sub64;rfl;rfl;omega)
     |(apply VVal.mul64;rfl;rfl;omega)
     |(apply VVal.subBN (c:=48);rfl;rfl;omega)
     |(apply VVal.subB;rfl;rfl;omega)
     |(apply VVal.addB;rfl;rfl;omega)
     |(apply VVal.addUN;rfl;rfl;omega)
     |(apply VVal.mulUN;rfl;rfl;omega)
     |(apply VVal.subUN;rfl;rfl;omega)
     |(apply VVal.quoUN;rfl;rfl;omega)
     |(apply VVal.remUN;rfl;rfl;omega)
     |(apply VVal.quoUT;rfl;rfl;omega)
     |(apply VVal.remUT;rfl;rfl;omega)
     |(apply VVal.mulUN (a:=10);rfl;rfl;omega)
     |(apply VVal.and1;rfl;rfl;omega)
     |(apply VVal.and1U;rfl;rfl;omega)
     |(apply VVal.and1B;rfl;rfl;omega)
     |(apply VVal.andI;rfl;rfl;omega)
     |(apply VVal.andU;rfl;rfl;omega;omega)
     |(apply VVal.orU;rfl;rfl;omega;omega)
     |(apply VVal.andNotU;rfl;rfl;omega;omega)
     |(apply VVal.remI;rfl;rfl;omega;omega)
     |(apply VVal.quoI;rfl;rfl;omega;omega)
     |(apply VVal.int;rfl;rfl;rfl)
     |(apply VVal.indexN;rfl;rfl;rfl;omega;rfl)
     |(apply VVal.indexP;rfl;rfl;rfl;omega;omega;rfl)
     |(apply VVal.indexE;rfl;rfl;rfl;omega;omega;rfl)
     |(apply VVal.loadVL;rfl;rfl;omega;rfl)
     |(apply VVal.load;rfl;rfl)
     |(apply VVal.pick_true;rfl;rfl)
     |(apply VVal.pick_false;rfl;rfl)
     |(apply VVal.lenF;rfl;rfl)
     |(apply VVal.lenNil;rfl;rfl)
     |(apply VVal.lenV;rfl;rfl;rfl)
     |(apply VVal.fieldB;rfl;rfl;rfl)
     |(apply VVal.fieldF;rfl;rfl)
     |(apply VVal.box;rfl;trivial)
     |(apply VVal.alloc;rfl)
     |(apply VVal.storeB;rfl;rfl;rfl;trivial;rfl;rfl;exact lt_dec rfl;exact le_dec rfl)
     |(apply VVal.build;rfl;rfl;rfl;rfl;rfl)
     |(apply VVal.buildSlice;rfl;rfl;rfl;decide;rfl;rfl;rfl)
     |(apply VVal.lenSt;rfl;rfl)
     |(apply VVal.eqS;rfl;rfl)
     |(apply VVal.neS;rfl;rfl)
     |(apply VVal.indexStN;rfl;rfl;rfl;omega)
     |(apply VVal.indexSt;rfl;rfl;rfl;omega;omega)
     |(apply VVal.sliceSI;rfl;rfl;rfl;rfl;omega)
     |(apply VVal.sliceSto;rfl;rfl;rfl;omega)
     |(apply VVal.sliceSfrom;rfl;rfl;rfl;omega)
     |(apply VVal.convS;rfl;rfl;rfl)
     |(apply VVal.toBytes;rfl;rfl;rfl;rfl;rfl;rfl;omega)
     |(apply VVal.addS;rfl;rfl;(first|omega|(simp only [List.length_take,List.length_drop,List.length_append,List.length_singleton,List.length_cons,List.length_nil]<;>omega)))
     |(apply VVal.indexVN;rfl;rfl;rfl;rfl;omega)
     |(apply VVal.indexVE;rfl;rfl;rfl;rfl;omega;omega)
     |(apply VVal.neg;rfl;omega)
     |(apply VVal.neB;rfl;rfl;rfl)
     |(apply VVal.eqB;rfl;rfl;rfl)
     |(apply VVal.maxI;rfl;rfl)
     |(apply VVal.minI;rfl;rfl)
     |(apply VVal.not;rfl)
     |(apply VVal.extract;rfl;rfl)
     |(apply VVal.convI;rfl;rfl;rfl;rfl;omega)
     |(apply VVal.convU;rfl;rfl;rfl;rfl;omega)
     |(apply VVal.convB;rfl;rfl;rfl;rfl;omega)
     |(apply VVal.convInt;rfl;rfl;rfl;rfl)
     |(apply VVal.append1;rfl;rfl;rfl;rfl;rfl;rfl;rfl;rfl;(intro _ h;cases h);rfl;rfl;rfl;decide;decide;(first|omega|(simp only [List.length_take,List.length_drop,List.length_append,List.length_singleton,List.length_cons,List.length_nil]<;>omega)))
     |(apply VVal.appendL0;rfl;rfl;rfl;(first|rfl|omega|(simp only [List.length_take,List.length_drop,List.length_append,List.length_singleton,List.length_cons,List.length_nil]<;>omega));rfl;rfl;(intro _ h;cases h);rfl;rfl;rfl;decide;decide;(first|omega|(simp only [List.length_take,List.length_drop,List.length_append,List.length_singleton,List.length_cons,List.length_nil]<;>omega)))
     |(apply VVal.appendL;rfl;rfl;rfl;(first|rfl|omega|(simp only [List.length_take,List.length_drop,List.length_append,List.length_singleton,List.length_cons,List.length_nil]));(first|rfl|omega|(simp only [List.length_take,List.length_drop,List.length_append,List.length_singleton,List.length_cons,List.length_nil]<;>omega));rfl;rfl;(intro _ h;cases h);rfl;rfl;rfl;decide;decide;(first|omega|(simp only [List.length_take,List.length_drop,List.length_append,List.length_singleton,List.length_cons,List.length_nil]<;>omega)))
     |(apply VVal.shlOne;rfl;rfl;omega)
     |(apply VVal.shlOneU;rfl;rfl;omega)
     |(apply VVal.shrN;rfl;rfl;(simp only [IntKind.bits];omega))
     |(apply VVal.sliceTo;rfl;rfl;rfl;rfl;rfl;rfl;omega)
     |(apply VVal.sliceFrom;rfl;rfl;rfl;rfl;rfl;rfl;omega)
     |(apply VVal.sliceToI;rfl;rfl;rfl;rfl;rfl;rfl;omega)
     |(apply VVal.shr;rfl;rfl;omega)
     |(apply VVal.shl;rfl;rfl;omega)
     |(apply VWp.condSeq_true;rfl)
     |(apply VWp.condSeq_false;rfl)
     |(apply VWp.condSeq_dec;rfl)
     |(apply VWp.condSeq;rfl)
     |(apply VWp.cond_true;rfl)
     |(apply VWp.cond_false;rfl)
     |(apply VWp.cond_dec;rfl)
     |(apply VWp.cond;rfl)
     |(intro _;try (exfalso;omega)))
    all_goals first|(exfalso;omega)|(rw [if_pos (by omega)];(refine Done.ret rfl (.refl _) (by first|exact trivial|exact ⟨trivial,trivial,trivial⟩|exact ⟨trivial,trivial,trivial,trivial⟩) HCov.nil (Nat.zero_le _) (Nat.le_refl _) ⟨?_,rfl,rfl⟩;try rfl);done)|(rw [if_neg (by omega)];(refine Done.ret rfl (.refl _) (by first|exact trivial|exact ⟨trivial,trivial,trivial⟩|exact ⟨trivial,trivial,trivial,trivial⟩) HCov.nil (Nat.zero_le _) (Nat.le_refl _) ⟨?_,rfl,rfl⟩;try rfl);done)
 ·rw [show fchk x=2 from if_neg h1] at hc
  have hE:lenE x u n=2:=by unfold lenE;rw [if_pos h1]
  unfold lenR;rw [hE,if_neg (by decide)]
  repeat' (first
   |apply VWp.assoc
   |apply VWp.rseq
   |apply VWp.rseqD
   |apply VWp.region
   |apply VWp.regionD
   |apply VWp.skipSeq
   |apply VWp.retSeq
   |apply VWp.exitSeq
   |apply VWp.blockSeq
   |apply QSeq.normal
   |apply QSeq.ret
   |apply QSeq.exit
   |(apply DoneI.ret;rfl)
   |(apply DoneI.normal;rfl)
   |apply QBlk.normal
   |apply QBlk.ret
   |apply QBlk.exit
   |(apply QBlk.out;decide)
   |apply QLoop.ret
   |apply QLoop.exit
   |apply VWp.ret
   |apply VWp.skip
   |apply VWp.exit
   |apply VWp.blockQ
   |apply VOps.nil
   |apply VOpsD.nil
   |apply VOps.one
   |(apply VOpsD.bar;decide +kernel)
   |apply VOpsD.quiet
   |(apply VOps.take;rfl;rfl)
   |(apply VOpsD.quietTake;rfl;rfl)
   |(apply VOps.drop;rfl;rfl;rfl)
   |(apply VOpsD.drop;rfl;rfl;rfl)
   |(apply VOps.guard;rfl;rfl)
   |(apply VOpsD.guard;rfl;rfl)
   |(apply VOps.dropU;rfl;rfl)
   |(apply VOpsD.dropU;rfl;rfl)
   |(apply VOps.guardB;rfl;rfl)
   |(apply VOpsD.guardB;rfl;rfl)
   |(apply VVal.fn;rfl;rfl;exact hc;intro _;rfl)
   |(apply VVal.assign;rfl)
   |(apply VVal.move;rfl)
   |(apply VVal.add64;rfl;rfl;omega)
   |(apply VVal.sub64;rfl;rfl;omega)
   |(apply VVal.mul64;rfl;rfl;omega)
   |(apply VVal.subBN (c:=48);rfl;rfl;omega)
   |(apply VVal.subB;rfl;rfl;omega)
   |(apply VVal.addB;rfl;rfl;omega)
   |(apply VVal.addUN;rfl;rfl;omega)
   |(apply VVal.mulUN;rfl;rfl;omega)
   |(apply VVal.subUN;rfl;rfl;omega)
   |(apply VVal.quoUN;rfl;rfl;omega)
   |(apply VVal.remUN;rfl;rfl;omega)
   |(apply VVal.quoUT;rfl;rfl;omega)
   |(apply VVal.remUT;rfl;rfl;omega)
   |(apply VVal.mulUN (a:=10);rfl;rfl;omega)
   |(apply VVal.and1;rfl;rfl;omega)
   |(apply VVal.and1U;rfl;rfl;omega)
   |(apply VVal.and1B;rfl;rfl;omega)
   |(apply VVal.andI;rfl;rfl;omega)
   |(apply VVal.andU;rfl;rfl;omega;omega)
   |(apply VVal.orU;rfl;rfl;omega;omega)
   |(apply VVal.andNotU;rfl;rfl;omega;omega)
   |(apply VVal.remI;rfl;rfl;omega;omega)
   |(apply VVal.quoI;rfl;rfl;omega;omega)
   |(apply VVal.int;rfl;rfl;rfl)
   |(apply VVal.indexN;rfl;rfl;rfl;omega;rfl)
   |(apply VVal.indexP;rfl;rfl;rfl;omega;omega;rfl)
   |(apply VVal.indexE;rfl;rfl;rfl;omega;omega;rfl)
   |(apply VVal.loadVL;rfl;rfl;omega;rfl)
   |(apply VVal.load;rfl;rfl)
   |(apply VVal.pick_true;rfl;rfl)
   |(apply VVal.pick_false;rfl;rfl)
   |(apply VVal.lenF;rfl;rfl)
   |(apply VVal.lenNil;rfl;rfl)
   |(apply VVal.lenV;rfl;rfl;rfl)
   |(apply VVal.fieldB;rfl;rfl;rfl)
   |(apply VVal.fieldF;rfl;rfl)
   |(apply VVal.box;rfl;trivial)
   |(apply VVal.alloc;rfl)
   |(apply VVal.storeB;rfl;rfl;rfl;trivial;rfl;rfl;exact lt_dec rfl;exact le_dec rfl)
   |(apply VVal.build;rfl;rfl;rfl;rfl;rfl)
   |(apply VVal.buildSlice;rfl;rfl;rfl;decide;rfl;rfl;rfl)
   |(apply VVal.lenSt;rfl;rfl)
   |(apply VVal.eqS;rfl;rfl)
   |(apply VVal.neS;rfl;rfl)
   |(apply VVal.indexStN;rfl;rfl;rfl;omega)
   |(apply VVal.indexSt;rfl;rfl;rfl;omega;omega)
   |(apply VVal.sliceSI;rfl;rfl;rfl;rfl;omega)
   |(apply VVal.sliceSto;rfl;rfl;rfl;omega)
   |(apply VVal.sliceSfrom;rfl;rfl;rfl;omega)
   |(apply VVal.convS;rfl;rfl;rfl)
   |(apply VVal.toBytes;rfl;rfl;rfl;rfl;rfl;rfl;omega)
   |(apply VVal.addS;rfl;rfl;(first|omega|(simp only [List.length_take,List.length_drop,List.length_append,List.length_singleton,List.length_cons,List.length_nil]<;>omega)))
   |(apply VVal.indexVN;rfl;rfl;rfl;rfl;omega)
   |(apply VVal.indexVE;rfl;rfl;rfl;rfl;omega;omega)
   |(apply VVal.neg;rfl;omega)
   |(apply VVal.neB;rfl;rfl;rfl)
   |(apply VVal.eqB;rfl;rfl;rfl)
   |(apply VVal.maxI;rfl;rfl)
   |(apply VVal.minI;rfl;rfl)
   |(apply VVal.not;rfl)
   |(apply VVal.extract;rfl;rfl)
   |(apply VVal.convI;rfl;rfl;rfl;rfl;omega)
   |(apply VVal.convU;rfl;rfl;rfl;rfl;omega)
   |(apply VVal.convB;rfl;rfl;rfl;rfl;omega)
   |(apply VVal.convInt;rfl;rfl;rfl;rfl)
   |(apply VVal.append1;rfl;rfl;rfl;rfl;rfl;rfl;rfl;rfl;(intro _ h;cases h);rfl;rfl;rfl;decide;decide;(first|omega|(simp only [List.length_take,List.length_drop,List.length_append,List.length_singleton,List.length_cons,List.length_nil]<;>omega)))
   |(apply VVal.appendL0;rfl;rfl;rfl;(first|rfl|omega|(simp only [List.length_take,List.length_drop,List.length_append,List.length_singleton,List.length_cons,List.length_nil]<;>omega));rfl;rfl;(intro _ h;cases h);rfl;rfl;rfl;decide;decide;(first|omega|(simp only [List.length_take,List.length_drop,List.length_append,List.length_singleton,List.length_cons,List.length_nil]<;>omega)))
   |(apply VVal.appendL;rfl;rfl;rfl;(first|rfl|omega|(simp only [List.length_take,List.length_drop,List.length_append,List.length_singleton,List.length_cons,List.length_nil]));(first|rfl|omega|(simp only [List.length_take,List.length_drop,List.length_append,List.length_singleton,List.length_cons,List.length_nil]<;>omega));rfl;rfl;(intro _ h;cases h);rfl;rfl;rfl;decide;decide;(first|omega|(simp only [List.length_take,List.length_drop,List.length_append,List.length_singleton,List.length_cons,List.length_nil]<;>omega)))
   |(apply VVal.shlOne;rfl;rfl;omega)
   |(apply VVal.shlOneU;rfl;rfl;omega)
   |(apply VVal.shrN;rfl;rfl;(simp only [IntKind.bits];omega))
   |(apply VVal.sliceTo;rfl;rfl;rfl;rfl;rfl;rfl;omega)
   |(apply VVal.sliceFrom;rfl;rfl;rfl;rfl;rfl;rfl;omega)
   |(apply VVal.sliceToI;rfl;rfl;rfl;rfl;rfl;rfl;omega)
   |(apply VVal.shr;rfl;rfl;omega)
   |(apply VVal.shl;rfl;rfl;omega)
   |(apply VWp.condSeq_true;rfl)
   |(apply VWp.condSeq_false;rfl)
   |(apply VWp.condSeq_dec;rfl)
   |(apply VWp.condSeq;rfl)
   |(apply VWp.cond_true;rfl)
   |(apply VWp.cond_false;rfl)
   |(apply VWp.cond_dec;rfl)
   |(apply VWp.cond;rfl)
   |(intro _;try (exfalso;omega)))
  all_goals (refine Done.ret rfl (.refl _) (by first|exact trivial|exact ⟨trivial,trivial,trivial⟩|exact ⟨trivial,trivial,trivial,trivial⟩) HCov.nil (Nat.zero_le _) (Nat.le_refl _) ⟨?_,rfl,rfl⟩;try rfl)
end Go.Proofs.YtemfebbakfhknaaDoor
