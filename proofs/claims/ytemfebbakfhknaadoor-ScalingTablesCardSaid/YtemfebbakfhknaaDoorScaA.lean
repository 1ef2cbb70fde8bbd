/-
  The layer of scaling: what power, rounded and value compute. Conditions: in each statement.
-/
import Derived.Test.YtemfebbakfhknaaDoorIntB
import Derived.Test.YtemfebbakfhknaaDoorFraA
import Derived.Test.YtemfebbakfhknaaDoorScaP
set_option linter.unusedSimpArgs false
set_option linter.unusedVariables false
namespace Go.Proofs.YtemfebbakfhknaaDoor
open Go Go.Am Go.Vm Go.Sca
attribute [local irreducible] VVal VOps VOpsD VWp VCalls VFun VFunV QSeq QBlk QLoop Vm.Done DoneV DoneI
theorem nd_le {n k:Nat} (hk:0<k) (h:n<10 ^ k):Lib.nDigits n≤k:=by
 rcases Nat.eq_zero_or_pos n with h0|h0
 ·subst h0;rw [Lib.nDigits_small (by decide)];exact hk
 ·have h1:=Num.pow_le_of_nDigits n (by omega)
  have h2:10 ^ (Lib.nDigits n-1)<10 ^ k:=Nat.lt_of_le_of_lt h1 h
  have h3:=(Nat.pow_lt_pow_iff_right (a:=10) (by decide)).1 h2
  omega
theorem nd_pow {n k e:Nat} (hk:0<k) (h:n<10 ^ k) (he:e≤100):Lib.nDigits (n ^ e)≤k*100:=by
 rcases Nat.eq_zero_or_pos e with h0|h0
 ·subst h0;rw [Nat.pow_zero,Lib.nDigits_small (by decide)];omega
 ·refine nd_le (by omega) ?_
  have h1:n ^ e<(10 ^ k) ^ e:=Nat.pow_lt_pow_left h (by omega)
  rw [← Nat.pow_mul] at h1
  exact Nat.lt_of_lt_of_le h1 (Nat.pow_le_pow_right (by decide) (Nat.mul_le_mul_left _ he))
theorem nd_mul {a b j k:Nat} (ha:Lib.nDigits a≤j) (hb:Lib.nDigits b≤k):Lib.nDigits (a*b)≤j+k:=by
 have h1:=Lib.lt_pow_nDigits a
 have h2:=Lib.lt_pow_nDigits b
 have hp:=Lib.nDigits_pos a
 refine nd_le (by omega) ?_
 rw [Nat.pow_add]
 have h3:a<10 ^ j:=Nat.lt_of_lt_of_le h1 (Nat.pow_le_pow_right (by decide) ha)
 have h4:b<10 ^ k:=Nat.lt_of_lt_of_le h2 (Nat.pow_le_pow_right (by decide) hb)
 exact Nat.mul_lt_mul_of_lt_of_le h3 (Nat.le_of_lt h4) (Nat.pow_pos (by decide))
set_option maxRecDepth 100000 in
theorem spower_spec (n e:Nat) (hn:n<1000000000) (he:e≤100):VFun env 38 [.int .i64 (n:Int),.int .i64 (e:Int)] (st (Lib.decDigits (n ^ e))):=by
 refine VFun.enter (env_none (by decide)) Tryd.func38 rfl (by kernel_rfl) (by simp [Tryd.ntmps38]) ?_
 have ho:=of_spec (n:Int) (by omega)
 rw [itoa_nat] at ho
 have hd:Lib.nDigits n≤9:=nd_le (by decide) hn
 have hp:=power_spec n e (by omega) (by have:=Nat.mul_le_mul he hd;omega) (by omega)
 repeat' (first
  |apply VWp.assoc
  |apply VWp.rseq
  |apply VWp.rseqD
  |apply VWp.region
  |apply VWp.regionD
  |apply VWp.skipSeq
  |apply VWp.retSeq
  |apply VWp.exitSeq
  |apply VWp.blockSeq
  |apply QSeq.normal
  |apply QSeq.ret
  |apply QSeq.exit
  |(apply DoneI.ret;rfl)
  |(apply DoneI.normal;rfl)
  |apply QBlk.normal
  |apply QBlk.ret
  |apply QBlk.exit
  |(apply QBlk.out;decide)
  |apply QLoop.ret
  |apply QLoop.exit
  |apply VWp.ret
  |apply VWp.skip
  |apply VWp.exit
  |apply VWp.blockQ
  |apply VOps.nil
  |apply VOpsD.nil
  |apply VOps.one
  |(apply VOpsD.bar;decide +kernel)
  |apply VOpsD.quiet
  |(apply VOps.take;rfl;rfl)
  |(apply VOpsD.quietTake;rfl;rfl)
  |(apply VOps.drop;rfl;rfl;rfl)
  |(apply VOpsD.drop;rfl;rfl;rfl)
  |(apply VOps.guard;rfl;rfl)
  |(apply VOpsD.guard;rfl;rfl)
  |(apply VOps.dropU;rfl;rfl)
  |(apply VOpsD.dropU;rfl;rfl)
  |(apply VOps.guardB;rfl;rfl)
  |(apply VOpsD.guardB;rfl;rfl)
  |(apply VVal.fn;rfl;rfl;exact ho;intro _;rfl)
  |(apply VVal.fn;rfl;rfl;exact hp;intro _;rfl)
  |(apply VVal.assign;rfl)
  |(apply VVal.move;rfl)
  |(apply VVal.add64;rfl;rfl;omega)
  |(apply VVal.sub64;rfl;rfl;omega)
  |(apply VVal.mul64;rfl;rfl;omega)
  |(apply VVal.subBN (c:=48);rfl;rfl;omega)
  |(apply VVal.subB;rfl;rfl;omega)
  |(apply VVal.addB;rfl;rfl;omega)
  |(apply VVal.addUN;rfl;rfl;omega)
  |(apply VVal.mulUN;rfl;rfl;omega)
  |(apply VVal.subUN;rfl;rfl;omega)
  |(apply VVal.quoUN;rfl;rfl;omega)
  |(apply VVal.remUN;rfl;rfl;omega)
  |(apply VVal.quoUT;rfl;rfl;omega)
  |(apply VVal.remUT;rfl;rfl;omega)
  |(apply VVal.mulUN (a:=10);rfl;rfl;omega)
  |(apply VVal.and1;rfl;rfl;omega)
  |(apply VVal.and1U;rfl;rfl;omega)
  |(apply VVal.and1B;rfl;rfl;omega)
  |(apply VVal.andI;rfl;rfl;omega)
  |(apply VVal.andU;rfl;rfl;omega;omega)
  |(apply VVal.orU;rfl;rfl;omega;omega)
  |(apply VVal.andNotU;rfl;rfl;omega;omega)
  |(apply VVal.remI;rfl;rfl;omega;omega)
  |(apply VVal.quoI;rfl;rfl;omega;omega)
  |(apply VVal.int;rfl;rfl;rfl)
  |(apply VVal.indexN;rfl;rfl;rfl;omega;rfl)
  |(apply VVal.indexP;rfl;rfl;rfl;omega;omega;rfl)
  |(apply VVal.indexE;rfl;rfl;rfl;omega;omega;rfl)
  |(apply VVal.loadVL;rfl;rfl;omega;rfl)
  |(apply VVal.load;rfl;rfl)
  |(apply VVal.pick_true;rfl;rfl)
  |(apply VVal.pick_false;rfl;rfl)
  |(apply VVal.lenF;rfl;rfl)
  |(apply VVal.lenNil;rfl;rfl)
  |(apply VVal.lenV;rfl;rfl;rfl)
  |(apply VVal.fieldB;rfl;rfl;rfl)
  |(apply VVal.fieldF;rfl;rfl)
  |(apply VVal.box;rfl;trivial)
  |(apply VVal.alloc;rfl)
  |(apply VVal.storeB;rfl;rfl;rfl;trivial;rfl;rfl;exact lt_dec rfl;exact le_dec rfl)
  |(apply VVal.build;rfl;rfl;rfl;rfl;rfl)
  |(apply VVal.buildSlice;rfl;rfl;rfl;decide;rfl;rfl;rfl)
  |(apply VVal.lenSt;rfl;rfl)
  |(apply VVal.eqS;rfl;rfl)
  |(apply VVal.neS;rfl;rfl)
  |(apply VVal.indexStN;rfl;rfl;rfl;omega)
  |(apply VVal.indexSt;rfl;rfl;rfl;omega;omega)
  |(apply VVal.sliceSI;rfl;rfl;rfl;rfl;omega)
  |(apply VVal.sliceSto;rfl;rfl;rfl;omega)
  |(apply VVal.sliceSfrom;rfl;rfl;rfl;omega)
  |(apply VVal.convS;rfl;rfl;rfl)
  |(apply VVal.toBytes;rfl;rfl;rfl;rfl;rfl;rfl;omega)
  |(apply VVal.addS;rfl;rfl;(first|omega|(simp only [List.length_take,List.length_drop,List.length_append,List.length_singleton,List.length_cons,List.length_nil]<;>omega)))
  |(apply VVal.indexVN;rfl;rfl;rfl;rfl;omega)
  |(apply VVal.indexVE;rfl;rfl;rfl;rfl;omega;omega)
  |(apply VVal.neg;rfl;omega)
  |(apply VVal.neB;rfl;rfl;rfl)
  |(apply VVal.eqB;rfl;rfl;rfl)
  |(apply VVal.maxI;rfl;rfl)
  |(apply VVal.minI;rfl;rfl)
  |(apply VVal.not;rfl)
  |(apply VVal.extract;rfl;rfl)
  |(apply VVal.convI;rfl;rfl;rfl;rfl;omega)
  |(apply VVal.convU;rfl;rfl;rfl;rfl;omega)
  |(apply VVal.convB;rfl;rfl;rfl;rfl;omega)
  |(apply VVal.convInt;rfl;rfl;rfl;rfl)
  |(apply VVal.append1;rfl;rfl;rfl;rfl;rfl;rfl;rfl;rfl;(intro _ h;cases h);rfl;rfl;rfl;decide;decide;(first|omega|(simp only [List.length_take,List.length_drop,List.length_append,List.length_singleton,List.length_cons,List.length_nil]<;>omega)))
  |(apply VVal.appendL0;rfl;rfl;rfl;(first|rfl|omega|(simp only [List.length_take,List.length_drop,List.length_append,List.length_singleton,List.length_cons,List.length_nil]<;>omega));rfl;rfl;(intro _ h;cases h);rfl;rfl;rfl;decide;decide;(first|omega|(simp only [List.length_take,List.length_drop,List.length_append,List.length_singleton,List.length_cons,List.length_nil]<;>omega)))
  |(apply VVal.appendL;rfl;rfl;rfl;(first|rfl|omega|(simp only [List.length_take,List.length_drop,List.length_append,List.length_singleton,List.length_cons,List.length_nil]));(first|rfl|omega|(simp only [List.length_take,List.length_drop,List.length_append,List.length_singleton,List.length_cons,List.length_nil]<;>omega));rfl;rfl;(intro _ h;cases h);rfl;rfl;rfl;decide;decide;(first|omega|(simp only [List.length_take,List.length_drop,List.length_append,List.length_singleton,List.length_cons,List.length_nil]<;>omega)))
  |(apply VVal.shlOne;rfl;rfl;omega)
  |(apply VVal.shlOneU;rfl;rfl;omega)
  |(apply VVal.shrN;rfl;rfl;(simp only [IntKind.bits];omega))
  |(apply VVal.sliceTo;rfl;rfl;rfl;rfl;rfl;rfl;omega)
  |(apply VVal.sliceFrom;rfl;rfl;rfl;rfl;rfl;rfl;omega)
  |(apply VVal.sliceToI;rfl;rfl;rfl;rfl;rfl;rfl;omega)
  |(apply VVal.shr;rfl;rfl;omega)
  |(apply VVal.shl;rfl;rfl;omega)
  |(apply VWp.condSeq_true;rfl)
  |(apply VWp.condSeq_false;rfl)
  |(apply VWp.condSeq_dec;rfl)
  |(apply VWp.condSeq;rfl)
  |(apply VWp.cond_true;rfl)
  |(apply VWp.cond_false;rfl)
  |(apply VWp.cond_dec;rfl)
  |(apply VWp.cond;rfl)
  |(intro _;try (exfalso;omega)))
 all_goals (refine Done.ret rfl (.refl _) (by first|exact trivial|exact ⟨trivial,trivial,trivial⟩|exact ⟨trivial,trivial,trivial,trivial⟩) HCov.nil (Nat.zero_le _) (Nat.le_refl _) ⟨?_,rfl,rfl⟩;try rfl)
theorem spow2 {b:Nat} {h:Nat} (hb:b≤10000000) (hh:h≤24):VFun env 38 [.int .i64 (2*(b:Int)),.int .i64 (h:Int)] (st (Lib.decDigits ((2*b) ^ h))):=by
 have:=spower_spec (2*b) h (by omega) (by omega)
 rwa [show ((2*b:Nat):Int)=2*(b:Int) by omega] at this
theorem spow3 {b:Nat} {h:Nat} (hb:b≤10000000) (hh:h≤24):VFun env 38 [.int .i64 (2*(b:Int)+1),.int .i64 (h:Int)] (st (Lib.decDigits ((2*b+1) ^ h))):=by
 have:=spower_spec (2*b+1) h (by omega) (by omega)
 rwa [show ((2*b+1:Nat):Int)=2*(b:Int)+1 by omega] at this
theorem spowz {s:Int} (h0:0≤s) (h1:s≤100):VFun env 38 [.int .i64 2,.int .i64 s] (st (Lib.decDigits (2 ^ s.toNat))):=by
 have:=spower_spec 2 s.toNat (by omega) (by omega)
 rwa [Int.toNat_of_nonneg h0] at this
theorem inl_Search {L:Vm.Frame} {H:Vm.Heap} {nx:Nat} {Q:PV→Vm.Heap→Nat→Prop} {dst:Option Tmp} {ty:TypeId} {pos:String} {af:Array Edge} {gd:Option (Nat×Bool)} {fo:Operand} {args:Array Operand} {aT:Array TypeId} {fs cs xs:List PV} {c:Code}
 (hf:vev env.Γ L fo=some (.clo 35 fs cs)) (ha:evs env.Γ L args.toList=some xs) (hb:Tryd.f35.body=some c) (hn:(fs++xs++cs).length≤Tryd.f35.ntmps)
 (h:VWp env nx c (argFrame 0 (fs++xs++cs)) H nx (DoneI env.P Tryd.f35.results.toList Q)):VVal env true ⟨dst,.call { callee:=.value fo,args:=args,argTypes:=aT },ty,pos,af,gd⟩ L H nx Q:=by
 have h0:(match Tryd.f35.body with|some c=>fnOk env.G Tryd.f35 c|none=>false)=true:=by kernel_rfl
 rw [hb] at h0
 exact VVal.inline rfl hf ha (env_none (by decide)) Tryd.func35 hb h0 hn h
theorem inl_R1 {L:Vm.Frame} {H:Vm.Heap} {nx:Nat} {Q:PV→Vm.Heap→Nat→Prop} {dst:Option Tmp} {ty:TypeId} {pos:String} {af:Array Edge} {gd:Option (Nat×Bool)} {fo:Operand} {args:Array Operand} {aT:Array TypeId} {fs cs xs:List PV} {c:Code}
 (hf:vev env.Γ L fo=some (.clo 40 fs cs)) (ha:evs env.Γ L args.toList=some xs) (hb:Tryd.f40.body=some c) (hn:(fs++xs++cs).length≤Tryd.f40.ntmps)
 (h:VWp env nx c (argFrame 0 (fs++xs++cs)) H nx (DoneI env.P Tryd.f40.results.toList Q)):VVal env true ⟨dst,.call { callee:=.value fo,args:=args,argTypes:=aT },ty,pos,af,gd⟩ L H nx Q:=by
 have h0:(match Tryd.f40.body with|some c=>fnOk env.G Tryd.f40 c|none=>false)=true:=by kernel_rfl
 rw [hb] at h0
 exact VVal.inline rfl hf ha (env_none (by decide)) Tryd.func40 hb h0 hn h
theorem cmpI_gt (A B h r:Nat):(0<cmpI (A*(2*r+1) ^ h) B)↔gt A B h r:=by
 unfold cmpI gt
 split
 ·omega
 ·split<;>omega
set_option maxRecDepth 100000 in
set_option maxHeartbeats 1000000 in
theorem rounded_spec (num den h:Nat) (s:Int) (hn:num≤10000000) (hd:den≤1000) (hh:h≤24) (hs:-72≤s∧s≤72) :
 VFun env 30 [.int .i64 (num:Int),.int .i64 (den:Int),.int .i64 s,.int .i64 (h:Int)] (.p (.int .i64 ((me num den h s:Nat):Int))):=by
 refine VFun.enter (env_none (by decide)) Tryd.func30 rfl (by kernel_rfl) (by simp [Tryd.ntmps30]) ?_
 have p1:=spow2 (h:=h) hn hh
 have p2:=spower_spec den h (by omega) (by omega)
 have nA:Lib.nDigits (den ^ h)≤400:=nd_pow (k:=4) (by decide) (by omega) (by omega)
 have nB:Lib.nDigits ((2*num) ^ h)≤900:=nd_pow (k:=9) (by decide) (by omega) (by omega)
 have nT:∀ k:Nat,k≤72→Lib.nDigits (2 ^ k)≤100:=fun k hk=>nd_pow (n:=2) (k:=1) (e:=k) (by decide) (by decide) (by omega)
 have nR:∀ r:Nat,r≤10000000→Lib.nDigits ((2*r+1) ^ h)≤900:=fun r hr=>nd_pow (k:=9) (by decide) (by omega) (by omega)
 have hA:Lib.nDigits (sl den h s)≤500:=nd_mul nA (nT _ (by omega))
 have hB:Lib.nDigits (sr num h s)≤1000:=nd_mul nB (nT _ (by omega))
 have hmle:me num den h s≤10000001:=rnd_le _ _ _
 have hcl:∀ r:Nat,r<10000001→(0<cmpI (sl den h s*(2*r+1) ^ h) (sr num h s)↔me num den h s≤r):=fun r hr=>(cmpI_gt _ _ _ _).trans (rnd_iff hr)
 have m3:∀ r:Nat,r≤10000000→VFun env 39 [.str (bs (Lib.decDigits (sl den h s))),.str (bs (Lib.decDigits ((2*r+1) ^ h)))] (st (Lib.decDigits (sl den h s*(2*r+1) ^ h))):=fun r hr=>mul_spec _ _ (by omega) (by have:=nR r hr;omega)
 have c3:∀ r:Nat,r≤10000000→VFun env 33 [.str (bs (Lib.decDigits (sl den h s*(2*r+1) ^ h))),.str (bs (Lib.decDigits (sr num h s)))] (.p (.int .i64 (cmpI (sl den h s*(2*r+1) ^ h) (sr num h s)))):=fun r hr=>compare_spec _ _ (by have:=nd_mul hA (nR r hr);omega) (by omega)
 by_cases hs0:s<0
 ·have e1:sl den h s=den ^ h:=by unfold sl;rw [show s.toNat=0 by omega,Nat.pow_zero,Nat.mul_one]
  have p3:=spowz (s:=-s) (by omega) (by omega)
  have m1:VFun env 39 [.str (bs (Lib.decDigits ((2*num) ^ h))),.str (bs (Lib.decDigits (2 ^ (-s).toNat)))] (st (Lib.decDigits (sr num h s))):=mul_spec _ _ (by omega) (by have:=nT (-s).toNat (by omega);omega)
  rw [← e1] at p2
  generalize sl den h s=A at *
  generalize sr num h s=B at *
  repeat' (first
   |apply VWp.assoc
   |apply VWp.rseq
   |apply VWp.rseqD
   |apply VWp.region
   |apply VWp.regionD
   |apply VWp.skipSeq
   |apply VWp.retSeq
   |apply VWp.exitSeq
   |apply VWp.blockSeq
   |apply QSeq.normal
   |apply QSeq.ret
   |apply QSeq.exit
   |(apply DoneI.ret;rfl)
   |(apply DoneI.normal;rfl)
   |apply QBlk.normal
   |apply QBlk.ret
   |apply QBlk.exit
   |(apply QBlk.out;decide)
   |apply QLoop.ret
   |apply QLoop.exit
   |apply VWp.ret
   |apply VWp.skip
   |apply VWp.exit
   |apply VWp.blockQ
   |apply VOps.nil
   |apply VOpsD.nil
   |apply VOps.one
   |(apply VOpsD.bar;decide +kernel)
   |apply VOpsD.quiet
   |(apply VOps.take;rfl;rfl)
   |(apply VOpsD.quietTake;rfl;rfl)
   |(apply VOps.drop;rfl;rfl;rfl)
   |(apply VOpsD.drop;rfl;rfl;rfl)
   |(apply VOps.guard;rfl;rfl)
   |(apply VOpsD.guard;rfl;rfl)
   |(apply VOps.dropU;rfl;rfl)
   |(apply VOpsD.dropU;rfl;rfl)
   |(apply VOps.guardB;rfl;rfl)
   |(apply VOpsD.guardB;rfl;rfl)
   |(apply VVal.fn;rfl;rfl;exact p1;intro _;rfl)
   |(apply VVal.fn;rfl;rfl;exact p2;intro _;rfl)
   |(apply VVal.fn;rfl;rfl;exact p3;intro _;rfl)
   |(apply VVal.fn;rfl;rfl;exact m1;intro _;rfl)
   |(apply VVal.makeFunc;rfl;rfl)
   |(apply inl_Search;rfl;rfl;rfl;exact le_dec rfl)
   |(apply VVal.assign;rfl)
   |(apply VVal.move;rfl)
   |(apply VVal.add64;rfl;rfl;omega)
   |(apply VVal.sub64;rfl;rfl;omega)
   |(apply VVal.mul64;rfl;rfl;omega)
   |(apply VVal.subBN (c:=48);rfl;rfl;omega)
   |(apply VVal.subB;rfl;rfl;omega)
   |(apply VVal.addB;rfl;rfl;omega)
   |(apply VVal.addUN;rfl;rfl;omega)
   |(apply VVal.mulUN;rfl;rfl;omega)
   |(apply VVal.subUN;rfl;rfl;omega)
   |(apply VVal.quoUN;rfl;rfl;omega)
   |(apply VVal.remUN;rfl;rfl;omega)
   |(apply VVal.quoUT;rfl;rfl;omega)
   |(apply VVal.remUT;rfl;rfl;omega)
   |(apply VVal.mulUN (a:=10);rfl;rfl;omega)
   |(apply VVal.and1;rfl;rfl;omega)
   |(apply VVal.and1U;rfl;rfl;omega)
   |(apply VVal.and1B;rfl;rfl;omega)
   |(apply VVal.andI;rfl;rfl;omega)
   |(apply VVal.andU;rfl;rfl;omega;omega)
   |(apply VVal.orU;rfl;rfl;omega;omega)
   |(apply VVal.andNotU;rfl;rfl;omega;omega)
   |(apply VVal.remI;rfl;rfl;omega;omega)
   |(apply VVal.quoI;rfl;rfl;omega;omega)
   |(apply VVal.int;rfl;rfl;rfl)
   |(apply VVal.indexN;rfl;rfl;rfl;omega;rfl)
   |(apply VVal.indexP;rfl;rfl;rfl;omega;omega;rfl)
   |(apply VVal.indexE;rfl;rfl;rfl;omega;omega;rfl)
   |(apply VVal.loadVL;rfl;rfl;omega;rfl)
   |(apply VVal.load;rfl;rfl)
   |(apply VVal.pick_true;rfl;rfl)
   |(apply VVal.pick_false;rfl;rfl)
   |(apply VVal.lenF;rfl;rfl)
   |(apply VVal.lenNil;rfl;rfl)
   |(apply VVal.lenV;rfl;rfl;rfl)
   |(apply VVal.fieldB;rfl;rfl;rfl)
   |(apply VVal.fieldF;rfl;rfl)
   |(apply VVal.box;rfl;trivial)
   |(apply VVal.alloc;rfl)
   |(apply VVal.storeB;rfl;rfl;rfl;trivial;rfl;rfl;exact lt_dec rfl;exact le_dec rfl)
   |(apply VVal.build;rfl;rfl;rfl;rfl;rfl)
   |(apply VVal.buildSlice;rfl;rfl;rfl;decide;rfl;rfl;rfl)
   |(apply VVal.lenSt;rfl;rfl)
   |(apply VVal.eqS;rfl;rfl)
   |(apply VVal.neS;rfl;rfl)
   |(apply VVal.indexStN;rfl;rfl;rfl;omega)
   |(apply VVal.indexSt;rfl;rfl;rfl;omega;omega)
   |(apply VVal.sliceSI;rfl;rfl;rfl;rfl;omega)
   |(apply VVal.sliceSto;rfl;rfl;rfl;omega)
   |(apply VVal.sliceSfrom;rfl;rfl;rfl;omega)
   |(apply VVal.convS;rfl;rfl;rfl)
   |(apply VVal.toBytes;rfl;rfl;rfl;rfl;rfl;rfl;omega)
   |(apply VVal.addS;rfl;rfl;(first|omega|(simp only [List.length_take,List.length_drop,List.length_append,List.length_singleton,List.length_cons,List.length_nil]<;>omega)))
   |(apply VVal.indexVN;rfl;rfl;rfl;rfl;omega)
   |(apply VVal.indexVE;rfl;rfl;rfl;rfl;omega;omega)
   |(apply VVal.neg;rfl;omega)
   |(apply VVal.neB;rfl;rfl;rfl)
   |(apply VVal.eqB;rfl;rfl;rfl)
   |(apply VVal.maxI;rfl;rfl)
   |(apply VVal.minI;rfl;rfl)
   |(apply VVal.not;rfl)
   |(apply VVal.extract;rfl;rfl)
   |(apply VVal.convI;rfl;rfl;rfl;rfl;omega)
   |(apply VVal.convU;rfl;rfl;rfl;rfl;omega)
   |(apply VVal.convB;rfl;rfl;rfl;rfl;omega)
   |(apply VVal.convInt;rfl;rfl;rfl;rfl)
   |(apply VVal.append1;rfl;rfl;rfl;rfl;rfl;rfl;rfl;rfl;(intro _ h;cases h);rfl;rfl;rfl;decide;decide;(first|omega|(simp only [List.length_take,List.length_drop,List.length_append,List.length_singleton,List.length_cons,List.length_nil]<;>omega)))
   |(apply VVal.appendL0;rfl;rfl;rfl;(first|rfl|omega|(simp only [List.length_take,List.length_drop,List.length_append,List.length_singleton,List.length_cons,List.length_nil]<;>omega));rfl;rfl;(intro _ h;cases h);rfl;rfl;rfl;decide;decide;(first|omega|(simp only [List.length_take,List.length_drop,List.length_append,List.length_singleton,List.length_cons,List.length_nil]<;>omega)))
   |(apply VVal.appendL;rfl;rfl;rfl;(first|rfl|omega|(simp only [List.length_take,List.length_drop,List.length_append,List.length_singleton,List.length_cons,List.length_nil]));(first|rfl|omega|(simp only [List.length_take,List.length_drop,List.length_append,List.length_singleton,List.length_cons,List.length_nil]<;>omega));rfl;rfl;(intro _ h;cases h);rfl;rfl;rfl;decide;decide;(first|omega|(simp only [List.length_take,List.length_drop,List.length_append,List.length_singleton,List.length_cons,List.length_nil]<;>omega)))
   |(apply VVal.shlOne;rfl;rfl;omega)
   |(apply VVal.shlOneU;rfl;rfl;omega)
   |(apply VVal.shrN;rfl;rfl;(simp only [IntKind.bits];omega))
   |(apply VVal.sliceTo;rfl;rfl;rfl;rfl;rfl;rfl;omega)
   |(apply VVal.sliceFrom;rfl;rfl;rfl;rfl;rfl;rfl;omega)
   |(apply VVal.sliceToI;rfl;rfl;rfl;rfl;rfl;rfl;omega)
   |(apply VVal.shr;rfl;rfl;omega)
   |(apply VVal.shl;rfl;rfl;omega)
   |(apply VWp.condSeq_true;rfl)
   |(apply VWp.condSeq_false;rfl)
   |(apply VWp.condSeq_dec;rfl)
   |(apply VWp.condSeq;rfl)
   |(apply VWp.cond_true;rfl)
   |(apply VWp.cond_false;rfl)
   |(apply VWp.cond_dec;rfl)
   |(apply VWp.cond;rfl)
   |(intro _;try (exfalso;omega)))
  refine VWp.loopQ (fun ij:Nat×Nat=>[(0,.p (.int .i64 10000001)),(1,.clo 40 [] [.ref 2 0,.ref 0 0,.ref 1 0]),(5,.p (.int .i64 (ij.1:Int))),(6,.p (.int .i64 (ij.2:Int)))]) (fun _=>[(2,.box 68 [st (Lib.decDigits A)]),(1,.box 68 [st (Lib.decDigits B)]),(0,.box 3 [.p (.int .i64 (h:Int))])]) 3 (fun ij=>ij.1≤me num den h s∧me num den h s≤ij.2∧ij.2≤10000001) (fun ij=>ij.2-ij.1) (0,10000001) (by omega) ⟨by omega,by omega,by omega⟩ ⟨by omega,?_,?_⟩ ?_
  ·repeat (first|exact LCov.nil|refine LCov.same trivial rfl ?_|refine LCov.same (lt_dec rfl) rfl ?_|refine LCov.same ⟨trivial,lt_dec rfl,lt_dec rfl,lt_dec rfl,trivial⟩ rfl ?_|refine LCov.same ⟨trivial,lt_dec rfl,lt_dec rfl,trivial⟩ rfl ?_|refine LCov.same ⟨trivial,trivial⟩ rfl ?_|refine LCov.cons trivial rfl (.of_eq (lst_len (by simp<;>omega))) ?_)
  ·repeat (first|exact HCov.nil|(refine HCov.cons (lt_dec rfl) ?_ rfl ?_ ?_;(first|exact trivial|exact PVs.under_pure _ _|(simp [HB.under,PVs.under,PV.under]));(first|exact HLe.refl _|exact HLe.vec (FLes.refl _) (by simp))))
  rintro ⟨i,j⟩ ⟨h1,h2,h3⟩
  simp only at h1 h2 h3
  repeat' (first
   |apply VWp.assoc
   |apply VWp.rseq
   |apply VWp.rseqD
   |apply VWp.region
   |apply VWp.regionD
   |apply VWp.skipSeq
   |apply VWp.retSeq
   |apply VWp.exitSeq
   |apply VWp.blockSeq
   |apply QSeq.normal
   |apply QSeq.ret
   |apply QSeq.exit
   |(apply DoneI.ret;rfl)
   |(apply DoneI.normal;rfl)
   |apply QBlk.normal
   |apply QBlk.ret
   |apply QBlk.exit
   |(apply QBlk.out;decide)
   |apply QLoop.ret
   |apply QLoop.exit
   |apply VWp.ret
   |apply VWp.skip
   |apply VWp.exit
   |apply VWp.blockQ
   |apply VOps.nil
   |apply VOpsD.nil
   |apply VOps.one
   |(apply VOpsD.bar;decide +kernel)
   |apply VOpsD.quiet
   |(apply VOps.take;rfl;rfl)
   |(apply VOpsD.quietTake;rfl;rfl)
   |(apply VOps.drop;rfl;rfl;rfl)
   |(apply VOpsD.drop;rfl;rfl;rfl)
   |(apply VOps.guard;rfl;rfl)
   |(apply VOpsD.guard;rfl;rfl)
   |(apply VOps.dropU;rfl;rfl)
   |(apply VOpsD.dropU;rfl;rfl)
   |(apply VOps.guardB;rfl;rfl)
   |(apply VOpsD.guardB;rfl;rfl)
   |(apply VVal.shrN (m:=i+j) (n:=1);rfl;rfl;exact le_dec rfl)
   |(apply VVal.notD;rfl)
   |(apply inl_R1;rfl;rfl;rfl;exact le_dec rfl)
   |(apply VVal.fn;rfl;rfl;exact spow3 (b:=(i+j) / 2 ^ 1) (h:=h) (by omega) hh;intro _;rfl)
   |(apply VVal.fn;rfl;rfl;exact m3 ((i+j) / 2 ^ 1) (by omega);intro _;rfl)
   |(apply VVal.fn;rfl;rfl;exact c3 ((i+j) / 2 ^ 1) (by omega);intro _;rfl)
   |(apply VVal.assign;rfl)
   |(apply VVal.move;rfl)
   |(apply VVal.add64;rfl;rfl;omega)
   |(apply VVal.sub64;rfl;rfl;omega)
   |(apply VVal.mul64;rfl;rfl;omega)
   |(apply VVal.subBN (c:=48);rfl;rfl;omega)
   |(apply VVal.subB;rfl;rfl;omega)
   |(apply VVal.addB;rfl;rfl;omega)
   |(apply VVal.addUN;rfl;rfl;omega)
   |(apply VVal.mulUN;rfl;rfl;omega)
   |(apply VVal.subUN;rfl;rfl;omega)
   |(apply VVal.quoUN;rfl;rfl;omega)
   |(apply VVal.remUN;rfl;rfl;omega)
   |(apply VVal.quoUT;rfl;rfl;omega)
   |(apply VVal.remUT;rfl;rfl;omega)
   |(apply VVal.mulUN (a:=10);rfl;rfl;omega)
   |(apply VVal.and1;rfl;rfl;omega)
   |(apply VVal.and1U;rfl;rfl;omega)
   |(apply VVal.and1B;rfl;rfl;omega)
   |(apply VVal.andI;rfl;rfl;omega)
   |(apply VVal.andU;rfl;rfl;omega;omega)
   |(apply VVal.orU;rfl;rfl;omega;omega)
   |(apply VVal.andNotU;rfl;rfl;omega;omega)
   |(apply VVal.remI;rfl;rfl;omega;omega)
   |(apply VVal.quoI;rfl;rfl;omega;omega)
   |(apply VVal.int;rfl;rfl;rfl)
   |(apply VVal.indexN;rfl;rfl;rfl;omega;rfl)
   |(apply VVal.indexP;rfl;rfl;rfl;omega;omega;rfl)
   |(apply VVal.indexE;rfl;rfl;rfl;omega;omega;rfl)
   |(apply VVal.loadVL;rfl;rfl;omega;rfl)
   |(apply VVal.load;rfl;rfl)
   |(apply VVal.pick_true;rfl;rfl)
   |(apply VVal.pick_false;rfl;rfl)
   |(apply VVal.lenF;rfl;rfl)
   |(apply VVal.lenNil;rfl;rfl)
   |(apply VVal.lenV;rfl;rfl;rfl)
   |(apply VVal.fieldB;rfl;rfl;rfl)
   |(apply VVal.fieldF;rfl;rfl)
   |(apply VVal.box;rfl;trivial)
   |(apply VVal.alloc;rfl)
   |(apply VVal.storeB;rfl;rfl;rfl;trivial;rfl;rfl;exact lt_dec rfl;exact le_dec rfl)
   |(apply VVal.build;rfl;rfl;rfl;rfl;rfl)
   |(apply VVal.buildSlice;rfl;rfl;rfl;decide;rfl;rfl;rfl)
   |(apply VVal.lenSt;rfl;rfl)
   |(apply VVal.eqS;rfl;rfl)
   |(apply VVal.neS;rfl;rfl)
   |(apply VVal.indexStN;rfl;rfl;rfl;omega)
   |(apply VVal.indexSt;rfl;rfl;rfl;omega;omega)
   |(apply VVal.sliceSI;rfl;rfl;rfl;rfl;omega)
   |(apply VVal.sliceSto;rfl;rfl;rfl;omega)
   |(apply VVal.sliceSfrom;rfl;rfl;rfl;omega)
   |(apply VVal.convS;rfl;rfl;rfl)
   |(apply VVal.toBytes;rfl;rfl;rfl;rfl;rfl;rfl;omega)
   |(apply VVal.addS;rfl;rfl;(first|omega|(simp only [List.length_take,List.length_drop,List.length_append,List.length_singleton,List.length_cons,List.length_nil]<;>omega)))
   |(apply VVal.indexVN;rfl;rfl;rfl;rfl;omega)
   |(apply VVal.indexVE;rfl;rfl;rfl;rfl;omega;omega)
   |(apply VVal.neg;rfl;omega)
   |(apply VVal.neB;rfl;rfl;rfl)
   |(apply VVal.eqB;rfl;rfl;rfl)
   |(apply VVal.maxI;rfl;rfl)
   |(apply VVal.minI;rfl;rfl)
   |(apply VVal.not;rfl)
   |(apply VVal.extract;rfl;rfl)
   |(apply VVal.convI;rfl;rfl;rfl;rfl;omega)
   |(apply VVal.convU;rfl;rfl;rfl;rfl;omega)
   |(apply VVal.convB;rfl;rfl;rfl;rfl;omega)
   |(apply VVal.convInt;rfl;rfl;rfl;rfl)
   |(apply VVal.append1;rfl;rfl;rfl;rfl;rfl;rfl;rfl;rfl;(intro _ h;cases h);rfl;rfl;rfl;decide;decide;(first|omega|(simp only [List.length_take,List.length_drop,List.length_append,List.length_singleton,List.length_cons,List.length_nil]<;>omega)))
   |(apply VVal.appendL0;rfl;rfl;rfl;(first|rfl|omega|(simp only [List.length_take,List.length_drop,List.length_append,List.length_singleton,List.length_cons,List.length_nil]<;>omega));rfl;rfl;(intro _ h;cases h);rfl;rfl;rfl;decide;decide;(first|omega|(simp only [List.length_take,List.length_drop,List.length_append,List.length_singleton,List.length_cons,List.length_nil]<;>omega)))
   |(apply VVal.appendL;rfl;rfl;rfl;(first|rfl|omega|(simp only [List.length_take,List.length_drop,List.length_append,List.length_singleton,List.length_cons,List.length_nil]));(first|rfl|omega|(simp only [List.length_take,List.length_drop,List.length_append,List.length_singleton,List.length_cons,List.length_nil]<;>omega));rfl;rfl;(intro _ h;cases h);rfl;rfl;rfl;decide;decide;(first|omega|(simp only [List.length_take,List.length_drop,List.length_append,List.length_singleton,List.length_cons,List.length_nil]<;>omega)))
   |(apply VVal.shlOne;rfl;rfl;omega)
   |(apply VVal.shlOneU;rfl;rfl;omega)
   |(apply VVal.shrN;rfl;rfl;(simp only [IntKind.bits];omega))
   |(apply VVal.sliceTo;rfl;rfl;rfl;rfl;rfl;rfl;omega)
   |(apply VVal.sliceFrom;rfl;rfl;rfl;rfl;rfl;rfl;omega)
   |(apply VVal.sliceToI;rfl;rfl;rfl;rfl;rfl;rfl;omega)
   |(apply VVal.shr;rfl;rfl;omega)
   |(apply VVal.shl;rfl;rfl;omega)
   |(apply VWp.condSeq_true;rfl)
   |(apply VWp.condSeq_false;rfl)
   |(apply VWp.condSeq_dec;rfl)
   |(apply VWp.condSeq;rfl)
   |(apply VWp.cond_true;rfl)
   |(apply VWp.cond_false;rfl)
   |(apply VWp.cond_dec;rfl)
   |(apply VWp.cond;rfl)
   |(intro _;try (exfalso;omega)))
  ·rename_i ha hb
   have hc:=hcl ((i+j) / 2 ^ 1) (by omega)
   have hc':¬ me num den h s≤(i+j) / 2 ^ 1:=fun q=>hb (hc.2 q)
   refine QLoop.normal ⟨((i+j) / 2 ^ 1+1,j),⟨by simp only;omega,h2,h3⟩,by simp only;omega,⟨by omega,?_,?_⟩⟩
   ·repeat (first|exact LCov.nil|refine LCov.same trivial rfl ?_|refine LCov.same (lt_dec rfl) rfl ?_|refine LCov.same ⟨trivial,lt_dec rfl,lt_dec rfl,lt_dec rfl,trivial⟩ rfl ?_|refine LCov.same ⟨trivial,lt_dec rfl,lt_dec rfl,trivial⟩ rfl ?_|refine LCov.same ⟨trivial,trivial⟩ rfl ?_|refine LCov.cons trivial rfl (.of_eq (lst_len (by simp<;>omega))) ?_)
   ·repeat (first|exact HCov.nil|(refine HCov.cons (lt_dec rfl) ?_ rfl ?_ ?_;(first|exact trivial|exact PVs.under_pure _ _|(simp [HB.under,PVs.under,PV.under]));(first|exact HLe.refl _|exact HLe.vec (FLes.refl _) (by simp))))
  ·rename_i ha hb
   have hc:=hcl ((i+j) / 2 ^ 1) (by omega)
   have hc':me num den h s≤(i+j) / 2 ^ 1:=hc.1 (Classical.not_not.1 hb)
   refine QLoop.normal ⟨(i,(i+j) / 2 ^ 1),⟨h1,hc',by simp only;omega⟩,by simp only;omega,⟨by omega,?_,?_⟩⟩
   ·repeat (first|exact LCov.nil|refine LCov.same trivial rfl ?_|refine LCov.same (lt_dec rfl) rfl ?_|refine LCov.same ⟨trivial,lt_dec rfl,lt_dec rfl,lt_dec rfl,trivial⟩ rfl ?_|refine LCov.same ⟨trivial,lt_dec rfl,lt_dec rfl,trivial⟩ rfl ?_|refine LCov.same ⟨trivial,trivial⟩ rfl ?_|refine LCov.cons trivial rfl (.of_eq (lst_len (by simp<;>omega))) ?_)
   ·repeat (first|exact HCov.nil|(refine HCov.cons (lt_dec rfl) ?_ rfl ?_ ?_;(first|exact trivial|exact PVs.under_pure _ _|(simp [HB.under,PVs.under,PV.under]));(first|exact HLe.refl _|exact HLe.vec (FLes.refl _) (by simp))))
  ·refine Done.ret rfl (.refl _) (by first|exact trivial|exact ⟨trivial,trivial,trivial⟩|exact ⟨trivial,trivial,trivial,trivial⟩) HCov.nil (Nat.zero_le _) (Nat.le_refl _) ⟨?_,rfl,rfl⟩
   refine PV.int_eq ?_
   simp only
   omega
 ·have e1:sr num h s=(2*num) ^ h:=by unfold sr;rw [show (-s).toNat=0 by omega,Nat.pow_zero,Nat.mul_one]
  have p3:=spowz (s:=s) (by omega) (by omega)
  have m1:VFun env 39 [.str (bs (Lib.decDigits (den ^ h))),.str (bs (Lib.decDigits (2 ^ s.toNat)))] (st (Lib.decDigits (sl den h s))):=mul_spec _ _ (by omega) (by have:=nT s.toNat (by omega);omega)
  rw [← e1] at p1
  generalize sl den h s=A at *
  generalize sr num h s=B at *
  repeat' (first
   |apply VWp.assoc
   |apply VWp.rseq
   |apply VWp.rseqD
   |apply VWp.region
   |apply VWp.regionD
   |apply VWp.skipSeq
   |apply VWp.retSeq
   |apply VWp.exitSeq
   |apply VWp.blockSeq
   |apply QSeq.normal
   |apply QSeq.ret
   |apply QSeq.exit
   |(apply DoneI.ret;rfl)
   |(apply DoneI.normal;rfl)
   |apply QBlk.normal
   |apply QBlk.ret
   |apply QBlk.exit
   |(apply QBlk.out;decide)
   |apply QLoop.ret
   |apply QLoop.exit
   |apply VWp.ret
   |apply VWp.skip
   |apply VWp.exit
   |apply VWp.blockQ
   |apply VOps.nil
   |apply VOpsD.nil
   |apply VOps.one
   |(apply VOpsD.bar;decide +kernel)
   |apply VOpsD.quiet
   |(apply VOps.take;rfl;rfl)
   |(apply VOpsD.quietTake;rfl;rfl)
   |(apply VOps.drop;rfl;rfl;rfl)
   |(apply VOpsD.drop;rfl;rfl;rfl)
   |(apply VOps.guard;rfl;rfl)
   |(apply VOpsD.guard;rfl;rfl)
   |(apply VOps.dropU;rfl;rfl)
   |(apply VOpsD.dropU;rfl;rfl)
   |(apply VOps.guardB;rfl;rfl)
   |(apply VOpsD.guardB;rfl;rfl)
   |(apply VVal.fn;rfl;rfl;exact p1;intro _;rfl)
   |(apply VVal.fn;rfl;rfl;exact p2;intro _;rfl)
   |(apply VVal.fn;rfl;rfl;exact p3;intro _;rfl)
   |(apply VVal.fn;rfl;rfl;exact m1;intro _;rfl)
   |(apply VVal.makeFunc;rfl;rfl)
   |(apply inl_Search;rfl;rfl;rfl;exact le_dec rfl)
   |(apply VVal.assign;rfl)
   |(apply VVal.move;rfl)
   |(apply VVal.add64;rfl;rfl;omega)
   |(apply VVal.sub64;rfl;rfl;omega)
   |(apply VVal.mul64;rfl;rfl;omega)
   |(apply VVal.subBN (c:=48);rfl;rfl;omega)
   |(apply VVal.subB;rfl;rfl;omega)
   |(apply VVal.addB;rfl;rfl;omega)
   |(apply VVal.addUN;rfl;rfl;omega)
   |(apply VVal.mulUN;rfl;rfl;omega)
   |(apply VVal.subUN;rfl;rfl;omega)
   |(apply VVal.quoUN;rfl;rfl;omega)
   |(apply VVal.remUN;rfl;rfl;omega)
   |(apply VVal.quoUT;rfl;rfl;omega)
   |(apply VVal.remUT;rfl;rfl;omega)
   |(apply VVal.mulUN (a:=10);rfl;rfl;omega)
   |(apply VVal.and1;rfl;rfl;omega)
   |(apply VVal.and1U;rfl;rfl;omega)
   |(apply VVal.and1B;rfl;rfl;omega)
   |(apply VVal.andI;rfl;rfl;omega)
   |(apply VVal.andU;rfl;rfl;omega;omega)
   |(apply VVal.orU;rfl;rfl;omega;omega)
   |(apply VVal.andNotU;rfl;rfl;omega;omega)
   |(apply VVal.remI;rfl;rfl;omega;omega)
   |(apply VVal.quoI;rfl;rfl;omega;omega)
   |(apply VVal.int;rfl;rfl;rfl)
   |(apply VVal.indexN;rfl;rfl;rfl;omega;rfl)
   |(apply VVal.indexP;rfl;rfl;rfl;omega;omega;rfl)
   |(apply VVal.indexE;rfl;rfl;rfl;omega;omega;rfl)
   |(apply VVal.loadVL;rfl;rfl;omega;rfl)
   |(apply VVal.load;rfl;rfl)
   |(apply VVal.pick_true;rfl;rfl)
   |(apply VVal.pick_false;rfl;rfl)
   |(apply VVal.lenF;rfl;rfl)
   |(apply VVal.lenNil;rfl;rfl)
   |(apply VVal.lenV;rfl;rfl;rfl)
   |(apply VVal.fieldB;rfl;rfl;rfl)
   |(apply VVal.fieldF;rfl;rfl)
   |(apply VVal.box;rfl;trivial)
   |(apply VVal.alloc;rfl)
   |(apply VVal.storeB;rfl;rfl;rfl;trivial;rfl;rfl;exact lt_dec rfl;exact le_dec rfl)
   |(apply VVal.build;rfl;rfl;rfl;rfl;rfl)
   |(apply VVal.buildSlice;rfl;rfl;rfl;decide;rfl;rfl;rfl)
   |(apply VVal.lenSt;rfl;rfl)
   |(apply VVal.eqS;rfl;rfl)
   |(apply VVal.neS;rfl;rfl)
   |(apply VVal.indexStN;rfl;rfl;rfl;omega)
   |(apply VVal.indexSt;rfl;rfl;rfl;omega;omega)
   |(apply VVal.sliceSI;rfl;rfl;rfl;rfl;omega)
   |(apply VVal.sliceSto;rfl;rfl;rfl;omega)
   |(apply VVal.sliceSfrom;rfl;rfl;rfl;omega)
   |(apply VVal.convS;rfl;rfl;rfl)
   |(apply VVal.toBytes;rfl;rfl;rfl;rfl;rfl;rfl;omega)
   |(apply VVal.addS;rfl;rfl;(first|omega|(simp only [List.length_take,List.length_drop,List.length_append,List.length_singleton,List.length_cons,List.length_nil]<;>omega)))
   |(apply VVal.indexVN;rfl;rfl;rfl;rfl;omega)
   |(apply VVal.indexVE;rfl;rfl;rfl;rfl;omega;omega)
   |(apply VVal.neg;rfl;omega)
   |(apply VVal.neB;rfl;rfl;rfl)
   |(apply VVal.eqB;rfl;rfl;rfl)
   |(apply VVal.maxI;rfl;rfl)
   |(apply VVal.minI;rfl;rfl)
   |(apply VVal.not;rfl)
   |(apply VVal.extract;rfl;rfl)
   |(apply VVal.convI;rfl;rfl;rfl;rfl;omega)
   |(apply VVal.convU;rfl;rfl;rfl;rfl;omega)
   |(apply VVal.convB;rfl;rfl;rfl;rfl;omega)
   |(apply VVal.convInt;rfl;rfl;rfl;rfl)
   |(apply VVal.append1;rfl;rfl;rfl;rfl;rfl;rfl;rfl;rfl;(intro _ h;cases h);rfl;rfl;rfl;decide;decide;(first|omega|(simp only [List.length_take,List.length_drop,List.length_append,List.length_singleton,List.length_cons,List.length_nil]<;>omega)))
   |(apply VVal.appendL0;rfl;rfl;rfl;(first|rfl|omega|(simp only [List.length_take,List.length_drop,List.length_append,List.length_singleton,List.length_cons,List.length_nil]<;>omega));rfl;rfl;(intro _ h;cases h);rfl;rfl;rfl;decide;decide;(first|omega|(simp only [List.length_take,List.length_drop,List.length_append,List.length_singleton,List.length_cons,List.length_nil]<;>omega)))
   |(apply VVal.appendL;rfl;rfl;rfl;(first|rfl|omega|(simp only [List.length_take,List.length_drop,List.length_append,List.length_singleton,List.length_cons,List.length_nil]));(first|rfl|omega|(simp only [List.length_take,List.length_drop,List.length_append,List.length_singleton,List.length_cons,List.length_nil]<;>omega));rfl;rfl;(intro _ h;cases h);rfl;rfl;rfl;decide;decide;(first|omega|(simp only [List.length_take,List.length_drop,List.length_append,List.length_singleton,List.length_cons,List.length_nil]<;>omega)))
   |(apply VVal.shlOne;rfl;rfl;omega)
   |(apply VVal.shlOneU;rfl;rfl;omega)
   |(apply VVal.shrN;rfl;rfl;(simp only [IntKind.bits];omega))
   |(apply VVal.sliceTo;rfl;rfl;rfl;rfl;rfl;rfl;omega)
   |(apply VVal.sliceFrom;rfl;rfl;rfl;rfl;rfl;rfl;omega)
   |(apply VVal.sliceToI;rfl;rfl;rfl;rfl;rfl;rfl;omega)
   |(apply VVal.shr;rfl;rfl;omega)
   |(apply VVal.shl;rfl;rfl;omega)
   |(apply VWp.condSeq_true;rfl)
   |(apply VWp.condSeq_false;rfl)
   |(apply VWp.condSeq_dec;rfl)
   |(apply VWp.condSeq;rfl)
   |(apply VWp.cond_true;rfl)
   |(apply VWp.cond_false;rfl)
   |(apply VWp.cond_dec;rfl)
   |(apply VWp.cond;rfl)
   |(intro _;try (exfalso;omega)))
  refine VWp.loopQ (fun ij:Nat×Nat=>[(0,.p (.int .i64 10000001)),(1,.clo 40 [] [.ref 2 0,.ref 0 0,.ref 1 0]),(5,.p (.int .i64 (ij.1:Int))),(6,.p (.int .i64 (ij.2:Int)))]) (fun _=>[(2,.box 68 [st (Lib.decDigits A)]),(1,.box 68 [st (Lib.decDigits B)]),(0,.box 3 [.p (.int .i64 (h:Int))])]) 3 (fun ij=>ij.1≤me num den h s∧me num den h s≤ij.2∧ij.2≤10000001) (fun ij=>ij.2-ij.1) (0,10000001) (by omega) ⟨by omega,by omega,by omega⟩ ⟨by omega,?_,?_⟩ ?_
  ·repeat (first|exact LCov.nil|refine LCov.same trivial rfl ?_|refine LCov.same (lt_dec rfl) rfl ?_|refine LCov.same ⟨trivial,lt_dec rfl,lt_dec rfl,lt_dec rfl,trivial⟩ rfl ?_|refine LCov.same ⟨trivial,lt_dec rfl,lt_dec rfl,trivial⟩ rfl ?_|refine LCov.same ⟨trivial,trivial⟩ rfl ?_|refine LCov.cons trivial rfl (.of_eq (lst_len (by simp<;>omega))) ?_)
  ·repeat (first|exact HCov.nil|(refine HCov.cons (lt_dec rfl) ?_ rfl ?_ ?_;(first|exact trivial|exact PVs.under_pure _ _|(simp [HB.under,PVs.under,PV.under]));(first|exact HLe.refl _|exact HLe.vec (FLes.refl _) (by simp))))
  rintro ⟨i,j⟩ ⟨h1,h2,h3⟩
  simp only at h1 h2 h3
  repeat' (first
   |apply VWp.assoc
   |apply VWp.rseq
   |apply VWp.rseqD
   |apply VWp.region
   |apply VWp.regionD
   |apply VWp.skipSeq
   |apply VWp.retSeq
   |apply VWp.exitSeq
   |apply VWp.blockSeq
   |apply QSeq.normal
   |apply QSeq.ret
   |apply QSeq.exit
   |(apply DoneI.ret;rfl)
   |(apply DoneI.normal;rfl)
   |apply QBlk.normal
   |apply QBlk.ret
   |apply QBlk.exit
   |(apply QBlk.out;decide)
   |apply QLoop.ret
   |apply QLoop.exit
   |apply VWp.ret
   |apply VWp.skip
   |apply VWp.exit
   |apply VWp.blockQ
   |apply VOps.nil
   |apply VOpsD.nil
   |apply VOps.one
   |(apply VOpsD.bar;decide +kernel)
   |apply VOpsD.quiet
   |(apply VOps.take;rfl;rfl)
   |(apply VOpsD.quietTake;rfl;rfl)
   |(apply VOps.drop;rfl;rfl;rfl)
   |(apply VOpsD.drop;rfl;rfl;rfl)
   |(apply VOps.guard;rfl;rfl)
   |(apply VOpsD.guard;rfl;rfl)
   |(apply VOps.dropU;rfl;rfl)
   |(apply VOpsD.dropU;rfl;rfl)
   |(apply VOps.guardB;rfl;rfl)
   |(apply VOpsD.guardB;rfl;rfl)
   |(apply VVal.shrN (m:=i+j) (n:=1);rfl;rfl;exact le_dec rfl)
   |(apply VVal.notD;rfl)
   |(apply inl_R1;rfl;rfl;rfl;exact le_dec rfl)
   |(apply VVal.fn;rfl;rfl;exact spow3 (b:=(i+j) / 2 ^ 1) (h:=h) (by omega) hh;intro _;rfl)
   |(apply VVal.fn;rfl;rfl;exact m3 ((i+j) / 2 ^ 1) (by omega);intro _;rfl)
   |(apply VVal.fn;rfl;rfl;exact c3 ((i+j) / 2 ^ 1) (by omega);intro _;rfl)
   |(apply VVal.assign;rfl)
   |(apply VVal.move;rfl)
   |(apply VVal.add64;rfl;rfl;omega)
   |(apply VVal.sub64;rfl;rfl;omega)
   |(apply VVal.mul64;rfl;rfl;omega)
   |(apply VVal.subBN (c:=48);rfl;rfl;omega)
   |(apply VVal.subB;rfl;rfl;omega)
   |(apply VVal.addB;rfl;rfl;omega)
   |(apply VVal.addUN;rfl;rfl;omega)
   |(apply VVal.mulUN;rfl;rfl;omega)
   |(apply VVal.subUN;rfl;rfl;omega)
   |(apply VVal.quoUN;rfl;rfl;omega)
   |(apply VVal.remUN;rfl;rfl;omega)
   |(apply VVal.quoUT;rfl;rfl;omega)
   |(apply VVal.remUT;rfl;rfl;omega)
   |(apply VVal.mulUN (a:=10);rfl;rfl;omega)
   |(apply VVal.and1;rfl;rfl;omega)
   |(apply VVal.and1U;rfl;rfl;omega)
   |(apply VVal.and1B;rfl;rfl;omega)
   |(apply VVal.andI;rfl;rfl;omega)
   |(apply VVal.andU;rfl;rfl;omega;omega)
   |(apply VVal.orU;rfl;rfl;omega;omega)
   |(apply VVal.andNotU;rfl;rfl;omega;omega)
   |(apply VVal.remI;rfl;rfl;omega;omega)
   |(apply VVal.quoI;rfl;rfl;omega;omega)
   |(apply VVal.int;rfl;rfl;rfl)
   |(apply VVal.indexN;rfl;rfl;rfl;omega;rfl)
   |(apply VVal.indexP;rfl;rfl;rfl;omega;omega;rfl)
   |(apply VVal.indexE;rfl;rfl;rfl;omega;omega;rfl)
   |(apply VVal.loadVL;rfl;rfl;omega;rfl)
   |(apply VVal.load;rfl;rfl)
   |(apply VVal.pick_true;rfl;rfl)
   |(apply VVal.pick_false;rfl;rfl)
   |(apply VVal.lenF;rfl;rfl)
   |(apply VVal.lenNil;rfl;rfl)
   |(apply VVal.lenV;rfl;rfl;rfl)
   |(apply VVal.fieldB;rfl;rfl;rfl)
   |(apply VVal.fieldF;rfl;rfl)
   |(apply VVal.box;rfl;trivial)
   |(apply VVal.alloc;rfl)
   |(apply VVal.storeB;rfl;rfl;rfl;trivial;rfl;rfl;exact lt_dec rfl;exact le_dec rfl)
   |(apply VVal.build;rfl;rfl;rfl;rfl;rfl)
   |(apply VVal.buildSlice;rfl;rfl;rfl;decide;rfl;rfl;rfl)
   |(apply VVal.lenSt;rfl;rfl)
   |(apply VVal.eqS;rfl;rfl)
   |(apply VVal.neS;rfl;rfl)
   |(apply VVal.indexStN;rfl;rfl;rfl;omega)
   |(apply VVal.indexSt;rfl;rfl;rfl;omega;omega)
   |(apply VVal.sliceSI;rfl;rfl;rfl;rfl;omega)
   |(apply VVal.sliceSto;rfl;rfl;rfl;omega)
   |(apply VVal.sliceSfrom;rfl;rfl;rfl;omega)
   |(apply VVal.convS;rfl;rfl;rfl)
   |(apply VVal.toBytes;rfl;rfl;rfl;rfl;rfl;rfl;omega)
   |(apply VVal.addS;rfl;rfl;(first|omega|(simp only [List.length_take,List.length_drop,List.length_append,List.length_singleton,List.length_cons,List.length_nil]<;>omega)))
   |(apply VVal.indexVN;rfl;rfl;rfl;rfl;omega)
   |(apply VVal.indexVE;rfl;rfl;rfl;rfl;omega;omega)
   |(apply VVal.neg;rfl;omega)
   |(apply VVal.neB;rfl;rfl;rfl)
   |(apply VVal.eqB;rfl;rfl;rfl)
   |(apply VVal.maxI;rfl;rfl)
   |(apply VVal.minI;rfl;rfl)
   |(apply VVal.not;rfl)
   |(apply VVal.extract;rfl;rfl)
   |(apply VVal.convI;rfl;rfl;rfl;rfl;omega)
   |(apply VVal.convU;rfl;rfl;rfl;rfl;omega)
   |(apply VVal.convB;rfl;rfl;rfl;rfl;omega)
   |(apply VVal.convInt;rfl;rfl;rfl;rfl)
   |(apply VVal.append1;rfl;rfl;rfl;rfl;rfl;rfl;rfl;rfl;(intro _ h;cases h);rfl;rfl;rfl;decide;decide;(first|omega|(simp only [List.length_take,List.length_drop,List.length_append,List.length_singleton,List.length_cons,List.length_nil]<;>omega)))
   |(apply VVal.appendL0;rfl;rfl;rfl;(first|rfl|omega|(simp only [List.length_take,List.length_drop,List.length_append,List.length_singleton,List.length_cons,List.length_nil]<;>omega));rfl;rfl;(intro _ h;cases h);rfl;rfl;rfl;decide;decide;(first|omega|(simp only [List.length_take,List.length_drop,List.length_append,List.length_singleton,List.length_cons,List.length_nil]<;>omega)))
   |(apply VVal.appendL;rfl;rfl;rfl;(first|rfl|omega|(simp only [List.length_take,List.length_drop,List.length_append,List.length_singleton,List.length_cons,List.length_nil]));(first|rfl|omega|(simp only [List.length_take,List.length_drop,List.length_append,List.length_singleton,List.length_cons,List.length_nil]<;>omega));rfl;rfl;(intro _ h;cases h);rfl;rfl;rfl;decide;decide;(first|omega|(simp only [List.length_take,List.length_drop,List.length_append,List.length_singleton,List.length_cons,List.length_nil]<;>omega)))
   |(apply VVal.shlOne;rfl;rfl;omega)
   |(apply VVal.shlOneU;rfl;rfl;omega)
   |(apply VVal.shrN;rfl;rfl;(simp only [IntKind.bits];omega))
   |(apply VVal.sliceTo;rfl;rfl;rfl;rfl;rfl;rfl;omega)
   |(apply VVal.sliceFrom;rfl;rfl;rfl;rfl;rfl;rfl;omega)
   |(apply VVal.sliceToI;rfl;rfl;rfl;rfl;rfl;rfl;omega)
   |(apply VVal.shr;rfl;rfl;omega)
   |(apply VVal.shl;rfl;rfl;omega)
   |(apply VWp.condSeq_true;rfl)
   |(apply VWp.condSeq_false;rfl)
   |(apply VWp.condSeq_dec;rfl)
   |(apply VWp.condSeq;rfl)
   |(apply VWp.cond_true;rfl)
   |(apply VWp.cond_false;rfl)
   |(apply VWp.cond_dec;rfl)
   |(apply VWp.cond;rfl)
   |(intro _;try (exfalso;omega)))
  ·rename_i ha hb
   have hc:=hcl ((i+j) / 2 ^ 1) (by omega)
   have hc':¬ me num den h s≤(i+j) / 2 ^ 1:=fun q=>hb (hc.2 q)
   refine QLoop.normal ⟨((i+j) / 2 ^ 1+1,j),⟨by simp only;omega,h2,h3⟩,by simp only;omega,⟨by omega,?_,?_⟩⟩
   ·repeat (first|exact LCov.nil|refine LCov.same trivial rfl ?_|refine LCov.same (lt_dec rfl) rfl ?_|refine LCov.same ⟨trivial,lt_dec rfl,lt_dec rfl,lt_dec rfl,trivial⟩ rfl ?_|refine LCov.same ⟨trivial,lt_dec rfl,lt_dec rfl,trivial⟩ rfl ?_|refine LCov.same ⟨trivial,trivial⟩ rfl ?_|refine LCov.cons trivial rfl (.of_eq (lst_len (by simp<;>omega))) ?_)
   ·repeat (first|exact HCov.nil|(refine HCov.cons (lt_dec rfl) ?_ rfl ?_ ?_;(first|exact trivial|exact PVs.under_pure _ _|(simp [HB.under,PVs.under,PV.under]));(first|exact HLe.refl _|exact HLe.vec (FLes.refl _) (by simp))))
  ·rename_i ha hb
   have hc:=hcl ((i+j) / 2 ^ 1) (by omega)
   have hc':me num den h s≤(i+j) / 2 ^ 1:=hc.1 (Classical.not_not.1 hb)
   refine QLoop.normal ⟨(i,(i+j) / 2 ^ 1),⟨h1,hc',by simp only;omega⟩,by simp only;omega,⟨by omega,?_,?_⟩⟩
   ·repeat (first|exact LCov.nil|refine LCov.same trivial rfl ?_|refine LCov.same (lt_dec rfl) rfl ?_|refine LCov.same ⟨trivial,lt_dec rfl,lt_dec rfl,lt_dec rfl,trivial⟩ rfl ?_|refine LCov.same ⟨trivial,lt_dec rfl,lt_dec rfl,trivial⟩ rfl ?_|refine LCov.same ⟨trivial,trivial⟩ rfl ?_|refine LCov.cons trivial rfl (.of_eq (lst_len (by simp<;>omega))) ?_)
   ·repeat (first|exact HCov.nil|(refine HCov.cons (lt_dec rfl) ?_ rfl ?_ ?_;(first|exact trivial|exact PVs.under_pure _ _|(simp [HB.under,PVs.under,PV.under]));(first|exact HLe.refl _|exact HLe.vec (FLes.refl _) (by simp))))
  ·refine Done.ret rfl (.refl _) (by first|exact trivial|exact ⟨trivial,trivial,trivial⟩|exact ⟨trivial,trivial,trivial,trivial⟩) HCov.nil (Nat.zero_le _) (Nat.le_refl _) ⟨?_,rfl,rfl⟩
   refine PV.int_eq ?_
   simp only
   omega
end Go.Proofs.YtemfebbakfhknaaDoor
