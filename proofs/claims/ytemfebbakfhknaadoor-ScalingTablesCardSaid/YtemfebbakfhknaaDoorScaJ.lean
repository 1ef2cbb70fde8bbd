/-
  What Wider computes; arrays as values. Conditions: in each statement.
-/
import Derived.Test.YtemfebbakfhknaaDoorScaI
set_option linter.unusedSimpArgs false
set_option linter.unusedVariables false
namespace Go.Vm
open Go.Am
theorem build_array {P:Program} {t e:TypeId} {z:List Value} {n:Nat} {inf:TypeInfo} {ps:Array (Nat×Value)} {out:Array Value} (hz:zeroCellsOf P t=some z) (hu:P.underlying t=some (.array n e))
 (hi:P.info? e=some inf) (hf:Instr.fill (fun i=>some (i*inf.size,inf.size)) z.toArray ps.toList=some out):dry P (Instr.build t ps)=some (.agg out):=by
 obtain ⟨i,zv,h1,h2,h3,h4⟩:=zeroCellsOf_some hz
 unfold Instr.build
 simp only [dry_bind]
 have hzv:dry P (zeroValue t)=some zv:=by
  simp only [zeroValue,dry_bind,dry_typeInfo,h1,Option.bind_some,h2]
  rfl
 rw [hzv]
 simp only [Option.bind_some,dry_underlying,hu,dry_bind,dry_sizeOf,hi,Option.map_some]
 have e:zv.cells=z.toArray:=by rw [h3]
 rw [e,hf]
 rfl
section
variable {E:Env} {L:Frame} {H:Heap} {nx:Nat} {Q:PV→Heap→Nat→Prop} {w:Bool}
variable {dst:Option Tmp} {ty:TypeId} {pos:String} {af:Array Edge} {gd:Option (Nat×Bool)}
theorem VVal.buildA {t e:TypeId} {ps:Array (Nat×Operand)} {z:List Value} {n:Nat} {inf:TypeInfo} {parts:List (Nat×PV)} {out:List PV} (hz:zeroCellsOf E.P t=some z) (hu:E.P.underlying t=some (.array n e))
 (hi:E.P.info? e=some inf) (hp:evp E.Γ L ps.toList=some parts) (hf:pfill (fun i=>some (i*inf.size,inf.size)) (z.map fun v=>.p (cellFV v)) parts=some out) (q:Q (mkAgg out) H nx) :
 VVal E w ⟨dst,.build t ps,ty,pos,af,gd⟩ L H nx Q :=
 VVal.quiet q fun m F σ tt h1 h2=>by
  obtain ⟨_,_,_,_,_,hpz⟩:=zeroCellsOf_some hz
  obtain ⟨out',e1,e2,e3⟩:=pfill_rel (fun i=>some (i*inf.size,inf.size)) (evp_rel h1 h2 hp) (cs':=z.toArray) (RPs.zero hpz) (all_plain_isCell hpz) hf
  have e4:=build_array (ps:=ps.map fun (i,x)=>(i,ev tt x)) hz hu hi (by rw [Array.toList_map];simpa using e1)
  refine ⟨.agg out',fun _=>?_,mkAgg_rel e2 e3⟩
  simp only [aval,aop,hz,e4,Option.map_some]
theorem VVal.indexA {t e:TypeId} {x ix:Operand} {n:Nat} {cs:List FV} {k:IntKind} {i:Int} {inf:TypeInfo} (hx:vev E.Γ L x=some (.p (.agg cs))) (hi:vev E.Γ L ix=some (.p (.int k i)))
 (ht:E.P.underlying t=some (.array n e)) (ha:isAggT E.P e=some true) (hs:E.P.info? e=some inf) (h:0≤i∧i<n) (q:Q (.p (.agg ((cs.drop (i.toNat*inf.size)).take inf.size))) H nx) :
 VVal E w ⟨dst,.index t x ix,ty,pos,af,gd⟩ L H nx Q :=
 VVal.quiet q fun m F σ tt h1 h2=>by
  have hr:=vev_rel h1 h2 hx
  generalize hv:ev tt x=v at hr
  cases hr with
  |p hr =>
   cases hr with
   |agg hr hc =>
    rename_i l
    refine ⟨.agg (((l.drop (i.toNat*inf.size)).take inf.size)).toArray,fun _=>?_,.p (.agg (RFs.take _ (RFs.drop _ hr)) ?_)⟩
    ·have hd:dry E.P (Instr.index t (.agg l.toArray) (.int k i))=some (.agg (((l.drop (i.toNat*inf.size)).take inf.size)).toArray):=by
      unfold Instr.index
      simp only [dry_bind,dry_underlying,ht]
      show (dry E.P (asIntOf (.int k i))).bind _=_
      rw [show dry E.P (asIntOf (.int k i))=some (k,i) from rfl]
      simp only [Option.bind_some,h,and_self,if_true,dry_bind,dry_sizeOf,hs,Option.map_some]
      unfold part
      simp only [dry_bind,dry_isAgg,ha,Option.bind_some,if_true,dry_sizeOf,hs,Option.map_some,dry_pure,Option.some.injEq,Value.agg.injEq]
      apply Array.ext'
      rw [Array.toList_extract]
      simp [List.extract_eq_take_drop]
     simp only [aval,aop,hv,vev_int h1 h2 hi,hd,Option.map_some]
     rw [show plain (Value.int k i)=true from rfl,if_pos rfl]
    ·simpa using all_take (all_drop hc _) _
end
end Go.Vm
namespace Go.Proofs.YtemfebbakfhknaaDoor
open Go Go.Am Go.Vm Go.Sca
attribute [local irreducible] VVal VOps VOpsD VWp VCalls VFun VFunV QSeq QBlk QLoop Vm.Done DoneV DoneI
theorem lo_min (P:Nat→Prop) [DecidablePred P]:∀ k j,j<lo P k→¬ P j
 |0,j,h=>by simp [lo] at h
 |k+1,j,h=>by
  have hle:=lo_le P k
  have ih:=lo_min P k
  simp only [lo] at h
  split at h
  ·exact ih j h
  ·rename_i h1
   split at h
   ·exact ih j (by omega)
   ·rename_i h2
    rcases Nat.lt_or_ge j k with h3|h3
    ·exact ih j (by omega)
    ·obtain rfl:j=k:=by omega
     exact h2
theorem lo_at (P:Nat→Prop) [DecidablePred P]:∀ k,lo P k<k→P (lo P k)
 |0,h=>by omega
 |k+1,h=>by
  have hle:=lo_le P k
  simp only [lo] at h ⊢
  split
  ·rename_i h1;exact lo_at P k h1
  ·rename_i h1
   rw [if_neg h1] at h
   split
   ·rename_i h2;exact h2
   ·rename_i h2;rw [if_neg h2] at h;omega
def wdP (t:Scl) (n own:Int) (i:Nat):Prop:=wOk (n-(60-(i:Int)))∧mea t (n-(60-(i:Int)))≤own
instance (t:Scl) (n own:Int):DecidablePred (wdP t n own):=fun i=>by unfold wdP;infer_instance
def wdN (t:Scl) (n own:Int):Nat:=lo (wdP t n own) 121
theorem wdN_le (t:Scl) (n own:Int):wdN t n own≤121:=lo_le _ _
theorem wdN_min {t:Scl} {n own:Int} {i:Nat} (h:i<wdN t n own):¬ wdP t n own i:=lo_min _ _ _ h
theorem wdN_at {t:Scl} {n own:Int} (h:wdN t n own<121):wdP t n own (wdN t n own):=lo_at _ _ h
def widR (s t:Scl) (n:Int):Int×Bool×Int :=
 if ¬ sOk s then (0,false,3) else if ¬ sOk t then (0,false,3) else if (valR s n).2≠0 then (0,false,(valR s n).2) else if wdN t n (valR s n).1<121 then (60-(wdN t n (valR s n).1:Int),true,0) else (0,false,0)
theorem valR_ok {s:Scl} {n:Int} (h:(valR s n).2=0):sOk s∧wOk n∧valR s n=(mea s n,0)∧mea s n≤10000000:=by
 unfold valR at h ⊢
 split at h
 ·rename_i h1
  rw [if_pos h1]
  split at h
  ·rename_i h2;rw [if_pos h2];exact ⟨h1.1,h1.2,rfl,h2⟩
  ·simp at h
 ·simp at h
attribute [local irreducible] hvl mea me rnd rk lo fstN lenR wdN valR
set_option maxRecDepth 100000 in
set_option maxHeartbeats 1000000 in
theorem sWider_spec (s t:Scl) (n:Int) (hn:-100≤n∧n≤100):VFun env 24 [.agg (Enc.enc s),.agg (Enc.enc t),.int .i64 n] (.tup [.p (.int .i64 (widR s t n).1),.p (.bool (widR s t n).2.1),.p (.int .i64 (widR s t n).2.2)]):=by
 have hs:=scheck_spec s
 have ht:=scheck_spec t
 have hv:=sValue_spec s n
 refine VFun.enter (env_none (by decide)) Tryd.func24 rfl (by kernel_rfl) (by simp [Tryd.ntmps24]) ?_
 repeat' (first
  |apply VWp.assoc
  |apply VWp.rseq
  |apply VWp.rseqD
  |apply VWp.region
  |apply VWp.regionD
  |apply VWp.skipSeq
  |apply VWp.retSeq
  |apply VWp.exitSeq
  |apply VWp.blockSeq
  |apply QSeq.normal
  |apply QSeq.ret
  |apply QSeq.exit
  |(apply DoneI.ret;rfl)
  |(apply DoneI.normal;rfl)
  |apply QBlk.normal
  |apply QBlk.ret
  |apply QBlk.exit
  |(apply QBlk.out;decide)
  |apply QLoop.ret
  |apply QLoop.exit
  |apply VWp.ret
  |apply VWp.skip
  |apply VWp.exit
  |apply VWp.blockQ
  |apply VOps.nil
  |apply VOpsD.nil
  |apply VOps.one
  |(apply VOpsD.bar;decide +kernel)
  |apply VOpsD.quiet
  |(apply VOps.take;rfl;rfl)
  |(apply VOpsD.quietTake;rfl;rfl)
  |(apply VOps.drop;rfl;rfl;rfl)
  |(apply VOpsD.drop;rfl;rfl;rfl)
  |(apply VOps.guard;rfl;rfl)
  |(apply VOpsD.guard;rfl;rfl)
  |(apply VOps.dropU;rfl;rfl)
  |(apply VOpsD.dropU;rfl;rfl)
  |(apply VOps.guardB;rfl;rfl)
  |(apply VOpsD.guardB;rfl;rfl)
  |(apply VVal.buildA;rfl;rfl;rfl;rfl;rfl)
  |(apply VVal.assign;rfl)
  |(apply VVal.move;rfl)
  |(apply VVal.add64;rfl;rfl;omega)
  |(apply VVal.sub64;rfl;rfl;omega)
  |(apply VVal.mul64;rfl;rfl;omega)
  |(apply VVal.subBN (c:=48);rfl;rfl;omega)
  |(apply VVal.subB;rfl;rfl;omega)
  |(apply VVal.addB;rfl;rfl;omega)
  |(apply VVal.addUN;rfl;rfl;omega)
  |(apply VVal.mulUN;rfl;rfl;omega)
  |(apply VVal.subUN;rfl;rfl;omega)
  |(apply VVal.quoUN;rfl;rfl;omega)
  |(apply VVal.remUN;rfl;rfl;omega)
  |(apply VVal.quoUT;rfl;rfl;omega)
  |(apply VVal.remUT;rfl;rfl;omega)
  |(apply VVal.mulUN (a:=10);rfl;rfl;omega)
  |(apply VVal.and1;rfl;rfl;omega)
  |(apply VVal.and1U;rfl;rfl;omega)
  |(apply VVal.and1B;rfl;rfl;omega)
  |(apply VVal.andI;rfl;rfl;omega)
  |(apply VVal.andU;rfl;rfl;omega;omega)
  |(apply VVal.orU;rfl;rfl;omega;omega)
  |(apply VVal.andNotU;rfl;rfl;omega;omega)
  |(apply VVal.remI;rfl;rfl;omega;omega)
  |(apply VVal.quoI;rfl;rfl;omega;omega)
  |(apply VVal.int;rfl;rfl;rfl)
  |(apply VVal.indexN;rfl;rfl;rfl;omega;rfl)
  |(apply VVal.indexP;rfl;rfl;rfl;omega;omega;rfl)
  |(apply VVal.indexE;rfl;rfl;rfl;omega;omega;rfl)
  |(apply VVal.loadVL;rfl;rfl;omega;rfl)
  |(apply VVal.load;rfl;rfl)
  |(apply VVal.pick_true;rfl;rfl)
  |(apply VVal.pick_false;rfl;rfl)
  |(apply VVal.lenF;rfl;rfl)
  |(apply VVal.lenNil;rfl;rfl)
  |(apply VVal.lenV;rfl;rfl;rfl)
  |(apply VVal.fieldB;rfl;rfl;rfl)
  |(apply VVal.fieldF;rfl;rfl)
  |(apply VVal.box;rfl;trivial)
  |(apply VVal.alloc;rfl)
  |(apply VVal.storeB;rfl;rfl;rfl;trivial;rfl;rfl;exact lt_dec rfl;exact le_dec rfl)
  |(apply VVal.build;rfl;rfl;rfl;rfl;rfl)
  |(apply VVal.buildSlice;rfl;rfl;rfl;decide;rfl;rfl;rfl)
  |(apply VVal.lenSt;rfl;rfl)
  |(apply VVal.eqS;rfl;rfl)
  |(apply VVal.neS;rfl;rfl)
  |(apply VVal.indexStN;rfl;rfl;rfl;omega)
  |(apply VVal.indexSt;rfl;rfl;rfl;omega;omega)
  |(apply VVal.sliceSI;rfl;rfl;rfl;rfl;omega)
  |(apply VVal.sliceSto;rfl;rfl;rfl;omega)
  |(apply VVal.sliceSfrom;rfl;rfl;rfl;omega)
  |(apply VVal.convS;rfl;rfl;rfl)
  |(apply VVal.toBytes;rfl;rfl;rfl;rfl;rfl;rfl;omega)
  |(apply VVal.addS;rfl;rfl;(first|omega|(simp only [List.length_take,List.length_drop,List.length_append,List.length_singleton,List.length_cons,List.length_nil]<;>omega)))
  |(apply VVal.indexVN;rfl;rfl;rfl;rfl;omega)
  |(apply VVal.indexVE;rfl;rfl;rfl;rfl;omega;omega)
  |(apply VVal.neg;rfl;omega)
  |(apply VVal.neB;rfl;rfl;rfl)
  |(apply VVal.eqB;rfl;rfl;rfl)
  |(apply VVal.maxI;rfl;rfl)
  |(apply VVal.minI;rfl;rfl)
  |(apply VVal.not;rfl)
  |(apply VVal.extract;rfl;rfl)
  |(apply VVal.convI;rfl;rfl;rfl;rfl;omega)
  |(apply VVal.convU;rfl;rfl;rfl;rfl;omega)
  |(apply VVal.convB;rfl;rfl;rfl;rfl;omega)
  |(apply VVal.convInt;rfl;rfl;rfl;rfl)
  |(apply VVal.append1;rfl;rfl;rfl;rfl;rfl;rfl;rfl;rfl;(intro _ h;cases h);rfl;rfl;rfl;decide;decide;(first|omega|(simp only [List.length_take,List.length_drop,List.length_append,List.length_singleton,List.length_cons,List.length_nil]<;>omega)))
  |(apply VVal.appendL0;rfl;rfl;rfl;(first|rfl|omega|(simp only [List.length_take,List.length_drop,List.length_append,List.length_singleton,List.length_cons,List.length_nil]<;>omega));rfl;rfl;(intro _ h;cases h);rfl;rfl;rfl;decide;decide;(first|omega|(simp only [List.length_take,List.length_drop,List.length_append,List.length_singleton,List.length_cons,List.length_nil]<;>omega)))
  |(apply VVal.appendL;rfl;rfl;rfl;(first|rfl|omega|(simp only [List.length_take,List.length_drop,List.length_append,List.length_singleton,List.length_cons,List.length_nil]));(first|rfl|omega|(simp only [List.length_take,List.length_drop,List.length_append,List.length_singleton,List.length_cons,List.length_nil]<;>omega));rfl;rfl;(intro _ h;cases h);rfl;rfl;rfl;decide;decide;(first|omega|(simp only [List.length_take,List.length_drop,List.length_append,List.length_singleton,List.length_cons,List.length_nil]<;>omega)))
  |(apply VVal.shlOne;rfl;rfl;omega)
  |(apply VVal.shlOneU;rfl;rfl;omega)
  |(apply VVal.shrN;rfl;rfl;(simp only [IntKind.bits];omega))
  |(apply VVal.sliceTo;rfl;rfl;rfl;rfl;rfl;rfl;omega)
  |(apply VVal.sliceFrom;rfl;rfl;rfl;rfl;rfl;rfl;omega)
  |(apply VVal.sliceToI;rfl;rfl;rfl;rfl;rfl;rfl;omega)
  |(apply VVal.shr;rfl;rfl;omega)
  |(apply VVal.shl;rfl;rfl;omega)
  |(apply VWp.condSeq_true;rfl)
  |(apply VWp.condSeq_false;rfl)
  |(apply VWp.condSeq_dec;rfl)
  |(apply VWp.condSeq;rfl)
  |(apply VWp.cond_true;rfl)
  |(apply VWp.cond_false;rfl)
  |(apply VWp.cond_dec;rfl)
  |(apply VWp.cond;rfl)
  |(intro _;try (exfalso;omega)))
 refine VWp.loopQ (fun k:Nat=>[(2,.p (.int .i64 n)),(3,.ref 0 0),(4,.ref 1 0),(18,.p (.agg [.int .i64 s.base,.int .i64 s.halv,.int .i64 s.add,.int .i64 t.base,.int .i64 t.halv,.int .i64 t.add])),(19,.p (.int .i64 (k:Int)))]) (fun _=>[(1,.box 23 [.p (.int .i64 t.base),.p (.int .i64 t.halv),.p (.int .i64 t.add)]),(0,.box 23 [.p (.int .i64 s.base),.p (.int .i64 s.halv),.p (.int .i64 s.add)])]) 2 (fun k=>k≤2∧(0<k→sOk s)∧(1<k→sOk t)) (fun k=>2-k) 0 (by omega) ⟨by omega,fun h=>absurd h (by decide),fun h=>absurd h (by decide)⟩ ⟨by omega,?_,?_⟩ ?_
 ·repeat (first|exact LCov.nil|refine LCov.same trivial rfl ?_|refine LCov.same (lt_dec rfl) rfl ?_|refine LCov.same ⟨trivial,lt_dec rfl,lt_dec rfl,lt_dec rfl,trivial⟩ rfl ?_|refine LCov.same ⟨trivial,lt_dec rfl,lt_dec rfl,trivial⟩ rfl ?_|refine LCov.same ⟨trivial,trivial⟩ rfl ?_|refine LCov.cons trivial rfl (.of_eq (lst_len (by simp<;>omega))) ?_)
 ·repeat (first|exact HCov.nil|(refine HCov.cons (lt_dec rfl) ?_ rfl ?_ ?_;(first|exact trivial|exact PVs.under_pure _ _|(simp [HB.under,PVs.under,PV.under]));(first|exact HLe.refl _|exact HLe.vec (FLes.refl _) (by simp))))
 rintro k ⟨hk1,hk2,hk3⟩
 match k with
 |0 =>
  by_cases h1:sOk s
  ·rw [show chk s=0 from if_pos h1] at hs
   repeat' (first
    |apply VWp.assoc
    |apply VWp.rseq
    |apply VWp.rseqD
    |apply VWp.region
    |apply VWp.regionD
    |apply VWp.skipSeq
    |apply VWp.retSeq
    |apply VWp.exitSeq
    |apply VWp.blockSeq
    |apply QSeq.normal
    |apply QSeq.ret
    |apply QSeq.exit
    |(apply DoneI.ret;rfl)
    |(apply DoneI.normal;rfl)
    |apply QBlk.normal
    |apply QBlk.ret
    |apply QBlk.exit
    |(apply QBlk.out;decide)
    |apply QLoop.ret
    |apply QLoop.exit
    |apply VWp.ret
    |apply VWp.skip
    |apply VWp.exit
    |apply VWp.blockQ
    |apply VOps.nil
    |apply VOpsD.nil
    |apply VOps.one
    |(apply VOpsD.bar;decide +kernel)
    |apply VOpsD.quiet
    |(apply VOps.take;rfl;rfl)
    |(apply VOpsD.quietTake;rfl;rfl)
    |(apply VOps.drop;rfl;rfl;rfl)
    |(apply VOpsD.drop;rfl;rfl;rfl)
    |(apply VOps.guard;rfl;rfl)
    |(apply VOpsD.guard;rfl;rfl)
    |(apply VOps.dropU;rfl;rfl)
    |(apply VOpsD.dropU;rfl;rfl)
    |(apply VOps.guardB;rfl;rfl)
    |(apply VOpsD.guardB;rfl;rfl)
    |(apply VVal.fn;rfl;rfl;exact hs;intro _;rfl)
    |(apply VVal.indexA;rfl;rfl;rfl;rfl;rfl;decide)
    |(apply VVal.assign;rfl)
    |(apply VVal.move;rfl)
    |(apply VVal.add64;rfl;rfl;omega)
    |(apply VVal.sub64;rfl;rfl;omega)
    |(apply VVal.mul64;rfl;rfl;omega)
    |(apply VVal.subBN (c:=48);rfl;rfl;omega)
    |(apply VVal.subB;rfl;rfl;omega)
    |(apply VVal.addB;rfl;rfl;omega)
    |(apply VVal.addUN;rfl;rfl;omega)
    |(apply VVal.mulUN;rfl;rfl;omega)
    |(apply VVal.subUN;rfl;rfl;omega)
    |(apply VVal.quoUN;rfl;rfl;omega)
    |(apply VVal.remUN;rfl;rfl;omega)
    |(apply VVal.quoUT;rfl;rfl;omega)
    |(apply VVal.remUT;rfl;rfl;omega)
    |(apply VVal.mulUN (a:=10);rfl;rfl;omega)
    |(apply VVal.and1;rfl;rfl;omega)
    |(apply VVal.and1U;rfl;rfl;omega)
    |(apply VVal.and1B;rfl;rfl;omega)
    |(apply VVal.andI;rfl;rfl;omega)
    |(apply VVal.andU;rfl;rfl;omega;omega)
    |(apply VVal.orU;rfl;rfl;omega;omega)
    |(apply VVal.andNotU;rfl;rfl;omega;omega)
    |(apply VVal.remI;rfl;rfl;omega;omega)
    |(apply VVal.quoI;rfl;rfl;omega;omega)
    |(apply VVal.int;rfl;rfl;rfl)
    |(apply VVal.indexN;rfl;rfl;rfl;omega;rfl)
    |(apply VVal.indexP;rfl;rfl;rfl;omega;omega;rfl)
    |(apply VVal.indexE;rfl;rfl;rfl;omega;omega;rfl)
    |(apply VVal.loadVL;rfl;rfl;omega;rfl)
    |(apply VVal.load;rfl;rfl)
    |(apply VVal.pick_true;rfl;rfl)
    |(apply VVal.pick_false;rfl;rfl)
    |(apply VVal.lenF;rfl;rfl)
    |(apply VVal.lenNil;rfl;rfl)
    |(apply VVal.lenV;rfl;rfl;rfl)
    |(apply VVal.fieldB;rfl;rfl;rfl)
    |(apply VVal.fieldF;rfl;rfl)
    |(apply VVal.box;rfl;trivial)
    |(apply VVal.alloc;rfl)
    |(apply VVal.storeB;rfl;rfl;rfl;trivial;rfl;rfl;exact lt_dec rfl;exact le_dec rfl)
    |(apply VVal.build;rfl;rfl;rfl;rfl;rfl)
    |(apply VVal.buildSlice;rfl;rfl;rfl;decide;rfl;rfl;rfl)
    |(apply VVal.lenSt;rfl;rfl)
    |(apply VVal.eqS;rfl;rfl)
    |(apply VVal.neS;rfl;rfl)
    |(apply VVal.indexStN;rfl;rfl;rfl;omega)
    |(apply VVal.indexSt;rfl;rfl;rfl;omega;omega)
    |(apply VVal.sliceSI;rfl;rfl;rfl;rfl;omega)
    |(apply VVal.sliceSto;rfl;rfl;rfl;omega)
    |(apply VVal.sliceSfrom;rfl;rfl;rfl;omega)
    |(apply VVal.convS;rfl;rfl;rfl)
    |(apply VVal.toBytes;rfl;rfl;rfl;rfl;rfl;rfl;omega)
    |(apply VVal.addS;rfl;rfl;(first|omega|(simp only [List.length_take,List.length_drop,List.length_append,List.length_singleton,List.length_cons,List.length_nil]<;>omega)))
    |(apply VVal.indexVN;rfl;rfl;rfl;rfl;omega)
    |(apply VVal.indexVE;rfl;rfl;rfl;rfl;omega;omega)
    |(apply VVal.neg;rfl;omega)
    |(apply VVal.neB;rfl;rfl;rfl)
    |(apply VVal.eqB;rfl;rfl;rfl)
    |(apply VVal.maxI;rfl;rfl)
    |(apply VVal.minI;rfl;rfl)
    |(apply VVal.not;rfl)
    |(apply VVal.extract;rfl;rfl)
    |(apply VVal.convI;rfl;rfl;rfl;rfl;omega)
    |(apply VVal.convU;rfl;rfl;rfl;rfl;omega)
    |(apply VVal.convB;rfl;rfl;rfl;rfl;omega)
    |(apply VVal.convInt;rfl;rfl;rfl;rfl)
    |(apply VVal.append1;rfl;rfl;rfl;rfl;rfl;rfl;rfl;rfl;(intro _ h;cases h);rfl;rfl;rfl;decide;decide;(first|omega|(simp only [List.length_take,List.length_drop,List.length_append,List.length_singleton,List.length_cons,List.length_nil]<;>omega)))
    |(apply VVal.appendL0;rfl;rfl;rfl;(first|rfl|omega|(simp only [List.length_take,List.length_drop,List.length_append,List.length_singleton,List.length_cons,List.length_nil]<;>omega));rfl;rfl;(intro _ h;cases h);rfl;rfl;rfl;decide;decide;(first|omega|(simp only [List.length_take,List.length_drop,List.length_append,List.length_singleton,List.length_cons,List.length_nil]<;>omega)))
    |(apply VVal.appendL;rfl;rfl;rfl;(first|rfl|omega|(simp only [List.length_take,List.length_drop,List.length_append,List.length_singleton,List.length_cons,List.length_nil]));(first|rfl|omega|(simp only [List.length_take,List.length_drop,List.length_append,List.length_singleton,List.length_cons,List.length_nil]<;>omega));rfl;rfl;(intro _ h;cases h);rfl;rfl;rfl;decide;decide;(first|omega|(simp only [List.length_take,List.length_drop,List.length_append,List.length_singleton,List.length_cons,List.length_nil]<;>omega)))
    |(apply VVal.shlOne;rfl;rfl;omega)
    |(apply VVal.shlOneU;rfl;rfl;omega)
    |(apply VVal.shrN;rfl;rfl;(simp only [IntKind.bits];omega))
    |(apply VVal.sliceTo;rfl;rfl;rfl;rfl;rfl;rfl;omega)
    |(apply VVal.sliceFrom;rfl;rfl;rfl;rfl;rfl;rfl;omega)
    |(apply VVal.sliceToI;rfl;rfl;rfl;rfl;rfl;rfl;omega)
    |(apply VVal.shr;rfl;rfl;omega)
    |(apply VVal.shl;rfl;rfl;omega)
    |(apply VWp.condSeq_true;rfl)
    |(apply VWp.condSeq_false;rfl)
    |(apply VWp.condSeq_dec;rfl)
    |(apply VWp.condSeq;rfl)
    |(apply VWp.cond_true;rfl)
    |(apply VWp.cond_false;rfl)
    |(apply VWp.cond_dec;rfl)
    |(apply VWp.cond;rfl)
    |(intro _;try (exfalso;omega)))
   refine QLoop.normal ⟨1,⟨by omega,fun _=>h1,fun h=>absurd h (by decide)⟩,by omega,⟨by omega,?_,?_⟩⟩
   ·repeat (first|exact LCov.nil|refine LCov.same trivial rfl ?_|refine LCov.same (lt_dec rfl) rfl ?_|refine LCov.same ⟨trivial,lt_dec rfl,lt_dec rfl,lt_dec rfl,trivial⟩ rfl ?_|refine LCov.same ⟨trivial,lt_dec rfl,lt_dec rfl,trivial⟩ rfl ?_|refine LCov.same ⟨trivial,trivial⟩ rfl ?_|refine LCov.cons trivial rfl (.of_eq (lst_len (by simp<;>omega))) ?_)
   ·repeat (first|exact HCov.nil|(refine HCov.cons (lt_dec rfl) ?_ rfl ?_ ?_;(first|exact trivial|exact PVs.under_pure _ _|(simp [HB.under,PVs.under,PV.under]));(first|exact HLe.refl _|exact HLe.vec (FLes.refl _) (by simp))))
  ·rw [show chk s=3 from if_neg h1] at hs
   rw [show widR s t n=(0,false,3) from if_pos h1]
   repeat' (first
    |apply VWp.assoc
    |apply VWp.rseq
    |apply VWp.rseqD
    |apply VWp.region
    |apply VWp.regionD
    |apply VWp.skipSeq
    |apply VWp.retSeq
    |apply VWp.exitSeq
    |apply VWp.blockSeq
    |apply QSeq.normal
    |apply QSeq.ret
    |apply QSeq.exit
    |(apply DoneI.ret;rfl)
    |(apply DoneI.normal;rfl)
    |apply QBlk.normal
    |apply QBlk.ret
    |apply QBlk.exit
    |(apply QBlk.out;decide)
    |apply QLoop.ret
    |apply QLoop.exit
    |apply VWp.ret
    |apply VWp.skip
    |apply VWp.exit
    |apply VWp.blockQ
    |apply VOps.nil
    |apply VOpsD.nil
    |apply VOps.one
    |(apply VOpsD.bar;decide +kernel)
    |apply VOpsD.quiet
    |(apply VOps.take;rfl;rfl)
    |(apply VOpsD.quietTake;rfl;rfl)
    |(apply VOps.drop;rfl;rfl;rfl)
    |(apply VOpsD.drop;rfl;rfl;rfl)
    |(apply VOps.guard;rfl;rfl)
    |(apply VOpsD.guard;rfl;rfl)
    |(apply VOps.dropU;rfl;rfl)
    |(apply VOpsD.dropU;rfl;rfl)
    |(apply VOps.guardB;rfl;rfl)
    |(apply VOpsD.guardB;rfl;rfl)
    |(apply VVal.fn;rfl;rfl;exact hs;intro _;rfl)
    |(apply VVal.indexA;rfl;rfl;rfl;rfl;rfl;decide)
    |(apply VVal.assign;rfl)
    |(apply VVal.move;rfl)
    |(apply VVal.add64;rfl;rfl;omega)
    |(apply VVal.sub64;rfl;rfl;omega)
    |(apply VVal.mul64;rfl;rfl;omega)
    |(apply VVal.subBN (c:=48);rfl;rfl;omega)
    |(apply VVal.subB;rfl;rfl;omega)
    |(apply VVal.addB;rfl;rfl;omega)
    |(apply VVal.addUN;rfl;rfl;omega)
    |(apply VVal.mulUN;rfl;rfl;omega)
    |(apply VVal.subUN;rfl;rfl;omega)
    |(apply VVal.quoUN;rfl;rfl;omega)
    |(apply VVal.remUN;rfl;rfl;omega)
    |(apply VVal.quoUT;rfl;rfl;omega)
    |(apply VVal.remUT;rfl;rfl;omega)
    |(apply VVal.mulUN (a:=10);rfl;rfl;omega)
    |(apply VVal.and1;rfl;rfl;omega)
    |(apply VVal.and1U;rfl;rfl;omega)
    |(apply VVal.and1B;rfl;rfl;omega)
    |(apply VVal.andI;rfl;rfl;omega)
    |(apply VVal.andU;rfl;rfl;omega;omega)
    |(apply VVal.orU;rfl;rfl;omega;omega)
    |(apply VVal.andNotU;rfl;rfl;omega;omega)
    |(apply VVal.remI;rfl;rfl;omega;omega)
    |(apply VVal.quoI;rfl;rfl;omega;omega)
    |(apply VVal.int;rfl;rfl;rfl)
    |(apply VVal.indexN;rfl;rfl;rfl;omega;rfl)
    |(apply VVal.indexP;rfl;rfl;rfl;omega;omega;rfl)
    |(apply VVal.indexE;rfl;rfl;rfl;omega;omega;rfl)
    |(apply VVal.loadVL;rfl;rfl;omega;rfl)
    |(apply VVal.load;rfl;rfl)
    |(apply VVal.pick_true;rfl;rfl)
    |(apply VVal.pick_false;rfl;rfl)
    |(apply VVal.lenF;rfl;rfl)
    |(apply VVal.lenNil;rfl;rfl)
    |(apply VVal.lenV;rfl;rfl;rfl)
    |(apply VVal.fieldB;rfl;rfl;rfl)
    |(apply VVal.fieldF;rfl;rfl)
    |(apply VVal.box;rfl;trivial)
    |(apply VVal.alloc;rfl)
    |(apply VVal.storeB;rfl;rfl;rfl;trivial;rfl;rfl;exact lt_dec rfl;exact le_dec rfl)
    |(apply VVal.build;rfl;rfl;rfl;rfl;rfl)
    |(apply VVal.buildSlice;rfl;rfl;rfl;decide;rfl;rfl;rfl)
    |(apply VVal.lenSt;rfl;rfl)
    |(apply VVal.eqS;rfl;rfl)
    |(apply VVal.neS;rfl;rfl)
    |(apply VVal.indexStN;rfl;rfl;rfl;omega)
    |(apply VVal.indexSt;rfl;rfl;rfl;omega;omega)
    |(apply VVal.sliceSI;rfl;rfl;rfl;rfl;omega)
    |(apply VVal.sliceSto;rfl;rfl;rfl;omega)
    |(apply VVal.sliceSfrom;rfl;rfl;rfl;omega)
    |(apply VVal.convS;rfl;rfl;rfl)
    |(apply VVal.toBytes;rfl;rfl;rfl;rfl;rfl;rfl;omega)
    |(apply VVal.addS;rfl;rfl;(first|omega|(simp only [List.length_take,List.length_drop,List.length_append,List.length_singleton,List.length_cons,List.length_nil]<;>omega)))
    |(apply VVal.indexVN;rfl;rfl;rfl;rfl;omega)
    |(apply VVal.indexVE;rfl;rfl;rfl;rfl;omega;omega)
    |(apply VVal.neg;rfl;omega)
    |(apply VVal.neB;rfl;rfl;rfl)
    |(apply VVal.eqB;rfl;rfl;rfl)
    |(apply VVal.maxI;rfl;rfl)
    |(apply VVal.minI;rfl;rfl)
    |(apply VVal.not;rfl)
    |(apply VVal.extract;rfl;rfl)
    |(apply VVal.convI;rfl;rfl;rfl;rfl;omega)
    |(apply VVal.convU;rfl;rfl;rfl;rfl;omega)
    |(apply VVal.convB;rfl;rfl;rfl;rfl;omega)
    |(apply VVal.convInt;rfl;rfl;rfl;rfl)
    |(apply VVal.append1;rfl;rfl;rfl;rfl;rfl;rfl;rfl;rfl;(intro _ h;cases h);rfl;rfl;rfl;decide;decide;(first|omega|(simp only [List.length_take,List.length_drop,List.length_append,List.length_singleton,List.length_cons,List.length_nil]<;>omega)))
    |(apply VVal.appendL0;rfl;rfl;rfl;(first|rfl|omega|(simp only [List.length_take,List.length_drop,List.length_append,List.length_singleton,List.length_cons,List.length_nil]<;>omega));rfl;rfl;(intro _ h;cases h);rfl;rfl;rfl;decide;decide;(first|omega|(simp only [List.length_take,List.length_drop,List.length_append,List.length_singleton,List.length_cons,List.length_nil]<;>omega)))
    |(apply VVal.appendL;rfl;rfl;rfl;(first|rfl|omega|(simp only [List.length_take,List.length_drop,List.length_append,List.length_singleton,List.length_cons,List.length_nil]));(first|rfl|omega|(simp only [List.length_take,List.length_drop,List.length_append,List.length_singleton,List.length_cons,List.length_nil]<;>omega));rfl;rfl;(intro _ h;cases h);rfl;rfl;rfl;decide;decide;(first|omega|(simp only [List.length_take,List.length_drop,List.length_append,List.length_singleton,List.length_cons,List.length_nil]<;>omega)))
    |(apply VVal.shlOne;rfl;rfl;omega)
    |(apply VVal.shlOneU;rfl;rfl;omega)
    |(apply VVal.shrN;rfl;rfl;(simp only [IntKind.bits];omega))
    |(apply VVal.sliceTo;rfl;rfl;rfl;rfl;rfl;rfl;omega)
    |(apply VVal.sliceFrom;rfl;rfl;rfl;rfl;rfl;rfl;omega)
    |(apply VVal.sliceToI;rfl;rfl;rfl;rfl;rfl;rfl;omega)
    |(apply VVal.shr;rfl;rfl;omega)
    |(apply VVal.shl;rfl;rfl;omega)
    |(apply VWp.condSeq_true;rfl)
    |(apply VWp.condSeq_false;rfl)
    |(apply VWp.condSeq_dec;rfl)
    |(apply VWp.condSeq;rfl)
    |(apply VWp.cond_true;rfl)
    |(apply VWp.cond_false;rfl)
    |(apply VWp.cond_dec;rfl)
    |(apply VWp.cond;rfl)
    |(intro _;try (exfalso;omega)))
   all_goals (refine Done.ret rfl (.refl _) (by first|exact trivial|exact ⟨trivial,trivial,trivial⟩|exact ⟨trivial,trivial,trivial,trivial⟩) HCov.nil (Nat.zero_le _) (Nat.le_refl _) ⟨?_,rfl,rfl⟩;try rfl)
 |1 =>
  have h1:=hk2 (by decide)
  by_cases h2:sOk t
  ·rw [show chk t=0 from if_pos h2] at ht
   repeat' (first
    |apply VWp.assoc
    |apply VWp.rseq
    |apply VWp.rseqD
    |apply VWp.region
    |apply VWp.regionD
    |apply VWp.skipSeq
    |apply VWp.retSeq
    |apply VWp.exitSeq
    |apply VWp.blockSeq
    |apply QSeq.normal
    |apply QSeq.ret
    |apply QSeq.exit
    |(apply DoneI.ret;rfl)
    |(apply DoneI.normal;rfl)
    |apply QBlk.normal
    |apply QBlk.ret
    |apply QBlk.exit
    |(apply QBlk.out;decide)
    |apply QLoop.ret
    |apply QLoop.exit
    |apply VWp.ret
    |apply VWp.skip
    |apply VWp.exit
    |apply VWp.blockQ
    |apply VOps.nil
    |apply VOpsD.nil
    |apply VOps.one
    |(apply VOpsD.bar;decide +kernel)
    |apply VOpsD.quiet
    |(apply VOps.take;rfl;rfl)
    |(apply VOpsD.quietTake;rfl;rfl)
    |(apply VOps.drop;rfl;rfl;rfl)
    |(apply VOpsD.drop;rfl;rfl;rfl)
    |(apply VOps.guard;rfl;rfl)
    |(apply VOpsD.guard;rfl;rfl)
    |(apply VOps.dropU;rfl;rfl)
    |(apply VOpsD.dropU;rfl;rfl)
    |(apply VOps.guardB;rfl;rfl)
    |(apply VOpsD.guardB;rfl;rfl)
    |(apply VVal.fn;rfl;rfl;exact ht;intro _;rfl)
    |(apply VVal.indexA;rfl;rfl;rfl;rfl;rfl;decide)
    |(apply VVal.assign;rfl)
    |(apply VVal.move;rfl)
    |(apply VVal.add64;rfl;rfl;omega)
    |(apply VVal.sub64;rfl;rfl;omega)
    |(apply VVal.mul64;rfl;rfl;omega)
    |(apply VVal.subBN (c:=48);rfl;rfl;omega)
    |(apply VVal.subB;rfl;rfl;omega)
    |(apply VVal.addB;rfl;rfl;omega)
    |(apply VVal.addUN;rfl;rfl;omega)
    |(apply VVal.mulUN;rfl;rfl;omega)
    |(apply VVal.subUN;rfl;rfl;omega)
    |(apply VVal.quoUN;rfl;rfl;omega)
    |(apply VVal.remUN;rfl;rfl;omega)
    |(apply VVal.quoUT;rfl;rfl;omega)
    |(apply VVal.remUT;rfl;rfl;omega)
    |(apply VVal.mulUN (a:=10);rfl;rfl;omega)
    |(apply VVal.and1;rfl;rfl;omega)
    |(apply VVal.and1U;rfl;rfl;omega)
    |(apply VVal.and1B;rfl;rfl;omega)
    |(apply VVal.andI;rfl;rfl;omega)
    |(apply VVal.andU;rfl;rfl;omega;omega)
    |(apply VVal.orU;rfl;rfl;omega;omega)
    |(apply VVal.andNotU;rfl;rfl;omega;omega)
    |(apply VVal.remI;rfl;rfl;omega;omega)
    |(apply VVal.quoI;rfl;rfl;omega;omega)
    |(apply VVal.int;rfl;rfl;rfl)
    |(apply VVal.indexN;rfl;rfl;rfl;omega;rfl)
    |(apply VVal.indexP;rfl;rfl;rfl;omega;omega;rfl)
    |(apply VVal.indexE;rfl;rfl;rfl;omega;omega;rfl)
    |(apply VVal.loadVL;rfl;rfl;omega;rfl)
    |(apply VVal.load;rfl;rfl)
    |(apply VVal.pick_true;rfl;rfl)
    |(apply VVal.pick_false;rfl;rfl)
    |(apply VVal.lenF;rfl;rfl)
    |(apply VVal.lenNil;rfl;rfl)
    |(apply VVal.lenV;rfl;rfl;rfl)
    |(apply VVal.fieldB;rfl;rfl;rfl)
    |(apply VVal.fieldF;rfl;rfl)
    |(apply VVal.box;rfl;trivial)
    |(apply VVal.alloc;rfl)
    |(apply VVal.storeB;rfl;rfl;rfl;trivial;rfl;rfl;exact lt_dec rfl;exact le_dec rfl)
    |(apply VVal.build;rfl;rfl;rfl;rfl;rfl)
    |(apply VVal.buildSlice;rfl;rfl;rfl;decide;rfl;rfl;rfl)
    |(apply VVal.lenSt;rfl;rfl)
    |(apply VVal.eqS;rfl;rfl)
    |(apply VVal.neS;rfl;rfl)
    |(apply VVal.indexStN;rfl;rfl;rfl;omega)
    |(apply VVal.indexSt;rfl;rfl;rfl;omega;omega)
    |(apply VVal.sliceSI;rfl;rfl;rfl;rfl;omega)
    |(apply VVal.sliceSto;rfl;rfl;rfl;omega)
    |(apply VVal.sliceSfrom;rfl;rfl;rfl;omega)
    |(apply VVal.convS;rfl;rfl;rfl)
    |(apply VVal.toBytes;rfl;rfl;rfl;rfl;rfl;rfl;omega)
    |(apply VVal.addS;rfl;rfl;(first|omega|(simp only [List.length_take,List.length_drop,List.length_append,List.length_singleton,List.length_cons,List.length_nil]<;>omega)))
    |(apply VVal.indexVN;rfl;rfl;rfl;rfl;omega)
    |(apply VVal.indexVE;rfl;rfl;rfl;rfl;omega;omega)
    |(apply VVal.neg;rfl;omega)
    |(apply VVal.neB;rfl;rfl;rfl)
    |(apply VVal.eqB;rfl;rfl;rfl)
    |(apply VVal.maxI;rfl;rfl)
    |(apply VVal.minI;rfl;rfl)
    |(apply VVal.not;rfl)
    |(apply VVal.extract;rfl;rfl)
    |(apply VVal.convI;rfl;rfl;rfl;rfl;omega)
    |(apply VVal.convU;rfl;rfl;rfl;rfl;omega)
    |(apply VVal.convB;rfl;rfl;rfl;rfl;omega)
    |(apply VVal.convInt;rfl;rfl;rfl;rfl)
    |(apply VVal.append1;rfl;rfl;rfl;rfl;rfl;rfl;rfl;rfl;(intro _ h;cases h);rfl;rfl;rfl;decide;decide;(first|omega|(simp only [List.length_take,List.length_drop,List.length_append,List.length_singleton,List.length_cons,List.length_nil]<;>omega)))
    |(apply VVal.appendL0;rfl;rfl;rfl;(first|rfl|omega|(simp only [List.length_take,List.length_drop,List.length_append,List.length_singleton,List.length_cons,List.length_nil]<;>omega));rfl;rfl;(intro _ h;cases h);rfl;rfl;rfl;decide;decide;(first|omega|(simp only [List.length_take,List.length_drop,List.length_append,List.length_singleton,List.length_cons,List.length_nil]<;>omega)))
    |(apply VVal.appendL;rfl;rfl;rfl;(first|rfl|omega|(simp only [List.length_take,List.length_drop,List.length_append,List.length_singleton,List.length_cons,List.length_nil]));(first|rfl|omega|(simp only [List.length_take,List.length_drop,List.length_append,List.length_singleton,List.length_cons,List.length_nil]<;>omega));rfl;rfl;(intro _ h;cases h);rfl;rfl;rfl;decide;decide;(first|omega|(simp only [List.length_take,List.length_drop,List.length_append,List.length_singleton,List.length_cons,List.length_nil]<;>omega)))
    |(apply VVal.shlOne;rfl;rfl;omega)
    |(apply VVal.shlOneU;rfl;rfl;omega)
    |(apply VVal.shrN;rfl;rfl;(simp only [IntKind.bits];omega))
    |(apply VVal.sliceTo;rfl;rfl;rfl;rfl;rfl;rfl;omega)
    |(apply VVal.sliceFrom;rfl;rfl;rfl;rfl;rfl;rfl;omega)
    |(apply VVal.sliceToI;rfl;rfl;rfl;rfl;rfl;rfl;omega)
    |(apply VVal.shr;rfl;rfl;omega)
    |(apply VVal.shl;rfl;rfl;omega)
    |(apply VWp.condSeq_true;rfl)
    |(apply VWp.condSeq_false;rfl)
    |(apply VWp.condSeq_dec;rfl)
    |(apply VWp.condSeq;rfl)
    |(apply VWp.cond_true;rfl)
    |(apply VWp.cond_false;rfl)
    |(apply VWp.cond_dec;rfl)
    |(apply VWp.cond;rfl)
    |(intro _;try (exfalso;omega)))
   refine QLoop.normal ⟨2,⟨by omega,fun _=>h1,fun _=>h2⟩,by omega,⟨by omega,?_,?_⟩⟩
   ·repeat (first|exact LCov.nil|refine LCov.same trivial rfl ?_|refine LCov.same (lt_dec rfl) rfl ?_|refine LCov.same ⟨trivial,lt_dec rfl,lt_dec rfl,lt_dec rfl,trivial⟩ rfl ?_|refine LCov.same ⟨trivial,lt_dec rfl,lt_dec rfl,trivial⟩ rfl ?_|refine LCov.same ⟨trivial,trivial⟩ rfl ?_|refine LCov.cons trivial rfl (.of_eq (lst_len (by simp<;>omega))) ?_)
   ·repeat (first|exact HCov.nil|(refine HCov.cons (lt_dec rfl) ?_ rfl ?_ ?_;(first|exact trivial|exact PVs.under_pure _ _|(simp [HB.under,PVs.under,PV.under]));(first|exact HLe.refl _|exact HLe.vec (FLes.refl _) (by simp))))
  ·rw [show chk t=3 from if_neg h2] at ht
   rw [show widR s t n=(0,false,3) by unfold widR;rw [if_neg (Classical.not_not.2 h1),if_pos h2]]
   repeat' (first
    |apply VWp.assoc
    |apply VWp.rseq
    |apply VWp.rseqD
    |apply VWp.region
    |apply VWp.regionD
    |apply VWp.skipSeq
    |apply VWp.retSeq
    |apply VWp.exitSeq
    |apply VWp.blockSeq
    |apply QSeq.normal
    |apply QSeq.ret
    |apply QSeq.exit
    |(apply DoneI.ret;rfl)
    |(apply DoneI.normal;rfl)
    |apply QBlk.normal
    |apply QBlk.ret
    |apply QBlk.exit
    |(apply QBlk.out;decide)
    |apply QLoop.ret
    |apply QLoop.exit
    |apply VWp.ret
    |apply VWp.skip
    |apply VWp.exit
    |apply VWp.blockQ
    |apply VOps.nil
    |apply VOpsD.nil
    |apply VOps.one
    |(apply VOpsD.bar;decide +kernel)
    |apply VOpsD.quiet
    |(apply VOps.take;rfl;rfl)
    |(apply VOpsD.quietTake;rfl;rfl)
    |(apply VOps.drop;rfl;rfl;rfl)
    |(apply VOpsD.drop;rfl;rfl;rfl)
    |(apply VOps.guard;rfl;rfl)
    |(apply VOpsD.guard;rfl;rfl)
    |(apply VOps.dropU;rfl;rfl)
    |(apply VOpsD.dropU;rfl;rfl)
    |(apply VOps.guardB;rfl;rfl)
    |(apply VOpsD.guardB;rfl;rfl)
    |(apply VVal.fn;rfl;rfl;exact ht;intro _;rfl)
    |(apply VVal.indexA;rfl;rfl;rfl;rfl;rfl;decide)
    |(apply VVal.assign;rfl)
    |(apply VVal.move;rfl)
    |(apply VVal.add64;rfl;rfl;omega)
    |(apply VVal.sub64;rfl;rfl;omega)
    |(apply VVal.mul64;rfl;rfl;omega)
    |(apply VVal.subBN (c:=48);rfl;rfl;omega)
    |(apply VVal.subB;rfl;rfl;omega)
    |(apply VVal.addB;rfl;rfl;omega)
    |(apply VVal.addUN;rfl;rfl;omega)
    |(apply VVal.mulUN;rfl;rfl;omega)
    |(apply VVal.subUN;rfl;rfl;omega)
    |(apply VVal.quoUN;rfl;rfl;omega)
    |(apply VVal.remUN;rfl;rfl;omega)
    |(apply VVal.quoUT;rfl;rfl;omega)
    |(apply VVal.remUT;rfl;rfl;omega)
    |(apply VVal.mulUN (a:=10);rfl;rfl;omega)
    |(apply VVal.and1;rfl;rfl;omega)
    |(apply VVal.and1U;rfl;rfl;omega)
    |(apply VVal.and1B;rfl;rfl;omega)
    |(apply VVal.andI;rfl;rfl;omega)
    |(apply VVal.andU;rfl;rfl;omega;omega)
    |(apply VVal.orU;rfl;rfl;omega;omega)
    |(apply VVal.andNotU;rfl;rfl;omega;omega)
    |(apply VVal.remI;rfl;rfl;omega;omega)
    |(apply VVal.quoI;rfl;rfl;omega;omega)
    |(apply VVal.int;rfl;rfl;rfl)
    |(apply VVal.indexN;rfl;rfl;rfl;omega;rfl)
    |(apply VVal.indexP;rfl;rfl;rfl;omega;omega;rfl)
    |(apply VVal.indexE;rfl;rfl;rfl;omega;omega;rfl)
    |(apply VVal.loadVL;rfl;rfl;omega;rfl)
    |(apply VVal.load;rfl;rfl)
    |(apply VVal.pick_true;rfl;rfl)
    |(apply VVal.pick_false;rfl;rfl)
    |(apply VVal.lenF;rfl;rfl)
    |(apply VVal.lenNil;rfl;rfl)
    |(apply VVal.lenV;rfl;rfl;rfl)
    |(apply VVal.fieldB;rfl;rfl;rfl)
    |(apply VVal.fieldF;rfl;rfl)
    |(apply VVal.box;rfl;trivial)
    |(apply VVal.alloc;rfl)
    |(apply VVal.storeB;rfl;rfl;rfl;trivial;rfl;rfl;exact lt_dec rfl;exact le_dec rfl)
    |(apply VVal.build;rfl;rfl;rfl;rfl;rfl)
    |(apply VVal.buildSlice;rfl;rfl;rfl;decide;rfl;rfl;rfl)
    |(apply VVal.lenSt;rfl;rfl)
    |(apply VVal.eqS;rfl;rfl)
    |(apply VVal.neS;rfl;rfl)
    |(apply VVal.indexStN;rfl;rfl;rfl;omega)
    |(apply VVal.indexSt;rfl;rfl;rfl;omega;omega)
    |(apply VVal.sliceSI;rfl;rfl;rfl;rfl;omega)
    |(apply VVal.sliceSto;rfl;rfl;rfl;omega)
    |(apply VVal.sliceSfrom;rfl;rfl;rfl;omega)
    |(apply VVal.convS;rfl;rfl;rfl)
    |(apply VVal.toBytes;rfl;rfl;rfl;rfl;rfl;rfl;omega)
    |(apply VVal.addS;rfl;rfl;(first|omega|(simp only [List.length_take,List.length_drop,List.length_append,List.length_singleton,List.length_cons,List.length_nil]<;>omega)))
    |(apply VVal.indexVN;rfl;rfl;rfl;rfl;omega)
    |(apply VVal.indexVE;rfl;rfl;rfl;rfl;omega;omega)
    |(apply VVal.neg;rfl;omega)
    |(apply VVal.neB;rfl;rfl;rfl)
    |(apply VVal.eqB;rfl;rfl;rfl)
    |(apply VVal.maxI;rfl;rfl)
    |(apply VVal.minI;rfl;rfl)
    |(apply VVal.not;rfl)
    |(apply VVal.extract;rfl;rfl)
    |(apply VVal.convI;rfl;rfl;rfl;rfl;omega)
    |(apply VVal.convU;rfl;rfl;rfl;rfl;omega)
    |(apply VVal.convB;rfl;rfl;rfl;rfl;omega)
    |(apply VVal.convInt;rfl;rfl;rfl;rfl)
    |(apply VVal.append1;rfl;rfl;rfl;rfl;rfl;rfl;rfl;rfl;(intro _ h;cases h);rfl;rfl;rfl;decide;decide;(first|omega|(simp only [List.length_take,List.length_drop,List.length_append,List.length_singleton,List.length_cons,List.length_nil]<;>omega)))
    |(apply VVal.appendL0;rfl;rfl;rfl;(first|rfl|omega|(simp only [List.length_take,List.length_drop,List.length_append,List.length_singleton,List.length_cons,List.length_nil]<;>omega));rfl;rfl;(intro _ h;cases h);rfl;rfl;rfl;decide;decide;(first|omega|(simp only [List.length_take,List.length_drop,List.length_append,List.length_singleton,List.length_cons,List.length_nil]<;>omega)))
    |(apply VVal.appendL;rfl;rfl;rfl;(first|rfl|omega|(simp only [List.length_take,List.length_drop,List.length_append,List.length_singleton,List.length_cons,List.length_nil]));(first|rfl|omega|(simp only [List.length_take,List.length_drop,List.length_append,List.length_singleton,List.length_cons,List.length_nil]<;>omega));rfl;rfl;(intro _ h;cases h);rfl;rfl;rfl;decide;decide;(first|omega|(simp only [List.length_take,List.length_drop,List.length_append,List.length_singleton,List.length_cons,List.length_nil]<;>omega)))
    |(apply VVal.shlOne;rfl;rfl;omega)
    |(apply VVal.shlOneU;rfl;rfl;omega)
    |(apply VVal.shrN;rfl;rfl;(simp only [IntKind.bits];omega))
    |(apply VVal.sliceTo;rfl;rfl;rfl;rfl;rfl;rfl;omega)
    |(apply VVal.sliceFrom;rfl;rfl;rfl;rfl;rfl;rfl;omega)
    |(apply VVal.sliceToI;rfl;rfl;rfl;rfl;rfl;rfl;omega)
    |(apply VVal.shr;rfl;rfl;omega)
    |(apply VVal.shl;rfl;rfl;omega)
    |(apply VWp.condSeq_true;rfl)
    |(apply VWp.condSeq_false;rfl)
    |(apply VWp.condSeq_dec;rfl)
    |(apply VWp.condSeq;rfl)
    |(apply VWp.cond_true;rfl)
    |(apply VWp.cond_false;rfl)
    |(apply VWp.cond_dec;rfl)
    |(apply VWp.cond;rfl)
    |(intro _;try (exfalso;omega)))
   all_goals (refine Done.ret rfl (.refl _) (by first|exact trivial|exact ⟨trivial,trivial,trivial⟩|exact ⟨trivial,trivial,trivial,trivial⟩) HCov.nil (Nat.zero_le _) (Nat.le_refl _) ⟨?_,rfl,rfl⟩;try rfl)
 |k+2 =>
  obtain rfl:k=0:=by omega
  have h1:=hk2 (by decide)
  have h2:=hk3 (by decide)
  by_cases h3:(valR s n).2≠0
  ·rw [show widR s t n=(0,false,(valR s n).2) by unfold widR;rw [if_neg (Classical.not_not.2 h1),if_neg (Classical.not_not.2 h2),if_pos h3]]
   repeat' (first
    |apply VWp.assoc
    |apply VWp.rseq
    |apply VWp.rseqD
    |apply VWp.region
    |apply VWp.regionD
    |apply VWp.skipSeq
    |apply VWp.retSeq
    |apply VWp.exitSeq
    |apply VWp.blockSeq
    |apply QSeq.normal
    |apply QSeq.ret
    |apply QSeq.exit
    |(apply DoneI.ret;rfl)
    |(apply DoneI.normal;rfl)
    |apply QBlk.normal
    |apply QBlk.ret
    |apply QBlk.exit
    |(apply QBlk.out;decide)
    |apply QLoop.ret
    |apply QLoop.exit
    |apply VWp.ret
    |apply VWp.skip
    |apply VWp.exit
    |apply VWp.blockQ
    |apply VOps.nil
    |apply VOpsD.nil
    |apply VOps.one
    |(apply VOpsD.bar;decide +kernel)
    |apply VOpsD.quiet
    |(apply VOps.take;rfl;rfl)
    |(apply VOpsD.quietTake;rfl;rfl)
    |(apply VOps.drop;rfl;rfl;rfl)
    |(apply VOpsD.drop;rfl;rfl;rfl)
    |(apply VOps.guard;rfl;rfl)
    |(apply VOpsD.guard;rfl;rfl)
    |(apply VOps.dropU;rfl;rfl)
    |(apply VOpsD.dropU;rfl;rfl)
    |(apply VOps.guardB;rfl;rfl)
    |(apply VOpsD.guardB;rfl;rfl)
    |(apply VVal.fn;rfl;rfl;exact hv;intro _;rfl)
    |(apply VVal.assign;rfl)
    |(apply VVal.move;rfl)
    |(apply VVal.add64;rfl;rfl;omega)
    |(apply VVal.sub64;rfl;rfl;omega)
    |(apply VVal.mul64;rfl;rfl;omega)
    |(apply VVal.subBN (c:=48);rfl;rfl;omega)
    |(apply VVal.subB;rfl;rfl;omega)
    |(apply VVal.addB;rfl;rfl;omega)
    |(apply VVal.addUN;rfl;rfl;omega)
    |(apply VVal.mulUN;rfl;rfl;omega)
    |(apply VVal.subUN;rfl;rfl;omega)
    |(apply VVal.quoUN;rfl;rfl;omega)
    |(apply VVal.remUN;rfl;rfl;omega)
    |(apply VVal.quoUT;rfl;rfl;omega)
    |(apply VVal.remUT;rfl;rfl;omega)
    |(apply VVal.mulUN (a:=10);rfl;rfl;omega)
    |(apply VVal.and1;rfl;rfl;omega)
    |(apply VVal.and1U;rfl;rfl;omega)
    |(apply VVal.and1B;rfl;rfl;omega)
    |(apply VVal.andI;rfl;rfl;omega)
    |(apply VVal.andU;rfl;rfl;omega;omega)
    |(apply VVal.orU;rfl;rfl;omega;omega)
    |(apply VVal.andNotU;rfl;rfl;omega;omega)
    |(apply VVal.remI;rfl;rfl;omega;omega)
    |(apply VVal.quoI;rfl;rfl;omega;omega)
    |(apply VVal.int;rfl;rfl;rfl)
    |(apply VVal.indexN;rfl;rfl;rfl;omega;rfl)
    |(apply VVal.indexP;rfl;rfl;rfl;omega;omega;rfl)
    |(apply VVal.indexE;rfl;rfl;rfl;omega;omega;rfl)
    |(apply VVal.loadVL;rfl;rfl;omega;rfl)
    |(apply VVal.load;rfl;rfl)
    |(apply VVal.pick_true;rfl;rfl)
    |(apply VVal.pick_false;rfl;rfl)
    |(apply VVal.lenF;rfl;rfl)
    |(apply VVal.lenNil;rfl;rfl)
    |(apply VVal.lenV;rfl;rfl;rfl)
    |(apply VVal.fieldB;rfl;rfl;rfl)
    |(apply VVal.fieldF;rfl;rfl)
    |(apply VVal.box;rfl;trivial)
    |(apply VVal.alloc;rfl)
    |(apply VVal.storeB;rfl;rfl;rfl;trivial;rfl;rfl;exact lt_dec rfl;exact le_dec rfl)
    |(apply VVal.build;rfl;rfl;rfl;rfl;rfl)
    |(apply VVal.buildSlice;rfl;rfl;rfl;decide;rfl;rfl;rfl)
    |(apply VVal.lenSt;rfl;rfl)
    |(apply VVal.eqS;rfl;rfl)
    |(apply VVal.neS;rfl;rfl)
    |(apply VVal.indexStN;rfl;rfl;rfl;omega)
    |(apply VVal.indexSt;rfl;rfl;rfl;omega;omega)
    |(apply VVal.sliceSI;rfl;rfl;rfl;rfl;omega)
    |(apply VVal.sliceSto;rfl;rfl;rfl;omega)
    |(apply VVal.sliceSfrom;rfl;rfl;rfl;omega)
    |(apply VVal.convS;rfl;rfl;rfl)
    |(apply VVal.toBytes;rfl;rfl;rfl;rfl;rfl;rfl;omega)
    |(apply VVal.addS;rfl;rfl;(first|omega|(simp only [List.length_take,List.length_drop,List.length_append,List.length_singleton,List.length_cons,List.length_nil]<;>omega)))
    |(apply VVal.indexVN;rfl;rfl;rfl;rfl;omega)
    |(apply VVal.indexVE;rfl;rfl;rfl;rfl;omega;omega)
    |(apply VVal.neg;rfl;omega)
    |(apply VVal.neB;rfl;rfl;rfl)
    |(apply VVal.eqB;rfl;rfl;rfl)
    |(apply VVal.maxI;rfl;rfl)
    |(apply VVal.minI;rfl;rfl)
    |(apply VVal.not;rfl)
    |(apply VVal.extract;rfl;rfl)
    |(apply VVal.convI;rfl;rfl;rfl;rfl;omega)
    |(apply VVal.convU;rfl;rfl;rfl;rfl;omega)
    |(apply VVal.convB;rfl;rfl;rfl;rfl;omega)
    |(apply VVal.convInt;rfl;rfl;rfl;rfl)
    |(apply VVal.append1;rfl;rfl;rfl;rfl;rfl;rfl;rfl;rfl;(intro _ h;cases h);rfl;rfl;rfl;decide;decide;(first|omega|(simp only [List.length_take,List.length_drop,List.length_append,List.length_singleton,List.length_cons,List.length_nil]<;>omega)))
    |(apply VVal.appendL0;rfl;rfl;rfl;(first|rfl|omega|(simp only [List.length_take,List.length_drop,List.length_append,List.length_singleton,List.length_cons,List.length_nil]<;>omega));rfl;rfl;(intro _ h;cases h);rfl;rfl;rfl;decide;decide;(first|omega|(simp only [List.length_take,List.length_drop,List.length_append,List.length_singleton,List.length_cons,List.length_nil]<;>omega)))
    |(apply VVal.appendL;rfl;rfl;rfl;(first|rfl|omega|(simp only [List.length_take,List.length_drop,List.length_append,List.length_singleton,List.length_cons,List.length_nil]));(first|rfl|omega|(simp only [List.length_take,List.length_drop,List.length_append,List.length_singleton,List.length_cons,List.length_nil]<;>omega));rfl;rfl;(intro _ h;cases h);rfl;rfl;rfl;decide;decide;(first|omega|(simp only [List.length_take,List.length_drop,List.length_append,List.length_singleton,List.length_cons,List.length_nil]<;>omega)))
    |(apply VVal.shlOne;rfl;rfl;omega)
    |(apply VVal.shlOneU;rfl;rfl;omega)
    |(apply VVal.shrN;rfl;rfl;(simp only [IntKind.bits];omega))
    |(apply VVal.sliceTo;rfl;rfl;rfl;rfl;rfl;rfl;omega)
    |(apply VVal.sliceFrom;rfl;rfl;rfl;rfl;rfl;rfl;omega)
    |(apply VVal.sliceToI;rfl;rfl;rfl;rfl;rfl;rfl;omega)
    |(apply VVal.shr;rfl;rfl;omega)
    |(apply VVal.shl;rfl;rfl;omega)
    |(apply VWp.condSeq_true;rfl)
    |(apply VWp.condSeq_false;rfl)
    |(apply VWp.condSeq_dec;rfl)
    |(apply VWp.condSeq;rfl)
    |(apply VWp.cond_true;rfl)
    |(apply VWp.cond_false;rfl)
    |(apply VWp.cond_dec;rfl)
    |(apply VWp.cond;rfl)
    |(intro _;try (exfalso;omega)))
   all_goals first|(exfalso;omega)|(refine Done.ret rfl (.refl _) (by first|exact trivial|exact ⟨trivial,trivial,trivial⟩|exact ⟨trivial,trivial,trivial,trivial⟩) HCov.nil (Nat.zero_le _) (Nat.le_refl _) ⟨?_,rfl,rfl⟩;try rfl)
  ·have h4:(valR s n).2=0:=Classical.not_not.1 h3
   have hR:widR s t n=if wdN t n (valR s n).1<121 then (60-(wdN t n (valR s n).1:Int),true,0) else (0,false,0):=by unfold widR;rw [if_neg (Classical.not_not.2 h1),if_neg (Classical.not_not.2 h2),if_neg h3]
   obtain ⟨h5,h6,h7,h8⟩:=valR_ok h4
   rw [h7] at hv hR
   rw [hR]
   simp only
   generalize mea s n=own at *
   have hle:=wdN_le t n own
   have hmin:=fun i=>wdN_min (t:=t) (n:=n) (own:=own) (i:=i)
   have hat:=wdN_at (t:=t) (n:=n) (own:=own)
   generalize wdN t n own=N at *
   repeat' (first
    |apply VWp.assoc
    |apply VWp.rseq
    |apply VWp.rseqD
    |apply VWp.region
    |apply VWp.regionD
    |apply VWp.skipSeq
    |apply VWp.retSeq
    |apply VWp.exitSeq
    |apply VWp.blockSeq
    |apply QSeq.normal
    |apply QSeq.ret
    |apply QSeq.exit
    |(apply DoneI.ret;rfl)
    |(apply DoneI.normal;rfl)
    |apply QBlk.normal
    |apply QBlk.ret
    |apply QBlk.exit
    |(apply QBlk.out;decide)
    |apply QLoop.ret
    |apply QLoop.exit
    |apply VWp.ret
    |apply VWp.skip
    |apply VWp.exit
    |apply VWp.blockQ
    |apply VOps.nil
    |apply VOpsD.nil
    |apply VOps.one
    |(apply VOpsD.bar;decide +kernel)
    |apply VOpsD.quiet
    |(apply VOps.take;rfl;rfl)
    |(apply VOpsD.quietTake;rfl;rfl)
    |(apply VOps.drop;rfl;rfl;rfl)
    |(apply VOpsD.drop;rfl;rfl;rfl)
    |(apply VOps.guard;rfl;rfl)
    |(apply VOpsD.guard;rfl;rfl)
    |(apply VOps.dropU;rfl;rfl)
    |(apply VOpsD.dropU;rfl;rfl)
    |(apply VOps.guardB;rfl;rfl)
    |(apply VOpsD.guardB;rfl;rfl)
    |(apply VVal.fn;rfl;rfl;exact hv;intro _;rfl)
    |(apply VVal.assign;rfl)
    |(apply VVal.move;rfl)
    |(apply VVal.add64;rfl;rfl;omega)
    |(apply VVal.sub64;rfl;rfl;omega)
    |(apply VVal.mul64;rfl;rfl;omega)
    |(apply VVal.subBN (c:=48);rfl;rfl;omega)
    |(apply VVal.subB;rfl;rfl;omega)
    |(apply VVal.addB;rfl;rfl;omega)
    |(apply VVal.addUN;rfl;rfl;omega)
    |(apply VVal.mulUN;rfl;rfl;omega)
    |(apply VVal.subUN;rfl;rfl;omega)
    |(apply VVal.quoUN;rfl;rfl;omega)
    |(apply VVal.remUN;rfl;rfl;omega)
    |(apply VVal.quoUT;rfl;rfl;omega)
    |(apply VVal.remUT;rfl;rfl;omega)
    |(apply VVal.mulUN (a:=10);rfl;rfl;omega)
    |(apply VVal.and1;rfl;rfl;omega)
    |(apply VVal.and1U;rfl;rfl;omega)
    |(apply VVal.and1B;rfl;rfl;omega)
    |(apply VVal.andI;rfl;rfl;omega)
    |(apply VVal.andU;rfl;rfl;omega;omega)
    |(apply VVal.orU;rfl;rfl;omega;omega)
    |(apply VVal.andNotU;rfl;rfl;omega;omega)
    |(apply VVal.remI;rfl;rfl;omega;omega)
    |(apply VVal.quoI;rfl;rfl;omega;omega)
    |(apply VVal.int;rfl;rfl;rfl)
    |(apply VVal.indexN;rfl;rfl;rfl;omega;rfl)
    |(apply VVal.indexP;rfl;rfl;rfl;omega;omega;rfl)
    |(apply VVal.indexE;rfl;rfl;rfl;omega;omega;rfl)
    |(apply VVal.loadVL;rfl;rfl;omega;rfl)
    |(apply VVal.load;rfl;rfl)
    |(apply VVal.pick_true;rfl;rfl)
    |(apply VVal.pick_false;rfl;rfl)
    |(apply VVal.lenF;rfl;rfl)
    |(apply VVal.lenNil;rfl;rfl)
    |(apply VVal.lenV;rfl;rfl;rfl)
    |(apply VVal.fieldB;rfl;rfl;rfl)
    |(apply VVal.fieldF;rfl;rfl)
    |(apply VVal.box;rfl;trivial)
    |(apply VVal.alloc;rfl)
    |(apply VVal.storeB;rfl;rfl;rfl;trivial;rfl;rfl;exact lt_dec rfl;exact le_dec rfl)
    |(apply VVal.build;rfl;rfl;rfl;rfl;rfl)
    |(apply VVal.buildSlice;rfl;rfl;rfl;decide;rfl;rfl;rfl)
    |(apply VVal.lenSt;rfl;rfl)
    |(apply VVal.eqS;rfl;rfl)
    |(apply VVal.neS;rfl;rfl)
    |(apply VVal.indexStN;rfl;rfl;rfl;omega)
    |(apply VVal.indexSt;rfl;rfl;rfl;omega;omega)
    |(apply VVal.sliceSI;rfl;rfl;rfl;rfl;omega)
    |(apply VVal.sliceSto;rfl;rfl;rfl;omega)
    |(apply VVal.sliceSfrom;rfl;rfl;rfl;omega)
    |(apply VVal.convS;rfl;rfl;rfl)
    |(apply VVal.toBytes;rfl;rfl;rfl;rfl;rfl;rfl;omega)
    |(apply VVal.addS;rfl;rfl;(first|omega|(simp only [List.length_take,List.length_drop,List.length_append,List.length_singleton,List.length_cons,List.length_nil]<;>omega)))
    |(apply VVal.indexVN;rfl;rfl;rfl;rfl;omega)
    |(apply VVal.indexVE;rfl;rfl;rfl;rfl;omega;omega)
    |(apply VVal.neg;rfl;omega)
    |(apply VVal.neB;rfl;rfl;rfl)
    |(apply VVal.eqB;rfl;rfl;rfl)
    |(apply VVal.maxI;rfl;rfl)
    |(apply VVal.minI;rfl;rfl)
    |(apply VVal.not;rfl)
    |(apply VVal.extract;rfl;rfl)
    |(apply VVal.convI;rfl;rfl;rfl;rfl;omega)
    |(apply VVal.convU;rfl;rfl;rfl;rfl;omega)
    |(apply VVal.convB;rfl;rfl;rfl;rfl;omega)
    |(apply VVal.convInt;rfl;rfl;rfl;rfl)
    |(apply VVal.append1;rfl;rfl;rfl;rfl;rfl;rfl;rfl;rfl;(intro _ h;cases h);rfl;rfl;rfl;decide;decide;(first|omega|(simp only [List.length_take,List.length_drop,List.length_append,List.length_singleton,List.length_cons,List.length_nil]<;>omega)))
    |(apply VVal.appendL0;rfl;rfl;rfl;(first|rfl|omega|(simp only [List.length_take,List.length_drop,List.length_append,List.length_singleton,List.length_cons,List.length_nil]<;>omega));rfl;rfl;(intro _ h;cases h);rfl;rfl;rfl;decide;decide;(first|omega|(simp only [List.length_take,List.length_drop,List.length_append,List.length_singleton,List.length_cons,List.length_nil]<;>omega)))
    |(apply VVal.appendL;rfl;rfl;rfl;(first|rfl|omega|(simp only [List.length_take,List.length_drop,List.length_append,List.length_singleton,List.length_cons,List.length_nil]));(first|rfl|omega|(simp only [List.length_take,List.length_drop,List.length_append,List.length_singleton,List.length_cons,List.length_nil]<;>omega));rfl;rfl;(intro _ h;cases h);rfl;rfl;rfl;decide;decide;(first|omega|(simp only [List.length_take,List.length_drop,List.length_append,List.length_singleton,List.length_cons,List.length_nil]<;>omega)))
    |(apply VVal.shlOne;rfl;rfl;omega)
    |(apply VVal.shlOneU;rfl;rfl;omega)
    |(apply VVal.shrN;rfl;rfl;(simp only [IntKind.bits];omega))
    |(apply VVal.sliceTo;rfl;rfl;rfl;rfl;rfl;rfl;omega)
    |(apply VVal.sliceFrom;rfl;rfl;rfl;rfl;rfl;rfl;omega)
    |(apply VVal.sliceToI;rfl;rfl;rfl;rfl;rfl;rfl;omega)
    |(apply VVal.shr;rfl;rfl;omega)
    |(apply VVal.shl;rfl;rfl;omega)
    |(apply VWp.condSeq_true;rfl)
    |(apply VWp.condSeq_false;rfl)
    |(apply VWp.condSeq_dec;rfl)
    |(apply VWp.condSeq;rfl)
    |(apply VWp.cond_true;rfl)
    |(apply VWp.cond_false;rfl)
    |(apply VWp.cond_dec;rfl)
    |(apply VWp.cond;rfl)
    |(intro _;try (exfalso;omega)))
   all_goals try (exfalso;omega)
   refine VWp.loopQ (fun i:Nat=>[(2,.p (.int .i64 n)),(4,.ref 1 0),(12,.p (.int .i64 own)),(13,.p (.int .i64 (60-(i:Int))))]) (fun _=>[(1,.box 23 [.p (.int .i64 t.base),.p (.int .i64 t.halv),.p (.int .i64 t.add)])]) 2 (fun i=>i≤N) (fun i=>121-i) 0 (by omega) (by omega) ⟨by omega,?_,?_⟩ ?_
   ·repeat (first|exact LCov.nil|refine LCov.same trivial rfl ?_|refine LCov.same (lt_dec rfl) rfl ?_|refine LCov.same ⟨trivial,lt_dec rfl,lt_dec rfl,lt_dec rfl,trivial⟩ rfl ?_|refine LCov.same ⟨trivial,lt_dec rfl,lt_dec rfl,trivial⟩ rfl ?_|refine LCov.same ⟨trivial,trivial⟩ rfl ?_|refine LCov.cons trivial rfl (.of_eq (lst_len (by simp<;>omega))) ?_)
   ·repeat (first|exact HCov.nil|(refine HCov.cons (lt_dec rfl) ?_ rfl ?_ ?_;(first|exact trivial|exact PVs.under_pure _ _|(simp [HB.under,PVs.under,PV.under]));(first|exact HLe.refl _|exact HLe.vec (FLes.refl _) (by simp))))
   intro i hi
   by_cases h9:i=121
   ·subst h9
    have hN:¬ N<121:=by omega
    rw [if_neg hN]
    repeat' (first
     |apply VWp.assoc
     |apply VWp.rseq
     |apply VWp.rseqD
     |apply VWp.region
     |apply VWp.regionD
     |apply VWp.skipSeq
     |apply VWp.retSeq
     |apply VWp.exitSeq
     |apply VWp.blockSeq
     |apply QSeq.normal
     |apply QSeq.ret
     |apply QSeq.exit
     |(apply DoneI.ret;rfl)
     |(apply DoneI.normal;rfl)
     |apply QBlk.normal
     |apply QBlk.ret
     |apply QBlk.exit
     |(apply QBlk.out;decide)
     |apply QLoop.ret
     |apply QLoop.exit
     |apply VWp.ret
     |apply VWp.skip
     |apply VWp.exit
     |apply VWp.blockQ
     |apply VOps.nil
     |apply VOpsD.nil
     |apply VOps.one
     |(apply VOpsD.bar;decide +kernel)
     |apply VOpsD.quiet
     |(apply VOps.take;rfl;rfl)
     |(apply VOpsD.quietTake;rfl;rfl)
     |(apply VOps.drop;rfl;rfl;rfl)
     |(apply VOpsD.drop;rfl;rfl;rfl)
     |(apply VOps.guard;rfl;rfl)
     |(apply VOpsD.guard;rfl;rfl)
     |(apply VOps.dropU;rfl;rfl)
     |(apply VOpsD.dropU;rfl;rfl)
     |(apply VOps.guardB;rfl;rfl)
     |(apply VOpsD.guardB;rfl;rfl)
     |(apply VVal.assign;rfl)
     |(apply VVal.move;rfl)
     |(apply VVal.add64;rfl;rfl;omega)
     |(apply VVal.sub64;rfl;rfl;omega)
     |(apply VVal.mul64;rfl;rfl;omega)
     |(apply VVal.subBN (c:=48);rfl;rfl;omega)
     |(apply VVal.subB;rfl;rfl;omega)
     |(apply VVal.addB;rfl;rfl;omega)
     |(apply VVal.addUN;rfl;rfl;omega)
     |(apply VVal.mulUN;rfl;rfl;omega)
     |(apply VVal.subUN;rfl;rfl;omega)
     |(apply VVal.quoUN;rfl;rfl;omega)
     |(apply VVal.remUN;rfl;rfl;omega)
     |(apply VVal.quoUT;rfl;rfl;omega)
     |(apply VVal.remUT;rfl;rfl;omega)
     |(apply VVal.mulUN (a:=10);rfl;rfl;omega)
     |(apply VVal.and1;rfl;rfl;omega)
     |(apply VVal.and1U;rfl;rfl;omega)
     |(apply VVal.and1B;rfl;rfl;omega)
     |(apply VVal.andI;rfl;rfl;omega)
     |(apply VVal.andU;rfl;rfl;omega;omega)
     |(apply VVal.orU;rfl;rfl;omega;omega)
     |(apply VVal.andNotU;rfl;rfl;omega;omega)
     |(apply VVal.remI;rfl;rfl;omega;omega)
     |(apply VVal.quoI;rfl;rfl;omega;omega)
     |(apply VVal.int;rfl;rfl;rfl)
     |(apply VVal.indexN;rfl;rfl;rfl;omega;rfl)
     |(apply VVal.indexP;rfl;rfl;rfl;omega;omega;rfl)
     |(apply VVal.indexE;rfl;rfl;rfl;omega;omega;rfl)
     |(apply VVal.loadVL;rfl;rfl;omega;rfl)
     |(apply VVal.load;rfl;rfl)
     |(apply VVal.pick_true;rfl;rfl)
     |(apply VVal.pick_false;rfl;rfl)
     |(apply VVal.lenF;rfl;rfl)
     |(apply VVal.lenNil;rfl;rfl)
     |(apply VVal.lenV;rfl;rfl;rfl)
     |(apply VVal.fieldB;rfl;rfl;rfl)
     |(apply VVal.fieldF;rfl;rfl)
     |(apply VVal.box;rfl;trivial)
     |(apply VVal.alloc;rfl)
     |(apply VVal.storeB;rfl;rfl;rfl;trivial;rfl;rfl;exact lt_dec rfl;exact le_dec rfl)
     |(apply VVal.build;rfl;rfl;rfl;rfl;rfl)
     |(apply VVal.buildSlice;rfl;rfl;rfl;decide;rfl;rfl;rfl)
     |(apply VVal.lenSt;rfl;rfl)
     |(apply VVal.eqS;rfl;rfl)
     |(apply VVal.neS;rfl;rfl)
     |(apply VVal.indexStN;rfl;rfl;rfl;omega)
     |(apply VVal.indexSt;rfl;rfl;rfl;omega;omega)
     |(apply VVal.sliceSI;rfl;rfl;rfl;rfl;omega)
     |(apply VVal.sliceSto;rfl;rfl;rfl;omega)
     |(apply VVal.sliceSfrom;rfl;rfl;rfl;omega)
     |(apply VVal.convS;rfl;rfl;rfl)
     |(apply VVal.toBytes;rfl;rfl;rfl;rfl;rfl;rfl;omega)
     |(apply VVal.addS;rfl;rfl;(first|omega|(simp only [List.length_take,List.length_drop,List.length_append,List.length_singleton,List.length_cons,List.length_nil]<;>omega)))
     |(apply VVal.indexVN;rfl;rfl;rfl;rfl;omega)
     |(apply VVal.indexVE;rfl;rfl;rfl;rfl;omega;omega)
     |(apply VVal.neg;rfl;omega)
     |(apply VVal.neB;rfl;rfl;rfl)
     |(apply VVal.eqB;rfl;rfl;rfl)
     |(apply VVal.maxI;rfl;rfl)
     |(apply VVal.minI;rfl;rfl)
     |(apply VVal.not;rfl)
     |(apply VVal.extract;rfl;rfl)
     |(apply VVal.convI;rfl;rfl;rfl;rfl;omega)
     |(apply VVal.convU;rfl;rfl;rfl;rfl;omega)
     |(apply VVal.convB;rfl;rfl;rfl;rfl;omega)
     |(apply VVal.convInt;rfl;rfl;rfl;rfl)
     |(apply VVal.append1;rfl;rfl;rfl;rfl;rfl;rfl;rfl;rfl;(intro _ h;cases h);rfl;rfl;rfl;decide;decide;(first|omega|(simp only [List.length_take,List.length_drop,List.length_append,List.length_singleton,List.length_cons,List.length_nil]<;>omega)))
     |(apply VVal.appendL0;rfl;rfl;rfl;(first|rfl|omega|(simp only [List.length_take,List.length_drop,List.length_append,List.length_singleton,List.length_cons,List.length_nil]<;>omega));rfl;rfl;(intro _ h;cases h);rfl;rfl;rfl;decide;decide;(first|omega|(simp only [List.length_take,List.length_drop,List.length_append,List.length_singleton,List.length_cons,List.length_nil]<;>omega)))
     |(apply VVal.appendL;rfl;rfl;rfl;(first|rfl|omega|(simp only [List.length_take,List.length_drop,List.length_append,List.length_singleton,List.length_cons,List.length_nil]));(first|rfl|omega|(simp only [List.length_take,List.length_drop,List.length_append,List.length_singleton,List.length_cons,List.length_nil]<;>omega));rfl;rfl;(intro _ h;cases h);rfl;rfl;rfl;decide;decide;(first|omega|(simp only [List.length_take,List.length_drop,List.length_append,List.length_singleton,List.length_cons,List.length_nil]<;>omega)))
     |(apply VVal.shlOne;rfl;rfl;omega)
     |(apply VVal.shlOneU;rfl;rfl;omega)
     |(apply VVal.shrN;rfl;rfl;(simp only [IntKind.bits];omega))
     |(apply VVal.sliceTo;rfl;rfl;rfl;rfl;rfl;rfl;omega)
     |(apply VVal.sliceFrom;rfl;rfl;rfl;rfl;rfl;rfl;omega)
     |(apply VVal.sliceToI;rfl;rfl;rfl;rfl;rfl;rfl;omega)
     |(apply VVal.shr;rfl;rfl;omega)
     |(apply VVal.shl;rfl;rfl;omega)
     |(apply VWp.condSeq_true;rfl)
     |(apply VWp.condSeq_false;rfl)
     |(apply VWp.condSeq_dec;rfl)
     |(apply VWp.condSeq;rfl)
     |(apply VWp.cond_true;rfl)
     |(apply VWp.cond_false;rfl)
     |(apply VWp.cond_dec;rfl)
     |(apply VWp.cond;rfl)
     |(intro _;try (exfalso;omega)))
    all_goals first|(exfalso;omega)|(refine Done.ret rfl (.refl _) (by first|exact trivial|exact ⟨trivial,trivial,trivial⟩|exact ⟨trivial,trivial,trivial,trivial⟩) HCov.nil (Nat.zero_le _) (Nat.le_refl _) ⟨?_,rfl,rfl⟩;try rfl)
   ·have e:(60-((i+1:Nat):Int))=60-(i:Int)-1:=by omega
    have hnext:¬ wdP t n own i→i+1≤N:=fun h=>by
     rcases Nat.lt_or_ge i N with h'|h'
     ·omega
     ·have:N=i:=by omega
      subst this
      exact absurd (hat (by omega)) h
    have hwi:=swithin_spec (n-(60-(i:Int)))
    by_cases h10:wOk (n-(60-(i:Int)))
    ·rw [show win (n-(60-(i:Int)))=0 from if_pos h10] at hwi
     have hva:=svalue_spec t (n-(60-(i:Int))) h2 h10
     repeat' (first
      |apply VWp.assoc
      |apply VWp.rseq
      |apply VWp.rseqD
      |apply VWp.region
      |apply VWp.regionD
      |apply VWp.skipSeq
      |apply VWp.retSeq
      |apply VWp.exitSeq
      |apply VWp.blockSeq
      |apply QSeq.normal
      |apply QSeq.ret
      |apply QSeq.exit
      |(apply DoneI.ret;rfl)
      |(apply DoneI.normal;rfl)
      |apply QBlk.normal
      |apply QBlk.ret
      |apply QBlk.exit
      |(apply QBlk.out;decide)
      |apply QLoop.ret
      |apply QLoop.exit
      |apply VWp.ret
      |apply VWp.skip
      |apply VWp.exit
      |apply VWp.blockQ
      |apply VOps.nil
      |apply VOpsD.nil
      |apply VOps.one
      |(apply VOpsD.bar;decide +kernel)
      |apply VOpsD.quiet
      |(apply VOps.take;rfl;rfl)
      |(apply VOpsD.quietTake;rfl;rfl)
      |(apply VOps.drop;rfl;rfl;rfl)
      |(apply VOpsD.drop;rfl;rfl;rfl)
      |(apply VOps.guard;rfl;rfl)
      |(apply VOpsD.guard;rfl;rfl)
      |(apply VOps.dropU;rfl;rfl)
      |(apply VOpsD.dropU;rfl;rfl)
      |(apply VOps.guardB;rfl;rfl)
      |(apply VOpsD.guardB;rfl;rfl)
      |(apply VVal.fn;rfl;rfl;exact hwi;intro _;rfl)
      |(apply VVal.fn;rfl;rfl;exact hva;intro _;rfl)
      |(apply VVal.assign;rfl)
      |(apply VVal.move;rfl)
      |(apply VVal.add64;rfl;rfl;omega)
      |(apply VVal.sub64;rfl;rfl;omega)
      |(apply VVal.mul64;rfl;rfl;omega)
      |(apply VVal.subBN (c:=48);rfl;rfl;omega)
      |(apply VVal.subB;rfl;rfl;omega)
      |(apply VVal.addB;rfl;rfl;omega)
      |(apply VVal.addUN;rfl;rfl;omega)
      |(apply VVal.mulUN;rfl;rfl;omega)
      |(apply VVal.subUN;rfl;rfl;omega)
      |(apply VVal.quoUN;rfl;rfl;omega)
      |(apply VVal.remUN;rfl;rfl;omega)
      |(apply VVal.quoUT;rfl;rfl;omega)
      |(apply VVal.remUT;rfl;rfl;omega)
      |(apply VVal.mulUN (a:=10);rfl;rfl;omega)
      |(apply VVal.and1;rfl;rfl;omega)
      |(apply VVal.and1U;rfl;rfl;omega)
      |(apply VVal.and1B;rfl;rfl;omega)
      |(apply VVal.andI;rfl;rfl;omega)
      |(apply VVal.andU;rfl;rfl;omega;omega)
      |(apply VVal.orU;rfl;rfl;omega;omega)
      |(apply VVal.andNotU;rfl;rfl;omega;omega)
      |(apply VVal.remI;rfl;rfl;omega;omega)
      |(apply VVal.quoI;rfl;rfl;omega;omega)
      |(apply VVal.int;rfl;rfl;rfl)
      |(apply VVal.indexN;rfl;rfl;rfl;omega;rfl)
      |(apply VVal.indexP;rfl;rfl;rfl;omega;omega;rfl)
      |(apply VVal.indexE;rfl;rfl;rfl;omega;omega;rfl)
      |(apply VVal.loadVL;rfl;rfl;omega;rfl)
      |(apply VVal.load;rfl;rfl)
      |(apply VVal.pick_true;rfl;rfl)
      |(apply VVal.pick_false;rfl;rfl)
      |(apply VVal.lenF;rfl;rfl)
      |(apply VVal.lenNil;rfl;rfl)
      |(apply VVal.lenV;rfl;rfl;rfl)
      |(apply VVal.fieldB;rfl;rfl;rfl)
      |(apply VVal.fieldF;rfl;rfl)
      |(apply VVal.box;rfl;trivial)
      |(apply VVal.alloc;rfl)
      |(apply VVal.storeB;rfl;rfl;rfl;trivial;rfl;rfl;exact lt_dec rfl;exact le_dec rfl)
      |(apply VVal.build;rfl;rfl;rfl;rfl;rfl)
      |(apply VVal.buildSlice;rfl;rfl;rfl;decide;rfl;rfl;rfl)
      |(apply VVal.lenSt;rfl;rfl)
      |(apply VVal.eqS;rfl;rfl)
      |(apply VVal.neS;rfl;rfl)
      |(apply VVal.indexStN;rfl;rfl;rfl;omega)
      |(apply VVal.indexSt;rfl;rfl;rfl;omega;omega)
      |(apply VVal.sliceSI;rfl;rfl;rfl;rfl;omega)
      |(apply VVal.sliceSto;rfl;rfl;rfl;omega)
      |(apply VVal.sliceSfrom;rfl;rfl;rfl;omega)
      |(apply VVal.convS;rfl;rfl;rfl)
      |(apply VVal.toBytes;rfl;rfl;rfl;rfl;rfl;rfl;omega)
      |(apply VVal.addS;rfl;rfl;(first|omega|(simp only [List.length_take,List.length_drop,List.length_append,List.length_singleton,List.length_cons,List.length_nil]<;>omega)))
      |(apply VVal.indexVN;rfl;rfl;rfl;rfl;omega)
      |(apply VVal.indexVE;rfl;rfl;rfl;rfl;omega;omega)
      |(apply VVal.neg;rfl;omega)
      |(apply VVal.neB;rfl;rfl;rfl)
      |(apply VVal.eqB;rfl;rfl;rfl)
      |(apply VVal.maxI;rfl;rfl)
      |(apply VVal.minI;rfl;rfl)
      |(apply VVal.not;rfl)
      |(apply VVal.extract;rfl;rfl)
      |(apply VVal.convI;rfl;rfl;rfl;rfl;omega)
      |(apply VVal.convU;rfl;rfl;rfl;rfl;omega)
      |(apply VVal.convB;rfl;rfl;rfl;rfl;omega)
      |(apply VVal.convInt;rfl;rfl;rfl;rfl)
      |(apply VVal.append1;rfl;rfl;rfl;rfl;rfl;rfl;rfl;rfl;(intro _ h;cases h);rfl;rfl;rfl;decide;decide;(first|omega|(simp only [List.length_take,List.length_drop,List.length_append,List.length_singleton,List.length_cons,List.length_nil]<;>omega)))
      |(apply VVal.appendL0;rfl;rfl;rfl;(first|rfl|omega|(simp only [List.length_take,List.length_drop,List.length_append,List.length_singleton,List.length_cons,List.length_nil]<;>omega));rfl;rfl;(intro _ h;cases h);rfl;rfl;rfl;decide;decide;(first|omega|(simp only [List.length_take,List.length_drop,List.length_append,List.length_singleton,List.length_cons,List.length_nil]<;>omega)))
      |(apply VVal.appendL;rfl;rfl;rfl;(first|rfl|omega|(simp only [List.length_take,List.length_drop,List.length_append,List.length_singleton,List.length_cons,List.length_nil]));(first|rfl|omega|(simp only [List.length_take,List.length_drop,List.length_append,List.length_singleton,List.length_cons,List.length_nil]<;>omega));rfl;rfl;(intro _ h;cases h);rfl;rfl;rfl;decide;decide;(first|omega|(simp only [List.length_take,List.length_drop,List.length_append,List.length_singleton,List.length_cons,List.length_nil]<;>omega)))
      |(apply VVal.shlOne;rfl;rfl;omega)
      |(apply VVal.shlOneU;rfl;rfl;omega)
      |(apply VVal.shrN;rfl;rfl;(simp only [IntKind.bits];omega))
      |(apply VVal.sliceTo;rfl;rfl;rfl;rfl;rfl;rfl;omega)
      |(apply VVal.sliceFrom;rfl;rfl;rfl;rfl;rfl;rfl;omega)
      |(apply VVal.sliceToI;rfl;rfl;rfl;rfl;rfl;rfl;omega)
      |(apply VVal.shr;rfl;rfl;omega)
      |(apply VVal.shl;rfl;rfl;omega)
      |(apply VWp.condSeq_true;rfl)
      |(apply VWp.condSeq_false;rfl)
      |(apply VWp.condSeq_dec;rfl)
      |(apply VWp.condSeq;rfl)
      |(apply VWp.cond_true;rfl)
      |(apply VWp.cond_false;rfl)
      |(apply VWp.cond_dec;rfl)
      |(apply VWp.cond;rfl)
      |(intro _;try (exfalso;omega)))
     ·rename_i a1 a2 a3
      have hN:N=i:=by
       rcases Nat.lt_or_ge i N with h'|h'
       ·exact absurd ⟨h10,a3⟩ (hmin i h')
       ·omega
      subst hN
      rw [if_pos (show N<121 by omega)]
      (refine Done.ret rfl (.refl _) (by first|exact trivial|exact ⟨trivial,trivial,trivial⟩|exact ⟨trivial,trivial,trivial,trivial⟩) HCov.nil (Nat.zero_le _) (Nat.le_refl _) ⟨?_,rfl,rfl⟩;try rfl)
     ·rename_i a1 a2 a3
      have hn1:=hnext fun h=>a3 h.2
      refine QLoop.normal ⟨i+1,hn1,by omega,⟨by omega,?_,?_⟩⟩
      ·rw [e];repeat (first|exact LCov.nil|refine LCov.same trivial rfl ?_|refine LCov.same (lt_dec rfl) rfl ?_|refine LCov.same ⟨trivial,lt_dec rfl,lt_dec rfl,lt_dec rfl,trivial⟩ rfl ?_|refine LCov.same ⟨trivial,lt_dec rfl,lt_dec rfl,trivial⟩ rfl ?_|refine LCov.same ⟨trivial,trivial⟩ rfl ?_|refine LCov.cons trivial rfl (.of_eq (lst_len (by simp<;>omega))) ?_)
      ·repeat (first|exact HCov.nil|(refine HCov.cons (lt_dec rfl) ?_ rfl ?_ ?_;(first|exact trivial|exact PVs.under_pure _ _|(simp [HB.under,PVs.under,PV.under]));(first|exact HLe.refl _|exact HLe.vec (FLes.refl _) (by simp))))
     ·rename_i a1 a2
      have hn1:=hnext fun h=>a2 (by have:=h.2;omega)
      refine QLoop.normal ⟨i+1,hn1,by omega,⟨by omega,?_,?_⟩⟩
      ·rw [e];repeat (first|exact LCov.nil|refine LCov.same trivial rfl ?_|refine LCov.same (lt_dec rfl) rfl ?_|refine LCov.same ⟨trivial,lt_dec rfl,lt_dec rfl,lt_dec rfl,trivial⟩ rfl ?_|refine LCov.same ⟨trivial,lt_dec rfl,lt_dec rfl,trivial⟩ rfl ?_|refine LCov.same ⟨trivial,trivial⟩ rfl ?_|refine LCov.cons trivial rfl (.of_eq (lst_len (by simp<;>omega))) ?_)
      ·repeat (first|exact HCov.nil|(refine HCov.cons (lt_dec rfl) ?_ rfl ?_ ?_;(first|exact trivial|exact PVs.under_pure _ _|(simp [HB.under,PVs.under,PV.under]));(first|exact HLe.refl _|exact HLe.vec (FLes.refl _) (by simp))))
    ·rw [show win (n-(60-(i:Int)))=3 from if_neg h10] at hwi
     repeat' (first
      |apply VWp.assoc
      |apply VWp.rseq
      |apply VWp.rseqD
      |apply VWp.region
      |apply VWp.regionD
      |apply VWp.skipSeq
      |apply VWp.retSeq
      |apply VWp.exitSeq
      |apply VWp.blockSeq
      |apply QSeq.normal
      |apply QSeq.ret
      |apply QSeq.exit
      |(apply DoneI.ret;rfl)
      |(apply DoneI.normal;rfl)
      |apply QBlk.normal
      |apply QBlk.ret
      |apply QBlk.exit
      |(apply QBlk.out;decide)
      |apply QLoop.ret
      |apply QLoop.exit
      |apply VWp.ret
      |apply VWp.skip
      |apply VWp.exit
      |apply VWp.blockQ
      |apply VOps.nil
      |apply VOpsD.nil
      |apply VOps.one
      |(apply VOpsD.bar;decide +kernel)
      |apply VOpsD.quiet
      |(apply VOps.take;rfl;rfl)
      |(apply VOpsD.quietTake;rfl;rfl)
      |(apply VOps.drop;rfl;rfl;rfl)
      |(apply VOpsD.drop;rfl;rfl;rfl)
      |(apply VOps.guard;rfl;rfl)
      |(apply VOpsD.guard;rfl;rfl)
      |(apply VOps.dropU;rfl;rfl)
      |(apply VOpsD.dropU;rfl;rfl)
      |(apply VOps.guardB;rfl;rfl)
      |(apply VOpsD.guardB;rfl;rfl)
      |(apply VVal.fn;rfl;rfl;exact hwi;intro _;rfl)
      |(apply VVal.assign;rfl)
      |(apply VVal.move;rfl)
      |(apply VVal.add64;rfl;rfl;omega)
      |(apply VVal.sub64;rfl;rfl;omega)
      |(apply VVal.mul64;rfl;rfl;omega)
      |(apply VVal.subBN (c:=48);rfl;rfl;omega)
      |(apply VVal.subB;rfl;rfl;omega)
      |(apply VVal.addB;rfl;rfl;omega)
      |(apply VVal.addUN;rfl;rfl;omega)
      |(apply VVal.mulUN;rfl;rfl;omega)
      |(apply VVal.subUN;rfl;rfl;omega)
      |(apply VVal.quoUN;rfl;rfl;omega)
      |(apply VVal.remUN;rfl;rfl;omega)
      |(apply VVal.quoUT;rfl;rfl;omega)
      |(apply VVal.remUT;rfl;rfl;omega)
      |(apply VVal.mulUN (a:=10);rfl;rfl;omega)
      |(apply VVal.and1;rfl;rfl;omega)
      |(apply VVal.and1U;rfl;rfl;omega)
      |(apply VVal.and1B;rfl;rfl;omega)
      |(apply VVal.andI;rfl;rfl;omega)
      |(apply VVal.andU;rfl;rfl;omega;omega)
      |(apply VVal.orU;rfl;rfl;omega;omega)
      |(apply VVal.andNotU;rfl;rfl;omega;omega)
      |(apply VVal.remI;rfl;rfl;omega;omega)
      |(apply VVal.quoI;rfl;rfl;omega;omega)
      |(apply VVal.int;rfl;rfl;rfl)
      |(apply VVal.indexN;rfl;rfl;rfl;omega;rfl)
      |(apply VVal.indexP;rfl;rfl;rfl;omega;omega;rfl)
      |(apply VVal.indexE;rfl;rfl;rfl;omega;omega;rfl)
      |(apply VVal.loadVL;rfl;rfl;omega;rfl)
      |(apply VVal.load;rfl;rfl)
      |(apply VVal.pick_true;rfl;rfl)
      |(apply VVal.pick_false;rfl;rfl)
      |(apply VVal.lenF;rfl;rfl)
      |(apply VVal.lenNil;rfl;rfl)
      |(apply VVal.lenV;rfl;rfl;rfl)
      |(apply VVal.fieldB;rfl;rfl;rfl)
      |(apply VVal.fieldF;rfl;rfl)
      |(apply VVal.box;rfl;trivial)
      |(apply VVal.alloc;rfl)
      |(apply VVal.storeB;rfl;rfl;rfl;trivial;rfl;rfl;exact lt_dec rfl;exact le_dec rfl)
      |(apply VVal.build;rfl;rfl;rfl;rfl;rfl)
      |(apply VVal.buildSlice;rfl;rfl;rfl;decide;rfl;rfl;rfl)
      |(apply VVal.lenSt;rfl;rfl)
      |(apply VVal.eqS;rfl;rfl)
      |(apply VVal.neS;rfl;rfl)
      |(apply VVal.indexStN;rfl;rfl;rfl;omega)
      |(apply VVal.indexSt;rfl;rfl;rfl;omega;omega)
      |(apply VVal.sliceSI;rfl;rfl;rfl;rfl;omega)
      |(apply VVal.sliceSto;rfl;rfl;rfl;omega)
      |(apply VVal.sliceSfrom;rfl;rfl;rfl;omega)
      |(apply VVal.convS;rfl;rfl;rfl)
      |(apply VVal.toBytes;rfl;rfl;rfl;rfl;rfl;rfl;omega)
      |(apply VVal.addS;rfl;rfl;(first|omega|(simp only [List.length_take,List.length_drop,List.length_append,List.length_singleton,List.length_cons,List.length_nil]<;>omega)))
      |(apply VVal.indexVN;rfl;rfl;rfl;rfl;omega)
      |(apply VVal.indexVE;rfl;rfl;rfl;rfl;omega;omega)
      |(apply VVal.neg;rfl;omega)
      |(apply VVal.neB;rfl;rfl;rfl)
      |(apply VVal.eqB;rfl;rfl;rfl)
      |(apply VVal.maxI;rfl;rfl)
      |(apply VVal.minI;rfl;rfl)
      |(apply VVal.not;rfl)
      |(apply VVal.extract;rfl;rfl)
      |(apply VVal.convI;rfl;rfl;rfl;rfl;omega)
      |(apply VVal.convU;rfl;rfl;rfl;rfl;omega)
      |(apply VVal.convB;rfl;rfl;rfl;rfl;omega)
      |(apply VVal.convInt;rfl;rfl;rfl;rfl)
      |(apply VVal.append1;rfl;rfl;rfl;rfl;rfl;rfl;rfl;rfl;(intro _ h;cases h);rfl;rfl;rfl;decide;decide;(first|omega|(simp only [List.length_take,List.length_drop,List.length_append,List.length_singleton,List.length_cons,List.length_nil]<;>omega)))
      |(apply VVal.appendL0;rfl;rfl;rfl;(first|rfl|omega|(simp only [List.length_take,List.length_drop,List.length_append,List.length_singleton,List.length_cons,List.length_nil]<;>omega));rfl;rfl;(intro _ h;cases h);rfl;rfl;rfl;decide;decide;(first|omega|(simp only [List.length_take,List.length_drop,List.length_append,List.length_singleton,List.length_cons,List.length_nil]<;>omega)))
      |(apply VVal.appendL;rfl;rfl;rfl;(first|rfl|omega|(simp only [List.length_take,List.length_drop,List.length_append,List.length_singleton,List.length_cons,List.length_nil]));(first|rfl|omega|(simp only [List.length_take,List.length_drop,List.length_append,List.length_singleton,List.length_cons,List.length_nil]<;>omega));rfl;rfl;(intro _ h;cases h);rfl;rfl;rfl;decide;decide;(first|omega|(simp only [List.length_take,List.length_drop,List.length_append,List.length_singleton,List.length_cons,List.length_nil]<;>omega)))
      |(apply VVal.shlOne;rfl;rfl;omega)
      |(apply VVal.shlOneU;rfl;rfl;omega)
      |(apply VVal.shrN;rfl;rfl;(simp only [IntKind.bits];omega))
      |(apply VVal.sliceTo;rfl;rfl;rfl;rfl;rfl;rfl;omega)
      |(apply VVal.sliceFrom;rfl;rfl;rfl;rfl;rfl;rfl;omega)
      |(apply VVal.sliceToI;rfl;rfl;rfl;rfl;rfl;rfl;omega)
      |(apply VVal.shr;rfl;rfl;omega)
      |(apply VVal.shl;rfl;rfl;omega)
      |(apply VWp.condSeq_true;rfl)
      |(apply VWp.condSeq_false;rfl)
      |(apply VWp.condSeq_dec;rfl)
      |(apply VWp.condSeq;rfl)
      |(apply VWp.cond_true;rfl)
      |(apply VWp.cond_false;rfl)
      |(apply VWp.cond_dec;rfl)
      |(apply VWp.cond;rfl)
      |(intro _;try (exfalso;omega)))
     have hn1:=hnext fun h=>h10 h.1
     refine QLoop.normal ⟨i+1,hn1,by omega,⟨by omega,?_,?_⟩⟩
     ·rw [e];repeat (first|exact LCov.nil|refine LCov.same trivial rfl ?_|refine LCov.same (lt_dec rfl) rfl ?_|refine LCov.same ⟨trivial,lt_dec rfl,lt_dec rfl,lt_dec rfl,trivial⟩ rfl ?_|refine LCov.same ⟨trivial,lt_dec rfl,lt_dec rfl,trivial⟩ rfl ?_|refine LCov.same ⟨trivial,trivial⟩ rfl ?_|refine LCov.cons trivial rfl (.of_eq (lst_len (by simp<;>omega))) ?_)
     ·repeat (first|exact HCov.nil|(refine HCov.cons (lt_dec rfl) ?_ rfl ?_ ?_;(first|exact trivial|exact PVs.under_pure _ _|(simp [HB.under,PVs.under,PV.under]));(first|exact HLe.refl _|exact HLe.vec (FLes.refl _) (by simp))))
end Go.Proofs.YtemfebbakfhknaaDoor
