/-
  The table of measures: scaling.Table. Conditions: in each statement.
-/
import Derived.Test.YtemfebbakfhknaaDoorScaT
import Derived.Test.YtemfebbakfhknaaDoorVm31
import Derived.Test.YtemfebbakfhknaaDoorVm29
set_option linter.unusedSimpArgs false
set_option linter.unusedVariables false
namespace Go.Proofs.YtemfebbakfhknaaDoor
open Go Go.Am Go.Vm Go.Sca
attribute [local irreducible] VVal VOps VOpsD VWp VCalls VFun VFunV QSeq QBlk QLoop Vm.Done DoneV DoneI
set_option maxRecDepth 100000 in
theorem inl1_meas {L:Vm.Frame} {H:Vm.Heap} {nx:Nat} {Q:PV→Vm.Heap→Nat→Prop} {dst:Option Tmp} {ty:TypeId} {pos:String} {af:Array Edge} {gd:Option (Nat×Bool)} {fo:Operand} {args:Array Operand} {aT:Array TypeId} {fs cs xs:List PV} {c:Code}
 (hf:vev env1.Γ L fo=some (.clo 37 fs cs)) (ha:evs env1.Γ L args.toList=some xs) (hb:Tryd.f37.body=some c) (hn:(fs++xs++cs).length≤Tryd.f37.ntmps)
 (h:VWp env1 nx c (argFrame 0 (fs++xs++cs)) H nx (DoneI env1.P Tryd.f37.results.toList Q)):VVal env1 true ⟨dst,.call { callee:=.value fo,args:=args,argTypes:=aT },ty,pos,af,gd⟩ L H nx Q:=by
 have h0:(match Tryd.f37.body with|some c=>fnOk env1.G Tryd.f37 c|none=>false)=true:=by kernel_rfl
 rw [hb] at h0
 exact VVal.inline rfl hf ha (env1_none (by decide)) Tryd.func37 hb h0 hn h
set_option maxRecDepth 100000 in
theorem tableErr_spec {s:Scl} {a b er:Int} (hc:VFun env 26 [.agg (Enc.enc s)] (.p (.int .i64 er))) (h0:er≠0):VFun env1 25 [.agg (Enc.enc s),.agg [.int .i64 a,.int .i64 b]] (.tup [.p (.val (.slice none 0 0)),.p (.int .i64 er)]):=by
 refine VFun.enter (E:=env1) (env1_none (by decide)) Tryd.func25 rfl (by kernel_rfl) (by simp [Tryd.ntmps25]) ?_
 repeat' (first
  |apply VWp.assoc
  |apply VWp.rseq
  |apply VWp.retSeq
  |apply VOps.nil
  |apply VOps.one
  |(apply VVal.fn;rfl;rfl;exact lift1 hc;intro _;rfl)
  |(apply VVal.assign;rfl)
  |(apply VVal.move;rfl)
  |(apply VVal.int;rfl;rfl;rfl)
  |(apply VVal.load;rfl;rfl)
  |(apply VVal.box;rfl;trivial)
  |(apply VVal.alloc;rfl)
  |(apply VVal.storeB;rfl;rfl;rfl;trivial;rfl;rfl;exact lt_dec rfl;exact le_dec rfl)
  |(apply VWp.condSeq_dec;rfl)
  |(intro _;try (exfalso;omega)))
 all_goals first|(exfalso;omega)|contradiction|(refine Done.ret rfl (.refl _) (by first|exact trivial|exact ⟨trivial,trivial,trivial⟩|exact ⟨trivial,trivial,trivial,trivial⟩) HCov.nil (Nat.zero_le _) (Nat.le_refl _) ⟨?_,rfl,rfl⟩;try rfl)
def meaL (s:Scl) (a:Int) (k:Nat):List Int:=(List.range k).map fun i:Nat=>mea s (a+i)
theorem meaL_len (s:Scl) (a:Int) (k:Nat):(meaL s a k).length=k:=by simp [meaL]
theorem meaL_succ (s:Scl) (a:Int) (k:Nat):meaL s a (k+1)=meaL s a k++[mea s (a+k)]:=by simp [meaL,List.range_succ]
theorem ask_meas {s:Scl} {a b:Int} (hs:sOk s) (ha:wOk a) (hb:wOk b) {H:Vm.Heap} {nx b1 b2:Nat} {e1 e2:TypeId} (h1:hget H b1=some (.box e1 [.p (.int .i64 a),.p (.int .i64 b)])) (h2:hget H b2=some (.box e2 [.p (.int .i64 s.base),.p (.int .i64 s.halv),.p (.int .i64 s.add)])) :
 VAsk env1 46 Tryd.f46 [.ref b1 0,.ref b2 0] H nx (meaKey s a b) (meaRows s a b):=by
 intro Fo ho m F σ lb hctx hrp
 have ho:O1 46=some Fo:=ho
 unfold O1 at ho
 rw [seqO_at] at ho
 cases ho
 cases hrp with
 |cons r1 t =>
  cases t with
  |cons r2 t2 =>
   cases t2
   cases r1 with
   |ref hb1 hc1 g1 =>
    cases r2 with
    |ref hb2 hc2 g2 =>
     obtain ⟨c1,q1,rfl⟩:=g1 (by simp [htag,h1,HB.tag])
     obtain ⟨c2,q2,rfl⟩:=g2 (by simp [htag,h2,HB.tag])
     obtain ⟨_,d1,vs1,k1,k2,k3,k4,k5,k6⟩:=hctx.hp b1 _ h1
     obtain ⟨_,d2,vs2,l1,l2,l3,l4,l5,l6⟩:=hctx.hp b2 _ h2
     rw [q1] at k1
     rw [q2] at l1
     cases k1
     cases l1
     refine ⟨m,?_⟩
     rw [Tryd.ntmps46]
     refine seqFo_as (kr:=(meaKey s a b,meaRows s a b)) (gl_same hctx) ?_
     cases k5 with
     |cons x1 t =>
      cases t with
      |cons x2 t =>
       cases t
       cases x1 with|p x1=>cases x2 with|p x2 =>
        cases x1;cases x2
        cases l5 with
        |cons y1 t =>
         cases t with
         |cons y2 t =>
          cases t with
          |cons y3 t =>
           cases t
           cases y1 with|p y1=>cases y2 with|p y2=>cases y3 with|p y3 =>
            cases y1;cases y2;cases y3
            unfold meaSq
            simp only [k4,l4]
            rw [if_pos ⟨hs,ha,hb⟩]
            rfl
theorem o1_at0:O1 46=some (seqFo (globList Tryd.prog 8 laidL) (globMem Tryd.prog 8 laidL) 26 meaSq):=by
 unfold O1
 exact seqO_at
theorem o1_at:env1.O 46=some (seqFo (globList Tryd.prog 8 laidL) (globMem Tryd.prog 8 laidL) 26 meaSq):=o1_at0
set_option maxRecDepth 100000 in
set_option maxHeartbeats 2000000 in
theorem table_spec {s:Scl} {a b:Int} (hs:sOk s) (ha:wOk a) (hb:wOk b) (hab:a≤b) (hm:mea s a≤10000000) (hc:VFun env 26 [.agg (Enc.enc s)] (.p (.int .i64 0))) (hw:∀ n,wOk n→VFun env 27 [.int .i64 n] (.p (.int .i64 0))) :
 VFun env1 25 [.agg (Enc.enc s),.agg [.int .i64 a,.int .i64 b]] (.tup [.p (.lst 3 (cells (meaL s a (b+1-a).toNat)) (meaL s a (b+1-a).toNat).length),.p (.int .i64 0)]):=by
 refine VFun.enter (E:=env1) (env1_none (by decide)) Tryd.func25 rfl (by kernel_rfl) (by simp [Tryd.ntmps25]) ?_
 have hwa:=lift1 (hw a ha)
 have hwb:=lift1 (hw b hb)
 repeat' (first
  |apply VWp.assoc
  |apply VWp.rseq
  |apply VWp.skipSeq
  |apply VWp.blockSeq
  |apply VOps.nil
  |apply VOps.one
  |(apply VVal.fn;rfl;rfl;exact lift1 hc;intro _;rfl)
  |(apply VVal.buildA;rfl;rfl;rfl;rfl;rfl)
  |(apply VVal.assign;rfl)
  |(apply VVal.move;rfl)
  |(apply VVal.int;rfl;rfl;rfl)
  |(apply VVal.load;rfl;rfl)
  |(apply VVal.fieldB;rfl;rfl;rfl)
  |(apply VVal.box;rfl;trivial)
  |(apply VVal.alloc;rfl)
  |(apply VWp.condSeq_false;rfl))
 all_goals try (exfalso;omega)
 all_goals try contradiction
 refine VWp.loopQ (fun k:Nat=>[(2,.ref 0 0),(3,.ref 1 0),(4,.ref 2 0),(5,.ref 3 0),(22,.p (.agg [.int .i64 a,.int .i64 b])),(23,.p (.int .i64 (k:Int)))]) (fun _=>[(0,.box 23 ((Enc.enc s).map .p)),(1,.box 55 [.p (.int .i64 a),.p (.int .i64 b)]),(2,.box 32 [.p (.val (.slice none 0 0))]),(3,.box 25 [.p (.int .i64 0)])]) 4 (fun k=>k≤2) (fun k=>2-k) 0 (by omega) (by omega) ⟨by omega,?_,?_⟩ ?_
 ·repeat (first|exact LCov.nil|refine LCov.same trivial rfl ?_|refine LCov.same (lt_dec rfl) rfl ?_|refine LCov.same ⟨trivial,lt_dec rfl,lt_dec rfl,lt_dec rfl,trivial⟩ rfl ?_|refine LCov.same ⟨trivial,lt_dec rfl,lt_dec rfl,trivial⟩ rfl ?_|refine LCov.same ⟨trivial,trivial⟩ rfl ?_|refine LCov.cons trivial rfl (.of_eq (lst_len (by simp<;>omega))) ?_)
 ·repeat (first|exact HCov.nil|(refine HCov.cons (lt_dec rfl) ?_ rfl ?_ ?_;(first|exact trivial|exact PVs.under_pure _ _|(simp [HB.under,PVs.under,PV.under]));(first|exact HLe.refl _|exact HLe.vec (FLes.refl _) (by simp))))
 rintro k hk
 match k with
 |0 =>
  repeat' (first
   |apply VWp.rseq
   |apply VWp.region
   |apply VWp.skipSeq
   |apply VWp.blockSeq
   |apply QSeq.normal
   |apply QBlk.normal
   |apply VWp.skip
   |apply VOps.nil
   |apply VOps.one
   |(apply VVal.fn;rfl;rfl;exact hwa;intro _;rfl)
   |(apply VVal.indexI;rfl;rfl;rfl;rfl;rfl;decide;rfl)
   |(apply VVal.assign;rfl)
   |(apply VVal.move;rfl)
   |(apply VVal.add64;rfl;rfl;omega)
   |(apply VVal.int;rfl;rfl;rfl)
   |(apply VWp.condSeq_true;rfl)
   |(apply VWp.cond_false;rfl))
  refine QLoop.normal ⟨1,by omega,by omega,⟨by omega,?_,?_⟩⟩
  ·repeat (first|exact LCov.nil|refine LCov.same trivial rfl ?_|refine LCov.same (lt_dec rfl) rfl ?_|refine LCov.same ⟨trivial,lt_dec rfl,lt_dec rfl,lt_dec rfl,trivial⟩ rfl ?_|refine LCov.same ⟨trivial,lt_dec rfl,lt_dec rfl,trivial⟩ rfl ?_|refine LCov.same ⟨trivial,trivial⟩ rfl ?_|refine LCov.cons trivial rfl (.of_eq (lst_len (by simp<;>omega))) ?_)
  ·repeat (first|exact HCov.nil|(refine HCov.cons (lt_dec rfl) ?_ rfl ?_ ?_;(first|exact trivial|exact PVs.under_pure _ _|(simp [HB.under,PVs.under,PV.under]));(first|exact HLe.refl _|exact HLe.vec (FLes.refl _) (by simp))))
 |1 =>
  repeat' (first
   |apply VWp.rseq
   |apply VWp.region
   |apply VWp.skipSeq
   |apply VWp.blockSeq
   |apply QSeq.normal
   |apply QBlk.normal
   |apply VWp.skip
   |apply VOps.nil
   |apply VOps.one
   |(apply VVal.fn;rfl;rfl;exact hwb;intro _;rfl)
   |(apply VVal.indexI;rfl;rfl;rfl;rfl;rfl;decide;rfl)
   |(apply VVal.assign;rfl)
   |(apply VVal.move;rfl)
   |(apply VVal.add64;rfl;rfl;omega)
   |(apply VVal.int;rfl;rfl;rfl)
   |(apply VWp.condSeq_true;rfl)
   |(apply VWp.cond_false;rfl))
  refine QLoop.normal ⟨2,by omega,by omega,⟨by omega,?_,?_⟩⟩
  ·repeat (first|exact LCov.nil|refine LCov.same trivial rfl ?_|refine LCov.same (lt_dec rfl) rfl ?_|refine LCov.same ⟨trivial,lt_dec rfl,lt_dec rfl,lt_dec rfl,trivial⟩ rfl ?_|refine LCov.same ⟨trivial,lt_dec rfl,lt_dec rfl,trivial⟩ rfl ?_|refine LCov.same ⟨trivial,trivial⟩ rfl ?_|refine LCov.cons trivial rfl (.of_eq (lst_len (by simp<;>omega))) ?_)
  ·repeat (first|exact HCov.nil|(refine HCov.cons (lt_dec rfl) ?_ rfl ?_ ?_;(first|exact trivial|exact PVs.under_pure _ _|(simp [HB.under,PVs.under,PV.under]));(first|exact HLe.refl _|exact HLe.vec (FLes.refl _) (by simp))))
 |k+2 =>
  obtain rfl:k=0:=by omega
  repeat' (first
   |apply VWp.assoc
   |apply VWp.rseq
   |apply VWp.skipSeq
   |apply VWp.exitSeq
   |apply VWp.blockSeq
   |apply QSeq.normal
   |(apply DoneI.ret;rfl)
   |apply QBlk.exit
   |apply QLoop.exit
   |apply VWp.ret
   |apply VOps.nil
   |apply VOps.one
   |(apply inl1_meas;rfl;rfl;rfl;exact le_dec rfl)
   |(apply VVal.makeFunc;rfl;rfl)
   |(apply VVal.assign;rfl)
   |(apply VVal.int;rfl;rfl;rfl)
   |(apply VVal.load;rfl;rfl)
   |(apply VVal.fieldB;rfl;rfl;rfl)
   |(apply VVal.box;rfl;trivial)
   |(apply VVal.alloc;rfl)
   |(apply VWp.condSeq_false;rfl)
   |(apply VWp.condSeq_dec;rfl)
   |(intro _;try (exfalso;omega)))
  all_goals try (exfalso;omega)
  all_goals try contradiction
  refine VWp.ghost (Ghost.adoptCell 4 0 3 rfl rfl) ?_
  refine VWp.rangeFunc (key:=meaKey s a b) (b+1-a).toNat (fun k=>[.int .i64 (mea s (a+k)),.bool (decide (mea s (a+k)≤10000000))]) (fun k=>meaRow s (a+k)) [(4,.ref 2 0),(5,.ref 3 0),(10,.ref 4 0),(39,.clo 46 [] [.ref 6 0,.ref 5 0])]
   (fun k=>[(2,.box 32 [.p (.val (.slice none 0 0))]),(3,.box 25 [.p (.int .i64 0)]),(4,.box 32 [.vec 7 (meaL s a k).length 0 (meaL s a k).length]),(5,.box 23 ((Enc.enc s).map .p)),(6,.box 55 [.p (.int .i64 a),.p (.int .i64 b)]),(7,.vec 3 (cells (meaL s a k)) (meaL s a k).length true)]) 8 (fun _=>True)
   rfl Tryd.func46 rfl o1_at rfl (fun _ _=>rfl) (fun _ _=>rfl) (fun k _ m F=>.cons (.int _ _) (.cons (.bool _) .nil)) (by omega) ⟨by omega,?_,?_⟩ ?_ (fun k _=>ask_meas hs ha hb rfl rfl) ?_ ?_ ?_
  ·repeat (first|exact LCov.nil|refine LCov.same trivial rfl ?_|refine LCov.same (lt_dec rfl) rfl ?_|refine LCov.same ⟨trivial,lt_dec rfl,trivial⟩ rfl ?_|refine LCov.same ⟨trivial,lt_dec rfl,lt_dec rfl,trivial⟩ rfl ?_|refine LCov.same ⟨trivial,lt_dec rfl,lt_dec rfl,lt_dec rfl,trivial⟩ rfl ?_|refine LCov.same ⟨trivial,trivial⟩ rfl ?_|refine LCov.cons trivial rfl (.of_eq (lst_len (by simp<;>omega))) ?_)
  ·repeat (first|exact HCov.nil|(refine HCov.cons (lt_dec rfl) ?_ rfl ?_ ?_;(first|exact HB.under_of rfl|exact PVs.under_pure _ _|(simp [HB.under,PVs.under,PV.under]));(first|exact HLe.refl _|exact HLe.vec (FLes.refl _) (by simp))))
  ·repeat (first|exact LCov.nil|refine LCov.same trivial rfl ?_|refine LCov.same (lt_dec rfl) rfl ?_|refine LCov.same ⟨trivial,lt_dec rfl,trivial⟩ rfl ?_|refine LCov.same ⟨trivial,lt_dec rfl,lt_dec rfl,trivial⟩ rfl ?_|refine LCov.same ⟨trivial,lt_dec rfl,lt_dec rfl,lt_dec rfl,trivial⟩ rfl ?_|refine LCov.same ⟨trivial,trivial⟩ rfl ?_|refine LCov.cons trivial rfl (.of_eq (lst_len (by simp<;>omega))) ?_)
  ·trivial
  ·intro k hk _
   have hle:mea s (a+k)≤10000000:=Int.le_trans (mea_le (by omega)) hm
   have e1:=meaL_succ s a k
   have e2:(meaL s a (k+1)).length=(meaL s a k).length+1:=by rw [e1];simp
   have e3:=meaL_len s a k
   have hlt:k<200:=by obtain ⟨_,_⟩:=ha;obtain ⟨_,_⟩:=hb;omega
   generalize mea s (a+k)=v at *
   rw [decide_eq_true hle]
   repeat' (first
    |apply VWp.rseq
    |apply VWp.region
    |apply VOps.nil
    |apply VOps.one
    |(apply VVal.assign;rfl))
   refine ⟨rfl,?_⟩
   repeat' (first
    |apply VWp.assoc
    |apply VWp.rseq
    |apply VWp.region
    |apply VWp.skipSeq
    |apply QBlk.normal
    |apply VWp.blockQ
    |apply VOps.nil
    |apply VOps.one
    |(apply VVal.append1 (a:=v);rfl;rfl;rfl;rfl;rfl;rfl;rfl;rfl;(intro _ h;cases h);rfl;rfl;rfl;decide;decide;(first|omega|(simp only [List.length_take,List.length_drop,List.length_append,List.length_singleton,List.length_cons,List.length_nil]<;>omega)))
    |(apply VVal.move;rfl)
    |(apply VVal.load;rfl;rfl)
    |(apply VVal.storeB;rfl;rfl;rfl;trivial;rfl;rfl;exact lt_dec rfl;exact le_dec rfl)
    |(apply VVal.buildSlice;rfl;rfl;rfl;decide;rfl;rfl;rfl)
    |(apply VVal.not;rfl)
    |(apply VWp.condSeq_false;rfl))
   all_goals try (exfalso;omega)
   refine ⟨trivial,by omega,?_⟩
   (try rw [e2])<;>(try rw [e1])
   repeat (first|exact HCov.nil|(refine HCov.cons (lt_dec rfl) ?_ rfl ?_ ?_;(first|exact HB.under_of rfl|exact PVs.under_pure _ _|(simp [HB.under,PVs.under,PV.under]));(first|exact HLe.refl _|exact HLe.vec (FLes.refl _) (by simp))))
  ·intro _
   repeat' (first
    |(refine VWp.at 20 ?_;refine VWp.ghost (Ghost.freezeCell 4 0 rfl rfl rfl) ?_;first|apply VWp.rseq|apply VWp.rseqD)
    |apply QSeq.normal
    |apply QBlk.normal
    |apply VWp.ret
    |apply VOps.nil
    |apply VOps.one
    |(apply VVal.load;rfl;rfl)
    |(apply VVal.storeB;rfl;rfl;rfl;trivial;rfl;rfl;exact lt_dec rfl;exact le_dec rfl))
   all_goals first|(exfalso;omega)|(refine Done.ret rfl (.refl _) (by first|exact trivial|exact ⟨trivial,trivial,trivial⟩|exact ⟨trivial,trivial,trivial,trivial⟩) HCov.nil (Nat.zero_le _) (Nat.le_refl _) ⟨?_,rfl,rfl⟩;try rfl)
set_option maxRecDepth 100000 in
set_option maxHeartbeats 2000000 in
theorem tableLim_spec {s:Scl} {a b:Int} (hs:sOk s) (ha:wOk a) (hb:wOk b) (hab:a≤b) (hm:¬ mea s a≤10000000) (hc:VFun env 26 [.agg (Enc.enc s)] (.p (.int .i64 0))) (hw:∀ n,wOk n→VFun env 27 [.int .i64 n] (.p (.int .i64 0))) :
 VFun env1 25 [.agg (Enc.enc s),.agg [.int .i64 a,.int .i64 b]] (.tup [.p (.val (.slice none 0 0)),.p (.int .i64 4)]):=by
 refine VFun.enter (E:=env1) (env1_none (by decide)) Tryd.func25 rfl (by kernel_rfl) (by simp [Tryd.ntmps25]) ?_
 have hwa:=lift1 (hw a ha)
 have hwb:=lift1 (hw b hb)
 repeat' (first
  |apply VWp.assoc
  |apply VWp.rseq
  |apply VWp.skipSeq
  |apply VWp.blockSeq
  |apply VOps.nil
  |apply VOps.one
  |(apply VVal.fn;rfl;rfl;exact lift1 hc;intro _;rfl)
  |(apply VVal.buildA;rfl;rfl;rfl;rfl;rfl)
  |(apply VVal.assign;rfl)
  |(apply VVal.move;rfl)
  |(apply VVal.int;rfl;rfl;rfl)
  |(apply VVal.load;rfl;rfl)
  |(apply VVal.fieldB;rfl;rfl;rfl)
  |(apply VVal.box;rfl;trivial)
  |(apply VVal.alloc;rfl)
  |(apply VWp.condSeq_false;rfl))
 all_goals try (exfalso;omega)
 all_goals try contradiction
 refine VWp.loopQ (fun k:Nat=>[(2,.ref 0 0),(3,.ref 1 0),(4,.ref 2 0),(5,.ref 3 0),(22,.p (.agg [.int .i64 a,.int .i64 b])),(23,.p (.int .i64 (k:Int)))]) (fun _=>[(0,.box 23 ((Enc.enc s).map .p)),(1,.box 55 [.p (.int .i64 a),.p (.int .i64 b)]),(2,.box 32 [.p (.val (.slice none 0 0))]),(3,.box 25 [.p (.int .i64 0)])]) 4 (fun k=>k≤2) (fun k=>2-k) 0 (by omega) (by omega) ⟨by omega,?_,?_⟩ ?_
 ·repeat (first|exact LCov.nil|refine LCov.same trivial rfl ?_|refine LCov.same (lt_dec rfl) rfl ?_|refine LCov.same ⟨trivial,lt_dec rfl,lt_dec rfl,lt_dec rfl,trivial⟩ rfl ?_|refine LCov.same ⟨trivial,lt_dec rfl,lt_dec rfl,trivial⟩ rfl ?_|refine LCov.same ⟨trivial,trivial⟩ rfl ?_|refine LCov.cons trivial rfl (.of_eq (lst_len (by simp<;>omega))) ?_)
 ·repeat (first|exact HCov.nil|(refine HCov.cons (lt_dec rfl) ?_ rfl ?_ ?_;(first|exact trivial|exact PVs.under_pure _ _|(simp [HB.under,PVs.under,PV.under]));(first|exact HLe.refl _|exact HLe.vec (FLes.refl _) (by simp))))
 rintro k hk
 match k with
 |0 =>
  repeat' (first
   |apply VWp.rseq
   |apply VWp.region
   |apply VWp.skipSeq
   |apply VWp.blockSeq
   |apply QSeq.normal
   |apply QBlk.normal
   |apply VWp.skip
   |apply VOps.nil
   |apply VOps.one
   |(apply VVal.fn;rfl;rfl;exact hwa;intro _;rfl)
   |(apply VVal.indexI;rfl;rfl;rfl;rfl;rfl;decide;rfl)
   |(apply VVal.assign;rfl)
   |(apply VVal.move;rfl)
   |(apply VVal.add64;rfl;rfl;omega)
   |(apply VVal.int;rfl;rfl;rfl)
   |(apply VWp.condSeq_true;rfl)
   |(apply VWp.cond_false;rfl))
  refine QLoop.normal ⟨1,by omega,by omega,⟨by omega,?_,?_⟩⟩
  ·repeat (first|exact LCov.nil|refine LCov.same trivial rfl ?_|refine LCov.same (lt_dec rfl) rfl ?_|refine LCov.same ⟨trivial,lt_dec rfl,lt_dec rfl,lt_dec rfl,trivial⟩ rfl ?_|refine LCov.same ⟨trivial,lt_dec rfl,lt_dec rfl,trivial⟩ rfl ?_|refine LCov.same ⟨trivial,trivial⟩ rfl ?_|refine LCov.cons trivial rfl (.of_eq (lst_len (by simp<;>omega))) ?_)
  ·repeat (first|exact HCov.nil|(refine HCov.cons (lt_dec rfl) ?_ rfl ?_ ?_;(first|exact trivial|exact PVs.under_pure _ _|(simp [HB.under,PVs.under,PV.under]));(first|exact HLe.refl _|exact HLe.vec (FLes.refl _) (by simp))))
 |1 =>
  repeat' (first
   |apply VWp.rseq
   |apply VWp.region
   |apply VWp.skipSeq
   |apply VWp.blockSeq
   |apply QSeq.normal
   |apply QBlk.normal
   |apply VWp.skip
   |apply VOps.nil
   |apply VOps.one
   |(apply VVal.fn;rfl;rfl;exact hwb;intro _;rfl)
   |(apply VVal.indexI;rfl;rfl;rfl;rfl;rfl;decide;rfl)
   |(apply VVal.assign;rfl)
   |(apply VVal.move;rfl)
   |(apply VVal.add64;rfl;rfl;omega)
   |(apply VVal.int;rfl;rfl;rfl)
   |(apply VWp.condSeq_true;rfl)
   |(apply VWp.cond_false;rfl))
  refine QLoop.normal ⟨2,by omega,by omega,⟨by omega,?_,?_⟩⟩
  ·repeat (first|exact LCov.nil|refine LCov.same trivial rfl ?_|refine LCov.same (lt_dec rfl) rfl ?_|refine LCov.same ⟨trivial,lt_dec rfl,lt_dec rfl,lt_dec rfl,trivial⟩ rfl ?_|refine LCov.same ⟨trivial,lt_dec rfl,lt_dec rfl,trivial⟩ rfl ?_|refine LCov.same ⟨trivial,trivial⟩ rfl ?_|refine LCov.cons trivial rfl (.of_eq (lst_len (by simp<;>omega))) ?_)
  ·repeat (first|exact HCov.nil|(refine HCov.cons (lt_dec rfl) ?_ rfl ?_ ?_;(first|exact trivial|exact PVs.under_pure _ _|(simp [HB.under,PVs.under,PV.under]));(first|exact HLe.refl _|exact HLe.vec (FLes.refl _) (by simp))))
 |k+2 =>
  obtain rfl:k=0:=by omega
  repeat' (first
   |apply VWp.assoc
   |apply VWp.rseq
   |apply VWp.skipSeq
   |apply VWp.exitSeq
   |apply VWp.blockSeq
   |apply QSeq.normal
   |(apply DoneI.ret;rfl)
   |apply QBlk.exit
   |apply QLoop.exit
   |apply VWp.ret
   |apply VOps.nil
   |apply VOps.one
   |(apply inl1_meas;rfl;rfl;rfl;exact le_dec rfl)
   |(apply VVal.makeFunc;rfl;rfl)
   |(apply VVal.assign;rfl)
   |(apply VVal.int;rfl;rfl;rfl)
   |(apply VVal.load;rfl;rfl)
   |(apply VVal.fieldB;rfl;rfl;rfl)
   |(apply VVal.box;rfl;trivial)
   |(apply VVal.alloc;rfl)
   |(apply VWp.condSeq_false;rfl)
   |(apply VWp.condSeq_dec;rfl)
   |(intro _;try (exfalso;omega)))
  all_goals try (exfalso;omega)
  all_goals try contradiction
  refine VWp.ghost (Ghost.adoptCell 4 0 3 rfl rfl) ?_
  refine VWp.rangeFunc (key:=meaKey s a b) (b+1-a).toNat (fun k=>[.int .i64 (mea s (a+k)),.bool (decide (mea s (a+k)≤10000000))]) (fun k=>meaRow s (a+k)) [(4,.ref 2 0),(5,.ref 3 0),(10,.ref 4 0),(39,.clo 46 [] [.ref 6 0,.ref 5 0])]
   (fun k=>[(2,.box 32 [.p (.val (.slice none 0 0))]),(3,.box 25 [.p (.int .i64 0)]),(4,.box 32 [.vec 7 (meaL s a k).length 0 (meaL s a k).length]),(5,.box 23 ((Enc.enc s).map .p)),(6,.box 55 [.p (.int .i64 a),.p (.int .i64 b)]),(7,.vec 3 (cells (meaL s a k)) (meaL s a k).length true)]) 8 (fun k=>k=0)
   rfl Tryd.func46 rfl o1_at rfl (fun _ _=>rfl) (fun _ _=>rfl) (fun k _ m F=>.cons (.int _ _) (.cons (.bool _) .nil)) (by omega) ⟨by omega,?_,?_⟩ ?_ (fun k _=>ask_meas hs ha hb rfl rfl) ?_ ?_ ?_
  ·repeat (first|exact LCov.nil|refine LCov.same trivial rfl ?_|refine LCov.same (lt_dec rfl) rfl ?_|refine LCov.same ⟨trivial,lt_dec rfl,trivial⟩ rfl ?_|refine LCov.same ⟨trivial,lt_dec rfl,lt_dec rfl,trivial⟩ rfl ?_|refine LCov.same ⟨trivial,lt_dec rfl,lt_dec rfl,lt_dec rfl,trivial⟩ rfl ?_|refine LCov.same ⟨trivial,trivial⟩ rfl ?_|refine LCov.cons trivial rfl (.of_eq (lst_len (by simp<;>omega))) ?_)
  ·repeat (first|exact HCov.nil|(refine HCov.cons (lt_dec rfl) ?_ rfl ?_ ?_;(first|exact HB.under_of rfl|exact PVs.under_pure _ _|(simp [HB.under,PVs.under,PV.under]));(first|exact HLe.refl _|exact HLe.vec (FLes.refl _) (by simp))))
  ·repeat (first|exact LCov.nil|refine LCov.same trivial rfl ?_|refine LCov.same (lt_dec rfl) rfl ?_|refine LCov.same ⟨trivial,lt_dec rfl,trivial⟩ rfl ?_|refine LCov.same ⟨trivial,lt_dec rfl,lt_dec rfl,trivial⟩ rfl ?_|refine LCov.same ⟨trivial,lt_dec rfl,lt_dec rfl,lt_dec rfl,trivial⟩ rfl ?_|refine LCov.same ⟨trivial,trivial⟩ rfl ?_|refine LCov.cons trivial rfl (.of_eq (lst_len (by simp<;>omega))) ?_)
  ·rfl
  ·rintro k hk rfl
   rw [Int.natCast_zero,Int.add_zero]
   generalize mea s a=v at *
   rw [decide_eq_false hm]
   repeat' (first
    |apply VWp.rseq
    |apply VWp.region
    |apply VOps.nil
    |apply VOps.one
    |(apply VVal.assign;rfl))
   refine ⟨rfl,?_⟩
   repeat' (first
    |apply VWp.assoc
    |apply VWp.rseq
    |apply VWp.retSeq
    |apply QBlk.ret
    |apply VWp.blockQ
    |apply VOps.nil
    |apply VOps.one
    |(apply VVal.move;rfl)
    |(apply VVal.storeB;rfl;rfl;rfl;trivial;rfl;rfl;exact lt_dec rfl;exact le_dec rfl)
    |(apply VVal.not;rfl)
    |(apply VWp.condSeq_true;rfl))
   all_goals try (exfalso;omega)
   refine ⟨by omega,[(2,.box 32 [.p (.val (.slice none 0 0))]),(3,.box 25 [.p (.int .i64 4)])],?_,?_⟩
   ·repeat (first|exact HCov.nil|(refine HCov.cons (lt_dec rfl) ?_ rfl ?_ ?_;(first|exact HB.under_of rfl|exact PVs.under_pure _ _|(simp [HB.under,PVs.under,PV.under]));(first|exact HLe.refl _|exact HLe.vec (FLes.refl _) (by simp))))
   ·repeat' (first
     |apply QSeq.ret
     |apply QBlk.ret)
    all_goals (refine Done.ret rfl (.refl _) (by first|exact trivial|exact ⟨trivial,trivial,trivial⟩|exact ⟨trivial,trivial,trivial,trivial⟩) HCov.nil (Nat.zero_le _) (Nat.le_refl _) ⟨?_,rfl,rfl⟩;try rfl)
  ·intro h0
   exfalso;omega
set_option maxRecDepth 100000 in
set_option maxHeartbeats 2000000 in
theorem tableOut_spec {s:Scl} {a b:Int} (h:¬ (wOk a∧wOk b)) (hc:VFun env 26 [.agg (Enc.enc s)] (.p (.int .i64 0))) (hw:∀ n,VFun env 27 [.int .i64 n] (.p (.int .i64 (win n)))) :
 VFun env1 25 [.agg (Enc.enc s),.agg [.int .i64 a,.int .i64 b]] (.tup [.p (.val (.slice none 0 0)),.p (.int .i64 3)]):=by
 by_cases h1:wOk a
 ·have h2:¬ wOk b:=fun h2=>h ⟨h1,h2⟩
  refine VFun.enter (E:=env1) (env1_none (by decide)) Tryd.func25 rfl (by kernel_rfl) (by simp [Tryd.ntmps25]) ?_
  have hwa:=lift1 (hw a)
  have hwb:=lift1 (hw b)
  repeat' (first
   |apply VWp.assoc
   |apply VWp.rseq
   |apply VWp.skipSeq
   |apply VWp.blockSeq
   |apply VOps.nil
   |apply VOps.one
   |(apply VVal.fn;rfl;rfl;exact lift1 hc;intro _;rfl)
   |(apply VVal.buildA;rfl;rfl;rfl;rfl;rfl)
   |(apply VVal.assign;rfl)
   |(apply VVal.move;rfl)
   |(apply VVal.int;rfl;rfl;rfl)
   |(apply VVal.load;rfl;rfl)
   |(apply VVal.fieldB;rfl;rfl;rfl)
   |(apply VVal.box;rfl;trivial)
   |(apply VVal.alloc;rfl)
   |(apply VWp.condSeq_false;rfl))
  all_goals try (exfalso;omega)
  all_goals try contradiction
  refine VWp.loopQ (fun k:Nat=>[(2,.ref 0 0),(3,.ref 1 0),(4,.ref 2 0),(5,.ref 3 0),(22,.p (.agg [.int .i64 a,.int .i64 b])),(23,.p (.int .i64 (k:Int)))]) (fun _=>[(0,.box 23 ((Enc.enc s).map .p)),(1,.box 55 [.p (.int .i64 a),.p (.int .i64 b)]),(2,.box 32 [.p (.val (.slice none 0 0))]),(3,.box 25 [.p (.int .i64 0)])]) 4 (fun k=>k≤1) (fun k=>2-k) 0 (by omega) (by omega) ⟨by omega,?_,?_⟩ ?_
  ·repeat (first|exact LCov.nil|refine LCov.same trivial rfl ?_|refine LCov.same (lt_dec rfl) rfl ?_|refine LCov.same ⟨trivial,lt_dec rfl,lt_dec rfl,lt_dec rfl,trivial⟩ rfl ?_|refine LCov.same ⟨trivial,lt_dec rfl,lt_dec rfl,trivial⟩ rfl ?_|refine LCov.same ⟨trivial,trivial⟩ rfl ?_|refine LCov.cons trivial rfl (.of_eq (lst_len (by simp<;>omega))) ?_)
  ·repeat (first|exact HCov.nil|(refine HCov.cons (lt_dec rfl) ?_ rfl ?_ ?_;(first|exact trivial|exact PVs.under_pure _ _|(simp [HB.under,PVs.under,PV.under]));(first|exact HLe.refl _|exact HLe.vec (FLes.refl _) (by simp))))
  rw [show win a=0 from if_pos h1] at hwa
  rw [show win b=3 from if_neg h2] at hwb
  rintro k hk
  match k with
  |0 =>
   repeat' (first
    |apply VWp.rseq
    |apply VWp.region
    |apply VWp.skipSeq
    |apply VWp.blockSeq
    |apply QSeq.normal
    |apply QBlk.normal
    |apply VWp.skip
    |apply VOps.nil
    |apply VOps.one
    |(apply VVal.fn;rfl;rfl;exact hwa;intro _;rfl)
    |(apply VVal.indexI;rfl;rfl;rfl;rfl;rfl;decide;rfl)
    |(apply VVal.assign;rfl)
    |(apply VVal.move;rfl)
    |(apply VVal.add64;rfl;rfl;omega)
    |(apply VVal.int;rfl;rfl;rfl)
    |(apply VWp.condSeq_true;rfl)
    |(apply VWp.cond_false;rfl))
   refine QLoop.normal ⟨1,by omega,by omega,⟨by omega,?_,?_⟩⟩
   ·repeat (first|exact LCov.nil|refine LCov.same trivial rfl ?_|refine LCov.same (lt_dec rfl) rfl ?_|refine LCov.same ⟨trivial,lt_dec rfl,lt_dec rfl,lt_dec rfl,trivial⟩ rfl ?_|refine LCov.same ⟨trivial,lt_dec rfl,lt_dec rfl,trivial⟩ rfl ?_|refine LCov.same ⟨trivial,trivial⟩ rfl ?_|refine LCov.cons trivial rfl (.of_eq (lst_len (by simp<;>omega))) ?_)
   ·repeat (first|exact HCov.nil|(refine HCov.cons (lt_dec rfl) ?_ rfl ?_ ?_;(first|exact trivial|exact PVs.under_pure _ _|(simp [HB.under,PVs.under,PV.under]));(first|exact HLe.refl _|exact HLe.vec (FLes.refl _) (by simp))))
  |1 =>
   repeat' (first
    |apply VWp.rseq
    |apply VWp.skipSeq
    |apply VWp.blockSeq
    |apply QSeq.ret
    |apply QBlk.ret
    |apply QLoop.ret
    |apply VWp.ret
    |apply VOps.nil
    |apply VOps.one
    |(apply VVal.fn;rfl;rfl;exact hwb;intro _;rfl)
    |(apply VVal.indexI;rfl;rfl;rfl;rfl;rfl;decide;rfl)
    |(apply VVal.assign;rfl)
    |(apply VVal.move;rfl)
    |(apply VVal.int;rfl;rfl;rfl)
    |(apply VVal.storeB;rfl;rfl;rfl;trivial;rfl;rfl;exact lt_dec rfl;exact le_dec rfl)
    |(apply VWp.condSeq_true;rfl)
    |(apply VWp.cond_true;rfl))
   all_goals first|(exfalso;omega)|(refine Done.ret rfl (.refl _) (by first|exact trivial|exact ⟨trivial,trivial,trivial⟩|exact ⟨trivial,trivial,trivial,trivial⟩) HCov.nil (Nat.zero_le _) (Nat.le_refl _) ⟨?_,rfl,rfl⟩;try rfl)
 ·skip
  refine VFun.enter (E:=env1) (env1_none (by decide)) Tryd.func25 rfl (by kernel_rfl) (by simp [Tryd.ntmps25]) ?_
  have hwa:=lift1 (hw a)
  have hwb:=lift1 (hw b)
  repeat' (first
   |apply VWp.assoc
   |apply VWp.rseq
   |apply VWp.skipSeq
   |apply VWp.blockSeq
   |apply VOps.nil
   |apply VOps.one
   |(apply VVal.fn;rfl;rfl;exact lift1 hc;intro _;rfl)
   |(apply VVal.buildA;rfl;rfl;rfl;rfl;rfl)
   |(apply VVal.assign;rfl)
   |(apply VVal.move;rfl)
   |(apply VVal.int;rfl;rfl;rfl)
   |(apply VVal.load;rfl;rfl)
   |(apply VVal.fieldB;rfl;rfl;rfl)
   |(apply VVal.box;rfl;trivial)
   |(apply VVal.alloc;rfl)
   |(apply VWp.condSeq_false;rfl))
  all_goals try (exfalso;omega)
  all_goals try contradiction
  refine VWp.loopQ (fun k:Nat=>[(2,.ref 0 0),(3,.ref 1 0),(4,.ref 2 0),(5,.ref 3 0),(22,.p (.agg [.int .i64 a,.int .i64 b])),(23,.p (.int .i64 (k:Int)))]) (fun _=>[(0,.box 23 ((Enc.enc s).map .p)),(1,.box 55 [.p (.int .i64 a),.p (.int .i64 b)]),(2,.box 32 [.p (.val (.slice none 0 0))]),(3,.box 25 [.p (.int .i64 0)])]) 4 (fun k=>k≤0) (fun k=>2-k) 0 (by omega) (by omega) ⟨by omega,?_,?_⟩ ?_
  ·repeat (first|exact LCov.nil|refine LCov.same trivial rfl ?_|refine LCov.same (lt_dec rfl) rfl ?_|refine LCov.same ⟨trivial,lt_dec rfl,lt_dec rfl,lt_dec rfl,trivial⟩ rfl ?_|refine LCov.same ⟨trivial,lt_dec rfl,lt_dec rfl,trivial⟩ rfl ?_|refine LCov.same ⟨trivial,trivial⟩ rfl ?_|refine LCov.cons trivial rfl (.of_eq (lst_len (by simp<;>omega))) ?_)
  ·repeat (first|exact HCov.nil|(refine HCov.cons (lt_dec rfl) ?_ rfl ?_ ?_;(first|exact trivial|exact PVs.under_pure _ _|(simp [HB.under,PVs.under,PV.under]));(first|exact HLe.refl _|exact HLe.vec (FLes.refl _) (by simp))))
  rw [show win a=3 from if_neg h1] at hwa
  rintro k hk
  obtain rfl:k=0:=by omega
  repeat' (first
   |apply VWp.rseq
   |apply VWp.skipSeq
   |apply VWp.blockSeq
   |apply QSeq.ret
   |apply QBlk.ret
   |apply QLoop.ret
   |apply VWp.ret
   |apply VOps.nil
   |apply VOps.one
   |(apply VVal.fn;rfl;rfl;exact hwa;intro _;rfl)
   |(apply VVal.indexI;rfl;rfl;rfl;rfl;rfl;decide;rfl)
   |(apply VVal.assign;rfl)
   |(apply VVal.move;rfl)
   |(apply VVal.int;rfl;rfl;rfl)
   |(apply VVal.storeB;rfl;rfl;rfl;trivial;rfl;rfl;exact lt_dec rfl;exact le_dec rfl)
   |(apply VWp.condSeq_true;rfl)
   |(apply VWp.cond_true;rfl))
  all_goals first|(exfalso;omega)|(refine Done.ret rfl (.refl _) (by first|exact trivial|exact ⟨trivial,trivial,trivial⟩|exact ⟨trivial,trivial,trivial,trivial⟩) HCov.nil (Nat.zero_le _) (Nat.le_refl _) ⟨?_,rfl,rfl⟩;try rfl)
set_option maxRecDepth 100000 in
set_option maxHeartbeats 2000000 in
theorem tableOrd_spec {s:Scl} {a b:Int} (h1:wOk a) (h2:wOk b) (hab:b<a) (hc:VFun env 26 [.agg (Enc.enc s)] (.p (.int .i64 0))) (hw:∀ n,VFun env 27 [.int .i64 n] (.p (.int .i64 (win n)))) :
 VFun env1 25 [.agg (Enc.enc s),.agg [.int .i64 a,.int .i64 b]] (.tup [.p (.val (.slice none 0 0)),.p (.int .i64 6)]):=by
 refine VFun.enter (E:=env1) (env1_none (by decide)) Tryd.func25 rfl (by kernel_rfl) (by simp [Tryd.ntmps25]) ?_
 have hwa:=lift1 (hw a)
 have hwb:=lift1 (hw b)
 repeat' (first
  |apply VWp.assoc
  |apply VWp.rseq
  |apply VWp.skipSeq
  |apply VWp.blockSeq
  |apply VOps.nil
  |apply VOps.one
  |(apply VVal.fn;rfl;rfl;exact lift1 hc;intro _;rfl)
  |(apply VVal.buildA;rfl;rfl;rfl;rfl;rfl)
  |(apply VVal.assign;rfl)
  |(apply VVal.move;rfl)
  |(apply VVal.int;rfl;rfl;rfl)
  |(apply VVal.load;rfl;rfl)
  |(apply VVal.fieldB;rfl;rfl;rfl)
  |(apply VVal.box;rfl;trivial)
  |(apply VVal.alloc;rfl)
  |(apply VWp.condSeq_false;rfl))
 all_goals try (exfalso;omega)
 all_goals try contradiction
 refine VWp.loopQ (fun k:Nat=>[(2,.ref 0 0),(3,.ref 1 0),(4,.ref 2 0),(5,.ref 3 0),(22,.p (.agg [.int .i64 a,.int .i64 b])),(23,.p (.int .i64 (k:Int)))]) (fun _=>[(0,.box 23 ((Enc.enc s).map .p)),(1,.box 55 [.p (.int .i64 a),.p (.int .i64 b)]),(2,.box 32 [.p (.val (.slice none 0 0))]),(3,.box 25 [.p (.int .i64 0)])]) 4 (fun k=>k≤2) (fun k=>2-k) 0 (by omega) (by omega) ⟨by omega,?_,?_⟩ ?_
 ·repeat (first|exact LCov.nil|refine LCov.same trivial rfl ?_|refine LCov.same (lt_dec rfl) rfl ?_|refine LCov.same ⟨trivial,lt_dec rfl,lt_dec rfl,lt_dec rfl,trivial⟩ rfl ?_|refine LCov.same ⟨trivial,lt_dec rfl,lt_dec rfl,trivial⟩ rfl ?_|refine LCov.same ⟨trivial,trivial⟩ rfl ?_|refine LCov.cons trivial rfl (.of_eq (lst_len (by simp<;>omega))) ?_)
 ·repeat (first|exact HCov.nil|(refine HCov.cons (lt_dec rfl) ?_ rfl ?_ ?_;(first|exact trivial|exact PVs.under_pure _ _|(simp [HB.under,PVs.under,PV.under]));(first|exact HLe.refl _|exact HLe.vec (FLes.refl _) (by simp))))
 rw [show win a=0 from if_pos h1] at hwa
 rw [show win b=0 from if_pos h2] at hwb
 rintro k hk
 match k with
 |0 =>
  repeat' (first
   |apply VWp.rseq
   |apply VWp.region
   |apply VWp.skipSeq
   |apply VWp.blockSeq
   |apply QSeq.normal
   |apply QBlk.normal
   |apply VWp.skip
   |apply VOps.nil
   |apply VOps.one
   |(apply VVal.fn;rfl;rfl;exact hwa;intro _;rfl)
   |(apply VVal.indexI;rfl;rfl;rfl;rfl;rfl;decide;rfl)
   |(apply VVal.assign;rfl)
   |(apply VVal.move;rfl)
   |(apply VVal.add64;rfl;rfl;omega)
   |(apply VVal.int;rfl;rfl;rfl)
   |(apply VWp.condSeq_true;rfl)
   |(apply VWp.cond_false;rfl))
  refine QLoop.normal ⟨1,by omega,by omega,⟨by omega,?_,?_⟩⟩
  ·repeat (first|exact LCov.nil|refine LCov.same trivial rfl ?_|refine LCov.same (lt_dec rfl) rfl ?_|refine LCov.same ⟨trivial,lt_dec rfl,lt_dec rfl,lt_dec rfl,trivial⟩ rfl ?_|refine LCov.same ⟨trivial,lt_dec rfl,lt_dec rfl,trivial⟩ rfl ?_|refine LCov.same ⟨trivial,trivial⟩ rfl ?_|refine LCov.cons trivial rfl (.of_eq (lst_len (by simp<;>omega))) ?_)
  ·repeat (first|exact HCov.nil|(refine HCov.cons (lt_dec rfl) ?_ rfl ?_ ?_;(first|exact trivial|exact PVs.under_pure _ _|(simp [HB.under,PVs.under,PV.under]));(first|exact HLe.refl _|exact HLe.vec (FLes.refl _) (by simp))))
 |1 =>
  repeat' (first
   |apply VWp.rseq
   |apply VWp.region
   |apply VWp.skipSeq
   |apply VWp.blockSeq
   |apply QSeq.normal
   |apply QBlk.normal
   |apply VWp.skip
   |apply VOps.nil
   |apply VOps.one
   |(apply VVal.fn;rfl;rfl;exact hwb;intro _;rfl)
   |(apply VVal.indexI;rfl;rfl;rfl;rfl;rfl;decide;rfl)
   |(apply VVal.assign;rfl)
   |(apply VVal.move;rfl)
   |(apply VVal.add64;rfl;rfl;omega)
   |(apply VVal.int;rfl;rfl;rfl)
   |(apply VWp.condSeq_true;rfl)
   |(apply VWp.cond_false;rfl))
  refine QLoop.normal ⟨2,by omega,by omega,⟨by omega,?_,?_⟩⟩
  ·repeat (first|exact LCov.nil|refine LCov.same trivial rfl ?_|refine LCov.same (lt_dec rfl) rfl ?_|refine LCov.same ⟨trivial,lt_dec rfl,lt_dec rfl,lt_dec rfl,trivial⟩ rfl ?_|refine LCov.same ⟨trivial,lt_dec rfl,lt_dec rfl,trivial⟩ rfl ?_|refine LCov.same ⟨trivial,trivial⟩ rfl ?_|refine LCov.cons trivial rfl (.of_eq (lst_len (by simp<;>omega))) ?_)
  ·repeat (first|exact HCov.nil|(refine HCov.cons (lt_dec rfl) ?_ rfl ?_ ?_;(first|exact trivial|exact PVs.under_pure _ _|(simp [HB.under,PVs.under,PV.under]));(first|exact HLe.refl _|exact HLe.vec (FLes.refl _) (by simp))))
 |k+2 =>
  obtain rfl:k=0:=by omega
  repeat' (first
   |apply VWp.assoc
   |apply VWp.rseq
   |apply VWp.retSeq
   |apply VWp.exitSeq
   |apply QSeq.normal
   |apply QBlk.exit
   |apply QLoop.exit
   |apply VOps.nil
   |apply VOps.one
   |(apply VVal.int;rfl;rfl;rfl)
   |(apply VVal.load;rfl;rfl)
   |(apply VVal.fieldB;rfl;rfl;rfl)
   |(apply VVal.storeB;rfl;rfl;rfl;trivial;rfl;rfl;exact lt_dec rfl;exact le_dec rfl)
   |(apply VWp.condSeq_false;rfl)
   |(apply VWp.condSeq_dec;rfl)
   |(intro _;try (exfalso;omega)))
  all_goals first|(exfalso;omega)|(refine Done.ret rfl (.refl _) (by first|exact trivial|exact ⟨trivial,trivial,trivial⟩|exact ⟨trivial,trivial,trivial,trivial⟩) HCov.nil (Nat.zero_le _) (Nat.le_refl _) ⟨?_,rfl,rfl⟩;try rfl)
end Go.Proofs.YtemfebbakfhknaaDoor
