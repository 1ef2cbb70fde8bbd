/-
  Texts of a proof, merged (TraK, HunE, TraL, TraM, OrO, LimA, TraQ, TraR, LimB, Vm40, LimC, LimD, TraN, OrQ, TraS, RkQ, OrK, OrP, TraU). Conditions: in each statement.
-/
import Derived.Test.YtdabojnmoejilaaGreatDoorKWe
set_option linter.unusedSimpArgs false
set_option linter.unusedVariables false
set_option linter.unusedSectionVars false
set_option maxRecDepth 100000
set_option maxHeartbeats 8000000
namespace Go.Proofs.YtdabojnmoejilaaGreatDoor
open Go Go.Am Go.Vm Go.Hun
attribute [local irreducible] VVal VOps VOpsD VWp VCalls VFun VFunV QSeq QBlk QLoop Vm.Done DoneV DoneI
theorem inl_CFI {L:Vm.Frame} {H:Vm.Heap} {nx:Nat} {Q:PV→Vm.Heap→Nat→Prop} {dst:Option Tmp} {ty:TypeId} {pos:String} {af:Array Edge} {gd:Option (Nat×Bool)} {fo:Operand} {args:Array Operand} {aT:Array TypeId} {fs cs xs:List PV} {c:Code}
 (hf:vev env.Γ L fo=some (.clo 75 fs cs)) (ha:evs env.Γ L args.toList=some xs) (hb:Tryz.f75.body=some c) (hn:(fs++xs++cs).length≤Tryz.f75.ntmps)
 (h:VWp env nx c (argFrame 0 (fs++xs++cs)) H nx (DoneI env.P Tryz.f75.results.toList Q)):VVal env true ⟨dst,.call { callee:=.value fo,args:=args,argTypes:=aT },ty,pos,af,gd⟩ L H nx Q:=by
 have h0:(match Tryz.f75.body with|some c=>fnOk env.G Tryz.f75 c|none=>false)=true:=by kernel_rfl
 rw [hb] at h0
 exact VVal.inline rfl hf ha (env_none (by decide)) Tryz.func75 hb h0 hn h
theorem inl_IFI {L:Vm.Frame} {H:Vm.Heap} {nx:Nat} {Q:PV→Vm.Heap→Nat→Prop} {dst:Option Tmp} {ty:TypeId} {pos:String} {af:Array Edge} {gd:Option (Nat×Bool)} {fo:Operand} {args:Array Operand} {aT:Array TypeId} {fs cs xs:List PV} {c:Code}
 (hf:vev env.Γ L fo=some (.clo 104 fs cs)) (ha:evs env.Γ L args.toList=some xs) (hb:Tryz.f104.body=some c) (hn:(fs++xs++cs).length≤Tryz.f104.ntmps)
 (h:VWp env nx c (argFrame 0 (fs++xs++cs)) H nx (DoneI env.P Tryz.f104.results.toList Q)):VVal env true ⟨dst,.call { callee:=.value fo,args:=args,argTypes:=aT },ty,pos,af,gd⟩ L H nx Q:=by
 have h0:(match Tryz.f104.body with|some c=>fnOk env.G Tryz.f104 c|none=>false)=true:=by kernel_rfl
 rw [hb] at h0
 exact VVal.inline rfl hf ha (env_none (by decide)) Tryz.func104 hb h0 hn h
theorem inl_CK1 {L:Vm.Frame} {H:Vm.Heap} {nx:Nat} {Q:PV→Vm.Heap→Nat→Prop} {dst:Option Tmp} {ty:TypeId} {pos:String} {af:Array Edge} {gd:Option (Nat×Bool)} {fo:Operand} {args:Array Operand} {aT:Array TypeId} {fs cs xs:List PV} {c:Code}
 (hf:vev env.Γ L fo=some (.clo 101 fs cs)) (ha:evs env.Γ L args.toList=some xs) (hb:Tryz.f101.body=some c) (hn:(fs++xs++cs).length≤Tryz.f101.ntmps)
 (h:VWp env nx c (argFrame 0 (fs++xs++cs)) H nx (DoneI env.P Tryz.f101.results.toList Q)):VVal env true ⟨dst,.call { callee:=.value fo,args:=args,argTypes:=aT },ty,pos,af,gd⟩ L H nx Q:=by
 have h0:(match Tryz.f101.body with|some c=>fnOk env.G Tryz.f101 c|none=>false)=true:=by kernel_rfl
 rw [hb] at h0
 exact VVal.inline rfl hf ha (env_none (by decide)) Tryz.func101 hb h0 hn h
structure MatK (l:List (List Int)) (n m:Nat) (skip B:Int):Prop where
 mat:MatI l n m skip B
 n60:n≤60
 m120:m≤120
 B9:B≤1000000000
 m0:n=0→m=0
theorem MatK.cols {l:List (List Int)} {n m:Nat} {skip B:Int} (h:MatK l n m skip B):colsN l=m:=by
 rcases Nat.eq_zero_or_pos n with h0|h0
 ·have:l=[]:=List.length_eq_zero_iff.1 (by rw [h.mat.len];exact h0)
  rw [this,h.m0 h0]
  rfl
 ·exact h.mat.row 0 h0
theorem mcheck_spec {l:List (List Int)} {n m:Nat} {skip B:Int} (e:TypeId) (h:MatK l n m skip B):VFun env 73 [.lst e (cells l) l.length,.bool false] (.p (.int .i64 0)):=by
 have h1:=h.mat.len
 have h2:=h.n60
 have h3:=h.m120
 have h4:=h.B9
 have hcol:=h.cols
 have hrow:=h.mat.row
 have hrng:=h.mat.rng
 refine VFun.enter (env_none (by decide)) Tryz.func73 rfl (by kernel_rfl) (by simp [Tryz.ntmps73]) ?_
 rcases Nat.eq_zero_or_pos n with h0|h0
 ·have hl0:l=[]:=List.length_eq_zero_iff.1 (by omega)
  subst hl0
  repeat' (first|apply VWp.assoc|apply VWp.rseq|apply VWp.skipSeq|apply VWp.blockSeq|apply VOps.nil|apply VOps.one|(apply VOps.take;rfl;rfl)|(apply VOps.drop;rfl;rfl;rfl)|(apply VVal.assign;rfl)|(apply VVal.move;rfl)|(apply VVal.int;rfl;rfl;rfl)|(apply VVal.pick_false;rfl;rfl)|(apply VVal.lenF;rfl;rfl)|(apply VWp.condSeq_false;rfl))
  all_goals try (exfalso;omega)
  all_goals try contradiction
  apply VWp.loopR (0) [(0,_),(1,_),(24,_),(25,_)] [] (fun k r=>(26,.p (.int .i64 (k:Int)))::r) (fun k r=>r) 0
  ·first|omega|decide
  ·first|omega|decide
  ·repeat (first|exact LCov.nil|(refine LCov.eq rfl ?_ ?_;(first|exact PV.under_of rfl|(simp [PV.under,PVs.under];done)))|refine LCov.cons trivial rfl (.of_eq (lst_len (by simp<;>omega))) ?_)
  ·repeat (first|exact HCov.nil|(refine HCov.eq rfl (lt_dec rfl) ?_ ?_;(first|exact HB.under_of rfl|exact PVs.under_pure _ _|(simp [HB.under,PVs.under,PV.under];done)))|(refine HCov.cons (lt_dec rfl) ?_ rfl ?_ ?_;(first|exact trivial|exact PVs.under_pure _ _|(simp [HB.under,PVs.under,PV.under]));(first|exact HLe.refl _|exact HLe.vec (FLes.refl _) (by simp))))
  ·intro k hk;omega
  ·repeat' (first|apply VWp.assoc|apply VWp.rseq|apply VWp.skipSeq|apply VWp.exitSeq|apply VWp.blockSeq|apply QSeq.normal|apply QBlk.exit|apply QLoop.exit|apply VOps.nil|apply VOps.one|(apply VOps.drop;rfl;rfl;rfl)|(apply VVal.move;rfl)|(apply VVal.int;rfl;rfl;rfl)|(apply VVal.pick_false;rfl;rfl)|(apply VVal.lenF;rfl;rfl)|(apply VWp.condSeq_false;rfl))
   all_goals try (exfalso;omega)
   all_goals try contradiction
   apply VWp.loopR (0) [(0,_),(53,_),(54,_)] [] (fun k r=>(55,.p (.int .i64 (k:Int)))::r) (fun k r=>r) 0
   ·first|omega|decide
   ·first|omega|decide
   ·repeat (first|exact LCov.nil|(refine LCov.eq rfl ?_ ?_;(first|exact PV.under_of rfl|(simp [PV.under,PVs.under];done)))|refine LCov.cons trivial rfl (.of_eq (lst_len (by simp<;>omega))) ?_)
   ·repeat (first|exact HCov.nil|(refine HCov.eq rfl (lt_dec rfl) ?_ ?_;(first|exact HB.under_of rfl|exact PVs.under_pure _ _|(simp [HB.under,PVs.under,PV.under];done)))|(refine HCov.cons (lt_dec rfl) ?_ rfl ?_ ?_;(first|exact trivial|exact PVs.under_pure _ _|(simp [HB.under,PVs.under,PV.under]));(first|exact HLe.refl _|exact HLe.vec (FLes.refl _) (by simp))))
   ·intro k hk;omega
   ·repeat' (first|apply VWp.rseq|apply VWp.exitSeq|apply QSeq.normal|apply QBlk.exit|apply QLoop.exit|apply VWp.ret|apply VOps.nil|apply VOps.one|(apply VVal.assign;rfl)|(apply VVal.int;rfl;rfl;rfl)|(apply VWp.condSeq_false;rfl))
    all_goals first|(exfalso;omega)|contradiction|(refine Done.ret rfl (.refl _) (by first|exact trivial|exact ⟨trivial,trivial,trivial⟩|exact ⟨trivial,trivial,trivial,trivial⟩) HCov.nil (Nat.zero_le _) (Nat.le_refl _) ⟨?_,rfl,rfl⟩;try rfl)
 ·have hr0:=hrow 0 h0
  have hc0:(gi l 0).length=m:=hr0
  repeat' (first|apply VWp.assoc|apply VWp.rseq|apply VWp.skipSeq|apply VWp.blockSeq|apply VOps.nil|apply VOps.one|(apply VOps.take;rfl;rfl)|(apply VOps.guard;rfl;rfl)|(apply VVal.indexN (l:=l) (i:=0);rfl;rfl;rfl;omega;rfl)|(apply VVal.assign;rfl)|(apply VVal.move;rfl)|(apply VVal.int;rfl;rfl;rfl)|(apply VVal.load;rfl;rfl)|(apply VVal.pick_true;rfl;rfl)|(apply VVal.pick_false;rfl;rfl)|(apply VVal.lenF;rfl;rfl)|(apply VWp.condSeq_dec;rfl)|(intro _;try (exfalso;omega)))
  all_goals try (exfalso;omega)
  all_goals try contradiction
  apply VWp.loopR (l.length) [(0,_),(1,_),(24,_),(25,_)] [] (fun k r=>(26,.p (.int .i64 (k:Int)))::r) (fun k r=>r) 0
  ·first|omega|decide
  ·first|omega|decide
  ·repeat (first|exact LCov.nil|(refine LCov.eq rfl ?_ ?_;(first|exact PV.under_of rfl|(simp [PV.under,PVs.under];done)))|refine LCov.cons trivial rfl (.of_eq (lst_len (by simp<;>omega))) ?_)
  ·repeat (first|exact HCov.nil|(refine HCov.eq rfl (lt_dec rfl) ?_ ?_;(first|exact HB.under_of rfl|exact PVs.under_pure _ _|(simp [HB.under,PVs.under,PV.under];done)))|(refine HCov.cons (lt_dec rfl) ?_ rfl ?_ ?_;(first|exact trivial|exact PVs.under_pure _ _|(simp [HB.under,PVs.under,PV.under]));(first|exact HLe.refl _|exact HLe.vec (FLes.refl _) (by simp))))
  ·intro k hk
   have hrk:=hrow k (by omega)
   repeat' (first|apply VWp.rseq|apply VWp.region|apply VWp.skipSeq|apply VWp.blockSeq|apply QSeq.normal|apply QBlk.normal|apply VWp.skip|apply VOps.nil|apply VOps.one|(apply VVal.indexN (l:=l) (i:=k);rfl;rfl;rfl;omega;rfl)|(apply VVal.indexN (l:=l) (i:=0);rfl;rfl;rfl;omega;rfl)|(apply VVal.assign;rfl)|(apply VVal.move;rfl)|(apply VVal.add64;rfl;rfl;omega)|(apply VVal.int;rfl;rfl;rfl)|(apply VVal.load;rfl;rfl)|(apply VVal.lenF;rfl;rfl)|(apply VWp.condSeq_dec;rfl)|(apply VWp.cond_dec;rfl)|(intro _;try (exfalso;omega)))
   all_goals try (exfalso;omega)
   refine QLoop.normal ⟨by first|omega|decide,?_,?_⟩
   ·repeat (first|exact LCov.nil|refine LCov.same trivial rfl ?_|refine LCov.same (lt_dec rfl) rfl ?_|refine LCov.same ⟨trivial,lt_dec rfl,trivial⟩ rfl ?_|refine LCov.same ⟨trivial,lt_dec rfl,lt_dec rfl,trivial⟩ rfl ?_|refine LCov.same ⟨trivial,lt_dec rfl,lt_dec rfl,lt_dec rfl,trivial⟩ rfl ?_|refine LCov.same ⟨trivial,lt_dec rfl,lt_dec rfl,lt_dec rfl,lt_dec rfl,trivial⟩ rfl ?_|refine LCov.same ⟨trivial,trivial⟩ rfl ?_|refine LCov.cons trivial rfl (.of_eq (lst_len (by simp<;>omega))) ?_)
   ·repeat (first|exact HCov.nil|(refine HCov.cons (lt_dec rfl) ?_ rfl ?_ ?_;(first|exact HB.under_of rfl|exact PVs.under_pure _ _|(simp [HB.under,PVs.under,PV.under]));(first|exact HLe.refl _|exact HLe.vec (FLes.refl _) (by simp))))
  ·repeat' (first|apply VWp.assoc|apply VWp.rseq|apply VWp.skipSeq|apply VWp.exitSeq|apply VWp.blockSeq|apply QSeq.normal|apply QBlk.exit|apply QLoop.exit|apply VOps.nil|apply VOps.one|(apply VOps.drop;rfl;rfl;rfl)|(apply VVal.move;rfl)|(apply VVal.int;rfl;rfl;rfl)|(apply VVal.pick_false;rfl;rfl)|(apply VVal.lenF;rfl;rfl)|(apply VWp.condSeq_false;rfl)|(apply VWp.condSeq_dec;rfl)|(intro _;try (exfalso;omega)))
   all_goals try (exfalso;omega)
   all_goals try contradiction
   apply VWp.loopR (l.length) [(0,_),(53,_),(54,_)] [] (fun k r=>(55,.p (.int .i64 (k:Int)))::r) (fun k r=>r) 0
   ·first|omega|decide
   ·first|omega|decide
   ·repeat (first|exact LCov.nil|(refine LCov.eq rfl ?_ ?_;(first|exact PV.under_of rfl|(simp [PV.under,PVs.under];done)))|refine LCov.cons trivial rfl (.of_eq (lst_len (by simp<;>omega))) ?_)
   ·repeat (first|exact HCov.nil|(refine HCov.eq rfl (lt_dec rfl) ?_ ?_;(first|exact HB.under_of rfl|exact PVs.under_pure _ _|(simp [HB.under,PVs.under,PV.under];done)))|(refine HCov.cons (lt_dec rfl) ?_ rfl ?_ ?_;(first|exact trivial|exact PVs.under_pure _ _|(simp [HB.under,PVs.under,PV.under]));(first|exact HLe.refl _|exact HLe.vec (FLes.refl _) (by simp))))
   ·intro k hk
    have hrk:=hrow k (by omega)
    repeat' (first|apply VWp.assoc|apply VWp.rseq|apply VWp.skipSeq|apply VWp.blockSeq|apply VOps.nil|apply VOps.one|(apply inl_CFI;rfl;rfl;rfl;exact le_dec rfl)|(apply inl_IFI;rfl;rfl;rfl;exact le_dec rfl)|(apply VVal.assign;rfl)|(apply VVal.move;rfl)|(apply VVal.int;rfl;rfl;rfl)|(apply VVal.indexN;rfl;rfl;rfl;omega;rfl)|(apply VVal.load;rfl;rfl)|(apply VVal.lenF;rfl;rfl)|(apply VWp.condSeq_dec;rfl)|(intro _;try (exfalso;omega)))
    all_goals try (exfalso;omega)
    apply VWp.loopR ((gi l k).length) [(0,_),(1,_),(7,_)] [] (fun k_ r=>(8,.p (.int .i64 (k_:Int)))::r) (fun k_ r=>r) 0
    ·first|omega|decide
    ·first|omega|decide
    ·repeat (first|exact LCov.nil|(refine LCov.eq rfl ?_ ?_;(first|exact PV.under_of rfl|(simp [PV.under,PVs.under];done)))|refine LCov.cons trivial rfl (.of_eq (lst_len (by simp<;>omega))) ?_)
    ·repeat (first|exact HCov.nil|(refine HCov.eq rfl (lt_dec rfl) ?_ ?_;(first|exact HB.under_of rfl|exact PVs.under_pure _ _|(simp [HB.under,PVs.under,PV.under];done)))|(refine HCov.cons (lt_dec rfl) ?_ rfl ?_ ?_;(first|exact trivial|exact PVs.under_pure _ _|(simp [HB.under,PVs.under,PV.under]));(first|exact HLe.refl _|exact HLe.vec (FLes.refl _) (by simp))))
    ·intro j hj
     have hb:=hrng k j (by omega) (by omega)
     repeat' (first|apply VWp.rseq|apply VWp.region|apply VWp.skipSeq|apply VWp.blockSeq|apply QSeq.normal|(apply DoneI.ret;rfl)|apply QBlk.normal|apply VWp.ret|apply VWp.skip|apply VOps.nil|apply VOps.one|(apply VOps.take;rfl;rfl)|(apply VOps.guard;rfl;rfl)|(apply inl_CK1;rfl;rfl;rfl;exact le_dec rfl)|(apply VVal.assign;rfl)|(apply VVal.move;rfl)|(apply VVal.add64;rfl;rfl;omega)|(apply VVal.int;rfl;rfl;rfl)|(apply VVal.indexN;rfl;rfl;rfl;omega;rfl)|(apply VVal.load;rfl;rfl)|(apply VVal.pick_false;rfl;rfl)|(apply VWp.condSeq_dec;rfl)|(apply VWp.cond_dec;rfl)|(intro _;try (exfalso;omega)))
     all_goals try (exfalso;omega)
     refine QLoop.normal ⟨by first|omega|decide,?_,?_⟩
     ·repeat (first|exact LCov.nil|refine LCov.same trivial rfl ?_|refine LCov.same (lt_dec rfl) rfl ?_|refine LCov.same ⟨trivial,lt_dec rfl,trivial⟩ rfl ?_|refine LCov.same ⟨trivial,lt_dec rfl,lt_dec rfl,trivial⟩ rfl ?_|refine LCov.same ⟨trivial,lt_dec rfl,lt_dec rfl,lt_dec rfl,trivial⟩ rfl ?_|refine LCov.same ⟨trivial,lt_dec rfl,lt_dec rfl,lt_dec rfl,lt_dec rfl,trivial⟩ rfl ?_|refine LCov.same ⟨trivial,trivial⟩ rfl ?_|refine LCov.cons trivial rfl (.of_eq (lst_len (by simp<;>omega))) ?_)
     ·repeat (first|exact HCov.nil|(refine HCov.cons (lt_dec rfl) ?_ rfl ?_ ?_;(first|exact HB.under_of rfl|exact PVs.under_pure _ _|(simp [HB.under,PVs.under,PV.under]));(first|exact HLe.refl _|exact HLe.vec (FLes.refl _) (by simp))))
    ·repeat' (first|apply VWp.rseq|apply VWp.region|apply VWp.exitSeq|apply QSeq.normal|(apply DoneI.ret;rfl)|apply QBlk.normal|apply QBlk.exit|apply QLoop.exit|apply VWp.ret|apply VWp.skip|apply VOps.nil|apply VOps.one|(apply VVal.assign;rfl)|(apply VVal.move;rfl)|(apply VVal.add64;rfl;rfl;omega)|(apply VVal.int;rfl;rfl;rfl)|(apply VWp.condSeq_dec;rfl)|(apply VWp.cond_false;rfl)|(intro _;try (exfalso;omega)))
     all_goals try (exfalso;omega)
     all_goals try contradiction
     refine QLoop.normal ⟨by first|omega|decide,?_,?_⟩
     ·repeat (first|exact LCov.nil|refine LCov.same trivial rfl ?_|refine LCov.same (lt_dec rfl) rfl ?_|refine LCov.same ⟨trivial,lt_dec rfl,trivial⟩ rfl ?_|refine LCov.same ⟨trivial,lt_dec rfl,lt_dec rfl,trivial⟩ rfl ?_|refine LCov.same ⟨trivial,lt_dec rfl,lt_dec rfl,lt_dec rfl,trivial⟩ rfl ?_|refine LCov.same ⟨trivial,lt_dec rfl,lt_dec rfl,lt_dec rfl,lt_dec rfl,trivial⟩ rfl ?_|refine LCov.same ⟨trivial,trivial⟩ rfl ?_|refine LCov.cons trivial rfl (.of_eq (lst_len (by simp<;>omega))) ?_)
     ·repeat (first|exact HCov.nil|(refine HCov.cons (lt_dec rfl) ?_ rfl ?_ ?_;(first|exact HB.under_of rfl|exact PVs.under_pure _ _|(simp [HB.under,PVs.under,PV.under]));(first|exact HLe.refl _|exact HLe.vec (FLes.refl _) (by simp))))
   ·repeat' (first|apply VWp.rseq|apply VWp.exitSeq|apply QSeq.normal|apply QBlk.exit|apply QLoop.exit|apply VWp.ret|apply VOps.nil|apply VOps.one|(apply VVal.assign;rfl)|(apply VVal.int;rfl;rfl;rfl)|(apply VWp.condSeq_dec;rfl)|(intro _;try (exfalso;omega)))
    all_goals first|(exfalso;omega)|contradiction|(refine Done.ret rfl (.refl _) (by first|exact trivial|exact ⟨trivial,trivial,trivial⟩|exact ⟨trivial,trivial,trivial,trivial⟩) HCov.nil (Nat.zero_le _) (Nat.le_refl _) ⟨?_,rfl,rfl⟩;try rfl)
theorem mcheckP_spec {l:List (List Int)} {n m:Nat} {skip B:Int} (e:TypeId) (h:MatK l n m skip B):VFun env 46 [.lst e (cells l) l.length,.int .i64 skip] (.p (.int .i64 0)):=by
 have hc:=mcheck_spec e h
 have h4:=h.B9
 have h5:=h.mat.skip
 refine VFun.enter (env_none (by decide)) Tryz.func46 rfl (by kernel_rfl) (by simp [Tryz.ntmps46]) ?_
 repeat' (first|apply VWp.assoc|apply VWp.rseq|apply VWp.skipSeq|apply VWp.ret|apply VOps.nil|apply VOps.one|(apply VOps.take;rfl;rfl)|(apply VOps.guard;rfl;rfl)|(apply VVal.fn;rfl;rfl;exact hc;intro _;rfl)|(apply VVal.assign;rfl)|(apply VVal.move;rfl)|(apply VVal.int;rfl;rfl;rfl)|(apply VVal.pick_false;rfl;rfl)|(apply VWp.condSeq_false;rfl)|(apply VWp.condSeq_dec;rfl)|(intro _;try (exfalso;omega)))
 all_goals first|(exfalso;omega)|contradiction|(refine Done.ret rfl (.refl _) (by first|exact trivial|exact ⟨trivial,trivial,trivial⟩|exact ⟨trivial,trivial,trivial,trivial⟩) HCov.nil (Nat.zero_le _) (Nat.le_refl _) ⟨?_,rfl,rfl⟩;try rfl)
theorem cols_spec {l:List (List Int)} {n m:Nat} {skip B:Int} (e:TypeId) (h:MatK l n m skip B):VFun env 69 [.lst e (cells l) l.length] (.p (.int .i64 (m:Int))):=by
 have:=columns_spec e l (by have:=h.mat.len;have:=h.n60;omega)
 rwa [h.cols] at this
theorem cloneI_spec (l:List Int) (h0:0<l.length) (h1:l.length<1000000):VFunV env 70 [.lst 3 (cells l) l.length] 3 (cells l) l.length false:=by
 refine VFunV.enter (env_none (by decide)) Tryz.func70 rfl (by kernel_rfl) (by simp [Tryz.ntmps70]) ?_
 repeat' (first|apply VWp.assoc|apply VWp.rseq|apply VWp.skipSeq|apply VWp.ret|apply VOps.nil|apply VOps.one|(apply VVal.eqNilF;rfl;rfl;rfl;exact h0)|(apply VVal.assign;rfl)|(apply VVal.move;rfl)|(apply VVal.buildSlice;rfl;rfl;rfl;decide;rfl;rfl;rfl)|(apply VVal.appendL0;rfl;rfl;rfl;(first|rfl|omega|(simp only [List.length_take,List.length_drop,List.length_append,List.length_singleton,List.length_cons,List.length_nil]<;>omega));rfl;rfl;(intro _ h;cases h);rfl;rfl;rfl;decide;decide;(first|omega|(simp only [List.length_take,List.length_drop,List.length_append,List.length_singleton,List.length_cons,List.length_nil]<;>omega)))|(apply VWp.condSeq_false;rfl))
 exact DoneV.ret rfl rfl rfl rfl
theorem inl_CLI {L:Vm.Frame} {H:Vm.Heap} {nx:Nat} {Q:PV→Vm.Heap→Nat→Prop} {dst:Option Tmp} {ty:TypeId} {pos:String} {af:Array Edge} {gd:Option (Nat×Bool)} {fo:Operand} {args:Array Operand} {aT:Array TypeId} {fs cs xs:List PV} {c:Code}
 (hf:vev env.Γ L fo=some (.clo 70 fs cs)) (ha:evs env.Γ L args.toList=some xs) (hb:Tryz.f70.body=some c) (hn:(fs++xs++cs).length≤Tryz.f70.ntmps)
 (h:VWp env nx c (argFrame 0 (fs++xs++cs)) H nx (DoneI env.P Tryz.f70.results.toList Q)):VVal env true ⟨dst,.call { callee:=.value fo,args:=args,argTypes:=aT },ty,pos,af,gd⟩ L H nx Q:=by
 have h0:(match Tryz.f70.body with|some c=>fnOk env.G Tryz.f70 c|none=>false)=true:=by kernel_rfl
 rw [hb] at h0
 exact VVal.inline rfl hf ha (env_none (by decide)) Tryz.func70 hb h0 hn h
theorem tk_succ {α:Type} [Inhabited α] {l:List α} {k:Nat} (h:k<l.length):l.take (k+1)=l.take k++[gi l k]:=by
 rw [List.take_succ_eq_append_getElem h]
 unfold gi
 rw [List.getElem?_eq_getElem h];rfl
def rowW (l:List (List Int)) (skip:Int) (k:Nat):List Int:=gi l k++List.replicate (l.length+1) skip
def wideS (l:List (List Int)) (skip:Int) (k:Nat):List (List Int):=(wideK l skip l.length).take k++List.replicate (l.length-k) []
theorem wideK_len (l:List (List Int)) (skip:Int) (n:Nat):(wideK l skip n).length=l.length:=by simp [wideK]
theorem wideS_len (l:List (List Int)) (skip:Int) {k:Nat} (h:k≤l.length):(wideS l skip k).length=l.length:=by
 unfold wideS
 rw [List.length_append,List.length_take,List.length_replicate,wideK_len];omega
theorem wideS_all (l:List (List Int)) (skip:Int):wideS l skip l.length=wideK l skip l.length:=by
 unfold wideS
 rw [Nat.sub_self,List.take_of_length_le (by rw [wideK_len];exact Nat.le_refl _)]
 simp
theorem wideS_set (l:List (List Int)) (skip:Int) {k:Nat} (h:k<l.length):(wideS l skip k).set k (rowW l skip k)=wideS l skip (k+1):=by
 have e1:rowW l skip k=gi (wideK l skip l.length) k:=(gi_map' (fun row=>row++List.replicate (l.length+1) skip) h).symm
 have hk:k<(wideK l skip l.length).length:=by rw [wideK_len];exact h
 obtain ⟨r,hr⟩:∃ r,l.length-k=r+1:=⟨l.length-k-1,by omega⟩
 unfold wideS
 rw [e1,tk_succ hk,hr,show l.length-(k+1)=r by omega]
 have ht:((wideK l skip l.length).take k).length=k:=by rw [List.length_take];omega
 generalize gi (wideK l skip l.length) k=x
 generalize (wideK l skip l.length).take k=t at *
 rw [List.set_append_right _ _ (by omega),ht,Nat.sub_self,List.replicate_succ,List.set_cons_zero,List.append_assoc]
 rfl
theorem fles_nils:∀ n:Nat,FLes ((repeatCells [.slice none 0 0] n).map cellFV) (cells (List.replicate n ([]:List Int)))
 |0=>.refl _
 |n+1=>.cons (.nil _) (fles_nils n)
theorem wideS_zero (l:List (List Int)) (skip:Int):wideS l skip 0=List.replicate l.length []:=by unfold wideS;simp
def cutS (m:Nat) (cols:List Int) (j:Nat):List Int:=(cols.take j).map (cutC m)++cols.drop j
theorem cutS_len (m:Nat) (cols:List Int) (j:Nat):(cutS m cols j).length=cols.length:=by
 unfold cutS
 rw [List.length_append,List.length_map,List.length_take,List.length_drop];omega
theorem cutS_at (m:Nat) (cols:List Int) {j:Nat} (h:j<cols.length):gi (cutS m cols j) j=gi cols j:=by
 unfold cutS gi
 rw [List.getElem?_append_right (by rw [List.length_map,List.length_take];omega),List.length_map,List.length_take,Nat.min_eq_left (Nat.le_of_lt h),Nat.sub_self,List.getElem?_drop,Nat.add_zero]
theorem cutS_set (m:Nat) (cols:List Int) {j:Nat} (h:j<cols.length):(cutS m cols j).set j (cutC m (gi cols j))=cutS m cols (j+1):=by
 unfold cutS
 have ht:((cols.take j).map (cutC m)).length=j:=by rw [List.length_map,List.length_take];omega
 rw [List.set_append_right _ _ (by omega),ht,Nat.sub_self,tk_succ h,List.map_append,List.append_assoc]
 congr 1
 rw [List.drop_eq_getElem_cons h,List.set_cons_zero]
 rfl
theorem cutS_same (m:Nat) (cols:List Int) {j:Nat} (h:j<cols.length) (hc:cutC m (gi cols j)=gi cols j):cutS m cols (j+1)=cutS m cols j:=by
 rw [← cutS_set m cols h,hc,← cutS_at m cols h]
 refine List.ext_getElem? fun i=>?_
 rw [List.getElem?_set]
 by_cases e:j=i
 ·subst e
  rw [if_pos rfl,if_pos (by rw [cutS_len];exact h)]
  unfold gi
  rw [List.getElem?_eq_getElem (by rw [cutS_len];exact h)]
  rfl
 ·rw [if_neg e]
theorem cutS_all (m:Nat) (cols:List Int):cutS m cols cols.length=cols.map (cutC m):=by
 unfold cutS
 rw [List.take_of_length_le (Nat.le_refl _),List.drop_of_length_le (Nat.le_refl _),List.append_nil]
structure MRes where
 cols:List Int
 total:Int
 rows:List Int
 pots:List Int
def MRes.enc (x:MRes):List FV:=[.lst 3 (cells x.cols) x.cols.length,.int .i64 x.total,.lst 3 (cells x.rows) x.rows.length,.lst 3 (cells x.pots) x.pots.length]
instance:Enc MRes:={ default:=⟨[],0,[],[]⟩,enc:=MRes.enc,size:=4,len:=fun _=>rfl }
def parM (l:List (List Int)) (m:Nat) (skip:Int):MRes:=⟨parC l l.length m skip,parT l l.length m skip,parU l l.length m skip,parV l l.length m skip⟩
theorem partial_spec {l:List (List Int)} {m:Nat} {skip B:Int} (e:TypeId) (h:MatK l l.length m skip B) (h0:0<l.length) :
 VFun env 45 [.lst e (cells l) l.length,.int .i64 skip] (.tup [.p (.agg (Enc.enc (parM l m skip))),.p (.int .i64 0)]):=by
 have hck:=mcheckP_spec e h
 have hcl:=cols_spec e h
 have h2:=h.n60
 have h3:=h.m120
 have hrow:=h.mat.row
 have hP:=par_ok h.mat
 have hw:=wide_cost h.mat
 have hs:=solve_ok hw
 have hsv:=solve_calls (costs:=wideK l skip l.length) (n:=l.length) (m:=m+(l.length+1)) 52 hw (wideK_len _ _ _) (fun r hr=>by
  unfold wideK
  rw [gi_map' _ hr,List.length_append,List.length_replicate,hrow r hr]) h0 (by omega)
 have hroom:l.length*(24+1)≤room∧l.length≤2 ^ 40:=⟨by have:=room_ok (n:=l.length) (k:=0) (b:=24) (by omega) (by decide);simpa using this,by omega⟩
 refine VFun.enter (env_none (by decide)) Tryz.func45 rfl (by kernel_rfl) (by simp [Tryz.ntmps45]) ?_
 repeat' (first|apply VWp.assoc|apply VWp.rseq|apply VWp.skipSeq|apply VWp.blockSeq|apply VOps.nil|apply VOps.one|(apply VVal.fn;rfl;rfl;exact hck;intro _;rfl)|(apply VVal.fn;rfl;rfl;exact hcl;intro _;rfl)|(apply VVal.makeSlice (n:=l.length);rfl;rfl;rfl;rfl;rfl;exact hroom;decide)|(apply VVal.assign;rfl)|(apply VVal.move;rfl)|(apply VVal.int;rfl;rfl;rfl)|(apply VVal.lenF;rfl;rfl)|(apply VVal.alloc;rfl)|(apply VWp.condSeq_false;rfl))
 all_goals try (exfalso;omega)
 all_goals try contradiction
 refine VWp.ghost (Ghost.leVec 1 (cells (wideS l skip 0)) rfl (by rw [wideS_zero];exact fles_nils _)) ?_
 apply VWp.loopR (l.length) [(0,_),(1,_),(4,_),(7,_),(8,_),(26,_),(27,_)] [(0,_)] (fun k r=>(28,.p (.int .i64 (k:Int)))::r) (fun k r=>(1,.vec 52 (cells (wideS l skip k)) l.length false)::r) 2
 ·first|omega|decide
 ·first|omega|decide
 ·repeat (first|exact LCov.nil|(refine LCov.eq rfl ?_ ?_;(first|exact PV.under_of rfl|(simp [PV.under,PVs.under];done)))|refine LCov.cons trivial rfl (.of_eq (lst_len (by simp<;>omega))) ?_)
 ·repeat (first|exact HCov.nil|(refine HCov.eq rfl (lt_dec rfl) ?_ ?_;(first|exact HB.under_of rfl|exact PVs.under_pure _ _|(simp [HB.under,PVs.under,PV.under];done)))|(refine HCov.cons (lt_dec rfl) ?_ rfl ?_ ?_;(first|exact trivial|exact PVs.under_pure _ _|(simp [HB.under,PVs.under,PV.under]));(first|exact HLe.refl _|exact HLe.vec (FLes.refl _) (by simp))))
 ·intro k hk
  have hrk:=hrow k hk
  have hsl:=wideS_len l skip (Nat.le_of_lt hk)
  have hst:=wideS_set l skip hk
  have hrep:=repeat_spec 3 skip (l.length+1) (by omega) (by omega)
  have hlen:(gi l k++List.replicate (l.length+1) skip).length=(gi l k).length+(List.replicate (l.length+1) skip).length:=List.length_append
  have hrl:(List.replicate (l.length+1) skip).length=l.length+1:=List.length_replicate
  have hpc:pcells (.p (.lst 3 (cells (gi l k++List.replicate (l.length+1) skip)) ((gi l k).length+(List.replicate (l.length+1) skip).length)))=(Enc.enc (rowW l skip k)).map .p:=by
   show [PV.p (FV.lst 3 (cells (gi l k++List.replicate (l.length+1) skip)) ((gi l k).length+(List.replicate (l.length+1) skip).length))]=[PV.p (FV.lst 3 (cells (rowW l skip k)) (rowW l skip k).length)]
   rw [show (rowW l skip k).length=_ from hlen];rfl
  by_cases hm:0<m
  ·have hcn:=cloneI_spec (gi l k) (by omega) (by omega)
   repeat' (first|(refine VOps.atOp 42 ?_;refine VOps.ghost (Ghost.freeze 38 rfl rfl) ?_)|(refine VOps.atOp 43 ?_;refine VOps.ghost (Ghost.freeze 42 rfl rfl) ?_)|(refine VOps.atOp 44 ?_;refine VOps.ghost (Ghost.freeze 43 rfl rfl) ?_)|apply VWp.rseq|apply VWp.region|apply VWp.skipSeq|apply VWp.blockSeq|apply QSeq.normal|apply QBlk.normal|apply VOps.nil|apply VOps.one|(apply VVal.fv;rfl;rfl;exact hcn)|(apply VVal.fv;rfl;rfl;exact hrep)|(apply VVal.storeVL (y:=rowW l skip k);rfl;rfl;rfl;trivial;exact hpc;rfl;rfl;decide;omega)|(apply VVal.appendL (l:=gi l k) (r:=List.replicate (l.length+1) skip);rfl;rfl;rfl;rfl;exact hrl;rfl;rfl;(intro _ h;cases h);rfl;rfl;rfl;decide;decide;omega)|(apply VVal.assign;rfl)|(apply VVal.move;rfl)|(apply VVal.add64;rfl;rfl;omega)|(apply VVal.int;rfl;rfl;rfl)|(apply VVal.indexN;rfl;rfl;rfl;omega;rfl)|(apply VVal.load;rfl;rfl)|(apply VVal.lenF;rfl;rfl)|(apply VVal.buildSlice;rfl;rfl;rfl;decide;rfl;rfl;rfl)|(apply VVal.indexVN;rfl;rfl;rfl;rfl;omega)|(apply VWp.condSeq_dec;rfl)|(intro _;try (exfalso;omega)))
   all_goals try (exfalso;omega)
   refine QLoop.normal ⟨by first|omega|decide,?_,?_⟩
   ·try (rw [← hst])
    repeat (first|exact LCov.nil|refine LCov.same trivial rfl ?_|refine LCov.same (lt_dec rfl) rfl ?_|refine LCov.same ⟨trivial,lt_dec rfl,trivial⟩ rfl ?_|refine LCov.same ⟨trivial,lt_dec rfl,lt_dec rfl,trivial⟩ rfl ?_|refine LCov.same ⟨trivial,lt_dec rfl,lt_dec rfl,lt_dec rfl,trivial⟩ rfl ?_|refine LCov.same ⟨trivial,lt_dec rfl,lt_dec rfl,lt_dec rfl,lt_dec rfl,trivial⟩ rfl ?_|refine LCov.same ⟨trivial,trivial⟩ rfl ?_|refine LCov.cons trivial rfl (.of_eq (lst_len (by simp<;>omega))) ?_)
   ·rw [← hst]
    repeat (first|exact HCov.nil|(refine HCov.cons (lt_dec rfl) ?_ rfl ?_ ?_;(first|exact HB.under_of rfl|exact PVs.under_pure _ _|(simp [HB.under,PVs.under,PV.under]));(first|exact HLe.refl _|exact HLe.vec (FLes.refl _) (by simp))))
  ·have hl0:gi l k=[]:=List.length_eq_zero_iff.1 (by omega)
   have hpc0:pcells (.p (.lst 3 (cells (List.replicate (l.length+1) skip)) (List.replicate (l.length+1) skip).length))=(Enc.enc (rowW l skip k)).map .p:=by
    rw [show rowW l skip k=List.replicate (l.length+1) skip by unfold rowW;rw [hl0];rfl];rfl
   repeat' (first|(refine VOps.atOp 42 ?_;refine VOps.ghost (Ghost.freeze 38 rfl rfl) ?_)|(refine VOps.atOp 43 ?_;refine VOps.ghost (Ghost.trans (Ghost.freeze 42 rfl rfl) (Ghost.adopt 36 3 rfl)) ?_)|(refine VOps.atOp 43 ?_;refine VOps.ghost (Ghost.freeze 42 rfl rfl) ?_)|(refine VOps.atOp 44 ?_;refine VOps.ghost (Ghost.freeze 43 rfl rfl) ?_)|apply VWp.assoc|apply VWp.rseq|apply VWp.region|apply VWp.skipSeq|apply VWp.retSeq|apply VWp.blockSeq|apply QSeq.normal|(apply DoneI.ret;rfl)|apply QBlk.normal|apply VWp.ret|apply VOps.nil|apply VOps.one|(apply inl_CLI;rfl;rfl;rfl;exact le_dec rfl)|(apply VVal.fv;rfl;rfl;exact hrep)|(apply VVal.storeVL (y:=rowW l skip k);rfl;rfl;rfl;trivial;exact hpc0;rfl;rfl;decide;omega)|(apply VVal.appendL0 (r:=List.replicate (l.length+1) skip);rfl;rfl;rfl;exact hrl;rfl;rfl;(intro _ h;cases h);rfl;rfl;rfl;decide;decide;omega)|(apply VVal.eqNil;rfl;rfl;rfl;intro b hb)|(apply VVal.storeVL (y:=rowW l skip k);rfl;rfl;rfl;trivial;exact hpc;rfl;rfl;decide;omega)|(apply VVal.appendL (l:=gi l k) (r:=List.replicate (l.length+1) skip);rfl;rfl;rfl;rfl;exact hrl;rfl;rfl;(intro _ h;cases h);rfl;rfl;rfl;decide;decide;omega)|(apply VVal.assign;rfl)|(apply VVal.move;rfl)|(apply VVal.add64;rfl;rfl;omega)|(apply VVal.int;rfl;rfl;rfl)|(apply VVal.indexN;rfl;rfl;rfl;omega;rfl)|(apply VVal.load;rfl;rfl)|(apply VVal.lenF;rfl;rfl)|(apply VVal.buildSlice;rfl;rfl;rfl;decide;rfl;rfl;rfl)|(apply VVal.indexVN;rfl;rfl;rfl;rfl;omega)|(apply VVal.appendL0;rfl;rfl;rfl;(first|rfl|omega|(simp only [List.length_take,List.length_drop,List.length_append,List.length_singleton,List.length_cons,List.length_nil]<;>omega));rfl;rfl;(intro _ h;cases h);rfl;rfl;rfl;decide;decide;(first|omega|(simp only [List.length_take,List.length_drop,List.length_append,List.length_singleton,List.length_cons,List.length_nil]<;>omega)))|(apply VWp.condSeq_dec;rfl)|(apply VWp.condSeq;rfl)|(intro _;try (exfalso;omega)))
   all_goals try (exfalso;omega)
   ·refine QLoop.normal ⟨by first|omega|decide,?_,?_⟩
    ·try (rw [← hst])
     repeat (first|exact LCov.nil|refine LCov.same trivial rfl ?_|refine LCov.same (lt_dec rfl) rfl ?_|refine LCov.same ⟨trivial,lt_dec rfl,trivial⟩ rfl ?_|refine LCov.same ⟨trivial,lt_dec rfl,lt_dec rfl,trivial⟩ rfl ?_|refine LCov.same ⟨trivial,lt_dec rfl,lt_dec rfl,lt_dec rfl,trivial⟩ rfl ?_|refine LCov.same ⟨trivial,lt_dec rfl,lt_dec rfl,lt_dec rfl,lt_dec rfl,trivial⟩ rfl ?_|refine LCov.same ⟨trivial,trivial⟩ rfl ?_|refine LCov.cons trivial rfl (.of_eq (lst_len (by simp<;>omega))) ?_)
    ·rw [← hst]
     repeat (first|exact HCov.nil|(refine HCov.cons (lt_dec rfl) ?_ rfl ?_ ?_;(first|exact HB.under_of rfl|exact PVs.under_pure _ _|(simp [HB.under,PVs.under,PV.under]));(first|exact HLe.refl _|exact HLe.vec (FLes.refl _) (by simp))))
   ·refine QLoop.normal ⟨by first|omega|decide,?_,?_⟩
    ·try (rw [← hst])
     repeat (first|exact LCov.nil|refine LCov.same trivial rfl ?_|refine LCov.same (lt_dec rfl) rfl ?_|refine LCov.same ⟨trivial,lt_dec rfl,trivial⟩ rfl ?_|refine LCov.same ⟨trivial,lt_dec rfl,lt_dec rfl,trivial⟩ rfl ?_|refine LCov.same ⟨trivial,lt_dec rfl,lt_dec rfl,lt_dec rfl,trivial⟩ rfl ?_|refine LCov.same ⟨trivial,lt_dec rfl,lt_dec rfl,lt_dec rfl,lt_dec rfl,trivial⟩ rfl ?_|refine LCov.same ⟨trivial,trivial⟩ rfl ?_|refine LCov.cons trivial rfl (.of_eq (lst_len (by simp<;>omega))) ?_)
    ·rw [← hst]
     repeat (first|exact HCov.nil|(refine HCov.cons (lt_dec rfl) ?_ rfl ?_ ?_;(first|exact HB.under_of rfl|exact PVs.under_pure _ _|(simp [HB.under,PVs.under,PV.under]));(first|exact HLe.refl _|exact HLe.vec (FLes.refl _) (by simp))))
 ·rw [wideS_all]
  have lC:(solveO (wideK l skip l.length) l.length (m+(l.length+1))).cols.length=l.length:=hs.len
  have lV:(solveV (wideK l skip l.length) l.length (m+(l.length+1))).length=m+(l.length+1):=hs.lV
  repeat' (first|(refine VOps.atOp 47 ?_;refine VOps.ghost (Ghost.freeze 46 rfl rfl) ?_)|apply VWp.assoc|apply VWp.rseq|apply VWp.exitSeq|apply VWp.blockSeq|apply QSeq.normal|apply QBlk.exit|apply QLoop.exit|apply VOps.nil|apply VOps.one|(apply VVal.callK [] (hsv);rfl;rfl;exact .of_eq rfl;exact PVs.under_of rfl;exact HUnder_of rfl;(repeat (first|exact trivial|refine ⟨⟨_,rfl,.of_eq rfl⟩,?_⟩));decide;(intro _ hb;first|(simp at hb;done)|(simp at hb ⊢<;>omega));(rintro _ _ _ ⟨rfl,rfl,rfl⟩))|(apply VVal.sliceTo (l:=solveV (wideK l skip l.length) l.length (m+(l.length+1))) (b:=m);rfl;rfl;rfl;rfl;rfl;exact lV;omega)|(apply VVal.move;rfl)|(apply VVal.int;rfl;rfl;rfl)|(apply VVal.load;rfl;rfl)|(apply VVal.lenF;rfl;rfl)|(apply VVal.lenV;rfl;rfl;rfl)|(apply VVal.fieldB;rfl;rfl;rfl)|(apply VVal.alloc;rfl)|(apply VVal.storeB;rfl;rfl;rfl;trivial;rfl;rfl;exact lt_dec rfl;exact le_dec rfl)|(apply VWp.condSeq_dec;rfl)|(intro _;try (exfalso;omega)))
  all_goals try (exfalso;omega)
  all_goals try contradiction
  have eM:parM l m skip=⟨(solveO (wideK l skip l.length) l.length (m+(l.length+1))).cols.map (cutC m),(solveO (wideK l skip l.length) l.length (m+(l.length+1))).total,solveU (wideK l skip l.length) l.length (m+(l.length+1)),(solveV (wideK l skip l.length) l.length (m+(l.length+1))).take m⟩:=rfl
  have hcol:=hs.col
  rw [eM]
  generalize (solveO (wideK l skip l.length) l.length (m+(l.length+1))).cols=cols at *
  apply VWp.loopR (l.length) [(4,_),(7,_),(11,_),(57,_),(58,_)] [(8,_),(0,_)] (fun k r=>(59,.p (.int .i64 (k:Int)))::r) (fun k r=>(7,.vec 3 (cells (cutS m cols k)) l.length false)::r) 9
  ·first|omega|decide
  ·first|omega|decide
  ·repeat (first|exact LCov.nil|(refine LCov.eq rfl ?_ ?_;(first|exact PV.under_of rfl|(simp [PV.under,PVs.under];done)))|refine LCov.cons trivial rfl (.of_eq (lst_len (by simp<;>omega))) ?_)
  ·repeat (first|exact HCov.nil|(refine HCov.eq rfl (lt_dec rfl) ?_ ?_;(first|exact HB.under_of rfl|exact PVs.under_pure _ _|(simp [HB.under,PVs.under,PV.under];done)))|(refine HCov.cons (lt_dec rfl) ?_ rfl ?_ ?_;(first|exact trivial|exact PVs.under_pure _ _|(simp [HB.under,PVs.under,PV.under]));(first|exact HLe.refl _|exact HLe.vec (FLes.refl _) (by simp))))
  ·intro k hk
   have c1:=cutS_len m cols k
   have c2:=cutS_at m cols (j:=k) (by omega)
   have c3:=cutS_set m cols (j:=k) (by omega)
   have c4:=hcol k hk
   by_cases hc:(m:Int)≤gi cols k
   ·have c5:cutC m (gi cols k)=-1:=if_pos hc
    rw [c5] at c3
    repeat' (first|apply VWp.rseq|apply VWp.region|apply VWp.skipSeq|apply VWp.blockSeq|apply QSeq.normal|apply QBlk.normal|apply VOps.nil|apply VOps.one|(apply VVal.loadVL;rfl;rfl;(first|omega|(simp only [List.length_set]<;>omega));exact congrArg (fun b=>some (FV.int .i64 b)) (c2))|(apply VVal.storeVL (y:=(-1:Int));rfl;rfl;rfl;trivial;(first|rfl|(refine congrArg (fun t=>[PV.p (FV.int _ t)]) ?_;first|omega|(simp only [Int.natCast_add,Int.natCast_mul,Int.natCast_ediv,Int.natCast_emod]<;>omega)));rfl;rfl;decide;(first|omega|(simp only [List.length_set]<;>omega)))|(apply VVal.assign;rfl)|(apply VVal.move;rfl)|(apply VVal.add64;rfl;rfl;omega)|(apply VVal.int;rfl;rfl;rfl)|(apply VVal.load;rfl;rfl)|(apply VVal.fieldB;rfl;rfl;rfl)|(apply VVal.indexVN;rfl;rfl;rfl;rfl;omega)|(apply VWp.condSeq_dec;rfl)|(apply VWp.cond_dec;rfl)|(intro _;try (exfalso;omega)))
    all_goals try (exfalso;omega)
    refine QLoop.normal ⟨by first|omega|decide,?_,?_⟩
    ·try (rw [← c3])
     repeat (first|exact LCov.nil|refine LCov.same trivial rfl ?_|refine LCov.same (lt_dec rfl) rfl ?_|refine LCov.same ⟨trivial,lt_dec rfl,trivial⟩ rfl ?_|refine LCov.same ⟨trivial,lt_dec rfl,lt_dec rfl,trivial⟩ rfl ?_|refine LCov.same ⟨trivial,lt_dec rfl,lt_dec rfl,lt_dec rfl,trivial⟩ rfl ?_|refine LCov.same ⟨trivial,lt_dec rfl,lt_dec rfl,lt_dec rfl,lt_dec rfl,trivial⟩ rfl ?_|refine LCov.same ⟨trivial,trivial⟩ rfl ?_|refine LCov.cons trivial rfl (.of_eq (lst_len (by simp<;>omega))) ?_)
    ·rw [← c3]
     repeat (first|exact HCov.nil|(refine HCov.cons (lt_dec rfl) ?_ rfl ?_ ?_;(first|exact HB.under_of rfl|exact PVs.under_pure _ _|(simp [HB.under,PVs.under,PV.under]));(first|exact HLe.refl _|exact HLe.vec (FLes.refl _) (by simp))))
   ·have c5:cutC m (gi cols k)=gi cols k:=if_neg hc
    have c6:=cutS_same m cols (j:=k) (by omega) c5
    repeat' (first|apply VWp.rseq|apply VWp.region|apply VWp.skipSeq|apply VWp.blockSeq|apply QSeq.normal|apply QBlk.normal|apply VWp.skip|apply VOps.nil|apply VOps.one|(apply VVal.loadVL;rfl;rfl;(first|omega|(simp only [List.length_set]<;>omega));exact congrArg (fun b=>some (FV.int .i64 b)) (c2))|(apply VVal.assign;rfl)|(apply VVal.move;rfl)|(apply VVal.add64;rfl;rfl;omega)|(apply VVal.int;rfl;rfl;rfl)|(apply VVal.indexVN;rfl;rfl;rfl;rfl;omega)|(apply VWp.condSeq_dec;rfl)|(apply VWp.cond_dec;rfl)|(intro _;try (exfalso;omega)))
    all_goals try (exfalso;omega)
    refine QLoop.normal ⟨by first|omega|decide,?_,?_⟩
    ·try (rw [c6])
     repeat (first|exact LCov.nil|refine LCov.same trivial rfl ?_|refine LCov.same (lt_dec rfl) rfl ?_|refine LCov.same ⟨trivial,lt_dec rfl,trivial⟩ rfl ?_|refine LCov.same ⟨trivial,lt_dec rfl,lt_dec rfl,trivial⟩ rfl ?_|refine LCov.same ⟨trivial,lt_dec rfl,lt_dec rfl,lt_dec rfl,trivial⟩ rfl ?_|refine LCov.same ⟨trivial,lt_dec rfl,lt_dec rfl,lt_dec rfl,lt_dec rfl,trivial⟩ rfl ?_|refine LCov.same ⟨trivial,trivial⟩ rfl ?_|refine LCov.cons trivial rfl (.of_eq (lst_len (by simp<;>omega))) ?_)
    ·rw [c6]
     repeat (first|exact HCov.nil|(refine HCov.cons (lt_dec rfl) ?_ rfl ?_ ?_;(first|exact HB.under_of rfl|exact PVs.under_pure _ _|(simp [HB.under,PVs.under,PV.under]));(first|exact HLe.refl _|exact HLe.vec (FLes.refl _) (by simp))))
  ·have c7:=cutS_all m cols
   rw [lC] at c7
   rw [c7]
   have f1:(cols.map (cutC m)).length=l.length:=by rw [List.length_map];exact lC
   have f2:=hs.lU
   have f3:((solveV (wideK l skip l.length) l.length (m+(l.length+1))).take m).length=m:=by rw [List.length_take,lV];omega
   generalize cols.map (cutC m)=C at *
   generalize (solveV (wideK l skip l.length) l.length (m+(l.length+1))).take m=V at *
   have hfin:∀ (t:Int) (U:List Int),U.length=l.length→PV.tup [.p (.agg [.lst 3 (cells C) l.length,.int .i64 t,.lst 3 (cells U) l.length,.lst 3 (cells V) m]),.p (.int .i64 0)]=PV.tup [.p (.agg (Enc.enc (⟨C,t,U,V⟩:MRes))),.p (.int .i64 0)]:=fun t U f2=>by
    show _=PV.tup [.p (.agg [.lst 3 (cells C) C.length,.int .i64 t,.lst 3 (cells U) U.length,.lst 3 (cells V) V.length]),.p (.int .i64 0)]
    rw [f1,f2,f3]
   repeat' (first|(refine VWp.at 20 ?_;refine VWp.ghost (Ghost.freezeCell 8 0 rfl rfl rfl) ?_;first|apply VWp.rseq|apply VWp.rseqD)|apply VWp.rseq|apply VWp.exitSeq|apply QSeq.normal|apply QBlk.exit|apply QLoop.exit|apply VWp.ret|apply VOps.nil|apply VOps.one|(apply VVal.assign;rfl)|(apply VVal.int;rfl;rfl;rfl)|(apply VVal.load;rfl;rfl)|(apply VVal.storeB;rfl;rfl;rfl;trivial;rfl;rfl;exact lt_dec rfl;exact le_dec rfl)|(apply VWp.condSeq_dec;rfl)|(intro _;try (exfalso;omega)))
   all_goals try (exfalso;omega)
   all_goals (refine Done.ret rfl (.refl _) (by first|exact trivial|exact ⟨trivial,trivial,trivial⟩|exact ⟨trivial,trivial,trivial,trivial⟩) HCov.nil (Nat.zero_le _) (Nat.le_refl _) ⟨?_,rfl,rfl⟩;exact hfin _ _ f2)
theorem solve0_spec (e:TypeId):VFun env 72 [.lst e [] 0] (.p (.agg (Enc.enc (⟨[],0,[],[]⟩:MRes)))):=by
 have hcol:VFun env 69 [.lst e [] 0] (.p (.int .i64 0)):=columns_spec e [] (by decide)
 refine VFun.enter (env_none (by decide)) Tryz.func72 rfl (by kernel_rfl) (by simp [Tryz.ntmps72]) ?_
 repeat' (first|apply VWp.assoc|apply VWp.rseq|apply VWp.rseqD|apply VWp.blockSeq|apply VOps.nil|apply VOpsD.nil|apply VOps.one|(apply VOpsD.bar;decide +kernel)|apply VOpsD.quiet|(apply VVal.fn;rfl;rfl;exact hcol;intro _;rfl)|(apply VVal.makeSliceL 1 (0:Int);rfl;rfl;rfl;rfl;rfl;rfl;rfl;decide;decide;decide;rfl)|(apply VVal.assign;rfl)|(apply VVal.move;rfl)|(apply VVal.add64;rfl;rfl;omega)|(apply VVal.lenF;rfl;rfl)|(apply VVal.alloc;rfl))
 all_goals try (exfalso;omega)
 apply VWp.loopR (0) [(2,_),(3,_),(4,_),(5,_),(6,_),(7,_)] [(0,_),(1,_),(2,_),(3,_)] (fun k r=>(9,.p (.int .i64 ((k+1:Nat):Int)))::r) (fun k r=>r) 5
 ·first|omega|decide
 ·first|omega|decide
 ·repeat (first|exact LCov.nil|(refine LCov.eq rfl ?_ ?_;(first|exact PV.under_of rfl|(simp [PV.under,PVs.under];done)))|refine LCov.cons trivial rfl (.of_eq (lst_len (by simp<;>omega))) ?_)
 ·repeat (first|exact HCov.nil|(refine HCov.eq rfl (lt_dec rfl) ?_ ?_;(first|exact HB.under_of rfl|exact PVs.under_pure _ _|(simp [HB.under,PVs.under,PV.under];done)))|(refine HCov.cons (lt_dec rfl) ?_ rfl ?_ ?_;(first|exact trivial|exact PVs.under_pure _ _|(simp [HB.under,PVs.under,PV.under]));(first|exact HLe.refl _|exact HLe.vec (FLes.refl _) (by simp))))
 ·intro k hk;omega
 ·repeat' (first|(refine VWp.at 34 ?_;refine VWp.ghost (Ghost.freeze 5 rfl rfl) ?_;first|apply VWp.rseq|apply VWp.rseqD)|(refine VOpsD.atIdx 4 ?_;refine VOpsD.ghost (Ghost.freeze 6 rfl rfl) ?_)|apply VWp.assoc|apply VWp.rseq|apply VWp.exitSeq|apply VWp.blockSeq|apply QSeq.normal|apply QBlk.exit|apply QLoop.exit|apply VOps.nil|apply VOpsD.nil|apply VOps.one|(apply VOpsD.bar;decide +kernel)|apply VOpsD.quiet|(apply VVal.makeSliceL 0 (0:Int);rfl;rfl;rfl;rfl;rfl;rfl;rfl;decide;decide;decide;rfl)|(apply VVal.sliceFrom (l:=[(0:Int)]) (a:=1);rfl;rfl;rfl;rfl;rfl;rfl;decide)|(apply VVal.assign;rfl)|(apply VVal.move;rfl)|(apply VVal.int;rfl;rfl;rfl)|(apply VVal.alloc;rfl)|(apply VVal.storeB;rfl;rfl;rfl;trivial;rfl;rfl;exact lt_dec rfl;exact le_dec rfl)|(apply VVal.build;rfl;rfl;rfl;rfl;rfl)|(apply VWp.condSeq_false;rfl))
  all_goals try (exfalso;omega)
  apply VWp.loopR (0) [(2,_),(3,_),(4,_),(7,_),(19,_)] [(0,_),(3,_),(5,_),(6,_)] (fun k r=>(20,.p (.int .i64 ((k+1:Nat):Int)))::r) (fun k r=>r) 7
  ·first|omega|decide
  ·first|omega|decide
  ·repeat (first|exact LCov.nil|(refine LCov.eq rfl ?_ ?_;(first|exact PV.under_of rfl|(simp [PV.under,PVs.under];done)))|refine LCov.cons trivial rfl (.of_eq (lst_len (by simp<;>omega))) ?_)
  ·repeat (first|exact HCov.nil|(refine HCov.eq rfl (lt_dec rfl) ?_ ?_;(first|exact HB.under_of rfl|exact PVs.under_pure _ _|(simp [HB.under,PVs.under,PV.under];done)))|(refine HCov.cons (lt_dec rfl) ?_ rfl ?_ ?_;(first|exact trivial|exact PVs.under_pure _ _|(simp [HB.under,PVs.under,PV.under]));(first|exact HLe.refl _|exact HLe.vec (FLes.refl _) (by simp))))
  ·intro k hk;omega
  ·repeat' (first|(refine VWp.at 42 ?_;refine VWp.ghost (Ghost.freezeCell 6 0 rfl rfl rfl) ?_;first|apply VWp.rseq|apply VWp.rseqD)|apply VWp.assoc|apply VWp.rseq|apply VWp.exitSeq|apply QSeq.normal|apply QBlk.exit|apply QLoop.exit|apply VWp.ret|apply VOps.nil|apply VOps.one|(apply VVal.move;rfl)|(apply VVal.int;rfl;rfl;rfl)|(apply VVal.load;rfl;rfl)|(apply VVal.storeB;rfl;rfl;rfl;trivial;rfl;rfl;exact lt_dec rfl;exact le_dec rfl)|(apply VWp.condSeq_false;rfl))
   all_goals first|(exfalso;omega)|(refine Done.ret rfl (.refl _) (by first|exact trivial|exact ⟨trivial,trivial,trivial⟩|exact ⟨trivial,trivial,trivial,trivial⟩) HCov.nil (Nat.zero_le _) (Nat.le_refl _) ⟨?_,rfl,rfl⟩;try rfl)
theorem partial0_spec {skip:Int} (e:TypeId) (hk:0≤skip∧skip≤1000000000):VFun env 45 [.lst e (cells ([]:List (List Int))) 0,.int .i64 skip] (.tup [.p (.agg (Enc.enc (⟨[],0,[],[]⟩:MRes))),.p (.int .i64 0)]):=by
 have hM:MatK [] 0 0 skip 1000000000:=⟨⟨rfl,fun r hr=>by omega,fun r k hr=>by omega,hk,by decide⟩,by omega,by omega,by decide,fun _=>rfl⟩
 have hck:=mcheckP_spec e hM
 have hcl:=cols_spec e hM
 have hs:=solve0_spec 52
 refine VFun.enter (env_none (by decide)) Tryz.func45 rfl (by kernel_rfl) (by simp [Tryz.ntmps45]) ?_
 repeat' (first|apply VWp.assoc|apply VWp.rseq|apply VWp.skipSeq|apply VWp.blockSeq|apply VOps.nil|apply VOps.one|(apply VVal.fn;rfl;rfl;exact hck;intro _;rfl)|(apply VVal.fn;rfl;rfl;exact hcl;intro _;rfl)|(apply VVal.makeSlice (n:=0);rfl;rfl;rfl;rfl;rfl;decide;decide)|(apply VVal.assign;rfl)|(apply VVal.move;rfl)|(apply VVal.int;rfl;rfl;rfl)|(apply VVal.lenF;rfl;rfl)|(apply VVal.alloc;rfl)|(apply VWp.condSeq_false;rfl))
 all_goals try (exfalso;omega)
 all_goals try contradiction
 apply VWp.loopR (0) [(0,_),(1,_),(4,_),(7,_),(8,_),(26,_),(27,_)] [(0,_),(1,_)] (fun k r=>(28,.p (.int .i64 (k:Int)))::r) (fun k r=>r) 2
 ·first|omega|decide
 ·first|omega|decide
 ·repeat (first|exact LCov.nil|(refine LCov.eq rfl ?_ ?_;(first|exact PV.under_of rfl|(simp [PV.under,PVs.under];done)))|refine LCov.cons trivial rfl (.of_eq (lst_len (by simp<;>omega))) ?_)
 ·repeat (first|exact HCov.nil|(refine HCov.eq rfl (lt_dec rfl) ?_ ?_;(first|exact HB.under_of rfl|exact PVs.under_pure _ _|(simp [HB.under,PVs.under,PV.under];done)))|(refine HCov.cons (lt_dec rfl) ?_ rfl ?_ ?_;(first|exact trivial|exact PVs.under_pure _ _|(simp [HB.under,PVs.under,PV.under]));(first|exact HLe.refl _|exact HLe.vec (FLes.refl _) (by simp))))
 ·intro k hk;omega
 ·repeat' (first|(refine VOps.atOp 47 ?_;refine VOps.ghost (Ghost.freeze 46 rfl rfl) ?_)|apply VWp.assoc|apply VWp.rseq|apply VWp.skipSeq|apply VWp.exitSeq|apply VWp.blockSeq|apply QSeq.normal|apply QBlk.exit|apply QLoop.exit|apply VOps.nil|apply VOps.one|(apply VVal.fn;rfl;rfl;exact hs;intro _;rfl)|(apply VVal.move;rfl)|(apply VVal.int;rfl;rfl;rfl)|(apply VVal.load;rfl;rfl)|(apply VVal.lenF;rfl;rfl)|(apply VVal.fieldB;rfl;rfl;rfl)|(apply VVal.alloc;rfl)|(apply VVal.storeB;rfl;rfl;rfl;trivial;rfl;rfl;exact lt_dec rfl;exact le_dec rfl)|(apply VWp.condSeq_false;rfl))
  all_goals try (exfalso;omega)
  all_goals try contradiction
  apply VWp.loopR (0) [(4,_),(7,_),(11,_),(57,_),(58,_)] [(0,_),(2,_)] (fun k r=>(59,.p (.int .i64 (k:Int)))::r) (fun k r=>r) 3
  ·first|omega|decide
  ·first|omega|decide
  ·repeat (first|exact LCov.nil|(refine LCov.eq rfl ?_ ?_;(first|exact PV.under_of rfl|(simp [PV.under,PVs.under];done)))|refine LCov.cons trivial rfl (.of_eq (lst_len (by simp<;>omega))) ?_)
  ·repeat (first|exact HCov.nil|(refine HCov.eq rfl (lt_dec rfl) ?_ ?_;(first|exact HB.under_of rfl|exact PVs.under_pure _ _|(simp [HB.under,PVs.under,PV.under];done)))|(refine HCov.cons (lt_dec rfl) ?_ rfl ?_ ?_;(first|exact trivial|exact PVs.under_pure _ _|(simp [HB.under,PVs.under,PV.under]));(first|exact HLe.refl _|exact HLe.vec (FLes.refl _) (by simp))))
  ·intro k hk;omega
  ·repeat' (first|apply VWp.rseq|apply VWp.exitSeq|apply QSeq.normal|apply QBlk.exit|apply QLoop.exit|apply VWp.ret|apply VOps.nil|apply VOps.one|(apply VVal.assign;rfl)|(apply VVal.int;rfl;rfl;rfl)|(apply VVal.load;rfl;rfl)|(apply VVal.storeB;rfl;rfl;rfl;trivial;rfl;rfl;exact lt_dec rfl;exact le_dec rfl)|(apply VWp.condSeq_false;rfl))
   all_goals first|(exfalso;omega)|(refine Done.ret rfl (.refl _) (by first|exact trivial|exact ⟨trivial,trivial,trivial⟩|exact ⟨trivial,trivial,trivial,trivial⟩) HCov.nil (Nat.zero_le _) (Nat.le_refl _) ⟨?_,rfl,rfl⟩;try rfl)
end Go.Proofs.YtdabojnmoejilaaGreatDoor
namespace Go.Hun
open Go Go.Am Go.Vm
def bestK (row:List Int) (g:Nat→Int) (t:Nat) (b:Int):Nat→Int
 |0=>b
 |k+1=>if t.testBit k then bestK row g t b k else min (bestK row g t b k) (gi row k+g (t ||| 2 ^ k))
def leastF (l:List (List Int)) (skip:Int) (m n:Nat):Nat→Nat→Int
 |0,_=>0
 |r+1,t=>bestK (gi l (n-(r+1))) (leastF l skip m n r) t (skip+leastF l skip m n r t) m
def tailN (f:Nat→Int) (n:Nat):Nat→Int
 |0=>0
 |r+1=>f (n-(r+1))+tailN f n r
theorem tailN_split (f:Nat→Int) (n:Nat):∀ r,r≤n→sumN f (n-r)+tailN f n r=sumN f n
 |0,_=>by simp [tailN]
 |r+1,h=>by
  have ih:=tailN_split f n r (by omega)
  have e:n-r=(n-(r+1))+1:=by omega
  rw [e] at ih
  simp only [sumN] at ih
  simp only [tailN]
  omega
theorem tailN_all (f:Nat→Int) (n:Nat):tailN f n n=sumN f n:=by
 have:=tailN_split f n n (Nat.le_refl _)
 rw [Nat.sub_self] at this
 simp only [sumN] at this
 omega
structure TailI (n m r t:Nat) (cols:Nat→Int):Prop where
 rng:∀ q,n-r≤q→q<n→-1≤cols q∧cols q<m
 inj:∀ p q,n-r≤p→p<n→n-r≤q→q<n→0≤cols p→cols p=cols q→p=q
 free:∀ q,n-r≤q→q<n→0≤cols q→t.testBit (cols q).toNat=false
end Go.Hun
namespace Go.Proofs.YtdabojnmoejilaaGreatDoor
open Go Go.Am Go.Vm Go.Hun
attribute [local irreducible] VVal VOps VOpsD VWp VCalls VFun VFunV QSeq QBlk QLoop Vm.Done DoneV DoneI VUn
theorem inl_PT1 {L:Vm.Frame} {H:Vm.Heap} {nx:Nat} {Q:PV→Vm.Heap→Nat→Prop} {dst:Option Tmp} {ty:TypeId} {pos:String} {af:Array Edge} {gd:Option (Nat×Bool)} {fo:Operand} {args:Array Operand} {aT:Array TypeId} {fs cs xs:List PV} {c:Code}
 (hf:vev env.Γ L fo=some (.clo 103 fs cs)) (ha:evs env.Γ L args.toList=some xs) (hb:Tryz.f103.body=some c) (hn:(fs++xs++cs).length≤Tryz.f103.ntmps)
 (h:VWp env nx c (argFrame 0 (fs++xs++cs)) H nx (DoneI env.P Tryz.f103.results.toList Q)):VVal env true ⟨dst,.call { callee:=.value fo,args:=args,argTypes:=aT },ty,pos,af,gd⟩ L H nx Q:=by
 have h0:(match Tryz.f103.body with|some c=>fnOk env.G Tryz.f103 c|none=>false)=true:=by kernel_rfl
 rw [hb] at h0
 exact VVal.inline rfl hf ha (env_none (by decide)) Tryz.func103 hb h0 hn h
theorem inl_PV1 {L:Vm.Frame} {H:Vm.Heap} {nx:Nat} {Q:PV→Vm.Heap→Nat→Prop} {dst:Option Tmp} {ty:TypeId} {pos:String} {af:Array Edge} {gd:Option (Nat×Bool)} {fo:Operand} {args:Array Operand} {aT:Array TypeId} {fs cs xs:List PV} {c:Code}
 (hf:vev env.Γ L fo=some (.clo 76 fs cs)) (ha:evs env.Γ L args.toList=some xs) (hb:Tryz.f76.body=some c) (hn:(fs++xs++cs).length≤Tryz.f76.ntmps)
 (h:VWp env nx c (argFrame 0 (fs++xs++cs)) H nx (DoneI env.P Tryz.f76.results.toList Q)):VVal env true ⟨dst,.call { callee:=.value fo,args:=args,argTypes:=aT },ty,pos,af,gd⟩ L H nx Q:=by
 have h0:(match Tryz.f76.body with|some c=>fnOk env.G Tryz.f76 c|none=>false)=true:=by kernel_rfl
 rw [hb] at h0
 exact VVal.inline rfl hf ha (env_none (by decide)) Tryz.func76 hb h0 hn h
def totS (l:List (List Int)) (m:Nat) (skip:Int) (cols:List Int):Nat→Nat→List Bool→Int→Int×Int
 |0,_,_,sum=>(sum,0)
 |r+1,k,used,sum =>
  if gi cols k< -1∨gi cols k≥m then (0,3)
  else if gi cols k<0 then totS l m skip cols r (k+1) used (sum+skip)
  else if gi used (gi cols k).toNat=true then (0,9)
  else totS l m skip cols r (k+1) (used.set (gi cols k).toNat true) (sum+gi (gi l k) (gi cols k).toNat)
def totE (l:List (List Int)) (m:Nat) (skip:Int) (cols:List Int):Int×Int:=if cols.length≠l.length then (0,5) else totS l m skip cols l.length 0 (List.replicate m false) 0
theorem total_spec {l:List (List Int)} {m:Nat} {skip B:Int} (e:TypeId) (h:MatK l l.length m skip B) (cols:List Int) :
 VFun env 47 [.lst e (cells l) l.length,.lst 3 (cells cols) cols.length,.int .i64 (-1),.int .i64 skip] (.tup [.p (.int .i64 (totE l m skip cols).1),.p (.int .i64 (totE l m skip cols).2)]):=by
 have hcl:=cols_spec e h
 have h2:=h.n60
 have h3:=h.m120
 have h4:=h.B9
 have hrow:=h.mat.row
 have hrng:=h.mat.rng
 have hsk:=h.mat.skip
 unfold totE
 refine VFun.enter (env_none (by decide)) Tryz.func47 rfl (by kernel_rfl) (by simp [Tryz.ntmps47]) ?_
 by_cases hlen:cols.length=l.length
 case neg =>
  rw [if_pos hlen]
  repeat' (first|apply VWp.assoc|apply VWp.rseq|apply VWp.retSeq|apply VOps.nil|apply VOps.one|(apply VVal.assign;rfl)|(apply VVal.move;rfl)|(apply VVal.int;rfl;rfl;rfl)|(apply VVal.lenF;rfl;rfl)|(apply VWp.condSeq_dec;rfl)|(intro _;try (exfalso;omega)))
  all_goals first|(exfalso;omega)|contradiction|(refine Done.ret rfl (.refl _) (by first|exact trivial|exact ⟨trivial,trivial,trivial⟩|exact ⟨trivial,trivial,trivial,trivial⟩) HCov.nil (Nat.zero_le _) (Nat.le_refl _) ⟨?_,rfl,rfl⟩;try rfl)
 rw [if_neg (fun x=>x hlen)]
 repeat' (first|apply VWp.assoc|apply VWp.rseq|apply VWp.skipSeq|apply VWp.blockSeq|apply VOps.nil|apply VOps.one|(apply VVal.fn;rfl;rfl;exact hcl;intro _;rfl)|(apply VVal.makeSliceL m false;rfl;rfl;rfl;rfl;rfl;rfl;rfl;omega;decide;decide;rfl)|(apply VVal.assign;rfl)|(apply VVal.move;rfl)|(apply VVal.int;rfl;rfl;rfl)|(apply VVal.lenF;rfl;rfl)|(apply VWp.condSeq_dec;rfl)|(intro _;try (exfalso;omega)))
 all_goals try (exfalso;omega)
 obtain ⟨R,hR⟩:∃ R,R=totS l m skip cols l.length 0 (List.replicate m false) 0:=⟨_,rfl⟩
 rw [← hR]
 refine VWp.loopQ (fun s:Nat×List Bool×Int=>[(0,.p (.lst e (cells l) l.length)),(2,.p (.int .i64 (-1))),(3,.p (.int .i64 skip)),(10,.p (.int .i64 s.2.2)),(11,.vec 0 m 0 m),(22,.p (.lst 3 (cells cols) cols.length)),(23,.p (.int .i64 (cols.length:Int))),(24,.p (.int .i64 (s.1:Int)))]) (fun s=>[(0,.vec 4 (cells s.2.1) m false)]) 1
  (fun s=>s.1≤l.length∧s.2.1.length=m∧0≤s.2.2∧s.2.2≤s.1*B∧totS l m skip cols (l.length-s.1) s.1 s.2.1 s.2.2=R) (fun s=>l.length-s.1) (0,List.replicate m false,0) (by omega) ⟨Nat.zero_le _,by simp,by simp,by simp,hR.symm⟩ ⟨by omega,?_,?_⟩ ?_
 ·repeat (first|exact LCov.nil|refine LCov.same trivial rfl ?_|refine LCov.same (lt_dec rfl) rfl ?_|refine LCov.same ⟨trivial,lt_dec rfl,lt_dec rfl,lt_dec rfl,trivial⟩ rfl ?_|refine LCov.same ⟨trivial,lt_dec rfl,lt_dec rfl,trivial⟩ rfl ?_|refine LCov.same ⟨trivial,trivial⟩ rfl ?_|refine LCov.cons trivial rfl (.of_eq (lst_len (by simp<;>omega))) ?_)
 ·repeat (first|exact HCov.nil|(refine HCov.cons (lt_dec rfl) ?_ rfl ?_ ?_;(first|exact HB.under_of rfl|exact PVs.under_pure _ _|(simp [HB.under,PVs.under,PV.under]));(first|exact HLe.refl _|exact HLe.vec (FLes.refl _) (by simp))))
 rintro ⟨k,used,sum⟩ ⟨i1,i2,i3,i4,i5⟩
 simp only at i1 i2 i3 i4 i5 ⊢
 have hkB:(k:Int)*B≤60*1000000000:=Int.mul_le_mul (by omega) h4 (by omega) (by omega)
 by_cases hk:k<l.length
 ·obtain ⟨r,hr⟩:∃ r,l.length-k=r+1:=⟨l.length-k-1,by omega⟩
  rw [hr] at i5
  have hr':l.length-(k+1)=r:=by omega
  have hkB1:((k+1:Nat):Int)*B=(k:Int)*B+B:=by rw [Int.natCast_add,Int.add_mul];simp
  unfold totS at i5
  by_cases c1:gi cols k< -1∨gi cols k≥m
  ·rw [if_pos c1] at i5
   rw [← i5]
   repeat' (first|apply VWp.rseq|apply VWp.skipSeq|apply VWp.blockSeq|apply QSeq.ret|apply QBlk.ret|apply QLoop.ret|apply VWp.ret|apply VOps.nil|apply VOps.one|(apply VOps.take;rfl;rfl)|(apply VOps.drop;rfl;rfl;rfl)|(apply VOps.guard;rfl;rfl)|(apply VVal.assign;rfl)|(apply VVal.move;rfl)|(apply VVal.int;rfl;rfl;rfl)|(apply VVal.indexN;rfl;rfl;rfl;omega;rfl)|(apply VVal.load;rfl;rfl)|(apply VVal.pick_true;rfl;rfl)|(apply VVal.pick_false;rfl;rfl)|(apply VVal.lenV;rfl;rfl;rfl)|(apply VWp.condSeq_dec;rfl)|(apply VWp.cond_true;rfl)|(apply VWp.cond_dec;rfl)|(intro _;try (exfalso;omega)))
   all_goals first|(exfalso;omega)|contradiction|(refine Done.ret rfl (.refl _) (by first|exact trivial|exact ⟨trivial,trivial,trivial⟩|exact ⟨trivial,trivial,trivial,trivial⟩) HCov.nil (Nat.zero_le _) (Nat.le_refl _) ⟨?_,rfl,rfl⟩;try rfl)
  rw [if_neg c1] at i5
  by_cases c2:gi cols k<0
  ·rw [if_pos c2] at i5
   repeat' (first|apply VWp.rseq|apply VWp.region|apply VWp.skipSeq|apply VWp.blockSeq|apply QSeq.normal|apply QSeq.exit|apply QBlk.exit|(apply QBlk.out;decide)|apply VWp.exit|apply VOps.nil|apply VOps.one|(apply VOps.take;rfl;rfl)|(apply VOps.guard;rfl;rfl)|(apply VVal.assign;rfl)|(apply VVal.move;rfl)|(apply VVal.add64;rfl;rfl;omega)|(apply VVal.int;rfl;rfl;rfl)|(apply VVal.indexN;rfl;rfl;rfl;omega;rfl)|(apply VVal.load;rfl;rfl)|(apply VVal.pick_false;rfl;rfl)|(apply VVal.lenV;rfl;rfl;rfl)|(apply VWp.condSeq_dec;rfl)|(apply VWp.cond_dec;rfl)|(intro _;try (exfalso;omega)))
   all_goals try (exfalso;omega)
   refine QLoop.normal ⟨(k+1,used,sum+skip),⟨hk,i2,by simp only;omega,by simp only;omega,by simp only;rw [hr'];exact i5⟩,by simp only;omega,⟨by omega,?_,?_⟩⟩
   ·repeat (first|exact LCov.nil|refine LCov.same trivial rfl ?_|refine LCov.same (lt_dec rfl) rfl ?_|refine LCov.same ⟨trivial,lt_dec rfl,lt_dec rfl,lt_dec rfl,trivial⟩ rfl ?_|refine LCov.same ⟨trivial,lt_dec rfl,lt_dec rfl,trivial⟩ rfl ?_|refine LCov.same ⟨trivial,trivial⟩ rfl ?_|refine LCov.cons trivial rfl (.of_eq (lst_len (by simp<;>omega))) ?_)
   ·repeat (first|exact HCov.nil|(refine HCov.cons (lt_dec rfl) ?_ rfl ?_ ?_;(first|exact HB.under_of rfl|exact PVs.under_pure _ _|(simp [HB.under,PVs.under,PV.under]));(first|exact HLe.refl _|exact HLe.vec (FLes.refl _) (by simp))))
  rw [if_neg c2] at i5
  obtain ⟨j,hj⟩:∃ j:Nat,gi cols k=j:=⟨(gi cols k).toNat,by omega⟩
  rw [hj,Int.toNat_natCast] at i5
  have hjm:j<m:=by omega
  have hc:=hrng k j hk hjm
  have hrl:=hrow k hk
  by_cases c3:gi used j=true
  ·rw [if_pos c3] at i5
   rw [← i5]
   repeat' (first|apply VWp.rseq|apply VWp.skipSeq|apply VWp.blockSeq|apply QSeq.ret|apply QBlk.ret|apply QLoop.ret|apply VWp.ret|apply VOps.nil|apply VOps.one|(apply VOps.take;rfl;rfl)|(apply VVal.loadVL;rfl;rfl;(first|omega|(simp only [sk_len]<;>omega));exact congrArg (fun b=>some (FV.bool b)) (c3))|(apply VVal.load;rfl;exact congrArg (fun a=>some (PV.p (FV.int .i64 a))) hj)|(apply VVal.assign;rfl)|(apply VVal.move;rfl)|(apply VVal.int;rfl;rfl;rfl)|(apply VVal.indexN;rfl;rfl;rfl;omega;rfl)|(apply VVal.pick_false;rfl;rfl)|(apply VVal.lenV;rfl;rfl;rfl)|(apply VVal.indexVN;rfl;rfl;rfl;rfl;omega)|(apply VWp.condSeq_dec;rfl)|(apply VWp.cond_true;rfl)|(apply VWp.cond_false;rfl)|(apply VWp.cond_dec;rfl)|(intro _;try (exfalso;omega)))
   all_goals first|(exfalso;omega)|contradiction|(refine Done.ret rfl (.refl _) (by first|exact trivial|exact ⟨trivial,trivial,trivial⟩|exact ⟨trivial,trivial,trivial,trivial⟩) HCov.nil (Nat.zero_le _) (Nat.le_refl _) ⟨?_,rfl,rfl⟩;try rfl)
  ·rw [if_neg c3] at i5
   have c3':gi used j=false:=by cases h:gi used j<;>simp_all
   repeat' (first|apply VWp.rseq|apply VWp.region|apply VWp.skipSeq|apply VWp.blockSeq|apply QSeq.normal|apply QBlk.normal|apply VWp.skip|apply VOps.nil|apply VOps.one|(apply VOps.take;rfl;rfl)|(apply VVal.loadVL;rfl;rfl;(first|omega|(simp only [sk_len]<;>omega));exact congrArg (fun b=>some (FV.bool b)) (c3'))|(apply VVal.load;rfl;exact congrArg (fun a=>some (PV.p (FV.int .i64 a))) hj)|(apply VVal.storeVL (y:=true);rfl;rfl;rfl;trivial;(first|rfl|(refine congrArg (fun t=>[PV.p (FV.int _ t)]) ?_;first|omega|(simp only [Int.natCast_add,Int.natCast_mul,Int.natCast_ediv,Int.natCast_emod]<;>omega)));rfl;rfl;decide;(first|omega|(simp only [List.length_set]<;>omega)))|(apply VVal.assign;rfl)|(apply VVal.move;rfl)|(apply VVal.add64;rfl;rfl;omega)|(apply VVal.int;rfl;rfl;rfl)|(apply VVal.indexN;rfl;rfl;rfl;omega;rfl)|(apply VVal.load;rfl;rfl)|(apply VVal.pick_false;rfl;rfl)|(apply VVal.lenV;rfl;rfl;rfl)|(apply VVal.indexVN;rfl;rfl;rfl;rfl;omega)|(apply VWp.condSeq_dec;rfl)|(apply VWp.cond_false;rfl)|(apply VWp.cond_dec;rfl)|(intro _;try (exfalso;omega)))
   all_goals try (exfalso;omega)
   refine QLoop.normal ⟨(k+1,used.set j true,sum+gi (gi l k) j),⟨hk,by simp only;rw [List.length_set];exact i2,by simp only;omega,by simp only;omega,by simp only;rw [hr'];exact i5⟩,by simp only;omega,⟨by omega,?_,?_⟩⟩
   ·repeat (first|exact LCov.nil|refine LCov.same trivial rfl ?_|refine LCov.same (lt_dec rfl) rfl ?_|refine LCov.same ⟨trivial,lt_dec rfl,lt_dec rfl,lt_dec rfl,trivial⟩ rfl ?_|refine LCov.same ⟨trivial,lt_dec rfl,lt_dec rfl,trivial⟩ rfl ?_|refine LCov.same ⟨trivial,trivial⟩ rfl ?_|refine LCov.cons trivial rfl (.of_eq (lst_len (by simp<;>omega))) ?_)
   ·repeat (first|exact HCov.nil|(refine HCov.cons (lt_dec rfl) ?_ rfl ?_ ?_;(first|exact HB.under_of rfl|exact PVs.under_pure _ _|(simp [HB.under,PVs.under,PV.under]));(first|exact HLe.refl _|exact HLe.vec (FLes.refl _) (by simp))))
 ·obtain rfl:k=l.length:=by omega
  rw [Nat.sub_self] at i5
  unfold totS at i5
  rw [← i5]
  repeat' (first|apply VWp.rseq|apply VWp.exitSeq|apply QSeq.normal|apply QBlk.exit|apply QLoop.exit|apply VWp.ret|apply VOps.nil|apply VOps.one|(apply VVal.assign;rfl)|(apply VVal.move;rfl)|(apply VVal.int;rfl;rfl;rfl)|(apply VWp.condSeq_dec;rfl)|(intro _;try (exfalso;omega)))
  all_goals first|(exfalso;omega)|contradiction|(refine Done.ret rfl (.refl _) (by first|exact trivial|exact ⟨trivial,trivial,trivial⟩|exact ⟨trivial,trivial,trivial,trivial⟩) HCov.nil (Nat.zero_le _) (Nat.le_refl _) ⟨?_,rfl,rfl⟩;try rfl)
theorem concat0_spec (a b:List Int) (h0:a.length+b.length=0):VFunV env 102 [.lst 52 [.lst 3 (cells a) a.length,.lst 3 (cells b) b.length] 2] 3 (cells (a++b)) (a.length+b.length) true:=by
 have hg:=grow0_fun
 have e0:(0:Int)=0+(a.length:Int)+(b.length:Int):=by omega
 rw [e0] at hg
 refine VFunV.enter (env_none (by decide)) Tryz.func102 rfl (by kernel_rfl) (by simp [Tryz.ntmps102]) ?_
 repeat' (first|apply VWp.assoc|apply VWp.rseq|apply VWp.blockSeq|apply VOps.nil|apply VOps.one|(apply VVal.assign;rfl)|(apply VVal.move;rfl)|(apply VVal.lenF;rfl;rfl))
 refine VWp.loopN 2 ?_
 repeat' (first|apply VWp.assoc|apply VWp.rseq|apply VWp.region|apply VWp.skipSeq|apply VWp.exitSeq|apply VWp.blockSeq|apply QSeq.normal|apply QBlk.normal|apply QBlk.exit|apply QLoop.exit|apply VWp.skip|apply VOps.nil|apply VOps.one|(apply VVal.fn;rfl;rfl;exact hg;intro _;rfl)|(apply VUn.zero)|(apply VUn.succ)|(apply QLoop.again)|(apply VVal.indexF;rfl;rfl;rfl;decide;decide)|(apply VVal.assign;rfl)|(apply VVal.move;rfl)|(apply VVal.add64;rfl;rfl;omega)|(apply VVal.int;rfl;rfl;rfl)|(apply VVal.load;rfl;rfl)|(apply VVal.lenF;rfl;rfl)|(apply VWp.condSeq_true;rfl)|(apply VWp.condSeq_false;rfl)|(apply VWp.cond_false;rfl))
 refine VWp.ghost (Ghost.adopt 6 3 rfl) ?_
 refine VWp.loopN 2 ?_
 repeat' (first|apply VWp.rseq|apply VWp.region|apply VWp.skipSeq|apply VWp.exitSeq|apply VWp.blockSeq|apply QSeq.normal|apply QBlk.normal|apply QBlk.exit|apply QLoop.exit|apply VWp.ret|apply VOps.nil|apply VOps.one|(apply VUn.zero)|(apply VUn.succ)|(apply QLoop.again)|(apply VVal.indexF;rfl;rfl;rfl;decide;decide)|(apply VVal.appendL (l:=a) (r:=b);rfl;rfl;rfl;rfl;rfl;rfl;rfl;(intro _ h;cases h);rfl;rfl;rfl;decide;decide;omega)|(apply VVal.appendL0 (r:=a);rfl;rfl;rfl;rfl;rfl;rfl;(intro _ h;cases h);rfl;rfl;rfl;decide;decide;omega)|(apply VVal.assign;rfl)|(apply VVal.move;rfl)|(apply VVal.add64;rfl;rfl;omega)|(apply VVal.int;rfl;rfl;rfl)|(apply VVal.load;rfl;rfl)|(apply VWp.condSeq_true;rfl)|(apply VWp.condSeq_false;rfl))
 exact DoneV.ret rfl rfl rfl rfl
def sumT (l:List Int):Nat→Int
 |0=>0
 |k+1=>sumT l k+gi l k
def big12 (x:Int):Prop:=-1000000000000≤x∧x≤1000000000000
theorem sumT_bound {l:List Int}:∀ k,(∀ i,i<k→big12 (gi l i))→-(k*1000000000000:Int)≤sumT l k∧sumT l k≤k*1000000000000
 |0,_=>by simp [sumT]
 |k+1,h=>by
  obtain ⟨a,b⟩:=sumT_bound k fun i hi=>h i (by omega)
  obtain ⟨c,d⟩:=h k (by omega)
  simp only [sumT]
  omega
noncomputable def potE (l:List (List Int)) (m:Nat) (rows pots:List Int):Int×Int :=
 open Classical in
 if ¬ (rows.length=l.length∧pots.length=m) then (0,5)
 else if ∃ i,i<(rows++pots).length∧¬ big12 (gi (rows++pots) i) then (0,3)
 else if ∃ k,k<pots.length∧gi pots k>0 then (0,20)
 else if ∃ i k,i<l.length∧k<m∧gi rows i+gi pots k>gi (gi l i) k then (0,20)
 else (sumT (rows++pots) (rows++pots).length,0)
section
variable {l:List (List Int)} {m:Nat} {rows pots:List Int}
theorem pot5 (h:¬ (rows.length=l.length∧pots.length=m)):potE l m rows pots=(0,5):=by unfold potE;rw [if_pos h]
theorem pot3 (h:rows.length=l.length∧pots.length=m) {i:Nat} (hi:i<(rows++pots).length) (hb:¬ big12 (gi (rows++pots) i)):potE l m rows pots=(0,3):=by unfold potE;rw [if_neg (fun x=>x h),if_pos ⟨i,hi,hb⟩]
theorem pot20a (h:rows.length=l.length∧pots.length=m) (hb:∀ i,i<(rows++pots).length→big12 (gi (rows++pots) i)) {k:Nat} (hk:k<pots.length) (hp:gi pots k>0):potE l m rows pots=(0,20):=by
 unfold potE;rw [if_neg (fun x=>x h),if_neg (fun ⟨i,h1,h2⟩=>h2 (hb i h1)),if_pos ⟨k,hk,hp⟩]
theorem pot20b (h:rows.length=l.length∧pots.length=m) (hb:∀ i,i<(rows++pots).length→big12 (gi (rows++pots) i)) (hn:∀ k,k<pots.length→gi pots k≤0) {i k:Nat} (hi:i<l.length) (hk:k<m) (hp:gi rows i+gi pots k>gi (gi l i) k):potE l m rows pots=(0,20):=by
 unfold potE;rw [if_neg (fun x=>x h),if_neg (fun ⟨i,h1,h2⟩=>h2 (hb i h1)),if_neg (fun ⟨k,h1,h2⟩=>by have:=hn k h1;omega),if_pos ⟨i,k,hi,hk,hp⟩]
theorem potOk (h:rows.length=l.length∧pots.length=m) (hb:∀ i,i<(rows++pots).length→big12 (gi (rows++pots) i)) (hn:∀ k,k<pots.length→gi pots k≤0) (hf:∀ i,i<l.length→∀ k,k<m→gi rows i+gi pots k≤gi (gi l i) k):potE l m rows pots=(sumT (rows++pots) (rows++pots).length,0):=by
 unfold potE;rw [if_neg (fun x=>x h),if_neg (fun ⟨i,h1,h2⟩=>h2 (hb i h1)),if_neg (fun ⟨k,h1,h2⟩=>by have:=hn k h1;omega),if_neg (fun ⟨i,k,h1,h2,h3⟩=>by have:=hf i h1 k h2;omega)]
end
theorem allSucc {P:Nat→Prop} {k:Nat} (h:∀ i,i<k→P i) (hk:P k):∀ i,i<k+1→P i:=fun i hi=>by
 rcases Nat.lt_or_ge i k with h1|h1
 ·exact h i h1
 ·obtain rfl:i=k:=by omega
  exact hk
theorem gi_cat_l {a b:List Int} {i:Nat} (h:i<a.length):gi (a++b) i=gi a i:=by unfold gi;rw [List.getElem?_append_left h]
theorem gi_cat_r {a b:List Int} {i:Nat}:gi (a++b) (a.length+i)=gi b i:=by unfold gi;rw [List.getElem?_append_right (by omega),Nat.add_sub_cancel_left]
theorem potentials_spec {l:List (List Int)} {m:Nat} {skip B:Int} (e:TypeId) (h:MatK l l.length m skip B) (rows pots:List Int) :
 VFun env 74 [.lst e (cells l) l.length,.lst 3 (cells rows) rows.length,.lst 3 (cells pots) pots.length] (.tup [.p (.int .i64 (potE l m rows pots).1),.p (.int .i64 (potE l m rows pots).2)]):=by
 have hcl:=cols_spec e h
 have h2:=h.n60
 have h3:=h.m120
 have h4:=h.B9
 have hrow:=h.mat.row
 have hrng:=h.mat.rng
 by_cases hlen:rows.length=l.length∧pots.length=m
 case neg =>
  rw [pot5 hlen]
  refine VFun.enter (env_none (by decide)) Tryz.func74 rfl (by kernel_rfl) (by simp [Tryz.ntmps74]) ?_
  repeat' (first|apply VWp.assoc|apply VWp.rseq|apply VWp.retSeq|apply VOps.nil|apply VOps.one|(apply VOps.take;rfl;rfl)|(apply VOps.drop;rfl;rfl;rfl)|(apply VOps.guard;rfl;rfl)|(apply VVal.fn;rfl;rfl;exact hcl;intro _;rfl)|(apply VVal.assign;rfl)|(apply VVal.move;rfl)|(apply VVal.int;rfl;rfl;rfl)|(apply VVal.pick_true;rfl;rfl)|(apply VVal.pick_false;rfl;rfl)|(apply VVal.lenF;rfl;rfl)|(apply VWp.condSeq_true;rfl)|(apply VWp.condSeq_dec;rfl)|(intro _;try (exfalso;omega)))
  all_goals first|(exfalso;omega)|contradiction|(refine Done.ret rfl (.refl _) (by first|exact trivial|exact ⟨trivial,trivial,trivial⟩|exact ⟨trivial,trivial,trivial,trivial⟩) HCov.nil (Nat.zero_le _) (Nat.le_refl _) ⟨?_,rfl,rfl⟩;try rfl)
 have hp3:∀ i,i<(rows++pots).length→¬ big12 (gi (rows++pots) i)→potE l m rows pots=(0,3):=fun i=>pot3 hlen
 have hp20a:(∀ i,i<(rows++pots).length→big12 (gi (rows++pots) i))→∀ k,k<pots.length→gi pots k>0→potE l m rows pots=(0,20):=fun hb k=>pot20a hlen hb
 have hp20b:(∀ i,i<(rows++pots).length→big12 (gi (rows++pots) i))→(∀ k,k<pots.length→gi pots k≤0)→∀ i k,i<l.length→k<m→gi rows i+gi pots k>gi (gi l i) k→potE l m rows pots=(0,20):=fun hb hn i k=>pot20b hlen hb hn
 have hpok:(∀ i,i<(rows++pots).length→big12 (gi (rows++pots) i))→(∀ k,k<pots.length→gi pots k≤0)→(∀ i,i<l.length→∀ k,k<m→gi rows i+gi pots k≤gi (gi l i) k)→potE l m rows pots=(sumT (rows++pots) (rows++pots).length,0):=potOk hlen
 have gr:∀ k,k<l.length→gi (rows++pots) k=gi rows k:=fun k hk=>gi_cat_l (by omega)
 have gp:∀ j,j<pots.length→gi (rows++pots) (rows.length+j)=gi pots j:=fun j _=>gi_cat_r
 have hcatl:(rows++pots).length=rows.length+pots.length:=List.length_append
 rcases Nat.eq_zero_or_pos (rows.length+pots.length) with hz|hz
 ·have hcn:=concat0_spec rows pots hz
  rw [← hcatl] at hcn
  generalize rows++pots=cat at *
  generalize potE l m rows pots=R at *
  refine VFun.enter (env_none (by decide)) Tryz.func74 rfl (by kernel_rfl) (by simp [Tryz.ntmps74]) ?_
  repeat' (first|(refine VOps.atOp 30 ?_;refine VOps.ghost (Ghost.freeze 29 rfl rfl) ?_)|apply VWp.assoc|apply VWp.rseq|apply VWp.skipSeq|apply VWp.blockSeq|apply VOps.nil|apply VOps.one|(apply VOps.take;rfl;rfl)|(apply VOps.guard;rfl;rfl)|(apply VVal.fn;rfl;rfl;exact hcl;intro _;rfl)|(apply VVal.fv;rfl;rfl;exact hcn)|(apply VVal.assign;rfl)|(apply VVal.move;rfl)|(apply VVal.int;rfl;rfl;rfl)|(apply VVal.pick_false;rfl;rfl)|(apply VVal.lenF;rfl;rfl)|(apply VVal.lenV;rfl;rfl;rfl)|(apply VVal.buildSlice;rfl;rfl;rfl;decide;rfl;rfl;rfl)|(apply VWp.condSeq_dec;rfl)|(intro _;try (exfalso;omega)))
  all_goals try (exfalso;omega)
  apply VWp.loopRI (cat.length) (fun k=>∀ i,i<k→big12 (gi cat i)) [(0,_),(1,_),(2,_),(30,_),(31,_)] [(1,_)] (fun k r=>(8,.p (.int .i64 (sumT cat k)))::(32,.p (.int .i64 (k:Int)))::r) (fun k r=>r) 2
  ·first|omega|decide
  ·first|omega|decide
  ·repeat (first|exact LCov.nil|(refine LCov.eq rfl ?_ ?_;(first|exact PV.under_of rfl|(simp [PV.under,PVs.under];done)))|refine LCov.cons trivial rfl (.of_eq (lst_len (by simp<;>omega))) ?_)
  ·repeat (first|exact HCov.nil|(refine HCov.eq rfl (lt_dec rfl) ?_ ?_;(first|exact HB.under_of rfl|exact PVs.under_pure _ _|(simp [HB.under,PVs.under,PV.under];done)))|(refine HCov.cons (lt_dec rfl) ?_ rfl ?_ ?_;(first|exact trivial|exact PVs.under_pure _ _|(simp [HB.under,PVs.under,PV.under]));(first|exact HLe.refl _|exact HLe.vec (FLes.refl _) (by simp))))
  ·first|(intro _ _;omega)|omega|trivial
  ·intro k hk;omega
  ·intro hall
   repeat' (first|apply VWp.assoc|apply VWp.rseq|apply VWp.exitSeq|apply VWp.blockSeq|apply QSeq.normal|apply QBlk.exit|apply QLoop.exit|apply VOps.nil|apply VOps.one|(apply inl_CFI;rfl;rfl;rfl;exact le_dec rfl)|(apply inl_IFI;rfl;rfl;rfl;exact le_dec rfl)|(apply VVal.assign;rfl)|(apply VVal.move;rfl)|(apply VVal.int;rfl;rfl;rfl)|(apply VVal.lenF;rfl;rfl)|(apply VWp.condSeq_dec;rfl)|(intro _;try (exfalso;omega)))
   all_goals try (exfalso;omega)
   apply VWp.loopRI (pots.length) (fun k=>∀ i,i<k→gi pots i≤0) [(0,_),(1,_),(7,_)] [(1,_)] (fun k r=>(8,.p (.int .i64 (k:Int)))::r) (fun k r=>r) 2
   ·first|omega|decide
   ·first|omega|decide
   ·repeat (first|exact LCov.nil|(refine LCov.eq rfl ?_ ?_;(first|exact PV.under_of rfl|(simp [PV.under,PVs.under];done)))|refine LCov.cons trivial rfl (.of_eq (lst_len (by simp<;>omega))) ?_)
   ·repeat (first|exact HCov.nil|(refine HCov.eq rfl (lt_dec rfl) ?_ ?_;(first|exact HB.under_of rfl|exact PVs.under_pure _ _|(simp [HB.under,PVs.under,PV.under];done)))|(refine HCov.cons (lt_dec rfl) ?_ rfl ?_ ?_;(first|exact trivial|exact PVs.under_pure _ _|(simp [HB.under,PVs.under,PV.under]));(first|exact HLe.refl _|exact HLe.vec (FLes.refl _) (by simp))))
   ·first|(intro _ _;omega)|omega|trivial
   ·intro k hk;omega
   ·intro hneg
    repeat' (first|apply VWp.assoc|apply VWp.rseq|apply VWp.skipSeq|apply VWp.exitSeq|apply VWp.blockSeq|apply QSeq.normal|(apply DoneI.ret;rfl)|apply QBlk.exit|apply QLoop.exit|apply VWp.ret|apply VOps.nil|apply VOps.one|(apply VVal.assign;rfl)|(apply VVal.move;rfl)|(apply VVal.int;rfl;rfl;rfl)|(apply VVal.lenF;rfl;rfl)|(apply VWp.condSeq_false;rfl)|(apply VWp.condSeq_dec;rfl)|(intro _;try (exfalso;omega)))
    all_goals try (exfalso;omega)
    all_goals try contradiction
    apply VWp.loopRI (l.length) (fun k=>∀ i,i<k→∀ j,j<m→gi rows i+gi pots j≤gi (gi l i) j) [(0,_),(1,_),(2,_),(8,_),(48,_),(49,_)] [(1,_)] (fun k r=>(50,.p (.int .i64 (k:Int)))::r) (fun k r=>r) 2
    ·first|omega|decide
    ·first|omega|decide
    ·repeat (first|exact LCov.nil|(refine LCov.eq rfl ?_ ?_;(first|exact PV.under_of rfl|(simp [PV.under,PVs.under];done)))|refine LCov.cons trivial rfl (.of_eq (lst_len (by simp<;>omega))) ?_)
    ·repeat (first|exact HCov.nil|(refine HCov.eq rfl (lt_dec rfl) ?_ ?_;(first|exact HB.under_of rfl|exact PVs.under_pure _ _|(simp [HB.under,PVs.under,PV.under];done)))|(refine HCov.cons (lt_dec rfl) ?_ rfl ?_ ?_;(first|exact trivial|exact PVs.under_pure _ _|(simp [HB.under,PVs.under,PV.under]));(first|exact HLe.refl _|exact HLe.vec (FLes.refl _) (by simp))))
    ·first|(intro _ _;omega)|omega|trivial
    ·intro k hk;omega
    ·intro hf
     rw [hpok hall hneg hf]
     repeat' (first|apply VWp.rseq|apply VWp.exitSeq|apply QSeq.normal|apply QBlk.exit|apply QLoop.exit|apply VWp.ret|apply VOps.nil|apply VOps.one|(apply VVal.assign;rfl)|(apply VVal.move;rfl)|(apply VVal.int;rfl;rfl;rfl)|(apply VWp.condSeq_dec;rfl)|(intro _;try (exfalso;omega)))
     all_goals first|(exfalso;omega)|contradiction|(refine Done.ret rfl (.refl _) (by first|exact trivial|exact ⟨trivial,trivial,trivial⟩|exact ⟨trivial,trivial,trivial,trivial⟩) HCov.nil (Nat.zero_le _) (Nat.le_refl _) ⟨?_,rfl,rfl⟩;try rfl)
 ·have hcn:=concat2_spec rows pots hz (by omega)
  rw [← hcatl] at hcn
  generalize rows++pots=cat at *
  generalize potE l m rows pots=R at *
  refine VFun.enter (env_none (by decide)) Tryz.func74 rfl (by kernel_rfl) (by simp [Tryz.ntmps74]) ?_
  repeat' (first|(refine VOps.atOp 30 ?_;refine VOps.ghost (Ghost.freeze 29 rfl rfl) ?_)|apply VWp.assoc|apply VWp.rseq|apply VWp.skipSeq|apply VWp.blockSeq|apply VOps.nil|apply VOps.one|(apply VOps.take;rfl;rfl)|(apply VOps.guard;rfl;rfl)|(apply VVal.fn;rfl;rfl;exact hcl;intro _;rfl)|(apply VVal.fv;rfl;rfl;exact hcn)|(apply VVal.assign;rfl)|(apply VVal.move;rfl)|(apply VVal.int;rfl;rfl;rfl)|(apply VVal.pick_false;rfl;rfl)|(apply VVal.lenF;rfl;rfl)|(apply VVal.lenV;rfl;rfl;rfl)|(apply VVal.buildSlice;rfl;rfl;rfl;decide;rfl;rfl;rfl)|(apply VWp.condSeq_dec;rfl)|(intro _;try (exfalso;omega)))
  all_goals try (exfalso;omega)
  apply VWp.loopRI (cat.length) (fun k=>∀ i,i<k→big12 (gi cat i)) [(0,_),(1,_),(2,_),(30,_),(31,_)] [(1,_)] (fun k r=>(8,.p (.int .i64 (sumT cat k)))::(32,.p (.int .i64 (k:Int)))::r) (fun k r=>r) 2
  ·first|omega|decide
  ·first|omega|decide
  ·repeat (first|exact LCov.nil|(refine LCov.eq rfl ?_ ?_;(first|exact PV.under_of rfl|(simp [PV.under,PVs.under];done)))|refine LCov.cons trivial rfl (.of_eq (lst_len (by simp<;>omega))) ?_)
  ·repeat (first|exact HCov.nil|(refine HCov.eq rfl (lt_dec rfl) ?_ ?_;(first|exact HB.under_of rfl|exact PVs.under_pure _ _|(simp [HB.under,PVs.under,PV.under];done)))|(refine HCov.cons (lt_dec rfl) ?_ rfl ?_ ?_;(first|exact trivial|exact PVs.under_pure _ _|(simp [HB.under,PVs.under,PV.under]));(first|exact HLe.refl _|exact HLe.vec (FLes.refl _) (by simp))))
  ·first|(intro _ _;omega)|omega|trivial
  ·intro k hk hi
   have hb:=sumT_bound k hi
   by_cases hx:big12 (gi cat k)
   ·obtain ⟨x1,x2⟩:=hx
    repeat' (first|apply VWp.assoc|apply VWp.rseq|apply VWp.region|apply VWp.skipSeq|apply VWp.blockSeq|apply QSeq.normal|apply QBlk.normal|apply VOps.nil|apply VOps.one|(apply VOps.take;rfl;rfl)|(apply VOps.guard;rfl;rfl)|(apply VVal.assign;rfl)|(apply VVal.move;rfl)|(apply VVal.add64;rfl;rfl;omega)|(apply VVal.int;rfl;rfl;rfl)|(apply VVal.loadVL;rfl;rfl;omega;rfl)|(apply VVal.pick_false;rfl;rfl)|(apply VVal.indexVN;rfl;rfl;rfl;rfl;omega)|(apply VWp.condSeq_dec;rfl)|(intro _;try (exfalso;omega)))
    all_goals try (exfalso;omega)
    refine QLoop.normal ⟨(allSucc hi ⟨x1,x2⟩),by first|omega|decide,?_,?_⟩
    ·repeat (first|exact LCov.nil|refine LCov.same trivial rfl ?_|refine LCov.same (lt_dec rfl) rfl ?_|refine LCov.same ⟨trivial,lt_dec rfl,trivial⟩ rfl ?_|refine LCov.same ⟨trivial,lt_dec rfl,lt_dec rfl,trivial⟩ rfl ?_|refine LCov.same ⟨trivial,lt_dec rfl,lt_dec rfl,lt_dec rfl,trivial⟩ rfl ?_|refine LCov.same ⟨trivial,lt_dec rfl,lt_dec rfl,lt_dec rfl,lt_dec rfl,trivial⟩ rfl ?_|refine LCov.same ⟨trivial,trivial⟩ rfl ?_|refine LCov.cons trivial rfl (.of_eq (lst_len (by simp<;>omega))) ?_)
    ·repeat (first|exact HCov.nil|(refine HCov.cons (lt_dec rfl) ?_ rfl ?_ ?_;(first|exact HB.under_of rfl|exact PVs.under_pure _ _|(simp [HB.under,PVs.under,PV.under]));(first|exact HLe.refl _|exact HLe.vec (FLes.refl _) (by simp))))
   ·rw [hp3 k hk hx]
    unfold big12 at hx
    repeat' (first|apply VWp.assoc|apply VWp.rseq|apply VWp.skipSeq|apply VWp.retSeq|apply VWp.blockSeq|apply QSeq.ret|apply QBlk.ret|apply QLoop.ret|apply VOps.nil|apply VOps.one|(apply VOps.take;rfl;rfl)|(apply VOps.drop;rfl;rfl;rfl)|(apply VOps.guard;rfl;rfl)|(apply VVal.assign;rfl)|(apply VVal.move;rfl)|(apply VVal.int;rfl;rfl;rfl)|(apply VVal.loadVL;rfl;rfl;omega;rfl)|(apply VVal.pick_true;rfl;rfl)|(apply VVal.pick_false;rfl;rfl)|(apply VVal.indexVN;rfl;rfl;rfl;rfl;omega)|(apply VWp.condSeq_true;rfl)|(apply VWp.condSeq_dec;rfl)|(intro _;try (exfalso;omega)))
    all_goals first|(exfalso;omega)|contradiction|(refine Done.ret rfl (.refl _) (by first|exact trivial|exact ⟨trivial,trivial,trivial⟩|exact ⟨trivial,trivial,trivial,trivial⟩) HCov.nil (Nat.zero_le _) (Nat.le_refl _) ⟨?_,rfl,rfl⟩;try rfl)
  ·intro hall
   repeat' (first|apply VWp.assoc|apply VWp.rseq|apply VWp.exitSeq|apply VWp.blockSeq|apply QSeq.normal|apply QBlk.exit|apply QLoop.exit|apply VOps.nil|apply VOps.one|(apply inl_CFI;rfl;rfl;rfl;exact le_dec rfl)|(apply inl_IFI;rfl;rfl;rfl;exact le_dec rfl)|(apply VVal.assign;rfl)|(apply VVal.move;rfl)|(apply VVal.int;rfl;rfl;rfl)|(apply VVal.lenF;rfl;rfl)|(apply VWp.condSeq_dec;rfl)|(intro _;try (exfalso;omega)))
   all_goals try (exfalso;omega)
   apply VWp.loopRI (pots.length) (fun k=>∀ i,i<k→gi pots i≤0) [(0,_),(1,_),(7,_)] [(1,_)] (fun k r=>(8,.p (.int .i64 (k:Int)))::r) (fun k r=>r) 2
   ·first|omega|decide
   ·first|omega|decide
   ·repeat (first|exact LCov.nil|(refine LCov.eq rfl ?_ ?_;(first|exact PV.under_of rfl|(simp [PV.under,PVs.under];done)))|refine LCov.cons trivial rfl (.of_eq (lst_len (by simp<;>omega))) ?_)
   ·repeat (first|exact HCov.nil|(refine HCov.eq rfl (lt_dec rfl) ?_ ?_;(first|exact HB.under_of rfl|exact PVs.under_pure _ _|(simp [HB.under,PVs.under,PV.under];done)))|(refine HCov.cons (lt_dec rfl) ?_ rfl ?_ ?_;(first|exact trivial|exact PVs.under_pure _ _|(simp [HB.under,PVs.under,PV.under]));(first|exact HLe.refl _|exact HLe.vec (FLes.refl _) (by simp))))
   ·first|(intro _ _;omega)|omega|trivial
   ·intro k hk hi
    by_cases hx:gi pots k≤0
    ·repeat' (first|apply VWp.rseq|apply VWp.region|apply VWp.skipSeq|apply VWp.blockSeq|apply QSeq.normal|(apply DoneI.ret;rfl)|apply QBlk.normal|apply VWp.ret|apply VWp.skip|apply VOps.nil|apply VOps.one|(apply inl_PT1;rfl;rfl;rfl;exact le_dec rfl)|(apply VVal.assign;rfl)|(apply VVal.move;rfl)|(apply VVal.add64;rfl;rfl;omega)|(apply VVal.int;rfl;rfl;rfl)|(apply VVal.indexN;rfl;rfl;rfl;omega;rfl)|(apply VVal.load;rfl;rfl)|(apply VWp.condSeq_dec;rfl)|(apply VWp.cond_dec;rfl)|(intro _;try (exfalso;omega)))
     all_goals try (exfalso;omega)
     refine QLoop.normal ⟨(allSucc hi hx),by first|omega|decide,?_,?_⟩
     ·repeat (first|exact LCov.nil|refine LCov.same trivial rfl ?_|refine LCov.same (lt_dec rfl) rfl ?_|refine LCov.same ⟨trivial,lt_dec rfl,trivial⟩ rfl ?_|refine LCov.same ⟨trivial,lt_dec rfl,lt_dec rfl,trivial⟩ rfl ?_|refine LCov.same ⟨trivial,lt_dec rfl,lt_dec rfl,lt_dec rfl,trivial⟩ rfl ?_|refine LCov.same ⟨trivial,lt_dec rfl,lt_dec rfl,lt_dec rfl,lt_dec rfl,trivial⟩ rfl ?_|refine LCov.same ⟨trivial,trivial⟩ rfl ?_|refine LCov.cons trivial rfl (.of_eq (lst_len (by simp<;>omega))) ?_)
     ·repeat (first|exact HCov.nil|(refine HCov.cons (lt_dec rfl) ?_ rfl ?_ ?_;(first|exact HB.under_of rfl|exact PVs.under_pure _ _|(simp [HB.under,PVs.under,PV.under]));(first|exact HLe.refl _|exact HLe.vec (FLes.refl _) (by simp))))
    ·rw [hp20a hall k hk (by omega)]
     repeat' (first|apply VWp.assoc|apply VWp.rseq|apply VWp.skipSeq|apply VWp.retSeq|apply VWp.blockSeq|apply QSeq.ret|(apply DoneI.ret;rfl)|apply QBlk.ret|apply QLoop.ret|apply VWp.ret|apply VOps.nil|apply VOps.one|(apply inl_PT1;rfl;rfl;rfl;exact le_dec rfl)|(apply VVal.assign;rfl)|(apply VVal.move;rfl)|(apply VVal.int;rfl;rfl;rfl)|(apply VVal.indexN;rfl;rfl;rfl;omega;rfl)|(apply VVal.load;rfl;rfl)|(apply VWp.condSeq_true;rfl)|(apply VWp.condSeq_dec;rfl)|(apply VWp.cond_dec;rfl)|(intro _;try (exfalso;omega)))
     all_goals first|(exfalso;omega)|contradiction|(refine Done.ret rfl (.refl _) (by first|exact trivial|exact ⟨trivial,trivial,trivial⟩|exact ⟨trivial,trivial,trivial,trivial⟩) HCov.nil (Nat.zero_le _) (Nat.le_refl _) ⟨?_,rfl,rfl⟩;try rfl)
   ·intro hneg
    repeat' (first|apply VWp.assoc|apply VWp.rseq|apply VWp.skipSeq|apply VWp.exitSeq|apply VWp.blockSeq|apply QSeq.normal|(apply DoneI.ret;rfl)|apply QBlk.exit|apply QLoop.exit|apply VWp.ret|apply VOps.nil|apply VOps.one|(apply VVal.assign;rfl)|(apply VVal.move;rfl)|(apply VVal.int;rfl;rfl;rfl)|(apply VVal.lenF;rfl;rfl)|(apply VWp.condSeq_false;rfl)|(apply VWp.condSeq_dec;rfl)|(intro _;try (exfalso;omega)))
    all_goals try (exfalso;omega)
    all_goals try contradiction
    apply VWp.loopRI (l.length) (fun k=>∀ i,i<k→∀ j,j<m→gi rows i+gi pots j≤gi (gi l i) j) [(0,_),(1,_),(2,_),(8,_),(48,_),(49,_)] [(1,_)] (fun k r=>(50,.p (.int .i64 (k:Int)))::r) (fun k r=>r) 2
    ·first|omega|decide
    ·first|omega|decide
    ·repeat (first|exact LCov.nil|(refine LCov.eq rfl ?_ ?_;(first|exact PV.under_of rfl|(simp [PV.under,PVs.under];done)))|refine LCov.cons trivial rfl (.of_eq (lst_len (by simp<;>omega))) ?_)
    ·repeat (first|exact HCov.nil|(refine HCov.eq rfl (lt_dec rfl) ?_ ?_;(first|exact HB.under_of rfl|exact PVs.under_pure _ _|(simp [HB.under,PVs.under,PV.under];done)))|(refine HCov.cons (lt_dec rfl) ?_ rfl ?_ ?_;(first|exact trivial|exact PVs.under_pure _ _|(simp [HB.under,PVs.under,PV.under]));(first|exact HLe.refl _|exact HLe.vec (FLes.refl _) (by simp))))
    ·first|(intro _ _;omega)|omega|trivial
    ·intro k hk hi
     have hrl:=hrow k hk
     have r1:=hall k (by omega)
     rw [gr k hk] at r1
     obtain ⟨r2,r3⟩:=r1
     repeat' (first|apply VWp.rseq|apply VWp.skipSeq|apply VWp.blockSeq|apply VWp.blockQ|apply VOps.nil|apply VOps.one|(apply VVal.assign;rfl)|(apply VVal.move;rfl)|(apply VVal.int;rfl;rfl;rfl)|(apply VVal.indexN;rfl;rfl;rfl;omega;rfl)|(apply VVal.load;rfl;rfl)|(apply VVal.lenF;rfl;rfl)|(apply VWp.condSeq_dec;rfl)|(intro _;try (exfalso;omega)))
     all_goals try (exfalso;omega)
     apply VWp.loopRI ((gi l k).length) (fun k_=>∀ j,j<k_→gi rows k+gi pots j≤gi (gi l k) j) [(0,_),(1,_),(2,_),(8,_),(11,_),(48,_),(49,_),(50,_),(55,_),(56,_)] [(1,_)] (fun k_ r=>(57,.p (.int .i64 (k_:Int)))::r) (fun k_ r=>r) 2
     ·first|omega|decide
     ·first|omega|decide
     ·repeat (first|exact LCov.nil|(refine LCov.eq rfl ?_ ?_;(first|exact PV.under_of rfl|(simp [PV.under,PVs.under];done)))|refine LCov.cons trivial rfl (.of_eq (lst_len (by simp<;>omega))) ?_)
     ·repeat (first|exact HCov.nil|(refine HCov.eq rfl (lt_dec rfl) ?_ ?_;(first|exact HB.under_of rfl|exact PVs.under_pure _ _|(simp [HB.under,PVs.under,PV.under];done)))|(refine HCov.cons (lt_dec rfl) ?_ rfl ?_ ?_;(first|exact trivial|exact PVs.under_pure _ _|(simp [HB.under,PVs.under,PV.under]));(first|exact HLe.refl _|exact HLe.vec (FLes.refl _) (by simp))))
     ·first|(intro _ _;omega)|omega|trivial
     ·intro j hj hij
      have c1:=hrng k j hk (by omega)
      have p1:=hall (rows.length+j) (by omega)
      rw [gp j (by omega)] at p1
      obtain ⟨p2,p3⟩:=p1
      by_cases hx:gi rows k+gi pots j≤gi (gi l k) j
      ·repeat' (first|apply VWp.rseq|apply VWp.rseqD|apply VWp.region|apply VWp.skipSeq|apply VWp.blockSeq|apply QSeq.normal|apply QBlk.normal|apply VWp.skip|apply VOps.nil|apply VOpsD.nil|apply VOps.one|(apply VOpsD.bar;decide +kernel)|apply VOpsD.quiet|(apply VVal.assign;rfl)|(apply VVal.move;rfl)|(apply VVal.add64;rfl;rfl;omega)|(apply VVal.int;rfl;rfl;rfl)|(apply VVal.indexN;rfl;rfl;rfl;omega;rfl)|(apply VVal.load;rfl;rfl)|(apply VWp.condSeq_dec;rfl)|(apply VWp.cond_dec;rfl)|(intro _;try (exfalso;omega)))
       all_goals try (exfalso;omega)
       refine QLoop.normal ⟨(allSucc hij hx),by first|omega|decide,?_,?_⟩
       ·repeat (first|exact LCov.nil|refine LCov.same trivial rfl ?_|refine LCov.same (lt_dec rfl) rfl ?_|refine LCov.same ⟨trivial,lt_dec rfl,trivial⟩ rfl ?_|refine LCov.same ⟨trivial,lt_dec rfl,lt_dec rfl,trivial⟩ rfl ?_|refine LCov.same ⟨trivial,lt_dec rfl,lt_dec rfl,lt_dec rfl,trivial⟩ rfl ?_|refine LCov.same ⟨trivial,lt_dec rfl,lt_dec rfl,lt_dec rfl,lt_dec rfl,trivial⟩ rfl ?_|refine LCov.same ⟨trivial,trivial⟩ rfl ?_|refine LCov.cons trivial rfl (.of_eq (lst_len (by simp<;>omega))) ?_)
       ·repeat (first|exact HCov.nil|(refine HCov.cons (lt_dec rfl) ?_ rfl ?_ ?_;(first|exact HB.under_of rfl|exact PVs.under_pure _ _|(simp [HB.under,PVs.under,PV.under]));(first|exact HLe.refl _|exact HLe.vec (FLes.refl _) (by simp))))
      ·rw [hp20b hall hneg k j hk (by omega) (by omega)]
       repeat' (first|apply VWp.rseq|apply VWp.rseqD|apply VWp.skipSeq|apply VWp.blockSeq|apply QSeq.ret|apply QBlk.ret|apply QLoop.ret|apply VWp.ret|apply VOps.nil|apply VOpsD.nil|apply VOps.one|(apply VOpsD.bar;decide +kernel)|apply VOpsD.quiet|(apply VVal.assign;rfl)|(apply VVal.move;rfl)|(apply VVal.add64;rfl;rfl;omega)|(apply VVal.int;rfl;rfl;rfl)|(apply VVal.indexN;rfl;rfl;rfl;omega;rfl)|(apply VVal.load;rfl;rfl)|(apply VWp.condSeq_dec;rfl)|(apply VWp.cond_dec;rfl)|(intro _;try (exfalso;omega)))
       all_goals first|(exfalso;omega)|contradiction|(refine Done.ret rfl (.refl _) (by first|exact trivial|exact ⟨trivial,trivial,trivial⟩|exact ⟨trivial,trivial,trivial,trivial⟩) HCov.nil (Nat.zero_le _) (Nat.le_refl _) ⟨?_,rfl,rfl⟩;try rfl)
     ·intro hrowok
      rw [hrl] at hrowok
      repeat' (first|apply VWp.rseq|apply VWp.region|apply VWp.exitSeq|apply QSeq.normal|apply QBlk.normal|apply QBlk.exit|apply QLoop.exit|apply VOps.nil|apply VOps.one|(apply VVal.move;rfl)|(apply VVal.add64;rfl;rfl;omega)|(apply VVal.int;rfl;rfl;rfl)|(apply VWp.condSeq_dec;rfl)|(intro _;try (exfalso;omega)))
      all_goals try (exfalso;omega)
      refine QLoop.normal ⟨(allSucc hi hrowok),by first|omega|decide,?_,?_⟩
      ·repeat (first|exact LCov.nil|refine LCov.same trivial rfl ?_|refine LCov.same (lt_dec rfl) rfl ?_|refine LCov.same ⟨trivial,lt_dec rfl,trivial⟩ rfl ?_|refine LCov.same ⟨trivial,lt_dec rfl,lt_dec rfl,trivial⟩ rfl ?_|refine LCov.same ⟨trivial,lt_dec rfl,lt_dec rfl,lt_dec rfl,trivial⟩ rfl ?_|refine LCov.same ⟨trivial,lt_dec rfl,lt_dec rfl,lt_dec rfl,lt_dec rfl,trivial⟩ rfl ?_|refine LCov.same ⟨trivial,trivial⟩ rfl ?_|refine LCov.cons trivial rfl (.of_eq (lst_len (by simp<;>omega))) ?_)
      ·repeat (first|exact HCov.nil|(refine HCov.cons (lt_dec rfl) ?_ rfl ?_ ?_;(first|exact HB.under_of rfl|exact PVs.under_pure _ _|(simp [HB.under,PVs.under,PV.under]));(first|exact HLe.refl _|exact HLe.vec (FLes.refl _) (by simp))))
    ·intro hf
     rw [hpok hall hneg hf]
     repeat' (first|apply VWp.rseq|apply VWp.exitSeq|apply QSeq.normal|apply QBlk.exit|apply QLoop.exit|apply VWp.ret|apply VOps.nil|apply VOps.one|(apply VVal.assign;rfl)|(apply VVal.move;rfl)|(apply VVal.int;rfl;rfl;rfl)|(apply VWp.condSeq_dec;rfl)|(intro _;try (exfalso;omega)))
     all_goals first|(exfalso;omega)|contradiction|(refine Done.ret rfl (.refl _) (by first|exact trivial|exact ⟨trivial,trivial,trivial⟩|exact ⟨trivial,trivial,trivial,trivial⟩) HCov.nil (Nat.zero_le _) (Nat.le_refl _) ⟨?_,rfl,rfl⟩;try rfl)
noncomputable def provE (l:List (List Int)) (m:Nat) (r:MRes) (sum e most:Int):Int :=
 open Classical in
 if e≠0 then e else if sum≠r.total then 7 else if (potE l m r.rows r.pots).2≠0 then (potE l m r.rows r.pots).2
 else if (potE l m r.rows r.pots).1<r.total∨∃ i,i<r.rows.length∧gi r.rows i>most then 20 else 0
noncomputable def verE (l:List (List Int)) (m:Nat) (skip:Int) (r:MRes):Int:=provE l m r (totE l m skip r.cols).1 (totE l m skip r.cols).2 skip
theorem prove_spec {l:List (List Int)} {m:Nat} {skip B:Int} (ty:TypeId) (h:MatK l l.length m skip B) (r:MRes) (sum e most:Int) :
 VFun env 48 [.lst ty (cells l) l.length,.agg (Enc.enc r),.int .i64 sum,.int .i64 e,.int .i64 most] (.p (.int .i64 (provE l m r sum e most))):=by
 have hp:=potentials_spec ty h r.rows r.pots
 have hE:provE l m r sum e most=if e≠0 then e else if sum≠r.total then 7 else if (potE l m r.rows r.pots).2≠0 then (potE l m r.rows r.pots).2
  else open Classical in if (potE l m r.rows r.pots).1<r.total∨∃ i,i<r.rows.length∧gi r.rows i>most then 20 else 0:=rfl
 rw [hE]
 clear hE
 refine VFun.enter (env_none (by decide)) Tryz.func48 rfl (by kernel_rfl) (by simp [Tryz.ntmps48]) ?_
 by_cases e1:e=0
 case neg =>
  rw [if_pos e1]
  repeat' (first|apply VWp.rseq|apply VWp.blockSeq|apply QSeq.ret|apply QBlk.ret|apply VWp.ret|apply VOps.nil|apply VOps.one|(apply VVal.assign;rfl)|(apply VVal.move;rfl)|(apply VVal.int;rfl;rfl;rfl)|(apply VVal.box;rfl;trivial)|(apply VWp.cond_dec;rfl)|(intro _;try (exfalso;omega)))
  all_goals first|(exfalso;omega)|contradiction|(refine Done.ret rfl (.refl _) (by first|exact trivial|exact ⟨trivial,trivial,trivial⟩|exact ⟨trivial,trivial,trivial,trivial⟩) HCov.nil (Nat.zero_le _) (Nat.le_refl _) ⟨?_,rfl,rfl⟩;try rfl)
 rw [if_neg (fun x=>x e1)]
 by_cases e2:sum=r.total
 case neg =>
  rw [if_pos e2]
  repeat' (first|apply VWp.rseq|apply VWp.blockSeq|apply QSeq.ret|apply QBlk.ret|apply VWp.ret|apply VOps.nil|apply VOps.one|(apply VVal.assign;rfl)|(apply VVal.move;rfl)|(apply VVal.int;rfl;rfl;rfl)|(apply VVal.load;rfl;rfl)|(apply VVal.fieldB;rfl;rfl;rfl)|(apply VVal.box;rfl;trivial)|(apply VWp.cond_dec;rfl)|(intro _;try (exfalso;omega)))
  all_goals first|(exfalso;omega)|contradiction|(refine Done.ret rfl (.refl _) (by first|exact trivial|exact ⟨trivial,trivial,trivial⟩|exact ⟨trivial,trivial,trivial,trivial⟩) HCov.nil (Nat.zero_le _) (Nat.le_refl _) ⟨?_,rfl,rfl⟩;try rfl)
 rw [if_neg (fun x=>x e2)]
 have hlen0:(potE l m r.rows r.pots).2=0→r.rows.length=l.length:=fun h0=>Classical.byContradiction fun h1=>by
  rw [pot5 (fun x=>h1 x.1)] at h0
  cases h0
 have h60:=h.n60
 generalize potE l m r.rows r.pots=P at *
 obtain ⟨b,e3⟩:=P
 simp only at hp hlen0 ⊢
 by_cases e4:e3=0
 case neg =>
  rw [if_pos e4]
  repeat' (first|apply VWp.rseq|apply VWp.blockSeq|apply QSeq.normal|apply QSeq.ret|apply QBlk.normal|apply QBlk.ret|apply VWp.ret|apply VWp.skip|apply VOps.nil|apply VOps.one|(apply VVal.fn;rfl;rfl;exact hp;intro _;rfl)|(apply VVal.assign;rfl)|(apply VVal.move;rfl)|(apply VVal.int;rfl;rfl;rfl)|(apply VVal.load;rfl;rfl)|(apply VVal.fieldB;rfl;rfl;rfl)|(apply VVal.box;rfl;trivial)|(apply VVal.extract;rfl;rfl)|(apply VWp.cond_dec;rfl)|(intro _;try (exfalso;omega)))
  all_goals first|(exfalso;omega)|contradiction|(refine Done.ret rfl (.refl _) (by first|exact trivial|exact ⟨trivial,trivial,trivial⟩|exact ⟨trivial,trivial,trivial,trivial⟩) HCov.nil (Nat.zero_le _) (Nat.le_refl _) ⟨?_,rfl,rfl⟩;try rfl)
 rw [if_neg (fun x=>x e4)]
 have hlen:=hlen0 e4
 by_cases e5:b<r.total
 ·rw [if_pos (.inl e5)]
  repeat' (first|apply VWp.rseq|apply VWp.blockSeq|apply QSeq.normal|apply QSeq.ret|apply QBlk.normal|apply QBlk.ret|apply VWp.ret|apply VWp.skip|apply VOps.nil|apply VOps.one|(apply VOps.drop;rfl;rfl;rfl)|(apply VOps.guard;rfl;rfl)|(apply VVal.fn;rfl;rfl;exact hp;intro _;rfl)|(apply VVal.assign;rfl)|(apply VVal.move;rfl)|(apply VVal.int;rfl;rfl;rfl)|(apply VVal.load;rfl;rfl)|(apply VVal.pick_true;rfl;rfl)|(apply VVal.fieldB;rfl;rfl;rfl)|(apply VVal.box;rfl;trivial)|(apply VVal.extract;rfl;rfl)|(apply VWp.cond_true;rfl)|(apply VWp.cond_dec;rfl)|(intro _;try (exfalso;omega)))
  all_goals first|(exfalso;omega)|contradiction|(refine Done.ret rfl (.refl _) (by first|exact trivial|exact ⟨trivial,trivial,trivial⟩|exact ⟨trivial,trivial,trivial,trivial⟩) HCov.nil (Nat.zero_le _) (Nat.le_refl _) ⟨?_,rfl,rfl⟩;try rfl)
 ·repeat' (first|apply VWp.assoc|apply VWp.rseq|apply VWp.blockSeq|apply QSeq.normal|apply QBlk.normal|apply VWp.skip|apply VOps.nil|apply VOps.one|(apply VOps.take;rfl;rfl)|(apply VOps.guard;rfl;rfl)|(apply VVal.fn;rfl;rfl;exact hp;intro _;rfl)|(apply VVal.makeFunc;rfl;rfl)|(apply inl_CFI;rfl;rfl;rfl;exact le_dec rfl)|(apply inl_IFI;rfl;rfl;rfl;exact le_dec rfl)|(apply VVal.assign;rfl)|(apply VVal.move;rfl)|(apply VVal.int;rfl;rfl;rfl)|(apply VVal.load;rfl;rfl)|(apply VVal.lenF;rfl;rfl)|(apply VVal.fieldB;rfl;rfl;rfl)|(apply VVal.box;rfl;trivial)|(apply VVal.extract;rfl;rfl)|(apply VWp.cond_dec;rfl)|(intro _;try (exfalso;omega)))
  all_goals try (exfalso;omega)
  all_goals try contradiction
  apply VWp.loopRI (r.rows.length) (fun k=>∀ i,i<k→gi r.rows i≤most) [(0,_),(1,_),(7,_)] [(1,_),(0,_)] (fun k r=>(8,.p (.int .i64 (k:Int)))::r) (fun k r=>r) 2
  ·first|omega|decide
  ·first|omega|decide
  ·repeat (first|exact LCov.nil|(refine LCov.eq rfl ?_ ?_;(first|exact PV.under_of rfl|(simp [PV.under,PVs.under];done)))|refine LCov.cons trivial rfl (.of_eq (lst_len (by simp<;>omega))) ?_)
  ·repeat (first|exact HCov.nil|(refine HCov.eq rfl (lt_dec rfl) ?_ ?_;(first|exact HB.under_of rfl|exact PVs.under_pure _ _|(simp [HB.under,PVs.under,PV.under];done)))|(refine HCov.cons (lt_dec rfl) ?_ rfl ?_ ?_;(first|exact trivial|exact PVs.under_pure _ _|(simp [HB.under,PVs.under,PV.under]));(first|exact HLe.refl _|exact HLe.vec (FLes.refl _) (by simp))))
  ·first|(intro _ _;omega)|omega|trivial
  ·intro k hk hi
   by_cases hx:gi r.rows k≤most
   ·repeat' (first|apply VWp.rseq|apply VWp.region|apply VWp.skipSeq|apply VWp.blockSeq|apply QSeq.normal|(apply DoneI.ret;rfl)|apply QBlk.normal|apply VWp.ret|apply VWp.skip|apply VOps.nil|apply VOps.one|(apply inl_PV1;rfl;rfl;rfl;exact le_dec rfl)|(apply VVal.assign;rfl)|(apply VVal.move;rfl)|(apply VVal.add64;rfl;rfl;omega)|(apply VVal.int;rfl;rfl;rfl)|(apply VVal.indexN;rfl;rfl;rfl;omega;rfl)|(apply VVal.load;rfl;rfl)|(apply VWp.condSeq_dec;rfl)|(apply VWp.cond_dec;rfl)|(intro _;try (exfalso;omega)))
    all_goals try (exfalso;omega)
    refine QLoop.normal ⟨(allSucc hi hx),by first|omega|decide,?_,?_⟩
    ·repeat (first|exact LCov.nil|refine LCov.same trivial rfl ?_|refine LCov.same (lt_dec rfl) rfl ?_|refine LCov.same ⟨trivial,lt_dec rfl,trivial⟩ rfl ?_|refine LCov.same ⟨trivial,lt_dec rfl,lt_dec rfl,trivial⟩ rfl ?_|refine LCov.same ⟨trivial,lt_dec rfl,lt_dec rfl,lt_dec rfl,trivial⟩ rfl ?_|refine LCov.same ⟨trivial,lt_dec rfl,lt_dec rfl,lt_dec rfl,lt_dec rfl,trivial⟩ rfl ?_|refine LCov.same ⟨trivial,trivial⟩ rfl ?_|refine LCov.cons trivial rfl (.of_eq (lst_len (by simp<;>omega))) ?_)
    ·repeat (first|exact HCov.nil|(refine HCov.cons (lt_dec rfl) ?_ rfl ?_ ?_;(first|exact HB.under_of rfl|exact PVs.under_pure _ _|(simp [HB.under,PVs.under,PV.under]));(first|exact HLe.refl _|exact HLe.vec (FLes.refl _) (by simp))))
   ·rw [if_pos (.inr ⟨k,hk,by omega⟩)]
    repeat' (first|apply VWp.rseq|apply VWp.skipSeq|apply VWp.blockSeq|apply QSeq.ret|(apply DoneI.ret;rfl)|apply QBlk.ret|apply QLoop.ret|apply VWp.ret|apply VOps.nil|apply VOps.one|(apply inl_PV1;rfl;rfl;rfl;exact le_dec rfl)|(apply VVal.assign;rfl)|(apply VVal.move;rfl)|(apply VVal.int;rfl;rfl;rfl)|(apply VVal.indexN;rfl;rfl;rfl;omega;rfl)|(apply VVal.load;rfl;rfl)|(apply VVal.pick_false;rfl;rfl)|(apply VWp.condSeq_dec;rfl)|(apply VWp.cond_true;rfl)|(apply VWp.cond_dec;rfl)|(intro _;try (exfalso;omega)))
    all_goals first|(exfalso;omega)|contradiction|(refine Done.ret rfl (.refl _) (by first|exact trivial|exact ⟨trivial,trivial,trivial⟩|exact ⟨trivial,trivial,trivial,trivial⟩) HCov.nil (Nat.zero_le _) (Nat.le_refl _) ⟨?_,rfl,rfl⟩;try rfl)
  ·intro hall
   rw [if_neg (by
    rintro (h1|⟨i,h1,h2⟩)
    ·exact e5 h1
    ·have:=hall i h1;omega)]
   repeat' (first|apply VWp.rseq|apply VWp.exitSeq|apply QSeq.normal|(apply DoneI.ret;rfl)|apply QBlk.normal|apply QBlk.exit|apply QLoop.exit|apply VWp.ret|apply VWp.skip|apply VOps.nil|apply VOps.one|(apply VVal.assign;rfl)|(apply VVal.int;rfl;rfl;rfl)|(apply VVal.pick_false;rfl;rfl)|(apply VWp.condSeq_dec;rfl)|(apply VWp.cond_false;rfl)|(intro _;try (exfalso;omega)))
   all_goals first|(exfalso;omega)|contradiction|(refine Done.ret rfl (.refl _) (by first|exact trivial|exact ⟨trivial,trivial,trivial⟩|exact ⟨trivial,trivial,trivial,trivial⟩) HCov.nil (Nat.zero_le _) (Nat.le_refl _) ⟨?_,rfl,rfl⟩;try rfl)
theorem verify_spec {l:List (List Int)} {m:Nat} {skip B:Int} (ty:TypeId) (h:MatK l l.length m skip B) (r:MRes) :
 VFun env 22 [.lst ty (cells l) l.length,.int .i64 skip,.agg (Enc.enc r)] (.p (.int .i64 (verE l m skip r))):=by
 have hc:=mcheckP_spec ty h
 have ht:=total_spec ty h r.cols
 have hp:=prove_spec ty h r (totE l m skip r.cols).1 (totE l m skip r.cols).2 skip
 refine VFun.enter (env_none (by decide)) Tryz.func22 rfl (by kernel_rfl) (by simp [Tryz.ntmps22]) ?_
 repeat' (first|apply VWp.assoc|apply VWp.rseq|apply VWp.skipSeq|apply VWp.ret|apply VOps.nil|apply VOps.one|(apply VVal.fn;rfl;rfl;exact hc;intro _;rfl)|(apply VVal.fn;rfl;rfl;exact ht;intro _;rfl)|(apply VVal.fn;rfl;rfl;exact hp;intro _;rfl)|(apply VVal.assign;rfl)|(apply VVal.move;rfl)|(apply VVal.int;rfl;rfl;rfl)|(apply VVal.load;rfl;rfl)|(apply VVal.fieldB;rfl;rfl;rfl)|(apply VVal.box;rfl;trivial)|(apply VVal.extract;rfl;rfl)|(apply VWp.condSeq_false;rfl))
 all_goals first|(exfalso;omega)|contradiction|(refine Done.ret rfl (.refl _) (by first|exact trivial|exact ⟨trivial,trivial,trivial⟩|exact ⟨trivial,trivial,trivial,trivial⟩) HCov.nil (Nat.zero_le _) (Nat.le_refl _) ⟨?_,rfl,rfl⟩;try rfl)
theorem totS_part {l:List (List Int)} {m:Nat} {skip:Int} {cols:List Int} (h:PartI l.length m fun r=>gi cols r):∀ (r k:Nat) (used:List Bool) (sum:Int),k+r=l.length→(∀ q,k≤q→q<l.length→0≤gi cols q→gi used (gi cols q).toNat=false)→used.length=m →
 totS l m skip cols r k used sum=(sum+tailN (rowC l skip fun r=>gi cols r) l.length r,0)
 |0,k,used,sum,hk,hu,hl=>by simp [totS,tailN]
 |r+1,k,used,sum,hk,hu,hl=>by
  have hrg:=h.rng k (by omega)
  have hrg:-1≤gi cols k∧gi cols k<m:=hrg
  have ek:l.length-(r+1)=k:=by omega
  unfold totS
  rw [if_neg (by omega)]
  simp only [tailN,ek]
  by_cases c2:gi cols k<0
  ·rw [if_pos c2,totS_part h r (k+1) used (sum+skip) (by omega) (fun q q1 q2 q3=>hu q (by omega) q2 q3) hl]
   have e:rowC l skip (fun r=>gi cols r) k=skip:=if_pos c2
   rw [e,Int.add_assoc]
  ·rw [if_neg c2,hu k (Nat.le_refl _) (by omega) (by omega),if_neg (by decide)]
   have e:rowC l skip (fun r=>gi cols r) k=gi (gi l k) (gi cols k).toNat:=if_neg c2
   rw [totS_part h r (k+1) _ _ (by omega) (fun q q1 q2 q3=>?_) (by rw [List.length_set];exact hl),e,Int.add_assoc]
   rw [gs (by omega),if_neg]
   ·exact hu q (by omega) q2 q3
   ·intro e
    have:=h.inj k q (by omega) q2 (show 0≤gi cols k by omega) (show gi cols k=gi cols q by omega)
    omega
theorem sumT_sumN (l:List Int):∀ k,sumT l k=sumN (fun i=>gi l i) k
 |0=>rfl
 |k+1=>by simp only [sumT,sumN,sumT_sumN l k]
theorem ver_best {l:List (List Int)} {m:Nat} {skip B:Int} (h:MatK l l.length m skip B):verE l m skip (parM l m skip)=0:=by
 have hP:=par_ok h.mat
 have hB:=h.B9
 have hm:(parM l m skip)=⟨parC l l.length m skip,parT l l.length m skip,parU l l.length m skip,parV l l.length m skip⟩:=rfl
 rw [hm]
 generalize parC l l.length m skip=C at *
 generalize parT l l.length m skip=T at *
 generalize parU l l.length m skip=U at *
 generalize parV l l.length m skip=V at *
 have ht:totE l m skip C=(T,0):=by
  unfold totE
  rw [if_neg (fun x=>x hP.lC),totS_part hP.part l.length 0 _ 0 (by omega) (fun q _ _ _=>by
   unfold gi;rw [List.getElem?_replicate];split<;>rfl) (by simp),tailN_all,← hP.tot]
  simp
 have hcat:∀ i,i<(U++V).length→big12 (gi (U++V) i):=fun i hi=>by
  rw [List.length_append,hP.lU,hP.lV] at hi
  rcases Nat.lt_or_ge i l.length with h1|h1
  ·rw [gi_cat_l (by rw [hP.lU];exact h1)]
   have:=hP.posU i h1
   exact ⟨by omega,by omega⟩
  ·obtain ⟨j,rfl⟩:∃ j,i=U.length+j:=⟨i-U.length,by have:=hP.lU;omega⟩
   rw [gi_cat_r]
   have:=hP.lU
   have:=hP.negV j (by omega)
   exact ⟨by omega,by omega⟩
 have hs:sumT (U++V) (U++V).length=T:=by
  rw [sumT_sumN,List.length_append,sumN_split,hP.dual,hP.lU,hP.lV]
  congr 1
  ·exact sumN_congr fun k hk=>gi_cat_l (by rw [hP.lU];exact hk)
  ·exact sumN_congr fun k hk=>by
    have:=gi_cat_r (a:=U) (b:=V) (i:=k)
    rw [hP.lU] at this
    exact this
 have hp:potE l m U V=(T,0):=by
  rw [potOk ⟨hP.lU,hP.lV⟩ hcat (fun k hk=>(hP.negV k (by have:=hP.lV;omega)).2) (fun i hi k hk=>hP.pot.feas i k hi hk),hs]
 unfold verE provE
 simp only [ht,hp]
 rw [if_neg (fun h=>h rfl),if_neg (fun h=>h rfl),if_neg (fun h=>h rfl),if_neg]
 rintro (h1|⟨i,h1,h2⟩)
 ·omega
 ·have:=hP.pot.skip i (by have:=hP.lU;omega)
  have:gi U i≤skip:=this
  omega
end Go.Proofs.YtdabojnmoejilaaGreatDoor
namespace Go.Proofs.YtdabojnmoejilaaGreatDoor
open Go Go.Am Go.Vm Go.Tra Go.Hun
attribute [local irreducible] VVal VOps VOpsD VWp VCalls VFun VFunV QSeq QBlk QLoop Vm.Done DoneV DoneI
attribute [local irreducible] rchk windsE stoE dvsE cplE shiftR
structure QOk (q:Qst):Prop where
 sm1:OrgSm q.frm
 sm2:OrgSm q.tgt
 rg:q.reg.Ok
 err:qstE q=0
 shb:ShB q.frm q.tgt
theorem qst_parts {q:Qst} (h:qstE q=0):orgE q.frm=0∧regE q.frm q.reg=0∧orgE q.tgt=0∧wtsOk q.wts∧(drawnL q.frm q.reg).length≤60∧(plcs q.tgt).length≤120:=by
 unfold qstE at h
 split at h
 ·rename_i h1;exact absurd h h1
 rename_i h1
 split at h
 ·rename_i h2;exact absurd h h2
 rename_i h2
 split at h
 ·rename_i h3;exact absurd h h3
 rename_i h3
 split at h
 ·exact absurd h (by decide)
 rename_i h4
 split at h
 ·exact absurd h (by decide)
 rename_i h5
 exact ⟨Classical.not_not.1 h1,Classical.not_not.1 h2,Classical.not_not.1 h3,Classical.not_not.1 h4,by omega,by omega⟩
theorem QOk.k1 {q:Qst} (h:QOk q):OrgK q.frm:=orgK h.sm1 (qst_parts h.err).1
theorem QOk.k2 {q:Qst} (h:QOk q):OrgK q.tgt:=orgK h.sm2 (qst_parts h.err).2.2.1
theorem QOk.wts {q:Qst} (h:QOk q):wtsOk q.wts:=(qst_parts h.err).2.2.2.1
theorem QOk.len {q:Qst} (h:QOk q):q.reg.stops.length=q.frm.divs.length:=regE_eq (qst_parts h.err).2.1
def lossQ (q:Qst):List (List Int):=lossL q.frm q.tgt q.reg q.wts
def colsQ (q:Qst):Nat:=if (drawnL q.frm q.reg).length=0 then 0 else (plcs q.tgt).length
theorem lossQ_len (q:Qst):(lossQ q).length=(drawnL q.frm q.reg).length:=by simp [lossQ,lossL]
theorem lossQ_at (q:Qst) {r k:Nat} (hr:r<(drawnL q.frm q.reg).length) (hk:k<(plcs q.tgt).length):gi (gi (lossQ q) r) k=lossV q.frm q.tgt q.wts (gi (drawnL q.frm q.reg) r) (gi (plcs q.tgt) k):=by
 unfold lossQ lossL
 rw [gi_map' _ hr,gi_map' _ hk]
theorem lossQ_row (q:Qst) {r:Nat} (hr:r<(drawnL q.frm q.reg).length):(gi (lossQ q) r).length=(plcs q.tgt).length:=by
 unfold lossQ lossL
 rw [gi_map' _ hr,List.length_map]
theorem QOk.mat {q:Qst} (h:QOk q):MatK (lossQ q) (lossQ q).length (colsQ q) q.wts.miss 101000000:=by
 obtain ⟨_,_,_,hw,h5,h6⟩:=qst_parts h.err
 obtain ⟨_,_,_,w4⟩:=wts_tone hw
 have hl:=lossQ_len q
 refine ⟨⟨rfl,fun r hr=>?_,fun r k hr hk=>?_,⟨w4.1,by omega⟩,by decide⟩,by omega,?_,by decide,fun h0=>?_⟩
 ·rw [lossQ_row q (by omega)]
  unfold colsQ;rw [if_neg (by omega)]
 ·unfold colsQ at hk
  rw [if_neg (by omega)] at hk
  rw [lossQ_at q (by omega) hk]
  exact loss_bound hw h.shb (drawnL_ok (gi_mem (by omega))) (plcs_gi hk)
 ·unfold colsQ;split<;>omega
 ·unfold colsQ;rw [if_pos (by omega)]
theorem partialK_spec {l:List (List Int)} {m:Nat} {skip B:Int} (e:TypeId) (h:MatK l l.length m skip B):VFun env 45 [.lst e (cells l) l.length,.int .i64 skip] (.tup [.p (.agg (Enc.enc (parM l m skip))),.p (.int .i64 0)]):=by
 rcases Nat.eq_zero_or_pos l.length with h0|h0
 ·have hm:=h.m0 h0
  have hl:l=[]:=List.length_eq_zero_iff.1 h0
  subst hl;subst hm
  have:=h.mat.skip
  have:=h.B9
  exact partial0_spec e (by omega)
 ·exact partial_spec e h h0
theorem tLosses_spec {q:Qst} (h:QOk q):VFun env 15 [.agg (Enc.enc q)] (.tup [.p (.lst 52 (cells (lossQ q)) (lossQ q).length),.p (.int .i64 0)]):=by
 have hc:=tcheck_spec q h.sm1 h.sm2 h.rg
 rw [h.err] at hc
 have hl:=tlosses0_spec q h.k1 h.k2 h.wts h.shb h.rg h.len
 rw [show lossL q.frm q.tgt q.reg q.wts=lossQ q from rfl] at hl
 refine VFun.enter (env_none (by decide)) Tryz.func15 rfl (by kernel_rfl) (by simp [Tryz.ntmps15]) ?_
 repeat' (first|apply VWp.assoc|apply VWp.rseq|apply VWp.skipSeq|apply VWp.ret|apply VOps.nil|apply VOps.one|(apply VVal.fn;rfl;rfl;exact hc;intro _;rfl)|(apply VVal.fn;rfl;rfl;exact hl;intro _;rfl)|(apply VVal.assign;rfl)|(apply VVal.move;rfl)|(apply VVal.int;rfl;rfl;rfl)|(apply VVal.load;rfl;rfl)|(apply VVal.box;rfl;trivial)|(apply VVal.extract;rfl;rfl)|(apply VWp.condSeq_false;rfl))
 all_goals first|(exfalso;omega)|contradiction|(refine Done.ret rfl (.refl _) (by first|exact trivial|exact ⟨trivial,trivial,trivial⟩|exact ⟨trivial,trivial,trivial,trivial⟩) HCov.nil (Nat.zero_le _) (Nat.le_refl _) ⟨?_,rfl,rfl⟩;try rfl)
noncomputable def bestQ (q:Qst):MRes:=parM (lossQ q) (colsQ q) q.wts.miss
theorem tBest_spec {q:Qst} (h:QOk q):VFun env 17 [.agg (Enc.enc q)] (.tup [.p (.agg (Enc.enc (bestQ q))),.p (.int .i64 0)]):=by
 have hl:=tLosses_spec h
 have hp:=partialK_spec 52 h.mat
 rw [show parM (lossQ q) (colsQ q) q.wts.miss=bestQ q from rfl] at hp
 generalize bestQ q=b at *
 refine VFun.enter (env_none (by decide)) Tryz.func17 rfl (by kernel_rfl) (by simp [Tryz.ntmps17]) ?_
 repeat' (first|apply VWp.assoc|apply VWp.rseq|apply VWp.skipSeq|apply VWp.ret|apply VOps.nil|apply VOps.one|(apply VVal.fn;rfl;rfl;exact hl;intro _;rfl)|(apply VVal.fn;rfl;rfl;exact hp;intro _;rfl)|(apply VVal.assign;rfl)|(apply VVal.move;rfl)|(apply VVal.int;rfl;rfl;rfl)|(apply VVal.load;rfl;rfl)|(apply VVal.fieldB;rfl;rfl;rfl)|(apply VVal.box;rfl;trivial)|(apply VVal.alloc;rfl)|(apply VVal.storeB;rfl;rfl;rfl;trivial;rfl;rfl;exact lt_dec rfl;exact le_dec rfl)|(apply VVal.build;rfl;rfl;rfl;rfl;rfl)|(apply VVal.extract;rfl;rfl)|(apply VWp.condSeq_false;rfl))
 all_goals first|(exfalso;omega)|contradiction|(refine Done.ret rfl (.refl _) (by first|exact trivial|exact ⟨trivial,trivial,trivial⟩|exact ⟨trivial,trivial,trivial,trivial⟩) HCov.nil (Nat.zero_le _) (Nat.le_refl _) ⟨?_,rfl,rfl⟩;try rfl)
def planZ:List FV:=[.val (.slice none 0 0),.int .i64 0,.val (.slice none 0 0),.val (.slice none 0 0)]
theorem tVerify_spec {q:Qst} (h:QOk q) (p:MRes):VFun env 21 [.agg (Enc.enc q),.agg (Enc.enc p)] (.p (.int .i64 (verE (lossQ q) (colsQ q) q.wts.miss p))):=by
 have hl:=tLosses_spec h
 have hp:=verify_spec 52 h.mat p
 refine VFun.enter (env_none (by decide)) Tryz.func21 rfl (by kernel_rfl) (by simp [Tryz.ntmps21]) ?_
 repeat' (first|apply VWp.assoc|apply VWp.rseq|apply VWp.skipSeq|apply VWp.ret|apply VOps.nil|apply VOps.one|(apply VVal.fn;rfl;rfl;exact hl;intro _;rfl)|(apply VVal.fn;rfl;rfl;exact hp;intro _;rfl)|(apply VVal.assign;rfl)|(apply VVal.move;rfl)|(apply VVal.int;rfl;rfl;rfl)|(apply VVal.load;rfl;rfl)|(apply VVal.fieldB;rfl;rfl;rfl)|(apply VVal.box;rfl;trivial)|(apply VVal.build;rfl;rfl;rfl;rfl;rfl)|(apply VVal.extract;rfl;rfl)|(apply VWp.condSeq_false;rfl))
 all_goals first|(exfalso;omega)|contradiction|(refine Done.ret rfl (.refl _) (by first|exact trivial|exact ⟨trivial,trivial,trivial⟩|exact ⟨trivial,trivial,trivial,trivial⟩) HCov.nil (Nat.zero_le _) (Nat.le_refl _) ⟨?_,rfl,rfl⟩;try rfl)
end Go.Proofs.YtdabojnmoejilaaGreatDoor
namespace Go.Proofs.YtdabojnmoejilaaGreatDoor
open Go Go.Am Go.Vm
attribute [local irreducible] VVal VOps VOpsD VWp VCalls VFun VFunV QSeq QBlk QLoop Vm.Done DoneV DoneI
def noneR (o:Org):Rgs:=⟨List.replicate o.divs.length 0,0,0⟩
theorem clone64_spec (l:List Nat) (h0:0<l.length) (h1:l.length<1000000):VFunV env 77 [.lst 39 (cells l) l.length] 39 (cells l) l.length false:=by
 refine VFunV.enter (env_none (by decide)) Tryz.func77 rfl (by kernel_rfl) (by simp [Tryz.ntmps77]) ?_
 repeat' (first|apply VWp.assoc|apply VWp.rseq|apply VWp.skipSeq|apply VWp.ret|apply VOps.nil|apply VOps.one|(apply VVal.eqNilF;rfl;rfl;rfl;exact h0)|(apply VVal.assign;rfl)|(apply VVal.move;rfl)|(apply VVal.buildSlice;rfl;rfl;rfl;decide;rfl;rfl;rfl)|(apply VVal.appendL0;rfl;rfl;rfl;(first|rfl|omega|(simp only [List.length_take,List.length_drop,List.length_append,List.length_singleton,List.length_cons,List.length_nil]<;>omega));rfl;rfl;(intro _ h;cases h);rfl;rfl;rfl;decide;decide;(first|omega|(simp only [List.length_take,List.length_drop,List.length_append,List.length_singleton,List.length_cons,List.length_nil]<;>omega)))|(apply VWp.condSeq_false;rfl))
 exact DoneV.ret rfl rfl rfl rfl
theorem inl_CHG {L:Vm.Frame} {H:Vm.Heap} {nx:Nat} {Q:PV→Vm.Heap→Nat→Prop} {dst:Option Tmp} {ty:TypeId} {pos:String} {af:Array Edge} {gd:Option (Nat×Bool)} {fo:Operand} {args:Array Operand} {aT:Array TypeId} {fs cs xs:List PV} {c:Code}
 (hf:vev env.Γ L fo=some (.clo 49 fs cs)) (ha:evs env.Γ L args.toList=some xs) (hb:Tryz.f49.body=some c) (hn:(fs++xs++cs).length≤Tryz.f49.ntmps)
 (h:VWp env nx c (argFrame 0 (fs++xs++cs)) H nx (DoneI env.P Tryz.f49.results.toList Q)):VVal env true ⟨dst,.call { callee:=.value fo,args:=args,argTypes:=aT },ty,pos,af,gd⟩ L H nx Q:=by
 have h0:(match Tryz.f49.body with|some c=>fnOk env.G Tryz.f49 c|none=>false)=true:=by kernel_rfl
 rw [hb] at h0
 exact VVal.inline rfl hf ha (env_none (by decide)) Tryz.func49 hb h0 hn h
theorem inl_FUL {L:Vm.Frame} {H:Vm.Heap} {nx:Nat} {Q:PV→Vm.Heap→Nat→Prop} {dst:Option Tmp} {ty:TypeId} {pos:String} {af:Array Edge} {gd:Option (Nat×Bool)} {fo:Operand} {args:Array Operand} {aT:Array TypeId} {fs cs xs:List PV} {c:Code}
 (hf:vev env.Γ L fo=some (.clo 50 fs cs)) (ha:evs env.Γ L args.toList=some xs) (hb:Tryz.f50.body=some c) (hn:(fs++xs++cs).length≤Tryz.f50.ntmps)
 (h:VWp env nx c (argFrame 0 (fs++xs++cs)) H nx (DoneI env.P Tryz.f50.results.toList Q)):VVal env true ⟨dst,.call { callee:=.value fo,args:=args,argTypes:=aT },ty,pos,af,gd⟩ L H nx Q:=by
 have h0:(match Tryz.f50.body with|some c=>fnOk env.G Tryz.f50 c|none=>false)=true:=by kernel_rfl
 rw [hb] at h0
 exact VVal.inline rfl hf ha (env_none (by decide)) Tryz.func50 hb h0 hn h
def fullF (o:Org) (k:Nat):Nat:=2 ^ (gi o.divs k).stops.length-1
def fullR (o:Org):Rgs:=⟨setK (fullF o) (List.replicate o.divs.length 0) o.divs.length,2 ^ o.cpls.length-1,0⟩
def withR (r:Rgs) (d s:Nat):Rgs:=⟨r.stops.set d (gi r.stops d ||| 2 ^ s),r.cp,r.off⟩
def unionF (a b:Rgs) (k:Nat):Nat:=gi a.stops k ||| gi b.stops k
def unionR (a b:Rgs):Rgs:=⟨setK (unionF a b) a.stops a.stops.length,a.cp ||| b.cp,a.off ||| b.off⟩
end Go.Proofs.YtdabojnmoejilaaGreatDoor
namespace Go.Proofs.YtdabojnmoejilaaGreatDoor
open Go Go.Am Go.Vm Go.Tra
attribute [local irreducible] VVal VOps VOpsD VWp VCalls VFun VFunV QSeq QBlk QLoop Vm.Done DoneV DoneI
attribute [local irreducible] rchk windsE stoE dvsE cplE shiftR
theorem noneK_spec (o:Org) (ho:OrgK o):VFun env 40 [.agg (Enc.enc o)] (.tup [.p (.agg (Enc.enc (noneR o))),.p (.int .i64 0)]):=by
 have hc:=ocheck_spec o ho.sm
 rw [ho.err] at hc
 have r2:=ho.divs
 have hl:(List.replicate o.divs.length 0:List Nat).length=o.divs.length:=List.length_replicate
 have e:Enc.enc (noneR o)=[.lst 39 (cells (List.replicate o.divs.length (0:Nat))) o.divs.length,.int .u64 0,.int .u64 0]:=by
  show [FV.lst 39 (cells (List.replicate o.divs.length (0:Nat))) (List.replicate o.divs.length (0:Nat)).length,.int .u64 0,.int .u64 0]=_
  rw [hl]
 rw [e]
 refine VFun.enter (env_none (by decide)) Tryz.func40 rfl (by kernel_rfl) (by simp [Tryz.ntmps40]) ?_
 repeat' (first|(refine VOps.atOp 15 ?_;refine VOps.ghost (Ghost.freeze 14 rfl rfl) ?_)|apply VWp.assoc|apply VWp.rseq|apply VWp.skipSeq|apply VWp.ret|apply VOps.nil|apply VOps.one|(apply VVal.fn;rfl;rfl;exact hc;intro _;rfl)|(apply VVal.makeSliceL o.divs.length (0:Nat);rfl;rfl;rfl;rfl;rfl;rfl;rfl;omega;decide;decide;rfl)|(apply VVal.assign;rfl)|(apply VVal.move;rfl)|(apply VVal.int;rfl;rfl;rfl)|(apply VVal.load;rfl;rfl)|(apply VVal.lenF;rfl;rfl)|(apply VVal.fieldB;rfl;rfl;rfl)|(apply VVal.box;rfl;trivial)|(apply VVal.alloc;rfl)|(apply VVal.storeB;rfl;rfl;rfl;trivial;rfl;rfl;exact lt_dec rfl;exact le_dec rfl)|(apply VVal.build;rfl;rfl;rfl;rfl;rfl)|(apply VWp.condSeq_false;rfl))
 all_goals first|(exfalso;omega)|contradiction|(refine Done.ret rfl (.refl _) (by first|exact trivial|exact ⟨trivial,trivial,trivial⟩|exact ⟨trivial,trivial,trivial,trivial⟩) HCov.nil (Nat.zero_le _) (Nat.le_refl _) ⟨?_,rfl,rfl⟩;try rfl)
theorem pow60 {n:Nat} (h:n≤60):2 ^ n≤1152921504606846976:=Nat.pow_le_pow_right (by decide) h
theorem fullK_spec (o:Org) (ho:OrgK o):VFun env 25 [.agg (Enc.enc o)] (.tup [.p (.agg (Enc.enc (fullR o))),.p (.int .i64 0)]):=by
 have r2:=ho.divs
 have r3:=ho.cpls
 have p3:=pow60 (n:=o.cpls.length) (by omega)
 have hn:=noneK_spec o ho
 have hl:(List.replicate o.divs.length 0:List Nat).length=o.divs.length:=List.length_replicate
 have hz:(noneR o).stops.length=o.divs.length:=hl
 have hcl:=clone64_spec (noneR o).stops (show 0<(List.replicate o.divs.length 0:List Nat).length by omega) (show (List.replicate o.divs.length 0:List Nat).length<1000000 by omega)
 refine VFun.enter (env_none (by decide)) Tryz.func25 rfl (by kernel_rfl) (by simp [Tryz.ntmps25]) ?_
 repeat' (first|apply VWp.assoc|apply VWp.rseq|apply VWp.skipSeq|apply VWp.blockSeq|apply VOps.nil|apply VOps.one|(apply VVal.fn;rfl;rfl;exact hn;intro _;rfl)|(apply VVal.fv;rfl;rfl;exact hcl)|(apply inl_CHG;rfl;rfl;rfl;exact le_dec rfl)|(apply inl_FUL;rfl;rfl;rfl;exact le_dec rfl)|(apply VVal.makeFunc;rfl;rfl)|(apply VVal.assign;rfl)|(apply VVal.move;rfl)|(apply VVal.int;rfl;rfl;rfl)|(apply VVal.load;rfl;rfl)|(apply VVal.lenF;rfl;rfl)|(apply VVal.fieldB;rfl;rfl;rfl)|(apply VVal.box;rfl;trivial)|(apply VVal.alloc;rfl)|(apply VVal.storeB;rfl;rfl;rfl;trivial;rfl;rfl;exact lt_dec rfl;exact le_dec rfl)|(apply VVal.extract;rfl;rfl)|(apply VWp.condSeq_false;rfl))
 all_goals try (exfalso;omega)
 all_goals try contradiction
 apply VWp.loopR (o.divs.length) [(0,_),(1,_),(6,_),(7,_)] [(0,_),(1,_),(2,_),(3,_),(4,_)] (fun k r=>(8,.p (.int .i64 (k:Int)))::r) (fun k r=>(5,.vec 39 (cells (setK (fullF o) (List.replicate o.divs.length 0) k)) (List.replicate o.divs.length (0:Nat)).length false)::r) 6
 ·first|omega|decide
 ·first|omega|decide
 ·repeat (first|exact LCov.nil|(refine LCov.eq rfl ?_ ?_;(first|exact PV.under_of rfl|(simp [PV.under,PVs.under];done)))|refine LCov.cons trivial rfl (.of_eq (lst_len (by simp<;>omega))) ?_)
 ·repeat (first|exact HCov.nil|(refine HCov.eq rfl (lt_dec rfl) ?_ ?_;(first|exact HB.under_of rfl|exact PVs.under_pure _ _|(simp [HB.under,PVs.under,PV.under];done)))|(refine HCov.cons (lt_dec rfl) ?_ rfl ?_ ?_;(first|exact trivial|exact PVs.under_pure _ _|(simp [HB.under,PVs.under,PV.under]));(first|exact HLe.refl _|exact HLe.vec (FLes.refl _) (by simp))))
 ·intro k hk
  have hk2:=setK_len (fullF o) (List.replicate o.divs.length 0) k
  have s3:=ho.stops k hk
  have p1:=pow60 s3
  have e1:(setK (fullF o) (List.replicate o.divs.length 0) k).set k (fullF o k)=setK (fullF o) (List.replicate o.divs.length 0) (k+1):=rfl
  repeat' (first|apply VWp.rseq|apply VWp.region|apply VWp.regionD|apply VWp.skipSeq|apply VWp.blockSeq|apply QSeq.normal|apply QBlk.normal|apply VOps.nil|apply VOpsD.nil|apply VOps.one|(apply VOpsD.bar;decide +kernel)|apply VOpsD.quiet|(apply VVal.maskU;rfl;rfl;omega)|(apply VVal.nilChk;rfl;rfl)|(apply VVal.storeVL (y:=fullF o k);rfl;rfl;rfl;trivial;(first|rfl|(refine congrArg (fun t=>[PV.p (FV.int _ t)]) ?_;first|omega|(simp only [Int.natCast_add,Int.natCast_mul,Int.natCast_ediv,Int.natCast_emod]<;>omega)));rfl;rfl;decide;(first|omega|(simp only [List.length_set]<;>omega)))|(apply VVal.assign;rfl)|(apply VVal.move;rfl)|(apply VVal.add64;rfl;rfl;omega)|(apply VVal.int;rfl;rfl;rfl)|(apply VVal.indexN;rfl;rfl;rfl;omega;rfl)|(apply VVal.load;rfl;rfl)|(apply VVal.lenF;rfl;rfl)|(apply VVal.fieldB;rfl;rfl;rfl)|(apply VVal.alloc;rfl)|(apply VVal.storeB;rfl;rfl;rfl;trivial;rfl;rfl;exact lt_dec rfl;exact le_dec rfl)|(apply VVal.indexVN;rfl;rfl;rfl;rfl;omega)|(apply VVal.shlOneU;rfl;rfl;omega)|(apply VWp.condSeq_dec;rfl)|(intro _;try (exfalso;omega)))
  all_goals try (exfalso;omega)
  refine QLoop.normal ⟨by first|omega|decide,?_,?_⟩
  ·try (rw [← e1])
   repeat (first|exact LCov.nil|refine LCov.same trivial rfl ?_|refine LCov.same (lt_dec rfl) rfl ?_|refine LCov.same ⟨trivial,lt_dec rfl,trivial⟩ rfl ?_|refine LCov.same ⟨trivial,lt_dec rfl,lt_dec rfl,trivial⟩ rfl ?_|refine LCov.same ⟨trivial,lt_dec rfl,lt_dec rfl,lt_dec rfl,trivial⟩ rfl ?_|refine LCov.same ⟨trivial,lt_dec rfl,lt_dec rfl,lt_dec rfl,lt_dec rfl,trivial⟩ rfl ?_|refine LCov.same ⟨trivial,trivial⟩ rfl ?_|refine LCov.cons trivial rfl (.of_eq (lst_len (by simp<;>omega))) ?_)
  ·rw [← e1]
   repeat (first|exact HCov.nil|(refine HCov.cons (lt_dec rfl) ?_ rfl ?_ ?_;(first|exact HB.under_of rfl|exact PVs.under_pure _ _|(simp [HB.under,PVs.under,PV.under]));(first|exact HLe.refl _|exact HLe.vec (FLes.refl _) (by simp))))
 ·repeat' (first|(refine VWp.at 3 ?_;refine VWp.ghost (Ghost.freezeCell 3 0 rfl rfl rfl) ?_;first|apply VWp.rseq|apply VWp.rseqD)|apply VWp.rseq|apply VWp.region|apply VWp.exitSeq|apply QSeq.normal|(apply DoneI.ret;rfl)|(apply DoneI.normal;rfl)|apply QBlk.exit|apply QLoop.exit|apply VWp.ret|apply VOps.nil|apply VOps.one|(apply VVal.maskU;rfl;rfl;omega)|(apply VVal.nilChk;rfl;rfl)|(apply VVal.assign;rfl)|(apply VVal.move;rfl)|(apply VVal.int;rfl;rfl;rfl)|(apply VVal.load;rfl;rfl)|(apply VVal.lenF;rfl;rfl)|(apply VVal.fieldB;rfl;rfl;rfl)|(apply VVal.storeB;rfl;rfl;rfl;trivial;rfl;rfl;exact lt_dec rfl;exact le_dec rfl)|(apply VVal.shlOneU;rfl;rfl;omega)|(apply VWp.condSeq_dec;rfl)|(intro _;try (exfalso;omega)))
  all_goals try (exfalso;omega)
  all_goals (refine Done.ret rfl (.refl _) ⟨trivial,trivial,trivial⟩ HCov.nil (Nat.zero_le _) (Nat.le_refl _) ⟨?_,rfl,rfl⟩)
  show PV.tup [.p (.agg [.lst 39 (cells (setK (fullF o) (List.replicate o.divs.length 0) o.divs.length)) (List.replicate o.divs.length (0:Nat)).length,.int .u64 _,.int .u64 0]),.p (.int .i64 0)]=_
  rw [← setK_len (fullF o) (List.replicate o.divs.length 0) o.divs.length]
  rfl
theorem gi_setK {f:Nat→Nat} {l:List Nat}:∀ k i,k≤l.length→gi (setK f l k) i=if i<k then f i else gi l i
 |0,i,_=>by rw [if_neg (by omega)];rfl
 |k+1,i,hk=>by
  show gi ((setK f l k).set k (f k)) i=_
  rw [gi_set]
  have hl:=setK_len f l k
  by_cases e:k=i
  ·subst e
   rw [if_pos ⟨rfl,by omega⟩,if_pos (by omega)]
  ·rw [if_neg (fun h=>e h.1),gi_setK k i (by omega)]
   by_cases h:i<k
   ·rw [if_pos h,if_pos (by omega)]
   ·rw [if_neg h,if_neg (by omega)]
theorem fullR_gi {o:Org} {i:Nat} (hi:i<o.divs.length):gi (fullR o).stops i=2 ^ (gi o.divs i).stops.length-1:=by
 show gi (setK (fullF o) (List.replicate o.divs.length 0) o.divs.length) i=_
 rw [gi_setK _ _ (by rw [List.length_replicate];exact Nat.le_refl _),if_pos hi]
 rfl
theorem fullR_len (o:Org):(fullR o).stops.length=o.divs.length:=by
 show (setK (fullF o) (List.replicate o.divs.length 0) o.divs.length).length=_
 rw [setK_len,List.length_replicate]
theorem fullR_reg {o:Org}:regE o (fullR o)=0:=by
 rw [regE_rest (fullR_len o) (fun i hi=>?_),if_neg]
 ·rintro (h|h)
  ·refine h (Nat.div_eq_of_lt ?_)
   have:=Nat.two_pow_pos o.cpls.length
   show 2 ^ o.cpls.length-1<_
   omega
  ·exact h (Nat.zero_div _)
 ·rw [fullR_len] at hi
  rw [fullR_gi hi]
  have:=Nat.two_pow_pos (gi o.divs i).stops.length
  exact Nat.div_eq_of_lt (by omega)
theorem fullR_ok {o:Org} (ho:OrgK o):(fullR o).Ok:=by
 have h1:=ho.divs
 refine ⟨fun i hi=>?_,?_,by show 0<_;decide,by rw [fullR_len];omega⟩
 ·rw [fullR_len] at hi
  rw [fullR_gi hi]
  have:=pow60 (ho.stops i hi)
  omega
 ·have:=pow60 (n:=o.cpls.length) (by have:=ho.cpls;omega)
  show 2 ^ o.cpls.length-1<_
  omega
theorem drawnL_full (o:Org):drawnL o (fullR o)=plcs o:=by
 unfold drawnL
 rw [List.filter_eq_self]
 intro p hp
 obtain ⟨h1,h2⟩:=plcs_mem hp
 unfold drawnB
 rw [fullR_gi h1,beq_iff_eq]
 have h3:(2 ^ (gi o.divs p.d).stops.length-1).testBit p.s=true:=by
  rw [Nat.testBit_two_pow_sub_one]
  exact decide_eq_true h2
 rw [Nat.testBit_eq_decide_div_mod_eq] at h3
 exact of_decide_eq_true h3
end Go.Proofs.YtdabojnmoejilaaGreatDoor
namespace Go.Proofs.YtdabojnmoejilaaGreatDoor
open Go Go.Am Go.Vm Go.Tra
attribute [local irreducible] VVal VOps VOpsD VWp VCalls VFun VFunV QSeq QBlk QLoop Vm.Done DoneV DoneI VUn
def smpS (i:Nat) (f:Int):Stp:=⟨[82,UInt8.ofNat (48+i)],⟨f,1⟩,[⟨36,38,[⟨(i:Int),0⟩]⟩]⟩
def smpR (i:Nat) (t:List UInt8) (f:Int):Rnk:=⟨[82,UInt8.ofNat (48+i)],t,⟨f,1⟩,36,[1,1,1]⟩
def smpD (ss:List Stp):Dvs:=⟨[71,114,101,97,116],false,36,38,ss⟩
structure Tn where
 t:List UInt8
instance:Enc Tn:={ default:=⟨[]⟩,enc:=fun x=>[.str (bs x.t)],size:=1,len:=fun _=>rfl }
def smpSL (fs:List Int) (k:Nat):List Stp:=(List.range k).map fun i=>smpS i (gi fs i)
def smpRL (ts:List Tn) (fs:List Int) (k:Nat):List Rnk:=(List.range k).map fun i=>smpR i (gi ts i).t (gi fs i)
theorem smpSL_succ (fs:List Int) (k:Nat):smpSL fs (k+1)=smpSL fs k++[smpS k (gi fs k)]:=by simp [smpSL,List.range_succ]
theorem smpRL_succ (ts:List Tn) (fs:List Int) (k:Nat):smpRL ts fs (k+1)=smpRL ts fs k++[smpR k (gi ts k).t (gi fs k)]:=by simp [smpRL,List.range_succ]
theorem smpSL_len (fs:List Int) (k:Nat):(smpSL fs k).length=k:=by simp [smpSL]
theorem smpRL_len (ts:List Tn) (fs:List Int) (k:Nat):(smpRL ts fs k).length=k:=by simp [smpRL]
def smpO (ts:List Tn) (fs:List Int):Org:=⟨[79],smpRL ts fs ts.length,[smpD (smpSL fs ts.length)],[]⟩
theorem simple_spec (ts:List Tn) (fs:List Int) (hl:ts.length=fs.length) (h9:ts.length≤9):VFun env 23 [.lst 9 (cells ts) ts.length,.lst 3 (cells fs) fs.length] (.p (.agg (Enc.enc (smpO ts fs)))):=by
 refine VFun.enter (env_none (by decide)) Tryz.func23 rfl (by kernel_rfl) (by simp [Tryz.ntmps23]) ?_
 repeat' (first|apply VWp.assoc|apply VWp.rseq|apply VWp.blockSeq|apply VOps.nil|apply VOps.one|(apply VVal.assign;rfl)|(apply VVal.alloc;rfl)|(apply VVal.storeB;rfl;rfl;rfl;trivial;rfl;rfl;exact lt_dec rfl;exact le_dec rfl)|(apply VVal.build;rfl;rfl;rfl;rfl;rfl)|(apply VVal.buildSlice;rfl;rfl;rfl;decide;rfl;rfl;rfl))
 all_goals try (exfalso;omega)
 refine VWp.ghost ((((Ghost.openVec 1 rfl (by decide)).trans (Ghost.adoptCellV 1 4 122 rfl rfl)).trans (Ghost.adoptCell 2 1 131 rfl rfl))) ?_
 apply VWp.loopR (ts.length) [(0,_),(1,_),(4,_),(5,_)] [(0,_)] (fun k r=>(6,.p (.int .i64 (k:Int)))::r) (fun k r=>(1,.vecp 97 [.p (.str (bs [71,114,101,97,116])),.p (.bool false),.p (.int .i64 36),.p (.int .i64 38),.vec 3 (smpSL fs k).length 0 (smpSL fs k).length] 1)::(2,.box 37 [.p (.str (bs [79])),.vec 4 (smpRL ts fs k).length 0 (smpRL ts fs k).length,.vec 1 1 0 1,.p (.val (.slice none 0 0))])::(3,.vec 122 (cells (smpSL fs k)) (smpSL fs k).length true)::(4,.vec 131 (cells (smpRL ts fs k)) (smpRL ts fs k).length true)::r) 5
 ·first|omega|decide
 ·first|omega|decide
 ·repeat (first|exact LCov.nil|(refine LCov.eq rfl ?_ ?_;(first|exact PV.under_of rfl|(simp [PV.under,PVs.under];done)))|refine LCov.cons trivial rfl (.of_eq (lst_len (by simp<;>omega))) ?_)
 ·repeat (first|exact HCov.nil|(refine HCov.eq rfl (lt_dec rfl) ?_ ?_;(first|exact HB.under_of rfl|exact PVs.under_pure _ _|(simp [HB.under,PVs.under,PV.under];done)))|(refine HCov.cons (lt_dec rfl) ?_ rfl ?_ ?_;(first|exact trivial|exact PVs.under_pure _ _|(simp [HB.under,PVs.under,PV.under]));(first|exact HLe.refl _|exact HLe.vec (FLes.refl _) (by simp))))
 ·intro k hk
  have a1:=smpSL_succ fs k
  have a2:=smpRL_succ ts fs k
  have a3:(smpSL fs (k+1)).length=(smpSL fs k).length+1:=by rw [a1];simp
  have a4:(smpRL ts fs (k+1)).length=(smpRL ts fs k).length+1:=by rw [a2];simp
  have a5:=smpSL_len fs k
  have a6:=smpRL_len ts fs k
  repeat' (first|(refine VOpsD.atIdx 9 ?_;refine VOpsD.ghost (Ghost.freeze 37 rfl rfl) ?_)|(refine VOpsD.atIdx 12 ?_;refine VOpsD.ghost (Ghost.freeze 53 rfl rfl) ?_)|(refine VOpsD.atIdx 14 ?_;refine VOpsD.ghost (Ghost.freeze 55 rfl rfl) ?_)|(refine VOpsD.atIdx 16 ?_;apply VOpsD.weak [.tmp 42];decide +kernel;rfl;rfl;(first|exact VOwn.ref rfl|exact VOwn.vec rfl|exact VOwn.eref rfl);decide +kernel;rfl)|apply VWp.assoc|apply VWp.rseq|apply VWp.rseqD|apply VWp.region|apply VWp.regionD|apply VWp.skipSeq|apply VWp.blockSeq|apply QSeq.normal|apply QBlk.normal|apply VOps.nil|apply VOpsD.nil|apply VOps.one|(apply VOpsD.bar;decide +kernel)|apply VOpsD.quiet|(apply VVal.append1 (a:=smpR k (gi ts k).t (gi fs k));rfl;rfl;rfl;rfl;rfl;rfl;rfl;rfl;(intro _ h;cases h);rfl;rfl;rfl;decide;decide;(first|omega|(simp only [List.length_take,List.length_drop,List.length_append,List.length_singleton,List.length_cons,List.length_nil]<;>omega)))|(apply VVal.append1 (a:=smpS k (gi fs k));rfl;rfl;rfl;rfl;rfl;rfl;rfl;rfl;(intro _ h;cases h);rfl;rfl;rfl;decide;decide;(first|omega|(simp only [List.length_take,List.length_drop,List.length_append,List.length_singleton,List.length_cons,List.length_nil]<;>omega)))|(apply VVal.ofByte2;rfl;rfl;rfl;rfl;rfl;decide;omega)|(apply VVal.indexN (l:=ts) (i:=k);rfl;rfl;rfl;exact hk;rfl)|(apply VVal.indexN (l:=fs) (i:=k);rfl;rfl;rfl;omega;rfl)|(apply VVal.indexQ (i:=0);rfl;rfl;rfl;rfl;decide)|(apply VVal.fieldQ;rfl;rfl;rfl)|(apply VVal.loadQ;rfl;rfl;rfl;rfl)|(apply VVal.storeQ;rfl;rfl;rfl;trivial;rfl;rfl;decide;(simp only [List.length_cons,List.length_nil]<;>decide))|(apply VVal.assign;rfl)|(apply VVal.move;rfl)|(apply VVal.add64;rfl;rfl;omega)|(apply VVal.addB;rfl;rfl;omega)|(apply VVal.int;rfl;rfl;rfl)|(apply VVal.load;rfl;rfl)|(apply VVal.lenF;rfl;rfl)|(apply VVal.fieldB;rfl;rfl;rfl)|(apply VVal.alloc;rfl)|(apply VVal.storeB;rfl;rfl;rfl;trivial;rfl;rfl;exact lt_dec rfl;exact le_dec rfl)|(apply VVal.build;rfl;rfl;rfl;rfl;rfl)|(apply VVal.buildSlice;rfl;rfl;rfl;decide;rfl;rfl;rfl)|(apply VVal.convB;rfl;rfl;rfl;rfl;omega)|(apply VWp.condSeq_dec;rfl)|(intro _;try (exfalso;omega)))
  all_goals try (exfalso;omega)
  refine QLoop.normal ⟨by omega,?_,?_⟩
  ·repeat (first|exact LCov.nil|refine LCov.same trivial rfl ?_|refine LCov.same (lt_dec rfl) rfl ?_|refine LCov.same ⟨trivial,lt_dec rfl,trivial⟩ rfl ?_|refine LCov.same ⟨trivial,lt_dec rfl,lt_dec rfl,trivial⟩ rfl ?_|refine LCov.same ⟨trivial,lt_dec rfl,lt_dec rfl,lt_dec rfl,trivial⟩ rfl ?_|refine LCov.same ⟨trivial,lt_dec rfl,lt_dec rfl,lt_dec rfl,lt_dec rfl,trivial⟩ rfl ?_|refine LCov.same ⟨trivial,trivial⟩ rfl ?_|refine LCov.cons trivial rfl (.of_eq (lst_len (by simp<;>omega))) ?_)
  ·rw [a3,a4,a1,a2]
   repeat (first|exact HCov.nil|(refine HCov.cons (lt_dec rfl) ?_ rfl ?_ ?_;(first|exact HB.under_of rfl|exact PVs.under_pure _ _|(simp [HB.under,PVs.under,PV.under]));(first|exact HLe.refl _|exact HLe.vec (FLes.refl _) (by simp))))
 ·repeat' (first|(refine VWp.at 9 ?_;refine VWp.ghost (((((Ghost.freezeCellV 1 4 rfl rfl rfl).trans (Ghost.closeVec 1 (cells [smpD (smpSL fs ts.length)]) rfl (by decide) rfl)).trans (Ghost.freezeCell 2 2 rfl rfl rfl)).trans (Ghost.freezeCell 2 1 rfl rfl rfl))) ?_;first|apply VWp.rseq|apply VWp.rseqD)|apply VWp.assoc|apply VWp.rseq|apply VWp.exitSeq|apply QSeq.normal|apply QBlk.exit|apply QLoop.exit|apply VWp.ret|apply VOps.nil|apply VOps.one|(apply VVal.move;rfl)|(apply VVal.int;rfl;rfl;rfl)|(apply VVal.load;rfl;rfl)|(apply VVal.lenF;rfl;rfl)|(apply VVal.storeB;rfl;rfl;rfl;trivial;rfl;rfl;exact lt_dec rfl;exact le_dec rfl)|(apply VWp.condSeq_dec;rfl)|(intro _;try (exfalso;omega)))
  all_goals try (exfalso;omega)
  all_goals (refine Done.ret (r:=.p (.agg (Enc.enc (smpO ts fs)))) rfl (.p (.agg (.cons (.refl _) (.cons (.refl _) (.cons (.refl _) (.cons (.nil _) (.refl _))))))) trivial HCov.nil (Nat.zero_le _) (Nat.le_refl _) ⟨rfl,rfl,rfl⟩)
end Go.Proofs.YtdabojnmoejilaaGreatDoor
namespace Go.Proofs.YtdabojnmoejilaaGreatDoor
open Go Go.Am Go.Vm Go.Tra Go.Hun
attribute [local irreducible] VVal VOps VOpsD VWp VCalls VFun VFunV QSeq QBlk QLoop Vm.Done DoneV DoneI
theorem smpSL_gi (fs:List Int):∀ {k i:Nat},i<k→gi (smpSL fs k) i=smpS i (gi fs i):=fun {k i} h=>by
 unfold smpSL gi;simp [List.getElem?_map,List.getElem?_range h]
theorem smpRL_gi (ts:List Tn) (fs:List Int):∀ {k i:Nat},i<k→gi (smpRL ts fs k) i=smpR i (gi ts i).t (gi fs i):=fun {k i} h=>by
 unfold smpRL gi;simp [List.getElem?_map,List.getElem?_range h]
theorem smpR_ok {i:Nat} {t:List UInt8} {f:Int} (hi:i<10) (ht:nameOk t) (hf:pOk ⟨f,1⟩):rchk (smpR i t f)=0:=by
 unfold rchk
 have h1:nameOk (smpR i t f).name:=nmI_ok (by decide) hi
 have h2:nameOk (smpR i t f).tone:=ht
 have h3:pchk (smpR i t f).feet=0:=pchk_ok.2 hf
 rw [if_neg (by rintro (h|h);exact h h1;exact h h2),if_neg (fun h=>h h3),if_neg (by show ¬ ((36:Int)< -256∨(36:Int)>256);omega),if_neg (by show ¬ (3=0);omega),if_neg (by show ¬ (3>128);omega)]
 unfold windsE
 rw [if_pos]
 intro j hj
 have:j=0∨j=1∨j=2:=by
  have:j<3:=hj
  omega
 rcases this with rfl|rfl|rfl<;>(show ¬ badW 1)<;>decide
theorem smp_err {ts:List Tn} {fs:List Int} (hl:ts.length=fs.length) (h9:ts.length≤9) (hT:∀ i,i<ts.length→nameOk (gi ts i).t) (hF:∀ i,i<ts.length→pOk ⟨gi fs i,1⟩):orgE (smpO ts fs)=0:=by
 have eR:(smpO ts fs).ranks=smpRL ts fs ts.length:=rfl
 have eD:(smpO ts fs).divs=[smpD (smpSL fs ts.length)]:=rfl
 have eC:(smpO ts fs).cpls=[]:=rfl
 have eN:(smpO ts fs).name=[79]:=rfl
 have lR:=smpRL_len ts fs ts.length
 have lS:=smpSL_len fs ts.length
 have gR:∀ i,i<ts.length→gi (smpRL ts fs ts.length) i=smpR i (gi ts i).t (gi fs i):=fun i hi=>smpRL_gi ts fs hi
 have gS:∀ i,i<ts.length→gi (smpSL fs ts.length) i=smpS i (gi fs i):=fun i hi=>smpSL_gi fs hi
 unfold orgE
 rw [eR,eD,eC,eN]
 have hr:∀ i,i<(smpRL ts fs ts.length).length→rchk (gi (smpRL ts fs ts.length) i)=0:=fun i hi=>by
  rw [lR] at hi
  rw [gR i hi]
  exact smpR_ok (by omega) (hT i hi) (hF i hi)
 have hrk:rnkE (smpRL ts fs ts.length) 0=0:=rnkE_zero (fun i hi=>⟨hr i hi,nm_new (c:=82) (by omega) (fun j hj=>by rw [gR j (by omega)];rfl) hi⟩) _ 0 rfl
 have n1:nameOk [79]:=⟨by decide,by decide,by decide,fun j h1 h2=>by simp at h2;omega⟩
 have n2:nameOk [71,114,101,97,116]:=⟨by decide,by decide,by decide,fun j h1 h2=>by
  have:j=1∨j=2∨j=3∨j=4:=by simp at h2;omega
  rcases this with rfl|rfl|rfl|rfl<;>exact .inl (by decide)⟩
 rw [if_neg (fun h=>h n1),if_neg (by omega),if_neg (fun h=>h hrk),if_neg (by simp),if_neg (by simp)]
 have hst:∀ i,i<(smpSL fs ts.length).length→stoE (smpRL ts fs ts.length) 36 38 (gi (smpSL fs ts.length) i)=0:=fun i hi=>by
  rw [lS] at hi
  rw [gS i hi]
  unfold stoE
  rw [plcE_zero hr (by omega) (by omega),if_neg (fun h=>h rfl)]
  unfold stpE
  have h1:nameOk (smpS i (gi fs i)).name:=nmI_ok (by decide) (by omega)
  have h3:pchk (smpS i (gi fs i)).feet=0:=pchk_ok.2 (hF i hi)
  have es:(smpS i (gi fs i)).segs=[⟨36,38,[⟨(i:Int),0⟩]⟩]:=rfl
  rw [if_neg (fun h=>h h1),if_neg (fun h=>h h3),es,if_neg (by simp),if_neg (by simp)]
  exact segsE_one (by simp) (drwE_one ⟨by simp only;omega,by simp⟩)
 have hd:divsE (smpRL ts fs ts.length) [smpD (smpSL fs ts.length)] 0=0:=divsE_zero (fun i hi=>by
  obtain rfl:i=0:=by simp at hi;omega
  refine ⟨n2,by simp,?_⟩
  show dvsE (smpRL ts fs ts.length) (smpD (smpSL fs ts.length))=0
  unfold dvsE
  rw [show cmpE (smpD (smpSL fs ts.length)).lo (smpD (smpSL fs ts.length)).hi=0 from cmpE_zero (by simp [smpD]),if_neg (fun h=>h rfl),if_neg (by show ¬ (smpSL fs ts.length).length>60;omega)]
  exact stosE_zero (fun j hj=>⟨hst j hj,nm_new (c:=82) (l:=smpSL fs ts.length) (by omega) (fun a ha=>by rw [gS a (by omega)];rfl) hj⟩) _ 0 rfl) _ 0 rfl
 rw [if_neg (fun h=>h hd)]
 unfold cplE
 rw [if_neg (by simp)]
 have hc:cpsE ([smpD (smpSL fs ts.length)].map fun d=>(⟨d.lo,d.hi⟩:Cps)) 0=0:=cpsE_zero (fun i hi=>by
  obtain rfl:i=0:=by simp at hi;omega
  exact cmpE_zero (by simp [gi,smpD])) _ 0 rfl
 rw [if_neg (fun h=>h hc),cplsE,if_neg (by simp)]
theorem smp_sm {ts:List Tn} {fs:List Int} (h9:ts.length≤9) (hT:∀ i,i<ts.length→nameOk (gi ts i).t):OrgSm (smpO ts fs):=by
 have lR:=smpRL_len ts fs ts.length
 have lS:=smpSL_len fs ts.length
 refine ⟨by show 1<1000000;decide,by show (smpRL ts fs ts.length).length<_;omega,by show 1<1000000;decide,by show 0<1000000;decide,fun i hi=>?_,fun i hi=>?_,fun i hi=>?_⟩
 ·have hi:i<ts.length:=by rw [← lR];exact hi
  show RnkSm (gi (smpRL ts fs ts.length) i)
  rw [smpRL_gi ts fs hi]
  exact ⟨by show 2<1000000;decide,by show (gi ts i).t.length<_;have:=(hT i hi).2.1;omega,by show 3<1000000;decide⟩
 ·obtain rfl:i=0:=by
   have:i<1:=hi
   omega
  show DvsSm (smpD (smpSL fs ts.length))
  refine ⟨by show 5<1000000;decide,by show (smpSL fs ts.length).length<_;omega,fun j hj=>?_⟩
  have hj:j<ts.length:=by rw [← lS];exact hj
  show StpSm (gi (smpSL fs ts.length) j)
  rw [smpSL_gi fs hj]
  refine ⟨by show 2<1000000;decide,by show 1<1000000;decide,fun a ha=>?_⟩
  obtain rfl:a=0:=by
   have:a<1:=ha
   omega
  exact ⟨by show 1<1000000;decide⟩
 ·have:i<0:=hi
  omega
def tsK:List Tn:=[⟨[112,114,105,110,99,105,112,97,108]⟩,⟨[102,108,117,116,101]⟩]
def ts1:List Tn:=[⟨[102,108,117,116,101]⟩]
theorem nm_all (s:List UInt8) (h0:0<s.length) (h1:s.length≤32) (h:∀ i,i<s.length→isL (gi s i).toNat):nameOk s:=⟨h0,h1,h 0 h0,fun i _ hi=>.inl (h i hi)⟩
instance (c:Nat):Decidable (isL c):=by unfold isL;infer_instance
theorem nm_pri:nameOk [112,114,105,110,99,105,112,97,108]:=nm_all _ (by decide) (by decide) (by decide)
theorem nm_flu:nameOk [102,108,117,116,101]:=nm_all _ (by decide) (by decide) (by decide)
theorem tsK_ok:∀ i,i<tsK.length→nameOk (gi tsK i).t:=fun i hi=>by
 have:i=0∨i=1:=by
  have:i<2:=hi
  omega
 rcases this with rfl|rfl
 ·exact nm_pri
 ·exact nm_flu
theorem ts1_ok:∀ i,i<ts1.length→nameOk (gi ts1 i).t:=fun i hi=>by
 obtain rfl:i=0:=by
  have:i<1:=hi
  omega
 exact nm_flu
def qK (w:Int):Qst:=⟨smpO tsK [8,4],⟨[3],0,0⟩,smpO ts1 [8],⟨10,1,5,w⟩⟩
theorem qK_wts {w:Int} (hw:0≤w∧w≤100):wtsOk (qK w).wts:=fun i hi=>by
 match i,hi with
 |0,_=>show (0:Int)≤10∧(10:Int)≤100000;decide
 |1,_=>show (0:Int)≤1∧(1:Int)≤100000;decide
 |2,_=>show (0:Int)≤5∧(5:Int)≤100000;decide
 |3,_=>exact ⟨hw.1,Int.le_trans hw.2 (by decide)⟩
theorem shK:∀ a,a<2→(shiftR ⟨8,1⟩ ⟨gi [8,4] a,1⟩).2=0∧-1000≤(shiftR ⟨8,1⟩ ⟨gi [8,4] a,1⟩).1∧(shiftR ⟨8,1⟩ ⟨gi [8,4] a,1⟩).1≤1000:=by decide +kernel
theorem qK_ok {w:Int} (hw:0≤w∧w≤100):QOk (qK w):=by
 have e1:orgE (smpO tsK [8,4])=0:=smp_err rfl (by decide) tsK_ok (fun i hi=>by
  have:i=0∨i=1:=by
   have:i<2:=hi
   omega
  rcases this with rfl|rfl<;>decide +kernel)
 have e2:orgE (smpO ts1 [8])=0:=smp_err rfl (by decide) ts1_ok (fun i hi=>by
  obtain rfl:i=0:=by
   have:i<1:=hi
   omega
  decide +kernel)
 have e3:regE (smpO tsK [8,4]) ⟨[3],0,0⟩=0:=by
  rw [regE_rest rfl (fun i hi=>by
   obtain rfl:i=0:=by
    have:i<1:=hi
    omega
   rfl)]
  rfl
 refine ⟨smp_sm (by decide) tsK_ok,smp_sm (by decide) ts1_ok,⟨fun i hi=>?_,by show 0<18446744073709551616;decide,by show 0<18446744073709551616;decide,by show 1<9223372036854775808;decide⟩,?_,fun a b ha hb=>?_⟩
 ·obtain rfl:i=0:=by
   have:i<1:=hi
   omega
  show 3<18446744073709551616
  decide
 ·unfold qstE
  rw [if_neg (fun h=>h e1),if_neg (fun h=>h e3),if_neg (fun h=>h e2),if_neg (fun h=>h (qK_wts hw)),if_neg]
  have h1:(drawnL (smpO tsK [8,4]) ⟨[3],0,0⟩).length=2:=by decide +kernel
  have h2:(plcs (smpO ts1 [8])).length=1:=by decide +kernel
  have h1:(drawnL (qK w).frm (qK w).reg).length=2:=h1
  have h2:(plcs (qK w).tgt).length=1:=h2
  omega
 ·obtain ⟨d,s⟩:=a
  obtain ⟨d',s'⟩:=b
  have a1:d<1:=ha.1
  obtain rfl:d=0:=by omega
  have a2:s<2:=ha.2
  have b1:d'<1:=hb.1
  obtain rfl:d'=0:=by omega
  have b2:s'<1:=hb.2
  obtain rfl:s'=0:=by omega
  have:s=0∨s=1:=by omega
  rcases this with rfl|rfl
  ·exact shK 0 (by decide)
  ·exact shK 1 (by decide)
theorem qK_loss (w:Int):lossQ (qK w)=[[10],[12]]:=by
 show lossL (smpO tsK [8,4]) (smpO ts1 [8]) ⟨[3],0,0⟩ ⟨10,1,5,w⟩=_
 have:lossL (smpO tsK [8,4]) (smpO ts1 [8]) ⟨[3],0,0⟩ ⟨10,1,5,0⟩=[[10],[12]]:=by decide +kernel
 exact this
theorem qK_cols (w:Int):colsQ (qK w)=1:=by
 have h1:(drawnL (smpO tsK [8,4]) ⟨[3],0,0⟩).length=2:=by decide +kernel
 have h2:(plcs (smpO ts1 [8])).length=1:=by decide +kernel
 show (if (drawnL (smpO tsK [8,4]) ⟨[3],0,0⟩).length=0 then 0 else (plcs (smpO ts1 [8])).length)=1
 rw [h1,h2];rfl
theorem qK_20:(bestQ (qK 20)).total=30:=by
 unfold bestQ parM
 rw [qK_loss,qK_cols]
 show parT [[10],[12]] 2 1 20=30
 decide +kernel
theorem qK_5:(bestQ (qK 5)).total=10:=by
 unfold bestQ parM
 rw [qK_loss,qK_cols]
 show parT [[10],[12]] 2 1 5=10
 decide +kernel
theorem known_spec:VFun env 12 [] (.p (.bool true)):=by
 have h1:=simple_spec tsK [8,4] rfl (by decide)
 have h2:=simple_spec ts1 [8] rfl (by decide)
 have hl:=tLosses_spec (qK_ok (w:=20) (by decide))
 rw [qK_loss] at hl
 have hb:=tBest_spec (qK_ok (w:=20) (by decide))
 have hb5:=tBest_spec (qK_ok (w:=5) (by decide))
 have hv:=tVerify_spec (qK_ok (w:=20) (by decide)) (bestQ (qK 20))
 rw [show verE (lossQ (qK 20)) (colsQ (qK 20)) (qK 20).wts.miss (bestQ (qK 20))=0 from ver_best (qK_ok (w:=20) (by decide)).mat] at hv
 have t1:=qK_20
 have t2:=qK_5
 generalize bestQ (qK 20)=A at *
 generalize bestQ (qK 5)=B at *
 obtain ⟨c1,tt1,r1,p1⟩:=A
 obtain ⟨c2,tt2,r2,p2⟩:=B
 simp only at t1 t2
 subst t1;subst t2
 refine VFun.enter (env_none (by decide)) Tryz.func12 rfl (by kernel_rfl) (by simp [Tryz.ntmps12]) ?_
 repeat' (first|(refine VOps.atOp 11 ?_;refine VOps.ghost (Ghost.trans (Ghost.freeze 9 rfl rfl) (Ghost.freeze 10 rfl rfl)) ?_)|(refine VOps.atOp 13 ?_;refine VOps.ghost (Ghost.freeze 12 rfl rfl) ?_)|(refine VOps.atOp 16 ?_;refine VOps.ghost (Ghost.trans (Ghost.freeze 14 rfl rfl) (Ghost.freeze 15 rfl rfl)) ?_)|apply VWp.rseq|apply VWp.ret|apply VOps.nil|apply VOps.one|(apply VOps.take;rfl;rfl)|(apply VVal.fn;rfl;rfl;exact h1;intro _;rfl)|(apply VVal.fn;rfl;rfl;exact h2;intro _;rfl)|(apply VVal.fn;rfl;rfl;exact hl;intro _;rfl)|(apply VVal.fn;rfl;rfl;exact hb;intro _;rfl)|(apply VVal.fn;rfl;rfl;exact hv;intro _;rfl)|(apply VVal.fn;rfl;rfl;exact hb5;intro _;rfl)|(apply VVal.indexF;rfl;rfl;rfl;decide;decide)|(apply VVal.assign;rfl)|(apply VVal.move;rfl)|(apply VVal.int;rfl;rfl;rfl)|(apply VVal.load;rfl;rfl)|(apply VVal.pick_true;rfl;rfl)|(apply VVal.lenF;rfl;rfl)|(apply VVal.fieldB;rfl;rfl;rfl)|(apply VVal.alloc;rfl)|(apply VVal.storeB;rfl;rfl;rfl;trivial;rfl;rfl;exact lt_dec rfl;exact le_dec rfl)|(apply VVal.build;rfl;rfl;rfl;rfl;rfl)|(apply VVal.buildSlice;rfl;rfl;rfl;decide;rfl;rfl;rfl)|(apply VVal.extract;rfl;rfl))
 all_goals try (exfalso;omega)
 all_goals (refine Done.ret rfl (.refl _) (by first|exact trivial|exact ⟨trivial,trivial,trivial⟩|exact ⟨trivial,trivial,trivial,trivial⟩) HCov.nil (Nat.zero_le _) (Nat.le_refl _) ⟨?_,rfl,rfl⟩;try rfl)
end Go.Proofs.YtdabojnmoejilaaGreatDoor
namespace Go.Proofs.YtdabojnmoejilaaGreatDoor
open Go Go.Am Go.Vm Go.Tra
def wS (i:Nat):Stp:=⟨[83,UInt8.ofNat (48+i / 10 % 10),UInt8.ofNat (48+i % 10)],⟨8,1⟩,[⟨36,38,[⟨0,0⟩]⟩]⟩
def wSt (a b:Nat):List Stp:=(List.range (b-a)).map fun j=>wS (a+j)
def wDv (d:Nat) (ss:List Stp):Dvs:=⟨nmI 68 d,false,36,38,ss⟩
def wD (n d:Nat):Dvs:=wDv d (wSt (40*d) (min n (40*(d+1))))
def wDs (n:Nat):List Dvs:=(List.range ((n+39) / 40)).map (wD n)
def taL:List Tn:=[⟨[97]⟩]
def wideO (n:Nat):Org:=⟨[79],smpRL taL [8] 1,wDs n,[]⟩
theorem wSt_len (a b:Nat):(wSt a b).length=b-a:=by simp [wSt]
theorem wSt_gi {a b j:Nat} (h:j<b-a):gi (wSt a b) j=wS (a+j):=by
 unfold wSt gi;simp [List.getElem?_map,List.getElem?_range h]
theorem wSt_succ {a b:Nat} (h:a≤b):wSt a (b+1)=wSt a b++[wS b]:=by
 unfold wSt
 rw [show b+1-a=(b-a)+1 by omega,List.range_succ,List.map_append]
 simp only [List.map_cons,List.map_nil]
 rw [show a+(b-a)=b by omega]
theorem wDs_len (n:Nat):(wDs n).length=(n+39) / 40:=by simp [wDs]
theorem wDs_gi {n d:Nat} (h:d<(n+39) / 40):gi (wDs n) d=wD n d:=by
 unfold wDs gi;simp [List.getElem?_map,List.getElem?_range h]
theorem digit (k:Nat) (h:k<10):(UInt8.ofNat (48+k)).toNat=48+k:=by
 rw [UInt8.toNat_ofNat']
 omega
theorem wS_nameOk (i:Nat):nameOk (wS i).name:=by
 have h1:i / 10 % 10<10:=Nat.mod_lt _ (by decide)
 have h2:i % 10<10:=Nat.mod_lt _ (by decide)
 refine ⟨by show 0<3;decide,by show 3≤32;decide,?_,fun j h3 h4=>?_⟩
 ·show isL 83
  decide
 ·have h5:j=1∨j=2:=by
   have:j<3:=h4
   omega
  rcases h5 with rfl|rfl
  ·show nmC (UInt8.ofNat (48+i / 10 % 10)).toNat
   rw [digit _ h1]
   exact .inr (.inl ⟨by omega,by omega⟩)
  ·show nmC (UInt8.ofNat (48+i % 10)).toNat
   rw [digit _ h2]
   exact .inr (.inl ⟨by omega,by omega⟩)
theorem wS_inj {i j:Nat} (h:(wS i).name=(wS j).name) (hij:i<j):100≤j-i:=by
 have e:[(83:UInt8),UInt8.ofNat (48+i / 10 % 10),UInt8.ofNat (48+i % 10)]=[83,UInt8.ofNat (48+j / 10 % 10),UInt8.ofNat (48+j % 10)]:=h
 injection e with _ e
 injection e with e1 e
 injection e with e2 _
 have f1:=congrArg UInt8.toNat e1
 have f2:=congrArg UInt8.toNat e2
 rw [digit _ (Nat.mod_lt _ (by decide)),digit _ (Nat.mod_lt _ (by decide))] at f1 f2
 omega
theorem name_new {l:List Stp} (h:∀ i j,i<j→j<l.length→(gi l i).name≠(gi l j).name) {k:Nat} (hk:k<l.length):(gi l k).name∉(l.take k).map Stp.name:=by
 intro hm
 obtain ⟨a,ha,he⟩:=List.mem_map.1 hm
 obtain ⟨j,hj,e⟩:=List.getElem_of_mem ha
 rw [List.length_take] at hj
 refine h j k (by omega) hk ?_
 rw [← he,← e]
 unfold gi
 rw [List.getElem?_eq_getElem (by omega),List.getElem_take]
 rfl
theorem ta_name:nameOk [97]:=nm_all _ (by decide) (by decide) (by decide)
theorem ta_feet:pOk ⟨8,1⟩:=by decide +kernel
theorem ta_rchk:rchk (smpR 0 [97] 8)=0:=smpR_ok (by decide) ta_name ta_feet
theorem wRk {i:Nat} (hi:i<(smpRL taL [8] 1).length):rchk (gi (smpRL taL [8] 1) i)=0:=by
 obtain rfl:i=0:=by
  have:i<1:=hi
  omega
 exact ta_rchk
theorem wS_err (i:Nat):stoE (smpRL taL [8] 1) 36 38 (wS i)=0:=by
 unfold stoE
 rw [plcE_zero (fun i hi=>wRk hi) (by decide) (by omega),if_neg (fun h=>h rfl)]
 unfold stpE
 have h3:pchk (wS i).feet=0:=pchk_ok.2 ta_feet
 have es:(wS i).segs=[⟨36,38,[⟨0,0⟩]⟩]:=rfl
 rw [if_neg (fun h=>h (wS_nameOk i)),if_neg (fun h=>h h3),es,if_neg (by simp),if_neg (by simp)]
 exact segsE_one (by simp) (drwE_one ⟨by decide,by simp⟩)
theorem wSt_err {a b:Nat} (h:b-a≤40) (d:Nat):dvsE (smpRL taL [8] 1) (wDv d (wSt a b))=0:=by
 unfold dvsE
 rw [show cmpE (wDv d (wSt a b)).lo (wDv d (wSt a b)).hi=0 from cmpE_zero (by simp [wDv]),if_neg (fun h=>h rfl),if_neg (by show ¬ (wSt a b).length>60;rw [wSt_len];omega)]
 refine stosE_zero (fun j hj=>?_) _ 0 rfl
 have hj':j<b-a:=by rw [← wSt_len];exact hj
 refine ⟨?_,name_new (fun x y hxy hy=>?_) hj⟩
 ·show stoE _ _ _ (gi (wSt a b) j)=0
  rw [wSt_gi hj']
  exact wS_err _
 ·have hy':y<b-a:=by rw [← wSt_len];exact hy
  show (gi (wSt a b) x).name≠(gi (wSt a b) y).name
  rw [wSt_gi (by omega),wSt_gi hy']
  intro he
  have:=wS_inj he (by omega)
  omega
theorem wide_err {n:Nat} (h1:1≤n) (h2:n≤160):orgE (wideO n)=0:=by
 have eR:(wideO n).ranks=smpRL taL [8] 1:=rfl
 have eD:(wideO n).divs=wDs n:=rfl
 have eC:(wideO n).cpls=[]:=rfl
 have eN:(wideO n).name=[79]:=rfl
 have lD:=wDs_len n
 unfold orgE
 rw [eR,eD,eC,eN]
 have n1:nameOk [79]:=nm_all _ (by decide) (by decide) (by decide)
 have hrk:rnkE (smpRL taL [8] 1) 0=0:=rnkE_zero (fun i hi=>⟨wRk hi,by
  obtain rfl:i=0:=by
   have:i<1:=hi
   omega
  simp⟩) _ 0 rfl
 rw [if_neg (fun h=>h n1),if_neg (by decide),if_neg (fun h=>h hrk),if_neg (by rw [lD];omega),if_neg (by rw [lD];omega)]
 have hd:divsE (smpRL taL [8] 1) (wDs n) 0=0:=divsE_zero (fun i hi=>by
  have hi':i<(n+39) / 40:=by rw [← lD];exact hi
  have e:∀ a,a<(wDs n).length→(gi (wDs n) a).name=nmI 68 a:=fun a ha=>by rw [wDs_gi (by omega)];rfl
  refine ⟨?_,nm_new (c:=68) (by omega) e hi,?_⟩
  ·rw [e i hi];exact nmI_ok (by decide) (by omega)
  ·rw [wDs_gi hi']
   exact wSt_err (by omega) i) _ 0 rfl
 rw [if_neg (fun h=>h hd)]
 unfold cplE
 rw [if_neg (by rw [List.length_map,lD];simp;omega)]
 have hc:cpsE ((wDs n).map fun d=>(⟨d.lo,d.hi⟩:Cps)) 0=0:=cpsE_zero (fun i hi=>by
  rw [List.length_map] at hi
  have e:gi ((wDs n).map fun d=>(⟨d.lo,d.hi⟩:Cps)) i=⟨36,38⟩:=by
   rw [Go.Hun.gi_map' _ hi,wDs_gi (by omega)];rfl
  rw [e]
  exact cmpE_zero (by simp)) _ 0 rfl
 rw [if_neg (fun h=>h hc),cplsE,if_neg (by simp)]
theorem wide_sm {n:Nat} (h2:n≤160):OrgSm (wideO n):=by
 have lD:=wDs_len n
 refine ⟨by show 1<1000000;decide,by show (smpRL taL [8] 1).length<_;decide,by show (wDs n).length<_;omega,by show 0<1000000;decide,fun i hi=>?_,fun i hi=>?_,fun i hi=>?_⟩
 ·obtain rfl:i=0:=by
   have:i<1:=hi
   omega
  exact ⟨by show 2<1000000;decide,by show 1<1000000;decide,by show 3<1000000;decide⟩
 ·have hi':i<(n+39) / 40:=by rw [← lD];exact hi
  show DvsSm (gi (wDs n) i)
  rw [wDs_gi hi']
  refine ⟨by show 2<1000000;decide,by show (wSt _ _).length<_;rw [wSt_len];omega,fun j hj=>?_⟩
  have hj':j<min n (40*(i+1))-40*i:=by rw [← wSt_len];exact hj
  show StpSm (gi (wSt _ _) j)
  rw [wSt_gi hj']
  refine ⟨by show 3<1000000;decide,by show 1<1000000;decide,fun a ha=>?_⟩
  obtain rfl:a=0:=by
   have:a<1:=ha
   omega
  exact ⟨by show 1<1000000;decide⟩
 ·have:i<0:=hi
  omega
theorem wide_k {n:Nat} (h1:1≤n) (h2:n≤160):OrgK (wideO n):=orgK (wide_sm h2) (wide_err h1 h2)
theorem wide_ns {n d:Nat} (h:d<(n+39) / 40):gi (nsO (wideO n)) d=min n (40*(d+1))-40*d:=by
 rw [nsO_gi _ (by show d<(wDs n).length;rw [wDs_len];exact h)]
 show (gi (wDs n) d).stops.length=_
 rw [wDs_gi h]
 exact wSt_len _ _
theorem wide_plcO {n:Nat}:∀ d,d≤(n+39) / 40→plcO (nsO (wideO n)) d=min n (40*d)
 |0,_=>by simp [plcO,plcL]
 |d+1,h=>by
  rw [plcO_succ,wide_plcO d (by omega),wide_ns (by omega)]
  omega
theorem wide_plcs (n:Nat):(plcs (wideO n)).length=n:=by
 have e:(nsO (wideO n)).length=(n+39) / 40:=by rw [nsO_len];exact wDs_len n
 rw [plcs_len,e,wide_plcO _ (Nat.le_refl _)]
 omega
end Go.Proofs.YtdabojnmoejilaaGreatDoor
namespace Go.Vm
open Go.Am
section
variable {E:Env} {L:Frame} {H:Heap} {nx:Nat}
theorem Ghost.fresh (e:TypeId):Ghost E L H nx L ((nx,.vec e [] 0 true)::H) (nx+1):=fun B m F σ t h1 h2 h3=>by
 obtain ⟨c1,c2⟩:=adoptCtx e h1
 exact ⟨F,_,c1,fun i v hi=>(h2 i v hi).step c2 h1,h3.trans c2⟩
theorem Ghost.useCellV (a k b:Nat) {e e':TypeId} {ds:List PV} {n':Nat} (ha:hget H a=some (.vecp e' ds n')) (hk:ds[k]?=some (.p (.val (.slice none 0 0)))) (hb:hget H b=some (.vec e [] 0 true)) :
 Ghost E L H nx L (hput H a (.vecp e' (ds.set k (.vec b 0 0 0)) n')) nx:=fun B m F σ t h1 h2 h3=>by
 obtain ⟨hlb,hrb⟩:=h1.hp b _ hb
 have hσb:σ b=nilSlice:=by
  rcases hrb with ⟨_,_,h⟩|⟨c,g,vs,_,_,_,_,_,_,h⟩
  ·rcases h with ⟨h,_⟩|⟨_,_,_,_,h⟩
   ·exact h
   ·cases h
  ·have:=h rfl
   cases this
 have hv:RP m F (htag H) σ nx (.vec b 0 0 0) nilSlice:=by
  refine .vec hlb rfl fun n hn=>?_
  have:htag H b=some (.vec 0):=by unfold htag;rw [hb];rfl
  rw [this] at hn
  simp only [Option.some.injEq,Tg.vec.injEq] at hn
  subst hn
  refine ⟨Nat.le_refl _,fun _=>?_⟩
  rw [hσb]
  exact ⟨rfl,rfl,rfl⟩
 obtain ⟨_,c,g,vs,r1,r2,r3,r4,r5,r6⟩:=h1.hp a _ ha
 obtain ⟨u,hu1,hu2⟩:=r5.get hk
 have hu:u=nilSlice:=by cases hu2 with|p h=>cases h;rfl
 subst hu
 obtain ⟨d1,d2⟩:=h1.change (m':=m) (b0:=a) (x':=.vecp e' (ds.set k (.vec b 0 0 0)) n') (s':=σ a) ha (Nat.le_refl _) (fun _=>rfl) (Nat.le_refl _) (fun _ _ _=>rfl) (fun _ h _ _=>h) (fun c hc=>.inl hc) (by
  refine ⟨c,g,vs,r1,r2,r3,r4,?_,r6⟩
  have:vs=vs.set k nilSlice:=by
   apply List.ext_getElem?
   intro j
   rw [List.getElem?_set]
   by_cases e:k=j
   ·subst e
    rw [if_pos rfl,hu1]
    have:k<vs.length:=by
     rcases Nat.lt_or_ge k vs.length with h|h
     ·exact h
     ·rw [List.getElem?_eq_none h] at hu1;cases hu1
    rw [if_pos this]
   ·rw [if_neg e]
  rw [this]
  exact (r5.set k hv).mono (fun d hd=>⟨hd,rfl⟩) (change_names (x':=.vecp e' (ds.set k (.vec b 0 0 0)) n') ha (Nat.le_refl _) fun _=>rfl) (Nat.le_refl _))
 have hσ:upd σ a (σ a)=σ:=by
  funext x
  by_cases e:x=a
  ·rw [e,upd_same]
  ·rw [upd_other _ _ e]
 rw [hσ] at d1 d2
 exact ⟨_,_,d1,h2.step d2 h1,h3.trans d2⟩
variable {Q:PV→Heap→Nat→Prop} {dst:Option Tmp} {ty:TypeId} {pos:String} {af:Array Edge} {gd:Option (Nat×Bool)}
theorem VVal.lenQ {w:Bool} {x:Operand} {t e e':TypeId} {cs:List PV} {b tag len:Nat} (hx:vev E.Γ L x=some (.vec b tag 0 len)) (hb:hget H b=some (.vecp e cs tag)) (ht:E.P.underlying t=some (.slice e')) (q:Q (.p (.int .i64 len)) H nx) :
 VVal E w ⟨dst,.call { callee:=.builtin .len,args:=#[x],argTypes:=#[t] },ty,pos,af,gd⟩ L H nx Q :=
 VVal.quiet q fun m F σ tt c1 c2=>by
  have hsub:=vev_vecQ c1 c2 hx hb
  obtain ⟨hlt,c,g,vs,r1,_⟩:=c1.hp b _ hb
  refine ⟨.int .i64 len,fun _=>?_,.p (.int _ _)⟩
  rw [r1] at hsub
  have hg:∃ a g,ev tt x=.slice a len g:=⟨_,_,hsub⟩
  obtain ⟨a,g,hg⟩:=hg
  simp [aval,aop,alen,ht,hg]
theorem VVal.ofByte3 {w:Bool} {s d e e2:TypeId} {x:Operand} {b:Nat} {z:Bool} {n k r:Int} {l:List UInt8} (hx:vev E.Γ L x=some (.vec b 3 0 3)) (hb:hget H b=some (.vec e2 [.int .u8 n,.int .u8 k,.int .u8 r] 3 z)) (hs:E.P.underlying s=some (.slice e)) (hd:E.P.underlying d=some .string) (he:E.P.underlying e=some (.int .u8)) (hn:0≤n∧n<256) (hk:0≤k∧k<256) (hr:0≤r∧r<256) (hl:[UInt8.ofNat n.toNat,UInt8.ofNat k.toNat,UInt8.ofNat r.toNat]=l)
 (q:Q (st l) H nx):VVal E w ⟨dst,.convert s d x,ty,pos,af,gd⟩ L H nx Q :=
 VVal.quiet (by rw [← hl] at q;exact q) fun m F σ tt c1 c2=>by
  obtain ⟨hl1,vs,hl2,hl3,hl4⟩:=SlC.all (sz:=1) hx hb rfl m F σ tt c1 c2
  have hc:cells [UInt8.ofNat n.toNat,UInt8.ofNat k.toNat,UInt8.ofNat r.toNat]=[.int .u8 n,.int .u8 k,.int .u8 r]:=by
   show [FV.int .u8 (((UInt8.ofNat n.toNat).toNat:Nat):Int),FV.int .u8 (((UInt8.ofNat k.toNat).toNat:Nat):Int),FV.int .u8 (((UInt8.ofNat r.toNat).toNat:Nat):Int)]=_
   rw [UInt8.toNat_ofNat',UInt8.toNat_ofNat',UInt8.toNat_ofNat']
   rw [show ((n.toNat % 2 ^ 8:Nat):Int)=n by omega,show ((k.toNat % 2 ^ 8:Nat):Int)=k by omega,show ((r.toNat % 2 ^ 8:Nat):Int)=r by omega]
  rw [← hc] at hl3
  have hvs:=cells_bytes hl3
  subst hvs
  have hsub:=vev_vec c1 c2 hx hb
  have hag:∃ a g,ev tt x=.slice a 3 g:=by
   unfold SubOf at hsub
   split at hsub
   ·exact ⟨_,_,hsub⟩
   ·exact absurd hsub.2.2 (by decide)
  obtain ⟨a,g,hag⟩:=hag
  rw [hag] at hl2
  refine ⟨.string (bs [UInt8.ofNat n.toNat,UInt8.ofNat k.toNat,UInt8.ofNat r.toNat]),fun _=>?_,.p (.str _)⟩
  have hsl:(isSlT E.P s||isSlT E.P d)=true:=by simp only [isSlT,hs,hd];rfl
  simp only [aval,aop,hsl,if_true,aconv,hs,hd,hag,he,hl2,unbyte_some]
  rfl
end
end Go.Vm
namespace Go.Proofs.YtdabojnmoejilaaGreatDoor
open Go Go.Am Go.Vm Go.Tra
attribute [local irreducible] VVal VOps VOpsD VWp VCalls VFun VFunV QSeq QBlk QLoop Vm.Done DoneV DoneI
structure DvX where
 name:List UInt8
 st:FV
instance:Enc DvX:={ default:=⟨[],.val (.slice none 0 0)⟩,enc:=fun x=>[.str (bs x.name),.bool false,.int .i64 36,.int .i64 38,x.st],size:=5,len:=fun _=>rfl }
def lstS (l:List Stp):FV:=.lst 122 (cells l) l.length
theorem wnm (i:Nat):[UInt8.ofNat (83:Int).toNat,UInt8.ofNat (48+(i:Int) / 10 % 10).toNat,UInt8.ofNat (48+(i:Int) % 10).toNat]=(wS i).name:=by
 rw [show (48+(i:Int) / 10 % 10).toNat=48+i / 10 % 10 by omega,show (48+(i:Int) % 10).toNat=48+i % 10 by omega]
 rfl
def wHp:Nat→Nat→List UInt8→Heap
 |0,i,nm=>[(0,.box 37 [.p (.str (bs [79])),.p (.lst 131 (cells (smpRL taL [8] 1)) 1),.vec 4 0 0 0,.p (.lst 147 [] 0)]),(1,.box 37 [.p (.str (bs [])),.p (.val (.slice none 0 0)),.p (.val (.slice none 0 0)),.p (.val (.slice none 0 0))]),(2,.box 97 ((Enc.enc (smpD [smpS 0 8])).map .p)),(3,.box 122 [.p (.str (bs nm)),.p (.int .i64 8),.p (.int .i64 1),.p (.lst 136 (cells ([⟨36,38,[⟨0,0⟩]⟩]:List Seg)) 1)]),(4,.vec 97 (cells ([]:List DvX)) 0 true),(5,.vec 122 (cells ([]:List Stp)) 0 true),(6,.vec 122 (cells ([]:List Stp)) 0 true),(7,.vec 122 (cells ([]:List Stp)) 0 true),(8,.vec 122 (cells ([]:List Stp)) 0 true)]
 |1,i,nm=>[(0,.box 37 [.p (.str (bs [79])),.p (.lst 131 (cells (smpRL taL [8] 1)) 1),.vec 4 1 0 1,.p (.lst 147 [] 0)]),(1,.box 37 [.p (.str (bs [])),.p (.val (.slice none 0 0)),.p (.val (.slice none 0 0)),.p (.val (.slice none 0 0))]),(2,.box 97 ((Enc.enc (smpD [smpS 0 8])).map .p)),(3,.box 122 [.p (.str (bs nm)),.p (.int .i64 8),.p (.int .i64 1),.p (.lst 136 (cells ([⟨36,38,[⟨0,0⟩]⟩]:List Seg)) 1)]),(4,.vecp 97 [.p (.str (bs (nmI 68 0))),.p (.bool false),.p (.int .i64 36),.p (.int .i64 38),.vec 5 (wSt 0 i).length 0 (wSt 0 i).length] 1),(5,.vec 122 (cells (wSt 0 i)) (wSt 0 i).length true),(6,.vec 122 (cells ([]:List Stp)) 0 true),(7,.vec 122 (cells ([]:List Stp)) 0 true),(8,.vec 122 (cells ([]:List Stp)) 0 true)]
 |2,i,nm=>[(0,.box 37 [.p (.str (bs [79])),.p (.lst 131 (cells (smpRL taL [8] 1)) 1),.vec 4 2 0 2,.p (.lst 147 [] 0)]),(1,.box 37 [.p (.str (bs [])),.p (.val (.slice none 0 0)),.p (.val (.slice none 0 0)),.p (.val (.slice none 0 0))]),(2,.box 97 ((Enc.enc (smpD [smpS 0 8])).map .p)),(3,.box 122 [.p (.str (bs nm)),.p (.int .i64 8),.p (.int .i64 1),.p (.lst 136 (cells ([⟨36,38,[⟨0,0⟩]⟩]:List Seg)) 1)]),(4,.vecp 97 [.p (.str (bs (nmI 68 0))),.p (.bool false),.p (.int .i64 36),.p (.int .i64 38),.p (lstS (wSt 0 40)),.p (.str (bs (nmI 68 1))),.p (.bool false),.p (.int .i64 36),.p (.int .i64 38),.vec 6 (wSt 40 i).length 0 (wSt 40 i).length] 2),(6,.vec 122 (cells (wSt 40 i)) (wSt 40 i).length true),(7,.vec 122 (cells ([]:List Stp)) 0 true),(8,.vec 122 (cells ([]:List Stp)) 0 true)]
 |3,i,nm=>[(0,.box 37 [.p (.str (bs [79])),.p (.lst 131 (cells (smpRL taL [8] 1)) 1),.vec 4 3 0 3,.p (.lst 147 [] 0)]),(1,.box 37 [.p (.str (bs [])),.p (.val (.slice none 0 0)),.p (.val (.slice none 0 0)),.p (.val (.slice none 0 0))]),(2,.box 97 ((Enc.enc (smpD [smpS 0 8])).map .p)),(3,.box 122 [.p (.str (bs nm)),.p (.int .i64 8),.p (.int .i64 1),.p (.lst 136 (cells ([⟨36,38,[⟨0,0⟩]⟩]:List Seg)) 1)]),(4,.vecp 97 [.p (.str (bs (nmI 68 0))),.p (.bool false),.p (.int .i64 36),.p (.int .i64 38),.p (lstS (wSt 0 40)),.p (.str (bs (nmI 68 1))),.p (.bool false),.p (.int .i64 36),.p (.int .i64 38),.p (lstS (wSt 40 80)),.p (.str (bs (nmI 68 2))),.p (.bool false),.p (.int .i64 36),.p (.int .i64 38),.vec 7 (wSt 80 i).length 0 (wSt 80 i).length] 3),(7,.vec 122 (cells (wSt 80 i)) (wSt 80 i).length true),(8,.vec 122 (cells ([]:List Stp)) 0 true)]
 |_+4,i,nm=>[(0,.box 37 [.p (.str (bs [79])),.p (.lst 131 (cells (smpRL taL [8] 1)) 1),.vec 4 4 0 4,.p (.lst 147 [] 0)]),(1,.box 37 [.p (.str (bs [])),.p (.val (.slice none 0 0)),.p (.val (.slice none 0 0)),.p (.val (.slice none 0 0))]),(2,.box 97 ((Enc.enc (smpD [smpS 0 8])).map .p)),(3,.box 122 [.p (.str (bs nm)),.p (.int .i64 8),.p (.int .i64 1),.p (.lst 136 (cells ([⟨36,38,[⟨0,0⟩]⟩]:List Seg)) 1)]),(4,.vecp 97 [.p (.str (bs (nmI 68 0))),.p (.bool false),.p (.int .i64 36),.p (.int .i64 38),.p (lstS (wSt 0 40)),.p (.str (bs (nmI 68 1))),.p (.bool false),.p (.int .i64 36),.p (.int .i64 38),.p (lstS (wSt 40 80)),.p (.str (bs (nmI 68 2))),.p (.bool false),.p (.int .i64 36),.p (.int .i64 38),.p (lstS (wSt 80 120)),.p (.str (bs (nmI 68 3))),.p (.bool false),.p (.int .i64 36),.p (.int .i64 38),.vec 8 (wSt 120 i).length 0 (wSt 120 i).length] 4),(8,.vec 122 (cells (wSt 120 i)) (wSt 120 i).length true)]
theorem wide_spec (n:Nat) (h1:1≤n) (h2:n≤160):VFun env 24 [.agg (Enc.enc (smpO taL [8])),.int .i64 (n:Int)] (.p (.agg (Enc.enc (wideO n)))):=by
 refine VFun.enter (env_none (by decide)) Tryz.func24 rfl (by kernel_rfl) (by simp [Tryz.ntmps24]) ?_
 repeat' (first|apply VWp.assoc|apply VWp.rseq|apply VWp.blockSeq|apply VOps.nil|apply VOps.one|(apply VVal.indexN (l:=[smpD [smpS 0 8]]) (i:=0);rfl;rfl;rfl;decide;rfl)|(apply VVal.indexN (l:=[smpS 0 8]) (i:=0);rfl;rfl;rfl;decide;rfl)|(apply VVal.assign;rfl)|(apply VVal.load;rfl;rfl)|(apply VVal.fieldB;rfl;rfl;rfl)|(apply VVal.box;rfl;trivial)|(apply VVal.alloc;rfl)|(apply VVal.storeB;rfl;rfl;rfl;trivial;rfl;rfl;exact lt_dec rfl;exact le_dec rfl))
 all_goals try (exfalso;omega)
 refine VWp.ghost (Ghost.adoptCell 0 2 97 rfl rfl) ?_
 refine VWp.ghost (Ghost.fresh 122) ?_
 refine VWp.ghost (Ghost.fresh 122) ?_
 refine VWp.ghost (Ghost.fresh 122) ?_
 refine VWp.ghost (Ghost.fresh 122) ?_
 refine VWp.loopQ (fun s:Nat×Nat×List UInt8=>[(1,.p (.int .i64 (n:Int))),(2,.ref 0 0),(4,.ref 1 0),(5,.ref 2 0),(6,.ref 3 0),(7,.p (.int .i64 (s.2.1:Int)))]) (fun s=>wHp s.1 s.2.1 s.2.2) 9
  (fun s=>(s.1=0∧s.2.1=0)∨(1≤s.1∧s.1-1<4∧40*(s.1-1)<s.2.1∧s.2.1≤40*(s.1-1)+40∧s.2.1≤n)) (fun s=>n-s.2.1) (0,0,[82,48]) (by decide) (.inl ⟨rfl,rfl⟩) ⟨by decide,?_,?_⟩ ?_
 ·repeat (first|exact LCov.nil|refine LCov.same trivial rfl ?_|refine LCov.same (lt_dec rfl) rfl ?_|refine LCov.same ⟨trivial,lt_dec rfl,trivial⟩ rfl ?_|refine LCov.same ⟨trivial,lt_dec rfl,lt_dec rfl,trivial⟩ rfl ?_|refine LCov.same ⟨trivial,lt_dec rfl,lt_dec rfl,lt_dec rfl,trivial⟩ rfl ?_|refine LCov.same ⟨trivial,lt_dec rfl,lt_dec rfl,lt_dec rfl,lt_dec rfl,trivial⟩ rfl ?_|refine LCov.same ⟨trivial,trivial⟩ rfl ?_|refine LCov.cons trivial rfl (.of_eq (lst_len (by simp<;>omega))) ?_)
 ·show HCov 9 [(0,.box 37 [.p (.str (bs [79])),.p (.lst 131 (cells (smpRL taL [8] 1)) 1),.vec 4 0 0 0,.p (.lst 147 [] 0)]),(1,.box 37 [.p (.str (bs [])),.p (.val (.slice none 0 0)),.p (.val (.slice none 0 0)),.p (.val (.slice none 0 0))]),(2,.box 97 ((Enc.enc (smpD [smpS 0 8])).map .p)),(3,.box 122 [.p (.str (bs ([82,48]:List UInt8))),.p (.int .i64 8),.p (.int .i64 1),.p (.lst 136 (cells ([⟨36,38,[⟨0,0⟩]⟩]:List Seg)) 1)]),(4,.vec 97 (cells ([]:List DvX)) 0 true),(5,.vec 122 (cells ([]:List Stp)) 0 true),(6,.vec 122 (cells ([]:List Stp)) 0 true),(7,.vec 122 (cells ([]:List Stp)) 0 true),(8,.vec 122 (cells ([]:List Stp)) 0 true)] _
  repeat (first|exact HCov.nil|(refine HCov.cons (lt_dec rfl) ?_ rfl ?_ ?_;(first|exact HB.under_of rfl|exact PVs.under_pure _ _|(simp [HB.under,PVs.under,PV.under]));(first|exact HLe.refl _|exact HLe.vec (FLes.refl _) (by simp))))
 rintro ⟨D,i,nm⟩ hI
 simp only at hI ⊢
 match D,hI with
 |0,hI =>
  obtain rfl:i=0:=by rcases hI with h|h<;>omega
  show VWp env _ _ _ [(0,.box 37 [.p (.str (bs [79])),.p (.lst 131 (cells (smpRL taL [8] 1)) 1),.vec 4 0 0 0,.p (.lst 147 [] 0)]),(1,.box 37 [.p (.str (bs [])),.p (.val (.slice none 0 0)),.p (.val (.slice none 0 0)),.p (.val (.slice none 0 0))]),(2,.box 97 ((Enc.enc (smpD [smpS 0 8])).map .p)),(3,.box 122 [.p (.str (bs nm)),.p (.int .i64 8),.p (.int .i64 1),.p (.lst 136 (cells ([⟨36,38,[⟨0,0⟩]⟩]:List Seg)) 1)]),(4,.vec 97 (cells ([]:List DvX)) 0 true),(5,.vec 122 (cells ([]:List Stp)) 0 true),(6,.vec 122 (cells ([]:List Stp)) 0 true),(7,.vec 122 (cells ([]:List Stp)) 0 true),(8,.vec 122 (cells ([]:List Stp)) 0 true)] _ _
  have a1:wSt 0 1=[wS 0]:=rfl
  repeat' (first|(refine VWp.at 9 ?_;refine VWp.ghost ((Ghost.openVec 4 rfl (by decide)).trans (Ghost.useCellV 4 4 5 rfl rfl rfl)) ?_;first|apply VWp.rseq|apply VWp.rseqD)|(refine VOpsD.atIdx 11 ?_;apply VOpsD.weak [.tmp 56];decide +kernel;rfl;rfl;(first|exact VOwn.ref rfl|exact VOwn.vec rfl|exact VOwn.eref rfl);decide +kernel;rfl)|apply VWp.assoc|apply VWp.rseq|apply VWp.region|apply VWp.regionD|apply VWp.skipSeq|apply VWp.blockSeq|apply QSeq.normal|apply QBlk.normal|apply VOps.nil|apply VOpsD.nil|apply VOps.one|(apply VOpsD.bar;decide +kernel)|apply VOpsD.quiet|(apply VVal.append1 (a:=(⟨nmI 68 0,.val (.slice none 0 0)⟩:DvX));rfl;rfl;rfl;rfl;rfl;rfl;rfl;rfl;(intro _ h;cases h);rfl;rfl;rfl;decide;decide;(first|omega|(simp only [List.length_take,List.length_drop,List.length_append,List.length_singleton,List.length_cons,List.length_nil]<;>omega)))|(apply VVal.ofByte2;rfl;rfl;rfl;rfl;rfl;decide;decide)|(apply VVal.ofByte3 (l:=(wS 0).name);rfl;rfl;rfl;rfl;rfl;decide;omega;omega;exact wnm 0)|(apply VVal.append1 (a:=wS 0);rfl;rfl;rfl;rfl;rfl;rfl;rfl;rfl;(intro _ h;cases h);rfl;rfl;rfl;decide;decide;(first|omega|(simp only [List.length_take,List.length_drop,List.length_append,List.length_singleton,List.length_cons,List.length_nil]<;>omega)))|(apply VVal.lenQ;rfl;rfl;rfl)|(apply VVal.indexQ (i:=0);rfl;rfl;rfl;rfl;decide)|(apply VVal.fieldQ;rfl;rfl;rfl)|(apply VVal.loadQ;rfl;rfl;rfl;rfl)|(apply VVal.storeQ;rfl;rfl;rfl;trivial;rfl;rfl;decide;(simp only [List.length_cons,List.length_nil]<;>decide))|(apply VVal.assign;rfl)|(apply VVal.move;rfl)|(apply VVal.add64;rfl;rfl;omega)|(apply VVal.addB;rfl;rfl;omega)|(apply VVal.remI;rfl;rfl;omega;omega)|(apply VVal.quoI;rfl;rfl;omega;omega)|(apply VVal.int;rfl;rfl;rfl)|(apply VVal.load;rfl;rfl)|(apply VVal.fieldB;rfl;rfl;rfl)|(apply VVal.storeB;rfl;rfl;rfl;trivial;rfl;rfl;exact lt_dec rfl;exact le_dec rfl)|(apply VVal.build;rfl;rfl;rfl;rfl;rfl)|(apply VVal.buildSlice;rfl;rfl;rfl;decide;rfl;rfl;rfl)|(apply VVal.convB;rfl;rfl;rfl;rfl;omega)|(apply VWp.condSeq_true;rfl)|(apply VWp.condSeq_dec;rfl)|(intro _;try (exfalso;omega)))
  all_goals try (exfalso;omega)
  refine QLoop.normal ⟨(1,1,(wS 0).name),.inr ⟨by decide,by decide,by decide,by decide,(show 1≤n by omega)⟩,(show n-1<n-0 by omega),⟨by omega,?_,?_⟩⟩
  ·repeat (first|exact LCov.nil|refine LCov.same trivial rfl ?_|refine LCov.same (lt_dec rfl) rfl ?_|refine LCov.same ⟨trivial,lt_dec rfl,trivial⟩ rfl ?_|refine LCov.same ⟨trivial,lt_dec rfl,lt_dec rfl,trivial⟩ rfl ?_|refine LCov.same ⟨trivial,lt_dec rfl,lt_dec rfl,lt_dec rfl,trivial⟩ rfl ?_|refine LCov.same ⟨trivial,lt_dec rfl,lt_dec rfl,lt_dec rfl,lt_dec rfl,trivial⟩ rfl ?_|refine LCov.same ⟨trivial,trivial⟩ rfl ?_|refine LCov.cons trivial rfl (.of_eq (lst_len (by simp<;>omega))) ?_)
  ·show HCov 9 [(0,.box 37 [.p (.str (bs [79])),.p (.lst 131 (cells (smpRL taL [8] 1)) 1),.vec 4 1 0 1,.p (.lst 147 [] 0)]),(1,.box 37 [.p (.str (bs [])),.p (.val (.slice none 0 0)),.p (.val (.slice none 0 0)),.p (.val (.slice none 0 0))]),(2,.box 97 ((Enc.enc (smpD [smpS 0 8])).map .p)),(3,.box 122 [.p (.str (bs (wS 0).name)),.p (.int .i64 8),.p (.int .i64 1),.p (.lst 136 (cells ([⟨36,38,[⟨0,0⟩]⟩]:List Seg)) 1)]),(4,.vecp 97 [.p (.str (bs (nmI 68 0))),.p (.bool false),.p (.int .i64 36),.p (.int .i64 38),.vec 5 (wSt 0 1).length 0 (wSt 0 1).length] 1),(5,.vec 122 (cells (wSt 0 1)) (wSt 0 1).length true),(6,.vec 122 (cells ([]:List Stp)) 0 true),(7,.vec 122 (cells ([]:List Stp)) 0 true),(8,.vec 122 (cells ([]:List Stp)) 0 true)] _
   repeat (first|exact HCov.nil|(refine HCov.cons (lt_dec rfl) ?_ rfl ?_ ?_;(first|exact HB.under_of rfl|exact PVs.under_pure _ _|(simp [HB.under,PVs.under,PV.under]));(first|exact HLe.refl _|exact HLe.vec (FLes.refl _) (by simp))))
 |1,hI =>
  have hI:0<i∧i≤40∧i≤n:=by rcases hI with h|h<;>omega
  show VWp env _ _ _ [(0,.box 37 [.p (.str (bs [79])),.p (.lst 131 (cells (smpRL taL [8] 1)) 1),.vec 4 1 0 1,.p (.lst 147 [] 0)]),(1,.box 37 [.p (.str (bs [])),.p (.val (.slice none 0 0)),.p (.val (.slice none 0 0)),.p (.val (.slice none 0 0))]),(2,.box 97 ((Enc.enc (smpD [smpS 0 8])).map .p)),(3,.box 122 [.p (.str (bs nm)),.p (.int .i64 8),.p (.int .i64 1),.p (.lst 136 (cells ([⟨36,38,[⟨0,0⟩]⟩]:List Seg)) 1)]),(4,.vecp 97 [.p (.str (bs (nmI 68 0))),.p (.bool false),.p (.int .i64 36),.p (.int .i64 38),.vec 5 (wSt 0 i).length 0 (wSt 0 i).length] 1),(5,.vec 122 (cells (wSt 0 i)) (wSt 0 i).length true),(6,.vec 122 (cells ([]:List Stp)) 0 true),(7,.vec 122 (cells ([]:List Stp)) 0 true),(8,.vec 122 (cells ([]:List Stp)) 0 true)] _ _
  by_cases hn:i=n
  ·subst hn
   have hW:wideO i=⟨[79],smpRL taL [8] 1,[wDv 0 (wSt 0 i)],[]⟩:=by
    unfold wideO wDs
    rw [show (i+39) / 40=1 by omega]
    show (⟨[79],smpRL taL [8] 1,[wD i 0],[]⟩:Org)=_
    unfold wD
    rw [show min i (40*(0+1))=i by omega]
   rw [hW]
   repeat' (first|(refine VWp.at 12 ?_;refine VWp.ghost (((Ghost.freezeCellV 4 4 rfl rfl rfl).trans (Ghost.closeVec 4 (cells ([⟨nmI 68 0,lstS (wSt 0 i)⟩]:List DvX)) rfl (by decide) rfl)).trans (Ghost.freezeCell 0 2 rfl rfl rfl)) ?_;first|apply VWp.rseq|apply VWp.rseqD)|apply VWp.assoc|apply VWp.rseq|apply VWp.exitSeq|apply QSeq.normal|apply QBlk.exit|apply QLoop.exit|apply VWp.ret|apply VOps.nil|apply VOps.one|(apply VVal.move;rfl)|(apply VVal.int;rfl;rfl;rfl)|(apply VVal.load;rfl;rfl)|(apply VVal.storeB;rfl;rfl;rfl;trivial;rfl;rfl;exact lt_dec rfl;exact le_dec rfl)|(apply VWp.condSeq_dec;rfl)|(intro _;try (exfalso;omega)))
   all_goals first|(exfalso;omega)|(refine Done.ret rfl (.refl _) (by first|exact trivial|exact ⟨trivial,trivial,trivial⟩|exact ⟨trivial,trivial,trivial,trivial⟩) HCov.nil (Nat.zero_le _) (Nat.le_refl _) ⟨?_,rfl,rfl⟩;try rfl)
  by_cases hb:i=40
  ·subst hb
   have a1:wSt 40 41=[wS 40]:=rfl
   repeat' (first|(refine VWp.at 8 ?_;refine VWp.ghost ((Ghost.freezeCellV 4 4 rfl rfl rfl).trans (Ghost.closeVec 4 (cells ([⟨nmI 68 0,lstS (wSt 0 40)⟩]:List DvX)) rfl (by decide) rfl)) ?_;first|apply VWp.rseq|apply VWp.rseqD)|(refine VWp.at 9 ?_;refine VWp.ghost ((Ghost.openVec 4 rfl (by decide)).trans (Ghost.useCellV 4 9 6 rfl rfl rfl)) ?_;first|apply VWp.rseq|apply VWp.rseqD)|(refine VOpsD.atIdx 11 ?_;apply VOpsD.weak [.tmp 56];decide +kernel;rfl;rfl;(first|exact VOwn.ref rfl|exact VOwn.vec rfl|exact VOwn.eref rfl);decide +kernel;rfl)|apply VWp.assoc|apply VWp.rseq|apply VWp.region|apply VWp.regionD|apply VWp.skipSeq|apply VWp.blockSeq|apply QSeq.normal|apply QBlk.normal|apply VOps.nil|apply VOpsD.nil|apply VOps.one|(apply VOpsD.bar;decide +kernel)|apply VOpsD.quiet|(apply VVal.append1 (a:=(⟨nmI 68 1,.val (.slice none 0 0)⟩:DvX));rfl;rfl;rfl;rfl;rfl;rfl;rfl;rfl;(intro _ h;cases h);rfl;rfl;rfl;decide;decide;(first|omega|(simp only [List.length_take,List.length_drop,List.length_append,List.length_singleton,List.length_cons,List.length_nil]<;>omega)))|(apply VVal.ofByte2;rfl;rfl;rfl;rfl;rfl;decide;decide)|(apply VVal.ofByte3 (l:=(wS 40).name);rfl;rfl;rfl;rfl;rfl;decide;omega;omega;exact wnm 40)|(apply VVal.append1 (a:=wS 40);rfl;rfl;rfl;rfl;rfl;rfl;rfl;rfl;(intro _ h;cases h);rfl;rfl;rfl;decide;decide;(first|omega|(simp only [List.length_take,List.length_drop,List.length_append,List.length_singleton,List.length_cons,List.length_nil]<;>omega)))|(apply VVal.lenQ;rfl;rfl;rfl)|(apply VVal.indexQ (i:=1);rfl;rfl;rfl;rfl;decide)|(apply VVal.fieldQ;rfl;rfl;rfl)|(apply VVal.loadQ;rfl;rfl;rfl;rfl)|(apply VVal.storeQ;rfl;rfl;rfl;trivial;rfl;rfl;decide;(simp only [List.length_cons,List.length_nil]<;>decide))|(apply VVal.assign;rfl)|(apply VVal.move;rfl)|(apply VVal.add64;rfl;rfl;omega)|(apply VVal.addB;rfl;rfl;omega)|(apply VVal.remI;rfl;rfl;omega;omega)|(apply VVal.quoI;rfl;rfl;omega;omega)|(apply VVal.int;rfl;rfl;rfl)|(apply VVal.load;rfl;rfl)|(apply VVal.fieldB;rfl;rfl;rfl)|(apply VVal.storeB;rfl;rfl;rfl;trivial;rfl;rfl;exact lt_dec rfl;exact le_dec rfl)|(apply VVal.build;rfl;rfl;rfl;rfl;rfl)|(apply VVal.buildSlice;rfl;rfl;rfl;decide;rfl;rfl;rfl)|(apply VVal.convB;rfl;rfl;rfl;rfl;omega)|(apply VWp.condSeq_true;rfl)|(apply VWp.condSeq_dec;rfl)|(intro _;try (exfalso;omega)))
   all_goals try (exfalso;omega)
   refine QLoop.normal ⟨(2,41,(wS 40).name),.inr ⟨by decide,by decide,by decide,by decide,(show 41≤n by omega)⟩,(show n-41<n-40 by omega),⟨by omega,?_,?_⟩⟩
   ·repeat (first|exact LCov.nil|refine LCov.same trivial rfl ?_|refine LCov.same (lt_dec rfl) rfl ?_|refine LCov.same ⟨trivial,lt_dec rfl,trivial⟩ rfl ?_|refine LCov.same ⟨trivial,lt_dec rfl,lt_dec rfl,trivial⟩ rfl ?_|refine LCov.same ⟨trivial,lt_dec rfl,lt_dec rfl,lt_dec rfl,trivial⟩ rfl ?_|refine LCov.same ⟨trivial,lt_dec rfl,lt_dec rfl,lt_dec rfl,lt_dec rfl,trivial⟩ rfl ?_|refine LCov.same ⟨trivial,trivial⟩ rfl ?_|refine LCov.cons trivial rfl (.of_eq (lst_len (by simp<;>omega))) ?_)
   ·show HCov 9 [(0,.box 37 [.p (.str (bs [79])),.p (.lst 131 (cells (smpRL taL [8] 1)) 1),.vec 4 2 0 2,.p (.lst 147 [] 0)]),(1,.box 37 [.p (.str (bs [])),.p (.val (.slice none 0 0)),.p (.val (.slice none 0 0)),.p (.val (.slice none 0 0))]),(2,.box 97 ((Enc.enc (smpD [smpS 0 8])).map .p)),(3,.box 122 [.p (.str (bs (wS 40).name)),.p (.int .i64 8),.p (.int .i64 1),.p (.lst 136 (cells ([⟨36,38,[⟨0,0⟩]⟩]:List Seg)) 1)]),(4,.vecp 97 [.p (.str (bs (nmI 68 0))),.p (.bool false),.p (.int .i64 36),.p (.int .i64 38),.p (lstS (wSt 0 40)),.p (.str (bs (nmI 68 1))),.p (.bool false),.p (.int .i64 36),.p (.int .i64 38),.vec 6 (wSt 40 41).length 0 (wSt 40 41).length] 2),(6,.vec 122 (cells (wSt 40 41)) (wSt 40 41).length true),(7,.vec 122 (cells ([]:List Stp)) 0 true),(8,.vec 122 (cells ([]:List Stp)) 0 true)] _
    repeat (first|exact HCov.nil|(refine HCov.cons (lt_dec rfl) ?_ rfl ?_ ?_;(first|exact HB.under_of rfl|exact PVs.under_pure _ _|(simp [HB.under,PVs.under,PV.under]));(first|exact HLe.refl _|exact HLe.vec (FLes.refl _) (by simp))))
  have a1:=wSt_succ (a:=0) (b:=i) (by omega)
  have a3:(wSt 0 (i+1)).length=(wSt 0 i).length+1:=by rw [a1];simp
  have a5:=wSt_len 0 i
  repeat' (first|(refine VOpsD.atIdx 11 ?_;apply VOpsD.weak [.tmp 56];decide +kernel;rfl;rfl;(first|exact VOwn.ref rfl|exact VOwn.vec rfl|exact VOwn.eref rfl);decide +kernel;rfl)|apply VWp.assoc|apply VWp.rseq|apply VWp.region|apply VWp.regionD|apply VWp.skipSeq|apply VWp.blockSeq|apply QSeq.normal|apply QBlk.normal|apply VOps.nil|apply VOpsD.nil|apply VOps.one|(apply VOpsD.bar;decide +kernel)|apply VOpsD.quiet|(apply VVal.ofByte3 (l:=(wS i).name);rfl;rfl;rfl;rfl;rfl;decide;omega;omega;exact wnm i)|(apply VVal.append1 (a:=wS i);rfl;rfl;rfl;rfl;rfl;rfl;rfl;rfl;(intro _ h;cases h);rfl;rfl;rfl;decide;decide;(first|omega|(simp only [List.length_take,List.length_drop,List.length_append,List.length_singleton,List.length_cons,List.length_nil]<;>omega)))|(apply VVal.lenQ;rfl;rfl;rfl)|(apply VVal.indexQ (i:=0);rfl;rfl;rfl;rfl;decide)|(apply VVal.fieldQ;rfl;rfl;rfl)|(apply VVal.loadQ;rfl;rfl;rfl;rfl)|(apply VVal.storeQ;rfl;rfl;rfl;trivial;rfl;rfl;decide;(simp only [List.length_cons,List.length_nil]<;>decide))|(apply VVal.assign;rfl)|(apply VVal.move;rfl)|(apply VVal.add64;rfl;rfl;omega)|(apply VVal.sub64;rfl;rfl;omega)|(apply VVal.addB;rfl;rfl;omega)|(apply VVal.remI;rfl;rfl;omega;omega)|(apply VVal.quoI;rfl;rfl;omega;omega)|(apply VVal.int;rfl;rfl;rfl)|(apply VVal.load;rfl;rfl)|(apply VVal.fieldB;rfl;rfl;rfl)|(apply VVal.storeB;rfl;rfl;rfl;trivial;rfl;rfl;exact lt_dec rfl;exact le_dec rfl)|(apply VVal.buildSlice;rfl;rfl;rfl;decide;rfl;rfl;rfl)|(apply VVal.convB;rfl;rfl;rfl;rfl;omega)|(apply VWp.condSeq_dec;rfl)|(intro _;try (exfalso;omega)))
  all_goals try (exfalso;omega)
  refine QLoop.normal ⟨(1,i+1,(wS i).name),.inr ⟨(show 1≤1 by decide),(show 1-1<4 by decide),(show 0<i+1 by omega),(show i+1≤40 by omega),(show i+1≤n by omega)⟩,(show n-(i+1)<n-i by omega),⟨by omega,?_,?_⟩⟩
  ·repeat (first|exact LCov.nil|refine LCov.same trivial rfl ?_|refine LCov.same (lt_dec rfl) rfl ?_|refine LCov.same ⟨trivial,lt_dec rfl,trivial⟩ rfl ?_|refine LCov.same ⟨trivial,lt_dec rfl,lt_dec rfl,trivial⟩ rfl ?_|refine LCov.same ⟨trivial,lt_dec rfl,lt_dec rfl,lt_dec rfl,trivial⟩ rfl ?_|refine LCov.same ⟨trivial,lt_dec rfl,lt_dec rfl,lt_dec rfl,lt_dec rfl,trivial⟩ rfl ?_|refine LCov.same ⟨trivial,trivial⟩ rfl ?_|refine LCov.cons trivial rfl (.of_eq (lst_len (by simp<;>omega))) ?_)
  ·show HCov 9 [(0,.box 37 [.p (.str (bs [79])),.p (.lst 131 (cells (smpRL taL [8] 1)) 1),.vec 4 1 0 1,.p (.lst 147 [] 0)]),(1,.box 37 [.p (.str (bs [])),.p (.val (.slice none 0 0)),.p (.val (.slice none 0 0)),.p (.val (.slice none 0 0))]),(2,.box 97 ((Enc.enc (smpD [smpS 0 8])).map .p)),(3,.box 122 [.p (.str (bs (wS i).name)),.p (.int .i64 8),.p (.int .i64 1),.p (.lst 136 (cells ([⟨36,38,[⟨0,0⟩]⟩]:List Seg)) 1)]),(4,.vecp 97 [.p (.str (bs (nmI 68 0))),.p (.bool false),.p (.int .i64 36),.p (.int .i64 38),.vec 5 (wSt 0 (i+1)).length 0 (wSt 0 (i+1)).length] 1),(5,.vec 122 (cells (wSt 0 (i+1))) (wSt 0 (i+1)).length true),(6,.vec 122 (cells ([]:List Stp)) 0 true),(7,.vec 122 (cells ([]:List Stp)) 0 true),(8,.vec 122 (cells ([]:List Stp)) 0 true)] _
   rw [a3,a1]
   repeat (first|exact HCov.nil|(refine HCov.cons (lt_dec rfl) ?_ rfl ?_ ?_;(first|exact HB.under_of rfl|exact PVs.under_pure _ _|(simp [HB.under,PVs.under,PV.under]));(first|exact HLe.refl _|exact HLe.vec (FLes.refl _) (by simp))))
 |2,hI =>
  have hI:40<i∧i≤80∧i≤n:=by rcases hI with h|h<;>omega
  show VWp env _ _ _ [(0,.box 37 [.p (.str (bs [79])),.p (.lst 131 (cells (smpRL taL [8] 1)) 1),.vec 4 2 0 2,.p (.lst 147 [] 0)]),(1,.box 37 [.p (.str (bs [])),.p (.val (.slice none 0 0)),.p (.val (.slice none 0 0)),.p (.val (.slice none 0 0))]),(2,.box 97 ((Enc.enc (smpD [smpS 0 8])).map .p)),(3,.box 122 [.p (.str (bs nm)),.p (.int .i64 8),.p (.int .i64 1),.p (.lst 136 (cells ([⟨36,38,[⟨0,0⟩]⟩]:List Seg)) 1)]),(4,.vecp 97 [.p (.str (bs (nmI 68 0))),.p (.bool false),.p (.int .i64 36),.p (.int .i64 38),.p (lstS (wSt 0 40)),.p (.str (bs (nmI 68 1))),.p (.bool false),.p (.int .i64 36),.p (.int .i64 38),.vec 6 (wSt 40 i).length 0 (wSt 40 i).length] 2),(6,.vec 122 (cells (wSt 40 i)) (wSt 40 i).length true),(7,.vec 122 (cells ([]:List Stp)) 0 true),(8,.vec 122 (cells ([]:List Stp)) 0 true)] _ _
  by_cases hn:i=n
  ·subst hn
   have hW:wideO i=⟨[79],smpRL taL [8] 1,[wDv 0 (wSt 0 40),wDv 1 (wSt 40 i)],[]⟩:=by
    unfold wideO wDs
    rw [show (i+39) / 40=2 by omega]
    show (⟨[79],smpRL taL [8] 1,[wD i 0,wD i 1],[]⟩:Org)=_
    unfold wD
    rw [show min i (40*(0+1))=40 by omega,show min i (40*(1+1))=i by omega]
   rw [hW]
   repeat' (first|(refine VWp.at 12 ?_;refine VWp.ghost (((Ghost.freezeCellV 4 9 rfl rfl rfl).trans (Ghost.closeVec 4 (cells ([⟨nmI 68 0,lstS (wSt 0 40)⟩,⟨nmI 68 1,lstS (wSt 40 i)⟩]:List DvX)) rfl (by decide) rfl)).trans (Ghost.freezeCell 0 2 rfl rfl rfl)) ?_;first|apply VWp.rseq|apply VWp.rseqD)|apply VWp.assoc|apply VWp.rseq|apply VWp.exitSeq|apply QSeq.normal|apply QBlk.exit|apply QLoop.exit|apply VWp.ret|apply VOps.nil|apply VOps.one|(apply VVal.move;rfl)|(apply VVal.int;rfl;rfl;rfl)|(apply VVal.load;rfl;rfl)|(apply VVal.storeB;rfl;rfl;rfl;trivial;rfl;rfl;exact lt_dec rfl;exact le_dec rfl)|(apply VWp.condSeq_dec;rfl)|(intro _;try (exfalso;omega)))
   all_goals first|(exfalso;omega)|(refine Done.ret rfl (.refl _) (by first|exact trivial|exact ⟨trivial,trivial,trivial⟩|exact ⟨trivial,trivial,trivial,trivial⟩) HCov.nil (Nat.zero_le _) (Nat.le_refl _) ⟨?_,rfl,rfl⟩;try rfl)
  by_cases hb:i=80
  ·subst hb
   have a1:wSt 80 81=[wS 80]:=rfl
   repeat' (first|(refine VWp.at 8 ?_;refine VWp.ghost ((Ghost.freezeCellV 4 9 rfl rfl rfl).trans (Ghost.closeVec 4 (cells ([⟨nmI 68 0,lstS (wSt 0 40)⟩,⟨nmI 68 1,lstS (wSt 40 80)⟩]:List DvX)) rfl (by decide) rfl)) ?_;first|apply VWp.rseq|apply VWp.rseqD)|(refine VWp.at 9 ?_;refine VWp.ghost ((Ghost.openVec 4 rfl (by decide)).trans (Ghost.useCellV 4 14 7 rfl rfl rfl)) ?_;first|apply VWp.rseq|apply VWp.rseqD)|(refine VOpsD.atIdx 11 ?_;apply VOpsD.weak [.tmp 56];decide +kernel;rfl;rfl;(first|exact VOwn.ref rfl|exact VOwn.vec rfl|exact VOwn.eref rfl);decide +kernel;rfl)|apply VWp.assoc|apply VWp.rseq|apply VWp.region|apply VWp.regionD|apply VWp.skipSeq|apply VWp.blockSeq|apply QSeq.normal|apply QBlk.normal|apply VOps.nil|apply VOpsD.nil|apply VOps.one|(apply VOpsD.bar;decide +kernel)|apply VOpsD.quiet|(apply VVal.append1 (a:=(⟨nmI 68 2,.val (.slice none 0 0)⟩:DvX));rfl;rfl;rfl;rfl;rfl;rfl;rfl;rfl;(intro _ h;cases h);rfl;rfl;rfl;decide;decide;(first|omega|(simp only [List.length_take,List.length_drop,List.length_append,List.length_singleton,List.length_cons,List.length_nil]<;>omega)))|(apply VVal.ofByte2;rfl;rfl;rfl;rfl;rfl;decide;decide)|(apply VVal.ofByte3 (l:=(wS 80).name);rfl;rfl;rfl;rfl;rfl;decide;omega;omega;exact wnm 80)|(apply VVal.append1 (a:=wS 80);rfl;rfl;rfl;rfl;rfl;rfl;rfl;rfl;(intro _ h;cases h);rfl;rfl;rfl;decide;decide;(first|omega|(simp only [List.length_take,List.length_drop,List.length_append,List.length_singleton,List.length_cons,List.length_nil]<;>omega)))|(apply VVal.lenQ;rfl;rfl;rfl)|(apply VVal.indexQ (i:=2);rfl;rfl;rfl;rfl;decide)|(apply VVal.fieldQ;rfl;rfl;rfl)|(apply VVal.loadQ;rfl;rfl;rfl;rfl)|(apply VVal.storeQ;rfl;rfl;rfl;trivial;rfl;rfl;decide;(simp only [List.length_cons,List.length_nil]<;>decide))|(apply VVal.assign;rfl)|(apply VVal.move;rfl)|(apply VVal.add64;rfl;rfl;omega)|(apply VVal.addB;rfl;rfl;omega)|(apply VVal.remI;rfl;rfl;omega;omega)|(apply VVal.quoI;rfl;rfl;omega;omega)|(apply VVal.int;rfl;rfl;rfl)|(apply VVal.load;rfl;rfl)|(apply VVal.fieldB;rfl;rfl;rfl)|(apply VVal.storeB;rfl;rfl;rfl;trivial;rfl;rfl;exact lt_dec rfl;exact le_dec rfl)|(apply VVal.build;rfl;rfl;rfl;rfl;rfl)|(apply VVal.buildSlice;rfl;rfl;rfl;decide;rfl;rfl;rfl)|(apply VVal.convB;rfl;rfl;rfl;rfl;omega)|(apply VWp.condSeq_true;rfl)|(apply VWp.condSeq_dec;rfl)|(intro _;try (exfalso;omega)))
   all_goals try (exfalso;omega)
   refine QLoop.normal ⟨(3,81,(wS 80).name),.inr ⟨by decide,by decide,by decide,by decide,(show 81≤n by omega)⟩,(show n-81<n-80 by omega),⟨by omega,?_,?_⟩⟩
   ·repeat (first|exact LCov.nil|refine LCov.same trivial rfl ?_|refine LCov.same (lt_dec rfl) rfl ?_|refine LCov.same ⟨trivial,lt_dec rfl,trivial⟩ rfl ?_|refine LCov.same ⟨trivial,lt_dec rfl,lt_dec rfl,trivial⟩ rfl ?_|refine LCov.same ⟨trivial,lt_dec rfl,lt_dec rfl,lt_dec rfl,trivial⟩ rfl ?_|refine LCov.same ⟨trivial,lt_dec rfl,lt_dec rfl,lt_dec rfl,lt_dec rfl,trivial⟩ rfl ?_|refine LCov.same ⟨trivial,trivial⟩ rfl ?_|refine LCov.cons trivial rfl (.of_eq (lst_len (by simp<;>omega))) ?_)
   ·show HCov 9 [(0,.box 37 [.p (.str (bs [79])),.p (.lst 131 (cells (smpRL taL [8] 1)) 1),.vec 4 3 0 3,.p (.lst 147 [] 0)]),(1,.box 37 [.p (.str (bs [])),.p (.val (.slice none 0 0)),.p (.val (.slice none 0 0)),.p (.val (.slice none 0 0))]),(2,.box 97 ((Enc.enc (smpD [smpS 0 8])).map .p)),(3,.box 122 [.p (.str (bs (wS 80).name)),.p (.int .i64 8),.p (.int .i64 1),.p (.lst 136 (cells ([⟨36,38,[⟨0,0⟩]⟩]:List Seg)) 1)]),(4,.vecp 97 [.p (.str (bs (nmI 68 0))),.p (.bool false),.p (.int .i64 36),.p (.int .i64 38),.p (lstS (wSt 0 40)),.p (.str (bs (nmI 68 1))),.p (.bool false),.p (.int .i64 36),.p (.int .i64 38),.p (lstS (wSt 40 80)),.p (.str (bs (nmI 68 2))),.p (.bool false),.p (.int .i64 36),.p (.int .i64 38),.vec 7 (wSt 80 81).length 0 (wSt 80 81).length] 3),(7,.vec 122 (cells (wSt 80 81)) (wSt 80 81).length true),(8,.vec 122 (cells ([]:List Stp)) 0 true)] _
    repeat (first|exact HCov.nil|(refine HCov.cons (lt_dec rfl) ?_ rfl ?_ ?_;(first|exact HB.under_of rfl|exact PVs.under_pure _ _|(simp [HB.under,PVs.under,PV.under]));(first|exact HLe.refl _|exact HLe.vec (FLes.refl _) (by simp))))
  have a1:=wSt_succ (a:=40) (b:=i) (by omega)
  have a3:(wSt 40 (i+1)).length=(wSt 40 i).length+1:=by rw [a1];simp
  have a5:=wSt_len 40 i
  repeat' (first|(refine VOpsD.atIdx 11 ?_;apply VOpsD.weak [.tmp 56];decide +kernel;rfl;rfl;(first|exact VOwn.ref rfl|exact VOwn.vec rfl|exact VOwn.eref rfl);decide +kernel;rfl)|apply VWp.assoc|apply VWp.rseq|apply VWp.region|apply VWp.regionD|apply VWp.skipSeq|apply VWp.blockSeq|apply QSeq.normal|apply QBlk.normal|apply VOps.nil|apply VOpsD.nil|apply VOps.one|(apply VOpsD.bar;decide +kernel)|apply VOpsD.quiet|(apply VVal.ofByte3 (l:=(wS i).name);rfl;rfl;rfl;rfl;rfl;decide;omega;omega;exact wnm i)|(apply VVal.append1 (a:=wS i);rfl;rfl;rfl;rfl;rfl;rfl;rfl;rfl;(intro _ h;cases h);rfl;rfl;rfl;decide;decide;(first|omega|(simp only [List.length_take,List.length_drop,List.length_append,List.length_singleton,List.length_cons,List.length_nil]<;>omega)))|(apply VVal.lenQ;rfl;rfl;rfl)|(apply VVal.indexQ (i:=1);rfl;rfl;rfl;rfl;decide)|(apply VVal.fieldQ;rfl;rfl;rfl)|(apply VVal.loadQ;rfl;rfl;rfl;rfl)|(apply VVal.storeQ;rfl;rfl;rfl;trivial;rfl;rfl;decide;(simp only [List.length_cons,List.length_nil]<;>decide))|(apply VVal.assign;rfl)|(apply VVal.move;rfl)|(apply VVal.add64;rfl;rfl;omega)|(apply VVal.sub64;rfl;rfl;omega)|(apply VVal.addB;rfl;rfl;omega)|(apply VVal.remI;rfl;rfl;omega;omega)|(apply VVal.quoI;rfl;rfl;omega;omega)|(apply VVal.int;rfl;rfl;rfl)|(apply VVal.load;rfl;rfl)|(apply VVal.fieldB;rfl;rfl;rfl)|(apply VVal.storeB;rfl;rfl;rfl;trivial;rfl;rfl;exact lt_dec rfl;exact le_dec rfl)|(apply VVal.buildSlice;rfl;rfl;rfl;decide;rfl;rfl;rfl)|(apply VVal.convB;rfl;rfl;rfl;rfl;omega)|(apply VWp.condSeq_dec;rfl)|(intro _;try (exfalso;omega)))
  all_goals try (exfalso;omega)
  refine QLoop.normal ⟨(2,i+1,(wS i).name),.inr ⟨(show 1≤2 by decide),(show 2-1<4 by decide),(show 40<i+1 by omega),(show i+1≤80 by omega),(show i+1≤n by omega)⟩,(show n-(i+1)<n-i by omega),⟨by omega,?_,?_⟩⟩
  ·repeat (first|exact LCov.nil|refine LCov.same trivial rfl ?_|refine LCov.same (lt_dec rfl) rfl ?_|refine LCov.same ⟨trivial,lt_dec rfl,trivial⟩ rfl ?_|refine LCov.same ⟨trivial,lt_dec rfl,lt_dec rfl,trivial⟩ rfl ?_|refine LCov.same ⟨trivial,lt_dec rfl,lt_dec rfl,lt_dec rfl,trivial⟩ rfl ?_|refine LCov.same ⟨trivial,lt_dec rfl,lt_dec rfl,lt_dec rfl,lt_dec rfl,trivial⟩ rfl ?_|refine LCov.same ⟨trivial,trivial⟩ rfl ?_|refine LCov.cons trivial rfl (.of_eq (lst_len (by simp<;>omega))) ?_)
  ·show HCov 9 [(0,.box 37 [.p (.str (bs [79])),.p (.lst 131 (cells (smpRL taL [8] 1)) 1),.vec 4 2 0 2,.p (.lst 147 [] 0)]),(1,.box 37 [.p (.str (bs [])),.p (.val (.slice none 0 0)),.p (.val (.slice none 0 0)),.p (.val (.slice none 0 0))]),(2,.box 97 ((Enc.enc (smpD [smpS 0 8])).map .p)),(3,.box 122 [.p (.str (bs (wS i).name)),.p (.int .i64 8),.p (.int .i64 1),.p (.lst 136 (cells ([⟨36,38,[⟨0,0⟩]⟩]:List Seg)) 1)]),(4,.vecp 97 [.p (.str (bs (nmI 68 0))),.p (.bool false),.p (.int .i64 36),.p (.int .i64 38),.p (lstS (wSt 0 40)),.p (.str (bs (nmI 68 1))),.p (.bool false),.p (.int .i64 36),.p (.int .i64 38),.vec 6 (wSt 40 (i+1)).length 0 (wSt 40 (i+1)).length] 2),(6,.vec 122 (cells (wSt 40 (i+1))) (wSt 40 (i+1)).length true),(7,.vec 122 (cells ([]:List Stp)) 0 true),(8,.vec 122 (cells ([]:List Stp)) 0 true)] _
   rw [a3,a1]
   repeat (first|exact HCov.nil|(refine HCov.cons (lt_dec rfl) ?_ rfl ?_ ?_;(first|exact HB.under_of rfl|exact PVs.under_pure _ _|(simp [HB.under,PVs.under,PV.under]));(first|exact HLe.refl _|exact HLe.vec (FLes.refl _) (by simp))))
 |3,hI =>
  have hI:80<i∧i≤120∧i≤n:=by rcases hI with h|h<;>omega
  show VWp env _ _ _ [(0,.box 37 [.p (.str (bs [79])),.p (.lst 131 (cells (smpRL taL [8] 1)) 1),.vec 4 3 0 3,.p (.lst 147 [] 0)]),(1,.box 37 [.p (.str (bs [])),.p (.val (.slice none 0 0)),.p (.val (.slice none 0 0)),.p (.val (.slice none 0 0))]),(2,.box 97 ((Enc.enc (smpD [smpS 0 8])).map .p)),(3,.box 122 [.p (.str (bs nm)),.p (.int .i64 8),.p (.int .i64 1),.p (.lst 136 (cells ([⟨36,38,[⟨0,0⟩]⟩]:List Seg)) 1)]),(4,.vecp 97 [.p (.str (bs (nmI 68 0))),.p (.bool false),.p (.int .i64 36),.p (.int .i64 38),.p (lstS (wSt 0 40)),.p (.str (bs (nmI 68 1))),.p (.bool false),.p (.int .i64 36),.p (.int .i64 38),.p (lstS (wSt 40 80)),.p (.str (bs (nmI 68 2))),.p (.bool false),.p (.int .i64 36),.p (.int .i64 38),.vec 7 (wSt 80 i).length 0 (wSt 80 i).length] 3),(7,.vec 122 (cells (wSt 80 i)) (wSt 80 i).length true),(8,.vec 122 (cells ([]:List Stp)) 0 true)] _ _
  by_cases hn:i=n
  ·subst hn
   have hW:wideO i=⟨[79],smpRL taL [8] 1,[wDv 0 (wSt 0 40),wDv 1 (wSt 40 80),wDv 2 (wSt 80 i)],[]⟩:=by
    unfold wideO wDs
    rw [show (i+39) / 40=3 by omega]
    show (⟨[79],smpRL taL [8] 1,[wD i 0,wD i 1,wD i 2],[]⟩:Org)=_
    unfold wD
    rw [show min i (40*(0+1))=40 by omega,show min i (40*(1+1))=80 by omega,show min i (40*(2+1))=i by omega]
   rw [hW]
   repeat' (first|(refine VWp.at 12 ?_;refine VWp.ghost (((Ghost.freezeCellV 4 14 rfl rfl rfl).trans (Ghost.closeVec 4 (cells ([⟨nmI 68 0,lstS (wSt 0 40)⟩,⟨nmI 68 1,lstS (wSt 40 80)⟩,⟨nmI 68 2,lstS (wSt 80 i)⟩]:List DvX)) rfl (by decide) rfl)).trans (Ghost.freezeCell 0 2 rfl rfl rfl)) ?_;first|apply VWp.rseq|apply VWp.rseqD)|apply VWp.assoc|apply VWp.rseq|apply VWp.exitSeq|apply QSeq.normal|apply QBlk.exit|apply QLoop.exit|apply VWp.ret|apply VOps.nil|apply VOps.one|(apply VVal.move;rfl)|(apply VVal.int;rfl;rfl;rfl)|(apply VVal.load;rfl;rfl)|(apply VVal.storeB;rfl;rfl;rfl;trivial;rfl;rfl;exact lt_dec rfl;exact le_dec rfl)|(apply VWp.condSeq_dec;rfl)|(intro _;try (exfalso;omega)))
   all_goals first|(exfalso;omega)|(refine Done.ret rfl (.refl _) (by first|exact trivial|exact ⟨trivial,trivial,trivial⟩|exact ⟨trivial,trivial,trivial,trivial⟩) HCov.nil (Nat.zero_le _) (Nat.le_refl _) ⟨?_,rfl,rfl⟩;try rfl)
  by_cases hb:i=120
  ·subst hb
   have a1:wSt 120 121=[wS 120]:=rfl
   repeat' (first|(refine VWp.at 8 ?_;refine VWp.ghost ((Ghost.freezeCellV 4 14 rfl rfl rfl).trans (Ghost.closeVec 4 (cells ([⟨nmI 68 0,lstS (wSt 0 40)⟩,⟨nmI 68 1,lstS (wSt 40 80)⟩,⟨nmI 68 2,lstS (wSt 80 120)⟩]:List DvX)) rfl (by decide) rfl)) ?_;first|apply VWp.rseq|apply VWp.rseqD)|(refine VWp.at 9 ?_;refine VWp.ghost ((Ghost.openVec 4 rfl (by decide)).trans (Ghost.useCellV 4 19 8 rfl rfl rfl)) ?_;first|apply VWp.rseq|apply VWp.rseqD)|(refine VOpsD.atIdx 11 ?_;apply VOpsD.weak [.tmp 56];decide +kernel;rfl;rfl;(first|exact VOwn.ref rfl|exact VOwn.vec rfl|exact VOwn.eref rfl);decide +kernel;rfl)|apply VWp.assoc|apply VWp.rseq|apply VWp.region|apply VWp.regionD|apply VWp.skipSeq|apply VWp.blockSeq|apply QSeq.normal|apply QBlk.normal|apply VOps.nil|apply VOpsD.nil|apply VOps.one|(apply VOpsD.bar;decide +kernel)|apply VOpsD.quiet|(apply VVal.append1 (a:=(⟨nmI 68 3,.val (.slice none 0 0)⟩:DvX));rfl;rfl;rfl;rfl;rfl;rfl;rfl;rfl;(intro _ h;cases h);rfl;rfl;rfl;decide;decide;(first|omega|(simp only [List.length_take,List.length_drop,List.length_append,List.length_singleton,List.length_cons,List.length_nil]<;>omega)))|(apply VVal.ofByte2;rfl;rfl;rfl;rfl;rfl;decide;decide)|(apply VVal.ofByte3 (l:=(wS 120).name);rfl;rfl;rfl;rfl;rfl;decide;omega;omega;exact wnm 120)|(apply VVal.append1 (a:=wS 120);rfl;rfl;rfl;rfl;rfl;rfl;rfl;rfl;(intro _ h;cases h);rfl;rfl;rfl;decide;decide;(first|omega|(simp only [List.length_take,List.length_drop,List.length_append,List.length_singleton,List.length_cons,List.length_nil]<;>omega)))|(apply VVal.lenQ;rfl;rfl;rfl)|(apply VVal.indexQ (i:=3);rfl;rfl;rfl;rfl;decide)|(apply VVal.fieldQ;rfl;rfl;rfl)|(apply VVal.loadQ;rfl;rfl;rfl;rfl)|(apply VVal.storeQ;rfl;rfl;rfl;trivial;rfl;rfl;decide;(simp only [List.length_cons,List.length_nil]<;>decide))|(apply VVal.assign;rfl)|(apply VVal.move;rfl)|(apply VVal.add64;rfl;rfl;omega)|(apply VVal.addB;rfl;rfl;omega)|(apply VVal.remI;rfl;rfl;omega;omega)|(apply VVal.quoI;rfl;rfl;omega;omega)|(apply VVal.int;rfl;rfl;rfl)|(apply VVal.load;rfl;rfl)|(apply VVal.fieldB;rfl;rfl;rfl)|(apply VVal.storeB;rfl;rfl;rfl;trivial;rfl;rfl;exact lt_dec rfl;exact le_dec rfl)|(apply VVal.build;rfl;rfl;rfl;rfl;rfl)|(apply VVal.buildSlice;rfl;rfl;rfl;decide;rfl;rfl;rfl)|(apply VVal.convB;rfl;rfl;rfl;rfl;omega)|(apply VWp.condSeq_true;rfl)|(apply VWp.condSeq_dec;rfl)|(intro _;try (exfalso;omega)))
   all_goals try (exfalso;omega)
   refine QLoop.normal ⟨(4,121,(wS 120).name),.inr ⟨by decide,by decide,by decide,by decide,(show 121≤n by omega)⟩,(show n-121<n-120 by omega),⟨by omega,?_,?_⟩⟩
   ·repeat (first|exact LCov.nil|refine LCov.same trivial rfl ?_|refine LCov.same (lt_dec rfl) rfl ?_|refine LCov.same ⟨trivial,lt_dec rfl,trivial⟩ rfl ?_|refine LCov.same ⟨trivial,lt_dec rfl,lt_dec rfl,trivial⟩ rfl ?_|refine LCov.same ⟨trivial,lt_dec rfl,lt_dec rfl,lt_dec rfl,trivial⟩ rfl ?_|refine LCov.same ⟨trivial,lt_dec rfl,lt_dec rfl,lt_dec rfl,lt_dec rfl,trivial⟩ rfl ?_|refine LCov.same ⟨trivial,trivial⟩ rfl ?_|refine LCov.cons trivial rfl (.of_eq (lst_len (by simp<;>omega))) ?_)
   ·show HCov 9 [(0,.box 37 [.p (.str (bs [79])),.p (.lst 131 (cells (smpRL taL [8] 1)) 1),.vec 4 4 0 4,.p (.lst 147 [] 0)]),(1,.box 37 [.p (.str (bs [])),.p (.val (.slice none 0 0)),.p (.val (.slice none 0 0)),.p (.val (.slice none 0 0))]),(2,.box 97 ((Enc.enc (smpD [smpS 0 8])).map .p)),(3,.box 122 [.p (.str (bs (wS 120).name)),.p (.int .i64 8),.p (.int .i64 1),.p (.lst 136 (cells ([⟨36,38,[⟨0,0⟩]⟩]:List Seg)) 1)]),(4,.vecp 97 [.p (.str (bs (nmI 68 0))),.p (.bool false),.p (.int .i64 36),.p (.int .i64 38),.p (lstS (wSt 0 40)),.p (.str (bs (nmI 68 1))),.p (.bool false),.p (.int .i64 36),.p (.int .i64 38),.p (lstS (wSt 40 80)),.p (.str (bs (nmI 68 2))),.p (.bool false),.p (.int .i64 36),.p (.int .i64 38),.p (lstS (wSt 80 120)),.p (.str (bs (nmI 68 3))),.p (.bool false),.p (.int .i64 36),.p (.int .i64 38),.vec 8 (wSt 120 121).length 0 (wSt 120 121).length] 4),(8,.vec 122 (cells (wSt 120 121)) (wSt 120 121).length true)] _
    repeat (first|exact HCov.nil|(refine HCov.cons (lt_dec rfl) ?_ rfl ?_ ?_;(first|exact HB.under_of rfl|exact PVs.under_pure _ _|(simp [HB.under,PVs.under,PV.under]));(first|exact HLe.refl _|exact HLe.vec (FLes.refl _) (by simp))))
  have a1:=wSt_succ (a:=80) (b:=i) (by omega)
  have a3:(wSt 80 (i+1)).length=(wSt 80 i).length+1:=by rw [a1];simp
  have a5:=wSt_len 80 i
  repeat' (first|(refine VOpsD.atIdx 11 ?_;apply VOpsD.weak [.tmp 56];decide +kernel;rfl;rfl;(first|exact VOwn.ref rfl|exact VOwn.vec rfl|exact VOwn.eref rfl);decide +kernel;rfl)|apply VWp.assoc|apply VWp.rseq|apply VWp.region|apply VWp.regionD|apply VWp.skipSeq|apply VWp.blockSeq|apply QSeq.normal|apply QBlk.normal|apply VOps.nil|apply VOpsD.nil|apply VOps.one|(apply VOpsD.bar;decide +kernel)|apply VOpsD.quiet|(apply VVal.ofByte3 (l:=(wS i).name);rfl;rfl;rfl;rfl;rfl;decide;omega;omega;exact wnm i)|(apply VVal.append1 (a:=wS i);rfl;rfl;rfl;rfl;rfl;rfl;rfl;rfl;(intro _ h;cases h);rfl;rfl;rfl;decide;decide;(first|omega|(simp only [List.length_take,List.length_drop,List.length_append,List.length_singleton,List.length_cons,List.length_nil]<;>omega)))|(apply VVal.lenQ;rfl;rfl;rfl)|(apply VVal.indexQ (i:=2);rfl;rfl;rfl;rfl;decide)|(apply VVal.fieldQ;rfl;rfl;rfl)|(apply VVal.loadQ;rfl;rfl;rfl;rfl)|(apply VVal.storeQ;rfl;rfl;rfl;trivial;rfl;rfl;decide;(simp only [List.length_cons,List.length_nil]<;>decide))|(apply VVal.assign;rfl)|(apply VVal.move;rfl)|(apply VVal.add64;rfl;rfl;omega)|(apply VVal.sub64;rfl;rfl;omega)|(apply VVal.addB;rfl;rfl;omega)|(apply VVal.remI;rfl;rfl;omega;omega)|(apply VVal.quoI;rfl;rfl;omega;omega)|(apply VVal.int;rfl;rfl;rfl)|(apply VVal.load;rfl;rfl)|(apply VVal.fieldB;rfl;rfl;rfl)|(apply VVal.storeB;rfl;rfl;rfl;trivial;rfl;rfl;exact lt_dec rfl;exact le_dec rfl)|(apply VVal.buildSlice;rfl;rfl;rfl;decide;rfl;rfl;rfl)|(apply VVal.convB;rfl;rfl;rfl;rfl;omega)|(apply VWp.condSeq_dec;rfl)|(intro _;try (exfalso;omega)))
  all_goals try (exfalso;omega)
  refine QLoop.normal ⟨(3,i+1,(wS i).name),.inr ⟨(show 1≤3 by decide),(show 3-1<4 by decide),(show 80<i+1 by omega),(show i+1≤120 by omega),(show i+1≤n by omega)⟩,(show n-(i+1)<n-i by omega),⟨by omega,?_,?_⟩⟩
  ·repeat (first|exact LCov.nil|refine LCov.same trivial rfl ?_|refine LCov.same (lt_dec rfl) rfl ?_|refine LCov.same ⟨trivial,lt_dec rfl,trivial⟩ rfl ?_|refine LCov.same ⟨trivial,lt_dec rfl,lt_dec rfl,trivial⟩ rfl ?_|refine LCov.same ⟨trivial,lt_dec rfl,lt_dec rfl,lt_dec rfl,trivial⟩ rfl ?_|refine LCov.same ⟨trivial,lt_dec rfl,lt_dec rfl,lt_dec rfl,lt_dec rfl,trivial⟩ rfl ?_|refine LCov.same ⟨trivial,trivial⟩ rfl ?_|refine LCov.cons trivial rfl (.of_eq (lst_len (by simp<;>omega))) ?_)
  ·show HCov 9 [(0,.box 37 [.p (.str (bs [79])),.p (.lst 131 (cells (smpRL taL [8] 1)) 1),.vec 4 3 0 3,.p (.lst 147 [] 0)]),(1,.box 37 [.p (.str (bs [])),.p (.val (.slice none 0 0)),.p (.val (.slice none 0 0)),.p (.val (.slice none 0 0))]),(2,.box 97 ((Enc.enc (smpD [smpS 0 8])).map .p)),(3,.box 122 [.p (.str (bs (wS i).name)),.p (.int .i64 8),.p (.int .i64 1),.p (.lst 136 (cells ([⟨36,38,[⟨0,0⟩]⟩]:List Seg)) 1)]),(4,.vecp 97 [.p (.str (bs (nmI 68 0))),.p (.bool false),.p (.int .i64 36),.p (.int .i64 38),.p (lstS (wSt 0 40)),.p (.str (bs (nmI 68 1))),.p (.bool false),.p (.int .i64 36),.p (.int .i64 38),.p (lstS (wSt 40 80)),.p (.str (bs (nmI 68 2))),.p (.bool false),.p (.int .i64 36),.p (.int .i64 38),.vec 7 (wSt 80 (i+1)).length 0 (wSt 80 (i+1)).length] 3),(7,.vec 122 (cells (wSt 80 (i+1))) (wSt 80 (i+1)).length true),(8,.vec 122 (cells ([]:List Stp)) 0 true)] _
   rw [a3,a1]
   repeat (first|exact HCov.nil|(refine HCov.cons (lt_dec rfl) ?_ rfl ?_ ?_;(first|exact HB.under_of rfl|exact PVs.under_pure _ _|(simp [HB.under,PVs.under,PV.under]));(first|exact HLe.refl _|exact HLe.vec (FLes.refl _) (by simp))))
 |4,hI =>
  have hI:120<i∧i≤160∧i≤n:=by rcases hI with h|h<;>omega
  show VWp env _ _ _ [(0,.box 37 [.p (.str (bs [79])),.p (.lst 131 (cells (smpRL taL [8] 1)) 1),.vec 4 4 0 4,.p (.lst 147 [] 0)]),(1,.box 37 [.p (.str (bs [])),.p (.val (.slice none 0 0)),.p (.val (.slice none 0 0)),.p (.val (.slice none 0 0))]),(2,.box 97 ((Enc.enc (smpD [smpS 0 8])).map .p)),(3,.box 122 [.p (.str (bs nm)),.p (.int .i64 8),.p (.int .i64 1),.p (.lst 136 (cells ([⟨36,38,[⟨0,0⟩]⟩]:List Seg)) 1)]),(4,.vecp 97 [.p (.str (bs (nmI 68 0))),.p (.bool false),.p (.int .i64 36),.p (.int .i64 38),.p (lstS (wSt 0 40)),.p (.str (bs (nmI 68 1))),.p (.bool false),.p (.int .i64 36),.p (.int .i64 38),.p (lstS (wSt 40 80)),.p (.str (bs (nmI 68 2))),.p (.bool false),.p (.int .i64 36),.p (.int .i64 38),.p (lstS (wSt 80 120)),.p (.str (bs (nmI 68 3))),.p (.bool false),.p (.int .i64 36),.p (.int .i64 38),.vec 8 (wSt 120 i).length 0 (wSt 120 i).length] 4),(8,.vec 122 (cells (wSt 120 i)) (wSt 120 i).length true)] _ _
  by_cases hn:i=n
  ·subst hn
   have hW:wideO i=⟨[79],smpRL taL [8] 1,[wDv 0 (wSt 0 40),wDv 1 (wSt 40 80),wDv 2 (wSt 80 120),wDv 3 (wSt 120 i)],[]⟩:=by
    unfold wideO wDs
    rw [show (i+39) / 40=4 by omega]
    show (⟨[79],smpRL taL [8] 1,[wD i 0,wD i 1,wD i 2,wD i 3],[]⟩:Org)=_
    unfold wD
    rw [show min i (40*(0+1))=40 by omega,show min i (40*(1+1))=80 by omega,show min i (40*(2+1))=120 by omega,show min i (40*(3+1))=i by omega]
   rw [hW]
   repeat' (first|(refine VWp.at 12 ?_;refine VWp.ghost (((Ghost.freezeCellV 4 19 rfl rfl rfl).trans (Ghost.closeVec 4 (cells ([⟨nmI 68 0,lstS (wSt 0 40)⟩,⟨nmI 68 1,lstS (wSt 40 80)⟩,⟨nmI 68 2,lstS (wSt 80 120)⟩,⟨nmI 68 3,lstS (wSt 120 i)⟩]:List DvX)) rfl (by decide) rfl)).trans (Ghost.freezeCell 0 2 rfl rfl rfl)) ?_;first|apply VWp.rseq|apply VWp.rseqD)|apply VWp.assoc|apply VWp.rseq|apply VWp.exitSeq|apply QSeq.normal|apply QBlk.exit|apply QLoop.exit|apply VWp.ret|apply VOps.nil|apply VOps.one|(apply VVal.move;rfl)|(apply VVal.int;rfl;rfl;rfl)|(apply VVal.load;rfl;rfl)|(apply VVal.storeB;rfl;rfl;rfl;trivial;rfl;rfl;exact lt_dec rfl;exact le_dec rfl)|(apply VWp.condSeq_dec;rfl)|(intro _;try (exfalso;omega)))
   all_goals first|(exfalso;omega)|(refine Done.ret rfl (.refl _) (by first|exact trivial|exact ⟨trivial,trivial,trivial⟩|exact ⟨trivial,trivial,trivial,trivial⟩) HCov.nil (Nat.zero_le _) (Nat.le_refl _) ⟨?_,rfl,rfl⟩;try rfl)
  have a1:=wSt_succ (a:=120) (b:=i) (by omega)
  have a3:(wSt 120 (i+1)).length=(wSt 120 i).length+1:=by rw [a1];simp
  have a5:=wSt_len 120 i
  repeat' (first|(refine VOpsD.atIdx 11 ?_;apply VOpsD.weak [.tmp 56];decide +kernel;rfl;rfl;(first|exact VOwn.ref rfl|exact VOwn.vec rfl|exact VOwn.eref rfl);decide +kernel;rfl)|apply VWp.assoc|apply VWp.rseq|apply VWp.region|apply VWp.regionD|apply VWp.skipSeq|apply VWp.blockSeq|apply QSeq.normal|apply QBlk.normal|apply VOps.nil|apply VOpsD.nil|apply VOps.one|(apply VOpsD.bar;decide +kernel)|apply VOpsD.quiet|(apply VVal.ofByte3 (l:=(wS i).name);rfl;rfl;rfl;rfl;rfl;decide;omega;omega;exact wnm i)|(apply VVal.append1 (a:=wS i);rfl;rfl;rfl;rfl;rfl;rfl;rfl;rfl;(intro _ h;cases h);rfl;rfl;rfl;decide;decide;(first|omega|(simp only [List.length_take,List.length_drop,List.length_append,List.length_singleton,List.length_cons,List.length_nil]<;>omega)))|(apply VVal.lenQ;rfl;rfl;rfl)|(apply VVal.indexQ (i:=3);rfl;rfl;rfl;rfl;decide)|(apply VVal.fieldQ;rfl;rfl;rfl)|(apply VVal.loadQ;rfl;rfl;rfl;rfl)|(apply VVal.storeQ;rfl;rfl;rfl;trivial;rfl;rfl;decide;(simp only [List.length_cons,List.length_nil]<;>decide))|(apply VVal.assign;rfl)|(apply VVal.move;rfl)|(apply VVal.add64;rfl;rfl;omega)|(apply VVal.sub64;rfl;rfl;omega)|(apply VVal.addB;rfl;rfl;omega)|(apply VVal.remI;rfl;rfl;omega;omega)|(apply VVal.quoI;rfl;rfl;omega;omega)|(apply VVal.int;rfl;rfl;rfl)|(apply VVal.load;rfl;rfl)|(apply VVal.fieldB;rfl;rfl;rfl)|(apply VVal.storeB;rfl;rfl;rfl;trivial;rfl;rfl;exact lt_dec rfl;exact le_dec rfl)|(apply VVal.buildSlice;rfl;rfl;rfl;decide;rfl;rfl;rfl)|(apply VVal.convB;rfl;rfl;rfl;rfl;omega)|(apply VWp.condSeq_dec;rfl)|(intro _;try (exfalso;omega)))
  all_goals try (exfalso;omega)
  refine QLoop.normal ⟨(4,i+1,(wS i).name),.inr ⟨(show 1≤4 by decide),(show 4-1<4 by decide),(show 120<i+1 by omega),(show i+1≤160 by omega),(show i+1≤n by omega)⟩,(show n-(i+1)<n-i by omega),⟨by omega,?_,?_⟩⟩
  ·repeat (first|exact LCov.nil|refine LCov.same trivial rfl ?_|refine LCov.same (lt_dec rfl) rfl ?_|refine LCov.same ⟨trivial,lt_dec rfl,trivial⟩ rfl ?_|refine LCov.same ⟨trivial,lt_dec rfl,lt_dec rfl,trivial⟩ rfl ?_|refine LCov.same ⟨trivial,lt_dec rfl,lt_dec rfl,lt_dec rfl,trivial⟩ rfl ?_|refine LCov.same ⟨trivial,lt_dec rfl,lt_dec rfl,lt_dec rfl,lt_dec rfl,trivial⟩ rfl ?_|refine LCov.same ⟨trivial,trivial⟩ rfl ?_|refine LCov.cons trivial rfl (.of_eq (lst_len (by simp<;>omega))) ?_)
  ·show HCov 9 [(0,.box 37 [.p (.str (bs [79])),.p (.lst 131 (cells (smpRL taL [8] 1)) 1),.vec 4 4 0 4,.p (.lst 147 [] 0)]),(1,.box 37 [.p (.str (bs [])),.p (.val (.slice none 0 0)),.p (.val (.slice none 0 0)),.p (.val (.slice none 0 0))]),(2,.box 97 ((Enc.enc (smpD [smpS 0 8])).map .p)),(3,.box 122 [.p (.str (bs (wS i).name)),.p (.int .i64 8),.p (.int .i64 1),.p (.lst 136 (cells ([⟨36,38,[⟨0,0⟩]⟩]:List Seg)) 1)]),(4,.vecp 97 [.p (.str (bs (nmI 68 0))),.p (.bool false),.p (.int .i64 36),.p (.int .i64 38),.p (lstS (wSt 0 40)),.p (.str (bs (nmI 68 1))),.p (.bool false),.p (.int .i64 36),.p (.int .i64 38),.p (lstS (wSt 40 80)),.p (.str (bs (nmI 68 2))),.p (.bool false),.p (.int .i64 36),.p (.int .i64 38),.p (lstS (wSt 80 120)),.p (.str (bs (nmI 68 3))),.p (.bool false),.p (.int .i64 36),.p (.int .i64 38),.vec 8 (wSt 120 (i+1)).length 0 (wSt 120 (i+1)).length] 4),(8,.vec 122 (cells (wSt 120 (i+1))) (wSt 120 (i+1)).length true)] _
   rw [a3,a1]
   repeat (first|exact HCov.nil|(refine HCov.cons (lt_dec rfl) ?_ rfl ?_ ?_;(first|exact HB.under_of rfl|exact PVs.under_pure _ _|(simp [HB.under,PVs.under,PV.under]));(first|exact HLe.refl _|exact HLe.vec (FLes.refl _) (by simp))))
 |D+5,hI=>exfalso;rcases hI with h|h<;>omega
end Go.Proofs.YtdabojnmoejilaaGreatDoor
namespace Go.Proofs.YtdabojnmoejilaaGreatDoor
open Go Go.Am Go.Vm Go.Tra
attribute [local irreducible] VVal VOps VOpsD VWp VCalls VFun VFunV QSeq QBlk QLoop Vm.Done DoneV DoneI
attribute [local irreducible] rchk windsE stoE dvsE cplE shiftR
theorem wide_qst {a b:Nat} (ha:1≤a∧a≤160) (hb:1≤b∧b≤160):qstE ⟨wideO a,fullR (wideO a),wideO b,⟨0,0,0,0⟩⟩=if a>60∨b>120 then 4 else 0:=by
 have k1:=wide_k ha.1 ha.2
 have k2:=wide_k hb.1 hb.2
 have hw:wtsOk ⟨0,0,0,0⟩:=fun i hi=>by
  match i,hi with
  |0,_=>exact ⟨by decide,by decide⟩
  |1,_=>exact ⟨by decide,by decide⟩
  |2,_=>exact ⟨by decide,by decide⟩
  |3,_=>exact ⟨by decide,by decide⟩
 unfold qstE
 rw [if_neg (fun h=>h k1.err),if_neg (fun h=>h fullR_reg),if_neg (fun h=>h k2.err),if_neg (fun h=>h hw)]
 show (if (drawnL (wideO a) (fullR (wideO a))).length>60∨(plcs (wideO b)).length>120 then (4:Int) else 0)=_
 rw [drawnL_full,wide_plcs,wide_plcs]
theorem wrap3:∀ v,v<256→IntKind.u8.wrap (((v:Nat):Int).tdiv 3)=((v / 3:Nat):Int):=by decide +kernel
theorem quo3 {v:Nat} (hv:v<256):vint .quo .u8 (v:Int) 3=some (.int .u8 ((v / 3:Nat):Int)):=by
 show some (FV.int .u8 (IntKind.u8.wrap (((v:Nat):Int).tdiv 3)))=_
 rw [wrap3 v hv]
theorem transferLimits_spec (v:Nat) (hv:v<256):VFun env 7 [.int .u8 (v:Int)] (.p (.bool true)):=by
 have hkn:=known_spec
 have hs:=simple_spec taL [8] rfl (by decide)
 obtain ⟨a,ha⟩:∃ a,a=59+v % 3:=⟨_,rfl⟩
 obtain ⟨b,hb⟩:∃ b,b=119+v / 3 % 3:=⟨_,rfl⟩
 have hw1:=wide_spec a (by omega) (by omega)
 have hw2:=wide_spec b (by omega) (by omega)
 have k1:=wide_k (n:=a) (by omega) (by omega)
 have k2:=wide_k (n:=b) (by omega) (by omega)
 have hf:=fullK_spec (wideO a) k1
 have hc:=tcheck_spec ⟨wideO a,fullR (wideO a),wideO b,⟨0,0,0,0⟩⟩ k1.sm k2.sm (fullR_ok k1)
 rw [wide_qst (by omega) (by omega)] at hc
 have e1:(a:Int)=59+(v:Int) % 3:=by omega
 have e2:(b:Int)=119+((v / 3:Nat):Int) % 3:=by omega
 rw [e1] at hw1
 rw [e2] at hw2
 refine VFun.enter (env_none (by decide)) Tryz.func7 rfl (by kernel_rfl) (by simp [Tryz.ntmps7]) ?_
 by_cases hbig:a>60∨b>120
 all_goals first|rw [if_pos hbig] at hc|rw [if_neg hbig] at hc
 all_goals generalize fullR (wideO a)=r at *
 all_goals generalize wideO a=A at *
 all_goals generalize wideO b=B at *
 all_goals
  repeat' (first|(refine VOps.atOp 15 ?_;refine VOps.ghost (Ghost.trans (Ghost.freeze 13 rfl rfl) (Ghost.freeze 14 rfl rfl)) ?_)|(refine VOps.atOp 18 ?_;refine VOps.ghost (Ghost.trans (Ghost.freeze 16 rfl rfl) (Ghost.freeze 17 rfl rfl)) ?_)|apply VWp.assoc|apply VWp.rseq|apply VWp.skipSeq|apply VWp.ret|apply VOps.nil|apply VOps.one|(apply VOps.take;rfl;rfl)|(apply VOps.drop;rfl;rfl;rfl)|(apply VOps.guard;rfl;rfl)|(apply VVal.fn;rfl;rfl;exact hkn;intro _;rfl)|(apply VVal.fn;rfl;rfl;exact hs;intro _;rfl)|(apply VVal.fn;rfl;rfl;exact hw1;intro _;rfl)|(apply VVal.fn;rfl;rfl;exact hw2;intro _;rfl)|(apply VVal.fn;rfl;rfl;exact hf;intro _;rfl)|(apply VVal.fn;rfl;rfl;exact hc;intro _;rfl)|(apply VVal.int;rfl;rfl;exact quo3 hv)|(apply VVal.assign;rfl)|(apply VVal.move;rfl)|(apply VVal.add64;rfl;rfl;omega)|(apply VVal.remI;rfl;rfl;omega;omega)|(apply VVal.int;rfl;rfl;rfl)|(apply VVal.load;rfl;rfl)|(apply VVal.pick_true;rfl;rfl)|(apply VVal.pick_false;rfl;rfl)|(apply VVal.alloc;rfl)|(apply VVal.storeB;rfl;rfl;rfl;trivial;rfl;rfl;exact lt_dec rfl;exact le_dec rfl)|(apply VVal.build;rfl;rfl;rfl;rfl;rfl)|(apply VVal.buildSlice;rfl;rfl;rfl;decide;rfl;rfl;rfl)|(apply VVal.not;rfl)|(apply VVal.extract;rfl;rfl)|(apply VVal.convI;rfl;rfl;rfl;rfl;omega)|(apply VWp.condSeq_true;rfl)|(apply VWp.condSeq_false;rfl)|(apply VWp.condSeq_dec;rfl)|(intro _;try (exfalso;omega)))
 all_goals try (exfalso;omega)
 all_goals first|((refine Done.ret rfl (.refl _) (by first|exact trivial|exact ⟨trivial,trivial,trivial⟩|exact ⟨trivial,trivial,trivial,trivial⟩) HCov.nil (Nat.zero_le _) (Nat.le_refl _) ⟨?_,rfl,rfl⟩;try rfl);done)|(refine Done.ret rfl (.refl _) (by first|exact trivial|exact ⟨trivial,trivial,trivial⟩|exact ⟨trivial,trivial,trivial,trivial⟩) HCov.nil (Nat.zero_le _) (Nat.le_refl _) ⟨?_,rfl,rfl⟩;refine PV.bool_eq ?_;simp;done)
end Go.Proofs.YtdabojnmoejilaaGreatDoor
namespace Go.Proofs.YtdabojnmoejilaaGreatDoor
open Go Go.Am Go.Vm Go.Tra
attribute [local irreducible] VVal VOps VOpsD VWp VCalls VFun VFunV QSeq QBlk QLoop Vm.Done DoneV DoneI
attribute [local irreducible] rchk windsE stoE dvsE cplE shiftR
def plcD (o:Org) (d s:Nat):List Plc:=plcL (nsO o) d++(List.range s).map fun i=>⟨d,i⟩
def drawnT (o:Org) (rg:Rgs) (k:Nat):List Plc:=((plcs o).take k).filter (drawnB rg)
def shg (F T:Org) (a b:Plc):Int:=(shiftR (stopAt F a).feet (stopAt T b).feet).1
def ShS (F T:Org):Prop:=∀ a b,PlcOk F a→PlcOk T b→-1000≤shg F T a b∧shg F T a b≤1000∧max (shg F T a b) (-shg F T a b)=max (shf F T a b) (-shf F T a b)
end Go.Proofs.YtdabojnmoejilaaGreatDoor
namespace Go.Proofs.YtdabojnmoejilaaGreatDoor
open Go Go.Am Go.Vm
attribute [local irreducible] VVal VOps VOpsD VWp VCalls VFun VFunV QSeq QBlk QLoop Vm.Done DoneV DoneI
def b255 (i:Nat):Nat:=if i=4 then 0 else 255
end Go.Proofs.YtdabojnmoejilaaGreatDoor
namespace Go.Proofs.YtdabojnmoejilaaGreatDoor
open Go Go.Am Go.Vm Go.Tra Go.Hun
attribute [local irreducible] VVal VOps VOpsD VWp VCalls VFun VFunV QSeq QBlk QLoop Vm.Done DoneV DoneI
structure TPl where
 frm:OPl
 tgt:OPl
 bits:Nat→Nat
 w:Nat→Nat
def TPl.enc (x:TPl):List FV:=[.lst 150 (cells x.frm.ranks) x.frm.ranks.length,.lst 75 (cells x.frm.divs) x.frm.divs.length,.lst 153 (cells x.frm.links) x.frm.links.length,
 .lst 150 (cells x.tgt.ranks) x.tgt.ranks.length,.lst 75 (cells x.tgt.divs) x.tgt.divs.length,.lst 153 (cells x.tgt.links) x.tgt.links.length,
 .int .u8 (x.bits 0:Int),.int .u8 (x.bits 1:Int),.int .u8 (x.bits 2:Int),.int .u8 (x.bits 3:Int),.int .u8 (x.bits 4:Int),.int .u8 (x.w 0:Int),.int .u8 (x.w 1:Int),.int .u8 (x.w 2:Int),.int .u8 (x.w 3:Int)]
structure TPl.Ok (x:TPl):Prop where
 frm:x.frm.Ok
 tgt:x.tgt.Ok
 bits:∀ i,x.bits i<256
 w:∀ i,x.w i<256
def tfits (x:TPl):Prop:=fitsP x.frm∧fitsP x.tgt
noncomputable instance (x:TPl):Decidable (tfits x):=Classical.propDecidable _
def mkW (w:Nat→Nat):Wts:=⟨((w 0 % 32:Nat):Int),((w 1 % 8:Nat):Int),((w 2 % 32:Nat):Int),((w 3 % 64:Nat):Int)⟩
noncomputable def mkQ (x:TPl):Qst:=⟨mkO x.frm,drawnR (mkO x.frm) x.bits,mkO x.tgt,mkW x.w⟩
end Go.Proofs.YtdabojnmoejilaaGreatDoor
namespace Go.Proofs.YtdabojnmoejilaaGreatDoor
open Go Go.Am Go.Vm
theorem nat_u8 {n:Int} (h:(Lit.int .u8 n).wf=true):∃ m:Nat,m<256∧n=m:=by
 simp [Lit.wf,IntKind.min,IntKind.max,IntKind.signed,IntKind.bits] at h
 exact ⟨n.toNat,by omega,by omega⟩
section
variable {α β:Type} {R:α→β→Prop} {a b c d e:α} {r:List β}
theorem all2_one (h:All2 R [a] r):∃ x,r=[x]∧R a x:=by
 cases h with|cons h1 t=>cases t;exact ⟨_,rfl,h1⟩
end
end Go.Proofs.YtdabojnmoejilaaGreatDoor
namespace Go.Proofs.YtdabojnmoejilaaGreatDoor
open Go Go.Am Go.Vm
theorem has_u8 {j:Nat} {fs:List FV} (h:HasT Tryz.prog (j+1) 5 fs):∃ n:Nat,fs=[.int .u8 (n:Int)]∧n<256:=by
 simp only [HasT,Tryz.underlying5] at h
 obtain ⟨n,rfl,hn⟩:=h
 obtain ⟨m,q,rfl⟩:=nat_u8 hn
 exact ⟨m,rfl,q⟩
end Go.Proofs.YtdabojnmoejilaaGreatDoor
namespace Go.Proofs.YtdabojnmoejilaaGreatDoor
open Go Go.Am Go.Vm
end Go.Proofs.YtdabojnmoejilaaGreatDoor
namespace Go.Proofs.YtdabojnmoejilaaGreatDoor
open Go Go.Am Go.Vm
end Go.Proofs.YtdabojnmoejilaaGreatDoor
