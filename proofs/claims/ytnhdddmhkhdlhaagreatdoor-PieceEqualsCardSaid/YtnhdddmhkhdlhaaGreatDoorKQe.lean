/-
  Texts of a proof, merged (OrD, OrE, VmG, OrN, TraE, PieA, PieP, Vm31, Vm30, Vm36, Vm32, Vm33, Vm34, Vm37, Vm38, Vm40, Vm41, Vm42, PieB, PieC, PieD, PieE, PieF, OrO, PieG, PieM, OrQd, PieR, PieT, OrKa, Vm43, PieH). Conditions: in each statement.
-/
import Derived.Lib.SlicesCompact
import Derived.Test.YtnhdddmhkhdlhaaGreatDoorKQd
set_option linter.unusedSimpArgs false
set_option linter.unusedVariables false
set_option linter.unusedSectionVars false
set_option maxRecDepth 100000
set_option maxHeartbeats 8000000
namespace Go.Proofs.YtnhdddmhkhdlhaaGreatDoor
open Go Go.Am Go.Vm
attribute [local irreducible] VVal VOps VOpsD VWp VCalls VFun VFunV QSeq QBlk QLoop Vm.Done DoneV DoneI
attribute [local irreducible] rchk windsE
theorem inl_CFC {L:Vm.Frame} {H:Vm.Heap} {nx:Nat} {Q:PV→Vm.Heap→Nat→Prop} {dst:Option Tmp} {ty:TypeId} {pos:String} {af:Array Edge} {gd:Option (Nat×Bool)} {fo:Operand} {args:Array Operand} {aT:Array TypeId} {fs cs xs:List PV} {c:Code}
 (hf:vev env.Γ L fo=some (.clo 82 fs cs)) (ha:evs env.Γ L args.toList=some xs) (hb:Tryz.f82.body=some c) (hn:(fs++xs++cs).length≤Tryz.f82.ntmps)
 (h:VWp env nx c (argFrame 0 (fs++xs++cs)) H nx (DoneI env.P Tryz.f82.results.toList Q)):VVal env true ⟨dst,.call { callee:=.value fo,args:=args,argTypes:=aT },ty,pos,af,gd⟩ L H nx Q:=by
 have h0:(match Tryz.f82.body with|some c=>fnOk env.G Tryz.f82 c|none=>false)=true:=by kernel_rfl
 rw [hb] at h0
 exact VVal.inline rfl hf ha (env_none (by decide)) Tryz.func82 hb h0 hn h
theorem inl_IFC {L:Vm.Frame} {H:Vm.Heap} {nx:Nat} {Q:PV→Vm.Heap→Nat→Prop} {dst:Option Tmp} {ty:TypeId} {pos:String} {af:Array Edge} {gd:Option (Nat×Bool)} {fo:Operand} {args:Array Operand} {aT:Array TypeId} {fs cs xs:List PV} {c:Code}
 (hf:vev env.Γ L fo=some (.clo 102 fs cs)) (ha:evs env.Γ L args.toList=some xs) (hb:Tryz.f102.body=some c) (hn:(fs++xs++cs).length≤Tryz.f102.ntmps)
 (h:VWp env nx c (argFrame 0 (fs++xs++cs)) H nx (DoneI env.P Tryz.f102.results.toList Q)):VVal env true ⟨dst,.call { callee:=.value fo,args:=args,argTypes:=aT },ty,pos,af,gd⟩ L H nx Q:=by
 have h0:(match Tryz.f102.body with|some c=>fnOk env.G Tryz.f102 c|none=>false)=true:=by kernel_rfl
 rw [hb] at h0
 exact VVal.inline rfl hf ha (env_none (by decide)) Tryz.func102 hb h0 hn h
theorem inl_CC1 {L:Vm.Frame} {H:Vm.Heap} {nx:Nat} {Q:PV→Vm.Heap→Nat→Prop} {dst:Option Tmp} {ty:TypeId} {pos:String} {af:Array Edge} {gd:Option (Nat×Bool)} {fo:Operand} {args:Array Operand} {aT:Array TypeId} {fs cs xs:List PV} {c:Code}
 (hf:vev env.Γ L fo=some (.clo 83 fs cs)) (ha:evs env.Γ L args.toList=some xs) (hb:Tryz.f83.body=some c) (hn:(fs++xs++cs).length≤Tryz.f83.ntmps)
 (h:VWp env nx c (argFrame 0 (fs++xs++cs)) H nx (DoneI env.P Tryz.f83.results.toList Q)):VVal env true ⟨dst,.call { callee:=.value fo,args:=args,argTypes:=aT },ty,pos,af,gd⟩ L H nx Q:=by
 have h0:(match Tryz.f83.body with|some c=>fnOk env.G Tryz.f83 c|none=>false)=true:=by kernel_rfl
 rw [hb] at h0
 exact VVal.inline rfl hf ha (env_none (by decide)) Tryz.func83 hb h0 hn h
theorem coupler_spec (ks:List Cps) (l:List Cpl) (hk0:ks.length<1000000) (hl:l.length<1000000) (hn0:∀ i,i<l.length→(gi l i).name.length<1000000):VFun env 49 [.lst 108 (cells ks) ks.length,.lst 129 (cells l) l.length] (.p (.int .i64 (cplE ks l))):=by
 unfold cplE
 refine VFun.enter (env_none (by decide)) Tryz.func49 rfl (by kernel_rfl) (by simp [Tryz.ntmps49]) ?_
 by_cases h0:ks.length>8∨l.length>40
 ·rw [if_pos h0]
  repeat' (first|apply VWp.assoc|apply VWp.rseq|apply VWp.retSeq|apply VOps.nil|apply VOps.one|(apply VOps.take;rfl;rfl)|(apply VOps.drop;rfl;rfl;rfl)|(apply VOps.guard;rfl;rfl)|(apply VVal.assign;rfl)|(apply VVal.move;rfl)|(apply VVal.int;rfl;rfl;rfl)|(apply VVal.pick_true;rfl;rfl)|(apply VVal.pick_false;rfl;rfl)|(apply VVal.lenF;rfl;rfl)|(apply VWp.condSeq_true;rfl)|(apply VWp.condSeq_dec;rfl)|(intro _;try (exfalso;omega)))
  all_goals first|(exfalso;omega)|(refine Done.ret rfl (.refl _) (by first|exact trivial|exact ⟨trivial,trivial,trivial⟩|exact ⟨trivial,trivial,trivial,trivial⟩) HCov.nil (Nat.zero_le _) (Nat.le_refl _) ⟨?_,rfl,rfl⟩;try rfl)
 rw [if_neg h0]
 repeat' (first|apply VWp.assoc|apply VWp.rseq|apply VWp.skipSeq|apply VWp.blockSeq|apply VOps.nil|apply VOps.one|(apply VOps.take;rfl;rfl)|(apply VOps.guard;rfl;rfl)|(apply VVal.assign;rfl)|(apply VVal.move;rfl)|(apply VVal.int;rfl;rfl;rfl)|(apply VVal.pick_false;rfl;rfl)|(apply VVal.lenF;rfl;rfl)|(apply VWp.condSeq_dec;rfl)|(intro _;try (exfalso;omega)))
 all_goals try (exfalso;omega)
 refine VWp.loopQ (fun k:Nat=>[(0,lst 108 ks),(1,lst 129 l),(17,lst 108 ks),(18,.p (.int .i64 (ks.length:Int))),(19,.p (.int .i64 (k:Int)))]) (fun _=>[]) 0 (fun k=>k≤ks.length∧cpsE ks k=cpsE ks 0) (fun k=>ks.length-k) 0 (by omega) ⟨by omega,rfl⟩ ⟨by omega,?_,HCov.nil⟩ ?_
 ·repeat (first|exact LCov.nil|refine LCov.same trivial rfl ?_|refine LCov.same (lt_dec rfl) rfl ?_|refine LCov.same ⟨trivial,lt_dec rfl,trivial⟩ rfl ?_|refine LCov.same ⟨trivial,lt_dec rfl,lt_dec rfl,trivial⟩ rfl ?_|refine LCov.same ⟨trivial,lt_dec rfl,lt_dec rfl,lt_dec rfl,trivial⟩ rfl ?_|refine LCov.same ⟨trivial,lt_dec rfl,lt_dec rfl,lt_dec rfl,lt_dec rfl,trivial⟩ rfl ?_|refine LCov.same ⟨trivial,trivial⟩ rfl ?_|refine LCov.cons trivial rfl (.of_eq (lst_len (by simp<;>omega))) ?_)
 rintro k ⟨hk,hE⟩
 by_cases hkl:k<ks.length
 ·have hc:=cmp_spec (gi ks k).lo (gi ks k).hi
  by_cases h1:cmpE (gi ks k).lo (gi ks k).hi=0
  ·rw [h1] at hc
   repeat' (first|apply VWp.rseq|apply VWp.region|apply VWp.skipSeq|apply VWp.blockSeq|apply QSeq.normal|apply QBlk.normal|apply VWp.skip|apply VOps.nil|apply VOps.one|(apply VVal.fn;rfl;rfl;exact hc;intro _;rfl)|(apply VVal.move;rfl)|(apply VVal.add64;rfl;rfl;omega)|(apply VVal.int;rfl;rfl;rfl)|(apply VVal.indexN;rfl;rfl;rfl;omega;rfl)|(apply VVal.load;rfl;rfl)|(apply VVal.alloc;rfl)|(apply VVal.storeB;rfl;rfl;rfl;trivial;rfl;rfl;exact lt_dec rfl;exact le_dec rfl)|(apply VWp.condSeq_dec;rfl)|(apply VWp.cond_false;rfl)|(intro _;try (exfalso;omega)))
   all_goals try (exfalso;omega)
   all_goals try contradiction
   refine QLoop.normal ⟨k+1,⟨by omega,?_⟩,by omega,⟨by omega,?_,HCov.nil⟩⟩
   ·first|rfl|(refine Eq.trans ?_ hE;symm;(conv=>lhs;rw [cpsE]);rw [if_pos hkl,if_neg (fun h=>h h1)])
   ·repeat (first|exact LCov.nil|refine LCov.same trivial rfl ?_|refine LCov.same (lt_dec rfl) rfl ?_|refine LCov.same ⟨trivial,lt_dec rfl,trivial⟩ rfl ?_|refine LCov.same ⟨trivial,lt_dec rfl,lt_dec rfl,trivial⟩ rfl ?_|refine LCov.same ⟨trivial,lt_dec rfl,lt_dec rfl,lt_dec rfl,trivial⟩ rfl ?_|refine LCov.same ⟨trivial,lt_dec rfl,lt_dec rfl,lt_dec rfl,lt_dec rfl,trivial⟩ rfl ?_|refine LCov.same ⟨trivial,trivial⟩ rfl ?_|refine LCov.cons trivial rfl (.of_eq (lst_len (by simp<;>omega))) ?_)
  ·have e:cpsE ks 0=23:=by rw [← hE,cpsE,if_pos hkl,if_pos h1]
   rw [if_pos (by rw [e];decide),e]
   repeat' (first|apply VWp.rseq|apply VWp.skipSeq|apply VWp.blockSeq|apply QSeq.ret|apply QBlk.ret|apply QLoop.ret|apply VWp.ret|apply VOps.nil|apply VOps.one|(apply VVal.fn;rfl;rfl;exact hc;intro _;rfl)|(apply VVal.assign;rfl)|(apply VVal.int;rfl;rfl;rfl)|(apply VVal.indexN;rfl;rfl;rfl;omega;rfl)|(apply VVal.load;rfl;rfl)|(apply VVal.alloc;rfl)|(apply VVal.storeB;rfl;rfl;rfl;trivial;rfl;rfl;exact lt_dec rfl;exact le_dec rfl)|(apply VWp.condSeq_dec;rfl)|(apply VWp.cond_dec;rfl)|(intro _;try (exfalso;omega)))
   all_goals first|(exfalso;omega)|contradiction|(refine Done.ret rfl (.refl _) (by first|exact trivial|exact ⟨trivial,trivial,trivial⟩|exact ⟨trivial,trivial,trivial,trivial⟩) HCov.nil (Nat.zero_le _) (Nat.le_refl _) ⟨?_,rfl,rfl⟩;try rfl)
 obtain rfl:k=ks.length:=by omega
 have e:cpsE ks 0=0:=by rw [← hE,cpsE,if_neg (by omega)]
 rw [if_neg (fun h=>h e)]
 repeat' (first|apply VWp.assoc|apply VWp.rseq|apply VWp.exitSeq|apply VWp.blockSeq|apply QSeq.normal|apply QBlk.exit|apply QLoop.exit|apply VOps.nil|apply VOps.one|(apply VVal.move;rfl)|(apply VVal.int;rfl;rfl;rfl)|(apply VVal.lenF;rfl;rfl)|(apply VWp.condSeq_dec;rfl)|(intro _;try (exfalso;omega)))
 all_goals try (exfalso;omega)
 refine VWp.loopQ (fun k:Nat=>[(0,lst 108 ks),(1,lst 129 l),(27,lst 129 l),(28,.p (.int .i64 (l.length:Int))),(29,.p (.int .i64 (k:Int)))]) (fun _=>[]) 0 (fun k=>k≤l.length∧cplsE ks.length l k=cplsE ks.length l 0) (fun k=>l.length-k) 0 (by omega) ⟨by omega,rfl⟩ ⟨by omega,?_,HCov.nil⟩ ?_
 ·repeat (first|exact LCov.nil|refine LCov.same trivial rfl ?_|refine LCov.same (lt_dec rfl) rfl ?_|refine LCov.same ⟨trivial,lt_dec rfl,trivial⟩ rfl ?_|refine LCov.same ⟨trivial,lt_dec rfl,lt_dec rfl,trivial⟩ rfl ?_|refine LCov.same ⟨trivial,lt_dec rfl,lt_dec rfl,lt_dec rfl,trivial⟩ rfl ?_|refine LCov.same ⟨trivial,lt_dec rfl,lt_dec rfl,lt_dec rfl,lt_dec rfl,trivial⟩ rfl ?_|refine LCov.same ⟨trivial,trivial⟩ rfl ?_|refine LCov.cons trivial rfl (.of_eq (lst_len (by simp<;>omega))) ?_)
 rintro k ⟨hk,hE⟩
 rw [← hE]
 by_cases hkl:k<l.length
 case neg =>
  rw [cplsE,if_neg hkl]
  repeat' (first|apply VWp.rseq|apply VWp.exitSeq|apply QSeq.normal|apply QBlk.exit|apply QLoop.exit|apply VWp.ret|apply VOps.nil|apply VOps.one|(apply VVal.assign;rfl)|(apply VVal.int;rfl;rfl;rfl)|(apply VWp.condSeq_dec;rfl)|(intro _;try (exfalso;omega)))
  all_goals first|(exfalso;omega)|(refine Done.ret rfl (.refl _) (by first|exact trivial|exact ⟨trivial,trivial,trivial⟩|exact ⟨trivial,trivial,trivial,trivial⟩) HCov.nil (Nat.zero_le _) (Nat.le_refl _) ⟨?_,rfl,rfl⟩;try rfl)
 rw [cplsE,if_pos hkl]
 have hN:=isName_spec (gi l k).name (by have:=hn0 k hkl;omega)
 by_cases h1:nameOk (gi l k).name
 case neg =>
  rw [if_pos h1]
  rw [decide_eq_false h1] at hN
  repeat' (first|apply VWp.rseq|apply VWp.skipSeq|apply VWp.blockSeq|apply QSeq.ret|apply QBlk.ret|apply QLoop.ret|apply VWp.ret|apply VWp.blockQ|apply VOps.nil|apply VOps.one|(apply VVal.fn;rfl;rfl;exact hN;intro _;rfl)|(apply VVal.assign;rfl)|(apply VVal.move;rfl)|(apply VVal.int;rfl;rfl;rfl)|(apply VVal.indexN;rfl;rfl;rfl;omega;rfl)|(apply VVal.load;rfl;rfl)|(apply VVal.fieldB;rfl;rfl;rfl)|(apply VVal.alloc;rfl)|(apply VVal.storeB;rfl;rfl;rfl;trivial;rfl;rfl;exact lt_dec rfl;exact le_dec rfl)|(apply VVal.not;rfl)|(apply VWp.condSeq_dec;rfl)|(apply VWp.cond_true;rfl)|(intro _;try (exfalso;omega)))
  all_goals first|(exfalso;omega)|contradiction|(refine Done.ret rfl (.refl _) (by first|exact trivial|exact ⟨trivial,trivial,trivial⟩|exact ⟨trivial,trivial,trivial,trivial⟩) HCov.nil (Nat.zero_le _) (Nat.le_refl _) ⟨?_,rfl,rfl⟩;try rfl)
 rw [if_neg (fun h=>h h1)]
 rw [decide_eq_true h1] at hN
 have hT:(gi l k).name∈(l.take k).map Cpl.name↔∃ j,j<k∧(gi l j).name=(gi l k).name:=by
  rw [List.mem_map]
  constructor
  ·rintro ⟨a,ha,e⟩
   obtain ⟨j,h1,h2⟩:=mem_gi.1 ha
   rw [List.length_take] at h1
   rw [gi_take (by omega)] at h2
   exact ⟨j,by omega,by rw [h2,e]⟩
  ·rintro ⟨j,hj,e⟩
   exact ⟨gi l j,mem_gi.2 ⟨j,by rw [List.length_take];omega,gi_take hj⟩,e⟩
 repeat' (first|apply VWp.assoc|apply VWp.rseq|apply VWp.skipSeq|apply VWp.blockSeq|apply VWp.blockQ|apply VOps.nil|apply VOps.one|(apply VVal.fn;rfl;rfl;exact hN;intro _;rfl)|(apply inl_CFC;rfl;rfl;rfl;exact le_dec rfl)|(apply inl_IFC;rfl;rfl;rfl;exact le_dec rfl)|(apply VVal.makeFunc;rfl;rfl)|(apply VVal.sliceTo;rfl;rfl;rfl;rfl;rfl;rfl;omega)|(apply VVal.assign;rfl)|(apply VVal.move;rfl)|(apply VVal.int;rfl;rfl;rfl)|(apply VVal.indexN;rfl;rfl;rfl;omega;rfl)|(apply VVal.load;rfl;rfl)|(apply VVal.lenF;rfl;rfl)|(apply VVal.fieldB;rfl;rfl;rfl)|(apply VVal.alloc;rfl)|(apply VVal.storeB;rfl;rfl;rfl;trivial;rfl;rfl;exact lt_dec rfl;exact le_dec rfl)|(apply VVal.not;rfl)|(apply VWp.condSeq_dec;rfl)|(apply VWp.cond_false;rfl)|(intro _;try (exfalso;omega)))
 all_goals try (exfalso;omega)
 all_goals try contradiction
 refine VWp.loopQ (fun j:Nat=>[(0,.p (.lst 129 (cells (l.take k)) k)),(1,.clo 83 [] [.ref 0 0]),(7,.p (.int .i64 (k:Int))),(8,.p (.int .i64 (j:Int)))]) (fun _=>[(0,.box 129 ((Enc.enc (gi l k)).map .p))]) 1 (fun j=>j≤k∧∀ i,i<j→(gi l i).name≠(gi l k).name) (fun j=>k-j) 0 (by omega) ⟨by omega,fun i hi=>by omega⟩ ⟨by omega,?_,?_⟩ ?_
 ·repeat (first|exact LCov.nil|refine LCov.same trivial rfl ?_|refine LCov.same (lt_dec rfl) rfl ?_|refine LCov.same ⟨trivial,lt_dec rfl,trivial⟩ rfl ?_|refine LCov.same ⟨trivial,lt_dec rfl,lt_dec rfl,trivial⟩ rfl ?_|refine LCov.same ⟨trivial,lt_dec rfl,lt_dec rfl,lt_dec rfl,trivial⟩ rfl ?_|refine LCov.same ⟨trivial,lt_dec rfl,lt_dec rfl,lt_dec rfl,lt_dec rfl,trivial⟩ rfl ?_|refine LCov.same ⟨trivial,trivial⟩ rfl ?_|refine LCov.cons trivial rfl (.of_eq (lst_len (by simp<;>omega))) ?_)
 ·repeat (first|exact HCov.nil|(refine HCov.cons (lt_dec rfl) ?_ rfl ?_ ?_;(first|exact trivial|exact PVs.under_pure _ _|(simp [HB.under,PVs.under,PV.under]));(first|exact HLe.refl _|exact HLe.vec (FLes.refl _) (by simp))))
 rintro j ⟨hj,hok⟩
 by_cases hjk:j<k
 ·have hgt:gi (l.take k) j=gi l j:=gi_take hjk
  have hlt:(l.take k).length=k:=by rw [List.length_take];omega
  generalize hg:decide ((gi l j).name=(gi l k).name)=g at *
  have hg2:decide ((gi (l.take k) j).name=(gi l k).name)=g:=by rw [hgt];exact hg
  cases g
  ·repeat' (first|apply VWp.rseq|apply VWp.region|apply VWp.skipSeq|apply VWp.blockSeq|apply QSeq.normal|(apply DoneI.ret;rfl)|apply QBlk.normal|apply VWp.ret|apply VWp.skip|apply VOps.nil|apply VOps.one|(apply inl_CC1;rfl;rfl;rfl;exact le_dec rfl)|(apply VVal.eqSd;rfl;rfl;exact hg2)|(apply VVal.indexN (l:=l.take k) (i:=j);rfl;rfl;rfl;omega;exact hlt)|(apply VVal.assign;rfl)|(apply VVal.move;rfl)|(apply VVal.add64;rfl;rfl;omega)|(apply VVal.int;rfl;rfl;rfl)|(apply VVal.load;rfl;rfl)|(apply VVal.fieldB;rfl;rfl;rfl)|(apply VVal.box;rfl;trivial)|(apply VWp.condSeq_dec;rfl)|(apply VWp.cond_false;rfl)|(intro _;try (exfalso;omega)))
   all_goals try (exfalso;omega)
   refine QLoop.normal ⟨j+1,⟨by omega,fun i hi=>?_⟩,by omega,⟨by omega,?_,?_⟩⟩
   ·rcases Nat.lt_or_ge i j with h|h
    ·exact hok i h
    ·obtain rfl:i=j:=by omega
     exact of_decide_eq_false hg
   ·repeat (first|exact LCov.nil|refine LCov.same trivial rfl ?_|refine LCov.same (lt_dec rfl) rfl ?_|refine LCov.same ⟨trivial,lt_dec rfl,trivial⟩ rfl ?_|refine LCov.same ⟨trivial,lt_dec rfl,lt_dec rfl,trivial⟩ rfl ?_|refine LCov.same ⟨trivial,lt_dec rfl,lt_dec rfl,lt_dec rfl,trivial⟩ rfl ?_|refine LCov.same ⟨trivial,lt_dec rfl,lt_dec rfl,lt_dec rfl,lt_dec rfl,trivial⟩ rfl ?_|refine LCov.same ⟨trivial,trivial⟩ rfl ?_|refine LCov.cons trivial rfl (.of_eq (lst_len (by simp<;>omega))) ?_)
   ·repeat (first|exact HCov.nil|(refine HCov.cons (lt_dec rfl) ?_ rfl ?_ ?_;(first|exact trivial|exact PVs.under_pure _ _|(simp [HB.under,PVs.under,PV.under]));(first|exact HLe.refl _|exact HLe.vec (FLes.refl _) (by simp))))
  ·rw [if_pos (hT.2 ⟨j,hjk,of_decide_eq_true hg⟩)]
   repeat' (first|apply VWp.rseq|apply VWp.skipSeq|apply VWp.blockSeq|apply QSeq.ret|(apply DoneI.ret;rfl)|apply QBlk.ret|apply QLoop.ret|apply VWp.ret|apply VOps.nil|apply VOps.one|(apply inl_CC1;rfl;rfl;rfl;exact le_dec rfl)|(apply VVal.eqSd;rfl;rfl;exact hg2)|(apply VVal.indexN (l:=l.take k) (i:=j);rfl;rfl;rfl;omega;exact hlt)|(apply VVal.assign;rfl)|(apply VVal.move;rfl)|(apply VVal.int;rfl;rfl;rfl)|(apply VVal.load;rfl;rfl)|(apply VVal.fieldB;rfl;rfl;rfl)|(apply VVal.box;rfl;trivial)|(apply VWp.condSeq_dec;rfl)|(apply VWp.cond_true;rfl)|(intro _;try (exfalso;omega)))
   all_goals first|(exfalso;omega)|contradiction|(refine Done.ret rfl (.refl _) (by first|exact trivial|exact ⟨trivial,trivial,trivial⟩|exact ⟨trivial,trivial,trivial,trivial⟩) HCov.nil (Nat.zero_le _) (Nat.le_refl _) ⟨?_,rfl,rfl⟩;try rfl)
 obtain rfl:j=k:=by omega
 rw [if_neg (fun h=>by obtain ⟨i,h1,h2⟩:=hT.1 h;exact hok i h1 h2)]
 repeat' (first|apply VWp.rseq|apply VWp.region|apply VWp.exitSeq|apply QSeq.normal|apply QSeq.ret|(apply DoneI.ret;rfl)|apply QBlk.normal|apply QBlk.ret|apply QBlk.exit|apply QLoop.ret|apply QLoop.exit|apply VWp.ret|apply VWp.skip|apply VOps.nil|apply VOps.one|(apply VOps.take;rfl;rfl)|(apply VOps.drop;rfl;rfl;rfl)|(apply VOps.guard;rfl;rfl)|(apply VVal.assign;rfl)|(apply VVal.move;rfl)|(apply VVal.add64;rfl;rfl;omega)|(apply VVal.int;rfl;rfl;rfl)|(apply VVal.load;rfl;rfl)|(apply VVal.pick_true;rfl;rfl)|(apply VVal.pick_false;rfl;rfl)|(apply VVal.lenF;rfl;rfl)|(apply VVal.fieldB;rfl;rfl;rfl)|(apply VWp.condSeq_dec;rfl)|(apply VWp.cond_true;rfl)|(apply VWp.cond_false;rfl)|(apply VWp.cond_dec;rfl)|(intro _;try (exfalso;omega)))
 all_goals try (exfalso;omega)
 all_goals try contradiction
 all_goals first
  |(rw [if_pos (by omega)];(refine Done.ret rfl (.refl _) (by first|exact trivial|exact ⟨trivial,trivial,trivial⟩|exact ⟨trivial,trivial,trivial,trivial⟩) HCov.nil (Nat.zero_le _) (Nat.le_refl _) ⟨?_,rfl,rfl⟩;try rfl);done)
  |(rw [if_neg (by omega),if_pos (by omega)];(refine Done.ret rfl (.refl _) (by first|exact trivial|exact ⟨trivial,trivial,trivial⟩|exact ⟨trivial,trivial,trivial,trivial⟩) HCov.nil (Nat.zero_le _) (Nat.le_refl _) ⟨?_,rfl,rfl⟩;try rfl);done)
  |(rw [if_neg (by omega),if_neg (by omega),if_pos (by omega)];(refine Done.ret rfl (.refl _) (by first|exact trivial|exact ⟨trivial,trivial,trivial⟩|exact ⟨trivial,trivial,trivial,trivial⟩) HCov.nil (Nat.zero_le _) (Nat.le_refl _) ⟨?_,rfl,rfl⟩;try rfl);done)
  |(rw [if_neg (by omega),if_neg (by omega),if_neg (by omega)]
    refine QLoop.normal ⟨j+1,⟨by omega,?_⟩,by omega,⟨by omega,?_,HCov.nil⟩⟩
    ·first|rfl|(refine Eq.trans ?_ hE;symm;(conv=>lhs;rw [cplsE]);rw [if_pos hkl,if_neg (fun h=>h h1),if_neg (fun h=>by obtain ⟨i,h1,h2⟩:=hT.1 h;exact hok i h1 h2),if_neg (by omega),if_neg (by omega),if_neg (by omega)])
    ·repeat (first|exact LCov.nil|refine LCov.same trivial rfl ?_|refine LCov.same (lt_dec rfl) rfl ?_|refine LCov.same ⟨trivial,lt_dec rfl,trivial⟩ rfl ?_|refine LCov.same ⟨trivial,lt_dec rfl,lt_dec rfl,trivial⟩ rfl ?_|refine LCov.same ⟨trivial,lt_dec rfl,lt_dec rfl,lt_dec rfl,trivial⟩ rfl ?_|refine LCov.same ⟨trivial,lt_dec rfl,lt_dec rfl,lt_dec rfl,lt_dec rfl,trivial⟩ rfl ?_|refine LCov.same ⟨trivial,trivial⟩ rfl ?_|refine LCov.cons trivial rfl (.of_eq (lst_len (by simp<;>omega))) ?_))
end Go.Proofs.YtnhdddmhkhdlhaaGreatDoor
namespace Go.Proofs.YtnhdddmhkhdlhaaGreatDoor
open Go Go.Am Go.Vm
attribute [local irreducible] VVal VOps VOpsD VWp VCalls VFun VFunV QSeq QBlk QLoop Vm.Done DoneV DoneI
attribute [local irreducible] rchk windsE stoE dvsE cplE
theorem names_snoc {α:Type} [Inhabited α] (f:α→List UInt8) {l:List α} {k:Nat} (hk:k<l.length):(l.take (k+1)).map f=(l.take k).map f++[f (gi l k)]:=by
 rw [take_succ_gi hk,List.map_append];rfl
theorem inl_AG {L:Vm.Frame} {H:Vm.Heap} {nx:Nat} {Q:PV→Vm.Heap→Nat→Prop} {dst:Option Tmp} {ty:TypeId} {pos:String} {af:Array Edge} {gd:Option (Nat×Bool)} {fo:Operand} {args:Array Operand} {aT:Array TypeId} {fs cs xs:List PV} {c:Code}
 (hf:vev env.Γ L fo=some (.clo 47 fs cs)) (ha:evs env.Γ L args.toList=some xs) (hb:Tryz.f47.body=some c) (hn:(fs++xs++cs).length≤Tryz.f47.ntmps)
 (h:VWp env nx c (argFrame 0 (fs++xs++cs)) H nx (DoneI env.P Tryz.f47.results.toList Q)):VVal env true ⟨dst,.call { callee:=.value fo,args:=args,argTypes:=aT },ty,pos,af,gd⟩ L H nx Q:=by
 have h0:(match Tryz.f47.body with|some c=>fnOk env.G Tryz.f47 c|none=>false)=true:=by kernel_rfl
 rw [hb] at h0
 exact VVal.inline rfl hf ha (env_none (by decide)) Tryz.func47 hb h0 hn h
theorem division_spec (o:Org) (d:Dvs) (ho:OrgSm o) (hd:DvsSm d):VFun env 48 [.agg (Enc.enc o),.agg (Enc.enc d)] (.p (.int .i64 (dvsE o.ranks d))):=by
 have hc:=cmp_spec d.lo d.hi
 obtain ⟨d1,d2,d3⟩:=hd
 unfold dvsE
 refine VFun.enter (env_none (by decide)) Tryz.func48 rfl (by kernel_rfl) (by simp [Tryz.ntmps48]) ?_
 by_cases h0:cmpE d.lo d.hi=0
 case neg =>
  rw [if_pos h0]
  repeat' (first|apply VWp.assoc|apply VWp.rseq|apply VWp.retSeq|apply VOps.nil|apply VOps.one|(apply VVal.fn;rfl;rfl;exact hc;intro _;rfl)|(apply VVal.assign;rfl)|(apply VVal.move;rfl)|(apply VVal.int;rfl;rfl;rfl)|(apply VVal.load;rfl;rfl)|(apply VVal.fieldB;rfl;rfl;rfl)|(apply VVal.box;rfl;trivial)|(apply VWp.condSeq_dec;rfl)|(intro _;try (exfalso;omega)))
  all_goals first|(exfalso;omega)|(refine Done.ret rfl (.refl _) (by first|exact trivial|exact ⟨trivial,trivial,trivial⟩|exact ⟨trivial,trivial,trivial,trivial⟩) HCov.nil (Nat.zero_le _) (Nat.le_refl _) ⟨?_,rfl,rfl⟩;try rfl)
 rw [h0] at hc ⊢
 rw [if_neg (by decide)]
 repeat' (first|apply VWp.assoc|apply VWp.rseq|apply VWp.skipSeq|apply VWp.retSeq|apply VWp.blockSeq|apply VOps.nil|apply VOps.one|(apply VVal.fn;rfl;rfl;exact hc;intro _;rfl)|(apply VVal.makeMap)|(apply VVal.assign;rfl)|(apply VVal.move;rfl)|(apply VVal.int;rfl;rfl;rfl)|(apply VVal.load;rfl;rfl)|(apply VVal.lenF;rfl;rfl)|(apply VVal.fieldB;rfl;rfl;rfl)|(apply VVal.box;rfl;trivial)|(apply VWp.condSeq_false;rfl)|(apply VWp.condSeq_dec;rfl)|(intro _;try (exfalso;omega)))
 all_goals try contradiction
 ·rw [if_pos (by omega)];(refine Done.ret rfl (.refl _) (by first|exact trivial|exact ⟨trivial,trivial,trivial⟩|exact ⟨trivial,trivial,trivial,trivial⟩) HCov.nil (Nat.zero_le _) (Nat.le_refl _) ⟨?_,rfl,rfl⟩;try rfl)
 rw [if_neg (by omega)]
 refine VWp.loopQ (fun k:Nat=>[(2,.ref 0 0),(3,.ref 1 0),(6,.mref 2),(23,lst 127 d.stops),(24,.p (.int .i64 (d.stops.length:Int))),(25,.p (.int .i64 (k:Int)))]) (fun k=>[(2,.map (setE ((d.stops.take k).map Stp.name))),(1,.box 111 ((Enc.enc d).map .p)),(0,.box 40 ((Enc.enc o).map .p))]) 3 (fun k=>k≤d.stops.length∧stosE o.ranks d.lo d.hi d.stops k=stosE o.ranks d.lo d.hi d.stops 0) (fun k=>d.stops.length-k) 0 (by omega) ⟨by omega,rfl⟩ ⟨by omega,?_,?_⟩ ?_
 ·repeat (first|exact LCov.nil|refine LCov.same trivial rfl ?_|refine LCov.same (lt_dec rfl) rfl ?_|refine LCov.same ⟨trivial,lt_dec rfl,lt_dec rfl,lt_dec rfl,trivial⟩ rfl ?_|refine LCov.same ⟨trivial,lt_dec rfl,lt_dec rfl,trivial⟩ rfl ?_|refine LCov.same ⟨trivial,trivial⟩ rfl ?_|refine LCov.cons trivial rfl (.of_eq (lst_len (by simp<;>omega))) ?_)
 ·repeat (first|exact HCov.nil|(refine HCov.cons (lt_dec rfl) ?_ rfl ?_ ?_;(first|exact trivial|exact PVs.under_pure _ _|(simp [HB.under,PVs.under,PV.under]));(first|exact HLe.refl _|exact HLe.vec (FLes.refl _) (by simp))))
 rintro k ⟨hk,hE⟩
 rw [← hE]
 by_cases hkl:k<d.stops.length
 case neg =>
  rw [stosE,if_neg hkl]
  repeat' (first|apply VWp.rseq|apply VWp.exitSeq|apply QSeq.normal|apply QBlk.exit|apply QLoop.exit|apply VWp.ret|apply VOps.nil|apply VOps.one|(apply VVal.assign;rfl)|(apply VVal.int;rfl;rfl;rfl)|(apply VWp.condSeq_dec;rfl)|(intro _;try (exfalso;omega)))
  all_goals first|(exfalso;omega)|(refine Done.ret rfl (.refl _) (by first|exact trivial|exact ⟨trivial,trivial,trivial⟩|exact ⟨trivial,trivial,trivial,trivial⟩) HCov.nil (Nat.zero_le _) (Nat.le_refl _) ⟨?_,rfl,rfl⟩;try rfl)
 rw [stosE,if_pos hkl]
 have hst:=stop_spec o.ranks d.lo d.hi (gi d.stops k) ho.ranks ho.rk (d3 k hkl)
 by_cases h1:stoE o.ranks d.lo d.hi (gi d.stops k)=0
 case neg =>
  rw [if_pos h1]
  repeat' (first|apply VWp.assoc|apply VWp.rseq|apply VWp.skipSeq|apply VWp.retSeq|apply VWp.blockSeq|apply QSeq.ret|apply QBlk.ret|apply QLoop.ret|apply VOps.nil|apply VOps.one|(apply VVal.fn;rfl;rfl;exact hst;intro _;rfl)|(apply VVal.assign;rfl)|(apply VVal.move;rfl)|(apply VVal.int;rfl;rfl;rfl)|(apply VVal.indexN;rfl;rfl;rfl;omega;rfl)|(apply VVal.load;rfl;rfl)|(apply VVal.fieldB;rfl;rfl;rfl)|(apply VVal.alloc;rfl)|(apply VVal.storeB;rfl;rfl;rfl;trivial;rfl;rfl;exact lt_dec rfl;exact le_dec rfl)|(apply VVal.build;rfl;rfl;rfl;rfl;rfl)|(apply VWp.condSeq_dec;rfl)|(intro _;try (exfalso;omega)))
  all_goals first|(exfalso;omega)|contradiction|(refine Done.ret rfl (.refl _) (by first|exact trivial|exact ⟨trivial,trivial,trivial⟩|exact ⟨trivial,trivial,trivial,trivial⟩) HCov.nil (Nat.zero_le _) (Nat.le_refl _) ⟨?_,rfl,rfl⟩;try rfl)
 rw [h1] at hst ⊢
 rw [if_neg (by decide)]
 by_cases h2:(gi d.stops k).name∈(d.stops.take k).map Stp.name
 ·rw [if_pos h2]
  repeat' (first|apply VWp.assoc|apply VWp.rseq|apply VWp.skipSeq|apply VWp.retSeq|apply VWp.blockSeq|apply QSeq.ret|(apply DoneI.ret;rfl)|apply QBlk.ret|apply QLoop.ret|apply VWp.ret|apply VOps.nil|apply VOps.one|(apply VVal.fn;rfl;rfl;exact hst;intro _;rfl)|(apply inl_AG;rfl;rfl;rfl;exact le_dec rfl)|(apply VVal.lookupSet;rfl;rfl;rfl;rfl;rfl;rfl)|(apply VVal.assign;rfl)|(apply VVal.move;rfl)|(apply VVal.int;rfl;rfl;rfl)|(apply VVal.indexN;rfl;rfl;rfl;omega;rfl)|(apply VVal.load;rfl;rfl)|(apply VVal.fieldB;rfl;rfl;rfl)|(apply VVal.alloc;rfl)|(apply VVal.storeB;rfl;rfl;rfl;trivial;rfl;rfl;exact lt_dec rfl;exact le_dec rfl)|(apply VVal.build;rfl;rfl;rfl;rfl;rfl)|(apply VWp.condSeq_false;rfl)|(apply VWp.condSeq_dec;rfl)|(apply VWp.cond_true;rfl)|(intro _;try (exfalso;omega)))
  all_goals first|(exfalso;omega)|contradiction|(refine Done.ret rfl (.refl _) (by first|exact trivial|exact ⟨trivial,trivial,trivial⟩|exact ⟨trivial,trivial,trivial,trivial⟩) HCov.nil (Nat.zero_le _) (Nat.le_refl _) ⟨?_,rfl,rfl⟩;try rfl)
 ·rw [if_neg h2]
  repeat' (first|apply VWp.assoc|apply VWp.rseq|apply VWp.region|apply VWp.skipSeq|apply VWp.retSeq|apply VWp.blockSeq|apply QSeq.normal|apply QSeq.ret|(apply DoneI.ret;rfl)|apply QBlk.normal|apply QBlk.ret|apply QLoop.ret|apply VWp.ret|apply VWp.skip|apply VOps.nil|apply VOps.one|(apply VVal.fn;rfl;rfl;exact hst;intro _;rfl)|(apply inl_AG;rfl;rfl;rfl;exact le_dec rfl)|(apply VVal.lookupSet;rfl;rfl;rfl;rfl;rfl;rfl)|(apply VVal.addSet;rfl;rfl;rfl;rfl;rfl;rfl;exact h2)|(apply VVal.assign;rfl)|(apply VVal.move;rfl)|(apply VVal.add64;rfl;rfl;omega)|(apply VVal.int;rfl;rfl;rfl)|(apply VVal.indexN;rfl;rfl;rfl;omega;rfl)|(apply VVal.load;rfl;rfl)|(apply VVal.fieldB;rfl;rfl;rfl)|(apply VVal.alloc;rfl)|(apply VVal.storeB;rfl;rfl;rfl;trivial;rfl;rfl;exact lt_dec rfl;exact le_dec rfl)|(apply VVal.build;rfl;rfl;rfl;rfl;rfl)|(apply VWp.condSeq_false;rfl)|(apply VWp.condSeq_dec;rfl)|(apply VWp.cond_true;rfl)|(apply VWp.cond_false;rfl)|(intro _;try (exfalso;omega)))
  all_goals try (exfalso;omega)
  all_goals try contradiction
  refine QLoop.normal ⟨k+1,⟨by omega,?_⟩,by omega,⟨by omega,?_,?_⟩⟩
  ·first|rfl|(refine Eq.trans ?_ hE;symm;(conv=>lhs;rw [stosE]);rw [if_pos hkl,if_neg (fun h=>h h1),if_neg h2])
  ·repeat (first|exact LCov.nil|refine LCov.same trivial rfl ?_|refine LCov.same (lt_dec rfl) rfl ?_|refine LCov.same ⟨trivial,lt_dec rfl,lt_dec rfl,lt_dec rfl,trivial⟩ rfl ?_|refine LCov.same ⟨trivial,lt_dec rfl,lt_dec rfl,trivial⟩ rfl ?_|refine LCov.same ⟨trivial,trivial⟩ rfl ?_|refine LCov.cons trivial rfl (.of_eq (lst_len (by simp<;>omega))) ?_)
  ·rw [names_snoc Stp.name hkl];repeat (first|exact HCov.nil|(refine HCov.cons (lt_dec rfl) ?_ rfl ?_ ?_;(first|exact trivial|exact PVs.under_pure _ _|(simp [HB.under,PVs.under,PV.under]));(first|exact HLe.refl _|exact HLe.vec (FLes.refl _) (by simp))))
theorem ocheck_spec (o:Org) (ho:OrgSm o):VFun env 15 [.agg (Enc.enc o)] (.p (.int .i64 (orgE o))):=by
 have hn:=isName_spec o.name (by have:=ho.name;omega)
 have b1:=ho.ranks
 have b2:=ho.divs
 unfold orgE
 refine VFun.enter (env_none (by decide)) Tryz.func15 rfl (by kernel_rfl) (by simp [Tryz.ntmps15]) ?_
 by_cases h0:nameOk o.name
 case neg =>
  rw [if_pos h0]
  rw [decide_eq_false h0] at hn
  repeat' (first|apply VWp.rseq|apply VWp.blockSeq|apply QSeq.ret|apply QBlk.ret|apply VWp.ret|apply VOps.nil|apply VOps.one|(apply VVal.fn;rfl;rfl;exact hn;intro _;rfl)|(apply VVal.assign;rfl)|(apply VVal.load;rfl;rfl)|(apply VVal.fieldB;rfl;rfl;rfl)|(apply VVal.box;rfl;trivial)|(apply VVal.not;rfl)|(apply VWp.cond_true;rfl))
  all_goals first|(exfalso;omega)|contradiction|(refine Done.ret rfl (.refl _) (by first|exact trivial|exact ⟨trivial,trivial,trivial⟩|exact ⟨trivial,trivial,trivial,trivial⟩) HCov.nil (Nat.zero_le _) (Nat.le_refl _) ⟨?_,rfl,rfl⟩;try rfl)
 rw [if_neg (fun h=>h h0)]
 rw [decide_eq_true h0] at hn
 repeat' (first|apply VWp.assoc|apply VWp.rseq|apply VWp.blockSeq|apply QSeq.normal|apply QSeq.ret|apply QBlk.normal|apply QBlk.ret|apply VWp.ret|apply VWp.skip|apply VOps.nil|apply VOps.one|(apply VVal.fn;rfl;rfl;exact hn;intro _;rfl)|(apply VVal.makeMap)|(apply VVal.assign;rfl)|(apply VVal.move;rfl)|(apply VVal.int;rfl;rfl;rfl)|(apply VVal.load;rfl;rfl)|(apply VVal.lenF;rfl;rfl)|(apply VVal.fieldB;rfl;rfl;rfl)|(apply VVal.box;rfl;trivial)|(apply VVal.not;rfl)|(apply VWp.cond_false;rfl)|(apply VWp.cond_dec;rfl)|(intro _;try (exfalso;omega)))
 all_goals try contradiction
 ·rw [if_pos (by omega)];(refine Done.ret rfl (.refl _) (by first|exact trivial|exact ⟨trivial,trivial,trivial⟩|exact ⟨trivial,trivial,trivial,trivial⟩) HCov.nil (Nat.zero_le _) (Nat.le_refl _) ⟨?_,rfl,rfl⟩;try rfl)
 rw [if_neg (by omega)]
 refine VWp.loopQ (fun k:Nat=>[(1,.ref 0 0),(3,.mref 1),(25,lst 123 o.ranks),(26,.p (.int .i64 (o.ranks.length:Int))),(27,.p (.int .i64 (k:Int)))]) (fun k=>[(1,.map (setE ((o.ranks.take k).map Rnk.name))),(0,.box 40 ((Enc.enc o).map .p))]) 2 (fun k=>k≤o.ranks.length∧rnkE o.ranks k=rnkE o.ranks 0) (fun k=>o.ranks.length-k) 0 (by omega) ⟨by omega,rfl⟩ ⟨by omega,?_,?_⟩ ?_
 ·repeat (first|exact LCov.nil|refine LCov.same trivial rfl ?_|refine LCov.same (lt_dec rfl) rfl ?_|refine LCov.same ⟨trivial,lt_dec rfl,lt_dec rfl,lt_dec rfl,trivial⟩ rfl ?_|refine LCov.same ⟨trivial,lt_dec rfl,lt_dec rfl,trivial⟩ rfl ?_|refine LCov.same ⟨trivial,trivial⟩ rfl ?_|refine LCov.cons trivial rfl (.of_eq (lst_len (by simp<;>omega))) ?_)
 ·repeat (first|exact HCov.nil|(refine HCov.cons (lt_dec rfl) ?_ rfl ?_ ?_;(first|exact trivial|exact PVs.under_pure _ _|(simp [HB.under,PVs.under,PV.under]));(first|exact HLe.refl _|exact HLe.vec (FLes.refl _) (by simp))))
 rintro k ⟨hk,hE⟩
 by_cases hkl:k<o.ranks.length
 ·have hsm:=(ho.rk k hkl).len
  have hc:=rcheck_spec (gi o.ranks k) hsm.1 hsm.2.1 hsm.2.2
  by_cases h1:rchk (gi o.ranks k)=0
  case neg =>
   have e:rnkE o.ranks 0=rchk (gi o.ranks k):=by rw [← hE,rnkE,if_pos hkl,if_pos h1]
   rw [e,if_pos h1]
   repeat' (first|apply VWp.assoc|apply VWp.rseq|apply VWp.skipSeq|apply VWp.retSeq|apply VWp.blockSeq|apply QSeq.ret|apply QBlk.ret|apply QLoop.ret|apply VOps.nil|apply VOps.one|(apply VVal.fn;rfl;rfl;exact hc;intro _;rfl)|(apply VVal.assign;rfl)|(apply VVal.move;rfl)|(apply VVal.int;rfl;rfl;rfl)|(apply VVal.indexN;rfl;rfl;rfl;omega;rfl)|(apply VVal.load;rfl;rfl)|(apply VVal.alloc;rfl)|(apply VVal.storeB;rfl;rfl;rfl;trivial;rfl;rfl;exact lt_dec rfl;exact le_dec rfl)|(apply VWp.condSeq_dec;rfl)|(intro _;try (exfalso;omega)))
   all_goals first|(exfalso;omega)|contradiction|(refine Done.ret rfl (.refl _) (by first|exact trivial|exact ⟨trivial,trivial,trivial⟩|exact ⟨trivial,trivial,trivial,trivial⟩) HCov.nil (Nat.zero_le _) (Nat.le_refl _) ⟨?_,rfl,rfl⟩;try rfl)
  rw [h1] at hc
  by_cases h2:(gi o.ranks k).name∈(o.ranks.take k).map Rnk.name
  ·have e:rnkE o.ranks 0=9:=by rw [← hE,rnkE,if_pos hkl,if_neg (fun h=>h h1),if_pos h2]
   rw [e,if_pos (by decide)]
   repeat' (first|apply VWp.assoc|apply VWp.rseq|apply VWp.skipSeq|apply VWp.retSeq|apply VWp.blockSeq|apply QSeq.ret|(apply DoneI.ret;rfl)|apply QBlk.ret|apply QLoop.ret|apply VWp.ret|apply VOps.nil|apply VOps.one|(apply VVal.fn;rfl;rfl;exact hc;intro _;rfl)|(apply inl_AG;rfl;rfl;rfl;exact le_dec rfl)|(apply VVal.lookupSet;rfl;rfl;rfl;rfl;rfl;rfl)|(apply VVal.assign;rfl)|(apply VVal.move;rfl)|(apply VVal.int;rfl;rfl;rfl)|(apply VVal.indexN;rfl;rfl;rfl;omega;rfl)|(apply VVal.load;rfl;rfl)|(apply VVal.fieldB;rfl;rfl;rfl)|(apply VVal.alloc;rfl)|(apply VVal.storeB;rfl;rfl;rfl;trivial;rfl;rfl;exact lt_dec rfl;exact le_dec rfl)|(apply VWp.condSeq_false;rfl)|(apply VWp.condSeq_dec;rfl)|(apply VWp.cond_true;rfl)|(intro _;try (exfalso;omega)))
   all_goals first|(exfalso;omega)|contradiction|(refine Done.ret rfl (.refl _) (by first|exact trivial|exact ⟨trivial,trivial,trivial⟩|exact ⟨trivial,trivial,trivial,trivial⟩) HCov.nil (Nat.zero_le _) (Nat.le_refl _) ⟨?_,rfl,rfl⟩;try rfl)
  ·repeat' (first|apply VWp.assoc|apply VWp.rseq|apply VWp.region|apply VWp.skipSeq|apply VWp.retSeq|apply VWp.blockSeq|apply QSeq.normal|apply QSeq.ret|(apply DoneI.ret;rfl)|apply QBlk.normal|apply QBlk.ret|apply QLoop.ret|apply VWp.ret|apply VWp.skip|apply VOps.nil|apply VOps.one|(apply VVal.fn;rfl;rfl;exact hc;intro _;rfl)|(apply inl_AG;rfl;rfl;rfl;exact le_dec rfl)|(apply VVal.lookupSet;rfl;rfl;rfl;rfl;rfl;rfl)|(apply VVal.addSet;rfl;rfl;rfl;rfl;rfl;rfl;exact h2)|(apply VVal.assign;rfl)|(apply VVal.move;rfl)|(apply VVal.add64;rfl;rfl;omega)|(apply VVal.int;rfl;rfl;rfl)|(apply VVal.indexN;rfl;rfl;rfl;omega;rfl)|(apply VVal.load;rfl;rfl)|(apply VVal.fieldB;rfl;rfl;rfl)|(apply VVal.alloc;rfl)|(apply VVal.storeB;rfl;rfl;rfl;trivial;rfl;rfl;exact lt_dec rfl;exact le_dec rfl)|(apply VWp.condSeq_false;rfl)|(apply VWp.condSeq_dec;rfl)|(apply VWp.cond_true;rfl)|(apply VWp.cond_false;rfl)|(intro _;try (exfalso;omega)))
   all_goals try (exfalso;omega)
   all_goals try contradiction
   refine QLoop.normal ⟨k+1,⟨by omega,?_⟩,by omega,⟨by omega,?_,?_⟩⟩
   ·first|rfl|(refine Eq.trans ?_ hE;symm;(conv=>lhs;rw [rnkE]);rw [if_pos hkl,if_neg (fun h=>h h1),if_neg h2])
   ·repeat (first|exact LCov.nil|refine LCov.same trivial rfl ?_|refine LCov.same (lt_dec rfl) rfl ?_|refine LCov.same ⟨trivial,lt_dec rfl,lt_dec rfl,lt_dec rfl,trivial⟩ rfl ?_|refine LCov.same ⟨trivial,lt_dec rfl,lt_dec rfl,trivial⟩ rfl ?_|refine LCov.same ⟨trivial,trivial⟩ rfl ?_|refine LCov.cons trivial rfl (.of_eq (lst_len (by simp<;>omega))) ?_)
   ·rw [names_snoc Rnk.name hkl];repeat (first|exact HCov.nil|(refine HCov.cons (lt_dec rfl) ?_ rfl ?_ ?_;(first|exact trivial|exact PVs.under_pure _ _|(simp [HB.under,PVs.under,PV.under]));(first|exact HLe.refl _|exact HLe.vec (FLes.refl _) (by simp))))
 obtain rfl:k=o.ranks.length:=by omega
 have e:rnkE o.ranks 0=0:=by rw [← hE,rnkE,if_neg (by omega)]
 rw [if_neg (fun h=>h e)]
 repeat' (first|apply VWp.assoc|apply VWp.rseq|apply VWp.exitSeq|apply VWp.blockSeq|apply QSeq.normal|apply QSeq.ret|apply QBlk.normal|apply QBlk.ret|apply QBlk.exit|apply QLoop.exit|apply VWp.ret|apply VWp.skip|apply VOps.nil|apply VOps.one|(apply VVal.makeMap)|(apply VVal.assign;rfl)|(apply VVal.move;rfl)|(apply VVal.int;rfl;rfl;rfl)|(apply VVal.load;rfl;rfl)|(apply VVal.lenF;rfl;rfl)|(apply VVal.fieldB;rfl;rfl;rfl)|(apply VWp.condSeq_dec;rfl)|(apply VWp.cond_dec;rfl)|(intro _;try (exfalso;omega)))
 all_goals try (exfalso;omega)
 ·rw [if_pos (by omega)];(refine Done.ret rfl (.refl _) (by first|exact trivial|exact ⟨trivial,trivial,trivial⟩|exact ⟨trivial,trivial,trivial,trivial⟩) HCov.nil (Nat.zero_le _) (Nat.le_refl _) ⟨?_,rfl,rfl⟩;try rfl)
 ·rw [if_neg (by omega),if_pos (by omega)];(refine Done.ret rfl (.refl _) (by first|exact trivial|exact ⟨trivial,trivial,trivial⟩|exact ⟨trivial,trivial,trivial,trivial⟩) HCov.nil (Nat.zero_le _) (Nat.le_refl _) ⟨?_,rfl,rfl⟩;try rfl)
 rw [if_neg (by omega),if_neg (by omega)]
 refine VWp.ghost (Ghost.adopt 8 108 rfl) ?_
 refine VWp.loopQ (fun k:Nat=>[(1,.ref 0 0),(3,.mref 2),(8,.vec 3 ((o.divs.take k).map fun d=>(⟨d.lo,d.hi⟩:Cps)).length 0 ((o.divs.take k).map fun d=>(⟨d.lo,d.hi⟩:Cps)).length),(56,lst 111 o.divs),(57,.p (.int .i64 (o.divs.length:Int))),(58,.p (.int .i64 (k:Int)))]) (fun k=>[(3,.vec 108 (cells ((o.divs.take k).map fun d=>(⟨d.lo,d.hi⟩:Cps))) ((o.divs.take k).map fun d=>(⟨d.lo,d.hi⟩:Cps)).length true),(2,.map (setE ((o.divs.take k).map Dvs.name))),(0,.box 40 ((Enc.enc o).map .p))]) 4 (fun k=>k≤o.divs.length∧divsE o.ranks o.divs k=divsE o.ranks o.divs 0) (fun k=>o.divs.length-k) 0 (by omega) ⟨by omega,rfl⟩ ⟨by omega,?_,?_⟩ ?_
 ·repeat (first|exact LCov.nil|refine LCov.same trivial rfl ?_|refine LCov.same (lt_dec rfl) rfl ?_|refine LCov.same ⟨trivial,lt_dec rfl,lt_dec rfl,lt_dec rfl,trivial⟩ rfl ?_|refine LCov.same ⟨trivial,lt_dec rfl,lt_dec rfl,trivial⟩ rfl ?_|refine LCov.same ⟨trivial,trivial⟩ rfl ?_|refine LCov.cons trivial rfl (.of_eq (lst_len (by simp<;>omega))) ?_)
 ·repeat (first|exact HCov.nil|(refine HCov.cons (lt_dec rfl) ?_ rfl ?_ ?_;(first|exact trivial|exact PVs.under_pure _ _|(simp [HB.under,PVs.under,PV.under]));(first|exact HLe.refl _|exact HLe.vec (FLes.refl _) (by simp))))
 rintro k ⟨hk,hE⟩
 have hlen:((o.divs.take k).map fun d=>(⟨d.lo,d.hi⟩:Cps)).length=k:=by rw [List.length_map,List.length_take];omega
 by_cases hkl:k<o.divs.length
 ·have hds:=ho.dv k hkl
  have hdn:=isName_spec (gi o.divs k).name (by have:=hds.name;omega)
  have hdv:=division_spec o (gi o.divs k) ho hds
  by_cases h1:nameOk (gi o.divs k).name
  case neg =>
   have e2:divsE o.ranks o.divs 0=8:=by rw [← hE,divsE,if_pos hkl,if_pos h1]
   rw [e2,if_pos (by decide)]
   rw [decide_eq_false h1] at hdn
   repeat' (first|apply VWp.assoc|apply VWp.rseq|apply VWp.skipSeq|apply VWp.retSeq|apply VWp.blockSeq|apply QSeq.ret|apply QBlk.ret|apply QLoop.ret|apply VOps.nil|apply VOps.one|(apply VVal.fn;rfl;rfl;exact hdn;intro _;rfl)|(apply VVal.assign;rfl)|(apply VVal.int;rfl;rfl;rfl)|(apply VVal.indexN;rfl;rfl;rfl;omega;rfl)|(apply VVal.load;rfl;rfl)|(apply VVal.fieldB;rfl;rfl;rfl)|(apply VVal.alloc;rfl)|(apply VVal.storeB;rfl;rfl;rfl;trivial;rfl;rfl;exact lt_dec rfl;exact le_dec rfl)|(apply VVal.not;rfl)|(apply VWp.condSeq_true;rfl)|(apply VWp.condSeq_dec;rfl)|(intro _;try (exfalso;omega)))
   all_goals first|(exfalso;omega)|contradiction|(refine Done.ret rfl (.refl _) (by first|exact trivial|exact ⟨trivial,trivial,trivial⟩|exact ⟨trivial,trivial,trivial,trivial⟩) HCov.nil (Nat.zero_le _) (Nat.le_refl _) ⟨?_,rfl,rfl⟩;try rfl)
  rw [decide_eq_true h1] at hdn
  by_cases h2:(gi o.divs k).name∈(o.divs.take k).map Dvs.name
  ·have e2:divsE o.ranks o.divs 0=9:=by rw [← hE,divsE,if_pos hkl,if_neg (fun h=>h h1),if_pos h2]
   rw [e2,if_pos (by decide)]
   repeat' (first|apply VWp.assoc|apply VWp.rseq|apply VWp.skipSeq|apply VWp.retSeq|apply VWp.blockSeq|apply QSeq.ret|(apply DoneI.ret;rfl)|apply QBlk.ret|apply QLoop.ret|apply VOps.nil|apply VOps.one|(apply VVal.fn;rfl;rfl;exact hdn;intro _;rfl)|(apply inl_AG;rfl;rfl;rfl;exact le_dec rfl)|(apply VVal.lookupSet;rfl;rfl;rfl;rfl;rfl;rfl)|(apply VVal.assign;rfl)|(apply VVal.move;rfl)|(apply VVal.int;rfl;rfl;rfl)|(apply VVal.indexN;rfl;rfl;rfl;omega;rfl)|(apply VVal.load;rfl;rfl)|(apply VVal.fieldB;rfl;rfl;rfl)|(apply VVal.alloc;rfl)|(apply VVal.storeB;rfl;rfl;rfl;trivial;rfl;rfl;exact lt_dec rfl;exact le_dec rfl)|(apply VVal.not;rfl)|(apply VWp.condSeq_true;rfl)|(apply VWp.condSeq_false;rfl)|(apply VWp.condSeq_dec;rfl)|(intro _;try (exfalso;omega)))
   all_goals first|(exfalso;omega)|contradiction|(refine Done.ret rfl (.refl _) (by first|exact trivial|exact ⟨trivial,trivial,trivial⟩|exact ⟨trivial,trivial,trivial,trivial⟩) HCov.nil (Nat.zero_le _) (Nat.le_refl _) ⟨?_,rfl,rfl⟩;try rfl)
  by_cases h3:dvsE o.ranks (gi o.divs k)=0
  case neg =>
   have e2:divsE o.ranks o.divs 0=dvsE o.ranks (gi o.divs k):=by rw [← hE,divsE,if_pos hkl,if_neg (fun h=>h h1),if_neg h2,if_pos h3]
   rw [e2,if_pos h3]
   repeat' (first|apply VWp.assoc|apply VWp.rseq|apply VWp.skipSeq|apply VWp.retSeq|apply VWp.blockSeq|apply QSeq.ret|(apply DoneI.ret;rfl)|apply QBlk.ret|apply QLoop.ret|apply VWp.ret|apply VOps.nil|apply VOps.one|(apply VVal.fn;rfl;rfl;exact hdn;intro _;rfl)|(apply VVal.fn;rfl;rfl;exact hdv;intro _;rfl)|(apply inl_AG;rfl;rfl;rfl;exact le_dec rfl)|(apply VVal.lookupSet;rfl;rfl;rfl;rfl;rfl;rfl)|(apply VVal.addSet;rfl;rfl;rfl;rfl;rfl;rfl;exact h2)|(apply VVal.assign;rfl)|(apply VVal.move;rfl)|(apply VVal.int;rfl;rfl;rfl)|(apply VVal.indexN;rfl;rfl;rfl;omega;rfl)|(apply VVal.load;rfl;rfl)|(apply VVal.fieldB;rfl;rfl;rfl)|(apply VVal.alloc;rfl)|(apply VVal.storeB;rfl;rfl;rfl;trivial;rfl;rfl;exact lt_dec rfl;exact le_dec rfl)|(apply VVal.not;rfl)|(apply VWp.condSeq_true;rfl)|(apply VWp.condSeq_false;rfl)|(apply VWp.condSeq_dec;rfl)|(intro _;try (exfalso;omega)))
   all_goals first|(exfalso;omega)|contradiction|(refine Done.ret rfl (.refl _) (by first|exact trivial|exact ⟨trivial,trivial,trivial⟩|exact ⟨trivial,trivial,trivial,trivial⟩) HCov.nil (Nat.zero_le _) (Nat.le_refl _) ⟨?_,rfl,rfl⟩;try rfl)
  rw [h3] at hdv
  have e5:((o.divs.take (k+1)).map fun d=>(⟨d.lo,d.hi⟩:Cps))=((o.divs.take k).map fun d=>(⟨d.lo,d.hi⟩:Cps))++[⟨(gi o.divs k).lo,(gi o.divs k).hi⟩]:=by rw [take_succ_gi hkl,List.map_append];rfl
  have e6:((o.divs.take (k+1)).map fun d=>(⟨d.lo,d.hi⟩:Cps)).length=((o.divs.take k).map fun d=>(⟨d.lo,d.hi⟩:Cps)).length+1:=by rw [e5,List.length_append];rfl
  repeat' (first|apply VWp.assoc|apply VWp.rseq|apply VWp.region|apply VWp.skipSeq|apply VWp.retSeq|apply VWp.blockSeq|apply QSeq.normal|apply QSeq.ret|(apply DoneI.ret;rfl)|apply QBlk.normal|apply QBlk.ret|apply QLoop.ret|apply VWp.ret|apply VOps.nil|apply VOps.one|(apply VVal.fn;rfl;rfl;exact hdn;intro _;rfl)|(apply VVal.fn;rfl;rfl;exact hdv;intro _;rfl)|(apply VVal.append1 (a:=(⟨(gi o.divs k).lo,(gi o.divs k).hi⟩:Cps));rfl;rfl;rfl;rfl;rfl;rfl;rfl;rfl;(intro _ h;cases h);rfl;rfl;rfl;decide;decide;(first|omega|(simp only [List.length_take,List.length_drop,List.length_append,List.length_singleton,List.length_cons,List.length_nil]<;>omega)))|(apply inl_AG;rfl;rfl;rfl;exact le_dec rfl)|(apply VVal.lookupSet;rfl;rfl;rfl;rfl;rfl;rfl)|(apply VVal.addSet;rfl;rfl;rfl;rfl;rfl;rfl;exact h2)|(apply VVal.assign;rfl)|(apply VVal.move;rfl)|(apply VVal.add64;rfl;rfl;omega)|(apply VVal.int;rfl;rfl;rfl)|(apply VVal.indexN;rfl;rfl;rfl;omega;rfl)|(apply VVal.load;rfl;rfl)|(apply VVal.fieldB;rfl;rfl;rfl)|(apply VVal.alloc;rfl)|(apply VVal.storeB;rfl;rfl;rfl;trivial;rfl;rfl;exact lt_dec rfl;exact le_dec rfl)|(apply VVal.buildSlice;rfl;rfl;rfl;decide;rfl;rfl;rfl)|(apply VVal.not;rfl)|(apply VWp.condSeq_true;rfl)|(apply VWp.condSeq_false;rfl)|(apply VWp.condSeq_dec;rfl)|(intro _;try (exfalso;omega)))
  all_goals try (exfalso;omega)
  all_goals try contradiction
  refine QLoop.normal ⟨k+1,⟨by omega,?_⟩,by omega,⟨by omega,?_,?_⟩⟩
  ·first|rfl|(refine Eq.trans ?_ hE;symm;(conv=>lhs;rw [divsE]);rw [if_pos hkl,if_neg (fun h=>h h1),if_neg h2,if_neg (fun h=>h h3)])
  ·rw [e6];repeat (first|exact LCov.nil|refine LCov.same trivial rfl ?_|refine LCov.same (lt_dec rfl) rfl ?_|refine LCov.same ⟨trivial,lt_dec rfl,lt_dec rfl,lt_dec rfl,trivial⟩ rfl ?_|refine LCov.same ⟨trivial,lt_dec rfl,lt_dec rfl,trivial⟩ rfl ?_|refine LCov.same ⟨trivial,trivial⟩ rfl ?_|refine LCov.cons trivial rfl (.of_eq (lst_len (by simp<;>omega))) ?_)
  ·rw [e6,e5,names_snoc Dvs.name hkl];repeat (first|exact HCov.nil|(refine HCov.cons (lt_dec rfl) ?_ rfl ?_ ?_;(first|exact trivial|exact PVs.under_pure _ _|(simp [HB.under,PVs.under,PV.under]));(first|exact HLe.refl _|exact HLe.vec (FLes.refl _) (by simp))))
 obtain rfl:k=o.divs.length:=by omega
 have e2:divsE o.ranks o.divs 0=0:=by rw [← hE,divsE,if_neg (by omega)]
 rw [if_neg (fun h=>h e2)]
 have et:o.divs.take o.divs.length=o.divs:=List.take_of_length_le (Nat.le_refl _)
 have hcp:=coupler_spec (o.divs.map fun d=>(⟨d.lo,d.hi⟩:Cps)) o.cpls (by rw [List.length_map];exact b2) ho.cpls ho.cp
 rw [et]
 repeat' (first|(refine VWp.at 35 ?_;refine VWp.ghost (Ghost.freeze 8 rfl rfl) ?_;first|apply VWp.rseq|apply VWp.rseqD)|apply VWp.rseq|apply VWp.exitSeq|apply QSeq.normal|apply QBlk.exit|apply QLoop.exit|apply VWp.ret|apply VOps.nil|apply VOps.one|(apply VVal.fn;rfl;rfl;exact hcp;intro _;rfl)|(apply VVal.assign;rfl)|(apply VVal.move;rfl)|(apply VVal.int;rfl;rfl;rfl)|(apply VVal.load;rfl;rfl)|(apply VVal.fieldB;rfl;rfl;rfl)|(apply VWp.condSeq_dec;rfl)|(intro _;try (exfalso;omega)))
 all_goals first|(exfalso;omega)|(refine Done.ret rfl (.refl _) (by first|exact trivial|exact ⟨trivial,trivial,trivial⟩|exact ⟨trivial,trivial,trivial,trivial⟩) HCov.nil (Nat.zero_le _) (Nat.le_refl _) ⟨?_,rfl,rfl⟩;try rfl)
end Go.Proofs.YtnhdddmhkhdlhaaGreatDoor
namespace Go.Vm
open Go.Am
variable {E:Env} {bn:Nat} {L:Frame} {H:Heap} {nx:Nat} {Q:AExit→Frame→Heap→Nat→Prop} {b:Code}
theorem LCov.eq {k i:Nat} {v0:PV} {L0:Frame} (hv:lget L i=some v0) (hu:v0.under k) (t:LCov k L0 L):LCov k ((i,v0)::L0) L:=⟨⟨hu,v0,hv,.refl _⟩,t⟩
theorem HCov.eq {k i:Nat} {v0:HB} {L0:Heap} (hv:hget H i=some v0) (hi:i<k) (hu:v0.under k) (t:HCov k L0 H):HCov k ((i,v0)::L0) H:=⟨⟨hi,hu,v0,hv,.refl _⟩,t⟩
mutual
def PV.ub (k:Nat):PV→Bool
 | .p _=>true
 | .agg cs=>PVs.ub k cs
 | .tup cs=>PVs.ub k cs
 | .vec b _ _ _=>Nat.blt b k
 | .ref b _=>Nat.blt b k
 | .eref b _ _=>Nat.blt b k
 | .mref b=>Nat.blt b k
 | .clo _ fs cs=>and (PVs.ub k fs) (PVs.ub k cs)
def PVs.ub (k:Nat):List PV→Bool
 |[]=>true
 |c::cs=>and (PV.ub k c) (PVs.ub k cs)
end
mutual
theorem PV.under_of {k:Nat}:∀ {x:PV},PV.ub k x=true→x.under k
 | .p _,_=>trivial
 | .agg _,h=>PVs.under_of (by simpa [PV.ub] using h)
 | .tup _,h=>PVs.under_of (by simpa [PV.ub] using h)
 | .vec _ _ _ _,h=>lt_dec h
 | .ref _ _,h=>lt_dec h
 | .eref _ _ _,h=>lt_dec h
 | .mref _,h=>lt_dec h
 | .clo _ _ _,h=>by
  simp only [PV.ub,Bool.and_eq_true] at h
  exact ⟨PVs.under_of h.1,PVs.under_of h.2⟩
theorem PVs.under_of {k:Nat}:∀ {x:List PV},PVs.ub k x=true→PVs.under k x
 |[],_=>trivial
 |_::_,h=>by
  simp only [PVs.ub,Bool.and_eq_true] at h
  exact ⟨PV.under_of h.1,PVs.under_of h.2⟩
end
def HB.ub (k:Nat):HB→Bool
 | .box _ cs=>PVs.ub k cs
 | .vecp _ cs _=>PVs.ub k cs
 | .mapp _ cs=>PVs.ub k cs
 |_=>true
theorem HB.under_of {k:Nat} {x:HB} (h:HB.ub k x=true):x.under k:=by
 cases x with
 |box e cs=>exact PVs.under_of h
 |vecp e cs n=>exact PVs.under_of h
 |mapp ks cs=>exact PVs.under_of h
 |vec=>trivial
 |map=>trivial
theorem VWp.loopR (n:Nat) (L0:Frame) (H0:Heap) (Lf:Nat→Frame→Frame) (Hf:Nat→Heap→Heap) (nx0:Nat) (hb:bn≤nx0) (hn:nx0≤nx) (h1:LCov nx0 (Lf 0 L0) L) (h2:HCov nx0 (Hf 0 H0) H)
 (hs:∀ k,k<n→VWp E bn b (Lf k L0) (Hf k H0) nx0 (QLoop (fun L' H' nx'=>nx0≤nx'∧LCov nx0 (Lf (k+1) L0) L'∧HCov nx0 (Hf (k+1) H0) H') Q))
 (he:VWp E bn b (Lf n L0) (Hf n H0) nx0 (QLoop (fun _ _ _=>False) Q)):VWp E bn (.loop b) L H nx Q :=
 VWp.loopQ (fun k=>Lf k L0) (fun k=>Hf k H0) nx0 (fun k=>k≤n) (fun k=>n-k) 0 hb (Nat.zero_le _) ⟨hn,h1,h2⟩ fun k hk=>by
  rcases Nat.lt_or_ge k n with h|h
  ·refine (hs k h).mono fun e L' H' nx' q=>?_
   cases e with
   |normal=>exact ⟨k+1,h,by omega,⟨q.1,q.2.1,q.2.2⟩⟩
   |ret=>exact q
   |exit i=>exact q
  ·obtain rfl:k=n:=by omega
   refine he.mono fun e L' H' nx' q=>?_
   cases e with
   |normal=>exact q.elim
   |ret=>exact q
   |exit i=>exact q
theorem VWp.loopRI (n:Nat) (inv:Nat→Prop) (L0:Frame) (H0:Heap) (Lf:Nat→Frame→Frame) (Hf:Nat→Heap→Heap) (nx0:Nat) (hb:bn≤nx0) (hn:nx0≤nx) (h1:LCov nx0 (Lf 0 L0) L) (h2:HCov nx0 (Hf 0 H0) H) (h0:inv 0)
 (hs:∀ k,k<n→inv k→VWp E bn b (Lf k L0) (Hf k H0) nx0 (QLoop (fun L' H' nx'=>inv (k+1)∧nx0≤nx'∧LCov nx0 (Lf (k+1) L0) L'∧HCov nx0 (Hf (k+1) H0) H') Q))
 (he:inv n→VWp E bn b (Lf n L0) (Hf n H0) nx0 (QLoop (fun _ _ _=>False) Q)):VWp E bn (.loop b) L H nx Q :=
 VWp.loopQ (fun k=>Lf k L0) (fun k=>Hf k H0) nx0 (fun k=>k≤n∧inv k) (fun k=>n-k) 0 hb ⟨Nat.zero_le _,h0⟩ ⟨hn,h1,h2⟩ fun k hk=>by
  obtain ⟨hk,hi⟩:=hk
  rcases Nat.lt_or_ge k n with h|h
  ·refine (hs k h hi).mono fun e L' H' nx' q=>?_
   cases e with
   |normal=>exact ⟨k+1,⟨h,q.1⟩,by omega,⟨q.2.1,q.2.2.1,q.2.2.2⟩⟩
   |ret=>exact q
   |exit i=>exact q
  ·obtain rfl:k=n:=by omega
   refine (he hi).mono fun e L' H' nx' q=>?_
   cases e with
   |normal=>exact q.elim
   |ret=>exact q
   |exit i=>exact q
section
variable {Q:PV→Heap→Nat→Prop} {w:Bool} {dst:Option Tmp} {ty:TypeId} {pos:String} {af:Array Edge} {gd:Option (Nat×Bool)}
theorem vev_lst {Γ:Nat→Option (List Value×TypeId)} {m:Mem} {F:Nat→Prop} {σ:Nat→Value} {t:Tr Value} {x:Operand} {e:TypeId} {cs:List FV} {n:Nat} (hx:Ctx Γ m F σ H nx) (hl:RL m F (htag H) σ nx L t) (h:vev Γ L x=some (.p (.lst e cs n))) :
 ∃ a k g,ev t x=.slice a k g∧(0<n→a.isNone=false):=by
 have:=vev_rel hx hl h
 generalize ev t x=v at this
 cases this with
 |p hr =>
  cases hr with
  |nil=>exact ⟨_,_,_,rfl,fun h=>by omega⟩
  |room=>exact ⟨_,_,_,rfl,fun _=>rfl⟩
  |lst=>exact ⟨_,_,_,rfl,fun _=>rfl⟩
theorem vev_val {Γ:Nat→Option (List Value×TypeId)} {m:Mem} {F:Nat→Prop} {σ:Nat→Value} {t:Tr Value} {y:Operand} {v:Value} (hx:Ctx Γ m F σ H nx) (hl:RL m F (htag H) σ nx L t) (h:vev Γ L y=some (.p (.val v))):ev t y=v:=by
 have:=vev_rel hx hl h
 generalize ev t y=u at this
 cases this with|p hr=>cases hr;rfl
theorem abin_nil {P:Program} {t e':TypeId} {xo yo:Operand} {a:Option Addr} {k g:Nat} (ht:P.underlying t=some (.slice e')):abin P .eql t xo yo (.slice a k g) (.slice none 0 0)=some (.bool a.isNone)∧abin P .neq t xo yo (.slice a k g) (.slice none 0 0)=some (.bool !a.isNone):=by
 simp [abin,ht,aeqNil]
theorem VVal.eqNil {t t2 e e':TypeId} {x y:Operand} {cs:List FV} {n:Nat} (hx:vev E.Γ L x=some (.p (.lst e cs n))) (hy:vev E.Γ L y=some (.p (.val (.slice none 0 0)))) (ht:E.P.underlying t=some (.slice e')) (q:∀ b,(0<n→b=false)→Q (.p (.bool b)) H nx) :
 VVal E w ⟨dst,.binOp .eql t x y t2,ty,pos,af,gd⟩ L H nx Q:=fun m F σ tt h1 h2=>by
 obtain ⟨a,k,g,h3,h4⟩:=vev_lst h1 h2 hx
 have h5:=vev_val h1 h2 hy
 exact AVal.op (v:=.bool a.isNone) (m':=m) (fun _=>by simp only [aval,aop,h3,h5];rw [(abin_nil ht).1];rfl) ⟨_,H,nx,F,σ,q a.isNone h4,h1,.p (.bool _),Step.refl _ _ _ _ _,fun _ k hk _=>hk⟩
theorem VVal.eqNilF {t t2 e e':TypeId} {x y:Operand} {cs:List FV} {n:Nat} (hx:vev E.Γ L x=some (.p (.lst e cs n))) (hy:vev E.Γ L y=some (.p (.val (.slice none 0 0)))) (ht:E.P.underlying t=some (.slice e')) (hn:0<n) (q:Q (.p (.bool false)) H nx) :
 VVal E w ⟨dst,.binOp .eql t x y t2,ty,pos,af,gd⟩ L H nx Q:=VVal.eqNil hx hy ht fun b hb=>by rw [hb hn];exact q
theorem gi_set {α:Type} [Inhabited α] {l:List α} {i j:Nat} {a:α}:gi (l.set i a) j=if i=j∧j<l.length then a else gi l j:=by
 unfold gi
 rw [List.getElem?_set]
 by_cases h:i=j
 ·subst h
  by_cases h2:i<l.length
  ·simp [h2]
  ·simp [h2,List.getElem?_eq_none (by omega:l.length≤i)]
 ·simp [h]
theorem VVal.maskU {t t2:TypeId} {x y:Operand} {n:Nat} (hx:vev E.Γ L x=some (.p (.int .u64 ((2 ^ n:Nat):Int)))) (hy:vev E.Γ L y=some (.p (.int .u64 1))) (hn:n<64) (q:Q (.p (.int .u64 ((2 ^ n-1:Nat):Int))) H nx) :
 VVal E w ⟨dst,.binOp .sub t x y t2,ty,pos,af,gd⟩ L H nx Q :=
 VVal.subUN (a:=2 ^ n) (b:=1) hx hy ⟨Nat.one_le_two_pow,Nat.lt_of_le_of_lt (Nat.pow_le_pow_right (by omega) (show n≤63 by omega)) (by decide)⟩ q
end
theorem all_succ {P:Nat→Prop} {k:Nat} (h:∀ i,i<k→P i) (hk:P k):∀ i,i<k+1→P i:=fun i hi=>by
 rcases Nat.lt_or_ge i k with h1|h1
 ·exact h i h1
 ·obtain rfl:i=k:=by omega
  exact hk
def snocK {α:Type} (f:Nat→α):Nat→List α
 |0=>[]
 |k+1=>snocK f k++[f k]
theorem snocK_len {α:Type} (f:Nat→α):∀ k,(snocK f k).length=k
 |0=>rfl
 |k+1=>by simp [snocK,snocK_len f k]
theorem snocK_at {α:Type} (f:Nat→α):∀ k i,i<k→(snocK f k)[i]?=some (f i)
 |0,i,h=>by omega
 |k+1,i,h=>by
  simp only [snocK]
  rw [List.getElem?_append]
  rw [snocK_len]
  by_cases h2:i<k
  ·rw [if_pos h2];exact snocK_at f k i h2
  ·obtain rfl:i=k:=by omega
   rw [if_neg (by omega)];simp
theorem snocK_gi {α:Type} [Inhabited α] (f:Nat→α) {k i:Nat} (h:i<k):gi (snocK f k) i=f i:=by
 unfold gi;rw [snocK_at f k i h];rfl
def setK {α:Type} (f:Nat→α) (l:List α):Nat→List α
 |0=>l
 |k+1=>(setK f l k).set k (f k)
theorem gi_replicate {α:Type} [Inhabited α] {a:α} {n i:Nat} (h:i<n):gi (List.replicate n a) i=a:=by
 unfold gi;rw [List.getElem?_replicate,if_pos h];rfl
def HUnd (k:Nat):Heap→Bool
 |[]=>true
 |(i,x)::H=>and (and (Nat.blt i k) (HB.ub k x)) (HUnd k H)
theorem HUnder_of {k:Nat}:∀ {H:Heap},HUnd k H=true→HUnder k H
 |[],_=>trivial
 |(_,_)::_,h=>by
  simp only [HUnd,Bool.and_eq_true] at h
  exact ⟨⟨lt_dec h.1.1,HB.under_of h.1.2⟩,HUnder_of h.2⟩
def VRead (E:Env) (g:FuncId) (ac:List PV) (Hc:Heap) (k:Nat) (x:FV):Prop:=VCalls E g ac Hc k fun r H' nx'=>r=.p x∧H'=Hc∧nx'=k
theorem VRead.enter {f:FuncId} {fn:Func} {c:Code} {ac:List PV} {Hc:Heap} {k:Nat} {x:FV} (ho:E.O f=none) (hf:E.P.funcs[f]?=some fn) (hb:fn.body=some c) (hok:fnOk E.G fn c=true) (hn:ac.length≤fn.ntmps)
 (h:VWp E k c (argFrame 0 ac) Hc k (Done E.P fn.results.toList k fun r' H' nx'=>r'=.p x∧H'=Hc∧nx'=k)):VRead E f ac Hc k x:=VCalls.enter ho hf hb hok hn h
theorem VVal.read {Q:PV→Heap→Nat→Prop} {dst:Option Tmp} {ty:TypeId} {pos:String} {af:Array Edge} {gd:Option (Nat×Bool)} {fo:Operand} {args:Array Operand} {aT:Array TypeId} {g:FuncId} {fs cs asW ac:List PV} {Hc:Heap} {x:FV} (ns:List Nat) (hc:VRead E g ac Hc ns.length x)
 (hf:vev E.Γ L fo=some (.clo g fs cs)) (ha:evs E.Γ L args.toList=some asW) (hle:PLes (fs++asW++cs) (PVs.rn (rho ns nx) ac)) (hu:PVs.under ns.length ac) (hHu:HUnder ns.length Hc) (hin:HIn (rho ns nx) H Hc) (hnd:ns.Nodup) (hlt:∀ b∈ns,b<nx)
 (hm:news ns.length (rho ns nx) Hc (merge ns (rho ns nx) Hc H)=H) (q:Q (.p x) H nx) :
 VVal E true ⟨dst,.call { callee:=.value fo,args:=args,argTypes:=aT },ty,pos,af,gd⟩ L H nx Q :=
 VVal.callG hf ha hle hu hHu hin hnd hlt (fun h=>by cases h) hc fun r H' nx' ⟨h1,h2,h3⟩=>by
  subst h1;subst h2;subst h3
  rw [hm,Nat.sub_self]
  exact q
end Go.Vm
namespace Go.Vm
open Go.Am
variable {E:Env} {L:Frame} {H:Heap} {nx:Nat} {Q:PV→Heap→Nat→Prop}
variable {dst:Option Tmp} {ty:TypeId} {pos:String} {af:Array Edge} {gd:Option (Nat×Bool)}
theorem FLes.appR (C:List FV):∀ {p q:List FV},FLes p q→FLes (p++C) (q++C)
 |_,_,.refl _=>.refl _
 |_,_,.cons h t=>.cons h (FLes.appR C t)
theorem FLes.appL:∀ (A:List FV) {p q:List FV},FLes p q→FLes (A++p) (A++q)
 |[],_,_,h=>h
 |a::A,_,_,h=>.cons (.refl a) (FLes.appL A h)
theorem psplice_left {α:Type}:∀ (z p c:List α) (o:Nat),o+z.length≤p.length→psplice (p++c) o z=psplice p o z++c
 |[],_,_,_,_=>rfl
 |x::z,p,c,o,h=>by
  simp only [List.length_cons] at h
  simp only [psplice]
  rw [List.set_append_left _ _ (by omega),psplice_left z (p.set o x) c (o+1) (by rw [List.length_set];omega)]
theorem psplice_field {α:Type} [Enc α] (l:List α) (i f:Nat) (y:α) (fs:List FV) (h:i<l.length) (hf:f+fs.length≤Enc.size α) (hy:FLes (psplice (Enc.enc (gi l i)) f fs) (Enc.enc y)):FLes (psplice (cells l) (i*Enc.size α+f) fs) (cells (l.set i y)):=by
 have h1:l=l.take i++(gi l i::l.drop (i+1)):=by
  have hd:l.drop i=gi l i::l.drop (i+1):=by
   rw [List.drop_eq_getElem_cons h];simp [gi,List.getElem?_eq_getElem h]
  conv=>lhs;rw [← List.take_append_drop i l]
  rw [hd]
 have h2:l.set i y=l.take i++(y::l.drop (i+1)):=by
  conv=>lhs;rw [h1]
  rw [List.set_append_right _ _ (by simp;omega)]
  rw [List.length_take,Nat.min_eq_left (by omega),Nat.sub_self,List.set_cons_zero]
 have h4:cells l=cells (l.take i)++(Enc.enc (gi l i)++cells (l.drop (i+1))):=by
  conv=>lhs;rw [h1,cells_append]
  rfl
 have h3:i*Enc.size α+f=(cells (l.take i)).length+f:=by rw [cells_length,List.length_take,Nat.min_eq_left (by omega)]
 rw [h2,cells_append,h4,h3,psplice_app,psplice_left _ _ _ _ (by rw [Enc.len];exact hf)]
 exact FLes.appL _ (FLes.appR _ hy)
theorem VVal.storeVW {t:TypeId} {a x:Operand} {b tag off:Nat} {e:TypeId} {cs cs' fs:List FV} {z:Bool} {r:PV} {i:TypeInfo} (ha:vev E.Γ L a=some (.eref b tag off)) (hx:vev E.Γ L x=some r) (hb:hget H b=some (.vec e cs tag z)) (hn:notTup r)
 (hf:pcells r=fs.map .p) (hi:E.P.info? t=some i) (hl:fs.length=i.size) (h0:0<i.size) (hle:off+i.size≤cs.length) (hw:FLes (psplice cs off fs) cs') (q:Q (.tup []) (hput H b (.vec e cs' tag z)) nx):VVal E true ⟨dst,.store t a x,ty,pos,af,gd⟩ L H nx Q:=by
 intro m F σ tt h1 h2
 obtain ⟨c,k,g,h3,h4⟩:=vev_eref h1 h2 ha hb
 obtain ⟨h5,h6⟩:=pcells_rel hn (vev_rel h1 h2 hx)
 rw [hf] at h5
 obtain ⟨hlt,hr⟩:=h1.hp b _ hb
 rcases hr with ⟨r1,r2,r3⟩|⟨c',g',vs,r1,r2,r3,r4,r5,r6,r7⟩
 ·rcases r3 with ⟨r3,_⟩|⟨b',o',g',r3,_⟩<;>rw [r3] at h4<;>cases h4
 rw [h4] at r1
 cases r1
 have hlen:=h5.length
 rw [List.length_map] at hlen
 have hlen2:=r5.length
 have hst:astore E.P t ⟨c,off,some g⟩ (ev tt x) m=some (m.put c (.cells (splice vs off (ev tt x).cells.toList) e g false)):=by
  unfold astore storeRow
  rw [hi]
  simp only [r4]
  rw [if_pos (by simpa using hlen.symm.trans hl),if_pos]
  simp only [agen,Option.getD_some,beq_self_eq_true,Bool.true_and,Bool.and_eq_true,decide_eq_true_eq]
  refine ⟨⟨?_,?_⟩,h6⟩
  ·rw [← hlen,hl,← hlen2];exact ⟨trivial,hle⟩
  ·rw [← hlen,hl];exact h0
 have hput':∀ d,c≠d→(m.put c (.cells (splice vs off (ev tt x).cells.toList) e g false)).get d=m.get d:=fun d hd=>by rw [Mem.get_put,if_neg hd]
 obtain ⟨c1,c2⟩:=h1.change (m':=m.put c (.cells (splice vs off (ev tt x).cells.toList) e g false)) (x':=.vec e cs' tag z) (s':=σ b) hb (Nat.le_refl _) (fun _=>rfl) (Nat.le_refl _)
  (fun d _ hd=>hput' d fun e=>hd (by rw [h4,e];rfl)) (fun k k1 k2 k3=>by
   have:=k3 c (by rw [h4];rfl)
   simp only [Mem.put];omega) (fun d hd=>.inl hd) (by
   refine .inr ⟨c,g,splice vs off (ev tt x).cells.toList,h4,r2,r3,by rw [Mem.get_put,if_pos rfl],?_,all_splice _ r6 h6,r7⟩
   exact RFs.le hw ((RFs.splice off r5 (RFs.ofRPs h5)).mono (fun d hd=>⟨hd,hput' d fun e=>r3 (e▸hd)⟩)))
 refine AVal.op (v:=undef) (fun _=>?_) ⟨_,_,_,F,_,q,c1,.tup .nil,c2,fun h=>by cases h⟩
 simp only [aval,aop,h3,hst,Option.map_some]
theorem VVal.storeVF {α:Type} {_:Enc α} {t:TypeId} {a x:Operand} {b n i f:Nat} {e:TypeId} {l:List α} {z:Bool} {r:PV} {fs:List FV} {inf:TypeInfo} (y:α) (ha:vev E.Γ L a=some (.eref b n (i*Enc.size α+f))) (hx:vev E.Γ L x=some r) (hb:hget H b=some (.vec e (cells l) n z)) (hn:notTup r)
 (hf:pcells r=fs.map .p) (hinf:E.P.info? t=some inf) (hl:fs.length=inf.size) (h0:0<inf.size) (hi:i<l.length) (hsz:f+inf.size≤Enc.size α) (hy:FLes (psplice (Enc.enc (gi l i)) f fs) (Enc.enc y)) (q:Q (.tup []) (hput H b (.vec e (cells (l.set i y)) n z)) nx):VVal E true ⟨dst,.store t a x,ty,pos,af,gd⟩ L H nx Q :=
 VVal.storeVW ha hx hb hn hf hinf hl h0 (by
  rw [cells_length]
  have:=Nat.mul_le_mul_right (Enc.size α) hi
  rw [Nat.succ_mul] at this
  omega) (psplice_field l i f y fs hi (by rw [hl];exact hsz) hy) q
end Go.Vm
namespace Go.Proofs.YtnhdddmhkhdlhaaGreatDoor
open Go Go.Am Go.Vm
attribute [local irreducible] VVal VOps VOpsD VWp VCalls VFun VFunV QSeq QBlk QLoop Vm.Done DoneV DoneI
structure Rgs where
 stops:List Nat
 cp:Nat
 off:Nat
instance:Enc Rgs:={ default:=⟨[],0,0⟩,enc:=fun x=>[.lst 68 (cells x.stops) x.stops.length,.int .u64 (x.cp:Int),.int .u64 (x.off:Int)],size:=3,len:=fun _=>rfl }
structure Rgs.Ok (r:Rgs):Prop where
 stops:∀ i,i<r.stops.length→gi r.stops i<18446744073709551616
 cp:r.cp<18446744073709551616
 off:r.off<18446744073709551616
 len:r.stops.length<9223372036854775808
def bitsE (b:Nat→Nat):List FV:=[.int .u8 (b 0:Int),.int .u8 (b 1:Int),.int .u8 (b 2:Int),.int .u8 (b 3:Int),.int .u8 (b 4:Int)]
def drwnF (o:Org) (b:Nat→Nat) (k:Nat):Nat:=b (k % 3) &&& (2 ^ (gi o.divs k).stops.length-1)
def drawnR (o:Org) (b:Nat→Nat):Rgs:=⟨snocK (drwnF o b) o.divs.length,b 3 &&& (2 ^ o.cpls.length-1),b 4 &&& (2 ^ o.divs.length-1)⟩
theorem pow8 {n:Nat} (h:n≤3):2 ^ n≤8:=Nat.pow_le_pow_right (by omega) h
theorem bitsE_at (b:Nat→Nat) (k:Nat):((bitsE b).map PV.p)[0+((k:Int) % 3).toNat*1]?=some (.p (.int .u8 ((b (k % 3):Nat):Int))):=by
 have e0:((k:Int) % 3).toNat=k % 3:=by omega
 rw [e0]
 have:k % 3<3:=Nat.mod_lt _ (by decide)
 generalize k % 3=n at this
 match n,this with
 |0,_=>rfl
 |1,_=>rfl
 |2,_=>rfl
theorem drawn_spec (o:Org) (ho:OrgT o) (b:Nat→Nat) (hb:∀ i,b i<256):VFun env 44 [.agg (Enc.enc o),.agg (bitsE b)] (.p (.agg (Enc.enc (drawnR o b)))):=by
 have r2:=ho.divs
 have r3:=ho.cpls
 have b3:=hb 3
 have b4:=hb 4
 have p3:=pow8 r3
 have p4:=pow8 r2.2
 refine VFun.enter (env_none (by decide)) Tryz.func44 rfl (by kernel_rfl) (by simp [Tryz.ntmps44]) ?_
 repeat' (first|apply VWp.assoc|apply VWp.rseq|apply VWp.blockSeq|apply VOps.nil|apply VOps.one|(apply VVal.maskU;rfl;rfl;omega)|(apply VVal.indexAB;rfl;rfl;rfl;rfl;rfl;decide)|(apply VVal.assign;rfl)|(apply VVal.andU;rfl;rfl;omega;omega)|(apply VVal.load;rfl;rfl)|(apply VVal.lenF;rfl;rfl)|(apply VVal.fieldB;rfl;rfl;rfl)|(apply VVal.box;rfl;trivial)|(apply VVal.alloc;rfl)|(apply VVal.storeB;rfl;rfl;rfl;trivial;rfl;rfl;exact lt_dec rfl;exact le_dec rfl)|(apply VVal.build;rfl;rfl;rfl;rfl;rfl)|(apply VVal.convU;rfl;rfl;rfl;rfl;omega)|(apply VVal.shlOneU;rfl;rfl;omega))
 refine VWp.ghost (Ghost.adoptCell 3 0 68 rfl rfl) ?_
 apply VWp.loopR (o.divs.length) [(2,_),(3,_),(4,_),(5,_)] [(0,_),(1,_),(2,_)] (fun k r=>(6,.p (.int .i64 (k:Int)))::r) (fun k r=>(4,.vec 68 (cells (snocK (drwnF o b) k)) (snocK (drwnF o b) k).length true)::(3,.box 70 [.vec 4 (snocK (drwnF o b) k).length 0 (snocK (drwnF o b) k).length,.p (.int .u64 ((b 3 &&& (2 ^ o.cpls.length-1):Nat):Int)),.p (.int .u64 ((b 4 &&& (2 ^ o.divs.length-1):Nat):Int))])::r) 5
 ·first|omega|decide
 ·first|omega|decide
 ·repeat (first|exact LCov.nil|(refine LCov.eq rfl ?_ ?_;(first|exact PV.under_of rfl|(simp [PV.under,PVs.under];done)))|refine LCov.cons trivial rfl (.of_eq (lst_len (by simp<;>omega))) ?_)
 ·repeat (first|exact HCov.nil|(refine HCov.eq rfl (lt_dec rfl) ?_ ?_;(first|exact HB.under_of rfl|exact PVs.under_pure _ _|(simp [HB.under,PVs.under,PV.under];done)))|(refine HCov.cons (lt_dec rfl) ?_ rfl ?_ ?_;(first|exact trivial|exact PVs.under_pure _ _|(simp [HB.under,PVs.under,PV.under]));(first|exact HLe.refl _|exact HLe.vec (FLes.refl _) (by simp))))
 ·intro k hk
  have hl:=snocK_len (drwnF o b) k
  have e1:snocK (drwnF o b) (k+1)=snocK (drwnF o b) k++[drwnF o b k]:=rfl
  have e2:(snocK (drwnF o b) (k+1)).length=(snocK (drwnF o b) k).length+1:=by rw [e1];simp
  have s3:=ho.stops k hk
  have p1:=pow8 s3
  have hbk:=hb (k % 3)
  have hr:=bitsE_at b k
  repeat' (first|apply VWp.assoc|apply VWp.rseq|apply VWp.region|apply VWp.regionD|apply VWp.skipSeq|apply VWp.blockSeq|apply QSeq.normal|apply QBlk.normal|apply VOps.nil|apply VOpsD.nil|apply VOps.one|(apply VOpsD.bar;decide +kernel)|apply VOpsD.quiet|(apply VVal.maskU;rfl;rfl;omega)|(apply VVal.loadBI;rfl;rfl;rfl;exact hr)|(apply VVal.indexAB;rfl;rfl;rfl;rfl;rfl;omega)|(apply VVal.append1 (a:=drwnF o b k);rfl;rfl;rfl;rfl;rfl;rfl;rfl;rfl;(intro _ h;cases h);rfl;rfl;rfl;decide;decide;(first|omega|(simp only [List.length_take,List.length_drop,List.length_append,List.length_singleton,List.length_cons,List.length_nil]<;>omega)))|(apply VVal.assign;rfl)|(apply VVal.move;rfl)|(apply VVal.add64;rfl;rfl;omega)|(apply VVal.andU;rfl;rfl;omega;omega)|(apply VVal.remI;rfl;rfl;omega;omega)|(apply VVal.int;rfl;rfl;rfl)|(apply VVal.indexN;rfl;rfl;rfl;omega;rfl)|(apply VVal.load;rfl;rfl)|(apply VVal.lenF;rfl;rfl)|(apply VVal.fieldB;rfl;rfl;rfl)|(apply VVal.fieldF;rfl;rfl)|(apply VVal.storeB;rfl;rfl;rfl;trivial;rfl;rfl;exact lt_dec rfl;exact le_dec rfl)|(apply VVal.buildSlice;rfl;rfl;rfl;decide;rfl;rfl;rfl)|(apply VVal.convU;rfl;rfl;rfl;rfl;omega)|(apply VVal.shlOneU;rfl;rfl;omega)|(apply VWp.condSeq_dec;rfl)|(intro _;try (exfalso;omega)))
  all_goals try (exfalso;omega)
  refine QLoop.normal ⟨by first|omega|decide,?_,?_⟩
  ·try (rw [e2,e1])
   repeat (first|exact LCov.nil|refine LCov.same (by exact PV.under_of rfl) rfl ?_|refine LCov.cons trivial rfl (.of_eq (lst_len (by simp<;>omega))) ?_)
  ·rw [e2,e1]
   repeat (first|exact HCov.nil|(refine HCov.cons (lt_dec rfl) ?_ rfl ?_ ?_;(first|exact HB.under_of rfl|exact PVs.under_pure _ _|(simp [HB.under,PVs.under,PV.under]));(first|exact HLe.refl _|exact HLe.vec (FLes.refl _) (by simp))))
 ·have hl:=snocK_len (drwnF o b) o.divs.length
  repeat' (first|(refine VWp.at 6 ?_;refine VWp.ghost (Ghost.freezeCell 3 0 rfl rfl rfl) ?_;first|apply VWp.rseq|apply VWp.rseqD)|apply VWp.assoc|apply VWp.rseq|apply VWp.exitSeq|apply QSeq.normal|apply QBlk.exit|apply QLoop.exit|apply VWp.ret|apply VOps.nil|apply VOps.one|(apply VVal.move;rfl)|(apply VVal.int;rfl;rfl;rfl)|(apply VVal.load;rfl;rfl)|(apply VVal.lenF;rfl;rfl)|(apply VVal.fieldB;rfl;rfl;rfl)|(apply VVal.storeB;rfl;rfl;rfl;trivial;rfl;rfl;exact lt_dec rfl;exact le_dec rfl)|(apply VWp.condSeq_dec;rfl)|(intro _;try (exfalso;omega)))
  all_goals first|(exfalso;omega)|(refine Done.ret rfl (.refl _) (by exact PV.under_of rfl) HCov.nil (Nat.zero_le _) (Nat.le_refl _) ⟨?_,rfl,rfl⟩;try rfl)
noncomputable def regE (o:Org) (r:Rgs):Int :=
 open Classical in
 if r.stops.length≠o.divs.length then 5
 else if ∃ i,i<r.stops.length∧gi r.stops i / 2 ^ (gi o.divs i).stops.length≠0 then 3
 else if r.cp / 2 ^ o.cpls.length≠0∨r.off / 2 ^ o.divs.length≠0 then 3 else 0
theorem regE_len {o:Org} {r:Rgs} (h:r.stops.length≠o.divs.length):regE o r=5:=by unfold regE;rw [if_pos h]
theorem regE_bad {o:Org} {r:Rgs} (h:r.stops.length=o.divs.length) {i:Nat} (hi:i<r.stops.length) (h2:gi r.stops i / 2 ^ (gi o.divs i).stops.length≠0):regE o r=3:=by
 unfold regE;rw [if_neg (fun h'=>h' h),if_pos ⟨i,hi,h2⟩]
theorem regE_rest {o:Org} {r:Rgs} (h:r.stops.length=o.divs.length) (h2:∀ i,i<r.stops.length→gi r.stops i / 2 ^ (gi o.divs i).stops.length=0):regE o r=if r.cp / 2 ^ o.cpls.length≠0∨r.off / 2 ^ o.divs.length≠0 then 3 else 0:=by
 unfold regE;rw [if_neg (fun h'=>h' h),if_neg (fun ⟨i,hi,h3⟩=>h3 (h2 i hi))]
end Go.Proofs.YtnhdddmhkhdlhaaGreatDoor
namespace Go.Proofs.YtnhdddmhkhdlhaaGreatDoor
open Go Go.Am Go.Vm
attribute [local irreducible] rchk windsE
theorem divsE_all {rk:List Rnk} {l:List Dvs}:∀ (n k:Nat),l.length-k=n→divsE rk l k=0→∀ i,k≤i→i<l.length→dvsE rk (gi l i)=0
 |0,k,h,_,i,h1,h2=>by omega
 |n+1,k,h,h0,i,h1,h2=>by
  rw [divsE,if_pos (by omega)] at h0
  split at h0
  ·exact absurd h0 (by decide)
  split at h0
  ·exact absurd h0 (by decide)
  split at h0
  ·rename_i h3;exact absurd h0 h3
  rename_i h3
  rcases Nat.lt_or_ge k i with h4|h4
  ·exact divsE_all n (k+1) (by omega) h0 i h4 h2
  ·obtain rfl:k=i:=by omega
   exact Decidable.byContradiction fun h5=>h3 h5
structure OrgK (o:Org):Prop where
 sm:OrgSm o
 err:orgE o=0
 divs:1≤o.divs.length∧o.divs.length≤8
 cpls:o.cpls.length≤40
 stops:∀ i,i<o.divs.length→(gi o.divs i).stops.length≤60
theorem orgK {o:Org} (hs:OrgSm o) (h:orgE o=0):OrgK o:=by
 have h0:=h
 unfold orgE at h0
 split at h0
 ·exact absurd h0 (by decide)
 split at h0
 ·exact absurd h0 (by decide)
 split at h0
 ·rename_i h1;exact absurd h0 h1
 split at h0
 ·exact absurd h0 (by decide)
 rename_i d1
 split at h0
 ·exact absurd h0 (by decide)
 rename_i d2
 split at h0
 ·rename_i h1;exact absurd h0 h1
 rename_i d3
 have d3:divsE o.ranks o.divs 0=0:=Decidable.byContradiction d3
 unfold cplE at h0
 split at h0
 ·exact absurd h0 (by decide)
 rename_i c1
 refine ⟨hs,h,⟨by omega,by omega⟩,by omega,fun i hi=>?_⟩
 have:=divsE_all _ 0 rfl d3 i (Nat.zero_le _) hi
 unfold dvsE at this
 split at this
 ·rename_i h1;exact absurd this h1
 split at this
 ·exact absurd this (by decide)
 rename_i h2
 omega
theorem OrgT.k {o:Org} (h:OrgT o):OrgK o:=orgK h.sm h.ok
structure StoK (rk:List Rnk) (s:Stp):Prop where
 segs:s.segs.length≤12
 draws:∀ i,i<s.segs.length→(gi s.segs i).draws.length≤8∧∀ j,j<(gi s.segs i).draws.length→0≤(gi (gi s.segs i).draws j).rank∧(gi (gi s.segs i).draws j).rank<rk.length
def toneK (rk:List Rnk) (s:Stp) (n:Nat):Nat→List UInt8
 |0=>[]
 |k+1=>if (gi s.segs (n-(k+1))).draws.length>0 then (gi rk (gi (gi s.segs (n-(k+1))).draws 0).rank.toNat).tone else toneK rk s n k
def toneS (rk:List Rnk) (s:Stp):List UInt8:=toneK rk s s.segs.length s.segs.length
end Go.Proofs.YtnhdddmhkhdlhaaGreatDoor
namespace Go.Proofs.YtnhdddmhkhdlhaaGreatDoor
open Go Go.Am Go.Vm
structure Nte where
 s:Int
 e:Int
 d:Int
 k:Int
deriving DecidableEq
instance:Enc Nte:={ default:=⟨0,0,0,0⟩,enc:=fun x=>[.int .i64 x.s,.int .i64 x.e,.int .i64 x.d,.int .i64 x.k],size:=4,len:=fun _=>rfl }
structure Stg where
 bar:Int
 reg:Rgs
instance:Enc Stg:={ default:=⟨0,default⟩,enc:=fun x=>[.int .i64 x.bar,.lst 68 (cells x.reg.stops) x.reg.stops.length,.int .u64 (x.reg.cp:Int),.int .u64 (x.reg.off:Int)],size:=4,len:=fun _=>rfl }
structure Pce where
 bars:List Int
 notes:List Nte
 sets:List Stg
instance:Enc Pce:={ default:=⟨[],[],[]⟩,enc:=fun x=>[.lst 3 (cells x.bars) x.bars.length,.lst 66 (cells x.notes) x.notes.length,.lst 74 (cells x.sets) x.sets.length],size:=3,len:=fun _=>rfl }
def ovl (a b:Nte):Bool:=decide (a.d=b.d)&&(decide (a.k=b.k)&&(decide (a.s<b.e)&&decide (b.s<a.e)))
def barK (l:List Int) (k:Nat):Int :=
 if k<l.length then if gi l k<0∨gi l k>100000 then 3 else if 0<k∧gi l k≤gi l (k-1) then 6 else barK l (k+1) else 0
termination_by l.length-k
def barsE (l:List Int):Int:=if l.length<2 then 5 else if l.length>201 then 4 else barK l 0
def noteE (o:Org) (a z:Int) (pre:List Nte) (n:Nte):Int :=
 if n.d<0∨n.d≥o.divs.length then 10
 else if n.k<(gi o.divs n.d.toNat).lo∨n.k>(gi o.divs n.d.toNat).hi then 23
 else if n.s<a∨n.e>z then 3
 else if n.s≥n.e then 6
 else if pre.any (fun m=>ovl m n) then 14 else 0
def notesK (o:Org) (a z:Int) (l:List Nte) (k:Nat):Int :=
 if k<l.length then if noteE o a z (l.take k) (gi l k)≠0 then noteE o a z (l.take k) (gi l k) else notesK o a z l (k+1) else 0
termination_by l.length-k
noncomputable def setE (o:Org) (nb:Nat) (l:List Stg) (k:Nat):Int :=
 if (gi l k).bar<0∨(gi l k).bar≥(nb:Int)-1 then 3
 else if 0<k∧(gi l k).bar=(gi l (k-1)).bar then 9
 else if 0<k∧(gi l k).bar<(gi l (k-1)).bar then 6
 else regE o (gi l k).reg
noncomputable def setsK (o:Org) (nb:Nat) (l:List Stg) (k:Nat):Int :=
 if k<l.length then if setE o nb l k≠0 then setE o nb l k else setsK o nb l (k+1) else 0
termination_by l.length-k
def fstB (p:Pce):Int:=gi p.bars 0
def endB (p:Pce):Int:=gi p.bars (p.bars.length-1)
noncomputable def restE (o:Org) (p:Pce):Int :=
 if barsE p.bars≠0 then barsE p.bars else if p.notes.length>1000 then 4 else if notesK o (fstB p) (endB p) p.notes 0≠0 then notesK o (fstB p) (endB p) p.notes 0
 else if p.sets.length>100 then 4 else setsK o p.bars.length p.sets 0
noncomputable def pceE (o:Org) (p:Pce):Int:=if orgE o≠0 then orgE o else restE o p
structure PceSm (p:Pce):Prop where
 bars:p.bars.length<1000000
 notes:p.notes.length<1000000
 sets:p.sets.length<1000000
 reg:∀ i,i<p.sets.length→(gi p.sets i).reg.Ok
theorem barK_at {l:List Int} {k:Nat} (h:k<l.length):barK l k=if gi l k<0∨gi l k>100000 then 3 else if 0<k∧gi l k≤gi l (k-1) then 6 else barK l (k+1):=by
 rw [barK,if_pos h]
theorem barK_end (l:List Int):barK l l.length=0:=by rw [barK,if_neg (Nat.lt_irrefl _)]
theorem notesK_at {o:Org} {a z:Int} {l:List Nte} {k:Nat} (h:k<l.length):notesK o a z l k=if noteE o a z (l.take k) (gi l k)≠0 then noteE o a z (l.take k) (gi l k) else notesK o a z l (k+1):=by
 rw [notesK,if_pos h]
theorem notesK_end (o:Org) (a z:Int) (l:List Nte):notesK o a z l l.length=0:=by rw [notesK,if_neg (Nat.lt_irrefl _)]
theorem setsK_at {o:Org} {nb:Nat} {l:List Stg} {k:Nat} (h:k<l.length):setsK o nb l k=if setE o nb l k≠0 then setE o nb l k else setsK o nb l (k+1):=by
 rw [setsK,if_pos h]
theorem setsK_end (o:Org) (nb:Nat) (l:List Stg):setsK o nb l l.length=0:=by rw [setsK,if_neg (Nat.lt_irrefl _)]
theorem barK_all {l:List Int}:∀ (n k:Nat),l.length-k=n→barK l k=0→∀ i,k≤i→i<l.length→(0≤gi l i∧gi l i≤100000)∧(0<i→gi l (i-1)<gi l i)
 |0,k,h,_,i,h1,h2=>by omega
 |n+1,k,h,h0,i,h1,h2=>by
  rw [barK_at (by omega)] at h0
  split at h0
  ·exact absurd h0 (by decide)
  rename_i h3
  split at h0
  ·exact absurd h0 (by decide)
  rename_i h4
  rcases Nat.lt_or_ge k i with h5|h5
  ·exact barK_all n (k+1) (by omega) h0 i h5 h2
  ·obtain rfl:k=i:=by omega
   exact ⟨by omega,fun h6=>by omega⟩
theorem barK_zero {l:List Int} (h:∀ i,i<l.length→(0≤gi l i∧gi l i≤100000)∧(0<i→gi l (i-1)<gi l i)):∀ (n k:Nat),l.length-k=n→barK l k=0
 |0,k,hk=>by rw [barK,if_neg (by omega)]
 |n+1,k,hk=>by
  obtain ⟨h1,h2⟩:=h k (by omega)
  rw [barK_at (by omega),if_neg (by omega),if_neg (fun ⟨h3,h4⟩=>by have:=h2 h3;omega)]
  exact barK_zero h n (k+1) (by omega)
theorem notesK_all {o:Org} {a z:Int} {l:List Nte}:∀ (n k:Nat),l.length-k=n→notesK o a z l k=0→∀ i,k≤i→i<l.length→noteE o a z (l.take i) (gi l i)=0
 |0,k,h,_,i,h1,h2=>by omega
 |n+1,k,h,h0,i,h1,h2=>by
  rw [notesK_at (by omega)] at h0
  split at h0
  ·rename_i h3;exact absurd h0 h3
  rename_i h3
  rcases Nat.lt_or_ge k i with h5|h5
  ·exact notesK_all n (k+1) (by omega) h0 i h5 h2
  ·obtain rfl:k=i:=by omega
   exact Decidable.byContradiction h3
theorem notesK_zero {o:Org} {a z:Int} {l:List Nte} (h:∀ i,i<l.length→noteE o a z (l.take i) (gi l i)=0):∀ (n k:Nat),l.length-k=n→notesK o a z l k=0
 |0,k,hk=>by rw [notesK,if_neg (by omega)]
 |n+1,k,hk=>by
  rw [notesK_at (by omega),if_neg (fun h'=>h' (h k (by omega)))]
  exact notesK_zero h n (k+1) (by omega)
theorem setsK_all {o:Org} {nb:Nat} {l:List Stg}:∀ (n k:Nat),l.length-k=n→setsK o nb l k=0→∀ i,k≤i→i<l.length→setE o nb l i=0
 |0,k,h,_,i,h1,h2=>by omega
 |n+1,k,h,h0,i,h1,h2=>by
  rw [setsK_at (by omega)] at h0
  split at h0
  ·rename_i h3;exact absurd h0 h3
  rename_i h3
  rcases Nat.lt_or_ge k i with h5|h5
  ·exact setsK_all n (k+1) (by omega) h0 i h5 h2
  ·obtain rfl:k=i:=by omega
   exact Decidable.byContradiction h3
theorem setsK_zero {o:Org} {nb:Nat} {l:List Stg} (h:∀ i,i<l.length→setE o nb l i=0):∀ (n k:Nat),l.length-k=n→setsK o nb l k=0
 |0,k,hk=>by rw [setsK,if_neg (by omega)]
 |n+1,k,hk=>by
  rw [setsK_at (by omega),if_neg (fun h'=>h' (h k (by omega)))]
  exact setsK_zero h n (k+1) (by omega)
structure NteK (o:Org) (p:Pce) (i:Nat):Prop where
 d:0≤(gi p.notes i).d∧(gi p.notes i).d<o.divs.length
 k:(gi o.divs (gi p.notes i).d.toNat).lo≤(gi p.notes i).k∧(gi p.notes i).k≤(gi o.divs (gi p.notes i).d.toNat).hi
 r:fstB p≤(gi p.notes i).s∧(gi p.notes i).s<(gi p.notes i).e∧(gi p.notes i).e≤endB p
 c:∀ j,j<i→ovl (gi p.notes j) (gi p.notes i)=false
structure PceK (o:Org) (p:Pce):Prop where
 sm:PceSm p
 err:restE o p=0
 bars:2≤p.bars.length∧p.bars.length≤201
 bar:∀ i,i<p.bars.length→(0≤gi p.bars i∧gi p.bars i≤100000)∧(0<i→gi p.bars (i-1)<gi p.bars i)
 notes:p.notes.length≤1000
 note:∀ i,i<p.notes.length→NteK o p i
 sets:p.sets.length≤100
 set:∀ i,i<p.sets.length→(0≤(gi p.sets i).bar∧(gi p.sets i).bar<(p.bars.length:Int)-1)∧(0<i→(gi p.sets (i-1)).bar<(gi p.sets i).bar)∧regE o (gi p.sets i).reg=0
theorem any_take {l:List Nte} {f:Nte→Bool} {i:Nat} (hi:i≤l.length):(l.take i).any f=false↔∀ j,j<i→f (gi l j)=false:=by
 rw [List.any_eq_false]
 constructor
 ·intro h j hj
  have:gi l j∈l.take i:=by
   unfold gi
   rw [List.getElem?_eq_getElem (by omega)]
   exact List.mem_take_iff_getElem.2 ⟨j,by omega,rfl⟩
  simpa using h _ this
 ·intro h x hx
  obtain ⟨j,hj,rfl⟩:=List.mem_take_iff_getElem.1 hx
  have:=h j (by omega)
  unfold gi at this
  rw [List.getElem?_eq_getElem (by omega)] at this
  simpa using this
theorem noteE_zero {o:Org} {p:Pce} {i:Nat} (hi:i<p.notes.length):noteE o (fstB p) (endB p) (p.notes.take i) (gi p.notes i)=0↔NteK o p i:=by
 unfold noteE
 constructor
 ·intro h
  split at h
  ·exact absurd h (by decide)
  split at h
  ·exact absurd h (by decide)
  split at h
  ·exact absurd h (by decide)
  split at h
  ·exact absurd h (by decide)
  split at h
  ·exact absurd h (by decide)
  rename_i h1 h2 h3 h4 h5
  exact ⟨by omega,by omega,by omega,(any_take (f:=fun m=>ovl m (gi p.notes i)) (by omega)).1 (by simpa using h5)⟩
 ·rintro ⟨h1,h2,h3,h4⟩
  rw [if_neg (by omega),if_neg (by omega),if_neg (by omega),if_neg (by omega),if_neg]
  rw [(any_take (f:=fun m=>ovl m (gi p.notes i)) (by omega)).2 h4]
  decide
theorem setE_zero {o:Org} {nb:Nat} {l:List Stg} {i:Nat}:setE o nb l i=0↔(0≤(gi l i).bar∧(gi l i).bar<(nb:Int)-1)∧(0<i→(gi l (i-1)).bar<(gi l i).bar)∧regE o (gi l i).reg=0:=by
 unfold setE
 constructor
 ·intro h
  split at h
  ·exact absurd h (by decide)
  split at h
  ·exact absurd h (by decide)
  split at h
  ·exact absurd h (by decide)
  exact ⟨by omega,fun h0=>by omega,h⟩
 ·rintro ⟨h1,h2,h3⟩
  rw [if_neg (by omega),if_neg (fun ⟨h4,h5⟩=>by have:=h2 h4;omega),if_neg (fun ⟨h4,h5⟩=>by have:=h2 h4;omega)]
  exact h3
theorem pceK {o:Org} {p:Pce} (h:PceSm p) (he:restE o p=0):PceK o p:=by
 have h0:=he
 unfold restE at h0
 split at h0
 ·rename_i h1;exact absurd h0 h1
 rename_i h1
 have h1:=Decidable.byContradiction h1
 split at h0
 ·exact absurd h0 (by decide)
 rename_i h2
 split at h0
 ·rename_i h3;exact absurd h0 h3
 rename_i h3
 have h3:=Decidable.byContradiction h3
 split at h0
 ·exact absurd h0 (by decide)
 rename_i h4
 unfold barsE at h1
 split at h1
 ·exact absurd h1 (by decide)
 split at h1
 ·exact absurd h1 (by decide)
 refine ⟨h,he,by omega,fun i hi=>barK_all _ 0 rfl h1 i (Nat.zero_le _) hi,by omega,fun i hi=>(noteE_zero hi).1 (notesK_all _ 0 rfl h3 i (Nat.zero_le _) hi),by omega,fun i hi=>setE_zero.1 (setsK_all _ 0 rfl h0 i (Nat.zero_le _) hi)⟩
theorem pceK_of {o:Org} {p:Pce} (h:PceSm p) (h1:2≤p.bars.length∧p.bars.length≤201) (h2:∀ i,i<p.bars.length→(0≤gi p.bars i∧gi p.bars i≤100000)∧(0<i→gi p.bars (i-1)<gi p.bars i)) (h3:p.notes.length≤1000) (h4:∀ i,i<p.notes.length→NteK o p i) (h5:p.sets.length≤100)
 (h6:∀ i,i<p.sets.length→(0≤(gi p.sets i).bar∧(gi p.sets i).bar<(p.bars.length:Int)-1)∧(0<i→(gi p.sets (i-1)).bar<(gi p.sets i).bar)∧regE o (gi p.sets i).reg=0):PceK o p:=by
 refine pceK h ?_
 unfold restE
 have e1:barsE p.bars=0:=by
  unfold barsE
  rw [if_neg (by omega),if_neg (by omega)]
  exact barK_zero h2 _ 0 rfl
 have e2:notesK o (fstB p) (endB p) p.notes 0=0:=notesK_zero (fun i hi=>(noteE_zero hi).2 (h4 i hi)) _ 0 rfl
 rw [if_neg (fun h=>h e1),if_neg (by omega),if_neg (fun h=>h e2),if_neg (by omega)]
 exact setsK_zero (fun i hi=>setE_zero.2 (h6 i hi)) _ 0 rfl
end Go.Proofs.YtnhdddmhkhdlhaaGreatDoor
namespace Go.Pie
open Go Go.Vm
def upI (P:Nat→Bool) (n:Nat):Nat→Int
 |0=>-1
 |r+1=>if P (n-(r+1))=true then ((n-(r+1):Nat):Int) else upI P n r
def firstI (P:Nat→Bool) (n:Nat):Int:=upI P n n
theorem upI_skip {P:Nat→Bool} {n k:Nat} (hk:k<n) (h:P k=false):upI P n (n-k)=upI P n (n-(k+1)):=by
 obtain ⟨j,hj⟩:∃ j,n-k=j+1:=⟨n-k-1,by omega⟩
 rw [hj]
 have e:n-(j+1)=k:=by omega
 show (if P (n-(j+1))=true then _ else upI P n j)=_
 rw [e,if_neg (by rw [h];decide)]
 congr 1;omega
theorem upI_hit {P:Nat→Bool} {n k:Nat} (hk:k<n) (h:P k=true):upI P n (n-k)=(k:Int):=by
 obtain ⟨j,hj⟩:∃ j,n-k=j+1:=⟨n-k-1,by omega⟩
 rw [hj]
 have e:n-(j+1)=k:=by omega
 show (if P (n-(j+1))=true then _ else upI P n j)=_
 rw [e,if_pos h]
theorem upI_rng (P:Nat→Bool) (n:Nat):∀ r,r≤n→-1≤upI P n r∧upI P n r<(n:Int)
 |0,_=>⟨by simp [upI],by simp only [upI];omega⟩
 |r+1,hr=>by
  unfold upI
  split
  ·omega
  ·exact upI_rng P n r (by omega)
theorem upI_true {P:Nat→Bool} {n:Nat}:∀ r,r≤n→0≤upI P n r→P (upI P n r).toNat=true
 |0,_,h=>by simp [upI] at h
 |r+1,hr,h=>by
  unfold upI at h ⊢
  split
  ·rename_i h1;simpa using h1
  ·rename_i h1
   rw [if_neg h1] at h
   exact upI_true r (by omega) h
theorem upI_some {P:Nat→Bool} {n k:Nat} (hp:P k=true):∀ r,r≤n→n-r≤k→k<n→0≤upI P n r
 |0,_,h1,h2=>by omega
 |r+1,hr,h1,h2=>by
  unfold upI
  split
  ·omega
  ·rename_i h3
   refine upI_some hp r (by omega) ?_ h2
   by_cases e:n-(r+1)=k
   ·rw [e] at h3;exact absurd hp h3
   ·omega
structure Slc where
 s:Int
 e:Int
 notes:List Int
deriving DecidableEq
instance:Inhabited Slc:=⟨⟨0,0,[]⟩⟩
def chgs (a:Int) (S:Int→List Int):Nat→List Int
 |0=>[]
 |n+1=>if n=0∨S (a+n)≠S (a+n-1) then chgs a S n++[a+n] else chgs a S n
def strT (S:Int→List Int) (T:List Int):List Slc:=snocK (fun i=>⟨gi T i,gi T (i+1),S (gi T i)⟩) (T.length-1)
def stepW (S:Int→List Int) (w:List Slc) (t:Int):List Slc :=
 if w.length≠0∧(gi w (w.length-1)).notes=S t then w.set (w.length-1) ⟨(gi w (w.length-1)).s,(gi w (w.length-1)).e+1,(gi w (w.length-1)).notes⟩ else w++[⟨t,t+1,S t⟩]
def lawW (a:Int) (S:Int→List Int):Nat→List Slc
 |0=>[]
 |n+1=>stepW S (lawW a S n) (a+n)
theorem gi_left {α:Type} [Inhabited α] {l r:List α} {i:Nat} (h:i<l.length):gi (l++r) i=gi l i:=by
 unfold gi;rw [List.getElem?_append_left h]
theorem gi_right {α:Type} [Inhabited α] {l:List α} {x:α}:gi (l++[x]) l.length=x:=by
 unfold gi;simp
def Inc (l:List Int):Prop:=l.Pairwise (·<·)
theorem inc_ext:∀ {l r:List Int},Inc l→Inc r→(∀ x,x∈l↔x∈r)→l=r
 |[],[],_,_,_=>rfl
 |[],y::r,_,_,h=>by have:=(h y).2 (by simp);cases this
 |x::l,[],_,_,h=>by have:=(h x).1 (by simp);cases this
 |x::l,y::r,h1,h2,h=>by
  have h1':=List.pairwise_cons.1 h1
  have h2':=List.pairwise_cons.1 h2
  have e:x=y:=by
   have a1:=(h x).1 (by simp)
   have a2:=(h y).2 (by simp)
   rcases List.mem_cons.1 a1 with e|a1
   ·exact e
   rcases List.mem_cons.1 a2 with e|a2
   ·exact e.symm
   have:=h1'.1 y a2
   have:=h2'.1 x a1
   omega
  subst e
  rw [inc_ext h1'.2 h2'.2 fun z=>?_]
  constructor
  ·intro hz
   rcases List.mem_cons.1 ((h z).1 (List.mem_cons_of_mem _ hz)) with e|hz'
   ·subst e;have:=h1'.1 z hz;omega
   ·exact hz'
  ·intro hz
   rcases List.mem_cons.1 ((h z).2 (List.mem_cons_of_mem _ hz)) with e|hz'
   ·subst e;have:=h2'.1 z hz;omega
   ·exact hz'
theorem compact_mem (zs:List Int) (x:Int):x∈Lib.compact zs↔x∈zs:=by
 unfold Lib.compact Lib.compactUpTo
 simp only [List.mem_map,List.mem_filter,List.mem_range]
 constructor
 ·rintro ⟨i,⟨hi,_⟩,rfl⟩
  rw [getElem!_pos zs.toArray i (by simpa using hi)]
  simp
 ·intro hx
  obtain ⟨i,hi,e⟩:=List.mem_iff_getElem.1 hx
  have key:∀ n i,i≤n→∀ hi:i<zs.length,∃ j,(j<zs.length∧Lib.keeps zs.toArray j=true)∧zs.toArray[j]! =zs[i]:=by
   intro n
   induction n with
   |zero =>
    intro i h0 hi
    obtain rfl:i=0:=by omega
    exact ⟨0,⟨hi,rfl⟩,by rw [getElem!_pos zs.toArray 0 (by simpa using hi)];simp⟩
   |succ n ih =>
    intro i h0 hi
    by_cases hk:Lib.keeps zs.toArray i=true
    ·exact ⟨i,⟨hi,hk⟩,by rw [getElem!_pos zs.toArray i (by simpa using hi)];simp⟩
    ·match i,hi,h0,hk with
     |0,_,_,hk=>exact absurd rfl hk
     |i+1,hi,h0,hk =>
      obtain ⟨j,h1,h2⟩:=ih i (by omega) (by omega)
      refine ⟨j,h1,h2.trans ?_⟩
      unfold Lib.keeps at hk
      simp only [Nat.add_sub_cancel] at hk
      rw [getElem!_pos zs.toArray i (by simpa using (by omega:i<zs.length)),getElem!_pos zs.toArray (i+1) (by simpa using hi)] at hk
      simp at hk
      exact hk.symm
  obtain ⟨j,h1,h2⟩:=key i i (Nat.le_refl _) hi
  exact ⟨j,h1,h2.trans e⟩
theorem compact_inc {zs:List Int} (h:zs.Pairwise (·≤·)):Inc (Lib.compact zs):=by
 have hs:∀ i j,i≤j→j<zs.length→zs.toArray[i]!≤zs.toArray[j]!:=fun i j hij hj=>by
  rw [getElem!_pos zs.toArray i (by simp;omega),getElem!_pos zs.toArray j (by simpa using hj)]
  rcases Nat.lt_or_ge i j with h'|h'
  ·simpa using List.pairwise_iff_getElem.1 h i j (by omega) hj h'
  ·obtain rfl:i=j:=by omega
   exact Int.le_refl _
 have key:∀ m,m≤zs.length→Inc (Lib.compactUpTo zs.toArray m)∧∀ x,x∈Lib.compactUpTo zs.toArray m→∃ j,j<m∧x=zs.toArray[j]!:=by
  intro m
  induction m with
  |zero=>intro _;exact ⟨List.Pairwise.nil,fun x hx=>by cases hx⟩
  |succ m ih =>
   intro hm
   obtain ⟨i1,i2⟩:=ih (by omega)
   rw [Lib.compactUpTo_succ]
   by_cases hk:Lib.keeps zs.toArray m=true
   ·rw [if_pos hk]
    refine ⟨List.pairwise_append.2 ⟨i1,List.pairwise_singleton _ _,fun x hx y hy=>?_⟩,fun x hx=>?_⟩
    ·obtain ⟨j,h1,rfl⟩:=i2 x hx
     rw [List.mem_singleton] at hy
     subst hy
     have h2:=hs j (m-1) (by omega) (by omega)
     have h3:=hs (m-1) m (by omega) (by omega)
     unfold Lib.keeps at hk
     have h4:zs.toArray[m]!≠zs.toArray[m-1]!:=by
      rcases of_decide_eq_true hk with h5|h5
      ·omega
      ·exact h5
     omega
    ·rcases List.mem_append.1 hx with hx|hx
     ·obtain ⟨j,h1,h2⟩:=i2 x hx
      exact ⟨j,by omega,h2⟩
     ·exact ⟨m,by omega,List.mem_singleton.1 hx⟩
   ·rw [if_neg hk,List.append_nil]
    exact ⟨i1,fun x hx=>by
     obtain ⟨j,h1,h2⟩:=i2 x hx
     exact ⟨j,by omega,h2⟩⟩
 exact (key zs.length (Nat.le_refl _)).1
theorem sort_pair (zs:List Int):(zs.mergeSort fun x y=>decide (x≤y)).Pairwise (·≤·):=by
 have:=List.pairwise_mergeSort (le:=fun x y:Int=>decide (x≤y)) (fun a b c h1 h2=>by simp at *;omega) (fun a b=>by simp;omega) zs
 exact this.imp fun h=>by simpa using h
end Go.Pie
namespace Go.Vm
open Go.Am
section
variable {E:Env} {L:Vm.Frame} {H:Vm.Heap} {nx:Nat} {Q:PV→Vm.Heap→Nat→Prop} {w:Bool} {dst:Option Tmp} {ty:TypeId} {pos:String} {af:Array Edge} {gd:Option (Nat×Bool)}
end
end Go.Vm
namespace Go.Am
section
variable {P:Program} {O:Oracle} {G:List Nat}
def seqVal (key:Value) (rows:List (List Value)):Value:=.tuple #[key,.tuple (rows.map fun r=>Value.tuple r.toArray).toArray]
def ARounds (P:Program) (O:Oracle) (G:List Nat) (asg body:Code) (n:Nat) (ask:Mem→Prop) (t:Tr Value) (ps:List Tmp):List (List Value)→Mem→(AExit→Mem→Prop)→Prop
 |[],m,Q=>Q .normal m
 |vs::rest,m,Q=>vs.length=n∧vs.all plain=true∧AWp P O G asg { t:=putAll t ps vs,m:=lowTo m m.size } fun e s1=>e=.normal∧AWp P O G body s1 fun e s2=>match e with
  | .normal=>ask (lowTo s2.m (min m.low s2.m.low))∧ARounds P O G asg body n ask t ps rest (lowTo s2.m (min m.low s2.m.low)) Q
  |e=>Q e (lowTo s2.m (min m.low s2.m.low))
end
end Go.Am
namespace Go.Vm
open Go.Am
section
variable {E:Env} {bn:Nat} {L:Vm.Frame} {H:Vm.Heap} {nx:Nat} {Q:AExit→Vm.Frame→Vm.Heap→Nat→Prop}
def lputs (L:Vm.Frame):List Tmp→List FV→Vm.Frame
 |p::ps,f::fs=>lputs (lput L (some p) (.p f)) ps fs
 |_,_=>L
def VAsk (E:Env) (g:FuncId) (fn:Func) (cs:List PV) (H:Vm.Heap) (nx:Nat) (key:Value) (rows:List (List Value)):Prop :=
 ∀ Fo,E.O g=some Fo→∀ m F σ lb,Ctx E.Γ m F σ H nx→RPs m F (htag H) σ nx cs lb→∃ m1,Fo (seqAs fn.ntmps lb) m=some (seqVal key rows,m1)
def RQ (iv:Prop) (nx0:Nat) (L0:Vm.Frame) (H1:Vm.Heap) (Q:AExit→Vm.Frame→Vm.Heap→Nat→Prop):AExit→Vm.Frame→Vm.Heap→Nat→Prop
 | .normal,_,H',nx'=>iv∧nx0≤nx'∧HCov nx0 H1 H'
 |e,_,H',nx'=>nx0≤nx'∧∃ H2,HCov nx0 H2 H'∧Q e L0 H2 nx0
end
end Go.Vm
namespace Go.Vm
open Go.Am
section
variable {E:Env} {bn:Nat} {L:Vm.Frame} {H:Vm.Heap} {nx:Nat} {Q:AExit→Vm.Frame→Vm.Heap→Nat→Prop}
def VAskB (E:Env) (g:FuncId) (fn:Func) (cs:List FV) (e:TypeId) (rows:List (List Value)):Prop :=
 ∀ Fo,E.O g=some Fo→∀ m F c vs,m.get c=.cells vs e 0 false→RFs m F cs vs→F c→∃ key,∀ m' F' σ' H' nx',(∀ d,F d→m'.get d=m.get d)→Ctx E.Γ m' F' σ' H' nx'→∃ m1,Fo (seqAs fn.ntmps [.pointer (some ⟨c,0,none⟩)]) m'=some (seqVal key rows,m1)
end
end Go.Vm
namespace Go.Vm
open Go.Am
def mapI (e:TypeId) (ks:List Int) (f:Int→List Int):List (FV×FV):=ks.map fun k=>(.int .i64 k,.lst e (cells (f k)) (f k).length)
section
variable {E:Env} {L:Frame} {H:Heap} {nx:Nat} {Q:PV→Heap→Nat→Prop} {w:Bool}
variable {dst:Option Tmp} {ty:TypeId} {pos:String} {af:Array Edge} {gd:Option (Nat×Bool)}
theorem vev_i {Γ:Nat→Option (List Value×TypeId)} {m:Mem} {F:Nat→Prop} {σ:Nat→Value} {t:Tr Value} {k:IntKind} {n:Int} {o:Operand} (hx:Ctx Γ m F σ H nx) (hl:RL m F (htag H) σ nx L t) (h:vev Γ L o=some (.p (.int k n))):ev t o=.int k n:=by
 have:=vev_rel hx hl h
 generalize ev t o=v at this
 cases this with
 |p h=>cases h;rfl
end
section
variable {E:Env} {bn i:Nat} {ops:Array Oper} {l:List Oper} {L:Frame} {H:Heap} {nx:Nat} {R:Frame→Heap→Nat→Prop}
end
def swp (a b i:Nat):Nat:=if i=a then b else if i=b then a else i
def Hrn (ρ:Nat→Nat):Heap→Heap
 |[]=>[]
 |(i,x)::H=>(ρ i,x.rn ρ)::Hrn ρ H
end Go.Vm
namespace Go.Vm
open Go.Am
mutual
def FV.flat:FV→Bool
 | .int ..| .bool _| .str _| .val _=>true
 | .agg cs=>FVs.flat cs
 | .lst ..| .cptr _=>false
def FVs.flat:List FV→Bool
 |[]=>true
 |c::cs=>FV.flat c&&FVs.flat cs
end
mutual
def PV.flat:PV→Bool
 | .p x=>x.flat
 | .agg cs=>PVs.flat cs
 | .tup cs=>PVs.flat cs
 | .vec ..| .ref ..| .eref ..| .mref _=>true
 | .clo _ fs cs=>PVs.flat fs&&PVs.flat cs
def PVs.flat:List PV→Bool
 |[]=>true
 |c::cs=>PV.flat c&&PVs.flat cs
end
def HB.flat:HB→Bool
 | .box _ cs=>PVs.flat cs
 | .vec _ cs _ _=>FVs.flat cs
 | .map _=>false
 | .vecp ..=>false
 | .mapp ..=>false
def Hflat:Heap→Bool
 |[]=>true
 |(_,x)::H=>x.flat&&Hflat H
section
variable {m m':Mem} {F F':Nat→Prop} {T:Nat→Option Tg} {σ:Nat→Value} {n:Nat}
end
section
variable {E:Env} {L:Frame} {H:Heap} {nx:Nat} {Q:PV→Heap→Nat→Prop} {w:Bool}
variable {dst:Option Tmp} {ty:TypeId} {pos:String} {af:Array Edge} {gd:Option (Nat×Bool)}
end
end Go.Vm
namespace Go.Vm
open Go.Am
variable {E:Env} {L:Frame} {H:Heap} {nx:Nat} {Q:PV→Heap→Nat→Prop} {w:Bool}
variable {dst:Option Tmp} {ty:TypeId} {pos:String} {af:Array Edge} {gd:Option (Nat×Bool)}
theorem upd_id (σ:Nat→Value) (a:Nat):upd σ a (σ a)=σ:=by funext x;simp only [upd];split<;>simp_all
end Go.Vm
namespace Go.Vm
open Go.Am
section
variable {E:Env} {L:Vm.Frame} {H:Vm.Heap} {nx:Nat} {Q:PV→Vm.Heap→Nat→Prop} {w:Bool} {dst:Option Tmp} {ty:TypeId} {pos:String} {af:Array Edge} {gd:Option (Nat×Bool)}
end
end Go.Vm
namespace Go.Vm
open Go.Am
section
variable {P:Program}
structure IsA2 (P:Program) (t e:TypeId):Prop where
 arr:P.underlying t=some (.array 2 e)
 elt:P.underlying e=some (.int .i64)
 agg:isAggT P e=some false
 sz:(P.info? e).map (·.size)=some 1
def a2V (a b:Int):Value:=.agg #[.int .i64 a,.int .i64 b]
abbrev MapE:=List ((Int×Int)×Int)
def mapP (es:MapE):List (FV×FV):=es.map fun x=>(.agg [.int .i64 x.1.1,.int .i64 x.1.2],.int .i64 x.2)
def lookP:MapE→Int→Int→Option Int
 |[],_,_=>none
 |x::es,a,b=>if a=x.1.1∧b=x.1.2 then some x.2 else lookP es a b
variable {E:Env} {L:Vm.Frame} {H:Vm.Heap} {nx:Nat} {Q:PV→Vm.Heap→Nat→Prop} {w:Bool} {dst:Option Tmp} {ty:TypeId} {pos:String} {af:Array Edge} {gd:Option (Nat×Bool)}
end
end Go.Vm
namespace Go.Vm
open Go.Am
section
variable {E:Env} {L:Frame} {H:Heap} {nx:Nat}
theorem Ghost.fresh (e:TypeId):Ghost E L H nx L ((nx,.vec e [] 0 true)::H) (nx+1):=fun B m F σ t h1 h2 h3=>by
 obtain ⟨c1,c2⟩:=adoptCtx e h1
 exact ⟨F,_,c1,fun i v hi=>(h2 i v hi).step c2 h1,h3.trans c2⟩
variable {Q:PV→Heap→Nat→Prop} {dst:Option Tmp} {ty:TypeId} {pos:String} {af:Array Edge} {gd:Option (Nat×Bool)}
end
end Go.Vm
namespace Go.Vm
open Go.Am
def tailH (s:Nat):Nat→(Nat→HB)→Heap
 |0,_=>[]
 |n+1,f=>(s+n,f n)::tailH s n f
theorem hget_tail {s:Nat} {f:Nat→HB}:∀ {n j:Nat},j<n→hget (tailH s n f) (s+j)=some (f j)
 |0,_,h=>by omega
 |n+1,j,h=>by
  unfold tailH
  rw [hget_cons]
  by_cases e:n=j
  ·subst e;rw [if_pos rfl]
  ·rw [if_neg (by omega)];exact hget_tail (by omega)
theorem hget_tail_none {s:Nat} {f:Nat→HB}:∀ {n b:Nat},b<s∨s+n≤b→hget (tailH s n f) b=none
 |0,_,_=>rfl
 |n+1,b,h=>by
  unfold tailH
  rw [hget_cons,if_neg (by omega)]
  exact hget_tail_none (by omega)
theorem tail_congr {s:Nat} {f g:Nat→HB}:∀ {n:Nat},(∀ j,j<n→f j=g j)→tailH s n f=tailH s n g
 |0,_=>rfl
 |n+1,h=>by
  unfold tailH
  rw [h n (by omega),tail_congr fun j hj=>h j (by omega)]
theorem hput_tail {s:Nat} {f:Nat→HB} {y:HB}:∀ {n j:Nat},j<n→hput (tailH s n f) (s+j) y=tailH s n fun i=>if i=j then y else f i
 |0,_,h=>by omega
 |n+1,j,h=>by
  unfold tailH
  simp only [hput]
  by_cases e:n=j
  ·subst e
   have hd:∃ h,Nat.decEq (s+n) (s+n)=.isTrue h:=⟨rfl,by cases Nat.decEq (s+n) (s+n) with|isTrue h=>rfl|isFalse h=>exact absurd rfl h⟩
   obtain ⟨_,hd⟩:=hd
   rw [hd,if_pos rfl]
   simp only
   congr 1
   exact tail_congr fun i hi=>by rw [if_neg (by omega)]
  ·have hd:∃ h,Nat.decEq (s+n) (s+j)=.isFalse h:=⟨by omega,by cases Nat.decEq (s+n) (s+j) with|isTrue h=>omega|isFalse h=>rfl⟩
   obtain ⟨_,hd⟩:=hd
   rw [hd,if_neg e]
   simp only
   rw [hput_tail (by omega)]
theorem hget_skip {a b:Nat} {x:HB} {H:Heap} {r:Option HB} (h:a≠b) (t:hget H b=r):hget ((a,x)::H) b=r:=by rw [hget_cons,if_neg h];exact t
theorem hput_skip {a b:Nat} {x y:HB} {H H':Heap} (h:a≠b) (t:hput H b y=H'):hput ((a,x)::H) b y=(a,x)::H':=by
 simp only [hput]
 cases hd:Nat.decEq a b with
 |isTrue e=>exact absurd e h
 |isFalse _=>simp only [t]
theorem hget_put_ne {b c:Nat} {y:HB} {H:Heap} {r:Option HB} (h:b≠c) (t:hget H c=r):hget (hput H b y) c=r:=by rw [hget_hput,if_neg h];exact t
theorem hput_hput_ne {b c:Nat} {x y:HB} (h:b≠c):∀ {H:Heap},hput (hput H b x) c y=hput (hput H c y) b x
 |[]=>rfl
 |(a,z)::H=>by
  simp only [hput]
  cases h1:Nat.decEq a b with
  |isTrue e1 =>
   cases h2:Nat.decEq a c with
   |isTrue e2=>exact absurd (e1.symm.trans e2) h
   |isFalse _=>simp only [hput,h1,h2]
  |isFalse _ =>
   cases h2:Nat.decEq a c with
   |isTrue e2=>simp only [hput,h1,h2]
   |isFalse _=>simp only [hput,h1,h2,hput_hput_ne h (H:=H)]
theorem hput_put_ne {b c:Nat} {x y:HB} {H H':Heap} (h:b≠c) (t:hput H c y=H'):hput (hput H b x) c y=hput H' b x:=by rw [hput_hput_ne h,t]
theorem hget_app:∀ {H T:Heap} {b:Nat},hget (H++T) b=match hget H b with|some x=>some x|none=>hget T b
 |[],_,_=>rfl
 |(a,x)::H,T,b=>by
  rw [List.cons_append,hget_cons,hget_cons]
  by_cases e:a=b
  ·rw [if_pos e,if_pos e]
  ·rw [if_neg e,if_neg e];exact hget_app
theorem HCov.tail {k s:Nat} {f:Nat→HB} {H:Heap}:∀ {n:Nat},(∀ j,j<n→hget H (s+j)=some (f j))→s+n≤k→(∀ j,j<n→(f j).under k)→HCov k (tailH s n f) H
 |0,_,_,_=>trivial
 |n+1,h,hk,hu=>⟨⟨by omega,hu n (by omega),f n,h n (by omega),.refl _⟩,HCov.tail (fun j hj=>h j (by omega)) (by omega) fun j hj=>hu j (by omega)⟩
section
variable {E:Env} {L:Frame} {H:Heap} {nx:Nat}
theorem htag_congr {H1 H2:Heap} (h:∀ b,hget H1 b=hget H2 b):htag H1=htag H2:=by
 funext b
 unfold htag
 rw [h b]
theorem own_congr {H1 H2:Heap} (h:∀ b,hget H1 b=hget H2 b) {σ:Nat→Value} {c:Nat} (ho:own H1 σ c):own H2 σ c:=by
 obtain ⟨b,x,hb,hc⟩:=ho
 exact ⟨b,x,(h b).symm.trans hb,hc⟩
theorem Ctx.congr {Γ:Nat→Option (List Value×TypeId)} {m:Mem} {F:Nat→Prop} {σ:Nat→Value} {H1 H2:Heap} (h:∀ b,hget H1 b=hget H2 b) (c:Ctx Γ m F σ H1 nx):Ctx Γ m F σ H2 nx where
 fr:=c.fr
 hp b x hb:=by
  rw [← htag_congr h]
  exact c.hp b x ((h b).trans hb)
 sep b b' x x' d h1 h2:=c.sep b b' x x' d ((h b).trans h1) ((h b').trans h2)
 gl:=c.gl
theorem Step.congr {m m':Mem} {F F':Nat→Prop} {σ σ':Nat→Value} {H0 H1 H2:Heap} {nx nx':Nat} (h:∀ b,hget H1 b=hget H2 b) (s:Step m F σ H0 nx m' F' σ' H1 nx'):Step m F σ H0 nx m' F' σ' H2 nx' where
 size:=s.size
 keep:=s.keep
 fmono:=s.fmono
 fback:=s.fback
 oback c hc ho:=s.oback c hc (own_congr (fun b=>(h b).symm) ho)
 nxle:=s.nxle
 names:=by rw [← htag_congr h];exact s.names
 low:=s.low
theorem Ghost.congr {L1:Frame} {H1 H2:Heap} {nx1:Nat} (h:∀ b,hget H1 b=hget H2 b) (g:Ghost E L H nx L1 H1 nx1):Ghost E L H nx L1 H2 nx1:=fun B m F σ t h1 h2 h3=>by
 obtain ⟨F1,σ1,c1,c2,c3⟩:=g B m F σ t h1 h2 h3
 refine ⟨F1,σ1,c1.congr h,?_,c3.congr h⟩
 rw [← htag_congr h]
 exact c2
theorem Ghost.refl:Ghost E L H nx L H nx:=fun B m F σ t h1 h2 h3=>⟨F,σ,h1,h2,h3⟩
theorem Ghost.freshN' (e:TypeId):∀ n:Nat,Ghost E L H nx L (tailH nx n (fun _=>.vec e [] 0 true)++H) (nx+n)
 |0=>Ghost.refl
 |n+1=>(Ghost.freshN' e n).trans (Ghost.fresh e)
theorem Ghost.freshN (e:TypeId) (n:Nat) (hH:∀ b x,hget H b=some x→b<nx):Ghost E L H nx L (H++tailH nx n (fun _=>.vec e [] 0 true)) (nx+n) :=
 (Ghost.freshN' e n).congr fun b=>by
  rw [hget_app,hget_app]
  rcases Nat.lt_or_ge b nx with h|h
  ·rw [hget_tail_none (.inl h)]
   cases hget H b<;>rfl
  ·cases h0:hget H b with
   |some x=>exact absurd (hH b x h0) (by omega)
   |none =>
    simp only
    cases hget (tailH nx n fun _=>HB.vec e [] 0 true) b<;>rfl
theorem hlt_cons {a n:Nat} {x:HB} {T:Heap} (h:a<n) (t:∀ b y,hget T b=some y→b<n):∀ b y,hget ((a,x)::T) b=some y→b<n:=fun b y hb=>by
 rw [hget_cons] at hb
 by_cases e:a=b
 ·omega
 ·rw [if_neg e] at hb;exact t b y hb
theorem hlt_nil {n:Nat}:∀ b y,hget ([]:Heap) b=some y→b<n:=fun _ _ h=>by cases h
theorem fresh_at {σ:Nat→Value} {m:Mem} {F:Nat→Prop} {b:Nat} {e:TypeId} {Γ:Nat→Option (List Value×TypeId)} (h1:Ctx Γ m F σ H nx) (hb:hget H b=some (.vec e [] 0 true)):RP m F (htag H) σ nx (.vec b 0 0 0) nilSlice:=by
 obtain ⟨hlb,hrb⟩:=h1.hp b _ hb
 have hσb:σ b=nilSlice:=by
  rcases hrb with ⟨_,_,h⟩|⟨c,g,vs,_,_,_,_,_,_,h⟩
  ·rcases h with ⟨h,_⟩|⟨_,_,_,_,h⟩
   ·exact h
   ·cases h
  ·have:=h rfl
   cases this
 refine .vec hlb rfl fun n hn=>?_
 have:htag H b=some (.vec 0):=by unfold htag;rw [hb];rfl
 rw [this] at hn
 simp only [Option.some.injEq,Tg.vec.injEq] at hn
 subst hn
 refine ⟨Nat.le_refl _,fun _=>?_⟩
 rw [hσb]
 exact ⟨rfl,rfl,rfl⟩
end
section
variable {E:Env} {L:Frame} {H:Heap} {nx:Nat} {Q:PV→Heap→Nat→Prop}
variable {dst:Option Tmp} {ty:TypeId} {pos:String} {af:Array Edge} {gd:Option (Nat×Bool)}
theorem VVal.congr {w:Bool} {o:Oper} {Q1:PV→Heap→Nat→Prop} (h:VVal E w o L H nx Q1) (hq:∀ r H' nx',Q1 r H' nx'→∃ H'',(∀ b,hget H' b=hget H'' b)∧Q r H'' nx'):VVal E w o L H nx Q:=fun m F σ t h1 h2=>by
 refine (h m F σ t h1 h2).mono ?_
 rintro v m' ⟨r,H',nx',F',σ',q,c1,c2,c3,c4⟩
 obtain ⟨H'',e,q'⟩:=hq r H' nx' q
 refine ⟨r,H'',nx',F',σ',q',c1.congr e,?_,c3.congr e,c4⟩
 rw [← htag_congr e]
 exact c2
def HInE (ρ:Nat→Nat) (H:Heap):Heap→Prop
 |[]=>True
 |(i,x)::Hc=>hget H (ρ i)=some (x.rn ρ)∧HInE ρ H Hc
theorem HInE.hin {ρ:Nat→Nat} {H:Heap}:∀ {Hc:Heap},HInE ρ H Hc→HIn ρ H Hc
 |[],_=>trivial
 |(i,x)::Hc,⟨h1,h2⟩=>⟨⟨_,h1,.refl _⟩,HInE.hin h2⟩
theorem HInE.get {ρ:Nat→Nat} {H:Heap}:∀ {Hc:Heap},HInE ρ H Hc→∀ i x,hget Hc i=some x→hget H (ρ i)=some (x.rn ρ)
 |[],_,_,_,h=>by cases h
 |(j,y)::Hc,⟨h1,h2⟩,i,x,h=>by
  rw [hget_cons] at h
  by_cases e:j=i
  ·rw [if_pos e] at h;cases h;subst e;exact h1
  ·rw [if_neg e] at h;exact HInE.get h2 i x h
def allIn:Nat→Heap→Bool
 |0,_=>true
 |n+1,Hc=>(hget Hc n).isSome&&allIn n Hc
theorem allIn_get {Hc:Heap}:∀ {n i:Nat},allIn n Hc=true→i<n→(hget Hc i).isSome=true
 |0,_,_,h=>by omega
 |n+1,i,h,hi=>by
  simp only [allIn,Bool.and_eq_true] at h
  by_cases e:i=n
  ·subst e;exact h.1
  ·exact allIn_get h.2 (by omega)
theorem VVal.readX {fo:Operand} {args:Array Operand} {aT:Array TypeId} {g:FuncId} {fs cs asW ac:List PV} {Hc:Heap} {x:FV} (ns:List Nat) (hc:VRead E g ac Hc ns.length x)
 (hf:vev E.Γ L fo=some (.clo g fs cs)) (ha:evs E.Γ L args.toList=some asW) (hle:PLes (fs++asW++cs) (PVs.rn (rho ns nx) ac)) (hu:PVs.under ns.length ac) (hHu:HUnder ns.length Hc) (hin:HInE (rho ns nx) H Hc) (hall:allIn ns.length Hc=true) (hnd:ns.Nodup) (hlt:∀ b∈ns,b<nx) (q:Q (.p x) H nx) :
 VVal E true ⟨dst,.call { callee:=.value fo,args:=args,argTypes:=aT },ty,pos,af,gd⟩ L H nx Q:=by
 have hge:∀ i,ns.length≤i→rho ns nx i=nx+(i-ns.length):=fun i hi=>rho_ge hi
 have hinj:∀ i j,rho ns nx i=rho ns nx j→ns.length≤i→ns.length≤j→i=j:=fun i j e hi hj=>by
  rw [hge i hi,hge j hj] at e;omega
 refine VVal.congr (VVal.callG hf ha hle hu hHu hin.hin hnd hlt (fun h=>by cases h) hc (Q:=fun r H' nx'=>r=.p x∧(∀ b,hget H' b=hget H b)∧nx'=nx) ?_) fun r H' nx' ⟨h1,h2,h3⟩=>⟨H,h2,by rw [h1,h3];exact q⟩
 rintro r H' nx' ⟨rfl,rfl,rfl⟩
 refine ⟨rfl,fun b=>?_,by omega⟩
 rcases hget_news (k:=ns.length) (ρ:=rho ns nx) (H:=merge ns (rho ns nx) H' H) (H':=H') (b:=b) hinj with ⟨i,hi,e1,e2,e3⟩|⟨_,e⟩
 ·cases h0:hget H' i with
  |none=>rw [h0] at e2;simp at e2
  |some y=>have:=(hHu.get i y h0).1;omega
 ·rw [e]
  cases hi:idx ns b with
  |none=>rw [hget_merge_none hi]
  |some i =>
   have h0:=idx_some hi
   have hb:rho ns nx i=b:=rho_lt h0
   rw [hget_merge_some hi]
   cases h1:hget H b with
   |none=>rfl
   |some y =>
    cases h2:hget H' i with
    |none =>
     have hlt':i<ns.length:=by
      rcases Nat.lt_or_ge i ns.length with h|h
      ·exact h
      ·rw [List.getElem?_eq_none h] at h0;cases h0
     have:=allIn_get hall hlt'
     rw [h2] at this
     cases this
    |some x =>
     have:=hin.get i x h2
     rw [hb,h1] at this
     simpa using this.symm
end
end Go.Vm
namespace Go.Vm
open Go.Am
structure IsKey (P:Program) (t:TypeId) {α:Type} [DecidableEq α] (kf:α→List FV) (kv:α→List Value):Prop where
 val:∀ a,fvVals (kf a)=some (kv a)
 agg:isAggD P t=true
 eq:∀ a b,dry P (Op.equal t (.agg (kv a).toArray) (.agg (kv b).toArray))=some (decide (a=b))
 chk:∀ fl a,dryOk P (Instr.checkKey fl 10000 t (.agg (kv a).toArray))=true
def lookK {α β:Type} [DecidableEq α]:List (α×β)→α→Option β
 |[],_=>none
 |x::es,a=>if a=x.1 then some x.2 else lookK es a
def putK {α β:Type} [DecidableEq α]:List (α×β)→α→β→List (α×β)
 |[],a,b=>[(a,b)]
 |x::es,a,b=>if a=x.1 then (a,b)::es else x::putK es a b
def idxK {α β:Type} [DecidableEq α]:List (α×β)→α→Nat
 |[],_=>0
 |x::es,a=>if a=x.1 then 0 else idxK es a+1
def mapK {α:Type} (kf:α→List FV) (es:List (α×PV)):HB:=.mapp (es.map fun x=>.agg (kf x.1)) (es.map (·.2))
theorem fvVals_plain:∀ {l:List FV} {vs:List Value},fvVals l=some vs→vs.all Am.plainCell=true
 |[],_,h=>by cases h;rfl
 |x::l,vs,h=>by
  simp only [fvVals] at h
  split at h
  ·rename_i v r h1 h2
   cases h
   rw [List.all_cons,Bool.and_eq_true]
   refine ⟨?_,fvVals_plain h2⟩
   cases x<;>simp only [fvVal,Option.some.injEq,reduceCtorEq] at h1<;>subst h1<;>rfl
  ·cases h
theorem RFs.ofVals {m:Mem} {F:Nat→Prop}:∀ {l:List FV} {vs:List Value},fvVals l=some vs→RFs m F l vs
 |[],_,h=>by cases h;exact .nil
 |x::l,vs,h=>by
  simp only [fvVals] at h
  split at h
  ·rename_i v r h1 h2
   cases h
   refine .cons ?_ (RFs.ofVals h2)
   cases x<;>simp only [fvVal,Option.some.injEq,reduceCtorEq] at h1<;>subst h1
   ·exact .int _ _
   ·exact .bool _
   ·exact .str _
  ·cases h
theorem fvVals_same:∀ {l:List FV} {vs:List Value},fvVals l=some vs→∀ x∈vs,∀ n,Instr.sameBits (n+1) x x=true
 |[],_,h=>by cases h;intro x hx;cases hx
 |x::l,vs,h=>by
  simp only [fvVals] at h
  split at h
  ·rename_i v r h1 h2
   cases h
   intro y hy n
   rcases List.mem_cons.1 hy with rfl|hy
   ·cases x<;>simp only [fvVal,Option.some.injEq,reduceCtorEq] at h1<;>subst h1<;>simp [Instr.sameBits,bytes_dec]
   ·exact fvVals_same h2 y hy n
  ·cases h
def flatTd:TypeDesc→Bool
 | .int _=>true
 | .bool=>true
 | .string=>true
 |_=>false
def chkFld (P:Program):List Field→Array Value→Bool
 |[],_=>true
 |f::fs,xs=>(match isAggT P f.type,P.underlying f.type,xs[f.offset]? with|some false,some d,some _=>flatTd d|_,_,_=>false)&&chkFld P fs xs
theorem dry_chkFld {P:Program} {fl:Bool} {n:Nat} (xs:Array Value):∀ (fs:List Field),chkFld P fs xs=true→dry P (forIn fs PUnit.unit fun f _=>(do
 if f.name≠"_" then do
  let x ← part f.type xs f.offset
  Instr.checkKey fl (n+1) f.type x
  pure (ForInStep.yield PUnit.unit)
 else pure (ForInStep.yield PUnit.unit):Sem (ForInStep PUnit)))=some PUnit.unit
 |[],_=>rfl
 |f::fs,h=>by
  simp only [chkFld,Bool.and_eq_true] at h
  obtain ⟨h1,h2⟩:=h
  have ih:=dry_chkFld (P:=P) (fl:=fl) (n:=n) xs fs h2
  split at h1
  ·rename_i d v e1 e2 e3
   rw [List.forIn_cons,dry_bind]
   by_cases hn:f.name≠"_"
   ·rw [if_pos hn]
    have hck:dry P (Instr.checkKey fl (n+1) f.type v)=some ():=by
     rw [Instr.checkKey]
     simp only [dry_bind,dry_underlying,e2,Option.bind_some]
     cases d<;>first|rfl|cases h1
    simp only [dry_bind,dry_part e1 e3,Option.bind_some,hck,dry_pure]
    exact ih
   ·rw [if_neg hn]
    simp only [dry_pure,Option.bind_some]
    exact ih
  ·cases h1
section
variable {P:Program} {α:Type} [DecidableEq α] {kf:α→List FV} {kv:α→List Value} {t:TypeId}
theorem IsKey.rel (h:IsKey P t kf kv) {m:Mem} {F:Nat→Prop} {a:α} {v:Value} (r:RF m F (.agg (kf a)) v):v=.agg (kv a).toArray:=by
 cases r with
 |agg r hc=>rw [(fvVals_rel r (h.val a)).1]
theorem IsKey.of (h:IsKey P t kf kv) {m:Mem} {F:Nat→Prop} (a:α):RF m F (.agg (kf a)) (.agg (kv a).toArray) :=
 .agg (RFs.ofVals (h.val a)) (all_plain_isCell (fvVals_plain (h.val a)))
theorem IsKey.plain (h:IsKey P t kf kv) (a:α):Am.plain (.agg (kv a).toArray)=true:=by
 show Am.plainOne (.agg (kv a).toArray)=true
 simpa [Am.plainOne] using fvVals_plain (h.val a)
theorem IsKey.bits (h:IsKey P t kf kv) (a:α):Instr.sameBits 10000 (.agg (kv a).toArray) (.agg (kv a).toArray)=true:=by
 have hv:=fvVals_same (h.val a)
 generalize kv a=vs at hv
 show (decide _&&_)=true
 simp only [List.size_toArray,Bool.and_eq_true]
 refine ⟨by simp,?_⟩
 rw [List.all_eq_true]
 rintro ⟨x,y⟩ hxy
 have hz:∀ (l:List Value),(x,y)∈l.zip l→x=y∧x∈l:=by
  intro l
  induction l with
  |nil=>intro h;cases h
  |cons b l ih =>
   intro h
   rcases List.mem_cons.1 h with h|h
   ·cases h;exact ⟨rfl,by simp⟩
   ·obtain ⟨e,m⟩:=ih h
    exact ⟨e,List.mem_cons_of_mem _ m⟩
 obtain ⟨e,m⟩:=hz vs hxy
 subst e
 exact hv x m 9998
theorem IsKey.of_struct {fs:Array Field} (hu:P.underlying t=some (.struct fs)) (hp:P.stoodInHeld t=false) (hv:∀ a,fvVals (kf a)=some (kv a)) (he:∀ a b,eqFld P fs.toList (kv a).toArray (kv b).toArray=some (decide (a=b))) (hc:∀ a,chkFld P fs.toList (kv a).toArray=true):IsKey P t kf kv where
 val:=hv
 agg:=by unfold isAggD;rw [hu]
 eq a b:=dry_eqStruct (d:=9998) hu hp (he a b)
 chk fl a:=by
  have:dry P (Instr.checkKey fl 10000 t (.agg (kv a).toArray))=some ():=by
   rw [Instr.checkKey]
   simp only [dry_bind,dry_underlying,hu,Option.bind_some]
   rw [← Array.forIn_toList,dry_chkFld (n:=9998) _ _ (hc a)]
   rfl
  unfold dryOk
  rw [this]
theorem keys_K (h:IsKey P t kf kv) {m:Mem} {F:Nat→Prop}:∀ {es:List (α×PV)} {ks:List Value},RFs m F (es.map fun x=>.agg (kf x.1)) ks→ks=es.map fun x=>.agg (kv x.1).toArray
 |[],_,r=>by cases r;rfl
 |x::es,_,r=>by
  cases r with
  |cons r1 r2=>rw [h.rel r1,keys_K h r2];rfl
theorem find_K (h:IsKey P t kf kv) {m:Mem} {F:Nat→Prop} {T:Nat→Option Tg} {σ:Nat→Value} {n:Nat} (a:α):∀ {es:List (α×PV)} {l:List MapEntry},l.map (·.key)=es.map (fun x=>.agg (kv x.1).toArray)→RPs m F T σ n (es.map (·.2)) (l.map (·.val))→∀ (i:Nat),
 (lookK es a=none→dry P (Instr.findAsking t (.agg (kv a).toArray) l i)=some none∧idxK es a=es.length∧∀ b,putK es a b=es++[(a,b)]) ∧
 (∀ c,lookK es a=some c→∃ j v,dry P (Instr.findAsking t (.agg (kv a).toArray) l i)=some (some (i+j,v))∧RP m F T σ n c v∧(∃ e,l[j]?=some e∧e.key=.agg (kv a).toArray∧e.val=v)∧idxK es a=j∧∀ b,putK es a b=es.set j (a,b))
 |[],[],_,_,i=>⟨fun _=>⟨rfl,rfl,fun _=>rfl⟩,fun v hv=>by cases hv⟩
 |[],y::l,h1,_,_=>by cases h1
 |x::es,[],h1,_,_=>by cases h1
 |x::es,y::l,h1,h2,i=>by
  simp only [List.map_cons,List.cons.injEq] at h1 h2
  cases h2 with
  |cons r1 r2 =>
   obtain ⟨i1,i2⟩:=find_K h a h1.2 r2 (i+1)
   rw [Instr.findAsking,h1.1]
   simp only [dry_bind,h.eq,Option.bind_some]
   unfold lookK putK idxK
   by_cases hc:a=x.1
   ·rw [if_pos hc,decide_eq_true hc]
    refine ⟨fun h=>(by cases h),fun v hv=>⟨0,y.val,?_,?_,⟨y,rfl,by rw [h1.1,hc],rfl⟩,by rw [if_pos hc],fun b=>?_⟩⟩
    ·rfl
    ·cases hv;exact r1
    ·rw [if_pos hc];rfl
   ·rw [if_neg hc,decide_eq_false hc]
    refine ⟨fun hn=>?_,fun c hv=>?_⟩
    ·obtain ⟨j1,j0,j2⟩:=i1 hn
     exact ⟨j1,by rw [if_neg hc,j0];rfl,fun b=>by rw [if_neg hc,j2 b];rfl⟩
    ·obtain ⟨j,v,j1,j2,j3,j0,j4⟩:=i2 c hv
     refine ⟨j+1,v,?_,j2,j3,by rw [if_neg hc,j0],fun b=>by rw [if_neg hc,j4 b];rfl⟩
     rw [show i+(j+1)=i+1+j by omega]
     exact j1
theorem afind_K (h:IsKey P t kf kv) (fl:Bool) (a:α) (l:List MapEntry):afind P fl t (.agg (kv a).toArray) l=dry P (Instr.findAsking t (.agg (kv a).toArray) l 0):=by
 have hg:=h.agg
 obtain ⟨d,hu,hd⟩:=isAggD_not h.agg
 have hk:keyKind P t=none:=by
  unfold isAggD at hg
  unfold keyKind
  rw [hu] at hg ⊢
  cases d<;>first|rfl|cases hg
 unfold afind
 rw [hk,hg,h.chk fl a]
 simp only [Bool.and_self,if_true,Instr.findKey,dry_bind,dry_underlying,hu,Option.bind_some]
 cases l with
 |nil=>rfl
 |cons x l =>
  unfold Instr.findNow
  rw [hd]
variable {E:Env} {L:Vm.Frame} {H:Vm.Heap} {nx:Nat} {Q:PV→Vm.Heap→Nat→Prop} {w:Bool} {dst:Option Tmp} {ty:TypeId} {pos:String} {af:Array Edge} {gd:Option (Nat×Bool)}
theorem vev_key {Γ:Nat→Option (List Value×TypeId)} {m:Mem} {F:Nat→Prop} {σ:Nat→Value} {tt:Tr Value} {a:α} {o:Operand} (h:IsKey P t kf kv) (hx:Ctx Γ m F σ H nx) (hl:RL m F (htag H) σ nx L tt) (hv:vev Γ L o=some (.p (.agg (kf a)))):ev tt o=.agg (kv a).toArray:=by
 have:=vev_rel hx hl hv
 generalize ev tt o=v at this
 cases this with
 |p r=>exact h.rel r
theorem vev_mapp {Γ:Nat→Option (List Value×TypeId)} {m:Mem} {F:Nat→Prop} {σ:Nat→Value} {t:Tr Value} {b:Nat} {o:Operand} {ks:List FV} {cs:List PV} (hx:Ctx Γ m F σ H nx) (hl:RL m F (htag H) σ nx L t) (h:vev Γ L o=some (.mref b)) (hb:hget H b=some (.mapp ks cs)):ev t o=σ b:=by
 have:=vev_rel hx hl h
 generalize ev t o=v at this
 cases this with
 |mref _ _ h3=>exact h3 (by simp [htag,hb,HB.tag])
theorem VVal.makeMapp {t:TypeId} (q:Q (.mref nx) ((nx,.mapp [] [])::H) (nx+1)):VVal E w ⟨dst,.makeMap t none,ty,pos,af,gd⟩ L H nx Q:=by
 intro m F σ tt h1 h2
 obtain ⟨c1,c2,c3⟩:=h1.new (m':=m.alloc (.map [] 0)) (x:=.mapp [] []) (s:=.map (some m.size)) (by simp [Mem.alloc]) (fun c hc=>by rw [Mem.get_alloc,if_neg (by omega)]) (by simp only [Mem.alloc];omega) (fun c hc=>by simp only [blkOf,Option.some.injEq] at hc;omega)
  ⟨m.size,[],0,rfl,by simp [Mem.alloc],fun hf=>Nat.lt_irrefl _ (h1.fr _ hf),by rw [Mem.get_alloc,if_pos rfl],.nil,.nil,rfl,rfl⟩
 exact AVal.op (v:=.map (some m.size)) (fun _=>rfl) ⟨_,_,_,F,_,q,c1,.mref (Nat.lt_succ_self _) rfl fun _=>(upd_same _ _ _).symm,c2,fun _=>c3⟩
theorem modify_set {α:Type} {g:α→α} {e:α}:∀ {l:List α} {j:Nat},l[j]?=some e→l.modify j g=l.set j (g e)
 |[],j,h=>by simp at h
 |a::l,0,h=>by simp at h;subst h;rfl
 |a::l,j+1,h=>by
  rw [List.modify_succ_cons,List.set_cons_succ,modify_set (by simpa using h)]
theorem Stamped.push {l:List MapEntry} {clock:Nat} {k v:Value} (h:Stamped l clock):Stamped (l++[{ key:=k,val:=v,born:=clock }]) (clock+1):=by
 obtain ⟨h1,h2⟩:=h
 subst h2
 refine ⟨?_,by simp⟩
 rw [List.map_append,h1,List.length_append,List.length_singleton,List.range_succ]
 rfl
theorem Stamped.modify {l:List MapEntry} {clock i:Nat} {f:MapEntry→MapEntry} (h:Stamped l clock) (hf:∀ e,(f e).born=e.born):Stamped (l.modify i f) clock:=by
 obtain ⟨h1,h2⟩:=h
 refine ⟨?_,by rw [List.length_modify];exact h2⟩
 rw [List.length_modify,← h1]
 apply List.ext_getElem?
 intro j
 simp only [List.getElem?_map,List.getElem?_modify]
 cases l[j]? with
 |none=>rfl
 |some e =>
  simp only [Option.map_some]
  split<;>simp [hf]
theorem Stamped.at {l:List MapEntry} {clock i:Nat} {e:MapEntry} (h:Stamped l clock) (he:l[i]?=some e):e.born=i:=by
 have h1:(l.map (·.born))[i]?=some e.born:=by rw [List.getElem?_map,he];rfl
 rw [h.1] at h1
 obtain ⟨hi,h2⟩:=List.getElem?_eq_some_iff.1 h1
 simpa using h2.symm
theorem Stamped.find {l:List MapEntry} {clock i:Nat} (h:Stamped l clock) (hi:i<l.length):l.findIdx? (fun e=>(e.born:Int)==(i:Int))=some i:=by
 rw [List.findIdx?_eq_some_iff_getElem]
 refine ⟨hi,?_,fun j hj=>?_⟩
 ·rw [h.at (List.getElem?_eq_getElem hi)];simp
 ·rw [h.at (List.getElem?_eq_getElem (by omega:j<l.length))]
  simp;omega
theorem lookK_idx {β:Type}:∀ {es:List (α×β)} {a:α},idxK es a≤es.length∧(idxK es a<es.length↔(lookK es a).isSome)
 |[],_=>⟨Nat.le_refl _,by simp [idxK,lookK]⟩
 |x::es,a=>by
  obtain ⟨h1,h2⟩:=lookK_idx (es:=es) (a:=a)
  unfold idxK lookK
  by_cases h:a=x.1
  ·rw [if_pos h,if_pos h];exact ⟨Nat.zero_le _,by simp⟩
  ·rw [if_neg h,if_neg h]
   simp only [List.length_cons]
   exact ⟨by omega,by rw [← h2];omega⟩
theorem putK_len {β:Type}:∀ {es:List (α×β)} {a:α} {b:β},idxK es a<(putK es a b).length
 |[],a,b=>by simp [idxK,putK]
 |x::es,a,b=>by
  unfold idxK putK
  by_cases h:a=x.1
  ·rw [if_pos h,if_pos h];simp
  ·rw [if_neg h,if_neg h]
   have:=putK_len (es:=es) (a:=a) (b:=b)
   simp only [List.length_cons];omega
theorem putK_set {β:Type}:∀ {es:List (α×β)} {a:α} {b c:β},(putK es a b).set (idxK es a) (a,c)=putK es a c
 |[],a,b,c=>by simp [idxK,putK]
 |x::es,a,b,c=>by
  unfold idxK putK
  by_cases h:a=x.1
  ·rw [if_pos h,if_pos h,if_pos h];rfl
  ·rw [if_neg h,if_neg h,if_neg h,List.set_cons_succ,putK_set]
theorem putK_key {β:Type}:∀ {es:List (α×β)} {a:α} {c:β},((putK es a c)[idxK es a]?).map (·.1)=some a
 |[],a,c=>by simp [idxK,putK]
 |x::es,a,c=>by
  unfold idxK putK
  by_cases e:a=x.1
  ·rw [if_pos e,if_pos e];simp
  ·rw [if_neg e,if_neg e,List.getElem?_cons_succ,putK_key]
def FoundK (E:Env) (H:Vm.Heap) (nx:Nat) (es:List (α×PV)) (a:α) (z:Value) (c:PV):Prop :=
 lookK es a=some c∨lookK es a=none∧∀ m F σ,Ctx E.Γ m F σ H nx→RP m F (htag H) σ nx c z
theorem FoundK.nilVec {es:List (α×PV)} {a:α} {b:Nat} {e:TypeId} (h:lookK es a=none) (hb:hget H b=some (.vec e [] 0 true)):FoundK E H nx es a nilSlice (.vec b 0 0 0) :=
 .inr ⟨h,fun _ _ _ c=>fresh_at c hb⟩
theorem VVal.lookupK {t kt et:TypeId} {x k:Operand} {b:Nat} {es:List (α×PV)} {a:α} {z:Value} {c:PV} (hkt:IsKey E.P kt kf kv) (hx:vev E.Γ L x=some (.mref b)) (hb:hget H b=some (mapK kf es)) (hk:vev E.Γ L k=some (.p (.agg (kf a))))
 (ht:E.P.underlying t=some (.map kt et)) (hz:zeroOf E.P et=some z) (hzp:Am.plain z=true) (hv:FoundK E H nx es a z c) (q:Q c H nx):VVal E w ⟨dst,.lookup t x k false,ty,pos,af,gd⟩ L H nx Q :=
 VVal.quiet q fun m F σ tt c1 c2=>by
  obtain ⟨_,r,l,clock,r1,r2,r3,r4,r5,r6,r7⟩:=c1.hp b _ hb
  have e1:=keys_K hkt r5
  obtain ⟨f1,f2⟩:=find_K hkt a e1 r6 0
  have hpl:(Am.plain z&&Am.plain (.agg (kv a).toArray))=true:=by rw [hzp,hkt.plain];rfl
  rcases hv with hv|⟨hv,hc⟩
  ·obtain ⟨j,u,f3,f4,_⟩:=f2 c hv
   refine ⟨u,fun _=>?_,f4⟩
   simp only [aval,aop,alookup,ht,hz,vev_mapp c1 c2 hx hb,vev_key hkt c1 c2 hk,r1,r4,hpl,if_true,afind_K hkt,f3,Option.map_some,Bool.false_eq_true,if_false]
  ·have f3:=(f1 hv).1
   refine ⟨z,fun _=>?_,hc m F σ c1⟩
   simp only [aval,aop,alookup,ht,hz,vev_mapp c1 c2 hx hb,vev_key hkt c1 c2 hk,r1,r4,hpl,if_true,afind_K hkt,f3,Option.map_some,Bool.false_eq_true,if_false]
theorem RPs.snoc {m:Mem} {F:Nat→Prop} {T:Nat→Option Tg} {σ:Nat→Value} {n:Nat}:∀ {cs:List PV} {vs:List Value} {c:PV} {v:Value},RPs m F T σ n cs vs→RP m F T σ n c v→RPs m F T σ n (cs++[c]) (vs++[v])
 |_,_,_,_,.nil,h=>.cons h .nil
 |_,_,_,_,.cons a t,h=>.cons a (RPs.snoc t h)
theorem keys_of {t:TypeId} (hkt:IsKey P t kf kv) {m:Mem} {F:Nat→Prop}:∀ (es:List (α×PV)),RFs m F (es.map fun x=>.agg (kf x.1)) (es.map fun x=>.agg (kv x.1).toArray)
 |[]=>.nil
 |x::l=>.cons (hkt.of x.1) (keys_of hkt l)
theorem mapp_change {m:Mem} {F:Nat→Prop} {σ:Nat→Value} {kt:TypeId} {b r:Nat} {es es':List (α×PV)} {l':List MapEntry} {clock':Nat} (hkt:IsKey P kt kf kv) {Γ:Nat→Option (List Value×TypeId)} (c1:Ctx Γ m F σ H nx) (hb:hget H b=some (mapK kf es)) (r1:σ b=.map (some r)) (r2:r<m.size) (r3:¬ F r)
 (k1:l'.map (·.key)=es'.map (fun x=>.agg (kv x.1).toArray)) (k2:RPs m F (htag H) σ nx (es'.map (·.2)) (l'.map (·.val))) (k3:Stamped l' clock') :
 Ctx Γ (m.put r (.map l' clock')) F σ (hput H b (mapK kf es')) nx∧Step m F σ H nx (m.put r (.map l' clock')) F σ (hput H b (mapK kf es')) nx:=by
 have hput':∀ d' x,r≠d'→(m.put r x).get d'=m.get d':=fun d' x hd=>by rw [Mem.get_put,if_neg hd]
 have:=c1.change (m':=m.put r (.map l' clock')) (x':=mapK kf es') (s':=σ b) hb trivial (fun _=>rfl) (Nat.le_refl _)
  (fun d' _ hd=>hput' d' _ fun e=>hd (by rw [r1,e];rfl)) (fun k k1 k2 k3=>by
   have:=k3 r (by rw [r1];rfl)
   simp only [Mem.put];omega) (fun d' hd=>.inl hd) (by
   have hF:∀ d',F d'→F d'∧(m.put r (.map l' clock')).get d'=m.get d':=fun d' hd=>⟨hd,hput' d' _ fun e=>r3 (e▸hd)⟩
   refine ⟨r,l',clock',r1,r2,r3,by rw [Mem.get_put,if_pos rfl],?_,?_,k3⟩
   ·rw [k1]
    exact keys_of hkt es'
   ·exact k2.mono hF (change_names (x':=mapK kf es') hb trivial fun _=>rfl) (Nat.le_refl _))
 rw [upd_id] at this
 exact this
theorem VVal.entryK {t kt et:TypeId} {x k:Operand} {b:Nat} {es:List (α×PV)} {a:α} {c:PV} {z:Value} (hkt:IsKey E.P kt kf kv) (hx:vev E.Γ L x=some (.mref b)) (hb:hget H b=some (mapK kf es)) (hk:vev E.Γ L k=some (.p (.agg (kf a))))
 (ht:E.P.underlying t=some (.map kt et)) (hz:zeroOf E.P et=some z) (hzp:Am.plain z=true) (hv:FoundK E H nx es a z c) {H':Vm.Heap} (hH:hput H b (mapK kf (putK es a c))=H') (q:Q (.tup [c,.p (.int .i64 (idxK es a:Nat))]) H' nx):VVal E true ⟨dst,.mapEntry t x k,ty,pos,af,gd⟩ L H nx Q:=by
 subst hH
 intro m F σ tt c1 c2
 obtain ⟨_,r,l,clock,r1,r2,r3,r4,r5,r6,r7⟩:=c1.hp b _ hb
 have e1:=keys_K hkt r5
 obtain ⟨f1,f2⟩:=find_K hkt a e1 r6 0
 have hup:aentry E.P t (ev tt x) (ev tt k) m=match afind E.P false kt (.agg (kv a).toArray) l with
  |some (some (i,v))=>if (keyKind E.P kt).isSome||Instr.sameBits 10000 (((l[i]?).map (·.key)).getD (.agg (kv a).toArray)) (.agg (kv a).toArray) then some (.tuple #[v,.int .i64 ((((l[i]?).map (·.born)).getD 0:Nat):Int)],m.put r (.map (l.modify i fun e=>{ e with key:=.agg (kv a).toArray }) clock)) else none
  |some none=>some (.tuple #[z,.int .i64 ((clock:Nat):Int)],m.put r (.map (l++[{ key:=.agg (kv a).toArray,val:=z,born:=clock }]) (clock+1)))
  |none=>none:=by
  unfold aentry
  simp only [ht,vev_mapp c1 c2 hx hb,vev_key hkt c1 c2 hk,r1,r4,hkt.plain,if_true,hz,hzp]
  rfl
 rw [afind_K hkt] at hup
 have hlen:l.length=es.length:=by
  have:=congrArg List.length e1
  simpa using this
 rcases hv with hl|⟨hl,hc⟩
 ·obtain ⟨j,u,f3,f4,⟨e0,f5,f5',f5''⟩,f7,f6⟩:=f2 c hl
  rw [Nat.zero_add] at f3
  rw [f3] at hup
  simp only [f5,Option.map_some,Option.getD_some,f5',hkt.bits,Bool.or_true,if_true,r7.at f5] at hup
  have hmod:∀ (g:MapEntry→MapEntry),l.modify j g=l.set j (g e0):=fun g=>modify_set f5
  obtain ⟨d1,d2⟩:=mapp_change hkt c1 hb r1 r2 r3 (es':=putK es a c) (l':=l.modify j fun e=>{ e with key:=.agg (kv a).toArray }) (by rw [hmod,f6 c,List.map_set,List.map_set,e1]) (by rw [hmod,f6 c,List.map_set,List.map_set];exact r6.set j (by rw [f5''];exact f4)) (r7.modify fun _=>rfl)
  refine AVal.op (v:=.tuple #[u,.int .i64 ((j:Nat):Int)]) (fun _=>by simp only [aval,aop,hup]) ⟨_,_,_,F,_,q,d1,?_,d2,fun h=>by cases h⟩
  rw [f7]
  exact .tup (.cons (f4.step d2 c1) (.cons (.p (.int _ _)) .nil))
 ·obtain ⟨f3,f7,f4⟩:=f1 hl
  rw [f3] at hup
  simp only at hup
  have hcz:=hc m F σ c1
  obtain ⟨d1,d2⟩:=mapp_change hkt c1 hb r1 r2 r3 (es':=putK es a c) (l':=l++[{ key:=.agg (kv a).toArray,val:=z,born:=clock }]) (clock':=clock+1) (by rw [f4 c,List.map_append,List.map_append,e1];rfl) (by rw [f4 c,List.map_append,List.map_append];exact RPs.snoc r6 hcz) r7.push
  refine AVal.op (v:=.tuple #[z,.int .i64 ((clock:Nat):Int)]) (fun _=>by simp only [aval,aop,hup]) ⟨_,_,_,F,_,q,d1,?_,d2,fun h=>by cases h⟩
  rw [f7,← hlen,← r7.2]
  exact .tup (.cons (hcz.step d2 c1) (.cons (.p (.int _ _)) .nil))
theorem VVal.entrySetK {t kt:TypeId} {x k y:Operand} {b:Nat} {es:List (α×PV)} {a:α} {c0 c:PV} (hkt:IsKey E.P kt kf kv) (hx:vev E.Γ L x=some (.mref b)) (hb:hget H b=some (mapK kf (putK es a c0))) (hk:vev E.Γ L k=some (.p (.int .i64 (idxK es a:Nat)))) (hy:vev E.Γ L y=some c)
 {H':Vm.Heap} (hH:hput H b (mapK kf (putK es a c))=H') (q:Q (.tup []) H' nx):VVal E true ⟨dst,.entryStore t x k y,ty,pos,af,gd⟩ L H nx Q:=by
 subst hH
 intro m F σ tt c1 c2
 obtain ⟨_,r,l,clock,r1,r2,r3,r4,r5,r6,r7⟩:=c1.hp b _ hb
 have e1:=keys_K hkt r5
 have hyv:=vev_rel c1 c2 hy
 have hkv:ev tt k=.int .i64 ((idxK es a:Nat):Int):=vev_i c1 c2 hk
 have hlen:l.length=(putK es a c0).length:=by
  have:=congrArg List.length e1
  simpa using this
 have hi:idxK es a<l.length:=by rw [hlen];exact putK_len
 have hmod:∀ (g:MapEntry→MapEntry),l.modify (idxK es a) g=l.set (idxK es a) (g l[idxK es a]):=fun g=>modify_set (List.getElem?_eq_getElem hi)
 obtain ⟨d1,d2⟩:=mapp_change hkt c1 hb r1 r2 r3 (es':=putK es a c) (l':=l.modify (idxK es a) fun e=>{ e with val:=ev tt y }) (by
  rw [hmod,List.map_set,← putK_set (b:=c0),List.map_set]
  have hkey:l[idxK es a].key=.agg (kv a).toArray:=by
   have h1:(l.map (·.key))[idxK es a]?=some l[idxK es a].key:=by rw [List.getElem?_map,List.getElem?_eq_getElem hi];rfl
   rw [e1,List.getElem?_map] at h1
   have h2:=putK_key (es:=es) (a:=a) (c:=c0)
   cases h3:(putK es a c0)[idxK es a]? with
   |none=>rw [h3] at h2;cases h2
   |some p =>
    rw [h3] at h1 h2
    simp only [Option.map_some,Option.some.injEq] at h1 h2
    rw [← h1,h2]
  rw [e1]
  congr 1) (by
  rw [hmod,List.map_set,← putK_set (b:=c0),List.map_set]
  exact r6.set _ hyv) (r7.modify fun _=>rfl)
 exact AVal.op (v:=undef) (fun _=>by simp only [aval,aop,aentryStore,vev_mapp c1 c2 hx hb,hkv,r1,r4,r7.find hi,Option.map_some]) ⟨_,_,_,F,_,q,d1,.tup .nil,d2,fun h=>by cases h⟩
theorem VVal.append1X {α:Type} {_:Enc α} {l:List α} {a:α} {s x:Operand} {sT xT e e2:TypeId} {xd:TypeDesc} {i:TypeInfo} {b b2 n:Nat} {xs:List FV} {z z2:Bool} (hs:vev E.Γ L s=some (.vec b n 0 n)) (hb:hget H b=some (.vec e (cells l) n z))
 (hx:vev E.Γ L x=some (.vec b2 1 0 1)) (hb2:hget H b2=some (.vec e2 xs 1 z2)) (hxs:xs=Enc.enc a) (hn:l.length=n) (hsT:E.P.underlying sT=some (.slice e)) (hxT:E.P.underlying xT=some xd) (hd:∀ k,xd≠.int k) (hi:E.P.info? e=some i)
 (hsz:Enc.size α=i.size) (hzs:zeroSized i=true) (h0:0<i.size) (hby:i.bytes<1000000) (hlen:l.length<1000000) {H':Vm.Heap} (hH:hput H b (.vec e (cells (l++[a])) (l.length+1) z)=H') (q:Q (.vec b (l.length+1) 0 (l.length+1)) H' nx) :
 VVal E true ⟨dst,.call { callee:=.builtin .append,args:=#[s,x],argTypes:=#[sT,xT] },ty,pos,af,gd⟩ L H nx Q:=by
 subst hH
 exact VVal.append1 hs hb hx hb2 hxs hn hsT hxT hd hi hsz hzs h0 hby hlen q
end
end Go.Vm
namespace Go.Proofs.YtnhdddmhkhdlhaaGreatDoor
open Go Go.Am Go.Vm Go.Pie
attribute [local irreducible] VVal VOps VOpsD VWp VCalls VFun VFunV QSeq QBlk QLoop Vm.Done DoneV DoneI
attribute [local irreducible] rchk windsE stoE dvsE cplE shiftR
theorem bars_spec (l:List Int) (hl:l.length<1000000):VFun env 50 [.lst 3 (cells l) l.length] (.p (.int .i64 (barsE l))):=by
 obtain ⟨E,hE⟩:∃ E,E=barK l 0:=⟨_,rfl⟩
 unfold barsE
 rw [← hE]
 refine VFun.enter (env_none (by decide)) Tryz.func50 rfl (by kernel_rfl) (by simp [Tryz.ntmps50]) ?_
 by_cases c1:l.length<2
 ·rw [if_pos c1]
  repeat' (first|apply VWp.rseq|apply VWp.blockSeq|apply QSeq.ret|apply QBlk.ret|apply VWp.ret|apply VOps.nil|apply VOps.one|(apply VVal.assign;rfl)|(apply VVal.move;rfl)|(apply VVal.int;rfl;rfl;rfl)|(apply VVal.lenF;rfl;rfl)|(apply VWp.cond_dec;rfl)|(intro _;try (exfalso;omega)))
  all_goals first|(exfalso;omega)|(refine Done.ret rfl (.refl _) (by exact PV.under_of rfl) HCov.nil (Nat.zero_le _) (Nat.le_refl _) ⟨?_,rfl,rfl⟩;try rfl)
 rw [if_neg c1]
 by_cases c2:l.length>201
 ·rw [if_pos c2]
  repeat' (first|apply VWp.rseq|apply VWp.blockSeq|apply QSeq.ret|apply QBlk.ret|apply VWp.ret|apply VOps.nil|apply VOps.one|(apply VVal.assign;rfl)|(apply VVal.move;rfl)|(apply VVal.int;rfl;rfl;rfl)|(apply VVal.lenF;rfl;rfl)|(apply VWp.cond_dec;rfl)|(intro _;try (exfalso;omega)))
  all_goals first|(exfalso;omega)|(refine Done.ret rfl (.refl _) (by exact PV.under_of rfl) HCov.nil (Nat.zero_le _) (Nat.le_refl _) ⟨?_,rfl,rfl⟩;try rfl)
 rw [if_neg c2]
 repeat' (first|apply VWp.assoc|apply VWp.rseq|apply VWp.blockSeq|apply QSeq.normal|apply QBlk.normal|apply VWp.skip|apply VOps.nil|apply VOps.one|(apply VVal.assign;rfl)|(apply VVal.move;rfl)|(apply VVal.int;rfl;rfl;rfl)|(apply VVal.lenF;rfl;rfl)|(apply VWp.cond_dec;rfl)|(intro _;try (exfalso;omega)))
 all_goals try (exfalso;omega)
 apply VWp.loopRI (l.length) (fun k=>barK l k=E) [(0,_),(2,_),(13,_),(14,_)] [] (fun k r=>(15,.p (.int .i64 (k:Int)))::r) (fun k r=>r) 0
 ·first|omega|decide
 ·first|omega|decide
 ·repeat (first|exact LCov.nil|(refine LCov.eq rfl ?_ ?_;(first|exact PV.under_of rfl|(simp [PV.under,PVs.under];done)))|refine LCov.cons trivial rfl (.of_eq (lst_len (by simp<;>omega))) ?_)
 ·repeat (first|exact HCov.nil|(refine HCov.eq rfl (lt_dec rfl) ?_ ?_;(first|exact HB.under_of rfl|exact PVs.under_pure _ _|(simp [HB.under,PVs.under,PV.under];done)))|(refine HCov.cons (lt_dec rfl) ?_ rfl ?_ ?_;(first|exact trivial|exact PVs.under_pure _ _|(simp [HB.under,PVs.under,PV.under]));(first|exact HLe.refl _|exact HLe.vec (FLes.refl _) (by simp))))
 ·first|(intro _ _;omega)|omega|trivial
 ·intro k hk hi
  have e:=barK_at hk
  have hk1:((k:Int)-1).toNat=k-1:=by omega
  have hkc:0<k→(k:Int)-1=((k-1:Nat):Int):=fun h=>by omega
  by_cases h1:gi l k<0∨gi l k>100000
  ·rw [if_pos h1] at e
   rw [← hi,e]
   repeat' (first|apply VWp.rseq|apply VWp.skipSeq|apply VWp.blockSeq|apply QSeq.ret|apply QBlk.ret|apply QLoop.ret|apply VWp.ret|apply VWp.blockQ|apply VOps.nil|apply VOps.one|(apply VOps.take;rfl;rfl)|(apply VOps.drop;rfl;rfl;rfl)|(apply VOps.guard;rfl;rfl)|(apply VVal.assign;rfl)|(apply VVal.move;rfl)|(apply VVal.int;rfl;rfl;rfl)|(apply VVal.indexN;rfl;rfl;rfl;omega;rfl)|(apply VVal.load;rfl;rfl)|(apply VVal.pick_true;rfl;rfl)|(apply VVal.pick_false;rfl;rfl)|(apply VWp.condSeq_dec;rfl)|(apply VWp.cond_true;rfl)|(apply VWp.cond_dec;rfl)|(intro _;try (exfalso;omega)))
   all_goals first|(exfalso;omega)|(refine Done.ret rfl (.refl _) (by exact PV.under_of rfl) HCov.nil (Nat.zero_le _) (Nat.le_refl _) ⟨?_,rfl,rfl⟩;try rfl)
  rw [if_neg h1] at e
  by_cases h2:0<k∧gi l k≤gi l (k-1)
  ·rw [if_pos h2] at e
   rw [← hi,e]
   repeat' (first|apply VWp.rseq|apply VWp.skipSeq|apply VWp.blockSeq|apply QSeq.ret|apply QBlk.ret|apply QLoop.ret|apply VWp.ret|apply VWp.blockQ|apply VOps.nil|apply VOps.one|(apply VOps.take;rfl;rfl)|(apply VOps.guard;rfl;rfl)|(apply VVal.indexN (l:=l) (i:=k-1);rfl;exact congrArg (fun b=>some (PV.p (.int .i64 b))) (hkc h2.1);rfl;omega;rfl)|(apply VVal.assign;rfl)|(apply VVal.move;rfl)|(apply VVal.sub64;rfl;rfl;omega)|(apply VVal.int;rfl;rfl;rfl)|(apply VVal.indexN;rfl;rfl;rfl;omega;rfl)|(apply VVal.load;rfl;rfl)|(apply VVal.pick_true;rfl;rfl)|(apply VVal.pick_false;rfl;rfl)|(apply VWp.condSeq_dec;rfl)|(apply VWp.cond_dec;rfl)|(intro _;try (exfalso;omega)))
   all_goals first|(exfalso;omega)|(refine Done.ret rfl (.refl _) (by exact PV.under_of rfl) HCov.nil (Nat.zero_le _) (Nat.le_refl _) ⟨?_,rfl,rfl⟩;try rfl)
  rw [if_neg h2] at e
  by_cases h0:k=0
  ·repeat' (first|apply VWp.rseq|apply VWp.region|apply VWp.skipSeq|apply VWp.blockSeq|apply QSeq.normal|apply QBlk.normal|apply VWp.skip|apply VWp.blockQ|apply VOps.nil|apply VOps.one|(apply VOps.take;rfl;rfl)|(apply VOps.drop;rfl;rfl;rfl)|(apply VOps.guard;rfl;rfl)|(apply VVal.assign;rfl)|(apply VVal.move;rfl)|(apply VVal.add64;rfl;rfl;omega)|(apply VVal.int;rfl;rfl;rfl)|(apply VVal.indexN;rfl;rfl;rfl;omega;rfl)|(apply VVal.load;rfl;rfl)|(apply VVal.pick_false;rfl;rfl)|(apply VWp.condSeq_dec;rfl)|(apply VWp.cond_false;rfl)|(apply VWp.cond_dec;rfl)|(intro _;try (exfalso;omega)))
   all_goals try (exfalso;omega)
   refine QLoop.normal ⟨(e.symm.trans hi),by first|omega|decide,?_,?_⟩
   ·repeat (first|exact LCov.nil|refine LCov.same (by exact PV.under_of rfl) rfl ?_|refine LCov.cons trivial rfl (.of_eq (lst_len (by simp<;>omega))) ?_)
   ·repeat (first|exact HCov.nil|(refine HCov.cons (lt_dec rfl) ?_ rfl ?_ ?_;(first|exact HB.under_of rfl|exact PVs.under_pure _ _|(simp [HB.under,PVs.under,PV.under]));(first|exact HLe.refl _|exact HLe.vec (FLes.refl _) (by simp))))
  ·repeat' (first|apply VWp.rseq|apply VWp.region|apply VWp.skipSeq|apply VWp.blockSeq|apply QSeq.normal|apply QBlk.normal|apply VWp.skip|apply VWp.blockQ|apply VOps.nil|apply VOps.one|(apply VOps.take;rfl;rfl)|(apply VOps.guard;rfl;rfl)|(apply VVal.indexN (l:=l) (i:=k-1);rfl;exact congrArg (fun b=>some (PV.p (.int .i64 b))) (hkc (by omega));rfl;omega;rfl)|(apply VVal.assign;rfl)|(apply VVal.move;rfl)|(apply VVal.add64;rfl;rfl;omega)|(apply VVal.sub64;rfl;rfl;omega)|(apply VVal.int;rfl;rfl;rfl)|(apply VVal.indexN;rfl;rfl;rfl;omega;rfl)|(apply VVal.load;rfl;rfl)|(apply VVal.pick_true;rfl;rfl)|(apply VVal.pick_false;rfl;rfl)|(apply VWp.condSeq_dec;rfl)|(apply VWp.cond_dec;rfl)|(intro _;try (exfalso;omega)))
   all_goals try (exfalso;omega)
   refine QLoop.normal ⟨(e.symm.trans hi),by first|omega|decide,?_,?_⟩
   ·repeat (first|exact LCov.nil|refine LCov.same (by exact PV.under_of rfl) rfl ?_|refine LCov.cons trivial rfl (.of_eq (lst_len (by simp<;>omega))) ?_)
   ·repeat (first|exact HCov.nil|(refine HCov.cons (lt_dec rfl) ?_ rfl ?_ ?_;(first|exact HB.under_of rfl|exact PVs.under_pure _ _|(simp [HB.under,PVs.under,PV.under]));(first|exact HLe.refl _|exact HLe.vec (FLes.refl _) (by simp))))
 ·intro hi
  rw [barK_end] at hi
  rw [← hi]
  repeat' (first|apply VWp.rseq|apply VWp.exitSeq|apply QSeq.normal|apply QBlk.exit|apply QLoop.exit|apply VWp.ret|apply VOps.nil|apply VOps.one|(apply VVal.assign;rfl)|(apply VVal.int;rfl;rfl;rfl)|(apply VWp.condSeq_dec;rfl)|(intro _;try (exfalso;omega)))
  all_goals first|(exfalso;omega)|(refine Done.ret rfl (.refl _) (by exact PV.under_of rfl) HCov.nil (Nat.zero_le _) (Nat.le_refl _) ⟨?_,rfl,rfl⟩;try rfl)
theorem ends_spec (p:Pce) (h0:0<p.bars.length) (hl:p.bars.length<1000000):VFun env 53 [.agg (Enc.enc p)] (.tup [.p (.int .i64 (fstB p)),.p (.int .i64 (endB p))]):=by
 have hkc:(p.bars.length:Int)-1=((p.bars.length-1:Nat):Int):=by omega
 unfold fstB endB
 refine VFun.enter (env_none (by decide)) Tryz.func53 rfl (by kernel_rfl) (by simp [Tryz.ntmps53]) ?_
 repeat' (first|apply VWp.rseq|apply VWp.rseqD|apply VWp.ret|apply VOps.nil|apply VOpsD.nil|apply VOps.one|(apply VOpsD.bar;decide +kernel)|apply VOpsD.quiet|(apply VVal.indexN (l:=p.bars) (i:=p.bars.length-1);rfl;exact congrArg (fun b=>some (PV.p (.int .i64 b))) hkc;rfl;omega;rfl)|(apply VVal.indexN (l:=p.bars) (i:=0);rfl;rfl;rfl;omega;rfl)|(apply VVal.assign;rfl)|(apply VVal.sub64;rfl;rfl;omega)|(apply VVal.load;rfl;rfl)|(apply VVal.lenF;rfl;rfl)|(apply VVal.fieldB;rfl;rfl;rfl)|(apply VVal.box;rfl;trivial))
 all_goals first|(exfalso;omega)|(refine Done.ret rfl (.refl _) (by exact PV.under_of rfl) HCov.nil (Nat.zero_le _) (Nat.le_refl _) ⟨?_,rfl,rfl⟩;try rfl)
abbrev nteB (n:Nte):HB:=.box 66 ((Enc.enc n).map .p)
theorem ixNteV (f:FuncId) (n:Nte) (l:List Nte) (z:Bool) (P:Nat→Bool) (hl:l.length<1000000) (hM:∀ k,VRead env f ([.p (.agg (Enc.enc (gi l k)))]++[.ref 0 0]) [(0,nteB n)] 1 (.bool (P k))) :
 VRead env 75 [.vec 1 l.length 0 l.length,.clo f [] [.ref 0 0]] [(0,nteB n),(1,.vec 66 (cells l) l.length z)] 2 (.int .i64 (firstI P l.length)):=by
 refine VRead.enter (env_none (by decide)) Tryz.func75 rfl (by kernel_rfl) (by simp [Tryz.ntmps75]) ?_
 repeat' (first|apply VWp.assoc|apply VWp.rseq|apply VWp.blockSeq|apply VOps.nil|apply VOps.one|(apply VVal.assign;rfl)|(apply VVal.move;rfl)|(apply VVal.lenV;rfl;rfl;rfl))
 all_goals try (exfalso;omega)
 apply VWp.loopRI (l.length) (fun k=>upI P l.length (l.length-k)=firstI P l.length) [(0,_),(1,_),(7,_)] [(0,_),(1,_)] (fun k r=>(8,.p (.int .i64 (k:Int)))::r) (fun k r=>r) 2
 ·first|omega|decide
 ·first|omega|decide
 ·repeat (first|exact LCov.nil|(refine LCov.eq rfl ?_ ?_;(first|exact PV.under_of rfl|(simp [PV.under,PVs.under];done)))|refine LCov.cons trivial rfl (.of_eq (lst_len (by simp<;>omega))) ?_)
 ·repeat (first|exact HCov.nil|(refine HCov.eq rfl (lt_dec rfl) ?_ ?_;(first|exact HB.under_of rfl|exact PVs.under_pure _ _|(simp [HB.under,PVs.under,PV.under];done)))|(refine HCov.cons (lt_dec rfl) ?_ rfl ?_ ?_;(first|exact trivial|exact PVs.under_pure _ _|(simp [HB.under,PVs.under,PV.under]));(first|exact HLe.refl _|exact HLe.vec (FLes.refl _) (by simp))))
 ·first|(intro _ _;omega)|omega|trivial
 ·intro k hk hi
  have hC:=hM k
  by_cases hp:P k=true
  ·rw [hp] at hC
   have e1:firstI P l.length=(k:Int):=by rw [← hi,upI_hit hk hp]
   rw [e1]
   repeat' (first|apply VWp.rseq|apply VWp.skipSeq|apply VWp.blockSeq|apply QSeq.ret|apply QBlk.ret|apply QLoop.ret|apply VWp.ret|apply VOps.nil|apply VOps.one|(apply VVal.read [0] hC;rfl;rfl;exact .of_eq rfl;exact PVs.under_of rfl;exact HUnder_of rfl;(repeat (first|exact trivial|refine ⟨⟨_,rfl,.of_eq rfl⟩,?_⟩));decide;(intro _ hb;simp at hb<;>omega);rfl)|(apply VVal.assign;rfl)|(apply VVal.move;rfl)|(apply VVal.int;rfl;rfl;rfl)|(apply VVal.loadVL;rfl;rfl;omega;rfl)|(apply VVal.indexVN;rfl;rfl;rfl;rfl;omega)|(apply VWp.condSeq_dec;rfl)|(apply VWp.cond_true;rfl)|(intro _;try (exfalso;omega)))
   all_goals first|(exfalso;omega)|contradiction|(refine Done.ret rfl (.refl _) trivial ?_ (by omega) (Nat.le_refl _) ⟨?_,rfl,rfl⟩;repeat (first|exact HCov.nil|(refine HCov.cons (lt_dec rfl) ?_ rfl ?_ ?_;(first|exact HB.under_of rfl|exact PVs.under_pure _ _|(simp [HB.under,PVs.under,PV.under]));(first|exact HLe.refl _|exact HLe.vec (FLes.refl _) (by simp))));try rfl)
  ·have hp':P k=false:=by simpa using hp
   rw [hp'] at hC
   repeat' (first|apply VWp.rseq|apply VWp.region|apply VWp.skipSeq|apply VWp.blockSeq|apply QSeq.normal|apply QBlk.normal|apply VWp.skip|apply VOps.nil|apply VOps.one|(apply VVal.read [0] hC;rfl;rfl;exact .of_eq rfl;exact PVs.under_of rfl;exact HUnder_of rfl;(repeat (first|exact trivial|refine ⟨⟨_,rfl,.of_eq rfl⟩,?_⟩));decide;(intro _ hb;simp at hb<;>omega);rfl)|(apply VVal.assign;rfl)|(apply VVal.move;rfl)|(apply VVal.add64;rfl;rfl;omega)|(apply VVal.int;rfl;rfl;rfl)|(apply VVal.loadVL;rfl;rfl;omega;rfl)|(apply VVal.indexVN;rfl;rfl;rfl;rfl;omega)|(apply VWp.condSeq_dec;rfl)|(apply VWp.cond_false;rfl)|(intro _;try (exfalso;omega)))
   all_goals try (exfalso;omega)
   all_goals try contradiction
   refine QLoop.normal ⟨((upI_skip hk hp').symm.trans hi),by first|omega|decide,?_,?_⟩
   ·repeat (first|exact LCov.nil|refine LCov.same (by exact PV.under_of rfl) rfl ?_|refine LCov.cons trivial rfl (.of_eq (lst_len (by simp<;>omega))) ?_)
   ·repeat (first|exact HCov.nil|(refine HCov.cons (lt_dec rfl) ?_ rfl ?_ ?_;(first|exact HB.under_of rfl|exact PVs.under_pure _ _|(simp [HB.under,PVs.under,PV.under]));(first|exact HLe.refl _|exact HLe.vec (FLes.refl _) (by simp))))
 ·intro hi
  have e1:firstI P l.length=-1:=by rw [← hi,Nat.sub_self];rfl
  rw [e1]
  repeat' (first|apply VWp.rseq|apply VWp.exitSeq|apply QSeq.normal|apply QBlk.exit|apply QLoop.exit|apply VWp.ret|apply VOps.nil|apply VOps.one|(apply VVal.assign;rfl)|(apply VVal.int;rfl;rfl;rfl)|(apply VWp.condSeq_dec;rfl)|(intro _;try (exfalso;omega)))
  all_goals first|(exfalso;omega)|(refine Done.ret rfl (.refl _) trivial ?_ (by omega) (Nat.le_refl _) ⟨?_,rfl,rfl⟩;repeat (first|exact HCov.nil|(refine HCov.cons (lt_dec rfl) ?_ rfl ?_ ?_;(first|exact HB.under_of rfl|exact PVs.under_pure _ _|(simp [HB.under,PVs.under,PV.under]));(first|exact HLe.refl _|exact HLe.vec (FLes.refl _) (by simp))));try rfl)
theorem firstI_any {α:Type} [Inhabited α] (f:α→Bool) (l:List α):decide (0≤firstI (fun k=>f (gi l k)) l.length)=l.any f:=by
 rw [Bool.eq_iff_iff,decide_eq_true_iff,List.any_eq_true]
 constructor
 ·intro h
  have h1:=upI_true (P:=fun k=>f (gi l k)) l.length (Nat.le_refl _) h
  have h2:=(upI_rng (fun k=>f (gi l k)) l.length l.length (Nat.le_refl _)).2
  refine ⟨_,?_,h1⟩
  have h3:upI (fun k=>f (gi l k)) l.length l.length=firstI (fun k=>f (gi l k)) l.length:=rfl
  generalize upI (fun k=>f (gi l k)) l.length l.length=u at *
  have h4:u.toNat<l.length:=by omega
  unfold gi
  rw [List.getElem?_eq_getElem h4]
  exact List.getElem_mem h4
 ·rintro ⟨x,hx,hf⟩
  obtain ⟨k,hk,rfl⟩:=List.mem_iff_getElem.1 hx
  refine upI_some (P:=fun k=>f (gi l k)) (k:=k) ?_ l.length (Nat.le_refl _) (by omega) hk
  unfold gi
  rw [List.getElem?_eq_getElem hk]
  exact hf
theorem anyNteV (f:FuncId) (n:Nte) (l:List Nte) (z:Bool) (g:Nte→Bool) (hl:l.length<1000000) (hM:∀ m,VRead env f ([.p (.agg (Enc.enc m))]++[.ref 0 0]) [(0,nteB n)] 1 (.bool (g m))) :
 VRead env 41 [.vec 1 l.length 0 l.length,.clo f [] [.ref 0 0]] [(0,nteB n),(1,.vec 66 (cells l) l.length z)] 2 (.bool (l.any g)):=by
 have hi:=ixNteV f n l z (fun k=>g (gi l k)) hl (fun k=>hM _)
 rw [← firstI_any g l]
 generalize firstI (fun k=>g (gi l k)) l.length=F at *
 refine VRead.enter (env_none (by decide)) Tryz.func41 rfl (by kernel_rfl) (by simp [Tryz.ntmps41]) ?_
 repeat' (first|apply VWp.rseq|apply VWp.ret|apply VOps.nil|apply VOps.one|(apply VVal.read [0,1] hi;rfl;rfl;exact .of_eq rfl;exact PVs.under_of rfl;exact HUnder_of rfl;(repeat (first|exact trivial|refine ⟨⟨_,rfl,.of_eq rfl⟩,?_⟩));decide;(intro _ hb;simp at hb<;>omega);rfl)|(apply VVal.assign;rfl)|(apply VVal.move;rfl)|(apply VVal.int;rfl;rfl;rfl))
 all_goals first|(exfalso;omega)|(refine Done.ret rfl (.refl _) trivial ?_ (by omega) (Nat.le_refl _) ⟨?_,rfl,rfl⟩;repeat (first|exact HCov.nil|(refine HCov.cons (lt_dec rfl) ?_ rfl ?_ ?_;(first|exact HB.under_of rfl|exact PVs.under_pure _ _|(simp [HB.under,PVs.under,PV.under]));(first|exact HLe.refl _|exact HLe.vec (FLes.refl _) (by simp))));try rfl)
def clash (n m:Nte):Bool:=decide (n.s<m.e)&&decide (m.s<n.e)
theorem clash_spec (n m:Nte):VRead env 84 ([.p (.agg (Enc.enc m))]++[.ref 0 0]) [(0,nteB n)] 1 (.bool (clash n m)):=by
 unfold clash
 refine VRead.enter (env_none (by decide)) Tryz.func84 rfl (by kernel_rfl) (by simp [Tryz.ntmps84]) ?_
 by_cases h1:n.s<m.e
 ·rw [decide_eq_true h1,Bool.true_and]
  repeat' (first|apply VWp.rseq|apply VWp.ret|apply VOps.nil|apply VOps.one|(apply VOps.take;rfl;rfl)|(apply VOps.guard;rfl;rfl)|(apply VVal.assign;rfl)|(apply VVal.move;rfl)|(apply VVal.int;rfl;rfl;rfl)|(apply VVal.load;rfl;rfl)|(apply VVal.pick_true;rfl;rfl)|(apply VVal.fieldB;rfl;rfl;rfl)|(apply VVal.box;rfl;trivial)|(intro _;try (exfalso;omega)))
  all_goals first|(exfalso;omega)|contradiction|(refine Done.ret rfl (.refl _) trivial ?_ (by omega) (Nat.le_refl _) ⟨?_,rfl,rfl⟩;repeat (first|exact HCov.nil|(refine HCov.cons (lt_dec rfl) ?_ rfl ?_ ?_;(first|exact HB.under_of rfl|exact PVs.under_pure _ _|(simp [HB.under,PVs.under,PV.under]));(first|exact HLe.refl _|exact HLe.vec (FLes.refl _) (by simp))));try rfl)
 ·rw [decide_eq_false h1,Bool.false_and]
  repeat' (first|apply VWp.rseq|apply VWp.ret|apply VOps.nil|apply VOps.one|(apply VOps.drop;rfl;rfl;rfl)|(apply VOps.guard;rfl;rfl)|(apply VVal.assign;rfl)|(apply VVal.move;rfl)|(apply VVal.int;rfl;rfl;rfl)|(apply VVal.load;rfl;rfl)|(apply VVal.pick_false;rfl;rfl)|(apply VVal.fieldB;rfl;rfl;rfl)|(apply VVal.box;rfl;trivial)|(intro _;try (exfalso;omega)))
  all_goals first|(exfalso;omega)|contradiction|(refine Done.ret rfl (.refl _) trivial ?_ (by omega) (Nat.le_refl _) ⟨?_,rfl,rfl⟩;repeat (first|exact HCov.nil|(refine HCov.cons (lt_dec rfl) ?_ rfl ?_ ?_;(first|exact HB.under_of rfl|exact PVs.under_pure _ _|(simp [HB.under,PVs.under,PV.under]));(first|exact HLe.refl _|exact HLe.vec (FLes.refl _) (by simp))));try rfl)
end Go.Proofs.YtnhdddmhkhdlhaaGreatDoor
namespace Go.Proofs.YtnhdddmhkhdlhaaGreatDoor
open Go Go.Am Go.Vm Go.Pie
abbrev Grp:=List ((Int×Int)×List Nte)
def keyN (n:Nte):Int×Int:=(n.d,n.k)
def addG (gs:Grp) (n:Nte):Grp:=putK gs (keyN n) ((lookK gs (keyN n)).getD []++[n])
def grpsK (l:List Nte):Nat→Grp
 |0=>[]
 |k+1=>addG (grpsK l k) (gi l k)
def grpL (gs:Grp) (i:Nat):List Nte:=((gs[i]?).map (·.2)).getD []
def entG (s:Nat):Grp→List ((Int×Int)×PV)
 |[]=>[]
 |x::gs=>(x.1,.vec s x.2.length 0 x.2.length)::entG (s+1) gs
def tlG (gs:Grp) (j:Nat):HB:=.vec 66 (cells (grpL gs j)) (grpL gs j).length true
theorem lookK_ent:∀ {s:Nat} {gs:Grp} {a:Int×Int},lookK (entG s gs) a=(lookK gs a).map fun l=>.vec (s+idxK gs a) l.length 0 l.length
 |s,[],a=>rfl
 |s,x::gs,a=>by
  unfold entG lookK idxK
  by_cases h:a=x.1
  ·simp only [if_pos h,Option.map_some,Nat.add_zero]
  ·simp only [if_neg h]
   rw [lookK_ent]
   congr 1
   funext l
   rw [show s+1+idxK gs a=s+(idxK gs a+1) by omega]
theorem putK_ent:∀ {s:Nat} {gs:Grp} {a:Int×Int} {l:List Nte},putK (entG s gs) a (.vec (s+idxK gs a) l.length 0 l.length)=entG s (putK gs a l)
 |s,[],a,l=>rfl
 |s,x::gs,a,l=>by
  unfold entG putK idxK
  by_cases h:a=x.1
  ·simp only [if_pos h,Nat.add_zero,entG]
  ·simp only [if_neg h,entG]
   rw [show s+(idxK gs a+1)=s+1+idxK gs a by omega,putK_ent]
theorem grpL_idx:∀ {gs:Grp} {a:Int×Int},grpL gs (idxK gs a)=(lookK gs a).getD []
 |[],a=>rfl
 |x::gs,a=>by
  unfold idxK lookK
  by_cases h:a=x.1
  ·simp only [if_pos h];rfl
  ·simp only [if_neg h]
   exact grpL_idx (gs:=gs)
theorem grpL_put:∀ {gs:Grp} {a:Int×Int} {l:List Nte} {j:Nat},grpL (putK gs a l) j=if j=idxK gs a then l else grpL gs j
 |[],a,l,j=>by
  unfold putK idxK grpL
  match j with
  |0=>rfl
  |j+1=>rfl
 |x::gs,a,l,j=>by
  unfold putK idxK
  by_cases h:a=x.1
  ·simp only [if_pos h]
   match j with
   |0=>rfl
   |j+1=>rfl
  ·simp only [if_neg h]
   match j with
   |0=>rfl
   |j+1 =>
    have:=grpL_put (gs:=gs) (a:=a) (l:=l) (j:=j)
    simp only [Nat.add_right_cancel_iff]
    exact this
theorem putK_length {α β:Type} [DecidableEq α]:∀ {es:List (α×β)} {a:α} {b:β},(putK es a b).length≤es.length+1
 |[],a,b=>by simp [putK]
 |x::es,a,b=>by
  unfold putK
  split
  ·simp
  ·have:=putK_length (es:=es) (a:=a) (b:=b)
   simp only [List.length_cons];omega
theorem grpsK_len (l:List Nte):∀ k,(grpsK l k).length≤k
 |0=>Nat.le_refl _
 |k+1=>by
  have:=grpsK_len l k
  have:=putK_length (es:=grpsK l k) (a:=keyN (gi l k)) (b:=(lookK (grpsK l k) (keyN (gi l k))).getD []++[gi l k])
  show (putK _ _ _).length≤_
  omega
theorem lookK_put {α β:Type} [DecidableEq α]:∀ {es:List (α×β)} {a c:α} {b:β},lookK (putK es a b) c=if c=a then some b else lookK es c
 |[],a,c,b=>rfl
 |x::es,a,c,b=>by
  unfold putK
  by_cases h:a=x.1
  ·rw [if_pos h]
   subst h
   unfold lookK
   by_cases h2:c=x.1
   ·rw [if_pos h2,if_pos h2]
   ·rw [if_neg h2,if_neg h2,if_neg h2]
  ·rw [if_neg h]
   unfold lookK
   by_cases h2:c=x.1
   ·rw [if_pos h2,if_pos h2,if_neg (fun e=>h (by rw [← e,h2]))]
   ·rw [if_neg h2,if_neg h2,lookK_put]
theorem look_grps (l:List Nte) (c:Int×Int):∀ k,k≤l.length→(lookK (grpsK l k) c).getD []=(l.take k).filter fun m=>decide (keyN m=c)
 |0,_=>rfl
 |k+1,hk=>by
  have ih:=look_grps l c k (by omega)
  have et:l.take (k+1)=l.take k++[gi l k]:=by
   rw [List.take_add_one]
   unfold gi
   rw [List.getElem?_eq_getElem (by omega:k<l.length)]
   rfl
  rw [et,List.filter_append,← ih]
  show (lookK (putK _ _ _) c).getD []=_
  rw [lookK_put]
  by_cases h:c=keyN (gi l k)
  ·rw [if_pos h,← h,List.filter_cons,decide_eq_true h.symm]
   rfl
  ·rw [if_neg h,List.filter_cons,decide_eq_false (fun e=>h e.symm)]
   simp
theorem clash_any (l:List Nte) (n:Nte) (k:Nat) (hk:k≤l.length):((lookK (grpsK l k) (keyN n)).getD []).any (clash n)=(l.take k).any fun m=>ovl m n:=by
 rw [look_grps l (keyN n) k hk,List.any_filter]
 congr 1
 funext m
 unfold clash ovl keyN
 by_cases h1:m.d=n.d<;>by_cases h2:m.k=n.k<;>by_cases h3:n.s<m.e<;>by_cases h4:m.s<n.e<;>simp [h1,h2,h3,h4]
def kfC (a:Int×Int):List FV:=[.int .i64 a.1,.int .i64 a.2]
def kvC (a:Int×Int):List Value:=[.int .i64 a.1,.int .i64 a.2]
theorem isKeyC:IsKey Tryz.prog 184 kfC kvC:=by
 obtain ⟨fs,hu⟩:∃ fs,Tryz.prog.underlying 184=some (.struct fs):=⟨_,rfl⟩
 refine IsKey.of_struct hu (by kernel_rfl) (fun a=>rfl) (fun a b=>?_) (fun a=>?_)
 ·have hu2:some (TypeDesc.struct fs)=Tryz.prog.underlying 184:=hu.symm
  cases hu2
  show some (decide (a.1=b.1)&&(decide (a.2=b.2)&&true))=_
  obtain ⟨a1,a2⟩:=a
  obtain ⟨b1,b2⟩:=b
  by_cases h1:a1=b1<;>by_cases h2:a2=b2<;>simp [h1,h2]
 ·have hu2:some (TypeDesc.struct fs)=Tryz.prog.underlying 184:=hu.symm
  cases hu2
  rfl
theorem ent_under {k:Nat}:∀ {s:Nat} {gs:Grp},s+gs.length≤k→PVs.under k ((entG s gs).map (·.2))
 |s,[],_=>trivial
 |s,x::gs,h=>by
  simp only [List.length_cons] at h
  exact ⟨by show s<k;omega,ent_under (s:=s+1) (gs:=gs) (by omega)⟩
theorem foundG {E:Env} {H:Heap} {nx s:Nat} {gs:Grp} {a:Int×Int} {g:List Nte} {i:Nat} (hi:i=idxK gs a) (hgl:g=grpL gs i) (hg:hget H (s+i)=some (.vec 66 (cells g) g.length true)):FoundK E H nx (entG s gs) a nilSlice (.vec (s+i) g.length 0 g.length):=by
 subst hi
 subst hgl
 have e:=grpL_idx (gs:=gs) (a:=a)
 cases hl:lookK gs a with
 |some l =>
  rw [hl] at e
  simp only [Option.getD_some] at e
  rw [e]
  exact .inl (by rw [lookK_ent,hl];rfl)
 |none =>
  rw [hl] at e
  simp only [Option.getD_none] at e
  rw [e] at hg ⊢
  exact FoundK.nilVec (by rw [lookK_ent,hl];rfl) hg
theorem ent_add {s:Nat} {gs:Grp} {n:Nte} {g:List Nte} {i:Nat} (hi:i=idxK gs (keyN n)) (hgl:g=grpL gs i):putK (entG s gs) (keyN n) (.vec (s+i) (g.length+1) 0 (g.length+1))=entG s (addG gs n):=by
 subst hi
 subst hgl
 unfold addG
 rw [← putK_ent,grpL_idx]
 simp
theorem tl_add {gs:Grp} {n:Nte} {g:List Nte} {i:Nat} (hi:i=idxK gs (keyN n)) (hgl:g=grpL gs i) (j:Nat):(if j=i then .vec 66 (cells (g++[n])) (g.length+1) true else tlG gs j)=tlG (addG gs n) j:=by
 subst hi
 subst hgl
 unfold tlG addG
 rw [grpL_put]
 by_cases h:j=idxK gs (keyN n)
 ·rw [if_pos h,if_pos h,grpL_idx]
  simp
 ·rw [if_neg h,if_neg h]
end Go.Proofs.YtnhdddmhkhdlhaaGreatDoor
namespace Go.Proofs.YtnhdddmhkhdlhaaGreatDoor
open Go Go.Am Go.Vm Go.Pie
attribute [local irreducible] VVal VOps VOpsD VWp VCalls VFun VFunV QSeq QBlk QLoop Vm.Done DoneV DoneI
attribute [local irreducible] rchk windsE stoE dvsE cplE shiftR tailH
def nteH (o:Org) (p:Pce) (G:Grp):Heap:=(2,mapK kfC (entG 3 G))::(1,.box 45 ((Enc.enc p).map .p))::(0,.box 40 ((Enc.enc o).map .p))::tailH 3 1000 (tlG G)
theorem notes_spec (o:Org) (p:Pce) (hs:PceSm p) (h2:2≤p.bars.length) (ho:o.divs.length<1000000):VFun env 51 [.agg (Enc.enc o),.agg (Enc.enc p)] (.p (.int .i64 (if p.notes.length>1000 then 4 else notesK o (fstB p) (endB p) p.notes 0))):=by
 have b1:=hs.notes
 have hen:=ends_spec p (by omega) hs.bars
 refine VFun.enter (env_none (by decide)) Tryz.func51 rfl (by kernel_rfl) (by simp [Tryz.ntmps51]) ?_
 by_cases c1:p.notes.length>1000
 ·rw [if_pos c1]
  repeat' (first|apply VWp.assoc|apply VWp.rseq|apply VWp.retSeq|apply VOps.nil|apply VOps.one|(apply VVal.assign;rfl)|(apply VVal.int;rfl;rfl;rfl)|(apply VVal.load;rfl;rfl)|(apply VVal.lenF;rfl;rfl)|(apply VVal.fieldB;rfl;rfl;rfl)|(apply VVal.box;rfl;trivial)|(apply VWp.condSeq_dec;rfl)|(intro _;try (exfalso;omega)))
  all_goals first|(exfalso;omega)|(refine Done.ret rfl (.refl _) (by exact PV.under_of rfl) HCov.nil (Nat.zero_le _) (Nat.le_refl _) ⟨?_,rfl,rfl⟩;try rfl)
 rw [if_neg c1]
 obtain ⟨E,hE⟩:∃ E,E=notesK o (fstB p) (endB p) p.notes 0:=⟨_,rfl⟩
 rw [← hE]
 repeat' (first|apply VWp.assoc|apply VWp.rseq|apply VWp.skipSeq|apply VWp.blockSeq|apply VOps.nil|apply VOps.one|(apply VVal.fn;rfl;rfl;exact hen;intro _;rfl)|(apply VVal.makeMapp)|(apply VVal.assign;rfl)|(apply VVal.move;rfl)|(apply VVal.int;rfl;rfl;rfl)|(apply VVal.load;rfl;rfl)|(apply VVal.lenF;rfl;rfl)|(apply VVal.fieldB;rfl;rfl;rfl)|(apply VVal.box;rfl;trivial)|(apply VVal.extract;rfl;rfl)|(apply VWp.condSeq_dec;rfl)|(intro _;try (exfalso;omega)))
 all_goals try (exfalso;omega)
 refine VWp.ghost (Ghost.freshN 66 1000 (hlt_cons (by decide) (hlt_cons (by decide) (hlt_cons (by decide) hlt_nil)))) ?_
 apply VWp.loopRI (p.notes.length) (fun k=>notesK o (fstB p) (endB p) p.notes k=E) [(2,_),(3,_),(5,_),(6,_),(7,_),(23,_),(24,_)] [] (fun k r=>(25,.p (.int .i64 (k:Int)))::r) (fun k _=>nteH o p (grpsK p.notes k)) 1003
 ·first|omega|decide
 ·first|omega|decide
 ·repeat (first|exact LCov.nil|(refine LCov.eq rfl ?_ ?_;(first|exact PV.under_of rfl|(simp [PV.under,PVs.under];done)))|refine LCov.cons trivial rfl (.of_eq (lst_len (by simp<;>omega))) ?_)
 ·refine ⟨⟨lt_dec rfl,trivial,_,rfl,.refl _⟩,⟨lt_dec rfl,PVs.under_pure _ _,_,rfl,.refl _⟩,⟨lt_dec rfl,PVs.under_pure _ _,_,rfl,.refl _⟩,HCov.tail (fun j hj=>?_) (by omega) (fun j hj=>trivial)⟩
  refine hget_skip (by omega) (hget_skip (by omega) (hget_skip (by omega) ?_))
  exact hget_tail hj
 ·exact hE.symm
 ·intro k hk hi
  have e:=notesK_at (o:=o) (a:=fstB p) (z:=endB p) hk
  have hca:=clash_any p.notes (gi p.notes k) k (by omega)
  have hgl:=grpsK_len p.notes k
  have hgl1:=grpsK_len p.notes (k+1)
  have hLk:=look_grps p.notes (keyN (gi p.notes k)) k (by omega)
  have hGs:addG (grpsK p.notes k) (gi p.notes k)=grpsK p.notes (k+1):=rfl
  unfold noteE at e
  generalize grpsK p.notes k=G at *
  obtain ⟨i,hii⟩:∃ i,i=idxK G (keyN (gi p.notes k)):=⟨_,rfl⟩
  obtain ⟨g,hg⟩:∃ g,g=grpL G i:=⟨_,rfl⟩
  have hi1:i<1000:=by have:=(lookK_idx (es:=G) (a:=keyN (gi p.notes k))).1;omega
  have hgt:hget (nteH o p G) (3+i)=some (.vec 66 (cells g) g.length true):=hget_skip (by omega) (hget_skip (by omega) (hget_skip (by omega) (by rw [hget_tail hi1,hg];rfl)))
  have hpt:∀ y,hput (nteH o p G) (3+i) y=(2,mapK kfC (entG 3 G))::(1,.box 45 ((Enc.enc p).map .p))::(0,.box 40 ((Enc.enc o).map .p))::tailH 3 1000 (fun j=>if j=i then y else tlG G j):=fun y=>hput_skip (by omega) (hput_skip (by omega) (hput_skip (by omega) (hput_tail hi1)))
  have hgg:g=(lookK G (keyN (gi p.notes k))).getD []:=by rw [hg,hii,grpL_idx]
  have hgn:g.length≤k:=by
   rw [hgg,hLk]
   exact Nat.le_trans (List.length_filter_le _ _) (by rw [List.length_take];omega)
  rw [← hgg] at hca
  have hcl:=anyNteV 84 (gi p.notes k) g true (clash (gi p.notes k)) (by omega) (clash_spec (gi p.notes k))
  rw [hca] at hcl
  by_cases h1:(gi p.notes k).d<0∨(gi p.notes k).d≥o.divs.length
  ·rw [if_pos h1,if_pos (by decide)] at e
   rw [← hi,e]
   repeat' (first|apply VWp.assoc|apply VWp.rseq|apply VWp.skipSeq|apply VWp.retSeq|apply VWp.blockSeq|apply QSeq.ret|apply QBlk.ret|apply QLoop.ret|apply VOps.nil|apply VOps.one|(apply VOps.take;rfl;rfl)|(apply VOps.drop;rfl;rfl;rfl)|(apply VOps.guard;rfl;rfl)|(apply VVal.assign;rfl)|(apply VVal.move;rfl)|(apply VVal.int;rfl;rfl;rfl)|(apply VVal.indexN;rfl;rfl;rfl;omega;rfl)|(apply VVal.load;rfl;rfl)|(apply VVal.pick_true;rfl;rfl)|(apply VVal.pick_false;rfl;rfl)|(apply VVal.lenF;rfl;rfl)|(apply VVal.fieldB;rfl;rfl;rfl)|(apply VVal.alloc;rfl)|(apply VVal.storeB;rfl;rfl;rfl;trivial;rfl;rfl;exact lt_dec rfl;exact le_dec rfl)|(apply VWp.condSeq_true;rfl)|(apply VWp.condSeq_dec;rfl)|(intro _;try (exfalso;omega)))
   all_goals first|(exfalso;omega)|(refine Done.ret rfl (.refl _) (by exact PV.under_of rfl) HCov.nil (Nat.zero_le _) (Nat.le_refl _) ⟨?_,rfl,rfl⟩;try rfl)
  rw [if_neg h1] at e
  by_cases h2:(gi p.notes k).k<(gi o.divs (gi p.notes k).d.toNat).lo∨(gi p.notes k).k>(gi o.divs (gi p.notes k).d.toNat).hi
  ·rw [if_pos h2,if_pos (by decide)] at e
   rw [← hi,e]
   repeat' (first|apply VWp.assoc|apply VWp.rseq|apply VWp.skipSeq|apply VWp.blockSeq|apply QSeq.ret|apply QBlk.ret|apply QLoop.ret|apply VWp.ret|apply VOps.nil|apply VOps.one|(apply VOps.take;rfl;rfl)|(apply VOps.drop;rfl;rfl;rfl)|(apply VOps.guard;rfl;rfl)|(apply VVal.assign;rfl)|(apply VVal.move;rfl)|(apply VVal.int;rfl;rfl;rfl)|(apply VVal.indexN;rfl;rfl;rfl;omega;rfl)|(apply VVal.indexE;rfl;rfl;rfl;omega;omega;rfl)|(apply VVal.load;rfl;rfl)|(apply VVal.pick_true;rfl;rfl)|(apply VVal.pick_false;rfl;rfl)|(apply VVal.lenF;rfl;rfl)|(apply VVal.fieldB;rfl;rfl;rfl)|(apply VVal.fieldF;rfl;rfl)|(apply VVal.alloc;rfl)|(apply VVal.storeB;rfl;rfl;rfl;trivial;rfl;rfl;exact lt_dec rfl;exact le_dec rfl)|(apply VVal.build;rfl;rfl;rfl;rfl;rfl)|(apply VWp.condSeq_dec;rfl)|(apply VWp.cond_true;rfl)|(apply VWp.cond_dec;rfl)|(intro _;try (exfalso;omega)))
   all_goals first|(exfalso;omega)|(refine Done.ret rfl (.refl _) (by exact PV.under_of rfl) HCov.nil (Nat.zero_le _) (Nat.le_refl _) ⟨?_,rfl,rfl⟩;try rfl)
  rw [if_neg h2] at e
  by_cases h3:(gi p.notes k).s<fstB p∨(gi p.notes k).e>endB p
  ·rw [if_pos h3,if_pos (by decide)] at e
   rw [← hi,e]
   repeat' (first|apply VWp.assoc|apply VWp.rseq|apply VWp.skipSeq|apply VWp.blockSeq|apply QSeq.ret|apply QBlk.ret|apply QLoop.ret|apply VWp.ret|apply VOps.nil|apply VOps.one|(apply VOps.take;rfl;rfl)|(apply VOps.drop;rfl;rfl;rfl)|(apply VOps.guard;rfl;rfl)|(apply VVal.assign;rfl)|(apply VVal.move;rfl)|(apply VVal.int;rfl;rfl;rfl)|(apply VVal.indexN;rfl;rfl;rfl;omega;rfl)|(apply VVal.indexE;rfl;rfl;rfl;omega;omega;rfl)|(apply VVal.load;rfl;rfl)|(apply VVal.pick_true;rfl;rfl)|(apply VVal.pick_false;rfl;rfl)|(apply VVal.lenF;rfl;rfl)|(apply VVal.fieldB;rfl;rfl;rfl)|(apply VVal.fieldF;rfl;rfl)|(apply VVal.alloc;rfl)|(apply VVal.storeB;rfl;rfl;rfl;trivial;rfl;rfl;exact lt_dec rfl;exact le_dec rfl)|(apply VVal.build;rfl;rfl;rfl;rfl;rfl)|(apply VWp.condSeq_dec;rfl)|(apply VWp.cond_true;rfl)|(apply VWp.cond_dec;rfl)|(intro _;try (exfalso;omega)))
   all_goals first|(exfalso;omega)|(refine Done.ret rfl (.refl _) (by exact PV.under_of rfl) HCov.nil (Nat.zero_le _) (Nat.le_refl _) ⟨?_,rfl,rfl⟩;try rfl)
  rw [if_neg h3] at e
  by_cases h4:(gi p.notes k).s≥(gi p.notes k).e
  ·rw [if_pos h4,if_pos (by decide)] at e
   rw [← hi,e]
   repeat' (first|apply VWp.assoc|apply VWp.rseq|apply VWp.skipSeq|apply VWp.blockSeq|apply QSeq.ret|apply QBlk.ret|apply QLoop.ret|apply VWp.ret|apply VOps.nil|apply VOps.one|(apply VOps.take;rfl;rfl)|(apply VOps.guard;rfl;rfl)|(apply VVal.assign;rfl)|(apply VVal.move;rfl)|(apply VVal.int;rfl;rfl;rfl)|(apply VVal.indexN;rfl;rfl;rfl;omega;rfl)|(apply VVal.indexE;rfl;rfl;rfl;omega;omega;rfl)|(apply VVal.load;rfl;rfl)|(apply VVal.pick_false;rfl;rfl)|(apply VVal.lenF;rfl;rfl)|(apply VVal.fieldB;rfl;rfl;rfl)|(apply VVal.fieldF;rfl;rfl)|(apply VVal.alloc;rfl)|(apply VVal.storeB;rfl;rfl;rfl;trivial;rfl;rfl;exact lt_dec rfl;exact le_dec rfl)|(apply VVal.build;rfl;rfl;rfl;rfl;rfl)|(apply VWp.condSeq_dec;rfl)|(apply VWp.cond_dec;rfl)|(intro _;try (exfalso;omega)))
   all_goals first|(exfalso;omega)|(refine Done.ret rfl (.refl _) (by exact PV.under_of rfl) HCov.nil (Nat.zero_le _) (Nat.le_refl _) ⟨?_,rfl,rfl⟩;try rfl)
  rw [if_neg h4] at e
  by_cases h5:(p.notes.take k).any (fun m=>ovl m (gi p.notes k))=true
  ·rw [if_pos h5,if_pos (by decide)] at e
   rw [h5] at hcl
   rw [← hi,e]
   repeat' (first|apply VWp.assoc|apply VWp.rseq|apply VWp.skipSeq|apply VWp.blockSeq|apply QSeq.ret|apply QBlk.ret|apply QLoop.ret|apply VWp.ret|apply VOps.nil|apply VOps.one|(apply VOps.take;rfl;rfl)|(apply VOps.guard;rfl;rfl)|(apply VVal.lookupK (a:=keyN (gi p.notes k)) (z:=nilSlice) isKeyC;rfl;rfl;rfl;rfl;rfl;rfl;exact foundG hii hg (by (repeat (first|exact hgt|(refine hget_put_ne (by omega) ?_)|(refine hget_skip (by omega) ?_)))))|(apply VVal.readX [1003,3+i] hcl;rfl;rfl;exact .of_eq rfl;exact PVs.under_of rfl;exact HUnder_of rfl;exact ⟨rfl,(show hget _ (3+i)=some (HB.vec 66 (cells g) g.length true) from by (repeat (first|exact hgt|(refine hget_put_ne (by omega) ?_)|(refine hget_skip (by omega) ?_)))),trivial⟩;rfl;(simp;omega);(intro _ hb;simp at hb;omega))|(apply VVal.makeFunc;rfl;rfl)|(apply VVal.assign;rfl)|(apply VVal.move;rfl)|(apply VVal.int;rfl;rfl;rfl)|(apply VVal.indexN;rfl;rfl;rfl;omega;rfl)|(apply VVal.indexE;rfl;rfl;rfl;omega;omega;rfl)|(apply VVal.load;rfl;rfl)|(apply VVal.pick_false;rfl;rfl)|(apply VVal.lenF;rfl;rfl)|(apply VVal.fieldB;rfl;rfl;rfl)|(apply VVal.fieldF;rfl;rfl)|(apply VVal.alloc;rfl)|(apply VVal.storeB;rfl;rfl;rfl;trivial;rfl;rfl;exact lt_dec rfl;exact le_dec rfl)|(apply VVal.build;rfl;rfl;rfl;rfl;rfl)|(apply VWp.condSeq_dec;rfl)|(apply VWp.cond_true;rfl)|(apply VWp.cond_dec;rfl)|(intro _;try (exfalso;omega)))
   all_goals first|(exfalso;omega)|(refine Done.ret rfl (.refl _) (by exact PV.under_of rfl) HCov.nil (Nat.zero_le _) (Nat.le_refl _) ⟨?_,rfl,rfl⟩;try rfl)
  have h5:(p.notes.take k).any (fun m=>ovl m (gi p.notes k))=false:=by simpa using h5
  rw [h5,if_neg (by decide)] at e
  rw [h5] at hcl
  repeat' (first|apply VWp.assoc|apply VWp.rseq|apply VWp.region|apply VWp.skipSeq|apply VWp.blockSeq|apply QSeq.normal|apply QBlk.normal|apply VWp.skip|apply VOps.nil|apply VOps.one|(apply VOps.take;rfl;rfl)|(apply VOps.guard;rfl;rfl)|(apply VVal.lookupK (a:=keyN (gi p.notes k)) (z:=nilSlice) isKeyC;rfl;rfl;rfl;rfl;rfl;rfl;exact foundG hii hg (by (repeat (first|exact hgt|(refine hget_put_ne (by omega) ?_)|(refine hget_skip (by omega) ?_)))))|(apply VVal.readX [1003,3+i] hcl;rfl;rfl;exact .of_eq rfl;exact PVs.under_of rfl;exact HUnder_of rfl;exact ⟨rfl,(show hget _ (3+i)=some (HB.vec 66 (cells g) g.length true) from by (repeat (first|exact hgt|(refine hget_put_ne (by omega) ?_)|(refine hget_skip (by omega) ?_)))),trivial⟩;rfl;(simp;omega);(intro _ hb;simp at hb;omega))|(apply VVal.makeFunc;rfl;rfl)|(apply VVal.entryK (a:=keyN (gi p.notes k)) (es:=entG 3 G) (z:=nilSlice) isKeyC;rfl;rfl;rfl;rfl;rfl;rfl;exact foundG hii hg (by (repeat (first|exact hgt|(refine hget_put_ne (by omega) ?_)|(refine hget_skip (by omega) ?_))));rfl)|(apply VVal.append1X (l:=g) (a:=gi p.notes k);rfl;((repeat (first|exact hgt|(refine hget_put_ne (by omega) ?_)|(refine hget_skip (by omega) ?_))));rfl;rfl;rfl;rfl;rfl;rfl;(intro _ h;cases h);rfl;rfl;rfl;decide;decide;omega;((repeat (first|exact hpt _|(apply hput_put_ne;omega)|(apply hput_skip;omega)))))|(apply VVal.entrySetK (a:=keyN (gi p.notes k)) (es:=entG 3 G) isKeyC;rfl;rfl;rfl;rfl;rfl)|(apply VVal.assign;rfl)|(apply VVal.move;rfl)|(apply VVal.add64;rfl;rfl;omega)|(apply VVal.int;rfl;rfl;rfl)|(apply VVal.indexN;rfl;rfl;rfl;omega;rfl)|(apply VVal.indexE;rfl;rfl;rfl;omega;omega;rfl)|(apply VVal.load;rfl;rfl)|(apply VVal.pick_false;rfl;rfl)|(apply VVal.lenF;rfl;rfl)|(apply VVal.fieldB;rfl;rfl;rfl)|(apply VVal.fieldF;rfl;rfl)|(apply VVal.alloc;rfl)|(apply VVal.storeB;rfl;rfl;rfl;trivial;rfl;rfl;exact lt_dec rfl;exact le_dec rfl)|(apply VVal.build;rfl;rfl;rfl;rfl;rfl)|(apply VVal.buildSlice;rfl;rfl;rfl;decide;rfl;rfl;rfl)|(apply VVal.extract;rfl;rfl)|(apply VWp.condSeq_dec;rfl)|(apply VWp.cond_false;rfl)|(apply VWp.cond_dec;rfl)|(intro _;try (exfalso;omega)))
  all_goals try (exfalso;omega)
  refine QLoop.normal ⟨e.symm.trans hi,by first|omega|decide,?_,?_⟩
  ·repeat (first|exact LCov.nil|refine LCov.same (by exact PV.under_of rfl) rfl ?_|refine LCov.cons trivial rfl (.of_eq (lst_len (by simp<;>omega))) ?_)
  ·show HCov 1003 (nteH o p (grpsK p.notes (k+1))) _
   rw [← hGs] at hgl1 ⊢
   refine ⟨⟨lt_dec rfl,ent_under (by omega),_,rfl,.of_eq (congrArg (mapK kfC) (ent_add hii hg))⟩,⟨lt_dec rfl,PVs.under_pure _ _,_,rfl,.refl _⟩,⟨lt_dec rfl,PVs.under_pure _ _,_,rfl,.refl _⟩,HCov.tail (fun j hj=>?_) (by omega) (fun j hj=>trivial)⟩
   repeat (first|(refine hget_put_ne (by omega) ?_)|(refine hget_skip (by omega) ?_))
   rw [hget_tail hj]
   exact congrArg some (tl_add hii hg j)
 ·intro hi
  rw [notesK_end] at hi
  rw [← hi]
  repeat' (first|apply VWp.rseq|apply VWp.exitSeq|apply QSeq.normal|apply QBlk.exit|apply QLoop.exit|apply VWp.ret|apply VOps.nil|apply VOps.one|(apply VVal.assign;rfl)|(apply VVal.int;rfl;rfl;rfl)|(apply VWp.condSeq_dec;rfl)|(intro _;try (exfalso;omega)))
  all_goals first|(exfalso;omega)|(refine Done.ret rfl (.refl _) (by exact PV.under_of rfl) HCov.nil (Nat.zero_le _) (Nat.le_refl _) ⟨?_,rfl,rfl⟩;try rfl)
end Go.Proofs.YtnhdddmhkhdlhaaGreatDoor
namespace Go.Proofs.YtnhdddmhkhdlhaaGreatDoor
open Go Go.Am Go.Vm Go.Pie
attribute [local irreducible] VVal VOps VOpsD VWp VCalls VFun VFunV QSeq QBlk QLoop Vm.Done DoneV DoneI
attribute [local irreducible] rchk windsE stoE dvsE cplE shiftR
theorem regK_spec (o:Org) (ho:OrgK o) (r:Rgs) (hr:r.Ok):VFun env 52 [.agg (Enc.enc o),.agg (Enc.enc r)] (.p (.int .i64 (regE o r))):=by
 have r2:=ho.divs
 have r3:=ho.cpls
 have c1:=hr.cp
 have c2:=hr.off
 have c3:=hr.len
 have hc:=ocheck_spec o ho.sm
 rw [ho.err] at hc
 refine VFun.enter (env_none (by decide)) Tryz.func52 rfl (by kernel_rfl) (by simp [Tryz.ntmps52]) ?_
 by_cases h1:r.stops.length=o.divs.length
 case neg =>
  rw [regE_len h1]
  repeat' (first|apply VWp.assoc|apply VWp.rseq|apply VWp.skipSeq|apply VWp.retSeq|apply VOps.nil|apply VOps.one|(apply VVal.fn;rfl;rfl;exact hc;intro _;rfl)|(apply VVal.assign;rfl)|(apply VVal.move;rfl)|(apply VVal.int;rfl;rfl;rfl)|(apply VVal.load;rfl;rfl)|(apply VVal.lenF;rfl;rfl)|(apply VVal.fieldB;rfl;rfl;rfl)|(apply VVal.box;rfl;trivial)|(apply VWp.condSeq_false;rfl)|(apply VWp.condSeq_dec;rfl)|(intro _;try (exfalso;omega)))
  all_goals first|(exfalso;omega)|contradiction|(refine Done.ret rfl (.refl _) (by exact PV.under_of rfl) HCov.nil (Nat.zero_le _) (Nat.le_refl _) ⟨?_,rfl,rfl⟩;try rfl)
 by_cases h2:∀ i,i<r.stops.length→gi r.stops i / 2 ^ (gi o.divs i).stops.length=0
 case neg =>
  obtain ⟨i,hi⟩:=Classical.not_forall.1 h2
  obtain ⟨hi,h3⟩:=Classical.not_imp.1 hi
  rw [regE_bad h1 hi h3]
  clear h2
  repeat' (first|apply VWp.assoc|apply VWp.rseq|apply VWp.skipSeq|apply VWp.blockSeq|apply VOps.nil|apply VOps.one|(apply VVal.fn;rfl;rfl;exact hc;intro _;rfl)|(apply VVal.assign;rfl)|(apply VVal.move;rfl)|(apply VVal.int;rfl;rfl;rfl)|(apply VVal.load;rfl;rfl)|(apply VVal.lenF;rfl;rfl)|(apply VVal.fieldB;rfl;rfl;rfl)|(apply VVal.box;rfl;trivial)|(apply VWp.condSeq_false;rfl)|(apply VWp.condSeq_dec;rfl)|(intro _;try (exfalso;omega)))
  all_goals try (exfalso;omega)
  all_goals try contradiction
  apply VWp.loopRI (o.divs.length) (fun k=>∀ i,i<k→gi r.stops i / 2 ^ (gi o.divs i).stops.length=0) [(2,_),(3,_),(21,_),(22,_)] [(0,_),(1,_)] (fun k r=>(23,.p (.int .i64 (k:Int)))::r) (fun k r=>r) 2
  ·first|omega|decide
  ·first|omega|decide
  ·repeat (first|exact LCov.nil|(refine LCov.eq rfl ?_ ?_;(first|exact PV.under_of rfl|(simp [PV.under,PVs.under];done)))|refine LCov.cons trivial rfl (.of_eq (lst_len (by simp<;>omega))) ?_)
  ·repeat (first|exact HCov.nil|(refine HCov.eq rfl (lt_dec rfl) ?_ ?_;(first|exact HB.under_of rfl|exact PVs.under_pure _ _|(simp [HB.under,PVs.under,PV.under];done)))|(refine HCov.cons (lt_dec rfl) ?_ rfl ?_ ?_;(first|exact trivial|exact PVs.under_pure _ _|(simp [HB.under,PVs.under,PV.under]));(first|exact HLe.refl _|exact HLe.vec (FLes.refl _) (by simp))))
  ·first|(intro _ _;omega)|omega|trivial
  ·intro k hk hok
   have s3:=ho.stops k (by omega)
   have rk:=hr.stops k (by omega)
   by_cases hb:gi r.stops k / 2 ^ (gi o.divs k).stops.length=0
   ·repeat' (first|apply VWp.rseq|apply VWp.rseqD|apply VWp.region|apply VWp.skipSeq|apply VWp.blockSeq|apply QSeq.normal|apply QBlk.normal|apply VWp.skip|apply VOps.nil|apply VOpsD.nil|apply VOps.one|(apply VOpsD.bar;decide +kernel)|apply VOpsD.quiet|(apply VVal.assign;rfl)|(apply VVal.move;rfl)|(apply VVal.add64;rfl;rfl;omega)|(apply VVal.int;rfl;rfl;rfl)|(apply VVal.indexN;rfl;rfl;rfl;omega;rfl)|(apply VVal.load;rfl;rfl)|(apply VVal.lenF;rfl;rfl)|(apply VVal.fieldB;rfl;rfl;rfl)|(apply VVal.alloc;rfl)|(apply VVal.storeB;rfl;rfl;rfl;trivial;rfl;rfl;exact lt_dec rfl;exact le_dec rfl)|(apply VVal.shrN;rfl;rfl;(simp only [IntKind.bits];omega))|(apply VWp.condSeq_dec;rfl)|(apply VWp.cond_dec;rfl)|(intro _;try (exfalso;omega)))
    all_goals try (exfalso;omega)
    all_goals try contradiction
    refine QLoop.normal ⟨(all_succ hok hb),by first|omega|decide,?_,?_⟩
    ·repeat (first|exact LCov.nil|refine LCov.same (by exact PV.under_of rfl) rfl ?_|refine LCov.cons trivial rfl (.of_eq (lst_len (by simp<;>omega))) ?_)
    ·repeat (first|exact HCov.nil|(refine HCov.cons (lt_dec rfl) ?_ rfl ?_ ?_;(first|exact HB.under_of rfl|exact PVs.under_pure _ _|(simp [HB.under,PVs.under,PV.under]));(first|exact HLe.refl _|exact HLe.vec (FLes.refl _) (by simp))))
   ·repeat' (first|apply VWp.rseq|apply VWp.rseqD|apply VWp.skipSeq|apply VWp.blockSeq|apply QSeq.ret|apply QBlk.ret|apply QLoop.ret|apply VWp.ret|apply VOps.nil|apply VOpsD.nil|apply VOps.one|(apply VOpsD.bar;decide +kernel)|apply VOpsD.quiet|(apply VVal.assign;rfl)|(apply VVal.move;rfl)|(apply VVal.int;rfl;rfl;rfl)|(apply VVal.indexN;rfl;rfl;rfl;omega;rfl)|(apply VVal.load;rfl;rfl)|(apply VVal.lenF;rfl;rfl)|(apply VVal.fieldB;rfl;rfl;rfl)|(apply VVal.alloc;rfl)|(apply VVal.storeB;rfl;rfl;rfl;trivial;rfl;rfl;exact lt_dec rfl;exact le_dec rfl)|(apply VVal.shrN;rfl;rfl;(simp only [IntKind.bits];omega))|(apply VWp.condSeq_dec;rfl)|(apply VWp.cond_dec;rfl)|(intro _;try (exfalso;omega)))
    all_goals first|(exfalso;omega)|contradiction|(refine Done.ret rfl (.refl _) (by exact PV.under_of rfl) HCov.nil (Nat.zero_le _) (Nat.le_refl _) ⟨?_,rfl,rfl⟩;try rfl)
  ·intro hok
   exact absurd (hok i (by omega)) h3
 rw [regE_rest h1 h2]
 repeat' (first|apply VWp.assoc|apply VWp.rseq|apply VWp.skipSeq|apply VWp.blockSeq|apply VOps.nil|apply VOps.one|(apply VVal.fn;rfl;rfl;exact hc;intro _;rfl)|(apply VVal.assign;rfl)|(apply VVal.move;rfl)|(apply VVal.int;rfl;rfl;rfl)|(apply VVal.load;rfl;rfl)|(apply VVal.lenF;rfl;rfl)|(apply VVal.fieldB;rfl;rfl;rfl)|(apply VVal.box;rfl;trivial)|(apply VWp.condSeq_false;rfl)|(apply VWp.condSeq_dec;rfl)|(intro _;try (exfalso;omega)))
 all_goals try (exfalso;omega)
 all_goals try contradiction
 apply VWp.loopRI (o.divs.length) (fun k=>∀ i,i<k→gi r.stops i / 2 ^ (gi o.divs i).stops.length=0) [(2,_),(3,_),(21,_),(22,_)] [(0,_),(1,_)] (fun k r=>(23,.p (.int .i64 (k:Int)))::r) (fun k r=>r) 2
 ·first|omega|decide
 ·first|omega|decide
 ·repeat (first|exact LCov.nil|(refine LCov.eq rfl ?_ ?_;(first|exact PV.under_of rfl|(simp [PV.under,PVs.under];done)))|refine LCov.cons trivial rfl (.of_eq (lst_len (by simp<;>omega))) ?_)
 ·repeat (first|exact HCov.nil|(refine HCov.eq rfl (lt_dec rfl) ?_ ?_;(first|exact HB.under_of rfl|exact PVs.under_pure _ _|(simp [HB.under,PVs.under,PV.under];done)))|(refine HCov.cons (lt_dec rfl) ?_ rfl ?_ ?_;(first|exact trivial|exact PVs.under_pure _ _|(simp [HB.under,PVs.under,PV.under]));(first|exact HLe.refl _|exact HLe.vec (FLes.refl _) (by simp))))
 ·first|(intro _ _;omega)|omega|trivial
 ·intro k hk hok
  have s3:=ho.stops k (by omega)
  have rk:=hr.stops k (by omega)
  have hb:=h2 k (by omega)
  repeat' (first|apply VWp.rseq|apply VWp.rseqD|apply VWp.region|apply VWp.skipSeq|apply VWp.blockSeq|apply QSeq.normal|apply QBlk.normal|apply VWp.skip|apply VOps.nil|apply VOpsD.nil|apply VOps.one|(apply VOpsD.bar;decide +kernel)|apply VOpsD.quiet|(apply VVal.assign;rfl)|(apply VVal.move;rfl)|(apply VVal.add64;rfl;rfl;omega)|(apply VVal.int;rfl;rfl;rfl)|(apply VVal.indexN;rfl;rfl;rfl;omega;rfl)|(apply VVal.load;rfl;rfl)|(apply VVal.lenF;rfl;rfl)|(apply VVal.fieldB;rfl;rfl;rfl)|(apply VVal.alloc;rfl)|(apply VVal.storeB;rfl;rfl;rfl;trivial;rfl;rfl;exact lt_dec rfl;exact le_dec rfl)|(apply VVal.shrN;rfl;rfl;(simp only [IntKind.bits];omega))|(apply VWp.condSeq_dec;rfl)|(apply VWp.cond_dec;rfl)|(intro _;try (exfalso;omega)))
  all_goals try (exfalso;omega)
  all_goals try contradiction
  refine QLoop.normal ⟨(fun j hj=>h2 j (by omega)),by first|omega|decide,?_,?_⟩
  ·repeat (first|exact LCov.nil|refine LCov.same (by exact PV.under_of rfl) rfl ?_|refine LCov.cons trivial rfl (.of_eq (lst_len (by simp<;>omega))) ?_)
  ·repeat (first|exact HCov.nil|(refine HCov.cons (lt_dec rfl) ?_ rfl ?_ ?_;(first|exact HB.under_of rfl|exact PVs.under_pure _ _|(simp [HB.under,PVs.under,PV.under]));(first|exact HLe.refl _|exact HLe.vec (FLes.refl _) (by simp))))
 ·intro hok
  by_cases h4:r.cp / 2 ^ o.cpls.length=0
  ·by_cases h5:r.off / 2 ^ o.divs.length=0
   ·rw [if_neg (by omega)]
    repeat' (first|apply VWp.assoc|apply VWp.rseq|apply VWp.skipSeq|apply VWp.exitSeq|apply QSeq.normal|apply QBlk.exit|apply QLoop.exit|apply VWp.ret|apply VOps.nil|apply VOps.one|(apply VOps.take;rfl;rfl)|(apply VOps.guard;rfl;rfl)|(apply VVal.assign;rfl)|(apply VVal.move;rfl)|(apply VVal.int;rfl;rfl;rfl)|(apply VVal.load;rfl;rfl)|(apply VVal.pick_false;rfl;rfl)|(apply VVal.lenF;rfl;rfl)|(apply VVal.fieldB;rfl;rfl;rfl)|(apply VVal.shrN;rfl;rfl;(simp only [IntKind.bits];omega))|(apply VWp.condSeq_dec;rfl)|(intro _;try (exfalso;omega)))
    all_goals first|(exfalso;omega)|contradiction|(refine Done.ret rfl (.refl _) (by exact PV.under_of rfl) HCov.nil (Nat.zero_le _) (Nat.le_refl _) ⟨?_,rfl,rfl⟩;try rfl)
   ·rw [if_pos (.inr h5)]
    repeat' (first|apply VWp.assoc|apply VWp.rseq|apply VWp.retSeq|apply VWp.exitSeq|apply QSeq.normal|apply QBlk.exit|apply QLoop.exit|apply VOps.nil|apply VOps.one|(apply VOps.take;rfl;rfl)|(apply VOps.guard;rfl;rfl)|(apply VVal.assign;rfl)|(apply VVal.move;rfl)|(apply VVal.int;rfl;rfl;rfl)|(apply VVal.load;rfl;rfl)|(apply VVal.pick_false;rfl;rfl)|(apply VVal.lenF;rfl;rfl)|(apply VVal.fieldB;rfl;rfl;rfl)|(apply VVal.shrN;rfl;rfl;(simp only [IntKind.bits];omega))|(apply VWp.condSeq_dec;rfl)|(intro _;try (exfalso;omega)))
    all_goals first|(exfalso;omega)|contradiction|(refine Done.ret rfl (.refl _) (by exact PV.under_of rfl) HCov.nil (Nat.zero_le _) (Nat.le_refl _) ⟨?_,rfl,rfl⟩;try rfl)
  ·rw [if_pos (.inl h4)]
   repeat' (first|apply VWp.assoc|apply VWp.rseq|apply VWp.retSeq|apply VWp.exitSeq|apply QSeq.normal|apply QBlk.exit|apply QLoop.exit|apply VOps.nil|apply VOps.one|(apply VOps.drop;rfl;rfl;rfl)|(apply VOps.guard;rfl;rfl)|(apply VVal.assign;rfl)|(apply VVal.move;rfl)|(apply VVal.int;rfl;rfl;rfl)|(apply VVal.load;rfl;rfl)|(apply VVal.pick_true;rfl;rfl)|(apply VVal.lenF;rfl;rfl)|(apply VVal.fieldB;rfl;rfl;rfl)|(apply VVal.shrN;rfl;rfl;(simp only [IntKind.bits];omega))|(apply VWp.condSeq_true;rfl)|(apply VWp.condSeq_dec;rfl)|(intro _;try (exfalso;omega)))
   all_goals first|(exfalso;omega)|contradiction|(refine Done.ret rfl (.refl _) (by exact PV.under_of rfl) HCov.nil (Nat.zero_le _) (Nat.le_refl _) ⟨?_,rfl,rfl⟩;try rfl)
theorem barsE_len {l:List Int} (h:barsE l=0):2≤l.length:=by
 unfold barsE at h
 split at h
 ·exact absurd h (by decide)
 ·omega
theorem pieCheck_spec (o:Org) (p:Pce) (ho:OrgSm o) (hp:PceSm p):VFun env 16 [.agg (Enc.enc o),.agg (Enc.enc p)] (.p (.int .i64 (pceE o p))):=by
 have hc:=ocheck_spec o ho
 have hb:=bars_spec p.bars hp.bars
 have b3:=hp.sets
 unfold pceE restE
 refine VFun.enter (env_none (by decide)) Tryz.func16 rfl (by kernel_rfl) (by simp [Tryz.ntmps16]) ?_
 by_cases e1:orgE o=0
 case neg =>
  rw [if_pos e1]
  repeat' (first|apply VWp.assoc|apply VWp.rseq|apply VWp.retSeq|apply VOps.nil|apply VOps.one|(apply VVal.fn;rfl;rfl;exact hc;intro _;rfl)|(apply VVal.assign;rfl)|(apply VVal.move;rfl)|(apply VVal.int;rfl;rfl;rfl)|(apply VVal.load;rfl;rfl)|(apply VVal.box;rfl;trivial)|(apply VWp.condSeq_dec;rfl)|(intro _;try (exfalso;omega)))
  all_goals first|(exfalso;omega)|contradiction|(refine Done.ret rfl (.refl _) (by exact PV.under_of rfl) HCov.nil (Nat.zero_le _) (Nat.le_refl _) ⟨?_,rfl,rfl⟩;try rfl)
 rw [if_neg (fun h=>h e1)]
 rw [e1] at hc
 have k1:=orgK ho e1
 have d1:=k1.divs
 by_cases e2:barsE p.bars=0
 case neg =>
  rw [if_pos e2]
  repeat' (first|apply VWp.assoc|apply VWp.rseq|apply VWp.skipSeq|apply VWp.retSeq|apply VOps.nil|apply VOps.one|(apply VVal.fn;rfl;rfl;exact hc;intro _;rfl)|(apply VVal.fn;rfl;rfl;exact hb;intro _;rfl)|(apply VVal.assign;rfl)|(apply VVal.move;rfl)|(apply VVal.int;rfl;rfl;rfl)|(apply VVal.load;rfl;rfl)|(apply VVal.fieldB;rfl;rfl;rfl)|(apply VVal.box;rfl;trivial)|(apply VWp.condSeq_false;rfl)|(apply VWp.condSeq_dec;rfl)|(intro _;try (exfalso;omega)))
  all_goals first|(exfalso;omega)|contradiction|(refine Done.ret rfl (.refl _) (by exact PV.under_of rfl) HCov.nil (Nat.zero_le _) (Nat.le_refl _) ⟨?_,rfl,rfl⟩;try rfl)
 rw [if_neg (fun h=>h e2)]
 rw [e2] at hb
 have h2:=barsE_len e2
 have hn:=notes_spec o p hp h2 (by omega)
 by_cases e3:p.notes.length>1000
 ·rw [if_pos e3] at hn
  rw [if_pos e3]
  repeat' (first|apply VWp.assoc|apply VWp.rseq|apply VWp.skipSeq|apply VWp.retSeq|apply VOps.nil|apply VOps.one|(apply VVal.fn;rfl;rfl;exact hc;intro _;rfl)|(apply VVal.fn;rfl;rfl;exact hb;intro _;rfl)|(apply VVal.fn;rfl;rfl;exact hn;intro _;rfl)|(apply VVal.assign;rfl)|(apply VVal.move;rfl)|(apply VVal.int;rfl;rfl;rfl)|(apply VVal.load;rfl;rfl)|(apply VVal.fieldB;rfl;rfl;rfl)|(apply VVal.box;rfl;trivial)|(apply VWp.condSeq_true;rfl)|(apply VWp.condSeq_false;rfl))
  all_goals first|(exfalso;omega)|contradiction|(refine Done.ret rfl (.refl _) (by exact PV.under_of rfl) HCov.nil (Nat.zero_le _) (Nat.le_refl _) ⟨?_,rfl,rfl⟩;try rfl)
 rw [if_neg e3] at hn
 rw [if_neg e3]
 by_cases e4:notesK o (fstB p) (endB p) p.notes 0=0
 case neg =>
  rw [if_pos e4]
  repeat' (first|apply VWp.assoc|apply VWp.rseq|apply VWp.skipSeq|apply VWp.retSeq|apply VOps.nil|apply VOps.one|(apply VVal.fn;rfl;rfl;exact hc;intro _;rfl)|(apply VVal.fn;rfl;rfl;exact hb;intro _;rfl)|(apply VVal.fn;rfl;rfl;exact hn;intro _;rfl)|(apply VVal.assign;rfl)|(apply VVal.move;rfl)|(apply VVal.int;rfl;rfl;rfl)|(apply VVal.load;rfl;rfl)|(apply VVal.fieldB;rfl;rfl;rfl)|(apply VVal.box;rfl;trivial)|(apply VWp.condSeq_false;rfl)|(apply VWp.condSeq_dec;rfl)|(intro _;try (exfalso;omega)))
  all_goals first|(exfalso;omega)|contradiction|(refine Done.ret rfl (.refl _) (by exact PV.under_of rfl) HCov.nil (Nat.zero_le _) (Nat.le_refl _) ⟨?_,rfl,rfl⟩;try rfl)
 rw [if_neg (fun h=>h e4)]
 rw [e4] at hn
 by_cases e5:p.sets.length>100
 ·rw [if_pos e5]
  repeat' (first|apply VWp.assoc|apply VWp.rseq|apply VWp.skipSeq|apply VWp.retSeq|apply VOps.nil|apply VOps.one|(apply VVal.fn;rfl;rfl;exact hc;intro _;rfl)|(apply VVal.fn;rfl;rfl;exact hb;intro _;rfl)|(apply VVal.fn;rfl;rfl;exact hn;intro _;rfl)|(apply VVal.assign;rfl)|(apply VVal.move;rfl)|(apply VVal.int;rfl;rfl;rfl)|(apply VVal.load;rfl;rfl)|(apply VVal.lenF;rfl;rfl)|(apply VVal.fieldB;rfl;rfl;rfl)|(apply VVal.box;rfl;trivial)|(apply VWp.condSeq_false;rfl)|(apply VWp.condSeq_dec;rfl)|(intro _;try (exfalso;omega)))
  all_goals first|(exfalso;omega)|contradiction|(refine Done.ret rfl (.refl _) (by exact PV.under_of rfl) HCov.nil (Nat.zero_le _) (Nat.le_refl _) ⟨?_,rfl,rfl⟩;try rfl)
 rw [if_neg e5]
 have b1:=hp.bars
 obtain ⟨E,hE⟩:∃ E,E=setsK o p.bars.length p.sets 0:=⟨_,rfl⟩
 rw [← hE]
 repeat' (first|apply VWp.assoc|apply VWp.rseq|apply VWp.skipSeq|apply VWp.blockSeq|apply VOps.nil|apply VOps.one|(apply VVal.fn;rfl;rfl;exact hc;intro _;rfl)|(apply VVal.fn;rfl;rfl;exact hb;intro _;rfl)|(apply VVal.fn;rfl;rfl;exact hn;intro _;rfl)|(apply VVal.assign;rfl)|(apply VVal.move;rfl)|(apply VVal.int;rfl;rfl;rfl)|(apply VVal.load;rfl;rfl)|(apply VVal.lenF;rfl;rfl)|(apply VVal.fieldB;rfl;rfl;rfl)|(apply VVal.box;rfl;trivial)|(apply VWp.condSeq_false;rfl)|(apply VWp.condSeq_dec;rfl)|(intro _;try (exfalso;omega)))
 all_goals try (exfalso;omega)
 all_goals try contradiction
 apply VWp.loopRI (p.sets.length) (fun k=>setsK o p.bars.length p.sets k=E) [(2,_),(3,_),(33,_),(34,_)] [(0,_),(1,_)] (fun k r=>(35,.p (.int .i64 (k:Int)))::r) (fun k r=>r) 2
 ·first|omega|decide
 ·first|omega|decide
 ·repeat (first|exact LCov.nil|(refine LCov.eq rfl ?_ ?_;(first|exact PV.under_of rfl|(simp [PV.under,PVs.under];done)))|refine LCov.cons trivial rfl (.of_eq (lst_len (by simp<;>omega))) ?_)
 ·repeat (first|exact HCov.nil|(refine HCov.eq rfl (lt_dec rfl) ?_ ?_;(first|exact HB.under_of rfl|exact PVs.under_pure _ _|(simp [HB.under,PVs.under,PV.under];done)))|(refine HCov.cons (lt_dec rfl) ?_ rfl ?_ ?_;(first|exact trivial|exact PVs.under_pure _ _|(simp [HB.under,PVs.under,PV.under]));(first|exact HLe.refl _|exact HLe.vec (FLes.refl _) (by simp))))
 ·first|(intro _ _;omega)|omega|trivial
 ·intro k hk hi
  have e:=setsK_at (o:=o) (nb:=p.bars.length) hk
  have hr:=regK_spec o k1 (gi p.sets k).reg (hp.reg k hk)
  have hkc:0<k→(k:Int)-1=((k-1:Nat):Int):=fun h=>by omega
  unfold setE at e
  by_cases h1:(gi p.sets k).bar<0∨(gi p.sets k).bar≥(p.bars.length:Int)-1
  ·rw [if_pos h1,if_pos (by decide)] at e
   rw [← hi,e]
   repeat' (first|apply VWp.rseq|apply VWp.skipSeq|apply VWp.blockSeq|apply QSeq.ret|apply QBlk.ret|apply QLoop.ret|apply VWp.ret|apply VOps.nil|apply VOps.one|(apply VOps.take;rfl;rfl)|(apply VOps.drop;rfl;rfl;rfl)|(apply VOps.guard;rfl;rfl)|(apply VVal.assign;rfl)|(apply VVal.move;rfl)|(apply VVal.sub64;rfl;rfl;omega)|(apply VVal.int;rfl;rfl;rfl)|(apply VVal.indexN;rfl;rfl;rfl;omega;rfl)|(apply VVal.load;rfl;rfl)|(apply VVal.pick_true;rfl;rfl)|(apply VVal.pick_false;rfl;rfl)|(apply VVal.lenF;rfl;rfl)|(apply VVal.fieldB;rfl;rfl;rfl)|(apply VVal.alloc;rfl)|(apply VVal.storeB;rfl;rfl;rfl;trivial;rfl;rfl;exact lt_dec rfl;exact le_dec rfl)|(apply VWp.condSeq_dec;rfl)|(apply VWp.cond_true;rfl)|(apply VWp.cond_dec;rfl)|(intro _;try (exfalso;omega)))
   all_goals first|(exfalso;omega)|(refine Done.ret rfl (.refl _) (by exact PV.under_of rfl) HCov.nil (Nat.zero_le _) (Nat.le_refl _) ⟨?_,rfl,rfl⟩;try rfl)
  rw [if_neg h1] at e
  by_cases h3:0<k∧(gi p.sets k).bar=(gi p.sets (k-1)).bar
  ·rw [if_pos h3,if_pos (by decide)] at e
   rw [← hi,e]
   repeat' (first|apply VWp.rseq|apply VWp.rseqD|apply VWp.skipSeq|apply VWp.blockSeq|apply QSeq.ret|apply QBlk.ret|apply QLoop.ret|apply VWp.ret|apply VOps.nil|apply VOpsD.nil|apply VOps.one|(apply VOpsD.bar;decide +kernel)|(apply VOps.take;rfl;rfl)|(apply VOpsD.quietTake;rfl;rfl)|(apply VOps.guard;rfl;rfl)|(apply VOpsD.guard;rfl;rfl)|(apply VVal.indexN (l:=p.sets) (i:=k-1);rfl;exact congrArg (fun b=>some (PV.p (.int .i64 b))) (hkc h3.1);rfl;omega;rfl)|(apply VVal.assign;rfl)|(apply VVal.move;rfl)|(apply VVal.sub64;rfl;rfl;omega)|(apply VVal.int;rfl;rfl;rfl)|(apply VVal.indexN;rfl;rfl;rfl;omega;rfl)|(apply VVal.load;rfl;rfl)|(apply VVal.pick_true;rfl;rfl)|(apply VVal.pick_false;rfl;rfl)|(apply VVal.lenF;rfl;rfl)|(apply VVal.fieldB;rfl;rfl;rfl)|(apply VVal.fieldF;rfl;rfl)|(apply VVal.alloc;rfl)|(apply VVal.storeB;rfl;rfl;rfl;trivial;rfl;rfl;exact lt_dec rfl;exact le_dec rfl)|(apply VWp.condSeq_dec;rfl)|(apply VWp.cond_dec;rfl)|(intro _;try (exfalso;omega)))
   all_goals first|(exfalso;omega)|(refine Done.ret rfl (.refl _) (by exact PV.under_of rfl) HCov.nil (Nat.zero_le _) (Nat.le_refl _) ⟨?_,rfl,rfl⟩;try rfl)
  rw [if_neg h3] at e
  by_cases h4:0<k∧(gi p.sets k).bar<(gi p.sets (k-1)).bar
  ·rw [if_pos h4,if_pos (by decide)] at e
   rw [← hi,e]
   repeat' (first|apply VWp.rseq|apply VWp.rseqD|apply VWp.skipSeq|apply VWp.blockSeq|apply QSeq.ret|apply QBlk.ret|apply QLoop.ret|apply VWp.ret|apply VOps.nil|apply VOpsD.nil|apply VOps.one|(apply VOpsD.bar;decide +kernel)|(apply VOps.take;rfl;rfl)|(apply VOpsD.quietTake;rfl;rfl)|(apply VOps.guard;rfl;rfl)|(apply VOpsD.guard;rfl;rfl)|(apply VVal.indexN (l:=p.sets) (i:=k-1);rfl;exact congrArg (fun b=>some (PV.p (.int .i64 b))) (hkc h4.1);rfl;omega;rfl)|(apply VVal.assign;rfl)|(apply VVal.move;rfl)|(apply VVal.sub64;rfl;rfl;omega)|(apply VVal.int;rfl;rfl;rfl)|(apply VVal.indexN;rfl;rfl;rfl;omega;rfl)|(apply VVal.load;rfl;rfl)|(apply VVal.pick_true;rfl;rfl)|(apply VVal.pick_false;rfl;rfl)|(apply VVal.lenF;rfl;rfl)|(apply VVal.fieldB;rfl;rfl;rfl)|(apply VVal.fieldF;rfl;rfl)|(apply VVal.alloc;rfl)|(apply VVal.storeB;rfl;rfl;rfl;trivial;rfl;rfl;exact lt_dec rfl;exact le_dec rfl)|(apply VWp.condSeq_dec;rfl)|(apply VWp.cond_dec;rfl)|(intro _;try (exfalso;omega)))
   all_goals first|(exfalso;omega)|(refine Done.ret rfl (.refl _) (by exact PV.under_of rfl) HCov.nil (Nat.zero_le _) (Nat.le_refl _) ⟨?_,rfl,rfl⟩;try rfl)
  rw [if_neg h4] at e
  by_cases h5:regE o (gi p.sets k).reg=0
  case neg =>
   rw [if_pos h5] at e
   rw [← hi,e]
   by_cases h0:k=0
   ·repeat' (first|apply VWp.rseq|apply VWp.rseqD|apply VWp.skipSeq|apply VWp.blockSeq|apply QSeq.normal|apply QSeq.ret|apply QBlk.normal|apply QBlk.ret|apply QLoop.ret|apply VWp.ret|apply VWp.skip|apply VOps.nil|apply VOpsD.nil|apply VOps.one|(apply VOpsD.bar;decide +kernel)|(apply VOps.take;rfl;rfl)|(apply VOpsD.drop;rfl;rfl;rfl)|(apply VOps.guard;rfl;rfl)|(apply VOpsD.guard;rfl;rfl)|(apply VVal.fn;rfl;rfl;exact hr;intro _;rfl)|(apply VVal.assign;rfl)|(apply VVal.move;rfl)|(apply VVal.sub64;rfl;rfl;omega)|(apply VVal.int;rfl;rfl;rfl)|(apply VVal.indexN;rfl;rfl;rfl;omega;rfl)|(apply VVal.load;rfl;rfl)|(apply VVal.pick_false;rfl;rfl)|(apply VVal.lenF;rfl;rfl)|(apply VVal.fieldB;rfl;rfl;rfl)|(apply VVal.alloc;rfl)|(apply VVal.storeB;rfl;rfl;rfl;trivial;rfl;rfl;exact lt_dec rfl;exact le_dec rfl)|(apply VWp.condSeq_dec;rfl)|(apply VWp.cond_false;rfl)|(apply VWp.cond_dec;rfl)|(intro _;try (exfalso;omega)))
    all_goals first|(exfalso;omega)|contradiction|(refine Done.ret rfl (.refl _) (by exact PV.under_of rfl) HCov.nil (Nat.zero_le _) (Nat.le_refl _) ⟨?_,rfl,rfl⟩;try rfl)
   ·repeat' (first|apply VWp.rseq|apply VWp.rseqD|apply VWp.skipSeq|apply VWp.blockSeq|apply QSeq.normal|apply QSeq.ret|apply QBlk.normal|apply QBlk.ret|apply QLoop.ret|apply VWp.ret|apply VWp.skip|apply VOps.nil|apply VOpsD.nil|apply VOps.one|(apply VOpsD.bar;decide +kernel)|(apply VOps.take;rfl;rfl)|(apply VOpsD.quietTake;rfl;rfl)|(apply VOps.guard;rfl;rfl)|(apply VOpsD.guard;rfl;rfl)|(apply VVal.fn;rfl;rfl;exact hr;intro _;rfl)|(apply VVal.indexN (l:=p.sets) (i:=k-1);rfl;exact congrArg (fun b=>some (PV.p (.int .i64 b))) (hkc (by omega));rfl;omega;rfl)|(apply VVal.assign;rfl)|(apply VVal.move;rfl)|(apply VVal.sub64;rfl;rfl;omega)|(apply VVal.int;rfl;rfl;rfl)|(apply VVal.indexN;rfl;rfl;rfl;omega;rfl)|(apply VVal.load;rfl;rfl)|(apply VVal.pick_true;rfl;rfl)|(apply VVal.pick_false;rfl;rfl)|(apply VVal.lenF;rfl;rfl)|(apply VVal.fieldB;rfl;rfl;rfl)|(apply VVal.fieldF;rfl;rfl)|(apply VVal.alloc;rfl)|(apply VVal.storeB;rfl;rfl;rfl;trivial;rfl;rfl;exact lt_dec rfl;exact le_dec rfl)|(apply VWp.condSeq_dec;rfl)|(apply VWp.cond_dec;rfl)|(intro _;try (exfalso;omega)))
    all_goals first|(exfalso;omega)|contradiction|(refine Done.ret rfl (.refl _) (by exact PV.under_of rfl) HCov.nil (Nat.zero_le _) (Nat.le_refl _) ⟨?_,rfl,rfl⟩;try rfl)
  rw [if_neg (fun h=>h h5)] at e
  rw [h5] at hr
  by_cases h0:k=0
  ·repeat' (first|apply VWp.rseq|apply VWp.rseqD|apply VWp.region|apply VWp.skipSeq|apply VWp.blockSeq|apply QSeq.normal|apply QBlk.normal|apply VWp.skip|apply VOps.nil|apply VOpsD.nil|apply VOps.one|(apply VOpsD.bar;decide +kernel)|(apply VOps.take;rfl;rfl)|(apply VOpsD.drop;rfl;rfl;rfl)|(apply VOps.guard;rfl;rfl)|(apply VOpsD.guard;rfl;rfl)|(apply VVal.fn;rfl;rfl;exact hr;intro _;rfl)|(apply VVal.assign;rfl)|(apply VVal.move;rfl)|(apply VVal.add64;rfl;rfl;omega)|(apply VVal.sub64;rfl;rfl;omega)|(apply VVal.int;rfl;rfl;rfl)|(apply VVal.indexN;rfl;rfl;rfl;omega;rfl)|(apply VVal.load;rfl;rfl)|(apply VVal.pick_false;rfl;rfl)|(apply VVal.lenF;rfl;rfl)|(apply VVal.fieldB;rfl;rfl;rfl)|(apply VVal.alloc;rfl)|(apply VVal.storeB;rfl;rfl;rfl;trivial;rfl;rfl;exact lt_dec rfl;exact le_dec rfl)|(apply VWp.condSeq_dec;rfl)|(apply VWp.cond_false;rfl)|(apply VWp.cond_dec;rfl)|(intro _;try (exfalso;omega)))
   all_goals try (exfalso;omega)
   all_goals try contradiction
   refine QLoop.normal ⟨(e.symm.trans hi),by first|omega|decide,?_,?_⟩
   ·repeat (first|exact LCov.nil|refine LCov.same (by exact PV.under_of rfl) rfl ?_|refine LCov.cons trivial rfl (.of_eq (lst_len (by simp<;>omega))) ?_)
   ·repeat (first|exact HCov.nil|(refine HCov.cons (lt_dec rfl) ?_ rfl ?_ ?_;(first|exact HB.under_of rfl|exact PVs.under_pure _ _|(simp [HB.under,PVs.under,PV.under]));(first|exact HLe.refl _|exact HLe.vec (FLes.refl _) (by simp))))
  ·repeat' (first|apply VWp.rseq|apply VWp.rseqD|apply VWp.region|apply VWp.skipSeq|apply VWp.blockSeq|apply QSeq.normal|apply QBlk.normal|apply VWp.skip|apply VOps.nil|apply VOpsD.nil|apply VOps.one|(apply VOpsD.bar;decide +kernel)|(apply VOps.take;rfl;rfl)|(apply VOpsD.quietTake;rfl;rfl)|(apply VOps.guard;rfl;rfl)|(apply VOpsD.guard;rfl;rfl)|(apply VVal.fn;rfl;rfl;exact hr;intro _;rfl)|(apply VVal.indexN (l:=p.sets) (i:=k-1);rfl;exact congrArg (fun b=>some (PV.p (.int .i64 b))) (hkc (by omega));rfl;omega;rfl)|(apply VVal.assign;rfl)|(apply VVal.move;rfl)|(apply VVal.add64;rfl;rfl;omega)|(apply VVal.sub64;rfl;rfl;omega)|(apply VVal.int;rfl;rfl;rfl)|(apply VVal.indexN;rfl;rfl;rfl;omega;rfl)|(apply VVal.load;rfl;rfl)|(apply VVal.pick_true;rfl;rfl)|(apply VVal.pick_false;rfl;rfl)|(apply VVal.lenF;rfl;rfl)|(apply VVal.fieldB;rfl;rfl;rfl)|(apply VVal.fieldF;rfl;rfl)|(apply VVal.alloc;rfl)|(apply VVal.storeB;rfl;rfl;rfl;trivial;rfl;rfl;exact lt_dec rfl;exact le_dec rfl)|(apply VWp.condSeq_dec;rfl)|(apply VWp.cond_false;rfl)|(apply VWp.cond_dec;rfl)|(intro _;try (exfalso;omega)))
   all_goals try (exfalso;omega)
   all_goals try contradiction
   refine QLoop.normal ⟨(e.symm.trans hi),by first|omega|decide,?_,?_⟩
   ·repeat (first|exact LCov.nil|refine LCov.same (by exact PV.under_of rfl) rfl ?_|refine LCov.cons trivial rfl (.of_eq (lst_len (by simp<;>omega))) ?_)
   ·repeat (first|exact HCov.nil|(refine HCov.cons (lt_dec rfl) ?_ rfl ?_ ?_;(first|exact HB.under_of rfl|exact PVs.under_pure _ _|(simp [HB.under,PVs.under,PV.under]));(first|exact HLe.refl _|exact HLe.vec (FLes.refl _) (by simp))))
 ·intro hi
  rw [setsK_end] at hi
  rw [← hi]
  repeat' (first|apply VWp.rseq|apply VWp.exitSeq|apply QSeq.normal|apply QBlk.exit|apply QLoop.exit|apply VWp.ret|apply VOps.nil|apply VOps.one|(apply VVal.assign;rfl)|(apply VVal.int;rfl;rfl;rfl)|(apply VWp.condSeq_dec;rfl)|(intro _;try (exfalso;omega)))
  all_goals first|(exfalso;omega)|(refine Done.ret rfl (.refl _) (by exact PV.under_of rfl) HCov.nil (Nat.zero_le _) (Nat.le_refl _) ⟨?_,rfl,rfl⟩;try rfl)
end Go.Proofs.YtnhdddmhkhdlhaaGreatDoor
namespace Go.Proofs.YtnhdddmhkhdlhaaGreatDoor
open Go Go.Am Go.Vm Go.Pie
attribute [local irreducible] VVal VOps VOpsD VWp VCalls VFun VFunV QSeq QBlk QLoop Vm.Done DoneV DoneI
attribute [local irreducible] rchk windsE stoE dvsE cplE shiftR
noncomputable def atE (o:Org) (p:Pce) (t:Int):Int:=if pceE o p≠0 then pceE o p else if t<fstB p∨t≥endB p then 3 else 0
theorem pceE_bars {o:Org} {p:Pce} (h:pceE o p=0):2≤p.bars.length:=by
 unfold pceE restE at h
 split at h
 ·rename_i h1;exact absurd h h1
 split at h
 ·rename_i h1;exact absurd h h1
 rename_i h1
 exact barsE_len (Decidable.byContradiction h1)
theorem pieAt_spec (o:Org) (p:Pce) (ho:OrgSm o) (hp:PceSm p) (t:Int):VFun env 68 [.agg (Enc.enc o),.agg (Enc.enc p),.int .i64 t] (.p (.int .i64 (atE o p t))):=by
 have hc:=pieCheck_spec o p ho hp
 unfold atE
 by_cases h1:pceE o p=0
 case neg =>
  rw [if_pos h1]
  refine VFun.enter (env_none (by decide)) Tryz.func68 rfl (by kernel_rfl) (by simp [Tryz.ntmps68]) ?_
  repeat' (first|apply VWp.assoc|apply VWp.rseq|apply VWp.retSeq|apply VOps.nil|apply VOps.one|(apply VVal.fn;rfl;rfl;exact hc;intro _;rfl)|(apply VVal.assign;rfl)|(apply VVal.move;rfl)|(apply VVal.int;rfl;rfl;rfl)|(apply VVal.load;rfl;rfl)|(apply VVal.box;rfl;trivial)|(apply VWp.condSeq_dec;rfl)|(intro _;try (exfalso;omega)))
  all_goals first|(exfalso;omega)|contradiction|(refine Done.ret rfl (.refl _) (by exact PV.under_of rfl) HCov.nil (Nat.zero_le _) (Nat.le_refl _) ⟨?_,rfl,rfl⟩;try rfl)
 have hen:=ends_spec p (by have:=pceE_bars h1;omega) hp.bars
 rw [if_neg (fun h=>h h1)]
 rw [h1] at hc
 by_cases h2:t<fstB p∨t≥endB p
 ·rw [if_pos h2]
  refine VFun.enter (env_none (by decide)) Tryz.func68 rfl (by kernel_rfl) (by simp [Tryz.ntmps68]) ?_
  repeat' (first|apply VWp.assoc|apply VWp.rseq|apply VWp.skipSeq|apply VWp.retSeq|apply VOps.nil|apply VOps.one|(apply VOps.take;rfl;rfl)|(apply VOps.drop;rfl;rfl;rfl)|(apply VOps.guard;rfl;rfl)|(apply VVal.fn;rfl;rfl;exact hc;intro _;rfl)|(apply VVal.fn;rfl;rfl;exact hen;intro _;rfl)|(apply VVal.assign;rfl)|(apply VVal.move;rfl)|(apply VVal.int;rfl;rfl;rfl)|(apply VVal.load;rfl;rfl)|(apply VVal.pick_true;rfl;rfl)|(apply VVal.pick_false;rfl;rfl)|(apply VVal.box;rfl;trivial)|(apply VVal.extract;rfl;rfl)|(apply VWp.condSeq_true;rfl)|(apply VWp.condSeq_false;rfl)|(apply VWp.condSeq_dec;rfl)|(intro _;try (exfalso;omega)))
  all_goals first|(exfalso;omega)|contradiction|(refine Done.ret rfl (.refl _) (by exact PV.under_of rfl) HCov.nil (Nat.zero_le _) (Nat.le_refl _) ⟨?_,rfl,rfl⟩;try rfl)
 ·rw [if_neg h2]
  refine VFun.enter (env_none (by decide)) Tryz.func68 rfl (by kernel_rfl) (by simp [Tryz.ntmps68]) ?_
  repeat' (first|apply VWp.assoc|apply VWp.rseq|apply VWp.skipSeq|apply VWp.ret|apply VOps.nil|apply VOps.one|(apply VOps.take;rfl;rfl)|(apply VOps.guard;rfl;rfl)|(apply VVal.fn;rfl;rfl;exact hc;intro _;rfl)|(apply VVal.fn;rfl;rfl;exact hen;intro _;rfl)|(apply VVal.assign;rfl)|(apply VVal.move;rfl)|(apply VVal.int;rfl;rfl;rfl)|(apply VVal.load;rfl;rfl)|(apply VVal.pick_false;rfl;rfl)|(apply VVal.box;rfl;trivial)|(apply VVal.extract;rfl;rfl)|(apply VWp.condSeq_false;rfl)|(apply VWp.condSeq_dec;rfl)|(intro _;try (exfalso;omega)))
  all_goals first|(exfalso;omega)|contradiction|(refine Done.ret rfl (.refl _) (by exact PV.under_of rfl) HCov.nil (Nat.zero_le _) (Nat.le_refl _) ⟨?_,rfl,rfl⟩;try rfl)
end Go.Proofs.YtnhdddmhkhdlhaaGreatDoor
namespace Go.Proofs.YtnhdddmhkhdlhaaGreatDoor
open Go Go.Am Go.Vm
attribute [local irreducible] VVal VOps VOpsD VWp VCalls VFun VFunV QSeq QBlk QLoop Vm.Done DoneV DoneI
def noneR (o:Org):Rgs:=⟨List.replicate o.divs.length 0,0,0⟩
theorem clone64_spec (l:List Nat) (h0:0<l.length) (h1:l.length<1000000):VFunV env 87 [.lst 68 (cells l) l.length] 68 (cells l) l.length false:=by
 refine VFunV.enter (env_none (by decide)) Tryz.func87 rfl (by kernel_rfl) (by simp [Tryz.ntmps87]) ?_
 repeat' (first|apply VWp.assoc|apply VWp.rseq|apply VWp.skipSeq|apply VWp.ret|apply VOps.nil|apply VOps.one|(apply VVal.eqNilF;rfl;rfl;rfl;exact h0)|(apply VVal.assign;rfl)|(apply VVal.move;rfl)|(apply VVal.buildSlice;rfl;rfl;rfl;decide;rfl;rfl;rfl)|(apply VVal.appendL0;rfl;rfl;rfl;(first|rfl|omega|(simp only [List.length_take,List.length_drop,List.length_append,List.length_singleton,List.length_cons,List.length_nil]<;>omega));rfl;rfl;(intro _ h;cases h);rfl;rfl;rfl;decide;decide;(first|omega|(simp only [List.length_take,List.length_drop,List.length_append,List.length_singleton,List.length_cons,List.length_nil]<;>omega)))|(apply VWp.condSeq_false;rfl))
 exact DoneV.ret rfl rfl rfl rfl
def fullF (o:Org) (k:Nat):Nat:=2 ^ (gi o.divs k).stops.length-1
def fullR (o:Org):Rgs:=⟨setK (fullF o) (List.replicate o.divs.length 0) o.divs.length,2 ^ o.cpls.length-1,0⟩
def withR (r:Rgs) (d s:Nat):Rgs:=⟨r.stops.set d (gi r.stops d ||| 2 ^ s),r.cp,r.off⟩
def unionF (a b:Rgs) (k:Nat):Nat:=gi a.stops k ||| gi b.stops k
def unionR (a b:Rgs):Rgs:=⟨setK (unionF a b) a.stops a.stops.length,a.cp ||| b.cp,a.off ||| b.off⟩
end Go.Proofs.YtnhdddmhkhdlhaaGreatDoor
namespace Go.Proofs.YtnhdddmhkhdlhaaGreatDoor
open Go Go.Am Go.Vm Go.Pie
attribute [local irreducible] VVal VOps VOpsD VWp VCalls VFun VFunV QSeq QBlk QLoop Vm.Done DoneV DoneI
attribute [local irreducible] rchk windsE stoE dvsE cplE shiftR
def sndB (p:Pce) (t:Int) (i:Nat):Bool:=decide ((gi p.notes i).s≤t)&&decide (t<(gi p.notes i).e)
def sndK (p:Pce) (t:Int):Nat→List Int
 |0=>[]
 |k+1=>if sndB p t k=true then sndK p t k++[(k:Int)] else sndK p t k
def snd (p:Pce) (t:Int):List Int:=sndK p t p.notes.length
theorem sndK_len (p:Pce) (t:Int):∀ k,(sndK p t k).length≤k
 |0=>Nat.le_refl _
 |k+1=>by
  have:=sndK_len p t k
  unfold sndK
  split
  ·simp;omega
  ·omega
theorem pieSnd_spec (p:Pce) (hp:PceSm p) (t:Int):VFunV env 56 [.agg (Enc.enc p),.int .i64 t] 3 (cells (snd p t)) (snd p t).length true:=by
 refine VFunV.enter (env_none (by decide)) Tryz.func56 rfl (by kernel_rfl) (by simp [Tryz.ntmps56]) ?_
 have b1:=hp.notes
 repeat' (first|apply VWp.assoc|apply VWp.rseq|apply VWp.blockSeq|apply VOps.nil|apply VOps.one|(apply VVal.assign;rfl)|(apply VVal.move;rfl)|(apply VVal.load;rfl;rfl)|(apply VVal.lenF;rfl;rfl)|(apply VVal.fieldB;rfl;rfl;rfl)|(apply VVal.box;rfl;trivial))
 all_goals try (exfalso;omega)
 refine VWp.ghost (Ghost.adopt 5 3 rfl) ?_
 apply VWp.loopR (p.notes.length) [(1,_),(9,_),(10,_)] [(0,_)] (fun k r=>(11,.p (.int .i64 (k:Int)))::(5,.vec 1 (sndK p t k).length 0 (sndK p t k).length)::r) (fun k r=>(1,.vec 3 (cells (sndK p t k)) (sndK p t k).length true)::r) 2
 ·first|omega|decide
 ·first|omega|decide
 ·repeat (first|exact LCov.nil|(refine LCov.eq rfl ?_ ?_;(first|exact PV.under_of rfl|(simp [PV.under,PVs.under];done)))|refine LCov.cons trivial rfl (.of_eq (lst_len (by simp<;>omega))) ?_)
 ·repeat (first|exact HCov.nil|(refine HCov.eq rfl (lt_dec rfl) ?_ ?_;(first|exact HB.under_of rfl|exact PVs.under_pure _ _|(simp [HB.under,PVs.under,PV.under];done)))|(refine HCov.cons (lt_dec rfl) ?_ rfl ?_ ?_;(first|exact trivial|exact PVs.under_pure _ _|(simp [HB.under,PVs.under,PV.under]));(first|exact HLe.refl _|exact HLe.vec (FLes.refl _) (by simp))))
 ·intro k hk
  have hl:=sndK_len p t k
  have e1:sndK p t (k+1)=if sndB p t k=true then sndK p t k++[(k:Int)] else sndK p t k:=rfl
  by_cases h1:(gi p.notes k).s≤t∧t<(gi p.notes k).e
  ·have hb:sndB p t k=true:=by unfold sndB;rw [decide_eq_true h1.1,decide_eq_true h1.2];rfl
   rw [if_pos hb] at e1
   have e2:(sndK p t (k+1)).length=(sndK p t k).length+1:=by rw [e1];simp
   repeat' (first|apply VWp.rseq|apply VWp.region|apply VWp.skipSeq|apply VWp.blockSeq|apply QSeq.normal|apply QBlk.normal|apply VOps.nil|apply VOps.one|(apply VOps.take;rfl;rfl)|(apply VOps.guard;rfl;rfl)|(apply VVal.append1 (a:=(k:Int));rfl;rfl;rfl;rfl;rfl;rfl;rfl;rfl;(intro _ h;cases h);rfl;rfl;rfl;decide;decide;(first|omega|(simp only [List.length_take,List.length_drop,List.length_append,List.length_singleton,List.length_cons,List.length_nil]<;>omega)))|(apply VVal.assign;rfl)|(apply VVal.move;rfl)|(apply VVal.add64;rfl;rfl;omega)|(apply VVal.int;rfl;rfl;rfl)|(apply VVal.indexN;rfl;rfl;rfl;omega;rfl)|(apply VVal.load;rfl;rfl)|(apply VVal.pick_true;rfl;rfl)|(apply VVal.fieldB;rfl;rfl;rfl)|(apply VVal.alloc;rfl)|(apply VVal.storeB;rfl;rfl;rfl;trivial;rfl;rfl;exact lt_dec rfl;exact le_dec rfl)|(apply VVal.buildSlice;rfl;rfl;rfl;decide;rfl;rfl;rfl)|(apply VWp.condSeq_dec;rfl)|(apply VWp.cond_dec;rfl)|(intro _;try (exfalso;omega)))
   all_goals try (exfalso;omega)
   refine QLoop.normal ⟨by first|omega|decide,?_,?_⟩
   ·try (first|rw [e2,e1]|rw [e2])
    repeat (first|exact LCov.nil|refine LCov.same (by exact PV.under_of rfl) rfl ?_|refine LCov.cons trivial rfl (.of_eq (lst_len (by simp<;>omega))) ?_)
   ·first|rw [e2,e1]|rw [e2]
    repeat (first|exact HCov.nil|(refine HCov.cons (lt_dec rfl) ?_ rfl ?_ ?_;(first|exact HB.under_of rfl|exact PVs.under_pure _ _|(simp [HB.under,PVs.under,PV.under]));(first|exact HLe.refl _|exact HLe.vec (FLes.refl _) (by simp))))
  ·have hb:¬ sndB p t k=true:=by
    unfold sndB
    intro h
    rw [Bool.and_eq_true,decide_eq_true_iff,decide_eq_true_iff] at h
    exact h1 h
   rw [if_neg hb] at e1
   repeat' (first|apply VWp.rseq|apply VWp.region|apply VWp.skipSeq|apply VWp.blockSeq|apply QSeq.normal|apply QBlk.normal|apply VWp.skip|apply VOps.nil|apply VOps.one|(apply VOps.take;rfl;rfl)|(apply VOps.drop;rfl;rfl;rfl)|(apply VOps.guard;rfl;rfl)|(apply VVal.assign;rfl)|(apply VVal.move;rfl)|(apply VVal.add64;rfl;rfl;omega)|(apply VVal.int;rfl;rfl;rfl)|(apply VVal.indexN;rfl;rfl;rfl;omega;rfl)|(apply VVal.load;rfl;rfl)|(apply VVal.pick_true;rfl;rfl)|(apply VVal.pick_false;rfl;rfl)|(apply VVal.fieldB;rfl;rfl;rfl)|(apply VVal.alloc;rfl)|(apply VVal.storeB;rfl;rfl;rfl;trivial;rfl;rfl;exact lt_dec rfl;exact le_dec rfl)|(apply VWp.condSeq_dec;rfl)|(apply VWp.cond_false;rfl)|(apply VWp.cond_dec;rfl)|(intro _;try (exfalso;omega)))
   all_goals try (exfalso;omega)
   all_goals
    refine QLoop.normal ⟨by first|omega|decide,?_,?_⟩
    ·try (rw [e1])
     repeat (first|exact LCov.nil|refine LCov.same (by exact PV.under_of rfl) rfl ?_|refine LCov.cons trivial rfl (.of_eq (lst_len (by simp<;>omega))) ?_)
    ·rw [e1]
     repeat (first|exact HCov.nil|(refine HCov.cons (lt_dec rfl) ?_ rfl ?_ ?_;(first|exact HB.under_of rfl|exact PVs.under_pure _ _|(simp [HB.under,PVs.under,PV.under]));(first|exact HLe.refl _|exact HLe.vec (FLes.refl _) (by simp))))
 ·repeat' (first|apply VWp.rseq|apply VWp.exitSeq|apply QSeq.normal|apply QBlk.exit|apply QLoop.exit|apply VWp.ret|apply VOps.nil|apply VOps.one|(apply VVal.assign;rfl)|(apply VVal.move;rfl)|(apply VVal.int;rfl;rfl;rfl)|(apply VWp.condSeq_dec;rfl)|(intro _;try (exfalso;omega)))
  all_goals first|(exfalso;omega)|exact DoneV.ret rfl rfl rfl rfl
def wanK (p:Pce) (t:Int):Nat→Int
 |0=>-1
 |k+1=>if gi p.bars (gi p.sets k).bar.toNat≤t then (k:Int) else wanK p t k
def wan (p:Pce) (t:Int):Int:=wanK p t p.sets.length
theorem wanK_rng (p:Pce) (t:Int):∀ k,-1≤wanK p t k∧wanK p t k<k
 |0=>by simp [wanK]
 |k+1=>by
  have:=wanK_rng p t k
  unfold wanK
  split<;>omega
theorem pieWan_spec {o:Org} {p:Pce} (h:PceK o p) (t:Int):VFun env 58 [.agg (Enc.enc p),.int .i64 t] (.p (.int .i64 (wan p t))):=by
 have b1:=h.sets
 have b2:=h.bars
 refine VFun.enter (env_none (by decide)) Tryz.func58 rfl (by kernel_rfl) (by simp [Tryz.ntmps58]) ?_
 repeat' (first|apply VWp.assoc|apply VWp.rseq|apply VWp.blockSeq|apply VOps.nil|apply VOps.one|(apply VVal.assign;rfl)|(apply VVal.move;rfl)|(apply VVal.load;rfl;rfl)|(apply VVal.lenF;rfl;rfl)|(apply VVal.fieldB;rfl;rfl;rfl)|(apply VVal.box;rfl;trivial))
 all_goals try (exfalso;omega)
 apply VWp.loopR (p.sets.length) [(1,_),(2,_),(9,_),(10,_)] [(0,_)] (fun k r=>(11,.p (.int .i64 (k:Int)))::(5,.p (.int .i64 (wanK p t k)))::r) (fun k r=>r) 1
 ·first|omega|decide
 ·first|omega|decide
 ·repeat (first|exact LCov.nil|(refine LCov.eq rfl ?_ ?_;(first|exact PV.under_of rfl|(simp [PV.under,PVs.under];done)))|refine LCov.cons trivial rfl (.of_eq (lst_len (by simp<;>omega))) ?_)
 ·repeat (first|exact HCov.nil|(refine HCov.eq rfl (lt_dec rfl) ?_ ?_;(first|exact HB.under_of rfl|exact PVs.under_pure _ _|(simp [HB.under,PVs.under,PV.under];done)))|(refine HCov.cons (lt_dec rfl) ?_ rfl ?_ ?_;(first|exact trivial|exact PVs.under_pure _ _|(simp [HB.under,PVs.under,PV.under]));(first|exact HLe.refl _|exact HLe.vec (FLes.refl _) (by simp))))
 ·intro k hk
  obtain ⟨g1,g2,g3⟩:=h.set k hk
  have hb:(gi p.sets k).bar=((gi p.sets k).bar.toNat:Int):=by omega
  have e1:wanK p t (k+1)=if gi p.bars (gi p.sets k).bar.toNat≤t then (k:Int) else wanK p t k:=rfl
  by_cases h1:gi p.bars (gi p.sets k).bar.toNat≤t
  all_goals first|rw [if_pos h1] at e1|rw [if_neg h1] at e1
  all_goals
   repeat' (first|apply VWp.rseq|apply VWp.region|apply VWp.skipSeq|apply VWp.blockSeq|apply QSeq.normal|apply QBlk.normal|apply VWp.skip|apply VOps.nil|apply VOps.one|(apply VVal.indexN (l:=p.bars) (i:=(gi p.sets k).bar.toNat);rfl;exact congrArg (fun b=>some (PV.p (.int .i64 b))) hb;rfl;omega;rfl)|(apply VVal.assign;rfl)|(apply VVal.move;rfl)|(apply VVal.add64;rfl;rfl;omega)|(apply VVal.int;rfl;rfl;rfl)|(apply VVal.indexN;rfl;rfl;rfl;omega;rfl)|(apply VVal.load;rfl;rfl)|(apply VVal.fieldB;rfl;rfl;rfl)|(apply VVal.alloc;rfl)|(apply VVal.storeB;rfl;rfl;rfl;trivial;rfl;rfl;exact lt_dec rfl;exact le_dec rfl)|(apply VWp.condSeq_dec;rfl)|(apply VWp.cond_dec;rfl)|(intro _;try (exfalso;omega)))
  all_goals try (exfalso;omega)
  all_goals
   refine QLoop.normal ⟨by first|omega|decide,?_,?_⟩
   ·try (first|rw [e1]|skip)
    repeat (first|exact LCov.nil|refine LCov.same (by exact PV.under_of rfl) rfl ?_|refine LCov.cons trivial rfl (.of_eq (lst_len (by simp<;>omega))) ?_)
   ·first|rw [e1]|skip
    repeat (first|exact HCov.nil|(refine HCov.cons (lt_dec rfl) ?_ rfl ?_ ?_;(first|exact HB.under_of rfl|exact PVs.under_pure _ _|(simp [HB.under,PVs.under,PV.under]));(first|exact HLe.refl _|exact HLe.vec (FLes.refl _) (by simp))))
 ·repeat' (first|apply VWp.rseq|apply VWp.exitSeq|apply QSeq.normal|apply QBlk.exit|apply QLoop.exit|apply VWp.ret|apply VOps.nil|apply VOps.one|(apply VVal.assign;rfl)|(apply VVal.move;rfl)|(apply VVal.int;rfl;rfl;rfl)|(apply VWp.condSeq_dec;rfl)|(intro _;try (exfalso;omega)))
  all_goals first|(exfalso;omega)|(refine Done.ret rfl (.refl _) (by exact PV.under_of rfl) HCov.nil (Nat.zero_le _) (Nat.le_refl _) ⟨?_,rfl,rfl⟩;try rfl)
theorem pieCopied_spec (r:Rgs) (h0:0<r.stops.length) (h1:r.stops.length<1000000):VFun env 59 [.agg (Enc.enc r)] (.p (.agg (Enc.enc r))):=by
 have hc:=clone64_spec r.stops h0 h1
 refine VFun.enter (env_none (by decide)) Tryz.func59 rfl (by kernel_rfl) (by simp [Tryz.ntmps59]) ?_
 repeat' (first|(refine VOps.atOp 6 ?_;refine VOps.ghost (Ghost.freeze 5 rfl rfl) ?_)|apply VWp.rseq|apply VWp.ret|apply VOps.nil|apply VOps.one|(apply VVal.fv;rfl;rfl;exact hc)|(apply VVal.load;rfl;rfl)|(apply VVal.fieldB;rfl;rfl;rfl)|(apply VVal.box;rfl;trivial)|(apply VVal.alloc;rfl)|(apply VVal.storeB;rfl;rfl;rfl;trivial;rfl;rfl;exact lt_dec rfl;exact le_dec rfl))
 all_goals first|(exfalso;omega)|contradiction|(refine Done.ret rfl (.refl _) (by exact PV.under_of rfl) HCov.nil (Nat.zero_le _) (Nat.le_refl _) ⟨?_,rfl,rfl⟩;try rfl)
theorem noneK_spec (o:Org) (ho:OrgK o):VFun env 70 [.agg (Enc.enc o)] (.tup [.p (.agg (Enc.enc (noneR o))),.p (.int .i64 0)]):=by
 have hc:=ocheck_spec o ho.sm
 rw [ho.err] at hc
 have r2:=ho.divs
 have hl:(List.replicate o.divs.length 0:List Nat).length=o.divs.length:=List.length_replicate
 have e:Enc.enc (noneR o)=[.lst 68 (cells (List.replicate o.divs.length (0:Nat))) o.divs.length,.int .u64 0,.int .u64 0]:=by
  show [FV.lst 68 (cells (List.replicate o.divs.length (0:Nat))) (List.replicate o.divs.length (0:Nat)).length,.int .u64 0,.int .u64 0]=_
  rw [hl]
 rw [e]
 refine VFun.enter (env_none (by decide)) Tryz.func70 rfl (by kernel_rfl) (by simp [Tryz.ntmps70]) ?_
 repeat' (first|(refine VOps.atOp 15 ?_;refine VOps.ghost (Ghost.freeze 14 rfl rfl) ?_)|apply VWp.assoc|apply VWp.rseq|apply VWp.skipSeq|apply VWp.ret|apply VOps.nil|apply VOps.one|(apply VVal.fn;rfl;rfl;exact hc;intro _;rfl)|(apply VVal.makeSliceL o.divs.length (0:Nat);rfl;rfl;rfl;rfl;rfl;rfl;rfl;omega;decide;decide;rfl)|(apply VVal.assign;rfl)|(apply VVal.move;rfl)|(apply VVal.int;rfl;rfl;rfl)|(apply VVal.load;rfl;rfl)|(apply VVal.lenF;rfl;rfl)|(apply VVal.fieldB;rfl;rfl;rfl)|(apply VVal.box;rfl;trivial)|(apply VVal.alloc;rfl)|(apply VVal.storeB;rfl;rfl;rfl;trivial;rfl;rfl;exact lt_dec rfl;exact le_dec rfl)|(apply VVal.build;rfl;rfl;rfl;rfl;rfl)|(apply VWp.condSeq_false;rfl))
 all_goals first|(exfalso;omega)|contradiction|(refine Done.ret rfl (.refl _) (by exact PV.under_of rfl) HCov.nil (Nat.zero_le _) (Nat.le_refl _) ⟨?_,rfl,rfl⟩;try rfl)
def wanR (o:Org) (p:Pce) (t:Int):Rgs:=if wan p t<0 then noneR o else (gi p.sets (wan p t).toNat).reg
theorem regE_len0 {o:Org} {r:Rgs} (h:regE o r=0):r.stops.length=o.divs.length:=Classical.byContradiction fun h1=>by rw [regE_len h1] at h;cases h
theorem Wanted_spec {o:Org} {p:Pce} (ho:OrgK o) (h:PceK o p) (t:Int) (he:atE o p t=0):VFun env 31 [.agg (Enc.enc o),.agg (Enc.enc p),.int .i64 t] (.tup [.p (.agg (Enc.enc (wanR o p t))),.p (.int .i64 (wan p t)),.p (.int .i64 0)]):=by
 have ha:=pieAt_spec o p ho.sm h.sm t
 rw [he] at ha
 have hw:=pieWan_spec h t
 have hn:=noneK_spec o ho
 have hr:=wanK_rng p t p.sets.length
 rw [show wanK p t p.sets.length=wan p t from rfl] at hr
 have hst:=h.set (wan p t).toNat
 have hsm:=h.sm.reg (wan p t).toNat
 unfold wanR
 generalize wan p t=W at *
 have d1:=ho.divs
 by_cases h1:W<0
 ·obtain rfl:W=-1:=by omega
  rw [if_pos h1]
  refine VFun.enter (env_none (by decide)) Tryz.func31 rfl (by kernel_rfl) (by simp [Tryz.ntmps31]) ?_
  repeat' (first|apply VWp.assoc|apply VWp.rseq|apply VWp.skipSeq|apply VWp.retSeq|apply VOps.nil|apply VOps.one|(apply VVal.fn;rfl;rfl;exact ha;intro _;rfl)|(apply VVal.fn;rfl;rfl;exact hw;intro _;rfl)|(apply VVal.fn;rfl;rfl;exact hn;intro _;rfl)|(apply VVal.assign;rfl)|(apply VVal.move;rfl)|(apply VVal.int;rfl;rfl;rfl)|(apply VVal.load;rfl;rfl)|(apply VVal.box;rfl;trivial)|(apply VVal.alloc;rfl)|(apply VVal.storeB;rfl;rfl;rfl;trivial;rfl;rfl;exact lt_dec rfl;exact le_dec rfl)|(apply VVal.extract;rfl;rfl)|(apply VWp.condSeq_true;rfl)|(apply VWp.condSeq_false;rfl))
  all_goals first|(exfalso;omega)|contradiction|(refine Done.ret rfl (.refl _) (by exact PV.under_of rfl) HCov.nil (Nat.zero_le _) (Nat.le_refl _) ⟨?_,rfl,rfl⟩;try rfl)
 ·rw [if_neg h1]
  obtain ⟨g1,g2,g3⟩:=hst (by omega)
  have hlen:=regE_len0 g3
  have hc:=pieCopied_spec (gi p.sets W.toNat).reg (by omega) (by omega)
  have hb:W=(W.toNat:Int):=by omega
  refine VFun.enter (env_none (by decide)) Tryz.func31 rfl (by kernel_rfl) (by simp [Tryz.ntmps31]) ?_
  repeat' (first|apply VWp.assoc|apply VWp.rseq|apply VWp.skipSeq|apply VWp.ret|apply VOps.nil|apply VOps.one|(apply VVal.fn;rfl;rfl;exact ha;intro _;rfl)|(apply VVal.fn;rfl;rfl;exact hw;intro _;rfl)|(apply VVal.fn;rfl;rfl;exact hc;intro _;rfl)|(apply VVal.indexN (l:=p.sets) (i:=W.toNat);rfl;exact congrArg (fun b=>some (PV.p (.int .i64 b))) hb;rfl;omega;rfl)|(apply VVal.assign;rfl)|(apply VVal.move;rfl)|(apply VVal.int;rfl;rfl;rfl)|(apply VVal.load;rfl;rfl)|(apply VVal.fieldB;rfl;rfl;rfl)|(apply VVal.fieldF;rfl;rfl)|(apply VVal.box;rfl;trivial)|(apply VVal.alloc;rfl)|(apply VVal.storeB;rfl;rfl;rfl;trivial;rfl;rfl;exact lt_dec rfl;exact le_dec rfl)|(apply VWp.condSeq_false;rfl)|(apply VWp.condSeq_dec;rfl)|(intro _;try (exfalso;omega)))
  all_goals first|(exfalso;omega)|contradiction|(refine Done.ret rfl (.refl _) (by exact PV.under_of rfl) HCov.nil (Nat.zero_le _) (Nat.le_refl _) ⟨?_,rfl,rfl⟩;try rfl)
end Go.Proofs.YtnhdddmhkhdlhaaGreatDoor
namespace Go.Proofs.YtnhdddmhkhdlhaaGreatDoor
open Go Go.Am Go.Vm Go.Pie
attribute [local irreducible] VVal VOps VOpsD VWp VCalls VFun VFunV QSeq QBlk QLoop Vm.Done DoneV DoneI
attribute [local irreducible] rchk windsE stoE dvsE cplE shiftR tailH
structure Sd8 where
 st:Nat
 lg:Nat
 dv:Nat
 ky:Nat
instance:Enc Sd8:={ default:=⟨0,0,0,0⟩,enc:=fun x=>[.int .u8 (x.st:Int),.int .u8 (x.lg:Int),.int .u8 (x.dv:Int),.int .u8 (x.ky:Int)],size:=4,len:=fun _=>rfl }
structure Mrk where
 bar:Nat
 b:Nat→Nat
instance:Enc Mrk:={ default:=⟨0,fun _=>0⟩,enc:=fun x=>[.int .u8 (x.bar:Int),.int .u8 (x.b 0:Int),.int .u8 (x.b 1:Int),.int .u8 (x.b 2:Int),.int .u8 (x.b 3:Int),.int .u8 (x.b 4:Int)],size:=6,len:=fun _=>rfl }
structure PPl where
 org:OPl
 bars:List UInt8
 notes:List Sd8
 sets:List Mrk
def PPl.enc (x:PPl):List FV:=[.lst 166 (cells x.org.ranks) x.org.ranks.length,.lst 163 (cells x.org.divs) x.org.divs.length,.lst 171 (cells x.org.links) x.org.links.length,
 .lst 5 (cells x.bars) x.bars.length,.lst 106 (cells x.notes) x.notes.length,.lst 117 (cells x.sets) x.sets.length]
structure PPl.Ok (x:PPl):Prop where
 org:x.org.Ok
 nb:x.bars.length<9223372036854775808
 nn:x.notes.length<9223372036854775808
 ns:x.sets.length<9223372036854775808
 notes:∀ i,i<x.notes.length→(gi x.notes i).st<256∧(gi x.notes i).lg<256∧(gi x.notes i).dv<256∧(gi x.notes i).ky<256
 sets:∀ i,i<x.sets.length→(gi x.sets i).bar<256∧∀ j,(gi x.sets i).b j<256
def pfits (x:PPl):Prop:=fitsP x.org∧(0<x.bars.length∧x.bars.length≤4)∧x.notes.length≤8∧x.sets.length≤3
noncomputable instance (x:PPl):Decidable (pfits x):=Classical.propDecidable _
theorem pfits_spec (x:PPl) (hx:x.Ok):VFun env 12 [.agg x.enc] (.p (.bool (decide (pfits x)))):=by
 have h1:=fits_spec x.org hx.org
 have b1:=hx.nb
 have b2:=hx.nn
 have b3:=hx.ns
 by_cases c1:fitsP x.org
 ·rw [decide_eq_true c1] at h1
  by_cases c2:(0<x.bars.length∧x.bars.length≤4)∧x.notes.length≤8∧x.sets.length≤3
  ·rw [decide_eq_true (p:=pfits x) ⟨c1,c2⟩]
   refine VFun.enter (env_none (by decide)) Tryz.func12 rfl (by kernel_rfl) (by simp [Tryz.ntmps12]) ?_
   repeat' (first|apply VWp.rseq|apply VWp.ret|apply VOps.nil|apply VOps.one|(apply VOps.take;rfl;rfl)|(apply VOps.guard;rfl;rfl)|(apply VVal.fn;rfl;rfl;exact h1;intro _;rfl)|(apply VVal.assign;rfl)|(apply VVal.move;rfl)|(apply VVal.int;rfl;rfl;rfl)|(apply VVal.load;rfl;rfl)|(apply VVal.pick_true;rfl;rfl)|(apply VVal.lenF;rfl;rfl)|(apply VVal.fieldB;rfl;rfl;rfl)|(apply VVal.box;rfl;trivial)|(intro _;try (exfalso;omega)))
   all_goals first|(exfalso;omega)|contradiction|(refine Done.ret rfl (.refl _) (by exact PV.under_of rfl) HCov.nil (Nat.zero_le _) (Nat.le_refl _) ⟨?_,rfl,rfl⟩;try rfl)
   all_goals exact PV.bool_eq (by simp;omega)
  ·rw [decide_eq_false (p:=pfits x) (fun h=>c2 h.2)]
   refine VFun.enter (env_none (by decide)) Tryz.func12 rfl (by kernel_rfl) (by simp [Tryz.ntmps12]) ?_
   repeat' (first|apply VWp.rseq|apply VWp.ret|apply VOps.nil|apply VOps.one|(apply VOps.take;rfl;rfl)|(apply VOps.drop;rfl;rfl;rfl)|(apply VOps.guard;rfl;rfl)|(apply VVal.fn;rfl;rfl;exact h1;intro _;rfl)|(apply VVal.assign;rfl)|(apply VVal.move;rfl)|(apply VVal.int;rfl;rfl;rfl)|(apply VVal.load;rfl;rfl)|(apply VVal.pick_true;rfl;rfl)|(apply VVal.pick_false;rfl;rfl)|(apply VVal.lenF;rfl;rfl)|(apply VVal.fieldB;rfl;rfl;rfl)|(apply VVal.box;rfl;trivial)|(intro _;try (exfalso;omega)))
   all_goals first|(exfalso;omega)|contradiction|(refine Done.ret rfl (.refl _) (by exact PV.under_of rfl) HCov.nil (Nat.zero_le _) (Nat.le_refl _) ⟨?_,rfl,rfl⟩;try rfl)
   all_goals exact PV.bool_eq (by simp;omega)
 ·rw [decide_eq_false c1] at h1
  rw [decide_eq_false (p:=pfits x) (fun h=>c1 h.1)]
  refine VFun.enter (env_none (by decide)) Tryz.func12 rfl (by kernel_rfl) (by simp [Tryz.ntmps12]) ?_
  repeat' (first|apply VWp.rseq|apply VWp.ret|apply VOps.nil|apply VOps.one|(apply VOps.drop;rfl;rfl;rfl)|(apply VVal.fn;rfl;rfl;exact h1;intro _;rfl)|(apply VVal.assign;rfl)|(apply VVal.move;rfl)|(apply VVal.load;rfl;rfl)|(apply VVal.pick_false;rfl;rfl)|(apply VVal.fieldB;rfl;rfl;rfl)|(apply VVal.box;rfl;trivial))
  all_goals first|(exfalso;omega)|contradiction|(refine Done.ret rfl (.refl _) (by exact PV.under_of rfl) HCov.nil (Nat.zero_le _) (Nat.le_refl _) ⟨?_,rfl,rfl⟩;try rfl)
def bM (l:List UInt8):Nat→Int
 |0=>0
 |i+1=>bM l i+1+((gi l i).toNat:Int) % 6
theorem bM_rng (l:List UInt8):∀ i:Nat,(i:Int)≤bM l i∧bM l i≤6*i
 |0=>by simp [bM]
 |i+1=>by
  have:=bM_rng l i
  unfold bM
  omega
def ntP (o:Org) (z:Int) (y:Sd8):Nte :=
 ⟨(y.st:Int) % z,min z ((y.st:Int) % z+1+(y.lg:Int) % 8),(y.dv:Int) % (o.divs.length:Int),
  (gi o.divs ((y.dv:Int) % (o.divs.length:Int)).toNat).lo+(y.ky:Int) % ((gi o.divs ((y.dv:Int) % (o.divs.length:Int)).toNat).hi-(gi o.divs ((y.dv:Int) % (o.divs.length:Int)).toNat).lo+1)⟩
def ntsK (o:Org) (z:Int) (l:List Sd8):Nat→List Nte
 |0=>[]
 |k+1=>if (ntsK o z l k).any (fun m=>ovl m (ntP o z (gi l k)))=true then ntsK o z l k else ntsK o z l k++[ntP o z (gi l k)]
theorem ntsK_len (o:Org) (z:Int) (l:List Sd8):∀ k,(ntsK o z l k).length≤k
 |0=>Nat.le_refl _
 |k+1=>by
  have:=ntsK_len o z l k
  unfold ntsK
  split
  ·omega
  ·simp;omega
def lasK (nb:Nat) (l:List Mrk):Nat→Int
 |0=>-1
 |k+1=>if ((gi l k).bar:Int) % (nb:Int)>lasK nb l k then ((gi l k).bar:Int) % (nb:Int) else lasK nb l k
noncomputable def stgK (o:Org) (nb:Nat) (l:List Mrk):Nat→List Stg
 |0=>[]
 |k+1=>if ((gi l k).bar:Int) % (nb:Int)>lasK nb l k then stgK o nb l k++[⟨((gi l k).bar:Int) % (nb:Int),drawnR o (gi l k).b⟩] else stgK o nb l k
theorem stgK_len (o:Org) (nb:Nat) (l:List Mrk):∀ k,(stgK o nb l k).length≤k
 |0=>Nat.le_refl _
 |k+1=>by
  have:=stgK_len o nb l k
  unfold stgK
  split
  ·simp;omega
  ·omega
noncomputable def mkPo (o:Org) (x:PPl):Pce:=⟨snocK (bM x.bars) (x.bars.length+1),ntsK o (bM x.bars x.bars.length) x.notes x.notes.length,stgK o x.bars.length x.sets x.sets.length⟩
noncomputable def mkP (x:PPl):Pce:=mkPo (mkO x.org) x
theorem ovl_spec (a b:Nte):VFun env 43 [.agg (Enc.enc a),.agg (Enc.enc b)] (.p (.bool (ovl a b))):=by
 unfold ovl
 by_cases h1:a.d=b.d
 case neg =>
  rw [decide_eq_false h1,Bool.false_and]
  refine VFun.enter (env_none (by decide)) Tryz.func43 rfl (by kernel_rfl) (by simp [Tryz.ntmps43]) ?_
  repeat' (first|apply VWp.rseq|apply VWp.ret|apply VOps.nil|apply VOps.one|(apply VOps.drop;rfl;rfl;rfl)|(apply VOps.guard;rfl;rfl)|(apply VVal.assign;rfl)|(apply VVal.move;rfl)|(apply VVal.int;rfl;rfl;rfl)|(apply VVal.load;rfl;rfl)|(apply VVal.pick_false;rfl;rfl)|(apply VVal.fieldB;rfl;rfl;rfl)|(apply VVal.box;rfl;trivial)|(intro _;try (exfalso;omega)))
  all_goals first|(exfalso;omega)|contradiction|(refine Done.ret rfl (.refl _) (by exact PV.under_of rfl) HCov.nil (Nat.zero_le _) (Nat.le_refl _) ⟨?_,rfl,rfl⟩;try rfl)
 by_cases h2:a.k=b.k
 case neg =>
  rw [decide_eq_true h1,decide_eq_false h2,Bool.false_and,Bool.true_and]
  refine VFun.enter (env_none (by decide)) Tryz.func43 rfl (by kernel_rfl) (by simp [Tryz.ntmps43]) ?_
  repeat' (first|apply VWp.rseq|apply VWp.ret|apply VOps.nil|apply VOps.one|(apply VOps.take;rfl;rfl)|(apply VOps.drop;rfl;rfl;rfl)|(apply VOps.guard;rfl;rfl)|(apply VVal.assign;rfl)|(apply VVal.move;rfl)|(apply VVal.int;rfl;rfl;rfl)|(apply VVal.load;rfl;rfl)|(apply VVal.pick_true;rfl;rfl)|(apply VVal.pick_false;rfl;rfl)|(apply VVal.fieldB;rfl;rfl;rfl)|(apply VVal.box;rfl;trivial)|(intro _;try (exfalso;omega)))
  all_goals first|(exfalso;omega)|contradiction|(refine Done.ret rfl (.refl _) (by exact PV.under_of rfl) HCov.nil (Nat.zero_le _) (Nat.le_refl _) ⟨?_,rfl,rfl⟩;try rfl)
 by_cases h3:a.s<b.e
 case neg =>
  rw [decide_eq_true h1,decide_eq_true h2,decide_eq_false h3,Bool.false_and,Bool.true_and]
  refine VFun.enter (env_none (by decide)) Tryz.func43 rfl (by kernel_rfl) (by simp [Tryz.ntmps43]) ?_
  repeat' (first|apply VWp.rseq|apply VWp.ret|apply VOps.nil|apply VOps.one|(apply VOps.take;rfl;rfl)|(apply VOps.drop;rfl;rfl;rfl)|(apply VOps.guard;rfl;rfl)|(apply VVal.assign;rfl)|(apply VVal.move;rfl)|(apply VVal.int;rfl;rfl;rfl)|(apply VVal.load;rfl;rfl)|(apply VVal.pick_true;rfl;rfl)|(apply VVal.pick_false;rfl;rfl)|(apply VVal.fieldB;rfl;rfl;rfl)|(apply VVal.box;rfl;trivial)|(intro _;try (exfalso;omega)))
  all_goals first|(exfalso;omega)|contradiction|(refine Done.ret rfl (.refl _) (by exact PV.under_of rfl) HCov.nil (Nat.zero_le _) (Nat.le_refl _) ⟨?_,rfl,rfl⟩;try rfl)
 rw [decide_eq_true h1,decide_eq_true h2,decide_eq_true h3,Bool.true_and,Bool.true_and,Bool.true_and]
 refine VFun.enter (env_none (by decide)) Tryz.func43 rfl (by kernel_rfl) (by simp [Tryz.ntmps43]) ?_
 repeat' (first|apply VWp.rseq|apply VWp.ret|apply VOps.nil|apply VOps.one|(apply VOps.take;rfl;rfl)|(apply VOps.guard;rfl;rfl)|(apply VVal.assign;rfl)|(apply VVal.move;rfl)|(apply VVal.int;rfl;rfl;rfl)|(apply VVal.load;rfl;rfl)|(apply VVal.pick_true;rfl;rfl)|(apply VVal.fieldB;rfl;rfl;rfl)|(apply VVal.box;rfl;trivial)|(intro _;try (exfalso;omega)))
 all_goals first|(exfalso;omega)|contradiction|(refine Done.ret rfl (.refl _) (by exact PV.under_of rfl) HCov.nil (Nat.zero_le _) (Nat.le_refl _) ⟨?_,rfl,rfl⟩;try rfl)
theorem make1_spec (n m:Nte):VRead env 42 ([.p (.agg (Enc.enc m))]++[.ref 0 0]) [(0,nteB n)] 1 (.bool (ovl m n)):=by
 have h:=ovl_spec m n
 refine VRead.enter (env_none (by decide)) Tryz.func42 rfl (by kernel_rfl) (by simp [Tryz.ntmps42]) ?_
 repeat' (first|apply VWp.rseq|apply VWp.ret|apply VOps.nil|apply VOps.one|(apply VVal.fn;rfl;rfl;exact h;intro _;rfl)|(apply VVal.assign;rfl)|(apply VVal.load;rfl;rfl)|(apply VVal.box;rfl;trivial))
 all_goals first|(exfalso;omega)|(refine Done.ret rfl (.refl _) trivial ?_ (by omega) (Nat.le_refl _) ⟨?_,rfl,rfl⟩;repeat (first|exact HCov.nil|(refine HCov.cons (lt_dec rfl) ?_ rfl ?_ ?_;(first|exact HB.under_of rfl|exact PVs.under_pure _ _|(simp [HB.under,PVs.under,PV.under]));(first|exact HLe.refl _|exact HLe.vec (FLes.refl _) (by simp))));try rfl)
theorem make45_spec (x:PPl) (hx:x.Ok) (hf:pfits x):VFun env 13 [.agg x.enc] (.tup [.p (.agg (Enc.enc (mkO x.org))),.p (.agg (Enc.enc (mkP x)))]):=by
 obtain ⟨f1,f2,f3,f4⟩:=hf
 have hm:=make18_spec x.org hx.org f1
 have hT:=mkO_t x.org hx.org f1
 have hdr:=fun i (hi:i<x.sets.length)=>drawn_spec (mkO x.org) hT (gi x.sets i).b (hx.sets i hi).2
 have hbr:=bM_rng x.bars
 unfold mkP mkPo
 generalize mkO x.org=o at *
 have d1:=hT.divs
 have hsl:(snocK (bM x.bars) (x.bars.length+1)).length=x.bars.length+1:=snocK_len _ _
 refine VFun.enter (env_none (by decide)) Tryz.func13 rfl (by kernel_rfl) (by simp [Tryz.ntmps13]) ?_
 repeat' (first|apply VWp.assoc|apply VWp.rseq|apply VWp.blockSeq|apply VOps.nil|apply VOps.one|(apply VVal.fn;rfl;rfl;exact hm;intro _;rfl)|(apply VVal.move;rfl)|(apply VVal.load;rfl;rfl)|(apply VVal.lenF;rfl;rfl)|(apply VVal.fieldB;rfl;rfl;rfl)|(apply VVal.box;rfl;trivial)|(apply VVal.alloc;rfl)|(apply VVal.storeB;rfl;rfl;rfl;trivial;rfl;rfl;exact lt_dec rfl;exact le_dec rfl)|(apply VVal.build;rfl;rfl;rfl;rfl;rfl)|(apply VVal.buildSlice;rfl;rfl;rfl;decide;rfl;rfl;rfl))
 all_goals try (exfalso;omega)
 apply VWp.loopR (x.bars.length) [(1,_),(2,_),(3,_),(4,_),(5,_),(24,_),(25,_)] [(0,_),(1,_),(2,_),(3,_)] (fun k r=>(26,.p (.int .i64 (k:Int)))::r) (fun k r=>(4,.vec 3 (cells (snocK (bM x.bars) (k+1))) (snocK (bM x.bars) (k+1)).length false)::(5,.box 45 [.vec 4 (snocK (bM x.bars) (k+1)).length 0 (snocK (bM x.bars) (k+1)).length,.p (.val (.slice none 0 0)),.p (.val (.slice none 0 0))])::r) 6
 ·first|omega|decide
 ·first|omega|decide
 ·repeat (first|exact LCov.nil|(refine LCov.eq rfl ?_ ?_;(first|exact PV.under_of rfl|(simp [PV.under,PVs.under];done)))|refine LCov.cons trivial rfl (.of_eq (lst_len (by simp<;>omega))) ?_)
 ·repeat (first|exact HCov.nil|(refine HCov.eq rfl (lt_dec rfl) ?_ ?_;(first|exact HB.under_of rfl|exact PVs.under_pure _ _|(simp [HB.under,PVs.under,PV.under];done)))|(refine HCov.cons (lt_dec rfl) ?_ rfl ?_ ?_;(first|exact trivial|exact PVs.under_pure _ _|(simp [HB.under,PVs.under,PV.under]));(first|exact HLe.refl _|exact HLe.vec (FLes.refl _) (by simp))))
 ·intro k hk
  have hl:(snocK (bM x.bars) (k+1)).length=k+1:=snocK_len _ _
  have hg:gi (snocK (bM x.bars) (k+1)) k=bM x.bars k:=snocK_gi _ (by omega)
  have hb:=hbr k
  have hu:=(gi x.bars k).toNat_lt
  have e1:snocK (bM x.bars) (k+1+1)=snocK (bM x.bars) (k+1)++[bM x.bars k+1+((gi x.bars k).toNat:Int) % 6]:=rfl
  have e2:(snocK (bM x.bars) (k+1+1)).length=(snocK (bM x.bars) (k+1)).length+1:=by rw [e1];simp
  repeat' (first|apply VWp.rseq|apply VWp.region|apply VWp.regionD|apply VWp.skipSeq|apply VWp.blockSeq|apply QSeq.normal|apply QBlk.normal|apply VOps.nil|apply VOpsD.nil|apply VOps.one|(apply VOpsD.bar;decide +kernel)|apply VOpsD.quiet|(apply VVal.loadVL;rfl;rfl;(first|omega|(simp only [List.length_set]<;>omega));exact congrArg (fun b=>some (FV.int .i64 b)) (hg))|(apply VVal.append1 (a:=(bM x.bars k+1+((gi x.bars k).toNat:Int) % 6));rfl;rfl;rfl;rfl;rfl;rfl;rfl;rfl;(intro _ h;cases h);rfl;rfl;rfl;decide;decide;(first|omega|(simp only [List.length_take,List.length_drop,List.length_append,List.length_singleton,List.length_cons,List.length_nil]<;>omega)))|(apply VVal.assign;rfl)|(apply VVal.move;rfl)|(apply VVal.add64;rfl;rfl;omega)|(apply VVal.remI;rfl;rfl;omega;omega)|(apply VVal.int;rfl;rfl;rfl)|(apply VVal.indexN;rfl;rfl;rfl;omega;rfl)|(apply VVal.load;rfl;rfl)|(apply VVal.fieldB;rfl;rfl;rfl)|(apply VVal.storeB;rfl;rfl;rfl;trivial;rfl;rfl;exact lt_dec rfl;exact le_dec rfl)|(apply VVal.buildSlice;rfl;rfl;rfl;decide;rfl;rfl;rfl)|(apply VVal.indexVN;rfl;rfl;rfl;rfl;omega)|(apply VVal.convI;rfl;rfl;rfl;rfl;omega)|(apply VWp.condSeq_dec;rfl)|(intro _;try (exfalso;omega)))
  all_goals try (exfalso;omega)
  refine QLoop.normal ⟨by first|omega|decide,?_,?_⟩
  ·try (rw [e2,e1])
   repeat (first|exact LCov.nil|refine LCov.same (by exact PV.under_of rfl) rfl ?_|refine LCov.cons trivial rfl (.of_eq (lst_len (by simp<;>omega))) ?_)
  ·rw [e2,e1]
   repeat (first|exact HCov.nil|(refine HCov.cons (lt_dec rfl) ?_ rfl ?_ ?_;(first|exact HB.under_of rfl|exact PVs.under_pure _ _|(simp [HB.under,PVs.under,PV.under]));(first|exact HLe.refl _|exact HLe.vec (FLes.refl _) (by simp))))
 ·have hg:gi (snocK (bM x.bars) (x.bars.length+1)) x.bars.length=bM x.bars x.bars.length:=snocK_gi _ (by omega)
  have hb:=hbr x.bars.length
  have hlc:((snocK (bM x.bars) (x.bars.length+1)).length:Int)-1=(x.bars.length:Int):=by omega
  repeat' (first|apply VWp.assoc|apply VWp.rseq|apply VWp.exitSeq|apply VWp.blockSeq|apply QSeq.normal|apply QBlk.exit|apply QLoop.exit|apply VOps.nil|apply VOps.one|(apply VVal.loadVL;rfl;rfl;(first|omega|(simp only [List.length_set]<;>omega));exact congrArg (fun b=>some (FV.int .i64 b)) (hg))|(apply VVal.indexVN (l:=snocK (bM x.bars) (x.bars.length+1)) (i:=x.bars.length);rfl;rfl;exact congrArg (fun b=>some (PV.p (.int .i64 b))) hlc;rfl;omega)|(apply VVal.assign;rfl)|(apply VVal.move;rfl)|(apply VVal.sub64;rfl;rfl;omega)|(apply VVal.int;rfl;rfl;rfl)|(apply VVal.load;rfl;rfl)|(apply VVal.lenF;rfl;rfl)|(apply VVal.lenV;rfl;rfl;rfl)|(apply VVal.fieldB;rfl;rfl;rfl)|(apply VWp.condSeq_dec;rfl)|(intro _;try (exfalso;omega)))
  all_goals try (exfalso;omega)
  refine VWp.ghost (Ghost.adoptCell 5 1 66 rfl rfl) ?_
  refine VWp.ghost (Ghost.adoptCell 5 2 74 rfl rfl) ?_
  obtain ⟨z,hz⟩:∃ z,z=bM x.bars x.bars.length:=⟨_,rfl⟩
  rw [← hz] at hb ⊢
  apply VWp.loopR (x.notes.length) [(1,_),(2,_),(3,_),(4,_),(5,_),(8,_),(56,_),(57,_)] [(0,_),(1,_),(2,_),(3,_),(4,_),(7,_)] (fun k r=>(58,.p (.int .i64 (k:Int)))::r) (fun k r=>(6,.vec 66 (cells (ntsK o z x.notes k)) (ntsK o z x.notes k).length true)::(5,.box 45 [.vec 4 (snocK (bM x.bars) (x.bars.length+1)).length 0 (snocK (bM x.bars) (x.bars.length+1)).length,.vec 6 (ntsK o z x.notes k).length 0 (ntsK o z x.notes k).length,.vec 7 0 0 0])::r) 8
  ·first|omega|decide
  ·first|omega|decide
  ·repeat (first|exact LCov.nil|(refine LCov.eq rfl ?_ ?_;(first|exact PV.under_of rfl|(simp [PV.under,PVs.under];done)))|refine LCov.cons trivial rfl (.of_eq (lst_len (by simp<;>omega))) ?_)
  ·repeat (first|exact HCov.nil|(refine HCov.eq rfl (lt_dec rfl) ?_ ?_;(first|exact HB.under_of rfl|exact PVs.under_pure _ _|(simp [HB.under,PVs.under,PV.under];done)))|(refine HCov.cons (lt_dec rfl) ?_ rfl ?_ ?_;(first|exact trivial|exact PVs.under_pure _ _|(simp [HB.under,PVs.under,PV.under]));(first|exact HLe.refl _|exact HLe.vec (FLes.refl _) (by simp))))
  ·intro k hk
   have hl2:=ntsK_len o z x.notes k
   obtain ⟨y1,y2,y3,y4⟩:=hx.notes k hk
   have hd0:0≤((gi x.notes k).dv:Int) % (o.divs.length:Int):=Int.emod_nonneg _ (by omega)
   have hd1:((gi x.notes k).dv:Int) % (o.divs.length:Int)<(o.divs.length:Int):=Int.emod_lt_of_pos _ (by omega)
   have hdv:=hT.dv (((gi x.notes k).dv:Int) % (o.divs.length:Int)).toNat (by omega)
   have hs0:0≤((gi x.notes k).st:Int) % z:=Int.emod_nonneg _ (by omega)
   have hs1:((gi x.notes k).st:Int) % z<z:=Int.emod_lt_of_pos _ (by omega)
   have hk0:0≤((gi x.notes k).ky:Int) % ((gi o.divs (((gi x.notes k).dv:Int) % (o.divs.length:Int)).toNat).hi-(gi o.divs (((gi x.notes k).dv:Int) % (o.divs.length:Int)).toNat).lo+1):=Int.emod_nonneg _ (by omega)
   have hk1:((gi x.notes k).ky:Int) % ((gi o.divs (((gi x.notes k).dv:Int) % (o.divs.length:Int)).toNat).hi-(gi o.divs (((gi x.notes k).dv:Int) % (o.divs.length:Int)).toNat).lo+1)<(gi o.divs (((gi x.notes k).dv:Int) % (o.divs.length:Int)).toNat).hi-(gi o.divs (((gi x.notes k).dv:Int) % (o.divs.length:Int)).toNat).lo+1:=Int.emod_lt_of_pos _ (by omega)
   have hany:=anyNteV 42 (ntP o z (gi x.notes k)) (ntsK o z x.notes k) true (fun m=>ovl m (ntP o z (gi x.notes k))) (by omega) (fun m=>make1_spec (ntP o z (gi x.notes k)) m)
   have e1:ntsK o z x.notes (k+1)=if (ntsK o z x.notes k).any (fun m=>ovl m (ntP o z (gi x.notes k)))=true then ntsK o z x.notes k else ntsK o z x.notes k++[ntP o z (gi x.notes k)]:=rfl
   by_cases hb:(ntsK o z x.notes k).any (fun m=>ovl m (ntP o z (gi x.notes k)))=true
   ·rw [if_pos hb] at e1
    rw [hb] at hany
    repeat' (first|apply VWp.rseq|apply VWp.rseqD|apply VWp.region|apply VWp.skipSeq|apply VWp.blockSeq|apply QSeq.normal|apply QBlk.normal|apply VWp.skip|apply VOps.nil|apply VOpsD.nil|apply VOps.one|(apply VOpsD.bar;decide +kernel)|apply VOpsD.quiet|(apply VVal.read [10,6] hany;rfl;rfl;exact .of_eq rfl;exact PVs.under_of rfl;exact HUnder_of rfl;(repeat (first|exact trivial|refine ⟨⟨_,rfl,.of_eq rfl⟩,?_⟩));decide;(intro _ hb;simp at hb<;>omega);rfl)|(apply VVal.makeFunc;rfl;rfl)|(apply VVal.assign;rfl)|(apply VVal.move;rfl)|(apply VVal.add64;rfl;rfl;omega)|(apply VVal.sub64;rfl;rfl;omega)|(apply VVal.remI;rfl;rfl;omega;omega)|(apply VVal.int;rfl;rfl;rfl)|(apply VVal.indexN;rfl;rfl;rfl;omega;rfl)|(apply VVal.indexE;rfl;rfl;rfl;omega;omega;rfl)|(apply VVal.load;rfl;rfl)|(apply VVal.lenF;rfl;rfl)|(apply VVal.fieldB;rfl;rfl;rfl)|(apply VVal.fieldF;rfl;rfl)|(apply VVal.alloc;rfl)|(apply VVal.storeB;rfl;rfl;rfl;trivial;rfl;rfl;exact lt_dec rfl;exact le_dec rfl)|(apply VVal.build;rfl;rfl;rfl;rfl;rfl)|(apply VVal.minI;rfl;rfl)|(apply VVal.not;rfl)|(apply VVal.convI;rfl;rfl;rfl;rfl;omega)|(apply VWp.condSeq_dec;rfl)|(apply VWp.cond_false;rfl)|(intro _;try (exfalso;omega)))
    all_goals try (exfalso;omega)
    refine QLoop.normal ⟨by first|omega|decide,?_,?_⟩
    ·try (rw [e1])
     repeat (first|exact LCov.nil|refine LCov.same (by exact PV.under_of rfl) rfl ?_|refine LCov.cons trivial rfl (.of_eq (lst_len (by simp<;>omega))) ?_)
    ·rw [e1]
     repeat (first|exact HCov.nil|(refine HCov.cons (lt_dec rfl) ?_ rfl ?_ ?_;(first|exact HB.under_of rfl|exact PVs.under_pure _ _|(simp [HB.under,PVs.under,PV.under]));(first|exact HLe.refl _|exact HLe.vec (FLes.refl _) (by simp))))
   ·rw [if_neg hb] at e1
    have hb':(ntsK o z x.notes k).any (fun m=>ovl m (ntP o z (gi x.notes k)))=false:=by simpa using hb
    rw [hb'] at hany
    have e2:(ntsK o z x.notes (k+1)).length=(ntsK o z x.notes k).length+1:=by rw [e1];simp
    repeat' (first|apply VWp.rseq|apply VWp.rseqD|apply VWp.region|apply VWp.skipSeq|apply VWp.blockSeq|apply QSeq.normal|apply QBlk.normal|apply VOps.nil|apply VOpsD.nil|apply VOps.one|(apply VOpsD.bar;decide +kernel)|apply VOpsD.quiet|(apply VVal.read [10,6] hany;rfl;rfl;exact .of_eq rfl;exact PVs.under_of rfl;exact HUnder_of rfl;(repeat (first|exact trivial|refine ⟨⟨_,rfl,.of_eq rfl⟩,?_⟩));decide;(intro _ hb;simp at hb<;>omega);rfl)|(apply VVal.makeFunc;rfl;rfl)|(apply VVal.append1 (a:=ntP o z (gi x.notes k));rfl;rfl;rfl;rfl;rfl;rfl;rfl;rfl;(intro _ h;cases h);rfl;rfl;rfl;decide;decide;(first|omega|(simp only [List.length_take,List.length_drop,List.length_append,List.length_singleton,List.length_cons,List.length_nil]<;>omega)))|(apply VVal.assign;rfl)|(apply VVal.move;rfl)|(apply VVal.add64;rfl;rfl;omega)|(apply VVal.sub64;rfl;rfl;omega)|(apply VVal.remI;rfl;rfl;omega;omega)|(apply VVal.int;rfl;rfl;rfl)|(apply VVal.indexN;rfl;rfl;rfl;omega;rfl)|(apply VVal.indexE;rfl;rfl;rfl;omega;omega;rfl)|(apply VVal.load;rfl;rfl)|(apply VVal.lenF;rfl;rfl)|(apply VVal.fieldB;rfl;rfl;rfl)|(apply VVal.fieldF;rfl;rfl)|(apply VVal.alloc;rfl)|(apply VVal.storeB;rfl;rfl;rfl;trivial;rfl;rfl;exact lt_dec rfl;exact le_dec rfl)|(apply VVal.build;rfl;rfl;rfl;rfl;rfl)|(apply VVal.buildSlice;rfl;rfl;rfl;decide;rfl;rfl;rfl)|(apply VVal.minI;rfl;rfl)|(apply VVal.not;rfl)|(apply VVal.convI;rfl;rfl;rfl;rfl;omega)|(apply VWp.condSeq_dec;rfl)|(apply VWp.cond_true;rfl)|(intro _;try (exfalso;omega)))
    all_goals try (exfalso;omega)
    refine QLoop.normal ⟨by first|omega|decide,?_,?_⟩
    ·try (rw [e2,e1])
     repeat (first|exact LCov.nil|refine LCov.same (by exact PV.under_of rfl) rfl ?_|refine LCov.cons trivial rfl (.of_eq (lst_len (by simp<;>omega))) ?_)
    ·rw [e2,e1]
     repeat (first|exact HCov.nil|(refine HCov.cons (lt_dec rfl) ?_ rfl ?_ ?_;(first|exact HB.under_of rfl|exact PVs.under_pure _ _|(simp [HB.under,PVs.under,PV.under]));(first|exact HLe.refl _|exact HLe.vec (FLes.refl _) (by simp))))
  ·have hl2:=ntsK_len o z x.notes x.notes.length
   repeat' (first|apply VWp.assoc|apply VWp.rseq|apply VWp.exitSeq|apply VWp.blockSeq|apply QSeq.normal|apply QBlk.exit|apply QLoop.exit|apply VOps.nil|apply VOps.one|(apply VVal.assign;rfl)|(apply VVal.move;rfl)|(apply VVal.int;rfl;rfl;rfl)|(apply VVal.load;rfl;rfl)|(apply VVal.lenF;rfl;rfl)|(apply VVal.fieldB;rfl;rfl;rfl)|(apply VWp.condSeq_dec;rfl)|(intro _;try (exfalso;omega)))
   all_goals try (exfalso;omega)
   apply VWp.loopR (x.sets.length) [(1,_),(2,_),(3,_),(4,_),(5,_),(119,_),(120,_)] [(0,_),(1,_),(2,_),(3,_),(4,_),(6,_)] (fun k r=>(121,.p (.int .i64 (k:Int)))::(14,.p (.int .i64 (lasK x.bars.length x.sets k)))::r) (fun k r=>(7,.vec 74 (cells (stgK o x.bars.length x.sets k)) (stgK o x.bars.length x.sets k).length true)::(5,.box 45 [.vec 4 (snocK (bM x.bars) (x.bars.length+1)).length 0 (snocK (bM x.bars) (x.bars.length+1)).length,.vec 6 (ntsK o z x.notes x.notes.length).length 0 (ntsK o z x.notes x.notes.length).length,.vec 7 (stgK o x.bars.length x.sets k).length 0 (stgK o x.bars.length x.sets k).length])::r) 8
   ·first|omega|decide
   ·first|omega|decide
   ·repeat (first|exact LCov.nil|(refine LCov.eq rfl ?_ ?_;(first|exact PV.under_of rfl|(simp [PV.under,PVs.under];done)))|refine LCov.cons trivial rfl (.of_eq (lst_len (by simp<;>omega))) ?_)
   ·repeat (first|exact HCov.nil|(refine HCov.eq rfl (lt_dec rfl) ?_ ?_;(first|exact HB.under_of rfl|exact PVs.under_pure _ _|(simp [HB.under,PVs.under,PV.under];done)))|(refine HCov.cons (lt_dec rfl) ?_ rfl ?_ ?_;(first|exact trivial|exact PVs.under_pure _ _|(simp [HB.under,PVs.under,PV.under]));(first|exact HLe.refl _|exact HLe.vec (FLes.refl _) (by simp))))
   ·intro k hk
    have hl3:=stgK_len o x.bars.length x.sets k
    have hy:=(hx.sets k hk).1
    have hdk:=hdr k hk
    have hb0:0≤((gi x.sets k).bar:Int) % (x.bars.length:Int):=Int.emod_nonneg _ (by omega)
    have hb1:((gi x.sets k).bar:Int) % (x.bars.length:Int)<(x.bars.length:Int):=Int.emod_lt_of_pos _ (by omega)
    have e1:stgK o x.bars.length x.sets (k+1)=if ((gi x.sets k).bar:Int) % (x.bars.length:Int)>lasK x.bars.length x.sets k then stgK o x.bars.length x.sets k++[⟨((gi x.sets k).bar:Int) % (x.bars.length:Int),drawnR o (gi x.sets k).b⟩] else stgK o x.bars.length x.sets k:=rfl
    have e3:lasK x.bars.length x.sets (k+1)=if ((gi x.sets k).bar:Int) % (x.bars.length:Int)>lasK x.bars.length x.sets k then ((gi x.sets k).bar:Int) % (x.bars.length:Int) else lasK x.bars.length x.sets k:=rfl
    by_cases hc:((gi x.sets k).bar:Int) % (x.bars.length:Int)>lasK x.bars.length x.sets k
    ·rw [if_pos hc] at e1 e3
     have e2:(stgK o x.bars.length x.sets (k+1)).length=(stgK o x.bars.length x.sets k).length+1:=by rw [e1];simp
     repeat' (first|apply VWp.rseq|apply VWp.region|apply VWp.regionD|apply VWp.skipSeq|apply VWp.blockSeq|apply QSeq.normal|apply QBlk.normal|apply VOps.nil|apply VOpsD.nil|apply VOps.one|(apply VOpsD.bar;decide +kernel)|apply VOpsD.quiet|(apply VVal.fn;rfl;rfl;exact hdk;intro _;rfl)|(apply VVal.append1 (a:=(⟨((gi x.sets k).bar:Int) % (x.bars.length:Int),drawnR o (gi x.sets k).b⟩:Stg));rfl;rfl;rfl;rfl;rfl;rfl;rfl;rfl;(intro _ h;cases h);rfl;rfl;rfl;decide;decide;(first|omega|(simp only [List.length_take,List.length_drop,List.length_append,List.length_singleton,List.length_cons,List.length_nil]<;>omega)))|(apply VVal.assign;rfl)|(apply VVal.move;rfl)|(apply VVal.add64;rfl;rfl;omega)|(apply VVal.remI;rfl;rfl;omega;omega)|(apply VVal.int;rfl;rfl;rfl)|(apply VVal.indexN;rfl;rfl;rfl;omega;rfl)|(apply VVal.load;rfl;rfl)|(apply VVal.lenF;rfl;rfl)|(apply VVal.fieldB;rfl;rfl;rfl)|(apply VVal.alloc;rfl)|(apply VVal.storeB;rfl;rfl;rfl;trivial;rfl;rfl;exact lt_dec rfl;exact le_dec rfl)|(apply VVal.build;rfl;rfl;rfl;rfl;rfl)|(apply VVal.buildSlice;rfl;rfl;rfl;decide;rfl;rfl;rfl)|(apply VVal.convI;rfl;rfl;rfl;rfl;omega)|(apply VWp.condSeq_dec;rfl)|(apply VWp.cond_dec;rfl)|(intro _;try (exfalso;omega)))
     all_goals try (exfalso;omega)
     refine QLoop.normal ⟨by first|omega|decide,?_,?_⟩
     ·try (first|rw [e2,e1]|rw [e3])
      repeat (first|exact LCov.nil|refine LCov.same (by exact PV.under_of rfl) rfl ?_|refine LCov.cons trivial rfl (.of_eq (lst_len (by simp<;>omega))) ?_)
     ·first|rw [e2,e1]|rw [e3]
      repeat (first|exact HCov.nil|(refine HCov.cons (lt_dec rfl) ?_ rfl ?_ ?_;(first|exact HB.under_of rfl|exact PVs.under_pure _ _|(simp [HB.under,PVs.under,PV.under]));(first|exact HLe.refl _|exact HLe.vec (FLes.refl _) (by simp))))
    ·rw [if_neg hc] at e1 e3
     repeat' (first|apply VWp.rseq|apply VWp.region|apply VWp.skipSeq|apply VWp.blockSeq|apply QSeq.normal|apply QBlk.normal|apply VWp.skip|apply VOps.nil|apply VOps.one|(apply VVal.assign;rfl)|(apply VVal.move;rfl)|(apply VVal.add64;rfl;rfl;omega)|(apply VVal.remI;rfl;rfl;omega;omega)|(apply VVal.int;rfl;rfl;rfl)|(apply VVal.indexN;rfl;rfl;rfl;omega;rfl)|(apply VVal.load;rfl;rfl)|(apply VVal.lenF;rfl;rfl)|(apply VVal.fieldB;rfl;rfl;rfl)|(apply VVal.alloc;rfl)|(apply VVal.storeB;rfl;rfl;rfl;trivial;rfl;rfl;exact lt_dec rfl;exact le_dec rfl)|(apply VVal.convI;rfl;rfl;rfl;rfl;omega)|(apply VWp.condSeq_dec;rfl)|(apply VWp.cond_dec;rfl)|(intro _;try (exfalso;omega)))
     all_goals try (exfalso;omega)
     refine QLoop.normal ⟨by first|omega|decide,?_,?_⟩
     ·try (first|rw [e1]|rw [e3])
      repeat (first|exact LCov.nil|refine LCov.same (by exact PV.under_of rfl) rfl ?_|refine LCov.cons trivial rfl (.of_eq (lst_len (by simp<;>omega))) ?_)
     ·first|rw [e1]|rw [e3]
      repeat (first|exact HCov.nil|(refine HCov.cons (lt_dec rfl) ?_ rfl ?_ ?_;(first|exact HB.under_of rfl|exact PVs.under_pure _ _|(simp [HB.under,PVs.under,PV.under]));(first|exact HLe.refl _|exact HLe.vec (FLes.refl _) (by simp))))
   ·have hl3:=stgK_len o x.bars.length x.sets x.sets.length
    have hsl':(snocK (bM x.bars) (x.bars.length+1)).length=x.bars.length+1:=hsl
    repeat' (first|(refine VWp.at 27 ?_;refine VWp.ghost (Ghost.trans (Ghost.freezeCell 5 0 rfl rfl rfl) (Ghost.trans (Ghost.freezeCell 5 1 rfl rfl rfl) (Ghost.freezeCell 5 2 rfl rfl rfl))) ?_;first|apply VWp.rseq|apply VWp.rseqD)|(refine VOpsD.atIdx 2 ?_;apply VOpsD.weak [.tmp 5];decide +kernel;rfl;rfl;(first|exact VOwn.ref rfl|exact VOwn.vec rfl|exact VOwn.eref rfl);decide +kernel;rfl)|apply VWp.rseq|apply VWp.exitSeq|apply QSeq.normal|apply QBlk.exit|apply QLoop.exit|apply VWp.ret|apply VOps.nil|apply VOpsD.nil|apply VOps.one|(apply VOpsD.bar;decide +kernel)|apply VOpsD.quiet|(apply VVal.int;rfl;rfl;rfl)|(apply VVal.load;rfl;rfl)|(apply VVal.storeB;rfl;rfl;rfl;trivial;rfl;rfl;exact lt_dec rfl;exact le_dec rfl)|(apply VWp.condSeq_dec;rfl)|(intro _;try (exfalso;omega)))
    all_goals first|(exfalso;omega)|(refine Done.ret rfl (.refl _) (by exact PV.under_of rfl) HCov.nil (Nat.zero_le _) (Nat.le_refl _) ⟨?_,rfl,rfl⟩;try rfl)
end Go.Proofs.YtnhdddmhkhdlhaaGreatDoor
namespace Go.Proofs.YtnhdddmhkhdlhaaGreatDoor
open Go Go.Am Go.Vm
theorem and_mask (x n:Nat):(x &&& (2 ^ n-1)) / 2 ^ n=0:=by
 have h1:x &&& (2 ^ n-1)≤2 ^ n-1:=Nat.and_le_right
 have h2:0<2 ^ n:=Nat.two_pow_pos n
 exact Nat.div_eq_of_lt (by omega)
theorem drawnR_ok (o:Org) (ho:OrgT o) (b:Nat→Nat) (hb:∀ i,b i<256):(drawnR o b).Ok:=by
 have r2:=ho.divs
 have l:=snocK_len (drwnF o b) o.divs.length
 refine ⟨fun i hi=>?_,?_,?_,?_⟩
 ·have hi:i<(snocK (drwnF o b) o.divs.length).length:=hi
  rw [l] at hi
  show gi (snocK (drwnF o b) o.divs.length) i<_
  rw [snocK_gi _ hi]
  have:=hb (i % 3)
  have:drwnF o b i≤b (i % 3):=Nat.and_le_left
  omega
 ·have:=hb 3
  have:b 3 &&& (2 ^ o.cpls.length-1)≤b 3:=Nat.and_le_left
  show b 3 &&& (2 ^ o.cpls.length-1)<_
  omega
 ·have:=hb 4
  have:b 4 &&& (2 ^ o.divs.length-1)≤b 4:=Nat.and_le_left
  show b 4 &&& (2 ^ o.divs.length-1)<_
  omega
 ·show (snocK (drwnF o b) o.divs.length).length<_
  omega
theorem drawnR_reg (o:Org) (b:Nat→Nat):regE o (drawnR o b)=0:=by
 have l:=snocK_len (drwnF o b) o.divs.length
 rw [regE_rest (show (snocK (drwnF o b) o.divs.length).length=_ from l) fun i hi=>?_]
 ·rw [if_neg]
  intro h
  rcases h with h|h
  ·exact h (and_mask _ _)
  ·exact h (and_mask _ _)
 ·have hi:i<(snocK (drwnF o b) o.divs.length).length:=hi
  rw [l] at hi
  show gi (snocK (drwnF o b) o.divs.length) i / _=0
  rw [snocK_gi _ hi]
  exact and_mask _ _
end Go.Proofs.YtnhdddmhkhdlhaaGreatDoor
namespace Go.Proofs.YtnhdddmhkhdlhaaGreatDoor
open Go Go.Am Go.Vm Go.Pie
attribute [local irreducible] rchk windsE stoE dvsE cplE shiftR tailH
structure NtR (o:Org) (z:Int) (n:Nte):Prop where
 d:0≤n.d∧n.d<o.divs.length
 k:(gi o.divs n.d.toNat).lo≤n.k∧n.k≤(gi o.divs n.d.toNat).hi
 r:0≤n.s∧n.s<n.e∧n.e≤z
theorem ntP_r {o:Org} (ho:OrgT o) {z:Int} (hz:0<z) (y:Sd8):NtR o z (ntP o z y):=by
 have hd:=ho.divs
 have e1:=Int.emod_nonneg (y.dv:Int) (show (o.divs.length:Int)≠0 by omega)
 have e2:=Int.emod_lt_of_pos (y.dv:Int) (show 0<(o.divs.length:Int) by omega)
 have e3:=Int.emod_nonneg (y.st:Int) (show z≠0 by omega)
 have e4:=Int.emod_lt_of_pos (y.st:Int) hz
 have hv:=ho.dv ((y.dv:Int) % (o.divs.length:Int)).toNat (by omega)
 refine ⟨⟨e1,e2⟩,?_,?_⟩
 ·show (gi o.divs ((y.dv:Int) % (o.divs.length:Int)).toNat).lo≤(gi o.divs ((y.dv:Int) % (o.divs.length:Int)).toNat).lo+(y.ky:Int) % ((gi o.divs ((y.dv:Int) % (o.divs.length:Int)).toNat).hi-(gi o.divs ((y.dv:Int) % (o.divs.length:Int)).toNat).lo+1)∧(gi o.divs ((y.dv:Int) % (o.divs.length:Int)).toNat).lo+(y.ky:Int) % ((gi o.divs ((y.dv:Int) % (o.divs.length:Int)).toNat).hi-(gi o.divs ((y.dv:Int) % (o.divs.length:Int)).toNat).lo+1)≤(gi o.divs ((y.dv:Int) % (o.divs.length:Int)).toNat).hi
  generalize gi o.divs ((y.dv:Int) % (o.divs.length:Int)).toNat=D at *
  have e5:=Int.emod_nonneg (y.ky:Int) (show D.hi-D.lo+1≠0 by omega)
  have e6:=Int.emod_lt_of_pos (y.ky:Int) (show 0<D.hi-D.lo+1 by omega)
  omega
 ·show 0≤(y.st:Int) % z∧(y.st:Int) % z<min z ((y.st:Int) % z+1+(y.lg:Int) % 8)∧min z ((y.st:Int) % z+1+(y.lg:Int) % 8)≤z
  omega
theorem ntsK_r {o:Org} (ho:OrgT o) {z:Int} (hz:0<z) (l:List Sd8):∀ k,∀ i,i<(ntsK o z l k).length→NtR o z (gi (ntsK o z l k) i)∧∀ j,j<i→ovl (gi (ntsK o z l k) j) (gi (ntsK o z l k) i)=false
 |0,i,hi=>by simp [ntsK] at hi
 |k+1,i,hi=>by
  have ih:=ntsK_r ho hz l k
  unfold ntsK at hi ⊢
  split at hi
  ·rename_i h1
   rw [if_pos h1]
   exact ih i hi
  ·rename_i h1
   rw [if_neg h1]
   rw [List.length_append] at hi
   have hi':i<(ntsK o z l k).length+1:=hi
   by_cases e:i<(ntsK o z l k).length
   ·obtain ⟨q1,q2⟩:=ih i e
    rw [gi_snoc,if_pos e]
    refine ⟨q1,fun j hj=>?_⟩
    rw [gi_snoc,if_pos (by omega)]
    exact q2 j hj
   ·obtain rfl:i=(ntsK o z l k).length:=by omega
    rw [gi_snoc,if_neg (by omega),if_pos rfl]
    refine ⟨ntP_r ho hz _,fun j hj=>?_⟩
    rw [gi_snoc,if_pos hj]
    have h2:=(any_take (l:=ntsK o z l k) (f:=fun m=>ovl m (ntP o z (gi l k))) (i:=(ntsK o z l k).length) (Nat.le_refl _)).1 (by rw [List.take_length];simpa using h1)
    exact h2 j hj
theorem lasK_rng {nb:Nat} (h:0<nb) (l:List Mrk):∀ k,-1≤lasK nb l k∧lasK nb l k<nb
 |0=>by simp only [lasK];omega
 |k+1=>by
  have:=lasK_rng h l k
  have e1:=Int.emod_nonneg ((gi l k).bar:Int) (show (nb:Int)≠0 by omega)
  have e2:=Int.emod_lt_of_pos ((gi l k).bar:Int) (show 0<(nb:Int) by omega)
  unfold lasK
  split<;>omega
theorem stgK_r (o:Org) {nb:Nat} (h:0<nb) (l:List Mrk):∀ k,k≤l.length→∀ i,i<(stgK o nb l k).length→(0≤(gi (stgK o nb l k) i).bar∧(gi (stgK o nb l k) i).bar≤lasK nb l k) ∧
 (0<i→(gi (stgK o nb l k) (i-1)).bar<(gi (stgK o nb l k) i).bar)∧∃ m,m<l.length∧(gi (stgK o nb l k) i).reg=drawnR o (gi l m).b
 |0,_,i,hi=>by simp [stgK] at hi
 |k+1,hk,i,hi=>by
  have ih:=stgK_r o h l k (by omega)
  have e1:=Int.emod_nonneg ((gi l k).bar:Int) (show (nb:Int)≠0 by omega)
  have q1:stgK o nb l (k+1)=if ((gi l k).bar:Int) % (nb:Int)>lasK nb l k then stgK o nb l k++[⟨((gi l k).bar:Int) % (nb:Int),drawnR o (gi l k).b⟩] else stgK o nb l k:=rfl
  have q2:lasK nb l (k+1)=if ((gi l k).bar:Int) % (nb:Int)>lasK nb l k then ((gi l k).bar:Int) % (nb:Int) else lasK nb l k:=rfl
  rw [q1] at hi
  rw [q1,q2]
  clear q1 q2
  by_cases h1:((gi l k).bar:Int) % (nb:Int)>lasK nb l k
  ·rw [if_pos h1] at hi
   rw [if_pos h1,if_pos h1]
   rw [List.length_append] at hi
   have hi':i<(stgK o nb l k).length+1:=hi
   by_cases e:i<(stgK o nb l k).length
   ·obtain ⟨q1,q2,q3⟩:=ih i e
    rw [gi_snoc,if_pos e]
    refine ⟨by omega,fun h0=>?_,q3⟩
    rw [gi_snoc,if_pos (by omega)]
    exact q2 h0
   ·obtain rfl:i=(stgK o nb l k).length:=by omega
    rw [gi_snoc,if_neg (by omega),if_pos rfl]
    refine ⟨⟨e1,Int.le_refl _⟩,fun h0=>?_,k,by omega,rfl⟩
    rw [gi_snoc,if_pos (by omega)]
    have:=(ih ((stgK o nb l k).length-1) (by omega)).1
    show _<((gi l k).bar:Int) % (nb:Int)
    omega
  ·rw [if_neg h1] at hi
   rw [if_neg h1,if_neg h1]
   exact ih i hi
theorem mkP_bars (x:PPl) {i:Nat} (h:i≤x.bars.length):gi (mkP x).bars i=bM x.bars i:=snocK_gi _ (by omega)
theorem mkP_blen (x:PPl):(mkP x).bars.length=x.bars.length+1:=snocK_len _ _
theorem mkP_fst (x:PPl):fstB (mkP x)=0:=mkP_bars x (Nat.zero_le _)
theorem mkP_end (x:PPl):endB (mkP x)=bM x.bars x.bars.length:=by
 unfold endB
 rw [mkP_blen]
 exact mkP_bars x (by omega)
theorem bM_succ (l:List UInt8) (i:Nat):bM l i<bM l (i+1):=by
 have:=Int.emod_nonneg ((gi l i).toNat:Int) (show (6:Int)≠0 by decide)
 show _<bM l i+1+((gi l i).toNat:Int) % 6
 omega
theorem mkP_k (x:PPl) (hx:x.Ok) (hf:pfits x):PceK (mkO x.org) (mkP x):=by
 have ho:=mkO_t x.org hx.org hf.1
 obtain ⟨_,⟨f1,f2⟩,f3,f4⟩:=hf
 have hz:0<bM x.bars x.bars.length:=by have:=(bM_rng x.bars x.bars.length).1;omega
 have hN:=ntsK_r ho hz x.notes x.notes.length
 have lN:=ntsK_len (mkO x.org) (bM x.bars x.bars.length) x.notes x.notes.length
 have hS:=stgK_r (mkO x.org) f1 x.sets x.sets.length (Nat.le_refl _)
 have lS:=stgK_len (mkO x.org) x.bars.length x.sets x.sets.length
 have hl:=lasK_rng f1 x.sets x.sets.length
 have eN:(mkP x).notes=ntsK (mkO x.org) (bM x.bars x.bars.length) x.notes x.notes.length:=rfl
 have eS:(mkP x).sets=stgK (mkO x.org) x.bars.length x.sets x.sets.length:=rfl
 have eL:=mkP_blen x
 refine pceK_of ⟨by omega,by rw [eN];omega,by rw [eS];omega,fun i hi=>?_⟩ (by omega) (fun i hi=>?_) (by rw [eN];omega) (fun i hi=>?_) (by rw [eS];omega) fun i hi=>?_
 ·rw [eS] at hi ⊢
  obtain ⟨_,_,m,hm,e⟩:=hS i hi
  rw [e]
  exact drawnR_ok _ ho _ (hx.sets m hm).2
 ·rw [mkP_bars x (by omega)]
  have:=bM_rng x.bars i
  refine ⟨by omega,fun h0=>?_⟩
  rw [mkP_bars x (by omega)]
  have:=bM_succ x.bars (i-1)
  rwa [show i-1+1=i by omega] at this
 ·obtain ⟨⟨q1,q2,q3⟩,q4⟩:=hN i (by rw [← eN];exact hi)
  exact ⟨q1,q2,by rw [mkP_fst,mkP_end];exact q3,q4⟩
 ·rw [eS] at hi ⊢
  obtain ⟨q1,q2,m,_,e⟩:=hS i hi
  refine ⟨by omega,q2,?_⟩
  rw [e]
  exact drawnR_reg _ _
end Go.Proofs.YtnhdddmhkhdlhaaGreatDoor
namespace Go.Proofs.YtnhdddmhkhdlhaaGreatDoor
open Go Go.Am Go.Vm Go.Pie
attribute [local irreducible] VVal VOps VOpsD VWp VCalls VFun VFunV QSeq QBlk QLoop Vm.Done DoneV DoneI
attribute [local irreducible] rchk windsE stoE dvsE cplE shiftR tailH
def lwR (r:Rgs) (p:Pce) (t:Int):Nat→Rgs
 |0=>r
 |k+1=>if gi p.bars (gi p.sets k).bar.toNat≤t then (gi p.sets k).reg else lwR r p t k
end Go.Proofs.YtnhdddmhkhdlhaaGreatDoor
namespace Go.Proofs.YtnhdddmhkhdlhaaGreatDoor
open Go Go.Am Go.Vm
attribute [local irreducible] VVal VOps VOpsD VWp VCalls VFun VFunV QSeq QBlk QLoop Vm.Done DoneV DoneI
structure Nts where
 lo:Nat
 hi:Nat
instance:Enc Nts:={ default:=⟨0,0⟩,enc:=fun x=>[.int .u64 (x.lo:Int),.int .u64 (x.hi:Int)],size:=2,len:=fun _=>rfl }
structure Nts.Ok (s:Nts):Prop where
 lo:s.lo<2 ^ 64
 hi:s.hi<2 ^ 64
def Nts.has (s:Nts) (n:Nat):Bool:=if n<64 then s.lo.testBit n else s.hi.testBit (n-64)
def withN (s:Nts) (n:Nat):Nts:=if n<64 then ⟨s.lo ||| 2 ^ n,s.hi⟩ else ⟨s.lo,s.hi ||| 2 ^ (n-64)⟩
def uniN (a b:Nts):Nts:=⟨a.lo ||| b.lo,a.hi ||| b.hi⟩
def witN (a b:Nts):Bool:=decide (a.lo ^^^ (a.lo &&& b.lo)=0)&&decide (a.hi ^^^ (a.hi &&& b.hi)=0)
def ofK (l:List Int):Nat→Nts
 |0=>⟨0,0⟩
 |k+1=>withN (ofK l k) (gi l k).toNat
def rngK (a:Nat):Nat→Nts
 |0=>⟨0,0⟩
 |k+1=>withN (rngK a k) (a+k)
section
variable {E:Env} {L:Vm.Frame} {H:Vm.Heap} {nx:Nat} {Q:PV→Heap→Nat→Prop} {w:Bool} {dst:Option Tmp} {ty:TypeId} {pos:String} {af:Array Edge} {gd:Option (Nat×Bool)}
theorem shl1 {t t2:TypeId} {x y:Operand} {k':IntKind} {n:Int} (m:Nat) (hx:vev E.Γ L x=some (.p (.int .u64 1))) (hy:vev E.Γ L y=some (.p (.int k' n))) (hn:n=m∧m<64) (q:Q (.p (.int .u64 ((2 ^ m:Nat):Int))) H nx) :
 VVal E w ⟨dst,.binOp .shl t x y t2,ty,pos,af,gd⟩ L H nx Q:=by
 obtain ⟨rfl,hn⟩:=hn
 exact VVal.shlOneU hx hy hn q
end
end Go.Proofs.YtnhdddmhkhdlhaaGreatDoor
namespace Go.Vm
open Go.Am
structure NilS where
instance:Enc NilS:={ default:=⟨⟩,enc:=fun _=>[.val (.slice none 0 0)],size:=1,len:=fun _=>rfl }
section
variable {E:Env} {L:Frame} {H:Heap} {nx:Nat}
variable {Q:PV→Heap→Nat→Prop} {dst:Option Tmp} {ty:TypeId} {pos:String} {af:Array Edge} {gd:Option (Nat×Bool)}
theorem VVal.append2 {α:Type} {_:Enc α} {l:List α} (a1 a2:α) {s x:Operand} {sT xT e e2:TypeId} {xd:TypeDesc} {i:TypeInfo} {b b2 n:Nat} {xs:List FV} {z z2:Bool} (hs:vev E.Γ L s=some (.vec b n 0 n)) (hb:hget H b=some (.vec e (cells l) n z))
 (hx:vev E.Γ L x=some (.vec b2 2 0 2)) (hb2:hget H b2=some (.vec e2 xs 2 z2)) (hxs:xs=Enc.enc a1++Enc.enc a2) (hn:l.length=n) (hsT:E.P.underlying sT=some (.slice e)) (hxT:E.P.underlying xT=some xd) (hd:∀ k,xd≠.int k) (hi:E.P.info? e=some i)
 (hsz:Enc.size α=i.size) (hzs:zeroSized i=true) (h0:0<i.size) (hby:i.bytes<1000000) (hlen:l.length<900000) (q:Q (.vec b (l.length+2) 0 (l.length+2)) (hput H b (.vec e (cells (l++[a1,a2])) (l.length+2) z)) nx) :
 VVal E true ⟨dst,.call { callee:=.builtin .append,args:=#[s,x],argTypes:=#[sT,xT] },ty,pos,af,gd⟩ L H nx Q:=by
 subst hn
 have hroom:(l.length+2)*(i.bytes+1)≤room:=Nat.le_trans (Nat.mul_le_mul (by omega:l.length+2≤1000000) (by omega:i.bytes+1≤1000000)) (by decide)
 refine VVal.append (i:=i) hs hb (SlC.all hx hb2 (by rw [hxs,List.length_append,Enc.len,Enc.len,← hsz];omega)) hsT hxT hd hi hzs (by omega) hroom (by rw [cells_length,hsz]) h0 ?_
 have:cells (l++[a1,a2])=cells l++xs:=by rw [cells_append,hxs];simp [cells,encs]
 rw [← this]
 exact q
end
end Go.Vm
namespace Go.Proofs.YtnhdddmhkhdlhaaGreatDoor
open Go Go.Am Go.Vm Go.Pie
attribute [local irreducible] VVal VOps VOpsD VWp VCalls VFun VFunV QSeq QBlk QLoop Vm.Done DoneV DoneI
attribute [local irreducible] rchk windsE stoE dvsE cplE shiftR tailH
instance:Enc (List Int):={ default:=[],enc:=fun l=>[.lst 3 (cells l) l.length],size:=1,len:=fun _=>rfl }
def kdK (p:Pce) (L:List Int) (d:Nat):Nat→List Int
 |0=>[]
 |k+1=>if (gi p.notes (gi L k).toNat).d=(d:Int) then kdK p L d k++[(gi p.notes (gi L k).toNat).k] else kdK p L d k
theorem OrgK.cmp {o:Org} (h:OrgK o) {i:Nat} (hi:i<o.divs.length):0≤(gi o.divs i).lo∧(gi o.divs i).hi≤127:=by
 have h0:=h.err
 unfold orgE at h0
 split at h0
 ·exact absurd h0 (by decide)
 split at h0
 ·exact absurd h0 (by decide)
 split at h0
 ·rename_i h1;exact absurd h0 h1
 split at h0
 ·exact absurd h0 (by decide)
 split at h0
 ·exact absurd h0 (by decide)
 split at h0
 ·rename_i h1;exact absurd h0 h1
 rename_i d3
 have d3:divsE o.ranks o.divs 0=0:=Decidable.byContradiction d3
 have:=divsE_all _ 0 rfl d3 i (Nat.zero_le _) hi
 unfold dvsE at this
 split at this
 ·rename_i h1;exact absurd this h1
 rename_i h1
 have h1:=Decidable.byContradiction h1
 unfold cmpE at h1
 split at h1
 ·exact absurd h1 (by decide)
 omega
def tlK (p:Pce) (L:List Int) (k:Nat) (j:Nat):HB:=.vec 3 (cells (kdK p L j k)) (kdK p L j k).length true
def kdV (p:Pce) (L:List Int) (nd k:Nat):HB:=.vecp 41 ((List.range nd).map fun j=>.vec (4+j) (kdK p L j k).length 0 (kdK p L j k).length) nd
noncomputable def keysR (o:Org) (p:Pce) (t:Int):List Nts:=snocK (fun d=>ofK (kdK p (snd p t) d (snd p t).length) (kdK p (snd p t) d (snd p t).length).length) o.divs.length
end Go.Proofs.YtnhdddmhkhdlhaaGreatDoor
