/-
  The layer of organs: Equal; the law's equal. Conditions: in each statement. (Written by mkeq.py.)
-/
import Derived.Test.YtcnlhgmkelkikaaGreatDoorOrE
import Derived.Test.YtcnlhgmkelkikaaGreatDoorRkK
import Derived.Test.YtcnlhgmkelkikaaGreatDoorVmG
set_option linter.unusedSimpArgs false
set_option linter.unusedVariables false
namespace Go.Proofs.YtcnlhgmkelkikaaGreatDoor
open Go Go.Am Go.Vm
attribute [local irreducible] VVal VOps VOpsD VWp VCalls VFun VFunV QSeq QBlk QLoop Vm.Done DoneV DoneI
noncomputable instance (a b:Seg):Decidable (a=b):=Classical.propDecidable _
noncomputable instance (a b:Stp):Decidable (a=b):=Classical.propDecidable _
noncomputable instance (a b:Dvs):Decidable (a=b):=Classical.propDecidable _
noncomputable instance (a b:Cpl):Decidable (a=b):=Classical.propDecidable _
noncomputable instance (a b:Cps):Decidable (a=b):=Classical.propDecidable _
noncomputable instance (a b:Org):Decidable (a=b):=Classical.propDecidable _
theorem freeCpl:eqFree Tryz.prog 72=true:=by kernel_rfl
theorem freeCps:eqFree Tryz.prog 46=true:=by kernel_rfl
set_option maxRecDepth 100000 in
theorem eqCps (x y:Cps):Vm.eqSt Tryz.prog 46 (Enc.enc x) (Enc.enc y)=some (decide (x=y)):=by
 show some (decide (x.lo=y.lo)&&(decide (x.hi=y.hi)&&true))=_
 by_cases h:x=y
 ·subst h;simp
 ·rw [decide_eq_false h]
  have:¬ (x.lo=y.lo∧x.hi=y.hi):=fun h'=>h (by cases x;cases y;simp_all)
  by_cases h1:x.lo=y.lo<;>simp_all
set_option maxRecDepth 100000 in
theorem eqCpl (x y:Cpl):Vm.eqSt Tryz.prog 72 (Enc.enc x) (Enc.enc y)=some (decide (x=y)):=by
 show some (decide ((bs x.name).data.toList=(bs y.name).data.toList)&&(decide (x.frm=y.frm)&&(decide (x.tgt=y.tgt)&&(decide (x.shift=y.shift)&&((x.through==y.through)&&true)))))=_
 rw [bs_data,bs_data]
 by_cases h:x=y
 ·subst h;simp
 ·rw [decide_eq_false h]
  have:¬ (x.name=y.name∧x.frm=y.frm∧x.tgt=y.tgt∧x.shift=y.shift∧x.through=y.through):=fun h'=>h (by cases x;cases y;simp_all)
  by_cases h1:x.name=y.name<;>by_cases h2:x.frm=y.frm<;>by_cases h3:x.tgt=y.tgt<;>by_cases h4:x.shift=y.shift<;>simp_all
set_option maxRecDepth 100000 in
set_option maxHeartbeats 2000000 in
theorem seqDrw (a b:List Drw) (ha:a.length<9223372036854775808) (hb:b.length<9223372036854775808):VFun env 57 [.lst 136 (cells a) a.length,.lst 136 (cells b) b.length] (.p (.bool (decide (a=b)))):=by
 by_cases hlen:a.length=b.length
 case neg =>
  rw [decide_eq_false (fun e=>hlen (by rw [e]))]
  refine VFun.enter (env_none (by decide)) Tryz.func57 rfl (by kernel_rfl) (by simp [Tryz.ntmps57]) ?_
  repeat' (first|apply VWp.assoc|apply VWp.rseq|apply VWp.retSeq|apply VOps.nil|apply VOps.one|(apply VVal.assign;rfl)|(apply VVal.move;rfl)|(apply VVal.int;rfl;rfl;rfl)|(apply VVal.lenF;rfl;rfl)|(apply VWp.condSeq_dec;rfl)|(intro _;try (exfalso;omega)))
  all_goals first|(exfalso;omega)|contradiction|(refine Done.ret rfl (.refl _) (by first|exact trivial|exact ⟨trivial,trivial,trivial⟩|exact ⟨trivial,trivial,trivial,trivial⟩) HCov.nil (Nat.zero_le _) (Nat.le_refl _) ⟨?_,rfl,rfl⟩;try rfl)
 refine VFun.enter (env_none (by decide)) Tryz.func57 rfl (by kernel_rfl) (by simp [Tryz.ntmps57]) ?_
 repeat' (first|apply VWp.assoc|apply VWp.rseq|apply VWp.skipSeq|apply VWp.blockSeq|apply VOps.nil|apply VOps.one|(apply VVal.assign;rfl)|(apply VVal.move;rfl)|(apply VVal.int;rfl;rfl;rfl)|(apply VVal.lenF;rfl;rfl)|(apply VWp.condSeq_dec;rfl)|(intro _;try (exfalso;omega)))
 all_goals try (exfalso;omega)
 apply VWp.loopRI (a.length) (fun k=>∀ i,i<k→gi a i=gi b i) [(0,_),(1,_),(12,_)] [] (fun k r=>(13,.p (.int .i64 (k:Int)))::r) (fun k r=>r) 0
 ·omega
 ·omega
 ·repeat (first|exact LCov.nil|(refine LCov.eq rfl ?_ ?_;(first|exact PV.under_of rfl|(simp [PV.under,PVs.under];done)))|refine LCov.cons trivial rfl (.of_eq (lst_len (by simp<;>omega))) ?_)
 ·repeat (first|exact HCov.nil|(refine HCov.eq rfl (lt_dec rfl) ?_ ?_;(first|exact HB.under_of rfl|exact PVs.under_pure _ _))|(refine HCov.cons (lt_dec rfl) ?_ rfl ?_ ?_;(first|exact trivial|exact PVs.under_pure _ _);(first|exact HLe.refl _)))
 ·first|(intro _ _;omega)|omega|trivial
 ·intro k hk hok
  have he:=eqDraw (gi a k) (gi b k)
  by_cases h:gi a k=gi b k
  ·rw [decide_eq_true h] at he
   repeat' (first|apply VWp.rseq|apply VWp.rseqD|apply VWp.region|apply VWp.skipSeq|apply VWp.blockSeq|apply QSeq.normal|apply QBlk.normal|apply VWp.skip|apply VOps.nil|apply VOpsD.nil|apply VOps.one|(apply VOpsD.bar;decide +kernel)|apply VOpsD.quiet|(apply VVal.neSt1;rfl;rfl;exact freeDraw;exact he)|(apply VVal.assign;rfl)|(apply VVal.move;rfl)|(apply VVal.add64;rfl;rfl;omega)|(apply VVal.int;rfl;rfl;rfl)|(apply VVal.indexN;rfl;rfl;rfl;omega;rfl)|(apply VVal.load;rfl;rfl)|(apply VWp.condSeq_dec;rfl)|(apply VWp.cond_false;rfl)|(intro _;try (exfalso;omega)))
   all_goals try (exfalso;omega)
   all_goals try contradiction
   refine QLoop.normal ⟨(all_succ hok h),by omega,?_,?_⟩
   ·repeat (first|exact LCov.nil|refine LCov.same trivial rfl ?_|refine LCov.same (lt_dec rfl) rfl ?_|refine LCov.same ⟨trivial,lt_dec rfl,trivial⟩ rfl ?_|refine LCov.same ⟨trivial,lt_dec rfl,lt_dec rfl,trivial⟩ rfl ?_|refine LCov.same ⟨trivial,lt_dec rfl,lt_dec rfl,lt_dec rfl,trivial⟩ rfl ?_|refine LCov.same ⟨trivial,trivial⟩ rfl ?_|refine LCov.cons trivial rfl (.of_eq (lst_len (by simp<;>omega))) ?_)
   ·repeat (first|exact HCov.nil|(refine HCov.cons (lt_dec rfl) ?_ rfl ?_ ?_;(first|exact HB.under_of rfl|exact PVs.under_pure _ _);(first|exact HLe.refl _)))
  ·rw [decide_eq_false h] at he
   rw [decide_eq_false (fun e=>h (by rw [e]))]
   repeat' (first|apply VWp.rseq|apply VWp.rseqD|apply VWp.skipSeq|apply VWp.blockSeq|apply QSeq.ret|apply QBlk.ret|apply QLoop.ret|apply VWp.ret|apply VOps.nil|apply VOpsD.nil|apply VOps.one|(apply VOpsD.bar;decide +kernel)|apply VOpsD.quiet|(apply VVal.neSt1;rfl;rfl;exact freeDraw;exact he)|(apply VVal.assign;rfl)|(apply VVal.move;rfl)|(apply VVal.int;rfl;rfl;rfl)|(apply VVal.indexN;rfl;rfl;rfl;omega;rfl)|(apply VVal.load;rfl;rfl)|(apply VWp.condSeq_dec;rfl)|(apply VWp.cond_true;rfl)|(intro _;try (exfalso;omega)))
   all_goals first|(exfalso;omega)|contradiction|(refine Done.ret rfl (.refl _) (by first|exact trivial|exact ⟨trivial,trivial,trivial⟩|exact ⟨trivial,trivial,trivial,trivial⟩) HCov.nil (Nat.zero_le _) (Nat.le_refl _) ⟨?_,rfl,rfl⟩;try rfl)
 ·intro hok
  rw [decide_eq_true (gi_ext hlen hok)]
  repeat' (first|apply VWp.rseq|apply VWp.exitSeq|apply QSeq.normal|apply QBlk.exit|apply QLoop.exit|apply VWp.ret|apply VOps.nil|apply VOps.one|(apply VVal.assign;rfl)|(apply VVal.int;rfl;rfl;rfl)|(apply VWp.condSeq_dec;rfl)|(intro _;try (exfalso;omega)))
  all_goals first|(exfalso;omega)|contradiction|(refine Done.ret rfl (.refl _) (by first|exact trivial|exact ⟨trivial,trivial,trivial⟩|exact ⟨trivial,trivial,trivial,trivial⟩) HCov.nil (Nat.zero_le _) (Nat.le_refl _) ⟨?_,rfl,rfl⟩;try rfl)
set_option maxRecDepth 100000 in
set_option maxHeartbeats 2000000 in
theorem seqCpl (a b:List Cpl) (ha:a.length<9223372036854775808) (hb:b.length<9223372036854775808):VFun env 65 [.lst 72 (cells a) a.length,.lst 72 (cells b) b.length] (.p (.bool (decide (a=b)))):=by
 by_cases hlen:a.length=b.length
 case neg =>
  rw [decide_eq_false (fun e=>hlen (by rw [e]))]
  refine VFun.enter (env_none (by decide)) Tryz.func65 rfl (by kernel_rfl) (by simp [Tryz.ntmps65]) ?_
  repeat' (first|apply VWp.assoc|apply VWp.rseq|apply VWp.retSeq|apply VOps.nil|apply VOps.one|(apply VVal.assign;rfl)|(apply VVal.move;rfl)|(apply VVal.int;rfl;rfl;rfl)|(apply VVal.lenF;rfl;rfl)|(apply VWp.condSeq_dec;rfl)|(intro _;try (exfalso;omega)))
  all_goals first|(exfalso;omega)|contradiction|(refine Done.ret rfl (.refl _) (by first|exact trivial|exact ⟨trivial,trivial,trivial⟩|exact ⟨trivial,trivial,trivial,trivial⟩) HCov.nil (Nat.zero_le _) (Nat.le_refl _) ⟨?_,rfl,rfl⟩;try rfl)
 refine VFun.enter (env_none (by decide)) Tryz.func65 rfl (by kernel_rfl) (by simp [Tryz.ntmps65]) ?_
 repeat' (first|apply VWp.assoc|apply VWp.rseq|apply VWp.skipSeq|apply VWp.blockSeq|apply VOps.nil|apply VOps.one|(apply VVal.assign;rfl)|(apply VVal.move;rfl)|(apply VVal.int;rfl;rfl;rfl)|(apply VVal.lenF;rfl;rfl)|(apply VWp.condSeq_dec;rfl)|(intro _;try (exfalso;omega)))
 all_goals try (exfalso;omega)
 apply VWp.loopRI (a.length) (fun k=>∀ i,i<k→gi a i=gi b i) [(0,_),(1,_),(12,_)] [] (fun k r=>(13,.p (.int .i64 (k:Int)))::r) (fun k r=>r) 0
 ·omega
 ·omega
 ·repeat (first|exact LCov.nil|(refine LCov.eq rfl ?_ ?_;(first|exact PV.under_of rfl|(simp [PV.under,PVs.under];done)))|refine LCov.cons trivial rfl (.of_eq (lst_len (by simp<;>omega))) ?_)
 ·repeat (first|exact HCov.nil|(refine HCov.eq rfl (lt_dec rfl) ?_ ?_;(first|exact HB.under_of rfl|exact PVs.under_pure _ _))|(refine HCov.cons (lt_dec rfl) ?_ rfl ?_ ?_;(first|exact trivial|exact PVs.under_pure _ _);(first|exact HLe.refl _)))
 ·first|(intro _ _;omega)|omega|trivial
 ·intro k hk hok
  have he:=eqCpl (gi a k) (gi b k)
  by_cases h:gi a k=gi b k
  ·rw [decide_eq_true h] at he
   repeat' (first|apply VWp.rseq|apply VWp.rseqD|apply VWp.region|apply VWp.skipSeq|apply VWp.blockSeq|apply QSeq.normal|apply QBlk.normal|apply VWp.skip|apply VOps.nil|apply VOpsD.nil|apply VOps.one|(apply VOpsD.bar;decide +kernel)|apply VOpsD.quiet|(apply VVal.neSt1;rfl;rfl;exact freeCpl;exact he)|(apply VVal.assign;rfl)|(apply VVal.move;rfl)|(apply VVal.add64;rfl;rfl;omega)|(apply VVal.int;rfl;rfl;rfl)|(apply VVal.indexN;rfl;rfl;rfl;omega;rfl)|(apply VVal.load;rfl;rfl)|(apply VWp.condSeq_dec;rfl)|(apply VWp.cond_false;rfl)|(intro _;try (exfalso;omega)))
   all_goals try (exfalso;omega)
   all_goals try contradiction
   refine QLoop.normal ⟨(all_succ hok h),by omega,?_,?_⟩
   ·repeat (first|exact LCov.nil|refine LCov.same trivial rfl ?_|refine LCov.same (lt_dec rfl) rfl ?_|refine LCov.same ⟨trivial,lt_dec rfl,trivial⟩ rfl ?_|refine LCov.same ⟨trivial,lt_dec rfl,lt_dec rfl,trivial⟩ rfl ?_|refine LCov.same ⟨trivial,lt_dec rfl,lt_dec rfl,lt_dec rfl,trivial⟩ rfl ?_|refine LCov.same ⟨trivial,trivial⟩ rfl ?_|refine LCov.cons trivial rfl (.of_eq (lst_len (by simp<;>omega))) ?_)
   ·repeat (first|exact HCov.nil|(refine HCov.cons (lt_dec rfl) ?_ rfl ?_ ?_;(first|exact HB.under_of rfl|exact PVs.under_pure _ _);(first|exact HLe.refl _)))
  ·rw [decide_eq_false h] at he
   rw [decide_eq_false (fun e=>h (by rw [e]))]
   repeat' (first|apply VWp.rseq|apply VWp.rseqD|apply VWp.skipSeq|apply VWp.blockSeq|apply QSeq.ret|apply QBlk.ret|apply QLoop.ret|apply VWp.ret|apply VOps.nil|apply VOpsD.nil|apply VOps.one|(apply VOpsD.bar;decide +kernel)|apply VOpsD.quiet|(apply VVal.neSt1;rfl;rfl;exact freeCpl;exact he)|(apply VVal.assign;rfl)|(apply VVal.move;rfl)|(apply VVal.int;rfl;rfl;rfl)|(apply VVal.indexN;rfl;rfl;rfl;omega;rfl)|(apply VVal.load;rfl;rfl)|(apply VWp.condSeq_dec;rfl)|(apply VWp.cond_true;rfl)|(intro _;try (exfalso;omega)))
   all_goals first|(exfalso;omega)|contradiction|(refine Done.ret rfl (.refl _) (by first|exact trivial|exact ⟨trivial,trivial,trivial⟩|exact ⟨trivial,trivial,trivial,trivial⟩) HCov.nil (Nat.zero_le _) (Nat.le_refl _) ⟨?_,rfl,rfl⟩;try rfl)
 ·intro hok
  rw [decide_eq_true (gi_ext hlen hok)]
  repeat' (first|apply VWp.rseq|apply VWp.exitSeq|apply QSeq.normal|apply QBlk.exit|apply QLoop.exit|apply VWp.ret|apply VOps.nil|apply VOps.one|(apply VVal.assign;rfl)|(apply VVal.int;rfl;rfl;rfl)|(apply VWp.condSeq_dec;rfl)|(intro _;try (exfalso;omega)))
  all_goals first|(exfalso;omega)|contradiction|(refine Done.ret rfl (.refl _) (by first|exact trivial|exact ⟨trivial,trivial,trivial⟩|exact ⟨trivial,trivial,trivial,trivial⟩) HCov.nil (Nat.zero_le _) (Nat.le_refl _) ⟨?_,rfl,rfl⟩;try rfl)
set_option maxRecDepth 100000 in
set_option maxHeartbeats 2000000 in
theorem eqSeg_spec (x y:Seg) (hx:SegSm x) (hy:SegSm y):VRead env 56 [.p (.agg (Enc.enc x)),.p (.agg (Enc.enc y))] [] 0 (.bool (decide (x=y))):=by
 have hs:=seqDrw x.draws y.draws (by have:=hx.draws;omega) (by have:=hy.draws;omega)
 have e:x.lo=y.lo→x.hi=y.hi→decide (x=y)=decide (x.draws=y.draws):=fun h1 h2=>by
  by_cases h:x.draws=y.draws
  ·rw [decide_eq_true h,decide_eq_true (show x=y by cases x;cases y;simp_all)]
  ·rw [decide_eq_false h,decide_eq_false (fun e=>h (by rw [e]))]
 by_cases h1:x.lo=y.lo
 ·by_cases h2:x.hi=y.hi
  ·rw [e h1 h2]
   refine VRead.enter (env_none (by decide)) Tryz.func56 rfl (by kernel_rfl) (by simp [Tryz.ntmps56]) ?_
   repeat' (first|apply VWp.rseq|apply VWp.ret|apply VOps.nil|apply VOps.one|(apply VOps.take;rfl;rfl)|(apply VOps.guard;rfl;rfl)|(apply VVal.fn;rfl;rfl;exact hs;intro _;rfl)|(apply VVal.assign;rfl)|(apply VVal.move;rfl)|(apply VVal.int;rfl;rfl;rfl)|(apply VVal.load;rfl;rfl)|(apply VVal.pick_true;rfl;rfl)|(apply VVal.fieldB;rfl;rfl;rfl)|(apply VVal.box;rfl;trivial)|(intro _;try (exfalso;omega)))
   all_goals first|(exfalso;omega)|contradiction|(refine Done.ret rfl (.refl _) trivial ?_ (by omega) (Nat.le_refl _) ⟨?_,rfl,rfl⟩;repeat (first|exact HCov.nil|(refine HCov.cons (lt_dec rfl) ?_ rfl ?_ ?_;(first|exact HB.under_of rfl|exact PVs.under_pure _ _);(first|exact HLe.refl _)));try rfl)
  ·rw [decide_eq_false (fun e=>h2 (by rw [e]))]
   refine VRead.enter (env_none (by decide)) Tryz.func56 rfl (by kernel_rfl) (by simp [Tryz.ntmps56]) ?_
   repeat' (first|apply VWp.rseq|apply VWp.ret|apply VOps.nil|apply VOps.one|(apply VOps.take;rfl;rfl)|(apply VOps.drop;rfl;rfl;rfl)|(apply VOps.guard;rfl;rfl)|(apply VVal.assign;rfl)|(apply VVal.move;rfl)|(apply VVal.int;rfl;rfl;rfl)|(apply VVal.load;rfl;rfl)|(apply VVal.pick_true;rfl;rfl)|(apply VVal.pick_false;rfl;rfl)|(apply VVal.fieldB;rfl;rfl;rfl)|(apply VVal.box;rfl;trivial)|(intro _;try (exfalso;omega)))
   all_goals first|(exfalso;omega)|contradiction|(refine Done.ret rfl (.refl _) trivial ?_ (by omega) (Nat.le_refl _) ⟨?_,rfl,rfl⟩;repeat (first|exact HCov.nil|(refine HCov.cons (lt_dec rfl) ?_ rfl ?_ ?_;(first|exact HB.under_of rfl|exact PVs.under_pure _ _);(first|exact HLe.refl _)));try rfl)
 ·rw [decide_eq_false (fun e=>h1 (by rw [e]))]
  refine VRead.enter (env_none (by decide)) Tryz.func56 rfl (by kernel_rfl) (by simp [Tryz.ntmps56]) ?_
  repeat' (first|apply VWp.rseq|apply VWp.ret|apply VOps.nil|apply VOps.one|(apply VOps.drop;rfl;rfl;rfl)|(apply VOps.guard;rfl;rfl)|(apply VVal.assign;rfl)|(apply VVal.move;rfl)|(apply VVal.int;rfl;rfl;rfl)|(apply VVal.load;rfl;rfl)|(apply VVal.pick_false;rfl;rfl)|(apply VVal.fieldB;rfl;rfl;rfl)|(apply VVal.box;rfl;trivial)|(intro _;try (exfalso;omega)))
  all_goals first|(exfalso;omega)|contradiction|(refine Done.ret rfl (.refl _) trivial ?_ (by omega) (Nat.le_refl _) ⟨?_,rfl,rfl⟩;repeat (first|exact HCov.nil|(refine HCov.cons (lt_dec rfl) ?_ rfl ?_ ?_;(first|exact HB.under_of rfl|exact PVs.under_pure _ _);(first|exact HLe.refl _)));try rfl)
set_option maxRecDepth 100000 in
set_option maxHeartbeats 2000000 in
theorem eqfSeg (a b:List Seg) (ha:a.length<9223372036854775808) (hb:b.length<9223372036854775808) (he:∀ i,i<a.length→i<b.length→VRead env 56 ([.p (.agg (Enc.enc (gi a i))),.p (.agg (Enc.enc (gi b i)))]++[]) [] 0 (.bool (decide (gi a i=gi b i)))) :
 VRead env 59 [.p (.lst 55 (cells a) a.length),.p (.lst 55 (cells b) b.length),.clo 56 [] []] [] 0 (.bool (decide (a=b))):=by
 by_cases hlen:a.length=b.length
 case neg =>
  rw [decide_eq_false (fun e=>hlen (by rw [e]))]
  refine VRead.enter (env_none (by decide)) Tryz.func59 rfl (by kernel_rfl) (by simp [Tryz.ntmps59]) ?_
  repeat' (first|apply VWp.assoc|apply VWp.rseq|apply VWp.retSeq|apply VOps.nil|apply VOps.one|(apply VVal.assign;rfl)|(apply VVal.move;rfl)|(apply VVal.int;rfl;rfl;rfl)|(apply VVal.lenF;rfl;rfl)|(apply VWp.condSeq_dec;rfl)|(intro _;try (exfalso;omega)))
  all_goals first|(exfalso;omega)|contradiction|(refine Done.ret rfl (.refl _) trivial ?_ (by omega) (Nat.le_refl _) ⟨?_,rfl,rfl⟩;repeat (first|exact HCov.nil|(refine HCov.cons (lt_dec rfl) ?_ rfl ?_ ?_;(first|exact HB.under_of rfl|exact PVs.under_pure _ _);(first|exact HLe.refl _)));try rfl)
 refine VRead.enter (env_none (by decide)) Tryz.func59 rfl (by kernel_rfl) (by simp [Tryz.ntmps59]) ?_
 repeat' (first|apply VWp.assoc|apply VWp.rseq|apply VWp.skipSeq|apply VWp.blockSeq|apply VOps.nil|apply VOps.one|(apply VVal.assign;rfl)|(apply VVal.move;rfl)|(apply VVal.int;rfl;rfl;rfl)|(apply VVal.lenF;rfl;rfl)|(apply VWp.condSeq_dec;rfl)|(intro _;try (exfalso;omega)))
 all_goals try (exfalso;omega)
 apply VWp.loopRI (a.length) (fun k=>∀ i,i<k→gi a i=gi b i) [(1,_),(2,_),(15,_),(16,_)] [] (fun k r=>(17,.p (.int .i64 (k:Int)))::r) (fun k r=>r) 0
 ·omega
 ·omega
 ·repeat (first|exact LCov.nil|(refine LCov.eq rfl ?_ ?_;(first|exact PV.under_of rfl|(simp [PV.under,PVs.under];done)))|refine LCov.cons trivial rfl (.of_eq (lst_len (by simp<;>omega))) ?_)
 ·repeat (first|exact HCov.nil|(refine HCov.eq rfl (lt_dec rfl) ?_ ?_;(first|exact HB.under_of rfl|exact PVs.under_pure _ _))|(refine HCov.cons (lt_dec rfl) ?_ rfl ?_ ?_;(first|exact trivial|exact PVs.under_pure _ _);(first|exact HLe.refl _)))
 ·first|(intro _ _;omega)|omega|trivial
 ·intro k hk hok
  have hc:=he k hk (by omega)
  by_cases h:gi a k=gi b k
  ·rw [decide_eq_true h] at hc
   repeat' (first|apply VWp.rseq|apply VWp.region|apply VWp.skipSeq|apply VWp.blockSeq|apply QSeq.normal|apply QBlk.normal|apply VWp.skip|apply VOps.nil|apply VOps.one|(apply VVal.read [] hc;rfl;rfl;exact .of_eq rfl;exact PVs.under_of rfl;exact HUnder_of rfl;(repeat (first|exact trivial|refine ⟨⟨_,rfl,.of_eq rfl⟩,?_⟩));decide;(intro _ hb;simp at hb<;>omega);rfl)|(apply VVal.assign;rfl)|(apply VVal.move;rfl)|(apply VVal.add64;rfl;rfl;omega)|(apply VVal.int;rfl;rfl;rfl)|(apply VVal.indexN;rfl;rfl;rfl;omega;rfl)|(apply VVal.load;rfl;rfl)|(apply VVal.alloc;rfl)|(apply VVal.storeB;rfl;rfl;rfl;trivial;rfl;rfl;exact lt_dec rfl;exact le_dec rfl)|(apply VVal.not;rfl)|(apply VWp.condSeq_dec;rfl)|(apply VWp.cond_false;rfl)|(intro _;try (exfalso;omega)))
   all_goals try (exfalso;omega)
   all_goals try contradiction
   refine QLoop.normal ⟨(all_succ hok h),by omega,?_,?_⟩
   ·repeat (first|exact LCov.nil|refine LCov.same trivial rfl ?_|refine LCov.same (lt_dec rfl) rfl ?_|refine LCov.same ⟨trivial,lt_dec rfl,trivial⟩ rfl ?_|refine LCov.same ⟨trivial,lt_dec rfl,lt_dec rfl,trivial⟩ rfl ?_|refine LCov.same ⟨trivial,lt_dec rfl,lt_dec rfl,lt_dec rfl,trivial⟩ rfl ?_|refine LCov.same ⟨trivial,trivial⟩ rfl ?_|refine LCov.cons trivial rfl (.of_eq (lst_len (by simp<;>omega))) ?_)
   ·repeat (first|exact HCov.nil|(refine HCov.cons (lt_dec rfl) ?_ rfl ?_ ?_;(first|exact HB.under_of rfl|exact PVs.under_pure _ _);(first|exact HLe.refl _)))
  ·rw [decide_eq_false h] at hc
   rw [decide_eq_false (fun e=>h (by rw [e]))]
   repeat' (first|apply VWp.rseq|apply VWp.skipSeq|apply VWp.blockSeq|apply QSeq.ret|apply QBlk.ret|apply QLoop.ret|apply VWp.ret|apply VOps.nil|apply VOps.one|(apply VVal.read [] hc;rfl;rfl;exact .of_eq rfl;exact PVs.under_of rfl;exact HUnder_of rfl;(repeat (first|exact trivial|refine ⟨⟨_,rfl,.of_eq rfl⟩,?_⟩));decide;(intro _ hb;simp at hb<;>omega);rfl)|(apply VVal.assign;rfl)|(apply VVal.move;rfl)|(apply VVal.int;rfl;rfl;rfl)|(apply VVal.indexN;rfl;rfl;rfl;omega;rfl)|(apply VVal.load;rfl;rfl)|(apply VVal.alloc;rfl)|(apply VVal.storeB;rfl;rfl;rfl;trivial;rfl;rfl;exact lt_dec rfl;exact le_dec rfl)|(apply VVal.not;rfl)|(apply VWp.condSeq_dec;rfl)|(apply VWp.cond_true;rfl)|(intro _;try (exfalso;omega)))
   all_goals first|(exfalso;omega)|contradiction|(refine Done.ret rfl (.refl _) trivial ?_ (by omega) (Nat.le_refl _) ⟨?_,rfl,rfl⟩;repeat (first|exact HCov.nil|(refine HCov.cons (lt_dec rfl) ?_ rfl ?_ ?_;(first|exact HB.under_of rfl|exact PVs.under_pure _ _);(first|exact HLe.refl _)));try rfl)
 ·intro hok
  rw [decide_eq_true (gi_ext hlen hok)]
  repeat' (first|apply VWp.rseq|apply VWp.exitSeq|apply QSeq.normal|apply QBlk.exit|apply QLoop.exit|apply VWp.ret|apply VOps.nil|apply VOps.one|(apply VVal.assign;rfl)|(apply VVal.int;rfl;rfl;rfl)|(apply VWp.condSeq_dec;rfl)|(intro _;try (exfalso;omega)))
  all_goals first|(exfalso;omega)|contradiction|(refine Done.ret rfl (.refl _) trivial ?_ (by omega) (Nat.le_refl _) ⟨?_,rfl,rfl⟩;repeat (first|exact HCov.nil|(refine HCov.cons (lt_dec rfl) ?_ rfl ?_ ?_;(first|exact HB.under_of rfl|exact PVs.under_pure _ _);(first|exact HLe.refl _)));try rfl)
set_option maxRecDepth 100000 in
set_option maxHeartbeats 2000000 in
theorem eqStp_spec (x y:Stp) (hx:StpSm x) (hy:StpSm y):VRead env 58 [.p (.agg (Enc.enc x)),.p (.agg (Enc.enc y)),.ref 0 0] [(0,.box 137 [.clo 56 [] []])] 1 (.bool (decide (x=y))):=by
 have s1:=hx.segs
 have s2:=hy.segs
 have hs:=eqfSeg x.segs y.segs (by omega) (by omega) (fun i h1 h2=>eqSeg_spec _ _ (hx.all i h1) (hy.all i h2))
 have hf:=eqFrac x.feet y.feet
 have e:x.name=y.name→x.feet=y.feet→decide (x=y)=decide (x.segs=y.segs):=fun h1 h2=>by
  by_cases h:x.segs=y.segs
  ·rw [decide_eq_true h,decide_eq_true (show x=y by cases x;cases y;simp_all)]
  ·rw [decide_eq_false h,decide_eq_false (fun e=>h (by rw [e]))]
 by_cases h1:x.name=y.name
 ·have g1:=decide_eq_true h1
  by_cases h2:x.feet=y.feet
  ·rw [e h1 h2]
   rw [decide_eq_true h2] at hf
   refine VRead.enter (env_none (by decide)) Tryz.func58 rfl (by kernel_rfl) (by simp [Tryz.ntmps58]) ?_
   repeat' (first|apply VWp.rseq|apply VWp.ret|apply VOps.nil|apply VOps.one|(apply VOps.take;rfl;rfl)|(apply VVal.read [] hs;rfl;rfl;exact .of_eq rfl;exact PVs.under_of rfl;exact HUnder_of rfl;(repeat (first|exact trivial|refine ⟨⟨_,rfl,.of_eq rfl⟩,?_⟩));decide;(intro _ hb;simp at hb<;>omega);rfl)|(apply VVal.eqSd;rfl;rfl;exact g1)|(apply VVal.eqSt1;rfl;rfl;exact freeFrac;exact hf)|(apply VVal.assign;rfl)|(apply VVal.move;rfl)|(apply VVal.load;rfl;rfl)|(apply VVal.pick_true;rfl;rfl)|(apply VVal.fieldB;rfl;rfl;rfl)|(apply VVal.box;rfl;trivial))
   all_goals first|(exfalso;omega)|contradiction|(refine Done.ret rfl (.refl _) trivial ?_ (by omega) (Nat.le_refl _) ⟨?_,rfl,rfl⟩;repeat (first|exact HCov.nil|(refine HCov.cons (lt_dec rfl) ?_ rfl ?_ ?_;(first|exact HB.under_of rfl|exact PVs.under_pure _ _);(first|exact HLe.refl _)));try rfl)
  ·rw [decide_eq_false h2] at hf
   rw [decide_eq_false (fun e=>h2 (by rw [e]))]
   refine VRead.enter (env_none (by decide)) Tryz.func58 rfl (by kernel_rfl) (by simp [Tryz.ntmps58]) ?_
   repeat' (first|apply VWp.rseq|apply VWp.ret|apply VOps.nil|apply VOps.one|(apply VOps.take;rfl;rfl)|(apply VOps.drop;rfl;rfl;rfl)|(apply VVal.eqSd;rfl;rfl;exact g1)|(apply VVal.eqSt1;rfl;rfl;exact freeFrac;exact hf)|(apply VVal.assign;rfl)|(apply VVal.move;rfl)|(apply VVal.load;rfl;rfl)|(apply VVal.pick_true;rfl;rfl)|(apply VVal.pick_false;rfl;rfl)|(apply VVal.fieldB;rfl;rfl;rfl)|(apply VVal.box;rfl;trivial))
   all_goals first|(exfalso;omega)|contradiction|(refine Done.ret rfl (.refl _) trivial ?_ (by omega) (Nat.le_refl _) ⟨?_,rfl,rfl⟩;repeat (first|exact HCov.nil|(refine HCov.cons (lt_dec rfl) ?_ rfl ?_ ?_;(first|exact HB.under_of rfl|exact PVs.under_pure _ _);(first|exact HLe.refl _)));try rfl)
 ·have g1:=decide_eq_false h1
  rw [decide_eq_false (fun e=>h1 (by rw [e]))]
  refine VRead.enter (env_none (by decide)) Tryz.func58 rfl (by kernel_rfl) (by simp [Tryz.ntmps58]) ?_
  repeat' (first|apply VWp.rseq|apply VWp.ret|apply VOps.nil|apply VOps.one|(apply VOps.drop;rfl;rfl;rfl)|(apply VVal.eqSd;rfl;rfl;exact g1)|(apply VVal.assign;rfl)|(apply VVal.move;rfl)|(apply VVal.load;rfl;rfl)|(apply VVal.pick_false;rfl;rfl)|(apply VVal.fieldB;rfl;rfl;rfl)|(apply VVal.box;rfl;trivial))
  all_goals first|(exfalso;omega)|contradiction|(refine Done.ret rfl (.refl _) trivial ?_ (by omega) (Nat.le_refl _) ⟨?_,rfl,rfl⟩;repeat (first|exact HCov.nil|(refine HCov.cons (lt_dec rfl) ?_ rfl ?_ ?_;(first|exact HB.under_of rfl|exact PVs.under_pure _ _);(first|exact HLe.refl _)));try rfl)
set_option maxRecDepth 100000 in
set_option maxHeartbeats 2000000 in
theorem eqfStp (a b:List Stp) (ha:a.length<9223372036854775808) (hb:b.length<9223372036854775808) (he:∀ i,i<a.length→i<b.length→VRead env 58 ([.p (.agg (Enc.enc (gi a i))),.p (.agg (Enc.enc (gi b i)))]++[.ref 0 0]) [(0,.box 137 [.clo 56 [] []])] 1 (.bool (decide (gi a i=gi b i)))) :
 VRead env 61 [.p (.lst 52 (cells a) a.length),.p (.lst 52 (cells b) b.length),.clo 58 [] [.ref 0 0]] [(0,.box 137 [.clo 56 [] []])] 1 (.bool (decide (a=b))):=by
 by_cases hlen:a.length=b.length
 case neg =>
  rw [decide_eq_false (fun e=>hlen (by rw [e]))]
  refine VRead.enter (env_none (by decide)) Tryz.func61 rfl (by kernel_rfl) (by simp [Tryz.ntmps61]) ?_
  repeat' (first|apply VWp.assoc|apply VWp.rseq|apply VWp.retSeq|apply VOps.nil|apply VOps.one|(apply VVal.assign;rfl)|(apply VVal.move;rfl)|(apply VVal.int;rfl;rfl;rfl)|(apply VVal.lenF;rfl;rfl)|(apply VWp.condSeq_dec;rfl)|(intro _;try (exfalso;omega)))
  all_goals first|(exfalso;omega)|contradiction|(refine Done.ret rfl (.refl _) trivial ?_ (by omega) (Nat.le_refl _) ⟨?_,rfl,rfl⟩;repeat (first|exact HCov.nil|(refine HCov.cons (lt_dec rfl) ?_ rfl ?_ ?_;(first|exact HB.under_of rfl|exact PVs.under_pure _ _);(first|exact HLe.refl _)));try rfl)
 refine VRead.enter (env_none (by decide)) Tryz.func61 rfl (by kernel_rfl) (by simp [Tryz.ntmps61]) ?_
 repeat' (first|apply VWp.assoc|apply VWp.rseq|apply VWp.skipSeq|apply VWp.blockSeq|apply VOps.nil|apply VOps.one|(apply VVal.assign;rfl)|(apply VVal.move;rfl)|(apply VVal.int;rfl;rfl;rfl)|(apply VVal.lenF;rfl;rfl)|(apply VWp.condSeq_dec;rfl)|(intro _;try (exfalso;omega)))
 all_goals try (exfalso;omega)
 apply VWp.loopRI (a.length) (fun k=>∀ i,i<k→gi a i=gi b i) [(1,_),(2,_),(15,_),(16,_)] [(0,_)] (fun k r=>(17,.p (.int .i64 (k:Int)))::r) (fun k r=>r) 1
 ·omega
 ·omega
 ·repeat (first|exact LCov.nil|(refine LCov.eq rfl ?_ ?_;(first|exact PV.under_of rfl|(simp [PV.under,PVs.under];done)))|refine LCov.cons trivial rfl (.of_eq (lst_len (by simp<;>omega))) ?_)
 ·repeat (first|exact HCov.nil|(refine HCov.eq rfl (lt_dec rfl) ?_ ?_;(first|exact HB.under_of rfl|exact PVs.under_pure _ _))|(refine HCov.cons (lt_dec rfl) ?_ rfl ?_ ?_;(first|exact trivial|exact PVs.under_pure _ _);(first|exact HLe.refl _)))
 ·first|(intro _ _;omega)|omega|trivial
 ·intro k hk hok
  have hc:=he k hk (by omega)
  by_cases h:gi a k=gi b k
  ·rw [decide_eq_true h] at hc
   repeat' (first|apply VWp.rseq|apply VWp.region|apply VWp.skipSeq|apply VWp.blockSeq|apply QSeq.normal|apply QBlk.normal|apply VWp.skip|apply VOps.nil|apply VOps.one|(apply VVal.read [0] hc;rfl;rfl;exact .of_eq rfl;exact PVs.under_of rfl;exact HUnder_of rfl;(repeat (first|exact trivial|refine ⟨⟨_,rfl,.of_eq rfl⟩,?_⟩));decide;(intro _ hb;simp at hb<;>omega);rfl)|(apply VVal.assign;rfl)|(apply VVal.move;rfl)|(apply VVal.add64;rfl;rfl;omega)|(apply VVal.int;rfl;rfl;rfl)|(apply VVal.indexN;rfl;rfl;rfl;omega;rfl)|(apply VVal.load;rfl;rfl)|(apply VVal.alloc;rfl)|(apply VVal.storeB;rfl;rfl;rfl;trivial;rfl;rfl;exact lt_dec rfl;exact le_dec rfl)|(apply VVal.not;rfl)|(apply VWp.condSeq_dec;rfl)|(apply VWp.cond_false;rfl)|(intro _;try (exfalso;omega)))
   all_goals try (exfalso;omega)
   all_goals try contradiction
   refine QLoop.normal ⟨(all_succ hok h),by omega,?_,?_⟩
   ·repeat (first|exact LCov.nil|refine LCov.same trivial rfl ?_|refine LCov.same (lt_dec rfl) rfl ?_|refine LCov.same ⟨trivial,lt_dec rfl,trivial⟩ rfl ?_|refine LCov.same ⟨trivial,lt_dec rfl,lt_dec rfl,trivial⟩ rfl ?_|refine LCov.same ⟨trivial,lt_dec rfl,lt_dec rfl,lt_dec rfl,trivial⟩ rfl ?_|refine LCov.same ⟨trivial,trivial⟩ rfl ?_|refine LCov.cons trivial rfl (.of_eq (lst_len (by simp<;>omega))) ?_)
   ·repeat (first|exact HCov.nil|(refine HCov.cons (lt_dec rfl) ?_ rfl ?_ ?_;(first|exact HB.under_of rfl|exact PVs.under_pure _ _);(first|exact HLe.refl _)))
  ·rw [decide_eq_false h] at hc
   rw [decide_eq_false (fun e=>h (by rw [e]))]
   repeat' (first|apply VWp.rseq|apply VWp.skipSeq|apply VWp.blockSeq|apply QSeq.ret|apply QBlk.ret|apply QLoop.ret|apply VWp.ret|apply VOps.nil|apply VOps.one|(apply VVal.read [0] hc;rfl;rfl;exact .of_eq rfl;exact PVs.under_of rfl;exact HUnder_of rfl;(repeat (first|exact trivial|refine ⟨⟨_,rfl,.of_eq rfl⟩,?_⟩));decide;(intro _ hb;simp at hb<;>omega);rfl)|(apply VVal.assign;rfl)|(apply VVal.move;rfl)|(apply VVal.int;rfl;rfl;rfl)|(apply VVal.indexN;rfl;rfl;rfl;omega;rfl)|(apply VVal.load;rfl;rfl)|(apply VVal.alloc;rfl)|(apply VVal.storeB;rfl;rfl;rfl;trivial;rfl;rfl;exact lt_dec rfl;exact le_dec rfl)|(apply VVal.not;rfl)|(apply VWp.condSeq_dec;rfl)|(apply VWp.cond_true;rfl)|(intro _;try (exfalso;omega)))
   all_goals first|(exfalso;omega)|contradiction|(refine Done.ret rfl (.refl _) trivial ?_ (by omega) (Nat.le_refl _) ⟨?_,rfl,rfl⟩;repeat (first|exact HCov.nil|(refine HCov.cons (lt_dec rfl) ?_ rfl ?_ ?_;(first|exact HB.under_of rfl|exact PVs.under_pure _ _);(first|exact HLe.refl _)));try rfl)
 ·intro hok
  rw [decide_eq_true (gi_ext hlen hok)]
  repeat' (first|apply VWp.rseq|apply VWp.exitSeq|apply QSeq.normal|apply QBlk.exit|apply QLoop.exit|apply VWp.ret|apply VOps.nil|apply VOps.one|(apply VVal.assign;rfl)|(apply VVal.int;rfl;rfl;rfl)|(apply VWp.condSeq_dec;rfl)|(intro _;try (exfalso;omega)))
  all_goals first|(exfalso;omega)|contradiction|(refine Done.ret rfl (.refl _) trivial ?_ (by omega) (Nat.le_refl _) ⟨?_,rfl,rfl⟩;repeat (first|exact HCov.nil|(refine HCov.cons (lt_dec rfl) ?_ rfl ?_ ?_;(first|exact HB.under_of rfl|exact PVs.under_pure _ _);(first|exact HLe.refl _)));try rfl)
set_option maxRecDepth 100000 in
set_option maxHeartbeats 2000000 in
theorem eqDvs_spec (x y:Dvs) (hx:DvsSm x) (hy:DvsSm y):VRead env 60 [.p (.agg (Enc.enc x)),.p (.agg (Enc.enc y)),.ref 1 0] [(0,.box 137 [.clo 56 [] []]),(1,.box 139 [.clo 58 [] [.ref 0 0]])] 2 (.bool (decide (x=y))):=by
 have s1:=hx.stops
 have s2:=hy.stops
 have hs:=eqfStp x.stops y.stops (by omega) (by omega) (fun i h1 h2=>eqStp_spec _ _ (hx.all i h1) (hy.all i h2))
 have hf:=eqCps ⟨x.lo,x.hi⟩ ⟨y.lo,y.hi⟩
 by_cases h1:x.name=y.name
 ·have g1:=decide_eq_true h1
  by_cases h2:x.pedal=y.pedal
  ·by_cases h3:x.lo=y.lo∧x.hi=y.hi
   ·rw [decide_eq_true (show (⟨x.lo,x.hi⟩:Cps)=⟨y.lo,y.hi⟩ by rw [h3.1,h3.2])] at hf
    have e:decide (x=y)=decide (x.stops=y.stops):=by
     by_cases h:x.stops=y.stops
     ·rw [decide_eq_true h,decide_eq_true (show x=y by cases x;cases y;simp_all)]
     ·rw [decide_eq_false h,decide_eq_false (fun e=>h (by rw [e]))]
    rw [e]
    have hp:(x.pedal==y.pedal)=true:=by simpa using h2
    refine VRead.enter (env_none (by decide)) Tryz.func60 rfl (by kernel_rfl) (by simp [Tryz.ntmps60]) ?_
    repeat' (first|apply VWp.rseq|apply VWp.ret|apply VOps.nil|apply VOps.one|(apply VOps.take;rfl;rfl)|(apply VVal.read [0] hs;rfl;rfl;exact .of_eq rfl;exact PVs.under_of rfl;exact HUnder_of rfl;(repeat (first|exact trivial|refine ⟨⟨_,rfl,.of_eq rfl⟩,?_⟩));decide;(intro _ hb;simp at hb<;>omega);rfl)|(apply VVal.eqSd;rfl;rfl;exact g1)|(apply VVal.eqSt1;rfl;rfl;exact freeCps;exact hf)|((apply VVal.eqB;rfl;rfl;rfl;rw [hp]))|(apply VVal.assign;rfl)|(apply VVal.move;rfl)|(apply VVal.load;rfl;rfl)|(apply VVal.pick_true;rfl;rfl)|(apply VVal.fieldB;rfl;rfl;rfl)|(apply VVal.box;rfl;trivial))
    all_goals first|(exfalso;omega)|contradiction|(refine Done.ret rfl (.refl _) trivial ?_ (by omega) (Nat.le_refl _) ⟨?_,rfl,rfl⟩;repeat (first|exact HCov.nil|(refine HCov.cons (lt_dec rfl) ?_ rfl ?_ ?_;(first|exact HB.under_of rfl|exact PVs.under_pure _ _);(first|exact HLe.refl _)));try rfl)
   ·rw [decide_eq_false (fun e=>h3 (Cps.mk.inj e))] at hf
    rw [decide_eq_false (fun e=>h3 (by rw [e];exact ⟨rfl,rfl⟩))]
    have hp:(x.pedal==y.pedal)=true:=by simpa using h2
    refine VRead.enter (env_none (by decide)) Tryz.func60 rfl (by kernel_rfl) (by simp [Tryz.ntmps60]) ?_
    repeat' (first|apply VWp.rseq|apply VWp.ret|apply VOps.nil|apply VOps.one|(apply VOps.take;rfl;rfl)|(apply VOps.drop;rfl;rfl;rfl)|(apply VVal.eqSd;rfl;rfl;exact g1)|(apply VVal.eqSt1;rfl;rfl;exact freeCps;exact hf)|((apply VVal.eqB;rfl;rfl;rfl;rw [hp]))|(apply VVal.assign;rfl)|(apply VVal.move;rfl)|(apply VVal.load;rfl;rfl)|(apply VVal.pick_true;rfl;rfl)|(apply VVal.pick_false;rfl;rfl)|(apply VVal.fieldB;rfl;rfl;rfl)|(apply VVal.box;rfl;trivial))
    all_goals first|(exfalso;omega)|contradiction|(refine Done.ret rfl (.refl _) trivial ?_ (by omega) (Nat.le_refl _) ⟨?_,rfl,rfl⟩;repeat (first|exact HCov.nil|(refine HCov.cons (lt_dec rfl) ?_ rfl ?_ ?_;(first|exact HB.under_of rfl|exact PVs.under_pure _ _);(first|exact HLe.refl _)));try rfl)
  ·rw [decide_eq_false (fun e=>h2 (by rw [e]))]
   have hp:(x.pedal==y.pedal)=false:=by simpa using h2
   refine VRead.enter (env_none (by decide)) Tryz.func60 rfl (by kernel_rfl) (by simp [Tryz.ntmps60]) ?_
   repeat' (first|apply VWp.rseq|apply VWp.ret|apply VOps.nil|apply VOps.one|(apply VOps.take;rfl;rfl)|(apply VOps.drop;rfl;rfl;rfl)|(apply VVal.eqSd;rfl;rfl;exact g1)|((apply VVal.eqB;rfl;rfl;rfl;rw [hp]))|(apply VVal.assign;rfl)|(apply VVal.move;rfl)|(apply VVal.load;rfl;rfl)|(apply VVal.pick_true;rfl;rfl)|(apply VVal.pick_false;rfl;rfl)|(apply VVal.fieldB;rfl;rfl;rfl)|(apply VVal.box;rfl;trivial))
   all_goals first|(exfalso;omega)|contradiction|(refine Done.ret rfl (.refl _) trivial ?_ (by omega) (Nat.le_refl _) ⟨?_,rfl,rfl⟩;repeat (first|exact HCov.nil|(refine HCov.cons (lt_dec rfl) ?_ rfl ?_ ?_;(first|exact HB.under_of rfl|exact PVs.under_pure _ _);(first|exact HLe.refl _)));try rfl)
 ·have g1:=decide_eq_false h1
  rw [decide_eq_false (fun e=>h1 (by rw [e]))]
  refine VRead.enter (env_none (by decide)) Tryz.func60 rfl (by kernel_rfl) (by simp [Tryz.ntmps60]) ?_
  repeat' (first|apply VWp.rseq|apply VWp.ret|apply VOps.nil|apply VOps.one|(apply VOps.drop;rfl;rfl;rfl)|(apply VVal.eqSd;rfl;rfl;exact g1)|(apply VVal.assign;rfl)|(apply VVal.move;rfl)|(apply VVal.load;rfl;rfl)|(apply VVal.pick_false;rfl;rfl)|(apply VVal.fieldB;rfl;rfl;rfl)|(apply VVal.box;rfl;trivial))
  all_goals first|(exfalso;omega)|contradiction|(refine Done.ret rfl (.refl _) trivial ?_ (by omega) (Nat.le_refl _) ⟨?_,rfl,rfl⟩;repeat (first|exact HCov.nil|(refine HCov.cons (lt_dec rfl) ?_ rfl ?_ ?_;(first|exact HB.under_of rfl|exact PVs.under_pure _ _);(first|exact HLe.refl _)));try rfl)
set_option maxRecDepth 100000 in
set_option maxHeartbeats 2000000 in
theorem eqfDvs (a b:List Dvs) (ha:a.length<9223372036854775808) (hb:b.length<9223372036854775808) (he:∀ i,i<a.length→i<b.length→VRead env 60 ([.p (.agg (Enc.enc (gi a i))),.p (.agg (Enc.enc (gi b i)))]++[.ref 1 0]) [(0,.box 137 [.clo 56 [] []]),(1,.box 139 [.clo 58 [] [.ref 0 0]])] 2 (.bool (decide (gi a i=gi b i)))) :
 VRead env 64 [.p (.lst 49 (cells a) a.length),.p (.lst 49 (cells b) b.length),.clo 60 [] [.ref 1 0]] [(0,.box 137 [.clo 56 [] []]),(1,.box 139 [.clo 58 [] [.ref 0 0]])] 2 (.bool (decide (a=b))):=by
 by_cases hlen:a.length=b.length
 case neg =>
  rw [decide_eq_false (fun e=>hlen (by rw [e]))]
  refine VRead.enter (env_none (by decide)) Tryz.func64 rfl (by kernel_rfl) (by simp [Tryz.ntmps64]) ?_
  repeat' (first|apply VWp.assoc|apply VWp.rseq|apply VWp.retSeq|apply VOps.nil|apply VOps.one|(apply VVal.assign;rfl)|(apply VVal.move;rfl)|(apply VVal.int;rfl;rfl;rfl)|(apply VVal.lenF;rfl;rfl)|(apply VWp.condSeq_dec;rfl)|(intro _;try (exfalso;omega)))
  all_goals first|(exfalso;omega)|contradiction|(refine Done.ret rfl (.refl _) trivial ?_ (by omega) (Nat.le_refl _) ⟨?_,rfl,rfl⟩;repeat (first|exact HCov.nil|(refine HCov.cons (lt_dec rfl) ?_ rfl ?_ ?_;(first|exact HB.under_of rfl|exact PVs.under_pure _ _);(first|exact HLe.refl _)));try rfl)
 refine VRead.enter (env_none (by decide)) Tryz.func64 rfl (by kernel_rfl) (by simp [Tryz.ntmps64]) ?_
 repeat' (first|apply VWp.assoc|apply VWp.rseq|apply VWp.skipSeq|apply VWp.blockSeq|apply VOps.nil|apply VOps.one|(apply VVal.assign;rfl)|(apply VVal.move;rfl)|(apply VVal.int;rfl;rfl;rfl)|(apply VVal.lenF;rfl;rfl)|(apply VWp.condSeq_dec;rfl)|(intro _;try (exfalso;omega)))
 all_goals try (exfalso;omega)
 apply VWp.loopRI (a.length) (fun k=>∀ i,i<k→gi a i=gi b i) [(1,_),(2,_),(15,_),(16,_)] [(0,_),(1,_)] (fun k r=>(17,.p (.int .i64 (k:Int)))::r) (fun k r=>r) 2
 ·omega
 ·omega
 ·repeat (first|exact LCov.nil|(refine LCov.eq rfl ?_ ?_;(first|exact PV.under_of rfl|(simp [PV.under,PVs.under];done)))|refine LCov.cons trivial rfl (.of_eq (lst_len (by simp<;>omega))) ?_)
 ·repeat (first|exact HCov.nil|(refine HCov.eq rfl (lt_dec rfl) ?_ ?_;(first|exact HB.under_of rfl|exact PVs.under_pure _ _))|(refine HCov.cons (lt_dec rfl) ?_ rfl ?_ ?_;(first|exact trivial|exact PVs.under_pure _ _);(first|exact HLe.refl _)))
 ·first|(intro _ _;omega)|omega|trivial
 ·intro k hk hok
  have hc:=he k hk (by omega)
  by_cases h:gi a k=gi b k
  ·rw [decide_eq_true h] at hc
   repeat' (first|apply VWp.rseq|apply VWp.region|apply VWp.skipSeq|apply VWp.blockSeq|apply QSeq.normal|apply QBlk.normal|apply VWp.skip|apply VOps.nil|apply VOps.one|(apply VVal.read [0,1] hc;rfl;rfl;exact .of_eq rfl;exact PVs.under_of rfl;exact HUnder_of rfl;(repeat (first|exact trivial|refine ⟨⟨_,rfl,.of_eq rfl⟩,?_⟩));decide;(intro _ hb;simp at hb<;>omega);rfl)|(apply VVal.assign;rfl)|(apply VVal.move;rfl)|(apply VVal.add64;rfl;rfl;omega)|(apply VVal.int;rfl;rfl;rfl)|(apply VVal.indexN;rfl;rfl;rfl;omega;rfl)|(apply VVal.load;rfl;rfl)|(apply VVal.alloc;rfl)|(apply VVal.storeB;rfl;rfl;rfl;trivial;rfl;rfl;exact lt_dec rfl;exact le_dec rfl)|(apply VVal.not;rfl)|(apply VWp.condSeq_dec;rfl)|(apply VWp.cond_false;rfl)|(intro _;try (exfalso;omega)))
   all_goals try (exfalso;omega)
   all_goals try contradiction
   refine QLoop.normal ⟨(all_succ hok h),by omega,?_,?_⟩
   ·repeat (first|exact LCov.nil|refine LCov.same trivial rfl ?_|refine LCov.same (lt_dec rfl) rfl ?_|refine LCov.same ⟨trivial,lt_dec rfl,trivial⟩ rfl ?_|refine LCov.same ⟨trivial,lt_dec rfl,lt_dec rfl,trivial⟩ rfl ?_|refine LCov.same ⟨trivial,lt_dec rfl,lt_dec rfl,lt_dec rfl,trivial⟩ rfl ?_|refine LCov.same ⟨trivial,trivial⟩ rfl ?_|refine LCov.cons trivial rfl (.of_eq (lst_len (by simp<;>omega))) ?_)
   ·repeat (first|exact HCov.nil|(refine HCov.cons (lt_dec rfl) ?_ rfl ?_ ?_;(first|exact HB.under_of rfl|exact PVs.under_pure _ _);(first|exact HLe.refl _)))
  ·rw [decide_eq_false h] at hc
   rw [decide_eq_false (fun e=>h (by rw [e]))]
   repeat' (first|apply VWp.rseq|apply VWp.skipSeq|apply VWp.blockSeq|apply QSeq.ret|apply QBlk.ret|apply QLoop.ret|apply VWp.ret|apply VOps.nil|apply VOps.one|(apply VVal.read [0,1] hc;rfl;rfl;exact .of_eq rfl;exact PVs.under_of rfl;exact HUnder_of rfl;(repeat (first|exact trivial|refine ⟨⟨_,rfl,.of_eq rfl⟩,?_⟩));decide;(intro _ hb;simp at hb<;>omega);rfl)|(apply VVal.assign;rfl)|(apply VVal.move;rfl)|(apply VVal.int;rfl;rfl;rfl)|(apply VVal.indexN;rfl;rfl;rfl;omega;rfl)|(apply VVal.load;rfl;rfl)|(apply VVal.alloc;rfl)|(apply VVal.storeB;rfl;rfl;rfl;trivial;rfl;rfl;exact lt_dec rfl;exact le_dec rfl)|(apply VVal.not;rfl)|(apply VWp.condSeq_dec;rfl)|(apply VWp.cond_true;rfl)|(intro _;try (exfalso;omega)))
   all_goals first|(exfalso;omega)|contradiction|(refine Done.ret rfl (.refl _) trivial ?_ (by omega) (Nat.le_refl _) ⟨?_,rfl,rfl⟩;repeat (first|exact HCov.nil|(refine HCov.cons (lt_dec rfl) ?_ rfl ?_ ?_;(first|exact HB.under_of rfl|exact PVs.under_pure _ _);(first|exact HLe.refl _)));try rfl)
 ·intro hok
  rw [decide_eq_true (gi_ext hlen hok)]
  repeat' (first|apply VWp.rseq|apply VWp.exitSeq|apply QSeq.normal|apply QBlk.exit|apply QLoop.exit|apply VWp.ret|apply VOps.nil|apply VOps.one|(apply VVal.assign;rfl)|(apply VVal.int;rfl;rfl;rfl)|(apply VWp.condSeq_dec;rfl)|(intro _;try (exfalso;omega)))
  all_goals first|(exfalso;omega)|contradiction|(refine Done.ret rfl (.refl _) trivial ?_ (by omega) (Nat.le_refl _) ⟨?_,rfl,rfl⟩;repeat (first|exact HCov.nil|(refine HCov.cons (lt_dec rfl) ?_ rfl ?_ ?_;(first|exact HB.under_of rfl|exact PVs.under_pure _ _);(first|exact HLe.refl _)));try rfl)
set_option maxRecDepth 100000 in
set_option maxHeartbeats 2000000 in
theorem eqfRnk (a b:List Rnk) (ha:a.length<9223372036854775808) (hb:b.length<9223372036854775808) (he:∀ i,i<a.length→i<b.length→VRead env 63 ([.p (.agg (Enc.enc (gi a i))),.p (.agg (Enc.enc (gi b i)))]++[]) [] 0 (.bool (decide (gi a i=gi b i)))) :
 VRead env 62 [.p (.lst 44 (cells a) a.length),.p (.lst 44 (cells b) b.length),.clo 63 [] []] [] 0 (.bool (decide (a=b))):=by
 by_cases hlen:a.length=b.length
 case neg =>
  rw [decide_eq_false (fun e=>hlen (by rw [e]))]
  refine VRead.enter (env_none (by decide)) Tryz.func62 rfl (by kernel_rfl) (by simp [Tryz.ntmps62]) ?_
  repeat' (first|apply VWp.assoc|apply VWp.rseq|apply VWp.retSeq|apply VOps.nil|apply VOps.one|(apply VVal.assign;rfl)|(apply VVal.move;rfl)|(apply VVal.int;rfl;rfl;rfl)|(apply VVal.lenF;rfl;rfl)|(apply VWp.condSeq_dec;rfl)|(intro _;try (exfalso;omega)))
  all_goals first|(exfalso;omega)|contradiction|(refine Done.ret rfl (.refl _) trivial ?_ (by omega) (Nat.le_refl _) ⟨?_,rfl,rfl⟩;repeat (first|exact HCov.nil|(refine HCov.cons (lt_dec rfl) ?_ rfl ?_ ?_;(first|exact HB.under_of rfl|exact PVs.under_pure _ _);(first|exact HLe.refl _)));try rfl)
 refine VRead.enter (env_none (by decide)) Tryz.func62 rfl (by kernel_rfl) (by simp [Tryz.ntmps62]) ?_
 repeat' (first|apply VWp.assoc|apply VWp.rseq|apply VWp.skipSeq|apply VWp.blockSeq|apply VOps.nil|apply VOps.one|(apply VVal.assign;rfl)|(apply VVal.move;rfl)|(apply VVal.int;rfl;rfl;rfl)|(apply VVal.lenF;rfl;rfl)|(apply VWp.condSeq_dec;rfl)|(intro _;try (exfalso;omega)))
 all_goals try (exfalso;omega)
 apply VWp.loopRI (a.length) (fun k=>∀ i,i<k→gi a i=gi b i) [(1,_),(2,_),(15,_),(16,_)] [] (fun k r=>(17,.p (.int .i64 (k:Int)))::r) (fun k r=>r) 0
 ·omega
 ·omega
 ·repeat (first|exact LCov.nil|(refine LCov.eq rfl ?_ ?_;(first|exact PV.under_of rfl|(simp [PV.under,PVs.under];done)))|refine LCov.cons trivial rfl (.of_eq (lst_len (by simp<;>omega))) ?_)
 ·repeat (first|exact HCov.nil|(refine HCov.eq rfl (lt_dec rfl) ?_ ?_;(first|exact HB.under_of rfl|exact PVs.under_pure _ _))|(refine HCov.cons (lt_dec rfl) ?_ rfl ?_ ?_;(first|exact trivial|exact PVs.under_pure _ _);(first|exact HLe.refl _)))
 ·first|(intro _ _;omega)|omega|trivial
 ·intro k hk hok
  have hc:=he k hk (by omega)
  by_cases h:gi a k=gi b k
  ·rw [decide_eq_true h] at hc
   repeat' (first|apply VWp.rseq|apply VWp.region|apply VWp.skipSeq|apply VWp.blockSeq|apply QSeq.normal|apply QBlk.normal|apply VWp.skip|apply VOps.nil|apply VOps.one|(apply VVal.read [] hc;rfl;rfl;exact .of_eq rfl;exact PVs.under_of rfl;exact HUnder_of rfl;(repeat (first|exact trivial|refine ⟨⟨_,rfl,.of_eq rfl⟩,?_⟩));decide;(intro _ hb;simp at hb<;>omega);rfl)|(apply VVal.assign;rfl)|(apply VVal.move;rfl)|(apply VVal.add64;rfl;rfl;omega)|(apply VVal.int;rfl;rfl;rfl)|(apply VVal.indexN;rfl;rfl;rfl;omega;rfl)|(apply VVal.load;rfl;rfl)|(apply VVal.alloc;rfl)|(apply VVal.storeB;rfl;rfl;rfl;trivial;rfl;rfl;exact lt_dec rfl;exact le_dec rfl)|(apply VVal.not;rfl)|(apply VWp.condSeq_dec;rfl)|(apply VWp.cond_false;rfl)|(intro _;try (exfalso;omega)))
   all_goals try (exfalso;omega)
   all_goals try contradiction
   refine QLoop.normal ⟨(all_succ hok h),by omega,?_,?_⟩
   ·repeat (first|exact LCov.nil|refine LCov.same trivial rfl ?_|refine LCov.same (lt_dec rfl) rfl ?_|refine LCov.same ⟨trivial,lt_dec rfl,trivial⟩ rfl ?_|refine LCov.same ⟨trivial,lt_dec rfl,lt_dec rfl,trivial⟩ rfl ?_|refine LCov.same ⟨trivial,lt_dec rfl,lt_dec rfl,lt_dec rfl,trivial⟩ rfl ?_|refine LCov.same ⟨trivial,trivial⟩ rfl ?_|refine LCov.cons trivial rfl (.of_eq (lst_len (by simp<;>omega))) ?_)
   ·repeat (first|exact HCov.nil|(refine HCov.cons (lt_dec rfl) ?_ rfl ?_ ?_;(first|exact HB.under_of rfl|exact PVs.under_pure _ _);(first|exact HLe.refl _)))
  ·rw [decide_eq_false h] at hc
   rw [decide_eq_false (fun e=>h (by rw [e]))]
   repeat' (first|apply VWp.rseq|apply VWp.skipSeq|apply VWp.blockSeq|apply QSeq.ret|apply QBlk.ret|apply QLoop.ret|apply VWp.ret|apply VOps.nil|apply VOps.one|(apply VVal.read [] hc;rfl;rfl;exact .of_eq rfl;exact PVs.under_of rfl;exact HUnder_of rfl;(repeat (first|exact trivial|refine ⟨⟨_,rfl,.of_eq rfl⟩,?_⟩));decide;(intro _ hb;simp at hb<;>omega);rfl)|(apply VVal.assign;rfl)|(apply VVal.move;rfl)|(apply VVal.int;rfl;rfl;rfl)|(apply VVal.indexN;rfl;rfl;rfl;omega;rfl)|(apply VVal.load;rfl;rfl)|(apply VVal.alloc;rfl)|(apply VVal.storeB;rfl;rfl;rfl;trivial;rfl;rfl;exact lt_dec rfl;exact le_dec rfl)|(apply VVal.not;rfl)|(apply VWp.condSeq_dec;rfl)|(apply VWp.cond_true;rfl)|(intro _;try (exfalso;omega)))
   all_goals first|(exfalso;omega)|contradiction|(refine Done.ret rfl (.refl _) trivial ?_ (by omega) (Nat.le_refl _) ⟨?_,rfl,rfl⟩;repeat (first|exact HCov.nil|(refine HCov.cons (lt_dec rfl) ?_ rfl ?_ ?_;(first|exact HB.under_of rfl|exact PVs.under_pure _ _);(first|exact HLe.refl _)));try rfl)
 ·intro hok
  rw [decide_eq_true (gi_ext hlen hok)]
  repeat' (first|apply VWp.rseq|apply VWp.exitSeq|apply QSeq.normal|apply QBlk.exit|apply QLoop.exit|apply VWp.ret|apply VOps.nil|apply VOps.one|(apply VVal.assign;rfl)|(apply VVal.int;rfl;rfl;rfl)|(apply VWp.condSeq_dec;rfl)|(intro _;try (exfalso;omega)))
  all_goals first|(exfalso;omega)|contradiction|(refine Done.ret rfl (.refl _) trivial ?_ (by omega) (Nat.le_refl _) ⟨?_,rfl,rfl⟩;repeat (first|exact HCov.nil|(refine HCov.cons (lt_dec rfl) ?_ rfl ?_ ?_;(first|exact HB.under_of rfl|exact PVs.under_pure _ _);(first|exact HLe.refl _)));try rfl)
end Go.Proofs.YtcnlhgmkelkikaaGreatDoor
