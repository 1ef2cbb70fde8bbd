/-
  Texts of a proof, merged (PieM, OrQd, PieR, PieT, OrKa, Vm43, PieH, PieI, PieK, Vm44, Vm39, PieU, PieS, Vm35, TraA, PieN, PieO, RkQ, OrK, OrP, PieV, PieX). Conditions: in each statement.
-/
import Derived.Test.YtnhdddmhkhdlhaaGreatDoorKTe
set_option linter.unusedSimpArgs false
set_option linter.unusedVariables false
set_option linter.unusedSectionVars false
set_option maxRecDepth 100000
set_option maxHeartbeats 8000000
namespace Go.Proofs.YtnhdddmhkhdlhaaGreatDoor
open Go Go.Am Go.Vm Go.Pie
attribute [local irreducible] VVal VOps VOpsD VWp VCalls VFun VFunV QSeq QBlk QLoop Vm.Done DoneV DoneI
attribute [local irreducible] rchk windsE stoE dvsE cplE shiftR tailH
structure Sd8 where
 st:Nat
 lg:Nat
 dv:Nat
 ky:Nat
instance:Enc Sd8:={ default:=⟨0,0,0,0⟩,enc:=fun x=>[.int .u8 (x.st:Int),.int .u8 (x.lg:Int),.int .u8 (x.dv:Int),.int .u8 (x.ky:Int)],size:=4,len:=fun _=>rfl }
structure Mrk where
 bar:Nat
 b:Nat→Nat
instance:Enc Mrk:={ default:=⟨0,fun _=>0⟩,enc:=fun x=>[.int .u8 (x.bar:Int),.int .u8 (x.b 0:Int),.int .u8 (x.b 1:Int),.int .u8 (x.b 2:Int),.int .u8 (x.b 3:Int),.int .u8 (x.b 4:Int)],size:=6,len:=fun _=>rfl }
structure PPl where
 org:OPl
 bars:List UInt8
 notes:List Sd8
 sets:List Mrk
def PPl.enc (x:PPl):List FV:=[.lst 166 (cells x.org.ranks) x.org.ranks.length,.lst 163 (cells x.org.divs) x.org.divs.length,.lst 171 (cells x.org.links) x.org.links.length,
 .lst 5 (cells x.bars) x.bars.length,.lst 106 (cells x.notes) x.notes.length,.lst 117 (cells x.sets) x.sets.length]
structure PPl.Ok (x:PPl):Prop where
 org:x.org.Ok
 nb:x.bars.length<9223372036854775808
 nn:x.notes.length<9223372036854775808
 ns:x.sets.length<9223372036854775808
 notes:∀ i,i<x.notes.length→(gi x.notes i).st<256∧(gi x.notes i).lg<256∧(gi x.notes i).dv<256∧(gi x.notes i).ky<256
 sets:∀ i,i<x.sets.length→(gi x.sets i).bar<256∧∀ j,(gi x.sets i).b j<256
def pfits (x:PPl):Prop:=fitsP x.org∧(0<x.bars.length∧x.bars.length≤4)∧x.notes.length≤8∧x.sets.length≤3
noncomputable instance (x:PPl):Decidable (pfits x):=Classical.propDecidable _
theorem pfits_spec (x:PPl) (hx:x.Ok):VFun env 12 [.agg x.enc] (.p (.bool (decide (pfits x)))):=by
 have h1:=fits_spec x.org hx.org
 have b1:=hx.nb
 have b2:=hx.nn
 have b3:=hx.ns
 by_cases c1:fitsP x.org
 ·rw [decide_eq_true c1] at h1
  by_cases c2:(0<x.bars.length∧x.bars.length≤4)∧x.notes.length≤8∧x.sets.length≤3
  ·rw [decide_eq_true (p:=pfits x) ⟨c1,c2⟩]
   refine VFun.enter (env_none (by decide)) Tryz.func12 rfl (by kernel_rfl) (by simp [Tryz.ntmps12]) ?_
   repeat' (first|apply VWp.rseq|apply VWp.ret|apply VOps.nil|apply VOps.one|(apply VOps.take;rfl;rfl)|(apply VOps.guard;rfl;rfl)|(apply VVal.fn;rfl;rfl;exact h1;intro _;rfl)|(apply VVal.assign;rfl)|(apply VVal.move;rfl)|(apply VVal.int;rfl;rfl;rfl)|(apply VVal.load;rfl;rfl)|(apply VVal.pick_true;rfl;rfl)|(apply VVal.lenF;rfl;rfl)|(apply VVal.fieldB;rfl;rfl;rfl)|(apply VVal.box;rfl;trivial)|(intro _;try (exfalso;omega)))
   all_goals first|(exfalso;omega)|contradiction|(refine Done.ret rfl (.refl _) (by exact PV.under_of rfl) HCov.nil (Nat.zero_le _) (Nat.le_refl _) ⟨?_,rfl,rfl⟩;try rfl)
   all_goals exact PV.bool_eq (by simp;omega)
  ·rw [decide_eq_false (p:=pfits x) (fun h=>c2 h.2)]
   refine VFun.enter (env_none (by decide)) Tryz.func12 rfl (by kernel_rfl) (by simp [Tryz.ntmps12]) ?_
   repeat' (first|apply VWp.rseq|apply VWp.ret|apply VOps.nil|apply VOps.one|(apply VOps.take;rfl;rfl)|(apply VOps.drop;rfl;rfl;rfl)|(apply VOps.guard;rfl;rfl)|(apply VVal.fn;rfl;rfl;exact h1;intro _;rfl)|(apply VVal.assign;rfl)|(apply VVal.move;rfl)|(apply VVal.int;rfl;rfl;rfl)|(apply VVal.load;rfl;rfl)|(apply VVal.pick_true;rfl;rfl)|(apply VVal.pick_false;rfl;rfl)|(apply VVal.lenF;rfl;rfl)|(apply VVal.fieldB;rfl;rfl;rfl)|(apply VVal.box;rfl;trivial)|(intro _;try (exfalso;omega)))
   all_goals first|(exfalso;omega)|contradiction|(refine Done.ret rfl (.refl _) (by exact PV.under_of rfl) HCov.nil (Nat.zero_le _) (Nat.le_refl _) ⟨?_,rfl,rfl⟩;try rfl)
   all_goals exact PV.bool_eq (by simp;omega)
 ·rw [decide_eq_false c1] at h1
  rw [decide_eq_false (p:=pfits x) (fun h=>c1 h.1)]
  refine VFun.enter (env_none (by decide)) Tryz.func12 rfl (by kernel_rfl) (by simp [Tryz.ntmps12]) ?_
  repeat' (first|apply VWp.rseq|apply VWp.ret|apply VOps.nil|apply VOps.one|(apply VOps.drop;rfl;rfl;rfl)|(apply VVal.fn;rfl;rfl;exact h1;intro _;rfl)|(apply VVal.assign;rfl)|(apply VVal.move;rfl)|(apply VVal.load;rfl;rfl)|(apply VVal.pick_false;rfl;rfl)|(apply VVal.fieldB;rfl;rfl;rfl)|(apply VVal.box;rfl;trivial))
  all_goals first|(exfalso;omega)|contradiction|(refine Done.ret rfl (.refl _) (by exact PV.under_of rfl) HCov.nil (Nat.zero_le _) (Nat.le_refl _) ⟨?_,rfl,rfl⟩;try rfl)
def bM (l:List UInt8):Nat→Int
 |0=>0
 |i+1=>bM l i+1+((gi l i).toNat:Int) % 6
theorem bM_rng (l:List UInt8):∀ i:Nat,(i:Int)≤bM l i∧bM l i≤6*i
 |0=>by simp [bM]
 |i+1=>by
  have:=bM_rng l i
  unfold bM
  omega
def ntP (o:Org) (z:Int) (y:Sd8):Nte :=
 ⟨(y.st:Int) % z,min z ((y.st:Int) % z+1+(y.lg:Int) % 8),(y.dv:Int) % (o.divs.length:Int),
  (gi o.divs ((y.dv:Int) % (o.divs.length:Int)).toNat).lo+(y.ky:Int) % ((gi o.divs ((y.dv:Int) % (o.divs.length:Int)).toNat).hi-(gi o.divs ((y.dv:Int) % (o.divs.length:Int)).toNat).lo+1)⟩
def ntsK (o:Org) (z:Int) (l:List Sd8):Nat→List Nte
 |0=>[]
 |k+1=>if (ntsK o z l k).any (fun m=>ovl m (ntP o z (gi l k)))=true then ntsK o z l k else ntsK o z l k++[ntP o z (gi l k)]
theorem ntsK_len (o:Org) (z:Int) (l:List Sd8):∀ k,(ntsK o z l k).length≤k
 |0=>Nat.le_refl _
 |k+1=>by
  have:=ntsK_len o z l k
  unfold ntsK
  split
  ·omega
  ·simp;omega
def lasK (nb:Nat) (l:List Mrk):Nat→Int
 |0=>-1
 |k+1=>if ((gi l k).bar:Int) % (nb:Int)>lasK nb l k then ((gi l k).bar:Int) % (nb:Int) else lasK nb l k
noncomputable def stgK (o:Org) (nb:Nat) (l:List Mrk):Nat→List Stg
 |0=>[]
 |k+1=>if ((gi l k).bar:Int) % (nb:Int)>lasK nb l k then stgK o nb l k++[⟨((gi l k).bar:Int) % (nb:Int),drawnR o (gi l k).b⟩] else stgK o nb l k
theorem stgK_len (o:Org) (nb:Nat) (l:List Mrk):∀ k,(stgK o nb l k).length≤k
 |0=>Nat.le_refl _
 |k+1=>by
  have:=stgK_len o nb l k
  unfold stgK
  split
  ·simp;omega
  ·omega
noncomputable def mkPo (o:Org) (x:PPl):Pce:=⟨snocK (bM x.bars) (x.bars.length+1),ntsK o (bM x.bars x.bars.length) x.notes x.notes.length,stgK o x.bars.length x.sets x.sets.length⟩
noncomputable def mkP (x:PPl):Pce:=mkPo (mkO x.org) x
theorem ovl_spec (a b:Nte):VFun env 43 [.agg (Enc.enc a),.agg (Enc.enc b)] (.p (.bool (ovl a b))):=by
 unfold ovl
 by_cases h1:a.d=b.d
 case neg =>
  rw [decide_eq_false h1,Bool.false_and]
  refine VFun.enter (env_none (by decide)) Tryz.func43 rfl (by kernel_rfl) (by simp [Tryz.ntmps43]) ?_
  repeat' (first|apply VWp.rseq|apply VWp.ret|apply VOps.nil|apply VOps.one|(apply VOps.drop;rfl;rfl;rfl)|(apply VOps.guard;rfl;rfl)|(apply VVal.assign;rfl)|(apply VVal.move;rfl)|(apply VVal.int;rfl;rfl;rfl)|(apply VVal.load;rfl;rfl)|(apply VVal.pick_false;rfl;rfl)|(apply VVal.fieldB;rfl;rfl;rfl)|(apply VVal.box;rfl;trivial)|(intro _;try (exfalso;omega)))
  all_goals first|(exfalso;omega)|contradiction|(refine Done.ret rfl (.refl _) (by exact PV.under_of rfl) HCov.nil (Nat.zero_le _) (Nat.le_refl _) ⟨?_,rfl,rfl⟩;try rfl)
 by_cases h2:a.k=b.k
 case neg =>
  rw [decide_eq_true h1,decide_eq_false h2,Bool.false_and,Bool.true_and]
  refine VFun.enter (env_none (by decide)) Tryz.func43 rfl (by kernel_rfl) (by simp [Tryz.ntmps43]) ?_
  repeat' (first|apply VWp.rseq|apply VWp.ret|apply VOps.nil|apply VOps.one|(apply VOps.take;rfl;rfl)|(apply VOps.drop;rfl;rfl;rfl)|(apply VOps.guard;rfl;rfl)|(apply VVal.assign;rfl)|(apply VVal.move;rfl)|(apply VVal.int;rfl;rfl;rfl)|(apply VVal.load;rfl;rfl)|(apply VVal.pick_true;rfl;rfl)|(apply VVal.pick_false;rfl;rfl)|(apply VVal.fieldB;rfl;rfl;rfl)|(apply VVal.box;rfl;trivial)|(intro _;try (exfalso;omega)))
  all_goals first|(exfalso;omega)|contradiction|(refine Done.ret rfl (.refl _) (by exact PV.under_of rfl) HCov.nil (Nat.zero_le _) (Nat.le_refl _) ⟨?_,rfl,rfl⟩;try rfl)
 by_cases h3:a.s<b.e
 case neg =>
  rw [decide_eq_true h1,decide_eq_true h2,decide_eq_false h3,Bool.false_and,Bool.true_and]
  refine VFun.enter (env_none (by decide)) Tryz.func43 rfl (by kernel_rfl) (by simp [Tryz.ntmps43]) ?_
  repeat' (first|apply VWp.rseq|apply VWp.ret|apply VOps.nil|apply VOps.one|(apply VOps.take;rfl;rfl)|(apply VOps.drop;rfl;rfl;rfl)|(apply VOps.guard;rfl;rfl)|(apply VVal.assign;rfl)|(apply VVal.move;rfl)|(apply VVal.int;rfl;rfl;rfl)|(apply VVal.load;rfl;rfl)|(apply VVal.pick_true;rfl;rfl)|(apply VVal.pick_false;rfl;rfl)|(apply VVal.fieldB;rfl;rfl;rfl)|(apply VVal.box;rfl;trivial)|(intro _;try (exfalso;omega)))
  all_goals first|(exfalso;omega)|contradiction|(refine Done.ret rfl (.refl _) (by exact PV.under_of rfl) HCov.nil (Nat.zero_le _) (Nat.le_refl _) ⟨?_,rfl,rfl⟩;try rfl)
 rw [decide_eq_true h1,decide_eq_true h2,decide_eq_true h3,Bool.true_and,Bool.true_and,Bool.true_and]
 refine VFun.enter (env_none (by decide)) Tryz.func43 rfl (by kernel_rfl) (by simp [Tryz.ntmps43]) ?_
 repeat' (first|apply VWp.rseq|apply VWp.ret|apply VOps.nil|apply VOps.one|(apply VOps.take;rfl;rfl)|(apply VOps.guard;rfl;rfl)|(apply VVal.assign;rfl)|(apply VVal.move;rfl)|(apply VVal.int;rfl;rfl;rfl)|(apply VVal.load;rfl;rfl)|(apply VVal.pick_true;rfl;rfl)|(apply VVal.fieldB;rfl;rfl;rfl)|(apply VVal.box;rfl;trivial)|(intro _;try (exfalso;omega)))
 all_goals first|(exfalso;omega)|contradiction|(refine Done.ret rfl (.refl _) (by exact PV.under_of rfl) HCov.nil (Nat.zero_le _) (Nat.le_refl _) ⟨?_,rfl,rfl⟩;try rfl)
theorem make1_spec (n m:Nte):VRead env 42 ([.p (.agg (Enc.enc m))]++[.ref 0 0]) [(0,nteB n)] 1 (.bool (ovl m n)):=by
 have h:=ovl_spec m n
 refine VRead.enter (env_none (by decide)) Tryz.func42 rfl (by kernel_rfl) (by simp [Tryz.ntmps42]) ?_
 repeat' (first|apply VWp.rseq|apply VWp.ret|apply VOps.nil|apply VOps.one|(apply VVal.fn;rfl;rfl;exact h;intro _;rfl)|(apply VVal.assign;rfl)|(apply VVal.load;rfl;rfl)|(apply VVal.box;rfl;trivial))
 all_goals first|(exfalso;omega)|(refine Done.ret rfl (.refl _) trivial ?_ (by omega) (Nat.le_refl _) ⟨?_,rfl,rfl⟩;repeat (first|exact HCov.nil|(refine HCov.cons (lt_dec rfl) ?_ rfl ?_ ?_;(first|exact HB.under_of rfl|exact PVs.under_pure _ _|(simp [HB.under,PVs.under,PV.under]));(first|exact HLe.refl _|exact HLe.vec (FLes.refl _) (by simp))));try rfl)
theorem make45_spec (x:PPl) (hx:x.Ok) (hf:pfits x):VFun env 13 [.agg x.enc] (.tup [.p (.agg (Enc.enc (mkO x.org))),.p (.agg (Enc.enc (mkP x)))]):=by
 obtain ⟨f1,f2,f3,f4⟩:=hf
 have hm:=make18_spec x.org hx.org f1
 have hT:=mkO_t x.org hx.org f1
 have hdr:=fun i (hi:i<x.sets.length)=>drawn_spec (mkO x.org) hT (gi x.sets i).b (hx.sets i hi).2
 have hbr:=bM_rng x.bars
 unfold mkP mkPo
 generalize mkO x.org=o at *
 have d1:=hT.divs
 have hsl:(snocK (bM x.bars) (x.bars.length+1)).length=x.bars.length+1:=snocK_len _ _
 refine VFun.enter (env_none (by decide)) Tryz.func13 rfl (by kernel_rfl) (by simp [Tryz.ntmps13]) ?_
 repeat' (first|apply VWp.assoc|apply VWp.rseq|apply VWp.blockSeq|apply VOps.nil|apply VOps.one|(apply VVal.fn;rfl;rfl;exact hm;intro _;rfl)|(apply VVal.move;rfl)|(apply VVal.load;rfl;rfl)|(apply VVal.lenF;rfl;rfl)|(apply VVal.fieldB;rfl;rfl;rfl)|(apply VVal.box;rfl;trivial)|(apply VVal.alloc;rfl)|(apply VVal.storeB;rfl;rfl;rfl;trivial;rfl;rfl;exact lt_dec rfl;exact le_dec rfl)|(apply VVal.build;rfl;rfl;rfl;rfl;rfl)|(apply VVal.buildSlice;rfl;rfl;rfl;decide;rfl;rfl;rfl))
 all_goals try (exfalso;omega)
 apply VWp.loopR (x.bars.length) [(1,_),(2,_),(3,_),(4,_),(5,_),(24,_),(25,_)] [(0,_),(1,_),(2,_),(3,_)] (fun k r=>(26,.p (.int .i64 (k:Int)))::r) (fun k r=>(4,.vec 3 (cells (snocK (bM x.bars) (k+1))) (snocK (bM x.bars) (k+1)).length false)::(5,.box 45 [.vec 4 (snocK (bM x.bars) (k+1)).length 0 (snocK (bM x.bars) (k+1)).length,.p (.val (.slice none 0 0)),.p (.val (.slice none 0 0))])::r) 6
 ·first|omega|decide
 ·first|omega|decide
 ·repeat (first|exact LCov.nil|(refine LCov.eq rfl ?_ ?_;(first|exact PV.under_of rfl|(simp [PV.under,PVs.under];done)))|refine LCov.cons trivial rfl (.of_eq (lst_len (by simp<;>omega))) ?_)
 ·repeat (first|exact HCov.nil|(refine HCov.eq rfl (lt_dec rfl) ?_ ?_;(first|exact HB.under_of rfl|exact PVs.under_pure _ _|(simp [HB.under,PVs.under,PV.under];done)))|(refine HCov.cons (lt_dec rfl) ?_ rfl ?_ ?_;(first|exact trivial|exact PVs.under_pure _ _|(simp [HB.under,PVs.under,PV.under]));(first|exact HLe.refl _|exact HLe.vec (FLes.refl _) (by simp))))
 ·intro k hk
  have hl:(snocK (bM x.bars) (k+1)).length=k+1:=snocK_len _ _
  have hg:gi (snocK (bM x.bars) (k+1)) k=bM x.bars k:=snocK_gi _ (by omega)
  have hb:=hbr k
  have hu:=(gi x.bars k).toNat_lt
  have e1:snocK (bM x.bars) (k+1+1)=snocK (bM x.bars) (k+1)++[bM x.bars k+1+((gi x.bars k).toNat:Int) % 6]:=rfl
  have e2:(snocK (bM x.bars) (k+1+1)).length=(snocK (bM x.bars) (k+1)).length+1:=by rw [e1];simp
  repeat' (first|apply VWp.rseq|apply VWp.region|apply VWp.regionD|apply VWp.skipSeq|apply VWp.blockSeq|apply QSeq.normal|apply QBlk.normal|apply VOps.nil|apply VOpsD.nil|apply VOps.one|(apply VOpsD.bar;decide +kernel)|apply VOpsD.quiet|(apply VVal.loadVL;rfl;rfl;(first|omega|(simp only [List.length_set]<;>omega));exact congrArg (fun b=>some (FV.int .i64 b)) (hg))|(apply VVal.append1 (a:=(bM x.bars k+1+((gi x.bars k).toNat:Int) % 6));rfl;rfl;rfl;rfl;rfl;rfl;rfl;rfl;(intro _ h;cases h);rfl;rfl;rfl;decide;decide;(first|omega|(simp only [List.length_take,List.length_drop,List.length_append,List.length_singleton,List.length_cons,List.length_nil]<;>omega)))|(apply VVal.assign;rfl)|(apply VVal.move;rfl)|(apply VVal.add64;rfl;rfl;omega)|(apply VVal.remI;rfl;rfl;omega;omega)|(apply VVal.int;rfl;rfl;rfl)|(apply VVal.indexN;rfl;rfl;rfl;omega;rfl)|(apply VVal.load;rfl;rfl)|(apply VVal.fieldB;rfl;rfl;rfl)|(apply VVal.storeB;rfl;rfl;rfl;trivial;rfl;rfl;exact lt_dec rfl;exact le_dec rfl)|(apply VVal.buildSlice;rfl;rfl;rfl;decide;rfl;rfl;rfl)|(apply VVal.indexVN;rfl;rfl;rfl;rfl;omega)|(apply VVal.convI;rfl;rfl;rfl;rfl;omega)|(apply VWp.condSeq_dec;rfl)|(intro _;try (exfalso;omega)))
  all_goals try (exfalso;omega)
  refine QLoop.normal ⟨by first|omega|decide,?_,?_⟩
  ·try (rw [e2,e1])
   repeat (first|exact LCov.nil|refine LCov.same (by exact PV.under_of rfl) rfl ?_|refine LCov.cons trivial rfl (.of_eq (lst_len (by simp<;>omega))) ?_)
  ·rw [e2,e1]
   repeat (first|exact HCov.nil|(refine HCov.cons (lt_dec rfl) ?_ rfl ?_ ?_;(first|exact HB.under_of rfl|exact PVs.under_pure _ _|(simp [HB.under,PVs.under,PV.under]));(first|exact HLe.refl _|exact HLe.vec (FLes.refl _) (by simp))))
 ·have hg:gi (snocK (bM x.bars) (x.bars.length+1)) x.bars.length=bM x.bars x.bars.length:=snocK_gi _ (by omega)
  have hb:=hbr x.bars.length
  have hlc:((snocK (bM x.bars) (x.bars.length+1)).length:Int)-1=(x.bars.length:Int):=by omega
  repeat' (first|apply VWp.assoc|apply VWp.rseq|apply VWp.exitSeq|apply VWp.blockSeq|apply QSeq.normal|apply QBlk.exit|apply QLoop.exit|apply VOps.nil|apply VOps.one|(apply VVal.loadVL;rfl;rfl;(first|omega|(simp only [List.length_set]<;>omega));exact congrArg (fun b=>some (FV.int .i64 b)) (hg))|(apply VVal.indexVN (l:=snocK (bM x.bars) (x.bars.length+1)) (i:=x.bars.length);rfl;rfl;exact congrArg (fun b=>some (PV.p (.int .i64 b))) hlc;rfl;omega)|(apply VVal.assign;rfl)|(apply VVal.move;rfl)|(apply VVal.sub64;rfl;rfl;omega)|(apply VVal.int;rfl;rfl;rfl)|(apply VVal.load;rfl;rfl)|(apply VVal.lenF;rfl;rfl)|(apply VVal.lenV;rfl;rfl;rfl)|(apply VVal.fieldB;rfl;rfl;rfl)|(apply VWp.condSeq_dec;rfl)|(intro _;try (exfalso;omega)))
  all_goals try (exfalso;omega)
  refine VWp.ghost (Ghost.adoptCell 5 1 66 rfl rfl) ?_
  refine VWp.ghost (Ghost.adoptCell 5 2 74 rfl rfl) ?_
  obtain ⟨z,hz⟩:∃ z,z=bM x.bars x.bars.length:=⟨_,rfl⟩
  rw [← hz] at hb ⊢
  apply VWp.loopR (x.notes.length) [(1,_),(2,_),(3,_),(4,_),(5,_),(8,_),(56,_),(57,_)] [(0,_),(1,_),(2,_),(3,_),(4,_),(7,_)] (fun k r=>(58,.p (.int .i64 (k:Int)))::r) (fun k r=>(6,.vec 66 (cells (ntsK o z x.notes k)) (ntsK o z x.notes k).length true)::(5,.box 45 [.vec 4 (snocK (bM x.bars) (x.bars.length+1)).length 0 (snocK (bM x.bars) (x.bars.length+1)).length,.vec 6 (ntsK o z x.notes k).length 0 (ntsK o z x.notes k).length,.vec 7 0 0 0])::r) 8
  ·first|omega|decide
  ·first|omega|decide
  ·repeat (first|exact LCov.nil|(refine LCov.eq rfl ?_ ?_;(first|exact PV.under_of rfl|(simp [PV.under,PVs.under];done)))|refine LCov.cons trivial rfl (.of_eq (lst_len (by simp<;>omega))) ?_)
  ·repeat (first|exact HCov.nil|(refine HCov.eq rfl (lt_dec rfl) ?_ ?_;(first|exact HB.under_of rfl|exact PVs.under_pure _ _|(simp [HB.under,PVs.under,PV.under];done)))|(refine HCov.cons (lt_dec rfl) ?_ rfl ?_ ?_;(first|exact trivial|exact PVs.under_pure _ _|(simp [HB.under,PVs.under,PV.under]));(first|exact HLe.refl _|exact HLe.vec (FLes.refl _) (by simp))))
  ·intro k hk
   have hl2:=ntsK_len o z x.notes k
   obtain ⟨y1,y2,y3,y4⟩:=hx.notes k hk
   have hd0:0≤((gi x.notes k).dv:Int) % (o.divs.length:Int):=Int.emod_nonneg _ (by omega)
   have hd1:((gi x.notes k).dv:Int) % (o.divs.length:Int)<(o.divs.length:Int):=Int.emod_lt_of_pos _ (by omega)
   have hdv:=hT.dv (((gi x.notes k).dv:Int) % (o.divs.length:Int)).toNat (by omega)
   have hs0:0≤((gi x.notes k).st:Int) % z:=Int.emod_nonneg _ (by omega)
   have hs1:((gi x.notes k).st:Int) % z<z:=Int.emod_lt_of_pos _ (by omega)
   have hk0:0≤((gi x.notes k).ky:Int) % ((gi o.divs (((gi x.notes k).dv:Int) % (o.divs.length:Int)).toNat).hi-(gi o.divs (((gi x.notes k).dv:Int) % (o.divs.length:Int)).toNat).lo+1):=Int.emod_nonneg _ (by omega)
   have hk1:((gi x.notes k).ky:Int) % ((gi o.divs (((gi x.notes k).dv:Int) % (o.divs.length:Int)).toNat).hi-(gi o.divs (((gi x.notes k).dv:Int) % (o.divs.length:Int)).toNat).lo+1)<(gi o.divs (((gi x.notes k).dv:Int) % (o.divs.length:Int)).toNat).hi-(gi o.divs (((gi x.notes k).dv:Int) % (o.divs.length:Int)).toNat).lo+1:=Int.emod_lt_of_pos _ (by omega)
   have hany:=anyNteV 42 (ntP o z (gi x.notes k)) (ntsK o z x.notes k) true (fun m=>ovl m (ntP o z (gi x.notes k))) (by omega) (fun m=>make1_spec (ntP o z (gi x.notes k)) m)
   have e1:ntsK o z x.notes (k+1)=if (ntsK o z x.notes k).any (fun m=>ovl m (ntP o z (gi x.notes k)))=true then ntsK o z x.notes k else ntsK o z x.notes k++[ntP o z (gi x.notes k)]:=rfl
   by_cases hb:(ntsK o z x.notes k).any (fun m=>ovl m (ntP o z (gi x.notes k)))=true
   ·rw [if_pos hb] at e1
    rw [hb] at hany
    repeat' (first|apply VWp.rseq|apply VWp.rseqD|apply VWp.region|apply VWp.skipSeq|apply VWp.blockSeq|apply QSeq.normal|apply QBlk.normal|apply VWp.skip|apply VOps.nil|apply VOpsD.nil|apply VOps.one|(apply VOpsD.bar;decide +kernel)|apply VOpsD.quiet|(apply VVal.read [10,6] hany;rfl;rfl;exact .of_eq rfl;exact PVs.under_of rfl;exact HUnder_of rfl;(repeat (first|exact trivial|refine ⟨⟨_,rfl,.of_eq rfl⟩,?_⟩));decide;(intro _ hb;simp at hb<;>omega);rfl)|(apply VVal.makeFunc;rfl;rfl)|(apply VVal.assign;rfl)|(apply VVal.move;rfl)|(apply VVal.add64;rfl;rfl;omega)|(apply VVal.sub64;rfl;rfl;omega)|(apply VVal.remI;rfl;rfl;omega;omega)|(apply VVal.int;rfl;rfl;rfl)|(apply VVal.indexN;rfl;rfl;rfl;omega;rfl)|(apply VVal.indexE;rfl;rfl;rfl;omega;omega;rfl)|(apply VVal.load;rfl;rfl)|(apply VVal.lenF;rfl;rfl)|(apply VVal.fieldB;rfl;rfl;rfl)|(apply VVal.fieldF;rfl;rfl)|(apply VVal.alloc;rfl)|(apply VVal.storeB;rfl;rfl;rfl;trivial;rfl;rfl;exact lt_dec rfl;exact le_dec rfl)|(apply VVal.build;rfl;rfl;rfl;rfl;rfl)|(apply VVal.minI;rfl;rfl)|(apply VVal.not;rfl)|(apply VVal.convI;rfl;rfl;rfl;rfl;omega)|(apply VWp.condSeq_dec;rfl)|(apply VWp.cond_false;rfl)|(intro _;try (exfalso;omega)))
    all_goals try (exfalso;omega)
    refine QLoop.normal ⟨by first|omega|decide,?_,?_⟩
    ·try (rw [e1])
     repeat (first|exact LCov.nil|refine LCov.same (by exact PV.under_of rfl) rfl ?_|refine LCov.cons trivial rfl (.of_eq (lst_len (by simp<;>omega))) ?_)
    ·rw [e1]
     repeat (first|exact HCov.nil|(refine HCov.cons (lt_dec rfl) ?_ rfl ?_ ?_;(first|exact HB.under_of rfl|exact PVs.under_pure _ _|(simp [HB.under,PVs.under,PV.under]));(first|exact HLe.refl _|exact HLe.vec (FLes.refl _) (by simp))))
   ·rw [if_neg hb] at e1
    have hb':(ntsK o z x.notes k).any (fun m=>ovl m (ntP o z (gi x.notes k)))=false:=by simpa using hb
    rw [hb'] at hany
    have e2:(ntsK o z x.notes (k+1)).length=(ntsK o z x.notes k).length+1:=by rw [e1];simp
    repeat' (first|apply VWp.rseq|apply VWp.rseqD|apply VWp.region|apply VWp.skipSeq|apply VWp.blockSeq|apply QSeq.normal|apply QBlk.normal|apply VOps.nil|apply VOpsD.nil|apply VOps.one|(apply VOpsD.bar;decide +kernel)|apply VOpsD.quiet|(apply VVal.read [10,6] hany;rfl;rfl;exact .of_eq rfl;exact PVs.under_of rfl;exact HUnder_of rfl;(repeat (first|exact trivial|refine ⟨⟨_,rfl,.of_eq rfl⟩,?_⟩));decide;(intro _ hb;simp at hb<;>omega);rfl)|(apply VVal.makeFunc;rfl;rfl)|(apply VVal.append1 (a:=ntP o z (gi x.notes k));rfl;rfl;rfl;rfl;rfl;rfl;rfl;rfl;(intro _ h;cases h);rfl;rfl;rfl;decide;decide;(first|omega|(simp only [List.length_take,List.length_drop,List.length_append,List.length_singleton,List.length_cons,List.length_nil]<;>omega)))|(apply VVal.assign;rfl)|(apply VVal.move;rfl)|(apply VVal.add64;rfl;rfl;omega)|(apply VVal.sub64;rfl;rfl;omega)|(apply VVal.remI;rfl;rfl;omega;omega)|(apply VVal.int;rfl;rfl;rfl)|(apply VVal.indexN;rfl;rfl;rfl;omega;rfl)|(apply VVal.indexE;rfl;rfl;rfl;omega;omega;rfl)|(apply VVal.load;rfl;rfl)|(apply VVal.lenF;rfl;rfl)|(apply VVal.fieldB;rfl;rfl;rfl)|(apply VVal.fieldF;rfl;rfl)|(apply VVal.alloc;rfl)|(apply VVal.storeB;rfl;rfl;rfl;trivial;rfl;rfl;exact lt_dec rfl;exact le_dec rfl)|(apply VVal.build;rfl;rfl;rfl;rfl;rfl)|(apply VVal.buildSlice;rfl;rfl;rfl;decide;rfl;rfl;rfl)|(apply VVal.minI;rfl;rfl)|(apply VVal.not;rfl)|(apply VVal.convI;rfl;rfl;rfl;rfl;omega)|(apply VWp.condSeq_dec;rfl)|(apply VWp.cond_true;rfl)|(intro _;try (exfalso;omega)))
    all_goals try (exfalso;omega)
    refine QLoop.normal ⟨by first|omega|decide,?_,?_⟩
    ·try (rw [e2,e1])
     repeat (first|exact LCov.nil|refine LCov.same (by exact PV.under_of rfl) rfl ?_|refine LCov.cons trivial rfl (.of_eq (lst_len (by simp<;>omega))) ?_)
    ·rw [e2,e1]
     repeat (first|exact HCov.nil|(refine HCov.cons (lt_dec rfl) ?_ rfl ?_ ?_;(first|exact HB.under_of rfl|exact PVs.under_pure _ _|(simp [HB.under,PVs.under,PV.under]));(first|exact HLe.refl _|exact HLe.vec (FLes.refl _) (by simp))))
  ·have hl2:=ntsK_len o z x.notes x.notes.length
   repeat' (first|apply VWp.assoc|apply VWp.rseq|apply VWp.exitSeq|apply VWp.blockSeq|apply QSeq.normal|apply QBlk.exit|apply QLoop.exit|apply VOps.nil|apply VOps.one|(apply VVal.assign;rfl)|(apply VVal.move;rfl)|(apply VVal.int;rfl;rfl;rfl)|(apply VVal.load;rfl;rfl)|(apply VVal.lenF;rfl;rfl)|(apply VVal.fieldB;rfl;rfl;rfl)|(apply VWp.condSeq_dec;rfl)|(intro _;try (exfalso;omega)))
   all_goals try (exfalso;omega)
   apply VWp.loopR (x.sets.length) [(1,_),(2,_),(3,_),(4,_),(5,_),(119,_),(120,_)] [(0,_),(1,_),(2,_),(3,_),(4,_),(6,_)] (fun k r=>(121,.p (.int .i64 (k:Int)))::(14,.p (.int .i64 (lasK x.bars.length x.sets k)))::r) (fun k r=>(7,.vec 74 (cells (stgK o x.bars.length x.sets k)) (stgK o x.bars.length x.sets k).length true)::(5,.box 45 [.vec 4 (snocK (bM x.bars) (x.bars.length+1)).length 0 (snocK (bM x.bars) (x.bars.length+1)).length,.vec 6 (ntsK o z x.notes x.notes.length).length 0 (ntsK o z x.notes x.notes.length).length,.vec 7 (stgK o x.bars.length x.sets k).length 0 (stgK o x.bars.length x.sets k).length])::r) 8
   ·first|omega|decide
   ·first|omega|decide
   ·repeat (first|exact LCov.nil|(refine LCov.eq rfl ?_ ?_;(first|exact PV.under_of rfl|(simp [PV.under,PVs.under];done)))|refine LCov.cons trivial rfl (.of_eq (lst_len (by simp<;>omega))) ?_)
   ·repeat (first|exact HCov.nil|(refine HCov.eq rfl (lt_dec rfl) ?_ ?_;(first|exact HB.under_of rfl|exact PVs.under_pure _ _|(simp [HB.under,PVs.under,PV.under];done)))|(refine HCov.cons (lt_dec rfl) ?_ rfl ?_ ?_;(first|exact trivial|exact PVs.under_pure _ _|(simp [HB.under,PVs.under,PV.under]));(first|exact HLe.refl _|exact HLe.vec (FLes.refl _) (by simp))))
   ·intro k hk
    have hl3:=stgK_len o x.bars.length x.sets k
    have hy:=(hx.sets k hk).1
    have hdk:=hdr k hk
    have hb0:0≤((gi x.sets k).bar:Int) % (x.bars.length:Int):=Int.emod_nonneg _ (by omega)
    have hb1:((gi x.sets k).bar:Int) % (x.bars.length:Int)<(x.bars.length:Int):=Int.emod_lt_of_pos _ (by omega)
    have e1:stgK o x.bars.length x.sets (k+1)=if ((gi x.sets k).bar:Int) % (x.bars.length:Int)>lasK x.bars.length x.sets k then stgK o x.bars.length x.sets k++[⟨((gi x.sets k).bar:Int) % (x.bars.length:Int),drawnR o (gi x.sets k).b⟩] else stgK o x.bars.length x.sets k:=rfl
    have e3:lasK x.bars.length x.sets (k+1)=if ((gi x.sets k).bar:Int) % (x.bars.length:Int)>lasK x.bars.length x.sets k then ((gi x.sets k).bar:Int) % (x.bars.length:Int) else lasK x.bars.length x.sets k:=rfl
    by_cases hc:((gi x.sets k).bar:Int) % (x.bars.length:Int)>lasK x.bars.length x.sets k
    ·rw [if_pos hc] at e1 e3
     have e2:(stgK o x.bars.length x.sets (k+1)).length=(stgK o x.bars.length x.sets k).length+1:=by rw [e1];simp
     repeat' (first|apply VWp.rseq|apply VWp.region|apply VWp.regionD|apply VWp.skipSeq|apply VWp.blockSeq|apply QSeq.normal|apply QBlk.normal|apply VOps.nil|apply VOpsD.nil|apply VOps.one|(apply VOpsD.bar;decide +kernel)|apply VOpsD.quiet|(apply VVal.fn;rfl;rfl;exact hdk;intro _;rfl)|(apply VVal.append1 (a:=(⟨((gi x.sets k).bar:Int) % (x.bars.length:Int),drawnR o (gi x.sets k).b⟩:Stg));rfl;rfl;rfl;rfl;rfl;rfl;rfl;rfl;(intro _ h;cases h);rfl;rfl;rfl;decide;decide;(first|omega|(simp only [List.length_take,List.length_drop,List.length_append,List.length_singleton,List.length_cons,List.length_nil]<;>omega)))|(apply VVal.assign;rfl)|(apply VVal.move;rfl)|(apply VVal.add64;rfl;rfl;omega)|(apply VVal.remI;rfl;rfl;omega;omega)|(apply VVal.int;rfl;rfl;rfl)|(apply VVal.indexN;rfl;rfl;rfl;omega;rfl)|(apply VVal.load;rfl;rfl)|(apply VVal.lenF;rfl;rfl)|(apply VVal.fieldB;rfl;rfl;rfl)|(apply VVal.alloc;rfl)|(apply VVal.storeB;rfl;rfl;rfl;trivial;rfl;rfl;exact lt_dec rfl;exact le_dec rfl)|(apply VVal.build;rfl;rfl;rfl;rfl;rfl)|(apply VVal.buildSlice;rfl;rfl;rfl;decide;rfl;rfl;rfl)|(apply VVal.convI;rfl;rfl;rfl;rfl;omega)|(apply VWp.condSeq_dec;rfl)|(apply VWp.cond_dec;rfl)|(intro _;try (exfalso;omega)))
     all_goals try (exfalso;omega)
     refine QLoop.normal ⟨by first|omega|decide,?_,?_⟩
     ·try (first|rw [e2,e1]|rw [e3])
      repeat (first|exact LCov.nil|refine LCov.same (by exact PV.under_of rfl) rfl ?_|refine LCov.cons trivial rfl (.of_eq (lst_len (by simp<;>omega))) ?_)
     ·first|rw [e2,e1]|rw [e3]
      repeat (first|exact HCov.nil|(refine HCov.cons (lt_dec rfl) ?_ rfl ?_ ?_;(first|exact HB.under_of rfl|exact PVs.under_pure _ _|(simp [HB.under,PVs.under,PV.under]));(first|exact HLe.refl _|exact HLe.vec (FLes.refl _) (by simp))))
    ·rw [if_neg hc] at e1 e3
     repeat' (first|apply VWp.rseq|apply VWp.region|apply VWp.skipSeq|apply VWp.blockSeq|apply QSeq.normal|apply QBlk.normal|apply VWp.skip|apply VOps.nil|apply VOps.one|(apply VVal.assign;rfl)|(apply VVal.move;rfl)|(apply VVal.add64;rfl;rfl;omega)|(apply VVal.remI;rfl;rfl;omega;omega)|(apply VVal.int;rfl;rfl;rfl)|(apply VVal.indexN;rfl;rfl;rfl;omega;rfl)|(apply VVal.load;rfl;rfl)|(apply VVal.lenF;rfl;rfl)|(apply VVal.fieldB;rfl;rfl;rfl)|(apply VVal.alloc;rfl)|(apply VVal.storeB;rfl;rfl;rfl;trivial;rfl;rfl;exact lt_dec rfl;exact le_dec rfl)|(apply VVal.convI;rfl;rfl;rfl;rfl;omega)|(apply VWp.condSeq_dec;rfl)|(apply VWp.cond_dec;rfl)|(intro _;try (exfalso;omega)))
     all_goals try (exfalso;omega)
     refine QLoop.normal ⟨by first|omega|decide,?_,?_⟩
     ·try (first|rw [e1]|rw [e3])
      repeat (first|exact LCov.nil|refine LCov.same (by exact PV.under_of rfl) rfl ?_|refine LCov.cons trivial rfl (.of_eq (lst_len (by simp<;>omega))) ?_)
     ·first|rw [e1]|rw [e3]
      repeat (first|exact HCov.nil|(refine HCov.cons (lt_dec rfl) ?_ rfl ?_ ?_;(first|exact HB.under_of rfl|exact PVs.under_pure _ _|(simp [HB.under,PVs.under,PV.under]));(first|exact HLe.refl _|exact HLe.vec (FLes.refl _) (by simp))))
   ·have hl3:=stgK_len o x.bars.length x.sets x.sets.length
    have hsl':(snocK (bM x.bars) (x.bars.length+1)).length=x.bars.length+1:=hsl
    repeat' (first|(refine VWp.at 27 ?_;refine VWp.ghost (Ghost.trans (Ghost.freezeCell 5 0 rfl rfl rfl) (Ghost.trans (Ghost.freezeCell 5 1 rfl rfl rfl) (Ghost.freezeCell 5 2 rfl rfl rfl))) ?_;first|apply VWp.rseq|apply VWp.rseqD)|(refine VOpsD.atIdx 2 ?_;apply VOpsD.weak [.tmp 5];decide +kernel;rfl;rfl;(first|exact VOwn.ref rfl|exact VOwn.vec rfl|exact VOwn.eref rfl);decide +kernel;rfl)|apply VWp.rseq|apply VWp.exitSeq|apply QSeq.normal|apply QBlk.exit|apply QLoop.exit|apply VWp.ret|apply VOps.nil|apply VOpsD.nil|apply VOps.one|(apply VOpsD.bar;decide +kernel)|apply VOpsD.quiet|(apply VVal.int;rfl;rfl;rfl)|(apply VVal.load;rfl;rfl)|(apply VVal.storeB;rfl;rfl;rfl;trivial;rfl;rfl;exact lt_dec rfl;exact le_dec rfl)|(apply VWp.condSeq_dec;rfl)|(intro _;try (exfalso;omega)))
    all_goals first|(exfalso;omega)|(refine Done.ret rfl (.refl _) (by exact PV.under_of rfl) HCov.nil (Nat.zero_le _) (Nat.le_refl _) ⟨?_,rfl,rfl⟩;try rfl)
end Go.Proofs.YtnhdddmhkhdlhaaGreatDoor
namespace Go.Proofs.YtnhdddmhkhdlhaaGreatDoor
open Go Go.Am Go.Vm
theorem and_mask (x n:Nat):(x &&& (2 ^ n-1)) / 2 ^ n=0:=by
 have h1:x &&& (2 ^ n-1)≤2 ^ n-1:=Nat.and_le_right
 have h2:0<2 ^ n:=Nat.two_pow_pos n
 exact Nat.div_eq_of_lt (by omega)
theorem drawnR_ok (o:Org) (ho:OrgT o) (b:Nat→Nat) (hb:∀ i,b i<256):(drawnR o b).Ok:=by
 have r2:=ho.divs
 have l:=snocK_len (drwnF o b) o.divs.length
 refine ⟨fun i hi=>?_,?_,?_,?_⟩
 ·have hi:i<(snocK (drwnF o b) o.divs.length).length:=hi
  rw [l] at hi
  show gi (snocK (drwnF o b) o.divs.length) i<_
  rw [snocK_gi _ hi]
  have:=hb (i % 3)
  have:drwnF o b i≤b (i % 3):=Nat.and_le_left
  omega
 ·have:=hb 3
  have:b 3 &&& (2 ^ o.cpls.length-1)≤b 3:=Nat.and_le_left
  show b 3 &&& (2 ^ o.cpls.length-1)<_
  omega
 ·have:=hb 4
  have:b 4 &&& (2 ^ o.divs.length-1)≤b 4:=Nat.and_le_left
  show b 4 &&& (2 ^ o.divs.length-1)<_
  omega
 ·show (snocK (drwnF o b) o.divs.length).length<_
  omega
theorem drawnR_reg (o:Org) (b:Nat→Nat):regE o (drawnR o b)=0:=by
 have l:=snocK_len (drwnF o b) o.divs.length
 rw [regE_rest (show (snocK (drwnF o b) o.divs.length).length=_ from l) fun i hi=>?_]
 ·rw [if_neg]
  intro h
  rcases h with h|h
  ·exact h (and_mask _ _)
  ·exact h (and_mask _ _)
 ·have hi:i<(snocK (drwnF o b) o.divs.length).length:=hi
  rw [l] at hi
  show gi (snocK (drwnF o b) o.divs.length) i / _=0
  rw [snocK_gi _ hi]
  exact and_mask _ _
theorem drawnR_none (o:Org):drawnR o (fun _=>0)=noneR o:=by
 unfold drawnR noneR
 congr 1
 ·refine list_gi (by rw [snocK_len,List.length_replicate]) fun i hi=>?_
  rw [snocK_len] at hi
  rw [snocK_gi _ hi,gi_replicate hi]
  exact Nat.zero_and _
 ·exact Nat.zero_and _
 ·exact Nat.zero_and _
end Go.Proofs.YtnhdddmhkhdlhaaGreatDoor
namespace Go.Proofs.YtnhdddmhkhdlhaaGreatDoor
open Go Go.Am Go.Vm Go.Pie
attribute [local irreducible] rchk windsE stoE dvsE cplE shiftR tailH
structure NtR (o:Org) (z:Int) (n:Nte):Prop where
 d:0≤n.d∧n.d<o.divs.length
 k:(gi o.divs n.d.toNat).lo≤n.k∧n.k≤(gi o.divs n.d.toNat).hi
 r:0≤n.s∧n.s<n.e∧n.e≤z
theorem ntP_r {o:Org} (ho:OrgT o) {z:Int} (hz:0<z) (y:Sd8):NtR o z (ntP o z y):=by
 have hd:=ho.divs
 have e1:=Int.emod_nonneg (y.dv:Int) (show (o.divs.length:Int)≠0 by omega)
 have e2:=Int.emod_lt_of_pos (y.dv:Int) (show 0<(o.divs.length:Int) by omega)
 have e3:=Int.emod_nonneg (y.st:Int) (show z≠0 by omega)
 have e4:=Int.emod_lt_of_pos (y.st:Int) hz
 have hv:=ho.dv ((y.dv:Int) % (o.divs.length:Int)).toNat (by omega)
 refine ⟨⟨e1,e2⟩,?_,?_⟩
 ·show (gi o.divs ((y.dv:Int) % (o.divs.length:Int)).toNat).lo≤(gi o.divs ((y.dv:Int) % (o.divs.length:Int)).toNat).lo+(y.ky:Int) % ((gi o.divs ((y.dv:Int) % (o.divs.length:Int)).toNat).hi-(gi o.divs ((y.dv:Int) % (o.divs.length:Int)).toNat).lo+1)∧(gi o.divs ((y.dv:Int) % (o.divs.length:Int)).toNat).lo+(y.ky:Int) % ((gi o.divs ((y.dv:Int) % (o.divs.length:Int)).toNat).hi-(gi o.divs ((y.dv:Int) % (o.divs.length:Int)).toNat).lo+1)≤(gi o.divs ((y.dv:Int) % (o.divs.length:Int)).toNat).hi
  generalize gi o.divs ((y.dv:Int) % (o.divs.length:Int)).toNat=D at *
  have e5:=Int.emod_nonneg (y.ky:Int) (show D.hi-D.lo+1≠0 by omega)
  have e6:=Int.emod_lt_of_pos (y.ky:Int) (show 0<D.hi-D.lo+1 by omega)
  omega
 ·show 0≤(y.st:Int) % z∧(y.st:Int) % z<min z ((y.st:Int) % z+1+(y.lg:Int) % 8)∧min z ((y.st:Int) % z+1+(y.lg:Int) % 8)≤z
  omega
theorem ntsK_r {o:Org} (ho:OrgT o) {z:Int} (hz:0<z) (l:List Sd8):∀ k,∀ i,i<(ntsK o z l k).length→NtR o z (gi (ntsK o z l k) i)∧∀ j,j<i→ovl (gi (ntsK o z l k) j) (gi (ntsK o z l k) i)=false
 |0,i,hi=>by simp [ntsK] at hi
 |k+1,i,hi=>by
  have ih:=ntsK_r ho hz l k
  unfold ntsK at hi ⊢
  split at hi
  ·rename_i h1
   rw [if_pos h1]
   exact ih i hi
  ·rename_i h1
   rw [if_neg h1]
   rw [List.length_append] at hi
   have hi':i<(ntsK o z l k).length+1:=hi
   by_cases e:i<(ntsK o z l k).length
   ·obtain ⟨q1,q2⟩:=ih i e
    rw [gi_snoc,if_pos e]
    refine ⟨q1,fun j hj=>?_⟩
    rw [gi_snoc,if_pos (by omega)]
    exact q2 j hj
   ·obtain rfl:i=(ntsK o z l k).length:=by omega
    rw [gi_snoc,if_neg (by omega),if_pos rfl]
    refine ⟨ntP_r ho hz _,fun j hj=>?_⟩
    rw [gi_snoc,if_pos hj]
    have h2:=(any_take (l:=ntsK o z l k) (f:=fun m=>ovl m (ntP o z (gi l k))) (i:=(ntsK o z l k).length) (Nat.le_refl _)).1 (by rw [List.take_length];simpa using h1)
    exact h2 j hj
theorem lasK_rng {nb:Nat} (h:0<nb) (l:List Mrk):∀ k,-1≤lasK nb l k∧lasK nb l k<nb
 |0=>by simp only [lasK];omega
 |k+1=>by
  have:=lasK_rng h l k
  have e1:=Int.emod_nonneg ((gi l k).bar:Int) (show (nb:Int)≠0 by omega)
  have e2:=Int.emod_lt_of_pos ((gi l k).bar:Int) (show 0<(nb:Int) by omega)
  unfold lasK
  split<;>omega
theorem stgK_r (o:Org) {nb:Nat} (h:0<nb) (l:List Mrk):∀ k,k≤l.length→∀ i,i<(stgK o nb l k).length→(0≤(gi (stgK o nb l k) i).bar∧(gi (stgK o nb l k) i).bar≤lasK nb l k) ∧
 (0<i→(gi (stgK o nb l k) (i-1)).bar<(gi (stgK o nb l k) i).bar)∧∃ m,m<l.length∧(gi (stgK o nb l k) i).reg=drawnR o (gi l m).b
 |0,_,i,hi=>by simp [stgK] at hi
 |k+1,hk,i,hi=>by
  have ih:=stgK_r o h l k (by omega)
  have e1:=Int.emod_nonneg ((gi l k).bar:Int) (show (nb:Int)≠0 by omega)
  have q1:stgK o nb l (k+1)=if ((gi l k).bar:Int) % (nb:Int)>lasK nb l k then stgK o nb l k++[⟨((gi l k).bar:Int) % (nb:Int),drawnR o (gi l k).b⟩] else stgK o nb l k:=rfl
  have q2:lasK nb l (k+1)=if ((gi l k).bar:Int) % (nb:Int)>lasK nb l k then ((gi l k).bar:Int) % (nb:Int) else lasK nb l k:=rfl
  rw [q1] at hi
  rw [q1,q2]
  clear q1 q2
  by_cases h1:((gi l k).bar:Int) % (nb:Int)>lasK nb l k
  ·rw [if_pos h1] at hi
   rw [if_pos h1,if_pos h1]
   rw [List.length_append] at hi
   have hi':i<(stgK o nb l k).length+1:=hi
   by_cases e:i<(stgK o nb l k).length
   ·obtain ⟨q1,q2,q3⟩:=ih i e
    rw [gi_snoc,if_pos e]
    refine ⟨by omega,fun h0=>?_,q3⟩
    rw [gi_snoc,if_pos (by omega)]
    exact q2 h0
   ·obtain rfl:i=(stgK o nb l k).length:=by omega
    rw [gi_snoc,if_neg (by omega),if_pos rfl]
    refine ⟨⟨e1,Int.le_refl _⟩,fun h0=>?_,k,by omega,rfl⟩
    rw [gi_snoc,if_pos (by omega)]
    have:=(ih ((stgK o nb l k).length-1) (by omega)).1
    show _<((gi l k).bar:Int) % (nb:Int)
    omega
  ·rw [if_neg h1] at hi
   rw [if_neg h1,if_neg h1]
   exact ih i hi
theorem mkP_bars (x:PPl) {i:Nat} (h:i≤x.bars.length):gi (mkP x).bars i=bM x.bars i:=snocK_gi _ (by omega)
theorem mkP_blen (x:PPl):(mkP x).bars.length=x.bars.length+1:=snocK_len _ _
theorem mkP_fst (x:PPl):fstB (mkP x)=0:=mkP_bars x (Nat.zero_le _)
theorem mkP_end (x:PPl):endB (mkP x)=bM x.bars x.bars.length:=by
 unfold endB
 rw [mkP_blen]
 exact mkP_bars x (by omega)
theorem bM_succ (l:List UInt8) (i:Nat):bM l i<bM l (i+1):=by
 have:=Int.emod_nonneg ((gi l i).toNat:Int) (show (6:Int)≠0 by decide)
 show _<bM l i+1+((gi l i).toNat:Int) % 6
 omega
theorem mkP_k (x:PPl) (hx:x.Ok) (hf:pfits x):PceK (mkO x.org) (mkP x):=by
 have ho:=mkO_t x.org hx.org hf.1
 obtain ⟨_,⟨f1,f2⟩,f3,f4⟩:=hf
 have hz:0<bM x.bars x.bars.length:=by have:=(bM_rng x.bars x.bars.length).1;omega
 have hN:=ntsK_r ho hz x.notes x.notes.length
 have lN:=ntsK_len (mkO x.org) (bM x.bars x.bars.length) x.notes x.notes.length
 have hS:=stgK_r (mkO x.org) f1 x.sets x.sets.length (Nat.le_refl _)
 have lS:=stgK_len (mkO x.org) x.bars.length x.sets x.sets.length
 have hl:=lasK_rng f1 x.sets x.sets.length
 have eN:(mkP x).notes=ntsK (mkO x.org) (bM x.bars x.bars.length) x.notes x.notes.length:=rfl
 have eS:(mkP x).sets=stgK (mkO x.org) x.bars.length x.sets x.sets.length:=rfl
 have eL:=mkP_blen x
 refine pceK_of ⟨by omega,by rw [eN];omega,by rw [eS];omega,fun i hi=>?_⟩ (by omega) (fun i hi=>?_) (by rw [eN];omega) (fun i hi=>?_) (by rw [eS];omega) fun i hi=>?_
 ·rw [eS] at hi ⊢
  obtain ⟨_,_,m,hm,e⟩:=hS i hi
  rw [e]
  exact drawnR_ok _ ho _ (hx.sets m hm).2
 ·rw [mkP_bars x (by omega)]
  have:=bM_rng x.bars i
  refine ⟨by omega,fun h0=>?_⟩
  rw [mkP_bars x (by omega)]
  have:=bM_succ x.bars (i-1)
  rwa [show i-1+1=i by omega] at this
 ·obtain ⟨⟨q1,q2,q3⟩,q4⟩:=hN i (by rw [← eN];exact hi)
  exact ⟨q1,q2,by rw [mkP_fst,mkP_end];exact q3,q4⟩
 ·rw [eS] at hi ⊢
  obtain ⟨q1,q2,m,_,e⟩:=hS i hi
  refine ⟨by omega,q2,?_⟩
  rw [e]
  exact drawnR_reg _ _
theorem mkP_err (x:PPl) (hx:x.Ok) (hf:pfits x):pceE (mkO x.org) (mkP x)=0:=by
 unfold pceE
 rw [if_neg (fun h=>h (mkO_t x.org hx.org hf.1).ok)]
 exact (mkP_k x hx hf).err
end Go.Proofs.YtnhdddmhkhdlhaaGreatDoor
namespace Go.Proofs.YtnhdddmhkhdlhaaGreatDoor
open Go Go.Am Go.Vm Go.Pie
attribute [local irreducible] VVal VOps VOpsD VWp VCalls VFun VFunV QSeq QBlk QLoop Vm.Done DoneV DoneI
attribute [local irreducible] rchk windsE stoE dvsE cplE shiftR tailH
theorem fstB_def (p:Pce):fstB p=gi p.bars (nat_lit 0):=rfl
theorem endB_def (p:Pce):endB p=gi p.bars (p.bars.length-1):=rfl
theorem outside_spec (p:Pce) (h0:0<p.bars.length) (h1:p.bars.length<1000000) (t:Int):VFun env 36 [.agg (Enc.enc p),.int .i64 t] (.p (.bool (decide (t<fstB p∨t≥endB p)))):=by
 have hn:(p.bars.length:Int)-1=((p.bars.length-1:Nat):Int):=by omega
 have e1:=fstB_def p
 have e2:=endB_def p
 refine VFun.enter (env_none (by decide)) Tryz.func36 rfl (by kernel_rfl) (by simp [Tryz.ntmps36]) ?_
 repeat' (first|apply VWp.rseq|apply VWp.ret|apply VOps.nil|apply VOps.one|(apply VOps.take;rfl;rfl)|(apply VOps.drop;rfl;rfl;rfl)|(apply VOps.guard;rfl;rfl)|(apply VVal.indexN (l:=p.bars) (i:=p.bars.length-1);rfl;exact congrArg (fun b=>some (PV.p (.int .i64 b))) hn;rfl;omega;rfl)|(apply VVal.assign;rfl)|(apply VVal.move;rfl)|(apply VVal.sub64;rfl;rfl;omega)|(apply VVal.int;rfl;rfl;rfl)|(apply VVal.indexN;rfl;rfl;rfl;omega;rfl)|(apply VVal.load;rfl;rfl)|(apply VVal.pick_true;rfl;rfl)|(apply VVal.pick_false;rfl;rfl)|(apply VVal.lenF;rfl;rfl)|(apply VVal.fieldB;rfl;rfl;rfl)|(apply VVal.box;rfl;trivial)|(intro _;try (exfalso;omega)))
 all_goals try (exfalso;omega)
 all_goals refine Done.ret rfl (.refl _) (by exact PV.under_of rfl) HCov.nil (Nat.zero_le _) (Nat.le_refl _) ⟨?_,rfl,rfl⟩
 all_goals first|(refine PV.bool_eq ?_;symm;apply decide_eq_true;exact .inl (by assumption))|(refine PV.bool_eq ?_;exact decide_eq_decide.2 ⟨.inr,fun h=>h.resolve_left (by assumption)⟩)
def lwR (r:Rgs) (p:Pce) (t:Int):Nat→Rgs
 |0=>r
 |k+1=>if gi p.bars (gi p.sets k).bar.toNat≤t then (gi p.sets k).reg else lwR r p t k
theorem lwR_wan (r:Rgs) (p:Pce) (t:Int):∀ k,lwR r p t k=if wanK p t k<0 then r else (gi p.sets (wanK p t k).toNat).reg
 |0=>by rw [if_pos (by simp [wanK])];rfl
 |k+1=>by
  unfold lwR wanK
  split
  ·rw [if_neg (by omega)];rfl
  ·exact lwR_wan r p t k
theorem lWanted_spec {o:Org} {p:Pce} (ho:OrgT o) (h:PceK o p) (t:Int):VFun env 24 [.agg (Enc.enc o),.agg (Enc.enc p),.int .i64 t] (.tup [.p (.agg (Enc.enc (wanR o p t))),.p (.int .i64 (wan p t))]):=by
 have b1:=h.sets
 have b2:=h.bars
 have hd:=drawn_spec o ho (fun _=>0) (fun _=>by omega)
 rw [drawnR_none] at hd
 have hw:wanR o p t=lwR (noneR o) p t p.sets.length:=(lwR_wan _ _ _ _).symm
 rw [hw]
 generalize noneR o=R at *
 refine VFun.enter (env_none (by decide)) Tryz.func24 rfl (by kernel_rfl) (by simp [Tryz.ntmps24]) ?_
 repeat' (first|apply VWp.assoc|apply VWp.rseq|apply VWp.blockSeq|apply VOps.nil|apply VOps.one|(apply VVal.fn;rfl;rfl;exact hd;intro _;rfl)|(apply VVal.buildA;rfl;rfl;rfl;rfl;rfl)|(apply VVal.assign;rfl)|(apply VVal.move;rfl)|(apply VVal.load;rfl;rfl)|(apply VVal.lenF;rfl;rfl)|(apply VVal.fieldB;rfl;rfl;rfl)|(apply VVal.box;rfl;trivial)|(apply VVal.alloc;rfl)|(apply VVal.storeB;rfl;rfl;rfl;trivial;rfl;rfl;exact lt_dec rfl;exact le_dec rfl))
 all_goals try (exfalso;omega)
 apply VWp.loopR (p.sets.length) [(1,_),(2,_),(3,_),(4,_),(6,_),(8,_),(16,_),(17,_)] [(0,_),(1,_),(2,_)] (fun k r=>(18,.p (.int .i64 (k:Int)))::(9,.p (.int .i64 (wanK p t k)))::r) (fun k r=>(3,.box 70 ((Enc.enc (lwR R p t k)).map .p))::r) 4
 ·first|omega|decide
 ·first|omega|decide
 ·repeat (first|exact LCov.nil|(refine LCov.eq rfl ?_ ?_;(first|exact PV.under_of rfl|(simp [PV.under,PVs.under];done)))|refine LCov.cons trivial rfl (.of_eq (lst_len (by simp<;>omega))) ?_)
 ·repeat (first|exact HCov.nil|(refine HCov.eq rfl (lt_dec rfl) ?_ ?_;(first|exact HB.under_of rfl|exact PVs.under_pure _ _|(simp [HB.under,PVs.under,PV.under];done)))|(refine HCov.cons (lt_dec rfl) ?_ rfl ?_ ?_;(first|exact trivial|exact PVs.under_pure _ _|(simp [HB.under,PVs.under,PV.under]));(first|exact HLe.refl _|exact HLe.vec (FLes.refl _) (by simp))))
 ·intro k hk
  obtain ⟨g1,g2,g3⟩:=h.set k hk
  have hb:(gi p.sets k).bar=((gi p.sets k).bar.toNat:Int):=by omega
  have e1:wanK p t (k+1)=if gi p.bars (gi p.sets k).bar.toNat≤t then (k:Int) else wanK p t k:=rfl
  have e2:lwR R p t (k+1)=if gi p.bars (gi p.sets k).bar.toNat≤t then (gi p.sets k).reg else lwR R p t k:=rfl
  by_cases h1:gi p.bars (gi p.sets k).bar.toNat≤t
  all_goals first|rw [if_pos h1] at e1 e2|rw [if_neg h1] at e1 e2
  all_goals
   repeat' (first|apply VWp.rseq|apply VWp.region|apply VWp.skipSeq|apply VWp.blockSeq|apply QSeq.normal|apply QBlk.normal|apply VWp.skip|apply VOps.nil|apply VOps.one|(apply VVal.indexN (l:=p.bars) (i:=(gi p.sets k).bar.toNat);rfl;exact congrArg (fun b=>some (PV.p (.int .i64 b))) hb;rfl;omega;rfl)|(apply VVal.assign;rfl)|(apply VVal.move;rfl)|(apply VVal.add64;rfl;rfl;omega)|(apply VVal.int;rfl;rfl;rfl)|(apply VVal.indexN;rfl;rfl;rfl;omega;rfl)|(apply VVal.load;rfl;rfl)|(apply VVal.fieldB;rfl;rfl;rfl)|(apply VVal.alloc;rfl)|(apply VVal.storeB;rfl;rfl;rfl;trivial;rfl;rfl;exact lt_dec rfl;exact le_dec rfl)|(apply VWp.condSeq_dec;rfl)|(apply VWp.cond_dec;rfl)|(intro _;try (exfalso;omega)))
  all_goals try (exfalso;omega)
  all_goals
   refine QLoop.normal ⟨by first|omega|decide,?_,?_⟩
   ·try (first|rw [e1]|rw [e2]|skip)
    repeat (first|exact LCov.nil|refine LCov.same (by exact PV.under_of rfl) rfl ?_|refine LCov.cons trivial rfl (.of_eq (lst_len (by simp<;>omega))) ?_)
   ·first|rw [e1]|rw [e2]|skip
    repeat (first|exact HCov.nil|(refine HCov.cons (lt_dec rfl) ?_ rfl ?_ ?_;(first|exact HB.under_of rfl|exact PVs.under_pure _ _|(simp [HB.under,PVs.under,PV.under]));(first|exact HLe.refl _|exact HLe.vec (FLes.refl _) (by simp))))
 ·repeat' (first|apply VWp.rseq|apply VWp.exitSeq|apply QSeq.normal|apply QBlk.exit|apply QLoop.exit|apply VWp.ret|apply VOps.nil|apply VOps.one|(apply VVal.assign;rfl)|(apply VVal.move;rfl)|(apply VVal.int;rfl;rfl;rfl)|(apply VVal.load;rfl;rfl)|(apply VVal.storeB;rfl;rfl;rfl;trivial;rfl;rfl;exact lt_dec rfl;exact le_dec rfl)|(apply VWp.condSeq_dec;rfl)|(intro _;try (exfalso;omega)))
  all_goals first|(exfalso;omega)|(refine Done.ret rfl (.refl _) (by exact PV.under_of rfl) HCov.nil (Nat.zero_le _) (Nat.le_refl _) ⟨?_,rfl,rfl⟩;try rfl)
end Go.Proofs.YtnhdddmhkhdlhaaGreatDoor
namespace Go.Proofs.YtnhdddmhkhdlhaaGreatDoor
open Go Go.Am Go.Vm
attribute [local irreducible] VVal VOps VOpsD VWp VCalls VFun VFunV QSeq QBlk QLoop Vm.Done DoneV DoneI
structure Nts where
 lo:Nat
 hi:Nat
instance:Enc Nts:={ default:=⟨0,0⟩,enc:=fun x=>[.int .u64 (x.lo:Int),.int .u64 (x.hi:Int)],size:=2,len:=fun _=>rfl }
structure Nts.Ok (s:Nts):Prop where
 lo:s.lo<2 ^ 64
 hi:s.hi<2 ^ 64
def Nts.has (s:Nts) (n:Nat):Bool:=if n<64 then s.lo.testBit n else s.hi.testBit (n-64)
def withN (s:Nts) (n:Nat):Nts:=if n<64 then ⟨s.lo ||| 2 ^ n,s.hi⟩ else ⟨s.lo,s.hi ||| 2 ^ (n-64)⟩
def uniN (a b:Nts):Nts:=⟨a.lo ||| b.lo,a.hi ||| b.hi⟩
def witN (a b:Nts):Bool:=decide (a.lo ^^^ (a.lo &&& b.lo)=0)&&decide (a.hi ^^^ (a.hi &&& b.hi)=0)
def ofK (l:List Int):Nat→Nts
 |0=>⟨0,0⟩
 |k+1=>withN (ofK l k) (gi l k).toNat
def rngK (a:Nat):Nat→Nts
 |0=>⟨0,0⟩
 |k+1=>withN (rngK a k) (a+k)
theorem withN_ok {s:Nts} (h:s.Ok) {n:Nat} (hn:n<128):(withN s n).Ok:=by
 unfold withN
 split
 ·exact ⟨Nat.or_lt_two_pow h.lo (Nat.pow_lt_pow_right (by omega) (by omega)),h.hi⟩
 ·exact ⟨h.lo,Nat.or_lt_two_pow h.hi (Nat.pow_lt_pow_right (by omega) (by omega))⟩
theorem zeroN_ok:(⟨0,0⟩:Nts).Ok:=⟨by simp,by simp⟩
theorem ofK_ok {l:List Int} (h:∀ i,i<l.length→0≤gi l i∧gi l i≤127):∀ k,k≤l.length→(ofK l k).Ok
 |0,_=>zeroN_ok
 |k+1,hk=>withN_ok (ofK_ok h k (by omega)) (by have:=h k (by omega);omega)
section
variable {E:Env} {L:Vm.Frame} {H:Vm.Heap} {nx:Nat} {Q:PV→Heap→Nat→Prop} {w:Bool} {dst:Option Tmp} {ty:TypeId} {pos:String} {af:Array Edge} {gd:Option (Nat×Bool)}
theorem shl1 {t t2:TypeId} {x y:Operand} {k':IntKind} {n:Int} (m:Nat) (hx:vev E.Γ L x=some (.p (.int .u64 1))) (hy:vev E.Γ L y=some (.p (.int k' n))) (hn:n=m∧m<64) (q:Q (.p (.int .u64 ((2 ^ m:Nat):Int))) H nx) :
 VVal E w ⟨dst,.binOp .shl t x y t2,ty,pos,af,gd⟩ L H nx Q:=by
 obtain ⟨rfl,hn⟩:=hn
 exact VVal.shlOneU hx hy hn q
end
theorem isNote_spec (n:Int):VFun env 89 [.int .i64 n] (.p (.bool (decide (0≤n∧n≤127)))):=by
 refine VFun.enter (env_none (by decide)) Tryz.func89 rfl (by kernel_rfl) (by simp [Tryz.ntmps89]) ?_
 repeat' (first|apply VWp.rseq|apply VWp.ret|apply VOps.nil|apply VOps.one|(apply VOps.take;rfl;rfl)|(apply VOps.drop;rfl;rfl;rfl)|(apply VOps.guard;rfl;rfl)|(apply VVal.assign;rfl)|(apply VVal.move;rfl)|(apply VVal.int;rfl;rfl;rfl)|(apply VVal.pick_true;rfl;rfl)|(apply VVal.pick_false;rfl;rfl)|(intro _;try (exfalso;omega)))
 all_goals (refine Done.ret rfl (.refl _) (by exact PV.under_of rfl) HCov.nil (Nat.zero_le _) (Nat.le_refl _) ⟨?_,rfl,rfl⟩;refine PV.bool_eq ?_;simp;try omega)
theorem freeNts:eqFree Tryz.prog 93=true:=by kernel_rfl
theorem eqNts (a b c d:Nat):Vm.eqSt Tryz.prog 93 [.int .u64 (a:Int),.int .u64 (b:Int)] [.int .u64 (c:Int),.int .u64 (d:Int)]=some (decide (a=c)&&decide (b=d)):=by
 show some (decide ((a:Int)=c)&&(decide ((b:Int)=d)&&true))=_
 rw [Bool.and_true]
 congr 2
 ·by_cases h:a=c
  ·subst h;simp
  ·rw [decide_eq_false h,decide_eq_false (by omega)]
 ·by_cases h:b=d
  ·subst h;simp
  ·rw [decide_eq_false h,decide_eq_false (by omega)]
theorem with3_spec (s:Nts) (hs:s.Ok) (n:Nat) (hn:n<128):VFun env 90 [.agg (Enc.enc s),.int .i64 (n:Int)] (.p (.agg (Enc.enc (withN s n)))):=by
 have s1:=hs.lo
 have s2:=hs.hi
 unfold withN
 by_cases h:n<64
 ·have p1:2 ^ n<2 ^ 64:=Nat.pow_lt_pow_right (by omega) h
  rw [if_pos h]
  refine VFun.enter (env_none (by decide)) Tryz.func90 rfl (by kernel_rfl) (by simp [Tryz.ntmps90]) ?_
  repeat' (first|apply VWp.assoc|apply VWp.rseq|apply VWp.rseqD|apply VWp.ret|apply VOps.nil|apply VOpsD.nil|apply VOps.one|(apply VOpsD.bar;decide +kernel)|apply VOpsD.quiet|(apply shl1 n;rfl;rfl;omega)|(apply VVal.move;rfl)|(apply VVal.orU;rfl;rfl;omega;omega)|(apply VVal.int;rfl;rfl;rfl)|(apply VVal.load;rfl;rfl)|(apply VVal.fieldB;rfl;rfl;rfl)|(apply VVal.box;rfl;trivial)|(apply VVal.alloc;rfl)|(apply VVal.storeB;rfl;rfl;rfl;trivial;rfl;rfl;exact lt_dec rfl;exact le_dec rfl)|(apply VWp.condSeq_dec;rfl)|(intro _;try (exfalso;omega)))
  all_goals first|(exfalso;omega)|(refine Done.ret rfl (.refl _) (by exact PV.under_of rfl) HCov.nil (Nat.zero_le _) (Nat.le_refl _) ⟨?_,rfl,rfl⟩;try rfl)
 ·have p1:2 ^ (n-64)<2 ^ 64:=Nat.pow_lt_pow_right (by omega) (by omega)
  rw [if_neg h]
  refine VFun.enter (env_none (by decide)) Tryz.func90 rfl (by kernel_rfl) (by simp [Tryz.ntmps90]) ?_
  repeat' (first|apply VWp.assoc|apply VWp.rseq|apply VWp.rseqD|apply VWp.ret|apply VOps.nil|apply VOpsD.nil|apply VOps.one|(apply VOpsD.bar;decide +kernel)|apply VOpsD.quiet|(apply shl1 (n-64);rfl;rfl;omega)|(apply VVal.move;rfl)|(apply VVal.sub64;rfl;rfl;omega)|(apply VVal.orU;rfl;rfl;omega;omega)|(apply VVal.int;rfl;rfl;rfl)|(apply VVal.load;rfl;rfl)|(apply VVal.fieldB;rfl;rfl;rfl)|(apply VVal.box;rfl;trivial)|(apply VVal.alloc;rfl)|(apply VVal.storeB;rfl;rfl;rfl;trivial;rfl;rfl;exact lt_dec rfl;exact le_dec rfl)|(apply VWp.condSeq_dec;rfl)|(intro _;try (exfalso;omega)))
  all_goals first|(exfalso;omega)|(refine Done.ret rfl (.refl _) (by exact PV.under_of rfl) HCov.nil (Nat.zero_le _) (Nat.le_refl _) ⟨?_,rfl,rfl⟩;try rfl)
theorem ofN_spec (l:List Int) (hl:l.length<1000000) (h:∀ i,i<l.length→0≤gi l i∧gi l i≤127):VFun env 69 [.lst 3 (cells l) l.length] (.tup [.p (.agg (Enc.enc (ofK l l.length))),.p (.int .i64 0)]):=by
 refine VFun.enter (env_none (by decide)) Tryz.func69 rfl (by kernel_rfl) (by simp [Tryz.ntmps69]) ?_
 repeat' (first|apply VWp.assoc|apply VWp.rseq|apply VWp.blockSeq|apply VOps.nil|apply VOps.one|(apply VVal.assign;rfl)|(apply VVal.move;rfl)|(apply VVal.lenF;rfl;rfl)|(apply VVal.alloc;rfl))
 apply VWp.loopR (l.length) [(2,_),(4,_),(7,_),(8,_)] [(0,_)] (fun k r=>(9,.p (.int .i64 (k:Int)))::r) (fun k r=>(1,.box 93 ((Enc.enc (ofK l k)).map .p))::r) 2
 ·first|omega|decide
 ·first|omega|decide
 ·repeat (first|exact LCov.nil|(refine LCov.eq rfl ?_ ?_;(first|exact PV.under_of rfl|(simp [PV.under,PVs.under];done)))|refine LCov.cons trivial rfl (.of_eq (lst_len (by simp<;>omega))) ?_)
 ·repeat (first|exact HCov.nil|(refine HCov.eq rfl (lt_dec rfl) ?_ ?_;(first|exact HB.under_of rfl|exact PVs.under_pure _ _|(simp [HB.under,PVs.under,PV.under];done)))|(refine HCov.cons (lt_dec rfl) ?_ rfl ?_ ?_;(first|exact trivial|exact PVs.under_pure _ _|(simp [HB.under,PVs.under,PV.under]));(first|exact HLe.refl _|exact HLe.vec (FLes.refl _) (by simp))))
 ·intro k hk
  have h0:=h k hk
  have h1:=isNote_spec (gi l k)
  rw [decide_eq_true h0] at h1
  have h2:=with3_spec (ofK l k) (ofK_ok h k (by omega)) (gi l k).toNat (by omega)
  rw [Int.toNat_of_nonneg h0.1] at h2
  repeat' (first|apply VWp.assoc|apply VWp.rseq|apply VWp.region|apply VWp.skipSeq|apply VWp.blockSeq|apply QSeq.normal|apply QBlk.normal|apply VOps.nil|apply VOps.one|(apply VVal.fn;rfl;rfl;exact h1;intro _;rfl)|(apply VVal.fn;rfl;rfl;exact h2;intro _;rfl)|(apply VVal.assign;rfl)|(apply VVal.move;rfl)|(apply VVal.add64;rfl;rfl;omega)|(apply VVal.int;rfl;rfl;rfl)|(apply VVal.indexN;rfl;rfl;rfl;omega;rfl)|(apply VVal.load;rfl;rfl)|(apply VVal.storeB;rfl;rfl;rfl;trivial;rfl;rfl;exact lt_dec rfl;exact le_dec rfl)|(apply VVal.not;rfl)|(apply VWp.condSeq_false;rfl)|(apply VWp.condSeq_dec;rfl)|(intro _;try (exfalso;omega)))
  all_goals try (exfalso;omega)
  refine QLoop.normal ⟨by first|omega|decide,?_,?_⟩
  ·repeat (first|exact LCov.nil|refine LCov.same (by exact PV.under_of rfl) rfl ?_|refine LCov.cons trivial rfl (.of_eq (lst_len (by simp<;>omega))) ?_)
  ·repeat (first|exact HCov.nil|(refine HCov.cons (lt_dec rfl) ?_ rfl ?_ ?_;(first|exact HB.under_of rfl|exact PVs.under_pure _ _|(simp [HB.under,PVs.under,PV.under]));(first|exact HLe.refl _|exact HLe.vec (FLes.refl _) (by simp))))
 ·repeat' (first|apply VWp.rseq|apply VWp.exitSeq|apply QSeq.normal|apply QBlk.exit|apply QLoop.exit|apply VWp.ret|apply VOps.nil|apply VOps.one|(apply VVal.assign;rfl)|(apply VVal.int;rfl;rfl;rfl)|(apply VVal.load;rfl;rfl)|(apply VVal.storeB;rfl;rfl;rfl;trivial;rfl;rfl;exact lt_dec rfl;exact le_dec rfl)|(apply VWp.condSeq_dec;rfl)|(intro _;try (exfalso;omega)))
  all_goals first|(exfalso;omega)|(refine Done.ret rfl (.refl _) (by exact PV.under_of rfl) HCov.nil (Nat.zero_le _) (Nat.le_refl _) ⟨?_,rfl,rfl⟩;try rfl)
end Go.Proofs.YtnhdddmhkhdlhaaGreatDoor
namespace Go.Vm
open Go.Am
structure NilS where
instance:Enc NilS:={ default:=⟨⟩,enc:=fun _=>[.val (.slice none 0 0)],size:=1,len:=fun _=>rfl }
theorem nil_cells:∀ n:Nat,(cells (List.replicate n (⟨⟩:NilS))).map PV.p=List.replicate n (.p (.val (.slice none 0 0)))
 |0=>rfl
 |n+1=>by
  rw [List.replicate_succ,List.replicate_succ,← nil_cells n]
  rfl
theorem map_range_at {α:Type} (f:Nat→α) {n i:Nat} (h:i<n):((List.range n).map f)[i]?=some (f i):=by
 rw [List.getElem?_map,List.getElem?_range h];rfl
theorem map_range_set {α:Type} (f:Nat→α) (n i:Nat) (x:α):((List.range n).map f).set i x=(List.range n).map fun j=>if j=i then x else f j:=by
 apply List.ext_getElem?
 intro j
 rw [List.getElem?_set]
 by_cases h:j<n
 ·rw [map_range_at _ h,map_range_at _ h]
  by_cases e:i=j
  ·subst e
   rw [if_pos rfl,if_pos (by simpa using h),if_pos rfl]
  ·rw [if_neg e,if_neg (Ne.symm e)]
 ·have h1:((List.range n).map fun j=>if j=i then x else f j)[j]?=none:=List.getElem?_eq_none (by simp;omega)
  have h2:((List.range n).map f)[j]?=none:=List.getElem?_eq_none (by simp;omega)
  rw [h1,h2]
  split
  ·rw [if_neg (by simp;omega)]
  ·rfl
theorem map_range_congr {α:Type} {f g:Nat→α} {n:Nat} (h:∀ j,j<n→f j=g j):(List.range n).map f=(List.range n).map g:=List.map_congr_left fun j hj=>h j (List.mem_range.1 hj)
section
variable {E:Env} {L:Frame} {H:Heap} {nx:Nat}
theorem vseps1 {Γ:Nat→Option (List Value×TypeId)} {r:Operand} {y:PV} {b c:Nat} (hv:vev Γ L r=some y) (ho:vown H y=some c) (hne:b≠c):vseps Γ L H b [r]=true:=by
 simp only [vseps,hv,vsep,ho,Bool.and_true]
 cases hd:Nat.decEq b c with
 |isTrue e=>exact absurd e hne
 |isFalse _=>rfl
theorem Ghost.freezeCells (a s n:Nat) (f:Nat→List FV) (k:Nat→Nat) {e e':TypeId} {n':Nat} {z:Bool} (ha:hget H a=some (.vecp e' ((List.range n).map fun j=>.vec (s+j) (k j) 0 (k j)) n')) (hb:∀ j,j<n→hget H (s+j)=some (.vec e (f j) (k j) z)) (hne:∀ j,j<n→s+j≠a) :
 ∃ H',hget H' a=some (.vecp e' ((List.range n).map fun j=>.p (.lst e (f j) (k j))) n')∧Ghost E L H nx L H' nx:=by
 have key:∀ r,r≤n→∃ H',hget H' a=some (.vecp e' ((List.range n).map fun j=>if j<r then .p (.lst e (f j) (k j)) else .vec (s+j) (k j) 0 (k j)) n')∧(∀ j,r≤j→j<n→hget H' (s+j)=some (.vec e (f j) (k j) z))∧Ghost E L H nx L H' nx:=by
  intro r
  induction r with
  |zero=>intro _;exact ⟨H,by simpa using ha,fun j _ hj=>hb j hj,Ghost.refl⟩
  |succ r ih =>
   intro hr
   obtain ⟨H',h1,h2,h3⟩:=ih (by omega)
   have hk:((List.range n).map fun j=>if j<r then (.p (.lst e (f j) (k j)):PV) else .vec (s+j) (k j) 0 (k j))[r]?=some (.vec (s+r) (k r) 0 (k r)):=by
    rw [map_range_at _ (by omega),if_neg (Nat.lt_irrefl _)]
   have hg:=Ghost.freezeCellV (E:=E) (L:=L) (nx:=nx) a r h1 hk (h2 r (Nat.le_refl _) (by omega))
   refine ⟨_,?_,fun j hj1 hj2=>?_,h3.trans hg⟩
   ·rw [hget_hput,if_pos rfl,hget_hdel,if_neg (hne r (by omega)),h1]
    simp only [Option.map_some]
    rw [map_range_set]
    congr 2
    refine map_range_congr fun j hj=>?_
    by_cases e1:j=r
    ·rw [if_pos e1,if_pos (by omega),e1]
    ·rw [if_neg e1]
     by_cases e2:j<r
     ·rw [if_pos e2,if_pos (by omega)]
     ·rw [if_neg e2,if_neg (by omega)]
   ·rw [hget_hput,if_neg (Ne.symm (hne j hj2)),hget_hdel,if_neg (by omega)]
    exact h2 j (by omega) hj2
 obtain ⟨H',h1,_,h3⟩:=key n (Nat.le_refl _)
 refine ⟨H',?_,h3⟩
 rw [h1]
 congr 2
 exact map_range_congr fun j hj=>by rw [if_pos hj]
variable {Q:PV→Heap→Nat→Prop} {dst:Option Tmp} {ty:TypeId} {pos:String} {af:Array Edge} {gd:Option (Nat×Bool)}
theorem VVal.append2 {α:Type} {_:Enc α} {l:List α} (a1 a2:α) {s x:Operand} {sT xT e e2:TypeId} {xd:TypeDesc} {i:TypeInfo} {b b2 n:Nat} {xs:List FV} {z z2:Bool} (hs:vev E.Γ L s=some (.vec b n 0 n)) (hb:hget H b=some (.vec e (cells l) n z))
 (hx:vev E.Γ L x=some (.vec b2 2 0 2)) (hb2:hget H b2=some (.vec e2 xs 2 z2)) (hxs:xs=Enc.enc a1++Enc.enc a2) (hn:l.length=n) (hsT:E.P.underlying sT=some (.slice e)) (hxT:E.P.underlying xT=some xd) (hd:∀ k,xd≠.int k) (hi:E.P.info? e=some i)
 (hsz:Enc.size α=i.size) (hzs:zeroSized i=true) (h0:0<i.size) (hby:i.bytes<1000000) (hlen:l.length<900000) (q:Q (.vec b (l.length+2) 0 (l.length+2)) (hput H b (.vec e (cells (l++[a1,a2])) (l.length+2) z)) nx) :
 VVal E true ⟨dst,.call { callee:=.builtin .append,args:=#[s,x],argTypes:=#[sT,xT] },ty,pos,af,gd⟩ L H nx Q:=by
 subst hn
 have hroom:(l.length+2)*(i.bytes+1)≤room:=Nat.le_trans (Nat.mul_le_mul (by omega:l.length+2≤1000000) (by omega:i.bytes+1≤1000000)) (by decide)
 refine VVal.append (i:=i) hs hb (SlC.all hx hb2 (by rw [hxs,List.length_append,Enc.len,Enc.len,← hsz];omega)) hsT hxT hd hi hzs (by omega) hroom (by rw [cells_length,hsz]) h0 ?_
 have:cells (l++[a1,a2])=cells l++xs:=by rw [cells_append,hxs];simp [cells,encs]
 rw [← this]
 exact q
end
end Go.Vm
namespace Go.Proofs.YtnhdddmhkhdlhaaGreatDoor
open Go Go.Am Go.Vm Go.Pie
attribute [local irreducible] VVal VOps VOpsD VWp VCalls VFun VFunV QSeq QBlk QLoop Vm.Done DoneV DoneI
attribute [local irreducible] rchk windsE stoE dvsE cplE shiftR tailH
instance:Enc (List Int):={ default:=[],enc:=fun l=>[.lst 3 (cells l) l.length],size:=1,len:=fun _=>rfl }
def kdK (p:Pce) (L:List Int) (d:Nat):Nat→List Int
 |0=>[]
 |k+1=>if (gi p.notes (gi L k).toNat).d=(d:Int) then kdK p L d k++[(gi p.notes (gi L k).toNat).k] else kdK p L d k
theorem kdK_len (p:Pce) (L:List Int) (d:Nat):∀ k,(kdK p L d k).length≤k
 |0=>Nat.le_refl _
 |k+1=>by
  have:=kdK_len p L d k
  unfold kdK
  split
  ·simp;omega
  ·omega
theorem snd_mem {p:Pce} {t:Int}:∀ {k:Nat} {x:Int},x∈sndK p t k→0≤x∧x<k
 |0,x,h=>by cases h
 |k+1,x,h=>by
  unfold sndK at h
  split at h
  ·rcases List.mem_append.1 h with h|h
   ·have:=snd_mem h;omega
   ·rw [List.mem_singleton] at h;omega
  ·have:=snd_mem h;omega
theorem gi_mem' {l:List Int} {i:Nat} (h:i<l.length):gi l i∈l:=by
 unfold gi;rw [List.getElem?_eq_getElem h];exact List.getElem_mem h
theorem snd_gi {p:Pce} {t:Int} {i:Nat} (h:i<(snd p t).length):0≤gi (snd p t) i∧gi (snd p t) i<p.notes.length:=snd_mem (gi_mem' h)
theorem cells_lists:∀ l:List (List Int),cells l=l.map fun a=>FV.lst 3 (cells a) a.length
 |[]=>rfl
 |a::l=>by
  rw [List.map_cons,← cells_lists l]
  rfl
theorem OrgK.cmp {o:Org} (h:OrgK o) {i:Nat} (hi:i<o.divs.length):0≤(gi o.divs i).lo∧(gi o.divs i).hi≤127:=by
 have h0:=h.err
 unfold orgE at h0
 split at h0
 ·exact absurd h0 (by decide)
 split at h0
 ·exact absurd h0 (by decide)
 split at h0
 ·rename_i h1;exact absurd h0 h1
 split at h0
 ·exact absurd h0 (by decide)
 split at h0
 ·exact absurd h0 (by decide)
 split at h0
 ·rename_i h1;exact absurd h0 h1
 rename_i d3
 have d3:divsE o.ranks o.divs 0=0:=Decidable.byContradiction d3
 have:=divsE_all _ 0 rfl d3 i (Nat.zero_le _) hi
 unfold dvsE at this
 split at this
 ·rename_i h1;exact absurd this h1
 rename_i h1
 have h1:=Decidable.byContradiction h1
 unfold cmpE at h1
 split at h1
 ·exact absurd h1 (by decide)
 omega
def tlK (p:Pce) (L:List Int) (k:Nat) (j:Nat):HB:=.vec 3 (cells (kdK p L j k)) (kdK p L j k).length true
def kdV (p:Pce) (L:List Int) (nd k:Nat):HB:=.vecp 41 ((List.range nd).map fun j=>.vec (4+j) (kdK p L j k).length 0 (kdK p L j k).length) nd
theorem kdV_under {p:Pce} {L:List Int} {nd k:Nat} (h:nd≤8):(kdV p L nd k).under 12:=by
 show PVs.under 12 _
 have:∀ l:List Nat,(∀ j∈l,j<nd)→PVs.under 12 (l.map fun j=>PV.vec (4+j) (kdK p L j k).length 0 (kdK p L j k).length):=by
  intro l
  induction l with
  |nil=>intro _;trivial
  |cons a l ih=>exact fun hl=>⟨by show 4+a<12;have:=hl a (by simp);omega,ih fun j hj=>hl j (List.mem_cons_of_mem _ hj)⟩
 exact this _ fun j hj=>List.mem_range.1 hj
theorem kdK_rng {o:Org} {p:Pce} (ho:OrgK o) (h:PceK o p) {L:List Int} (hg:∀ i,i<L.length→0≤gi L i∧gi L i<p.notes.length) {d:Nat}:∀ k,k≤L.length→∀ i,i<(kdK p L d k).length→0≤gi (kdK p L d k) i∧gi (kdK p L d k) i≤127
 |0,_,i,hi=>by cases hi
 |k+1,hk,i,hi=>by
  have ih:=kdK_rng ho h hg (d:=d) k (by omega)
  unfold kdK at hi ⊢
  split
  ·rename_i hd
   rw [if_pos hd] at hi
   have hN:=h.note (gi L k).toNat (by have:=hg k (by omega);omega)
   have hc:=ho.cmp (i:=(gi p.notes (gi L k).toNat).d.toNat) (by have:=hN.d;omega)
   have hk2:=hN.k
   rcases Nat.lt_or_ge i (kdK p L d k).length with h1|h1
   ·rw [gi_left h1];exact ih i h1
   ·obtain rfl:i=(kdK p L d k).length:=by simp at hi;omega
    rw [gi_right];omega
  ·rename_i hd
   rw [if_neg hd] at hi
   exact ih i hi
noncomputable def keysR (o:Org) (p:Pce) (t:Int):List Nts:=snocK (fun d=>ofK (kdK p (snd p t) d (snd p t).length) (kdK p (snd p t) d (snd p t).length).length) o.divs.length
theorem Keys_spec {o:Org} {p:Pce} (ho:OrgK o) (h:PceK o p) (t:Int) (he:atE o p t=0):VFun env 30 [.agg (Enc.enc o),.agg (Enc.enc p),.int .i64 t] (.tup [.p (.lst 93 (cells (keysR o p t)) (keysR o p t).length),.p (.int .i64 0)]):=by
 have ha:=pieAt_spec o p ho.sm h.sm t
 rw [he] at ha
 have hs:=pieSnd_spec p h.sm t
 have d1:=ho.divs
 have hg:=fun i=>snd_gi (p:=p) (t:=t) (i:=i)
 have hsl:(snd p t).length≤1000:=Nat.le_trans (sndK_len p t _) h.notes
 have n1:=h.notes
 unfold keysR
 generalize snd p t=L at *
 refine VFun.enter (env_none (by decide)) Tryz.func30 rfl (by kernel_rfl) (by simp [Tryz.ntmps30]) ?_
 repeat' (first|(refine VOps.atOp 32 ?_;refine VOps.ghost (Ghost.freeze 31 rfl rfl) ?_)|apply VWp.assoc|apply VWp.rseq|apply VWp.skipSeq|apply VWp.blockSeq|apply VOps.nil|apply VOps.one|(apply VVal.fn;rfl;rfl;exact ha;intro _;rfl)|(apply VVal.fv;rfl;rfl;exact hs)|(apply VVal.makeSliceL o.divs.length (⟨⟩:NilS);rfl;rfl;rfl;rfl;rfl;rfl;rfl;omega;decide;decide;rfl)|(apply VVal.assign;rfl)|(apply VVal.move;rfl)|(apply VVal.int;rfl;rfl;rfl)|(apply VVal.load;rfl;rfl)|(apply VVal.lenF;rfl;rfl)|(apply VVal.fieldB;rfl;rfl;rfl)|(apply VVal.box;rfl;trivial)|(apply VWp.condSeq_false;rfl))
 all_goals try (exfalso;omega)
 all_goals try contradiction
 refine VWp.ghost (Ghost.openVec 2 rfl (by omega)) ?_
 refine VWp.ghost (H':=[(2,.vecp 41 ((cells (List.replicate o.divs.length (⟨⟩:NilS))).map .p) o.divs.length),(1,.box 45 ((Enc.enc p).map .p)),(0,.box 40 ((Enc.enc o).map .p))]++tailH 4 8 (fun _=>.vec 3 [] 0 true)) (Ghost.freshN (H:=[(2,.vecp 41 ((cells (List.replicate o.divs.length (⟨⟩:NilS))).map .p) o.divs.length),(1,.box 45 ((Enc.enc p).map .p)),(0,.box 40 ((Enc.enc o).map .p))]) 3 8 (hlt_cons (by decide) (hlt_cons (by decide) (hlt_cons (by decide) hlt_nil)))) ?_
 refine VWp.ghost (Ghost.useCells 2 4 (n:=o.divs.length) o.divs.length (fun j hj=>hget_skip (by omega) (hget_skip (by omega) (hget_skip (by omega) (hget_tail (by omega))))) (fun j hj=>by omega) ((show hget _ 2=some (HB.vecp 41 ((cells (List.replicate o.divs.length (⟨⟩:NilS))).map .p) o.divs.length) from rfl).trans (congrArg (fun l=>some (HB.vecp 41 l o.divs.length)) (nil_cells _))) (Nat.le_refl _)) ?_
 apply VWp.loopR (L.length) [(4,_),(9,_),(31,_),(32,_)] [] (fun k r=>(33,.p (.int .i64 (k:Int)))::r) (fun k _=>(2,kdV p L o.divs.length k)::(1,.box 45 ((Enc.enc p).map .p))::tailH 4 8 (tlK p L k)) 12
 ·first|omega|decide
 ·first|omega|decide
 ·repeat (first|exact LCov.nil|(refine LCov.eq rfl ?_ ?_;(first|exact PV.under_of rfl|(simp [PV.under,PVs.under];done)))|refine LCov.cons trivial rfl (.of_eq (lst_len (by simp<;>omega))) ?_)
 ·refine ⟨⟨lt_dec rfl,kdV_under d1.2,_,rfl,.of_eq ?_⟩,⟨lt_dec rfl,PVs.under_pure _ _,_,rfl,.refl _⟩,HCov.tail (fun j hj=>?_) (by omega) (fun j hj=>trivial)⟩
  ·unfold kdV
   rw [Nat.sub_self]
   simp only [List.replicate_zero,List.append_nil]
   rfl
  ·refine hget_put_ne (by omega) (hget_skip (by omega) (hget_skip (by omega) (hget_skip (by omega) ?_)))
   exact hget_tail hj
 ·intro k hk
  obtain ⟨g1,g2⟩:=hg k hk
  obtain ⟨m,hm⟩:∃ m:Nat,gi L k=(m:Int):=⟨(gi L k).toNat,by omega⟩
  have hm2:m<p.notes.length:=by omega
  have hN:=h.note m hm2
  obtain ⟨j,hj⟩:∃ j:Nat,(gi p.notes m).d=(j:Int):=⟨(gi p.notes m).d.toNat,by have:=hN.d;omega⟩
  have hjn:j<o.divs.length:=by have:=hN.d;omega
  have e1:∀ i,kdK p L i (k+1)=if i=j then kdK p L i k++[(gi p.notes m).k] else kdK p L i k:=fun i=>by
   show (if (gi p.notes (gi L k).toNat).d=(i:Int) then kdK p L i k++[(gi p.notes (gi L k).toNat).k] else kdK p L i k)=_
   rw [hm,Int.toNat_natCast,hj]
   by_cases e:i=j
   ·subst e;rw [if_pos rfl,if_pos rfl]
   ·rw [if_neg e,if_neg (by omega)]
  have hkl:=kdK_len p L j k
  have hgt:hget (tailH 4 8 (tlK p L k)) (4+j)=some (.vec 3 (cells (kdK p L j k)) (kdK p L j k).length true):=hget_tail (by omega)
  have hpt:∀ y,hput (tailH 4 8 (tlK p L k)) (4+j) y=tailH 4 8 (fun i=>if i=j then y else tlK p L k i):=fun y=>hput_tail (by omega)
  repeat' (first|(refine VOpsD.atIdx 11 ?_;apply VOpsD.weak [.tmp 43];decide +kernel;rfl;rfl;exact VOwn.vec (by (repeat (first|exact hgt|(refine hget_put_ne (by omega) ?_)|(refine hget_skip (by omega) ?_))));decide +kernel;exact vseps1 rfl rfl (by omega))|apply VWp.rseq|apply VWp.region|apply VWp.regionD|apply VWp.skipSeq|apply VWp.blockSeq|apply QSeq.normal|apply QBlk.normal|apply VOps.nil|apply VOpsD.nil|apply VOps.one|(apply VOpsD.bar;decide +kernel)|apply VOpsD.quiet|(apply VVal.indexN (l:=p.notes) (i:=m);rfl;exact congrArg (fun b=>some (PV.p (.int .i64 b))) hm;rfl;omega;rfl)|(apply VVal.indexQ (i:=j);rfl;rfl;exact congrArg (fun b=>some (PV.p (.int .i64 b))) hj;rfl;omega)|(apply VVal.loadQ;rfl;rfl;rfl;(show (List.map _ (List.range o.divs.length))[j*1]?=_;rw [Nat.mul_one];exact map_range_at _ hjn))|(apply VVal.append1X (l:=kdK p L j k) (a:=(gi p.notes m).k);rfl;((repeat (first|exact hgt|(refine hget_put_ne (by omega) ?_)|(refine hget_skip (by omega) ?_))));rfl;rfl;rfl;rfl;rfl;rfl;(intro _ h;cases h);rfl;rfl;rfl;decide;decide;omega;((repeat (first|exact hpt _|(apply hput_put_ne;omega)|(apply hput_skip;omega)))))|(apply VVal.storeQ;rfl;rfl;rfl;trivial;rfl;rfl;decide;(show j*1+1≤(List.map _ (List.range o.divs.length)).length;rw [List.length_map,List.length_range];omega))|(apply VVal.assign;rfl)|(apply VVal.move;rfl)|(apply VVal.add64;rfl;rfl;omega)|(apply VVal.int;rfl;rfl;rfl)|(apply VVal.indexN;rfl;rfl;rfl;omega;rfl)|(apply VVal.load;rfl;rfl)|(apply VVal.fieldB;rfl;rfl;rfl)|(apply VVal.alloc;rfl)|(apply VVal.storeB;rfl;rfl;rfl;trivial;rfl;rfl;exact lt_dec rfl;exact le_dec rfl)|(apply VVal.buildSlice;rfl;rfl;rfl;decide;rfl;rfl;rfl)|(apply VWp.condSeq_dec;rfl)|(intro _;try (exfalso;omega)))
  all_goals try (exfalso;omega)
  refine QLoop.normal ⟨by first|omega|decide,?_,?_⟩
  ·repeat (first|exact LCov.nil|refine LCov.same (by exact PV.under_of rfl) rfl ?_|refine LCov.cons trivial rfl (.of_eq (lst_len (by simp<;>omega))) ?_)
  ·refine ⟨⟨lt_dec rfl,kdV_under d1.2,_,rfl,.of_eq ?_⟩,⟨lt_dec rfl,PVs.under_pure _ _,_,rfl,.refl _⟩,HCov.tail (fun i hi=>?_) (by omega) (fun j hj=>trivial)⟩
   ·show HB.vecp 41 (List.set ((List.range o.divs.length).map fun j=>PV.vec (4+j) (kdK p L j k).length 0 (kdK p L j k).length) (j*1) (.vec (4+j) ((kdK p L j k).length+1) 0 ((kdK p L j k).length+1))) o.divs.length=kdV p L o.divs.length (k+1)
    unfold kdV
    rw [Nat.mul_one,map_range_set]
    congr 1
    refine map_range_congr fun i hi=>?_
    rw [e1 i]
    by_cases e:i=j
    ·subst e;rw [if_pos rfl,if_pos rfl];simp
    ·rw [if_neg e,if_neg e]
   ·repeat (first|(refine hget_put_ne (by omega) ?_)|(refine hget_skip (by omega) ?_))
    rw [hget_tail hi]
    unfold tlK
    rw [e1 i]
    by_cases e:i=j
    ·subst e;rw [if_pos rfl,if_pos rfl];simp
    ·rw [if_neg e,if_neg e]
 ·obtain ⟨H',q1,q2⟩:=Ghost.freezeCells (E:=env) (L:=(33,.p (.int .i64 (L.length:Int)))::_) (H:=(2,kdV p L o.divs.length L.length)::(1,.box 45 ((Enc.enc p).map .p))::tailH 4 8 (tlK p L L.length)) (nx:=12) 2 4 o.divs.length (fun j=>cells (kdK p L j L.length)) (fun j=>(kdK p L j L.length).length) (z:=true) rfl (fun j hj=>hget_skip (by omega) (hget_skip (by omega) (hget_tail (by omega)))) (fun j hj=>by omega)
  refine VWp.ghost q2 ?_
  obtain ⟨KD,hKD⟩:∃ KD,KD=(List.range o.divs.length).map fun j=>kdK p L j L.length:=⟨_,rfl⟩
  have hcl:cells KD=(List.range o.divs.length).map fun j=>FV.lst 3 (cells (kdK p L j L.length)) (kdK p L j L.length).length:=by
   rw [cells_lists,hKD,List.map_map];rfl
  have hKl:KD.length=o.divs.length:=by rw [hKD];simp
  have hKg:∀ d,d<o.divs.length→gi KD d=kdK p L d L.length:=fun d hd=>by
   unfold gi;rw [hKD,map_range_at _ hd];rfl
  refine VWp.ghost (Ghost.closeVec 2 (cells KD) q1 (by omega) (by rw [hcl,List.map_map];rfl)) ?_
  refine VWp.weaken (L0:=[(9,.vec 2 o.divs.length 0 o.divs.length),(32,.p (.int .i64 (L.length:Int))),(33,.p (.int .i64 (L.length:Int)))]) (H0:=[(2,.vec 41 (cells KD) o.divs.length false)]) (nx0:=12) (by decide) ⟨by decide,by repeat (first|exact LCov.nil|refine LCov.same (by exact PV.under_of rfl) rfl ?_|refine LCov.cons trivial rfl (.of_eq (lst_len (by simp<;>omega))) ?_),⟨⟨lt_dec rfl,trivial,_,by rw [hget_hput,if_pos rfl,q1];rfl,.refl _⟩,trivial⟩⟩ ?_
  repeat' (first|apply VWp.assoc|apply VWp.rseq|apply VWp.exitSeq|apply VWp.blockSeq|apply QSeq.normal|apply QBlk.exit|apply QLoop.exit|apply VOps.nil|apply VOps.one|(apply VVal.assign;rfl)|(apply VVal.move;rfl)|(apply VVal.int;rfl;rfl;rfl)|(apply VVal.lenV;rfl;rfl;rfl)|(apply VWp.condSeq_dec;rfl)|(intro _;try (exfalso;omega)))
  all_goals try (exfalso;omega)
  refine VWp.ghost (Ghost.adopt 13 93 rfl) ?_
  obtain ⟨F,hF⟩:∃ F:Nat→Nts,F=fun d=>ofK (kdK p L d L.length) (kdK p L d L.length).length:=⟨_,rfl⟩
  rw [← hF]
  apply VWp.loopR (o.divs.length) [(56,_),(57,_)] [(2,_)] (fun k r=>(58,.p (.int .i64 (k:Int)))::(13,.vec 12 (snocK F k).length 0 (snocK F k).length)::r) (fun k r=>(12,.vec 93 (cells (snocK F k)) (snocK F k).length true)::r) 13
  ·first|omega|decide
  ·first|omega|decide
  ·repeat (first|exact LCov.nil|(refine LCov.eq rfl ?_ ?_;(first|exact PV.under_of rfl|(simp [PV.under,PVs.under];done)))|refine LCov.cons trivial rfl (.of_eq (lst_len (by simp<;>omega))) ?_)
  ·repeat (first|exact HCov.nil|(refine HCov.eq rfl (lt_dec rfl) ?_ ?_;(first|exact HB.under_of rfl|exact PVs.under_pure _ _|(simp [HB.under,PVs.under,PV.under];done)))|(refine HCov.cons (lt_dec rfl) ?_ rfl ?_ ?_;(first|exact trivial|exact PVs.under_pure _ _|(simp [HB.under,PVs.under,PV.under]));(first|exact HLe.refl _|exact HLe.vec (FLes.refl _) (by simp))))
  ·intro k hk
   have hl:=snocK_len F k
   have e1:snocK F (k+1)=snocK F k++[F k]:=rfl
   have e2:(snocK F (k+1)).length=(snocK F k).length+1:=by rw [e1];simp
   have hk3:=kdK_len p L k L.length
   have hof:=ofN_spec (gi KD k) (by rw [hKg k hk];omega) (by
    rw [hKg k hk]
    exact kdK_rng ho h hg L.length (Nat.le_refl _))
   have hFk:Enc.enc (ofK (gi KD k) (gi KD k).length)=Enc.enc (F k):=by rw [hKg k hk,hF]
   rw [hFk] at hof
   repeat' (first|apply VWp.rseq|apply VWp.region|apply VWp.skipSeq|apply VWp.blockSeq|apply QSeq.normal|apply QBlk.normal|apply VOps.nil|apply VOps.one|(apply VVal.fn;rfl;rfl;exact hof;intro _;rfl)|(apply VVal.append1 (a:=F k);rfl;rfl;rfl;rfl;rfl;rfl;rfl;rfl;(intro _ h;cases h);rfl;rfl;rfl;decide;decide;(first|omega|(simp only [List.length_take,List.length_drop,List.length_append,List.length_singleton,List.length_cons,List.length_nil]<;>omega)))|(apply VVal.assign;rfl)|(apply VVal.move;rfl)|(apply VVal.add64;rfl;rfl;omega)|(apply VVal.int;rfl;rfl;rfl)|(apply VVal.loadVL;rfl;rfl;omega;rfl)|(apply VVal.load;rfl;rfl)|(apply VVal.alloc;rfl)|(apply VVal.storeB;rfl;rfl;rfl;trivial;rfl;rfl;exact lt_dec rfl;exact le_dec rfl)|(apply VVal.buildSlice;rfl;rfl;rfl;decide;rfl;rfl;rfl)|(apply VVal.indexVN;rfl;rfl;rfl;rfl;omega)|(apply VVal.extract;rfl;rfl)|(apply VWp.condSeq_dec;rfl)|(intro _;try (exfalso;omega)))
   all_goals try (exfalso;omega)
   refine QLoop.normal ⟨by first|omega|decide,?_,?_⟩
   ·try (first|rw [e2,e1]|rw [e2])
    repeat (first|exact LCov.nil|refine LCov.same (by exact PV.under_of rfl) rfl ?_|refine LCov.cons trivial rfl (.of_eq (lst_len (by simp<;>omega))) ?_)
   ·first|rw [e2,e1]|rw [e2]
    repeat (first|exact HCov.nil|(refine HCov.cons (lt_dec rfl) ?_ rfl ?_ ?_;(first|exact HB.under_of rfl|exact PVs.under_pure _ _|(simp [HB.under,PVs.under,PV.under]));(first|exact HLe.refl _|exact HLe.vec (FLes.refl _) (by simp))))
  ·repeat' (first|(refine VOps.atOp 6 ?_;refine VOps.ghost (Ghost.freeze 72 rfl rfl) ?_)|apply VWp.rseq|apply VWp.exitSeq|apply QSeq.normal|apply QBlk.exit|apply QLoop.exit|apply VWp.ret|apply VOps.nil|apply VOps.one|(apply VVal.assign;rfl)|(apply VVal.move;rfl)|(apply VVal.int;rfl;rfl;rfl)|(apply VWp.condSeq_dec;rfl)|(intro _;try (exfalso;omega)))
   all_goals first|(exfalso;omega)|(refine Done.ret rfl (.refl _) (by exact PV.under_of rfl) HCov.nil (Nat.zero_le _) (Nat.le_refl _) ⟨?_,rfl,rfl⟩;try rfl)
theorem KeysE_spec {o:Org} {p:Pce} (ho:OrgSm o) (h:PceSm p) (t:Int) (he:atE o p t≠0):VFun env 30 [.agg (Enc.enc o),.agg (Enc.enc p),.int .i64 t] (.tup [.p (.val (.slice none 0 0)),.p (.int .i64 (atE o p t))]):=by
 have ha:=pieAt_spec o p ho h t
 refine VFun.enter (env_none (by decide)) Tryz.func30 rfl (by kernel_rfl) (by simp [Tryz.ntmps30]) ?_
 repeat' (first|apply VWp.assoc|apply VWp.rseq|apply VWp.retSeq|apply VOps.nil|apply VOps.one|(apply VVal.fn;rfl;rfl;exact ha;intro _;rfl)|(apply VVal.assign;rfl)|(apply VVal.move;rfl)|(apply VVal.int;rfl;rfl;rfl)|(apply VVal.load;rfl;rfl)|(apply VVal.box;rfl;trivial)|(apply VWp.condSeq_dec;rfl)|(intro _;try (exfalso;omega)))
 all_goals first|(exfalso;omega)|contradiction|(refine Done.ret rfl (.refl _) (by exact PV.under_of rfl) HCov.nil (Nat.zero_le _) (Nat.le_refl _) ⟨?_,rfl,rfl⟩;try rfl)
end Go.Proofs.YtnhdddmhkhdlhaaGreatDoor
namespace Go.Proofs.YtnhdddmhkhdlhaaGreatDoor
open Go Go.Am Go.Vm Go.Pie
attribute [local irreducible] VVal VOps VOpsD VWp VCalls VFun VFunV QSeq QBlk QLoop Vm.Done DoneV DoneI
attribute [local irreducible] rchk windsE stoE dvsE cplE shiftR tailH
instance:Enc Slc:={ default:=⟨0,0,[]⟩,enc:=fun x=>[.int .i64 x.s,.int .i64 x.e,.lst 3 (cells x.notes) x.notes.length],size:=3,len:=fun _=>rfl }
def zsK (p:Pce):Nat→List Int
 |0=>[fstB p,endB p]
 |k+1=>zsK p k++[(gi p.notes k).s,(gi p.notes k).e]
theorem zsK_len (p:Pce):∀ k,(zsK p k).length=2*k+2
 |0=>rfl
 |k+1=>by
  have:=zsK_len p k
  unfold zsK
  simp only [List.length_append,List.length_cons,List.length_nil]
  omega
def tksP (p:Pce):List Int:=Lib.compact ((zsK p p.notes.length).mergeSort fun x y=>decide (x≤y))
theorem compact_len (zs:List Int):(Lib.compact zs).length≤zs.length:=by
 unfold Lib.compact Lib.compactUpTo
 rw [List.length_map]
 exact Nat.le_trans (List.length_filter_le _ _) (by simp)
theorem tks_pos (p:Pce):0<(tksP p).length:=by
 have h0:fstB p∈tksP p:=by
  unfold tksP
  rw [compact_mem,List.mem_mergeSort]
  have:∀ k,fstB p∈zsK p k:=by
   intro k
   induction k with
   |zero=>simp [zsK]
   |succ k ih=>exact List.mem_append_left _ ih
  exact this _
 exact List.length_pos_of_mem h0
theorem rfs0:∀ (m:Mem) (F:Nat→Prop) (us:List Value),RFs m F [] us→us=[]:=fun m F us h=>by cases h;rfl
def sndL (p:Pce):List Slc:=strT (snd p) (tksP p)
theorem Slices_spec {o:Org} {p:Pce} (ho:OrgSm o) (hE:pceE o p=0) (h:PceK o p):VFun env 17 [.agg (Enc.enc o),.agg (Enc.enc p)] (.tup [.p (.lst 59 (cells (sndL p)) (sndL p).length),.p (.int .i64 0)]):=by
 have ha:=pieCheck_spec o p ho h.sm
 rw [hE] at ha
 have hen:=ends_spec p (by have:=h.bars;omega) h.sm.bars
 have n1:=h.notes
 have hsn:=pieSnd_spec p h.sm
 refine VFun.enter (env_none (by decide)) Tryz.func17 rfl (by kernel_rfl) (by simp [Tryz.ntmps17]) ?_
 repeat' (first|apply VWp.assoc|apply VWp.rseq|apply VWp.skipSeq|apply VWp.blockSeq|apply VOps.nil|apply VOps.one|(apply VVal.fn;rfl;rfl;exact ha;intro _;rfl)|(apply VVal.fn;rfl;rfl;exact hen;intro _;rfl)|(apply VVal.assign;rfl)|(apply VVal.move;rfl)|(apply VVal.int;rfl;rfl;rfl)|(apply VVal.load;rfl;rfl)|(apply VVal.lenF;rfl;rfl)|(apply VVal.fieldB;rfl;rfl;rfl)|(apply VVal.box;rfl;trivial)|(apply VVal.buildSlice;rfl;rfl;rfl;decide;rfl;rfl;rfl)|(apply VVal.extract;rfl;rfl)|(apply VWp.condSeq_false;rfl))
 all_goals try (exfalso;omega)
 all_goals try contradiction
 apply VWp.loopR (p.notes.length) [(3,_),(30,_),(31,_)] [(1,_)] (fun k r=>(32,.p (.int .i64 (k:Int)))::(9,.vec 2 (zsK p k).length 0 (zsK p k).length)::r) (fun k r=>(2,.vec 3 (cells (zsK p k)) (zsK p k).length false)::r) 3
 ·first|omega|decide
 ·first|omega|decide
 ·repeat (first|exact LCov.nil|(refine LCov.eq rfl ?_ ?_;(first|exact PV.under_of rfl|(simp [PV.under,PVs.under];done)))|refine LCov.cons trivial rfl (.of_eq (lst_len (by simp<;>omega))) ?_)
 ·repeat (first|exact HCov.nil|(refine HCov.eq rfl (lt_dec rfl) ?_ ?_;(first|exact HB.under_of rfl|exact PVs.under_pure _ _|(simp [HB.under,PVs.under,PV.under];done)))|(refine HCov.cons (lt_dec rfl) ?_ rfl ?_ ?_;(first|exact trivial|exact PVs.under_pure _ _|(simp [HB.under,PVs.under,PV.under]));(first|exact HLe.refl _|exact HLe.vec (FLes.refl _) (by simp))))
 ·intro k hk
  have hl:=zsK_len p k
  have e1:zsK p (k+1)=zsK p k++[(gi p.notes k).s,(gi p.notes k).e]:=rfl
  have e2:(zsK p (k+1)).length=(zsK p k).length+2:=by rw [e1];simp
  repeat' (first|apply VWp.rseq|apply VWp.region|apply VWp.skipSeq|apply VWp.blockSeq|apply QSeq.normal|apply QBlk.normal|apply VOps.nil|apply VOps.one|(apply VVal.append2 (l:=zsK p k) (gi p.notes k).s (gi p.notes k).e;rfl;rfl;rfl;rfl;rfl;rfl;rfl;rfl;(intro _ h;cases h);rfl;rfl;rfl;decide;decide;omega)|(apply VVal.assign;rfl)|(apply VVal.move;rfl)|(apply VVal.add64;rfl;rfl;omega)|(apply VVal.int;rfl;rfl;rfl)|(apply VVal.indexN;rfl;rfl;rfl;omega;rfl)|(apply VVal.load;rfl;rfl)|(apply VVal.fieldB;rfl;rfl;rfl)|(apply VVal.alloc;rfl)|(apply VVal.storeB;rfl;rfl;rfl;trivial;rfl;rfl;exact lt_dec rfl;exact le_dec rfl)|(apply VVal.buildSlice;rfl;rfl;rfl;decide;rfl;rfl;rfl)|(apply VWp.condSeq_dec;rfl)|(intro _;try (exfalso;omega)))
  all_goals try (exfalso;omega)
  refine QLoop.normal ⟨by first|omega|decide,?_,?_⟩
  ·try (first|rw [e2,e1]|rw [e2])
   repeat (first|exact LCov.nil|refine LCov.same (by exact PV.under_of rfl) rfl ?_|refine LCov.cons trivial rfl (.of_eq (lst_len (by simp<;>omega))) ?_)
  ·first|rw [e2,e1]|rw [e2]
   repeat (first|exact HCov.nil|(refine HCov.cons (lt_dec rfl) ?_ rfl ?_ ?_;(first|exact HB.under_of rfl|exact PVs.under_pure _ _|(simp [HB.under,PVs.under,PV.under]));(first|exact HLe.refl _|exact HLe.vec (FLes.refl _) (by simp))))
 ·have hl:=zsK_len p p.notes.length
  obtain ⟨zs,hzs⟩:∃ zs,zs=zsK p p.notes.length:=⟨_,rfl⟩
  have hcl:=compact_len ((zsK p p.notes.length).mergeSort fun x y=>decide (x≤y))
  have hml:((zsK p p.notes.length).mergeSort fun x y=>decide (x≤y)).length=(zsK p p.notes.length).length:=List.length_mergeSort _
  have htp:=tks_pos p
  have htc:((tksP p).length:Int)-1=(((tksP p).length-1:Nat):Int):=by omega
  rw [show Lib.compact ((zsK p p.notes.length).mergeSort fun x y=>decide (x≤y))=tksP p from rfl] at hcl
  repeat' (first|(refine VWp.at 14 ?_;refine VWp.ghost (Ghost.freeze 9 rfl rfl) ?_;first|apply VWp.rseq|apply VWp.rseqD)|apply VWp.assoc|apply VWp.rseq|apply VWp.exitSeq|apply VWp.blockSeq|apply QSeq.normal|apply QBlk.exit|apply QLoop.exit|apply VOps.nil|apply VOps.one|((refine VVal.inPut (Fn:=sortF) (zs':=(zsK p p.notes.length).mergeSort fun x y=>decide (x≤y)) sort_at rfl rfl rfl (rest:=[]) (rv:=[]) rfs0 rfl rfl (by omega) ?_ (by omega) ?_;(simp only [sortF];rw [if_pos (by omega)])))|((refine VVal.inCut (Fn:=compF) (zs:=(zsK p p.notes.length).mergeSort fun x y=>decide (x≤y)) (zs':=tksP p++List.replicate ((zsK p p.notes.length).length-(tksP p).length) 0) (k:=(tksP p).length) comp_at rfl rfl rfl (rest:=[]) (rv:=[]) rfs0 rfl hml (by omega) ?_ (by simp;omega) (by omega) ?_;(simp only [compF];rw [if_pos (by omega),hml];rfl);rw [List.take_left]))|(apply VVal.sliceTo (b:=(tksP p).length-1);rfl;exact congrArg (fun b=>some (PV.p (.int .i64 b))) htc;rfl;rfl;rfl;rfl;omega)|(apply VVal.assign;rfl)|(apply VVal.move;rfl)|(apply VVal.sub64;rfl;rfl;omega)|(apply VVal.int;rfl;rfl;rfl)|(apply VVal.lenF;rfl;rfl)|(apply VWp.condSeq_dec;rfl)|(intro _;try (exfalso;omega)))
  all_goals try (exfalso;omega)
  refine VWp.ghost (Ghost.adopt 12 59 rfl) ?_
  obtain ⟨F,hF⟩:∃ F:Nat→Slc,F=fun i=>⟨gi (tksP p) i,gi (tksP p) (i+1),snd p (gi (tksP p) i)⟩:=⟨_,rfl⟩
  have hR:sndL p=snocK F ((tksP p).length-1):=by rw [hF];rfl
  rw [hR]
  apply VWp.loopR ((tksP p).length-1) [(3,_),(9,_),(52,_),(53,_)] [(1,_)] (fun k r=>(54,.p (.int .i64 (k:Int)))::(12,.vec 4 (snocK F k).length 0 (snocK F k).length)::r) (fun k r=>(4,.vec 59 (cells (snocK F k)) (snocK F k).length true)::r) 5
  ·first|omega|decide
  ·first|omega|decide
  ·repeat (first|exact LCov.nil|(refine LCov.eq rfl ?_ ?_;(first|exact PV.under_of rfl|(simp [PV.under,PVs.under];done)))|refine LCov.cons trivial rfl (.of_eq (lst_len (by simp<;>omega))) ?_)
  ·repeat (first|exact HCov.nil|(refine HCov.eq rfl (lt_dec rfl) ?_ ?_;(first|exact HB.under_of rfl|exact PVs.under_pure _ _|(simp [HB.under,PVs.under,PV.under];done)))|(refine HCov.cons (lt_dec rfl) ?_ rfl ?_ ?_;(first|exact trivial|exact PVs.under_pure _ _|(simp [HB.under,PVs.under,PV.under]));(first|exact HLe.refl _|exact HLe.vec (FLes.refl _) (by simp))))
  ·intro k hk
   have hlF:=snocK_len F k
   have hFk:F k=⟨gi (tksP p) k,gi (tksP p) (k+1),snd p (gi (tksP p) k)⟩:=by rw [hF]
   have e1:snocK F (k+1)=snocK F k++[⟨gi (tksP p) k,gi (tksP p) (k+1),snd p (gi (tksP p) k)⟩]:=by rw [← hFk];rfl
   have e2:(snocK F (k+1)).length=(snocK F k).length+1:=by rw [e1];simp
   have hg:gi ((tksP p).take ((tksP p).length-1)) k=gi (tksP p) k:=gi_take hk
   have hk1:(k:Int)+1=((k+1:Nat):Int):=by omega
   have hs:=hsn (gi (tksP p) k)
   repeat' (first|(refine VOpsD.atIdx 10 ?_;refine VOpsD.ghost (Ghost.freeze 68 rfl rfl) ?_)|(refine VOpsD.atIdx 9 ?_;apply VOpsD.weakF [.tmp 64];decide +kernel;decide +kernel;rfl)|apply VWp.rseq|apply VWp.region|apply VWp.regionD|apply VWp.skipSeq|apply VWp.blockSeq|apply QSeq.normal|apply QBlk.normal|apply VOps.nil|apply VOpsD.nil|apply VOps.one|(apply VOpsD.bar;decide +kernel)|apply VOpsD.quiet|(apply VVal.fv;rfl;rfl;exact hs)|(apply VVal.indexN (l:=(tksP p).take ((tksP p).length-1)) (i:=k);rfl;rfl;rfl;(rw [List.length_take];omega);(rw [List.length_take];omega))|(apply VVal.load (r:=.p (.int .i64 (gi (tksP p) k)));rfl;exact (congrArg (fun b=>some (PV.p (FV.int .i64 b))) hg))|(apply VVal.indexN (l:=tksP p) (i:=k+1);rfl;exact congrArg (fun b=>some (PV.p (.int .i64 b))) hk1;rfl;omega;rfl)|(apply VVal.append1 (a:=(⟨gi (tksP p) k,gi (tksP p) (k+1),snd p (gi (tksP p) k)⟩:Slc));rfl;rfl;rfl;rfl;rfl;rfl;rfl;rfl;(intro _ h;cases h);rfl;rfl;rfl;decide;decide;(first|omega|(simp only [List.length_take,List.length_drop,List.length_append,List.length_singleton,List.length_cons,List.length_nil]<;>omega)))|(apply VVal.assign;rfl)|(apply VVal.move;rfl)|(apply VVal.add64;rfl;rfl;omega)|(apply VVal.int;rfl;rfl;rfl)|(apply VVal.load;rfl;rfl)|(apply VVal.build;rfl;rfl;rfl;rfl;rfl)|(apply VVal.buildSlice;rfl;rfl;rfl;decide;rfl;rfl;rfl)|(apply VWp.condSeq_dec;rfl)|(intro _;try (exfalso;omega)))
   all_goals try (exfalso;omega)
   refine QLoop.normal ⟨by first|omega|decide,?_,?_⟩
   ·try (first|rw [e2,e1]|rw [e2])
    repeat (first|exact LCov.nil|refine LCov.same (by exact PV.under_of rfl) rfl ?_|refine LCov.cons trivial rfl (.of_eq (lst_len (by simp<;>omega))) ?_)
   ·first|rw [e2,e1]|rw [e2]
    repeat (first|exact HCov.nil|(refine HCov.cons (lt_dec rfl) ?_ rfl ?_ ?_;(first|exact HB.under_of rfl|exact PVs.under_pure _ _|(simp [HB.under,PVs.under,PV.under]));(first|exact HLe.refl _|exact HLe.vec (FLes.refl _) (by simp))))
  ·repeat' (first|(refine VOps.atOp 4 ?_;refine VOps.ghost (Ghost.freeze 73 rfl rfl) ?_)|apply VWp.rseq|apply VWp.exitSeq|apply QSeq.normal|apply QBlk.exit|apply QLoop.exit|apply VWp.ret|apply VOps.nil|apply VOps.one|(apply VVal.assign;rfl)|(apply VVal.move;rfl)|(apply VVal.int;rfl;rfl;rfl)|(apply VWp.condSeq_dec;rfl)|(intro _;try (exfalso;omega)))
   all_goals first|(exfalso;omega)|(refine Done.ret rfl (.refl _) (by exact PV.under_of rfl) HCov.nil (Nat.zero_le _) (Nat.le_refl _) ⟨?_,rfl,rfl⟩;try rfl)
end Go.Proofs.YtnhdddmhkhdlhaaGreatDoor
namespace Go.Proofs.YtnhdddmhkhdlhaaGreatDoor
open Go Go.Am Go.Vm Go.Pie
attribute [local irreducible] VVal VOps VOpsD VWp VCalls VFun VFunV QSeq QBlk QLoop Vm.Done DoneV DoneI
attribute [local irreducible] rchk windsE stoE dvsE cplE shiftR tailH
theorem cloneB_spec (l:List Int) (h0:0<l.length) (h1:l.length<1000000):VFunV env 57 [.lst 3 (cells l) l.length] 3 (cells l) l.length false:=by
 refine VFunV.enter (env_none (by decide)) Tryz.func57 rfl (by kernel_rfl) (by simp [Tryz.ntmps57]) ?_
 repeat' (first|apply VWp.assoc|apply VWp.rseq|apply VWp.skipSeq|apply VWp.ret|apply VOps.nil|apply VOps.one|(apply VVal.eqNilF;rfl;rfl;rfl;exact h0)|(apply VVal.assign;rfl)|(apply VVal.move;rfl)|(apply VVal.buildSlice;rfl;rfl;rfl;decide;rfl;rfl;rfl)|(apply VVal.appendL0;rfl;rfl;rfl;(first|rfl|omega|(simp only [List.length_take,List.length_drop,List.length_append,List.length_singleton,List.length_cons,List.length_nil]<;>omega));rfl;rfl;(intro _ h;cases h);rfl;rfl;rfl;decide;decide;(first|omega|(simp only [List.length_take,List.length_drop,List.length_append,List.length_singleton,List.length_cons,List.length_nil]<;>omega)))|(apply VWp.condSeq_false;rfl))
 exact DoneV.ret rfl rfl rfl rfl
def ctN (p:Pce) (a z:Int):Nat→List Nte
 |0=>[]
 |k+1=>if (gi p.notes k).s<z∧(gi p.notes k).e>a then ctN p a z k++[⟨max (gi p.notes k).s a,min (gi p.notes k).e z,(gi p.notes k).d,(gi p.notes k).k⟩] else ctN p a z k
theorem ctN_len (p:Pce) (a z:Int):∀ k,(ctN p a z k).length≤k
 |0=>Nat.le_refl _
 |k+1=>by
  have:=ctN_len p a z k
  unfold ctN
  split
  ·simp;omega
  ·omega
def ctS0 (p:Pce) (f:Nat):List Stg:=if 0≤wan p (gi p.bars f)∧(gi p.sets (wan p (gi p.bars f)).toNat).bar<f then [⟨0,(gi p.sets (wan p (gi p.bars f)).toNat).reg⟩] else []
def ctS (p:Pce) (f t:Nat) (s0:List Stg):Nat→List Stg
 |0=>s0
 |k+1=>if (gi p.sets k).bar≥f∧(gi p.sets k).bar<t then ctS p f t s0 k++[⟨(gi p.sets k).bar-f,(gi p.sets k).reg⟩] else ctS p f t s0 k
theorem ctS0_len (p:Pce) (f:Nat):(ctS0 p f).length≤1:=by
 unfold ctS0
 split<;>simp
theorem ctS_len (p:Pce) (f t:Nat) (s0:List Stg):∀ k,(ctS p f t s0 k).length≤s0.length+k
 |0=>Nat.le_refl _
 |k+1=>by
  have:=ctS_len p f t s0 k
  unfold ctS
  split
  ·simp;omega
  ·omega
def ctB (p:Pce) (f t:Nat):List Int:=(p.bars.drop f).take (t+1-f)
def cutP (p:Pce) (f t:Nat):Pce:=⟨ctB p f t,ctN p (gi p.bars f) (gi p.bars t) p.notes.length,ctS p f t (ctS0 p f) p.sets.length⟩
theorem ctB_len {p:Pce} {f t:Nat} (h1:f<t) (h2:t<p.bars.length):(ctB p f t).length=t+1-f:=by
 unfold ctB;rw [List.length_take,List.length_drop];omega
theorem ctB_gi {p:Pce} {f t i:Nat} (h:i<t+1-f):gi (ctB p f t) i=gi p.bars (f+i):=by
 unfold ctB gi
 rw [List.getElem?_take_of_lt h,List.getElem?_drop]
def pceZ:List FV:=[.val (.slice none 0 0),.val (.slice none 0 0),.val (.slice none 0 0)]
theorem Cut_spec {o:Org} {p:Pce} (ho:OrgK o) (hE:pceE o p=0) (h:PceK o p) (f t:Nat) (h1:f<t) (h2:t<p.bars.length):VFun env 22 [.agg (Enc.enc o),.agg (Enc.enc p),.int .i64 (f:Int),.int .i64 (t:Int)] (.tup [.p (.agg (Enc.enc (cutP p f t))),.p (.int .i64 0)]):=by
 have ha:=pieCheck_spec o p ho.sm h.sm
 rw [hE] at ha
 have d1:=ho.divs
 have n1:=h.notes
 have n2:=h.bars
 have n3:=h.sets
 have hBl:=ctB_len h1 h2
 have hBf:gi (ctB p f t) 0=gi p.bars f:=ctB_gi (by omega)
 have hBt:gi (ctB p f t) (t+1-f-1)=gi p.bars t:=by rw [ctB_gi (by omega)];congr 1;omega
 have hcb:=cloneB_spec (ctB p f t) (by omega) (by omega)
 have hen:=ends_spec ⟨ctB p f t,[],[]⟩ (by show 0<(ctB p f t).length;omega) (by show (ctB p f t).length<_;omega)
 rw [show fstB ⟨ctB p f t,[],[]⟩=gi p.bars f from hBf,show endB ⟨ctB p f t,[],[]⟩=gi p.bars t by show gi (ctB p f t) ((ctB p f t).length-1)=_;rw [hBl,hBt]] at hen
 have hen:VFun env 53 [.agg [.lst 3 (cells (ctB p f t)) (t+1-f),.val (.slice none 0 0),.val (.slice none 0 0)]] (.tup [.p (.int .i64 (gi p.bars f)),.p (.int .i64 (gi p.bars t))]):=by
  refine VFun.le ?_ hen
  rw [show Enc.enc (⟨ctB p f t,[],[]⟩:Pce)=[.lst 3 (cells (ctB p f t)) (t+1-f),.lst 66 [] 0,.lst 74 [] 0] by show [FV.lst 3 (cells (ctB p f t)) (ctB p f t).length,_,_]=_;rw [hBl];rfl]
  exact .cons (.agg (.cons (.refl _) (.cons (.nil _) (.cons (.nil _) (.refl _))))) (.refl _)
 have hw:=pieWan_spec h (gi p.bars f)
 have hwr:=wanK_rng p (gi p.bars f) p.sets.length
 rw [show wanK p (gi p.bars f) p.sets.length=wan p (gi p.bars f) from rfl] at hwr
 have hcop:∀ i,i<p.sets.length→VFun env 59 [.agg (Enc.enc (gi p.sets i).reg)] (.p (.agg (Enc.enc (gi p.sets i).reg))):=fun i hi=>by
  have hl:=regE_len0 (h.set i hi).2.2
  exact pieCopied_spec _ (by omega) (by omega)
 have hBe:Enc.enc (cutP p f t)=[.lst 3 (cells (ctB p f t)) (t+1-f),.lst 66 (cells (ctN p (gi p.bars f) (gi p.bars t) p.notes.length)) (ctN p (gi p.bars f) (gi p.bars t) p.notes.length).length,.lst 74 (cells (ctS p f t (ctS0 p f) p.sets.length)) (ctS p f t (ctS0 p f) p.sets.length).length]:=by
  show [FV.lst 3 (cells (ctB p f t)) (ctB p f t).length,_,_]=_
  rw [hBl]
  rfl
 rw [hBl] at hcb
 rw [hBe]
 have hS0:=ctS0_len p f
 refine VFun.enter (env_none (by decide)) Tryz.func22 rfl (by kernel_rfl) (by simp [Tryz.ntmps22]) ?_
 repeat' (first|(refine VOps.atOp 49 ?_;refine VOps.ghost (Ghost.freeze 48 rfl rfl) ?_)|apply VWp.assoc|apply VWp.rseq|apply VWp.skipSeq|apply VWp.blockSeq|apply VOps.nil|apply VOps.one|(apply VOps.take;rfl;rfl)|(apply VOps.guard;rfl;rfl)|(apply VVal.fn;rfl;rfl;exact ha;intro _;rfl)|(apply VVal.fn;rfl;rfl;exact hen;intro _;rfl)|(apply VVal.fv;rfl;rfl;exact hcb)|(apply VVal.sliceFT;rfl;rfl;rfl;rfl;rfl;rfl;rfl;omega)|(apply VVal.assign;rfl)|(apply VVal.move;rfl)|(apply VVal.add64;rfl;rfl;omega)|(apply VVal.sub64;rfl;rfl;omega)|(apply VVal.int;rfl;rfl;rfl)|(apply VVal.load;rfl;rfl)|(apply VVal.pick_false;rfl;rfl)|(apply VVal.lenF;rfl;rfl)|(apply VVal.fieldB;rfl;rfl;rfl)|(apply VVal.box;rfl;trivial)|(apply VVal.alloc;rfl)|(apply VVal.storeB;rfl;rfl;rfl;trivial;rfl;rfl;exact lt_dec rfl;exact le_dec rfl)|(apply VVal.build;rfl;rfl;rfl;rfl;rfl)|(apply VVal.extract;rfl;rfl)|(apply VWp.condSeq_false;rfl)|(apply VWp.condSeq_dec;rfl)|(intro _;try (exfalso;omega)))
 all_goals try (exfalso;omega)
 all_goals try contradiction
 refine VWp.ghost (Ghost.adoptCell 4 1 66 rfl rfl) ?_
 refine VWp.ghost (Ghost.adoptCell 4 2 74 rfl rfl) ?_
 have hNl:=ctN_len p (gi p.bars f) (gi p.bars t)
 apply VWp.loopR (p.notes.length) [(2,_),(3,_),(5,_),(8,_),(12,_),(13,_),(11,_),(56,_),(57,_)] [(1,_),(2,_),(6,_)] (fun k r=>(58,.p (.int .i64 (k:Int)))::r) (fun k r=>(5,.vec 66 (cells (ctN p (gi p.bars f) (gi p.bars t) k)) (ctN p (gi p.bars f) (gi p.bars t) k).length true)::(4,.box 45 [.p (.lst 3 (cells (ctB p f t)) (t+1-f)),.vec 5 (ctN p (gi p.bars f) (gi p.bars t) k).length 0 (ctN p (gi p.bars f) (gi p.bars t) k).length,.vec 6 0 0 0])::r) 7
 ·first|omega|decide
 ·first|omega|decide
 ·repeat (first|exact LCov.nil|(refine LCov.eq rfl ?_ ?_;(first|exact PV.under_of rfl|(simp [PV.under,PVs.under];done)))|refine LCov.cons trivial rfl (.of_eq (lst_len (by simp<;>omega))) ?_)
 ·repeat (first|exact HCov.nil|(refine HCov.eq rfl (lt_dec rfl) ?_ ?_;(first|exact HB.under_of rfl|exact PVs.under_pure _ _|(simp [HB.under,PVs.under,PV.under];done)))|(refine HCov.cons (lt_dec rfl) ?_ rfl ?_ ?_;(first|exact trivial|exact PVs.under_pure _ _|(simp [HB.under,PVs.under,PV.under]));(first|exact HLe.refl _|exact HLe.vec (FLes.refl _) (by simp))))
 ·intro k hk
  have hl:=hNl k
  have e1:ctN p (gi p.bars f) (gi p.bars t) (k+1)=if (gi p.notes k).s<gi p.bars t∧(gi p.notes k).e>gi p.bars f then ctN p (gi p.bars f) (gi p.bars t) k++[⟨max (gi p.notes k).s (gi p.bars f),min (gi p.notes k).e (gi p.bars t),(gi p.notes k).d,(gi p.notes k).k⟩] else ctN p (gi p.bars f) (gi p.bars t) k:=rfl
  by_cases c:(gi p.notes k).s<gi p.bars t∧(gi p.notes k).e>gi p.bars f
  ·rw [if_pos c] at e1
   have e2:(ctN p (gi p.bars f) (gi p.bars t) (k+1)).length=(ctN p (gi p.bars f) (gi p.bars t) k).length+1:=by rw [e1];simp
   repeat' (first|apply VWp.rseq|apply VWp.region|apply VWp.skipSeq|apply VWp.blockSeq|apply QSeq.normal|apply QBlk.normal|apply VOps.nil|apply VOps.one|(apply VOps.take;rfl;rfl)|(apply VOps.guard;rfl;rfl)|(apply VVal.append1 (a:=(⟨max (gi p.notes k).s (gi p.bars f),min (gi p.notes k).e (gi p.bars t),(gi p.notes k).d,(gi p.notes k).k⟩:Nte));rfl;rfl;rfl;rfl;rfl;rfl;rfl;rfl;(intro _ h;cases h);rfl;rfl;rfl;decide;decide;(first|omega|(simp only [List.length_take,List.length_drop,List.length_append,List.length_singleton,List.length_cons,List.length_nil]<;>omega)))|(apply VVal.move;rfl)|(apply VVal.add64;rfl;rfl;omega)|(apply VVal.int;rfl;rfl;rfl)|(apply VVal.indexN;rfl;rfl;rfl;omega;rfl)|(apply VVal.load;rfl;rfl)|(apply VVal.pick_true;rfl;rfl)|(apply VVal.fieldB;rfl;rfl;rfl)|(apply VVal.alloc;rfl)|(apply VVal.storeB;rfl;rfl;rfl;trivial;rfl;rfl;exact lt_dec rfl;exact le_dec rfl)|(apply VVal.buildSlice;rfl;rfl;rfl;decide;rfl;rfl;rfl)|(apply VVal.maxI;rfl;rfl)|(apply VVal.minI;rfl;rfl)|(apply VWp.condSeq_dec;rfl)|(apply VWp.cond_dec;rfl)|(intro _;try (exfalso;omega)))
   all_goals try (exfalso;omega)
   refine QLoop.normal ⟨by first|omega|decide,?_,?_⟩
   ·try (rw [e2,e1])
    repeat (first|exact LCov.nil|refine LCov.same (by exact PV.under_of rfl) rfl ?_|refine LCov.cons trivial rfl (.of_eq (lst_len (by simp<;>omega))) ?_)
   ·rw [e2,e1]
    repeat (first|exact HCov.nil|(refine HCov.cons (lt_dec rfl) ?_ rfl ?_ ?_;(first|exact HB.under_of rfl|exact PVs.under_pure _ _|(simp [HB.under,PVs.under,PV.under]));(first|exact HLe.refl _|exact HLe.vec (FLes.refl _) (by simp))))
  ·rw [if_neg c] at e1
   repeat' (first|apply VWp.rseq|apply VWp.region|apply VWp.skipSeq|apply VWp.blockSeq|apply QSeq.normal|apply QBlk.normal|apply VWp.skip|apply VOps.nil|apply VOps.one|(apply VOps.take;rfl;rfl)|(apply VOps.drop;rfl;rfl;rfl)|(apply VOps.guard;rfl;rfl)|(apply VVal.move;rfl)|(apply VVal.add64;rfl;rfl;omega)|(apply VVal.int;rfl;rfl;rfl)|(apply VVal.indexN;rfl;rfl;rfl;omega;rfl)|(apply VVal.load;rfl;rfl)|(apply VVal.pick_true;rfl;rfl)|(apply VVal.pick_false;rfl;rfl)|(apply VVal.fieldB;rfl;rfl;rfl)|(apply VVal.alloc;rfl)|(apply VVal.storeB;rfl;rfl;rfl;trivial;rfl;rfl;exact lt_dec rfl;exact le_dec rfl)|(apply VWp.condSeq_dec;rfl)|(apply VWp.cond_false;rfl)|(apply VWp.cond_dec;rfl)|(intro _;try (exfalso;omega)))
   all_goals try (exfalso;omega)
   all_goals
    refine QLoop.normal ⟨by first|omega|decide,?_,?_⟩
    ·try (rw [e1])
     repeat (first|exact LCov.nil|refine LCov.same (by exact PV.under_of rfl) rfl ?_|refine LCov.cons trivial rfl (.of_eq (lst_len (by simp<;>omega))) ?_)
    ·rw [e1]
     repeat (first|exact HCov.nil|(refine HCov.cons (lt_dec rfl) ?_ rfl ?_ ?_;(first|exact HB.under_of rfl|exact PVs.under_pure _ _|(simp [HB.under,PVs.under,PV.under]));(first|exact HLe.refl _|exact HLe.vec (FLes.refl _) (by simp))))
 ·have hl:=hNl p.notes.length
  by_cases c:0≤wan p (gi p.bars f)∧(gi p.sets (wan p (gi p.bars f)).toNat).bar<f
  ·have hS:ctS0 p f=[⟨0,(gi p.sets (wan p (gi p.bars f)).toNat).reg⟩]:=by unfold ctS0;rw [if_pos c]
   rw [hS]
   have hb:wan p (gi p.bars f)=((wan p (gi p.bars f)).toNat:Int):=by omega
   have hc0:=hcop (wan p (gi p.bars f)).toNat (by omega)
   repeat' (first|apply VWp.assoc|apply VWp.rseq|apply VWp.rseqD|apply VWp.exitSeq|apply VWp.blockSeq|apply QSeq.normal|apply QBlk.exit|apply QLoop.exit|apply VOps.nil|apply VOpsD.nil|apply VOps.one|(apply VOpsD.bar;decide +kernel)|apply VOpsD.quiet|(apply VOps.take;rfl;rfl)|(apply VOps.guard;rfl;rfl)|(apply VVal.fn;rfl;rfl;exact hw;intro _;rfl)|(apply VVal.fn;rfl;rfl;exact hc0;intro _;rfl)|(apply VVal.indexN (l:=p.sets) (i:=(wan p (gi p.bars f)).toNat);rfl;exact congrArg (fun b=>some (PV.p (.int .i64 b))) hb;rfl;omega;rfl)|(apply VVal.append1 (l:=[]) (a:=(⟨0,(gi p.sets (wan p (gi p.bars f)).toNat).reg⟩:Stg));rfl;rfl;rfl;rfl;rfl;rfl;rfl;rfl;(intro _ h;cases h);rfl;rfl;rfl;decide;decide;(first|omega|(simp only [List.length_take,List.length_drop,List.length_append,List.length_singleton,List.length_cons,List.length_nil]<;>omega)))|(apply VVal.assign;rfl)|(apply VVal.move;rfl)|(apply VVal.int;rfl;rfl;rfl)|(apply VVal.load;rfl;rfl)|(apply VVal.pick_true;rfl;rfl)|(apply VVal.lenF;rfl;rfl)|(apply VVal.fieldB;rfl;rfl;rfl)|(apply VVal.fieldF;rfl;rfl)|(apply VVal.storeB;rfl;rfl;rfl;trivial;rfl;rfl;exact lt_dec rfl;exact le_dec rfl)|(apply VVal.build;rfl;rfl;rfl;rfl;rfl)|(apply VVal.buildSlice;rfl;rfl;rfl;decide;rfl;rfl;rfl)|(apply VWp.condSeq_dec;rfl)|(intro _;try (exfalso;omega)))
   all_goals try (exfalso;omega)
   apply VWp.loopR (p.sets.length) [(2,_),(3,_),(5,_),(8,_),(11,_),(118,_),(119,_)] [(1,_),(2,_),(5,_)] (fun k r=>(120,.p (.int .i64 (k:Int)))::r) (fun k r=>(6,.vec 74 (cells (ctS p f t [⟨0,(gi p.sets (wan p (gi p.bars f)).toNat).reg⟩] k)) (ctS p f t [⟨0,(gi p.sets (wan p (gi p.bars f)).toNat).reg⟩] k).length true)::(4,.box 45 [.p (.lst 3 (cells (ctB p f t)) (t+1-f)),.vec 5 (ctN p (gi p.bars f) (gi p.bars t) p.notes.length).length 0 (ctN p (gi p.bars f) (gi p.bars t) p.notes.length).length,.vec 6 (ctS p f t [⟨0,(gi p.sets (wan p (gi p.bars f)).toNat).reg⟩] k).length 0 (ctS p f t [⟨0,(gi p.sets (wan p (gi p.bars f)).toNat).reg⟩] k).length])::r) 7
   ·first|omega|decide
   ·first|omega|decide
   ·repeat (first|exact LCov.nil|(refine LCov.eq rfl ?_ ?_;(first|exact PV.under_of rfl|(simp [PV.under,PVs.under];done)))|refine LCov.cons trivial rfl (.of_eq (lst_len (by simp<;>omega))) ?_)
   ·repeat (first|exact HCov.nil|(refine HCov.eq rfl (lt_dec rfl) ?_ ?_;(first|exact HB.under_of rfl|exact PVs.under_pure _ _|(simp [HB.under,PVs.under,PV.under];done)))|(refine HCov.cons (lt_dec rfl) ?_ rfl ?_ ?_;(first|exact trivial|exact PVs.under_pure _ _|(simp [HB.under,PVs.under,PV.under]));(first|exact HLe.refl _|exact HLe.vec (FLes.refl _) (by simp))))
   ·intro k hk
    have hl2:=ctS_len p f t [⟨0,(gi p.sets (wan p (gi p.bars f)).toNat).reg⟩] k
    have hl3:([⟨0,(gi p.sets (wan p (gi p.bars f)).toNat).reg⟩]:List Stg).length≤1:=by simp
    have e1:ctS p f t [⟨0,(gi p.sets (wan p (gi p.bars f)).toNat).reg⟩] (k+1)=if (gi p.sets k).bar≥f∧(gi p.sets k).bar<t then ctS p f t [⟨0,(gi p.sets (wan p (gi p.bars f)).toNat).reg⟩] k++[⟨(gi p.sets k).bar-f,(gi p.sets k).reg⟩] else ctS p f t [⟨0,(gi p.sets (wan p (gi p.bars f)).toNat).reg⟩] k:=rfl
    have hck:=hcop k hk
    have hsk:=(h.set k hk).1
    by_cases d:(gi p.sets k).bar≥f∧(gi p.sets k).bar<t
    ·rw [if_pos d] at e1
     have e2:(ctS p f t [⟨0,(gi p.sets (wan p (gi p.bars f)).toNat).reg⟩] (k+1)).length=(ctS p f t [⟨0,(gi p.sets (wan p (gi p.bars f)).toNat).reg⟩] k).length+1:=by rw [e1];simp
     repeat' (first|apply VWp.rseq|apply VWp.region|apply VWp.regionD|apply VWp.skipSeq|apply VWp.blockSeq|apply QSeq.normal|apply QBlk.normal|apply VOps.nil|apply VOpsD.nil|apply VOps.one|(apply VOpsD.bar;decide +kernel)|apply VOpsD.quiet|(apply VOps.take;rfl;rfl)|(apply VOps.guard;rfl;rfl)|(apply VVal.fn;rfl;rfl;exact hck;intro _;rfl)|(apply VVal.append1 (a:=(⟨(gi p.sets k).bar-f,(gi p.sets k).reg⟩:Stg));rfl;rfl;rfl;rfl;rfl;rfl;rfl;rfl;(intro _ h;cases h);rfl;rfl;rfl;decide;decide;(first|omega|(simp only [List.length_take,List.length_drop,List.length_append,List.length_singleton,List.length_cons,List.length_nil]<;>omega)))|(apply VVal.move;rfl)|(apply VVal.add64;rfl;rfl;omega)|(apply VVal.sub64;rfl;rfl;omega)|(apply VVal.int;rfl;rfl;rfl)|(apply VVal.indexN;rfl;rfl;rfl;omega;rfl)|(apply VVal.load;rfl;rfl)|(apply VVal.pick_true;rfl;rfl)|(apply VVal.fieldB;rfl;rfl;rfl)|(apply VVal.alloc;rfl)|(apply VVal.storeB;rfl;rfl;rfl;trivial;rfl;rfl;exact lt_dec rfl;exact le_dec rfl)|(apply VVal.build;rfl;rfl;rfl;rfl;rfl)|(apply VVal.buildSlice;rfl;rfl;rfl;decide;rfl;rfl;rfl)|(apply VWp.condSeq_dec;rfl)|(apply VWp.cond_dec;rfl)|(intro _;try (exfalso;omega)))
     all_goals try (exfalso;omega)
     refine QLoop.normal ⟨by first|omega|decide,?_,?_⟩
     ·try (rw [e2,e1])
      repeat (first|exact LCov.nil|refine LCov.same (by exact PV.under_of rfl) rfl ?_|refine LCov.cons trivial rfl (.of_eq (lst_len (by simp<;>omega))) ?_)
     ·rw [e2,e1]
      repeat (first|exact HCov.nil|(refine HCov.cons (lt_dec rfl) ?_ rfl ?_ ?_;(first|exact HB.under_of rfl|exact PVs.under_pure _ _|(simp [HB.under,PVs.under,PV.under]));(first|exact HLe.refl _|exact HLe.vec (FLes.refl _) (by simp))))
    ·rw [if_neg d] at e1
     repeat' (first|apply VWp.rseq|apply VWp.region|apply VWp.skipSeq|apply VWp.blockSeq|apply QSeq.normal|apply QBlk.normal|apply VWp.skip|apply VOps.nil|apply VOps.one|(apply VOps.take;rfl;rfl)|(apply VOps.drop;rfl;rfl;rfl)|(apply VOps.guard;rfl;rfl)|(apply VVal.move;rfl)|(apply VVal.add64;rfl;rfl;omega)|(apply VVal.int;rfl;rfl;rfl)|(apply VVal.indexN;rfl;rfl;rfl;omega;rfl)|(apply VVal.load;rfl;rfl)|(apply VVal.pick_true;rfl;rfl)|(apply VVal.pick_false;rfl;rfl)|(apply VVal.fieldB;rfl;rfl;rfl)|(apply VVal.alloc;rfl)|(apply VVal.storeB;rfl;rfl;rfl;trivial;rfl;rfl;exact lt_dec rfl;exact le_dec rfl)|(apply VWp.condSeq_dec;rfl)|(apply VWp.cond_false;rfl)|(apply VWp.cond_dec;rfl)|(intro _;try (exfalso;omega)))
     all_goals try (exfalso;omega)
     all_goals
      refine QLoop.normal ⟨by first|omega|decide,?_,?_⟩
      ·try (rw [e1])
       repeat (first|exact LCov.nil|refine LCov.same (by exact PV.under_of rfl) rfl ?_|refine LCov.cons trivial rfl (.of_eq (lst_len (by simp<;>omega))) ?_)
      ·rw [e1]
       repeat (first|exact HCov.nil|(refine HCov.cons (lt_dec rfl) ?_ rfl ?_ ?_;(first|exact HB.under_of rfl|exact PVs.under_pure _ _|(simp [HB.under,PVs.under,PV.under]));(first|exact HLe.refl _|exact HLe.vec (FLes.refl _) (by simp))))
   ·repeat' (first|(refine VWp.at 24 ?_;refine VWp.ghost (Ghost.trans (Ghost.freezeCell 4 1 rfl rfl rfl) (Ghost.freezeCell 4 2 rfl rfl rfl)) ?_;first|apply VWp.rseq|apply VWp.rseqD)|apply VWp.rseq|apply VWp.exitSeq|apply QSeq.normal|apply QBlk.exit|apply QLoop.exit|apply VWp.ret|apply VOps.nil|apply VOps.one|(apply VVal.assign;rfl)|(apply VVal.int;rfl;rfl;rfl)|(apply VVal.load;rfl;rfl)|(apply VVal.storeB;rfl;rfl;rfl;trivial;rfl;rfl;exact lt_dec rfl;exact le_dec rfl)|(apply VWp.condSeq_dec;rfl)|(intro _;try (exfalso;omega)))
    all_goals first|(exfalso;omega)|(refine Done.ret rfl (.refl _) (by exact PV.under_of rfl) HCov.nil (Nat.zero_le _) (Nat.le_refl _) ⟨?_,rfl,rfl⟩;try rfl)
  ·have hS:ctS0 p f=[]:=by unfold ctS0;rw [if_neg c]
   rw [hS]
   by_cases c2:0≤wan p (gi p.bars f)
   ·have hb:wan p (gi p.bars f)=((wan p (gi p.bars f)).toNat:Int):=by omega
    repeat' (first|apply VWp.assoc|apply VWp.rseq|apply VWp.skipSeq|apply VWp.exitSeq|apply VWp.blockSeq|apply QSeq.normal|apply QBlk.exit|apply QLoop.exit|apply VOps.nil|apply VOps.one|(apply VOps.take;rfl;rfl)|(apply VOps.guard;rfl;rfl)|(apply VVal.fn;rfl;rfl;exact hw;intro _;rfl)|(apply VVal.indexN (l:=p.sets) (i:=(wan p (gi p.bars f)).toNat);rfl;exact congrArg (fun b=>some (PV.p (.int .i64 b))) hb;rfl;omega;rfl)|(apply VVal.assign;rfl)|(apply VVal.move;rfl)|(apply VVal.int;rfl;rfl;rfl)|(apply VVal.load;rfl;rfl)|(apply VVal.pick_true;rfl;rfl)|(apply VVal.lenF;rfl;rfl)|(apply VVal.fieldB;rfl;rfl;rfl)|(apply VVal.fieldF;rfl;rfl)|(apply VWp.condSeq_dec;rfl)|(intro _;try (exfalso;omega)))
    all_goals try (exfalso;omega)
    apply VWp.loopR (p.sets.length) [(2,_),(3,_),(5,_),(8,_),(11,_),(118,_),(119,_)] [(1,_),(2,_),(5,_)] (fun k r=>(120,.p (.int .i64 (k:Int)))::r) (fun k r=>(6,.vec 74 (cells (ctS p f t [] k)) (ctS p f t [] k).length true)::(4,.box 45 [.p (.lst 3 (cells (ctB p f t)) (t+1-f)),.vec 5 (ctN p (gi p.bars f) (gi p.bars t) p.notes.length).length 0 (ctN p (gi p.bars f) (gi p.bars t) p.notes.length).length,.vec 6 (ctS p f t [] k).length 0 (ctS p f t [] k).length])::r) 7
    ·first|omega|decide
    ·first|omega|decide
    ·repeat (first|exact LCov.nil|(refine LCov.eq rfl ?_ ?_;(first|exact PV.under_of rfl|(simp [PV.under,PVs.under];done)))|refine LCov.cons trivial rfl (.of_eq (lst_len (by simp<;>omega))) ?_)
    ·repeat (first|exact HCov.nil|(refine HCov.eq rfl (lt_dec rfl) ?_ ?_;(first|exact HB.under_of rfl|exact PVs.under_pure _ _|(simp [HB.under,PVs.under,PV.under];done)))|(refine HCov.cons (lt_dec rfl) ?_ rfl ?_ ?_;(first|exact trivial|exact PVs.under_pure _ _|(simp [HB.under,PVs.under,PV.under]));(first|exact HLe.refl _|exact HLe.vec (FLes.refl _) (by simp))))
    ·intro k hk
     have hl2:=ctS_len p f t [] k
     have hl3:([]:List Stg).length≤1:=by simp
     have e1:ctS p f t [] (k+1)=if (gi p.sets k).bar≥f∧(gi p.sets k).bar<t then ctS p f t [] k++[⟨(gi p.sets k).bar-f,(gi p.sets k).reg⟩] else ctS p f t [] k:=rfl
     have hck:=hcop k hk
     have hsk:=(h.set k hk).1
     by_cases d:(gi p.sets k).bar≥f∧(gi p.sets k).bar<t
     ·rw [if_pos d] at e1
      have e2:(ctS p f t [] (k+1)).length=(ctS p f t [] k).length+1:=by rw [e1];simp
      repeat' (first|apply VWp.rseq|apply VWp.region|apply VWp.regionD|apply VWp.skipSeq|apply VWp.blockSeq|apply QSeq.normal|apply QBlk.normal|apply VOps.nil|apply VOpsD.nil|apply VOps.one|(apply VOpsD.bar;decide +kernel)|apply VOpsD.quiet|(apply VOps.take;rfl;rfl)|(apply VOps.guard;rfl;rfl)|(apply VVal.fn;rfl;rfl;exact hck;intro _;rfl)|(apply VVal.append1 (a:=(⟨(gi p.sets k).bar-f,(gi p.sets k).reg⟩:Stg));rfl;rfl;rfl;rfl;rfl;rfl;rfl;rfl;(intro _ h;cases h);rfl;rfl;rfl;decide;decide;(first|omega|(simp only [List.length_take,List.length_drop,List.length_append,List.length_singleton,List.length_cons,List.length_nil]<;>omega)))|(apply VVal.move;rfl)|(apply VVal.add64;rfl;rfl;omega)|(apply VVal.sub64;rfl;rfl;omega)|(apply VVal.int;rfl;rfl;rfl)|(apply VVal.indexN;rfl;rfl;rfl;omega;rfl)|(apply VVal.load;rfl;rfl)|(apply VVal.pick_true;rfl;rfl)|(apply VVal.fieldB;rfl;rfl;rfl)|(apply VVal.alloc;rfl)|(apply VVal.storeB;rfl;rfl;rfl;trivial;rfl;rfl;exact lt_dec rfl;exact le_dec rfl)|(apply VVal.build;rfl;rfl;rfl;rfl;rfl)|(apply VVal.buildSlice;rfl;rfl;rfl;decide;rfl;rfl;rfl)|(apply VWp.condSeq_dec;rfl)|(apply VWp.cond_dec;rfl)|(intro _;try (exfalso;omega)))
      all_goals try (exfalso;omega)
      refine QLoop.normal ⟨by first|omega|decide,?_,?_⟩
      ·try (rw [e2,e1])
       repeat (first|exact LCov.nil|refine LCov.same (by exact PV.under_of rfl) rfl ?_|refine LCov.cons trivial rfl (.of_eq (lst_len (by simp<;>omega))) ?_)
      ·rw [e2,e1]
       repeat (first|exact HCov.nil|(refine HCov.cons (lt_dec rfl) ?_ rfl ?_ ?_;(first|exact HB.under_of rfl|exact PVs.under_pure _ _|(simp [HB.under,PVs.under,PV.under]));(first|exact HLe.refl _|exact HLe.vec (FLes.refl _) (by simp))))
     ·rw [if_neg d] at e1
      repeat' (first|apply VWp.rseq|apply VWp.region|apply VWp.skipSeq|apply VWp.blockSeq|apply QSeq.normal|apply QBlk.normal|apply VWp.skip|apply VOps.nil|apply VOps.one|(apply VOps.take;rfl;rfl)|(apply VOps.drop;rfl;rfl;rfl)|(apply VOps.guard;rfl;rfl)|(apply VVal.move;rfl)|(apply VVal.add64;rfl;rfl;omega)|(apply VVal.int;rfl;rfl;rfl)|(apply VVal.indexN;rfl;rfl;rfl;omega;rfl)|(apply VVal.load;rfl;rfl)|(apply VVal.pick_true;rfl;rfl)|(apply VVal.pick_false;rfl;rfl)|(apply VVal.fieldB;rfl;rfl;rfl)|(apply VVal.alloc;rfl)|(apply VVal.storeB;rfl;rfl;rfl;trivial;rfl;rfl;exact lt_dec rfl;exact le_dec rfl)|(apply VWp.condSeq_dec;rfl)|(apply VWp.cond_false;rfl)|(apply VWp.cond_dec;rfl)|(intro _;try (exfalso;omega)))
      all_goals try (exfalso;omega)
      all_goals
       refine QLoop.normal ⟨by first|omega|decide,?_,?_⟩
       ·try (rw [e1])
        repeat (first|exact LCov.nil|refine LCov.same (by exact PV.under_of rfl) rfl ?_|refine LCov.cons trivial rfl (.of_eq (lst_len (by simp<;>omega))) ?_)
       ·rw [e1]
        repeat (first|exact HCov.nil|(refine HCov.cons (lt_dec rfl) ?_ rfl ?_ ?_;(first|exact HB.under_of rfl|exact PVs.under_pure _ _|(simp [HB.under,PVs.under,PV.under]));(first|exact HLe.refl _|exact HLe.vec (FLes.refl _) (by simp))))
    ·repeat' (first|(refine VWp.at 24 ?_;refine VWp.ghost (Ghost.trans (Ghost.freezeCell 4 1 rfl rfl rfl) (Ghost.freezeCell 4 2 rfl rfl rfl)) ?_;first|apply VWp.rseq|apply VWp.rseqD)|apply VWp.rseq|apply VWp.exitSeq|apply QSeq.normal|apply QBlk.exit|apply QLoop.exit|apply VWp.ret|apply VOps.nil|apply VOps.one|(apply VVal.assign;rfl)|(apply VVal.int;rfl;rfl;rfl)|(apply VVal.load;rfl;rfl)|(apply VVal.storeB;rfl;rfl;rfl;trivial;rfl;rfl;exact lt_dec rfl;exact le_dec rfl)|(apply VWp.condSeq_dec;rfl)|(intro _;try (exfalso;omega)))
     all_goals first|(exfalso;omega)|(refine Done.ret rfl (.refl _) (by exact PV.under_of rfl) HCov.nil (Nat.zero_le _) (Nat.le_refl _) ⟨?_,rfl,rfl⟩;try rfl)
   ·repeat' (first|apply VWp.assoc|apply VWp.rseq|apply VWp.skipSeq|apply VWp.exitSeq|apply VWp.blockSeq|apply QSeq.normal|apply QBlk.exit|apply QLoop.exit|apply VOps.nil|apply VOps.one|(apply VOps.drop;rfl;rfl;rfl)|(apply VOps.guard;rfl;rfl)|(apply VVal.fn;rfl;rfl;exact hw;intro _;rfl)|(apply VVal.assign;rfl)|(apply VVal.move;rfl)|(apply VVal.int;rfl;rfl;rfl)|(apply VVal.load;rfl;rfl)|(apply VVal.pick_false;rfl;rfl)|(apply VVal.lenF;rfl;rfl)|(apply VVal.fieldB;rfl;rfl;rfl)|(apply VWp.condSeq_false;rfl)|(apply VWp.condSeq_dec;rfl)|(intro _;try (exfalso;omega)))
    all_goals try (exfalso;omega)
    apply VWp.loopR (p.sets.length) [(2,_),(3,_),(5,_),(8,_),(11,_),(118,_),(119,_)] [(1,_),(2,_),(5,_)] (fun k r=>(120,.p (.int .i64 (k:Int)))::r) (fun k r=>(6,.vec 74 (cells (ctS p f t [] k)) (ctS p f t [] k).length true)::(4,.box 45 [.p (.lst 3 (cells (ctB p f t)) (t+1-f)),.vec 5 (ctN p (gi p.bars f) (gi p.bars t) p.notes.length).length 0 (ctN p (gi p.bars f) (gi p.bars t) p.notes.length).length,.vec 6 (ctS p f t [] k).length 0 (ctS p f t [] k).length])::r) 7
    ·first|omega|decide
    ·first|omega|decide
    ·repeat (first|exact LCov.nil|(refine LCov.eq rfl ?_ ?_;(first|exact PV.under_of rfl|(simp [PV.under,PVs.under];done)))|refine LCov.cons trivial rfl (.of_eq (lst_len (by simp<;>omega))) ?_)
    ·repeat (first|exact HCov.nil|(refine HCov.eq rfl (lt_dec rfl) ?_ ?_;(first|exact HB.under_of rfl|exact PVs.under_pure _ _|(simp [HB.under,PVs.under,PV.under];done)))|(refine HCov.cons (lt_dec rfl) ?_ rfl ?_ ?_;(first|exact trivial|exact PVs.under_pure _ _|(simp [HB.under,PVs.under,PV.under]));(first|exact HLe.refl _|exact HLe.vec (FLes.refl _) (by simp))))
    ·intro k hk
     have hl2:=ctS_len p f t [] k
     have hl3:([]:List Stg).length≤1:=by simp
     have e1:ctS p f t [] (k+1)=if (gi p.sets k).bar≥f∧(gi p.sets k).bar<t then ctS p f t [] k++[⟨(gi p.sets k).bar-f,(gi p.sets k).reg⟩] else ctS p f t [] k:=rfl
     have hck:=hcop k hk
     have hsk:=(h.set k hk).1
     by_cases d:(gi p.sets k).bar≥f∧(gi p.sets k).bar<t
     ·rw [if_pos d] at e1
      have e2:(ctS p f t [] (k+1)).length=(ctS p f t [] k).length+1:=by rw [e1];simp
      repeat' (first|apply VWp.rseq|apply VWp.region|apply VWp.regionD|apply VWp.skipSeq|apply VWp.blockSeq|apply QSeq.normal|apply QBlk.normal|apply VOps.nil|apply VOpsD.nil|apply VOps.one|(apply VOpsD.bar;decide +kernel)|apply VOpsD.quiet|(apply VOps.take;rfl;rfl)|(apply VOps.guard;rfl;rfl)|(apply VVal.fn;rfl;rfl;exact hck;intro _;rfl)|(apply VVal.append1 (a:=(⟨(gi p.sets k).bar-f,(gi p.sets k).reg⟩:Stg));rfl;rfl;rfl;rfl;rfl;rfl;rfl;rfl;(intro _ h;cases h);rfl;rfl;rfl;decide;decide;(first|omega|(simp only [List.length_take,List.length_drop,List.length_append,List.length_singleton,List.length_cons,List.length_nil]<;>omega)))|(apply VVal.move;rfl)|(apply VVal.add64;rfl;rfl;omega)|(apply VVal.sub64;rfl;rfl;omega)|(apply VVal.int;rfl;rfl;rfl)|(apply VVal.indexN;rfl;rfl;rfl;omega;rfl)|(apply VVal.load;rfl;rfl)|(apply VVal.pick_true;rfl;rfl)|(apply VVal.fieldB;rfl;rfl;rfl)|(apply VVal.alloc;rfl)|(apply VVal.storeB;rfl;rfl;rfl;trivial;rfl;rfl;exact lt_dec rfl;exact le_dec rfl)|(apply VVal.build;rfl;rfl;rfl;rfl;rfl)|(apply VVal.buildSlice;rfl;rfl;rfl;decide;rfl;rfl;rfl)|(apply VWp.condSeq_dec;rfl)|(apply VWp.cond_dec;rfl)|(intro _;try (exfalso;omega)))
      all_goals try (exfalso;omega)
      refine QLoop.normal ⟨by first|omega|decide,?_,?_⟩
      ·try (rw [e2,e1])
       repeat (first|exact LCov.nil|refine LCov.same (by exact PV.under_of rfl) rfl ?_|refine LCov.cons trivial rfl (.of_eq (lst_len (by simp<;>omega))) ?_)
      ·rw [e2,e1]
       repeat (first|exact HCov.nil|(refine HCov.cons (lt_dec rfl) ?_ rfl ?_ ?_;(first|exact HB.under_of rfl|exact PVs.under_pure _ _|(simp [HB.under,PVs.under,PV.under]));(first|exact HLe.refl _|exact HLe.vec (FLes.refl _) (by simp))))
     ·rw [if_neg d] at e1
      repeat' (first|apply VWp.rseq|apply VWp.region|apply VWp.skipSeq|apply VWp.blockSeq|apply QSeq.normal|apply QBlk.normal|apply VWp.skip|apply VOps.nil|apply VOps.one|(apply VOps.take;rfl;rfl)|(apply VOps.drop;rfl;rfl;rfl)|(apply VOps.guard;rfl;rfl)|(apply VVal.move;rfl)|(apply VVal.add64;rfl;rfl;omega)|(apply VVal.int;rfl;rfl;rfl)|(apply VVal.indexN;rfl;rfl;rfl;omega;rfl)|(apply VVal.load;rfl;rfl)|(apply VVal.pick_true;rfl;rfl)|(apply VVal.pick_false;rfl;rfl)|(apply VVal.fieldB;rfl;rfl;rfl)|(apply VVal.alloc;rfl)|(apply VVal.storeB;rfl;rfl;rfl;trivial;rfl;rfl;exact lt_dec rfl;exact le_dec rfl)|(apply VWp.condSeq_dec;rfl)|(apply VWp.cond_false;rfl)|(apply VWp.cond_dec;rfl)|(intro _;try (exfalso;omega)))
      all_goals try (exfalso;omega)
      all_goals
       refine QLoop.normal ⟨by first|omega|decide,?_,?_⟩
       ·try (rw [e1])
        repeat (first|exact LCov.nil|refine LCov.same (by exact PV.under_of rfl) rfl ?_|refine LCov.cons trivial rfl (.of_eq (lst_len (by simp<;>omega))) ?_)
       ·rw [e1]
        repeat (first|exact HCov.nil|(refine HCov.cons (lt_dec rfl) ?_ rfl ?_ ?_;(first|exact HB.under_of rfl|exact PVs.under_pure _ _|(simp [HB.under,PVs.under,PV.under]));(first|exact HLe.refl _|exact HLe.vec (FLes.refl _) (by simp))))
    ·repeat' (first|(refine VWp.at 24 ?_;refine VWp.ghost (Ghost.trans (Ghost.freezeCell 4 1 rfl rfl rfl) (Ghost.freezeCell 4 2 rfl rfl rfl)) ?_;first|apply VWp.rseq|apply VWp.rseqD)|apply VWp.rseq|apply VWp.exitSeq|apply QSeq.normal|apply QBlk.exit|apply QLoop.exit|apply VWp.ret|apply VOps.nil|apply VOps.one|(apply VVal.assign;rfl)|(apply VVal.int;rfl;rfl;rfl)|(apply VVal.load;rfl;rfl)|(apply VVal.storeB;rfl;rfl;rfl;trivial;rfl;rfl;exact lt_dec rfl;exact le_dec rfl)|(apply VWp.condSeq_dec;rfl)|(intro _;try (exfalso;omega)))
     all_goals first|(exfalso;omega)|(refine Done.ret rfl (.refl _) (by exact PV.under_of rfl) HCov.nil (Nat.zero_le _) (Nat.le_refl _) ⟨?_,rfl,rfl⟩;try rfl)
end Go.Proofs.YtnhdddmhkhdlhaaGreatDoor
namespace Go.Vm
open Go.Am
variable {E:Env} {L:Frame} {H:Heap} {nx:Nat}
section
variable {Q:PV→Heap→Nat→Prop} {w:Bool} {dst:Option Tmp} {ty:TypeId} {pos:String} {af:Array Edge} {gd:Option (Nat×Bool)}
end
end Go.Vm
namespace Go.Vm
open Go.Am
theorem cells_dropF {α:Type} [Enc α] (l:List α) (i f:Nat) (hi:i<l.length) (hf:f≤Enc.size α):(cells l).drop (i*Enc.size α+f)=(Enc.enc (gi l i)).drop f++cells (l.drop (i+1)):=by
 rw [← List.drop_drop,cells_drop l i hi,List.drop_append_of_le_length (by rw [Enc.len];exact hf)]
section
variable {E:Env} {L:Frame} {H:Heap} {nx:Nat} {Q:PV→Heap→Nat→Prop} {w:Bool}
variable {dst:Option Tmp} {ty:TypeId} {pos:String} {af:Array Edge} {gd:Option (Nat×Bool)}
variable {bn:Nat} {ops:Array Oper} {op:Op} {l:List Oper} {i:Nat} {R:Frame→Heap→Nat→Prop}
def VOpsDt (E:Env) (bn d:Nat) (ops:Array Oper) (i:Nat) (l:List Oper) (L:Frame) (H:Heap) (nx:Nat) (Q:Frame→Heap→Nat→Prop):Prop :=
 ∀ (B:Base),B.nx=bn→∀ m F σ t,Ctx E.Γ m F σ H nx→RL m F (htag H) σ nx L t→tget t d=.slice emptyAt 0 0→B.to m F σ H nx →
  AOpsD E.P E.O E.G ops i l ⟨t,m⟩ fun s'=>∃ L' H' nx' F' σ',Q L' H' nx'∧Ctx E.Γ s'.m F' σ' H' nx'∧RL s'.m F' (htag H') σ' nx' L' s'.t∧B.to s'.m F' σ' H' nx'
theorem VVal.loadVF {α:Type} {_:Enc α} {t:TypeId} {a:Operand} {b n i f:Nat} {e:TypeId} {l:List α} {z:Bool} {r:FV} (ha:vev E.Γ L a=some (.eref b n (i*Enc.size α+f))) (hb:hget H b=some (.vec e (cells l) n z)) (hi:i<l.length) (hf:f≤Enc.size α)
 (h:loadF E.P t ((Enc.enc (gi l i)).drop f++cells (l.drop (i+1)))=some r) (q:Q (.p r) H nx):VVal E w ⟨dst,.load t a,ty,pos,af,gd⟩ L H nx Q :=
 VVal.loadV ha hb (by rw [cells_dropF l i f hi hf];exact h) q
end
end Go.Vm
namespace Go.Proofs.YtnhdddmhkhdlhaaGreatDoor
open Go Go.Am Go.Vm Go.Pie
attribute [local irreducible] VVal VOps VOpsD VWp VCalls VFun VFunV QSeq QBlk QLoop Vm.Done DoneV DoneI
attribute [local irreducible] rchk windsE stoE dvsE cplE shiftR tailH
def lkF (p:Pce) (L:List Int) (k d:Nat):Nts:=ofK (kdK p L d k) (kdK p L d k).length
theorem ofK_left (l:List Int) (x:Int):∀ k,k≤l.length→ofK (l++[x]) k=ofK l k
 |0,_=>rfl
 |k+1,h=>by
  show withN (ofK (l++[x]) k) (gi (l++[x]) k).toNat=withN (ofK l k) (gi l k).toNat
  rw [ofK_left l x k (by omega),gi_left (by omega)]
theorem ofK_snoc (l:List Int) (x:Int):ofK (l++[x]) (l++[x]).length=withN (ofK l l.length) x.toNat:=by
 rw [List.length_append]
 show withN (ofK (l++[x]) l.length) (gi (l++[x]) l.length).toNat=_
 rw [ofK_left l x _ (Nat.le_refl _),gi_right]
theorem lkF_succ (p:Pce) (L:List Int) (k d:Nat):lkF p L (k+1) d=if (gi p.notes (gi L k).toNat).d=(d:Int) then withN (lkF p L k d) (gi p.notes (gi L k).toNat).k.toNat else lkF p L k d:=by
 unfold lkF
 have:kdK p L d (k+1)=if (gi p.notes (gi L k).toNat).d=(d:Int) then kdK p L d k++[(gi p.notes (gi L k).toNat).k] else kdK p L d k:=rfl
 rw [this]
 split
 ·exact ofK_snoc _ _
 ·rfl
theorem lkF_set {p:Pce} {L:List Int} {k n j:Nat} (hj:j<n) (h:(gi p.notes (gi L k).toNat).d=(j:Int)):(snocK (lkF p L k) n).set j (withN (gi (snocK (lkF p L k) n) j) (gi p.notes (gi L k).toNat).k.toNat)=snocK (lkF p L (k+1)) n:=by
 refine list_gi (by rw [List.length_set,snocK_len,snocK_len]) fun i hi=>?_
 rw [List.length_set,snocK_len] at hi
 rw [gi_set,snocK_gi _ hi,snocK_gi _ hi,snocK_gi _ hj,snocK_len,lkF_succ]
 by_cases e:j=i
 ·subst e;rw [if_pos ⟨rfl,hi⟩,if_pos h]
 ·rw [if_neg (fun h=>e h.1),if_neg (by omega)]
theorem lkF_zero (p:Pce) (L:List Int):∀ n,List.replicate n (⟨0,0⟩:Nts)=snocK (lkF p L 0) n
 |0=>rfl
 |n+1=>by
  rw [List.replicate_succ',lkF_zero p L n]
  rfl
theorem lKeys_spec {o:Org} {p:Pce} (ho:OrgK o) (h:PceK o p) (t:Int):VFun env 37 [.agg (Enc.enc o),.agg (Enc.enc p),.int .i64 t] (.p (.lst 93 (cells (keysR o p t)) (keysR o p t).length)):=by
 have hs:=lawSnd_spec p h.sm t
 have d1:=ho.divs
 have hg:=fun i=>snd_gi (p:=p) (t:=t) (i:=i)
 have hsl:(snd p t).length≤1000:=Nat.le_trans (sndK_len p t _) h.notes
 have n1:=h.notes
 have hK:keysR o p t=snocK (lkF p (snd p t) (snd p t).length) o.divs.length:=rfl
 rw [hK]
 generalize snd p t=L at *
 have hKl:(snocK (lkF p L L.length) o.divs.length).length=o.divs.length:=snocK_len _ _
 rw [hKl]
 refine VFun.enter (env_none (by decide)) Tryz.func37 rfl (by kernel_rfl) (by simp [Tryz.ntmps37]) ?_
 repeat' (first|(refine VOps.atOp 18 ?_;refine VOps.ghost (Ghost.freeze 17 rfl rfl) ?_)|apply VWp.assoc|apply VWp.rseq|apply VWp.blockSeq|apply VOps.nil|apply VOps.one|(apply VVal.fv;rfl;rfl;exact hs)|(apply VVal.makeSliceL o.divs.length (⟨0,0⟩:Nts);rfl;rfl;rfl;rfl;rfl;rfl;rfl;omega;decide;decide;rfl)|(apply VVal.assign;rfl)|(apply VVal.move;rfl)|(apply VVal.load;rfl;rfl)|(apply VVal.lenF;rfl;rfl)|(apply VVal.fieldB;rfl;rfl;rfl)|(apply VVal.box;rfl;trivial))
 all_goals try (exfalso;omega)
 rw [lkF_zero p L]
 apply VWp.loopR (L.length) [(4,_),(7,_),(17,_),(18,_)] [(1,_)] (fun k r=>(19,.p (.int .i64 (k:Int)))::r) (fun k r=>(2,.vec 93 (cells (snocK (lkF p L k) o.divs.length)) o.divs.length false)::r) 4
 ·first|omega|decide
 ·first|omega|decide
 ·repeat (first|exact LCov.nil|(refine LCov.eq rfl ?_ ?_;(first|exact PV.under_of rfl|(simp [PV.under,PVs.under];done)))|refine LCov.cons trivial rfl (.of_eq (lst_len (by simp<;>omega))) ?_)
 ·repeat (first|exact HCov.nil|(refine HCov.eq rfl (lt_dec rfl) ?_ ?_;(first|exact HB.under_of rfl|exact PVs.under_pure _ _|(simp [HB.under,PVs.under,PV.under];done)))|(refine HCov.cons (lt_dec rfl) ?_ rfl ?_ ?_;(first|exact trivial|exact PVs.under_pure _ _|(simp [HB.under,PVs.under,PV.under]));(first|exact HLe.refl _|exact HLe.vec (FLes.refl _) (by simp))))
 ·intro k hk
  obtain ⟨g1,g2⟩:=hg k hk
  obtain ⟨m,hm⟩:∃ m:Nat,gi L k=(m:Int):=⟨(gi L k).toNat,by omega⟩
  have hm2:m<p.notes.length:=by omega
  have hN:=h.note m hm2
  obtain ⟨j,hj⟩:∃ j:Nat,(gi p.notes m).d=(j:Int):=⟨(gi p.notes m).d.toNat,by have:=hN.d;omega⟩
  have hjn:j<o.divs.length:=by have:=hN.d;omega
  have hc:=ho.cmp (i:=j) hjn
  have hk2:=hN.k
  rw [hj,Int.toNat_natCast] at hk2
  obtain ⟨q,hq⟩:∃ q:Nat,(gi p.notes m).k=(q:Int):=⟨(gi p.notes m).k.toNat,by omega⟩
  have hq2:q<128:=by omega
  have hsl2:(snocK (lkF p L k) o.divs.length).length=o.divs.length:=snocK_len _ _
  have hjl:j<(snocK (lkF p L k) o.divs.length).length:=by omega
  have hok:(gi (snocK (lkF p L k) o.divs.length) j).Ok:=by
   rw [snocK_gi _ hjn]
   exact ofK_ok (kdK_rng ho h hg k (by omega)) _ (Nat.le_refl _)
  have s1:=hok.lo
  have s2:=hok.hi
  have e1:=lkF_set (p:=p) (L:=L) (k:=k) hjn (by rw [hm,Int.toNat_natCast];exact hj)
  rw [hm,Int.toNat_natCast,hq,Int.toNat_natCast] at e1
  generalize snocK (lkF p L k) o.divs.length=V at *
  unfold withN at e1
  by_cases h64:q<64
  ·rw [if_pos h64] at e1
   have p1:2 ^ q<2 ^ 64:=Nat.pow_lt_pow_right (by omega) h64
   repeat' (first|apply VWp.rseq|apply VWp.region|apply VWp.regionD|apply VWp.skipSeq|apply VWp.blockSeq|apply QSeq.normal|apply QBlk.normal|apply VOps.nil|apply VOpsD.nil|apply VOps.one|(apply VOpsD.bar;decide +kernel)|apply VOpsD.quiet|(apply VVal.indexN (l:=p.notes) (i:=m);rfl;exact congrArg (fun b=>some (PV.p (.int .i64 b))) hm;rfl;omega;rfl)|(apply VVal.indexVN (i:=j);rfl;rfl;exact congrArg (fun b=>some (PV.p (.int .i64 b))) hj;rfl;exact hjn)|(apply VVal.fieldV;rfl;rfl;rfl)|(apply VVal.loadVF;rfl;rfl;exact hjl;decide;rfl)|(apply shl1 q;rfl;rfl;omega)|(apply VVal.storeVF (α:=Nts) (i:=j) (f:=0) (y:=⟨(gi V j).lo ||| 2 ^ q,(gi V j).hi⟩) (fs:=[.int .u64 (((gi V j).lo ||| 2 ^ q:Nat):Int)]);rfl;rfl;rfl;trivial;rfl;rfl;rfl;decide;exact hjl;decide;exact .refl _)|(apply VVal.assign;rfl)|(apply VVal.move;rfl)|(apply VVal.add64;rfl;rfl;omega)|(apply VVal.orU;rfl;rfl;omega;omega)|(apply VVal.int;rfl;rfl;rfl)|(apply VVal.indexN;rfl;rfl;rfl;omega;rfl)|(apply VVal.load;rfl;rfl)|(apply VVal.fieldB;rfl;rfl;rfl)|(apply VVal.alloc;rfl)|(apply VVal.storeB;rfl;rfl;rfl;trivial;rfl;rfl;exact lt_dec rfl;exact le_dec rfl)|(apply VVal.convU;rfl;rfl;rfl;rfl;omega)|(apply VWp.condSeq_dec;rfl)|(apply VWp.cond_dec;rfl)|(intro _;try (exfalso;omega)))
   all_goals try (exfalso;omega)
   refine QLoop.normal ⟨by first|omega|decide,?_,?_⟩
   ·try (rw [e1])
    repeat (first|exact LCov.nil|refine LCov.same (by exact PV.under_of rfl) rfl ?_|refine LCov.cons trivial rfl (.of_eq (lst_len (by simp<;>omega))) ?_)
   ·rw [e1]
    repeat (first|exact HCov.nil|(refine HCov.cons (lt_dec rfl) ?_ rfl ?_ ?_;(first|exact HB.under_of rfl|exact PVs.under_pure _ _|(simp [HB.under,PVs.under,PV.under]));(first|exact HLe.refl _|exact HLe.vec (FLes.refl _) (by simp))))
  ·rw [if_neg h64] at e1
   have p1:2 ^ (q-64)<2 ^ 64:=Nat.pow_lt_pow_right (by omega) (by omega)
   have hq6:(gi p.notes m).k-64=((q-64:Nat):Int):=by omega
   repeat' (first|apply VWp.rseq|apply VWp.region|apply VWp.regionD|apply VWp.skipSeq|apply VWp.blockSeq|apply QSeq.normal|apply QBlk.normal|apply VOps.nil|apply VOpsD.nil|apply VOps.one|(apply VOpsD.bar;decide +kernel)|apply VOpsD.quiet|(apply VVal.indexN (l:=p.notes) (i:=m);rfl;exact congrArg (fun b=>some (PV.p (.int .i64 b))) hm;rfl;omega;rfl)|(apply VVal.indexVN (i:=j);rfl;rfl;exact congrArg (fun b=>some (PV.p (.int .i64 b))) hj;rfl;exact hjn)|(apply VVal.fieldV;rfl;rfl;rfl)|(apply VVal.loadVF (α:=Nts) (l:=V) (i:=j) (f:=1);rfl;rfl;exact hjl;decide;rfl)|(apply shl1 (q-64);rfl;rfl;omega)|(apply VVal.storeVF (α:=Nts) (i:=j) (f:=1) (y:=⟨(gi V j).lo,(gi V j).hi ||| 2 ^ (q-64)⟩) (fs:=[.int .u64 (((gi V j).hi ||| 2 ^ (q-64):Nat):Int)]);rfl;rfl;rfl;trivial;rfl;rfl;rfl;decide;exact hjl;decide;exact .refl _)|(apply VVal.assign;rfl)|(apply VVal.move;rfl)|(apply VVal.add64;rfl;rfl;omega)|(apply VVal.sub64;rfl;rfl;omega)|(apply VVal.orU;rfl;rfl;omega;omega)|(apply VVal.int;rfl;rfl;rfl)|(apply VVal.indexN;rfl;rfl;rfl;omega;rfl)|(apply VVal.load;rfl;rfl)|(apply VVal.fieldB;rfl;rfl;rfl)|(apply VVal.alloc;rfl)|(apply VVal.storeB;rfl;rfl;rfl;trivial;rfl;rfl;exact lt_dec rfl;exact le_dec rfl)|(apply VVal.convU;rfl;rfl;rfl;rfl;omega)|(apply VWp.condSeq_dec;rfl)|(apply VWp.cond_dec;rfl)|(intro _;try (exfalso;omega)))
   all_goals try (exfalso;omega)
   refine QLoop.normal ⟨by first|omega|decide,?_,?_⟩
   ·try (rw [e1])
    repeat (first|exact LCov.nil|refine LCov.same (by exact PV.under_of rfl) rfl ?_|refine LCov.cons trivial rfl (.of_eq (lst_len (by simp<;>omega))) ?_)
   ·rw [e1]
    repeat (first|exact HCov.nil|(refine HCov.cons (lt_dec rfl) ?_ rfl ?_ ?_;(first|exact HB.under_of rfl|exact PVs.under_pure _ _|(simp [HB.under,PVs.under,PV.under]));(first|exact HLe.refl _|exact HLe.vec (FLes.refl _) (by simp))))
 ·repeat' (first|(refine VWp.at 10 ?_;refine VWp.ghost (Ghost.freeze 7 rfl rfl) ?_;first|apply VWp.rseq|apply VWp.rseqD)|apply VWp.rseq|apply VWp.exitSeq|apply QSeq.normal|apply QBlk.exit|apply QLoop.exit|apply VWp.ret|apply VOps.nil|apply VOps.one|(apply VVal.assign;rfl)|(apply VVal.move;rfl)|(apply VVal.int;rfl;rfl;rfl)|(apply VWp.condSeq_dec;rfl)|(intro _;try (exfalso;omega)))
  all_goals first|(exfalso;omega)|(refine Done.ret rfl (.refl _) (by exact PV.under_of rfl) HCov.nil (Nat.zero_le _) (Nat.le_refl _) ⟨?_,rfl,rfl⟩;try rfl)
end Go.Proofs.YtnhdddmhkhdlhaaGreatDoor
namespace Go.Proofs.YtnhdddmhkhdlhaaGreatDoor
open Go Go.Am Go.Vm Go.Pie
attribute [local irreducible] VVal VOps VOpsD VWp VCalls VFun VFunV QSeq QBlk QLoop Vm.Done DoneV DoneI
attribute [local irreducible] rchk windsE stoE dvsE cplE shiftR tailH
noncomputable instance (a b:Rgs):Decidable (a=b):=Classical.propDecidable _
noncomputable instance (a b:Stg):Decidable (a=b):=Classical.propDecidable _
noncomputable instance (a b:Pce):Decidable (a=b):=Classical.propDecidable _
theorem all_succP {α:Type} [Inhabited α] {a b:List α} {k:Nat} (hok:∀ i,i<k→gi a i=gi b i) (h:gi a k=gi b k):∀ i,i<k+1→gi a i=gi b i:=fun i hi=>by
 rcases Nat.lt_or_ge i k with h1|h1
 ·exact hok i h1
 ·obtain rfl:i=k:=by omega
  exact h
theorem seq64 (a b:List Nat) (ha:a.length<9223372036854775808) (hb:b.length<9223372036854775808):VFun env 65 [.lst 68 (cells a) a.length,.lst 68 (cells b) b.length] (.p (.bool (decide (a=b)))):=by
 by_cases hlen:a.length=b.length
 case neg =>
  rw [decide_eq_false (fun e=>hlen (by rw [e]))]
  refine VFun.enter (env_none (by decide)) Tryz.func65 rfl (by kernel_rfl) (by simp [Tryz.ntmps65]) ?_
  repeat' (first|apply VWp.assoc|apply VWp.rseq|apply VWp.retSeq|apply VOps.nil|apply VOps.one|(apply VVal.assign;rfl)|(apply VVal.move;rfl)|(apply VVal.int;rfl;rfl;rfl)|(apply VVal.lenF;rfl;rfl)|(apply VWp.condSeq_dec;rfl)|(intro _;try (exfalso;omega)))
  all_goals first|(exfalso;omega)|contradiction|(refine Done.ret rfl (.refl _) (by exact PV.under_of rfl) HCov.nil (Nat.zero_le _) (Nat.le_refl _) ⟨?_,rfl,rfl⟩;try rfl)
 refine VFun.enter (env_none (by decide)) Tryz.func65 rfl (by kernel_rfl) (by simp [Tryz.ntmps65]) ?_
 repeat' (first|apply VWp.assoc|apply VWp.rseq|apply VWp.skipSeq|apply VWp.blockSeq|apply VOps.nil|apply VOps.one|(apply VVal.assign;rfl)|(apply VVal.move;rfl)|(apply VVal.int;rfl;rfl;rfl)|(apply VVal.lenF;rfl;rfl)|(apply VWp.condSeq_dec;rfl)|(intro _;try (exfalso;omega)))
 all_goals try (exfalso;omega)
 apply VWp.loopRI (a.length) (fun k=>∀ i,i<k→gi a i=gi b i) [(0,_),(1,_),(12,_)] [] (fun k r=>(13,.p (.int .i64 (k:Int)))::r) (fun k r=>r) 0
 ·first|omega|decide
 ·first|omega|decide
 ·repeat (first|exact LCov.nil|(refine LCov.eq rfl ?_ ?_;(first|exact PV.under_of rfl|(simp [PV.under,PVs.under];done)))|refine LCov.cons trivial rfl (.of_eq (lst_len (by simp<;>omega))) ?_)
 ·repeat (first|exact HCov.nil|(refine HCov.eq rfl (lt_dec rfl) ?_ ?_;(first|exact HB.under_of rfl|exact PVs.under_pure _ _|(simp [HB.under,PVs.under,PV.under];done)))|(refine HCov.cons (lt_dec rfl) ?_ rfl ?_ ?_;(first|exact trivial|exact PVs.under_pure _ _|(simp [HB.under,PVs.under,PV.under]));(first|exact HLe.refl _|exact HLe.vec (FLes.refl _) (by simp))))
 ·first|(intro _ _;omega)|omega|trivial
 ·intro k hk hok
  by_cases h:gi a k=gi b k
  ·repeat' (first|apply VWp.rseq|apply VWp.rseqD|apply VWp.region|apply VWp.skipSeq|apply VWp.blockSeq|apply QSeq.normal|apply QBlk.normal|apply VWp.skip|apply VOps.nil|apply VOpsD.nil|apply VOps.one|(apply VOpsD.bar;decide +kernel)|apply VOpsD.quiet|(apply VVal.assign;rfl)|(apply VVal.move;rfl)|(apply VVal.add64;rfl;rfl;omega)|(apply VVal.int;rfl;rfl;rfl)|(apply VVal.indexN;rfl;rfl;rfl;omega;rfl)|(apply VVal.load;rfl;rfl)|(apply VWp.condSeq_dec;rfl)|(apply VWp.cond_dec;rfl)|(intro _;try (exfalso;omega)))
   all_goals try (exfalso;omega)
   all_goals try contradiction
   refine QLoop.normal ⟨(all_succP hok h),by first|omega|decide,?_,?_⟩
   ·repeat (first|exact LCov.nil|refine LCov.same (by exact PV.under_of rfl) rfl ?_|refine LCov.cons trivial rfl (.of_eq (lst_len (by simp<;>omega))) ?_)
   ·repeat (first|exact HCov.nil|(refine HCov.cons (lt_dec rfl) ?_ rfl ?_ ?_;(first|exact HB.under_of rfl|exact PVs.under_pure _ _|(simp [HB.under,PVs.under,PV.under]));(first|exact HLe.refl _|exact HLe.vec (FLes.refl _) (by simp))))
  ·rw [decide_eq_false (fun e=>h (by rw [e]))]
   repeat' (first|apply VWp.rseq|apply VWp.rseqD|apply VWp.skipSeq|apply VWp.blockSeq|apply QSeq.ret|apply QBlk.ret|apply QLoop.ret|apply VWp.ret|apply VOps.nil|apply VOpsD.nil|apply VOps.one|(apply VOpsD.bar;decide +kernel)|apply VOpsD.quiet|(apply VVal.assign;rfl)|(apply VVal.move;rfl)|(apply VVal.int;rfl;rfl;rfl)|(apply VVal.indexN;rfl;rfl;rfl;omega;rfl)|(apply VVal.load;rfl;rfl)|(apply VWp.condSeq_dec;rfl)|(apply VWp.cond_dec;rfl)|(intro _;try (exfalso;omega)))
   all_goals first|(exfalso;omega)|contradiction|(refine Done.ret rfl (.refl _) (by exact PV.under_of rfl) HCov.nil (Nat.zero_le _) (Nat.le_refl _) ⟨?_,rfl,rfl⟩;try rfl)
 ·intro hok
  rw [decide_eq_true (gi_ext hlen hok)]
  repeat' (first|apply VWp.rseq|apply VWp.exitSeq|apply QSeq.normal|apply QBlk.exit|apply QLoop.exit|apply VWp.ret|apply VOps.nil|apply VOps.one|(apply VVal.assign;rfl)|(apply VVal.int;rfl;rfl;rfl)|(apply VWp.condSeq_dec;rfl)|(intro _;try (exfalso;omega)))
  all_goals first|(exfalso;omega)|contradiction|(refine Done.ret rfl (.refl _) (by exact PV.under_of rfl) HCov.nil (Nat.zero_le _) (Nat.le_refl _) ⟨?_,rfl,rfl⟩;try rfl)
theorem rgs_dec {a b:Rgs}:(a=b)↔(a.stops=b.stops∧a.cp=b.cp∧a.off=b.off):=by
 constructor
 ·rintro rfl;exact ⟨rfl,rfl,rfl⟩
 ·rintro ⟨h1,h2,h3⟩;cases a;cases b;simp_all
theorem sameR_spec (a b:Rgs) (ha:a.stops.length<9223372036854775808) (hb:b.stops.length<9223372036854775808):VFun env 33 [.agg (Enc.enc a),.agg (Enc.enc b)] (.p (.bool (decide (a=b)))):=by
 have hs:=seq64 a.stops b.stops ha hb
 by_cases h1:a.stops=b.stops<;>by_cases h2:a.cp=b.cp<;>by_cases h3:a.off=b.off
 all_goals first|rw [decide_eq_true h1] at hs|rw [decide_eq_false h1] at hs
 all_goals first|rw [decide_eq_true (rgs_dec.2 ⟨h1,h2,h3⟩)]|rw [decide_eq_false (fun e=>by have:=rgs_dec.1 e;simp_all)]
 all_goals
  refine VFun.enter (env_none (by decide)) Tryz.func33 rfl (by kernel_rfl) (by simp [Tryz.ntmps33]) ?_
 all_goals
  repeat' (first|apply VWp.rseq|apply VWp.ret|apply VOps.nil|apply VOps.one|(apply VOps.take;rfl;rfl)|(apply VOps.drop;rfl;rfl;rfl)|(apply VOps.guard;rfl;rfl)|(apply VVal.fn;rfl;rfl;exact hs;intro _;rfl)|(apply VVal.assign;rfl)|(apply VVal.move;rfl)|(apply VVal.int;rfl;rfl;rfl)|(apply VVal.load;rfl;rfl)|(apply VVal.pick_true;rfl;rfl)|(apply VVal.pick_false;rfl;rfl)|(apply VVal.fieldB;rfl;rfl;rfl)|(apply VVal.box;rfl;trivial)|(intro _;try (exfalso;omega)))
 all_goals first|(exfalso;omega)|contradiction|(refine Done.ret rfl (.refl _) (by exact PV.under_of rfl) HCov.nil (Nat.zero_le _) (Nat.le_refl _) ⟨?_,rfl,rfl⟩;try rfl)
 all_goals exact PV.bool_eq (by simp;omega)
end Go.Proofs.YtnhdddmhkhdlhaaGreatDoor
namespace Go.Vm
open Go.Am
variable {E:Env} {L:Frame} {H:Heap} {nx:Nat} {Q:PV→Heap→Nat→Prop} {w:Bool}
variable {dst:Option Tmp} {ty:TypeId} {pos:String} {af:Array Edge} {gd:Option (Nat×Bool)}
theorem VVal.sliceV {t:TypeId} {x:Operand} {lo hi:Option Operand} {e:TypeId} {cs:List FV} {b n off len a c sz:Nat} {z:Bool} {inf:TypeInfo} (hx:vev E.Γ L x=some (.vec b n off len)) (hb:hget H b=some (.vec e cs n z)) (hn:0<n) (ht:E.P.underlying t=some (.slice e)) (hi':E.P.info? e=some inf) (hsz:inf.size=sz)
 (hlo:match lo with|none=>a=0|some o=>∃ k,vev E.Γ L o=some (.p (.int k (a:Int)))) (hhi:match hi with|none=>c=len|some o=>∃ k,vev E.Γ L o=some (.p (.int k (c:Int)))) (hac:a≤c) (hcl:c≤len)
 (q:Q (.vec b n (off+a*sz) (c-a)) H nx):VVal E w ⟨dst,.slice t x lo hi none,ty,pos,af,gd⟩ L H nx Q :=
 VVal.quiet q fun m F σ tt h1 h2=>by
  have hblo:bnd 0 (lo.map (ev tt))=some a:=by
   cases lo with
   |none=>simp only at hlo;rw [hlo];rfl
   |some o =>
    obtain ⟨k,hk⟩:=hlo
    simp only [Option.map_some,vev_int h1 h2 hk,bnd]
    rw [if_pos (by omega)];simp
  have hbhi:bnd len (hi.map (ev tt))=some c:=by
   cases hi with
   |none=>simp only at hhi;rw [hhi];rfl
   |some o =>
    obtain ⟨k,hk⟩:=hhi
    simp only [Option.map_some,vev_int h1 h2 hk,bnd]
    rw [if_pos (by omega)];simp
  have hsub:=vev_vec h1 h2 hx hb
  obtain ⟨hlt,hr⟩:=h1.hp b _ hb
  rcases hr with ⟨r1,r2,r3⟩|⟨d,g,vs,r1,r2,r3,r4,r5,r6,r7⟩
  ·omega
  rw [r1] at hsub
  simp only [SubOf] at hsub
  refine ⟨.slice (some ⟨d,off+a*sz,none⟩) (c-a) g,fun _=>?_,.vec hlt rfl fun j hj=>?_⟩
  ·simp only [aval,aop,hsub,aslice,Option.isSome_none,Option.map_none,Bool.false_and,Bool.false_eq_true,if_false,ht,hi',hblo,hbhi,r4,hac,hcl,r2,and_self,if_true,Option.map_some,hsz]
  ·simp only [htag,hb,HB.tag,Option.map_some,Option.some.injEq,Tg.vec.injEq] at hj
   refine ⟨by omega,fun _=>?_⟩
   rw [r1];rfl
theorem put_cells {m:Mem} {F:Nat→Prop} {σ:Nat→Value} {b n off c g:Nat} {e:TypeId} {cs fs:List FV} {vs l:List Value} {z:Bool} (h1:Ctx E.Γ m F σ H nx) (hb:hget H b=some (.vec e cs n z)) (hn:0<n) (h4:σ b=.slice (some ⟨c,0,none⟩) n g) (r2:c<m.size) (r3:¬ F c) (r4:m.get c=.cells vs e g false) (r5:RFs m F cs vs) (r6:vs.all isCell=true)
 (hl:RFs m F fs l) (hc:l.all isCell=true) :
 Ctx E.Γ (m.put c (.cells (splice vs off l) e g false)) F (upd σ b (σ b)) (hput H b (.vec e (psplice cs off fs) n z)) nx∧Step m F σ H nx (m.put c (.cells (splice vs off l) e g false)) F (upd σ b (σ b)) (hput H b (.vec e (psplice cs off fs) n z)) nx:=by
 have hput':∀ d,c≠d→(m.put c (.cells (splice vs off l) e g false)).get d=m.get d:=fun d hd=>by rw [Mem.get_put,if_neg hd]
 exact h1.change (m':=m.put c (.cells (splice vs off l) e g false)) (x':=.vec e (psplice cs off fs) n z) (s':=σ b) hb (Nat.le_refl _) (fun _=>rfl) (Nat.le_refl _)
  (fun d _ hd=>hput' d fun e=>hd (by rw [h4,e];rfl)) (fun k k1 k2 k3=>by
   have:=k3 c (by rw [h4];rfl)
   simp only [Mem.put];omega) (fun d hd=>.inl hd) (by
   refine .inr ⟨c,g,splice vs off l,h4,r2,r3,by rw [Mem.get_put,if_pos rfl],?_,all_splice _ r6 hc,fun h=>by omega⟩
   exact (RFs.splice off r5 hl).mono (fun d hd=>⟨hd,hput' d fun e=>r3 (e▸hd)⟩))
def SlT (Γ:Nat→Option (List Value×TypeId)) (L:Frame) (H:Heap) (nx:Nat) (x:Operand) (sz n:Nat) (xs:List FV) (k:Nat):Prop :=
 ∀ m F σ t,Ctx Γ m F σ H nx→RL m F (htag H) σ nx L t→lenOf (ev t x)=some n∧∃ l,sliceCells m sz k (ev t x)=some l∧RFs m F xs l∧l.all isCell=true
theorem SlT.lst {Γ:Nat→Option (List Value×TypeId)} {x:Operand} {e:TypeId} {sz n k:Nat} {xs ys:List FV} (h:vev Γ L x=some (.p (.lst e xs n))) (hl:xs.length=n*sz) (hk:k≤n) (hy:ys=xs.take (k*sz)):SlT Γ L H nx x sz n ys k:=fun m F σ t h1 h2=>by
 subst hy
 have:=vev_rel h1 h2 h
 generalize ev t x=v at this
 cases this with
 |p h =>
  cases h with
  |nil=>obtain rfl:k=0:=by omega
        exact ⟨rfl,[],rfl,by rw [Nat.zero_mul,List.take_zero];exact .nil,rfl⟩
  |room=>obtain rfl:k=0:=by omega
         exact ⟨rfl,[],rfl,by rw [Nat.zero_mul,List.take_zero];exact .nil,rfl⟩
  |lst hF hm hw hr hc =>
   rename_i b o g vs ws ro
   refine ⟨rfl,ws.take (k*sz),?_,RFs.take _ hr,all_take hc _⟩
   have h3:=takeN_take (k:=k*sz) hw
   rw [hl,Nat.min_eq_left (Nat.mul_le_mul_right sz hk)] at h3
   simp only [sliceCells,if_pos hk,Mem.cellsAt,hm]
   simp only [agen,Option.getD_some,if_true]
   exact h3
theorem SlT.vec {Γ:Nat→Option (List Value×TypeId)} {x:Operand} {b n off len sz k:Nat} {e:TypeId} {cs ys:List FV} {z:Bool} (h:vev Γ L x=some (.vec b n off len)) (hb:hget H b=some (.vec e cs n z)) (hn:0<n) (hl:off+len*sz≤cs.length) (hk:k≤len) (hy:ys=(cs.drop off).take (k*sz)) :
 SlT Γ L H nx x sz len ys k:=fun m F σ t h1 h2=>by
 subst hy
 have hsub:=vev_vec h1 h2 h hb
 obtain ⟨_,hr⟩:=h1.hp b _ hb
 rcases hr with ⟨r1,r2,r3⟩|⟨c,g,vs,r1,r2,r3,r4,r5,r6,r7⟩
 ·omega
 ·rw [r1] at hsub
  simp only [SubOf] at hsub
  rw [hsub]
  have hlen:=r5.length
  have h0:=Nat.mul_le_mul_right sz hk
  have hle:k*sz≤(vs.drop off).length:=by rw [List.length_drop];omega
  refine ⟨rfl,(vs.drop off).take (k*sz),?_,RFs.take _ (RFs.drop off r5),all_take (all_drop r6 _) _⟩
  simp only [sliceCells,if_pos hk,Mem.cellsAt,r4]
  simp only [agen,Option.getD_some,if_true,takeN,if_pos hle]
theorem VVal.copy {d x:Operand} {dT xT e:TypeId} {i:TypeInfo} {b n off len k N:Nat} {cs xs:List FV} {z:Bool} (hd:vev E.Γ L d=some (.vec b n off len)) (hb:hget H b=some (.vec e cs n z)) (hn:0<n)
 (hdT:E.P.underlying dT=some (.slice e)) (hi:E.P.info? e=some i) (hsz:0<i.size) (hx:SlT E.Γ L H nx x i.size N xs k) (hk:k=min N len) (h0:0<k) (hxs:xs.length=k*i.size) (hl:off+k*i.size≤cs.length) (q:Q (.p (.int .i64 (k:Int))) (hput H b (.vec e (psplice cs off xs) n z)) nx) :
 VVal E true ⟨dst,.call { callee:=.builtin .copy,args:=#[d,x],argTypes:=#[dT,xT] },ty,pos,af,gd⟩ L H nx Q:=by
 intro m F σ t h1 h2
 have hsub:=vev_vec h1 h2 hd hb
 obtain ⟨hx1,l,hx2,hx3,hx4⟩:=hx m F σ t h1 h2
 obtain ⟨hlt,hr⟩:=h1.hp b _ hb
 rcases hr with ⟨r1,r2,r3⟩|⟨c,g,vs,r1,r2,r3,r4,r5,r6,r7⟩
 ·omega
 rw [r1] at hsub
 simp only [SubOf] at hsub
 have hlen:=hx3.length
 have hlen2:=r5.length
 obtain ⟨d1,d2⟩:=put_cells (E:=E) (off:=off) h1 hb hn r1 r2 r3 r4 r5 r6 hx3 hx4
 refine AVal.op (v:=.int .i64 (k:Int)) (m':=m.put c (.cells (splice vs off l) e g false)) (fun _=>?_) ⟨_,_,_,F,_,q,d1,.p (.int _ _),d2,fun h=>by cases h⟩
 have hk2:(k:Nat)=Nat.min N len:=hk
 have hp:=Nat.mul_pos h0 hsz
 simp only [aval,aop,acopy,List.map_toArray,List.map_cons,List.map_nil,List.getElem?_toArray,List.getElem?_cons_zero,List.getElem?_cons_succ,hsub,hdT,hx1,hi]
 rw [← hk2,if_neg (by omega),hx2]
 simp only [storeRow,r4,agen,Option.getD_some,beq_self_eq_true,Bool.true_and]
 rw [if_pos (by simp only [Bool.and_eq_true,decide_eq_true_eq];exact ⟨⟨by rw [← hlen,hxs,← hlen2];exact ⟨trivial,hl⟩,by rw [← hlen,hxs];exact hp⟩,hx4⟩)]
 rfl
def leftReg:Code→Option Nat
 | .region n _ _=>some n
 | .seq a b=>match leftReg a with
  |some n=>some n
  |none=>leftReg b
 | .block _ b=>leftReg b
 | .loop b=>leftReg b
 | .scope b=>leftReg b
 |_=>none
def loopAt (r:Nat):Code→Option Code
 | .loop b=>match leftReg b with
  |some n=>match Nat.beq n r with
   |true=>some (.loop b)
   |false=>loopAt r b
  |none=>loopAt r b
 | .seq a b=>match loopAt r a with
  |some c=>some c
  |none=>loopAt r b
 | .cond _ a b=>match loopAt r a with
  |some c=>some c
  |none=>loopAt r b
 | .block _ b=>loopAt r b
 | .scope b=>loopAt r b
 | .rangeFunc _ _ _ b=>loopAt r b
 |_=>none
def loopOf (fn:Func) (r:Nat):Code:=match fn.body with
 |some c=>match loopAt r c with
  |some c=>c
  |none=>.skip
 |none=>.skip
theorem psplice_eq {α:Type}:∀ (r cs:List α) (o:Nat),o+r.length≤cs.length→psplice cs o r=cs.take o++r++cs.drop (o+r.length)
 |[],cs,o,h=>by simp [psplice]
 |a::r,cs,o,h=>by
  simp only [List.length_cons] at h
  have ih:=psplice_eq r (cs.set o a) (o+1) (by simp;omega)
  simp only [psplice]
  rw [ih]
  have e1:(cs.set o a).take (o+1)=cs.take o++[a]:=by
   rw [List.take_succ_eq_append_getElem (by simp;omega)]
   rw [List.take_set_of_le (by omega)]
   simp
  have e2:(cs.set o a).drop (o+1+r.length)=cs.drop (o+(r.length+1)):=by
   rw [List.drop_set_of_lt (by omega)]
   congr 1
   omega
  rw [e1,e2]
  simp [Nat.add_assoc]
theorem psplice_many {α:Type} [Enc α] (l r:List α) (i:Nat) (h:i+r.length≤l.length):psplice (cells l) (i*Enc.size α) (cells r)=cells (l.take i++r++l.drop (i+r.length)):=by
 rw [psplice_eq _ _ _ (by rw [cells_length,cells_length,← Nat.add_mul];exact Nat.mul_le_mul_right _ h),cells_length,← Nat.add_mul,cells_take,cells_drop',← cells_append,← cells_append]
end Go.Vm
namespace Go.Proofs.YtnhdddmhkhdlhaaGreatDoor
open Go Go.Am Go.Vm
instance encLI:Enc (List Int):={ default:=[],enc:=fun l=>[.lst 3 (cells l) l.length],size:=1,len:=fun _=>rfl }
attribute [local irreducible] VVal VOps VOpsD VWp VCalls VFun VFunV QSeq QBlk QLoop Vm.Done DoneV DoneI
theorem bmul64_spec (n:Nat) (hn:n<4294967296):VFun env 136 [.int .u64 1,.int .u64 (n:Int)] (.tup [.p (.int .u64 0),.p (.int .u64 (n:Int))]):=by
 have e1:n &&& 4294967295=n:=by
  have:=Nat.and_two_pow_sub_one_eq_mod n 32
  rw [show (2 ^ 32-1:Nat)=4294967295 from rfl] at this
  rw [this]
  exact Nat.mod_eq_of_lt (by simpa using hn)
 have hA1:vint .and .u64 (n:Int) 4294967295=some (.int .u64 (n:Int)):=by
  have h0:=bits_and_u64_nat n 4294967295 (by omega) (by omega)
  rw [e1] at h0
  exact congrArg (fun x=>some (FV.int .u64 x)) h0
 have hA2:vint .mul .u64 1 (n:Int)=some (.int .u64 (n:Int)):=by
  simp only [vint,Int.one_mul];rw [wrap_u64 (by omega) (by omega)]
 have hZ:vint .mul .u64 0 (n:Int)=some (.int .u64 0):=by
  simp only [vint,Int.zero_mul];rfl
 have hS:∀ a:Int,0≤a→a<4294967296→(FV.int .u64 0)=if BinOp.shr=.shl then FV.int .u64 (IntKind.u64.wrap (a*2 ^ (min (32:Int).toNat IntKind.u64.bits))) else .int .u64 (a.fdiv (2 ^ (min (32:Int).toNat IntKind.u64.bits))):=fun a h0 h1=>by
  rw [if_neg (by decide)]
  have e3:(min (32:Int).toNat IntKind.u64.bits)=32:=rfl
  rw [e3,Int.fdiv_eq_ediv_of_nonneg _ (by decide)]
  have:a / 2 ^ 32=0:=by omega
  rw [this]
 have k1:vint .and .u64 1 4294967295=some (.int .u64 1):=rfl
 have k2:vint .and .u64 0 4294967295=some (.int .u64 0):=rfl
 have k3:vint .mul .u64 1 0=some (.int .u64 0):=rfl
 have k4:vint .mul .u64 0 0=some (.int .u64 0):=rfl
 have k5:vint .add .u64 0 0=some (.int .u64 0):=rfl
 refine VFun.enter (env_none (by decide)) Tryz.func136 rfl (by kernel_rfl) (by simp [Tryz.ntmps136]) ?_
 repeat' (first|apply VWp.rseq|apply VWp.ret|apply VOps.nil|apply VOps.one|(apply VVal.shift (r:=.int .u64 0);exact .inr rfl;rfl;rfl;decide;exact hS _ (by omega) (by omega))|(apply VVal.int;rfl;rfl;exact hA1)|(apply VVal.int;rfl;rfl;exact hA2)|(apply VVal.int;rfl;rfl;exact hZ)|(apply VVal.int;rfl;rfl;exact k1)|(apply VVal.int;rfl;rfl;exact k2)|(apply VVal.assign;rfl)|(apply VVal.move;rfl))
 (refine Done.ret rfl (.refl _) (by exact PV.under_of rfl) HCov.nil (Nat.zero_le _) (Nat.le_refl _) ⟨?_,rfl,rfl⟩;try rfl)
theorem bmul_spec (n:Nat) (hn:n<4294967296):VFun env 128 [.int .u64 1,.int .u64 (n:Int)] (.tup [.p (.int .u64 0),.p (.int .u64 (n:Int))]):=by
 have h:=bmul64_spec n hn
 refine VFun.enter (env_none (by decide)) Tryz.func128 rfl (by kernel_rfl) (by simp [Tryz.ntmps128]) ?_
 repeat' (first|apply VWp.rseq|apply VWp.skipSeq|apply VWp.ret|apply VOps.nil|apply VOps.one|(apply VVal.fn;rfl;rfl;exact h;intro _;rfl)|(apply VVal.assign;rfl)|(apply VVal.move;rfl)|(apply VVal.extract;rfl;rfl)|(apply VWp.condSeq_false;rfl))
 (refine Done.ret rfl (.refl _) (by exact PV.under_of rfl) HCov.nil (Nat.zero_le _) (Nat.le_refl _) ⟨?_,rfl,rfl⟩;try rfl)
def repS (n k:Nat) (v:Int):List Int:=List.replicate k v++List.replicate (n-k) 0
theorem repS_len (n k:Nat) (v:Int) (h:k≤n):(repS n k v).length=n:=by simp [repS];omega
theorem repS_all (n:Nat) (v:Int):repS n n v=List.replicate n v:=by simp [repS]
theorem repS_one (n:Nat) (v:Int) (h:0<n):psplice (cells (List.replicate n (0:Int))) 0 [FV.int .i64 v]=cells (repS n 1 v):=by
 have:=psplice_many (List.replicate n (0:Int)) [v] 0 (by simp;omega)
 rw [Nat.zero_mul] at this
 show psplice (cells (List.replicate n (0:Int))) 0 (cells [v])=_
 rw [this]
 congr 1
 simp [repS]
theorem repS_ok (n k:Nat) (v:Int) (h:k≤n):0+k*1≤(cells (repS n k v)).length:=by
 rw [cells_length,repS_len n k v h]
 show 0+k*1≤n*1
 omega
theorem repS_cut (n k:Nat) (v:Int) (h:k≤n):cells (List.replicate (min k (n-k)) v)=((cells (repS n k v)).drop 0).take (min k (n-k)*1):=by
 have:=cells_take (repS n k v) (min k (n-k))
 rw [List.drop_zero]
 refine Eq.trans ?_ this.symm
 congr 1
 unfold repS
 rw [List.take_append_of_le_length (by simp;omega),List.take_replicate]
 congr 1
 omega
theorem repS_xs (n k:Nat) (v:Int):(cells (List.replicate (min k (n-k)) v)).length=min k (n-k)*1:=by
 rw [cells_length,List.length_replicate];rfl
theorem repS_room (n k:Nat) (v:Int) (h:k≤n):0+k*1+min k (n-k)*1≤(cells (repS n k v)).length:=by
 rw [cells_length,repS_len n k v h]
 show _≤n*1
 omega
theorem repS_put (n k:Nat) (v:Int) (h:k≤n):psplice (cells (repS n k v)) (0+k*1) (cells (List.replicate (min k (n-k)) v))=cells (repS n (k+min k (n-k)) v):=by
 have:=psplice_many (repS n k v) (List.replicate (min k (n-k)) v) k (by rw [repS_len n k v h];simp;omega)
 rw [Nat.zero_add]
 refine Eq.trans this ?_
 congr 1
 unfold repS
 rw [List.take_append_of_le_length (by simp),List.take_replicate,Nat.min_self,List.length_replicate,List.drop_append,List.drop_of_length_le (by simp),List.length_replicate,List.nil_append,List.drop_replicate,List.replicate_append_replicate]
 congr 2
 omega
theorem repeat_spec (e:TypeId) (v:Int) (n:Nat) (h0:0<n) (hn:n<1000000):VFunV env 115 [.lst e [.int .i64 v] 1,.int .i64 (n:Int)] 3 (cells (List.replicate n v)) n false:=by
 have hm:=bmul_spec n (by omega)
 refine VFunV.enter (env_none (by decide)) Tryz.func115 rfl (by kernel_rfl) (by simp [Tryz.ntmps115]) ?_
 repeat' (first|apply VWp.assoc|apply VWp.rseq|apply VWp.skipSeq|apply VWp.blockSeq|apply VOps.nil|apply VOps.one|(apply VOps.take;rfl;rfl)|(apply VVal.fn;rfl;rfl;exact hm;intro _;rfl)|(apply VVal.makeSliceL n (0:Int);rfl;rfl;rfl;rfl;rfl;rfl;rfl;omega;decide;decide;rfl)|(apply VVal.copy (k:=1) (N:=1) (xs:=[.int .i64 v]);rfl;rfl;exact h0;rfl;rfl;decide;exact SlT.lst rfl rfl (Nat.le_refl 1) rfl;omega;decide;rfl;(rw [cells_length,List.length_replicate];show 0+1*1≤n*1;omega))|(apply VVal.assign;rfl)|(apply VVal.move;rfl)|(apply VVal.int;rfl;rfl;rfl)|(apply VVal.pick_false;rfl;rfl)|(apply VVal.lenF;rfl;rfl)|(apply VVal.extract;rfl;rfl)|(apply VVal.convI;rfl;rfl;rfl;rfl;omega)|(apply VVal.convU;rfl;rfl;rfl;rfl;omega)|(apply VWp.condSeq_false;rfl)|(apply VWp.condSeq_dec;rfl)|(intro _;try (exfalso;omega)))
 all_goals try (exfalso;omega)
 refine VWp.loopQ (fun k:Nat=>[(7,.vec 0 n 0 n),(8,.p (.int .i64 (k:Int)))]) (fun k=>[(0,.vec 3 (cells (repS n k v)) n false)]) 1 (fun k=>1≤k∧k≤n) (fun k=>n-k) 1 (by omega) ⟨by omega,by omega⟩ ⟨by omega,?_,?_⟩ ?_
 ·repeat (first|exact LCov.nil|refine LCov.same (by exact PV.under_of rfl) rfl ?_|refine LCov.cons trivial rfl (.of_eq (lst_len (by simp<;>omega))) ?_)
 ·have:=repS_one n v h0
  rw [this]
  repeat (first|exact HCov.nil|(refine HCov.cons (lt_dec rfl) ?_ rfl ?_ ?_;(first|exact HB.under_of rfl|exact PVs.under_pure _ _|(simp [HB.under,PVs.under,PV.under]));(first|exact HLe.refl _|exact HLe.vec (FLes.refl _) (by simp))))
 ·rintro k ⟨k1,k2⟩
  have hl:=repS_len n k v k2
  by_cases hk:k<n
  ·repeat' (first|apply VWp.assoc|apply VWp.rseq|apply VWp.regionD|apply VWp.skipSeq|apply QBlk.normal|apply VWp.blockQ|apply VOps.nil|apply VOpsD.nil|apply VOps.one|(apply VOpsD.bar;decide +kernel)|apply VOpsD.quiet|(apply VVal.sliceV (sz:=1) (a:=k) (c:=n);rfl;rfl;exact h0;rfl;rfl;rfl;exact ⟨_,rfl⟩;rfl;omega;exact Nat.le_refl _)|(apply VVal.sliceV (sz:=1) (a:=0) (c:=k);rfl;rfl;exact h0;rfl;rfl;rfl;rfl;exact ⟨_,rfl⟩;omega;exact k2)|(apply VVal.copy (k:=min k (n-k)) (N:=k) (xs:=cells (List.replicate (min k (n-k)) v));rfl;rfl;exact h0;rfl;rfl;decide;exact SlT.vec rfl rfl h0 (repS_ok n k v k2) (by omega) (repS_cut n k v k2);rfl;omega;exact repS_xs n k v;exact repS_room n k v k2)|(apply VVal.assign;rfl)|(apply VVal.move;rfl)|(apply VVal.add64;rfl;rfl;omega)|(apply VVal.int;rfl;rfl;rfl)|(apply VVal.lenV;rfl;rfl;rfl)|(apply VWp.condSeq_dec;rfl)|(intro _;try (exfalso;omega)))
   refine QLoop.normal ⟨k+min k (n-k),⟨by omega,by omega⟩,by omega,⟨by omega,?_,?_⟩⟩
   ·repeat (first|exact LCov.nil|refine LCov.same (by exact PV.under_of rfl) rfl ?_|refine LCov.cons trivial rfl (.of_eq (lst_len (by simp<;>omega))) ?_)
   ·rw [repS_put n k v k2]
    repeat (first|exact HCov.nil|(refine HCov.cons (lt_dec rfl) ?_ rfl ?_ ?_;(first|exact HB.under_of rfl|exact PVs.under_pure _ _|(simp [HB.under,PVs.under,PV.under]));(first|exact HLe.refl _|exact HLe.vec (FLes.refl _) (by simp))))
  ·obtain rfl:k=n:=by omega
   repeat' (first|apply VWp.assoc|apply VWp.rseq|apply VWp.exitSeq|apply QSeq.normal|apply QBlk.exit|apply QLoop.exit|apply VWp.ret|apply VOps.nil|apply VOps.one|(apply VVal.assign;rfl)|(apply VVal.move;rfl)|(apply VVal.int;rfl;rfl;rfl)|(apply VVal.lenV;rfl;rfl;rfl)|(apply VWp.condSeq_dec;rfl)|(intro _;try (exfalso;omega)))
   rw [repS_all]
   exact DoneV.ret rfl rfl rfl rfl
end Go.Proofs.YtnhdddmhkhdlhaaGreatDoor
namespace Go.Proofs.YtnhdddmhkhdlhaaGreatDoor
open Go Go.Am Go.Vm Go.Pie
attribute [local irreducible] VVal VOps VOpsD VWp VCalls VFun VFunV QSeq QBlk QLoop Vm.Done DoneV DoneI
attribute [local irreducible] rchk windsE stoE dvsE cplE shiftR tailH
def exR (c:UInt8):Rnk:=⟨[c],[102,108,117,116,101],⟨8,1⟩,36,List.replicate 25 1⟩
def exS (n feet sh:Int):Stp:=⟨[97],⟨feet,1⟩,[⟨36,48,[⟨n,sh⟩]⟩]⟩
def exD1:Dvs:=⟨[111,110,101],false,36,48,[exS 0 8 0]⟩
def exD2:Dvs:=⟨[116,119,111],false,36,48,[exS 1 4 12]⟩
def exO:Org:=⟨[101],[exR 114,exR 115],[exD1,exD2],[⟨[99],0,1,0,false⟩]⟩
def exG:Rgs:=⟨[1,0],0,0⟩
def exP:Pce:=⟨[0,4,8],[⟨0,6,0,40⟩,⟨4,8,0,43⟩],[⟨1,exG⟩]⟩
theorem exR_spec (c:UInt8):VFun env 93 [.str (bs [c])] (.p (.agg (Enc.enc (exR c)))):=by
 have hr:=repeat_spec 3 1 25 (by decide) (by decide)
 refine VFun.enter (env_none (by decide)) Tryz.func93 rfl (by kernel_rfl) (by simp [Tryz.ntmps93]) ?_
 repeat' (first|(refine VOps.atOp 6 ?_;refine VOps.ghost (Ghost.freeze 5 rfl rfl) ?_)|(refine VOps.atOp 7 ?_;refine VOps.ghost (Ghost.freeze 6 rfl rfl) ?_)|apply VWp.rseq|apply VWp.ret|apply VOps.nil|apply VOps.one|(apply VVal.fv;rfl;rfl;exact hr)|(apply VVal.move;rfl)|(apply VVal.alloc;rfl)|(apply VVal.storeB;rfl;rfl;rfl;trivial;rfl;rfl;exact lt_dec rfl;exact le_dec rfl)|(apply VVal.build;rfl;rfl;rfl;rfl;rfl)|(apply VVal.buildSlice;rfl;rfl;rfl;decide;rfl;rfl;rfl))
 all_goals first|(exfalso;omega)|(refine Done.ret rfl (.refl _) (by exact PV.under_of rfl) HCov.nil (Nat.zero_le _) (Nat.le_refl _) ⟨?_,rfl,rfl⟩;try rfl)
theorem exS_spec (n feet sh:Int):VFun env 92 [.int .i64 n,.int .i64 feet,.int .i64 sh] (.p (.lst 127 (cells [exS n feet sh]) 1)):=by
 refine VFun.enter (env_none (by decide)) Tryz.func92 rfl (by kernel_rfl) (by simp [Tryz.ntmps92]) ?_
 repeat' (first|(refine VOps.atOp 13 ?_;refine VOps.ghost (Ghost.freeze 12 rfl rfl) ?_)|(refine VOps.atOp 15 ?_;refine VOps.ghost (Ghost.freeze 14 rfl rfl) ?_)|(refine VOps.atOp 6 ?_;refine VOps.ghost (Ghost.freeze 16 rfl rfl) ?_)|apply VWp.rseq|apply VWp.ret|apply VOps.nil|apply VOps.one|(apply VVal.assign;rfl)|(apply VVal.move;rfl)|(apply VVal.build;rfl;rfl;rfl;rfl;rfl)|(apply VVal.buildSlice;rfl;rfl;rfl;decide;rfl;rfl;rfl))
 all_goals first|(exfalso;omega)|(refine Done.ret rfl (.refl _) (by exact PV.under_of rfl) HCov.nil (Nat.zero_le _) (Nat.le_refl _) ⟨?_,rfl,rfl⟩;try rfl)
theorem exO_spec:VFun env 72 [] (.p (.agg (Enc.enc exO))):=by
 have h1:=exR_spec 114
 have h2:=exR_spec 115
 have h3:=exS_spec 0 8 0
 have h4:=exS_spec 1 4 12
 refine VFun.enter (env_none (by decide)) Tryz.func72 rfl (by kernel_rfl) (by simp [Tryz.ntmps72]) ?_
 repeat' (first|(refine VOpsD.atIdx 14 ?_;refine VOpsD.ghost (Ghost.trans (Ghost.freeze 6 rfl rfl) (Ghost.trans (Ghost.freeze 15 rfl rfl) (Ghost.freeze 17 rfl rfl))) ?_)|apply VWp.rseq|apply VWp.rseqD|apply VWp.ret|apply VOps.nil|apply VOpsD.nil|apply VOps.one|(apply VOpsD.bar;decide +kernel)|apply VOpsD.quiet|(apply VVal.fn;rfl;rfl;exact h1;intro _;rfl)|(apply VVal.fn;rfl;rfl;exact h2;intro _;rfl)|(apply VVal.fn;rfl;rfl;exact h3;intro _;rfl)|(apply VVal.fn;rfl;rfl;exact h4;intro _;rfl)|(apply VVal.assign;rfl)|(apply VVal.move;rfl)|(apply VVal.load;rfl;rfl)|(apply VVal.alloc;rfl)|(apply VVal.storeB;rfl;rfl;rfl;trivial;rfl;rfl;exact lt_dec rfl;exact le_dec rfl)|(apply VVal.build;rfl;rfl;rfl;rfl;rfl)|(apply VVal.buildSlice;rfl;rfl;rfl;decide;rfl;rfl;rfl))
 all_goals first|(exfalso;omega)|(refine Done.ret rfl (.refl _) (by exact PV.under_of rfl) HCov.nil (Nat.zero_le _) (Nat.le_refl _) ⟨?_,rfl,rfl⟩;try rfl)
theorem exP_spec:VFun env 38 [] (.tup [.p (.agg (Enc.enc exO)),.p (.agg (Enc.enc exP))]):=by
 have h1:=exO_spec
 refine VFun.enter (env_none (by decide)) Tryz.func38 rfl (by kernel_rfl) (by simp [Tryz.ntmps38]) ?_
 repeat' (first|(refine VOps.atOp 4 ?_;refine VOps.ghost (Ghost.freeze 3 rfl rfl) ?_)|(refine VOpsD.atIdx 8 ?_;refine VOpsD.ghost (Ghost.trans (Ghost.freeze 6 rfl rfl) (Ghost.trans (Ghost.freeze 9 rfl rfl) (Ghost.freeze 12 rfl rfl))) ?_)|(refine VOpsD.atIdx 9 ?_;apply VOpsD.weak [.tmp 2];decide +kernel;rfl;rfl;(first|exact VOwn.ref rfl|exact VOwn.vec rfl|exact VOwn.eref rfl);decide +kernel;rfl)|apply VWp.rseq|apply VWp.rseqD|apply VWp.ret|apply VOps.nil|apply VOpsD.nil|apply VOps.one|(apply VOpsD.bar;decide +kernel)|apply VOpsD.quiet|(apply VVal.fn;rfl;rfl;exact h1;intro _;rfl)|(apply VVal.load;rfl;rfl)|(apply VVal.alloc;rfl)|(apply VVal.storeB;rfl;rfl;rfl;trivial;rfl;rfl;exact lt_dec rfl;exact le_dec rfl)|(apply VVal.build;rfl;rfl;rfl;rfl;rfl)|(apply VVal.buildSlice;rfl;rfl;rfl;decide;rfl;rfl;rfl))
 all_goals first|(exfalso;omega)|(refine Done.ret rfl (.refl _) (by exact PV.under_of rfl) HCov.nil (Nat.zero_le _) (Nat.le_refl _) ⟨?_,rfl,rfl⟩;try rfl)
end Go.Proofs.YtnhdddmhkhdlhaaGreatDoor
namespace Go.Proofs.YtnhdddmhkhdlhaaGreatDoor
open Go Go.Am Go.Vm Go.Pie
attribute [local irreducible] VVal VOps VOpsD VWp VCalls VFun VFunV QSeq QBlk QLoop Vm.Done DoneV DoneI
attribute [local irreducible] rchk windsE stoE dvsE cplE shiftR tailH
instance (c:Nat):Decidable (isL c):=by unfold isL;infer_instance
theorem nm_al (s:List UInt8) (h0:0<s.length) (h1:s.length≤32) (h:∀ i,i<s.length→isL (gi s i).toNat):nameOk s:=⟨h0,h1,h 0 h0,fun i _ hi=>.inl (h i hi)⟩
theorem lt2 {i:Nat} (h:i<2):i=0∨i=1:=by omega
theorem pk1 (n:Int) (h:n=8∨n=4):pchk ⟨n,1⟩=0:=pchk_ok.2 (by rcases h with rfl|rfl<;>decide +kernel)
theorem exR_ok {c:UInt8} (hc:isL c.toNat):rchk (exR c)=0:=by
 unfold rchk
 have h1:nameOk (exR c).name:=⟨by show 0<1;decide,by show 1≤32;decide,hc,fun i h1 h2=>by
  have:i<1:=h2
  omega⟩
 have h2:nameOk (exR c).tone:=nm_al [102,108,117,116,101] (by decide) (by decide) (by decide)
 have h3:pchk (exR c).feet=0:=pk1 8 (.inl rfl)
 have hw:(exR c).wind=List.replicate 25 1:=rfl
 rw [if_neg (by rintro (h|h);exact h h1;exact h h2),if_neg (fun h=>h h3),if_neg (by show ¬ ((36:Int)< -256∨(36:Int)>256);omega),hw,List.length_replicate,if_neg (by omega),if_neg (by omega)]
 unfold windsE
 rw [if_pos]
 intro j hj
 rw [List.length_replicate] at hj
 have:gi (List.replicate 25 (1:Int)) j=1:=by unfold gi;rw [List.getElem?_replicate,if_pos hj];rfl
 rw [this]
 decide
theorem exRk:∀ i,i<[exR 114,exR 115].length→rchk (gi [exR 114,exR 115] i)=0:=fun i hi=>by
 rcases lt2 hi with rfl|rfl
 ·exact exR_ok (c:=114) (by decide)
 ·exact exR_ok (c:=115) (by decide)
theorem exS_ok {n feet sh:Int} (h1:0≤n∧n<2) (h2:feet=8∨feet=4) (h3:-127≤sh∧sh≤127):stoE [exR 114,exR 115] 36 48 (exS n feet sh)=0:=by
 unfold stoE
 rw [plcE_zero exRk (by decide) (by decide),if_neg (fun h=>h rfl)]
 unfold stpE
 have e1:nameOk (exS n feet sh).name:=nm_al [97] (by decide) (by decide) (by decide)
 have e2:pchk (exS n feet sh).feet=0:=pk1 feet h2
 have es:(exS n feet sh).segs=[⟨36,48,[⟨n,sh⟩]⟩]:=rfl
 rw [if_neg (fun h=>h e1),if_neg (fun h=>h e2),es,if_neg (by simp),if_neg (by simp)]
 exact segsE_one (by simp) (drwE_one ⟨h1,h3⟩)
theorem exDv {nm:List UInt8} {s:Stp} (h:stoE [exR 114,exR 115] 36 48 s=0):dvsE [exR 114,exR 115] ⟨nm,false,36,48,[s]⟩=0:=by
 unfold dvsE
 rw [show cmpE 36 48=0 from cmpE_zero (by decide),if_neg (fun h=>h rfl),if_neg (by show ¬ ([s].length>60);simp)]
 exact stosE_zero (fun i hi=>by
  obtain rfl:i=0:=by
   have:i<1:=hi
   omega
  exact ⟨h,by simp⟩) _ 0 rfl
theorem exO_err:orgE exO=0:=by
 have eR:exO.ranks=[exR 114,exR 115]:=rfl
 have eD:exO.divs=[exD1,exD2]:=rfl
 have eC:exO.cpls=[⟨[99],0,1,0,false⟩]:=rfl
 have eN:exO.name=[101]:=rfl
 unfold orgE
 rw [eR,eD,eC,eN]
 have hr:rnkE [exR 114,exR 115] 0=0:=rnkE_zero (fun i hi=>⟨exRk i hi,by
  rcases lt2 hi with rfl|rfl
  ·simp
  ·show [115]∉[[114]];simp⟩) _ 0 rfl
 have hd:divsE [exR 114,exR 115] [exD1,exD2] 0=0:=divsE_zero (fun i hi=>by
  rcases lt2 hi with rfl|rfl
  ·exact ⟨nm_al [111,110,101] (by decide) (by decide) (by decide),by simp,exDv (exS_ok (by decide) (.inl rfl) (by decide))⟩
  ·exact ⟨nm_al [116,119,111] (by decide) (by decide) (by decide),by show [116,119,111]∉[[111,110,101]];simp,exDv (exS_ok (by decide) (.inr rfl) (by decide))⟩) _ 0 rfl
 rw [if_neg (fun h=>h (nm_al [101] (by decide) (by decide) (by decide))),if_neg (by simp),if_neg (fun h=>h hr),if_neg (by simp),if_neg (by simp),if_neg (fun h=>h hd)]
 unfold cplE
 rw [if_neg (by simp)]
 have hc:cpsE ([exD1,exD2].map fun d=>(⟨d.lo,d.hi⟩:Cps)) 0=0:=cpsE_zero (fun i hi=>by
  rcases lt2 hi with rfl|rfl
  ·exact cmpE_zero (by decide)
  ·exact cmpE_zero (by decide)) _ 0 rfl
 rw [if_neg (fun h=>h hc)]
 exact cplsE_zero (fun i hi=>by
  obtain rfl:i=0:=by
   have:i<1:=hi
   omega
  exact ⟨⟨nm_al [99] (by decide) (by decide) (by decide),by decide,by decide,by decide,by decide⟩,by simp⟩) _ 0 rfl
theorem exS_sm (n feet sh:Int):StpSm (exS n feet sh):=⟨by show 1<1000000;decide,by show 1<1000000;decide,fun i hi=>by
 obtain rfl:i=0:=by
  have:i<1:=hi
  omega
 exact ⟨by show 1<1000000;decide⟩⟩
theorem exR_sm (c:UInt8):RnkSm (exR c):=⟨by show 1<1000000;decide,by show 5<1000000;decide,by show (List.replicate 25 1).length<1000000;decide⟩
theorem exO_sm:OrgSm exO:=by
 refine ⟨by show 1<1000000;decide,by show 2<1000000;decide,by show 2<1000000;decide,by show 1<1000000;decide,fun i hi=>?_,fun i hi=>?_,fun i hi=>?_⟩
 ·rcases lt2 hi with rfl|rfl
  ·exact exR_sm 114
  ·exact exR_sm 115
 ·rcases lt2 hi with rfl|rfl
  ·refine ⟨by show 3<1000000;decide,by show 1<1000000;decide,fun j hj=>?_⟩
   obtain rfl:j=0:=by
    have:j<1:=hj
    omega
   exact exS_sm 0 8 0
  ·refine ⟨by show 3<1000000;decide,by show 1<1000000;decide,fun j hj=>?_⟩
   obtain rfl:j=0:=by
    have:j<1:=hj
    omega
   exact exS_sm 1 4 12
 ·obtain rfl:i=0:=by
   have:i<1:=hi
   omega
  show 1<1000000
  decide
theorem exO_k:OrgK exO:=orgK exO_sm exO_err
theorem exG_reg:regE exO exG=0:=by
 rw [regE_rest rfl (fun i hi=>by
  rcases lt2 hi with rfl|rfl
  ·rfl
  ·rfl)]
 rfl
theorem exP_sm:PceSm exP:=⟨by show 3<1000000;decide,by show 2<1000000;decide,by show 1<1000000;decide,fun i hi=>by
 obtain rfl:i=0:=by
  have:i<1:=hi
  omega
 exact ⟨fun j hj=>by
  rcases lt2 hj with rfl|rfl
  ·show 1<18446744073709551616;decide
  ·show 0<18446744073709551616;decide,by show 0<18446744073709551616;decide,by show 0<18446744073709551616;decide,by show 2<9223372036854775808;decide⟩⟩
theorem exP_k:PceK exO exP:=by
 refine pceK_of exP_sm ⟨by show 2≤3;decide,by show 3≤201;decide⟩ (fun i hi=>?_) (by show 2≤1000;decide) (fun i hi=>?_) (by show 1≤100;decide) fun i hi=>?_
 ·have:i=0∨i=1∨i=2:=by
   have:i<3:=hi
   omega
  rcases this with rfl|rfl|rfl
  ·exact ⟨by decide,fun h=>by omega⟩
  ·exact ⟨by decide,fun _=>by decide⟩
  ·exact ⟨by decide,fun _=>by decide⟩
 ·rcases lt2 hi with rfl|rfl
  ·exact ⟨by decide,by decide,by decide,fun j hj=>by omega⟩
  ·refine ⟨by decide,by decide,by decide,fun j hj=>?_⟩
   obtain rfl:j=0:=by omega
   decide
 ·obtain rfl:i=0:=by
   have:i<1:=hi
   omega
  exact ⟨by decide,fun h=>by omega,exG_reg⟩
theorem exP_err:pceE exO exP=0:=by unfold pceE;rw [if_neg (fun h=>h exO_err)];exact exP_k.err
theorem exP_at {t:Int} (h:0≤t∧t<8):atE exO exP t=0:=by
 unfold atE
 rw [if_neg (fun h=>h exP_err),if_neg]
 show ¬ (t<0∨t≥8)
 omega
theorem exP_tks:tksP exP=[0,4,6,8]:=by
 refine inc_ext (compact_inc (sort_pair _)) (by unfold Inc;simp) fun x=>?_
 unfold tksP
 rw [compact_mem,List.mem_mergeSort]
 have:zsK exP exP.notes.length=[0,8,0,6,4,8]:=rfl
 rw [this]
 simp only [List.mem_cons,List.not_mem_nil,or_false]
 omega
theorem exP_snd:sndL exP=[⟨0,4,[0]⟩,⟨4,6,[0,1]⟩,⟨6,8,[1]⟩]:=by
 unfold sndL
 rw [exP_tks]
 decide +kernel
theorem exP_cut:(cutP exP 1 2).notes=[⟨4,6,0,40⟩,⟨4,8,0,43⟩]:=by decide +kernel
theorem known_spec:VFun env 11 [] (.p (.bool true)):=by
 have h0:=exP_spec
 have hs:=Slices_spec exO_sm exP_err exP_k
 rw [exP_snd] at hs
 have h3:=Wanted_spec exO_k exP_k 3 (exP_at (by decide))
 rw [show wan exP 3=-1 from rfl] at h3
 have h4:=Wanted_spec exO_k exP_k 4 (exP_at (by decide))
 rw [show wan exP 4=0 from rfl,show wanR exO exP 4=exG from rfl] at h4
 have hc:=Cut_spec exO_k exP_err exP_k 1 2 (by decide) (by decide)
 have ec:=exP_cut
 generalize cutP exP 1 2=C at *
 obtain ⟨cb,cn,cs⟩:=C
 simp only at ec
 subst ec
 generalize wanR exO exP 3=W at *
 refine VFun.enter (env_none (by decide)) Tryz.func11 rfl (by kernel_rfl) (by simp [Tryz.ntmps11]) ?_
 repeat' (first|apply VWp.rseq|apply VWp.ret|apply VOps.nil|apply VOps.one|(apply VOps.take;rfl;rfl)|(apply VVal.fn;rfl;rfl;exact h0;intro _;rfl)|(apply VVal.fn;rfl;rfl;exact hs;intro _;rfl)|(apply VVal.fn;rfl;rfl;exact h3;intro _;rfl)|(apply VVal.fn;rfl;rfl;exact h4;intro _;rfl)|(apply VVal.fn;rfl;rfl;exact hc;intro _;rfl)|(apply VVal.indexF;rfl;rfl;rfl;decide;(first|decide|simp))|(apply VVal.assign;rfl)|(apply VVal.move;rfl)|(apply VVal.int;rfl;rfl;rfl)|(apply VVal.load;rfl;rfl)|(apply VVal.pick_true;rfl;rfl)|(apply VVal.lenF;rfl;rfl)|(apply VVal.fieldB;rfl;rfl;rfl)|(apply VVal.fieldF;rfl;rfl)|(apply VVal.alloc;rfl)|(apply VVal.storeB;rfl;rfl;rfl;trivial;rfl;rfl;exact lt_dec rfl;exact le_dec rfl)|(apply VVal.extract;rfl;rfl))
 all_goals try (exfalso;omega)
 all_goals (refine Done.ret rfl (.refl _) (by exact PV.under_of rfl) HCov.nil (Nat.zero_le _) (Nat.le_refl _) ⟨?_,rfl,rfl⟩;try rfl)
end Go.Proofs.YtnhdddmhkhdlhaaGreatDoor
namespace Go.Proofs.YtnhdddmhkhdlhaaGreatDoor
open Go Go.Am Go.Vm
theorem nat_u8 {n:Int} (h:(Lit.int .u8 n).wf=true):∃ m:Nat,m<256∧n=m:=by
 simp [Lit.wf,IntKind.min,IntKind.max,IntKind.signed,IntKind.bits] at h
 exact ⟨n.toNat,by omega,by omega⟩
theorem int_i8 {n:Int} (h:(Lit.int .i8 n).wf=true):-128≤n∧n≤127:=by
 simp [Lit.wf,IntKind.min,IntKind.max,IntKind.signed,IntKind.bits] at h
 omega
theorem int_i64 {n:Int} (h:(Lit.int .i64 n).wf=true):-9223372036854775808≤n∧n≤9223372036854775807:=by
 simp [Lit.wf,IntKind.min,IntKind.max,IntKind.signed,IntKind.bits] at h
 omega
theorem map_choose {α β:Type} {R:β→α→Prop}:∀ {l:List α},(∀ x∈l,∃ y,R y x)→∃ r:List β,All2 R r l
 |[],_=>⟨[],.nil⟩
 |a::l,h=>by
  obtain ⟨y,hy⟩:=h a (by simp)
  obtain ⟨r,hr⟩:=map_choose (l:=l) (fun x hx=>h x (by simp [hx]))
  exact ⟨y::r,.cons hy hr⟩
theorem flat_cells {α:Type} [Enc α] {p:α→Prop}:∀ {r:List α} {L:List (List FV)},All2 (fun a fs=>fs=Enc.enc a∧p a) r L→L.flatten=cells r∧L.length=r.length∧∀ i,i<r.length→p (gi r i)
 |_,_,.nil=>⟨rfl,rfl,fun i hi=>by simp at hi⟩
 |a::r,fs::L,.cons ⟨h1,h2⟩ t=>by
  obtain ⟨e1,e2,e3⟩:=flat_cells t
  refine ⟨by rw [List.flatten_cons,e1,h1];rfl,by simp [e2],fun i hi=>?_⟩
  cases i with
  |zero=>exact h2
  |succ i=>exact e3 i (by simpa using hi)
section
variable {α β:Type} {R:α→β→Prop} {a b c d e:α} {r:List β}
theorem all2_one (h:All2 R [a] r):∃ x,r=[x]∧R a x:=by
 cases h with|cons h1 t=>cases t;exact ⟨_,rfl,h1⟩
theorem all2_two (h:All2 R [a,b] r):∃ x y,r=[x,y]∧R a x∧R b y:=by
 cases h with|cons h1 t=>obtain ⟨x,rfl,h2⟩:=all2_one t;exact ⟨_,_,rfl,h1,h2⟩
theorem all2_three (h:All2 R [a,b,c] r):∃ x y z,r=[x,y,z]∧R a x∧R b y∧R c z:=by
 cases h with|cons h1 t=>obtain ⟨x,y,rfl,h2,h3⟩:=all2_two t;exact ⟨_,_,_,rfl,h1,h2,h3⟩
theorem all2_four (h:All2 R [a,b,c,d] r):∃ x y z w,r=[x,y,z,w]∧R a x∧R b y∧R c z∧R d w:=by
 cases h with|cons h1 t=>obtain ⟨x,y,z,rfl,h2,h3,h4⟩:=all2_three t;exact ⟨_,_,_,_,rfl,h1,h2,h3,h4⟩
theorem all2_five (h:All2 R [a,b,c,d,e] r):∃ x y z w v,r=[x,y,z,w,v]∧R a x∧R b y∧R c z∧R d w∧R e v:=by
 cases h with|cons h1 t=>obtain ⟨x,y,z,w,rfl,h2,h3,h4,h5⟩:=all2_four t;exact ⟨_,_,_,_,_,rfl,h1,h2,h3,h4,h5⟩
end
theorem has_int {j:Nat} {fs:List FV} (h:HasT Tryz.prog (j+1) 3 fs):∃ n:Int,fs=[.int .i64 n]∧-9223372036854775808≤n∧n≤9223372036854775807:=by
 simp only [HasT,Tryz.underlying3] at h
 obtain ⟨n,rfl,hn⟩:=h
 exact ⟨n,rfl,int_i64 hn⟩
theorem has_bool {j:Nat} {fs:List FV} (h:HasT Tryz.prog (j+1) 4 fs):∃ b:Bool,fs=[.bool b]:=by
 simp only [HasT,Tryz.underlying4] at h
 exact h
theorem len5 {α:Type} {l:List α} (h:l.length=5):∃ a b c d e,l=[a,b,c,d,e]:=by
 match l,h with|[a,b,c,d,e],_=>exact ⟨a,b,c,d,e,rfl⟩
theorem has_rplan {j:Nat} {fs:List FV} (h:HasT Tryz.prog (j+3) 166 fs):∃ x:RPlan,fs=x.enc∧x.Ok:=by
 simp only [HasT,Tryz.underlying166,Tryz.underlying5,Tryz.underlying76,Tryz.underlying115] at h
 obtain ⟨parts,rfl,hp⟩:=h
 obtain ⟨a,b,c,d,e,rfl,⟨n1,rfl,h1⟩,⟨n2,rfl,h2⟩,⟨n3,rfl,h3⟩,⟨n4,rfl,h4⟩,L,rfl,hl,hL⟩:=all2_five hp
 obtain ⟨m1,q1,rfl⟩:=nat_u8 h1
 obtain ⟨m2,q2,rfl⟩:=nat_u8 h2
 obtain ⟨m4,q4,rfl⟩:=nat_u8 h4
 obtain ⟨a,b,c,d,e,rfl⟩:=len5 hl
 obtain ⟨w0,rfl,g0⟩:=hL a (by simp)
 obtain ⟨w1,rfl,g1⟩:=hL b (by simp)
 obtain ⟨w2,rfl,g2⟩:=hL c (by simp)
 obtain ⟨w3,rfl,g3⟩:=hL d (by simp)
 obtain ⟨w4,rfl,g4⟩:=hL e (by simp)
 obtain ⟨v0,k0,rfl⟩:=nat_u8 g0
 obtain ⟨v1,k1,rfl⟩:=nat_u8 g1
 obtain ⟨v2,k2,rfl⟩:=nat_u8 g2
 obtain ⟨v3,k3,rfl⟩:=nat_u8 g3
 obtain ⟨v4,k4,rfl⟩:=nat_u8 g4
 refine ⟨⟨m1,m2,n3,m4,[v0,v1,v2,v3,v4]⟩,rfl,q1,q2,int_i8 h3,q4,fun i=>?_⟩
 match i with
 |0=>exact k0
 |1=>exact k1
 |2=>exact k2
 |3=>exact k3
 |4=>exact k4
 |n+5=>simp [gi]
end Go.Proofs.YtnhdddmhkhdlhaaGreatDoor
namespace Go.Proofs.YtnhdddmhkhdlhaaGreatDoor
open Go Go.Am Go.Vm
theorem hasT_struct {P:Program} {n:Nat} {t:TypeId} {fs:List FV} {sf:Array Field} (h:HasT P (n+1) t fs) (hu:P.underlying t=some (.struct sf)):∃ parts:List (List FV),fs=parts.flatten∧All2 (fun (fd:Field) x=>HasT P n fd.type x) sf.toList parts:=by
 unfold HasT at h;rw [hu] at h;exact h
theorem hasT_slice {P:Program} {n:Nat} {t e:TypeId} {fs:List FV} {α:Type} [Enc α] {p:α→Prop} (h:HasT P (n+1) t fs) (hu:P.underlying t=some (.slice e)) (he:∀ x,HasT P n e x→∃ a:α,x=Enc.enc a∧p a):∃ l:List α,fs=[.lst e (cells l) l.length]∧l.length≤maxLen∧∀ i,i<l.length→p (gi l i):=by
 unfold HasT at h;rw [hu] at h
 obtain ⟨L,rfl,hl,hL⟩:=h
 obtain ⟨r,hr⟩:=map_choose (R:=fun (a:α) fs=>fs=Enc.enc a∧p a) (l:=L) (fun x hx=>he x (hL x hx))
 obtain ⟨e1,e2,e3⟩:=flat_cells hr
 exact ⟨r,by rw [e1,e2],by omega,e3⟩
theorem has_u8 {j:Nat} {fs:List FV} (h:HasT Tryz.prog (j+1) 5 fs):∃ n:Nat,fs=[.int .u8 (n:Int)]∧n<256:=by
 simp only [HasT,Tryz.underlying5] at h
 obtain ⟨n,rfl,hn⟩:=h
 obtain ⟨m,q,rfl⟩:=nat_u8 hn
 exact ⟨m,rfl,q⟩
theorem has_i8 {j:Nat} {fs:List FV} (h:HasT Tryz.prog (j+1) 76 fs):∃ n:Int,fs=[.int .i8 n]∧-128≤n∧n≤127:=by
 simp only [HasT,Tryz.underlying76] at h
 obtain ⟨n,rfl,hn⟩:=h
 exact ⟨n,rfl,int_i8 hn⟩
theorem has_pull {j:Nat} {fs:List FV} (h:HasT Tryz.prog (j+2) 169 fs):∃ x:Pul,fs=Enc.enc x∧x.Ok:=by
 obtain ⟨parts,rfl,hp⟩:=hasT_struct h Tryz.underlying169
 obtain ⟨a,b,c,d,rfl,h1,h2,h3,h4⟩:=all2_four hp
 obtain ⟨m1,rfl,q1⟩:=has_u8 (j:=j) h1
 obtain ⟨m2,rfl,q2⟩:=has_u8 (j:=j) h2
 obtain ⟨m3,rfl,q3⟩:=has_u8 (j:=j) h3
 obtain ⟨m4,rfl,q4⟩:=has_u8 (j:=j) h4
 exact ⟨⟨m1,m2,m3,m4⟩,rfl,q1,q2,q3,q4⟩
theorem has_board {j:Nat} {fs:List FV} (h:HasT Tryz.prog (j+4) 163 fs):∃ x:Brd,fs=Enc.enc x∧x.Ok:=by
 obtain ⟨parts,rfl,hp⟩:=hasT_struct h Tryz.underlying163
 obtain ⟨a,b,c,d,rfl,h1,h2,h3,h4⟩:=all2_four hp
 obtain ⟨m1,rfl,q1⟩:=has_u8 (j:=j+2) h1
 obtain ⟨m2,rfl,q2⟩:=has_u8 (j:=j+2) h2
 obtain ⟨m3,rfl⟩:=has_bool (j:=j+2) h3
 obtain ⟨l,rfl,hl,hL⟩:=hasT_slice (n:=j+2) (p:=Pul.Ok) h4 Tryz.underlying161 (fun x hx=>has_pull hx)
 exact ⟨⟨m1,m2,m3,l⟩,rfl,q1,q2,by simp only [maxLen] at hl;simp only;omega,hL⟩
theorem has_link {j:Nat} {fs:List FV} (h:HasT Tryz.prog (j+2) 171 fs):∃ x:Lnk,fs=Enc.enc x∧x.Ok:=by
 obtain ⟨parts,rfl,hp⟩:=hasT_struct h Tryz.underlying171
 obtain ⟨a,b,c,d,rfl,h1,h2,h3,h4⟩:=all2_four hp
 obtain ⟨m1,rfl,q1⟩:=has_u8 (j:=j) h1
 obtain ⟨m2,rfl,q2⟩:=has_u8 (j:=j) h2
 obtain ⟨m3,rfl,q3⟩:=has_i8 (j:=j) h3
 obtain ⟨m4,rfl⟩:=has_bool (j:=j) h4
 exact ⟨⟨m1,m2,m3,m4⟩,rfl,q1,q2,q3⟩
theorem has_oplan {j:Nat} {fs:List FV} (h:HasT Tryz.prog (j+6) 26 fs):∃ x:OPl,fs=x.enc∧x.Ok:=by
 obtain ⟨parts,rfl,hp⟩:=hasT_struct h Tryz.underlying26
 obtain ⟨a,b,c,rfl,h1,h2,h3⟩:=all2_three hp
 obtain ⟨l1,rfl,n1,g1⟩:=hasT_slice (n:=j+4) (p:=RPlan.Ok) h1 Tryz.underlying22 (fun x hx=>has_rplan (j:=j+1) hx)
 obtain ⟨l2,rfl,n2,g2⟩:=hasT_slice (n:=j+4) (p:=Brd.Ok) h2 Tryz.underlying23 (fun x hx=>has_board hx)
 obtain ⟨l3,rfl,n3,g3⟩:=hasT_slice (n:=j+4) (p:=Lnk.Ok) h3 Tryz.underlying24 (fun x hx=>has_link (j:=j+2) hx)
 simp only [maxLen] at n1 n2 n3
 exact ⟨⟨l1,l2,l3⟩,rfl,g1,g2,g3,by simp only;omega,by simp only;omega,by simp only;omega⟩
end Go.Proofs.YtnhdddmhkhdlhaaGreatDoor
namespace Go.Proofs.YtnhdddmhkhdlhaaGreatDoor
open Go Go.Am Go.Vm
theorem list5 {α:Type} {L:List α} (h:L.length=5):∃ a b c d e,L=[a,b,c,d,e]:=by
 match L,h with
 |[a,b,c,d,e],_=>exact ⟨a,b,c,d,e,rfl⟩
theorem has_bits5 {j:Nat} {fs:List FV} (h:HasT Tryz.prog (j+2) 115 fs):∃ b:Nat→Nat,fs=bitsE b∧∀ i,b i<256:=by
 obtain ⟨L,rfl,hl,hL⟩:=HasT.array h Tryz.underlying115
 obtain ⟨a,b,c,d,e,rfl⟩:=list5 hl
 obtain ⟨m1,rfl,q1⟩:=has_u8 (j:=j) (hL a (by simp))
 obtain ⟨m2,rfl,q2⟩:=has_u8 (j:=j) (hL b (by simp))
 obtain ⟨m3,rfl,q3⟩:=has_u8 (j:=j) (hL c (by simp))
 obtain ⟨m4,rfl,q4⟩:=has_u8 (j:=j) (hL d (by simp))
 obtain ⟨m5,rfl,q5⟩:=has_u8 (j:=j) (hL e (by simp))
 exact ⟨fun i=>if i=0 then m1 else if i=1 then m2 else if i=2 then m3 else if i=3 then m4 else m5,rfl,fun i=>by simp only;split<;>(try split)<;>(try split)<;>(try split)<;>omega⟩
end Go.Proofs.YtnhdddmhkhdlhaaGreatDoor
namespace Go.Proofs.YtnhdddmhkhdlhaaGreatDoor
open Go Go.Am Go.Vm Go.Pie
attribute [local irreducible] VVal VOps VOpsD VWp VCalls VFun VFunV QSeq QBlk QLoop Vm.Done DoneV DoneI
attribute [local irreducible] rchk windsE stoE dvsE cplE shiftR tailH
theorem has_byte {j:Nat} {fs:List FV} (h:HasT Tryz.prog (j+1) 5 fs):∃ x:UInt8,fs=Enc.enc x∧True:=by
 obtain ⟨n,rfl,hn⟩:=has_u8 h
 refine ⟨UInt8.ofNat n,?_,trivial⟩
 show _=[FV.int .u8 (((UInt8.ofNat n).toNat:Nat):Int)]
 rw [UInt8.toNat_ofNat',Nat.mod_eq_of_lt hn]
def Sd8.Ok (y:Sd8):Prop:=y.st<256∧y.lg<256∧y.dv<256∧y.ky<256
def Mrk.Ok (y:Mrk):Prop:=y.bar<256∧∀ j,y.b j<256
theorem has_sound {j:Nat} {fs:List FV} (h:HasT Tryz.prog (j+2) 106 fs):∃ x:Sd8,fs=Enc.enc x∧x.Ok:=by
 obtain ⟨parts,rfl,hp⟩:=hasT_struct h Tryz.underlying106
 obtain ⟨a,b,c,d,rfl,h1,h2,h3,h4⟩:=all2_four hp
 obtain ⟨m1,rfl,q1⟩:=has_u8 (j:=j) h1
 obtain ⟨m2,rfl,q2⟩:=has_u8 (j:=j) h2
 obtain ⟨m3,rfl,q3⟩:=has_u8 (j:=j) h3
 obtain ⟨m4,rfl,q4⟩:=has_u8 (j:=j) h4
 exact ⟨⟨m1,m2,m3,m4⟩,rfl,q1,q2,q3,q4⟩
theorem has_mark {j:Nat} {fs:List FV} (h:HasT Tryz.prog (j+3) 117 fs):∃ x:Mrk,fs=Enc.enc x∧x.Ok:=by
 obtain ⟨parts,rfl,hp⟩:=hasT_struct h Tryz.underlying117
 obtain ⟨a,b,rfl,h1,h2⟩:=all2_two hp
 obtain ⟨m1,rfl,q1⟩:=has_u8 (j:=j+1) h1
 obtain ⟨b5,rfl,k3⟩:=has_bits5 (j:=j) h2
 exact ⟨⟨m1,b5⟩,rfl,q1,k3⟩
theorem has_pplan {j:Nat} {fs:List FV} (h:HasT Tryz.prog (j+7) 31 fs):∃ x:PPl,fs=x.enc∧x.Ok:=by
 obtain ⟨parts,rfl,hp⟩:=hasT_struct h Tryz.underlying31
 obtain ⟨a,b,c,d,rfl,h1,h2,h3,h4⟩:=all2_four hp
 obtain ⟨x1,rfl,k1⟩:=has_oplan (j:=j) h1
 obtain ⟨l2,rfl,n2,g2⟩:=hasT_slice (n:=j+5) (p:=fun _:UInt8=>True) h2 Tryz.underlying27 (fun x hx=>has_byte (j:=j+4) hx)
 obtain ⟨l3,rfl,n3,g3⟩:=hasT_slice (n:=j+5) (p:=Sd8.Ok) h3 Tryz.underlying28 (fun x hx=>has_sound (j:=j+3) hx)
 obtain ⟨l4,rfl,n4,g4⟩:=hasT_slice (n:=j+5) (p:=Mrk.Ok) h4 Tryz.underlying29 (fun x hx=>has_mark (j:=j+2) hx)
 simp only [maxLen] at n2 n3 n4
 exact ⟨⟨x1,l2,l3,l4⟩,rfl,k1,by simp only;omega,by simp only;omega,by simp only;omega,g3,g4⟩
noncomputable instance (a b:Nts):Decidable (a=b):=Classical.propDecidable _
theorem eqNtsD (x y:Nts):Vm.eqSt Tryz.prog 93 (Enc.enc x) (Enc.enc y)=some (decide (x=y)):=by
 show Vm.eqSt Tryz.prog 93 [.int .u64 (x.lo:Int),.int .u64 (x.hi:Int)] [.int .u64 (y.lo:Int),.int .u64 (y.hi:Int)]=_
 rw [eqNts]
 by_cases h:x=y
 ·subst h;simp
 ·rw [decide_eq_false h]
  have:¬ (x.lo=y.lo∧x.hi=y.hi):=fun h'=>h (by cases x;cases y;simp_all)
  by_cases h1:x.lo=y.lo<;>simp_all
theorem seqNts (a b:List Nts) (ha:a.length<9223372036854775808) (hb:b.length<9223372036854775808):VFun env 32 [.lst 93 (cells a) a.length,.lst 93 (cells b) b.length] (.p (.bool (decide (a=b)))):=by
 by_cases hlen:a.length=b.length
 case neg =>
  rw [decide_eq_false (fun e=>hlen (by rw [e]))]
  refine VFun.enter (env_none (by decide)) Tryz.func32 rfl (by kernel_rfl) (by simp [Tryz.ntmps32]) ?_
  repeat' (first|apply VWp.assoc|apply VWp.rseq|apply VWp.retSeq|apply VOps.nil|apply VOps.one|(apply VVal.assign;rfl)|(apply VVal.move;rfl)|(apply VVal.int;rfl;rfl;rfl)|(apply VVal.lenF;rfl;rfl)|(apply VWp.condSeq_dec;rfl)|(intro _;try (exfalso;omega)))
  all_goals first|(exfalso;omega)|contradiction|(refine Done.ret rfl (.refl _) (by exact PV.under_of rfl) HCov.nil (Nat.zero_le _) (Nat.le_refl _) ⟨?_,rfl,rfl⟩;try rfl)
 refine VFun.enter (env_none (by decide)) Tryz.func32 rfl (by kernel_rfl) (by simp [Tryz.ntmps32]) ?_
 repeat' (first|apply VWp.assoc|apply VWp.rseq|apply VWp.skipSeq|apply VWp.blockSeq|apply VOps.nil|apply VOps.one|(apply VVal.assign;rfl)|(apply VVal.move;rfl)|(apply VVal.int;rfl;rfl;rfl)|(apply VVal.lenF;rfl;rfl)|(apply VWp.condSeq_dec;rfl)|(intro _;try (exfalso;omega)))
 all_goals try (exfalso;omega)
 apply VWp.loopRI (a.length) (fun k=>∀ i,i<k→gi a i=gi b i) [(0,_),(1,_),(12,_)] [] (fun k r=>(13,.p (.int .i64 (k:Int)))::r) (fun k r=>r) 0
 ·first|omega|decide
 ·first|omega|decide
 ·repeat (first|exact LCov.nil|(refine LCov.eq rfl ?_ ?_;(first|exact PV.under_of rfl|(simp [PV.under,PVs.under];done)))|refine LCov.cons trivial rfl (.of_eq (lst_len (by simp<;>omega))) ?_)
 ·repeat (first|exact HCov.nil|(refine HCov.eq rfl (lt_dec rfl) ?_ ?_;(first|exact HB.under_of rfl|exact PVs.under_pure _ _|(simp [HB.under,PVs.under,PV.under];done)))|(refine HCov.cons (lt_dec rfl) ?_ rfl ?_ ?_;(first|exact trivial|exact PVs.under_pure _ _|(simp [HB.under,PVs.under,PV.under]));(first|exact HLe.refl _|exact HLe.vec (FLes.refl _) (by simp))))
 ·first|(intro _ _;omega)|omega|trivial
 ·intro k hk hok
  have he:=eqNtsD (gi a k) (gi b k)
  by_cases h:gi a k=gi b k
  ·rw [decide_eq_true h] at he
   repeat' (first|apply VWp.rseq|apply VWp.rseqD|apply VWp.region|apply VWp.skipSeq|apply VWp.blockSeq|apply QSeq.normal|apply QBlk.normal|apply VWp.skip|apply VOps.nil|apply VOpsD.nil|apply VOps.one|(apply VOpsD.bar;decide +kernel)|apply VOpsD.quiet|(apply VVal.neSt1;rfl;rfl;exact freeNts;exact he)|(apply VVal.assign;rfl)|(apply VVal.move;rfl)|(apply VVal.add64;rfl;rfl;omega)|(apply VVal.int;rfl;rfl;rfl)|(apply VVal.indexN;rfl;rfl;rfl;omega;rfl)|(apply VVal.load;rfl;rfl)|(apply VWp.condSeq_dec;rfl)|(apply VWp.cond_false;rfl)|(intro _;try (exfalso;omega)))
   all_goals try (exfalso;omega)
   all_goals try contradiction
   refine QLoop.normal ⟨(all_succP hok h),by first|omega|decide,?_,?_⟩
   ·repeat (first|exact LCov.nil|refine LCov.same (by exact PV.under_of rfl) rfl ?_|refine LCov.cons trivial rfl (.of_eq (lst_len (by simp<;>omega))) ?_)
   ·repeat (first|exact HCov.nil|(refine HCov.cons (lt_dec rfl) ?_ rfl ?_ ?_;(first|exact HB.under_of rfl|exact PVs.under_pure _ _|(simp [HB.under,PVs.under,PV.under]));(first|exact HLe.refl _|exact HLe.vec (FLes.refl _) (by simp))))
  ·rw [decide_eq_false h] at he
   rw [decide_eq_false (fun e=>h (by rw [e]))]
   repeat' (first|apply VWp.rseq|apply VWp.rseqD|apply VWp.skipSeq|apply VWp.blockSeq|apply QSeq.ret|apply QBlk.ret|apply QLoop.ret|apply VWp.ret|apply VOps.nil|apply VOpsD.nil|apply VOps.one|(apply VOpsD.bar;decide +kernel)|apply VOpsD.quiet|(apply VVal.neSt1;rfl;rfl;exact freeNts;exact he)|(apply VVal.assign;rfl)|(apply VVal.move;rfl)|(apply VVal.int;rfl;rfl;rfl)|(apply VVal.indexN;rfl;rfl;rfl;omega;rfl)|(apply VVal.load;rfl;rfl)|(apply VWp.condSeq_dec;rfl)|(apply VWp.cond_true;rfl)|(intro _;try (exfalso;omega)))
   all_goals first|(exfalso;omega)|contradiction|(refine Done.ret rfl (.refl _) (by exact PV.under_of rfl) HCov.nil (Nat.zero_le _) (Nat.le_refl _) ⟨?_,rfl,rfl⟩;try rfl)
 ·intro hok
  rw [decide_eq_true (gi_ext hlen hok)]
  repeat' (first|apply VWp.rseq|apply VWp.exitSeq|apply QSeq.normal|apply QBlk.exit|apply QLoop.exit|apply VWp.ret|apply VOps.nil|apply VOps.one|(apply VVal.assign;rfl)|(apply VVal.int;rfl;rfl;rfl)|(apply VWp.condSeq_dec;rfl)|(intro _;try (exfalso;omega)))
  all_goals first|(exfalso;omega)|contradiction|(refine Done.ret rfl (.refl _) (by exact PV.under_of rfl) HCov.nil (Nat.zero_le _) (Nat.le_refl _) ⟨?_,rfl,rfl⟩;try rfl)
end Go.Proofs.YtnhdddmhkhdlhaaGreatDoor
namespace Go.Proofs.YtnhdddmhkhdlhaaGreatDoor
open Go Go.Am Go.Vm Go.Pie
attribute [local irreducible] VVal VOps VOpsD VWp VCalls VFun VFunV QSeq QBlk QLoop Vm.Done DoneV DoneI
attribute [local irreducible] rchk windsE stoE dvsE cplE shiftR tailH
theorem bar_at {l:List Int} {t:Int} (h0:gi l 0≤t):∀ n,n+1<l.length→t<gi l (n+1)→∃ b,b≤n∧gi l b≤t∧t<gi l (b+1)
 |0,_,h=>⟨0,Nat.le_refl _,h0,h⟩
 |n+1,hn,h=>by
  by_cases h1:t<gi l (n+1)
  ·obtain ⟨b,q1,q2⟩:=bar_at h0 n (by omega) h1
   exact ⟨b,by omega,q2⟩
  ·exact ⟨n+1,Nat.le_refl _,by omega,h⟩
theorem sameZ:VFun env 33 [.agg [.val (.slice none 0 0),.int .u64 0,.int .u64 0],.agg [.val (.slice none 0 0),.int .u64 0,.int .u64 0]] (.p (.bool true)):=by
 have h:=sameR_spec ⟨[],0,0⟩ ⟨[],0,0⟩ (by decide) (by decide)
 rw [decide_eq_true rfl] at h
 refine VFun.le ?_ h
 exact .cons (.agg (.cons (.nil _) (.refl _))) (.cons (.agg (.cons (.nil _) (.refl _))) (.refl _))
theorem pieceTicks_spec (x:PPl) (hx:x.Ok) (t:Int):VFun env 9 [.agg x.enc,.int .i64 t] (.p (.bool true)):=by
 have hkn:=known_spec
 have hfit:=pfits_spec x hx
 by_cases hf:pfits x
 case neg =>
  rw [decide_eq_false hf] at hfit
  refine VFun.enter (env_none (by decide)) Tryz.func9 rfl (by kernel_rfl) (by simp [Tryz.ntmps9]) ?_
  repeat' (first|apply VWp.assoc|apply VWp.rseq|apply VWp.retSeq|apply VOps.nil|apply VOps.one|(apply VOps.take;rfl;rfl)|(apply VVal.fn;rfl;rfl;exact hkn;intro _;rfl)|(apply VVal.fn;rfl;rfl;exact hfit;intro _;rfl)|(apply VVal.assign;rfl)|(apply VVal.move;rfl)|(apply VVal.load;rfl;rfl)|(apply VVal.pick_false;rfl;rfl)|(apply VVal.box;rfl;trivial)|(apply VVal.not;rfl)|(apply VWp.condSeq_true;rfl))
  all_goals first|(exfalso;omega)|contradiction|(refine Done.ret rfl (.refl _) (by exact PV.under_of rfl) HCov.nil (Nat.zero_le _) (Nat.le_refl _) ⟨?_,rfl,rfl⟩;try rfl)
 rw [decide_eq_true hf] at hfit
 have hm:=make45_spec x hx hf
 have oT:=mkO_t x.org hx.org hf.1
 have oK:=oT.k
 have oS:=oK.sm
 have pK:=mkP_k x hx hf
 have hE:=mkP_err x hx hf
 have pS:=pK.sm
 generalize mkO x.org=o at *
 generalize mkP x=p at *
 have b2:=pK.bars
 have n1:=pK.notes
 have s1:=pK.sets
 have hat:atE o p t=if t<fstB p∨t≥endB p then 3 else 0:=by unfold atE;rw [if_neg (fun h=>h hE)]
 have hout:=outside_spec p (by omega) (by omega) t
 by_cases c:t<fstB p∨t≥endB p
 ·rw [if_pos c] at hat
  rw [decide_eq_true c] at hout
  have h1:=BarE_spec oS pS t (by rw [hat];decide)
  have h2:=SoundingE_spec oS pS t (by rw [hat];decide)
  have h3:=KeysE_spec oS pS t (by rw [hat];decide)
  have h4:=WantedE_spec oS pS t (by rw [hat];decide)
  rw [hat] at h1 h2 h3 h4
  have hz:=sameZ
  refine VFun.enter (env_none (by decide)) Tryz.func9 rfl (by kernel_rfl) (by simp [Tryz.ntmps9]) ?_
  repeat' (first|apply VWp.assoc|apply VWp.rseq|apply VWp.skipSeq|apply VWp.retSeq|apply VOps.nil|apply VOps.one|(apply VOps.take;rfl;rfl)|(apply VVal.fn;rfl;rfl;exact hkn;intro _;rfl)|(apply VVal.fn;rfl;rfl;exact hfit;intro _;rfl)|(apply VVal.fn;rfl;rfl;exact hm;intro _;rfl)|(apply VVal.fn;rfl;rfl;exact h1;intro _;rfl)|(apply VVal.fn;rfl;rfl;exact h2;intro _;rfl)|(apply VVal.fn;rfl;rfl;exact h3;intro _;rfl)|(apply VVal.fn;rfl;rfl;exact h4;intro _;rfl)|(apply VVal.fn;rfl;rfl;exact hout;intro _;rfl)|(apply VVal.fn;rfl;rfl;exact hz;intro _;rfl)|(apply VVal.assign;rfl)|(apply VVal.move;rfl)|(apply VVal.add64;rfl;rfl;omega)|(apply VVal.int;rfl;rfl;rfl)|(apply VVal.load;rfl;rfl)|(apply VVal.pick_true;rfl;rfl)|(apply VVal.pick_false;rfl;rfl)|(apply VVal.lenNil;rfl;rfl)|(apply VVal.box;rfl;trivial)|(apply VVal.alloc;rfl)|(apply VVal.storeB;rfl;rfl;rfl;trivial;rfl;rfl;exact lt_dec rfl;exact le_dec rfl)|(apply VVal.build;rfl;rfl;rfl;rfl;rfl)|(apply VVal.not;rfl)|(apply VVal.extract;rfl;rfl)|(apply VWp.condSeq_true;rfl)|(apply VWp.condSeq_false;rfl))
  all_goals first|(exfalso;omega)|contradiction|(refine Done.ret rfl (.refl _) (by exact PV.under_of rfl) HCov.nil (Nat.zero_le _) (Nat.le_refl _) ⟨?_,rfl,rfl⟩;try rfl)
 rw [if_neg c] at hat
 rw [decide_eq_false c] at hout
 obtain ⟨B,hB0,hB1,hB2⟩:=bar_at (l:=p.bars) (t:=t) (by show fstB p≤t;omega) (p.bars.length-2) (by omega) (by rw [show p.bars.length-2+1=p.bars.length-1 by omega];show t<endB p;omega)
 have h1:=Bar_spec oS pK t hat B (by omega) hB1 hB2
 have h2:=Sounding_spec oS pS t hat
 have h3:=Keys_spec oK pK t hat
 have h4:=Wanted_spec oK pK t hat
 have h5:=lWanted_spec oT pK t
 have h6:=lawSnd_spec p pS t
 have h7:=lKeys_spec oK pK t
 have hsl:(snd p t).length≤1000:=Nat.le_trans (sndK_len p t _) pK.notes
 have hkl:(keysR o p t).length=o.divs.length:=snocK_len _ _
 have d1:=oK.divs
 have e1:=seq_spec (snd p t) (snd p t) (by omega) (by omega)
 have e2:=seqNts (keysR o p t) (keysR o p t) (by omega) (by omega)
 have hwr:=wanK_rng p t p.sets.length
 rw [show wanK p t p.sets.length=wan p t from rfl] at hwr
 have hrl:(wanR o p t).stops.length<9223372036854775808:=by
  unfold wanR
  split
  ·show (List.replicate o.divs.length 0).length<_
   rw [List.length_replicate];omega
  ·exact (pS.reg _ (by omega)).len
 have e3:=sameR_spec (wanR o p t) (wanR o p t) hrl hrl
 rw [decide_eq_true rfl] at e1 e2 e3
 have hlt:∀ k,k<B→gi p.bars (k+1)≤t:=fun k hk=>Int.le_trans (incB_le (fun i hi h0=>(pK.bar i hi).2 h0) (show k+1≤B by omega) (by omega)) hB1
 generalize snd p t=S at *
 generalize keysR o p t=KR at *
 generalize wanR o p t=W at *
 generalize wan p t=wn at *
 refine VFun.enter (env_none (by decide)) Tryz.func9 rfl (by kernel_rfl) (by simp [Tryz.ntmps9]) ?_
 repeat' (first|apply VWp.assoc|apply VWp.rseq|apply VWp.skipSeq|apply VWp.blockSeq|apply VOps.nil|apply VOps.one|(apply VOps.take;rfl;rfl)|(apply VVal.fn;rfl;rfl;exact hkn;intro _;rfl)|(apply VVal.fn;rfl;rfl;exact hfit;intro _;rfl)|(apply VVal.fn;rfl;rfl;exact hm;intro _;rfl)|(apply VVal.fn;rfl;rfl;exact h1;intro _;rfl)|(apply VVal.fn;rfl;rfl;exact h2;intro _;rfl)|(apply VVal.fn;rfl;rfl;exact h3;intro _;rfl)|(apply VVal.fn;rfl;rfl;exact h4;intro _;rfl)|(apply VVal.fn;rfl;rfl;exact hout;intro _;rfl)|(apply VVal.assign;rfl)|(apply VVal.move;rfl)|(apply VVal.load;rfl;rfl)|(apply VVal.pick_false;rfl;rfl)|(apply VVal.box;rfl;trivial)|(apply VVal.alloc;rfl)|(apply VVal.storeB;rfl;rfl;rfl;trivial;rfl;rfl;exact lt_dec rfl;exact le_dec rfl)|(apply VVal.not;rfl)|(apply VVal.extract;rfl;rfl)|(apply VWp.condSeq_false;rfl))
 all_goals try (exfalso;omega)
 all_goals try contradiction
 apply VWp.loopR (B) [(1,_),(5,_),(6,_),(7,_),(8,_),(9,_),(10,_),(11,_),(12,_),(13,_),(14,_),(15,_)] [(1,_),(2,_),(3,_)] (fun k r=>(16,.p (.int .i64 (k:Int)))::r) (fun k r=>r) 4
 ·first|omega|decide
 ·first|omega|decide
 ·repeat (first|exact LCov.nil|(refine LCov.eq rfl ?_ ?_;(first|exact PV.under_of rfl|(simp [PV.under,PVs.under];done)))|refine LCov.cons trivial rfl (.of_eq (lst_len (by simp<;>omega))) ?_)
 ·repeat (first|exact HCov.nil|(refine HCov.eq rfl (lt_dec rfl) ?_ ?_;(first|exact HB.under_of rfl|exact PVs.under_pure _ _|(simp [HB.under,PVs.under,PV.under];done)))|(refine HCov.cons (lt_dec rfl) ?_ rfl ?_ ?_;(first|exact trivial|exact PVs.under_pure _ _|(simp [HB.under,PVs.under,PV.under]));(first|exact HLe.refl _|exact HLe.vec (FLes.refl _) (by simp))))
 ·intro k hk
  have hk2:=hlt k hk
  repeat' (first|apply VWp.assoc|apply VWp.rseq|apply VWp.region|apply VWp.skipSeq|apply QBlk.normal|apply VWp.blockQ|apply VOps.nil|apply VOps.one|(apply VVal.indexN (l:=p.bars) (i:=k+1);rfl;rfl;rfl;omega;rfl)|(apply VVal.assign;rfl)|(apply VVal.move;rfl)|(apply VVal.add64;rfl;rfl;omega)|(apply VVal.int;rfl;rfl;rfl)|(apply VVal.load;rfl;rfl)|(apply VVal.fieldB;rfl;rfl;rfl)|(apply VWp.condSeq_dec;rfl)|(intro _;try (exfalso;omega)))
  all_goals try (exfalso;omega)
  refine QLoop.normal ⟨by first|omega|decide,?_,?_⟩
  ·repeat (first|exact LCov.nil|refine LCov.same (by exact PV.under_of rfl) rfl ?_|refine LCov.cons trivial rfl (.of_eq (lst_len (by simp<;>omega))) ?_)
  ·repeat (first|exact HCov.nil|(refine HCov.cons (lt_dec rfl) ?_ rfl ?_ ?_;(first|exact HB.under_of rfl|exact PVs.under_pure _ _|(simp [HB.under,PVs.under,PV.under]));(first|exact HLe.refl _|exact HLe.vec (FLes.refl _) (by simp))))
 ·repeat' (first|(refine VOps.atOp 143 ?_;refine VOps.ghost (Ghost.freeze 142 rfl rfl) ?_)|apply VWp.assoc|apply VWp.rseq|apply VWp.exitSeq|apply QSeq.normal|apply QBlk.exit|apply QLoop.exit|apply VWp.ret|apply VOps.nil|apply VOps.one|(apply VOps.take;rfl;rfl)|(apply VOps.guard;rfl;rfl)|(apply VVal.indexN (l:=p.bars) (i:=B+1);rfl;rfl;rfl;omega;rfl)|(apply VVal.fn;rfl;rfl;exact h5;intro _;rfl)|(apply VVal.fv;rfl;rfl;exact h6)|(apply VVal.fn;rfl;rfl;exact h7;intro _;rfl)|(apply VVal.fn;rfl;rfl;exact e1;intro _;rfl)|(apply VVal.fn;rfl;rfl;exact e2;intro _;rfl)|(apply VVal.fn;rfl;rfl;exact e3;intro _;rfl)|(apply VVal.assign;rfl)|(apply VVal.move;rfl)|(apply VVal.add64;rfl;rfl;omega)|(apply VVal.int;rfl;rfl;rfl)|(apply VVal.load;rfl;rfl)|(apply VVal.pick_true;rfl;rfl)|(apply VVal.fieldB;rfl;rfl;rfl)|(apply VVal.alloc;rfl)|(apply VVal.storeB;rfl;rfl;rfl;trivial;rfl;rfl;exact lt_dec rfl;exact le_dec rfl)|(apply VVal.extract;rfl;rfl)|(apply VWp.condSeq_dec;rfl)|(intro _;try (exfalso;omega)))
  all_goals first|(exfalso;omega)|contradiction|(refine Done.ret rfl (.refl _) (by exact PV.under_of rfl) HCov.nil (Nat.zero_le _) (Nat.le_refl _) ⟨?_,rfl,rfl⟩;try rfl)
  all_goals exact PV.bool_eq (by simp)
end Go.Proofs.YtnhdddmhkhdlhaaGreatDoor
