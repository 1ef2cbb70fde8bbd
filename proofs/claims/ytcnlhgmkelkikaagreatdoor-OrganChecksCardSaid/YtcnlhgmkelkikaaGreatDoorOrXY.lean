/-
  The law of organs: check, division. Conditions: in each statement.
-/
import Derived.Test.YtcnlhgmkelkikaaGreatDoorOrE
import Derived.Test.YtcnlhgmkelkikaaGreatDoorRkK
import Derived.Test.YtcnlhgmkelkikaaGreatDoorVmG
import Derived.Test.YtcnlhgmkelkikaaGreatDoorOrV
set_option linter.unusedSimpArgs false
set_option linter.unusedVariables false
namespace Go.Proofs.YtcnlhgmkelkikaaGreatDoor
open Go Go.Am Go.Vm
attribute [local irreducible] VVal VOps VOpsD VWp VCalls VFun VFunV QSeq QBlk QLoop Vm.Done DoneV DoneI
attribute [local irreducible] rchk windsE stoE cplE
theorem nm_mem {α:Type} [Inhabited α] (f:α→List UInt8) {l:List α} {k:Nat} (hk:k≤l.length) {x:List UInt8}:x∈(l.take k).map f↔∃ j,j<k∧f (gi l j)=x:=by
 rw [List.mem_map]
 constructor
 ·rintro ⟨a,ha,rfl⟩
  obtain ⟨j,hj,rfl⟩:=List.mem_iff_getElem.1 ha
  rw [List.length_take] at hj
  refine ⟨j,by omega,?_⟩
  rw [List.getElem_take]
  unfold gi;rw [List.getElem?_eq_getElem (by omega)];rfl
 ·rintro ⟨j,hj,rfl⟩
  refine ⟨gi l j,?_,rfl⟩
  rw [List.mem_iff_getElem]
  refine ⟨j,by rw [List.length_take];omega,?_⟩
  rw [List.getElem_take]
  unfold gi;rw [List.getElem?_eq_getElem (by omega)];rfl
noncomputable def divE1 (o:Org) (k:Nat):Int:=if ¬ nameOk (gi o.divs k).name then 8 else if (gi o.divs k).name∈(o.divs.take k).map Dvs.name then 9 else dvsE o.ranks (gi o.divs k)
set_option maxRecDepth 100000 in
set_option maxHeartbeats 4000000 in
theorem division18_spec (o:Org) (ho:OrgSm o) (k:Nat) (hk:k<o.divs.length):VFun env 78 [.agg (Enc.enc o),.int .i64 (k:Int)] (.p (.int .i64 (divE1 o k))):=by
 have b2:=ho.divs
 have hd:=ho.dv k hk
 have d2:=hd.stops
 have d3:=hd.all
 have hn:=lname_spec (gi o.divs k).name (by have:=hd.name;omega)
 have hc:=cmp_spec (gi o.divs k).lo (gi o.divs k).hi
 refine VFun.enter (env_none (by decide)) Tryz.func78 rfl (by kernel_rfl) (by simp [Tryz.ntmps78]) ?_
 unfold divE1
 by_cases h0:nameOk (gi o.divs k).name
 case neg =>
  rw [if_pos h0]
  rw [decide_eq_false h0] at hn
  repeat' (first
   |apply VWp.assoc
   |apply VWp.rseq
   |apply VWp.retSeq
   |apply VOps.nil
   |apply VOps.one
   |(apply VVal.fn;rfl;rfl;exact hn;intro _;rfl)
   |(apply VVal.indexN (l:=o.divs) (i:=k);rfl;rfl;rfl;exact hk;rfl)
   |(apply VVal.assign;rfl)
   |(apply VVal.move;rfl)
   |(apply VVal.load;rfl;rfl)
   |(apply VVal.fieldB;rfl;rfl;rfl)
   |(apply VVal.box;rfl;trivial)
   |(apply VVal.alloc;rfl)
   |(apply VVal.storeB;rfl;rfl;rfl;trivial;rfl;rfl;exact lt_dec rfl;exact le_dec rfl)
   |(apply VVal.not;rfl)
   |(apply VWp.condSeq_true;rfl))
  all_goals first|(exfalso;omega)|contradiction|(refine Done.ret rfl (.refl _) (by first|exact trivial|exact ⟨trivial,trivial,trivial⟩|exact ⟨trivial,trivial,trivial,trivial⟩) HCov.nil (Nat.zero_le _) (Nat.le_refl _) ⟨?_,rfl,rfl⟩;try rfl)
 rw [if_neg (fun h=>h h0)]
 rw [decide_eq_true h0] at hn
 repeat' (first
  |apply VWp.assoc
  |apply VWp.rseq
  |apply VWp.skipSeq
  |apply VWp.blockSeq
  |apply VOps.nil
  |apply VOps.one
  |(apply VVal.fn;rfl;rfl;exact hn;intro _;rfl)
  |(apply VVal.indexN (l:=o.divs) (i:=k);rfl;rfl;rfl;exact hk;rfl)
  |(apply VVal.assign;rfl)
  |(apply VVal.move;rfl)
  |(apply VVal.load;rfl;rfl)
  |(apply VVal.lenF;rfl;rfl)
  |(apply VVal.fieldB;rfl;rfl;rfl)
  |(apply VVal.box;rfl;trivial)
  |(apply VVal.alloc;rfl)
  |(apply VVal.storeB;rfl;rfl;rfl;trivial;rfl;rfl;exact lt_dec rfl;exact le_dec rfl)
  |(apply VVal.not;rfl)
  |(apply VVal.sliceTo;rfl;rfl;rfl;rfl;rfl;rfl;omega)
  |(apply VWp.condSeq_false;rfl))
 all_goals try (exfalso;omega)
 all_goals try contradiction
 apply VWp.loopRI (k) (fun k_=>∀ i,i<k_→(gi o.divs i).name≠(gi o.divs k).name) [(2,_),(5,_),(26,_),(27,_)] [(0,_),(1,_)] (fun k_ r=>(28,.p (.int .i64 (k_:Int)))::r) (fun k_ r=>r) 2
 ·omega
 ·omega
 ·repeat (first|exact LCov.nil|(refine LCov.eq rfl ?_ ?_;(first|exact PV.under_of rfl|(simp [PV.under,PVs.under];done)))|refine LCov.cons trivial rfl (.of_eq (lst_len (by simp<;>omega))) ?_)
 ·repeat (first|exact HCov.nil|(refine HCov.eq rfl (lt_dec rfl) ?_ ?_;(first|exact HB.under_of rfl|exact PVs.under_pure _ _|(simp [HB.under,PVs.under,PV.under];done)))|(refine HCov.cons (lt_dec rfl) ?_ rfl ?_ ?_;(first|exact trivial|exact PVs.under_pure _ _|(simp [HB.under,PVs.under,PV.under]));(first|exact HLe.refl _|exact HLe.vec (FLes.refl _) (by simp))))
 ·first|(intro _ _;omega)|omega|trivial
 ·intro j hj hok
  generalize hg:decide ((gi (o.divs.take k) j).name=(gi o.divs k).name)=g at *
  have hg':=hg
  rw [gi_take hj] at hg'
  cases g
  ·repeat' (first
    |apply VWp.rseq
    |apply VWp.region
    |apply VWp.skipSeq
    |apply VWp.blockSeq
    |apply QSeq.normal
    |apply QBlk.normal
    |apply VWp.skip
    |apply VOps.nil
    |apply VOps.one
    |(apply VVal.indexN (l:=o.divs.take k) (i:=j);rfl;rfl;rfl;(rw [List.length_take];omega);(rw [List.length_take];omega))
    |(apply VVal.eqSd;rfl;rfl;exact hg)
    |(apply VVal.move;rfl)
    |(apply VVal.add64;rfl;rfl;omega)
    |(apply VVal.int;rfl;rfl;rfl)
    |(apply VVal.load;rfl;rfl)
    |(apply VVal.fieldB;rfl;rfl;rfl)
    |(apply VVal.alloc;rfl)
    |(apply VVal.storeB;rfl;rfl;rfl;trivial;rfl;rfl;exact lt_dec rfl;exact le_dec rfl)
    |(apply VWp.condSeq_dec;rfl)
    |(apply VWp.cond_false;rfl)
    |(intro _;try (exfalso;omega)))
   all_goals try (exfalso;omega)
   all_goals try contradiction
   refine QLoop.normal ⟨(all_succ hok (of_decide_eq_false hg')),by omega,?_,?_⟩
   ·repeat (first|exact LCov.nil|refine LCov.same trivial rfl ?_|refine LCov.same (lt_dec rfl) rfl ?_|refine LCov.same ⟨trivial,lt_dec rfl,trivial⟩ rfl ?_|refine LCov.same ⟨trivial,lt_dec rfl,lt_dec rfl,trivial⟩ rfl ?_|refine LCov.same ⟨trivial,lt_dec rfl,lt_dec rfl,lt_dec rfl,trivial⟩ rfl ?_|refine LCov.same ⟨trivial,trivial⟩ rfl ?_|refine LCov.cons trivial rfl (.of_eq (lst_len (by simp<;>omega))) ?_)
   ·repeat (first|exact HCov.nil|(refine HCov.cons (lt_dec rfl) ?_ rfl ?_ ?_;(first|exact HB.under_of rfl|exact PVs.under_pure _ _|(simp [HB.under,PVs.under,PV.under]));(first|exact HLe.refl _|exact HLe.vec (FLes.refl _) (by simp))))
  ·rw [if_pos ((nm_mem Dvs.name (by omega)).2 ⟨j,hj,of_decide_eq_true hg'⟩)]
   repeat' (first
    |apply VWp.rseq
    |apply VWp.skipSeq
    |apply VWp.blockSeq
    |apply QSeq.ret
    |apply QBlk.ret
    |apply QLoop.ret
    |apply VWp.ret
    |apply VOps.nil
    |apply VOps.one
    |(apply VVal.indexN (l:=o.divs.take k) (i:=j);rfl;rfl;rfl;(rw [List.length_take];omega);(rw [List.length_take];omega))
    |(apply VVal.eqSd;rfl;rfl;exact hg)
    |(apply VVal.assign;rfl)
    |(apply VVal.int;rfl;rfl;rfl)
    |(apply VVal.load;rfl;rfl)
    |(apply VVal.fieldB;rfl;rfl;rfl)
    |(apply VVal.alloc;rfl)
    |(apply VVal.storeB;rfl;rfl;rfl;trivial;rfl;rfl;exact lt_dec rfl;exact le_dec rfl)
    |(apply VWp.condSeq_dec;rfl)
    |(apply VWp.cond_true;rfl)
    |(intro _;try (exfalso;omega)))
   all_goals first|(exfalso;omega)|contradiction|(refine Done.ret rfl (.refl _) (by first|exact trivial|exact ⟨trivial,trivial,trivial⟩|exact ⟨trivial,trivial,trivial,trivial⟩) HCov.nil (Nat.zero_le _) (Nat.le_refl _) ⟨?_,rfl,rfl⟩;try rfl)
 intro hok
 rw [if_neg (fun h=>by obtain ⟨j,hj,e⟩:=(nm_mem Dvs.name (by omega)).1 h;exact hok j hj e)]
 unfold dvsE
 by_cases h1:cmpE (gi o.divs k).lo (gi o.divs k).hi=0
 case neg =>
  rw [if_pos h1]
  repeat' (first
   |apply VWp.assoc
   |apply VWp.rseq
   |apply VWp.retSeq
   |apply VWp.exitSeq
   |apply QSeq.normal
   |apply QBlk.exit
   |apply QLoop.exit
   |apply VOps.nil
   |apply VOps.one
   |(apply VVal.fn;rfl;rfl;exact hc;intro _;rfl)
   |(apply VVal.assign;rfl)
   |(apply VVal.move;rfl)
   |(apply VVal.int;rfl;rfl;rfl)
   |(apply VVal.load;rfl;rfl)
   |(apply VVal.fieldB;rfl;rfl;rfl)
   |(apply VWp.condSeq_dec;rfl)
   |(intro _;try (exfalso;omega)))
  all_goals first|(exfalso;omega)|contradiction|(refine Done.ret rfl (.refl _) (by first|exact trivial|exact ⟨trivial,trivial,trivial⟩|exact ⟨trivial,trivial,trivial,trivial⟩) HCov.nil (Nat.zero_le _) (Nat.le_refl _) ⟨?_,rfl,rfl⟩;try rfl)
 rw [h1] at hc
 rw [if_neg (fun h=>h h1)]
 by_cases h2:(gi o.divs k).stops.length>60
 ·rw [if_pos h2]
  repeat' (first
   |apply VWp.assoc
   |apply VWp.rseq
   |apply VWp.skipSeq
   |apply VWp.retSeq
   |apply VWp.exitSeq
   |apply QSeq.normal
   |apply QBlk.exit
   |apply QLoop.exit
   |apply VOps.nil
   |apply VOps.one
   |(apply VVal.fn;rfl;rfl;exact hc;intro _;rfl)
   |(apply VVal.assign;rfl)
   |(apply VVal.move;rfl)
   |(apply VVal.int;rfl;rfl;rfl)
   |(apply VVal.load;rfl;rfl)
   |(apply VVal.lenF;rfl;rfl)
   |(apply VVal.fieldB;rfl;rfl;rfl)
   |(apply VWp.condSeq_false;rfl)
   |(apply VWp.condSeq_dec;rfl)
   |(intro _;try (exfalso;omega)))
  all_goals first|(exfalso;omega)|contradiction|(refine Done.ret rfl (.refl _) (by first|exact trivial|exact ⟨trivial,trivial,trivial⟩|exact ⟨trivial,trivial,trivial,trivial⟩) HCov.nil (Nat.zero_le _) (Nat.le_refl _) ⟨?_,rfl,rfl⟩;try rfl)
 rw [if_neg h2]
 repeat' (first
  |apply VWp.assoc
  |apply VWp.rseq
  |apply VWp.skipSeq
  |apply VWp.exitSeq
  |apply VWp.blockSeq
  |apply QSeq.normal
  |apply QBlk.exit
  |apply QLoop.exit
  |apply VOps.nil
  |apply VOps.one
  |(apply VVal.fn;rfl;rfl;exact hc;intro _;rfl)
  |(apply VVal.assign;rfl)
  |(apply VVal.move;rfl)
  |(apply VVal.int;rfl;rfl;rfl)
  |(apply VVal.load;rfl;rfl)
  |(apply VVal.lenF;rfl;rfl)
  |(apply VVal.fieldB;rfl;rfl;rfl)
  |(apply VWp.condSeq_false;rfl)
  |(apply VWp.condSeq_dec;rfl)
  |(intro _;try (exfalso;omega)))
 all_goals try (exfalso;omega)
 all_goals try contradiction
 apply VWp.loopRI ((gi o.divs k).stops.length) (fun k_=>stosE o.ranks (gi o.divs k).lo (gi o.divs k).hi (gi o.divs k).stops k_=stosE o.ranks (gi o.divs k).lo (gi o.divs k).hi (gi o.divs k).stops 0) [(2,_),(5,_),(49,_),(50,_)] [(0,_),(1,_)] (fun k_ r=>(51,.p (.int .i64 (k_:Int)))::r) (fun k_ r=>r) 2
 ·omega
 ·omega
 ·repeat (first|exact LCov.nil|(refine LCov.eq rfl ?_ ?_;(first|exact PV.under_of rfl|(simp [PV.under,PVs.under];done)))|refine LCov.cons trivial rfl (.of_eq (lst_len (by simp<;>omega))) ?_)
 ·repeat (first|exact HCov.nil|(refine HCov.eq rfl (lt_dec rfl) ?_ ?_;(first|exact HB.under_of rfl|exact PVs.under_pure _ _|(simp [HB.under,PVs.under,PV.under];done)))|(refine HCov.cons (lt_dec rfl) ?_ rfl ?_ ?_;(first|exact trivial|exact PVs.under_pure _ _|(simp [HB.under,PVs.under,PV.under]));(first|exact HLe.refl _|exact HLe.vec (FLes.refl _) (by simp))))
 ·first|(intro _ _;omega)|omega|trivial
 ·intro j hj hE
  have hst:=stop_spec o.ranks (gi o.divs k).lo (gi o.divs k).hi (gi (gi o.divs k).stops j) ho.ranks ho.rk (d3 j hj)
  by_cases h3:stoE o.ranks (gi o.divs k).lo (gi o.divs k).hi (gi (gi o.divs k).stops j)=0
  case neg =>
   have e:stosE o.ranks (gi o.divs k).lo (gi o.divs k).hi (gi o.divs k).stops 0=stoE o.ranks (gi o.divs k).lo (gi o.divs k).hi (gi (gi o.divs k).stops j):=by rw [← hE,stosE,if_pos hj,if_pos h3]
   rw [e]
   repeat' (first
    |apply VWp.assoc
    |apply VWp.rseq
    |apply VWp.skipSeq
    |apply VWp.retSeq
    |apply VWp.blockSeq
    |apply QSeq.ret
    |apply QBlk.ret
    |apply QLoop.ret
    |apply VOps.nil
    |apply VOps.one
    |(apply VVal.fn;rfl;rfl;exact hst;intro _;rfl)
    |(apply VVal.assign;rfl)
    |(apply VVal.move;rfl)
    |(apply VVal.int;rfl;rfl;rfl)
    |(apply VVal.indexN;rfl;rfl;rfl;omega;rfl)
    |(apply VVal.load;rfl;rfl)
    |(apply VVal.fieldB;rfl;rfl;rfl)
    |(apply VVal.alloc;rfl)
    |(apply VVal.storeB;rfl;rfl;rfl;trivial;rfl;rfl;exact lt_dec rfl;exact le_dec rfl)
    |(apply VVal.build;rfl;rfl;rfl;rfl;rfl)
    |(apply VWp.condSeq_dec;rfl)
    |(intro _;try (exfalso;omega)))
   all_goals first|(exfalso;omega)|contradiction|(refine Done.ret rfl (.refl _) (by first|exact trivial|exact ⟨trivial,trivial,trivial⟩|exact ⟨trivial,trivial,trivial,trivial⟩) HCov.nil (Nat.zero_le _) (Nat.le_refl _) ⟨?_,rfl,rfl⟩;try rfl)
  rw [h3] at hst
  repeat' (first
   |apply VWp.assoc
   |apply VWp.rseq
   |apply VWp.skipSeq
   |apply VWp.blockSeq
   |apply VWp.blockQ
   |apply VOps.nil
   |apply VOps.one
   |(apply VVal.fn;rfl;rfl;exact hst;intro _;rfl)
   |(apply VVal.assign;rfl)
   |(apply VVal.move;rfl)
   |(apply VVal.int;rfl;rfl;rfl)
   |(apply VVal.indexN;rfl;rfl;rfl;omega;rfl)
   |(apply VVal.load;rfl;rfl)
   |(apply VVal.lenF;rfl;rfl)
   |(apply VVal.fieldB;rfl;rfl;rfl)
   |(apply VVal.alloc;rfl)
   |(apply VVal.storeB;rfl;rfl;rfl;trivial;rfl;rfl;exact lt_dec rfl;exact le_dec rfl)
   |(apply VVal.build;rfl;rfl;rfl;rfl;rfl)
   |(apply VVal.sliceTo;rfl;rfl;rfl;rfl;rfl;rfl;omega)
   |(apply VWp.condSeq_false;rfl)
   |(apply VWp.condSeq_dec;rfl)
   |(intro _;try (exfalso;omega)))
  all_goals try (exfalso;omega)
  all_goals try contradiction
  apply VWp.loopRI (j) (fun k_=>∀ i,i<k_→(gi (gi o.divs k).stops i).name≠(gi (gi o.divs k).stops j).name) [(2,_),(5,_),(10,_),(49,_),(50,_),(51,_),(69,_),(70,_)] [(0,_),(1,_),(2,_)] (fun k_ r=>(71,.p (.int .i64 (k_:Int)))::r) (fun k_ r=>r) 3
  ·omega
  ·omega
  ·repeat (first|exact LCov.nil|(refine LCov.eq rfl ?_ ?_;(first|exact PV.under_of rfl|(simp [PV.under,PVs.under];done)))|refine LCov.cons trivial rfl (.of_eq (lst_len (by simp<;>omega))) ?_)
  ·repeat (first|exact HCov.nil|(refine HCov.eq rfl (lt_dec rfl) ?_ ?_;(first|exact HB.under_of rfl|exact PVs.under_pure _ _|(simp [HB.under,PVs.under,PV.under];done)))|(refine HCov.cons (lt_dec rfl) ?_ rfl ?_ ?_;(first|exact trivial|exact PVs.under_pure _ _|(simp [HB.under,PVs.under,PV.under]));(first|exact HLe.refl _|exact HLe.vec (FLes.refl _) (by simp))))
  ·first|(intro _ _;omega)|omega|trivial
  ·intro i hi hoi
   generalize hg:decide ((gi ((gi o.divs k).stops.take j) i).name=(gi (gi o.divs k).stops j).name)=g at *
   have hg':=hg
   rw [gi_take hi] at hg'
   cases g
   ·repeat' (first
     |apply VWp.rseq
     |apply VWp.region
     |apply VWp.skipSeq
     |apply VWp.blockSeq
     |apply QSeq.normal
     |apply QBlk.normal
     |apply VWp.skip
     |apply VOps.nil
     |apply VOps.one
     |(apply VVal.indexN (l:=(gi o.divs k).stops.take j) (i:=i);rfl;rfl;rfl;(rw [List.length_take];omega);(rw [List.length_take];omega))
     |(apply VVal.eqSd;rfl;rfl;exact hg)
     |(apply VVal.move;rfl)
     |(apply VVal.add64;rfl;rfl;omega)
     |(apply VVal.int;rfl;rfl;rfl)
     |(apply VVal.load;rfl;rfl)
     |(apply VVal.fieldB;rfl;rfl;rfl)
     |(apply VVal.alloc;rfl)
     |(apply VVal.storeB;rfl;rfl;rfl;trivial;rfl;rfl;exact lt_dec rfl;exact le_dec rfl)
     |(apply VWp.condSeq_dec;rfl)
     |(apply VWp.cond_false;rfl)
     |(intro _;try (exfalso;omega)))
    all_goals try (exfalso;omega)
    all_goals try contradiction
    refine QLoop.normal ⟨(all_succ hoi (of_decide_eq_false hg')),by omega,?_,?_⟩
    ·repeat (first|exact LCov.nil|refine LCov.same trivial rfl ?_|refine LCov.same (lt_dec rfl) rfl ?_|refine LCov.same ⟨trivial,lt_dec rfl,trivial⟩ rfl ?_|refine LCov.same ⟨trivial,lt_dec rfl,lt_dec rfl,trivial⟩ rfl ?_|refine LCov.same ⟨trivial,lt_dec rfl,lt_dec rfl,lt_dec rfl,trivial⟩ rfl ?_|refine LCov.same ⟨trivial,trivial⟩ rfl ?_|refine LCov.cons trivial rfl (.of_eq (lst_len (by simp<;>omega))) ?_)
    ·repeat (first|exact HCov.nil|(refine HCov.cons (lt_dec rfl) ?_ rfl ?_ ?_;(first|exact HB.under_of rfl|exact PVs.under_pure _ _|(simp [HB.under,PVs.under,PV.under]));(first|exact HLe.refl _|exact HLe.vec (FLes.refl _) (by simp))))
   ·have e:stosE o.ranks (gi o.divs k).lo (gi o.divs k).hi (gi o.divs k).stops 0=9:=by rw [← hE,stosE,if_pos hj,if_neg (fun h=>h h3),if_pos ((nm_mem Stp.name (by omega)).2 ⟨i,hi,of_decide_eq_true hg'⟩)]
    rw [e]
    repeat' (first
     |apply VWp.rseq
     |apply VWp.skipSeq
     |apply VWp.blockSeq
     |apply QSeq.ret
     |apply QBlk.ret
     |apply QLoop.ret
     |apply VWp.ret
     |apply VOps.nil
     |apply VOps.one
     |(apply VVal.indexN (l:=(gi o.divs k).stops.take j) (i:=i);rfl;rfl;rfl;(rw [List.length_take];omega);(rw [List.length_take];omega))
     |(apply VVal.eqSd;rfl;rfl;exact hg)
     |(apply VVal.assign;rfl)
     |(apply VVal.int;rfl;rfl;rfl)
     |(apply VVal.load;rfl;rfl)
     |(apply VVal.fieldB;rfl;rfl;rfl)
     |(apply VVal.alloc;rfl)
     |(apply VVal.storeB;rfl;rfl;rfl;trivial;rfl;rfl;exact lt_dec rfl;exact le_dec rfl)
     |(apply VWp.condSeq_dec;rfl)
     |(apply VWp.cond_true;rfl)
     |(intro _;try (exfalso;omega)))
    all_goals first|(exfalso;omega)|contradiction|(refine Done.ret rfl (.refl _) (by first|exact trivial|exact ⟨trivial,trivial,trivial⟩|exact ⟨trivial,trivial,trivial,trivial⟩) HCov.nil (Nat.zero_le _) (Nat.le_refl _) ⟨?_,rfl,rfl⟩;try rfl)
  intro hoi
  have e:stosE o.ranks (gi o.divs k).lo (gi o.divs k).hi (gi o.divs k).stops (j+1)=stosE o.ranks (gi o.divs k).lo (gi o.divs k).hi (gi o.divs k).stops 0:=by
   refine Eq.trans ?_ hE
   symm
   conv=>lhs;rw [stosE]
   rw [if_pos hj,if_neg (fun h=>h h3),if_neg (fun h=>by obtain ⟨i,hi,e⟩:=(nm_mem Stp.name (by omega)).1 h;exact hoi i hi e)]
  repeat' (first
   |apply VWp.rseq
   |apply VWp.region
   |apply VWp.exitSeq
   |apply QSeq.normal
   |apply QBlk.normal
   |apply QBlk.exit
   |apply QLoop.exit
   |apply VOps.nil
   |apply VOps.one
   |(apply VVal.move;rfl)
   |(apply VVal.add64;rfl;rfl;omega)
   |(apply VVal.int;rfl;rfl;rfl)
   |(apply VWp.condSeq_dec;rfl)
   |(intro _;try (exfalso;omega)))
  all_goals try (exfalso;omega)
  all_goals try contradiction
  refine QLoop.normal ⟨e,by omega,?_,?_⟩
  ·repeat (first|exact LCov.nil|refine LCov.same trivial rfl ?_|refine LCov.same (lt_dec rfl) rfl ?_|refine LCov.same ⟨trivial,lt_dec rfl,trivial⟩ rfl ?_|refine LCov.same ⟨trivial,lt_dec rfl,lt_dec rfl,trivial⟩ rfl ?_|refine LCov.same ⟨trivial,lt_dec rfl,lt_dec rfl,lt_dec rfl,trivial⟩ rfl ?_|refine LCov.same ⟨trivial,trivial⟩ rfl ?_|refine LCov.cons trivial rfl (.of_eq (lst_len (by simp<;>omega))) ?_)
  ·repeat (first|exact HCov.nil|(refine HCov.cons (lt_dec rfl) ?_ rfl ?_ ?_;(first|exact HB.under_of rfl|exact PVs.under_pure _ _|(simp [HB.under,PVs.under,PV.under]));(first|exact HLe.refl _|exact HLe.vec (FLes.refl _) (by simp))))
 intro hE
 have e:stosE o.ranks (gi o.divs k).lo (gi o.divs k).hi (gi o.divs k).stops 0=0:=by rw [← hE,stosE,if_neg (by omega)]
 rw [e]
 repeat' (first
  |apply VWp.rseq
  |apply VWp.exitSeq
  |apply QSeq.normal
  |apply QBlk.exit
  |apply QLoop.exit
  |apply VWp.ret
  |apply VOps.nil
  |apply VOps.one
  |(apply VVal.assign;rfl)
  |(apply VVal.int;rfl;rfl;rfl)
  |(apply VWp.condSeq_dec;rfl)
  |(intro _;try (exfalso;omega)))
 all_goals first|(exfalso;omega)|contradiction|(refine Done.ret rfl (.refl _) (by first|exact trivial|exact ⟨trivial,trivial,trivial⟩|exact ⟨trivial,trivial,trivial,trivial⟩) HCov.nil (Nat.zero_le _) (Nat.le_refl _) ⟨?_,rfl,rfl⟩;try rfl)
set_option maxRecDepth 100000 in
set_option maxHeartbeats 4000000 in
theorem check18_spec (o:Org) (ho:OrgSm o):VFun env 37 [.agg (Enc.enc o)] (.p (.int .i64 (orgE o))):=by
 have hn:=lname_spec o.name (by have:=ho.name;omega)
 have b1:=ho.ranks
 have b2:=ho.divs
 unfold orgE
 refine VFun.enter (env_none (by decide)) Tryz.func37 rfl (by kernel_rfl) (by simp [Tryz.ntmps37]) ?_
 by_cases h0:nameOk o.name
 case neg =>
  rw [if_pos h0]
  rw [decide_eq_false h0] at hn
  repeat' (first
   |apply VWp.assoc
   |apply VWp.rseq
   |apply VWp.retSeq
   |apply VOps.nil
   |apply VOps.one
   |(apply VVal.fn;rfl;rfl;exact hn;intro _;rfl)
   |(apply VVal.assign;rfl)
   |(apply VVal.load;rfl;rfl)
   |(apply VVal.fieldB;rfl;rfl;rfl)
   |(apply VVal.box;rfl;trivial)
   |(apply VVal.not;rfl)
   |(apply VWp.condSeq_true;rfl))
  all_goals first|(exfalso;omega)|contradiction|(refine Done.ret rfl (.refl _) (by first|exact trivial|exact ⟨trivial,trivial,trivial⟩|exact ⟨trivial,trivial,trivial,trivial⟩) HCov.nil (Nat.zero_le _) (Nat.le_refl _) ⟨?_,rfl,rfl⟩;try rfl)
 rw [if_neg (fun h=>h h0)]
 rw [decide_eq_true h0] at hn
 by_cases h1:o.ranks.length>60
 ·rw [if_pos h1]
  repeat' (first
   |apply VWp.assoc
   |apply VWp.rseq
   |apply VWp.skipSeq
   |apply VWp.retSeq
   |apply VOps.nil
   |apply VOps.one
   |(apply VVal.fn;rfl;rfl;exact hn;intro _;rfl)
   |(apply VVal.assign;rfl)
   |(apply VVal.int;rfl;rfl;rfl)
   |(apply VVal.load;rfl;rfl)
   |(apply VVal.lenF;rfl;rfl)
   |(apply VVal.fieldB;rfl;rfl;rfl)
   |(apply VVal.box;rfl;trivial)
   |(apply VVal.not;rfl)
   |(apply VWp.condSeq_false;rfl)
   |(apply VWp.condSeq_dec;rfl)
   |(intro _;try (exfalso;omega)))
  all_goals first|(exfalso;omega)|contradiction|(refine Done.ret rfl (.refl _) (by first|exact trivial|exact ⟨trivial,trivial,trivial⟩|exact ⟨trivial,trivial,trivial,trivial⟩) HCov.nil (Nat.zero_le _) (Nat.le_refl _) ⟨?_,rfl,rfl⟩;try rfl)
 rw [if_neg h1]
 repeat' (first
  |apply VWp.assoc
  |apply VWp.rseq
  |apply VWp.skipSeq
  |apply VWp.blockSeq
  |apply VOps.nil
  |apply VOps.one
  |(apply VVal.fn;rfl;rfl;exact hn;intro _;rfl)
  |(apply VVal.assign;rfl)
  |(apply VVal.move;rfl)
  |(apply VVal.int;rfl;rfl;rfl)
  |(apply VVal.load;rfl;rfl)
  |(apply VVal.lenF;rfl;rfl)
  |(apply VVal.fieldB;rfl;rfl;rfl)
  |(apply VVal.box;rfl;trivial)
  |(apply VVal.not;rfl)
  |(apply VWp.condSeq_false;rfl)
  |(apply VWp.condSeq_dec;rfl)
  |(intro _;try (exfalso;omega)))
 all_goals try (exfalso;omega)
 all_goals try contradiction
 apply VWp.loopRI (o.ranks.length) (fun k=>rnkE o.ranks k=rnkE o.ranks 0) [(1,_),(21,_),(22,_)] [(0,_)] (fun k r=>(23,.p (.int .i64 (k:Int)))::r) (fun k r=>r) 1
 ·omega
 ·omega
 ·repeat (first|exact LCov.nil|(refine LCov.eq rfl ?_ ?_;(first|exact PV.under_of rfl|(simp [PV.under,PVs.under];done)))|refine LCov.cons trivial rfl (.of_eq (lst_len (by simp<;>omega))) ?_)
 ·repeat (first|exact HCov.nil|(refine HCov.eq rfl (lt_dec rfl) ?_ ?_;(first|exact HB.under_of rfl|exact PVs.under_pure _ _|(simp [HB.under,PVs.under,PV.under];done)))|(refine HCov.cons (lt_dec rfl) ?_ rfl ?_ ?_;(first|exact trivial|exact PVs.under_pure _ _|(simp [HB.under,PVs.under,PV.under]));(first|exact HLe.refl _|exact HLe.vec (FLes.refl _) (by simp))))
 ·first|(intro _ _;omega)|omega|trivial
 ·intro j hj hE
  have hsm:=(ho.rk j hj).len
  have hc:=rcheck_spec (gi o.ranks j) hsm.1 hsm.2.1 hsm.2.2
  by_cases h3:rchk (gi o.ranks j)=0
  case neg =>
   have e:rnkE o.ranks 0=rchk (gi o.ranks j):=by rw [← hE,rnkE,if_pos hj,if_pos h3]
   rw [e,if_pos h3]
   repeat' (first
    |apply VWp.assoc
    |apply VWp.rseq
    |apply VWp.skipSeq
    |apply VWp.retSeq
    |apply VWp.blockSeq
    |apply QSeq.ret
    |apply QBlk.ret
    |apply QLoop.ret
    |apply VOps.nil
    |apply VOps.one
    |(apply VVal.fn;rfl;rfl;exact hc;intro _;rfl)
    |(apply VVal.assign;rfl)
    |(apply VVal.move;rfl)
    |(apply VVal.int;rfl;rfl;rfl)
    |(apply VVal.indexN;rfl;rfl;rfl;omega;rfl)
    |(apply VVal.load;rfl;rfl)
    |(apply VVal.alloc;rfl)
    |(apply VVal.storeB;rfl;rfl;rfl;trivial;rfl;rfl;exact lt_dec rfl;exact le_dec rfl)
    |(apply VWp.condSeq_dec;rfl)
    |(intro _;try (exfalso;omega)))
   all_goals first|(exfalso;omega)|contradiction|(refine Done.ret rfl (.refl _) (by first|exact trivial|exact ⟨trivial,trivial,trivial⟩|exact ⟨trivial,trivial,trivial,trivial⟩) HCov.nil (Nat.zero_le _) (Nat.le_refl _) ⟨?_,rfl,rfl⟩;try rfl)
  rw [h3] at hc
  repeat' (first
   |apply VWp.assoc
   |apply VWp.rseq
   |apply VWp.skipSeq
   |apply VWp.blockSeq
   |apply VWp.blockQ
   |apply VOps.nil
   |apply VOps.one
   |(apply VVal.fn;rfl;rfl;exact hc;intro _;rfl)
   |(apply VVal.assign;rfl)
   |(apply VVal.move;rfl)
   |(apply VVal.int;rfl;rfl;rfl)
   |(apply VVal.indexN;rfl;rfl;rfl;omega;rfl)
   |(apply VVal.load;rfl;rfl)
   |(apply VVal.lenF;rfl;rfl)
   |(apply VVal.fieldB;rfl;rfl;rfl)
   |(apply VVal.alloc;rfl)
   |(apply VVal.storeB;rfl;rfl;rfl;trivial;rfl;rfl;exact lt_dec rfl;exact le_dec rfl)
   |(apply VVal.sliceTo;rfl;rfl;rfl;rfl;rfl;rfl;omega)
   |(apply VWp.condSeq_false;rfl)
   |(apply VWp.condSeq_dec;rfl)
   |(intro _;try (exfalso;omega)))
  all_goals try (exfalso;omega)
  all_goals try contradiction
  apply VWp.loopRI (j) (fun k_=>∀ i,i<k_→(gi o.ranks i).name≠(gi o.ranks j).name) [(1,_),(4,_),(21,_),(22,_),(23,_),(36,_),(37,_)] [(0,_),(1,_)] (fun k_ r=>(38,.p (.int .i64 (k_:Int)))::r) (fun k_ r=>r) 2
  ·omega
  ·omega
  ·repeat (first|exact LCov.nil|(refine LCov.eq rfl ?_ ?_;(first|exact PV.under_of rfl|(simp [PV.under,PVs.under];done)))|refine LCov.cons trivial rfl (.of_eq (lst_len (by simp<;>omega))) ?_)
  ·repeat (first|exact HCov.nil|(refine HCov.eq rfl (lt_dec rfl) ?_ ?_;(first|exact HB.under_of rfl|exact PVs.under_pure _ _|(simp [HB.under,PVs.under,PV.under];done)))|(refine HCov.cons (lt_dec rfl) ?_ rfl ?_ ?_;(first|exact trivial|exact PVs.under_pure _ _|(simp [HB.under,PVs.under,PV.under]));(first|exact HLe.refl _|exact HLe.vec (FLes.refl _) (by simp))))
  ·first|(intro _ _;omega)|omega|trivial
  ·intro i hi hoi
   generalize hg:decide ((gi (o.ranks.take j) i).name=(gi o.ranks j).name)=g at *
   have hg':=hg
   rw [gi_take hi] at hg'
   cases g
   ·repeat' (first
     |apply VWp.rseq
     |apply VWp.region
     |apply VWp.skipSeq
     |apply VWp.blockSeq
     |apply QSeq.normal
     |apply QBlk.normal
     |apply VWp.skip
     |apply VOps.nil
     |apply VOps.one
     |(apply VVal.indexN (l:=o.ranks.take j) (i:=i);rfl;rfl;rfl;(rw [List.length_take];omega);(rw [List.length_take];omega))
     |(apply VVal.eqSd;rfl;rfl;exact hg)
     |(apply VVal.move;rfl)
     |(apply VVal.add64;rfl;rfl;omega)
     |(apply VVal.int;rfl;rfl;rfl)
     |(apply VVal.load;rfl;rfl)
     |(apply VVal.fieldB;rfl;rfl;rfl)
     |(apply VVal.alloc;rfl)
     |(apply VVal.storeB;rfl;rfl;rfl;trivial;rfl;rfl;exact lt_dec rfl;exact le_dec rfl)
     |(apply VWp.condSeq_dec;rfl)
     |(apply VWp.cond_false;rfl)
     |(intro _;try (exfalso;omega)))
    all_goals try (exfalso;omega)
    all_goals try contradiction
    refine QLoop.normal ⟨(all_succ hoi (of_decide_eq_false hg')),by omega,?_,?_⟩
    ·repeat (first|exact LCov.nil|refine LCov.same trivial rfl ?_|refine LCov.same (lt_dec rfl) rfl ?_|refine LCov.same ⟨trivial,lt_dec rfl,trivial⟩ rfl ?_|refine LCov.same ⟨trivial,lt_dec rfl,lt_dec rfl,trivial⟩ rfl ?_|refine LCov.same ⟨trivial,lt_dec rfl,lt_dec rfl,lt_dec rfl,trivial⟩ rfl ?_|refine LCov.same ⟨trivial,trivial⟩ rfl ?_|refine LCov.cons trivial rfl (.of_eq (lst_len (by simp<;>omega))) ?_)
    ·repeat (first|exact HCov.nil|(refine HCov.cons (lt_dec rfl) ?_ rfl ?_ ?_;(first|exact HB.under_of rfl|exact PVs.under_pure _ _|(simp [HB.under,PVs.under,PV.under]));(first|exact HLe.refl _|exact HLe.vec (FLes.refl _) (by simp))))
   ·have e:rnkE o.ranks 0=9:=by rw [← hE,rnkE,if_pos hj,if_neg (fun h=>h h3),if_pos ((nm_mem Rnk.name (by omega)).2 ⟨i,hi,of_decide_eq_true hg'⟩)]
    rw [e,if_pos (by decide)]
    repeat' (first
     |apply VWp.rseq
     |apply VWp.skipSeq
     |apply VWp.blockSeq
     |apply QSeq.ret
     |apply QBlk.ret
     |apply QLoop.ret
     |apply VWp.ret
     |apply VOps.nil
     |apply VOps.one
     |(apply VVal.indexN (l:=o.ranks.take j) (i:=i);rfl;rfl;rfl;(rw [List.length_take];omega);(rw [List.length_take];omega))
     |(apply VVal.eqSd;rfl;rfl;exact hg)
     |(apply VVal.assign;rfl)
     |(apply VVal.int;rfl;rfl;rfl)
     |(apply VVal.load;rfl;rfl)
     |(apply VVal.fieldB;rfl;rfl;rfl)
     |(apply VVal.alloc;rfl)
     |(apply VVal.storeB;rfl;rfl;rfl;trivial;rfl;rfl;exact lt_dec rfl;exact le_dec rfl)
     |(apply VWp.condSeq_dec;rfl)
     |(apply VWp.cond_true;rfl)
     |(intro _;try (exfalso;omega)))
    all_goals first|(exfalso;omega)|contradiction|(refine Done.ret rfl (.refl _) (by first|exact trivial|exact ⟨trivial,trivial,trivial⟩|exact ⟨trivial,trivial,trivial,trivial⟩) HCov.nil (Nat.zero_le _) (Nat.le_refl _) ⟨?_,rfl,rfl⟩;try rfl)
  intro hoi
  have e:rnkE o.ranks (j+1)=rnkE o.ranks 0:=by
   refine Eq.trans ?_ hE
   symm
   conv=>lhs;rw [rnkE]
   rw [if_pos hj,if_neg (fun h=>h h3),if_neg (fun h=>by obtain ⟨i,hi,e⟩:=(nm_mem Rnk.name (by omega)).1 h;exact hoi i hi e)]
  repeat' (first
   |apply VWp.rseq
   |apply VWp.region
   |apply VWp.exitSeq
   |apply QSeq.normal
   |apply QBlk.normal
   |apply QBlk.exit
   |apply QLoop.exit
   |apply VOps.nil
   |apply VOps.one
   |(apply VVal.move;rfl)
   |(apply VVal.add64;rfl;rfl;omega)
   |(apply VVal.int;rfl;rfl;rfl)
   |(apply VWp.condSeq_dec;rfl)
   |(intro _;try (exfalso;omega)))
  all_goals try (exfalso;omega)
  all_goals try contradiction
  refine QLoop.normal ⟨e,by omega,?_,?_⟩
  ·repeat (first|exact LCov.nil|refine LCov.same trivial rfl ?_|refine LCov.same (lt_dec rfl) rfl ?_|refine LCov.same ⟨trivial,lt_dec rfl,trivial⟩ rfl ?_|refine LCov.same ⟨trivial,lt_dec rfl,lt_dec rfl,trivial⟩ rfl ?_|refine LCov.same ⟨trivial,lt_dec rfl,lt_dec rfl,lt_dec rfl,trivial⟩ rfl ?_|refine LCov.same ⟨trivial,trivial⟩ rfl ?_|refine LCov.cons trivial rfl (.of_eq (lst_len (by simp<;>omega))) ?_)
  ·repeat (first|exact HCov.nil|(refine HCov.cons (lt_dec rfl) ?_ rfl ?_ ?_;(first|exact HB.under_of rfl|exact PVs.under_pure _ _|(simp [HB.under,PVs.under,PV.under]));(first|exact HLe.refl _|exact HLe.vec (FLes.refl _) (by simp))))
 intro hE
 have e:rnkE o.ranks 0=0:=by rw [← hE,rnkE,if_neg (by omega)]
 rw [if_neg (fun h=>h e)]
 by_cases h2:o.divs.length=0
 ·rw [if_pos h2]
  repeat' (first
   |apply VWp.assoc
   |apply VWp.rseq
   |apply VWp.retSeq
   |apply VWp.exitSeq
   |apply QSeq.normal
   |apply QBlk.exit
   |apply QLoop.exit
   |apply VOps.nil
   |apply VOps.one
   |(apply VVal.assign;rfl)
   |(apply VVal.int;rfl;rfl;rfl)
   |(apply VVal.load;rfl;rfl)
   |(apply VVal.lenF;rfl;rfl)
   |(apply VVal.fieldB;rfl;rfl;rfl)
   |(apply VWp.condSeq_dec;rfl)
   |(intro _;try (exfalso;omega)))
  all_goals first|(exfalso;omega)|contradiction|(refine Done.ret rfl (.refl _) (by first|exact trivial|exact ⟨trivial,trivial,trivial⟩|exact ⟨trivial,trivial,trivial,trivial⟩) HCov.nil (Nat.zero_le _) (Nat.le_refl _) ⟨?_,rfl,rfl⟩;try rfl)
 rw [if_neg h2]
 by_cases h3:o.divs.length>8
 ·rw [if_pos h3]
  repeat' (first
   |apply VWp.assoc
   |apply VWp.rseq
   |apply VWp.skipSeq
   |apply VWp.retSeq
   |apply VWp.exitSeq
   |apply QSeq.normal
   |apply QBlk.exit
   |apply QLoop.exit
   |apply VOps.nil
   |apply VOps.one
   |(apply VVal.assign;rfl)
   |(apply VVal.int;rfl;rfl;rfl)
   |(apply VVal.load;rfl;rfl)
   |(apply VVal.lenF;rfl;rfl)
   |(apply VVal.fieldB;rfl;rfl;rfl)
   |(apply VWp.condSeq_dec;rfl)
   |(intro _;try (exfalso;omega)))
  all_goals first|(exfalso;omega)|contradiction|(refine Done.ret rfl (.refl _) (by first|exact trivial|exact ⟨trivial,trivial,trivial⟩|exact ⟨trivial,trivial,trivial,trivial⟩) HCov.nil (Nat.zero_le _) (Nat.le_refl _) ⟨?_,rfl,rfl⟩;try rfl)
 rw [if_neg h3]
 repeat' (first
  |apply VWp.assoc
  |apply VWp.rseq
  |apply VWp.skipSeq
  |apply VWp.exitSeq
  |apply VWp.blockSeq
  |apply QSeq.normal
  |apply QBlk.exit
  |apply QLoop.exit
  |apply VOps.nil
  |apply VOps.one
  |(apply VVal.assign;rfl)
  |(apply VVal.move;rfl)
  |(apply VVal.int;rfl;rfl;rfl)
  |(apply VVal.load;rfl;rfl)
  |(apply VVal.lenF;rfl;rfl)
  |(apply VVal.fieldB;rfl;rfl;rfl)
  |(apply VWp.condSeq_dec;rfl)
  |(intro _;try (exfalso;omega)))
 all_goals try (exfalso;omega)
 all_goals try contradiction
 refine VWp.ghost (Ghost.adopt 8 46 rfl) ?_
 apply VWp.loopRI (o.divs.length) (fun k=>divsE o.ranks o.divs k=divsE o.ranks o.divs 0) [(1,_),(58,_),(59,_)] [(0,_)] (fun k r=>(8,.vec 1 ((o.divs.take k).map fun d=>(⟨d.lo,d.hi⟩:Cps)).length 0 ((o.divs.take k).map fun d=>(⟨d.lo,d.hi⟩:Cps)).length)::(60,.p (.int .i64 (k:Int)))::r) (fun k r=>(1,.vec 46 (cells ((o.divs.take k).map fun d=>(⟨d.lo,d.hi⟩:Cps))) ((o.divs.take k).map fun d=>(⟨d.lo,d.hi⟩:Cps)).length true)::r) 2
 ·omega
 ·omega
 ·repeat (first|exact LCov.nil|(refine LCov.eq rfl ?_ ?_;(first|exact PV.under_of rfl|(simp [PV.under,PVs.under];done)))|refine LCov.cons trivial rfl (.of_eq (lst_len (by simp<;>omega))) ?_)
 ·repeat (first|exact HCov.nil|(refine HCov.eq rfl (lt_dec rfl) ?_ ?_;(first|exact HB.under_of rfl|exact PVs.under_pure _ _|(simp [HB.under,PVs.under,PV.under];done)))|(refine HCov.cons (lt_dec rfl) ?_ rfl ?_ ?_;(first|exact trivial|exact PVs.under_pure _ _|(simp [HB.under,PVs.under,PV.under]));(first|exact HLe.refl _|exact HLe.vec (FLes.refl _) (by simp))))
 ·first|(intro _ _;omega)|omega|trivial
 ·intro j hj hE
  have hdv:=division18_spec o ho j hj
  have hlen:((o.divs.take j).map fun d=>(⟨d.lo,d.hi⟩:Cps)).length=j:=by rw [List.length_map,List.length_take];omega
  by_cases h4:divE1 o j=0
  case neg =>
   have e2:divsE o.ranks o.divs 0=divE1 o j:=by
    rw [← hE,divsE,if_pos hj]
    unfold divE1 at h4 ⊢
    by_cases c1:nameOk (gi o.divs j).name
    ·by_cases c2:(gi o.divs j).name∈(o.divs.take j).map Dvs.name
     ·rw [if_neg (fun h=>h c1),if_pos c2,if_neg (fun h=>h c1),if_pos c2]
     ·rw [if_neg (fun h=>h c1),if_neg c2] at h4
      rw [if_neg (fun h=>h c1),if_neg c2,if_pos h4,if_neg (fun h=>h c1),if_neg c2]
    ·rw [if_pos c1,if_pos c1]
   rw [e2,if_pos h4]
   repeat' (first
    |apply VWp.assoc
    |apply VWp.rseq
    |apply VWp.skipSeq
    |apply VWp.retSeq
    |apply VWp.blockSeq
    |apply QSeq.ret
    |apply QBlk.ret
    |apply QLoop.ret
    |apply VOps.nil
    |apply VOps.one
    |(apply VVal.fn;rfl;rfl;exact hdv;intro _;rfl)
    |(apply VVal.assign;rfl)
    |(apply VVal.move;rfl)
    |(apply VVal.int;rfl;rfl;rfl)
    |(apply VVal.indexN;rfl;rfl;rfl;omega;rfl)
    |(apply VVal.load;rfl;rfl)
    |(apply VVal.alloc;rfl)
    |(apply VVal.storeB;rfl;rfl;rfl;trivial;rfl;rfl;exact lt_dec rfl;exact le_dec rfl)
    |(apply VWp.condSeq_dec;rfl)
    |(intro _;try (exfalso;omega)))
   all_goals first|(exfalso;omega)|contradiction|(refine Done.ret rfl (.refl _) (by first|exact trivial|exact ⟨trivial,trivial,trivial⟩|exact ⟨trivial,trivial,trivial,trivial⟩) HCov.nil (Nat.zero_le _) (Nat.le_refl _) ⟨?_,rfl,rfl⟩;try rfl)
  have e2:divsE o.ranks o.divs (j+1)=divsE o.ranks o.divs 0:=by
   refine Eq.trans ?_ hE
   symm
   conv=>lhs;rw [divsE]
   rw [if_pos hj]
   unfold divE1 at h4
   by_cases c1:nameOk (gi o.divs j).name
   ·by_cases c2:(gi o.divs j).name∈(o.divs.take j).map Dvs.name
    ·rw [if_neg (fun h=>h c1),if_pos c2] at h4;cases h4
    ·rw [if_neg (fun h=>h c1),if_neg c2] at h4
     rw [if_neg (fun h=>h c1),if_neg c2,if_neg (fun h=>h h4)]
   ·rw [if_pos c1] at h4;cases h4
  rw [h4] at hdv
  have e5:((o.divs.take (j+1)).map fun d=>(⟨d.lo,d.hi⟩:Cps))=((o.divs.take j).map fun d=>(⟨d.lo,d.hi⟩:Cps))++[⟨(gi o.divs j).lo,(gi o.divs j).hi⟩]:=by rw [take_succ_gi hj,List.map_append];rfl
  have e6:((o.divs.take (j+1)).map fun d=>(⟨d.lo,d.hi⟩:Cps)).length=((o.divs.take j).map fun d=>(⟨d.lo,d.hi⟩:Cps)).length+1:=by rw [e5,List.length_append];rfl
  repeat' (first
   |apply VWp.assoc
   |apply VWp.rseq
   |apply VWp.region
   |apply VWp.skipSeq
   |apply VWp.blockSeq
   |apply QSeq.normal
   |apply QBlk.normal
   |apply VOps.nil
   |apply VOps.one
   |(apply VVal.fn;rfl;rfl;exact hdv;intro _;rfl)
   |(apply VVal.append1 (a:=(⟨(gi o.divs j).lo,(gi o.divs j).hi⟩:Cps));rfl;rfl;rfl;rfl;rfl;rfl;rfl;rfl;(intro _ h;cases h);rfl;rfl;rfl;decide;decide;(first|omega|(simp only [List.length_take,List.length_drop,List.length_append,List.length_singleton,List.length_cons,List.length_nil]<;>omega)))
   |(apply VVal.assign;rfl)
   |(apply VVal.move;rfl)
   |(apply VVal.add64;rfl;rfl;omega)
   |(apply VVal.int;rfl;rfl;rfl)
   |(apply VVal.indexN;rfl;rfl;rfl;omega;rfl)
   |(apply VVal.load;rfl;rfl)
   |(apply VVal.fieldB;rfl;rfl;rfl)
   |(apply VVal.alloc;rfl)
   |(apply VVal.storeB;rfl;rfl;rfl;trivial;rfl;rfl;exact lt_dec rfl;exact le_dec rfl)
   |(apply VVal.buildSlice;rfl;rfl;rfl;decide;rfl;rfl;rfl)
   |(apply VWp.condSeq_false;rfl)
   |(apply VWp.condSeq_dec;rfl)
   |(intro _;try (exfalso;omega)))
  all_goals try (exfalso;omega)
  all_goals try contradiction
  refine QLoop.normal ⟨e2,by omega,?_,?_⟩
  ·rw [e6];repeat (first|exact LCov.nil|refine LCov.same trivial rfl ?_|refine LCov.same (lt_dec rfl) rfl ?_|refine LCov.same ⟨trivial,lt_dec rfl,trivial⟩ rfl ?_|refine LCov.same ⟨trivial,lt_dec rfl,lt_dec rfl,trivial⟩ rfl ?_|refine LCov.same ⟨trivial,lt_dec rfl,lt_dec rfl,lt_dec rfl,trivial⟩ rfl ?_|refine LCov.same ⟨trivial,trivial⟩ rfl ?_|refine LCov.cons trivial rfl (.of_eq (lst_len (by simp<;>omega))) ?_)
  ·rw [e6,e5];repeat (first|exact HCov.nil|(refine HCov.cons (lt_dec rfl) ?_ rfl ?_ ?_;(first|exact HB.under_of rfl|exact PVs.under_pure _ _|(simp [HB.under,PVs.under,PV.under]));(first|exact HLe.refl _|exact HLe.vec (FLes.refl _) (by simp))))
 intro hE
 have e2:divsE o.ranks o.divs 0=0:=by rw [← hE,divsE,if_neg (by omega)]
 rw [if_neg (fun h=>h e2)]
 have et:o.divs.take o.divs.length=o.divs:=List.take_of_length_le (Nat.le_refl _)
 have hcp:=coupler_spec (o.divs.map fun d=>(⟨d.lo,d.hi⟩:Cps)) o.cpls (by rw [List.length_map];exact b2) ho.cpls ho.cp
 rw [et]
 repeat' (first
  |(refine VWp.at 31 ?_;refine VWp.ghost (Ghost.freeze 8 rfl rfl) ?_;first|apply VWp.rseq|apply VWp.rseqD)
  |apply VWp.rseq
  |apply VWp.exitSeq
  |apply QSeq.normal
  |apply QBlk.exit
  |apply QLoop.exit
  |apply VWp.ret
  |apply VOps.nil
  |apply VOps.one
  |(apply VVal.fn;rfl;rfl;exact hcp;intro _;rfl)
  |(apply VVal.assign;rfl)
  |(apply VVal.move;rfl)
  |(apply VVal.int;rfl;rfl;rfl)
  |(apply VVal.load;rfl;rfl)
  |(apply VVal.fieldB;rfl;rfl;rfl)
  |(apply VWp.condSeq_dec;rfl)
  |(intro _;try (exfalso;omega)))
 all_goals first|(exfalso;omega)|(refine Done.ret rfl (.refl _) (by first|exact trivial|exact ⟨trivial,trivial,trivial⟩|exact ⟨trivial,trivial,trivial,trivial⟩) HCov.nil (Nat.zero_le _) (Nat.le_refl _) ⟨?_,rfl,rfl⟩;try rfl)
end Go.Proofs.YtcnlhgmkelkikaaGreatDoor
set_option linter.unusedSimpArgs false
set_option linter.unusedVariables false
namespace Go.Proofs.YtcnlhgmkelkikaaGreatDoor
open Go Go.Am Go.Vm
attribute [local irreducible] VVal VOps VOpsD VWp VCalls VFun VFunV QSeq QBlk QLoop Vm.Done DoneV DoneI
set_option maxRecDepth 100000 in
set_option maxHeartbeats 1000000 in
theorem eStat (o:Org) (ho:OrgSm o) (w:Int) (he:orgE o=w) (hw:w≠0):VFun env 14 [.agg (Enc.enc o)] (.tup [.p (.agg [.int .i64 0,.int .i64 0,.int .i64 0,.int .i64 0,.int .i64 0,.int .i64 0]),.p (.int .i64 w)]):=by
 have hc:=ocheck_spec o ho
 rw [he] at hc
 refine VFun.enter (env_none (by decide)) Tryz.func14 rfl (by kernel_rfl) (by simp [Tryz.ntmps14]) ?_
 repeat' (first
  |apply VWp.assoc
  |apply VWp.rseq
  |apply VWp.retSeq
  |apply VOps.nil
  |apply VOps.one
  |(apply VVal.fn;rfl;rfl;exact hc;intro _;rfl)
  |(apply VVal.assign;rfl)
  |(apply VVal.move;rfl)
  |(apply VVal.int;rfl;rfl;rfl)
  |(apply VVal.load;rfl;rfl)
  |(apply VVal.box;rfl;trivial)
  |(apply VVal.alloc;rfl)
  |(apply VVal.storeB;rfl;rfl;rfl;trivial;rfl;rfl;exact lt_dec rfl;exact le_dec rfl)
  |(apply VVal.build;rfl;rfl;rfl;rfl;rfl)
  |(apply VWp.condSeq_dec;rfl)
  |(intro _;try (exfalso;omega)))
 all_goals first|(exfalso;omega)|contradiction|(refine Done.ret rfl (.refl _) (by first|exact trivial|exact ⟨trivial,trivial,trivial⟩|exact ⟨trivial,trivial,trivial,trivial⟩) HCov.nil (Nat.zero_le _) (Nat.le_refl _) ⟨?_,rfl,rfl⟩;try rfl)
set_option maxRecDepth 100000 in
set_option maxHeartbeats 1000000 in
theorem eRank (o:Org) (ho:OrgSm o) (w:Int) (he:orgE o=w) (hw:w≠0):VFun env 21 [.agg (Enc.enc o),.str (bs [82,48])] (.tup [.p (.int .i64 0),.p (.bool false),.p (.int .i64 w)]):=by
 have hc:=ocheck_spec o ho
 rw [he] at hc
 refine VFun.enter (env_none (by decide)) Tryz.func21 rfl (by kernel_rfl) (by simp [Tryz.ntmps21]) ?_
 repeat' (first
  |apply VWp.assoc
  |apply VWp.rseq
  |apply VWp.retSeq
  |apply VOps.nil
  |apply VOps.one
  |(apply VVal.fn;rfl;rfl;exact hc;intro _;rfl)
  |(apply VVal.assign;rfl)
  |(apply VVal.move;rfl)
  |(apply VVal.int;rfl;rfl;rfl)
  |(apply VVal.load;rfl;rfl)
  |(apply VVal.box;rfl;trivial)
  |(apply VWp.condSeq_dec;rfl)
  |(intro _;try (exfalso;omega)))
 all_goals first|(exfalso;omega)|contradiction|(refine Done.ret rfl (.refl _) (by first|exact trivial|exact ⟨trivial,trivial,trivial⟩|exact ⟨trivial,trivial,trivial,trivial⟩) HCov.nil (Nat.zero_le _) (Nat.le_refl _) ⟨?_,rfl,rfl⟩;try rfl)
set_option maxRecDepth 100000 in
set_option maxHeartbeats 1000000 in
theorem eDiv (o:Org) (ho:OrgSm o) (w:Int) (he:orgE o=w) (hw:w≠0):VFun env 22 [.agg (Enc.enc o),.str (bs [68,48])] (.tup [.p (.int .i64 0),.p (.bool false),.p (.int .i64 w)]):=by
 have hc:=ocheck_spec o ho
 rw [he] at hc
 refine VFun.enter (env_none (by decide)) Tryz.func22 rfl (by kernel_rfl) (by simp [Tryz.ntmps22]) ?_
 repeat' (first
  |apply VWp.assoc
  |apply VWp.rseq
  |apply VWp.retSeq
  |apply VOps.nil
  |apply VOps.one
  |(apply VVal.fn;rfl;rfl;exact hc;intro _;rfl)
  |(apply VVal.assign;rfl)
  |(apply VVal.move;rfl)
  |(apply VVal.int;rfl;rfl;rfl)
  |(apply VVal.load;rfl;rfl)
  |(apply VVal.box;rfl;trivial)
  |(apply VWp.condSeq_dec;rfl)
  |(intro _;try (exfalso;omega)))
 all_goals first|(exfalso;omega)|contradiction|(refine Done.ret rfl (.refl _) (by first|exact trivial|exact ⟨trivial,trivial,trivial⟩|exact ⟨trivial,trivial,trivial,trivial⟩) HCov.nil (Nat.zero_le _) (Nat.le_refl _) ⟨?_,rfl,rfl⟩;try rfl)
set_option maxRecDepth 100000 in
set_option maxHeartbeats 1000000 in
theorem eStop (o:Org) (ho:OrgSm o) (w:Int) (he:orgE o=w) (hw:w≠0):VFun env 24 [.agg (Enc.enc o),.int .i64 0,.str (bs [83,48])] (.tup [.p (.int .i64 0),.p (.bool false),.p (.int .i64 w)]):=by
 have hc:=ocheck_spec o ho
 rw [he] at hc
 refine VFun.enter (env_none (by decide)) Tryz.func24 rfl (by kernel_rfl) (by simp [Tryz.ntmps24]) ?_
 repeat' (first
  |apply VWp.assoc
  |apply VWp.rseq
  |apply VWp.retSeq
  |apply VOps.nil
  |apply VOps.one
  |(apply VVal.fn;rfl;rfl;exact hc;intro _;rfl)
  |(apply VVal.assign;rfl)
  |(apply VVal.move;rfl)
  |(apply VVal.int;rfl;rfl;rfl)
  |(apply VVal.load;rfl;rfl)
  |(apply VVal.box;rfl;trivial)
  |(apply VWp.condSeq_dec;rfl)
  |(intro _;try (exfalso;omega)))
 all_goals first|(exfalso;omega)|contradiction|(refine Done.ret rfl (.refl _) (by first|exact trivial|exact ⟨trivial,trivial,trivial⟩|exact ⟨trivial,trivial,trivial,trivial⟩) HCov.nil (Nat.zero_le _) (Nat.le_refl _) ⟨?_,rfl,rfl⟩;try rfl)
set_option maxRecDepth 100000 in
set_option maxHeartbeats 1000000 in
theorem eCpl (o:Org) (ho:OrgSm o) (w:Int) (he:orgE o=w) (hw:w≠0):VFun env 23 [.agg (Enc.enc o),.str (bs [67,48])] (.tup [.p (.int .i64 0),.p (.bool false),.p (.int .i64 w)]):=by
 have hc:=ocheck_spec o ho
 rw [he] at hc
 refine VFun.enter (env_none (by decide)) Tryz.func23 rfl (by kernel_rfl) (by simp [Tryz.ntmps23]) ?_
 repeat' (first
  |apply VWp.assoc
  |apply VWp.rseq
  |apply VWp.retSeq
  |apply VOps.nil
  |apply VOps.one
  |(apply VVal.fn;rfl;rfl;exact hc;intro _;rfl)
  |(apply VVal.assign;rfl)
  |(apply VVal.move;rfl)
  |(apply VVal.int;rfl;rfl;rfl)
  |(apply VVal.load;rfl;rfl)
  |(apply VVal.box;rfl;trivial)
  |(apply VWp.condSeq_dec;rfl)
  |(intro _;try (exfalso;omega)))
 all_goals first|(exfalso;omega)|contradiction|(refine Done.ret rfl (.refl _) (by first|exact trivial|exact ⟨trivial,trivial,trivial⟩|exact ⟨trivial,trivial,trivial,trivial⟩) HCov.nil (Nat.zero_le _) (Nat.le_refl _) ⟨?_,rfl,rfl⟩;try rfl)
set_option maxRecDepth 100000 in
set_option maxHeartbeats 1000000 in
theorem eNone (o:Org) (ho:OrgSm o) (w:Int) (he:orgE o=w) (hw:w≠0):VFun env 15 [.agg (Enc.enc o)] (.tup [.p (.agg [.val (.slice none 0 0),.int .u64 0,.int .u64 0]),.p (.int .i64 w)]):=by
 have hc:=ocheck_spec o ho
 rw [he] at hc
 refine VFun.enter (env_none (by decide)) Tryz.func15 rfl (by kernel_rfl) (by simp [Tryz.ntmps15]) ?_
 repeat' (first
  |apply VWp.assoc
  |apply VWp.rseq
  |apply VWp.retSeq
  |apply VOps.nil
  |apply VOps.one
  |(apply VVal.fn;rfl;rfl;exact hc;intro _;rfl)
  |(apply VVal.assign;rfl)
  |(apply VVal.move;rfl)
  |(apply VVal.int;rfl;rfl;rfl)
  |(apply VVal.load;rfl;rfl)
  |(apply VVal.box;rfl;trivial)
  |(apply VVal.alloc;rfl)
  |(apply VVal.storeB;rfl;rfl;rfl;trivial;rfl;rfl;exact lt_dec rfl;exact le_dec rfl)
  |(apply VVal.build;rfl;rfl;rfl;rfl;rfl)
  |(apply VWp.condSeq_dec;rfl)
  |(intro _;try (exfalso;omega)))
 all_goals first|(exfalso;omega)|contradiction|(refine Done.ret rfl (.refl _) (by first|exact trivial|exact ⟨trivial,trivial,trivial⟩|exact ⟨trivial,trivial,trivial,trivial⟩) HCov.nil (Nat.zero_le _) (Nat.le_refl _) ⟨?_,rfl,rfl⟩;try rfl)
set_option maxRecDepth 100000 in
set_option maxHeartbeats 1000000 in
theorem eFull (o:Org) (ho:OrgSm o) (w:Int) (he:orgE o=w) (hw:w≠0):VFun env 16 [.agg (Enc.enc o)] (.tup [.p (.agg [.val (.slice none 0 0),.int .u64 0,.int .u64 0]),.p (.int .i64 w)]):=by
 have hn:=eNone o ho w he hw
 refine VFun.enter (env_none (by decide)) Tryz.func16 rfl (by kernel_rfl) (by simp [Tryz.ntmps16]) ?_
 repeat' (first
  |apply VWp.assoc
  |apply VWp.rseq
  |apply VWp.retSeq
  |apply VOps.nil
  |apply VOps.one
  |(apply VVal.fn;rfl;rfl;exact hn;intro _;rfl)
  |(apply VVal.assign;rfl)
  |(apply VVal.move;rfl)
  |(apply VVal.int;rfl;rfl;rfl)
  |(apply VVal.load;rfl;rfl)
  |(apply VVal.box;rfl;trivial)
  |(apply VVal.alloc;rfl)
  |(apply VVal.storeB;rfl;rfl;rfl;trivial;rfl;rfl;exact lt_dec rfl;exact le_dec rfl)
  |(apply VVal.build;rfl;rfl;rfl;rfl;rfl)
  |(apply VVal.extract;rfl;rfl)
  |(apply VWp.condSeq_dec;rfl)
  |(intro _;try (exfalso;omega)))
 all_goals first|(exfalso;omega)|contradiction|(refine Done.ret rfl (.refl _) (by first|exact trivial|exact ⟨trivial,trivial,trivial⟩|exact ⟨trivial,trivial,trivial,trivial⟩) HCov.nil (Nat.zero_le _) (Nat.le_refl _) ⟨?_,rfl,rfl⟩;try rfl)
set_option maxRecDepth 100000 in
set_option maxHeartbeats 1000000 in
theorem eReg (o:Org) (ho:OrgSm o) (w:Int) (he:orgE o=w) (hw:w≠0):VFun env 27 [.agg (Enc.enc o),.agg [.val (.slice none 0 0),.int .u64 0,.int .u64 0]] (.p (.int .i64 w)):=by
 have hc:=ocheck_spec o ho
 rw [he] at hc
 refine VFun.enter (env_none (by decide)) Tryz.func27 rfl (by kernel_rfl) (by simp [Tryz.ntmps27]) ?_
 repeat' (first
  |apply VWp.assoc
  |apply VWp.rseq
  |apply VWp.retSeq
  |apply VOps.nil
  |apply VOps.one
  |(apply VVal.fn;rfl;rfl;exact hc;intro _;rfl)
  |(apply VVal.assign;rfl)
  |(apply VVal.move;rfl)
  |(apply VVal.int;rfl;rfl;rfl)
  |(apply VVal.load;rfl;rfl)
  |(apply VVal.box;rfl;trivial)
  |(apply VWp.condSeq_dec;rfl)
  |(intro _;try (exfalso;omega)))
 all_goals first|(exfalso;omega)|contradiction|(refine Done.ret rfl (.refl _) (by first|exact trivial|exact ⟨trivial,trivial,trivial⟩|exact ⟨trivial,trivial,trivial,trivial⟩) HCov.nil (Nat.zero_le _) (Nat.le_refl _) ⟨?_,rfl,rfl⟩;try rfl)
set_option maxRecDepth 100000 in
set_option maxHeartbeats 1000000 in
theorem eWith (o:Org) (ho:OrgSm o) (w:Int) (he:orgE o=w) (hw:w≠0):VFun env 19 [.agg (Enc.enc o),.agg [.val (.slice none 0 0),.int .u64 0,.int .u64 0],.int .i64 0,.int .i64 0] (.tup [.p (.agg [.val (.slice none 0 0),.int .u64 0,.int .u64 0]),.p (.int .i64 w)]):=by
 have hc:=eReg o ho w he hw
 refine VFun.enter (env_none (by decide)) Tryz.func19 rfl (by kernel_rfl) (by simp [Tryz.ntmps19]) ?_
 repeat' (first
  |apply VWp.assoc
  |apply VWp.rseq
  |apply VWp.retSeq
  |apply VOps.nil
  |apply VOps.one
  |(apply VVal.fn;rfl;rfl;exact hc;intro _;rfl)
  |(apply VVal.assign;rfl)
  |(apply VVal.move;rfl)
  |(apply VVal.int;rfl;rfl;rfl)
  |(apply VVal.load;rfl;rfl)
  |(apply VVal.box;rfl;trivial)
  |(apply VVal.alloc;rfl)
  |(apply VVal.storeB;rfl;rfl;rfl;trivial;rfl;rfl;exact lt_dec rfl;exact le_dec rfl)
  |(apply VVal.build;rfl;rfl;rfl;rfl;rfl)
  |(apply VWp.condSeq_dec;rfl)
  |(intro _;try (exfalso;omega)))
 all_goals first|(exfalso;omega)|contradiction|(refine Done.ret rfl (.refl _) (by first|exact trivial|exact ⟨trivial,trivial,trivial⟩|exact ⟨trivial,trivial,trivial,trivial⟩) HCov.nil (Nat.zero_le _) (Nat.le_refl _) ⟨?_,rfl,rfl⟩;try rfl)
set_option maxRecDepth 100000 in
set_option maxHeartbeats 1000000 in
theorem eUnion (o:Org) (ho:OrgSm o) (w:Int) (he:orgE o=w) (hw:w≠0):VFun env 28 [.agg (Enc.enc o),.agg [.val (.slice none 0 0),.int .u64 0,.int .u64 0],.agg [.val (.slice none 0 0),.int .u64 0,.int .u64 0]] (.tup [.p (.agg [.val (.slice none 0 0),.int .u64 0,.int .u64 0]),.p (.int .i64 w)]):=by
 have hc:=eReg o ho w he hw
 refine VFun.enter (env_none (by decide)) Tryz.func28 rfl (by kernel_rfl) (by simp [Tryz.ntmps28]) ?_
 repeat' (first
  |apply VWp.assoc
  |apply VWp.rseq
  |apply VWp.retSeq
  |apply VOps.nil
  |apply VOps.one
  |(apply VVal.fn;rfl;rfl;exact hc;intro _;rfl)
  |(apply VVal.assign;rfl)
  |(apply VVal.move;rfl)
  |(apply VVal.int;rfl;rfl;rfl)
  |(apply VVal.load;rfl;rfl)
  |(apply VVal.box;rfl;trivial)
  |(apply VVal.alloc;rfl)
  |(apply VVal.storeB;rfl;rfl;rfl;trivial;rfl;rfl;exact lt_dec rfl;exact le_dec rfl)
  |(apply VVal.build;rfl;rfl;rfl;rfl;rfl)
  |(apply VWp.condSeq_dec;rfl)
  |(intro _;try (exfalso;omega)))
 all_goals first|(exfalso;omega)|contradiction|(refine Done.ret rfl (.refl _) (by first|exact trivial|exact ⟨trivial,trivial,trivial⟩|exact ⟨trivial,trivial,trivial,trivial⟩) HCov.nil (Nat.zero_le _) (Nat.le_refl _) ⟨?_,rfl,rfl⟩;try rfl)
set_option maxRecDepth 100000 in
set_option maxHeartbeats 1000000 in
theorem eKeys (o:Org) (ho:OrgSm o) (w:Int) (he:orgE o=w) (hw:w≠0):VFun env 34 [.agg (Enc.enc o),.val (.slice none 0 0)] (.p (.int .i64 w)):=by
 have hc:=ocheck_spec o ho
 rw [he] at hc
 refine VFun.enter (env_none (by decide)) Tryz.func34 rfl (by kernel_rfl) (by simp [Tryz.ntmps34]) ?_
 repeat' (first
  |apply VWp.assoc
  |apply VWp.rseq
  |apply VWp.retSeq
  |apply VOps.nil
  |apply VOps.one
  |(apply VVal.fn;rfl;rfl;exact hc;intro _;rfl)
  |(apply VVal.assign;rfl)
  |(apply VVal.move;rfl)
  |(apply VVal.int;rfl;rfl;rfl)
  |(apply VVal.load;rfl;rfl)
  |(apply VVal.box;rfl;trivial)
  |(apply VWp.condSeq_dec;rfl)
  |(intro _;try (exfalso;omega)))
 all_goals first|(exfalso;omega)|contradiction|(refine Done.ret rfl (.refl _) (by first|exact trivial|exact ⟨trivial,trivial,trivial⟩|exact ⟨trivial,trivial,trivial,trivial⟩) HCov.nil (Nat.zero_le _) (Nat.le_refl _) ⟨?_,rfl,rfl⟩;try rfl)
set_option maxRecDepth 100000 in
set_option maxHeartbeats 1000000 in
theorem ePlay (o:Org) (ho:OrgSm o) (w:Int) (he:orgE o=w) (hw:w≠0):VFun env 36 [.agg (Enc.enc o),.val (.slice none 0 0),.agg [.int .i64 0,.int .i64 0]] (.tup [.p (.val (.slice none 0 0)),.p (.int .i64 w)]):=by
 have hc:=eKeys o ho w he hw
 refine VFun.enter (env_none (by decide)) Tryz.func36 rfl (by kernel_rfl) (by simp [Tryz.ntmps36]) ?_
 repeat' (first
  |apply VWp.assoc
  |apply VWp.rseq
  |apply VWp.retSeq
  |apply VOps.nil
  |apply VOps.one
  |(apply VVal.fn;rfl;rfl;exact hc;intro _;rfl)
  |(apply VVal.assign;rfl)
  |(apply VVal.move;rfl)
  |(apply VVal.int;rfl;rfl;rfl)
  |(apply VVal.load;rfl;rfl)
  |(apply VVal.box;rfl;trivial)
  |(apply VWp.condSeq_dec;rfl)
  |(intro _;try (exfalso;omega)))
 all_goals first|(exfalso;omega)|contradiction|(refine Done.ret rfl (.refl _) (by first|exact trivial|exact ⟨trivial,trivial,trivial⟩|exact ⟨trivial,trivial,trivial,trivial⟩) HCov.nil (Nat.zero_le _) (Nat.le_refl _) ⟨?_,rfl,rfl⟩;try rfl)
set_option maxRecDepth 100000 in
set_option maxHeartbeats 1000000 in
theorem eCont (o:Org) (ho:OrgSm o) (w:Int) (he:orgE o=w) (hw:w≠0):VFun env 33 [.agg (Enc.enc o),.val (.slice none 0 0)] (.tup [.p (.val (.slice none 0 0)),.p (.int .i64 w)]):=by
 have hc:=eKeys o ho w he hw
 refine VFun.enter (env_none (by decide)) Tryz.func33 rfl (by kernel_rfl) (by simp [Tryz.ntmps33]) ?_
 repeat' (first
  |apply VWp.assoc
  |apply VWp.rseq
  |apply VWp.retSeq
  |apply VOps.nil
  |apply VOps.one
  |(apply VVal.fn;rfl;rfl;exact hc;intro _;rfl)
  |(apply VVal.assign;rfl)
  |(apply VVal.move;rfl)
  |(apply VVal.int;rfl;rfl;rfl)
  |(apply VVal.load;rfl;rfl)
  |(apply VVal.box;rfl;trivial)
  |(apply VWp.condSeq_dec;rfl)
  |(intro _;try (exfalso;omega)))
 all_goals first|(exfalso;omega)|contradiction|(refine Done.ret rfl (.refl _) (by first|exact trivial|exact ⟨trivial,trivial,trivial⟩|exact ⟨trivial,trivial,trivial,trivial⟩) HCov.nil (Nat.zero_le _) (Nat.le_refl _) ⟨?_,rfl,rfl⟩;try rfl)
theorem freeCount:eqFree Tryz.prog 36=true:=by kernel_rfl
set_option maxRecDepth 100000 in
theorem eqCount0:Vm.eqSt Tryz.prog 36 [.int .i64 0,.int .i64 0,.int .i64 0,.int .i64 0,.int .i64 0,.int .i64 0] [.int .i64 0,.int .i64 0,.int .i64 0,.int .i64 0,.int .i64 0,.int .i64 0]=some true:=by kernel_rfl
set_option maxRecDepth 100000 in
set_option maxHeartbeats 8000000 in
theorem organChecks_spec (x:OPl) (hx:x.Ok) (a:Slp) (ha:a.Ok) (b:Slp) (hb:b.Ok):VFun env 10 [.agg x.enc,.agg (Enc.enc a),.agg (Enc.enc b)] (.p (.bool true)):=by
 have hkn:=known_spec
 have hfs:=fits_spec x hx
 refine VFun.enter (env_none (by decide)) Tryz.func10 rfl (by kernel_rfl) (by simp [Tryz.ntmps10]) ?_
 by_cases hf:fitsP x
 case neg =>
  rw [decide_eq_false hf] at hfs
  repeat' (first
   |apply VWp.assoc
   |apply VWp.rseq
   |apply VWp.retSeq
   |apply VOps.nil
   |apply VOps.one
   |(apply VOps.take;rfl;rfl)
   |(apply VVal.fn;rfl;rfl;exact hkn;intro _;rfl)
   |(apply VVal.fn;rfl;rfl;exact hfs;intro _;rfl)
   |(apply VVal.assign;rfl)
   |(apply VVal.move;rfl)
   |(apply VVal.load;rfl;rfl)
   |(apply VVal.pick_false;rfl;rfl)
   |(apply VVal.box;rfl;trivial)
   |(apply VVal.not;rfl)
   |(apply VWp.condSeq_true;rfl))
  all_goals first|(exfalso;omega)|contradiction|(refine Done.ret rfl (.refl _) (by first|exact trivial|exact ⟨trivial,trivial,trivial⟩|exact ⟨trivial,trivial,trivial,trivial⟩) HCov.nil (Nat.zero_le _) (Nat.le_refl _) ⟨?_,rfl,rfl⟩;try rfl)
 rw [decide_eq_true hf] at hfs
 have hm:=make18_spec x hx hf
 have ho:=mkO_t x hx hf
 generalize mkO x=o at *
 have r1:=ho.ranks
 have r2:=ho.divs
 obtain ⟨p,hp,lp⟩:=chg_ex o 3 (by decide) ho.l (by omega) (by omega) a ha
 by_cases h1:0<p.ranks.length∧0<p.divs.length
 ·obtain ⟨q,hp2,lq⟩:=chg_ex p 103 (by decide) lp h1.1 h1.2 b hb
  have hk:=check18_spec q lq.sm
  have hc:=ocheck_spec q lq.sm
  have hq:=oequal_spec q q lq.sm lq.sm
  rw [decide_eq_true rfl] at hq
  by_cases h0:orgE q=0
  ·rw [h0] at hk hc
   repeat' (first
    |apply VWp.assoc
    |apply VWp.rseq
    |apply VWp.rseqD
    |apply VWp.skipSeq
    |apply VWp.retSeq
    |apply VOps.nil
    |apply VOpsD.nil
    |apply VOps.one
    |(apply VOpsD.bar;decide +kernel)
    |apply VOpsD.quiet
    |(apply VOps.take;rfl;rfl)
    |(apply VOps.guard;rfl;rfl)
    |(apply VVal.fn;rfl;rfl;exact hkn;intro _;rfl)
    |(apply VVal.fn;rfl;rfl;exact hfs;intro _;rfl)
    |(apply VVal.fn;rfl;rfl;exact hm;intro _;rfl)
    |(apply VVal.fn;rfl;rfl;exact hp;intro _;rfl)
    |(apply VVal.fn;rfl;rfl;exact hp2;intro _;rfl)
    |(apply VVal.fn;rfl;rfl;exact hk;intro _;rfl)
    |(apply VVal.fn;rfl;rfl;exact hc;intro _;rfl)
    |(apply VVal.fn;rfl;rfl;exact hq;intro _;rfl)
    |(apply VVal.assign;rfl)
    |(apply VVal.move;rfl)
    |(apply VVal.int;rfl;rfl;rfl)
    |(apply VVal.load;rfl;rfl)
    |(apply VVal.pick_true;rfl;rfl)
    |(apply VVal.pick_false;rfl;rfl)
    |(apply VVal.lenF;rfl;rfl)
    |(apply VVal.fieldB;rfl;rfl;rfl)
    |(apply VVal.box;rfl;trivial)
    |(apply VVal.alloc;rfl)
    |(apply VVal.storeB;rfl;rfl;rfl;trivial;rfl;rfl;exact lt_dec rfl;exact le_dec rfl)
    |(apply VVal.not;rfl)
    |(apply VWp.condSeq_true;rfl)
    |(apply VWp.condSeq_false;rfl)
    |(apply VWp.condSeq_dec;rfl)
    |(intro _;try (exfalso;omega)))
   all_goals first|(exfalso;omega)|contradiction|((refine Done.ret rfl (.refl _) (by first|exact trivial|exact ⟨trivial,trivial,trivial⟩|exact ⟨trivial,trivial,trivial,trivial⟩) HCov.nil (Nat.zero_le _) (Nat.le_refl _) ⟨?_,rfl,rfl⟩;try rfl);try simp)
  have w0:=eStat q lq.sm _ rfl h0
  have w1:=eRank q lq.sm _ rfl h0
  have w2:=eDiv q lq.sm _ rfl h0
  have w3:=eStop q lq.sm _ rfl h0
  have w4:=eCpl q lq.sm _ rfl h0
  have w5:=eNone q lq.sm _ rfl h0
  have w6:=eFull q lq.sm _ rfl h0
  have w7:=eReg q lq.sm _ rfl h0
  have w8:=eWith q lq.sm _ rfl h0
  have w9:=eUnion q lq.sm _ rfl h0
  have w10:=eKeys q lq.sm _ rfl h0
  have w11:=ePlay q lq.sm _ rfl h0
  have w12:=eCont q lq.sm _ rfl h0
  generalize orgE q=w at *
  repeat' (first
   |apply VWp.assoc
   |apply VWp.rseq
   |apply VWp.rseqD
   |apply VWp.skipSeq
   |apply VWp.ret
   |apply VOps.nil
   |apply VOpsD.nil
   |apply VOps.one
   |(apply VOpsD.bar;decide +kernel)
   |apply VOpsD.quiet
   |(apply VOps.take;rfl;rfl)
   |(apply VOps.guard;rfl;rfl)
   |(apply VVal.fn;rfl;rfl;exact hkn;intro _;rfl)
   |(apply VVal.fn;rfl;rfl;exact hfs;intro _;rfl)
   |(apply VVal.fn;rfl;rfl;exact hm;intro _;rfl)
   |(apply VVal.fn;rfl;rfl;exact hp;intro _;rfl)
   |(apply VVal.fn;rfl;rfl;exact hp2;intro _;rfl)
   |(apply VVal.fn;rfl;rfl;exact hk;intro _;rfl)
   |(apply VVal.fn;rfl;rfl;exact hc;intro _;rfl)
   |(apply VVal.fn;rfl;rfl;exact hq;intro _;rfl)
   |(apply VVal.fn;rfl;rfl;exact w0;intro _;rfl)
   |(apply VVal.fn;rfl;rfl;exact w1;intro _;rfl)
   |(apply VVal.fn;rfl;rfl;exact w2;intro _;rfl)
   |(apply VVal.fn;rfl;rfl;exact w3;intro _;rfl)
   |(apply VVal.fn;rfl;rfl;exact w4;intro _;rfl)
   |(apply VVal.fn;rfl;rfl;exact w5;intro _;rfl)
   |(apply VVal.fn;rfl;rfl;exact w6;intro _;rfl)
   |(apply VVal.fn;rfl;rfl;exact w7;intro _;rfl)
   |(apply VVal.fn;rfl;rfl;exact w8;intro _;rfl)
   |(apply VVal.fn;rfl;rfl;exact w9;intro _;rfl)
   |(apply VVal.fn;rfl;rfl;exact w10;intro _;rfl)
   |(apply VVal.fn;rfl;rfl;exact w11;intro _;rfl)
   |(apply VVal.fn;rfl;rfl;exact w12;intro _;rfl)
   |(apply VVal.neSt1;rfl;rfl;exact freeCount;exact eqCount0)
   |(apply VVal.assign;rfl)
   |(apply VVal.move;rfl)
   |(apply VVal.add64;rfl;rfl;omega)
   |(apply VVal.int;rfl;rfl;rfl)
   |(apply VVal.load;rfl;rfl)
   |(apply VVal.pick_true;rfl;rfl)
   |(apply VVal.pick_false;rfl;rfl)
   |(apply VVal.lenF;rfl;rfl)
   |(apply VVal.lenNil;rfl;rfl)
   |(apply VVal.fieldB;rfl;rfl;rfl)
   |(apply VVal.box;rfl;trivial)
   |(apply VVal.alloc;rfl)
   |(apply VVal.storeB;rfl;rfl;rfl;trivial;rfl;rfl;exact lt_dec rfl;exact le_dec rfl)
   |(apply VVal.build;rfl;rfl;rfl;rfl;rfl)
   |(apply VVal.not;rfl)
   |(apply VVal.extract;rfl;rfl)
   |(apply VWp.condSeq_false;rfl)
   |(apply VWp.condSeq_dec;rfl)
   |(intro _;try (exfalso;omega)))
  all_goals first|(exfalso;omega)|contradiction|((refine Done.ret rfl (.refl _) (by first|exact trivial|exact ⟨trivial,trivial,trivial⟩|exact ⟨trivial,trivial,trivial,trivial⟩) HCov.nil (Nat.zero_le _) (Nat.le_refl _) ⟨?_,rfl,rfl⟩;try rfl);try simp)
 ·have hk:=check18_spec p lp.sm
  have hc:=ocheck_spec p lp.sm
  have hq:=oequal_spec p p lp.sm lp.sm
  rw [decide_eq_true rfl] at hq
  by_cases h0:orgE p=0
  ·rw [h0] at hk hc
   repeat' (first
    |apply VWp.assoc
    |apply VWp.rseq
    |apply VWp.rseqD
    |apply VWp.skipSeq
    |apply VWp.retSeq
    |apply VOps.nil
    |apply VOpsD.nil
    |apply VOps.one
    |(apply VOpsD.bar;decide +kernel)
    |apply VOpsD.quiet
    |(apply VOps.take;rfl;rfl)
    |(apply VOps.drop;rfl;rfl;rfl)
    |(apply VOps.guard;rfl;rfl)
    |(apply VVal.fn;rfl;rfl;exact hkn;intro _;rfl)
    |(apply VVal.fn;rfl;rfl;exact hfs;intro _;rfl)
    |(apply VVal.fn;rfl;rfl;exact hm;intro _;rfl)
    |(apply VVal.fn;rfl;rfl;exact hp;intro _;rfl)
    |(apply VVal.fn;rfl;rfl;exact hk;intro _;rfl)
    |(apply VVal.fn;rfl;rfl;exact hc;intro _;rfl)
    |(apply VVal.fn;rfl;rfl;exact hq;intro _;rfl)
    |(apply VVal.assign;rfl)
    |(apply VVal.move;rfl)
    |(apply VVal.int;rfl;rfl;rfl)
    |(apply VVal.load;rfl;rfl)
    |(apply VVal.pick_true;rfl;rfl)
    |(apply VVal.pick_false;rfl;rfl)
    |(apply VVal.lenF;rfl;rfl)
    |(apply VVal.fieldB;rfl;rfl;rfl)
    |(apply VVal.box;rfl;trivial)
    |(apply VVal.alloc;rfl)
    |(apply VVal.storeB;rfl;rfl;rfl;trivial;rfl;rfl;exact lt_dec rfl;exact le_dec rfl)
    |(apply VVal.not;rfl)
    |(apply VWp.condSeq_true;rfl)
    |(apply VWp.condSeq_false;rfl)
    |(apply VWp.condSeq_dec;rfl)
    |(intro _;try (exfalso;omega)))
   all_goals first|(exfalso;omega)|contradiction|((refine Done.ret rfl (.refl _) (by first|exact trivial|exact ⟨trivial,trivial,trivial⟩|exact ⟨trivial,trivial,trivial,trivial⟩) HCov.nil (Nat.zero_le _) (Nat.le_refl _) ⟨?_,rfl,rfl⟩;try rfl);try simp)
  have w0:=eStat p lp.sm _ rfl h0
  have w1:=eRank p lp.sm _ rfl h0
  have w2:=eDiv p lp.sm _ rfl h0
  have w3:=eStop p lp.sm _ rfl h0
  have w4:=eCpl p lp.sm _ rfl h0
  have w5:=eNone p lp.sm _ rfl h0
  have w6:=eFull p lp.sm _ rfl h0
  have w7:=eReg p lp.sm _ rfl h0
  have w8:=eWith p lp.sm _ rfl h0
  have w9:=eUnion p lp.sm _ rfl h0
  have w10:=eKeys p lp.sm _ rfl h0
  have w11:=ePlay p lp.sm _ rfl h0
  have w12:=eCont p lp.sm _ rfl h0
  generalize orgE p=w at *
  repeat' (first
   |apply VWp.assoc
   |apply VWp.rseq
   |apply VWp.rseqD
   |apply VWp.skipSeq
   |apply VWp.ret
   |apply VOps.nil
   |apply VOpsD.nil
   |apply VOps.one
   |(apply VOpsD.bar;decide +kernel)
   |apply VOpsD.quiet
   |(apply VOps.take;rfl;rfl)
   |(apply VOps.drop;rfl;rfl;rfl)
   |(apply VOps.guard;rfl;rfl)
   |(apply VVal.fn;rfl;rfl;exact hkn;intro _;rfl)
   |(apply VVal.fn;rfl;rfl;exact hfs;intro _;rfl)
   |(apply VVal.fn;rfl;rfl;exact hm;intro _;rfl)
   |(apply VVal.fn;rfl;rfl;exact hp;intro _;rfl)
   |(apply VVal.fn;rfl;rfl;exact hk;intro _;rfl)
   |(apply VVal.fn;rfl;rfl;exact hc;intro _;rfl)
   |(apply VVal.fn;rfl;rfl;exact hq;intro _;rfl)
   |(apply VVal.fn;rfl;rfl;exact w0;intro _;rfl)
   |(apply VVal.fn;rfl;rfl;exact w1;intro _;rfl)
   |(apply VVal.fn;rfl;rfl;exact w2;intro _;rfl)
   |(apply VVal.fn;rfl;rfl;exact w3;intro _;rfl)
   |(apply VVal.fn;rfl;rfl;exact w4;intro _;rfl)
   |(apply VVal.fn;rfl;rfl;exact w5;intro _;rfl)
   |(apply VVal.fn;rfl;rfl;exact w6;intro _;rfl)
   |(apply VVal.fn;rfl;rfl;exact w7;intro _;rfl)
   |(apply VVal.fn;rfl;rfl;exact w8;intro _;rfl)
   |(apply VVal.fn;rfl;rfl;exact w9;intro _;rfl)
   |(apply VVal.fn;rfl;rfl;exact w10;intro _;rfl)
   |(apply VVal.fn;rfl;rfl;exact w11;intro _;rfl)
   |(apply VVal.fn;rfl;rfl;exact w12;intro _;rfl)
   |(apply VVal.neSt1;rfl;rfl;exact freeCount;exact eqCount0)
   |(apply VVal.assign;rfl)
   |(apply VVal.move;rfl)
   |(apply VVal.add64;rfl;rfl;omega)
   |(apply VVal.int;rfl;rfl;rfl)
   |(apply VVal.load;rfl;rfl)
   |(apply VVal.pick_true;rfl;rfl)
   |(apply VVal.pick_false;rfl;rfl)
   |(apply VVal.lenF;rfl;rfl)
   |(apply VVal.lenNil;rfl;rfl)
   |(apply VVal.fieldB;rfl;rfl;rfl)
   |(apply VVal.box;rfl;trivial)
   |(apply VVal.alloc;rfl)
   |(apply VVal.storeB;rfl;rfl;rfl;trivial;rfl;rfl;exact lt_dec rfl;exact le_dec rfl)
   |(apply VVal.build;rfl;rfl;rfl;rfl;rfl)
   |(apply VVal.not;rfl)
   |(apply VVal.extract;rfl;rfl)
   |(apply VWp.condSeq_false;rfl)
   |(apply VWp.condSeq_dec;rfl)
   |(intro _;try (exfalso;omega)))
  all_goals first|(exfalso;omega)|contradiction|((refine Done.ret rfl (.refl _) (by first|exact trivial|exact ⟨trivial,trivial,trivial⟩|exact ⟨trivial,trivial,trivial,trivial⟩) HCov.nil (Nat.zero_le _) (Nat.le_refl _) ⟨?_,rfl,rfl⟩;try rfl);try simp)
end Go.Proofs.YtcnlhgmkelkikaaGreatDoor
