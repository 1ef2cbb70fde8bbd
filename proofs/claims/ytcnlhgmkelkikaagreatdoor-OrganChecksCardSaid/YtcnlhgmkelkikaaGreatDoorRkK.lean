/-
  Equality of ranks, in the layer and in the law; the law's names and check. Conditions: in each statement.
-/
import Derived.Test.YtcnlhgmkelkikaaGreatDoorRkI
import Derived.Test.YtcnlhgmkelkikaaGreatDoorRkJ
set_option linter.unusedSimpArgs false
set_option linter.unusedVariables false
namespace Go.Proofs.YtcnlhgmkelkikaaGreatDoor
open Go Go.Am Go.Vm
attribute [local irreducible] VVal VOps VOpsD VWp VCalls VFun VFunV QSeq QBlk QLoop Vm.Done DoneV DoneI
theorem gi_ext {α:Type} [Inhabited α] {l r:List α} (hl:l.length=r.length) (h:∀ i,i<l.length→gi l i=gi r i):l=r:=by
 apply List.ext_getElem hl
 intro i h1 h2
 have:=h i h1
 simpa [gi,List.getElem?_eq_getElem h1,List.getElem?_eq_getElem h2] using this
set_option maxRecDepth 100000 in
set_option maxHeartbeats 1000000 in
theorem seq_spec (a b:List Int) (ha:a.length<9223372036854775808) (hb:b.length<9223372036854775808):VFun env 89 [.lst 3 (cells a) a.length,.lst 3 (cells b) b.length] (.p (.bool (decide (a=b)))):=by
 refine VFun.enter (env_none (by decide)) Tryz.func89 rfl (by kernel_rfl) (by simp [Tryz.ntmps89]) ?_
 repeat' (first
  |apply VWp.assoc
  |apply VWp.rseq
  |apply VWp.skipSeq
  |apply VWp.retSeq
  |apply VWp.blockSeq
  |apply VOps.nil
  |apply VOps.one
  |(apply VVal.assign;rfl)
  |(apply VVal.move;rfl)
  |(apply VVal.int;rfl;rfl;rfl)
  |(apply VVal.lenF;rfl;rfl)
  |(apply VWp.condSeq_dec;rfl)
  |(intro _;try (exfalso;omega)))
 ·rename_i h
  rw [decide_eq_false (fun e=>h (by rw [e]))]
  (refine Done.ret rfl (.refl _) (by first|exact trivial|exact ⟨trivial,trivial,trivial⟩|exact ⟨trivial,trivial,trivial,trivial⟩) HCov.nil (Nat.zero_le _) (Nat.le_refl _) ⟨?_,rfl,rfl⟩;try rfl)
 rename_i h0
 have hlen:a.length=b.length:=by omega
 refine VWp.loopQ (fun k:Nat=>[(0,lst 3 a),(1,lst 3 b),(12,.p (.int .i64 (a.length:Int))),(13,.p (.int .i64 (k:Int)))]) (fun _=>[]) 0 (fun k=>k≤a.length∧∀ i,i<k→gi a i=gi b i) (fun k=>a.length-k) 0 (by omega) ⟨by omega,fun i hi=>by omega⟩ ⟨by omega,?_,?_⟩ ?_
 ·repeat (first|exact LCov.nil|refine LCov.same trivial rfl ?_|refine LCov.same (lt_dec rfl) rfl ?_|refine LCov.same ⟨trivial,lt_dec rfl,lt_dec rfl,lt_dec rfl,trivial⟩ rfl ?_|refine LCov.same ⟨trivial,lt_dec rfl,lt_dec rfl,trivial⟩ rfl ?_|refine LCov.same ⟨trivial,trivial⟩ rfl ?_|refine LCov.cons trivial rfl (.of_eq (lst_len (by simp<;>omega))) ?_)
 ·exact HCov.nil
 rintro k ⟨hk,hok⟩
 repeat' (first
  |apply VWp.rseq
  |apply VWp.rseqD
  |apply VWp.region
  |apply VWp.skipSeq
  |apply VWp.exitSeq
  |apply VWp.blockSeq
  |apply QSeq.normal
  |apply QSeq.ret
  |apply QBlk.normal
  |apply QBlk.ret
  |apply QBlk.exit
  |apply QLoop.ret
  |apply QLoop.exit
  |apply VWp.ret
  |apply VWp.skip
  |apply VOps.nil
  |apply VOpsD.nil
  |apply VOps.one
  |(apply VOpsD.bar;decide +kernel)
  |apply VOpsD.quiet
  |(apply VVal.assign;rfl)
  |(apply VVal.move;rfl)
  |(apply VVal.add64;rfl;rfl;omega)
  |(apply VVal.int;rfl;rfl;rfl)
  |(apply VVal.indexN;rfl;rfl;rfl;omega;rfl)
  |(apply VVal.load;rfl;rfl)
  |(apply VWp.condSeq_dec;rfl)
  |(apply VWp.cond_dec;rfl)
  |(intro _;try (exfalso;omega)))
 ·rename_i h1 h2
  rw [decide_eq_false (fun e=>h2 (by rw [e]))]
  (refine Done.ret rfl (.refl _) (by first|exact trivial|exact ⟨trivial,trivial,trivial⟩|exact ⟨trivial,trivial,trivial,trivial⟩) HCov.nil (Nat.zero_le _) (Nat.le_refl _) ⟨?_,rfl,rfl⟩;try rfl)
 ·rename_i h1 h2
  refine QLoop.normal ⟨k+1,⟨by omega,fun i hi=>?_⟩,by omega,⟨by omega,?_,HCov.nil⟩⟩
  ·rcases Nat.lt_or_ge i k with h|h
   ·exact hok i h
   ·obtain rfl:i=k:=by omega
    exact Classical.not_not.1 h2
  ·repeat (first|exact LCov.nil|refine LCov.same trivial rfl ?_|refine LCov.same (lt_dec rfl) rfl ?_|refine LCov.same ⟨trivial,lt_dec rfl,lt_dec rfl,lt_dec rfl,trivial⟩ rfl ?_|refine LCov.same ⟨trivial,lt_dec rfl,lt_dec rfl,trivial⟩ rfl ?_|refine LCov.same ⟨trivial,trivial⟩ rfl ?_|refine LCov.cons trivial rfl (.of_eq (lst_len (by simp<;>omega))) ?_)
 ·rename_i h1
  rw [decide_eq_true (gi_ext hlen fun i hi=>hok i (by omega))]
  (refine Done.ret rfl (.refl _) (by first|exact trivial|exact ⟨trivial,trivial,trivial⟩|exact ⟨trivial,trivial,trivial,trivial⟩) HCov.nil (Nat.zero_le _) (Nat.le_refl _) ⟨?_,rfl,rfl⟩;try rfl)
noncomputable instance (a b:Frac):Decidable (a=b):=Classical.propDecidable _
noncomputable instance (a b:Rnk):Decidable (a=b):=Classical.propDecidable _
theorem freeFrac:eqFree Tryz.prog 41=true:=by kernel_rfl
set_option maxRecDepth 100000 in
theorem eqFrac (x y:Frac):Vm.eqSt Tryz.prog 41 (Enc.enc x) (Enc.enc y)=some (decide (x=y)):=by
 show some (decide (x.num=y.num)&&(decide (x.den=y.den)&&true))=_
 by_cases h:x=y
 ·subst h;simp
 ·rw [decide_eq_false h]
  have:¬ (x.num=y.num∧x.den=y.den):=fun h'=>h (by cases x;cases y;simp_all)
  by_cases h1:x.num=y.num<;>simp_all
theorem rnk_dec (a b:Rnk):decide (a=b)=(decide (a.name=b.name)&&(decide (a.tone=b.tone)&&(decide (a.feet=b.feet)&&(decide (a.first=b.first)&&decide (a.wind=b.wind))))):=by
 by_cases h:a=b
 ·subst h;simp
 ·rw [decide_eq_false h]
  by_cases h1:a.name=b.name
  ·by_cases h2:a.tone=b.tone
   ·by_cases h3:a.feet=b.feet
    ·by_cases h4:a.first=b.first
     ·have h5:a.wind≠b.wind:=fun h5=>h (by cases a;cases b;simp_all)
      rw [decide_eq_false h5];simp
     ·rw [decide_eq_false h4];simp
    ·rw [decide_eq_false h3];simp
   ·rw [decide_eq_false h2];simp
  ·rw [decide_eq_false h1];simp
set_option maxRecDepth 100000 in
set_option maxHeartbeats 1000000 in
theorem requal_spec (a b:Rnk) (ha:rLen a) (hb:rLen b):VFun env 63 [.agg (Enc.enc a),.agg (Enc.enc b)] (.p (.bool (decide (a=b)))):=by
 have hs:=seq_spec a.wind b.wind ha.2.2 hb.2.2
 have hf:=eqFrac a.feet b.feet
 rw [rnk_dec]
 generalize hg1:decide (a.name=b.name)=g1 at *
 generalize hg2:decide (a.tone=b.tone)=g2 at *
 generalize hg3:decide (a.feet=b.feet)=g3 at *
 generalize hg5:decide (a.wind=b.wind)=g5 at *
 refine VFun.enter (env_none (by decide)) Tryz.func63 rfl (by kernel_rfl) (by simp [Tryz.ntmps63]) ?_
 cases g1<;>cases g2<;>cases g3
 all_goals
  repeat' (first
   |apply VWp.rseq
   |apply VWp.ret
   |apply VOps.nil
   |apply VOps.one
   |(apply VOps.take;rfl;rfl)
   |(apply VOps.drop;rfl;rfl;rfl)
   |(apply VOps.guard;rfl;rfl)
   |(apply VVal.eqSd;rfl;rfl;exact hg1)
   |(apply VVal.eqSd;rfl;rfl;exact hg2)
   |(apply VVal.eqSt1;rfl;rfl;exact freeFrac;exact hf)
   |(apply VVal.fn;rfl;rfl;exact hs;intro _;rfl)
   |(apply VVal.assign;rfl)
   |(apply VVal.move;rfl)
   |(apply VVal.int;rfl;rfl;rfl)
   |(apply VVal.load;rfl;rfl)
   |(apply VVal.pick_true;rfl;rfl)
   |(apply VVal.pick_false;rfl;rfl)
   |(apply VVal.fieldB;rfl;rfl;rfl)
   |(apply VVal.box;rfl;trivial)
   |(intro _;try (exfalso;omega)))
 all_goals (try (rename_i h4;rw [decide_eq_true h4]));(try (rename_i h4;rw [decide_eq_false h4]));(refine Done.ret rfl (.refl _) (by first|exact trivial|exact ⟨trivial,trivial,trivial⟩|exact ⟨trivial,trivial,trivial,trivial⟩) HCov.nil (Nat.zero_le _) (Nat.le_refl _) ⟨?_,rfl,rfl⟩;try rfl)
set_option maxRecDepth 100000 in
set_option maxHeartbeats 1000000 in
theorem same_spec (a b:Rnk) (ha:rLen a) (hb:rLen b):VFun env 66 [.agg (Enc.enc a),.agg (Enc.enc b)] (.p (.bool (decide (a=b)))):=by
 have hl1:=ha.2.2
 have hl2:=hb.2.2
 have hf:=eqFrac a.feet b.feet
 by_cases h1:a.name=b.name∧a.tone=b.tone∧a.feet=b.feet∧a.first=b.first∧a.wind.length=b.wind.length
 ·obtain ⟨h1,h2,h3,h4,h5⟩:=h1
  have g1:=decide_eq_true h1
  have g2:=decide_eq_true h2
  rw [decide_eq_true h3] at hf
  refine VFun.enter (env_none (by decide)) Tryz.func66 rfl (by kernel_rfl) (by simp [Tryz.ntmps66]) ?_
  repeat' (first
   |apply VWp.assoc
   |apply VWp.rseq
   |apply VWp.skipSeq
   |apply VWp.blockSeq
   |apply VOps.nil
   |apply VOps.one
   |(apply VOps.take;rfl;rfl)
   |(apply VOps.guard;rfl;rfl)
   |(apply VVal.neSd;rfl;rfl;exact g1)
   |(apply VVal.neSd;rfl;rfl;exact g2)
   |(apply VVal.neSt1;rfl;rfl;exact freeFrac;exact hf)
   |(apply VVal.assign;rfl)
   |(apply VVal.move;rfl)
   |(apply VVal.int;rfl;rfl;rfl)
   |(apply VVal.load;rfl;rfl)
   |(apply VVal.pick_false;rfl;rfl)
   |(apply VVal.lenF;rfl;rfl)
   |(apply VVal.fieldB;rfl;rfl;rfl)
   |(apply VVal.box;rfl;trivial)
   |(apply VWp.condSeq_dec;rfl)
   |(intro _;try (exfalso;omega)))
  all_goals try contradiction
  all_goals try (exfalso;omega)
  refine VWp.loopQ (fun k:Nat=>[(2,.ref 0 0),(3,.ref 1 0),(5,.p (.int .i64 (k:Int)))]) (fun _=>[(1,.box 44 ((Enc.enc b).map .p)),(0,.box 44 ((Enc.enc a).map .p))]) 2 (fun k=>k≤a.wind.length∧∀ i,i<k→gi a.wind i=gi b.wind i) (fun k=>a.wind.length-k) 0 (by omega) ⟨by omega,fun i hi=>by omega⟩ ⟨by omega,?_,?_⟩ ?_
  ·repeat (first|exact LCov.nil|refine LCov.same trivial rfl ?_|refine LCov.same (lt_dec rfl) rfl ?_|refine LCov.same ⟨trivial,lt_dec rfl,lt_dec rfl,lt_dec rfl,trivial⟩ rfl ?_|refine LCov.same ⟨trivial,lt_dec rfl,lt_dec rfl,trivial⟩ rfl ?_|refine LCov.same ⟨trivial,trivial⟩ rfl ?_|refine LCov.cons trivial rfl (.of_eq (lst_len (by simp<;>omega))) ?_)
  ·repeat (first|exact HCov.nil|(refine HCov.cons (lt_dec rfl) ?_ rfl ?_ ?_;(first|exact trivial|exact PVs.under_pure _ _|(simp [HB.under,PVs.under,PV.under]));(first|exact HLe.refl _|exact HLe.vec (FLes.refl _) (by simp))))
  rintro k ⟨hk,hok⟩
  repeat' (first
   |apply VWp.assoc
   |apply VWp.rseq
   |apply VWp.rseqD
   |apply VWp.region
   |apply VWp.skipSeq
   |apply VWp.exitSeq
   |apply VWp.blockSeq
   |apply QSeq.normal
   |apply QSeq.ret
   |apply QBlk.normal
   |apply QBlk.ret
   |apply QBlk.exit
   |apply QLoop.ret
   |apply QLoop.exit
   |apply VWp.ret
   |apply VWp.skip
   |apply VOps.nil
   |apply VOpsD.nil
   |apply VOps.one
   |(apply VOpsD.bar;decide +kernel)
   |apply VOpsD.quiet
   |(apply VVal.assign;rfl)
   |(apply VVal.move;rfl)
   |(apply VVal.add64;rfl;rfl;omega)
   |(apply VVal.int;rfl;rfl;rfl)
   |(apply VVal.indexN;rfl;rfl;rfl;omega;rfl)
   |(apply VVal.load;rfl;rfl)
   |(apply VVal.lenF;rfl;rfl)
   |(apply VVal.fieldB;rfl;rfl;rfl)
   |(apply VWp.condSeq_dec;rfl)
   |(apply VWp.cond_dec;rfl)
   |(intro _;try (exfalso;omega)))
  ·rename_i a1 a2
   rw [decide_eq_false (fun e=>a2 (by rw [e]))]
   (refine Done.ret rfl (.refl _) (by first|exact trivial|exact ⟨trivial,trivial,trivial⟩|exact ⟨trivial,trivial,trivial,trivial⟩) HCov.nil (Nat.zero_le _) (Nat.le_refl _) ⟨?_,rfl,rfl⟩;try rfl)
  ·rename_i a1 a2
   refine QLoop.normal ⟨k+1,⟨by omega,fun i hi=>?_⟩,by omega,⟨by omega,?_,?_⟩⟩
   ·rcases Nat.lt_or_ge i k with h|h
    ·exact hok i h
    ·obtain rfl:i=k:=by omega
     exact Classical.not_not.1 a2
   ·repeat (first|exact LCov.nil|refine LCov.same trivial rfl ?_|refine LCov.same (lt_dec rfl) rfl ?_|refine LCov.same ⟨trivial,lt_dec rfl,lt_dec rfl,lt_dec rfl,trivial⟩ rfl ?_|refine LCov.same ⟨trivial,lt_dec rfl,lt_dec rfl,trivial⟩ rfl ?_|refine LCov.same ⟨trivial,trivial⟩ rfl ?_|refine LCov.cons trivial rfl (.of_eq (lst_len (by simp<;>omega))) ?_)
   ·repeat (first|exact HCov.nil|(refine HCov.cons (lt_dec rfl) ?_ rfl ?_ ?_;(first|exact trivial|exact PVs.under_pure _ _|(simp [HB.under,PVs.under,PV.under]));(first|exact HLe.refl _|exact HLe.vec (FLes.refl _) (by simp))))
  ·rename_i a1
   have h6:=gi_ext h5 fun i hi=>hok i (by omega)
   rw [decide_eq_true (show a=b by cases a;cases b;simp_all)]
   (refine Done.ret rfl (.refl _) (by first|exact trivial|exact ⟨trivial,trivial,trivial⟩|exact ⟨trivial,trivial,trivial,trivial⟩) HCov.nil (Nat.zero_le _) (Nat.le_refl _) ⟨?_,rfl,rfl⟩;try rfl)
 ·rw [decide_eq_false (fun e=>h1 (by subst e;exact ⟨rfl,rfl,rfl,rfl,rfl⟩))]
  generalize hg1:decide (a.name=b.name)=g1 at *
  generalize hg2:decide (a.tone=b.tone)=g2 at *
  generalize hg3:decide (a.feet=b.feet)=g3 at *
  refine VFun.enter (env_none (by decide)) Tryz.func66 rfl (by kernel_rfl) (by simp [Tryz.ntmps66]) ?_
  cases g1<;>cases g2<;>cases g3
  all_goals
   repeat' (first
    |apply VWp.assoc
    |apply VWp.rseq
    |apply VWp.skipSeq
    |apply VWp.retSeq
    |apply VWp.blockSeq
    |apply VOps.nil
    |apply VOps.one
    |(apply VOps.take;rfl;rfl)
    |(apply VOps.drop;rfl;rfl;rfl)
    |(apply VOps.guard;rfl;rfl)
    |(apply VVal.neSd;rfl;rfl;exact hg1)
    |(apply VVal.neSd;rfl;rfl;exact hg2)
    |(apply VVal.neSt1;rfl;rfl;exact freeFrac;exact hf)
    |(apply VVal.assign;rfl)
    |(apply VVal.move;rfl)
    |(apply VVal.int;rfl;rfl;rfl)
    |(apply VVal.load;rfl;rfl)
    |(apply VVal.pick_true;rfl;rfl)
    |(apply VVal.pick_false;rfl;rfl)
    |(apply VVal.lenF;rfl;rfl)
    |(apply VVal.fieldB;rfl;rfl;rfl)
    |(apply VVal.box;rfl;trivial)
    |(apply VWp.condSeq_true;rfl)
    |(apply VWp.condSeq_dec;rfl)
    |(intro _;try (exfalso;omega)))
  all_goals first|(refine Done.ret rfl (.refl _) (by first|exact trivial|exact ⟨trivial,trivial,trivial⟩|exact ⟨trivial,trivial,trivial,trivial⟩) HCov.nil (Nat.zero_le _) (Nat.le_refl _) ⟨?_,rfl,rfl⟩;try rfl)|(exfalso;apply h1;refine ⟨of_decide_eq_true hg1,of_decide_eq_true hg2,of_decide_eq_true hg3,by omega,by omega⟩)
def lnC (i c:Nat):Prop:=isL c∨(i≠0∧(c=95∨(48≤c∧c≤57)))
set_option maxRecDepth 100000 in
set_option maxHeartbeats 1000000 in
theorem lname_spec (s:List UInt8) (hs:s.length<9223372036854775808):VFun env 76 [.str (bs s)] (.p (.bool (decide (nameOk s)))):=by
 refine VFun.enter (env_none (by decide)) Tryz.func76 rfl (by kernel_rfl) (by simp [Tryz.ntmps76]) ?_
 by_cases h0:0<s.length∧s.length≤32
 ·repeat' (first
   |apply VWp.assoc
   |apply VWp.rseq
   |apply VWp.skipSeq
   |apply VWp.blockSeq
   |apply VOps.nil
   |apply VOps.one
   |(apply VOps.take;rfl;rfl)
   |(apply VOps.guard;rfl;rfl)
   |(apply VVal.assign;rfl)
   |(apply VVal.move;rfl)
   |(apply VVal.int;rfl;rfl;rfl)
   |(apply VVal.pick_false;rfl;rfl)
   |(apply VVal.lenSt;rfl;rfl)
   |(apply VWp.condSeq_dec;rfl)
   |(intro _;try (exfalso;omega)))
  all_goals try (exfalso;omega)
  refine VWp.loopQ (fun k:Nat=>[(0,st s),(3,.p (.int .i64 (k:Int)))]) (fun _=>[]) 0 (fun k=>k≤s.length∧∀ i,i<k→lnC i (gi s i).toNat) (fun k=>s.length-k) 0 (by omega) ⟨by omega,fun i h2=>by omega⟩ ⟨by omega,?_,?_⟩ ?_
  ·repeat (first|exact LCov.nil|refine LCov.same trivial rfl ?_|refine LCov.same (lt_dec rfl) rfl ?_|refine LCov.same ⟨trivial,lt_dec rfl,lt_dec rfl,lt_dec rfl,trivial⟩ rfl ?_|refine LCov.same ⟨trivial,lt_dec rfl,lt_dec rfl,trivial⟩ rfl ?_|refine LCov.same ⟨trivial,trivial⟩ rfl ?_|refine LCov.cons trivial rfl (.of_eq (lst_len (by simp<;>omega))) ?_)
  ·exact HCov.nil
  rintro k ⟨hk,hok⟩
  have hc:=(gi s k).toNat_lt
  have hbad:k<s.length→¬ lnC k (gi s k).toNat→decide (nameOk s)=false:=fun h1 h2=>decide_eq_false fun h=>h2 (by
   rcases Nat.eq_zero_or_pos k with h3|h3
   ·subst h3;exact .inl h.2.2.1
   ·have:=h.2.2.2 k h3 h1
    unfold nmC isL at this
    unfold lnC isL
    omega)
  have hnext:lnC k (gi s k).toNat→∀ i,i<k+1→lnC i (gi s i).toNat:=fun h i h2=>by
   rcases Nat.lt_or_ge i k with h3|h3
   ·exact hok i h3
   ·obtain rfl:i=k:=by omega
    exact h
  by_cases hkl:k<s.length
  ·repeat' (first
    |apply VWp.assoc
    |apply VWp.rseq
    |apply VWp.region
    |apply VWp.skipSeq
    |apply VWp.blockSeq
    |apply QSeq.normal
    |apply QSeq.ret
    |apply QBlk.normal
    |apply QBlk.ret
    |apply QLoop.ret
    |apply VWp.ret
    |apply VWp.skip
    |apply VOps.nil
    |apply VOps.one
    |(apply VOps.take;rfl;rfl)
    |(apply VOps.drop;rfl;rfl;rfl)
    |(apply VOps.guard;rfl;rfl)
    |(apply VOps.dropU;rfl;rfl)
    |(apply VVal.notD;rfl)
    |(apply VVal.assign;rfl)
    |(apply VVal.move;rfl)
    |(apply VVal.add64;rfl;rfl;omega)
    |(apply VVal.int;rfl;rfl;rfl)
    |(apply VVal.pick_true;rfl;rfl)
    |(apply VVal.pick_false;rfl;rfl)
    |(apply VVal.lenSt;rfl;rfl)
    |(apply VVal.indexStN;rfl;rfl;rfl;omega)
    |(apply VVal.not;rfl)
    |(apply VWp.condSeq_dec;rfl)
    |(apply VWp.cond_true;rfl)
    |(apply VWp.cond_false;rfl)
    |(apply VWp.cond_dec;rfl)
    |(intro _;try (exfalso;omega)))
   all_goals try (exfalso;omega)
   all_goals first
    |(rw [hbad hkl (fun h=>by unfold lnC isL at h;omega)];(refine Done.ret rfl (.refl _) (by first|exact trivial|exact ⟨trivial,trivial,trivial⟩|exact ⟨trivial,trivial,trivial,trivial⟩) HCov.nil (Nat.zero_le _) (Nat.le_refl _) ⟨?_,rfl,rfl⟩;try rfl);done)
    |(refine QLoop.normal ⟨k+1,⟨by omega,hnext (by unfold lnC isL;omega)⟩,by omega,⟨by omega,?_,HCov.nil⟩⟩;repeat (first|exact LCov.nil|refine LCov.same trivial rfl ?_|refine LCov.same (lt_dec rfl) rfl ?_|refine LCov.same ⟨trivial,lt_dec rfl,lt_dec rfl,lt_dec rfl,trivial⟩ rfl ?_|refine LCov.same ⟨trivial,lt_dec rfl,lt_dec rfl,trivial⟩ rfl ?_|refine LCov.same ⟨trivial,trivial⟩ rfl ?_|refine LCov.cons trivial rfl (.of_eq (lst_len (by simp<;>omega))) ?_))
  ·obtain rfl:k=s.length:=by omega
   have h1:nameOk s:=by
    refine ⟨h0.1,h0.2,?_,fun i h1 h2=>?_⟩
    ·have:=hok 0 h0.1
     unfold lnC at this
     exact this.resolve_right fun h=>h.1 rfl
    ·have:=hok i h2
     unfold lnC isL at this
     unfold nmC isL
     omega
   rw [decide_eq_true h1]
   repeat' (first
    |apply VWp.assoc
    |apply VWp.rseq
    |apply VWp.exitSeq
    |apply QSeq.normal
    |apply QBlk.exit
    |apply QLoop.exit
    |apply VWp.ret
    |apply VOps.nil
    |apply VOps.one
    |(apply VVal.assign;rfl)
    |(apply VVal.move;rfl)
    |(apply VVal.int;rfl;rfl;rfl)
    |(apply VVal.lenSt;rfl;rfl)
    |(apply VWp.condSeq_dec;rfl)
    |(intro _;try (exfalso;omega)))
   all_goals first|(exfalso;omega)|(refine Done.ret rfl (.refl _) (by first|exact trivial|exact ⟨trivial,trivial,trivial⟩|exact ⟨trivial,trivial,trivial,trivial⟩) HCov.nil (Nat.zero_le _) (Nat.le_refl _) ⟨?_,rfl,rfl⟩;try rfl)
 ·rw [decide_eq_false (show ¬ nameOk s from fun h=>h0 ⟨h.1,h.2.1⟩)]
  repeat' (first
   |apply VWp.assoc
   |apply VWp.rseq
   |apply VWp.retSeq
   |apply VOps.nil
   |apply VOps.one
   |(apply VOps.take;rfl;rfl)
   |(apply VOps.drop;rfl;rfl;rfl)
   |(apply VOps.guard;rfl;rfl)
   |(apply VVal.assign;rfl)
   |(apply VVal.move;rfl)
   |(apply VVal.int;rfl;rfl;rfl)
   |(apply VVal.pick_true;rfl;rfl)
   |(apply VVal.pick_false;rfl;rfl)
   |(apply VVal.lenSt;rfl;rfl)
   |(apply VWp.condSeq_true;rfl)
   |(apply VWp.condSeq_dec;rfl)
   |(intro _;try (exfalso;omega)))
  all_goals first|(exfalso;omega)|(refine Done.ret rfl (.refl _) (by first|exact trivial|exact ⟨trivial,trivial,trivial⟩|exact ⟨trivial,trivial,trivial,trivial⟩) HCov.nil (Nat.zero_le _) (Nat.le_refl _) ⟨?_,rfl,rfl⟩;try rfl)
def fewR (r:Rnk):Prop:=(r.wind.length≤30∨r.wind.length=129)∧r.name.length≤40∧r.tone.length≤40
instance (r:Rnk):Decidable (fewR r):=by unfold fewR;infer_instance
end Go.Proofs.YtcnlhgmkelkikaaGreatDoor
