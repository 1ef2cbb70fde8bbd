/-
  What the reference's Missing, the law's sets and the layer's Check compute. Conditions: in each statement.
-/
import Derived.Test.YtmfnchgkffhpfaaDoorCovB
set_option linter.unusedSimpArgs false
set_option linter.unusedVariables false
set_option linter.unusedSectionVars false
namespace Go.Proofs.YtmfnchgkffhpfaaDoor
open Go Go.Am Go.Vm
attribute [local irreducible] VVal VOps VOpsD VWp VCalls VFun VFunV QSeq QBlk QLoop Vm.Done DoneV
def hasK (L:List CSet) (s:List Int) (x:Int):Nat→Bool
 |0=>false
 |k+1=>hasK L s x k||decide (x∈(gi L (gi s k).toNat).els)
def missK (L:List CSet) (s:List Int):Nat→List Int
 |0=>[]
 |k+1=>if hasK L s k s.length then missK L s k else missK L s k++[(k:Int)]
theorem missK_len (L:List CSet) (s:List Int):∀ k,(missK L s k).length≤k
 |0=>by simp [missK]
 |k+1=>by
  have:=missK_len L s k
  simp only [missK]
  split
  ·omega
  ·simp;omega
set_option maxRecDepth 100000 in
theorem rmissing_spec (e e':TypeId) (n:Nat) (L:List CSet) (s:List Int) (hn:n<1000) (hL:L.length<1000) (hl:s.length<1000) (h:∀ i,i<L.length→(gi L i).els.length<1000) (hs:∀ i,i<s.length→0≤gi s i∧gi s i<L.length) :
 VFunV env 20 [.int .i64 n,.lst e (cells L) L.length,.lst e' (cells s) s.length] 3 (cells (missK L s n)) (missK L s n).length true:=by
 refine VFunV.enter (env_none (by decide)) Tryd.func20 rfl (by kernel_rfl) (by simp [Tryd.ntmps20]) ?_
 repeat' (first
  |apply VWp.assoc
  |apply VWp.rseq
  |apply VWp.blockSeq
  |apply VOps.nil
  |apply VOps.one
  |(apply VVal.assign;rfl))
 refine VWp.ghost (Ghost.adopt 7 3 rfl) ?_
 refine VWp.loopQ (fun k:Nat=>[(0,.p (.int .i64 n)),(1,lst e L),(2,lst e' s),(7,.vec 0 (missK L s k).length 0 (missK L s k).length),(8,.p (.int .i64 k))]) (fun k=>[(0,.vec 3 (cells (missK L s k)) (missK L s k).length true)]) 1 (fun k=>k≤n) (fun k=>n-k) 0 (by omega) (by omega) ⟨Nat.le_refl _,?_,?_⟩ ?_
 ·repeat (first|exact LCov.nil|refine LCov.same trivial rfl ?_|refine LCov.same (lt_dec rfl) rfl ?_|refine LCov.same ⟨trivial,lt_dec rfl,lt_dec rfl,lt_dec rfl,trivial⟩ rfl ?_|refine LCov.same ⟨trivial,lt_dec rfl,lt_dec rfl,trivial⟩ rfl ?_|refine LCov.same ⟨trivial,trivial⟩ rfl ?_|refine LCov.cons trivial rfl (.of_eq (lst_len (by simp<;>omega))) ?_)
 ·exact HCov.cons (by decide) trivial rfl (.refl _) HCov.nil
 intro k hk
 have hlen:=missK_len L s k
 repeat' (first
  |apply VWp.assoc
  |apply VWp.rseq
  |apply VWp.skipSeq
  |apply VWp.exitSeq
  |apply VWp.blockSeq
  |apply QSeq.normal
  |apply QBlk.exit
  |apply QLoop.exit
  |apply VWp.ret
  |apply VOps.nil
  |apply VOps.one
  |(apply VVal.assign;rfl)
  |(apply VVal.move;rfl)
  |(apply VVal.int;rfl;rfl;rfl)
  |(apply VWp.condSeq_dec;rfl)
  |(intro _;try (exfalso;omega)))
 ·refine VWp.loopQ (fun j:Nat=>[(0,.p (.int .i64 n)),(1,lst e L),(2,lst e' s),(7,.vec 0 (missK L s k).length 0 (missK L s k).length),(8,.p (.int .i64 k)),(9,.p (.bool (hasK L s k j))),(10,.p (.int .i64 j))]) (fun _=>[(0,.vec 3 (cells (missK L s k)) (missK L s k).length true)]) 1 (fun j=>j≤s.length) (fun j=>s.length-j) 0 (by omega) (by omega) ⟨Nat.le_refl _,?_,?_⟩ ?_
  ·repeat (first|exact LCov.nil|refine LCov.same trivial rfl ?_|refine LCov.same (lt_dec rfl) rfl ?_|refine LCov.same ⟨trivial,lt_dec rfl,lt_dec rfl,lt_dec rfl,trivial⟩ rfl ?_|refine LCov.same ⟨trivial,lt_dec rfl,lt_dec rfl,trivial⟩ rfl ?_|refine LCov.same ⟨trivial,trivial⟩ rfl ?_|refine LCov.cons trivial rfl (.of_eq (lst_len (by simp<;>omega))) ?_)
  ·exact HCov.cons (by decide) trivial rfl (.refl _) HCov.nil
  intro j hj
  by_cases hlt:j<s.length
  ·have h1:=hs j hlt
   have h2:=h (gi s j).toNat (by omega)
   repeat' (first
    |apply VWp.assoc
    |apply VWp.rseq
    |apply VWp.region
    |apply VWp.skipSeq
    |apply VWp.blockSeq
    |apply QSeq.normal
    |apply QBlk.normal
    |apply VOps.nil
    |apply VOps.one
    |(apply VOps.take;rfl;rfl)
    |(apply VOps.drop;rfl;rfl;rfl)
    |(apply VOps.guardB;rfl;rfl)
    |(apply VVal.fn;rfl;rfl;exact has_spec _ _ _ (by omega);intro _;rfl)
    |(apply VVal.assign;rfl)
    |(apply VVal.move;rfl)
    |(apply VVal.add64;rfl;rfl;omega)
    |(apply VVal.int;rfl;rfl;rfl)
    |(apply VVal.indexN;rfl;rfl;rfl;omega;rfl)
    |(apply VVal.indexE;rfl;rfl;rfl;omega;omega;rfl)
    |(apply VVal.load;rfl;rfl)
    |(apply VVal.pick_true;rfl;rfl)
    |(apply VVal.pick_false;rfl;rfl)
    |(apply VVal.lenF;rfl;rfl)
    |(apply VVal.fieldF;rfl;rfl)
    |(apply VWp.condSeq_dec;rfl)
    |(intro _;try (exfalso;omega)))
   ·rename_i hb
    have e1:hasK L s k (j+1)=true:=by simp only [hasK,hb,Bool.true_or]
    refine QLoop.normal ⟨j+1,by omega,by omega,⟨by omega,?_,?_⟩⟩
    ·rw [e1];repeat (first|exact LCov.nil|refine LCov.same trivial rfl ?_|refine LCov.same (lt_dec rfl) rfl ?_|refine LCov.same ⟨trivial,lt_dec rfl,lt_dec rfl,lt_dec rfl,trivial⟩ rfl ?_|refine LCov.same ⟨trivial,lt_dec rfl,lt_dec rfl,trivial⟩ rfl ?_|refine LCov.same ⟨trivial,trivial⟩ rfl ?_|refine LCov.cons trivial rfl (.of_eq (lst_len (by simp<;>omega))) ?_)
    ·exact HCov.cons (by decide) trivial rfl (.refl _) HCov.nil
   ·rename_i hb
    have e1:hasK L s k (j+1)=decide ((k:Int)∈(gi L (gi s j).toNat).els):=by simp only [hasK,hb,Bool.false_or]
    refine QLoop.normal ⟨j+1,by omega,by omega,⟨by omega,?_,?_⟩⟩
    ·rw [e1];repeat (first|exact LCov.nil|refine LCov.same trivial rfl ?_|refine LCov.same (lt_dec rfl) rfl ?_|refine LCov.same ⟨trivial,lt_dec rfl,lt_dec rfl,lt_dec rfl,trivial⟩ rfl ?_|refine LCov.same ⟨trivial,lt_dec rfl,lt_dec rfl,trivial⟩ rfl ?_|refine LCov.same ⟨trivial,trivial⟩ rfl ?_|refine LCov.cons trivial rfl (.of_eq (lst_len (by simp<;>omega))) ?_)
    ·exact HCov.cons (by decide) trivial rfl (.refl _) HCov.nil
  ·have hj':j=s.length:=by omega
   subst hj'
   repeat' (first
    |apply VWp.assoc
    |apply VWp.rseq
    |apply VWp.region
    |apply VWp.exitSeq
    |apply QSeq.normal
    |apply QBlk.normal
    |apply QBlk.exit
    |apply QLoop.exit
    |apply VWp.skip
    |apply VOps.nil
    |apply VOps.one
    |(apply VVal.assign;rfl)
    |(apply VVal.move;rfl)
    |(apply VVal.add64;rfl;rfl;omega)
    |(apply VVal.int;rfl;rfl;rfl)
    |(apply VVal.lenF;rfl;rfl)
    |(apply VVal.buildSlice;rfl;rfl;rfl;decide;rfl;rfl;rfl)
    |(apply VVal.not;rfl)
    |(apply VVal.append1;rfl;rfl;rfl;rfl;rfl;rfl;rfl;rfl;(intro _ h;cases h);rfl;rfl;rfl;decide;decide;(first|omega|(simp only [List.length_take,List.length_drop,List.length_append,List.length_singleton,List.length_cons,List.length_nil]<;>omega)))
    |(apply VWp.condSeq_dec;rfl)
    |(apply VWp.cond;rfl)
    |(intro _;try (exfalso;omega)))
   ·rename_i hb
    have e1:missK L s (k+1)=missK L s k++[(k:Int)]:=by simp only [missK];rw [if_neg (by simpa using hb)]
    have e2:(missK L s (k+1)).length=(missK L s k).length+1:=by rw [e1];simp
    refine QLoop.normal ⟨k+1,by omega,by omega,⟨by omega,?_,?_⟩⟩
    ·rw [e2];repeat (first|exact LCov.nil|refine LCov.same trivial rfl ?_|refine LCov.same (lt_dec rfl) rfl ?_|refine LCov.same ⟨trivial,lt_dec rfl,lt_dec rfl,lt_dec rfl,trivial⟩ rfl ?_|refine LCov.same ⟨trivial,lt_dec rfl,lt_dec rfl,trivial⟩ rfl ?_|refine LCov.same ⟨trivial,trivial⟩ rfl ?_|refine LCov.cons trivial rfl (.of_eq (lst_len (by simp<;>omega))) ?_)
    ·rw [e2,e1];exact HCov.cons (by decide) trivial rfl (.refl _) HCov.nil
   ·rename_i hb
    have e1:missK L s (k+1)=missK L s k:=by simp only [missK];rw [if_pos (by simpa using hb)]
    refine QLoop.normal ⟨k+1,by omega,by omega,⟨by omega,?_,?_⟩⟩
    ·rw [e1];repeat (first|exact LCov.nil|refine LCov.same trivial rfl ?_|refine LCov.same (lt_dec rfl) rfl ?_|refine LCov.same ⟨trivial,lt_dec rfl,lt_dec rfl,lt_dec rfl,trivial⟩ rfl ?_|refine LCov.same ⟨trivial,lt_dec rfl,lt_dec rfl,trivial⟩ rfl ?_|refine LCov.same ⟨trivial,trivial⟩ rfl ?_|refine LCov.cons trivial rfl (.of_eq (lst_len (by simp<;>omega))) ?_)
    ·rw [e1];exact HCov.cons (by decide) trivial rfl (.refl _) HCov.nil
 ·rw [show n=k by omega]
  exact DoneV.ret rfl rfl rfl rfl
structure CProb where
 n:Int
 sets:List CSet
instance:Enc CProb:={ default:=⟨0,[]⟩,enc:=fun p=>[.int .i64 p.n,.lst 35 (cells p.sets) p.sets.length],size:=2,len:=fun _=>rfl }
theorem take_succ_gi {α:Type} [Inhabited α] {l:List α} {k:Nat} (hk:k<l.length):l.take (k+1)=l.take k++[gi l k]:=by
 rw [List.take_succ_eq_append_getElem hk];simp [gi,List.getElem?_eq_getElem hk]
set_option maxRecDepth 100000 in
theorem sets_spec (p:CProb) (hl:p.sets.length<1000):VFunV env 14 [.agg (Enc.enc p)] 72 (cells p.sets) p.sets.length true:=by
 refine VFunV.enter (env_none (by decide)) Tryd.func14 rfl (by kernel_rfl) (by simp [Tryd.ntmps14]) ?_
 repeat' (first
  |apply VWp.assoc
  |apply VWp.rseq
  |apply VWp.blockSeq
  |apply VOps.nil
  |apply VOps.one
  |(apply VVal.assign;rfl)
  |(apply VVal.box;rfl;trivial))
 refine VWp.ghost (Ghost.adopt 3 72 rfl) ?_
 refine VWp.loopQ (fun k:Nat=>[(1,.ref 0 0),(3,.vec 1 (p.sets.take k).length 0 (p.sets.take k).length),(4,.p (.int .i64 k))]) (fun k=>[(0,.box 29 ((Enc.enc p).map .p)),(1,.vec 72 (cells (p.sets.take k)) (p.sets.take k).length true)]) 2 (fun k=>k≤p.sets.length) (fun k=>p.sets.length-k) 0 (by omega) (by omega) ⟨Nat.le_refl _,?_,?_⟩ ?_
 ·repeat (first|exact LCov.nil|refine LCov.same trivial rfl ?_|refine LCov.same (lt_dec rfl) rfl ?_|refine LCov.same ⟨trivial,lt_dec rfl,lt_dec rfl,lt_dec rfl,trivial⟩ rfl ?_|refine LCov.same ⟨trivial,lt_dec rfl,lt_dec rfl,trivial⟩ rfl ?_|refine LCov.same ⟨trivial,trivial⟩ rfl ?_|refine LCov.cons trivial rfl (.of_eq (lst_len (by simp<;>omega))) ?_)
 ·repeat (first|exact HCov.nil|(refine HCov.cons (lt_dec rfl) ?_ rfl ?_ ?_;(first|exact trivial|exact PVs.under_pure _ _|(simp [HB.under,PVs.under,PV.under]));(first|exact HLe.refl _|exact HLe.vec (FLes.refl _) (by simp))))
 intro k hk
 have hlen:(p.sets.take k).length=k:=by rw [List.length_take];omega
 repeat' (first
  |apply VWp.assoc
  |apply VWp.rseq
  |apply VWp.region
  |apply VWp.regionD
  |apply VWp.skipSeq
  |apply VWp.exitSeq
  |apply VWp.blockSeq
  |apply QSeq.normal
  |apply QBlk.normal
  |apply QBlk.exit
  |apply QLoop.exit
  |apply VWp.ret
  |apply VOps.nil
  |apply VOpsD.nil
  |apply VOps.one
  |(apply VOpsD.bar;decide +kernel)
  |apply VOpsD.quiet
  |(apply VVal.assign;rfl)
  |(apply VVal.move;rfl)
  |(apply VVal.add64;rfl;rfl;omega)
  |(apply VVal.int;rfl;rfl;rfl)
  |(apply VVal.indexN;rfl;rfl;rfl;omega;rfl)
  |(apply VVal.load;rfl;rfl)
  |(apply VVal.lenF;rfl;rfl)
  |(apply VVal.fieldB;rfl;rfl;rfl)
  |(apply VVal.fieldF;rfl;rfl)
  |(apply VVal.build;rfl;rfl;rfl;rfl;rfl)
  |(apply VVal.buildSlice;rfl;rfl;rfl;decide;rfl;rfl;rfl)
  |(apply VVal.append1;rfl;rfl;rfl;rfl;rfl;rfl;rfl;rfl;(intro _ h;cases h);rfl;rfl;rfl;decide;decide;(first|omega|(simp only [List.length_take,List.length_drop,List.length_append,List.length_singleton,List.length_cons,List.length_nil]<;>omega)))
  |(apply VWp.condSeq_dec;rfl)
  |(intro _;try (exfalso;omega)))
 ·refine QLoop.normal ⟨k+1,by omega,by omega,⟨by omega,?_,?_⟩⟩
  ·rw [take_succ_gi (by omega),List.length_append];repeat (first|exact LCov.nil|refine LCov.same trivial rfl ?_|refine LCov.same (lt_dec rfl) rfl ?_|refine LCov.same ⟨trivial,lt_dec rfl,lt_dec rfl,lt_dec rfl,trivial⟩ rfl ?_|refine LCov.same ⟨trivial,lt_dec rfl,lt_dec rfl,trivial⟩ rfl ?_|refine LCov.same ⟨trivial,trivial⟩ rfl ?_|refine LCov.cons trivial rfl (.of_eq (lst_len (by simp<;>omega))) ?_)
  ·rw [take_succ_gi (by omega),List.length_append]
   repeat (first|exact HCov.nil|(refine HCov.cons (lt_dec rfl) ?_ rfl ?_ ?_;(first|exact trivial|exact PVs.under_pure _ _|(simp [HB.under,PVs.under,PV.under]));(first|exact HLe.refl _|exact HLe.vec (FLes.refl _) (by simp))))
 ·exact DoneV.ret rfl rfl (by omega) (by rw [List.take_of_length_le (by omega)])
def setErr (n:Int) (c:CSet):Int:=if rsg c.els n 0≠0 then rsg c.els n 0 else if c.cost<1∨c.cost>1000000 then 3 else 0
def setsErr (n:Int) (L:List CSet) (k:Nat):Int :=
 if k<L.length then if setErr n (gi L k)≠0 then setErr n (gi L k) else setsErr n L (k+1) else 0
termination_by L.length-k
def checkM (p:CProb):Int:=if p.n<0 then 3 else if p.n>40∨(p.sets.length:Int)>40 then 4 else setsErr p.n p.sets 0
set_option maxRecDepth 100000 in
theorem check_spec (p:CProb) (hl:p.sets.length<2^62) (h:∀ i,i<p.sets.length→(gi p.sets i).els.length<2^62):VFun env 34 [.agg (Enc.enc p)] (.p (.int .i64 (checkM p))):=by
 refine VFun.enter (env_none (by decide)) Tryd.func34 rfl (by kernel_rfl) (by simp [Tryd.ntmps34]) ?_
 repeat' (first
  |apply VWp.assoc
  |apply VWp.rseq
  |apply VWp.blockSeq
  |apply QSeq.normal
  |apply QSeq.ret
  |apply QBlk.normal
  |apply QBlk.ret
  |apply VWp.ret
  |apply VWp.skip
  |apply VOps.nil
  |apply VOps.one
  |(apply VOps.take;rfl;rfl)
  |(apply VOps.drop;rfl;rfl;rfl)
  |(apply VOps.guard;rfl;rfl)
  |(apply VVal.assign;rfl)
  |(apply VVal.move;rfl)
  |(apply VVal.int;rfl;rfl;rfl)
  |(apply VVal.load;rfl;rfl)
  |(apply VVal.pick_true;rfl;rfl)
  |(apply VVal.pick_false;rfl;rfl)
  |(apply VVal.lenF;rfl;rfl)
  |(apply VVal.fieldB;rfl;rfl;rfl)
  |(apply VVal.box;rfl;trivial)
  |(apply VWp.cond_true;rfl)
  |(apply VWp.cond_dec;rfl)
  |(intro _;try (exfalso;omega)))
 all_goals try (refine Done.ret rfl (.refl _) (by first|exact trivial|exact ⟨trivial,trivial,trivial⟩|exact ⟨trivial,trivial,trivial,trivial⟩) HCov.nil (Nat.zero_le _) (Nat.le_refl _) ⟨?_,rfl,rfl⟩;rw [checkM];simp_all;done)
 refine VWp.loopQ (fun k:Nat=>[(1,.ref 0 0),(21,lst 35 p.sets),(22,.p (.int .i64 p.sets.length)),(23,.p (.int .i64 k))]) (fun k=>[(0,.box 29 ((Enc.enc p).map .p))]) 1 (fun k=>k≤p.sets.length∧setsErr p.n p.sets k=setsErr p.n p.sets 0) (fun k=>p.sets.length-k) 0 (by omega) ⟨by omega,rfl⟩ ⟨Nat.le_refl _,?_,?_⟩ ?_
 ·repeat (first|exact LCov.nil|refine LCov.same trivial rfl ?_|refine LCov.same (lt_dec rfl) rfl ?_|refine LCov.same ⟨trivial,lt_dec rfl,lt_dec rfl,lt_dec rfl,trivial⟩ rfl ?_|refine LCov.same ⟨trivial,lt_dec rfl,lt_dec rfl,trivial⟩ rfl ?_|refine LCov.same ⟨trivial,trivial⟩ rfl ?_|refine LCov.cons trivial rfl (.of_eq (lst_len (by simp<;>omega))) ?_)
 ·repeat (first|exact HCov.nil|(refine HCov.cons (lt_dec rfl) ?_ rfl ?_ ?_;(first|exact trivial|exact PVs.under_pure _ _|(simp [HB.under,PVs.under,PV.under]));(first|exact HLe.refl _|exact HLe.vec (FLes.refl _) (by simp))))
 rintro k ⟨hk,hr⟩
 have hc:checkM p=setsErr p.n p.sets k:=by rw [checkM,if_neg (by omega),if_neg (by omega),hr]
 repeat' (first
  |apply VWp.assoc
  |apply VWp.rseq
  |apply VWp.region
  |apply VWp.skipSeq
  |apply VWp.retSeq
  |apply VWp.exitSeq
  |apply VWp.blockSeq
  |apply QSeq.normal
  |apply QSeq.ret
  |apply QBlk.normal
  |apply QBlk.ret
  |apply QBlk.exit
  |apply QLoop.ret
  |apply QLoop.exit
  |apply VWp.ret
  |apply VWp.skip
  |apply VOps.nil
  |apply VOps.one
  |(apply VOps.take;rfl;rfl)
  |(apply VOps.drop;rfl;rfl;rfl)
  |(apply VOps.guard;rfl;rfl)
  |(apply VVal.fn;rfl;rfl;exact rising_spec _ _ _ (h k (by omega));intro _;rfl)
  |(apply VVal.assign;rfl)
  |(apply VVal.move;rfl)
  |(apply VVal.add64;rfl;rfl;omega)
  |(apply VVal.int;rfl;rfl;rfl)
  |(apply VVal.indexN;rfl;rfl;rfl;omega;rfl)
  |(apply VVal.load;rfl;rfl)
  |(apply VVal.pick_true;rfl;rfl)
  |(apply VVal.pick_false;rfl;rfl)
  |(apply VVal.fieldB;rfl;rfl;rfl)
  |(apply VVal.alloc;rfl)
  |(apply VVal.storeB;rfl;rfl;rfl;trivial;rfl;rfl;exact lt_dec rfl;exact le_dec rfl)
  |(apply VWp.condSeq_dec;rfl)
  |(apply VWp.cond_true;rfl)
  |(apply VWp.cond_dec;rfl)
  |(intro _;try (exfalso;omega)))
 all_goals try (refine Done.ret rfl (.refl _) (by first|exact trivial|exact ⟨trivial,trivial,trivial⟩|exact ⟨trivial,trivial,trivial,trivial⟩) HCov.nil (Nat.zero_le _) (Nat.le_refl _) ⟨?_,rfl,rfl⟩;rw [hc,setsErr];simp_all [setErr];done)
 all_goals try (
  refine QLoop.normal ⟨k+1,⟨by omega,?_⟩,by omega,⟨by omega,?_,?_⟩⟩
  ·have e0:setErr p.n (gi p.sets k)=0:=by simp_all [setErr]
   rw [← hr];conv=>rhs;rw [setsErr]
   rw [if_pos (by omega),if_neg (by omega)]
  ·repeat (first|exact LCov.nil|refine LCov.same trivial rfl ?_|refine LCov.same (lt_dec rfl) rfl ?_|refine LCov.same ⟨trivial,lt_dec rfl,lt_dec rfl,lt_dec rfl,trivial⟩ rfl ?_|refine LCov.same ⟨trivial,lt_dec rfl,lt_dec rfl,trivial⟩ rfl ?_|refine LCov.same ⟨trivial,trivial⟩ rfl ?_|refine LCov.cons trivial rfl (.of_eq (lst_len (by simp<;>omega))) ?_)
  ·repeat (first|exact HCov.nil|(refine HCov.cons (lt_dec rfl) ?_ rfl ?_ ?_;(first|exact trivial|exact PVs.under_pure _ _|(simp [HB.under,PVs.under,PV.under]));(first|exact HLe.refl _|exact HLe.vec (FLes.refl _) (by simp)))))
 ·refine Done.ret rfl (.refl _) (by first|exact trivial|exact ⟨trivial,trivial,trivial⟩|exact ⟨trivial,trivial,trivial,trivial⟩) HCov.nil (Nat.zero_le _) (Nat.le_refl _) ⟨?_,rfl,rfl⟩
  rw [hc,setsErr,if_neg (by omega)]
end Go.Proofs.YtmfnchgkffhpfaaDoor
