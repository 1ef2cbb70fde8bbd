/-
  What small functions of the layer and of its reference compute. Conditions: in each statement.
-/
import Derived.Test.YtmfnchgkffhpfaaDoorCovA
set_option linter.unusedSimpArgs false
set_option linter.unusedVariables false
set_option linter.unusedSectionVars false
namespace Go.Proofs.YtmfnchgkffhpfaaDoor
open Go Go.Am Go.Vm
attribute [local irreducible] VVal VOps VOpsD VWp VCalls VFun VFunV QSeq QBlk QLoop Vm.Done DoneV
def chosenK (m:Nat):Nat→List Int
 |0=>[]
 |k+1=>if m / 2 ^ k % 2=1 then chosenK m k++[(k:Int)] else chosenK m k
theorem chosenK_len (m:Nat):∀ k,(chosenK m k).length≤k
 |0=>by simp [chosenK]
 |k+1=>by
  have:=chosenK_len m k
  simp only [chosenK]
  split
  ·simp;omega
  ·omega
theorem chosenK_stop {m k:Nat} (h:m / 2 ^ k=0):∀ n,k≤n→chosenK m n=chosenK m k:=by
 intro n hn
 induction hn with
 |refl=>rfl
 |step h' ih =>
  rename_i n
  have hk:k≤n:=h'
  simp only [chosenK]
  rw [if_neg,ih]
  have:m / 2 ^ n=0:=by
   have h1:m<2 ^ k:=by
    rcases Nat.lt_or_ge m (2 ^ k) with h1|h1
    ·exact h1
    ·have:=Nat.div_pos h1 (Nat.pow_pos (by omega));omega
   exact Nat.div_eq_of_lt (Nat.lt_of_lt_of_le h1 (Nat.pow_le_pow_right (by omega) hk))
  rw [this];decide
set_option maxRecDepth 100000 in
theorem chosen_spec (m n:Nat) (hm:m<2 ^ n) (hn:n≤20):VFunV env 37 [.int .i64 m] 3 (cells (chosenK m n)) (chosenK m n).length true:=by
 have hm2:m<2 ^ 20:=Nat.lt_of_lt_of_le hm (Nat.pow_le_pow_right (by omega) hn)
 refine VFunV.enter (env_none (by decide)) Tryd.func37 rfl (by kernel_rfl) (by simp [Tryd.ntmps37]) ?_
 repeat' (first
  |apply VWp.assoc
  |apply VWp.rseq
  |apply VWp.blockSeq
  |apply VOps.nil
  |apply VOps.one
  |(apply VVal.assign;rfl))
 refine VWp.ghost (Ghost.adopt 3 3 rfl) ?_
 refine VWp.loopQ (fun k:Nat=>[(0,.p (.int .i64 m)),(3,.vec 0 (chosenK m k).length 0 (chosenK m k).length),(4,.p (.int .i64 k))]) (fun k=>[(0,.vec 3 (cells (chosenK m k)) (chosenK m k).length true)]) 1 (fun k=>k≤n) (fun k=>n-k) 0 (by omega) (by omega) ⟨Nat.le_refl _,?_,?_⟩ ?_
 ·repeat (first|exact LCov.nil|refine LCov.same trivial rfl ?_|refine LCov.same (lt_dec rfl) rfl ?_|refine LCov.same ⟨trivial,lt_dec rfl,lt_dec rfl,lt_dec rfl,trivial⟩ rfl ?_|refine LCov.same ⟨trivial,lt_dec rfl,lt_dec rfl,trivial⟩ rfl ?_|refine LCov.same ⟨trivial,trivial⟩ rfl ?_|refine LCov.cons trivial rfl (.of_eq (lst_len (by simp<;>omega))) ?_)
 ·exact HCov.cons (by decide) trivial rfl (.refl _) HCov.nil
 intro k hk
 have hlen:=chosenK_len m k
 have hdl:m / 2 ^ k≤m:=Nat.div_le_self _ _
 have hst:k=n→m / 2 ^ k=0:=fun h=>by rw [h];exact Nat.div_eq_of_lt hm
 repeat' (first
  |apply VWp.assoc
  |apply VWp.rseq
  |apply VWp.region
  |apply VWp.skipSeq
  |apply VWp.exitSeq
  |apply VWp.blockSeq
  |apply QSeq.normal
  |apply QBlk.normal
  |apply QBlk.exit
  |apply QLoop.exit
  |apply VWp.ret
  |apply VWp.skip
  |apply VOps.nil
  |apply VOps.one
  |(apply VVal.assign;rfl)
  |(apply VVal.move;rfl)
  |(apply VVal.add64;rfl;rfl;omega)
  |(apply VVal.and1;rfl;rfl;omega)
  |(apply VVal.int;rfl;rfl;rfl)
  |(apply VVal.buildSlice;rfl;rfl;rfl;decide;rfl;rfl;rfl)
  |(apply VVal.append1;rfl;rfl;rfl;rfl;rfl;rfl;rfl;rfl;(intro _ h;cases h);rfl;rfl;rfl;decide;decide;(first|omega|(simp only [List.length_take,List.length_drop,List.length_append,List.length_singleton,List.length_cons,List.length_nil]<;>omega)))
  |(apply VVal.shrN;rfl;rfl;(simp only [IntKind.bits];omega))
  |(apply VWp.condSeq_dec;rfl)
  |(apply VWp.cond_dec;rfl)
  |(intro _;try (exfalso;omega)))
 ·rename_i h1 h2
  have e:chosenK m (k+1)=chosenK m k++[(k:Int)]:=by simp only [chosenK];rw [if_pos (by omega)]
  have e2:(chosenK m (k+1)).length=(chosenK m k).length+1:=by rw [e];simp
  refine QLoop.normal ⟨k+1,by omega,by omega,⟨by omega,?_,?_⟩⟩
  ·rw [e2];repeat (first|exact LCov.nil|refine LCov.same trivial rfl ?_|refine LCov.same (lt_dec rfl) rfl ?_|refine LCov.same ⟨trivial,lt_dec rfl,lt_dec rfl,lt_dec rfl,trivial⟩ rfl ?_|refine LCov.same ⟨trivial,lt_dec rfl,lt_dec rfl,trivial⟩ rfl ?_|refine LCov.same ⟨trivial,trivial⟩ rfl ?_|refine LCov.cons trivial rfl (.of_eq (lst_len (by simp<;>omega))) ?_)
  ·rw [e2,e];exact HCov.cons (by decide) trivial rfl (.refl _) HCov.nil
 ·rename_i h1 h2
  have e:chosenK m (k+1)=chosenK m k:=by simp only [chosenK];rw [if_neg (by omega)]
  refine QLoop.normal ⟨k+1,by omega,by omega,⟨by omega,?_,?_⟩⟩
  ·rw [e];repeat (first|exact LCov.nil|refine LCov.same trivial rfl ?_|refine LCov.same (lt_dec rfl) rfl ?_|refine LCov.same ⟨trivial,lt_dec rfl,lt_dec rfl,lt_dec rfl,trivial⟩ rfl ?_|refine LCov.same ⟨trivial,lt_dec rfl,lt_dec rfl,trivial⟩ rfl ?_|refine LCov.same ⟨trivial,trivial⟩ rfl ?_|refine LCov.cons trivial rfl (.of_eq (lst_len (by simp<;>omega))) ?_)
  ·rw [e];exact HCov.cons (by decide) trivial rfl (.refl _) HCov.nil
 ·rename_i h1
  rw [chosenK_stop (k:=k) (Nat.eq_zero_of_not_pos fun h=>h1 (Int.ofNat_lt.2 h)) n hk]
  exact DoneV.ret rfl rfl rfl rfl
def lessF (a b:List Int) (k:Nat):Bool :=
 if k<a.length∧k<b.length then if gi a k≠gi b k then decide (gi a k<gi b k) else lessF a b (k+1) else decide (a.length<b.length)
termination_by a.length-k
set_option maxRecDepth 100000 in
theorem less_spec (e e':TypeId) (a b:List Int) (ha:a.length<2^62) (hb:b.length<2^62):VFun env 38 [.lst e (cells a) a.length,.lst e' (cells b) b.length] (.p (.bool (lessF a b 0))):=by
 refine VFun.enter (env_none (by decide)) Tryd.func38 rfl (by kernel_rfl) (by simp [Tryd.ntmps38]) ?_
 repeat' (first
  |apply VWp.assoc
  |apply VWp.rseq
  |apply VWp.blockSeq
  |apply VOps.nil
  |apply VOps.one
  |(apply VVal.assign;rfl))
 refine VWp.loopQ (fun k:Nat=>[(0,lst e a),(1,lst e' b),(5,.p (.int .i64 k))]) (fun _=>[]) 0 (fun k=>k≤a.length∧lessF a b k=lessF a b 0) (fun k=>a.length-k) 0 (Nat.le_refl _) ⟨by omega,rfl⟩ ⟨Nat.le_refl _,?_,trivial⟩ ?_
 ·repeat (first|exact LCov.nil|refine LCov.same trivial rfl ?_|refine LCov.same (lt_dec rfl) rfl ?_|refine LCov.same ⟨trivial,lt_dec rfl,lt_dec rfl,lt_dec rfl,trivial⟩ rfl ?_|refine LCov.same ⟨trivial,lt_dec rfl,lt_dec rfl,trivial⟩ rfl ?_|refine LCov.same ⟨trivial,trivial⟩ rfl ?_|refine LCov.cons trivial rfl (.of_eq (lst_len (by simp<;>omega))) ?_)
 rintro k ⟨hk,hr⟩
 repeat' (first
  |apply VWp.assoc
  |apply VWp.rseq
  |apply VWp.rseqD
  |apply VWp.region
  |apply VWp.skipSeq
  |apply VWp.exitSeq
  |apply VWp.blockSeq
  |apply QSeq.normal
  |apply QSeq.ret
  |apply QBlk.normal
  |apply QBlk.ret
  |apply QBlk.exit
  |apply QLoop.ret
  |apply QLoop.exit
  |apply VWp.ret
  |apply VWp.skip
  |apply VOps.nil
  |apply VOpsD.nil
  |apply VOps.one
  |(apply VOpsD.bar;decide +kernel)
  |apply VOpsD.quiet
  |(apply VOps.take;rfl;rfl)
  |(apply VOps.drop;rfl;rfl;rfl)
  |(apply VOps.guard;rfl;rfl)
  |(apply VVal.assign;rfl)
  |(apply VVal.move;rfl)
  |(apply VVal.add64;rfl;rfl;omega)
  |(apply VVal.int;rfl;rfl;rfl)
  |(apply VVal.indexN;rfl;rfl;rfl;omega;rfl)
  |(apply VVal.load;rfl;rfl)
  |(apply VVal.pick_true;rfl;rfl)
  |(apply VVal.pick_false;rfl;rfl)
  |(apply VVal.lenF;rfl;rfl)
  |(apply VWp.condSeq_false;rfl)
  |(apply VWp.condSeq_dec;rfl)
  |(apply VWp.cond_dec;rfl)
  |(intro _;try (exfalso;omega)))
 ·refine Done.ret rfl (.refl _) (by first|exact trivial|exact ⟨trivial,trivial,trivial⟩|exact ⟨trivial,trivial,trivial,trivial⟩) HCov.nil (Nat.zero_le _) (Nat.le_refl _) ⟨?_,rfl,rfl⟩
  rename_i h1 h2 h3
  rw [← hr,lessF,if_pos ⟨by omega,by omega⟩,if_pos h3]
 ·rename_i h1 h2 h3
  refine QLoop.normal ⟨k+1,⟨by omega,?_⟩,by omega,⟨Nat.le_refl _,?_,trivial⟩⟩
  ·rw [← hr];conv=>rhs;rw [lessF]
   rw [if_pos ⟨by omega,by omega⟩,if_neg h3]
  ·repeat (first|exact LCov.nil|refine LCov.same trivial rfl ?_|refine LCov.same (lt_dec rfl) rfl ?_|refine LCov.same ⟨trivial,lt_dec rfl,lt_dec rfl,lt_dec rfl,trivial⟩ rfl ?_|refine LCov.same ⟨trivial,lt_dec rfl,lt_dec rfl,trivial⟩ rfl ?_|refine LCov.same ⟨trivial,trivial⟩ rfl ?_|refine LCov.cons trivial rfl (.of_eq (lst_len (by simp<;>omega))) ?_)
 ·refine Done.ret rfl (.refl _) (by first|exact trivial|exact ⟨trivial,trivial,trivial⟩|exact ⟨trivial,trivial,trivial,trivial⟩) HCov.nil (Nat.zero_le _) (Nat.le_refl _) ⟨?_,rfl,rfl⟩
  rename_i h1 h2
  rw [← hr,lessF,if_neg (by omega)]
  simp
 ·refine Done.ret rfl (.refl _) (by first|exact trivial|exact ⟨trivial,trivial,trivial⟩|exact ⟨trivial,trivial,trivial,trivial⟩) HCov.nil (Nat.zero_le _) (Nat.le_refl _) ⟨?_,rfl,rfl⟩
  rename_i h1
  rw [← hr,lessF,if_neg (by omega)]
  simp
def weighK (c:CSet) (ws:List Int):Nat→Int
 |0=>0
 |k+1=>weighK c ws k+gi ws (gi c.els k).toNat
theorem weighK_bd {c:CSet} {ws:List Int} (h:∀ i,i<ws.length→0≤gi ws i∧gi ws i≤1000000) (hs:∀ i,i<c.els.length→0≤gi c.els i∧gi c.els i<ws.length):∀ k,k≤c.els.length→0≤weighK c ws k∧weighK c ws k≤k*1000000
 |0,_=>by simp [weighK]
 |k+1,hk=>by
  have h1:=weighK_bd h hs k (by omega)
  have h2:=hs k (by omega)
  have h3:=h (gi c.els k).toNat (by omega)
  simp only [weighK]
  omega
set_option maxRecDepth 100000 in
theorem weigh_spec (e:TypeId) (c:CSet) (ws:List Int) (hl:c.els.length<1000) (h:∀ i,i<ws.length→0≤gi ws i∧gi ws i≤1000000) (hs:∀ i,i<c.els.length→0≤gi c.els i∧gi c.els i<ws.length) :
 VFun env 36 [.agg (Enc.enc c),.lst e (cells ws) ws.length] (.p (.int .i64 (weighK c ws c.els.length))):=by
 refine VFun.enter (env_none (by decide)) Tryd.func36 rfl (by kernel_rfl) (by simp [Tryd.ntmps36]) ?_
 repeat' (first
  |apply VWp.assoc
  |apply VWp.rseq
  |apply VWp.blockSeq
  |apply VOps.nil
  |apply VOps.one
  |(apply VVal.assign;rfl)
  |(apply VVal.move;rfl)
  |(apply VVal.load;rfl;rfl)
  |(apply VVal.lenF;rfl;rfl)
  |(apply VVal.fieldB;rfl;rfl;rfl)
  |(apply VVal.box;rfl;trivial))
 refine VWp.loopQ (fun k:Nat=>[(1,lst e ws),(5,.p (.int .i64 (weighK c ws k))),(9,lst 3 c.els),(10,.p (.int .i64 c.els.length)),(11,.p (.int .i64 k))]) (fun _=>[]) 0 (fun k=>k≤c.els.length) (fun k=>c.els.length-k) 0 (Nat.le_refl _) (by omega) ⟨by omega,?_,trivial⟩ ?_
 ·repeat (first|exact LCov.nil|refine LCov.same trivial rfl ?_|refine LCov.same (lt_dec rfl) rfl ?_|refine LCov.same ⟨trivial,lt_dec rfl,lt_dec rfl,lt_dec rfl,trivial⟩ rfl ?_|refine LCov.same ⟨trivial,lt_dec rfl,lt_dec rfl,trivial⟩ rfl ?_|refine LCov.same ⟨trivial,trivial⟩ rfl ?_|refine LCov.cons trivial rfl (.of_eq (lst_len (by simp<;>omega))) ?_)
 intro k hk
 have hbd:=weighK_bd h hs k hk
 by_cases hlt:k<c.els.length
 ·have h1:=hs k hlt
  have h2:=h (gi c.els k).toNat (by omega)
  repeat' (first
   |apply VWp.rseq
   |apply VWp.region
   |apply VWp.skipSeq
   |apply VWp.blockSeq
   |apply QSeq.normal
   |apply QBlk.normal
   |apply VOps.nil
   |apply VOps.one
   |(apply VVal.assign;rfl)
   |(apply VVal.move;rfl)
   |(apply VVal.add64;rfl;rfl;omega)
   |(apply VVal.int;rfl;rfl;rfl)
   |(apply VVal.indexN;rfl;rfl;rfl;omega;rfl)
   |(apply VVal.indexE;rfl;rfl;rfl;omega;omega;rfl)
   |(apply VVal.load;rfl;rfl)
   |(apply VWp.condSeq_dec;rfl)
   |(intro _;try (exfalso;omega)))
  ·refine QLoop.normal ⟨k+1,by omega,by omega,⟨Nat.le_refl _,?_,trivial⟩⟩
   repeat (first|exact LCov.nil|refine LCov.same trivial rfl ?_|refine LCov.same (lt_dec rfl) rfl ?_|refine LCov.same ⟨trivial,lt_dec rfl,lt_dec rfl,lt_dec rfl,trivial⟩ rfl ?_|refine LCov.same ⟨trivial,lt_dec rfl,lt_dec rfl,trivial⟩ rfl ?_|refine LCov.same ⟨trivial,trivial⟩ rfl ?_|refine LCov.cons trivial rfl (.of_eq (lst_len (by simp<;>omega))) ?_)
 ·repeat' (first
   |apply VWp.rseq
   |apply VWp.exitSeq
   |apply QSeq.normal
   |apply QBlk.exit
   |apply QLoop.exit
   |apply VWp.ret
   |apply VOps.nil
   |apply VOps.one
   |(apply VVal.assign;rfl)
   |(apply VVal.move;rfl)
   |(apply VVal.int;rfl;rfl;rfl)
   |(apply VWp.condSeq_dec;rfl)
   |(intro _;try (exfalso;omega)))
  ·refine Done.ret rfl (.refl _) (by first|exact trivial|exact ⟨trivial,trivial,trivial⟩|exact ⟨trivial,trivial,trivial,trivial⟩) HCov.nil (Nat.zero_le _) (Nat.le_refl _) ⟨?_,rfl,rfl⟩
   rw [show c.els.length=k by omega]
def rsg (l:List Int) (limit:Int) (k:Nat):Int :=
 if k<l.length then
  if gi l k<0∨gi l k≥limit then 10
  else if k>0∧gi l k≤gi l (k-1) then 6
  else rsg l limit (k+1)
 else 0
termination_by l.length-k
set_option maxRecDepth 100000 in
theorem rising_spec (e:TypeId) (l:List Int) (limit:Int) (hl:l.length<2^62):VFun env 53 [.lst e (cells l) l.length,.int .i64 limit] (.p (.int .i64 (rsg l limit 0))):=by
 refine VFun.enter (env_none (by decide)) Tryd.func53 rfl (by kernel_rfl) (by simp [Tryd.ntmps53]) ?_
 repeat' (first
  |apply VWp.assoc
  |apply VWp.rseq
  |apply VWp.blockSeq
  |apply VOps.nil
  |apply VOps.one
  |(apply VVal.assign;rfl)
  |(apply VVal.move;rfl)
  |(apply VVal.lenF;rfl;rfl))
 refine VWp.loopQ (fun k:Nat=>[(0,lst e l),(1,.p (.int .i64 limit)),(7,lst e l),(8,.p (.int .i64 l.length)),(9,.p (.int .i64 k))]) (fun _=>[]) 0 (fun k=>k≤l.length∧rsg l limit k=rsg l limit 0) (fun k=>l.length-k) 0 (Nat.le_refl _) ⟨by omega,rfl⟩ ⟨Nat.le_refl _,?_,trivial⟩ ?_
 ·repeat (first|exact LCov.nil|refine LCov.same trivial rfl ?_|refine LCov.same (lt_dec rfl) rfl ?_|refine LCov.same ⟨trivial,lt_dec rfl,lt_dec rfl,lt_dec rfl,trivial⟩ rfl ?_|refine LCov.same ⟨trivial,lt_dec rfl,lt_dec rfl,trivial⟩ rfl ?_|refine LCov.same ⟨trivial,trivial⟩ rfl ?_|refine LCov.cons trivial rfl (.of_eq (lst_len (by simp<;>omega))) ?_)
 rintro k ⟨hk,hr⟩
 repeat' (first
  |apply VWp.assoc
  |apply VWp.rseq
  |apply VWp.region
  |apply VWp.skipSeq
  |apply VWp.retSeq
  |apply VWp.exitSeq
  |apply VWp.blockSeq
  |apply QSeq.normal
  |apply QSeq.ret
  |apply QBlk.normal
  |apply QBlk.ret
  |apply QBlk.exit
  |apply QLoop.ret
  |apply QLoop.exit
  |apply VWp.ret
  |apply VWp.skip
  |apply VOps.nil
  |apply VOps.one
  |(apply VOps.take;rfl;rfl)
  |(apply VOps.drop;rfl;rfl;rfl)
  |(apply VOps.guard;rfl;rfl)
  |(apply VVal.assign;rfl)
  |(apply VVal.move;rfl)
  |(apply VVal.add64;rfl;rfl;omega)
  |(apply VVal.sub64;rfl;rfl;omega)
  |(apply VVal.int;rfl;rfl;rfl)
  |(apply VVal.indexN;rfl;rfl;rfl;omega;rfl)
  |(apply VVal.indexP;rfl;rfl;rfl;omega;omega;rfl)
  |(apply VVal.load;rfl;rfl)
  |(apply VVal.pick_true;rfl;rfl)
  |(apply VVal.pick_false;rfl;rfl)
  |(apply VWp.condSeq_true;rfl)
  |(apply VWp.condSeq_dec;rfl)
  |(apply VWp.cond_false;rfl)
  |(apply VWp.cond_dec;rfl)
  |(intro _;try (exfalso;omega)))
 all_goals try (refine Done.ret rfl (.refl _) (by first|exact trivial|exact ⟨trivial,trivial,trivial⟩|exact ⟨trivial,trivial,trivial,trivial⟩) HCov.nil (Nat.zero_le _) (Nat.le_refl _) ⟨?_,rfl,rfl⟩;rw [← hr,rsg];simp_all;done)
 all_goals try (
  refine QLoop.normal ⟨k+1,⟨by omega,?_⟩,by omega,⟨Nat.le_refl _,?_,trivial⟩⟩
  ·rw [← hr];conv=>rhs;rw [rsg]
   rw [if_pos (by omega),if_neg (by omega),if_neg (by omega)]
  ·repeat (first|exact LCov.nil|refine LCov.same trivial rfl ?_|refine LCov.same (lt_dec rfl) rfl ?_|refine LCov.same ⟨trivial,lt_dec rfl,lt_dec rfl,lt_dec rfl,trivial⟩ rfl ?_|refine LCov.same ⟨trivial,lt_dec rfl,lt_dec rfl,trivial⟩ rfl ?_|refine LCov.same ⟨trivial,trivial⟩ rfl ?_|refine LCov.cons trivial rfl (.of_eq (lst_len (by simp<;>omega))) ?_))
 ·refine Done.ret rfl (.refl _) (by first|exact trivial|exact ⟨trivial,trivial,trivial⟩|exact ⟨trivial,trivial,trivial,trivial⟩) HCov.nil (Nat.zero_le _) (Nat.le_refl _) ⟨?_,rfl,rfl⟩
  rw [← hr,rsg,if_neg (by omega)]
end Go.Proofs.YtmfnchgkffhpfaaDoor
