/-
  What the layer's Packing and the law's Make compute. Conditions: in each statement.
-/
import Derived.Test.YtmfnchgkffhpfaaDoorCovC
set_option linter.unusedSimpArgs false
set_option linter.unusedVariables false
set_option linter.unusedSectionVars false
namespace Go.Proofs.YtmfnchgkffhpfaaDoor
open Go Go.Am Go.Vm
attribute [local irreducible] VVal VOps VOpsD VWp VCalls VFun VFunV QSeq QBlk QLoop Vm.Done DoneV
def sumK (l:List Int):Nat→Int
 |0=>0
 |k+1=>sumK l k+gi l k
theorem sumK_bd {l:List Int} (h:∀ i,i<l.length→0≤gi l i∧gi l i≤1000000):∀ k,k≤l.length→0≤sumK l k∧sumK l k≤k*1000000
 |0,_=>by simp [sumK]
 |k+1,hk=>by
  have h1:=sumK_bd h k (by omega)
  have h3:=h k (by omega)
  simp only [sumK]
  omega
def badW (l:List Int) (k:Nat):Prop:=∃ i,i<k∧i<l.length∧(gi l i<0∨gi l i>1000000)
def badS (L:List CSet) (ws:List Int) (k:Nat):Prop:=∃ i,i<k∧i<L.length∧weighK (gi L i) ws (gi L i).els.length>(gi L i).cost
open Classical in
noncomputable def packM (p:CProb) (ws:List Int):Int×Int :=
 if (ws.length:Int)≠p.n then (0,5) else if badW ws ws.length then (0,3) else if badS p.sets ws p.sets.length then (0,20) else (sumK ws ws.length,0)
set_option maxRecDepth 100000 in
theorem packing_spec (e:TypeId) (p:CProb) (ws:List Int) (hw:ws.length<1000) (hl:p.sets.length<1000) (hc:checkM p=0) (h:∀ i,i<p.sets.length→(gi p.sets i).els.length<1000) (hs:∀ i j,i<p.sets.length→j<(gi p.sets i).els.length→0≤gi (gi p.sets i).els j∧gi (gi p.sets i).els j<p.n) :
 VFun env 12 [.agg (Enc.enc p),.lst e (cells ws) ws.length] (.tup [.p (.int .i64 (packM p ws).1),.p (.int .i64 (packM p ws).2)]):=by
 have hck:=check_spec p (by omega) (fun i hi=>by have:=h i hi;omega)
 rw [hc] at hck
 refine VFun.enter (env_none (by decide)) Tryd.func12 rfl (by kernel_rfl) (by simp [Tryd.ntmps12]) ?_
 repeat' (first
  |apply VWp.assoc
  |apply VWp.rseq
  |apply VWp.skipSeq
  |apply VWp.retSeq
  |apply VWp.blockSeq
  |apply VOps.nil
  |apply VOps.one
  |(apply VVal.fn;rfl;rfl;exact hck;intro _;rfl)
  |(apply VVal.assign;rfl)
  |(apply VVal.move;rfl)
  |(apply VVal.int;rfl;rfl;rfl)
  |(apply VVal.load;rfl;rfl)
  |(apply VVal.lenF;rfl;rfl)
  |(apply VVal.fieldB;rfl;rfl;rfl)
  |(apply VVal.box;rfl;trivial)
  |(apply VWp.condSeq_false;rfl)
  |(apply VWp.condSeq_dec;rfl)
  |(intro _;try (exfalso;omega)))
 ·refine Done.ret rfl (.refl _) (by first|exact trivial|exact ⟨trivial,trivial,trivial⟩|exact ⟨trivial,trivial,trivial,trivial⟩) HCov.nil (Nat.zero_le _) (Nat.le_refl _) ⟨?_,rfl,rfl⟩
  rw [packM,if_pos ‹_›]
 have hn:(ws.length:Int)=p.n:=Decidable.not_not.1 ‹_›
 refine VWp.loopQ (fun k:Nat=>[(1,lst e ws),(2,.ref 0 0),(7,.p (.int .i64 (sumK ws k))),(22,lst e ws),(23,.p (.int .i64 ws.length)),(24,.p (.int .i64 k))]) (fun k=>[(0,.box 29 ((Enc.enc p).map .p))]) 1 (fun k=>k≤ws.length∧∀ i,i<k→0≤gi ws i∧gi ws i≤1000000) (fun k=>ws.length-k) 0 (by omega) ⟨by omega,fun i hi=>by omega⟩ ⟨by omega,?_,?_⟩ ?_
 ·repeat (first|exact LCov.nil|refine LCov.same trivial rfl ?_|refine LCov.same (lt_dec rfl) rfl ?_|refine LCov.same ⟨trivial,lt_dec rfl,lt_dec rfl,lt_dec rfl,trivial⟩ rfl ?_|refine LCov.same ⟨trivial,lt_dec rfl,lt_dec rfl,trivial⟩ rfl ?_|refine LCov.same ⟨trivial,trivial⟩ rfl ?_|refine LCov.cons trivial rfl (.of_eq (lst_len (by simp<;>omega))) ?_)
 ·repeat (first|exact HCov.nil|(refine HCov.cons (lt_dec rfl) ?_ rfl ?_ ?_;(first|exact trivial|exact PVs.under_pure _ _|(simp [HB.under,PVs.under,PV.under]));(first|exact HLe.refl _|exact HLe.vec (FLes.refl _) (by simp))))
 rintro k ⟨hk,hr⟩
 have hsum:0≤sumK ws k∧sumK ws k≤k*1000000:=by
  clear hck
  induction k with
  |zero=>simp [sumK]
  |succ k ih =>
   have h1:=ih (by omega) (fun i hi=>hr i (by omega))
   have h2:=hr k (by omega)
   simp only [sumK]
   omega
 repeat' (first
  |apply VWp.assoc
  |apply VWp.rseq
  |apply VWp.region
  |apply VWp.skipSeq
  |apply VWp.retSeq
  |apply VWp.exitSeq
  |apply VWp.blockSeq
  |apply QSeq.normal
  |apply QSeq.ret
  |apply QBlk.normal
  |apply QBlk.ret
  |apply QBlk.exit
  |apply QLoop.ret
  |apply QLoop.exit
  |apply VOps.nil
  |apply VOps.one
  |(apply VOps.take;rfl;rfl)
  |(apply VOps.drop;rfl;rfl;rfl)
  |(apply VOps.guard;rfl;rfl)
  |(apply VVal.assign;rfl)
  |(apply VVal.move;rfl)
  |(apply VVal.add64;rfl;rfl;omega)
  |(apply VVal.int;rfl;rfl;rfl)
  |(apply VVal.indexN;rfl;rfl;rfl;omega;rfl)
  |(apply VVal.load;rfl;rfl)
  |(apply VVal.pick_true;rfl;rfl)
  |(apply VVal.pick_false;rfl;rfl)
  |(apply VVal.lenF;rfl;rfl)
  |(apply VVal.fieldB;rfl;rfl;rfl)
  |(apply VWp.condSeq_true;rfl)
  |(apply VWp.condSeq_dec;rfl)
  |(intro _;try (exfalso;omega)))
 all_goals try (
  refine Done.ret rfl (.refl _) (by first|exact trivial|exact ⟨trivial,trivial,trivial⟩|exact ⟨trivial,trivial,trivial,trivial⟩) HCov.nil (Nat.zero_le _) (Nat.le_refl _) ⟨?_,rfl,rfl⟩
  rw [packM,if_neg (by omega),if_pos ⟨k,by omega,by omega,by omega⟩]
  done)
 ·refine QLoop.normal ⟨k+1,⟨by omega,fun i hi=>?_⟩,by omega,⟨by omega,?_,?_⟩⟩
  ·rcases Nat.lt_or_ge i k with h'|h'
   ·exact hr i h'
   ·rw [show i=k by omega];omega
  ·repeat (first|exact LCov.nil|refine LCov.same trivial rfl ?_|refine LCov.same (lt_dec rfl) rfl ?_|refine LCov.same ⟨trivial,lt_dec rfl,lt_dec rfl,lt_dec rfl,trivial⟩ rfl ?_|refine LCov.same ⟨trivial,lt_dec rfl,lt_dec rfl,trivial⟩ rfl ?_|refine LCov.same ⟨trivial,trivial⟩ rfl ?_|refine LCov.cons trivial rfl (.of_eq (lst_len (by simp<;>omega))) ?_)
  ·repeat (first|exact HCov.nil|(refine HCov.cons (lt_dec rfl) ?_ rfl ?_ ?_;(first|exact trivial|exact PVs.under_pure _ _|(simp [HB.under,PVs.under,PV.under]));(first|exact HLe.refl _|exact HLe.vec (FLes.refl _) (by simp))))
 have hk':k=ws.length:=by omega
 subst hk'
 have hnb:¬ badW ws ws.length:=fun ⟨i,h1,h2,h3⟩=>by have:=hr i h1;omega
 refine VWp.loopQ (fun k:Nat=>[(1,lst e ws),(2,.ref 0 0),(7,.p (.int .i64 (sumK ws ws.length))),(39,lst 35 p.sets),(40,.p (.int .i64 p.sets.length)),(41,.p (.int .i64 k))]) (fun k=>[(0,.box 29 ((Enc.enc p).map .p))]) 1 (fun k=>k≤p.sets.length∧∀ i,i<k→weighK (gi p.sets i) ws (gi p.sets i).els.length≤(gi p.sets i).cost) (fun k=>p.sets.length-k) 0 (by omega) ⟨by omega,fun i hi=>by omega⟩ ⟨by omega,?_,?_⟩ ?_
 ·repeat (first|exact LCov.nil|refine LCov.same trivial rfl ?_|refine LCov.same (lt_dec rfl) rfl ?_|refine LCov.same ⟨trivial,lt_dec rfl,lt_dec rfl,lt_dec rfl,trivial⟩ rfl ?_|refine LCov.same ⟨trivial,lt_dec rfl,lt_dec rfl,trivial⟩ rfl ?_|refine LCov.same ⟨trivial,trivial⟩ rfl ?_|refine LCov.cons trivial rfl (.of_eq (lst_len (by simp<;>omega))) ?_)
 ·repeat (first|exact HCov.nil|(refine HCov.cons (lt_dec rfl) ?_ rfl ?_ ?_;(first|exact trivial|exact PVs.under_pure _ _|(simp [HB.under,PVs.under,PV.under]));(first|exact HLe.refl _|exact HLe.vec (FLes.refl _) (by simp))))
 rintro k ⟨hk,hrs⟩
 have hss:k<p.sets.length→∀ i,i<(gi p.sets k).els.length→0≤gi (gi p.sets k).els i∧gi (gi p.sets k).els i<ws.length:=fun hk i hi=>by rw [hn];exact hs k i hk hi
 repeat' (first
  |apply VWp.rseq
  |apply VWp.rseqD
  |apply VWp.region
  |apply VWp.skipSeq
  |apply VWp.exitSeq
  |apply VWp.blockSeq
  |apply QSeq.normal
  |apply QSeq.ret
  |apply QBlk.normal
  |apply QBlk.ret
  |apply QBlk.exit
  |apply QLoop.ret
  |apply QLoop.exit
  |apply VWp.ret
  |apply VWp.skip
  |apply VOps.nil
  |apply VOpsD.nil
  |apply VOps.one
  |(apply VOpsD.bar;decide +kernel)
  |apply VOpsD.quiet
  |(apply VVal.fn;rfl;rfl;exact weigh_spec _ _ _ (h k (by omega)) hr (hss (by omega));intro _;rfl)
  |(apply VVal.assign;rfl)
  |(apply VVal.move;rfl)
  |(apply VVal.add64;rfl;rfl;omega)
  |(apply VVal.int;rfl;rfl;rfl)
  |(apply VVal.indexN;rfl;rfl;rfl;omega;rfl)
  |(apply VVal.load;rfl;rfl)
  |(apply VVal.fieldB;rfl;rfl;rfl)
  |(apply VVal.alloc;rfl)
  |(apply VVal.storeB;rfl;rfl;rfl;trivial;rfl;rfl;exact lt_dec rfl;exact le_dec rfl)
  |(apply VWp.condSeq_dec;rfl)
  |(apply VWp.cond_dec;rfl)
  |(intro _;try (exfalso;omega)))
 ·refine Done.ret rfl (.refl _) (by first|exact trivial|exact ⟨trivial,trivial,trivial⟩|exact ⟨trivial,trivial,trivial,trivial⟩) HCov.nil (Nat.zero_le _) (Nat.le_refl _) ⟨?_,rfl,rfl⟩
  rename_i h1 h2
  rw [packM,if_neg (by omega),if_neg hnb,if_pos ⟨k,by omega,by omega,h2⟩]
 ·rename_i h1 h2
  refine QLoop.normal ⟨k+1,⟨by omega,fun i hi=>?_⟩,by omega,⟨by omega,?_,?_⟩⟩
  ·rcases Nat.lt_or_ge i k with h'|h'
   ·exact hrs i h'
   ·rw [show i=k by omega];exact Int.not_lt.1 h2
  ·repeat (first|exact LCov.nil|refine LCov.same trivial rfl ?_|refine LCov.same (lt_dec rfl) rfl ?_|refine LCov.same ⟨trivial,lt_dec rfl,lt_dec rfl,lt_dec rfl,trivial⟩ rfl ?_|refine LCov.same ⟨trivial,lt_dec rfl,lt_dec rfl,trivial⟩ rfl ?_|refine LCov.same ⟨trivial,trivial⟩ rfl ?_|refine LCov.cons trivial rfl (.of_eq (lst_len (by simp<;>omega))) ?_)
  ·repeat (first|exact HCov.nil|(refine HCov.cons (lt_dec rfl) ?_ rfl ?_ ?_;(first|exact trivial|exact PVs.under_pure _ _|(simp [HB.under,PVs.under,PV.under]));(first|exact HLe.refl _|exact HLe.vec (FLes.refl _) (by simp))))
 ·refine Done.ret rfl (.refl _) (by first|exact trivial|exact ⟨trivial,trivial,trivial⟩|exact ⟨trivial,trivial,trivial,trivial⟩) HCov.nil (Nat.zero_le _) (Nat.le_refl _) ⟨?_,rfl,rfl⟩
  have hns:¬ badS p.sets ws p.sets.length:=fun ⟨i,h1,h2,h3⟩=>by have:=hrs i (by omega);omega
  rw [packM,if_neg (by omega),if_neg hnb,if_neg hns]
end Go.Proofs.YtmfnchgkffhpfaaDoor
