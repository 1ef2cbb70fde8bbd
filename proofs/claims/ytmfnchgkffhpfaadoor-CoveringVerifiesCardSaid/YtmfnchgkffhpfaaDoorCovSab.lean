/-
  The search: solve. Conditions: in each statement.
-/
import Derived.Test.YtmfnchgkffhpfaaDoorCovZ
import Derived.Test.YtmfnchgkffhpfaaDoorCovXY
import Derived.Test.YtmfnchgkffhpfaaDoorCovST
set_option linter.unusedSimpArgs false
set_option linter.unusedVariables false
set_option linter.unusedSectionVars false
namespace Go.Proofs.YtmfnchgkffhpfaaDoor
open Go Go.Am Go.Vm
attribute [local irreducible] VVal VOps VOpsD VWp VCalls VFun VFunV QSeq QBlk QLoop Vm.Done DoneV DoneI VRead VReadV
def solveC (p:CProb) (S:Int×List (List Int)) (steps:Int):List FV:=srchC p++[.int .i64 S.1,.lst 74 (cells (msk S.2)) (msk S.2).length,.bool false,.int .i64 steps,.val (.slice none 0 0)]
def solveQ (p:CProb) (S:Int×List (List Int)) (r:PV) (H':Vm.Heap) (nx':Nat):Prop:=r=.tup [.ref 2 0,.p (.int .i64 0)]∧∃ steps,H'=[(2,.box 89 ((solveC p S steps).map .p))]∧nx'=3
set_option maxRecDepth 100000 in
theorem solveNone_spec {p:CProb} (hc:VFun env 34 [.agg (Enc.enc p)] (.p (.int .i64 0))) (hq:VFun env 49 [.agg (Enc.enc p)] (.p (.bool false))):VFun env 45 [.agg (Enc.enc p)] (.tup [.p (.val (.pointer none)),.p (.int .i64 18)]):=by
 refine VFun.enter (env_none (by decide)) Tryd.func45 rfl (by kernel_rfl) (by simp [Tryd.ntmps45]) ?_
 repeat' (first
  |apply VWp.assoc
  |apply VWp.rseq
  |apply VWp.skipSeq
  |apply VWp.retSeq
  |apply VOps.nil
  |apply VOps.one
  |(apply VVal.fn;rfl;rfl;exact hc;intro _;rfl)
  |(apply VVal.fn;rfl;rfl;exact hq;intro _;rfl)
  |(apply VVal.assign;rfl)
  |(apply VVal.move;rfl)
  |(apply VVal.int;rfl;rfl;rfl)
  |(apply VVal.load;rfl;rfl)
  |(apply VVal.box;rfl;trivial)
  |(apply VVal.not;rfl)
  |(apply VWp.condSeq_true;rfl)
  |(apply VWp.condSeq_false;rfl))
 all_goals first|(exfalso;omega)|contradiction|(refine Done.ret rfl (.refl _) (by first|exact trivial|exact ⟨trivial,trivial,trivial⟩|exact ⟨trivial,trivial,trivial,trivial⟩) HCov.nil (Nat.zero_le _) (Nat.le_refl _) ⟨?_,rfl,rfl⟩;try rfl)
set_option maxRecDepth 100000 in
set_option maxHeartbeats 8000000 in
theorem solve_spec (p:CProb) (n:Nat) (hp:p.n=n) (hn:n≤7) (hL:p.sets.length≤7) (h:ElsOk p.sets) (hS:ElsS p.sets) (hE:Elsn p.sets n) (hc:VFun env 34 [.agg (Enc.enc p)] (.p (.int .i64 0))) (hq:VFun env 49 [.agg (Enc.enc p)] (.p (.bool true))) :
 VCalls env 45 ([FV.agg (Enc.enc p)].map .p) [] 0 (solveQ p ((dfsA p.sets n p.sets.length 0 []).foldl (updC p.sets) (0,[]))):=by
 have hw:=words_spec p (by omega) h
 have hwl:(wordsL p.sets).length=p.sets.length:=by unfold wordsL;rw [List.length_map]
 have h7:2 ^ p.sets.length≤2 ^ 7:=Nat.pow_le_pow_right (by omega) hL
 have h8:2 ^ (p.sets.length+1)≤2 ^ 8:=Nat.pow_le_pow_right (by omega) (by omega)
 have hlk:=look_spec p n hp hn hL h hS hE p.sets.length 0 [] ⟨0,0,0,0⟩ (0,[]) 0 (by omega) (sst_start _) (by simp only [List.length_nil];omega) (by omega) (by omega)
 generalize (dfsA p.sets n p.sets.length 0 []).foldl (updC p.sets) (0,[])=S at *
 obtain ⟨least,AA⟩:=S
 refine VCalls.enter (env_none (by decide)) Tryd.func45 rfl (by kernel_rfl) (by simp [Tryd.ntmps45]) ?_
 repeat' (first
  |(refine VWp.at 7 ?_;refine VWp.ghost (Ghost.adoptCell 2 4 74 rfl rfl) ?_;first|apply VWp.rseq|apply VWp.rseqD)
  |(refine VOpsD.atOp 17 ?_;refine VOpsD.ghost (Ghost.freeze 16 rfl rfl) ?_)
  |apply VWp.assoc
  |apply VWp.rseq
  |apply VWp.rseqD
  |apply VWp.skipSeq
  |apply VOps.nil
  |apply VOpsD.nil
  |apply VOps.one
  |(apply VOpsD.bar;decide +kernel)
  |apply VOpsD.quiet
  |(apply VVal.fn;rfl;rfl;exact hc;intro _;rfl)
  |(apply VVal.fn;rfl;rfl;exact hq;intro _;rfl)
  |(apply VVal.fv;rfl;rfl;exact hw)
  |(apply VVal.assign;rfl)
  |(apply VVal.move;rfl)
  |(apply VVal.int;rfl;rfl;rfl)
  |(apply VVal.load;rfl;rfl)
  |(apply VVal.box;rfl;trivial)
  |(apply VVal.build;rfl;rfl;rfl;rfl;rfl)
  |(apply VVal.not;rfl)
  |(apply VWp.condSeq_false;rfl))
 all_goals try (exfalso;omega)
 all_goals try contradiction
 (apply VVal.callK [2,3] (hlk);rfl;rfl;exact .of_eq rfl;exact PVs.under_of rfl;exact HUnder_of rfl;(refine ⟨⟨_,rfl,.of_eq rfl⟩,?_⟩;repeat (first|exact trivial|refine ⟨⟨_,rfl,.of_eq rfl⟩,?_⟩));decide;(intro _ hb;simp at hb ⊢<;>omega))
 rintro r H' nx' ⟨rfl,c,st,hcc,s1,s2,rfl,rfl⟩
 rcases hcc with rfl|rfl
 all_goals (
  skip
  repeat' (first
   |(refine VWp.at 10 ?_;refine VWp.ghost (Ghost.freezeCell 2 4 rfl rfl rfl) ?_;first|apply VWp.rseq|apply VWp.rseqD)
   |apply VWp.assoc
   |apply VWp.rseq
   |apply VWp.skipSeq
   |apply VWp.ret
   |apply VOps.nil
   |apply VOps.one
   |(apply VOps.drop;rfl;rfl;rfl)
   |(apply VOps.guard;rfl;rfl)
   |(apply VVal.nilChk;rfl;rfl)
   |(apply VVal.assign;rfl)
   |(apply VVal.move;rfl)
   |(apply VVal.int;rfl;rfl;rfl)
   |(apply VVal.load;rfl;rfl)
   |(apply VVal.pick_false;rfl;rfl)
   |(apply VVal.lenF;rfl;rfl)
   |(apply VVal.fieldB;rfl;rfl;rfl)
   |(apply VWp.condSeq_false;rfl)
   |(intro _;try (exfalso;omega)))
  all_goals try (exfalso;omega)
  all_goals try contradiction
  refine Done.ret (H0:=[(2,.box 89 ((solveC p (least,AA) st).map .p))]) (nx0:=3) rfl (.refl _) ⟨lt_dec rfl,trivial,trivial⟩ ?_ (by first|omega|decide) (Nat.zero_le _) ⟨rfl,st,rfl,rfl⟩
  repeat (first|exact HCov.nil|(refine HCov.cons (lt_dec rfl) ?_ rfl ?_ ?_;(first|exact HB.under_of rfl|exact PVs.under_pure _ _|(simp [HB.under,PVs.under,PV.under]));(first|exact HLe.refl _|exact HLe.vec (FLes.refl _) (by simp)))))
end Go.Proofs.YtmfnchgkffhpfaaDoor
set_option linter.unusedSimpArgs false
set_option linter.unusedVariables false
namespace Go.Proofs.YtmfnchgkffhpfaaDoor
open Go Go.Am Go.Vm
structure SR (L:List CSet) (s:List Int) (x:CSt):Prop where
 len:s.length=L.length
 taken:∀ j,j<L.length→x.taken.testBit j=decide (gi s j=1)
 out:∀ j,j<L.length→x.out.testBit j=decide (gi s j=2)
 val:∀ j,j<L.length→gi s j=0∨gi s j=1∨gi s j=2
 cov:∀ e:Nat,x.cov.testBit e=true↔∃ j,j<L.length∧gi s j=1∧(e:Int)∈(gi L j).els
 cost:x.cost=costS L s L.length
 ok:x.taken<128∧x.out<128∧x.cov<128
theorem costS_bd {L:List CSet} (h:ElsOk L) (s:List Int):∀ k,k≤L.length→0≤costS L s k∧costS L s k≤k*1000000
 |0,_=>by simp [costS]
 |k+1,hk=>by
  have h1:=costS_bd h s k (by omega)
  have h2:=(h k (by omega)).2.2
  simp only [costS]
  split<;>omega
theorem SR.xok {L:List CSet} (h:ElsOk L) (hL:L.length≤7) {s:List Int} {x:CSt} (hx:SR L s x):x.ok:=by
 have:=costS_bd h s L.length (Nat.le_refl _)
 rw [← hx.cost] at this
 exact ⟨hx.ok.1,hx.ok.2.1,hx.ok.2.2,by omega,by omega⟩
theorem costS_set {L:List CSet} {s:List Int} {j:Nat} {v:Int} (hj:j<s.length) (h0:gi s j=0):∀ k,costS L (s.set j v) k=costS L s k+if j<k∧v=1 then (gi L j).cost else 0
 |0=>by simp [costS]
 |k+1=>by
  have ih:=costS_set (L:=L) (v:=v) hj h0 k
  simp only [costS]
  rw [ih,gis hj]
  by_cases e:k=j
  ·subst e
   rw [if_pos rfl,h0,if_neg (show ¬ (k<k∧v=1) by omega),if_neg (show ¬ (0:Int)=1 by decide)]
   by_cases hv:v=1
   ·rw [if_pos hv,if_pos ⟨by omega,hv⟩]<;>omega
   ·rw [if_neg hv,if_neg (fun hh=>hv hh.2)]<;>omega
  ·rw [if_neg e]
   by_cases hg:gi s k=1
   ·rw [if_pos hg,if_pos hg]
    by_cases hc:j<k∧v=1
    ·rw [if_pos hc,if_pos ⟨by omega,hc.2⟩];omega
    ·rw [if_neg hc,if_neg (fun hh=>hc ⟨by omega,hh.2⟩)];omega
   ·rw [if_neg hg,if_neg hg]
    by_cases hc:j<k∧v=1
    ·rw [if_pos hc,if_pos ⟨by omega,hc.2⟩]
    ·rw [if_neg hc,if_neg (fun hh=>hc ⟨by omega,hh.2⟩)]
theorem SR.start (L:List CSet):SR L (List.replicate L.length 0) ⟨0,0,0,0⟩ where
 len:=by simp
 taken:=fun j hj=>by rw [gi_rep hj];simp
 out:=fun j hj=>by rw [gi_rep hj];simp
 val:=fun j hj=>by rw [gi_rep hj];simp
 cov:=fun e=>by
  simp only [Nat.zero_testBit,Bool.false_eq_true,false_iff]
  rintro ⟨j,h1,h2,_⟩
  rw [gi_rep h1] at h2
  omega
 cost:=by
  have:∀ k,k≤L.length→costS L (List.replicate L.length 0) k=0:=fun k hk=>by
   induction k with
   |zero=>rfl
   |succ k ih=>simp only [costS];rw [gi_rep (by omega),if_neg (by decide)];exact ih (by omega)
  rw [this _ (Nat.le_refl _)]
 ok:=⟨by decide,by decide,by decide⟩
section
variable {L:List CSet} (h:ElsOk L) (hL:L.length≤7) {s:List Int} {x:CSt} (hx:SR L s x) {j:Nat} (hj:j<L.length) (h0:gi s j=0)
include h hL hx hj h0
theorem SR.take:SR L (s.set j 1) (takeS L x j):=by
 have hjs:j<s.length:=by rw [hx.len];exact hj
 have hp:2 ^ j<2 ^ 7:=Nat.pow_lt_pow_right (by omega) (by omega)
 obtain ⟨w1,w2⟩:=wordC_spec h hj
 refine ⟨by rw [List.length_set];exact hx.len,fun k hk=>?_,fun k hk=>?_,fun k hk=>?_,fun e=>?_,?_,Nat.or_lt_two_pow (n:=7) hx.ok.1 hp,hx.ok.2.1,Nat.or_lt_two_pow (n:=7) hx.ok.2.2 w1⟩
 ·simp only [takeS]
  rw [gis hjs,Nat.testBit_or,hx.taken k hk,Nat.testBit_two_pow]
  by_cases e:k=j
  ·subst e;simp
  ·rw [if_neg e,decide_eq_false (show ¬ j=k from fun h=>e h.symm),Bool.or_false]
 ·simp only [takeS]
  rw [gis hjs,hx.out k hk]
  by_cases e:k=j
  ·subst e;rw [if_pos rfl,h0];decide
  ·rw [if_neg e]
 ·rw [gis hjs]
  by_cases e:k=j
  ·rw [if_pos e];simp
  ·rw [if_neg e];exact hx.val k hk
 ·simp only [takeS]
  rw [Nat.testBit_or,Bool.or_eq_true,hx.cov,w2,decide_eq_true_eq]
  constructor
  ·rintro (⟨k,k1,k2,k3⟩|k3)
   ·refine ⟨k,k1,?_,k3⟩
    rw [gis hjs]
    by_cases e:k=j
    ·rw [if_pos e]
    ·rw [if_neg e];exact k2
   ·exact ⟨j,hj,by rw [gis hjs,if_pos rfl],k3⟩
  ·rintro ⟨k,k1,k2,k3⟩
   by_cases e:k=j
   ·subst e;exact .inr k3
   ·rw [gis hjs,if_neg e] at k2;exact .inl ⟨k,k1,k2,k3⟩
 ·simp only [takeS]
  rw [costS_set hjs h0,if_pos ⟨hj,rfl⟩,hx.cost]
theorem SR.leave:SR L (s.set j 2) (leaveS x j):=by
 have hjs:j<s.length:=by rw [hx.len];exact hj
 have hp:2 ^ j<2 ^ 7:=Nat.pow_lt_pow_right (by omega) (by omega)
 refine ⟨by rw [List.length_set];exact hx.len,fun k hk=>?_,fun k hk=>?_,fun k hk=>?_,fun e=>?_,?_,hx.ok.1,Nat.or_lt_two_pow (n:=7) hx.ok.2.1 hp,hx.ok.2.2⟩
 ·simp only [leaveS]
  rw [gis hjs,hx.taken k hk]
  by_cases e:k=j
  ·subst e;rw [if_pos rfl,h0];decide
  ·rw [if_neg e]
 ·simp only [leaveS]
  rw [gis hjs,Nat.testBit_or,hx.out k hk,Nat.testBit_two_pow]
  by_cases e:k=j
  ·subst e;simp
  ·rw [if_neg e,decide_eq_false (show ¬ j=k from fun h=>e h.symm),Bool.or_false]
 ·rw [gis hjs]
  by_cases e:k=j
  ·rw [if_pos e];simp
  ·rw [if_neg e];exact hx.val k hk
 ·simp only [leaveS]
  rw [hx.cov]
  constructor
  ·rintro ⟨k,k1,k2,k3⟩
   refine ⟨k,k1,?_,k3⟩
   rw [gis hjs]
   by_cases e:k=j
   ·subst e;rw [h0] at k2;omega
   ·rw [if_neg e];exact k2
  ·rintro ⟨k,k1,k2,k3⟩
   by_cases e:k=j
   ·subst e;rw [gis hjs,if_pos rfl] at k2;omega
   ·rw [gis hjs,if_neg e] at k2;exact ⟨k,k1,k2,k3⟩
 ·simp only [leaveS]
  rw [costS_set hjs h0,if_neg (by omega),hx.cost];omega
end
theorem SR.free {L:List CSet} {s:List Int} {x:CSt} (hx:SR L s x) {j:Nat} (hj:j<L.length):(x.taken ||| x.out).testBit j=false↔gi s j=0:=by
 rw [Nat.testBit_or,hx.taken j hj,hx.out j hj,Bool.or_eq_false_iff,decide_eq_false_iff_not,decide_eq_false_iff_not]
 have:=hx.val j hj
 omega
theorem gap_iff {L:List CSet} (h:ElsOk L) {s:List Int} {x:CSt} (hx:SR L s x) {n:Nat} {e:Int}:gapP L n e s↔(0≤e∧e<n)∧x.cov.testBit e.toNat=false∧freeK L x e.toNat L.length=[]:=by
 unfold gapP
 refine and_congr_right fun he=>?_
 obtain ⟨g,rfl⟩:∃ g:Nat,e=g:=⟨e.toNat,by omega⟩
 rw [Int.toNat_natCast]
 have hfree:freeK L x g L.length=[]↔∀ j,j<L.length→¬ (gi s j=0∧(g:Int)∈(gi L j).els):=by
  constructor
  ·intro h0 j hj ⟨h1,h2⟩
   have:(j:Int)∈freeK L x g L.length:=freeK_mem.2 ⟨by omega,by omega,by
    unfold freeB
    rw [Int.toNat_natCast,(hx.free hj).2 h1,(wordC_spec h hj).2,decide_eq_true h2];rfl⟩
   rw [h0] at this;cases this
  ·intro h0
   refine List.eq_nil_iff_forall_not_mem.2 fun y hy=>?_
   obtain ⟨y1,y2,y3⟩:=freeK_mem.1 hy
   unfold freeB at y3
   rw [Bool.and_eq_true,Bool.not_eq_true',hx.free (by omega),(wordC_spec h (show y.toNat<L.length by omega)).2,decide_eq_true_eq] at y3
   exact h0 _ (by omega) y3
 have hcov:x.cov.testBit g=false↔∀ j,j<L.length→¬ (gi s j=1∧(g:Int)∈(gi L j).els):=by
  rw [← Bool.not_eq_true,hx.cov]
  exact ⟨fun h j h1 ⟨h2,h3⟩=>h ⟨j,h1,h2,h3⟩,fun h ⟨j,h1,h2,h3⟩=>h j h1 ⟨h2,h3⟩⟩
 rw [hfree,hcov]
 constructor
 ·intro h0
  exact ⟨fun j hj ⟨h1,h2⟩=>h0 j hj ⟨by omega,h2⟩,fun j hj ⟨h1,h2⟩=>h0 j hj ⟨by omega,h2⟩⟩
 ·rintro ⟨h1,h2⟩ j hj ⟨h3,h4⟩
  have:=hx.val j hj
  rcases this with h5|h5|h5
  ·exact h2 j hj ⟨h5,h4⟩
  ·exact h1 j hj ⟨h5,h4⟩
  ·exact h3 h5
def bndB (L:List CSet) (n:Nat) (cost:Int) (x:CSt) (y:CNode):Prop :=
 y.ws.length=n∧(∀ i,i<n→(0≤gi y.ws i∧gi y.ws i≤1000000)∧¬ (0<gi y.ws i∧x.cov.testBit i=true))∧(∀ i,i<L.length→(x.taken ||| x.out).testBit i=false→weighK (gi L i) y.ws (gi L i).els.length≤(gi L i).cost)∧y.bound=x.cost+sumK y.ws n∧cost≤y.bound
theorem weigh_nn {c:CSet} {ws:List Int} {n:Nat} (hw:∀ i,i<n→0≤gi ws i) (hs:∀ i,i<c.els.length→0≤gi c.els i∧gi c.els i<n):∀ k,k≤c.els.length→0≤weighK c ws k∧∀ i,i<k→gi ws (gi c.els i).toNat≤weighK c ws k
 |0,_=>⟨by simp [weighK],fun i h=>by omega⟩
 |k+1,hk=>by
  obtain ⟨h1,h2⟩:=weigh_nn hw hs k (by omega)
  have h3:=hs k (by omega)
  have h4:=hw (gi c.els k).toNat (by omega)
  simp only [weighK]
  refine ⟨by omega,fun i hi=>?_⟩
  by_cases e:i=k
  ·subst e;omega
  ·have:=h2 i (by omega);omega
theorem weigh_pos {c:CSet} {ws:List Int}:∀ k,k≤c.els.length→0<weighK c ws k→∃ i,i<k∧0<gi ws (gi c.els i).toNat
 |0,_,h=>by simp [weighK] at h
 |k+1,hk,h=>by
  simp only [weighK] at h
  by_cases h1:0<gi ws (gi c.els k).toNat
  ·exact ⟨k,by omega,h1⟩
  ·obtain ⟨i,hi,h2⟩:=weigh_pos (c:=c) (ws:=ws) k (by omega) (by omega)
   exact ⟨i,by omega,h2⟩
theorem bnd_iff {L:List CSet} {n:Nat} (hE:∀ i,i<L.length→∀ j,j<(gi L i).els.length→0≤gi (gi L i).els j∧gi (gi L i).els j<n) {s:List Int} {x:CSt} (hx:SR L s x) {cost:Int} {y:CNode}:bndP L n cost y s↔bndB L n cost x y:=by
 unfold bndP bndB
 constructor
 ·rintro ⟨⟨h1,h2⟩,h3,h4,h5⟩
  refine ⟨h1,fun i hi=>⟨h2 i hi,fun ⟨p1,p2⟩=>?_⟩,fun i hi hf=>?_,by rw [h4,hx.cost];omega,h5⟩
  ·obtain ⟨j,j1,j2,j3⟩:=(hx.cov i).1 p2
   obtain ⟨k,k1,k2⟩:=List.getElem_of_mem j3
   have:=(weigh_nn (ws:=y.ws) (fun i hi=>(h2 i hi).1) (hE j j1) _ (Nat.le_refl _)).2 k k1
   rw [gi_eq k1,k2,Int.toNat_natCast] at this
   exact (h3 j j1).1 ⟨j2,by omega⟩
  ·have:=(h3 i hi).2
   rw [hx.free hi] at hf
   exact Int.not_lt.1 fun hh=>this ⟨hf,hh⟩
 ·rintro ⟨h1,h2,h3,h4,h5⟩
  refine ⟨⟨h1,fun i hi=>(h2 i hi).1⟩,fun i hi=>⟨fun ⟨p1,p2⟩=>?_,fun ⟨p1,p2⟩=>?_⟩,by rw [h4,hx.cost];omega,h5⟩
  ·obtain ⟨k,k1,k2⟩:=weigh_pos _ (Nat.le_refl _) p2
   have hk:=hE i hi k k1
   refine (h2 (gi (gi L i).els k).toNat (by omega)).2 ⟨k2,(hx.cov _).2 ⟨i,hi,p1,?_⟩⟩
   rw [Int.toNat_of_nonneg hk.1];exact gi_mem k1
  ·have:=h3 i hi ((hx.free hi).2 p1)
   omega
inductive PTree where
 |leaf (x:CNode)
 |fork (j:Nat) (a b:PTree)
def PTree.size:PTree→Nat
 | .leaf _=>1
 | .fork _ a b=>a.size+b.size+1
def PTree.flat:Nat→PTree→List CNode
 |_,.leaf x=>[x]
 |off,.fork j a b=>⟨(j:Int),((off+1:Nat):Int),((off+1+a.size:Nat):Int),0,[]⟩::(a.flat (off+1)++b.flat (off+1+a.size))
theorem PTree.flat_len:∀ (T:PTree) (off:Nat),(T.flat off).length=T.size
 | .leaf _,_=>rfl
 | .fork j a b,off=>by simp only [flat,List.length_cons,List.length_append,flat_len a,flat_len b,size]
theorem PTree.size_pos:∀ T:PTree,0<T.size
 | .leaf _=>Nat.zero_lt_one
 | .fork ..=>Nat.succ_pos _
def PTree.Ok (L:List CSet) (n:Nat) (cost:Int):PTree→List Int→Prop
 | .leaf x,s=>leafP L n cost x s∧x.ws.length≤n
 | .fork j a b,s=>(j<L.length∧gi s j=0)∧a.Ok L n cost (s.set j 1)∧b.Ok L n cost (s.set j 2)
section
variable {L:List CSet} {n:Nat} {cost:Int} {N:List CNode}
def At (N:List CNode) (off:Nat) (l:List CNode):Prop:=off+l.length≤N.length∧∀ i,i<l.length→gi N (off+i)=gi l i
theorem gic_app {α:Type} [Inhabited α] {l r:List α} {i:Nat} (h:i<l.length):gi (l++r) i=gi l i:=by simp only [gi];rw [List.getElem?_append_left h]
theorem gic_right {α:Type} [Inhabited α] {l r:List α} {i:Nat}:gi (l++r) (l.length+i)=gi r i:=by simp only [gi];rw [List.getElem?_append_right (by omega),Nat.add_sub_cancel_left]
theorem At.fork {off j:Nat} {a b:PTree} (h:At N off (PTree.flat off (.fork j a b))):gi N off=⟨(j:Int),((off+1:Nat):Int),((off+1+a.size:Nat):Int),0,[]⟩∧At N (off+1) (a.flat (off+1))∧At N (off+1+a.size) (b.flat (off+1+a.size))∧off+(a.size+b.size+1)≤N.length:=by
 obtain ⟨h1,h2⟩:=h
 have ha:=a.flat_len (off+1)
 have hb:=b.flat_len (off+1+a.size)
 simp only [PTree.flat,List.length_cons,List.length_append,ha,hb] at h1 h2
 refine ⟨by have:=h2 0 (by omega);simpa [gi] using this,⟨by omega,fun i hi=>?_⟩,⟨by omega,fun i hi=>?_⟩,by omega⟩
 ·have:=h2 (i+1) (by omega)
  rw [show off+1+i=off+(i+1) by omega,this]
  show gi (a.flat (off+1)++b.flat (off+1+a.size)) i=_
  exact gic_app hi
 ·have:=h2 (a.size+i+1) (by omega)
  rw [show off+1+a.size+i=off+(a.size+i+1) by omega,this]
  show gi (a.flat (off+1)++b.flat (off+1+a.size)) (a.size+i)=_
  rw [← ha]
  exact gic_right
theorem tree_node:∀ (T:PTree) (off:Nat) (s:List Int) (d:Nat),At N off (T.flat off)→T.Ok L n cost s→T.size≤d→nodeP L n cost N d off s
 | .leaf x,off,s,0,_,_,hd=>by simp [PTree.size] at hd
 | .leaf x,off,s,d+1,hat,hok,_=>by
  have h0:=hat.2 0 (by simp [PTree.flat])
  rw [Nat.add_zero] at h0
  have h0:gi N off=x:=h0
  simp only [nodeP]
  rw [h0]
  have hl:leafP L n cost x s:=hok.1
  rw [if_pos (by rcases hl with h|h<;>omega)]
  exact hl
 | .fork j a b,off,s,0,_,_,hd=>by simp [PTree.size] at hd
 | .fork j a b,off,s,d+1,hat,hok,hd=>by
  obtain ⟨h0,ha,hb,_⟩:=hat.fork
  obtain ⟨⟨k1,k2⟩,k3,k4⟩:=hok
  simp only [PTree.size] at hd
  simp only [nodeP]
  rw [h0]
  simp only [Int.toNat_natCast]
  rw [if_neg (by omega)]
  exact ⟨by omega,k2,tree_node a _ _ d ha k3 (by omega),tree_node b _ _ d hb k4 (by omega)⟩
theorem parK_leaf {j:Int} {off:Nat} (h:(gi N off).pick<0):parK N j (off+1)=parK N j off:=by simp only [parK];rw [if_neg (by omega)]
theorem tree_par:∀ (T:PTree) (off:Nat) (s:List Int),At N off (T.flat off)→T.Ok L n cost s→(∀ i,off≤i→i<off+T.size→0≤(gi N i).pick→((i:Int)<(gi N i).yes∧(gi N i).yes<((off+T.size:Nat):Int))∧(i:Int)<(gi N i).no∧(gi N i).no<((off+T.size:Nat):Int)) ∧
 ∀ j:Nat,(off<j→j<off+T.size→parK N j (off+T.size)=parK N j off+1)∧(¬ (off<j∧j<off+T.size)→parK N j (off+T.size)=parK N j off)
 | .leaf x,off,s,hat,hok=>by
  have h0:=hat.2 0 (by simp [PTree.flat])
  rw [Nat.add_zero] at h0
  have h0:gi N off=x:=h0
  have hl:leafP L n cost x s:=hok.1
  have hneg:(gi N off).pick<0:=by rw [h0];rcases hl with h|h<;>omega
  simp only [PTree.size]
  refine ⟨fun i h1 h2 h3=>?_,fun j=>?_⟩
  ·obtain rfl:i=off:=by omega
   omega
  ·exact ⟨fun _ _=>by omega,fun _=>parK_leaf hneg⟩
 | .fork k a b,off,s,hat,hok=>by
  obtain ⟨h0,ha,hb,hlen⟩:=hat.fork
  obtain ⟨_,k3,k4⟩:=hok
  obtain ⟨a1,a2⟩:=tree_par a _ _ ha k3
  obtain ⟨b1,b2⟩:=tree_par b _ _ hb k4
  have sa:=a.size_pos
  have sb:=b.size_pos
  simp only [PTree.size]
  refine ⟨fun i h1 h2 h3=>?_,fun j=>?_⟩
  ·by_cases e:i=off
   ·subst e
    rw [h0]
    simp only
    omega
   ·by_cases e2:i<off+1+a.size
    ·have:=a1 i (by omega) e2 h3;omega
    ·have:=b1 i (by omega) (by omega) h3;omega
  ·have e1:=a2 j
   have e2:=b2 j
   have e0:parK N j (off+1)=parK N j off+(if off+1=j then 1 else 0)+(if off+1+a.size=j then 1 else 0):=by
    simp only [parK]
    rw [h0]
    simp only
    rw [if_pos (by omega)]
    simp only [Int.natCast_inj]
   have es:off+(a.size+b.size+1)=off+1+a.size+b.size:=by omega
   rw [es]
   generalize hpa:parK N j (off+1+a.size)=pa at *
   generalize hpb:parK N j (off+1+a.size+b.size)=pb at *
   generalize parK N j (off+1)=pc at *
   by_cases c1:off+1=j
   ·rw [if_pos c1,if_neg (by omega)] at e0
    have:=e1.2 (by omega)
    have:=e2.2 (by omega)
    exact ⟨fun _ _=>by omega,fun hh=>absurd ⟨by omega,by omega⟩ hh⟩
   ·rw [if_neg c1] at e0
    by_cases c2:off+1+a.size=j
    ·rw [if_pos c2] at e0
     have:=e1.2 (by omega)
     have:=e2.2 (by omega)
     exact ⟨fun _ _=>by omega,fun hh=>absurd ⟨by omega,by omega⟩ hh⟩
    ·rw [if_neg c2] at e0
     by_cases c3:off+1<j∧j<off+1+a.size
     ·have:=e1.1 c3.1 c3.2
      have:=e2.2 (by omega)
      exact ⟨fun _ _=>by omega,fun hh=>absurd ⟨by omega,by omega⟩ hh⟩
     ·have:=e1.2 c3
      by_cases c4:off+1+a.size<j∧j<off+1+a.size+b.size
      ·have:=e2.1 c4.1 c4.2
       exact ⟨fun _ _=>by omega,fun hh=>absurd ⟨by omega,by omega⟩ hh⟩
      ·have:=e2.2 c4
       exact ⟨fun _ _=>by omega,fun _=>by omega⟩
theorem tree_ws:∀ (T:PTree) (off:Nat) (s:List Int),T.Ok L n cost s→∀ y,y∈T.flat off→y.ws.length≤n
 | .leaf x,off,s,hok,y,hy=>by
  obtain rfl:=List.mem_singleton.1 hy
  exact hok.2
 | .fork j a b,off,s,hok,y,hy=>by
  obtain ⟨_,k3,k4⟩:=hok
  rcases List.mem_cons.1 hy with rfl|hy
  ·exact Nat.zero_le _
  ·rcases List.mem_append.1 hy with hy|hy
   ·exact tree_ws a _ _ k3 y hy
   ·exact tree_ws b _ _ k4 y hy
theorem tree_law (T:PTree) (hok:T.Ok L n cost (List.replicate L.length 0)):lawP L n cost (T.flat 0):=by
 have hat:At (T.flat 0) 0 (T.flat 0):=⟨by omega,fun i _=>by rw [Nat.zero_add]⟩
 have hl:=T.flat_len 0
 have hpos:=T.size_pos
 obtain ⟨h1,h2⟩:=tree_par T 0 _ hat hok
 refine ⟨by omega,fun i hi hp=>?_,fun j j1 j2=>?_,?_⟩
 ·have:=h1 i (Nat.zero_le _) (by omega) hp
  rw [hl]
  omega
 ·have:=h2 j
  rw [Nat.zero_add] at this
  rw [hl,this.1 (by omega) (by omega)]
  simp [parK]
 ·rw [hl]
  exact tree_node T 0 _ _ hat hok (Nat.le_refl _)
end
end Go.Proofs.YtmfnchgkffhpfaaDoor
