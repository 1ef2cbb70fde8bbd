/-
  The search: prove. Conditions: in each statement.
-/
import Derived.Test.YtmfnchgkffhpfaaDoorCovSab
set_option linter.unusedSimpArgs false
set_option linter.unusedVariables false
set_option linter.unusedSectionVars false
namespace Go.Vm
open Go.Am
section
variable {E:Env} {L:Frame} {H:Heap} {nx:Nat} {Q:PV→Heap→Nat→Prop} {w:Bool}
variable {dst:Option Tmp} {ty:TypeId} {pos:String} {af:Array Edge} {gd:Option (Nat×Bool)}
theorem VVal.eqNilN {t t2 e':TypeId} {x y:Operand} (hx:vev E.Γ L x=some (.p (.val (.slice none 0 0)))) (hy:vev E.Γ L y=some (.p (.val (.slice none 0 0)))) (ht:E.P.underlying t=some (.slice e')) (q:Q (.p (.bool true)) H nx) :
 VVal E w ⟨dst,.binOp .eql t x y t2,ty,pos,af,gd⟩ L H nx Q :=
 VVal.quiet q fun m F σ tt h1 h2=>by
  have h4:=vev_val h1 h2 hx
  have h5:=vev_val h1 h2 hy
  refine ⟨.bool true,fun _=>?_,.p (.bool _)⟩
  simp only [aval,aop,h4,h5]
  simp [abin,ht,aeqNil]
end
end Go.Vm
namespace Go.Proofs.YtmfnchgkffhpfaaDoor
open Go Go.Am Go.Vm
attribute [local irreducible] VVal VOps VOpsD VWp VCalls VFun VFunV QSeq QBlk QLoop Vm.Done DoneV DoneI VRead VReadV
def zK (s:List Int):Nat→Nat
 |0=>0
 |k+1=>zK s k+if gi s k=0 then 1 else 0
theorem zK_set {s:List Int} {j:Nat} {v:Int} (hj:j<s.length) (h0:gi s j=0) (hv:v≠0):∀ k,zK (s.set j v) k+(if j<k then 1 else 0)=zK s k
 |0=>by simp [zK]
 |k+1=>by
  have ih:=zK_set hj h0 hv k
  simp only [zK]
  rw [gis hj]
  by_cases e:k=j
  ·subst e
   rw [if_pos rfl,if_neg hv,h0,if_pos rfl,if_pos (by omega)]
   rw [if_neg (by omega)] at ih
   omega
  ·rw [if_neg e]
   by_cases hc:j<k
   ·rw [if_pos hc] at ih;rw [if_pos (show j<k+1 by omega)];omega
   ·rw [if_neg hc] at ih;rw [if_neg (show ¬ j<k+1 by omega)];omega
theorem zK_le (s:List Int):∀ k,zK s k≤k
 |0=>Nat.le_refl _
 |k+1=>by have:=zK_le s k;simp only [zK];split<;>omega
theorem zK_pos {s:List Int} {j:Nat} (h0:gi s j=0):∀ k,j<k→0<zK s k
 |0,h=>by omega
 |k+1,h=>by
  simp only [zK]
  by_cases e:j=k
  ·subst e;rw [if_pos h0];omega
  ·have:=zK_pos h0 k (by omega);omega
def onesL (s:List Int) (k:Nat):List Int:=(allL k).filter fun j=>decide (gi s j.toNat=1)
theorem onesL_cost (L:List CSet) (s:List Int):∀ k,cst L (onesL s k)=costS L s k
 |0=>by simp [onesL,allL,cst,costK,costS]
 |k+1=>by
  have ih:=onesL_cost L s k
  unfold onesL at ih ⊢
  rw [allL_succ,List.filter_append]
  simp only [costS]
  by_cases h:gi s k=1
  ·rw [if_pos h,show [(k:Int)].filter (fun j=>decide (gi s j.toNat=1))=[(k:Int)] by simp [h],cst_append,cst_one,ih,Int.toNat_natCast]
  ·rw [if_neg h,show [(k:Int)].filter (fun j=>decide (gi s j.toNat=1))=[] by simp [h],List.append_nil,ih]
theorem ones_cvr {L:List CSet} {s:List Int} {x:CSt} (hx:SR L s x) {n:Nat} (hc:∀ g,g<n→x.cov.testBit g=true):Cvr L n (onesL s L.length):=by
 refine ⟨⟨(allL_sorted _).filter _,fun y hy=>?_⟩,List.eq_nil_iff_forall_not_mem.2 fun y hy=>?_⟩
 ·exact allL_mem.1 (List.mem_filter.1 hy).1
 ·obtain ⟨y1,y2,y3⟩:=missK_mem.1 hy
  obtain ⟨j,j1,j2,j3⟩:=(hx.cov y.toNat).1 (hc _ (by omega))
  rw [Int.toNat_of_nonneg y1] at j3
  exact y3 ⟨j,List.mem_filter.2 ⟨allL_mem.2 ⟨by omega,by omega⟩,by simpa using j2⟩,by simpa using j3⟩
theorem take_int (p:CProb) (x:CSt) (i:Int) (h0:0≤i) (hi:i<p.sets.length) (hL:p.sets.length≤7) (h:ElsOk p.sets) (hx:x.ok):VFun env 59 [.cptr (srchC p),.agg (Enc.enc x),.int .i64 i] (.p (.agg (Enc.enc (takeS p.sets x i.toNat)))):=by
 obtain ⟨j,rfl⟩:∃ j:Nat,i=j:=⟨i.toNat,by omega⟩
 exact take_spec p x j (by omega) hL h hx
theorem leave_int (pre:List FV) (x:CSt) (i:Int) (h0:0≤i) (hi:i<7) (hx:x.ok):VFun env 60 [.cptr pre,.agg (Enc.enc x),.int .i64 i] (.p (.agg (Enc.enc (leaveS x i.toNat)))):=by
 obtain ⟨j,rfl⟩:∃ j:Nat,i=j:=⟨i.toNat,by omega⟩
 exact leave_spec pre x j (by omega) hx
def pickF (c:Nat→List Int):Nat→List Int
 |0=>c 0
 |k+1=>if (c (k+1)).length<(pickF c k).length then c (k+1) else pickF c k
theorem pickF_is (c:Nat→List Int):∀ k,∃ i,i≤k∧pickF c k=c i
 |0=>⟨0,Nat.le_refl _,rfl⟩
 |k+1=>by
  simp only [pickF]
  split
  ·exact ⟨k+1,Nat.le_refl _,rfl⟩
  ·obtain ⟨i,h1,h2⟩:=pickF_is c k
   exact ⟨i,by omega,h2⟩
def pickPV (c:Nat→List Int):Nat→PV
 |0=>.p (.val (.slice none 0 0))
 |k+1=>.p (.lst 3 (cells (pickF c k)) (pickF c k).length)
def proveH (p:CProb) (least:Int) (cov:FV) (steps:Int) (m:Nat) (N:List CNode):Vm.Heap :=
 [(0,.box 89 ((srchC p).map .p++[.p (.int .i64 least),.p cov,.p (.bool false),.p (.int .i64 steps),.vec 1 m 0 m])),(1,.vec 91 (cells N) m true)]
def proveQ (p:CProb) (n:Nat) (least:Int) (cov:FV) (steps:Int) (f:Nat) (s:List Int) (m:Nat) (N:List CNode) (r:PV) (H':Vm.Heap) (nx':Nat):Prop :=
 r=.p (.int .i64 (m:Int))∧(∃ T:PTree,T.Ok p.sets n least s∧T.size+1≤2 ^ (f+1)∧H'=proveH p least cov steps (m+T.size) (N++T.flat m))∧nx'=2
def tmpN:CNode:=⟨-1,0,0,0,[]⟩
theorem set_mid {α:Type} (N:List α) (t y:α) (R:List α):(N++t::R).set N.length y=N++y::R:=by
 rw [List.set_append_right _ _ (Nat.le_refl _)];simp
theorem set_mid3 {α:Type} (N:List α) (t y:α) (A B:List α):((N++[t]++A)++B).set N.length y=N++y::(A++B):=by
 rw [List.append_assoc,List.append_assoc,List.singleton_append]
 exact set_mid N t y (A++B)
set_option maxRecDepth 100000 in
set_option maxHeartbeats 16000000 in
theorem prove_spec (p:CProb) (n:Nat) (hp:p.n=n) (hn:n≤7) (hL:p.sets.length≤7) (h:ElsOk p.sets) (hS:ElsS p.sets) (hE:Elsn p.sets n) (least:Int) (hmin:∀ B,Cvr p.sets n B→least≤cst p.sets B) (cov:FV) (steps:Int) :
 ∀ (f:Nat) (s:List Int) (x:CSt) (m:Nat) (N:List CNode),zK s p.sets.length=f→SR p.sets s x→N.length=m→m+2 ^ (f+1)≤1000 →
 VCalls env 46 [.ref 0 0,.p (.agg (Enc.enc x))] (proveH p least cov steps m N) 2 (proveQ p n least cov steps f s m N):=by
 intro f
 induction f using Nat.strongRecOn with
 |ind f ih =>
  intro s x m N hf hx hNm hsz
  subst hNm
  have hok:=hx.xok h hL
  obtain ⟨o1,o2,o3,o4,o5⟩:=hok
  have hok:=hx.xok h hL
  have hwei:=weights_spec p n hp hn hL h hS x hok
  have hp1:=Nat.two_pow_pos f
  have hp2:2 ^ (f+1)=2*2 ^ f:=by rw [Nat.pow_succ];omega
  have hl1:(N++[tmpN]).length=N.length+1:=by simp
  refine VCalls.enter (env_none (by decide)) Tryd.func46 rfl (by kernel_rfl) (by simp [Tryd.ntmps46]) ?_
  unfold proveH
  repeat' (first
   |(refine VOps.atOp 26 ?_;refine VOps.ghost (Ghost.le 25 (v0:=.p (.agg (Enc.enc tmpN))) rfl (.p (.agg (.cons (.refl _) (.cons (.refl _) (.cons (.refl _) (.cons (.refl _) (.cons (.nil _) (.refl _))))))))) ?_)
   |apply VWp.assoc
   |apply VWp.rseq
   |apply VWp.skipSeq
   |apply VOps.nil
   |apply VOps.one
   |(apply VVal.nilChk;rfl;rfl)
   |(apply VVal.append1 (a:=tmpN);rfl;rfl;rfl;rfl;rfl;rfl;rfl;rfl;(intro _ h;cases h);rfl;rfl;rfl;decide;decide;(first|omega|(simp only [List.length_take,List.length_drop,List.length_append,List.length_singleton,List.length_cons,List.length_nil]<;>omega)))
   |(apply VVal.assign;rfl)
   |(apply VVal.move;rfl)
   |(apply VVal.int;rfl;rfl;rfl)
   |(apply VVal.load;rfl;rfl)
   |(apply VVal.lenV;rfl;rfl;rfl)
   |(apply VVal.fieldB;rfl;rfl;rfl)
   |(apply VVal.box;rfl;trivial)
   |(apply VVal.storeB;rfl;rfl;rfl;trivial;rfl;rfl;exact lt_dec rfl;exact le_dec rfl)
   |(apply VVal.build;rfl;rfl;rfl;rfl;rfl)
   |(apply VVal.buildSlice;rfl;rfl;rfl;decide;rfl;rfl;rfl)
   |(apply VWp.condSeq_dec;rfl)
   |(intro _;try (exfalso;omega)))
  all_goals try (exfalso;omega)
  apply VVal.lendW hwei
  ·rfl
  ·rfl
  ·exact .of_eq rfl
  ·rfl
  ·intro g g1 g2 g3
   repeat' (first
    |(refine VOps.atOp 50 ?_;refine VOps.ghost (Ghost.le 49 (v0:=.p (.agg (Enc.enc (⟨-2,0,0,(g:Int),[]⟩:CNode)))) rfl (.p (.agg (.cons (.refl _) (.cons (.refl _) (.cons (.refl _) (.cons (.refl _) (.cons (.nil _) (.refl _))))))))) ?_)
    |apply VWp.rseq
    |apply VWp.blockSeq
    |apply QSeq.ret
    |apply QBlk.ret
    |apply VWp.ret
    |apply VOps.nil
    |apply VOps.one
    |(apply VVal.nilChk;rfl;rfl)
    |(apply VVal.storeVL (y:=(⟨-2,0,0,(g:Int),[]⟩:CNode));rfl;rfl;rfl;trivial;(first|rfl|(refine congrArg (fun t=>[PV.p (FV.int _ t)]) ?_;first|omega|(simp only [Int.natCast_add,Int.natCast_mul,Int.natCast_ediv,Int.natCast_emod]<;>omega)));rfl;rfl;decide;(first|omega|(simp only [List.length_set]<;>omega)))
    |(apply VVal.assign;rfl)
    |(apply VVal.move;rfl)
    |(apply VVal.int;rfl;rfl;rfl)
    |(apply VVal.load;rfl;rfl)
    |(apply VVal.fieldB;rfl;rfl;rfl)
    |(apply VVal.build;rfl;rfl;rfl;rfl;rfl)
    |(apply VVal.indexVN;rfl;rfl;rfl;rfl;omega)
    |(apply VVal.extract;rfl;rfl)
    |(apply VWp.cond_true;rfl))
   all_goals try (exfalso;omega)
   refine Done.ret (H0:=proveH p least cov steps (N.length+1) (N++[⟨-2,0,0,(g:Int),[]⟩])) (nx0:=2) rfl (.refl _) trivial ?_ (by first|omega|decide) (by omega) ⟨rfl,⟨.leaf ⟨-2,0,0,(g:Int),[]⟩,⟨.inl ⟨rfl,(gap_iff h hx).2 ⟨⟨by simp only;omega,by simp only;omega⟩,by simpa using g2,by simpa using g3⟩⟩,Nat.zero_le _⟩,by simp only [PTree.size];omega,rfl⟩,rfl⟩
   unfold proveH
   rw [← set_mid N tmpN]
   repeat (first|exact HCov.nil|(refine HCov.cons (lt_dec rfl) ?_ rfl ?_ ?_;(first|exact HB.under_of rfl|exact PVs.under_pure _ _|(simp [HB.under,PVs.under,PV.under]));(first|exact HLe.refl _|exact HLe.vec (FLes.refl _) (by simp))))
  ·intro l sum w1 w2 w3 w4
   by_cases hcut:x.cost+sum≥least
   ·skip
    repeat' (first
     |(refine VOpsD.atOp 72 ?_;refine VOpsD.ghost ((Ghost.freeze 71 rfl rfl).trans (Ghost.le 71 (v0:=.p (.lst 3 (cells l) l.length)) rfl (.of_eq (by rw [w1.len])))) ?_)
     |apply VWp.rseq
     |apply VWp.rseqD
     |apply VWp.blockSeq
     |apply QSeq.ret
     |apply QBlk.ret
     |apply VWp.ret
     |apply VOps.nil
     |apply VOpsD.nil
     |apply VOps.one
     |(apply VOpsD.bar;decide +kernel)
     |apply VOpsD.quiet
     |(apply VVal.nilChk;rfl;rfl)
     |(apply VVal.storeVL (y:=(⟨-1,0,0,x.cost+sum,l⟩:CNode));rfl;rfl;rfl;trivial;(first|rfl|(refine congrArg (fun t=>[PV.p (FV.int _ t)]) ?_;first|omega|(simp only [Int.natCast_add,Int.natCast_mul,Int.natCast_ediv,Int.natCast_emod]<;>omega)));rfl;rfl;decide;(first|omega|(simp only [List.length_set]<;>omega)))
     |(apply VVal.assign;rfl)
     |(apply VVal.move;rfl)
     |(apply VVal.add64;rfl;rfl;omega)
     |(apply VVal.int;rfl;rfl;rfl)
     |(apply VVal.load;rfl;rfl)
     |(apply VVal.fieldB;rfl;rfl;rfl)
     |(apply VVal.build;rfl;rfl;rfl;rfl;rfl)
     |(apply VVal.indexVN;rfl;rfl;rfl;rfl;omega)
     |(apply VVal.extract;rfl;rfl)
     |(apply VWp.cond_false;rfl)
     |(apply VWp.cond_dec;rfl)
     |(intro _;try (exfalso;omega)))
    all_goals try (exfalso;omega)
    refine Done.ret (H0:=proveH p least cov steps (N.length+1) (N++[⟨-1,0,0,x.cost+sum,l⟩])) (nx0:=2) rfl (.refl _) trivial ?_ (by first|omega|decide) (by omega) ⟨rfl,⟨.leaf ⟨-1,0,0,x.cost+sum,l⟩,⟨.inr ⟨rfl,(bnd_iff hE hx).2 ⟨w1.len,fun i hi=>⟨w1.rng i hi,fun ⟨q1,q2⟩=>by rw [w1.cov i hi q1] at q2;cases q2⟩,w1.set,by simp only;rw [← w1.sum],hcut⟩⟩,Nat.le_of_eq w1.len⟩,by simp only [PTree.size];omega,rfl⟩,rfl⟩
    unfold proveH
    rw [← set_mid N tmpN]
    repeat (first|exact HCov.nil|(refine HCov.cons (lt_dec rfl) ?_ rfl ?_ ?_;(first|exact HB.under_of rfl|exact PVs.under_pure _ _|(simp [HB.under,PVs.under,PV.under]));(first|exact HLe.refl _|exact HLe.vec (FLes.refl _) (by simp))))
   ·have hunc:∃ g:Nat,g<n∧x.cov.testBit g=false:=Classical.byContradiction fun hno=>by
     have hall:∀ g,g<n→x.cov.testBit g=true:=fun g hg=>by
      cases hb:x.cov.testBit g with
      |true=>rfl
      |false=>exact absurd ⟨g,hg,hb⟩ hno
     have h0:∀ k,k≤n→sumK l k=0:=fun k hk=>by
      induction k with
      |zero=>rfl
      |succ k ih =>
       simp only [sumK]
       rw [ih (by omega)]
       have r:=w1.rng k (by omega)
       have:¬ 0<gi l k:=fun hp=>by
        have q1:=w1.cov k (by omega) hp
        rw [hall k (by omega)] at q1
        cases q1
       omega
     have h1:=w1.sum
     rw [h0 n (Nat.le_refl _)] at h1
     have h2:=hmin _ (ones_cvr hx hall)
     rw [onesL_cost,← hx.cost] at h2
     omega
    have ha:=all_spec p n hp hn
    have hcl:=clist_spec (leftW n x) (leftW_lt hn hok)
    have hcl:VFunV env 41 [.int .u64 (((2 ^ n-1) ^^^ ((2 ^ n-1) &&& x.cov):Nat):Int)] 3 (cells (leftL n x)) (leftL n x).length true:=hcl
    have h2n:2 ^ n-1<2 ^ 64:=by have:=Nat.pow_le_pow_right (show 0<2 by omega) hn;have:=Nat.two_pow_pos n;omega
    have hD0:=fun y=>@leftL_mem n hn x y
    have hll:(leftL n x).length≤7:=bits7_len _
    generalize leftL n x=D0 at *
    obtain ⟨d,hd⟩:∃ d,D0.length=d+1:=⟨D0.length-1,by
     obtain ⟨g,g1,g2⟩:=hunc
     have:=List.length_pos_of_mem ((hD0 g).2 ⟨g,g1,g2,rfl⟩)
     omega⟩
    have hch:∀ i,i<D0.length→freeK p.sets x (gi D0 i).toNat p.sets.length≠[]:=fun i hi=>by
     obtain ⟨g,g1,g2,g3⟩:=(hD0 _).1 (gi_mem hi)
     rw [g3,Int.toNat_natCast]
     exact w4 g g1 g2
    have hcf:∀ i,i<D0.length→VFunV env 58 [.cptr (srchC p),.agg (Enc.enc x),.int .i64 (gi D0 i)] 3 (cells (freeK p.sets x (gi D0 i).toNat p.sets.length)) (freeK p.sets x (gi D0 i).toNat p.sets.length).length true:=fun i hi=>by
     obtain ⟨g,g1,g2,g3⟩:=(hD0 _).1 (gi_mem hi)
     exact free_spec p x (gi D0 i) (by omega) hL h hok
    have hcm:∀ i y,y∈freeK p.sets x (gi D0 i).toNat p.sets.length→0≤y∧y<p.sets.length∧gi s y.toNat=0:=fun i y hy=>by
     obtain ⟨y1,y2,y3⟩:=freeK_mem.1 hy
     unfold freeB at y3
     rw [Bool.and_eq_true,Bool.not_eq_true',hx.free (by omega)] at y3
     exact ⟨y1,y2,y3.1⟩
    have hc7:∀ i,(freeK p.sets x (gi D0 i).toNat p.sets.length).length≤7:=fun i=>Nat.le_trans (freeK_len _ _ _ _) hL
    obtain ⟨c,hc⟩:∃ c:Nat→List Int,c=fun i=>freeK p.sets x (gi D0 i).toNat p.sets.length:=⟨_,rfl⟩
    have hch:∀ i,i<D0.length→c i≠[]:=by rw [hc];exact hch
    have hcm:∀ i y,y∈c i→0≤y∧y<p.sets.length∧gi s y.toNat=0:=by rw [hc];exact hcm
    have hc7:∀ i,(c i).length≤7:=by rw [hc];exact hc7
    have hcf:∀ i,i<D0.length→VFunV env 58 [.cptr (srchC p),.agg (Enc.enc x),.int .i64 (gi D0 i)] 3 (cells (c i)) (c i).length true:=by rw [hc];exact hcf
    clear hc
    repeat' (first
     |apply VWp.assoc
     |apply VWp.rseq
     |apply VWp.rseqD
     |apply VWp.blockSeq
     |apply QSeq.normal
     |apply QBlk.normal
     |apply VWp.skip
     |apply VOps.nil
     |apply VOpsD.nil
     |apply VOps.one
     |(apply VOpsD.bar;decide +kernel)
     |apply VOpsD.quiet
     |(apply VVal.nilChk;rfl;rfl)
     |(apply VVal.fn;rfl;rfl;exact ha;intro _;rfl)
     |(apply VVal.fv;rfl;rfl;exact hcl)
     |(apply VVal.assign;rfl)
     |(apply VVal.move;rfl)
     |(apply VVal.add64;rfl;rfl;omega)
     |(apply VVal.andNotU;rfl;rfl;omega;omega)
     |(apply VVal.int;rfl;rfl;rfl)
     |(apply VVal.load;rfl;rfl)
     |(apply VVal.lenV;rfl;rfl;rfl)
     |(apply VVal.fieldB;rfl;rfl;rfl)
     |(apply VVal.extract;rfl;rfl)
     |(apply VWp.cond_false;rfl)
     |(apply VWp.cond_dec;rfl)
     |(intro _;try (exfalso;omega)))
    all_goals try (exfalso;omega)
    apply VWp.loopR (D0.length) [(0,_),(3,_),(5,_),(83,_),(84,_)] [(0,_),(1,_),(2,_),(6,_)] (fun k r=>(85,.p (.int .i64 (k:Int)))::(9,pickPV c k)::r) (fun k r=>r) 7
    ·omega
    ·omega
    ·repeat (first|exact LCov.nil|(refine LCov.eq rfl ?_ ?_;(first|exact PV.under_of rfl|(simp [PV.under,PVs.under];done)))|refine LCov.cons trivial rfl (.of_eq (lst_len (by simp<;>omega))) ?_)
    ·repeat (first|exact HCov.nil|(refine HCov.eq rfl (lt_dec rfl) ?_ ?_;(first|exact HB.under_of rfl|exact PVs.under_pure _ _|(simp [HB.under,PVs.under,PV.under];done)))|(refine HCov.cons (lt_dec rfl) ?_ rfl ?_ ?_;(first|exact trivial|exact PVs.under_pure _ _|(simp [HB.under,PVs.under,PV.under]));(first|exact HLe.refl _|exact HLe.vec (FLes.refl _) (by simp))))
    ·intro k hk
     have hfk:=hcf k hk
     have hk7:=hc7 k
     match k with
     |0 =>
      repeat' (first
       |(refine VWp.at 17 ?_;refine VWp.ghost (Ghost.freeze 12 rfl rfl) ?_;first|apply VWp.rseq|apply VWp.rseqD)
       |apply VWp.rseq
       |apply VWp.region
       |apply VWp.skipSeq
       |apply VWp.blockSeq
       |apply QSeq.normal
       |apply QBlk.normal
       |apply VOps.nil
       |apply VOps.one
       |(apply VOps.drop;rfl;rfl;rfl)
       |(apply VVal.lendV (hfk) (flat_ints _);rfl;rfl;exact .of_eq rfl;rfl)
       |(apply VVal.eqNilN;rfl;rfl;rfl)
       |(apply VVal.assign;rfl)
       |(apply VVal.move;rfl)
       |(apply VVal.add64;rfl;rfl;omega)
       |(apply VVal.int;rfl;rfl;rfl)
       |(apply VVal.loadVL;rfl;rfl;omega;rfl)
       |(apply VVal.load;rfl;rfl)
       |(apply VVal.pick_true;rfl;rfl)
       |(apply VVal.indexVN;rfl;rfl;rfl;rfl;omega)
       |(apply VWp.condSeq_dec;rfl)
       |(apply VWp.cond_true;rfl)
       |(intro _;try (exfalso;omega)))
      all_goals try (exfalso;omega)
      refine QLoop.normal ⟨by omega,?_,?_⟩
      ·repeat (first|exact LCov.nil|refine LCov.same trivial rfl ?_|refine LCov.same (lt_dec rfl) rfl ?_|refine LCov.same ⟨trivial,lt_dec rfl,trivial⟩ rfl ?_|refine LCov.same ⟨trivial,lt_dec rfl,lt_dec rfl,trivial⟩ rfl ?_|refine LCov.same ⟨trivial,lt_dec rfl,lt_dec rfl,lt_dec rfl,trivial⟩ rfl ?_|refine LCov.same ⟨trivial,trivial⟩ rfl ?_|refine LCov.cons trivial rfl (.of_eq (lst_len (by simp<;>omega))) ?_)
      ·repeat (first|exact HCov.nil|(refine HCov.cons (lt_dec rfl) ?_ rfl ?_ ?_;(first|exact HB.under_of rfl|exact PVs.under_pure _ _|(simp [HB.under,PVs.under,PV.under]));(first|exact HLe.refl _|exact HLe.vec (FLes.refl _) (by simp))))
     |k+1 =>
      obtain ⟨i0,i1,i2⟩:=pickF_is c k
      have hpos:0<(pickF c k).length:=by rw [i2];exact List.length_pos_iff.2 (hch i0 (by omega))
      have hp7:(pickF c k).length≤7:=by rw [i2];exact hc7 i0
      by_cases hlt:(c (k+1)).length<(pickF c k).length
      ·have e1:pickF c (k+1)=c (k+1):=if_pos hlt
       have e2:pickPV c (k+1+1)=.p (.lst 3 (cells (c (k+1))) (c (k+1)).length):=by simp only [pickPV,e1]
       repeat' (first
        |(refine VWp.at 17 ?_;refine VWp.ghost (Ghost.freeze 12 rfl rfl) ?_;first|apply VWp.rseq|apply VWp.rseqD)
        |apply VWp.rseq
        |apply VWp.region
        |apply VWp.skipSeq
        |apply VWp.blockSeq
        |apply QSeq.normal
        |apply QBlk.normal
        |apply VOps.nil
        |apply VOps.one
        |(apply VOps.take;rfl;rfl)
        |(apply VVal.lendV (hfk) (flat_ints _);rfl;rfl;exact .of_eq rfl;rfl)
        |(apply VVal.eqNilF;rfl;rfl;rfl;exact hpos)
        |(apply VVal.assign;rfl)
        |(apply VVal.move;rfl)
        |(apply VVal.add64;rfl;rfl;omega)
        |(apply VVal.int;rfl;rfl;rfl)
        |(apply VVal.loadVL;rfl;rfl;omega;rfl)
        |(apply VVal.load;rfl;rfl)
        |(apply VVal.pick_false;rfl;rfl)
        |(apply VVal.lenF;rfl;rfl)
        |(apply VVal.indexVN;rfl;rfl;rfl;rfl;omega)
        |(apply VWp.condSeq_dec;rfl)
        |(apply VWp.cond_dec;rfl)
        |(intro _;try (exfalso;omega)))
       all_goals try (exfalso;omega)
       refine QLoop.normal ⟨by omega,?_,?_⟩
       ·try (try rw [e2])
        repeat (first|exact LCov.nil|refine LCov.same trivial rfl ?_|refine LCov.same (lt_dec rfl) rfl ?_|refine LCov.same ⟨trivial,lt_dec rfl,trivial⟩ rfl ?_|refine LCov.same ⟨trivial,lt_dec rfl,lt_dec rfl,trivial⟩ rfl ?_|refine LCov.same ⟨trivial,lt_dec rfl,lt_dec rfl,lt_dec rfl,trivial⟩ rfl ?_|refine LCov.same ⟨trivial,trivial⟩ rfl ?_|refine LCov.cons trivial rfl (.of_eq (lst_len (by simp<;>omega))) ?_)
       ·try rw [e2]
        repeat (first|exact HCov.nil|(refine HCov.cons (lt_dec rfl) ?_ rfl ?_ ?_;(first|exact HB.under_of rfl|exact PVs.under_pure _ _|(simp [HB.under,PVs.under,PV.under]));(first|exact HLe.refl _|exact HLe.vec (FLes.refl _) (by simp))))
      ·have e1:pickF c (k+1)=pickF c k:=if_neg hlt
       have e2:pickPV c (k+1+1)=.p (.lst 3 (cells (pickF c k)) (pickF c k).length):=by simp only [pickPV,e1]
       repeat' (first
        |(refine VWp.at 17 ?_;refine VWp.ghost (Ghost.freeze 12 rfl rfl) ?_;first|apply VWp.rseq|apply VWp.rseqD)
        |apply VWp.rseq
        |apply VWp.region
        |apply VWp.skipSeq
        |apply VWp.blockSeq
        |apply QSeq.normal
        |apply QBlk.normal
        |apply VWp.skip
        |apply VOps.nil
        |apply VOps.one
        |(apply VOps.take;rfl;rfl)
        |(apply VVal.lendV (hfk) (flat_ints _);rfl;rfl;exact .of_eq rfl;rfl)
        |(apply VVal.eqNilF;rfl;rfl;rfl;exact hpos)
        |(apply VVal.assign;rfl)
        |(apply VVal.move;rfl)
        |(apply VVal.add64;rfl;rfl;omega)
        |(apply VVal.int;rfl;rfl;rfl)
        |(apply VVal.loadVL;rfl;rfl;omega;rfl)
        |(apply VVal.load;rfl;rfl)
        |(apply VVal.pick_false;rfl;rfl)
        |(apply VVal.lenF;rfl;rfl)
        |(apply VVal.indexVN;rfl;rfl;rfl;rfl;omega)
        |(apply VWp.condSeq_dec;rfl)
        |(apply VWp.cond_dec;rfl)
        |(intro _;try (exfalso;omega)))
       all_goals try (exfalso;omega)
       refine QLoop.normal ⟨by omega,?_,?_⟩
       ·try (try rw [e2])
        repeat (first|exact LCov.nil|refine LCov.same trivial rfl ?_|refine LCov.same (lt_dec rfl) rfl ?_|refine LCov.same ⟨trivial,lt_dec rfl,trivial⟩ rfl ?_|refine LCov.same ⟨trivial,lt_dec rfl,lt_dec rfl,trivial⟩ rfl ?_|refine LCov.same ⟨trivial,lt_dec rfl,lt_dec rfl,lt_dec rfl,trivial⟩ rfl ?_|refine LCov.same ⟨trivial,trivial⟩ rfl ?_|refine LCov.cons trivial rfl (.of_eq (lst_len (by simp<;>omega))) ?_)
       ·try rw [e2]
        repeat (first|exact HCov.nil|(refine HCov.cons (lt_dec rfl) ?_ rfl ?_ ?_;(first|exact HB.under_of rfl|exact PVs.under_pure _ _|(simp [HB.under,PVs.under,PV.under]));(first|exact HLe.refl _|exact HLe.vec (FLes.refl _) (by simp))))
    have e2:pickPV c D0.length=.p (.lst 3 (cells (pickF c d)) (pickF c d).length):=by rw [hd];rfl
    rw [e2]
    obtain ⟨i0,i1,i2⟩:=pickF_is c d
    have hpos:0<(pickF c d).length:=by rw [i2];exact List.length_pos_iff.2 (hch i0 (by omega))
    obtain ⟨j1,j2,j3⟩:=hcm i0 (gi (pickF c d) 0) (by rw [← i2];exact gi_mem hpos)
    have hp7:(pickF c d).length≤7:=by rw [i2];exact hc7 i0
    generalize pickF c d=P at *
    obtain ⟨f',rfl⟩:∃ f',f=f'+1:=⟨f-1,by have:=zK_pos j3 p.sets.length (by omega);omega⟩
    have hz1:=zK_set (v:=1) (show (gi P 0).toNat<s.length by rw [hx.len];omega) j3 (by decide) p.sets.length
    have hz2:=zK_set (v:=2) (show (gi P 0).toNat<s.length by rw [hx.len];omega) j3 (by decide) p.sets.length
    rw [if_pos (by omega)] at hz1 hz2
    have hp3:2 ^ (f'+1)=2*2 ^ f':=by rw [Nat.pow_succ];omega
    have htk:=take_int p x (gi P 0) j1 j2 hL h hok
    have hlv:=leave_int (srchC p) x (gi P 0) j1 (by omega) hok
    have ih1:=ih f' (by omega) (s.set (gi P 0).toNat 1) (takeS p.sets x (gi P 0).toNat) (N.length+1) (N++[tmpN]) (by omega) (hx.take h hL (by omega) j3) hl1 (by omega)
    unfold proveH at ih1
    repeat' (first
     |apply VWp.rseq
     |apply VWp.rseqD
     |apply VWp.exitSeq
     |apply QSeq.normal
     |apply QBlk.exit
     |apply QLoop.exit
     |apply VOps.nil
     |apply VOps.one
     |(apply VOpsD.bar;decide +kernel)
     |apply VOpsD.quiet
     |(apply VVal.lendF (htk);rfl;rfl;rfl;exact .of_eq rfl;rfl)
     |(apply VVal.move;rfl)
     |(apply VVal.int;rfl;rfl;rfl)
     |(apply VVal.indexN;rfl;rfl;rfl;omega;rfl)
     |(apply VVal.load;rfl;rfl)
     |(apply VWp.condSeq_dec;rfl)
     |(intro _;try (exfalso;omega)))
    all_goals try (exfalso;omega)
    (apply VVal.callK [0,1] (ih1);rfl;rfl;exact .of_eq rfl;exact PVs.under_of rfl;exact HUnder_of rfl;(refine ⟨⟨_,rfl,.of_eq rfl⟩,?_⟩;repeat (first|exact trivial|refine ⟨⟨_,rfl,.of_eq rfl⟩,?_⟩));decide;(intro _ hb;simp at hb ⊢<;>omega))
    rintro r H' nx' ⟨rfl,⟨T1,t1,t2,rfl⟩,rfl⟩
    have hl2:(N++[tmpN]++T1.flat (N.length+1)).length=N.length+1+T1.size:=by rw [List.length_append,hl1,T1.flat_len]
    have ih2:=ih f' (by omega) (s.set (gi P 0).toNat 2) (leaveS x (gi P 0).toNat) (N.length+1+T1.size) (N++[tmpN]++T1.flat (N.length+1)) (by omega) (hx.leave h hL (by omega) j3) hl2 (by omega)
    unfold proveH at ih2
    repeat' (first
     |apply VWp.rseqD
     |apply VOpsD.nil
     |(apply VOpsD.bar;decide +kernel)
     |apply VOpsD.quiet
     |(apply VVal.lendF (hlv);rfl;rfl;rfl;exact .of_eq rfl;rfl)
     |(apply VVal.assign;rfl)
     |(apply VVal.move;rfl)
     |(apply VVal.indexN;rfl;rfl;rfl;omega;rfl)
     |(apply VVal.load;rfl;rfl))
    all_goals try (exfalso;omega)
    (apply VVal.callK [0,1] (ih2);rfl;rfl;exact .of_eq rfl;exact PVs.under_of rfl;exact HUnder_of rfl;(refine ⟨⟨_,rfl,.of_eq rfl⟩,?_⟩;repeat (first|exact trivial|refine ⟨⟨_,rfl,.of_eq rfl⟩,?_⟩));decide;(intro _ hb;simp at hb ⊢<;>omega))
    rintro r H' nx' ⟨rfl,⟨T2,u1,u2,rfl⟩,rfl⟩
    have hl3:((N++[tmpN]++T1.flat (N.length+1))++T2.flat (N.length+1+T1.size)).length=N.length+1+T1.size+T2.size:=by rw [List.length_append,hl2,T2.flat_len]
    have hset:=set_mid3 N tmpN (⟨gi P 0,((N.length+1:Nat):Int),((N.length+1+T1.size:Nat):Int),0,[]⟩:CNode) (T1.flat (N.length+1)) (T2.flat (N.length+1+T1.size))
    repeat' (first
     |(refine VOpsD.atOp 131 ?_;refine VOpsD.ghost (Ghost.le 130 (v0:=.p (.agg (Enc.enc (⟨gi P 0,((N.length+1:Nat):Int),((N.length+1+T1.size:Nat):Int),0,[]⟩:CNode)))) rfl (.p (.agg (.cons (.refl _) (.cons (.refl _) (.cons (.refl _) (.cons (.refl _) (.cons (.nil _) (.refl _))))))))) ?_)
     |apply VWp.rseq
     |apply VWp.rseqD
     |apply VWp.ret
     |apply VOps.nil
     |apply VOpsD.nil
     |apply VOps.one
     |(apply VOpsD.bar;decide +kernel)
     |apply VOpsD.quiet
     |(apply VVal.nilChk;rfl;rfl)
     |(apply VVal.storeVL (y:=(⟨gi P 0,((N.length+1:Nat):Int),((N.length+1+T1.size:Nat):Int),0,[]⟩:CNode));rfl;rfl;rfl;trivial;(first|rfl|(refine congrArg (fun t=>[PV.p (FV.int _ t)]) ?_;first|omega|(simp only [Int.natCast_add,Int.natCast_mul,Int.natCast_ediv,Int.natCast_emod]<;>omega)));rfl;rfl;decide;(first|omega|(simp only [List.length_set]<;>omega)))
     |(apply VVal.assign;rfl)
     |(apply VVal.move;rfl)
     |(apply VVal.indexN;rfl;rfl;rfl;omega;rfl)
     |(apply VVal.load;rfl;rfl)
     |(apply VVal.fieldB;rfl;rfl;rfl)
     |(apply VVal.build;rfl;rfl;rfl;rfl;rfl)
     |(apply VVal.indexVN;rfl;rfl;rfl;rfl;omega))
    all_goals try (exfalso;omega)
    have hT:N++PTree.flat N.length (.fork (gi P 0).toNat T1 T2)=N++(⟨gi P 0,((N.length+1:Nat):Int),((N.length+1+T1.size:Nat):Int),0,[]⟩:CNode)::(T1.flat (N.length+1)++T2.flat (N.length+1+T1.size)):=by
     simp only [PTree.flat]
     rw [Int.toNat_of_nonneg j1]
    refine Done.ret (H0:=proveH p least cov steps (N.length+1+T1.size+T2.size) (N++PTree.flat N.length (.fork (gi P 0).toNat T1 T2))) (nx0:=2) rfl (.refl _) trivial ?_ (by first|omega|(simp;done)|(simp;omega)) (by omega) ⟨rfl,⟨.fork (gi P 0).toNat T1 T2,⟨⟨by omega,j3⟩,t1,u1⟩,by simp only [PTree.size];omega,by rw [show N.length+PTree.size (.fork (gi P 0).toNat T1 T2)=N.length+1+T1.size+T2.size by simp only [PTree.size];omega]⟩,rfl⟩
    unfold proveH
    rw [hT,← hset]
    repeat (first|exact HCov.nil|(refine HCov.cons (lt_dec rfl) ?_ rfl ?_ ?_;(first|exact HB.under_of rfl|exact PVs.under_pure _ _|(simp [HB.under,PVs.under,PV.under]));(first|exact HLe.refl _|exact HLe.vec (FLes.refl _) (by simp))))
end Go.Proofs.YtmfnchgkffhpfaaDoor
