/-
  The weights of a state. Conditions: in each statement.
-/
import Derived.Test.YtmfnchgkffhpfaaDoorCovV
set_option linter.unusedSimpArgs false
set_option linter.unusedVariables false
set_option linter.unusedSectionVars false
namespace Go.Vm
open Go.Am
theorem VVal.callK {E:Env} {L:Frame} {H:Heap} {nx:Nat} {Q:PV→Heap→Nat→Prop} {dst:Option Tmp} {ty:TypeId} {pos:String} {af:Array Edge} {gd:Option (Nat×Bool)} {fo:Operand} {args:Array Operand} {aT:Array TypeId} {g:FuncId} {fs cs aa ac:List PV} {Hc:Heap} {Qc:PV→Heap→Nat→Prop} (ns:List Nat) (hc:VCalls E g ac Hc ns.length Qc)
 (hf:vev E.Γ L fo=some (.clo g fs cs)) (ha:evs E.Γ L args.toList=some aa) (hle:PLes (fs++aa++cs) (PVs.rn (rho ns nx) ac)) (hu:PVs.under ns.length ac) (hHu:HUnder ns.length Hc) (hin:HIn (rho ns nx) H Hc) (hnd:ns.Nodup) (hlt:∀ b∈ns,b<nx)
 (hq:∀ r H' nx',Qc r H' nx'→Q (r.rn (rho ns nx)) (news ns.length (rho ns nx) H' (merge ns (rho ns nx) H' H)) (nx+(nx'-ns.length))) :
 VVal E true ⟨dst,.call { callee:=.value fo,args:=args,argTypes:=aT },ty,pos,af,gd⟩ L H nx Q:=VVal.callG hf ha hle hu hHu hin hnd hlt (fun h=>by cases h) hc hq
section
variable {E:Env} {L:Frame} {H:Heap} {nx:Nat} {Q:PV→Heap→Nat→Prop} {w:Bool}
variable {dst:Option Tmp} {ty:TypeId} {pos:String} {af:Array Edge} {gd:Option (Nat×Bool)}
theorem VVal.makeFunc {f:FuncId} {fs cs:Array Operand} {pf pc:List PV} (hf:evs E.Γ L fs.toList=some pf) (hc:evs E.Γ L cs.toList=some pc) (q:Q (.clo f pf pc) H nx):VVal E w ⟨dst,.makeFunc (.func f) fs cs,ty,pos,af,gd⟩ L H nx Q :=
 VVal.quiet q fun m F σ tt c1 c2=>by
  refine ⟨.func (.func f) (fs.toList.map (ev tt)).toArray (cs.toList.map (ev tt)).toArray,fun _=>?_,.clo (evs_rel c1 c2 hf) (evs_rel c1 c2 hc)⟩
  simp only [aval,aop,Option.map_some,← Array.toList_map,Array.toArray_toList]
end
end Go.Vm
namespace Go.Proofs.YtmfnchgkffhpfaaDoor
open Go Go.Am Go.Vm
attribute [local irreducible] VVal VOps VOpsD VWp VCalls VFun VFunV QSeq QBlk QLoop Vm.Done DoneV DoneI VRead VReadV
theorem gi_ext {l r:List Int} (h:l.length=r.length) (hg:∀ i,i<l.length→gi l i=gi r i):l=r:=List.ext_getElem h fun i h1 h2=>by
 have:=hg i h1
 rwa [gi_eq h1,gi_eq h2] at this
def leftW (n:Nat) (x:CSt):Nat:=(2 ^ n-1) ^^^ ((2 ^ n-1) &&& x.cov)
def leftL (n:Nat) (x:CSt):List Int:=bits7 (leftW n x)
theorem leftW_lt {n:Nat} (hn:n≤7) {x:CSt} (hx:x.ok):leftW n x<128:=by
 have h1:2 ^ n-1<2 ^ 7:=by have:=Nat.pow_le_pow_right (show 0<2 by omega) hn;have:=Nat.two_pow_pos n;omega
 exact Nat.xor_lt_two_pow h1 (Nat.and_lt_two_pow _ hx.2.2.1)
theorem leftL_mem {n:Nat} (hn:n≤7) {x:CSt} {y:Int}:y∈leftL n x↔∃ g:Nat,g<n∧x.cov.testBit g=false∧y=g:=by
 unfold leftL bits7 leftW
 rw [List.mem_map]
 simp only [List.mem_filter,List.mem_range,Nat.testBit_xor,Nat.testBit_and,Nat.testBit_two_pow_sub_one]
 constructor
 ·rintro ⟨g,⟨h1,h2⟩,rfl⟩
  by_cases hg:g<n
  ·simp [hg] at h2;exact ⟨g,hg,h2,rfl⟩
  ·simp [hg] at h2
 ·rintro ⟨g,h1,h2,rfl⟩
  exact ⟨g,⟨by omega,by simp [h1,h2]⟩,rfl⟩
theorem leftL_nodup (n:Nat) (x:CSt):(leftL n x).Nodup:=by
 unfold leftL bits7
 unfold List.Nodup
 rw [List.pairwise_map]
 exact (List.Pairwise.filter _ (List.nodup_range (n:=7))).imp fun h e=>h (by omega)
theorem not_take {l:List Int} (h:l.Nodup) {k:Nat} (hk:k<l.length):gi l k∉l.take k:=fun hin=>by
 obtain ⟨i,hi,e3⟩:=List.getElem_of_mem hin
 rw [List.length_take] at hi
 rw [List.getElem_take] at e3
 have:=List.pairwise_iff_getElem.1 h i k (by omega) hk (by omega)
 rw [e3,← gi_eq hk] at this
 exact this rfl
def weiQ (p:CProb) (n:Nat) (x:CSt) (r:PV) (H':Vm.Heap) (nx':Nat):Prop :=
 (∃ g:Nat,g<n∧x.cov.testBit g=false∧freeK p.sets x g p.sets.length=[]∧r=.tup [.p (.val (.slice none 0 0)),.p (.int .i64 0),.p (.int .i64 (g:Int))]∧H'=[]∧nx'=0) ∨
 (∃ l sum,WOk p.sets n x l sum∧0≤sum∧sum≤7000000∧(∀ g,g<n→x.cov.testBit g=false→freeK p.sets x g p.sets.length≠[])∧r=.tup [.vec 1 n 0 n,.p (.int .i64 sum),.p (.int .i64 (-1))]∧H'=[(1,.vec 3 (cells l) n false)]∧nx'=2)
set_option maxRecDepth 100000 in
set_option maxHeartbeats 8000000 in
theorem weights_spec (p:CProb) (n:Nat) (hp:p.n=n) (hn:n≤7) (hL:p.sets.length≤7) (h:ElsOk p.sets) (hS:ElsS p.sets) (x:CSt) (hx:x.ok) :
 VCalls env 57 ([FV.cptr (srchC p),.agg (Enc.enc x)].map .p) [] 0 (weiQ p n x):=by
 have hwl:(wordsL p.sets).length=p.sets.length:=by unfold wordsL;rw [List.length_map]
 have hcost:=fun i (hi:i<p.sets.length)=>(h i hi).2.2
 have ha:=all_spec p n hp hn
 have hlw:=leftW_lt hn hx
 have hcl:=clist_spec (leftW n x) hlw
 have h2n:2 ^ n-1<2 ^ 64:=by have:=Nat.pow_le_pow_right (show 0<2 by omega) hn;have:=Nat.two_pow_pos n;omega
 have hcov:x.cov<2 ^ 64:=by have:=hx.2.2.1;omega
 have hD0:=fun y=>@leftL_mem n hn x y
 have hnd:=leftL_nodup n x
 have hll:(leftL n x).length≤7:=bits7_len _
 have hfr:=fun e he=>free_spec p x e he hL h hx
 have hf7:∀ e:Int,(freeK p.sets x e.toNat p.sets.length).length≤7:=fun e=>Nat.le_trans (freeK_len _ _ _ _) hL
 have hst:=wiv_start h n x
 change VFunV env _ _ _ (cells (leftL n x)) (leftL n x).length true at hcl
 have hcl:VFunV env 41 [.int .u64 (((2 ^ n-1) ^^^ ((2 ^ n-1) &&& x.cov):Nat):Int)] 3 (cells (leftL n x)) (leftL n x).length true:=hcl
 generalize hD:leftL n x=D0 at *
 refine VCalls.enter (env_none (by decide)) Tryd.func57 rfl (by kernel_rfl) (by simp [Tryd.ntmps57]) ?_
 repeat' (first
  |apply VWp.assoc
  |apply VWp.rseq
  |apply VWp.blockSeq
  |apply VOps.nil
  |apply VOps.one
  |(apply VVal.nilChkC;rfl)
  |(apply VVal.makeSliceL n (0:Int);rfl;rfl;rfl;rfl;rfl;exact hp;exact hp;omega;decide;decide;rfl)
  |(apply VVal.makeSliceL p.sets.length (0:Int);rfl;rfl;rfl;rfl;rfl;omega;omega;omega;decide;decide;rfl)
  |(apply VVal.assign;rfl)
  |(apply VVal.move;rfl)
  |(apply VVal.load;rfl;rfl)
  |(apply VVal.lenF;rfl;rfl)
  |(apply VVal.fieldF;rfl;rfl)
  |(apply VVal.box;rfl;trivial))
 all_goals try (exfalso;omega)
 apply VWp.loopR (p.sets.length) [(0,_),(3,_),(4,_),(5,_),(7,_),(37,_),(38,_)] [(0,_),(1,_)] (fun k r=>(39,.p (.int .i64 (k:Int)))::r) (fun k r=>(2,.vec 3 (cells (setK (fun i=>(gi p.sets i).cost) (List.replicate p.sets.length 0) k)) p.sets.length false)::r) 3
 ·omega
 ·omega
 ·repeat (first|exact LCov.nil|(refine LCov.eq rfl ?_ ?_;(first|exact PV.under_of rfl|(simp [PV.under,PVs.under];done)))|refine LCov.cons trivial rfl (.of_eq (lst_len (by simp<;>omega))) ?_)
 ·repeat (first|exact HCov.nil|(refine HCov.eq rfl (lt_dec rfl) ?_ ?_;(first|exact HB.under_of rfl|exact PVs.under_pure _ _|(simp [HB.under,PVs.under,PV.under];done)))|(refine HCov.cons (lt_dec rfl) ?_ rfl ?_ ?_;(first|exact trivial|exact PVs.under_pure _ _|(simp [HB.under,PVs.under,PV.under]));(first|exact HLe.refl _|exact HLe.vec (FLes.refl _) (by simp))))
 ·intro k hk
  have hsl:(setK (fun i=>(gi p.sets i).cost) (List.replicate p.sets.length 0) k).length=p.sets.length:=by rw [setK_len,List.length_replicate]
  repeat' (first
   |apply VWp.rseq
   |apply VWp.region
   |apply VWp.skipSeq
   |apply VWp.blockSeq
   |apply QSeq.normal
   |apply QBlk.normal
   |apply VOps.nil
   |apply VOps.one
   |(apply VVal.storeVL (y:=(gi p.sets k).cost);rfl;rfl;rfl;trivial;(first|rfl|(refine congrArg (fun t=>[PV.p (FV.int _ t)]) ?_;first|omega|(simp only [Int.natCast_add,Int.natCast_mul,Int.natCast_ediv,Int.natCast_emod]<;>omega)));rfl;rfl;decide;(first|omega|(simp only [List.length_set]<;>omega)))
   |(apply VVal.assign;rfl)
   |(apply VVal.move;rfl)
   |(apply VVal.add64;rfl;rfl;omega)
   |(apply VVal.int;rfl;rfl;rfl)
   |(apply VVal.indexN;rfl;rfl;rfl;omega;rfl)
   |(apply VVal.load;rfl;rfl)
   |(apply VVal.fieldB;rfl;rfl;rfl)
   |(apply VVal.alloc;rfl)
   |(apply VVal.storeB;rfl;rfl;rfl;trivial;rfl;rfl;exact lt_dec rfl;exact le_dec rfl)
   |(apply VVal.indexVN;rfl;rfl;rfl;rfl;omega)
   |(apply VWp.condSeq_dec;rfl)
   |(intro _;try (exfalso;omega)))
  all_goals try (exfalso;omega)
  refine QLoop.normal ⟨by omega,?_,?_⟩
  ·repeat (first|exact LCov.nil|refine LCov.same trivial rfl ?_|refine LCov.same (lt_dec rfl) rfl ?_|refine LCov.same ⟨trivial,lt_dec rfl,trivial⟩ rfl ?_|refine LCov.same ⟨trivial,lt_dec rfl,lt_dec rfl,trivial⟩ rfl ?_|refine LCov.same ⟨trivial,lt_dec rfl,lt_dec rfl,lt_dec rfl,trivial⟩ rfl ?_|refine LCov.same ⟨trivial,trivial⟩ rfl ?_|refine LCov.cons trivial rfl (.of_eq (lst_len (by simp<;>omega))) ?_)
  ·repeat (first|exact HCov.nil|(refine HCov.cons (lt_dec rfl) ?_ rfl ?_ ?_;(first|exact HB.under_of rfl|exact PVs.under_pure _ _|(simp [HB.under,PVs.under,PV.under]));(first|exact HLe.refl _|exact HLe.vec (FLes.refl _) (by simp))))
 have hres:setK (fun i=>(gi p.sets i).cost) (List.replicate p.sets.length 0) p.sets.length=p.sets.map (·.cost):=gi_ext (by rw [setK_len,List.length_replicate,List.length_map]) fun i hi=>by
  rw [setK_len,List.length_replicate] at hi
  rw [setK_gi,List.length_replicate,if_pos ⟨hi,hi⟩,gi_map _ hi]
 rw [hres]
 repeat' (first
  |apply VWp.assoc
  |apply VWp.rseq
  |apply VWp.rseqD
  |apply VWp.exitSeq
  |apply VWp.blockSeq
  |apply QSeq.normal
  |apply QBlk.exit
  |apply QLoop.exit
  |apply VOps.nil
  |apply VOpsD.nil
  |apply VOps.one
  |(apply VOpsD.bar;decide +kernel)
  |apply VOpsD.quiet
  |(apply VVal.fn;rfl;rfl;exact ha;intro _;rfl)
  |(apply VVal.fv;rfl;rfl;exact hcl)
  |(apply VVal.nilChkC;rfl)
  |(apply VVal.makeMap)
  |(apply VVal.assign;rfl)
  |(apply VVal.move;rfl)
  |(apply VVal.andNotU;rfl;rfl;omega;omega)
  |(apply VVal.int;rfl;rfl;rfl)
  |(apply VVal.load;rfl;rfl)
  |(apply VVal.lenV;rfl;rfl;rfl)
  |(apply VVal.fieldB;rfl;rfl;rfl)
  |(apply VVal.fieldF;rfl;rfl)
  |(apply VVal.alloc;rfl)
  |(apply VVal.storeB;rfl;rfl;rfl;trivial;rfl;rfl;exact lt_dec rfl;exact le_dec rfl)
  |(apply VWp.condSeq_dec;rfl)
  |(intro _;try (exfalso;omega)))
 all_goals try (exfalso;omega)
 apply VWp.loopRI (D0.length) (fun k=>∀ i,i<k→freeK p.sets x (gi D0 i).toNat p.sets.length≠[]) [(0,_),(3,_),(4,_),(5,_),(7,_),(10,_),(11,_),(60,_),(61,_)] [(0,_),(1,_),(2,_),(3,_),(5,_)] (fun k r=>(62,.p (.int .i64 (k:Int)))::r) (fun k r=>(4,.map (mapI 3 (D0.take k) fun e=>freeK p.sets x e.toNat p.sets.length))::r) 6
 ·omega
 ·omega
 ·repeat (first|exact LCov.nil|(refine LCov.eq rfl ?_ ?_;(first|exact PV.under_of rfl|(simp [PV.under,PVs.under];done)))|refine LCov.cons trivial rfl (.of_eq (lst_len (by simp<;>omega))) ?_)
 ·repeat (first|exact HCov.nil|(refine HCov.eq rfl (lt_dec rfl) ?_ ?_;(first|exact HB.under_of rfl|exact PVs.under_pure _ _|(simp [HB.under,PVs.under,PV.under];done)))|(refine HCov.cons (lt_dec rfl) ?_ rfl ?_ ?_;(first|exact trivial|exact PVs.under_pure _ _|(simp [HB.under,PVs.under,PV.under]));(first|exact HLe.refl _|exact HLe.vec (FLes.refl _) (by simp))))
 ·first|(intro _ _;omega)|omega|trivial
 ·intro k hk hg
  obtain ⟨g,g1,g2,g3⟩:=(hD0 (gi D0 k)).1 (gi_mem hk)
  have hf:=hfr (gi D0 k) (by omega)
  have hnt:=not_take hnd hk
  have h7:=hf7 (gi D0 k)
  by_cases hz:freeK p.sets x (gi D0 k).toNat p.sets.length=[]
  ·have hz0:(freeK p.sets x (gi D0 k).toNat p.sets.length).length=0:=by rw [hz];rfl
   repeat' (first
    |(refine VOpsD.atIdx 6 ?_;refine VOpsD.ghost (Ghost.freeze 71 rfl rfl) ?_)
    |apply VWp.rseq
    |apply VWp.rseqD
    |apply VWp.skipSeq
    |apply VWp.blockSeq
    |apply QSeq.ret
    |apply QBlk.ret
    |apply QLoop.ret
    |apply VWp.ret
    |apply VOps.nil
    |apply VOpsD.nil
    |apply VOps.one
    |(apply VOpsD.bar;decide +kernel)
    |apply VOpsD.quiet
    |(apply VVal.fv;rfl;rfl;exact hf)
    |(apply VVal.addI (ks:=D0.take k) (f:=fun e=>freeK p.sets x e.toNat p.sets.length);rfl;rfl;rfl;rfl;rfl;rfl;exact hnt)
    |(apply VVal.lookupI (ks:=D0.take k++[gi D0 k]) (f:=fun e=>freeK p.sets x e.toNat p.sets.length);rfl;rfl;rfl;rfl;rfl;rfl;simp)
    |(apply VVal.assign;rfl)
    |(apply VVal.move;rfl)
    |(apply VVal.int;rfl;rfl;rfl)
    |(apply VVal.loadVL;rfl;rfl;omega;rfl)
    |(apply VVal.load;rfl;rfl)
    |(apply VVal.lenF;rfl;rfl)
    |(apply VVal.indexVN;rfl;rfl;rfl;rfl;omega)
    |(apply VWp.condSeq_dec;rfl)
    |(apply VWp.cond_dec;rfl)
    |(intro _;try (exfalso;omega)))
   all_goals try (exfalso;omega)
   refine Done.ret (H0:=[]) (nx0:=0) rfl (.refl _) ⟨trivial,trivial,trivial,trivial⟩ trivial (by omega) (Nat.le_refl _) (.inl ⟨g,g1,g2,?_,?_,rfl,rfl⟩)
   ·rw [← hz,g3,Int.toNat_natCast]
   ·rw [g3]
  ·have hz0:(freeK p.sets x (gi D0 k).toNat p.sets.length).length≠0:=fun e=>hz (List.eq_nil_of_length_eq_zero e)
   repeat' (first
    |(refine VOpsD.atIdx 6 ?_;refine VOpsD.ghost (Ghost.freeze 71 rfl rfl) ?_)
    |apply VWp.rseq
    |apply VWp.rseqD
    |apply VWp.region
    |apply VWp.skipSeq
    |apply VWp.blockSeq
    |apply QSeq.normal
    |apply QBlk.normal
    |apply VWp.skip
    |apply VOps.nil
    |apply VOpsD.nil
    |apply VOps.one
    |(apply VOpsD.bar;decide +kernel)
    |apply VOpsD.quiet
    |(apply VVal.fv;rfl;rfl;exact hf)
    |(apply VVal.addI (ks:=D0.take k) (f:=fun e=>freeK p.sets x e.toNat p.sets.length);rfl;rfl;rfl;rfl;rfl;rfl;exact hnt)
    |(apply VVal.lookupI (ks:=D0.take k++[gi D0 k]) (f:=fun e=>freeK p.sets x e.toNat p.sets.length);rfl;rfl;rfl;rfl;rfl;rfl;simp)
    |(apply VVal.assign;rfl)
    |(apply VVal.move;rfl)
    |(apply VVal.add64;rfl;rfl;omega)
    |(apply VVal.int;rfl;rfl;rfl)
    |(apply VVal.loadVL;rfl;rfl;omega;rfl)
    |(apply VVal.load;rfl;rfl)
    |(apply VVal.lenF;rfl;rfl)
    |(apply VVal.indexVN;rfl;rfl;rfl;rfl;omega)
    |(apply VWp.condSeq_dec;rfl)
    |(apply VWp.cond_dec;rfl)
    |(intro _;try (exfalso;omega)))
   all_goals try (exfalso;omega)
   have hg2:∀ i,i<k+1→freeK p.sets x (gi D0 i).toNat p.sets.length≠[]:=fun i hi=>by
    by_cases e:i=k
    ·subst e;exact hz
    ·exact hg i (by omega)
   refine QLoop.normal ⟨hg2,by omega,?_,?_⟩
   ·try (try rw [take_succ_gi hk])
    repeat (first|exact LCov.nil|refine LCov.same trivial rfl ?_|refine LCov.same (lt_dec rfl) rfl ?_|refine LCov.same ⟨trivial,lt_dec rfl,trivial⟩ rfl ?_|refine LCov.same ⟨trivial,lt_dec rfl,lt_dec rfl,trivial⟩ rfl ?_|refine LCov.same ⟨trivial,lt_dec rfl,lt_dec rfl,lt_dec rfl,trivial⟩ rfl ?_|refine LCov.same ⟨trivial,trivial⟩ rfl ?_|refine LCov.cons trivial rfl (.of_eq (lst_len (by simp<;>omega))) ?_)
   ·try rw [take_succ_gi hk]
    repeat (first|exact HCov.nil|(refine HCov.cons (lt_dec rfl) ?_ rfl ?_ ?_;(first|exact HB.under_of rfl|exact PVs.under_pure _ _|(simp [HB.under,PVs.under,PV.under]));(first|exact HLe.refl _|exact HLe.vec (FLes.refl _) (by simp))))
 ·intro hg
  have hso:=sort_spec (fun e=>freeK p.sets x e.toNat p.sets.length) D0 D0 hll (fun _ h=>h) hf7
  unfold sortH at hso
  rw [List.take_length]
  repeat' (first
   |apply VWp.rseq
   |apply VWp.exitSeq
   |apply QSeq.normal
   |apply QBlk.exit
   |apply QLoop.exit
   |apply VOps.nil
   |apply VOps.one
   |(apply VVal.makeFunc;rfl;rfl)
   |(apply VVal.move;rfl)
   |(apply VVal.int;rfl;rfl;rfl)
   |(apply VWp.condSeq_dec;rfl)
   |(intro _;try (exfalso;omega)))
  (apply VVal.callK [3,5,4] (hso);rfl;rfl;exact .of_eq rfl;exact PVs.under_of rfl;exact HUnder_of rfl;(refine ⟨⟨_,rfl,.of_eq rfl⟩,?_⟩;repeat (first|exact trivial|refine ⟨⟨_,rfl,.of_eq rfl⟩,?_⟩));decide;(intro _ hb;simp at hb ⊢<;>omega))
  rintro r H' nx' ⟨rfl,⟨D,hperm,rfl⟩,rfl⟩
  have hlen:=hperm.length_eq
  have hDm:∀ i,i<D.length→gi D i∈D0:=fun i hi=>hperm.mem_iff.1 (gi_mem hi)
  have hDr:∀ i,i<D.length→0≤gi D i∧gi D i<n:=fun i hi=>by
   obtain ⟨g,g1,_,g3⟩:=(hD0 _).1 (hDm i hi)
   omega
  have hDn:D.Nodup:=hperm.nodup_iff.2 hnd
  have hiv:=fun k (hk:k≤D.length)=>wiv_run h hS hDr hDn (hst D) k hk
  repeat' (first
   |apply VWp.assoc
   |apply VWp.rseq
   |apply VWp.blockSeq
   |apply VOps.nil
   |apply VOps.one
   |(apply VVal.move;rfl)
   |(apply VVal.lenV;rfl;rfl;rfl))
  all_goals try (exfalso;omega)
  refine VWp.ghost (Ghost.le 5 rfl (v0:=.p (.int .i64 (wrun p.sets x D ⟨List.replicate n 0,p.sets.map (·.cost),0⟩ 0).sum)) (.refl _)) ?_
  apply VWp.loopR (D0.length) [(4,_),(7,_),(11,_),(82,_),(83,_)] [(3,_),(4,_),(5,_)] (fun k r=>(84,.p (.int .i64 (k:Int)))::(5,.p (.int .i64 (wrun p.sets x D ⟨List.replicate n 0,p.sets.map (·.cost),0⟩ k).sum))::r) (fun k r=>(1,.vec 3 (cells (wrun p.sets x D ⟨List.replicate n 0,p.sets.map (·.cost),0⟩ k).l) n false)::(2,.vec 3 (cells (wrun p.sets x D ⟨List.replicate n 0,p.sets.map (·.cost),0⟩ k).rest) p.sets.length false)::r) 6
  ·omega
  ·omega
  ·repeat (first|exact LCov.nil|(refine LCov.eq rfl ?_ ?_;(first|exact PV.under_of rfl|(simp [PV.under,PVs.under];done)))|refine LCov.cons trivial rfl (.of_eq (lst_len (by simp<;>omega))) ?_)
  ·repeat (first|exact HCov.nil|(refine HCov.eq rfl (lt_dec rfl) ?_ ?_;(first|exact HB.under_of rfl|exact PVs.under_pure _ _|(simp [HB.under,PVs.under,PV.under];done)))|(refine HCov.cons (lt_dec rfl) ?_ rfl ?_ ?_;(first|exact trivial|exact PVs.under_pure _ _|(simp [HB.under,PVs.under,PV.under]));(first|exact HLe.refl _|exact HLe.vec (FLes.refl _) (by simp))))
  ·intro k hk
   have hw:=hiv k (by omega)
   have hbd:=wrun_rng hw
   have e1:wrun p.sets x D ⟨List.replicate n 0,p.sets.map (·.cost),0⟩ (k+1)=wstep p.sets x (gi D k) (wrun p.sets x D ⟨List.replicate n 0,p.sets.map (·.cost),0⟩ k):=rfl
   rw [e1]
   clear e1
   generalize wrun p.sets x D ⟨List.replicate n 0,p.sets.map (·.cost),0⟩ k=s at *
   obtain ⟨sl,sr,ss⟩:=s
   simp only [wstep]
   have hch:=fun i hi=>freeK_gi (L:=p.sets) (x:=x) (e:=(gi D k).toNat) (k:=p.sets.length) (i:=i) hi
   have hcl7:=hf7 (gi D k)
   have hmk:=fun j=>minK_le (rest:=sr) (ch:=freeK p.sets x (gi D k).toNat p.sets.length) j
   have hmg:=minK_ge (rest:=sr) (ch:=freeK p.sets x (gi D k).toNat p.sets.length) (fun i hi=>(hw.rest _ (by have:=hch i hi;omega)).1)
   have hs1:=hw.rest
   have hs2:=hw.rlen
   have hs3:=hw.len
   have hDk:=hDr k (by omega)
   have hmem:=hDm k (by omega)
   simp only at hs1 hs2 hs3 hbd
   have hsk:=fun w j=>subK_len sr (freeK p.sets x (gi D k).toNat p.sets.length) w j
   have hsg:=fun w j hj i=>subK_gi (rest:=sr) (ch:=freeK p.sets x (gi D k).toNat p.sets.length) (w:=w) ((allL_sorted _).filter _) (fun y hy=>by rw [hs2];have:=freeK_mem.1 hy;omega) j hj i
   repeat' (first
    |apply VWp.assoc
    |apply VWp.rseq
    |apply VWp.skipSeq
    |apply VWp.blockSeq
    |apply VOps.nil
    |apply VOps.one
    |(apply VVal.lookupI (ks:=D0) (f:=fun e=>freeK p.sets x e.toNat p.sets.length);rfl;rfl;rfl;rfl;rfl;rfl;assumption)
    |(apply VVal.assign;rfl)
    |(apply VVal.move;rfl)
    |(apply VVal.int;rfl;rfl;rfl)
    |(apply VVal.loadVL;rfl;rfl;omega;rfl)
    |(apply VVal.load;rfl;rfl)
    |(apply VVal.lenF;rfl;rfl)
    |(apply VVal.indexVN;rfl;rfl;rfl;rfl;omega)
    |(apply VWp.condSeq_dec;rfl)
    |(intro _;try (exfalso;omega)))
   all_goals try (exfalso;omega)
   generalize hce:freeK p.sets x (gi D k).toNat p.sets.length=ch at *
   apply VWp.loopR (ch.length) [(4,_),(5,_),(7,_),(11,_),(15,_),(82,_),(83,_),(84,_),(90,_),(91,_)] [(1,_),(2,_),(3,_),(4,_),(5,_)] (fun k_ r=>(92,.p (.int .i64 (k_:Int)))::(16,.p (.int .i64 (minK sr ch k_)))::r) (fun k_ r=>r) 6
   ·omega
   ·omega
   ·repeat (first|exact LCov.nil|(refine LCov.eq rfl ?_ ?_;(first|exact PV.under_of rfl|(simp [PV.under,PVs.under];done)))|refine LCov.cons trivial rfl (.of_eq (lst_len (by simp<;>omega))) ?_)
   ·repeat (first|exact HCov.nil|(refine HCov.eq rfl (lt_dec rfl) ?_ ?_;(first|exact HB.under_of rfl|exact PVs.under_pure _ _|(simp [HB.under,PVs.under,PV.under];done)))|(refine HCov.cons (lt_dec rfl) ?_ rfl ?_ ?_;(first|exact trivial|exact PVs.under_pure _ _|(simp [HB.under,PVs.under,PV.under]));(first|exact HLe.refl _|exact HLe.vec (FLes.refl _) (by simp))))
   ·intro j hj
    have hcj:=hch j hj
    repeat' (first
     |apply VWp.rseq
     |apply VWp.region
     |apply VWp.skipSeq
     |apply VWp.blockSeq
     |apply QSeq.normal
     |apply QBlk.normal
     |apply VOps.nil
     |apply VOps.one
     |(apply VVal.assign;rfl)
     |(apply VVal.move;rfl)
     |(apply VVal.add64;rfl;rfl;omega)
     |(apply VVal.int;rfl;rfl;rfl)
     |(apply VVal.indexN;rfl;rfl;rfl;omega;rfl)
     |(apply VVal.loadVL;rfl;rfl;omega;rfl)
     |(apply VVal.load;rfl;rfl)
     |(apply VVal.indexVE;rfl;rfl;rfl;rfl;omega;omega)
     |(apply VVal.minI;rfl;rfl)
     |(apply VWp.condSeq_dec;rfl)
     |(intro _;try (exfalso;omega)))
    all_goals try (exfalso;omega)
    refine QLoop.normal ⟨by omega,?_,?_⟩
    ·repeat (first|exact LCov.nil|refine LCov.same trivial rfl ?_|refine LCov.same (lt_dec rfl) rfl ?_|refine LCov.same ⟨trivial,lt_dec rfl,trivial⟩ rfl ?_|refine LCov.same ⟨trivial,lt_dec rfl,lt_dec rfl,trivial⟩ rfl ?_|refine LCov.same ⟨trivial,lt_dec rfl,lt_dec rfl,lt_dec rfl,trivial⟩ rfl ?_|refine LCov.same ⟨trivial,trivial⟩ rfl ?_|refine LCov.cons trivial rfl (.of_eq (lst_len (by simp<;>omega))) ?_)
    ·repeat (first|exact HCov.nil|(refine HCov.cons (lt_dec rfl) ?_ rfl ?_ ?_;(first|exact HB.under_of rfl|exact PVs.under_pure _ _|(simp [HB.under,PVs.under,PV.under]));(first|exact HLe.refl _|exact HLe.vec (FLes.refl _) (by simp))))
   have hw1:=(hmk ch.length).1
   have hw0:=hmg ch.length (Nat.le_refl _)
   have hsk:=hsk (minK sr ch ch.length)
   have hsg:=hsg (minK sr ch ch.length)
   generalize minK sr ch ch.length=w at *
   repeat' (first
    |apply VWp.assoc
    |apply VWp.rseq
    |apply VWp.exitSeq
    |apply VWp.blockSeq
    |apply QSeq.normal
    |apply QBlk.exit
    |apply QLoop.exit
    |apply VOps.nil
    |apply VOps.one
    |(apply VVal.lookupI (ks:=D0) (f:=fun e=>freeK p.sets x e.toNat p.sets.length);rfl;rfl;rfl;rfl;rfl;rfl;assumption)
    |(apply VVal.move;rfl)
    |(apply VVal.int;rfl;rfl;rfl)
    |(apply VVal.load;rfl;rfl)
    |(apply VVal.lenF;rfl;rfl)
    |(apply VWp.condSeq_dec;rfl)
    |(intro _;try (exfalso;omega)))
   all_goals try (exfalso;omega)
   rw [hce]
   apply VWp.loopR (ch.length) [(4,_),(5,_),(7,_),(11,_),(15,_),(16,_),(82,_),(83,_),(84,_),(105,_),(106,_)] [(1,_),(3,_),(4,_),(5,_)] (fun k_ r=>(107,.p (.int .i64 (k_:Int)))::r) (fun k_ r=>(2,.vec 3 (cells (subK sr ch w k_)) p.sets.length false)::r) 6
   ·omega
   ·omega
   ·repeat (first|exact LCov.nil|(refine LCov.eq rfl ?_ ?_;(first|exact PV.under_of rfl|(simp [PV.under,PVs.under];done)))|refine LCov.cons trivial rfl (.of_eq (lst_len (by simp<;>omega))) ?_)
   ·repeat (first|exact HCov.nil|(refine HCov.eq rfl (lt_dec rfl) ?_ ?_;(first|exact HB.under_of rfl|exact PVs.under_pure _ _|(simp [HB.under,PVs.under,PV.under];done)))|(refine HCov.cons (lt_dec rfl) ?_ rfl ?_ ?_;(first|exact trivial|exact PVs.under_pure _ _|(simp [HB.under,PVs.under,PV.under]));(first|exact HLe.refl _|exact HLe.vec (FLes.refl _) (by simp))))
   ·intro j hj
    have hcj:=hch j hj
    have hlj:=hsk j
    have hgj:=hsg j (by omega) (gi ch j).toNat
    have hrj:=hs1 (gi ch j).toNat (by omega)
    have hbj:-2000000≤gi (subK sr ch w j) (gi ch j).toNat∧gi (subK sr ch w j) (gi ch j).toNat≤1000000:=by
     rw [hgj]
     split<;>omega
    repeat' (first
     |apply VWp.rseq
     |apply VWp.region
     |apply VWp.skipSeq
     |apply VWp.blockSeq
     |apply QSeq.normal
     |apply QBlk.normal
     |apply VOps.nil
     |apply VOps.one
     |(apply VVal.storeVL (y:=(gi (subK sr ch w j) (gi ch j).toNat-w));rfl;rfl;rfl;trivial;(first|rfl|(refine congrArg (fun t=>[PV.p (FV.int _ t)]) ?_;first|omega|(simp only [Int.natCast_add,Int.natCast_mul,Int.natCast_ediv,Int.natCast_emod]<;>omega)));rfl;rfl;decide;(first|omega|(simp only [List.length_set]<;>omega)))
     |(apply VVal.assign;rfl)
     |(apply VVal.move;rfl)
     |(apply VVal.add64;rfl;rfl;omega)
     |(apply VVal.sub64;rfl;rfl;omega)
     |(apply VVal.int;rfl;rfl;rfl)
     |(apply VVal.indexN;rfl;rfl;rfl;omega;rfl)
     |(apply VVal.loadVL;rfl;rfl;omega;rfl)
     |(apply VVal.load;rfl;rfl)
     |(apply VVal.indexVE;rfl;rfl;rfl;rfl;omega;omega)
     |(apply VWp.condSeq_dec;rfl)
     |(intro _;try (exfalso;omega)))
    all_goals try (exfalso;omega)
    refine QLoop.normal ⟨by omega,?_,?_⟩
    ·repeat (first|exact LCov.nil|refine LCov.same trivial rfl ?_|refine LCov.same (lt_dec rfl) rfl ?_|refine LCov.same ⟨trivial,lt_dec rfl,trivial⟩ rfl ?_|refine LCov.same ⟨trivial,lt_dec rfl,lt_dec rfl,trivial⟩ rfl ?_|refine LCov.same ⟨trivial,lt_dec rfl,lt_dec rfl,lt_dec rfl,trivial⟩ rfl ?_|refine LCov.same ⟨trivial,trivial⟩ rfl ?_|refine LCov.cons trivial rfl (.of_eq (lst_len (by simp<;>omega))) ?_)
    ·repeat (first|exact HCov.nil|(refine HCov.cons (lt_dec rfl) ?_ rfl ?_ ?_;(first|exact HB.under_of rfl|exact PVs.under_pure _ _|(simp [HB.under,PVs.under,PV.under]));(first|exact HLe.refl _|exact HLe.vec (FLes.refl _) (by simp))))
   repeat' (first
    |apply VWp.rseq
    |apply VWp.region
    |apply VWp.exitSeq
    |apply QSeq.normal
    |apply QBlk.normal
    |apply QBlk.exit
    |apply QLoop.exit
    |apply VOps.nil
    |apply VOps.one
    |(apply VVal.storeVL (y:=w);rfl;rfl;rfl;trivial;(first|rfl|(refine congrArg (fun t=>[PV.p (FV.int _ t)]) ?_;first|omega|(simp only [Int.natCast_add,Int.natCast_mul,Int.natCast_ediv,Int.natCast_emod]<;>omega)));rfl;rfl;decide;(first|omega|(simp only [List.length_set]<;>omega)))
    |(apply VVal.assign;rfl)
    |(apply VVal.move;rfl)
    |(apply VVal.add64;rfl;rfl;omega)
    |(apply VVal.int;rfl;rfl;rfl)
    |(apply VVal.indexVE;rfl;rfl;rfl;rfl;omega;omega)
    |(apply VWp.condSeq_dec;rfl)
    |(intro _;try (exfalso;omega)))
   all_goals try (exfalso;omega)
   refine QLoop.normal ⟨by omega,?_,?_⟩
   ·repeat (first|exact LCov.nil|refine LCov.same trivial rfl ?_|refine LCov.same (lt_dec rfl) rfl ?_|refine LCov.same ⟨trivial,lt_dec rfl,trivial⟩ rfl ?_|refine LCov.same ⟨trivial,lt_dec rfl,lt_dec rfl,trivial⟩ rfl ?_|refine LCov.same ⟨trivial,lt_dec rfl,lt_dec rfl,lt_dec rfl,trivial⟩ rfl ?_|refine LCov.same ⟨trivial,trivial⟩ rfl ?_|refine LCov.cons trivial rfl (.of_eq (lst_len (by simp<;>omega))) ?_)
   ·repeat (first|exact HCov.nil|(refine HCov.cons (lt_dec rfl) ?_ rfl ?_ ?_;(first|exact HB.under_of rfl|exact PVs.under_pure _ _|(simp [HB.under,PVs.under,PV.under]));(first|exact HLe.refl _|exact HLe.vec (FLes.refl _) (by simp))))
  ·have hw:=hiv D.length (Nat.le_refl _)
   have hbd:=wrun_rng hw
   have hok:=wiv_ok h hS hDr hDn hw (fun y hy=>by
    obtain ⟨g,g1,g2,g3⟩:=(hD0 _).1 (hperm.mem_iff.1 hy)
    obtain rfl:y=g:=by omega
    exact g2)
   rw [hlen] at hok hbd
   generalize wrun p.sets x D ⟨List.replicate n 0,p.sets.map (·.cost),0⟩ D0.length=s at *
   obtain ⟨sl,sr,ss⟩:=s
   simp only at hok hbd
   dsimp only
   repeat' (first
    |apply VWp.rseq
    |apply VWp.exitSeq
    |apply QSeq.normal
    |apply QBlk.exit
    |apply QLoop.exit
    |apply VWp.ret
    |apply VOps.nil
    |apply VOps.one
    |(apply VVal.assign;rfl)
    |(apply VVal.move;rfl)
    |(apply VVal.int;rfl;rfl;rfl)
    |(apply VWp.condSeq_dec;rfl)
    |(intro _;try (exfalso;omega)))
   all_goals try (exfalso;omega)
   refine Done.ret (H0:=[(1,.vec 3 (cells sl) n false)]) (nx0:=2) rfl (.refl _) ⟨lt_dec rfl,trivial,trivial,trivial⟩ ?_ (by omega) (Nat.zero_le _) (.inr ⟨sl,ss,hok,by omega,by omega,fun g h1 h2=>?_,rfl,rfl,rfl⟩)
   ·repeat (first|exact HCov.nil|(refine HCov.cons (lt_dec rfl) ?_ rfl ?_ ?_;(first|exact HB.under_of rfl|exact PVs.under_pure _ _|(simp [HB.under,PVs.under,PV.under]));(first|exact HLe.refl _|exact HLe.vec (FLes.refl _) (by simp))))
   ·obtain ⟨i,hi,e⟩:=List.getElem_of_mem ((hD0 g).2 ⟨g,h1,h2,rfl⟩)
    have:=hg i hi
    rw [gi_eq hi,e,Int.toNat_natCast] at this
    exact this
end Go.Proofs.YtmfnchgkffhpfaaDoor
