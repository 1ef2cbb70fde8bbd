/-
  The abstract machine: a call is sound. No condition. Nothing of one program stands here.
-/
import Derived.Test.YtmfnchgkffhpfaaDoorAmC
import Derived.RangeFuncLeaves
import GoSem.ClaimChange
import Derived.ProofKit
import Derived.Below
import Derived.WideShapes
import Derived.ChangeMaps5
import GoSem.ClaimJoined
set_option linter.unusedSimpArgs false
set_option linter.unusedVariables false
namespace Go.Am
variable {P:Program} {G:List Nat} {ds:List Deferred} {rf:Option Nat} {nn:Nat}
theorem asteps_step {call:CallF} (hc:CallStep call) {ops:Array Oper}:∀ (l:List Oper) (s s':St),asteps P call ops l s=some s'→MemStep s.m s'.m
 |[],s,s',h=>by cases h;exact MemStep.refl _
 |o::l,s,s',h=>by
  simp only [asteps] at h
  cases h1:astep P call ops o s with
  |none=>rw [h1] at h;cases h
  |some s1 =>
   rw [h1] at h
   refine MemStep.trans ?_ (asteps_step hc l s1 s' h)
   unfold astep at h1
   split at h1
   ·unfold aact at h1
    split at h1
    ·rename_i v m hv;cases h1;exact aval_step hc hv
    ·cases h1
   ·cases h1;exact MemStep.refl _
theorem dsteps_step {call:CallF} (hc:CallStep call) {ops:Array Oper}:∀ (l:List Oper) (i:Nat) (s s':St),dsteps P call ops i l s=some s'→MemStep s.m s'.m
 |[],i,s,s',h=>by cases h;exact MemStep.refl _
 |o::l,i,s,s',h=>by
  simp only [dsteps] at h
  cases h1:dstep P call ops i o s with
  |none=>rw [h1] at h;cases h
  |some s1 =>
   rw [h1] at h
   refine MemStep.trans ?_ (dsteps_step hc l (i+1) s1 s' h)
   rcases dstep_cases h1 with ⟨_,_,x,hm,hx,_⟩|⟨_,v,m',hv,_,hm,_⟩
   ·rw [hm];exact ⟨Nat.le_refl _,hx,fun _ _ _=>rfl,fun _ _ _=>rfl,fun _ _=>rfl⟩
   ·have hs:=aval_step hc hv
    rw [hm]
    exact ⟨hs.size,Nat.min_le_left _ _,fun b hb hl=>hs.keep b hb (Nat.lt_of_lt_of_le hl (Nat.min_le_right _ _)),fun b hb hr=>hs.ro b hb hr,fun b hb=>hs.ro' b hb⟩
theorem rangeRows_step {n:Nat} {asg body:St→Option (AExit×St)} {ask:Mem→Prop} {t:Tr Value} {ps:List Tmp} (ha:∀ s s' x,asg s=some (x,s')→MemStep s.m s'.m) (hb:∀ s s' x,body s=some (x,s')→MemStep s.m s'.m) :
 ∀ (rows:List (List Value)) (m m':Mem) (x:AExit),rangeRows n asg body ask t ps rows m=some (x,m')→MemStep m m'
 |[],m,m',x,h=>by
  simp only [rangeRows,Option.some.injEq,Prod.mk.injEq] at h
  rw [h.2];exact MemStep.refl _
 |vs::rest,m,m',x,h=>by
  obtain ⟨_,_,s1,e3,xb,s2,e5,e7⟩:=rangeRows_cons h
  have hs:=(ha _ _ _ e3).trans (hb _ _ _ e5)
  have h1:MemStep m (lowTo s2.m (min m.low s2.m.low)):=⟨hs.size,Nat.min_le_left _ _,fun b hb hl=>hs.keep b hb (Nat.lt_of_lt_of_le hl (Nat.min_le_right _ _)),fun b hb hr=>hs.ro b hb hr,fun b hb=>hs.ro' b hb⟩
  rcases e7 with ⟨_,_,q⟩|⟨_,_,q⟩
  ·exact h1.trans (rangeRows_step ha hb rest _ _ _ q)
  ·rw [q];exact h1
theorem aexec_step {call:CallF} (hc:CallStep call) {N:Nat}:∀ (c:Code) (s s':St) (x:AExit),aexec P call N c s=some (x,s')→MemStep s.m s'.m:=by
 intro c
 induction c with
 |skip=>intro s s' x h;cases h;exact MemStep.refl _
 |label l=>intro s s' x h;cases h;exact MemStep.refl _
 |ret=>intro s s' x h;cases h;exact MemStep.refl _
 |exit id=>intro s s' x h;cases h;exact MemStep.refl _
 |goto l=>intro s s' x h;cases h
 |scope b _=>intro s s' x h;cases h
 |refuse y=>intro s s' x h;cases h
 |rangeFunc f ps y z ihy ihz =>
  intro s s' x h
  simp only [aexec] at h
  split at h
  case h_2=>cases h
  split at h
  case h_2=>cases h
  split at h
  case isFalse=>cases h
  split at h
  case h_2=>cases h
  split at h
  case h_2=>cases h
  rw [Option.map_eq_some_iff] at h
  obtain ⟨⟨x1,m'⟩,hrun,he⟩:=h
  cases he
  exact rangeRows_step ihy ihz _ _ _ _ hrun
 |seq c1 c2 ih1 ih2 =>
  intro s s' x h
  simp only [aexec] at h
  cases h1:aexec P call N c1 s with
  |none=>rw [h1] at h;cases h
  |some r =>
   obtain ⟨x1,s1⟩:=r
   rw [h1] at h
   have:=ih1 s s1 x1 h1
   cases x1 with
   |normal=>exact this.trans (ih2 s1 s' x h)
   |ret=>cases h;exact this
   |exit id=>cases h;exact this
 |cond c0 c1 c2 ih1 ih2 =>
  intro s s' x h
  simp only [aexec] at h
  split at h
  ·exact ih1 s s' x h
  ·exact ih2 s s' x h
  ·cases h
 |block id b ih =>
  intro s s' x h
  simp only [aexec] at h
  cases h1:aexec P call N b s with
  |none=>rw [h1] at h;cases h
  |some r =>
   obtain ⟨x1,s1⟩:=r
   rw [h1] at h
   have:=ih s s1 x1 h1
   cases x1 with
   |normal=>cases h;exact this
   |ret=>cases h;exact this
   |exit i=>simp only at h;split at h<;>(cases h;exact this)
 |loop b ih =>
  intro s s' x h
  simp only [aexec] at h
  have key:∀ (k:Nat) (s s':St) (x:AExit),iterate (aexec P call N b) k s=some (x,s')→MemStep s.m s'.m:=by
   intro k
   induction k with
   |zero=>intro s s' x h;cases h
   |succ k ihk =>
    intro s s' x h
    simp only [iterate] at h
    cases h1:aexec P call N b s with
    |none=>rw [h1] at h;cases h
    |some r =>
     obtain ⟨x1,s1⟩:=r
     rw [h1] at h
     have:=ih s s1 x1 h1
     cases x1 with
     |normal=>exact this.trans (ihk s1 s' x h)
     |ret=>cases h;exact this
     |exit id=>cases h;exact this
  exact key N s s' x h
 |region id ops draw =>
  intro s s' x h
  cases draw with
  |false =>
   simp only [aexec,Option.map_eq_some_iff] at h
   obtain ⟨s1,h1,he⟩:=h
   cases he
   exact asteps_step hc _ _ _ h1
  |true =>
   simp only [aexec,Option.map_eq_some_iff] at h
   obtain ⟨s1,h1,he⟩:=h
   cases he
   exact dsteps_step hc _ _ _ _ h1
theorem tget_tmpsOf:∀ (l:List Value) (k:Nat) (t:Tr Value) (i:Nat),tget (tmpsOf k l t) i=if k≤i∧i<k+l.length then l.getD (i-k) undef else tget t i
 |[],k,t,i=>by simp only [tmpsOf];rw [if_neg (by simp)]
 |v::l,k,t,i=>by
  simp only [tmpsOf]
  rw [tget_tmpsOf l (k+1) (tset t k v) i,tget_tset]
  by_cases h1:k+1≤i∧i<k+1+l.length
  ·rw [if_pos h1,if_pos (by simp only [List.length_cons];omega)]
   have:i-k=(i-(k+1))+1:=by omega
   rw [this,List.getD_cons_succ]
  ·rw [if_neg h1]
   by_cases h2:k=i
   ·subst h2
    rw [if_pos rfl,if_pos (by simp only [List.length_cons];omega)]
    simp
   ·rw [if_neg h2,if_neg (by simp only [List.length_cons];omega)]
def resSem (tmps:Array Value):ResultVar→Sem Value
 | .tmp t=>pure (tmps.getD t undef)
 | .cell a t=>do loadVar t (← asAddr (tmps.getD a undef))
theorem resultOf_sound {ι:Inj} {s:St} {n:Nat} {a:Act} {w:World} (hst:Stands P G ds n s ι a w) {r:ResultVar} {v:Value} (h:resultOf P s r=some v) :
 ∃ v',(resSem a.tmps r).run P w=.ok v' w∧VRel ι s.m.gen v v':=by
 cases r with
 |tmp t=>cases h;exact ⟨_,rfl,hst.2.val t⟩
 |cell c t =>
  simp only [resultOf] at h
  have hv:=hst.2.val c
  cases hc:tget s.t c<;>rw [hc] at h hv<;>first|(cases h;done)|skip
  rename_i ad
  cases ad with
  |none=>cases h
  |some ad =>
   obtain ⟨a',e1,har⟩:∃ a',a.tmps.getD c undef=.pointer (some a')∧ARel ι s.m.gen ad a':=by
    generalize a.tmps.getD c undef=u at hv
    cases hv;exact ⟨_,rfl,by assumption⟩
   obtain ⟨v',hr,hvr⟩:=aload_sound hst.1 har h
   exact ⟨v',by simp only [resSem,e1,asAddr,Sem.run_bind,Sem.run_pure,Result.andThen_ok];exact hr,hvr⟩
theorem listAll_sound {ι:Inj} {s:St} {n:Nat} {a:Act} {w:World} (hst:Stands P G ds n s ι a w):∀ (rs:List ResultVar) (vs:List Value),listAll (resultOf P s) rs=some vs →
 ∃ vs',(rs.mapM (resSem a.tmps)).run P w=.ok vs' w∧LRel ι s.m.gen vs vs'
 |[],vs,h=>by cases h;exact ⟨[],rfl,LRel.nil⟩
 |r::rs,vs,h=>by
  simp only [listAll] at h
  split at h
  ·rename_i v l h1 h2
   cases h
   obtain ⟨v',q1,q2⟩:=resultOf_sound hst h1
   obtain ⟨l',r1,r2⟩:=listAll_sound hst rs l h2
   refine ⟨v'::l',?_,LRel.cons q2 r2⟩
   rw [List.mapM_cons]
   simp only [Sem.run_bind,q1,Result.andThen_ok,r1,Sem.run_pure]
  ·cases h
theorem resultsOf_sound {ι:Inj} {s:St} {n:Nat} {a:Act} {w:World} {fn:Func} {v:Value} (hst:Stands P G ds n s ι a w) (h:resultsOf P fn s=some v) :
 ∃ v',(results fn a.tmps).run P w=.ok v' w∧VRel ι s.m.gen v v':=by
 have heq:results fn a.tmps=(do let vs ← fn.results.mapM (resSem a.tmps);pure (if h:vs.size=1 then vs[0] else .tuple vs)):=by
  unfold results
  first
   |rfl
   |(congr 1;congr 1;funext r;cases r<;>rfl)
 unfold resultsOf at h
 have run:∀ vs,listAll (resultOf P s) fn.results.toList=some vs→∃ vs':List Value,LRel ι s.m.gen vs vs'∧(results fn a.tmps).run P w=.ok (if h:vs'.toArray.size=1 then vs'.toArray[0] else .tuple vs'.toArray) w:=fun vs hvs=>by
  obtain ⟨vs',h1,h2⟩:=listAll_sound hst _ _ hvs
  refine ⟨vs',h2,?_⟩
  rw [heq,Array.mapM_eq_mapM_toList]
  simp only [Sem.run_bind,Sem.run_map,h1,Result.andThen_ok,Sem.run_pure]
 split at h
 ·rename_i v0 hl
  cases h
  obtain ⟨vs',h1,h2⟩:=run _ hl
  obtain ⟨v',k',rfl,hv,hk⟩:=h1.uncons
  have:k'=[]:=List.length_eq_zero_iff.1 hk.1.symm
  subst this
  exact ⟨v',by rw [h2];simp,hv⟩
 ·rename_i vs hne hl
  cases h
  obtain ⟨vs',h1,h2⟩:=run _ hl
  have hlen:vs'.length≠1:=fun e=>by
   have:vs.length=1:=h1.1.trans e
   match vs,this with
   |[x],_=>exact hne x rfl
  exact ⟨.tuple vs'.toArray,by rw [h2];simp [hlen],.tuple vs vs' h1.1 h1.2⟩
 ·cases h
def SeqFn (P:Program) (G:List Nat) (f:FuncId) (F:List Value→Mem→Option (Value×Mem)):Prop:=∀ (fn:Func) (lb:List Value) (m m1:Mem) (v:Value) (rows:List (List Value)),P.funcs[f]?=some fn→F (seqAs fn.ntmps lb) m=some (v,m1)→seqRows v=some rows →
 ∀ (ι:Inj) (w:World) (lb':Array Value),Sim P G ι m w→LRel ι m.gen lb lb'.toList→SeqOf P f lb' rows (SeqInv P G (fun m'=>∃ m1',F (seqAs fn.ntmps lb) m'=some (v,m1')) lb lb') w
theorem SeqFn.of_rows {f:FuncId} {F:List Value→Mem→Option (Value×Mem)} (h:∀ as m v m',F as m=some (v,m')→seqRows v=none):SeqFn P G f F:=fun fn lb m m1 v rows _ h1 h2=>by rw [h _ _ _ _ h1] at h2;cases h2
theorem seqAs_cons (n:Nat) (lb:List Value):seqAs n lb=seqMark::(List.replicate n seqMark++lb):=rfl
theorem SeqFn.none {f:FuncId} {F:List Value→Mem→Option (Value×Mem)} (h:∀ n lb m,F (seqAs n lb) m=none):SeqFn P G f F:=fun fn lb m m1 v rows _ h1=>by rw [h] at h1;cases h1
def OSound (P:Program) (G:List Nat) (O:Oracle):Prop:=∀ f F,O f=some F→FnSound P G f F∧(∀ as m v m',F as m=some (v,m')→MemStep m m')∧Enters P f∧SeqFn P G f F
theorem acall_step {O:Oracle} {N:Nat} (hO:OSound P G O):∀ D,CallStep (acall P O G N D)
 |0=>fun f as m v m' h=>by cases h
 |D+1=>fun f as m v m' h=>by
  simp only [acall] at h
  split at h
  ·rename_i r hF
   rw [Option.bind_eq_some_iff] at hF
   obtain ⟨F,hF,hr⟩:=hF
   cases h
   exact (hO f F hF).2.1 as m v m' hr
  ·split at h
   ·cases h
   ·split at h
    ·cases h
    ·split at h
     ·split at h
      ·rename_i s' hx
       rw [Option.map_eq_some_iff] at h
       obtain ⟨u,_,h2⟩:=h
       cases h2
       exact aexec_step (acall_step hO D) _ _ _ _ hx
      ·rename_i s' hx
       rw [Option.map_eq_some_iff] at h
       obtain ⟨u,_,h2⟩:=h
       cases h2
       exact aexec_step (acall_step hO D) _ _ _ _ hx
      ·cases h
     ·cases h
theorem seqAs_length (n:Nat) (lb:List Value):n<(seqAs n lb).length:=by unfold seqAs;simp;omega
theorem acall_seq {O:Oracle} {N:Nat} (hO:OSound P G O):∀ D,SeqSound P G (acall P O G N D)
 |0=>fun g fn lb m m1 v rows _ h=>by cases h
 |D+1=>fun g fn lb m m1 v rows hfn h hr=>by
  have hrun:∀ m',(O g).bind (fun F=>F (seqAs fn.ntmps lb) m')=none→acall P O G N (D+1) g (seqAs fn.ntmps lb) m'=none:=fun m' h0=>by
   have:=seqAs_length fn.ntmps lb
   simp only [acall,h0,hfn]
   split
   ·rfl
   ·rw [if_neg (by simp only [Bool.and_eq_true,decide_eq_true_eq];omega)]
  have hall:∀ m',acall P O G N (D+1) g (seqAs fn.ntmps lb) m'=(O g).bind (fun F=>F (seqAs fn.ntmps lb) m'):=fun m'=>by
   cases h0:(O g).bind (fun F=>F (seqAs fn.ntmps lb) m') with
   |none=>exact hrun m' h0
   |some r=>simp only [acall,h0]
  rw [hall] at h
  rw [Option.bind_eq_some_iff] at h
  obtain ⟨F,hg,hF⟩:=h
  obtain ⟨_,_,h3,h4⟩:=hO g F hg
  refine ⟨h3,fun ι w lb' hs hl=>?_⟩
  simp only [hall,hg,Option.bind_some]
  exact h4 fn lb m m1 v rows hfn hF hr ι w lb' hs hl
theorem sim_put' {ι:Inj} {m:Mem} {W:World} {l:Nat} {ds:List Deferred} (hs:Sim P G ι m W) (ho:W.heap[l]?=some (.deferred (some ds))) (x:Obj):Sim P G ι m (W.putObj l x):=by
 have hg:=grownBy_putObj' W l x
 refine ⟨fun b ib hb=>⟨(hs.dom b ib hb).1,Nat.lt_of_lt_of_le (hs.dom b ib hb).2 hg.size⟩,fun b ib hb=>?_,hs.inj,hs.glob⟩
 rw [hg.block ib.blk (hs.dom b ib hb).2 ?_];exact hs.blk b ib hb
 intro e
 have e':ib.blk=l:=by cases e;rfl
 have h4:=hs.blk b ib hb
 rw [e',ho] at h4
 obtain ⟨_,_,h5⟩:=brel_not h4 rfl
 cases h5
theorem Marks.put {B:Nat} {w:World} {D:Nat} {x:Obj}:∀ {ds:List Deferred},(∀ d'∈ds,d'≠{ target:=.collected D,args:=#[] })→Marks B w ds→Marks B (w.putObj D x) ds
 |[],_,h=>by
  have:B≤w.heap.size:=h
  simpa [Marks] using this
 |d::ds,hn,⟨⟨D',e,hBD,hD,hne⟩,hr⟩=>by
  refine ⟨⟨D',e,hBD,?_,hne⟩,Marks.put (fun d' hd=>hn d' (List.mem_cons_of_mem _ hd)) hr⟩
  rw [World.putObj_heap_other (fun e'=>hn d (List.mem_cons_self ..) (by rw [e,e']))];exact hD
theorem leaves_marks {fn:Func} {tmps:Array Value} {R:Ending→World→Prop} {ι:Inj} {m:Mem} {B:Nat}:∀ (ds:List Deferred) (w:World),Marks B w ds→Sim P G ι m w →
 (∀ w',Sim P G ι m w'→w.heap.size≤w'.heap.size→(∀ c,c<B→w'.heap[c]?=w.heap[c]?)→w'.tape=w.tape→w'.os=w.os→w'.output=w.output→LeavesIn Fence.wide 0 P fn tmps R [] .returning w')→LeavesInM Fence.wide 0 P fn tmps R ds .returning w
 |[],w,_,hs,h=>h w hs (Nat.le_refl _) (fun _ _=>rfl) rfl rfl rfl
 |d::ds,w,⟨⟨D,e,hBD,hD,hne⟩,hr⟩,hs,h=>by
  refine ⟨(by simp),.inl ⟨D,_,by rw [e],run_takeDeferred hD,?_⟩⟩
  have hlt:=(Array.getElem?_eq_some_iff.1 hD).1
  have hot:∀ c,c≠D→(w.putObj D (.deferred none)).heap[c]?=w.heap[c]?:=fun c hc=>World.putObj_heap_other hc
  refine leaves_marks ds _ ?_ ?_ fun w' h1 h2 h3 h4 h5 h6=>h w' h1 (by simpa using h2) (fun c hc=>(h3 c hc).trans (hot c (by omega))) h4 h5 h6
  ·rw [e] at hne;exact Marks.put hne hr
  ·exact sim_put' hs hD _
theorem acall_sound {O:Oracle} {N:Nat} (hO:OSound P G O) (hmix:P.follows .mixedOrders=true):∀ D,CallSound P G (acall P O G N D)
 |0=>fun f=>⟨(fun as m v m' h=>by cases h),(fun as m r h=>by cases h)⟩
 |D+1=>fun f=>by
  have hcs:=acall_step (N:=N) hO D
  have hc:=acall_sound (N:=N) hO hmix D
  refine ⟨fun as m v m' h ι w as' hs hargs=>?_,fun as m r h=>?_⟩
  ·simp only [acall] at h
   split at h
   ·rename_i r hF
    rw [Option.bind_eq_some_iff] at hF
    obtain ⟨F,hF,hr⟩:=hF
    cases h
    exact (hO f F hF).1 as m v m' hr ι w as' hs hargs
   ·split at h
    ·cases h
    ·rename_i fn hfn
     split at h
     ·cases h
     ·rename_i c hb
      split at h
      ·rename_i hok
       simp only [Bool.and_eq_true,decide_eq_true_eq] at hok
       obtain ⟨hok1,hlen⟩:=hok
       unfold fnOk at hok1
       simp only [Bool.and_eq_true] at hok1
       have hlen':as'.size=as.length:=by have:=hargs.1;simpa using this.symm
       have hst:Stands P G [] fn.ntmps { t:=tmpsOf 0 as .leaf,m:=m } ι { tmps:=as'++Array.replicate (fn.ntmps-as'.size) undef,defers:=[] } w:=by
        refine ⟨hs,by simp;omega,rfl,fun i=>?_⟩
        rw [tget_tmpsOf]
        by_cases hi:i<as.length
        ·rw [if_pos (by omega)]
         have h1:=hargs.2 i hi
         have hi':i<as'.size:=by omega
         have e:(as'++Array.replicate (fn.ntmps-as'.size) undef).getD i undef=as'.toList.getD i undef:=by
          rw [Array.getD_eq_getD_getElem?,Array.getElem?_append_left hi',getD_eq,Array.getElem?_toList]
         rw [e,Nat.sub_zero]
         exact h1
        ·rw [if_neg (by omega)]
         have e1:tget (.leaf:Tr Value) i=undef:=Tr.get_leaf _ _
         have e2:(as'++Array.replicate (fn.ntmps-as'.size) undef).getD i undef=undef:=by
          rw [Array.getD_eq_getD_getElem?,Array.getElem?_append_right (by omega)]
          by_cases hr:i-as'.size<fn.ntmps-as'.size
          ·simp [hr]
          ·simp [hr]
         rw [e1,e2]
         exact VRel.undef
       have main:∀ (x:AExit) (s':St),aexec P (acall P O G N D) N c { t:=tmpsOf 0 as .leaf,m:=m }=some (x,s')→(x=.normal∨x=.ret)→(resultsOf P fn s').map (fun v=>(v,s'.m))=some (v,m') →
        Calls P f as' w fun e w'=>∃ v',e=.returned v'∧Post P G ι m w v m' v' w':=fun x s' hx hxx hres=>by
        rw [Option.map_eq_some_iff] at hres
        obtain ⟨v0,hr0,he⟩:=hres
        cases he
        refine (callsIn_wide (n:=0)).1 (callsIn_of_wp_marks hfn hb trivial ?_)
        refine (wpIn_wide (n:=0)).2 ((wpIn_wide (n:=0)).1 (aexec_sound hc (acall_seq hO D) (draw_sound hc hcs hmix) c w.heap.size [] none 0 _ s' x ι _ w _ (.inl rfl) hok1.2 hx hst (Nat.le_refl _) fun ds' a' w' hr hm' _=>?_))
        obtain ⟨ι',hext,hst'⟩:=hr
        have hpost:LeavesInM Fence.wide 0 P fn a'.tmps (fun e w'=>∃ v',e=.returned v'∧Post P G ι m w v s'.m v' w') a'.defers .returning w':=by
         rw [hst'.2.defers]
         refine leaves_marks ds' w' hm' hst'.1 fun w'' h1 h2 h3 h4 h5 h6=>?_
         have hst2:Stands P G ds' fn.ntmps s' ι' a' w'':=⟨h1,hst'.2⟩
         obtain ⟨v',q1,q2⟩:=resultsOf_sound hst2 hr0
         refine ⟨v',q1,v',rfl,ι',?_,h1,q2⟩
         exact ⟨hext.size,hext.low,hext.keep,hext.ro,hext.ro',hext.le,hext.back,hext.dom,Nat.le_trans hext.heap h2,fun c hc' hf=>(h3 c hc').trans (hext.frame c hc' hf),h4.trans hext.tape,h5.trans hext.os,h6.trans hext.output⟩
        rcases hxx with rfl|rfl<;>exact hpost
       split at h
       ·rename_i s' hx;exact main .normal s' hx (.inl rfl) h
       ·rename_i s' hx;exact main .ret s' hx (.inr rfl) h
       ·cases h
      ·cases h
  ·simp only [acall] at h
   split at h
   ·rename_i r hF
    rw [Option.bind_eq_some_iff] at hF
    obtain ⟨F,hF,_⟩:=hF
    exact (hO f F hF).2.2.1
   ·split at h
    ·cases h
    ·rename_i fn hfn
     split at h
     ·cases h
     ·rename_i c hb
      split at h
      ·rename_i hok
       simp only [Bool.and_eq_true,decide_eq_true_eq] at hok
       have hok1:=hok.1
       unfold fnOk at hok1
       simp only [Bool.and_eq_true,Bool.not_eq_true'] at hok1
       exact ⟨fn,hfn,by rw [hb];rfl,hok1.1⟩
      ·cases h
end Go.Am
set_option linter.unusedSimpArgs false
set_option linter.unusedVariables false
namespace Go.Am
variable {P:Program} {G:List Nat}
def AllRo (m:Mem):Prop:=∀ b,b<m.size→m.ro b=true
structure Grow (ι:Inj) (m:Mem) (ι':Inj) (m':Mem):Prop where
 le:Le ι m.gen ι' m'.gen
 size:m.size≤m'.size
 get:∀ b,b<m.size→m'.get b=m.get b
theorem Grow.refl (ι:Inj) (m:Mem):Grow ι m ι m:=⟨Le.refl _ _,Nat.le_refl _,fun _ _=>rfl⟩
theorem Grow.trans {ι ι' ι'':Inj} {m m' m'':Mem} (h:Grow ι m ι' m') (k:Grow ι' m' ι'' m''):Grow ι m ι'' m'' :=
 ⟨h.le.trans k.le,Nat.le_trans h.size k.size,fun b hb=>(k.get b (Nat.lt_of_lt_of_le hb h.size)).trans (h.get b hb)⟩
theorem open_block {ι:Inj} {m:Mem} {W:World} {c sh:Nat} {cs:Array Value} {e e':TypeId} {fr:Nat×Nat} {vs:List Value} (hs:Sim P G ι m W) (hro:AllRo m)
 (hc:W.heap[c]?=some (.cells cs e' fr)) (hv:∀ i,i<vs.length→∃ v',cs[sh+i]?=some v'∧VRel ι m.gen (vs.getD i undef) v') :
 ∃ ι',Sim P G ι' (m.alloc (.cells vs e 0 true)) W∧ι' m.size=some ⟨c,sh,cs.size,P.cellsOf e⟩∧Grow ι m ι' (m.alloc (.cells vs e 0 true))∧AllRo (m.alloc (.cells vs e 0 true)):=by
 have hget:∀ b,b<m.size→(m.alloc (.cells vs e 0 true)).get b=m.get b:=fun b hb=>by rw [Mem.get_alloc,if_neg (by omega)]
 have hgen:∀ b,b<m.size→(m.alloc (.cells vs e 0 true)).gen b=m.gen b:=fun b hb=>gen_of_get (hget b hb)
 have hself:(m.alloc (.cells vs e 0 true)).get m.size=.cells vs e 0 true:=by rw [Mem.get_alloc,if_pos rfl]
 have hroA:AllRo (m.alloc (.cells vs e 0 true)):=fun b hb=>by
  by_cases h:b=m.size
  ·subst h;exact Mem.ro_eq hself
  ·have:b<m.size:=by simp only [Mem.alloc] at hb;omega
   rw [ro_of_get (hget b this)];exact hro b this
 let ι':Inj:=fun b=>if b=m.size then some ⟨c,sh,cs.size,P.cellsOf e⟩ else ι b
 have hle:Le ι m.gen ι' (m.alloc (.cells vs e 0 true)).gen:=fun b ib hb=>by
  have hlt:=(hs.dom b ib hb).1
  refine ⟨by rw [hgen b hlt];exact Nat.le_refl _,ib,?_,fun _=>rfl⟩
  show (if b=m.size then _ else ι b)=some ib
  rw [if_neg (by omega)];exact hb
 have hclt:c<W.heap.size:=(Array.getElem?_eq_some_iff.1 hc).1
 refine ⟨ι',⟨fun b ib hb=>?_,fun b ib hb=>?_,fun b b' ib ib' hb hb' he=>?_,fun k hk=>?_⟩,if_pos rfl,⟨hle,by simp [Mem.alloc],hget⟩,hroA⟩
 ·change (if b=m.size then some _ else ι b)=some ib at hb
  split at hb
  ·cases hb;exact ⟨by simp [Mem.alloc];omega,hclt⟩
  ·have:=hs.dom b ib hb
   exact ⟨by simp only [Mem.alloc];omega,this.2⟩
 ·change (if b=m.size then some _ else ι b)=some ib at hb
  split at hb
  ·rename_i hbe;cases hb;subst hbe
   rw [hself,hc]
   refine ⟨(fun h=>by cases h),rfl,rfl,fun i hi=>?_,(fun h=>by cases h)⟩
   obtain ⟨v',h1,h2⟩:=hv i hi
   exact ⟨v',h1,h2.mono hle⟩
  ·rw [hget b (hs.dom b ib hb).1]
   exact (hs.blk b ib hb).mono hle
 ·refine .inr ⟨hroA b ?_,hroA b' ?_⟩
  ·change (if b=m.size then some _ else ι b)=some ib at hb
   split at hb
   ·simp [Mem.alloc];omega
   ·have:=(hs.dom b ib hb).1;simp only [Mem.alloc];omega
  ·change (if b'=m.size then some _ else ι b')=some ib' at hb'
   split at hb'
   ·simp [Mem.alloc];omega
   ·have:=(hs.dom b' ib' hb').1;simp only [Mem.alloc];omega
 ·obtain ⟨ib,h1,h2,h3,h4,h5⟩:=hs.glob k hk
  have hlt:=(hs.dom k ib h1).1
  refine ⟨ib,?_,h2,⟨h3.1,by rw [hget k hlt];exact h3.2⟩,by rw [hgen k hlt];exact h4,by rw [ro_of_get (hget k hlt)];exact h5⟩
  show (if k=m.size then some _ else ι k)=some ib
  rw [if_neg (by omega)];exact h1
def absL {H:Type} (g:TypeId→DataW H→Mem→Option (List Value×Mem)):List (TypeId×DataW H)→Mem→Option (List Value×Mem)
 |[],m=>some ([],m)
 |(t,d)::rest,m=>match g t d m with
  |some (l,m1)=>match absL g rest m1 with
   |some (r,m2)=>some (l++r,m2)
   |none=>none
  |none=>none
def absD {H:Type} (P:Program):Nat→TypeId→DataW H→Mem→Option (List Value×Mem)
 |0,_,_,_=>none
 |f+1,t,d,m =>
  match P.underlying t,d with
  |some .bool,.lit (.bool b)=>some ([.bool b],m)
  |some (.int k),.lit (.int _ n)=>some ([.int k n],m)
  |some .string,.lit (.string s)=>some ([.string ⟨s.toArray⟩],m)
  |some (.slice _),.nil=>some ([.slice none 0 0],m)
  |some (.slice e),.slice elems spare =>
   if P.cellsOf e=0 then none else
   if elems.isEmpty&&spare.isEmpty then some ([.slice (some ⟨0,0,some 0⟩) 0 0],m) else
   match absL (absD P f) (elems.map fun x=>(e,x)) m with
   |some (l,m1)=>some ([.slice (some ⟨m1.size,0,none⟩) elems.length 0],m1.alloc (.cells l e 0 true))
   |none=>none
  |some (.struct fs),.agg parts =>
   if (fs.toList.map fun fd=>((List.range (P.cellsOf t)).drop fd.offset).take (P.cellsOf fd.type)).flatten=List.range (P.cellsOf t) then
    absL (absD P f) ((fs.toList.map (·.type)).zip parts) m else none
  |some (.array n e),.agg parts =>
   if ((List.range n).map fun i=>((List.range (P.cellsOf t)).drop (i*P.cellsOf e)).take (P.cellsOf e)).flatten=List.range (P.cellsOf t) then
    absL (absD P f) (parts.map fun x=>(e,x)) m else none
  |_,_=>none
theorem mapM_some {α β:Type} {f:α→Option β}:∀ {l:List α} {r:List β},l.mapM f=some r→r.length=l.length∧∀ (i:Nat) a,l[i]?=some a→∃ b,r[i]?=some b∧f a=some b
 |[],r,h=>by
  simp only [List.mapM_nil,pure,Option.some.injEq] at h
  subst h
  exact ⟨rfl,fun i a h=>by simp at h⟩
 |x::l,r,h=>by
  rw [List.mapM_cons] at h
  simp only [bind,Option.bind_eq_some_iff,pure,Option.some.injEq] at h
  obtain ⟨y,h1,ys,h2,rfl⟩:=h
  obtain ⟨q1,q2⟩:=mapM_some h2
  refine ⟨by simp [q1],fun i a hi=>?_⟩
  cases i with
  |zero=>simp only [List.getElem?_cons_zero,Option.some.injEq] at hi;subst hi;exact ⟨y,by simp,h1⟩
  |succ i=>simpa using q2 i a (by simpa using hi)
def OpenedTo (P:Program) (G:List Nat) (W:World) (ι:Inj) (m:Mem) (l:List Value) (m':Mem) (cs:List Value):Prop :=
 ∃ ι',Sim P G ι' m' W∧Grow ι m ι' m'∧AllRo m'∧LRel ι' m'.gen l cs
theorem absL_sound {H:Type} {W:World} {g:TypeId→DataW H→Mem→Option (List Value×Mem)}:∀ (xs:List (TypeId×DataW H)) (css:List (List Value)) (ι:Inj) (m m':Mem) (l:List Value),
 xs.length=css.length→(∀ (i:Nat) (t:TypeId) (d:DataW H) (cs:List Value),xs[i]?=some (t,d)→css[i]?=some cs→∀ (ι:Inj) (m m':Mem) (l:List Value),Sim P G ι m W→AllRo m→g t d m=some (l,m')→OpenedTo P G W ι m l m' cs) →
 Sim P G ι m W→AllRo m→absL g xs m=some (l,m')→OpenedTo P G W ι m l m' css.flatten
 |[],css,ι,m,m',l,hlen,_,hs,hro,h=>by
  cases h
  have:css=[]:=List.length_eq_zero_iff.1 hlen.symm
  subst this
  exact ⟨ι,hs,Grow.refl _ _,hro,LRel.nil⟩
 |(t,d)::xs,css,ι,m,m',l,hlen,hg,hs,hro,h=>by
  match css,hlen with
  |cs::css,hlen =>
   simp only [absL] at h
   cases h1:g t d m with
   |none=>rw [h1] at h;cases h
   |some r =>
    obtain ⟨l1,m1⟩:=r
    rw [h1] at h
    simp only at h
    cases h2:absL g xs m1 with
    |none=>rw [h2] at h;cases h
    |some r2 =>
     obtain ⟨l2,m2⟩:=r2
     rw [h2] at h
     cases h
     obtain ⟨ι1,a1,a2,a3,a4⟩:=hg 0 t d cs (by simp) (by simp) ι m m1 l1 hs hro h1
     obtain ⟨ι2,b1,b2,b3,b4⟩:=absL_sound xs css ι1 m1 m' l2 (by simpa using hlen) (fun i t d cs q1 q2=>hg (i+1) t d cs (by simpa using q1) (by simpa using q2)) a1 a3 h2
     refine ⟨ι2,b1,a2.trans b2,b3,?_⟩
     rw [List.flatten_cons]
     exact (a4.mono b2.le).append b4
theorem map_getD_range (cs:List Value):(List.range cs.length).map (fun i=>cs.getD i undef)=cs:=by
 apply List.ext_getElem?
 intro i
 by_cases hi:i<cs.length
 ·rw [List.getElem?_map,List.getElem?_range hi,List.getElem?_eq_getElem hi]
  simp only [Option.map_some,getD_lt hi]
 ·rw [List.getElem?_eq_none (by simpa using hi),List.getElem?_eq_none (by omega)]
theorem parts_flatten {α:Type} (cs:List Value) (l:List α) (off size:α→Nat)
 (h:(l.map fun a=>((List.range cs.length).drop (off a)).take (size a)).flatten=List.range cs.length):(l.map fun a=>(cs.drop (off a)).take (size a)).flatten=cs:=by
 have h2:=congrArg (List.map fun i=>cs.getD i undef) h
 rw [map_getD_range,List.map_flatten,List.map_map] at h2
 refine Eq.trans ?_ h2
 congr 1
 apply List.map_congr_left
 intro a _
 simp only [Function.comp,List.map_take,List.map_drop,map_getD_range]
theorem rows_flatten (sz:Nat):∀ (n:Nat) (row:List Value),row.length=n*sz→((List.range n).map fun i=>(row.drop (i*sz)).take sz).flatten=row:=by
 intro n
 induction n with
 |zero=>intro row h;simp at h;subst h;rfl
 |succ n ih =>
  intro row h
  rw [List.range_succ_eq_map,List.map_cons,List.flatten_cons,List.map_map]
  have h1:(row.drop sz).length=n*sz:=by rw [List.length_drop,h,Nat.succ_mul];omega
  have h2:=ih (row.drop sz) h1
  have h3:(List.map ((fun i=>List.take sz (List.drop (i*sz) row)) ∘ Nat.succ) (List.range n))=(List.map (fun i=>List.take sz (List.drop (i*sz) (List.drop sz row))) (List.range n)):=by
   apply List.map_congr_left
   intro i _
   simp only [Function.comp,List.drop_drop]
   congr 2
   rw [Nat.succ_mul,Nat.add_comm]
  rw [h3,h2]
  simp
theorem cells?_some {W:World} {a:Addr} {n:Nat} {cs:List Value} (h:W.cells? 0 a n=some cs):cs.length=n∧∀ i,i<n→W.cell? (a.add i)=cs[i]?:=by
 unfold World.cells? at h
 rw [if_pos (Nat.zero_le _)] at h
 obtain ⟨h1,h2⟩:=mapM_some h
 refine ⟨by simpa using h1,fun i hi=>?_⟩
 obtain ⟨b,q1,q2⟩:=h2 i i (List.getElem?_range hi)
 rw [q1];exact q2
theorem absD_sound {H:Type} {enc:TypeId×Value→H} {W:World} {held:Bool}:∀ (f:Nat) (t:TypeId) (cs:List Value) (d:DataW H) (ps:List MemPlace),
 DataW.trod enc P W 0 (fun _=>true) held f t cs=some (d,ps)→∀ (ι:Inj) (m m':Mem) (l:List Value),Sim P G ι m W→AllRo m→absD P f t d m=some (l,m')→OpenedTo P G W ι m l m' cs:=by
 intro f
 induction f with
 |zero=>intro t cs d ps h;cases h
 |succ f ih =>
  intro t cs d ps h ι m m' l hs hro ha
  have one:∀ {v:Value},plain v=true→OpenedTo P G W ι m [v] m [v]:=fun {v} hp=>⟨ι,hs,Grow.refl _ _,hro,LRel.cons (VRel.plain hp) LRel.nil⟩
  unfold DataW.trod at h
  unfold absD at ha
  cases hu:P.underlying t with
  |none=>rw [hu] at h;simp at h
  |some u =>
   rw [hu] at h ha
   cases u with
   |bool =>
    match cs,h with
    |[.bool b],h =>
     simp only [Option.some.injEq,Prod.mk.injEq] at h
     obtain ⟨rfl,rfl⟩:=h
     simp only [Option.some.injEq,Prod.mk.injEq] at ha
     obtain ⟨rfl,rfl⟩:=ha
     exact one rfl
   |int k =>
    match cs,h with
    |[.int k' n],h =>
     simp only at h
     split at h
     ·rename_i hc
      obtain ⟨rfl,_⟩:=hc
      simp only [Option.some.injEq,Prod.mk.injEq] at h
      obtain ⟨rfl,rfl⟩:=h
      simp only [Option.some.injEq,Prod.mk.injEq] at ha
      obtain ⟨rfl,rfl⟩:=ha
      exact one rfl
     ·cases h
   |string =>
    match cs,h with
    |[.string s],h =>
     simp only at h
     split at h
     ·simp only [Option.some.injEq,Prod.mk.injEq] at h
      obtain ⟨rfl,rfl⟩:=h
      simp only [Option.some.injEq,Prod.mk.injEq] at ha
      obtain ⟨rfl,rfl⟩:=ha
      exact one rfl
     ·cases h
   |struct fs =>
    simp only at h
    split at h
    ·rename_i hlen
     rw [Option.map_eq_some_iff] at h
     obtain ⟨xs,hxs,he⟩:=h
     simp only [Prod.mk.injEq] at he
     obtain ⟨rfl,rfl⟩:=he
     simp only at ha
     split at ha
     ·rename_i hcov
      obtain ⟨q1,q2⟩:=mapM_some hxs
      have hfl:=parts_flatten cs fs.toList (fun fd=>fd.offset) (fun fd=>P.cellsOf fd.type) (by rw [hlen];exact hcov)
      have:=absL_sound (W:=W) (P:=P) (G:=G) ((fs.toList.map (·.type)).zip (xs.map (·.1))) (fs.toList.map fun fd=>(cs.drop fd.offset).take (P.cellsOf fd.type)) ι m m' l
       (by simp only [List.length_zip,List.length_map,q1,Nat.min_self]) (fun i t' d' cs' r1 r2 ι m m' l hs hro ha=>by
        rw [List.getElem?_zip_eq_some] at r1
        obtain ⟨r3,r4⟩:=r1
        rw [List.getElem?_map,Option.map_eq_some_iff] at r2 r3 r4
        obtain ⟨fd,s1,rfl⟩:=r2
        obtain ⟨fd',s2,rfl⟩:=r3
        obtain ⟨x,s3,rfl⟩:=r4
        rw [s1] at s2;cases s2
        obtain ⟨b,u1,u2⟩:=q2 i fd s1
        rw [s3] at u1;cases u1
        exact ih _ _ x.1 x.2 u2 ι m m' l hs hro ha) hs hro ha
      rw [hfl] at this
      exact this
     ·cases ha
    ·cases h
   |array n e =>
    simp only at h
    split at h
    ·rename_i hlen
     rw [Option.map_eq_some_iff] at h
     obtain ⟨xs,hxs,he⟩:=h
     simp only [Prod.mk.injEq] at he
     obtain ⟨rfl,rfl⟩:=he
     simp only at ha
     split at ha
     ·rename_i hcov
      obtain ⟨q1,q2⟩:=mapM_some hxs
      have hfl:=parts_flatten cs (List.range n) (fun i=>i*P.cellsOf e) (fun _=>P.cellsOf e) (by rw [hlen];exact hcov)
      have:=absL_sound (W:=W) (P:=P) (G:=G) ((xs.map (·.1)).map fun x=>(e,x)) ((List.range n).map fun i=>(cs.drop (i*P.cellsOf e)).take (P.cellsOf e)) ι m m' l
       (by simp only [List.length_map,q1]) (fun i t' d' cs' r1 r2 ι m m' l hs hro ha=>by
        rw [List.getElem?_map,List.getElem?_map] at r1
        rw [List.getElem?_map,Option.map_eq_some_iff] at r2
        obtain ⟨j,s1,rfl⟩:=r2
        simp only [Option.map_map,Option.map_eq_some_iff,Function.comp,Prod.mk.injEq] at r1
        obtain ⟨x,s3,rfl,rfl⟩:=r1
        obtain ⟨b,u1,u2⟩:=q2 i j s1
        rw [s3] at u1;cases u1
        exact ih _ _ x.1 x.2 u2 ι m m' l hs hro ha) hs hro ha
      rw [hfl] at this
      exact this
     ·cases ha
    ·cases h
   |slice e =>
    match cs,h with
    |[.slice none 0 0],h =>
     simp only [Option.some.injEq,Prod.mk.injEq] at h
     obtain ⟨rfl,rfl⟩:=h
     simp only [Option.some.injEq,Prod.mk.injEq] at ha
     obtain ⟨rfl,rfl⟩:=ha
     exact one rfl
    |[.slice (some a) len cap],h =>
     simp only [if_true] at h
     split at h
     ·rename_i hc
      rw [Option.bind_eq_some_iff] at h
      obtain ⟨elems,he,h⟩:=h
      rw [Option.map_eq_some_iff] at h
      obtain ⟨rest,hr,hd⟩:=h
      simp only [Prod.mk.injEq] at hd
      obtain ⟨rfl,rfl⟩:=hd
      simp only at ha
      split at ha
      ·cases ha
      ·rename_i hsz
       obtain ⟨q1,q2⟩:=mapM_some he
       obtain ⟨r1,r2⟩:=mapM_some hr
       rw [List.length_range] at q1 r1
       have cell:∀ i,i<cap→∃ ce,W.cells? 0 (a.add (i*P.cellsOf e)) (P.cellsOf e)=some ce:=fun i hi=>by
        by_cases h1:i<len
        ·obtain ⟨b,_,u2⟩:=q2 i i (List.getElem?_range h1)
         rw [Option.bind_eq_some_iff] at u2
         obtain ⟨ce,u3,_⟩:=u2
         exact ⟨ce,u3⟩
        ·obtain ⟨b,_,u2⟩:=r2 (i-len) (i-len) (List.getElem?_range (by omega))
         rw [Option.bind_eq_some_iff] at u2
         obtain ⟨ce,u3,_⟩:=u2
         exact ⟨ce,by rw [← u3];congr 3;omega⟩
       split at ha
       ·rename_i hemp
        simp only [Option.some.injEq,Prod.mk.injEq] at ha
        obtain ⟨rfl,rfl⟩:=ha
        simp only [Bool.and_eq_true,List.isEmpty_iff,List.map_eq_nil_iff] at hemp
        obtain ⟨e1,e2⟩:=hemp
        have hl0:len=0:=by rw [← q1,e1];rfl
        have hc0:cap=0:=by
         have:cap-len=0:=by rw [← r1,e2];rfl
         omega
        subst hl0;subst hc0
        exact ⟨ι,hs,Grow.refl _ _,hro,LRel.cons (.slE _ _ _ _) LRel.nil⟩
       ·rename_i hemp
        have hcap:0<cap:=by
         rcases Nat.eq_zero_or_pos cap with h|h
         ·exfalso
          subst h
          have e1:elems=[]:=List.length_eq_zero_iff.1 (by omega)
          have e2:rest=[]:=List.length_eq_zero_iff.1 (by omega)
          rw [e1,e2] at hemp
          simp at hemp
         ·exact h
        have hsz0:0<P.cellsOf e:=by omega
        obtain ⟨ce0,hce0⟩:=cell 0 hcap
        rw [Nat.zero_mul,Addr.add_zero'] at hce0
        obtain ⟨l0,c0⟩:=cells?_some hce0
        have hfirst:=c0 0 hsz0
        rw [Addr.add_zero',List.getElem?_eq_getElem (by omega:0<ce0.length)] at hfirst
        obtain ⟨c,off,spot⟩:=a
        have hspot:spot=none:=by
         unfold World.cell? at hfirst
         cases spot with
         |none=>rfl
         |some s=>split at hfirst<;>simp at hfirst
        subst hspot
        have hrow:∃ cs0 e' fr,W.heap[c]?=some (.cells cs0 e' fr):=by
         unfold World.cell? at hfirst
         simp only at hfirst
         split at hfirst
         ·rename_i cs0 e' fr hh;exact ⟨cs0,e',fr,hh⟩
         ·cases hfirst
        obtain ⟨cs0,e',fr,hrow⟩:=hrow
        have cellAt:∀ k,k<cap*P.cellsOf e→∃ v,cs0[off+k]?=some v:=fun k hk=>by
         have hi:k / P.cellsOf e<cap:=(Nat.div_lt_iff_lt_mul hsz0).2 hk
         obtain ⟨ce,hce⟩:=cell (k / P.cellsOf e) hi
         obtain ⟨l1,c1⟩:=cells?_some hce
         have hm:k % P.cellsOf e<P.cellsOf e:=Nat.mod_lt _ hsz0
         have h1:=c1 (k % P.cellsOf e) hm
         rw [addr_add,addr_add,cell_of_row hrow,List.getElem?_eq_getElem (by omega:k % P.cellsOf e<ce.length)] at h1
         have e1:off+k / P.cellsOf e*P.cellsOf e+k % P.cellsOf e=off+k:=by
          have:=Nat.div_add_mod' k (P.cellsOf e);omega
         rw [e1] at h1
         exact ⟨_,h1⟩
        let row:List Value:=(List.range (len*P.cellsOf e)).map fun k=>cs0.getD (off+k) undef
        have hrl:row.length=len*P.cellsOf e:=by simp [row]
        have hlc:len*P.cellsOf e≤cap*P.cellsOf e:=Nat.mul_le_mul_right _ hc.2.1
        have rowAt:∀ k,k<len*P.cellsOf e→row[k]?=cs0[off+k]?:=fun k hk=>by
         obtain ⟨v,hv⟩:=cellAt k (by omega)
         show ((List.range (len*P.cellsOf e)).map fun k=>cs0.getD (off+k) undef)[k]?=_
         rw [List.getElem?_map,List.getElem?_range hk,hv]
         simp [hv]
        split at ha
        ·rename_i l1 m1 habs
         simp only [Option.some.injEq,Prod.mk.injEq] at ha
         obtain ⟨rfl,rfl⟩:=ha
         have hop:=absL_sound (W:=W) (P:=P) (G:=G) ((elems.map (·.1)).map fun x=>(e,x)) ((List.range len).map fun i=>(row.drop (i*P.cellsOf e)).take (P.cellsOf e)) ι m m1 l1
          (by simp only [List.length_map,q1,List.length_range]) (fun i t' d' cs' u1 u2 ι m m' l hs hro ha=>by
           rw [List.getElem?_map,List.getElem?_map] at u1
           rw [List.getElem?_map,Option.map_eq_some_iff] at u2
           obtain ⟨j,s1,rfl⟩:=u2
           simp only [Option.map_map,Option.map_eq_some_iff,Function.comp,Prod.mk.injEq] at u1
           obtain ⟨x,s3,rfl,rfl⟩:=u1
           have hil:i<len:=by
            rcases Nat.lt_or_ge i len with h|h
            ·exact h
            ·rw [List.getElem?_eq_none (by simpa using h)] at s1;cases s1
           rw [List.getElem?_range hil] at s1
           cases s1
           obtain ⟨b,w1,w2⟩:=q2 i i (List.getElem?_range hil)
           rw [s3] at w1;cases w1
           rw [Option.bind_eq_some_iff] at w2
           obtain ⟨ce,w3,w4⟩:=w2
           obtain ⟨l2,c2⟩:=cells?_some w3
           have hce:ce=(row.drop (i*P.cellsOf e)).take (P.cellsOf e):=by
            apply List.ext_getElem?
            intro j
            by_cases hj:j<P.cellsOf e
            ·have h1:=c2 j hj
             rw [addr_add,addr_add,cell_of_row hrow] at h1
             rw [← h1,List.getElem?_take,if_pos hj,List.getElem?_drop,rowAt _ (by
              have:(i+1)*P.cellsOf e≤len*P.cellsOf e:=Nat.mul_le_mul_right _ (by omega)
              rw [Nat.succ_mul] at this;omega)]
             congr 1;omega
            ·rw [List.getElem?_eq_none (by omega),List.getElem?_take,if_neg hj]
           rw [← hce]
           exact ih _ _ x.1 x.2 w4 ι m m' l hs hro ha) hs hro habs
         rw [rows_flatten _ _ _ hrl] at hop
         obtain ⟨ι1,o1,o2,o3,o4⟩:=hop
         obtain ⟨ι2,p1,p2,p3,p4⟩:=open_block (e:=e) (sh:=off) (vs:=l1) o1 o3 hrow (fun i hi=>by
          obtain ⟨v',h1,h2⟩:=o4.get (List.getElem?_eq_getElem hi)
          refine ⟨v',?_,by rw [getD_lt hi];exact h2⟩
          have hil:i<len*P.cellsOf e:=by rw [← hrl,← o4.1];exact hi
          rw [← rowAt i hil];exact h1)
         refine ⟨ι2,p1,o2.trans p3,p4,LRel.cons ?_ LRel.nil⟩
         rw [show (elems.map (·.1)).length=len from by rw [List.length_map,q1]]
         refine .sl _ _ _ _ _ _ ⟨_,p2,Nat.zero_le _,?_,fun _=>⟨rfl,rfl,.inr ⟨(Nat.zero_add off).symm,?_⟩⟩⟩
         ·exact hc.2.1
         ·simp only
          obtain ⟨v,hv⟩:=cellAt (cap*P.cellsOf e-1) (by
           have:0<cap*P.cellsOf e:=Nat.mul_pos hcap hsz0
           omega)
          have:=(Array.getElem?_eq_some_iff.1 hv).1
          have hp:0<cap*P.cellsOf e:=Nat.mul_pos hcap hsz0
          omega
        ·cases ha
     ·cases h
   |_=>simp at ha
end Go.Am
set_option linter.unusedSimpArgs false
set_option linter.unusedVariables false
namespace Go.Am
variable {P:Program} {G:List Nat}
theorem absL_mono {H:Type} {g g':TypeId→DataW H→Mem→Option (List Value×Mem)} (hg:∀ t d m r,g t d m=some r→g' t d m=some r) :
 ∀ (xs:List (TypeId×DataW H)) (m:Mem) (r:List Value×Mem),absL g xs m=some r→absL g' xs m=some r
 |[],m,r,h=>h
 |(t,d)::xs,m,r,h=>by
  simp only [absL] at h ⊢
  cases h1:g t d m with
  |none=>rw [h1] at h;cases h
  |some a =>
   rw [h1] at h
   rw [hg _ _ _ _ h1]
   simp only at h ⊢
   cases h2:absL g xs a.2 with
   |none=>rw [h2] at h;cases h
   |some b =>
    rw [h2] at h
    rw [absL_mono hg xs _ _ h2]
    exact h
theorem absD_succ {H:Type}:∀ (f:Nat) (t:TypeId) (d:DataW H) (m:Mem) (r:List Value×Mem),absD P f t d m=some r→absD P (f+1) t d m=some r
 |0,_,_,_,_,h=>by cases h
 |f+1,t,d,m,r,h=>by
  have ih:=fun t d m r=>absD_succ (H:=H) f t d m r
  unfold absD at h ⊢
  split at h
  all_goals try exact h
  all_goals try (cases h;done)
  all_goals split at h
  all_goals try (cases h;done)
  all_goals rename_i h0
  ·simp only [if_neg h0]
   split at h
   ·rename_i h1;simp only [if_pos h1];exact h
   ·rename_i h1
    simp only [if_neg h1]
    split at h
    ·rename_i l m1 h2
     rw [absL_mono ih _ _ _ h2]
     exact h
    ·cases h
  ·simp only [if_pos h0];exact absL_mono ih _ _ _ h
  ·simp only [if_pos h0];exact absL_mono ih _ _ _ h
theorem absD_le {H:Type} {f g:Nat} {t:TypeId} {d:DataW H} {m:Mem} {r:List Value×Mem} (hfg:f≤g) (h:absD P f t d m=some r):absD P g t d m=some r:=by
 induction hfg with
 |refl=>exact h
 |step _ ih=>exact absD_succ _ _ _ _ _ ih
theorem trod_open {H:Type} {enc:TypeId×Value→H} {W:World} {held:Bool} {t:TypeId} {v:Value} {d:DataW H} {ps:List MemPlace} (h:DataW.Trod enc P W 0 (fun _=>true) held t v d ps)
 {F:Nat} {ι:Inj} {m m':Mem} {l:List Value} (hs:Sim P G ι m W) (hro:AllRo m) (ha:absD P F t d m=some (l,m')):OpenedTo P G W ι m l m' v.cells.toList:=by
 obtain ⟨f,hf⟩:=h
 exact absD_sound (max f F) t _ d ps (DataW.trod_le (Nat.le_max_left _ _) hf) ι m m' l hs hro (absD_le (Nat.le_max_right _ _) ha)
def packT (P:Program) (t:TypeId) (l:List Value):Option Value :=
 match P.underlying t,l with
 |some (.struct _),l=>some (.agg ⟨l⟩)
 |some (.array _ _),l=>some (.agg ⟨l⟩)
 |some .bool,[v]|some (.int _),[v]|some .string,[v]|some (.slice _),[v]=>some v
 |_,_=>none
def absArgs {H:Type} (P:Program) (F:Nat):List TypeId→List (DataW H)→Mem→Option (List Value×Mem)
 |[],[],m=>some ([],m)
 |t::ts,d::ds,m=>match absD P F t d m with
  |some (l,m1)=>match packT P t l with
   |some v=>match absArgs P F ts ds m1 with
    |some (r,m2)=>some (v::r,m2)
    |none=>none
   |none=>none
  |none=>none
 |_,_,_=>none
theorem pack_rel {W:World} {r:Go.Reach} {b0:Nat} {ι:Inj} {g:Nat→Nat} {t:TypeId} {v x:Value} {l:List Value} (hv:Value.okWide P W r b0 t v) (hp:packT P t l=some x)
 (hl:LRel ι g l v.cells.toList):VRel ι g x v:=by
 unfold packT at hp
 split at hp
 ·rename_i hu
  cases hp
  simp only [Value.okWide,hu] at hv
  obtain ⟨⟨cs⟩,rfl,-⟩:=hv
  exact .agg _ _ hl.1 hl.2
 ·rename_i hu
  cases hp
  simp only [Value.okWide,hu] at hv
  obtain ⟨⟨cs⟩,rfl,-⟩:=hv
  exact .agg _ _ hl.1 hl.2
 all_goals first
  |(rename_i hu
    cases hp
    simp only [Value.okWide,hu,Cell.okWide] at hv
    have hc:v.cells=#[v]:=by cases v<;>simp_all [Cell.ok,Value.cells]
    rw [hc] at hl
    have:=hl.2 0 (by simp)
    simpa using this)
  |cases hp
theorem args_open {H:Type} {enc:TypeId×Value→H} {W:World} {held:Bool} {r:Go.Reach} {b0:Nat} {F:Nat}:∀ (ts:List TypeId) (vs:List Value) (ds:List (DataW H)) (ps:List MemPlace),
 DataW.TrodAll enc P W 0 (fun _=>true) held ts vs ds ps→(∀ (j:Nat) t v,ts[j]?=some t→vs[j]?=some v→Value.okWide P W r b0 t v) →
 ∀ (ι:Inj) (m m':Mem) (as:List Value),Sim P G ι m W→AllRo m→absArgs P F ts ds m=some (as,m')→OpenedTo P G W ι m as m' vs
 |[],[],[],ps,h,hv,ι,m,m',as,hs,hro,ha=>by
  cases ha
  exact ⟨ι,hs,Grow.refl _ _,hro,LRel.nil⟩
 |t::ts,v::vs,d::ds,ps,h,hv,ι,m,m',as,hs,hro,ha=>by
  obtain ⟨p,q,h1,h2,-⟩:=h
  simp only [absArgs] at ha
  split at ha
  ·rename_i l m1 e1
   split at ha
   ·rename_i x e2
    split at ha
    ·rename_i r' m2 e3
     cases ha
     obtain ⟨ι1,o1,o2,o3,o4⟩:=trod_open h1 hs hro e1
     obtain ⟨ι2,p1,p2,p3,p4⟩:=args_open ts vs ds q h2 (fun j t v ht hv'=>hv (j+1) t v (by simpa using ht) (by simpa using hv')) ι1 m1 _ r' o1 o3 e3
     exact ⟨ι2,p1,o2.trans p2,p3,LRel.cons ((pack_rel (hv 0 t v rfl rfl) e2 o4).mono p2.le) p4⟩
    ·cases ha
   ·cases ha
  ·cases ha
 |[],[],_::_,ps,h,_,_,_,_,_,_,_,_=>h.elim
 |[],_::_,_,ps,h,_,_,_,_,_,_,_,_=>h.elim
 |_::_,[],_,ps,h,_,_,_,_,_,_,_,_=>h.elim
 |_::_,_::_,[],ps,h,_,_,_,_,_,_,_,_=>h.elim
def allocs (m:Mem):List ABlk→Mem
 |[]=>m
 |b::r=>allocs (m.alloc b) r
theorem size_allocs:∀ (l:List ABlk) (m:Mem),(allocs m l).size=m.size+l.length
 |[],m=>rfl
 |b::r,m=>by rw [allocs,size_allocs r];simp [Mem.alloc];omega
theorem get_allocs:∀ (l:List ABlk) (m:Mem) (b:Nat),(allocs m l).get b=if b<m.size then m.get b else match l[b-m.size]? with|some x=>x|none=>m.get b
 |[],m,b=>by simp [allocs]
 |x::r,m,b=>by
  rw [allocs,get_allocs r,Mem.get_alloc]
  have hsz:(m.alloc x).size=m.size+1:=rfl
  rw [hsz]
  by_cases h1:b<m.size
  ·rw [if_pos (by omega),if_pos h1,if_neg (by omega)]
  ·by_cases h2:b=m.size
   ·subst h2;simp
   ·rw [if_neg (by omega),if_neg h1,if_neg (by omega)]
    have:b-m.size=(b-(m.size+1))+1:=by omega
    rw [this,List.getElem?_cons_succ]
def empty:Mem:=⟨.leaf,0,0⟩
def absP (P:Program) (F:Nat) (t:TypeId) (d:DataW Unit):Option (List Value) :=
 match absD P F t d empty with
 |some (l,_)=>if l.all plainCell then some l else none
 |none=>none
def elemT (P:Program) (t:TypeId):TypeId:=match P.underlying t with|some (.array _ e)=>e|_=>t
def globAt (P:Program) (F:Nat) (laid:List (String×DataW Unit)) (k:Nat):Option (TypeId×List Value) :=
 match laid.find? (fun x=>P.globalNamed x.1==some k),P.globals[k]? with
 |some x,some g=>(absP P F g.type x.2).map fun l=>(elemT P g.type,l)
 |_,_=>none
def globMem (P:Program) (F:Nat) (laid:List (String×DataW Unit)):Mem :=
 allocs empty ((List.range P.globals.size).map fun k=>match globAt P F laid k with
  |some (e,l)=>.cells l e 0 true
  |none=>.cells [] 0 0 true)
def globList (P:Program) (F:Nat) (laid:List (String×DataW Unit)):List Nat:=(List.range P.globals.size).filter fun k=>(globAt P F laid k).isSome
theorem laid_at {W:World}:∀ {laid:List (String×DataW Unit)} {ps:List MemPlace},DataW.LaidVars P W laid ps→∀ x∈laid,∃ g t cs fuel p,P.globalNamed x.1=some g∧(P.globals[g]?).map (·.type)=some t ∧
 W.var? P x.1=some cs∧DataW.trod (fun _=>()) P W 0 (fun _=>true) false fuel t cs.toList=some (x.2,p)
 |[],_,_,x,hx=>by cases hx
 |(n,d)::r,ps,h,x,hx=>by
  obtain ⟨g,t,cs,fuel,p,q,h1,h2,h3,h4,h5,-⟩:=h
  rcases List.mem_cons.1 hx with rfl|hx
  ·exact ⟨g,t,cs,fuel,p,h1,h2,h3,h4⟩
  ·exact laid_at h5 x hx
theorem emptySim (W:World):Sim P [] (fun _=>none) empty W :=
 ⟨fun _ _ h=>(by cases h),fun _ _ h=>(by cases h),fun _ _ _ _ h=>(by cases h),fun _ h=>(by cases h)⟩
theorem glob_cells {F:Nat} {laid:List (String×DataW Unit)} {W:World} (hL:laidMet P laid W) {k:Nat} {e:TypeId} {l:List Value} (hk:globAt P F laid k=some (e,l)) :
 l.all plainCell=true∧∃ cs e' fr,W.heap[k]?=some (.cells cs e' fr)∧cs.toList=l:=by
 obtain ⟨ps,hL,-⟩:=hL
 unfold globAt at hk
 split at hk
 ·rename_i x g hx hg
  rw [Option.map_eq_some_iff] at hk
  obtain ⟨l',h1,h2⟩:=hk
  cases h2
  have hmem:=List.mem_of_find?_eq_some hx
  have hn:P.globalNamed x.1=some k:=by simpa using List.find?_some hx
  obtain ⟨g',t,cs,fuel,p,q1,q2,q3,q4⟩:=laid_at hL x hmem
  obtain rfl:g'=k:=Option.some.inj (q1.symm.trans hn)
  have ht:t=g.type:=by rw [hg] at q2;exact (Option.some.inj q2).symm
  subst ht
  unfold absP at h1
  split at h1
  ·rename_i l2 m' ha
   split at h1
   ·rename_i hp
    cases h1
    obtain ⟨ι',o1,o2,o3,o4⟩:=absD_sound (G:=[]) (max fuel F) _ _ _ _ (DataW.trod_le (Nat.le_max_left _ _) q4) (fun _=>none) empty _ _ (emptySim W) (fun b hb=>by cases hb) (absD_le (Nat.le_max_right _ _) ha)
    refine ⟨hp,?_⟩
    have hcs:cs.toList=l:=by
     apply List.ext_getElem?
     intro i
     by_cases hi:i<l.length
     ·obtain ⟨v',h1,h2⟩:=o4.get (List.getElem?_eq_getElem hi)
      rw [h1,List.getElem?_eq_getElem hi,h2.eq_of_plainCell (List.all_eq_true.1 hp _ (List.getElem_mem hi))]
     ·rw [List.getElem?_eq_none (by have:=o4.1;omega),List.getElem?_eq_none (by omega)]
    simp only [World.var?,q1,Option.bind_some] at q3
    split at q3
    ·rename_i cs' e' fr hh
     cases q3
     exact ⟨cs,e',fr,hh,hcs⟩
    ·cases q3
   ·cases h1
  ·cases h1
 ·cases hk
theorem glob_open {F:Nat} {laid:List (String×DataW Unit)} {W:World} (hL:laidMet P laid W):∃ ι,Sim P (globList P F laid) ι (globMem P F laid) W∧AllRo (globMem P F laid):=by
 have hsz:(globMem P F laid).size=P.globals.size:=by rw [globMem,size_allocs];simp [empty]
 have hget:∀ k,k<P.globals.size→(globMem P F laid).get k=match globAt P F laid k with|some (e,l)=>.cells l e 0 true|none=>.cells [] 0 0 true:=fun k hk=>by
  rw [globMem,get_allocs,if_neg (by simp [empty])]
  simp only [empty,Nat.sub_zero,List.getElem?_map,List.getElem?_range hk,Option.map_some]
 have hro:AllRo (globMem P F laid):=fun b hb=>by
  have h:=hget b (hsz▸hb)
  split at h<;>exact Mem.ro_eq h
 let ι:Inj:=fun k=>match globAt P F laid k,W.heap[k]? with
  |some (e,l),some (.cells cs _ _)=>if k<P.globals.size then some ⟨k,0,cs.size,P.cellsOf e⟩ else none
  |_,_=>none
 have hι:∀ k ib,ι k=some ib→k<P.globals.size∧∃ e l cs e' fr,globAt P F laid k=some (e,l)∧W.heap[k]?=some (.cells cs e' fr)∧ib=⟨k,0,cs.size,P.cellsOf e⟩:=fun k ib h=>by
  simp only [ι] at h
  split at h
  ·rename_i e l cs e' fr h1 h2
   split at h
   ·rename_i h3
    cases h
    exact ⟨h3,e,l,cs,e',fr,h1,h2,rfl⟩
   ·cases h
  ·cases h
 refine ⟨ι,⟨fun k ib h=>?_,fun k ib h=>?_,fun k k' ib ib' h h' _=>?_,fun k hk=>?_⟩,hro⟩
 ·obtain ⟨h1,e,l,cs,e',fr,h2,h3,rfl⟩:=hι k ib h
  exact ⟨hsz▸h1,(Array.getElem?_eq_some_iff.1 h3).1⟩
 ·obtain ⟨h1,e,l,cs,e',fr,h2,h3,rfl⟩:=hι k ib h
  have hg:=hget k h1
  rw [h2] at hg
  simp only at hg
  obtain ⟨hp,cs',e2,fr2,h4,h5⟩:=glob_cells hL h2
  rw [h3] at h4
  cases h4
  simp only [hg,h3]
  refine ⟨fun h=>(by cases h),rfl,rfl,fun i hi=>?_,fun h=>(by cases h)⟩
  refine ⟨l.getD i undef,?_,VRel.plainCell (List.all_eq_true.1 hp _ (getD_mem hi))⟩
  rw [Nat.zero_add,← Array.getElem?_toList,h5,getD_lt hi]
  exact List.getElem?_eq_getElem hi
 ·exact .inr ⟨hro k (hsz▸(hι k ib h).1),hro k' (hsz▸(hι k' ib' h').1)⟩
 ·simp only [globList,List.mem_filter,List.mem_range] at hk
  obtain ⟨h1,h2⟩:=hk
  obtain ⟨⟨e,l⟩,h3⟩:=Option.isSome_iff_exists.1 h2
  obtain ⟨hp,cs,e',fr,h4,h5⟩:=glob_cells hL h3
  refine ⟨⟨k,0,cs.size,P.cellsOf e⟩,?_,rfl,⟨rfl,fun vs e2 g ro hg=>?_⟩,?_,hro k (hsz▸h1)⟩
  ·simp only [ι,h3,h4,if_pos h1]
  ·have hg':=hget k h1
   rw [h3] at hg'
   rw [hg'] at hg
   cases hg
   rw [← h5];rfl
  ·have hg:=hget k h1
   rw [h3] at hg
   simp only [Mem.gen,hg,ABlk.gen]
theorem law_calls {H:Type} {enc:TypeId×Value→H} {W:World} {held:Bool} {r:Go.Reach} {b0 F N D:Nat} {laid:List (String×DataW Unit)} {O:Oracle} {f:FuncId} {ts:List TypeId} {args:Array Value}
 {ds:List (DataW H)} {ps:List MemPlace} (hL:laidMet P laid W) (hA:DataW.TrodAll enc P W 0 (fun _=>true) held ts args.toList ds ps)
 (hv:∀ (j:Nat) t v,ts[j]?=some t→args.toList[j]?=some v→Value.okWide P W r b0 t v)
 (hO:OSound P (globList P F laid) O) (hmix:P.follows .mixedOrders=true) {as:List Value} {m1:Mem} {m':Mem} {b:Bool}
 (ha:absArgs P F ts ds (globMem P F laid)=some (as,m1)) (hc:acall P O (globList P F laid) N D f as m1=some (.bool b,m')) :
 Calls P f args W fun e W'=>e=.returned (.bool b)∧Go.RowKit.Below W.heap.size W W':=by
 obtain ⟨ι,hs,hro⟩:=glob_open (F:=F) hL
 obtain ⟨ι1,o1,o2,o3,o4⟩:=args_open ts _ ds ps hA hv ι _ m1 as hs hro ha
 refine ((acall_sound hO hmix D f).1 as m1 _ m' hc ι1 W args o1 o4).mono fun e W' ⟨v',he,ι2,hx,hs2,hvr⟩=>?_
 have:=hvr.eq_of_plain (v:=.bool b) rfl
 subst this
 exact ⟨he,⟨hx.os,hx.tape,hx.output,hx.heap,fun c hcl=>hx.frame c hcl fun b ib hb _=>.inl (o3 b (o1.dom b ib hb).1)⟩⟩
end Go.Am
set_option linter.unusedSimpArgs false
set_option linter.unusedVariables false
namespace Go.Am
variable {P:Program} {G:List Nat} {O:Oracle}
def Ev {α β:Type} (F:Nat→Nat→Option (α×β)) (Q:α→β→Prop):Prop:=∃ a b,(∃ K,∀ N D,K≤N→K≤D→F N D=some (a,b))∧Q a b
def ACalls (P:Program) (O:Oracle) (G:List Nat) (f:FuncId) (as:List Value) (m:Mem) (Q:Value→Mem→Prop):Prop :=
 Ev (fun N D=>acall P O G N D f as m) Q
def AWp (P:Program) (O:Oracle) (G:List Nat) (c:Code) (s:St) (Q:AExit→St→Prop):Prop :=
 Ev (fun N D=>aexec P (acall P O G N D) N c s) Q
def AVal (P:Program) (O:Oracle) (G:List Nat) (o:Oper) (s:St) (Q:Value→Mem→Prop):Prop :=
 Ev (fun N D=>aval P (acall P O G N D) (ev s.t) o s.m) Q
theorem Ev.mono {α β:Type} {F:Nat→Nat→Option (α×β)} {Q R:α→β→Prop} (h:Ev F Q) (hq:∀ a b,Q a b→R a b):Ev F R:=by
 obtain ⟨a,b,h,q⟩:=h
 exact ⟨a,b,h,hq _ _ q⟩
theorem Ev.now {α β:Type} {F:Nat→Nat→Option (α×β)} {Q:α→β→Prop} {a:α} {b:β} (h:∀ N D,F N D=some (a,b)) (q:Q a b):Ev F Q:=⟨a,b,⟨0,fun N D _ _=>h N D⟩,q⟩
theorem AWp.seq {a b:Code} {s:St} {Q:AExit→St→Prop} (ha:AWp P O G a s fun e s'=>match e with| .normal=>AWp P O G b s' Q|e=>Q e s'):AWp P O G (.seq a b) s Q:=by
 obtain ⟨e,s',⟨K,h⟩,q⟩:=ha
 cases e with
 |normal =>
  obtain ⟨e2,s2,⟨K2,h2⟩,q2⟩:=q
  refine ⟨e2,s2,⟨max K K2,fun N D hN hD=>?_⟩,q2⟩
  have:=h N D (by omega) (by omega)
  simp only [aexec,this]
  exact h2 N D (by omega) (by omega)
 |ret=>exact ⟨_,s',⟨K,fun N D hN hD=>by simp only [aexec,h N D hN hD]⟩,q⟩
 |exit i=>exact ⟨_,s',⟨K,fun N D hN hD=>by simp only [aexec,h N D hN hD]⟩,q⟩
theorem AWp.skip {s:St} {Q:AExit→St→Prop} (h:Q .normal s):AWp P O G .skip s Q:=Ev.now (fun _ _=>rfl) h
theorem AWp.label {n} {s:St} {Q:AExit→St→Prop} (h:Q .normal s):AWp P O G (.label n) s Q:=Ev.now (fun _ _=>rfl) h
theorem AWp.ret {s:St} {Q:AExit→St→Prop} (h:Q .ret s):AWp P O G .ret s Q:=Ev.now (fun _ _=>rfl) h
theorem AWp.exit {id:Nat} {s:St} {Q:AExit→St→Prop} (h:Q (.exit id) s):AWp P O G (.exit id) s Q:=Ev.now (fun _ _=>rfl) h
theorem AWp.cond {c:Operand} {a b:Code} {s:St} {Q:AExit→St→Prop} (t:Bool) (hc:ev s.t c=.bool t) (ht:t=true→AWp P O G a s Q) (hf:t=false→AWp P O G b s Q) :
 AWp P O G (.cond c a b) s Q:=by
 cases t
 ·obtain ⟨e,s',⟨K,h⟩,q⟩:=hf rfl
  exact ⟨e,s',⟨K,fun N D hN hD=>by simp only [aexec,hc];exact h N D hN hD⟩,q⟩
 ·obtain ⟨e,s',⟨K,h⟩,q⟩:=ht rfl
  exact ⟨e,s',⟨K,fun N D hN hD=>by simp only [aexec,hc];exact h N D hN hD⟩,q⟩
theorem AWp.block {id:Nat} {b:Code} {s:St} {Q:AExit→St→Prop} (h:AWp P O G b s fun e s'=>match e with| .exit i=>if i=id then Q .normal s' else Q (.exit i) s'|e=>Q e s'):AWp P O G (.block id b) s Q:=by
 obtain ⟨e,s',⟨K,h⟩,q⟩:=h
 cases e with
 |normal=>exact ⟨_,s',⟨K,fun N D hN hD=>by simp only [aexec,h N D hN hD]⟩,q⟩
 |ret=>exact ⟨_,s',⟨K,fun N D hN hD=>by simp only [aexec,h N D hN hD]⟩,q⟩
 |exit i =>
  simp only at q
  split at q
  ·rename_i hi
   exact ⟨_,s',⟨K,fun N D hN hD=>by simp only [aexec,h N D hN hD,if_pos hi]⟩,q⟩
  ·rename_i hi
   exact ⟨_,s',⟨K,fun N D hN hD=>by simp only [aexec,h N D hN hD,if_neg hi]⟩,q⟩
theorem AWp.loop {b:Code} {s:St} {Q:AExit→St→Prop} (I:Nat→St→Prop) (n:Nat) (h0:I n s)
 (hstep:∀ n s,I n s→AWp P O G b s fun e s'=>match e with| .normal=>∃ n',n'<n∧I n' s'|e=>Q e s'):AWp P O G (.loop b) s Q:=by
 have key:∀ n s,I n s→∃ e s',(∃ K,∀ N D k,K≤N→K≤D→K≤k→iterate (aexec P (acall P O G N D) N b) k s=some (e,s'))∧Q e s':=by
  intro n
  induction n using Nat.strongRecOn with
  |_ n ih =>
   intro s hI
   obtain ⟨e,s',⟨K,h⟩,q⟩:=hstep n s hI
   cases e with
   |normal =>
    obtain ⟨n',hn,hI'⟩:=q
    obtain ⟨e2,s2,⟨K2,h2⟩,q2⟩:=ih n' hn s' hI'
    refine ⟨e2,s2,⟨max K K2+1,fun N D k hN hD hk=>?_⟩,q2⟩
    obtain ⟨k,rfl⟩:∃ j,k=j+1:=⟨k-1,by omega⟩
    simp only [iterate,h N D (by omega) (by omega)]
    exact h2 N D k (by omega) (by omega) (by omega)
   |ret =>
    refine ⟨_,s',⟨K+1,fun N D k hN hD hk=>?_⟩,q⟩
    obtain ⟨k,rfl⟩:∃ j,k=j+1:=⟨k-1,by omega⟩
    simp only [iterate,h N D (by omega) (by omega)]
   |exit i =>
    refine ⟨_,s',⟨K+1,fun N D k hN hD hk=>?_⟩,q⟩
    obtain ⟨k,rfl⟩:∃ j,k=j+1:=⟨k-1,by omega⟩
    simp only [iterate,h N D (by omega) (by omega)]
 obtain ⟨e,s',⟨K,h⟩,q⟩:=key n s h0
 exact ⟨e,s',⟨K,fun N D hN hD=>by simp only [aexec];exact h N D N hN hD hN⟩,q⟩
def AOps (P:Program) (O:Oracle) (G:List Nat) (ops:Array Oper) (l:List Oper) (s:St) (Q:St→Prop):Prop :=
 ∃ s',(∃ K,∀ N D,K≤N→K≤D→asteps P (acall P O G N D) ops l s=some s')∧Q s'
def AOpsD (P:Program) (O:Oracle) (G:List Nat) (ops:Array Oper) (i:Nat) (l:List Oper) (s:St) (Q:St→Prop):Prop :=
 ∃ s',(∃ K,∀ N D,K≤N→K≤D→dsteps P (acall P O G N D) ops i l s=some s')∧Q s'
theorem AWp.region {id:Nat} {ops:Array Oper} {s:St} {Q:AExit→St→Prop} (h:AOps P O G ops ops.toList s (Q .normal)):AWp P O G (.region id ops false) s Q:=by
 obtain ⟨s',⟨K,h⟩,q⟩:=h
 exact ⟨_,s',⟨K,fun N D hN hD=>by simp only [aexec,h N D hN hD,Option.map_some]⟩,q⟩
theorem AWp.regionD {id:Nat} {ops:Array Oper} {s:St} {Q:AExit→St→Prop} (h:AOpsD P O G ops 0 ops.toList s (Q .normal)):AWp P O G (.region id ops true) s Q:=by
 obtain ⟨s',⟨K,h⟩,q⟩:=h
 exact ⟨_,s',⟨K,fun N D hN hD=>by simp only [aexec,h N D hN hD,Option.map_some]⟩,q⟩
theorem AOps.nil {ops:Array Oper} {s:St} {Q:St→Prop} (h:Q s):AOps P O G ops [] s Q:=⟨_,⟨0,fun _ _ _ _=>rfl⟩,h⟩
theorem AOpsD.nil {ops:Array Oper} {i:Nat} {s:St} {Q:St→Prop} (h:Q s):AOpsD P O G ops i [] s Q:=⟨_,⟨0,fun _ _ _ _=>rfl⟩,h⟩
theorem AOps.cons {ops:Array Oper} {o:Oper} {l:List Oper} {s:St} {Q:St→Prop} (hw:Region.wanted o (ayielded ops s.t)=true)
 (h:AVal P O G o s fun v m'=>AOps P O G ops l { t:=tput s.t o.dst v,m:=m' } Q):AOps P O G ops (o::l) s Q:=by
 obtain ⟨v,m',⟨K,h⟩,s',⟨K2,h2⟩,q⟩:=h
 refine ⟨s',⟨max K K2,fun N D hN hD=>?_⟩,q⟩
 simp only [asteps,astep,hw,if_true,aact,h N D (by omega) (by omega)]
 exact h2 N D (by omega) (by omega)
theorem AOps.skip {ops:Array Oper} {o:Oper} {l:List Oper} {s:St} {Q:St→Prop} (hw:Region.wanted o (ayielded ops s.t)=false)
 (h:AOps P O G ops l { t:=tput s.t o.dst undef,m:=s.m } Q):AOps P O G ops (o::l) s Q:=by
 obtain ⟨s',⟨K2,h2⟩,q⟩:=h
 refine ⟨s',⟨K2,fun N D hN hD=>?_⟩,q⟩
 simp only [asteps,astep,hw]
 exact h2 N D (by omega) (by omega)
def Mem.at (m:Mem) (k:Nat):Mem:={ m with low:=k }
@[simp] theorem Mem.at_get (m:Mem) (k b:Nat):(m.at k).get b=m.get b:=rfl
@[simp] theorem Mem.at_size (m:Mem) (k:Nat):(m.at k).size=m.size:=rfl
@[simp] theorem Mem.at_low (m:Mem) (k:Nat):(m.at k).low=k:=rfl
@[simp] theorem Mem.at_at (m:Mem) (k j:Nat):(m.at k).at j=m.at j:=rfl
theorem AOpsD.cons {ops:Array Oper} {i:Nat} {o:Oper} {l:List Oper} {s:St} {Q:St→Prop} (hw:Region.wanted o (ayielded ops s.t)=true)
 (h:AVal P O G o { t:=s.t,m:=s.m.at s.m.size } fun v m'=>(barrier P ops i=true∨s.m.size≤m'.low∨(wbar P ops i=true∧freeAt ops i s.t=true))∧AOpsD P O G ops (i+1) l { t:=tput s.t o.dst v,m:=m'.at (min s.m.low m'.low) } Q) :
 AOpsD P O G ops i (o::l) s Q:=by
 obtain ⟨v,m',⟨K,h⟩,hb,s',⟨K2,h2⟩,q⟩:=h
 refine ⟨s',⟨max K K2,fun N D hN hD=>?_⟩,q⟩
 have h1:=h N D (by omega) (by omega)
 simp only [Mem.at] at h1
 have hb':(barrier P ops i||decide (s.m.size≤m'.low)||(wbar P ops i&&freeAt ops i s.t))=true:=by
  rcases hb with h|h|⟨h1,h2⟩
  ·rw [h];rfl
  ·rw [decide_eq_true h];simp
  ·rw [h1,h2];simp
 simp only [dsteps,dstep,astep,hw,if_true,aact,h1,hb']
 exact h2 N D (by omega) (by omega)
theorem AOpsD.skip {ops:Array Oper} {i:Nat} {o:Oper} {l:List Oper} {s:St} {Q:St→Prop} (hw:Region.wanted o (ayielded ops s.t)=false)
 (h:AOpsD P O G ops (i+1) l { t:=tput s.t o.dst undef,m:=s.m.at (min s.m.low s.m.size) } Q):AOpsD P O G ops i (o::l) s Q:=by
 obtain ⟨s',⟨K2,h2⟩,q⟩:=h
 refine ⟨s',⟨K2,fun N D hN hD=>?_⟩,q⟩
 have hb':(barrier P ops i||decide (s.m.size≤s.m.size)||(wbar P ops i&&freeAt ops i s.t))=true:=by simp
 simp only [dsteps,dstep,astep,hw]
 simp only [Bool.false_eq_true,if_false,hb',if_true]
 exact h2 N D (by omega) (by omega)
theorem AVal.op {o:Oper} {s:St} {Q:Value→Mem→Prop} {v:Value} {m':Mem} (hc:∀ call,aval P call (ev s.t) o s.m=some (v,m')) (q:Q v m'):AVal P O G o s Q:=Ev.now (fun _ _=>hc _) q
theorem AVal.call {o:Oper} {s:St} {Q:Value→Mem→Prop} {f:FuncId} {as:List Value} (hc:∀ call:CallF,aval P call (ev s.t) o s.m=call f as s.m) (h:ACalls P O G f as s.m Q):AVal P O G o s Q:=by
 obtain ⟨v,m',⟨K,h⟩,q⟩:=h
 exact ⟨v,m',⟨K,fun N D hN hD=>(hc _).trans (h N D hN hD)⟩,q⟩
theorem ACalls.enter {f:FuncId} {fn:Func} {c:Code} {as:List Value} {m:Mem} {Q:Value→Mem→Prop} (ho:O f=none) (hf:P.funcs[f]?=some fn) (hb:fn.body=some c) (hok:fnOk G fn c=true) (hn:as.length≤fn.ntmps)
 (h:AWp P O G c { t:=tmpsOf 0 as .leaf,m:=m } fun e s=>match e with| .exit _=>False|_=>∃ v,resultsOf P fn s=some v∧Q v s.m):ACalls P O G f as m Q:=by
 obtain ⟨e,s,⟨K,h⟩,q⟩:=h
 have:∃ v,resultsOf P fn s=some v∧Q v s.m∧(e=.normal∨e=.ret):=by
  cases e with
  |normal=>obtain ⟨v,h1,h2⟩:=q;exact ⟨v,h1,h2,.inl rfl⟩
  |ret=>obtain ⟨v,h1,h2⟩:=q;exact ⟨v,h1,h2,.inr rfl⟩
  |exit i=>exact q.elim
 obtain ⟨v,h1,h2,h3⟩:=this
 refine ⟨v,s.m,⟨K+1,fun N D hN hD=>?_⟩,h2⟩
 obtain ⟨D,rfl⟩:∃ j,D=j+1:=⟨D-1,by omega⟩
 have hx:=h N D (by omega) (by omega)
 rcases h3 with rfl|rfl<;>simp only [acall,ho,Option.bind_none,hf,hb,hok,decide_eq_true hn,Bool.and_self,if_true,hx,h1,Option.map_some]
theorem ACalls.oracle {f:FuncId} {F:List Value→Mem→Option (Value×Mem)} {as:List Value} {m m':Mem} {v:Value} {Q:Value→Mem→Prop} (ho:O f=some F) (h:F as m=some (v,m')) (q:Q v m'):ACalls P O G f as m Q:=by
 refine ⟨v,m',⟨1,fun N D hN hD=>?_⟩,q⟩
 obtain ⟨D,rfl⟩:∃ j,D=j+1:=⟨D-1,by omega⟩
 simp only [acall,ho,Option.bind_some,h]
structure Fr (m m':Mem):Prop where
 size:m.size≤m'.size
 get:∀ b,b<m.size→m'.get b=m.get b
 low:min m.low m.size≤m'.low
theorem Fr.refl (m:Mem):Fr m m:=⟨Nat.le_refl _,fun _ _=>rfl,Nat.min_le_left _ _⟩
theorem Fr.trans {a b c:Mem} (h:Fr a b) (k:Fr b c):Fr a c :=
 ⟨Nat.le_trans h.size k.size,fun i hi=>(k.get i (Nat.lt_of_lt_of_le hi h.size)).trans (h.get i hi),by have:=h.low;have:=k.low;have:=h.size;omega⟩
theorem Fr.alloc (m:Mem) (x:ABlk):Fr m (m.alloc x):=⟨by simp [Mem.alloc],fun b hb=>by rw [Mem.get_alloc,if_neg (by omega)],by simp only [Mem.alloc];exact Nat.min_le_left _ _⟩
theorem Fr.put {m m':Mem} {b:Nat} (h:Fr m m') (hb:m.size≤b) (x:ABlk):Fr m (m'.put b x) :=
 ⟨h.size,fun c hc=>by rw [Mem.get_put,if_neg (by omega)];exact h.get c hc,by have:=h.low;simp only [Mem.put];omega⟩
end Go.Am
