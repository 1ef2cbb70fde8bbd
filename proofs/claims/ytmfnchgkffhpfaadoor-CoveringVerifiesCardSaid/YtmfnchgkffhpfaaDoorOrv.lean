/-
  The values' layer: runs of the kernel (or of a walk) from the listed variables alone, at any memory where these read the same; an oracle for a function whose values at finitely many arguments the kernel ran. No condition. Nothing of one program stands here.
-/
import Derived.Test.YtmfnchgkffhpfaaDoorOraA
set_option linter.unusedSimpArgs false
set_option linter.unusedVariables false
namespace Go.Vm
open Go.Am
section
variable {P:Program} {F:Nat} {laid:List (String×DataW Unit)}
theorem sim_glob {ι:Inj} {m:Mem} {w:World} (hsim:Sim P (globList P F laid) ι m w) (hg:∀ k∈globList P F laid,m.get k=(globMem P F laid).get k) :
 Sim P (globList P F laid) (fun b=>if b∈globList P F laid then ι b else none) (globMem P F laid) w:=by
 refine ⟨fun b ib hb=>?_,fun b ib hb=>?_,fun b b' ib ib' hb hb' _=>?_,fun k hk=>?_⟩
 ·split at hb
  ·rename_i hm
   exact ⟨by rw [globMem_size];exact (globList_mem hm).1,(hsim.dom b ib hb).2⟩
  ·cases hb
 ·split at hb
  ·rename_i hm
   obtain ⟨hlt,e,l,hgl⟩:=globList_mem hm
   have h1:=hsim.blk b ib hb
   rw [hg b hm] at h1
   have h2:(globMem P F laid).get b=.cells l e 0 true:=by rw [globMem_get hlt,hgl]
   rw [h2] at h1 ⊢
   have hp:=globAt_plain hgl
   revert h1
   cases w.heap[ib.blk]? with
   |none=>exact fun h=>h
   |some o =>
    cases o with
    |cells cs e' fr =>
     rintro ⟨a1,a2,a3,a4,a5⟩
     refine ⟨a1,a2,a3,fun i hi=>?_,a5⟩
     obtain ⟨v',b1,b2⟩:=a4 i hi
     have hpi:plain (l.getD i undef)=true:=by
      rw [List.getD_eq_getElem?_getD,List.getElem?_eq_getElem hi]
      have:=List.all_eq_true.1 hp _ (List.getElem_mem hi)
      generalize l[i]=x at this
      cases x<;>first|exact this|cases this
     rw [b2.eq_of_plain hpi] at b1
     exact ⟨_,b1,VRel.plain hpi⟩
    |map es clock=>exact fun h=>h
    |_=>exact fun h=>h
  ·cases hb
 ·split at hb
  ·rename_i hm
   split at hb'
   ·rename_i hm'
    obtain ⟨hlt,e,l,hgl⟩:=globList_mem hm
    obtain ⟨hlt',e',l',hgl'⟩:=globList_mem hm'
    right
    exact ⟨by simp only [Mem.ro,globMem_get hlt,hgl,ABlk.ro],by simp only [Mem.ro,globMem_get hlt',hgl',ABlk.ro]⟩
   ·cases hb'
  ·cases hb
 ·obtain ⟨ib,h1,h2,h3,h4,h5⟩:=hsim.glob k hk
  obtain ⟨hlt,e,l,hgl⟩:=globList_mem hk
  refine ⟨ib,by rw [if_pos hk];exact h1,h2,⟨h3.1,by rw [← hg k hk];exact h3.2⟩,?_,?_⟩
  ·simp only [Mem.gen,globMem_get hlt,hgl,ABlk.gen]
  ·simp only [Mem.ro,globMem_get hlt,hgl,ABlk.ro]
theorem glob_ro {ι:Inj} {b:Nat} {ib:IB} (hb:(if b∈globList P F laid then ι b else none)=some ib):(globMem P F laid).ro b=true:=by
 split at hb
 ·rename_i hm
  obtain ⟨hlt,e,l,hgl⟩:=globList_mem hm
  simp only [Mem.ro,globMem_get hlt,hgl,ABlk.ro]
 ·cases hb
theorem run_below {N D:Nat} {O:Oracle} {f:FuncId} {as:List Value} {v:Value} {m':Mem} (hO:OSound P (globList P F laid) O) (hmix:P.follows .mixedOrders=true) (hr:acall P O (globList P F laid) N D f as (globMem P F laid)=some (v,m')) (ha:as.all Am.plainCell=true) (hv:Am.plain v=true)
 {ι:Inj} {w:World} (hs:Sim P (globList P F laid) (fun b=>if b∈globList P F laid then ι b else none) (globMem P F laid) w):Calls P f as.toArray w fun e w'=>e=.returned v∧Go.RowKit.Below w.heap.size w w':=by
 refine ((acall_sound (N:=N) hO hmix D f).1 as _ _ _ hr _ w as.toArray hs (by simpa using LRel.plain ha)).mono ?_
 rintro e w' ⟨v',he,ι',hx,hs',hvr⟩
 rw [hvr.eq_of_plain hv] at he
 exact ⟨he,⟨hx.os,hx.tape,hx.output,hx.heap,fun c hc=>hx.frame c hc fun b ib hb _=>.inl (glob_ro hb)⟩⟩
abbrev TabF:=List Value→Option Value
open Classical in
noncomputable def tabO (G:List Nat) (M0:Mem) (ff:FuncId) (T:TabF) (O:Oracle):Oracle:=fun f=>if f=ff then some (fun as m=>if ∀ k∈G,m.get k=M0.get k then (T as).map fun v=>(v,m) else none) else O f
theorem tabO_ne {G:List Nat} {M0:Mem} {ff f:FuncId} {T:TabF} {O:Oracle} (h:f≠ff):tabO G M0 ff T O f=O f:=if_neg h
theorem tabO_sound {ff:FuncId} {T:TabF} {O:Oracle} (hmix:P.follows .mixedOrders=true) (hO:OSound P (globList P F laid) O) (he:Am.Enters P ff)
 (h:∀ as v,T as=some v→as.all Am.plainCell=true∧Am.plain v=true∧∃ N D m',acall P noO (globList P F laid) N D ff as (globMem P F laid)=some (v,m')):OSound P (globList P F laid) (tabO (globList P F laid) (globMem P F laid) ff T O):=by
 intro f Fo hf
 by_cases hff:f=ff
 ·subst hff
  unfold tabO at hf
  rw [if_pos rfl] at hf
  cases hf
  have hn:OSound P (globList P F laid) noO:=fun _ _ h=>by cases h
  refine ⟨fun as m v m' hv ι w as' hs hrel=>?_,fun as m v m' hv=>?_,he,SeqFn.none fun n lb m=>by
   cases ht:T (seqAs n lb) with
   |none=>simp [ht]
   |some v=>have:=(h _ _ ht).1;rw [seqAs_cons] at this;simp [seqMark,Am.plainCell] at this⟩
  ·simp only at hv
   split at hv
   case isFalse=>cases hv
   rename_i hg
   rw [Option.map_eq_some_iff] at hv
   obtain ⟨v',ht,hv⟩:=hv
   cases hv
   obtain ⟨hp,hpv,N,D,m0,hr⟩:=h as v ht
   have e1:as'=as.toArray:=by
    obtain ⟨l⟩:=as'
    have:as=l:=ext_getD hrel.1 fun i hi=>((hrel.2 i hi).eq_of_plainCell (List.all_eq_true.1 hp _ (getD_mem hi))).symm
    rw [this]
   subst e1
   refine (run_below hn hmix hr hp hpv (sim_glob hs hg)).mono ?_
   rintro e w' ⟨rfl,hb⟩
   exact ⟨v,rfl,Post.below hs hb hpv⟩
  ·simp only at hv
   split at hv
   case isFalse=>cases hv
   rw [Option.map_eq_some_iff] at hv
   obtain ⟨v',ht,hv⟩:=hv
   cases hv
   exact MemStep.refl _
 ·rw [tabO_ne hff] at hf
  exact hO f Fo hf
theorem tab_fun {O O0:Oracle} {ff:FuncId} {T:TabF} {xs:List FV} {r:FV} (hO:O ff=tabO (globList P F laid) (globMem P F laid) ff T O0 ff) (h:∀ m F' as,RFs m F' xs as→∃ v,T as=some v∧RF m F' r v):VFun (lawEnvX P F laid O) ff xs (.p r):=by
 intro m F' σ as h1 h2
 obtain ⟨v,h3,h4⟩:=h m F' as (RFs.ofRPs h2)
 have hg:∀ k∈globList P F laid,m.get k=(globMem P F laid).get k:=fun k hk=>by
  obtain ⟨hlt,e,l,hgl⟩:=globList_mem hk
  have:=(h1.gl k l e (by simp only [lawEnvX,gam,if_pos hlt,hgl,Option.map_some])).2.1
  rw [this,globMem_get hlt,hgl]
 refine ACalls.oracle (m':=m) (v:=v) (show O ff=_ by rw [hO];exact if_pos rfl) ?_ ⟨_,_,_,F',σ,⟨rfl,rfl,rfl⟩,h1,.p h4,Step.refl _ _ _ _ _⟩
 rw [if_pos hg,h3];rfl
end
end Go.Vm
