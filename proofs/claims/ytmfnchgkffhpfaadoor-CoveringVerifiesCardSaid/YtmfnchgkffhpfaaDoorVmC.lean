/-
  The values' layer: what comes in: data of plain types as frozen data. No condition. Nothing of one program stands here.
-/
import Derived.Test.YtmfnchgkffhpfaaDoorVmB
set_option linter.unusedSimpArgs false
set_option linter.unusedVariables false
set_option linter.unusedSectionVars false
namespace Go.Vm
open Go.Am
variable {P:Program}
inductive All2 {α β:Type} (R:α→β→Prop):List α→List β→Prop
 |nil:All2 R [] []
 |cons {a:α} {b:β} {l:List α} {r:List β} (h:R a b) (t:All2 R l r):All2 R (a::l) (b::r)
def HasT (P:Program):Nat→TypeId→List FV→Prop
 |0,_,_=>False
 |f+1,t,fs=>match P.underlying t with
  |some .bool=>∃ b,fs=[.bool b]
  |some (.int k)=>∃ n,fs=[.int k n]∧(Lit.int k n).wf=true
  |some .string=>∃ s:ByteArray,fs=[.str s]∧s.size≤maxLen
  |some (.slice e)=>∃ L:List (List FV),fs=[.lst e L.flatten L.length]∧L.length≤maxLen∧∀ x∈L,HasT P f e x
  |some (.struct sf)=>∃ parts:List (List FV),fs=parts.flatten∧All2 (fun (fd:Field) x=>HasT P f fd.type x) sf.toList parts
  |some (.array n e)=>∃ L:List (List FV),fs=L.flatten∧L.length=n∧∀ x∈L,HasT P f e x
  |_=>False
def tyOk (P:Program):Nat→TypeId→Bool
 |0,_=>false
 |f+1,t=>match P.underlying t with
  |some .bool|some (.int _)|some .string=>true
  |some (.slice e)=>P.cellsOf e != 0&&tyOk P f e
  |some (.struct fs)=>decide ((fs.toList.map fun fd=>((List.range (P.cellsOf t)).drop fd.offset).take (P.cellsOf fd.type)).flatten=List.range (P.cellsOf t))&&fs.toList.all fun fd=>tyOk P f fd.type
  |some (.array n e)=>decide (((List.range n).map fun i=>((List.range (P.cellsOf t)).drop (i*P.cellsOf e)).take (P.cellsOf e)).flatten=List.range (P.cellsOf t))&&tyOk P f e
  |_=>false
structure Laid (m m':Mem) (fs:List FV) (l:List Value):Prop where
 rel:RFs m' (fun c=>c<m'.size) fs l
 cell:l.all isCell=true
 size:m.size≤m'.size
 get:∀ c,c<m.size→m'.get c=m.get c
theorem Laid.refl (m:Mem) {fs:List FV} {l:List Value} (h:RFs m (fun c=>c<m.size) fs l) (hc:l.all isCell=true):Laid m m fs l:=⟨h,hc,Nat.le_refl _,fun _ _=>rfl⟩
theorem grow_fz {m m':Mem} (hs:m.size≤m'.size) (hg:∀ c,c<m.size→m'.get c=m.get c):∀ c,c<m.size→c<m'.size∧m'.get c=m.get c:=fun c hc=>⟨by omega,hg c hc⟩
section
variable {H:Type} {enc:TypeId×Value→H} {W:World} {held:Bool}
def CanLay (P:Program) (f:Nat) (t:TypeId) (d:DataW H):Prop:=∀ m,∃ l m' fs,absD P f t d m=some (l,m')∧HasT P f t fs∧Laid m m' fs l
theorem lay_list (f:Nat):∀ (xs:List (TypeId×DataW H)),(∀ x∈xs,CanLay P f x.1 x.2)→∀ m,∃ l m' L,absL (absD P f) xs m=some (l,m')∧All2 (fun (x:TypeId×DataW H) fs=>HasT P f x.1 fs) xs L∧Laid m m' L.flatten l
 |[],_,m=>⟨[],m,[],rfl,.nil,Laid.refl m .nil rfl⟩
 |(t,d)::xs,h,m=>by
  obtain ⟨l1,m1,fs,h1,h2,h3⟩:=h (t,d) (by simp) m
  obtain ⟨l2,m2,L,h4,h5,h6⟩:=lay_list f xs (fun x hx=>h x (by simp [hx])) m1
  refine ⟨l1++l2,m2,fs::L,by simp only [absL,h1,h4],.cons h2 h5,?_⟩
  rw [List.flatten_cons]
  exact ⟨(h3.rel.mono (grow_fz h6.size h6.get)).append h6.rel,by rw [List.all_append,h3.cell,h6.cell];rfl,Nat.le_trans h3.size h6.size,fun c hc=>(h6.get c (by have:=h3.size;omega)).trans (h3.get c hc)⟩
theorem All2.map_left {α β γ:Type} {R:β→γ→Prop} {g:α→β}:∀ {l:List α} {r:List γ},All2 R (l.map g) r→All2 (fun a c=>R (g a) c) l r
 |[],_,.nil=>.nil
 |_::_,_,.cons h t=>.cons h (All2.map_left t)
theorem All2.const {α γ:Type} {R:γ→Prop}:∀ {l:List α} {r:List γ},All2 (fun _ c=>R c) l r→l.length=r.length∧∀ x∈r,R x
 |_,_,.nil=>⟨rfl,by simp⟩
 |_,_,.cons h t=>by
  obtain ⟨h1,h2⟩:=All2.const t
  exact ⟨by simp [h1],fun x hx=>(List.mem_cons.1 hx).elim (fun e=>e▸h) (h2 x)⟩
theorem All2.zip {α β γ:Type} {R:α→γ→Prop}:∀ {l:List α} {ds:List β} {r:List γ},l.length=ds.length→All2 (fun (x:α×β) c=>R x.1 c) (l.zip ds) r→All2 R l r
 |[],[],_,_,h=>by cases h;exact .nil
 |a::l,d::ds,r,hl,h=>by
  rw [List.zip_cons_cons] at h
  cases h with|cons h t=>exact .cons h (All2.zip (by simpa using hl) t)
 |[],_::_,_,hl,_=>by simp at hl
 |_::_,[],_,hl,_=>by simp at hl
theorem can_lay:∀ (f:Nat) (t:TypeId) (cs:List Value) (d:DataW H) (ps:List MemPlace),tyOk P f t=true→DataW.trod enc P W 0 (fun _=>true) held f t cs=some (d,ps)→CanLay P f t d
 |0,_,_,_,_,h,_=>by cases h
 |f+1,t,cs,d,ps,hok,h=>by
  have ih:=can_lay f
  intro m
  unfold DataW.trod at h
  unfold absD
  unfold tyOk at hok
  unfold HasT
  cases hu:P.underlying t with
  |none=>rw [hu] at hok;cases hok
  |some u =>
   rw [hu] at h hok
   cases u with
   |bool =>
    match cs,h with
    |[.bool b],h =>
     simp only [Option.some.injEq,Prod.mk.injEq] at h
     obtain ⟨rfl,rfl⟩:=h
     exact ⟨_,_,_,rfl,⟨b,rfl⟩,Laid.refl m (.cons (.bool b) .nil) rfl⟩
   |int k =>
    match cs,h with
    |[.int k' n],h =>
     simp only at h
     split at h
     ·rename_i hc
      simp only [Option.some.injEq,Prod.mk.injEq] at h
      obtain ⟨rfl,rfl⟩:=h
      exact ⟨_,_,_,rfl,⟨n,rfl,hc.2⟩,Laid.refl m (.cons (.int k n) .nil) rfl⟩
     ·cases h
   |string =>
    match cs,h with
    |[.string s],h =>
     simp only at h
     split at h
     ·rename_i hc
      simp only [Option.some.injEq,Prod.mk.injEq] at h
      obtain ⟨rfl,rfl⟩:=h
      exact ⟨_,_,_,rfl,⟨s,rfl,hc⟩,Laid.refl m (.cons (.str s) .nil) rfl⟩
     ·cases h
   |slice e =>
    simp only [Bool.and_eq_true,bne_iff_ne,ne_eq] at hok
    match cs,h with
    |[.slice none 0 0],h =>
     simp only [Option.some.injEq,Prod.mk.injEq] at h
     obtain ⟨rfl,rfl⟩:=h
     exact ⟨_,_,_,rfl,⟨[],rfl,Nat.zero_le _,by simp⟩,Laid.refl m (.cons (.nil e) .nil) rfl⟩
    |[.slice (some a) len cap],h =>
     simp only at h
     split at h
     ·rename_i hc
      simp only [Option.bind_eq_some_iff,Option.map_eq_some_iff] at h
      obtain ⟨elems,h1,rest,h2,h3⟩:=h
      simp only [Prod.mk.injEq] at h3
      obtain ⟨rfl,rfl⟩:=h3
      obtain ⟨hl,hm⟩:=mapM_some h1
      simp only [hok.1,if_false]
      split
      ·rename_i he
       simp only [Bool.and_eq_true,List.isEmpty_iff] at he
       exact ⟨_,_,_,rfl,⟨[],rfl,Nat.zero_le _,by simp⟩,Laid.refl m (.cons (.room e 0 0 0) .nil) rfl⟩
      ·have hcan:∀ x∈(elems.map (·.1)).map fun x=>(e,x),CanLay P f x.1 x.2:=by
        intro x hx
        simp only [List.mem_map] at hx
        obtain ⟨y,⟨z,hz,rfl⟩,rfl⟩:=hx
        obtain ⟨i,hi⟩:=List.getElem?_of_mem hz
        have hlt:i<(List.range len).length:=by
         have:i<elems.length:=by
          rcases Nat.lt_or_ge i elems.length with h|h
          ·exact h
          ·rw [List.getElem?_eq_none h] at hi;cases hi
         omega
        obtain ⟨b,hb1,hb2⟩:=hm i _ (List.getElem?_eq_getElem hlt)
        rw [hi] at hb1;cases hb1
        simp only [Option.bind_eq_some_iff] at hb2
        obtain ⟨cs',_,hb3⟩:=hb2
        exact ih e cs' z.1 z.2 hok.2 hb3
       obtain ⟨l,m',L,e1,e2,e3⟩:=lay_list f _ hcan m
       obtain ⟨e4,e5⟩:=All2.const (R:=fun fs=>HasT P f e fs) (All2.map_left (R:=fun (x:TypeId×DataW H) fs=>HasT P f x.1 fs) (g:=fun x=>(e,x)) e2)
       rw [e1]
       simp only [List.length_map,List.length_range] at e4 hl ⊢
       have hg:∀ c,c<m'.size→(m'.alloc (.cells l e 0 true)).get c=m'.get c:=fun c hc=>by rw [Mem.get_alloc,if_neg (by omega)]
       have hsz:(m'.alloc (.cells l e 0 true)).size=m'.size+1:=rfl
       refine ⟨_,_,_,rfl,⟨L,rfl,by omega,e5⟩,⟨?_,rfl,by rw [hsz];have:=e3.size;omega,fun c hc=>(hg c (by have:=e3.size;omega)).trans (e3.get c hc)⟩⟩
       rw [show elems.length=L.length by omega]
       refine .cons (.lst (by rw [hsz];omega) (by rw [Mem.get_alloc,if_pos rfl]) (ws:=l) ?_ (e3.rel.mono fun c hc=>⟨by rw [hsz];omega,hg c hc⟩) e3.cell) .nil
       rw [List.drop_zero,e3.rel.length];simp [takeN]
     ·cases h
   |struct sf =>
    simp only [Bool.and_eq_true,decide_eq_true_eq] at hok
    obtain ⟨hok1,hok2⟩:=hok
    have h':(if cs.length=P.cellsOf t then (sf.toList.mapM fun f_1=>DataW.trod enc P W 0 (fun _=>true) held f f_1.type ((cs.drop f_1.offset).take (P.cellsOf f_1.type))).map fun xs=>((.agg (xs.map (·.1)):DataW H),xs.flatMap (·.2)) else none)=some (d,ps):=by
     revert h;cases cs with
     |nil=>exact id
     |cons c cs=>cases c<;>cases cs<;>exact id
    split at h'
    ·simp only [Option.map_eq_some_iff,Prod.mk.injEq] at h'
     obtain ⟨xs,h1,rfl,rfl⟩:=h'
     obtain ⟨hl,hm⟩:=mapM_some h1
     simp only [hok1,if_true]
     have hcan:∀ x∈(sf.toList.map (·.type)).zip (xs.map (·.1)),CanLay P f x.1 x.2:=by
      intro x hx
      obtain ⟨i,hi⟩:=List.getElem?_of_mem hx
      rw [List.getElem?_zip_eq_some,List.getElem?_map,List.getElem?_map,Option.map_eq_some_iff,Option.map_eq_some_iff] at hi
      obtain ⟨⟨fd,hfd,hx1⟩,⟨y,hy,hx2⟩⟩:=hi
      obtain ⟨b,hb1,hb2⟩:=hm i fd hfd
      rw [hy] at hb1;cases hb1
      have hx':x=(fd.type,y.1):=by rw [hx1,hx2]
      rw [hx']
      exact ih fd.type _ y.1 y.2 (List.all_eq_true.1 hok2 fd (List.mem_of_getElem? hfd)) hb2
     obtain ⟨l,m',L,e1,e2,e3⟩:=lay_list f _ hcan m
     refine ⟨l,m',L.flatten,e1,⟨L,rfl,?_⟩,e3⟩
     exact All2.map_left (R:=fun t fs=>HasT P f t fs) (g:=fun (fd:Field)=>fd.type) (All2.zip (R:=fun t fs=>HasT P f t fs) (by simp only [List.length_map];omega) e2)
    ·cases h'
   |array n e =>
    simp only [Bool.and_eq_true,decide_eq_true_eq] at hok
    obtain ⟨hok1,hok2⟩:=hok
    have h':(if cs.length=P.cellsOf t then ((List.range n).mapM fun i=>DataW.trod enc P W 0 (fun _=>true) held f e ((cs.drop (i*P.cellsOf e)).take (P.cellsOf e))).map fun xs=>((.agg (xs.map (·.1)):DataW H),xs.flatMap (·.2)) else none)=some (d,ps):=by
     revert h;cases cs with
     |nil=>exact id
     |cons c cs=>cases c<;>cases cs<;>exact id
    split at h'
    ·simp only [Option.map_eq_some_iff,Prod.mk.injEq] at h'
     obtain ⟨xs,h1,rfl,rfl⟩:=h'
     obtain ⟨hl,hm⟩:=mapM_some h1
     simp only [hok1,if_true]
     have hcan:∀ x∈(xs.map (·.1)).map fun x=>(e,x),CanLay P f x.1 x.2:=by
      intro x hx
      simp only [List.mem_map] at hx
      obtain ⟨y,⟨z,hz,rfl⟩,rfl⟩:=hx
      obtain ⟨i,hi⟩:=List.getElem?_of_mem hz
      have hlt:i<(List.range n).length:=by
       have:i<xs.length:=by
        rcases Nat.lt_or_ge i xs.length with h|h
        ·exact h
        ·rw [List.getElem?_eq_none h] at hi;cases hi
       omega
      obtain ⟨b,hb1,hb2⟩:=hm i _ (List.getElem?_eq_getElem hlt)
      rw [hi] at hb1;cases hb1
      exact ih e _ z.1 z.2 hok2 hb2
     obtain ⟨l,m',L,e1,e2,e3⟩:=lay_list f _ hcan m
     obtain ⟨e4,e5⟩:=All2.const (R:=fun fs=>HasT P f e fs) (All2.map_left (R:=fun (x:TypeId×DataW H) fs=>HasT P f x.1 fs) (g:=fun x=>(e,x)) e2)
     simp only [List.length_map,List.length_range] at e4 hl
     exact ⟨l,m',L.flatten,e1,⟨L,rfl,by omega,e5⟩,e3⟩
    ·cases h'
   |_=>cases hok
end
end Go.Vm
set_option linter.unusedSimpArgs false
set_option linter.unusedVariables false
namespace Go.Vm
open Go.Am
variable {P:Program}
def noO:Oracle:=fun _=>none
open Classical in
noncomputable def trueO (G:List Nat) (M0:Mem) (fs:List FuncId):Oracle:=fun f =>
 if f∈fs then some fun as m=>if as=[]∧∀ k∈G,m.get k=M0.get k then some (.bool true,m) else none else none
theorem trueO_none {G:List Nat} {M0:Mem} {fs:List FuncId} {f:FuncId} (h:f∉fs):trueO G M0 fs f=none:=if_neg h
theorem globMem_get {F:Nat} {laid:List (String×DataW Unit)} {k:Nat} (hk:k<P.globals.size):(globMem P F laid).get k=match globAt P F laid k with|some (e,l)=>.cells l e 0 true|none=>.cells [] 0 0 true:=by
 rw [globMem,get_allocs,if_neg (by simp [Am.empty])]
 simp only [Am.empty,Nat.sub_zero,List.getElem?_map]
 rw [List.getElem?_eq_getElem (by simpa using hk)]
 simp only [List.getElem_range,Option.map_some]
 cases globAt P F laid k<;>rfl
theorem globMem_size {F:Nat} {laid:List (String×DataW Unit)}:(globMem P F laid).size=P.globals.size:=by rw [globMem,size_allocs];simp [Am.empty]
theorem globList_mem {F:Nat} {laid:List (String×DataW Unit)} {k:Nat} (h:k∈globList P F laid):k<P.globals.size∧∃ e l,globAt P F laid k=some (e,l):=by
 simp only [globList,List.mem_filter,List.mem_range] at h
 obtain ⟨h1,h2⟩:=h
 cases hg:globAt P F laid k with
 |none=>rw [hg] at h2;cases h2
 |some x=>exact ⟨h1,x.1,x.2,rfl⟩
theorem globAt_plain {F:Nat} {laid:List (String×DataW Unit)} {k:Nat} {e:TypeId} {l:List Value} (h:globAt P F laid k=some (e,l)):l.all Am.plainCell=true:=by
 unfold globAt at h
 split at h
 ·rename_i x g _ _
  simp only [Option.map_eq_some_iff,Prod.mk.injEq] at h
  obtain ⟨r,h1,_,rfl⟩:=h
  unfold absP at h1
  split at h1
  ·rename_i l' m' _
   split at h1
   ·rename_i hp;cases h1;exact hp
   ·cases h1
  ·cases h1
 ·cases h
theorem trueO_sound {F N D:Nat} {laid:List (String×DataW Unit)} {fs:List FuncId} (hmix:P.follows .mixedOrders=true)
 (h:∀ f∈fs,∃ m',acall P noO (globList P F laid) N D f [] (globMem P F laid)=some (.bool true,m')):OSound P (globList P F laid) (trueO (globList P F laid) (globMem P F laid) fs):=by
 intro f Fo hf
 unfold trueO at hf
 split at hf
 ·rename_i hmem
  cases hf
  obtain ⟨m0,h0⟩:=h f hmem
  have hO:OSound P (globList P F laid) noO:=fun _ _ h=>by cases h
  have hs0:=acall_sound (N:=N) hO hmix D f
  refine ⟨fun as m v m' ha ι w as' hsim hrel=>?_,fun as m v m' ha=>?_,hs0.2 _ _ _ h0,SeqFn.none fun n lb m=>if_neg fun h=>by cases h.1⟩<;>simp only at ha
  ·split at ha
   ·rename_i hc
    obtain ⟨rfl,hg⟩:=hc
    cases ha
    have hsim0:Sim P (globList P F laid) (fun b=>if b∈globList P F laid then ι b else none) (globMem P F laid) w:=by
     refine ⟨fun b ib hb=>?_,fun b ib hb=>?_,fun b b' ib ib' hb hb' _=>?_,fun k hk=>?_⟩
     ·split at hb
      ·rename_i hm
       exact ⟨by rw [globMem_size];exact (globList_mem hm).1,(hsim.dom b ib hb).2⟩
      ·cases hb
     ·split at hb
      ·rename_i hm
       obtain ⟨hlt,e,l,hgl⟩:=globList_mem hm
       have h1:=hsim.blk b ib hb
       rw [hg b hm] at h1
       have h2:(globMem P F laid).get b=.cells l e 0 true:=by rw [globMem_get hlt,hgl]
       rw [h2] at h1 ⊢
       have hp:=globAt_plain hgl
       revert h1
       cases w.heap[ib.blk]? with
       |none=>exact fun h=>h
       |some o =>
        cases o with
        |cells cs e' fr =>
         rintro ⟨a1,a2,a3,a4,a5⟩
         refine ⟨a1,a2,a3,fun i hi=>?_,a5⟩
         obtain ⟨v',b1,b2⟩:=a4 i hi
         have hpi:plain (l.getD i undef)=true:=by
          rw [List.getD_eq_getElem?_getD,List.getElem?_eq_getElem hi]
          have:=List.all_eq_true.1 hp _ (List.getElem_mem hi)
          generalize l[i]=x at this
          cases x<;>first|exact this|cases this
         rw [b2.eq_of_plain hpi] at b1
         exact ⟨_,b1,VRel.plain hpi⟩
        |map es clock=>exact fun h=>h
        |_=>exact fun h=>h
      ·cases hb
     ·split at hb
      ·rename_i hm
       split at hb'
       ·rename_i hm'
        obtain ⟨hlt,e,l,hgl⟩:=globList_mem hm
        obtain ⟨hlt',e',l',hgl'⟩:=globList_mem hm'
        right
        exact ⟨by simp only [Mem.ro,globMem_get hlt,hgl,ABlk.ro],by simp only [Mem.ro,globMem_get hlt',hgl',ABlk.ro]⟩
       ·cases hb'
      ·cases hb
     ·obtain ⟨ib,h1,h2,h3,h4,h5⟩:=hsim.glob k hk
      obtain ⟨hlt,e,l,hgl⟩:=globList_mem hk
      refine ⟨ib,by rw [if_pos hk];exact h1,h2,⟨h3.1,by rw [← hg k hk];exact h3.2⟩,?_,?_⟩
      ·simp only [Mem.gen,globMem_get hlt,hgl,ABlk.gen]
      ·simp only [Mem.ro,globMem_get hlt,hgl,ABlk.ro]
    have has:as'=#[]:=by
     have:=hrel.1
     simp only [List.length_nil,Array.length_toList] at this
     exact Array.eq_empty_of_size_eq_zero this.symm
    subst has
    refine (hs0.1 [] _ _ _ h0 _ w #[] hsim0 LRel.nil).mono ?_
    rintro e w' ⟨v',he,ι',hx,hs',hv⟩
    refine ⟨v',he,ι,?_,?_,?_⟩
    ·refine ⟨Nat.le_refl _,Nat.le_refl _,fun _ _ _=>rfl,fun _ _ _=>rfl,fun _ _=>rfl,Le.refl _ _,fun b ib' hb=>.inl ⟨ib',hb,rfl⟩,fun b ib' hb=>.inl ⟨ib',hb⟩,hx.heap,fun c hc _=>?_,hx.tape,hx.os,hx.output⟩
     refine hx.frame c hc fun b ib hb _=>.inl ?_
     split at hb
     ·rename_i hm
      obtain ⟨hlt,e,l,hgl⟩:=globList_mem hm
      simp only [Mem.ro,globMem_get hlt,hgl,ABlk.ro]
     ·cases hb
    ·refine hsim.world hx.heap fun c hc=>hx.frame c hc fun b ib hb _=>.inl ?_
     split at hb
     ·rename_i hm
      obtain ⟨hlt,e,l,hgl⟩:=globList_mem hm
      simp only [Mem.ro,globMem_get hlt,hgl,ABlk.ro]
     ·cases hb
    ·rw [hv.eq_of_plain (v:=.bool true) rfl]
     exact VRel.plain (v:=.bool true) rfl
   ·cases ha
  ·split at ha
   ·cases ha;exact MemStep.refl _
   ·cases ha
 ·cases hf
def gam (P:Program) (F:Nat) (laid:List (String×DataW Unit)):Nat→Option (List Value×TypeId):=fun k=>if k<P.globals.size then (globAt P F laid k).map fun x=>(x.2,x.1) else none
noncomputable def lawEnv (P:Program) (F:Nat) (laid:List (String×DataW Unit)) (fs:List FuncId):Env :=
 ⟨P,trueO (globList P F laid) (globMem P F laid) fs,globList P F laid,gam P F laid⟩
theorem known_fun {F:Nat} {laid:List (String×DataW Unit)} {fs:List FuncId} {f:FuncId} (hf:f∈fs):VFun (lawEnv P F laid fs) f [] (.p (.bool true)):=by
 intro m F' σ as h1 h2
 cases h2
 refine ACalls.oracle (F:=fun as m=>open Classical in if as=[]∧∀ k∈globList P F laid,m.get k=(globMem P F laid).get k then some (.bool true,m) else none) (m':=m) (v:=.bool true) (by simp only [lawEnv,trueO,if_pos hf]) ?_ ⟨_,_,_,F',σ,⟨rfl,rfl,rfl⟩,h1,.p (.bool true),Step.refl _ _ _ _ _⟩
 rw [if_pos]
 refine ⟨rfl,fun k hk=>?_⟩
 obtain ⟨hlt,e,l,hgl⟩:=globList_mem hk
 have:=(h1.gl k l e (by simp only [lawEnv,gam,if_pos hlt,hgl,Option.map_some])).2.1
 rw [this,globMem_get hlt,hgl]
theorem HasT.struct {f:Nat} {t:TypeId} {fs:List FV} {sf:Array Field} (h:HasT P (f+1) t fs) (hu:P.underlying t=some (.struct sf)):∃ parts:List (List FV),fs=parts.flatten∧All2 (fun (fd:Field) x=>HasT P f fd.type x) sf.toList parts:=by
 unfold HasT at h;rw [hu] at h;exact h
theorem HasT.slice {f:Nat} {t e:TypeId} {fs:List FV} (h:HasT P (f+1) t fs) (hu:P.underlying t=some (.slice e)):∃ L:List (List FV),fs=[.lst e L.flatten L.length]∧L.length≤maxLen∧∀ x∈L,HasT P f e x:=by
 unfold HasT at h;rw [hu] at h;exact h
theorem HasT.array {f n:Nat} {t e:TypeId} {fs:List FV} (h:HasT P (f+1) t fs) (hu:P.underlying t=some (.array n e)):∃ L:List (List FV),fs=L.flatten∧L.length=n∧∀ x∈L,HasT P f e x:=by
 unfold HasT at h;rw [hu] at h;exact h
theorem HasT.int {f:Nat} {t:TypeId} {fs:List FV} {k:IntKind} (h:HasT P (f+1) t fs) (hu:P.underlying t=some (.int k)):∃ n,fs=[.int k n]∧(Lit.int k n).wf=true:=by
 unfold HasT at h;rw [hu] at h;exact h
theorem HasT.bool {f:Nat} {t:TypeId} {fs:List FV} (h:HasT P (f+1) t fs) (hu:P.underlying t=some .bool):∃ b,fs=[.bool b]:=by
 unfold HasT at h;rw [hu] at h;exact h
theorem HasT.str {f:Nat} {t:TypeId} {fs:List FV} (h:HasT P (f+1) t fs) (hu:P.underlying t=some .string):∃ s:ByteArray,fs=[.str s]∧s.size≤maxLen:=by
 unfold HasT at h;rw [hu] at h;exact h
def HasTs (P:Program) (F:Nat):List TypeId→List (List FV)→Prop:=All2 (fun t fs=>HasT P F t fs)
def packF (P:Program) (t:TypeId) (fs:List FV):Option FV :=
 match P.underlying t,fs with
 |some (.struct _),fs=>some (.agg fs)
 |some (.array _ _),fs=>some (.agg fs)
 |some .bool,[v]|some (.int _),[v]|some .string,[v]|some (.slice _),[v]=>some v
 |_,_=>none
theorem pack_both {m:Mem} {F:Nat→Prop} {n:Nat} {t:TypeId} {fs:List FV} {l:List Value} (h:RFs m F fs l) (hc:l.all isCell=true) (ht:HasT P n t fs):∃ x v,packF P t fs=some x∧packT P t l=some v∧RF m F x v:=by
 cases n with
 |zero=>exact ht.elim
 |succ n =>
  unfold HasT at ht
  unfold packF packT
  cases hu:P.underlying t with
  |none=>rw [hu] at ht;exact ht.elim
  |some u =>
   rw [hu] at ht
   cases u with
   |bool=>obtain ⟨b,rfl⟩:=ht;cases h with|cons h1 t1=>cases t1;exact ⟨_,_,rfl,rfl,h1⟩
   |int k=>obtain ⟨b,rfl,_⟩:=ht;cases h with|cons h1 t1=>cases t1;exact ⟨_,_,rfl,rfl,h1⟩
   |string=>obtain ⟨b,rfl,_⟩:=ht;cases h with|cons h1 t1=>cases t1;exact ⟨_,_,rfl,rfl,h1⟩
   |slice e=>obtain ⟨b,rfl,_⟩:=ht;cases h with|cons h1 t1=>cases t1;exact ⟨_,_,rfl,rfl,h1⟩
   |struct sf=>exact ⟨_,_,rfl,rfl,.agg h hc⟩
   |array k e=>exact ⟨_,_,rfl,rfl,.agg h hc⟩
   |_=>exact ht.elim
theorem tyOk_succ:∀ (f:Nat) (t:TypeId),tyOk P f t=true→tyOk P (f+1) t=true
 |0,_,h=>by cases h
 |f+1,t,h=>by
  have ih:=tyOk_succ f
  unfold tyOk at h ⊢
  cases hu:P.underlying t with
  |none=>rw [hu] at h;cases h
  |some u =>
   rw [hu] at h
   cases u with
   |bool=>rfl
   |int k=>rfl
   |string=>rfl
   |slice e =>
    simp only [Bool.and_eq_true] at h ⊢
    exact ⟨h.1,ih e h.2⟩
   |struct fs =>
    simp only [Bool.and_eq_true,List.all_eq_true] at h ⊢
    exact ⟨h.1,fun fd hfd=>ih _ (h.2 fd hfd)⟩
   |array n e =>
    simp only [Bool.and_eq_true] at h ⊢
    exact ⟨h.1,ih e h.2⟩
   |_=>cases h
theorem tyOk_le {f g:Nat} {t:TypeId} (hfg:f≤g) (h:tyOk P f t=true):tyOk P g t=true:=by
 induction hfg with
 |refl=>exact h
 |step _ ih=>exact tyOk_succ _ _ ih
section
variable {H:Type} {enc:TypeId×Value→H} {W:World} {held:Bool}
def TrodN (enc:TypeId×Value→H) (P:Program) (W:World) (held:Bool) (n:Nat):List TypeId→List Value→List (DataW H)→Prop
 |[],[],[]=>True
 |t::ts,v::vs,d::ds=>(∃ p,DataW.trod enc P W 0 (fun _=>true) held n t v.cells.toList=some (d,p))∧TrodN enc P W held n ts vs ds
 |_,_,_=>False
theorem trodN:∀ (ts:List TypeId) (vs:List Value) (ds:List (DataW H)) (ps:List MemPlace),DataW.TrodAll enc P W 0 (fun _=>true) held ts vs ds ps→∃ N,∀ n,N≤n→TrodN enc P W held n ts vs ds
 |[],[],[],_,_=>⟨0,fun _ _=>trivial⟩
 |t::ts,v::vs,d::ds,ps,⟨p,q,⟨f,h1⟩,h2,_⟩=>by
  obtain ⟨N,hN⟩:=trodN ts vs ds q h2
  exact ⟨max f N,fun n hn=>⟨⟨p,DataW.trod_le (by omega) h1⟩,hN n (by omega)⟩⟩
 |[],[],_::_,_,h=>h.elim
 |[],_::_,_,_,h=>h.elim
 |_::_,[],_,_,h=>h.elim
 |_::_,_::_,[],_,h=>h.elim
theorem args_layN {n:Nat}:∀ (ts:List TypeId) (vs:List Value) (ds:List (DataW H)),(∀ t∈ts,tyOk P n t=true)→TrodN enc P W held n ts vs ds→∀ m,∃ as m' fss xs,absArgs P n ts ds m=some (as,m') ∧
 HasTs P n ts fss∧All2 (fun (tf:TypeId×List FV) x=>packF P tf.1 tf.2=some x) (ts.zip fss) xs∧RFs m' (fun c=>c<m'.size) xs as∧m.size≤m'.size∧∀ c,c<m.size→m'.get c=m.get c
 |[],[],[],_,_,m=>⟨[],m,[],[],rfl,.nil,.nil,.nil,Nat.le_refl _,fun _ _=>rfl⟩
 |t::ts,v::vs,d::ds,hok,⟨⟨p,h1⟩,h2⟩,m=>by
  obtain ⟨l,m1,fs,e1,e2,e3⟩:=can_lay n t _ d p (hok t (by simp)) h1 m
  obtain ⟨x,u,p1,p2,p3⟩:=pack_both e3.rel e3.cell e2
  obtain ⟨as,m2,fss,xs,q1,q2,q3,q4,q5,q6⟩:=args_layN ts vs ds (fun t ht=>hok t (by simp [ht])) h2 m1
  refine ⟨u::as,m2,fs::fss,x::xs,by simp only [absArgs,e1,p2,q1],.cons e2 q2,.cons p1 q3,.cons (p3.mono (grow_fz q5 q6)) q4,Nat.le_trans e3.size q5,fun c hc=>(q6 c (by have:=e3.size;omega)).trans (e3.get c hc)⟩
 |[],[],_::_,_,h,_=>h.elim
 |[],_::_,_,_,h,_=>h.elim
 |_::_,[],_,_,h,_=>h.elim
 |_::_,_::_,[],_,h,_=>h.elim
theorem law {r:Go.Reach} {b0 F:Nat} {laid:List (String×DataW Unit)} {fs:List FuncId} {f:FuncId} {ts:List TypeId} {args:Array Value} {ds:List (DataW H)} {ps:List MemPlace}
 (hL:laidMet P laid W) (hA:DataW.TrodAll enc P W 0 (fun _=>true) held ts args.toList ds ps) (hv:∀ (j:Nat) t v,ts[j]?=some t→args.toList[j]?=some v→Value.okWide P W r b0 t v)
 (hmix:P.follows .mixedOrders=true) (hty:ts.all (tyOk P F)=true)
 (hO:OSound P (globList P F laid) (trueO (globList P F laid) (globMem P F laid) fs))
 (hp:∀ j fss xs,HasTs P (j+F) ts fss→All2 (fun (tf:TypeId×List FV) x=>packF P tf.1 tf.2=some x) (ts.zip fss) xs→VFun (lawEnv P F laid fs) f xs (.p (.bool true))) :
 Calls P f args W fun e W'=>e=.returned (.bool true)∧Go.RowKit.Below W.heap.size W W':=by
 obtain ⟨N,hN⟩:=trodN ts _ ds ps hA
 obtain ⟨j,hj⟩:∃ j,max N F=j+F:=⟨max N F-F,by omega⟩
 obtain ⟨as,m1,fss,xs,q1,q2,q3,q4,q5,q6⟩:=args_layN ts _ ds (fun t ht=>tyOk_le (by omega) (List.all_eq_true.1 hty t ht)) (hN (max N F) (by omega)) (globMem P F laid)
 rw [hj] at q2
 have hctx:Ctx (lawEnv P F laid fs).Γ m1 (fun c=>c<m1.size) (fun _=>undef) [] 0:=by
  refine ⟨fun _ h=>h,fun b x hb=>(by cases hb),fun b b' x x' c hb=>(by cases hb),fun g vs e hg=>?_⟩
  simp only [lawEnv,gam] at hg
  split at hg
  ·rename_i hlt
   simp only [Option.map_eq_some_iff,Prod.mk.injEq] at hg
   obtain ⟨⟨e',l⟩,h1,rfl,rfl⟩:=hg
   have hlt':g<(globMem P F laid).size:=by rw [globMem_size];exact hlt
   exact ⟨by omega,by rw [q6 g hlt',globMem_get hlt,h1],globAt_plain h1⟩
  ·cases hg
 obtain ⟨v,m',⟨K,hK⟩,r0,H',nx',F',σ',⟨rfl,_,_⟩,_,hrv,_⟩:=hp j fss xs q2 q3 m1 _ _ as hctx (RPs.ofRFs q4)
 have hv1:v=.bool true:=by cases hrv with|p h=>cases h;rfl
 subst hv1
 obtain ⟨ι,hs,hro⟩:=glob_open (F:=F) hL
 obtain ⟨ι1,o1,o2,o3,o4⟩:=args_open ts _ ds ps hA hv ι _ m1 as hs hro q1
 refine ((acall_sound hO hmix K f).1 as m1 _ m' (hK K K (Nat.le_refl _) (Nat.le_refl _)) ι1 W args o1 o4).mono fun e W' ⟨v',he,ι2,hx,hs2,hvr⟩=>?_
 have:=hvr.eq_of_plain (v:=.bool true) rfl
 subst this
 exact ⟨he,⟨hx.os,hx.tape,hx.output,hx.heap,fun c hcl=>hx.frame c hcl fun b ib hb _=>.inl (o3 b (o1.dom b ib hb).1)⟩⟩
end
end Go.Vm
set_option linter.unusedSimpArgs false
set_option linter.unusedVariables false
namespace Go.Vm
open Go.Am
variable {E:Env} {L:Frame} {H:Heap} {nx:Nat} {Q:PV→Heap→Nat→Prop} {w:Bool}
variable {dst:Option Tmp} {ty:TypeId} {pos:String} {af:Array Edge} {gd:Option (Nat×Bool)}
def evF (Γ:Nat→Option (List Value×TypeId)) (L:Frame):List Operand→Option (List FV)
 |[]=>some []
 |o::l=>match vev Γ L o with
  |some (.p x)=>match evF Γ L l with
   |some r=>some (x::r)
   |none=>none
  |_=>none
theorem evF_evs {Γ:Nat→Option (List Value×TypeId)}:∀ {os:List Operand} {xs:List FV},evF Γ L os=some xs→evs Γ L os=some (xs.map .p)
 |[],_,h=>by cases h;rfl
 |o::os,xs,h=>by
  simp only [evF] at h
  split at h
  ·rename_i x hx
   split at h
   ·rename_i r hr
    cases h
    simp only [evs,hx,evF_evs hr,List.map_cons]
   ·cases h
  ·cases h
theorem VVal.fn {fo:Operand} {args:Array Operand} {aT:Array TypeId} {g:FuncId} {xs:List FV} {r:PV} (hf:vev E.Γ L fo=some (.clo g [] [])) (ha:evF E.Γ L args.toList=some xs)
 (hc:VFun E g xs r) (hr:∀ ρ,r.rn ρ=r) (q:Q r H nx):VVal E w ⟨dst,.call { callee:=.value fo,args:=args,argTypes:=aT },ty,pos,af,gd⟩ L H nx Q :=
 VVal.callF hf (evF_evs ha) (.refl _) hc hr q
theorem VVal.fv {fo:Operand} {args:Array Operand} {aT:Array TypeId} {g:FuncId} {xs cs:List FV} {e:TypeId} {n:Nat} {z:Bool} (hf:vev E.Γ L fo=some (.clo g [] [])) (ha:evF E.Γ L args.toList=some xs)
 (hc:VFunV E g xs e cs n z) (q:Q (.vec nx n 0 n) ((nx,.vec e cs n z)::H) (nx+1)):VVal E w ⟨dst,.call { callee:=.value fo,args:=args,argTypes:=aT },ty,pos,af,gd⟩ L H nx Q :=
 VVal.callV hf (evF_evs ha) (.refl _) hc q
theorem VFun.enter {f:FuncId} {fn:Func} {c:Code} {xs:List FV} {r:PV} (ho:E.O f=none) (hf:E.P.funcs[f]?=some fn) (hb:fn.body=some c) (hok:fnOk E.G fn c=true) (hn:xs.length≤fn.ntmps)
 (h:VWp E 0 c (argFrame 0 (xs.map .p)) [] 0 (Done E.P fn.results.toList 0 fun r' H' nx'=>r'=r∧H'=[]∧nx'=0)):VFun E f xs r:=VCalls.enter ho hf hb hok (by simpa using hn) h
def DoneV (P:Program) (rs:List ResultVar) (e:TypeId) (cs:List FV) (n:Nat) (z:Bool) (x:AExit) (L:Frame) (H:Heap) (_:Nat):Prop :=
 match x with
 | .exit _=>False
 | .normal=>∃ b,vresults P rs L H=some (.vec b n 0 n)∧hget H b=some (.vec e cs n z)
 | .ret=>∃ b,vresults P rs L H=some (.vec b n 0 n)∧hget H b=some (.vec e cs n z)
theorem DoneV.ret {P:Program} {rs:List ResultVar} {e:TypeId} {cs cs':List FV} {n n':Nat} {z:Bool} {b:Nat} (h:vresults P rs L H=some (.vec b n' 0 n')) (hb:hget H b=some (.vec e cs' n' z)) (hn:n'=n) (hcs:cs'=cs):DoneV P rs e cs n z .ret L H nx:=by
 subst hn;subst hcs;exact ⟨b,h,hb⟩
theorem VFunV.enter {f:FuncId} {fn:Func} {c:Code} {xs cs:List FV} {e:TypeId} {n:Nat} {z:Bool} (ho:E.O f=none) (hf:E.P.funcs[f]?=some fn) (hb:fn.body=some c) (hok:fnOk E.G fn c=true) (hn:xs.length≤fn.ntmps)
 (h:VWp E 0 c (argFrame 0 (xs.map .p)) [] 0 (DoneV E.P fn.results.toList e cs n z)):VFunV E f xs e cs n z:=by
 intro m F σ as h1 h2
 refine ACalls.enter ho hf hb hok (by rw [← h2.length];simpa using hn) ((h ⟨m,F,σ,[],0⟩ rfl m F σ _ h1 ?_ (Step.refl _ _ _ _ _)).mono ?_)
 ·intro i v hi
  obtain ⟨_,h3⟩:=argFrame_get _ 0 i v hi
  obtain ⟨u,h4,h5⟩:=h2.get h3
  have:=tget_tmpsOf as 0 .leaf i
  simp only [Nat.sub_zero] at h4
  have hlt:i<as.length:=by
   rcases Nat.lt_or_ge i as.length with h|h
   ·exact h
   ·rw [List.getElem?_eq_none h] at h4;cases h4
  rw [this,if_pos ⟨Nat.zero_le _,by omega⟩,Nat.sub_zero,List.getD_eq_getElem?_getD,h4]
  exact h5
 ·rintro x s ⟨L',H',nx',F',σ',q,c1,c2,c3⟩
  have key:(∃ b,vresults E.P fn.results.toList L' H'=some (.vec b n 0 n)∧hget H' b=some (.vec e cs n z))→∃ v,resultsOf E.P fn s=some v∧∃ r H' nx' F' σ',(r=.vec 0 n 0 n∧H'=[(0,.vec e cs n z)]∧nx'=1)∧Ctx E.Γ s.m F' σ' H' nx'∧RP s.m F' (htag H') σ' nx' r v∧Step m F σ [] 0 s.m F' σ' H' nx':=by
   rintro ⟨b,hr,hb⟩
   obtain ⟨v,h3,h4⟩:=vresults_rel c1 c2 hr
   obtain ⟨_,hrb⟩:=c1.hp b _ hb
   have hone:∀ b' x,hget [(0,HB.vec e cs n z)] b'=some x→b'=0∧x=.vec e cs n z:=fun b' x hx=>by
    rw [hget_cons] at hx
    split at hx
    ·rename_i e';cases hx;exact ⟨e'.symm,rfl⟩
    ·cases hx
   refine ⟨v,h3,_,_,_,F',fun _=>σ' b,⟨rfl,rfl,rfl⟩,⟨c1.fr,fun b' x hx=>?_,fun b1 b2 x1 x2 c hx1 hx2 _ _=>?_,c1.gl⟩,?_,⟨c3.size,c3.keep,c3.fmono,c3.fback,fun c hc ho=>?_,Nat.zero_le _,fun b hb=>absurd hb (Nat.not_lt_zero _),c3.low⟩⟩
   ·obtain ⟨rfl,rfl⟩:=hone b' x hx
    exact ⟨by omega,hrb⟩
   ·rw [(hone b1 x1 hx1).1,(hone b2 x2 hx2).1]
   ·cases h4 with
    |vec hb' hc h =>
     refine .vec (by omega) hc fun k hk=>?_
     have hk':htag [(0,HB.vec e cs n z)] 0=some (.vec n):=rfl
     rw [hk'] at hk
     cases hk
     exact ⟨Nat.le_refl _,fun _=>(h n (by simp [htag,hb,HB.tag])).2 rfl⟩
   ·obtain ⟨b',x,hx,hc'⟩:=ho
    exact c3.oback c hc ⟨b,_,hb,hc'⟩
  cases x with
  |exit i=>exact q.elim
  |normal=>exact key q
  |ret=>exact key q
theorem FLes.toP:∀ {l l':List FV},FLes l l'→PLes (l.map .p) (l'.map .p)
 |_,_,.refl _=>.refl _
 |_,_,.cons h t=>.cons (.p h) (FLes.toP t)
theorem VFun.le {g:FuncId} {xs ys:List FV} {r:PV} (h:FLes xs ys) (hc:VFun E g ys r):VFun E g xs r:=fun m F σ as h1 h2=>hc m F σ as h1 (RPs.le (FLes.toP h) h2)
theorem VVal.append1 {α:Type} {_:Enc α} {l:List α} {a:α} {s x:Operand} {sT xT e e2:TypeId} {xd:TypeDesc} {i:TypeInfo} {b b2 n:Nat} {xs:List FV} {z z2:Bool} (hs:vev E.Γ L s=some (.vec b n 0 n)) (hb:hget H b=some (.vec e (cells l) n z))
 (hx:vev E.Γ L x=some (.vec b2 1 0 1)) (hb2:hget H b2=some (.vec e2 xs 1 z2)) (hxs:xs=Enc.enc a) (hn:l.length=n) (hsT:E.P.underlying sT=some (.slice e)) (hxT:E.P.underlying xT=some xd) (hd:∀ k,xd≠.int k) (hi:E.P.info? e=some i)
 (hsz:Enc.size α=i.size) (hzs:zeroSized i=true) (h0:0<i.size) (hby:i.bytes<1000000) (hlen:l.length<1000000) (q:Q (.vec b (l.length+1) 0 (l.length+1)) (hput H b (.vec e (cells (l++[a])) (l.length+1) z)) nx) :
 VVal E true ⟨dst,.call { callee:=.builtin .append,args:=#[s,x],argTypes:=#[sT,xT] },ty,pos,af,gd⟩ L H nx Q:=by
 subst hn
 have hroom:(l.length+1)*(i.bytes+1)≤room:=Nat.le_trans (Nat.mul_le_mul (by omega:l.length+1≤1000000) (by omega:i.bytes+1≤1000000)) (by decide)
 refine VVal.append (i:=i) hs hb (SlC.all hx hb2 (by rw [hxs,Enc.len,← hsz];omega)) hsT hxT hd hi hzs (by omega) hroom (by rw [cells_length,hsz]) h0 ?_
 have:cells (l++[a])=cells l++xs:=by rw [cells_append,hxs];simp [cells,encs]
 rw [← this]
 exact q
theorem VVal.not {t:TypeId} {x:Operand} {b:Bool} (hx:vev E.Γ L x=some (.p (.bool b))) (q:Q (.p (.bool (!b))) H nx):VVal E w ⟨dst,.unOp .not t x,ty,pos,af,gd⟩ L H nx Q :=
 VVal.quiet q fun m F σ tt h1 h2=>by
  refine ⟨.bool (!b),fun _=>?_,.p (.bool _)⟩
  have hb:=vev_bool h1 h2 hx
  simp only [aval,aop,hb]
  cases b<;>rfl
theorem VWp.condSeq_bool {bn:Nat} {c:Operand} {a b k:Code} {Q:AExit→Frame→Heap→Nat→Prop} (t:Bool) (hc:vev E.Γ L c=some (.p (.bool t))) (ht:t=true→VWp E bn (.seq a k) L H nx Q) (hf:t=false→VWp E bn (.seq b k) L H nx Q) :
 VWp E bn (.seq (.cond c a b) k) L H nx Q:=VWp.condSeq t hc ht hf
theorem PV.int_eq {k:IntKind} {a b:Int} (h:a=b):(PV.p (.int k a))=.p (.int k b):=by rw [h]
theorem PV.bool_eq {a b:Bool} (h:a=b):(PV.p (.bool a))=.p (.bool b):=by rw [h]
end Go.Vm
set_option linter.unusedSimpArgs false
set_option linter.unusedVariables false
namespace Go.Vm
open Go.Am
variable {E:Env} {L:Frame} {H:Heap} {nx:Nat} {Q:PV→Heap→Nat→Prop} {w:Bool}
variable {dst:Option Tmp} {ty:TypeId} {pos:String} {af:Array Edge} {gd:Option (Nat×Bool)}
section
variable {bn:Nat} {ops:Array Oper} {op:Op} {l:List Oper} {i:Nat} {R:Frame→Heap→Nat→Prop}
theorem VOpsD.quiet (h:VVal E false ⟨dst,op,ty,pos,af,none⟩ L H nx fun r H' nx'=>VOpsD E bn ops (i+1) l (lput L dst r) H' nx' R):VOpsD E bn ops i (⟨dst,op,ty,pos,af,none⟩::l) L H nx R:=by
 intro B hB m F σ t h1 h2 h3
 refine AOpsD.cons (guardIs.wanted (L:=L) h1 h2 rfl) ((h (m.at m.size) F σ t (h1.at _) (RL.at (Γ:=E.Γ) _ h2)).mono ?_)
 rintro v m' ⟨r,H',nx',F',σ',q,c1,c2,c3,c4⟩
 refine ⟨.inr (.inl (c4 rfl m.size (Nat.le_refl _) (Nat.le_refl _))),?_⟩
 exact q B hB _ F' σ' _ (c1.at _) (RL.at (Γ:=E.Γ) _ (((RL.at (Γ:=E.Γ) _ h2).step c3 (h1.at _)).put c2)) (h3.trans c3.at)
theorem VOpsD.quietTake {j d:Nat} {want:Bool} (hd:(ops[j]?).bind (·.dst)=some d) (hb:lget L d=some (.p (.bool want))) (h:VVal E false ⟨dst,op,ty,pos,af,some (j,want)⟩ L H nx fun r H' nx'=>VOpsD E bn ops (i+1) l (lput L dst r) H' nx' R) :
 VOpsD E bn ops i (⟨dst,op,ty,pos,af,some (j,want)⟩::l) L H nx R:=by
 intro B hB m F σ t h1 h2 h3
 refine AOpsD.cons (guardIs.wanted (L:=L) (w:=true) h1 h2 ⟨want,d,hd,hb,by cases want<;>rfl⟩) ((h (m.at m.size) F σ t (h1.at _) (RL.at (Γ:=E.Γ) _ h2)).mono ?_)
 rintro v m' ⟨r,H',nx',F',σ',q,c1,c2,c3,c4⟩
 refine ⟨.inr (.inl (c4 rfl m.size (Nat.le_refl _) (Nat.le_refl _))),?_⟩
 exact q B hB _ F' σ' _ (c1.at _) (RL.at (Γ:=E.Γ) _ (((RL.at (Γ:=E.Γ) _ h2).step c3 (h1.at _)).put c2)) (h3.trans c3.at)
theorem VOpsD.bar (hw:barrier E.P ops i=true) (h:VVal E true ⟨dst,op,ty,pos,af,none⟩ L H nx fun r H' nx'=>VOpsD E bn ops (i+1) l (lput L dst r) H' nx' R):VOpsD E bn ops i (⟨dst,op,ty,pos,af,none⟩::l) L H nx R:=VOpsD.cons rfl hw h
end
theorem Ghost.le (d:Nat) {v v0:PV} (hd:lget L d=some v) (hle:PLe v v0):Ghost E L H nx ((d,v0)::L) H nx:=fun B m F σ t h1 h2 h3=>by
 refine ⟨F,σ,h1,fun i x hi=>?_,h3⟩
 rw [lget_cons] at hi
 by_cases e:d=i
 ·rw [if_pos e] at hi;cases hi;subst e;exact RP.le hle (h2 d v hd)
 ·rw [if_neg e] at hi;exact h2 i x hi
theorem Ctx.move {Γ:Nat→Option (List Value×TypeId)} {m m':Mem} {F:Nat→Prop} {σ:Nat→Value} {b0:Nat} {x0 x':HB} {s':Value} (h:Ctx Γ m F σ H nx) (hb:hget H b0=some x0)
 (hsz:m.size≤m'.size) (hget':∀ c,c<m.size→blkOf (σ b0)≠some c→m'.get c=m.get c) (hlow:∀ k,k≤m.low→k≤m.size→(∀ c,blkOf (σ b0)=some c→k≤c)→k≤m'.low)
 (hblk:∀ c,blkOf s'=some c→blkOf (σ b0)=some c∨m.size≤c) (hr:RB m' F (htag ((nx,x')::hdel H b0)) (upd σ nx s') (nx+1) s' x') :
 Ctx Γ m' F (upd σ nx s') ((nx,x')::hdel H b0) (nx+1)∧Step m F σ H nx m' F (upd σ nx s') ((nx,x')::hdel H b0) (nx+1):=by
 have hown:∀ c,blkOf (σ b0)=some c→own H σ c:=fun c hc=>⟨b0,x0,hb,hc⟩
 have hfz:∀ c,F c→F c∧m'.get c=m.get c:=fun c hc=>⟨hc,hget' c (h.fr c hc) fun e=>(h.notF (hown c e)).1 hc⟩
 have hN:Names nx (htag H) σ (htag ((nx,x')::hdel H b0)) (upd σ nx s'):=fun b hbn=>by
  rw [htag_cons,if_neg (by omega),htag_hdel,upd_other _ _ (by omega)]
  split
  ·exact ⟨trivial,fun _ _ _=>rfl⟩
  ·exact ⟨TLe.refl _,fun _ _ _=>rfl⟩
 have hg0:hget ((nx,x')::hdel H b0) nx=some x':=by rw [hget_cons,if_pos rfl]
 have hgo:∀ b y,hget ((nx,x')::hdel H b0) b=some y→b≠nx→b≠b0∧hget H b=some y:=fun b y hy e=>by
  rw [hget_cons,if_neg (Ne.symm e),hget_hdel] at hy
  split at hy
  ·cases hy
  ·rename_i hne;exact ⟨Ne.symm hne,hy⟩
 refine ⟨⟨fun c hc=>Nat.lt_of_lt_of_le (h.fr c hc) hsz,?_,?_,?_⟩,⟨hsz,fun c hc ho=>hget' c hc fun e=>ho (hown c e),fun _ h=>h,fun _ _ h=>.inl h,?_,Nat.le_succ _,hN,?_⟩⟩
 ·intro b y hy
  by_cases e:b=nx
  ·subst e
   rw [hg0] at hy;cases hy
   rw [upd_same]
   exact ⟨Nat.lt_succ_self _,hr⟩
  ·obtain ⟨hne,hy⟩:=hgo b y hy e
   obtain ⟨h1,h2⟩:=h.hp b y hy
   rw [upd_other _ _ e]
   refine ⟨by omega,h2.mono hfz hN (Nat.le_succ _) hsz fun c hc=>?_⟩
   have:=h.notF ⟨b,y,hy,hc⟩
   exact ⟨hget' c this.2 fun e'=>hne (h.sep b b0 y x0 c hy hb hc e'),this.1⟩
 ·intro b b' y y' c h1 h2 h3 h4
  by_cases e:b=nx<;>by_cases e':b'=nx
  ·omega
  ·subst e
   obtain ⟨hne,hy⟩:=hgo b' y' h2 e'
   rw [upd_same] at h3
   rw [upd_other _ _ e'] at h4
   rcases hblk c h3 with h5|h5
   ·exact absurd (h.sep b0 b' x0 y' c hb hy h5 h4).symm hne
   ·have:=(h.notF ⟨b',y',hy,h4⟩).2;omega
  ·subst e'
   obtain ⟨hne,hy⟩:=hgo b y h1 e
   rw [upd_same] at h4
   rw [upd_other _ _ e] at h3
   rcases hblk c h4 with h5|h5
   ·exact absurd (h.sep b b0 y x0 c hy hb h3 h5) hne
   ·have:=(h.notF ⟨b,y,hy,h3⟩).2;omega
  ·obtain ⟨_,hy⟩:=hgo b y h1 e
   obtain ⟨_,hy'⟩:=hgo b' y' h2 e'
   rw [upd_other _ _ e] at h3
   rw [upd_other _ _ e'] at h4
   exact h.sep b b' y y' c hy hy' h3 h4
 ·intro g vs e hg
  obtain ⟨h1,h2,h3⟩:=h.gl g vs e hg
  exact ⟨h1,(hfz g h1).2.trans h2,h3⟩
 ·rintro c hc ⟨b,y,hy,hbc⟩
  by_cases e:b=nx
  ·subst e
   rw [upd_same] at hbc
   rcases hblk c hbc with h5|h5
   ·exact hown c h5
   ·omega
  ·obtain ⟨_,hy⟩:=hgo b y hy e
   rw [upd_other _ _ e] at hbc
   exact ⟨b,y,hy,hbc⟩
 ·intro k h1 h2 h3
  exact hlow k h1 h2 fun c hc=>h3 c (hown c hc)
theorem appendMove' {s x:Operand} {sT xT e:TypeId} {xd:TypeDesc} {i:TypeInfo} {b n k:Nat} {cs xs:List FV} {z:Bool} (hs:vev E.Γ L s=some (.vec b n 0 n)) (hb:hget H b=some (.vec e cs n z)) (hx:SlC E.Γ L H nx x i.size xs k)
 (hsT:E.P.underlying sT=some (.slice e)) (hxT:E.P.underlying xT=some xd) (hd:∀ k,xd≠.int k) (hi:E.P.info? e=some i) (hzs:zeroSized i=true) (hroom:(n+k)*(i.bytes+1)≤room) (hl:cs.length=n*i.size) (hsz:0<i.size)
 (q:Q (.vec nx (n+k) 0 (n+k)) ((nx,.vec e (cs++xs) (n+k) z)::hdel H b) (nx+1)):VVal E true ⟨dst,.call { callee:=.builtin .append,args:=#[s,x],argTypes:=#[sT,xT] },ty,pos,af,gd⟩ L H nx Q:=by
 intro m F σ t h1 h2
 have hsub:=vev_vec h1 h2 hs hb
 obtain ⟨hx1,l,hx2,hx3,hx4⟩:=hx m F σ t h1 h2
 obtain ⟨hlt,hr⟩:=h1.hp b _ hb
 have hlenS:lenOf (ev t s)=some n:=by
  rcases hr with ⟨r1,r2,r3⟩|⟨c,g,vs,r1,_⟩
  ·rcases r3 with ⟨r3,_⟩|⟨b',o',g',r3,_⟩<;>rw [r3] at hsub<;>simp only [SubOf,nilSlice] at hsub<;>rw [hsub.1,r2]<;>rfl
  ·rw [r1] at hsub;simp only [SubOf] at hsub;rw [hsub];rfl
 have happ:∀ v m',appendCells m e i.size l k (ev t s)=some (v,m')→aappend E.P #[sT,xT] #[ev t s,ev t x] m=some (v,m'):=by
  intro v m' ha
  simp only [aappend,List.getElem?_toArray,List.getElem?_cons_zero,List.getElem?_cons_succ,hsT,hxT,hlenS,hi,hzs,Bool.not_true,Bool.false_eq_true,if_false]
  cases xd<;>first|exact absurd rfl (hd _)|(simp only [hx1,hx2,hx4,Bool.and_true,decide_eq_true_eq];rw [if_pos hroom];exact ha)
 have hfin:∀ v m' s',appendCells m e i.size l k (ev t s)=some (v,m')→s'=v→(Ctx E.Γ m' F (upd σ nx s') ((nx,.vec e (cs++xs) (n+k) z)::hdel H b) (nx+1)∧Step m F σ H nx m' F (upd σ nx s') ((nx,.vec e (cs++xs) (n+k) z)::hdel H b) (nx+1)) →
  (isCell v=true∧SubOf v 0 (n+k) v)→AVal E.P E.O E.G ⟨dst,.call { callee:=.builtin .append,args:=#[s,x],argTypes:=#[sT,xT] },ty,pos,af,gd⟩ ⟨t,m⟩ fun v m'=>∃ r H' nx' F' σ',Q r H' nx'∧Ctx E.Γ m' F' σ' H' nx'∧RP m' F' (htag H') σ' nx' r v∧Step m F σ H nx m' F' σ' H' nx'∧(true=false→Quiet m m'):=by
  rintro v m' s' ha rfl ⟨c1,c2⟩ ⟨hv1,hv2⟩
  refine AVal.op (v:=s') (m':=m') (fun _=>?_) ⟨_,_,_,F,_,q,c1,?_,c2,fun h=>by cases h⟩
  ·have:=happ _ _ ha
   simp only [aval,aop]
   simpa using this
  ·refine .vec (Nat.lt_succ_self _) hv1 fun j hj=>?_
   rw [htag_cons,if_pos rfl] at hj
   simp only [HB.tag,Option.some.injEq,Tg.vec.injEq] at hj
   refine ⟨by omega,fun _=>?_⟩
   rw [upd_same]
   exact hv2
 rcases hr with ⟨r1,r2,r3⟩|⟨c,g,vs,r1,r2,r3,r4,r5,r6,r7⟩
 ·have hv:blkOf (σ b)=none∧(ev t s=.slice none 0 0∧z=true∨(∃ b o g,ev t s=.slice (some ⟨b,o,some g⟩) 0 0)∧z=false):=by
   rcases r3 with ⟨r3,hz⟩|⟨b',o',g',r3,hz⟩
   ·rw [r3] at hsub ⊢;exact ⟨rfl,.inl ⟨hsub.1,hz⟩⟩
   ·rw [r3] at hsub ⊢;simp only [SubOf] at hsub;exact ⟨rfl,.inr ⟨⟨_,_,_,hsub.1⟩,hz⟩⟩
  subst r1;subst r2
  rcases Nat.eq_zero_or_pos k with h0|h0
  ·subst h0
   have hxs:xs=[]:=by
    have hl0:l.length=0:=by rw [sliceCells_length hx2];omega
    rw [List.eq_nil_of_length_eq_zero hl0] at hx3
    cases hx3;rfl
   subst hxs
   have ha:appendCells m e i.size l 0 (ev t s)=some (ev t s,m):=by
    rcases hv.2 with ⟨hv,_⟩|⟨⟨_,_,_,hv⟩,_⟩<;>rw [hv]<;>simp [appendCells]
   refine hfin _ _ _ ha rfl ?_ (by rcases hv.2 with ⟨hv,_⟩|⟨⟨_,_,_,hv⟩,_⟩<;>rw [hv]<;>refine ⟨rfl,?_⟩<;>simp [SubOf])
   refine h1.move hb (Nat.le_refl _) (fun _ _ _=>rfl) (fun _ h _ _=>h) (fun c hc=>by rcases hv.2 with ⟨hv,_⟩|⟨⟨_,_,_,hv⟩,_⟩<;>rw [hv] at hc<;>simp [blkOf] at hc) ?_
   refine .inl ⟨rfl,rfl,?_⟩
   rcases hv.2 with ⟨hv,hz⟩|⟨⟨b',o',g',hv⟩,hz⟩
   ·exact .inl ⟨hv,hz⟩
   ·exact .inr ⟨b',o',g',hv,hz⟩
  ·have ha:appendCells m e i.size l k (ev t s)=some (newSlice m e l k):=by
    rcases hv.2 with ⟨hv,_⟩|⟨⟨_,_,_,hv⟩,_⟩<;>rw [hv]<;>simp only [appendCells]<;>rw [if_neg (by omega)]
   refine hfin _ _ _ ha rfl ?_ ⟨rfl,by rw [Nat.zero_add];rfl⟩
   refine h1.move (x0:=.vec e [] 0 z) (x':=.vec e ([]++xs) (0+k) z) hb (by simp [newSlice,Mem.alloc]) (fun c hc _=>by (try simp only [newSlice]);rw [Mem.get_alloc,if_neg (by omega)])
    (fun k' k1 k2 _=>by simp only [newSlice,Mem.alloc];omega) (fun c hc=>by simp only [newSlice,blkOf,Option.some.injEq] at hc;right;omega) ?_
   refine .inr ⟨m.size,0,l,by simp [newSlice],by simp [newSlice,Mem.alloc],fun hf=>Nat.lt_irrefl _ (h1.fr _ hf),by (try simp only [newSlice]);rw [Mem.get_alloc,if_pos rfl],?_,hx4,fun h=>by omega⟩
   rw [List.nil_append]
   exact hx3.mono (fun c hf=>⟨hf,by (try simp only [newSlice]);rw [Mem.get_alloc,if_neg (by have:=h1.fr c hf;omega)]⟩)
 ·rw [r1] at hsub
  simp only [SubOf] at hsub
  have hlen:=r5.length
  have hold:takeN (n*i.size) (vs.drop 0)=some vs:=by
   rw [List.drop_zero,← hl,hlen];simp [takeN]
  have ha:appendCells m e i.size l k (ev t s)=some (.slice (some ⟨c,0,none⟩) (n+k) (g+1),m.put c (.cells (vs++l) e (g+1) false)):=by
   rw [hsub]
   simp only [appendCells,r4,beq_self_eq_true,decide_eq_true hsz,Bool.and_self,if_true,hold]
   simp
  have hput':∀ d,c≠d→(m.put c (.cells (vs++l) e (g+1) false)).get d=m.get d:=fun d hd=>by rw [Mem.get_put,if_neg hd]
  refine hfin _ _ _ ha rfl ?_ ⟨rfl,rfl⟩
  refine h1.move (x':=.vec e (cs++xs) (n+k) z) hb (Nat.le_refl _) (fun d _ hd=>hput' d fun e=>hd (by rw [r1,e];rfl)) (fun k' k1 k2 k3=>by
   have:=k3 c (by rw [r1];rfl)
   simp only [Mem.put];omega) (fun d hd=>.inl (by rw [r1];exact hd)) ?_
  refine .inr ⟨c,g+1,vs++l,rfl,r2,r3,by rw [Mem.get_put,if_pos rfl],?_,by rw [List.all_append,r6,hx4];rfl,fun h=>r7 (by omega)⟩
  exact (r5.append hx3).mono (fun d hd=>⟨hd,hput' d fun e=>r3 (e▸hd)⟩)
theorem takeN_take {n k:Nat} {l ws:List Value} (h:takeN n l=some ws):takeN (min k n) l=some (ws.take k):=by
 obtain ⟨rfl,hn⟩:=takeN_some h
 unfold takeN
 rw [if_pos (by omega),List.take_take]
theorem RFs.take {m:Mem} {F:Nat→Prop}:∀ {cs:List FV} {vs:List Value} (k:Nat),RFs m F cs vs→RFs m F (cs.take k) (vs.take k)
 |_,_,0,_=>by simp only [List.take_zero];exact .nil
 |_,_,_+1,.nil=>.nil
 |_,_,k+1,.cons h t=>.cons h (RFs.take k t)
theorem VVal.sliceF {t:TypeId} {x:Operand} {lo hi:Option Operand} {e:TypeId} {cs:List FV} {n a b sz:Nat} {inf:TypeInfo} (hx:vev E.Γ L x=some (.p (.lst e cs n))) (ht:E.P.underlying t=some (.slice e)) (hi':E.P.info? e=some inf) (hsz:inf.size=sz)
 (hlo:match lo with|none=>a=0|some o=>∃ k,vev E.Γ L o=some (.p (.int k (a:Int)))) (hhi:match hi with|none=>b=n|some o=>∃ k,vev E.Γ L o=some (.p (.int k (b:Int)))) (hab:a≤b) (hbn:b≤n) (hl:cs.length=n*sz)
 (q:Q (.p (.lst e ((cs.drop (a*sz)).take ((b-a)*sz)) (b-a))) H nx):VVal E w ⟨dst,.slice t x lo hi none,ty,pos,af,gd⟩ L H nx Q :=
 VVal.quiet q fun m F σ tt h1 h2=>by
  have hblo:bnd 0 (lo.map (ev tt))=some a:=by
   cases lo with
   |none=>simp only at hlo;rw [hlo];rfl
   |some o =>
    obtain ⟨k,hk⟩:=hlo
    simp only [Option.map_some,vev_int h1 h2 hk,bnd]
    rw [if_pos (by omega)];simp
  have hbhi:bnd n (hi.map (ev tt))=some b:=by
   cases hi with
   |none=>simp only at hhi;rw [hhi];rfl
   |some o =>
    obtain ⟨k,hk⟩:=hhi
    simp only [Option.map_some,vev_int h1 h2 hk,bnd]
    rw [if_pos (by omega)];simp
  have hbhi0:n=0→bnd 0 (hi.map (ev tt))=some 0:=fun h0=>by rw [h0] at hbhi;rw [hbhi];congr 1;omega
  have:=vev_rel h1 h2 hx
  generalize hv:ev tt x=v at this
  cases this with
  |p hr =>
   cases hr with
   |nil =>
    have hb0:b=0:=by omega
    have ha0:a=0:=by omega
    subst hb0;subst ha0
    refine ⟨.slice none 0 0,fun _=>?_,.p (by simpa using RF.nil e)⟩
    simp only [aval,aop,hv,aslice,Option.isSome_none,Option.map_none,Bool.false_and,Bool.false_eq_true,if_false,ht,hi',hblo,hbhi0 rfl]
    rfl
   |room e' b' o' g' =>
    have hb0:b=0:=by omega
    have ha0:a=0:=by omega
    subst hb0;subst ha0
    refine ⟨_,fun _=>?_,.p (by simpa using RF.room e b' o' g')⟩
    simp only [aval,aop,hv,aslice,Option.isSome_none,Option.map_none,Bool.false_and,Bool.false_eq_true,if_false,ht,hi',hblo,hbhi0 rfl]
    rfl
   |lst hF hm hw hr hc =>
    rename_i b' o g vs ws ro
    refine ⟨.slice (some ⟨b',o+a*sz,none⟩) (b-a) g,fun _=>?_,.p (.lst hF hm (ws:=(ws.drop (a*sz)).take ((b-a)*sz)) ?_ (RFs.take _ (RFs.drop _ hr)) (all_take (all_drop hc _) _))⟩
    ·simp only [aval,aop,hv,aslice,Option.isSome_none,Option.map_none,Bool.false_and,Bool.false_eq_true,if_false,ht,hi',hblo,hbhi,hm,hab,hbn,h1.fr _ hF,and_self,if_true,Option.map_some,hsz]
    ·have h3:=takeN_take (k:=(b-a)*sz) (takeN_drop (k:=a*sz) hw)
     rw [List.drop_drop] at h3
     rw [List.length_take,List.length_drop]
     exact h3
theorem cells_take {α:Type} [Enc α]:∀ (l:List α) (k:Nat),(cells l).take (k*Enc.size α)=cells (l.take k)
 |_,0=>by simp [cells,encs]
 |[],k+1=>by simp [cells,encs]
 |a::l,k+1=>by
  have ih:=cells_take l k
  simp only [cells,encs,List.take_succ_cons] at ih ⊢
  rw [List.take_append,Enc.len,Nat.succ_mul,← ih,List.take_of_length_le (by rw [Enc.len];omega)]
  congr 2;omega
theorem cells_drop' {α:Type} [Enc α]:∀ (l:List α) (k:Nat),(cells l).drop (k*Enc.size α)=cells (l.drop k)
 |_,0=>by simp [cells,encs]
 |[],k+1=>by simp [cells,encs]
 |a::l,k+1=>by
  have ih:=cells_drop' l k
  simp only [cells,encs,List.drop_succ_cons] at ih ⊢
  rw [List.drop_append,Enc.len,Nat.succ_mul,← ih,List.drop_eq_nil_of_le (by rw [Enc.len];omega),List.nil_append]
  congr 1;omega
theorem VVal.sliceTo {α:Type} {_:Enc α} {l:List α} {t:TypeId} {x o:Operand} {e:TypeId} {n b:Nat} {inf:TypeInfo} {k:IntKind} (hx:vev E.Γ L x=some (.p (.lst e (cells l) n))) (hhi:vev E.Γ L o=some (.p (.int k (b:Int)))) (ht:E.P.underlying t=some (.slice e)) (hi':E.P.info? e=some inf)
 (hsz:inf.size=Enc.size α) (hn:l.length=n) (hbn:b≤n) (q:Q (.p (.lst e (cells (l.take b)) b)) H nx):VVal E w ⟨dst,.slice t x none (some o) none,ty,pos,af,gd⟩ L H nx Q :=
 VVal.sliceF (a:=0) (b:=b) hx ht hi' hsz rfl ⟨k,hhi⟩ (Nat.zero_le _) hbn (by rw [cells_length,hn]) (by
  rw [Nat.zero_mul,List.drop_zero,Nat.sub_zero,cells_take];exact q)
theorem VVal.sliceFrom {α:Type} {_:Enc α} {l:List α} {t:TypeId} {x o:Operand} {e:TypeId} {n a:Nat} {inf:TypeInfo} {k:IntKind} (hx:vev E.Γ L x=some (.p (.lst e (cells l) n))) (hlo:vev E.Γ L o=some (.p (.int k (a:Int)))) (ht:E.P.underlying t=some (.slice e)) (hi':E.P.info? e=some inf)
 (hsz:inf.size=Enc.size α) (hn:l.length=n) (han:a≤n) (q:Q (.p (.lst e (cells (l.drop a)) (n-a))) H nx):VVal E w ⟨dst,.slice t x (some o) none none,ty,pos,af,gd⟩ L H nx Q :=
 VVal.sliceF (a:=a) (b:=n) hx ht hi' hsz ⟨k,hlo⟩ rfl han (Nat.le_refl _) (by rw [cells_length,hn]) (by
  rw [cells_drop',List.take_of_length_le (by rw [cells_length,List.length_drop,hn];exact Nat.le_refl _)];exact q)
theorem VVal.shlOne {t t2:TypeId} {x y:Operand} {k':IntKind} {n:Nat} (hx:vev E.Γ L x=some (.p (.int .i64 1))) (hy:vev E.Γ L y=some (.p (.int k' (n:Int)))) (hn:n≤62) (q:Q (.p (.int .i64 ((2 ^ n:Nat):Int))) H nx) :
 VVal E w ⟨dst,.binOp .shl t x y t2,ty,pos,af,gd⟩ L H nx Q:=by
 refine VVal.shl hx hy (by omega) ?_
 have h1:(min (n:Int).toNat IntKind.i64.bits)=n:=by simp only [Int.toNat_natCast,IntKind.bits];omega
 have h2:(2:Nat) ^ n≤2 ^ 62:=Nat.pow_le_pow_right (by omega) hn
 have h3:(1:Int)*2 ^ n=((2 ^ n:Nat):Int):=by rw [Int.one_mul];exact (Int.natCast_pow 2 n).symm
 have h4:((2 ^ n:Nat):Int)<9223372036854775808:=Int.ofNat_lt.2 (Nat.lt_of_le_of_lt h2 (by decide))
 have h5:(-9223372036854775808:Int)≤((2 ^ n:Nat):Int):=Int.le_trans (by decide) (Int.natCast_nonneg _)
 rw [h1,h3,wrap_i64 ⟨h5,h4⟩]
 exact q
theorem VVal.shrN {t t2:TypeId} {x y:Operand} {k k':IntKind} {m n:Nat} (hx:vev E.Γ L x=some (.p (.int k (m:Int)))) (hy:vev E.Γ L y=some (.p (.int k' (n:Int)))) (hn:n≤k.bits) (q:Q (.p (.int k ((m / 2 ^ n:Nat):Int))) H nx) :
 VVal E w ⟨dst,.binOp .shr t x y t2,ty,pos,af,gd⟩ L H nx Q:=by
 refine VVal.shr hx hy (by omega) ?_
 have h1:(min (n:Int).toNat k.bits)=n:=by simp only [Int.toNat_natCast];omega
 have h3:((m:Int).fdiv (2 ^ n))=((m / 2 ^ n:Nat):Int):=by
  rw [Int.fdiv_eq_ediv_of_nonneg _ (by exact Int.le_of_lt (Int.pow_pos (by omega)))]
  rw [Int.natCast_ediv,Int.natCast_pow];rfl
 rw [h1,h3]
 exact q
end Go.Vm
set_option linter.unusedSimpArgs false
set_option linter.unusedVariables false
namespace Go.Vm
open Go.Am
variable {E:Env} {L:Frame} {H:Heap} {nx:Nat} {Q:PV→Heap→Nat→Prop} {w:Bool}
variable {dst:Option Tmp} {ty:TypeId} {pos:String} {af:Array Edge} {gd:Option (Nat×Bool)}
theorem ofInt_nat (m:Nat) (h:m<2 ^ 64):(BitVec.ofInt 64 (m:Int)).toNat=m:=by
 rw [BitVec.toNat_ofInt,Int.emod_eq_of_lt (by omega) (Int.ofNat_lt.2 h)]
 simp
theorem wrap_u64 {n:Int} (h0:0≤n) (h:n<18446744073709551616):IntKind.u64.wrap n=n:=by
 have e:IntKind.u64.wrap n=n % 2^64:=by
  simp [IntKind.wrap,IntKind.signed,IntKind.bits]
  try omega
 rw [e]
 omega
theorem vint_and {k:IntKind} {m n:Nat} (hk:k=.i64∧m<2 ^ 63∨k=.u64∧m<2 ^ 64) (hn:n<2 ^ 64):vint .and k m n=some (.int k ((m &&& n:Nat):Int)):=by
 have hm:m<2 ^ 64:=by rcases hk with ⟨_,h⟩|⟨_,h⟩<;>omega
 have e:(BitVec.ofInt 64 (m:Int) &&& BitVec.ofInt 64 (n:Int)).toNat=m &&& n:=by rw [BitVec.toNat_and,ofInt_nat m hm,ofInt_nat n hn]
 have hle:m &&& n≤m:=Nat.and_le_left
 rcases hk with ⟨rfl,h⟩|⟨rfl,h⟩
 ·show some (FV.int .i64 (IntKind.i64.wrap ((BitVec.ofInt 64 (m:Int) &&& BitVec.ofInt 64 (n:Int)).toNat:Int)))=_
  rw [e,wrap_i64 ⟨by omega,by omega⟩]
 ·show some (FV.int .u64 (IntKind.u64.wrap ((BitVec.ofInt 64 (m:Int) &&& BitVec.ofInt 64 (n:Int)).toNat:Int)))=_
  rw [e,wrap_u64 (by omega) (by omega)]
theorem vint_or {m n:Nat} (hm:m<2 ^ 64) (hn:n<2 ^ 64):vint .or .u64 m n=some (.int .u64 ((m ||| n:Nat):Int)):=by
 have e:(BitVec.ofInt 64 (m:Int) ||| BitVec.ofInt 64 (n:Int)).toNat=m ||| n:=by rw [BitVec.toNat_or,ofInt_nat m hm,ofInt_nat n hn]
 have hlt:m ||| n<2 ^ 64:=Nat.or_lt_two_pow hm hn
 show some (FV.int .u64 (IntKind.u64.wrap ((BitVec.ofInt 64 (m:Int) ||| BitVec.ofInt 64 (n:Int)).toNat:Int)))=_
 rw [e,wrap_u64 (by omega) (by omega)]
theorem vint_andNot {m n:Nat} (hm:m<2 ^ 64) (hn:n<2 ^ 64):vint .andNot .u64 m n=some (.int .u64 ((m ^^^ (m &&& n):Nat):Int)):=by
 have e:(BitVec.ofInt 64 (m:Int) &&& ~~~ BitVec.ofInt 64 (n:Int)).toNat=m ^^^ (m &&& n):=by
  have hx:BitVec.ofInt 64 (m:Int) &&& ~~~ BitVec.ofInt 64 (n:Int)=BitVec.ofInt 64 (m:Int) ^^^ (BitVec.ofInt 64 (m:Int) &&& BitVec.ofInt 64 (n:Int)):=by
   ext i hi
   simp only [BitVec.getElem_and,BitVec.getElem_not,BitVec.getElem_xor]
   cases (BitVec.ofInt 64 (m:Int))[i]<;>cases (BitVec.ofInt 64 (n:Int))[i]<;>rfl
  rw [hx,BitVec.toNat_xor,BitVec.toNat_and,ofInt_nat m hm,ofInt_nat n hn]
 have hlt:m ^^^ (m &&& n)<2 ^ 64:=Nat.xor_lt_two_pow hm (Nat.lt_of_le_of_lt Nat.and_le_left hm)
 show some (FV.int .u64 (IntKind.u64.wrap ((BitVec.ofInt 64 (m:Int) &&& ~~~ BitVec.ofInt 64 (n:Int)).toNat:Int)))=_
 rw [e,wrap_u64 (by omega) (by omega)]
theorem VVal.and1 {t t2:TypeId} {x y:Operand} {m:Nat} (hx:vev E.Γ L x=some (.p (.int .i64 (m:Int)))) (hy:vev E.Γ L y=some (.p (.int .i64 1))) (hm:m<2 ^ 63) (q:Q (.p (.int .i64 ((m % 2:Nat):Int))) H nx) :
 VVal E w ⟨dst,.binOp .and t x y t2,ty,pos,af,gd⟩ L H nx Q:=VVal.int hx hy (r:=.int .i64 ((m % 2:Nat):Int)) (by
  have:=vint_and (k:=.i64) (m:=m) (n:=1) (.inl ⟨rfl,hm⟩) (by decide)
  rw [Nat.and_one_is_mod] at this
  exact this) q
theorem VVal.and1U {t t2:TypeId} {x y:Operand} {m:Nat} (hx:vev E.Γ L x=some (.p (.int .u64 (m:Int)))) (hy:vev E.Γ L y=some (.p (.int .u64 1))) (hm:m<2 ^ 64) (q:Q (.p (.int .u64 ((m % 2:Nat):Int))) H nx) :
 VVal E w ⟨dst,.binOp .and t x y t2,ty,pos,af,gd⟩ L H nx Q:=VVal.int hx hy (r:=.int .u64 ((m % 2:Nat):Int)) (by
  have:=vint_and (k:=.u64) (m:=m) (n:=1) (.inr ⟨rfl,hm⟩) (by decide)
  rw [Nat.and_one_is_mod] at this
  exact this) q
theorem VVal.and1B {t t2:TypeId} {x y:Operand} {m:Nat} (hx:vev E.Γ L x=some (.p (.int .u8 (m:Int)))) (hy:vev E.Γ L y=some (.p (.int .u8 1))) (hm:m<256) (q:Q (.p (.int .u8 ((m % 2:Nat):Int))) H nx) :
 VVal E w ⟨dst,.binOp .and t x y t2,ty,pos,af,gd⟩ L H nx Q:=VVal.int hx hy (r:=.int .u8 ((m % 2:Nat):Int)) (by
  have e1:(BitVec.ofInt 8 (m:Int)).toNat=m:=by
   rw [BitVec.toNat_ofInt,Int.emod_eq_of_lt (by omega) (Int.ofNat_lt.2 hm)];simp
  have e:(BitVec.ofInt 8 (m:Int) &&& BitVec.ofInt 8 1).toNat=m % 2:=by
   rw [BitVec.toNat_and,e1,show (BitVec.ofInt 8 1).toNat=1 by decide,Nat.and_one_is_mod]
  show some (FV.int .u8 (IntKind.u8.wrap ((BitVec.ofInt 8 (m:Int) &&& BitVec.ofInt 8 1).toNat:Int)))=_
  rw [e]
  have e2:IntKind.u8.wrap ((m % 2:Nat):Int)=((m % 2:Nat):Int) % 256:=by
   simp [IntKind.wrap,IntKind.signed,IntKind.bits]
  rw [e2,Int.emod_eq_of_lt (by omega) (by omega)]) q
theorem VVal.andU {t t2:TypeId} {x y:Operand} {m n:Nat} (hx:vev E.Γ L x=some (.p (.int .u64 (m:Int)))) (hy:vev E.Γ L y=some (.p (.int .u64 (n:Int)))) (hm:m<2 ^ 64) (hn:n<2 ^ 64) (q:Q (.p (.int .u64 ((m &&& n:Nat):Int))) H nx) :
 VVal E w ⟨dst,.binOp .and t x y t2,ty,pos,af,gd⟩ L H nx Q:=VVal.int hx hy (vint_and (.inr ⟨rfl,hm⟩) hn) q
theorem VVal.orU {t t2:TypeId} {x y:Operand} {m n:Nat} (hx:vev E.Γ L x=some (.p (.int .u64 (m:Int)))) (hy:vev E.Γ L y=some (.p (.int .u64 (n:Int)))) (hm:m<2 ^ 64) (hn:n<2 ^ 64) (q:Q (.p (.int .u64 ((m ||| n:Nat):Int))) H nx) :
 VVal E w ⟨dst,.binOp .or t x y t2,ty,pos,af,gd⟩ L H nx Q:=VVal.int hx hy (vint_or hm hn) q
theorem VVal.andNotU {t t2:TypeId} {x y:Operand} {m n:Nat} (hx:vev E.Γ L x=some (.p (.int .u64 (m:Int)))) (hy:vev E.Γ L y=some (.p (.int .u64 (n:Int)))) (hm:m<2 ^ 64) (hn:n<2 ^ 64) (q:Q (.p (.int .u64 ((m ^^^ (m &&& n):Nat):Int))) H nx) :
 VVal E w ⟨dst,.binOp .andNot t x y t2,ty,pos,af,gd⟩ L H nx Q:=VVal.int hx hy (vint_andNot hm hn) q
theorem VVal.shlOneU {t t2:TypeId} {x y:Operand} {k':IntKind} {n:Nat} (hx:vev E.Γ L x=some (.p (.int .u64 1))) (hy:vev E.Γ L y=some (.p (.int k' (n:Int)))) (hn:n<64) (q:Q (.p (.int .u64 ((2 ^ n:Nat):Int))) H nx) :
 VVal E w ⟨dst,.binOp .shl t x y t2,ty,pos,af,gd⟩ L H nx Q:=by
 refine VVal.shl hx hy (by omega) ?_
 have h1:(min (n:Int).toNat IntKind.u64.bits)=n:=by simp only [Int.toNat_natCast,IntKind.bits];omega
 have h2:(2:Nat) ^ n≤2 ^ 63:=Nat.pow_le_pow_right (by omega) (by omega)
 have h3:(1:Int)*2 ^ n=((2 ^ n:Nat):Int):=by rw [Int.one_mul];exact (Int.natCast_pow 2 n).symm
 have h4:((2 ^ n:Nat):Int)<18446744073709551616:=Int.ofNat_lt.2 (Nat.lt_of_le_of_lt h2 (by decide))
 rw [h1,h3,wrap_u64 (Int.natCast_nonneg _) h4]
 exact q
theorem VVal.remN {t t2:TypeId} {x y:Operand} {k:IntKind} {m n:Nat} (hx:vev E.Γ L x=some (.p (.int k (m:Int)))) (hy:vev E.Γ L y=some (.p (.int k (n:Int)))) (hn:0<n) (q:Q (.p (.int k ((m % n:Nat):Int))) H nx) :
 VVal E w ⟨dst,.binOp .rem t x y t2,ty,pos,af,gd⟩ L H nx Q:=VVal.int hx hy (r:=.int k ((m % n:Nat):Int)) (by
  simp only [vint]
  rw [if_neg (by omega),Int.tmod_eq_emod_of_nonneg (by omega),Int.natCast_emod]) q
theorem VVal.remI {t t2:TypeId} {x y:Operand} {k:IntKind} {a c:Int} (hx:vev E.Γ L x=some (.p (.int k a))) (hy:vev E.Γ L y=some (.p (.int k c))) (ha:0≤a) (hc:0<c) (q:Q (.p (.int k (a % c))) H nx) :
 VVal E w ⟨dst,.binOp .rem t x y t2,ty,pos,af,gd⟩ L H nx Q:=VVal.int hx hy (r:=.int k (a % c)) (by
  simp only [vint]
  rw [if_neg (by omega),Int.tmod_eq_emod_of_nonneg ha]) q
theorem VVal.quoI {t t2:TypeId} {x y:Operand} {a c:Int} (hx:vev E.Γ L x=some (.p (.int .i64 a))) (hy:vev E.Γ L y=some (.p (.int .i64 c))) (ha:0≤a∧a<9223372036854775808) (hc:0<c) (q:Q (.p (.int .i64 (a / c))) H nx) :
 VVal E w ⟨dst,.binOp .quo t x y t2,ty,pos,af,gd⟩ L H nx Q:=VVal.int hx hy (r:=.int .i64 (a / c)) (by
  simp only [vint]
  have h1:0≤a / c:=Int.ediv_nonneg ha.1 (by omega)
  have h2:a / c≤a:=Int.ediv_le_self c ha.1
  rw [if_neg (by omega),Int.tdiv_eq_ediv_of_nonneg ha.1,wrap_i64 ⟨by omega,by omega⟩]) q
theorem VVal.convI {s d:TypeId} {x:Operand} {k':IntKind} {n:Int} {sd:TypeDesc} (hx:vev E.Γ L x=some (.p (.int k' n))) (hs:E.P.underlying s=some sd) (hns:notSl sd=true) (hd:E.P.underlying d=some (.int .i64)) (hn:-9223372036854775808≤n∧n<9223372036854775808) (q:Q (.p (.int .i64 n)) H nx) :
 VVal E w ⟨dst,.convert s d x,ty,pos,af,gd⟩ L H nx Q:=VVal.convInt hx hs hns hd (by rw [wrap_i64 hn];exact q)
theorem VVal.convN {s d:TypeId} {x:Operand} {k':IntKind} {n:Nat} {sd:TypeDesc} (hx:vev E.Γ L x=some (.p (.int k' (n:Int)))) (hs:E.P.underlying s=some sd) (hns:notSl sd=true) (hd:E.P.underlying d=some (.int .i64)) (hn:n<2 ^ 63) (q:Q (.p (.int .i64 (n:Int))) H nx) :
 VVal E w ⟨dst,.convert s d x,ty,pos,af,gd⟩ L H nx Q:=VVal.convInt hx hs hns hd (by rw [wrap_i64 ⟨by omega,by omega⟩];exact q)
section
variable {bn:Nat} {ops:Array Oper} {op:Op} {l:List Oper} {i:Nat} {R:Frame→Heap→Nat→Prop}
theorem VOps.guardB {j d:Nat} {want:Bool} (b:Bool) (hd:(ops[j]?).bind (·.dst)=some d) (hb:lget L d=some (.p (.bool b)))
 (ht:b=true→VOps E bn ops (⟨dst,op,ty,pos,af,some (j,want)⟩::l) ((d,.p (.bool true))::L) H nx R) (hf:b=false→VOps E bn ops (⟨dst,op,ty,pos,af,some (j,want)⟩::l) ((d,.p (.bool false))::L) H nx R) :
 VOps E bn ops (⟨dst,op,ty,pos,af,some (j,want)⟩::l) L H nx R :=
 VOps.guard (p:=b=true) hd (by rw [hb];cases b<;>rfl) ht (fun h=>hf (by simpa using h))
theorem VOpsD.guardB {j d:Nat} {want:Bool} (b:Bool) (hd:(ops[j]?).bind (·.dst)=some d) (hb:lget L d=some (.p (.bool b)))
 (ht:b=true→VOpsD E bn ops i (⟨dst,op,ty,pos,af,some (j,want)⟩::l) ((d,.p (.bool true))::L) H nx R) (hf:b=false→VOpsD E bn ops i (⟨dst,op,ty,pos,af,some (j,want)⟩::l) ((d,.p (.bool false))::L) H nx R) :
 VOpsD E bn ops i (⟨dst,op,ty,pos,af,some (j,want)⟩::l) L H nx R :=
 VOpsD.guard (p:=b=true) hd (by rw [hb];cases b<;>rfl) ht (fun h=>hf (by simpa using h))
end
theorem undef_wanted {Γ:Nat→Option (List Value×TypeId)} {m:Mem} {F:Nat→Prop} {T:Nat→Option Tg} {σ:Nat→Value} {t:Tr Value} {ops:Array Oper} {o:Oper} {j d:Nat} {want:Bool} (hl:RL m F T σ nx L t) (hg:o.guard=some (j,want)) (hd:(ops[j]?).bind (·.dst)=some d) (hb:lget L d=some (.tup [])) :
 Region.wanted o (ayielded ops t)=false:=by
 have h:=hl d _ hb
 generalize hv:tget t d=v at h
 cases h with
 |tup h =>
  cases h
  unfold Region.wanted
  rw [hg]
  simp only [ayielded,hd,hv]
  rfl
section
variable {bn:Nat} {ops:Array Oper} {op:Op} {l:List Oper} {i:Nat} {R:Frame→Heap→Nat→Prop}
theorem VOps.dropU {j d:Nat} {want:Bool} (hd:(ops[j]?).bind (·.dst)=some d) (hb:lget L d=some (.tup [])) (h:VOps E bn ops l (lput L dst (.tup [])) H nx R):VOps E bn ops (⟨dst,op,ty,pos,af,some (j,want)⟩::l) L H nx R:=by
 intro B hB m F σ t h1 h2 h3
 exact AOps.skip (undef_wanted (Γ:=E.Γ) h2 rfl hd hb) (h B hB m F σ _ h1 (h2.put (.tup .nil)) h3)
theorem VOpsD.dropU {j d:Nat} {want:Bool} (hd:(ops[j]?).bind (·.dst)=some d) (hb:lget L d=some (.tup [])) (h:VOpsD E bn ops (i+1) l (lput L dst (.tup [])) H nx R):VOpsD E bn ops i (⟨dst,op,ty,pos,af,some (j,want)⟩::l) L H nx R:=by
 intro B hB m F σ t h1 h2 h3
 exact AOpsD.skip (undef_wanted (Γ:=E.Γ) h2 rfl hd hb) (h B hB _ F σ _ (h1.at _) (RL.at (Γ:=E.Γ) _ (h2.put (.tup .nil))) (h3.trans (Step.at0 _ _ _ _ _ _ (Nat.le_refl _))))
end
theorem room_ok {n k b:Nat} (h1:n+k<1000000) (h2:b<1000000):(n+k)*(b+1)≤room:=Nat.le_trans (Nat.mul_le_mul (by omega:n+k≤1000000) (by omega:b+1≤1000000)) (by decide)
theorem VVal.appendL {α:Type} {_:Enc α} {l r:List α} {s x:Operand} {sT xT e e2:TypeId} {xd:TypeDesc} {i:TypeInfo} {b n k:Nat} {z:Bool} (hs:vev E.Γ L s=some (.vec b n 0 n)) (hb:hget H b=some (.vec e (cells l) n z)) (hx:vev E.Γ L x=some (.p (.lst e2 (cells r) k))) (hn:l.length=n) (hk:r.length=k)
 (hsT:E.P.underlying sT=some (.slice e)) (hxT:E.P.underlying xT=some xd) (hd:∀ k,xd≠.int k) (hi:E.P.info? e=some i) (hsz:Enc.size α=i.size) (hzs:zeroSized i=true) (h0:0<i.size) (hby:i.bytes<1000000) (hlen:l.length+r.length<1000000)
 (q:Q (.vec nx (l.length+r.length) 0 (l.length+r.length)) ((nx,.vec e (cells (l++r)) (l.length+r.length) z)::hdel H b) (nx+1)):VVal E true ⟨dst,.call { callee:=.builtin .append,args:=#[s,x],argTypes:=#[sT,xT] },ty,pos,af,gd⟩ L H nx Q:=by
 subst hn;subst hk
 refine appendMove' (i:=i) hs hb (SlC.lst hx (by rw [cells_length,hsz])) hsT hxT hd hi hzs (room_ok hlen hby) (by rw [cells_length,hsz]) h0 ?_
 rw [← cells_append]
 exact q
theorem VVal.appendL0 {α:Type} {_:Enc α} {r:List α} {s x:Operand} {sT xT e e2:TypeId} {xd:TypeDesc} {i:TypeInfo} {b k:Nat} {z:Bool} (hs:vev E.Γ L s=some (.vec b 0 0 0)) (hb:hget H b=some (.vec e [] 0 z)) (hx:vev E.Γ L x=some (.p (.lst e2 (cells r) k))) (hk:r.length=k)
 (hsT:E.P.underlying sT=some (.slice e)) (hxT:E.P.underlying xT=some xd) (hd:∀ k,xd≠.int k) (hi:E.P.info? e=some i) (hsz:Enc.size α=i.size) (hzs:zeroSized i=true) (h0:0<i.size) (hby:i.bytes<1000000) (hlen:r.length<1000000)
 (q:Q (.vec nx r.length 0 r.length) ((nx,.vec e (cells r) r.length z)::hdel H b) (nx+1)):VVal E true ⟨dst,.call { callee:=.builtin .append,args:=#[s,x],argTypes:=#[sT,xT] },ty,pos,af,gd⟩ L H nx Q:=by
 refine VVal.appendL (l:=([]:List α)) hs hb hx rfl hk hsT hxT hd hi hsz hzs h0 hby (by simpa using hlen) ?_
 simpa using q
theorem VVal.lenNil {x:Operand} {t e':TypeId} (hx:vev E.Γ L x=some (.p (.val (.slice none 0 0)))) (ht:E.P.underlying t=some (.slice e')) (q:Q (.p (.int .i64 0)) H nx) :
 VVal E w ⟨dst,.call { callee:=.builtin .len,args:=#[x],argTypes:=#[t] },ty,pos,af,gd⟩ L H nx Q :=
 VVal.quiet q fun m F σ tt c1 c2=>by
  have:=vev_rel c1 c2 hx
  generalize hv:ev tt x=v at this
  refine ⟨.int .i64 0,fun _=>?_,.p (.int _ _)⟩
  cases this with|p h=>cases h;simp [aval,aop,alen,ht,hv]
theorem VOps.atOp (d:Nat) {bn:Nat} {ops:Array Oper} {op:Op} {l:List Oper} {R:Frame→Heap→Nat→Prop} (h:VOps E bn ops (⟨some d,op,ty,pos,af,gd⟩::l) L H nx R):VOps E bn ops (⟨some d,op,ty,pos,af,gd⟩::l) L H nx R:=h
theorem VOpsD.atOp (d:Nat) {bn i:Nat} {ops:Array Oper} {op:Op} {l:List Oper} {R:Frame→Heap→Nat→Prop} (h:VOpsD E bn ops i (⟨some d,op,ty,pos,af,gd⟩::l) L H nx R):VOpsD E bn ops i (⟨some d,op,ty,pos,af,gd⟩::l) L H nx R:=h
theorem VWp.at (n:Nat) {bn:Nat} {ops:Array Oper} {b:Bool} {k:Code} {Q:AExit→Frame→Heap→Nat→Prop} (h:VWp E bn (.seq (.region n ops b) k) L H nx Q):VWp E bn (.seq (.region n ops b) k) L H nx Q:=h
theorem VWp.atEnd (n:Nat) {bn:Nat} {ops:Array Oper} {b:Bool} {Q:AExit→Frame→Heap→Nat→Prop} (h:VWp E bn (.region n ops b) L H nx Q):VWp E bn (.region n ops b) L H nx Q:=h
theorem lst_len {α:Type} {_:Enc α} {e:TypeId} {l:List α} {n:Nat} (h:n=l.length):(PV.p (.lst e (cells l) n))=lst e l:=by rw [h]
theorem le_dec {a b:Nat} (h:Nat.ble a b=true):a≤b:=by simpa using h
theorem lt_dec {a b:Nat} (h:Nat.blt a b=true):a<b:=by simpa using h
end Go.Vm
