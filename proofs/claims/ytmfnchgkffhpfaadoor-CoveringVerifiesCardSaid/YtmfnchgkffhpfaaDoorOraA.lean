/-
  The values' layer: the law over any sound oracle; an oracle for slices.Grow at the nil slice (it makes an own slice without elements). No condition. Nothing of one program stands here.
-/
import Derived.Test.YtmfnchgkffhpfaaDoorVmD
import Derived.Laws.AppendOwn
set_option linter.unusedSimpArgs false
set_option linter.unusedVariables false
namespace Go.Vm
open Go.Am
section
variable {P:Program}
noncomputable def lawEnvX (P:Program) (F:Nat) (laid:List (String×DataW Unit)) (O:Oracle):Env:=⟨P,O,globList P F laid,gam P F laid⟩
theorem lib_funX {O:Oracle} {F:Nat} {laid:List (String×DataW Unit)} {ls:List (FuncId×LibF)} {f:FuncId} {Fn:LibF} {xs:List FV} {r:FV} (hO:O f=libO (globList P F laid) (globMem P F laid) ls f) (hf:ls.lookup f=some Fn)
 (h:∀ m F' as,RFs m F' xs as→∃ v,Fn as m=some v∧RF m F' r v):VFun (lawEnvX P F laid O) f xs (.p r):=by
 intro m F' σ as h1 h2
 have h2':RFs m F' xs as:=RFs.ofRPs h2
 obtain ⟨v,h3,h4⟩:=h m F' as h2'
 have hg:∀ k∈globList P F laid,m.get k=(globMem P F laid).get k:=fun k hk=>by
  obtain ⟨hlt,e,l,hgl⟩:=globList_mem hk
  have:=(h1.gl k l e (by simp only [lawEnvX,gam,if_pos hlt,hgl,Option.map_some])).2.1
  rw [this,globMem_get hlt,hgl]
 refine ACalls.oracle (F:=fun as m=>open Classical in if ∀ k∈globList P F laid,m.get k=(globMem P F laid).get k then (Fn as m).map fun v=>(v,m) else none) (m':=m) (v:=v) (by simp only [lawEnvX,hO,libO,hf]) ?_
  ⟨_,_,_,F',σ,⟨rfl,rfl,rfl⟩,h1,.p h4,Step.refl _ _ _ _ _⟩
 rw [if_pos hg,h3];rfl
variable {H:Type} {enc:TypeId×Value→H} {W:World} {held:Bool}
theorem lawX {r:Go.Reach} {b0 F:Nat} {laid:List (String×DataW Unit)} {O:Oracle} {f:FuncId} {ts:List TypeId} {args:Array Value} {ds:List (DataW H)} {ps:List MemPlace}
 (hL:laidMet P laid W) (hA:DataW.TrodAll enc P W 0 (fun _=>true) held ts args.toList ds ps) (hv:∀ (j:Nat) t v,ts[j]?=some t→args.toList[j]?=some v→Value.okWide P W r b0 t v)
 (hmix:P.follows .mixedOrders=true) (hty:ts.all (tyOk P F)=true)
 (hO:OSound P (globList P F laid) O)
 (hp:∀ j fss xs,HasTs P (j+F) ts fss→All2 (fun (tf:TypeId×List FV) x=>packF P tf.1 tf.2=some x) (ts.zip fss) xs→VFun (lawEnvX P F laid O) f xs (.p (.bool true))) :
 Calls P f args W fun e W'=>e=.returned (.bool true)∧Go.RowKit.Below W.heap.size W W':=by
 obtain ⟨N,hN⟩:=trodN ts _ ds ps hA
 obtain ⟨j,hj⟩:∃ j,max N F=j+F:=⟨max N F-F,by omega⟩
 obtain ⟨as,m1,fss,xs,q1,q2,q3,q4,q5,q6⟩:=args_layN ts _ ds (fun t ht=>tyOk_le (by omega) (List.all_eq_true.1 hty t ht)) (hN (max N F) (by omega)) (globMem P F laid)
 rw [hj] at q2
 have hctx:Ctx (lawEnvX P F laid O).Γ m1 (fun c=>c<m1.size) (fun _=>undef) [] 0:=by
  refine ⟨fun _ h=>h,fun b x hb=>(by cases hb),fun b b' x x' c hb=>(by cases hb),fun g vs e hg=>?_⟩
  simp only [lawEnvX,gam] at hg
  split at hg
  ·rename_i hlt
   simp only [Option.map_eq_some_iff,Prod.mk.injEq] at hg
   obtain ⟨⟨e',l⟩,h1,rfl,rfl⟩:=hg
   have hlt':g<(globMem P F laid).size:=by rw [globMem_size];exact hlt
   exact ⟨by omega,by rw [q6 g hlt',globMem_get hlt,h1],globAt_plain h1⟩
  ·cases hg
 obtain ⟨v,m',⟨K,hK⟩,r0,H',nx',F',σ',⟨rfl,_,_⟩,_,hrv,_⟩:=hp j fss xs q2 q3 m1 _ _ as hctx (RPs.ofRFs q4)
 have hv1:v=.bool true:=by cases hrv with|p h=>cases h;rfl
 subst hv1
 obtain ⟨ι,hs,hro⟩:=glob_open (F:=F) hL
 obtain ⟨ι1,o1,o2,o3,o4⟩:=args_open ts _ ds ps hA hv ι _ m1 as hs hro q1
 refine ((acall_sound hO hmix K f).1 as m1 _ m' (hK K K (Nat.le_refl _) (Nat.le_refl _)) ι1 W args o1 o4).mono fun e W' ⟨v',he,ι2,hx,hs2,hvr⟩=>?_
 have:=hvr.eq_of_plain (v:=.bool true) rfl
 subst this
 exact ⟨he,⟨hx.os,hx.tape,hx.output,hx.heap,fun c hcl=>hx.frame c hcl fun b ib hb _=>.inl (o3 b (o1.dom b ib hb).1)⟩⟩
def growF (e:TypeId) (xs:List Value) (m:Mem):Option (Value×Mem):=match xs with
 |[.slice none 0 0,.int .i64 n]=>if 0<n∧n≤1000000 then some (newSlice m e [] 0) else none
 |_=>none
def growO (fg:FuncId) (e:TypeId) (O:Oracle):Oracle:=fun f=>if f=fg then some (growF e) else O f
theorem growO_ne {fg f:FuncId} {e:TypeId} {O:Oracle} (h:f≠fg):growO fg e O f=O f:=if_neg h
theorem growO_at {fg:FuncId} {e:TypeId} {O:Oracle}:growO fg e O fg=some (growF e):=if_pos rfl
theorem growF_some {e:TypeId} {xs:List Value} {m m':Mem} {v:Value} (h:growF e xs m=some (v,m')):∃ n:Int,xs=[.slice none 0 0,.int .i64 n]∧0<n∧n≤1000000∧(v,m')=newSlice m e [] 0:=by
 unfold growF at h
 split at h
 ·rename_i n
  split at h
  ·rename_i hn;cases h;exact ⟨n,rfl,hn.1,hn.2,rfl⟩
  ·cases h
 ·cases h
theorem growO_sound {G:List Nat} {O:Oracle} {fg:FuncId} {e:TypeId} (hO:OSound P G O) (he:Am.Enters P fg)
 (hc:∀ (n:Nat) (w:World),0<n→n≤1000000→Calls P fg #[.slice none 0 0,.int .i64 n] w fun r w'=>∃ cap cs,r=.returned (.slice (some ⟨w.heap.size,0,none⟩) 0 cap)∧w'.heap=w.heap.push (.cells cs e (0,0))∧w'.tape=w.tape∧w'.os=w.os∧w'.output=w.output∧cap*P.cellsOf e≤cs.size) :
 OSound P G (growO fg e O):=by
 intro f Fo hf
 by_cases h:f=fg
 ·subst h
  rw [growO_at] at hf
  cases hf
  refine ⟨fun xs m v m' hv ι w as' hs hrel=>?_,fun xs m v m' hv=>?_,he,SeqFn.none fun n lb m=>rfl⟩
  ·obtain ⟨n,rfl,h1,h2,h3⟩:=growF_some hv
   cases h3
   obtain ⟨hlen,hat⟩:=hrel
   have hl2:as'.toList.length=2:=by simpa using hlen.symm
   have e0:as'=#[.slice none 0 0,.int .i64 n]:=by
    obtain ⟨l⟩:=as'
    match l,hl2 with
    |[a,b],_ =>
     have ha:=hat 0 (by simp)
     have hb:=hat 1 (by simp)
     simp only [List.getD_cons_zero,List.getD_cons_succ] at ha hb
     have hb':=hb.eq_of_plain (v:=.int .i64 n) rfl
     cases ha
     rw [hb']
   subst e0
   have:=hc n.toNat w (by omega) (by omega)
   rw [Int.toNat_of_nonneg (by omega)] at this
   refine this.mono ?_
   rintro r w' ⟨cap,cs,rfl,q1,q2,q3,q4,q5⟩
   exact ⟨_,rfl,newSlice_sound (e:=e) (l:=[]) (n:=0) hs q1 q2 q3 q4 (fun i hi=>by simp at hi) (Nat.zero_le _) (.inr q5)⟩
  ·obtain ⟨n,rfl,h1,h2,h3⟩:=growF_some hv
   cases h3
   exact MemStep.alloc _ _
 ·rw [growO_ne h] at hf
  exact hO f Fo hf
end
end Go.Vm
set_option linter.unusedSimpArgs false
set_option linter.unusedVariables false
namespace Go.Vm
open Go.Am
section
variable {P:Program}
noncomputable def knO (G:List Nat) (M0:Mem) (fs:List FuncId) (O:Oracle):Oracle:=fun f=>if f∈fs then trueO G M0 fs f else O f
theorem knO_ne {G:List Nat} {M0:Mem} {fs:List FuncId} {O:Oracle} {f:FuncId} (h:f∉fs):knO G M0 fs O f=O f:=if_neg h
theorem knO_at {G:List Nat} {M0:Mem} {fs:List FuncId} {O:Oracle} {f:FuncId} (h:f∈fs):knO G M0 fs O f=trueO G M0 fs f:=if_pos h
theorem knO_sound {G:List Nat} {M0:Mem} {fs:List FuncId} {O:Oracle} (h1:OSound P G (trueO G M0 fs)) (h2:OSound P G O):OSound P G (knO G M0 fs O):=by
 intro f Fo hf
 by_cases h:f∈fs
 ·rw [knO_at h] at hf;exact h1 f Fo hf
 ·rw [knO_ne h] at hf;exact h2 f Fo hf
theorem known_funX {F:Nat} {laid:List (String×DataW Unit)} {fs:List FuncId} {O:Oracle} {f:FuncId} (hO:O f=trueO (globList P F laid) (globMem P F laid) fs f) (hf:f∈fs):VFun (lawEnvX P F laid O) f [] (.p (.bool true)):=by
 intro m F' σ as h1 h2
 cases h2
 have hg:∀ k∈globList P F laid,m.get k=(globMem P F laid).get k:=fun k hk=>by
  obtain ⟨hlt,e,l,hgl⟩:=globList_mem hk
  have:=(h1.gl k l e (by simp only [lawEnvX,gam,if_pos hlt,hgl,Option.map_some])).2.1
  rw [this,globMem_get hlt,hgl]
 refine ACalls.oracle (F:=fun as m=>open Classical in if as=[]∧∀ k∈globList P F laid,m.get k=(globMem P F laid).get k then some (.bool true,m) else none) (m':=m) (v:=.bool true) (by simp only [lawEnvX,hO,trueO,if_pos hf]) ?_
  ⟨_,_,_,F',σ,⟨rfl,rfl,rfl⟩,h1,.p (.bool true),Step.refl _ _ _ _ _⟩
 rw [if_pos ⟨rfl,hg⟩]
end
end Go.Vm
set_option linter.unusedSimpArgs false
set_option linter.unusedVariables false
namespace Go.Vm
open Go.Am
section
variable {P:Program} {G:List Nat}
theorem alloc_far {ι:Inj} {m:Mem} {w w':World} {x:ABlk} {obj:Obj} {ib:IB} (hs:Sim P G ι m w) (hb:Go.RowKit.Below w.heap.size w w') (hB:w.heap.size≤ib.blk) (hobj:w'.heap[ib.blk]?=some obj) (hx:BRel P ι m.gen ib x (some obj))
 (hr:x.ro=false):∃ ι',Ext ι m w ι' (m.alloc x) w'∧Sim P G ι' (m.alloc x) w'∧ι' m.size=some ib:=by
 have hget:∀ b,b<m.size→(m.alloc x).get b=m.get b:=fun b hb=>by rw [Mem.get_alloc,if_neg (by omega)]
 have hgen:∀ b,b<m.size→(m.alloc x).gen b=m.gen b:=fun b hb=>gen_of_get (hget b hb)
 have hro:∀ b,b<m.size→(m.alloc x).ro b=m.ro b:=fun b hb=>ro_of_get (hget b hb)
 have hheap:∀ c,c<w.heap.size→w'.heap[c]?=w.heap[c]?:=fun c hc=>hb.block c hc
 have hsz:=hb.size
 have hBlt:ib.blk<w'.heap.size:=by
  rcases Nat.lt_or_ge ib.blk w'.heap.size with h|h
  ·exact h
  ·rw [Array.getElem?_eq_none h] at hobj;cases hobj
 let ι':Inj:=fun b=>if b=m.size then some ib else ι b
 have hle:Le ι m.gen ι' (m.alloc x).gen:=fun b ibb hb=>by
  have hlt:=(hs.dom b ibb hb).1
  refine ⟨by rw [hgen b hlt];exact Nat.le_refl _,ibb,?_,fun _=>rfl⟩
  show (if b=m.size then some ib else ι b)=some ibb
  rw [if_neg (by omega)];exact hb
 refine ⟨ι',⟨by simp [Mem.alloc],Nat.le_refl _,fun b hb _=>hget b hb,fun b hb _=>hget b hb,fun b hb=>hro b hb,hle,fun b ibb hb=>?_,fun b ibb hb=>?_,by omega,
  fun c hc _=>hheap c hc,hb.tape,hb.os,hb.output⟩,⟨fun b ibb hb=>?_,fun b ibb hb=>?_,fun b b' ibb ibb' hb hb' he=>?_,fun k hk=>?_⟩,if_pos rfl⟩
 ·change (if b=m.size then some ib else ι b)=some ibb at hb
  split at hb
  ·cases hb;exact .inr (by omega)
  ·exact .inl ⟨ibb,hb,rfl⟩
 ·change (if b=m.size then some ib else ι b)=some ibb at hb
  split at hb
  ·exact .inr (by omega)
  ·exact .inl ⟨ibb,hb⟩
 ·change (if b=m.size then some ib else ι b)=some ibb at hb
  split at hb
  ·cases hb;exact ⟨by simp [Mem.alloc];omega,by omega⟩
  ·have:=hs.dom b ibb hb
   exact ⟨by simp only [Mem.alloc];omega,by omega⟩
 ·change (if b=m.size then some ib else ι b)=some ibb at hb
  split at hb
  ·rename_i e;cases hb
   rw [Mem.get_alloc,if_pos e.symm]
   rw [hobj]
   exact hx.mono hle
  ·have:=hs.dom b ibb hb
   rw [hget b this.1,hheap _ this.2]
   exact (hs.blk b ibb hb).mono hle
 ·change (if b=m.size then some ib else ι b)=some ibb at hb
  change (if b'=m.size then some ib else ι b')=some ibb' at hb'
  split at hb<;>split at hb'
  ·exact .inl (by omega)
  ·cases hb;have:=hs.dom b' ibb' hb';omega
  ·cases hb';have:=hs.dom b ibb hb;omega
  ·rcases hs.inj b b' ibb ibb' hb hb' he with h|⟨h1,h2⟩
   ·exact .inl h
   ·exact .inr ⟨by rw [hro b (hs.dom b ibb hb).1];exact h1,by rw [hro b' (hs.dom b' ibb' hb').1];exact h2⟩
 ·obtain ⟨ibb,h1,h2,h3,h4,h5⟩:=hs.glob k hk
  have hlt:=(hs.dom k ibb h1).1
  refine ⟨ibb,?_,h2,⟨h3.1,by rw [hget k hlt];exact h3.2⟩,by rw [hgen k hlt];exact h4,by rw [hro k hlt];exact h5⟩
  show (if k=m.size then some ib else ι k)=some ibb
  rw [if_neg (by omega)];exact h1
theorem ownsRow_post {ι:Inj} {m:Mem} {w w':World} {e:TypeId} {l:List Value} {v:Value} (hs:Sim P G ι m w) (hb:Go.RowKit.Below w.heap.size w w') (hl:l≠[]) (hp:l.all Am.plainCell=true) (h1:P.cellsOf e=1) (ho:w'.ownsRow w.heap.size e 1 v l.length l) :
 Post P G ι m w (newSlice m e l l.length).1 (newSlice m e l l.length).2 v w':=by
 obtain ⟨-,h⟩:=ho
 rcases h with ⟨_,h⟩|⟨g,cap,cur,rfl,q1,q2,q3,q4,q5,q6⟩
 ·exact absurd (List.eq_nil_of_length_eq_zero h) hl
 rw [Nat.mul_one] at q5 q6
 obtain ⟨ι',hext,hsim,hbk⟩:=alloc_far (x:=.cells l e 0 false) (ib:=⟨g,0,cur.size,P.cellsOf e⟩) hs hb q1 q2
  ⟨fun _=>rfl,rfl,rfl,fun i hi=>by
   have hpi:Am.plainCell (l.getD i undef)=true:=by
    rw [List.getD_eq_getElem?_getD,List.getElem?_eq_getElem hi]
    exact List.all_eq_true.1 hp _ (List.getElem_mem hi)
   refine ⟨l.getD i undef,?_,VRel.plainCell hpi⟩
   have e1:cur.toList[i]?=some (l.getD i undef):=by
    have:(cur.toList.take l.length)[i]?=cur.toList[i]?:=by rw [List.getElem?_take,if_pos hi]
    rw [← this,q6,List.getD_eq_getElem?_getD,List.getElem?_eq_getElem hi];rfl
   simpa using e1,fun _ j _=>by simp⟩ rfl
 refine ⟨ι',hext,hsim,.sl _ _ _ _ _ _ ⟨_,hbk,Nat.zero_le _,q3,fun _=>⟨rfl,rfl,.inr ⟨rfl,?_⟩⟩⟩⟩
 show 0+cap*P.cellsOf e≤cur.size
 rw [h1,q5];omega
abbrev FrF:=List Value→Option (List Value)
def frRun (e:TypeId) (Fn:FrF) (as:List Value) (m:Mem):Option (Value×Mem):=match Fn as with
 |some []=>some (.slice none 0 0,m)
 |some (v::l)=>some (newSlice m e (v::l) (l.length+1))
 |none=>none
open Classical in
noncomputable def frO (G:List Nat) (M0:Mem) (ff:FuncId) (e:TypeId) (Fn:FrF) (O:Oracle):Oracle:=fun f =>
 if f=ff then some fun as m=>if ∀ k∈G,m.get k=M0.get k then frRun e Fn as m else none else O f
theorem frO_ne {M0:Mem} {ff f:FuncId} {e:TypeId} {Fn:FrF} {O:Oracle} (h:f≠ff):frO G M0 ff e Fn O f=O f:=if_neg h
theorem frO_sound {M0:Mem} {ff:FuncId} {e:TypeId} {Fn:FrF} {O:Oracle} (hO:OSound P G O) (he:Am.Enters P ff) (h1:P.cellsOf e=1)
 (hc:∀ ι m w as (as':Array Value) l,Sim P G ι m w→(∀ k∈G,m.get k=M0.get k)→LRel ι m.gen as as'.toList→Fn as=some l→l.all Am.plainCell=true ∧
  Calls P ff as' w fun r w'=>∃ v,r=.returned v∧w'.ownsRow w.heap.size e 1 v l.length l∧(l=[]→v=.slice none 0 0)∧Go.RowKit.Below w.heap.size w w'):OSound P G (frO G M0 ff e Fn O):=by
 intro f Fo hf
 by_cases h:f=ff
 ·subst h
  unfold frO at hf
  rw [if_pos rfl] at hf
  cases hf
  refine ⟨fun as m v m' hv ι w as' hs hrel=>?_,fun as m v m' hv=>?_,he,SeqFn.of_rows fun as m v m' hv=>by
   try simp only at hv
   split at hv
   ·unfold frRun at hv
    split at hv
    ·cases hv;rfl
    ·cases hv;rfl
    ·cases hv
   ·cases hv⟩
  ·simp only at hv
   split at hv
   ·rename_i hg
    unfold frRun at hv
    cases hl:Fn as with
    |none=>rw [hl] at hv;cases hv
    |some l =>
     obtain ⟨hp,hcall⟩:=hc ι m w as as' l hs hg hrel hl
     rw [hl] at hv
     cases l with
     |nil =>
      cases hv
      refine hcall.mono ?_
      rintro r w' ⟨v,rfl,_,h3,h4⟩
      have:=h3 rfl
      subst this
      exact ⟨_,rfl,Post.below hs h4 rfl⟩
     |cons a l =>
      cases hv
      refine hcall.mono ?_
      rintro r w' ⟨v,rfl,h2,_,h4⟩
      exact ⟨v,rfl,ownsRow_post hs h4 (by simp) hp h1 h2⟩
   ·cases hv
  ·simp only at hv
   split at hv
   ·unfold frRun at hv
    split at hv
    ·cases hv;exact MemStep.refl _
    ·cases hv;exact MemStep.alloc _ _
    ·cases hv
   ·cases hv
 ·rw [frO_ne h] at hf
  exact hO f Fo hf
theorem fr_fun {F:Nat} {laid:List (String×DataW Unit)} {O O0:Oracle} {ff:FuncId} {e:TypeId} {Fn:FrF} {xs cs:List FV} {l:List Value} (hO:O ff=frO (globList P F laid) (globMem P F laid) ff e Fn O0 ff) (h:∀ m F' as,RFs m F' xs as→Fn as=some l)
 (hr:∀ m F',RFs m F' cs l) (hc:l.all isCell=true):VFunV (lawEnvX P F laid O) ff xs e cs l.length l.isEmpty:=by
 intro m F' σ as h1 h2
 have h2':RFs m F' xs as:=RFs.ofRPs h2
 have h3:=h m F' as h2'
 have hg:∀ k∈globList P F laid,m.get k=(globMem P F laid).get k:=fun k hk=>by
  obtain ⟨hlt,e,l,hgl⟩:=globList_mem hk
  have:=(h1.gl k l e (by simp only [lawEnvX,gam,if_pos hlt,hgl,Option.map_some])).2.1
  rw [this,globMem_get hlt,hgl]
 have hO':(lawEnvX P F laid O).O ff=some (fun as m=>open Classical in if ∀ k∈globList P F laid,m.get k=(globMem P F laid).get k then frRun e Fn as m else none):=by
  show O ff=_
  rw [hO];unfold frO;rw [if_pos rfl]
 cases l with
 |nil =>
  have hcs:cs=[]:=by cases hr m F';rfl
  subst hcs
  obtain ⟨c1,c2⟩:=adoptCtx e h1
  refine ACalls.oracle (m':=m) (v:=.slice none 0 0) hO' ?_ ⟨.vec 0 0 0 0,[(0,.vec e [] 0 true)],1,F',_,⟨rfl,rfl,rfl⟩,c1,nil_vec e [] 0,c2⟩
  rw [if_pos hg];unfold frRun;rw [h3]
 |cons a l =>
  obtain ⟨c1,c2,_,c4⟩:=slice_new (e:=e) (l.length+1) h1 (hr m F') hc
  refine ACalls.oracle (m':=(newSlice m e (a::l) (l.length+1)).2) (v:=(newSlice m e (a::l) (l.length+1)).1) hO' ?_ ⟨_,_,_,F',_,⟨rfl,rfl,rfl⟩,c1,c4,c2⟩
  rw [if_pos hg];unfold frRun;rw [h3]
end
end Go.Vm
