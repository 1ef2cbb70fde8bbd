/-
  The values' layer: a contract over plain data, as a call at any world. No condition. Nothing of one program stands here.
-/
import Derived.Test.YtemfebbakfhknaaDoorOrq
import Derived.Test.YtemfebbakfhknaaDoorOrv
set_option linter.unusedSimpArgs false
set_option linter.unusedVariables false
namespace Go.Vm
open Go.Am
section
variable {P:Program} {F:Nat} {laid:List (String×DataW Unit)}
theorem lrel_plain {ι:Inj} {g:Nat→Nat} {l:List Value} (h:l.all Am.plain=true):LRel ι g l l:=⟨rfl,fun i hi=>by
 rw [List.getD_eq_getElem?_getD,List.getElem?_eq_getElem hi]
 exact VRel.plain (List.all_eq_true.1 h _ (List.getElem_mem hi))⟩
theorem vfun_calls {O:Oracle} {f:FuncId} {xs:List FV} {r:PV} {us:List Value} {v:Value} (hO:OSound P (globList P F laid) O) (hmix:P.follows .mixedOrders=true) (h:VFun (lawEnvX P F laid O) f xs r) (hx:∀ m F',RFs m F' xs us)
 (hr:∀ m F' T σ nx u,RP m F' T σ nx r u→u=v) (ha:us.all Am.plain=true) (hv:Am.plain v=true) {ι:Inj} {m:Mem} {w:World} (hs:Sim P (globList P F laid) ι m w) (hg:∀ k∈globList P F laid,m.get k=(globMem P F laid).get k) :
 Calls P f us.toArray w fun e w'=>e=.returned v∧Go.RowKit.Below w.heap.size w w':=by
 have hctx:Ctx (lawEnvX P F laid O).Γ (globMem P F laid) (fun c=>c<(globMem P F laid).size) (fun _=>undef) [] 0:=by
  refine ⟨fun _ h=>h,fun b x hb=>(by cases hb),fun b b' x x' c hb=>(by cases hb),fun g vs e hg=>?_⟩
  simp only [lawEnvX,gam] at hg
  split at hg
  ·rename_i hlt
   simp only [Option.map_eq_some_iff,Prod.mk.injEq] at hg
   obtain ⟨⟨e',l⟩,h1,rfl,rfl⟩:=hg
   have hlt':g<(globMem P F laid).size:=by rw [globMem_size];exact hlt
   exact ⟨hlt',by rw [globMem_get hlt,h1],globAt_plain h1⟩
  ·cases hg
 obtain ⟨u,m',⟨K,hK⟩,r0,H',nx',F',σ',⟨rfl,_,_⟩,_,hrv,_⟩:=h (globMem P F laid) _ _ us hctx (RPs.ofRFs (hx _ _))
 have hu:=hr _ _ _ _ _ _ hrv
 subst hu
 refine ((acall_sound (N:=K) hO hmix K f).1 us _ _ _ (hK K K (Nat.le_refl _) (Nat.le_refl _)) _ w us.toArray (sim_glob hs hg) (by simpa using lrel_plain ha)).mono ?_
 rintro e w' ⟨v',he,ι',hx',hs',hvr⟩
 rw [hvr.eq_of_plain hv] at he
 exact ⟨he,⟨hx'.os,hx'.tape,hx'.output,hx'.heap,fun c hc=>hx'.frame c hc fun b ib hb _=>.inl (glob_ro hb)⟩⟩
end
end Go.Vm
