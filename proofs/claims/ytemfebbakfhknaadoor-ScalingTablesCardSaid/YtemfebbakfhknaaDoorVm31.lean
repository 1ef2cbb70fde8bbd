/-
  The values' layer: an element of an array of plain cells. No condition. Nothing of one program stands here.
-/
import Derived.Test.YtemfebbakfhknaaDoorVmE
set_option linter.unusedSimpArgs false
set_option linter.unusedVariables false
namespace Go.Vm
open Go.Am
section
variable {E:Env} {L:Vm.Frame} {H:Vm.Heap} {nx:Nat} {Q:PV→Vm.Heap→Nat→Prop} {w:Bool} {dst:Option Tmp} {ty:TypeId} {pos:String} {af:Array Edge} {gd:Option (Nat×Bool)}
theorem rfs_get {m:Mem} {F:Nat→Prop}:∀ {cs:List FV} {vs:List Value} {j:Nat} {c:FV},RFs m F cs vs→cs[j]?=some c→∃ v,vs[j]?=some v∧RF m F c v
 |_,_,0,c,.cons h t,e=>by simp at e;subst e;exact ⟨_,rfl,h⟩
 |_,_,j+1,c,.cons h t,e=>by
  simp at e
  obtain ⟨v,h1,h2⟩:=rfs_get t e
  exact ⟨v,by simpa using h1,h2⟩
 |_,_,_,_,.nil,e=>by simp at e
theorem VVal.indexI {t e:TypeId} {x ix:Operand} {n:Nat} {cs:List FV} {k:IntKind} {i:Int} {inf:TypeInfo} {c:FV} (hx:vev E.Γ L x=some (.p (.agg cs))) (hi:vev E.Γ L ix=some (.p (.int k i)))
 (ht:E.P.underlying t=some (.array n e)) (ha:isAggT E.P e=some false) (hs:E.P.info? e=some inf) (h:0≤i∧i<n) (hc:cs[i.toNat*inf.size]?=some c) (q:Q (.p c) H nx) :
 VVal E w ⟨dst,.index t x ix,ty,pos,af,gd⟩ L H nx Q :=
 VVal.quiet q fun m F σ tt h1 h2=>by
  have hr:=vev_rel h1 h2 hx
  generalize hv:ev tt x=v at hr
  cases hr with
  |p hr =>
   cases hr with
   |agg hr hcc =>
    rename_i l
    obtain ⟨u,g1,g2⟩:=rfs_get hr hc
    refine ⟨u,fun _=>?_,.p g2⟩
    have hd:dry E.P (Instr.index t (.agg l.toArray) (.int k i))=some u:=by
     unfold Instr.index
     simp only [dry_bind,dry_underlying,ht]
     show (dry E.P (asIntOf (.int k i))).bind _=_
     rw [show dry E.P (asIntOf (.int k i))=some (k,i) from rfl]
     simp only [Option.bind_some,h,and_self,if_true,dry_bind,dry_sizeOf,hs,Option.map_some]
     unfold part
     simp only [dry_bind,dry_isAgg,ha,Option.bind_some,Bool.false_eq_true,if_false,List.getElem?_toArray,g1]
     rfl
    simp only [aval,aop,hv,vev_int h1 h2 hi,hd,Option.map_some]
    rw [show plain (Value.int k i)=true from rfl,if_pos rfl]
end
end Go.Vm
