/-
  The values' layer: an oracle that answers which values a function that is ranged over yields; contracts over more oracles. No condition. Nothing of one program stands here.
-/
import Derived.Test.YtemfebbakfhknaaDoorOraA
import Derived.Test.YtemfebbakfhknaaDoorAm23
import Derived.Test.YtemfebbakfhknaaDoorVm30
set_option linter.unusedSimpArgs false
set_option linter.unusedVariables false
namespace Go.Vm
open Go.Am
section
variable {P:Program} {G:List Nat}
theorem seqAs_drop (n:Nat) (lb:List Value):(seqAs n lb).drop (n+1)=lb:=by
 unfold seqAs
 rw [List.drop_append_of_le_length (by simp),List.drop_of_length_le (by simp)];rfl
theorem seqVal_inj {k k':Value} {a b:List (List Value)} (h:seqVal k a=seqVal k' b):k=k'∧a=b:=by
 have:=congrArg seqRows h
 rw [seqRows_val,seqRows_val] at this
 refine ⟨?_,Option.some.inj this⟩
 unfold seqVal at h
 simp only [Value.tuple.injEq] at h
 have h2:=congrArg (fun x=>x.toList) h
 simp only [List.cons.injEq] at h2
 exact h2.1
abbrev SqF:=List Value→Mem→Option (Value×List (List Value))
open Classical in
noncomputable def seqFo (G:List Nat) (M0:Mem) (nt:Nat) (Sq:SqF) (as:List Value) (m:Mem):Option (Value×Mem) :=
 if as=seqAs nt (as.drop (nt+1))∧∀ k∈G,m.get k=M0.get k then (Sq (as.drop (nt+1)) m).map fun kr=>(seqVal kr.1 kr.2,m) else none
noncomputable def seqO (G:List Nat) (M0:Mem) (gf:FuncId) (nt:Nat) (Sq:SqF) (O:Oracle):Oracle:=fun f=>if f=gf then some (seqFo G M0 nt Sq) else O f
theorem seqO_ne {M0:Mem} {gf f:FuncId} {nt:Nat} {Sq:SqF} {O:Oracle} (h:f≠gf):seqO G M0 gf nt Sq O f=O f:=if_neg h
theorem seqO_at {M0:Mem} {gf:FuncId} {nt:Nat} {Sq:SqF} {O:Oracle}:seqO G M0 gf nt Sq O gf=some (seqFo G M0 nt Sq):=if_pos rfl
theorem seqFo_some {M0:Mem} {nt:Nat} {Sq:SqF} {as:List Value} {m:Mem} {r:Value×Mem} (h:seqFo G M0 nt Sq as m=some r):∃ lb kr,as=seqAs nt lb∧(∀ k∈G,m.get k=M0.get k)∧Sq lb m=some kr∧r=(seqVal kr.1 kr.2,m):=by
 unfold seqFo at h
 split at h
 case isFalse=>cases h
 rename_i hc
 rw [Option.map_eq_some_iff] at h
 obtain ⟨rows,h1,h2⟩:=h
 exact ⟨_,rows,hc.1,hc.2,h1,h2.symm⟩
theorem seqFo_as {M0:Mem} {nt:Nat} {Sq:SqF} {lb:List Value} {m:Mem} {kr:Value×List (List Value)} (hg:∀ k∈G,m.get k=M0.get k) (h:Sq lb m=some kr):seqFo G M0 nt Sq (seqAs nt lb) m=some (seqVal kr.1 kr.2,m):=by
 unfold seqFo
 rw [seqAs_drop,if_pos ⟨rfl,hg⟩,h];rfl
theorem seqO_le {M0:Mem} {gf:FuncId} {nt:Nat} {Sq:SqF} {O:Oracle} (ho:O gf=none) (hnt:∀ fn,P.funcs[gf]?=some fn→fn.ntmps=nt):OLe P O (seqO G M0 gf nt Sq O) where
 same f as m r h:=by
  by_cases e:f=gf
  ·subst e;rw [ho] at h;cases h
  ·rw [seqO_ne e];exact h
 more f as m r h h0 fn hfn:=by
  by_cases e:f=gf
  ·subst e
   rw [seqO_at] at h
   obtain ⟨lb,rows,rfl,_⟩:=seqFo_some (show seqFo G M0 nt Sq as m=some r from h)
   rw [hnt fn hfn]
   exact seqAs_length nt lb
  ·rw [seqO_ne e,h0] at h;cases h
theorem seqMark_rel {ι:Inj} {g:Nat→Nat} {v:Value} (h:VRel ι g seqMark v):False:=by cases h
theorem seqOf_weaken {gf:Nat} {lb:Array Value} {rows:List (List Value)} {I1 I2:World→Prop} {w:World} (h:SeqOf P gf lb rows I2 w) (hi:∀ W,I1 W→I2 W):SeqOf P gf lb rows I1 w :=
 fun l J Jx W hb hJ hx hy h0 hj=>h l J Jx W hb hJ hx (fun i W1 hi' hj'=>by
  obtain ⟨fn,tmps,asg,body,e1,e2⟩:=hy i W1 hi' hj'
  refine ⟨fn,tmps,asg,body,e1,e2.mono ?_⟩
  rintro e W' (⟨q1,q2,q3⟩|q)
  ·exact .inl ⟨q1,q2,hi _ q3⟩
  ·exact .inr q) (hi _ h0) hj
theorem seqO_sound {M0:Mem} {gf:FuncId} {nt:Nat} {Sq:SqF} {O:Oracle} (hO:OSound P G O) (he:Am.Enters P gf) (hnt:∀ fn,P.funcs[gf]?=some fn→fn.ntmps=nt)
 (hs:∀ (lb:List Value) (m:Mem) (key:Value) (rows:List (List Value)),Sq lb m=some (key,rows)→(∀ k∈G,m.get k=M0.get k)→∀ (ι:Inj) (w:World) (lb':Array Value),Sim P G ι m w→LRel ι m.gen lb lb'.toList →
  SeqOf P gf lb' rows (SeqInv P G (fun m'=>Sq lb m'=some (key,rows)∧∀ k∈G,m'.get k=M0.get k) lb lb') w):OSound P G (seqO G M0 gf nt Sq O):=by
 intro f Fo hf
 by_cases h:f=gf
 ·subst h
  rw [seqO_at] at hf
  cases hf
  refine ⟨fun as m v m' hv ι w as' hs' hrel=>?_,fun as m v m' hv=>?_,he,fun fn lb m m1 v rows hfn hv hr ι w lb' hsim hl=>?_⟩
  ·obtain ⟨lb,rows,rfl,_⟩:=seqFo_some hv
   rw [seqAs_cons] at hrel
   obtain ⟨v',k',_,h2,_⟩:=hrel.uncons
   exact (seqMark_rel h2).elim
  ·obtain ⟨lb,rows,_,_,_,e⟩:=seqFo_some hv
   cases e;exact MemStep.refl _
  ·rw [hnt fn hfn] at hv ⊢
   obtain ⟨lb2,rows2,e1,e2,e3,e4⟩:=seqFo_some hv
   have e5:lb=lb2:=by
    have:=congrArg (List.drop (nt+1)) e1
    rwa [seqAs_drop,seqAs_drop] at this
   subst e5
   obtain ⟨key2,rows2⟩:=rows2
   cases e4
   rw [seqRows_val] at hr
   cases hr
   refine seqOf_weaken (hs lb m _ _ e3 e2 ι w lb' hsim hl) ?_
   rintro W ⟨ι',m',q1,q2,m2,q3⟩
   obtain ⟨lb3,rows3,p1,p2,p3,p4⟩:=seqFo_some q3
   have e6:lb=lb3:=by
    have:=congrArg (List.drop (nt+1)) p1
    rwa [seqAs_drop,seqAs_drop] at this
   subst e6
   simp only [Prod.mk.injEq] at p4
   obtain ⟨r1,r2⟩:=seqVal_inj p4.1
   obtain ⟨key3,rows3⟩:=rows3
   simp only at r1 r2
   subst r1;subst r2
   exact ⟨ι',m',q1,q2,p3,p2⟩
 ·rw [seqO_ne h] at hf
  exact hO f Fo hf
theorem VCalls.more {F:Nat} {laid:List (String×DataW Unit)} {O0 O1:Oracle} (ho:OLe P O0 O1) {f:FuncId} {args:List PV} {H:Vm.Heap} {nx:Nat} {Q:PV→Vm.Heap→Nat→Prop} (h:VCalls (lawEnvX P F laid O0) f args H nx Q):VCalls (lawEnvX P F laid O1) f args H nx Q :=
 fun m F' σ as h1 h2=>ACalls.more ho (h m F' σ as h1 h2)
end
end Go.Vm
