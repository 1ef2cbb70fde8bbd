/-
  The data of the law's parameters, read as plain data. Conditions: in each statement.
-/
import Derived.Test.YtmfnchgkffhpfaaDoorCovG
set_option linter.unusedSimpArgs false
set_option linter.unusedVariables false
set_option linter.unusedSectionVars false
namespace Go.Proofs.YtmfnchgkffhpfaaDoor
open Go Go.Am Go.Vm
theorem nat_u8 {n:Int} (h:(Lit.int .u8 n).wf=true):∃ m:Nat,m<256∧n=m:=by
 simp [Lit.wf,IntKind.min,IntKind.max,IntKind.signed,IntKind.bits] at h
 exact ⟨n.toNat,by omega,by omega⟩
theorem map_choose {α β:Type} {R:β→α→Prop}:∀ {l:List α},(∀ x∈l,∃ y,R y x)→∃ r:List β,All2 R r l
 |[],_=>⟨[],.nil⟩
 |a::l,h=>by
  obtain ⟨y,hy⟩:=h a (by simp)
  obtain ⟨r,hr⟩:=map_choose (l:=l) (fun x hx=>h x (by simp [hx]))
  exact ⟨y::r,.cons hy hr⟩
theorem flat_cells {α:Type} [Enc α] {p:α→Prop}:∀ {r:List α} {L:List (List FV)},All2 (fun a fs=>fs=Enc.enc a∧p a) r L→L.flatten=cells r∧L.length=r.length∧∀ i,i<r.length→p (gi r i)
 |_,_,.nil=>⟨rfl,rfl,fun i hi=>by simp at hi⟩
 |a::r,fs::L,.cons ⟨h1,h2⟩ t=>by
  obtain ⟨e1,e2,e3⟩:=flat_cells t
  refine ⟨by rw [List.flatten_cons,e1,h1];rfl,by simp [e2],fun i hi=>?_⟩
  cases i with
  |zero=>exact h2
  |succ i=>exact e3 i (by simpa using hi)
theorem all2_two {α β:Type} {R:α→β→Prop} {a b:α} {r:List β} (h:All2 R [a,b] r):∃ x y,r=[x,y]∧R a x∧R b y:=by
 cases h with|cons h1 t=>cases t with|cons h2 t=>cases t;exact ⟨_,_,rfl,h1,h2⟩
theorem all2_one {α β:Type} {R:α→β→Prop} {a:α} {r:List β} (h:All2 R [a] r):∃ x,r=[x]∧R a x:=by
 cases h with|cons h1 t=>cases t;exact ⟨_,rfl,h1⟩
set_option maxRecDepth 100000 in
theorem has_ints {j:Nat} {fs:List FV} (h:HasT Tryd.prog (j+2) 25 fs):∃ l:List Int,fs=[.lst 3 (cells l) l.length]∧l.length≤maxLen:=by
 simp only [HasT,Tryd.underlying25,Tryd.underlying3] at h
 obtain ⟨L,rfl,hl,hL⟩:=h
 obtain ⟨r,hr⟩:=map_choose (R:=fun (a:Int) fs=>fs=Enc.enc a∧True) (l:=L) (fun x hx=>by
  obtain ⟨n,hn,_⟩:=hL x hx
  exact ⟨n,hn,trivial⟩)
 obtain ⟨e1,e2,_⟩:=flat_cells hr
 exact ⟨r,by rw [e1,e2],by omega⟩
set_option maxRecDepth 100000 in
theorem has_plan {j:Nat} {fs:List FV} (h:HasT Tryd.prog (j+5) 24 fs):∃ x:CPlan,fs=Enc.enc x∧x.n<256∧x.sets.length≤maxLen∧∀ i,i<x.sets.length→(gi x.sets i).els<256∧(gi x.sets i).cost<256:=by
 simp only [HasT,Tryd.underlying24,Tryd.underlying5,Tryd.underlying22,Tryd.underlying69] at h
 obtain ⟨parts,rfl,hp⟩:=h
 obtain ⟨a,b,rfl,⟨n,rfl,hn⟩,L,rfl,hl,hL⟩:=all2_two hp
 obtain ⟨r,hr⟩:=map_choose (R:=fun (a:CBits) fs=>fs=Enc.enc a∧(a.els<256∧a.cost<256)) (l:=L) (fun x hx=>by
  obtain ⟨ps,rfl,hq⟩:=hL x hx
  obtain ⟨c,d,rfl,⟨n1,rfl,h1⟩,⟨n2,rfl,h2⟩⟩:=all2_two hq
  obtain ⟨m1,hm1,rfl⟩:=nat_u8 h1
  obtain ⟨m2,hm2,rfl⟩:=nat_u8 h2
  exact ⟨⟨m1,m2⟩,rfl,hm1,hm2⟩)
 obtain ⟨e1,e2,e3⟩:=flat_cells hr
 obtain ⟨m,hm,rfl⟩:=nat_u8 hn
 refine ⟨⟨m,r⟩,?_,hm,?_,e3⟩
 ·rw [e1,e2];rfl
 ·show r.length≤maxLen
  omega
end Go.Proofs.YtmfnchgkffhpfaaDoor
