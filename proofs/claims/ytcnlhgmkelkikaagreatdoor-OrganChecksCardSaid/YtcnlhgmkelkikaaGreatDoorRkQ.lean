/-
  The data of the laws' parameters (ranks), read as plain data. Conditions: in each statement.
-/
import Derived.Test.YtcnlhgmkelkikaaGreatDoorRkI
set_option linter.unusedSimpArgs false
set_option linter.unusedVariables false
namespace Go.Proofs.YtcnlhgmkelkikaaGreatDoor
open Go Go.Am Go.Vm
theorem nat_u8 {n:Int} (h:(Lit.int .u8 n).wf=true):∃ m:Nat,m<256∧n=m:=by
 simp [Lit.wf,IntKind.min,IntKind.max,IntKind.signed,IntKind.bits] at h
 exact ⟨n.toNat,by omega,by omega⟩
theorem int_i8 {n:Int} (h:(Lit.int .i8 n).wf=true):-128≤n∧n≤127:=by
 simp [Lit.wf,IntKind.min,IntKind.max,IntKind.signed,IntKind.bits] at h
 omega
theorem int_i64 {n:Int} (h:(Lit.int .i64 n).wf=true):-9223372036854775808≤n∧n≤9223372036854775807:=by
 simp [Lit.wf,IntKind.min,IntKind.max,IntKind.signed,IntKind.bits] at h
 omega
theorem map_choose {α β:Type} {R:β→α→Prop}:∀ {l:List α},(∀ x∈l,∃ y,R y x)→∃ r:List β,All2 R r l
 |[],_=>⟨[],.nil⟩
 |a::l,h=>by
  obtain ⟨y,hy⟩:=h a (by simp)
  obtain ⟨r,hr⟩:=map_choose (l:=l) (fun x hx=>h x (by simp [hx]))
  exact ⟨y::r,.cons hy hr⟩
theorem flat_cells {α:Type} [Enc α] {p:α→Prop}:∀ {r:List α} {L:List (List FV)},All2 (fun a fs=>fs=Enc.enc a∧p a) r L→L.flatten=cells r∧L.length=r.length∧∀ i,i<r.length→p (gi r i)
 |_,_,.nil=>⟨rfl,rfl,fun i hi=>by simp at hi⟩
 |a::r,fs::L,.cons ⟨h1,h2⟩ t=>by
  obtain ⟨e1,e2,e3⟩:=flat_cells t
  refine ⟨by rw [List.flatten_cons,e1,h1];rfl,by simp [e2],fun i hi=>?_⟩
  cases i with
  |zero=>exact h2
  |succ i=>exact e3 i (by simpa using hi)
section
variable {α β:Type} {R:α→β→Prop} {a b c d e:α} {r:List β}
theorem all2_one (h:All2 R [a] r):∃ x,r=[x]∧R a x:=by
 cases h with|cons h1 t=>cases t;exact ⟨_,rfl,h1⟩
theorem all2_two (h:All2 R [a,b] r):∃ x y,r=[x,y]∧R a x∧R b y:=by
 cases h with|cons h1 t=>obtain ⟨x,rfl,h2⟩:=all2_one t;exact ⟨_,_,rfl,h1,h2⟩
theorem all2_three (h:All2 R [a,b,c] r):∃ x y z,r=[x,y,z]∧R a x∧R b y∧R c z:=by
 cases h with|cons h1 t=>obtain ⟨x,y,rfl,h2,h3⟩:=all2_two t;exact ⟨_,_,_,rfl,h1,h2,h3⟩
theorem all2_four (h:All2 R [a,b,c,d] r):∃ x y z w,r=[x,y,z,w]∧R a x∧R b y∧R c z∧R d w:=by
 cases h with|cons h1 t=>obtain ⟨x,y,z,rfl,h2,h3,h4⟩:=all2_three t;exact ⟨_,_,_,_,rfl,h1,h2,h3,h4⟩
theorem all2_five (h:All2 R [a,b,c,d,e] r):∃ x y z w v,r=[x,y,z,w,v]∧R a x∧R b y∧R c z∧R d w∧R e v:=by
 cases h with|cons h1 t=>obtain ⟨x,y,z,w,rfl,h2,h3,h4,h5⟩:=all2_four t;exact ⟨_,_,_,_,_,rfl,h1,h2,h3,h4,h5⟩
end
set_option maxRecDepth 100000 in
theorem has_int {j:Nat} {fs:List FV} (h:HasT Tryz.prog (j+1) 3 fs):∃ n:Int,fs=[.int .i64 n]∧-9223372036854775808≤n∧n≤9223372036854775807:=by
 simp only [HasT,Tryz.underlying3] at h
 obtain ⟨n,rfl,hn⟩:=h
 exact ⟨n,rfl,int_i64 hn⟩
set_option maxRecDepth 100000 in
theorem has_bool {j:Nat} {fs:List FV} (h:HasT Tryz.prog (j+1) 4 fs):∃ b:Bool,fs=[.bool b]:=by
 simp only [HasT,Tryz.underlying4] at h
 exact h
set_option maxRecDepth 100000 in
theorem has_ints {j:Nat} {fs:List FV} (h:HasT Tryz.prog (j+2) 42 fs):∃ l:List Int,fs=[.lst 3 (cells l) l.length]∧l.length≤maxLen:=by
 simp only [HasT,Tryz.underlying42,Tryz.underlying3] at h
 obtain ⟨L,rfl,hl,hL⟩:=h
 obtain ⟨r,hr⟩:=map_choose (R:=fun (a:Int) fs=>fs=Enc.enc a∧True) (l:=L) (fun x hx=>by
  obtain ⟨n,hn,_⟩:=hL x hx
  exact ⟨n,hn,trivial⟩)
 obtain ⟨e1,e2,_⟩:=flat_cells hr
 exact ⟨r,by rw [e1,e2],by omega⟩
set_option maxRecDepth 100000 in
theorem has_frac {j:Nat} {fs:List FV} (h:HasT Tryz.prog (j+2) 41 fs):∃ x:Frac,fs=Enc.enc x:=by
 simp only [HasT,Tryz.underlying41,Tryz.underlying3] at h
 obtain ⟨parts,rfl,hp⟩:=h
 obtain ⟨a,b,rfl,⟨x,rfl,_⟩,⟨y,rfl,_⟩⟩:=all2_two hp
 exact ⟨⟨x,y⟩,rfl⟩
theorem len5 {α:Type} {l:List α} (h:l.length=5):∃ a b c d e,l=[a,b,c,d,e]:=by
 match l,h with|[a,b,c,d,e],_=>exact ⟨a,b,c,d,e,rfl⟩
set_option maxRecDepth 100000 in
theorem has_rplan {j:Nat} {fs:List FV} (h:HasT Tryz.prog (j+3) 114 fs):∃ x:RPlan,fs=x.enc∧x.Ok:=by
 simp only [HasT,Tryz.underlying114,Tryz.underlying5,Tryz.underlying112,Tryz.underlying56] at h
 obtain ⟨parts,rfl,hp⟩:=h
 obtain ⟨a,b,c,d,e,rfl,⟨n1,rfl,h1⟩,⟨n2,rfl,h2⟩,⟨n3,rfl,h3⟩,⟨n4,rfl,h4⟩,L,rfl,hl,hL⟩:=all2_five hp
 obtain ⟨m1,q1,rfl⟩:=nat_u8 h1
 obtain ⟨m2,q2,rfl⟩:=nat_u8 h2
 obtain ⟨m4,q4,rfl⟩:=nat_u8 h4
 obtain ⟨a,b,c,d,e,rfl⟩:=len5 hl
 obtain ⟨w0,rfl,g0⟩:=hL a (by simp)
 obtain ⟨w1,rfl,g1⟩:=hL b (by simp)
 obtain ⟨w2,rfl,g2⟩:=hL c (by simp)
 obtain ⟨w3,rfl,g3⟩:=hL d (by simp)
 obtain ⟨w4,rfl,g4⟩:=hL e (by simp)
 obtain ⟨v0,k0,rfl⟩:=nat_u8 g0
 obtain ⟨v1,k1,rfl⟩:=nat_u8 g1
 obtain ⟨v2,k2,rfl⟩:=nat_u8 g2
 obtain ⟨v3,k3,rfl⟩:=nat_u8 g3
 obtain ⟨v4,k4,rfl⟩:=nat_u8 g4
 refine ⟨⟨m1,m2,n3,m4,[v0,v1,v2,v3,v4]⟩,rfl,q1,q2,int_i8 h3,q4,fun i=>?_⟩
 match i with
 |0=>exact k0
 |1=>exact k1
 |2=>exact k2
 |3=>exact k3
 |4=>exact k4
 |n+5=>simp [gi]
set_option maxRecDepth 100000 in
theorem has_rank {j:Nat} {fs:List FV} (h:HasT Tryz.prog (j+3) 44 fs):∃ r:Rnk,fs=Enc.enc r∧rLen r:=by
 simp only [HasT,Tryz.underlying44,Tryz.underlying9,Tryz.underlying41,Tryz.underlying3,Tryz.underlying42] at h
 obtain ⟨parts,rfl,hp⟩:=h
 obtain ⟨a,b,c,d,e,rfl,⟨s1,rfl,h1⟩,⟨s2,rfl,h2⟩,⟨ps,rfl,hf⟩,⟨n,rfl,hn⟩,L,rfl,hl,hL⟩:=all2_five hp
 obtain ⟨f1,f2,rfl,⟨x,rfl,_⟩,⟨y,rfl,_⟩⟩:=all2_two hf
 obtain ⟨r,hr⟩:=map_choose (R:=fun (a:Int) fs=>fs=Enc.enc a∧True) (l:=L) (fun x hx=>by
  obtain ⟨n,hn,_⟩:=hL x hx
  exact ⟨n,hn,trivial⟩)
 obtain ⟨e1,e2,_⟩:=flat_cells hr
 refine ⟨⟨s1.data.toList,s2.data.toList,⟨x,y⟩,n,r⟩,?_,?_,?_,?_⟩
 ·rw [e1,e2]
  show [FV.str s1,FV.str s2,FV.int .i64 x,FV.int .i64 y,FV.int .i64 n,_]=[FV.str (bs s1.data.toList),FV.str (bs s2.data.toList),FV.int .i64 x,FV.int .i64 y,FV.int .i64 n,_]
  rw [← bs_of s1,← bs_of s2]
 ·have:s1.data.toList.length=s1.size:=rfl
  have:=h1
  simp only [maxLen] at this
  simp only;omega
 ·have:s2.data.toList.length=s2.size:=rfl
  have:=h2
  simp only [maxLen] at this
  simp only;omega
 ·have:=hl
  simp only [maxLen] at this
  simp only;omega
end Go.Proofs.YtcnlhgmkelkikaaGreatDoor
