/-
  The data of the laws' parameters, read as plain data. Conditions: in each statement.
-/
import Derived.Test.YtemfebbakfhknaaDoorScaB
set_option linter.unusedSimpArgs false
set_option linter.unusedVariables false
namespace Go.Proofs.YtemfebbakfhknaaDoor
open Go Go.Am Go.Vm
theorem nat_u8 {n:Int} (h:(Lit.int .u8 n).wf=true):∃ m:Nat,m<256∧n=m:=by
 simp [Lit.wf,IntKind.min,IntKind.max,IntKind.signed,IntKind.bits] at h
 exact ⟨n.toNat,by omega,by omega⟩
theorem nat_u16 {n:Int} (h:(Lit.int .u16 n).wf=true):∃ m:Nat,m<65536∧n=m:=by
 simp [Lit.wf,IntKind.min,IntKind.max,IntKind.signed,IntKind.bits] at h
 exact ⟨n.toNat,by omega,by omega⟩
theorem int_i8 {n:Int} (h:(Lit.int .i8 n).wf=true):-128≤n∧n≤127:=by
 simp [Lit.wf,IntKind.min,IntKind.max,IntKind.signed,IntKind.bits] at h
 omega
theorem int_i64 {n:Int} (h:(Lit.int .i64 n).wf=true):-9223372036854775808≤n∧n≤9223372036854775807:=by
 simp [Lit.wf,IntKind.min,IntKind.max,IntKind.signed,IntKind.bits] at h
 omega
theorem all2_three {α β:Type} {R:α→β→Prop} {a b c:α} {r:List β} (h:All2 R [a,b,c] r):∃ x y z,r=[x,y,z]∧R a x∧R b y∧R c z:=by
 cases h with|cons h1 t=>cases t with|cons h2 t=>cases t with|cons h3 t=>cases t;exact ⟨_,_,_,rfl,h1,h2,h3⟩
theorem all2_two {α β:Type} {R:α→β→Prop} {a b:α} {r:List β} (h:All2 R [a,b] r):∃ x y,r=[x,y]∧R a x∧R b y:=by
 cases h with|cons h1 t=>cases t with|cons h2 t=>cases t;exact ⟨_,_,rfl,h1,h2⟩
set_option maxRecDepth 100000 in
theorem has_int {j:Nat} {fs:List FV} (h:HasT Tryd.prog (j+1) 3 fs):∃ n:Int,fs=[.int .i64 n]∧-9223372036854775808≤n∧n≤9223372036854775807:=by
 simp only [HasT,Tryd.underlying3] at h
 obtain ⟨n,rfl,hn⟩:=h
 exact ⟨n,rfl,int_i64 hn⟩
set_option maxRecDepth 100000 in
theorem has_i8 {j:Nat} {fs:List FV} (h:HasT Tryd.prog (j+1) 44 fs):∃ n:Int,fs=[.int .i8 n]∧-128≤n∧n≤127:=by
 simp only [HasT,Tryd.underlying44] at h
 obtain ⟨n,rfl,hn⟩:=h
 exact ⟨n,rfl,int_i8 hn⟩
set_option maxRecDepth 100000 in
theorem has_u16 {j:Nat} {fs:List FV} (h:HasT Tryd.prog (j+1) 42 fs):∃ n:Nat,fs=[.int .u16 (n:Int)]∧n<65536:=by
 simp only [HasT,Tryd.underlying42] at h
 obtain ⟨n,rfl,hn⟩:=h
 obtain ⟨m,hm,rfl⟩:=nat_u16 hn
 exact ⟨m,rfl,hm⟩
set_option maxRecDepth 100000 in
theorem has_scale {j:Nat} {fs:List FV} (h:HasT Tryd.prog (j+2) 23 fs):∃ s:Scl,fs=Enc.enc s:=by
 simp only [HasT,Tryd.underlying23,Tryd.underlying3] at h
 obtain ⟨parts,rfl,hp⟩:=h
 obtain ⟨a,b,c,rfl,⟨x,rfl,_⟩,⟨y,rfl,_⟩,⟨z,rfl,_⟩⟩:=all2_three hp
 exact ⟨⟨x,y,z⟩,rfl⟩
set_option maxRecDepth 100000 in
theorem has_frac {j:Nat} {fs:List FV} (h:HasT Tryd.prog (j+2) 37 fs):∃ x:Frac,fs=Enc.enc x:=by
 simp only [HasT,Tryd.underlying37,Tryd.underlying3] at h
 obtain ⟨parts,rfl,hp⟩:=h
 obtain ⟨a,b,rfl,⟨x,rfl,_⟩,⟨y,rfl,_⟩⟩:=all2_two hp
 exact ⟨⟨x,y⟩,rfl⟩
theorem len2 {α:Type} {l:List α} (h:l.length=2):∃ a b,l=[a,b]:=by
 match l,h with|[a,b],_=>exact ⟨a,b,rfl⟩
theorem len4 {α:Type} {l:List α} (h:l.length=4):∃ a b c d,l=[a,b,c,d]:=by
 match l,h with|[a,b,c,d],_=>exact ⟨a,b,c,d,rfl⟩
set_option maxRecDepth 100000 in
theorem has_u8x2 {j:Nat} {fs:List FV} (h:HasT Tryd.prog (j+2) 43 fs):∃ a b:Nat,fs=[.int .u8 (a:Int),.int .u8 (b:Int)]∧a<256∧b<256:=by
 simp only [HasT,Tryd.underlying43,Tryd.underlying5] at h
 obtain ⟨L,rfl,hl,hL⟩:=h
 obtain ⟨a,b,rfl⟩:=len2 hl
 obtain ⟨x,rfl,hx⟩:=hL a (by simp)
 obtain ⟨y,rfl,hy⟩:=hL b (by simp)
 obtain ⟨m,hm,rfl⟩:=nat_u8 hx
 obtain ⟨k,hk,rfl⟩:=nat_u8 hy
 exact ⟨m,k,rfl,hm,hk⟩
set_option maxRecDepth 100000 in
theorem has_u16x2 {j:Nat} {fs:List FV} (h:HasT Tryd.prog (j+2) 50 fs):∃ a b:Nat,fs=[.int .u16 (a:Int),.int .u16 (b:Int)]∧a<65536∧b<65536:=by
 simp only [HasT,Tryd.underlying50,Tryd.underlying42] at h
 obtain ⟨L,rfl,hl,hL⟩:=h
 obtain ⟨a,b,rfl⟩:=len2 hl
 obtain ⟨x,rfl,hx⟩:=hL a (by simp)
 obtain ⟨y,rfl,hy⟩:=hL b (by simp)
 obtain ⟨m,hm,rfl⟩:=nat_u16 hx
 obtain ⟨k,hk,rfl⟩:=nat_u16 hy
 exact ⟨m,k,rfl,hm,hk⟩
set_option maxRecDepth 100000 in
theorem has_u8x4 {j:Nat} {fs:List FV} (h:HasT Tryd.prog (j+2) 51 fs):∃ a b c d:Nat,fs=[.int .u8 (a:Int),.int .u8 (b:Int),.int .u8 (c:Int),.int .u8 (d:Int)]∧a<256∧b<256∧c<256∧d<256:=by
 simp only [HasT,Tryd.underlying51,Tryd.underlying5] at h
 obtain ⟨L,rfl,hl,hL⟩:=h
 obtain ⟨a,b,c,d,rfl⟩:=len4 hl
 obtain ⟨x,rfl,hx⟩:=hL a (by simp)
 obtain ⟨y,rfl,hy⟩:=hL b (by simp)
 obtain ⟨z,rfl,hz⟩:=hL c (by simp)
 obtain ⟨w,rfl,hw⟩:=hL d (by simp)
 obtain ⟨m,hm,rfl⟩:=nat_u8 hx
 obtain ⟨k,hk,rfl⟩:=nat_u8 hy
 obtain ⟨p,hp,rfl⟩:=nat_u8 hz
 obtain ⟨q,hq,rfl⟩:=nat_u8 hw
 exact ⟨m,k,p,q,rfl,hm,hk,hp,hq⟩
end Go.Proofs.YtemfebbakfhknaaDoor
