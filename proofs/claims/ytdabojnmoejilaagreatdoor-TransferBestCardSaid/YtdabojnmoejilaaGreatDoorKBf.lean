/-
  Texts of a proof, merged (HunD, TraB, TraC, TraD, TraK, HunE, TraL, TraM, TraR, TraN, OrO, OrQ, TraS, TraT, Vm38). Conditions: in each statement.
-/
import Derived.Test.YtdabojnmoejilaaGreatDoorKBe
set_option linter.unusedSimpArgs false
set_option linter.unusedVariables false
set_option linter.unusedSectionVars false
set_option maxRecDepth 100000
set_option maxHeartbeats 8000000
namespace Go.Hun
open Go.Vm
def Dv (f:Nat→Int):Nat→Int
 |0=>0
 |k+1=>Dv f k+f k
theorem EO {f g:Nat→Int}:∀ {n:Nat},(∀ k,k<n→f k=g k)→Dv f n=Dv g n
 |0,_=>rfl
 |n+1,h=>by simp only [Dv];rw [EO fun k hk=>h k (by omega),h n (by omega)]
theorem OL {f g:Nat→Int}:∀ {n:Nat},(∀ k,k<n→f k≤g k)→Dv f n≤Dv g n
 |0,_=>Int.le_refl _
 |n+1,h=>by
  simp only [Dv]
  have:=OL (f:=f) (g:=g) (n:=n) fun k hk=>h k (by omega)
  have:=h n (by omega)
  omega
theorem Xq (f g:Nat→Int):∀ n,Dv (fun k=>f k+g k) n=Dv f n+Dv g n
 |0=>rfl
 |n+1=>by simp only [Dv];rw [Xq f g n];omega
theorem YF {f:Nat→Int}:∀ {n:Nat},(∀ k,k<n→f k=0)→Dv f n=0
 |0,_=>rfl
 |n+1,h=>by simp only [Dv];rw [YF fun k hk=>h k (by omega),h n (by omega)];rfl
theorem MQ (c:Int):∀ n:Nat,Dv (fun _=>c) n=n*c
 |0=>by simp [Dv]
 |n+1=>by
  simp only [Dv];rw [MQ c n]
  push_cast
  rw [Int.add_mul,Int.one_mul]
theorem l9 {f:Nat→Int} {a b:Int}:∀ {n:Nat},(∀ k,k<n→a≤f k∧f k≤b)→n*a≤Dv f n∧Dv f n≤n*b:=fun {n} h=>by
 have h1:=OL (f:=fun _=>a) (g:=f) (n:=n) fun k hk=>(h k hk).1
 have h2:=OL (f:=f) (g:=fun _=>b) (n:=n) fun k hk=>(h k hk).2
 rw [MQ] at h1 h2
 exact ⟨h1,h2⟩
theorem SE {f:Nat→Int} {j:Nat}:∀ {n:Nat},j<n→Dv f n=f j+Dv (fun k=>if k=j then 0 else f k) n
 |n+1,h=>by
  simp only [Dv]
  by_cases e:j=n
  ·subst e
   rw [if_pos rfl,EO (f:=fun k=>if k=j then 0 else f k) (g:=f) fun k hk=>if_neg (by omega)]
   omega
  ·rw [if_neg (fun x=>e x.symm),SE (f:=f) (j:=j) (n:=n) (by omega)]
   omega
theorem au:∀ (n m:Nat) (κ:Nat→Nat) (f:Nat→Int),(∀ r,r<n→κ r<m)→(∀ r q,r<n→q<n→κ r=κ q→r=q)→(∀ k,k<m→(∀ r,r<n→κ r≠k)→f k=0)→Dv f m=Dv (fun r=>f (κ r)) n
 |0,m,κ,f,h1,h2,h3=>YF fun k hk=>h3 k hk fun r hr=>by omega
 |n+1,m,κ,f,h1,h2,h3=>by
  rw [SE (h1 n (by omega))]
  have ih:=au n m κ (fun k=>if k=κ n then 0 else f k) (fun r hr=>h1 r (by omega)) (fun r q hr hq=>h2 r q (by omega) (by omega)) fun k hk hn=>by
   by_cases e:k=κ n
   ·simp only [if_pos e]
   ·simp only [if_neg e]
    refine h3 k hk fun r hr=>?_
    rcases Nat.lt_or_ge r n with h|h
    ·exact hn r h
    ·obtain rfl:r=n:=by omega
     exact fun x=>e x.symm
  rw [ih]
  simp only [Dv]
  rw [EO (n:=n) (f:=fun r=>if κ r=κ n then 0 else f (κ r)) (g:=fun r=>f (κ r)) fun r hr=>if_neg fun e=>by have:=h2 r n (by omega) (by omega) e;omega]
  omega
theorem W9:∀ (n m:Nat) (κ:Nat→Nat) (f:Nat→Int),(∀ r q,r<n→q<n→κ r<m→κ r=κ q→r=q)→(∀ k,k<m→f k≤0)→Dv f m≤Dv (fun r=>if κ r<m then f (κ r) else 0) n
 |0,m,κ,f,h2,h3=>by
  have:=OL (f:=f) (g:=fun _=>0) (n:=m) h3
  rw [MQ] at this
  simp only [Dv];omega
 |n+1,m,κ,f,h2,h3=>by
  simp only [Dv]
  by_cases hk:κ n<m
  ·rw [if_pos hk,SE hk]
   have ih:=W9 n m κ (fun k=>if k=κ n then 0 else f k) (fun r q hr hq=>h2 r q (by omega) (by omega)) fun k hk=>by
    by_cases e:k=κ n
    ·simp only [if_pos e];omega
    ·simp only [if_neg e];exact h3 k hk
   have e2:Dv (fun r=>if κ r<m then (if κ r=κ n then 0 else f (κ r)) else 0) n=Dv (fun r=>if κ r<m then f (κ r) else 0) n:=EO fun r hr=>by
    by_cases h:κ r<m
    ·rw [if_pos h,if_pos h,if_neg fun e=>by have:=h2 r n (by omega) (by omega) h e;omega]
    ·rw [if_neg h,if_neg h]
   rw [e2] at ih
   omega
  ·rw [if_neg hk]
   have ih:=W9 n m κ f (fun r q hr hq=>h2 r q (by omega) (by omega)) h3
   omega
section
variable {costs:List (List Int)} {n m:Nat} {B:Int}
structure a7m (costs:List (List Int)) (n:Nat) (o:List Ix) (j:Nat) (x:Out):Prop where
 len:x.cols.length=n
 cols:∀ k,1≤k→k≤j→0<own o k→gi x.cols (own o k-1)=(k:Int)-1
 total:x.total=Dv (fun k=>if 0<own o (k+1) then cst costs (own o (k+1)) (k+1) else 0) j
theorem Xo {s:kT} (h:rV costs n m n s):∀ j,j≤m→a7m costs n s.owner j (KR costs s.owner n j)
 |0,_=>⟨by simp [KR],fun k k1 k2=>by omega,rfl⟩
 |j+1,hj=>by
  obtain ⟨i1,i2,i3⟩:=Xo h j (by omega)
  have e:KR costs s.owner n (j+1)=qV costs s.owner (KR costs s.owner n j) (j+1):=rfl
  rw [e]
  generalize KR costs s.owner n j=x at *
  unfold qV
  have e2:(gi s.owner (j+1)).n=own s.owner (j+1):=rfl
  simp only [e2]
  by_cases hp:0<own s.owner (j+1)
  ·rw [if_pos hp]
   have hle:=h.own (j+1) (by omega) hj
   refine ⟨by simp [i1],fun k k1 k2 k3=>?_,?_⟩
   ·show gi (x.cols.set (own s.owner (j+1)-1) (((j+1:Nat):Int)-1)) _=_
    rw [gs (by omega)]
    by_cases e:k=j+1
    ·subst e;rw [if_pos rfl]
    ·rw [if_neg,i2 k k1 (by omega) k3]
     intro e3
     have:=h.inj k (j+1) k1 (by omega) (by omega) hj (by omega) (by omega)
     omega
   ·simp only [Dv]
    rw [if_pos hp,i3]
    unfold cst
    rfl
  ·rw [if_neg hp]
   refine ⟨i1,fun k k1 k2 k3=>?_,?_⟩
   ·by_cases e:k=j+1
    ·subst e;exact absurd k3 hp
    ·exact i2 k k1 (by omega) k3
   ·simp only [Dv]
    rw [if_neg hp,i3];omega
def Gz (costs:List (List Int)) (n m:Nat):Out:=KR costs (Dh costs n m n).owner n m
def JK (costs:List (List Int)) (n m:Nat):List Int:=(Dh costs n m n).u.drop 1
def G6 (costs:List (List Int)) (n m:Nat):List Int:=(Dh costs n m n).v.drop 1
theorem oJ {α:Type} [Inhabited α] (l:List α) (j k:Nat):gi (l.drop j) k=gi l (j+k):=by
 unfold gi;rw [List.getElem?_drop]
structure a1r (c:Nat→Nat→Int) (n m:Nat) (B:Int) (x:Out) (U V:List Int):Prop where
 len:x.cols.length=n
 lU:U.length=n
 lV:V.length=m
 col:∀ r,r<n→0≤gi x.cols r∧gi x.cols r<m
 inj:∀ r q,r<n→q<n→gi x.cols r=gi x.cols q→r=q
 total:x.total=Dv (fun r=>c r (gi x.cols r).toNat) n
 XH:∀ r k,r<n→k<m→gi U r+gi V k≤c r k
 neg:∀ k,k<m→-B≤gi V k∧gi V k≤0
 pos:∀ r,r<n→0≤gi U r∧gi U r≤B
 yQ:x.total=Dv (fun r=>gi U r) n+Dv (fun k=>gi V k) m
 free:∀ k,k<m→(∀ r,r<n→gi x.cols r≠k)→gi V k=0
theorem Wp (hc:Iw costs n m B):a1r (fun r k=>gi (gi costs r) k) n m B (Gz costs n m) (JK costs n m) (G6 costs n m):=by
 have h:=Nv hc n (Nat.le_refl _)
 have hO:=Xo h m (Nat.le_refl _)
 have e1:KR costs (Dh costs n m n).owner n m=Gz costs n m:=rfl
 have e2:(Dh costs n m n).u.drop 1=JK costs n m:=rfl
 have e3:(Dh costs n m n).v.drop 1=G6 costs n m:=rfl
 rw [e1] at hO
 have hu:∀ r,gi (JK costs n m) r=gi (Dh costs n m n).u (r+1):=fun r=>by rw [← e2,oJ,Nat.add_comm]
 have hv:∀ k,gi (G6 costs n m) k=gi (Dh costs n m n).v (k+1):=fun k=>by rw [← e3,oJ,Nat.add_comm]
 have lU:(JK costs n m).length=n:=by rw [← e2,List.length_drop,h.lu];omega
 have lV:(G6 costs n m).length=m:=by rw [← e3,List.length_drop,h.lv];omega
 generalize JK costs n m=U at *
 generalize G6 costs n m=V at *
 generalize Gz costs n m=x at *
 generalize Dh costs n m n=s at *
 have hb:=hc.big
 have hnm:=hc.nm
 have Yg:∀ r,r<n→∃ k,1≤k∧k≤m∧own s.owner k=r+1∧gi x.cols r=(k:Int)-1:=fun r hr=>by
  obtain ⟨k,k1,k2,k3⟩:=h.all (r+1) (by omega) (by omega)
  have:=hO.cols k k1 k2 (by omega)
  rw [k3,Nat.add_sub_cancel] at this
  exact ⟨k,k1,k2,k3,this⟩
 have hown:∀ r,r<n→own s.owner ((gi x.cols r).toNat+1)=r+1∧(gi x.cols r).toNat<m:=fun r hr=>by
  obtain ⟨k,k1,k2,k3,k4⟩:=Yg r hr
  have:(gi x.cols r).toNat+1=k:=by omega
  rw [this];exact ⟨k3,by omega⟩
 have hinj:∀ r q,r<n→q<n→(gi x.cols r).toNat=(gi x.cols q).toNat→r=q:=fun r q hr hq e=>by
  have h1:=(hown r hr).1
  have h2:=(hown q hq).1
  rw [e] at h1;omega
 have hfree:∀ k,k<m→(∀ r,r<n→(gi x.cols r).toNat≠k)→own s.owner (k+1)=0:=fun k hk hn=>by
  rcases Nat.eq_zero_or_pos (own s.owner (k+1)) with e|e
  ·exact e
  ·have hle:=h.own (k+1) (by omega) (by omega)
   have:=hO.cols (k+1) (by omega) (by omega) e
   exact absurd (by omega) (hn (own s.owner (k+1)-1) (by omega))
 have ht:x.total=Dv (fun r=>gi (gi costs r) (gi x.cols r).toNat) n:=by
  rw [hO.total,au n m (fun r=>(gi x.cols r).toNat) _ (fun r hr=>(hown r hr).2) hinj fun k hk hn=>by
   rw [if_neg (by rw [hfree k hk hn];omega)]]
  refine EO fun r hr=>?_
  rw [(hown r hr).1,if_pos (by omega)]
  unfold cst
  rw [Nat.add_sub_cancel,Nat.add_sub_cancel]
 have hfe:∀ r k,r<n→k<m→gi U r+gi V k≤gi (gi costs r) k:=fun r k hr hk=>by
  rw [hu,hv]
  have:=h.XH (r+1) (k+1) (by omega) (by omega) (by omega) (by omega)
  unfold cst at this
  rwa [Nat.add_sub_cancel,Nat.add_sub_cancel] at this
 have hng:∀ k,k<m→gi V k≤0:=fun k hk=>by rw [hv];exact h.iH (k+1) (by omega) (by omega)
 have hps:∀ r,r<n→0≤gi U r:=fun r hr=>by rw [hu];exact h.U0 (r+1) (by omega) (by omega)
 have hf:∃ k,k<m∧own s.owner (k+1)=0:=by
  refine Classical.byContradiction fun hn=>?_
  have hn:∀ k,k<m→own s.owner (k+1)≠0:=fun k h1 h3=>hn ⟨k,h1,h3⟩
  have:=Wi n m (fun k=>own s.owner (k+1)-1) (fun k hk=>by
   have h1:=hn k hk
   have h2:=h.own (k+1) (by omega) (by omega)
   show own s.owner (k+1)-1<n
   omega) (fun k e hk he hf=>by
   have h1:=hn k hk
   have h2:=hn e he
   have hf:own s.owner (k+1)-1=own s.owner (e+1)-1:=hf
   have:=h.inj (k+1) (e+1) (by omega) (by omega) (by omega) (by omega) (by omega) h1
   omega)
  omega
 obtain ⟨f,f1,f2⟩:=hf
 have fv:gi V f=0:=by rw [hv];exact h.Pm (f+1) (by omega) (by omega) f2
 have hub:∀ r,r<n→gi U r≤B:=fun r hr=>by
  have h1:=hfe r f hr f1
  have h2:=hc.hi (r+1) (f+1)
  unfold cst at h2
  rw [Nat.add_sub_cancel,Nat.add_sub_cancel] at h2
  omega
 have a3n:∀ r,r<n→gi U r+gi V (gi x.cols r).toNat=gi (gi costs r) (gi x.cols r).toNat:=fun r hr=>by
  obtain ⟨h1,h2⟩:=hown r hr
  have:=h.tight ((gi x.cols r).toNat+1) (by omega) (by omega) (by omega)
  rw [h1] at this
  rw [hu,hv]
  unfold cst at this
  rwa [Nat.add_sub_cancel,Nat.add_sub_cancel] at this
 have hV0:∀ k,k<m→(∀ r,r<n→(gi x.cols r).toNat≠k)→gi V k=0:=fun k hk hn=>by
  rw [hv];exact h.Pm (k+1) (by omega) (by omega) (hfree k hk hn)
 refine ⟨hO.len,lU,lV,fun r hr=>?_,fun r q hr hq e=>hinj r q hr hq (by rw [e]),ht,hfe,fun k hk=>⟨?_,hng k hk⟩,fun r hr=>⟨hps r hr,hub r hr⟩,?_,fun k hk hn=>hV0 k hk fun r hr e=>hn r hr (by obtain ⟨j,j1,j2,j3,j4⟩:=Yg r hr;omega)⟩
 ·obtain ⟨k,k1,k2,k3,k4⟩:=Yg r hr
  omega
 ·by_cases e:own s.owner (k+1)=0
  ·rw [hv,h.Pm (k+1) (by omega) (by omega) e];omega
  ·have hle:=h.own (k+1) (by omega) (by omega)
   have h1:=h.tight (k+1) (by omega) (by omega) e
   have h2:=hub (own s.owner (k+1)-1) (by omega)
   rw [hu] at h2
   have h3:own s.owner (k+1)-1+1=own s.owner (k+1):=by omega
   rw [h3] at h2
   have h4:=hc.lo (own s.owner (k+1)) (k+1)
   rw [hv];omega
 ·rw [ht,EO (fun r hr=>(a3n r hr).symm),Xq]
  congr 1
  rw [au n m (fun r=>(gi x.cols r).toNat) (fun k=>gi V k) (fun r hr=>(hown r hr).2) hinj hV0]
end
def GH (l:List (List Int)) (skip:Int) (cols:Nat→Int) (r:Nat):Int:=if cols r<0 then skip else gi (gi l r) (cols r).toNat
structure Wq (n m:Nat) (cols:Nat→Int):Prop where
 rng:∀ r,r<n→-1≤cols r∧cols r<m
 inj:∀ r q,r<n→q<n→0≤cols r→cols r=cols q→r=q
structure a3j (l:List (List Int)) (n m:Nat) (skip:Int) (U V:Nat→Int):Prop where
 XH:∀ r k,r<n→k<m→U r+V k≤gi (gi l r) k
 skip:∀ r,r<n→U r≤skip
 neg:∀ k,k<m→V k≤0
theorem weak {l:List (List Int)} {n m:Nat} {skip:Int} {U V:Nat→Int} {cols:Nat→Int} (hp:a3j l n m skip U V) (hc:Wq n m cols):Dv U n+Dv V m≤Dv (GH l skip cols) n:=by
 have h1:=W9 n m (fun r=>if cols r<0 then m else (cols r).toNat) V (fun r q hr hq h e=>by
  by_cases a:cols r<0
  ·rw [if_pos a] at h;omega
  ·rw [if_neg a] at h e
   by_cases b:cols q<0
   ·rw [if_pos b] at e;omega
   ·rw [if_neg b] at e
    exact hc.inj r q hr hq (by omega) (by omega)) hp.neg
 have h2:=OL (n:=n) (f:=fun r=>U r+(if (if cols r<0 then m else (cols r).toNat)<m then V (if cols r<0 then m else (cols r).toNat) else 0)) (g:=GH l skip cols) fun r hr=>by
  unfold GH
  have hr1:=hc.rng r hr
  by_cases a:cols r<0
  ·simp only [if_pos a]
   rw [if_neg (by omega)]
   have:=hp.skip r hr
   omega
  ·simp only [if_neg a]
   rw [if_pos (by omega)]
   exact hp.XH r _ hr (by omega)
 rw [Xq] at h2
 omega
def DC (l:List (List Int)) (skip:Int) (n:Nat):List (List Int):=l.map fun row=>row++List.replicate (n+1) skip
theorem gi_map' {α β:Type} [Inhabited α] [Inhabited β] (f:α→β) {l:List α} {i:Nat} (h:i<l.length):gi (l.map f) i=f (gi l i):=by
 unfold gi;simp [List.getElem?_map,List.getElem?_eq_getElem h]
structure jB (l:List (List Int)) (n m:Nat) (skip B:Int):Prop where
 len:l.length=n
 row:∀ r,r<n→(gi l r).length=m
 rng:∀ r k,r<n→k<m→0≤gi (gi l r) k∧gi (gi l r) k≤B
 skip:0≤skip∧skip≤B
 big:B≤1000000000000
theorem Vh {l:List (List Int)} {n m:Nat} {skip B:Int} (h:jB l n m skip B) {r k:Nat} (hr:r<n):gi (gi (DC l skip n) r) k=if k<m then gi (gi l r) k else if k<m+(n+1) then skip else 0:=by
 unfold DC
 rw [gi_map' _ (by rw [h.len];exact hr)]
 have:=h.row r hr
 unfold gi at this ⊢
 rw [List.getElem?_append]
 by_cases h1:k<m
 ·rw [if_pos (by omega),if_pos h1]
 ·rw [if_neg (by omega),if_neg h1,List.getElem?_replicate]
  by_cases h2:k<m+(n+1)
  ·rw [if_pos (by omega),if_pos h2];rfl
  ·rw [if_neg (by omega),if_neg h2];rfl
theorem YX {l:List (List Int)} {n m:Nat} {skip B:Int} (h:jB l n m skip B):Iw (DC l skip n) n (m+(n+1)) B:=by
 have h0:=h.skip
 have hb:0≤B:=by omega
 have:∀ r k,0≤gi (gi (DC l skip n) r) k∧gi (gi (DC l skip n) r) k≤B:=fun r k=>by
  rcases Nat.lt_or_ge r n with h1|h1
  ·rw [Vh h h1]
   split
   ·rename_i h2;exact h.rng r k h1 h2
   ·split
    ·exact h0
    ·omega
  ·have e:gi (DC l skip n) r=default:=by
    unfold gi DC
    rw [List.getElem?_eq_none (by rw [List.length_map,h.len];omega)];rfl
   rw [e]
   have:gi (default:List Int) k=0:=by
    show ((([]:List Int)[k]?).getD 0)=0
    simp
   rw [this];omega
 exact ⟨fun r k=>(this _ _).1,fun r k=>(this _ _).2,⟨hb,h.big⟩,by omega⟩
def KO (m:Nat) (c:Int):Int:=if (m:Int)≤c then -1 else c
def wW (l:List (List Int)) (n m:Nat) (skip:Int):List Int:=(Gz (DC l skip n) n (m+(n+1))).cols.map (KO m)
def kG (l:List (List Int)) (n m:Nat) (skip:Int):Int:=(Gz (DC l skip n) n (m+(n+1))).total
def xI (l:List (List Int)) (n m:Nat) (skip:Int):List Int:=JK (DC l skip n) n (m+(n+1))
def xX (l:List (List Int)) (n m:Nat) (skip:Int):List Int:=(G6 (DC l skip n) n (m+(n+1))).take m
structure a5k (l:List (List Int)) (n m:Nat) (skip B:Int) (cols U V:List Int) (total:Int):Prop where
 lC:cols.length=n
 lU:U.length=n
 lV:V.length=m
 part:Wq n m (fun r=>gi cols r)
 tot:total=Dv (GH l skip fun r=>gi cols r) n
 pot:a3j l n m skip (fun r=>gi U r) (fun k=>gi V k)
 yQ:total=Dv (fun r=>gi U r) n+Dv (fun k=>gi V k) m
 a9m:∀ r,r<n→0≤gi U r∧gi U r≤B
 a4i:∀ k,k<m→-B≤gi V k∧gi V k≤0
theorem gi_take' {α:Type} [Inhabited α] (l:List α) {j k:Nat} (h:k<j):gi (l.take j) k=gi l k:=by
 unfold gi;rw [List.getElem?_take,if_pos h]
theorem Ql (f:Nat→Int) (m:Nat):∀ n,Dv f (m+n)=Dv f m+Dv (fun k=>f (m+k)) n
 |0=>by simp [Dv]
 |n+1=>by
  rw [← Nat.add_assoc]
  simp only [Dv]
  rw [Ql f m n];omega
theorem jd {l:List (List Int)} {n m:Nat} {skip B:Int} (h:jB l n m skip B):a5k l n m skip B (wW l n m skip) (xI l n m skip) (xX l n m skip) (kG l n m skip):=by
 have hs:=Wp (YX h)
 have eC:wW l n m skip=(Gz (DC l skip n) n (m+(n+1))).cols.map (KO m):=rfl
 have eT:kG l n m skip=(Gz (DC l skip n) n (m+(n+1))).total:=rfl
 have eU:xI l n m skip=JK (DC l skip n) n (m+(n+1)):=rfl
 have eV:xX l n m skip=(G6 (DC l skip n) n (m+(n+1))).take m:=rfl
 rw [eC,eT,eU,eV]
 generalize Gz (DC l skip n) n (m+(n+1))=x at *
 generalize JK (DC l skip n) n (m+(n+1))=U at *
 generalize G6 (DC l skip n) n (m+(n+1))=V at *
 obtain ⟨s1,s2,s3,s4,s5,s6,s7,s8,s9,s10,s11⟩:=hs
 have gC:∀ r,r<n→gi (x.cols.map (KO m)) r=KO m (gi x.cols r):=fun r hr=>gi_map' _ (by omega)
 have gV:∀ k,k<m→gi (V.take m) k=gi V k:=fun k hk=>gi_take' V hk
 have part:Wq n m (fun r=>gi (x.cols.map (KO m)) r):=by
  refine ⟨fun r hr=>?_,fun r q hr hq h1 h2=>?_⟩
  ·rw [gC r hr]
   have:=s4 r hr
   unfold KO;split<;>omega
  ·rw [gC r hr] at h1 h2
   rw [gC q hq] at h2
   refine s5 r q hr hq ?_
   have:=s4 q hq
   unfold KO at h1 h2
   split at h2<;>split at h2<;>omega
 have tot:x.total=Dv (GH l skip fun r=>gi (x.cols.map (KO m)) r) n:=by
  rw [s6]
  refine EO fun r hr=>?_
  have:=s4 r hr
  show _=if gi (x.cols.map (KO m)) r<0 then skip else gi (gi l r) (gi (x.cols.map (KO m)) r).toNat
  rw [gC r hr,Vh h hr]
  unfold KO
  by_cases h1:(m:Int)≤gi x.cols r
  ·rw [if_pos h1,if_neg (by omega),if_pos (by omega),if_pos (by omega)]
  ·rw [if_neg h1,if_pos (by omega),if_neg (by omega)]
 have hsk:∀ r,r<n→gi U r≤skip:=fun r hr=>by
  have hx:∃ k,k<n+1∧∀ q,q<n→gi x.cols q≠((m+k:Nat):Int):=by
   refine Classical.byContradiction fun hn=>?_
   have hn:∀ k,k<n+1→∃ q,q<n∧gi x.cols q=((m+k:Nat):Int):=fun k hk=>Classical.byContradiction fun h2=>hn ⟨k,hk,fun q hq e=>h2 ⟨q,hq,e⟩⟩
   have hn':∀ k,∃ q,k<n+1→q<n∧gi x.cols q=((m+k:Nat):Int):=fun k=>by
    by_cases hk:k<n+1
    ·obtain ⟨q,hq⟩:=hn k hk;exact ⟨q,fun _=>hq⟩
    ·exact ⟨0,fun h=>absurd h hk⟩
   have hF:=fun k=>Classical.choose_spec (hn' k)
   have:=Wi n (n+1) (fun k=>Classical.choose (hn' k)) (fun k hk=>(hF k hk).1) (fun k e hk he hf=>by
    have h1:=(hF k hk).2
    have h2:=(hF e he).2
    have hf:Classical.choose (hn' k)=Classical.choose (hn' e):=hf
    rw [hf,h2] at h1;omega)
   omega
  obtain ⟨k,k1,k2⟩:=hx
  have h1:=s7 r (m+k) hr (by omega)
  rw [Vh h hr,if_neg (by omega),if_pos (by omega)] at h1
  have h0:=s11 (m+k) (by omega) k2
  omega
 have yQ:Dv (fun k=>gi V k) (m+(n+1))≤Dv (fun k=>gi (V.take m) k) m:=by
  rw [Ql,EO (n:=m) (f:=fun k=>gi (V.take m) k) (g:=fun k=>gi V k) gV]
  have:=OL (n:=n+1) (f:=fun k=>gi V (m+k)) (g:=fun _=>0) fun k hk=>(s8 (m+k) (by omega)).2
  rw [MQ] at this
  omega
 have pot:a3j l n m skip (fun r=>gi U r) (fun k=>gi (V.take m) k):=by
  refine ⟨fun r k hr hk=>?_,hsk,fun k hk=>?_⟩
  ·have h1:=s7 r k hr (by omega)
   rw [Vh h hr,if_pos hk] at h1
   show gi U r+gi (V.take m) k≤_
   rw [gV k hk];exact h1
  ·show gi (V.take m) k≤0
   rw [gV k hk];exact (s8 k (by omega)).2
 have hw:=weak pot part
 exact ⟨by rw [List.length_map,s1],s2,by rw [List.length_take,s3];omega,part,tot,pot,by omega,s9,fun k hk=>by rw [gV k hk];exact s8 k (by omega)⟩
end Go.Hun
namespace Go.Proofs.YtdabojnmoejilaaGreatDoor
open Go Go.Am Go.Vm Go.Hun
attribute [local irreducible] Aa Ag Ap Ad BA AY CJ AO AL Aw Vm.Done Dc Bq
def uh (l:List (List Int)):Nat:=(gi l 0).length
theorem MH (e:TypeId) (l:List (List Int)) (hl:l.length<1000000):AY env 69 [.lst e (cells l) l.length] (.p (.int .i64 (uh l:Int))):=by
 refine AY.enter (AB (by decide)) Tryz.func69 rfl (by kernel_rfl) (by simp [Tryz.ntmps69]) ?_
 by_cases h:l.length=0
 ·have hl0:l=[]:=List.length_eq_zero_iff.1 h
  subst hl0
  repeat' (first|apply Ad.assoc|apply Ad.AA|apply Ad.BO|apply Ag.nil|apply Ag.one|(apply Aa.assign;rfl)|(apply Aa.move;rfl)|(apply Aa.int;rfl;rfl;rfl)|(apply Aa.BI;rfl;rfl)|(apply Ad.Bd;rfl))
  all_goals first|(exfalso;omega)|contradiction|(refine Done.ret rfl (.refl _) (by first|exact trivial|exact ⟨trivial,trivial,trivial⟩|exact ⟨trivial,trivial,trivial,trivial⟩) Aj.nil (Nat.zero_le _) (Nat.le_refl _) ⟨?_,rfl,rfl⟩;try rfl)
 ·repeat' (first|apply Ad.assoc|apply Ad.AA|apply Ad.Aq|apply Ad.ret|apply Ag.nil|apply Ag.one|(apply Aa.assign;rfl)|(apply Aa.move;rfl)|(apply Aa.int;rfl;rfl;rfl)|(apply Aa.WY;rfl;rfl;rfl;omega;omega;rfl)|(apply Aa.load;rfl;rfl)|(apply Aa.BI;rfl;rfl)|(apply Ad.Af;rfl)|(intro _;try (exfalso;omega)))
  all_goals first|(exfalso;omega)|contradiction|(refine Done.ret rfl (.refl _) (by first|exact trivial|exact ⟨trivial,trivial,trivial⟩|exact ⟨trivial,trivial,trivial,trivial⟩) Aj.nil (Nat.zero_le _) (Nat.le_refl _) ⟨?_,rfl,rfl⟩;try rfl)
section
variable {costs:List (List Int)} {n m:Nat} {B:Int}
theorem uU {i:Nat} {o:List Ix} {A:Nat→Nat} {t:Nat} {g:Gr} (h:iR costs n m i o A t g) (hc:Iw costs n m B) (ho:rY m i o) (hi:i<n) (hr:Hun.own o (A t)≠0):gi (GN costs o m g).v 0+gi (GN costs o m g).u (i+1)=gi g.v 0+gi g.u (i+1):=by
 have hR:=JV h hc ho hi hr
 have hS:=Oc h hc ho hi hr
 have h0:gi (CO g) 0=true:=(hR.doneD 0).2 ⟨0,by omega,h.zero⟩
 have h1:=hS.u1 0 (Nat.zero_le _) h0
 have h2:=hS.v1 0 (Nat.zero_le _) h0
 rw [ho.zero] at h1
 show gi (Je costs o m g).v 0+gi (Je costs o m g).u (i+1)=_
 omega
theorem Zw {i:Nat} {s:kT} (h:rV costs n m i s) (hc:Iw costs n m B) (hi:i<n):∀ t,(∀ p,p<t→Hun.own (Jg s (i+1)) (MJ costs m i s p)≠0)→gi (Ei costs (Jg s (i+1)) m (Ri m s) t).v 0+gi (Ei costs (Jg s (i+1)) m (Ri m s) t).u (i+1)=gi s.v 0
 |0,_=>by
  show gi s.v 0+gi s.u (i+1)=_
  rw [h.uz (i+1) (by omega)];omega
 |t+1,hp=>by
  have ih:=Zw h hc hi t fun p hp'=>hp p (by omega)
  have:=uU (Pg h hc hi t fun p hp'=>hp p (by omega)) hc (Y3 h) hi (hp t (by omega))
  show gi (GN costs _ m _).v 0+gi (GN costs _ m _).u (i+1)=_
  omega
theorem bM (hc:Iw costs n m B):∀ i,i≤n→-(i*B)≤gi (Dh costs n m i).v 0∧gi (Dh costs n m i).v 0≤0
 |0,_=>by
  have:gi (Dh costs n m 0).v 0=0:=Vu 0
  rw [this];simp
 |i+1,hi=>by
  have ih:=bM hc i (by omega)
  have h:=Nv hc i (by omega)
  obtain ⟨a,b,c⟩:=Zn h hc (by omega)
  have h1:=Zw h hc (by omega) _ a
  have hg:=Pg h hc (by omega) _ a
  have h2:=hg.ule hc (Y3 h) (by have:=hc.nm;omega) (r:=i+1) (by omega) (Nat.le_refl _)
  have h3:=hg.U0 (i+1) (by omega) (Nat.le_refl _)
  have e:(Dh costs n m (i+1)).v=(Ei costs (Jg (Dh costs n m i) (i+1)) m (Ri m (Dh costs n m i)) (XR costs m (Dh costs n m i) (i+1))).v:=rfl
  rw [e]
  push_cast
  rw [Int.add_mul,Int.one_mul]
  omega
end
def oG (e:TypeId) (costs:List (List Int)) (n m k row a:Nat) (s:rZ) (j:Nat):Vm.Frame :=
 [(14,.p (.int .i64 s.delta)),(15,.p (.int .i64 (s.next:Int))),(16,.p (.int .i64 ((j+1:Nat):Int))),(0,.p (.lst e (cells costs) n)),(2,.ref 0 0),(3,.p (.int .i64 (n:Int))),(4,.p (.int .i64 (m:Int))),(5,.vec 1 (n+1) 0 (n+1)),(6,.vec 2 (m+1) 0 (m+1)),(7,.vec 3 (m+1) 0 (m+1)),(8,.vec 4 (m+1) 0 (m+1)),(9,.p (.int .i64 ((k+1:Nat):Int))),(10,.p (.int .i64 (a:Int))),(11,.vec 6 (m+1) 0 (m+1)),(12,.vec 7 (m+1) 0 (m+1)),(13,.p (.int .i64 (row:Int)))]
def y5:Vm.HB:=.box 69 [.p (.val (.slice none 0 0)),.p (.int .i64 0),.p (.val (.slice none 0 0)),.p (.val (.slice none 0 0))]
def nS (n m:Nat) (u v:List Int) (o:List Ix) (done:List Bool) (s:rZ):Vm.Heap :=
 [(4,.vec 3 (cells s.way) (m+1) false),(6,.vec 3 (cells s.least) (m+1) false),(7,.vec 4 (cells done) (m+1) false),(0,y5),(1,.vec 3 (cells u) (n+1) false),(2,.vec 3 (cells v) (m+1) false),(3,.vec 3 (cells o) (m+1) false)]
theorem qB {costs:List (List Int)} {n m k row a:Nat} {B:Int} {e:TypeId} {u v:List Int} {o:List Ix} {done:List Bool} {s0:rZ} (hB:0≤B∧B≤1000000000000) (hl:costs.length=n) (hm:m≤1000) (hn:n≤1000) (hr:1≤row∧row≤n) (hrl:(gi costs (row-1)).length=m) (UL:∀ j,0≤gi (gi costs (row-1)) j∧gi (gi costs (row-1)) j≤B)
 (hu:u.length=n+1) (hv:v.length=m+1) (hd9:done.length=m+1) (h1:s0.least.length=m+1) (h2:s0.way.length=m+1) (hu9:0≤gi u row∧gi u row≤B) (hv9:∀ j,1≤j→j≤m→-B≤gi v j∧gi v j≤0) :
 Ad env 0 (aH Tryz.f72 14) (oG e costs n m k row a s0 0) (nS n m u v o done s0) 8 (fun ex L' H' nx'=>ex=.exit 4∧XE L' H' nx' (oG e costs n m k row a (KD (gi costs (row-1)) (gi u row) v done a s0 m) m) (nS n m u v o done (KD (gi costs (row-1)) (gi u row) v done a s0 m)) 8):=by
 have hs1:E5 .sub .i64 (row:Int) 1=some (.int .i64 ((row-1:Nat):Int)):=by
  simp only [E5]
  rw [wrap_i64 (by omega)]
  congr 2;omega
 show Ad env 0 (Code.loop _) _ _ _ _
 refine Ad.Fe m (oG e costs n m k row a s0 0 |>.drop 3) (nS n m u v o done s0 |>.drop 2) (fun j _=>oG e costs n m k row a (KD (gi costs (row-1)) (gi u row) v done a s0 j) j) (fun j _=>nS n m u v o done (KD (gi costs (row-1)) (gi u row) v done a s0 j)) 8 (by omega) (Nat.le_refl _) ?_ ?_ ?_ ?_
 ·repeat (first|exact Ae.nil|refine Ae.same trivial rfl ?_|refine Ae.same (Ac rfl) rfl ?_|refine Ae.same ⟨trivial,Ac rfl,trivial⟩ rfl ?_|refine Ae.same ⟨trivial,Ac rfl,Ac rfl,trivial⟩ rfl ?_|refine Ae.same ⟨trivial,Ac rfl,Ac rfl,Ac rfl,trivial⟩ rfl ?_|refine Ae.same ⟨trivial,trivial⟩ rfl ?_|refine Ae.cons trivial rfl (.of_eq (Ar (by simp<;>omega))) ?_)
 ·repeat (first|exact Aj.nil|(refine Aj.cons (Ac rfl) ?_ rfl ?_ ?_;(first|exact HB.Ak rfl|exact AQ.Ah _ _|(simp [HB.under,AQ.under,PV.under]));(first|exact Bj.refl _|exact Bj.vec (Bh.refl _) (by simp))))
 ·intro j hj
  have hI:=TA (row:=gi costs (row-1)) (ur:=gi u row) (v:=v) (done:=done) (a:=a) (s0:=s0) h1 h2 j (by omega)
  have eS2:KD (gi costs (row-1)) (gi u row) v done a s0 (j+1)=Ld (gi costs (row-1)) (gi u row) v done a (KD (gi costs (row-1)) (gi u row) v done a s0 j) (j+1):=rfl
  rw [eS2]
  generalize KD (gi costs (row-1)) (gi u row) v done a s0 j=sc at *
  have n1:=hI.ll
  have n2:=hI.lw
  have hc1:=UL j
  have hv1:=hv9 (j+1) (by omega) (by omega)
  obtain ⟨C,hC⟩:∃ C,C=Uf (gi costs (row-1)) (gi u row) v (j+1):=⟨_,rfl⟩
  have hC':C=gi (gi costs (row-1)) j-gi u row-gi v (j+1):=hC
  have hCv:E5 .sub .i64 (gi (gi costs (row-1)) j-gi u row) (gi v (j+1))=some (.int .i64 C):=by
   rw [hC']
   simp only [E5]
   rw [wrap_i64 (by omega)]
  have hs2:E5 .sub .i64 ((j+1:Nat):Int) 1=some (.int .i64 (j:Int)):=by
   simp only [E5]
   rw [wrap_i64 (by omega)]
   congr 2;omega
  clear hI UL hv9 eS2
  by_cases hd:gi done (j+1)=true
  ·have e9:Ld (gi costs (row-1)) (gi u row) v done a sc (j+1)=sc:=if_pos hd
   rw [e9]
   repeat' (first|apply Ad.assoc|apply Ad.AA|apply Ad.region|apply Ad.Aq|apply Ad.AZ|apply Ad.Ai|apply AO.normal|apply AL.exit|apply Ag.nil|apply Ag.one|(apply Aa.Dw;rfl;rfl;(first|omega|(simp only [NR]<;>omega));exact congrArg (fun b=>some (FV.bool b)) (hd))|(apply Aa.assign;rfl)|(apply Aa.move;rfl)|(apply Aa.Bv;rfl;rfl;omega)|(apply Aa.int;rfl;rfl;rfl)|(apply Aa.Dn;rfl;rfl;rfl;rfl;omega)|(apply Ad.Bd;rfl)|(apply Ad.Af;rfl)|(intro _;try (exfalso;omega)))
   all_goals try (exfalso;omega)
   refine Aw.normal ⟨by first|omega|decide,?_,?_⟩
   ·repeat (first|exact Ae.nil|refine Ae.same trivial rfl ?_|refine Ae.same (Ac rfl) rfl ?_|refine Ae.same ⟨trivial,Ac rfl,trivial⟩ rfl ?_|refine Ae.same ⟨trivial,Ac rfl,Ac rfl,trivial⟩ rfl ?_|refine Ae.same ⟨trivial,Ac rfl,Ac rfl,Ac rfl,trivial⟩ rfl ?_|refine Ae.same ⟨trivial,trivial⟩ rfl ?_|refine Ae.cons trivial rfl (.of_eq (Ar (by simp<;>omega))) ?_)
   ·repeat (first|exact Aj.nil|(refine Aj.cons (Ac rfl) ?_ rfl ?_ ?_;(first|exact HB.Ak rfl|exact AQ.Ah _ _|(simp [HB.under,AQ.under,PV.under]));(first|exact Bj.refl _|exact Bj.vec (Bh.refl _) (by simp))))
  ·have hd':gi done (j+1)=false:=by cases h:gi done (j+1)<;>simp_all
   by_cases h1:C<gi sc.least (j+1)
   ·have hld:gi (sc.least.set (j+1) C) (j+1)=C:=by rw [gs (by omega),if_pos rfl]
    by_cases h2:C<sc.delta
    ·have e9:Ld (gi costs (row-1)) (gi u row) v done a sc (j+1)=⟨sc.least.set (j+1) C,sc.way.set (j+1) ⟨a⟩,C,j+1⟩:=by
      unfold Ld
      rw [← hC,if_neg hd,if_pos h1,if_pos h2]
     rw [e9]
     repeat' (first|apply Ad.assoc|apply Ad.AA|apply Ad.BJ|apply Ad.region|apply Ad.Aq|apply Ad.Ai|apply AO.normal|apply AL.normal|apply Ag.nil|apply Ap.nil|apply Ag.one|(apply Ap.bar;decide +kernel)|apply Ap.quiet|(apply Aa.Dw;rfl;rfl;(first|omega|(simp only [NR]<;>omega));exact congrArg (fun b=>some (FV.bool b)) (hd'))|(apply Aa.AP (l:=costs);rfl;rfl;rfl;omega;exact hl)|(apply Aa.int;rfl;rfl;exact hs1)|(apply Aa.int;rfl;rfl;exact hs2)|(apply Aa.int;rfl;rfl;exact hCv)|(apply Aa.Ef (y:=C);rfl;rfl;rfl;trivial;(first|rfl|(refine congrArg (fun t=>[PV.p (FV.int _ t)]) ?_;first|omega|(simp only [Int.natCast_add,Int.natCast_mul,Int.natCast_ediv,Int.natCast_emod]<;>omega)));rfl;rfl;decide;(first|omega|(simp only [List.length_set]<;>omega)))|(apply Aa.Ef (y:=(⟨a⟩:Ix));rfl;rfl;rfl;trivial;(first|rfl|(refine congrArg (fun t=>[PV.p (FV.int _ t)]) ?_;first|omega|(simp only [Int.natCast_add,Int.natCast_mul,Int.natCast_ediv,Int.natCast_emod]<;>omega)));rfl;rfl;decide;(first|omega|(simp only [List.length_set]<;>omega)))|(apply Aa.Dw;rfl;rfl;(first|omega|(simp only [List.length_set]<;>omega));exact congrArg (fun b=>some (FV.int .i64 b)) (hld))|(apply Aa.assign;rfl)|(apply Aa.move;rfl)|(apply Aa.Bv;rfl;rfl;omega)|(apply Aa.IC;rfl;rfl;omega)|(apply Aa.int;rfl;rfl;rfl)|(apply Aa.AP;rfl;rfl;rfl;omega;rfl)|(apply Aa.Dw;rfl;rfl;omega;rfl)|(apply Aa.load;rfl;rfl)|(apply Aa.Dn;rfl;rfl;rfl;rfl;omega)|(apply Ad.Au;rfl)|(apply Ad.Af;rfl)|(apply Ad.A8;rfl)|(intro _;try (exfalso;omega)))
     all_goals try (exfalso;omega)
     refine Aw.normal ⟨by first|omega|decide,?_,?_⟩
     ·repeat (first|exact Ae.nil|refine Ae.same trivial rfl ?_|refine Ae.same (Ac rfl) rfl ?_|refine Ae.same ⟨trivial,Ac rfl,trivial⟩ rfl ?_|refine Ae.same ⟨trivial,Ac rfl,Ac rfl,trivial⟩ rfl ?_|refine Ae.same ⟨trivial,Ac rfl,Ac rfl,Ac rfl,trivial⟩ rfl ?_|refine Ae.same ⟨trivial,trivial⟩ rfl ?_|refine Ae.cons trivial rfl (.of_eq (Ar (by simp<;>omega))) ?_)
     ·repeat (first|exact Aj.nil|(refine Aj.cons (Ac rfl) ?_ rfl ?_ ?_;(first|exact HB.Ak rfl|exact AQ.Ah _ _|(simp [HB.under,AQ.under,PV.under]));(first|exact Bj.refl _|exact Bj.vec (Bh.refl _) (by simp))))
    ·have e9:Ld (gi costs (row-1)) (gi u row) v done a sc (j+1)=⟨sc.least.set (j+1) C,sc.way.set (j+1) ⟨a⟩,sc.delta,sc.next⟩:=by
      unfold Ld
      rw [← hC,if_neg hd,if_pos h1,if_neg h2]
     rw [e9]
     repeat' (first|apply Ad.assoc|apply Ad.AA|apply Ad.BJ|apply Ad.region|apply Ad.Aq|apply Ad.Ai|apply AO.normal|apply AL.normal|apply Ad.skip|apply Ag.nil|apply Ap.nil|apply Ag.one|(apply Ap.bar;decide +kernel)|apply Ap.quiet|(apply Aa.Dw;rfl;rfl;(first|omega|(simp only [NR]<;>omega));exact congrArg (fun b=>some (FV.bool b)) (hd'))|(apply Aa.AP (l:=costs);rfl;rfl;rfl;omega;exact hl)|(apply Aa.int;rfl;rfl;exact hs1)|(apply Aa.int;rfl;rfl;exact hs2)|(apply Aa.int;rfl;rfl;exact hCv)|(apply Aa.Ef (y:=C);rfl;rfl;rfl;trivial;(first|rfl|(refine congrArg (fun t=>[PV.p (FV.int _ t)]) ?_;first|omega|(simp only [Int.natCast_add,Int.natCast_mul,Int.natCast_ediv,Int.natCast_emod]<;>omega)));rfl;rfl;decide;(first|omega|(simp only [List.length_set]<;>omega)))|(apply Aa.Ef (y:=(⟨a⟩:Ix));rfl;rfl;rfl;trivial;(first|rfl|(refine congrArg (fun t=>[PV.p (FV.int _ t)]) ?_;first|omega|(simp only [Int.natCast_add,Int.natCast_mul,Int.natCast_ediv,Int.natCast_emod]<;>omega)));rfl;rfl;decide;(first|omega|(simp only [List.length_set]<;>omega)))|(apply Aa.Dw;rfl;rfl;(first|omega|(simp only [List.length_set]<;>omega));exact congrArg (fun b=>some (FV.int .i64 b)) (hld))|(apply Aa.assign;rfl)|(apply Aa.move;rfl)|(apply Aa.Bv;rfl;rfl;omega)|(apply Aa.IC;rfl;rfl;omega)|(apply Aa.int;rfl;rfl;rfl)|(apply Aa.AP;rfl;rfl;rfl;omega;rfl)|(apply Aa.Dw;rfl;rfl;omega;rfl)|(apply Aa.load;rfl;rfl)|(apply Aa.Dn;rfl;rfl;rfl;rfl;omega)|(apply Ad.Au;rfl)|(apply Ad.Af;rfl)|(apply Ad.A8;rfl)|(intro _;try (exfalso;omega)))
     all_goals try (exfalso;omega)
     refine Aw.normal ⟨by first|omega|decide,?_,?_⟩
     ·repeat (first|exact Ae.nil|refine Ae.same trivial rfl ?_|refine Ae.same (Ac rfl) rfl ?_|refine Ae.same ⟨trivial,Ac rfl,trivial⟩ rfl ?_|refine Ae.same ⟨trivial,Ac rfl,Ac rfl,trivial⟩ rfl ?_|refine Ae.same ⟨trivial,Ac rfl,Ac rfl,Ac rfl,trivial⟩ rfl ?_|refine Ae.same ⟨trivial,trivial⟩ rfl ?_|refine Ae.cons trivial rfl (.of_eq (Ar (by simp<;>omega))) ?_)
     ·repeat (first|exact Aj.nil|(refine Aj.cons (Ac rfl) ?_ rfl ?_ ?_;(first|exact HB.Ak rfl|exact AQ.Ah _ _|(simp [HB.under,AQ.under,PV.under]));(first|exact Bj.refl _|exact Bj.vec (Bh.refl _) (by simp))))
   ·by_cases h2:gi sc.least (j+1)<sc.delta
    ·have e9:Ld (gi costs (row-1)) (gi u row) v done a sc (j+1)=⟨sc.least,sc.way,gi sc.least (j+1),j+1⟩:=by
      unfold Ld
      rw [← hC,if_neg hd,if_neg h1,if_pos h2]
     rw [e9]
     repeat' (first|apply Ad.assoc|apply Ad.AA|apply Ad.BJ|apply Ad.region|apply Ad.Aq|apply Ad.Ai|apply AO.normal|apply AL.normal|apply Ag.nil|apply Ap.nil|apply Ag.one|(apply Ap.bar;decide +kernel)|apply Ap.quiet|(apply Aa.Dw;rfl;rfl;(first|omega|(simp only [NR]<;>omega));exact congrArg (fun b=>some (FV.bool b)) (hd'))|(apply Aa.AP (l:=costs);rfl;rfl;rfl;omega;exact hl)|(apply Aa.int;rfl;rfl;exact hs1)|(apply Aa.int;rfl;rfl;exact hs2)|(apply Aa.int;rfl;rfl;exact hCv)|(apply Aa.assign;rfl)|(apply Aa.move;rfl)|(apply Aa.Bv;rfl;rfl;omega)|(apply Aa.IC;rfl;rfl;omega)|(apply Aa.int;rfl;rfl;rfl)|(apply Aa.AP;rfl;rfl;rfl;omega;rfl)|(apply Aa.Dw;rfl;rfl;omega;rfl)|(apply Aa.load;rfl;rfl)|(apply Aa.Dn;rfl;rfl;rfl;rfl;omega)|(apply Ad.Au;rfl)|(apply Ad.Af;rfl)|(apply Ad.A8;rfl)|(intro _;try (exfalso;omega)))
     all_goals try (exfalso;omega)
     refine Aw.normal ⟨by first|omega|decide,?_,?_⟩
     ·repeat (first|exact Ae.nil|refine Ae.same trivial rfl ?_|refine Ae.same (Ac rfl) rfl ?_|refine Ae.same ⟨trivial,Ac rfl,trivial⟩ rfl ?_|refine Ae.same ⟨trivial,Ac rfl,Ac rfl,trivial⟩ rfl ?_|refine Ae.same ⟨trivial,Ac rfl,Ac rfl,Ac rfl,trivial⟩ rfl ?_|refine Ae.same ⟨trivial,trivial⟩ rfl ?_|refine Ae.cons trivial rfl (.of_eq (Ar (by simp<;>omega))) ?_)
     ·repeat (first|exact Aj.nil|(refine Aj.cons (Ac rfl) ?_ rfl ?_ ?_;(first|exact HB.Ak rfl|exact AQ.Ah _ _|(simp [HB.under,AQ.under,PV.under]));(first|exact Bj.refl _|exact Bj.vec (Bh.refl _) (by simp))))
    ·have e9:Ld (gi costs (row-1)) (gi u row) v done a sc (j+1)=sc:=by
      unfold Ld
      rw [← hC,if_neg hd,if_neg h1,if_neg h2]
     rw [e9]
     repeat' (first|apply Ad.assoc|apply Ad.AA|apply Ad.BJ|apply Ad.region|apply Ad.Aq|apply Ad.Ai|apply AO.normal|apply AL.normal|apply Ad.skip|apply Ag.nil|apply Ap.nil|apply Ag.one|(apply Ap.bar;decide +kernel)|apply Ap.quiet|(apply Aa.Dw;rfl;rfl;(first|omega|(simp only [NR]<;>omega));exact congrArg (fun b=>some (FV.bool b)) (hd'))|(apply Aa.AP (l:=costs);rfl;rfl;rfl;omega;exact hl)|(apply Aa.int;rfl;rfl;exact hs1)|(apply Aa.int;rfl;rfl;exact hs2)|(apply Aa.int;rfl;rfl;exact hCv)|(apply Aa.assign;rfl)|(apply Aa.move;rfl)|(apply Aa.Bv;rfl;rfl;omega)|(apply Aa.IC;rfl;rfl;omega)|(apply Aa.int;rfl;rfl;rfl)|(apply Aa.AP;rfl;rfl;rfl;omega;rfl)|(apply Aa.Dw;rfl;rfl;omega;rfl)|(apply Aa.load;rfl;rfl)|(apply Aa.Dn;rfl;rfl;rfl;rfl;omega)|(apply Ad.Au;rfl)|(apply Ad.Af;rfl)|(apply Ad.A8;rfl)|(intro _;try (exfalso;omega)))
     all_goals try (exfalso;omega)
     refine Aw.normal ⟨by first|omega|decide,?_,?_⟩
     ·repeat (first|exact Ae.nil|refine Ae.same trivial rfl ?_|refine Ae.same (Ac rfl) rfl ?_|refine Ae.same ⟨trivial,Ac rfl,trivial⟩ rfl ?_|refine Ae.same ⟨trivial,Ac rfl,Ac rfl,trivial⟩ rfl ?_|refine Ae.same ⟨trivial,Ac rfl,Ac rfl,Ac rfl,trivial⟩ rfl ?_|refine Ae.same ⟨trivial,trivial⟩ rfl ?_|refine Ae.cons trivial rfl (.of_eq (Ar (by simp<;>omega))) ?_)
     ·repeat (first|exact Aj.nil|(refine Aj.cons (Ac rfl) ?_ rfl ?_ ?_;(first|exact HB.Ak rfl|exact AQ.Ah _ _|(simp [HB.under,AQ.under,PV.under]));(first|exact Bj.refl _|exact Bj.vec (Bh.refl _) (by simp))))
 ·repeat' (first|apply Ad.assoc|apply Ad.AA|apply Ad.AZ|apply Aw.exit|apply Ag.nil|apply Ag.one|(apply Aa.move;rfl)|(apply Aa.int;rfl;rfl;rfl)|(apply Ad.Af;rfl)|(intro _;try (exfalso;omega)))
  all_goals try (exfalso;omega)
  refine ⟨rfl,⟨Nat.le_refl _,?_,?_⟩⟩
  ·repeat (first|exact Ae.nil|refine Ae.same trivial rfl ?_|refine Ae.same (Ac rfl) rfl ?_|refine Ae.same ⟨trivial,Ac rfl,trivial⟩ rfl ?_|refine Ae.same ⟨trivial,Ac rfl,Ac rfl,trivial⟩ rfl ?_|refine Ae.same ⟨trivial,Ac rfl,Ac rfl,Ac rfl,trivial⟩ rfl ?_|refine Ae.same ⟨trivial,trivial⟩ rfl ?_|refine Ae.cons trivial rfl (.of_eq (Ar (by simp<;>omega))) ?_)
  ·repeat (first|exact Aj.nil|(refine Aj.cons (Ac rfl) ?_ rfl ?_ ?_;(first|exact HB.Ak rfl|exact AQ.Ah _ _|(simp [HB.under,AQ.under,PV.under]));(first|exact Bj.refl _|exact Bj.vec (Bh.refl _) (by simp))))
end Go.Proofs.YtdabojnmoejilaaGreatDoor
namespace Go.Proofs.YtdabojnmoejilaaGreatDoor
open Go Go.Am Go.Vm Go.Hun
attribute [local irreducible] Aa Ag Ap Ad BA AY CJ AO AL Aw Vm.Done Dc Bq
def ZX (e:TypeId) (costs:List (List Int)) (n m k:Nat) (d:Int) (nxt:Nat) (j:Nat):Vm.Frame :=
 [(120,.p (.int .i64 (j:Int))),(0,.p (.lst e (cells costs) n)),(2,.ref 0 0),(3,.p (.int .i64 (n:Int))),(4,.p (.int .i64 (m:Int))),(5,.vec 1 (n+1) 0 (n+1)),(6,.vec 2 (m+1) 0 (m+1)),(7,.vec 3 (m+1) 0 (m+1)),(8,.vec 4 (m+1) 0 (m+1)),(9,.p (.int .i64 ((k+1:Nat):Int))),(11,.vec 6 (m+1) 0 (m+1)),(12,.vec 7 (m+1) 0 (m+1)),(14,.p (.int .i64 d)),(15,.p (.int .i64 (nxt:Int))),(119,.p (.int .i64 ((m+1:Nat):Int)))]
def aB (n m:Nat) (o way:List Ix) (done:List Bool) (t:yw):Vm.Heap :=
 [(1,.vec 3 (cells t.u) (n+1) false),(2,.vec 3 (cells t.v) (m+1) false),(6,.vec 3 (cells t.least) (m+1) false),(0,y5),(3,.vec 3 (cells o) (m+1) false),(4,.vec 3 (cells way) (m+1) false),(7,.vec 4 (cells done) (m+1) false)]
theorem lH {costs:List (List Int)} {n m k nxt:Nat} {d:Int} {e:TypeId} {o way:List Ix} {done:List Bool} {t0:yw} (hd:0≤d∧d≤1000000000000) (hm:m≤1000) (hn:n≤1000) (hu:t0.u.length=n+1) (hv:t0.v.length=m+1) (hl:t0.least.length=m+1) (ho:o.length=m+1) (hD:done.length=m+1)
 (h1:∀ j,j≤m→gi done j=true→(gi o j).n<t0.u.length) (h2:∀ j i,j≤m→i≤m→gi done j=true→gi done i=true→(gi o j).n=(gi o i).n→j=i)
 (hub:∀ j,j≤m→gi done j=true→0≤gi t0.u (gi o j).n∧gi t0.u (gi o j).n≤1000000000000) (hvb:∀ j,j≤m→-2000000000000000≤gi t0.v j∧gi t0.v j≤0) (hlb:∀ j,j≤m→gi done j=false→0≤gi t0.least j∧gi t0.least j≤far) :
 Ad env 0 (aH Tryz.f72 23) (ZX e costs n m k d nxt 0) (aB n m o way done t0) 8 (fun ex L' H' nx'=>ex=.exit 6∧XE L' H' nx' (ZX e costs n m k d nxt (m+1)) (aB n m o way done (Ih o done d t0 (m+1))) 8):=by
 have hf:far=1152921504606846976:=rfl
 show Ad env 0 (Code.loop _) _ _ _ _
 refine Ad.Fe (m+1) (ZX e costs n m k d nxt 0 |>.drop 1) (aB n m o way done t0 |>.drop 3) (fun j _=>ZX e costs n m k d nxt j) (fun j _=>aB n m o way done (Ih o done d t0 j)) 8 (by omega) (Nat.le_refl _) ?_ ?_ ?_ ?_
 ·repeat (first|exact Ae.nil|refine Ae.same trivial rfl ?_|refine Ae.same (Ac rfl) rfl ?_|refine Ae.same ⟨trivial,Ac rfl,trivial⟩ rfl ?_|refine Ae.same ⟨trivial,Ac rfl,Ac rfl,trivial⟩ rfl ?_|refine Ae.same ⟨trivial,Ac rfl,Ac rfl,Ac rfl,trivial⟩ rfl ?_|refine Ae.same ⟨trivial,trivial⟩ rfl ?_|refine Ae.cons trivial rfl (.of_eq (Ar (by simp<;>omega))) ?_)
 ·repeat (first|exact Aj.nil|(refine Aj.cons (Ac rfl) ?_ rfl ?_ ?_;(first|exact HB.Ak rfl|exact AQ.Ah _ _|(simp [HB.under,AQ.under,PV.under]));(first|exact Bj.refl _|exact Bj.vec (Bh.refl _) (by simp))))
 ·intro j hj
  have hI:=Go.Hun.Kr (owner:=o) (done:=done) (delta:=d) (t:=t0) (m:=m) hv hl h1 h2 j (by omega)
  have eS2:Ih o done d t0 (j+1)=TB o done d (Ih o done d t0 j) j:=rfl
  rw [eS2]
  generalize Ih o done d t0 j=sc at *
  have n1:=hI.lu
  have n2:=hI.lv
  have n3:=hI.ll
  have hv1:=hvb j (by omega)
  have ev:gi sc.v j=gi t0.v j:=by rw [hI.v,if_neg (by omega)]
  by_cases hdj:gi done j=true
  ·have hu1:=hub j (by omega) hdj
   have hlt:=h1 j (by omega) hdj
   have eu:gi sc.u (gi o j).n=gi t0.u (gi o j).n:=hI.u0 _ fun i hi hi2 e=>by have:=h2 i j (by omega) (by omega) hi2 hdj e;omega
   have e9:TB o done d sc j=⟨sc.u.set (gi o j).n (gi sc.u (gi o j).n+d),sc.v.set j (gi sc.v j-d),sc.least⟩:=if_pos hdj
   rw [e9]
   clear hI hub hvb hlb h1 h2 eS2
   repeat' (first|apply Ad.AA|apply Ad.region|apply Ad.Aq|apply Ad.Ai|apply AO.normal|apply AL.normal|apply Ag.nil|apply Ag.one|(apply Aa.Dw;rfl;rfl;(first|omega|(simp only [NR]<;>omega));exact congrArg (fun b=>some (FV.bool b)) (hdj))|(apply Aa.Ef (y:=(gi sc.u (gi o j).n+d));rfl;rfl;rfl;trivial;(first|rfl|(refine congrArg (fun t=>[PV.p (FV.int _ t)]) ?_;first|omega|(simp only [Int.natCast_add,Int.natCast_mul,Int.natCast_ediv,Int.natCast_emod]<;>omega)));rfl;rfl;decide;(first|omega|(simp only [List.length_set]<;>omega)))|(apply Aa.Ef (y:=(gi sc.v j-d));rfl;rfl;rfl;trivial;(first|rfl|(refine congrArg (fun t=>[PV.p (FV.int _ t)]) ?_;first|omega|(simp only [Int.natCast_add,Int.natCast_mul,Int.natCast_ediv,Int.natCast_emod]<;>omega)));rfl;rfl;decide;(first|omega|(simp only [List.length_set]<;>omega)))|(apply Aa.assign;rfl)|(apply Aa.move;rfl)|(apply Aa.Bv;rfl;rfl;omega)|(apply Aa.IC;rfl;rfl;omega)|(apply Aa.int;rfl;rfl;rfl)|(apply Aa.Dw;rfl;rfl;omega;rfl)|(apply Aa.Dn;rfl;rfl;rfl;rfl;omega)|(apply Ad.Af;rfl)|(apply Ad.cond_true;rfl)|(intro _;try (exfalso;omega)))
   all_goals try (exfalso;omega)
   refine Aw.normal ⟨by first|omega|decide,?_,?_⟩
   ·repeat (first|exact Ae.nil|refine Ae.same trivial rfl ?_|refine Ae.same (Ac rfl) rfl ?_|refine Ae.same ⟨trivial,Ac rfl,trivial⟩ rfl ?_|refine Ae.same ⟨trivial,Ac rfl,Ac rfl,trivial⟩ rfl ?_|refine Ae.same ⟨trivial,Ac rfl,Ac rfl,Ac rfl,trivial⟩ rfl ?_|refine Ae.same ⟨trivial,trivial⟩ rfl ?_|refine Ae.cons trivial rfl (.of_eq (Ar (by simp<;>omega))) ?_)
   ·repeat (first|exact Aj.nil|(refine Aj.cons (Ac rfl) ?_ rfl ?_ ?_;(first|exact HB.Ak rfl|exact AQ.Ah _ _|(simp [HB.under,AQ.under,PV.under]));(first|exact Bj.refl _|exact Bj.vec (Bh.refl _) (by simp))))
  ·have hdj':gi done j=false:=by cases h:gi done j<;>simp_all
   have hl1:=hlb j (by omega) hdj'
   have el:gi sc.least j=gi t0.least j:=by rw [hI.least,if_neg (by omega)]
   have e9:TB o done d sc j=⟨sc.u,sc.v,sc.least.set j (gi sc.least j-d)⟩:=if_neg hdj
   rw [e9]
   clear hI hub hvb hlb h1 h2 eS2
   repeat' (first|apply Ad.AA|apply Ad.region|apply Ad.Aq|apply Ad.Ai|apply AO.normal|apply AL.normal|apply Ag.nil|apply Ag.one|(apply Aa.Dw;rfl;rfl;(first|omega|(simp only [NR]<;>omega));exact congrArg (fun b=>some (FV.bool b)) (hdj'))|(apply Aa.Ef (y:=(gi sc.least j-d));rfl;rfl;rfl;trivial;(first|rfl|(refine congrArg (fun t=>[PV.p (FV.int _ t)]) ?_;first|omega|(simp only [Int.natCast_add,Int.natCast_mul,Int.natCast_ediv,Int.natCast_emod]<;>omega)));rfl;rfl;decide;(first|omega|(simp only [List.length_set]<;>omega)))|(apply Aa.assign;rfl)|(apply Aa.move;rfl)|(apply Aa.Bv;rfl;rfl;omega)|(apply Aa.IC;rfl;rfl;omega)|(apply Aa.int;rfl;rfl;rfl)|(apply Aa.Dw;rfl;rfl;omega;rfl)|(apply Aa.Dn;rfl;rfl;rfl;rfl;omega)|(apply Ad.Af;rfl)|(apply Ad.cond_false;rfl)|(intro _;try (exfalso;omega)))
   all_goals try (exfalso;omega)
   refine Aw.normal ⟨by first|omega|decide,?_,?_⟩
   ·repeat (first|exact Ae.nil|refine Ae.same trivial rfl ?_|refine Ae.same (Ac rfl) rfl ?_|refine Ae.same ⟨trivial,Ac rfl,trivial⟩ rfl ?_|refine Ae.same ⟨trivial,Ac rfl,Ac rfl,trivial⟩ rfl ?_|refine Ae.same ⟨trivial,Ac rfl,Ac rfl,Ac rfl,trivial⟩ rfl ?_|refine Ae.same ⟨trivial,trivial⟩ rfl ?_|refine Ae.cons trivial rfl (.of_eq (Ar (by simp<;>omega))) ?_)
   ·repeat (first|exact Aj.nil|(refine Aj.cons (Ac rfl) ?_ rfl ?_ ?_;(first|exact HB.Ak rfl|exact AQ.Ah _ _|(simp [HB.under,AQ.under,PV.under]));(first|exact Bj.refl _|exact Bj.vec (Bh.refl _) (by simp))))
 ·repeat' (first|apply Ad.AA|apply Ad.AZ|apply Aw.exit|apply Ag.nil|apply Ag.one|(apply Aa.int;rfl;rfl;rfl)|(apply Ad.Af;rfl)|(intro _;try (exfalso;omega)))
  all_goals try (exfalso;omega)
  refine ⟨rfl,⟨Nat.le_refl _,?_,?_⟩⟩
  ·repeat (first|exact Ae.nil|refine Ae.same trivial rfl ?_|refine Ae.same (Ac rfl) rfl ?_|refine Ae.same ⟨trivial,Ac rfl,trivial⟩ rfl ?_|refine Ae.same ⟨trivial,Ac rfl,Ac rfl,trivial⟩ rfl ?_|refine Ae.same ⟨trivial,Ac rfl,Ac rfl,Ac rfl,trivial⟩ rfl ?_|refine Ae.same ⟨trivial,trivial⟩ rfl ?_|refine Ae.cons trivial rfl (.of_eq (Ar (by simp<;>omega))) ?_)
  ·repeat (first|exact Aj.nil|(refine Aj.cons (Ac rfl) ?_ rfl ?_ ?_;(first|exact HB.Ak rfl|exact AQ.Ah _ _|(simp [HB.under,AQ.under,PV.under]));(first|exact Bj.refl _|exact Bj.vec (Bh.refl _) (by simp))))
def zZ (e:TypeId) (costs:List (List Int)) (n m k:Nat) (a:Nat):Vm.Frame :=
 [(10,.p (.int .i64 (a:Int))),(0,.p (.lst e (cells costs) n)),(2,.ref 0 0),(3,.p (.int .i64 (n:Int))),(4,.p (.int .i64 (m:Int))),(5,.vec 1 (n+1) 0 (n+1)),(6,.vec 2 (m+1) 0 (m+1)),(7,.vec 3 (m+1) 0 (m+1)),(8,.vec 4 (m+1) 0 (m+1)),(9,.p (.int .i64 ((k+1:Nat):Int)))]
def zX (n m:Nat) (u v:List Int) (way o:List Ix):Vm.Heap :=
 [(3,.vec 3 (cells o) (m+1) false),(0,y5),(1,.vec 3 (cells u) (n+1) false),(2,.vec 3 (cells v) (m+1) false),(4,.vec 3 (cells way) (m+1) false)]
theorem sW {costs:List (List Int)} {n m k U:Nat} {e:TypeId} {u v:List Int} {way:List Ix} {a:Aug} (hm:m≤1000) (hw:way.length=m+1) (hlen:∀ t,t≤U→(G7 way a t).owner.length=m+1) (hgo:∀ t,t<U→(G7 way a t).at_≠0) (hle:∀ t,t≤U→(G7 way a t).at_≤m) (hfin:(G7 way a U).at_=0) :
 Ad env 0 (aH Tryz.f72 31) (zZ e costs n m k a.at_) (zX n m u v way a.owner) 5 (fun ex L' H' nx'=>ex=.exit 8∧XE L' H' nx' (zZ e costs n m k 0) (zX n m u v way (G7 way a U).owner) 5):=by
 show Ad env 0 (Code.loop _) _ _ _ _
 refine Ad.Fe U (zZ e costs n m k a.at_ |>.drop 1) (zX n m u v way a.owner |>.drop 1) (fun t _=>zZ e costs n m k (G7 way a t).at_) (fun t _=>zX n m u v way (G7 way a t).owner) 5 (by omega) (Nat.le_refl _) ?_ ?_ ?_ ?_
 ·repeat (first|exact Ae.nil|refine Ae.same trivial rfl ?_|refine Ae.same (Ac rfl) rfl ?_|refine Ae.same ⟨trivial,Ac rfl,trivial⟩ rfl ?_|refine Ae.same ⟨trivial,Ac rfl,Ac rfl,trivial⟩ rfl ?_|refine Ae.same ⟨trivial,Ac rfl,Ac rfl,Ac rfl,trivial⟩ rfl ?_|refine Ae.same ⟨trivial,trivial⟩ rfl ?_|refine Ae.cons trivial rfl (.of_eq (Ar (by simp<;>omega))) ?_)
 ·repeat (first|exact Aj.nil|(refine Aj.cons (Ac rfl) ?_ rfl ?_ ?_;(first|exact HB.Ak rfl|exact AQ.Ah _ _|(simp [HB.under,AQ.under,PV.under]));(first|exact Bj.refl _|exact Bj.vec (Bh.refl _) (by simp))))
 ·intro t ht
  have h1:=hlen t (by omega)
  have h2:=hgo t ht
  have h3:=hle t (by omega)
  have h4:=hle (t+1) (by omega)
  have e1:G7 way a (t+1)=⟨(G7 way a t).owner.set (G7 way a t).at_ (gi (G7 way a t).owner (gi way (G7 way a t).at_).n),(gi way (G7 way a t).at_).n⟩:=rfl
  rw [e1] at h4 ⊢
  have h4:(gi way (G7 way a t).at_).n≤m:=h4
  generalize G7 way a t=x at *
  repeat' (first|apply Ad.assoc|apply Ad.AA|apply Ad.region|apply Ad.Aq|apply AL.normal|apply Ad.II|apply Ag.nil|apply Ag.one|(apply Aa.Ef (y:=(gi x.owner (gi way x.at_).n));rfl;rfl;rfl;trivial;(first|rfl|(refine congrArg (fun t=>[PV.p (FV.int _ t)]) ?_;first|omega|(simp only [Int.natCast_add,Int.natCast_mul,Int.natCast_ediv,Int.natCast_emod]<;>omega)));rfl;rfl;decide;(first|omega|(simp only [List.length_set]<;>omega)))|(apply Aa.assign;rfl)|(apply Aa.move;rfl)|(apply Aa.int;rfl;rfl;rfl)|(apply Aa.Dw;rfl;rfl;omega;rfl)|(apply Aa.Dn;rfl;rfl;rfl;rfl;omega)|(apply Ad.Af;rfl)|(intro _;try (exfalso;omega)))
  all_goals try (exfalso;omega)
  refine Aw.normal ⟨by first|omega|decide,?_,?_⟩
  ·repeat (first|exact Ae.nil|refine Ae.same trivial rfl ?_|refine Ae.same (Ac rfl) rfl ?_|refine Ae.same ⟨trivial,Ac rfl,trivial⟩ rfl ?_|refine Ae.same ⟨trivial,Ac rfl,Ac rfl,trivial⟩ rfl ?_|refine Ae.same ⟨trivial,Ac rfl,Ac rfl,Ac rfl,trivial⟩ rfl ?_|refine Ae.same ⟨trivial,trivial⟩ rfl ?_|refine Ae.cons trivial rfl (.of_eq (Ar (by simp<;>omega))) ?_)
  ·repeat (first|exact Aj.nil|(refine Aj.cons (Ac rfl) ?_ rfl ?_ ?_;(first|exact HB.Ak rfl|exact AQ.Ah _ _|(simp [HB.under,AQ.under,PV.under]));(first|exact Bj.refl _|exact Bj.vec (Bh.refl _) (by simp))))
 ·rw [hfin]
  repeat' (first|apply Ad.assoc|apply Ad.AA|apply Ad.AZ|apply Aw.exit|apply Ag.nil|apply Ag.one|(apply Aa.move;rfl)|(apply Aa.int;rfl;rfl;rfl)|(apply Ad.Au;rfl))
  all_goals try (exfalso;omega)
  refine ⟨rfl,⟨Nat.le_refl _,?_,?_⟩⟩
  ·repeat (first|exact Ae.nil|refine Ae.same trivial rfl ?_|refine Ae.same (Ac rfl) rfl ?_|refine Ae.same ⟨trivial,Ac rfl,trivial⟩ rfl ?_|refine Ae.same ⟨trivial,Ac rfl,Ac rfl,trivial⟩ rfl ?_|refine Ae.same ⟨trivial,Ac rfl,Ac rfl,Ac rfl,trivial⟩ rfl ?_|refine Ae.same ⟨trivial,trivial⟩ rfl ?_|refine Ae.cons trivial rfl (.of_eq (Ar (by simp<;>omega))) ?_)
  ·repeat (first|exact Aj.nil|(refine Aj.cons (Ac rfl) ?_ rfl ?_ ?_;(first|exact HB.Ak rfl|exact AQ.Ah _ _|(simp [HB.under,AQ.under,PV.under]));(first|exact Bj.refl _|exact Bj.vec (Bh.refl _) (by simp))))
def zB (e:TypeId) (costs:List (List Int)) (n m:Nat) (j:Nat):Vm.Frame :=
 [(20,.p (.int .i64 ((j+1:Nat):Int))),(0,.p (.lst e (cells costs) n)),(2,.ref 0 0),(4,.p (.int .i64 (m:Int))),(7,.vec 3 (m+1) 0 (m+1)),(19,.ref 6 0)]
def yU (n m:Nat) (U V:List Int) (o:List Ix) (x:Out):Vm.Heap :=
 [(5,.vec 3 (cells x.cols) n false),(6,.box 69 [.vec 5 n 0 n,.p (.int .i64 x.total),.p (.lst 3 (cells U) n),.p (.lst 3 (cells V) m)]),(0,y5),(3,.vec 3 (cells o) (m+1) false)]
theorem um {costs:List (List Int)} {n m:Nat} {e:TypeId} {U V:List Int} {o:List Ix} (hm:m≤1000) (hn:n≤1000) (hl:costs.length=n) (hrow:∀ r,r<n→(gi costs r).length=m) (ho:o.length=m+1) (hle:∀ j,1≤j→j≤m→(gi o j).n≤n) (hlen:∀ j,j≤m→(KR costs o n j).cols.length=n)
 (UL:∀ r j,0≤gi (gi costs r) j∧gi (gi costs r) j≤1000000000000) (htot:∀ j,j≤m→0≤(KR costs o n j).total∧(KR costs o n j).total≤1000000000000000) :
 Ad env 0 (aH Tryz.f72 36) (zB e costs n m 0) (yU n m U V o (KR costs o n 0)) 7 (fun ex L' H' nx'=>ex=.exit 10∧XE L' H' nx' (zB e costs n m m) (yU n m U V o (KR costs o n m)) 7):=by
 show Ad env 0 (Code.loop _) _ _ _ _
 refine Ad.Fe m (zB e costs n m 0 |>.drop 1) (yU n m U V o (KR costs o n 0) |>.drop 2) (fun j _=>zB e costs n m j) (fun j _=>yU n m U V o (KR costs o n j)) 7 (by omega) (Nat.le_refl _) ?_ ?_ ?_ ?_
 ·repeat (first|exact Ae.nil|refine Ae.same trivial rfl ?_|refine Ae.same (Ac rfl) rfl ?_|refine Ae.same ⟨trivial,Ac rfl,trivial⟩ rfl ?_|refine Ae.same ⟨trivial,Ac rfl,Ac rfl,trivial⟩ rfl ?_|refine Ae.same ⟨trivial,Ac rfl,Ac rfl,Ac rfl,trivial⟩ rfl ?_|refine Ae.same ⟨trivial,trivial⟩ rfl ?_|refine Ae.cons trivial rfl (.of_eq (Ar (by simp<;>omega))) ?_)
 ·repeat (first|exact Aj.nil|(refine Aj.cons (Ac rfl) ?_ rfl ?_ ?_;(first|exact HB.Ak rfl|exact AQ.Ah _ _|(simp [HB.under,AQ.under,PV.under]));(first|exact Bj.refl _|exact Bj.vec (Bh.refl _) (by simp))))
 ·intro j hj
  have h1:=hlen j (by omega)
  have h2:=htot j (by omega)
  have h3:=hle (j+1) (by omega) (by omega)
  have e1:KR costs o n (j+1)=qV costs o (KR costs o n j) (j+1):=rfl
  rw [e1]
  generalize KR costs o n j=x at *
  by_cases hp:0<(gi o (j+1)).n
  ·have e9:qV costs o x (j+1)=⟨x.cols.set ((gi o (j+1)).n-1) (((j+1:Nat):Int)-1),x.total+gi (gi costs ((gi o (j+1)).n-1)) j⟩:=if_pos hp
   rw [e9]
   have hrl:=hrow ((gi o (j+1)).n-1) (by omega)
   have hc1:=UL ((gi o (j+1)).n-1) j
   have hs1:E5 .sub .i64 ((gi o (j+1)).n:Int) 1=some (.int .i64 (((gi o (j+1)).n-1:Nat):Int)):=by
    simp only [E5]
    rw [wrap_i64 (by omega)]
    congr 2;omega
   have hs2:E5 .sub .i64 ((j+1:Nat):Int) 1=some (.int .i64 (j:Int)):=by
    simp only [E5]
    rw [wrap_i64 (by omega)]
    congr 2;omega
   clear UL htot hlen hle e1
   repeat' (first|apply Ad.assoc|apply Ad.AA|apply Ad.region|apply Ad.FP|apply Ad.Aq|apply Ad.Ai|apply AO.normal|apply AL.normal|apply Ag.nil|apply Ap.nil|apply Ag.one|(apply Ap.bar;decide +kernel)|apply Ap.quiet|(apply Aa.AP (l:=costs);rfl;rfl;rfl;omega;exact hl)|(apply Aa.int;rfl;rfl;exact hs1)|(apply Aa.int;rfl;rfl;exact hs2)|(apply Aa.Ef (y:=(((j+1:Nat):Int)-1));rfl;rfl;rfl;trivial;(first|rfl|(refine congrArg (fun t=>[PV.p (FV.int _ t)]) ?_;first|omega|(simp only [Int.natCast_add,Int.natCast_mul,Int.natCast_ediv,Int.natCast_emod]<;>omega)));rfl;rfl;decide;(first|omega|(simp only [List.length_set]<;>omega)))|(apply Aa.assign;rfl)|(apply Aa.move;rfl)|(apply Aa.Bv;rfl;rfl;omega)|(apply Aa.int;rfl;rfl;rfl)|(apply Aa.AP;rfl;rfl;rfl;omega;rfl)|(apply Aa.Dw;rfl;rfl;omega;rfl)|(apply Aa.load;rfl;rfl)|(apply Aa.AU;rfl;rfl;rfl)|(apply Aa.Bo;rfl;rfl;rfl;trivial;rfl;rfl;exact Ac rfl;exact le_dec rfl)|(apply Aa.Dn;rfl;rfl;rfl;rfl;omega)|(apply Ad.Af;rfl)|(apply Ad.A8;rfl)|(intro _;try (exfalso;omega)))
   all_goals try (exfalso;omega)
   refine Aw.normal ⟨by first|omega|decide,?_,?_⟩
   ·repeat (first|exact Ae.nil|refine Ae.same trivial rfl ?_|refine Ae.same (Ac rfl) rfl ?_|refine Ae.same ⟨trivial,Ac rfl,trivial⟩ rfl ?_|refine Ae.same ⟨trivial,Ac rfl,Ac rfl,trivial⟩ rfl ?_|refine Ae.same ⟨trivial,Ac rfl,Ac rfl,Ac rfl,trivial⟩ rfl ?_|refine Ae.same ⟨trivial,trivial⟩ rfl ?_|refine Ae.cons trivial rfl (.of_eq (Ar (by simp<;>omega))) ?_)
   ·repeat (first|exact Aj.nil|(refine Aj.cons (Ac rfl) ?_ rfl ?_ ?_;(first|exact HB.Ak rfl|exact AQ.Ah _ _|(simp [HB.under,AQ.under,PV.under]));(first|exact Bj.refl _|exact Bj.vec (Bh.refl _) (by simp))))
  ·have e9:qV costs o x (j+1)=x:=if_neg hp
   rw [e9]
   clear UL htot hlen hle e1
   repeat' (first|apply Ad.assoc|apply Ad.AA|apply Ad.region|apply Ad.Aq|apply Ad.Ai|apply AO.normal|apply AL.normal|apply Ad.skip|apply Ag.nil|apply Ag.one|(apply Aa.assign;rfl)|(apply Aa.move;rfl)|(apply Aa.Bv;rfl;rfl;omega)|(apply Aa.int;rfl;rfl;rfl)|(apply Aa.Dw;rfl;rfl;omega;rfl)|(apply Aa.Dn;rfl;rfl;rfl;rfl;omega)|(apply Ad.Af;rfl)|(apply Ad.A8;rfl)|(intro _;try (exfalso;omega)))
   all_goals try (exfalso;omega)
   refine Aw.normal ⟨by first|omega|decide,?_,?_⟩
   ·repeat (first|exact Ae.nil|refine Ae.same trivial rfl ?_|refine Ae.same (Ac rfl) rfl ?_|refine Ae.same ⟨trivial,Ac rfl,trivial⟩ rfl ?_|refine Ae.same ⟨trivial,Ac rfl,Ac rfl,trivial⟩ rfl ?_|refine Ae.same ⟨trivial,Ac rfl,Ac rfl,Ac rfl,trivial⟩ rfl ?_|refine Ae.same ⟨trivial,trivial⟩ rfl ?_|refine Ae.cons trivial rfl (.of_eq (Ar (by simp<;>omega))) ?_)
   ·repeat (first|exact Aj.nil|(refine Aj.cons (Ac rfl) ?_ rfl ?_ ?_;(first|exact HB.Ak rfl|exact AQ.Ah _ _|(simp [HB.under,AQ.under,PV.under]));(first|exact Bj.refl _|exact Bj.vec (Bh.refl _) (by simp))))
 ·repeat' (first|apply Ad.assoc|apply Ad.AA|apply Ad.AZ|apply Aw.exit|apply Ag.nil|apply Ag.one|(apply Aa.move;rfl)|(apply Aa.int;rfl;rfl;rfl)|(apply Ad.Af;rfl)|(intro _;try (exfalso;omega)))
  all_goals try (exfalso;omega)
  refine ⟨rfl,⟨Nat.le_refl _,?_,?_⟩⟩
  ·repeat (first|exact Ae.nil|refine Ae.same trivial rfl ?_|refine Ae.same (Ac rfl) rfl ?_|refine Ae.same ⟨trivial,Ac rfl,trivial⟩ rfl ?_|refine Ae.same ⟨trivial,Ac rfl,Ac rfl,trivial⟩ rfl ?_|refine Ae.same ⟨trivial,Ac rfl,Ac rfl,Ac rfl,trivial⟩ rfl ?_|refine Ae.same ⟨trivial,trivial⟩ rfl ?_|refine Ae.cons trivial rfl (.of_eq (Ar (by simp<;>omega))) ?_)
  ·repeat (first|exact Aj.nil|(refine Aj.cons (Ac rfl) ?_ rfl ?_ ?_;(first|exact HB.Ak rfl|exact AQ.Ah _ _|(simp [HB.under,AQ.under,PV.under]));(first|exact Bj.refl _|exact Bj.vec (Bh.refl _) (by simp))))
end Go.Proofs.YtdabojnmoejilaaGreatDoor
namespace Go.Proofs.YtdabojnmoejilaaGreatDoor
open Go Go.Am Go.Vm Go.Hun
attribute [local irreducible] Aa Ag Ap Ad BA AY CJ AO AL Aw Vm.Done Dc Bq
def a3h (costs:List (List Int)) (n m:Nat):PV:=.agg [.vec 5 n 0 n,.p (.int .i64 (Gz costs n m).total),.p (.lst 3 (cells (JK costs n m)) n),.p (.lst 3 (cells (G6 costs n m)) m)]
theorem iE {costs:List (List Int)} {n m:Nat} {B:Int} (e:TypeId) (hc:Iw costs n m B) (hl:costs.length=n) (hrow:∀ r,r<n→(gi costs r).length=m) (hn:1≤n) (hm:m≤1000) :
 BA env 72 [.p (.lst e (cells costs) n)] [] 0 fun r H' nx'=>r=a3h costs n m∧H'=[(5,.vec 3 (cells (Gz costs n m).cols) n false)]∧nx'=6:=by
 have Yg:AY env 69 [.lst e (cells costs) n] (.p (.int .i64 (m:Int))):=by
  have:=MH e costs (by have:=hc.nm;omega)
  rw [hl] at this
  rwa [show uh costs=m from hrow 0 (by omega)] at this
 have hnm:=hc.nm
 have hB:=hc.big
 refine BA.enter (AB (by decide)) Tryz.func72 rfl (by kernel_rfl) (by simp [Tryz.ntmps72]) ?_
 repeat' (first|apply Ad.assoc|apply Ad.AA|apply Ad.BJ|apply Ad.Ai|apply Ag.nil|apply Ap.nil|apply Ag.one|(apply Ap.bar;decide +kernel)|apply Ap.quiet|(apply Aa.fn;rfl;rfl;exact Yg;intro _;rfl)|(apply Aa.Es (n+1) (0:Int);rfl;rfl;rfl;rfl;rfl;omega;omega;omega;decide;decide;rfl)|(apply Aa.Es (dst:=some 34) (m+1) (⟨0⟩:Ix);rfl;rfl;rfl;rfl;rfl;omega;omega;omega;decide;decide;rfl)|(apply Aa.Es (dst:=some 37) (m+1) (⟨0⟩:Ix);rfl;rfl;rfl;rfl;rfl;omega;omega;omega;decide;decide;rfl)|(apply Aa.Es (m+1) (0:Int);rfl;rfl;rfl;rfl;rfl;omega;omega;omega;decide;decide;rfl)|(apply Aa.assign;rfl)|(apply Aa.move;rfl)|(apply Aa.Bv;rfl;rfl;omega)|(apply Aa.BI;rfl;rfl)|(apply Aa.alloc;rfl))
 apply Ad.Fe (n) [(0,_),(2,_),(3,_),(4,_),(5,_),(6,_),(7,_),(8,_)] [(0,_)] (fun k r=>(9,.p (.int .i64 ((k+1:Nat):Int)))::r) (fun k r=>(1,.vec 3 (cells (Dh costs n m k).u) (n+1) false)::(2,.vec 3 (cells (Dh costs n m k).v) (m+1) false)::(3,.vec 3 (cells (Dh costs n m k).owner) (m+1) false)::(4,.vec 3 (cells (Dh costs n m k).way) (m+1) false)::r) 5
 ·first|omega|decide
 ·first|omega|decide
 ·repeat (first|exact Ae.nil|(refine Ae.eq rfl ?_ ?_;(first|exact PV.Ak rfl|(simp [PV.under,AQ.under];done)))|refine Ae.cons trivial rfl (.of_eq (Ar (by simp<;>omega))) ?_)
 ·repeat (first|exact Aj.nil|(refine Aj.eq rfl (Ac rfl) ?_ ?_;(first|exact HB.Ak rfl|exact AQ.Ah _ _|(simp [HB.under,AQ.under,PV.under];done)))|(refine Aj.cons (Ac rfl) ?_ rfl ?_ ?_;(first|exact trivial|exact AQ.Ah _ _|(simp [HB.under,AQ.under,PV.under]));(first|exact Bj.refl _|exact Bj.vec (Bh.refl _) (by simp))))
 ·intro k hk
  have hS:=Nv hc k (by omega)
  have hS':=hS.step hc hk
  obtain ⟨hgo,hend,hT⟩:=Zn hS hc hk
  have hgr:=Pg hS hc hk
  have hback:=oL hS hc hk
  have hv0:=Zw hS hc hk
  have b2f:=bM hc k (by omega)
  have ho:=Y3 hS
  have eS:Dh costs n m (k+1)=Og costs m (Dh costs n m k) (k+1):=rfl
  have l1:=hS.lu
  have l2:=hS.lv
  have l3:=hS.lo
  have l4:=hS.lw
  rw [eS]
  generalize Dh costs n m k=s at *
  repeat' (first|(refine Ap.atIdx 3 ?_;refine Ap.ghost (Ba.freeze 46 rfl rfl) ?_)|apply Ad.assoc|apply Ad.AA|apply Ad.BJ|apply Ad.Aq|apply Ad.Ai|apply Ag.nil|apply Ap.nil|apply Ag.one|(apply Ap.bar;decide +kernel)|apply Ap.quiet|(apply Aa.Ef (y:=(⟨k+1⟩:Ix));rfl;rfl;rfl;trivial;(first|rfl|(refine congrArg (fun t=>[PV.p (FV.int _ t)]) ?_;first|omega|(simp only [Int.natCast_add,Int.natCast_mul,Int.natCast_ediv,Int.natCast_emod]<;>omega)));rfl;rfl;decide;(first|omega|(simp only [List.length_set]<;>omega)))|(apply Aa.fv;rfl;rfl;exact Uo 3 far (m+1) (by omega) (by omega))|(apply Aa.Es (m+1) false;rfl;rfl;rfl;rfl;rfl;omega;omega;omega;decide;decide;rfl)|(apply Aa.assign;rfl)|(apply Aa.move;rfl)|(apply Aa.Bv;rfl;rfl;omega)|(apply Aa.int;rfl;rfl;rfl)|(apply Aa.buildSlice;rfl;rfl;rfl;decide;rfl;rfl;rfl)|(apply Aa.nI;rfl;rfl;rfl;rfl;omega;omega)|(apply Ad.Af;rfl)|(intro _;try (exfalso;omega)))
  all_goals try (exfalso;omega)
  apply Ad.Fe (XR costs m s (k+1)) [(0,_),(2,_),(3,_),(4,_),(5,_),(6,_),(7,_),(8,_),(9,_),(11,_),(12,_)] [(0,_)] (fun k_ r=>(10,.p (.int .i64 ((Ei costs (Jg s (k+1)) m (Ri m s) k_).at_:Int)))::r) (fun k_ r=>(1,.vec 3 (cells (Ei costs (Jg s (k+1)) m (Ri m s) k_).u) (n+1) false)::(2,.vec 3 (cells (Ei costs (Jg s (k+1)) m (Ri m s) k_).v) (m+1) false)::(3,.vec 3 (cells (Jg s (k+1))) (m+1) false)::(4,.vec 3 (cells (Ei costs (Jg s (k+1)) m (Ri m s) k_).way) (m+1) false)::(6,.vec 3 (cells (Ei costs (Jg s (k+1)) m (Ri m s) k_).least) (m+1) false)::(7,.vec 4 (cells (Ei costs (Jg s (k+1)) m (Ri m s) k_).done) (m+1) false)::r) 8
  ·first|omega|decide
  ·first|omega|decide
  ·repeat (first|exact Ae.nil|(refine Ae.eq rfl ?_ ?_;(first|exact PV.Ak rfl|(simp [PV.under,AQ.under];done)))|refine Ae.cons trivial rfl (.of_eq (Ar (by simp<;>omega))) ?_)
  ·repeat (first|exact Aj.nil|(refine Aj.eq rfl (Ac rfl) ?_ ?_;(first|exact HB.Ak rfl|exact AQ.Ah _ _|(simp [HB.under,AQ.under,PV.under];done)))|(refine Aj.cons (Ac rfl) ?_ rfl ?_ ?_;(first|exact trivial|exact AQ.Ah _ _|(simp [HB.under,AQ.under,PV.under]));(first|exact Bj.refl _|exact Bj.vec (Bh.refl _) (by simp))))
  ·intro t ht
   have hg:=hgr t fun p hp=>hgo p (by omega)
   have hr:=hgo t ht
   have hR:=JV hg hc ho hk hr
   have hSh:=Oc hg hc ho hk hr
   have hpre:=Yl hg hc ho hk hr
   have hub:∀ r,1≤r→r≤k+1→gi (Ei costs (Jg s (k+1)) m (Ri m s) t).u r≤B:=fun r r1 r2=>hg.ule hc ho (by omega) r1 r2
   have hvb:∀ j,1≤j→j≤m→-B≤gi (Ei costs (Jg s (k+1)) m (Ri m s) t).v j:=fun j j1 j2=>hg.vge hc ho (by omega) j1 j2
   have b1k:=hv0 t fun p hp=>hgo p (by omega)
   have eG:Ei costs (Jg s (k+1)) m (Ri m s) (t+1)=GN costs (Jg s (k+1)) m (Ei costs (Jg s (k+1)) m (Ri m s) t):=rfl
   have hat:MJ costs m k s t=(Ei costs (Jg s (k+1)) m (Ri m s) t).at_:=rfl
   have hle:=hg.le t (Nat.le_refl _)
   rw [hat] at hr hle
   rw [eG]
   generalize Ei costs (Jg s (k+1)) m (Ri m s) t=g at *
   have a6e:=ho.lt hle
   have lo:=ho.len
   generalize Jg s (k+1)=o at *
   obtain ⟨row,hrw⟩:∃ row,row=(gi o g.at_).n:=⟨_,rfl⟩
   have hr1:1≤row:=by have:(gi o g.at_).n≠0:=hr;omega
   have hr2:row≤k+1:=by rw [hrw];exact a6e
   have m1:=hg.lu
   have m2:=hg.lv
   have m3:=hg.lw
   have m4:=hg.ll
   have m5:=hg.ld
   have eR:GN costs o m g=⟨(Ih o (CO g) (DV costs o m g).delta ⟨g.u,g.v,(DV costs o m g).least⟩ (m+1)).u,(Ih o (CO g) (DV costs o m g).delta ⟨g.u,g.v,(DV costs o m g).least⟩ (m+1)).v,(DV costs o m g).way,(Ih o (CO g) (DV costs o m g).delta ⟨g.u,g.v,(DV costs o m g).least⟩ (m+1)).least,CO g,(DV costs o m g).next⟩:=rfl
   rw [eR]
   have hD9:(CO g).length=m+1:=by unfold CO;rw [List.length_set,m5]
   have hrl:(gi costs ((gi o g.at_).n-1)).length=m:=hrow _ (by omega)
   have UL:∀ j,0≤gi (gi costs ((gi o g.at_).n-1)) j∧gi (gi costs ((gi o g.at_).n-1)) j≤B:=fun j=>⟨hc.lo (gi o g.at_).n (j+1),hc.hi (gi o g.at_).n (j+1)⟩
   have hu0:=hg.U0 (gi o g.at_).n (by omega) (by omega)
   have hu1:=hub (gi o g.at_).n (by omega) (by omega)
   have hs1:E5 .sub .i64 ((gi o g.at_).n:Int) 1=some (.int .i64 (((gi o g.at_).n-1:Nat):Int)):=by
    simp only [E5]
    rw [wrap_i64 (by omega)]
    congr 2;omega
   have hdn:∀ j,j≤m→gi (CO g) j=true→1≤(gi o j).n∧(gi o j).n≤k+1:=fun j hj hd=>by
    obtain ⟨p,p1,p2⟩:=(hR.doneD j).1 hd
    have h1:=ho.lt hj
    refine ⟨?_,h1⟩
    rcases Nat.lt_or_ge p t with h|h
    ·have:=hg.qX p h
     rw [p2] at this
     unfold Hun.own at this
     omega
    ·obtain rfl:p=t:=by omega
     have h2:=hr
     rw [← hat,p2] at h2
     unfold Hun.own at h2
     omega
   clear hs1
   have hkB:(k:Int)*B≤1000*1000000000000:=Int.mul_le_mul (by omega) hB.2 hB.1 (by omega)
   repeat' (first|apply Ad.assoc|apply Ad.AA|apply Ad.Aq|apply Ad.Ai|apply Ad.II|apply Ag.nil|apply Ag.one|(apply Aa.Ef (y:=true);rfl;rfl;rfl;trivial;(first|rfl|(refine congrArg (fun t=>[PV.p (FV.int _ t)]) ?_;first|omega|(simp only [Int.natCast_add,Int.natCast_mul,Int.natCast_ediv,Int.natCast_emod]<;>omega)));rfl;rfl;decide;(first|omega|(simp only [List.length_set]<;>omega)))|(apply Aa.assign;rfl)|(apply Aa.move;rfl)|(apply Aa.int;rfl;rfl;rfl)|(apply Aa.Dw;rfl;rfl;omega;rfl)|(apply Aa.Dn;rfl;rfl;rfl;rfl;omega)|(apply Ad.Af;rfl)|(intro _;try (exfalso;omega)))
   all_goals try (exfalso;omega)
   refine Ad.blk (qB (e:=e) (k:=k) (row:=(gi o g.at_).n) (a:=g.at_) (u:=g.u) (v:=g.v) (o:=o) (done:=CO g) (s0:=⟨g.least,g.way,far,0⟩) hB hl hm (by omega) ⟨by omega,by omega⟩ hrl UL m1 m2 hD9 m4 m3 ⟨hu0,hu1⟩ fun j j1 j2=>⟨hvb j j1 j2,hg.iH j j1 j2⟩) (by omega) (by omega) ?_ ?_ ?_
   ·repeat (first|exact Ae.nil|refine Ae.same trivial rfl ?_|refine Ae.same (Ac rfl) rfl ?_|refine Ae.same ⟨trivial,Ac rfl,trivial⟩ rfl ?_|refine Ae.same ⟨trivial,Ac rfl,Ac rfl,trivial⟩ rfl ?_|refine Ae.same ⟨trivial,Ac rfl,Ac rfl,Ac rfl,trivial⟩ rfl ?_|refine Ae.same ⟨trivial,trivial⟩ rfl ?_|refine Ae.cons trivial rfl (.of_eq (Ar (by simp<;>omega))) ?_)
   ·repeat (first|exact Aj.nil|(refine Aj.cons (Ac rfl) ?_ rfl ?_ ?_;(first|exact HB.Ak rfl|exact AQ.Ah _ _|(simp [HB.under,AQ.under,PV.under]));(first|exact Bj.refl _|exact Bj.vec (Bh.refl _) (by simp))))
   ·have eC:KD (gi costs ((gi o g.at_).n-1)) (gi g.u (gi o g.at_).n) g.v (CO g) g.at_ ⟨g.least,g.way,far,0⟩ m=DV costs o m g:=rfl
    rw [eC]
    generalize DV costs o m g=sc at *
    have n1:=hR.ll
    have n2:=hR.lw
    repeat' (first|apply Ad.assoc|apply Ad.AA|apply Ad.Ai|apply AO.normal|apply AL.exit|apply Ag.nil|apply Ag.one|(apply Aa.move;rfl)|(apply Aa.lenV;rfl;rfl;rfl))
    all_goals try (exfalso;omega)
    refine Ad.blk (lH (e:=e) (costs:=costs) (k:=k) (nxt:=sc.next) (o:=o) (way:=sc.way) (done:=CO g) (t0:=⟨g.u,g.v,sc.least⟩) ⟨hR.d0,by have:=hR.dB;omega⟩ hm (by omega) m1 m2 n1 lo hD9 hpre.1 hpre.2 (fun j hj hd=>?_) (fun j hj=>?_) (fun j hj hd=>?_)) (by omega) (by omega) ?_ ?_ ?_
    ·have:=hdn j hj hd
     exact ⟨hg.U0 _ this.1 this.2,Int.le_trans (hub _ this.1 this.2) hB.2⟩
    ·show -2000000000000000≤gi g.v j∧gi g.v j≤0
     rcases Nat.eq_zero_or_pos j with h|h
     ·subst h
      have:=hg.U0 (k+1) (by omega) (Nat.le_refl _)
      have:=hub (k+1) (by omega) (Nat.le_refl _)
      omega
     ·have:=hvb j h hj
      exact ⟨by omega,hg.iH j h hj⟩
    ·have h0:1≤j:=by
      rcases Nat.eq_zero_or_pos j with h|h
      ·subst h
       rw [(hR.doneD 0).2 ⟨0,by omega,hg.zero⟩] at hd
       cases hd
      ·exact h
     obtain ⟨p,p1,p2,p3⟩:=hR.Xu j h0 hj hd
     have h1:=hR.dle j h0 hj hd
     have h2:=hR.d0
     have h3:=hvb j h0 hj
     have h4:=hc.hi (Hun.own o (MJ costs m k s p)) j
     have h5:0≤gi g.u (Hun.own o (MJ costs m k s p)):=by
      have hp1:Hun.own o (MJ costs m k s p)≠0:=by
       rcases Nat.lt_or_ge p t with h|h
       ·exact hg.qX p h
       ·obtain rfl:p=t:=by omega
        rw [hat];exact hr
      exact hg.U0 _ (by omega) (ho.lt (hg.le p (by omega)))
     have hf:far=1152921504606846976:=rfl
     show 0≤gi sc.least j∧gi sc.least j≤far
     omega
    ·repeat (first|exact Ae.nil|refine Ae.same trivial rfl ?_|refine Ae.same (Ac rfl) rfl ?_|refine Ae.same ⟨trivial,Ac rfl,trivial⟩ rfl ?_|refine Ae.same ⟨trivial,Ac rfl,Ac rfl,trivial⟩ rfl ?_|refine Ae.same ⟨trivial,Ac rfl,Ac rfl,Ac rfl,trivial⟩ rfl ?_|refine Ae.same ⟨trivial,trivial⟩ rfl ?_|refine Ae.cons trivial rfl (.of_eq (Ar (by simp<;>omega))) ?_)
    ·repeat (first|exact Aj.nil|(refine Aj.cons (Ac rfl) ?_ rfl ?_ ?_;(first|exact HB.Ak rfl|exact AQ.Ah _ _|(simp [HB.under,AQ.under,PV.under]));(first|exact Bj.refl _|exact Bj.vec (Bh.refl _) (by simp))))
    ·repeat' (first|apply Ad.region|apply AO.normal|apply AL.normal|apply AL.exit|apply Ag.nil|apply Ag.one|(apply Aa.assign;rfl)|(apply Aa.move;rfl))
     all_goals try (exfalso;omega)
     refine Aw.normal ⟨by first|omega|decide,?_,?_⟩
     ·repeat (first|exact Ae.nil|refine Ae.same trivial rfl ?_|refine Ae.same (Ac rfl) rfl ?_|refine Ae.same ⟨trivial,Ac rfl,trivial⟩ rfl ?_|refine Ae.same ⟨trivial,Ac rfl,Ac rfl,trivial⟩ rfl ?_|refine Ae.same ⟨trivial,Ac rfl,Ac rfl,Ac rfl,trivial⟩ rfl ?_|refine Ae.same ⟨trivial,trivial⟩ rfl ?_|refine Ae.cons trivial rfl (.of_eq (Ar (by simp<;>omega))) ?_)
     ·repeat (first|exact Aj.nil|(refine Aj.cons (Ac rfl) ?_ rfl ?_ ?_;(first|exact HB.Ak rfl|exact AQ.Ah _ _|(simp [HB.under,AQ.under,PV.under]));(first|exact Bj.refl _|exact Bj.vec (Bh.refl _) (by simp))))
  ·have h0:(gi (Jg s (k+1)) (Ei costs (Jg s (k+1)) m (Ri m s) (XR costs m s (k+1))).at_).n=0:=hend
   have hg:=hgr _ hgo
   have hle:=hg.le _ (Nat.le_refl _)
   have hat:MJ costs m k s (XR costs m s (k+1))=(Ei costs (Jg s (k+1)) m (Ri m s) (XR costs m s (k+1))).at_:=rfl
   rw [hat] at hle
   have lo:=ho.len
   have eE:Ei costs (Jg s (k+1)) m (Ri m s) (XR costs m s (k+1))=MS costs m s (k+1):=rfl
   rw [eE] at h0 hle hg hat ⊢
   repeat' (first|apply Ad.assoc|apply Ad.AA|apply Ad.AZ|apply AO.normal|apply AL.exit|apply Aw.exit|apply Ad.II|apply Ag.nil|apply Ag.one|(apply Aa.move;rfl)|(apply Aa.int;rfl;rfl;rfl)|(apply Aa.Dw;rfl;rfl;omega;rfl)|(apply Aa.Dn;rfl;rfl;rfl;rfl;omega)|(apply Ad.Af;rfl)|(intro _;try (exfalso;omega)))
   all_goals try (exfalso;omega)
   have hA:∀ t,t≤zS costs m s (k+1)→(G7 (MS costs m s (k+1)).way (stA costs m s (k+1)) t).owner.length=m+1∧(G7 (MS costs m s (k+1)).way (stA costs m s (k+1)) t).at_≤m:=fun t ht=>by
    obtain ⟨q,q1,q2⟩:=hback.inv t ht
    exact ⟨q2.len,by rw [q2.at_];exact (hgr q fun p hp=>hgo p (by omega)).le q (Nat.le_refl _)⟩
   refine Ad.blk (sW (e:=e) (costs:=costs) (n:=n) (k:=k) (u:=(MS costs m s (k+1)).u) (v:=(MS costs m s (k+1)).v) (a:=stA costs m s (k+1)) hm hg.lw (fun t ht=>(hA t ht).1) hback.go (fun t ht=>(hA t ht).2) hback.fin) (by omega) (by omega) ?_ ?_ ?_
   ·repeat (first|exact Ae.nil|refine Ae.same trivial rfl ?_|refine Ae.same (Ac rfl) rfl ?_|refine Ae.same ⟨trivial,Ac rfl,trivial⟩ rfl ?_|refine Ae.same ⟨trivial,Ac rfl,Ac rfl,trivial⟩ rfl ?_|refine Ae.same ⟨trivial,Ac rfl,Ac rfl,Ac rfl,trivial⟩ rfl ?_|refine Ae.same ⟨trivial,trivial⟩ rfl ?_|refine Ae.cons trivial rfl (.of_eq (Ar (by simp<;>omega))) ?_)
   ·repeat (first|exact Aj.nil|(refine Aj.cons (Ac rfl) ?_ rfl ?_ ?_;(first|exact HB.Ak rfl|exact AQ.Ah _ _|(simp [HB.under,AQ.under,PV.under]));(first|exact Bj.refl _|exact Bj.vec (Bh.refl _) (by simp))))
   ·repeat' (first|apply Ad.region|apply AO.normal|apply AL.normal|apply AL.exit|apply Ag.nil|apply Ag.one|(apply Aa.assign;rfl)|(apply Aa.move;rfl)|(apply Aa.Bv;rfl;rfl;omega))
    all_goals try (exfalso;omega)
    refine Aw.normal ⟨by first|omega|decide,?_,?_⟩
    ·repeat (first|exact Ae.nil|refine Ae.same trivial rfl ?_|refine Ae.same (Ac rfl) rfl ?_|refine Ae.same ⟨trivial,Ac rfl,trivial⟩ rfl ?_|refine Ae.same ⟨trivial,Ac rfl,Ac rfl,trivial⟩ rfl ?_|refine Ae.same ⟨trivial,Ac rfl,Ac rfl,Ac rfl,trivial⟩ rfl ?_|refine Ae.same ⟨trivial,trivial⟩ rfl ?_|refine Ae.cons trivial rfl (.of_eq (Ar (by simp<;>omega))) ?_)
    ·repeat (first|exact Aj.nil|(refine Aj.cons (Ac rfl) ?_ rfl ?_ ?_;(first|exact HB.Ak rfl|exact AQ.Ah _ _|(simp [HB.under,AQ.under,PV.under]));(first|exact Bj.refl _|exact Bj.vec (Bh.refl _) (by simp))))
 ·have hS:=Nv hc n (Nat.le_refl _)
  have hO:=Xo hS
  have hs:=Wp hc
  have l1:=hS.lu
  have l2:=hS.lv
  have l3:=hS.lo
  have eO:KR costs (Dh costs n m n).owner n m=Gz costs n m:=rfl
  have eU:(Dh costs n m n).u.drop 1=JK costs n m:=rfl
  have eV:(Dh costs n m n).v.drop 1=G6 costs n m:=rfl
  have htot:∀ j,j≤m→0≤(KR costs (Dh costs n m n).owner n j).total∧(KR costs (Dh costs n m n).owner n j).total≤1000000000000000:=fun j hj=>by
   rw [(hO j hj).total]
   have h1:=l9 (f:=fun k=>if 0<Hun.own (Dh costs n m n).owner (k+1) then cst costs (Hun.own (Dh costs n m n).owner (k+1)) (k+1) else 0) (a:=0) (b:=1000000000000) (n:=j) fun k hk=>by
    split
    ·exact ⟨hc.lo _ _,Int.le_trans (hc.hi _ _) hB.2⟩
    ·exact ⟨Int.le_refl _,by decide⟩
   omega
  generalize Dh costs n m n=s at *
  repeat' (first|(refine Ad.at 34 ?_;refine Ad.ghost (Ba.freeze 5 rfl rfl) ?_;first|apply Ad.AA|apply Ad.BJ)|(refine Ap.atIdx 4 ?_;refine Ap.ghost (Ba.freeze 6 rfl rfl) ?_)|apply Ad.assoc|apply Ad.AA|apply Ad.AZ|apply Ad.Ai|apply AO.normal|apply AL.exit|apply Aw.exit|apply Ag.nil|apply Ap.nil|apply Ag.one|(apply Ap.bar;decide +kernel)|apply Ap.quiet|(apply Aa.Es n (0:Int);rfl;rfl;rfl;rfl;rfl;rfl;rfl;omega;decide;decide;rfl)|(apply Aa.sliceFrom (l:=s.u) (a:=1);rfl;rfl;rfl;rfl;rfl;exact l1;omega)|(apply Aa.sliceFrom (l:=s.v) (a:=1);rfl;rfl;rfl;rfl;rfl;exact l2;omega)|(apply Aa.assign;rfl)|(apply Aa.move;rfl)|(apply Aa.int;rfl;rfl;rfl)|(apply Aa.alloc;rfl)|(apply Aa.Bo;rfl;rfl;rfl;trivial;rfl;rfl;exact Ac rfl;exact le_dec rfl)|(apply Aa.build;rfl;rfl;rfl;rfl;rfl)|(apply Ad.Af;rfl)|(intro _;try (exfalso;omega)))
  all_goals try (exfalso;omega)
  have e1:costs.length=n:=hl
  refine Ad.blk (um (e:=e) (costs:=costs) (n:=n) (m:=m) (U:=s.u.drop 1) (V:=s.v.drop 1) (o:=s.owner) hm (by omega) hl hrow l3 (fun j j1 j2=>hS.own j j1 j2) (fun j hj=>(hO j hj).len) (fun r j=>⟨hc.lo (r+1) (j+1),Int.le_trans (hc.hi (r+1) (j+1)) hB.2⟩) htot) (by omega) (by omega) ?_ ?_ ?_
  ·repeat (first|exact Ae.nil|refine Ae.same trivial rfl ?_|refine Ae.same (Ac rfl) rfl ?_|refine Ae.same ⟨trivial,Ac rfl,trivial⟩ rfl ?_|refine Ae.same ⟨trivial,Ac rfl,Ac rfl,trivial⟩ rfl ?_|refine Ae.same ⟨trivial,Ac rfl,Ac rfl,Ac rfl,trivial⟩ rfl ?_|refine Ae.same ⟨trivial,trivial⟩ rfl ?_|refine Ae.cons trivial rfl (.of_eq (Ar (by simp<;>omega))) ?_)
  ·repeat (first|exact Aj.nil|(refine Aj.cons (Ac rfl) ?_ rfl ?_ ?_;(first|exact HB.Ak rfl|exact AQ.Ah _ _|(simp [HB.under,AQ.under,PV.under]));(first|exact Bj.refl _|exact Bj.vec (Bh.refl _) (by simp))))
  ·rw [eO,eU,eV]
   repeat' (first|apply Ad.AA|apply AO.normal|apply AL.exit|apply Ad.ret|apply Ag.nil|apply Ag.one|(apply Aa.load;rfl;rfl)|(apply Aa.Bo;rfl;rfl;rfl;trivial;rfl;rfl;exact Ac rfl;exact le_dec rfl))
   all_goals try (exfalso;omega)
   refine Done.ret (H0:=[(5,.vec 3 (cells (Gz costs n m).cols) n false)]) (DR:=6) rfl (.refl _) ⟨Ac rfl,trivial,trivial,trivial,trivial⟩ ?_ (by omega) (by omega) ⟨rfl,rfl,rfl⟩
   repeat (first|exact Aj.nil|(refine Aj.cons (Ac rfl) ?_ rfl ?_ ?_;(first|exact HB.Ak rfl|exact AQ.Ah _ _|(simp [HB.under,AQ.under,PV.under]));(first|exact Bj.refl _|exact Bj.vec (Bh.refl _) (by simp))))
end Go.Proofs.YtdabojnmoejilaaGreatDoor
namespace Go.Proofs.YtdabojnmoejilaaGreatDoor
open Go Go.Am Go.Vm Go.Hun
attribute [local irreducible] Aa Ag Ap Ad BA AY CJ AO AL Aw Vm.Done Dc Bq
theorem Vw {L:Vm.Frame} {H:Vm.Heap} {nx:Nat} {Q:PV→Vm.Heap→Nat→Prop} {dst:Option Tmp} {ty:TypeId} {pos:String} {af:Array Edge} {gd:Option (Nat×Bool)} {fo:Operand} {args:Array Operand} {aT:Array TypeId} {fs cs xs:List PV} {c:Code}
 (hf:Bz env.Γ L fo=some (.clo 75 fs cs)) (ha:evs env.Γ L args.toList=some xs) (hb:Tryz.f75.body=some c) (hn:(fs++xs++cs).length≤Tryz.f75.ntmps)
 (h:Ad env nx c (CP 0 (fs++xs++cs)) H nx (Bq env.P Tryz.f75.results.toList Q)):Aa env true ⟨dst,.call { callee:=.value fo,args:=args,argTypes:=aT },ty,pos,af,gd⟩ L H nx Q:=by
 have h0:(match Tryz.f75.body with|some c=>H6 env.G Tryz.f75 c|none=>false)=true:=by kernel_rfl
 rw [hb] at h0
 exact Aa.inline rfl hf ha (AB (by decide)) Tryz.func75 hb h0 hn h
theorem Vk {L:Vm.Frame} {H:Vm.Heap} {nx:Nat} {Q:PV→Vm.Heap→Nat→Prop} {dst:Option Tmp} {ty:TypeId} {pos:String} {af:Array Edge} {gd:Option (Nat×Bool)} {fo:Operand} {args:Array Operand} {aT:Array TypeId} {fs cs xs:List PV} {c:Code}
 (hf:Bz env.Γ L fo=some (.clo 104 fs cs)) (ha:evs env.Γ L args.toList=some xs) (hb:Tryz.f104.body=some c) (hn:(fs++xs++cs).length≤Tryz.f104.ntmps)
 (h:Ad env nx c (CP 0 (fs++xs++cs)) H nx (Bq env.P Tryz.f104.results.toList Q)):Aa env true ⟨dst,.call { callee:=.value fo,args:=args,argTypes:=aT },ty,pos,af,gd⟩ L H nx Q:=by
 have h0:(match Tryz.f104.body with|some c=>H6 env.G Tryz.f104 c|none=>false)=true:=by kernel_rfl
 rw [hb] at h0
 exact Aa.inline rfl hf ha (AB (by decide)) Tryz.func104 hb h0 hn h
theorem zi {L:Vm.Frame} {H:Vm.Heap} {nx:Nat} {Q:PV→Vm.Heap→Nat→Prop} {dst:Option Tmp} {ty:TypeId} {pos:String} {af:Array Edge} {gd:Option (Nat×Bool)} {fo:Operand} {args:Array Operand} {aT:Array TypeId} {fs cs xs:List PV} {c:Code}
 (hf:Bz env.Γ L fo=some (.clo 101 fs cs)) (ha:evs env.Γ L args.toList=some xs) (hb:Tryz.f101.body=some c) (hn:(fs++xs++cs).length≤Tryz.f101.ntmps)
 (h:Ad env nx c (CP 0 (fs++xs++cs)) H nx (Bq env.P Tryz.f101.results.toList Q)):Aa env true ⟨dst,.call { callee:=.value fo,args:=args,argTypes:=aT },ty,pos,af,gd⟩ L H nx Q:=by
 have h0:(match Tryz.f101.body with|some c=>H6 env.G Tryz.f101 c|none=>false)=true:=by kernel_rfl
 rw [hb] at h0
 exact Aa.inline rfl hf ha (AB (by decide)) Tryz.func101 hb h0 hn h
structure Qp (l:List (List Int)) (n m:Nat) (skip B:Int):Prop where
 PE:jB l n m skip B
 n60:n≤60
 yR:m≤120
 B9:B≤1000000000
 m0:n=0→m=0
theorem Qp.cols {l:List (List Int)} {n m:Nat} {skip B:Int} (h:Qp l n m skip B):uh l=m:=by
 rcases Nat.eq_zero_or_pos n with h0|h0
 ·have:l=[]:=List.length_eq_zero_iff.1 (by rw [h.PE.len];exact h0)
  rw [this,h.m0 h0]
  rfl
 ·exact h.PE.row 0 h0
theorem dh {l:List (List Int)} {n m:Nat} {skip B:Int} (e:TypeId) (h:Qp l n m skip B):AY env 73 [.lst e (cells l) l.length,.bool false] (.p (.int .i64 0)):=by
 have h1:=h.PE.len
 have h2:=h.n60
 have h3:=h.yR
 have h4:=h.B9
 have Yg:=h.cols
 have hrow:=h.PE.row
 have dF:=h.PE.rng
 refine AY.enter (AB (by decide)) Tryz.func73 rfl (by kernel_rfl) (by simp [Tryz.ntmps73]) ?_
 rcases Nat.eq_zero_or_pos n with h0|h0
 ·have hl0:l=[]:=List.length_eq_zero_iff.1 (by omega)
  subst hl0
  repeat' (first|apply Ad.assoc|apply Ad.AA|apply Ad.Aq|apply Ad.Ai|apply Ag.nil|apply Ag.one|(apply Ag.take;rfl;rfl)|(apply Ag.drop;rfl;rfl;rfl)|(apply Aa.assign;rfl)|(apply Aa.move;rfl)|(apply Aa.int;rfl;rfl;rfl)|(apply Aa.AV;rfl;rfl)|(apply Aa.BI;rfl;rfl)|(apply Ad.Au;rfl))
  all_goals try (exfalso;omega)
  all_goals try contradiction
  apply Ad.Fe (0) [(0,_),(1,_),(24,_),(25,_)] [] (fun k r=>(26,.p (.int .i64 (k:Int)))::r) (fun k r=>r) 0
  ·first|omega|decide
  ·first|omega|decide
  ·repeat (first|exact Ae.nil|(refine Ae.eq rfl ?_ ?_;(first|exact PV.Ak rfl|(simp [PV.under,AQ.under];done)))|refine Ae.cons trivial rfl (.of_eq (Ar (by simp<;>omega))) ?_)
  ·repeat (first|exact Aj.nil|(refine Aj.eq rfl (Ac rfl) ?_ ?_;(first|exact HB.Ak rfl|exact AQ.Ah _ _|(simp [HB.under,AQ.under,PV.under];done)))|(refine Aj.cons (Ac rfl) ?_ rfl ?_ ?_;(first|exact trivial|exact AQ.Ah _ _|(simp [HB.under,AQ.under,PV.under]));(first|exact Bj.refl _|exact Bj.vec (Bh.refl _) (by simp))))
  ·intro k hk;omega
  ·repeat' (first|apply Ad.assoc|apply Ad.AA|apply Ad.Aq|apply Ad.AZ|apply Ad.Ai|apply AO.normal|apply AL.exit|apply Aw.exit|apply Ag.nil|apply Ag.one|(apply Ag.drop;rfl;rfl;rfl)|(apply Aa.move;rfl)|(apply Aa.int;rfl;rfl;rfl)|(apply Aa.AV;rfl;rfl)|(apply Aa.BI;rfl;rfl)|(apply Ad.Au;rfl))
   all_goals try (exfalso;omega)
   all_goals try contradiction
   apply Ad.Fe (0) [(0,_),(53,_),(54,_)] [] (fun k r=>(55,.p (.int .i64 (k:Int)))::r) (fun k r=>r) 0
   ·first|omega|decide
   ·first|omega|decide
   ·repeat (first|exact Ae.nil|(refine Ae.eq rfl ?_ ?_;(first|exact PV.Ak rfl|(simp [PV.under,AQ.under];done)))|refine Ae.cons trivial rfl (.of_eq (Ar (by simp<;>omega))) ?_)
   ·repeat (first|exact Aj.nil|(refine Aj.eq rfl (Ac rfl) ?_ ?_;(first|exact HB.Ak rfl|exact AQ.Ah _ _|(simp [HB.under,AQ.under,PV.under];done)))|(refine Aj.cons (Ac rfl) ?_ rfl ?_ ?_;(first|exact trivial|exact AQ.Ah _ _|(simp [HB.under,AQ.under,PV.under]));(first|exact Bj.refl _|exact Bj.vec (Bh.refl _) (by simp))))
   ·intro k hk;omega
   ·repeat' (first|apply Ad.AA|apply Ad.AZ|apply AO.normal|apply AL.exit|apply Aw.exit|apply Ad.ret|apply Ag.nil|apply Ag.one|(apply Aa.assign;rfl)|(apply Aa.int;rfl;rfl;rfl)|(apply Ad.Au;rfl))
    all_goals first|(exfalso;omega)|contradiction|(refine Done.ret rfl (.refl _) (by first|exact trivial|exact ⟨trivial,trivial,trivial⟩|exact ⟨trivial,trivial,trivial,trivial⟩) Aj.nil (Nat.zero_le _) (Nat.le_refl _) ⟨?_,rfl,rfl⟩;try rfl)
 ·have hr0:=hrow 0 h0
  have hc0:(gi l 0).length=m:=hr0
  repeat' (first|apply Ad.assoc|apply Ad.AA|apply Ad.Aq|apply Ad.Ai|apply Ag.nil|apply Ag.one|(apply Ag.take;rfl;rfl)|(apply Ag.guard;rfl;rfl)|(apply Aa.AP (l:=l) (i:=0);rfl;rfl;rfl;omega;rfl)|(apply Aa.assign;rfl)|(apply Aa.move;rfl)|(apply Aa.int;rfl;rfl;rfl)|(apply Aa.load;rfl;rfl)|(apply Aa.BH;rfl;rfl)|(apply Aa.AV;rfl;rfl)|(apply Aa.BI;rfl;rfl)|(apply Ad.Af;rfl)|(intro _;try (exfalso;omega)))
  all_goals try (exfalso;omega)
  all_goals try contradiction
  apply Ad.Fe (l.length) [(0,_),(1,_),(24,_),(25,_)] [] (fun k r=>(26,.p (.int .i64 (k:Int)))::r) (fun k r=>r) 0
  ·first|omega|decide
  ·first|omega|decide
  ·repeat (first|exact Ae.nil|(refine Ae.eq rfl ?_ ?_;(first|exact PV.Ak rfl|(simp [PV.under,AQ.under];done)))|refine Ae.cons trivial rfl (.of_eq (Ar (by simp<;>omega))) ?_)
  ·repeat (first|exact Aj.nil|(refine Aj.eq rfl (Ac rfl) ?_ ?_;(first|exact HB.Ak rfl|exact AQ.Ah _ _|(simp [HB.under,AQ.under,PV.under];done)))|(refine Aj.cons (Ac rfl) ?_ rfl ?_ ?_;(first|exact trivial|exact AQ.Ah _ _|(simp [HB.under,AQ.under,PV.under]));(first|exact Bj.refl _|exact Bj.vec (Bh.refl _) (by simp))))
  ·intro k hk
   have hrk:=hrow k (by omega)
   repeat' (first|apply Ad.AA|apply Ad.region|apply Ad.Aq|apply Ad.Ai|apply AO.normal|apply AL.normal|apply Ad.skip|apply Ag.nil|apply Ag.one|(apply Aa.AP (l:=l) (i:=k);rfl;rfl;rfl;omega;rfl)|(apply Aa.AP (l:=l) (i:=0);rfl;rfl;rfl;omega;rfl)|(apply Aa.assign;rfl)|(apply Aa.move;rfl)|(apply Aa.Bv;rfl;rfl;omega)|(apply Aa.int;rfl;rfl;rfl)|(apply Aa.load;rfl;rfl)|(apply Aa.BI;rfl;rfl)|(apply Ad.Af;rfl)|(apply Ad.A8;rfl)|(intro _;try (exfalso;omega)))
   all_goals try (exfalso;omega)
   refine Aw.normal ⟨by first|omega|decide,?_,?_⟩
   ·repeat (first|exact Ae.nil|refine Ae.same trivial rfl ?_|refine Ae.same (Ac rfl) rfl ?_|refine Ae.same ⟨trivial,Ac rfl,trivial⟩ rfl ?_|refine Ae.same ⟨trivial,Ac rfl,Ac rfl,trivial⟩ rfl ?_|refine Ae.same ⟨trivial,Ac rfl,Ac rfl,Ac rfl,trivial⟩ rfl ?_|refine Ae.same ⟨trivial,trivial⟩ rfl ?_|refine Ae.cons trivial rfl (.of_eq (Ar (by simp<;>omega))) ?_)
   ·repeat (first|exact Aj.nil|(refine Aj.cons (Ac rfl) ?_ rfl ?_ ?_;(first|exact HB.Ak rfl|exact AQ.Ah _ _|(simp [HB.under,AQ.under,PV.under]));(first|exact Bj.refl _|exact Bj.vec (Bh.refl _) (by simp))))
  ·repeat' (first|apply Ad.assoc|apply Ad.AA|apply Ad.Aq|apply Ad.AZ|apply Ad.Ai|apply AO.normal|apply AL.exit|apply Aw.exit|apply Ag.nil|apply Ag.one|(apply Ag.drop;rfl;rfl;rfl)|(apply Aa.move;rfl)|(apply Aa.int;rfl;rfl;rfl)|(apply Aa.AV;rfl;rfl)|(apply Aa.BI;rfl;rfl)|(apply Ad.Au;rfl)|(apply Ad.Af;rfl)|(intro _;try (exfalso;omega)))
   all_goals try (exfalso;omega)
   all_goals try contradiction
   apply Ad.Fe (l.length) [(0,_),(53,_),(54,_)] [] (fun k r=>(55,.p (.int .i64 (k:Int)))::r) (fun k r=>r) 0
   ·first|omega|decide
   ·first|omega|decide
   ·repeat (first|exact Ae.nil|(refine Ae.eq rfl ?_ ?_;(first|exact PV.Ak rfl|(simp [PV.under,AQ.under];done)))|refine Ae.cons trivial rfl (.of_eq (Ar (by simp<;>omega))) ?_)
   ·repeat (first|exact Aj.nil|(refine Aj.eq rfl (Ac rfl) ?_ ?_;(first|exact HB.Ak rfl|exact AQ.Ah _ _|(simp [HB.under,AQ.under,PV.under];done)))|(refine Aj.cons (Ac rfl) ?_ rfl ?_ ?_;(first|exact trivial|exact AQ.Ah _ _|(simp [HB.under,AQ.under,PV.under]));(first|exact Bj.refl _|exact Bj.vec (Bh.refl _) (by simp))))
   ·intro k hk
    have hrk:=hrow k (by omega)
    repeat' (first|apply Ad.assoc|apply Ad.AA|apply Ad.Aq|apply Ad.Ai|apply Ag.nil|apply Ag.one|(apply Vw;rfl;rfl;rfl;exact le_dec rfl)|(apply Vk;rfl;rfl;rfl;exact le_dec rfl)|(apply Aa.assign;rfl)|(apply Aa.move;rfl)|(apply Aa.int;rfl;rfl;rfl)|(apply Aa.AP;rfl;rfl;rfl;omega;rfl)|(apply Aa.load;rfl;rfl)|(apply Aa.BI;rfl;rfl)|(apply Ad.Af;rfl)|(intro _;try (exfalso;omega)))
    all_goals try (exfalso;omega)
    apply Ad.Fe ((gi l k).length) [(0,_),(1,_),(7,_)] [] (fun k_ r=>(8,.p (.int .i64 (k_:Int)))::r) (fun k_ r=>r) 0
    ·first|omega|decide
    ·first|omega|decide
    ·repeat (first|exact Ae.nil|(refine Ae.eq rfl ?_ ?_;(first|exact PV.Ak rfl|(simp [PV.under,AQ.under];done)))|refine Ae.cons trivial rfl (.of_eq (Ar (by simp<;>omega))) ?_)
    ·repeat (first|exact Aj.nil|(refine Aj.eq rfl (Ac rfl) ?_ ?_;(first|exact HB.Ak rfl|exact AQ.Ah _ _|(simp [HB.under,AQ.under,PV.under];done)))|(refine Aj.cons (Ac rfl) ?_ rfl ?_ ?_;(first|exact trivial|exact AQ.Ah _ _|(simp [HB.under,AQ.under,PV.under]));(first|exact Bj.refl _|exact Bj.vec (Bh.refl _) (by simp))))
    ·intro j hj
     have hb:=dF k j (by omega) (by omega)
     repeat' (first|apply Ad.AA|apply Ad.region|apply Ad.Aq|apply Ad.Ai|apply AO.normal|(apply Bq.ret;rfl)|apply AL.normal|apply Ad.ret|apply Ad.skip|apply Ag.nil|apply Ag.one|(apply Ag.take;rfl;rfl)|(apply Ag.guard;rfl;rfl)|(apply zi;rfl;rfl;rfl;exact le_dec rfl)|(apply Aa.assign;rfl)|(apply Aa.move;rfl)|(apply Aa.Bv;rfl;rfl;omega)|(apply Aa.int;rfl;rfl;rfl)|(apply Aa.AP;rfl;rfl;rfl;omega;rfl)|(apply Aa.load;rfl;rfl)|(apply Aa.AV;rfl;rfl)|(apply Ad.Af;rfl)|(apply Ad.A8;rfl)|(intro _;try (exfalso;omega)))
     all_goals try (exfalso;omega)
     refine Aw.normal ⟨by first|omega|decide,?_,?_⟩
     ·repeat (first|exact Ae.nil|refine Ae.same trivial rfl ?_|refine Ae.same (Ac rfl) rfl ?_|refine Ae.same ⟨trivial,Ac rfl,trivial⟩ rfl ?_|refine Ae.same ⟨trivial,Ac rfl,Ac rfl,trivial⟩ rfl ?_|refine Ae.same ⟨trivial,Ac rfl,Ac rfl,Ac rfl,trivial⟩ rfl ?_|refine Ae.same ⟨trivial,trivial⟩ rfl ?_|refine Ae.cons trivial rfl (.of_eq (Ar (by simp<;>omega))) ?_)
     ·repeat (first|exact Aj.nil|(refine Aj.cons (Ac rfl) ?_ rfl ?_ ?_;(first|exact HB.Ak rfl|exact AQ.Ah _ _|(simp [HB.under,AQ.under,PV.under]));(first|exact Bj.refl _|exact Bj.vec (Bh.refl _) (by simp))))
    ·repeat' (first|apply Ad.AA|apply Ad.region|apply Ad.AZ|apply AO.normal|(apply Bq.ret;rfl)|apply AL.normal|apply AL.exit|apply Aw.exit|apply Ad.ret|apply Ad.skip|apply Ag.nil|apply Ag.one|(apply Aa.assign;rfl)|(apply Aa.move;rfl)|(apply Aa.Bv;rfl;rfl;omega)|(apply Aa.int;rfl;rfl;rfl)|(apply Ad.Af;rfl)|(apply Ad.cond_false;rfl)|(intro _;try (exfalso;omega)))
     all_goals try (exfalso;omega)
     all_goals try contradiction
     refine Aw.normal ⟨by first|omega|decide,?_,?_⟩
     ·repeat (first|exact Ae.nil|refine Ae.same trivial rfl ?_|refine Ae.same (Ac rfl) rfl ?_|refine Ae.same ⟨trivial,Ac rfl,trivial⟩ rfl ?_|refine Ae.same ⟨trivial,Ac rfl,Ac rfl,trivial⟩ rfl ?_|refine Ae.same ⟨trivial,Ac rfl,Ac rfl,Ac rfl,trivial⟩ rfl ?_|refine Ae.same ⟨trivial,trivial⟩ rfl ?_|refine Ae.cons trivial rfl (.of_eq (Ar (by simp<;>omega))) ?_)
     ·repeat (first|exact Aj.nil|(refine Aj.cons (Ac rfl) ?_ rfl ?_ ?_;(first|exact HB.Ak rfl|exact AQ.Ah _ _|(simp [HB.under,AQ.under,PV.under]));(first|exact Bj.refl _|exact Bj.vec (Bh.refl _) (by simp))))
   ·repeat' (first|apply Ad.AA|apply Ad.AZ|apply AO.normal|apply AL.exit|apply Aw.exit|apply Ad.ret|apply Ag.nil|apply Ag.one|(apply Aa.assign;rfl)|(apply Aa.int;rfl;rfl;rfl)|(apply Ad.Af;rfl)|(intro _;try (exfalso;omega)))
    all_goals first|(exfalso;omega)|contradiction|(refine Done.ret rfl (.refl _) (by first|exact trivial|exact ⟨trivial,trivial,trivial⟩|exact ⟨trivial,trivial,trivial,trivial⟩) Aj.nil (Nat.zero_le _) (Nat.le_refl _) ⟨?_,rfl,rfl⟩;try rfl)
theorem LU {l:List (List Int)} {n m:Nat} {skip B:Int} (e:TypeId) (h:Qp l n m skip B):AY env 46 [.lst e (cells l) l.length,.int .i64 skip] (.p (.int .i64 0)):=by
 have hc:=dh e h
 have h4:=h.B9
 have h5:=h.PE.skip
 refine AY.enter (AB (by decide)) Tryz.func46 rfl (by kernel_rfl) (by simp [Tryz.ntmps46]) ?_
 repeat' (first|apply Ad.assoc|apply Ad.AA|apply Ad.Aq|apply Ad.ret|apply Ag.nil|apply Ag.one|(apply Ag.take;rfl;rfl)|(apply Ag.guard;rfl;rfl)|(apply Aa.fn;rfl;rfl;exact hc;intro _;rfl)|(apply Aa.assign;rfl)|(apply Aa.move;rfl)|(apply Aa.int;rfl;rfl;rfl)|(apply Aa.AV;rfl;rfl)|(apply Ad.Au;rfl)|(apply Ad.Af;rfl)|(intro _;try (exfalso;omega)))
 all_goals first|(exfalso;omega)|contradiction|(refine Done.ret rfl (.refl _) (by first|exact trivial|exact ⟨trivial,trivial,trivial⟩|exact ⟨trivial,trivial,trivial,trivial⟩) Aj.nil (Nat.zero_le _) (Nat.le_refl _) ⟨?_,rfl,rfl⟩;try rfl)
theorem Ov {l:List (List Int)} {n m:Nat} {skip B:Int} (e:TypeId) (h:Qp l n m skip B):AY env 69 [.lst e (cells l) l.length] (.p (.int .i64 (m:Int))):=by
 have:=MH e l (by have:=h.PE.len;have:=h.n60;omega)
 rwa [h.cols] at this
theorem dR (l:List Int) (h0:0<l.length) (h1:l.length<1000000):CJ env 70 [.lst 3 (cells l) l.length] 3 (cells l) l.length false:=by
 refine CJ.enter (AB (by decide)) Tryz.func70 rfl (by kernel_rfl) (by simp [Tryz.ntmps70]) ?_
 repeat' (first|apply Ad.assoc|apply Ad.AA|apply Ad.Aq|apply Ad.ret|apply Ag.nil|apply Ag.one|(apply Aa.a3a;rfl;rfl;rfl;exact h0)|(apply Aa.assign;rfl)|(apply Aa.move;rfl)|(apply Aa.buildSlice;rfl;rfl;rfl;decide;rfl;rfl;rfl)|(apply Aa.NG;rfl;rfl;rfl;(first|rfl|omega|(simp only [List.length_take,List.length_drop,List.length_append,List.length_singleton,List.length_cons,List.length_nil]<;>omega));rfl;rfl;(intro _ h;cases h);rfl;rfl;rfl;decide;decide;(first|omega|(simp only [List.length_take,List.length_drop,List.length_append,List.length_singleton,List.length_cons,List.length_nil]<;>omega)))|(apply Ad.Au;rfl))
 exact Dc.ret rfl rfl rfl rfl
theorem zu {L:Vm.Frame} {H:Vm.Heap} {nx:Nat} {Q:PV→Vm.Heap→Nat→Prop} {dst:Option Tmp} {ty:TypeId} {pos:String} {af:Array Edge} {gd:Option (Nat×Bool)} {fo:Operand} {args:Array Operand} {aT:Array TypeId} {fs cs xs:List PV} {c:Code}
 (hf:Bz env.Γ L fo=some (.clo 70 fs cs)) (ha:evs env.Γ L args.toList=some xs) (hb:Tryz.f70.body=some c) (hn:(fs++xs++cs).length≤Tryz.f70.ntmps)
 (h:Ad env nx c (CP 0 (fs++xs++cs)) H nx (Bq env.P Tryz.f70.results.toList Q)):Aa env true ⟨dst,.call { callee:=.value fo,args:=args,argTypes:=aT },ty,pos,af,gd⟩ L H nx Q:=by
 have h0:(match Tryz.f70.body with|some c=>H6 env.G Tryz.f70 c|none=>false)=true:=by kernel_rfl
 rw [hb] at h0
 exact Aa.inline rfl hf ha (AB (by decide)) Tryz.func70 hb h0 hn h
theorem ni {α:Type} [Inhabited α] {l:List α} {k:Nat} (h:k<l.length):l.take (k+1)=l.take k++[gi l k]:=by
 rw [List.take_succ_eq_append_getElem h]
 unfold gi
 rw [List.getElem?_eq_getElem h];rfl
def U1 (l:List (List Int)) (skip:Int) (k:Nat):List Int:=gi l k++List.replicate (l.length+1) skip
def NZ (l:List (List Int)) (skip:Int) (k:Nat):List (List Int):=(DC l skip l.length).take k++List.replicate (l.length-k) []
theorem Oy (l:List (List Int)) (skip:Int) (n:Nat):(DC l skip n).length=l.length:=by simp [DC]
theorem qp (l:List (List Int)) (skip:Int) {k:Nat} (h:k≤l.length):(NZ l skip k).length=l.length:=by
 unfold NZ
 rw [List.length_append,List.length_take,List.length_replicate,Oy];omega
theorem pO (l:List (List Int)) (skip:Int):NZ l skip l.length=DC l skip l.length:=by
 unfold NZ
 rw [Nat.sub_self,List.take_of_length_le (by rw [Oy];exact Nat.le_refl _)]
 simp
theorem rJ (l:List (List Int)) (skip:Int) {k:Nat} (h:k<l.length):(NZ l skip k).set k (U1 l skip k)=NZ l skip (k+1):=by
 have e1:U1 l skip k=gi (DC l skip l.length) k:=(gi_map' (fun row=>row++List.replicate (l.length+1) skip) h).symm
 have hk:k<(DC l skip l.length).length:=by rw [Oy];exact h
 obtain ⟨r,hr⟩:∃ r,l.length-k=r+1:=⟨l.length-k-1,by omega⟩
 unfold NZ
 rw [e1,ni hk,hr,show l.length-(k+1)=r by omega]
 have ht:((DC l skip l.length).take k).length=k:=by rw [List.length_take];omega
 generalize gi (DC l skip l.length) k=x
 generalize (DC l skip l.length).take k=t at *
 rw [List.set_append_right _ _ (by omega),ht,Nat.sub_self,List.replicate_succ,List.set_cons_zero,List.append_assoc]
 rfl
theorem YD:∀ n:Nat,Bh ((Bg [.slice none 0 0] n).map Gj) (cells (List.replicate n ([]:List Int)))
 |0=>.refl _
 |n+1=>.cons (.nil _) (YD n)
theorem kP (l:List (List Int)) (skip:Int):NZ l skip 0=List.replicate l.length []:=by unfold NZ;simp
def U7 (m:Nat) (cols:List Int) (j:Nat):List Int:=(cols.take j).map (KO m)++cols.drop j
theorem XG (m:Nat) (cols:List Int) (j:Nat):(U7 m cols j).length=cols.length:=by
 unfold U7
 rw [List.length_append,List.length_map,List.length_take,List.length_drop];omega
theorem mg (m:Nat) (cols:List Int) {j:Nat} (h:j<cols.length):gi (U7 m cols j) j=gi cols j:=by
 unfold U7 gi
 rw [List.getElem?_append_right (by rw [List.length_map,List.length_take];omega),List.length_map,List.length_take,Nat.min_eq_left (Nat.le_of_lt h),Nat.sub_self,List.getElem?_drop,Nat.add_zero]
theorem dU (m:Nat) (cols:List Int) {j:Nat} (h:j<cols.length):(U7 m cols j).set j (KO m (gi cols j))=U7 m cols (j+1):=by
 unfold U7
 have ht:((cols.take j).map (KO m)).length=j:=by rw [List.length_map,List.length_take];omega
 rw [List.set_append_right _ _ (by omega),ht,Nat.sub_self,ni h,List.map_append,List.append_assoc]
 congr 1
 rw [List.drop_eq_getElem_cons h,List.set_cons_zero]
 rfl
theorem pW (m:Nat) (cols:List Int) {j:Nat} (h:j<cols.length) (hc:KO m (gi cols j)=gi cols j):U7 m cols (j+1)=U7 m cols j:=by
 rw [← dU m cols h,hc,← mg m cols h]
 refine List.ext_getElem? fun i=>?_
 rw [List.getElem?_set]
 by_cases e:j=i
 ·subst e
  rw [if_pos rfl,if_pos (by rw [XG];exact h)]
  unfold gi
  rw [List.getElem?_eq_getElem (by rw [XG];exact h)]
  rfl
 ·rw [if_neg e]
theorem uJ (m:Nat) (cols:List Int):U7 m cols cols.length=cols.map (KO m):=by
 unfold U7
 rw [List.take_of_length_le (Nat.le_refl _),List.drop_of_length_le (Nat.le_refl _),List.append_nil]
structure Qw where
 cols:List Int
 total:Int
 rows:List Int
 BU:List Int
def Qw.enc (x:Qw):List FV:=[.lst 3 (cells x.cols) x.cols.length,.int .i64 x.total,.lst 3 (cells x.rows) x.rows.length,.lst 3 (cells x.BU) x.BU.length]
instance:Enc Qw:={ default:=⟨[],0,[],[]⟩,enc:=Qw.enc,size:=4,len:=fun _=>rfl }
def Zl (l:List (List Int)) (m:Nat) (skip:Int):Qw:=⟨wW l l.length m skip,kG l l.length m skip,xI l l.length m skip,xX l l.length m skip⟩
theorem aF {l:List (List Int)} {m:Nat} {skip B:Int} (e:TypeId) (h:Qp l l.length m skip B) (h0:0<l.length) :
 AY env 45 [.lst e (cells l) l.length,.int .i64 skip] (.EX [.p (.agg (Enc.enc (Zl l m skip))),.p (.int .i64 0)]):=by
 have hck:=LU e h
 have hcl:=Ov e h
 have h2:=h.n60
 have h3:=h.yR
 have hrow:=h.PE.row
 have hP:=jd h.PE
 have hw:=YX h.PE
 have hs:=Wp hw
 have hsv:=iE (costs:=DC l skip l.length) (n:=l.length) (m:=m+(l.length+1)) 52 hw (Oy _ _ _) (fun r hr=>by
  unfold DC
  rw [gi_map' _ hr,List.length_append,List.length_replicate,hrow r hr]) h0 (by omega)
 have hroom:l.length*(24+1)≤room∧l.length≤2 ^ 40:=⟨by have:=Zx (n:=l.length) (k:=0) (b:=24) (by omega) (by decide);simpa using this,by omega⟩
 refine AY.enter (AB (by decide)) Tryz.func45 rfl (by kernel_rfl) (by simp [Tryz.ntmps45]) ?_
 repeat' (first|apply Ad.assoc|apply Ad.AA|apply Ad.Aq|apply Ad.Ai|apply Ag.nil|apply Ag.one|(apply Aa.fn;rfl;rfl;exact hck;intro _;rfl)|(apply Aa.fn;rfl;rfl;exact hcl;intro _;rfl)|(apply Aa.makeSlice (n:=l.length);rfl;rfl;rfl;rfl;rfl;exact hroom;decide)|(apply Aa.assign;rfl)|(apply Aa.move;rfl)|(apply Aa.int;rfl;rfl;rfl)|(apply Aa.BI;rfl;rfl)|(apply Aa.alloc;rfl)|(apply Ad.Au;rfl))
 all_goals try (exfalso;omega)
 all_goals try contradiction
 refine Ad.ghost (Ba.a4q 1 (cells (NZ l skip 0)) rfl (by rw [kP];exact YD _)) ?_
 apply Ad.Fe (l.length) [(0,_),(1,_),(4,_),(7,_),(8,_),(26,_),(27,_)] [(0,_)] (fun k r=>(28,.p (.int .i64 (k:Int)))::r) (fun k r=>(1,.vec 52 (cells (NZ l skip k)) l.length false)::r) 2
 ·first|omega|decide
 ·first|omega|decide
 ·repeat (first|exact Ae.nil|(refine Ae.eq rfl ?_ ?_;(first|exact PV.Ak rfl|(simp [PV.under,AQ.under];done)))|refine Ae.cons trivial rfl (.of_eq (Ar (by simp<;>omega))) ?_)
 ·repeat (first|exact Aj.nil|(refine Aj.eq rfl (Ac rfl) ?_ ?_;(first|exact HB.Ak rfl|exact AQ.Ah _ _|(simp [HB.under,AQ.under,PV.under];done)))|(refine Aj.cons (Ac rfl) ?_ rfl ?_ ?_;(first|exact trivial|exact AQ.Ah _ _|(simp [HB.under,AQ.under,PV.under]));(first|exact Bj.refl _|exact Bj.vec (Bh.refl _) (by simp))))
 ·intro k hk
  have hrk:=hrow k hk
  have hsl:=qp l skip (Nat.le_of_lt hk)
  have hst:=rJ l skip hk
  have hrep:=Uo 3 skip (l.length+1) (by omega) (by omega)
  have hlen:(gi l k++List.replicate (l.length+1) skip).length=(gi l k).length+(List.replicate (l.length+1) skip).length:=List.length_append
  have hrl:(List.replicate (l.length+1) skip).length=l.length+1:=List.length_replicate
  have hpc:Gv (.p (.lst 3 (cells (gi l k++List.replicate (l.length+1) skip)) ((gi l k).length+(List.replicate (l.length+1) skip).length)))=(Enc.enc (U1 l skip k)).map .p:=by
   show [PV.p (FV.lst 3 (cells (gi l k++List.replicate (l.length+1) skip)) ((gi l k).length+(List.replicate (l.length+1) skip).length))]=[PV.p (FV.lst 3 (cells (U1 l skip k)) (U1 l skip k).length)]
   rw [show (U1 l skip k).length=_ from hlen];rfl
  by_cases hm:0<m
  ·have hcn:=dR (gi l k) (by omega) (by omega)
   repeat' (first|(refine Ag.IX 42 ?_;refine Ag.ghost (Ba.freeze 38 rfl rfl) ?_)|(refine Ag.IX 43 ?_;refine Ag.ghost (Ba.freeze 42 rfl rfl) ?_)|(refine Ag.IX 44 ?_;refine Ag.ghost (Ba.freeze 43 rfl rfl) ?_)|apply Ad.AA|apply Ad.region|apply Ad.Aq|apply Ad.Ai|apply AO.normal|apply AL.normal|apply Ag.nil|apply Ag.one|(apply Aa.fv;rfl;rfl;exact hcn)|(apply Aa.fv;rfl;rfl;exact hrep)|(apply Aa.Ef (y:=U1 l skip k);rfl;rfl;rfl;trivial;exact hpc;rfl;rfl;decide;omega)|(apply Aa.QF (l:=gi l k) (r:=List.replicate (l.length+1) skip);rfl;rfl;rfl;rfl;exact hrl;rfl;rfl;(intro _ h;cases h);rfl;rfl;rfl;decide;decide;omega)|(apply Aa.assign;rfl)|(apply Aa.move;rfl)|(apply Aa.Bv;rfl;rfl;omega)|(apply Aa.int;rfl;rfl;rfl)|(apply Aa.AP;rfl;rfl;rfl;omega;rfl)|(apply Aa.load;rfl;rfl)|(apply Aa.BI;rfl;rfl)|(apply Aa.buildSlice;rfl;rfl;rfl;decide;rfl;rfl;rfl)|(apply Aa.Dn;rfl;rfl;rfl;rfl;omega)|(apply Ad.Af;rfl)|(intro _;try (exfalso;omega)))
   all_goals try (exfalso;omega)
   refine Aw.normal ⟨by first|omega|decide,?_,?_⟩
   ·try (rw [← hst])
    repeat (first|exact Ae.nil|refine Ae.same trivial rfl ?_|refine Ae.same (Ac rfl) rfl ?_|refine Ae.same ⟨trivial,Ac rfl,trivial⟩ rfl ?_|refine Ae.same ⟨trivial,Ac rfl,Ac rfl,trivial⟩ rfl ?_|refine Ae.same ⟨trivial,Ac rfl,Ac rfl,Ac rfl,trivial⟩ rfl ?_|refine Ae.same ⟨trivial,trivial⟩ rfl ?_|refine Ae.cons trivial rfl (.of_eq (Ar (by simp<;>omega))) ?_)
   ·rw [← hst]
    repeat (first|exact Aj.nil|(refine Aj.cons (Ac rfl) ?_ rfl ?_ ?_;(first|exact HB.Ak rfl|exact AQ.Ah _ _|(simp [HB.under,AQ.under,PV.under]));(first|exact Bj.refl _|exact Bj.vec (Bh.refl _) (by simp))))
  ·have hl0:gi l k=[]:=List.length_eq_zero_iff.1 (by omega)
   have a8i:Gv (.p (.lst 3 (cells (List.replicate (l.length+1) skip)) (List.replicate (l.length+1) skip).length))=(Enc.enc (U1 l skip k)).map .p:=by
    rw [show U1 l skip k=List.replicate (l.length+1) skip by unfold U1;rw [hl0];rfl];rfl
   repeat' (first|(refine Ag.IX 42 ?_;refine Ag.ghost (Ba.freeze 38 rfl rfl) ?_)|(refine Ag.IX 43 ?_;refine Ag.ghost (Ba.trans (Ba.freeze 42 rfl rfl) (Ba.adopt 36 3 rfl)) ?_)|(refine Ag.IX 43 ?_;refine Ag.ghost (Ba.freeze 42 rfl rfl) ?_)|(refine Ag.IX 44 ?_;refine Ag.ghost (Ba.freeze 43 rfl rfl) ?_)|apply Ad.assoc|apply Ad.AA|apply Ad.region|apply Ad.Aq|apply Ad.BO|apply Ad.Ai|apply AO.normal|(apply Bq.ret;rfl)|apply AL.normal|apply Ad.ret|apply Ag.nil|apply Ag.one|(apply zu;rfl;rfl;rfl;exact le_dec rfl)|(apply Aa.fv;rfl;rfl;exact hrep)|(apply Aa.Ef (y:=U1 l skip k);rfl;rfl;rfl;trivial;exact a8i;rfl;rfl;decide;omega)|(apply Aa.NG (r:=List.replicate (l.length+1) skip);rfl;rfl;rfl;exact hrl;rfl;rfl;(intro _ h;cases h);rfl;rfl;rfl;decide;decide;omega)|(apply Aa.eqNil;rfl;rfl;rfl;intro b hb)|(apply Aa.Ef (y:=U1 l skip k);rfl;rfl;rfl;trivial;exact hpc;rfl;rfl;decide;omega)|(apply Aa.QF (l:=gi l k) (r:=List.replicate (l.length+1) skip);rfl;rfl;rfl;rfl;exact hrl;rfl;rfl;(intro _ h;cases h);rfl;rfl;rfl;decide;decide;omega)|(apply Aa.assign;rfl)|(apply Aa.move;rfl)|(apply Aa.Bv;rfl;rfl;omega)|(apply Aa.int;rfl;rfl;rfl)|(apply Aa.AP;rfl;rfl;rfl;omega;rfl)|(apply Aa.load;rfl;rfl)|(apply Aa.BI;rfl;rfl)|(apply Aa.buildSlice;rfl;rfl;rfl;decide;rfl;rfl;rfl)|(apply Aa.Dn;rfl;rfl;rfl;rfl;omega)|(apply Aa.NG;rfl;rfl;rfl;(first|rfl|omega|(simp only [List.length_take,List.length_drop,List.length_append,List.length_singleton,List.length_cons,List.length_nil]<;>omega));rfl;rfl;(intro _ h;cases h);rfl;rfl;rfl;decide;decide;(first|omega|(simp only [List.length_take,List.length_drop,List.length_append,List.length_singleton,List.length_cons,List.length_nil]<;>omega)))|(apply Ad.Af;rfl)|(apply Ad.QT;rfl)|(intro _;try (exfalso;omega)))
   all_goals try (exfalso;omega)
   ·refine Aw.normal ⟨by first|omega|decide,?_,?_⟩
    ·try (rw [← hst])
     repeat (first|exact Ae.nil|refine Ae.same trivial rfl ?_|refine Ae.same (Ac rfl) rfl ?_|refine Ae.same ⟨trivial,Ac rfl,trivial⟩ rfl ?_|refine Ae.same ⟨trivial,Ac rfl,Ac rfl,trivial⟩ rfl ?_|refine Ae.same ⟨trivial,Ac rfl,Ac rfl,Ac rfl,trivial⟩ rfl ?_|refine Ae.same ⟨trivial,trivial⟩ rfl ?_|refine Ae.cons trivial rfl (.of_eq (Ar (by simp<;>omega))) ?_)
    ·rw [← hst]
     repeat (first|exact Aj.nil|(refine Aj.cons (Ac rfl) ?_ rfl ?_ ?_;(first|exact HB.Ak rfl|exact AQ.Ah _ _|(simp [HB.under,AQ.under,PV.under]));(first|exact Bj.refl _|exact Bj.vec (Bh.refl _) (by simp))))
   ·refine Aw.normal ⟨by first|omega|decide,?_,?_⟩
    ·try (rw [← hst])
     repeat (first|exact Ae.nil|refine Ae.same trivial rfl ?_|refine Ae.same (Ac rfl) rfl ?_|refine Ae.same ⟨trivial,Ac rfl,trivial⟩ rfl ?_|refine Ae.same ⟨trivial,Ac rfl,Ac rfl,trivial⟩ rfl ?_|refine Ae.same ⟨trivial,Ac rfl,Ac rfl,Ac rfl,trivial⟩ rfl ?_|refine Ae.same ⟨trivial,trivial⟩ rfl ?_|refine Ae.cons trivial rfl (.of_eq (Ar (by simp<;>omega))) ?_)
    ·rw [← hst]
     repeat (first|exact Aj.nil|(refine Aj.cons (Ac rfl) ?_ rfl ?_ ?_;(first|exact HB.Ak rfl|exact AQ.Ah _ _|(simp [HB.under,AQ.under,PV.under]));(first|exact Bj.refl _|exact Bj.vec (Bh.refl _) (by simp))))
 ·rw [pO]
  have lC:(Gz (DC l skip l.length) l.length (m+(l.length+1))).cols.length=l.length:=hs.len
  have lV:(G6 (DC l skip l.length) l.length (m+(l.length+1))).length=m+(l.length+1):=hs.lV
  repeat' (first|(refine Ag.IX 47 ?_;refine Ag.ghost (Ba.freeze 46 rfl rfl) ?_)|apply Ad.assoc|apply Ad.AA|apply Ad.AZ|apply Ad.Ai|apply AO.normal|apply AL.exit|apply Aw.exit|apply Ag.nil|apply Ag.one|(apply Aa.WU [] (hsv);rfl;rfl;exact .of_eq rfl;exact AQ.Ak rfl;exact EF rfl;(repeat (first|exact trivial|refine ⟨⟨_,rfl,.of_eq rfl⟩,?_⟩));decide;(intro _ hb;first|(simp at hb;done)|(simp at hb ⊢<;>omega));(rintro _ _ _ ⟨rfl,rfl,rfl⟩))|(apply Aa.sliceTo (l:=G6 (DC l skip l.length) l.length (m+(l.length+1))) (b:=m);rfl;rfl;rfl;rfl;rfl;exact lV;omega)|(apply Aa.move;rfl)|(apply Aa.int;rfl;rfl;rfl)|(apply Aa.load;rfl;rfl)|(apply Aa.BI;rfl;rfl)|(apply Aa.lenV;rfl;rfl;rfl)|(apply Aa.AU;rfl;rfl;rfl)|(apply Aa.alloc;rfl)|(apply Aa.Bo;rfl;rfl;rfl;trivial;rfl;rfl;exact Ac rfl;exact le_dec rfl)|(apply Ad.Af;rfl)|(intro _;try (exfalso;omega)))
  all_goals try (exfalso;omega)
  all_goals try contradiction
  have eM:Zl l m skip=⟨(Gz (DC l skip l.length) l.length (m+(l.length+1))).cols.map (KO m),(Gz (DC l skip l.length) l.length (m+(l.length+1))).total,JK (DC l skip l.length) l.length (m+(l.length+1)),(G6 (DC l skip l.length) l.length (m+(l.length+1))).take m⟩:=rfl
  have Yg:=hs.col
  rw [eM]
  generalize (Gz (DC l skip l.length) l.length (m+(l.length+1))).cols=cols at *
  apply Ad.Fe (l.length) [(4,_),(7,_),(11,_),(57,_),(58,_)] [(8,_),(0,_)] (fun k r=>(59,.p (.int .i64 (k:Int)))::r) (fun k r=>(7,.vec 3 (cells (U7 m cols k)) l.length false)::r) 9
  ·first|omega|decide
  ·first|omega|decide
  ·repeat (first|exact Ae.nil|(refine Ae.eq rfl ?_ ?_;(first|exact PV.Ak rfl|(simp [PV.under,AQ.under];done)))|refine Ae.cons trivial rfl (.of_eq (Ar (by simp<;>omega))) ?_)
  ·repeat (first|exact Aj.nil|(refine Aj.eq rfl (Ac rfl) ?_ ?_;(first|exact HB.Ak rfl|exact AQ.Ah _ _|(simp [HB.under,AQ.under,PV.under];done)))|(refine Aj.cons (Ac rfl) ?_ rfl ?_ ?_;(first|exact trivial|exact AQ.Ah _ _|(simp [HB.under,AQ.under,PV.under]));(first|exact Bj.refl _|exact Bj.vec (Bh.refl _) (by simp))))
  ·intro k hk
   have c1:=XG m cols k
   have c2:=mg m cols (j:=k) (by omega)
   have c3:=dU m cols (j:=k) (by omega)
   have c4:=Yg k hk
   by_cases hc:(m:Int)≤gi cols k
   ·have c5:KO m (gi cols k)=-1:=if_pos hc
    rw [c5] at c3
    repeat' (first|apply Ad.AA|apply Ad.region|apply Ad.Aq|apply Ad.Ai|apply AO.normal|apply AL.normal|apply Ag.nil|apply Ag.one|(apply Aa.Dw;rfl;rfl;(first|omega|(simp only [List.length_set]<;>omega));exact congrArg (fun b=>some (FV.int .i64 b)) (c2))|(apply Aa.Ef (y:=(-1:Int));rfl;rfl;rfl;trivial;(first|rfl|(refine congrArg (fun t=>[PV.p (FV.int _ t)]) ?_;first|omega|(simp only [Int.natCast_add,Int.natCast_mul,Int.natCast_ediv,Int.natCast_emod]<;>omega)));rfl;rfl;decide;(first|omega|(simp only [List.length_set]<;>omega)))|(apply Aa.assign;rfl)|(apply Aa.move;rfl)|(apply Aa.Bv;rfl;rfl;omega)|(apply Aa.int;rfl;rfl;rfl)|(apply Aa.load;rfl;rfl)|(apply Aa.AU;rfl;rfl;rfl)|(apply Aa.Dn;rfl;rfl;rfl;rfl;omega)|(apply Ad.Af;rfl)|(apply Ad.A8;rfl)|(intro _;try (exfalso;omega)))
    all_goals try (exfalso;omega)
    refine Aw.normal ⟨by first|omega|decide,?_,?_⟩
    ·try (rw [← c3])
     repeat (first|exact Ae.nil|refine Ae.same trivial rfl ?_|refine Ae.same (Ac rfl) rfl ?_|refine Ae.same ⟨trivial,Ac rfl,trivial⟩ rfl ?_|refine Ae.same ⟨trivial,Ac rfl,Ac rfl,trivial⟩ rfl ?_|refine Ae.same ⟨trivial,Ac rfl,Ac rfl,Ac rfl,trivial⟩ rfl ?_|refine Ae.same ⟨trivial,trivial⟩ rfl ?_|refine Ae.cons trivial rfl (.of_eq (Ar (by simp<;>omega))) ?_)
    ·rw [← c3]
     repeat (first|exact Aj.nil|(refine Aj.cons (Ac rfl) ?_ rfl ?_ ?_;(first|exact HB.Ak rfl|exact AQ.Ah _ _|(simp [HB.under,AQ.under,PV.under]));(first|exact Bj.refl _|exact Bj.vec (Bh.refl _) (by simp))))
   ·have c5:KO m (gi cols k)=gi cols k:=if_neg hc
    have c6:=pW m cols (j:=k) (by omega) c5
    repeat' (first|apply Ad.AA|apply Ad.region|apply Ad.Aq|apply Ad.Ai|apply AO.normal|apply AL.normal|apply Ad.skip|apply Ag.nil|apply Ag.one|(apply Aa.Dw;rfl;rfl;(first|omega|(simp only [List.length_set]<;>omega));exact congrArg (fun b=>some (FV.int .i64 b)) (c2))|(apply Aa.assign;rfl)|(apply Aa.move;rfl)|(apply Aa.Bv;rfl;rfl;omega)|(apply Aa.int;rfl;rfl;rfl)|(apply Aa.Dn;rfl;rfl;rfl;rfl;omega)|(apply Ad.Af;rfl)|(apply Ad.A8;rfl)|(intro _;try (exfalso;omega)))
    all_goals try (exfalso;omega)
    refine Aw.normal ⟨by first|omega|decide,?_,?_⟩
    ·try (rw [c6])
     repeat (first|exact Ae.nil|refine Ae.same trivial rfl ?_|refine Ae.same (Ac rfl) rfl ?_|refine Ae.same ⟨trivial,Ac rfl,trivial⟩ rfl ?_|refine Ae.same ⟨trivial,Ac rfl,Ac rfl,trivial⟩ rfl ?_|refine Ae.same ⟨trivial,Ac rfl,Ac rfl,Ac rfl,trivial⟩ rfl ?_|refine Ae.same ⟨trivial,trivial⟩ rfl ?_|refine Ae.cons trivial rfl (.of_eq (Ar (by simp<;>omega))) ?_)
    ·rw [c6]
     repeat (first|exact Aj.nil|(refine Aj.cons (Ac rfl) ?_ rfl ?_ ?_;(first|exact HB.Ak rfl|exact AQ.Ah _ _|(simp [HB.under,AQ.under,PV.under]));(first|exact Bj.refl _|exact Bj.vec (Bh.refl _) (by simp))))
  ·have c7:=uJ m cols
   rw [lC] at c7
   rw [c7]
   have f1:(cols.map (KO m)).length=l.length:=by rw [List.length_map];exact lC
   have f2:=hs.lU
   have f3:((G6 (DC l skip l.length) l.length (m+(l.length+1))).take m).length=m:=by rw [List.length_take,lV];omega
   generalize cols.map (KO m)=C at *
   generalize (G6 (DC l skip l.length) l.length (m+(l.length+1))).take m=V at *
   have hfin:∀ (t:Int) (U:List Int),U.length=l.length→PV.EX [.p (.agg [.lst 3 (cells C) l.length,.int .i64 t,.lst 3 (cells U) l.length,.lst 3 (cells V) m]),.p (.int .i64 0)]=PV.EX [.p (.agg (Enc.enc (⟨C,t,U,V⟩:Qw))),.p (.int .i64 0)]:=fun t U f2=>by
    show _=PV.EX [.p (.agg [.lst 3 (cells C) C.length,.int .i64 t,.lst 3 (cells U) U.length,.lst 3 (cells V) V.length]),.p (.int .i64 0)]
    rw [f1,f2,f3]
   repeat' (first|(refine Ad.at 20 ?_;refine Ad.ghost (Ba.Di 8 0 rfl rfl rfl) ?_;first|apply Ad.AA|apply Ad.BJ)|apply Ad.AA|apply Ad.AZ|apply AO.normal|apply AL.exit|apply Aw.exit|apply Ad.ret|apply Ag.nil|apply Ag.one|(apply Aa.assign;rfl)|(apply Aa.int;rfl;rfl;rfl)|(apply Aa.load;rfl;rfl)|(apply Aa.Bo;rfl;rfl;rfl;trivial;rfl;rfl;exact Ac rfl;exact le_dec rfl)|(apply Ad.Af;rfl)|(intro _;try (exfalso;omega)))
   all_goals try (exfalso;omega)
   all_goals (refine Done.ret rfl (.refl _) (by first|exact trivial|exact ⟨trivial,trivial,trivial⟩|exact ⟨trivial,trivial,trivial,trivial⟩) Aj.nil (Nat.zero_le _) (Nat.le_refl _) ⟨?_,rfl,rfl⟩;exact hfin _ _ f2)
theorem dH (e:TypeId):AY env 72 [.lst e [] 0] (.p (.agg (Enc.enc (⟨[],0,[],[]⟩:Qw)))):=by
 have Yg:AY env 69 [.lst e [] 0] (.p (.int .i64 0)):=MH e [] (by decide)
 refine AY.enter (AB (by decide)) Tryz.func72 rfl (by kernel_rfl) (by simp [Tryz.ntmps72]) ?_
 repeat' (first|apply Ad.assoc|apply Ad.AA|apply Ad.BJ|apply Ad.Ai|apply Ag.nil|apply Ap.nil|apply Ag.one|(apply Ap.bar;decide +kernel)|apply Ap.quiet|(apply Aa.fn;rfl;rfl;exact Yg;intro _;rfl)|(apply Aa.Es 1 (0:Int);rfl;rfl;rfl;rfl;rfl;rfl;rfl;decide;decide;decide;rfl)|(apply Aa.assign;rfl)|(apply Aa.move;rfl)|(apply Aa.Bv;rfl;rfl;omega)|(apply Aa.BI;rfl;rfl)|(apply Aa.alloc;rfl))
 all_goals try (exfalso;omega)
 apply Ad.Fe (0) [(2,_),(3,_),(4,_),(5,_),(6,_),(7,_)] [(0,_),(1,_),(2,_),(3,_)] (fun k r=>(9,.p (.int .i64 ((k+1:Nat):Int)))::r) (fun k r=>r) 5
 ·first|omega|decide
 ·first|omega|decide
 ·repeat (first|exact Ae.nil|(refine Ae.eq rfl ?_ ?_;(first|exact PV.Ak rfl|(simp [PV.under,AQ.under];done)))|refine Ae.cons trivial rfl (.of_eq (Ar (by simp<;>omega))) ?_)
 ·repeat (first|exact Aj.nil|(refine Aj.eq rfl (Ac rfl) ?_ ?_;(first|exact HB.Ak rfl|exact AQ.Ah _ _|(simp [HB.under,AQ.under,PV.under];done)))|(refine Aj.cons (Ac rfl) ?_ rfl ?_ ?_;(first|exact trivial|exact AQ.Ah _ _|(simp [HB.under,AQ.under,PV.under]));(first|exact Bj.refl _|exact Bj.vec (Bh.refl _) (by simp))))
 ·intro k hk;omega
 ·repeat' (first|(refine Ad.at 34 ?_;refine Ad.ghost (Ba.freeze 5 rfl rfl) ?_;first|apply Ad.AA|apply Ad.BJ)|(refine Ap.atIdx 4 ?_;refine Ap.ghost (Ba.freeze 6 rfl rfl) ?_)|apply Ad.assoc|apply Ad.AA|apply Ad.AZ|apply Ad.Ai|apply AO.normal|apply AL.exit|apply Aw.exit|apply Ag.nil|apply Ap.nil|apply Ag.one|(apply Ap.bar;decide +kernel)|apply Ap.quiet|(apply Aa.Es 0 (0:Int);rfl;rfl;rfl;rfl;rfl;rfl;rfl;decide;decide;decide;rfl)|(apply Aa.sliceFrom (l:=[(0:Int)]) (a:=1);rfl;rfl;rfl;rfl;rfl;rfl;decide)|(apply Aa.assign;rfl)|(apply Aa.move;rfl)|(apply Aa.int;rfl;rfl;rfl)|(apply Aa.alloc;rfl)|(apply Aa.Bo;rfl;rfl;rfl;trivial;rfl;rfl;exact Ac rfl;exact le_dec rfl)|(apply Aa.build;rfl;rfl;rfl;rfl;rfl)|(apply Ad.Au;rfl))
  all_goals try (exfalso;omega)
  apply Ad.Fe (0) [(2,_),(3,_),(4,_),(7,_),(19,_)] [(0,_),(3,_),(5,_),(6,_)] (fun k r=>(20,.p (.int .i64 ((k+1:Nat):Int)))::r) (fun k r=>r) 7
  ·first|omega|decide
  ·first|omega|decide
  ·repeat (first|exact Ae.nil|(refine Ae.eq rfl ?_ ?_;(first|exact PV.Ak rfl|(simp [PV.under,AQ.under];done)))|refine Ae.cons trivial rfl (.of_eq (Ar (by simp<;>omega))) ?_)
  ·repeat (first|exact Aj.nil|(refine Aj.eq rfl (Ac rfl) ?_ ?_;(first|exact HB.Ak rfl|exact AQ.Ah _ _|(simp [HB.under,AQ.under,PV.under];done)))|(refine Aj.cons (Ac rfl) ?_ rfl ?_ ?_;(first|exact trivial|exact AQ.Ah _ _|(simp [HB.under,AQ.under,PV.under]));(first|exact Bj.refl _|exact Bj.vec (Bh.refl _) (by simp))))
  ·intro k hk;omega
  ·repeat' (first|(refine Ad.at 42 ?_;refine Ad.ghost (Ba.Di 6 0 rfl rfl rfl) ?_;first|apply Ad.AA|apply Ad.BJ)|apply Ad.assoc|apply Ad.AA|apply Ad.AZ|apply AO.normal|apply AL.exit|apply Aw.exit|apply Ad.ret|apply Ag.nil|apply Ag.one|(apply Aa.move;rfl)|(apply Aa.int;rfl;rfl;rfl)|(apply Aa.load;rfl;rfl)|(apply Aa.Bo;rfl;rfl;rfl;trivial;rfl;rfl;exact Ac rfl;exact le_dec rfl)|(apply Ad.Au;rfl))
   all_goals first|(exfalso;omega)|(refine Done.ret rfl (.refl _) (by first|exact trivial|exact ⟨trivial,trivial,trivial⟩|exact ⟨trivial,trivial,trivial,trivial⟩) Aj.nil (Nat.zero_le _) (Nat.le_refl _) ⟨?_,rfl,rfl⟩;try rfl)
theorem X9 {skip:Int} (e:TypeId) (hk:0≤skip∧skip≤1000000000):AY env 45 [.lst e (cells ([]:List (List Int))) 0,.int .i64 skip] (.EX [.p (.agg (Enc.enc (⟨[],0,[],[]⟩:Qw))),.p (.int .i64 0)]):=by
 have hM:Qp [] 0 0 skip 1000000000:=⟨⟨rfl,fun r hr=>by omega,fun r k hr=>by omega,hk,by decide⟩,by omega,by omega,by decide,fun _=>rfl⟩
 have hck:=LU e hM
 have hcl:=Ov e hM
 have hs:=dH 52
 refine AY.enter (AB (by decide)) Tryz.func45 rfl (by kernel_rfl) (by simp [Tryz.ntmps45]) ?_
 repeat' (first|apply Ad.assoc|apply Ad.AA|apply Ad.Aq|apply Ad.Ai|apply Ag.nil|apply Ag.one|(apply Aa.fn;rfl;rfl;exact hck;intro _;rfl)|(apply Aa.fn;rfl;rfl;exact hcl;intro _;rfl)|(apply Aa.makeSlice (n:=0);rfl;rfl;rfl;rfl;rfl;decide;decide)|(apply Aa.assign;rfl)|(apply Aa.move;rfl)|(apply Aa.int;rfl;rfl;rfl)|(apply Aa.BI;rfl;rfl)|(apply Aa.alloc;rfl)|(apply Ad.Au;rfl))
 all_goals try (exfalso;omega)
 all_goals try contradiction
 apply Ad.Fe (0) [(0,_),(1,_),(4,_),(7,_),(8,_),(26,_),(27,_)] [(0,_),(1,_)] (fun k r=>(28,.p (.int .i64 (k:Int)))::r) (fun k r=>r) 2
 ·first|omega|decide
 ·first|omega|decide
 ·repeat (first|exact Ae.nil|(refine Ae.eq rfl ?_ ?_;(first|exact PV.Ak rfl|(simp [PV.under,AQ.under];done)))|refine Ae.cons trivial rfl (.of_eq (Ar (by simp<;>omega))) ?_)
 ·repeat (first|exact Aj.nil|(refine Aj.eq rfl (Ac rfl) ?_ ?_;(first|exact HB.Ak rfl|exact AQ.Ah _ _|(simp [HB.under,AQ.under,PV.under];done)))|(refine Aj.cons (Ac rfl) ?_ rfl ?_ ?_;(first|exact trivial|exact AQ.Ah _ _|(simp [HB.under,AQ.under,PV.under]));(first|exact Bj.refl _|exact Bj.vec (Bh.refl _) (by simp))))
 ·intro k hk;omega
 ·repeat' (first|(refine Ag.IX 47 ?_;refine Ag.ghost (Ba.freeze 46 rfl rfl) ?_)|apply Ad.assoc|apply Ad.AA|apply Ad.Aq|apply Ad.AZ|apply Ad.Ai|apply AO.normal|apply AL.exit|apply Aw.exit|apply Ag.nil|apply Ag.one|(apply Aa.fn;rfl;rfl;exact hs;intro _;rfl)|(apply Aa.move;rfl)|(apply Aa.int;rfl;rfl;rfl)|(apply Aa.load;rfl;rfl)|(apply Aa.BI;rfl;rfl)|(apply Aa.AU;rfl;rfl;rfl)|(apply Aa.alloc;rfl)|(apply Aa.Bo;rfl;rfl;rfl;trivial;rfl;rfl;exact Ac rfl;exact le_dec rfl)|(apply Ad.Au;rfl))
  all_goals try (exfalso;omega)
  all_goals try contradiction
  apply Ad.Fe (0) [(4,_),(7,_),(11,_),(57,_),(58,_)] [(0,_),(2,_)] (fun k r=>(59,.p (.int .i64 (k:Int)))::r) (fun k r=>r) 3
  ·first|omega|decide
  ·first|omega|decide
  ·repeat (first|exact Ae.nil|(refine Ae.eq rfl ?_ ?_;(first|exact PV.Ak rfl|(simp [PV.under,AQ.under];done)))|refine Ae.cons trivial rfl (.of_eq (Ar (by simp<;>omega))) ?_)
  ·repeat (first|exact Aj.nil|(refine Aj.eq rfl (Ac rfl) ?_ ?_;(first|exact HB.Ak rfl|exact AQ.Ah _ _|(simp [HB.under,AQ.under,PV.under];done)))|(refine Aj.cons (Ac rfl) ?_ rfl ?_ ?_;(first|exact trivial|exact AQ.Ah _ _|(simp [HB.under,AQ.under,PV.under]));(first|exact Bj.refl _|exact Bj.vec (Bh.refl _) (by simp))))
  ·intro k hk;omega
  ·repeat' (first|apply Ad.AA|apply Ad.AZ|apply AO.normal|apply AL.exit|apply Aw.exit|apply Ad.ret|apply Ag.nil|apply Ag.one|(apply Aa.assign;rfl)|(apply Aa.int;rfl;rfl;rfl)|(apply Aa.load;rfl;rfl)|(apply Aa.Bo;rfl;rfl;rfl;trivial;rfl;rfl;exact Ac rfl;exact le_dec rfl)|(apply Ad.Au;rfl))
   all_goals first|(exfalso;omega)|(refine Done.ret rfl (.refl _) (by first|exact trivial|exact ⟨trivial,trivial,trivial⟩|exact ⟨trivial,trivial,trivial,trivial⟩) Aj.nil (Nat.zero_le _) (Nat.le_refl _) ⟨?_,rfl,rfl⟩;try rfl)
end Go.Proofs.YtdabojnmoejilaaGreatDoor
namespace Go.Hun
open Go Go.Am Go.Vm
def EZ (row:List Int) (g:Nat→Int) (t:Nat) (b:Int):Nat→Int
 |0=>b
 |k+1=>if t.testBit k then EZ row g t b k else min (EZ row g t b k) (gi row k+g (t ||| 2 ^ k))
def CS (l:List (List Int)) (skip:Int) (m n:Nat):Nat→Nat→Int
 |0,_=>0
 |r+1,t=>EZ (gi l (n-(r+1))) (CS l skip m n r) t (skip+CS l skip m n r t) m
theorem Vx (row:List Int) (g:Nat→Int) (t:Nat) (b:Int):∀ k,EZ row g t b k≤b
 |0=>Int.le_refl _
 |k+1=>by
  have ih:=Vx row g t b k
  unfold EZ
  split<;>omega
theorem aX (row:List Int) (g:Nat→Int) (t:Nat) (b:Int) {j:Nat} (hj:t.testBit j=false):∀ k,j<k→EZ row g t b k≤gi row j+g (t ||| 2 ^ j)
 |k+1,h=>by
  unfold EZ
  rcases Nat.lt_or_ge j k with h1|h1
  ·have ih:=aX row g t b hj k h1
   split<;>omega
  ·obtain rfl:j=k:=by omega
   rw [if_neg (by rw [hj];decide)]
   omega
theorem Wy (row:List Int) (g:Nat→Int) (t:Nat) (b:Int):∀ k,EZ row g t b k=b∨∃ j,j<k∧t.testBit j=false∧EZ row g t b k=gi row j+g (t ||| 2 ^ j)
 |0=>.inl rfl
 |k+1=>by
  unfold EZ
  cases hk:t.testBit k
  ·rw [if_neg (by decide)]
   by_cases h:EZ row g t b k≤gi row k+g (t ||| 2 ^ k)
   ·rw [show min (EZ row g t b k) (gi row k+g (t ||| 2 ^ k))=EZ row g t b k by omega]
    rcases Wy row g t b k with h1|⟨j,h1,h2,h3⟩
    ·exact .inl h1
    ·exact .inr ⟨j,by omega,h2,h3⟩
   ·exact .inr ⟨k,by omega,hk,by omega⟩
  ·rw [if_pos rfl]
   rcases Wy row g t b k with h1|⟨j,h1,h2,h3⟩
   ·exact .inl h1
   ·exact .inr ⟨j,by omega,h2,h3⟩
def Jj (f:Nat→Int) (n:Nat):Nat→Int
 |0=>0
 |r+1=>f (n-(r+1))+Jj f n r
theorem Uc (f:Nat→Int) (n:Nat):∀ r,r≤n→Dv f (n-r)+Jj f n r=Dv f n
 |0,_=>by simp [Jj]
 |r+1,h=>by
  have ih:=Uc f n r (by omega)
  have e:n-r=(n-(r+1))+1:=by omega
  rw [e] at ih
  simp only [Dv] at ih
  simp only [Jj]
  omega
theorem Y7 (f:Nat→Int) (n:Nat):Jj f n n=Dv f n:=by
 have:=Uc f n n (Nat.le_refl _)
 rw [Nat.sub_self] at this
 simp only [Dv] at this
 omega
theorem N8 {f g:Nat→Int} {n:Nat}:∀ r,r≤n→(∀ q,n-r≤q→q<n→f q=g q)→Jj f n r=Jj g n r
 |0,_,_=>rfl
 |r+1,h,h1=>by
  simp only [Jj]
  rw [h1 _ (Nat.le_refl _) (by omega),N8 r (by omega) fun q h2 h3=>h1 q (by omega) h3]
structure a0v (n m r t:Nat) (cols:Nat→Int):Prop where
 rng:∀ q,n-r≤q→q<n→-1≤cols q∧cols q<m
 inj:∀ p q,n-r≤p→p<n→n-r≤q→q<n→0≤cols p→cols p=cols q→p=q
 free:∀ q,n-r≤q→q<n→0≤cols q→t.testBit (cols q).toNat=false
theorem Xf {t j k:Nat}:(t ||| 2 ^ j).testBit k=(t.testBit k||decide (j=k)):=by
 rw [Nat.testBit_or,Nat.testBit_two_pow]
theorem TL (l:List (List Int)) (skip:Int) {m n:Nat} {cols:Nat→Int}:∀ r t,r≤n→a0v n m r t cols→CS l skip m n r t≤Jj (GH l skip cols) n r
 |0,t,_,_=>Int.le_refl _
 |r+1,t,hr,h=>by
  obtain ⟨h1,h2,h3⟩:=h
  have a:=h1 (n-(r+1)) (Nat.le_refl _) (by omega)
  simp only [CS,Jj]
  by_cases hc:cols (n-(r+1))<0
  ·have ih:=TL l skip r t (by omega) ⟨fun q q1 q2=>h1 q (by omega) q2,fun p q p1 p2 q1 q2=>h2 p q (by omega) p2 (by omega) q2,fun q q1 q2=>h3 q (by omega) q2⟩
   have:=Vx (gi l (n-(r+1))) (CS l skip m n r) t (skip+CS l skip m n r t) m
   have e:GH l skip cols (n-(r+1))=skip:=if_pos hc
   omega
  ·have hf:=h3 (n-(r+1)) (Nat.le_refl _) (by omega) (by omega)
   have ih:=TL l skip (cols:=cols) r (t ||| 2 ^ (cols (n-(r+1))).toNat) (by omega) ⟨fun q q1 q2=>h1 q (by omega) q2,fun p q p1 p2 q1 q2=>h2 p q (by omega) p2 (by omega) q2,fun q q1 q2 q3=>by
    rw [Xf,h3 q (by omega) q2 q3,Bool.false_or,decide_eq_false]
    intro e
    have:=h2 q (n-(r+1)) (by omega) q2 (Nat.le_refl _) (by omega) q3 (by omega)
    omega⟩
   have:=aX (gi l (n-(r+1))) (CS l skip m n r) t (skip+CS l skip m n r t) hf m (by omega)
   have e:GH l skip cols (n-(r+1))=gi (gi l (n-(r+1))) (cols (n-(r+1))).toNat:=if_neg hc
   omega
theorem S9 (l:List (List Int)) (skip:Int) {m n:Nat}:∀ r t,r≤n→∃ cols,a0v n m r t cols∧CS l skip m n r t=Jj (GH l skip cols) n r
 |0,t,_=>⟨fun _=>-1,⟨fun q h1 h2=>by omega,fun p q h1 h2=>by omega,fun q h1 h2=>by omega⟩,rfl⟩
 |r+1,t,hr=>by
  rcases Wy (gi l (n-(r+1))) (CS l skip m n r) t (skip+CS l skip m n r t) m with h|⟨j,j1,j2,h⟩
  ·obtain ⟨cols,⟨h1,h2,h3⟩,h4⟩:=S9 l skip (m:=m) (n:=n) r t (by omega)
   have eo:∀ q,q≠n-(r+1)→(if q=n-(r+1) then (-1:Int) else cols q)=cols q:=fun q hq=>if_neg hq
   refine ⟨fun q=>if q=n-(r+1) then -1 else cols q,⟨fun q q1 q2=>?_,fun p q p1 p2 q1 q2 q3 q4=>?_,fun q q1 q2 q3=>?_⟩,?_⟩
   ·by_cases e:q=n-(r+1)
    ·simp only [if_pos e];omega
    ·simp only [if_neg e];exact h1 q (by omega) q2
   ·by_cases e:p=n-(r+1)
    ·simp only [if_pos e] at q3;omega
    ·simp only [if_neg e] at q3 q4
     by_cases e':q=n-(r+1)
     ·simp only [if_pos e'] at q4;omega
     ·simp only [if_neg e'] at q4
      exact h2 p q (by omega) p2 (by omega) q2 q3 q4
   ·by_cases e:q=n-(r+1)
    ·simp only [if_pos e] at q3;omega
    ·simp only [if_neg e] at q3 ⊢
     exact h3 q (by omega) q2 q3
   ·simp only [CS,Jj]
    rw [h,h4]
    have e1:GH l skip (fun q=>if q=n-(r+1) then -1 else cols q) (n-(r+1))=skip:=by unfold GH;simp
    rw [e1]
    congr 1
    refine N8 r (by omega) fun q q1 q2=>?_
    unfold GH
    simp only [if_neg (show q≠n-(r+1) by omega)]
  ·obtain ⟨cols,⟨h1,h2,h3⟩,h4⟩:=S9 l skip (m:=m) (n:=n) r (t ||| 2 ^ j) (by omega)
   refine ⟨fun q=>if q=n-(r+1) then (j:Int) else cols q,⟨fun q q1 q2=>?_,fun p q p1 p2 q1 q2 q3 q4=>?_,fun q q1 q2 q3=>?_⟩,?_⟩
   ·by_cases e:q=n-(r+1)
    ·simp only [if_pos e];omega
    ·simp only [if_neg e];exact h1 q (by omega) q2
   ·by_cases e:p=n-(r+1)
    ·by_cases e':q=n-(r+1)
     ·omega
     ·simp only [if_pos e,if_neg e'] at q3 q4
      have:=h3 q (by omega) q2 (by omega)
      rw [Xf,← q4] at this
      simp at this
    ·simp only [if_neg e] at q3 q4
     by_cases e':q=n-(r+1)
     ·simp only [if_pos e'] at q4
      have:=h3 p (by omega) p2 q3
      rw [Xf,q4] at this
      simp at this
     ·simp only [if_neg e'] at q4
      exact h2 p q (by omega) p2 (by omega) q2 q3 q4
   ·by_cases e:q=n-(r+1)
    ·simp only [if_pos e] at q3 ⊢
     rw [Int.toNat_natCast];exact j2
    ·simp only [if_neg e] at q3 ⊢
     have:=h3 q (by omega) q2 q3
     rw [Xf] at this
     exact (Bool.or_eq_false_iff.1 this).1
   ·simp only [CS,Jj]
    rw [h,h4]
    have e1:GH l skip (fun q=>if q=n-(r+1) then (j:Int) else cols q) (n-(r+1))=gi (gi l (n-(r+1))) j:=by
     unfold GH;simp only [if_true];rw [if_neg (by omega),Int.toNat_natCast]
    rw [e1]
    congr 1
    refine N8 r (by omega) fun q q1 q2=>?_
    unfold GH
    simp only [if_neg (show q≠n-(r+1) by omega)]
theorem pY {l:List (List Int)} {n m:Nat} {skip B:Int} {cols U V:List Int} {total:Int} (h:a5k l n m skip B cols U V total):CS l skip m n n 0=total:=by
 have h1:=TL l skip (m:=m) (cols:=fun r=>gi cols r) n 0 (Nat.le_refl _) ⟨fun q _ q2=>h.part.rng q q2,fun p q _ p2 _ q2=>h.part.inj p q p2 q2,fun q _ _ _=>Nat.zero_testBit _⟩
 obtain ⟨c,⟨c1,c2,c3⟩,c4⟩:=S9 l skip (m:=m) (n:=n) n 0 (Nat.le_refl _)
 have h2:=weak h.pot (cols:=c) ⟨fun r hr=>c1 r (by omega) hr,fun r q hr hq=>c2 r q (by omega) hr (by omega) hq⟩
 rw [Y7] at h1 c4
 have h3:=h.tot
 have h4:=h.yQ
 omega
end Go.Hun
namespace Go.Proofs.YtdabojnmoejilaaGreatDoor
open Go Go.Am Go.Vm Go.Hun
attribute [local irreducible] Aa Ag Ap Ad BA AY CJ AO AL Aw Vm.Done Dc Bq ZB
theorem oh {L:Vm.Frame} {H:Vm.Heap} {nx:Nat} {Q:PV→Vm.Heap→Nat→Prop} {dst:Option Tmp} {ty:TypeId} {pos:String} {af:Array Edge} {gd:Option (Nat×Bool)} {fo:Operand} {args:Array Operand} {aT:Array TypeId} {fs cs xs:List PV} {c:Code}
 (hf:Bz env.Γ L fo=some (.clo 103 fs cs)) (ha:evs env.Γ L args.toList=some xs) (hb:Tryz.f103.body=some c) (hn:(fs++xs++cs).length≤Tryz.f103.ntmps)
 (h:Ad env nx c (CP 0 (fs++xs++cs)) H nx (Bq env.P Tryz.f103.results.toList Q)):Aa env true ⟨dst,.call { callee:=.value fo,args:=args,argTypes:=aT },ty,pos,af,gd⟩ L H nx Q:=by
 have h0:(match Tryz.f103.body with|some c=>H6 env.G Tryz.f103 c|none=>false)=true:=by kernel_rfl
 rw [hb] at h0
 exact Aa.inline rfl hf ha (AB (by decide)) Tryz.func103 hb h0 hn h
theorem mO {L:Vm.Frame} {H:Vm.Heap} {nx:Nat} {Q:PV→Vm.Heap→Nat→Prop} {dst:Option Tmp} {ty:TypeId} {pos:String} {af:Array Edge} {gd:Option (Nat×Bool)} {fo:Operand} {args:Array Operand} {aT:Array TypeId} {fs cs xs:List PV} {c:Code}
 (hf:Bz env.Γ L fo=some (.clo 76 fs cs)) (ha:evs env.Γ L args.toList=some xs) (hb:Tryz.f76.body=some c) (hn:(fs++xs++cs).length≤Tryz.f76.ntmps)
 (h:Ad env nx c (CP 0 (fs++xs++cs)) H nx (Bq env.P Tryz.f76.results.toList Q)):Aa env true ⟨dst,.call { callee:=.value fo,args:=args,argTypes:=aT },ty,pos,af,gd⟩ L H nx Q:=by
 have h0:(match Tryz.f76.body with|some c=>H6 env.G Tryz.f76 c|none=>false)=true:=by kernel_rfl
 rw [hb] at h0
 exact Aa.inline rfl hf ha (AB (by decide)) Tryz.func76 hb h0 hn h
def Ye (l:List (List Int)) (m:Nat) (skip:Int) (cols:List Int):Nat→Nat→List Bool→Int→Int×Int
 |0,_,_,sum=>(sum,0)
 |r+1,k,used,sum =>
  if gi cols k< -1∨gi cols k≥m then (0,3)
  else if gi cols k<0 then Ye l m skip cols r (k+1) used (sum+skip)
  else if gi used (gi cols k).toNat=true then (0,9)
  else Ye l m skip cols r (k+1) (used.set (gi cols k).toNat true) (sum+gi (gi l k) (gi cols k).toNat)
def aN (l:List (List Int)) (m:Nat) (skip:Int) (cols:List Int):Int×Int:=if cols.length≠l.length then (0,5) else Ye l m skip cols l.length 0 (List.replicate m false) 0
theorem jm {l:List (List Int)} {m:Nat} {skip B:Int} (e:TypeId) (h:Qp l l.length m skip B) (cols:List Int) :
 AY env 47 [.lst e (cells l) l.length,.lst 3 (cells cols) cols.length,.int .i64 (-1),.int .i64 skip] (.EX [.p (.int .i64 (aN l m skip cols).1),.p (.int .i64 (aN l m skip cols).2)]):=by
 have hcl:=Ov e h
 have h2:=h.n60
 have h3:=h.yR
 have h4:=h.B9
 have hrow:=h.PE.row
 have dF:=h.PE.rng
 have hsk:=h.PE.skip
 unfold aN
 refine AY.enter (AB (by decide)) Tryz.func47 rfl (by kernel_rfl) (by simp [Tryz.ntmps47]) ?_
 by_cases hlen:cols.length=l.length
 case neg =>
  rw [if_pos hlen]
  repeat' (first|apply Ad.assoc|apply Ad.AA|apply Ad.BO|apply Ag.nil|apply Ag.one|(apply Aa.assign;rfl)|(apply Aa.move;rfl)|(apply Aa.int;rfl;rfl;rfl)|(apply Aa.BI;rfl;rfl)|(apply Ad.Af;rfl)|(intro _;try (exfalso;omega)))
  all_goals first|(exfalso;omega)|contradiction|(refine Done.ret rfl (.refl _) (by first|exact trivial|exact ⟨trivial,trivial,trivial⟩|exact ⟨trivial,trivial,trivial,trivial⟩) Aj.nil (Nat.zero_le _) (Nat.le_refl _) ⟨?_,rfl,rfl⟩;try rfl)
 rw [if_neg (fun x=>x hlen)]
 repeat' (first|apply Ad.assoc|apply Ad.AA|apply Ad.Aq|apply Ad.Ai|apply Ag.nil|apply Ag.one|(apply Aa.fn;rfl;rfl;exact hcl;intro _;rfl)|(apply Aa.Es m false;rfl;rfl;rfl;rfl;rfl;rfl;rfl;omega;decide;decide;rfl)|(apply Aa.assign;rfl)|(apply Aa.move;rfl)|(apply Aa.int;rfl;rfl;rfl)|(apply Aa.BI;rfl;rfl)|(apply Ad.Af;rfl)|(intro _;try (exfalso;omega)))
 all_goals try (exfalso;omega)
 obtain ⟨R,hR⟩:∃ R,R=Ye l m skip cols l.length 0 (List.replicate m false) 0:=⟨_,rfl⟩
 rw [← hR]
 refine Ad.Eb (fun s:Nat×List Bool×Int=>[(0,.p (.lst e (cells l) l.length)),(2,.p (.int .i64 (-1))),(3,.p (.int .i64 skip)),(10,.p (.int .i64 s.2.2)),(11,.vec 0 m 0 m),(22,.p (.lst 3 (cells cols) cols.length)),(23,.p (.int .i64 (cols.length:Int))),(24,.p (.int .i64 (s.1:Int)))]) (fun s=>[(0,.vec 4 (cells s.2.1) m false)]) 1
  (fun s=>s.1≤l.length∧s.2.1.length=m∧0≤s.2.2∧s.2.2≤s.1*B∧Ye l m skip cols (l.length-s.1) s.1 s.2.1 s.2.2=R) (fun s=>l.length-s.1) (0,List.replicate m false,0) (by omega) ⟨Nat.zero_le _,by simp,by simp,by simp,hR.symm⟩ ⟨by omega,?_,?_⟩ ?_
 ·repeat (first|exact Ae.nil|refine Ae.same trivial rfl ?_|refine Ae.same (Ac rfl) rfl ?_|refine Ae.same ⟨trivial,Ac rfl,Ac rfl,Ac rfl,trivial⟩ rfl ?_|refine Ae.same ⟨trivial,Ac rfl,Ac rfl,trivial⟩ rfl ?_|refine Ae.same ⟨trivial,trivial⟩ rfl ?_|refine Ae.cons trivial rfl (.of_eq (Ar (by simp<;>omega))) ?_)
 ·repeat (first|exact Aj.nil|(refine Aj.cons (Ac rfl) ?_ rfl ?_ ?_;(first|exact HB.Ak rfl|exact AQ.Ah _ _|(simp [HB.under,AQ.under,PV.under]));(first|exact Bj.refl _|exact Bj.vec (Bh.refl _) (by simp))))
 rintro ⟨k,used,sum⟩ ⟨i1,i2,i3,i4,i5⟩
 simp only at i1 i2 i3 i4 i5 ⊢
 have hkB:(k:Int)*B≤60*1000000000:=Int.mul_le_mul (by omega) h4 (by omega) (by omega)
 by_cases hk:k<l.length
 ·obtain ⟨r,hr⟩:∃ r,l.length-k=r+1:=⟨l.length-k-1,by omega⟩
  rw [hr] at i5
  have hr':l.length-(k+1)=r:=by omega
  have b1b:((k+1:Nat):Int)*B=(k:Int)*B+B:=by rw [Int.natCast_add,Int.add_mul];simp
  unfold Ye at i5
  by_cases c1:gi cols k< -1∨gi cols k≥m
  ·rw [if_pos c1] at i5
   rw [← i5]
   repeat' (first|apply Ad.AA|apply Ad.Aq|apply Ad.Ai|apply AO.ret|apply AL.ret|apply Aw.ret|apply Ad.ret|apply Ag.nil|apply Ag.one|(apply Ag.take;rfl;rfl)|(apply Ag.drop;rfl;rfl;rfl)|(apply Ag.guard;rfl;rfl)|(apply Aa.assign;rfl)|(apply Aa.move;rfl)|(apply Aa.int;rfl;rfl;rfl)|(apply Aa.AP;rfl;rfl;rfl;omega;rfl)|(apply Aa.load;rfl;rfl)|(apply Aa.BH;rfl;rfl)|(apply Aa.AV;rfl;rfl)|(apply Aa.lenV;rfl;rfl;rfl)|(apply Ad.Af;rfl)|(apply Ad.cond_true;rfl)|(apply Ad.A8;rfl)|(intro _;try (exfalso;omega)))
   all_goals first|(exfalso;omega)|contradiction|(refine Done.ret rfl (.refl _) (by first|exact trivial|exact ⟨trivial,trivial,trivial⟩|exact ⟨trivial,trivial,trivial,trivial⟩) Aj.nil (Nat.zero_le _) (Nat.le_refl _) ⟨?_,rfl,rfl⟩;try rfl)
  rw [if_neg c1] at i5
  by_cases c2:gi cols k<0
  ·rw [if_pos c2] at i5
   repeat' (first|apply Ad.AA|apply Ad.region|apply Ad.Aq|apply Ad.Ai|apply AO.normal|apply AO.exit|apply AL.exit|(apply AL.out;decide)|apply Ad.exit|apply Ag.nil|apply Ag.one|(apply Ag.take;rfl;rfl)|(apply Ag.guard;rfl;rfl)|(apply Aa.assign;rfl)|(apply Aa.move;rfl)|(apply Aa.Bv;rfl;rfl;omega)|(apply Aa.int;rfl;rfl;rfl)|(apply Aa.AP;rfl;rfl;rfl;omega;rfl)|(apply Aa.load;rfl;rfl)|(apply Aa.AV;rfl;rfl)|(apply Aa.lenV;rfl;rfl;rfl)|(apply Ad.Af;rfl)|(apply Ad.A8;rfl)|(intro _;try (exfalso;omega)))
   all_goals try (exfalso;omega)
   refine Aw.normal ⟨(k+1,used,sum+skip),⟨hk,i2,by simp only;omega,by simp only;omega,by simp only;rw [hr'];exact i5⟩,by simp only;omega,⟨by omega,?_,?_⟩⟩
   ·repeat (first|exact Ae.nil|refine Ae.same trivial rfl ?_|refine Ae.same (Ac rfl) rfl ?_|refine Ae.same ⟨trivial,Ac rfl,Ac rfl,Ac rfl,trivial⟩ rfl ?_|refine Ae.same ⟨trivial,Ac rfl,Ac rfl,trivial⟩ rfl ?_|refine Ae.same ⟨trivial,trivial⟩ rfl ?_|refine Ae.cons trivial rfl (.of_eq (Ar (by simp<;>omega))) ?_)
   ·repeat (first|exact Aj.nil|(refine Aj.cons (Ac rfl) ?_ rfl ?_ ?_;(first|exact HB.Ak rfl|exact AQ.Ah _ _|(simp [HB.under,AQ.under,PV.under]));(first|exact Bj.refl _|exact Bj.vec (Bh.refl _) (by simp))))
  rw [if_neg c2] at i5
  obtain ⟨j,hj⟩:∃ j:Nat,gi cols k=j:=⟨(gi cols k).toNat,by omega⟩
  rw [hj,Int.toNat_natCast] at i5
  have hjm:j<m:=by omega
  have hc:=dF k j hk hjm
  have hrl:=hrow k hk
  by_cases c3:gi used j=true
  ·rw [if_pos c3] at i5
   rw [← i5]
   repeat' (first|apply Ad.AA|apply Ad.Aq|apply Ad.Ai|apply AO.ret|apply AL.ret|apply Aw.ret|apply Ad.ret|apply Ag.nil|apply Ag.one|(apply Ag.take;rfl;rfl)|(apply Aa.Dw;rfl;rfl;(first|omega|(simp only [NR]<;>omega));exact congrArg (fun b=>some (FV.bool b)) (c3))|(apply Aa.load;rfl;exact congrArg (fun a=>some (PV.p (FV.int .i64 a))) hj)|(apply Aa.assign;rfl)|(apply Aa.move;rfl)|(apply Aa.int;rfl;rfl;rfl)|(apply Aa.AP;rfl;rfl;rfl;omega;rfl)|(apply Aa.AV;rfl;rfl)|(apply Aa.lenV;rfl;rfl;rfl)|(apply Aa.Dn;rfl;rfl;rfl;rfl;omega)|(apply Ad.Af;rfl)|(apply Ad.cond_true;rfl)|(apply Ad.cond_false;rfl)|(apply Ad.A8;rfl)|(intro _;try (exfalso;omega)))
   all_goals first|(exfalso;omega)|contradiction|(refine Done.ret rfl (.refl _) (by first|exact trivial|exact ⟨trivial,trivial,trivial⟩|exact ⟨trivial,trivial,trivial,trivial⟩) Aj.nil (Nat.zero_le _) (Nat.le_refl _) ⟨?_,rfl,rfl⟩;try rfl)
  ·rw [if_neg c3] at i5
   have c3':gi used j=false:=by cases h:gi used j<;>simp_all
   repeat' (first|apply Ad.AA|apply Ad.region|apply Ad.Aq|apply Ad.Ai|apply AO.normal|apply AL.normal|apply Ad.skip|apply Ag.nil|apply Ag.one|(apply Ag.take;rfl;rfl)|(apply Aa.Dw;rfl;rfl;(first|omega|(simp only [NR]<;>omega));exact congrArg (fun b=>some (FV.bool b)) (c3'))|(apply Aa.load;rfl;exact congrArg (fun a=>some (PV.p (FV.int .i64 a))) hj)|(apply Aa.Ef (y:=true);rfl;rfl;rfl;trivial;(first|rfl|(refine congrArg (fun t=>[PV.p (FV.int _ t)]) ?_;first|omega|(simp only [Int.natCast_add,Int.natCast_mul,Int.natCast_ediv,Int.natCast_emod]<;>omega)));rfl;rfl;decide;(first|omega|(simp only [List.length_set]<;>omega)))|(apply Aa.assign;rfl)|(apply Aa.move;rfl)|(apply Aa.Bv;rfl;rfl;omega)|(apply Aa.int;rfl;rfl;rfl)|(apply Aa.AP;rfl;rfl;rfl;omega;rfl)|(apply Aa.load;rfl;rfl)|(apply Aa.AV;rfl;rfl)|(apply Aa.lenV;rfl;rfl;rfl)|(apply Aa.Dn;rfl;rfl;rfl;rfl;omega)|(apply Ad.Af;rfl)|(apply Ad.cond_false;rfl)|(apply Ad.A8;rfl)|(intro _;try (exfalso;omega)))
   all_goals try (exfalso;omega)
   refine Aw.normal ⟨(k+1,used.set j true,sum+gi (gi l k) j),⟨hk,by simp only;rw [List.length_set];exact i2,by simp only;omega,by simp only;omega,by simp only;rw [hr'];exact i5⟩,by simp only;omega,⟨by omega,?_,?_⟩⟩
   ·repeat (first|exact Ae.nil|refine Ae.same trivial rfl ?_|refine Ae.same (Ac rfl) rfl ?_|refine Ae.same ⟨trivial,Ac rfl,Ac rfl,Ac rfl,trivial⟩ rfl ?_|refine Ae.same ⟨trivial,Ac rfl,Ac rfl,trivial⟩ rfl ?_|refine Ae.same ⟨trivial,trivial⟩ rfl ?_|refine Ae.cons trivial rfl (.of_eq (Ar (by simp<;>omega))) ?_)
   ·repeat (first|exact Aj.nil|(refine Aj.cons (Ac rfl) ?_ rfl ?_ ?_;(first|exact HB.Ak rfl|exact AQ.Ah _ _|(simp [HB.under,AQ.under,PV.under]));(first|exact Bj.refl _|exact Bj.vec (Bh.refl _) (by simp))))
 ·obtain rfl:k=l.length:=by omega
  rw [Nat.sub_self] at i5
  unfold Ye at i5
  rw [← i5]
  repeat' (first|apply Ad.AA|apply Ad.AZ|apply AO.normal|apply AL.exit|apply Aw.exit|apply Ad.ret|apply Ag.nil|apply Ag.one|(apply Aa.assign;rfl)|(apply Aa.move;rfl)|(apply Aa.int;rfl;rfl;rfl)|(apply Ad.Af;rfl)|(intro _;try (exfalso;omega)))
  all_goals first|(exfalso;omega)|contradiction|(refine Done.ret rfl (.refl _) (by first|exact trivial|exact ⟨trivial,trivial,trivial⟩|exact ⟨trivial,trivial,trivial,trivial⟩) Aj.nil (Nat.zero_le _) (Nat.le_refl _) ⟨?_,rfl,rfl⟩;try rfl)
theorem ZF (a b:List Int) (h0:a.length+b.length=0):CJ env 102 [.lst 52 [.lst 3 (cells a) a.length,.lst 3 (cells b) b.length] 2] 3 (cells (a++b)) (a.length+b.length) true:=by
 have hg:=qg
 have e0:(0:Int)=0+(a.length:Int)+(b.length:Int):=by omega
 rw [e0] at hg
 refine CJ.enter (AB (by decide)) Tryz.func102 rfl (by kernel_rfl) (by simp [Tryz.ntmps102]) ?_
 repeat' (first|apply Ad.assoc|apply Ad.AA|apply Ad.Ai|apply Ag.nil|apply Ag.one|(apply Aa.assign;rfl)|(apply Aa.move;rfl)|(apply Aa.BI;rfl;rfl))
 refine Ad.nY 2 ?_
 repeat' (first|apply Ad.assoc|apply Ad.AA|apply Ad.region|apply Ad.Aq|apply Ad.AZ|apply Ad.Ai|apply AO.normal|apply AL.normal|apply AL.exit|apply Aw.exit|apply Ad.skip|apply Ag.nil|apply Ag.one|(apply Aa.fn;rfl;rfl;exact hg;intro _;rfl)|(apply ZB.zero)|(apply ZB.succ)|(apply Aw.again)|(apply Aa.SA;rfl;rfl;rfl;decide;decide)|(apply Aa.assign;rfl)|(apply Aa.move;rfl)|(apply Aa.Bv;rfl;rfl;omega)|(apply Aa.int;rfl;rfl;rfl)|(apply Aa.load;rfl;rfl)|(apply Aa.BI;rfl;rfl)|(apply Ad.Bd;rfl)|(apply Ad.Au;rfl)|(apply Ad.cond_false;rfl))
 refine Ad.ghost (Ba.adopt 6 3 rfl) ?_
 refine Ad.nY 2 ?_
 repeat' (first|apply Ad.AA|apply Ad.region|apply Ad.Aq|apply Ad.AZ|apply Ad.Ai|apply AO.normal|apply AL.normal|apply AL.exit|apply Aw.exit|apply Ad.ret|apply Ag.nil|apply Ag.one|(apply ZB.zero)|(apply ZB.succ)|(apply Aw.again)|(apply Aa.SA;rfl;rfl;rfl;decide;decide)|(apply Aa.QF (l:=a) (r:=b);rfl;rfl;rfl;rfl;rfl;rfl;rfl;(intro _ h;cases h);rfl;rfl;rfl;decide;decide;omega)|(apply Aa.NG (r:=a);rfl;rfl;rfl;rfl;rfl;rfl;(intro _ h;cases h);rfl;rfl;rfl;decide;decide;omega)|(apply Aa.assign;rfl)|(apply Aa.move;rfl)|(apply Aa.Bv;rfl;rfl;omega)|(apply Aa.int;rfl;rfl;rfl)|(apply Aa.load;rfl;rfl)|(apply Ad.Bd;rfl)|(apply Ad.Au;rfl))
 exact Dc.ret rfl rfl rfl rfl
def sumT (l:List Int):Nat→Int
 |0=>0
 |k+1=>sumT l k+gi l k
def JE (x:Int):Prop:=-1000000000000≤x∧x≤1000000000000
theorem VY {l:List Int}:∀ k,(∀ i,i<k→JE (gi l i))→-(k*1000000000000:Int)≤sumT l k∧sumT l k≤k*1000000000000
 |0,_=>by simp [sumT]
 |k+1,h=>by
  obtain ⟨a,b⟩:=VY k fun i hi=>h i (by omega)
  obtain ⟨c,d⟩:=h k (by omega)
  simp only [sumT]
  omega
noncomputable def IG (l:List (List Int)) (m:Nat) (rows BU:List Int):Int×Int :=
 open Classical in
 if ¬ (rows.length=l.length∧BU.length=m) then (0,5)
 else if ∃ i,i<(rows++BU).length∧¬ JE (gi (rows++BU) i) then (0,3)
 else if ∃ k,k<BU.length∧gi BU k>0 then (0,20)
 else if ∃ i k,i<l.length∧k<m∧gi rows i+gi BU k>gi (gi l i) k then (0,20)
 else (sumT (rows++BU) (rows++BU).length,0)
section
variable {l:List (List Int)} {m:Nat} {rows BU:List Int}
theorem a5t (h:¬ (rows.length=l.length∧BU.length=m)):IG l m rows BU=(0,5):=by unfold IG;rw [if_pos h]
theorem a7i (h:rows.length=l.length∧BU.length=m) {i:Nat} (hi:i<(rows++BU).length) (hb:¬ JE (gi (rows++BU) i)):IG l m rows BU=(0,3):=by unfold IG;rw [if_neg (fun x=>x h),if_pos ⟨i,hi,hb⟩]
theorem a2f (h:rows.length=l.length∧BU.length=m) (hb:∀ i,i<(rows++BU).length→JE (gi (rows++BU) i)) {k:Nat} (hk:k<BU.length) (hp:gi BU k>0):IG l m rows BU=(0,20):=by
 unfold IG;rw [if_neg (fun x=>x h),if_neg (fun ⟨i,h1,h2⟩=>h2 (hb i h1)),if_pos ⟨k,hk,hp⟩]
theorem a1g (h:rows.length=l.length∧BU.length=m) (hb:∀ i,i<(rows++BU).length→JE (gi (rows++BU) i)) (hn:∀ k,k<BU.length→gi BU k≤0) {i k:Nat} (hi:i<l.length) (hk:k<m) (hp:gi rows i+gi BU k>gi (gi l i) k):IG l m rows BU=(0,20):=by
 unfold IG;rw [if_neg (fun x=>x h),if_neg (fun ⟨i,h1,h2⟩=>h2 (hb i h1)),if_neg (fun ⟨k,h1,h2⟩=>by have:=hn k h1;omega),if_pos ⟨i,k,hi,hk,hp⟩]
theorem a0z (h:rows.length=l.length∧BU.length=m) (hb:∀ i,i<(rows++BU).length→JE (gi (rows++BU) i)) (hn:∀ k,k<BU.length→gi BU k≤0) (hf:∀ i,i<l.length→∀ k,k<m→gi rows i+gi BU k≤gi (gi l i) k):IG l m rows BU=(sumT (rows++BU) (rows++BU).length,0):=by
 unfold IG;rw [if_neg (fun x=>x h),if_neg (fun ⟨i,h1,h2⟩=>h2 (hb i h1)),if_neg (fun ⟨k,h1,h2⟩=>by have:=hn k h1;omega),if_neg (fun ⟨i,k,h1,h2,h3⟩=>by have:=hf i h1 k h2;omega)]
end
theorem QL {P:Nat→Prop} {k:Nat} (h:∀ i,i<k→P i) (hk:P k):∀ i,i<k+1→P i:=fun i hi=>by
 rcases Nat.lt_or_ge i k with h1|h1
 ·exact h i h1
 ·obtain rfl:i=k:=by omega
  exact hk
theorem WM {a b:List Int} {i:Nat} (h:i<a.length):gi (a++b) i=gi a i:=by unfold gi;rw [List.getElem?_append_left h]
theorem WW {a b:List Int} {i:Nat}:gi (a++b) (a.length+i)=gi b i:=by unfold gi;rw [List.getElem?_append_right (by omega),Nat.add_sub_cancel_left]
theorem U4 {l:List (List Int)} {m:Nat} {skip B:Int} (e:TypeId) (h:Qp l l.length m skip B) (rows BU:List Int) :
 AY env 74 [.lst e (cells l) l.length,.lst 3 (cells rows) rows.length,.lst 3 (cells BU) BU.length] (.EX [.p (.int .i64 (IG l m rows BU).1),.p (.int .i64 (IG l m rows BU).2)]):=by
 have hcl:=Ov e h
 have h2:=h.n60
 have h3:=h.yR
 have h4:=h.B9
 have hrow:=h.PE.row
 have dF:=h.PE.rng
 by_cases hlen:rows.length=l.length∧BU.length=m
 case neg =>
  rw [a5t hlen]
  refine AY.enter (AB (by decide)) Tryz.func74 rfl (by kernel_rfl) (by simp [Tryz.ntmps74]) ?_
  repeat' (first|apply Ad.assoc|apply Ad.AA|apply Ad.BO|apply Ag.nil|apply Ag.one|(apply Ag.take;rfl;rfl)|(apply Ag.drop;rfl;rfl;rfl)|(apply Ag.guard;rfl;rfl)|(apply Aa.fn;rfl;rfl;exact hcl;intro _;rfl)|(apply Aa.assign;rfl)|(apply Aa.move;rfl)|(apply Aa.int;rfl;rfl;rfl)|(apply Aa.BH;rfl;rfl)|(apply Aa.AV;rfl;rfl)|(apply Aa.BI;rfl;rfl)|(apply Ad.Bd;rfl)|(apply Ad.Af;rfl)|(intro _;try (exfalso;omega)))
  all_goals first|(exfalso;omega)|contradiction|(refine Done.ret rfl (.refl _) (by first|exact trivial|exact ⟨trivial,trivial,trivial⟩|exact ⟨trivial,trivial,trivial,trivial⟩) Aj.nil (Nat.zero_le _) (Nat.le_refl _) ⟨?_,rfl,rfl⟩;try rfl)
 have hp3:∀ i,i<(rows++BU).length→¬ JE (gi (rows++BU) i)→IG l m rows BU=(0,3):=fun i=>a7i hlen
 have a6a:(∀ i,i<(rows++BU).length→JE (gi (rows++BU) i))→∀ k,k<BU.length→gi BU k>0→IG l m rows BU=(0,20):=fun hb k=>a2f hlen hb
 have a4h:(∀ i,i<(rows++BU).length→JE (gi (rows++BU) i))→(∀ k,k<BU.length→gi BU k≤0)→∀ i k,i<l.length→k<m→gi rows i+gi BU k>gi (gi l i) k→IG l m rows BU=(0,20):=fun hb hn i k=>a1g hlen hb hn
 have a6h:(∀ i,i<(rows++BU).length→JE (gi (rows++BU) i))→(∀ k,k<BU.length→gi BU k≤0)→(∀ i,i<l.length→∀ k,k<m→gi rows i+gi BU k≤gi (gi l i) k)→IG l m rows BU=(sumT (rows++BU) (rows++BU).length,0):=a0z hlen
 have gr:∀ k,k<l.length→gi (rows++BU) k=gi rows k:=fun k hk=>WM (by omega)
 have gp:∀ j,j<BU.length→gi (rows++BU) (rows.length+j)=gi BU j:=fun j _=>WW
 have a0s:(rows++BU).length=rows.length+BU.length:=List.length_append
 rcases Nat.eq_zero_or_pos (rows.length+BU.length) with hz|hz
 ·have hcn:=ZF rows BU hz
  rw [← a0s] at hcn
  generalize rows++BU=cat at *
  generalize IG l m rows BU=R at *
  refine AY.enter (AB (by decide)) Tryz.func74 rfl (by kernel_rfl) (by simp [Tryz.ntmps74]) ?_
  repeat' (first|(refine Ag.IX 30 ?_;refine Ag.ghost (Ba.freeze 29 rfl rfl) ?_)|apply Ad.assoc|apply Ad.AA|apply Ad.Aq|apply Ad.Ai|apply Ag.nil|apply Ag.one|(apply Ag.take;rfl;rfl)|(apply Ag.guard;rfl;rfl)|(apply Aa.fn;rfl;rfl;exact hcl;intro _;rfl)|(apply Aa.fv;rfl;rfl;exact hcn)|(apply Aa.assign;rfl)|(apply Aa.move;rfl)|(apply Aa.int;rfl;rfl;rfl)|(apply Aa.AV;rfl;rfl)|(apply Aa.BI;rfl;rfl)|(apply Aa.lenV;rfl;rfl;rfl)|(apply Aa.buildSlice;rfl;rfl;rfl;decide;rfl;rfl;rfl)|(apply Ad.Af;rfl)|(intro _;try (exfalso;omega)))
  all_goals try (exfalso;omega)
  apply Ad.GZ (cat.length) (fun k=>∀ i,i<k→JE (gi cat i)) [(0,_),(1,_),(2,_),(30,_),(31,_)] [(1,_)] (fun k r=>(8,.p (.int .i64 (sumT cat k)))::(32,.p (.int .i64 (k:Int)))::r) (fun k r=>r) 2
  ·first|omega|decide
  ·first|omega|decide
  ·repeat (first|exact Ae.nil|(refine Ae.eq rfl ?_ ?_;(first|exact PV.Ak rfl|(simp [PV.under,AQ.under];done)))|refine Ae.cons trivial rfl (.of_eq (Ar (by simp<;>omega))) ?_)
  ·repeat (first|exact Aj.nil|(refine Aj.eq rfl (Ac rfl) ?_ ?_;(first|exact HB.Ak rfl|exact AQ.Ah _ _|(simp [HB.under,AQ.under,PV.under];done)))|(refine Aj.cons (Ac rfl) ?_ rfl ?_ ?_;(first|exact trivial|exact AQ.Ah _ _|(simp [HB.under,AQ.under,PV.under]));(first|exact Bj.refl _|exact Bj.vec (Bh.refl _) (by simp))))
  ·first|(intro _ _;omega)|omega|trivial
  ·intro k hk;omega
  ·intro hall
   repeat' (first|apply Ad.assoc|apply Ad.AA|apply Ad.AZ|apply Ad.Ai|apply AO.normal|apply AL.exit|apply Aw.exit|apply Ag.nil|apply Ag.one|(apply Vw;rfl;rfl;rfl;exact le_dec rfl)|(apply Vk;rfl;rfl;rfl;exact le_dec rfl)|(apply Aa.assign;rfl)|(apply Aa.move;rfl)|(apply Aa.int;rfl;rfl;rfl)|(apply Aa.BI;rfl;rfl)|(apply Ad.Af;rfl)|(intro _;try (exfalso;omega)))
   all_goals try (exfalso;omega)
   apply Ad.GZ (BU.length) (fun k=>∀ i,i<k→gi BU i≤0) [(0,_),(1,_),(7,_)] [(1,_)] (fun k r=>(8,.p (.int .i64 (k:Int)))::r) (fun k r=>r) 2
   ·first|omega|decide
   ·first|omega|decide
   ·repeat (first|exact Ae.nil|(refine Ae.eq rfl ?_ ?_;(first|exact PV.Ak rfl|(simp [PV.under,AQ.under];done)))|refine Ae.cons trivial rfl (.of_eq (Ar (by simp<;>omega))) ?_)
   ·repeat (first|exact Aj.nil|(refine Aj.eq rfl (Ac rfl) ?_ ?_;(first|exact HB.Ak rfl|exact AQ.Ah _ _|(simp [HB.under,AQ.under,PV.under];done)))|(refine Aj.cons (Ac rfl) ?_ rfl ?_ ?_;(first|exact trivial|exact AQ.Ah _ _|(simp [HB.under,AQ.under,PV.under]));(first|exact Bj.refl _|exact Bj.vec (Bh.refl _) (by simp))))
   ·first|(intro _ _;omega)|omega|trivial
   ·intro k hk;omega
   ·intro hneg
    repeat' (first|apply Ad.assoc|apply Ad.AA|apply Ad.Aq|apply Ad.AZ|apply Ad.Ai|apply AO.normal|(apply Bq.ret;rfl)|apply AL.exit|apply Aw.exit|apply Ad.ret|apply Ag.nil|apply Ag.one|(apply Aa.assign;rfl)|(apply Aa.move;rfl)|(apply Aa.int;rfl;rfl;rfl)|(apply Aa.BI;rfl;rfl)|(apply Ad.Au;rfl)|(apply Ad.Af;rfl)|(intro _;try (exfalso;omega)))
    all_goals try (exfalso;omega)
    all_goals try contradiction
    apply Ad.GZ (l.length) (fun k=>∀ i,i<k→∀ j,j<m→gi rows i+gi BU j≤gi (gi l i) j) [(0,_),(1,_),(2,_),(8,_),(48,_),(49,_)] [(1,_)] (fun k r=>(50,.p (.int .i64 (k:Int)))::r) (fun k r=>r) 2
    ·first|omega|decide
    ·first|omega|decide
    ·repeat (first|exact Ae.nil|(refine Ae.eq rfl ?_ ?_;(first|exact PV.Ak rfl|(simp [PV.under,AQ.under];done)))|refine Ae.cons trivial rfl (.of_eq (Ar (by simp<;>omega))) ?_)
    ·repeat (first|exact Aj.nil|(refine Aj.eq rfl (Ac rfl) ?_ ?_;(first|exact HB.Ak rfl|exact AQ.Ah _ _|(simp [HB.under,AQ.under,PV.under];done)))|(refine Aj.cons (Ac rfl) ?_ rfl ?_ ?_;(first|exact trivial|exact AQ.Ah _ _|(simp [HB.under,AQ.under,PV.under]));(first|exact Bj.refl _|exact Bj.vec (Bh.refl _) (by simp))))
    ·first|(intro _ _;omega)|omega|trivial
    ·intro k hk;omega
    ·intro hf
     rw [a6h hall hneg hf]
     repeat' (first|apply Ad.AA|apply Ad.AZ|apply AO.normal|apply AL.exit|apply Aw.exit|apply Ad.ret|apply Ag.nil|apply Ag.one|(apply Aa.assign;rfl)|(apply Aa.move;rfl)|(apply Aa.int;rfl;rfl;rfl)|(apply Ad.Af;rfl)|(intro _;try (exfalso;omega)))
     all_goals first|(exfalso;omega)|contradiction|(refine Done.ret rfl (.refl _) (by first|exact trivial|exact ⟨trivial,trivial,trivial⟩|exact ⟨trivial,trivial,trivial,trivial⟩) Aj.nil (Nat.zero_le _) (Nat.le_refl _) ⟨?_,rfl,rfl⟩;try rfl)
 ·have hcn:=Zk rows BU hz (by omega)
  rw [← a0s] at hcn
  generalize rows++BU=cat at *
  generalize IG l m rows BU=R at *
  refine AY.enter (AB (by decide)) Tryz.func74 rfl (by kernel_rfl) (by simp [Tryz.ntmps74]) ?_
  repeat' (first|(refine Ag.IX 30 ?_;refine Ag.ghost (Ba.freeze 29 rfl rfl) ?_)|apply Ad.assoc|apply Ad.AA|apply Ad.Aq|apply Ad.Ai|apply Ag.nil|apply Ag.one|(apply Ag.take;rfl;rfl)|(apply Ag.guard;rfl;rfl)|(apply Aa.fn;rfl;rfl;exact hcl;intro _;rfl)|(apply Aa.fv;rfl;rfl;exact hcn)|(apply Aa.assign;rfl)|(apply Aa.move;rfl)|(apply Aa.int;rfl;rfl;rfl)|(apply Aa.AV;rfl;rfl)|(apply Aa.BI;rfl;rfl)|(apply Aa.lenV;rfl;rfl;rfl)|(apply Aa.buildSlice;rfl;rfl;rfl;decide;rfl;rfl;rfl)|(apply Ad.Af;rfl)|(intro _;try (exfalso;omega)))
  all_goals try (exfalso;omega)
  apply Ad.GZ (cat.length) (fun k=>∀ i,i<k→JE (gi cat i)) [(0,_),(1,_),(2,_),(30,_),(31,_)] [(1,_)] (fun k r=>(8,.p (.int .i64 (sumT cat k)))::(32,.p (.int .i64 (k:Int)))::r) (fun k r=>r) 2
  ·first|omega|decide
  ·first|omega|decide
  ·repeat (first|exact Ae.nil|(refine Ae.eq rfl ?_ ?_;(first|exact PV.Ak rfl|(simp [PV.under,AQ.under];done)))|refine Ae.cons trivial rfl (.of_eq (Ar (by simp<;>omega))) ?_)
  ·repeat (first|exact Aj.nil|(refine Aj.eq rfl (Ac rfl) ?_ ?_;(first|exact HB.Ak rfl|exact AQ.Ah _ _|(simp [HB.under,AQ.under,PV.under];done)))|(refine Aj.cons (Ac rfl) ?_ rfl ?_ ?_;(first|exact trivial|exact AQ.Ah _ _|(simp [HB.under,AQ.under,PV.under]));(first|exact Bj.refl _|exact Bj.vec (Bh.refl _) (by simp))))
  ·first|(intro _ _;omega)|omega|trivial
  ·intro k hk hi
   have hb:=VY k hi
   by_cases hx:JE (gi cat k)
   ·obtain ⟨x1,x2⟩:=hx
    repeat' (first|apply Ad.assoc|apply Ad.AA|apply Ad.region|apply Ad.Aq|apply Ad.Ai|apply AO.normal|apply AL.normal|apply Ag.nil|apply Ag.one|(apply Ag.take;rfl;rfl)|(apply Ag.guard;rfl;rfl)|(apply Aa.assign;rfl)|(apply Aa.move;rfl)|(apply Aa.Bv;rfl;rfl;omega)|(apply Aa.int;rfl;rfl;rfl)|(apply Aa.Dw;rfl;rfl;omega;rfl)|(apply Aa.AV;rfl;rfl)|(apply Aa.Dn;rfl;rfl;rfl;rfl;omega)|(apply Ad.Af;rfl)|(intro _;try (exfalso;omega)))
    all_goals try (exfalso;omega)
    refine Aw.normal ⟨(QL hi ⟨x1,x2⟩),by first|omega|decide,?_,?_⟩
    ·repeat (first|exact Ae.nil|refine Ae.same trivial rfl ?_|refine Ae.same (Ac rfl) rfl ?_|refine Ae.same ⟨trivial,Ac rfl,trivial⟩ rfl ?_|refine Ae.same ⟨trivial,Ac rfl,Ac rfl,trivial⟩ rfl ?_|refine Ae.same ⟨trivial,Ac rfl,Ac rfl,Ac rfl,trivial⟩ rfl ?_|refine Ae.same ⟨trivial,trivial⟩ rfl ?_|refine Ae.cons trivial rfl (.of_eq (Ar (by simp<;>omega))) ?_)
    ·repeat (first|exact Aj.nil|(refine Aj.cons (Ac rfl) ?_ rfl ?_ ?_;(first|exact HB.Ak rfl|exact AQ.Ah _ _|(simp [HB.under,AQ.under,PV.under]));(first|exact Bj.refl _|exact Bj.vec (Bh.refl _) (by simp))))
   ·rw [hp3 k hk hx]
    unfold JE at hx
    repeat' (first|apply Ad.assoc|apply Ad.AA|apply Ad.Aq|apply Ad.BO|apply Ad.Ai|apply AO.ret|apply AL.ret|apply Aw.ret|apply Ag.nil|apply Ag.one|(apply Ag.take;rfl;rfl)|(apply Ag.drop;rfl;rfl;rfl)|(apply Ag.guard;rfl;rfl)|(apply Aa.assign;rfl)|(apply Aa.move;rfl)|(apply Aa.int;rfl;rfl;rfl)|(apply Aa.Dw;rfl;rfl;omega;rfl)|(apply Aa.BH;rfl;rfl)|(apply Aa.AV;rfl;rfl)|(apply Aa.Dn;rfl;rfl;rfl;rfl;omega)|(apply Ad.Bd;rfl)|(apply Ad.Af;rfl)|(intro _;try (exfalso;omega)))
    all_goals first|(exfalso;omega)|contradiction|(refine Done.ret rfl (.refl _) (by first|exact trivial|exact ⟨trivial,trivial,trivial⟩|exact ⟨trivial,trivial,trivial,trivial⟩) Aj.nil (Nat.zero_le _) (Nat.le_refl _) ⟨?_,rfl,rfl⟩;try rfl)
  ·intro hall
   repeat' (first|apply Ad.assoc|apply Ad.AA|apply Ad.AZ|apply Ad.Ai|apply AO.normal|apply AL.exit|apply Aw.exit|apply Ag.nil|apply Ag.one|(apply Vw;rfl;rfl;rfl;exact le_dec rfl)|(apply Vk;rfl;rfl;rfl;exact le_dec rfl)|(apply Aa.assign;rfl)|(apply Aa.move;rfl)|(apply Aa.int;rfl;rfl;rfl)|(apply Aa.BI;rfl;rfl)|(apply Ad.Af;rfl)|(intro _;try (exfalso;omega)))
   all_goals try (exfalso;omega)
   apply Ad.GZ (BU.length) (fun k=>∀ i,i<k→gi BU i≤0) [(0,_),(1,_),(7,_)] [(1,_)] (fun k r=>(8,.p (.int .i64 (k:Int)))::r) (fun k r=>r) 2
   ·first|omega|decide
   ·first|omega|decide
   ·repeat (first|exact Ae.nil|(refine Ae.eq rfl ?_ ?_;(first|exact PV.Ak rfl|(simp [PV.under,AQ.under];done)))|refine Ae.cons trivial rfl (.of_eq (Ar (by simp<;>omega))) ?_)
   ·repeat (first|exact Aj.nil|(refine Aj.eq rfl (Ac rfl) ?_ ?_;(first|exact HB.Ak rfl|exact AQ.Ah _ _|(simp [HB.under,AQ.under,PV.under];done)))|(refine Aj.cons (Ac rfl) ?_ rfl ?_ ?_;(first|exact trivial|exact AQ.Ah _ _|(simp [HB.under,AQ.under,PV.under]));(first|exact Bj.refl _|exact Bj.vec (Bh.refl _) (by simp))))
   ·first|(intro _ _;omega)|omega|trivial
   ·intro k hk hi
    by_cases hx:gi BU k≤0
    ·repeat' (first|apply Ad.AA|apply Ad.region|apply Ad.Aq|apply Ad.Ai|apply AO.normal|(apply Bq.ret;rfl)|apply AL.normal|apply Ad.ret|apply Ad.skip|apply Ag.nil|apply Ag.one|(apply oh;rfl;rfl;rfl;exact le_dec rfl)|(apply Aa.assign;rfl)|(apply Aa.move;rfl)|(apply Aa.Bv;rfl;rfl;omega)|(apply Aa.int;rfl;rfl;rfl)|(apply Aa.AP;rfl;rfl;rfl;omega;rfl)|(apply Aa.load;rfl;rfl)|(apply Ad.Af;rfl)|(apply Ad.A8;rfl)|(intro _;try (exfalso;omega)))
     all_goals try (exfalso;omega)
     refine Aw.normal ⟨(QL hi hx),by first|omega|decide,?_,?_⟩
     ·repeat (first|exact Ae.nil|refine Ae.same trivial rfl ?_|refine Ae.same (Ac rfl) rfl ?_|refine Ae.same ⟨trivial,Ac rfl,trivial⟩ rfl ?_|refine Ae.same ⟨trivial,Ac rfl,Ac rfl,trivial⟩ rfl ?_|refine Ae.same ⟨trivial,Ac rfl,Ac rfl,Ac rfl,trivial⟩ rfl ?_|refine Ae.same ⟨trivial,trivial⟩ rfl ?_|refine Ae.cons trivial rfl (.of_eq (Ar (by simp<;>omega))) ?_)
     ·repeat (first|exact Aj.nil|(refine Aj.cons (Ac rfl) ?_ rfl ?_ ?_;(first|exact HB.Ak rfl|exact AQ.Ah _ _|(simp [HB.under,AQ.under,PV.under]));(first|exact Bj.refl _|exact Bj.vec (Bh.refl _) (by simp))))
    ·rw [a6a hall k hk (by omega)]
     repeat' (first|apply Ad.assoc|apply Ad.AA|apply Ad.Aq|apply Ad.BO|apply Ad.Ai|apply AO.ret|(apply Bq.ret;rfl)|apply AL.ret|apply Aw.ret|apply Ad.ret|apply Ag.nil|apply Ag.one|(apply oh;rfl;rfl;rfl;exact le_dec rfl)|(apply Aa.assign;rfl)|(apply Aa.move;rfl)|(apply Aa.int;rfl;rfl;rfl)|(apply Aa.AP;rfl;rfl;rfl;omega;rfl)|(apply Aa.load;rfl;rfl)|(apply Ad.Bd;rfl)|(apply Ad.Af;rfl)|(apply Ad.A8;rfl)|(intro _;try (exfalso;omega)))
     all_goals first|(exfalso;omega)|contradiction|(refine Done.ret rfl (.refl _) (by first|exact trivial|exact ⟨trivial,trivial,trivial⟩|exact ⟨trivial,trivial,trivial,trivial⟩) Aj.nil (Nat.zero_le _) (Nat.le_refl _) ⟨?_,rfl,rfl⟩;try rfl)
   ·intro hneg
    repeat' (first|apply Ad.assoc|apply Ad.AA|apply Ad.Aq|apply Ad.AZ|apply Ad.Ai|apply AO.normal|(apply Bq.ret;rfl)|apply AL.exit|apply Aw.exit|apply Ad.ret|apply Ag.nil|apply Ag.one|(apply Aa.assign;rfl)|(apply Aa.move;rfl)|(apply Aa.int;rfl;rfl;rfl)|(apply Aa.BI;rfl;rfl)|(apply Ad.Au;rfl)|(apply Ad.Af;rfl)|(intro _;try (exfalso;omega)))
    all_goals try (exfalso;omega)
    all_goals try contradiction
    apply Ad.GZ (l.length) (fun k=>∀ i,i<k→∀ j,j<m→gi rows i+gi BU j≤gi (gi l i) j) [(0,_),(1,_),(2,_),(8,_),(48,_),(49,_)] [(1,_)] (fun k r=>(50,.p (.int .i64 (k:Int)))::r) (fun k r=>r) 2
    ·first|omega|decide
    ·first|omega|decide
    ·repeat (first|exact Ae.nil|(refine Ae.eq rfl ?_ ?_;(first|exact PV.Ak rfl|(simp [PV.under,AQ.under];done)))|refine Ae.cons trivial rfl (.of_eq (Ar (by simp<;>omega))) ?_)
    ·repeat (first|exact Aj.nil|(refine Aj.eq rfl (Ac rfl) ?_ ?_;(first|exact HB.Ak rfl|exact AQ.Ah _ _|(simp [HB.under,AQ.under,PV.under];done)))|(refine Aj.cons (Ac rfl) ?_ rfl ?_ ?_;(first|exact trivial|exact AQ.Ah _ _|(simp [HB.under,AQ.under,PV.under]));(first|exact Bj.refl _|exact Bj.vec (Bh.refl _) (by simp))))
    ·first|(intro _ _;omega)|omega|trivial
    ·intro k hk hi
     have hrl:=hrow k hk
     have r1:=hall k (by omega)
     rw [gr k hk] at r1
     obtain ⟨r2,r3⟩:=r1
     repeat' (first|apply Ad.AA|apply Ad.Aq|apply Ad.Ai|apply Ad.II|apply Ag.nil|apply Ag.one|(apply Aa.assign;rfl)|(apply Aa.move;rfl)|(apply Aa.int;rfl;rfl;rfl)|(apply Aa.AP;rfl;rfl;rfl;omega;rfl)|(apply Aa.load;rfl;rfl)|(apply Aa.BI;rfl;rfl)|(apply Ad.Af;rfl)|(intro _;try (exfalso;omega)))
     all_goals try (exfalso;omega)
     apply Ad.GZ ((gi l k).length) (fun k_=>∀ j,j<k_→gi rows k+gi BU j≤gi (gi l k) j) [(0,_),(1,_),(2,_),(8,_),(11,_),(48,_),(49,_),(50,_),(55,_),(56,_)] [(1,_)] (fun k_ r=>(57,.p (.int .i64 (k_:Int)))::r) (fun k_ r=>r) 2
     ·first|omega|decide
     ·first|omega|decide
     ·repeat (first|exact Ae.nil|(refine Ae.eq rfl ?_ ?_;(first|exact PV.Ak rfl|(simp [PV.under,AQ.under];done)))|refine Ae.cons trivial rfl (.of_eq (Ar (by simp<;>omega))) ?_)
     ·repeat (first|exact Aj.nil|(refine Aj.eq rfl (Ac rfl) ?_ ?_;(first|exact HB.Ak rfl|exact AQ.Ah _ _|(simp [HB.under,AQ.under,PV.under];done)))|(refine Aj.cons (Ac rfl) ?_ rfl ?_ ?_;(first|exact trivial|exact AQ.Ah _ _|(simp [HB.under,AQ.under,PV.under]));(first|exact Bj.refl _|exact Bj.vec (Bh.refl _) (by simp))))
     ·first|(intro _ _;omega)|omega|trivial
     ·intro j hj hij
      have c1:=dF k j hk (by omega)
      have p1:=hall (rows.length+j) (by omega)
      rw [gp j (by omega)] at p1
      obtain ⟨p2,p3⟩:=p1
      by_cases hx:gi rows k+gi BU j≤gi (gi l k) j
      ·repeat' (first|apply Ad.AA|apply Ad.BJ|apply Ad.region|apply Ad.Aq|apply Ad.Ai|apply AO.normal|apply AL.normal|apply Ad.skip|apply Ag.nil|apply Ap.nil|apply Ag.one|(apply Ap.bar;decide +kernel)|apply Ap.quiet|(apply Aa.assign;rfl)|(apply Aa.move;rfl)|(apply Aa.Bv;rfl;rfl;omega)|(apply Aa.int;rfl;rfl;rfl)|(apply Aa.AP;rfl;rfl;rfl;omega;rfl)|(apply Aa.load;rfl;rfl)|(apply Ad.Af;rfl)|(apply Ad.A8;rfl)|(intro _;try (exfalso;omega)))
       all_goals try (exfalso;omega)
       refine Aw.normal ⟨(QL hij hx),by first|omega|decide,?_,?_⟩
       ·repeat (first|exact Ae.nil|refine Ae.same trivial rfl ?_|refine Ae.same (Ac rfl) rfl ?_|refine Ae.same ⟨trivial,Ac rfl,trivial⟩ rfl ?_|refine Ae.same ⟨trivial,Ac rfl,Ac rfl,trivial⟩ rfl ?_|refine Ae.same ⟨trivial,Ac rfl,Ac rfl,Ac rfl,trivial⟩ rfl ?_|refine Ae.same ⟨trivial,trivial⟩ rfl ?_|refine Ae.cons trivial rfl (.of_eq (Ar (by simp<;>omega))) ?_)
       ·repeat (first|exact Aj.nil|(refine Aj.cons (Ac rfl) ?_ rfl ?_ ?_;(first|exact HB.Ak rfl|exact AQ.Ah _ _|(simp [HB.under,AQ.under,PV.under]));(first|exact Bj.refl _|exact Bj.vec (Bh.refl _) (by simp))))
      ·rw [a4h hall hneg k j hk (by omega) (by omega)]
       repeat' (first|apply Ad.AA|apply Ad.BJ|apply Ad.Aq|apply Ad.Ai|apply AO.ret|apply AL.ret|apply Aw.ret|apply Ad.ret|apply Ag.nil|apply Ap.nil|apply Ag.one|(apply Ap.bar;decide +kernel)|apply Ap.quiet|(apply Aa.assign;rfl)|(apply Aa.move;rfl)|(apply Aa.Bv;rfl;rfl;omega)|(apply Aa.int;rfl;rfl;rfl)|(apply Aa.AP;rfl;rfl;rfl;omega;rfl)|(apply Aa.load;rfl;rfl)|(apply Ad.Af;rfl)|(apply Ad.A8;rfl)|(intro _;try (exfalso;omega)))
       all_goals first|(exfalso;omega)|contradiction|(refine Done.ret rfl (.refl _) (by first|exact trivial|exact ⟨trivial,trivial,trivial⟩|exact ⟨trivial,trivial,trivial,trivial⟩) Aj.nil (Nat.zero_le _) (Nat.le_refl _) ⟨?_,rfl,rfl⟩;try rfl)
     ·intro vU
      rw [hrl] at vU
      repeat' (first|apply Ad.AA|apply Ad.region|apply Ad.AZ|apply AO.normal|apply AL.normal|apply AL.exit|apply Aw.exit|apply Ag.nil|apply Ag.one|(apply Aa.move;rfl)|(apply Aa.Bv;rfl;rfl;omega)|(apply Aa.int;rfl;rfl;rfl)|(apply Ad.Af;rfl)|(intro _;try (exfalso;omega)))
      all_goals try (exfalso;omega)
      refine Aw.normal ⟨(QL hi vU),by first|omega|decide,?_,?_⟩
      ·repeat (first|exact Ae.nil|refine Ae.same trivial rfl ?_|refine Ae.same (Ac rfl) rfl ?_|refine Ae.same ⟨trivial,Ac rfl,trivial⟩ rfl ?_|refine Ae.same ⟨trivial,Ac rfl,Ac rfl,trivial⟩ rfl ?_|refine Ae.same ⟨trivial,Ac rfl,Ac rfl,Ac rfl,trivial⟩ rfl ?_|refine Ae.same ⟨trivial,trivial⟩ rfl ?_|refine Ae.cons trivial rfl (.of_eq (Ar (by simp<;>omega))) ?_)
      ·repeat (first|exact Aj.nil|(refine Aj.cons (Ac rfl) ?_ rfl ?_ ?_;(first|exact HB.Ak rfl|exact AQ.Ah _ _|(simp [HB.under,AQ.under,PV.under]));(first|exact Bj.refl _|exact Bj.vec (Bh.refl _) (by simp))))
    ·intro hf
     rw [a6h hall hneg hf]
     repeat' (first|apply Ad.AA|apply Ad.AZ|apply AO.normal|apply AL.exit|apply Aw.exit|apply Ad.ret|apply Ag.nil|apply Ag.one|(apply Aa.assign;rfl)|(apply Aa.move;rfl)|(apply Aa.int;rfl;rfl;rfl)|(apply Ad.Af;rfl)|(intro _;try (exfalso;omega)))
     all_goals first|(exfalso;omega)|contradiction|(refine Done.ret rfl (.refl _) (by first|exact trivial|exact ⟨trivial,trivial,trivial⟩|exact ⟨trivial,trivial,trivial,trivial⟩) Aj.nil (Nat.zero_le _) (Nat.le_refl _) ⟨?_,rfl,rfl⟩;try rfl)
noncomputable def oI (l:List (List Int)) (m:Nat) (r:Qw) (sum e most:Int):Int :=
 open Classical in
 if e≠0 then e else if sum≠r.total then 7 else if (IG l m r.rows r.BU).2≠0 then (IG l m r.rows r.BU).2
 else if (IG l m r.rows r.BU).1<r.total∨∃ i,i<r.rows.length∧gi r.rows i>most then 20 else 0
noncomputable def o9 (l:List (List Int)) (m:Nat) (skip:Int) (r:Qw):Int:=oI l m r (aN l m skip r.cols).1 (aN l m skip r.cols).2 skip
theorem kS {l:List (List Int)} {m:Nat} {skip B:Int} (ty:TypeId) (h:Qp l l.length m skip B) (r:Qw) (sum e most:Int) :
 AY env 48 [.lst ty (cells l) l.length,.agg (Enc.enc r),.int .i64 sum,.int .i64 e,.int .i64 most] (.p (.int .i64 (oI l m r sum e most))):=by
 have hp:=U4 ty h r.rows r.BU
 have hE:oI l m r sum e most=if e≠0 then e else if sum≠r.total then 7 else if (IG l m r.rows r.BU).2≠0 then (IG l m r.rows r.BU).2
  else open Classical in if (IG l m r.rows r.BU).1<r.total∨∃ i,i<r.rows.length∧gi r.rows i>most then 20 else 0:=rfl
 rw [hE]
 clear hE
 refine AY.enter (AB (by decide)) Tryz.func48 rfl (by kernel_rfl) (by simp [Tryz.ntmps48]) ?_
 by_cases e1:e=0
 case neg =>
  rw [if_pos e1]
  repeat' (first|apply Ad.AA|apply Ad.Ai|apply AO.ret|apply AL.ret|apply Ad.ret|apply Ag.nil|apply Ag.one|(apply Aa.assign;rfl)|(apply Aa.move;rfl)|(apply Aa.int;rfl;rfl;rfl)|(apply Aa.box;rfl;trivial)|(apply Ad.A8;rfl)|(intro _;try (exfalso;omega)))
  all_goals first|(exfalso;omega)|contradiction|(refine Done.ret rfl (.refl _) (by first|exact trivial|exact ⟨trivial,trivial,trivial⟩|exact ⟨trivial,trivial,trivial,trivial⟩) Aj.nil (Nat.zero_le _) (Nat.le_refl _) ⟨?_,rfl,rfl⟩;try rfl)
 rw [if_neg (fun x=>x e1)]
 by_cases e2:sum=r.total
 case neg =>
  rw [if_pos e2]
  repeat' (first|apply Ad.AA|apply Ad.Ai|apply AO.ret|apply AL.ret|apply Ad.ret|apply Ag.nil|apply Ag.one|(apply Aa.assign;rfl)|(apply Aa.move;rfl)|(apply Aa.int;rfl;rfl;rfl)|(apply Aa.load;rfl;rfl)|(apply Aa.AU;rfl;rfl;rfl)|(apply Aa.box;rfl;trivial)|(apply Ad.A8;rfl)|(intro _;try (exfalso;omega)))
  all_goals first|(exfalso;omega)|contradiction|(refine Done.ret rfl (.refl _) (by first|exact trivial|exact ⟨trivial,trivial,trivial⟩|exact ⟨trivial,trivial,trivial,trivial⟩) Aj.nil (Nat.zero_le _) (Nat.le_refl _) ⟨?_,rfl,rfl⟩;try rfl)
 rw [if_neg (fun x=>x e2)]
 have hlen0:(IG l m r.rows r.BU).2=0→r.rows.length=l.length:=fun h0=>Classical.byContradiction fun h1=>by
  rw [a5t (fun x=>h1 x.1)] at h0
  cases h0
 have h60:=h.n60
 generalize IG l m r.rows r.BU=P at *
 obtain ⟨b,e3⟩:=P
 simp only at hp hlen0 ⊢
 by_cases e4:e3=0
 case neg =>
  rw [if_pos e4]
  repeat' (first|apply Ad.AA|apply Ad.Ai|apply AO.normal|apply AO.ret|apply AL.normal|apply AL.ret|apply Ad.ret|apply Ad.skip|apply Ag.nil|apply Ag.one|(apply Aa.fn;rfl;rfl;exact hp;intro _;rfl)|(apply Aa.assign;rfl)|(apply Aa.move;rfl)|(apply Aa.int;rfl;rfl;rfl)|(apply Aa.load;rfl;rfl)|(apply Aa.AU;rfl;rfl;rfl)|(apply Aa.box;rfl;trivial)|(apply Aa.extract;rfl;rfl)|(apply Ad.A8;rfl)|(intro _;try (exfalso;omega)))
  all_goals first|(exfalso;omega)|contradiction|(refine Done.ret rfl (.refl _) (by first|exact trivial|exact ⟨trivial,trivial,trivial⟩|exact ⟨trivial,trivial,trivial,trivial⟩) Aj.nil (Nat.zero_le _) (Nat.le_refl _) ⟨?_,rfl,rfl⟩;try rfl)
 rw [if_neg (fun x=>x e4)]
 have hlen:=hlen0 e4
 by_cases e5:b<r.total
 ·rw [if_pos (.inl e5)]
  repeat' (first|apply Ad.AA|apply Ad.Ai|apply AO.normal|apply AO.ret|apply AL.normal|apply AL.ret|apply Ad.ret|apply Ad.skip|apply Ag.nil|apply Ag.one|(apply Ag.drop;rfl;rfl;rfl)|(apply Ag.guard;rfl;rfl)|(apply Aa.fn;rfl;rfl;exact hp;intro _;rfl)|(apply Aa.assign;rfl)|(apply Aa.move;rfl)|(apply Aa.int;rfl;rfl;rfl)|(apply Aa.load;rfl;rfl)|(apply Aa.BH;rfl;rfl)|(apply Aa.AU;rfl;rfl;rfl)|(apply Aa.box;rfl;trivial)|(apply Aa.extract;rfl;rfl)|(apply Ad.cond_true;rfl)|(apply Ad.A8;rfl)|(intro _;try (exfalso;omega)))
  all_goals first|(exfalso;omega)|contradiction|(refine Done.ret rfl (.refl _) (by first|exact trivial|exact ⟨trivial,trivial,trivial⟩|exact ⟨trivial,trivial,trivial,trivial⟩) Aj.nil (Nat.zero_le _) (Nat.le_refl _) ⟨?_,rfl,rfl⟩;try rfl)
 ·repeat' (first|apply Ad.assoc|apply Ad.AA|apply Ad.Ai|apply AO.normal|apply AL.normal|apply Ad.skip|apply Ag.nil|apply Ag.one|(apply Ag.take;rfl;rfl)|(apply Ag.guard;rfl;rfl)|(apply Aa.fn;rfl;rfl;exact hp;intro _;rfl)|(apply Aa.makeFunc;rfl;rfl)|(apply Vw;rfl;rfl;rfl;exact le_dec rfl)|(apply Vk;rfl;rfl;rfl;exact le_dec rfl)|(apply Aa.assign;rfl)|(apply Aa.move;rfl)|(apply Aa.int;rfl;rfl;rfl)|(apply Aa.load;rfl;rfl)|(apply Aa.BI;rfl;rfl)|(apply Aa.AU;rfl;rfl;rfl)|(apply Aa.box;rfl;trivial)|(apply Aa.extract;rfl;rfl)|(apply Ad.A8;rfl)|(intro _;try (exfalso;omega)))
  all_goals try (exfalso;omega)
  all_goals try contradiction
  apply Ad.GZ (r.rows.length) (fun k=>∀ i,i<k→gi r.rows i≤most) [(0,_),(1,_),(7,_)] [(1,_),(0,_)] (fun k r=>(8,.p (.int .i64 (k:Int)))::r) (fun k r=>r) 2
  ·first|omega|decide
  ·first|omega|decide
  ·repeat (first|exact Ae.nil|(refine Ae.eq rfl ?_ ?_;(first|exact PV.Ak rfl|(simp [PV.under,AQ.under];done)))|refine Ae.cons trivial rfl (.of_eq (Ar (by simp<;>omega))) ?_)
  ·repeat (first|exact Aj.nil|(refine Aj.eq rfl (Ac rfl) ?_ ?_;(first|exact HB.Ak rfl|exact AQ.Ah _ _|(simp [HB.under,AQ.under,PV.under];done)))|(refine Aj.cons (Ac rfl) ?_ rfl ?_ ?_;(first|exact trivial|exact AQ.Ah _ _|(simp [HB.under,AQ.under,PV.under]));(first|exact Bj.refl _|exact Bj.vec (Bh.refl _) (by simp))))
  ·first|(intro _ _;omega)|omega|trivial
  ·intro k hk hi
   by_cases hx:gi r.rows k≤most
   ·repeat' (first|apply Ad.AA|apply Ad.region|apply Ad.Aq|apply Ad.Ai|apply AO.normal|(apply Bq.ret;rfl)|apply AL.normal|apply Ad.ret|apply Ad.skip|apply Ag.nil|apply Ag.one|(apply mO;rfl;rfl;rfl;exact le_dec rfl)|(apply Aa.assign;rfl)|(apply Aa.move;rfl)|(apply Aa.Bv;rfl;rfl;omega)|(apply Aa.int;rfl;rfl;rfl)|(apply Aa.AP;rfl;rfl;rfl;omega;rfl)|(apply Aa.load;rfl;rfl)|(apply Ad.Af;rfl)|(apply Ad.A8;rfl)|(intro _;try (exfalso;omega)))
    all_goals try (exfalso;omega)
    refine Aw.normal ⟨(QL hi hx),by first|omega|decide,?_,?_⟩
    ·repeat (first|exact Ae.nil|refine Ae.same trivial rfl ?_|refine Ae.same (Ac rfl) rfl ?_|refine Ae.same ⟨trivial,Ac rfl,trivial⟩ rfl ?_|refine Ae.same ⟨trivial,Ac rfl,Ac rfl,trivial⟩ rfl ?_|refine Ae.same ⟨trivial,Ac rfl,Ac rfl,Ac rfl,trivial⟩ rfl ?_|refine Ae.same ⟨trivial,trivial⟩ rfl ?_|refine Ae.cons trivial rfl (.of_eq (Ar (by simp<;>omega))) ?_)
    ·repeat (first|exact Aj.nil|(refine Aj.cons (Ac rfl) ?_ rfl ?_ ?_;(first|exact HB.Ak rfl|exact AQ.Ah _ _|(simp [HB.under,AQ.under,PV.under]));(first|exact Bj.refl _|exact Bj.vec (Bh.refl _) (by simp))))
   ·rw [if_pos (.inr ⟨k,hk,by omega⟩)]
    repeat' (first|apply Ad.AA|apply Ad.Aq|apply Ad.Ai|apply AO.ret|(apply Bq.ret;rfl)|apply AL.ret|apply Aw.ret|apply Ad.ret|apply Ag.nil|apply Ag.one|(apply mO;rfl;rfl;rfl;exact le_dec rfl)|(apply Aa.assign;rfl)|(apply Aa.move;rfl)|(apply Aa.int;rfl;rfl;rfl)|(apply Aa.AP;rfl;rfl;rfl;omega;rfl)|(apply Aa.load;rfl;rfl)|(apply Aa.AV;rfl;rfl)|(apply Ad.Af;rfl)|(apply Ad.cond_true;rfl)|(apply Ad.A8;rfl)|(intro _;try (exfalso;omega)))
    all_goals first|(exfalso;omega)|contradiction|(refine Done.ret rfl (.refl _) (by first|exact trivial|exact ⟨trivial,trivial,trivial⟩|exact ⟨trivial,trivial,trivial,trivial⟩) Aj.nil (Nat.zero_le _) (Nat.le_refl _) ⟨?_,rfl,rfl⟩;try rfl)
  ·intro hall
   rw [if_neg (by
    rintro (h1|⟨i,h1,h2⟩)
    ·exact e5 h1
    ·have:=hall i h1;omega)]
   repeat' (first|apply Ad.AA|apply Ad.AZ|apply AO.normal|(apply Bq.ret;rfl)|apply AL.normal|apply AL.exit|apply Aw.exit|apply Ad.ret|apply Ad.skip|apply Ag.nil|apply Ag.one|(apply Aa.assign;rfl)|(apply Aa.int;rfl;rfl;rfl)|(apply Aa.AV;rfl;rfl)|(apply Ad.Af;rfl)|(apply Ad.cond_false;rfl)|(intro _;try (exfalso;omega)))
   all_goals first|(exfalso;omega)|contradiction|(refine Done.ret rfl (.refl _) (by first|exact trivial|exact ⟨trivial,trivial,trivial⟩|exact ⟨trivial,trivial,trivial,trivial⟩) Aj.nil (Nat.zero_le _) (Nat.le_refl _) ⟨?_,rfl,rfl⟩;try rfl)
theorem iI {l:List (List Int)} {m:Nat} {skip B:Int} (ty:TypeId) (h:Qp l l.length m skip B) (r:Qw) :
 AY env 22 [.lst ty (cells l) l.length,.int .i64 skip,.agg (Enc.enc r)] (.p (.int .i64 (o9 l m skip r))):=by
 have hc:=LU ty h
 have ht:=jm ty h r.cols
 have hp:=kS ty h r (aN l m skip r.cols).1 (aN l m skip r.cols).2 skip
 refine AY.enter (AB (by decide)) Tryz.func22 rfl (by kernel_rfl) (by simp [Tryz.ntmps22]) ?_
 repeat' (first|apply Ad.assoc|apply Ad.AA|apply Ad.Aq|apply Ad.ret|apply Ag.nil|apply Ag.one|(apply Aa.fn;rfl;rfl;exact hc;intro _;rfl)|(apply Aa.fn;rfl;rfl;exact ht;intro _;rfl)|(apply Aa.fn;rfl;rfl;exact hp;intro _;rfl)|(apply Aa.assign;rfl)|(apply Aa.move;rfl)|(apply Aa.int;rfl;rfl;rfl)|(apply Aa.load;rfl;rfl)|(apply Aa.AU;rfl;rfl;rfl)|(apply Aa.box;rfl;trivial)|(apply Aa.extract;rfl;rfl)|(apply Ad.Au;rfl))
 all_goals first|(exfalso;omega)|contradiction|(refine Done.ret rfl (.refl _) (by first|exact trivial|exact ⟨trivial,trivial,trivial⟩|exact ⟨trivial,trivial,trivial,trivial⟩) Aj.nil (Nat.zero_le _) (Nat.le_refl _) ⟨?_,rfl,rfl⟩;try rfl)
theorem RZ {l:List (List Int)} {m:Nat} {skip:Int} {cols:List Int} (h:Wq l.length m fun r=>gi cols r):∀ (r k:Nat) (used:List Bool) (sum:Int),k+r=l.length→(∀ q,k≤q→q<l.length→0≤gi cols q→gi used (gi cols q).toNat=false)→used.length=m →
 Ye l m skip cols r k used sum=(sum+Jj (GH l skip fun r=>gi cols r) l.length r,0)
 |0,k,used,sum,hk,hu,hl=>by simp [Ye,Jj]
 |r+1,k,used,sum,hk,hu,hl=>by
  have hrg:=h.rng k (by omega)
  have hrg:-1≤gi cols k∧gi cols k<m:=hrg
  have ek:l.length-(r+1)=k:=by omega
  unfold Ye
  rw [if_neg (by omega)]
  simp only [Jj,ek]
  by_cases c2:gi cols k<0
  ·rw [if_pos c2,RZ h r (k+1) used (sum+skip) (by omega) (fun q q1 q2 q3=>hu q (by omega) q2 q3) hl]
   have e:GH l skip (fun r=>gi cols r) k=skip:=if_pos c2
   rw [e,Int.add_assoc]
  ·rw [if_neg c2,hu k (Nat.le_refl _) (by omega) (by omega),if_neg (by decide)]
   have e:GH l skip (fun r=>gi cols r) k=gi (gi l k) (gi cols k).toNat:=if_neg c2
   rw [RZ h r (k+1) _ _ (by omega) (fun q q1 q2 q3=>?_) (by rw [List.length_set];exact hl),e,Int.add_assoc]
   rw [gs (by omega),if_neg]
   ·exact hu q (by omega) q2 q3
   ·intro e
    have:=h.inj k q (by omega) q2 (show 0≤gi cols k by omega) (show gi cols k=gi cols q by omega)
    omega
theorem Yx (l:List Int):∀ k,sumT l k=Dv (fun i=>gi l i) k
 |0=>rfl
 |k+1=>by simp only [sumT,Dv,Yx l k]
theorem fK {l:List (List Int)} {m:Nat} {skip B:Int} (h:Qp l l.length m skip B):o9 l m skip (Zl l m skip)=0:=by
 have hP:=jd h.PE
 have hB:=h.B9
 have hm:(Zl l m skip)=⟨wW l l.length m skip,kG l l.length m skip,xI l l.length m skip,xX l l.length m skip⟩:=rfl
 rw [hm]
 generalize wW l l.length m skip=C at *
 generalize kG l l.length m skip=T at *
 generalize xI l l.length m skip=U at *
 generalize xX l l.length m skip=V at *
 have ht:aN l m skip C=(T,0):=by
  unfold aN
  rw [if_neg (fun x=>x hP.lC),RZ hP.part l.length 0 _ 0 (by omega) (fun q _ _ _=>by
   unfold gi;rw [List.getElem?_replicate];split<;>rfl) (by simp),Y7,← hP.tot]
  simp
 have a9g:∀ i,i<(U++V).length→JE (gi (U++V) i):=fun i hi=>by
  rw [List.length_append,hP.lU,hP.lV] at hi
  rcases Nat.lt_or_ge i l.length with h1|h1
  ·rw [WM (by rw [hP.lU];exact h1)]
   have:=hP.a9m i h1
   exact ⟨by omega,by omega⟩
  ·obtain ⟨j,rfl⟩:∃ j,i=U.length+j:=⟨i-U.length,by have:=hP.lU;omega⟩
   rw [WW]
   have:=hP.lU
   have:=hP.a4i j (by omega)
   exact ⟨by omega,by omega⟩
 have hs:sumT (U++V) (U++V).length=T:=by
  rw [Yx,List.length_append,Ql,hP.yQ,hP.lU,hP.lV]
  congr 1
  ·exact EO fun k hk=>WM (by rw [hP.lU];exact hk)
  ·exact EO fun k hk=>by
    have:=WW (a:=U) (b:=V) (i:=k)
    rw [hP.lU] at this
    exact this
 have hp:IG l m U V=(T,0):=by
  rw [a0z ⟨hP.lU,hP.lV⟩ a9g (fun k hk=>(hP.a4i k (by have:=hP.lV;omega)).2) (fun i hi k hk=>hP.pot.XH i k hi hk),hs]
 unfold o9 oI
 simp only [ht,hp]
 rw [if_neg (fun h=>h rfl),if_neg (fun h=>h rfl),if_neg (fun h=>h rfl),if_neg]
 rintro (h1|⟨i,h1,h2⟩)
 ·omega
 ·have:=hP.pot.skip i (by have:=hP.lU;omega)
  have:gi U i≤skip:=this
  omega
end Go.Proofs.YtdabojnmoejilaaGreatDoor
namespace Go.Proofs.YtdabojnmoejilaaGreatDoor
open Go Go.Am Go.Vm Go.Tra Go.Hun
attribute [local irreducible] Aa Ag Ap Ad BA AY CJ AO AL Aw Vm.Done Dc Bq
attribute [local irreducible] D8 DT Jp KX TG BZ
structure iQ (q:RJ):Prop where
 sm1:Pq q.BD
 sm2:Pq q.tgt
 rg:q.reg.Ok
 err:iU q=0
 shb:ShB q.BD q.tgt
theorem Ls {q:RJ} (h:iU q=0):LK q.BD=0∧Qm q.BD q.reg=0∧LK q.tgt=0∧Nc q.DX∧(Bc q.BD q.reg).length≤60∧(BG q.tgt).length≤120:=by
 unfold iU at h
 split at h
 ·rename_i h1;exact absurd h h1
 rename_i h1
 split at h
 ·rename_i h2;exact absurd h h2
 rename_i h2
 split at h
 ·rename_i h3;exact absurd h h3
 rename_i h3
 split at h
 ·exact absurd h (by decide)
 rename_i h4
 split at h
 ·exact absurd h (by decide)
 rename_i h5
 exact ⟨Classical.not_not.1 h1,Classical.not_not.1 h2,Classical.not_not.1 h3,Classical.not_not.1 h4,by omega,by omega⟩
theorem iQ.k1 {q:RJ} (h:iQ q):Jl q.BD:=yO h.sm1 (Ls h.err).1
theorem iQ.k2 {q:RJ} (h:iQ q):Jl q.tgt:=yO h.sm2 (Ls h.err).2.2.1
theorem iQ.DX {q:RJ} (h:iQ q):Nc q.DX:=(Ls h.err).2.2.2.1
theorem iQ.len {q:RJ} (h:iQ q):q.reg.stops.length=q.BD.Az.length:=oD (Ls h.err).2.1
def Ew (q:RJ):List (List Int):=KN q.BD q.tgt q.reg q.DX
def Ji (q:RJ):Nat:=if (Bc q.BD q.reg).length=0 then 0 else (BG q.tgt).length
theorem oW (q:RJ):(Ew q).length=(Bc q.BD q.reg).length:=by simp [Ew,KN]
theorem xU (q:RJ) {r k:Nat} (hr:r<(Bc q.BD q.reg).length) (hk:k<(BG q.tgt).length):gi (gi (Ew q) r) k=Jk q.BD q.tgt q.DX (gi (Bc q.BD q.reg) r) (gi (BG q.tgt) k):=by
 unfold Ew KN
 rw [gi_map' _ hr,gi_map' _ hk]
theorem qH (q:RJ) {r:Nat} (hr:r<(Bc q.BD q.reg).length):(gi (Ew q) r).length=(BG q.tgt).length:=by
 unfold Ew KN
 rw [gi_map' _ hr,List.length_map]
theorem iQ.PE {q:RJ} (h:iQ q):Qp (Ew q) (Ew q).length (Ji q) q.DX.miss 101000000:=by
 obtain ⟨_,_,_,hw,h5,h6⟩:=Ls h.err
 obtain ⟨_,_,_,w4⟩:=Nw hw
 have hl:=oW q
 refine ⟨⟨rfl,fun r hr=>?_,fun r k hr hk=>?_,⟨w4.1,by omega⟩,by decide⟩,by omega,?_,by decide,fun h0=>?_⟩
 ·rw [qH q (by omega)]
  unfold Ji;rw [if_neg (by omega)]
 ·unfold Ji at hk
  rw [if_neg (by omega)] at hk
  rw [xU q (by omega) hk]
  exact lW hw h.shb (RX (Zy (by omega))) (QB hk)
 ·unfold Ji;split<;>omega
 ·unfold Ji;rw [if_pos (by omega)]
theorem XW {l:List (List Int)} {m:Nat} {skip B:Int} (e:TypeId) (h:Qp l l.length m skip B):AY env 45 [.lst e (cells l) l.length,.int .i64 skip] (.EX [.p (.agg (Enc.enc (Zl l m skip))),.p (.int .i64 0)]):=by
 rcases Nat.eq_zero_or_pos l.length with h0|h0
 ·have hm:=h.m0 h0
  have hl:l=[]:=List.length_eq_zero_iff.1 h0
  subst hl;subst hm
  have:=h.PE.skip
  have:=h.B9
  exact X9 e (by omega)
 ·exact aF e h h0
theorem LX {q:RJ} (h:iQ q):AY env 15 [.agg (Enc.enc q)] (.EX [.p (.lst 52 (cells (Ew q)) (Ew q).length),.p (.int .i64 0)]):=by
 have hc:=dV q h.sm1 h.sm2 h.rg
 rw [h.err] at hc
 have hl:=Ya q h.k1 h.k2 h.DX h.shb h.rg h.len
 rw [show KN q.BD q.tgt q.reg q.DX=Ew q from rfl] at hl
 refine AY.enter (AB (by decide)) Tryz.func15 rfl (by kernel_rfl) (by simp [Tryz.ntmps15]) ?_
 repeat' (first|apply Ad.assoc|apply Ad.AA|apply Ad.Aq|apply Ad.ret|apply Ag.nil|apply Ag.one|(apply Aa.fn;rfl;rfl;exact hc;intro _;rfl)|(apply Aa.fn;rfl;rfl;exact hl;intro _;rfl)|(apply Aa.assign;rfl)|(apply Aa.move;rfl)|(apply Aa.int;rfl;rfl;rfl)|(apply Aa.load;rfl;rfl)|(apply Aa.box;rfl;trivial)|(apply Aa.extract;rfl;rfl)|(apply Ad.Au;rfl))
 all_goals first|(exfalso;omega)|contradiction|(refine Done.ret rfl (.refl _) (by first|exact trivial|exact ⟨trivial,trivial,trivial⟩|exact ⟨trivial,trivial,trivial,trivial⟩) Aj.nil (Nat.zero_le _) (Nat.le_refl _) ⟨?_,rfl,rfl⟩;try rfl)
noncomputable def Ij (q:RJ):Qw:=Zl (Ew q) (Ji q) q.DX.miss
theorem Qh {q:RJ} (h:iQ q):AY env 17 [.agg (Enc.enc q)] (.EX [.p (.agg (Enc.enc (Ij q))),.p (.int .i64 0)]):=by
 have hl:=LX h
 have hp:=XW 52 h.PE
 rw [show Zl (Ew q) (Ji q) q.DX.miss=Ij q from rfl] at hp
 generalize Ij q=b at *
 refine AY.enter (AB (by decide)) Tryz.func17 rfl (by kernel_rfl) (by simp [Tryz.ntmps17]) ?_
 repeat' (first|apply Ad.assoc|apply Ad.AA|apply Ad.Aq|apply Ad.ret|apply Ag.nil|apply Ag.one|(apply Aa.fn;rfl;rfl;exact hl;intro _;rfl)|(apply Aa.fn;rfl;rfl;exact hp;intro _;rfl)|(apply Aa.assign;rfl)|(apply Aa.move;rfl)|(apply Aa.int;rfl;rfl;rfl)|(apply Aa.load;rfl;rfl)|(apply Aa.AU;rfl;rfl;rfl)|(apply Aa.box;rfl;trivial)|(apply Aa.alloc;rfl)|(apply Aa.Bo;rfl;rfl;rfl;trivial;rfl;rfl;exact Ac rfl;exact le_dec rfl)|(apply Aa.build;rfl;rfl;rfl;rfl;rfl)|(apply Aa.extract;rfl;rfl)|(apply Ad.Au;rfl))
 all_goals first|(exfalso;omega)|contradiction|(refine Done.ret rfl (.refl _) (by first|exact trivial|exact ⟨trivial,trivial,trivial⟩|exact ⟨trivial,trivial,trivial,trivial⟩) Aj.nil (Nat.zero_le _) (Nat.le_refl _) ⟨?_,rfl,rfl⟩;try rfl)
def a9s:List FV:=[.val (.slice none 0 0),.int .i64 0,.val (.slice none 0 0),.val (.slice none 0 0)]
theorem Q8 {q:RJ} (h:iQ q) (p:Qw):AY env 21 [.agg (Enc.enc q),.agg (Enc.enc p)] (.p (.int .i64 (o9 (Ew q) (Ji q) q.DX.miss p))):=by
 have hl:=LX h
 have hp:=iI 52 h.PE p
 refine AY.enter (AB (by decide)) Tryz.func21 rfl (by kernel_rfl) (by simp [Tryz.ntmps21]) ?_
 repeat' (first|apply Ad.assoc|apply Ad.AA|apply Ad.Aq|apply Ad.ret|apply Ag.nil|apply Ag.one|(apply Aa.fn;rfl;rfl;exact hl;intro _;rfl)|(apply Aa.fn;rfl;rfl;exact hp;intro _;rfl)|(apply Aa.assign;rfl)|(apply Aa.move;rfl)|(apply Aa.int;rfl;rfl;rfl)|(apply Aa.load;rfl;rfl)|(apply Aa.AU;rfl;rfl;rfl)|(apply Aa.box;rfl;trivial)|(apply Aa.build;rfl;rfl;rfl;rfl;rfl)|(apply Aa.extract;rfl;rfl)|(apply Ad.Au;rfl))
 all_goals first|(exfalso;omega)|contradiction|(refine Done.ret rfl (.refl _) (by first|exact trivial|exact ⟨trivial,trivial,trivial⟩|exact ⟨trivial,trivial,trivial,trivial⟩) Aj.nil (Nat.zero_le _) (Nat.le_refl _) ⟨?_,rfl,rfl⟩;try rfl)
end Go.Proofs.YtdabojnmoejilaaGreatDoor
namespace Go.Proofs.YtdabojnmoejilaaGreatDoor
open Go Go.Am Go.Vm Go.Tra Go.Hun
attribute [local irreducible] Aa Ag Ap Ad BA AY CJ AO AL Aw Vm.Done Dc Bq
theorem dQ (fs:List Int):∀ {k i:Nat},i<k→gi (EI fs k) i=aY i (gi fs i):=fun {k i} h=>by
 unfold EI gi;simp [List.getElem?_map,List.getElem?_range h]
theorem aU (ts:List Tn) (fs:List Int):∀ {k i:Nat},i<k→gi (FM ts fs k) i=aO i (gi ts i).t (gi fs i):=fun {k i} h=>by
 unfold FM gi;simp [List.getElem?_map,List.getElem?_range h]
theorem zU {i:Nat} {t:List UInt8} {f:Int} (hi:i<10) (ht:C9 t) (hf:qW ⟨f,1⟩):D8 (aO i t f)=0:=by
 unfold D8
 have h1:C9 (aO i t f).name:=XP (by decide) hi
 have h2:C9 (aO i t f).EC:=ht
 have h3:OY (aO i t f).Dp=0:=OG.2 hf
 rw [if_neg (by rintro (h|h);exact h h1;exact h h2),if_neg (fun h=>h h3),if_neg (by show ¬ ((36:Int)< -256∨(36:Int)>256);omega),if_neg (by show ¬ (3=0);omega),if_neg (by show ¬ (3>128);omega)]
 unfold DT
 rw [if_pos]
 intro j hj
 have:j=0∨j=1∨j=2:=by
  have:j<3:=hj
  omega
 rcases this with rfl|rfl|rfl<;>(show ¬ Yc 1)<;>decide
theorem ny {ts:List Tn} {fs:List Int} (hl:ts.length=fs.length) (h9:ts.length≤9) (hT:∀ i,i<ts.length→C9 (gi ts i).t) (hF:∀ i,i<ts.length→qW ⟨gi fs i,1⟩):LK (JH ts fs)=0:=by
 have eR:(JH ts fs).ranks=FM ts fs ts.length:=rfl
 have eD:(JH ts fs).Az=[VZ (EI fs ts.length)]:=rfl
 have eC:(JH ts fs).Gf=[]:=rfl
 have eN:(JH ts fs).name=[79]:=rfl
 have lR:=SX ts fs ts.length
 have lS:=TF fs ts.length
 have gR:∀ i,i<ts.length→gi (FM ts fs ts.length) i=aO i (gi ts i).t (gi fs i):=fun i hi=>aU ts fs hi
 have gS:∀ i,i<ts.length→gi (EI fs ts.length) i=aY i (gi fs i):=fun i hi=>dQ fs hi
 unfold LK
 rw [eR,eD,eC,eN]
 have hr:∀ i,i<(FM ts fs ts.length).length→D8 (gi (FM ts fs ts.length) i)=0:=fun i hi=>by
  rw [lR] at hi
  rw [gR i hi]
  exact zU (by omega) (hT i hi) (hF i hi)
 have hrk:ND (FM ts fs ts.length) 0=0:=Tf (fun i hi=>⟨hr i hi,SV (c:=82) (by omega) (fun j hj=>by rw [gR j (by omega)];rfl) hi⟩) _ 0 rfl
 have n1:C9 [79]:=⟨by decide,by decide,by decide,fun j h1 h2=>by simp at h2;omega⟩
 have n2:C9 [71,114,101,97,116]:=⟨by decide,by decide,by decide,fun j h1 h2=>by
  have:j=1∨j=2∨j=3∨j=4:=by simp at h2;omega
  rcases this with rfl|rfl|rfl|rfl<;>exact .inl (by decide)⟩
 rw [if_neg (fun h=>h n1),if_neg (by omega),if_neg (fun h=>h hrk),if_neg (by simp),if_neg (by simp)]
 have hst:∀ i,i<(EI fs ts.length).length→Jp (FM ts fs ts.length) 36 38 (gi (EI fs ts.length) i)=0:=fun i hi=>by
  rw [lS] at hi
  rw [gS i hi]
  unfold Jp
  rw [YB hr (by omega) (by omega),if_neg (fun h=>h rfl)]
  unfold uj
  have h1:C9 (aY i (gi fs i)).name:=XP (by decide) (by omega)
  have h3:OY (aY i (gi fs i)).Dp=0:=OG.2 (hF i hi)
  have es:(aY i (gi fs i)).Ez=[⟨36,38,[⟨(i:Int),0⟩]⟩]:=rfl
  rw [if_neg (fun h=>h h1),if_neg (fun h=>h h3),es,if_neg (by simp),if_neg (by simp)]
  exact Jw (by simp) (Iq ⟨by simp only;omega,by simp⟩)
 have hd:Gi (FM ts fs ts.length) [VZ (EI fs ts.length)] 0=0:=Pz (fun i hi=>by
  obtain rfl:i=0:=by simp at hi;omega
  refine ⟨n2,by simp,?_⟩
  show KX (FM ts fs ts.length) (VZ (EI fs ts.length))=0
  unfold KX
  rw [show Va (VZ (EI fs ts.length)).lo (VZ (EI fs ts.length)).hi=0 from Lj (by simp [VZ]),if_neg (fun h=>h rfl),if_neg (by show ¬ (EI fs ts.length).length>60;omega)]
  exact Qb (fun j hj=>⟨hst j hj,SV (c:=82) (l:=EI fs ts.length) (by omega) (fun a ha=>by rw [gS a (by omega)];rfl) hj⟩) _ 0 rfl) _ 0 rfl
 rw [if_neg (fun h=>h hd)]
 unfold TG
 rw [if_neg (by simp)]
 have hc:PI ([VZ (EI fs ts.length)].map fun d=>(⟨d.lo,d.hi⟩:aS)) 0=0:=SB (fun i hi=>by
  obtain rfl:i=0:=by simp at hi;omega
  exact Lj (by simp [gi,VZ])) _ 0 rfl
 rw [if_neg (fun h=>h hc),NT,if_neg (by simp)]
theorem xK {ts:List Tn} {fs:List Int} (h9:ts.length≤9) (hT:∀ i,i<ts.length→C9 (gi ts i).t):Pq (JH ts fs):=by
 have lR:=SX ts fs ts.length
 have lS:=TF fs ts.length
 refine ⟨by show 1<1000000;decide,by show (FM ts fs ts.length).length<_;omega,by show 1<1000000;decide,by show 0<1000000;decide,fun i hi=>?_,fun i hi=>?_,fun i hi=>?_⟩
 ·have hi:i<ts.length:=by rw [← lR];exact hi
  show XM (gi (FM ts fs ts.length) i)
  rw [aU ts fs hi]
  exact ⟨by show 2<1000000;decide,by show (gi ts i).t.length<_;have:=(hT i hi).2.1;omega,by show 3<1000000;decide⟩
 ·obtain rfl:i=0:=by
   have:i<1:=hi
   omega
  show wF (VZ (EI fs ts.length))
  refine ⟨by show 5<1000000;decide,by show (EI fs ts.length).length<_;omega,fun j hj=>?_⟩
  have hj:j<ts.length:=by rw [← lS];exact hj
  show Ze (gi (EI fs ts.length) j)
  rw [dQ fs hj]
  refine ⟨by show 2<1000000;decide,by show 1<1000000;decide,fun a ha=>?_⟩
  obtain rfl:a=0:=by
   have:a<1:=ha
   omega
  exact ⟨by show 1<1000000;decide⟩
 ·have:i<0:=hi
  omega
def wI:List Tn:=[⟨[112,114,105,110,99,105,112,97,108]⟩,⟨[102,108,117,116,101]⟩]
def yx:List Tn:=[⟨[102,108,117,116,101]⟩]
theorem uf (s:List UInt8) (h0:0<s.length) (h1:s.length≤32) (h:∀ i,i<s.length→bY (gi s i).toNat):C9 s:=⟨h0,h1,h 0 h0,fun i _ hi=>.inl (h i hi)⟩
instance (c:Nat):Decidable (bY c):=by unfold bY;infer_instance
theorem a1z:C9 [112,114,105,110,99,105,112,97,108]:=uf _ (by decide) (by decide) (by decide)
theorem wu:C9 [102,108,117,116,101]:=uf _ (by decide) (by decide) (by decide)
theorem uM:∀ i,i<wI.length→C9 (gi wI i).t:=fun i hi=>by
 have:i=0∨i=1:=by
  have:i<2:=hi
  omega
 rcases this with rfl|rfl
 ·exact a1z
 ·exact wu
theorem x9:∀ i,i<yx.length→C9 (gi yx i).t:=fun i hi=>by
 obtain rfl:i=0:=by
  have:i<1:=hi
  omega
 exact wu
def qK (w:Int):RJ:=⟨JH wI [8,4],⟨[3],0,0⟩,JH yx [8],⟨10,1,5,w⟩⟩
theorem a1j {w:Int} (hw:0≤w∧w≤100):Nc (qK w).DX:=fun i hi=>by
 match i,hi with
 |0,_=>show (0:Int)≤10∧(10:Int)≤100000;decide
 |1,_=>show (0:Int)≤1∧(1:Int)≤100000;decide
 |2,_=>show (0:Int)≤5∧(5:Int)≤100000;decide
 |3,_=>exact ⟨hw.1,Int.le_trans hw.2 (by decide)⟩
theorem shK:∀ a,a<2→(BZ ⟨8,1⟩ ⟨gi [8,4] a,1⟩).2=0∧-1000≤(BZ ⟨8,1⟩ ⟨gi [8,4] a,1⟩).1∧(BZ ⟨8,1⟩ ⟨gi [8,4] a,1⟩).1≤1000:=by decide +kernel
theorem iG {w:Int} (hw:0≤w∧w≤100):iQ (qK w):=by
 have e1:LK (JH wI [8,4])=0:=ny rfl (by decide) uM (fun i hi=>by
  have:i=0∨i=1:=by
   have:i<2:=hi
   omega
  rcases this with rfl|rfl<;>decide +kernel)
 have e2:LK (JH yx [8])=0:=ny rfl (by decide) x9 (fun i hi=>by
  obtain rfl:i=0:=by
   have:i<1:=hi
   omega
  decide +kernel)
 have e3:Qm (JH wI [8,4]) ⟨[3],0,0⟩=0:=by
  rw [TN rfl (fun i hi=>by
   obtain rfl:i=0:=by
    have:i<1:=hi
    omega
   rfl)]
  rfl
 refine ⟨xK (by decide) uM,xK (by decide) x9,⟨fun i hi=>?_,by show 0<18446744073709551616;decide,by show 0<18446744073709551616;decide,by show 1<9223372036854775808;decide⟩,?_,fun a b ha hb=>?_⟩
 ·obtain rfl:i=0:=by
   have:i<1:=hi
   omega
  show 3<18446744073709551616
  decide
 ·unfold iU
  rw [if_neg (fun h=>h e1),if_neg (fun h=>h e3),if_neg (fun h=>h e2),if_neg (fun h=>h (a1j hw)),if_neg]
  have h1:(Bc (JH wI [8,4]) ⟨[3],0,0⟩).length=2:=by decide +kernel
  have h2:(BG (JH yx [8])).length=1:=by decide +kernel
  have h1:(Bc (qK w).BD (qK w).reg).length=2:=h1
  have h2:(BG (qK w).tgt).length=1:=h2
  omega
 ·obtain ⟨d,s⟩:=a
  obtain ⟨d',s'⟩:=b
  have a1:d<1:=ha.1
  obtain rfl:d=0:=by omega
  have a2:s<2:=ha.2
  have b1:d'<1:=hb.1
  obtain rfl:d'=0:=by omega
  have b2:s'<1:=hb.2
  obtain rfl:s'=0:=by omega
  have:s=0∨s=1:=by omega
  rcases this with rfl|rfl
  ·exact shK 0 (by decide)
  ·exact shK 1 (by decide)
theorem ZR (w:Int):Ew (qK w)=[[10],[12]]:=by
 show KN (JH wI [8,4]) (JH yx [8]) ⟨[3],0,0⟩ ⟨10,1,5,w⟩=_
 have:KN (JH wI [8,4]) (JH yx [8]) ⟨[3],0,0⟩ ⟨10,1,5,0⟩=[[10],[12]]:=by decide +kernel
 exact this
theorem nR (w:Int):Ji (qK w)=1:=by
 have h1:(Bc (JH wI [8,4]) ⟨[3],0,0⟩).length=2:=by decide +kernel
 have h2:(BG (JH yx [8])).length=1:=by decide +kernel
 show (if (Bc (JH wI [8,4]) ⟨[3],0,0⟩).length=0 then 0 else (BG (JH yx [8])).length)=1
 rw [h1,h2];rfl
theorem a5u:(Ij (qK 20)).total=30:=by
 unfold Ij Zl
 rw [ZR,nR]
 show kG [[10],[12]] 2 1 20=30
 decide +kernel
theorem a8h:(Ij (qK 5)).total=10:=by
 unfold Ij Zl
 rw [ZR,nR]
 show kG [[10],[12]] 2 1 5=10
 decide +kernel
theorem kC:AY env 12 [] (.p (.bool true)):=by
 have h1:=TT wI [8,4] rfl (by decide)
 have h2:=TT yx [8] rfl (by decide)
 have hl:=LX (iG (w:=20) (by decide))
 rw [ZR] at hl
 have hb:=Qh (iG (w:=20) (by decide))
 have hb5:=Qh (iG (w:=5) (by decide))
 have hv:=Q8 (iG (w:=20) (by decide)) (Ij (qK 20))
 rw [show o9 (Ew (qK 20)) (Ji (qK 20)) (qK 20).DX.miss (Ij (qK 20))=0 from fK (iG (w:=20) (by decide)).PE] at hv
 have t1:=a5u
 have t2:=a8h
 generalize Ij (qK 20)=A at *
 generalize Ij (qK 5)=B at *
 obtain ⟨c1,tt1,r1,p1⟩:=A
 obtain ⟨c2,tt2,r2,p2⟩:=B
 simp only at t1 t2
 subst t1;subst t2
 refine AY.enter (AB (by decide)) Tryz.func12 rfl (by kernel_rfl) (by simp [Tryz.ntmps12]) ?_
 repeat' (first|(refine Ag.IX 11 ?_;refine Ag.ghost (Ba.trans (Ba.freeze 9 rfl rfl) (Ba.freeze 10 rfl rfl)) ?_)|(refine Ag.IX 13 ?_;refine Ag.ghost (Ba.freeze 12 rfl rfl) ?_)|(refine Ag.IX 16 ?_;refine Ag.ghost (Ba.trans (Ba.freeze 14 rfl rfl) (Ba.freeze 15 rfl rfl)) ?_)|apply Ad.AA|apply Ad.ret|apply Ag.nil|apply Ag.one|(apply Ag.take;rfl;rfl)|(apply Aa.fn;rfl;rfl;exact h1;intro _;rfl)|(apply Aa.fn;rfl;rfl;exact h2;intro _;rfl)|(apply Aa.fn;rfl;rfl;exact hl;intro _;rfl)|(apply Aa.fn;rfl;rfl;exact hb;intro _;rfl)|(apply Aa.fn;rfl;rfl;exact hv;intro _;rfl)|(apply Aa.fn;rfl;rfl;exact hb5;intro _;rfl)|(apply Aa.SA;rfl;rfl;rfl;decide;decide)|(apply Aa.assign;rfl)|(apply Aa.move;rfl)|(apply Aa.int;rfl;rfl;rfl)|(apply Aa.load;rfl;rfl)|(apply Aa.BH;rfl;rfl)|(apply Aa.BI;rfl;rfl)|(apply Aa.AU;rfl;rfl;rfl)|(apply Aa.alloc;rfl)|(apply Aa.Bo;rfl;rfl;rfl;trivial;rfl;rfl;exact Ac rfl;exact le_dec rfl)|(apply Aa.build;rfl;rfl;rfl;rfl;rfl)|(apply Aa.buildSlice;rfl;rfl;rfl;decide;rfl;rfl;rfl)|(apply Aa.extract;rfl;rfl))
 all_goals try (exfalso;omega)
 all_goals (refine Done.ret rfl (.refl _) (by first|exact trivial|exact ⟨trivial,trivial,trivial⟩|exact ⟨trivial,trivial,trivial,trivial⟩) Aj.nil (Nat.zero_le _) (Nat.le_refl _) ⟨?_,rfl,rfl⟩;try rfl)
end Go.Proofs.YtdabojnmoejilaaGreatDoor
namespace Go.Proofs.YtdabojnmoejilaaGreatDoor
open Go Go.Am Go.Vm Go.Tra
attribute [local irreducible] Aa Ag Ap Ad BA AY CJ AO AL Aw Vm.Done Dc Bq
attribute [local irreducible] D8 DT Jp KX TG BZ
def Rh (o:ET) (d s:Nat):List PN:=LC (O9 o) d++(List.range s).map fun i=>⟨d,i⟩
theorem qE (o:ET) (d:Nat):Rh o d 0=LC (O9 o) d:=by simp [Rh]
theorem rC (o:ET) (d s:Nat):Rh o d (s+1)=Rh o d s++[⟨d,s⟩]:=by simp [Rh,List.range_succ]
theorem uX (o:ET) (d s:Nat):(Rh o d s).length=KZ (O9 o) d+s:=by simp [Rh,KZ]
theorem tJ (o:ET) {d:Nat} (hd:d<o.Az.length):Rh o d (gi o.Az d).stops.length=LC (O9 o) (d+1):=by
 rw [← Tt o hd];rfl
theorem kE {o:ET} (ho:Jl o) {d:Nat} (h:d≤o.Az.length):KZ (O9 o) d≤480:=by
 have h1:=aI (O9 o) (d:=d) (e:=(O9 o).length) (by rw [IV];exact h)
 have h2:=EM ho
 rw [Rk] at h2
 omega
theorem Oh (o:ET) (ho:Jl o):AY env 19 [.agg (Enc.enc o)] (.p (.lst 85 (cells (BG o)) (BG o).length)):=by
 have d1:=ho.Az
 refine AY.enter (AB (by decide)) Tryz.func19 rfl (by kernel_rfl) (by simp [Tryz.ntmps19]) ?_
 repeat' (first|apply Ad.assoc|apply Ad.AA|apply Ad.Ai|apply Ag.nil|apply Ag.one|(apply Aa.assign;rfl)|(apply Aa.box;rfl;trivial))
 all_goals try (exfalso;omega)
 refine Ad.ghost (Ba.adopt 3 85 rfl) ?_
 apply Ad.Fe (o.Az.length) [(1,_)] [(0,_)] (fun k r=>(3,.vec 1 (LC (O9 o) k).length 0 (LC (O9 o) k).length)::(4,.p (.int .i64 (k:Int)))::r) (fun k r=>(1,.vec 85 (cells (LC (O9 o) k)) (LC (O9 o) k).length true)::r) 2
 ·first|omega|decide
 ·first|omega|decide
 ·repeat (first|exact Ae.nil|(refine Ae.eq rfl ?_ ?_;(first|exact PV.Ak rfl|(simp [PV.under,AQ.under];done)))|refine Ae.cons trivial rfl (.of_eq (Ar (by simp<;>omega))) ?_)
 ·repeat (first|exact Aj.nil|(refine Aj.eq rfl (Ac rfl) ?_ ?_;(first|exact HB.Ak rfl|exact AQ.Ah _ _|(simp [HB.under,AQ.under,PV.under];done)))|(refine Aj.cons (Ac rfl) ?_ rfl ?_ ?_;(first|exact trivial|exact AQ.Ah _ _|(simp [HB.under,AQ.under,PV.under]));(first|exact Bj.refl _|exact Bj.vec (Bh.refl _) (by simp))))
 ·intro k hk
  have s1:=ho.stops k hk
  have e0:=qE o k
  have e9:=tJ o hk
  have b1:=kE ho (d:=k+1) hk
  have b2:=JA (O9 o) k
  rw [Tt o hk] at b2
  rw [← e0,← e9]
  repeat' (first|apply Ad.assoc|apply Ad.AA|apply Ad.Aq|apply Ad.Ai|apply Ad.II|apply Ag.nil|apply Ag.one|(apply Aa.assign;rfl)|(apply Aa.move;rfl)|(apply Aa.int;rfl;rfl;rfl)|(apply Aa.load;rfl;rfl)|(apply Aa.BI;rfl;rfl)|(apply Aa.AU;rfl;rfl;rfl)|(apply Ad.Af;rfl)|(intro _;try (exfalso;omega)))
  all_goals try (exfalso;omega)
  apply Ad.Fe ((gi o.Az k).stops.length) [(1,_),(4,_)] [(0,_)] (fun k_ r=>(3,.vec 1 (Rh o k k_).length 0 (Rh o k k_).length)::(5,.p (.int .i64 (k_:Int)))::r) (fun k_ r=>(1,.vec 85 (cells (Rh o k k_)) (Rh o k k_).length true)::r) 2
  ·first|omega|decide
  ·first|omega|decide
  ·repeat (first|exact Ae.nil|(refine Ae.eq rfl ?_ ?_;(first|exact PV.Ak rfl|(simp [PV.under,AQ.under];done)))|refine Ae.cons trivial rfl (.of_eq (Ar (by simp<;>omega))) ?_)
  ·repeat (first|exact Aj.nil|(refine Aj.eq rfl (Ac rfl) ?_ ?_;(first|exact HB.Ak rfl|exact AQ.Ah _ _|(simp [HB.under,AQ.under,PV.under];done)))|(refine Aj.cons (Ac rfl) ?_ rfl ?_ ?_;(first|exact trivial|exact AQ.Ah _ _|(simp [HB.under,AQ.under,PV.under]));(first|exact Bj.refl _|exact Bj.vec (Bh.refl _) (by simp))))
  ·intro j hj
   have f1:=rC o k j
   have f2:(Rh o k (j+1)).length=(Rh o k j).length+1:=by rw [f1];simp
   have f3:=uX o k j
   repeat' (first|apply Ad.assoc|apply Ad.AA|apply Ad.region|apply Ad.Aq|apply Ad.Ai|apply AO.normal|apply AL.normal|apply Ag.nil|apply Ag.one|(apply Aa.Dl (a:=(⟨k,j⟩:PN));rfl;rfl;rfl;rfl;rfl;rfl;rfl;rfl;(intro _ h;cases h);rfl;rfl;rfl;decide;decide;(first|omega|(simp only [List.length_take,List.length_drop,List.length_append,List.length_singleton,List.length_cons,List.length_nil]<;>omega)))|(apply Aa.assign;rfl)|(apply Aa.move;rfl)|(apply Aa.Bv;rfl;rfl;omega)|(apply Aa.int;rfl;rfl;rfl)|(apply Aa.AP;rfl;rfl;rfl;omega;rfl)|(apply Aa.load;rfl;rfl)|(apply Aa.BI;rfl;rfl)|(apply Aa.AU;rfl;rfl;rfl)|(apply Aa.DK;rfl;rfl)|(apply Aa.build;rfl;rfl;rfl;rfl;rfl)|(apply Aa.buildSlice;rfl;rfl;rfl;decide;rfl;rfl;rfl)|(apply Ad.Af;rfl)|(intro _;try (exfalso;omega)))
   all_goals try (exfalso;omega)
   refine Aw.normal ⟨by omega,?_,?_⟩
   ·rw [f2]
    repeat (first|exact Ae.nil|refine Ae.same trivial rfl ?_|refine Ae.same (Ac rfl) rfl ?_|refine Ae.same ⟨trivial,Ac rfl,trivial⟩ rfl ?_|refine Ae.same ⟨trivial,Ac rfl,Ac rfl,trivial⟩ rfl ?_|refine Ae.same ⟨trivial,Ac rfl,Ac rfl,Ac rfl,trivial⟩ rfl ?_|refine Ae.same ⟨trivial,trivial⟩ rfl ?_|refine Ae.cons trivial rfl (.of_eq (Ar (by simp<;>omega))) ?_)
   ·rw [f2,f1]
    repeat (first|exact Aj.nil|(refine Aj.cons (Ac rfl) ?_ rfl ?_ ?_;(first|exact HB.Ak rfl|exact AQ.Ah _ _|(simp [HB.under,AQ.under,PV.under]));(first|exact Bj.refl _|exact Bj.vec (Bh.refl _) (by simp))))
  ·repeat' (first|apply Ad.assoc|apply Ad.AA|apply Ad.region|apply Ad.AZ|apply AO.normal|apply AL.normal|apply AL.exit|apply Aw.exit|apply Ag.nil|apply Ag.one|(apply Aa.assign;rfl)|(apply Aa.move;rfl)|(apply Aa.Bv;rfl;rfl;omega)|(apply Aa.int;rfl;rfl;rfl)|(apply Aa.AP;rfl;rfl;rfl;omega;rfl)|(apply Aa.load;rfl;rfl)|(apply Aa.BI;rfl;rfl)|(apply Aa.AU;rfl;rfl;rfl)|(apply Aa.DK;rfl;rfl)|(apply Ad.Af;rfl)|(intro _;try (exfalso;omega)))
   all_goals try (exfalso;omega)
   refine Aw.normal ⟨by first|omega|decide,?_,?_⟩
   ·repeat (first|exact Ae.nil|refine Ae.same trivial rfl ?_|refine Ae.same (Ac rfl) rfl ?_|refine Ae.same ⟨trivial,Ac rfl,trivial⟩ rfl ?_|refine Ae.same ⟨trivial,Ac rfl,Ac rfl,trivial⟩ rfl ?_|refine Ae.same ⟨trivial,Ac rfl,Ac rfl,Ac rfl,trivial⟩ rfl ?_|refine Ae.same ⟨trivial,trivial⟩ rfl ?_|refine Ae.cons trivial rfl (.of_eq (Ar (by simp<;>omega))) ?_)
   ·repeat (first|exact Aj.nil|(refine Aj.cons (Ac rfl) ?_ rfl ?_ ?_;(first|exact HB.Ak rfl|exact AQ.Ah _ _|(simp [HB.under,AQ.under,PV.under]));(first|exact Bj.refl _|exact Bj.vec (Bh.refl _) (by simp))))
 ·have ea:LC (O9 o) o.Az.length=BG o:=by unfold BG;rw [IV]
  rw [ea]
  repeat' (first|(refine Ag.IX 2 ?_;refine Ag.ghost (Ba.freeze 30 rfl rfl) ?_)|apply Ad.assoc|apply Ad.AA|apply Ad.AZ|apply AO.normal|apply AL.exit|apply Aw.exit|apply Ad.ret|apply Ag.nil|apply Ag.one|(apply Aa.assign;rfl)|(apply Aa.move;rfl)|(apply Aa.int;rfl;rfl;rfl)|(apply Aa.load;rfl;rfl)|(apply Aa.BI;rfl;rfl)|(apply Aa.AU;rfl;rfl;rfl)|(apply Ad.Af;rfl)|(intro _;try (exfalso;omega)))
  all_goals first|(exfalso;omega)|(refine Done.ret rfl (.refl _) (by first|exact trivial|exact ⟨trivial,trivial,trivial⟩|exact ⟨trivial,trivial,trivial,trivial⟩) Aj.nil (Nat.zero_le _) (Nat.le_refl _) ⟨?_,rfl,rfl⟩;try rfl)
def Io (o:ET) (rg:Rgs) (k:Nat):List PN:=((BG o).take k).filter (Gl rg)
theorem bJ (o:ET) (rg:Rgs) {k:Nat} (h:k<(BG o).length):Io o rg (k+1)=if Gl rg (gi (BG o) k)=true then Io o rg k++[gi (BG o) k] else Io o rg k:=by
 unfold Io
 rw [Dz h,List.filter_append]
 split
 ·rename_i h1;simp [h1]
 ·rename_i h1;simp [h1]
theorem kQ (o:ET) (rg:Rgs) (k:Nat):(Io o rg k).length≤k:=by
 unfold Io
 have:=List.length_filter_le (Gl rg) ((BG o).take k)
 rw [List.length_take] at this
 omega
theorem jo (o:ET) (rg:Rgs):Io o rg (BG o).length=Bc o rg:=by unfold Io Bc;rw [List.take_of_length_le (Nat.le_refl _)]
theorem bK (o:ET) (ho:Jl o) (rg:Rgs) (hr:rg.Ok) (hl:rg.stops.length=o.Az.length) :
 AY env 31 [.agg (Enc.enc o),.agg (Enc.enc rg)] (.p (.lst 85 (cells (Bc o rg)) (Bc o rg).length)):=by
 have hb:=EM ho
 have hs:=Oh o ho
 refine AY.enter (AB (by decide)) Tryz.func31 rfl (by kernel_rfl) (by simp [Tryz.ntmps31]) ?_
 repeat' (first|apply Ad.assoc|apply Ad.AA|apply Ad.Ai|apply Ag.nil|apply Ag.one|(apply Aa.fn;rfl;rfl;exact hs;intro _;rfl)|(apply Aa.assign;rfl)|(apply Aa.load;rfl;rfl)|(apply Aa.box;rfl;trivial))
 all_goals try (exfalso;omega)
 refine Ad.ghost (Ba.adopt 5 85 rfl) ?_
 apply Ad.Fe ((BG o).length) [(3,_),(6,_)] [(1,_)] (fun k r=>(5,.vec 2 (Io o rg k).length 0 (Io o rg k).length)::(7,.p (.int .i64 (k:Int)))::r) (fun k r=>(2,.vec 85 (cells (Io o rg k)) (Io o rg k).length true)::r) 3
 ·first|omega|decide
 ·first|omega|decide
 ·repeat (first|exact Ae.nil|(refine Ae.eq rfl ?_ ?_;(first|exact PV.Ak rfl|(simp [PV.under,AQ.under];done)))|refine Ae.cons trivial rfl (.of_eq (Ar (by simp<;>omega))) ?_)
 ·repeat (first|exact Aj.nil|(refine Aj.eq rfl (Ac rfl) ?_ ?_;(first|exact HB.Ak rfl|exact AQ.Ah _ _|(simp [HB.under,AQ.under,PV.under];done)))|(refine Aj.cons (Ac rfl) ?_ rfl ?_ ?_;(first|exact trivial|exact AQ.Ah _ _|(simp [HB.under,AQ.under,PV.under]));(first|exact Bj.refl _|exact Bj.vec (Bh.refl _) (by simp))))
 ·intro k hk
  obtain ⟨h1,h2⟩:=QB hk
  have s1:=ho.stops _ h1
  have b1:=hr.stops (gi (BG o) k).d (by omega)
  have hq:gi rg.stops (gi (BG o) k).d / 2 ^ (gi (BG o) k).s<18446744073709551616:=Nat.lt_of_le_of_lt (Nat.div_le_self _ _) b1
  have e1:=bJ o rg hk
  have e3:=kQ o rg k
  by_cases hp:Gl rg (gi (BG o) k)=true
  ·rw [if_pos hp] at e1
   have e2:(Io o rg (k+1)).length=(Io o rg k).length+1:=by rw [e1];simp
   have hm:gi rg.stops (gi (BG o) k).d / 2 ^ (gi (BG o) k).s % 2=1:=by simpa [Gl] using hp
   repeat' (first|apply Ad.assoc|apply Ad.AA|apply Ad.BJ|apply Ad.region|apply Ad.Aq|apply Ad.Ai|apply AO.normal|apply AL.normal|apply Ag.nil|apply Ap.nil|apply Ag.one|(apply Ap.bar;decide +kernel)|apply Ap.quiet|(apply Aa.Dl (a:=gi (BG o) k);rfl;rfl;rfl;rfl;rfl;rfl;rfl;rfl;(intro _ h;cases h);rfl;rfl;rfl;decide;decide;(first|omega|(simp only [List.length_take,List.length_drop,List.length_append,List.length_singleton,List.length_cons,List.length_nil]<;>omega)))|(apply Aa.AP (l:=rg.stops) (i:=(gi (BG o) k).d);rfl;rfl;rfl;omega;rfl)|(apply Aa.assign;rfl)|(apply Aa.move;rfl)|(apply Aa.Bv;rfl;rfl;omega)|(apply Aa.wG;rfl;rfl;omega)|(apply Aa.int;rfl;rfl;rfl)|(apply Aa.AP;rfl;rfl;rfl;omega;rfl)|(apply Aa.load;rfl;rfl)|(apply Aa.BI;rfl;rfl)|(apply Aa.AU;rfl;rfl;rfl)|(apply Aa.DK;rfl;rfl)|(apply Aa.buildSlice;rfl;rfl;rfl;decide;rfl;rfl;rfl)|(apply Aa.NP;rfl;rfl;rfl;rfl;omega)|(apply Aa.RI;rfl;rfl;(simp only [IntKind.bits];omega))|(apply Ad.Af;rfl)|(apply Ad.A8;rfl)|(intro _;try (exfalso;omega)))
   all_goals try (exfalso;omega)
   refine Aw.normal ⟨by omega,?_,?_⟩
   ·rw [e2]
    repeat (first|exact Ae.nil|refine Ae.same trivial rfl ?_|refine Ae.same (Ac rfl) rfl ?_|refine Ae.same ⟨trivial,Ac rfl,trivial⟩ rfl ?_|refine Ae.same ⟨trivial,Ac rfl,Ac rfl,trivial⟩ rfl ?_|refine Ae.same ⟨trivial,Ac rfl,Ac rfl,Ac rfl,trivial⟩ rfl ?_|refine Ae.same ⟨trivial,trivial⟩ rfl ?_|refine Ae.cons trivial rfl (.of_eq (Ar (by simp<;>omega))) ?_)
   ·rw [e2,e1]
    repeat (first|exact Aj.nil|(refine Aj.cons (Ac rfl) ?_ rfl ?_ ?_;(first|exact HB.Ak rfl|exact AQ.Ah _ _|(simp [HB.under,AQ.under,PV.under]));(first|exact Bj.refl _|exact Bj.vec (Bh.refl _) (by simp))))
  ·rw [if_neg hp] at e1
   have hm:¬ gi rg.stops (gi (BG o) k).d / 2 ^ (gi (BG o) k).s % 2=1:=by simpa [Gl] using hp
   repeat' (first|apply Ad.assoc|apply Ad.AA|apply Ad.BJ|apply Ad.region|apply Ad.Aq|apply Ad.Ai|apply AO.normal|apply AL.normal|apply Ad.skip|apply Ag.nil|apply Ap.nil|apply Ag.one|(apply Ap.bar;decide +kernel)|apply Ap.quiet|(apply Aa.AP (l:=rg.stops) (i:=(gi (BG o) k).d);rfl;rfl;rfl;omega;rfl)|(apply Aa.assign;rfl)|(apply Aa.move;rfl)|(apply Aa.Bv;rfl;rfl;omega)|(apply Aa.wG;rfl;rfl;omega)|(apply Aa.int;rfl;rfl;rfl)|(apply Aa.AP;rfl;rfl;rfl;omega;rfl)|(apply Aa.load;rfl;rfl)|(apply Aa.BI;rfl;rfl)|(apply Aa.AU;rfl;rfl;rfl)|(apply Aa.DK;rfl;rfl)|(apply Aa.NP;rfl;rfl;rfl;rfl;omega)|(apply Aa.RI;rfl;rfl;(simp only [IntKind.bits];omega))|(apply Ad.Af;rfl)|(apply Ad.A8;rfl)|(intro _;try (exfalso;omega)))
   all_goals try (exfalso;omega)
   refine Aw.normal ⟨by omega,?_,?_⟩
   ·rw [e1]
    repeat (first|exact Ae.nil|refine Ae.same trivial rfl ?_|refine Ae.same (Ac rfl) rfl ?_|refine Ae.same ⟨trivial,Ac rfl,trivial⟩ rfl ?_|refine Ae.same ⟨trivial,Ac rfl,Ac rfl,trivial⟩ rfl ?_|refine Ae.same ⟨trivial,Ac rfl,Ac rfl,Ac rfl,trivial⟩ rfl ?_|refine Ae.same ⟨trivial,trivial⟩ rfl ?_|refine Ae.cons trivial rfl (.of_eq (Ar (by simp<;>omega))) ?_)
   ·rw [e1]
    repeat (first|exact Aj.nil|(refine Aj.cons (Ac rfl) ?_ rfl ?_ ?_;(first|exact HB.Ak rfl|exact AQ.Ah _ _|(simp [HB.under,AQ.under,PV.under]));(first|exact Bj.refl _|exact Bj.vec (Bh.refl _) (by simp))))
 ·rw [jo]
  repeat' (first|(refine Ag.IX 4 ?_;refine Ag.ghost (Ba.freeze 41 rfl rfl) ?_)|apply Ad.assoc|apply Ad.AA|apply Ad.AZ|apply AO.normal|apply AL.exit|apply Aw.exit|apply Ad.ret|apply Ag.nil|apply Ag.one|(apply Aa.assign;rfl)|(apply Aa.move;rfl)|(apply Aa.int;rfl;rfl;rfl)|(apply Aa.BI;rfl;rfl)|(apply Ad.Af;rfl)|(intro _;try (exfalso;omega)))
  all_goals first|(exfalso;omega)|(refine Done.ret rfl (.refl _) (by first|exact trivial|exact ⟨trivial,trivial,trivial⟩|exact ⟨trivial,trivial,trivial,trivial⟩) Aj.nil (Nat.zero_le _) (Nat.le_refl _) ⟨?_,rfl,rfl⟩;try rfl)
theorem VT (o:ET) (ho:Jl o) (p:PN) (hp:Hy o p):AY env 32 [.agg (Enc.enc o),.agg (Enc.enc p)] (st (Nh o p)):=by
 obtain ⟨g1,g2⟩:=ho.sto hp
 obtain ⟨h1,h2⟩:=hp
 have hs1:=ho.stops p.d h1
 unfold Nh
 obtain ⟨s,hs⟩:∃ s,s=EY o p:=⟨_,rfl⟩
 have hs':gi (gi o.Az p.d).stops p.s=s:=hs.symm
 rw [← hs] at g1 g2 ⊢
 have b1:=ho.sm.ranks
 refine AY.enter (AB (by decide)) Tryz.func32 rfl (by kernel_rfl) (by simp [Tryz.ntmps32]) ?_
 repeat' (first|apply Ad.assoc|apply Ad.AA|apply Ad.BJ|apply Ad.Ai|apply Ag.nil|apply Ap.nil|apply Ag.one|(apply Ap.bar;decide +kernel)|apply Ap.quiet|(apply Aa.AP (l:=o.Az) (i:=p.d);rfl;rfl;rfl;exact h1;rfl)|(apply Aa.AP (l:=(gi o.Az p.d).stops) (i:=p.s);rfl;rfl;rfl;exact h2;rfl)|(apply Aa.assign;rfl)|(apply Aa.load;rfl;rfl)|(apply Aa.AU;rfl;rfl;rfl)|(apply Aa.DK;rfl;rfl)|(apply Aa.box;rfl;trivial)|(apply Aa.alloc;rfl)|(apply Aa.Bo;rfl;rfl;rfl;trivial;rfl;rfl;exact Ac rfl;exact le_dec rfl))
 all_goals try (exfalso;omega)
 rw [hs']
 apply Ad.GZ (s.Ez.length) (fun k=>RH o.ranks s s.Ez.length (s.Ez.length-k)=Xr o.ranks s) [(2,_),(5,_)] [(0,_),(2,_)] (fun k r=>(6,.p (.int .i64 (k:Int)))::r) (fun k r=>r) 3
 ·first|omega|decide
 ·first|omega|decide
 ·repeat (first|exact Ae.nil|(refine Ae.eq rfl ?_ ?_;(first|exact PV.Ak rfl|(simp [PV.under,AQ.under];done)))|refine Ae.cons trivial rfl (.of_eq (Ar (by simp<;>omega))) ?_)
 ·repeat (first|exact Aj.nil|(refine Aj.eq rfl (Ac rfl) ?_ ?_;(first|exact HB.Ak rfl|exact AQ.Ah _ _|(simp [HB.under,AQ.under,PV.under];done)))|(refine Aj.cons (Ac rfl) ?_ rfl ?_ ?_;(first|exact trivial|exact AQ.Ah _ _|(simp [HB.under,AQ.under,PV.under]));(first|exact Bj.refl _|exact Bj.vec (Bh.refl _) (by simp))))
 ·first|(intro _ _;omega)|omega|trivial
 ·intro k hk hi
  obtain ⟨g3,g4⟩:=g2 k hk
  by_cases h0:(gi s.Ez k).draws.length=0
  ·repeat' (first|apply Ad.assoc|apply Ad.AA|apply Ad.region|apply Ad.Aq|apply Ad.Ai|apply AO.normal|apply AL.normal|apply Ad.skip|apply Ag.nil|apply Ag.one|(apply Aa.assign;rfl)|(apply Aa.move;rfl)|(apply Aa.Bv;rfl;rfl;omega)|(apply Aa.int;rfl;rfl;rfl)|(apply Aa.AP;rfl;rfl;rfl;omega;rfl)|(apply Aa.load;rfl;rfl)|(apply Aa.BI;rfl;rfl)|(apply Aa.AU;rfl;rfl;rfl)|(apply Aa.DK;rfl;rfl)|(apply Ad.Af;rfl)|(apply Ad.A8;rfl)|(intro _;try (exfalso;omega)))
   all_goals try (exfalso;omega)
   refine Aw.normal ⟨((VI hk h0).symm.trans hi),by first|omega|decide,?_,?_⟩
   ·repeat (first|exact Ae.nil|refine Ae.same trivial rfl ?_|refine Ae.same (Ac rfl) rfl ?_|refine Ae.same ⟨trivial,Ac rfl,trivial⟩ rfl ?_|refine Ae.same ⟨trivial,Ac rfl,Ac rfl,trivial⟩ rfl ?_|refine Ae.same ⟨trivial,Ac rfl,Ac rfl,Ac rfl,trivial⟩ rfl ?_|refine Ae.same ⟨trivial,trivial⟩ rfl ?_|refine Ae.cons trivial rfl (.of_eq (Ar (by simp<;>omega))) ?_)
   ·repeat (first|exact Aj.nil|(refine Aj.cons (Ac rfl) ?_ rfl ?_ ?_;(first|exact HB.Ak rfl|exact AQ.Ah _ _|(simp [HB.under,AQ.under,PV.under]));(first|exact Bj.refl _|exact Bj.vec (Bh.refl _) (by simp))))
  ·have g5:=g4 0 (by omega)
   obtain ⟨rn,hrn⟩:∃ rn:Nat,(gi (gi s.Ez k).draws 0).rank=rn:=⟨_,(Int.toNat_of_nonneg g5.1).symm⟩
   have h1:Xr o.ranks s=(gi o.ranks rn).EC:=by
    rw [← hi,YM hk (by omega),hrn];rfl
   rw [h1]
   repeat' (first|apply Ad.assoc|apply Ad.AA|apply Ad.BJ|apply Ad.Aq|apply Ad.Ai|apply AO.ret|apply AL.ret|apply Aw.ret|apply Ad.ret|apply Ag.nil|apply Ap.nil|apply Ag.one|(apply Ap.bar;decide +kernel)|apply Ap.quiet|(apply Aa.AP (l:=o.ranks) (i:=rn);rfl;(first|exact congrArg (fun a=>some (PV.p (.int .i64 a))) hrn|rfl);rfl;omega;rfl)|(apply Aa.assign;rfl)|(apply Aa.move;rfl)|(apply Aa.int;rfl;rfl;rfl)|(apply Aa.AP;rfl;rfl;rfl;omega;rfl)|(apply Aa.WY;rfl;rfl;rfl;omega;omega;rfl)|(apply Aa.load;rfl;rfl)|(apply Aa.BI;rfl;rfl)|(apply Aa.AU;rfl;rfl;rfl)|(apply Aa.DK;rfl;rfl)|(apply Ad.Af;rfl)|(apply Ad.A8;rfl)|(intro _;try (exfalso;omega)))
   all_goals first|(exfalso;omega)|(refine Done.ret rfl (.refl _) (by first|exact trivial|exact ⟨trivial,trivial,trivial⟩|exact ⟨trivial,trivial,trivial,trivial⟩) Aj.nil (Nat.zero_le _) (Nat.le_refl _) ⟨?_,rfl,rfl⟩;try rfl)
 ·intro hi
  have h1:Xr o.ranks s=[]:=by rw [← hi,Nat.sub_self];rfl
  rw [h1]
  repeat' (first|apply Ad.assoc|apply Ad.AA|apply Ad.AZ|apply AO.normal|apply AL.exit|apply Aw.exit|apply Ad.ret|apply Ag.nil|apply Ag.one|(apply Aa.assign;rfl)|(apply Aa.move;rfl)|(apply Aa.int;rfl;rfl;rfl)|(apply Aa.load;rfl;rfl)|(apply Aa.BI;rfl;rfl)|(apply Aa.AU;rfl;rfl;rfl)|(apply Ad.Af;rfl)|(intro _;try (exfalso;omega)))
  all_goals first|(exfalso;omega)|(refine Done.ret rfl (.refl _) (by first|exact trivial|exact ⟨trivial,trivial,trivial⟩|exact ⟨trivial,trivial,trivial,trivial⟩) Aj.nil (Nat.zero_le _) (Nat.le_refl _) ⟨?_,rfl,rfl⟩;try rfl)
def o7 (F T:ET) (a b:PN):Int:=(BZ (EY F a).Dp (EY T b).Dp).1
def ShS (F T:ET):Prop:=∀ a b,Hy F a→Hy T b→-1000≤o7 F T a b∧o7 F T a b≤1000∧max (o7 F T a b) (-o7 F T a b)=max (rW F T a b) (-rW F T a b)
theorem aG (q:RJ) (k1:Jl q.BD) (k2:Jl q.tgt) (hw:Nc q.DX) (hs:ShS q.BD q.tgt) (hr:q.reg.Ok) (hl:q.reg.stops.length=q.BD.Az.length) :
 AY env 16 [.agg (Enc.enc q)] (.p (.lst 52 (cells (KN q.BD q.tgt q.reg q.DX)) (KN q.BD q.tgt q.reg q.DX).length)):=by
 have hdr:=bK q.BD k1 q.reg hr hl
 have hst:=Oh q.tgt k2
 have b1:=EM k2
 have b2:(Bc q.BD q.reg).length≤480:=by
  have:=EM k1
  have:(Bc q.BD q.reg).length≤(BG q.BD).length:=List.length_filter_le _ _
  omega
 obtain ⟨t,_,p,_⟩:=Nw hw
 refine AY.enter (AB (by decide)) Tryz.func16 rfl (by kernel_rfl) (by simp [Tryz.ntmps16]) ?_
 repeat' (first|apply Ad.assoc|apply Ad.AA|apply Ad.BJ|apply Ad.Ai|apply Ag.nil|apply Ap.nil|apply Ag.one|(apply Ap.bar;decide +kernel)|apply Ap.quiet|(apply Aa.fn;rfl;rfl;exact hdr;intro _;rfl)|(apply Aa.fn;rfl;rfl;exact hst;intro _;rfl)|(apply Aa.assign;rfl)|(apply Aa.load;rfl;rfl)|(apply Aa.AU;rfl;rfl;rfl)|(apply Aa.box;rfl;trivial))
 all_goals try (exfalso;omega)
 refine Ad.ghost (Ba.adopt 5 52 rfl) ?_
 apply Ad.Fe ((Bc q.BD q.reg).length) [(1,_),(3,_),(4,_)] [(0,_)] (fun k r=>(5,.vec 1 (F7 q.BD q.tgt q.reg q.DX k).length 0 (F7 q.BD q.tgt q.reg q.DX k).length)::(6,.p (.int .i64 (k:Int)))::r) (fun k r=>(1,.vec 52 (cells (F7 q.BD q.tgt q.reg q.DX k)) (F7 q.BD q.tgt q.reg q.DX k).length true)::r) 2
 ·first|omega|decide
 ·first|omega|decide
 ·repeat (first|exact Ae.nil|(refine Ae.eq rfl ?_ ?_;(first|exact PV.Ak rfl|(simp [PV.under,AQ.under];done)))|refine Ae.cons trivial rfl (.of_eq (Ar (by simp<;>omega))) ?_)
 ·repeat (first|exact Aj.nil|(refine Aj.eq rfl (Ac rfl) ?_ ?_;(first|exact HB.Ak rfl|exact AQ.Ah _ _|(simp [HB.under,AQ.under,PV.under];done)))|(refine Aj.cons (Ac rfl) ?_ rfl ?_ ?_;(first|exact trivial|exact AQ.Ah _ _|(simp [HB.under,AQ.under,PV.under]));(first|exact Bj.refl _|exact Bj.vec (Bh.refl _) (by simp))))
 ·intro k hk
  have ha:Hy q.BD (gi (Bc q.BD q.reg) k):=RX (Zy hk)
  have e1:=WI q.BD q.tgt q.reg q.DX hk
  have e2:(F7 q.BD q.tgt q.reg q.DX (k+1)).length=(F7 q.BD q.tgt q.reg q.DX k).length+1:=by rw [e1];simp
  have e3:=Y0 q.BD q.tgt q.reg q.DX (Nat.le_of_lt hk)
  have ht1:=VT q.BD k1 _ ha
  repeat' (first|apply Ad.assoc|apply Ad.AA|apply Ad.BJ|apply Ad.Aq|apply Ad.Ai|apply Ag.nil|apply Ap.nil|apply Ag.one|(apply Ap.bar;decide +kernel)|apply Ap.quiet|(apply Aa.AP (l:=q.BD.Az) (i:=(gi (Bc q.BD q.reg) k).d);rfl;rfl;rfl;exact ha.1;rfl)|(apply Aa.assign;rfl)|(apply Aa.move;rfl)|(apply Aa.int;rfl;rfl;rfl)|(apply Aa.AP;rfl;rfl;rfl;omega;rfl)|(apply Aa.load;rfl;rfl)|(apply Aa.BI;rfl;rfl)|(apply Aa.AU;rfl;rfl;rfl)|(apply Aa.DK;rfl;rfl)|(apply Aa.alloc;rfl)|(apply Aa.Bo;rfl;rfl;rfl;trivial;rfl;rfl;exact Ac rfl;exact le_dec rfl)|(apply Ad.Af;rfl)|(intro _;try (exfalso;omega)))
  all_goals try (exfalso;omega)
  refine Ad.ghost (Ba.adopt 7 3 rfl) ?_
  apply Ad.Fe ((BG q.tgt).length) [(1,_),(3,_),(4,_),(5,_),(6,_),(8,_)] [(0,_),(1,_),(2,_)] (fun k_ r=>(7,.vec 3 (Ku q.BD q.tgt q.DX (gi (Bc q.BD q.reg) k) k_).length 0 (Ku q.BD q.tgt q.DX (gi (Bc q.BD q.reg) k) k_).length)::(9,.p (.int .i64 (k_:Int)))::r) (fun k_ r=>(3,.vec 3 (cells (Ku q.BD q.tgt q.DX (gi (Bc q.BD q.reg) k) k_)) (Ku q.BD q.tgt q.DX (gi (Bc q.BD q.reg) k) k_).length true)::r) 4
  ·first|omega|decide
  ·first|omega|decide
  ·repeat (first|exact Ae.nil|(refine Ae.eq rfl ?_ ?_;(first|exact PV.Ak rfl|(simp [PV.under,AQ.under];done)))|refine Ae.cons trivial rfl (.of_eq (Ar (by simp<;>omega))) ?_)
  ·repeat (first|exact Aj.nil|(refine Aj.eq rfl (Ac rfl) ?_ ?_;(first|exact HB.Ak rfl|exact AQ.Ah _ _|(simp [HB.under,AQ.under,PV.under];done)))|(refine Aj.cons (Ac rfl) ?_ rfl ?_ ?_;(first|exact trivial|exact AQ.Ah _ _|(simp [HB.under,AQ.under,PV.under]));(first|exact Bj.refl _|exact Bj.vec (Bh.refl _) (by simp))))
  ·intro j hj
   have hb:Hy q.tgt (gi (BG q.tgt) j):=QB hj
   have ht2:=VT q.tgt k2 _ hb
   have f1:=Yn q.BD q.tgt q.DX (gi (Bc q.BD q.reg) k) hj
   have f2:(Ku q.BD q.tgt q.DX (gi (Bc q.BD q.reg) k) (j+1)).length=(Ku q.BD q.tgt q.DX (gi (Bc q.BD q.reg) k) j).length+1:=by rw [f1];simp
   have f3:=Qq q.BD q.tgt q.DX (gi (Bc q.BD q.reg) k) (Nat.le_of_lt hj)
   obtain ⟨s1,s2,s3⟩:=hs _ _ ha hb
   have hsh:=KE (EY q.BD (gi (Bc q.BD q.reg) k)).Dp (EY q.tgt (gi (BG q.tgt) j)).Dp
   have hP:=NS hw s1 s2
   have hmul:-9223372036854775808≤q.DX.FN*max (o7 q.BD q.tgt (gi (Bc q.BD q.reg) k) (gi (BG q.tgt) j)) (-o7 q.BD q.tgt (gi (Bc q.BD q.reg) k) (gi (BG q.tgt) j))∧q.DX.FN*max (o7 q.BD q.tgt (gi (Bc q.BD q.reg) k) (gi (BG q.tgt) j)) (-o7 q.BD q.tgt (gi (Bc q.BD q.reg) k) (gi (BG q.tgt) j))<9223372036854775808:=by omega
   have hV:Jk q.BD q.tgt q.DX (gi (Bc q.BD q.reg) k) (gi (BG q.tgt) j)=(if Nh q.BD (gi (Bc q.BD q.reg) k)=Nh q.tgt (gi (BG q.tgt) j) then 0 else q.DX.EC)+q.DX.FN*max (o7 q.BD q.tgt (gi (Bc q.BD q.reg) k) (gi (BG q.tgt) j)) (-o7 q.BD q.tgt (gi (Bc q.BD q.reg) k) (gi (BG q.tgt) j))+(if (gi q.BD.Az (gi (Bc q.BD q.reg) k).d).Dk=(gi q.tgt.Az (gi (BG q.tgt) j).d).Dk then 0 else q.DX.Dk):=by
    unfold Jk;rw [s3]
   rw [show (BZ (EY q.BD (gi (Bc q.BD q.reg) k)).Dp (EY q.tgt (gi (BG q.tgt) j)).Dp).1=o7 q.BD q.tgt (gi (Bc q.BD q.reg) k) (gi (BG q.tgt) j) from rfl] at hsh
   generalize hn:o7 q.BD q.tgt (gi (Bc q.BD q.reg) k) (gi (BG q.tgt) j)=n at *
   by_cases c1:Nh q.BD (gi (Bc q.BD q.reg) k)=Nh q.tgt (gi (BG q.tgt) j)
   ·rw [if_pos c1] at hV
    have d1:=decide_eq_true c1
    by_cases c2:(gi q.BD.Az (gi (Bc q.BD q.reg) k).d).Dk=(gi q.tgt.Az (gi (BG q.tgt) j).d).Dk
    ·rw [if_pos c2] at hV
     have d2:((gi q.BD.Az (gi (Bc q.BD q.reg) k).d).Dk != (gi q.tgt.Az (gi (BG q.tgt) j).d).Dk)=false:=by rw [c2];simp
     have hval:Jk q.BD q.tgt q.DX (gi (Bc q.BD q.reg) k) (gi (BG q.tgt) j)=q.DX.FN*max n (-n):=by omega
     repeat' (first|apply Ad.assoc|apply Ad.AA|apply Ad.BJ|apply Ad.region|apply Ad.Aq|apply Ad.Ai|apply AO.normal|apply AL.normal|apply Ag.nil|apply Ap.nil|apply Ag.one|(apply Ap.bar;decide +kernel)|apply Ap.quiet|(apply Aa.fn;rfl;rfl;exact hsh;intro _;rfl)|(apply Aa.fn;rfl;rfl;exact ht1;intro _;rfl)|(apply Aa.fn;rfl;rfl;exact ht2;intro _;rfl)|(apply Aa.Dl (a:=q.DX.FN*max n (-n));rfl;rfl;rfl;rfl;rfl;rfl;rfl;rfl;(intro _ h;cases h);rfl;rfl;rfl;decide;decide;(first|omega|(simp only [List.length_take,List.length_drop,List.length_append,List.length_singleton,List.length_cons,List.length_nil]<;>omega)))|(apply Aa.gZ;rfl;rfl;exact d1)|(apply Aa.gW;rfl;rfl;rfl;exact d2)|(apply Aa.Iy;rfl;rfl;exact hmul)|(apply Aa.AP (l:=q.tgt.Az) (i:=(gi (BG q.tgt) j).d);rfl;rfl;rfl;exact hb.1;rfl)|(apply Aa.AP (l:=(gi q.BD.Az (gi (Bc q.BD q.reg) k).d).stops) (i:=(gi (Bc q.BD q.reg) k).s);rfl;rfl;rfl;exact ha.2;rfl)|(apply Aa.AP (l:=(gi q.tgt.Az (gi (BG q.tgt) j).d).stops) (i:=(gi (BG q.tgt) j).s);rfl;rfl;rfl;exact hb.2;rfl)|(apply Aa.assign;rfl)|(apply Aa.move;rfl)|(apply Aa.Bv;rfl;rfl;omega)|(apply Aa.int;rfl;rfl;rfl)|(apply Aa.AP;rfl;rfl;rfl;omega;rfl)|(apply Aa.load;rfl;rfl)|(apply Aa.BI;rfl;rfl)|(apply Aa.AU;rfl;rfl;rfl)|(apply Aa.DK;rfl;rfl)|(apply Aa.alloc;rfl)|(apply Aa.Bo;rfl;rfl;rfl;trivial;rfl;rfl;exact Ac rfl;exact le_dec rfl)|(apply Aa.buildSlice;rfl;rfl;rfl;decide;rfl;rfl;rfl)|(apply Aa.neg;rfl;omega)|(apply Aa.X8;rfl;rfl)|(apply Aa.extract;rfl;rfl)|(apply Ad.Au;rfl)|(apply Ad.Af;rfl)|(intro _;try (exfalso;omega)))
     all_goals try (exfalso;omega)
     refine Aw.normal ⟨by omega,?_,?_⟩
     ·rw [f2]
      repeat (first|exact Ae.nil|refine Ae.same trivial rfl ?_|refine Ae.same (Ac rfl) rfl ?_|refine Ae.same ⟨trivial,Ac rfl,trivial⟩ rfl ?_|refine Ae.same ⟨trivial,Ac rfl,Ac rfl,trivial⟩ rfl ?_|refine Ae.same ⟨trivial,Ac rfl,Ac rfl,Ac rfl,trivial⟩ rfl ?_|refine Ae.same ⟨trivial,trivial⟩ rfl ?_|refine Ae.cons trivial rfl (.of_eq (Ar (by simp<;>omega))) ?_)
     ·rw [f2,f1,hval]
      repeat (first|exact Aj.nil|(refine Aj.cons (Ac rfl) ?_ rfl ?_ ?_;(first|exact HB.Ak rfl|exact AQ.Ah _ _|(simp [HB.under,AQ.under,PV.under]));(first|exact Bj.refl _|exact Bj.vec (Bh.refl _) (by simp))))
    ·rw [if_neg c2] at hV
     have d2:((gi q.BD.Az (gi (Bc q.BD q.reg) k).d).Dk != (gi q.tgt.Az (gi (BG q.tgt) j).d).Dk)=true:=by simp [c2]
     have hval:Jk q.BD q.tgt q.DX (gi (Bc q.BD q.reg) k) (gi (BG q.tgt) j)=q.DX.FN*max n (-n)+q.DX.Dk:=by omega
     repeat' (first|apply Ad.assoc|apply Ad.AA|apply Ad.BJ|apply Ad.region|apply Ad.Aq|apply Ad.Ai|apply AO.normal|apply AL.normal|apply Ag.nil|apply Ap.nil|apply Ag.one|(apply Ap.bar;decide +kernel)|apply Ap.quiet|(apply Aa.fn;rfl;rfl;exact hsh;intro _;rfl)|(apply Aa.fn;rfl;rfl;exact ht1;intro _;rfl)|(apply Aa.fn;rfl;rfl;exact ht2;intro _;rfl)|(apply Aa.Dl (a:=q.DX.FN*max n (-n)+q.DX.Dk);rfl;rfl;rfl;rfl;rfl;rfl;rfl;rfl;(intro _ h;cases h);rfl;rfl;rfl;decide;decide;(first|omega|(simp only [List.length_take,List.length_drop,List.length_append,List.length_singleton,List.length_cons,List.length_nil]<;>omega)))|(apply Aa.gZ;rfl;rfl;exact d1)|(apply Aa.gW;rfl;rfl;rfl;exact d2)|(apply Aa.Iy;rfl;rfl;exact hmul)|(apply Aa.AP (l:=q.tgt.Az) (i:=(gi (BG q.tgt) j).d);rfl;rfl;rfl;exact hb.1;rfl)|(apply Aa.AP (l:=(gi q.BD.Az (gi (Bc q.BD q.reg) k).d).stops) (i:=(gi (Bc q.BD q.reg) k).s);rfl;rfl;rfl;exact ha.2;rfl)|(apply Aa.AP (l:=(gi q.tgt.Az (gi (BG q.tgt) j).d).stops) (i:=(gi (BG q.tgt) j).s);rfl;rfl;rfl;exact hb.2;rfl)|(apply Aa.assign;rfl)|(apply Aa.move;rfl)|(apply Aa.Bv;rfl;rfl;omega)|(apply Aa.int;rfl;rfl;rfl)|(apply Aa.AP;rfl;rfl;rfl;omega;rfl)|(apply Aa.load;rfl;rfl)|(apply Aa.BI;rfl;rfl)|(apply Aa.AU;rfl;rfl;rfl)|(apply Aa.DK;rfl;rfl)|(apply Aa.alloc;rfl)|(apply Aa.Bo;rfl;rfl;rfl;trivial;rfl;rfl;exact Ac rfl;exact le_dec rfl)|(apply Aa.buildSlice;rfl;rfl;rfl;decide;rfl;rfl;rfl)|(apply Aa.neg;rfl;omega)|(apply Aa.X8;rfl;rfl)|(apply Aa.extract;rfl;rfl)|(apply Ad.Bd;rfl)|(apply Ad.Au;rfl)|(apply Ad.Af;rfl)|(intro _;try (exfalso;omega)))
     all_goals try (exfalso;omega)
     refine Aw.normal ⟨by omega,?_,?_⟩
     ·rw [f2]
      repeat (first|exact Ae.nil|refine Ae.same trivial rfl ?_|refine Ae.same (Ac rfl) rfl ?_|refine Ae.same ⟨trivial,Ac rfl,trivial⟩ rfl ?_|refine Ae.same ⟨trivial,Ac rfl,Ac rfl,trivial⟩ rfl ?_|refine Ae.same ⟨trivial,Ac rfl,Ac rfl,Ac rfl,trivial⟩ rfl ?_|refine Ae.same ⟨trivial,trivial⟩ rfl ?_|refine Ae.cons trivial rfl (.of_eq (Ar (by simp<;>omega))) ?_)
     ·rw [f2,f1,hval]
      repeat (first|exact Aj.nil|(refine Aj.cons (Ac rfl) ?_ rfl ?_ ?_;(first|exact HB.Ak rfl|exact AQ.Ah _ _|(simp [HB.under,AQ.under,PV.under]));(first|exact Bj.refl _|exact Bj.vec (Bh.refl _) (by simp))))
   ·rw [if_neg c1] at hV
    have d1:=decide_eq_false c1
    by_cases c2:(gi q.BD.Az (gi (Bc q.BD q.reg) k).d).Dk=(gi q.tgt.Az (gi (BG q.tgt) j).d).Dk
    ·rw [if_pos c2] at hV
     have d2:((gi q.BD.Az (gi (Bc q.BD q.reg) k).d).Dk != (gi q.tgt.Az (gi (BG q.tgt) j).d).Dk)=false:=by rw [c2];simp
     have hval:Jk q.BD q.tgt q.DX (gi (Bc q.BD q.reg) k) (gi (BG q.tgt) j)=q.DX.FN*max n (-n)+q.DX.EC:=by omega
     repeat' (first|apply Ad.assoc|apply Ad.AA|apply Ad.BJ|apply Ad.region|apply Ad.Aq|apply Ad.Ai|apply AO.normal|apply AL.normal|apply Ag.nil|apply Ap.nil|apply Ag.one|(apply Ap.bar;decide +kernel)|apply Ap.quiet|(apply Aa.fn;rfl;rfl;exact hsh;intro _;rfl)|(apply Aa.fn;rfl;rfl;exact ht1;intro _;rfl)|(apply Aa.fn;rfl;rfl;exact ht2;intro _;rfl)|(apply Aa.Dl (a:=q.DX.FN*max n (-n)+q.DX.EC);rfl;rfl;rfl;rfl;rfl;rfl;rfl;rfl;(intro _ h;cases h);rfl;rfl;rfl;decide;decide;(first|omega|(simp only [List.length_take,List.length_drop,List.length_append,List.length_singleton,List.length_cons,List.length_nil]<;>omega)))|(apply Aa.gZ;rfl;rfl;exact d1)|(apply Aa.gW;rfl;rfl;rfl;exact d2)|(apply Aa.Iy;rfl;rfl;exact hmul)|(apply Aa.AP (l:=q.tgt.Az) (i:=(gi (BG q.tgt) j).d);rfl;rfl;rfl;exact hb.1;rfl)|(apply Aa.AP (l:=(gi q.BD.Az (gi (Bc q.BD q.reg) k).d).stops) (i:=(gi (Bc q.BD q.reg) k).s);rfl;rfl;rfl;exact ha.2;rfl)|(apply Aa.AP (l:=(gi q.tgt.Az (gi (BG q.tgt) j).d).stops) (i:=(gi (BG q.tgt) j).s);rfl;rfl;rfl;exact hb.2;rfl)|(apply Aa.assign;rfl)|(apply Aa.move;rfl)|(apply Aa.Bv;rfl;rfl;omega)|(apply Aa.int;rfl;rfl;rfl)|(apply Aa.AP;rfl;rfl;rfl;omega;rfl)|(apply Aa.load;rfl;rfl)|(apply Aa.BI;rfl;rfl)|(apply Aa.AU;rfl;rfl;rfl)|(apply Aa.DK;rfl;rfl)|(apply Aa.alloc;rfl)|(apply Aa.Bo;rfl;rfl;rfl;trivial;rfl;rfl;exact Ac rfl;exact le_dec rfl)|(apply Aa.buildSlice;rfl;rfl;rfl;decide;rfl;rfl;rfl)|(apply Aa.neg;rfl;omega)|(apply Aa.X8;rfl;rfl)|(apply Aa.extract;rfl;rfl)|(apply Ad.Bd;rfl)|(apply Ad.Au;rfl)|(apply Ad.Af;rfl)|(intro _;try (exfalso;omega)))
     all_goals try (exfalso;omega)
     refine Aw.normal ⟨by omega,?_,?_⟩
     ·rw [f2]
      repeat (first|exact Ae.nil|refine Ae.same trivial rfl ?_|refine Ae.same (Ac rfl) rfl ?_|refine Ae.same ⟨trivial,Ac rfl,trivial⟩ rfl ?_|refine Ae.same ⟨trivial,Ac rfl,Ac rfl,trivial⟩ rfl ?_|refine Ae.same ⟨trivial,Ac rfl,Ac rfl,Ac rfl,trivial⟩ rfl ?_|refine Ae.same ⟨trivial,trivial⟩ rfl ?_|refine Ae.cons trivial rfl (.of_eq (Ar (by simp<;>omega))) ?_)
     ·rw [f2,f1,hval]
      repeat (first|exact Aj.nil|(refine Aj.cons (Ac rfl) ?_ rfl ?_ ?_;(first|exact HB.Ak rfl|exact AQ.Ah _ _|(simp [HB.under,AQ.under,PV.under]));(first|exact Bj.refl _|exact Bj.vec (Bh.refl _) (by simp))))
    ·rw [if_neg c2] at hV
     have d2:((gi q.BD.Az (gi (Bc q.BD q.reg) k).d).Dk != (gi q.tgt.Az (gi (BG q.tgt) j).d).Dk)=true:=by simp [c2]
     have hval:Jk q.BD q.tgt q.DX (gi (Bc q.BD q.reg) k) (gi (BG q.tgt) j)=q.DX.FN*max n (-n)+q.DX.EC+q.DX.Dk:=by omega
     repeat' (first|apply Ad.assoc|apply Ad.AA|apply Ad.BJ|apply Ad.region|apply Ad.Aq|apply Ad.Ai|apply AO.normal|apply AL.normal|apply Ag.nil|apply Ap.nil|apply Ag.one|(apply Ap.bar;decide +kernel)|apply Ap.quiet|(apply Aa.fn;rfl;rfl;exact hsh;intro _;rfl)|(apply Aa.fn;rfl;rfl;exact ht1;intro _;rfl)|(apply Aa.fn;rfl;rfl;exact ht2;intro _;rfl)|(apply Aa.Dl (a:=q.DX.FN*max n (-n)+q.DX.EC+q.DX.Dk);rfl;rfl;rfl;rfl;rfl;rfl;rfl;rfl;(intro _ h;cases h);rfl;rfl;rfl;decide;decide;(first|omega|(simp only [List.length_take,List.length_drop,List.length_append,List.length_singleton,List.length_cons,List.length_nil]<;>omega)))|(apply Aa.gZ;rfl;rfl;exact d1)|(apply Aa.gW;rfl;rfl;rfl;exact d2)|(apply Aa.Iy;rfl;rfl;exact hmul)|(apply Aa.AP (l:=q.tgt.Az) (i:=(gi (BG q.tgt) j).d);rfl;rfl;rfl;exact hb.1;rfl)|(apply Aa.AP (l:=(gi q.BD.Az (gi (Bc q.BD q.reg) k).d).stops) (i:=(gi (Bc q.BD q.reg) k).s);rfl;rfl;rfl;exact ha.2;rfl)|(apply Aa.AP (l:=(gi q.tgt.Az (gi (BG q.tgt) j).d).stops) (i:=(gi (BG q.tgt) j).s);rfl;rfl;rfl;exact hb.2;rfl)|(apply Aa.assign;rfl)|(apply Aa.move;rfl)|(apply Aa.Bv;rfl;rfl;omega)|(apply Aa.int;rfl;rfl;rfl)|(apply Aa.AP;rfl;rfl;rfl;omega;rfl)|(apply Aa.load;rfl;rfl)|(apply Aa.BI;rfl;rfl)|(apply Aa.AU;rfl;rfl;rfl)|(apply Aa.DK;rfl;rfl)|(apply Aa.alloc;rfl)|(apply Aa.Bo;rfl;rfl;rfl;trivial;rfl;rfl;exact Ac rfl;exact le_dec rfl)|(apply Aa.buildSlice;rfl;rfl;rfl;decide;rfl;rfl;rfl)|(apply Aa.neg;rfl;omega)|(apply Aa.X8;rfl;rfl)|(apply Aa.extract;rfl;rfl)|(apply Ad.Bd;rfl)|(apply Ad.Af;rfl)|(intro _;try (exfalso;omega)))
     all_goals try (exfalso;omega)
     refine Aw.normal ⟨by omega,?_,?_⟩
     ·rw [f2]
      repeat (first|exact Ae.nil|refine Ae.same trivial rfl ?_|refine Ae.same (Ac rfl) rfl ?_|refine Ae.same ⟨trivial,Ac rfl,trivial⟩ rfl ?_|refine Ae.same ⟨trivial,Ac rfl,Ac rfl,trivial⟩ rfl ?_|refine Ae.same ⟨trivial,Ac rfl,Ac rfl,Ac rfl,trivial⟩ rfl ?_|refine Ae.same ⟨trivial,trivial⟩ rfl ?_|refine Ae.cons trivial rfl (.of_eq (Ar (by simp<;>omega))) ?_)
     ·rw [f2,f1,hval]
      repeat (first|exact Aj.nil|(refine Aj.cons (Ac rfl) ?_ rfl ?_ ?_;(first|exact HB.Ak rfl|exact AQ.Ah _ _|(simp [HB.under,AQ.under,PV.under]));(first|exact Bj.refl _|exact Bj.vec (Bh.refl _) (by simp))))
  ·have f3:=Qq q.BD q.tgt q.DX (gi (Bc q.BD q.reg) k) (Nat.le_refl (BG q.tgt).length)
   repeat' (first|(refine Ag.IX 122 ?_;refine Ag.ghost (Ba.freeze 121 rfl rfl) ?_)|apply Ad.assoc|apply Ad.AA|apply Ad.region|apply Ad.AZ|apply AO.normal|apply AL.normal|apply AL.exit|apply Aw.exit|apply Ag.nil|apply Ag.one|(apply Aa.Dl (a:=Ku q.BD q.tgt q.DX (gi (Bc q.BD q.reg) k) (BG q.tgt).length);rfl;rfl;rfl;rfl;rfl;rfl;rfl;rfl;(intro _ h;cases h);rfl;rfl;rfl;decide;decide;(first|omega|(simp only [List.length_take,List.length_drop,List.length_append,List.length_singleton,List.length_cons,List.length_nil]<;>omega)))|(apply Aa.assign;rfl)|(apply Aa.move;rfl)|(apply Aa.Bv;rfl;rfl;omega)|(apply Aa.int;rfl;rfl;rfl)|(apply Aa.BI;rfl;rfl)|(apply Aa.buildSlice;rfl;rfl;rfl;decide;rfl;rfl;rfl)|(apply Ad.Af;rfl)|(intro _;try (exfalso;omega)))
   all_goals try (exfalso;omega)
   refine Aw.normal ⟨by omega,?_,?_⟩
   ·rw [e2]
    repeat (first|exact Ae.nil|refine Ae.same trivial rfl ?_|refine Ae.same (Ac rfl) rfl ?_|refine Ae.same ⟨trivial,Ac rfl,trivial⟩ rfl ?_|refine Ae.same ⟨trivial,Ac rfl,Ac rfl,trivial⟩ rfl ?_|refine Ae.same ⟨trivial,Ac rfl,Ac rfl,Ac rfl,trivial⟩ rfl ?_|refine Ae.same ⟨trivial,trivial⟩ rfl ?_|refine Ae.cons trivial rfl (.of_eq (Ar (by simp<;>omega))) ?_)
   ·rw [e2,e1]
    repeat (first|exact Aj.nil|(refine Aj.cons (Ac rfl) ?_ rfl ?_ ?_;(first|exact HB.Ak rfl|exact AQ.Ah _ _|(simp [HB.under,AQ.under,PV.under]));(first|exact Bj.refl _|exact Bj.vec (Bh.refl _) (by simp))))
 ·rw [Zd]
  repeat' (first|(refine Ag.IX 2 ?_;refine Ag.ghost (Ba.freeze 124 rfl rfl) ?_)|apply Ad.assoc|apply Ad.AA|apply Ad.AZ|apply AO.normal|apply AL.exit|apply Aw.exit|apply Ad.ret|apply Ag.nil|apply Ag.one|(apply Aa.assign;rfl)|(apply Aa.move;rfl)|(apply Aa.int;rfl;rfl;rfl)|(apply Aa.BI;rfl;rfl)|(apply Ad.Af;rfl)|(intro _;try (exfalso;omega)))
  all_goals first|(exfalso;omega)|(refine Done.ret rfl (.refl _) (by first|exact trivial|exact ⟨trivial,trivial,trivial⟩|exact ⟨trivial,trivial,trivial,trivial⟩) Aj.nil (Nat.zero_le _) (Nat.le_refl _) ⟨?_,rfl,rfl⟩;try rfl)
end Go.Proofs.YtdabojnmoejilaaGreatDoor
namespace Go.Proofs.YtdabojnmoejilaaGreatDoor
open Go Go.Am Go.Vm
attribute [local irreducible] Aa Ag Ap Ad BA AY CJ AO AL Aw Vm.Done Dc Bq
def a9y (o:ET):Rgs:=⟨List.replicate o.Az.length 0,0,0⟩
def a5g (o:ET) (k:Nat):Nat:=2 ^ (gi o.Az k).stops.length-1
def b0h (o:ET):Rgs:=⟨a1n (a5g o) (List.replicate o.Az.length 0) o.Az.length,2 ^ o.Gf.length-1,0⟩
def b0b (r:Rgs) (d s:Nat):Rgs:=⟨r.stops.set d (gi r.stops d ||| 2 ^ s),r.cp,r.off⟩
def a1w (a b:Rgs) (k:Nat):Nat:=gi a.stops k ||| gi b.stops k
def a7n (a b:Rgs):Rgs:=⟨a1n (a1w a b) a.stops a.stops.length,a.cp ||| b.cp,a.off ||| b.off⟩
end Go.Proofs.YtdabojnmoejilaaGreatDoor
namespace Go.Proofs.YtdabojnmoejilaaGreatDoor
open Go Go.Am Go.Vm
attribute [local irreducible] Aa Ag Ap Ad BA AY CJ AO AL Aw Vm.Done Dc Bq
theorem WL (x n:Nat):(x &&& (2 ^ n-1)) / 2 ^ n=0:=by
 have h1:x &&& (2 ^ n-1)≤2 ^ n-1:=Nat.and_le_right
 have h2:0<2 ^ n:=Nat.two_pow_pos n
 exact Nat.div_eq_of_lt (by omega)
theorem rD (o:ET) (ho:OZ o) (b:Nat→Nat) (hb:∀ i,b i<256):(TQ o b).Ok:=by
 have r2:=ho.Az
 have l:=JB (Gt o b) o.Az.length
 refine ⟨fun i hi=>?_,?_,?_,?_⟩
 ·have hi:i<(GR (Gt o b) o.Az.length).length:=hi
  rw [l] at hi
  show gi (GR (Gt o b) o.Az.length) i<_
  rw [gU _ hi]
  have:=hb (i % 3)
  have:Gt o b i≤b (i % 3):=Nat.and_le_left
  omega
 ·have:=hb 3
  have:b 3 &&& (2 ^ o.Gf.length-1)≤b 3:=Nat.and_le_left
  show b 3 &&& (2 ^ o.Gf.length-1)<_
  omega
 ·have:=hb 4
  have:b 4 &&& (2 ^ o.Az.length-1)≤b 4:=Nat.and_le_left
  show b 4 &&& (2 ^ o.Az.length-1)<_
  omega
 ·show (GR (Gt o b) o.Az.length).length<_
  omega
theorem jY (o:ET) (b:Nat→Nat):Qm o (TQ o b)=0:=by
 have l:=JB (Gt o b) o.Az.length
 rw [TN (show (GR (Gt o b) o.Az.length).length=_ from l) fun i hi=>?_]
 ·rw [if_neg]
  intro h
  rcases h with h|h
  ·exact h (WL _ _)
  ·exact h (WL _ _)
 ·have hi:i<(GR (Gt o b) o.Az.length).length:=hi
  rw [l] at hi
  show gi (GR (Gt o b) o.Az.length) i / _=0
  rw [gU _ hi]
  exact WL _ _
def b2d (i:Nat):Nat:=if i=4 then 0 else 255
end Go.Proofs.YtdabojnmoejilaaGreatDoor
namespace Go.Proofs.YtdabojnmoejilaaGreatDoor
open Go Go.Am Go.Vm Go.Tra Go.Hun
attribute [local irreducible] Aa Ag Ap Ad BA AY CJ AO AL Aw Vm.Done Dc Bq
structure su where
 BD:pV
 tgt:pV
 bits:Nat→Nat
 w:Nat→Nat
def su.enc (x:su):List FV:=[.lst 150 (cells x.BD.ranks) x.BD.ranks.length,.lst 75 (cells x.BD.Az) x.BD.Az.length,.lst 153 (cells x.BD.links) x.BD.links.length,
 .lst 150 (cells x.tgt.ranks) x.tgt.ranks.length,.lst 75 (cells x.tgt.Az) x.tgt.Az.length,.lst 153 (cells x.tgt.links) x.tgt.links.length,
 .int .u8 (x.bits 0:Int),.int .u8 (x.bits 1:Int),.int .u8 (x.bits 2:Int),.int .u8 (x.bits 3:Int),.int .u8 (x.bits 4:Int),.int .u8 (x.w 0:Int),.int .u8 (x.w 1:Int),.int .u8 (x.w 2:Int),.int .u8 (x.w 3:Int)]
structure su.Ok (x:su):Prop where
 BD:x.BD.Ok
 tgt:x.tgt.Ok
 bits:∀ i,x.bits i<256
 w:∀ i,x.w i<256
def TV (x:su):Prop:=Qx x.BD∧Qx x.tgt
noncomputable instance (x:su):Decidable (TV x):=Classical.propDecidable _
theorem kH (x:su) (hx:x.Ok):AY env 13 [.agg x.enc] (.p (.bool (decide (TV x)))):=by
 have h1:=Yj x.BD hx.BD
 have h2:=Yj x.tgt hx.tgt
 refine AY.enter (AB (by decide)) Tryz.func13 rfl (by kernel_rfl) (by simp [Tryz.ntmps13]) ?_
 by_cases c1:Qx x.BD
 ·rw [decide_eq_true c1] at h1
  by_cases c2:Qx x.tgt
  ·rw [decide_eq_true c2] at h2
   rw [decide_eq_true (p:=TV x) ⟨c1,c2⟩]
   repeat' (first|apply Ad.AA|apply Ad.ret|apply Ag.nil|apply Ag.one|(apply Ag.take;rfl;rfl)|(apply Aa.fn;rfl;rfl;exact h1;intro _;rfl)|(apply Aa.fn;rfl;rfl;exact h2;intro _;rfl)|(apply Aa.assign;rfl)|(apply Aa.move;rfl)|(apply Aa.load;rfl;rfl)|(apply Aa.BH;rfl;rfl)|(apply Aa.AU;rfl;rfl;rfl)|(apply Aa.box;rfl;trivial))
   all_goals first|(exfalso;omega)|contradiction|(refine Done.ret rfl (.refl _) (by first|exact trivial|exact ⟨trivial,trivial,trivial⟩|exact ⟨trivial,trivial,trivial,trivial⟩) Aj.nil (Nat.zero_le _) (Nat.le_refl _) ⟨?_,rfl,rfl⟩;try rfl)
  ·rw [decide_eq_false c2] at h2
   rw [decide_eq_false (p:=TV x) (fun h=>c2 h.2)]
   repeat' (first|apply Ad.AA|apply Ad.ret|apply Ag.nil|apply Ag.one|(apply Ag.take;rfl;rfl)|(apply Aa.fn;rfl;rfl;exact h1;intro _;rfl)|(apply Aa.fn;rfl;rfl;exact h2;intro _;rfl)|(apply Aa.assign;rfl)|(apply Aa.move;rfl)|(apply Aa.load;rfl;rfl)|(apply Aa.BH;rfl;rfl)|(apply Aa.AU;rfl;rfl;rfl)|(apply Aa.box;rfl;trivial))
   all_goals first|(exfalso;omega)|contradiction|(refine Done.ret rfl (.refl _) (by first|exact trivial|exact ⟨trivial,trivial,trivial⟩|exact ⟨trivial,trivial,trivial,trivial⟩) Aj.nil (Nat.zero_le _) (Nat.le_refl _) ⟨?_,rfl,rfl⟩;try rfl)
 ·rw [decide_eq_false c1] at h1
  rw [decide_eq_false (p:=TV x) (fun h=>c1 h.1)]
  repeat' (first|apply Ad.AA|apply Ad.ret|apply Ag.nil|apply Ag.one|(apply Ag.drop;rfl;rfl;rfl)|(apply Aa.fn;rfl;rfl;exact h1;intro _;rfl)|(apply Aa.assign;rfl)|(apply Aa.move;rfl)|(apply Aa.load;rfl;rfl)|(apply Aa.AV;rfl;rfl)|(apply Aa.AU;rfl;rfl;rfl)|(apply Aa.box;rfl;trivial))
  all_goals first|(exfalso;omega)|contradiction|(refine Done.ret rfl (.refl _) (by first|exact trivial|exact ⟨trivial,trivial,trivial⟩|exact ⟨trivial,trivial,trivial,trivial⟩) Aj.nil (Nat.zero_le _) (Nat.le_refl _) ⟨?_,rfl,rfl⟩;try rfl)
def mkW (w:Nat→Nat):aP:=⟨((w 0 % 32:Nat):Int),((w 1 % 8:Nat):Int),((w 2 % 32:Nat):Int),((w 3 % 64:Nat):Int)⟩
noncomputable def mkQ (x:su):RJ:=⟨gG x.BD,TQ (gG x.BD) x.bits,gG x.tgt,mkW x.w⟩
theorem iY (x:su) (hx:x.Ok) (hf:TV x):AY env 14 [.agg x.enc] (.p (.agg (Enc.enc (mkQ x)))):=by
 have h1:=UN x.BD hx.BD hf.1
 have h2:=UN x.tgt hx.tgt hf.2
 have h3:=jr (gG x.BD) (Xc x.BD hx.BD hf.1) x.bits hx.bits
 have w0:=hx.w 0
 have w1:=hx.w 1
 have w2:=hx.w 2
 have w3:=hx.w 3
 obtain ⟨a0,e0⟩:∃ a,a=x.w 0 % 32:=⟨_,rfl⟩
 obtain ⟨a1,e1⟩:∃ a,a=x.w 1 % 8:=⟨_,rfl⟩
 obtain ⟨a2,e2⟩:∃ a,a=x.w 2 % 32:=⟨_,rfl⟩
 obtain ⟨a3,e3⟩:∃ a,a=x.w 3 % 64:=⟨_,rfl⟩
 have eQ:mkQ x=⟨gG x.BD,TQ (gG x.BD) x.bits,gG x.tgt,⟨(a0:Int),(a1:Int),(a2:Int),(a3:Int)⟩⟩:=by rw [e0,e1,e2,e3];rfl
 have v0:E5 .rem .u8 (x.w 0:Int) 32=some (.int .u8 (a0:Int)):=by rw [e0];rfl
 have v1:E5 .rem .u8 (x.w 1:Int) 8=some (.int .u8 (a1:Int)):=by rw [e1];rfl
 have v2:E5 .rem .u8 (x.w 2:Int) 32=some (.int .u8 (a2:Int)):=by rw [e2];rfl
 have v3:E5 .rem .u8 (x.w 3:Int) 64=some (.int .u8 (a3:Int)):=by rw [e3];rfl
 have a0b:a0<256:=by omega
 have a1b:a1<256:=by omega
 have a2b:a2<256:=by omega
 have a3b:a3<256:=by omega
 rw [eQ]
 clear eQ e0 e1 e2 e3
 generalize TQ (gG x.BD) x.bits=r at *
 generalize gG x.BD=F at *
 generalize gG x.tgt=T at *
 refine AY.enter (AB (by decide)) Tryz.func14 rfl (by kernel_rfl) (by simp [Tryz.ntmps14]) ?_
 repeat' (first|apply Ad.AA|apply Ad.BJ|apply Ad.ret|apply Ag.nil|apply Ap.nil|apply Ag.one|(apply Ap.bar;decide +kernel)|apply Ap.quiet|(apply Aa.fn;rfl;rfl;exact h1;intro _;rfl)|(apply Aa.fn;rfl;rfl;exact h2;intro _;rfl)|(apply Aa.fn;rfl;rfl;exact h3;intro _;rfl)|(apply Aa.Vj;rfl;rfl;rfl;rfl;rfl;decide)|(apply Aa.int;rfl;rfl;exact v0)|(apply Aa.int;rfl;rfl;exact v1)|(apply Aa.int;rfl;rfl;exact v2)|(apply Aa.int;rfl;rfl;exact v3)|(apply Aa.load;rfl;rfl)|(apply Aa.AU;rfl;rfl;rfl)|(apply Aa.box;rfl;trivial)|(apply Aa.alloc;rfl)|(apply Aa.Bo;rfl;rfl;rfl;trivial;rfl;rfl;exact Ac rfl;exact le_dec rfl)|(apply Aa.build;rfl;rfl;rfl;rfl;rfl)|(apply Aa.Jh;rfl;rfl;rfl;rfl;omega))
 all_goals first|(exfalso;omega)|(refine Done.ret rfl (.refl _) (by first|exact trivial|exact ⟨trivial,trivial,trivial⟩|exact ⟨trivial,trivial,trivial,trivial⟩) Aj.nil (Nat.zero_le _) (Nat.le_refl _) ⟨?_,rfl,rfl⟩;try rfl)
theorem a1s {w:Nat→Nat}:Nc (mkW w):=fun i hi=>by
 match i,hi with
 |0,_=>show (0:Int)≤((w 0 % 32:Nat):Int)∧((w 0 % 32:Nat):Int)≤100000;omega
 |1,_=>show (0:Int)≤((w 1 % 8:Nat):Int)∧((w 1 % 8:Nat):Int)≤100000;omega
 |2,_=>show (0:Int)≤((w 2 % 32:Nat):Int)∧((w 2 % 32:Nat):Int)≤100000;omega
 |3,_=>show (0:Int)≤((w 3 % 64:Nat):Int)∧((w 3 % 64:Nat):Int)≤100000;omega
theorem OZ.a1d {o:ET} (h:OZ o):(BG o).length≤9:=by
 have h1:=L6 (ns:=O9 o) (K:=3) (fun d hd=>by rw [IV] at hd;rw [Tt o hd];exact h.stops d hd) (O9 o).length (Nat.le_refl _)
 rw [Rk]
 have:=h.Az
 rw [IV] at h1 ⊢
 omega
theorem qM (o:ET) (r:Rgs):(Bc o r).length≤(BG o).length:=List.length_filter_le _ _
theorem oH:∀ a,a<6→∀ b,b<6→(BZ (gi E8 a) (gi E8 b)).2=0∧-1000≤(BZ (gi E8 a) (gi E8 b)).1∧(BZ (gi E8 a) (gi E8 b)).1≤1000 ∧
 max (BZ (gi E8 a) (gi E8 b)).1 (-(BZ (gi E8 a) (gi E8 b)).1)=max (BZ (gi E8 b) (gi E8 a)).1 (-(BZ (gi E8 b) (gi E8 a)).1)∧(a=b→(BZ (gi E8 a) (gi E8 b)).1=0):=by decide +kernel
theorem OZ.Dp {o:ET} (h:OZ o) {p:PN} (hp:Hy o p):∃ a,a<6∧(EY o p).Dp=gi E8 a:=(h.st p.d hp.1 p.s hp.2).2.2
theorem a4x {F T:ET} (hF:OZ F) (hT:OZ T):ShB F T:=fun a b ha hb=>by
 obtain ⟨i,hi,ei⟩:=hF.Dp ha
 obtain ⟨j,hj,ej⟩:=hT.Dp hb
 have:=oH j hj i hi
 unfold rW
 rw [ei,ej]
 exact ⟨this.1,this.2.1,this.2.2.1⟩
theorem a5i {F T:ET} (hF:OZ F) (hT:OZ T):ShS F T:=fun a b ha hb=>by
 obtain ⟨i,hi,ei⟩:=hF.Dp ha
 obtain ⟨j,hj,ej⟩:=hT.Dp hb
 have:=oH i hi j hj
 unfold o7 rW
 rw [ei,ej]
 exact ⟨this.2.1,this.2.2.1,this.2.2.2.1⟩
theorem a5q {F T:ET} {r:Rgs} {w:Nat→Nat} (hF:OZ F) (hT:OZ T) (hr:r.Ok) (he:Qm F r=0):iQ ⟨F,r,T,mkW w⟩:=by
 have h1:=hF.a1d
 have h2:=hT.a1d
 have h3:=qM F r
 refine ⟨hF.sm,hT.sm,hr,?_,a4x hF hT⟩
 unfold iU
 rw [if_neg (fun h=>h hF.ok),if_neg (fun h=>h he),if_neg (fun h=>h hT.ok),if_neg (fun h=>h a1s),if_neg (by show ¬ ((Bc F r).length>60∨(BG T).length>120);omega)]
theorem a3w (x:su) (hx:x.Ok) (hf:TV x):iQ (mkQ x):=a5q (Xc x.BD hx.BD hf.1) (Xc x.tgt hx.tgt hf.2) (rD _ (Xc x.BD hx.BD hf.1) _ hx.bits) (jY _ _)
end Go.Proofs.YtdabojnmoejilaaGreatDoor
namespace Go.Proofs.YtdabojnmoejilaaGreatDoor
open Go Go.Am Go.Vm Go.Tra Go.Hun
attribute [local irreducible] Aa Ag Ap Ad BA AY CJ AO AL Aw Vm.Done Dc Bq
end Go.Proofs.YtdabojnmoejilaaGreatDoor
namespace Go.Vm
open Go.Am
section
variable {P:Program}
structure bI (P:Program) (t e:TypeId):Prop where
 arr:P.underlying t=some (.array 2 e)
 elt:P.underlying e=some (.int .i64)
 agg:F5 P e=some false
 sz:(P.info? e).map (·.size)=some 1
def Vl (a b:Int):Value:=.agg #[.int .i64 a,.int .i64 b]
theorem RS {t e:TypeId} (h:bI P t e) (a b:Int):Ec P (part e #[.int .i64 a,.int .i64 b] 0)=some (.int .i64 a)∧Ec P (part e #[.int .i64 a,.int .i64 b] 1)=some (.int .i64 b) :=
 ⟨Qr h.agg rfl,Qr h.agg rfl⟩
theorem xG {t e:TypeId} (h:bI P t e) (a b c d:Int):Ec P (Op.equal t (Vl a b) (Vl c d))=some (decide (a=c)&&decide (b=d)):=by
 have e1:=RY (P:=P) (d:=9998) h.elt (x:=.int .i64 a) (y:=.int .i64 c) (r:=decide (a=c)) rfl
 have e2:=RY (P:=P) (d:=9998) h.elt (x:=.int .i64 b) (y:=.int .i64 d) (r:=decide (b=d)) rfl
 obtain ⟨p1,p2⟩:=RS h a b
 obtain ⟨p3,p4⟩:=RS h c d
 show Ec P (Op.equalIn 10000 t (Vl a b) (Vl c d))=_
 rw [Op.equalIn]
 simp only [Vl,AX,BF,h.arr,Option.bind_some,FC,h.sz]
 rw [Std.Legacy.Range.forIn_eq_forIn_range']
 show ((Ec P (forIn [0,1] _ _)).bind _)=_
 rw [List.forIn_cons]
 simp only [AX,Nat.zero_mul,p1,p3,e1,Option.bind_some]
 by_cases h1:a=c
 ·rw [decide_eq_true h1]
  simp only [Bool.not_true,Bool.false_eq_true,if_false,CZ,Option.bind_some,List.forIn_cons,List.forIn_nil,AX,Nat.one_mul,p2,p4,e2]
  by_cases h2:b=d
  ·rw [decide_eq_true h2]
   rfl
  ·rw [decide_eq_false h2]
   rfl
 ·rw [decide_eq_false h1]
  rfl
theorem Wh {e:TypeId} (he:P.underlying e=some (.int .i64)) (fl:Bool) (n:Nat) (a:Int):Ec P (Instr.checkKey fl (n+1) e (.int .i64 a))=some ():=by
 rw [Instr.checkKey]
 simp only [AX,BF,he,Option.bind_some]
 rfl
theorem dw {t e:TypeId} (h:bI P t e) (fl:Bool) (a b:Int):gJ P (Instr.checkKey fl 10000 t (Vl a b))=true:=by
 obtain ⟨p1,p2⟩:=RS h a b
 have c1:=Wh h.elt fl 9998 a
 have c2:=Wh h.elt fl 9998 b
 have:Ec P (Instr.checkKey fl 10000 t (Vl a b))=some ():=by
  rw [Instr.checkKey]
  simp only [Vl,AX,BF,h.arr,Option.bind_some]
  rw [Std.Legacy.Range.forIn_eq_forIn_range']
  show ((Ec P (forIn [0,1] _ _)).bind _)=_
  simp only [List.forIn_cons,List.forIn_nil,AX,CZ,Nat.zero_mul,Nat.one_mul,FC,h.sz,p1,p2,c1,c2,Option.bind_some]
 unfold gJ
 rw [this]
abbrev Ja:=List ((Int×Int)×Int)
def SK (es:Ja):List (FV×FV):=es.map fun x=>(.agg [.int .i64 x.1.1,.int .i64 x.1.2],.int .i64 x.2)
def F8:Ja→Int→Int→Option Int
 |[],_,_=>none
 |x::es,a,b=>if a=x.1.1∧b=x.1.2 then some x.2 else F8 es a b
theorem kZ {m:Mem} {F:Nat→Prop}:∀ {es:Ja} {l:List MapEntry},Qs m F (SK es) l→l.map (·.key)=es.map (fun x=>Vl x.1.1 x.1.2)∧l.map (·.val)=es.map fun x=>Value.int .i64 x.2
 |[],[],_=>⟨rfl,rfl⟩
 |[],y::l,h=>by cases h.1
 |x::es,[],h=>by cases h.1
 |x::es,y::l,h=>by
  obtain ⟨h1,h2⟩:=h
  simp only [SK,List.map_cons] at h1 h2
  cases h1 with
  |cons k1 t1 =>
   cases h2 with
   |cons k2 t2 =>
    obtain ⟨e1,e2⟩:=kZ (es:=es) (l:=l) ⟨t1,t2⟩
    simp only [List.map_cons,e1,e2]
    constructor
    ·congr 1
     generalize y.key=k at k1
     cases k1 with
     |agg g hc =>
      cases g with
      |cons g1 g =>
       cases g with
       |cons g2 g =>
        cases g
        cases g1
        cases g2
        rfl
    ·congr 1
     generalize y.val=k at k2
     cases k2;rfl
theorem wL {t e:TypeId} (h:bI P t e) (a b:Int):∀ {es:Ja} {l:List MapEntry},l.map (·.key)=es.map (fun x=>Vl x.1.1 x.1.2)→l.map (·.val)=es.map (fun x=>Value.int .i64 x.2)→∀ (i:Nat),
 (F8 es a b=none→Ec P (Instr.findAsking t (Vl a b) l i)=some none)∧(∀ v,F8 es a b=some v→∃ j,Ec P (Instr.findAsking t (Vl a b) l i)=some (some (j,.int .i64 v)))
 |[],[],_,_,i=>⟨fun _=>rfl,fun v hv=>by cases hv⟩
 |[],y::l,h1,_,_=>by cases h1
 |x::es,[],h1,_,_=>by cases h1
 |x::es,y::l,h1,h2,i=>by
  simp only [List.map_cons,List.cons.injEq] at h1 h2
  obtain ⟨i1,i2⟩:=wL h a b h1.2 h2.2 (i+1)
  rw [Instr.findAsking,h1.1]
  simp only [AX,xG h,Option.bind_some]
  unfold F8
  by_cases hc:a=x.1.1∧b=x.1.2
  ·rw [if_pos hc,decide_eq_true hc.1,decide_eq_true hc.2]
   refine ⟨fun h=>(by cases h),fun v hv=>⟨i,?_⟩⟩
   cases hv
   rw [← h2.1]
   rfl
  ·rw [if_neg hc]
   have hb:(decide (a=x.1.1)&&decide (b=x.1.2))=false:=by
    by_cases q1:a=x.1.1
    ·have q2:¬ b=x.1.2:=fun q=>hc ⟨q1,q⟩
     rw [decide_eq_false q2,Bool.and_false]
    ·rw [decide_eq_false q1,Bool.false_and]
   rw [hb]
   exact ⟨i1,i2⟩
theorem mX {t e:TypeId} (h:bI P t e) (fl:Bool) (a b:Int) {es:Ja} {l:List MapEntry} (h1:l.map (·.key)=es.map fun x=>Vl x.1.1 x.1.2) (h2:l.map (·.val)=es.map fun x=>Value.int .i64 x.2) :
 (F8 es a b=none→Ll P fl t (Vl a b) l=some none)∧(∀ v,F8 es a b=some v→∃ j,Ll P fl t (Vl a b) l=some (some (j,.int .i64 v))):=by
 have hk:Gn P t=none:=by unfold Gn;rw [h.arr]
 have hg:Xj P t=true:=by unfold Xj;rw [h.arr]
 have e0:Ec P (Instr.findKey t (Vl a b) l)=Ec P (Instr.findAsking t (Vl a b) l):=by
  simp only [Instr.findKey,AX,BF,h.arr,Option.bind_some]
  cases l with
  |nil=>rfl
  |cons x l=>rfl
 have e1:Ll P fl t (Vl a b) l=Ec P (Instr.findAsking t (Vl a b) l):=by
  unfold Ll
  rw [hk,hg,dw h fl a b]
  simp only [Bool.and_self,if_true]
  exact e0
 rw [e1]
 exact wL h a b h1 h2 0
variable {E:Env} {L:Vm.Frame} {H:Vm.Heap} {nx:Nat} {Q:PV→Vm.Heap→Nat→Prop} {w:Bool} {dst:Option Tmp} {ty:TypeId} {pos:String} {af:Array Edge} {gd:Option (Nat×Bool)}
theorem wY {Γ:Nat→Option (List Value×TypeId)} {m:Mem} {F:Nat→Prop} {σ:Nat→Value} {t:Tr Value} {a b:Int} {o:Operand} (hx:Ctx Γ m F σ H nx) (hl:RL m F (htag H) σ nx L t) (h:Bz Γ L o=some (.p (.agg [.int .i64 a,.int .i64 b]))):ev t o=Vl a b:=by
 have:=BX hx hl h
 generalize ev t o=v at this
 cases this with
 |p h =>
  cases h with
  |agg g hc =>
   cases g with
   |cons g1 g =>
    cases g with
    |cons g2 g =>
     cases g
     cases g1
     cases g2
     rfl
theorem Aa.ng {t kt et e:TypeId} {x k:Operand} {b:Nat} {es:Ja} {c d:Int} {v:Option Int} (hx:Bz E.Γ L x=some (.mref b)) (hb:hget H b=some (.map (SK es))) (hk:Bz E.Γ L k=some (.p (.agg [.int .i64 c,.int .i64 d])))
 (ht:E.P.underlying t=some (.map kt et)) (hkt:bI E.P kt e) (hz:zeroOf E.P et=some (.int .i64 0)) (hv:F8 es c d=v) (q:Q (.EX [.p (.int .i64 (v.getD 0)),.p (.bool v.isSome)]) H nx):Aa E w ⟨dst,.lookup t x k true,ty,pos,af,gd⟩ L H nx Q :=
 Aa.quiet q fun m F σ tt c1 c2=>by
  obtain ⟨_,r,l,clock,r1,r2,r3,r4,r5⟩:=c1.hp b _ hb
  obtain ⟨e1,e2⟩:=kZ r5
  obtain ⟨f1,f2⟩:=mX hkt l.isEmpty c d e1 e2
  refine ⟨.tuple #[.int .i64 (v.getD 0),.bool v.isSome],fun _=>?_,.EX (.cons (.p (.int _ _)) (.cons (.p (.bool _)) .nil))⟩
  simp only [CW,FI,Qo,ht,hz,Vs c1 c2 hx hb,wY c1 c2 hk,r1,r4]
  rw [show (plain (Value.int .i64 0)&&plain (Vl c d))=true from rfl]
  cases v with
  |none =>
   simp only [if_true,f1 hv,Option.map_some]
   rfl
  |some v =>
   obtain ⟨j,f3⟩:=f2 v hv
   simp only [if_true,f3,Option.map_some]
   rfl
theorem Aa.a7o {t kt et e:TypeId} {x k y:Operand} {b:Nat} {es:Ja} {c d v:Int} (hx:Bz E.Γ L x=some (.mref b)) (hb:hget H b=some (.map (SK es))) (hk:Bz E.Γ L k=some (.p (.agg [.int .i64 c,.int .i64 d]))) (hy:Bz E.Γ L y=some (.p (.int .i64 v)))
 (ht:E.P.underlying t=some (.map kt et)) (hkt:bI E.P kt e) (hn:F8 es c d=none) (q:Q (.EX []) (hput H b (.map (SK (es++[((c,d),v)])))) nx):Aa E true ⟨dst,.mapUpdate t x k y,ty,pos,af,gd⟩ L H nx Q:=by
 intro m F σ tt c1 c2
 obtain ⟨_,r,l,clock,r1,r2,r3,r4,r5⟩:=c1.hp b _ hb
 obtain ⟨e1,e2⟩:=kZ r5
 have f1:=(mX hkt false c d e1 e2).1 hn
 have hyv:=a4u c1 c2 hy
 have hput':∀ d' x,r≠d'→(m.put r x).get d'=m.get d':=fun d' x hd=>by rw [Mem.get_put,if_neg hd]
 obtain ⟨d1,d2⟩:=c1.change (m':=m.put r (.map (l++[{ key:=Vl c d,val:=.int .i64 v,born:=clock }]) (clock+1))) (x':=.map (SK (es++[((c,d),v)]))) (s':=σ b) hb trivial (fun _=>rfl) (Nat.le_refl _)
  (fun d' _ hd=>hput' d' _ fun e=>hd (by rw [r1,e];rfl)) (fun k k1 k2 k3=>by
   have:=k3 r (by rw [r1];rfl)
   simp only [Mem.put];omega) (fun d' hd=>.inl hd) (by
   refine ⟨r,_,clock+1,r1,r2,r3,by rw [Mem.get_put,if_pos rfl],?_⟩
   have hF:∀ d',F d'→F d'∧(m.put r (.map (l++[{ key:=Vl c d,val:=.int .i64 v,born:=clock }]) (clock+1))).get d'=m.get d':=fun d' hd=>⟨hd,hput' d' _ fun e=>r3 (e▸hd)⟩
   obtain ⟨g1,g2⟩:=r5
   unfold Qs SK at *
   simp only [List.map_append,List.map_cons,List.map_nil]
   exact ⟨DN.snoc (g1.mono hF) (.agg (.cons (.int _ _) (.cons (.int _ _) .nil)) rfl),DN.snoc (g2.mono hF) (.int _ _)⟩)
 refine Ir.op (v:=undef) (fun _=>?_) ⟨_,_,_,F,_,q,d1,.EX .nil,d2,fun h=>by cases h⟩
 simp only [CW,FI,KC,ht,Vs c1 c2 hx hb,wY c1 c2 hk,hyv,r1,r4]
 rw [show plain (Vl c d)=true from rfl]
 simp only [if_true,f1,Option.map_some]
end
end Go.Vm
