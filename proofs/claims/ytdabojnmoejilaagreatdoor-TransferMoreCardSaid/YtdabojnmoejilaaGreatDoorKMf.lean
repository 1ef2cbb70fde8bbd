/-
  Texts of a proof, merged (HunD, TraB, TraC, TraD, TraK, HunE, TraL, TraM, Vm38, HunF, CarA, TraN, OrO, OrQ, TraS, CarB, CarC, TraQ, TraR, TraT, Vm39, CarN, RkQ, OrK, OrP, TraU, CarM). Conditions: in each statement.
-/
import Derived.Test.YtdabojnmoejilaaGreatDoorKMe
set_option linter.unusedSimpArgs false
set_option linter.unusedVariables false
set_option linter.unusedSectionVars false
set_option maxRecDepth 100000
set_option maxHeartbeats 8000000
namespace Go.Hun
open Go.Vm
def Dv (f:Nat→Int):Nat→Int
 |0=>0
 |k+1=>Dv f k+f k
theorem Ep {f g:Nat→Int}:∀ {n:Nat},(∀ k,k<n→f k=g k)→Dv f n=Dv g n
 |0,_=>rfl
 |n+1,h=>by simp only [Dv];rw [Ep fun k hk=>h k (by omega),h n (by omega)]
theorem Oj {f g:Nat→Int}:∀ {n:Nat},(∀ k,k<n→f k≤g k)→Dv f n≤Dv g n
 |0,_=>Int.le_refl _
 |n+1,h=>by
  simp only [Dv]
  have:=Oj (f:=f) (g:=g) (n:=n) fun k hk=>h k (by omega)
  have:=h n (by omega)
  omega
theorem Vq (f g:Nat→Int):∀ n,Dv (fun k=>f k+g k) n=Dv f n+Dv g n
 |0=>rfl
 |n+1=>by simp only [Dv];rw [Vq f g n];omega
theorem YI {f:Nat→Int}:∀ {n:Nat},(∀ k,k<n→f k=0)→Dv f n=0
 |0,_=>rfl
 |n+1,h=>by simp only [Dv];rw [YI fun k hk=>h k (by omega),h n (by omega)];rfl
theorem L6 (c:Int):∀ n:Nat,Dv (fun _=>c) n=n*c
 |0=>by simp [Dv]
 |n+1=>by
  simp only [Dv];rw [L6 c n]
  push_cast
  rw [Int.add_mul,Int.one_mul]
theorem iG {f:Nat→Int} {a b:Int}:∀ {n:Nat},(∀ k,k<n→a≤f k∧f k≤b)→n*a≤Dv f n∧Dv f n≤n*b:=fun {n} h=>by
 have h1:=Oj (f:=fun _=>a) (g:=f) (n:=n) fun k hk=>(h k hk).1
 have h2:=Oj (f:=f) (g:=fun _=>b) (n:=n) fun k hk=>(h k hk).2
 rw [L6] at h1 h2
 exact ⟨h1,h2⟩
theorem RN {f:Nat→Int} {j:Nat}:∀ {n:Nat},j<n→Dv f n=f j+Dv (fun k=>if k=j then 0 else f k) n
 |n+1,h=>by
  simp only [Dv]
  by_cases e:j=n
  ·subst e
   rw [if_pos rfl,Ep (f:=fun k=>if k=j then 0 else f k) (g:=f) fun k hk=>if_neg (by omega)]
   omega
  ·rw [if_neg (fun x=>e x.symm),RN (f:=f) (j:=j) (n:=n) (by omega)]
   omega
theorem YP:∀ (n m:Nat) (κ:Nat→Nat) (f:Nat→Int),(∀ r,r<n→κ r<m)→(∀ r q,r<n→q<n→κ r=κ q→r=q)→(∀ k,k<m→(∀ r,r<n→κ r≠k)→f k=0)→Dv f m=Dv (fun r=>f (κ r)) n
 |0,m,κ,f,h1,h2,h3=>YI fun k hk=>h3 k hk fun r hr=>by omega
 |n+1,m,κ,f,h1,h2,h3=>by
  rw [RN (h1 n (by omega))]
  have ih:=YP n m κ (fun k=>if k=κ n then 0 else f k) (fun r hr=>h1 r (by omega)) (fun r q hr hq=>h2 r q (by omega) (by omega)) fun k hk hn=>by
   by_cases e:k=κ n
   ·simp only [if_pos e]
   ·simp only [if_neg e]
    refine h3 k hk fun r hr=>?_
    rcases Nat.lt_or_ge r n with h|h
    ·exact hn r h
    ·obtain rfl:r=n:=by omega
     exact fun x=>e x.symm
  rw [ih]
  simp only [Dv]
  rw [Ep (n:=n) (f:=fun r=>if κ r=κ n then 0 else f (κ r)) (g:=fun r=>f (κ r)) fun r hr=>if_neg fun e=>by have:=h2 r n (by omega) (by omega) e;omega]
  omega
theorem Wh:∀ (n m:Nat) (κ:Nat→Nat) (f:Nat→Int),(∀ r q,r<n→q<n→κ r<m→κ r=κ q→r=q)→(∀ k,k<m→f k≤0)→Dv f m≤Dv (fun r=>if κ r<m then f (κ r) else 0) n
 |0,m,κ,f,h2,h3=>by
  have:=Oj (f:=f) (g:=fun _=>0) (n:=m) h3
  rw [L6] at this
  simp only [Dv];omega
 |n+1,m,κ,f,h2,h3=>by
  simp only [Dv]
  by_cases hk:κ n<m
  ·rw [if_pos hk,RN hk]
   have ih:=Wh n m κ (fun k=>if k=κ n then 0 else f k) (fun r q hr hq=>h2 r q (by omega) (by omega)) fun k hk=>by
    by_cases e:k=κ n
    ·simp only [if_pos e];omega
    ·simp only [if_neg e];exact h3 k hk
   have e2:Dv (fun r=>if κ r<m then (if κ r=κ n then 0 else f (κ r)) else 0) n=Dv (fun r=>if κ r<m then f (κ r) else 0) n:=Ep fun r hr=>by
    by_cases h:κ r<m
    ·rw [if_pos h,if_pos h,if_neg fun e=>by have:=h2 r n (by omega) (by omega) h e;omega]
    ·rw [if_neg h,if_neg h]
   rw [e2] at ih
   omega
  ·rw [if_neg hk]
   have ih:=Wh n m κ f (fun r q hr hq=>h2 r q (by omega) (by omega)) h3
   omega
section
variable {costs:List (List Int)} {n m:Nat} {B:Int}
structure a6m (costs:List (List Int)) (n:Nat) (o:List Ix) (j:Nat) (x:Out):Prop where
 len:x.cols.length=n
 cols:∀ k,1≤k→k≤j→0<own o k→gi x.cols (own o k-1)=(k:Int)-1
 total:x.total=Dv (fun k=>if 0<own o (k+1) then cst costs (own o (k+1)) (k+1) else 0) j
theorem Vr {s:gJ} (h:qp costs n m n s):∀ j,j≤m→a6m costs n s.owner j (KC costs s.owner n j)
 |0,_=>⟨by simp [KC],fun k k1 k2=>by omega,rfl⟩
 |j+1,hj=>by
  obtain ⟨i1,i2,i3⟩:=Vr h j (by omega)
  have e:KC costs s.owner n (j+1)=oD costs s.owner (KC costs s.owner n j) (j+1):=rfl
  rw [e]
  generalize KC costs s.owner n j=x at *
  unfold oD
  have e2:(gi s.owner (j+1)).n=own s.owner (j+1):=rfl
  simp only [e2]
  by_cases hp:0<own s.owner (j+1)
  ·rw [if_pos hp]
   have hle:=h.own (j+1) (by omega) hj
   refine ⟨by simp [i1],fun k k1 k2 k3=>?_,?_⟩
   ·show gi (x.cols.set (own s.owner (j+1)-1) (((j+1:Nat):Int)-1)) _=_
    rw [gs (by omega)]
    by_cases e:k=j+1
    ·subst e;rw [if_pos rfl]
    ·rw [if_neg,i2 k k1 (by omega) k3]
     intro e3
     have:=h.inj k (j+1) k1 (by omega) (by omega) hj (by omega) (by omega)
     omega
   ·simp only [Dv]
    rw [if_pos hp,i3]
    unfold cst
    rfl
  ·rw [if_neg hp]
   refine ⟨i1,fun k k1 k2 k3=>?_,?_⟩
   ·by_cases e:k=j+1
    ·subst e;exact absurd k3 hp
    ·exact i2 k k1 (by omega) k3
   ·simp only [Dv]
    rw [if_neg hp,i3];omega
def Gw (costs:List (List Int)) (n m:Nat):Out:=KC costs (C9 costs n m n).owner n m
def JE (costs:List (List Int)) (n m:Nat):List Int:=(C9 costs n m n).u.drop 1
def GX (costs:List (List Int)) (n m:Nat):List Int:=(C9 costs n m n).v.drop 1
theorem kU {α:Type} [Inhabited α] (l:List α) (j k:Nat):gi (l.drop j) k=gi l (j+k):=by
 unfold gi;rw [List.getElem?_drop]
structure a0u (c:Nat→Nat→Int) (n m:Nat) (B:Int) (x:Out) (U V:List Int):Prop where
 len:x.cols.length=n
 lU:U.length=n
 lV:V.length=m
 col:∀ r,r<n→0≤gi x.cols r∧gi x.cols r<m
 inj:∀ r q,r<n→q<n→gi x.cols r=gi x.cols q→r=q
 total:x.total=Dv (fun r=>c r (gi x.cols r).toNat) n
 Xb:∀ r k,r<n→k<m→gi U r+gi V k≤c r k
 neg:∀ k,k<m→-B≤gi V k∧gi V k≤0
 pos:∀ r,r<n→0≤gi U r∧gi U r≤B
 yP:x.total=Dv (fun r=>gi U r) n+Dv (fun k=>gi V k) m
 free:∀ k,k<m→(∀ r,r<n→gi x.cols r≠k)→gi V k=0
theorem WU (hc:Ij costs n m B):a0u (fun r k=>gi (gi costs r) k) n m B (Gw costs n m) (JE costs n m) (GX costs n m):=by
 have h:=NP hc n (Nat.le_refl _)
 have hO:=Vr h m (Nat.le_refl _)
 have e1:KC costs (C9 costs n m n).owner n m=Gw costs n m:=rfl
 have e2:(C9 costs n m n).u.drop 1=JE costs n m:=rfl
 have e3:(C9 costs n m n).v.drop 1=GX costs n m:=rfl
 rw [e1] at hO
 have hu:∀ r,gi (JE costs n m) r=gi (C9 costs n m n).u (r+1):=fun r=>by rw [← e2,kU,Nat.add_comm]
 have hv:∀ k,gi (GX costs n m) k=gi (C9 costs n m n).v (k+1):=fun k=>by rw [← e3,kU,Nat.add_comm]
 have lU:(JE costs n m).length=n:=by rw [← e2,List.length_drop,h.lu];omega
 have lV:(GX costs n m).length=m:=by rw [← e3,List.length_drop,h.lv];omega
 generalize JE costs n m=U at *
 generalize GX costs n m=V at *
 generalize Gw costs n m=x at *
 generalize C9 costs n m n=s at *
 have hb:=hc.big
 have hnm:=hc.nm
 have Xu:∀ r,r<n→∃ k,1≤k∧k≤m∧own s.owner k=r+1∧gi x.cols r=(k:Int)-1:=fun r hr=>by
  obtain ⟨k,k1,k2,k3⟩:=h.all (r+1) (by omega) (by omega)
  have:=hO.cols k k1 k2 (by omega)
  rw [k3,Nat.add_sub_cancel] at this
  exact ⟨k,k1,k2,k3,this⟩
 have hown:∀ r,r<n→own s.owner ((gi x.cols r).toNat+1)=r+1∧(gi x.cols r).toNat<m:=fun r hr=>by
  obtain ⟨k,k1,k2,k3,k4⟩:=Xu r hr
  have:(gi x.cols r).toNat+1=k:=by omega
  rw [this];exact ⟨k3,by omega⟩
 have hinj:∀ r q,r<n→q<n→(gi x.cols r).toNat=(gi x.cols q).toNat→r=q:=fun r q hr hq e=>by
  have h1:=(hown r hr).1
  have h2:=(hown q hq).1
  rw [e] at h1;omega
 have hfree:∀ k,k<m→(∀ r,r<n→(gi x.cols r).toNat≠k)→own s.owner (k+1)=0:=fun k hk hn=>by
  rcases Nat.eq_zero_or_pos (own s.owner (k+1)) with e|e
  ·exact e
  ·have hle:=h.own (k+1) (by omega) (by omega)
   have:=hO.cols (k+1) (by omega) (by omega) e
   exact absurd (by omega) (hn (own s.owner (k+1)-1) (by omega))
 have ht:x.total=Dv (fun r=>gi (gi costs r) (gi x.cols r).toNat) n:=by
  rw [hO.total,YP n m (fun r=>(gi x.cols r).toNat) _ (fun r hr=>(hown r hr).2) hinj fun k hk hn=>by
   rw [if_neg (by rw [hfree k hk hn];omega)]]
  refine Ep fun r hr=>?_
  rw [(hown r hr).1,if_pos (by omega)]
  unfold cst
  rw [Nat.add_sub_cancel,Nat.add_sub_cancel]
 have hfe:∀ r k,r<n→k<m→gi U r+gi V k≤gi (gi costs r) k:=fun r k hr hk=>by
  rw [hu,hv]
  have:=h.Xb (r+1) (k+1) (by omega) (by omega) (by omega) (by omega)
  unfold cst at this
  rwa [Nat.add_sub_cancel,Nat.add_sub_cancel] at this
 have hng:∀ k,k<m→gi V k≤0:=fun k hk=>by rw [hv];exact h.dD (k+1) (by omega) (by omega)
 have hps:∀ r,r<n→0≤gi U r:=fun r hr=>by rw [hu];exact h.UL (r+1) (by omega) (by omega)
 have hf:∃ k,k<m∧own s.owner (k+1)=0:=by
  refine Classical.byContradiction fun hn=>?_
  have hn:∀ k,k<m→own s.owner (k+1)≠0:=fun k h1 h3=>hn ⟨k,h1,h3⟩
  have:=WV n m (fun k=>own s.owner (k+1)-1) (fun k hk=>by
   have h1:=hn k hk
   have h2:=h.own (k+1) (by omega) (by omega)
   show own s.owner (k+1)-1<n
   omega) (fun k e hk he hf=>by
   have h1:=hn k hk
   have h2:=hn e he
   have hf:own s.owner (k+1)-1=own s.owner (e+1)-1:=hf
   have:=h.inj (k+1) (e+1) (by omega) (by omega) (by omega) (by omega) (by omega) h1
   omega)
  omega
 obtain ⟨f,f1,f2⟩:=hf
 have fv:gi V f=0:=by rw [hv];exact h.O4 (f+1) (by omega) (by omega) f2
 have hub:∀ r,r<n→gi U r≤B:=fun r hr=>by
  have h1:=hfe r f hr f1
  have h2:=hc.hi (r+1) (f+1)
  unfold cst at h2
  rw [Nat.add_sub_cancel,Nat.add_sub_cancel] at h2
  omega
 have a0q:∀ r,r<n→gi U r+gi V (gi x.cols r).toNat=gi (gi costs r) (gi x.cols r).toNat:=fun r hr=>by
  obtain ⟨h1,h2⟩:=hown r hr
  have:=h.tight ((gi x.cols r).toNat+1) (by omega) (by omega) (by omega)
  rw [h1] at this
  rw [hu,hv]
  unfold cst at this
  rwa [Nat.add_sub_cancel,Nat.add_sub_cancel] at this
 have hV0:∀ k,k<m→(∀ r,r<n→(gi x.cols r).toNat≠k)→gi V k=0:=fun k hk hn=>by
  rw [hv];exact h.O4 (k+1) (by omega) (by omega) (hfree k hk hn)
 refine ⟨hO.len,lU,lV,fun r hr=>?_,fun r q hr hq e=>hinj r q hr hq (by rw [e]),ht,hfe,fun k hk=>⟨?_,hng k hk⟩,fun r hr=>⟨hps r hr,hub r hr⟩,?_,fun k hk hn=>hV0 k hk fun r hr e=>hn r hr (by obtain ⟨j,j1,j2,j3,j4⟩:=Xu r hr;omega)⟩
 ·obtain ⟨k,k1,k2,k3,k4⟩:=Xu r hr
  omega
 ·by_cases e:own s.owner (k+1)=0
  ·rw [hv,h.O4 (k+1) (by omega) (by omega) e];omega
  ·have hle:=h.own (k+1) (by omega) (by omega)
   have h1:=h.tight (k+1) (by omega) (by omega) e
   have h2:=hub (own s.owner (k+1)-1) (by omega)
   rw [hu] at h2
   have h3:own s.owner (k+1)-1+1=own s.owner (k+1):=by omega
   rw [h3] at h2
   have h4:=hc.lo (own s.owner (k+1)) (k+1)
   rw [hv];omega
 ·rw [ht,Ep (fun r hr=>(a0q r hr).symm),Vq]
  congr 1
  rw [YP n m (fun r=>(gi x.cols r).toNat) (fun k=>gi V k) (fun r hr=>(hown r hr).2) hinj hV0]
end
def Vz (l:List (List Int)) (skip:Int) (cols:Nat→Int) (r:Nat):Int:=if cols r<0 then skip else gi (gi l r) (cols r).toNat
structure WH (n m:Nat) (cols:Nat→Int):Prop where
 rng:∀ r,r<n→-1≤cols r∧cols r<m
 inj:∀ r q,r<n→q<n→0≤cols r→cols r=cols q→r=q
structure a2j (l:List (List Int)) (n m:Nat) (skip:Int) (U V:Nat→Int):Prop where
 Xb:∀ r k,r<n→k<m→U r+V k≤gi (gi l r) k
 skip:∀ r,r<n→U r≤skip
 neg:∀ k,k<m→V k≤0
theorem weak {l:List (List Int)} {n m:Nat} {skip:Int} {U V:Nat→Int} {cols:Nat→Int} (hp:a2j l n m skip U V) (hc:WH n m cols):Dv U n+Dv V m≤Dv (Vz l skip cols) n:=by
 have h1:=Wh n m (fun r=>if cols r<0 then m else (cols r).toNat) V (fun r q hr hq h e=>by
  by_cases a:cols r<0
  ·rw [if_pos a] at h;omega
  ·rw [if_neg a] at h e
   by_cases b:cols q<0
   ·rw [if_pos b] at e;omega
   ·rw [if_neg b] at e
    exact hc.inj r q hr hq (by omega) (by omega)) hp.neg
 have h2:=Oj (n:=n) (f:=fun r=>U r+(if (if cols r<0 then m else (cols r).toNat)<m then V (if cols r<0 then m else (cols r).toNat) else 0)) (g:=Vz l skip cols) fun r hr=>by
  unfold Vz
  have hr1:=hc.rng r hr
  by_cases a:cols r<0
  ·simp only [if_pos a]
   rw [if_neg (by omega)]
   have:=hp.skip r hr
   omega
  ·simp only [if_neg a]
   rw [if_pos (by omega)]
   exact hp.Xb r _ hr (by omega)
 rw [Vq] at h2
 omega
def Dy (l:List (List Int)) (skip:Int) (n:Nat):List (List Int):=l.map fun row=>row++List.replicate (n+1) skip
theorem gi_map' {α β:Type} [Inhabited α] [Inhabited β] (f:α→β) {l:List α} {i:Nat} (h:i<l.length):gi (l.map f) i=f (gi l i):=by
 unfold gi;simp [List.getElem?_map,List.getElem?_eq_getElem h]
structure yj (l:List (List Int)) (n m:Nat) (skip B:Int):Prop where
 len:l.length=n
 row:∀ r,r<n→(gi l r).length=m
 rng:∀ r k,r<n→k<m→0≤gi (gi l r) k∧gi (gi l r) k≤B
 skip:0≤skip∧skip≤B
 big:B≤1000000000000
theorem UO {l:List (List Int)} {n m:Nat} {skip B:Int} (h:yj l n m skip B) {r k:Nat} (hr:r<n):gi (gi (Dy l skip n) r) k=if k<m then gi (gi l r) k else if k<m+(n+1) then skip else 0:=by
 unfold Dy
 rw [gi_map' _ (by rw [h.len];exact hr)]
 have:=h.row r hr
 unfold gi at this ⊢
 rw [List.getElem?_append]
 by_cases h1:k<m
 ·rw [if_pos (by omega),if_pos h1]
 ·rw [if_neg (by omega),if_neg h1,List.getElem?_replicate]
  by_cases h2:k<m+(n+1)
  ·rw [if_pos (by omega),if_pos h2];rfl
  ·rw [if_neg (by omega),if_neg h2];rfl
theorem Yu {l:List (List Int)} {n m:Nat} {skip B:Int} (h:yj l n m skip B):Ij (Dy l skip n) n (m+(n+1)) B:=by
 have h0:=h.skip
 have hb:0≤B:=by omega
 have:∀ r k,0≤gi (gi (Dy l skip n) r) k∧gi (gi (Dy l skip n) r) k≤B:=fun r k=>by
  rcases Nat.lt_or_ge r n with h1|h1
  ·rw [UO h h1]
   split
   ·rename_i h2;exact h.rng r k h1 h2
   ·split
    ·exact h0
    ·omega
  ·have e:gi (Dy l skip n) r=default:=by
    unfold gi Dy
    rw [List.getElem?_eq_none (by rw [List.length_map,h.len];omega)];rfl
   rw [e]
   have:gi (default:List Int) k=0:=by
    show ((([]:List Int)[k]?).getD 0)=0
    simp
   rw [this];omega
 exact ⟨fun r k=>(this _ _).1,fun r k=>(this _ _).2,⟨hb,h.big⟩,by omega⟩
def KD (m:Nat) (c:Int):Int:=if (m:Int)≤c then -1 else c
def wV (l:List (List Int)) (n m:Nat) (skip:Int):List Int:=(Gw (Dy l skip n) n (m+(n+1))).cols.map (KD m)
def jh (l:List (List Int)) (n m:Nat) (skip:Int):Int:=(Gw (Dy l skip n) n (m+(n+1))).total
def tZ (l:List (List Int)) (n m:Nat) (skip:Int):List Int:=JE (Dy l skip n) n (m+(n+1))
def uY (l:List (List Int)) (n m:Nat) (skip:Int):List Int:=(GX (Dy l skip n) n (m+(n+1))).take m
structure a5f (l:List (List Int)) (n m:Nat) (skip B:Int) (cols U V:List Int) (total:Int):Prop where
 lC:cols.length=n
 lU:U.length=n
 lV:V.length=m
 part:WH n m (fun r=>gi cols r)
 tot:total=Dv (Vz l skip fun r=>gi cols r) n
 pot:a2j l n m skip (fun r=>gi U r) (fun k=>gi V k)
 yP:total=Dv (fun r=>gi U r) n+Dv (fun k=>gi V k) m
 a6u:∀ r,r<n→0≤gi U r∧gi U r≤B
 a3w:∀ k,k<m→-B≤gi V k∧gi V k≤0
theorem gi_take' {α:Type} [Inhabited α] (l:List α) {j k:Nat} (h:k<j):gi (l.take j) k=gi l k:=by
 unfold gi;rw [List.getElem?_take,if_pos h]
theorem PS (f:Nat→Int) (m:Nat):∀ n,Dv f (m+n)=Dv f m+Dv (fun k=>f (m+k)) n
 |0=>by simp [Dv]
 |n+1=>by
  rw [← Nat.add_assoc]
  simp only [Dv]
  rw [PS f m n];omega
theorem YS {l:List (List Int)} {n m:Nat} {skip B:Int} (h:yj l n m skip B):a5f l n m skip B (wV l n m skip) (tZ l n m skip) (uY l n m skip) (jh l n m skip):=by
 have hs:=WU (Yu h)
 have eC:wV l n m skip=(Gw (Dy l skip n) n (m+(n+1))).cols.map (KD m):=rfl
 have eT:jh l n m skip=(Gw (Dy l skip n) n (m+(n+1))).total:=rfl
 have eU:tZ l n m skip=JE (Dy l skip n) n (m+(n+1)):=rfl
 have eV:uY l n m skip=(GX (Dy l skip n) n (m+(n+1))).take m:=rfl
 rw [eC,eT,eU,eV]
 generalize Gw (Dy l skip n) n (m+(n+1))=x at *
 generalize JE (Dy l skip n) n (m+(n+1))=U at *
 generalize GX (Dy l skip n) n (m+(n+1))=V at *
 obtain ⟨s1,s2,s3,s4,s5,s6,s7,s8,s9,s10,s11⟩:=hs
 have gC:∀ r,r<n→gi (x.cols.map (KD m)) r=KD m (gi x.cols r):=fun r hr=>gi_map' _ (by omega)
 have gV:∀ k,k<m→gi (V.take m) k=gi V k:=fun k hk=>gi_take' V hk
 have part:WH n m (fun r=>gi (x.cols.map (KD m)) r):=by
  refine ⟨fun r hr=>?_,fun r q hr hq h1 h2=>?_⟩
  ·rw [gC r hr]
   have:=s4 r hr
   unfold KD;split<;>omega
  ·rw [gC r hr] at h1 h2
   rw [gC q hq] at h2
   refine s5 r q hr hq ?_
   have:=s4 q hq
   unfold KD at h1 h2
   split at h2<;>split at h2<;>omega
 have tot:x.total=Dv (Vz l skip fun r=>gi (x.cols.map (KD m)) r) n:=by
  rw [s6]
  refine Ep fun r hr=>?_
  have:=s4 r hr
  show _=if gi (x.cols.map (KD m)) r<0 then skip else gi (gi l r) (gi (x.cols.map (KD m)) r).toNat
  rw [gC r hr,UO h hr]
  unfold KD
  by_cases h1:(m:Int)≤gi x.cols r
  ·rw [if_pos h1,if_neg (by omega),if_pos (by omega),if_pos (by omega)]
  ·rw [if_neg h1,if_pos (by omega),if_neg (by omega)]
 have hsk:∀ r,r<n→gi U r≤skip:=fun r hr=>by
  have hx:∃ k,k<n+1∧∀ q,q<n→gi x.cols q≠((m+k:Nat):Int):=by
   refine Classical.byContradiction fun hn=>?_
   have hn:∀ k,k<n+1→∃ q,q<n∧gi x.cols q=((m+k:Nat):Int):=fun k hk=>Classical.byContradiction fun h2=>hn ⟨k,hk,fun q hq e=>h2 ⟨q,hq,e⟩⟩
   have hn':∀ k,∃ q,k<n+1→q<n∧gi x.cols q=((m+k:Nat):Int):=fun k=>by
    by_cases hk:k<n+1
    ·obtain ⟨q,hq⟩:=hn k hk;exact ⟨q,fun _=>hq⟩
    ·exact ⟨0,fun h=>absurd h hk⟩
   have hF:=fun k=>Classical.choose_spec (hn' k)
   have:=WV n (n+1) (fun k=>Classical.choose (hn' k)) (fun k hk=>(hF k hk).1) (fun k e hk he hf=>by
    have h1:=(hF k hk).2
    have h2:=(hF e he).2
    have hf:Classical.choose (hn' k)=Classical.choose (hn' e):=hf
    rw [hf,h2] at h1;omega)
   omega
  obtain ⟨k,k1,k2⟩:=hx
  have h1:=s7 r (m+k) hr (by omega)
  rw [UO h hr,if_neg (by omega),if_pos (by omega)] at h1
  have h0:=s11 (m+k) (by omega) k2
  omega
 have yP:Dv (fun k=>gi V k) (m+(n+1))≤Dv (fun k=>gi (V.take m) k) m:=by
  rw [PS,Ep (n:=m) (f:=fun k=>gi (V.take m) k) (g:=fun k=>gi V k) gV]
  have:=Oj (n:=n+1) (f:=fun k=>gi V (m+k)) (g:=fun _=>0) fun k hk=>(s8 (m+k) (by omega)).2
  rw [L6] at this
  omega
 have pot:a2j l n m skip (fun r=>gi U r) (fun k=>gi (V.take m) k):=by
  refine ⟨fun r k hr hk=>?_,hsk,fun k hk=>?_⟩
  ·have h1:=s7 r k hr (by omega)
   rw [UO h hr,if_pos hk] at h1
   show gi U r+gi (V.take m) k≤_
   rw [gV k hk];exact h1
  ·show gi (V.take m) k≤0
   rw [gV k hk];exact (s8 k (by omega)).2
 have hw:=weak pot part
 exact ⟨by rw [List.length_map,s1],s2,by rw [List.length_take,s3];omega,part,tot,pot,by omega,s9,fun k hk=>by rw [gV k hk];exact s8 k (by omega)⟩
end Go.Hun
namespace Go.Proofs.YtdabojnmoejilaaGreatDoor
open Go Go.Am Go.Vm Go.Hun
attribute [local irreducible] Aa Ag Ar Ae Bz AV CS AO AL Az Vm.Done Df Bj
def uK (l:List (List Int)):Nat:=(gi l 0).length
theorem Lm (e:TypeId) (l:List (List Int)) (hl:l.length<1000000):AV env 69 [.lst e (cells l) l.length] (.p (.int .i64 (uK l:Int))):=by
 refine AV.enter (AB (by decide)) Tryz.func69 rfl (by kernel_rfl) (by simp [Tryz.ntmps69]) ?_
 by_cases h:l.length=0
 ·have hl0:l=[]:=List.length_eq_zero_iff.1 h
  subst hl0
  repeat' (first|apply Ae.assoc|apply Ae.AA|apply Ae.BO|apply Ag.nil|apply Ag.one|(apply Aa.assign;rfl)|(apply Aa.move;rfl)|(apply Aa.int;rfl;rfl;rfl)|(apply Aa.BX;rfl;rfl)|(apply Ae.Bf;rfl))
  all_goals first|(exfalso;omega)|contradiction|(refine Done.ret rfl (.refl _) (by first|exact trivial|exact ⟨trivial,trivial,trivial⟩|exact ⟨trivial,trivial,trivial,trivial⟩) Aj.nil (Nat.zero_le _) (Nat.le_refl _) ⟨?_,rfl,rfl⟩;try rfl)
 ·repeat' (first|apply Ae.assoc|apply Ae.AA|apply Ae.Aq|apply Ae.ret|apply Ag.nil|apply Ag.one|(apply Aa.assign;rfl)|(apply Aa.move;rfl)|(apply Aa.int;rfl;rfl;rfl)|(apply Aa.ZC;rfl;rfl;rfl;omega;omega;rfl)|(apply Aa.load;rfl;rfl)|(apply Aa.BX;rfl;rfl)|(apply Ae.Af;rfl)|(intro _;try (exfalso;omega)))
  all_goals first|(exfalso;omega)|contradiction|(refine Done.ret rfl (.refl _) (by first|exact trivial|exact ⟨trivial,trivial,trivial⟩|exact ⟨trivial,trivial,trivial,trivial⟩) Aj.nil (Nat.zero_le _) (Nat.le_refl _) ⟨?_,rfl,rfl⟩;try rfl)
section
variable {costs:List (List Int)} {n m:Nat} {B:Int}
theorem sG {i:Nat} {o:List Ix} {A:Nat→Nat} {t:Nat} {g:Gr} (h:fK costs n m i o A t g) (hc:Ij costs n m B) (ho:qm m i o) (hi:i<n) (hr:Hun.own o (A t)≠0):gi (Gv costs o m g).v 0+gi (Gv costs o m g).u (i+1)=gi g.v 0+gi g.u (i+1):=by
 have hR:=JW h hc ho hi hr
 have hS:=NV h hc ho hi hr
 have h0:gi (CJ g) 0=true:=(hR.doneD 0).2 ⟨0,by omega,h.zero⟩
 have h1:=hS.u1 0 (Nat.zero_le _) h0
 have h2:=hS.v1 0 (Nat.zero_le _) h0
 rw [ho.zero] at h1
 show gi (Jb costs o m g).v 0+gi (Jb costs o m g).u (i+1)=_
 omega
theorem Y5 {i:Nat} {s:gJ} (h:qp costs n m i s) (hc:Ij costs n m B) (hi:i<n):∀ t,(∀ p,p<t→Hun.own (Jg s (i+1)) (LX costs m i s p)≠0)→gi (Eh costs (Jg s (i+1)) m (Qe m s) t).v 0+gi (Eh costs (Jg s (i+1)) m (Qe m s) t).u (i+1)=gi s.v 0
 |0,_=>by
  show gi s.v 0+gi s.u (i+1)=_
  rw [h.uz (i+1) (by omega)];omega
 |t+1,hp=>by
  have ih:=Y5 h hc hi t fun p hp'=>hp p (by omega)
  have:=sG (OX h hc hi t fun p hp'=>hp p (by omega)) hc (XO h) hi (hp t (by omega))
  show gi (Gv costs _ m _).v 0+gi (Gv costs _ m _).u (i+1)=_
  omega
theorem fD (hc:Ij costs n m B):∀ i,i≤n→-(i*B)≤gi (C9 costs n m i).v 0∧gi (C9 costs n m i).v 0≤0
 |0,_=>by
  have:gi (C9 costs n m 0).v 0=0:=UY 0
  rw [this];simp
 |i+1,hi=>by
  have ih:=fD hc i (by omega)
  have h:=NP hc i (by omega)
  obtain ⟨a,b,c⟩:=Zl h hc (by omega)
  have h1:=Y5 h hc (by omega) _ a
  have hg:=OX h hc (by omega) _ a
  have h2:=hg.ule hc (XO h) (by have:=hc.nm;omega) (r:=i+1) (by omega) (Nat.le_refl _)
  have h3:=hg.UL (i+1) (by omega) (Nat.le_refl _)
  have e:(C9 costs n m (i+1)).v=(Eh costs (Jg (C9 costs n m i) (i+1)) m (Qe m (C9 costs n m i)) (Xl costs m (C9 costs n m i) (i+1))).v:=rfl
  rw [e]
  push_cast
  rw [Int.add_mul,Int.one_mul]
  omega
end
def lG (e:TypeId) (costs:List (List Int)) (n m k row a:Nat) (s:ql) (j:Nat):Vm.Frame :=
 [(14,.p (.int .i64 s.delta)),(15,.p (.int .i64 (s.next:Int))),(16,.p (.int .i64 ((j+1:Nat):Int))),(0,.p (.lst e (cells costs) n)),(2,.ref 0 0),(3,.p (.int .i64 (n:Int))),(4,.p (.int .i64 (m:Int))),(5,.vec 1 (n+1) 0 (n+1)),(6,.vec 2 (m+1) 0 (m+1)),(7,.vec 3 (m+1) 0 (m+1)),(8,.vec 4 (m+1) 0 (m+1)),(9,.p (.int .i64 ((k+1:Nat):Int))),(10,.p (.int .i64 (a:Int))),(11,.vec 6 (m+1) 0 (m+1)),(12,.vec 7 (m+1) 0 (m+1)),(13,.p (.int .i64 (row:Int)))]
def xg:Vm.HB:=.box 69 [.p (.val (.slice none 0 0)),.p (.int .i64 0),.p (.val (.slice none 0 0)),.p (.val (.slice none 0 0))]
def kJ (n m:Nat) (u v:List Int) (o:List Ix) (done:List Bool) (s:ql):Vm.Heap :=
 [(4,.vec 3 (cells s.way) (m+1) false),(6,.vec 3 (cells s.least) (m+1) false),(7,.vec 4 (cells done) (m+1) false),(0,xg),(1,.vec 3 (cells u) (n+1) false),(2,.vec 3 (cells v) (m+1) false),(3,.vec 3 (cells o) (m+1) false)]
theorem nR {costs:List (List Int)} {n m k row a:Nat} {B:Int} {e:TypeId} {u v:List Int} {o:List Ix} {done:List Bool} {s0:ql} (hB:0≤B∧B≤1000000000000) (hl:costs.length=n) (hm:m≤1000) (hn:n≤1000) (hr:1≤row∧row≤n) (hrl:(gi costs (row-1)).length=m) (TA:∀ j,0≤gi (gi costs (row-1)) j∧gi (gi costs (row-1)) j≤B)
 (hu:u.length=n+1) (hv:v.length=m+1) (hd9:done.length=m+1) (h1:s0.least.length=m+1) (h2:s0.way.length=m+1) (hu9:0≤gi u row∧gi u row≤B) (hv9:∀ j,1≤j→j≤m→-B≤gi v j∧gi v j≤0) :
 Ae env 0 (Zv Tryz.f72 14) (lG e costs n m k row a s0 0) (kJ n m u v o done s0) 8 (fun ex L' H' nx'=>ex=.exit 4∧VW L' H' nx' (lG e costs n m k row a (J5 (gi costs (row-1)) (gi u row) v done a s0 m) m) (kJ n m u v o done (J5 (gi costs (row-1)) (gi u row) v done a s0 m)) 8):=by
 have hs1:EO .sub .i64 (row:Int) 1=some (.int .i64 ((row-1:Nat):Int)):=by
  simp only [EO]
  rw [wrap_i64 (by omega)]
  congr 2;omega
 show Ae env 0 (Code.loop _) _ _ _ _
 refine Ae.Hq m (lG e costs n m k row a s0 0 |>.drop 3) (kJ n m u v o done s0 |>.drop 2) (fun j _=>lG e costs n m k row a (J5 (gi costs (row-1)) (gi u row) v done a s0 j) j) (fun j _=>kJ n m u v o done (J5 (gi costs (row-1)) (gi u row) v done a s0 j)) 8 (by omega) (Nat.le_refl _) ?_ ?_ ?_ ?_
 ·repeat (first|exact Ad.nil|refine Ad.same trivial rfl ?_|refine Ad.same (Ac rfl) rfl ?_|refine Ad.same ⟨trivial,Ac rfl,trivial⟩ rfl ?_|refine Ad.same ⟨trivial,Ac rfl,Ac rfl,trivial⟩ rfl ?_|refine Ad.same ⟨trivial,Ac rfl,Ac rfl,Ac rfl,trivial⟩ rfl ?_|refine Ad.same ⟨trivial,Ac rfl,Ac rfl,Ac rfl,Ac rfl,trivial⟩ rfl ?_|refine Ad.same ⟨trivial,trivial⟩ rfl ?_|refine Ad.cons trivial rfl (.of_eq (Aw (by simp<;>omega))) ?_)
 ·repeat (first|exact Aj.nil|(refine Aj.cons (Ac rfl) ?_ rfl ?_ ?_;(first|exact HB.Ap rfl|exact AU.Ah _ _|(simp [HB.under,AU.under,PV.under]));(first|exact Bo.refl _|exact Bo.vec (Bh.refl _) (by simp))))
 ·intro j hj
  have hI:=Ry (row:=gi costs (row-1)) (ur:=gi u row) (v:=v) (done:=done) (a:=a) (s0:=s0) h1 h2 j (by omega)
  have eS2:J5 (gi costs (row-1)) (gi u row) v done a s0 (j+1)=KX (gi costs (row-1)) (gi u row) v done a (J5 (gi costs (row-1)) (gi u row) v done a s0 j) (j+1):=rfl
  rw [eS2]
  generalize J5 (gi costs (row-1)) (gi u row) v done a s0 j=sc at *
  have n1:=hI.ll
  have n2:=hI.lw
  have hc1:=TA j
  have hv1:=hv9 (j+1) (by omega) (by omega)
  obtain ⟨C,hC⟩:∃ C,C=TI (gi costs (row-1)) (gi u row) v (j+1):=⟨_,rfl⟩
  have hC':C=gi (gi costs (row-1)) j-gi u row-gi v (j+1):=hC
  have hCv:EO .sub .i64 (gi (gi costs (row-1)) j-gi u row) (gi v (j+1))=some (.int .i64 C):=by
   rw [hC']
   simp only [EO]
   rw [wrap_i64 (by omega)]
  have hs2:EO .sub .i64 ((j+1:Nat):Int) 1=some (.int .i64 (j:Int)):=by
   simp only [EO]
   rw [wrap_i64 (by omega)]
   congr 2;omega
  clear hI TA hv9 eS2
  by_cases hd:gi done (j+1)=true
  ·have e9:KX (gi costs (row-1)) (gi u row) v done a sc (j+1)=sc:=if_pos hd
   rw [e9]
   repeat' (first|apply Ae.assoc|apply Ae.AA|apply Ae.region|apply Ae.Aq|apply Ae.Ba|apply Ae.Ai|apply AO.normal|apply AL.exit|apply Ag.nil|apply Ag.one|(apply Aa.Dq;rfl;rfl;(first|omega|(simp only [MZ]<;>omega));exact congrArg (fun b=>some (FV.bool b)) (hd))|(apply Aa.assign;rfl)|(apply Aa.move;rfl)|(apply Aa.Bv;rfl;rfl;omega)|(apply Aa.int;rfl;rfl;rfl)|(apply Aa.Dh;rfl;rfl;rfl;rfl;omega)|(apply Ae.Bf;rfl)|(apply Ae.Af;rfl)|(intro _;try (exfalso;omega)))
   all_goals try (exfalso;omega)
   refine Az.normal ⟨by first|omega|decide,?_,?_⟩
   ·repeat (first|exact Ad.nil|refine Ad.same trivial rfl ?_|refine Ad.same (Ac rfl) rfl ?_|refine Ad.same ⟨trivial,Ac rfl,trivial⟩ rfl ?_|refine Ad.same ⟨trivial,Ac rfl,Ac rfl,trivial⟩ rfl ?_|refine Ad.same ⟨trivial,Ac rfl,Ac rfl,Ac rfl,trivial⟩ rfl ?_|refine Ad.same ⟨trivial,Ac rfl,Ac rfl,Ac rfl,Ac rfl,trivial⟩ rfl ?_|refine Ad.same ⟨trivial,trivial⟩ rfl ?_|refine Ad.cons trivial rfl (.of_eq (Aw (by simp<;>omega))) ?_)
   ·repeat (first|exact Aj.nil|(refine Aj.cons (Ac rfl) ?_ rfl ?_ ?_;(first|exact HB.Ap rfl|exact AU.Ah _ _|(simp [HB.under,AU.under,PV.under]));(first|exact Bo.refl _|exact Bo.vec (Bh.refl _) (by simp))))
  ·have hd':gi done (j+1)=false:=by cases h:gi done (j+1)<;>simp_all
   by_cases h1:C<gi sc.least (j+1)
   ·have hld:gi (sc.least.set (j+1) C) (j+1)=C:=by rw [gs (by omega),if_pos rfl]
    by_cases h2:C<sc.delta
    ·have e9:KX (gi costs (row-1)) (gi u row) v done a sc (j+1)=⟨sc.least.set (j+1) C,sc.way.set (j+1) ⟨a⟩,C,j+1⟩:=by
      unfold KX
      rw [← hC,if_neg hd,if_pos h1,if_pos h2]
     rw [e9]
     repeat' (first|apply Ae.assoc|apply Ae.AA|apply Ae.BM|apply Ae.region|apply Ae.Aq|apply Ae.Ai|apply AO.normal|apply AL.normal|apply Ag.nil|apply Ar.nil|apply Ag.one|(apply Ar.bar;decide +kernel)|apply Ar.quiet|(apply Aa.Dq;rfl;rfl;(first|omega|(simp only [MZ]<;>omega));exact congrArg (fun b=>some (FV.bool b)) (hd'))|(apply Aa.A8 (l:=costs);rfl;rfl;rfl;omega;exact hl)|(apply Aa.int;rfl;rfl;exact hs1)|(apply Aa.int;rfl;rfl;exact hs2)|(apply Aa.int;rfl;rfl;exact hCv)|(apply Aa.Ef (y:=C);rfl;rfl;rfl;trivial;(first|rfl|(refine congrArg (fun t=>[PV.p (FV.int _ t)]) ?_;first|omega|(simp only [Int.natCast_add,Int.natCast_mul,Int.natCast_ediv,Int.natCast_emod]<;>omega)));rfl;rfl;decide;(first|omega|(simp only [List.length_set]<;>omega)))|(apply Aa.Ef (y:=(⟨a⟩:Ix));rfl;rfl;rfl;trivial;(first|rfl|(refine congrArg (fun t=>[PV.p (FV.int _ t)]) ?_;first|omega|(simp only [Int.natCast_add,Int.natCast_mul,Int.natCast_ediv,Int.natCast_emod]<;>omega)));rfl;rfl;decide;(first|omega|(simp only [List.length_set]<;>omega)))|(apply Aa.Dq;rfl;rfl;(first|omega|(simp only [List.length_set]<;>omega));exact congrArg (fun b=>some (FV.int .i64 b)) (hld))|(apply Aa.assign;rfl)|(apply Aa.move;rfl)|(apply Aa.Bv;rfl;rfl;omega)|(apply Aa.Ii;rfl;rfl;omega)|(apply Aa.int;rfl;rfl;rfl)|(apply Aa.A8;rfl;rfl;rfl;omega;rfl)|(apply Aa.Dq;rfl;rfl;omega;rfl)|(apply Aa.load;rfl;rfl)|(apply Aa.Dh;rfl;rfl;rfl;rfl;omega)|(apply Ae.Au;rfl)|(apply Ae.Af;rfl)|(apply Ae.Bd;rfl)|(intro _;try (exfalso;omega)))
     all_goals try (exfalso;omega)
     refine Az.normal ⟨by first|omega|decide,?_,?_⟩
     ·repeat (first|exact Ad.nil|refine Ad.same trivial rfl ?_|refine Ad.same (Ac rfl) rfl ?_|refine Ad.same ⟨trivial,Ac rfl,trivial⟩ rfl ?_|refine Ad.same ⟨trivial,Ac rfl,Ac rfl,trivial⟩ rfl ?_|refine Ad.same ⟨trivial,Ac rfl,Ac rfl,Ac rfl,trivial⟩ rfl ?_|refine Ad.same ⟨trivial,Ac rfl,Ac rfl,Ac rfl,Ac rfl,trivial⟩ rfl ?_|refine Ad.same ⟨trivial,trivial⟩ rfl ?_|refine Ad.cons trivial rfl (.of_eq (Aw (by simp<;>omega))) ?_)
     ·repeat (first|exact Aj.nil|(refine Aj.cons (Ac rfl) ?_ rfl ?_ ?_;(first|exact HB.Ap rfl|exact AU.Ah _ _|(simp [HB.under,AU.under,PV.under]));(first|exact Bo.refl _|exact Bo.vec (Bh.refl _) (by simp))))
    ·have e9:KX (gi costs (row-1)) (gi u row) v done a sc (j+1)=⟨sc.least.set (j+1) C,sc.way.set (j+1) ⟨a⟩,sc.delta,sc.next⟩:=by
      unfold KX
      rw [← hC,if_neg hd,if_pos h1,if_neg h2]
     rw [e9]
     repeat' (first|apply Ae.assoc|apply Ae.AA|apply Ae.BM|apply Ae.region|apply Ae.Aq|apply Ae.Ai|apply AO.normal|apply AL.normal|apply Ae.skip|apply Ag.nil|apply Ar.nil|apply Ag.one|(apply Ar.bar;decide +kernel)|apply Ar.quiet|(apply Aa.Dq;rfl;rfl;(first|omega|(simp only [MZ]<;>omega));exact congrArg (fun b=>some (FV.bool b)) (hd'))|(apply Aa.A8 (l:=costs);rfl;rfl;rfl;omega;exact hl)|(apply Aa.int;rfl;rfl;exact hs1)|(apply Aa.int;rfl;rfl;exact hs2)|(apply Aa.int;rfl;rfl;exact hCv)|(apply Aa.Ef (y:=C);rfl;rfl;rfl;trivial;(first|rfl|(refine congrArg (fun t=>[PV.p (FV.int _ t)]) ?_;first|omega|(simp only [Int.natCast_add,Int.natCast_mul,Int.natCast_ediv,Int.natCast_emod]<;>omega)));rfl;rfl;decide;(first|omega|(simp only [List.length_set]<;>omega)))|(apply Aa.Ef (y:=(⟨a⟩:Ix));rfl;rfl;rfl;trivial;(first|rfl|(refine congrArg (fun t=>[PV.p (FV.int _ t)]) ?_;first|omega|(simp only [Int.natCast_add,Int.natCast_mul,Int.natCast_ediv,Int.natCast_emod]<;>omega)));rfl;rfl;decide;(first|omega|(simp only [List.length_set]<;>omega)))|(apply Aa.Dq;rfl;rfl;(first|omega|(simp only [List.length_set]<;>omega));exact congrArg (fun b=>some (FV.int .i64 b)) (hld))|(apply Aa.assign;rfl)|(apply Aa.move;rfl)|(apply Aa.Bv;rfl;rfl;omega)|(apply Aa.Ii;rfl;rfl;omega)|(apply Aa.int;rfl;rfl;rfl)|(apply Aa.A8;rfl;rfl;rfl;omega;rfl)|(apply Aa.Dq;rfl;rfl;omega;rfl)|(apply Aa.load;rfl;rfl)|(apply Aa.Dh;rfl;rfl;rfl;rfl;omega)|(apply Ae.Au;rfl)|(apply Ae.Af;rfl)|(apply Ae.Bd;rfl)|(intro _;try (exfalso;omega)))
     all_goals try (exfalso;omega)
     refine Az.normal ⟨by first|omega|decide,?_,?_⟩
     ·repeat (first|exact Ad.nil|refine Ad.same trivial rfl ?_|refine Ad.same (Ac rfl) rfl ?_|refine Ad.same ⟨trivial,Ac rfl,trivial⟩ rfl ?_|refine Ad.same ⟨trivial,Ac rfl,Ac rfl,trivial⟩ rfl ?_|refine Ad.same ⟨trivial,Ac rfl,Ac rfl,Ac rfl,trivial⟩ rfl ?_|refine Ad.same ⟨trivial,Ac rfl,Ac rfl,Ac rfl,Ac rfl,trivial⟩ rfl ?_|refine Ad.same ⟨trivial,trivial⟩ rfl ?_|refine Ad.cons trivial rfl (.of_eq (Aw (by simp<;>omega))) ?_)
     ·repeat (first|exact Aj.nil|(refine Aj.cons (Ac rfl) ?_ rfl ?_ ?_;(first|exact HB.Ap rfl|exact AU.Ah _ _|(simp [HB.under,AU.under,PV.under]));(first|exact Bo.refl _|exact Bo.vec (Bh.refl _) (by simp))))
   ·by_cases h2:gi sc.least (j+1)<sc.delta
    ·have e9:KX (gi costs (row-1)) (gi u row) v done a sc (j+1)=⟨sc.least,sc.way,gi sc.least (j+1),j+1⟩:=by
      unfold KX
      rw [← hC,if_neg hd,if_neg h1,if_pos h2]
     rw [e9]
     repeat' (first|apply Ae.assoc|apply Ae.AA|apply Ae.BM|apply Ae.region|apply Ae.Aq|apply Ae.Ai|apply AO.normal|apply AL.normal|apply Ag.nil|apply Ar.nil|apply Ag.one|(apply Ar.bar;decide +kernel)|apply Ar.quiet|(apply Aa.Dq;rfl;rfl;(first|omega|(simp only [MZ]<;>omega));exact congrArg (fun b=>some (FV.bool b)) (hd'))|(apply Aa.A8 (l:=costs);rfl;rfl;rfl;omega;exact hl)|(apply Aa.int;rfl;rfl;exact hs1)|(apply Aa.int;rfl;rfl;exact hs2)|(apply Aa.int;rfl;rfl;exact hCv)|(apply Aa.assign;rfl)|(apply Aa.move;rfl)|(apply Aa.Bv;rfl;rfl;omega)|(apply Aa.Ii;rfl;rfl;omega)|(apply Aa.int;rfl;rfl;rfl)|(apply Aa.A8;rfl;rfl;rfl;omega;rfl)|(apply Aa.Dq;rfl;rfl;omega;rfl)|(apply Aa.load;rfl;rfl)|(apply Aa.Dh;rfl;rfl;rfl;rfl;omega)|(apply Ae.Au;rfl)|(apply Ae.Af;rfl)|(apply Ae.Bd;rfl)|(intro _;try (exfalso;omega)))
     all_goals try (exfalso;omega)
     refine Az.normal ⟨by first|omega|decide,?_,?_⟩
     ·repeat (first|exact Ad.nil|refine Ad.same trivial rfl ?_|refine Ad.same (Ac rfl) rfl ?_|refine Ad.same ⟨trivial,Ac rfl,trivial⟩ rfl ?_|refine Ad.same ⟨trivial,Ac rfl,Ac rfl,trivial⟩ rfl ?_|refine Ad.same ⟨trivial,Ac rfl,Ac rfl,Ac rfl,trivial⟩ rfl ?_|refine Ad.same ⟨trivial,Ac rfl,Ac rfl,Ac rfl,Ac rfl,trivial⟩ rfl ?_|refine Ad.same ⟨trivial,trivial⟩ rfl ?_|refine Ad.cons trivial rfl (.of_eq (Aw (by simp<;>omega))) ?_)
     ·repeat (first|exact Aj.nil|(refine Aj.cons (Ac rfl) ?_ rfl ?_ ?_;(first|exact HB.Ap rfl|exact AU.Ah _ _|(simp [HB.under,AU.under,PV.under]));(first|exact Bo.refl _|exact Bo.vec (Bh.refl _) (by simp))))
    ·have e9:KX (gi costs (row-1)) (gi u row) v done a sc (j+1)=sc:=by
      unfold KX
      rw [← hC,if_neg hd,if_neg h1,if_neg h2]
     rw [e9]
     repeat' (first|apply Ae.assoc|apply Ae.AA|apply Ae.BM|apply Ae.region|apply Ae.Aq|apply Ae.Ai|apply AO.normal|apply AL.normal|apply Ae.skip|apply Ag.nil|apply Ar.nil|apply Ag.one|(apply Ar.bar;decide +kernel)|apply Ar.quiet|(apply Aa.Dq;rfl;rfl;(first|omega|(simp only [MZ]<;>omega));exact congrArg (fun b=>some (FV.bool b)) (hd'))|(apply Aa.A8 (l:=costs);rfl;rfl;rfl;omega;exact hl)|(apply Aa.int;rfl;rfl;exact hs1)|(apply Aa.int;rfl;rfl;exact hs2)|(apply Aa.int;rfl;rfl;exact hCv)|(apply Aa.assign;rfl)|(apply Aa.move;rfl)|(apply Aa.Bv;rfl;rfl;omega)|(apply Aa.Ii;rfl;rfl;omega)|(apply Aa.int;rfl;rfl;rfl)|(apply Aa.A8;rfl;rfl;rfl;omega;rfl)|(apply Aa.Dq;rfl;rfl;omega;rfl)|(apply Aa.load;rfl;rfl)|(apply Aa.Dh;rfl;rfl;rfl;rfl;omega)|(apply Ae.Au;rfl)|(apply Ae.Af;rfl)|(apply Ae.Bd;rfl)|(intro _;try (exfalso;omega)))
     all_goals try (exfalso;omega)
     refine Az.normal ⟨by first|omega|decide,?_,?_⟩
     ·repeat (first|exact Ad.nil|refine Ad.same trivial rfl ?_|refine Ad.same (Ac rfl) rfl ?_|refine Ad.same ⟨trivial,Ac rfl,trivial⟩ rfl ?_|refine Ad.same ⟨trivial,Ac rfl,Ac rfl,trivial⟩ rfl ?_|refine Ad.same ⟨trivial,Ac rfl,Ac rfl,Ac rfl,trivial⟩ rfl ?_|refine Ad.same ⟨trivial,Ac rfl,Ac rfl,Ac rfl,Ac rfl,trivial⟩ rfl ?_|refine Ad.same ⟨trivial,trivial⟩ rfl ?_|refine Ad.cons trivial rfl (.of_eq (Aw (by simp<;>omega))) ?_)
     ·repeat (first|exact Aj.nil|(refine Aj.cons (Ac rfl) ?_ rfl ?_ ?_;(first|exact HB.Ap rfl|exact AU.Ah _ _|(simp [HB.under,AU.under,PV.under]));(first|exact Bo.refl _|exact Bo.vec (Bh.refl _) (by simp))))
 ·repeat' (first|apply Ae.assoc|apply Ae.AA|apply Ae.Ba|apply Az.exit|apply Ag.nil|apply Ag.one|(apply Aa.move;rfl)|(apply Aa.int;rfl;rfl;rfl)|(apply Ae.Af;rfl)|(intro _;try (exfalso;omega)))
  all_goals try (exfalso;omega)
  refine ⟨rfl,⟨Nat.le_refl _,?_,?_⟩⟩
  ·repeat (first|exact Ad.nil|refine Ad.same trivial rfl ?_|refine Ad.same (Ac rfl) rfl ?_|refine Ad.same ⟨trivial,Ac rfl,trivial⟩ rfl ?_|refine Ad.same ⟨trivial,Ac rfl,Ac rfl,trivial⟩ rfl ?_|refine Ad.same ⟨trivial,Ac rfl,Ac rfl,Ac rfl,trivial⟩ rfl ?_|refine Ad.same ⟨trivial,Ac rfl,Ac rfl,Ac rfl,Ac rfl,trivial⟩ rfl ?_|refine Ad.same ⟨trivial,trivial⟩ rfl ?_|refine Ad.cons trivial rfl (.of_eq (Aw (by simp<;>omega))) ?_)
  ·repeat (first|exact Aj.nil|(refine Aj.cons (Ac rfl) ?_ rfl ?_ ?_;(first|exact HB.Ap rfl|exact AU.Ah _ _|(simp [HB.under,AU.under,PV.under]));(first|exact Bo.refl _|exact Bo.vec (Bh.refl _) (by simp))))
end Go.Proofs.YtdabojnmoejilaaGreatDoor
namespace Go.Proofs.YtdabojnmoejilaaGreatDoor
open Go Go.Am Go.Vm Go.Hun
attribute [local irreducible] Aa Ag Ar Ae Bz AV CS AO AL Az Vm.Done Df Bj
def YQ (e:TypeId) (costs:List (List Int)) (n m k:Nat) (d:Int) (nxt:Nat) (j:Nat):Vm.Frame :=
 [(120,.p (.int .i64 (j:Int))),(0,.p (.lst e (cells costs) n)),(2,.ref 0 0),(3,.p (.int .i64 (n:Int))),(4,.p (.int .i64 (m:Int))),(5,.vec 1 (n+1) 0 (n+1)),(6,.vec 2 (m+1) 0 (m+1)),(7,.vec 3 (m+1) 0 (m+1)),(8,.vec 4 (m+1) 0 (m+1)),(9,.p (.int .i64 ((k+1:Nat):Int))),(11,.vec 6 (m+1) 0 (m+1)),(12,.vec 7 (m+1) 0 (m+1)),(14,.p (.int .i64 d)),(15,.p (.int .i64 (nxt:Int))),(119,.p (.int .i64 ((m+1:Nat):Int)))]
def Y4 (n m:Nat) (o way:List Ix) (done:List Bool) (t:wX):Vm.Heap :=
 [(1,.vec 3 (cells t.u) (n+1) false),(2,.vec 3 (cells t.v) (m+1) false),(6,.vec 3 (cells t.least) (m+1) false),(0,xg),(3,.vec 3 (cells o) (m+1) false),(4,.vec 3 (cells way) (m+1) false),(7,.vec 4 (cells done) (m+1) false)]
theorem iK {costs:List (List Int)} {n m k nxt:Nat} {d:Int} {e:TypeId} {o way:List Ix} {done:List Bool} {t0:wX} (hd:0≤d∧d≤1000000000000) (hm:m≤1000) (hn:n≤1000) (hu:t0.u.length=n+1) (hv:t0.v.length=m+1) (hl:t0.least.length=m+1) (ho:o.length=m+1) (hD:done.length=m+1)
 (h1:∀ j,j≤m→gi done j=true→(gi o j).n<t0.u.length) (h2:∀ j i,j≤m→i≤m→gi done j=true→gi done i=true→(gi o j).n=(gi o i).n→j=i)
 (hub:∀ j,j≤m→gi done j=true→0≤gi t0.u (gi o j).n∧gi t0.u (gi o j).n≤1000000000000) (hvb:∀ j,j≤m→-2000000000000000≤gi t0.v j∧gi t0.v j≤0) (hlb:∀ j,j≤m→gi done j=false→0≤gi t0.least j∧gi t0.least j≤far) :
 Ae env 0 (Zv Tryz.f72 23) (YQ e costs n m k d nxt 0) (Y4 n m o way done t0) 8 (fun ex L' H' nx'=>ex=.exit 6∧VW L' H' nx' (YQ e costs n m k d nxt (m+1)) (Y4 n m o way done (H7 o done d t0 (m+1))) 8):=by
 have hf:far=1152921504606846976:=rfl
 show Ae env 0 (Code.loop _) _ _ _ _
 refine Ae.Hq (m+1) (YQ e costs n m k d nxt 0 |>.drop 1) (Y4 n m o way done t0 |>.drop 3) (fun j _=>YQ e costs n m k d nxt j) (fun j _=>Y4 n m o way done (H7 o done d t0 j)) 8 (by omega) (Nat.le_refl _) ?_ ?_ ?_ ?_
 ·repeat (first|exact Ad.nil|refine Ad.same trivial rfl ?_|refine Ad.same (Ac rfl) rfl ?_|refine Ad.same ⟨trivial,Ac rfl,trivial⟩ rfl ?_|refine Ad.same ⟨trivial,Ac rfl,Ac rfl,trivial⟩ rfl ?_|refine Ad.same ⟨trivial,Ac rfl,Ac rfl,Ac rfl,trivial⟩ rfl ?_|refine Ad.same ⟨trivial,Ac rfl,Ac rfl,Ac rfl,Ac rfl,trivial⟩ rfl ?_|refine Ad.same ⟨trivial,trivial⟩ rfl ?_|refine Ad.cons trivial rfl (.of_eq (Aw (by simp<;>omega))) ?_)
 ·repeat (first|exact Aj.nil|(refine Aj.cons (Ac rfl) ?_ rfl ?_ ?_;(first|exact HB.Ap rfl|exact AU.Ah _ _|(simp [HB.under,AU.under,PV.under]));(first|exact Bo.refl _|exact Bo.vec (Bh.refl _) (by simp))))
 ·intro j hj
  have hI:=Go.Hun.JY (owner:=o) (done:=done) (delta:=d) (t:=t0) (m:=m) hv hl h1 h2 j (by omega)
  have eS2:H7 o done d t0 (j+1)=SK o done d (H7 o done d t0 j) j:=rfl
  rw [eS2]
  generalize H7 o done d t0 j=sc at *
  have n1:=hI.lu
  have n2:=hI.lv
  have n3:=hI.ll
  have hv1:=hvb j (by omega)
  have ev:gi sc.v j=gi t0.v j:=by rw [hI.v,if_neg (by omega)]
  by_cases hdj:gi done j=true
  ·have hu1:=hub j (by omega) hdj
   have hlt:=h1 j (by omega) hdj
   have eu:gi sc.u (gi o j).n=gi t0.u (gi o j).n:=hI.u0 _ fun i hi hi2 e=>by have:=h2 i j (by omega) (by omega) hi2 hdj e;omega
   have e9:SK o done d sc j=⟨sc.u.set (gi o j).n (gi sc.u (gi o j).n+d),sc.v.set j (gi sc.v j-d),sc.least⟩:=if_pos hdj
   rw [e9]
   clear hI hub hvb hlb h1 h2 eS2
   repeat' (first|apply Ae.AA|apply Ae.region|apply Ae.Aq|apply Ae.Ai|apply AO.normal|apply AL.normal|apply Ag.nil|apply Ag.one|(apply Aa.Dq;rfl;rfl;(first|omega|(simp only [MZ]<;>omega));exact congrArg (fun b=>some (FV.bool b)) (hdj))|(apply Aa.Ef (y:=(gi sc.u (gi o j).n+d));rfl;rfl;rfl;trivial;(first|rfl|(refine congrArg (fun t=>[PV.p (FV.int _ t)]) ?_;first|omega|(simp only [Int.natCast_add,Int.natCast_mul,Int.natCast_ediv,Int.natCast_emod]<;>omega)));rfl;rfl;decide;(first|omega|(simp only [List.length_set]<;>omega)))|(apply Aa.Ef (y:=(gi sc.v j-d));rfl;rfl;rfl;trivial;(first|rfl|(refine congrArg (fun t=>[PV.p (FV.int _ t)]) ?_;first|omega|(simp only [Int.natCast_add,Int.natCast_mul,Int.natCast_ediv,Int.natCast_emod]<;>omega)));rfl;rfl;decide;(first|omega|(simp only [List.length_set]<;>omega)))|(apply Aa.assign;rfl)|(apply Aa.move;rfl)|(apply Aa.Bv;rfl;rfl;omega)|(apply Aa.Ii;rfl;rfl;omega)|(apply Aa.int;rfl;rfl;rfl)|(apply Aa.Dq;rfl;rfl;omega;rfl)|(apply Aa.Dh;rfl;rfl;rfl;rfl;omega)|(apply Ae.Af;rfl)|(apply Ae.cond_true;rfl)|(intro _;try (exfalso;omega)))
   all_goals try (exfalso;omega)
   refine Az.normal ⟨by first|omega|decide,?_,?_⟩
   ·repeat (first|exact Ad.nil|refine Ad.same trivial rfl ?_|refine Ad.same (Ac rfl) rfl ?_|refine Ad.same ⟨trivial,Ac rfl,trivial⟩ rfl ?_|refine Ad.same ⟨trivial,Ac rfl,Ac rfl,trivial⟩ rfl ?_|refine Ad.same ⟨trivial,Ac rfl,Ac rfl,Ac rfl,trivial⟩ rfl ?_|refine Ad.same ⟨trivial,Ac rfl,Ac rfl,Ac rfl,Ac rfl,trivial⟩ rfl ?_|refine Ad.same ⟨trivial,trivial⟩ rfl ?_|refine Ad.cons trivial rfl (.of_eq (Aw (by simp<;>omega))) ?_)
   ·repeat (first|exact Aj.nil|(refine Aj.cons (Ac rfl) ?_ rfl ?_ ?_;(first|exact HB.Ap rfl|exact AU.Ah _ _|(simp [HB.under,AU.under,PV.under]));(first|exact Bo.refl _|exact Bo.vec (Bh.refl _) (by simp))))
  ·have hdj':gi done j=false:=by cases h:gi done j<;>simp_all
   have hl1:=hlb j (by omega) hdj'
   have el:gi sc.least j=gi t0.least j:=by rw [hI.least,if_neg (by omega)]
   have e9:SK o done d sc j=⟨sc.u,sc.v,sc.least.set j (gi sc.least j-d)⟩:=if_neg hdj
   rw [e9]
   clear hI hub hvb hlb h1 h2 eS2
   repeat' (first|apply Ae.AA|apply Ae.region|apply Ae.Aq|apply Ae.Ai|apply AO.normal|apply AL.normal|apply Ag.nil|apply Ag.one|(apply Aa.Dq;rfl;rfl;(first|omega|(simp only [MZ]<;>omega));exact congrArg (fun b=>some (FV.bool b)) (hdj'))|(apply Aa.Ef (y:=(gi sc.least j-d));rfl;rfl;rfl;trivial;(first|rfl|(refine congrArg (fun t=>[PV.p (FV.int _ t)]) ?_;first|omega|(simp only [Int.natCast_add,Int.natCast_mul,Int.natCast_ediv,Int.natCast_emod]<;>omega)));rfl;rfl;decide;(first|omega|(simp only [List.length_set]<;>omega)))|(apply Aa.assign;rfl)|(apply Aa.move;rfl)|(apply Aa.Bv;rfl;rfl;omega)|(apply Aa.Ii;rfl;rfl;omega)|(apply Aa.int;rfl;rfl;rfl)|(apply Aa.Dq;rfl;rfl;omega;rfl)|(apply Aa.Dh;rfl;rfl;rfl;rfl;omega)|(apply Ae.Af;rfl)|(apply Ae.cond_false;rfl)|(intro _;try (exfalso;omega)))
   all_goals try (exfalso;omega)
   refine Az.normal ⟨by first|omega|decide,?_,?_⟩
   ·repeat (first|exact Ad.nil|refine Ad.same trivial rfl ?_|refine Ad.same (Ac rfl) rfl ?_|refine Ad.same ⟨trivial,Ac rfl,trivial⟩ rfl ?_|refine Ad.same ⟨trivial,Ac rfl,Ac rfl,trivial⟩ rfl ?_|refine Ad.same ⟨trivial,Ac rfl,Ac rfl,Ac rfl,trivial⟩ rfl ?_|refine Ad.same ⟨trivial,Ac rfl,Ac rfl,Ac rfl,Ac rfl,trivial⟩ rfl ?_|refine Ad.same ⟨trivial,trivial⟩ rfl ?_|refine Ad.cons trivial rfl (.of_eq (Aw (by simp<;>omega))) ?_)
   ·repeat (first|exact Aj.nil|(refine Aj.cons (Ac rfl) ?_ rfl ?_ ?_;(first|exact HB.Ap rfl|exact AU.Ah _ _|(simp [HB.under,AU.under,PV.under]));(first|exact Bo.refl _|exact Bo.vec (Bh.refl _) (by simp))))
 ·repeat' (first|apply Ae.AA|apply Ae.Ba|apply Az.exit|apply Ag.nil|apply Ag.one|(apply Aa.int;rfl;rfl;rfl)|(apply Ae.Af;rfl)|(intro _;try (exfalso;omega)))
  all_goals try (exfalso;omega)
  refine ⟨rfl,⟨Nat.le_refl _,?_,?_⟩⟩
  ·repeat (first|exact Ad.nil|refine Ad.same trivial rfl ?_|refine Ad.same (Ac rfl) rfl ?_|refine Ad.same ⟨trivial,Ac rfl,trivial⟩ rfl ?_|refine Ad.same ⟨trivial,Ac rfl,Ac rfl,trivial⟩ rfl ?_|refine Ad.same ⟨trivial,Ac rfl,Ac rfl,Ac rfl,trivial⟩ rfl ?_|refine Ad.same ⟨trivial,Ac rfl,Ac rfl,Ac rfl,Ac rfl,trivial⟩ rfl ?_|refine Ad.same ⟨trivial,trivial⟩ rfl ?_|refine Ad.cons trivial rfl (.of_eq (Aw (by simp<;>omega))) ?_)
  ·repeat (first|exact Aj.nil|(refine Aj.cons (Ac rfl) ?_ rfl ?_ ?_;(first|exact HB.Ap rfl|exact AU.Ah _ _|(simp [HB.under,AU.under,PV.under]));(first|exact Bo.refl _|exact Bo.vec (Bh.refl _) (by simp))))
def xW (e:TypeId) (costs:List (List Int)) (n m k:Nat) (a:Nat):Vm.Frame :=
 [(10,.p (.int .i64 (a:Int))),(0,.p (.lst e (cells costs) n)),(2,.ref 0 0),(3,.p (.int .i64 (n:Int))),(4,.p (.int .i64 (m:Int))),(5,.vec 1 (n+1) 0 (n+1)),(6,.vec 2 (m+1) 0 (m+1)),(7,.vec 3 (m+1) 0 (m+1)),(8,.vec 4 (m+1) 0 (m+1)),(9,.p (.int .i64 ((k+1:Nat):Int)))]
def zf (n m:Nat) (u v:List Int) (way o:List Ix):Vm.Heap :=
 [(3,.vec 3 (cells o) (m+1) false),(0,xg),(1,.vec 3 (cells u) (n+1) false),(2,.vec 3 (cells v) (m+1) false),(4,.vec 3 (cells way) (m+1) false)]
theorem uZ {costs:List (List Int)} {n m k U:Nat} {e:TypeId} {u v:List Int} {way:List Ix} {a:Aug} (hm:m≤1000) (hw:way.length=m+1) (hlen:∀ t,t≤U→(GY way a t).owner.length=m+1) (hgo:∀ t,t<U→(GY way a t).at_≠0) (hle:∀ t,t≤U→(GY way a t).at_≤m) (hfin:(GY way a U).at_=0) :
 Ae env 0 (Zv Tryz.f72 31) (xW e costs n m k a.at_) (zf n m u v way a.owner) 5 (fun ex L' H' nx'=>ex=.exit 8∧VW L' H' nx' (xW e costs n m k 0) (zf n m u v way (GY way a U).owner) 5):=by
 show Ae env 0 (Code.loop _) _ _ _ _
 refine Ae.Hq U (xW e costs n m k a.at_ |>.drop 1) (zf n m u v way a.owner |>.drop 1) (fun t _=>xW e costs n m k (GY way a t).at_) (fun t _=>zf n m u v way (GY way a t).owner) 5 (by omega) (Nat.le_refl _) ?_ ?_ ?_ ?_
 ·repeat (first|exact Ad.nil|refine Ad.same trivial rfl ?_|refine Ad.same (Ac rfl) rfl ?_|refine Ad.same ⟨trivial,Ac rfl,trivial⟩ rfl ?_|refine Ad.same ⟨trivial,Ac rfl,Ac rfl,trivial⟩ rfl ?_|refine Ad.same ⟨trivial,Ac rfl,Ac rfl,Ac rfl,trivial⟩ rfl ?_|refine Ad.same ⟨trivial,Ac rfl,Ac rfl,Ac rfl,Ac rfl,trivial⟩ rfl ?_|refine Ad.same ⟨trivial,trivial⟩ rfl ?_|refine Ad.cons trivial rfl (.of_eq (Aw (by simp<;>omega))) ?_)
 ·repeat (first|exact Aj.nil|(refine Aj.cons (Ac rfl) ?_ rfl ?_ ?_;(first|exact HB.Ap rfl|exact AU.Ah _ _|(simp [HB.under,AU.under,PV.under]));(first|exact Bo.refl _|exact Bo.vec (Bh.refl _) (by simp))))
 ·intro t ht
  have h1:=hlen t (by omega)
  have h2:=hgo t ht
  have h3:=hle t (by omega)
  have h4:=hle (t+1) (by omega)
  have e1:GY way a (t+1)=⟨(GY way a t).owner.set (GY way a t).at_ (gi (GY way a t).owner (gi way (GY way a t).at_).n),(gi way (GY way a t).at_).n⟩:=rfl
  rw [e1] at h4 ⊢
  have h4:(gi way (GY way a t).at_).n≤m:=h4
  generalize GY way a t=x at *
  repeat' (first|apply Ae.assoc|apply Ae.AA|apply Ae.region|apply Ae.Aq|apply AL.normal|apply Ae.I8|apply Ag.nil|apply Ag.one|(apply Aa.Ef (y:=(gi x.owner (gi way x.at_).n));rfl;rfl;rfl;trivial;(first|rfl|(refine congrArg (fun t=>[PV.p (FV.int _ t)]) ?_;first|omega|(simp only [Int.natCast_add,Int.natCast_mul,Int.natCast_ediv,Int.natCast_emod]<;>omega)));rfl;rfl;decide;(first|omega|(simp only [List.length_set]<;>omega)))|(apply Aa.assign;rfl)|(apply Aa.move;rfl)|(apply Aa.int;rfl;rfl;rfl)|(apply Aa.Dq;rfl;rfl;omega;rfl)|(apply Aa.Dh;rfl;rfl;rfl;rfl;omega)|(apply Ae.Af;rfl)|(intro _;try (exfalso;omega)))
  all_goals try (exfalso;omega)
  refine Az.normal ⟨by first|omega|decide,?_,?_⟩
  ·repeat (first|exact Ad.nil|refine Ad.same trivial rfl ?_|refine Ad.same (Ac rfl) rfl ?_|refine Ad.same ⟨trivial,Ac rfl,trivial⟩ rfl ?_|refine Ad.same ⟨trivial,Ac rfl,Ac rfl,trivial⟩ rfl ?_|refine Ad.same ⟨trivial,Ac rfl,Ac rfl,Ac rfl,trivial⟩ rfl ?_|refine Ad.same ⟨trivial,Ac rfl,Ac rfl,Ac rfl,Ac rfl,trivial⟩ rfl ?_|refine Ad.same ⟨trivial,trivial⟩ rfl ?_|refine Ad.cons trivial rfl (.of_eq (Aw (by simp<;>omega))) ?_)
  ·repeat (first|exact Aj.nil|(refine Aj.cons (Ac rfl) ?_ rfl ?_ ?_;(first|exact HB.Ap rfl|exact AU.Ah _ _|(simp [HB.under,AU.under,PV.under]));(first|exact Bo.refl _|exact Bo.vec (Bh.refl _) (by simp))))
 ·rw [hfin]
  repeat' (first|apply Ae.assoc|apply Ae.AA|apply Ae.Ba|apply Az.exit|apply Ag.nil|apply Ag.one|(apply Aa.move;rfl)|(apply Aa.int;rfl;rfl;rfl)|(apply Ae.Au;rfl))
  all_goals try (exfalso;omega)
  refine ⟨rfl,⟨Nat.le_refl _,?_,?_⟩⟩
  ·repeat (first|exact Ad.nil|refine Ad.same trivial rfl ?_|refine Ad.same (Ac rfl) rfl ?_|refine Ad.same ⟨trivial,Ac rfl,trivial⟩ rfl ?_|refine Ad.same ⟨trivial,Ac rfl,Ac rfl,trivial⟩ rfl ?_|refine Ad.same ⟨trivial,Ac rfl,Ac rfl,Ac rfl,trivial⟩ rfl ?_|refine Ad.same ⟨trivial,Ac rfl,Ac rfl,Ac rfl,Ac rfl,trivial⟩ rfl ?_|refine Ad.same ⟨trivial,trivial⟩ rfl ?_|refine Ad.cons trivial rfl (.of_eq (Aw (by simp<;>omega))) ?_)
  ·repeat (first|exact Aj.nil|(refine Aj.cons (Ac rfl) ?_ rfl ?_ ?_;(first|exact HB.Ap rfl|exact AU.Ah _ _|(simp [HB.under,AU.under,PV.under]));(first|exact Bo.refl _|exact Bo.vec (Bh.refl _) (by simp))))
def xq (e:TypeId) (costs:List (List Int)) (n m:Nat) (j:Nat):Vm.Frame :=
 [(20,.p (.int .i64 ((j+1:Nat):Int))),(0,.p (.lst e (cells costs) n)),(2,.ref 0 0),(4,.p (.int .i64 (m:Int))),(7,.vec 3 (m+1) 0 (m+1)),(19,.ref 6 0)]
def y8 (n m:Nat) (U V:List Int) (o:List Ix) (x:Out):Vm.Heap :=
 [(5,.vec 3 (cells x.cols) n false),(6,.box 69 [.vec 5 n 0 n,.p (.int .i64 x.total),.p (.lst 3 (cells U) n),.p (.lst 3 (cells V) m)]),(0,xg),(3,.vec 3 (cells o) (m+1) false)]
theorem uy {costs:List (List Int)} {n m:Nat} {e:TypeId} {U V:List Int} {o:List Ix} (hm:m≤1000) (hn:n≤1000) (hl:costs.length=n) (hrow:∀ r,r<n→(gi costs r).length=m) (ho:o.length=m+1) (hle:∀ j,1≤j→j≤m→(gi o j).n≤n) (hlen:∀ j,j≤m→(KC costs o n j).cols.length=n)
 (TA:∀ r j,0≤gi (gi costs r) j∧gi (gi costs r) j≤1000000000000) (htot:∀ j,j≤m→0≤(KC costs o n j).total∧(KC costs o n j).total≤1000000000000000) :
 Ae env 0 (Zv Tryz.f72 36) (xq e costs n m 0) (y8 n m U V o (KC costs o n 0)) 7 (fun ex L' H' nx'=>ex=.exit 10∧VW L' H' nx' (xq e costs n m m) (y8 n m U V o (KC costs o n m)) 7):=by
 show Ae env 0 (Code.loop _) _ _ _ _
 refine Ae.Hq m (xq e costs n m 0 |>.drop 1) (y8 n m U V o (KC costs o n 0) |>.drop 2) (fun j _=>xq e costs n m j) (fun j _=>y8 n m U V o (KC costs o n j)) 7 (by omega) (Nat.le_refl _) ?_ ?_ ?_ ?_
 ·repeat (first|exact Ad.nil|refine Ad.same trivial rfl ?_|refine Ad.same (Ac rfl) rfl ?_|refine Ad.same ⟨trivial,Ac rfl,trivial⟩ rfl ?_|refine Ad.same ⟨trivial,Ac rfl,Ac rfl,trivial⟩ rfl ?_|refine Ad.same ⟨trivial,Ac rfl,Ac rfl,Ac rfl,trivial⟩ rfl ?_|refine Ad.same ⟨trivial,Ac rfl,Ac rfl,Ac rfl,Ac rfl,trivial⟩ rfl ?_|refine Ad.same ⟨trivial,trivial⟩ rfl ?_|refine Ad.cons trivial rfl (.of_eq (Aw (by simp<;>omega))) ?_)
 ·repeat (first|exact Aj.nil|(refine Aj.cons (Ac rfl) ?_ rfl ?_ ?_;(first|exact HB.Ap rfl|exact AU.Ah _ _|(simp [HB.under,AU.under,PV.under]));(first|exact Bo.refl _|exact Bo.vec (Bh.refl _) (by simp))))
 ·intro j hj
  have h1:=hlen j (by omega)
  have h2:=htot j (by omega)
  have h3:=hle (j+1) (by omega) (by omega)
  have e1:KC costs o n (j+1)=oD costs o (KC costs o n j) (j+1):=rfl
  rw [e1]
  generalize KC costs o n j=x at *
  by_cases hp:0<(gi o (j+1)).n
  ·have e9:oD costs o x (j+1)=⟨x.cols.set ((gi o (j+1)).n-1) (((j+1:Nat):Int)-1),x.total+gi (gi costs ((gi o (j+1)).n-1)) j⟩:=if_pos hp
   rw [e9]
   have hrl:=hrow ((gi o (j+1)).n-1) (by omega)
   have hc1:=TA ((gi o (j+1)).n-1) j
   have hs1:EO .sub .i64 ((gi o (j+1)).n:Int) 1=some (.int .i64 (((gi o (j+1)).n-1:Nat):Int)):=by
    simp only [EO]
    rw [wrap_i64 (by omega)]
    congr 2;omega
   have hs2:EO .sub .i64 ((j+1:Nat):Int) 1=some (.int .i64 (j:Int)):=by
    simp only [EO]
    rw [wrap_i64 (by omega)]
    congr 2;omega
   clear TA htot hlen hle e1
   repeat' (first|apply Ae.assoc|apply Ae.AA|apply Ae.region|apply Ae.F9|apply Ae.Aq|apply Ae.Ai|apply AO.normal|apply AL.normal|apply Ag.nil|apply Ar.nil|apply Ag.one|(apply Ar.bar;decide +kernel)|apply Ar.quiet|(apply Aa.A8 (l:=costs);rfl;rfl;rfl;omega;exact hl)|(apply Aa.int;rfl;rfl;exact hs1)|(apply Aa.int;rfl;rfl;exact hs2)|(apply Aa.Ef (y:=(((j+1:Nat):Int)-1));rfl;rfl;rfl;trivial;(first|rfl|(refine congrArg (fun t=>[PV.p (FV.int _ t)]) ?_;first|omega|(simp only [Int.natCast_add,Int.natCast_mul,Int.natCast_ediv,Int.natCast_emod]<;>omega)));rfl;rfl;decide;(first|omega|(simp only [List.length_set]<;>omega)))|(apply Aa.assign;rfl)|(apply Aa.move;rfl)|(apply Aa.Bv;rfl;rfl;omega)|(apply Aa.int;rfl;rfl;rfl)|(apply Aa.A8;rfl;rfl;rfl;omega;rfl)|(apply Aa.Dq;rfl;rfl;omega;rfl)|(apply Aa.load;rfl;rfl)|(apply Aa.AQ;rfl;rfl;rfl)|(apply Aa.Bl;rfl;rfl;rfl;trivial;rfl;rfl;exact Ac rfl;exact le_dec rfl)|(apply Aa.Dh;rfl;rfl;rfl;rfl;omega)|(apply Ae.Af;rfl)|(apply Ae.Bd;rfl)|(intro _;try (exfalso;omega)))
   all_goals try (exfalso;omega)
   refine Az.normal ⟨by first|omega|decide,?_,?_⟩
   ·repeat (first|exact Ad.nil|refine Ad.same trivial rfl ?_|refine Ad.same (Ac rfl) rfl ?_|refine Ad.same ⟨trivial,Ac rfl,trivial⟩ rfl ?_|refine Ad.same ⟨trivial,Ac rfl,Ac rfl,trivial⟩ rfl ?_|refine Ad.same ⟨trivial,Ac rfl,Ac rfl,Ac rfl,trivial⟩ rfl ?_|refine Ad.same ⟨trivial,Ac rfl,Ac rfl,Ac rfl,Ac rfl,trivial⟩ rfl ?_|refine Ad.same ⟨trivial,trivial⟩ rfl ?_|refine Ad.cons trivial rfl (.of_eq (Aw (by simp<;>omega))) ?_)
   ·repeat (first|exact Aj.nil|(refine Aj.cons (Ac rfl) ?_ rfl ?_ ?_;(first|exact HB.Ap rfl|exact AU.Ah _ _|(simp [HB.under,AU.under,PV.under]));(first|exact Bo.refl _|exact Bo.vec (Bh.refl _) (by simp))))
  ·have e9:oD costs o x (j+1)=x:=if_neg hp
   rw [e9]
   clear TA htot hlen hle e1
   repeat' (first|apply Ae.assoc|apply Ae.AA|apply Ae.region|apply Ae.Aq|apply Ae.Ai|apply AO.normal|apply AL.normal|apply Ae.skip|apply Ag.nil|apply Ag.one|(apply Aa.assign;rfl)|(apply Aa.move;rfl)|(apply Aa.Bv;rfl;rfl;omega)|(apply Aa.int;rfl;rfl;rfl)|(apply Aa.Dq;rfl;rfl;omega;rfl)|(apply Aa.Dh;rfl;rfl;rfl;rfl;omega)|(apply Ae.Af;rfl)|(apply Ae.Bd;rfl)|(intro _;try (exfalso;omega)))
   all_goals try (exfalso;omega)
   refine Az.normal ⟨by first|omega|decide,?_,?_⟩
   ·repeat (first|exact Ad.nil|refine Ad.same trivial rfl ?_|refine Ad.same (Ac rfl) rfl ?_|refine Ad.same ⟨trivial,Ac rfl,trivial⟩ rfl ?_|refine Ad.same ⟨trivial,Ac rfl,Ac rfl,trivial⟩ rfl ?_|refine Ad.same ⟨trivial,Ac rfl,Ac rfl,Ac rfl,trivial⟩ rfl ?_|refine Ad.same ⟨trivial,Ac rfl,Ac rfl,Ac rfl,Ac rfl,trivial⟩ rfl ?_|refine Ad.same ⟨trivial,trivial⟩ rfl ?_|refine Ad.cons trivial rfl (.of_eq (Aw (by simp<;>omega))) ?_)
   ·repeat (first|exact Aj.nil|(refine Aj.cons (Ac rfl) ?_ rfl ?_ ?_;(first|exact HB.Ap rfl|exact AU.Ah _ _|(simp [HB.under,AU.under,PV.under]));(first|exact Bo.refl _|exact Bo.vec (Bh.refl _) (by simp))))
 ·repeat' (first|apply Ae.assoc|apply Ae.AA|apply Ae.Ba|apply Az.exit|apply Ag.nil|apply Ag.one|(apply Aa.move;rfl)|(apply Aa.int;rfl;rfl;rfl)|(apply Ae.Af;rfl)|(intro _;try (exfalso;omega)))
  all_goals try (exfalso;omega)
  refine ⟨rfl,⟨Nat.le_refl _,?_,?_⟩⟩
  ·repeat (first|exact Ad.nil|refine Ad.same trivial rfl ?_|refine Ad.same (Ac rfl) rfl ?_|refine Ad.same ⟨trivial,Ac rfl,trivial⟩ rfl ?_|refine Ad.same ⟨trivial,Ac rfl,Ac rfl,trivial⟩ rfl ?_|refine Ad.same ⟨trivial,Ac rfl,Ac rfl,Ac rfl,trivial⟩ rfl ?_|refine Ad.same ⟨trivial,Ac rfl,Ac rfl,Ac rfl,Ac rfl,trivial⟩ rfl ?_|refine Ad.same ⟨trivial,trivial⟩ rfl ?_|refine Ad.cons trivial rfl (.of_eq (Aw (by simp<;>omega))) ?_)
  ·repeat (first|exact Aj.nil|(refine Aj.cons (Ac rfl) ?_ rfl ?_ ?_;(first|exact HB.Ap rfl|exact AU.Ah _ _|(simp [HB.under,AU.under,PV.under]));(first|exact Bo.refl _|exact Bo.vec (Bh.refl _) (by simp))))
end Go.Proofs.YtdabojnmoejilaaGreatDoor
namespace Go.Proofs.YtdabojnmoejilaaGreatDoor
open Go Go.Am Go.Vm Go.Hun
attribute [local irreducible] Aa Ag Ar Ae Bz AV CS AO AL Az Vm.Done Df Bj
def a2e (costs:List (List Int)) (n m:Nat):PV:=.agg [.vec 5 n 0 n,.p (.int .i64 (Gw costs n m).total),.p (.lst 3 (cells (JE costs n m)) n),.p (.lst 3 (cells (GX costs n m)) m)]
theorem dW {costs:List (List Int)} {n m:Nat} {B:Int} (e:TypeId) (hc:Ij costs n m B) (hl:costs.length=n) (hrow:∀ r,r<n→(gi costs r).length=m) (hn:1≤n) (hm:m≤1000) :
 Bz env 72 [.p (.lst e (cells costs) n)] [] 0 fun r H' nx'=>r=a2e costs n m∧H'=[(5,.vec 3 (cells (Gw costs n m).cols) n false)]∧nx'=6:=by
 have Xu:AV env 69 [.lst e (cells costs) n] (.p (.int .i64 (m:Int))):=by
  have:=Lm e costs (by have:=hc.nm;omega)
  rw [hl] at this
  rwa [show uK costs=m from hrow 0 (by omega)] at this
 have hnm:=hc.nm
 have hB:=hc.big
 refine Bz.enter (AB (by decide)) Tryz.func72 rfl (by kernel_rfl) (by simp [Tryz.ntmps72]) ?_
 repeat' (first|apply Ae.assoc|apply Ae.AA|apply Ae.BM|apply Ae.Ai|apply Ag.nil|apply Ar.nil|apply Ag.one|(apply Ar.bar;decide +kernel)|apply Ar.quiet|(apply Aa.fn;rfl;rfl;exact Xu;intro _;rfl)|(apply Aa.Eo (n+1) (0:Int);rfl;rfl;rfl;rfl;rfl;omega;omega;omega;decide;decide;rfl)|(apply Aa.Eo (dst:=some 34) (m+1) (⟨0⟩:Ix);rfl;rfl;rfl;rfl;rfl;omega;omega;omega;decide;decide;rfl)|(apply Aa.Eo (dst:=some 37) (m+1) (⟨0⟩:Ix);rfl;rfl;rfl;rfl;rfl;omega;omega;omega;decide;decide;rfl)|(apply Aa.Eo (m+1) (0:Int);rfl;rfl;rfl;rfl;rfl;omega;omega;omega;decide;decide;rfl)|(apply Aa.assign;rfl)|(apply Aa.move;rfl)|(apply Aa.Bv;rfl;rfl;omega)|(apply Aa.BX;rfl;rfl)|(apply Aa.alloc;rfl))
 apply Ae.Hq (n) [(0,_),(2,_),(3,_),(4,_),(5,_),(6,_),(7,_),(8,_)] [(0,_)] (fun k r=>(9,.p (.int .i64 ((k+1:Nat):Int)))::r) (fun k r=>(1,.vec 3 (cells (C9 costs n m k).u) (n+1) false)::(2,.vec 3 (cells (C9 costs n m k).v) (m+1) false)::(3,.vec 3 (cells (C9 costs n m k).owner) (m+1) false)::(4,.vec 3 (cells (C9 costs n m k).way) (m+1) false)::r) 5
 ·first|omega|decide
 ·first|omega|decide
 ·repeat (first|exact Ad.nil|(refine Ad.eq rfl ?_ ?_;(first|exact PV.Ap rfl|(simp [PV.under,AU.under];done)))|refine Ad.cons trivial rfl (.of_eq (Aw (by simp<;>omega))) ?_)
 ·repeat (first|exact Aj.nil|(refine Aj.eq rfl (Ac rfl) ?_ ?_;(first|exact HB.Ap rfl|exact AU.Ah _ _|(simp [HB.under,AU.under,PV.under];done)))|(refine Aj.cons (Ac rfl) ?_ rfl ?_ ?_;(first|exact trivial|exact AU.Ah _ _|(simp [HB.under,AU.under,PV.under]));(first|exact Bo.refl _|exact Bo.vec (Bh.refl _) (by simp))))
 ·intro k hk
  have hS:=NP hc k (by omega)
  have hS':=hS.step hc hk
  obtain ⟨hgo,hend,hT⟩:=Zl hS hc hk
  have hgr:=OX hS hc hk
  have hback:=lN hS hc hk
  have hv0:=Y5 hS hc hk
  have b0a:=fD hc k (by omega)
  have ho:=XO hS
  have eS:C9 costs n m (k+1)=NQ costs m (C9 costs n m k) (k+1):=rfl
  have l1:=hS.lu
  have l2:=hS.lv
  have l3:=hS.lo
  have l4:=hS.lw
  rw [eS]
  generalize C9 costs n m k=s at *
  repeat' (first|(refine Ar.atIdx 3 ?_;refine Ar.ghost (Bc.freeze 46 rfl rfl) ?_)|apply Ae.assoc|apply Ae.AA|apply Ae.BM|apply Ae.Aq|apply Ae.Ai|apply Ag.nil|apply Ar.nil|apply Ag.one|(apply Ar.bar;decide +kernel)|apply Ar.quiet|(apply Aa.Ef (y:=(⟨k+1⟩:Ix));rfl;rfl;rfl;trivial;(first|rfl|(refine congrArg (fun t=>[PV.p (FV.int _ t)]) ?_;first|omega|(simp only [Int.natCast_add,Int.natCast_mul,Int.natCast_ediv,Int.natCast_emod]<;>omega)));rfl;rfl;decide;(first|omega|(simp only [List.length_set]<;>omega)))|(apply Aa.fv;rfl;rfl;exact TJ 3 far (m+1) (by omega) (by omega))|(apply Aa.Eo (m+1) false;rfl;rfl;rfl;rfl;rfl;omega;omega;omega;decide;decide;rfl)|(apply Aa.assign;rfl)|(apply Aa.move;rfl)|(apply Aa.Bv;rfl;rfl;omega)|(apply Aa.int;rfl;rfl;rfl)|(apply Aa.buildSlice;rfl;rfl;rfl;decide;rfl;rfl;rfl)|(apply Aa.kL;rfl;rfl;rfl;rfl;omega;omega)|(apply Ae.Af;rfl)|(intro _;try (exfalso;omega)))
  all_goals try (exfalso;omega)
  apply Ae.Hq (Xl costs m s (k+1)) [(0,_),(2,_),(3,_),(4,_),(5,_),(6,_),(7,_),(8,_),(9,_),(11,_),(12,_)] [(0,_)] (fun k_ r=>(10,.p (.int .i64 ((Eh costs (Jg s (k+1)) m (Qe m s) k_).at_:Int)))::r) (fun k_ r=>(1,.vec 3 (cells (Eh costs (Jg s (k+1)) m (Qe m s) k_).u) (n+1) false)::(2,.vec 3 (cells (Eh costs (Jg s (k+1)) m (Qe m s) k_).v) (m+1) false)::(3,.vec 3 (cells (Jg s (k+1))) (m+1) false)::(4,.vec 3 (cells (Eh costs (Jg s (k+1)) m (Qe m s) k_).way) (m+1) false)::(6,.vec 3 (cells (Eh costs (Jg s (k+1)) m (Qe m s) k_).least) (m+1) false)::(7,.vec 4 (cells (Eh costs (Jg s (k+1)) m (Qe m s) k_).done) (m+1) false)::r) 8
  ·first|omega|decide
  ·first|omega|decide
  ·repeat (first|exact Ad.nil|(refine Ad.eq rfl ?_ ?_;(first|exact PV.Ap rfl|(simp [PV.under,AU.under];done)))|refine Ad.cons trivial rfl (.of_eq (Aw (by simp<;>omega))) ?_)
  ·repeat (first|exact Aj.nil|(refine Aj.eq rfl (Ac rfl) ?_ ?_;(first|exact HB.Ap rfl|exact AU.Ah _ _|(simp [HB.under,AU.under,PV.under];done)))|(refine Aj.cons (Ac rfl) ?_ rfl ?_ ?_;(first|exact trivial|exact AU.Ah _ _|(simp [HB.under,AU.under,PV.under]));(first|exact Bo.refl _|exact Bo.vec (Bh.refl _) (by simp))))
  ·intro t ht
   have hg:=hgr t fun p hp=>hgo p (by omega)
   have hr:=hgo t ht
   have hR:=JW hg hc ho hk hr
   have hSh:=NV hg hc ho hk hr
   have hpre:=XT hg hc ho hk hr
   have hub:∀ r,1≤r→r≤k+1→gi (Eh costs (Jg s (k+1)) m (Qe m s) t).u r≤B:=fun r r1 r2=>hg.ule hc ho (by omega) r1 r2
   have hvb:∀ j,1≤j→j≤m→-B≤gi (Eh costs (Jg s (k+1)) m (Qe m s) t).v j:=fun j j1 j2=>hg.vge hc ho (by omega) j1 j2
   have b1l:=hv0 t fun p hp=>hgo p (by omega)
   have eG:Eh costs (Jg s (k+1)) m (Qe m s) (t+1)=Gv costs (Jg s (k+1)) m (Eh costs (Jg s (k+1)) m (Qe m s) t):=rfl
   have hat:LX costs m k s t=(Eh costs (Jg s (k+1)) m (Qe m s) t).at_:=rfl
   have hle:=hg.le t (Nat.le_refl _)
   rw [hat] at hr hle
   rw [eG]
   generalize Eh costs (Jg s (k+1)) m (Qe m s) t=g at *
   have a4a:=ho.lt hle
   have lo:=ho.len
   generalize Jg s (k+1)=o at *
   obtain ⟨row,hrw⟩:∃ row,row=(gi o g.at_).n:=⟨_,rfl⟩
   have hr1:1≤row:=by have:(gi o g.at_).n≠0:=hr;omega
   have hr2:row≤k+1:=by rw [hrw];exact a4a
   have m1:=hg.lu
   have m2:=hg.lv
   have m3:=hg.lw
   have m4:=hg.ll
   have m5:=hg.ld
   have eR:Gv costs o m g=⟨(H7 o (CJ g) (DN costs o m g).delta ⟨g.u,g.v,(DN costs o m g).least⟩ (m+1)).u,(H7 o (CJ g) (DN costs o m g).delta ⟨g.u,g.v,(DN costs o m g).least⟩ (m+1)).v,(DN costs o m g).way,(H7 o (CJ g) (DN costs o m g).delta ⟨g.u,g.v,(DN costs o m g).least⟩ (m+1)).least,CJ g,(DN costs o m g).next⟩:=rfl
   rw [eR]
   have hD9:(CJ g).length=m+1:=by unfold CJ;rw [List.length_set,m5]
   have hrl:(gi costs ((gi o g.at_).n-1)).length=m:=hrow _ (by omega)
   have TA:∀ j,0≤gi (gi costs ((gi o g.at_).n-1)) j∧gi (gi costs ((gi o g.at_).n-1)) j≤B:=fun j=>⟨hc.lo (gi o g.at_).n (j+1),hc.hi (gi o g.at_).n (j+1)⟩
   have hu0:=hg.UL (gi o g.at_).n (by omega) (by omega)
   have hu1:=hub (gi o g.at_).n (by omega) (by omega)
   have hs1:EO .sub .i64 ((gi o g.at_).n:Int) 1=some (.int .i64 (((gi o g.at_).n-1:Nat):Int)):=by
    simp only [EO]
    rw [wrap_i64 (by omega)]
    congr 2;omega
   have hdn:∀ j,j≤m→gi (CJ g) j=true→1≤(gi o j).n∧(gi o j).n≤k+1:=fun j hj hd=>by
    obtain ⟨p,p1,p2⟩:=(hR.doneD j).1 hd
    have h1:=ho.lt hj
    refine ⟨?_,h1⟩
    rcases Nat.lt_or_ge p t with h|h
    ·have:=hg.oH p h
     rw [p2] at this
     unfold Hun.own at this
     omega
    ·obtain rfl:p=t:=by omega
     have h2:=hr
     rw [← hat,p2] at h2
     unfold Hun.own at h2
     omega
   clear hs1
   have hkB:(k:Int)*B≤1000*1000000000000:=Int.mul_le_mul (by omega) hB.2 hB.1 (by omega)
   repeat' (first|apply Ae.assoc|apply Ae.AA|apply Ae.Aq|apply Ae.Ai|apply Ae.I8|apply Ag.nil|apply Ag.one|(apply Aa.Ef (y:=true);rfl;rfl;rfl;trivial;(first|rfl|(refine congrArg (fun t=>[PV.p (FV.int _ t)]) ?_;first|omega|(simp only [Int.natCast_add,Int.natCast_mul,Int.natCast_ediv,Int.natCast_emod]<;>omega)));rfl;rfl;decide;(first|omega|(simp only [List.length_set]<;>omega)))|(apply Aa.assign;rfl)|(apply Aa.move;rfl)|(apply Aa.int;rfl;rfl;rfl)|(apply Aa.Dq;rfl;rfl;omega;rfl)|(apply Aa.Dh;rfl;rfl;rfl;rfl;omega)|(apply Ae.Af;rfl)|(intro _;try (exfalso;omega)))
   all_goals try (exfalso;omega)
   refine Ae.blk (nR (e:=e) (k:=k) (row:=(gi o g.at_).n) (a:=g.at_) (u:=g.u) (v:=g.v) (o:=o) (done:=CJ g) (s0:=⟨g.least,g.way,far,0⟩) hB hl hm (by omega) ⟨by omega,by omega⟩ hrl TA m1 m2 hD9 m4 m3 ⟨hu0,hu1⟩ fun j j1 j2=>⟨hvb j j1 j2,hg.dD j j1 j2⟩) (by omega) (by omega) ?_ ?_ ?_
   ·repeat (first|exact Ad.nil|refine Ad.same trivial rfl ?_|refine Ad.same (Ac rfl) rfl ?_|refine Ad.same ⟨trivial,Ac rfl,trivial⟩ rfl ?_|refine Ad.same ⟨trivial,Ac rfl,Ac rfl,trivial⟩ rfl ?_|refine Ad.same ⟨trivial,Ac rfl,Ac rfl,Ac rfl,trivial⟩ rfl ?_|refine Ad.same ⟨trivial,Ac rfl,Ac rfl,Ac rfl,Ac rfl,trivial⟩ rfl ?_|refine Ad.same ⟨trivial,trivial⟩ rfl ?_|refine Ad.cons trivial rfl (.of_eq (Aw (by simp<;>omega))) ?_)
   ·repeat (first|exact Aj.nil|(refine Aj.cons (Ac rfl) ?_ rfl ?_ ?_;(first|exact HB.Ap rfl|exact AU.Ah _ _|(simp [HB.under,AU.under,PV.under]));(first|exact Bo.refl _|exact Bo.vec (Bh.refl _) (by simp))))
   ·have eC:J5 (gi costs ((gi o g.at_).n-1)) (gi g.u (gi o g.at_).n) g.v (CJ g) g.at_ ⟨g.least,g.way,far,0⟩ m=DN costs o m g:=rfl
    rw [eC]
    generalize DN costs o m g=sc at *
    have n1:=hR.ll
    have n2:=hR.lw
    repeat' (first|apply Ae.assoc|apply Ae.AA|apply Ae.Ai|apply AO.normal|apply AL.exit|apply Ag.nil|apply Ag.one|(apply Aa.move;rfl)|(apply Aa.lenV;rfl;rfl;rfl))
    all_goals try (exfalso;omega)
    refine Ae.blk (iK (e:=e) (costs:=costs) (k:=k) (nxt:=sc.next) (o:=o) (way:=sc.way) (done:=CJ g) (t0:=⟨g.u,g.v,sc.least⟩) ⟨hR.d0,by have:=hR.dB;omega⟩ hm (by omega) m1 m2 n1 lo hD9 hpre.1 hpre.2 (fun j hj hd=>?_) (fun j hj=>?_) (fun j hj hd=>?_)) (by omega) (by omega) ?_ ?_ ?_
    ·have:=hdn j hj hd
     exact ⟨hg.UL _ this.1 this.2,Int.le_trans (hub _ this.1 this.2) hB.2⟩
    ·show -2000000000000000≤gi g.v j∧gi g.v j≤0
     rcases Nat.eq_zero_or_pos j with h|h
     ·subst h
      have:=hg.UL (k+1) (by omega) (Nat.le_refl _)
      have:=hub (k+1) (by omega) (Nat.le_refl _)
      omega
     ·have:=hvb j h hj
      exact ⟨by omega,hg.dD j h hj⟩
    ·have h0:1≤j:=by
      rcases Nat.eq_zero_or_pos j with h|h
      ·subst h
       rw [(hR.doneD 0).2 ⟨0,by omega,hg.zero⟩] at hd
       cases hd
      ·exact h
     obtain ⟨p,p1,p2,p3⟩:=hR.Vf j h0 hj hd
     have h1:=hR.dle j h0 hj hd
     have h2:=hR.d0
     have h3:=hvb j h0 hj
     have h4:=hc.hi (Hun.own o (LX costs m k s p)) j
     have h5:0≤gi g.u (Hun.own o (LX costs m k s p)):=by
      have hp1:Hun.own o (LX costs m k s p)≠0:=by
       rcases Nat.lt_or_ge p t with h|h
       ·exact hg.oH p h
       ·obtain rfl:p=t:=by omega
        rw [hat];exact hr
      exact hg.UL _ (by omega) (ho.lt (hg.le p (by omega)))
     have hf:far=1152921504606846976:=rfl
     show 0≤gi sc.least j∧gi sc.least j≤far
     omega
    ·repeat (first|exact Ad.nil|refine Ad.same trivial rfl ?_|refine Ad.same (Ac rfl) rfl ?_|refine Ad.same ⟨trivial,Ac rfl,trivial⟩ rfl ?_|refine Ad.same ⟨trivial,Ac rfl,Ac rfl,trivial⟩ rfl ?_|refine Ad.same ⟨trivial,Ac rfl,Ac rfl,Ac rfl,trivial⟩ rfl ?_|refine Ad.same ⟨trivial,Ac rfl,Ac rfl,Ac rfl,Ac rfl,trivial⟩ rfl ?_|refine Ad.same ⟨trivial,trivial⟩ rfl ?_|refine Ad.cons trivial rfl (.of_eq (Aw (by simp<;>omega))) ?_)
    ·repeat (first|exact Aj.nil|(refine Aj.cons (Ac rfl) ?_ rfl ?_ ?_;(first|exact HB.Ap rfl|exact AU.Ah _ _|(simp [HB.under,AU.under,PV.under]));(first|exact Bo.refl _|exact Bo.vec (Bh.refl _) (by simp))))
    ·repeat' (first|apply Ae.region|apply AO.normal|apply AL.normal|apply AL.exit|apply Ag.nil|apply Ag.one|(apply Aa.assign;rfl)|(apply Aa.move;rfl))
     all_goals try (exfalso;omega)
     refine Az.normal ⟨by first|omega|decide,?_,?_⟩
     ·repeat (first|exact Ad.nil|refine Ad.same trivial rfl ?_|refine Ad.same (Ac rfl) rfl ?_|refine Ad.same ⟨trivial,Ac rfl,trivial⟩ rfl ?_|refine Ad.same ⟨trivial,Ac rfl,Ac rfl,trivial⟩ rfl ?_|refine Ad.same ⟨trivial,Ac rfl,Ac rfl,Ac rfl,trivial⟩ rfl ?_|refine Ad.same ⟨trivial,Ac rfl,Ac rfl,Ac rfl,Ac rfl,trivial⟩ rfl ?_|refine Ad.same ⟨trivial,trivial⟩ rfl ?_|refine Ad.cons trivial rfl (.of_eq (Aw (by simp<;>omega))) ?_)
     ·repeat (first|exact Aj.nil|(refine Aj.cons (Ac rfl) ?_ rfl ?_ ?_;(first|exact HB.Ap rfl|exact AU.Ah _ _|(simp [HB.under,AU.under,PV.under]));(first|exact Bo.refl _|exact Bo.vec (Bh.refl _) (by simp))))
  ·have h0:(gi (Jg s (k+1)) (Eh costs (Jg s (k+1)) m (Qe m s) (Xl costs m s (k+1))).at_).n=0:=hend
   have hg:=hgr _ hgo
   have hle:=hg.le _ (Nat.le_refl _)
   have hat:LX costs m k s (Xl costs m s (k+1))=(Eh costs (Jg s (k+1)) m (Qe m s) (Xl costs m s (k+1))).at_:=rfl
   rw [hat] at hle
   have lo:=ho.len
   have eE:Eh costs (Jg s (k+1)) m (Qe m s) (Xl costs m s (k+1))=Lp costs m s (k+1):=rfl
   rw [eE] at h0 hle hg hat ⊢
   repeat' (first|apply Ae.assoc|apply Ae.AA|apply Ae.Ba|apply AO.normal|apply AL.exit|apply Az.exit|apply Ae.I8|apply Ag.nil|apply Ag.one|(apply Aa.move;rfl)|(apply Aa.int;rfl;rfl;rfl)|(apply Aa.Dq;rfl;rfl;omega;rfl)|(apply Aa.Dh;rfl;rfl;rfl;rfl;omega)|(apply Ae.Af;rfl)|(intro _;try (exfalso;omega)))
   all_goals try (exfalso;omega)
   have hA:∀ t,t≤yK costs m s (k+1)→(GY (Lp costs m s (k+1)).way (stA costs m s (k+1)) t).owner.length=m+1∧(GY (Lp costs m s (k+1)).way (stA costs m s (k+1)) t).at_≤m:=fun t ht=>by
    obtain ⟨q,q1,q2⟩:=hback.inv t ht
    exact ⟨q2.len,by rw [q2.at_];exact (hgr q fun p hp=>hgo p (by omega)).le q (Nat.le_refl _)⟩
   refine Ae.blk (uZ (e:=e) (costs:=costs) (n:=n) (k:=k) (u:=(Lp costs m s (k+1)).u) (v:=(Lp costs m s (k+1)).v) (a:=stA costs m s (k+1)) hm hg.lw (fun t ht=>(hA t ht).1) hback.go (fun t ht=>(hA t ht).2) hback.fin) (by omega) (by omega) ?_ ?_ ?_
   ·repeat (first|exact Ad.nil|refine Ad.same trivial rfl ?_|refine Ad.same (Ac rfl) rfl ?_|refine Ad.same ⟨trivial,Ac rfl,trivial⟩ rfl ?_|refine Ad.same ⟨trivial,Ac rfl,Ac rfl,trivial⟩ rfl ?_|refine Ad.same ⟨trivial,Ac rfl,Ac rfl,Ac rfl,trivial⟩ rfl ?_|refine Ad.same ⟨trivial,Ac rfl,Ac rfl,Ac rfl,Ac rfl,trivial⟩ rfl ?_|refine Ad.same ⟨trivial,trivial⟩ rfl ?_|refine Ad.cons trivial rfl (.of_eq (Aw (by simp<;>omega))) ?_)
   ·repeat (first|exact Aj.nil|(refine Aj.cons (Ac rfl) ?_ rfl ?_ ?_;(first|exact HB.Ap rfl|exact AU.Ah _ _|(simp [HB.under,AU.under,PV.under]));(first|exact Bo.refl _|exact Bo.vec (Bh.refl _) (by simp))))
   ·repeat' (first|apply Ae.region|apply AO.normal|apply AL.normal|apply AL.exit|apply Ag.nil|apply Ag.one|(apply Aa.assign;rfl)|(apply Aa.move;rfl)|(apply Aa.Bv;rfl;rfl;omega))
    all_goals try (exfalso;omega)
    refine Az.normal ⟨by first|omega|decide,?_,?_⟩
    ·repeat (first|exact Ad.nil|refine Ad.same trivial rfl ?_|refine Ad.same (Ac rfl) rfl ?_|refine Ad.same ⟨trivial,Ac rfl,trivial⟩ rfl ?_|refine Ad.same ⟨trivial,Ac rfl,Ac rfl,trivial⟩ rfl ?_|refine Ad.same ⟨trivial,Ac rfl,Ac rfl,Ac rfl,trivial⟩ rfl ?_|refine Ad.same ⟨trivial,Ac rfl,Ac rfl,Ac rfl,Ac rfl,trivial⟩ rfl ?_|refine Ad.same ⟨trivial,trivial⟩ rfl ?_|refine Ad.cons trivial rfl (.of_eq (Aw (by simp<;>omega))) ?_)
    ·repeat (first|exact Aj.nil|(refine Aj.cons (Ac rfl) ?_ rfl ?_ ?_;(first|exact HB.Ap rfl|exact AU.Ah _ _|(simp [HB.under,AU.under,PV.under]));(first|exact Bo.refl _|exact Bo.vec (Bh.refl _) (by simp))))
 ·have hS:=NP hc n (Nat.le_refl _)
  have hO:=Vr hS
  have hs:=WU hc
  have l1:=hS.lu
  have l2:=hS.lv
  have l3:=hS.lo
  have eO:KC costs (C9 costs n m n).owner n m=Gw costs n m:=rfl
  have eU:(C9 costs n m n).u.drop 1=JE costs n m:=rfl
  have eV:(C9 costs n m n).v.drop 1=GX costs n m:=rfl
  have htot:∀ j,j≤m→0≤(KC costs (C9 costs n m n).owner n j).total∧(KC costs (C9 costs n m n).owner n j).total≤1000000000000000:=fun j hj=>by
   rw [(hO j hj).total]
   have h1:=iG (f:=fun k=>if 0<Hun.own (C9 costs n m n).owner (k+1) then cst costs (Hun.own (C9 costs n m n).owner (k+1)) (k+1) else 0) (a:=0) (b:=1000000000000) (n:=j) fun k hk=>by
    split
    ·exact ⟨hc.lo _ _,Int.le_trans (hc.hi _ _) hB.2⟩
    ·exact ⟨Int.le_refl _,by decide⟩
   omega
  generalize C9 costs n m n=s at *
  repeat' (first|(refine Ae.at 34 ?_;refine Ae.ghost (Bc.freeze 5 rfl rfl) ?_;first|apply Ae.AA|apply Ae.BM)|(refine Ar.atIdx 4 ?_;refine Ar.ghost (Bc.freeze 6 rfl rfl) ?_)|apply Ae.assoc|apply Ae.AA|apply Ae.Ba|apply Ae.Ai|apply AO.normal|apply AL.exit|apply Az.exit|apply Ag.nil|apply Ar.nil|apply Ag.one|(apply Ar.bar;decide +kernel)|apply Ar.quiet|(apply Aa.Eo n (0:Int);rfl;rfl;rfl;rfl;rfl;rfl;rfl;omega;decide;decide;rfl)|(apply Aa.sliceFrom (l:=s.u) (a:=1);rfl;rfl;rfl;rfl;rfl;exact l1;omega)|(apply Aa.sliceFrom (l:=s.v) (a:=1);rfl;rfl;rfl;rfl;rfl;exact l2;omega)|(apply Aa.assign;rfl)|(apply Aa.move;rfl)|(apply Aa.int;rfl;rfl;rfl)|(apply Aa.alloc;rfl)|(apply Aa.Bl;rfl;rfl;rfl;trivial;rfl;rfl;exact Ac rfl;exact le_dec rfl)|(apply Aa.build;rfl;rfl;rfl;rfl;rfl)|(apply Ae.Af;rfl)|(intro _;try (exfalso;omega)))
  all_goals try (exfalso;omega)
  have e1:costs.length=n:=hl
  refine Ae.blk (uy (e:=e) (costs:=costs) (n:=n) (m:=m) (U:=s.u.drop 1) (V:=s.v.drop 1) (o:=s.owner) hm (by omega) hl hrow l3 (fun j j1 j2=>hS.own j j1 j2) (fun j hj=>(hO j hj).len) (fun r j=>⟨hc.lo (r+1) (j+1),Int.le_trans (hc.hi (r+1) (j+1)) hB.2⟩) htot) (by omega) (by omega) ?_ ?_ ?_
  ·repeat (first|exact Ad.nil|refine Ad.same trivial rfl ?_|refine Ad.same (Ac rfl) rfl ?_|refine Ad.same ⟨trivial,Ac rfl,trivial⟩ rfl ?_|refine Ad.same ⟨trivial,Ac rfl,Ac rfl,trivial⟩ rfl ?_|refine Ad.same ⟨trivial,Ac rfl,Ac rfl,Ac rfl,trivial⟩ rfl ?_|refine Ad.same ⟨trivial,Ac rfl,Ac rfl,Ac rfl,Ac rfl,trivial⟩ rfl ?_|refine Ad.same ⟨trivial,trivial⟩ rfl ?_|refine Ad.cons trivial rfl (.of_eq (Aw (by simp<;>omega))) ?_)
  ·repeat (first|exact Aj.nil|(refine Aj.cons (Ac rfl) ?_ rfl ?_ ?_;(first|exact HB.Ap rfl|exact AU.Ah _ _|(simp [HB.under,AU.under,PV.under]));(first|exact Bo.refl _|exact Bo.vec (Bh.refl _) (by simp))))
  ·rw [eO,eU,eV]
   repeat' (first|apply Ae.AA|apply AO.normal|apply AL.exit|apply Ae.ret|apply Ag.nil|apply Ag.one|(apply Aa.load;rfl;rfl)|(apply Aa.Bl;rfl;rfl;rfl;trivial;rfl;rfl;exact Ac rfl;exact le_dec rfl))
   all_goals try (exfalso;omega)
   refine Done.ret (H0:=[(5,.vec 3 (cells (Gw costs n m).cols) n false)]) (DR:=6) rfl (.refl _) ⟨Ac rfl,trivial,trivial,trivial,trivial⟩ ?_ (by omega) (by omega) ⟨rfl,rfl,rfl⟩
   repeat (first|exact Aj.nil|(refine Aj.cons (Ac rfl) ?_ rfl ?_ ?_;(first|exact HB.Ap rfl|exact AU.Ah _ _|(simp [HB.under,AU.under,PV.under]));(first|exact Bo.refl _|exact Bo.vec (Bh.refl _) (by simp))))
end Go.Proofs.YtdabojnmoejilaaGreatDoor
namespace Go.Proofs.YtdabojnmoejilaaGreatDoor
open Go Go.Am Go.Vm Go.Hun
attribute [local irreducible] Aa Ag Ar Ae Bz AV CS AO AL Az Vm.Done Df Bj
theorem U5 {L:Vm.Frame} {H:Vm.Heap} {nx:Nat} {Q:PV→Vm.Heap→Nat→Prop} {dst:Option Tmp} {ty:TypeId} {pos:String} {af:Array Edge} {gd:Option (Nat×Bool)} {fo:Operand} {args:Array Operand} {aT:Array TypeId} {fs cs xs:List PV} {c:Code}
 (hf:Bq env.Γ L fo=some (.clo 75 fs cs)) (ha:evs env.Γ L args.toList=some xs) (hb:Tryz.f75.body=some c) (hn:(fs++xs++cs).length≤Tryz.f75.ntmps)
 (h:Ae env nx c (CO 0 (fs++xs++cs)) H nx (Bj env.P Tryz.f75.results.toList Q)):Aa env true ⟨dst,.call { callee:=.value fo,args:=args,argTypes:=aT },ty,pos,af,gd⟩ L H nx Q:=by
 have h0:(match Tryz.f75.body with|some c=>Ht env.G Tryz.f75 c|none=>false)=true:=by kernel_rfl
 rw [hb] at h0
 exact Aa.inline rfl hf ha (AB (by decide)) Tryz.func75 hb h0 hn h
theorem U0 {L:Vm.Frame} {H:Vm.Heap} {nx:Nat} {Q:PV→Vm.Heap→Nat→Prop} {dst:Option Tmp} {ty:TypeId} {pos:String} {af:Array Edge} {gd:Option (Nat×Bool)} {fo:Operand} {args:Array Operand} {aT:Array TypeId} {fs cs xs:List PV} {c:Code}
 (hf:Bq env.Γ L fo=some (.clo 104 fs cs)) (ha:evs env.Γ L args.toList=some xs) (hb:Tryz.f104.body=some c) (hn:(fs++xs++cs).length≤Tryz.f104.ntmps)
 (h:Ae env nx c (CO 0 (fs++xs++cs)) H nx (Bj env.P Tryz.f104.results.toList Q)):Aa env true ⟨dst,.call { callee:=.value fo,args:=args,argTypes:=aT },ty,pos,af,gd⟩ L H nx Q:=by
 have h0:(match Tryz.f104.body with|some c=>Ht env.G Tryz.f104 c|none=>false)=true:=by kernel_rfl
 rw [hb] at h0
 exact Aa.inline rfl hf ha (AB (by decide)) Tryz.func104 hb h0 hn h
theorem yL {L:Vm.Frame} {H:Vm.Heap} {nx:Nat} {Q:PV→Vm.Heap→Nat→Prop} {dst:Option Tmp} {ty:TypeId} {pos:String} {af:Array Edge} {gd:Option (Nat×Bool)} {fo:Operand} {args:Array Operand} {aT:Array TypeId} {fs cs xs:List PV} {c:Code}
 (hf:Bq env.Γ L fo=some (.clo 101 fs cs)) (ha:evs env.Γ L args.toList=some xs) (hb:Tryz.f101.body=some c) (hn:(fs++xs++cs).length≤Tryz.f101.ntmps)
 (h:Ae env nx c (CO 0 (fs++xs++cs)) H nx (Bj env.P Tryz.f101.results.toList Q)):Aa env true ⟨dst,.call { callee:=.value fo,args:=args,argTypes:=aT },ty,pos,af,gd⟩ L H nx Q:=by
 have h0:(match Tryz.f101.body with|some c=>Ht env.G Tryz.f101 c|none=>false)=true:=by kernel_rfl
 rw [hb] at h0
 exact Aa.inline rfl hf ha (AB (by decide)) Tryz.func101 hb h0 hn h
structure Qy (l:List (List Int)) (n m:Nat) (skip B:Int):Prop where
 UG:yj l n m skip B
 n60:n≤60
 zq:m≤120
 B9:B≤1000000000
 m0:n=0→m=0
theorem Qy.cols {l:List (List Int)} {n m:Nat} {skip B:Int} (h:Qy l n m skip B):uK l=m:=by
 rcases Nat.eq_zero_or_pos n with h0|h0
 ·have:l=[]:=List.length_eq_zero_iff.1 (by rw [h.UG.len];exact h0)
  rw [this,h.m0 h0]
  rfl
 ·exact h.UG.row 0 h0
theorem aA {l:List (List Int)} {n m:Nat} {skip B:Int} (e:TypeId) (h:Qy l n m skip B):AV env 73 [.lst e (cells l) l.length,.bool false] (.p (.int .i64 0)):=by
 have h1:=h.UG.len
 have h2:=h.n60
 have h3:=h.zq
 have h4:=h.B9
 have Xu:=h.cols
 have hrow:=h.UG.row
 have qR:=h.UG.rng
 refine AV.enter (AB (by decide)) Tryz.func73 rfl (by kernel_rfl) (by simp [Tryz.ntmps73]) ?_
 rcases Nat.eq_zero_or_pos n with h0|h0
 ·have hl0:l=[]:=List.length_eq_zero_iff.1 (by omega)
  subst hl0
  repeat' (first|apply Ae.assoc|apply Ae.AA|apply Ae.Aq|apply Ae.Ai|apply Ag.nil|apply Ag.one|(apply Ag.take;rfl;rfl)|(apply Ag.drop;rfl;rfl;rfl)|(apply Aa.assign;rfl)|(apply Aa.move;rfl)|(apply Aa.int;rfl;rfl;rfl)|(apply Aa.AP;rfl;rfl)|(apply Aa.BX;rfl;rfl)|(apply Ae.Au;rfl))
  all_goals try (exfalso;omega)
  all_goals try contradiction
  apply Ae.Hq (0) [(0,_),(1,_),(24,_),(25,_)] [] (fun k r=>(26,.p (.int .i64 (k:Int)))::r) (fun k r=>r) 0
  ·first|omega|decide
  ·first|omega|decide
  ·repeat (first|exact Ad.nil|(refine Ad.eq rfl ?_ ?_;(first|exact PV.Ap rfl|(simp [PV.under,AU.under];done)))|refine Ad.cons trivial rfl (.of_eq (Aw (by simp<;>omega))) ?_)
  ·repeat (first|exact Aj.nil|(refine Aj.eq rfl (Ac rfl) ?_ ?_;(first|exact HB.Ap rfl|exact AU.Ah _ _|(simp [HB.under,AU.under,PV.under];done)))|(refine Aj.cons (Ac rfl) ?_ rfl ?_ ?_;(first|exact trivial|exact AU.Ah _ _|(simp [HB.under,AU.under,PV.under]));(first|exact Bo.refl _|exact Bo.vec (Bh.refl _) (by simp))))
  ·intro k hk;omega
  ·repeat' (first|apply Ae.assoc|apply Ae.AA|apply Ae.Aq|apply Ae.Ba|apply Ae.Ai|apply AO.normal|apply AL.exit|apply Az.exit|apply Ag.nil|apply Ag.one|(apply Ag.drop;rfl;rfl;rfl)|(apply Aa.move;rfl)|(apply Aa.int;rfl;rfl;rfl)|(apply Aa.AP;rfl;rfl)|(apply Aa.BX;rfl;rfl)|(apply Ae.Au;rfl))
   all_goals try (exfalso;omega)
   all_goals try contradiction
   apply Ae.Hq (0) [(0,_),(53,_),(54,_)] [] (fun k r=>(55,.p (.int .i64 (k:Int)))::r) (fun k r=>r) 0
   ·first|omega|decide
   ·first|omega|decide
   ·repeat (first|exact Ad.nil|(refine Ad.eq rfl ?_ ?_;(first|exact PV.Ap rfl|(simp [PV.under,AU.under];done)))|refine Ad.cons trivial rfl (.of_eq (Aw (by simp<;>omega))) ?_)
   ·repeat (first|exact Aj.nil|(refine Aj.eq rfl (Ac rfl) ?_ ?_;(first|exact HB.Ap rfl|exact AU.Ah _ _|(simp [HB.under,AU.under,PV.under];done)))|(refine Aj.cons (Ac rfl) ?_ rfl ?_ ?_;(first|exact trivial|exact AU.Ah _ _|(simp [HB.under,AU.under,PV.under]));(first|exact Bo.refl _|exact Bo.vec (Bh.refl _) (by simp))))
   ·intro k hk;omega
   ·repeat' (first|apply Ae.AA|apply Ae.Ba|apply AO.normal|apply AL.exit|apply Az.exit|apply Ae.ret|apply Ag.nil|apply Ag.one|(apply Aa.assign;rfl)|(apply Aa.int;rfl;rfl;rfl)|(apply Ae.Au;rfl))
    all_goals first|(exfalso;omega)|contradiction|(refine Done.ret rfl (.refl _) (by first|exact trivial|exact ⟨trivial,trivial,trivial⟩|exact ⟨trivial,trivial,trivial,trivial⟩) Aj.nil (Nat.zero_le _) (Nat.le_refl _) ⟨?_,rfl,rfl⟩;try rfl)
 ·have hr0:=hrow 0 h0
  have hc0:(gi l 0).length=m:=hr0
  repeat' (first|apply Ae.assoc|apply Ae.AA|apply Ae.Aq|apply Ae.Ai|apply Ag.nil|apply Ag.one|(apply Ag.take;rfl;rfl)|(apply Ag.guard;rfl;rfl)|(apply Aa.A8 (l:=l) (i:=0);rfl;rfl;rfl;omega;rfl)|(apply Aa.assign;rfl)|(apply Aa.move;rfl)|(apply Aa.int;rfl;rfl;rfl)|(apply Aa.load;rfl;rfl)|(apply Aa.BA;rfl;rfl)|(apply Aa.AP;rfl;rfl)|(apply Aa.BX;rfl;rfl)|(apply Ae.Af;rfl)|(intro _;try (exfalso;omega)))
  all_goals try (exfalso;omega)
  all_goals try contradiction
  apply Ae.Hq (l.length) [(0,_),(1,_),(24,_),(25,_)] [] (fun k r=>(26,.p (.int .i64 (k:Int)))::r) (fun k r=>r) 0
  ·first|omega|decide
  ·first|omega|decide
  ·repeat (first|exact Ad.nil|(refine Ad.eq rfl ?_ ?_;(first|exact PV.Ap rfl|(simp [PV.under,AU.under];done)))|refine Ad.cons trivial rfl (.of_eq (Aw (by simp<;>omega))) ?_)
  ·repeat (first|exact Aj.nil|(refine Aj.eq rfl (Ac rfl) ?_ ?_;(first|exact HB.Ap rfl|exact AU.Ah _ _|(simp [HB.under,AU.under,PV.under];done)))|(refine Aj.cons (Ac rfl) ?_ rfl ?_ ?_;(first|exact trivial|exact AU.Ah _ _|(simp [HB.under,AU.under,PV.under]));(first|exact Bo.refl _|exact Bo.vec (Bh.refl _) (by simp))))
  ·intro k hk
   have hrk:=hrow k (by omega)
   repeat' (first|apply Ae.AA|apply Ae.region|apply Ae.Aq|apply Ae.Ai|apply AO.normal|apply AL.normal|apply Ae.skip|apply Ag.nil|apply Ag.one|(apply Aa.A8 (l:=l) (i:=k);rfl;rfl;rfl;omega;rfl)|(apply Aa.A8 (l:=l) (i:=0);rfl;rfl;rfl;omega;rfl)|(apply Aa.assign;rfl)|(apply Aa.move;rfl)|(apply Aa.Bv;rfl;rfl;omega)|(apply Aa.int;rfl;rfl;rfl)|(apply Aa.load;rfl;rfl)|(apply Aa.BX;rfl;rfl)|(apply Ae.Af;rfl)|(apply Ae.Bd;rfl)|(intro _;try (exfalso;omega)))
   all_goals try (exfalso;omega)
   refine Az.normal ⟨by first|omega|decide,?_,?_⟩
   ·repeat (first|exact Ad.nil|refine Ad.same trivial rfl ?_|refine Ad.same (Ac rfl) rfl ?_|refine Ad.same ⟨trivial,Ac rfl,trivial⟩ rfl ?_|refine Ad.same ⟨trivial,Ac rfl,Ac rfl,trivial⟩ rfl ?_|refine Ad.same ⟨trivial,Ac rfl,Ac rfl,Ac rfl,trivial⟩ rfl ?_|refine Ad.same ⟨trivial,Ac rfl,Ac rfl,Ac rfl,Ac rfl,trivial⟩ rfl ?_|refine Ad.same ⟨trivial,trivial⟩ rfl ?_|refine Ad.cons trivial rfl (.of_eq (Aw (by simp<;>omega))) ?_)
   ·repeat (first|exact Aj.nil|(refine Aj.cons (Ac rfl) ?_ rfl ?_ ?_;(first|exact HB.Ap rfl|exact AU.Ah _ _|(simp [HB.under,AU.under,PV.under]));(first|exact Bo.refl _|exact Bo.vec (Bh.refl _) (by simp))))
  ·repeat' (first|apply Ae.assoc|apply Ae.AA|apply Ae.Aq|apply Ae.Ba|apply Ae.Ai|apply AO.normal|apply AL.exit|apply Az.exit|apply Ag.nil|apply Ag.one|(apply Ag.drop;rfl;rfl;rfl)|(apply Aa.move;rfl)|(apply Aa.int;rfl;rfl;rfl)|(apply Aa.AP;rfl;rfl)|(apply Aa.BX;rfl;rfl)|(apply Ae.Au;rfl)|(apply Ae.Af;rfl)|(intro _;try (exfalso;omega)))
   all_goals try (exfalso;omega)
   all_goals try contradiction
   apply Ae.Hq (l.length) [(0,_),(53,_),(54,_)] [] (fun k r=>(55,.p (.int .i64 (k:Int)))::r) (fun k r=>r) 0
   ·first|omega|decide
   ·first|omega|decide
   ·repeat (first|exact Ad.nil|(refine Ad.eq rfl ?_ ?_;(first|exact PV.Ap rfl|(simp [PV.under,AU.under];done)))|refine Ad.cons trivial rfl (.of_eq (Aw (by simp<;>omega))) ?_)
   ·repeat (first|exact Aj.nil|(refine Aj.eq rfl (Ac rfl) ?_ ?_;(first|exact HB.Ap rfl|exact AU.Ah _ _|(simp [HB.under,AU.under,PV.under];done)))|(refine Aj.cons (Ac rfl) ?_ rfl ?_ ?_;(first|exact trivial|exact AU.Ah _ _|(simp [HB.under,AU.under,PV.under]));(first|exact Bo.refl _|exact Bo.vec (Bh.refl _) (by simp))))
   ·intro k hk
    have hrk:=hrow k (by omega)
    repeat' (first|apply Ae.assoc|apply Ae.AA|apply Ae.Aq|apply Ae.Ai|apply Ag.nil|apply Ag.one|(apply U5;rfl;rfl;rfl;exact le_dec rfl)|(apply U0;rfl;rfl;rfl;exact le_dec rfl)|(apply Aa.assign;rfl)|(apply Aa.move;rfl)|(apply Aa.int;rfl;rfl;rfl)|(apply Aa.A8;rfl;rfl;rfl;omega;rfl)|(apply Aa.load;rfl;rfl)|(apply Aa.BX;rfl;rfl)|(apply Ae.Af;rfl)|(intro _;try (exfalso;omega)))
    all_goals try (exfalso;omega)
    apply Ae.Hq ((gi l k).length) [(0,_),(1,_),(7,_)] [] (fun k_ r=>(8,.p (.int .i64 (k_:Int)))::r) (fun k_ r=>r) 0
    ·first|omega|decide
    ·first|omega|decide
    ·repeat (first|exact Ad.nil|(refine Ad.eq rfl ?_ ?_;(first|exact PV.Ap rfl|(simp [PV.under,AU.under];done)))|refine Ad.cons trivial rfl (.of_eq (Aw (by simp<;>omega))) ?_)
    ·repeat (first|exact Aj.nil|(refine Aj.eq rfl (Ac rfl) ?_ ?_;(first|exact HB.Ap rfl|exact AU.Ah _ _|(simp [HB.under,AU.under,PV.under];done)))|(refine Aj.cons (Ac rfl) ?_ rfl ?_ ?_;(first|exact trivial|exact AU.Ah _ _|(simp [HB.under,AU.under,PV.under]));(first|exact Bo.refl _|exact Bo.vec (Bh.refl _) (by simp))))
    ·intro j hj
     have hb:=qR k j (by omega) (by omega)
     repeat' (first|apply Ae.AA|apply Ae.region|apply Ae.Aq|apply Ae.Ai|apply AO.normal|(apply Bj.ret;rfl)|apply AL.normal|apply Ae.ret|apply Ae.skip|apply Ag.nil|apply Ag.one|(apply Ag.take;rfl;rfl)|(apply Ag.guard;rfl;rfl)|(apply yL;rfl;rfl;rfl;exact le_dec rfl)|(apply Aa.assign;rfl)|(apply Aa.move;rfl)|(apply Aa.Bv;rfl;rfl;omega)|(apply Aa.int;rfl;rfl;rfl)|(apply Aa.A8;rfl;rfl;rfl;omega;rfl)|(apply Aa.load;rfl;rfl)|(apply Aa.AP;rfl;rfl)|(apply Ae.Af;rfl)|(apply Ae.Bd;rfl)|(intro _;try (exfalso;omega)))
     all_goals try (exfalso;omega)
     refine Az.normal ⟨by first|omega|decide,?_,?_⟩
     ·repeat (first|exact Ad.nil|refine Ad.same trivial rfl ?_|refine Ad.same (Ac rfl) rfl ?_|refine Ad.same ⟨trivial,Ac rfl,trivial⟩ rfl ?_|refine Ad.same ⟨trivial,Ac rfl,Ac rfl,trivial⟩ rfl ?_|refine Ad.same ⟨trivial,Ac rfl,Ac rfl,Ac rfl,trivial⟩ rfl ?_|refine Ad.same ⟨trivial,Ac rfl,Ac rfl,Ac rfl,Ac rfl,trivial⟩ rfl ?_|refine Ad.same ⟨trivial,trivial⟩ rfl ?_|refine Ad.cons trivial rfl (.of_eq (Aw (by simp<;>omega))) ?_)
     ·repeat (first|exact Aj.nil|(refine Aj.cons (Ac rfl) ?_ rfl ?_ ?_;(first|exact HB.Ap rfl|exact AU.Ah _ _|(simp [HB.under,AU.under,PV.under]));(first|exact Bo.refl _|exact Bo.vec (Bh.refl _) (by simp))))
    ·repeat' (first|apply Ae.AA|apply Ae.region|apply Ae.Ba|apply AO.normal|(apply Bj.ret;rfl)|apply AL.normal|apply AL.exit|apply Az.exit|apply Ae.ret|apply Ae.skip|apply Ag.nil|apply Ag.one|(apply Aa.assign;rfl)|(apply Aa.move;rfl)|(apply Aa.Bv;rfl;rfl;omega)|(apply Aa.int;rfl;rfl;rfl)|(apply Ae.Af;rfl)|(apply Ae.cond_false;rfl)|(intro _;try (exfalso;omega)))
     all_goals try (exfalso;omega)
     all_goals try contradiction
     refine Az.normal ⟨by first|omega|decide,?_,?_⟩
     ·repeat (first|exact Ad.nil|refine Ad.same trivial rfl ?_|refine Ad.same (Ac rfl) rfl ?_|refine Ad.same ⟨trivial,Ac rfl,trivial⟩ rfl ?_|refine Ad.same ⟨trivial,Ac rfl,Ac rfl,trivial⟩ rfl ?_|refine Ad.same ⟨trivial,Ac rfl,Ac rfl,Ac rfl,trivial⟩ rfl ?_|refine Ad.same ⟨trivial,Ac rfl,Ac rfl,Ac rfl,Ac rfl,trivial⟩ rfl ?_|refine Ad.same ⟨trivial,trivial⟩ rfl ?_|refine Ad.cons trivial rfl (.of_eq (Aw (by simp<;>omega))) ?_)
     ·repeat (first|exact Aj.nil|(refine Aj.cons (Ac rfl) ?_ rfl ?_ ?_;(first|exact HB.Ap rfl|exact AU.Ah _ _|(simp [HB.under,AU.under,PV.under]));(first|exact Bo.refl _|exact Bo.vec (Bh.refl _) (by simp))))
   ·repeat' (first|apply Ae.AA|apply Ae.Ba|apply AO.normal|apply AL.exit|apply Az.exit|apply Ae.ret|apply Ag.nil|apply Ag.one|(apply Aa.assign;rfl)|(apply Aa.int;rfl;rfl;rfl)|(apply Ae.Af;rfl)|(intro _;try (exfalso;omega)))
    all_goals first|(exfalso;omega)|contradiction|(refine Done.ret rfl (.refl _) (by first|exact trivial|exact ⟨trivial,trivial,trivial⟩|exact ⟨trivial,trivial,trivial,trivial⟩) Aj.nil (Nat.zero_le _) (Nat.le_refl _) ⟨?_,rfl,rfl⟩;try rfl)
theorem MB {l:List (List Int)} {n m:Nat} {skip B:Int} (e:TypeId) (h:Qy l n m skip B):AV env 46 [.lst e (cells l) l.length,.int .i64 skip] (.p (.int .i64 0)):=by
 have hc:=aA e h
 have h4:=h.B9
 have h5:=h.UG.skip
 refine AV.enter (AB (by decide)) Tryz.func46 rfl (by kernel_rfl) (by simp [Tryz.ntmps46]) ?_
 repeat' (first|apply Ae.assoc|apply Ae.AA|apply Ae.Aq|apply Ae.ret|apply Ag.nil|apply Ag.one|(apply Ag.take;rfl;rfl)|(apply Ag.guard;rfl;rfl)|(apply Aa.fn;rfl;rfl;exact hc;intro _;rfl)|(apply Aa.assign;rfl)|(apply Aa.move;rfl)|(apply Aa.int;rfl;rfl;rfl)|(apply Aa.AP;rfl;rfl)|(apply Ae.Au;rfl)|(apply Ae.Af;rfl)|(intro _;try (exfalso;omega)))
 all_goals first|(exfalso;omega)|contradiction|(refine Done.ret rfl (.refl _) (by first|exact trivial|exact ⟨trivial,trivial,trivial⟩|exact ⟨trivial,trivial,trivial,trivial⟩) Aj.nil (Nat.zero_le _) (Nat.le_refl _) ⟨?_,rfl,rfl⟩;try rfl)
theorem Oc {l:List (List Int)} {n m:Nat} {skip B:Int} (e:TypeId) (h:Qy l n m skip B):AV env 69 [.lst e (cells l) l.length] (.p (.int .i64 (m:Int))):=by
 have:=Lm e l (by have:=h.UG.len;have:=h.n60;omega)
 rwa [h.cols] at this
theorem eH (l:List Int) (h0:0<l.length) (h1:l.length<1000000):CS env 70 [.lst 3 (cells l) l.length] 3 (cells l) l.length false:=by
 refine CS.enter (AB (by decide)) Tryz.func70 rfl (by kernel_rfl) (by simp [Tryz.ntmps70]) ?_
 repeat' (first|apply Ae.assoc|apply Ae.AA|apply Ae.Aq|apply Ae.ret|apply Ag.nil|apply Ag.one|(apply Aa.a1z;rfl;rfl;rfl;exact h0)|(apply Aa.assign;rfl)|(apply Aa.move;rfl)|(apply Aa.buildSlice;rfl;rfl;rfl;decide;rfl;rfl;rfl)|(apply Aa.I4;rfl;rfl;rfl;(first|rfl|omega|(simp only [List.length_take,List.length_drop,List.length_append,List.length_singleton,List.length_cons,List.length_nil]<;>omega));rfl;rfl;(intro _ h;cases h);rfl;rfl;rfl;decide;decide;(first|omega|(simp only [List.length_take,List.length_drop,List.length_append,List.length_singleton,List.length_cons,List.length_nil]<;>omega)))|(apply Ae.Au;rfl))
 exact Df.ret rfl rfl rfl rfl
theorem yI {L:Vm.Frame} {H:Vm.Heap} {nx:Nat} {Q:PV→Vm.Heap→Nat→Prop} {dst:Option Tmp} {ty:TypeId} {pos:String} {af:Array Edge} {gd:Option (Nat×Bool)} {fo:Operand} {args:Array Operand} {aT:Array TypeId} {fs cs xs:List PV} {c:Code}
 (hf:Bq env.Γ L fo=some (.clo 70 fs cs)) (ha:evs env.Γ L args.toList=some xs) (hb:Tryz.f70.body=some c) (hn:(fs++xs++cs).length≤Tryz.f70.ntmps)
 (h:Ae env nx c (CO 0 (fs++xs++cs)) H nx (Bj env.P Tryz.f70.results.toList Q)):Aa env true ⟨dst,.call { callee:=.value fo,args:=args,argTypes:=aT },ty,pos,af,gd⟩ L H nx Q:=by
 have h0:(match Tryz.f70.body with|some c=>Ht env.G Tryz.f70 c|none=>false)=true:=by kernel_rfl
 rw [hb] at h0
 exact Aa.inline rfl hf ha (AB (by decide)) Tryz.func70 hb h0 hn h
theorem mP {α:Type} [Inhabited α] {l:List α} {k:Nat} (h:k<l.length):l.take (k+1)=l.take k++[gi l k]:=by
 rw [List.take_succ_eq_append_getElem h]
 unfold gi
 rw [List.getElem?_eq_getElem h];rfl
def UF (l:List (List Int)) (skip:Int) (k:Nat):List Int:=gi l k++List.replicate (l.length+1) skip
def Ny (l:List (List Int)) (skip:Int) (k:Nat):List (List Int):=(Dy l skip l.length).take k++List.replicate (l.length-k) []
theorem OB (l:List (List Int)) (skip:Int) (n:Nat):(Dy l skip n).length=l.length:=by simp [Dy]
theorem nG (l:List (List Int)) (skip:Int) {k:Nat} (h:k≤l.length):(Ny l skip k).length=l.length:=by
 unfold Ny
 rw [List.length_append,List.length_take,List.length_replicate,OB];omega
theorem nT (l:List (List Int)) (skip:Int):Ny l skip l.length=Dy l skip l.length:=by
 unfold Ny
 rw [Nat.sub_self,List.take_of_length_le (by rw [OB];exact Nat.le_refl _)]
 simp
theorem nP (l:List (List Int)) (skip:Int) {k:Nat} (h:k<l.length):(Ny l skip k).set k (UF l skip k)=Ny l skip (k+1):=by
 have e1:UF l skip k=gi (Dy l skip l.length) k:=(gi_map' (fun row=>row++List.replicate (l.length+1) skip) h).symm
 have hk:k<(Dy l skip l.length).length:=by rw [OB];exact h
 obtain ⟨r,hr⟩:∃ r,l.length-k=r+1:=⟨l.length-k-1,by omega⟩
 unfold Ny
 rw [e1,mP hk,hr,show l.length-(k+1)=r by omega]
 have ht:((Dy l skip l.length).take k).length=k:=by rw [List.length_take];omega
 generalize gi (Dy l skip l.length) k=x
 generalize (Dy l skip l.length).take k=t at *
 rw [List.set_append_right _ _ (by omega),ht,Nat.sub_self,List.replicate_succ,List.set_cons_zero,List.append_assoc]
 rfl
theorem Yd:∀ n:Nat,Bh ((AY [.slice none 0 0] n).map F5) (cells (List.replicate n ([]:List Int)))
 |0=>.refl _
 |n+1=>.cons (.nil _) (Yd n)
theorem jY (l:List (List Int)) (skip:Int):Ny l skip 0=List.replicate l.length []:=by unfold Ny;simp
def UC (m:Nat) (cols:List Int) (j:Nat):List Int:=(cols.take j).map (KD m)++cols.drop j
theorem WS (m:Nat) (cols:List Int) (j:Nat):(UC m cols j).length=cols.length:=by
 unfold UC
 rw [List.length_append,List.length_map,List.length_take,List.length_drop];omega
theorem kK (m:Nat) (cols:List Int) {j:Nat} (h:j<cols.length):gi (UC m cols j) j=gi cols j:=by
 unfold UC gi
 rw [List.getElem?_append_right (by rw [List.length_map,List.length_take];omega),List.length_map,List.length_take,Nat.min_eq_left (Nat.le_of_lt h),Nat.sub_self,List.getElem?_drop,Nat.add_zero]
theorem dN (m:Nat) (cols:List Int) {j:Nat} (h:j<cols.length):(UC m cols j).set j (KD m (gi cols j))=UC m cols (j+1):=by
 unfold UC
 have ht:((cols.take j).map (KD m)).length=j:=by rw [List.length_map,List.length_take];omega
 rw [List.set_append_right _ _ (by omega),ht,Nat.sub_self,mP h,List.map_append,List.append_assoc]
 congr 1
 rw [List.drop_eq_getElem_cons h,List.set_cons_zero]
 rfl
theorem oh (m:Nat) (cols:List Int) {j:Nat} (h:j<cols.length) (hc:KD m (gi cols j)=gi cols j):UC m cols (j+1)=UC m cols j:=by
 rw [← dN m cols h,hc,← kK m cols h]
 refine List.ext_getElem? fun i=>?_
 rw [List.getElem?_set]
 by_cases e:j=i
 ·subst e
  rw [if_pos rfl,if_pos (by rw [WS];exact h)]
  unfold gi
  rw [List.getElem?_eq_getElem (by rw [WS];exact h)]
  rfl
 ·rw [if_neg e]
theorem rG (m:Nat) (cols:List Int):UC m cols cols.length=cols.map (KD m):=by
 unfold UC
 rw [List.take_of_length_le (Nat.le_refl _),List.drop_of_length_le (Nat.le_refl _),List.append_nil]
structure QI where
 cols:List Int
 total:Int
 rows:List Int
 BQ:List Int
def QI.enc (x:QI):List FV:=[.lst 3 (cells x.cols) x.cols.length,.int .i64 x.total,.lst 3 (cells x.rows) x.rows.length,.lst 3 (cells x.BQ) x.BQ.length]
instance:Enc QI:={ default:=⟨[],0,[],[]⟩,enc:=QI.enc,size:=4,len:=fun _=>rfl }
def Zu (l:List (List Int)) (m:Nat) (skip:Int):QI:=⟨wV l l.length m skip,jh l l.length m skip,tZ l l.length m skip,uY l l.length m skip⟩
theorem Zx {l:List (List Int)} {m:Nat} {skip B:Int} (e:TypeId) (h:Qy l l.length m skip B) (h0:0<l.length) :
 AV env 45 [.lst e (cells l) l.length,.int .i64 skip] (.ET [.p (.agg (Enc.enc (Zu l m skip))),.p (.int .i64 0)]):=by
 have hck:=MB e h
 have hcl:=Oc e h
 have h2:=h.n60
 have h3:=h.zq
 have hrow:=h.UG.row
 have hP:=YS h.UG
 have hw:=Yu h.UG
 have hs:=WU hw
 have hsv:=dW (costs:=Dy l skip l.length) (n:=l.length) (m:=m+(l.length+1)) 52 hw (OB _ _ _) (fun r hr=>by
  unfold Dy
  rw [gi_map' _ hr,List.length_append,List.length_replicate,hrow r hr]) h0 (by omega)
 have hroom:l.length*(24+1)≤room∧l.length≤2 ^ 40:=⟨by have:=Zo (n:=l.length) (k:=0) (b:=24) (by omega) (by decide);simpa using this,by omega⟩
 refine AV.enter (AB (by decide)) Tryz.func45 rfl (by kernel_rfl) (by simp [Tryz.ntmps45]) ?_
 repeat' (first|apply Ae.assoc|apply Ae.AA|apply Ae.Aq|apply Ae.Ai|apply Ag.nil|apply Ag.one|(apply Aa.fn;rfl;rfl;exact hck;intro _;rfl)|(apply Aa.fn;rfl;rfl;exact hcl;intro _;rfl)|(apply Aa.makeSlice (n:=l.length);rfl;rfl;rfl;rfl;rfl;exact hroom;decide)|(apply Aa.assign;rfl)|(apply Aa.move;rfl)|(apply Aa.int;rfl;rfl;rfl)|(apply Aa.BX;rfl;rfl)|(apply Aa.alloc;rfl)|(apply Ae.Au;rfl))
 all_goals try (exfalso;omega)
 all_goals try contradiction
 refine Ae.ghost (Bc.a3f 1 (cells (Ny l skip 0)) rfl (by rw [jY];exact Yd _)) ?_
 apply Ae.Hq (l.length) [(0,_),(1,_),(4,_),(7,_),(8,_),(26,_),(27,_)] [(0,_)] (fun k r=>(28,.p (.int .i64 (k:Int)))::r) (fun k r=>(1,.vec 52 (cells (Ny l skip k)) l.length false)::r) 2
 ·first|omega|decide
 ·first|omega|decide
 ·repeat (first|exact Ad.nil|(refine Ad.eq rfl ?_ ?_;(first|exact PV.Ap rfl|(simp [PV.under,AU.under];done)))|refine Ad.cons trivial rfl (.of_eq (Aw (by simp<;>omega))) ?_)
 ·repeat (first|exact Aj.nil|(refine Aj.eq rfl (Ac rfl) ?_ ?_;(first|exact HB.Ap rfl|exact AU.Ah _ _|(simp [HB.under,AU.under,PV.under];done)))|(refine Aj.cons (Ac rfl) ?_ rfl ?_ ?_;(first|exact trivial|exact AU.Ah _ _|(simp [HB.under,AU.under,PV.under]));(first|exact Bo.refl _|exact Bo.vec (Bh.refl _) (by simp))))
 ·intro k hk
  have hrk:=hrow k hk
  have hsl:=nG l skip (Nat.le_of_lt hk)
  have hst:=nP l skip hk
  have hrep:=TJ 3 skip (l.length+1) (by omega) (by omega)
  have hlen:(gi l k++List.replicate (l.length+1) skip).length=(gi l k).length+(List.replicate (l.length+1) skip).length:=List.length_append
  have hrl:(List.replicate (l.length+1) skip).length=l.length+1:=List.length_replicate
  have hpc:Fv (.p (.lst 3 (cells (gi l k++List.replicate (l.length+1) skip)) ((gi l k).length+(List.replicate (l.length+1) skip).length)))=(Enc.enc (UF l skip k)).map .p:=by
   show [PV.p (FV.lst 3 (cells (gi l k++List.replicate (l.length+1) skip)) ((gi l k).length+(List.replicate (l.length+1) skip).length))]=[PV.p (FV.lst 3 (cells (UF l skip k)) (UF l skip k).length)]
   rw [show (UF l skip k).length=_ from hlen];rfl
  by_cases hm:0<m
  ·have hcn:=eH (gi l k) (by omega) (by omega)
   repeat' (first|(refine Ag.J4 42 ?_;refine Ag.ghost (Bc.freeze 38 rfl rfl) ?_)|(refine Ag.J4 43 ?_;refine Ag.ghost (Bc.freeze 42 rfl rfl) ?_)|(refine Ag.J4 44 ?_;refine Ag.ghost (Bc.freeze 43 rfl rfl) ?_)|apply Ae.AA|apply Ae.region|apply Ae.Aq|apply Ae.Ai|apply AO.normal|apply AL.normal|apply Ag.nil|apply Ag.one|(apply Aa.fv;rfl;rfl;exact hcn)|(apply Aa.fv;rfl;rfl;exact hrep)|(apply Aa.Ef (y:=UF l skip k);rfl;rfl;rfl;trivial;exact hpc;rfl;rfl;decide;omega)|(apply Aa.P8 (l:=gi l k) (r:=List.replicate (l.length+1) skip);rfl;rfl;rfl;rfl;exact hrl;rfl;rfl;(intro _ h;cases h);rfl;rfl;rfl;decide;decide;omega)|(apply Aa.assign;rfl)|(apply Aa.move;rfl)|(apply Aa.Bv;rfl;rfl;omega)|(apply Aa.int;rfl;rfl;rfl)|(apply Aa.A8;rfl;rfl;rfl;omega;rfl)|(apply Aa.load;rfl;rfl)|(apply Aa.BX;rfl;rfl)|(apply Aa.buildSlice;rfl;rfl;rfl;decide;rfl;rfl;rfl)|(apply Aa.Dh;rfl;rfl;rfl;rfl;omega)|(apply Ae.Af;rfl)|(intro _;try (exfalso;omega)))
   all_goals try (exfalso;omega)
   refine Az.normal ⟨by first|omega|decide,?_,?_⟩
   ·try (rw [← hst])
    repeat (first|exact Ad.nil|refine Ad.same trivial rfl ?_|refine Ad.same (Ac rfl) rfl ?_|refine Ad.same ⟨trivial,Ac rfl,trivial⟩ rfl ?_|refine Ad.same ⟨trivial,Ac rfl,Ac rfl,trivial⟩ rfl ?_|refine Ad.same ⟨trivial,Ac rfl,Ac rfl,Ac rfl,trivial⟩ rfl ?_|refine Ad.same ⟨trivial,Ac rfl,Ac rfl,Ac rfl,Ac rfl,trivial⟩ rfl ?_|refine Ad.same ⟨trivial,trivial⟩ rfl ?_|refine Ad.cons trivial rfl (.of_eq (Aw (by simp<;>omega))) ?_)
   ·rw [← hst]
    repeat (first|exact Aj.nil|(refine Aj.cons (Ac rfl) ?_ rfl ?_ ?_;(first|exact HB.Ap rfl|exact AU.Ah _ _|(simp [HB.under,AU.under,PV.under]));(first|exact Bo.refl _|exact Bo.vec (Bh.refl _) (by simp))))
  ·have hl0:gi l k=[]:=List.length_eq_zero_iff.1 (by omega)
   have a6z:Fv (.p (.lst 3 (cells (List.replicate (l.length+1) skip)) (List.replicate (l.length+1) skip).length))=(Enc.enc (UF l skip k)).map .p:=by
    rw [show UF l skip k=List.replicate (l.length+1) skip by unfold UF;rw [hl0];rfl];rfl
   repeat' (first|(refine Ag.J4 42 ?_;refine Ag.ghost (Bc.freeze 38 rfl rfl) ?_)|(refine Ag.J4 43 ?_;refine Ag.ghost (Bc.trans (Bc.freeze 42 rfl rfl) (Bc.adopt 36 3 rfl)) ?_)|(refine Ag.J4 43 ?_;refine Ag.ghost (Bc.freeze 42 rfl rfl) ?_)|(refine Ag.J4 44 ?_;refine Ag.ghost (Bc.freeze 43 rfl rfl) ?_)|apply Ae.assoc|apply Ae.AA|apply Ae.region|apply Ae.Aq|apply Ae.BO|apply Ae.Ai|apply AO.normal|(apply Bj.ret;rfl)|apply AL.normal|apply Ae.ret|apply Ag.nil|apply Ag.one|(apply yI;rfl;rfl;rfl;exact le_dec rfl)|(apply Aa.fv;rfl;rfl;exact hrep)|(apply Aa.Ef (y:=UF l skip k);rfl;rfl;rfl;trivial;exact a6z;rfl;rfl;decide;omega)|(apply Aa.I4 (r:=List.replicate (l.length+1) skip);rfl;rfl;rfl;exact hrl;rfl;rfl;(intro _ h;cases h);rfl;rfl;rfl;decide;decide;omega)|(apply Aa.eqNil;rfl;rfl;rfl;intro b hb)|(apply Aa.Ef (y:=UF l skip k);rfl;rfl;rfl;trivial;exact hpc;rfl;rfl;decide;omega)|(apply Aa.P8 (l:=gi l k) (r:=List.replicate (l.length+1) skip);rfl;rfl;rfl;rfl;exact hrl;rfl;rfl;(intro _ h;cases h);rfl;rfl;rfl;decide;decide;omega)|(apply Aa.assign;rfl)|(apply Aa.move;rfl)|(apply Aa.Bv;rfl;rfl;omega)|(apply Aa.int;rfl;rfl;rfl)|(apply Aa.A8;rfl;rfl;rfl;omega;rfl)|(apply Aa.load;rfl;rfl)|(apply Aa.BX;rfl;rfl)|(apply Aa.buildSlice;rfl;rfl;rfl;decide;rfl;rfl;rfl)|(apply Aa.Dh;rfl;rfl;rfl;rfl;omega)|(apply Aa.I4;rfl;rfl;rfl;(first|rfl|omega|(simp only [List.length_take,List.length_drop,List.length_append,List.length_singleton,List.length_cons,List.length_nil]<;>omega));rfl;rfl;(intro _ h;cases h);rfl;rfl;rfl;decide;decide;(first|omega|(simp only [List.length_take,List.length_drop,List.length_append,List.length_singleton,List.length_cons,List.length_nil]<;>omega)))|(apply Ae.Af;rfl)|(apply Ae.Q7;rfl)|(intro _;try (exfalso;omega)))
   all_goals try (exfalso;omega)
   ·refine Az.normal ⟨by first|omega|decide,?_,?_⟩
    ·try (rw [← hst])
     repeat (first|exact Ad.nil|refine Ad.same trivial rfl ?_|refine Ad.same (Ac rfl) rfl ?_|refine Ad.same ⟨trivial,Ac rfl,trivial⟩ rfl ?_|refine Ad.same ⟨trivial,Ac rfl,Ac rfl,trivial⟩ rfl ?_|refine Ad.same ⟨trivial,Ac rfl,Ac rfl,Ac rfl,trivial⟩ rfl ?_|refine Ad.same ⟨trivial,Ac rfl,Ac rfl,Ac rfl,Ac rfl,trivial⟩ rfl ?_|refine Ad.same ⟨trivial,trivial⟩ rfl ?_|refine Ad.cons trivial rfl (.of_eq (Aw (by simp<;>omega))) ?_)
    ·rw [← hst]
     repeat (first|exact Aj.nil|(refine Aj.cons (Ac rfl) ?_ rfl ?_ ?_;(first|exact HB.Ap rfl|exact AU.Ah _ _|(simp [HB.under,AU.under,PV.under]));(first|exact Bo.refl _|exact Bo.vec (Bh.refl _) (by simp))))
   ·refine Az.normal ⟨by first|omega|decide,?_,?_⟩
    ·try (rw [← hst])
     repeat (first|exact Ad.nil|refine Ad.same trivial rfl ?_|refine Ad.same (Ac rfl) rfl ?_|refine Ad.same ⟨trivial,Ac rfl,trivial⟩ rfl ?_|refine Ad.same ⟨trivial,Ac rfl,Ac rfl,trivial⟩ rfl ?_|refine Ad.same ⟨trivial,Ac rfl,Ac rfl,Ac rfl,trivial⟩ rfl ?_|refine Ad.same ⟨trivial,Ac rfl,Ac rfl,Ac rfl,Ac rfl,trivial⟩ rfl ?_|refine Ad.same ⟨trivial,trivial⟩ rfl ?_|refine Ad.cons trivial rfl (.of_eq (Aw (by simp<;>omega))) ?_)
    ·rw [← hst]
     repeat (first|exact Aj.nil|(refine Aj.cons (Ac rfl) ?_ rfl ?_ ?_;(first|exact HB.Ap rfl|exact AU.Ah _ _|(simp [HB.under,AU.under,PV.under]));(first|exact Bo.refl _|exact Bo.vec (Bh.refl _) (by simp))))
 ·rw [nT]
  have lC:(Gw (Dy l skip l.length) l.length (m+(l.length+1))).cols.length=l.length:=hs.len
  have lV:(GX (Dy l skip l.length) l.length (m+(l.length+1))).length=m+(l.length+1):=hs.lV
  repeat' (first|(refine Ag.J4 47 ?_;refine Ag.ghost (Bc.freeze 46 rfl rfl) ?_)|apply Ae.assoc|apply Ae.AA|apply Ae.Ba|apply Ae.Ai|apply AO.normal|apply AL.exit|apply Az.exit|apply Ag.nil|apply Ag.one|(apply Aa.kT [] (hsv);rfl;rfl;exact .of_eq rfl;exact AU.Ap rfl;exact Gf rfl;(repeat (first|exact trivial|refine ⟨⟨_,rfl,.of_eq rfl⟩,?_⟩));decide;(intro _ hb;first|(simp at hb;done)|(simp at hb ⊢<;>omega));(rintro _ _ _ ⟨rfl,rfl,rfl⟩))|(apply Aa.sliceTo (l:=GX (Dy l skip l.length) l.length (m+(l.length+1))) (b:=m);rfl;rfl;rfl;rfl;rfl;exact lV;omega)|(apply Aa.move;rfl)|(apply Aa.int;rfl;rfl;rfl)|(apply Aa.load;rfl;rfl)|(apply Aa.BX;rfl;rfl)|(apply Aa.lenV;rfl;rfl;rfl)|(apply Aa.AQ;rfl;rfl;rfl)|(apply Aa.alloc;rfl)|(apply Aa.Bl;rfl;rfl;rfl;trivial;rfl;rfl;exact Ac rfl;exact le_dec rfl)|(apply Ae.Af;rfl)|(intro _;try (exfalso;omega)))
  all_goals try (exfalso;omega)
  all_goals try contradiction
  have eM:Zu l m skip=⟨(Gw (Dy l skip l.length) l.length (m+(l.length+1))).cols.map (KD m),(Gw (Dy l skip l.length) l.length (m+(l.length+1))).total,JE (Dy l skip l.length) l.length (m+(l.length+1)),(GX (Dy l skip l.length) l.length (m+(l.length+1))).take m⟩:=rfl
  have Xu:=hs.col
  rw [eM]
  generalize (Gw (Dy l skip l.length) l.length (m+(l.length+1))).cols=cols at *
  apply Ae.Hq (l.length) [(4,_),(7,_),(11,_),(57,_),(58,_)] [(8,_),(0,_)] (fun k r=>(59,.p (.int .i64 (k:Int)))::r) (fun k r=>(7,.vec 3 (cells (UC m cols k)) l.length false)::r) 9
  ·first|omega|decide
  ·first|omega|decide
  ·repeat (first|exact Ad.nil|(refine Ad.eq rfl ?_ ?_;(first|exact PV.Ap rfl|(simp [PV.under,AU.under];done)))|refine Ad.cons trivial rfl (.of_eq (Aw (by simp<;>omega))) ?_)
  ·repeat (first|exact Aj.nil|(refine Aj.eq rfl (Ac rfl) ?_ ?_;(first|exact HB.Ap rfl|exact AU.Ah _ _|(simp [HB.under,AU.under,PV.under];done)))|(refine Aj.cons (Ac rfl) ?_ rfl ?_ ?_;(first|exact trivial|exact AU.Ah _ _|(simp [HB.under,AU.under,PV.under]));(first|exact Bo.refl _|exact Bo.vec (Bh.refl _) (by simp))))
  ·intro k hk
   have c1:=WS m cols k
   have c2:=kK m cols (j:=k) (by omega)
   have c3:=dN m cols (j:=k) (by omega)
   have c4:=Xu k hk
   by_cases hc:(m:Int)≤gi cols k
   ·have c5:KD m (gi cols k)=-1:=if_pos hc
    rw [c5] at c3
    repeat' (first|apply Ae.AA|apply Ae.region|apply Ae.Aq|apply Ae.Ai|apply AO.normal|apply AL.normal|apply Ag.nil|apply Ag.one|(apply Aa.Dq;rfl;rfl;(first|omega|(simp only [List.length_set]<;>omega));exact congrArg (fun b=>some (FV.int .i64 b)) (c2))|(apply Aa.Ef (y:=(-1:Int));rfl;rfl;rfl;trivial;(first|rfl|(refine congrArg (fun t=>[PV.p (FV.int _ t)]) ?_;first|omega|(simp only [Int.natCast_add,Int.natCast_mul,Int.natCast_ediv,Int.natCast_emod]<;>omega)));rfl;rfl;decide;(first|omega|(simp only [List.length_set]<;>omega)))|(apply Aa.assign;rfl)|(apply Aa.move;rfl)|(apply Aa.Bv;rfl;rfl;omega)|(apply Aa.int;rfl;rfl;rfl)|(apply Aa.load;rfl;rfl)|(apply Aa.AQ;rfl;rfl;rfl)|(apply Aa.Dh;rfl;rfl;rfl;rfl;omega)|(apply Ae.Af;rfl)|(apply Ae.Bd;rfl)|(intro _;try (exfalso;omega)))
    all_goals try (exfalso;omega)
    refine Az.normal ⟨by first|omega|decide,?_,?_⟩
    ·try (rw [← c3])
     repeat (first|exact Ad.nil|refine Ad.same trivial rfl ?_|refine Ad.same (Ac rfl) rfl ?_|refine Ad.same ⟨trivial,Ac rfl,trivial⟩ rfl ?_|refine Ad.same ⟨trivial,Ac rfl,Ac rfl,trivial⟩ rfl ?_|refine Ad.same ⟨trivial,Ac rfl,Ac rfl,Ac rfl,trivial⟩ rfl ?_|refine Ad.same ⟨trivial,Ac rfl,Ac rfl,Ac rfl,Ac rfl,trivial⟩ rfl ?_|refine Ad.same ⟨trivial,trivial⟩ rfl ?_|refine Ad.cons trivial rfl (.of_eq (Aw (by simp<;>omega))) ?_)
    ·rw [← c3]
     repeat (first|exact Aj.nil|(refine Aj.cons (Ac rfl) ?_ rfl ?_ ?_;(first|exact HB.Ap rfl|exact AU.Ah _ _|(simp [HB.under,AU.under,PV.under]));(first|exact Bo.refl _|exact Bo.vec (Bh.refl _) (by simp))))
   ·have c5:KD m (gi cols k)=gi cols k:=if_neg hc
    have c6:=oh m cols (j:=k) (by omega) c5
    repeat' (first|apply Ae.AA|apply Ae.region|apply Ae.Aq|apply Ae.Ai|apply AO.normal|apply AL.normal|apply Ae.skip|apply Ag.nil|apply Ag.one|(apply Aa.Dq;rfl;rfl;(first|omega|(simp only [List.length_set]<;>omega));exact congrArg (fun b=>some (FV.int .i64 b)) (c2))|(apply Aa.assign;rfl)|(apply Aa.move;rfl)|(apply Aa.Bv;rfl;rfl;omega)|(apply Aa.int;rfl;rfl;rfl)|(apply Aa.Dh;rfl;rfl;rfl;rfl;omega)|(apply Ae.Af;rfl)|(apply Ae.Bd;rfl)|(intro _;try (exfalso;omega)))
    all_goals try (exfalso;omega)
    refine Az.normal ⟨by first|omega|decide,?_,?_⟩
    ·try (rw [c6])
     repeat (first|exact Ad.nil|refine Ad.same trivial rfl ?_|refine Ad.same (Ac rfl) rfl ?_|refine Ad.same ⟨trivial,Ac rfl,trivial⟩ rfl ?_|refine Ad.same ⟨trivial,Ac rfl,Ac rfl,trivial⟩ rfl ?_|refine Ad.same ⟨trivial,Ac rfl,Ac rfl,Ac rfl,trivial⟩ rfl ?_|refine Ad.same ⟨trivial,Ac rfl,Ac rfl,Ac rfl,Ac rfl,trivial⟩ rfl ?_|refine Ad.same ⟨trivial,trivial⟩ rfl ?_|refine Ad.cons trivial rfl (.of_eq (Aw (by simp<;>omega))) ?_)
    ·rw [c6]
     repeat (first|exact Aj.nil|(refine Aj.cons (Ac rfl) ?_ rfl ?_ ?_;(first|exact HB.Ap rfl|exact AU.Ah _ _|(simp [HB.under,AU.under,PV.under]));(first|exact Bo.refl _|exact Bo.vec (Bh.refl _) (by simp))))
  ·have c7:=rG m cols
   rw [lC] at c7
   rw [c7]
   have f1:(cols.map (KD m)).length=l.length:=by rw [List.length_map];exact lC
   have f2:=hs.lU
   have f3:((GX (Dy l skip l.length) l.length (m+(l.length+1))).take m).length=m:=by rw [List.length_take,lV];omega
   generalize cols.map (KD m)=C at *
   generalize (GX (Dy l skip l.length) l.length (m+(l.length+1))).take m=V at *
   have hfin:∀ (t:Int) (U:List Int),U.length=l.length→PV.ET [.p (.agg [.lst 3 (cells C) l.length,.int .i64 t,.lst 3 (cells U) l.length,.lst 3 (cells V) m]),.p (.int .i64 0)]=PV.ET [.p (.agg (Enc.enc (⟨C,t,U,V⟩:QI))),.p (.int .i64 0)]:=fun t U f2=>by
    show _=PV.ET [.p (.agg [.lst 3 (cells C) C.length,.int .i64 t,.lst 3 (cells U) U.length,.lst 3 (cells V) V.length]),.p (.int .i64 0)]
    rw [f1,f2,f3]
   repeat' (first|(refine Ae.at 20 ?_;refine Ae.ghost (Bc.CZ 8 0 rfl rfl rfl) ?_;first|apply Ae.AA|apply Ae.BM)|apply Ae.AA|apply Ae.Ba|apply AO.normal|apply AL.exit|apply Az.exit|apply Ae.ret|apply Ag.nil|apply Ag.one|(apply Aa.assign;rfl)|(apply Aa.int;rfl;rfl;rfl)|(apply Aa.load;rfl;rfl)|(apply Aa.Bl;rfl;rfl;rfl;trivial;rfl;rfl;exact Ac rfl;exact le_dec rfl)|(apply Ae.Af;rfl)|(intro _;try (exfalso;omega)))
   all_goals try (exfalso;omega)
   all_goals (refine Done.ret rfl (.refl _) (by first|exact trivial|exact ⟨trivial,trivial,trivial⟩|exact ⟨trivial,trivial,trivial,trivial⟩) Aj.nil (Nat.zero_le _) (Nat.le_refl _) ⟨?_,rfl,rfl⟩;exact hfin _ _ f2)
theorem bC (e:TypeId):AV env 72 [.lst e [] 0] (.p (.agg (Enc.enc (⟨[],0,[],[]⟩:QI)))):=by
 have Xu:AV env 69 [.lst e [] 0] (.p (.int .i64 0)):=Lm e [] (by decide)
 refine AV.enter (AB (by decide)) Tryz.func72 rfl (by kernel_rfl) (by simp [Tryz.ntmps72]) ?_
 repeat' (first|apply Ae.assoc|apply Ae.AA|apply Ae.BM|apply Ae.Ai|apply Ag.nil|apply Ar.nil|apply Ag.one|(apply Ar.bar;decide +kernel)|apply Ar.quiet|(apply Aa.fn;rfl;rfl;exact Xu;intro _;rfl)|(apply Aa.Eo 1 (0:Int);rfl;rfl;rfl;rfl;rfl;rfl;rfl;decide;decide;decide;rfl)|(apply Aa.assign;rfl)|(apply Aa.move;rfl)|(apply Aa.Bv;rfl;rfl;omega)|(apply Aa.BX;rfl;rfl)|(apply Aa.alloc;rfl))
 all_goals try (exfalso;omega)
 apply Ae.Hq (0) [(2,_),(3,_),(4,_),(5,_),(6,_),(7,_)] [(0,_),(1,_),(2,_),(3,_)] (fun k r=>(9,.p (.int .i64 ((k+1:Nat):Int)))::r) (fun k r=>r) 5
 ·first|omega|decide
 ·first|omega|decide
 ·repeat (first|exact Ad.nil|(refine Ad.eq rfl ?_ ?_;(first|exact PV.Ap rfl|(simp [PV.under,AU.under];done)))|refine Ad.cons trivial rfl (.of_eq (Aw (by simp<;>omega))) ?_)
 ·repeat (first|exact Aj.nil|(refine Aj.eq rfl (Ac rfl) ?_ ?_;(first|exact HB.Ap rfl|exact AU.Ah _ _|(simp [HB.under,AU.under,PV.under];done)))|(refine Aj.cons (Ac rfl) ?_ rfl ?_ ?_;(first|exact trivial|exact AU.Ah _ _|(simp [HB.under,AU.under,PV.under]));(first|exact Bo.refl _|exact Bo.vec (Bh.refl _) (by simp))))
 ·intro k hk;omega
 ·repeat' (first|(refine Ae.at 34 ?_;refine Ae.ghost (Bc.freeze 5 rfl rfl) ?_;first|apply Ae.AA|apply Ae.BM)|(refine Ar.atIdx 4 ?_;refine Ar.ghost (Bc.freeze 6 rfl rfl) ?_)|apply Ae.assoc|apply Ae.AA|apply Ae.Ba|apply Ae.Ai|apply AO.normal|apply AL.exit|apply Az.exit|apply Ag.nil|apply Ar.nil|apply Ag.one|(apply Ar.bar;decide +kernel)|apply Ar.quiet|(apply Aa.Eo 0 (0:Int);rfl;rfl;rfl;rfl;rfl;rfl;rfl;decide;decide;decide;rfl)|(apply Aa.sliceFrom (l:=[(0:Int)]) (a:=1);rfl;rfl;rfl;rfl;rfl;rfl;decide)|(apply Aa.assign;rfl)|(apply Aa.move;rfl)|(apply Aa.int;rfl;rfl;rfl)|(apply Aa.alloc;rfl)|(apply Aa.Bl;rfl;rfl;rfl;trivial;rfl;rfl;exact Ac rfl;exact le_dec rfl)|(apply Aa.build;rfl;rfl;rfl;rfl;rfl)|(apply Ae.Au;rfl))
  all_goals try (exfalso;omega)
  apply Ae.Hq (0) [(2,_),(3,_),(4,_),(7,_),(19,_)] [(0,_),(3,_),(5,_),(6,_)] (fun k r=>(20,.p (.int .i64 ((k+1:Nat):Int)))::r) (fun k r=>r) 7
  ·first|omega|decide
  ·first|omega|decide
  ·repeat (first|exact Ad.nil|(refine Ad.eq rfl ?_ ?_;(first|exact PV.Ap rfl|(simp [PV.under,AU.under];done)))|refine Ad.cons trivial rfl (.of_eq (Aw (by simp<;>omega))) ?_)
  ·repeat (first|exact Aj.nil|(refine Aj.eq rfl (Ac rfl) ?_ ?_;(first|exact HB.Ap rfl|exact AU.Ah _ _|(simp [HB.under,AU.under,PV.under];done)))|(refine Aj.cons (Ac rfl) ?_ rfl ?_ ?_;(first|exact trivial|exact AU.Ah _ _|(simp [HB.under,AU.under,PV.under]));(first|exact Bo.refl _|exact Bo.vec (Bh.refl _) (by simp))))
  ·intro k hk;omega
  ·repeat' (first|(refine Ae.at 42 ?_;refine Ae.ghost (Bc.CZ 6 0 rfl rfl rfl) ?_;first|apply Ae.AA|apply Ae.BM)|apply Ae.assoc|apply Ae.AA|apply Ae.Ba|apply AO.normal|apply AL.exit|apply Az.exit|apply Ae.ret|apply Ag.nil|apply Ag.one|(apply Aa.move;rfl)|(apply Aa.int;rfl;rfl;rfl)|(apply Aa.load;rfl;rfl)|(apply Aa.Bl;rfl;rfl;rfl;trivial;rfl;rfl;exact Ac rfl;exact le_dec rfl)|(apply Ae.Au;rfl))
   all_goals first|(exfalso;omega)|(refine Done.ret rfl (.refl _) (by first|exact trivial|exact ⟨trivial,trivial,trivial⟩|exact ⟨trivial,trivial,trivial,trivial⟩) Aj.nil (Nat.zero_le _) (Nat.le_refl _) ⟨?_,rfl,rfl⟩;try rfl)
theorem XA {skip:Int} (e:TypeId) (hk:0≤skip∧skip≤1000000000):AV env 45 [.lst e (cells ([]:List (List Int))) 0,.int .i64 skip] (.ET [.p (.agg (Enc.enc (⟨[],0,[],[]⟩:QI))),.p (.int .i64 0)]):=by
 have hM:Qy [] 0 0 skip 1000000000:=⟨⟨rfl,fun r hr=>by omega,fun r k hr=>by omega,hk,by decide⟩,by omega,by omega,by decide,fun _=>rfl⟩
 have hck:=MB e hM
 have hcl:=Oc e hM
 have hs:=bC 52
 refine AV.enter (AB (by decide)) Tryz.func45 rfl (by kernel_rfl) (by simp [Tryz.ntmps45]) ?_
 repeat' (first|apply Ae.assoc|apply Ae.AA|apply Ae.Aq|apply Ae.Ai|apply Ag.nil|apply Ag.one|(apply Aa.fn;rfl;rfl;exact hck;intro _;rfl)|(apply Aa.fn;rfl;rfl;exact hcl;intro _;rfl)|(apply Aa.makeSlice (n:=0);rfl;rfl;rfl;rfl;rfl;decide;decide)|(apply Aa.assign;rfl)|(apply Aa.move;rfl)|(apply Aa.int;rfl;rfl;rfl)|(apply Aa.BX;rfl;rfl)|(apply Aa.alloc;rfl)|(apply Ae.Au;rfl))
 all_goals try (exfalso;omega)
 all_goals try contradiction
 apply Ae.Hq (0) [(0,_),(1,_),(4,_),(7,_),(8,_),(26,_),(27,_)] [(0,_),(1,_)] (fun k r=>(28,.p (.int .i64 (k:Int)))::r) (fun k r=>r) 2
 ·first|omega|decide
 ·first|omega|decide
 ·repeat (first|exact Ad.nil|(refine Ad.eq rfl ?_ ?_;(first|exact PV.Ap rfl|(simp [PV.under,AU.under];done)))|refine Ad.cons trivial rfl (.of_eq (Aw (by simp<;>omega))) ?_)
 ·repeat (first|exact Aj.nil|(refine Aj.eq rfl (Ac rfl) ?_ ?_;(first|exact HB.Ap rfl|exact AU.Ah _ _|(simp [HB.under,AU.under,PV.under];done)))|(refine Aj.cons (Ac rfl) ?_ rfl ?_ ?_;(first|exact trivial|exact AU.Ah _ _|(simp [HB.under,AU.under,PV.under]));(first|exact Bo.refl _|exact Bo.vec (Bh.refl _) (by simp))))
 ·intro k hk;omega
 ·repeat' (first|(refine Ag.J4 47 ?_;refine Ag.ghost (Bc.freeze 46 rfl rfl) ?_)|apply Ae.assoc|apply Ae.AA|apply Ae.Aq|apply Ae.Ba|apply Ae.Ai|apply AO.normal|apply AL.exit|apply Az.exit|apply Ag.nil|apply Ag.one|(apply Aa.fn;rfl;rfl;exact hs;intro _;rfl)|(apply Aa.move;rfl)|(apply Aa.int;rfl;rfl;rfl)|(apply Aa.load;rfl;rfl)|(apply Aa.BX;rfl;rfl)|(apply Aa.AQ;rfl;rfl;rfl)|(apply Aa.alloc;rfl)|(apply Aa.Bl;rfl;rfl;rfl;trivial;rfl;rfl;exact Ac rfl;exact le_dec rfl)|(apply Ae.Au;rfl))
  all_goals try (exfalso;omega)
  all_goals try contradiction
  apply Ae.Hq (0) [(4,_),(7,_),(11,_),(57,_),(58,_)] [(0,_),(2,_)] (fun k r=>(59,.p (.int .i64 (k:Int)))::r) (fun k r=>r) 3
  ·first|omega|decide
  ·first|omega|decide
  ·repeat (first|exact Ad.nil|(refine Ad.eq rfl ?_ ?_;(first|exact PV.Ap rfl|(simp [PV.under,AU.under];done)))|refine Ad.cons trivial rfl (.of_eq (Aw (by simp<;>omega))) ?_)
  ·repeat (first|exact Aj.nil|(refine Aj.eq rfl (Ac rfl) ?_ ?_;(first|exact HB.Ap rfl|exact AU.Ah _ _|(simp [HB.under,AU.under,PV.under];done)))|(refine Aj.cons (Ac rfl) ?_ rfl ?_ ?_;(first|exact trivial|exact AU.Ah _ _|(simp [HB.under,AU.under,PV.under]));(first|exact Bo.refl _|exact Bo.vec (Bh.refl _) (by simp))))
  ·intro k hk;omega
  ·repeat' (first|apply Ae.AA|apply Ae.Ba|apply AO.normal|apply AL.exit|apply Az.exit|apply Ae.ret|apply Ag.nil|apply Ag.one|(apply Aa.assign;rfl)|(apply Aa.int;rfl;rfl;rfl)|(apply Aa.load;rfl;rfl)|(apply Aa.Bl;rfl;rfl;rfl;trivial;rfl;rfl;exact Ac rfl;exact le_dec rfl)|(apply Ae.Au;rfl))
   all_goals first|(exfalso;omega)|(refine Done.ret rfl (.refl _) (by first|exact trivial|exact ⟨trivial,trivial,trivial⟩|exact ⟨trivial,trivial,trivial,trivial⟩) Aj.nil (Nat.zero_le _) (Nat.le_refl _) ⟨?_,rfl,rfl⟩;try rfl)
end Go.Proofs.YtdabojnmoejilaaGreatDoor
namespace Go.Hun
open Go Go.Am Go.Vm
def rY (row:List Int) (g:Nat→Int) (t:Nat) (b:Int):Nat→Int
 |0=>b
 |k+1=>if t.testBit k then rY row g t b k else min (rY row g t b k) (gi row k+g (t ||| 2 ^ k))
def YZ (l:List (List Int)) (skip:Int) (m n:Nat):Nat→Nat→Int
 |0,_=>0
 |r+1,t=>rY (gi l (n-(r+1))) (YZ l skip m n r) t (skip+YZ l skip m n r t) m
def Ug (f:Nat→Int) (n:Nat):Nat→Int
 |0=>0
 |r+1=>f (n-(r+1))+Ug f n r
theorem TT (f:Nat→Int) (n:Nat):∀ r,r≤n→Dv f (n-r)+Ug f n r=Dv f n
 |0,_=>by simp [Ug]
 |r+1,h=>by
  have ih:=TT f n r (by omega)
  have e:n-r=(n-(r+1))+1:=by omega
  rw [e] at ih
  simp only [Dv] at ih
  simp only [Ug]
  omega
theorem oV (f:Nat→Int) (n:Nat):Ug f n n=Dv f n:=by
 have:=TT f n n (Nat.le_refl _)
 rw [Nat.sub_self] at this
 simp only [Dv] at this
 omega
structure a8s (n m r t:Nat) (cols:Nat→Int):Prop where
 rng:∀ q,n-r≤q→q<n→-1≤cols q∧cols q<m
 inj:∀ p q,n-r≤p→p<n→n-r≤q→q<n→0≤cols p→cols p=cols q→p=q
 free:∀ q,n-r≤q→q<n→0≤cols q→t.testBit (cols q).toNat=false
end Go.Hun
namespace Go.Proofs.YtdabojnmoejilaaGreatDoor
open Go Go.Am Go.Vm Go.Hun
attribute [local irreducible] Aa Ag Ar Ae Bz AV CS AO AL Az Vm.Done Df Bj Y0
theorem lY {L:Vm.Frame} {H:Vm.Heap} {nx:Nat} {Q:PV→Vm.Heap→Nat→Prop} {dst:Option Tmp} {ty:TypeId} {pos:String} {af:Array Edge} {gd:Option (Nat×Bool)} {fo:Operand} {args:Array Operand} {aT:Array TypeId} {fs cs xs:List PV} {c:Code}
 (hf:Bq env.Γ L fo=some (.clo 103 fs cs)) (ha:evs env.Γ L args.toList=some xs) (hb:Tryz.f103.body=some c) (hn:(fs++xs++cs).length≤Tryz.f103.ntmps)
 (h:Ae env nx c (CO 0 (fs++xs++cs)) H nx (Bj env.P Tryz.f103.results.toList Q)):Aa env true ⟨dst,.call { callee:=.value fo,args:=args,argTypes:=aT },ty,pos,af,gd⟩ L H nx Q:=by
 have h0:(match Tryz.f103.body with|some c=>Ht env.G Tryz.f103 c|none=>false)=true:=by kernel_rfl
 rw [hb] at h0
 exact Aa.inline rfl hf ha (AB (by decide)) Tryz.func103 hb h0 hn h
theorem kM {L:Vm.Frame} {H:Vm.Heap} {nx:Nat} {Q:PV→Vm.Heap→Nat→Prop} {dst:Option Tmp} {ty:TypeId} {pos:String} {af:Array Edge} {gd:Option (Nat×Bool)} {fo:Operand} {args:Array Operand} {aT:Array TypeId} {fs cs xs:List PV} {c:Code}
 (hf:Bq env.Γ L fo=some (.clo 76 fs cs)) (ha:evs env.Γ L args.toList=some xs) (hb:Tryz.f76.body=some c) (hn:(fs++xs++cs).length≤Tryz.f76.ntmps)
 (h:Ae env nx c (CO 0 (fs++xs++cs)) H nx (Bj env.P Tryz.f76.results.toList Q)):Aa env true ⟨dst,.call { callee:=.value fo,args:=args,argTypes:=aT },ty,pos,af,gd⟩ L H nx Q:=by
 have h0:(match Tryz.f76.body with|some c=>Ht env.G Tryz.f76 c|none=>false)=true:=by kernel_rfl
 rw [hb] at h0
 exact Aa.inline rfl hf ha (AB (by decide)) Tryz.func76 hb h0 hn h
def Xr (l:List (List Int)) (m:Nat) (skip:Int) (cols:List Int):Nat→Nat→List Bool→Int→Int×Int
 |0,_,_,sum=>(sum,0)
 |r+1,k,used,sum =>
  if gi cols k< -1∨gi cols k≥m then (0,3)
  else if gi cols k<0 then Xr l m skip cols r (k+1) used (sum+skip)
  else if gi used (gi cols k).toNat=true then (0,9)
  else Xr l m skip cols r (k+1) (used.set (gi cols k).toNat true) (sum+gi (gi l k) (gi cols k).toNat)
def Zn (l:List (List Int)) (m:Nat) (skip:Int) (cols:List Int):Int×Int:=if cols.length≠l.length then (0,5) else Xr l m skip cols l.length 0 (List.replicate m false) 0
theorem je {l:List (List Int)} {m:Nat} {skip B:Int} (e:TypeId) (h:Qy l l.length m skip B) (cols:List Int) :
 AV env 47 [.lst e (cells l) l.length,.lst 3 (cells cols) cols.length,.int .i64 (-1),.int .i64 skip] (.ET [.p (.int .i64 (Zn l m skip cols).1),.p (.int .i64 (Zn l m skip cols).2)]):=by
 have hcl:=Oc e h
 have h2:=h.n60
 have h3:=h.zq
 have h4:=h.B9
 have hrow:=h.UG.row
 have qR:=h.UG.rng
 have hsk:=h.UG.skip
 unfold Zn
 refine AV.enter (AB (by decide)) Tryz.func47 rfl (by kernel_rfl) (by simp [Tryz.ntmps47]) ?_
 by_cases hlen:cols.length=l.length
 case neg =>
  rw [if_pos hlen]
  repeat' (first|apply Ae.assoc|apply Ae.AA|apply Ae.BO|apply Ag.nil|apply Ag.one|(apply Aa.assign;rfl)|(apply Aa.move;rfl)|(apply Aa.int;rfl;rfl;rfl)|(apply Aa.BX;rfl;rfl)|(apply Ae.Af;rfl)|(intro _;try (exfalso;omega)))
  all_goals first|(exfalso;omega)|contradiction|(refine Done.ret rfl (.refl _) (by first|exact trivial|exact ⟨trivial,trivial,trivial⟩|exact ⟨trivial,trivial,trivial,trivial⟩) Aj.nil (Nat.zero_le _) (Nat.le_refl _) ⟨?_,rfl,rfl⟩;try rfl)
 rw [if_neg (fun x=>x hlen)]
 repeat' (first|apply Ae.assoc|apply Ae.AA|apply Ae.Aq|apply Ae.Ai|apply Ag.nil|apply Ag.one|(apply Aa.fn;rfl;rfl;exact hcl;intro _;rfl)|(apply Aa.Eo m false;rfl;rfl;rfl;rfl;rfl;rfl;rfl;omega;decide;decide;rfl)|(apply Aa.assign;rfl)|(apply Aa.move;rfl)|(apply Aa.int;rfl;rfl;rfl)|(apply Aa.BX;rfl;rfl)|(apply Ae.Af;rfl)|(intro _;try (exfalso;omega)))
 all_goals try (exfalso;omega)
 obtain ⟨R,hR⟩:∃ R,R=Xr l m skip cols l.length 0 (List.replicate m false) 0:=⟨_,rfl⟩
 rw [← hR]
 refine Ae.D6 (fun s:Nat×List Bool×Int=>[(0,.p (.lst e (cells l) l.length)),(2,.p (.int .i64 (-1))),(3,.p (.int .i64 skip)),(10,.p (.int .i64 s.2.2)),(11,.vec 0 m 0 m),(22,.p (.lst 3 (cells cols) cols.length)),(23,.p (.int .i64 (cols.length:Int))),(24,.p (.int .i64 (s.1:Int)))]) (fun s=>[(0,.vec 4 (cells s.2.1) m false)]) 1
  (fun s=>s.1≤l.length∧s.2.1.length=m∧0≤s.2.2∧s.2.2≤s.1*B∧Xr l m skip cols (l.length-s.1) s.1 s.2.1 s.2.2=R) (fun s=>l.length-s.1) (0,List.replicate m false,0) (by omega) ⟨Nat.zero_le _,by simp,by simp,by simp,hR.symm⟩ ⟨by omega,?_,?_⟩ ?_
 ·repeat (first|exact Ad.nil|refine Ad.same trivial rfl ?_|refine Ad.same (Ac rfl) rfl ?_|refine Ad.same ⟨trivial,Ac rfl,Ac rfl,Ac rfl,trivial⟩ rfl ?_|refine Ad.same ⟨trivial,Ac rfl,Ac rfl,trivial⟩ rfl ?_|refine Ad.same ⟨trivial,trivial⟩ rfl ?_|refine Ad.cons trivial rfl (.of_eq (Aw (by simp<;>omega))) ?_)
 ·repeat (first|exact Aj.nil|(refine Aj.cons (Ac rfl) ?_ rfl ?_ ?_;(first|exact HB.Ap rfl|exact AU.Ah _ _|(simp [HB.under,AU.under,PV.under]));(first|exact Bo.refl _|exact Bo.vec (Bh.refl _) (by simp))))
 rintro ⟨k,used,sum⟩ ⟨i1,i2,i3,i4,i5⟩
 simp only at i1 i2 i3 i4 i5 ⊢
 have hkB:(k:Int)*B≤60*1000000000:=Int.mul_le_mul (by omega) h4 (by omega) (by omega)
 by_cases hk:k<l.length
 ·obtain ⟨r,hr⟩:∃ r,l.length-k=r+1:=⟨l.length-k-1,by omega⟩
  rw [hr] at i5
  have hr':l.length-(k+1)=r:=by omega
  have b1q:((k+1:Nat):Int)*B=(k:Int)*B+B:=by rw [Int.natCast_add,Int.add_mul];simp
  unfold Xr at i5
  by_cases c1:gi cols k< -1∨gi cols k≥m
  ·rw [if_pos c1] at i5
   rw [← i5]
   repeat' (first|apply Ae.AA|apply Ae.Aq|apply Ae.Ai|apply AO.ret|apply AL.ret|apply Az.ret|apply Ae.ret|apply Ag.nil|apply Ag.one|(apply Ag.take;rfl;rfl)|(apply Ag.drop;rfl;rfl;rfl)|(apply Ag.guard;rfl;rfl)|(apply Aa.assign;rfl)|(apply Aa.move;rfl)|(apply Aa.int;rfl;rfl;rfl)|(apply Aa.A8;rfl;rfl;rfl;omega;rfl)|(apply Aa.load;rfl;rfl)|(apply Aa.BA;rfl;rfl)|(apply Aa.AP;rfl;rfl)|(apply Aa.lenV;rfl;rfl;rfl)|(apply Ae.Af;rfl)|(apply Ae.cond_true;rfl)|(apply Ae.Bd;rfl)|(intro _;try (exfalso;omega)))
   all_goals first|(exfalso;omega)|contradiction|(refine Done.ret rfl (.refl _) (by first|exact trivial|exact ⟨trivial,trivial,trivial⟩|exact ⟨trivial,trivial,trivial,trivial⟩) Aj.nil (Nat.zero_le _) (Nat.le_refl _) ⟨?_,rfl,rfl⟩;try rfl)
  rw [if_neg c1] at i5
  by_cases c2:gi cols k<0
  ·rw [if_pos c2] at i5
   repeat' (first|apply Ae.AA|apply Ae.region|apply Ae.Aq|apply Ae.Ai|apply AO.normal|apply AO.exit|apply AL.exit|(apply AL.out;decide)|apply Ae.exit|apply Ag.nil|apply Ag.one|(apply Ag.take;rfl;rfl)|(apply Ag.guard;rfl;rfl)|(apply Aa.assign;rfl)|(apply Aa.move;rfl)|(apply Aa.Bv;rfl;rfl;omega)|(apply Aa.int;rfl;rfl;rfl)|(apply Aa.A8;rfl;rfl;rfl;omega;rfl)|(apply Aa.load;rfl;rfl)|(apply Aa.AP;rfl;rfl)|(apply Aa.lenV;rfl;rfl;rfl)|(apply Ae.Af;rfl)|(apply Ae.Bd;rfl)|(intro _;try (exfalso;omega)))
   all_goals try (exfalso;omega)
   refine Az.normal ⟨(k+1,used,sum+skip),⟨hk,i2,by simp only;omega,by simp only;omega,by simp only;rw [hr'];exact i5⟩,by simp only;omega,⟨by omega,?_,?_⟩⟩
   ·repeat (first|exact Ad.nil|refine Ad.same trivial rfl ?_|refine Ad.same (Ac rfl) rfl ?_|refine Ad.same ⟨trivial,Ac rfl,Ac rfl,Ac rfl,trivial⟩ rfl ?_|refine Ad.same ⟨trivial,Ac rfl,Ac rfl,trivial⟩ rfl ?_|refine Ad.same ⟨trivial,trivial⟩ rfl ?_|refine Ad.cons trivial rfl (.of_eq (Aw (by simp<;>omega))) ?_)
   ·repeat (first|exact Aj.nil|(refine Aj.cons (Ac rfl) ?_ rfl ?_ ?_;(first|exact HB.Ap rfl|exact AU.Ah _ _|(simp [HB.under,AU.under,PV.under]));(first|exact Bo.refl _|exact Bo.vec (Bh.refl _) (by simp))))
  rw [if_neg c2] at i5
  obtain ⟨j,hj⟩:∃ j:Nat,gi cols k=j:=⟨(gi cols k).toNat,by omega⟩
  rw [hj,Int.toNat_natCast] at i5
  have hjm:j<m:=by omega
  have hc:=qR k j hk hjm
  have hrl:=hrow k hk
  by_cases c3:gi used j=true
  ·rw [if_pos c3] at i5
   rw [← i5]
   repeat' (first|apply Ae.AA|apply Ae.Aq|apply Ae.Ai|apply AO.ret|apply AL.ret|apply Az.ret|apply Ae.ret|apply Ag.nil|apply Ag.one|(apply Ag.take;rfl;rfl)|(apply Aa.Dq;rfl;rfl;(first|omega|(simp only [MZ]<;>omega));exact congrArg (fun b=>some (FV.bool b)) (c3))|(apply Aa.load;rfl;exact congrArg (fun a=>some (PV.p (FV.int .i64 a))) hj)|(apply Aa.assign;rfl)|(apply Aa.move;rfl)|(apply Aa.int;rfl;rfl;rfl)|(apply Aa.A8;rfl;rfl;rfl;omega;rfl)|(apply Aa.AP;rfl;rfl)|(apply Aa.lenV;rfl;rfl;rfl)|(apply Aa.Dh;rfl;rfl;rfl;rfl;omega)|(apply Ae.Af;rfl)|(apply Ae.cond_true;rfl)|(apply Ae.cond_false;rfl)|(apply Ae.Bd;rfl)|(intro _;try (exfalso;omega)))
   all_goals first|(exfalso;omega)|contradiction|(refine Done.ret rfl (.refl _) (by first|exact trivial|exact ⟨trivial,trivial,trivial⟩|exact ⟨trivial,trivial,trivial,trivial⟩) Aj.nil (Nat.zero_le _) (Nat.le_refl _) ⟨?_,rfl,rfl⟩;try rfl)
  ·rw [if_neg c3] at i5
   have c3':gi used j=false:=by cases h:gi used j<;>simp_all
   repeat' (first|apply Ae.AA|apply Ae.region|apply Ae.Aq|apply Ae.Ai|apply AO.normal|apply AL.normal|apply Ae.skip|apply Ag.nil|apply Ag.one|(apply Ag.take;rfl;rfl)|(apply Aa.Dq;rfl;rfl;(first|omega|(simp only [MZ]<;>omega));exact congrArg (fun b=>some (FV.bool b)) (c3'))|(apply Aa.load;rfl;exact congrArg (fun a=>some (PV.p (FV.int .i64 a))) hj)|(apply Aa.Ef (y:=true);rfl;rfl;rfl;trivial;(first|rfl|(refine congrArg (fun t=>[PV.p (FV.int _ t)]) ?_;first|omega|(simp only [Int.natCast_add,Int.natCast_mul,Int.natCast_ediv,Int.natCast_emod]<;>omega)));rfl;rfl;decide;(first|omega|(simp only [List.length_set]<;>omega)))|(apply Aa.assign;rfl)|(apply Aa.move;rfl)|(apply Aa.Bv;rfl;rfl;omega)|(apply Aa.int;rfl;rfl;rfl)|(apply Aa.A8;rfl;rfl;rfl;omega;rfl)|(apply Aa.load;rfl;rfl)|(apply Aa.AP;rfl;rfl)|(apply Aa.lenV;rfl;rfl;rfl)|(apply Aa.Dh;rfl;rfl;rfl;rfl;omega)|(apply Ae.Af;rfl)|(apply Ae.cond_false;rfl)|(apply Ae.Bd;rfl)|(intro _;try (exfalso;omega)))
   all_goals try (exfalso;omega)
   refine Az.normal ⟨(k+1,used.set j true,sum+gi (gi l k) j),⟨hk,by simp only;rw [List.length_set];exact i2,by simp only;omega,by simp only;omega,by simp only;rw [hr'];exact i5⟩,by simp only;omega,⟨by omega,?_,?_⟩⟩
   ·repeat (first|exact Ad.nil|refine Ad.same trivial rfl ?_|refine Ad.same (Ac rfl) rfl ?_|refine Ad.same ⟨trivial,Ac rfl,Ac rfl,Ac rfl,trivial⟩ rfl ?_|refine Ad.same ⟨trivial,Ac rfl,Ac rfl,trivial⟩ rfl ?_|refine Ad.same ⟨trivial,trivial⟩ rfl ?_|refine Ad.cons trivial rfl (.of_eq (Aw (by simp<;>omega))) ?_)
   ·repeat (first|exact Aj.nil|(refine Aj.cons (Ac rfl) ?_ rfl ?_ ?_;(first|exact HB.Ap rfl|exact AU.Ah _ _|(simp [HB.under,AU.under,PV.under]));(first|exact Bo.refl _|exact Bo.vec (Bh.refl _) (by simp))))
 ·obtain rfl:k=l.length:=by omega
  rw [Nat.sub_self] at i5
  unfold Xr at i5
  rw [← i5]
  repeat' (first|apply Ae.AA|apply Ae.Ba|apply AO.normal|apply AL.exit|apply Az.exit|apply Ae.ret|apply Ag.nil|apply Ag.one|(apply Aa.assign;rfl)|(apply Aa.move;rfl)|(apply Aa.int;rfl;rfl;rfl)|(apply Ae.Af;rfl)|(intro _;try (exfalso;omega)))
  all_goals first|(exfalso;omega)|contradiction|(refine Done.ret rfl (.refl _) (by first|exact trivial|exact ⟨trivial,trivial,trivial⟩|exact ⟨trivial,trivial,trivial,trivial⟩) Aj.nil (Nat.zero_le _) (Nat.le_refl _) ⟨?_,rfl,rfl⟩;try rfl)
theorem Zi (a b:List Int) (h0:a.length+b.length=0):CS env 102 [.lst 52 [.lst 3 (cells a) a.length,.lst 3 (cells b) b.length] 2] 3 (cells (a++b)) (a.length+b.length) true:=by
 have hg:=oK
 have e0:(0:Int)=0+(a.length:Int)+(b.length:Int):=by omega
 rw [e0] at hg
 refine CS.enter (AB (by decide)) Tryz.func102 rfl (by kernel_rfl) (by simp [Tryz.ntmps102]) ?_
 repeat' (first|apply Ae.assoc|apply Ae.AA|apply Ae.Ai|apply Ag.nil|apply Ag.one|(apply Aa.assign;rfl)|(apply Aa.move;rfl)|(apply Aa.BX;rfl;rfl))
 refine Ae.kE 2 ?_
 repeat' (first|apply Ae.assoc|apply Ae.AA|apply Ae.region|apply Ae.Aq|apply Ae.Ba|apply Ae.Ai|apply AO.normal|apply AL.normal|apply AL.exit|apply Az.exit|apply Ae.skip|apply Ag.nil|apply Ag.one|(apply Aa.fn;rfl;rfl;exact hg;intro _;rfl)|(apply Y0.zero)|(apply Y0.succ)|(apply Az.again)|(apply Aa.SS;rfl;rfl;rfl;decide;decide)|(apply Aa.assign;rfl)|(apply Aa.move;rfl)|(apply Aa.Bv;rfl;rfl;omega)|(apply Aa.int;rfl;rfl;rfl)|(apply Aa.load;rfl;rfl)|(apply Aa.BX;rfl;rfl)|(apply Ae.Bf;rfl)|(apply Ae.Au;rfl)|(apply Ae.cond_false;rfl))
 refine Ae.ghost (Bc.adopt 6 3 rfl) ?_
 refine Ae.kE 2 ?_
 repeat' (first|apply Ae.AA|apply Ae.region|apply Ae.Aq|apply Ae.Ba|apply Ae.Ai|apply AO.normal|apply AL.normal|apply AL.exit|apply Az.exit|apply Ae.ret|apply Ag.nil|apply Ag.one|(apply Y0.zero)|(apply Y0.succ)|(apply Az.again)|(apply Aa.SS;rfl;rfl;rfl;decide;decide)|(apply Aa.P8 (l:=a) (r:=b);rfl;rfl;rfl;rfl;rfl;rfl;rfl;(intro _ h;cases h);rfl;rfl;rfl;decide;decide;omega)|(apply Aa.I4 (r:=a);rfl;rfl;rfl;rfl;rfl;rfl;(intro _ h;cases h);rfl;rfl;rfl;decide;decide;omega)|(apply Aa.assign;rfl)|(apply Aa.move;rfl)|(apply Aa.Bv;rfl;rfl;omega)|(apply Aa.int;rfl;rfl;rfl)|(apply Aa.load;rfl;rfl)|(apply Ae.Bf;rfl)|(apply Ae.Au;rfl))
 exact Df.ret rfl rfl rfl rfl
def sumT (l:List Int):Nat→Int
 |0=>0
 |k+1=>sumT l k+gi l k
def JI (x:Int):Prop:=-1000000000000≤x∧x≤1000000000000
theorem Wi {l:List Int}:∀ k,(∀ i,i<k→JI (gi l i))→-(k*1000000000000:Int)≤sumT l k∧sumT l k≤k*1000000000000
 |0,_=>by simp [sumT]
 |k+1,h=>by
  obtain ⟨a,b⟩:=Wi k fun i hi=>h i (by omega)
  obtain ⟨c,d⟩:=h k (by omega)
  simp only [sumT]
  omega
noncomputable def Iu (l:List (List Int)) (m:Nat) (rows BQ:List Int):Int×Int :=
 open Classical in
 if ¬ (rows.length=l.length∧BQ.length=m) then (0,5)
 else if ∃ i,i<(rows++BQ).length∧¬ JI (gi (rows++BQ) i) then (0,3)
 else if ∃ k,k<BQ.length∧gi BQ k>0 then (0,20)
 else if ∃ i k,i<l.length∧k<m∧gi rows i+gi BQ k>gi (gi l i) k then (0,20)
 else (sumT (rows++BQ) (rows++BQ).length,0)
section
variable {l:List (List Int)} {m:Nat} {rows BQ:List Int}
theorem a4r (h:¬ (rows.length=l.length∧BQ.length=m)):Iu l m rows BQ=(0,5):=by unfold Iu;rw [if_pos h]
theorem a6v (h:rows.length=l.length∧BQ.length=m) {i:Nat} (hi:i<(rows++BQ).length) (hb:¬ JI (gi (rows++BQ) i)):Iu l m rows BQ=(0,3):=by unfold Iu;rw [if_neg (fun x=>x h),if_pos ⟨i,hi,hb⟩]
theorem a2r (h:rows.length=l.length∧BQ.length=m) (hb:∀ i,i<(rows++BQ).length→JI (gi (rows++BQ) i)) {k:Nat} (hk:k<BQ.length) (hp:gi BQ k>0):Iu l m rows BQ=(0,20):=by
 unfold Iu;rw [if_neg (fun x=>x h),if_neg (fun ⟨i,h1,h2⟩=>h2 (hb i h1)),if_pos ⟨k,hk,hp⟩]
theorem a0s (h:rows.length=l.length∧BQ.length=m) (hb:∀ i,i<(rows++BQ).length→JI (gi (rows++BQ) i)) (hn:∀ k,k<BQ.length→gi BQ k≤0) {i k:Nat} (hi:i<l.length) (hk:k<m) (hp:gi rows i+gi BQ k>gi (gi l i) k):Iu l m rows BQ=(0,20):=by
 unfold Iu;rw [if_neg (fun x=>x h),if_neg (fun ⟨i,h1,h2⟩=>h2 (hb i h1)),if_neg (fun ⟨k,h1,h2⟩=>by have:=hn k h1;omega),if_pos ⟨i,k,hi,hk,hp⟩]
theorem zI (h:rows.length=l.length∧BQ.length=m) (hb:∀ i,i<(rows++BQ).length→JI (gi (rows++BQ) i)) (hn:∀ k,k<BQ.length→gi BQ k≤0) (hf:∀ i,i<l.length→∀ k,k<m→gi rows i+gi BQ k≤gi (gi l i) k):Iu l m rows BQ=(sumT (rows++BQ) (rows++BQ).length,0):=by
 unfold Iu;rw [if_neg (fun x=>x h),if_neg (fun ⟨i,h1,h2⟩=>h2 (hb i h1)),if_neg (fun ⟨k,h1,h2⟩=>by have:=hn k h1;omega),if_neg (fun ⟨i,k,h1,h2,h3⟩=>by have:=hf i h1 k h2;omega)]
end
theorem Qw {P:Nat→Prop} {k:Nat} (h:∀ i,i<k→P i) (hk:P k):∀ i,i<k+1→P i:=fun i hi=>by
 rcases Nat.lt_or_ge i k with h1|h1
 ·exact h i h1
 ·obtain rfl:i=k:=by omega
  exact hk
theorem VK {a b:List Int} {i:Nat} (h:i<a.length):gi (a++b) i=gi a i:=by unfold gi;rw [List.getElem?_append_left h]
theorem WY {a b:List Int} {i:Nat}:gi (a++b) (a.length+i)=gi b i:=by unfold gi;rw [List.getElem?_append_right (by omega),Nat.add_sub_cancel_left]
theorem UD {l:List (List Int)} {m:Nat} {skip B:Int} (e:TypeId) (h:Qy l l.length m skip B) (rows BQ:List Int) :
 AV env 74 [.lst e (cells l) l.length,.lst 3 (cells rows) rows.length,.lst 3 (cells BQ) BQ.length] (.ET [.p (.int .i64 (Iu l m rows BQ).1),.p (.int .i64 (Iu l m rows BQ).2)]):=by
 have hcl:=Oc e h
 have h2:=h.n60
 have h3:=h.zq
 have h4:=h.B9
 have hrow:=h.UG.row
 have qR:=h.UG.rng
 by_cases hlen:rows.length=l.length∧BQ.length=m
 case neg =>
  rw [a4r hlen]
  refine AV.enter (AB (by decide)) Tryz.func74 rfl (by kernel_rfl) (by simp [Tryz.ntmps74]) ?_
  repeat' (first|apply Ae.assoc|apply Ae.AA|apply Ae.BO|apply Ag.nil|apply Ag.one|(apply Ag.take;rfl;rfl)|(apply Ag.drop;rfl;rfl;rfl)|(apply Ag.guard;rfl;rfl)|(apply Aa.fn;rfl;rfl;exact hcl;intro _;rfl)|(apply Aa.assign;rfl)|(apply Aa.move;rfl)|(apply Aa.int;rfl;rfl;rfl)|(apply Aa.BA;rfl;rfl)|(apply Aa.AP;rfl;rfl)|(apply Aa.BX;rfl;rfl)|(apply Ae.Bf;rfl)|(apply Ae.Af;rfl)|(intro _;try (exfalso;omega)))
  all_goals first|(exfalso;omega)|contradiction|(refine Done.ret rfl (.refl _) (by first|exact trivial|exact ⟨trivial,trivial,trivial⟩|exact ⟨trivial,trivial,trivial,trivial⟩) Aj.nil (Nat.zero_le _) (Nat.le_refl _) ⟨?_,rfl,rfl⟩;try rfl)
 have hp3:∀ i,i<(rows++BQ).length→¬ JI (gi (rows++BQ) i)→Iu l m rows BQ=(0,3):=fun i=>a6v hlen
 have a4p:(∀ i,i<(rows++BQ).length→JI (gi (rows++BQ) i))→∀ k,k<BQ.length→gi BQ k>0→Iu l m rows BQ=(0,20):=fun hb k=>a2r hlen hb
 have a3l:(∀ i,i<(rows++BQ).length→JI (gi (rows++BQ) i))→(∀ k,k<BQ.length→gi BQ k≤0)→∀ i k,i<l.length→k<m→gi rows i+gi BQ k>gi (gi l i) k→Iu l m rows BQ=(0,20):=fun hb hn i k=>a0s hlen hb hn
 have a4l:(∀ i,i<(rows++BQ).length→JI (gi (rows++BQ) i))→(∀ k,k<BQ.length→gi BQ k≤0)→(∀ i,i<l.length→∀ k,k<m→gi rows i+gi BQ k≤gi (gi l i) k)→Iu l m rows BQ=(sumT (rows++BQ) (rows++BQ).length,0):=zI hlen
 have gr:∀ k,k<l.length→gi (rows++BQ) k=gi rows k:=fun k hk=>VK (by omega)
 have gp:∀ j,j<BQ.length→gi (rows++BQ) (rows.length+j)=gi BQ j:=fun j _=>WY
 have a0a:(rows++BQ).length=rows.length+BQ.length:=List.length_append
 rcases Nat.eq_zero_or_pos (rows.length+BQ.length) with hz|hz
 ·have hcn:=Zi rows BQ hz
  rw [← a0a] at hcn
  generalize rows++BQ=cat at *
  generalize Iu l m rows BQ=R at *
  refine AV.enter (AB (by decide)) Tryz.func74 rfl (by kernel_rfl) (by simp [Tryz.ntmps74]) ?_
  repeat' (first|(refine Ag.J4 30 ?_;refine Ag.ghost (Bc.freeze 29 rfl rfl) ?_)|apply Ae.assoc|apply Ae.AA|apply Ae.Aq|apply Ae.Ai|apply Ag.nil|apply Ag.one|(apply Ag.take;rfl;rfl)|(apply Ag.guard;rfl;rfl)|(apply Aa.fn;rfl;rfl;exact hcl;intro _;rfl)|(apply Aa.fv;rfl;rfl;exact hcn)|(apply Aa.assign;rfl)|(apply Aa.move;rfl)|(apply Aa.int;rfl;rfl;rfl)|(apply Aa.AP;rfl;rfl)|(apply Aa.BX;rfl;rfl)|(apply Aa.lenV;rfl;rfl;rfl)|(apply Aa.buildSlice;rfl;rfl;rfl;decide;rfl;rfl;rfl)|(apply Ae.Af;rfl)|(intro _;try (exfalso;omega)))
  all_goals try (exfalso;omega)
  apply Ae.Hz (cat.length) (fun k=>∀ i,i<k→JI (gi cat i)) [(0,_),(1,_),(2,_),(30,_),(31,_)] [(1,_)] (fun k r=>(8,.p (.int .i64 (sumT cat k)))::(32,.p (.int .i64 (k:Int)))::r) (fun k r=>r) 2
  ·first|omega|decide
  ·first|omega|decide
  ·repeat (first|exact Ad.nil|(refine Ad.eq rfl ?_ ?_;(first|exact PV.Ap rfl|(simp [PV.under,AU.under];done)))|refine Ad.cons trivial rfl (.of_eq (Aw (by simp<;>omega))) ?_)
  ·repeat (first|exact Aj.nil|(refine Aj.eq rfl (Ac rfl) ?_ ?_;(first|exact HB.Ap rfl|exact AU.Ah _ _|(simp [HB.under,AU.under,PV.under];done)))|(refine Aj.cons (Ac rfl) ?_ rfl ?_ ?_;(first|exact trivial|exact AU.Ah _ _|(simp [HB.under,AU.under,PV.under]));(first|exact Bo.refl _|exact Bo.vec (Bh.refl _) (by simp))))
  ·first|(intro _ _;omega)|omega|trivial
  ·intro k hk;omega
  ·intro hall
   repeat' (first|apply Ae.assoc|apply Ae.AA|apply Ae.Ba|apply Ae.Ai|apply AO.normal|apply AL.exit|apply Az.exit|apply Ag.nil|apply Ag.one|(apply U5;rfl;rfl;rfl;exact le_dec rfl)|(apply U0;rfl;rfl;rfl;exact le_dec rfl)|(apply Aa.assign;rfl)|(apply Aa.move;rfl)|(apply Aa.int;rfl;rfl;rfl)|(apply Aa.BX;rfl;rfl)|(apply Ae.Af;rfl)|(intro _;try (exfalso;omega)))
   all_goals try (exfalso;omega)
   apply Ae.Hz (BQ.length) (fun k=>∀ i,i<k→gi BQ i≤0) [(0,_),(1,_),(7,_)] [(1,_)] (fun k r=>(8,.p (.int .i64 (k:Int)))::r) (fun k r=>r) 2
   ·first|omega|decide
   ·first|omega|decide
   ·repeat (first|exact Ad.nil|(refine Ad.eq rfl ?_ ?_;(first|exact PV.Ap rfl|(simp [PV.under,AU.under];done)))|refine Ad.cons trivial rfl (.of_eq (Aw (by simp<;>omega))) ?_)
   ·repeat (first|exact Aj.nil|(refine Aj.eq rfl (Ac rfl) ?_ ?_;(first|exact HB.Ap rfl|exact AU.Ah _ _|(simp [HB.under,AU.under,PV.under];done)))|(refine Aj.cons (Ac rfl) ?_ rfl ?_ ?_;(first|exact trivial|exact AU.Ah _ _|(simp [HB.under,AU.under,PV.under]));(first|exact Bo.refl _|exact Bo.vec (Bh.refl _) (by simp))))
   ·first|(intro _ _;omega)|omega|trivial
   ·intro k hk;omega
   ·intro hneg
    repeat' (first|apply Ae.assoc|apply Ae.AA|apply Ae.Aq|apply Ae.Ba|apply Ae.Ai|apply AO.normal|(apply Bj.ret;rfl)|apply AL.exit|apply Az.exit|apply Ae.ret|apply Ag.nil|apply Ag.one|(apply Aa.assign;rfl)|(apply Aa.move;rfl)|(apply Aa.int;rfl;rfl;rfl)|(apply Aa.BX;rfl;rfl)|(apply Ae.Au;rfl)|(apply Ae.Af;rfl)|(intro _;try (exfalso;omega)))
    all_goals try (exfalso;omega)
    all_goals try contradiction
    apply Ae.Hz (l.length) (fun k=>∀ i,i<k→∀ j,j<m→gi rows i+gi BQ j≤gi (gi l i) j) [(0,_),(1,_),(2,_),(8,_),(48,_),(49,_)] [(1,_)] (fun k r=>(50,.p (.int .i64 (k:Int)))::r) (fun k r=>r) 2
    ·first|omega|decide
    ·first|omega|decide
    ·repeat (first|exact Ad.nil|(refine Ad.eq rfl ?_ ?_;(first|exact PV.Ap rfl|(simp [PV.under,AU.under];done)))|refine Ad.cons trivial rfl (.of_eq (Aw (by simp<;>omega))) ?_)
    ·repeat (first|exact Aj.nil|(refine Aj.eq rfl (Ac rfl) ?_ ?_;(first|exact HB.Ap rfl|exact AU.Ah _ _|(simp [HB.under,AU.under,PV.under];done)))|(refine Aj.cons (Ac rfl) ?_ rfl ?_ ?_;(first|exact trivial|exact AU.Ah _ _|(simp [HB.under,AU.under,PV.under]));(first|exact Bo.refl _|exact Bo.vec (Bh.refl _) (by simp))))
    ·first|(intro _ _;omega)|omega|trivial
    ·intro k hk;omega
    ·intro hf
     rw [a4l hall hneg hf]
     repeat' (first|apply Ae.AA|apply Ae.Ba|apply AO.normal|apply AL.exit|apply Az.exit|apply Ae.ret|apply Ag.nil|apply Ag.one|(apply Aa.assign;rfl)|(apply Aa.move;rfl)|(apply Aa.int;rfl;rfl;rfl)|(apply Ae.Af;rfl)|(intro _;try (exfalso;omega)))
     all_goals first|(exfalso;omega)|contradiction|(refine Done.ret rfl (.refl _) (by first|exact trivial|exact ⟨trivial,trivial,trivial⟩|exact ⟨trivial,trivial,trivial,trivial⟩) Aj.nil (Nat.zero_le _) (Nat.le_refl _) ⟨?_,rfl,rfl⟩;try rfl)
 ·have hcn:=ZA rows BQ hz (by omega)
  rw [← a0a] at hcn
  generalize rows++BQ=cat at *
  generalize Iu l m rows BQ=R at *
  refine AV.enter (AB (by decide)) Tryz.func74 rfl (by kernel_rfl) (by simp [Tryz.ntmps74]) ?_
  repeat' (first|(refine Ag.J4 30 ?_;refine Ag.ghost (Bc.freeze 29 rfl rfl) ?_)|apply Ae.assoc|apply Ae.AA|apply Ae.Aq|apply Ae.Ai|apply Ag.nil|apply Ag.one|(apply Ag.take;rfl;rfl)|(apply Ag.guard;rfl;rfl)|(apply Aa.fn;rfl;rfl;exact hcl;intro _;rfl)|(apply Aa.fv;rfl;rfl;exact hcn)|(apply Aa.assign;rfl)|(apply Aa.move;rfl)|(apply Aa.int;rfl;rfl;rfl)|(apply Aa.AP;rfl;rfl)|(apply Aa.BX;rfl;rfl)|(apply Aa.lenV;rfl;rfl;rfl)|(apply Aa.buildSlice;rfl;rfl;rfl;decide;rfl;rfl;rfl)|(apply Ae.Af;rfl)|(intro _;try (exfalso;omega)))
  all_goals try (exfalso;omega)
  apply Ae.Hz (cat.length) (fun k=>∀ i,i<k→JI (gi cat i)) [(0,_),(1,_),(2,_),(30,_),(31,_)] [(1,_)] (fun k r=>(8,.p (.int .i64 (sumT cat k)))::(32,.p (.int .i64 (k:Int)))::r) (fun k r=>r) 2
  ·first|omega|decide
  ·first|omega|decide
  ·repeat (first|exact Ad.nil|(refine Ad.eq rfl ?_ ?_;(first|exact PV.Ap rfl|(simp [PV.under,AU.under];done)))|refine Ad.cons trivial rfl (.of_eq (Aw (by simp<;>omega))) ?_)
  ·repeat (first|exact Aj.nil|(refine Aj.eq rfl (Ac rfl) ?_ ?_;(first|exact HB.Ap rfl|exact AU.Ah _ _|(simp [HB.under,AU.under,PV.under];done)))|(refine Aj.cons (Ac rfl) ?_ rfl ?_ ?_;(first|exact trivial|exact AU.Ah _ _|(simp [HB.under,AU.under,PV.under]));(first|exact Bo.refl _|exact Bo.vec (Bh.refl _) (by simp))))
  ·first|(intro _ _;omega)|omega|trivial
  ·intro k hk hi
   have hb:=Wi k hi
   by_cases hx:JI (gi cat k)
   ·obtain ⟨x1,x2⟩:=hx
    repeat' (first|apply Ae.assoc|apply Ae.AA|apply Ae.region|apply Ae.Aq|apply Ae.Ai|apply AO.normal|apply AL.normal|apply Ag.nil|apply Ag.one|(apply Ag.take;rfl;rfl)|(apply Ag.guard;rfl;rfl)|(apply Aa.assign;rfl)|(apply Aa.move;rfl)|(apply Aa.Bv;rfl;rfl;omega)|(apply Aa.int;rfl;rfl;rfl)|(apply Aa.Dq;rfl;rfl;omega;rfl)|(apply Aa.AP;rfl;rfl)|(apply Aa.Dh;rfl;rfl;rfl;rfl;omega)|(apply Ae.Af;rfl)|(intro _;try (exfalso;omega)))
    all_goals try (exfalso;omega)
    refine Az.normal ⟨(Qw hi ⟨x1,x2⟩),by first|omega|decide,?_,?_⟩
    ·repeat (first|exact Ad.nil|refine Ad.same trivial rfl ?_|refine Ad.same (Ac rfl) rfl ?_|refine Ad.same ⟨trivial,Ac rfl,trivial⟩ rfl ?_|refine Ad.same ⟨trivial,Ac rfl,Ac rfl,trivial⟩ rfl ?_|refine Ad.same ⟨trivial,Ac rfl,Ac rfl,Ac rfl,trivial⟩ rfl ?_|refine Ad.same ⟨trivial,Ac rfl,Ac rfl,Ac rfl,Ac rfl,trivial⟩ rfl ?_|refine Ad.same ⟨trivial,trivial⟩ rfl ?_|refine Ad.cons trivial rfl (.of_eq (Aw (by simp<;>omega))) ?_)
    ·repeat (first|exact Aj.nil|(refine Aj.cons (Ac rfl) ?_ rfl ?_ ?_;(first|exact HB.Ap rfl|exact AU.Ah _ _|(simp [HB.under,AU.under,PV.under]));(first|exact Bo.refl _|exact Bo.vec (Bh.refl _) (by simp))))
   ·rw [hp3 k hk hx]
    unfold JI at hx
    repeat' (first|apply Ae.assoc|apply Ae.AA|apply Ae.Aq|apply Ae.BO|apply Ae.Ai|apply AO.ret|apply AL.ret|apply Az.ret|apply Ag.nil|apply Ag.one|(apply Ag.take;rfl;rfl)|(apply Ag.drop;rfl;rfl;rfl)|(apply Ag.guard;rfl;rfl)|(apply Aa.assign;rfl)|(apply Aa.move;rfl)|(apply Aa.int;rfl;rfl;rfl)|(apply Aa.Dq;rfl;rfl;omega;rfl)|(apply Aa.BA;rfl;rfl)|(apply Aa.AP;rfl;rfl)|(apply Aa.Dh;rfl;rfl;rfl;rfl;omega)|(apply Ae.Bf;rfl)|(apply Ae.Af;rfl)|(intro _;try (exfalso;omega)))
    all_goals first|(exfalso;omega)|contradiction|(refine Done.ret rfl (.refl _) (by first|exact trivial|exact ⟨trivial,trivial,trivial⟩|exact ⟨trivial,trivial,trivial,trivial⟩) Aj.nil (Nat.zero_le _) (Nat.le_refl _) ⟨?_,rfl,rfl⟩;try rfl)
  ·intro hall
   repeat' (first|apply Ae.assoc|apply Ae.AA|apply Ae.Ba|apply Ae.Ai|apply AO.normal|apply AL.exit|apply Az.exit|apply Ag.nil|apply Ag.one|(apply U5;rfl;rfl;rfl;exact le_dec rfl)|(apply U0;rfl;rfl;rfl;exact le_dec rfl)|(apply Aa.assign;rfl)|(apply Aa.move;rfl)|(apply Aa.int;rfl;rfl;rfl)|(apply Aa.BX;rfl;rfl)|(apply Ae.Af;rfl)|(intro _;try (exfalso;omega)))
   all_goals try (exfalso;omega)
   apply Ae.Hz (BQ.length) (fun k=>∀ i,i<k→gi BQ i≤0) [(0,_),(1,_),(7,_)] [(1,_)] (fun k r=>(8,.p (.int .i64 (k:Int)))::r) (fun k r=>r) 2
   ·first|omega|decide
   ·first|omega|decide
   ·repeat (first|exact Ad.nil|(refine Ad.eq rfl ?_ ?_;(first|exact PV.Ap rfl|(simp [PV.under,AU.under];done)))|refine Ad.cons trivial rfl (.of_eq (Aw (by simp<;>omega))) ?_)
   ·repeat (first|exact Aj.nil|(refine Aj.eq rfl (Ac rfl) ?_ ?_;(first|exact HB.Ap rfl|exact AU.Ah _ _|(simp [HB.under,AU.under,PV.under];done)))|(refine Aj.cons (Ac rfl) ?_ rfl ?_ ?_;(first|exact trivial|exact AU.Ah _ _|(simp [HB.under,AU.under,PV.under]));(first|exact Bo.refl _|exact Bo.vec (Bh.refl _) (by simp))))
   ·first|(intro _ _;omega)|omega|trivial
   ·intro k hk hi
    by_cases hx:gi BQ k≤0
    ·repeat' (first|apply Ae.AA|apply Ae.region|apply Ae.Aq|apply Ae.Ai|apply AO.normal|(apply Bj.ret;rfl)|apply AL.normal|apply Ae.ret|apply Ae.skip|apply Ag.nil|apply Ag.one|(apply lY;rfl;rfl;rfl;exact le_dec rfl)|(apply Aa.assign;rfl)|(apply Aa.move;rfl)|(apply Aa.Bv;rfl;rfl;omega)|(apply Aa.int;rfl;rfl;rfl)|(apply Aa.A8;rfl;rfl;rfl;omega;rfl)|(apply Aa.load;rfl;rfl)|(apply Ae.Af;rfl)|(apply Ae.Bd;rfl)|(intro _;try (exfalso;omega)))
     all_goals try (exfalso;omega)
     refine Az.normal ⟨(Qw hi hx),by first|omega|decide,?_,?_⟩
     ·repeat (first|exact Ad.nil|refine Ad.same trivial rfl ?_|refine Ad.same (Ac rfl) rfl ?_|refine Ad.same ⟨trivial,Ac rfl,trivial⟩ rfl ?_|refine Ad.same ⟨trivial,Ac rfl,Ac rfl,trivial⟩ rfl ?_|refine Ad.same ⟨trivial,Ac rfl,Ac rfl,Ac rfl,trivial⟩ rfl ?_|refine Ad.same ⟨trivial,Ac rfl,Ac rfl,Ac rfl,Ac rfl,trivial⟩ rfl ?_|refine Ad.same ⟨trivial,trivial⟩ rfl ?_|refine Ad.cons trivial rfl (.of_eq (Aw (by simp<;>omega))) ?_)
     ·repeat (first|exact Aj.nil|(refine Aj.cons (Ac rfl) ?_ rfl ?_ ?_;(first|exact HB.Ap rfl|exact AU.Ah _ _|(simp [HB.under,AU.under,PV.under]));(first|exact Bo.refl _|exact Bo.vec (Bh.refl _) (by simp))))
    ·rw [a4p hall k hk (by omega)]
     repeat' (first|apply Ae.assoc|apply Ae.AA|apply Ae.Aq|apply Ae.BO|apply Ae.Ai|apply AO.ret|(apply Bj.ret;rfl)|apply AL.ret|apply Az.ret|apply Ae.ret|apply Ag.nil|apply Ag.one|(apply lY;rfl;rfl;rfl;exact le_dec rfl)|(apply Aa.assign;rfl)|(apply Aa.move;rfl)|(apply Aa.int;rfl;rfl;rfl)|(apply Aa.A8;rfl;rfl;rfl;omega;rfl)|(apply Aa.load;rfl;rfl)|(apply Ae.Bf;rfl)|(apply Ae.Af;rfl)|(apply Ae.Bd;rfl)|(intro _;try (exfalso;omega)))
     all_goals first|(exfalso;omega)|contradiction|(refine Done.ret rfl (.refl _) (by first|exact trivial|exact ⟨trivial,trivial,trivial⟩|exact ⟨trivial,trivial,trivial,trivial⟩) Aj.nil (Nat.zero_le _) (Nat.le_refl _) ⟨?_,rfl,rfl⟩;try rfl)
   ·intro hneg
    repeat' (first|apply Ae.assoc|apply Ae.AA|apply Ae.Aq|apply Ae.Ba|apply Ae.Ai|apply AO.normal|(apply Bj.ret;rfl)|apply AL.exit|apply Az.exit|apply Ae.ret|apply Ag.nil|apply Ag.one|(apply Aa.assign;rfl)|(apply Aa.move;rfl)|(apply Aa.int;rfl;rfl;rfl)|(apply Aa.BX;rfl;rfl)|(apply Ae.Au;rfl)|(apply Ae.Af;rfl)|(intro _;try (exfalso;omega)))
    all_goals try (exfalso;omega)
    all_goals try contradiction
    apply Ae.Hz (l.length) (fun k=>∀ i,i<k→∀ j,j<m→gi rows i+gi BQ j≤gi (gi l i) j) [(0,_),(1,_),(2,_),(8,_),(48,_),(49,_)] [(1,_)] (fun k r=>(50,.p (.int .i64 (k:Int)))::r) (fun k r=>r) 2
    ·first|omega|decide
    ·first|omega|decide
    ·repeat (first|exact Ad.nil|(refine Ad.eq rfl ?_ ?_;(first|exact PV.Ap rfl|(simp [PV.under,AU.under];done)))|refine Ad.cons trivial rfl (.of_eq (Aw (by simp<;>omega))) ?_)
    ·repeat (first|exact Aj.nil|(refine Aj.eq rfl (Ac rfl) ?_ ?_;(first|exact HB.Ap rfl|exact AU.Ah _ _|(simp [HB.under,AU.under,PV.under];done)))|(refine Aj.cons (Ac rfl) ?_ rfl ?_ ?_;(first|exact trivial|exact AU.Ah _ _|(simp [HB.under,AU.under,PV.under]));(first|exact Bo.refl _|exact Bo.vec (Bh.refl _) (by simp))))
    ·first|(intro _ _;omega)|omega|trivial
    ·intro k hk hi
     have hrl:=hrow k hk
     have r1:=hall k (by omega)
     rw [gr k hk] at r1
     obtain ⟨r2,r3⟩:=r1
     repeat' (first|apply Ae.AA|apply Ae.Aq|apply Ae.Ai|apply Ae.I8|apply Ag.nil|apply Ag.one|(apply Aa.assign;rfl)|(apply Aa.move;rfl)|(apply Aa.int;rfl;rfl;rfl)|(apply Aa.A8;rfl;rfl;rfl;omega;rfl)|(apply Aa.load;rfl;rfl)|(apply Aa.BX;rfl;rfl)|(apply Ae.Af;rfl)|(intro _;try (exfalso;omega)))
     all_goals try (exfalso;omega)
     apply Ae.Hz ((gi l k).length) (fun k_=>∀ j,j<k_→gi rows k+gi BQ j≤gi (gi l k) j) [(0,_),(1,_),(2,_),(8,_),(11,_),(48,_),(49,_),(50,_),(55,_),(56,_)] [(1,_)] (fun k_ r=>(57,.p (.int .i64 (k_:Int)))::r) (fun k_ r=>r) 2
     ·first|omega|decide
     ·first|omega|decide
     ·repeat (first|exact Ad.nil|(refine Ad.eq rfl ?_ ?_;(first|exact PV.Ap rfl|(simp [PV.under,AU.under];done)))|refine Ad.cons trivial rfl (.of_eq (Aw (by simp<;>omega))) ?_)
     ·repeat (first|exact Aj.nil|(refine Aj.eq rfl (Ac rfl) ?_ ?_;(first|exact HB.Ap rfl|exact AU.Ah _ _|(simp [HB.under,AU.under,PV.under];done)))|(refine Aj.cons (Ac rfl) ?_ rfl ?_ ?_;(first|exact trivial|exact AU.Ah _ _|(simp [HB.under,AU.under,PV.under]));(first|exact Bo.refl _|exact Bo.vec (Bh.refl _) (by simp))))
     ·first|(intro _ _;omega)|omega|trivial
     ·intro j hj hij
      have c1:=qR k j hk (by omega)
      have p1:=hall (rows.length+j) (by omega)
      rw [gp j (by omega)] at p1
      obtain ⟨p2,p3⟩:=p1
      by_cases hx:gi rows k+gi BQ j≤gi (gi l k) j
      ·repeat' (first|apply Ae.AA|apply Ae.BM|apply Ae.region|apply Ae.Aq|apply Ae.Ai|apply AO.normal|apply AL.normal|apply Ae.skip|apply Ag.nil|apply Ar.nil|apply Ag.one|(apply Ar.bar;decide +kernel)|apply Ar.quiet|(apply Aa.assign;rfl)|(apply Aa.move;rfl)|(apply Aa.Bv;rfl;rfl;omega)|(apply Aa.int;rfl;rfl;rfl)|(apply Aa.A8;rfl;rfl;rfl;omega;rfl)|(apply Aa.load;rfl;rfl)|(apply Ae.Af;rfl)|(apply Ae.Bd;rfl)|(intro _;try (exfalso;omega)))
       all_goals try (exfalso;omega)
       refine Az.normal ⟨(Qw hij hx),by first|omega|decide,?_,?_⟩
       ·repeat (first|exact Ad.nil|refine Ad.same trivial rfl ?_|refine Ad.same (Ac rfl) rfl ?_|refine Ad.same ⟨trivial,Ac rfl,trivial⟩ rfl ?_|refine Ad.same ⟨trivial,Ac rfl,Ac rfl,trivial⟩ rfl ?_|refine Ad.same ⟨trivial,Ac rfl,Ac rfl,Ac rfl,trivial⟩ rfl ?_|refine Ad.same ⟨trivial,Ac rfl,Ac rfl,Ac rfl,Ac rfl,trivial⟩ rfl ?_|refine Ad.same ⟨trivial,trivial⟩ rfl ?_|refine Ad.cons trivial rfl (.of_eq (Aw (by simp<;>omega))) ?_)
       ·repeat (first|exact Aj.nil|(refine Aj.cons (Ac rfl) ?_ rfl ?_ ?_;(first|exact HB.Ap rfl|exact AU.Ah _ _|(simp [HB.under,AU.under,PV.under]));(first|exact Bo.refl _|exact Bo.vec (Bh.refl _) (by simp))))
      ·rw [a3l hall hneg k j hk (by omega) (by omega)]
       repeat' (first|apply Ae.AA|apply Ae.BM|apply Ae.Aq|apply Ae.Ai|apply AO.ret|apply AL.ret|apply Az.ret|apply Ae.ret|apply Ag.nil|apply Ar.nil|apply Ag.one|(apply Ar.bar;decide +kernel)|apply Ar.quiet|(apply Aa.assign;rfl)|(apply Aa.move;rfl)|(apply Aa.Bv;rfl;rfl;omega)|(apply Aa.int;rfl;rfl;rfl)|(apply Aa.A8;rfl;rfl;rfl;omega;rfl)|(apply Aa.load;rfl;rfl)|(apply Ae.Af;rfl)|(apply Ae.Bd;rfl)|(intro _;try (exfalso;omega)))
       all_goals first|(exfalso;omega)|contradiction|(refine Done.ret rfl (.refl _) (by first|exact trivial|exact ⟨trivial,trivial,trivial⟩|exact ⟨trivial,trivial,trivial,trivial⟩) Aj.nil (Nat.zero_le _) (Nat.le_refl _) ⟨?_,rfl,rfl⟩;try rfl)
     ·intro vN
      rw [hrl] at vN
      repeat' (first|apply Ae.AA|apply Ae.region|apply Ae.Ba|apply AO.normal|apply AL.normal|apply AL.exit|apply Az.exit|apply Ag.nil|apply Ag.one|(apply Aa.move;rfl)|(apply Aa.Bv;rfl;rfl;omega)|(apply Aa.int;rfl;rfl;rfl)|(apply Ae.Af;rfl)|(intro _;try (exfalso;omega)))
      all_goals try (exfalso;omega)
      refine Az.normal ⟨(Qw hi vN),by first|omega|decide,?_,?_⟩
      ·repeat (first|exact Ad.nil|refine Ad.same trivial rfl ?_|refine Ad.same (Ac rfl) rfl ?_|refine Ad.same ⟨trivial,Ac rfl,trivial⟩ rfl ?_|refine Ad.same ⟨trivial,Ac rfl,Ac rfl,trivial⟩ rfl ?_|refine Ad.same ⟨trivial,Ac rfl,Ac rfl,Ac rfl,trivial⟩ rfl ?_|refine Ad.same ⟨trivial,Ac rfl,Ac rfl,Ac rfl,Ac rfl,trivial⟩ rfl ?_|refine Ad.same ⟨trivial,trivial⟩ rfl ?_|refine Ad.cons trivial rfl (.of_eq (Aw (by simp<;>omega))) ?_)
      ·repeat (first|exact Aj.nil|(refine Aj.cons (Ac rfl) ?_ rfl ?_ ?_;(first|exact HB.Ap rfl|exact AU.Ah _ _|(simp [HB.under,AU.under,PV.under]));(first|exact Bo.refl _|exact Bo.vec (Bh.refl _) (by simp))))
    ·intro hf
     rw [a4l hall hneg hf]
     repeat' (first|apply Ae.AA|apply Ae.Ba|apply AO.normal|apply AL.exit|apply Az.exit|apply Ae.ret|apply Ag.nil|apply Ag.one|(apply Aa.assign;rfl)|(apply Aa.move;rfl)|(apply Aa.int;rfl;rfl;rfl)|(apply Ae.Af;rfl)|(intro _;try (exfalso;omega)))
     all_goals first|(exfalso;omega)|contradiction|(refine Done.ret rfl (.refl _) (by first|exact trivial|exact ⟨trivial,trivial,trivial⟩|exact ⟨trivial,trivial,trivial,trivial⟩) Aj.nil (Nat.zero_le _) (Nat.le_refl _) ⟨?_,rfl,rfl⟩;try rfl)
noncomputable def mF (l:List (List Int)) (m:Nat) (r:QI) (sum e most:Int):Int :=
 open Classical in
 if e≠0 then e else if sum≠r.total then 7 else if (Iu l m r.rows r.BQ).2≠0 then (Iu l m r.rows r.BQ).2
 else if (Iu l m r.rows r.BQ).1<r.total∨∃ i,i<r.rows.length∧gi r.rows i>most then 20 else 0
noncomputable def uw (l:List (List Int)) (m:Nat) (skip:Int) (r:QI):Int:=mF l m r (Zn l m skip r.cols).1 (Zn l m skip r.cols).2 skip
theorem jL {l:List (List Int)} {m:Nat} {skip B:Int} (ty:TypeId) (h:Qy l l.length m skip B) (r:QI) (sum e most:Int) :
 AV env 48 [.lst ty (cells l) l.length,.agg (Enc.enc r),.int .i64 sum,.int .i64 e,.int .i64 most] (.p (.int .i64 (mF l m r sum e most))):=by
 have hp:=UD ty h r.rows r.BQ
 have hE:mF l m r sum e most=if e≠0 then e else if sum≠r.total then 7 else if (Iu l m r.rows r.BQ).2≠0 then (Iu l m r.rows r.BQ).2
  else open Classical in if (Iu l m r.rows r.BQ).1<r.total∨∃ i,i<r.rows.length∧gi r.rows i>most then 20 else 0:=rfl
 rw [hE]
 clear hE
 refine AV.enter (AB (by decide)) Tryz.func48 rfl (by kernel_rfl) (by simp [Tryz.ntmps48]) ?_
 by_cases e1:e=0
 case neg =>
  rw [if_pos e1]
  repeat' (first|apply Ae.AA|apply Ae.Ai|apply AO.ret|apply AL.ret|apply Ae.ret|apply Ag.nil|apply Ag.one|(apply Aa.assign;rfl)|(apply Aa.move;rfl)|(apply Aa.int;rfl;rfl;rfl)|(apply Aa.box;rfl;trivial)|(apply Ae.Bd;rfl)|(intro _;try (exfalso;omega)))
  all_goals first|(exfalso;omega)|contradiction|(refine Done.ret rfl (.refl _) (by first|exact trivial|exact ⟨trivial,trivial,trivial⟩|exact ⟨trivial,trivial,trivial,trivial⟩) Aj.nil (Nat.zero_le _) (Nat.le_refl _) ⟨?_,rfl,rfl⟩;try rfl)
 rw [if_neg (fun x=>x e1)]
 by_cases e2:sum=r.total
 case neg =>
  rw [if_pos e2]
  repeat' (first|apply Ae.AA|apply Ae.Ai|apply AO.ret|apply AL.ret|apply Ae.ret|apply Ag.nil|apply Ag.one|(apply Aa.assign;rfl)|(apply Aa.move;rfl)|(apply Aa.int;rfl;rfl;rfl)|(apply Aa.load;rfl;rfl)|(apply Aa.AQ;rfl;rfl;rfl)|(apply Aa.box;rfl;trivial)|(apply Ae.Bd;rfl)|(intro _;try (exfalso;omega)))
  all_goals first|(exfalso;omega)|contradiction|(refine Done.ret rfl (.refl _) (by first|exact trivial|exact ⟨trivial,trivial,trivial⟩|exact ⟨trivial,trivial,trivial,trivial⟩) Aj.nil (Nat.zero_le _) (Nat.le_refl _) ⟨?_,rfl,rfl⟩;try rfl)
 rw [if_neg (fun x=>x e2)]
 have hlen0:(Iu l m r.rows r.BQ).2=0→r.rows.length=l.length:=fun h0=>Classical.byContradiction fun h1=>by
  rw [a4r (fun x=>h1 x.1)] at h0
  cases h0
 have h60:=h.n60
 generalize Iu l m r.rows r.BQ=P at *
 obtain ⟨b,e3⟩:=P
 simp only at hp hlen0 ⊢
 by_cases e4:e3=0
 case neg =>
  rw [if_pos e4]
  repeat' (first|apply Ae.AA|apply Ae.Ai|apply AO.normal|apply AO.ret|apply AL.normal|apply AL.ret|apply Ae.ret|apply Ae.skip|apply Ag.nil|apply Ag.one|(apply Aa.fn;rfl;rfl;exact hp;intro _;rfl)|(apply Aa.assign;rfl)|(apply Aa.move;rfl)|(apply Aa.int;rfl;rfl;rfl)|(apply Aa.load;rfl;rfl)|(apply Aa.AQ;rfl;rfl;rfl)|(apply Aa.box;rfl;trivial)|(apply Aa.extract;rfl;rfl)|(apply Ae.Bd;rfl)|(intro _;try (exfalso;omega)))
  all_goals first|(exfalso;omega)|contradiction|(refine Done.ret rfl (.refl _) (by first|exact trivial|exact ⟨trivial,trivial,trivial⟩|exact ⟨trivial,trivial,trivial,trivial⟩) Aj.nil (Nat.zero_le _) (Nat.le_refl _) ⟨?_,rfl,rfl⟩;try rfl)
 rw [if_neg (fun x=>x e4)]
 have hlen:=hlen0 e4
 by_cases e5:b<r.total
 ·rw [if_pos (.inl e5)]
  repeat' (first|apply Ae.AA|apply Ae.Ai|apply AO.normal|apply AO.ret|apply AL.normal|apply AL.ret|apply Ae.ret|apply Ae.skip|apply Ag.nil|apply Ag.one|(apply Ag.drop;rfl;rfl;rfl)|(apply Ag.guard;rfl;rfl)|(apply Aa.fn;rfl;rfl;exact hp;intro _;rfl)|(apply Aa.assign;rfl)|(apply Aa.move;rfl)|(apply Aa.int;rfl;rfl;rfl)|(apply Aa.load;rfl;rfl)|(apply Aa.BA;rfl;rfl)|(apply Aa.AQ;rfl;rfl;rfl)|(apply Aa.box;rfl;trivial)|(apply Aa.extract;rfl;rfl)|(apply Ae.cond_true;rfl)|(apply Ae.Bd;rfl)|(intro _;try (exfalso;omega)))
  all_goals first|(exfalso;omega)|contradiction|(refine Done.ret rfl (.refl _) (by first|exact trivial|exact ⟨trivial,trivial,trivial⟩|exact ⟨trivial,trivial,trivial,trivial⟩) Aj.nil (Nat.zero_le _) (Nat.le_refl _) ⟨?_,rfl,rfl⟩;try rfl)
 ·repeat' (first|apply Ae.assoc|apply Ae.AA|apply Ae.Ai|apply AO.normal|apply AL.normal|apply Ae.skip|apply Ag.nil|apply Ag.one|(apply Ag.take;rfl;rfl)|(apply Ag.guard;rfl;rfl)|(apply Aa.fn;rfl;rfl;exact hp;intro _;rfl)|(apply Aa.makeFunc;rfl;rfl)|(apply U5;rfl;rfl;rfl;exact le_dec rfl)|(apply U0;rfl;rfl;rfl;exact le_dec rfl)|(apply Aa.assign;rfl)|(apply Aa.move;rfl)|(apply Aa.int;rfl;rfl;rfl)|(apply Aa.load;rfl;rfl)|(apply Aa.BX;rfl;rfl)|(apply Aa.AQ;rfl;rfl;rfl)|(apply Aa.box;rfl;trivial)|(apply Aa.extract;rfl;rfl)|(apply Ae.Bd;rfl)|(intro _;try (exfalso;omega)))
  all_goals try (exfalso;omega)
  all_goals try contradiction
  apply Ae.Hz (r.rows.length) (fun k=>∀ i,i<k→gi r.rows i≤most) [(0,_),(1,_),(7,_)] [(1,_),(0,_)] (fun k r=>(8,.p (.int .i64 (k:Int)))::r) (fun k r=>r) 2
  ·first|omega|decide
  ·first|omega|decide
  ·repeat (first|exact Ad.nil|(refine Ad.eq rfl ?_ ?_;(first|exact PV.Ap rfl|(simp [PV.under,AU.under];done)))|refine Ad.cons trivial rfl (.of_eq (Aw (by simp<;>omega))) ?_)
  ·repeat (first|exact Aj.nil|(refine Aj.eq rfl (Ac rfl) ?_ ?_;(first|exact HB.Ap rfl|exact AU.Ah _ _|(simp [HB.under,AU.under,PV.under];done)))|(refine Aj.cons (Ac rfl) ?_ rfl ?_ ?_;(first|exact trivial|exact AU.Ah _ _|(simp [HB.under,AU.under,PV.under]));(first|exact Bo.refl _|exact Bo.vec (Bh.refl _) (by simp))))
  ·first|(intro _ _;omega)|omega|trivial
  ·intro k hk hi
   by_cases hx:gi r.rows k≤most
   ·repeat' (first|apply Ae.AA|apply Ae.region|apply Ae.Aq|apply Ae.Ai|apply AO.normal|(apply Bj.ret;rfl)|apply AL.normal|apply Ae.ret|apply Ae.skip|apply Ag.nil|apply Ag.one|(apply kM;rfl;rfl;rfl;exact le_dec rfl)|(apply Aa.assign;rfl)|(apply Aa.move;rfl)|(apply Aa.Bv;rfl;rfl;omega)|(apply Aa.int;rfl;rfl;rfl)|(apply Aa.A8;rfl;rfl;rfl;omega;rfl)|(apply Aa.load;rfl;rfl)|(apply Ae.Af;rfl)|(apply Ae.Bd;rfl)|(intro _;try (exfalso;omega)))
    all_goals try (exfalso;omega)
    refine Az.normal ⟨(Qw hi hx),by first|omega|decide,?_,?_⟩
    ·repeat (first|exact Ad.nil|refine Ad.same trivial rfl ?_|refine Ad.same (Ac rfl) rfl ?_|refine Ad.same ⟨trivial,Ac rfl,trivial⟩ rfl ?_|refine Ad.same ⟨trivial,Ac rfl,Ac rfl,trivial⟩ rfl ?_|refine Ad.same ⟨trivial,Ac rfl,Ac rfl,Ac rfl,trivial⟩ rfl ?_|refine Ad.same ⟨trivial,Ac rfl,Ac rfl,Ac rfl,Ac rfl,trivial⟩ rfl ?_|refine Ad.same ⟨trivial,trivial⟩ rfl ?_|refine Ad.cons trivial rfl (.of_eq (Aw (by simp<;>omega))) ?_)
    ·repeat (first|exact Aj.nil|(refine Aj.cons (Ac rfl) ?_ rfl ?_ ?_;(first|exact HB.Ap rfl|exact AU.Ah _ _|(simp [HB.under,AU.under,PV.under]));(first|exact Bo.refl _|exact Bo.vec (Bh.refl _) (by simp))))
   ·rw [if_pos (.inr ⟨k,hk,by omega⟩)]
    repeat' (first|apply Ae.AA|apply Ae.Aq|apply Ae.Ai|apply AO.ret|(apply Bj.ret;rfl)|apply AL.ret|apply Az.ret|apply Ae.ret|apply Ag.nil|apply Ag.one|(apply kM;rfl;rfl;rfl;exact le_dec rfl)|(apply Aa.assign;rfl)|(apply Aa.move;rfl)|(apply Aa.int;rfl;rfl;rfl)|(apply Aa.A8;rfl;rfl;rfl;omega;rfl)|(apply Aa.load;rfl;rfl)|(apply Aa.AP;rfl;rfl)|(apply Ae.Af;rfl)|(apply Ae.cond_true;rfl)|(apply Ae.Bd;rfl)|(intro _;try (exfalso;omega)))
    all_goals first|(exfalso;omega)|contradiction|(refine Done.ret rfl (.refl _) (by first|exact trivial|exact ⟨trivial,trivial,trivial⟩|exact ⟨trivial,trivial,trivial,trivial⟩) Aj.nil (Nat.zero_le _) (Nat.le_refl _) ⟨?_,rfl,rfl⟩;try rfl)
  ·intro hall
   rw [if_neg (by
    rintro (h1|⟨i,h1,h2⟩)
    ·exact e5 h1
    ·have:=hall i h1;omega)]
   repeat' (first|apply Ae.AA|apply Ae.Ba|apply AO.normal|(apply Bj.ret;rfl)|apply AL.normal|apply AL.exit|apply Az.exit|apply Ae.ret|apply Ae.skip|apply Ag.nil|apply Ag.one|(apply Aa.assign;rfl)|(apply Aa.int;rfl;rfl;rfl)|(apply Aa.AP;rfl;rfl)|(apply Ae.Af;rfl)|(apply Ae.cond_false;rfl)|(intro _;try (exfalso;omega)))
   all_goals first|(exfalso;omega)|contradiction|(refine Done.ret rfl (.refl _) (by first|exact trivial|exact ⟨trivial,trivial,trivial⟩|exact ⟨trivial,trivial,trivial,trivial⟩) Aj.nil (Nat.zero_le _) (Nat.le_refl _) ⟨?_,rfl,rfl⟩;try rfl)
theorem aW {l:List (List Int)} {m:Nat} {skip B:Int} (ty:TypeId) (h:Qy l l.length m skip B) (r:QI) :
 AV env 22 [.lst ty (cells l) l.length,.int .i64 skip,.agg (Enc.enc r)] (.p (.int .i64 (uw l m skip r))):=by
 have hc:=MB ty h
 have ht:=je ty h r.cols
 have hp:=jL ty h r (Zn l m skip r.cols).1 (Zn l m skip r.cols).2 skip
 refine AV.enter (AB (by decide)) Tryz.func22 rfl (by kernel_rfl) (by simp [Tryz.ntmps22]) ?_
 repeat' (first|apply Ae.assoc|apply Ae.AA|apply Ae.Aq|apply Ae.ret|apply Ag.nil|apply Ag.one|(apply Aa.fn;rfl;rfl;exact hc;intro _;rfl)|(apply Aa.fn;rfl;rfl;exact ht;intro _;rfl)|(apply Aa.fn;rfl;rfl;exact hp;intro _;rfl)|(apply Aa.assign;rfl)|(apply Aa.move;rfl)|(apply Aa.int;rfl;rfl;rfl)|(apply Aa.load;rfl;rfl)|(apply Aa.AQ;rfl;rfl;rfl)|(apply Aa.box;rfl;trivial)|(apply Aa.extract;rfl;rfl)|(apply Ae.Au;rfl))
 all_goals first|(exfalso;omega)|contradiction|(refine Done.ret rfl (.refl _) (by first|exact trivial|exact ⟨trivial,trivial,trivial⟩|exact ⟨trivial,trivial,trivial,trivial⟩) Aj.nil (Nat.zero_le _) (Nat.le_refl _) ⟨?_,rfl,rfl⟩;try rfl)
theorem Rq {l:List (List Int)} {m:Nat} {skip:Int} {cols:List Int} (h:WH l.length m fun r=>gi cols r):∀ (r k:Nat) (used:List Bool) (sum:Int),k+r=l.length→(∀ q,k≤q→q<l.length→0≤gi cols q→gi used (gi cols q).toNat=false)→used.length=m →
 Xr l m skip cols r k used sum=(sum+Ug (Vz l skip fun r=>gi cols r) l.length r,0)
 |0,k,used,sum,hk,hu,hl=>by simp [Xr,Ug]
 |r+1,k,used,sum,hk,hu,hl=>by
  have hrg:=h.rng k (by omega)
  have hrg:-1≤gi cols k∧gi cols k<m:=hrg
  have ek:l.length-(r+1)=k:=by omega
  unfold Xr
  rw [if_neg (by omega)]
  simp only [Ug,ek]
  by_cases c2:gi cols k<0
  ·rw [if_pos c2,Rq h r (k+1) used (sum+skip) (by omega) (fun q q1 q2 q3=>hu q (by omega) q2 q3) hl]
   have e:Vz l skip (fun r=>gi cols r) k=skip:=if_pos c2
   rw [e,Int.add_assoc]
  ·rw [if_neg c2,hu k (Nat.le_refl _) (by omega) (by omega),if_neg (by decide)]
   have e:Vz l skip (fun r=>gi cols r) k=gi (gi l k) (gi cols k).toNat:=if_neg c2
   rw [Rq h r (k+1) _ _ (by omega) (fun q q1 q2 q3=>?_) (by rw [List.length_set];exact hl),e,Int.add_assoc]
   rw [gs (by omega),if_neg]
   ·exact hu q (by omega) q2 q3
   ·intro e
    have:=h.inj k q (by omega) q2 (show 0≤gi cols k by omega) (show gi cols k=gi cols q by omega)
    omega
theorem XV (l:List Int):∀ k,sumT l k=Dv (fun i=>gi l i) k
 |0=>rfl
 |k+1=>by simp only [sumT,Dv,XV l k]
theorem wU {l:List (List Int)} {m:Nat} {skip B:Int} (h:Qy l l.length m skip B):uw l m skip (Zu l m skip)=0:=by
 have hP:=YS h.UG
 have hB:=h.B9
 have hm:(Zu l m skip)=⟨wV l l.length m skip,jh l l.length m skip,tZ l l.length m skip,uY l l.length m skip⟩:=rfl
 rw [hm]
 generalize wV l l.length m skip=C at *
 generalize jh l l.length m skip=T at *
 generalize tZ l l.length m skip=U at *
 generalize uY l l.length m skip=V at *
 have ht:Zn l m skip C=(T,0):=by
  unfold Zn
  rw [if_neg (fun x=>x hP.lC),Rq hP.part l.length 0 _ 0 (by omega) (fun q _ _ _=>by
   unfold gi;rw [List.getElem?_replicate];split<;>rfl) (by simp),oV,← hP.tot]
  simp
 have a7t:∀ i,i<(U++V).length→JI (gi (U++V) i):=fun i hi=>by
  rw [List.length_append,hP.lU,hP.lV] at hi
  rcases Nat.lt_or_ge i l.length with h1|h1
  ·rw [VK (by rw [hP.lU];exact h1)]
   have:=hP.a6u i h1
   exact ⟨by omega,by omega⟩
  ·obtain ⟨j,rfl⟩:∃ j,i=U.length+j:=⟨i-U.length,by have:=hP.lU;omega⟩
   rw [WY]
   have:=hP.lU
   have:=hP.a3w j (by omega)
   exact ⟨by omega,by omega⟩
 have hs:sumT (U++V) (U++V).length=T:=by
  rw [XV,List.length_append,PS,hP.yP,hP.lU,hP.lV]
  congr 1
  ·exact Ep fun k hk=>VK (by rw [hP.lU];exact hk)
  ·exact Ep fun k hk=>by
    have:=WY (a:=U) (b:=V) (i:=k)
    rw [hP.lU] at this
    exact this
 have hp:Iu l m U V=(T,0):=by
  rw [zI ⟨hP.lU,hP.lV⟩ a7t (fun k hk=>(hP.a3w k (by have:=hP.lV;omega)).2) (fun i hi k hk=>hP.pot.Xb i k hi hk),hs]
 unfold uw mF
 simp only [ht,hp]
 rw [if_neg (fun h=>h rfl),if_neg (fun h=>h rfl),if_neg (fun h=>h rfl),if_neg]
 rintro (h1|⟨i,h1,h2⟩)
 ·omega
 ·have:=hP.pot.skip i (by have:=hP.lU;omega)
  have:gi U i≤skip:=this
  omega
end Go.Proofs.YtdabojnmoejilaaGreatDoor
namespace Go.Proofs.YtdabojnmoejilaaGreatDoor
open Go Go.Am Go.Vm Go.Tra Go.Hun
attribute [local irreducible] Aa Ag Ar Ae Bz AV CS AO AL Az Vm.Done Df Bj
attribute [local irreducible] DY DL Ji Kz SA Ci
structure ZT (q:Ur):Prop where
 sm1:OZ q.Cm
 sm2:OZ q.tgt
 rg:q.reg.Ok
 err:fQ q=0
 shb:ShB q.Cm q.tgt
theorem KT {q:Ur} (h:fQ q=0):KN q.Cm=0∧P6 q.Cm q.reg=0∧KN q.tgt=0∧Nc q.Ik∧(BN q.Cm q.reg).length≤60∧(Dk q.tgt).length≤120:=by
 unfold fQ at h
 split at h
 ·rename_i h1;exact absurd h h1
 rename_i h1
 split at h
 ·rename_i h2;exact absurd h h2
 rename_i h2
 split at h
 ·rename_i h3;exact absurd h h3
 rename_i h3
 split at h
 ·exact absurd h (by decide)
 rename_i h4
 split at h
 ·exact absurd h (by decide)
 rename_i h5
 exact ⟨Classical.not_not.1 h1,Classical.not_not.1 h2,Classical.not_not.1 h3,Classical.not_not.1 h4,by omega,by omega⟩
theorem ZT.k1 {q:Ur} (h:ZT q):MS q.Cm:=xI h.sm1 (KT h.err).1
theorem ZT.k2 {q:Ur} (h:ZT q):MS q.tgt:=xI h.sm2 (KT h.err).2.2.1
theorem ZT.Ik {q:Ur} (h:ZT q):Nc q.Ik:=(KT h.err).2.2.2.1
theorem ZT.len {q:Ur} (h:ZT q):q.reg.stops.length=q.Cm.Ak.length:=lW (KT h.err).2.1
def Gj (q:Ur):List (List Int):=NK q.Cm q.tgt q.reg q.Ik
def Jf (q:Ur):Nat:=if (BN q.Cm q.reg).length=0 then 0 else (Dk q.tgt).length
theorem RY (q:Ur):(Gj q).length=(BN q.Cm q.reg).length:=by simp [Gj,NK]
theorem Wn (q:Ur) {r k:Nat} (hr:r<(BN q.Cm q.reg).length) (hk:k<(Dk q.tgt).length):gi (gi (Gj q) r) k=IQ q.Cm q.tgt q.Ik (gi (BN q.Cm q.reg) r) (gi (Dk q.tgt) k):=by
 unfold Gj NK
 rw [gi_map' _ hr,gi_map' _ hk]
theorem pO (q:Ur) {r:Nat} (hr:r<(BN q.Cm q.reg).length):(gi (Gj q) r).length=(Dk q.tgt).length:=by
 unfold Gj NK
 rw [gi_map' _ hr,List.length_map]
theorem ZT.UG {q:Ur} (h:ZT q):Qy (Gj q) (Gj q).length (Jf q) q.Ik.miss 101000000:=by
 obtain ⟨_,_,_,hw,h5,h6⟩:=KT h.err
 obtain ⟨_,_,_,w4⟩:=QJ hw
 have hl:=RY q
 refine ⟨⟨rfl,fun r hr=>?_,fun r k hr hk=>?_,⟨w4.1,by omega⟩,by decide⟩,by omega,?_,by decide,fun h0=>?_⟩
 ·rw [pO q (by omega)]
  unfold Jf;rw [if_neg (by omega)]
 ·unfold Jf at hk
  rw [if_neg (by omega)] at hk
  rw [Wn q (by omega) hk]
  exact gI hw h.shb (Yl (jG (by omega))) (Qh hk)
 ·unfold Jf;split<;>omega
 ·unfold Jf;rw [if_pos (by omega)]
theorem XC {l:List (List Int)} {m:Nat} {skip B:Int} (e:TypeId) (h:Qy l l.length m skip B):AV env 45 [.lst e (cells l) l.length,.int .i64 skip] (.ET [.p (.agg (Enc.enc (Zu l m skip))),.p (.int .i64 0)]):=by
 rcases Nat.eq_zero_or_pos l.length with h0|h0
 ·have hm:=h.m0 h0
  have hl:l=[]:=List.length_eq_zero_iff.1 h0
  subst hl;subst hm
  have:=h.UG.skip
  have:=h.B9
  exact XA e (by omega)
 ·exact Zx e h h0
theorem LW {q:Ur} (h:ZT q):AV env 15 [.agg (Enc.enc q)] (.ET [.p (.lst 52 (cells (Gj q)) (Gj q).length),.p (.int .i64 0)]):=by
 have hc:=aY q h.sm1 h.sm2 h.rg
 rw [h.err] at hc
 have hl:=Xq q h.k1 h.k2 h.Ik h.shb h.rg h.len
 rw [show NK q.Cm q.tgt q.reg q.Ik=Gj q from rfl] at hl
 refine AV.enter (AB (by decide)) Tryz.func15 rfl (by kernel_rfl) (by simp [Tryz.ntmps15]) ?_
 repeat' (first|apply Ae.assoc|apply Ae.AA|apply Ae.Aq|apply Ae.ret|apply Ag.nil|apply Ag.one|(apply Aa.fn;rfl;rfl;exact hc;intro _;rfl)|(apply Aa.fn;rfl;rfl;exact hl;intro _;rfl)|(apply Aa.assign;rfl)|(apply Aa.move;rfl)|(apply Aa.int;rfl;rfl;rfl)|(apply Aa.load;rfl;rfl)|(apply Aa.box;rfl;trivial)|(apply Aa.extract;rfl;rfl)|(apply Ae.Au;rfl))
 all_goals first|(exfalso;omega)|contradiction|(refine Done.ret rfl (.refl _) (by first|exact trivial|exact ⟨trivial,trivial,trivial⟩|exact ⟨trivial,trivial,trivial,trivial⟩) Aj.nil (Nat.zero_le _) (Nat.le_refl _) ⟨?_,rfl,rfl⟩;try rfl)
noncomputable def G9 (q:Ur):QI:=Zu (Gj q) (Jf q) q.Ik.miss
theorem L8 {q:Ur} (h:ZT q):AV env 17 [.agg (Enc.enc q)] (.ET [.p (.agg (Enc.enc (G9 q))),.p (.int .i64 0)]):=by
 have hl:=LW h
 have hp:=XC 52 h.UG
 rw [show Zu (Gj q) (Jf q) q.Ik.miss=G9 q from rfl] at hp
 generalize G9 q=b at *
 refine AV.enter (AB (by decide)) Tryz.func17 rfl (by kernel_rfl) (by simp [Tryz.ntmps17]) ?_
 repeat' (first|apply Ae.assoc|apply Ae.AA|apply Ae.Aq|apply Ae.ret|apply Ag.nil|apply Ag.one|(apply Aa.fn;rfl;rfl;exact hl;intro _;rfl)|(apply Aa.fn;rfl;rfl;exact hp;intro _;rfl)|(apply Aa.assign;rfl)|(apply Aa.move;rfl)|(apply Aa.int;rfl;rfl;rfl)|(apply Aa.load;rfl;rfl)|(apply Aa.AQ;rfl;rfl;rfl)|(apply Aa.box;rfl;trivial)|(apply Aa.alloc;rfl)|(apply Aa.Bl;rfl;rfl;rfl;trivial;rfl;rfl;exact Ac rfl;exact le_dec rfl)|(apply Aa.build;rfl;rfl;rfl;rfl;rfl)|(apply Aa.extract;rfl;rfl)|(apply Ae.Au;rfl))
 all_goals first|(exfalso;omega)|contradiction|(refine Done.ret rfl (.refl _) (by first|exact trivial|exact ⟨trivial,trivial,trivial⟩|exact ⟨trivial,trivial,trivial,trivial⟩) Aj.nil (Nat.zero_le _) (Nat.le_refl _) ⟨?_,rfl,rfl⟩;try rfl)
def a9n:List FV:=[.val (.slice none 0 0),.int .i64 0,.val (.slice none 0 0),.val (.slice none 0 0)]
theorem YT {q:Ur} (h:ZT q) (p:QI):AV env 21 [.agg (Enc.enc q),.agg (Enc.enc p)] (.p (.int .i64 (uw (Gj q) (Jf q) q.Ik.miss p))):=by
 have hl:=LW h
 have hp:=aW 52 h.UG p
 refine AV.enter (AB (by decide)) Tryz.func21 rfl (by kernel_rfl) (by simp [Tryz.ntmps21]) ?_
 repeat' (first|apply Ae.assoc|apply Ae.AA|apply Ae.Aq|apply Ae.ret|apply Ag.nil|apply Ag.one|(apply Aa.fn;rfl;rfl;exact hl;intro _;rfl)|(apply Aa.fn;rfl;rfl;exact hp;intro _;rfl)|(apply Aa.assign;rfl)|(apply Aa.move;rfl)|(apply Aa.int;rfl;rfl;rfl)|(apply Aa.load;rfl;rfl)|(apply Aa.AQ;rfl;rfl;rfl)|(apply Aa.box;rfl;trivial)|(apply Aa.build;rfl;rfl;rfl;rfl;rfl)|(apply Aa.extract;rfl;rfl)|(apply Ae.Au;rfl))
 all_goals first|(exfalso;omega)|contradiction|(refine Done.ret rfl (.refl _) (by first|exact trivial|exact ⟨trivial,trivial,trivial⟩|exact ⟨trivial,trivial,trivial,trivial⟩) Aj.nil (Nat.zero_le _) (Nat.le_refl _) ⟨?_,rfl,rfl⟩;try rfl)
end Go.Proofs.YtdabojnmoejilaaGreatDoor
namespace Go.Vm
open Go.Am
section
variable {P:Program}
structure b0i (P:Program) (t e:TypeId):Prop where
 arr:P.underlying t=some (.array 2 e)
 elt:P.underlying e=some (.int .i64)
 agg:FK P e=some false
 sz:(P.info? e).map (·.size)=some 1
def a2V (a b:Int):Value:=.agg #[.int .i64 a,.int .i64 b]
abbrev Y2:=List ((Int×Int)×Int)
def b1j (es:Y2):List (FV×FV):=es.map fun x=>(.agg [.int .i64 x.1.1,.int .i64 x.1.2],.int .i64 x.2)
def rP:Y2→Int→Int→Option Int
 |[],_,_=>none
 |x::es,a,b=>if a=x.1.1∧b=x.1.2 then some x.2 else rP es a b
variable {E:Env} {L:Vm.Frame} {H:Vm.Heap} {nx:Nat} {Q:PV→Vm.Heap→Nat→Prop} {w:Bool} {dst:Option Tmp} {ty:TypeId} {pos:String} {af:Array Edge} {gd:Option (Nat×Bool)}
end
end Go.Vm
namespace Go.Hun
open Go Go.Am Go.Vm
def wF (f:Nat→Y2→Y2) (t:Nat) (es:Y2):Nat→Y2
 |0=>es
 |k+1=>if t.testBit k then wF f t es k else f (t ||| 2 ^ k) (wF f t es k)
def sW (l:List (List Int)) (skip:Int) (m n:Nat):Nat→Nat→Y2→Y2
 |0,_,es=>es
 |r+1,t,es=>if (rP es ((n-(r+1):Nat):Int) (t:Int)).isSome then es else
   wF (sW l skip m n r) t (sW l skip m n r t es) m++[((((n-(r+1):Nat):Int),(t:Int)),YZ l skip m n (r+1) t)]
def a9y (l:List (List Int)) (skip:Int) (m n:Nat) (es:Y2):Prop :=
 ∀ (r t:Nat) v,r≤n→rP es ((n-r:Nat):Int) (t:Int)=some v→v=YZ l skip m n r t
def qH (cols:List Int):Nat→Nat
 |0=>0
 |k+1=>if gi cols k<0 then qH cols k else qH cols k ||| 2 ^ (gi cols k).toNat
end Go.Hun
namespace Go.Tra
open Go Go.Am Go.Vm Go.Hun
def upI (P:Nat→Bool) (n:Nat):Nat→Int
 |0=>-1
 |r+1=>if P (n-(r+1))=true then ((n-(r+1):Nat):Int) else upI P n r
def a7q (P:Nat→Bool) (n:Nat):Int:=upI P n n
theorem V7 (ns:List Nat):∀ n,(Mc ns n).Nodup
 |0=>List.nodup_nil
 |n+1=>by
  have e0:Mc ns (n+1)=Mc ns n++(List.range (gi ns n)).map fun s=>⟨n,s⟩:=rfl
  rw [e0,List.nodup_append]
  refine ⟨V7 ns n,?_,fun a ha b hb he=>?_⟩
  ·refine List.Pairwise.map _ (fun a b hab he=>hab ?_) List.nodup_range
   injection he
  ·subst he
   have h1:=WB ha
   obtain ⟨s,_,rfl⟩:=List.mem_map.1 hb
   have:n<n:=h1.1
   omega
theorem sF {α:Type} [Inhabited α] {l:List α} (h:l.Nodup) {i j:Nat} (hi:i<l.length) (hj:j<l.length) (e:gi l i=gi l j):i=j:=by
 unfold gi at e
 rw [List.getElem?_eq_getElem hi,List.getElem?_eq_getElem hj] at e
 exact (List.getElem_inj h).1 e
def a1g (all:List OL) (l:List Int) (n:Nat):Nat→List Nat
 |0=>List.replicate n 0
 |k+1=>if gi l k<0 then a1g all l n k else (a1g all l n k).set (gi all (gi l k).toNat).d (gi (a1g all l n k) (gi all (gi l k).toNat).d ||| 2 ^ (gi all (gi l k).toNat).s)
def a7n (l:List Int) (m n:Nat):Nat→Int
 |0=>0
 |r+1=>if gi l (n-(r+1))< -1∨gi l (n-(r+1))≥m then 3 else if 0≤gi l (n-(r+1))∧gi l (n-(r+1))∈l.take (n-(r+1)) then 9 else a7n l m n r
theorem a1w {l:List (List Int)} {n m:Nat} {skip B:Int} {cols U V:List Int} {total:Int} (h:a5f l n m skip B cols U V total) {c:Nat→Int} (hc:WH n m c):total≤Dv (Vz l skip c) n:=by
 rw [h.yP]
 exact weak h.pot hc
end Go.Tra
namespace Go.Proofs.YtdabojnmoejilaaGreatDoor
open Go Go.Am Go.Vm Go.Tra
attribute [local irreducible] Aa Ag Ar Ae Bz AV CS AO AL Az Vm.Done Df Bj
attribute [local irreducible] DY DL Ji Kz SA Ci
def b1n (o:Fh) (d s:Nat):List OL:=Mc (ZP o) d++(List.range s).map fun i=>⟨d,i⟩
def a6j (o:Fh) (rg:Rgs) (k:Nat):List OL:=((Dk o).take k).filter (Ja rg)
def shg (F T:Fh) (a b:OL):Int:=(Ci (FI F a).Dt (FI T b).Dt).1
def ShS (F T:Fh):Prop:=∀ a b,Gl F a→Gl T b→-1000≤shg F T a b∧shg F T a b≤1000∧max (shg F T a b) (-shg F T a b)=max (qo F T a b) (-qo F T a b)
end Go.Proofs.YtdabojnmoejilaaGreatDoor
namespace Go.Proofs.YtdabojnmoejilaaGreatDoor
open Go Go.Am Go.Vm
attribute [local irreducible] Aa Ag Ar Ae Bz AV CS AO AL Az Vm.Done Df Bj
def a9o (o:Fh):Rgs:=⟨List.replicate o.Ak.length 0,0,0⟩
def a3k (o:Fh) (k:Nat):Nat:=2 ^ (gi o.Ak k).stops.length-1
def a8r (o:Fh):Rgs:=⟨a2u (a3k o) (List.replicate o.Ak.length 0) o.Ak.length,2 ^ o.FX.length-1,0⟩
def a9q (r:Rgs) (d s:Nat):Rgs:=⟨r.stops.set d (gi r.stops d ||| 2 ^ s),r.cp,r.off⟩
def a2m (a b:Rgs) (k:Nat):Nat:=gi a.stops k ||| gi b.stops k
def a7b (a b:Rgs):Rgs:=⟨a2u (a2m a b) a.stops a.stops.length,a.cp ||| b.cp,a.off ||| b.off⟩
end Go.Proofs.YtdabojnmoejilaaGreatDoor
namespace Go.Proofs.YtdabojnmoejilaaGreatDoor
open Go Go.Am Go.Vm
attribute [local irreducible] Aa Ag Ar Ae Bz AV CS AO AL Az Vm.Done Df Bj
theorem Va (x n:Nat):(x &&& (2 ^ n-1)) / 2 ^ n=0:=by
 have h1:x &&& (2 ^ n-1)≤2 ^ n-1:=Nat.and_le_right
 have h2:0<2 ^ n:=Nat.two_pow_pos n
 exact Nat.div_eq_of_lt (by omega)
theorem oO (o:Fh) (ho:Rz o) (b:Nat→Nat) (hb:∀ i,b i<256):(Ru o b).Ok:=by
 have r2:=ho.Ak
 have l:=Jt (Gm o b) o.Ak.length
 refine ⟨fun i hi=>?_,?_,?_,?_⟩
 ·have hi:i<(Gy (Gm o b) o.Ak.length).length:=hi
  rw [l] at hi
  show gi (Gy (Gm o b) o.Ak.length) i<_
  rw [dG _ hi]
  have:=hb (i % 3)
  have:Gm o b i≤b (i % 3):=Nat.and_le_left
  omega
 ·have:=hb 3
  have:b 3 &&& (2 ^ o.FX.length-1)≤b 3:=Nat.and_le_left
  show b 3 &&& (2 ^ o.FX.length-1)<_
  omega
 ·have:=hb 4
  have:b 4 &&& (2 ^ o.Ak.length-1)≤b 4:=Nat.and_le_left
  show b 4 &&& (2 ^ o.Ak.length-1)<_
  omega
 ·show (Gy (Gm o b) o.Ak.length).length<_
  omega
theorem iC (o:Fh) (b:Nat→Nat):P6 o (Ru o b)=0:=by
 have l:=Jt (Gm o b) o.Ak.length
 rw [S9 (show (Gy (Gm o b) o.Ak.length).length=_ from l) fun i hi=>?_]
 ·rw [if_neg]
  intro h
  rcases h with h|h
  ·exact h (Va _ _)
  ·exact h (Va _ _)
 ·have hi:i<(Gy (Gm o b) o.Ak.length).length:=hi
  rw [l] at hi
  show gi (Gy (Gm o b) o.Ak.length) i / _=0
  rw [dG _ hi]
  exact Va _ _
def b1f (i:Nat):Nat:=if i=4 then 0 else 255
end Go.Proofs.YtdabojnmoejilaaGreatDoor
namespace Go.Proofs.YtdabojnmoejilaaGreatDoor
open Go Go.Am Go.Vm Go.Tra Go.Hun
attribute [local irreducible] Aa Ag Ar Ae Bz AV CS AO AL Az Vm.Done Df Bj
structure lX where
 Cm:Xy
 tgt:Xy
 bits:Nat→Nat
 w:Nat→Nat
def lX.enc (x:lX):List FV:=[.lst 150 (cells x.Cm.ranks) x.Cm.ranks.length,.lst 75 (cells x.Cm.Ak) x.Cm.Ak.length,.lst 153 (cells x.Cm.links) x.Cm.links.length,
 .lst 150 (cells x.tgt.ranks) x.tgt.ranks.length,.lst 75 (cells x.tgt.Ak) x.tgt.Ak.length,.lst 153 (cells x.tgt.links) x.tgt.links.length,
 .int .u8 (x.bits 0:Int),.int .u8 (x.bits 1:Int),.int .u8 (x.bits 2:Int),.int .u8 (x.bits 3:Int),.int .u8 (x.bits 4:Int),.int .u8 (x.w 0:Int),.int .u8 (x.w 1:Int),.int .u8 (x.w 2:Int),.int .u8 (x.w 3:Int)]
structure lX.Ok (x:lX):Prop where
 Cm:x.Cm.Ok
 tgt:x.tgt.Ok
 bits:∀ i,x.bits i<256
 w:∀ i,x.w i<256
def QZ (x:lX):Prop:=Na x.Cm∧Na x.tgt
noncomputable instance (x:lX):Decidable (QZ x):=Classical.propDecidable _
theorem jI (x:lX) (hx:x.Ok):AV env 13 [.agg x.enc] (.p (.bool (decide (QZ x)))):=by
 have h1:=XL x.Cm hx.Cm
 have h2:=XL x.tgt hx.tgt
 refine AV.enter (AB (by decide)) Tryz.func13 rfl (by kernel_rfl) (by simp [Tryz.ntmps13]) ?_
 by_cases c1:Na x.Cm
 ·rw [decide_eq_true c1] at h1
  by_cases c2:Na x.tgt
  ·rw [decide_eq_true c2] at h2
   rw [decide_eq_true (p:=QZ x) ⟨c1,c2⟩]
   repeat' (first|apply Ae.AA|apply Ae.ret|apply Ag.nil|apply Ag.one|(apply Ag.take;rfl;rfl)|(apply Aa.fn;rfl;rfl;exact h1;intro _;rfl)|(apply Aa.fn;rfl;rfl;exact h2;intro _;rfl)|(apply Aa.assign;rfl)|(apply Aa.move;rfl)|(apply Aa.load;rfl;rfl)|(apply Aa.BA;rfl;rfl)|(apply Aa.AQ;rfl;rfl;rfl)|(apply Aa.box;rfl;trivial))
   all_goals first|(exfalso;omega)|contradiction|(refine Done.ret rfl (.refl _) (by first|exact trivial|exact ⟨trivial,trivial,trivial⟩|exact ⟨trivial,trivial,trivial,trivial⟩) Aj.nil (Nat.zero_le _) (Nat.le_refl _) ⟨?_,rfl,rfl⟩;try rfl)
  ·rw [decide_eq_false c2] at h2
   rw [decide_eq_false (p:=QZ x) (fun h=>c2 h.2)]
   repeat' (first|apply Ae.AA|apply Ae.ret|apply Ag.nil|apply Ag.one|(apply Ag.take;rfl;rfl)|(apply Aa.fn;rfl;rfl;exact h1;intro _;rfl)|(apply Aa.fn;rfl;rfl;exact h2;intro _;rfl)|(apply Aa.assign;rfl)|(apply Aa.move;rfl)|(apply Aa.load;rfl;rfl)|(apply Aa.BA;rfl;rfl)|(apply Aa.AQ;rfl;rfl;rfl)|(apply Aa.box;rfl;trivial))
   all_goals first|(exfalso;omega)|contradiction|(refine Done.ret rfl (.refl _) (by first|exact trivial|exact ⟨trivial,trivial,trivial⟩|exact ⟨trivial,trivial,trivial,trivial⟩) Aj.nil (Nat.zero_le _) (Nat.le_refl _) ⟨?_,rfl,rfl⟩;try rfl)
 ·rw [decide_eq_false c1] at h1
  rw [decide_eq_false (p:=QZ x) (fun h=>c1 h.1)]
  repeat' (first|apply Ae.AA|apply Ae.ret|apply Ag.nil|apply Ag.one|(apply Ag.drop;rfl;rfl;rfl)|(apply Aa.fn;rfl;rfl;exact h1;intro _;rfl)|(apply Aa.assign;rfl)|(apply Aa.move;rfl)|(apply Aa.load;rfl;rfl)|(apply Aa.AP;rfl;rfl)|(apply Aa.AQ;rfl;rfl;rfl)|(apply Aa.box;rfl;trivial))
  all_goals first|(exfalso;omega)|contradiction|(refine Done.ret rfl (.refl _) (by first|exact trivial|exact ⟨trivial,trivial,trivial⟩|exact ⟨trivial,trivial,trivial,trivial⟩) Aj.nil (Nat.zero_le _) (Nat.le_refl _) ⟨?_,rfl,rfl⟩;try rfl)
def mkW (w:Nat→Nat):Yi:=⟨((w 0 % 32:Nat):Int),((w 1 % 8:Nat):Int),((w 2 % 32:Nat):Int),((w 3 % 64:Nat):Int)⟩
noncomputable def yw (x:lX):Ur:=⟨MV x.Cm,Ru (MV x.Cm) x.bits,MV x.tgt,mkW x.w⟩
theorem WI (x:lX) (hx:x.Ok) (hf:QZ x):AV env 14 [.agg x.enc] (.p (.agg (Enc.enc (yw x)))):=by
 have h1:=Ul x.Cm hx.Cm hf.1
 have h2:=Ul x.tgt hx.tgt hf.2
 have h3:=gq (MV x.Cm) (kF x.Cm hx.Cm hf.1) x.bits hx.bits
 have w0:=hx.w 0
 have w1:=hx.w 1
 have w2:=hx.w 2
 have w3:=hx.w 3
 obtain ⟨a0,e0⟩:∃ a,a=x.w 0 % 32:=⟨_,rfl⟩
 obtain ⟨a1,e1⟩:∃ a,a=x.w 1 % 8:=⟨_,rfl⟩
 obtain ⟨a2,e2⟩:∃ a,a=x.w 2 % 32:=⟨_,rfl⟩
 obtain ⟨a3,e3⟩:∃ a,a=x.w 3 % 64:=⟨_,rfl⟩
 have eQ:yw x=⟨MV x.Cm,Ru (MV x.Cm) x.bits,MV x.tgt,⟨(a0:Int),(a1:Int),(a2:Int),(a3:Int)⟩⟩:=by rw [e0,e1,e2,e3];rfl
 have v0:EO .rem .u8 (x.w 0:Int) 32=some (.int .u8 (a0:Int)):=by rw [e0];rfl
 have v1:EO .rem .u8 (x.w 1:Int) 8=some (.int .u8 (a1:Int)):=by rw [e1];rfl
 have v2:EO .rem .u8 (x.w 2:Int) 32=some (.int .u8 (a2:Int)):=by rw [e2];rfl
 have v3:EO .rem .u8 (x.w 3:Int) 64=some (.int .u8 (a3:Int)):=by rw [e3];rfl
 have a0b:a0<256:=by omega
 have a1b:a1<256:=by omega
 have a2b:a2<256:=by omega
 have a3b:a3<256:=by omega
 rw [eQ]
 clear eQ e0 e1 e2 e3
 generalize Ru (MV x.Cm) x.bits=r at *
 generalize MV x.Cm=F at *
 generalize MV x.tgt=T at *
 refine AV.enter (AB (by decide)) Tryz.func14 rfl (by kernel_rfl) (by simp [Tryz.ntmps14]) ?_
 repeat' (first|apply Ae.AA|apply Ae.BM|apply Ae.ret|apply Ag.nil|apply Ar.nil|apply Ag.one|(apply Ar.bar;decide +kernel)|apply Ar.quiet|(apply Aa.fn;rfl;rfl;exact h1;intro _;rfl)|(apply Aa.fn;rfl;rfl;exact h2;intro _;rfl)|(apply Aa.fn;rfl;rfl;exact h3;intro _;rfl)|(apply Aa.UQ;rfl;rfl;rfl;rfl;rfl;decide)|(apply Aa.int;rfl;rfl;exact v0)|(apply Aa.int;rfl;rfl;exact v1)|(apply Aa.int;rfl;rfl;exact v2)|(apply Aa.int;rfl;rfl;exact v3)|(apply Aa.load;rfl;rfl)|(apply Aa.AQ;rfl;rfl;rfl)|(apply Aa.box;rfl;trivial)|(apply Aa.alloc;rfl)|(apply Aa.Bl;rfl;rfl;rfl;trivial;rfl;rfl;exact Ac rfl;exact le_dec rfl)|(apply Aa.build;rfl;rfl;rfl;rfl;rfl)|(apply Aa.Ih;rfl;rfl;rfl;rfl;omega))
 all_goals first|(exfalso;omega)|(refine Done.ret rfl (.refl _) (by first|exact trivial|exact ⟨trivial,trivial,trivial⟩|exact ⟨trivial,trivial,trivial,trivial⟩) Aj.nil (Nat.zero_le _) (Nat.le_refl _) ⟨?_,rfl,rfl⟩;try rfl)
theorem a0y {w:Nat→Nat}:Nc (mkW w):=fun i hi=>by
 match i,hi with
 |0,_=>show (0:Int)≤((w 0 % 32:Nat):Int)∧((w 0 % 32:Nat):Int)≤100000;omega
 |1,_=>show (0:Int)≤((w 1 % 8:Nat):Int)∧((w 1 % 8:Nat):Int)≤100000;omega
 |2,_=>show (0:Int)≤((w 2 % 32:Nat):Int)∧((w 2 % 32:Nat):Int)≤100000;omega
 |3,_=>show (0:Int)≤((w 3 % 64:Nat):Int)∧((w 3 % 64:Nat):Int)≤100000;omega
theorem Rz.zB {o:Fh} (h:Rz o):(Dk o).length≤9:=by
 have h1:=Pn (ns:=ZP o) (K:=3) (fun d hd=>by rw [Oq] at hd;rw [Ze o hd];exact h.stops d hd) (ZP o).length (Nat.le_refl _)
 rw [ZY]
 have:=h.Ak
 rw [Oq] at h1 ⊢
 omega
theorem nJ (o:Fh) (r:Rgs):(BN o r).length≤(Dk o).length:=List.length_filter_le _ _
theorem xQ:∀ a,a<6→∀ b,b<6→(Ci (gi ER a) (gi ER b)).2=0∧-1000≤(Ci (gi ER a) (gi ER b)).1∧(Ci (gi ER a) (gi ER b)).1≤1000 ∧
 max (Ci (gi ER a) (gi ER b)).1 (-(Ci (gi ER a) (gi ER b)).1)=max (Ci (gi ER b) (gi ER a)).1 (-(Ci (gi ER b) (gi ER a)).1)∧(a=b→(Ci (gi ER a) (gi ER b)).1=0):=by decide +kernel
theorem Rz.Dt {o:Fh} (h:Rz o) {p:OL} (hp:Gl o p):∃ a,a<6∧(FI o p).Dt=gi ER a:=(h.st p.d hp.1 p.s hp.2).2.2
theorem a3e {F T:Fh} (hF:Rz F) (hT:Rz T):ShB F T:=fun a b ha hb=>by
 obtain ⟨i,hi,ei⟩:=hF.Dt ha
 obtain ⟨j,hj,ej⟩:=hT.Dt hb
 have:=xQ j hj i hi
 unfold qo
 rw [ei,ej]
 exact ⟨this.1,this.2.1,this.2.2.1⟩
theorem a3y {F T:Fh} {r:Rgs} {w:Nat→Nat} (hF:Rz F) (hT:Rz T) (hr:r.Ok) (he:P6 F r=0):ZT ⟨F,r,T,mkW w⟩:=by
 have h1:=hF.zB
 have h2:=hT.zB
 have h3:=nJ F r
 refine ⟨hF.sm,hT.sm,hr,?_,a3e hF hT⟩
 unfold fQ
 rw [if_neg (fun h=>h hF.ok),if_neg (fun h=>h he),if_neg (fun h=>h hT.ok),if_neg (fun h=>h a0y),if_neg (by show ¬ ((BN F r).length>60∨(Dk T).length>120);omega)]
theorem rJ (x:lX) (hx:x.Ok) (hf:QZ x):ZT (yw x):=a3y (kF x.Cm hx.Cm hf.1) (kF x.tgt hx.tgt hf.2) (oO _ (kF x.Cm hx.Cm hf.1) _ hx.bits) (iC _ _)
end Go.Proofs.YtdabojnmoejilaaGreatDoor
namespace Go.Proofs.YtdabojnmoejilaaGreatDoor
open Go Go.Am Go.Vm Go.Tra Go.Hun
theorem gU (o:Fh):(Dk o).Nodup:=V7 _ _
theorem a0t {α:Type} [Inhabited α] {l:List α} {x:α} (h:x∈l):∃ k,k<l.length∧gi l k=x:=by
 obtain ⟨k,hk,e⟩:=List.getElem_of_mem h
 exact ⟨k,hk,by unfold gi;rw [List.getElem?_eq_getElem hk];exact e⟩
end Go.Proofs.YtdabojnmoejilaaGreatDoor
namespace Go.Proofs.YtdabojnmoejilaaGreatDoor
open Go Go.Am Go.Vm Go.Tra Go.Hun
theorem kQ {ns:List Nat} {p:OL}:∀ n,p.d<n→p.s<gi ns p.d→p∈Mc ns n
 |0,h,_=>by omega
 |n+1,h1,h2=>by
  have e0:Mc ns (n+1)=Mc ns n++(List.range (gi ns n)).map fun s=>⟨n,s⟩:=rfl
  rw [e0,List.mem_append]
  by_cases e:p.d=n
  ·right
   refine List.mem_map.2 ⟨p.s,List.mem_range.2 (by rw [← e];exact h2),?_⟩
   cases p
   simp only at e ⊢
   rw [e]
  ·exact .inl (kQ n (by omega) h2)
theorem yF {o:Fh} {p:OL} (h:Gl o p):p∈Dk o:=kQ _ (by rw [Oq];exact h.1) (by rw [Ze o h.1];exact h.2)
theorem xM {F T T':Fh} {r:Rgs} {w:Yi} (hq:ZT ⟨F,r,T,w⟩) (hq':ZT ⟨F,r,T',w⟩) (h:∀ p,Gl T p→Gl T' p∧∀ a,IQ F T' w a p=IQ F T w a p) :
 (G9 ⟨F,r,T',w⟩).total≤(G9 ⟨F,r,T,w⟩).total:=by
 have hP:=YS hq.UG.UG
 have hP':=YS hq'.UG.UG
 have hl:(Gj ⟨F,r,T,w⟩).length=(BN F r).length:=RY ⟨F,r,T,w⟩
 have hl':(Gj ⟨F,r,T',w⟩).length=(BN F r).length:=RY ⟨F,r,T',w⟩
 have hex:∀ i,∃ k,i<(Dk T).length→k<(Dk T').length∧gi (Dk T') k=gi (Dk T) i:=fun i=>by
  by_cases hi:i<(Dk T).length
  ·obtain ⟨k,h1,h2⟩:=a0t (yF (h _ (Qh hi)).1)
   exact ⟨k,fun _=>⟨h1,h2⟩⟩
  ·exact ⟨0,fun h=>absurd h hi⟩
 obtain ⟨κ,hκ⟩:=Classical.axiomOfChoice hex
 obtain ⟨c,hc⟩:∃ c:Nat→Int,c=fun i=>gi (G9 ⟨F,r,T,w⟩).cols i:=⟨_,rfl⟩
 have hpt:WH (Gj ⟨F,r,T,w⟩).length (Jf ⟨F,r,T,w⟩) c:=by rw [hc];exact hP.part
 have htot:(G9 ⟨F,r,T,w⟩).total=Dv (Vz (Gj ⟨F,r,T,w⟩) w.miss c) (Gj ⟨F,r,T,w⟩).length:=by rw [hc];exact hP.tot
 have hcols:∀ i,i<(BN F r).length→Jf ⟨F,r,T,w⟩=(Dk T).length:=fun i hi=>by unfold Jf;rw [if_neg (by show ¬ (BN F r).length=0;omega)]
 have hcols':∀ i,i<(BN F r).length→Jf ⟨F,r,T',w⟩=(Dk T').length:=fun i hi=>by unfold Jf;rw [if_neg (by show ¬ (BN F r).length=0;omega)]
 have hk:∀ i,i<(BN F r).length→0≤c i→(c i).toNat<(Dk T).length:=fun i hi h0=>by
  have h1:=(hpt.rng i (by omega)).2
  rw [hcols i hi] at h1
  omega
 have hc':WH (Gj ⟨F,r,T',w⟩).length (Jf ⟨F,r,T',w⟩) fun i=>if c i<0 then -1 else (κ (c i).toNat:Int):=by
  refine ⟨fun i hi=>?_,fun i j hi hj h0 e=>?_⟩
  ·rw [hl'] at hi
   rw [hcols' i hi]
   show -1≤(if c i<0 then -1 else (κ (c i).toNat:Int))∧(if c i<0 then -1 else (κ (c i).toNat:Int))<_
   split
   ·omega
   ·have:=(hκ _ (hk i hi (by omega))).1
    omega
  ·rw [hl'] at hi hj
   have h0:0≤(if c i<0 then -1 else (κ (c i).toNat:Int)):=h0
   have e:(if c i<0 then -1 else (κ (c i).toNat:Int))=(if c j<0 then -1 else (κ (c j).toNat:Int)):=e
   by_cases h1:c i<0
   ·rw [if_pos h1] at h0;omega
   rw [if_neg h1] at h0 e
   by_cases h2:c j<0
   ·rw [if_pos h2] at e;omega
   rw [if_neg h2] at e
   have e':κ (c i).toNat=κ (c j).toNat:=by omega
   have k1:=(hκ _ (hk i hi (by omega))).2
   have k2:=(hκ _ (hk j hj (by omega))).2
   rw [e'] at k1
   have:=sF (gU T) (hk i hi (by omega)) (hk j hj (by omega)) (k1.symm.trans k2)
   exact hpt.inj i j (by omega) (by omega) (by omega) (by omega)
 have h1:=a1w hP' hc'
 refine Int.le_trans h1 (Int.le_of_eq ?_)
 rw [htot,hl,hl']
 refine Ep fun i hi=>?_
 unfold Vz
 simp only
 by_cases h2:c i<0
 ·rw [if_pos (by rw [if_pos h2];omega),if_pos h2]
 ·have h3:=hk i hi (by omega)
  obtain ⟨h4,h5⟩:=hκ _ h3
  rw [if_neg h2,if_neg (by omega),if_neg h2,Int.toNat_natCast,Wn ⟨F,r,T',w⟩ hi h4,Wn ⟨F,r,T,w⟩ hi h3]
  show IQ F T' w _ (gi (Dk T') (κ (c i).toNat))=IQ F T w _ (gi (Dk T) (c i).toNat)
  rw [h5]
  exact (h _ (Qh h3)).2 _
def DW (x:Xy) (k:Nat) (p:Xk):Xy:={ x with Ak:=x.Ak.set k { gi x.Ak k with stops:=(gi x.Ak k).stops++[p] } }
theorem Wx (x:Xy) {k:Nat} (hk:k<x.Ak.length) (p:Xk) (i:Nat):gi (DW x k p).Ak i=if i=k then { gi x.Ak k with stops:=(gi x.Ak k).stops++[p] } else gi x.Ak i:=by
 unfold DW
 simp only
 rw [Rn]
 by_cases e:i=k
 ·rw [if_pos ⟨e.symm,by omega⟩,if_pos e]
 ·rw [if_neg (fun h=>e h.1.symm),if_neg e]
theorem MG (x:Xy) (k:Nat) (p:Xk):(DW x k p).Ak.length=x.Ak.length:=by simp [DW]
theorem a0v {x:Xy} (hx:x.Ok) {k:Nat} (hk:k<x.Ak.length) {p:Xk} (hp:p.Ok) (hs:(gi x.Ak k).stops.length≤2):(DW x k p).Ok:=by
 refine ⟨hx.ranks,fun i hi=>?_,hx.links,hx.nr,by rw [MG];exact hx.nd,hx.nl⟩
 rw [MG] at hi
 rw [Wx x hk]
 split
 ·have h1:=hx.Ak k hk
  refine ⟨h1.low,h1.keys,by simp only [List.length_append,List.length_cons,List.length_nil];omega,fun j hj=>?_⟩
  simp only [List.length_append,List.length_cons,List.length_nil] at hj
  rw [Ol]
  split
  ·rename_i h2;exact h1.all j h2
  ·rw [if_pos (by omega)];exact hp
 ·exact hx.Ak i hi
theorem qZ {x:Xy} (hf:Na x) {k:Nat} (hk:k<x.Ak.length) (p:Xk) (hs:(gi x.Ak k).stops.length≤2):Na (DW x k p):=by
 obtain ⟨h1,h2,h3,h4⟩:=hf
 refine ⟨h1,by rw [MG];exact h2,h3,fun i hi=>?_⟩
 rw [MG] at hi
 rw [Wx x hk]
 split
 ·simp only [List.length_append,List.length_cons,List.length_nil];omega
 ·exact h4 i hi
theorem a0m {x:Xy} {k:Nat} (hk:k<x.Ak.length) (p:Xk) {d:Nat} (hd:d<x.Ak.length):(gi (MV (DW x k p)).Ak d).D8=(gi (MV x).Ak d).D8 ∧
 (gi (MV x).Ak d).stops.length≤(gi (MV (DW x k p)).Ak d).stops.length∧∀ s,s<(gi (MV x).Ak d).stops.length→gi (gi (MV (DW x k p)).Ak d).stops s=gi (gi (MV x).Ak d).stops s:=by
 unfold MV
 simp only [MG]
 rw [Q9 _ _ _ d hd,Q9 _ _ _ d hd,Wx x hk]
 show (Vt (Ec x.ranks x.ranks.length) _ d).D8=_∧_
 by_cases e:d=k
 ·subst e
  rw [if_pos rfl]
  refine ⟨rfl,?_,fun s hs=>?_⟩
  ·simp only [Vt,EZ,List.length_append,List.length_cons,List.length_nil];omega
  ·simp only [Vt,EZ] at hs
   show gi (E5 _ _ _ ((gi x.Ak d).stops++[p]) ((gi x.Ak d).stops++[p]).length) s=gi (E5 _ _ _ (gi x.Ak d).stops (gi x.Ak d).stops.length) s
   rw [Oh _ _ _ _ _ s (by simp only [List.length_append,List.length_cons,List.length_nil];omega),Oh _ _ _ _ _ s hs,Ol,if_pos hs]
   rfl
 ·rw [if_neg e]
  exact ⟨rfl,Nat.le_refl _,fun _ _=>rfl⟩
theorem qW {x:Xy} {k:Nat} (hk:k<x.Ak.length) (p:Xk) (F:Fh) (w:Yi) {q:OL} (hq:Gl (MV x) q):Gl (MV (DW x k p)) q∧∀ a,IQ F (MV (DW x k p)) w a q=IQ F (MV x) w a q:=by
 have hl:(MV x).Ak.length=x.Ak.length:=IE _ _ _
 have hl':(MV (DW x k p)).Ak.length=x.Ak.length:=by show (FW _ _ _).length=_;rw [IE,MG]
 obtain ⟨h1,h2⟩:=hq
 obtain ⟨g1,g2,g3⟩:=a0m hk p (d:=q.d) (by omega)
 refine ⟨⟨by omega,by omega⟩,fun a=>?_⟩
 have e:FI (MV (DW x k p)) q=FI (MV x) q:=g3 q.s h2
 unfold IQ Ve qo
 rw [e,g1]
 rfl
end Go.Proofs.YtdabojnmoejilaaGreatDoor
namespace Go.Proofs.YtdabojnmoejilaaGreatDoor
open Go Go.Am Go.Vm Go.Tra
attribute [local irreducible] Aa Ag Ar Ae Bz AV CS AO AL Az Vm.Done Df Bj Y0
def fG (i:Nat) (f:Int):Stp:=⟨[82,UInt8.ofNat (48+i)],⟨f,1⟩,[⟨36,38,[⟨(i:Int),0⟩]⟩]⟩
def YU (i:Nat) (t:List UInt8) (f:Int):FH:=⟨[82,UInt8.ofNat (48+i)],t,⟨f,1⟩,36,[1,1,1]⟩
def Vy (ss:List Stp):Yh:=⟨[71,114,101,97,116],false,36,38,ss⟩
structure Tn where
 t:List UInt8
instance:Enc Tn:={ default:=⟨[]⟩,enc:=fun x=>[.str (bs x.t)],size:=1,len:=fun _=>rfl }
def EG (fs:List Int) (k:Nat):List Stp:=(List.range k).map fun i=>fG i (gi fs i)
def FD (ts:List Tn) (fs:List Int) (k:Nat):List FH:=(List.range k).map fun i=>YU i (gi ts i).t (gi fs i)
theorem jm (fs:List Int) (k:Nat):EG fs (k+1)=EG fs k++[fG k (gi fs k)]:=by simp [EG,List.range_succ]
theorem iU (ts:List Tn) (fs:List Int) (k:Nat):FD ts fs (k+1)=FD ts fs k++[YU k (gi ts k).t (gi fs k)]:=by simp [FD,List.range_succ]
theorem SX (fs:List Int) (k:Nat):(EG fs k).length=k:=by simp [EG]
theorem Ro (ts:List Tn) (fs:List Int) (k:Nat):(FD ts fs k).length=k:=by simp [FD]
def JV (ts:List Tn) (fs:List Int):Fh:=⟨[79],FD ts fs ts.length,[Vy (EG fs ts.length)],[]⟩
theorem Uh (ts:List Tn) (fs:List Int) (hl:ts.length=fs.length) (h9:ts.length≤9):AV env 23 [.lst 9 (cells ts) ts.length,.lst 3 (cells fs) fs.length] (.p (.agg (Enc.enc (JV ts fs)))):=by
 refine AV.enter (AB (by decide)) Tryz.func23 rfl (by kernel_rfl) (by simp [Tryz.ntmps23]) ?_
 repeat' (first|apply Ae.assoc|apply Ae.AA|apply Ae.Ai|apply Ag.nil|apply Ag.one|(apply Aa.assign;rfl)|(apply Aa.alloc;rfl)|(apply Aa.Bl;rfl;rfl;rfl;trivial;rfl;rfl;exact Ac rfl;exact le_dec rfl)|(apply Aa.build;rfl;rfl;rfl;rfl;rfl)|(apply Aa.buildSlice;rfl;rfl;rfl;decide;rfl;rfl;rfl))
 all_goals try (exfalso;omega)
 refine Ae.ghost ((((Bc.xE 1 rfl (by decide)).trans (Bc.iF 1 4 122 rfl rfl)).trans (Bc.Ew 2 1 131 rfl rfl))) ?_
 apply Ae.Hq (ts.length) [(0,_),(1,_),(4,_),(5,_)] [(0,_)] (fun k r=>(6,.p (.int .i64 (k:Int)))::r) (fun k r=>(1,.EX 97 [.p (.str (bs [71,114,101,97,116])),.p (.bool false),.p (.int .i64 36),.p (.int .i64 38),.vec 3 (EG fs k).length 0 (EG fs k).length] 1)::(2,.box 37 [.p (.str (bs [79])),.vec 4 (FD ts fs k).length 0 (FD ts fs k).length,.vec 1 1 0 1,.p (.val (.slice none 0 0))])::(3,.vec 122 (cells (EG fs k)) (EG fs k).length true)::(4,.vec 131 (cells (FD ts fs k)) (FD ts fs k).length true)::r) 5
 ·first|omega|decide
 ·first|omega|decide
 ·repeat (first|exact Ad.nil|(refine Ad.eq rfl ?_ ?_;(first|exact PV.Ap rfl|(simp [PV.under,AU.under];done)))|refine Ad.cons trivial rfl (.of_eq (Aw (by simp<;>omega))) ?_)
 ·repeat (first|exact Aj.nil|(refine Aj.eq rfl (Ac rfl) ?_ ?_;(first|exact HB.Ap rfl|exact AU.Ah _ _|(simp [HB.under,AU.under,PV.under];done)))|(refine Aj.cons (Ac rfl) ?_ rfl ?_ ?_;(first|exact trivial|exact AU.Ah _ _|(simp [HB.under,AU.under,PV.under]));(first|exact Bo.refl _|exact Bo.vec (Bh.refl _) (by simp))))
 ·intro k hk
  have a1:=jm fs k
  have a2:=iU ts fs k
  have a3:(EG fs (k+1)).length=(EG fs k).length+1:=by rw [a1];simp
  have a4:(FD ts fs (k+1)).length=(FD ts fs k).length+1:=by rw [a2];simp
  have a5:=SX fs k
  have a6:=Ro ts fs k
  repeat' (first|(refine Ar.atIdx 9 ?_;refine Ar.ghost (Bc.freeze 37 rfl rfl) ?_)|(refine Ar.atIdx 12 ?_;refine Ar.ghost (Bc.freeze 53 rfl rfl) ?_)|(refine Ar.atIdx 14 ?_;refine Ar.ghost (Bc.freeze 55 rfl rfl) ?_)|(refine Ar.atIdx 16 ?_;apply Ar.weak [.tmp 42];decide +kernel;rfl;rfl;(first|exact Qk.ref rfl|exact Qk.vec rfl|exact Qk.DU rfl);decide +kernel;rfl)|apply Ae.assoc|apply Ae.AA|apply Ae.BM|apply Ae.region|apply Ae.F9|apply Ae.Aq|apply Ae.Ai|apply AO.normal|apply AL.normal|apply Ag.nil|apply Ar.nil|apply Ag.one|(apply Ar.bar;decide +kernel)|apply Ar.quiet|(apply Aa.DF (a:=YU k (gi ts k).t (gi fs k));rfl;rfl;rfl;rfl;rfl;rfl;rfl;rfl;(intro _ h;cases h);rfl;rfl;rfl;decide;decide;(first|omega|(simp only [List.length_take,List.length_drop,List.length_append,List.length_singleton,List.length_cons,List.length_nil]<;>omega)))|(apply Aa.DF (a:=fG k (gi fs k));rfl;rfl;rfl;rfl;rfl;rfl;rfl;rfl;(intro _ h;cases h);rfl;rfl;rfl;decide;decide;(first|omega|(simp only [List.length_take,List.length_drop,List.length_append,List.length_singleton,List.length_cons,List.length_nil]<;>omega)))|(apply Aa.yx;rfl;rfl;rfl;rfl;rfl;decide;omega)|(apply Aa.A8 (l:=ts) (i:=k);rfl;rfl;rfl;exact hk;rfl)|(apply Aa.A8 (l:=fs) (i:=k);rfl;rfl;rfl;omega;rfl)|(apply Aa.a0i (i:=0);rfl;rfl;rfl;rfl;decide)|(apply Aa.a1m;rfl;rfl;rfl)|(apply Aa.a5b;rfl;rfl;rfl;rfl)|(apply Aa.a0p;rfl;rfl;rfl;trivial;rfl;rfl;decide;(simp only [List.length_cons,List.length_nil]<;>decide))|(apply Aa.assign;rfl)|(apply Aa.move;rfl)|(apply Aa.Bv;rfl;rfl;omega)|(apply Aa.a7i;rfl;rfl;omega)|(apply Aa.int;rfl;rfl;rfl)|(apply Aa.load;rfl;rfl)|(apply Aa.BX;rfl;rfl)|(apply Aa.AQ;rfl;rfl;rfl)|(apply Aa.alloc;rfl)|(apply Aa.Bl;rfl;rfl;rfl;trivial;rfl;rfl;exact Ac rfl;exact le_dec rfl)|(apply Aa.build;rfl;rfl;rfl;rfl;rfl)|(apply Aa.buildSlice;rfl;rfl;rfl;decide;rfl;rfl;rfl)|(apply Aa.KU;rfl;rfl;rfl;rfl;omega)|(apply Ae.Af;rfl)|(intro _;try (exfalso;omega)))
  all_goals try (exfalso;omega)
  refine Az.normal ⟨by omega,?_,?_⟩
  ·repeat (first|exact Ad.nil|refine Ad.same trivial rfl ?_|refine Ad.same (Ac rfl) rfl ?_|refine Ad.same ⟨trivial,Ac rfl,trivial⟩ rfl ?_|refine Ad.same ⟨trivial,Ac rfl,Ac rfl,trivial⟩ rfl ?_|refine Ad.same ⟨trivial,Ac rfl,Ac rfl,Ac rfl,trivial⟩ rfl ?_|refine Ad.same ⟨trivial,Ac rfl,Ac rfl,Ac rfl,Ac rfl,trivial⟩ rfl ?_|refine Ad.same ⟨trivial,trivial⟩ rfl ?_|refine Ad.cons trivial rfl (.of_eq (Aw (by simp<;>omega))) ?_)
  ·rw [a3,a4,a1,a2]
   repeat (first|exact Aj.nil|(refine Aj.cons (Ac rfl) ?_ rfl ?_ ?_;(first|exact HB.Ap rfl|exact AU.Ah _ _|(simp [HB.under,AU.under,PV.under]));(first|exact Bo.refl _|exact Bo.vec (Bh.refl _) (by simp))))
 ·repeat' (first|(refine Ae.at 9 ?_;refine Ae.ghost (((((Bc.Z5 1 4 rfl rfl rfl).trans (Bc.qG 1 (cells [Vy (EG fs ts.length)]) rfl (by decide) rfl)).trans (Bc.CZ 2 2 rfl rfl rfl)).trans (Bc.CZ 2 1 rfl rfl rfl))) ?_;first|apply Ae.AA|apply Ae.BM)|apply Ae.assoc|apply Ae.AA|apply Ae.Ba|apply AO.normal|apply AL.exit|apply Az.exit|apply Ae.ret|apply Ag.nil|apply Ag.one|(apply Aa.move;rfl)|(apply Aa.int;rfl;rfl;rfl)|(apply Aa.load;rfl;rfl)|(apply Aa.BX;rfl;rfl)|(apply Aa.Bl;rfl;rfl;rfl;trivial;rfl;rfl;exact Ac rfl;exact le_dec rfl)|(apply Ae.Af;rfl)|(intro _;try (exfalso;omega)))
  all_goals try (exfalso;omega)
  all_goals (refine Done.ret (r:=.p (.agg (Enc.enc (JV ts fs)))) rfl (.p (.agg (.cons (.refl _) (.cons (.refl _) (.cons (.refl _) (.cons (.nil _) (.refl _))))))) trivial Aj.nil (Nat.zero_le _) (Nat.le_refl _) ⟨rfl,rfl,rfl⟩)
end Go.Proofs.YtdabojnmoejilaaGreatDoor
namespace Go.Proofs.YtdabojnmoejilaaGreatDoor
open Go Go.Am Go.Vm Go.Tra Go.Hun
attribute [local irreducible] Aa Ag Ar Ae Bz AV CS AO AL Az Vm.Done Df Bj
theorem aH (fs:List Int):∀ {k i:Nat},i<k→gi (EG fs k) i=fG i (gi fs i):=fun {k i} h=>by
 unfold EG gi;simp [List.getElem?_map,List.getElem?_range h]
theorem dS (ts:List Tn) (fs:List Int):∀ {k i:Nat},i<k→gi (FD ts fs k) i=YU i (gi ts i).t (gi fs i):=fun {k i} h=>by
 unfold FD gi;simp [List.getElem?_map,List.getElem?_range h]
theorem wZ {i:Nat} {t:List UInt8} {f:Int} (hi:i<10) (ht:CX t) (hf:pU ⟨f,1⟩):DY (YU i t f)=0:=by
 unfold DY
 have h1:CX (YU i t f).name:=Vh (by decide) hi
 have h2:CX (YU i t f).Fa:=ht
 have h3:OE (YU i t f).Dt=0:=Ob.2 hf
 rw [if_neg (by rintro (h|h);exact h h1;exact h h2),if_neg (fun h=>h h3),if_neg (by show ¬ ((36:Int)< -256∨(36:Int)>256);omega),if_neg (by show ¬ (3=0);omega),if_neg (by show ¬ (3>128);omega)]
 unfold DL
 rw [if_pos]
 intro j hj
 have:j=0∨j=1∨j=2:=by
  have:j<3:=hj
  omega
 rcases this with rfl|rfl|rfl<;>(show ¬ Xn 1)<;>decide
theorem kW {ts:List Tn} {fs:List Int} (hl:ts.length=fs.length) (h9:ts.length≤9) (hT:∀ i,i<ts.length→CX (gi ts i).t) (hF:∀ i,i<ts.length→pU ⟨gi fs i,1⟩):KN (JV ts fs)=0:=by
 have eR:(JV ts fs).ranks=FD ts fs ts.length:=rfl
 have eD:(JV ts fs).Ak=[Vy (EG fs ts.length)]:=rfl
 have eC:(JV ts fs).FX=[]:=rfl
 have eN:(JV ts fs).name=[79]:=rfl
 have lR:=Ro ts fs ts.length
 have lS:=SX fs ts.length
 have gR:∀ i,i<ts.length→gi (FD ts fs ts.length) i=YU i (gi ts i).t (gi fs i):=fun i hi=>dS ts fs hi
 have gS:∀ i,i<ts.length→gi (EG fs ts.length) i=fG i (gi fs i):=fun i hi=>aH fs hi
 unfold KN
 rw [eR,eD,eC,eN]
 have hr:∀ i,i<(FD ts fs ts.length).length→DY (gi (FD ts fs ts.length) i)=0:=fun i hi=>by
  rw [lR] at hi
  rw [gR i hi]
  exact wZ (by omega) (hT i hi) (hF i hi)
 have hrk:N8 (FD ts fs ts.length) 0=0:=RD (fun i hi=>⟨hr i hi,Sr (c:=82) (by omega) (fun j hj=>by rw [gR j (by omega)];rfl) hi⟩) _ 0 rfl
 have n1:CX [79]:=⟨by decide,by decide,by decide,fun j h1 h2=>by simp at h2;omega⟩
 have n2:CX [71,114,101,97,116]:=⟨by decide,by decide,by decide,fun j h1 h2=>by
  have:j=1∨j=2∨j=3∨j=4:=by simp at h2;omega
  rcases this with rfl|rfl|rfl|rfl<;>exact .inl (by decide)⟩
 rw [if_neg (fun h=>h n1),if_neg (by omega),if_neg (fun h=>h hrk),if_neg (by simp),if_neg (by simp)]
 have hst:∀ i,i<(EG fs ts.length).length→Ji (FD ts fs ts.length) 36 38 (gi (EG fs ts.length) i)=0:=fun i hi=>by
  rw [lS] at hi
  rw [gS i hi]
  unfold Ji
  rw [XZ hr (by omega) (by omega),if_neg (fun h=>h rfl)]
  unfold vV
  have h1:CX (fG i (gi fs i)).name:=Vh (by decide) (by omega)
  have h3:OE (fG i (gi fs i)).Dt=0:=Ob.2 (hF i hi)
  have es:(fG i (gi fs i)).EW=[⟨36,38,[⟨(i:Int),0⟩]⟩]:=rfl
  rw [if_neg (fun h=>h h1),if_neg (fun h=>h h3),es,if_neg (by simp),if_neg (by simp)]
  exact Jq (by simp) (Ic ⟨by simp only;omega,by simp⟩)
 have hd:FT (FD ts fs ts.length) [Vy (EG fs ts.length)] 0=0:=PW (fun i hi=>by
  obtain rfl:i=0:=by simp at hi;omega
  refine ⟨n2,by simp,?_⟩
  show Kz (FD ts fs ts.length) (Vy (EG fs ts.length))=0
  unfold Kz
  rw [show UA (Vy (EG fs ts.length)).lo (Vy (EG fs ts.length)).hi=0 from Lc (by simp [Vy]),if_neg (fun h=>h rfl),if_neg (by show ¬ (EG fs ts.length).length>60;omega)]
  exact Py (fun j hj=>⟨hst j hj,Sr (c:=82) (l:=EG fs ts.length) (by omega) (fun a ha=>by rw [gS a (by omega)];rfl) hj⟩) _ 0 rfl) _ 0 rfl
 rw [if_neg (fun h=>h hd)]
 unfold SA
 rw [if_neg (by simp)]
 have hc:PN ([Vy (EG fs ts.length)].map fun d=>(⟨d.lo,d.hi⟩:ZR)) 0=0:=Rj (fun i hi=>by
  obtain rfl:i=0:=by simp at hi;omega
  exact Lc (by simp [gi,Vy])) _ 0 rfl
 rw [if_neg (fun h=>h hc),NJ,if_neg (by simp)]
theorem sH {ts:List Tn} {fs:List Int} (h9:ts.length≤9) (hT:∀ i,i<ts.length→CX (gi ts i).t):OZ (JV ts fs):=by
 have lR:=Ro ts fs ts.length
 have lS:=SX fs ts.length
 refine ⟨by show 1<1000000;decide,by show (FD ts fs ts.length).length<_;omega,by show 1<1000000;decide,by show 0<1000000;decide,fun i hi=>?_,fun i hi=>?_,fun i hi=>?_⟩
 ·have hi:i<ts.length:=by rw [← lR];exact hi
  show U8 (gi (FD ts fs ts.length) i)
  rw [dS ts fs hi]
  exact ⟨by show 2<1000000;decide,by show (gi ts i).t.length<_;have:=(hT i hi).2.1;omega,by show 3<1000000;decide⟩
 ·obtain rfl:i=0:=by
   have:i<1:=hi
   omega
  show su (Vy (EG fs ts.length))
  refine ⟨by show 5<1000000;decide,by show (EG fs ts.length).length<_;omega,fun j hj=>?_⟩
  have hj:j<ts.length:=by rw [← lS];exact hj
  show Ya (gi (EG fs ts.length) j)
  rw [aH fs hj]
  refine ⟨by show 2<1000000;decide,by show 1<1000000;decide,fun a ha=>?_⟩
  obtain rfl:a=0:=by
   have:a<1:=ha
   omega
  exact ⟨by show 1<1000000;decide⟩
 ·have:i<0:=hi
  omega
def vW:List Tn:=[⟨[112,114,105,110,99,105,112,97,108]⟩,⟨[102,108,117,116,101]⟩]
def wW:List Tn:=[⟨[102,108,117,116,101]⟩]
theorem uU (s:List UInt8) (h0:0<s.length) (h1:s.length≤32) (h:∀ i,i<s.length→ak (gi s i).toNat):CX s:=⟨h0,h1,h 0 h0,fun i _ hi=>.inl (h i hi)⟩
instance (c:Nat):Decidable (ak c):=by unfold ak;infer_instance
theorem a1k:CX [112,114,105,110,99,105,112,97,108]:=uU _ (by decide) (by decide) (by decide)
theorem qA:CX [102,108,117,116,101]:=uU _ (by decide) (by decide) (by decide)
theorem uo:∀ i,i<vW.length→CX (gi vW i).t:=fun i hi=>by
 have:i=0∨i=1:=by
  have:i<2:=hi
  omega
 rcases this with rfl|rfl
 ·exact a1k
 ·exact qA
theorem rQ:∀ i,i<wW.length→CX (gi wW i).t:=fun i hi=>by
 obtain rfl:i=0:=by
  have:i<1:=hi
  omega
 exact qA
def qK (w:Int):Ur:=⟨JV vW [8,4],⟨[3],0,0⟩,JV wW [8],⟨10,1,5,w⟩⟩
theorem a0f {w:Int} (hw:0≤w∧w≤100):Nc (qK w).Ik:=fun i hi=>by
 match i,hi with
 |0,_=>show (0:Int)≤10∧(10:Int)≤100000;decide
 |1,_=>show (0:Int)≤1∧(1:Int)≤100000;decide
 |2,_=>show (0:Int)≤5∧(5:Int)≤100000;decide
 |3,_=>exact ⟨hw.1,Int.le_trans hw.2 (by decide)⟩
theorem shK:∀ a,a<2→(Ci ⟨8,1⟩ ⟨gi [8,4] a,1⟩).2=0∧-1000≤(Ci ⟨8,1⟩ ⟨gi [8,4] a,1⟩).1∧(Ci ⟨8,1⟩ ⟨gi [8,4] a,1⟩).1≤1000:=by decide +kernel
theorem bf {w:Int} (hw:0≤w∧w≤100):ZT (qK w):=by
 have e1:KN (JV vW [8,4])=0:=kW rfl (by decide) uo (fun i hi=>by
  have:i=0∨i=1:=by
   have:i<2:=hi
   omega
  rcases this with rfl|rfl<;>decide +kernel)
 have e2:KN (JV wW [8])=0:=kW rfl (by decide) rQ (fun i hi=>by
  obtain rfl:i=0:=by
   have:i<1:=hi
   omega
  decide +kernel)
 have e3:P6 (JV vW [8,4]) ⟨[3],0,0⟩=0:=by
  rw [S9 rfl (fun i hi=>by
   obtain rfl:i=0:=by
    have:i<1:=hi
    omega
   rfl)]
  rfl
 refine ⟨sH (by decide) uo,sH (by decide) rQ,⟨fun i hi=>?_,by show 0<18446744073709551616;decide,by show 0<18446744073709551616;decide,by show 1<9223372036854775808;decide⟩,?_,fun a b ha hb=>?_⟩
 ·obtain rfl:i=0:=by
   have:i<1:=hi
   omega
  show 3<18446744073709551616
  decide
 ·unfold fQ
  rw [if_neg (fun h=>h e1),if_neg (fun h=>h e3),if_neg (fun h=>h e2),if_neg (fun h=>h (a0f hw)),if_neg]
  have h1:(BN (JV vW [8,4]) ⟨[3],0,0⟩).length=2:=by decide +kernel
  have h2:(Dk (JV wW [8])).length=1:=by decide +kernel
  have h1:(BN (qK w).Cm (qK w).reg).length=2:=h1
  have h2:(Dk (qK w).tgt).length=1:=h2
  omega
 ·obtain ⟨d,s⟩:=a
  obtain ⟨d',s'⟩:=b
  have a1:d<1:=ha.1
  obtain rfl:d=0:=by omega
  have a2:s<2:=ha.2
  have b1:d'<1:=hb.1
  obtain rfl:d'=0:=by omega
  have b2:s'<1:=hb.2
  obtain rfl:s'=0:=by omega
  have:s=0∨s=1:=by omega
  rcases this with rfl|rfl
  ·exact shK 0 (by decide)
  ·exact shK 1 (by decide)
theorem Zm (w:Int):Gj (qK w)=[[10],[12]]:=by
 show NK (JV vW [8,4]) (JV wW [8]) ⟨[3],0,0⟩ ⟨10,1,5,w⟩=_
 have:NK (JV vW [8,4]) (JV wW [8]) ⟨[3],0,0⟩ ⟨10,1,5,0⟩=[[10],[12]]:=by decide +kernel
 exact this
theorem kS (w:Int):Jf (qK w)=1:=by
 have h1:(BN (JV vW [8,4]) ⟨[3],0,0⟩).length=2:=by decide +kernel
 have h2:(Dk (JV wW [8])).length=1:=by decide +kernel
 show (if (BN (JV vW [8,4]) ⟨[3],0,0⟩).length=0 then 0 else (Dk (JV wW [8])).length)=1
 rw [h1,h2];rfl
theorem a4t:(G9 (qK 20)).total=30:=by
 unfold G9 Zu
 rw [Zm,kS]
 show jh [[10],[12]] 2 1 20=30
 decide +kernel
theorem a8n:(G9 (qK 5)).total=10:=by
 unfold G9 Zu
 rw [Zm,kS]
 show jh [[10],[12]] 2 1 5=10
 decide +kernel
theorem jJ:AV env 12 [] (.p (.bool true)):=by
 have h1:=Uh vW [8,4] rfl (by decide)
 have h2:=Uh wW [8] rfl (by decide)
 have hl:=LW (bf (w:=20) (by decide))
 rw [Zm] at hl
 have hb:=L8 (bf (w:=20) (by decide))
 have hb5:=L8 (bf (w:=5) (by decide))
 have hv:=YT (bf (w:=20) (by decide)) (G9 (qK 20))
 rw [show uw (Gj (qK 20)) (Jf (qK 20)) (qK 20).Ik.miss (G9 (qK 20))=0 from wU (bf (w:=20) (by decide)).UG] at hv
 have t1:=a4t
 have t2:=a8n
 generalize G9 (qK 20)=A at *
 generalize G9 (qK 5)=B at *
 obtain ⟨c1,tt1,r1,p1⟩:=A
 obtain ⟨c2,tt2,r2,p2⟩:=B
 simp only at t1 t2
 subst t1;subst t2
 refine AV.enter (AB (by decide)) Tryz.func12 rfl (by kernel_rfl) (by simp [Tryz.ntmps12]) ?_
 repeat' (first|(refine Ag.J4 11 ?_;refine Ag.ghost (Bc.trans (Bc.freeze 9 rfl rfl) (Bc.freeze 10 rfl rfl)) ?_)|(refine Ag.J4 13 ?_;refine Ag.ghost (Bc.freeze 12 rfl rfl) ?_)|(refine Ag.J4 16 ?_;refine Ag.ghost (Bc.trans (Bc.freeze 14 rfl rfl) (Bc.freeze 15 rfl rfl)) ?_)|apply Ae.AA|apply Ae.ret|apply Ag.nil|apply Ag.one|(apply Ag.take;rfl;rfl)|(apply Aa.fn;rfl;rfl;exact h1;intro _;rfl)|(apply Aa.fn;rfl;rfl;exact h2;intro _;rfl)|(apply Aa.fn;rfl;rfl;exact hl;intro _;rfl)|(apply Aa.fn;rfl;rfl;exact hb;intro _;rfl)|(apply Aa.fn;rfl;rfl;exact hv;intro _;rfl)|(apply Aa.fn;rfl;rfl;exact hb5;intro _;rfl)|(apply Aa.SS;rfl;rfl;rfl;decide;decide)|(apply Aa.assign;rfl)|(apply Aa.move;rfl)|(apply Aa.int;rfl;rfl;rfl)|(apply Aa.load;rfl;rfl)|(apply Aa.BA;rfl;rfl)|(apply Aa.BX;rfl;rfl)|(apply Aa.AQ;rfl;rfl;rfl)|(apply Aa.alloc;rfl)|(apply Aa.Bl;rfl;rfl;rfl;trivial;rfl;rfl;exact Ac rfl;exact le_dec rfl)|(apply Aa.build;rfl;rfl;rfl;rfl;rfl)|(apply Aa.buildSlice;rfl;rfl;rfl;decide;rfl;rfl;rfl)|(apply Aa.extract;rfl;rfl))
 all_goals try (exfalso;omega)
 all_goals (refine Done.ret rfl (.refl _) (by first|exact trivial|exact ⟨trivial,trivial,trivial⟩|exact ⟨trivial,trivial,trivial,trivial⟩) Aj.nil (Nat.zero_le _) (Nat.le_refl _) ⟨?_,rfl,rfl⟩;try rfl)
end Go.Proofs.YtdabojnmoejilaaGreatDoor
namespace Go.Proofs.YtdabojnmoejilaaGreatDoor
open Go Go.Am Go.Vm Go.Tra Go.Hun
attribute [local irreducible] Aa Ag Ar Ae Bz AV CS AO AL Az Vm.Done Df Bj
end Go.Proofs.YtdabojnmoejilaaGreatDoor
namespace Go.Vm
open Go.Am
theorem UJ {m m':Mem} {e:TypeId} {size n b o g:Nat} {l:List Value} {v:Value} (h:BD m e size l n (.slice (some ⟨b,o,some g⟩) 0 0)=some (v,m')):m'.low=m.low:=by
 simp only [BD] at h
 split at h
 ·cases h;rfl
 ·cases h;rfl
theorem aC {P:Program} {aT:Array TypeId} {Cb:Array Value} {m m':Mem} {v:Value} {b o g:Nat} (h:F7 P aT Cb m=some (v,m')) (h0:Cb[0]?=some (.slice (some ⟨b,o,some g⟩) 0 0)):m'.low=m.low:=by
 have key:∀ s,Cb[0]?=some s→s=.slice (some ⟨b,o,some g⟩) 0 0:=fun s hs=>by rw [h0] at hs;exact (Option.some.inj hs).symm
 unfold F7 at h
 repeat' split at h
 all_goals first
  |(cases h;done)
  |(have e:=key _ (by assumption);subst e;exact UJ h)
theorem aI {α:Type} [Enc α] (l:List α) (i f:Nat) (hi:i<l.length) (hf:f≤Enc.size α):(cells l).drop (i*Enc.size α+f)=(Enc.enc (gi l i)).drop f++cells (l.drop (i+1)):=by
 rw [← List.drop_drop,Ju l i hi,List.drop_append_of_le_length (by rw [Enc.len];exact hf)]
section
variable {E:Env} {L:Frame} {H:Heap} {nx:Nat} {Q:PV→Heap→Nat→Prop} {w:Bool}
variable {dst:Option Tmp} {ty:TypeId} {pos:String} {af:Array Edge} {gd:Option (Nat×Bool)}
variable {bn:Nat} {ops:Array Oper} {op:Op} {l:List Oper} {i:Nat} {R:Frame→Heap→Nat→Prop}
def G6 (E:Env) (bn d:Nat) (ops:Array Oper) (i:Nat) (l:List Oper) (L:Frame) (H:Heap) (nx:Nat) (Q:Frame→Heap→Nat→Prop):Prop :=
 ∀ (B:Base),B.nx=bn→∀ m F σ t,Ctx E.Γ m F σ H nx→RL m F (htag H) σ nx L t→DJ t d=.slice emptyAt 0 0→B.to m F σ H nx →
  Gz E.P E.O E.G ops i l ⟨t,m⟩ fun s'=>∃ L' H' nx' F' σ',Q L' H' nx'∧Ctx E.Γ s'.m F' σ' H' nx'∧RL s'.m F' (htag H') σ' nx' L' s'.t∧B.to s'.m F' σ' H' nx'
theorem G6.quiet {d:Nat} (hd:dst≠some d) (h:Aa E false ⟨dst,op,ty,pos,af,none⟩ L H nx fun r H' nx'=>G6 E bn d ops (i+1) l (LQ L dst r) H' nx' R):G6 E bn d ops i (⟨dst,op,ty,pos,af,none⟩::l) L H nx R:=by
 intro B hB m F σ t h1 h2 ht h3
 refine Gz.cons (F6.wanted (L:=L) h1 h2 rfl) ((h (m.at m.size) F σ t (h1.at _) (RL.at (Γ:=E.Γ) _ h2)).mono ?_)
 rintro v m' ⟨r,H',nx',F',σ',q,c1,c2,c3,c4⟩
 refine ⟨.inr (.inl (c4 rfl m.size (Nat.le_refl _) (Nat.le_refl _))),?_⟩
 refine q B hB _ F' σ' _ (c1.at _) (RL.at (Γ:=E.Γ) _ (((RL.at (Γ:=E.Γ) _ h2).step c3 (h1.at _)).put c2)) ?_ (h3.trans c3.at)
 cases dst with
 |none=>exact ht
 |some x =>
  show DJ (Vl t x v) d=_
  rw [Fp,if_neg (fun e=>hd (by rw [e]))]
  exact ht
theorem G6.start {d:Nat} {t e:TypeId} {z:List Value} {it:TypeInfo} (hu:E.P.underlying t=some (.slice e)) (hi:E.P.info? e=some it) (hz:BR E.P e=some z) (hl:0*it.size≤2 ^ 24∧z.length=it.size∧0<it.size)
 (h:G6 E bn d ops (i+1) l (LQ L (some d) (.vec nx 0 0 0)) ((nx,.vec e [] 0 false)::H) (nx+1) R):Ar E bn ops i (⟨some d,.buildSlice t 0 #[],ty,pos,af,none⟩::l) L H nx R:=by
 intro B hB m F σ tt h1 h2 h3
 obtain ⟨c1,c2,c3⟩:=lq e (h1.at m.size)
 refine Gz.cons (F6.wanted (L:=L) h1 h2 rfl) ⟨.slice emptyAt 0 0,m.at m.size,⟨0,fun N D _ _=>?_⟩,.inr (.inl (c3 m.size (Nat.le_refl _) (Nat.le_refl _))),?_⟩
 ·simp [CQ,Fg,hu,hi,hz,hl,Instr.fill,AY]
 ·refine h B hB _ F _ _ (c1.at _) (RL.at (Γ:=E.Γ) _ (((RL.at (Γ:=E.Γ) _ h2).step c2 (h1.at _)).put (dX e H nx))) ?_ (h3.trans c2.at)
  show DJ (Vl tt d _) d=_
  rw [Fp,if_pos rfl]
theorem G6.app {d:Nat} {args:Array Operand} {aT:Array TypeId} (ha:args[0]?=some (.tmp d))
 (h:Aa E true ⟨dst,.call { callee:=.builtin .append,args:=args,argTypes:=aT },ty,pos,af,none⟩ L H nx fun r H' nx'=>Ar E bn ops (i+1) l (LQ L dst r) H' nx' R) :
 G6 E bn d ops i (⟨dst,.call { callee:=.builtin .append,args:=args,argTypes:=aT },ty,pos,af,none⟩::l) L H nx R:=by
 intro B hB m F σ t h1 h2 ht h3
 obtain ⟨v,m',⟨K,hK⟩,r,H',nx',F',σ',q,c1,c2,c3,c4⟩:=h (m.at m.size) F σ t (h1.at _) (RL.at (Γ:=E.Γ) _ h2)
 have hq:m.size≤m'.low:=by
  have h4:=hK K K (Nat.le_refl _) (Nat.le_refl _)
  simp only [CQ,Fg] at h4
  have h5:=aC (b:=0) (o:=0) (g:=0) h4 (by rw [Array.getElem?_map,ha];exact congrArg some ht)
  rw [h5];exact Nat.le_refl _
 exact Gz.cons (F6.wanted (L:=L) h1 h2 rfl) ⟨v,m',⟨K,hK⟩,.inr (.inl hq),q B hB _ F' σ' _ (c1.at _) (RL.at (Γ:=E.Γ) _ (((RL.at (Γ:=E.Γ) _ h2).step c3 (h1.at _)).put c2)) (h3.trans c3.at)⟩
theorem Aa.sQ {α:Type} {_:Enc α} {t:TypeId} {a:Operand} {b n i f:Nat} {e:TypeId} {l:List α} {z:Bool} {r:FV} (ha:Bq E.Γ L a=some (.DU b n (i*Enc.size α+f))) (hb:hget H b=some (.vec e (cells l) n z)) (hi:i<l.length) (hf:f≤Enc.size α)
 (h:QH E.P t ((Enc.enc (gi l i)).drop f++cells (l.drop (i+1)))=some r) (q:Q (.p r) H nx):Aa E w ⟨dst,.load t a,ty,pos,af,gd⟩ L H nx Q :=
 Aa.zG ha hb (by rw [aI l i f hi hf];exact h) q
theorem G6.atIdx (n:Nat) {d:Nat} (h:G6 E bn d ops n l L H nx R):G6 E bn d ops n l L H nx R:=h
end
end Go.Vm
namespace Go.Proofs.YtdabojnmoejilaaGreatDoor
open Go Go.Am Go.Vm Go.Tra Go.Hun
attribute [local irreducible] Aa Ag Ar G6 Ae Bz AV CS AO AL Az Vm.Done Df Bj
theorem QO (x:lX) (hx:x.Ok) (wh:Nat) (hwh:wh<256) (p:Xk) (hp:p.Ok):AV env 6 [.agg x.enc,.int .u8 (wh:Int),.agg (Enc.enc p)] (.p (.bool true)):=by
 have hkn:=jJ
 have hfs:=jI x hx
 by_cases hf:QZ x
 case neg =>
  rw [decide_eq_false hf] at hfs
  refine AV.enter (AB (by decide)) Tryz.func6 rfl (by kernel_rfl) (by simp [Tryz.ntmps6]) ?_
  repeat' (first|apply Ae.assoc|apply Ae.AA|apply Ae.BO|apply Ag.nil|apply Ag.one|(apply Ag.take;rfl;rfl)|(apply Aa.fn;rfl;rfl;exact hkn;intro _;rfl)|(apply Aa.fn;rfl;rfl;exact hfs;intro _;rfl)|(apply Aa.assign;rfl)|(apply Aa.move;rfl)|(apply Aa.load;rfl;rfl)|(apply Aa.AP;rfl;rfl)|(apply Aa.box;rfl;trivial)|(apply Aa.not;rfl)|(apply Ae.Bf;rfl))
  all_goals first|(exfalso;omega)|contradiction|((refine Done.ret rfl (.refl _) (by first|exact trivial|exact ⟨trivial,trivial,trivial⟩|exact ⟨trivial,trivial,trivial,trivial⟩) Aj.nil (Nat.zero_le _) (Nat.le_refl _) ⟨?_,rfl,rfl⟩;try rfl);try simp)
 rw [decide_eq_true hf] at hfs
 have hm:=WI x hx hf
 have hq:=rJ x hx hf
 have hb:=L8 hq
 have hd1:=hf.2.2.1
 obtain ⟨k,hk⟩:∃ k,k=wh % x.tgt.Ak.length:=⟨_,rfl⟩
 have hkl:k<x.tgt.Ak.length:=by rw [hk];exact Nat.mod_lt _ (by omega)
 have hs3:=hf.2.2.2.2 k hkl
 refine AV.enter (AB (by decide)) Tryz.func6 rfl (by kernel_rfl) (by simp [Tryz.ntmps6]) ?_
 subst hk
 have hs9:(gi x.tgt.Ak (wh % x.tgt.Ak.length)).stops.length≤3:=hs3
 by_cases h2:(gi x.tgt.Ak (wh % x.tgt.Ak.length)).stops.length>2
 ·generalize G9 (yw x)=b at *
  generalize yw x=q at *
  repeat' (first|apply Ae.assoc|apply Ae.AA|apply Ae.Aq|apply Ae.BO|apply Ag.nil|apply Ag.one|(apply Ag.take;rfl;rfl)|(apply Aa.fn;rfl;rfl;exact hkn;intro _;rfl)|(apply Aa.fn;rfl;rfl;exact hfs;intro _;rfl)|(apply Aa.fn;rfl;rfl;exact hm;intro _;rfl)|(apply Aa.fn;rfl;rfl;exact hb;intro _;rfl)|(apply Aa.a1h;rfl;rfl;omega)|(apply Aa.Dh (i:=wh % x.tgt.Ak.length);rfl;rfl;rfl;rfl;exact hkl)|(apply Aa.wS;rfl;rfl;rfl)|(apply Aa.sQ;rfl;rfl;exact hkl;decide;rfl)|(apply Aa.I4 (r:=x.tgt.Ak);rfl;rfl;rfl;rfl;rfl;rfl;(intro _ h;cases h);rfl;rfl;rfl;decide;decide;omega)|(apply Aa.assign;rfl)|(apply Aa.move;rfl)|(apply Aa.int;rfl;rfl;rfl)|(apply Aa.load;rfl;rfl)|(apply Aa.AP;rfl;rfl)|(apply Aa.BX;rfl;rfl)|(apply Aa.lenV;rfl;rfl;rfl)|(apply Aa.AQ;rfl;rfl;rfl)|(apply Aa.box;rfl;trivial)|(apply Aa.alloc;rfl)|(apply Aa.Bl;rfl;rfl;rfl;trivial;rfl;rfl;exact Ac rfl;exact le_dec rfl)|(apply Aa.buildSlice;rfl;rfl;rfl;decide;rfl;rfl;rfl)|(apply Aa.not;rfl)|(apply Aa.extract;rfl;rfl)|(apply Aa.Ih;rfl;rfl;rfl;rfl;omega)|(apply Ae.Au;rfl)|(apply Ae.Af;rfl)|(intro _;try (exfalso;omega)))
  all_goals try (exfalso;omega)
  all_goals try contradiction
  all_goals (refine Done.ret rfl (.refl _) (by first|exact trivial|exact ⟨trivial,trivial,trivial⟩|exact ⟨trivial,trivial,trivial,trivial⟩) Aj.nil (Nat.zero_le _) (Nat.le_refl _) ⟨?_,rfl,rfl⟩;try rfl)
 ·have hx2:(⟨x.Cm,DW x.tgt (wh % x.tgt.Ak.length) p,x.bits,x.w⟩:lX).Ok:=⟨hx.Cm,a0v hx.tgt hkl hp (by omega),hx.bits,hx.w⟩
  have hf2:QZ ⟨x.Cm,DW x.tgt (wh % x.tgt.Ak.length) p,x.bits,x.w⟩:=⟨hf.1,qZ hf.2 hkl p (by omega)⟩
  have hm2:=WI _ hx2 hf2
  have hq2:=rJ _ hx2 hf2
  have hb2:=L8 hq2
  have hle:(G9 (yw ⟨x.Cm,DW x.tgt (wh % x.tgt.Ak.length) p,x.bits,x.w⟩)).total≤(G9 (yw x)).total:=xM (F:=MV x.Cm) (T:=MV x.tgt) (T':=MV (DW x.tgt (wh % x.tgt.Ak.length) p)) hq hq2 fun y hy=>qW hkl p _ _ hy
  generalize yw ⟨x.Cm,DW x.tgt (wh % x.tgt.Ak.length) p,x.bits,x.w⟩=q2 at *
  generalize yw x=q at *
  generalize G9 q2=b2 at *
  generalize G9 q=b at *
  have eY:Enc.enc ({ gi x.tgt.Ak (wh % x.tgt.Ak.length) with stops:=(gi x.tgt.Ak (wh % x.tgt.Ak.length)).stops++[p] }:gK)=[.int .u8 ((gi x.tgt.Ak (wh % x.tgt.Ak.length)).low:Int),.int .u8 ((gi x.tgt.Ak (wh % x.tgt.Ak.length)).keys:Int),.bool (gi x.tgt.Ak (wh % x.tgt.Ak.length)).D8,.lst 72 (cells ((gi x.tgt.Ak (wh % x.tgt.Ak.length)).stops++[p])) ((gi x.tgt.Ak (wh % x.tgt.Ak.length)).stops.length+1)]:=by
   show [FV.int .u8 ((gi x.tgt.Ak (wh % x.tgt.Ak.length)).low:Int),.int .u8 ((gi x.tgt.Ak (wh % x.tgt.Ak.length)).keys:Int),.bool (gi x.tgt.Ak (wh % x.tgt.Ak.length)).D8,.lst 72 (cells ((gi x.tgt.Ak (wh % x.tgt.Ak.length)).stops++[p])) ((gi x.tgt.Ak (wh % x.tgt.Ak.length)).stops++[p]).length]=_
   rw [List.length_append];rfl
  have eE:(⟨x.Cm,DW x.tgt (wh % x.tgt.Ak.length) p,x.bits,x.w⟩:lX).enc=[.lst 150 (cells x.Cm.ranks) x.Cm.ranks.length,.lst 75 (cells x.Cm.Ak) x.Cm.Ak.length,.lst 153 (cells x.Cm.links) x.Cm.links.length,
   .lst 150 (cells x.tgt.ranks) x.tgt.ranks.length,.lst 75 (cells (x.tgt.Ak.set (wh % x.tgt.Ak.length) { gi x.tgt.Ak (wh % x.tgt.Ak.length) with stops:=(gi x.tgt.Ak (wh % x.tgt.Ak.length)).stops++[p] })) x.tgt.Ak.length,.lst 153 (cells x.tgt.links) x.tgt.links.length,
   .int .u8 (x.bits 0:Int),.int .u8 (x.bits 1:Int),.int .u8 (x.bits 2:Int),.int .u8 (x.bits 3:Int),.int .u8 (x.bits 4:Int),.int .u8 (x.w 0:Int),.int .u8 (x.w 1:Int),.int .u8 (x.w 2:Int),.int .u8 (x.w 3:Int)]:=by
   show [FV.lst 150 (cells x.Cm.ranks) x.Cm.ranks.length,.lst 75 (cells x.Cm.Ak) x.Cm.Ak.length,.lst 153 (cells x.Cm.links) x.Cm.links.length,
    .lst 150 (cells x.tgt.ranks) x.tgt.ranks.length,.lst 75 (cells (DW x.tgt (wh % x.tgt.Ak.length) p).Ak) (DW x.tgt (wh % x.tgt.Ak.length) p).Ak.length,.lst 153 (cells x.tgt.links) x.tgt.links.length,
    .int .u8 (x.bits 0:Int),.int .u8 (x.bits 1:Int),.int .u8 (x.bits 2:Int),.int .u8 (x.bits 3:Int),.int .u8 (x.bits 4:Int),.int .u8 (x.w 0:Int),.int .u8 (x.w 1:Int),.int .u8 (x.w 2:Int),.int .u8 (x.w 3:Int)]=_
   rw [MG];rfl
  rw [eE] at hm2
  clear eE
  repeat' (first|(refine Ae.at 10 ?_;refine Ae.ghost (Bc.CZ 0 4 rfl rfl rfl) ?_;first|apply Ae.AA|apply Ae.BM)|(refine Ar.atIdx 18 ?_;refine Ar.ghost (Bc.freeze 68 rfl rfl) ?_)|(refine Ar.atIdx 15 ?_;apply Ar.weak [.tmp 54];decide +kernel;rfl;rfl;(first|exact Qk.ref rfl|exact Qk.vec rfl|exact Qk.DU rfl);decide +kernel;rfl)|(refine Ar.atIdx 4 ?_;apply G6.start;rfl;rfl;rfl;decide)|(refine G6.atIdx 12 ?_;apply G6.app;rfl)|(apply G6.quiet;decide)|apply Ae.assoc|apply Ae.AA|apply Ae.BM|apply Ae.Aq|apply Ae.ret|apply Ag.nil|apply Ar.nil|apply Ag.one|(apply Ar.bar;decide +kernel)|apply Ar.quiet|(apply Ag.take;rfl;rfl)|(apply Aa.fn;rfl;rfl;exact hkn;intro _;rfl)|(apply Aa.fn;rfl;rfl;exact hfs;intro _;rfl)|(apply Aa.fn;rfl;rfl;exact hm;intro _;rfl)|(apply Aa.fn;rfl;rfl;exact hb;intro _;rfl)|(apply Aa.fn;rfl;rfl;exact hm2;intro _;rfl)|(apply Aa.fn;rfl;rfl;exact hb2;intro _;rfl)|(apply Aa.DF (a:=(p:Xk));rfl;rfl;rfl;rfl;rfl;rfl;rfl;rfl;(intro _ h;cases h);rfl;rfl;rfl;decide;decide;(first|omega|(simp only [List.length_take,List.length_drop,List.length_append,List.length_singleton,List.length_cons,List.length_nil]<;>omega)))|(apply Aa.I4 (r:=(gi x.tgt.Ak (wh % x.tgt.Ak.length)).stops);rfl;rfl;rfl;rfl;rfl;rfl;(intro _ h;cases h);rfl;rfl;rfl;decide;decide;omega)|(apply Aa.xX (α:=gK) (i:=wh % x.tgt.Ak.length) (f:=3) (fs:=[.lst 72 (cells ((gi x.tgt.Ak (wh % x.tgt.Ak.length)).stops++[p])) ((gi x.tgt.Ak (wh % x.tgt.Ak.length)).stops.length+1)]) (y:={ gi x.tgt.Ak (wh % x.tgt.Ak.length) with stops:=(gi x.tgt.Ak (wh % x.tgt.Ak.length)).stops++[p] });rfl;rfl;rfl;trivial;rfl;rfl;rfl;decide;exact hkl;decide;(rw [eY];exact .refl _))|(apply Aa.a1h;rfl;rfl;omega)|(apply Aa.Dh (i:=wh % x.tgt.Ak.length);rfl;rfl;rfl;rfl;exact hkl)|(apply Aa.wS;rfl;rfl;rfl)|(apply Aa.sQ;rfl;rfl;exact hkl;decide;rfl)|(apply Aa.I4 (r:=x.tgt.Ak);rfl;rfl;rfl;rfl;rfl;rfl;(intro _ h;cases h);rfl;rfl;rfl;decide;decide;omega)|(apply Aa.assign;rfl)|(apply Aa.move;rfl)|(apply Aa.int;rfl;rfl;rfl)|(apply Aa.load;rfl;rfl)|(apply Aa.BA;rfl;rfl)|(apply Aa.AP;rfl;rfl)|(apply Aa.BX;rfl;rfl)|(apply Aa.lenV;rfl;rfl;rfl)|(apply Aa.AQ;rfl;rfl;rfl)|(apply Aa.box;rfl;trivial)|(apply Aa.alloc;rfl)|(apply Aa.Bl;rfl;rfl;rfl;trivial;rfl;rfl;exact Ac rfl;exact le_dec rfl)|(apply Aa.buildSlice;rfl;rfl;rfl;decide;rfl;rfl;rfl)|(apply Aa.not;rfl)|(apply Aa.extract;rfl;rfl)|(apply Aa.Ih;rfl;rfl;rfl;rfl;omega)|(apply Ae.Au;rfl)|(apply Ae.Af;rfl)|(intro _;try (exfalso;omega)))
  all_goals try (exfalso;omega)
  all_goals try contradiction
  all_goals first|((refine Done.ret rfl (.refl _) (by first|exact trivial|exact ⟨trivial,trivial,trivial⟩|exact ⟨trivial,trivial,trivial,trivial⟩) Aj.nil (Nat.zero_le _) (Nat.le_refl _) ⟨?_,rfl,rfl⟩;try rfl);done)|(refine Done.ret rfl (.refl _) (by first|exact trivial|exact ⟨trivial,trivial,trivial⟩|exact ⟨trivial,trivial,trivial,trivial⟩) Aj.nil (Nat.zero_le _) (Nat.le_refl _) ⟨?_,rfl,rfl⟩;refine PV.Oo ?_;exact decide_eq_true hle)
end Go.Proofs.YtdabojnmoejilaaGreatDoor
namespace Go.Proofs.YtdabojnmoejilaaGreatDoor
open Go Go.Am Go.Vm
theorem LG {n:Int} (h:(Lit.int .u8 n).wf=true):∃ m:Nat,m<256∧n=m:=by
 simp [Lit.wf,IntKind.min,IntKind.max,IntKind.signed,IntKind.bits] at h
 exact ⟨n.toNat,by omega,by omega⟩
theorem rD {n:Int} (h:(Lit.int .i8 n).wf=true):-128≤n∧n≤127:=by
 simp [Lit.wf,IntKind.min,IntKind.max,IntKind.signed,IntKind.bits] at h
 omega
theorem VQ {α β:Type} {R:β→α→Prop}:∀ {l:List α},(∀ x∈l,∃ y,R y x)→∃ r:List β,Gh R r l
 |[],_=>⟨[],.nil⟩
 |a::l,h=>by
  obtain ⟨y,hy⟩:=h a (by simp)
  obtain ⟨r,hr⟩:=VQ (l:=l) (fun x hx=>h x (by simp [hx]))
  exact ⟨y::r,.cons hy hr⟩
theorem WE {α:Type} [Enc α] {p:α→Prop}:∀ {r:List α} {L:List (List FV)},Gh (fun a fs=>fs=Enc.enc a∧p a) r L→L.flatten=cells r∧L.length=r.length∧∀ i,i<r.length→p (gi r i)
 |_,_,.nil=>⟨rfl,rfl,fun i hi=>by simp at hi⟩
 |a::r,fs::L,.cons ⟨h1,h2⟩ t=>by
  obtain ⟨e1,e2,e3⟩:=WE t
  refine ⟨by rw [List.flatten_cons,e1,h1];rfl,by simp [e2],fun i hi=>?_⟩
  cases i with
  |zero=>exact h2
  |succ i=>exact e3 i (by simpa using hi)
section
variable {α β:Type} {R:α→β→Prop} {a b c d e:α} {r:List β}
theorem sU (h:Gh R [a] r):∃ x,r=[x]∧R a x:=by
 cases h with|cons h1 t=>cases t;exact ⟨_,rfl,h1⟩
theorem wu (h:Gh R [a,b] r):∃ x y,r=[x,y]∧R a x∧R b y:=by
 cases h with|cons h1 t=>obtain ⟨x,rfl,h2⟩:=sU t;exact ⟨_,_,rfl,h1,h2⟩
theorem LJ (h:Gh R [a,b,c] r):∃ x y z,r=[x,y,z]∧R a x∧R b y∧R c z:=by
 cases h with|cons h1 t=>obtain ⟨x,y,rfl,h2,h3⟩:=wu t;exact ⟨_,_,_,rfl,h1,h2,h3⟩
theorem KY (h:Gh R [a,b,c,d] r):∃ x y z w,r=[x,y,z,w]∧R a x∧R b y∧R c z∧R d w:=by
 cases h with|cons h1 t=>obtain ⟨x,y,z,rfl,h2,h3,h4⟩:=LJ t;exact ⟨_,_,_,_,rfl,h1,h2,h3,h4⟩
theorem qg (h:Gh R [a,b,c,d,e] r):∃ x y z w v,r=[x,y,z,w,v]∧R a x∧R b y∧R c z∧R d w∧R e v:=by
 cases h with|cons h1 t=>obtain ⟨x,y,z,w,rfl,h2,h3,h4,h5⟩:=KY t;exact ⟨_,_,_,_,_,rfl,h1,h2,h3,h4,h5⟩
end
theorem aj {j:Nat} {fs:List FV} (h:EN Tryz.prog (j+1) 4 fs):∃ b:Bool,fs=[.bool b]:=by
 simp only [EN,Tryz.underlying4] at h
 exact h
theorem a7w {α:Type} {l:List α} (h:l.length=5):∃ a b c d e,l=[a,b,c,d,e]:=by
 match l,h with|[a,b,c,d,e],_=>exact ⟨a,b,c,d,e,rfl⟩
theorem oZ {j:Nat} {fs:List FV} (h:EN Tryz.prog (j+3) 150 fs):∃ x:FP,fs=x.enc∧x.Ok:=by
 simp only [EN,Tryz.underlying150,Tryz.underlying5,Tryz.underlying64,Tryz.underlying27] at h
 obtain ⟨parts,rfl,hp⟩:=h
 obtain ⟨a,b,c,d,e,rfl,⟨n1,rfl,h1⟩,⟨n2,rfl,h2⟩,⟨n3,rfl,h3⟩,⟨n4,rfl,h4⟩,L,rfl,hl,hL⟩:=qg hp
 obtain ⟨m1,q1,rfl⟩:=LG h1
 obtain ⟨m2,q2,rfl⟩:=LG h2
 obtain ⟨m4,q4,rfl⟩:=LG h4
 obtain ⟨a,b,c,d,e,rfl⟩:=a7w hl
 obtain ⟨w0,rfl,g0⟩:=hL a (by simp)
 obtain ⟨w1,rfl,g1⟩:=hL b (by simp)
 obtain ⟨w2,rfl,g2⟩:=hL c (by simp)
 obtain ⟨w3,rfl,g3⟩:=hL d (by simp)
 obtain ⟨w4,rfl,g4⟩:=hL e (by simp)
 obtain ⟨v0,k0,rfl⟩:=LG g0
 obtain ⟨v1,k1,rfl⟩:=LG g1
 obtain ⟨v2,k2,rfl⟩:=LG g2
 obtain ⟨v3,k3,rfl⟩:=LG g3
 obtain ⟨v4,k4,rfl⟩:=LG g4
 refine ⟨⟨m1,m2,n3,m4,[v0,v1,v2,v3,v4]⟩,rfl,q1,q2,rD h3,q4,fun i=>?_⟩
 match i with
 |0=>exact k0
 |1=>exact k1
 |2=>exact k2
 |3=>exact k3
 |4=>exact k4
 |n+5=>simp [gi]
end Go.Proofs.YtdabojnmoejilaaGreatDoor
namespace Go.Proofs.YtdabojnmoejilaaGreatDoor
open Go Go.Am Go.Vm
theorem IK {P:Program} {n:Nat} {t:TypeId} {fs:List FV} {sf:Array Field} (h:EN P (n+1) t fs) (hu:P.underlying t=some (.struct sf)):∃ parts:List (List FV),fs=parts.flatten∧Gh (fun (fd:Field) x=>EN P n fd.type x) sf.toList parts:=by
 unfold EN at h;rw [hu] at h;exact h
theorem LH {P:Program} {n:Nat} {t e:TypeId} {fs:List FV} {α:Type} [Enc α] {p:α→Prop} (h:EN P (n+1) t fs) (hu:P.underlying t=some (.slice e)) (he:∀ x,EN P n e x→∃ a:α,x=Enc.enc a∧p a):∃ l:List α,fs=[.lst e (cells l) l.length]∧l.length≤maxLen∧∀ i,i<l.length→p (gi l i):=by
 unfold EN at h;rw [hu] at h
 obtain ⟨L,rfl,hl,hL⟩:=h
 obtain ⟨r,hr⟩:=VQ (R:=fun (a:α) fs=>fs=Enc.enc a∧p a) (l:=L) (fun x hx=>he x (hL x hx))
 obtain ⟨e1,e2,e3⟩:=WE hr
 exact ⟨r,by rw [e1,e2],by omega,e3⟩
theorem Fz {j:Nat} {fs:List FV} (h:EN Tryz.prog (j+1) 5 fs):∃ n:Nat,fs=[.int .u8 (n:Int)]∧n<256:=by
 simp only [EN,Tryz.underlying5] at h
 obtain ⟨n,rfl,hn⟩:=h
 obtain ⟨m,q,rfl⟩:=LG hn
 exact ⟨m,rfl,q⟩
theorem a2h {j:Nat} {fs:List FV} (h:EN Tryz.prog (j+1) 64 fs):∃ n:Int,fs=[.int .i8 n]∧-128≤n∧n≤127:=by
 simp only [EN,Tryz.underlying64] at h
 obtain ⟨n,rfl,hn⟩:=h
 exact ⟨n,rfl,rD hn⟩
theorem eP {j:Nat} {fs:List FV} (h:EN Tryz.prog (j+2) 72 fs):∃ x:Xk,fs=Enc.enc x∧x.Ok:=by
 obtain ⟨parts,rfl,hp⟩:=IK h Tryz.underlying72
 obtain ⟨a,b,c,d,rfl,h1,h2,h3,h4⟩:=KY hp
 obtain ⟨m1,rfl,q1⟩:=Fz (j:=j) h1
 obtain ⟨m2,rfl,q2⟩:=Fz (j:=j) h2
 obtain ⟨m3,rfl,q3⟩:=Fz (j:=j) h3
 obtain ⟨m4,rfl,q4⟩:=Fz (j:=j) h4
 exact ⟨⟨m1,m2,m3,m4⟩,rfl,q1,q2,q3,q4⟩
theorem pK {j:Nat} {fs:List FV} (h:EN Tryz.prog (j+4) 75 fs):∃ x:gK,fs=Enc.enc x∧x.Ok:=by
 obtain ⟨parts,rfl,hp⟩:=IK h Tryz.underlying75
 obtain ⟨a,b,c,d,rfl,h1,h2,h3,h4⟩:=KY hp
 obtain ⟨m1,rfl,q1⟩:=Fz (j:=j+2) h1
 obtain ⟨m2,rfl,q2⟩:=Fz (j:=j+2) h2
 obtain ⟨m3,rfl⟩:=aj (j:=j+2) h3
 obtain ⟨l,rfl,hl,hL⟩:=LH (n:=j+2) (p:=Xk.Ok) h4 Tryz.underlying73 (fun x hx=>eP hx)
 exact ⟨⟨m1,m2,m3,l⟩,rfl,q1,q2,by simp only [maxLen] at hl;simp only;omega,hL⟩
theorem qL {j:Nat} {fs:List FV} (h:EN Tryz.prog (j+2) 153 fs):∃ x:wM,fs=Enc.enc x∧x.Ok:=by
 obtain ⟨parts,rfl,hp⟩:=IK h Tryz.underlying153
 obtain ⟨a,b,c,d,rfl,h1,h2,h3,h4⟩:=KY hp
 obtain ⟨m1,rfl,q1⟩:=Fz (j:=j) h1
 obtain ⟨m2,rfl,q2⟩:=Fz (j:=j) h2
 obtain ⟨m3,rfl,q3⟩:=a2h (j:=j) h3
 obtain ⟨m4,rfl⟩:=aj (j:=j) h4
 exact ⟨⟨m1,m2,m3,m4⟩,rfl,q1,q2,q3⟩
theorem Yc {j:Nat} {fs:List FV} (h:EN Tryz.prog (j+6) 26 fs):∃ x:Xy,fs=x.enc∧x.Ok:=by
 obtain ⟨parts,rfl,hp⟩:=IK h Tryz.underlying26
 obtain ⟨a,b,c,rfl,h1,h2,h3⟩:=LJ hp
 obtain ⟨l1,rfl,n1,g1⟩:=LH (n:=j+4) (p:=FP.Ok) h1 Tryz.underlying22 (fun x hx=>oZ (j:=j+1) hx)
 obtain ⟨l2,rfl,n2,g2⟩:=LH (n:=j+4) (p:=gK.Ok) h2 Tryz.underlying23 (fun x hx=>pK hx)
 obtain ⟨l3,rfl,n3,g3⟩:=LH (n:=j+4) (p:=wM.Ok) h3 Tryz.underlying24 (fun x hx=>qL (j:=j+2) hx)
 simp only [maxLen] at n1 n2 n3
 exact ⟨⟨l1,l2,l3⟩,rfl,g1,g2,g3,by simp only;omega,by simp only;omega,by simp only;omega⟩
end Go.Proofs.YtdabojnmoejilaaGreatDoor
namespace Go.Proofs.YtdabojnmoejilaaGreatDoor
open Go Go.Am Go.Vm
theorem a3z {α:Type} {L:List α} (h:L.length=5):∃ a b c d e,L=[a,b,c,d,e]:=by
 match L,h with
 |[a,b,c,d,e],_=>exact ⟨a,b,c,d,e,rfl⟩
theorem oL {j:Nat} {fs:List FV} (h:EN Tryz.prog (j+2) 27 fs):∃ b:Nat→Nat,fs=rH b∧∀ i,b i<256:=by
 obtain ⟨L,rfl,hl,hL⟩:=EN.array h Tryz.underlying27
 obtain ⟨a,b,c,d,e,rfl⟩:=a3z hl
 obtain ⟨m1,rfl,q1⟩:=Fz (j:=j) (hL a (by simp))
 obtain ⟨m2,rfl,q2⟩:=Fz (j:=j) (hL b (by simp))
 obtain ⟨m3,rfl,q3⟩:=Fz (j:=j) (hL c (by simp))
 obtain ⟨m4,rfl,q4⟩:=Fz (j:=j) (hL d (by simp))
 obtain ⟨m5,rfl,q5⟩:=Fz (j:=j) (hL e (by simp))
 exact ⟨fun i=>if i=0 then m1 else if i=1 then m2 else if i=2 then m3 else if i=3 then m4 else m5,rfl,fun i=>by simp only;split<;>(try split)<;>(try split)<;>(try split)<;>omega⟩
end Go.Proofs.YtdabojnmoejilaaGreatDoor
namespace Go.Proofs.YtdabojnmoejilaaGreatDoor
open Go Go.Am Go.Vm
theorem list4 {α:Type} {L:List α} (h:L.length=4):∃ a b c d,L=[a,b,c,d]:=by
 match L,h with
 |[a,b,c,d],_=>exact ⟨a,b,c,d,rfl⟩
theorem nC {j:Nat} {fs:List FV} (h:EN Tryz.prog (j+2) 28 fs):∃ b:Nat→Nat,fs=[.int .u8 (b 0:Int),.int .u8 (b 1:Int),.int .u8 (b 2:Int),.int .u8 (b 3:Int)]∧∀ i,b i<256:=by
 obtain ⟨L,rfl,hl,hL⟩:=EN.array h Tryz.underlying28
 obtain ⟨a,b,c,d,rfl⟩:=list4 hl
 obtain ⟨m1,rfl,q1⟩:=Fz (j:=j) (hL a (by simp))
 obtain ⟨m2,rfl,q2⟩:=Fz (j:=j) (hL b (by simp))
 obtain ⟨m3,rfl,q3⟩:=Fz (j:=j) (hL c (by simp))
 obtain ⟨m4,rfl,q4⟩:=Fz (j:=j) (hL d (by simp))
 exact ⟨fun i=>if i=0 then m1 else if i=1 then m2 else if i=2 then m3 else m4,rfl,fun i=>by simp only;split<;>(try split)<;>(try split)<;>omega⟩
theorem nD {j:Nat} {fs:List FV} (h:EN Tryz.prog (j+7) 30 fs):∃ x:lX,fs=x.enc∧x.Ok:=by
 obtain ⟨parts,rfl,hp⟩:=IK h Tryz.underlying30
 obtain ⟨a,b,c,d,rfl,h1,h2,h3,h4⟩:=KY hp
 obtain ⟨x1,rfl,k1⟩:=Yc (j:=j) h1
 obtain ⟨x2,rfl,k2⟩:=Yc (j:=j) h2
 obtain ⟨b5,rfl,k3⟩:=oL (j:=j+4) h3
 obtain ⟨b4,rfl,k4⟩:=nC (j:=j+4) h4
 exact ⟨⟨x1,x2,b5,b4⟩,rfl,k1,k2,k3,k4⟩
end Go.Proofs.YtdabojnmoejilaaGreatDoor
namespace Go.Proofs.YtdabojnmoejilaaGreatDoor
open Go Go.Am Go.Vm
end Go.Proofs.YtdabojnmoejilaaGreatDoor
