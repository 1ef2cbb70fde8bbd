/-
  Texts of a proof, merged (HunD, TraB, TraC, TraD, TraK, HunE, TraL, TraM, Vm38, HunF, CarA, TraN, OrO, OrQ, TraS, CarB, CarD, CarE). Conditions: in each statement.
-/
import Derived.Test.YtdabojnmoejilaaGreatDoorKCe
set_option linter.unusedSimpArgs false
set_option linter.unusedVariables false
set_option linter.unusedSectionVars false
set_option maxRecDepth 100000
set_option maxHeartbeats 8000000
namespace Go.Hun
open Go.Vm
def DK (f:Nat→Int):Nat→Int
 |0=>0
 |k+1=>DK f k+f k
theorem EO {f g:Nat→Int}:∀ {n:Nat},(∀ k,k<n→f k=g k)→DK f n=DK g n
 |0,_=>rfl
 |n+1,h=>by simp only [DK];rw [EO fun k hk=>h k (by omega),h n (by omega)]
theorem OU {f g:Nat→Int}:∀ {n:Nat},(∀ k,k<n→f k≤g k)→DK f n≤DK g n
 |0,_=>Int.le_refl _
 |n+1,h=>by
  simp only [DK]
  have:=OU (f:=f) (g:=g) (n:=n) fun k hk=>h k (by omega)
  have:=h n (by omega)
  omega
theorem Xh (f g:Nat→Int):∀ n,DK (fun k=>f k+g k) n=DK f n+DK g n
 |0=>rfl
 |n+1=>by simp only [DK];rw [Xh f g n];omega
theorem YV {f:Nat→Int}:∀ {n:Nat},(∀ k,k<n→f k=0)→DK f n=0
 |0,_=>rfl
 |n+1,h=>by simp only [DK];rw [YV fun k hk=>h k (by omega),h n (by omega)];rfl
theorem MI (c:Int):∀ n:Nat,DK (fun _=>c) n=n*c
 |0=>by simp [DK]
 |n+1=>by
  simp only [DK];rw [MI c n]
  push_cast
  rw [Int.add_mul,Int.one_mul]
theorem jE {f:Nat→Int} {a b:Int}:∀ {n:Nat},(∀ k,k<n→a≤f k∧f k≤b)→n*a≤DK f n∧DK f n≤n*b:=fun {n} h=>by
 have h1:=OU (f:=fun _=>a) (g:=f) (n:=n) fun k hk=>(h k hk).1
 have h2:=OU (f:=f) (g:=fun _=>b) (n:=n) fun k hk=>(h k hk).2
 rw [MI] at h1 h2
 exact ⟨h1,h2⟩
theorem SX {f:Nat→Int} {j:Nat}:∀ {n:Nat},j<n→DK f n=f j+DK (fun k=>if k=j then 0 else f k) n
 |n+1,h=>by
  simp only [DK]
  by_cases e:j=n
  ·subst e
   rw [if_pos rfl,EO (f:=fun k=>if k=j then 0 else f k) (g:=f) fun k hk=>if_neg (by omega)]
   omega
  ·rw [if_neg (fun x=>e x.symm),SX (f:=f) (j:=j) (n:=n) (by omega)]
   omega
theorem ZJ:∀ (n m:Nat) (κ:Nat→Nat) (f:Nat→Int),(∀ r,r<n→κ r<m)→(∀ r q,r<n→q<n→κ r=κ q→r=q)→(∀ k,k<m→(∀ r,r<n→κ r≠k)→f k=0)→DK f m=DK (fun r=>f (κ r)) n
 |0,m,κ,f,h1,h2,h3=>YV fun k hk=>h3 k hk fun r hr=>by omega
 |n+1,m,κ,f,h1,h2,h3=>by
  rw [SX (h1 n (by omega))]
  have ih:=ZJ n m κ (fun k=>if k=κ n then 0 else f k) (fun r hr=>h1 r (by omega)) (fun r q hr hq=>h2 r q (by omega) (by omega)) fun k hk hn=>by
   by_cases e:k=κ n
   ·simp only [if_pos e]
   ·simp only [if_neg e]
    refine h3 k hk fun r hr=>?_
    rcases Nat.lt_or_ge r n with h|h
    ·exact hn r h
    ·obtain rfl:r=n:=by omega
     exact fun x=>e x.symm
  rw [ih]
  simp only [DK]
  rw [EO (n:=n) (f:=fun r=>if κ r=κ n then 0 else f (κ r)) (g:=fun r=>f (κ r)) fun r hr=>if_neg fun e=>by have:=h2 r n (by omega) (by omega) e;omega]
  omega
theorem VZ:∀ (n m:Nat) (κ:Nat→Nat) (f:Nat→Int),(∀ r q,r<n→q<n→κ r<m→κ r=κ q→r=q)→(∀ k,k<m→f k≤0)→DK f m≤DK (fun r=>if κ r<m then f (κ r) else 0) n
 |0,m,κ,f,h2,h3=>by
  have:=OU (f:=f) (g:=fun _=>0) (n:=m) h3
  rw [MI] at this
  simp only [DK];omega
 |n+1,m,κ,f,h2,h3=>by
  simp only [DK]
  by_cases hk:κ n<m
  ·rw [if_pos hk,SX hk]
   have ih:=VZ n m κ (fun k=>if k=κ n then 0 else f k) (fun r q hr hq=>h2 r q (by omega) (by omega)) fun k hk=>by
    by_cases e:k=κ n
    ·simp only [if_pos e];omega
    ·simp only [if_neg e];exact h3 k hk
   have e2:DK (fun r=>if κ r<m then (if κ r=κ n then 0 else f (κ r)) else 0) n=DK (fun r=>if κ r<m then f (κ r) else 0) n:=EO fun r hr=>by
    by_cases h:κ r<m
    ·rw [if_pos h,if_pos h,if_neg fun e=>by have:=h2 r n (by omega) (by omega) h e;omega]
    ·rw [if_neg h,if_neg h]
   rw [e2] at ih
   omega
  ·rw [if_neg hk]
   have ih:=VZ n m κ f (fun r q hr hq=>h2 r q (by omega) (by omega)) h3
   omega
section
variable {costs:List (List Int)} {n m:Nat} {B:Int}
structure a8v (costs:List (List Int)) (n:Nat) (o:List Ix) (j:Nat) (x:Out):Prop where
 len:x.cols.length=n
 cols:∀ k,1≤k→k≤j→0<own o k→gi x.cols (own o k-1)=(k:Int)-1
 total:x.total=DK (fun k=>if 0<own o (k+1) then cst costs (own o (k+1)) (k+1) else 0) j
theorem Xz {s:lJ} (h:su costs n m n s):∀ j,j≤m→a8v costs n s.owner j (KT costs s.owner n j)
 |0,_=>⟨by simp [KT],fun k k1 k2=>by omega,rfl⟩
 |j+1,hj=>by
  obtain ⟨i1,i2,i3⟩:=Xz h j (by omega)
  have e:KT costs s.owner n (j+1)=rG costs s.owner (KT costs s.owner n j) (j+1):=rfl
  rw [e]
  generalize KT costs s.owner n j=x at *
  unfold rG
  have e2:(gi s.owner (j+1)).n=own s.owner (j+1):=rfl
  simp only [e2]
  by_cases hp:0<own s.owner (j+1)
  ·rw [if_pos hp]
   have hle:=h.own (j+1) (by omega) hj
   refine ⟨by simp [i1],fun k k1 k2 k3=>?_,?_⟩
   ·show gi (x.cols.set (own s.owner (j+1)-1) (((j+1:Nat):Int)-1)) _=_
    rw [gs (by omega)]
    by_cases e:k=j+1
    ·subst e;rw [if_pos rfl]
    ·rw [if_neg,i2 k k1 (by omega) k3]
     intro e3
     have:=h.inj k (j+1) k1 (by omega) (by omega) hj (by omega) (by omega)
     omega
   ·simp only [DK]
    rw [if_pos hp,i3]
    unfold cst
    rfl
  ·rw [if_neg hp]
   refine ⟨i1,fun k k1 k2 k3=>?_,?_⟩
   ·by_cases e:k=j+1
    ·subst e;exact absurd k3 hp
    ·exact i2 k k1 (by omega) k3
   ·simp only [DK]
    rw [if_neg hp,i3];omega
def Gv (costs:List (List Int)) (n m:Nat):Out:=KT costs (Dj costs n m n).owner n m
def J8 (costs:List (List Int)) (n m:Nat):List Int:=(Dj costs n m n).u.drop 1
def GR (costs:List (List Int)) (n m:Nat):List Int:=(Dj costs n m n).v.drop 1
theorem nV {α:Type} [Inhabited α] (l:List α) (j k:Nat):gi (l.drop j) k=gi l (j+k):=by
 unfold gi;rw [List.getElem?_drop]
structure a3f (c:Nat→Nat→Int) (n m:Nat) (B:Int) (x:Out) (U V:List Int):Prop where
 len:x.cols.length=n
 lU:U.length=n
 lV:V.length=m
 col:∀ r,r<n→0≤gi x.cols r∧gi x.cols r<m
 inj:∀ r q,r<n→q<n→gi x.cols r=gi x.cols q→r=q
 total:x.total=DK (fun r=>c r (gi x.cols r).toNat) n
 XG:∀ r k,r<n→k<m→gi U r+gi V k≤c r k
 neg:∀ k,k<m→-B≤gi V k∧gi V k≤0
 pos:∀ r,r<n→0≤gi U r∧gi U r≤B
 a2n:x.total=DK (fun r=>gi U r) n+DK (fun k=>gi V k) m
 free:∀ k,k<m→(∀ r,r<n→gi x.cols r≠k)→gi V k=0
theorem Xy (hc:Ir costs n m B):a3f (fun r k=>gi (gi costs r) k) n m B (Gv costs n m) (J8 costs n m) (GR costs n m):=by
 have h:=NV hc n (Nat.le_refl _)
 have hO:=Xz h m (Nat.le_refl _)
 have e1:KT costs (Dj costs n m n).owner n m=Gv costs n m:=rfl
 have e2:(Dj costs n m n).u.drop 1=J8 costs n m:=rfl
 have e3:(Dj costs n m n).v.drop 1=GR costs n m:=rfl
 rw [e1] at hO
 have hu:∀ r,gi (J8 costs n m) r=gi (Dj costs n m n).u (r+1):=fun r=>by rw [← e2,nV,Nat.add_comm]
 have hv:∀ k,gi (GR costs n m) k=gi (Dj costs n m n).v (k+1):=fun k=>by rw [← e3,nV,Nat.add_comm]
 have lU:(J8 costs n m).length=n:=by rw [← e2,List.length_drop,h.lu];omega
 have lV:(GR costs n m).length=m:=by rw [← e3,List.length_drop,h.lv];omega
 generalize J8 costs n m=U at *
 generalize GR costs n m=V at *
 generalize Gv costs n m=x at *
 generalize Dj costs n m n=s at *
 have hb:=hc.big
 have hnm:=hc.nm
 have XR:∀ r,r<n→∃ k,1≤k∧k≤m∧own s.owner k=r+1∧gi x.cols r=(k:Int)-1:=fun r hr=>by
  obtain ⟨k,k1,k2,k3⟩:=h.all (r+1) (by omega) (by omega)
  have:=hO.cols k k1 k2 (by omega)
  rw [k3,Nat.add_sub_cancel] at this
  exact ⟨k,k1,k2,k3,this⟩
 have hown:∀ r,r<n→own s.owner ((gi x.cols r).toNat+1)=r+1∧(gi x.cols r).toNat<m:=fun r hr=>by
  obtain ⟨k,k1,k2,k3,k4⟩:=XR r hr
  have:(gi x.cols r).toNat+1=k:=by omega
  rw [this];exact ⟨k3,by omega⟩
 have hinj:∀ r q,r<n→q<n→(gi x.cols r).toNat=(gi x.cols q).toNat→r=q:=fun r q hr hq e=>by
  have h1:=(hown r hr).1
  have h2:=(hown q hq).1
  rw [e] at h1;omega
 have hfree:∀ k,k<m→(∀ r,r<n→(gi x.cols r).toNat≠k)→own s.owner (k+1)=0:=fun k hk hn=>by
  rcases Nat.eq_zero_or_pos (own s.owner (k+1)) with e|e
  ·exact e
  ·have hle:=h.own (k+1) (by omega) (by omega)
   have:=hO.cols (k+1) (by omega) (by omega) e
   exact absurd (by omega) (hn (own s.owner (k+1)-1) (by omega))
 have ht:x.total=DK (fun r=>gi (gi costs r) (gi x.cols r).toNat) n:=by
  rw [hO.total,ZJ n m (fun r=>(gi x.cols r).toNat) _ (fun r hr=>(hown r hr).2) hinj fun k hk hn=>by
   rw [if_neg (by rw [hfree k hk hn];omega)]]
  refine EO fun r hr=>?_
  rw [(hown r hr).1,if_pos (by omega)]
  unfold cst
  rw [Nat.add_sub_cancel,Nat.add_sub_cancel]
 have hfe:∀ r k,r<n→k<m→gi U r+gi V k≤gi (gi costs r) k:=fun r k hr hk=>by
  rw [hu,hv]
  have:=h.XG (r+1) (k+1) (by omega) (by omega) (by omega) (by omega)
  unfold cst at this
  rwa [Nat.add_sub_cancel,Nat.add_sub_cancel] at this
 have hng:∀ k,k<m→gi V k≤0:=fun k hk=>by rw [hv];exact h.fP (k+1) (by omega) (by omega)
 have hps:∀ r,r<n→0≤gi U r:=fun r hr=>by rw [hu];exact h.Va (r+1) (by omega) (by omega)
 have hf:∃ k,k<m∧own s.owner (k+1)=0:=by
  refine Classical.byContradiction fun hn=>?_
  have hn:∀ k,k<m→own s.owner (k+1)≠0:=fun k h1 h3=>hn ⟨k,h1,h3⟩
  have:=VW n m (fun k=>own s.owner (k+1)-1) (fun k hk=>by
   have h1:=hn k hk
   have h2:=h.own (k+1) (by omega) (by omega)
   show own s.owner (k+1)-1<n
   omega) (fun k e hk he hf=>by
   have h1:=hn k hk
   have h2:=hn e he
   have hf:own s.owner (k+1)-1=own s.owner (e+1)-1:=hf
   have:=h.inj (k+1) (e+1) (by omega) (by omega) (by omega) (by omega) (by omega) h1
   omega)
  omega
 obtain ⟨f,f1,f2⟩:=hf
 have fv:gi V f=0:=by rw [hv];exact h.Px (f+1) (by omega) (by omega) f2
 have hub:∀ r,r<n→gi U r≤B:=fun r hr=>by
  have h1:=hfe r f hr f1
  have h2:=hc.hi (r+1) (f+1)
  unfold cst at h2
  rw [Nat.add_sub_cancel,Nat.add_sub_cancel] at h2
  omega
 have a4d:∀ r,r<n→gi U r+gi V (gi x.cols r).toNat=gi (gi costs r) (gi x.cols r).toNat:=fun r hr=>by
  obtain ⟨h1,h2⟩:=hown r hr
  have:=h.tight ((gi x.cols r).toNat+1) (by omega) (by omega) (by omega)
  rw [h1] at this
  rw [hu,hv]
  unfold cst at this
  rwa [Nat.add_sub_cancel,Nat.add_sub_cancel] at this
 have hV0:∀ k,k<m→(∀ r,r<n→(gi x.cols r).toNat≠k)→gi V k=0:=fun k hk hn=>by
  rw [hv];exact h.Px (k+1) (by omega) (by omega) (hfree k hk hn)
 refine ⟨hO.len,lU,lV,fun r hr=>?_,fun r q hr hq e=>hinj r q hr hq (by rw [e]),ht,hfe,fun k hk=>⟨?_,hng k hk⟩,fun r hr=>⟨hps r hr,hub r hr⟩,?_,fun k hk hn=>hV0 k hk fun r hr e=>hn r hr (by obtain ⟨j,j1,j2,j3,j4⟩:=XR r hr;omega)⟩
 ·obtain ⟨k,k1,k2,k3,k4⟩:=XR r hr
  omega
 ·by_cases e:own s.owner (k+1)=0
  ·rw [hv,h.Px (k+1) (by omega) (by omega) e];omega
  ·have hle:=h.own (k+1) (by omega) (by omega)
   have h1:=h.tight (k+1) (by omega) (by omega) e
   have h2:=hub (own s.owner (k+1)-1) (by omega)
   rw [hu] at h2
   have h3:own s.owner (k+1)-1+1=own s.owner (k+1):=by omega
   rw [h3] at h2
   have h4:=hc.lo (own s.owner (k+1)) (k+1)
   rw [hv];omega
 ·rw [ht,EO (fun r hr=>(a4d r hr).symm),Xh]
  congr 1
  rw [ZJ n m (fun r=>(gi x.cols r).toNat) (fun k=>gi V k) (fun r hr=>(hown r hr).2) hinj hV0]
end
def dF (l:List (List Int)) (skip:Int) (cols:Nat→Int) (r:Nat):Int:=if cols r<0 then skip else gi (gi l r) (cols r).toNat
structure oJ (n m:Nat) (cols:Nat→Int):Prop where
 rng:∀ r,r<n→-1≤cols r∧cols r<m
 inj:∀ r q,r<n→q<n→0≤cols r→cols r=cols q→r=q
structure a4k (l:List (List Int)) (n m:Nat) (skip:Int) (U V:Nat→Int):Prop where
 XG:∀ r k,r<n→k<m→U r+V k≤gi (gi l r) k
 skip:∀ r,r<n→U r≤skip
 neg:∀ k,k<m→V k≤0
theorem weak {l:List (List Int)} {n m:Nat} {skip:Int} {U V:Nat→Int} {cols:Nat→Int} (hp:a4k l n m skip U V) (hc:oJ n m cols):DK U n+DK V m≤DK (dF l skip cols) n:=by
 have h1:=VZ n m (fun r=>if cols r<0 then m else (cols r).toNat) V (fun r q hr hq h e=>by
  by_cases a:cols r<0
  ·rw [if_pos a] at h;omega
  ·rw [if_neg a] at h e
   by_cases b:cols q<0
   ·rw [if_pos b] at e;omega
   ·rw [if_neg b] at e
    exact hc.inj r q hr hq (by omega) (by omega)) hp.neg
 have h2:=OU (n:=n) (f:=fun r=>U r+(if (if cols r<0 then m else (cols r).toNat)<m then V (if cols r<0 then m else (cols r).toNat) else 0)) (g:=dF l skip cols) fun r hr=>by
  unfold dF
  have hr1:=hc.rng r hr
  by_cases a:cols r<0
  ·simp only [if_pos a]
   rw [if_neg (by omega)]
   have:=hp.skip r hr
   omega
  ·simp only [if_neg a]
   rw [if_pos (by omega)]
   exact hp.XG r _ hr (by omega)
 rw [Xh] at h2
 omega
def DC (l:List (List Int)) (skip:Int) (n:Nat):List (List Int):=l.map fun row=>row++List.replicate (n+1) skip
theorem gi_map' {α β:Type} [Inhabited α] [Inhabited β] (f:α→β) {l:List α} {i:Nat} (h:i<l.length):gi (l.map f) i=f (gi l i):=by
 unfold gi;simp [List.getElem?_map,List.getElem?_eq_getElem h]
structure a0j (l:List (List Int)) (n m:Nat) (skip B:Int):Prop where
 len:l.length=n
 row:∀ r,r<n→(gi l r).length=m
 rng:∀ r k,r<n→k<m→0≤gi (gi l r) k∧gi (gi l r) k≤B
 skip:0≤skip∧skip≤B
 big:B≤1000000000000
theorem VD {l:List (List Int)} {n m:Nat} {skip B:Int} (h:a0j l n m skip B) {r k:Nat} (hr:r<n):gi (gi (DC l skip n) r) k=if k<m then gi (gi l r) k else if k<m+(n+1) then skip else 0:=by
 unfold DC
 rw [gi_map' _ (by rw [h.len];exact hr)]
 have:=h.row r hr
 unfold gi at this ⊢
 rw [List.getElem?_append]
 by_cases h1:k<m
 ·rw [if_pos (by omega),if_pos h1]
 ·rw [if_neg (by omega),if_neg h1,List.getElem?_replicate]
  by_cases h2:k<m+(n+1)
  ·rw [if_pos (by omega),if_pos h2];rfl
  ·rw [if_neg (by omega),if_neg h2];rfl
theorem Yk {l:List (List Int)} {n m:Nat} {skip B:Int} (h:a0j l n m skip B):Ir (DC l skip n) n (m+(n+1)) B:=by
 have h0:=h.skip
 have hb:0≤B:=by omega
 have:∀ r k,0≤gi (gi (DC l skip n) r) k∧gi (gi (DC l skip n) r) k≤B:=fun r k=>by
  rcases Nat.lt_or_ge r n with h1|h1
  ·rw [VD h h1]
   split
   ·rename_i h2;exact h.rng r k h1 h2
   ·split
    ·exact h0
    ·omega
  ·have e:gi (DC l skip n) r=default:=by
    unfold gi DC
    rw [List.getElem?_eq_none (by rw [List.length_map,h.len];omega)];rfl
   rw [e]
   have:gi (default:List Int) k=0:=by
    show ((([]:List Int)[k]?).getD 0)=0
    simp
   rw [this];omega
 exact ⟨fun r k=>(this _ _).1,fun r k=>(this _ _).2,⟨hb,h.big⟩,by omega⟩
def KL (m:Nat) (c:Int):Int:=if (m:Int)≤c then -1 else c
def vg (l:List (List Int)) (n m:Nat) (skip:Int):List Int:=(Gv (DC l skip n) n (m+(n+1))).cols.map (KL m)
def jw (l:List (List Int)) (n m:Nat) (skip:Int):Int:=(Gv (DC l skip n) n (m+(n+1))).total
def wV (l:List (List Int)) (n m:Nat) (skip:Int):List Int:=J8 (DC l skip n) n (m+(n+1))
def uh (l:List (List Int)) (n m:Nat) (skip:Int):List Int:=(GR (DC l skip n) n (m+(n+1))).take m
structure a8y (l:List (List Int)) (n m:Nat) (skip B:Int) (cols U V:List Int) (total:Int):Prop where
 lC:cols.length=n
 lU:U.length=n
 lV:V.length=m
 part:oJ n m (fun r=>gi cols r)
 tot:total=DK (dF l skip fun r=>gi cols r) n
 pot:a4k l n m skip (fun r=>gi U r) (fun k=>gi V k)
 a2n:total=DK (fun r=>gi U r) n+DK (fun k=>gi V k) m
 a8k:∀ r,r<n→0≤gi U r∧gi U r≤B
 a5z:∀ k,k<m→-B≤gi V k∧gi V k≤0
theorem gi_take' {α:Type} [Inhabited α] (l:List α) {j k:Nat} (h:k<j):gi (l.take j) k=gi l k:=by
 unfold gi;rw [List.getElem?_take,if_pos h]
theorem Qu (f:Nat→Int) (m:Nat):∀ n,DK f (m+n)=DK f m+DK (fun k=>f (m+k)) n
 |0=>by simp [DK]
 |n+1=>by
  rw [← Nat.add_assoc]
  simp only [DK]
  rw [Qu f m n];omega
theorem yI {l:List (List Int)} {n m:Nat} {skip B:Int} (h:a0j l n m skip B):a8y l n m skip B (vg l n m skip) (wV l n m skip) (uh l n m skip) (jw l n m skip):=by
 have hs:=Xy (Yk h)
 have eC:vg l n m skip=(Gv (DC l skip n) n (m+(n+1))).cols.map (KL m):=rfl
 have eT:jw l n m skip=(Gv (DC l skip n) n (m+(n+1))).total:=rfl
 have eU:wV l n m skip=J8 (DC l skip n) n (m+(n+1)):=rfl
 have eV:uh l n m skip=(GR (DC l skip n) n (m+(n+1))).take m:=rfl
 rw [eC,eT,eU,eV]
 generalize Gv (DC l skip n) n (m+(n+1))=x at *
 generalize J8 (DC l skip n) n (m+(n+1))=U at *
 generalize GR (DC l skip n) n (m+(n+1))=V at *
 obtain ⟨s1,s2,s3,s4,s5,s6,s7,s8,s9,s10,s11⟩:=hs
 have gC:∀ r,r<n→gi (x.cols.map (KL m)) r=KL m (gi x.cols r):=fun r hr=>gi_map' _ (by omega)
 have gV:∀ k,k<m→gi (V.take m) k=gi V k:=fun k hk=>gi_take' V hk
 have part:oJ n m (fun r=>gi (x.cols.map (KL m)) r):=by
  refine ⟨fun r hr=>?_,fun r q hr hq h1 h2=>?_⟩
  ·rw [gC r hr]
   have:=s4 r hr
   unfold KL;split<;>omega
  ·rw [gC r hr] at h1 h2
   rw [gC q hq] at h2
   refine s5 r q hr hq ?_
   have:=s4 q hq
   unfold KL at h1 h2
   split at h2<;>split at h2<;>omega
 have tot:x.total=DK (dF l skip fun r=>gi (x.cols.map (KL m)) r) n:=by
  rw [s6]
  refine EO fun r hr=>?_
  have:=s4 r hr
  show _=if gi (x.cols.map (KL m)) r<0 then skip else gi (gi l r) (gi (x.cols.map (KL m)) r).toNat
  rw [gC r hr,VD h hr]
  unfold KL
  by_cases h1:(m:Int)≤gi x.cols r
  ·rw [if_pos h1,if_neg (by omega),if_pos (by omega),if_pos (by omega)]
  ·rw [if_neg h1,if_pos (by omega),if_neg (by omega)]
 have hsk:∀ r,r<n→gi U r≤skip:=fun r hr=>by
  have hx:∃ k,k<n+1∧∀ q,q<n→gi x.cols q≠((m+k:Nat):Int):=by
   refine Classical.byContradiction fun hn=>?_
   have hn:∀ k,k<n+1→∃ q,q<n∧gi x.cols q=((m+k:Nat):Int):=fun k hk=>Classical.byContradiction fun h2=>hn ⟨k,hk,fun q hq e=>h2 ⟨q,hq,e⟩⟩
   have hn':∀ k,∃ q,k<n+1→q<n∧gi x.cols q=((m+k:Nat):Int):=fun k=>by
    by_cases hk:k<n+1
    ·obtain ⟨q,hq⟩:=hn k hk;exact ⟨q,fun _=>hq⟩
    ·exact ⟨0,fun h=>absurd h hk⟩
   have hF:=fun k=>Classical.choose_spec (hn' k)
   have:=VW n (n+1) (fun k=>Classical.choose (hn' k)) (fun k hk=>(hF k hk).1) (fun k e hk he hf=>by
    have h1:=(hF k hk).2
    have h2:=(hF e he).2
    have hf:Classical.choose (hn' k)=Classical.choose (hn' e):=hf
    rw [hf,h2] at h1;omega)
   omega
  obtain ⟨k,k1,k2⟩:=hx
  have h1:=s7 r (m+k) hr (by omega)
  rw [VD h hr,if_neg (by omega),if_pos (by omega)] at h1
  have h0:=s11 (m+k) (by omega) k2
  omega
 have a2n:DK (fun k=>gi V k) (m+(n+1))≤DK (fun k=>gi (V.take m) k) m:=by
  rw [Qu,EO (n:=m) (f:=fun k=>gi (V.take m) k) (g:=fun k=>gi V k) gV]
  have:=OU (n:=n+1) (f:=fun k=>gi V (m+k)) (g:=fun _=>0) fun k hk=>(s8 (m+k) (by omega)).2
  rw [MI] at this
  omega
 have pot:a4k l n m skip (fun r=>gi U r) (fun k=>gi (V.take m) k):=by
  refine ⟨fun r k hr hk=>?_,hsk,fun k hk=>?_⟩
  ·have h1:=s7 r k hr (by omega)
   rw [VD h hr,if_pos hk] at h1
   show gi U r+gi (V.take m) k≤_
   rw [gV k hk];exact h1
  ·show gi (V.take m) k≤0
   rw [gV k hk];exact (s8 k (by omega)).2
 have hw:=weak pot part
 exact ⟨by rw [List.length_map,s1],s2,by rw [List.length_take,s3];omega,part,tot,pot,by omega,s9,fun k hk=>by rw [gV k hk];exact s8 k (by omega)⟩
end Go.Hun
namespace Go.Proofs.YtdabojnmoejilaaGreatDoor
open Go Go.Am Go.Vm Go.Hun
attribute [local irreducible] Aa Af Ar Ad BA AY CG AO AL Aw Vm.Done CW Bl
def xQ (l:List (List Int)):Nat:=(gi l 0).length
theorem MF (e:TypeId) (l:List (List Int)) (hl:l.length<1000000):AY env 69 [.lst e (cells l) l.length] (.p (.int .i64 (xQ l:Int))):=by
 refine AY.enter (AB (by decide)) Tryz.func69 rfl (by kernel_rfl) (by simp [Tryz.ntmps69]) ?_
 by_cases h:l.length=0
 ·have hl0:l=[]:=List.length_eq_zero_iff.1 h
  subst hl0
  repeat' (first|apply Ad.assoc|apply Ad.AA|apply Ad.BL|apply Af.nil|apply Af.one|(apply Aa.assign;rfl)|(apply Aa.move;rfl)|(apply Aa.int;rfl;rfl;rfl)|(apply Aa.BH;rfl;rfl)|(apply Ad.Bh;rfl))
  all_goals first|(exfalso;omega)|contradiction|(refine Done.ret rfl (.refl _) (by exact PV.Ac rfl) Ah.nil (Nat.zero_le _) (Nat.le_refl _) ⟨?_,rfl,rfl⟩;try rfl)
 ·repeat' (first|apply Ad.assoc|apply Ad.AA|apply Ad.Au|apply Ad.ret|apply Af.nil|apply Af.one|(apply Aa.assign;rfl)|(apply Aa.move;rfl)|(apply Aa.int;rfl;rfl;rfl)|(apply Aa.ZL;rfl;rfl;rfl;omega;omega;rfl)|(apply Aa.load;rfl;rfl)|(apply Aa.BH;rfl;rfl)|(apply Ad.Ae;rfl)|(intro _;try (exfalso;omega)))
  all_goals first|(exfalso;omega)|contradiction|(refine Done.ret rfl (.refl _) (by exact PV.Ac rfl) Ah.nil (Nat.zero_le _) (Nat.le_refl _) ⟨?_,rfl,rfl⟩;try rfl)
section
variable {costs:List (List Int)} {n m:Nat} {B:Int}
theorem x9 {i:Nat} {o:List Ix} {A:Nat→Nat} {t:Nat} {g:Gr} (h:iM costs n m i o A t g) (hc:Ir costs n m B) (ho:rZ m i o) (hi:i<n) (hr:Hun.own o (A t)≠0):gi (Gx costs o m g).v 0+gi (Gx costs o m g).u (i+1)=gi g.v 0+gi g.u (i+1):=by
 have hR:=JQ h hc ho hi hr
 have hS:=ND h hc ho hi hr
 have h0:gi (CQ g) 0=true:=(hR.doneD 0).2 ⟨0,by omega,h.zero⟩
 have h1:=hS.u1 0 (Nat.zero_le _) h0
 have h2:=hS.v1 0 (Nat.zero_le _) h0
 rw [ho.zero] at h1
 show gi (Je costs o m g).v 0+gi (Je costs o m g).u (i+1)=_
 omega
theorem ZH {i:Nat} {s:lJ} (h:su costs n m i s) (hc:Ir costs n m B) (hi:i<n):∀ t,(∀ p,p<t→Hun.own (Jh s (i+1)) (MN costs m i s p)≠0)→gi (Ej costs (Jh s (i+1)) m (RS m s) t).v 0+gi (Ej costs (Jh s (i+1)) m (RS m s) t).u (i+1)=gi s.v 0
 |0,_=>by
  show gi s.v 0+gi s.u (i+1)=_
  rw [h.uz (i+1) (by omega)];omega
 |t+1,hp=>by
  have ih:=ZH h hc hi t fun p hp'=>hp p (by omega)
  have:=x9 (Po h hc hi t fun p hp'=>hp p (by omega)) hc (Y7 h) hi (hp t (by omega))
  show gi (Gx costs _ m _).v 0+gi (Gx costs _ m _).u (i+1)=_
  omega
theorem dU (hc:Ir costs n m B):∀ i,i≤n→-(i*B)≤gi (Dj costs n m i).v 0∧gi (Dj costs n m i).v 0≤0
 |0,_=>by
  have:gi (Dj costs n m 0).v 0=0:=Vy 0
  rw [this];simp
 |i+1,hi=>by
  have ih:=dU hc i (by omega)
  have h:=NV hc i (by omega)
  obtain ⟨a,b,c⟩:=aK h hc (by omega)
  have h1:=ZH h hc (by omega) _ a
  have hg:=Po h hc (by omega) _ a
  have h2:=hg.ule hc (Y7 h) (by have:=hc.nm;omega) (r:=i+1) (by omega) (Nat.le_refl _)
  have h3:=hg.Va (i+1) (by omega) (Nat.le_refl _)
  have e:(Dj costs n m (i+1)).v=(Ej costs (Jh (Dj costs n m i) (i+1)) m (RS m (Dj costs n m i)) (XM costs m (Dj costs n m i) (i+1))).v:=rfl
  rw [e]
  push_cast
  rw [Int.add_mul,Int.one_mul]
  omega
end
def nZ (e:TypeId) (costs:List (List Int)) (n m k row a:Nat) (s:sG) (j:Nat):Vm.Frame :=
 [(14,.p (.int .i64 s.delta)),(15,.p (.int .i64 (s.next:Int))),(16,.p (.int .i64 ((j+1:Nat):Int))),(0,.p (.lst e (cells costs) n)),(2,.ref 0 0),(3,.p (.int .i64 (n:Int))),(4,.p (.int .i64 (m:Int))),(5,.vec 1 (n+1) 0 (n+1)),(6,.vec 2 (m+1) 0 (m+1)),(7,.vec 3 (m+1) 0 (m+1)),(8,.vec 4 (m+1) 0 (m+1)),(9,.p (.int .i64 ((k+1:Nat):Int))),(10,.p (.int .i64 (a:Int))),(11,.vec 6 (m+1) 0 (m+1)),(12,.vec 7 (m+1) 0 (m+1)),(13,.p (.int .i64 (row:Int)))]
def zx:Vm.HB:=.box 69 [.p (.val (.slice none 0 0)),.p (.int .i64 0),.p (.val (.slice none 0 0)),.p (.val (.slice none 0 0))]
def l9 (n m:Nat) (u v:List Int) (o:List Ix) (done:List Bool) (s:sG):Vm.Heap :=
 [(4,.vec 3 (cells s.way) (m+1) false),(6,.vec 3 (cells s.least) (m+1) false),(7,.vec 4 (cells done) (m+1) false),(0,zx),(1,.vec 3 (cells u) (n+1) false),(2,.vec 3 (cells v) (m+1) false),(3,.vec 3 (cells o) (m+1) false)]
theorem qC {costs:List (List Int)} {n m k row a:Nat} {B:Int} {e:TypeId} {u v:List Int} {o:List Ix} {done:List Bool} {s0:sG} (hB:0≤B∧B≤1000000000000) (hl:costs.length=n) (hm:m≤1000) (hn:n≤1000) (hr:1≤row∧row≤n) (hrl:(gi costs (row-1)).length=m) (UK:∀ j,0≤gi (gi costs (row-1)) j∧gi (gi costs (row-1)) j≤B)
 (hu:u.length=n+1) (hv:v.length=m+1) (hd9:done.length=m+1) (h1:s0.least.length=m+1) (h2:s0.way.length=m+1) (hu9:0≤gi u row∧gi u row≤B) (hv9:∀ j,1≤j→j≤m→-B≤gi v j∧gi v j≤0) :
 Ad env 0 (ZB Tryz.f72 14) (nZ e costs n m k row a s0 0) (l9 n m u v o done s0) 8 (fun ex L' H' nx'=>ex=.exit 4∧Xb L' H' nx' (nZ e costs n m k row a (Kv (gi costs (row-1)) (gi u row) v done a s0 m) m) (l9 n m u v o done (Kv (gi costs (row-1)) (gi u row) v done a s0 m)) 8):=by
 have hs1:EX .sub .i64 (row:Int) 1=some (.int .i64 ((row-1:Nat):Int)):=by
  simp only [EX]
  rw [wrap_i64 (by omega)]
  congr 2;omega
 show Ad env 0 (Code.loop _) _ _ _ _
 refine Ad.Ed m (nZ e costs n m k row a s0 0 |>.drop 3) (l9 n m u v o done s0 |>.drop 2) (fun j _=>nZ e costs n m k row a (Kv (gi costs (row-1)) (gi u row) v done a s0 j) j) (fun j _=>l9 n m u v o done (Kv (gi costs (row-1)) (gi u row) v done a s0 j)) 8 (by omega) (Nat.le_refl _) ?_ ?_ ?_ ?_
 ·repeat (first|exact Ak.nil|refine Ak.same (by exact PV.Ac rfl) rfl ?_|refine Ak.cons trivial rfl (.of_eq (Aq (by simp<;>omega))) ?_)
 ·repeat (first|exact Ah.nil|(refine Ah.cons (Aj rfl) ?_ rfl ?_ ?_;(first|exact HB.Ac rfl|exact AP.Ag _ _|(simp [HB.under,AP.under,PV.under]));(first|exact Bg.refl _|exact Bg.vec (Bf.refl _) (by simp))))
 ·intro j hj
  have hI:=Tt (row:=gi costs (row-1)) (ur:=gi u row) (v:=v) (done:=done) (a:=a) (s0:=s0) h1 h2 j (by omega)
  have eS2:Kv (gi costs (row-1)) (gi u row) v done a s0 (j+1)=Ll (gi costs (row-1)) (gi u row) v done a (Kv (gi costs (row-1)) (gi u row) v done a s0 j) (j+1):=rfl
  rw [eS2]
  generalize Kv (gi costs (row-1)) (gi u row) v done a s0 j=sc at *
  have n1:=hI.ll
  have n2:=hI.lw
  have hc1:=UK j
  have hv1:=hv9 (j+1) (by omega) (by omega)
  obtain ⟨C,hC⟩:∃ C,C=Uc (gi costs (row-1)) (gi u row) v (j+1):=⟨_,rfl⟩
  have hC':C=gi (gi costs (row-1)) j-gi u row-gi v (j+1):=hC
  have hCv:EX .sub .i64 (gi (gi costs (row-1)) j-gi u row) (gi v (j+1))=some (.int .i64 C):=by
   rw [hC']
   simp only [EX]
   rw [wrap_i64 (by omega)]
  have hs2:EX .sub .i64 ((j+1:Nat):Int) 1=some (.int .i64 (j:Int)):=by
   simp only [EX]
   rw [wrap_i64 (by omega)]
   congr 2;omega
  clear hI UK hv9 eS2
  by_cases hd:gi done (j+1)=true
  ·have e9:Ll (gi costs (row-1)) (gi u row) v done a sc (j+1)=sc:=if_pos hd
   rw [e9]
   repeat' (first|apply Ad.assoc|apply Ad.AA|apply Ad.region|apply Ad.Au|apply Ad.AX|apply Ad.Ai|apply AO.normal|apply AL.exit|apply Af.nil|apply Af.one|(apply Aa.Dk;rfl;rfl;(first|omega|(simp only [NR]<;>omega));exact congrArg (fun b=>some (FV.bool b)) (hd))|(apply Aa.assign;rfl)|(apply Aa.move;rfl)|(apply Aa.Bq;rfl;rfl;omega)|(apply Aa.int;rfl;rfl;rfl)|(apply Aa.Df;rfl;rfl;rfl;rfl;omega)|(apply Ad.Bh;rfl)|(apply Ad.Ae;rfl)|(intro _;try (exfalso;omega)))
   all_goals try (exfalso;omega)
   refine Aw.normal ⟨by first|omega|decide,?_,?_⟩
   ·repeat (first|exact Ak.nil|refine Ak.same (by exact PV.Ac rfl) rfl ?_|refine Ak.cons trivial rfl (.of_eq (Aq (by simp<;>omega))) ?_)
   ·repeat (first|exact Ah.nil|(refine Ah.cons (Aj rfl) ?_ rfl ?_ ?_;(first|exact HB.Ac rfl|exact AP.Ag _ _|(simp [HB.under,AP.under,PV.under]));(first|exact Bg.refl _|exact Bg.vec (Bf.refl _) (by simp))))
  ·have hd':gi done (j+1)=false:=by cases h:gi done (j+1)<;>simp_all
   by_cases h1:C<gi sc.least (j+1)
   ·have hld:gi (sc.least.set (j+1) C) (j+1)=C:=by rw [gs (by omega),if_pos rfl]
    by_cases h2:C<sc.delta
    ·have e9:Ll (gi costs (row-1)) (gi u row) v done a sc (j+1)=⟨sc.least.set (j+1) C,sc.way.set (j+1) ⟨a⟩,C,j+1⟩:=by
      unfold Ll
      rw [← hC,if_neg hd,if_pos h1,if_pos h2]
     rw [e9]
     repeat' (first|apply Ad.assoc|apply Ad.AA|apply Ad.BI|apply Ad.region|apply Ad.Au|apply Ad.Ai|apply AO.normal|apply AL.normal|apply Af.nil|apply Ar.nil|apply Af.one|(apply Ar.bar;decide +kernel)|apply Ar.quiet|(apply Aa.Dk;rfl;rfl;(first|omega|(simp only [NR]<;>omega));exact congrArg (fun b=>some (FV.bool b)) (hd'))|(apply Aa.AV (l:=costs);rfl;rfl;rfl;omega;exact hl)|(apply Aa.int;rfl;rfl;exact hs1)|(apply Aa.int;rfl;rfl;exact hs2)|(apply Aa.int;rfl;rfl;exact hCv)|(apply Aa.D6 (y:=C);rfl;rfl;rfl;trivial;(first|rfl|(refine congrArg (fun t=>[PV.p (FV.int _ t)]) ?_;first|omega|(simp only [Int.natCast_add,Int.natCast_mul,Int.natCast_ediv,Int.natCast_emod]<;>omega)));rfl;rfl;decide;(first|omega|(simp only [List.length_set]<;>omega)))|(apply Aa.D6 (y:=(⟨a⟩:Ix));rfl;rfl;rfl;trivial;(first|rfl|(refine congrArg (fun t=>[PV.p (FV.int _ t)]) ?_;first|omega|(simp only [Int.natCast_add,Int.natCast_mul,Int.natCast_ediv,Int.natCast_emod]<;>omega)));rfl;rfl;decide;(first|omega|(simp only [List.length_set]<;>omega)))|(apply Aa.Dk;rfl;rfl;(first|omega|(simp only [List.length_set]<;>omega));exact congrArg (fun b=>some (FV.int .i64 b)) (hld))|(apply Aa.assign;rfl)|(apply Aa.move;rfl)|(apply Aa.Bq;rfl;rfl;omega)|(apply Aa.Hr;rfl;rfl;omega)|(apply Aa.int;rfl;rfl;rfl)|(apply Aa.AV;rfl;rfl;rfl;omega;rfl)|(apply Aa.Dk;rfl;rfl;omega;rfl)|(apply Aa.load;rfl;rfl)|(apply Aa.Df;rfl;rfl;rfl;rfl;omega)|(apply Ad.Az;rfl)|(apply Ad.Ae;rfl)|(apply Ad.AZ;rfl)|(intro _;try (exfalso;omega)))
     all_goals try (exfalso;omega)
     refine Aw.normal ⟨by first|omega|decide,?_,?_⟩
     ·repeat (first|exact Ak.nil|refine Ak.same (by exact PV.Ac rfl) rfl ?_|refine Ak.cons trivial rfl (.of_eq (Aq (by simp<;>omega))) ?_)
     ·repeat (first|exact Ah.nil|(refine Ah.cons (Aj rfl) ?_ rfl ?_ ?_;(first|exact HB.Ac rfl|exact AP.Ag _ _|(simp [HB.under,AP.under,PV.under]));(first|exact Bg.refl _|exact Bg.vec (Bf.refl _) (by simp))))
    ·have e9:Ll (gi costs (row-1)) (gi u row) v done a sc (j+1)=⟨sc.least.set (j+1) C,sc.way.set (j+1) ⟨a⟩,sc.delta,sc.next⟩:=by
      unfold Ll
      rw [← hC,if_neg hd,if_pos h1,if_neg h2]
     rw [e9]
     repeat' (first|apply Ad.assoc|apply Ad.AA|apply Ad.BI|apply Ad.region|apply Ad.Au|apply Ad.Ai|apply AO.normal|apply AL.normal|apply Ad.skip|apply Af.nil|apply Ar.nil|apply Af.one|(apply Ar.bar;decide +kernel)|apply Ar.quiet|(apply Aa.Dk;rfl;rfl;(first|omega|(simp only [NR]<;>omega));exact congrArg (fun b=>some (FV.bool b)) (hd'))|(apply Aa.AV (l:=costs);rfl;rfl;rfl;omega;exact hl)|(apply Aa.int;rfl;rfl;exact hs1)|(apply Aa.int;rfl;rfl;exact hs2)|(apply Aa.int;rfl;rfl;exact hCv)|(apply Aa.D6 (y:=C);rfl;rfl;rfl;trivial;(first|rfl|(refine congrArg (fun t=>[PV.p (FV.int _ t)]) ?_;first|omega|(simp only [Int.natCast_add,Int.natCast_mul,Int.natCast_ediv,Int.natCast_emod]<;>omega)));rfl;rfl;decide;(first|omega|(simp only [List.length_set]<;>omega)))|(apply Aa.D6 (y:=(⟨a⟩:Ix));rfl;rfl;rfl;trivial;(first|rfl|(refine congrArg (fun t=>[PV.p (FV.int _ t)]) ?_;first|omega|(simp only [Int.natCast_add,Int.natCast_mul,Int.natCast_ediv,Int.natCast_emod]<;>omega)));rfl;rfl;decide;(first|omega|(simp only [List.length_set]<;>omega)))|(apply Aa.Dk;rfl;rfl;(first|omega|(simp only [List.length_set]<;>omega));exact congrArg (fun b=>some (FV.int .i64 b)) (hld))|(apply Aa.assign;rfl)|(apply Aa.move;rfl)|(apply Aa.Bq;rfl;rfl;omega)|(apply Aa.Hr;rfl;rfl;omega)|(apply Aa.int;rfl;rfl;rfl)|(apply Aa.AV;rfl;rfl;rfl;omega;rfl)|(apply Aa.Dk;rfl;rfl;omega;rfl)|(apply Aa.load;rfl;rfl)|(apply Aa.Df;rfl;rfl;rfl;rfl;omega)|(apply Ad.Az;rfl)|(apply Ad.Ae;rfl)|(apply Ad.AZ;rfl)|(intro _;try (exfalso;omega)))
     all_goals try (exfalso;omega)
     refine Aw.normal ⟨by first|omega|decide,?_,?_⟩
     ·repeat (first|exact Ak.nil|refine Ak.same (by exact PV.Ac rfl) rfl ?_|refine Ak.cons trivial rfl (.of_eq (Aq (by simp<;>omega))) ?_)
     ·repeat (first|exact Ah.nil|(refine Ah.cons (Aj rfl) ?_ rfl ?_ ?_;(first|exact HB.Ac rfl|exact AP.Ag _ _|(simp [HB.under,AP.under,PV.under]));(first|exact Bg.refl _|exact Bg.vec (Bf.refl _) (by simp))))
   ·by_cases h2:gi sc.least (j+1)<sc.delta
    ·have e9:Ll (gi costs (row-1)) (gi u row) v done a sc (j+1)=⟨sc.least,sc.way,gi sc.least (j+1),j+1⟩:=by
      unfold Ll
      rw [← hC,if_neg hd,if_neg h1,if_pos h2]
     rw [e9]
     repeat' (first|apply Ad.assoc|apply Ad.AA|apply Ad.BI|apply Ad.region|apply Ad.Au|apply Ad.Ai|apply AO.normal|apply AL.normal|apply Af.nil|apply Ar.nil|apply Af.one|(apply Ar.bar;decide +kernel)|apply Ar.quiet|(apply Aa.Dk;rfl;rfl;(first|omega|(simp only [NR]<;>omega));exact congrArg (fun b=>some (FV.bool b)) (hd'))|(apply Aa.AV (l:=costs);rfl;rfl;rfl;omega;exact hl)|(apply Aa.int;rfl;rfl;exact hs1)|(apply Aa.int;rfl;rfl;exact hs2)|(apply Aa.int;rfl;rfl;exact hCv)|(apply Aa.assign;rfl)|(apply Aa.move;rfl)|(apply Aa.Bq;rfl;rfl;omega)|(apply Aa.Hr;rfl;rfl;omega)|(apply Aa.int;rfl;rfl;rfl)|(apply Aa.AV;rfl;rfl;rfl;omega;rfl)|(apply Aa.Dk;rfl;rfl;omega;rfl)|(apply Aa.load;rfl;rfl)|(apply Aa.Df;rfl;rfl;rfl;rfl;omega)|(apply Ad.Az;rfl)|(apply Ad.Ae;rfl)|(apply Ad.AZ;rfl)|(intro _;try (exfalso;omega)))
     all_goals try (exfalso;omega)
     refine Aw.normal ⟨by first|omega|decide,?_,?_⟩
     ·repeat (first|exact Ak.nil|refine Ak.same (by exact PV.Ac rfl) rfl ?_|refine Ak.cons trivial rfl (.of_eq (Aq (by simp<;>omega))) ?_)
     ·repeat (first|exact Ah.nil|(refine Ah.cons (Aj rfl) ?_ rfl ?_ ?_;(first|exact HB.Ac rfl|exact AP.Ag _ _|(simp [HB.under,AP.under,PV.under]));(first|exact Bg.refl _|exact Bg.vec (Bf.refl _) (by simp))))
    ·have e9:Ll (gi costs (row-1)) (gi u row) v done a sc (j+1)=sc:=by
      unfold Ll
      rw [← hC,if_neg hd,if_neg h1,if_neg h2]
     rw [e9]
     repeat' (first|apply Ad.assoc|apply Ad.AA|apply Ad.BI|apply Ad.region|apply Ad.Au|apply Ad.Ai|apply AO.normal|apply AL.normal|apply Ad.skip|apply Af.nil|apply Ar.nil|apply Af.one|(apply Ar.bar;decide +kernel)|apply Ar.quiet|(apply Aa.Dk;rfl;rfl;(first|omega|(simp only [NR]<;>omega));exact congrArg (fun b=>some (FV.bool b)) (hd'))|(apply Aa.AV (l:=costs);rfl;rfl;rfl;omega;exact hl)|(apply Aa.int;rfl;rfl;exact hs1)|(apply Aa.int;rfl;rfl;exact hs2)|(apply Aa.int;rfl;rfl;exact hCv)|(apply Aa.assign;rfl)|(apply Aa.move;rfl)|(apply Aa.Bq;rfl;rfl;omega)|(apply Aa.Hr;rfl;rfl;omega)|(apply Aa.int;rfl;rfl;rfl)|(apply Aa.AV;rfl;rfl;rfl;omega;rfl)|(apply Aa.Dk;rfl;rfl;omega;rfl)|(apply Aa.load;rfl;rfl)|(apply Aa.Df;rfl;rfl;rfl;rfl;omega)|(apply Ad.Az;rfl)|(apply Ad.Ae;rfl)|(apply Ad.AZ;rfl)|(intro _;try (exfalso;omega)))
     all_goals try (exfalso;omega)
     refine Aw.normal ⟨by first|omega|decide,?_,?_⟩
     ·repeat (first|exact Ak.nil|refine Ak.same (by exact PV.Ac rfl) rfl ?_|refine Ak.cons trivial rfl (.of_eq (Aq (by simp<;>omega))) ?_)
     ·repeat (first|exact Ah.nil|(refine Ah.cons (Aj rfl) ?_ rfl ?_ ?_;(first|exact HB.Ac rfl|exact AP.Ag _ _|(simp [HB.under,AP.under,PV.under]));(first|exact Bg.refl _|exact Bg.vec (Bf.refl _) (by simp))))
 ·repeat' (first|apply Ad.assoc|apply Ad.AA|apply Ad.AX|apply Aw.exit|apply Af.nil|apply Af.one|(apply Aa.move;rfl)|(apply Aa.int;rfl;rfl;rfl)|(apply Ad.Ae;rfl)|(intro _;try (exfalso;omega)))
  all_goals try (exfalso;omega)
  refine ⟨rfl,⟨Nat.le_refl _,?_,?_⟩⟩
  ·repeat (first|exact Ak.nil|refine Ak.same (by exact PV.Ac rfl) rfl ?_|refine Ak.cons trivial rfl (.of_eq (Aq (by simp<;>omega))) ?_)
  ·repeat (first|exact Ah.nil|(refine Ah.cons (Aj rfl) ?_ rfl ?_ ?_;(first|exact HB.Ac rfl|exact AP.Ag _ _|(simp [HB.under,AP.under,PV.under]));(first|exact Bg.refl _|exact Bg.vec (Bf.refl _) (by simp))))
end Go.Proofs.YtdabojnmoejilaaGreatDoor
namespace Go.Proofs.YtdabojnmoejilaaGreatDoor
open Go Go.Am Go.Vm Go.Hun
attribute [local irreducible] Aa Af Ar Ad BA AY CG AO AL Aw Vm.Done CW Bl
def aB (e:TypeId) (costs:List (List Int)) (n m k:Nat) (d:Int) (nxt:Nat) (j:Nat):Vm.Frame :=
 [(120,.p (.int .i64 (j:Int))),(0,.p (.lst e (cells costs) n)),(2,.ref 0 0),(3,.p (.int .i64 (n:Int))),(4,.p (.int .i64 (m:Int))),(5,.vec 1 (n+1) 0 (n+1)),(6,.vec 2 (m+1) 0 (m+1)),(7,.vec 3 (m+1) 0 (m+1)),(8,.vec 4 (m+1) 0 (m+1)),(9,.p (.int .i64 ((k+1:Nat):Int))),(11,.vec 6 (m+1) 0 (m+1)),(12,.vec 7 (m+1) 0 (m+1)),(14,.p (.int .i64 d)),(15,.p (.int .i64 (nxt:Int))),(119,.p (.int .i64 ((m+1:Nat):Int)))]
def Z8 (n m:Nat) (o way:List Ix) (done:List Bool) (t:yR):Vm.Heap :=
 [(1,.vec 3 (cells t.u) (n+1) false),(2,.vec 3 (cells t.v) (m+1) false),(6,.vec 3 (cells t.least) (m+1) false),(0,zx),(3,.vec 3 (cells o) (m+1) false),(4,.vec 3 (cells way) (m+1) false),(7,.vec 4 (cells done) (m+1) false)]
theorem jH {costs:List (List Int)} {n m k nxt:Nat} {d:Int} {e:TypeId} {o way:List Ix} {done:List Bool} {t0:yR} (hd:0≤d∧d≤1000000000000) (hm:m≤1000) (hn:n≤1000) (hu:t0.u.length=n+1) (hv:t0.v.length=m+1) (hl:t0.least.length=m+1) (ho:o.length=m+1) (hD:done.length=m+1)
 (h1:∀ j,j≤m→gi done j=true→(gi o j).n<t0.u.length) (h2:∀ j i,j≤m→i≤m→gi done j=true→gi done i=true→(gi o j).n=(gi o i).n→j=i)
 (hub:∀ j,j≤m→gi done j=true→0≤gi t0.u (gi o j).n∧gi t0.u (gi o j).n≤1000000000000) (hvb:∀ j,j≤m→-2000000000000000≤gi t0.v j∧gi t0.v j≤0) (hlb:∀ j,j≤m→gi done j=false→0≤gi t0.least j∧gi t0.least j≤far) :
 Ad env 0 (ZB Tryz.f72 23) (aB e costs n m k d nxt 0) (Z8 n m o way done t0) 8 (fun ex L' H' nx'=>ex=.exit 6∧Xb L' H' nx' (aB e costs n m k d nxt (m+1)) (Z8 n m o way done (Ib o done d t0 (m+1))) 8):=by
 have hf:far=1152921504606846976:=rfl
 show Ad env 0 (Code.loop _) _ _ _ _
 refine Ad.Ed (m+1) (aB e costs n m k d nxt 0 |>.drop 1) (Z8 n m o way done t0 |>.drop 3) (fun j _=>aB e costs n m k d nxt j) (fun j _=>Z8 n m o way done (Ib o done d t0 j)) 8 (by omega) (Nat.le_refl _) ?_ ?_ ?_ ?_
 ·repeat (first|exact Ak.nil|refine Ak.same (by exact PV.Ac rfl) rfl ?_|refine Ak.cons trivial rfl (.of_eq (Aq (by simp<;>omega))) ?_)
 ·repeat (first|exact Ah.nil|(refine Ah.cons (Aj rfl) ?_ rfl ?_ ?_;(first|exact HB.Ac rfl|exact AP.Ag _ _|(simp [HB.under,AP.under,PV.under]));(first|exact Bg.refl _|exact Bg.vec (Bf.refl _) (by simp))))
 ·intro j hj
  have hI:=Go.Hun.JK (owner:=o) (done:=done) (delta:=d) (t:=t0) (m:=m) hv hl h1 h2 j (by omega)
  have eS2:Ib o done d t0 (j+1)=SQ o done d (Ib o done d t0 j) j:=rfl
  rw [eS2]
  generalize Ib o done d t0 j=sc at *
  have n1:=hI.lu
  have n2:=hI.lv
  have n3:=hI.ll
  have hv1:=hvb j (by omega)
  have ev:gi sc.v j=gi t0.v j:=by rw [hI.v,if_neg (by omega)]
  by_cases hdj:gi done j=true
  ·have hu1:=hub j (by omega) hdj
   have hlt:=h1 j (by omega) hdj
   have eu:gi sc.u (gi o j).n=gi t0.u (gi o j).n:=hI.u0 _ fun i hi hi2 e=>by have:=h2 i j (by omega) (by omega) hi2 hdj e;omega
   have e9:SQ o done d sc j=⟨sc.u.set (gi o j).n (gi sc.u (gi o j).n+d),sc.v.set j (gi sc.v j-d),sc.least⟩:=if_pos hdj
   rw [e9]
   clear hI hub hvb hlb h1 h2 eS2
   repeat' (first|apply Ad.AA|apply Ad.region|apply Ad.Au|apply Ad.Ai|apply AO.normal|apply AL.normal|apply Af.nil|apply Af.one|(apply Aa.Dk;rfl;rfl;(first|omega|(simp only [NR]<;>omega));exact congrArg (fun b=>some (FV.bool b)) (hdj))|(apply Aa.D6 (y:=(gi sc.u (gi o j).n+d));rfl;rfl;rfl;trivial;(first|rfl|(refine congrArg (fun t=>[PV.p (FV.int _ t)]) ?_;first|omega|(simp only [Int.natCast_add,Int.natCast_mul,Int.natCast_ediv,Int.natCast_emod]<;>omega)));rfl;rfl;decide;(first|omega|(simp only [List.length_set]<;>omega)))|(apply Aa.D6 (y:=(gi sc.v j-d));rfl;rfl;rfl;trivial;(first|rfl|(refine congrArg (fun t=>[PV.p (FV.int _ t)]) ?_;first|omega|(simp only [Int.natCast_add,Int.natCast_mul,Int.natCast_ediv,Int.natCast_emod]<;>omega)));rfl;rfl;decide;(first|omega|(simp only [List.length_set]<;>omega)))|(apply Aa.assign;rfl)|(apply Aa.move;rfl)|(apply Aa.Bq;rfl;rfl;omega)|(apply Aa.Hr;rfl;rfl;omega)|(apply Aa.int;rfl;rfl;rfl)|(apply Aa.Dk;rfl;rfl;omega;rfl)|(apply Aa.Df;rfl;rfl;rfl;rfl;omega)|(apply Ad.Ae;rfl)|(apply Ad.cond_true;rfl)|(intro _;try (exfalso;omega)))
   all_goals try (exfalso;omega)
   refine Aw.normal ⟨by first|omega|decide,?_,?_⟩
   ·repeat (first|exact Ak.nil|refine Ak.same (by exact PV.Ac rfl) rfl ?_|refine Ak.cons trivial rfl (.of_eq (Aq (by simp<;>omega))) ?_)
   ·repeat (first|exact Ah.nil|(refine Ah.cons (Aj rfl) ?_ rfl ?_ ?_;(first|exact HB.Ac rfl|exact AP.Ag _ _|(simp [HB.under,AP.under,PV.under]));(first|exact Bg.refl _|exact Bg.vec (Bf.refl _) (by simp))))
  ·have hdj':gi done j=false:=by cases h:gi done j<;>simp_all
   have hl1:=hlb j (by omega) hdj'
   have el:gi sc.least j=gi t0.least j:=by rw [hI.least,if_neg (by omega)]
   have e9:SQ o done d sc j=⟨sc.u,sc.v,sc.least.set j (gi sc.least j-d)⟩:=if_neg hdj
   rw [e9]
   clear hI hub hvb hlb h1 h2 eS2
   repeat' (first|apply Ad.AA|apply Ad.region|apply Ad.Au|apply Ad.Ai|apply AO.normal|apply AL.normal|apply Af.nil|apply Af.one|(apply Aa.Dk;rfl;rfl;(first|omega|(simp only [NR]<;>omega));exact congrArg (fun b=>some (FV.bool b)) (hdj'))|(apply Aa.D6 (y:=(gi sc.least j-d));rfl;rfl;rfl;trivial;(first|rfl|(refine congrArg (fun t=>[PV.p (FV.int _ t)]) ?_;first|omega|(simp only [Int.natCast_add,Int.natCast_mul,Int.natCast_ediv,Int.natCast_emod]<;>omega)));rfl;rfl;decide;(first|omega|(simp only [List.length_set]<;>omega)))|(apply Aa.assign;rfl)|(apply Aa.move;rfl)|(apply Aa.Bq;rfl;rfl;omega)|(apply Aa.Hr;rfl;rfl;omega)|(apply Aa.int;rfl;rfl;rfl)|(apply Aa.Dk;rfl;rfl;omega;rfl)|(apply Aa.Df;rfl;rfl;rfl;rfl;omega)|(apply Ad.Ae;rfl)|(apply Ad.cond_false;rfl)|(intro _;try (exfalso;omega)))
   all_goals try (exfalso;omega)
   refine Aw.normal ⟨by first|omega|decide,?_,?_⟩
   ·repeat (first|exact Ak.nil|refine Ak.same (by exact PV.Ac rfl) rfl ?_|refine Ak.cons trivial rfl (.of_eq (Aq (by simp<;>omega))) ?_)
   ·repeat (first|exact Ah.nil|(refine Ah.cons (Aj rfl) ?_ rfl ?_ ?_;(first|exact HB.Ac rfl|exact AP.Ag _ _|(simp [HB.under,AP.under,PV.under]));(first|exact Bg.refl _|exact Bg.vec (Bf.refl _) (by simp))))
 ·repeat' (first|apply Ad.AA|apply Ad.AX|apply Aw.exit|apply Af.nil|apply Af.one|(apply Aa.int;rfl;rfl;rfl)|(apply Ad.Ae;rfl)|(intro _;try (exfalso;omega)))
  all_goals try (exfalso;omega)
  refine ⟨rfl,⟨Nat.le_refl _,?_,?_⟩⟩
  ·repeat (first|exact Ak.nil|refine Ak.same (by exact PV.Ac rfl) rfl ?_|refine Ak.cons trivial rfl (.of_eq (Aq (by simp<;>omega))) ?_)
  ·repeat (first|exact Ah.nil|(refine Ah.cons (Aj rfl) ?_ rfl ?_ ?_;(first|exact HB.Ac rfl|exact AP.Ag _ _|(simp [HB.under,AP.under,PV.under]));(first|exact Bg.refl _|exact Bg.vec (Bf.refl _) (by simp))))
def zy (e:TypeId) (costs:List (List Int)) (n m k:Nat) (a:Nat):Vm.Frame :=
 [(10,.p (.int .i64 (a:Int))),(0,.p (.lst e (cells costs) n)),(2,.ref 0 0),(3,.p (.int .i64 (n:Int))),(4,.p (.int .i64 (m:Int))),(5,.vec 1 (n+1) 0 (n+1)),(6,.vec 2 (m+1) 0 (m+1)),(7,.vec 3 (m+1) 0 (m+1)),(8,.vec 4 (m+1) 0 (m+1)),(9,.p (.int .i64 ((k+1:Nat):Int)))]
def yZ (n m:Nat) (u v:List Int) (way o:List Ix):Vm.Heap :=
 [(3,.vec 3 (cells o) (m+1) false),(0,zx),(1,.vec 3 (cells u) (n+1) false),(2,.vec 3 (cells v) (m+1) false),(4,.vec 3 (cells way) (m+1) false)]
theorem tX {costs:List (List Int)} {n m k U:Nat} {e:TypeId} {u v:List Int} {way:List Ix} {a:Aug} (hm:m≤1000) (hw:way.length=m+1) (hlen:∀ t,t≤U→(GU way a t).owner.length=m+1) (hgo:∀ t,t<U→(GU way a t).at_≠0) (hle:∀ t,t≤U→(GU way a t).at_≤m) (hfin:(GU way a U).at_=0) :
 Ad env 0 (ZB Tryz.f72 31) (zy e costs n m k a.at_) (yZ n m u v way a.owner) 5 (fun ex L' H' nx'=>ex=.exit 8∧Xb L' H' nx' (zy e costs n m k 0) (yZ n m u v way (GU way a U).owner) 5):=by
 show Ad env 0 (Code.loop _) _ _ _ _
 refine Ad.Ed U (zy e costs n m k a.at_ |>.drop 1) (yZ n m u v way a.owner |>.drop 1) (fun t _=>zy e costs n m k (GU way a t).at_) (fun t _=>yZ n m u v way (GU way a t).owner) 5 (by omega) (Nat.le_refl _) ?_ ?_ ?_ ?_
 ·repeat (first|exact Ak.nil|refine Ak.same (by exact PV.Ac rfl) rfl ?_|refine Ak.cons trivial rfl (.of_eq (Aq (by simp<;>omega))) ?_)
 ·repeat (first|exact Ah.nil|(refine Ah.cons (Aj rfl) ?_ rfl ?_ ?_;(first|exact HB.Ac rfl|exact AP.Ag _ _|(simp [HB.under,AP.under,PV.under]));(first|exact Bg.refl _|exact Bg.vec (Bf.refl _) (by simp))))
 ·intro t ht
  have h1:=hlen t (by omega)
  have h2:=hgo t ht
  have h3:=hle t (by omega)
  have h4:=hle (t+1) (by omega)
  have e1:GU way a (t+1)=⟨(GU way a t).owner.set (GU way a t).at_ (gi (GU way a t).owner (gi way (GU way a t).at_).n),(gi way (GU way a t).at_).n⟩:=rfl
  rw [e1] at h4 ⊢
  have h4:(gi way (GU way a t).at_).n≤m:=h4
  generalize GU way a t=x at *
  repeat' (first|apply Ad.assoc|apply Ad.AA|apply Ad.region|apply Ad.Au|apply AL.normal|apply Ad.Ih|apply Af.nil|apply Af.one|(apply Aa.D6 (y:=(gi x.owner (gi way x.at_).n));rfl;rfl;rfl;trivial;(first|rfl|(refine congrArg (fun t=>[PV.p (FV.int _ t)]) ?_;first|omega|(simp only [Int.natCast_add,Int.natCast_mul,Int.natCast_ediv,Int.natCast_emod]<;>omega)));rfl;rfl;decide;(first|omega|(simp only [List.length_set]<;>omega)))|(apply Aa.assign;rfl)|(apply Aa.move;rfl)|(apply Aa.int;rfl;rfl;rfl)|(apply Aa.Dk;rfl;rfl;omega;rfl)|(apply Aa.Df;rfl;rfl;rfl;rfl;omega)|(apply Ad.Ae;rfl)|(intro _;try (exfalso;omega)))
  all_goals try (exfalso;omega)
  refine Aw.normal ⟨by first|omega|decide,?_,?_⟩
  ·repeat (first|exact Ak.nil|refine Ak.same (by exact PV.Ac rfl) rfl ?_|refine Ak.cons trivial rfl (.of_eq (Aq (by simp<;>omega))) ?_)
  ·repeat (first|exact Ah.nil|(refine Ah.cons (Aj rfl) ?_ rfl ?_ ?_;(first|exact HB.Ac rfl|exact AP.Ag _ _|(simp [HB.under,AP.under,PV.under]));(first|exact Bg.refl _|exact Bg.vec (Bf.refl _) (by simp))))
 ·rw [hfin]
  repeat' (first|apply Ad.assoc|apply Ad.AA|apply Ad.AX|apply Aw.exit|apply Af.nil|apply Af.one|(apply Aa.move;rfl)|(apply Aa.int;rfl;rfl;rfl)|(apply Ad.Az;rfl))
  all_goals try (exfalso;omega)
  refine ⟨rfl,⟨Nat.le_refl _,?_,?_⟩⟩
  ·repeat (first|exact Ak.nil|refine Ak.same (by exact PV.Ac rfl) rfl ?_|refine Ak.cons trivial rfl (.of_eq (Aq (by simp<;>omega))) ?_)
  ·repeat (first|exact Ah.nil|(refine Ah.cons (Aj rfl) ?_ rfl ?_ ?_;(first|exact HB.Ac rfl|exact AP.Ag _ _|(simp [HB.under,AP.under,PV.under]));(first|exact Bg.refl _|exact Bg.vec (Bf.refl _) (by simp))))
def zn (e:TypeId) (costs:List (List Int)) (n m:Nat) (j:Nat):Vm.Frame :=
 [(20,.p (.int .i64 ((j+1:Nat):Int))),(0,.p (.lst e (cells costs) n)),(2,.ref 0 0),(4,.p (.int .i64 (m:Int))),(7,.vec 3 (m+1) 0 (m+1)),(19,.ref 6 0)]
def zq (n m:Nat) (U V:List Int) (o:List Ix) (x:Out):Vm.Heap :=
 [(5,.vec 3 (cells x.cols) n false),(6,.box 69 [.vec 5 n 0 n,.p (.int .i64 x.total),.p (.lst 3 (cells U) n),.p (.lst 3 (cells V) m)]),(0,zx),(3,.vec 3 (cells o) (m+1) false)]
theorem xk {costs:List (List Int)} {n m:Nat} {e:TypeId} {U V:List Int} {o:List Ix} (hm:m≤1000) (hn:n≤1000) (hl:costs.length=n) (hrow:∀ r,r<n→(gi costs r).length=m) (ho:o.length=m+1) (hle:∀ j,1≤j→j≤m→(gi o j).n≤n) (hlen:∀ j,j≤m→(KT costs o n j).cols.length=n)
 (UK:∀ r j,0≤gi (gi costs r) j∧gi (gi costs r) j≤1000000000000) (htot:∀ j,j≤m→0≤(KT costs o n j).total∧(KT costs o n j).total≤1000000000000000) :
 Ad env 0 (ZB Tryz.f72 36) (zn e costs n m 0) (zq n m U V o (KT costs o n 0)) 7 (fun ex L' H' nx'=>ex=.exit 10∧Xb L' H' nx' (zn e costs n m m) (zq n m U V o (KT costs o n m)) 7):=by
 show Ad env 0 (Code.loop _) _ _ _ _
 refine Ad.Ed m (zn e costs n m 0 |>.drop 1) (zq n m U V o (KT costs o n 0) |>.drop 2) (fun j _=>zn e costs n m j) (fun j _=>zq n m U V o (KT costs o n j)) 7 (by omega) (Nat.le_refl _) ?_ ?_ ?_ ?_
 ·repeat (first|exact Ak.nil|refine Ak.same (by exact PV.Ac rfl) rfl ?_|refine Ak.cons trivial rfl (.of_eq (Aq (by simp<;>omega))) ?_)
 ·repeat (first|exact Ah.nil|(refine Ah.cons (Aj rfl) ?_ rfl ?_ ?_;(first|exact HB.Ac rfl|exact AP.Ag _ _|(simp [HB.under,AP.under,PV.under]));(first|exact Bg.refl _|exact Bg.vec (Bf.refl _) (by simp))))
 ·intro j hj
  have h1:=hlen j (by omega)
  have h2:=htot j (by omega)
  have h3:=hle (j+1) (by omega) (by omega)
  have e1:KT costs o n (j+1)=rG costs o (KT costs o n j) (j+1):=rfl
  rw [e1]
  generalize KT costs o n j=x at *
  by_cases hp:0<(gi o (j+1)).n
  ·have e9:rG costs o x (j+1)=⟨x.cols.set ((gi o (j+1)).n-1) (((j+1:Nat):Int)-1),x.total+gi (gi costs ((gi o (j+1)).n-1)) j⟩:=if_pos hp
   rw [e9]
   have hrl:=hrow ((gi o (j+1)).n-1) (by omega)
   have hc1:=UK ((gi o (j+1)).n-1) j
   have hs1:EX .sub .i64 ((gi o (j+1)).n:Int) 1=some (.int .i64 (((gi o (j+1)).n-1:Nat):Int)):=by
    simp only [EX]
    rw [wrap_i64 (by omega)]
    congr 2;omega
   have hs2:EX .sub .i64 ((j+1:Nat):Int) 1=some (.int .i64 (j:Int)):=by
    simp only [EX]
    rw [wrap_i64 (by omega)]
    congr 2;omega
   clear UK htot hlen hle e1
   repeat' (first|apply Ad.assoc|apply Ad.AA|apply Ad.region|apply Ad.Et|apply Ad.Au|apply Ad.Ai|apply AO.normal|apply AL.normal|apply Af.nil|apply Ar.nil|apply Af.one|(apply Ar.bar;decide +kernel)|apply Ar.quiet|(apply Aa.AV (l:=costs);rfl;rfl;rfl;omega;exact hl)|(apply Aa.int;rfl;rfl;exact hs1)|(apply Aa.int;rfl;rfl;exact hs2)|(apply Aa.D6 (y:=(((j+1:Nat):Int)-1));rfl;rfl;rfl;trivial;(first|rfl|(refine congrArg (fun t=>[PV.p (FV.int _ t)]) ?_;first|omega|(simp only [Int.natCast_add,Int.natCast_mul,Int.natCast_ediv,Int.natCast_emod]<;>omega)));rfl;rfl;decide;(first|omega|(simp only [List.length_set]<;>omega)))|(apply Aa.assign;rfl)|(apply Aa.move;rfl)|(apply Aa.Bq;rfl;rfl;omega)|(apply Aa.int;rfl;rfl;rfl)|(apply Aa.AV;rfl;rfl;rfl;omega;rfl)|(apply Aa.Dk;rfl;rfl;omega;rfl)|(apply Aa.load;rfl;rfl)|(apply Aa.AQ;rfl;rfl;rfl)|(apply Aa.Bj;rfl;rfl;rfl;trivial;rfl;rfl;exact Aj rfl;exact le_dec rfl)|(apply Aa.Df;rfl;rfl;rfl;rfl;omega)|(apply Ad.Ae;rfl)|(apply Ad.AZ;rfl)|(intro _;try (exfalso;omega)))
   all_goals try (exfalso;omega)
   refine Aw.normal ⟨by first|omega|decide,?_,?_⟩
   ·repeat (first|exact Ak.nil|refine Ak.same (by exact PV.Ac rfl) rfl ?_|refine Ak.cons trivial rfl (.of_eq (Aq (by simp<;>omega))) ?_)
   ·repeat (first|exact Ah.nil|(refine Ah.cons (Aj rfl) ?_ rfl ?_ ?_;(first|exact HB.Ac rfl|exact AP.Ag _ _|(simp [HB.under,AP.under,PV.under]));(first|exact Bg.refl _|exact Bg.vec (Bf.refl _) (by simp))))
  ·have e9:rG costs o x (j+1)=x:=if_neg hp
   rw [e9]
   clear UK htot hlen hle e1
   repeat' (first|apply Ad.assoc|apply Ad.AA|apply Ad.region|apply Ad.Au|apply Ad.Ai|apply AO.normal|apply AL.normal|apply Ad.skip|apply Af.nil|apply Af.one|(apply Aa.assign;rfl)|(apply Aa.move;rfl)|(apply Aa.Bq;rfl;rfl;omega)|(apply Aa.int;rfl;rfl;rfl)|(apply Aa.Dk;rfl;rfl;omega;rfl)|(apply Aa.Df;rfl;rfl;rfl;rfl;omega)|(apply Ad.Ae;rfl)|(apply Ad.AZ;rfl)|(intro _;try (exfalso;omega)))
   all_goals try (exfalso;omega)
   refine Aw.normal ⟨by first|omega|decide,?_,?_⟩
   ·repeat (first|exact Ak.nil|refine Ak.same (by exact PV.Ac rfl) rfl ?_|refine Ak.cons trivial rfl (.of_eq (Aq (by simp<;>omega))) ?_)
   ·repeat (first|exact Ah.nil|(refine Ah.cons (Aj rfl) ?_ rfl ?_ ?_;(first|exact HB.Ac rfl|exact AP.Ag _ _|(simp [HB.under,AP.under,PV.under]));(first|exact Bg.refl _|exact Bg.vec (Bf.refl _) (by simp))))
 ·repeat' (first|apply Ad.assoc|apply Ad.AA|apply Ad.AX|apply Aw.exit|apply Af.nil|apply Af.one|(apply Aa.move;rfl)|(apply Aa.int;rfl;rfl;rfl)|(apply Ad.Ae;rfl)|(intro _;try (exfalso;omega)))
  all_goals try (exfalso;omega)
  refine ⟨rfl,⟨Nat.le_refl _,?_,?_⟩⟩
  ·repeat (first|exact Ak.nil|refine Ak.same (by exact PV.Ac rfl) rfl ?_|refine Ak.cons trivial rfl (.of_eq (Aq (by simp<;>omega))) ?_)
  ·repeat (first|exact Ah.nil|(refine Ah.cons (Aj rfl) ?_ rfl ?_ ?_;(first|exact HB.Ac rfl|exact AP.Ag _ _|(simp [HB.under,AP.under,PV.under]));(first|exact Bg.refl _|exact Bg.vec (Bf.refl _) (by simp))))
end Go.Proofs.YtdabojnmoejilaaGreatDoor
namespace Go.Proofs.YtdabojnmoejilaaGreatDoor
open Go Go.Am Go.Vm Go.Hun
attribute [local irreducible] Aa Af Ar Ad BA AY CG AO AL Aw Vm.Done CW Bl
def a4c (costs:List (List Int)) (n m:Nat):PV:=.agg [.vec 5 n 0 n,.p (.int .i64 (Gv costs n m).total),.p (.lst 3 (cells (J8 costs n m)) n),.p (.lst 3 (cells (GR costs n m)) m)]
theorem iF {costs:List (List Int)} {n m:Nat} {B:Int} (e:TypeId) (hc:Ir costs n m B) (hl:costs.length=n) (hrow:∀ r,r<n→(gi costs r).length=m) (hn:1≤n) (hm:m≤1000) :
 BA env 72 [.p (.lst e (cells costs) n)] [] 0 fun r H' nx'=>r=a4c costs n m∧H'=[(5,.vec 3 (cells (Gv costs n m).cols) n false)]∧nx'=6:=by
 have XR:AY env 69 [.lst e (cells costs) n] (.p (.int .i64 (m:Int))):=by
  have:=MF e costs (by have:=hc.nm;omega)
  rw [hl] at this
  rwa [show xQ costs=m from hrow 0 (by omega)] at this
 have hnm:=hc.nm
 have hB:=hc.big
 refine BA.enter (AB (by decide)) Tryz.func72 rfl (by kernel_rfl) (by simp [Tryz.ntmps72]) ?_
 repeat' (first|apply Ad.assoc|apply Ad.AA|apply Ad.BI|apply Ad.Ai|apply Af.nil|apply Ar.nil|apply Af.one|(apply Ar.bar;decide +kernel)|apply Ar.quiet|(apply Aa.fn;rfl;rfl;exact XR;intro _;rfl)|(apply Aa.DX (n+1) (0:Int);rfl;rfl;rfl;rfl;rfl;omega;omega;omega;decide;decide;rfl)|(apply Aa.DX (dst:=some 34) (m+1) (⟨0⟩:Ix);rfl;rfl;rfl;rfl;rfl;omega;omega;omega;decide;decide;rfl)|(apply Aa.DX (dst:=some 37) (m+1) (⟨0⟩:Ix);rfl;rfl;rfl;rfl;rfl;omega;omega;omega;decide;decide;rfl)|(apply Aa.DX (m+1) (0:Int);rfl;rfl;rfl;rfl;rfl;omega;omega;omega;decide;decide;rfl)|(apply Aa.assign;rfl)|(apply Aa.move;rfl)|(apply Aa.Bq;rfl;rfl;omega)|(apply Aa.BH;rfl;rfl)|(apply Aa.alloc;rfl))
 apply Ad.Ed (n) [(0,_),(2,_),(3,_),(4,_),(5,_),(6,_),(7,_),(8,_)] [(0,_)] (fun k r=>(9,.p (.int .i64 ((k+1:Nat):Int)))::r) (fun k r=>(1,.vec 3 (cells (Dj costs n m k).u) (n+1) false)::(2,.vec 3 (cells (Dj costs n m k).v) (m+1) false)::(3,.vec 3 (cells (Dj costs n m k).owner) (m+1) false)::(4,.vec 3 (cells (Dj costs n m k).way) (m+1) false)::r) 5
 ·first|omega|decide
 ·first|omega|decide
 ·repeat (first|exact Ak.nil|(refine Ak.eq rfl ?_ ?_;(first|exact PV.Ac rfl|(simp [PV.under,AP.under];done)))|refine Ak.cons trivial rfl (.of_eq (Aq (by simp<;>omega))) ?_)
 ·repeat (first|exact Ah.nil|(refine Ah.eq rfl (Aj rfl) ?_ ?_;(first|exact HB.Ac rfl|exact AP.Ag _ _|(simp [HB.under,AP.under,PV.under];done)))|(refine Ah.cons (Aj rfl) ?_ rfl ?_ ?_;(first|exact trivial|exact AP.Ag _ _|(simp [HB.under,AP.under,PV.under]));(first|exact Bg.refl _|exact Bg.vec (Bf.refl _) (by simp))))
 ·intro k hk
  have hS:=NV hc k (by omega)
  have hS':=hS.step hc hk
  obtain ⟨hgo,hend,hT⟩:=aK hS hc hk
  have hgr:=Po hS hc hk
  have hback:=mY hS hc hk
  have hv0:=ZH hS hc hk
  have b2e:=dU hc k (by omega)
  have ho:=Y7 hS
  have eS:Dj costs n m (k+1)=Oj costs m (Dj costs n m k) (k+1):=rfl
  have l1:=hS.lu
  have l2:=hS.lv
  have l3:=hS.lo
  have l4:=hS.lw
  rw [eS]
  generalize Dj costs n m k=s at *
  repeat' (first|(refine Ar.atIdx 3 ?_;refine Ar.ghost (A8.freeze 46 rfl rfl) ?_)|apply Ad.assoc|apply Ad.AA|apply Ad.BI|apply Ad.Au|apply Ad.Ai|apply Af.nil|apply Ar.nil|apply Af.one|(apply Ar.bar;decide +kernel)|apply Ar.quiet|(apply Aa.D6 (y:=(⟨k+1⟩:Ix));rfl;rfl;rfl;trivial;(first|rfl|(refine congrArg (fun t=>[PV.p (FV.int _ t)]) ?_;first|omega|(simp only [Int.natCast_add,Int.natCast_mul,Int.natCast_ediv,Int.natCast_emod]<;>omega)));rfl;rfl;decide;(first|omega|(simp only [List.length_set]<;>omega)))|(apply Aa.fv;rfl;rfl;exact UC 3 far (m+1) (by omega) (by omega))|(apply Aa.DX (m+1) false;rfl;rfl;rfl;rfl;rfl;omega;omega;omega;decide;decide;rfl)|(apply Aa.assign;rfl)|(apply Aa.move;rfl)|(apply Aa.Bq;rfl;rfl;omega)|(apply Aa.int;rfl;rfl;rfl)|(apply Aa.buildSlice;rfl;rfl;rfl;decide;rfl;rfl;rfl)|(apply Aa.ni;rfl;rfl;rfl;rfl;omega;omega)|(apply Ad.Ae;rfl)|(intro _;try (exfalso;omega)))
  all_goals try (exfalso;omega)
  apply Ad.Ed (XM costs m s (k+1)) [(0,_),(2,_),(3,_),(4,_),(5,_),(6,_),(7,_),(8,_),(9,_),(11,_),(12,_)] [(0,_)] (fun k_ r=>(10,.p (.int .i64 ((Ej costs (Jh s (k+1)) m (RS m s) k_).at_:Int)))::r) (fun k_ r=>(1,.vec 3 (cells (Ej costs (Jh s (k+1)) m (RS m s) k_).u) (n+1) false)::(2,.vec 3 (cells (Ej costs (Jh s (k+1)) m (RS m s) k_).v) (m+1) false)::(3,.vec 3 (cells (Jh s (k+1))) (m+1) false)::(4,.vec 3 (cells (Ej costs (Jh s (k+1)) m (RS m s) k_).way) (m+1) false)::(6,.vec 3 (cells (Ej costs (Jh s (k+1)) m (RS m s) k_).least) (m+1) false)::(7,.vec 4 (cells (Ej costs (Jh s (k+1)) m (RS m s) k_).done) (m+1) false)::r) 8
  ·first|omega|decide
  ·first|omega|decide
  ·repeat (first|exact Ak.nil|(refine Ak.eq rfl ?_ ?_;(first|exact PV.Ac rfl|(simp [PV.under,AP.under];done)))|refine Ak.cons trivial rfl (.of_eq (Aq (by simp<;>omega))) ?_)
  ·repeat (first|exact Ah.nil|(refine Ah.eq rfl (Aj rfl) ?_ ?_;(first|exact HB.Ac rfl|exact AP.Ag _ _|(simp [HB.under,AP.under,PV.under];done)))|(refine Ah.cons (Aj rfl) ?_ rfl ?_ ?_;(first|exact trivial|exact AP.Ag _ _|(simp [HB.under,AP.under,PV.under]));(first|exact Bg.refl _|exact Bg.vec (Bf.refl _) (by simp))))
  ·intro t ht
   have hg:=hgr t fun p hp=>hgo p (by omega)
   have hr:=hgo t ht
   have hR:=JQ hg hc ho hk hr
   have hSh:=ND hg hc ho hk hr
   have hpre:=Y2 hg hc ho hk hr
   have hub:∀ r,1≤r→r≤k+1→gi (Ej costs (Jh s (k+1)) m (RS m s) t).u r≤B:=fun r r1 r2=>hg.ule hc ho (by omega) r1 r2
   have hvb:∀ j,1≤j→j≤m→-B≤gi (Ej costs (Jh s (k+1)) m (RS m s) t).v j:=fun j j1 j2=>hg.vge hc ho (by omega) j1 j2
   have b2l:=hv0 t fun p hp=>hgo p (by omega)
   have eG:Ej costs (Jh s (k+1)) m (RS m s) (t+1)=Gx costs (Jh s (k+1)) m (Ej costs (Jh s (k+1)) m (RS m s) t):=rfl
   have hat:MN costs m k s t=(Ej costs (Jh s (k+1)) m (RS m s) t).at_:=rfl
   have hle:=hg.le t (Nat.le_refl _)
   rw [hat] at hr hle
   rw [eG]
   generalize Ej costs (Jh s (k+1)) m (RS m s) t=g at *
   have a5h:=ho.lt hle
   have lo:=ho.len
   generalize Jh s (k+1)=o at *
   obtain ⟨row,hrw⟩:∃ row,row=(gi o g.at_).n:=⟨_,rfl⟩
   have hr1:1≤row:=by have:(gi o g.at_).n≠0:=hr;omega
   have hr2:row≤k+1:=by rw [hrw];exact a5h
   have m1:=hg.lu
   have m2:=hg.lv
   have m3:=hg.lw
   have m4:=hg.ll
   have m5:=hg.ld
   have eR:Gx costs o m g=⟨(Ib o (CQ g) (DV costs o m g).delta ⟨g.u,g.v,(DV costs o m g).least⟩ (m+1)).u,(Ib o (CQ g) (DV costs o m g).delta ⟨g.u,g.v,(DV costs o m g).least⟩ (m+1)).v,(DV costs o m g).way,(Ib o (CQ g) (DV costs o m g).delta ⟨g.u,g.v,(DV costs o m g).least⟩ (m+1)).least,CQ g,(DV costs o m g).next⟩:=rfl
   rw [eR]
   have hD9:(CQ g).length=m+1:=by unfold CQ;rw [List.length_set,m5]
   have hrl:(gi costs ((gi o g.at_).n-1)).length=m:=hrow _ (by omega)
   have UK:∀ j,0≤gi (gi costs ((gi o g.at_).n-1)) j∧gi (gi costs ((gi o g.at_).n-1)) j≤B:=fun j=>⟨hc.lo (gi o g.at_).n (j+1),hc.hi (gi o g.at_).n (j+1)⟩
   have hu0:=hg.Va (gi o g.at_).n (by omega) (by omega)
   have hu1:=hub (gi o g.at_).n (by omega) (by omega)
   have hs1:EX .sub .i64 ((gi o g.at_).n:Int) 1=some (.int .i64 (((gi o g.at_).n-1:Nat):Int)):=by
    simp only [EX]
    rw [wrap_i64 (by omega)]
    congr 2;omega
   have hdn:∀ j,j≤m→gi (CQ g) j=true→1≤(gi o j).n∧(gi o j).n≤k+1:=fun j hj hd=>by
    obtain ⟨p,p1,p2⟩:=(hR.doneD j).1 hd
    have h1:=ho.lt hj
    refine ⟨?_,h1⟩
    rcases Nat.lt_or_ge p t with h|h
    ·have:=hg.pG p h
     rw [p2] at this
     unfold Hun.own at this
     omega
    ·obtain rfl:p=t:=by omega
     have h2:=hr
     rw [← hat,p2] at h2
     unfold Hun.own at h2
     omega
   clear hs1
   have hkB:(k:Int)*B≤1000*1000000000000:=Int.mul_le_mul (by omega) hB.2 hB.1 (by omega)
   repeat' (first|apply Ad.assoc|apply Ad.AA|apply Ad.Au|apply Ad.Ai|apply Ad.Ih|apply Af.nil|apply Af.one|(apply Aa.D6 (y:=true);rfl;rfl;rfl;trivial;(first|rfl|(refine congrArg (fun t=>[PV.p (FV.int _ t)]) ?_;first|omega|(simp only [Int.natCast_add,Int.natCast_mul,Int.natCast_ediv,Int.natCast_emod]<;>omega)));rfl;rfl;decide;(first|omega|(simp only [List.length_set]<;>omega)))|(apply Aa.assign;rfl)|(apply Aa.move;rfl)|(apply Aa.int;rfl;rfl;rfl)|(apply Aa.Dk;rfl;rfl;omega;rfl)|(apply Aa.Df;rfl;rfl;rfl;rfl;omega)|(apply Ad.Ae;rfl)|(intro _;try (exfalso;omega)))
   all_goals try (exfalso;omega)
   refine Ad.blk (qC (e:=e) (k:=k) (row:=(gi o g.at_).n) (a:=g.at_) (u:=g.u) (v:=g.v) (o:=o) (done:=CQ g) (s0:=⟨g.least,g.way,far,0⟩) hB hl hm (by omega) ⟨by omega,by omega⟩ hrl UK m1 m2 hD9 m4 m3 ⟨hu0,hu1⟩ fun j j1 j2=>⟨hvb j j1 j2,hg.fP j j1 j2⟩) (by omega) (by omega) ?_ ?_ ?_
   ·repeat (first|exact Ak.nil|refine Ak.same (by exact PV.Ac rfl) rfl ?_|refine Ak.cons trivial rfl (.of_eq (Aq (by simp<;>omega))) ?_)
   ·repeat (first|exact Ah.nil|(refine Ah.cons (Aj rfl) ?_ rfl ?_ ?_;(first|exact HB.Ac rfl|exact AP.Ag _ _|(simp [HB.under,AP.under,PV.under]));(first|exact Bg.refl _|exact Bg.vec (Bf.refl _) (by simp))))
   ·have eC:Kv (gi costs ((gi o g.at_).n-1)) (gi g.u (gi o g.at_).n) g.v (CQ g) g.at_ ⟨g.least,g.way,far,0⟩ m=DV costs o m g:=rfl
    rw [eC]
    generalize DV costs o m g=sc at *
    have n1:=hR.ll
    have n2:=hR.lw
    repeat' (first|apply Ad.assoc|apply Ad.AA|apply Ad.Ai|apply AO.normal|apply AL.exit|apply Af.nil|apply Af.one|(apply Aa.move;rfl)|(apply Aa.lenV;rfl;rfl;rfl))
    all_goals try (exfalso;omega)
    refine Ad.blk (jH (e:=e) (costs:=costs) (k:=k) (nxt:=sc.next) (o:=o) (way:=sc.way) (done:=CQ g) (t0:=⟨g.u,g.v,sc.least⟩) ⟨hR.d0,by have:=hR.dB;omega⟩ hm (by omega) m1 m2 n1 lo hD9 hpre.1 hpre.2 (fun j hj hd=>?_) (fun j hj=>?_) (fun j hj hd=>?_)) (by omega) (by omega) ?_ ?_ ?_
    ·have:=hdn j hj hd
     exact ⟨hg.Va _ this.1 this.2,Int.le_trans (hub _ this.1 this.2) hB.2⟩
    ·show -2000000000000000≤gi g.v j∧gi g.v j≤0
     rcases Nat.eq_zero_or_pos j with h|h
     ·subst h
      have:=hg.Va (k+1) (by omega) (Nat.le_refl _)
      have:=hub (k+1) (by omega) (Nat.le_refl _)
      omega
     ·have:=hvb j h hj
      exact ⟨by omega,hg.fP j h hj⟩
    ·have h0:1≤j:=by
      rcases Nat.eq_zero_or_pos j with h|h
      ·subst h
       rw [(hR.doneD 0).2 ⟨0,by omega,hg.zero⟩] at hd
       cases hd
      ·exact h
     obtain ⟨p,p1,p2,p3⟩:=hR.Wx j h0 hj hd
     have h1:=hR.dle j h0 hj hd
     have h2:=hR.d0
     have h3:=hvb j h0 hj
     have h4:=hc.hi (Hun.own o (MN costs m k s p)) j
     have h5:0≤gi g.u (Hun.own o (MN costs m k s p)):=by
      have hp1:Hun.own o (MN costs m k s p)≠0:=by
       rcases Nat.lt_or_ge p t with h|h
       ·exact hg.pG p h
       ·obtain rfl:p=t:=by omega
        rw [hat];exact hr
      exact hg.Va _ (by omega) (ho.lt (hg.le p (by omega)))
     have hf:far=1152921504606846976:=rfl
     show 0≤gi sc.least j∧gi sc.least j≤far
     omega
    ·repeat (first|exact Ak.nil|refine Ak.same (by exact PV.Ac rfl) rfl ?_|refine Ak.cons trivial rfl (.of_eq (Aq (by simp<;>omega))) ?_)
    ·repeat (first|exact Ah.nil|(refine Ah.cons (Aj rfl) ?_ rfl ?_ ?_;(first|exact HB.Ac rfl|exact AP.Ag _ _|(simp [HB.under,AP.under,PV.under]));(first|exact Bg.refl _|exact Bg.vec (Bf.refl _) (by simp))))
    ·repeat' (first|apply Ad.region|apply AO.normal|apply AL.normal|apply AL.exit|apply Af.nil|apply Af.one|(apply Aa.assign;rfl)|(apply Aa.move;rfl))
     all_goals try (exfalso;omega)
     refine Aw.normal ⟨by first|omega|decide,?_,?_⟩
     ·repeat (first|exact Ak.nil|refine Ak.same (by exact PV.Ac rfl) rfl ?_|refine Ak.cons trivial rfl (.of_eq (Aq (by simp<;>omega))) ?_)
     ·repeat (first|exact Ah.nil|(refine Ah.cons (Aj rfl) ?_ rfl ?_ ?_;(first|exact HB.Ac rfl|exact AP.Ag _ _|(simp [HB.under,AP.under,PV.under]));(first|exact Bg.refl _|exact Bg.vec (Bf.refl _) (by simp))))
  ·have h0:(gi (Jh s (k+1)) (Ej costs (Jh s (k+1)) m (RS m s) (XM costs m s (k+1))).at_).n=0:=hend
   have hg:=hgr _ hgo
   have hle:=hg.le _ (Nat.le_refl _)
   have hat:MN costs m k s (XM costs m s (k+1))=(Ej costs (Jh s (k+1)) m (RS m s) (XM costs m s (k+1))).at_:=rfl
   rw [hat] at hle
   have lo:=ho.len
   have eE:Ej costs (Jh s (k+1)) m (RS m s) (XM costs m s (k+1))=LQ costs m s (k+1):=rfl
   rw [eE] at h0 hle hg hat ⊢
   repeat' (first|apply Ad.assoc|apply Ad.AA|apply Ad.AX|apply AO.normal|apply AL.exit|apply Aw.exit|apply Ad.Ih|apply Af.nil|apply Af.one|(apply Aa.move;rfl)|(apply Aa.int;rfl;rfl;rfl)|(apply Aa.Dk;rfl;rfl;omega;rfl)|(apply Aa.Df;rfl;rfl;rfl;rfl;omega)|(apply Ad.Ae;rfl)|(intro _;try (exfalso;omega)))
   all_goals try (exfalso;omega)
   have hA:∀ t,t≤yX costs m s (k+1)→(GU (LQ costs m s (k+1)).way (stA costs m s (k+1)) t).owner.length=m+1∧(GU (LQ costs m s (k+1)).way (stA costs m s (k+1)) t).at_≤m:=fun t ht=>by
    obtain ⟨q,q1,q2⟩:=hback.inv t ht
    exact ⟨q2.len,by rw [q2.at_];exact (hgr q fun p hp=>hgo p (by omega)).le q (Nat.le_refl _)⟩
   refine Ad.blk (tX (e:=e) (costs:=costs) (n:=n) (k:=k) (u:=(LQ costs m s (k+1)).u) (v:=(LQ costs m s (k+1)).v) (a:=stA costs m s (k+1)) hm hg.lw (fun t ht=>(hA t ht).1) hback.go (fun t ht=>(hA t ht).2) hback.fin) (by omega) (by omega) ?_ ?_ ?_
   ·repeat (first|exact Ak.nil|refine Ak.same (by exact PV.Ac rfl) rfl ?_|refine Ak.cons trivial rfl (.of_eq (Aq (by simp<;>omega))) ?_)
   ·repeat (first|exact Ah.nil|(refine Ah.cons (Aj rfl) ?_ rfl ?_ ?_;(first|exact HB.Ac rfl|exact AP.Ag _ _|(simp [HB.under,AP.under,PV.under]));(first|exact Bg.refl _|exact Bg.vec (Bf.refl _) (by simp))))
   ·repeat' (first|apply Ad.region|apply AO.normal|apply AL.normal|apply AL.exit|apply Af.nil|apply Af.one|(apply Aa.assign;rfl)|(apply Aa.move;rfl)|(apply Aa.Bq;rfl;rfl;omega))
    all_goals try (exfalso;omega)
    refine Aw.normal ⟨by first|omega|decide,?_,?_⟩
    ·repeat (first|exact Ak.nil|refine Ak.same (by exact PV.Ac rfl) rfl ?_|refine Ak.cons trivial rfl (.of_eq (Aq (by simp<;>omega))) ?_)
    ·repeat (first|exact Ah.nil|(refine Ah.cons (Aj rfl) ?_ rfl ?_ ?_;(first|exact HB.Ac rfl|exact AP.Ag _ _|(simp [HB.under,AP.under,PV.under]));(first|exact Bg.refl _|exact Bg.vec (Bf.refl _) (by simp))))
 ·have hS:=NV hc n (Nat.le_refl _)
  have hO:=Xz hS
  have hs:=Xy hc
  have l1:=hS.lu
  have l2:=hS.lv
  have l3:=hS.lo
  have eO:KT costs (Dj costs n m n).owner n m=Gv costs n m:=rfl
  have eU:(Dj costs n m n).u.drop 1=J8 costs n m:=rfl
  have eV:(Dj costs n m n).v.drop 1=GR costs n m:=rfl
  have htot:∀ j,j≤m→0≤(KT costs (Dj costs n m n).owner n j).total∧(KT costs (Dj costs n m n).owner n j).total≤1000000000000000:=fun j hj=>by
   rw [(hO j hj).total]
   have h1:=jE (f:=fun k=>if 0<Hun.own (Dj costs n m n).owner (k+1) then cst costs (Hun.own (Dj costs n m n).owner (k+1)) (k+1) else 0) (a:=0) (b:=1000000000000) (n:=j) fun k hk=>by
    split
    ·exact ⟨hc.lo _ _,Int.le_trans (hc.hi _ _) hB.2⟩
    ·exact ⟨Int.le_refl _,by decide⟩
   omega
  generalize Dj costs n m n=s at *
  repeat' (first|(refine Ad.at 34 ?_;refine Ad.ghost (A8.freeze 5 rfl rfl) ?_;first|apply Ad.AA|apply Ad.BI)|(refine Ar.atIdx 4 ?_;refine Ar.ghost (A8.freeze 6 rfl rfl) ?_)|apply Ad.assoc|apply Ad.AA|apply Ad.AX|apply Ad.Ai|apply AO.normal|apply AL.exit|apply Aw.exit|apply Af.nil|apply Ar.nil|apply Af.one|(apply Ar.bar;decide +kernel)|apply Ar.quiet|(apply Aa.DX n (0:Int);rfl;rfl;rfl;rfl;rfl;rfl;rfl;omega;decide;decide;rfl)|(apply Aa.sliceFrom (l:=s.u) (a:=1);rfl;rfl;rfl;rfl;rfl;exact l1;omega)|(apply Aa.sliceFrom (l:=s.v) (a:=1);rfl;rfl;rfl;rfl;rfl;exact l2;omega)|(apply Aa.assign;rfl)|(apply Aa.move;rfl)|(apply Aa.int;rfl;rfl;rfl)|(apply Aa.alloc;rfl)|(apply Aa.Bj;rfl;rfl;rfl;trivial;rfl;rfl;exact Aj rfl;exact le_dec rfl)|(apply Aa.build;rfl;rfl;rfl;rfl;rfl)|(apply Ad.Ae;rfl)|(intro _;try (exfalso;omega)))
  all_goals try (exfalso;omega)
  have e1:costs.length=n:=hl
  refine Ad.blk (xk (e:=e) (costs:=costs) (n:=n) (m:=m) (U:=s.u.drop 1) (V:=s.v.drop 1) (o:=s.owner) hm (by omega) hl hrow l3 (fun j j1 j2=>hS.own j j1 j2) (fun j hj=>(hO j hj).len) (fun r j=>⟨hc.lo (r+1) (j+1),Int.le_trans (hc.hi (r+1) (j+1)) hB.2⟩) htot) (by omega) (by omega) ?_ ?_ ?_
  ·repeat (first|exact Ak.nil|refine Ak.same (by exact PV.Ac rfl) rfl ?_|refine Ak.cons trivial rfl (.of_eq (Aq (by simp<;>omega))) ?_)
  ·repeat (first|exact Ah.nil|(refine Ah.cons (Aj rfl) ?_ rfl ?_ ?_;(first|exact HB.Ac rfl|exact AP.Ag _ _|(simp [HB.under,AP.under,PV.under]));(first|exact Bg.refl _|exact Bg.vec (Bf.refl _) (by simp))))
  ·rw [eO,eU,eV]
   repeat' (first|apply Ad.AA|apply AO.normal|apply AL.exit|apply Ad.ret|apply Af.nil|apply Af.one|(apply Aa.load;rfl;rfl)|(apply Aa.Bj;rfl;rfl;rfl;trivial;rfl;rfl;exact Aj rfl;exact le_dec rfl))
   all_goals try (exfalso;omega)
   refine Done.ret (H0:=[(5,.vec 3 (cells (Gv costs n m).cols) n false)]) (DZ:=6) rfl (.refl _) ⟨Aj rfl,trivial,trivial,trivial,trivial⟩ ?_ (by omega) (by omega) ⟨rfl,rfl,rfl⟩
   repeat (first|exact Ah.nil|(refine Ah.cons (Aj rfl) ?_ rfl ?_ ?_;(first|exact HB.Ac rfl|exact AP.Ag _ _|(simp [HB.under,AP.under,PV.under]));(first|exact Bg.refl _|exact Bg.vec (Bf.refl _) (by simp))))
end Go.Proofs.YtdabojnmoejilaaGreatDoor
namespace Go.Proofs.YtdabojnmoejilaaGreatDoor
open Go Go.Am Go.Vm Go.Hun
attribute [local irreducible] Aa Af Ar Ad BA AY CG AO AL Aw Vm.Done CW Bl
theorem Vu {L:Vm.Frame} {H:Vm.Heap} {nx:Nat} {Q:PV→Vm.Heap→Nat→Prop} {dst:Option Tmp} {ty:TypeId} {pos:String} {af:Array Edge} {gd:Option (Nat×Bool)} {fo:Operand} {args:Array Operand} {aT:Array TypeId} {fs cs xs:List PV} {c:Code}
 (hf:BD env.Γ L fo=some (.clo 75 fs cs)) (ha:evs env.Γ L args.toList=some xs) (hb:Tryz.f75.body=some c) (hn:(fs++xs++cs).length≤Tryz.f75.ntmps)
 (h:Ad env nx c (CS 0 (fs++xs++cs)) H nx (Bl env.P Tryz.f75.results.toList Q)):Aa env true ⟨dst,.call { callee:=.value fo,args:=args,argTypes:=aT },ty,pos,af,gd⟩ L H nx Q:=by
 have h0:(match Tryz.f75.body with|some c=>Hy env.G Tryz.f75 c|none=>false)=true:=by kernel_rfl
 rw [hb] at h0
 exact Aa.inline rfl hf ha (AB (by decide)) Tryz.func75 hb h0 hn h
theorem Vz {L:Vm.Frame} {H:Vm.Heap} {nx:Nat} {Q:PV→Vm.Heap→Nat→Prop} {dst:Option Tmp} {ty:TypeId} {pos:String} {af:Array Edge} {gd:Option (Nat×Bool)} {fo:Operand} {args:Array Operand} {aT:Array TypeId} {fs cs xs:List PV} {c:Code}
 (hf:BD env.Γ L fo=some (.clo 104 fs cs)) (ha:evs env.Γ L args.toList=some xs) (hb:Tryz.f104.body=some c) (hn:(fs++xs++cs).length≤Tryz.f104.ntmps)
 (h:Ad env nx c (CS 0 (fs++xs++cs)) H nx (Bl env.P Tryz.f104.results.toList Q)):Aa env true ⟨dst,.call { callee:=.value fo,args:=args,argTypes:=aT },ty,pos,af,gd⟩ L H nx Q:=by
 have h0:(match Tryz.f104.body with|some c=>Hy env.G Tryz.f104 c|none=>false)=true:=by kernel_rfl
 rw [hb] at h0
 exact Aa.inline rfl hf ha (AB (by decide)) Tryz.func104 hb h0 hn h
theorem zJ {L:Vm.Frame} {H:Vm.Heap} {nx:Nat} {Q:PV→Vm.Heap→Nat→Prop} {dst:Option Tmp} {ty:TypeId} {pos:String} {af:Array Edge} {gd:Option (Nat×Bool)} {fo:Operand} {args:Array Operand} {aT:Array TypeId} {fs cs xs:List PV} {c:Code}
 (hf:BD env.Γ L fo=some (.clo 101 fs cs)) (ha:evs env.Γ L args.toList=some xs) (hb:Tryz.f101.body=some c) (hn:(fs++xs++cs).length≤Tryz.f101.ntmps)
 (h:Ad env nx c (CS 0 (fs++xs++cs)) H nx (Bl env.P Tryz.f101.results.toList Q)):Aa env true ⟨dst,.call { callee:=.value fo,args:=args,argTypes:=aT },ty,pos,af,gd⟩ L H nx Q:=by
 have h0:(match Tryz.f101.body with|some c=>Hy env.G Tryz.f101 c|none=>false)=true:=by kernel_rfl
 rw [hb] at h0
 exact Aa.inline rfl hf ha (AB (by decide)) Tryz.func101 hb h0 hn h
structure RZ (l:List (List Int)) (n m:Nat) (skip B:Int):Prop where
 Ye:a0j l n m skip B
 n60:n≤60
 a0f:m≤120
 B9:B≤1000000000
 m0:n=0→m=0
theorem RZ.cols {l:List (List Int)} {n m:Nat} {skip B:Int} (h:RZ l n m skip B):xQ l=m:=by
 rcases Nat.eq_zero_or_pos n with h0|h0
 ·have:l=[]:=List.length_eq_zero_iff.1 (by rw [h.Ye.len];exact h0)
  rw [this,h.m0 h0]
  rfl
 ·exact h.Ye.row 0 h0
theorem bJ {l:List (List Int)} {n m:Nat} {skip B:Int} (e:TypeId) (h:RZ l n m skip B):AY env 73 [.lst e (cells l) l.length,.bool false] (.p (.int .i64 0)):=by
 have h1:=h.Ye.len
 have h2:=h.n60
 have h3:=h.a0f
 have h4:=h.B9
 have XR:=h.cols
 have hrow:=h.Ye.row
 have yB:=h.Ye.rng
 refine AY.enter (AB (by decide)) Tryz.func73 rfl (by kernel_rfl) (by simp [Tryz.ntmps73]) ?_
 rcases Nat.eq_zero_or_pos n with h0|h0
 ·have hl0:l=[]:=List.length_eq_zero_iff.1 (by omega)
  subst hl0
  repeat' (first|apply Ad.assoc|apply Ad.AA|apply Ad.Au|apply Ad.Ai|apply Af.nil|apply Af.one|(apply Af.take;rfl;rfl)|(apply Af.drop;rfl;rfl;rfl)|(apply Aa.assign;rfl)|(apply Aa.move;rfl)|(apply Aa.int;rfl;rfl;rfl)|(apply Aa.AU;rfl;rfl)|(apply Aa.BH;rfl;rfl)|(apply Ad.Az;rfl))
  all_goals try (exfalso;omega)
  all_goals try contradiction
  apply Ad.Ed (0) [(0,_),(1,_),(24,_),(25,_)] [] (fun k r=>(26,.p (.int .i64 (k:Int)))::r) (fun k r=>r) 0
  ·first|omega|decide
  ·first|omega|decide
  ·repeat (first|exact Ak.nil|(refine Ak.eq rfl ?_ ?_;(first|exact PV.Ac rfl|(simp [PV.under,AP.under];done)))|refine Ak.cons trivial rfl (.of_eq (Aq (by simp<;>omega))) ?_)
  ·repeat (first|exact Ah.nil|(refine Ah.eq rfl (Aj rfl) ?_ ?_;(first|exact HB.Ac rfl|exact AP.Ag _ _|(simp [HB.under,AP.under,PV.under];done)))|(refine Ah.cons (Aj rfl) ?_ rfl ?_ ?_;(first|exact trivial|exact AP.Ag _ _|(simp [HB.under,AP.under,PV.under]));(first|exact Bg.refl _|exact Bg.vec (Bf.refl _) (by simp))))
  ·intro k hk;omega
  ·repeat' (first|apply Ad.assoc|apply Ad.AA|apply Ad.Au|apply Ad.AX|apply Ad.Ai|apply AO.normal|apply AL.exit|apply Aw.exit|apply Af.nil|apply Af.one|(apply Af.drop;rfl;rfl;rfl)|(apply Aa.move;rfl)|(apply Aa.int;rfl;rfl;rfl)|(apply Aa.AU;rfl;rfl)|(apply Aa.BH;rfl;rfl)|(apply Ad.Az;rfl))
   all_goals try (exfalso;omega)
   all_goals try contradiction
   apply Ad.Ed (0) [(0,_),(53,_),(54,_)] [] (fun k r=>(55,.p (.int .i64 (k:Int)))::r) (fun k r=>r) 0
   ·first|omega|decide
   ·first|omega|decide
   ·repeat (first|exact Ak.nil|(refine Ak.eq rfl ?_ ?_;(first|exact PV.Ac rfl|(simp [PV.under,AP.under];done)))|refine Ak.cons trivial rfl (.of_eq (Aq (by simp<;>omega))) ?_)
   ·repeat (first|exact Ah.nil|(refine Ah.eq rfl (Aj rfl) ?_ ?_;(first|exact HB.Ac rfl|exact AP.Ag _ _|(simp [HB.under,AP.under,PV.under];done)))|(refine Ah.cons (Aj rfl) ?_ rfl ?_ ?_;(first|exact trivial|exact AP.Ag _ _|(simp [HB.under,AP.under,PV.under]));(first|exact Bg.refl _|exact Bg.vec (Bf.refl _) (by simp))))
   ·intro k hk;omega
   ·repeat' (first|apply Ad.AA|apply Ad.AX|apply AO.normal|apply AL.exit|apply Aw.exit|apply Ad.ret|apply Af.nil|apply Af.one|(apply Aa.assign;rfl)|(apply Aa.int;rfl;rfl;rfl)|(apply Ad.Az;rfl))
    all_goals first|(exfalso;omega)|contradiction|(refine Done.ret rfl (.refl _) (by exact PV.Ac rfl) Ah.nil (Nat.zero_le _) (Nat.le_refl _) ⟨?_,rfl,rfl⟩;try rfl)
 ·have hr0:=hrow 0 h0
  have hc0:(gi l 0).length=m:=hr0
  repeat' (first|apply Ad.assoc|apply Ad.AA|apply Ad.Au|apply Ad.Ai|apply Af.nil|apply Af.one|(apply Af.take;rfl;rfl)|(apply Af.guard;rfl;rfl)|(apply Aa.AV (l:=l) (i:=0);rfl;rfl;rfl;omega;rfl)|(apply Aa.assign;rfl)|(apply Aa.move;rfl)|(apply Aa.int;rfl;rfl;rfl)|(apply Aa.load;rfl;rfl)|(apply Aa.Bz;rfl;rfl)|(apply Aa.AU;rfl;rfl)|(apply Aa.BH;rfl;rfl)|(apply Ad.Ae;rfl)|(intro _;try (exfalso;omega)))
  all_goals try (exfalso;omega)
  all_goals try contradiction
  apply Ad.Ed (l.length) [(0,_),(1,_),(24,_),(25,_)] [] (fun k r=>(26,.p (.int .i64 (k:Int)))::r) (fun k r=>r) 0
  ·first|omega|decide
  ·first|omega|decide
  ·repeat (first|exact Ak.nil|(refine Ak.eq rfl ?_ ?_;(first|exact PV.Ac rfl|(simp [PV.under,AP.under];done)))|refine Ak.cons trivial rfl (.of_eq (Aq (by simp<;>omega))) ?_)
  ·repeat (first|exact Ah.nil|(refine Ah.eq rfl (Aj rfl) ?_ ?_;(first|exact HB.Ac rfl|exact AP.Ag _ _|(simp [HB.under,AP.under,PV.under];done)))|(refine Ah.cons (Aj rfl) ?_ rfl ?_ ?_;(first|exact trivial|exact AP.Ag _ _|(simp [HB.under,AP.under,PV.under]));(first|exact Bg.refl _|exact Bg.vec (Bf.refl _) (by simp))))
  ·intro k hk
   have hrk:=hrow k (by omega)
   repeat' (first|apply Ad.AA|apply Ad.region|apply Ad.Au|apply Ad.Ai|apply AO.normal|apply AL.normal|apply Ad.skip|apply Af.nil|apply Af.one|(apply Aa.AV (l:=l) (i:=k);rfl;rfl;rfl;omega;rfl)|(apply Aa.AV (l:=l) (i:=0);rfl;rfl;rfl;omega;rfl)|(apply Aa.assign;rfl)|(apply Aa.move;rfl)|(apply Aa.Bq;rfl;rfl;omega)|(apply Aa.int;rfl;rfl;rfl)|(apply Aa.load;rfl;rfl)|(apply Aa.BH;rfl;rfl)|(apply Ad.Ae;rfl)|(apply Ad.AZ;rfl)|(intro _;try (exfalso;omega)))
   all_goals try (exfalso;omega)
   refine Aw.normal ⟨by first|omega|decide,?_,?_⟩
   ·repeat (first|exact Ak.nil|refine Ak.same (by exact PV.Ac rfl) rfl ?_|refine Ak.cons trivial rfl (.of_eq (Aq (by simp<;>omega))) ?_)
   ·repeat (first|exact Ah.nil|(refine Ah.cons (Aj rfl) ?_ rfl ?_ ?_;(first|exact HB.Ac rfl|exact AP.Ag _ _|(simp [HB.under,AP.under,PV.under]));(first|exact Bg.refl _|exact Bg.vec (Bf.refl _) (by simp))))
  ·repeat' (first|apply Ad.assoc|apply Ad.AA|apply Ad.Au|apply Ad.AX|apply Ad.Ai|apply AO.normal|apply AL.exit|apply Aw.exit|apply Af.nil|apply Af.one|(apply Af.drop;rfl;rfl;rfl)|(apply Aa.move;rfl)|(apply Aa.int;rfl;rfl;rfl)|(apply Aa.AU;rfl;rfl)|(apply Aa.BH;rfl;rfl)|(apply Ad.Az;rfl)|(apply Ad.Ae;rfl)|(intro _;try (exfalso;omega)))
   all_goals try (exfalso;omega)
   all_goals try contradiction
   apply Ad.Ed (l.length) [(0,_),(53,_),(54,_)] [] (fun k r=>(55,.p (.int .i64 (k:Int)))::r) (fun k r=>r) 0
   ·first|omega|decide
   ·first|omega|decide
   ·repeat (first|exact Ak.nil|(refine Ak.eq rfl ?_ ?_;(first|exact PV.Ac rfl|(simp [PV.under,AP.under];done)))|refine Ak.cons trivial rfl (.of_eq (Aq (by simp<;>omega))) ?_)
   ·repeat (first|exact Ah.nil|(refine Ah.eq rfl (Aj rfl) ?_ ?_;(first|exact HB.Ac rfl|exact AP.Ag _ _|(simp [HB.under,AP.under,PV.under];done)))|(refine Ah.cons (Aj rfl) ?_ rfl ?_ ?_;(first|exact trivial|exact AP.Ag _ _|(simp [HB.under,AP.under,PV.under]));(first|exact Bg.refl _|exact Bg.vec (Bf.refl _) (by simp))))
   ·intro k hk
    have hrk:=hrow k (by omega)
    repeat' (first|apply Ad.assoc|apply Ad.AA|apply Ad.Au|apply Ad.Ai|apply Af.nil|apply Af.one|(apply Vu;rfl;rfl;rfl;exact le_dec rfl)|(apply Vz;rfl;rfl;rfl;exact le_dec rfl)|(apply Aa.assign;rfl)|(apply Aa.move;rfl)|(apply Aa.int;rfl;rfl;rfl)|(apply Aa.AV;rfl;rfl;rfl;omega;rfl)|(apply Aa.load;rfl;rfl)|(apply Aa.BH;rfl;rfl)|(apply Ad.Ae;rfl)|(intro _;try (exfalso;omega)))
    all_goals try (exfalso;omega)
    apply Ad.Ed ((gi l k).length) [(0,_),(1,_),(7,_)] [] (fun k_ r=>(8,.p (.int .i64 (k_:Int)))::r) (fun k_ r=>r) 0
    ·first|omega|decide
    ·first|omega|decide
    ·repeat (first|exact Ak.nil|(refine Ak.eq rfl ?_ ?_;(first|exact PV.Ac rfl|(simp [PV.under,AP.under];done)))|refine Ak.cons trivial rfl (.of_eq (Aq (by simp<;>omega))) ?_)
    ·repeat (first|exact Ah.nil|(refine Ah.eq rfl (Aj rfl) ?_ ?_;(first|exact HB.Ac rfl|exact AP.Ag _ _|(simp [HB.under,AP.under,PV.under];done)))|(refine Ah.cons (Aj rfl) ?_ rfl ?_ ?_;(first|exact trivial|exact AP.Ag _ _|(simp [HB.under,AP.under,PV.under]));(first|exact Bg.refl _|exact Bg.vec (Bf.refl _) (by simp))))
    ·intro j hj
     have hb:=yB k j (by omega) (by omega)
     repeat' (first|apply Ad.AA|apply Ad.region|apply Ad.Au|apply Ad.Ai|apply AO.normal|(apply Bl.ret;rfl)|apply AL.normal|apply Ad.ret|apply Ad.skip|apply Af.nil|apply Af.one|(apply Af.take;rfl;rfl)|(apply Af.guard;rfl;rfl)|(apply zJ;rfl;rfl;rfl;exact le_dec rfl)|(apply Aa.assign;rfl)|(apply Aa.move;rfl)|(apply Aa.Bq;rfl;rfl;omega)|(apply Aa.int;rfl;rfl;rfl)|(apply Aa.AV;rfl;rfl;rfl;omega;rfl)|(apply Aa.load;rfl;rfl)|(apply Aa.AU;rfl;rfl)|(apply Ad.Ae;rfl)|(apply Ad.AZ;rfl)|(intro _;try (exfalso;omega)))
     all_goals try (exfalso;omega)
     refine Aw.normal ⟨by first|omega|decide,?_,?_⟩
     ·repeat (first|exact Ak.nil|refine Ak.same (by exact PV.Ac rfl) rfl ?_|refine Ak.cons trivial rfl (.of_eq (Aq (by simp<;>omega))) ?_)
     ·repeat (first|exact Ah.nil|(refine Ah.cons (Aj rfl) ?_ rfl ?_ ?_;(first|exact HB.Ac rfl|exact AP.Ag _ _|(simp [HB.under,AP.under,PV.under]));(first|exact Bg.refl _|exact Bg.vec (Bf.refl _) (by simp))))
    ·repeat' (first|apply Ad.AA|apply Ad.region|apply Ad.AX|apply AO.normal|(apply Bl.ret;rfl)|apply AL.normal|apply AL.exit|apply Aw.exit|apply Ad.ret|apply Ad.skip|apply Af.nil|apply Af.one|(apply Aa.assign;rfl)|(apply Aa.move;rfl)|(apply Aa.Bq;rfl;rfl;omega)|(apply Aa.int;rfl;rfl;rfl)|(apply Ad.Ae;rfl)|(apply Ad.cond_false;rfl)|(intro _;try (exfalso;omega)))
     all_goals try (exfalso;omega)
     all_goals try contradiction
     refine Aw.normal ⟨by first|omega|decide,?_,?_⟩
     ·repeat (first|exact Ak.nil|refine Ak.same (by exact PV.Ac rfl) rfl ?_|refine Ak.cons trivial rfl (.of_eq (Aq (by simp<;>omega))) ?_)
     ·repeat (first|exact Ah.nil|(refine Ah.cons (Aj rfl) ?_ rfl ?_ ?_;(first|exact HB.Ac rfl|exact AP.Ag _ _|(simp [HB.under,AP.under,PV.under]));(first|exact Bg.refl _|exact Bg.vec (Bf.refl _) (by simp))))
   ·repeat' (first|apply Ad.AA|apply Ad.AX|apply AO.normal|apply AL.exit|apply Aw.exit|apply Ad.ret|apply Af.nil|apply Af.one|(apply Aa.assign;rfl)|(apply Aa.int;rfl;rfl;rfl)|(apply Ad.Ae;rfl)|(intro _;try (exfalso;omega)))
    all_goals first|(exfalso;omega)|contradiction|(refine Done.ret rfl (.refl _) (by exact PV.Ac rfl) Ah.nil (Nat.zero_le _) (Nat.le_refl _) ⟨?_,rfl,rfl⟩;try rfl)
theorem MO {l:List (List Int)} {n m:Nat} {skip B:Int} (e:TypeId) (h:RZ l n m skip B):AY env 46 [.lst e (cells l) l.length,.int .i64 skip] (.p (.int .i64 0)):=by
 have hc:=bJ e h
 have h4:=h.B9
 have h5:=h.Ye.skip
 refine AY.enter (AB (by decide)) Tryz.func46 rfl (by kernel_rfl) (by simp [Tryz.ntmps46]) ?_
 repeat' (first|apply Ad.assoc|apply Ad.AA|apply Ad.Au|apply Ad.ret|apply Af.nil|apply Af.one|(apply Af.take;rfl;rfl)|(apply Af.guard;rfl;rfl)|(apply Aa.fn;rfl;rfl;exact hc;intro _;rfl)|(apply Aa.assign;rfl)|(apply Aa.move;rfl)|(apply Aa.int;rfl;rfl;rfl)|(apply Aa.AU;rfl;rfl)|(apply Ad.Az;rfl)|(apply Ad.Ae;rfl)|(intro _;try (exfalso;omega)))
 all_goals first|(exfalso;omega)|contradiction|(refine Done.ret rfl (.refl _) (by exact PV.Ac rfl) Ah.nil (Nat.zero_le _) (Nat.le_refl _) ⟨?_,rfl,rfl⟩;try rfl)
theorem OJ {l:List (List Int)} {n m:Nat} {skip B:Int} (e:TypeId) (h:RZ l n m skip B):AY env 69 [.lst e (cells l) l.length] (.p (.int .i64 (m:Int))):=by
 have:=MF e l (by have:=h.Ye.len;have:=h.n60;omega)
 rwa [h.cols] at this
theorem iy (l:List Int) (h0:0<l.length) (h1:l.length<1000000):CG env 70 [.lst 3 (cells l) l.length] 3 (cells l) l.length false:=by
 refine CG.enter (AB (by decide)) Tryz.func70 rfl (by kernel_rfl) (by simp [Tryz.ntmps70]) ?_
 repeat' (first|apply Ad.assoc|apply Ad.AA|apply Ad.Au|apply Ad.ret|apply Af.nil|apply Af.one|(apply Aa.a3r;rfl;rfl;rfl;exact h0)|(apply Aa.assign;rfl)|(apply Aa.move;rfl)|(apply Aa.buildSlice;rfl;rfl;rfl;decide;rfl;rfl;rfl)|(apply Aa.N8;rfl;rfl;rfl;(first|rfl|omega|(simp only [List.length_take,List.length_drop,List.length_append,List.length_singleton,List.length_cons,List.length_nil]<;>omega));rfl;rfl;(intro _ h;cases h);rfl;rfl;rfl;decide;decide;(first|omega|(simp only [List.length_take,List.length_drop,List.length_append,List.length_singleton,List.length_cons,List.length_nil]<;>omega)))|(apply Ad.Az;rfl))
 exact CW.ret rfl rfl rfl rfl
theorem zA {L:Vm.Frame} {H:Vm.Heap} {nx:Nat} {Q:PV→Vm.Heap→Nat→Prop} {dst:Option Tmp} {ty:TypeId} {pos:String} {af:Array Edge} {gd:Option (Nat×Bool)} {fo:Operand} {args:Array Operand} {aT:Array TypeId} {fs cs xs:List PV} {c:Code}
 (hf:BD env.Γ L fo=some (.clo 70 fs cs)) (ha:evs env.Γ L args.toList=some xs) (hb:Tryz.f70.body=some c) (hn:(fs++xs++cs).length≤Tryz.f70.ntmps)
 (h:Ad env nx c (CS 0 (fs++xs++cs)) H nx (Bl env.P Tryz.f70.results.toList Q)):Aa env true ⟨dst,.call { callee:=.value fo,args:=args,argTypes:=aT },ty,pos,af,gd⟩ L H nx Q:=by
 have h0:(match Tryz.f70.body with|some c=>Hy env.G Tryz.f70 c|none=>false)=true:=by kernel_rfl
 rw [hb] at h0
 exact Aa.inline rfl hf ha (AB (by decide)) Tryz.func70 hb h0 hn h
theorem og {α:Type} [Inhabited α] {l:List α} {k:Nat} (h:k<l.length):l.take (k+1)=l.take k++[gi l k]:=by
 rw [List.take_succ_eq_append_getElem h]
 unfold gi
 rw [List.getElem?_eq_getElem h];rfl
def U1 (l:List (List Int)) (skip:Int) (k:Nat):List Int:=gi l k++List.replicate (l.length+1) skip
def Ot (l:List (List Int)) (skip:Int) (k:Nat):List (List Int):=(DC l skip l.length).take k++List.replicate (l.length-k) []
theorem OO (l:List (List Int)) (skip:Int) (n:Nat):(DC l skip n).length=l.length:=by simp [DC]
theorem rM (l:List (List Int)) (skip:Int) {k:Nat} (h:k≤l.length):(Ot l skip k).length=l.length:=by
 unfold Ot
 rw [List.length_append,List.length_take,List.length_replicate,OO];omega
theorem pO (l:List (List Int)) (skip:Int):Ot l skip l.length=DC l skip l.length:=by
 unfold Ot
 rw [Nat.sub_self,List.take_of_length_le (by rw [OO];exact Nat.le_refl _)]
 simp
theorem qZ (l:List (List Int)) (skip:Int) {k:Nat} (h:k<l.length):(Ot l skip k).set k (U1 l skip k)=Ot l skip (k+1):=by
 have e1:U1 l skip k=gi (DC l skip l.length) k:=(gi_map' (fun row=>row++List.replicate (l.length+1) skip) h).symm
 have hk:k<(DC l skip l.length).length:=by rw [OO];exact h
 obtain ⟨r,hr⟩:∃ r,l.length-k=r+1:=⟨l.length-k-1,by omega⟩
 unfold Ot
 rw [e1,og hk,hr,show l.length-(k+1)=r by omega]
 have ht:((DC l skip l.length).take k).length=k:=by rw [List.length_take];omega
 generalize gi (DC l skip l.length) k=x
 generalize (DC l skip l.length).take k=t at *
 rw [List.set_append_right _ _ (by omega),ht,Nat.sub_self,List.replicate_succ,List.set_cons_zero,List.append_assoc]
 rfl
theorem Yv:∀ n:Nat,Bf ((Bc [.slice none 0 0] n).map FZ) (cells (List.replicate n ([]:List Int)))
 |0=>.refl _
 |n+1=>.cons (.nil _) (Yv n)
theorem jd (l:List (List Int)) (skip:Int):Ot l skip 0=List.replicate l.length []:=by unfold Ot;simp
def Ve (m:Nat) (cols:List Int) (j:Nat):List Int:=(cols.take j).map (KL m)++cols.drop j
theorem Wy (m:Nat) (cols:List Int) (j:Nat):(Ve m cols j).length=cols.length:=by
 unfold Ve
 rw [List.length_append,List.length_map,List.length_take,List.length_drop];omega
theorem mP (m:Nat) (cols:List Int) {j:Nat} (h:j<cols.length):gi (Ve m cols j) j=gi cols j:=by
 unfold Ve gi
 rw [List.getElem?_append_right (by rw [List.length_map,List.length_take];omega),List.length_map,List.length_take,Nat.min_eq_left (Nat.le_of_lt h),Nat.sub_self,List.getElem?_drop,Nat.add_zero]
theorem gQ (m:Nat) (cols:List Int) {j:Nat} (h:j<cols.length):(Ve m cols j).set j (KL m (gi cols j))=Ve m cols (j+1):=by
 unfold Ve
 have ht:((cols.take j).map (KL m)).length=j:=by rw [List.length_map,List.length_take];omega
 rw [List.set_append_right _ _ (by omega),ht,Nat.sub_self,og h,List.map_append,List.append_assoc]
 congr 1
 rw [List.drop_eq_getElem_cons h,List.set_cons_zero]
 rfl
theorem qg (m:Nat) (cols:List Int) {j:Nat} (h:j<cols.length) (hc:KL m (gi cols j)=gi cols j):Ve m cols (j+1)=Ve m cols j:=by
 rw [← gQ m cols h,hc,← mP m cols h]
 refine List.ext_getElem? fun i=>?_
 rw [List.getElem?_set]
 by_cases e:j=i
 ·subst e
  rw [if_pos rfl,if_pos (by rw [Wy];exact h)]
  unfold gi
  rw [List.getElem?_eq_getElem (by rw [Wy];exact h)]
  rfl
 ·rw [if_neg e]
theorem yj (m:Nat) (cols:List Int):Ve m cols cols.length=cols.map (KL m):=by
 unfold Ve
 rw [List.take_of_length_le (Nat.le_refl _),List.drop_of_length_le (Nat.le_refl _),List.append_nil]
structure RX where
 cols:List Int
 total:Int
 rows:List Int
 BZ:List Int
def RX.enc (x:RX):List FV:=[.lst 3 (cells x.cols) x.cols.length,.int .i64 x.total,.lst 3 (cells x.rows) x.rows.length,.lst 3 (cells x.BZ) x.BZ.length]
instance:Enc RX:={ default:=⟨[],0,[],[]⟩,enc:=RX.enc,size:=4,len:=fun _=>rfl }
def Zf (l:List (List Int)) (m:Nat) (skip:Int):RX:=⟨vg l l.length m skip,jw l l.length m skip,wV l l.length m skip,uh l l.length m skip⟩
theorem Zi {l:List (List Int)} {m:Nat} {skip B:Int} (e:TypeId) (h:RZ l l.length m skip B) (h0:0<l.length) :
 AY env 45 [.lst e (cells l) l.length,.int .i64 skip] (.EP [.p (.agg (Enc.enc (Zf l m skip))),.p (.int .i64 0)]):=by
 have hck:=MO e h
 have hcl:=OJ e h
 have h2:=h.n60
 have h3:=h.a0f
 have hrow:=h.Ye.row
 have hP:=yI h.Ye
 have hw:=Yk h.Ye
 have hs:=Xy hw
 have hsv:=iF (costs:=DC l skip l.length) (n:=l.length) (m:=m+(l.length+1)) 52 hw (OO _ _ _) (fun r hr=>by
  unfold DC
  rw [gi_map' _ hr,List.length_append,List.length_replicate,hrow r hr]) h0 (by omega)
 have hroom:l.length*(24+1)≤room∧l.length≤2 ^ 40:=⟨by have:=ZN (n:=l.length) (k:=0) (b:=24) (by omega) (by decide);simpa using this,by omega⟩
 refine AY.enter (AB (by decide)) Tryz.func45 rfl (by kernel_rfl) (by simp [Tryz.ntmps45]) ?_
 repeat' (first|apply Ad.assoc|apply Ad.AA|apply Ad.Au|apply Ad.Ai|apply Af.nil|apply Af.one|(apply Aa.fn;rfl;rfl;exact hck;intro _;rfl)|(apply Aa.fn;rfl;rfl;exact hcl;intro _;rfl)|(apply Aa.makeSlice (n:=l.length);rfl;rfl;rfl;rfl;rfl;exact hroom;decide)|(apply Aa.assign;rfl)|(apply Aa.move;rfl)|(apply Aa.int;rfl;rfl;rfl)|(apply Aa.BH;rfl;rfl)|(apply Aa.alloc;rfl)|(apply Ad.Az;rfl))
 all_goals try (exfalso;omega)
 all_goals try contradiction
 refine Ad.ghost (A8.a6y 1 (cells (Ot l skip 0)) rfl (by rw [jd];exact Yv _)) ?_
 apply Ad.Ed (l.length) [(0,_),(1,_),(4,_),(7,_),(8,_),(26,_),(27,_)] [(0,_)] (fun k r=>(28,.p (.int .i64 (k:Int)))::r) (fun k r=>(1,.vec 52 (cells (Ot l skip k)) l.length false)::r) 2
 ·first|omega|decide
 ·first|omega|decide
 ·repeat (first|exact Ak.nil|(refine Ak.eq rfl ?_ ?_;(first|exact PV.Ac rfl|(simp [PV.under,AP.under];done)))|refine Ak.cons trivial rfl (.of_eq (Aq (by simp<;>omega))) ?_)
 ·repeat (first|exact Ah.nil|(refine Ah.eq rfl (Aj rfl) ?_ ?_;(first|exact HB.Ac rfl|exact AP.Ag _ _|(simp [HB.under,AP.under,PV.under];done)))|(refine Ah.cons (Aj rfl) ?_ rfl ?_ ?_;(first|exact trivial|exact AP.Ag _ _|(simp [HB.under,AP.under,PV.under]));(first|exact Bg.refl _|exact Bg.vec (Bf.refl _) (by simp))))
 ·intro k hk
  have hrk:=hrow k hk
  have hsl:=rM l skip (Nat.le_of_lt hk)
  have hst:=qZ l skip hk
  have hrep:=UC 3 skip (l.length+1) (by omega) (by omega)
  have hlen:(gi l k++List.replicate (l.length+1) skip).length=(gi l k).length+(List.replicate (l.length+1) skip).length:=List.length_append
  have hrl:(List.replicate (l.length+1) skip).length=l.length+1:=List.length_replicate
  have hpc:Gw (.p (.lst 3 (cells (gi l k++List.replicate (l.length+1) skip)) ((gi l k).length+(List.replicate (l.length+1) skip).length)))=(Enc.enc (U1 l skip k)).map .p:=by
   show [PV.p (FV.lst 3 (cells (gi l k++List.replicate (l.length+1) skip)) ((gi l k).length+(List.replicate (l.length+1) skip).length))]=[PV.p (FV.lst 3 (cells (U1 l skip k)) (U1 l skip k).length)]
   rw [show (U1 l skip k).length=_ from hlen];rfl
  by_cases hm:0<m
  ·have hcn:=iy (gi l k) (by omega) (by omega)
   repeat' (first|(refine Af.IU 42 ?_;refine Af.ghost (A8.freeze 38 rfl rfl) ?_)|(refine Af.IU 43 ?_;refine Af.ghost (A8.freeze 42 rfl rfl) ?_)|(refine Af.IU 44 ?_;refine Af.ghost (A8.freeze 43 rfl rfl) ?_)|apply Ad.AA|apply Ad.region|apply Ad.Au|apply Ad.Ai|apply AO.normal|apply AL.normal|apply Af.nil|apply Af.one|(apply Aa.fv;rfl;rfl;exact hcn)|(apply Aa.fv;rfl;rfl;exact hrep)|(apply Aa.D6 (y:=U1 l skip k);rfl;rfl;rfl;trivial;exact hpc;rfl;rfl;decide;omega)|(apply Aa.QE (l:=gi l k) (r:=List.replicate (l.length+1) skip);rfl;rfl;rfl;rfl;exact hrl;rfl;rfl;(intro _ h;cases h);rfl;rfl;rfl;decide;decide;omega)|(apply Aa.assign;rfl)|(apply Aa.move;rfl)|(apply Aa.Bq;rfl;rfl;omega)|(apply Aa.int;rfl;rfl;rfl)|(apply Aa.AV;rfl;rfl;rfl;omega;rfl)|(apply Aa.load;rfl;rfl)|(apply Aa.BH;rfl;rfl)|(apply Aa.buildSlice;rfl;rfl;rfl;decide;rfl;rfl;rfl)|(apply Aa.Df;rfl;rfl;rfl;rfl;omega)|(apply Ad.Ae;rfl)|(intro _;try (exfalso;omega)))
   all_goals try (exfalso;omega)
   refine Aw.normal ⟨by first|omega|decide,?_,?_⟩
   ·try (rw [← hst])
    repeat (first|exact Ak.nil|refine Ak.same (by exact PV.Ac rfl) rfl ?_|refine Ak.cons trivial rfl (.of_eq (Aq (by simp<;>omega))) ?_)
   ·rw [← hst]
    repeat (first|exact Ah.nil|(refine Ah.cons (Aj rfl) ?_ rfl ?_ ?_;(first|exact HB.Ac rfl|exact AP.Ag _ _|(simp [HB.under,AP.under,PV.under]));(first|exact Bg.refl _|exact Bg.vec (Bf.refl _) (by simp))))
  ·have hl0:gi l k=[]:=List.length_eq_zero_iff.1 (by omega)
   have a9f:Gw (.p (.lst 3 (cells (List.replicate (l.length+1) skip)) (List.replicate (l.length+1) skip).length))=(Enc.enc (U1 l skip k)).map .p:=by
    rw [show U1 l skip k=List.replicate (l.length+1) skip by unfold U1;rw [hl0];rfl];rfl
   repeat' (first|(refine Af.IU 42 ?_;refine Af.ghost (A8.freeze 38 rfl rfl) ?_)|(refine Af.IU 43 ?_;refine Af.ghost (A8.trans (A8.freeze 42 rfl rfl) (A8.adopt 36 3 rfl)) ?_)|(refine Af.IU 43 ?_;refine Af.ghost (A8.freeze 42 rfl rfl) ?_)|(refine Af.IU 44 ?_;refine Af.ghost (A8.freeze 43 rfl rfl) ?_)|apply Ad.assoc|apply Ad.AA|apply Ad.region|apply Ad.Au|apply Ad.BL|apply Ad.Ai|apply AO.normal|(apply Bl.ret;rfl)|apply AL.normal|apply Ad.ret|apply Af.nil|apply Af.one|(apply zA;rfl;rfl;rfl;exact le_dec rfl)|(apply Aa.fv;rfl;rfl;exact hrep)|(apply Aa.D6 (y:=U1 l skip k);rfl;rfl;rfl;trivial;exact a9f;rfl;rfl;decide;omega)|(apply Aa.N8 (r:=List.replicate (l.length+1) skip);rfl;rfl;rfl;exact hrl;rfl;rfl;(intro _ h;cases h);rfl;rfl;rfl;decide;decide;omega)|(apply Aa.eqNil;rfl;rfl;rfl;intro b hb)|(apply Aa.D6 (y:=U1 l skip k);rfl;rfl;rfl;trivial;exact hpc;rfl;rfl;decide;omega)|(apply Aa.QE (l:=gi l k) (r:=List.replicate (l.length+1) skip);rfl;rfl;rfl;rfl;exact hrl;rfl;rfl;(intro _ h;cases h);rfl;rfl;rfl;decide;decide;omega)|(apply Aa.assign;rfl)|(apply Aa.move;rfl)|(apply Aa.Bq;rfl;rfl;omega)|(apply Aa.int;rfl;rfl;rfl)|(apply Aa.AV;rfl;rfl;rfl;omega;rfl)|(apply Aa.load;rfl;rfl)|(apply Aa.BH;rfl;rfl)|(apply Aa.buildSlice;rfl;rfl;rfl;decide;rfl;rfl;rfl)|(apply Aa.Df;rfl;rfl;rfl;rfl;omega)|(apply Aa.N8;rfl;rfl;rfl;(first|rfl|omega|(simp only [List.length_take,List.length_drop,List.length_append,List.length_singleton,List.length_cons,List.length_nil]<;>omega));rfl;rfl;(intro _ h;cases h);rfl;rfl;rfl;decide;decide;(first|omega|(simp only [List.length_take,List.length_drop,List.length_append,List.length_singleton,List.length_cons,List.length_nil]<;>omega)))|(apply Ad.Ae;rfl)|(apply Ad.QC;rfl)|(intro _;try (exfalso;omega)))
   all_goals try (exfalso;omega)
   ·refine Aw.normal ⟨by first|omega|decide,?_,?_⟩
    ·try (rw [← hst])
     repeat (first|exact Ak.nil|refine Ak.same (by exact PV.Ac rfl) rfl ?_|refine Ak.cons trivial rfl (.of_eq (Aq (by simp<;>omega))) ?_)
    ·rw [← hst]
     repeat (first|exact Ah.nil|(refine Ah.cons (Aj rfl) ?_ rfl ?_ ?_;(first|exact HB.Ac rfl|exact AP.Ag _ _|(simp [HB.under,AP.under,PV.under]));(first|exact Bg.refl _|exact Bg.vec (Bf.refl _) (by simp))))
   ·refine Aw.normal ⟨by first|omega|decide,?_,?_⟩
    ·try (rw [← hst])
     repeat (first|exact Ak.nil|refine Ak.same (by exact PV.Ac rfl) rfl ?_|refine Ak.cons trivial rfl (.of_eq (Aq (by simp<;>omega))) ?_)
    ·rw [← hst]
     repeat (first|exact Ah.nil|(refine Ah.cons (Aj rfl) ?_ rfl ?_ ?_;(first|exact HB.Ac rfl|exact AP.Ag _ _|(simp [HB.under,AP.under,PV.under]));(first|exact Bg.refl _|exact Bg.vec (Bf.refl _) (by simp))))
 ·rw [pO]
  have lC:(Gv (DC l skip l.length) l.length (m+(l.length+1))).cols.length=l.length:=hs.len
  have lV:(GR (DC l skip l.length) l.length (m+(l.length+1))).length=m+(l.length+1):=hs.lV
  repeat' (first|(refine Af.IU 47 ?_;refine Af.ghost (A8.freeze 46 rfl rfl) ?_)|apply Ad.assoc|apply Ad.AA|apply Ad.AX|apply Ad.Ai|apply AO.normal|apply AL.exit|apply Aw.exit|apply Af.nil|apply Af.one|(apply Aa.cZ [] (hsv);rfl;rfl;exact .of_eq rfl;exact AP.Ac rfl;exact DJ rfl;(repeat (first|exact trivial|refine ⟨⟨_,rfl,.of_eq rfl⟩,?_⟩));decide;(intro _ hb;first|(simp at hb;done)|(simp at hb ⊢<;>omega));(rintro _ _ _ ⟨rfl,rfl,rfl⟩))|(apply Aa.sliceTo (l:=GR (DC l skip l.length) l.length (m+(l.length+1))) (b:=m);rfl;rfl;rfl;rfl;rfl;exact lV;omega)|(apply Aa.move;rfl)|(apply Aa.int;rfl;rfl;rfl)|(apply Aa.load;rfl;rfl)|(apply Aa.BH;rfl;rfl)|(apply Aa.lenV;rfl;rfl;rfl)|(apply Aa.AQ;rfl;rfl;rfl)|(apply Aa.alloc;rfl)|(apply Aa.Bj;rfl;rfl;rfl;trivial;rfl;rfl;exact Aj rfl;exact le_dec rfl)|(apply Ad.Ae;rfl)|(intro _;try (exfalso;omega)))
  all_goals try (exfalso;omega)
  all_goals try contradiction
  have eM:Zf l m skip=⟨(Gv (DC l skip l.length) l.length (m+(l.length+1))).cols.map (KL m),(Gv (DC l skip l.length) l.length (m+(l.length+1))).total,J8 (DC l skip l.length) l.length (m+(l.length+1)),(GR (DC l skip l.length) l.length (m+(l.length+1))).take m⟩:=rfl
  have XR:=hs.col
  rw [eM]
  generalize (Gv (DC l skip l.length) l.length (m+(l.length+1))).cols=cols at *
  apply Ad.Ed (l.length) [(4,_),(7,_),(11,_),(57,_),(58,_)] [(8,_),(0,_)] (fun k r=>(59,.p (.int .i64 (k:Int)))::r) (fun k r=>(7,.vec 3 (cells (Ve m cols k)) l.length false)::r) 9
  ·first|omega|decide
  ·first|omega|decide
  ·repeat (first|exact Ak.nil|(refine Ak.eq rfl ?_ ?_;(first|exact PV.Ac rfl|(simp [PV.under,AP.under];done)))|refine Ak.cons trivial rfl (.of_eq (Aq (by simp<;>omega))) ?_)
  ·repeat (first|exact Ah.nil|(refine Ah.eq rfl (Aj rfl) ?_ ?_;(first|exact HB.Ac rfl|exact AP.Ag _ _|(simp [HB.under,AP.under,PV.under];done)))|(refine Ah.cons (Aj rfl) ?_ rfl ?_ ?_;(first|exact trivial|exact AP.Ag _ _|(simp [HB.under,AP.under,PV.under]));(first|exact Bg.refl _|exact Bg.vec (Bf.refl _) (by simp))))
  ·intro k hk
   have c1:=Wy m cols k
   have c2:=mP m cols (j:=k) (by omega)
   have c3:=gQ m cols (j:=k) (by omega)
   have c4:=XR k hk
   by_cases hc:(m:Int)≤gi cols k
   ·have c5:KL m (gi cols k)=-1:=if_pos hc
    rw [c5] at c3
    repeat' (first|apply Ad.AA|apply Ad.region|apply Ad.Au|apply Ad.Ai|apply AO.normal|apply AL.normal|apply Af.nil|apply Af.one|(apply Aa.Dk;rfl;rfl;(first|omega|(simp only [List.length_set]<;>omega));exact congrArg (fun b=>some (FV.int .i64 b)) (c2))|(apply Aa.D6 (y:=(-1:Int));rfl;rfl;rfl;trivial;(first|rfl|(refine congrArg (fun t=>[PV.p (FV.int _ t)]) ?_;first|omega|(simp only [Int.natCast_add,Int.natCast_mul,Int.natCast_ediv,Int.natCast_emod]<;>omega)));rfl;rfl;decide;(first|omega|(simp only [List.length_set]<;>omega)))|(apply Aa.assign;rfl)|(apply Aa.move;rfl)|(apply Aa.Bq;rfl;rfl;omega)|(apply Aa.int;rfl;rfl;rfl)|(apply Aa.load;rfl;rfl)|(apply Aa.AQ;rfl;rfl;rfl)|(apply Aa.Df;rfl;rfl;rfl;rfl;omega)|(apply Ad.Ae;rfl)|(apply Ad.AZ;rfl)|(intro _;try (exfalso;omega)))
    all_goals try (exfalso;omega)
    refine Aw.normal ⟨by first|omega|decide,?_,?_⟩
    ·try (rw [← c3])
     repeat (first|exact Ak.nil|refine Ak.same (by exact PV.Ac rfl) rfl ?_|refine Ak.cons trivial rfl (.of_eq (Aq (by simp<;>omega))) ?_)
    ·rw [← c3]
     repeat (first|exact Ah.nil|(refine Ah.cons (Aj rfl) ?_ rfl ?_ ?_;(first|exact HB.Ac rfl|exact AP.Ag _ _|(simp [HB.under,AP.under,PV.under]));(first|exact Bg.refl _|exact Bg.vec (Bf.refl _) (by simp))))
   ·have c5:KL m (gi cols k)=gi cols k:=if_neg hc
    have c6:=qg m cols (j:=k) (by omega) c5
    repeat' (first|apply Ad.AA|apply Ad.region|apply Ad.Au|apply Ad.Ai|apply AO.normal|apply AL.normal|apply Ad.skip|apply Af.nil|apply Af.one|(apply Aa.Dk;rfl;rfl;(first|omega|(simp only [List.length_set]<;>omega));exact congrArg (fun b=>some (FV.int .i64 b)) (c2))|(apply Aa.assign;rfl)|(apply Aa.move;rfl)|(apply Aa.Bq;rfl;rfl;omega)|(apply Aa.int;rfl;rfl;rfl)|(apply Aa.Df;rfl;rfl;rfl;rfl;omega)|(apply Ad.Ae;rfl)|(apply Ad.AZ;rfl)|(intro _;try (exfalso;omega)))
    all_goals try (exfalso;omega)
    refine Aw.normal ⟨by first|omega|decide,?_,?_⟩
    ·try (rw [c6])
     repeat (first|exact Ak.nil|refine Ak.same (by exact PV.Ac rfl) rfl ?_|refine Ak.cons trivial rfl (.of_eq (Aq (by simp<;>omega))) ?_)
    ·rw [c6]
     repeat (first|exact Ah.nil|(refine Ah.cons (Aj rfl) ?_ rfl ?_ ?_;(first|exact HB.Ac rfl|exact AP.Ag _ _|(simp [HB.under,AP.under,PV.under]));(first|exact Bg.refl _|exact Bg.vec (Bf.refl _) (by simp))))
  ·have c7:=yj m cols
   rw [lC] at c7
   rw [c7]
   have f1:(cols.map (KL m)).length=l.length:=by rw [List.length_map];exact lC
   have f2:=hs.lU
   have f3:((GR (DC l skip l.length) l.length (m+(l.length+1))).take m).length=m:=by rw [List.length_take,lV];omega
   generalize cols.map (KL m)=C at *
   generalize (GR (DC l skip l.length) l.length (m+(l.length+1))).take m=V at *
   have hfin:∀ (t:Int) (U:List Int),U.length=l.length→PV.EP [.p (.agg [.lst 3 (cells C) l.length,.int .i64 t,.lst 3 (cells U) l.length,.lst 3 (cells V) m]),.p (.int .i64 0)]=PV.EP [.p (.agg (Enc.enc (⟨C,t,U,V⟩:RX))),.p (.int .i64 0)]:=fun t U f2=>by
    show _=PV.EP [.p (.agg [.lst 3 (cells C) C.length,.int .i64 t,.lst 3 (cells U) U.length,.lst 3 (cells V) V.length]),.p (.int .i64 0)]
    rw [f1,f2,f3]
   repeat' (first|(refine Ad.at 20 ?_;refine Ad.ghost (A8.Dc 8 0 rfl rfl rfl) ?_;first|apply Ad.AA|apply Ad.BI)|apply Ad.AA|apply Ad.AX|apply AO.normal|apply AL.exit|apply Aw.exit|apply Ad.ret|apply Af.nil|apply Af.one|(apply Aa.assign;rfl)|(apply Aa.int;rfl;rfl;rfl)|(apply Aa.load;rfl;rfl)|(apply Aa.Bj;rfl;rfl;rfl;trivial;rfl;rfl;exact Aj rfl;exact le_dec rfl)|(apply Ad.Ae;rfl)|(intro _;try (exfalso;omega)))
   all_goals try (exfalso;omega)
   all_goals (refine Done.ret rfl (.refl _) (by exact PV.Ac rfl) Ah.nil (Nat.zero_le _) (Nat.le_refl _) ⟨?_,rfl,rfl⟩;exact hfin _ _ f2)
theorem bU (e:TypeId):AY env 72 [.lst e [] 0] (.p (.agg (Enc.enc (⟨[],0,[],[]⟩:RX)))):=by
 have XR:AY env 69 [.lst e [] 0] (.p (.int .i64 0)):=MF e [] (by decide)
 refine AY.enter (AB (by decide)) Tryz.func72 rfl (by kernel_rfl) (by simp [Tryz.ntmps72]) ?_
 repeat' (first|apply Ad.assoc|apply Ad.AA|apply Ad.BI|apply Ad.Ai|apply Af.nil|apply Ar.nil|apply Af.one|(apply Ar.bar;decide +kernel)|apply Ar.quiet|(apply Aa.fn;rfl;rfl;exact XR;intro _;rfl)|(apply Aa.DX 1 (0:Int);rfl;rfl;rfl;rfl;rfl;rfl;rfl;decide;decide;decide;rfl)|(apply Aa.assign;rfl)|(apply Aa.move;rfl)|(apply Aa.Bq;rfl;rfl;omega)|(apply Aa.BH;rfl;rfl)|(apply Aa.alloc;rfl))
 all_goals try (exfalso;omega)
 apply Ad.Ed (0) [(2,_),(3,_),(4,_),(5,_),(6,_),(7,_)] [(0,_),(1,_),(2,_),(3,_)] (fun k r=>(9,.p (.int .i64 ((k+1:Nat):Int)))::r) (fun k r=>r) 5
 ·first|omega|decide
 ·first|omega|decide
 ·repeat (first|exact Ak.nil|(refine Ak.eq rfl ?_ ?_;(first|exact PV.Ac rfl|(simp [PV.under,AP.under];done)))|refine Ak.cons trivial rfl (.of_eq (Aq (by simp<;>omega))) ?_)
 ·repeat (first|exact Ah.nil|(refine Ah.eq rfl (Aj rfl) ?_ ?_;(first|exact HB.Ac rfl|exact AP.Ag _ _|(simp [HB.under,AP.under,PV.under];done)))|(refine Ah.cons (Aj rfl) ?_ rfl ?_ ?_;(first|exact trivial|exact AP.Ag _ _|(simp [HB.under,AP.under,PV.under]));(first|exact Bg.refl _|exact Bg.vec (Bf.refl _) (by simp))))
 ·intro k hk;omega
 ·repeat' (first|(refine Ad.at 34 ?_;refine Ad.ghost (A8.freeze 5 rfl rfl) ?_;first|apply Ad.AA|apply Ad.BI)|(refine Ar.atIdx 4 ?_;refine Ar.ghost (A8.freeze 6 rfl rfl) ?_)|apply Ad.assoc|apply Ad.AA|apply Ad.AX|apply Ad.Ai|apply AO.normal|apply AL.exit|apply Aw.exit|apply Af.nil|apply Ar.nil|apply Af.one|(apply Ar.bar;decide +kernel)|apply Ar.quiet|(apply Aa.DX 0 (0:Int);rfl;rfl;rfl;rfl;rfl;rfl;rfl;decide;decide;decide;rfl)|(apply Aa.sliceFrom (l:=[(0:Int)]) (a:=1);rfl;rfl;rfl;rfl;rfl;rfl;decide)|(apply Aa.assign;rfl)|(apply Aa.move;rfl)|(apply Aa.int;rfl;rfl;rfl)|(apply Aa.alloc;rfl)|(apply Aa.Bj;rfl;rfl;rfl;trivial;rfl;rfl;exact Aj rfl;exact le_dec rfl)|(apply Aa.build;rfl;rfl;rfl;rfl;rfl)|(apply Ad.Az;rfl))
  all_goals try (exfalso;omega)
  apply Ad.Ed (0) [(2,_),(3,_),(4,_),(7,_),(19,_)] [(0,_),(3,_),(5,_),(6,_)] (fun k r=>(20,.p (.int .i64 ((k+1:Nat):Int)))::r) (fun k r=>r) 7
  ·first|omega|decide
  ·first|omega|decide
  ·repeat (first|exact Ak.nil|(refine Ak.eq rfl ?_ ?_;(first|exact PV.Ac rfl|(simp [PV.under,AP.under];done)))|refine Ak.cons trivial rfl (.of_eq (Aq (by simp<;>omega))) ?_)
  ·repeat (first|exact Ah.nil|(refine Ah.eq rfl (Aj rfl) ?_ ?_;(first|exact HB.Ac rfl|exact AP.Ag _ _|(simp [HB.under,AP.under,PV.under];done)))|(refine Ah.cons (Aj rfl) ?_ rfl ?_ ?_;(first|exact trivial|exact AP.Ag _ _|(simp [HB.under,AP.under,PV.under]));(first|exact Bg.refl _|exact Bg.vec (Bf.refl _) (by simp))))
  ·intro k hk;omega
  ·repeat' (first|(refine Ad.at 42 ?_;refine Ad.ghost (A8.Dc 6 0 rfl rfl rfl) ?_;first|apply Ad.AA|apply Ad.BI)|apply Ad.assoc|apply Ad.AA|apply Ad.AX|apply AO.normal|apply AL.exit|apply Aw.exit|apply Ad.ret|apply Af.nil|apply Af.one|(apply Aa.move;rfl)|(apply Aa.int;rfl;rfl;rfl)|(apply Aa.load;rfl;rfl)|(apply Aa.Bj;rfl;rfl;rfl;trivial;rfl;rfl;exact Aj rfl;exact le_dec rfl)|(apply Ad.Az;rfl))
   all_goals first|(exfalso;omega)|(refine Done.ret rfl (.refl _) (by exact PV.Ac rfl) Ah.nil (Nat.zero_le _) (Nat.le_refl _) ⟨?_,rfl,rfl⟩;try rfl)
theorem X9 {skip:Int} (e:TypeId) (hk:0≤skip∧skip≤1000000000):AY env 45 [.lst e (cells ([]:List (List Int))) 0,.int .i64 skip] (.EP [.p (.agg (Enc.enc (⟨[],0,[],[]⟩:RX))),.p (.int .i64 0)]):=by
 have hM:RZ [] 0 0 skip 1000000000:=⟨⟨rfl,fun r hr=>by omega,fun r k hr=>by omega,hk,by decide⟩,by omega,by omega,by decide,fun _=>rfl⟩
 have hck:=MO e hM
 have hcl:=OJ e hM
 have hs:=bU 52
 refine AY.enter (AB (by decide)) Tryz.func45 rfl (by kernel_rfl) (by simp [Tryz.ntmps45]) ?_
 repeat' (first|apply Ad.assoc|apply Ad.AA|apply Ad.Au|apply Ad.Ai|apply Af.nil|apply Af.one|(apply Aa.fn;rfl;rfl;exact hck;intro _;rfl)|(apply Aa.fn;rfl;rfl;exact hcl;intro _;rfl)|(apply Aa.makeSlice (n:=0);rfl;rfl;rfl;rfl;rfl;decide;decide)|(apply Aa.assign;rfl)|(apply Aa.move;rfl)|(apply Aa.int;rfl;rfl;rfl)|(apply Aa.BH;rfl;rfl)|(apply Aa.alloc;rfl)|(apply Ad.Az;rfl))
 all_goals try (exfalso;omega)
 all_goals try contradiction
 apply Ad.Ed (0) [(0,_),(1,_),(4,_),(7,_),(8,_),(26,_),(27,_)] [(0,_),(1,_)] (fun k r=>(28,.p (.int .i64 (k:Int)))::r) (fun k r=>r) 2
 ·first|omega|decide
 ·first|omega|decide
 ·repeat (first|exact Ak.nil|(refine Ak.eq rfl ?_ ?_;(first|exact PV.Ac rfl|(simp [PV.under,AP.under];done)))|refine Ak.cons trivial rfl (.of_eq (Aq (by simp<;>omega))) ?_)
 ·repeat (first|exact Ah.nil|(refine Ah.eq rfl (Aj rfl) ?_ ?_;(first|exact HB.Ac rfl|exact AP.Ag _ _|(simp [HB.under,AP.under,PV.under];done)))|(refine Ah.cons (Aj rfl) ?_ rfl ?_ ?_;(first|exact trivial|exact AP.Ag _ _|(simp [HB.under,AP.under,PV.under]));(first|exact Bg.refl _|exact Bg.vec (Bf.refl _) (by simp))))
 ·intro k hk;omega
 ·repeat' (first|(refine Af.IU 47 ?_;refine Af.ghost (A8.freeze 46 rfl rfl) ?_)|apply Ad.assoc|apply Ad.AA|apply Ad.Au|apply Ad.AX|apply Ad.Ai|apply AO.normal|apply AL.exit|apply Aw.exit|apply Af.nil|apply Af.one|(apply Aa.fn;rfl;rfl;exact hs;intro _;rfl)|(apply Aa.move;rfl)|(apply Aa.int;rfl;rfl;rfl)|(apply Aa.load;rfl;rfl)|(apply Aa.BH;rfl;rfl)|(apply Aa.AQ;rfl;rfl;rfl)|(apply Aa.alloc;rfl)|(apply Aa.Bj;rfl;rfl;rfl;trivial;rfl;rfl;exact Aj rfl;exact le_dec rfl)|(apply Ad.Az;rfl))
  all_goals try (exfalso;omega)
  all_goals try contradiction
  apply Ad.Ed (0) [(4,_),(7,_),(11,_),(57,_),(58,_)] [(0,_),(2,_)] (fun k r=>(59,.p (.int .i64 (k:Int)))::r) (fun k r=>r) 3
  ·first|omega|decide
  ·first|omega|decide
  ·repeat (first|exact Ak.nil|(refine Ak.eq rfl ?_ ?_;(first|exact PV.Ac rfl|(simp [PV.under,AP.under];done)))|refine Ak.cons trivial rfl (.of_eq (Aq (by simp<;>omega))) ?_)
  ·repeat (first|exact Ah.nil|(refine Ah.eq rfl (Aj rfl) ?_ ?_;(first|exact HB.Ac rfl|exact AP.Ag _ _|(simp [HB.under,AP.under,PV.under];done)))|(refine Ah.cons (Aj rfl) ?_ rfl ?_ ?_;(first|exact trivial|exact AP.Ag _ _|(simp [HB.under,AP.under,PV.under]));(first|exact Bg.refl _|exact Bg.vec (Bf.refl _) (by simp))))
  ·intro k hk;omega
  ·repeat' (first|apply Ad.AA|apply Ad.AX|apply AO.normal|apply AL.exit|apply Aw.exit|apply Ad.ret|apply Af.nil|apply Af.one|(apply Aa.assign;rfl)|(apply Aa.int;rfl;rfl;rfl)|(apply Aa.load;rfl;rfl)|(apply Aa.Bj;rfl;rfl;rfl;trivial;rfl;rfl;exact Aj rfl;exact le_dec rfl)|(apply Ad.Az;rfl))
   all_goals first|(exfalso;omega)|(refine Done.ret rfl (.refl _) (by exact PV.Ac rfl) Ah.nil (Nat.zero_le _) (Nat.le_refl _) ⟨?_,rfl,rfl⟩;try rfl)
end Go.Proofs.YtdabojnmoejilaaGreatDoor
namespace Go.Hun
open Go Go.Am Go.Vm
def uT (row:List Int) (g:Nat→Int) (t:Nat) (b:Int):Nat→Int
 |0=>b
 |k+1=>if t.testBit k then uT row g t b k else min (uT row g t b k) (gi row k+g (t ||| 2 ^ k))
def Zk (l:List (List Int)) (skip:Int) (m n:Nat):Nat→Nat→Int
 |0,_=>0
 |r+1,t=>uT (gi l (n-(r+1))) (Zk l skip m n r) t (skip+Zk l skip m n r t) m
def UJ (f:Nat→Int) (n:Nat):Nat→Int
 |0=>0
 |r+1=>f (n-(r+1))+UJ f n r
theorem UO (f:Nat→Int) (n:Nat):∀ r,r≤n→DK f (n-r)+UJ f n r=DK f n
 |0,_=>by simp [UJ]
 |r+1,h=>by
  have ih:=UO f n r (by omega)
  have e:n-r=(n-(r+1))+1:=by omega
  rw [e] at ih
  simp only [DK] at ih
  simp only [UJ]
  omega
theorem rY (f:Nat→Int) (n:Nat):UJ f n n=DK f n:=by
 have:=UO f n n (Nat.le_refl _)
 rw [Nat.sub_self] at this
 simp only [DK] at this
 omega
structure b0y (n m r t:Nat) (cols:Nat→Int):Prop where
 rng:∀ q,n-r≤q→q<n→-1≤cols q∧cols q<m
 inj:∀ p q,n-r≤p→p<n→n-r≤q→q<n→0≤cols p→cols p=cols q→p=q
 free:∀ q,n-r≤q→q<n→0≤cols q→t.testBit (cols q).toNat=false
theorem a3w {t j k:Nat}:(t ||| 2 ^ j).testBit k=(t.testBit k||decide (j=k)):=by
 rw [Nat.testBit_or,Nat.testBit_two_pow]
end Go.Hun
namespace Go.Proofs.YtdabojnmoejilaaGreatDoor
open Go Go.Am Go.Vm Go.Hun
attribute [local irreducible] Aa Af Ar Ad BA AY CG AO AL Aw Vm.Done CW Bl ZA
theorem oG {L:Vm.Frame} {H:Vm.Heap} {nx:Nat} {Q:PV→Vm.Heap→Nat→Prop} {dst:Option Tmp} {ty:TypeId} {pos:String} {af:Array Edge} {gd:Option (Nat×Bool)} {fo:Operand} {args:Array Operand} {aT:Array TypeId} {fs cs xs:List PV} {c:Code}
 (hf:BD env.Γ L fo=some (.clo 103 fs cs)) (ha:evs env.Γ L args.toList=some xs) (hb:Tryz.f103.body=some c) (hn:(fs++xs++cs).length≤Tryz.f103.ntmps)
 (h:Ad env nx c (CS 0 (fs++xs++cs)) H nx (Bl env.P Tryz.f103.results.toList Q)):Aa env true ⟨dst,.call { callee:=.value fo,args:=args,argTypes:=aT },ty,pos,af,gd⟩ L H nx Q:=by
 have h0:(match Tryz.f103.body with|some c=>Hy env.G Tryz.f103 c|none=>false)=true:=by kernel_rfl
 rw [hb] at h0
 exact Aa.inline rfl hf ha (AB (by decide)) Tryz.func103 hb h0 hn h
theorem mg {L:Vm.Frame} {H:Vm.Heap} {nx:Nat} {Q:PV→Vm.Heap→Nat→Prop} {dst:Option Tmp} {ty:TypeId} {pos:String} {af:Array Edge} {gd:Option (Nat×Bool)} {fo:Operand} {args:Array Operand} {aT:Array TypeId} {fs cs xs:List PV} {c:Code}
 (hf:BD env.Γ L fo=some (.clo 76 fs cs)) (ha:evs env.Γ L args.toList=some xs) (hb:Tryz.f76.body=some c) (hn:(fs++xs++cs).length≤Tryz.f76.ntmps)
 (h:Ad env nx c (CS 0 (fs++xs++cs)) H nx (Bl env.P Tryz.f76.results.toList Q)):Aa env true ⟨dst,.call { callee:=.value fo,args:=args,argTypes:=aT },ty,pos,af,gd⟩ L H nx Q:=by
 have h0:(match Tryz.f76.body with|some c=>Hy env.G Tryz.f76 c|none=>false)=true:=by kernel_rfl
 rw [hb] at h0
 exact Aa.inline rfl hf ha (AB (by decide)) Tryz.func76 hb h0 hn h
def XW (l:List (List Int)) (m:Nat) (skip:Int) (cols:List Int):Nat→Nat→List Bool→Int→Int×Int
 |0,_,_,sum=>(sum,0)
 |r+1,k,used,sum =>
  if gi cols k< -1∨gi cols k≥m then (0,3)
  else if gi cols k<0 then XW l m skip cols r (k+1) used (sum+skip)
  else if gi used (gi cols k).toNat=true then (0,9)
  else XW l m skip cols r (k+1) (used.set (gi cols k).toNat true) (sum+gi (gi l k) (gi cols k).toNat)
def Z4 (l:List (List Int)) (m:Nat) (skip:Int) (cols:List Int):Int×Int:=if cols.length≠l.length then (0,5) else XW l m skip cols l.length 0 (List.replicate m false) 0
theorem jQ {l:List (List Int)} {m:Nat} {skip B:Int} (e:TypeId) (h:RZ l l.length m skip B) (cols:List Int) :
 AY env 47 [.lst e (cells l) l.length,.lst 3 (cells cols) cols.length,.int .i64 (-1),.int .i64 skip] (.EP [.p (.int .i64 (Z4 l m skip cols).1),.p (.int .i64 (Z4 l m skip cols).2)]):=by
 have hcl:=OJ e h
 have h2:=h.n60
 have h3:=h.a0f
 have h4:=h.B9
 have hrow:=h.Ye.row
 have yB:=h.Ye.rng
 have hsk:=h.Ye.skip
 unfold Z4
 refine AY.enter (AB (by decide)) Tryz.func47 rfl (by kernel_rfl) (by simp [Tryz.ntmps47]) ?_
 by_cases hlen:cols.length=l.length
 case neg =>
  rw [if_pos hlen]
  repeat' (first|apply Ad.assoc|apply Ad.AA|apply Ad.BL|apply Af.nil|apply Af.one|(apply Aa.assign;rfl)|(apply Aa.move;rfl)|(apply Aa.int;rfl;rfl;rfl)|(apply Aa.BH;rfl;rfl)|(apply Ad.Ae;rfl)|(intro _;try (exfalso;omega)))
  all_goals first|(exfalso;omega)|contradiction|(refine Done.ret rfl (.refl _) (by exact PV.Ac rfl) Ah.nil (Nat.zero_le _) (Nat.le_refl _) ⟨?_,rfl,rfl⟩;try rfl)
 rw [if_neg (fun x=>x hlen)]
 repeat' (first|apply Ad.assoc|apply Ad.AA|apply Ad.Au|apply Ad.Ai|apply Af.nil|apply Af.one|(apply Aa.fn;rfl;rfl;exact hcl;intro _;rfl)|(apply Aa.DX m false;rfl;rfl;rfl;rfl;rfl;rfl;rfl;omega;decide;decide;rfl)|(apply Aa.assign;rfl)|(apply Aa.move;rfl)|(apply Aa.int;rfl;rfl;rfl)|(apply Aa.BH;rfl;rfl)|(apply Ad.Ae;rfl)|(intro _;try (exfalso;omega)))
 all_goals try (exfalso;omega)
 obtain ⟨R,hR⟩:∃ R,R=XW l m skip cols l.length 0 (List.replicate m false) 0:=⟨_,rfl⟩
 rw [← hR]
 refine Ad.D8 (fun s:Nat×List Bool×Int=>[(0,.p (.lst e (cells l) l.length)),(2,.p (.int .i64 (-1))),(3,.p (.int .i64 skip)),(10,.p (.int .i64 s.2.2)),(11,.vec 0 m 0 m),(22,.p (.lst 3 (cells cols) cols.length)),(23,.p (.int .i64 (cols.length:Int))),(24,.p (.int .i64 (s.1:Int)))]) (fun s=>[(0,.vec 4 (cells s.2.1) m false)]) 1
  (fun s=>s.1≤l.length∧s.2.1.length=m∧0≤s.2.2∧s.2.2≤s.1*B∧XW l m skip cols (l.length-s.1) s.1 s.2.1 s.2.2=R) (fun s=>l.length-s.1) (0,List.replicate m false,0) (by omega) ⟨Nat.zero_le _,by simp,by simp,by simp,hR.symm⟩ ⟨by omega,?_,?_⟩ ?_
 ·repeat (first|exact Ak.nil|refine Ak.same (by exact PV.Ac rfl) rfl ?_|refine Ak.cons trivial rfl (.of_eq (Aq (by simp<;>omega))) ?_)
 ·repeat (first|exact Ah.nil|(refine Ah.cons (Aj rfl) ?_ rfl ?_ ?_;(first|exact HB.Ac rfl|exact AP.Ag _ _|(simp [HB.under,AP.under,PV.under]));(first|exact Bg.refl _|exact Bg.vec (Bf.refl _) (by simp))))
 rintro ⟨k,used,sum⟩ ⟨i1,i2,i3,i4,i5⟩
 simp only at i1 i2 i3 i4 i5 ⊢
 have hkB:(k:Int)*B≤60*1000000000:=Int.mul_le_mul (by omega) h4 (by omega) (by omega)
 by_cases hk:k<l.length
 ·obtain ⟨r,hr⟩:∃ r,l.length-k=r+1:=⟨l.length-k-1,by omega⟩
  rw [hr] at i5
  have hr':l.length-(k+1)=r:=by omega
  have b2z:((k+1:Nat):Int)*B=(k:Int)*B+B:=by rw [Int.natCast_add,Int.add_mul];simp
  unfold XW at i5
  by_cases c1:gi cols k< -1∨gi cols k≥m
  ·rw [if_pos c1] at i5
   rw [← i5]
   repeat' (first|apply Ad.AA|apply Ad.Au|apply Ad.Ai|apply AO.ret|apply AL.ret|apply Aw.ret|apply Ad.ret|apply Af.nil|apply Af.one|(apply Af.take;rfl;rfl)|(apply Af.drop;rfl;rfl;rfl)|(apply Af.guard;rfl;rfl)|(apply Aa.assign;rfl)|(apply Aa.move;rfl)|(apply Aa.int;rfl;rfl;rfl)|(apply Aa.AV;rfl;rfl;rfl;omega;rfl)|(apply Aa.load;rfl;rfl)|(apply Aa.Bz;rfl;rfl)|(apply Aa.AU;rfl;rfl)|(apply Aa.lenV;rfl;rfl;rfl)|(apply Ad.Ae;rfl)|(apply Ad.cond_true;rfl)|(apply Ad.AZ;rfl)|(intro _;try (exfalso;omega)))
   all_goals first|(exfalso;omega)|contradiction|(refine Done.ret rfl (.refl _) (by exact PV.Ac rfl) Ah.nil (Nat.zero_le _) (Nat.le_refl _) ⟨?_,rfl,rfl⟩;try rfl)
  rw [if_neg c1] at i5
  by_cases c2:gi cols k<0
  ·rw [if_pos c2] at i5
   repeat' (first|apply Ad.AA|apply Ad.region|apply Ad.Au|apply Ad.Ai|apply AO.normal|apply AO.exit|apply AL.exit|(apply AL.out;decide)|apply Ad.exit|apply Af.nil|apply Af.one|(apply Af.take;rfl;rfl)|(apply Af.guard;rfl;rfl)|(apply Aa.assign;rfl)|(apply Aa.move;rfl)|(apply Aa.Bq;rfl;rfl;omega)|(apply Aa.int;rfl;rfl;rfl)|(apply Aa.AV;rfl;rfl;rfl;omega;rfl)|(apply Aa.load;rfl;rfl)|(apply Aa.AU;rfl;rfl)|(apply Aa.lenV;rfl;rfl;rfl)|(apply Ad.Ae;rfl)|(apply Ad.AZ;rfl)|(intro _;try (exfalso;omega)))
   all_goals try (exfalso;omega)
   refine Aw.normal ⟨(k+1,used,sum+skip),⟨hk,i2,by simp only;omega,by simp only;omega,by simp only;rw [hr'];exact i5⟩,by simp only;omega,⟨by omega,?_,?_⟩⟩
   ·repeat (first|exact Ak.nil|refine Ak.same (by exact PV.Ac rfl) rfl ?_|refine Ak.cons trivial rfl (.of_eq (Aq (by simp<;>omega))) ?_)
   ·repeat (first|exact Ah.nil|(refine Ah.cons (Aj rfl) ?_ rfl ?_ ?_;(first|exact HB.Ac rfl|exact AP.Ag _ _|(simp [HB.under,AP.under,PV.under]));(first|exact Bg.refl _|exact Bg.vec (Bf.refl _) (by simp))))
  rw [if_neg c2] at i5
  obtain ⟨j,hj⟩:∃ j:Nat,gi cols k=j:=⟨(gi cols k).toNat,by omega⟩
  rw [hj,Int.toNat_natCast] at i5
  have hjm:j<m:=by omega
  have hc:=yB k j hk hjm
  have hrl:=hrow k hk
  by_cases c3:gi used j=true
  ·rw [if_pos c3] at i5
   rw [← i5]
   repeat' (first|apply Ad.AA|apply Ad.Au|apply Ad.Ai|apply AO.ret|apply AL.ret|apply Aw.ret|apply Ad.ret|apply Af.nil|apply Af.one|(apply Af.take;rfl;rfl)|(apply Aa.Dk;rfl;rfl;(first|omega|(simp only [NR]<;>omega));exact congrArg (fun b=>some (FV.bool b)) (c3))|(apply Aa.load;rfl;exact congrArg (fun a=>some (PV.p (FV.int .i64 a))) hj)|(apply Aa.assign;rfl)|(apply Aa.move;rfl)|(apply Aa.int;rfl;rfl;rfl)|(apply Aa.AV;rfl;rfl;rfl;omega;rfl)|(apply Aa.AU;rfl;rfl)|(apply Aa.lenV;rfl;rfl;rfl)|(apply Aa.Df;rfl;rfl;rfl;rfl;omega)|(apply Ad.Ae;rfl)|(apply Ad.cond_true;rfl)|(apply Ad.cond_false;rfl)|(apply Ad.AZ;rfl)|(intro _;try (exfalso;omega)))
   all_goals first|(exfalso;omega)|contradiction|(refine Done.ret rfl (.refl _) (by exact PV.Ac rfl) Ah.nil (Nat.zero_le _) (Nat.le_refl _) ⟨?_,rfl,rfl⟩;try rfl)
  ·rw [if_neg c3] at i5
   have c3':gi used j=false:=by cases h:gi used j<;>simp_all
   repeat' (first|apply Ad.AA|apply Ad.region|apply Ad.Au|apply Ad.Ai|apply AO.normal|apply AL.normal|apply Ad.skip|apply Af.nil|apply Af.one|(apply Af.take;rfl;rfl)|(apply Aa.Dk;rfl;rfl;(first|omega|(simp only [NR]<;>omega));exact congrArg (fun b=>some (FV.bool b)) (c3'))|(apply Aa.load;rfl;exact congrArg (fun a=>some (PV.p (FV.int .i64 a))) hj)|(apply Aa.D6 (y:=true);rfl;rfl;rfl;trivial;(first|rfl|(refine congrArg (fun t=>[PV.p (FV.int _ t)]) ?_;first|omega|(simp only [Int.natCast_add,Int.natCast_mul,Int.natCast_ediv,Int.natCast_emod]<;>omega)));rfl;rfl;decide;(first|omega|(simp only [List.length_set]<;>omega)))|(apply Aa.assign;rfl)|(apply Aa.move;rfl)|(apply Aa.Bq;rfl;rfl;omega)|(apply Aa.int;rfl;rfl;rfl)|(apply Aa.AV;rfl;rfl;rfl;omega;rfl)|(apply Aa.load;rfl;rfl)|(apply Aa.AU;rfl;rfl)|(apply Aa.lenV;rfl;rfl;rfl)|(apply Aa.Df;rfl;rfl;rfl;rfl;omega)|(apply Ad.Ae;rfl)|(apply Ad.cond_false;rfl)|(apply Ad.AZ;rfl)|(intro _;try (exfalso;omega)))
   all_goals try (exfalso;omega)
   refine Aw.normal ⟨(k+1,used.set j true,sum+gi (gi l k) j),⟨hk,by simp only;rw [List.length_set];exact i2,by simp only;omega,by simp only;omega,by simp only;rw [hr'];exact i5⟩,by simp only;omega,⟨by omega,?_,?_⟩⟩
   ·repeat (first|exact Ak.nil|refine Ak.same (by exact PV.Ac rfl) rfl ?_|refine Ak.cons trivial rfl (.of_eq (Aq (by simp<;>omega))) ?_)
   ·repeat (first|exact Ah.nil|(refine Ah.cons (Aj rfl) ?_ rfl ?_ ?_;(first|exact HB.Ac rfl|exact AP.Ag _ _|(simp [HB.under,AP.under,PV.under]));(first|exact Bg.refl _|exact Bg.vec (Bf.refl _) (by simp))))
 ·obtain rfl:k=l.length:=by omega
  rw [Nat.sub_self] at i5
  unfold XW at i5
  rw [← i5]
  repeat' (first|apply Ad.AA|apply Ad.AX|apply AO.normal|apply AL.exit|apply Aw.exit|apply Ad.ret|apply Af.nil|apply Af.one|(apply Aa.assign;rfl)|(apply Aa.move;rfl)|(apply Aa.int;rfl;rfl;rfl)|(apply Ad.Ae;rfl)|(intro _;try (exfalso;omega)))
  all_goals first|(exfalso;omega)|contradiction|(refine Done.ret rfl (.refl _) (by exact PV.Ac rfl) Ah.nil (Nat.zero_le _) (Nat.le_refl _) ⟨?_,rfl,rfl⟩;try rfl)
theorem Zy (a b:List Int) (h0:a.length+b.length=0):CG env 102 [.lst 52 [.lst 3 (cells a) a.length,.lst 3 (cells b) b.length] 2] 3 (cells (a++b)) (a.length+b.length) true:=by
 have hg:=qj
 have e0:(0:Int)=0+(a.length:Int)+(b.length:Int):=by omega
 rw [e0] at hg
 refine CG.enter (AB (by decide)) Tryz.func102 rfl (by kernel_rfl) (by simp [Tryz.ntmps102]) ?_
 repeat' (first|apply Ad.assoc|apply Ad.AA|apply Ad.Ai|apply Af.nil|apply Af.one|(apply Aa.assign;rfl)|(apply Aa.move;rfl)|(apply Aa.BH;rfl;rfl))
 refine Ad.nH 2 ?_
 repeat' (first|apply Ad.assoc|apply Ad.AA|apply Ad.region|apply Ad.Au|apply Ad.AX|apply Ad.Ai|apply AO.normal|apply AL.normal|apply AL.exit|apply Aw.exit|apply Ad.skip|apply Af.nil|apply Af.one|(apply Aa.fn;rfl;rfl;exact hg;intro _;rfl)|(apply ZA.zero)|(apply ZA.succ)|(apply Aw.again)|(apply Aa.TF;rfl;rfl;rfl;decide;decide)|(apply Aa.assign;rfl)|(apply Aa.move;rfl)|(apply Aa.Bq;rfl;rfl;omega)|(apply Aa.int;rfl;rfl;rfl)|(apply Aa.load;rfl;rfl)|(apply Aa.BH;rfl;rfl)|(apply Ad.Bh;rfl)|(apply Ad.Az;rfl)|(apply Ad.cond_false;rfl))
 refine Ad.ghost (A8.adopt 6 3 rfl) ?_
 refine Ad.nH 2 ?_
 repeat' (first|apply Ad.AA|apply Ad.region|apply Ad.Au|apply Ad.AX|apply Ad.Ai|apply AO.normal|apply AL.normal|apply AL.exit|apply Aw.exit|apply Ad.ret|apply Af.nil|apply Af.one|(apply ZA.zero)|(apply ZA.succ)|(apply Aw.again)|(apply Aa.TF;rfl;rfl;rfl;decide;decide)|(apply Aa.QE (l:=a) (r:=b);rfl;rfl;rfl;rfl;rfl;rfl;rfl;(intro _ h;cases h);rfl;rfl;rfl;decide;decide;omega)|(apply Aa.N8 (r:=a);rfl;rfl;rfl;rfl;rfl;rfl;(intro _ h;cases h);rfl;rfl;rfl;decide;decide;omega)|(apply Aa.assign;rfl)|(apply Aa.move;rfl)|(apply Aa.Bq;rfl;rfl;omega)|(apply Aa.int;rfl;rfl;rfl)|(apply Aa.load;rfl;rfl)|(apply Ad.Bh;rfl)|(apply Ad.Az;rfl))
 exact CW.ret rfl rfl rfl rfl
def sumT (l:List Int):Nat→Int
 |0=>0
 |k+1=>sumT l k+gi l k
def J4 (x:Int):Prop:=-1000000000000≤x∧x≤1000000000000
theorem VO {l:List Int}:∀ k,(∀ i,i<k→J4 (gi l i))→-(k*1000000000000:Int)≤sumT l k∧sumT l k≤k*1000000000000
 |0,_=>by simp [sumT]
 |k+1,h=>by
  obtain ⟨a,b⟩:=VO k fun i hi=>h i (by omega)
  obtain ⟨c,d⟩:=h k (by omega)
  simp only [sumT]
  omega
noncomputable def IE (l:List (List Int)) (m:Nat) (rows BZ:List Int):Int×Int :=
 open Classical in
 if ¬ (rows.length=l.length∧BZ.length=m) then (0,5)
 else if ∃ i,i<(rows++BZ).length∧¬ J4 (gi (rows++BZ) i) then (0,3)
 else if ∃ k,k<BZ.length∧gi BZ k>0 then (0,20)
 else if ∃ i k,i<l.length∧k<m∧gi rows i+gi BZ k>gi (gi l i) k then (0,20)
 else (sumT (rows++BZ) (rows++BZ).length,0)
section
variable {l:List (List Int)} {m:Nat} {rows BZ:List Int}
theorem a5q (h:¬ (rows.length=l.length∧BZ.length=m)):IE l m rows BZ=(0,5):=by unfold IE;rw [if_pos h]
theorem a9p (h:rows.length=l.length∧BZ.length=m) {i:Nat} (hi:i<(rows++BZ).length) (hb:¬ J4 (gi (rows++BZ) i)):IE l m rows BZ=(0,3):=by unfold IE;rw [if_neg (fun x=>x h),if_pos ⟨i,hi,hb⟩]
theorem a3m (h:rows.length=l.length∧BZ.length=m) (hb:∀ i,i<(rows++BZ).length→J4 (gi (rows++BZ) i)) {k:Nat} (hk:k<BZ.length) (hp:gi BZ k>0):IE l m rows BZ=(0,20):=by
 unfold IE;rw [if_neg (fun x=>x h),if_neg (fun ⟨i,h1,h2⟩=>h2 (hb i h1)),if_pos ⟨k,hk,hp⟩]
theorem a2u (h:rows.length=l.length∧BZ.length=m) (hb:∀ i,i<(rows++BZ).length→J4 (gi (rows++BZ) i)) (hn:∀ k,k<BZ.length→gi BZ k≤0) {i k:Nat} (hi:i<l.length) (hk:k<m) (hp:gi rows i+gi BZ k>gi (gi l i) k):IE l m rows BZ=(0,20):=by
 unfold IE;rw [if_neg (fun x=>x h),if_neg (fun ⟨i,h1,h2⟩=>h2 (hb i h1)),if_neg (fun ⟨k,h1,h2⟩=>by have:=hn k h1;omega),if_pos ⟨i,k,hi,hk,hp⟩]
theorem a2a (h:rows.length=l.length∧BZ.length=m) (hb:∀ i,i<(rows++BZ).length→J4 (gi (rows++BZ) i)) (hn:∀ k,k<BZ.length→gi BZ k≤0) (hf:∀ i,i<l.length→∀ k,k<m→gi rows i+gi BZ k≤gi (gi l i) k):IE l m rows BZ=(sumT (rows++BZ) (rows++BZ).length,0):=by
 unfold IE;rw [if_neg (fun x=>x h),if_neg (fun ⟨i,h1,h2⟩=>h2 (hb i h1)),if_neg (fun ⟨k,h1,h2⟩=>by have:=hn k h1;omega),if_neg (fun ⟨i,k,h1,h2,h3⟩=>by have:=hf i h1 k h2;omega)]
end
theorem Ry {P:Nat→Prop} {k:Nat} (h:∀ i,i<k→P i) (hk:P k):∀ i,i<k+1→P i:=fun i hi=>by
 rcases Nat.lt_or_ge i k with h1|h1
 ·exact h i h1
 ·obtain rfl:i=k:=by omega
  exact hk
theorem VE {a b:List Int} {i:Nat} (h:i<a.length):gi (a++b) i=gi a i:=by unfold gi;rw [List.getElem?_append_left h]
theorem XB {a b:List Int} {i:Nat}:gi (a++b) (a.length+i)=gi b i:=by unfold gi;rw [List.getElem?_append_right (by omega),Nat.add_sub_cancel_left]
theorem Vb {l:List (List Int)} {m:Nat} {skip B:Int} (e:TypeId) (h:RZ l l.length m skip B) (rows BZ:List Int) :
 AY env 74 [.lst e (cells l) l.length,.lst 3 (cells rows) rows.length,.lst 3 (cells BZ) BZ.length] (.EP [.p (.int .i64 (IE l m rows BZ).1),.p (.int .i64 (IE l m rows BZ).2)]):=by
 have hcl:=OJ e h
 have h2:=h.n60
 have h3:=h.a0f
 have h4:=h.B9
 have hrow:=h.Ye.row
 have yB:=h.Ye.rng
 by_cases hlen:rows.length=l.length∧BZ.length=m
 case neg =>
  rw [a5q hlen]
  refine AY.enter (AB (by decide)) Tryz.func74 rfl (by kernel_rfl) (by simp [Tryz.ntmps74]) ?_
  repeat' (first|apply Ad.assoc|apply Ad.AA|apply Ad.BL|apply Af.nil|apply Af.one|(apply Af.take;rfl;rfl)|(apply Af.drop;rfl;rfl;rfl)|(apply Af.guard;rfl;rfl)|(apply Aa.fn;rfl;rfl;exact hcl;intro _;rfl)|(apply Aa.assign;rfl)|(apply Aa.move;rfl)|(apply Aa.int;rfl;rfl;rfl)|(apply Aa.Bz;rfl;rfl)|(apply Aa.AU;rfl;rfl)|(apply Aa.BH;rfl;rfl)|(apply Ad.Bh;rfl)|(apply Ad.Ae;rfl)|(intro _;try (exfalso;omega)))
  all_goals first|(exfalso;omega)|contradiction|(refine Done.ret rfl (.refl _) (by exact PV.Ac rfl) Ah.nil (Nat.zero_le _) (Nat.le_refl _) ⟨?_,rfl,rfl⟩;try rfl)
 have hp3:∀ i,i<(rows++BZ).length→¬ J4 (gi (rows++BZ) i)→IE l m rows BZ=(0,3):=fun i=>a9p hlen
 have a6n:(∀ i,i<(rows++BZ).length→J4 (gi (rows++BZ) i))→∀ k,k<BZ.length→gi BZ k>0→IE l m rows BZ=(0,20):=fun hb k=>a3m hlen hb
 have a6b:(∀ i,i<(rows++BZ).length→J4 (gi (rows++BZ) i))→(∀ k,k<BZ.length→gi BZ k≤0)→∀ i k,i<l.length→k<m→gi rows i+gi BZ k>gi (gi l i) k→IE l m rows BZ=(0,20):=fun hb hn i k=>a2u hlen hb hn
 have a6t:(∀ i,i<(rows++BZ).length→J4 (gi (rows++BZ) i))→(∀ k,k<BZ.length→gi BZ k≤0)→(∀ i,i<l.length→∀ k,k<m→gi rows i+gi BZ k≤gi (gi l i) k)→IE l m rows BZ=(sumT (rows++BZ) (rows++BZ).length,0):=a2a hlen
 have gr:∀ k,k<l.length→gi (rows++BZ) k=gi rows k:=fun k hk=>VE (by omega)
 have gp:∀ j,j<BZ.length→gi (rows++BZ) (rows.length+j)=gi BZ j:=fun j _=>XB
 have a1n:(rows++BZ).length=rows.length+BZ.length:=List.length_append
 rcases Nat.eq_zero_or_pos (rows.length+BZ.length) with hz|hz
 ·have hcn:=Zy rows BZ hz
  rw [← a1n] at hcn
  generalize rows++BZ=cat at *
  generalize IE l m rows BZ=R at *
  refine AY.enter (AB (by decide)) Tryz.func74 rfl (by kernel_rfl) (by simp [Tryz.ntmps74]) ?_
  repeat' (first|(refine Af.IU 30 ?_;refine Af.ghost (A8.freeze 29 rfl rfl) ?_)|apply Ad.assoc|apply Ad.AA|apply Ad.Au|apply Ad.Ai|apply Af.nil|apply Af.one|(apply Af.take;rfl;rfl)|(apply Af.guard;rfl;rfl)|(apply Aa.fn;rfl;rfl;exact hcl;intro _;rfl)|(apply Aa.fv;rfl;rfl;exact hcn)|(apply Aa.assign;rfl)|(apply Aa.move;rfl)|(apply Aa.int;rfl;rfl;rfl)|(apply Aa.AU;rfl;rfl)|(apply Aa.BH;rfl;rfl)|(apply Aa.lenV;rfl;rfl;rfl)|(apply Aa.buildSlice;rfl;rfl;rfl;decide;rfl;rfl;rfl)|(apply Ad.Ae;rfl)|(intro _;try (exfalso;omega)))
  all_goals try (exfalso;omega)
  apply Ad.FK (cat.length) (fun k=>∀ i,i<k→J4 (gi cat i)) [(0,_),(1,_),(2,_),(30,_),(31,_)] [(1,_)] (fun k r=>(8,.p (.int .i64 (sumT cat k)))::(32,.p (.int .i64 (k:Int)))::r) (fun k r=>r) 2
  ·first|omega|decide
  ·first|omega|decide
  ·repeat (first|exact Ak.nil|(refine Ak.eq rfl ?_ ?_;(first|exact PV.Ac rfl|(simp [PV.under,AP.under];done)))|refine Ak.cons trivial rfl (.of_eq (Aq (by simp<;>omega))) ?_)
  ·repeat (first|exact Ah.nil|(refine Ah.eq rfl (Aj rfl) ?_ ?_;(first|exact HB.Ac rfl|exact AP.Ag _ _|(simp [HB.under,AP.under,PV.under];done)))|(refine Ah.cons (Aj rfl) ?_ rfl ?_ ?_;(first|exact trivial|exact AP.Ag _ _|(simp [HB.under,AP.under,PV.under]));(first|exact Bg.refl _|exact Bg.vec (Bf.refl _) (by simp))))
  ·first|(intro _ _;omega)|omega|trivial
  ·intro k hk;omega
  ·intro hall
   repeat' (first|apply Ad.assoc|apply Ad.AA|apply Ad.AX|apply Ad.Ai|apply AO.normal|apply AL.exit|apply Aw.exit|apply Af.nil|apply Af.one|(apply Vu;rfl;rfl;rfl;exact le_dec rfl)|(apply Vz;rfl;rfl;rfl;exact le_dec rfl)|(apply Aa.assign;rfl)|(apply Aa.move;rfl)|(apply Aa.int;rfl;rfl;rfl)|(apply Aa.BH;rfl;rfl)|(apply Ad.Ae;rfl)|(intro _;try (exfalso;omega)))
   all_goals try (exfalso;omega)
   apply Ad.FK (BZ.length) (fun k=>∀ i,i<k→gi BZ i≤0) [(0,_),(1,_),(7,_)] [(1,_)] (fun k r=>(8,.p (.int .i64 (k:Int)))::r) (fun k r=>r) 2
   ·first|omega|decide
   ·first|omega|decide
   ·repeat (first|exact Ak.nil|(refine Ak.eq rfl ?_ ?_;(first|exact PV.Ac rfl|(simp [PV.under,AP.under];done)))|refine Ak.cons trivial rfl (.of_eq (Aq (by simp<;>omega))) ?_)
   ·repeat (first|exact Ah.nil|(refine Ah.eq rfl (Aj rfl) ?_ ?_;(first|exact HB.Ac rfl|exact AP.Ag _ _|(simp [HB.under,AP.under,PV.under];done)))|(refine Ah.cons (Aj rfl) ?_ rfl ?_ ?_;(first|exact trivial|exact AP.Ag _ _|(simp [HB.under,AP.under,PV.under]));(first|exact Bg.refl _|exact Bg.vec (Bf.refl _) (by simp))))
   ·first|(intro _ _;omega)|omega|trivial
   ·intro k hk;omega
   ·intro hneg
    repeat' (first|apply Ad.assoc|apply Ad.AA|apply Ad.Au|apply Ad.AX|apply Ad.Ai|apply AO.normal|(apply Bl.ret;rfl)|apply AL.exit|apply Aw.exit|apply Ad.ret|apply Af.nil|apply Af.one|(apply Aa.assign;rfl)|(apply Aa.move;rfl)|(apply Aa.int;rfl;rfl;rfl)|(apply Aa.BH;rfl;rfl)|(apply Ad.Az;rfl)|(apply Ad.Ae;rfl)|(intro _;try (exfalso;omega)))
    all_goals try (exfalso;omega)
    all_goals try contradiction
    apply Ad.FK (l.length) (fun k=>∀ i,i<k→∀ j,j<m→gi rows i+gi BZ j≤gi (gi l i) j) [(0,_),(1,_),(2,_),(8,_),(48,_),(49,_)] [(1,_)] (fun k r=>(50,.p (.int .i64 (k:Int)))::r) (fun k r=>r) 2
    ·first|omega|decide
    ·first|omega|decide
    ·repeat (first|exact Ak.nil|(refine Ak.eq rfl ?_ ?_;(first|exact PV.Ac rfl|(simp [PV.under,AP.under];done)))|refine Ak.cons trivial rfl (.of_eq (Aq (by simp<;>omega))) ?_)
    ·repeat (first|exact Ah.nil|(refine Ah.eq rfl (Aj rfl) ?_ ?_;(first|exact HB.Ac rfl|exact AP.Ag _ _|(simp [HB.under,AP.under,PV.under];done)))|(refine Ah.cons (Aj rfl) ?_ rfl ?_ ?_;(first|exact trivial|exact AP.Ag _ _|(simp [HB.under,AP.under,PV.under]));(first|exact Bg.refl _|exact Bg.vec (Bf.refl _) (by simp))))
    ·first|(intro _ _;omega)|omega|trivial
    ·intro k hk;omega
    ·intro hf
     rw [a6t hall hneg hf]
     repeat' (first|apply Ad.AA|apply Ad.AX|apply AO.normal|apply AL.exit|apply Aw.exit|apply Ad.ret|apply Af.nil|apply Af.one|(apply Aa.assign;rfl)|(apply Aa.move;rfl)|(apply Aa.int;rfl;rfl;rfl)|(apply Ad.Ae;rfl)|(intro _;try (exfalso;omega)))
     all_goals first|(exfalso;omega)|contradiction|(refine Done.ret rfl (.refl _) (by exact PV.Ac rfl) Ah.nil (Nat.zero_le _) (Nat.le_refl _) ⟨?_,rfl,rfl⟩;try rfl)
 ·have hcn:=ZI rows BZ hz (by omega)
  rw [← a1n] at hcn
  generalize rows++BZ=cat at *
  generalize IE l m rows BZ=R at *
  refine AY.enter (AB (by decide)) Tryz.func74 rfl (by kernel_rfl) (by simp [Tryz.ntmps74]) ?_
  repeat' (first|(refine Af.IU 30 ?_;refine Af.ghost (A8.freeze 29 rfl rfl) ?_)|apply Ad.assoc|apply Ad.AA|apply Ad.Au|apply Ad.Ai|apply Af.nil|apply Af.one|(apply Af.take;rfl;rfl)|(apply Af.guard;rfl;rfl)|(apply Aa.fn;rfl;rfl;exact hcl;intro _;rfl)|(apply Aa.fv;rfl;rfl;exact hcn)|(apply Aa.assign;rfl)|(apply Aa.move;rfl)|(apply Aa.int;rfl;rfl;rfl)|(apply Aa.AU;rfl;rfl)|(apply Aa.BH;rfl;rfl)|(apply Aa.lenV;rfl;rfl;rfl)|(apply Aa.buildSlice;rfl;rfl;rfl;decide;rfl;rfl;rfl)|(apply Ad.Ae;rfl)|(intro _;try (exfalso;omega)))
  all_goals try (exfalso;omega)
  apply Ad.FK (cat.length) (fun k=>∀ i,i<k→J4 (gi cat i)) [(0,_),(1,_),(2,_),(30,_),(31,_)] [(1,_)] (fun k r=>(8,.p (.int .i64 (sumT cat k)))::(32,.p (.int .i64 (k:Int)))::r) (fun k r=>r) 2
  ·first|omega|decide
  ·first|omega|decide
  ·repeat (first|exact Ak.nil|(refine Ak.eq rfl ?_ ?_;(first|exact PV.Ac rfl|(simp [PV.under,AP.under];done)))|refine Ak.cons trivial rfl (.of_eq (Aq (by simp<;>omega))) ?_)
  ·repeat (first|exact Ah.nil|(refine Ah.eq rfl (Aj rfl) ?_ ?_;(first|exact HB.Ac rfl|exact AP.Ag _ _|(simp [HB.under,AP.under,PV.under];done)))|(refine Ah.cons (Aj rfl) ?_ rfl ?_ ?_;(first|exact trivial|exact AP.Ag _ _|(simp [HB.under,AP.under,PV.under]));(first|exact Bg.refl _|exact Bg.vec (Bf.refl _) (by simp))))
  ·first|(intro _ _;omega)|omega|trivial
  ·intro k hk hi
   have hb:=VO k hi
   by_cases hx:J4 (gi cat k)
   ·obtain ⟨x1,x2⟩:=hx
    repeat' (first|apply Ad.assoc|apply Ad.AA|apply Ad.region|apply Ad.Au|apply Ad.Ai|apply AO.normal|apply AL.normal|apply Af.nil|apply Af.one|(apply Af.take;rfl;rfl)|(apply Af.guard;rfl;rfl)|(apply Aa.assign;rfl)|(apply Aa.move;rfl)|(apply Aa.Bq;rfl;rfl;omega)|(apply Aa.int;rfl;rfl;rfl)|(apply Aa.Dk;rfl;rfl;omega;rfl)|(apply Aa.AU;rfl;rfl)|(apply Aa.Df;rfl;rfl;rfl;rfl;omega)|(apply Ad.Ae;rfl)|(intro _;try (exfalso;omega)))
    all_goals try (exfalso;omega)
    refine Aw.normal ⟨(Ry hi ⟨x1,x2⟩),by first|omega|decide,?_,?_⟩
    ·repeat (first|exact Ak.nil|refine Ak.same (by exact PV.Ac rfl) rfl ?_|refine Ak.cons trivial rfl (.of_eq (Aq (by simp<;>omega))) ?_)
    ·repeat (first|exact Ah.nil|(refine Ah.cons (Aj rfl) ?_ rfl ?_ ?_;(first|exact HB.Ac rfl|exact AP.Ag _ _|(simp [HB.under,AP.under,PV.under]));(first|exact Bg.refl _|exact Bg.vec (Bf.refl _) (by simp))))
   ·rw [hp3 k hk hx]
    unfold J4 at hx
    repeat' (first|apply Ad.assoc|apply Ad.AA|apply Ad.Au|apply Ad.BL|apply Ad.Ai|apply AO.ret|apply AL.ret|apply Aw.ret|apply Af.nil|apply Af.one|(apply Af.take;rfl;rfl)|(apply Af.drop;rfl;rfl;rfl)|(apply Af.guard;rfl;rfl)|(apply Aa.assign;rfl)|(apply Aa.move;rfl)|(apply Aa.int;rfl;rfl;rfl)|(apply Aa.Dk;rfl;rfl;omega;rfl)|(apply Aa.Bz;rfl;rfl)|(apply Aa.AU;rfl;rfl)|(apply Aa.Df;rfl;rfl;rfl;rfl;omega)|(apply Ad.Bh;rfl)|(apply Ad.Ae;rfl)|(intro _;try (exfalso;omega)))
    all_goals first|(exfalso;omega)|contradiction|(refine Done.ret rfl (.refl _) (by exact PV.Ac rfl) Ah.nil (Nat.zero_le _) (Nat.le_refl _) ⟨?_,rfl,rfl⟩;try rfl)
  ·intro hall
   repeat' (first|apply Ad.assoc|apply Ad.AA|apply Ad.AX|apply Ad.Ai|apply AO.normal|apply AL.exit|apply Aw.exit|apply Af.nil|apply Af.one|(apply Vu;rfl;rfl;rfl;exact le_dec rfl)|(apply Vz;rfl;rfl;rfl;exact le_dec rfl)|(apply Aa.assign;rfl)|(apply Aa.move;rfl)|(apply Aa.int;rfl;rfl;rfl)|(apply Aa.BH;rfl;rfl)|(apply Ad.Ae;rfl)|(intro _;try (exfalso;omega)))
   all_goals try (exfalso;omega)
   apply Ad.FK (BZ.length) (fun k=>∀ i,i<k→gi BZ i≤0) [(0,_),(1,_),(7,_)] [(1,_)] (fun k r=>(8,.p (.int .i64 (k:Int)))::r) (fun k r=>r) 2
   ·first|omega|decide
   ·first|omega|decide
   ·repeat (first|exact Ak.nil|(refine Ak.eq rfl ?_ ?_;(first|exact PV.Ac rfl|(simp [PV.under,AP.under];done)))|refine Ak.cons trivial rfl (.of_eq (Aq (by simp<;>omega))) ?_)
   ·repeat (first|exact Ah.nil|(refine Ah.eq rfl (Aj rfl) ?_ ?_;(first|exact HB.Ac rfl|exact AP.Ag _ _|(simp [HB.under,AP.under,PV.under];done)))|(refine Ah.cons (Aj rfl) ?_ rfl ?_ ?_;(first|exact trivial|exact AP.Ag _ _|(simp [HB.under,AP.under,PV.under]));(first|exact Bg.refl _|exact Bg.vec (Bf.refl _) (by simp))))
   ·first|(intro _ _;omega)|omega|trivial
   ·intro k hk hi
    by_cases hx:gi BZ k≤0
    ·repeat' (first|apply Ad.AA|apply Ad.region|apply Ad.Au|apply Ad.Ai|apply AO.normal|(apply Bl.ret;rfl)|apply AL.normal|apply Ad.ret|apply Ad.skip|apply Af.nil|apply Af.one|(apply oG;rfl;rfl;rfl;exact le_dec rfl)|(apply Aa.assign;rfl)|(apply Aa.move;rfl)|(apply Aa.Bq;rfl;rfl;omega)|(apply Aa.int;rfl;rfl;rfl)|(apply Aa.AV;rfl;rfl;rfl;omega;rfl)|(apply Aa.load;rfl;rfl)|(apply Ad.Ae;rfl)|(apply Ad.AZ;rfl)|(intro _;try (exfalso;omega)))
     all_goals try (exfalso;omega)
     refine Aw.normal ⟨(Ry hi hx),by first|omega|decide,?_,?_⟩
     ·repeat (first|exact Ak.nil|refine Ak.same (by exact PV.Ac rfl) rfl ?_|refine Ak.cons trivial rfl (.of_eq (Aq (by simp<;>omega))) ?_)
     ·repeat (first|exact Ah.nil|(refine Ah.cons (Aj rfl) ?_ rfl ?_ ?_;(first|exact HB.Ac rfl|exact AP.Ag _ _|(simp [HB.under,AP.under,PV.under]));(first|exact Bg.refl _|exact Bg.vec (Bf.refl _) (by simp))))
    ·rw [a6n hall k hk (by omega)]
     repeat' (first|apply Ad.assoc|apply Ad.AA|apply Ad.Au|apply Ad.BL|apply Ad.Ai|apply AO.ret|(apply Bl.ret;rfl)|apply AL.ret|apply Aw.ret|apply Ad.ret|apply Af.nil|apply Af.one|(apply oG;rfl;rfl;rfl;exact le_dec rfl)|(apply Aa.assign;rfl)|(apply Aa.move;rfl)|(apply Aa.int;rfl;rfl;rfl)|(apply Aa.AV;rfl;rfl;rfl;omega;rfl)|(apply Aa.load;rfl;rfl)|(apply Ad.Bh;rfl)|(apply Ad.Ae;rfl)|(apply Ad.AZ;rfl)|(intro _;try (exfalso;omega)))
     all_goals first|(exfalso;omega)|contradiction|(refine Done.ret rfl (.refl _) (by exact PV.Ac rfl) Ah.nil (Nat.zero_le _) (Nat.le_refl _) ⟨?_,rfl,rfl⟩;try rfl)
   ·intro hneg
    repeat' (first|apply Ad.assoc|apply Ad.AA|apply Ad.Au|apply Ad.AX|apply Ad.Ai|apply AO.normal|(apply Bl.ret;rfl)|apply AL.exit|apply Aw.exit|apply Ad.ret|apply Af.nil|apply Af.one|(apply Aa.assign;rfl)|(apply Aa.move;rfl)|(apply Aa.int;rfl;rfl;rfl)|(apply Aa.BH;rfl;rfl)|(apply Ad.Az;rfl)|(apply Ad.Ae;rfl)|(intro _;try (exfalso;omega)))
    all_goals try (exfalso;omega)
    all_goals try contradiction
    apply Ad.FK (l.length) (fun k=>∀ i,i<k→∀ j,j<m→gi rows i+gi BZ j≤gi (gi l i) j) [(0,_),(1,_),(2,_),(8,_),(48,_),(49,_)] [(1,_)] (fun k r=>(50,.p (.int .i64 (k:Int)))::r) (fun k r=>r) 2
    ·first|omega|decide
    ·first|omega|decide
    ·repeat (first|exact Ak.nil|(refine Ak.eq rfl ?_ ?_;(first|exact PV.Ac rfl|(simp [PV.under,AP.under];done)))|refine Ak.cons trivial rfl (.of_eq (Aq (by simp<;>omega))) ?_)
    ·repeat (first|exact Ah.nil|(refine Ah.eq rfl (Aj rfl) ?_ ?_;(first|exact HB.Ac rfl|exact AP.Ag _ _|(simp [HB.under,AP.under,PV.under];done)))|(refine Ah.cons (Aj rfl) ?_ rfl ?_ ?_;(first|exact trivial|exact AP.Ag _ _|(simp [HB.under,AP.under,PV.under]));(first|exact Bg.refl _|exact Bg.vec (Bf.refl _) (by simp))))
    ·first|(intro _ _;omega)|omega|trivial
    ·intro k hk hi
     have hrl:=hrow k hk
     have r1:=hall k (by omega)
     rw [gr k hk] at r1
     obtain ⟨r2,r3⟩:=r1
     repeat' (first|apply Ad.AA|apply Ad.Au|apply Ad.Ai|apply Ad.Ih|apply Af.nil|apply Af.one|(apply Aa.assign;rfl)|(apply Aa.move;rfl)|(apply Aa.int;rfl;rfl;rfl)|(apply Aa.AV;rfl;rfl;rfl;omega;rfl)|(apply Aa.load;rfl;rfl)|(apply Aa.BH;rfl;rfl)|(apply Ad.Ae;rfl)|(intro _;try (exfalso;omega)))
     all_goals try (exfalso;omega)
     apply Ad.FK ((gi l k).length) (fun k_=>∀ j,j<k_→gi rows k+gi BZ j≤gi (gi l k) j) [(0,_),(1,_),(2,_),(8,_),(11,_),(48,_),(49,_),(50,_),(55,_),(56,_)] [(1,_)] (fun k_ r=>(57,.p (.int .i64 (k_:Int)))::r) (fun k_ r=>r) 2
     ·first|omega|decide
     ·first|omega|decide
     ·repeat (first|exact Ak.nil|(refine Ak.eq rfl ?_ ?_;(first|exact PV.Ac rfl|(simp [PV.under,AP.under];done)))|refine Ak.cons trivial rfl (.of_eq (Aq (by simp<;>omega))) ?_)
     ·repeat (first|exact Ah.nil|(refine Ah.eq rfl (Aj rfl) ?_ ?_;(first|exact HB.Ac rfl|exact AP.Ag _ _|(simp [HB.under,AP.under,PV.under];done)))|(refine Ah.cons (Aj rfl) ?_ rfl ?_ ?_;(first|exact trivial|exact AP.Ag _ _|(simp [HB.under,AP.under,PV.under]));(first|exact Bg.refl _|exact Bg.vec (Bf.refl _) (by simp))))
     ·first|(intro _ _;omega)|omega|trivial
     ·intro j hj hij
      have c1:=yB k j hk (by omega)
      have p1:=hall (rows.length+j) (by omega)
      rw [gp j (by omega)] at p1
      obtain ⟨p2,p3⟩:=p1
      by_cases hx:gi rows k+gi BZ j≤gi (gi l k) j
      ·repeat' (first|apply Ad.AA|apply Ad.BI|apply Ad.region|apply Ad.Au|apply Ad.Ai|apply AO.normal|apply AL.normal|apply Ad.skip|apply Af.nil|apply Ar.nil|apply Af.one|(apply Ar.bar;decide +kernel)|apply Ar.quiet|(apply Aa.assign;rfl)|(apply Aa.move;rfl)|(apply Aa.Bq;rfl;rfl;omega)|(apply Aa.int;rfl;rfl;rfl)|(apply Aa.AV;rfl;rfl;rfl;omega;rfl)|(apply Aa.load;rfl;rfl)|(apply Ad.Ae;rfl)|(apply Ad.AZ;rfl)|(intro _;try (exfalso;omega)))
       all_goals try (exfalso;omega)
       refine Aw.normal ⟨(Ry hij hx),by first|omega|decide,?_,?_⟩
       ·repeat (first|exact Ak.nil|refine Ak.same (by exact PV.Ac rfl) rfl ?_|refine Ak.cons trivial rfl (.of_eq (Aq (by simp<;>omega))) ?_)
       ·repeat (first|exact Ah.nil|(refine Ah.cons (Aj rfl) ?_ rfl ?_ ?_;(first|exact HB.Ac rfl|exact AP.Ag _ _|(simp [HB.under,AP.under,PV.under]));(first|exact Bg.refl _|exact Bg.vec (Bf.refl _) (by simp))))
      ·rw [a6b hall hneg k j hk (by omega) (by omega)]
       repeat' (first|apply Ad.AA|apply Ad.BI|apply Ad.Au|apply Ad.Ai|apply AO.ret|apply AL.ret|apply Aw.ret|apply Ad.ret|apply Af.nil|apply Ar.nil|apply Af.one|(apply Ar.bar;decide +kernel)|apply Ar.quiet|(apply Aa.assign;rfl)|(apply Aa.move;rfl)|(apply Aa.Bq;rfl;rfl;omega)|(apply Aa.int;rfl;rfl;rfl)|(apply Aa.AV;rfl;rfl;rfl;omega;rfl)|(apply Aa.load;rfl;rfl)|(apply Ad.Ae;rfl)|(apply Ad.AZ;rfl)|(intro _;try (exfalso;omega)))
       all_goals first|(exfalso;omega)|contradiction|(refine Done.ret rfl (.refl _) (by exact PV.Ac rfl) Ah.nil (Nat.zero_le _) (Nat.le_refl _) ⟨?_,rfl,rfl⟩;try rfl)
     ·intro uS
      rw [hrl] at uS
      repeat' (first|apply Ad.AA|apply Ad.region|apply Ad.AX|apply AO.normal|apply AL.normal|apply AL.exit|apply Aw.exit|apply Af.nil|apply Af.one|(apply Aa.move;rfl)|(apply Aa.Bq;rfl;rfl;omega)|(apply Aa.int;rfl;rfl;rfl)|(apply Ad.Ae;rfl)|(intro _;try (exfalso;omega)))
      all_goals try (exfalso;omega)
      refine Aw.normal ⟨(Ry hi uS),by first|omega|decide,?_,?_⟩
      ·repeat (first|exact Ak.nil|refine Ak.same (by exact PV.Ac rfl) rfl ?_|refine Ak.cons trivial rfl (.of_eq (Aq (by simp<;>omega))) ?_)
      ·repeat (first|exact Ah.nil|(refine Ah.cons (Aj rfl) ?_ rfl ?_ ?_;(first|exact HB.Ac rfl|exact AP.Ag _ _|(simp [HB.under,AP.under,PV.under]));(first|exact Bg.refl _|exact Bg.vec (Bf.refl _) (by simp))))
    ·intro hf
     rw [a6t hall hneg hf]
     repeat' (first|apply Ad.AA|apply Ad.AX|apply AO.normal|apply AL.exit|apply Aw.exit|apply Ad.ret|apply Af.nil|apply Af.one|(apply Aa.assign;rfl)|(apply Aa.move;rfl)|(apply Aa.int;rfl;rfl;rfl)|(apply Ad.Ae;rfl)|(intro _;try (exfalso;omega)))
     all_goals first|(exfalso;omega)|contradiction|(refine Done.ret rfl (.refl _) (by exact PV.Ac rfl) Ah.nil (Nat.zero_le _) (Nat.le_refl _) ⟨?_,rfl,rfl⟩;try rfl)
noncomputable def oC (l:List (List Int)) (m:Nat) (r:RX) (sum e most:Int):Int :=
 open Classical in
 if e≠0 then e else if sum≠r.total then 7 else if (IE l m r.rows r.BZ).2≠0 then (IE l m r.rows r.BZ).2
 else if (IE l m r.rows r.BZ).1<r.total∨∃ i,i<r.rows.length∧gi r.rows i>most then 20 else 0
noncomputable def wz (l:List (List Int)) (m:Nat) (skip:Int) (r:RX):Int:=oC l m r (Z4 l m skip r.cols).1 (Z4 l m skip r.cols).2 skip
theorem lq {l:List (List Int)} {m:Nat} {skip B:Int} (ty:TypeId) (h:RZ l l.length m skip B) (r:RX) (sum e most:Int) :
 AY env 48 [.lst ty (cells l) l.length,.agg (Enc.enc r),.int .i64 sum,.int .i64 e,.int .i64 most] (.p (.int .i64 (oC l m r sum e most))):=by
 have hp:=Vb ty h r.rows r.BZ
 have hE:oC l m r sum e most=if e≠0 then e else if sum≠r.total then 7 else if (IE l m r.rows r.BZ).2≠0 then (IE l m r.rows r.BZ).2
  else open Classical in if (IE l m r.rows r.BZ).1<r.total∨∃ i,i<r.rows.length∧gi r.rows i>most then 20 else 0:=rfl
 rw [hE]
 clear hE
 refine AY.enter (AB (by decide)) Tryz.func48 rfl (by kernel_rfl) (by simp [Tryz.ntmps48]) ?_
 by_cases e1:e=0
 case neg =>
  rw [if_pos e1]
  repeat' (first|apply Ad.AA|apply Ad.Ai|apply AO.ret|apply AL.ret|apply Ad.ret|apply Af.nil|apply Af.one|(apply Aa.assign;rfl)|(apply Aa.move;rfl)|(apply Aa.int;rfl;rfl;rfl)|(apply Aa.box;rfl;trivial)|(apply Ad.AZ;rfl)|(intro _;try (exfalso;omega)))
  all_goals first|(exfalso;omega)|contradiction|(refine Done.ret rfl (.refl _) (by exact PV.Ac rfl) Ah.nil (Nat.zero_le _) (Nat.le_refl _) ⟨?_,rfl,rfl⟩;try rfl)
 rw [if_neg (fun x=>x e1)]
 by_cases e2:sum=r.total
 case neg =>
  rw [if_pos e2]
  repeat' (first|apply Ad.AA|apply Ad.Ai|apply AO.ret|apply AL.ret|apply Ad.ret|apply Af.nil|apply Af.one|(apply Aa.assign;rfl)|(apply Aa.move;rfl)|(apply Aa.int;rfl;rfl;rfl)|(apply Aa.load;rfl;rfl)|(apply Aa.AQ;rfl;rfl;rfl)|(apply Aa.box;rfl;trivial)|(apply Ad.AZ;rfl)|(intro _;try (exfalso;omega)))
  all_goals first|(exfalso;omega)|contradiction|(refine Done.ret rfl (.refl _) (by exact PV.Ac rfl) Ah.nil (Nat.zero_le _) (Nat.le_refl _) ⟨?_,rfl,rfl⟩;try rfl)
 rw [if_neg (fun x=>x e2)]
 have hlen0:(IE l m r.rows r.BZ).2=0→r.rows.length=l.length:=fun h0=>Classical.byContradiction fun h1=>by
  rw [a5q (fun x=>h1 x.1)] at h0
  cases h0
 have h60:=h.n60
 generalize IE l m r.rows r.BZ=P at *
 obtain ⟨b,e3⟩:=P
 simp only at hp hlen0 ⊢
 by_cases e4:e3=0
 case neg =>
  rw [if_pos e4]
  repeat' (first|apply Ad.AA|apply Ad.Ai|apply AO.normal|apply AO.ret|apply AL.normal|apply AL.ret|apply Ad.ret|apply Ad.skip|apply Af.nil|apply Af.one|(apply Aa.fn;rfl;rfl;exact hp;intro _;rfl)|(apply Aa.assign;rfl)|(apply Aa.move;rfl)|(apply Aa.int;rfl;rfl;rfl)|(apply Aa.load;rfl;rfl)|(apply Aa.AQ;rfl;rfl;rfl)|(apply Aa.box;rfl;trivial)|(apply Aa.extract;rfl;rfl)|(apply Ad.AZ;rfl)|(intro _;try (exfalso;omega)))
  all_goals first|(exfalso;omega)|contradiction|(refine Done.ret rfl (.refl _) (by exact PV.Ac rfl) Ah.nil (Nat.zero_le _) (Nat.le_refl _) ⟨?_,rfl,rfl⟩;try rfl)
 rw [if_neg (fun x=>x e4)]
 have hlen:=hlen0 e4
 by_cases e5:b<r.total
 ·rw [if_pos (.inl e5)]
  repeat' (first|apply Ad.AA|apply Ad.Ai|apply AO.normal|apply AO.ret|apply AL.normal|apply AL.ret|apply Ad.ret|apply Ad.skip|apply Af.nil|apply Af.one|(apply Af.drop;rfl;rfl;rfl)|(apply Af.guard;rfl;rfl)|(apply Aa.fn;rfl;rfl;exact hp;intro _;rfl)|(apply Aa.assign;rfl)|(apply Aa.move;rfl)|(apply Aa.int;rfl;rfl;rfl)|(apply Aa.load;rfl;rfl)|(apply Aa.Bz;rfl;rfl)|(apply Aa.AQ;rfl;rfl;rfl)|(apply Aa.box;rfl;trivial)|(apply Aa.extract;rfl;rfl)|(apply Ad.cond_true;rfl)|(apply Ad.AZ;rfl)|(intro _;try (exfalso;omega)))
  all_goals first|(exfalso;omega)|contradiction|(refine Done.ret rfl (.refl _) (by exact PV.Ac rfl) Ah.nil (Nat.zero_le _) (Nat.le_refl _) ⟨?_,rfl,rfl⟩;try rfl)
 ·repeat' (first|apply Ad.assoc|apply Ad.AA|apply Ad.Ai|apply AO.normal|apply AL.normal|apply Ad.skip|apply Af.nil|apply Af.one|(apply Af.take;rfl;rfl)|(apply Af.guard;rfl;rfl)|(apply Aa.fn;rfl;rfl;exact hp;intro _;rfl)|(apply Aa.makeFunc;rfl;rfl)|(apply Vu;rfl;rfl;rfl;exact le_dec rfl)|(apply Vz;rfl;rfl;rfl;exact le_dec rfl)|(apply Aa.assign;rfl)|(apply Aa.move;rfl)|(apply Aa.int;rfl;rfl;rfl)|(apply Aa.load;rfl;rfl)|(apply Aa.BH;rfl;rfl)|(apply Aa.AQ;rfl;rfl;rfl)|(apply Aa.box;rfl;trivial)|(apply Aa.extract;rfl;rfl)|(apply Ad.AZ;rfl)|(intro _;try (exfalso;omega)))
  all_goals try (exfalso;omega)
  all_goals try contradiction
  apply Ad.FK (r.rows.length) (fun k=>∀ i,i<k→gi r.rows i≤most) [(0,_),(1,_),(7,_)] [(1,_),(0,_)] (fun k r=>(8,.p (.int .i64 (k:Int)))::r) (fun k r=>r) 2
  ·first|omega|decide
  ·first|omega|decide
  ·repeat (first|exact Ak.nil|(refine Ak.eq rfl ?_ ?_;(first|exact PV.Ac rfl|(simp [PV.under,AP.under];done)))|refine Ak.cons trivial rfl (.of_eq (Aq (by simp<;>omega))) ?_)
  ·repeat (first|exact Ah.nil|(refine Ah.eq rfl (Aj rfl) ?_ ?_;(first|exact HB.Ac rfl|exact AP.Ag _ _|(simp [HB.under,AP.under,PV.under];done)))|(refine Ah.cons (Aj rfl) ?_ rfl ?_ ?_;(first|exact trivial|exact AP.Ag _ _|(simp [HB.under,AP.under,PV.under]));(first|exact Bg.refl _|exact Bg.vec (Bf.refl _) (by simp))))
  ·first|(intro _ _;omega)|omega|trivial
  ·intro k hk hi
   by_cases hx:gi r.rows k≤most
   ·repeat' (first|apply Ad.AA|apply Ad.region|apply Ad.Au|apply Ad.Ai|apply AO.normal|(apply Bl.ret;rfl)|apply AL.normal|apply Ad.ret|apply Ad.skip|apply Af.nil|apply Af.one|(apply mg;rfl;rfl;rfl;exact le_dec rfl)|(apply Aa.assign;rfl)|(apply Aa.move;rfl)|(apply Aa.Bq;rfl;rfl;omega)|(apply Aa.int;rfl;rfl;rfl)|(apply Aa.AV;rfl;rfl;rfl;omega;rfl)|(apply Aa.load;rfl;rfl)|(apply Ad.Ae;rfl)|(apply Ad.AZ;rfl)|(intro _;try (exfalso;omega)))
    all_goals try (exfalso;omega)
    refine Aw.normal ⟨(Ry hi hx),by first|omega|decide,?_,?_⟩
    ·repeat (first|exact Ak.nil|refine Ak.same (by exact PV.Ac rfl) rfl ?_|refine Ak.cons trivial rfl (.of_eq (Aq (by simp<;>omega))) ?_)
    ·repeat (first|exact Ah.nil|(refine Ah.cons (Aj rfl) ?_ rfl ?_ ?_;(first|exact HB.Ac rfl|exact AP.Ag _ _|(simp [HB.under,AP.under,PV.under]));(first|exact Bg.refl _|exact Bg.vec (Bf.refl _) (by simp))))
   ·rw [if_pos (.inr ⟨k,hk,by omega⟩)]
    repeat' (first|apply Ad.AA|apply Ad.Au|apply Ad.Ai|apply AO.ret|(apply Bl.ret;rfl)|apply AL.ret|apply Aw.ret|apply Ad.ret|apply Af.nil|apply Af.one|(apply mg;rfl;rfl;rfl;exact le_dec rfl)|(apply Aa.assign;rfl)|(apply Aa.move;rfl)|(apply Aa.int;rfl;rfl;rfl)|(apply Aa.AV;rfl;rfl;rfl;omega;rfl)|(apply Aa.load;rfl;rfl)|(apply Aa.AU;rfl;rfl)|(apply Ad.Ae;rfl)|(apply Ad.cond_true;rfl)|(apply Ad.AZ;rfl)|(intro _;try (exfalso;omega)))
    all_goals first|(exfalso;omega)|contradiction|(refine Done.ret rfl (.refl _) (by exact PV.Ac rfl) Ah.nil (Nat.zero_le _) (Nat.le_refl _) ⟨?_,rfl,rfl⟩;try rfl)
  ·intro hall
   rw [if_neg (by
    rintro (h1|⟨i,h1,h2⟩)
    ·exact e5 h1
    ·have:=hall i h1;omega)]
   repeat' (first|apply Ad.AA|apply Ad.AX|apply AO.normal|(apply Bl.ret;rfl)|apply AL.normal|apply AL.exit|apply Aw.exit|apply Ad.ret|apply Ad.skip|apply Af.nil|apply Af.one|(apply Aa.assign;rfl)|(apply Aa.int;rfl;rfl;rfl)|(apply Aa.AU;rfl;rfl)|(apply Ad.Ae;rfl)|(apply Ad.cond_false;rfl)|(intro _;try (exfalso;omega)))
   all_goals first|(exfalso;omega)|contradiction|(refine Done.ret rfl (.refl _) (by exact PV.Ac rfl) Ah.nil (Nat.zero_le _) (Nat.le_refl _) ⟨?_,rfl,rfl⟩;try rfl)
theorem dD {l:List (List Int)} {m:Nat} {skip B:Int} (ty:TypeId) (h:RZ l l.length m skip B) (r:RX) :
 AY env 22 [.lst ty (cells l) l.length,.int .i64 skip,.agg (Enc.enc r)] (.p (.int .i64 (wz l m skip r))):=by
 have hc:=MO ty h
 have ht:=jQ ty h r.cols
 have hp:=lq ty h r (Z4 l m skip r.cols).1 (Z4 l m skip r.cols).2 skip
 refine AY.enter (AB (by decide)) Tryz.func22 rfl (by kernel_rfl) (by simp [Tryz.ntmps22]) ?_
 repeat' (first|apply Ad.assoc|apply Ad.AA|apply Ad.Au|apply Ad.ret|apply Af.nil|apply Af.one|(apply Aa.fn;rfl;rfl;exact hc;intro _;rfl)|(apply Aa.fn;rfl;rfl;exact ht;intro _;rfl)|(apply Aa.fn;rfl;rfl;exact hp;intro _;rfl)|(apply Aa.assign;rfl)|(apply Aa.move;rfl)|(apply Aa.int;rfl;rfl;rfl)|(apply Aa.load;rfl;rfl)|(apply Aa.AQ;rfl;rfl;rfl)|(apply Aa.box;rfl;trivial)|(apply Aa.extract;rfl;rfl)|(apply Ad.Az;rfl))
 all_goals first|(exfalso;omega)|contradiction|(refine Done.ret rfl (.refl _) (by exact PV.Ac rfl) Ah.nil (Nat.zero_le _) (Nat.le_refl _) ⟨?_,rfl,rfl⟩;try rfl)
theorem TD {l:List (List Int)} {m:Nat} {skip:Int} {cols:List Int} (h:oJ l.length m fun r=>gi cols r):∀ (r k:Nat) (used:List Bool) (sum:Int),k+r=l.length→(∀ q,k≤q→q<l.length→0≤gi cols q→gi used (gi cols q).toNat=false)→used.length=m →
 XW l m skip cols r k used sum=(sum+UJ (dF l skip fun r=>gi cols r) l.length r,0)
 |0,k,used,sum,hk,hu,hl=>by simp [XW,UJ]
 |r+1,k,used,sum,hk,hu,hl=>by
  have hrg:=h.rng k (by omega)
  have hrg:-1≤gi cols k∧gi cols k<m:=hrg
  have ek:l.length-(r+1)=k:=by omega
  unfold XW
  rw [if_neg (by omega)]
  simp only [UJ,ek]
  by_cases c2:gi cols k<0
  ·rw [if_pos c2,TD h r (k+1) used (sum+skip) (by omega) (fun q q1 q2 q3=>hu q (by omega) q2 q3) hl]
   have e:dF l skip (fun r=>gi cols r) k=skip:=if_pos c2
   rw [e,Int.add_assoc]
  ·rw [if_neg c2,hu k (Nat.le_refl _) (by omega) (by omega),if_neg (by decide)]
   have e:dF l skip (fun r=>gi cols r) k=gi (gi l k) (gi cols k).toNat:=if_neg c2
   rw [TD h r (k+1) _ _ (by omega) (fun q q1 q2 q3=>?_) (by rw [List.length_set];exact hl),e,Int.add_assoc]
   rw [gs (by omega),if_neg]
   ·exact hu q (by omega) q2 q3
   ·intro e
    have:=h.inj k q (by omega) q2 (show 0≤gi cols k by omega) (show gi cols k=gi cols q by omega)
    omega
theorem YO (l:List Int):∀ k,sumT l k=DK (fun i=>gi l i) k
 |0=>rfl
 |k+1=>by simp only [sumT,DK,YO l k]
theorem uY {l:List (List Int)} {m:Nat} {skip B:Int} (h:RZ l l.length m skip B):wz l m skip (Zf l m skip)=0:=by
 have hP:=yI h.Ye
 have hB:=h.B9
 have hm:(Zf l m skip)=⟨vg l l.length m skip,jw l l.length m skip,wV l l.length m skip,uh l l.length m skip⟩:=rfl
 rw [hm]
 generalize vg l l.length m skip=C at *
 generalize jw l l.length m skip=T at *
 generalize wV l l.length m skip=U at *
 generalize uh l l.length m skip=V at *
 have ht:Z4 l m skip C=(T,0):=by
  unfold Z4
  rw [if_neg (fun x=>x hP.lC),TD hP.part l.length 0 _ 0 (by omega) (fun q _ _ _=>by
   unfold gi;rw [List.getElem?_replicate];split<;>rfl) (by simp),rY,← hP.tot]
  simp
 have b0s:∀ i,i<(U++V).length→J4 (gi (U++V) i):=fun i hi=>by
  rw [List.length_append,hP.lU,hP.lV] at hi
  rcases Nat.lt_or_ge i l.length with h1|h1
  ·rw [VE (by rw [hP.lU];exact h1)]
   have:=hP.a8k i h1
   exact ⟨by omega,by omega⟩
  ·obtain ⟨j,rfl⟩:∃ j,i=U.length+j:=⟨i-U.length,by have:=hP.lU;omega⟩
   rw [XB]
   have:=hP.lU
   have:=hP.a5z j (by omega)
   exact ⟨by omega,by omega⟩
 have hs:sumT (U++V) (U++V).length=T:=by
  rw [YO,List.length_append,Qu,hP.a2n,hP.lU,hP.lV]
  congr 1
  ·exact EO fun k hk=>VE (by rw [hP.lU];exact hk)
  ·exact EO fun k hk=>by
    have:=XB (a:=U) (b:=V) (i:=k)
    rw [hP.lU] at this
    exact this
 have hp:IE l m U V=(T,0):=by
  rw [a2a ⟨hP.lU,hP.lV⟩ b0s (fun k hk=>(hP.a5z k (by have:=hP.lV;omega)).2) (fun i hi k hk=>hP.pot.XG i k hi hk),hs]
 unfold wz oC
 simp only [ht,hp]
 rw [if_neg (fun h=>h rfl),if_neg (fun h=>h rfl),if_neg (fun h=>h rfl),if_neg]
 rintro (h1|⟨i,h1,h2⟩)
 ·omega
 ·have:=hP.pot.skip i (by have:=hP.lU;omega)
  have:gi U i≤skip:=this
  omega
end Go.Proofs.YtdabojnmoejilaaGreatDoor
namespace Go.Proofs.YtdabojnmoejilaaGreatDoor
open Go Go.Am Go.Vm Go.Tra Go.Hun
attribute [local irreducible] Aa Af Ar Ad BA AY CG AO AL Aw Vm.Done CW Bl
attribute [local irreducible] DR Dw Io Jd Nh BU
structure Zg (q:Iu):Prop where
 sm1:Pg q.BG
 sm2:Pg q.tgt
 rg:q.reg.Ok
 err:jX q=0
 shb:ShB q.BG q.tgt
theorem Hw {q:Iu} (h:jX q=0):KW q.BG=0∧Qw q.BG q.reg=0∧KW q.tgt=0∧NH q.Iq∧(BJ q.BG q.reg).length≤60∧(Bo q.tgt).length≤120:=by
 unfold jX at h
 split at h
 ·rename_i h1;exact absurd h h1
 rename_i h1
 split at h
 ·rename_i h2;exact absurd h h2
 rename_i h2
 split at h
 ·rename_i h3;exact absurd h h3
 rename_i h3
 split at h
 ·exact absurd h (by decide)
 rename_i h4
 split at h
 ·exact absurd h (by decide)
 rename_i h5
 exact ⟨Classical.not_not.1 h1,Classical.not_not.1 h2,Classical.not_not.1 h3,Classical.not_not.1 h4,by omega,by omega⟩
theorem Zg.k1 {q:Iu} (h:Zg q):Gi q.BG:=yY h.sm1 (Hw h.err).1
theorem Zg.k2 {q:Iu} (h:Zg q):Gi q.tgt:=yY h.sm2 (Hw h.err).2.2.1
theorem Zg.Iq {q:Iu} (h:Zg q):NH q.Iq:=(Hw h.err).2.2.2.1
theorem Zg.len {q:Iu} (h:Zg q):q.reg.stops.length=q.BG.Ap.length:=oI (Hw h.err).2.1
def Jg (q:Iu):List (List Int):=Oe q.BG q.tgt q.reg q.Iq
def Pq (q:Iu):Nat:=if (BJ q.BG q.reg).length=0 then 0 else (Bo q.tgt).length
theorem rW (q:Iu):(Jg q).length=(BJ q.BG q.reg).length:=by simp [Jg,Oe]
theorem sS (q:Iu) {r k:Nat} (hr:r<(BJ q.BG q.reg).length) (hk:k<(Bo q.tgt).length):gi (gi (Jg q) r) k=Pn q.BG q.tgt q.Iq (gi (BJ q.BG q.reg) r) (gi (Bo q.tgt) k):=by
 unfold Jg Oe
 rw [gi_map' _ hr,gi_map' _ hk]
theorem rV (q:Iu) {r:Nat} (hr:r<(BJ q.BG q.reg).length):(gi (Jg q) r).length=(Bo q.tgt).length:=by
 unfold Jg Oe
 rw [gi_map' _ hr,List.length_map]
theorem Zg.Ye {q:Iu} (h:Zg q):RZ (Jg q) (Jg q).length (Pq q) q.Iq.miss 101000000:=by
 obtain ⟨_,_,_,hw,h5,h6⟩:=Hw h.err
 obtain ⟨_,_,_,w4⟩:=Ro hw
 have hl:=rW q
 refine ⟨⟨rfl,fun r hr=>?_,fun r k hr hk=>?_,⟨w4.1,by omega⟩,by decide⟩,by omega,?_,by decide,fun h0=>?_⟩
 ·rw [rV q (by omega)]
  unfold Pq;rw [if_neg (by omega)]
 ·unfold Pq at hk
  rw [if_neg (by omega)] at hk
  rw [sS q (by omega) hk]
  exact ji hw h.shb (YZ (Zm (by omega))) (Kt hk)
 ·unfold Pq;split<;>omega
 ·unfold Pq;rw [if_pos (by omega)]
theorem XV {l:List (List Int)} {m:Nat} {skip B:Int} (e:TypeId) (h:RZ l l.length m skip B):AY env 45 [.lst e (cells l) l.length,.int .i64 skip] (.EP [.p (.agg (Enc.enc (Zf l m skip))),.p (.int .i64 0)]):=by
 rcases Nat.eq_zero_or_pos l.length with h0|h0
 ·have hm:=h.m0 h0
  have hl:l=[]:=List.length_eq_zero_iff.1 h0
  subst hl;subst hm
  have:=h.Ye.skip
  have:=h.B9
  exact X9 e (by omega)
 ·exact Zi e h h0
theorem LZ {q:Iu} (h:Zg q):AY env 15 [.agg (Enc.enc q)] (.EP [.p (.lst 52 (cells (Jg q)) (Jg q).length),.p (.int .i64 0)]):=by
 have hc:=Ou q h.sm1 h.sm2 h.rg
 rw [h.err] at hc
 have hl:=X4 q h.k1 h.k2 h.Iq h.shb h.rg h.len
 rw [show Oe q.BG q.tgt q.reg q.Iq=Jg q from rfl] at hl
 refine AY.enter (AB (by decide)) Tryz.func15 rfl (by kernel_rfl) (by simp [Tryz.ntmps15]) ?_
 repeat' (first|apply Ad.assoc|apply Ad.AA|apply Ad.Au|apply Ad.ret|apply Af.nil|apply Af.one|(apply Aa.fn;rfl;rfl;exact hc;intro _;rfl)|(apply Aa.fn;rfl;rfl;exact hl;intro _;rfl)|(apply Aa.assign;rfl)|(apply Aa.move;rfl)|(apply Aa.int;rfl;rfl;rfl)|(apply Aa.load;rfl;rfl)|(apply Aa.box;rfl;trivial)|(apply Aa.extract;rfl;rfl)|(apply Ad.Az;rfl))
 all_goals first|(exfalso;omega)|contradiction|(refine Done.ret rfl (.refl _) (by exact PV.Ac rfl) Ah.nil (Nat.zero_le _) (Nat.le_refl _) ⟨?_,rfl,rfl⟩;try rfl)
noncomputable def NK (q:Iu):RX:=Zf (Jg q) (Pq q) q.Iq.miss
theorem WT {q:Iu} (h:Zg q):AY env 17 [.agg (Enc.enc q)] (.EP [.p (.agg (Enc.enc (NK q))),.p (.int .i64 0)]):=by
 have hl:=LZ h
 have hp:=XV 52 h.Ye
 rw [show Zf (Jg q) (Pq q) q.Iq.miss=NK q from rfl] at hp
 generalize NK q=b at *
 refine AY.enter (AB (by decide)) Tryz.func17 rfl (by kernel_rfl) (by simp [Tryz.ntmps17]) ?_
 repeat' (first|apply Ad.assoc|apply Ad.AA|apply Ad.Au|apply Ad.ret|apply Af.nil|apply Af.one|(apply Aa.fn;rfl;rfl;exact hl;intro _;rfl)|(apply Aa.fn;rfl;rfl;exact hp;intro _;rfl)|(apply Aa.assign;rfl)|(apply Aa.move;rfl)|(apply Aa.int;rfl;rfl;rfl)|(apply Aa.load;rfl;rfl)|(apply Aa.AQ;rfl;rfl;rfl)|(apply Aa.box;rfl;trivial)|(apply Aa.alloc;rfl)|(apply Aa.Bj;rfl;rfl;rfl;trivial;rfl;rfl;exact Aj rfl;exact le_dec rfl)|(apply Aa.build;rfl;rfl;rfl;rfl;rfl)|(apply Aa.extract;rfl;rfl)|(apply Ad.Az;rfl))
 all_goals first|(exfalso;omega)|contradiction|(refine Done.ret rfl (.refl _) (by exact PV.Ac rfl) Ah.nil (Nat.zero_le _) (Nat.le_refl _) ⟨?_,rfl,rfl⟩;try rfl)
def b1z:List FV:=[.val (.slice none 0 0),.int .i64 0,.val (.slice none 0 0),.val (.slice none 0 0)]
theorem Zc {q:Iu} (h:Zg q) (p:RX):AY env 21 [.agg (Enc.enc q),.agg (Enc.enc p)] (.p (.int .i64 (wz (Jg q) (Pq q) q.Iq.miss p))):=by
 have hl:=LZ h
 have hp:=dD 52 h.Ye p
 refine AY.enter (AB (by decide)) Tryz.func21 rfl (by kernel_rfl) (by simp [Tryz.ntmps21]) ?_
 repeat' (first|apply Ad.assoc|apply Ad.AA|apply Ad.Au|apply Ad.ret|apply Af.nil|apply Af.one|(apply Aa.fn;rfl;rfl;exact hl;intro _;rfl)|(apply Aa.fn;rfl;rfl;exact hp;intro _;rfl)|(apply Aa.assign;rfl)|(apply Aa.move;rfl)|(apply Aa.int;rfl;rfl;rfl)|(apply Aa.load;rfl;rfl)|(apply Aa.AQ;rfl;rfl;rfl)|(apply Aa.box;rfl;trivial)|(apply Aa.build;rfl;rfl;rfl;rfl;rfl)|(apply Aa.extract;rfl;rfl)|(apply Ad.Az;rfl))
 all_goals first|(exfalso;omega)|contradiction|(refine Done.ret rfl (.refl _) (by exact PV.Ac rfl) Ah.nil (Nat.zero_le _) (Nat.le_refl _) ⟨?_,rfl,rfl⟩;try rfl)
end Go.Proofs.YtdabojnmoejilaaGreatDoor
namespace Go.Vm
open Go.Am
section
variable {P:Program}
structure b2s (P:Program) (t e:TypeId):Prop where
 arr:P.underlying t=some (.array 2 e)
 elt:P.underlying e=some (.int .i64)
 agg:F6 P e=some false
 sz:(P.info? e).map (·.size)=some 1
def a2V (a b:Int):Value:=.agg #[.int .i64 a,.int .i64 b]
abbrev aG:=List ((Int×Int)×Int)
def b3k (es:aG):List (FV×FV):=es.map fun x=>(.agg [.int .i64 x.1.1,.int .i64 x.1.2],.int .i64 x.2)
def vM:aG→Int→Int→Option Int
 |[],_,_=>none
 |x::es,a,b=>if a=x.1.1∧b=x.1.2 then some x.2 else vM es a b
variable {E:Env} {L:Vm.Frame} {H:Vm.Heap} {nx:Nat} {Q:PV→Vm.Heap→Nat→Prop} {w:Bool} {dst:Option Tmp} {ty:TypeId} {pos:String} {af:Array Edge} {gd:Option (Nat×Bool)}
end
end Go.Vm
namespace Go.Hun
open Go Go.Am Go.Vm
def yL (f:Nat→aG→aG) (t:Nat) (es:aG):Nat→aG
 |0=>es
 |k+1=>if t.testBit k then yL f t es k else f (t ||| 2 ^ k) (yL f t es k)
def tK (l:List (List Int)) (skip:Int) (m n:Nat):Nat→Nat→aG→aG
 |0,_,es=>es
 |r+1,t,es=>if (vM es ((n-(r+1):Nat):Int) (t:Int)).isSome then es else
   yL (tK l skip m n r) t (tK l skip m n r t es) m++[((((n-(r+1):Nat):Int),(t:Int)),Zk l skip m n (r+1) t)]
def b3e (l:List (List Int)) (skip:Int) (m n:Nat) (es:aG):Prop :=
 ∀ (r t:Nat) v,r≤n→vM es ((n-r:Nat):Int) (t:Int)=some v→v=Zk l skip m n r t
def Ey (cols:List Int):Nat→Nat
 |0=>0
 |k+1=>if gi cols k<0 then Ey cols k else Ey cols k ||| 2 ^ (gi cols k).toNat
end Go.Hun
namespace Go.Tra
open Go Go.Am Go.Vm Go.Hun
def PS (P:Nat→Bool) (n:Nat):Nat→Int
 |0=>-1
 |r+1=>if P (n-(r+1))=true then ((n-(r+1):Nat):Int) else PS P n r
def ER (P:Nat→Bool) (n:Nat):Int:=PS P n n
theorem Xp {P:Nat→Bool} {n k:Nat} (hk:k<n) (h:P k=false):PS P n (n-k)=PS P n (n-(k+1)):=by
 obtain ⟨j,hj⟩:∃ j,n-k=j+1:=⟨n-k-1,by omega⟩
 rw [hj]
 have e:n-(j+1)=k:=by omega
 show (if P (n-(j+1))=true then _ else PS P n j)=_
 rw [e,if_neg (by rw [h];decide)]
 congr 1;omega
theorem ZK {P:Nat→Bool} {n k:Nat} (hk:k<n) (h:P k=true):PS P n (n-k)=(k:Int):=by
 obtain ⟨j,hj⟩:∃ j,n-k=j+1:=⟨n-k-1,by omega⟩
 rw [hj]
 have e:n-(j+1)=k:=by omega
 show (if P (n-(j+1))=true then _ else PS P n j)=_
 rw [e,if_pos h]
theorem OA (P:Nat→Bool) (n:Nat):∀ r,r≤n→-1≤PS P n r∧PS P n r<(n:Int)
 |0,_=>⟨by simp [PS],by simp only [PS];omega⟩
 |r+1,hr=>by
  unfold PS
  split
  ·omega
  ·exact OA P n r (by omega)
theorem XF {P:Nat→Bool} {n:Nat}:∀ r,r≤n→0≤PS P n r→P (PS P n r).toNat=true
 |0,_,h=>by simp [PS] at h
 |r+1,hr,h=>by
  unfold PS at h ⊢
  split
  ·rename_i h1;simpa using h1
  ·rename_i h1
   rw [if_neg h1] at h
   exact XF r (by omega) h
theorem dH {P:Nat→Bool} {n:Nat} (h:∀ i,i<n→P i=false):∀ r,r≤n→PS P n r=-1
 |0,_=>rfl
 |r+1,hr=>by
  unfold PS
  rw [if_neg (by rw [h _ (by omega)];decide)]
  exact dH h r (by omega)
theorem XL {P:Nat→Bool} {n k:Nat} (hp:P k=true):∀ r,r≤n→n-r≤k→k<n→0≤PS P n r
 |0,_,h1,h2=>by omega
 |r+1,hr,h1,h2=>by
  unfold PS
  split
  ·omega
  ·rename_i h3
   refine XL hp r (by omega) ?_ h2
   by_cases e:n-(r+1)=k
   ·rw [e] at h3;exact absurd hp h3
   ·omega
theorem lQ {P:Nat→Bool} {n k:Nat} (h:∀ i j,i<n→j<n→P i=true→P j=true→i=j) (hk:k<n) (hp:P k=true):ER P n=(k:Int):=by
 have h1:0≤PS P n n:=XL hp n (Nat.le_refl _) (by omega) hk
 have h2:=OA P n n (Nat.le_refl _)
 have h3:=XF n (Nat.le_refl _) h1
 have h4:=h _ k (by omega) hk h3 hp
 unfold ER
 omega
theorem WQ (ns:List Nat):∀ n,(J9 ns n).Nodup
 |0=>List.nodup_nil
 |n+1=>by
  have e0:J9 ns (n+1)=J9 ns n++(List.range (gi ns n)).map fun s=>⟨n,s⟩:=rfl
  rw [e0,List.nodup_append]
  refine ⟨WQ ns n,?_,fun a ha b hb he=>?_⟩
  ·refine List.Pairwise.map _ (fun a b hab he=>hab ?_) List.nodup_range
   injection he
  ·subst he
   have h1:=WS ha
   obtain ⟨s,_,rfl⟩:=List.mem_map.1 hb
   have:n<n:=h1.1
   omega
theorem xO {α:Type} [Inhabited α] {l:List α} (h:l.Nodup) {i j:Nat} (hi:i<l.length) (hj:j<l.length) (e:gi l i=gi l j):i=j:=by
 unfold gi at e
 rw [List.getElem?_eq_getElem hi,List.getElem?_eq_getElem hj] at e
 exact (List.getElem_inj h).1 e
def Fv (all:List Oo) (l:List Int) (n:Nat):Nat→List Nat
 |0=>List.replicate n 0
 |k+1=>if gi l k<0 then Fv all l n k else (Fv all l n k).set (gi all (gi l k).toNat).d (gi (Fv all l n k) (gi all (gi l k).toNat).d ||| 2 ^ (gi all (gi l k).toNat).s)
theorem GH (all:List Oo) (l:List Int) (n:Nat):∀ k,(Fv all l n k).length=n
 |0=>by simp [Fv]
 |k+1=>by
  unfold Fv
  split
  ·exact GH all l n k
  ·rw [List.length_set];exact GH all l n k
theorem Py (n i:Nat):gi (List.replicate n (0:Nat)) i=0:=by
 unfold gi
 rw [List.getElem?_replicate]
 split<;>rfl
theorem dP {all:List Oo} {l:List Int} {n:Nat} {p:Oo} (hp:p.d<n):∀ k,(gi (Fv all l n k) p.d).testBit p.s=true↔∃ j,j<k∧0≤gi l j∧gi all (gi l j).toNat=p
 |0=>by
  unfold Fv
  rw [Py]
  simp
 |k+1=>by
  have ih:=dP (all:=all) (l:=l) hp k
  have hl:=GH all l n k
  unfold Fv
  split
  ·rename_i h1
   rw [ih]
   constructor
   ·rintro ⟨j,h2,h3⟩;exact ⟨j,by omega,h3⟩
   ·rintro ⟨j,h2,h3,h4⟩
    by_cases e:j=k
    ·subst e;omega
    ·exact ⟨j,by omega,h3,h4⟩
  ·rename_i h1
   rw [PG]
   by_cases e:p.d=(gi all (gi l k).toNat).d
   ·rw [if_pos ⟨e.symm,by omega⟩,← e,a3w,Bool.or_eq_true,ih]
    constructor
    ·rintro (⟨j,h2,h3⟩|h2)
     ·exact ⟨j,by omega,h3⟩
     ·refine ⟨k,by omega,by omega,?_⟩
      have:=of_decide_eq_true h2
      cases hq:gi all (gi l k).toNat
      cases p
      rw [hq] at e this
      simp only at e this
      rw [e,this]
    ·rintro ⟨j,h2,h3,h4⟩
     by_cases ej:j=k
     ·subst ej;right;rw [h4];exact decide_eq_true rfl
     ·left;exact ⟨j,by omega,h3,h4⟩
   ·rw [if_neg (fun h=>e h.1.symm),ih]
    constructor
    ·rintro ⟨j,h2,h3⟩;exact ⟨j,by omega,h3⟩
    ·rintro ⟨j,h2,h3,h4⟩
     by_cases ej:j=k
     ·subst ej;rw [h4] at e;exact absurd rfl e
     ·exact ⟨j,by omega,h3,h4⟩
theorem ny {all:List Oo} {l:List Int} {n:Nat} {B:Nat→Nat}:∀ k,(∀ j,j<k→0≤gi l j→(gi all (gi l j).toNat).s<B (gi all (gi l j).toNat).d)→∀ i,gi (Fv all l n k) i<2 ^ B i
 |0,_,i=>by
  unfold Fv;rw [Py];exact Nat.pow_pos (by decide)
 |k+1,hb,i=>by
  have ih:=ny (all:=all) (l:=l) (n:=n) (B:=B) k fun j hj=>hb j (by omega)
  unfold Fv
  split
  ·exact ih i
  ·rw [PG]
   split
   ·rename_i h1
    rw [← h1.1]
    have h2:=ih (gi all (gi l k).toNat).d
    exact Nat.or_lt_two_pow h2 (Nat.pow_lt_pow_right (by decide) (hb k (by omega) (by omega)))
   ·exact ih i
def Og (l:List Int) (m n:Nat):Nat→Int
 |0=>0
 |r+1=>if gi l (n-(r+1))< -1∨gi l (n-(r+1))≥m then 3 else if 0≤gi l (n-(r+1))∧gi l (n-(r+1))∈l.take (n-(r+1)) then 9 else Og l m n r
theorem a0h {l:List Int} {m n k:Nat} (hk:k<n):Og l m n (n-k)=if gi l k< -1∨gi l k≥m then 3 else if 0≤gi l k∧gi l k∈l.take k then 9 else Og l m n (n-(k+1)):=by
 obtain ⟨j,hj⟩:∃ j,n-k=j+1:=⟨n-k-1,by omega⟩
 have e:n-(j+1)=k:=by omega
 have e2:j=n-(k+1):=by omega
 rw [hj]
 show (if gi l (n-(j+1))< -1∨gi l (n-(j+1))≥m then (3:Int) else if 0≤gi l (n-(j+1))∧gi l (n-(j+1))∈l.take (n-(j+1)) then 9 else Og l m n j)=_
 rw [e,← e2]
theorem dQ {l:List Int} {k:Nat} {x:Int} (hk:k≤l.length):x∈l.take k↔∃ j,j<k∧gi l j=x:=by
 rw [List.mem_take_iff_getElem]
 constructor
 ·rintro ⟨j,hj,e⟩
  refine ⟨j,by omega,?_⟩
  unfold gi;rw [List.getElem?_eq_getElem (by omega)];exact e
 ·rintro ⟨j,hj,e⟩
  refine ⟨j,by omega,?_⟩
  unfold gi at e;rw [List.getElem?_eq_getElem (by omega)] at e;exact e
theorem QT {cols:List Int} {m:Nat}:∀ k,(∀ j,j<k→gi cols j<m)→Ey cols k<2 ^ m
 |0,_=>Nat.pow_pos (by decide)
 |k+1,h=>by
  have ih:=QT (cols:=cols) (m:=m) k fun j hj=>h j (by omega)
  have:=h k (by omega)
  unfold Ey
  split
  ·exact ih
  ·exact Nat.or_lt_two_pow ih (Nat.pow_lt_pow_right (by decide) (by omega))
end Go.Tra
namespace Go.Proofs.YtdabojnmoejilaaGreatDoor
open Go Go.Am Go.Vm Go.Tra
attribute [local irreducible] Aa Af Ar Ad BA AY CG AO AL Aw Vm.Done CW Bl
attribute [local irreducible] DR Dw Io Jd Nh BU
def RH (o:EN) (d s:Nat):List Oo:=J9 (Qx o) d++(List.range s).map fun i=>⟨d,i⟩
theorem rJ (o:EN) (d:Nat):RH o d 0=J9 (Qx o) d:=by simp [RH]
theorem qL (o:EN) (d s:Nat):RH o d (s+1)=RH o d s++[⟨d,s⟩]:=by simp [RH,List.range_succ]
theorem sZ (o:EN) (d s:Nat):(RH o d s).length=KX (Qx o) d+s:=by simp [RH,KX]
theorem wC (o:EN) {d:Nat} (hd:d<o.Ap.length):RH o d (gi o.Ap d).stops.length=J9 (Qx o) (d+1):=by
 rw [← V4 o hd];rfl
theorem jh {o:EN} (ho:Gi o) {d:Nat} (h:d≤o.Ap.length):KX (Qx o) d≤480:=by
 have h1:=aj (Qx o) (d:=d) (e:=(Qx o).length) (by rw [ML];exact h)
 have h2:=FT ho
 rw [V9] at h2
 omega
theorem UF (o:EN) (ho:Gi o):AY env 19 [.agg (Enc.enc o)] (.p (.lst 85 (cells (Bo o)) (Bo o).length)):=by
 have d1:=ho.Ap
 refine AY.enter (AB (by decide)) Tryz.func19 rfl (by kernel_rfl) (by simp [Tryz.ntmps19]) ?_
 repeat' (first|apply Ad.assoc|apply Ad.AA|apply Ad.Ai|apply Af.nil|apply Af.one|(apply Aa.assign;rfl)|(apply Aa.box;rfl;trivial))
 all_goals try (exfalso;omega)
 refine Ad.ghost (A8.adopt 3 85 rfl) ?_
 apply Ad.Ed (o.Ap.length) [(1,_)] [(0,_)] (fun k r=>(3,.vec 1 (J9 (Qx o) k).length 0 (J9 (Qx o) k).length)::(4,.p (.int .i64 (k:Int)))::r) (fun k r=>(1,.vec 85 (cells (J9 (Qx o) k)) (J9 (Qx o) k).length true)::r) 2
 ·first|omega|decide
 ·first|omega|decide
 ·repeat (first|exact Ak.nil|(refine Ak.eq rfl ?_ ?_;(first|exact PV.Ac rfl|(simp [PV.under,AP.under];done)))|refine Ak.cons trivial rfl (.of_eq (Aq (by simp<;>omega))) ?_)
 ·repeat (first|exact Ah.nil|(refine Ah.eq rfl (Aj rfl) ?_ ?_;(first|exact HB.Ac rfl|exact AP.Ag _ _|(simp [HB.under,AP.under,PV.under];done)))|(refine Ah.cons (Aj rfl) ?_ rfl ?_ ?_;(first|exact trivial|exact AP.Ag _ _|(simp [HB.under,AP.under,PV.under]));(first|exact Bg.refl _|exact Bg.vec (Bf.refl _) (by simp))))
 ·intro k hk
  have s1:=ho.stops k hk
  have e0:=rJ o k
  have e9:=wC o hk
  have b1:=jh ho (d:=k+1) hk
  have b2:=Jz (Qx o) k
  rw [V4 o hk] at b2
  rw [← e0,← e9]
  repeat' (first|apply Ad.assoc|apply Ad.AA|apply Ad.Au|apply Ad.Ai|apply Ad.Ih|apply Af.nil|apply Af.one|(apply Aa.assign;rfl)|(apply Aa.move;rfl)|(apply Aa.int;rfl;rfl;rfl)|(apply Aa.load;rfl;rfl)|(apply Aa.BH;rfl;rfl)|(apply Aa.AQ;rfl;rfl;rfl)|(apply Ad.Ae;rfl)|(intro _;try (exfalso;omega)))
  all_goals try (exfalso;omega)
  apply Ad.Ed ((gi o.Ap k).stops.length) [(1,_),(4,_)] [(0,_)] (fun k_ r=>(3,.vec 1 (RH o k k_).length 0 (RH o k k_).length)::(5,.p (.int .i64 (k_:Int)))::r) (fun k_ r=>(1,.vec 85 (cells (RH o k k_)) (RH o k k_).length true)::r) 2
  ·first|omega|decide
  ·first|omega|decide
  ·repeat (first|exact Ak.nil|(refine Ak.eq rfl ?_ ?_;(first|exact PV.Ac rfl|(simp [PV.under,AP.under];done)))|refine Ak.cons trivial rfl (.of_eq (Aq (by simp<;>omega))) ?_)
  ·repeat (first|exact Ah.nil|(refine Ah.eq rfl (Aj rfl) ?_ ?_;(first|exact HB.Ac rfl|exact AP.Ag _ _|(simp [HB.under,AP.under,PV.under];done)))|(refine Ah.cons (Aj rfl) ?_ rfl ?_ ?_;(first|exact trivial|exact AP.Ag _ _|(simp [HB.under,AP.under,PV.under]));(first|exact Bg.refl _|exact Bg.vec (Bf.refl _) (by simp))))
  ·intro j hj
   have f1:=qL o k j
   have f2:(RH o k (j+1)).length=(RH o k j).length+1:=by rw [f1];simp
   have f3:=sZ o k j
   repeat' (first|apply Ad.assoc|apply Ad.AA|apply Ad.region|apply Ad.Au|apply Ad.Ai|apply AO.normal|apply AL.normal|apply Af.nil|apply Af.one|(apply Aa.Dv (a:=(⟨k,j⟩:Oo));rfl;rfl;rfl;rfl;rfl;rfl;rfl;rfl;(intro _ h;cases h);rfl;rfl;rfl;decide;decide;(first|omega|(simp only [List.length_take,List.length_drop,List.length_append,List.length_singleton,List.length_cons,List.length_nil]<;>omega)))|(apply Aa.assign;rfl)|(apply Aa.move;rfl)|(apply Aa.Bq;rfl;rfl;omega)|(apply Aa.int;rfl;rfl;rfl)|(apply Aa.AV;rfl;rfl;rfl;omega;rfl)|(apply Aa.load;rfl;rfl)|(apply Aa.BH;rfl;rfl)|(apply Aa.AQ;rfl;rfl;rfl)|(apply Aa.DW;rfl;rfl)|(apply Aa.build;rfl;rfl;rfl;rfl;rfl)|(apply Aa.buildSlice;rfl;rfl;rfl;decide;rfl;rfl;rfl)|(apply Ad.Ae;rfl)|(intro _;try (exfalso;omega)))
   all_goals try (exfalso;omega)
   refine Aw.normal ⟨by omega,?_,?_⟩
   ·rw [f2]
    repeat (first|exact Ak.nil|refine Ak.same (by exact PV.Ac rfl) rfl ?_|refine Ak.cons trivial rfl (.of_eq (Aq (by simp<;>omega))) ?_)
   ·rw [f2,f1]
    repeat (first|exact Ah.nil|(refine Ah.cons (Aj rfl) ?_ rfl ?_ ?_;(first|exact HB.Ac rfl|exact AP.Ag _ _|(simp [HB.under,AP.under,PV.under]));(first|exact Bg.refl _|exact Bg.vec (Bf.refl _) (by simp))))
  ·repeat' (first|apply Ad.assoc|apply Ad.AA|apply Ad.region|apply Ad.AX|apply AO.normal|apply AL.normal|apply AL.exit|apply Aw.exit|apply Af.nil|apply Af.one|(apply Aa.assign;rfl)|(apply Aa.move;rfl)|(apply Aa.Bq;rfl;rfl;omega)|(apply Aa.int;rfl;rfl;rfl)|(apply Aa.AV;rfl;rfl;rfl;omega;rfl)|(apply Aa.load;rfl;rfl)|(apply Aa.BH;rfl;rfl)|(apply Aa.AQ;rfl;rfl;rfl)|(apply Aa.DW;rfl;rfl)|(apply Ad.Ae;rfl)|(intro _;try (exfalso;omega)))
   all_goals try (exfalso;omega)
   refine Aw.normal ⟨by first|omega|decide,?_,?_⟩
   ·repeat (first|exact Ak.nil|refine Ak.same (by exact PV.Ac rfl) rfl ?_|refine Ak.cons trivial rfl (.of_eq (Aq (by simp<;>omega))) ?_)
   ·repeat (first|exact Ah.nil|(refine Ah.cons (Aj rfl) ?_ rfl ?_ ?_;(first|exact HB.Ac rfl|exact AP.Ag _ _|(simp [HB.under,AP.under,PV.under]));(first|exact Bg.refl _|exact Bg.vec (Bf.refl _) (by simp))))
 ·have ea:J9 (Qx o) o.Ap.length=Bo o:=by unfold Bo;rw [ML]
  rw [ea]
  repeat' (first|(refine Af.IU 2 ?_;refine Af.ghost (A8.freeze 30 rfl rfl) ?_)|apply Ad.assoc|apply Ad.AA|apply Ad.AX|apply AO.normal|apply AL.exit|apply Aw.exit|apply Ad.ret|apply Af.nil|apply Af.one|(apply Aa.assign;rfl)|(apply Aa.move;rfl)|(apply Aa.int;rfl;rfl;rfl)|(apply Aa.load;rfl;rfl)|(apply Aa.BH;rfl;rfl)|(apply Aa.AQ;rfl;rfl;rfl)|(apply Ad.Ae;rfl)|(intro _;try (exfalso;omega)))
  all_goals first|(exfalso;omega)|(refine Done.ret rfl (.refl _) (by exact PV.Ac rfl) Ah.nil (Nat.zero_le _) (Nat.le_refl _) ⟨?_,rfl,rfl⟩;try rfl)
def Ii (o:EN) (rg:Rgs) (k:Nat):List Oo:=((Bo o).take k).filter (FY rg)
theorem dR (o:EN) (rg:Rgs) {k:Nat} (h:k<(Bo o).length):Ii o rg (k+1)=if FY rg (gi (Bo o) k)=true then Ii o rg k++[gi (Bo o) k] else Ii o rg k:=by
 unfold Ii
 rw [DF h,List.filter_append]
 split
 ·rename_i h1;simp [h1]
 ·rename_i h1;simp [h1]
theorem lF (o:EN) (rg:Rgs) (k:Nat):(Ii o rg k).length≤k:=by
 unfold Ii
 have:=List.length_filter_le (FY rg) ((Bo o).take k)
 rw [List.length_take] at this
 omega
theorem kS (o:EN) (rg:Rgs):Ii o rg (Bo o).length=BJ o rg:=by unfold Ii BJ;rw [List.take_of_length_le (Nat.le_refl _)]
theorem eX (o:EN) (ho:Gi o) (rg:Rgs) (hr:rg.Ok) (hl:rg.stops.length=o.Ap.length) :
 AY env 31 [.agg (Enc.enc o),.agg (Enc.enc rg)] (.p (.lst 85 (cells (BJ o rg)) (BJ o rg).length)):=by
 have hb:=FT ho
 have hs:=UF o ho
 refine AY.enter (AB (by decide)) Tryz.func31 rfl (by kernel_rfl) (by simp [Tryz.ntmps31]) ?_
 repeat' (first|apply Ad.assoc|apply Ad.AA|apply Ad.Ai|apply Af.nil|apply Af.one|(apply Aa.fn;rfl;rfl;exact hs;intro _;rfl)|(apply Aa.assign;rfl)|(apply Aa.load;rfl;rfl)|(apply Aa.box;rfl;trivial))
 all_goals try (exfalso;omega)
 refine Ad.ghost (A8.adopt 5 85 rfl) ?_
 apply Ad.Ed ((Bo o).length) [(3,_),(6,_)] [(1,_)] (fun k r=>(5,.vec 2 (Ii o rg k).length 0 (Ii o rg k).length)::(7,.p (.int .i64 (k:Int)))::r) (fun k r=>(2,.vec 85 (cells (Ii o rg k)) (Ii o rg k).length true)::r) 3
 ·first|omega|decide
 ·first|omega|decide
 ·repeat (first|exact Ak.nil|(refine Ak.eq rfl ?_ ?_;(first|exact PV.Ac rfl|(simp [PV.under,AP.under];done)))|refine Ak.cons trivial rfl (.of_eq (Aq (by simp<;>omega))) ?_)
 ·repeat (first|exact Ah.nil|(refine Ah.eq rfl (Aj rfl) ?_ ?_;(first|exact HB.Ac rfl|exact AP.Ag _ _|(simp [HB.under,AP.under,PV.under];done)))|(refine Ah.cons (Aj rfl) ?_ rfl ?_ ?_;(first|exact trivial|exact AP.Ag _ _|(simp [HB.under,AP.under,PV.under]));(first|exact Bg.refl _|exact Bg.vec (Bf.refl _) (by simp))))
 ·intro k hk
  obtain ⟨h1,h2⟩:=Kt hk
  have s1:=ho.stops _ h1
  have b1:=hr.stops (gi (Bo o) k).d (by omega)
  have hq:gi rg.stops (gi (Bo o) k).d / 2 ^ (gi (Bo o) k).s<18446744073709551616:=Nat.lt_of_le_of_lt (Nat.div_le_self _ _) b1
  have e1:=dR o rg hk
  have e3:=lF o rg k
  by_cases hp:FY rg (gi (Bo o) k)=true
  ·rw [if_pos hp] at e1
   have e2:(Ii o rg (k+1)).length=(Ii o rg k).length+1:=by rw [e1];simp
   have hm:gi rg.stops (gi (Bo o) k).d / 2 ^ (gi (Bo o) k).s % 2=1:=by simpa [FY] using hp
   repeat' (first|apply Ad.assoc|apply Ad.AA|apply Ad.BI|apply Ad.region|apply Ad.Au|apply Ad.Ai|apply AO.normal|apply AL.normal|apply Af.nil|apply Ar.nil|apply Af.one|(apply Ar.bar;decide +kernel)|apply Ar.quiet|(apply Aa.Dv (a:=gi (Bo o) k);rfl;rfl;rfl;rfl;rfl;rfl;rfl;rfl;(intro _ h;cases h);rfl;rfl;rfl;decide;decide;(first|omega|(simp only [List.length_take,List.length_drop,List.length_append,List.length_singleton,List.length_cons,List.length_nil]<;>omega)))|(apply Aa.AV (l:=rg.stops) (i:=(gi (Bo o) k).d);rfl;rfl;rfl;omega;rfl)|(apply Aa.assign;rfl)|(apply Aa.move;rfl)|(apply Aa.Bq;rfl;rfl;omega)|(apply Aa.Q9;rfl;rfl;omega)|(apply Aa.int;rfl;rfl;rfl)|(apply Aa.AV;rfl;rfl;rfl;omega;rfl)|(apply Aa.load;rfl;rfl)|(apply Aa.BH;rfl;rfl)|(apply Aa.AQ;rfl;rfl;rfl)|(apply Aa.DW;rfl;rfl)|(apply Aa.buildSlice;rfl;rfl;rfl;decide;rfl;rfl;rfl)|(apply Aa.LK;rfl;rfl;rfl;rfl;omega)|(apply Aa.NU;rfl;rfl;(simp only [IntKind.bits];omega))|(apply Ad.Ae;rfl)|(apply Ad.AZ;rfl)|(intro _;try (exfalso;omega)))
   all_goals try (exfalso;omega)
   refine Aw.normal ⟨by omega,?_,?_⟩
   ·rw [e2]
    repeat (first|exact Ak.nil|refine Ak.same (by exact PV.Ac rfl) rfl ?_|refine Ak.cons trivial rfl (.of_eq (Aq (by simp<;>omega))) ?_)
   ·rw [e2,e1]
    repeat (first|exact Ah.nil|(refine Ah.cons (Aj rfl) ?_ rfl ?_ ?_;(first|exact HB.Ac rfl|exact AP.Ag _ _|(simp [HB.under,AP.under,PV.under]));(first|exact Bg.refl _|exact Bg.vec (Bf.refl _) (by simp))))
  ·rw [if_neg hp] at e1
   have hm:¬ gi rg.stops (gi (Bo o) k).d / 2 ^ (gi (Bo o) k).s % 2=1:=by simpa [FY] using hp
   repeat' (first|apply Ad.assoc|apply Ad.AA|apply Ad.BI|apply Ad.region|apply Ad.Au|apply Ad.Ai|apply AO.normal|apply AL.normal|apply Ad.skip|apply Af.nil|apply Ar.nil|apply Af.one|(apply Ar.bar;decide +kernel)|apply Ar.quiet|(apply Aa.AV (l:=rg.stops) (i:=(gi (Bo o) k).d);rfl;rfl;rfl;omega;rfl)|(apply Aa.assign;rfl)|(apply Aa.move;rfl)|(apply Aa.Bq;rfl;rfl;omega)|(apply Aa.Q9;rfl;rfl;omega)|(apply Aa.int;rfl;rfl;rfl)|(apply Aa.AV;rfl;rfl;rfl;omega;rfl)|(apply Aa.load;rfl;rfl)|(apply Aa.BH;rfl;rfl)|(apply Aa.AQ;rfl;rfl;rfl)|(apply Aa.DW;rfl;rfl)|(apply Aa.LK;rfl;rfl;rfl;rfl;omega)|(apply Aa.NU;rfl;rfl;(simp only [IntKind.bits];omega))|(apply Ad.Ae;rfl)|(apply Ad.AZ;rfl)|(intro _;try (exfalso;omega)))
   all_goals try (exfalso;omega)
   refine Aw.normal ⟨by omega,?_,?_⟩
   ·rw [e1]
    repeat (first|exact Ak.nil|refine Ak.same (by exact PV.Ac rfl) rfl ?_|refine Ak.cons trivial rfl (.of_eq (Aq (by simp<;>omega))) ?_)
   ·rw [e1]
    repeat (first|exact Ah.nil|(refine Ah.cons (Aj rfl) ?_ rfl ?_ ?_;(first|exact HB.Ac rfl|exact AP.Ag _ _|(simp [HB.under,AP.under,PV.under]));(first|exact Bg.refl _|exact Bg.vec (Bf.refl _) (by simp))))
 ·rw [kS]
  repeat' (first|(refine Af.IU 4 ?_;refine Af.ghost (A8.freeze 41 rfl rfl) ?_)|apply Ad.assoc|apply Ad.AA|apply Ad.AX|apply AO.normal|apply AL.exit|apply Aw.exit|apply Ad.ret|apply Af.nil|apply Af.one|(apply Aa.assign;rfl)|(apply Aa.move;rfl)|(apply Aa.int;rfl;rfl;rfl)|(apply Aa.BH;rfl;rfl)|(apply Ad.Ae;rfl)|(intro _;try (exfalso;omega)))
  all_goals first|(exfalso;omega)|(refine Done.ret rfl (.refl _) (by exact PV.Ac rfl) Ah.nil (Nat.zero_le _) (Nat.le_refl _) ⟨?_,rfl,rfl⟩;try rfl)
def shg (F T:EN) (a b:Oo):Int:=(BU (G6 F a).Du (G6 T b).Du).1
def ShS (F T:EN):Prop:=∀ a b,Ic F a→Ic T b→-1000≤shg F T a b∧shg F T a b≤1000∧max (shg F T a b) (-shg F T a b)=max (wL F T a b) (-wL F T a b)
end Go.Proofs.YtdabojnmoejilaaGreatDoor
namespace Go.Proofs.YtdabojnmoejilaaGreatDoor
open Go Go.Am Go.Vm
attribute [local irreducible] Aa Af Ar Ad BA AY CG AO AL Aw Vm.Done CW Bl
def b1v (o:EN):Rgs:=⟨List.replicate o.Ap.length 0,0,0⟩
def a5u (o:EN) (k:Nat):Nat:=2 ^ (gi o.Ap k).stops.length-1
def b1u (o:EN):Rgs:=⟨a4o (a5u o) (List.replicate o.Ap.length 0) o.Ap.length,2 ^ o.BF.length-1,0⟩
def b1k (r:Rgs) (d s:Nat):Rgs:=⟨r.stops.set d (gi r.stops d ||| 2 ^ s),r.cp,r.off⟩
def a4p (a b:Rgs) (k:Nat):Nat:=gi a.stops k ||| gi b.stops k
def a9n (a b:Rgs):Rgs:=⟨a4o (a4p a b) a.stops a.stops.length,a.cp ||| b.cp,a.off ||| b.off⟩
end Go.Proofs.YtdabojnmoejilaaGreatDoor
namespace Go.Proofs.YtdabojnmoejilaaGreatDoor
open Go Go.Am Go.Vm
attribute [local irreducible] Aa Af Ar Ad BA AY CG AO AL Aw Vm.Done CW Bl
theorem VH (x n:Nat):(x &&& (2 ^ n-1)) / 2 ^ n=0:=by
 have h1:x &&& (2 ^ n-1)≤2 ^ n-1:=Nat.and_le_right
 have h2:0<2 ^ n:=Nat.two_pow_pos n
 exact Nat.div_eq_of_lt (by omega)
theorem rH (o:EN) (ho:TP o) (b:Nat→Nat) (hb:∀ i,b i<256):(Tv o b).Ok:=by
 have r2:=ho.Ap
 have l:=Jy (Gn o b) o.Ap.length
 refine ⟨fun i hi=>?_,?_,?_,?_⟩
 ·have hi:i<(GI (Gn o b) o.Ap.length).length:=hi
  rw [l] at hi
  show gi (GI (Gn o b) o.Ap.length) i<_
  rw [bH _ hi]
  have:=hb (i % 3)
  have:Gn o b i≤b (i % 3):=Nat.and_le_left
  omega
 ·have:=hb 3
  have:b 3 &&& (2 ^ o.BF.length-1)≤b 3:=Nat.and_le_left
  show b 3 &&& (2 ^ o.BF.length-1)<_
  omega
 ·have:=hb 4
  have:b 4 &&& (2 ^ o.Ap.length-1)≤b 4:=Nat.and_le_left
  show b 4 &&& (2 ^ o.Ap.length-1)<_
  omega
 ·show (GI (Gn o b) o.Ap.length).length<_
  omega
theorem lH (o:EN) (b:Nat→Nat):Qw o (Tv o b)=0:=by
 have l:=Jy (Gn o b) o.Ap.length
 rw [Tj (show (GI (Gn o b) o.Ap.length).length=_ from l) fun i hi=>?_]
 ·rw [if_neg]
  intro h
  rcases h with h|h
  ·exact h (VH _ _)
  ·exact h (VH _ _)
 ·have hi:i<(GI (Gn o b) o.Ap.length).length:=hi
  rw [l] at hi
  show gi (GI (Gn o b) o.Ap.length) i / _=0
  rw [bH _ hi]
  exact VH _ _
def b3n (i:Nat):Nat:=if i=4 then 0 else 255
end Go.Proofs.YtdabojnmoejilaaGreatDoor
namespace Go.Proofs.YtdabojnmoejilaaGreatDoor
open Go Go.Am Go.Vm Go.Tra Go.Hun
attribute [local irreducible] Aa Af Ar Ad BA AY CG AO AL Aw Vm.Done CW Bl
structure sD where
 BG:jW
 tgt:jW
 bits:Nat→Nat
 w:Nat→Nat
def sD.enc (x:sD):List FV:=[.lst 150 (cells x.BG.ranks) x.BG.ranks.length,.lst 75 (cells x.BG.Ap) x.BG.Ap.length,.lst 153 (cells x.BG.links) x.BG.links.length,
 .lst 150 (cells x.tgt.ranks) x.tgt.ranks.length,.lst 75 (cells x.tgt.Ap) x.tgt.Ap.length,.lst 153 (cells x.tgt.links) x.tgt.links.length,
 .int .u8 (x.bits 0:Int),.int .u8 (x.bits 1:Int),.int .u8 (x.bits 2:Int),.int .u8 (x.bits 3:Int),.int .u8 (x.bits 4:Int),.int .u8 (x.w 0:Int),.int .u8 (x.w 1:Int),.int .u8 (x.w 2:Int),.int .u8 (x.w 3:Int)]
structure sD.Ok (x:sD):Prop where
 BG:x.BG.Ok
 tgt:x.tgt.Ok
 bits:∀ i,x.bits i<256
 w:∀ i,x.w i<256
def Uj (x:sD):Prop:=RV x.BG∧RV x.tgt
noncomputable instance (x:sD):Decidable (Uj x):=Classical.propDecidable _
theorem kY (x:sD) (hx:x.Ok):AY env 13 [.agg x.enc] (.p (.bool (decide (Uj x)))):=by
 have h1:=Y9 x.BG hx.BG
 have h2:=Y9 x.tgt hx.tgt
 refine AY.enter (AB (by decide)) Tryz.func13 rfl (by kernel_rfl) (by simp [Tryz.ntmps13]) ?_
 by_cases c1:RV x.BG
 ·rw [decide_eq_true c1] at h1
  by_cases c2:RV x.tgt
  ·rw [decide_eq_true c2] at h2
   rw [decide_eq_true (p:=Uj x) ⟨c1,c2⟩]
   repeat' (first|apply Ad.AA|apply Ad.ret|apply Af.nil|apply Af.one|(apply Af.take;rfl;rfl)|(apply Aa.fn;rfl;rfl;exact h1;intro _;rfl)|(apply Aa.fn;rfl;rfl;exact h2;intro _;rfl)|(apply Aa.assign;rfl)|(apply Aa.move;rfl)|(apply Aa.load;rfl;rfl)|(apply Aa.Bz;rfl;rfl)|(apply Aa.AQ;rfl;rfl;rfl)|(apply Aa.box;rfl;trivial))
   all_goals first|(exfalso;omega)|contradiction|(refine Done.ret rfl (.refl _) (by exact PV.Ac rfl) Ah.nil (Nat.zero_le _) (Nat.le_refl _) ⟨?_,rfl,rfl⟩;try rfl)
  ·rw [decide_eq_false c2] at h2
   rw [decide_eq_false (p:=Uj x) (fun h=>c2 h.2)]
   repeat' (first|apply Ad.AA|apply Ad.ret|apply Af.nil|apply Af.one|(apply Af.take;rfl;rfl)|(apply Aa.fn;rfl;rfl;exact h1;intro _;rfl)|(apply Aa.fn;rfl;rfl;exact h2;intro _;rfl)|(apply Aa.assign;rfl)|(apply Aa.move;rfl)|(apply Aa.load;rfl;rfl)|(apply Aa.Bz;rfl;rfl)|(apply Aa.AQ;rfl;rfl;rfl)|(apply Aa.box;rfl;trivial))
   all_goals first|(exfalso;omega)|contradiction|(refine Done.ret rfl (.refl _) (by exact PV.Ac rfl) Ah.nil (Nat.zero_le _) (Nat.le_refl _) ⟨?_,rfl,rfl⟩;try rfl)
 ·rw [decide_eq_false c1] at h1
  rw [decide_eq_false (p:=Uj x) (fun h=>c1 h.1)]
  repeat' (first|apply Ad.AA|apply Ad.ret|apply Af.nil|apply Af.one|(apply Af.drop;rfl;rfl;rfl)|(apply Aa.fn;rfl;rfl;exact h1;intro _;rfl)|(apply Aa.assign;rfl)|(apply Aa.move;rfl)|(apply Aa.load;rfl;rfl)|(apply Aa.AU;rfl;rfl)|(apply Aa.AQ;rfl;rfl;rfl)|(apply Aa.box;rfl;trivial))
  all_goals first|(exfalso;omega)|contradiction|(refine Done.ret rfl (.refl _) (by exact PV.Ac rfl) Ah.nil (Nat.zero_le _) (Nat.le_refl _) ⟨?_,rfl,rfl⟩;try rfl)
def mkW (w:Nat→Nat):aP:=⟨((w 0 % 32:Nat):Int),((w 1 % 8:Nat):Int),((w 2 % 32:Nat):Int),((w 3 % 64:Nat):Int)⟩
noncomputable def mkQ (x:sD):Iu:=⟨gX x.BG,Tv (gX x.BG) x.bits,gX x.tgt,mkW x.w⟩
theorem lZ (x:sD) (hx:x.Ok) (hf:Uj x):AY env 14 [.agg x.enc] (.p (.agg (Enc.enc (mkQ x)))):=by
 have h1:=Uk x.BG hx.BG hf.1
 have h2:=Uk x.tgt hx.tgt hf.2
 have h3:=iY (gX x.BG) (oz x.BG hx.BG hf.1) x.bits hx.bits
 have w0:=hx.w 0
 have w1:=hx.w 1
 have w2:=hx.w 2
 have w3:=hx.w 3
 obtain ⟨a0,e0⟩:∃ a,a=x.w 0 % 32:=⟨_,rfl⟩
 obtain ⟨a1,e1⟩:∃ a,a=x.w 1 % 8:=⟨_,rfl⟩
 obtain ⟨a2,e2⟩:∃ a,a=x.w 2 % 32:=⟨_,rfl⟩
 obtain ⟨a3,e3⟩:∃ a,a=x.w 3 % 64:=⟨_,rfl⟩
 have eQ:mkQ x=⟨gX x.BG,Tv (gX x.BG) x.bits,gX x.tgt,⟨(a0:Int),(a1:Int),(a2:Int),(a3:Int)⟩⟩:=by rw [e0,e1,e2,e3];rfl
 have v0:EX .rem .u8 (x.w 0:Int) 32=some (.int .u8 (a0:Int)):=by rw [e0];rfl
 have v1:EX .rem .u8 (x.w 1:Int) 8=some (.int .u8 (a1:Int)):=by rw [e1];rfl
 have v2:EX .rem .u8 (x.w 2:Int) 32=some (.int .u8 (a2:Int)):=by rw [e2];rfl
 have v3:EX .rem .u8 (x.w 3:Int) 64=some (.int .u8 (a3:Int)):=by rw [e3];rfl
 have a0b:a0<256:=by omega
 have a1b:a1<256:=by omega
 have a2b:a2<256:=by omega
 have a3b:a3<256:=by omega
 rw [eQ]
 clear eQ e0 e1 e2 e3
 generalize Tv (gX x.BG) x.bits=r at *
 generalize gX x.BG=F at *
 generalize gX x.tgt=T at *
 refine AY.enter (AB (by decide)) Tryz.func14 rfl (by kernel_rfl) (by simp [Tryz.ntmps14]) ?_
 repeat' (first|apply Ad.AA|apply Ad.BI|apply Ad.ret|apply Af.nil|apply Ar.nil|apply Af.one|(apply Ar.bar;decide +kernel)|apply Ar.quiet|(apply Aa.fn;rfl;rfl;exact h1;intro _;rfl)|(apply Aa.fn;rfl;rfl;exact h2;intro _;rfl)|(apply Aa.fn;rfl;rfl;exact h3;intro _;rfl)|(apply Aa.Vw;rfl;rfl;rfl;rfl;rfl;decide)|(apply Aa.int;rfl;rfl;exact v0)|(apply Aa.int;rfl;rfl;exact v1)|(apply Aa.int;rfl;rfl;exact v2)|(apply Aa.int;rfl;rfl;exact v3)|(apply Aa.load;rfl;rfl)|(apply Aa.AQ;rfl;rfl;rfl)|(apply Aa.box;rfl;trivial)|(apply Aa.alloc;rfl)|(apply Aa.Bj;rfl;rfl;rfl;trivial;rfl;rfl;exact Aj rfl;exact le_dec rfl)|(apply Aa.build;rfl;rfl;rfl;rfl;rfl)|(apply Aa.Jf;rfl;rfl;rfl;rfl;omega))
 all_goals first|(exfalso;omega)|(refine Done.ret rfl (.refl _) (by exact PV.Ac rfl) Ah.nil (Nat.zero_le _) (Nat.le_refl _) ⟨?_,rfl,rfl⟩;try rfl)
theorem a3t {w:Nat→Nat}:NH (mkW w):=fun i hi=>by
 match i,hi with
 |0,_=>show (0:Int)≤((w 0 % 32:Nat):Int)∧((w 0 % 32:Nat):Int)≤100000;omega
 |1,_=>show (0:Int)≤((w 1 % 8:Nat):Int)∧((w 1 % 8:Nat):Int)≤100000;omega
 |2,_=>show (0:Int)≤((w 2 % 32:Nat):Int)∧((w 2 % 32:Nat):Int)≤100000;omega
 |3,_=>show (0:Int)≤((w 3 % 64:Nat):Int)∧((w 3 % 64:Nat):Int)≤100000;omega
theorem TP.a1z {o:EN} (h:TP o):(Bo o).length≤9:=by
 have h1:=Qd (ns:=Qx o) (K:=3) (fun d hd=>by rw [ML] at hd;rw [V4 o hd];exact h.stops d hd) (Qx o).length (Nat.le_refl _)
 rw [V9]
 have:=h.Ap
 rw [ML] at h1 ⊢
 omega
theorem qW (o:EN) (r:Rgs):(BJ o r).length≤(Bo o).length:=List.length_filter_le _ _
theorem zN:∀ a,a<6→∀ b,b<6→(BU (gi EZ a) (gi EZ b)).2=0∧-1000≤(BU (gi EZ a) (gi EZ b)).1∧(BU (gi EZ a) (gi EZ b)).1≤1000 ∧
 max (BU (gi EZ a) (gi EZ b)).1 (-(BU (gi EZ a) (gi EZ b)).1)=max (BU (gi EZ b) (gi EZ a)).1 (-(BU (gi EZ b) (gi EZ a)).1)∧(a=b→(BU (gi EZ a) (gi EZ b)).1=0):=by decide +kernel
theorem TP.Du {o:EN} (h:TP o) {p:Oo} (hp:Ic o p):∃ a,a<6∧(G6 o p).Du=gi EZ a:=(h.st p.d hp.1 p.s hp.2).2.2
theorem a5i {F T:EN} (hF:TP F) (hT:TP T):ShB F T:=fun a b ha hb=>by
 obtain ⟨i,hi,ei⟩:=hF.Du ha
 obtain ⟨j,hj,ej⟩:=hT.Du hb
 have:=zN j hj i hi
 unfold wL
 rw [ei,ej]
 exact ⟨this.1,this.2.1,this.2.2.1⟩
theorem a6f {F T:EN} {r:Rgs} {w:Nat→Nat} (hF:TP F) (hT:TP T) (hr:r.Ok) (he:Qw F r=0):Zg ⟨F,r,T,mkW w⟩:=by
 have h1:=hF.a1z
 have h2:=hT.a1z
 have h3:=qW F r
 refine ⟨hF.sm,hT.sm,hr,?_,a5i hF hT⟩
 unfold jX
 rw [if_neg (fun h=>h hF.ok),if_neg (fun h=>h he),if_neg (fun h=>h hT.ok),if_neg (fun h=>h a3t),if_neg (by show ¬ ((BJ F r).length>60∨(Bo T).length>120);omega)]
theorem a4u (x:sD) (hx:x.Ok) (hf:Uj x):Zg (mkQ x):=a6f (oz x.BG hx.BG hf.1) (oz x.tgt hx.tgt hf.2) (rH _ (oz x.BG hx.BG hf.1) _ hx.bits) (lH _ _)
end Go.Proofs.YtdabojnmoejilaaGreatDoor
namespace Go.Proofs.YtdabojnmoejilaaGreatDoor
open Go Go.Am Go.Vm Go.Tra Go.Hun
theorem jq (o:EN):(Bo o).Nodup:=WQ _ _
theorem a3j {α:Type} [Inhabited α] {l:List α} {x:α} (h:x∈l):∃ k,k<l.length∧gi l k=x:=by
 obtain ⟨k,hk,e⟩:=List.getElem_of_mem h
 exact ⟨k,hk,by unfold gi;rw [List.getElem?_eq_getElem hk];exact e⟩
end Go.Proofs.YtdabojnmoejilaaGreatDoor
namespace Go.Vm
open Go Go.Am
section
variable {E:Env} {L:Frame} {H:Heap} {nx:Nat} {Q:PV→Heap→Nat→Prop} {dst:Option Tmp} {ty:TypeId} {pos:String} {af:Array Edge} {gd:Option (Nat×Bool)} {w:Bool}
theorem Aa.a5j {t t2:TypeId} {x y:Operand} {a b r:Bool} (hx:BD E.Γ L x=some (.p (.bool a))) (hy:BD E.Γ L y=some (.p (.bool b))) (ht:E.P.underlying t=some .bool) (hr:(a==b)=r) (q:Q (.p (.bool r)) H nx) :
 Aa E w ⟨dst,.binOp .eql t x y t2,ty,pos,af,gd⟩ L H nx Q:=Aa.eqB hx hy ht (by rw [hr];exact q)
end
end Go.Vm
namespace Go.Proofs.YtdabojnmoejilaaGreatDoor
open Go Go.Am Go.Vm Go.Tra Go.Hun
attribute [local irreducible] Aa Af Ar Ad BA AY CG AO AL Aw Vm.Done CW Bl
attribute [local irreducible] DR Dw Io Jd Nh BU
def X7 (F T:EN) (c y:Xq):Bool:=decide (y.shift=c.shift)&&((y.through==c.through)&&(decide ((gi T.Ap y.BG.toNat).name=(gi F.Ap c.BG.toNat).name)&&decide ((gi T.Ap y.tgt.toNat).name=(gi F.Ap c.tgt.toNat).name)))
def a6a (n:Nat) (c:Xq):Prop:=0≤c.BG∧c.BG<n∧0≤c.tgt∧c.tgt<n
theorem Gi.a0w {o:EN} (h:Gi o) {i:Nat} (hi:i<o.BF.length):a6a o.Ap.length (gi o.BF i):=by
 have h0:=h.err
 unfold KW at h0
 split at h0
 ·exact absurd h0 (by decide)
 split at h0
 ·exact absurd h0 (by decide)
 split at h0
 ·rename_i h1;exact absurd h0 h1
 split at h0
 ·exact absurd h0 (by decide)
 split at h0
 ·exact absurd h0 (by decide)
 split at h0
 ·rename_i h1;exact absurd h0 h1
 unfold Nh at h0
 split at h0
 ·exact absurd h0 (by decide)
 split at h0
 ·rename_i h1;exact absurd h0 h1
 rw [List.length_map] at h0
 exact Y3 _ 0 rfl h0 i (Nat.zero_le _) hi
theorem qH (q:Iu) (c y:Xq) (nf nt:List UInt8) (hnf:(gi q.BG.Ap c.BG.toNat).name=nf) (hnt:(gi q.BG.Ap c.tgt.toNat).name=nt) (hy:a6a q.tgt.Ap.length y) (hd:q.tgt.Ap.length≤8) :
 J5 env 95 ([.p (.agg (Enc.enc y))]++[.ref 0 0,.ref 1 0,.ref 2 0,.ref 3 0]) [(0,.box 147 ((Enc.enc c).map .p)),(1,.box 45 ((Enc.enc q).map .p)),(2,.box 9 [.p (.str (bs nf))]),(3,.box 9 [.p (.str (bs nt))])] 4 (.bool (X7 q.BG q.tgt c y)):=by
 obtain ⟨y1,y2,y3,y4⟩:=hy
 obtain ⟨yf,hyf⟩:∃ n:Nat,y.BG=n:=⟨y.BG.toNat,by omega⟩
 obtain ⟨yt,hyt⟩:∃ n:Nat,y.tgt=n:=⟨y.tgt.toNat,by omega⟩
 have eM:X7 q.BG q.tgt c y=(decide (y.shift=c.shift)&&((y.through==c.through)&&(decide ((gi q.tgt.Ap yf).name=nf)&&decide ((gi q.tgt.Ap yt).name=nt)))):=by
  unfold X7;rw [hnf,hnt,hyf,hyt,Int.toNat_natCast,Int.toNat_natCast]
 rw [eM]
 clear eM hnf hnt
 obtain ⟨b2,d2⟩:∃ b,(y.through==c.through)=b:=⟨_,rfl⟩
 obtain ⟨b3,d3⟩:∃ b,decide ((gi q.tgt.Ap yf).name=nf)=b:=⟨_,rfl⟩
 obtain ⟨b4,d4⟩:∃ b,decide ((gi q.tgt.Ap yt).name=nt)=b:=⟨_,rfl⟩
 rw [d2,d3,d4]
 refine J5.enter (AB (by decide)) Tryz.func95 rfl (by kernel_rfl) (by simp [Tryz.ntmps95]) ?_
 by_cases h1:y.shift=c.shift
 all_goals first|rw [decide_eq_true h1]|rw [decide_eq_false h1]
 all_goals cases b2
 all_goals cases b3
 all_goals cases b4
 all_goals
  repeat' (first|apply Ad.AA|apply Ad.BI|apply Ad.ret|apply Af.nil|apply Ar.nil|apply Af.one|(apply Ar.bar;decide +kernel)|apply Ar.quiet|(apply Ar.Lr;rfl;rfl)|(apply Ar.drop;rfl;rfl;rfl)|(apply Ar.guard;rfl;rfl)|(apply Aa.a5j;rfl;rfl;rfl;exact d2)|(apply Aa.dM;rfl;rfl;exact d3)|(apply Aa.dM;rfl;rfl;exact d4)|(apply Aa.AV (l:=q.tgt.Ap) (i:=yf);rfl;(first|exact congrArg (fun a=>some (PV.p (.int .i64 a))) hyf|rfl);rfl;omega;rfl)|(apply Aa.AV (l:=q.tgt.Ap) (i:=yt);rfl;(first|exact congrArg (fun a=>some (PV.p (.int .i64 a))) hyt|rfl);rfl;omega;rfl)|(apply Aa.assign;rfl)|(apply Aa.move;rfl)|(apply Aa.int;rfl;rfl;rfl)|(apply Aa.load;rfl;rfl)|(apply Aa.Bz;rfl;rfl)|(apply Aa.AU;rfl;rfl)|(apply Aa.AQ;rfl;rfl;rfl)|(apply Aa.DW;rfl;rfl)|(apply Aa.box;rfl;trivial)|(intro _;try (exfalso;omega)))
 all_goals first|(exfalso;omega)|contradiction|(refine Done.ret rfl (.refl _) trivial ?_ (by omega) (Nat.le_refl _) ⟨?_,rfl,rfl⟩;repeat (first|exact Ah.nil|(refine Ah.cons (Aj rfl) ?_ rfl ?_ ?_;(first|exact HB.Ac rfl|exact AP.Ag _ _|(simp [HB.under,AP.under,PV.under]));(first|exact Bg.refl _|exact Bg.vec (Bf.refl _) (by simp))));try rfl)
theorem a5l (q:Iu) (c:Xq) (nf nt:List UInt8) (hnf:(gi q.BG.Ap c.BG.toNat).name=nf) (hnt:(gi q.BG.Ap c.tgt.toNat).name=nt) (hk:Gi q.tgt) :
 J5 env 94 [.p (.lst 147 (cells q.tgt.BF) q.tgt.BF.length),.clo 95 [] [.ref 0 0,.ref 1 0,.ref 2 0,.ref 3 0]] [(0,.box 147 ((Enc.enc c).map .p)),(1,.box 45 ((Enc.enc q).map .p)),(2,.box 9 [.p (.str (bs nf))]),(3,.box 9 [.p (.str (bs nt))])] 4
  (.int .i64 (ER (fun k=>X7 q.BG q.tgt c (gi q.tgt.BF k)) q.tgt.BF.length)):=by
 have b1:=hk.BF
 obtain ⟨P,hP⟩:∃ P:Nat→Bool,P=fun k=>X7 q.BG q.tgt c (gi q.tgt.BF k):=⟨_,rfl⟩
 have hM':∀ k,k<q.tgt.BF.length→J5 env 95 ([.p (.agg (Enc.enc (gi q.tgt.BF k)))]++[.ref 0 0,.ref 1 0,.ref 2 0,.ref 3 0]) [(0,.box 147 ((Enc.enc c).map .p)),(1,.box 45 ((Enc.enc q).map .p)),(2,.box 9 [.p (.str (bs nf))]),(3,.box 9 [.p (.str (bs nt))])] 4 (.bool (P k)):=fun k hkk=>by rw [hP];exact qH q c (gi q.tgt.BF k) nf nt hnf hnt (hk.a0w hkk) hk.Ap.2
 rw [← hP]
 clear hP hnf hnt
 refine J5.enter (AB (by decide)) Tryz.func94 rfl (by kernel_rfl) (by simp [Tryz.ntmps94]) ?_
 repeat' (first|apply Ad.assoc|apply Ad.AA|apply Ad.Ai|apply Af.nil|apply Af.one|(apply Aa.assign;rfl)|(apply Aa.move;rfl)|(apply Aa.BH;rfl;rfl))
 all_goals try (exfalso;omega)
 apply Ad.FK (q.tgt.BF.length) (fun k=>PS P q.tgt.BF.length (q.tgt.BF.length-k)=ER P q.tgt.BF.length) [(0,_),(1,_),(7,_)] [(0,_),(1,_),(2,_),(3,_)] (fun k r=>(8,.p (.int .i64 (k:Int)))::r) (fun k r=>r) 4
 ·first|omega|decide
 ·first|omega|decide
 ·repeat (first|exact Ak.nil|(refine Ak.eq rfl ?_ ?_;(first|exact PV.Ac rfl|(simp [PV.under,AP.under];done)))|refine Ak.cons trivial rfl (.of_eq (Aq (by simp<;>omega))) ?_)
 ·repeat (first|exact Ah.nil|(refine Ah.eq rfl (Aj rfl) ?_ ?_;(first|exact HB.Ac rfl|exact AP.Ag _ _|(simp [HB.under,AP.under,PV.under];done)))|(refine Ah.cons (Aj rfl) ?_ rfl ?_ ?_;(first|exact trivial|exact AP.Ag _ _|(simp [HB.under,AP.under,PV.under]));(first|exact Bg.refl _|exact Bg.vec (Bf.refl _) (by simp))))
 ·first|(intro _ _;omega)|omega|trivial
 ·intro k hk hi
  have hC:=hM' k hk
  by_cases hp:P k=true
  ·rw [hp] at hC
   have e1:ER P q.tgt.BF.length=(k:Int):=by rw [← hi,ZK hk hp]
   rw [e1]
   repeat' (first|apply Ad.AA|apply Ad.Au|apply Ad.Ai|apply AO.ret|apply AL.ret|apply Aw.ret|apply Ad.ret|apply Af.nil|apply Af.one|(apply Aa.read [0,1,2,3] hC;rfl;rfl;exact .of_eq rfl;exact AP.Ac rfl;exact DJ rfl;(repeat (first|exact trivial|refine ⟨⟨_,rfl,.of_eq rfl⟩,?_⟩));decide;(intro _ hb;simp at hb<;>omega);rfl)|(apply Aa.assign;rfl)|(apply Aa.move;rfl)|(apply Aa.int;rfl;rfl;rfl)|(apply Aa.AV;rfl;rfl;rfl;omega;rfl)|(apply Aa.load;rfl;rfl)|(apply Ad.Ae;rfl)|(apply Ad.cond_true;rfl)|(intro _;try (exfalso;omega)))
   all_goals first|(exfalso;omega)|contradiction|(refine Done.ret rfl (.refl _) trivial ?_ (by omega) (Nat.le_refl _) ⟨?_,rfl,rfl⟩;repeat (first|exact Ah.nil|(refine Ah.cons (Aj rfl) ?_ rfl ?_ ?_;(first|exact HB.Ac rfl|exact AP.Ag _ _|(simp [HB.under,AP.under,PV.under]));(first|exact Bg.refl _|exact Bg.vec (Bf.refl _) (by simp))));try rfl)
  ·have hp':P k=false:=by simpa using hp
   rw [hp'] at hC
   repeat' (first|apply Ad.AA|apply Ad.region|apply Ad.Au|apply Ad.Ai|apply AO.normal|apply AL.normal|apply Ad.skip|apply Af.nil|apply Af.one|(apply Aa.read [0,1,2,3] hC;rfl;rfl;exact .of_eq rfl;exact AP.Ac rfl;exact DJ rfl;(repeat (first|exact trivial|refine ⟨⟨_,rfl,.of_eq rfl⟩,?_⟩));decide;(intro _ hb;simp at hb<;>omega);rfl)|(apply Aa.assign;rfl)|(apply Aa.move;rfl)|(apply Aa.Bq;rfl;rfl;omega)|(apply Aa.int;rfl;rfl;rfl)|(apply Aa.AV;rfl;rfl;rfl;omega;rfl)|(apply Aa.load;rfl;rfl)|(apply Ad.Ae;rfl)|(apply Ad.cond_false;rfl)|(intro _;try (exfalso;omega)))
   all_goals try (exfalso;omega)
   all_goals try contradiction
   refine Aw.normal ⟨((Xp hk hp').symm.trans hi),by first|omega|decide,?_,?_⟩
   ·repeat (first|exact Ak.nil|refine Ak.same (by exact PV.Ac rfl) rfl ?_|refine Ak.cons trivial rfl (.of_eq (Aq (by simp<;>omega))) ?_)
   ·repeat (first|exact Ah.nil|(refine Ah.cons (Aj rfl) ?_ rfl ?_ ?_;(first|exact HB.Ac rfl|exact AP.Ag _ _|(simp [HB.under,AP.under,PV.under]));(first|exact Bg.refl _|exact Bg.vec (Bf.refl _) (by simp))))
 ·intro hi
  have e1:ER P q.tgt.BF.length=-1:=by rw [← hi,Nat.sub_self];rfl
  rw [e1]
  repeat' (first|apply Ad.AA|apply Ad.AX|apply AO.normal|apply AL.exit|apply Aw.exit|apply Ad.ret|apply Af.nil|apply Af.one|(apply Aa.assign;rfl)|(apply Aa.int;rfl;rfl;rfl)|(apply Ad.Ae;rfl)|(intro _;try (exfalso;omega)))
  all_goals first|(exfalso;omega)|(refine Done.ret rfl (.refl _) trivial ?_ (by omega) (Nat.le_refl _) ⟨?_,rfl,rfl⟩;repeat (first|exact Ah.nil|(refine Ah.cons (Aj rfl) ?_ rfl ?_ ?_;(first|exact HB.Ac rfl|exact AP.Ag _ _|(simp [HB.under,AP.under,PV.under]));(first|exact Bg.refl _|exact Bg.vec (Bf.refl _) (by simp))));try rfl)
def Z9 (q:Iu) (i:Nat):Int:=ER (fun k=>X7 q.BG q.tgt (gi q.BG.BF i) (gi q.tgt.BF k)) q.tgt.BF.length
def FB (q:Iu):Nat→List Int
 |0=>[]
 |k+1=>if q.reg.cp / 2 ^ k % 2=1 then FB q k++[Z9 q k] else FB q k
def DN (q:Iu):List Int:=FB q q.BG.BF.length
theorem JM (q:Iu):∀ k,(FB q k).length≤k
 |0=>Nat.le_refl _
 |k+1=>by
  have:=JM q k
  unfold FB
  split
  ·simp only [List.length_append,List.length_cons,List.length_nil];omega
  ·omega
theorem sV (q:Iu) (i:Nat):-1≤Z9 q i∧Z9 q i<q.tgt.BF.length:=OA _ _ _ (Nat.le_refl _)
theorem QL (q:Iu):∀ k j,j<(FB q k).length→-1≤gi (FB q k) j∧gi (FB q k) j<q.tgt.BF.length
 |0,j,h=>by simp [FB] at h
 |k+1,j,h=>by
  have ih:=QL q k j
  unfold FB at h ⊢
  split
  ·rename_i h1
   rw [if_pos h1] at h
   simp only [List.length_append,List.length_cons,List.length_nil] at h
   rw [QN]
   split
   ·rename_i h2;exact ih h2
   ·rw [if_pos (by omega)];exact sV q k
  ·rename_i h1
   rw [if_neg h1] at h
   exact ih h
theorem Pv (q:Iu) (h1:Gi q.BG) (h2:Gi q.tgt) (hr:q.reg.Ok):AY env 63 [.agg (Enc.enc q)] (.p (.lst 3 (cells (DN q)) (DN q).length)):=by
 have b1:=h1.BF
 have b2:=h2.BF
 have b3:=h1.Ap
 have b4:=hr.cp
 unfold DN
 refine AY.enter (AB (by decide)) Tryz.func63 rfl (by kernel_rfl) (by simp [Tryz.ntmps63]) ?_
 repeat' (first|apply Ad.assoc|apply Ad.AA|apply Ad.Ai|apply Af.nil|apply Af.one|(apply Aa.assign;rfl)|(apply Aa.move;rfl)|(apply Aa.load;rfl;rfl)|(apply Aa.BH;rfl;rfl)|(apply Aa.AQ;rfl;rfl;rfl)|(apply Aa.box;rfl;trivial))
 all_goals try (exfalso;omega)
 refine Ad.ghost (A8.adopt 3 3 rfl) ?_
 apply Ad.Ed (q.BG.BF.length) [(1,_),(10,_),(11,_)] [(0,_)] (fun k r=>(3,.vec 1 (FB q k).length 0 (FB q k).length)::(12,.p (.int .i64 (k:Int)))::r) (fun k r=>(1,.vec 3 (cells (FB q k)) (FB q k).length true)::r) 2
 ·first|omega|decide
 ·first|omega|decide
 ·repeat (first|exact Ak.nil|(refine Ak.eq rfl ?_ ?_;(first|exact PV.Ac rfl|(simp [PV.under,AP.under];done)))|refine Ak.cons trivial rfl (.of_eq (Aq (by simp<;>omega))) ?_)
 ·repeat (first|exact Ah.nil|(refine Ah.eq rfl (Aj rfl) ?_ ?_;(first|exact HB.Ac rfl|exact AP.Ag _ _|(simp [HB.under,AP.under,PV.under];done)))|(refine Ah.cons (Aj rfl) ?_ rfl ?_ ?_;(first|exact trivial|exact AP.Ag _ _|(simp [HB.under,AP.under,PV.under]));(first|exact Bg.refl _|exact Bg.vec (Bf.refl _) (by simp))))
 ·intro k hk
  obtain ⟨c1,c2,c3,c4⟩:=h1.a0w hk
  have e3:=JM q k
  have hq:q.reg.cp / 2 ^ k<18446744073709551616:=Nat.lt_of_le_of_lt (Nat.div_le_self _ _) b4
  have hm2:=Nat.mod_lt (q.reg.cp / 2 ^ k) (show 0<2 by decide)
  by_cases hb:q.reg.cp / 2 ^ k % 2=1
  ·have e1:FB q (k+1)=FB q k++[Z9 q k]:=by rw [FB,if_pos hb]
   have e2:(FB q (k+1)).length=(FB q k).length+1:=by rw [e1];simp
   have hix:=a5l q (gi q.BG.BF k) _ _ rfl rfl h2
   rw [show ER (fun j=>X7 q.BG q.tgt (gi q.BG.BF k) (gi q.tgt.BF j)) q.tgt.BF.length=Z9 q k from rfl] at hix
   obtain ⟨cf,hcf⟩:∃ n:Nat,(gi q.BG.BF k).BG=n:=⟨(gi q.BG.BF k).BG.toNat,by omega⟩
   obtain ⟨ct,hct⟩:∃ n:Nat,(gi q.BG.BF k).tgt=n:=⟨(gi q.BG.BF k).tgt.toNat,by omega⟩
   rw [hcf,hct,Int.toNat_natCast,Int.toNat_natCast] at hix
   repeat' (first|(refine Ar.atIdx 18 ?_;apply Ar.weak [.tmp 33,.tmp 35,.tmp 38];decide +kernel;rfl;rfl;(first|exact QD.ref rfl|exact QD.vec rfl|exact QD.Eo rfl);decide +kernel;rfl)|apply Ad.assoc|apply Ad.AA|apply Ad.BI|apply Ad.region|apply Ad.Au|apply Ad.Ai|apply AO.normal|apply AL.normal|apply Af.nil|apply Ar.nil|apply Af.one|(apply Ar.bar;decide +kernel)|apply Ar.quiet|(apply Aa.makeFunc;rfl;rfl)|(apply Aa.Dv (a:=Z9 q k);rfl;rfl;rfl;rfl;rfl;rfl;rfl;rfl;(intro _ h;cases h);rfl;rfl;rfl;decide;decide;(first|omega|(simp only [List.length_take,List.length_drop,List.length_append,List.length_singleton,List.length_cons,List.length_nil]<;>omega)))|(apply Aa.read [2,0,3,4] hix;rfl;rfl;exact .of_eq rfl;exact AP.Ac rfl;exact DJ rfl;(repeat (first|exact trivial|refine ⟨⟨_,rfl,.of_eq rfl⟩,?_⟩));decide;(intro _ hb;simp at hb<;>omega);rfl)|(apply Aa.AV (l:=q.BG.Ap) (i:=cf);rfl;(first|exact congrArg (fun a=>some (PV.p (.int .i64 a))) hcf|rfl);rfl;omega;rfl)|(apply Aa.AV (l:=q.BG.Ap) (i:=ct);rfl;(first|exact congrArg (fun a=>some (PV.p (.int .i64 a))) hct|rfl);rfl;omega;rfl)|(apply Aa.assign;rfl)|(apply Aa.move;rfl)|(apply Aa.Bq;rfl;rfl;omega)|(apply Aa.Q9;rfl;rfl;omega)|(apply Aa.int;rfl;rfl;rfl)|(apply Aa.AV;rfl;rfl;rfl;omega;rfl)|(apply Aa.load;rfl;rfl)|(apply Aa.AQ;rfl;rfl;rfl)|(apply Aa.DW;rfl;rfl)|(apply Aa.alloc;rfl)|(apply Aa.Bj;rfl;rfl;rfl;trivial;rfl;rfl;exact Aj rfl;exact le_dec rfl)|(apply Aa.buildSlice;rfl;rfl;rfl;decide;rfl;rfl;rfl)|(apply Aa.NU;rfl;rfl;(simp only [IntKind.bits];omega))|(apply Ad.Ae;rfl)|(intro _;try (exfalso;omega)))
   all_goals try (exfalso;omega)
   refine Aw.normal ⟨by omega,?_,?_⟩
   ·rw [e2]
    repeat (first|exact Ak.nil|refine Ak.same (by exact PV.Ac rfl) rfl ?_|refine Ak.cons trivial rfl (.of_eq (Aq (by simp<;>omega))) ?_)
   ·rw [e2,e1]
    repeat (first|exact Ah.nil|(refine Ah.cons (Aj rfl) ?_ rfl ?_ ?_;(first|exact HB.Ac rfl|exact AP.Ag _ _|(simp [HB.under,AP.under,PV.under]));(first|exact Bg.refl _|exact Bg.vec (Bf.refl _) (by simp))))
  ·have e1:FB q (k+1)=FB q k:=by rw [FB,if_neg hb]
   repeat' (first|apply Ad.assoc|apply Ad.AA|apply Ad.region|apply Ad.Au|apply Ad.AX|apply Ad.Ai|apply AO.normal|apply AL.exit|apply Af.nil|apply Af.one|(apply Aa.assign;rfl)|(apply Aa.move;rfl)|(apply Aa.Bq;rfl;rfl;omega)|(apply Aa.Q9;rfl;rfl;omega)|(apply Aa.int;rfl;rfl;rfl)|(apply Aa.AV;rfl;rfl;rfl;omega;rfl)|(apply Aa.load;rfl;rfl)|(apply Aa.AQ;rfl;rfl;rfl)|(apply Aa.alloc;rfl)|(apply Aa.Bj;rfl;rfl;rfl;trivial;rfl;rfl;exact Aj rfl;exact le_dec rfl)|(apply Aa.NU;rfl;rfl;(simp only [IntKind.bits];omega))|(apply Ad.Ae;rfl)|(intro _;try (exfalso;omega)))
   all_goals try (exfalso;omega)
   refine Aw.normal ⟨by omega,?_,?_⟩
   ·rw [e1]
    repeat (first|exact Ak.nil|refine Ak.same (by exact PV.Ac rfl) rfl ?_|refine Ak.cons trivial rfl (.of_eq (Aq (by simp<;>omega))) ?_)
   ·rw [e1]
    repeat (first|exact Ah.nil|(refine Ah.cons (Aj rfl) ?_ rfl ?_ ?_;(first|exact HB.Ac rfl|exact AP.Ag _ _|(simp [HB.under,AP.under,PV.under]));(first|exact Bg.refl _|exact Bg.vec (Bf.refl _) (by simp))))
 ·have e3:=JM q q.BG.BF.length
  repeat' (first|(refine Af.IU 2 ?_;refine Af.ghost (A8.freeze 49 rfl rfl) ?_)|apply Ad.AA|apply Ad.AX|apply AO.normal|apply AL.exit|apply Aw.exit|apply Ad.ret|apply Af.nil|apply Af.one|(apply Aa.assign;rfl)|(apply Aa.move;rfl)|(apply Aa.int;rfl;rfl;rfl)|(apply Ad.Ae;rfl)|(intro _;try (exfalso;omega)))
  all_goals first|(exfalso;omega)|(refine Done.ret rfl (.refl _) (by exact PV.Ac rfl) Ah.nil (Nat.zero_le _) (Nat.le_refl _) ⟨?_,rfl,rfl⟩;try rfl)
end Go.Proofs.YtdabojnmoejilaaGreatDoor
namespace Go.Proofs.YtdabojnmoejilaaGreatDoor
open Go Go.Am Go.Vm Go.Tra Go.Hun
attribute [local irreducible] Aa Af Ar Ad BA AY CG AO AL Aw Vm.Done CW Bl
attribute [local irreducible] DR Dw Io Jd Nh BU
theorem XQ (e:TypeId) (l:List Int) (n:Int) (hl:l.length<1000000):AY env 93 [.lst e (cells l) l.length,.int .i64 n] (.p (.int .i64 (ER (fun k=>decide (gi l k=n)) l.length))):=by
 obtain ⟨P,hP⟩:∃ P:Nat→Bool,P=fun k=>decide (gi l k=n):=⟨_,rfl⟩
 have hP1:∀ k,n=gi l k→P k=true:=fun k h=>by rw [hP];exact decide_eq_true h.symm
 have hP2:∀ k,¬ n=gi l k→P k=false:=fun k h=>by rw [hP];exact decide_eq_false (fun e=>h e.symm)
 rw [← hP]
 clear hP
 refine AY.enter (AB (by decide)) Tryz.func93 rfl (by kernel_rfl) (by simp [Tryz.ntmps93]) ?_
 repeat' (first|apply Ad.assoc|apply Ad.AA|apply Ad.Ai|apply Af.nil|apply Af.one|(apply Aa.assign;rfl)|(apply Aa.move;rfl)|(apply Aa.BH;rfl;rfl))
 all_goals try (exfalso;omega)
 apply Ad.FK (l.length) (fun k=>PS P l.length (l.length-k)=ER P l.length) [(0,_),(1,_),(7,_)] [] (fun k r=>(8,.p (.int .i64 (k:Int)))::r) (fun k r=>r) 0
 ·first|omega|decide
 ·first|omega|decide
 ·repeat (first|exact Ak.nil|(refine Ak.eq rfl ?_ ?_;(first|exact PV.Ac rfl|(simp [PV.under,AP.under];done)))|refine Ak.cons trivial rfl (.of_eq (Aq (by simp<;>omega))) ?_)
 ·repeat (first|exact Ah.nil|(refine Ah.eq rfl (Aj rfl) ?_ ?_;(first|exact HB.Ac rfl|exact AP.Ag _ _|(simp [HB.under,AP.under,PV.under];done)))|(refine Ah.cons (Aj rfl) ?_ rfl ?_ ?_;(first|exact trivial|exact AP.Ag _ _|(simp [HB.under,AP.under,PV.under]));(first|exact Bg.refl _|exact Bg.vec (Bf.refl _) (by simp))))
 ·first|(intro _ _;omega)|omega|trivial
 ·intro k hk hi
  by_cases hp:n=gi l k
  ·have e1:ER P l.length=(k:Int):=by rw [← hi,ZK hk (hP1 k hp)]
   rw [e1]
   repeat' (first|apply Ad.AA|apply Ad.Au|apply Ad.Ai|apply AO.ret|apply AL.ret|apply Aw.ret|apply Ad.ret|apply Af.nil|apply Af.one|(apply Aa.assign;rfl)|(apply Aa.move;rfl)|(apply Aa.int;rfl;rfl;rfl)|(apply Aa.AV;rfl;rfl;rfl;omega;rfl)|(apply Aa.load;rfl;rfl)|(apply Ad.Ae;rfl)|(apply Ad.AZ;rfl)|(intro _;try (exfalso;omega)))
   all_goals first|(exfalso;omega)|contradiction|(refine Done.ret rfl (.refl _) (by exact PV.Ac rfl) Ah.nil (Nat.zero_le _) (Nat.le_refl _) ⟨?_,rfl,rfl⟩;try rfl)
  ·repeat' (first|apply Ad.AA|apply Ad.region|apply Ad.Au|apply Ad.Ai|apply AO.normal|apply AL.normal|apply Ad.skip|apply Af.nil|apply Af.one|(apply Aa.assign;rfl)|(apply Aa.move;rfl)|(apply Aa.Bq;rfl;rfl;omega)|(apply Aa.int;rfl;rfl;rfl)|(apply Aa.AV;rfl;rfl;rfl;omega;rfl)|(apply Aa.load;rfl;rfl)|(apply Ad.Ae;rfl)|(apply Ad.AZ;rfl)|(intro _;try (exfalso;omega)))
   all_goals try (exfalso;omega)
   all_goals try contradiction
   refine Aw.normal ⟨((Xp hk (hP2 k hp)).symm.trans hi),by first|omega|decide,?_,?_⟩
   ·repeat (first|exact Ak.nil|refine Ak.same (by exact PV.Ac rfl) rfl ?_|refine Ak.cons trivial rfl (.of_eq (Aq (by simp<;>omega))) ?_)
   ·repeat (first|exact Ah.nil|(refine Ah.cons (Aj rfl) ?_ rfl ?_ ?_;(first|exact HB.Ac rfl|exact AP.Ag _ _|(simp [HB.under,AP.under,PV.under]));(first|exact Bg.refl _|exact Bg.vec (Bf.refl _) (by simp))))
 ·intro hi
  have e1:ER P l.length=-1:=by rw [← hi,Nat.sub_self];rfl
  rw [e1]
  repeat' (first|apply Ad.AA|apply Ad.AX|apply AO.normal|apply AL.exit|apply Aw.exit|apply Ad.ret|apply Af.nil|apply Af.one|(apply Aa.assign;rfl)|(apply Aa.int;rfl;rfl;rfl)|(apply Ad.Ae;rfl)|(intro _;try (exfalso;omega)))
  all_goals first|(exfalso;omega)|(refine Done.ret rfl (.refl _) (by exact PV.Ac rfl) Ah.nil (Nat.zero_le _) (Nat.le_refl _) ⟨?_,rfl,rfl⟩;try rfl)
theorem oW (l:List Int) (n:Int):0≤ER (fun k=>decide (gi l k=n)) l.length↔n∈l:=by
 constructor
 ·intro h
  have h:0≤PS (fun k=>decide (gi l k=n)) l.length l.length:=h
  have h1:=XF l.length (Nat.le_refl _) h
  have h2:=(OA (fun k=>decide (gi l k=n)) l.length l.length (Nat.le_refl _)).2
  have h3:=of_decide_eq_true h1
  rw [← h3]
  exact Zm (by omega)
 ·intro h
  obtain ⟨k,hk,e⟩:=a3j h
  exact XL (P:=fun k=>decide (gi l k=n)) (decide_eq_true e) l.length (Nat.le_refl _) (by omega) hk
theorem TQ (e:TypeId) (l:List Int) (n:Int) (hl:l.length<1000000):AY env 62 [.lst e (cells l) l.length,.int .i64 n] (.p (.bool (decide (n∈l)))):=by
 have hi:=XQ e l n hl
 have hm:=oW l n
 have hr:=OA (fun k=>decide (gi l k=n)) l.length l.length (Nat.le_refl _)
 rw [show PS (fun k=>decide (gi l k=n)) l.length l.length=ER (fun k=>decide (gi l k=n)) l.length from rfl] at hr
 generalize ER (fun k=>decide (gi l k=n)) l.length=f at *
 by_cases h:n∈l
 ·rw [decide_eq_true h]
  have h0:=hm.2 h
  refine AY.enter (AB (by decide)) Tryz.func62 rfl (by kernel_rfl) (by simp [Tryz.ntmps62]) ?_
  repeat' (first|apply Ad.AA|apply Ad.ret|apply Af.nil|apply Af.one|(apply Aa.fn;rfl;rfl;exact hi;intro _;rfl)|(apply Aa.assign;rfl)|(apply Aa.move;rfl)|(apply Aa.int;rfl;rfl;rfl))
  all_goals first|(exfalso;omega)|(refine Done.ret rfl (.refl _) (by exact PV.Ac rfl) Ah.nil (Nat.zero_le _) (Nat.le_refl _) ⟨?_,rfl,rfl⟩;refine PV.Jk ?_;simp;omega)
 ·rw [decide_eq_false h]
  have h0:¬ 0≤f:=fun h'=>h (hm.1 h')
  refine AY.enter (AB (by decide)) Tryz.func62 rfl (by kernel_rfl) (by simp [Tryz.ntmps62]) ?_
  repeat' (first|apply Ad.AA|apply Ad.ret|apply Af.nil|apply Af.one|(apply Aa.fn;rfl;rfl;exact hi;intro _;rfl)|(apply Aa.assign;rfl)|(apply Aa.move;rfl)|(apply Aa.int;rfl;rfl;rfl))
  all_goals first|(exfalso;omega)|(refine Done.ret rfl (.refl _) (by exact PV.Ac rfl) Ah.nil (Nat.zero_le _) (Nat.le_refl _) ⟨?_,rfl,rfl⟩;refine PV.Jk ?_;simp;omega)
theorem qh (d y:VB):J5 env 65 ([.p (.agg (Enc.enc y))]++[.ref 0 0]) [(0,.box 97 ((Enc.enc d).map .p))] 1 (.bool (decide (y.name=d.name))):=by
 obtain ⟨b,hb⟩:∃ b,decide (y.name=d.name)=b:=⟨_,rfl⟩
 rw [hb]
 refine J5.enter (AB (by decide)) Tryz.func65 rfl (by kernel_rfl) (by simp [Tryz.ntmps65]) ?_
 repeat' (first|apply Ad.AA|apply Ad.ret|apply Af.nil|apply Af.one|(apply Aa.dM;rfl;rfl;exact hb)|(apply Aa.assign;rfl)|(apply Aa.load;rfl;rfl)|(apply Aa.AQ;rfl;rfl;rfl)|(apply Aa.box;rfl;trivial))
 all_goals first|(exfalso;omega)|contradiction|(refine Done.ret rfl (.refl _) trivial ?_ (by omega) (Nat.le_refl _) ⟨?_,rfl,rfl⟩;repeat (first|exact Ah.nil|(refine Ah.cons (Aj rfl) ?_ rfl ?_ ?_;(first|exact HB.Ac rfl|exact AP.Ag _ _|(simp [HB.under,AP.under,PV.under]));(first|exact Bg.refl _|exact Bg.vec (Bf.refl _) (by simp))));try rfl)
theorem a6i (l:List VB) (d:VB) (hl:l.length<1000000) :
 J5 env 64 [.p (.lst 97 (cells l) l.length),.clo 65 [] [.ref 0 0]] [(0,.box 97 ((Enc.enc d).map .p))] 1
  (.int .i64 (ER (fun k=>decide ((gi l k).name=d.name)) l.length)):=by
 obtain ⟨P,hP⟩:∃ P:Nat→Bool,P=fun k=>decide ((gi l k).name=d.name):=⟨_,rfl⟩
 have hM:∀ k,J5 env 65 ([.p (.agg (Enc.enc (gi l k)))]++[.ref 0 0]) [(0,.box 97 ((Enc.enc d).map .p))] 1 (.bool (P k)):=fun k=>by rw [hP];exact qh d (gi l k)
 rw [← hP]
 clear hP
 refine J5.enter (AB (by decide)) Tryz.func64 rfl (by kernel_rfl) (by simp [Tryz.ntmps64]) ?_
 repeat' (first|apply Ad.assoc|apply Ad.AA|apply Ad.Ai|apply Af.nil|apply Af.one|(apply Aa.assign;rfl)|(apply Aa.move;rfl)|(apply Aa.BH;rfl;rfl))
 all_goals try (exfalso;omega)
 apply Ad.FK (l.length) (fun k=>PS P l.length (l.length-k)=ER P l.length) [(0,_),(1,_),(7,_)] [(0,_)] (fun k r=>(8,.p (.int .i64 (k:Int)))::r) (fun k r=>r) 1
 ·first|omega|decide
 ·first|omega|decide
 ·repeat (first|exact Ak.nil|(refine Ak.eq rfl ?_ ?_;(first|exact PV.Ac rfl|(simp [PV.under,AP.under];done)))|refine Ak.cons trivial rfl (.of_eq (Aq (by simp<;>omega))) ?_)
 ·repeat (first|exact Ah.nil|(refine Ah.eq rfl (Aj rfl) ?_ ?_;(first|exact HB.Ac rfl|exact AP.Ag _ _|(simp [HB.under,AP.under,PV.under];done)))|(refine Ah.cons (Aj rfl) ?_ rfl ?_ ?_;(first|exact trivial|exact AP.Ag _ _|(simp [HB.under,AP.under,PV.under]));(first|exact Bg.refl _|exact Bg.vec (Bf.refl _) (by simp))))
 ·first|(intro _ _;omega)|omega|trivial
 ·intro k hk hi
  have hC:=hM k
  by_cases hp:P k=true
  ·rw [hp] at hC
   have e1:ER P l.length=(k:Int):=by rw [← hi,ZK hk hp]
   rw [e1]
   repeat' (first|apply Ad.AA|apply Ad.Au|apply Ad.Ai|apply AO.ret|apply AL.ret|apply Aw.ret|apply Ad.ret|apply Af.nil|apply Af.one|(apply Aa.read [0] hC;rfl;rfl;exact .of_eq rfl;exact AP.Ac rfl;exact DJ rfl;(repeat (first|exact trivial|refine ⟨⟨_,rfl,.of_eq rfl⟩,?_⟩));decide;(intro _ hb;simp at hb<;>omega);rfl)|(apply Aa.assign;rfl)|(apply Aa.move;rfl)|(apply Aa.int;rfl;rfl;rfl)|(apply Aa.AV;rfl;rfl;rfl;omega;rfl)|(apply Aa.load;rfl;rfl)|(apply Ad.Ae;rfl)|(apply Ad.cond_true;rfl)|(intro _;try (exfalso;omega)))
   all_goals first|(exfalso;omega)|contradiction|(refine Done.ret rfl (.refl _) trivial ?_ (by omega) (Nat.le_refl _) ⟨?_,rfl,rfl⟩;repeat (first|exact Ah.nil|(refine Ah.cons (Aj rfl) ?_ rfl ?_ ?_;(first|exact HB.Ac rfl|exact AP.Ag _ _|(simp [HB.under,AP.under,PV.under]));(first|exact Bg.refl _|exact Bg.vec (Bf.refl _) (by simp))));try rfl)
  ·have hp':P k=false:=by simpa using hp
   rw [hp'] at hC
   repeat' (first|apply Ad.AA|apply Ad.region|apply Ad.Au|apply Ad.Ai|apply AO.normal|apply AL.normal|apply Ad.skip|apply Af.nil|apply Af.one|(apply Aa.read [0] hC;rfl;rfl;exact .of_eq rfl;exact AP.Ac rfl;exact DJ rfl;(repeat (first|exact trivial|refine ⟨⟨_,rfl,.of_eq rfl⟩,?_⟩));decide;(intro _ hb;simp at hb<;>omega);rfl)|(apply Aa.assign;rfl)|(apply Aa.move;rfl)|(apply Aa.Bq;rfl;rfl;omega)|(apply Aa.int;rfl;rfl;rfl)|(apply Aa.AV;rfl;rfl;rfl;omega;rfl)|(apply Aa.load;rfl;rfl)|(apply Ad.Ae;rfl)|(apply Ad.cond_false;rfl)|(intro _;try (exfalso;omega)))
   all_goals try (exfalso;omega)
   all_goals try contradiction
   refine Aw.normal ⟨((Xp hk hp').symm.trans hi),by first|omega|decide,?_,?_⟩
   ·repeat (first|exact Ak.nil|refine Ak.same (by exact PV.Ac rfl) rfl ?_|refine Ak.cons trivial rfl (.of_eq (Aq (by simp<;>omega))) ?_)
   ·repeat (first|exact Ah.nil|(refine Ah.cons (Aj rfl) ?_ rfl ?_ ?_;(first|exact HB.Ac rfl|exact AP.Ag _ _|(simp [HB.under,AP.under,PV.under]));(first|exact Bg.refl _|exact Bg.vec (Bf.refl _) (by simp))))
 ·intro hi
  have e1:ER P l.length=-1:=by rw [← hi,Nat.sub_self];rfl
  rw [e1]
  repeat' (first|apply Ad.AA|apply Ad.AX|apply AO.normal|apply AL.exit|apply Aw.exit|apply Ad.ret|apply Af.nil|apply Af.one|(apply Aa.assign;rfl)|(apply Aa.int;rfl;rfl;rfl)|(apply Ad.Ae;rfl)|(intro _;try (exfalso;omega)))
  all_goals first|(exfalso;omega)|(refine Done.ret rfl (.refl _) trivial ?_ (by omega) (Nat.le_refl _) ⟨?_,rfl,rfl⟩;repeat (first|exact Ah.nil|(refine Ah.cons (Aj rfl) ?_ rfl ?_ ?_;(first|exact HB.Ac rfl|exact AP.Ag _ _|(simp [HB.under,AP.under,PV.under]));(first|exact Bg.refl _|exact Bg.vec (Bf.refl _) (by simp))));try rfl)
end Go.Proofs.YtdabojnmoejilaaGreatDoor
