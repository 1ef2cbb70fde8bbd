/-
  Texts of a proof, merged (HunD, TraB, TraC, TraD, TraK, HunE, TraL, TraM, TraR, TraN, OrO, OrQ, TraS, TraT, RkQ, OrK, OrP, TraU). Conditions: in each statement.
-/
import Derived.Test.YtdabojnmoejilaaGreatDoorKLe
set_option linter.unusedSimpArgs false
set_option linter.unusedVariables false
set_option linter.unusedSectionVars false
set_option maxRecDepth 100000
set_option maxHeartbeats 8000000
namespace Go.Hun
open Go.Vm
def DF (f:Nat→Int):Nat→Int
 |0=>0
 |k+1=>DF f k+f k
theorem EK {f g:Nat→Int}:∀ {n:Nat},(∀ k,k<n→f k=g k)→DF f n=DF g n
 |0,_=>rfl
 |n+1,h=>by simp only [DF];rw [EK fun k hk=>h k (by omega),h n (by omega)]
theorem Oi {f g:Nat→Int}:∀ {n:Nat},(∀ k,k<n→f k≤g k)→DF f n≤DF g n
 |0,_=>Int.le_refl _
 |n+1,h=>by
  simp only [DF]
  have:=Oi (f:=f) (g:=g) (n:=n) fun k hk=>h k (by omega)
  have:=h n (by omega)
  omega
theorem WX (f g:Nat→Int):∀ n,DF (fun k=>f k+g k) n=DF f n+DF g n
 |0=>rfl
 |n+1=>by simp only [DF];rw [WX f g n];omega
theorem Yi {f:Nat→Int}:∀ {n:Nat},(∀ k,k<n→f k=0)→DF f n=0
 |0,_=>rfl
 |n+1,h=>by simp only [DF];rw [Yi fun k hk=>h k (by omega),h n (by omega)];rfl
theorem LX (c:Int):∀ n:Nat,DF (fun _=>c) n=n*c
 |0=>by simp [DF]
 |n+1=>by
  simp only [DF];rw [LX c n]
  push_cast
  rw [Int.add_mul,Int.one_mul]
theorem gI {f:Nat→Int} {a b:Int}:∀ {n:Nat},(∀ k,k<n→a≤f k∧f k≤b)→n*a≤DF f n∧DF f n≤n*b:=fun {n} h=>by
 have h1:=Oi (f:=fun _=>a) (g:=f) (n:=n) fun k hk=>(h k hk).1
 have h2:=Oi (f:=f) (g:=fun _=>b) (n:=n) fun k hk=>(h k hk).2
 rw [LX] at h1 h2
 exact ⟨h1,h2⟩
theorem Sr {f:Nat→Int} {j:Nat}:∀ {n:Nat},j<n→DF f n=f j+DF (fun k=>if k=j then 0 else f k) n
 |n+1,h=>by
  simp only [DF]
  by_cases e:j=n
  ·subst e
   rw [if_pos rfl,EK (f:=fun k=>if k=j then 0 else f k) (g:=f) fun k hk=>if_neg (by omega)]
   omega
  ·rw [if_neg (fun x=>e x.symm),Sr (f:=f) (j:=j) (n:=n) (by omega)]
   omega
theorem Zk:∀ (n m:Nat) (κ:Nat→Nat) (f:Nat→Int),(∀ r,r<n→κ r<m)→(∀ r q,r<n→q<n→κ r=κ q→r=q)→(∀ k,k<m→(∀ r,r<n→κ r≠k)→f k=0)→DF f m=DF (fun r=>f (κ r)) n
 |0,m,κ,f,h1,h2,h3=>Yi fun k hk=>h3 k hk fun r hr=>by omega
 |n+1,m,κ,f,h1,h2,h3=>by
  rw [Sr (h1 n (by omega))]
  have ih:=Zk n m κ (fun k=>if k=κ n then 0 else f k) (fun r hr=>h1 r (by omega)) (fun r q hr hq=>h2 r q (by omega) (by omega)) fun k hk hn=>by
   by_cases e:k=κ n
   ·simp only [if_pos e]
   ·simp only [if_neg e]
    refine h3 k hk fun r hr=>?_
    rcases Nat.lt_or_ge r n with h|h
    ·exact hn r h
    ·obtain rfl:r=n:=by omega
     exact fun x=>e x.symm
  rw [ih]
  simp only [DF]
  rw [EK (n:=n) (f:=fun r=>if κ r=κ n then 0 else f (κ r)) (g:=fun r=>f (κ r)) fun r hr=>if_neg fun e=>by have:=h2 r n (by omega) (by omega) e;omega]
  omega
theorem VG:∀ (n m:Nat) (κ:Nat→Nat) (f:Nat→Int),(∀ r q,r<n→q<n→κ r<m→κ r=κ q→r=q)→(∀ k,k<m→f k≤0)→DF f m≤DF (fun r=>if κ r<m then f (κ r) else 0) n
 |0,m,κ,f,h2,h3=>by
  have:=Oi (f:=f) (g:=fun _=>0) (n:=m) h3
  rw [LX] at this
  simp only [DF];omega
 |n+1,m,κ,f,h2,h3=>by
  simp only [DF]
  by_cases hk:κ n<m
  ·rw [if_pos hk,Sr hk]
   have ih:=VG n m κ (fun k=>if k=κ n then 0 else f k) (fun r q hr hq=>h2 r q (by omega) (by omega)) fun k hk=>by
    by_cases e:k=κ n
    ·simp only [if_pos e];omega
    ·simp only [if_neg e];exact h3 k hk
   have e2:DF (fun r=>if κ r<m then (if κ r=κ n then 0 else f (κ r)) else 0) n=DF (fun r=>if κ r<m then f (κ r) else 0) n:=EK fun r hr=>by
    by_cases h:κ r<m
    ·rw [if_pos h,if_pos h,if_neg fun e=>by have:=h2 r n (by omega) (by omega) h e;omega]
    ·rw [if_neg h,if_neg h]
   rw [e2] at ih
   omega
  ·rw [if_neg hk]
   have ih:=VG n m κ f (fun r q hr hq=>h2 r q (by omega) (by omega)) h3
   omega
section
variable {costs:List (List Int)} {n m:Nat} {B:Int}
structure a6y (costs:List (List Int)) (n:Nat) (o:List Ix) (j:Nat) (x:Out):Prop where
 len:x.cols.length=n
 cols:∀ k,1≤k→k≤j→0<own o k→gi x.cols (own o k-1)=(k:Int)-1
 total:x.total=DF (fun k=>if 0<own o (k+1) then cst costs (own o (k+1)) (k+1) else 0) j
theorem V8 {s:fG} (h:pU costs n m n s):∀ j,j≤m→a6y costs n s.owner j (KF costs s.owner n j)
 |0,_=>⟨by simp [KF],fun k k1 k2=>by omega,rfl⟩
 |j+1,hj=>by
  obtain ⟨i1,i2,i3⟩:=V8 h j (by omega)
  have e:KF costs s.owner n (j+1)=oZ costs s.owner (KF costs s.owner n j) (j+1):=rfl
  rw [e]
  generalize KF costs s.owner n j=x at *
  unfold oZ
  have e2:(gi s.owner (j+1)).n=own s.owner (j+1):=rfl
  simp only [e2]
  by_cases hp:0<own s.owner (j+1)
  ·rw [if_pos hp]
   have hle:=h.own (j+1) (by omega) hj
   refine ⟨by simp [i1],fun k k1 k2 k3=>?_,?_⟩
   ·show gi (x.cols.set (own s.owner (j+1)-1) (((j+1:Nat):Int)-1)) _=_
    rw [gs (by omega)]
    by_cases e:k=j+1
    ·subst e;rw [if_pos rfl]
    ·rw [if_neg,i2 k k1 (by omega) k3]
     intro e3
     have:=h.inj k (j+1) k1 (by omega) (by omega) hj (by omega) (by omega)
     omega
   ·simp only [DF]
    rw [if_pos hp,i3]
    unfold cst
    rfl
  ·rw [if_neg hp]
   refine ⟨i1,fun k k1 k2 k3=>?_,?_⟩
   ·by_cases e:k=j+1
    ·subst e;exact absurd k3 hp
    ·exact i2 k k1 (by omega) k3
   ·simp only [DF]
    rw [if_neg hp,i3];omega
def Gs (costs:List (List Int)) (n m:Nat):Out:=KF costs (C9 costs n m n).owner n m
def JD (costs:List (List Int)) (n m:Nat):List Int:=(C9 costs n m n).u.drop 1
def GY (costs:List (List Int)) (n m:Nat):List Int:=(C9 costs n m n).v.drop 1
theorem jY {α:Type} [Inhabited α] (l:List α) (j k:Nat):gi (l.drop j) k=gi l (j+k):=by
 unfold gi;rw [List.getElem?_drop]
structure a0y (c:Nat→Nat→Int) (n m:Nat) (B:Int) (x:Out) (U V:List Int):Prop where
 len:x.cols.length=n
 lU:U.length=n
 lV:V.length=m
 col:∀ r,r<n→0≤gi x.cols r∧gi x.cols r<m
 inj:∀ r q,r<n→q<n→gi x.cols r=gi x.cols q→r=q
 total:x.total=DF (fun r=>c r (gi x.cols r).toNat) n
 VP:∀ r k,r<n→k<m→gi U r+gi V k≤c r k
 neg:∀ k,k<m→-B≤gi V k∧gi V k≤0
 pos:∀ r,r<n→0≤gi U r∧gi U r≤B
 a1p:x.total=DF (fun r=>gi U r) n+DF (fun k=>gi V k) m
 free:∀ k,k<m→(∀ r,r<n→gi x.cols r≠k)→gi V k=0
theorem VN (hc:Ii costs n m B):a0y (fun r k=>gi (gi costs r) k) n m B (Gs costs n m) (JD costs n m) (GY costs n m):=by
 have h:=NH hc n (Nat.le_refl _)
 have hO:=V8 h m (Nat.le_refl _)
 have e1:KF costs (C9 costs n m n).owner n m=Gs costs n m:=rfl
 have e2:(C9 costs n m n).u.drop 1=JD costs n m:=rfl
 have e3:(C9 costs n m n).v.drop 1=GY costs n m:=rfl
 rw [e1] at hO
 have hu:∀ r,gi (JD costs n m) r=gi (C9 costs n m n).u (r+1):=fun r=>by rw [← e2,jY,Nat.add_comm]
 have hv:∀ k,gi (GY costs n m) k=gi (C9 costs n m n).v (k+1):=fun k=>by rw [← e3,jY,Nat.add_comm]
 have lU:(JD costs n m).length=n:=by rw [← e2,List.length_drop,h.lu];omega
 have lV:(GY costs n m).length=m:=by rw [← e3,List.length_drop,h.lv];omega
 generalize JD costs n m=U at *
 generalize GY costs n m=V at *
 generalize Gs costs n m=x at *
 generalize C9 costs n m n=s at *
 have hb:=hc.big
 have hnm:=hc.nm
 have Xn:∀ r,r<n→∃ k,1≤k∧k≤m∧own s.owner k=r+1∧gi x.cols r=(k:Int)-1:=fun r hr=>by
  obtain ⟨k,k1,k2,k3⟩:=h.all (r+1) (by omega) (by omega)
  have:=hO.cols k k1 k2 (by omega)
  rw [k3,Nat.add_sub_cancel] at this
  exact ⟨k,k1,k2,k3,this⟩
 have hown:∀ r,r<n→own s.owner ((gi x.cols r).toNat+1)=r+1∧(gi x.cols r).toNat<m:=fun r hr=>by
  obtain ⟨k,k1,k2,k3,k4⟩:=Xn r hr
  have:(gi x.cols r).toNat+1=k:=by omega
  rw [this];exact ⟨k3,by omega⟩
 have hinj:∀ r q,r<n→q<n→(gi x.cols r).toNat=(gi x.cols q).toNat→r=q:=fun r q hr hq e=>by
  have h1:=(hown r hr).1
  have h2:=(hown q hq).1
  rw [e] at h1;omega
 have hfree:∀ k,k<m→(∀ r,r<n→(gi x.cols r).toNat≠k)→own s.owner (k+1)=0:=fun k hk hn=>by
  rcases Nat.eq_zero_or_pos (own s.owner (k+1)) with e|e
  ·exact e
  ·have hle:=h.own (k+1) (by omega) (by omega)
   have:=hO.cols (k+1) (by omega) (by omega) e
   exact absurd (by omega) (hn (own s.owner (k+1)-1) (by omega))
 have ht:x.total=DF (fun r=>gi (gi costs r) (gi x.cols r).toNat) n:=by
  rw [hO.total,Zk n m (fun r=>(gi x.cols r).toNat) _ (fun r hr=>(hown r hr).2) hinj fun k hk hn=>by
   rw [if_neg (by rw [hfree k hk hn];omega)]]
  refine EK fun r hr=>?_
  rw [(hown r hr).1,if_pos (by omega)]
  unfold cst
  rw [Nat.add_sub_cancel,Nat.add_sub_cancel]
 have hfe:∀ r k,r<n→k<m→gi U r+gi V k≤gi (gi costs r) k:=fun r k hr hk=>by
  rw [hu,hv]
  have:=h.VP (r+1) (k+1) (by omega) (by omega) (by omega) (by omega)
  unfold cst at this
  rwa [Nat.add_sub_cancel,Nat.add_sub_cancel] at this
 have hng:∀ k,k<m→gi V k≤0:=fun k hk=>by rw [hv];exact h.dV (k+1) (by omega) (by omega)
 have hps:∀ r,r<n→0≤gi U r:=fun r hr=>by rw [hu];exact h.Ut (r+1) (by omega) (by omega)
 have hf:∃ k,k<m∧own s.owner (k+1)=0:=by
  refine Classical.byContradiction fun hn=>?_
  have hn:∀ k,k<m→own s.owner (k+1)≠0:=fun k h1 h3=>hn ⟨k,h1,h3⟩
  have:=VA n m (fun k=>own s.owner (k+1)-1) (fun k hk=>by
   have h1:=hn k hk
   have h2:=h.own (k+1) (by omega) (by omega)
   show own s.owner (k+1)-1<n
   omega) (fun k e hk he hf=>by
   have h1:=hn k hk
   have h2:=hn e he
   have hf:own s.owner (k+1)-1=own s.owner (e+1)-1:=hf
   have:=h.inj (k+1) (e+1) (by omega) (by omega) (by omega) (by omega) (by omega) h1
   omega)
  omega
 obtain ⟨f,f1,f2⟩:=hf
 have fv:gi V f=0:=by rw [hv];exact h.OJ (f+1) (by omega) (by omega) f2
 have hub:∀ r,r<n→gi U r≤B:=fun r hr=>by
  have h1:=hfe r f hr f1
  have h2:=hc.hi (r+1) (f+1)
  unfold cst at h2
  rw [Nat.add_sub_cancel,Nat.add_sub_cancel] at h2
  omega
 have a1e:∀ r,r<n→gi U r+gi V (gi x.cols r).toNat=gi (gi costs r) (gi x.cols r).toNat:=fun r hr=>by
  obtain ⟨h1,h2⟩:=hown r hr
  have:=h.tight ((gi x.cols r).toNat+1) (by omega) (by omega) (by omega)
  rw [h1] at this
  rw [hu,hv]
  unfold cst at this
  rwa [Nat.add_sub_cancel,Nat.add_sub_cancel] at this
 have hV0:∀ k,k<m→(∀ r,r<n→(gi x.cols r).toNat≠k)→gi V k=0:=fun k hk hn=>by
  rw [hv];exact h.OJ (k+1) (by omega) (by omega) (hfree k hk hn)
 refine ⟨hO.len,lU,lV,fun r hr=>?_,fun r q hr hq e=>hinj r q hr hq (by rw [e]),ht,hfe,fun k hk=>⟨?_,hng k hk⟩,fun r hr=>⟨hps r hr,hub r hr⟩,?_,fun k hk hn=>hV0 k hk fun r hr e=>hn r hr (by obtain ⟨j,j1,j2,j3,j4⟩:=Xn r hr;omega)⟩
 ·obtain ⟨k,k1,k2,k3,k4⟩:=Xn r hr
  omega
 ·by_cases e:own s.owner (k+1)=0
  ·rw [hv,h.OJ (k+1) (by omega) (by omega) e];omega
  ·have hle:=h.own (k+1) (by omega) (by omega)
   have h1:=h.tight (k+1) (by omega) (by omega) e
   have h2:=hub (own s.owner (k+1)-1) (by omega)
   rw [hu] at h2
   have h3:own s.owner (k+1)-1+1=own s.owner (k+1):=by omega
   rw [h3] at h2
   have h4:=hc.lo (own s.owner (k+1)) (k+1)
   rw [hv];omega
 ·rw [ht,EK (fun r hr=>(a1e r hr).symm),WX]
  congr 1
  rw [Zk n m (fun r=>(gi x.cols r).toNat) (fun k=>gi V k) (fun r hr=>(hown r hr).2) hinj hV0]
end
def ZX (l:List (List Int)) (skip:Int) (cols:Nat→Int) (r:Nat):Int:=if cols r<0 then skip else gi (gi l r) (cols r).toNat
structure kE (n m:Nat) (cols:Nat→Int):Prop where
 rng:∀ r,r<n→-1≤cols r∧cols r<m
 inj:∀ r q,r<n→q<n→0≤cols r→cols r=cols q→r=q
structure a0o (l:List (List Int)) (n m:Nat) (skip:Int) (U V:Nat→Int):Prop where
 VP:∀ r k,r<n→k<m→U r+V k≤gi (gi l r) k
 skip:∀ r,r<n→U r≤skip
 neg:∀ k,k<m→V k≤0
theorem weak {l:List (List Int)} {n m:Nat} {skip:Int} {U V:Nat→Int} {cols:Nat→Int} (hp:a0o l n m skip U V) (hc:kE n m cols):DF U n+DF V m≤DF (ZX l skip cols) n:=by
 have h1:=VG n m (fun r=>if cols r<0 then m else (cols r).toNat) V (fun r q hr hq h e=>by
  by_cases a:cols r<0
  ·rw [if_pos a] at h;omega
  ·rw [if_neg a] at h e
   by_cases b:cols q<0
   ·rw [if_pos b] at e;omega
   ·rw [if_neg b] at e
    exact hc.inj r q hr hq (by omega) (by omega)) hp.neg
 have h2:=Oi (n:=n) (f:=fun r=>U r+(if (if cols r<0 then m else (cols r).toNat)<m then V (if cols r<0 then m else (cols r).toNat) else 0)) (g:=ZX l skip cols) fun r hr=>by
  unfold ZX
  have hr1:=hc.rng r hr
  by_cases a:cols r<0
  ·simp only [if_pos a]
   rw [if_neg (by omega)]
   have:=hp.skip r hr
   omega
  ·simp only [if_neg a]
   rw [if_pos (by omega)]
   exact hp.VP r _ hr (by omega)
 rw [WX] at h2
 omega
def DC (l:List (List Int)) (skip:Int) (n:Nat):List (List Int):=l.map fun row=>row++List.replicate (n+1) skip
theorem gi_map' {α β:Type} [Inhabited α] [Inhabited β] (f:α→β) {l:List α} {i:Nat} (h:i<l.length):gi (l.map f) i=f (gi l i):=by
 unfold gi;simp [List.getElem?_map,List.getElem?_eq_getElem h]
structure xM (l:List (List Int)) (n m:Nat) (skip B:Int):Prop where
 len:l.length=n
 row:∀ r,r<n→(gi l r).length=m
 rng:∀ r k,r<n→k<m→0≤gi (gi l r) k∧gi (gi l r) k≤B
 skip:0≤skip∧skip≤B
 big:B≤1000000000000
theorem UG {l:List (List Int)} {n m:Nat} {skip B:Int} (h:xM l n m skip B) {r k:Nat} (hr:r<n):gi (gi (DC l skip n) r) k=if k<m then gi (gi l r) k else if k<m+(n+1) then skip else 0:=by
 unfold DC
 rw [gi_map' _ (by rw [h.len];exact hr)]
 have:=h.row r hr
 unfold gi at this ⊢
 rw [List.getElem?_append]
 by_cases h1:k<m
 ·rw [if_pos (by omega),if_pos h1]
 ·rw [if_neg (by omega),if_neg h1,List.getElem?_replicate]
  by_cases h2:k<m+(n+1)
  ·rw [if_pos (by omega),if_pos h2];rfl
  ·rw [if_neg (by omega),if_neg h2];rfl
theorem Yc {l:List (List Int)} {n m:Nat} {skip B:Int} (h:xM l n m skip B):Ii (DC l skip n) n (m+(n+1)) B:=by
 have h0:=h.skip
 have hb:0≤B:=by omega
 have:∀ r k,0≤gi (gi (DC l skip n) r) k∧gi (gi (DC l skip n) r) k≤B:=fun r k=>by
  rcases Nat.lt_or_ge r n with h1|h1
  ·rw [UG h h1]
   split
   ·rename_i h2;exact h.rng r k h1 h2
   ·split
    ·exact h0
    ·omega
  ·have e:gi (DC l skip n) r=default:=by
    unfold gi DC
    rw [List.getElem?_eq_none (by rw [List.length_map,h.len];omega)];rfl
   rw [e]
   have:gi (default:List Int) k=0:=by
    show ((([]:List Int)[k]?).getD 0)=0
    simp
   rw [this];omega
 exact ⟨fun r k=>(this _ _).1,fun r k=>(this _ _).2,⟨hb,h.big⟩,by omega⟩
def Ky (m:Nat) (c:Int):Int:=if (m:Int)≤c then -1 else c
def qW (l:List (List Int)) (n m:Nat) (skip:Int):List Int:=(Gs (DC l skip n) n (m+(n+1))).cols.map (Ky m)
def iy (l:List (List Int)) (n m:Nat) (skip:Int):Int:=(Gs (DC l skip n) n (m+(n+1))).total
def vN (l:List (List Int)) (n m:Nat) (skip:Int):List Int:=JD (DC l skip n) n (m+(n+1))
def qB (l:List (List Int)) (n m:Nat) (skip:Int):List Int:=(GY (DC l skip n) n (m+(n+1))).take m
structure a5y (l:List (List Int)) (n m:Nat) (skip B:Int) (cols U V:List Int) (total:Int):Prop where
 lC:cols.length=n
 lU:U.length=n
 lV:V.length=m
 part:kE n m (fun r=>gi cols r)
 tot:total=DF (ZX l skip fun r=>gi cols r) n
 pot:a0o l n m skip (fun r=>gi U r) (fun k=>gi V k)
 a1p:total=DF (fun r=>gi U r) n+DF (fun k=>gi V k) m
 a5o:∀ r,r<n→0≤gi U r∧gi U r≤B
 a3p:∀ k,k<m→-B≤gi V k∧gi V k≤0
theorem gi_take' {α:Type} [Inhabited α] (l:List α) {j k:Nat} (h:k<j):gi (l.take j) k=gi l k:=by
 unfold gi;rw [List.getElem?_take,if_pos h]
theorem PS (f:Nat→Int) (m:Nat):∀ n,DF f (m+n)=DF f m+DF (fun k=>f (m+k)) n
 |0=>by simp [DF]
 |n+1=>by
  rw [← Nat.add_assoc]
  simp only [DF]
  rw [PS f m n];omega
theorem tN {l:List (List Int)} {n m:Nat} {skip B:Int} (h:xM l n m skip B):a5y l n m skip B (qW l n m skip) (vN l n m skip) (qB l n m skip) (iy l n m skip):=by
 have hs:=VN (Yc h)
 have eC:qW l n m skip=(Gs (DC l skip n) n (m+(n+1))).cols.map (Ky m):=rfl
 have eT:iy l n m skip=(Gs (DC l skip n) n (m+(n+1))).total:=rfl
 have eU:vN l n m skip=JD (DC l skip n) n (m+(n+1)):=rfl
 have eV:qB l n m skip=(GY (DC l skip n) n (m+(n+1))).take m:=rfl
 rw [eC,eT,eU,eV]
 generalize Gs (DC l skip n) n (m+(n+1))=x at *
 generalize JD (DC l skip n) n (m+(n+1))=U at *
 generalize GY (DC l skip n) n (m+(n+1))=V at *
 obtain ⟨s1,s2,s3,s4,s5,s6,s7,s8,s9,s10,s11⟩:=hs
 have gC:∀ r,r<n→gi (x.cols.map (Ky m)) r=Ky m (gi x.cols r):=fun r hr=>gi_map' _ (by omega)
 have gV:∀ k,k<m→gi (V.take m) k=gi V k:=fun k hk=>gi_take' V hk
 have part:kE n m (fun r=>gi (x.cols.map (Ky m)) r):=by
  refine ⟨fun r hr=>?_,fun r q hr hq h1 h2=>?_⟩
  ·rw [gC r hr]
   have:=s4 r hr
   unfold Ky;split<;>omega
  ·rw [gC r hr] at h1 h2
   rw [gC q hq] at h2
   refine s5 r q hr hq ?_
   have:=s4 q hq
   unfold Ky at h1 h2
   split at h2<;>split at h2<;>omega
 have tot:x.total=DF (ZX l skip fun r=>gi (x.cols.map (Ky m)) r) n:=by
  rw [s6]
  refine EK fun r hr=>?_
  have:=s4 r hr
  show _=if gi (x.cols.map (Ky m)) r<0 then skip else gi (gi l r) (gi (x.cols.map (Ky m)) r).toNat
  rw [gC r hr,UG h hr]
  unfold Ky
  by_cases h1:(m:Int)≤gi x.cols r
  ·rw [if_pos h1,if_neg (by omega),if_pos (by omega),if_pos (by omega)]
  ·rw [if_neg h1,if_pos (by omega),if_neg (by omega)]
 have hsk:∀ r,r<n→gi U r≤skip:=fun r hr=>by
  have hx:∃ k,k<n+1∧∀ q,q<n→gi x.cols q≠((m+k:Nat):Int):=by
   refine Classical.byContradiction fun hn=>?_
   have hn:∀ k,k<n+1→∃ q,q<n∧gi x.cols q=((m+k:Nat):Int):=fun k hk=>Classical.byContradiction fun h2=>hn ⟨k,hk,fun q hq e=>h2 ⟨q,hq,e⟩⟩
   have hn':∀ k,∃ q,k<n+1→q<n∧gi x.cols q=((m+k:Nat):Int):=fun k=>by
    by_cases hk:k<n+1
    ·obtain ⟨q,hq⟩:=hn k hk;exact ⟨q,fun _=>hq⟩
    ·exact ⟨0,fun h=>absurd h hk⟩
   have hF:=fun k=>Classical.choose_spec (hn' k)
   have:=VA n (n+1) (fun k=>Classical.choose (hn' k)) (fun k hk=>(hF k hk).1) (fun k e hk he hf=>by
    have h1:=(hF k hk).2
    have h2:=(hF e he).2
    have hf:Classical.choose (hn' k)=Classical.choose (hn' e):=hf
    rw [hf,h2] at h1;omega)
   omega
  obtain ⟨k,k1,k2⟩:=hx
  have h1:=s7 r (m+k) hr (by omega)
  rw [UG h hr,if_neg (by omega),if_pos (by omega)] at h1
  have h0:=s11 (m+k) (by omega) k2
  omega
 have a1p:DF (fun k=>gi V k) (m+(n+1))≤DF (fun k=>gi (V.take m) k) m:=by
  rw [PS,EK (n:=m) (f:=fun k=>gi (V.take m) k) (g:=fun k=>gi V k) gV]
  have:=Oi (n:=n+1) (f:=fun k=>gi V (m+k)) (g:=fun _=>0) fun k hk=>(s8 (m+k) (by omega)).2
  rw [LX] at this
  omega
 have pot:a0o l n m skip (fun r=>gi U r) (fun k=>gi (V.take m) k):=by
  refine ⟨fun r k hr hk=>?_,hsk,fun k hk=>?_⟩
  ·have h1:=s7 r k hr (by omega)
   rw [UG h hr,if_pos hk] at h1
   show gi U r+gi (V.take m) k≤_
   rw [gV k hk];exact h1
  ·show gi (V.take m) k≤0
   rw [gV k hk];exact (s8 k (by omega)).2
 have hw:=weak pot part
 exact ⟨by rw [List.length_map,s1],s2,by rw [List.length_take,s3];omega,part,tot,pot,by omega,s9,fun k hk=>by rw [gV k hk];exact s8 k (by omega)⟩
end Go.Hun
namespace Go.Proofs.YtdabojnmoejilaaGreatDoor
open Go Go.Am Go.Vm Go.Hun
attribute [local irreducible] Aa Ag Ap Ae BD AX CU AO AL Aw Vm.Done Df Bq
def tV (l:List (List Int)):Nat:=(gi l 0).length
theorem Lr (e:TypeId) (l:List (List Int)) (hl:l.length<1000000):AX env 69 [.lst e (cells l) l.length] (.p (.int .i64 (tV l:Int))):=by
 refine AX.enter (AB (by decide)) Tryz.func69 rfl (by kernel_rfl) (by simp [Tryz.ntmps69]) ?_
 by_cases h:l.length=0
 ·have hl0:l=[]:=List.length_eq_zero_iff.1 h
  subst hl0
  repeat' (first|apply Ae.assoc|apply Ae.AA|apply Ae.BQ|apply Ag.nil|apply Ag.one|(apply Aa.assign;rfl)|(apply Aa.move;rfl)|(apply Aa.int;rfl;rfl;rfl)|(apply Aa.BI;rfl;rfl)|(apply Ae.Bg;rfl))
  all_goals first|(exfalso;omega)|contradiction|(refine Done.ret rfl (.refl _) (by first|exact trivial|exact ⟨trivial,trivial,trivial⟩|exact ⟨trivial,trivial,trivial,trivial⟩) Aj.nil (Nat.zero_le _) (Nat.le_refl _) ⟨?_,rfl,rfl⟩;try rfl)
 ·repeat' (first|apply Ae.assoc|apply Ae.AA|apply Ae.Aq|apply Ae.ret|apply Ag.nil|apply Ag.one|(apply Aa.assign;rfl)|(apply Aa.move;rfl)|(apply Aa.int;rfl;rfl;rfl)|(apply Aa.WY;rfl;rfl;rfl;omega;omega;rfl)|(apply Aa.load;rfl;rfl)|(apply Aa.BI;rfl;rfl)|(apply Ae.Af;rfl)|(intro _;try (exfalso;omega)))
  all_goals first|(exfalso;omega)|contradiction|(refine Done.ret rfl (.refl _) (by first|exact trivial|exact ⟨trivial,trivial,trivial⟩|exact ⟨trivial,trivial,trivial,trivial⟩) Aj.nil (Nat.zero_le _) (Nat.le_refl _) ⟨?_,rfl,rfl⟩;try rfl)
section
variable {costs:List (List Int)} {n m:Nat} {B:Int}
theorem vG {i:Nat} {o:List Ix} {A:Nat→Nat} {t:Nat} {g:Gr} (h:fC costs n m i o A t g) (hc:Ii costs n m B) (ho:pW m i o) (hi:i<n) (hr:Hun.own o (A t)≠0):gi (Gp costs o m g).v 0+gi (Gp costs o m g).u (i+1)=gi g.v 0+gi g.u (i+1):=by
 have hR:=JQ h hc ho hi hr
 have hS:=ND h hc ho hi hr
 have h0:gi (CP g) 0=true:=(hR.doneD 0).2 ⟨0,by omega,h.zero⟩
 have h1:=hS.u1 0 (Nat.zero_le _) h0
 have h2:=hS.v1 0 (Nat.zero_le _) h0
 rw [ho.zero] at h1
 show gi (IW costs o m g).v 0+gi (IW costs o m g).u (i+1)=_
 omega
theorem Y9 {i:Nat} {s:fG} (h:pU costs n m i s) (hc:Ii costs n m B) (hi:i<n):∀ t,(∀ p,p<t→Hun.own (I7 s (i+1)) (Me costs m i s p)≠0)→gi (Ed costs (I7 s (i+1)) m (P5 m s) t).v 0+gi (Ed costs (I7 s (i+1)) m (P5 m s) t).u (i+1)=gi s.v 0
 |0,_=>by
  show gi s.v 0+gi s.u (i+1)=_
  rw [h.uz (i+1) (by omega)];omega
 |t+1,hp=>by
  have ih:=Y9 h hc hi t fun p hp'=>hp p (by omega)
  have:=vG (OI h hc hi t fun p hp'=>hp p (by omega)) hc (Yd h) hi (hp t (by omega))
  show gi (Gp costs _ m _).v 0+gi (Gp costs _ m _).u (i+1)=_
  omega
theorem cO (hc:Ii costs n m B):∀ i,i≤n→-(i*B)≤gi (C9 costs n m i).v 0∧gi (C9 costs n m i).v 0≤0
 |0,_=>by
  have:gi (C9 costs n m 0).v 0=0:=UD 0
  rw [this];simp
 |i+1,hi=>by
  have ih:=cO hc i (by omega)
  have h:=NH hc i (by omega)
  obtain ⟨a,b,c⟩:=Y8 h hc (by omega)
  have h1:=Y9 h hc (by omega) _ a
  have hg:=OI h hc (by omega) _ a
  have h2:=hg.ule hc (Yd h) (by have:=hc.nm;omega) (r:=i+1) (by omega) (Nat.le_refl _)
  have h3:=hg.Ut (i+1) (by omega) (Nat.le_refl _)
  have e:(C9 costs n m (i+1)).v=(Ed costs (I7 (C9 costs n m i) (i+1)) m (P5 m (C9 costs n m i)) (Xb costs m (C9 costs n m i) (i+1))).v:=rfl
  rw [e]
  push_cast
  rw [Int.add_mul,Int.one_mul]
  omega
end
def kZ (e:TypeId) (costs:List (List Int)) (n m k row a:Nat) (s:pV) (j:Nat):Vm.Frame :=
 [(14,.p (.int .i64 s.delta)),(15,.p (.int .i64 (s.next:Int))),(16,.p (.int .i64 ((j+1:Nat):Int))),(0,.p (.lst e (cells costs) n)),(2,.ref 0 0),(3,.p (.int .i64 (n:Int))),(4,.p (.int .i64 (m:Int))),(5,.vec 1 (n+1) 0 (n+1)),(6,.vec 2 (m+1) 0 (m+1)),(7,.vec 3 (m+1) 0 (m+1)),(8,.vec 4 (m+1) 0 (m+1)),(9,.p (.int .i64 ((k+1:Nat):Int))),(10,.p (.int .i64 (a:Int))),(11,.vec 6 (m+1) 0 (m+1)),(12,.vec 7 (m+1) 0 (m+1)),(13,.p (.int .i64 (row:Int)))]
def xJ:Vm.HB:=.box 69 [.p (.val (.slice none 0 0)),.p (.int .i64 0),.p (.val (.slice none 0 0)),.p (.val (.slice none 0 0))]
def kC (n m:Nat) (u v:List Int) (o:List Ix) (done:List Bool) (s:pV):Vm.Heap :=
 [(4,.vec 3 (cells s.way) (m+1) false),(6,.vec 3 (cells s.least) (m+1) false),(7,.vec 4 (cells done) (m+1) false),(0,xJ),(1,.vec 3 (cells u) (n+1) false),(2,.vec 3 (cells v) (m+1) false),(3,.vec 3 (cells o) (m+1) false)]
theorem mM {costs:List (List Int)} {n m k row a:Nat} {B:Int} {e:TypeId} {u v:List Int} {o:List Ix} {done:List Bool} {s0:pV} (hB:0≤B∧B≤1000000000000) (hl:costs.length=n) (hm:m≤1000) (hn:n≤1000) (hr:1≤row∧row≤n) (hrl:(gi costs (row-1)).length=m) (Ue:∀ j,0≤gi (gi costs (row-1)) j∧gi (gi costs (row-1)) j≤B)
 (hu:u.length=n+1) (hv:v.length=m+1) (hd9:done.length=m+1) (h1:s0.least.length=m+1) (h2:s0.way.length=m+1) (hu9:0≤gi u row∧gi u row≤B) (hv9:∀ j,1≤j→j≤m→-B≤gi v j∧gi v j≤0) :
 Ae env 0 (Zy Tryz.f72 14) (kZ e costs n m k row a s0 0) (kC n m u v o done s0) 8 (fun ex L' H' nx'=>ex=.exit 4∧Wq L' H' nx' (kZ e costs n m k row a (J9 (gi costs (row-1)) (gi u row) v done a s0 m) m) (kC n m u v o done (J9 (gi costs (row-1)) (gi u row) v done a s0 m)) 8):=by
 have hs1:ES .sub .i64 (row:Int) 1=some (.int .i64 ((row-1:Nat):Int)):=by
  simp only [ES]
  rw [wrap_i64 (by omega)]
  congr 2;omega
 show Ae env 0 (Code.loop _) _ _ _ _
 refine Ae.EX m (kZ e costs n m k row a s0 0 |>.drop 3) (kC n m u v o done s0 |>.drop 2) (fun j _=>kZ e costs n m k row a (J9 (gi costs (row-1)) (gi u row) v done a s0 j) j) (fun j _=>kC n m u v o done (J9 (gi costs (row-1)) (gi u row) v done a s0 j)) 8 (by omega) (Nat.le_refl _) ?_ ?_ ?_ ?_
 ·repeat (first|exact Ad.nil|refine Ad.same trivial rfl ?_|refine Ad.same (Ac rfl) rfl ?_|refine Ad.same ⟨trivial,Ac rfl,trivial⟩ rfl ?_|refine Ad.same ⟨trivial,Ac rfl,Ac rfl,trivial⟩ rfl ?_|refine Ad.same ⟨trivial,Ac rfl,Ac rfl,Ac rfl,trivial⟩ rfl ?_|refine Ad.same ⟨trivial,trivial⟩ rfl ?_|refine Ad.cons trivial rfl (.of_eq (Ar (by simp<;>omega))) ?_)
 ·repeat (first|exact Aj.nil|(refine Aj.cons (Ac rfl) ?_ rfl ?_ ?_;(first|exact HB.Ak rfl|exact AU.Ah _ _|(simp [HB.under,AU.under,PV.under]));(first|exact Bl.refl _|exact Bl.vec (Bh.refl _) (by simp))))
 ·intro j hj
  have hI:=RJ (row:=gi costs (row-1)) (ur:=gi u row) (v:=v) (done:=done) (a:=a) (s0:=s0) h1 h2 j (by omega)
  have eS2:J9 (gi costs (row-1)) (gi u row) v done a s0 (j+1)=KR (gi costs (row-1)) (gi u row) v done a (J9 (gi costs (row-1)) (gi u row) v done a s0 j) (j+1):=rfl
  rw [eS2]
  generalize J9 (gi costs (row-1)) (gi u row) v done a s0 j=sc at *
  have n1:=hI.ll
  have n2:=hI.lw
  have hc1:=Ue j
  have hv1:=hv9 (j+1) (by omega) (by omega)
  obtain ⟨C,hC⟩:∃ C,C=SV (gi costs (row-1)) (gi u row) v (j+1):=⟨_,rfl⟩
  have hC':C=gi (gi costs (row-1)) j-gi u row-gi v (j+1):=hC
  have hCv:ES .sub .i64 (gi (gi costs (row-1)) j-gi u row) (gi v (j+1))=some (.int .i64 C):=by
   rw [hC']
   simp only [ES]
   rw [wrap_i64 (by omega)]
  have hs2:ES .sub .i64 ((j+1:Nat):Int) 1=some (.int .i64 (j:Int)):=by
   simp only [ES]
   rw [wrap_i64 (by omega)]
   congr 2;omega
  clear hI Ue hv9 eS2
  by_cases hd:gi done (j+1)=true
  ·have e9:KR (gi costs (row-1)) (gi u row) v done a sc (j+1)=sc:=if_pos hd
   rw [e9]
   repeat' (first|apply Ae.assoc|apply Ae.AA|apply Ae.region|apply Ae.Aq|apply Ae.AY|apply Ae.Ai|apply AO.normal|apply AL.exit|apply Ag.nil|apply Ag.one|(apply Aa.Du;rfl;rfl;(first|omega|(simp only [NP]<;>omega));exact congrArg (fun b=>some (FV.bool b)) (hd))|(apply Aa.assign;rfl)|(apply Aa.move;rfl)|(apply Aa.Bv;rfl;rfl;omega)|(apply Aa.int;rfl;rfl;rfl)|(apply Aa.Dk;rfl;rfl;rfl;rfl;omega)|(apply Ae.Bg;rfl)|(apply Ae.Af;rfl)|(intro _;try (exfalso;omega)))
   all_goals try (exfalso;omega)
   refine Aw.normal ⟨by first|omega|decide,?_,?_⟩
   ·repeat (first|exact Ad.nil|refine Ad.same trivial rfl ?_|refine Ad.same (Ac rfl) rfl ?_|refine Ad.same ⟨trivial,Ac rfl,trivial⟩ rfl ?_|refine Ad.same ⟨trivial,Ac rfl,Ac rfl,trivial⟩ rfl ?_|refine Ad.same ⟨trivial,Ac rfl,Ac rfl,Ac rfl,trivial⟩ rfl ?_|refine Ad.same ⟨trivial,trivial⟩ rfl ?_|refine Ad.cons trivial rfl (.of_eq (Ar (by simp<;>omega))) ?_)
   ·repeat (first|exact Aj.nil|(refine Aj.cons (Ac rfl) ?_ rfl ?_ ?_;(first|exact HB.Ak rfl|exact AU.Ah _ _|(simp [HB.under,AU.under,PV.under]));(first|exact Bl.refl _|exact Bl.vec (Bh.refl _) (by simp))))
  ·have hd':gi done (j+1)=false:=by cases h:gi done (j+1)<;>simp_all
   by_cases h1:C<gi sc.least (j+1)
   ·have hld:gi (sc.least.set (j+1) C) (j+1)=C:=by rw [gs (by omega),if_pos rfl]
    by_cases h2:C<sc.delta
    ·have e9:KR (gi costs (row-1)) (gi u row) v done a sc (j+1)=⟨sc.least.set (j+1) C,sc.way.set (j+1) ⟨a⟩,C,j+1⟩:=by
      unfold KR
      rw [← hC,if_neg hd,if_pos h1,if_pos h2]
     rw [e9]
     repeat' (first|apply Ae.assoc|apply Ae.AA|apply Ae.BF|apply Ae.region|apply Ae.Aq|apply Ae.Ai|apply AO.normal|apply AL.normal|apply Ag.nil|apply Ap.nil|apply Ag.one|(apply Ap.bar;decide +kernel)|apply Ap.quiet|(apply Aa.Du;rfl;rfl;(first|omega|(simp only [NP]<;>omega));exact congrArg (fun b=>some (FV.bool b)) (hd'))|(apply Aa.AP (l:=costs);rfl;rfl;rfl;omega;exact hl)|(apply Aa.int;rfl;rfl;exact hs1)|(apply Aa.int;rfl;rfl;exact hs2)|(apply Aa.int;rfl;rfl;exact hCv)|(apply Aa.Eb (y:=C);rfl;rfl;rfl;trivial;(first|rfl|(refine congrArg (fun t=>[PV.p (FV.int _ t)]) ?_;first|omega|(simp only [Int.natCast_add,Int.natCast_mul,Int.natCast_ediv,Int.natCast_emod]<;>omega)));rfl;rfl;decide;(first|omega|(simp only [List.length_set]<;>omega)))|(apply Aa.Eb (y:=(⟨a⟩:Ix));rfl;rfl;rfl;trivial;(first|rfl|(refine congrArg (fun t=>[PV.p (FV.int _ t)]) ?_;first|omega|(simp only [Int.natCast_add,Int.natCast_mul,Int.natCast_ediv,Int.natCast_emod]<;>omega)));rfl;rfl;decide;(first|omega|(simp only [List.length_set]<;>omega)))|(apply Aa.Du;rfl;rfl;(first|omega|(simp only [List.length_set]<;>omega));exact congrArg (fun b=>some (FV.int .i64 b)) (hld))|(apply Aa.assign;rfl)|(apply Aa.move;rfl)|(apply Aa.Bv;rfl;rfl;omega)|(apply Aa.Ig;rfl;rfl;omega)|(apply Aa.int;rfl;rfl;rfl)|(apply Aa.AP;rfl;rfl;rfl;omega;rfl)|(apply Aa.Du;rfl;rfl;omega;rfl)|(apply Aa.load;rfl;rfl)|(apply Aa.Dk;rfl;rfl;rfl;rfl;omega)|(apply Ae.Az;rfl)|(apply Ae.Af;rfl)|(apply Ae.AZ;rfl)|(intro _;try (exfalso;omega)))
     all_goals try (exfalso;omega)
     refine Aw.normal ⟨by first|omega|decide,?_,?_⟩
     ·repeat (first|exact Ad.nil|refine Ad.same trivial rfl ?_|refine Ad.same (Ac rfl) rfl ?_|refine Ad.same ⟨trivial,Ac rfl,trivial⟩ rfl ?_|refine Ad.same ⟨trivial,Ac rfl,Ac rfl,trivial⟩ rfl ?_|refine Ad.same ⟨trivial,Ac rfl,Ac rfl,Ac rfl,trivial⟩ rfl ?_|refine Ad.same ⟨trivial,trivial⟩ rfl ?_|refine Ad.cons trivial rfl (.of_eq (Ar (by simp<;>omega))) ?_)
     ·repeat (first|exact Aj.nil|(refine Aj.cons (Ac rfl) ?_ rfl ?_ ?_;(first|exact HB.Ak rfl|exact AU.Ah _ _|(simp [HB.under,AU.under,PV.under]));(first|exact Bl.refl _|exact Bl.vec (Bh.refl _) (by simp))))
    ·have e9:KR (gi costs (row-1)) (gi u row) v done a sc (j+1)=⟨sc.least.set (j+1) C,sc.way.set (j+1) ⟨a⟩,sc.delta,sc.next⟩:=by
      unfold KR
      rw [← hC,if_neg hd,if_pos h1,if_neg h2]
     rw [e9]
     repeat' (first|apply Ae.assoc|apply Ae.AA|apply Ae.BF|apply Ae.region|apply Ae.Aq|apply Ae.Ai|apply AO.normal|apply AL.normal|apply Ae.skip|apply Ag.nil|apply Ap.nil|apply Ag.one|(apply Ap.bar;decide +kernel)|apply Ap.quiet|(apply Aa.Du;rfl;rfl;(first|omega|(simp only [NP]<;>omega));exact congrArg (fun b=>some (FV.bool b)) (hd'))|(apply Aa.AP (l:=costs);rfl;rfl;rfl;omega;exact hl)|(apply Aa.int;rfl;rfl;exact hs1)|(apply Aa.int;rfl;rfl;exact hs2)|(apply Aa.int;rfl;rfl;exact hCv)|(apply Aa.Eb (y:=C);rfl;rfl;rfl;trivial;(first|rfl|(refine congrArg (fun t=>[PV.p (FV.int _ t)]) ?_;first|omega|(simp only [Int.natCast_add,Int.natCast_mul,Int.natCast_ediv,Int.natCast_emod]<;>omega)));rfl;rfl;decide;(first|omega|(simp only [List.length_set]<;>omega)))|(apply Aa.Eb (y:=(⟨a⟩:Ix));rfl;rfl;rfl;trivial;(first|rfl|(refine congrArg (fun t=>[PV.p (FV.int _ t)]) ?_;first|omega|(simp only [Int.natCast_add,Int.natCast_mul,Int.natCast_ediv,Int.natCast_emod]<;>omega)));rfl;rfl;decide;(first|omega|(simp only [List.length_set]<;>omega)))|(apply Aa.Du;rfl;rfl;(first|omega|(simp only [List.length_set]<;>omega));exact congrArg (fun b=>some (FV.int .i64 b)) (hld))|(apply Aa.assign;rfl)|(apply Aa.move;rfl)|(apply Aa.Bv;rfl;rfl;omega)|(apply Aa.Ig;rfl;rfl;omega)|(apply Aa.int;rfl;rfl;rfl)|(apply Aa.AP;rfl;rfl;rfl;omega;rfl)|(apply Aa.Du;rfl;rfl;omega;rfl)|(apply Aa.load;rfl;rfl)|(apply Aa.Dk;rfl;rfl;rfl;rfl;omega)|(apply Ae.Az;rfl)|(apply Ae.Af;rfl)|(apply Ae.AZ;rfl)|(intro _;try (exfalso;omega)))
     all_goals try (exfalso;omega)
     refine Aw.normal ⟨by first|omega|decide,?_,?_⟩
     ·repeat (first|exact Ad.nil|refine Ad.same trivial rfl ?_|refine Ad.same (Ac rfl) rfl ?_|refine Ad.same ⟨trivial,Ac rfl,trivial⟩ rfl ?_|refine Ad.same ⟨trivial,Ac rfl,Ac rfl,trivial⟩ rfl ?_|refine Ad.same ⟨trivial,Ac rfl,Ac rfl,Ac rfl,trivial⟩ rfl ?_|refine Ad.same ⟨trivial,trivial⟩ rfl ?_|refine Ad.cons trivial rfl (.of_eq (Ar (by simp<;>omega))) ?_)
     ·repeat (first|exact Aj.nil|(refine Aj.cons (Ac rfl) ?_ rfl ?_ ?_;(first|exact HB.Ak rfl|exact AU.Ah _ _|(simp [HB.under,AU.under,PV.under]));(first|exact Bl.refl _|exact Bl.vec (Bh.refl _) (by simp))))
   ·by_cases h2:gi sc.least (j+1)<sc.delta
    ·have e9:KR (gi costs (row-1)) (gi u row) v done a sc (j+1)=⟨sc.least,sc.way,gi sc.least (j+1),j+1⟩:=by
      unfold KR
      rw [← hC,if_neg hd,if_neg h1,if_pos h2]
     rw [e9]
     repeat' (first|apply Ae.assoc|apply Ae.AA|apply Ae.BF|apply Ae.region|apply Ae.Aq|apply Ae.Ai|apply AO.normal|apply AL.normal|apply Ag.nil|apply Ap.nil|apply Ag.one|(apply Ap.bar;decide +kernel)|apply Ap.quiet|(apply Aa.Du;rfl;rfl;(first|omega|(simp only [NP]<;>omega));exact congrArg (fun b=>some (FV.bool b)) (hd'))|(apply Aa.AP (l:=costs);rfl;rfl;rfl;omega;exact hl)|(apply Aa.int;rfl;rfl;exact hs1)|(apply Aa.int;rfl;rfl;exact hs2)|(apply Aa.int;rfl;rfl;exact hCv)|(apply Aa.assign;rfl)|(apply Aa.move;rfl)|(apply Aa.Bv;rfl;rfl;omega)|(apply Aa.Ig;rfl;rfl;omega)|(apply Aa.int;rfl;rfl;rfl)|(apply Aa.AP;rfl;rfl;rfl;omega;rfl)|(apply Aa.Du;rfl;rfl;omega;rfl)|(apply Aa.load;rfl;rfl)|(apply Aa.Dk;rfl;rfl;rfl;rfl;omega)|(apply Ae.Az;rfl)|(apply Ae.Af;rfl)|(apply Ae.AZ;rfl)|(intro _;try (exfalso;omega)))
     all_goals try (exfalso;omega)
     refine Aw.normal ⟨by first|omega|decide,?_,?_⟩
     ·repeat (first|exact Ad.nil|refine Ad.same trivial rfl ?_|refine Ad.same (Ac rfl) rfl ?_|refine Ad.same ⟨trivial,Ac rfl,trivial⟩ rfl ?_|refine Ad.same ⟨trivial,Ac rfl,Ac rfl,trivial⟩ rfl ?_|refine Ad.same ⟨trivial,Ac rfl,Ac rfl,Ac rfl,trivial⟩ rfl ?_|refine Ad.same ⟨trivial,trivial⟩ rfl ?_|refine Ad.cons trivial rfl (.of_eq (Ar (by simp<;>omega))) ?_)
     ·repeat (first|exact Aj.nil|(refine Aj.cons (Ac rfl) ?_ rfl ?_ ?_;(first|exact HB.Ak rfl|exact AU.Ah _ _|(simp [HB.under,AU.under,PV.under]));(first|exact Bl.refl _|exact Bl.vec (Bh.refl _) (by simp))))
    ·have e9:KR (gi costs (row-1)) (gi u row) v done a sc (j+1)=sc:=by
      unfold KR
      rw [← hC,if_neg hd,if_neg h1,if_neg h2]
     rw [e9]
     repeat' (first|apply Ae.assoc|apply Ae.AA|apply Ae.BF|apply Ae.region|apply Ae.Aq|apply Ae.Ai|apply AO.normal|apply AL.normal|apply Ae.skip|apply Ag.nil|apply Ap.nil|apply Ag.one|(apply Ap.bar;decide +kernel)|apply Ap.quiet|(apply Aa.Du;rfl;rfl;(first|omega|(simp only [NP]<;>omega));exact congrArg (fun b=>some (FV.bool b)) (hd'))|(apply Aa.AP (l:=costs);rfl;rfl;rfl;omega;exact hl)|(apply Aa.int;rfl;rfl;exact hs1)|(apply Aa.int;rfl;rfl;exact hs2)|(apply Aa.int;rfl;rfl;exact hCv)|(apply Aa.assign;rfl)|(apply Aa.move;rfl)|(apply Aa.Bv;rfl;rfl;omega)|(apply Aa.Ig;rfl;rfl;omega)|(apply Aa.int;rfl;rfl;rfl)|(apply Aa.AP;rfl;rfl;rfl;omega;rfl)|(apply Aa.Du;rfl;rfl;omega;rfl)|(apply Aa.load;rfl;rfl)|(apply Aa.Dk;rfl;rfl;rfl;rfl;omega)|(apply Ae.Az;rfl)|(apply Ae.Af;rfl)|(apply Ae.AZ;rfl)|(intro _;try (exfalso;omega)))
     all_goals try (exfalso;omega)
     refine Aw.normal ⟨by first|omega|decide,?_,?_⟩
     ·repeat (first|exact Ad.nil|refine Ad.same trivial rfl ?_|refine Ad.same (Ac rfl) rfl ?_|refine Ad.same ⟨trivial,Ac rfl,trivial⟩ rfl ?_|refine Ad.same ⟨trivial,Ac rfl,Ac rfl,trivial⟩ rfl ?_|refine Ad.same ⟨trivial,Ac rfl,Ac rfl,Ac rfl,trivial⟩ rfl ?_|refine Ad.same ⟨trivial,trivial⟩ rfl ?_|refine Ad.cons trivial rfl (.of_eq (Ar (by simp<;>omega))) ?_)
     ·repeat (first|exact Aj.nil|(refine Aj.cons (Ac rfl) ?_ rfl ?_ ?_;(first|exact HB.Ak rfl|exact AU.Ah _ _|(simp [HB.under,AU.under,PV.under]));(first|exact Bl.refl _|exact Bl.vec (Bh.refl _) (by simp))))
 ·repeat' (first|apply Ae.assoc|apply Ae.AA|apply Ae.AY|apply Aw.exit|apply Ag.nil|apply Ag.one|(apply Aa.move;rfl)|(apply Aa.int;rfl;rfl;rfl)|(apply Ae.Af;rfl)|(intro _;try (exfalso;omega)))
  all_goals try (exfalso;omega)
  refine ⟨rfl,⟨Nat.le_refl _,?_,?_⟩⟩
  ·repeat (first|exact Ad.nil|refine Ad.same trivial rfl ?_|refine Ad.same (Ac rfl) rfl ?_|refine Ad.same ⟨trivial,Ac rfl,trivial⟩ rfl ?_|refine Ad.same ⟨trivial,Ac rfl,Ac rfl,trivial⟩ rfl ?_|refine Ad.same ⟨trivial,Ac rfl,Ac rfl,Ac rfl,trivial⟩ rfl ?_|refine Ad.same ⟨trivial,trivial⟩ rfl ?_|refine Ad.cons trivial rfl (.of_eq (Ar (by simp<;>omega))) ?_)
  ·repeat (first|exact Aj.nil|(refine Aj.cons (Ac rfl) ?_ rfl ?_ ?_;(first|exact HB.Ak rfl|exact AU.Ah _ _|(simp [HB.under,AU.under,PV.under]));(first|exact Bl.refl _|exact Bl.vec (Bh.refl _) (by simp))))
end Go.Proofs.YtdabojnmoejilaaGreatDoor
namespace Go.Proofs.YtdabojnmoejilaaGreatDoor
open Go Go.Am Go.Vm Go.Hun
attribute [local irreducible] Aa Ag Ap Ae BD AX CU AO AL Aw Vm.Done Df Bq
def ZB (e:TypeId) (costs:List (List Int)) (n m k:Nat) (d:Int) (nxt:Nat) (j:Nat):Vm.Frame :=
 [(120,.p (.int .i64 (j:Int))),(0,.p (.lst e (cells costs) n)),(2,.ref 0 0),(3,.p (.int .i64 (n:Int))),(4,.p (.int .i64 (m:Int))),(5,.vec 1 (n+1) 0 (n+1)),(6,.vec 2 (m+1) 0 (m+1)),(7,.vec 3 (m+1) 0 (m+1)),(8,.vec 4 (m+1) 0 (m+1)),(9,.p (.int .i64 ((k+1:Nat):Int))),(11,.vec 6 (m+1) 0 (m+1)),(12,.vec 7 (m+1) 0 (m+1)),(14,.p (.int .i64 d)),(15,.p (.int .i64 (nxt:Int))),(119,.p (.int .i64 ((m+1:Nat):Int)))]
def Zo (n m:Nat) (o way:List Ix) (done:List Bool) (t:wG):Vm.Heap :=
 [(1,.vec 3 (cells t.u) (n+1) false),(2,.vec 3 (cells t.v) (m+1) false),(6,.vec 3 (cells t.least) (m+1) false),(0,xJ),(3,.vec 3 (cells o) (m+1) false),(4,.vec 3 (cells way) (m+1) false),(7,.vec 4 (cells done) (m+1) false)]
theorem gy {costs:List (List Int)} {n m k nxt:Nat} {d:Int} {e:TypeId} {o way:List Ix} {done:List Bool} {t0:wG} (hd:0≤d∧d≤1000000000000) (hm:m≤1000) (hn:n≤1000) (hu:t0.u.length=n+1) (hv:t0.v.length=m+1) (hl:t0.least.length=m+1) (ho:o.length=m+1) (hD:done.length=m+1)
 (h1:∀ j,j≤m→gi done j=true→(gi o j).n<t0.u.length) (h2:∀ j i,j≤m→i≤m→gi done j=true→gi done i=true→(gi o j).n=(gi o i).n→j=i)
 (hub:∀ j,j≤m→gi done j=true→0≤gi t0.u (gi o j).n∧gi t0.u (gi o j).n≤1000000000000) (hvb:∀ j,j≤m→-2000000000000000≤gi t0.v j∧gi t0.v j≤0) (hlb:∀ j,j≤m→gi done j=false→0≤gi t0.least j∧gi t0.least j≤far) :
 Ae env 0 (Zy Tryz.f72 23) (ZB e costs n m k d nxt 0) (Zo n m o way done t0) 8 (fun ex L' H' nx'=>ex=.exit 6∧Wq L' H' nx' (ZB e costs n m k d nxt (m+1)) (Zo n m o way done (Hw o done d t0 (m+1))) 8):=by
 have hf:far=1152921504606846976:=rfl
 show Ae env 0 (Code.loop _) _ _ _ _
 refine Ae.EX (m+1) (ZB e costs n m k d nxt 0 |>.drop 1) (Zo n m o way done t0 |>.drop 3) (fun j _=>ZB e costs n m k d nxt j) (fun j _=>Zo n m o way done (Hw o done d t0 j)) 8 (by omega) (Nat.le_refl _) ?_ ?_ ?_ ?_
 ·repeat (first|exact Ad.nil|refine Ad.same trivial rfl ?_|refine Ad.same (Ac rfl) rfl ?_|refine Ad.same ⟨trivial,Ac rfl,trivial⟩ rfl ?_|refine Ad.same ⟨trivial,Ac rfl,Ac rfl,trivial⟩ rfl ?_|refine Ad.same ⟨trivial,Ac rfl,Ac rfl,Ac rfl,trivial⟩ rfl ?_|refine Ad.same ⟨trivial,trivial⟩ rfl ?_|refine Ad.cons trivial rfl (.of_eq (Ar (by simp<;>omega))) ?_)
 ·repeat (first|exact Aj.nil|(refine Aj.cons (Ac rfl) ?_ rfl ?_ ?_;(first|exact HB.Ak rfl|exact AU.Ah _ _|(simp [HB.under,AU.under,PV.under]));(first|exact Bl.refl _|exact Bl.vec (Bh.refl _) (by simp))))
 ·intro j hj
  have hI:=Go.Hun.JV (owner:=o) (done:=done) (delta:=d) (t:=t0) (m:=m) hv hl h1 h2 j (by omega)
  have eS2:Hw o done d t0 (j+1)=RG o done d (Hw o done d t0 j) j:=rfl
  rw [eS2]
  generalize Hw o done d t0 j=sc at *
  have n1:=hI.lu
  have n2:=hI.lv
  have n3:=hI.ll
  have hv1:=hvb j (by omega)
  have ev:gi sc.v j=gi t0.v j:=by rw [hI.v,if_neg (by omega)]
  by_cases hdj:gi done j=true
  ·have hu1:=hub j (by omega) hdj
   have hlt:=h1 j (by omega) hdj
   have eu:gi sc.u (gi o j).n=gi t0.u (gi o j).n:=hI.u0 _ fun i hi hi2 e=>by have:=h2 i j (by omega) (by omega) hi2 hdj e;omega
   have e9:RG o done d sc j=⟨sc.u.set (gi o j).n (gi sc.u (gi o j).n+d),sc.v.set j (gi sc.v j-d),sc.least⟩:=if_pos hdj
   rw [e9]
   clear hI hub hvb hlb h1 h2 eS2
   repeat' (first|apply Ae.AA|apply Ae.region|apply Ae.Aq|apply Ae.Ai|apply AO.normal|apply AL.normal|apply Ag.nil|apply Ag.one|(apply Aa.Du;rfl;rfl;(first|omega|(simp only [NP]<;>omega));exact congrArg (fun b=>some (FV.bool b)) (hdj))|(apply Aa.Eb (y:=(gi sc.u (gi o j).n+d));rfl;rfl;rfl;trivial;(first|rfl|(refine congrArg (fun t=>[PV.p (FV.int _ t)]) ?_;first|omega|(simp only [Int.natCast_add,Int.natCast_mul,Int.natCast_ediv,Int.natCast_emod]<;>omega)));rfl;rfl;decide;(first|omega|(simp only [List.length_set]<;>omega)))|(apply Aa.Eb (y:=(gi sc.v j-d));rfl;rfl;rfl;trivial;(first|rfl|(refine congrArg (fun t=>[PV.p (FV.int _ t)]) ?_;first|omega|(simp only [Int.natCast_add,Int.natCast_mul,Int.natCast_ediv,Int.natCast_emod]<;>omega)));rfl;rfl;decide;(first|omega|(simp only [List.length_set]<;>omega)))|(apply Aa.assign;rfl)|(apply Aa.move;rfl)|(apply Aa.Bv;rfl;rfl;omega)|(apply Aa.Ig;rfl;rfl;omega)|(apply Aa.int;rfl;rfl;rfl)|(apply Aa.Du;rfl;rfl;omega;rfl)|(apply Aa.Dk;rfl;rfl;rfl;rfl;omega)|(apply Ae.Af;rfl)|(apply Ae.cond_true;rfl)|(intro _;try (exfalso;omega)))
   all_goals try (exfalso;omega)
   refine Aw.normal ⟨by first|omega|decide,?_,?_⟩
   ·repeat (first|exact Ad.nil|refine Ad.same trivial rfl ?_|refine Ad.same (Ac rfl) rfl ?_|refine Ad.same ⟨trivial,Ac rfl,trivial⟩ rfl ?_|refine Ad.same ⟨trivial,Ac rfl,Ac rfl,trivial⟩ rfl ?_|refine Ad.same ⟨trivial,Ac rfl,Ac rfl,Ac rfl,trivial⟩ rfl ?_|refine Ad.same ⟨trivial,trivial⟩ rfl ?_|refine Ad.cons trivial rfl (.of_eq (Ar (by simp<;>omega))) ?_)
   ·repeat (first|exact Aj.nil|(refine Aj.cons (Ac rfl) ?_ rfl ?_ ?_;(first|exact HB.Ak rfl|exact AU.Ah _ _|(simp [HB.under,AU.under,PV.under]));(first|exact Bl.refl _|exact Bl.vec (Bh.refl _) (by simp))))
  ·have hdj':gi done j=false:=by cases h:gi done j<;>simp_all
   have hl1:=hlb j (by omega) hdj'
   have el:gi sc.least j=gi t0.least j:=by rw [hI.least,if_neg (by omega)]
   have e9:RG o done d sc j=⟨sc.u,sc.v,sc.least.set j (gi sc.least j-d)⟩:=if_neg hdj
   rw [e9]
   clear hI hub hvb hlb h1 h2 eS2
   repeat' (first|apply Ae.AA|apply Ae.region|apply Ae.Aq|apply Ae.Ai|apply AO.normal|apply AL.normal|apply Ag.nil|apply Ag.one|(apply Aa.Du;rfl;rfl;(first|omega|(simp only [NP]<;>omega));exact congrArg (fun b=>some (FV.bool b)) (hdj'))|(apply Aa.Eb (y:=(gi sc.least j-d));rfl;rfl;rfl;trivial;(first|rfl|(refine congrArg (fun t=>[PV.p (FV.int _ t)]) ?_;first|omega|(simp only [Int.natCast_add,Int.natCast_mul,Int.natCast_ediv,Int.natCast_emod]<;>omega)));rfl;rfl;decide;(first|omega|(simp only [List.length_set]<;>omega)))|(apply Aa.assign;rfl)|(apply Aa.move;rfl)|(apply Aa.Bv;rfl;rfl;omega)|(apply Aa.Ig;rfl;rfl;omega)|(apply Aa.int;rfl;rfl;rfl)|(apply Aa.Du;rfl;rfl;omega;rfl)|(apply Aa.Dk;rfl;rfl;rfl;rfl;omega)|(apply Ae.Af;rfl)|(apply Ae.cond_false;rfl)|(intro _;try (exfalso;omega)))
   all_goals try (exfalso;omega)
   refine Aw.normal ⟨by first|omega|decide,?_,?_⟩
   ·repeat (first|exact Ad.nil|refine Ad.same trivial rfl ?_|refine Ad.same (Ac rfl) rfl ?_|refine Ad.same ⟨trivial,Ac rfl,trivial⟩ rfl ?_|refine Ad.same ⟨trivial,Ac rfl,Ac rfl,trivial⟩ rfl ?_|refine Ad.same ⟨trivial,Ac rfl,Ac rfl,Ac rfl,trivial⟩ rfl ?_|refine Ad.same ⟨trivial,trivial⟩ rfl ?_|refine Ad.cons trivial rfl (.of_eq (Ar (by simp<;>omega))) ?_)
   ·repeat (first|exact Aj.nil|(refine Aj.cons (Ac rfl) ?_ rfl ?_ ?_;(first|exact HB.Ak rfl|exact AU.Ah _ _|(simp [HB.under,AU.under,PV.under]));(first|exact Bl.refl _|exact Bl.vec (Bh.refl _) (by simp))))
 ·repeat' (first|apply Ae.AA|apply Ae.AY|apply Aw.exit|apply Ag.nil|apply Ag.one|(apply Aa.int;rfl;rfl;rfl)|(apply Ae.Af;rfl)|(intro _;try (exfalso;omega)))
  all_goals try (exfalso;omega)
  refine ⟨rfl,⟨Nat.le_refl _,?_,?_⟩⟩
  ·repeat (first|exact Ad.nil|refine Ad.same trivial rfl ?_|refine Ad.same (Ac rfl) rfl ?_|refine Ad.same ⟨trivial,Ac rfl,trivial⟩ rfl ?_|refine Ad.same ⟨trivial,Ac rfl,Ac rfl,trivial⟩ rfl ?_|refine Ad.same ⟨trivial,Ac rfl,Ac rfl,Ac rfl,trivial⟩ rfl ?_|refine Ad.same ⟨trivial,trivial⟩ rfl ?_|refine Ad.cons trivial rfl (.of_eq (Ar (by simp<;>omega))) ?_)
  ·repeat (first|exact Aj.nil|(refine Aj.cons (Ac rfl) ?_ rfl ?_ ?_;(first|exact HB.Ak rfl|exact AU.Ah _ _|(simp [HB.under,AU.under,PV.under]));(first|exact Bl.refl _|exact Bl.vec (Bh.refl _) (by simp))))
def xW (e:TypeId) (costs:List (List Int)) (n m k:Nat) (a:Nat):Vm.Frame :=
 [(10,.p (.int .i64 (a:Int))),(0,.p (.lst e (cells costs) n)),(2,.ref 0 0),(3,.p (.int .i64 (n:Int))),(4,.p (.int .i64 (m:Int))),(5,.vec 1 (n+1) 0 (n+1)),(6,.vec 2 (m+1) 0 (m+1)),(7,.vec 3 (m+1) 0 (m+1)),(8,.vec 4 (m+1) 0 (m+1)),(9,.p (.int .i64 ((k+1:Nat):Int)))]
def yL (n m:Nat) (u v:List Int) (way o:List Ix):Vm.Heap :=
 [(3,.vec 3 (cells o) (m+1) false),(0,xJ),(1,.vec 3 (cells u) (n+1) false),(2,.vec 3 (cells v) (m+1) false),(4,.vec 3 (cells way) (m+1) false)]
theorem uV {costs:List (List Int)} {n m k U:Nat} {e:TypeId} {u v:List Int} {way:List Ix} {a:Aug} (hm:m≤1000) (hw:way.length=m+1) (hlen:∀ t,t≤U→(GK way a t).owner.length=m+1) (hgo:∀ t,t<U→(GK way a t).at_≠0) (hle:∀ t,t≤U→(GK way a t).at_≤m) (hfin:(GK way a U).at_=0) :
 Ae env 0 (Zy Tryz.f72 31) (xW e costs n m k a.at_) (yL n m u v way a.owner) 5 (fun ex L' H' nx'=>ex=.exit 8∧Wq L' H' nx' (xW e costs n m k 0) (yL n m u v way (GK way a U).owner) 5):=by
 show Ae env 0 (Code.loop _) _ _ _ _
 refine Ae.EX U (xW e costs n m k a.at_ |>.drop 1) (yL n m u v way a.owner |>.drop 1) (fun t _=>xW e costs n m k (GK way a t).at_) (fun t _=>yL n m u v way (GK way a t).owner) 5 (by omega) (Nat.le_refl _) ?_ ?_ ?_ ?_
 ·repeat (first|exact Ad.nil|refine Ad.same trivial rfl ?_|refine Ad.same (Ac rfl) rfl ?_|refine Ad.same ⟨trivial,Ac rfl,trivial⟩ rfl ?_|refine Ad.same ⟨trivial,Ac rfl,Ac rfl,trivial⟩ rfl ?_|refine Ad.same ⟨trivial,Ac rfl,Ac rfl,Ac rfl,trivial⟩ rfl ?_|refine Ad.same ⟨trivial,trivial⟩ rfl ?_|refine Ad.cons trivial rfl (.of_eq (Ar (by simp<;>omega))) ?_)
 ·repeat (first|exact Aj.nil|(refine Aj.cons (Ac rfl) ?_ rfl ?_ ?_;(first|exact HB.Ak rfl|exact AU.Ah _ _|(simp [HB.under,AU.under,PV.under]));(first|exact Bl.refl _|exact Bl.vec (Bh.refl _) (by simp))))
 ·intro t ht
  have h1:=hlen t (by omega)
  have h2:=hgo t ht
  have h3:=hle t (by omega)
  have h4:=hle (t+1) (by omega)
  have e1:GK way a (t+1)=⟨(GK way a t).owner.set (GK way a t).at_ (gi (GK way a t).owner (gi way (GK way a t).at_).n),(gi way (GK way a t).at_).n⟩:=rfl
  rw [e1] at h4 ⊢
  have h4:(gi way (GK way a t).at_).n≤m:=h4
  generalize GK way a t=x at *
  repeat' (first|apply Ae.assoc|apply Ae.AA|apply Ae.region|apply Ae.Aq|apply AL.normal|apply Ae.Hy|apply Ag.nil|apply Ag.one|(apply Aa.Eb (y:=(gi x.owner (gi way x.at_).n));rfl;rfl;rfl;trivial;(first|rfl|(refine congrArg (fun t=>[PV.p (FV.int _ t)]) ?_;first|omega|(simp only [Int.natCast_add,Int.natCast_mul,Int.natCast_ediv,Int.natCast_emod]<;>omega)));rfl;rfl;decide;(first|omega|(simp only [List.length_set]<;>omega)))|(apply Aa.assign;rfl)|(apply Aa.move;rfl)|(apply Aa.int;rfl;rfl;rfl)|(apply Aa.Du;rfl;rfl;omega;rfl)|(apply Aa.Dk;rfl;rfl;rfl;rfl;omega)|(apply Ae.Af;rfl)|(intro _;try (exfalso;omega)))
  all_goals try (exfalso;omega)
  refine Aw.normal ⟨by first|omega|decide,?_,?_⟩
  ·repeat (first|exact Ad.nil|refine Ad.same trivial rfl ?_|refine Ad.same (Ac rfl) rfl ?_|refine Ad.same ⟨trivial,Ac rfl,trivial⟩ rfl ?_|refine Ad.same ⟨trivial,Ac rfl,Ac rfl,trivial⟩ rfl ?_|refine Ad.same ⟨trivial,Ac rfl,Ac rfl,Ac rfl,trivial⟩ rfl ?_|refine Ad.same ⟨trivial,trivial⟩ rfl ?_|refine Ad.cons trivial rfl (.of_eq (Ar (by simp<;>omega))) ?_)
  ·repeat (first|exact Aj.nil|(refine Aj.cons (Ac rfl) ?_ rfl ?_ ?_;(first|exact HB.Ak rfl|exact AU.Ah _ _|(simp [HB.under,AU.under,PV.under]));(first|exact Bl.refl _|exact Bl.vec (Bh.refl _) (by simp))))
 ·rw [hfin]
  repeat' (first|apply Ae.assoc|apply Ae.AA|apply Ae.AY|apply Aw.exit|apply Ag.nil|apply Ag.one|(apply Aa.move;rfl)|(apply Aa.int;rfl;rfl;rfl)|(apply Ae.Az;rfl))
  all_goals try (exfalso;omega)
  refine ⟨rfl,⟨Nat.le_refl _,?_,?_⟩⟩
  ·repeat (first|exact Ad.nil|refine Ad.same trivial rfl ?_|refine Ad.same (Ac rfl) rfl ?_|refine Ad.same ⟨trivial,Ac rfl,trivial⟩ rfl ?_|refine Ad.same ⟨trivial,Ac rfl,Ac rfl,trivial⟩ rfl ?_|refine Ad.same ⟨trivial,Ac rfl,Ac rfl,Ac rfl,trivial⟩ rfl ?_|refine Ad.same ⟨trivial,trivial⟩ rfl ?_|refine Ad.cons trivial rfl (.of_eq (Ar (by simp<;>omega))) ?_)
  ·repeat (first|exact Aj.nil|(refine Aj.cons (Ac rfl) ?_ rfl ?_ ?_;(first|exact HB.Ak rfl|exact AU.Ah _ _|(simp [HB.under,AU.under,PV.under]));(first|exact Bl.refl _|exact Bl.vec (Bh.refl _) (by simp))))
def yj (e:TypeId) (costs:List (List Int)) (n m:Nat) (j:Nat):Vm.Frame :=
 [(20,.p (.int .i64 ((j+1:Nat):Int))),(0,.p (.lst e (cells costs) n)),(2,.ref 0 0),(4,.p (.int .i64 (m:Int))),(7,.vec 3 (m+1) 0 (m+1)),(19,.ref 6 0)]
def yF (n m:Nat) (U V:List Int) (o:List Ix) (x:Out):Vm.Heap :=
 [(5,.vec 3 (cells x.cols) n false),(6,.box 69 [.vec 5 n 0 n,.p (.int .i64 x.total),.p (.lst 3 (cells U) n),.p (.lst 3 (cells V) m)]),(0,xJ),(3,.vec 3 (cells o) (m+1) false)]
theorem tu {costs:List (List Int)} {n m:Nat} {e:TypeId} {U V:List Int} {o:List Ix} (hm:m≤1000) (hn:n≤1000) (hl:costs.length=n) (hrow:∀ r,r<n→(gi costs r).length=m) (ho:o.length=m+1) (hle:∀ j,1≤j→j≤m→(gi o j).n≤n) (hlen:∀ j,j≤m→(KF costs o n j).cols.length=n)
 (Ue:∀ r j,0≤gi (gi costs r) j∧gi (gi costs r) j≤1000000000000) (htot:∀ j,j≤m→0≤(KF costs o n j).total∧(KF costs o n j).total≤1000000000000000) :
 Ae env 0 (Zy Tryz.f72 36) (yj e costs n m 0) (yF n m U V o (KF costs o n 0)) 7 (fun ex L' H' nx'=>ex=.exit 10∧Wq L' H' nx' (yj e costs n m m) (yF n m U V o (KF costs o n m)) 7):=by
 show Ae env 0 (Code.loop _) _ _ _ _
 refine Ae.EX m (yj e costs n m 0 |>.drop 1) (yF n m U V o (KF costs o n 0) |>.drop 2) (fun j _=>yj e costs n m j) (fun j _=>yF n m U V o (KF costs o n j)) 7 (by omega) (Nat.le_refl _) ?_ ?_ ?_ ?_
 ·repeat (first|exact Ad.nil|refine Ad.same trivial rfl ?_|refine Ad.same (Ac rfl) rfl ?_|refine Ad.same ⟨trivial,Ac rfl,trivial⟩ rfl ?_|refine Ad.same ⟨trivial,Ac rfl,Ac rfl,trivial⟩ rfl ?_|refine Ad.same ⟨trivial,Ac rfl,Ac rfl,Ac rfl,trivial⟩ rfl ?_|refine Ad.same ⟨trivial,trivial⟩ rfl ?_|refine Ad.cons trivial rfl (.of_eq (Ar (by simp<;>omega))) ?_)
 ·repeat (first|exact Aj.nil|(refine Aj.cons (Ac rfl) ?_ rfl ?_ ?_;(first|exact HB.Ak rfl|exact AU.Ah _ _|(simp [HB.under,AU.under,PV.under]));(first|exact Bl.refl _|exact Bl.vec (Bh.refl _) (by simp))))
 ·intro j hj
  have h1:=hlen j (by omega)
  have h2:=htot j (by omega)
  have h3:=hle (j+1) (by omega) (by omega)
  have e1:KF costs o n (j+1)=oZ costs o (KF costs o n j) (j+1):=rfl
  rw [e1]
  generalize KF costs o n j=x at *
  by_cases hp:0<(gi o (j+1)).n
  ·have e9:oZ costs o x (j+1)=⟨x.cols.set ((gi o (j+1)).n-1) (((j+1:Nat):Int)-1),x.total+gi (gi costs ((gi o (j+1)).n-1)) j⟩:=if_pos hp
   rw [e9]
   have hrl:=hrow ((gi o (j+1)).n-1) (by omega)
   have hc1:=Ue ((gi o (j+1)).n-1) j
   have hs1:ES .sub .i64 ((gi o (j+1)).n:Int) 1=some (.int .i64 (((gi o (j+1)).n-1:Nat):Int)):=by
    simp only [ES]
    rw [wrap_i64 (by omega)]
    congr 2;omega
   have hs2:ES .sub .i64 ((j+1:Nat):Int) 1=some (.int .i64 (j:Int)):=by
    simp only [ES]
    rw [wrap_i64 (by omega)]
    congr 2;omega
   clear Ue htot hlen hle e1
   repeat' (first|apply Ae.assoc|apply Ae.AA|apply Ae.region|apply Ae.F5|apply Ae.Aq|apply Ae.Ai|apply AO.normal|apply AL.normal|apply Ag.nil|apply Ap.nil|apply Ag.one|(apply Ap.bar;decide +kernel)|apply Ap.quiet|(apply Aa.AP (l:=costs);rfl;rfl;rfl;omega;exact hl)|(apply Aa.int;rfl;rfl;exact hs1)|(apply Aa.int;rfl;rfl;exact hs2)|(apply Aa.Eb (y:=(((j+1:Nat):Int)-1));rfl;rfl;rfl;trivial;(first|rfl|(refine congrArg (fun t=>[PV.p (FV.int _ t)]) ?_;first|omega|(simp only [Int.natCast_add,Int.natCast_mul,Int.natCast_ediv,Int.natCast_emod]<;>omega)));rfl;rfl;decide;(first|omega|(simp only [List.length_set]<;>omega)))|(apply Aa.assign;rfl)|(apply Aa.move;rfl)|(apply Aa.Bv;rfl;rfl;omega)|(apply Aa.int;rfl;rfl;rfl)|(apply Aa.AP;rfl;rfl;rfl;omega;rfl)|(apply Aa.Du;rfl;rfl;omega;rfl)|(apply Aa.load;rfl;rfl)|(apply Aa.AQ;rfl;rfl;rfl)|(apply Aa.Bo;rfl;rfl;rfl;trivial;rfl;rfl;exact Ac rfl;exact le_dec rfl)|(apply Aa.Dk;rfl;rfl;rfl;rfl;omega)|(apply Ae.Af;rfl)|(apply Ae.AZ;rfl)|(intro _;try (exfalso;omega)))
   all_goals try (exfalso;omega)
   refine Aw.normal ⟨by first|omega|decide,?_,?_⟩
   ·repeat (first|exact Ad.nil|refine Ad.same trivial rfl ?_|refine Ad.same (Ac rfl) rfl ?_|refine Ad.same ⟨trivial,Ac rfl,trivial⟩ rfl ?_|refine Ad.same ⟨trivial,Ac rfl,Ac rfl,trivial⟩ rfl ?_|refine Ad.same ⟨trivial,Ac rfl,Ac rfl,Ac rfl,trivial⟩ rfl ?_|refine Ad.same ⟨trivial,trivial⟩ rfl ?_|refine Ad.cons trivial rfl (.of_eq (Ar (by simp<;>omega))) ?_)
   ·repeat (first|exact Aj.nil|(refine Aj.cons (Ac rfl) ?_ rfl ?_ ?_;(first|exact HB.Ak rfl|exact AU.Ah _ _|(simp [HB.under,AU.under,PV.under]));(first|exact Bl.refl _|exact Bl.vec (Bh.refl _) (by simp))))
  ·have e9:oZ costs o x (j+1)=x:=if_neg hp
   rw [e9]
   clear Ue htot hlen hle e1
   repeat' (first|apply Ae.assoc|apply Ae.AA|apply Ae.region|apply Ae.Aq|apply Ae.Ai|apply AO.normal|apply AL.normal|apply Ae.skip|apply Ag.nil|apply Ag.one|(apply Aa.assign;rfl)|(apply Aa.move;rfl)|(apply Aa.Bv;rfl;rfl;omega)|(apply Aa.int;rfl;rfl;rfl)|(apply Aa.Du;rfl;rfl;omega;rfl)|(apply Aa.Dk;rfl;rfl;rfl;rfl;omega)|(apply Ae.Af;rfl)|(apply Ae.AZ;rfl)|(intro _;try (exfalso;omega)))
   all_goals try (exfalso;omega)
   refine Aw.normal ⟨by first|omega|decide,?_,?_⟩
   ·repeat (first|exact Ad.nil|refine Ad.same trivial rfl ?_|refine Ad.same (Ac rfl) rfl ?_|refine Ad.same ⟨trivial,Ac rfl,trivial⟩ rfl ?_|refine Ad.same ⟨trivial,Ac rfl,Ac rfl,trivial⟩ rfl ?_|refine Ad.same ⟨trivial,Ac rfl,Ac rfl,Ac rfl,trivial⟩ rfl ?_|refine Ad.same ⟨trivial,trivial⟩ rfl ?_|refine Ad.cons trivial rfl (.of_eq (Ar (by simp<;>omega))) ?_)
   ·repeat (first|exact Aj.nil|(refine Aj.cons (Ac rfl) ?_ rfl ?_ ?_;(first|exact HB.Ak rfl|exact AU.Ah _ _|(simp [HB.under,AU.under,PV.under]));(first|exact Bl.refl _|exact Bl.vec (Bh.refl _) (by simp))))
 ·repeat' (first|apply Ae.assoc|apply Ae.AA|apply Ae.AY|apply Aw.exit|apply Ag.nil|apply Ag.one|(apply Aa.move;rfl)|(apply Aa.int;rfl;rfl;rfl)|(apply Ae.Af;rfl)|(intro _;try (exfalso;omega)))
  all_goals try (exfalso;omega)
  refine ⟨rfl,⟨Nat.le_refl _,?_,?_⟩⟩
  ·repeat (first|exact Ad.nil|refine Ad.same trivial rfl ?_|refine Ad.same (Ac rfl) rfl ?_|refine Ad.same ⟨trivial,Ac rfl,trivial⟩ rfl ?_|refine Ad.same ⟨trivial,Ac rfl,Ac rfl,trivial⟩ rfl ?_|refine Ad.same ⟨trivial,Ac rfl,Ac rfl,Ac rfl,trivial⟩ rfl ?_|refine Ad.same ⟨trivial,trivial⟩ rfl ?_|refine Ad.cons trivial rfl (.of_eq (Ar (by simp<;>omega))) ?_)
  ·repeat (first|exact Aj.nil|(refine Aj.cons (Ac rfl) ?_ rfl ?_ ?_;(first|exact HB.Ak rfl|exact AU.Ah _ _|(simp [HB.under,AU.under,PV.under]));(first|exact Bl.refl _|exact Bl.vec (Bh.refl _) (by simp))))
end Go.Proofs.YtdabojnmoejilaaGreatDoor
namespace Go.Proofs.YtdabojnmoejilaaGreatDoor
open Go Go.Am Go.Vm Go.Hun
attribute [local irreducible] Aa Ag Ap Ae BD AX CU AO AL Aw Vm.Done Df Bq
def a0v (costs:List (List Int)) (n m:Nat):PV:=.agg [.vec 5 n 0 n,.p (.int .i64 (Gs costs n m).total),.p (.lst 3 (cells (JD costs n m)) n),.p (.lst 3 (cells (GY costs n m)) m)]
theorem aS {costs:List (List Int)} {n m:Nat} {B:Int} (e:TypeId) (hc:Ii costs n m B) (hl:costs.length=n) (hrow:∀ r,r<n→(gi costs r).length=m) (hn:1≤n) (hm:m≤1000) :
 BD env 72 [.p (.lst e (cells costs) n)] [] 0 fun r H' nx'=>r=a0v costs n m∧H'=[(5,.vec 3 (cells (Gs costs n m).cols) n false)]∧nx'=6:=by
 have Xn:AX env 69 [.lst e (cells costs) n] (.p (.int .i64 (m:Int))):=by
  have:=Lr e costs (by have:=hc.nm;omega)
  rw [hl] at this
  rwa [show tV costs=m from hrow 0 (by omega)] at this
 have hnm:=hc.nm
 have hB:=hc.big
 refine BD.enter (AB (by decide)) Tryz.func72 rfl (by kernel_rfl) (by simp [Tryz.ntmps72]) ?_
 repeat' (first|apply Ae.assoc|apply Ae.AA|apply Ae.BF|apply Ae.Ai|apply Ag.nil|apply Ap.nil|apply Ag.one|(apply Ap.bar;decide +kernel)|apply Ap.quiet|(apply Aa.fn;rfl;rfl;exact Xn;intro _;rfl)|(apply Aa.Em (n+1) (0:Int);rfl;rfl;rfl;rfl;rfl;omega;omega;omega;decide;decide;rfl)|(apply Aa.Em (dst:=some 34) (m+1) (⟨0⟩:Ix);rfl;rfl;rfl;rfl;rfl;omega;omega;omega;decide;decide;rfl)|(apply Aa.Em (dst:=some 37) (m+1) (⟨0⟩:Ix);rfl;rfl;rfl;rfl;rfl;omega;omega;omega;decide;decide;rfl)|(apply Aa.Em (m+1) (0:Int);rfl;rfl;rfl;rfl;rfl;omega;omega;omega;decide;decide;rfl)|(apply Aa.assign;rfl)|(apply Aa.move;rfl)|(apply Aa.Bv;rfl;rfl;omega)|(apply Aa.BI;rfl;rfl)|(apply Aa.alloc;rfl))
 apply Ae.EX (n) [(0,_),(2,_),(3,_),(4,_),(5,_),(6,_),(7,_),(8,_)] [(0,_)] (fun k r=>(9,.p (.int .i64 ((k+1:Nat):Int)))::r) (fun k r=>(1,.vec 3 (cells (C9 costs n m k).u) (n+1) false)::(2,.vec 3 (cells (C9 costs n m k).v) (m+1) false)::(3,.vec 3 (cells (C9 costs n m k).owner) (m+1) false)::(4,.vec 3 (cells (C9 costs n m k).way) (m+1) false)::r) 5
 ·first|omega|decide
 ·first|omega|decide
 ·repeat (first|exact Ad.nil|(refine Ad.eq rfl ?_ ?_;(first|exact PV.Ak rfl|(simp [PV.under,AU.under];done)))|refine Ad.cons trivial rfl (.of_eq (Ar (by simp<;>omega))) ?_)
 ·repeat (first|exact Aj.nil|(refine Aj.eq rfl (Ac rfl) ?_ ?_;(first|exact HB.Ak rfl|exact AU.Ah _ _|(simp [HB.under,AU.under,PV.under];done)))|(refine Aj.cons (Ac rfl) ?_ rfl ?_ ?_;(first|exact trivial|exact AU.Ah _ _|(simp [HB.under,AU.under,PV.under]));(first|exact Bl.refl _|exact Bl.vec (Bh.refl _) (by simp))))
 ·intro k hk
  have hS:=NH hc k (by omega)
  have hS':=hS.step hc hk
  obtain ⟨hgo,hend,hT⟩:=Y8 hS hc hk
  have hgr:=OI hS hc hk
  have hback:=lq hS hc hk
  have hv0:=Y9 hS hc hk
  have a9g:=cO hc k (by omega)
  have ho:=Yd hS
  have eS:C9 costs n m (k+1)=Nj costs m (C9 costs n m k) (k+1):=rfl
  have l1:=hS.lu
  have l2:=hS.lv
  have l3:=hS.lo
  have l4:=hS.lw
  rw [eS]
  generalize C9 costs n m k=s at *
  repeat' (first|(refine Ap.atIdx 3 ?_;refine Ap.ghost (Ba.freeze 46 rfl rfl) ?_)|apply Ae.assoc|apply Ae.AA|apply Ae.BF|apply Ae.Aq|apply Ae.Ai|apply Ag.nil|apply Ap.nil|apply Ag.one|(apply Ap.bar;decide +kernel)|apply Ap.quiet|(apply Aa.Eb (y:=(⟨k+1⟩:Ix));rfl;rfl;rfl;trivial;(first|rfl|(refine congrArg (fun t=>[PV.p (FV.int _ t)]) ?_;first|omega|(simp only [Int.natCast_add,Int.natCast_mul,Int.natCast_ediv,Int.natCast_emod]<;>omega)));rfl;rfl;decide;(first|omega|(simp only [List.length_set]<;>omega)))|(apply Aa.fv;rfl;rfl;exact TF 3 far (m+1) (by omega) (by omega))|(apply Aa.Em (m+1) false;rfl;rfl;rfl;rfl;rfl;omega;omega;omega;decide;decide;rfl)|(apply Aa.assign;rfl)|(apply Aa.move;rfl)|(apply Aa.Bv;rfl;rfl;omega)|(apply Aa.int;rfl;rfl;rfl)|(apply Aa.buildSlice;rfl;rfl;rfl;decide;rfl;rfl;rfl)|(apply Aa.kG;rfl;rfl;rfl;rfl;omega;omega)|(apply Ae.Af;rfl)|(intro _;try (exfalso;omega)))
  all_goals try (exfalso;omega)
  apply Ae.EX (Xb costs m s (k+1)) [(0,_),(2,_),(3,_),(4,_),(5,_),(6,_),(7,_),(8,_),(9,_),(11,_),(12,_)] [(0,_)] (fun k_ r=>(10,.p (.int .i64 ((Ed costs (I7 s (k+1)) m (P5 m s) k_).at_:Int)))::r) (fun k_ r=>(1,.vec 3 (cells (Ed costs (I7 s (k+1)) m (P5 m s) k_).u) (n+1) false)::(2,.vec 3 (cells (Ed costs (I7 s (k+1)) m (P5 m s) k_).v) (m+1) false)::(3,.vec 3 (cells (I7 s (k+1))) (m+1) false)::(4,.vec 3 (cells (Ed costs (I7 s (k+1)) m (P5 m s) k_).way) (m+1) false)::(6,.vec 3 (cells (Ed costs (I7 s (k+1)) m (P5 m s) k_).least) (m+1) false)::(7,.vec 4 (cells (Ed costs (I7 s (k+1)) m (P5 m s) k_).done) (m+1) false)::r) 8
  ·first|omega|decide
  ·first|omega|decide
  ·repeat (first|exact Ad.nil|(refine Ad.eq rfl ?_ ?_;(first|exact PV.Ak rfl|(simp [PV.under,AU.under];done)))|refine Ad.cons trivial rfl (.of_eq (Ar (by simp<;>omega))) ?_)
  ·repeat (first|exact Aj.nil|(refine Aj.eq rfl (Ac rfl) ?_ ?_;(first|exact HB.Ak rfl|exact AU.Ah _ _|(simp [HB.under,AU.under,PV.under];done)))|(refine Aj.cons (Ac rfl) ?_ rfl ?_ ?_;(first|exact trivial|exact AU.Ah _ _|(simp [HB.under,AU.under,PV.under]));(first|exact Bl.refl _|exact Bl.vec (Bh.refl _) (by simp))))
  ·intro t ht
   have hg:=hgr t fun p hp=>hgo p (by omega)
   have hr:=hgo t ht
   have hR:=JQ hg hc ho hk hr
   have hSh:=ND hg hc ho hk hr
   have hpre:=Yv hg hc ho hk hr
   have hub:∀ r,1≤r→r≤k+1→gi (Ed costs (I7 s (k+1)) m (P5 m s) t).u r≤B:=fun r r1 r2=>hg.ule hc ho (by omega) r1 r2
   have hvb:∀ j,1≤j→j≤m→-B≤gi (Ed costs (I7 s (k+1)) m (P5 m s) t).v j:=fun j j1 j2=>hg.vge hc ho (by omega) j1 j2
   have a8s:=hv0 t fun p hp=>hgo p (by omega)
   have eG:Ed costs (I7 s (k+1)) m (P5 m s) (t+1)=Gp costs (I7 s (k+1)) m (Ed costs (I7 s (k+1)) m (P5 m s) t):=rfl
   have hat:Me costs m k s t=(Ed costs (I7 s (k+1)) m (P5 m s) t).at_:=rfl
   have hle:=hg.le t (Nat.le_refl _)
   rw [hat] at hr hle
   rw [eG]
   generalize Ed costs (I7 s (k+1)) m (P5 m s) t=g at *
   have a3j:=ho.lt hle
   have lo:=ho.len
   generalize I7 s (k+1)=o at *
   obtain ⟨row,hrw⟩:∃ row,row=(gi o g.at_).n:=⟨_,rfl⟩
   have hr1:1≤row:=by have:(gi o g.at_).n≠0:=hr;omega
   have hr2:row≤k+1:=by rw [hrw];exact a3j
   have m1:=hg.lu
   have m2:=hg.lv
   have m3:=hg.lw
   have m4:=hg.ll
   have m5:=hg.ld
   have eR:Gp costs o m g=⟨(Hw o (CP g) (DR costs o m g).delta ⟨g.u,g.v,(DR costs o m g).least⟩ (m+1)).u,(Hw o (CP g) (DR costs o m g).delta ⟨g.u,g.v,(DR costs o m g).least⟩ (m+1)).v,(DR costs o m g).way,(Hw o (CP g) (DR costs o m g).delta ⟨g.u,g.v,(DR costs o m g).least⟩ (m+1)).least,CP g,(DR costs o m g).next⟩:=rfl
   rw [eR]
   have hD9:(CP g).length=m+1:=by unfold CP;rw [List.length_set,m5]
   have hrl:(gi costs ((gi o g.at_).n-1)).length=m:=hrow _ (by omega)
   have Ue:∀ j,0≤gi (gi costs ((gi o g.at_).n-1)) j∧gi (gi costs ((gi o g.at_).n-1)) j≤B:=fun j=>⟨hc.lo (gi o g.at_).n (j+1),hc.hi (gi o g.at_).n (j+1)⟩
   have hu0:=hg.Ut (gi o g.at_).n (by omega) (by omega)
   have hu1:=hub (gi o g.at_).n (by omega) (by omega)
   have hs1:ES .sub .i64 ((gi o g.at_).n:Int) 1=some (.int .i64 (((gi o g.at_).n-1:Nat):Int)):=by
    simp only [ES]
    rw [wrap_i64 (by omega)]
    congr 2;omega
   have hdn:∀ j,j≤m→gi (CP g) j=true→1≤(gi o j).n∧(gi o j).n≤k+1:=fun j hj hd=>by
    obtain ⟨p,p1,p2⟩:=(hR.doneD j).1 hd
    have h1:=ho.lt hj
    refine ⟨?_,h1⟩
    rcases Nat.lt_or_ge p t with h|h
    ·have:=hg.ou p h
     rw [p2] at this
     unfold Hun.own at this
     omega
    ·obtain rfl:p=t:=by omega
     have h2:=hr
     rw [← hat,p2] at h2
     unfold Hun.own at h2
     omega
   clear hs1
   have hkB:(k:Int)*B≤1000*1000000000000:=Int.mul_le_mul (by omega) hB.2 hB.1 (by omega)
   repeat' (first|apply Ae.assoc|apply Ae.AA|apply Ae.Aq|apply Ae.Ai|apply Ae.Hy|apply Ag.nil|apply Ag.one|(apply Aa.Eb (y:=true);rfl;rfl;rfl;trivial;(first|rfl|(refine congrArg (fun t=>[PV.p (FV.int _ t)]) ?_;first|omega|(simp only [Int.natCast_add,Int.natCast_mul,Int.natCast_ediv,Int.natCast_emod]<;>omega)));rfl;rfl;decide;(first|omega|(simp only [List.length_set]<;>omega)))|(apply Aa.assign;rfl)|(apply Aa.move;rfl)|(apply Aa.int;rfl;rfl;rfl)|(apply Aa.Du;rfl;rfl;omega;rfl)|(apply Aa.Dk;rfl;rfl;rfl;rfl;omega)|(apply Ae.Af;rfl)|(intro _;try (exfalso;omega)))
   all_goals try (exfalso;omega)
   refine Ae.blk (mM (e:=e) (k:=k) (row:=(gi o g.at_).n) (a:=g.at_) (u:=g.u) (v:=g.v) (o:=o) (done:=CP g) (s0:=⟨g.least,g.way,far,0⟩) hB hl hm (by omega) ⟨by omega,by omega⟩ hrl Ue m1 m2 hD9 m4 m3 ⟨hu0,hu1⟩ fun j j1 j2=>⟨hvb j j1 j2,hg.dV j j1 j2⟩) (by omega) (by omega) ?_ ?_ ?_
   ·repeat (first|exact Ad.nil|refine Ad.same trivial rfl ?_|refine Ad.same (Ac rfl) rfl ?_|refine Ad.same ⟨trivial,Ac rfl,trivial⟩ rfl ?_|refine Ad.same ⟨trivial,Ac rfl,Ac rfl,trivial⟩ rfl ?_|refine Ad.same ⟨trivial,Ac rfl,Ac rfl,Ac rfl,trivial⟩ rfl ?_|refine Ad.same ⟨trivial,trivial⟩ rfl ?_|refine Ad.cons trivial rfl (.of_eq (Ar (by simp<;>omega))) ?_)
   ·repeat (first|exact Aj.nil|(refine Aj.cons (Ac rfl) ?_ rfl ?_ ?_;(first|exact HB.Ak rfl|exact AU.Ah _ _|(simp [HB.under,AU.under,PV.under]));(first|exact Bl.refl _|exact Bl.vec (Bh.refl _) (by simp))))
   ·have eC:J9 (gi costs ((gi o g.at_).n-1)) (gi g.u (gi o g.at_).n) g.v (CP g) g.at_ ⟨g.least,g.way,far,0⟩ m=DR costs o m g:=rfl
    rw [eC]
    generalize DR costs o m g=sc at *
    have n1:=hR.ll
    have n2:=hR.lw
    repeat' (first|apply Ae.assoc|apply Ae.AA|apply Ae.Ai|apply AO.normal|apply AL.exit|apply Ag.nil|apply Ag.one|(apply Aa.move;rfl)|(apply Aa.lenV;rfl;rfl;rfl))
    all_goals try (exfalso;omega)
    refine Ae.blk (gy (e:=e) (costs:=costs) (k:=k) (nxt:=sc.next) (o:=o) (way:=sc.way) (done:=CP g) (t0:=⟨g.u,g.v,sc.least⟩) ⟨hR.d0,by have:=hR.dB;omega⟩ hm (by omega) m1 m2 n1 lo hD9 hpre.1 hpre.2 (fun j hj hd=>?_) (fun j hj=>?_) (fun j hj hd=>?_)) (by omega) (by omega) ?_ ?_ ?_
    ·have:=hdn j hj hd
     exact ⟨hg.Ut _ this.1 this.2,Int.le_trans (hub _ this.1 this.2) hB.2⟩
    ·show -2000000000000000≤gi g.v j∧gi g.v j≤0
     rcases Nat.eq_zero_or_pos j with h|h
     ·subst h
      have:=hg.Ut (k+1) (by omega) (Nat.le_refl _)
      have:=hub (k+1) (by omega) (Nat.le_refl _)
      omega
     ·have:=hvb j h hj
      exact ⟨by omega,hg.dV j h hj⟩
    ·have h0:1≤j:=by
      rcases Nat.eq_zero_or_pos j with h|h
      ·subst h
       rw [(hR.doneD 0).2 ⟨0,by omega,hg.zero⟩] at hd
       cases hd
      ·exact h
     obtain ⟨p,p1,p2,p3⟩:=hR.V7 j h0 hj hd
     have h1:=hR.dle j h0 hj hd
     have h2:=hR.d0
     have h3:=hvb j h0 hj
     have h4:=hc.hi (Hun.own o (Me costs m k s p)) j
     have h5:0≤gi g.u (Hun.own o (Me costs m k s p)):=by
      have hp1:Hun.own o (Me costs m k s p)≠0:=by
       rcases Nat.lt_or_ge p t with h|h
       ·exact hg.ou p h
       ·obtain rfl:p=t:=by omega
        rw [hat];exact hr
      exact hg.Ut _ (by omega) (ho.lt (hg.le p (by omega)))
     have hf:far=1152921504606846976:=rfl
     show 0≤gi sc.least j∧gi sc.least j≤far
     omega
    ·repeat (first|exact Ad.nil|refine Ad.same trivial rfl ?_|refine Ad.same (Ac rfl) rfl ?_|refine Ad.same ⟨trivial,Ac rfl,trivial⟩ rfl ?_|refine Ad.same ⟨trivial,Ac rfl,Ac rfl,trivial⟩ rfl ?_|refine Ad.same ⟨trivial,Ac rfl,Ac rfl,Ac rfl,trivial⟩ rfl ?_|refine Ad.same ⟨trivial,trivial⟩ rfl ?_|refine Ad.cons trivial rfl (.of_eq (Ar (by simp<;>omega))) ?_)
    ·repeat (first|exact Aj.nil|(refine Aj.cons (Ac rfl) ?_ rfl ?_ ?_;(first|exact HB.Ak rfl|exact AU.Ah _ _|(simp [HB.under,AU.under,PV.under]));(first|exact Bl.refl _|exact Bl.vec (Bh.refl _) (by simp))))
    ·repeat' (first|apply Ae.region|apply AO.normal|apply AL.normal|apply AL.exit|apply Ag.nil|apply Ag.one|(apply Aa.assign;rfl)|(apply Aa.move;rfl))
     all_goals try (exfalso;omega)
     refine Aw.normal ⟨by first|omega|decide,?_,?_⟩
     ·repeat (first|exact Ad.nil|refine Ad.same trivial rfl ?_|refine Ad.same (Ac rfl) rfl ?_|refine Ad.same ⟨trivial,Ac rfl,trivial⟩ rfl ?_|refine Ad.same ⟨trivial,Ac rfl,Ac rfl,trivial⟩ rfl ?_|refine Ad.same ⟨trivial,Ac rfl,Ac rfl,Ac rfl,trivial⟩ rfl ?_|refine Ad.same ⟨trivial,trivial⟩ rfl ?_|refine Ad.cons trivial rfl (.of_eq (Ar (by simp<;>omega))) ?_)
     ·repeat (first|exact Aj.nil|(refine Aj.cons (Ac rfl) ?_ rfl ?_ ?_;(first|exact HB.Ak rfl|exact AU.Ah _ _|(simp [HB.under,AU.under,PV.under]));(first|exact Bl.refl _|exact Bl.vec (Bh.refl _) (by simp))))
  ·have h0:(gi (I7 s (k+1)) (Ed costs (I7 s (k+1)) m (P5 m s) (Xb costs m s (k+1))).at_).n=0:=hend
   have hg:=hgr _ hgo
   have hle:=hg.le _ (Nat.le_refl _)
   have hat:Me costs m k s (Xb costs m s (k+1))=(Ed costs (I7 s (k+1)) m (P5 m s) (Xb costs m s (k+1))).at_:=rfl
   rw [hat] at hle
   have lo:=ho.len
   have eE:Ed costs (I7 s (k+1)) m (P5 m s) (Xb costs m s (k+1))=LG costs m s (k+1):=rfl
   rw [eE] at h0 hle hg hat ⊢
   repeat' (first|apply Ae.assoc|apply Ae.AA|apply Ae.AY|apply AO.normal|apply AL.exit|apply Aw.exit|apply Ae.Hy|apply Ag.nil|apply Ag.one|(apply Aa.move;rfl)|(apply Aa.int;rfl;rfl;rfl)|(apply Aa.Du;rfl;rfl;omega;rfl)|(apply Aa.Dk;rfl;rfl;rfl;rfl;omega)|(apply Ae.Af;rfl)|(intro _;try (exfalso;omega)))
   all_goals try (exfalso;omega)
   have hA:∀ t,t≤yB costs m s (k+1)→(GK (LG costs m s (k+1)).way (stA costs m s (k+1)) t).owner.length=m+1∧(GK (LG costs m s (k+1)).way (stA costs m s (k+1)) t).at_≤m:=fun t ht=>by
    obtain ⟨q,q1,q2⟩:=hback.inv t ht
    exact ⟨q2.len,by rw [q2.at_];exact (hgr q fun p hp=>hgo p (by omega)).le q (Nat.le_refl _)⟩
   refine Ae.blk (uV (e:=e) (costs:=costs) (n:=n) (k:=k) (u:=(LG costs m s (k+1)).u) (v:=(LG costs m s (k+1)).v) (a:=stA costs m s (k+1)) hm hg.lw (fun t ht=>(hA t ht).1) hback.go (fun t ht=>(hA t ht).2) hback.fin) (by omega) (by omega) ?_ ?_ ?_
   ·repeat (first|exact Ad.nil|refine Ad.same trivial rfl ?_|refine Ad.same (Ac rfl) rfl ?_|refine Ad.same ⟨trivial,Ac rfl,trivial⟩ rfl ?_|refine Ad.same ⟨trivial,Ac rfl,Ac rfl,trivial⟩ rfl ?_|refine Ad.same ⟨trivial,Ac rfl,Ac rfl,Ac rfl,trivial⟩ rfl ?_|refine Ad.same ⟨trivial,trivial⟩ rfl ?_|refine Ad.cons trivial rfl (.of_eq (Ar (by simp<;>omega))) ?_)
   ·repeat (first|exact Aj.nil|(refine Aj.cons (Ac rfl) ?_ rfl ?_ ?_;(first|exact HB.Ak rfl|exact AU.Ah _ _|(simp [HB.under,AU.under,PV.under]));(first|exact Bl.refl _|exact Bl.vec (Bh.refl _) (by simp))))
   ·repeat' (first|apply Ae.region|apply AO.normal|apply AL.normal|apply AL.exit|apply Ag.nil|apply Ag.one|(apply Aa.assign;rfl)|(apply Aa.move;rfl)|(apply Aa.Bv;rfl;rfl;omega))
    all_goals try (exfalso;omega)
    refine Aw.normal ⟨by first|omega|decide,?_,?_⟩
    ·repeat (first|exact Ad.nil|refine Ad.same trivial rfl ?_|refine Ad.same (Ac rfl) rfl ?_|refine Ad.same ⟨trivial,Ac rfl,trivial⟩ rfl ?_|refine Ad.same ⟨trivial,Ac rfl,Ac rfl,trivial⟩ rfl ?_|refine Ad.same ⟨trivial,Ac rfl,Ac rfl,Ac rfl,trivial⟩ rfl ?_|refine Ad.same ⟨trivial,trivial⟩ rfl ?_|refine Ad.cons trivial rfl (.of_eq (Ar (by simp<;>omega))) ?_)
    ·repeat (first|exact Aj.nil|(refine Aj.cons (Ac rfl) ?_ rfl ?_ ?_;(first|exact HB.Ak rfl|exact AU.Ah _ _|(simp [HB.under,AU.under,PV.under]));(first|exact Bl.refl _|exact Bl.vec (Bh.refl _) (by simp))))
 ·have hS:=NH hc n (Nat.le_refl _)
  have hO:=V8 hS
  have hs:=VN hc
  have l1:=hS.lu
  have l2:=hS.lv
  have l3:=hS.lo
  have eO:KF costs (C9 costs n m n).owner n m=Gs costs n m:=rfl
  have eU:(C9 costs n m n).u.drop 1=JD costs n m:=rfl
  have eV:(C9 costs n m n).v.drop 1=GY costs n m:=rfl
  have htot:∀ j,j≤m→0≤(KF costs (C9 costs n m n).owner n j).total∧(KF costs (C9 costs n m n).owner n j).total≤1000000000000000:=fun j hj=>by
   rw [(hO j hj).total]
   have h1:=gI (f:=fun k=>if 0<Hun.own (C9 costs n m n).owner (k+1) then cst costs (Hun.own (C9 costs n m n).owner (k+1)) (k+1) else 0) (a:=0) (b:=1000000000000) (n:=j) fun k hk=>by
    split
    ·exact ⟨hc.lo _ _,Int.le_trans (hc.hi _ _) hB.2⟩
    ·exact ⟨Int.le_refl _,by decide⟩
   omega
  generalize C9 costs n m n=s at *
  repeat' (first|(refine Ae.at 34 ?_;refine Ae.ghost (Ba.freeze 5 rfl rfl) ?_;first|apply Ae.AA|apply Ae.BF)|(refine Ap.atIdx 4 ?_;refine Ap.ghost (Ba.freeze 6 rfl rfl) ?_)|apply Ae.assoc|apply Ae.AA|apply Ae.AY|apply Ae.Ai|apply AO.normal|apply AL.exit|apply Aw.exit|apply Ag.nil|apply Ap.nil|apply Ag.one|(apply Ap.bar;decide +kernel)|apply Ap.quiet|(apply Aa.Em n (0:Int);rfl;rfl;rfl;rfl;rfl;rfl;rfl;omega;decide;decide;rfl)|(apply Aa.sliceFrom (l:=s.u) (a:=1);rfl;rfl;rfl;rfl;rfl;exact l1;omega)|(apply Aa.sliceFrom (l:=s.v) (a:=1);rfl;rfl;rfl;rfl;rfl;exact l2;omega)|(apply Aa.assign;rfl)|(apply Aa.move;rfl)|(apply Aa.int;rfl;rfl;rfl)|(apply Aa.alloc;rfl)|(apply Aa.Bo;rfl;rfl;rfl;trivial;rfl;rfl;exact Ac rfl;exact le_dec rfl)|(apply Aa.build;rfl;rfl;rfl;rfl;rfl)|(apply Ae.Af;rfl)|(intro _;try (exfalso;omega)))
  all_goals try (exfalso;omega)
  have e1:costs.length=n:=hl
  refine Ae.blk (tu (e:=e) (costs:=costs) (n:=n) (m:=m) (U:=s.u.drop 1) (V:=s.v.drop 1) (o:=s.owner) hm (by omega) hl hrow l3 (fun j j1 j2=>hS.own j j1 j2) (fun j hj=>(hO j hj).len) (fun r j=>⟨hc.lo (r+1) (j+1),Int.le_trans (hc.hi (r+1) (j+1)) hB.2⟩) htot) (by omega) (by omega) ?_ ?_ ?_
  ·repeat (first|exact Ad.nil|refine Ad.same trivial rfl ?_|refine Ad.same (Ac rfl) rfl ?_|refine Ad.same ⟨trivial,Ac rfl,trivial⟩ rfl ?_|refine Ad.same ⟨trivial,Ac rfl,Ac rfl,trivial⟩ rfl ?_|refine Ad.same ⟨trivial,Ac rfl,Ac rfl,Ac rfl,trivial⟩ rfl ?_|refine Ad.same ⟨trivial,trivial⟩ rfl ?_|refine Ad.cons trivial rfl (.of_eq (Ar (by simp<;>omega))) ?_)
  ·repeat (first|exact Aj.nil|(refine Aj.cons (Ac rfl) ?_ rfl ?_ ?_;(first|exact HB.Ak rfl|exact AU.Ah _ _|(simp [HB.under,AU.under,PV.under]));(first|exact Bl.refl _|exact Bl.vec (Bh.refl _) (by simp))))
  ·rw [eO,eU,eV]
   repeat' (first|apply Ae.AA|apply AO.normal|apply AL.exit|apply Ae.ret|apply Ag.nil|apply Ag.one|(apply Aa.load;rfl;rfl)|(apply Aa.Bo;rfl;rfl;rfl;trivial;rfl;rfl;exact Ac rfl;exact le_dec rfl))
   all_goals try (exfalso;omega)
   refine Done.ret (H0:=[(5,.vec 3 (cells (Gs costs n m).cols) n false)]) (DV:=6) rfl (.refl _) ⟨Ac rfl,trivial,trivial,trivial,trivial⟩ ?_ (by omega) (by omega) ⟨rfl,rfl,rfl⟩
   repeat (first|exact Aj.nil|(refine Aj.cons (Ac rfl) ?_ rfl ?_ ?_;(first|exact HB.Ak rfl|exact AU.Ah _ _|(simp [HB.under,AU.under,PV.under]));(first|exact Bl.refl _|exact Bl.vec (Bh.refl _) (by simp))))
end Go.Proofs.YtdabojnmoejilaaGreatDoor
namespace Go.Proofs.YtdabojnmoejilaaGreatDoor
open Go Go.Am Go.Vm Go.Hun
attribute [local irreducible] Aa Ag Ap Ae BD AX CU AO AL Aw Vm.Done Df Bq
theorem UA {L:Vm.Frame} {H:Vm.Heap} {nx:Nat} {Q:PV→Vm.Heap→Nat→Prop} {dst:Option Tmp} {ty:TypeId} {pos:String} {af:Array Edge} {gd:Option (Nat×Bool)} {fo:Operand} {args:Array Operand} {aT:Array TypeId} {fs cs xs:List PV} {c:Code}
 (hf:BA env.Γ L fo=some (.clo 75 fs cs)) (ha:evs env.Γ L args.toList=some xs) (hb:Tryz.f75.body=some c) (hn:(fs++xs++cs).length≤Tryz.f75.ntmps)
 (h:Ae env nx c (CO 0 (fs++xs++cs)) H nx (Bq env.P Tryz.f75.results.toList Q)):Aa env true ⟨dst,.call { callee:=.value fo,args:=args,argTypes:=aT },ty,pos,af,gd⟩ L H nx Q:=by
 have h0:(match Tryz.f75.body with|some c=>Hq env.G Tryz.f75 c|none=>false)=true:=by kernel_rfl
 rw [hb] at h0
 exact Aa.inline rfl hf ha (AB (by decide)) Tryz.func75 hb h0 hn h
theorem UC {L:Vm.Frame} {H:Vm.Heap} {nx:Nat} {Q:PV→Vm.Heap→Nat→Prop} {dst:Option Tmp} {ty:TypeId} {pos:String} {af:Array Edge} {gd:Option (Nat×Bool)} {fo:Operand} {args:Array Operand} {aT:Array TypeId} {fs cs xs:List PV} {c:Code}
 (hf:BA env.Γ L fo=some (.clo 104 fs cs)) (ha:evs env.Γ L args.toList=some xs) (hb:Tryz.f104.body=some c) (hn:(fs++xs++cs).length≤Tryz.f104.ntmps)
 (h:Ae env nx c (CO 0 (fs++xs++cs)) H nx (Bq env.P Tryz.f104.results.toList Q)):Aa env true ⟨dst,.call { callee:=.value fo,args:=args,argTypes:=aT },ty,pos,af,gd⟩ L H nx Q:=by
 have h0:(match Tryz.f104.body with|some c=>Hq env.G Tryz.f104 c|none=>false)=true:=by kernel_rfl
 rw [hb] at h0
 exact Aa.inline rfl hf ha (AB (by decide)) Tryz.func104 hb h0 hn h
theorem wX {L:Vm.Frame} {H:Vm.Heap} {nx:Nat} {Q:PV→Vm.Heap→Nat→Prop} {dst:Option Tmp} {ty:TypeId} {pos:String} {af:Array Edge} {gd:Option (Nat×Bool)} {fo:Operand} {args:Array Operand} {aT:Array TypeId} {fs cs xs:List PV} {c:Code}
 (hf:BA env.Γ L fo=some (.clo 101 fs cs)) (ha:evs env.Γ L args.toList=some xs) (hb:Tryz.f101.body=some c) (hn:(fs++xs++cs).length≤Tryz.f101.ntmps)
 (h:Ae env nx c (CO 0 (fs++xs++cs)) H nx (Bq env.P Tryz.f101.results.toList Q)):Aa env true ⟨dst,.call { callee:=.value fo,args:=args,argTypes:=aT },ty,pos,af,gd⟩ L H nx Q:=by
 have h0:(match Tryz.f101.body with|some c=>Hq env.G Tryz.f101 c|none=>false)=true:=by kernel_rfl
 rw [hb] at h0
 exact Aa.inline rfl hf ha (AB (by decide)) Tryz.func101 hb h0 hn h
structure PZ (l:List (List Int)) (n m:Nat) (skip B:Int):Prop where
 Uf:xM l n m skip B
 n60:n≤60
 uS:m≤120
 B9:B≤1000000000
 m0:n=0→m=0
theorem PZ.cols {l:List (List Int)} {n m:Nat} {skip B:Int} (h:PZ l n m skip B):tV l=m:=by
 rcases Nat.eq_zero_or_pos n with h0|h0
 ·have:l=[]:=List.length_eq_zero_iff.1 (by rw [h.Uf.len];exact h0)
  rw [this,h.m0 h0]
  rfl
 ·exact h.Uf.row 0 h0
theorem Z8 {l:List (List Int)} {n m:Nat} {skip B:Int} (e:TypeId) (h:PZ l n m skip B):AX env 73 [.lst e (cells l) l.length,.bool false] (.p (.int .i64 0)):=by
 have h1:=h.Uf.len
 have h2:=h.n60
 have h3:=h.uS
 have h4:=h.B9
 have Xn:=h.cols
 have hrow:=h.Uf.row
 have uG:=h.Uf.rng
 refine AX.enter (AB (by decide)) Tryz.func73 rfl (by kernel_rfl) (by simp [Tryz.ntmps73]) ?_
 rcases Nat.eq_zero_or_pos n with h0|h0
 ·have hl0:l=[]:=List.length_eq_zero_iff.1 (by omega)
  subst hl0
  repeat' (first|apply Ae.assoc|apply Ae.AA|apply Ae.Aq|apply Ae.Ai|apply Ag.nil|apply Ag.one|(apply Ag.take;rfl;rfl)|(apply Ag.drop;rfl;rfl;rfl)|(apply Aa.assign;rfl)|(apply Aa.move;rfl)|(apply Aa.int;rfl;rfl;rfl)|(apply Aa.AV;rfl;rfl)|(apply Aa.BI;rfl;rfl)|(apply Ae.Az;rfl))
  all_goals try (exfalso;omega)
  all_goals try contradiction
  apply Ae.EX (0) [(0,_),(1,_),(24,_),(25,_)] [] (fun k r=>(26,.p (.int .i64 (k:Int)))::r) (fun k r=>r) 0
  ·first|omega|decide
  ·first|omega|decide
  ·repeat (first|exact Ad.nil|(refine Ad.eq rfl ?_ ?_;(first|exact PV.Ak rfl|(simp [PV.under,AU.under];done)))|refine Ad.cons trivial rfl (.of_eq (Ar (by simp<;>omega))) ?_)
  ·repeat (first|exact Aj.nil|(refine Aj.eq rfl (Ac rfl) ?_ ?_;(first|exact HB.Ak rfl|exact AU.Ah _ _|(simp [HB.under,AU.under,PV.under];done)))|(refine Aj.cons (Ac rfl) ?_ rfl ?_ ?_;(first|exact trivial|exact AU.Ah _ _|(simp [HB.under,AU.under,PV.under]));(first|exact Bl.refl _|exact Bl.vec (Bh.refl _) (by simp))))
  ·intro k hk;omega
  ·repeat' (first|apply Ae.assoc|apply Ae.AA|apply Ae.Aq|apply Ae.AY|apply Ae.Ai|apply AO.normal|apply AL.exit|apply Aw.exit|apply Ag.nil|apply Ag.one|(apply Ag.drop;rfl;rfl;rfl)|(apply Aa.move;rfl)|(apply Aa.int;rfl;rfl;rfl)|(apply Aa.AV;rfl;rfl)|(apply Aa.BI;rfl;rfl)|(apply Ae.Az;rfl))
   all_goals try (exfalso;omega)
   all_goals try contradiction
   apply Ae.EX (0) [(0,_),(53,_),(54,_)] [] (fun k r=>(55,.p (.int .i64 (k:Int)))::r) (fun k r=>r) 0
   ·first|omega|decide
   ·first|omega|decide
   ·repeat (first|exact Ad.nil|(refine Ad.eq rfl ?_ ?_;(first|exact PV.Ak rfl|(simp [PV.under,AU.under];done)))|refine Ad.cons trivial rfl (.of_eq (Ar (by simp<;>omega))) ?_)
   ·repeat (first|exact Aj.nil|(refine Aj.eq rfl (Ac rfl) ?_ ?_;(first|exact HB.Ak rfl|exact AU.Ah _ _|(simp [HB.under,AU.under,PV.under];done)))|(refine Aj.cons (Ac rfl) ?_ rfl ?_ ?_;(first|exact trivial|exact AU.Ah _ _|(simp [HB.under,AU.under,PV.under]));(first|exact Bl.refl _|exact Bl.vec (Bh.refl _) (by simp))))
   ·intro k hk;omega
   ·repeat' (first|apply Ae.AA|apply Ae.AY|apply AO.normal|apply AL.exit|apply Aw.exit|apply Ae.ret|apply Ag.nil|apply Ag.one|(apply Aa.assign;rfl)|(apply Aa.int;rfl;rfl;rfl)|(apply Ae.Az;rfl))
    all_goals first|(exfalso;omega)|contradiction|(refine Done.ret rfl (.refl _) (by first|exact trivial|exact ⟨trivial,trivial,trivial⟩|exact ⟨trivial,trivial,trivial,trivial⟩) Aj.nil (Nat.zero_le _) (Nat.le_refl _) ⟨?_,rfl,rfl⟩;try rfl)
 ·have hr0:=hrow 0 h0
  have hc0:(gi l 0).length=m:=hr0
  repeat' (first|apply Ae.assoc|apply Ae.AA|apply Ae.Aq|apply Ae.Ai|apply Ag.nil|apply Ag.one|(apply Ag.take;rfl;rfl)|(apply Ag.guard;rfl;rfl)|(apply Aa.AP (l:=l) (i:=0);rfl;rfl;rfl;omega;rfl)|(apply Aa.assign;rfl)|(apply Aa.move;rfl)|(apply Aa.int;rfl;rfl;rfl)|(apply Aa.load;rfl;rfl)|(apply Aa.BH;rfl;rfl)|(apply Aa.AV;rfl;rfl)|(apply Aa.BI;rfl;rfl)|(apply Ae.Af;rfl)|(intro _;try (exfalso;omega)))
  all_goals try (exfalso;omega)
  all_goals try contradiction
  apply Ae.EX (l.length) [(0,_),(1,_),(24,_),(25,_)] [] (fun k r=>(26,.p (.int .i64 (k:Int)))::r) (fun k r=>r) 0
  ·first|omega|decide
  ·first|omega|decide
  ·repeat (first|exact Ad.nil|(refine Ad.eq rfl ?_ ?_;(first|exact PV.Ak rfl|(simp [PV.under,AU.under];done)))|refine Ad.cons trivial rfl (.of_eq (Ar (by simp<;>omega))) ?_)
  ·repeat (first|exact Aj.nil|(refine Aj.eq rfl (Ac rfl) ?_ ?_;(first|exact HB.Ak rfl|exact AU.Ah _ _|(simp [HB.under,AU.under,PV.under];done)))|(refine Aj.cons (Ac rfl) ?_ rfl ?_ ?_;(first|exact trivial|exact AU.Ah _ _|(simp [HB.under,AU.under,PV.under]));(first|exact Bl.refl _|exact Bl.vec (Bh.refl _) (by simp))))
  ·intro k hk
   have hrk:=hrow k (by omega)
   repeat' (first|apply Ae.AA|apply Ae.region|apply Ae.Aq|apply Ae.Ai|apply AO.normal|apply AL.normal|apply Ae.skip|apply Ag.nil|apply Ag.one|(apply Aa.AP (l:=l) (i:=k);rfl;rfl;rfl;omega;rfl)|(apply Aa.AP (l:=l) (i:=0);rfl;rfl;rfl;omega;rfl)|(apply Aa.assign;rfl)|(apply Aa.move;rfl)|(apply Aa.Bv;rfl;rfl;omega)|(apply Aa.int;rfl;rfl;rfl)|(apply Aa.load;rfl;rfl)|(apply Aa.BI;rfl;rfl)|(apply Ae.Af;rfl)|(apply Ae.AZ;rfl)|(intro _;try (exfalso;omega)))
   all_goals try (exfalso;omega)
   refine Aw.normal ⟨by first|omega|decide,?_,?_⟩
   ·repeat (first|exact Ad.nil|refine Ad.same trivial rfl ?_|refine Ad.same (Ac rfl) rfl ?_|refine Ad.same ⟨trivial,Ac rfl,trivial⟩ rfl ?_|refine Ad.same ⟨trivial,Ac rfl,Ac rfl,trivial⟩ rfl ?_|refine Ad.same ⟨trivial,Ac rfl,Ac rfl,Ac rfl,trivial⟩ rfl ?_|refine Ad.same ⟨trivial,trivial⟩ rfl ?_|refine Ad.cons trivial rfl (.of_eq (Ar (by simp<;>omega))) ?_)
   ·repeat (first|exact Aj.nil|(refine Aj.cons (Ac rfl) ?_ rfl ?_ ?_;(first|exact HB.Ak rfl|exact AU.Ah _ _|(simp [HB.under,AU.under,PV.under]));(first|exact Bl.refl _|exact Bl.vec (Bh.refl _) (by simp))))
  ·repeat' (first|apply Ae.assoc|apply Ae.AA|apply Ae.Aq|apply Ae.AY|apply Ae.Ai|apply AO.normal|apply AL.exit|apply Aw.exit|apply Ag.nil|apply Ag.one|(apply Ag.drop;rfl;rfl;rfl)|(apply Aa.move;rfl)|(apply Aa.int;rfl;rfl;rfl)|(apply Aa.AV;rfl;rfl)|(apply Aa.BI;rfl;rfl)|(apply Ae.Az;rfl)|(apply Ae.Af;rfl)|(intro _;try (exfalso;omega)))
   all_goals try (exfalso;omega)
   all_goals try contradiction
   apply Ae.EX (l.length) [(0,_),(53,_),(54,_)] [] (fun k r=>(55,.p (.int .i64 (k:Int)))::r) (fun k r=>r) 0
   ·first|omega|decide
   ·first|omega|decide
   ·repeat (first|exact Ad.nil|(refine Ad.eq rfl ?_ ?_;(first|exact PV.Ak rfl|(simp [PV.under,AU.under];done)))|refine Ad.cons trivial rfl (.of_eq (Ar (by simp<;>omega))) ?_)
   ·repeat (first|exact Aj.nil|(refine Aj.eq rfl (Ac rfl) ?_ ?_;(first|exact HB.Ak rfl|exact AU.Ah _ _|(simp [HB.under,AU.under,PV.under];done)))|(refine Aj.cons (Ac rfl) ?_ rfl ?_ ?_;(first|exact trivial|exact AU.Ah _ _|(simp [HB.under,AU.under,PV.under]));(first|exact Bl.refl _|exact Bl.vec (Bh.refl _) (by simp))))
   ·intro k hk
    have hrk:=hrow k (by omega)
    repeat' (first|apply Ae.assoc|apply Ae.AA|apply Ae.Aq|apply Ae.Ai|apply Ag.nil|apply Ag.one|(apply UA;rfl;rfl;rfl;exact le_dec rfl)|(apply UC;rfl;rfl;rfl;exact le_dec rfl)|(apply Aa.assign;rfl)|(apply Aa.move;rfl)|(apply Aa.int;rfl;rfl;rfl)|(apply Aa.AP;rfl;rfl;rfl;omega;rfl)|(apply Aa.load;rfl;rfl)|(apply Aa.BI;rfl;rfl)|(apply Ae.Af;rfl)|(intro _;try (exfalso;omega)))
    all_goals try (exfalso;omega)
    apply Ae.EX ((gi l k).length) [(0,_),(1,_),(7,_)] [] (fun k_ r=>(8,.p (.int .i64 (k_:Int)))::r) (fun k_ r=>r) 0
    ·first|omega|decide
    ·first|omega|decide
    ·repeat (first|exact Ad.nil|(refine Ad.eq rfl ?_ ?_;(first|exact PV.Ak rfl|(simp [PV.under,AU.under];done)))|refine Ad.cons trivial rfl (.of_eq (Ar (by simp<;>omega))) ?_)
    ·repeat (first|exact Aj.nil|(refine Aj.eq rfl (Ac rfl) ?_ ?_;(first|exact HB.Ak rfl|exact AU.Ah _ _|(simp [HB.under,AU.under,PV.under];done)))|(refine Aj.cons (Ac rfl) ?_ rfl ?_ ?_;(first|exact trivial|exact AU.Ah _ _|(simp [HB.under,AU.under,PV.under]));(first|exact Bl.refl _|exact Bl.vec (Bh.refl _) (by simp))))
    ·intro j hj
     have hb:=uG k j (by omega) (by omega)
     repeat' (first|apply Ae.AA|apply Ae.region|apply Ae.Aq|apply Ae.Ai|apply AO.normal|(apply Bq.ret;rfl)|apply AL.normal|apply Ae.ret|apply Ae.skip|apply Ag.nil|apply Ag.one|(apply Ag.take;rfl;rfl)|(apply Ag.guard;rfl;rfl)|(apply wX;rfl;rfl;rfl;exact le_dec rfl)|(apply Aa.assign;rfl)|(apply Aa.move;rfl)|(apply Aa.Bv;rfl;rfl;omega)|(apply Aa.int;rfl;rfl;rfl)|(apply Aa.AP;rfl;rfl;rfl;omega;rfl)|(apply Aa.load;rfl;rfl)|(apply Aa.AV;rfl;rfl)|(apply Ae.Af;rfl)|(apply Ae.AZ;rfl)|(intro _;try (exfalso;omega)))
     all_goals try (exfalso;omega)
     refine Aw.normal ⟨by first|omega|decide,?_,?_⟩
     ·repeat (first|exact Ad.nil|refine Ad.same trivial rfl ?_|refine Ad.same (Ac rfl) rfl ?_|refine Ad.same ⟨trivial,Ac rfl,trivial⟩ rfl ?_|refine Ad.same ⟨trivial,Ac rfl,Ac rfl,trivial⟩ rfl ?_|refine Ad.same ⟨trivial,Ac rfl,Ac rfl,Ac rfl,trivial⟩ rfl ?_|refine Ad.same ⟨trivial,trivial⟩ rfl ?_|refine Ad.cons trivial rfl (.of_eq (Ar (by simp<;>omega))) ?_)
     ·repeat (first|exact Aj.nil|(refine Aj.cons (Ac rfl) ?_ rfl ?_ ?_;(first|exact HB.Ak rfl|exact AU.Ah _ _|(simp [HB.under,AU.under,PV.under]));(first|exact Bl.refl _|exact Bl.vec (Bh.refl _) (by simp))))
    ·repeat' (first|apply Ae.AA|apply Ae.region|apply Ae.AY|apply AO.normal|(apply Bq.ret;rfl)|apply AL.normal|apply AL.exit|apply Aw.exit|apply Ae.ret|apply Ae.skip|apply Ag.nil|apply Ag.one|(apply Aa.assign;rfl)|(apply Aa.move;rfl)|(apply Aa.Bv;rfl;rfl;omega)|(apply Aa.int;rfl;rfl;rfl)|(apply Ae.Af;rfl)|(apply Ae.cond_false;rfl)|(intro _;try (exfalso;omega)))
     all_goals try (exfalso;omega)
     all_goals try contradiction
     refine Aw.normal ⟨by first|omega|decide,?_,?_⟩
     ·repeat (first|exact Ad.nil|refine Ad.same trivial rfl ?_|refine Ad.same (Ac rfl) rfl ?_|refine Ad.same ⟨trivial,Ac rfl,trivial⟩ rfl ?_|refine Ad.same ⟨trivial,Ac rfl,Ac rfl,trivial⟩ rfl ?_|refine Ad.same ⟨trivial,Ac rfl,Ac rfl,Ac rfl,trivial⟩ rfl ?_|refine Ad.same ⟨trivial,trivial⟩ rfl ?_|refine Ad.cons trivial rfl (.of_eq (Ar (by simp<;>omega))) ?_)
     ·repeat (first|exact Aj.nil|(refine Aj.cons (Ac rfl) ?_ rfl ?_ ?_;(first|exact HB.Ak rfl|exact AU.Ah _ _|(simp [HB.under,AU.under,PV.under]));(first|exact Bl.refl _|exact Bl.vec (Bh.refl _) (by simp))))
   ·repeat' (first|apply Ae.AA|apply Ae.AY|apply AO.normal|apply AL.exit|apply Aw.exit|apply Ae.ret|apply Ag.nil|apply Ag.one|(apply Aa.assign;rfl)|(apply Aa.int;rfl;rfl;rfl)|(apply Ae.Af;rfl)|(intro _;try (exfalso;omega)))
    all_goals first|(exfalso;omega)|contradiction|(refine Done.ret rfl (.refl _) (by first|exact trivial|exact ⟨trivial,trivial,trivial⟩|exact ⟨trivial,trivial,trivial,trivial⟩) Aj.nil (Nat.zero_le _) (Nat.le_refl _) ⟨?_,rfl,rfl⟩;try rfl)
theorem LD {l:List (List Int)} {n m:Nat} {skip B:Int} (e:TypeId) (h:PZ l n m skip B):AX env 46 [.lst e (cells l) l.length,.int .i64 skip] (.p (.int .i64 0)):=by
 have hc:=Z8 e h
 have h4:=h.B9
 have h5:=h.Uf.skip
 refine AX.enter (AB (by decide)) Tryz.func46 rfl (by kernel_rfl) (by simp [Tryz.ntmps46]) ?_
 repeat' (first|apply Ae.assoc|apply Ae.AA|apply Ae.Aq|apply Ae.ret|apply Ag.nil|apply Ag.one|(apply Ag.take;rfl;rfl)|(apply Ag.guard;rfl;rfl)|(apply Aa.fn;rfl;rfl;exact hc;intro _;rfl)|(apply Aa.assign;rfl)|(apply Aa.move;rfl)|(apply Aa.int;rfl;rfl;rfl)|(apply Aa.AV;rfl;rfl)|(apply Ae.Az;rfl)|(apply Ae.Af;rfl)|(intro _;try (exfalso;omega)))
 all_goals first|(exfalso;omega)|contradiction|(refine Done.ret rfl (.refl _) (by first|exact trivial|exact ⟨trivial,trivial,trivial⟩|exact ⟨trivial,trivial,trivial,trivial⟩) Aj.nil (Nat.zero_le _) (Nat.le_refl _) ⟨?_,rfl,rfl⟩;try rfl)
theorem NY {l:List (List Int)} {n m:Nat} {skip B:Int} (e:TypeId) (h:PZ l n m skip B):AX env 69 [.lst e (cells l) l.length] (.p (.int .i64 (m:Int))):=by
 have:=Lr e l (by have:=h.Uf.len;have:=h.n60;omega)
 rwa [h.cols] at this
theorem dO (l:List Int) (h0:0<l.length) (h1:l.length<1000000):CU env 70 [.lst 3 (cells l) l.length] 3 (cells l) l.length false:=by
 refine CU.enter (AB (by decide)) Tryz.func70 rfl (by kernel_rfl) (by simp [Tryz.ntmps70]) ?_
 repeat' (first|apply Ae.assoc|apply Ae.AA|apply Ae.Aq|apply Ae.ret|apply Ag.nil|apply Ag.one|(apply Aa.zY;rfl;rfl;rfl;exact h0)|(apply Aa.assign;rfl)|(apply Aa.move;rfl)|(apply Aa.buildSlice;rfl;rfl;rfl;decide;rfl;rfl;rfl)|(apply Aa.Nv;rfl;rfl;rfl;(first|rfl|omega|(simp only [List.length_take,List.length_drop,List.length_append,List.length_singleton,List.length_cons,List.length_nil]<;>omega));rfl;rfl;(intro _ h;cases h);rfl;rfl;rfl;decide;decide;(first|omega|(simp only [List.length_take,List.length_drop,List.length_append,List.length_singleton,List.length_cons,List.length_nil]<;>omega)))|(apply Ae.Az;rfl))
 exact Df.ret rfl rfl rfl rfl
theorem yD {L:Vm.Frame} {H:Vm.Heap} {nx:Nat} {Q:PV→Vm.Heap→Nat→Prop} {dst:Option Tmp} {ty:TypeId} {pos:String} {af:Array Edge} {gd:Option (Nat×Bool)} {fo:Operand} {args:Array Operand} {aT:Array TypeId} {fs cs xs:List PV} {c:Code}
 (hf:BA env.Γ L fo=some (.clo 70 fs cs)) (ha:evs env.Γ L args.toList=some xs) (hb:Tryz.f70.body=some c) (hn:(fs++xs++cs).length≤Tryz.f70.ntmps)
 (h:Ae env nx c (CO 0 (fs++xs++cs)) H nx (Bq env.P Tryz.f70.results.toList Q)):Aa env true ⟨dst,.call { callee:=.value fo,args:=args,argTypes:=aT },ty,pos,af,gd⟩ L H nx Q:=by
 have h0:(match Tryz.f70.body with|some c=>Hq env.G Tryz.f70 c|none=>false)=true:=by kernel_rfl
 rw [hb] at h0
 exact Aa.inline rfl hf ha (AB (by decide)) Tryz.func70 hb h0 hn h
theorem kL {α:Type} [Inhabited α] {l:List α} {k:Nat} (h:k<l.length):l.take (k+1)=l.take k++[gi l k]:=by
 rw [List.take_succ_eq_append_getElem h]
 unfold gi
 rw [List.getElem?_eq_getElem h];rfl
def Um (l:List (List Int)) (skip:Int) (k:Nat):List Int:=gi l k++List.replicate (l.length+1) skip
def NV (l:List (List Int)) (skip:Int) (k:Nat):List (List Int):=(DC l skip l.length).take k++List.replicate (l.length-k) []
theorem NW (l:List (List Int)) (skip:Int) (n:Nat):(DC l skip n).length=l.length:=by simp [DC]
theorem mV (l:List (List Int)) (skip:Int) {k:Nat} (h:k≤l.length):(NV l skip k).length=l.length:=by
 unfold NV
 rw [List.length_append,List.length_take,List.length_replicate,NW];omega
theorem nD (l:List (List Int)) (skip:Int):NV l skip l.length=DC l skip l.length:=by
 unfold NV
 rw [Nat.sub_self,List.take_of_length_le (by rw [NW];exact Nat.le_refl _)]
 simp
theorem mY (l:List (List Int)) (skip:Int) {k:Nat} (h:k<l.length):(NV l skip k).set k (Um l skip k)=NV l skip (k+1):=by
 have e1:Um l skip k=gi (DC l skip l.length) k:=(gi_map' (fun row=>row++List.replicate (l.length+1) skip) h).symm
 have hk:k<(DC l skip l.length).length:=by rw [NW];exact h
 obtain ⟨r,hr⟩:∃ r,l.length-k=r+1:=⟨l.length-k-1,by omega⟩
 unfold NV
 rw [e1,kL hk,hr,show l.length-(k+1)=r by omega]
 have ht:((DC l skip l.length).take k).length=k:=by rw [List.length_take];omega
 generalize gi (DC l skip l.length) k=x
 generalize (DC l skip l.length).take k=t at *
 rw [List.set_append_right _ _ (by omega),ht,Nat.sub_self,List.replicate_succ,List.set_cons_zero,List.append_assoc]
 rfl
theorem YB:∀ n:Nat,Bh ((Bf [.slice none 0 0] n).map FW) (cells (List.replicate n ([]:List Int)))
 |0=>.refl _
 |n+1=>.cons (.nil _) (YB n)
theorem iH (l:List (List Int)) (skip:Int):NV l skip 0=List.replicate l.length []:=by unfold NV;simp
def Uj (m:Nat) (cols:List Int) (j:Nat):List Int:=(cols.take j).map (Ky m)++cols.drop j
theorem VF (m:Nat) (cols:List Int) (j:Nat):(Uj m cols j).length=cols.length:=by
 unfold Uj
 rw [List.length_append,List.length_map,List.length_take,List.length_drop];omega
theorem lQ (m:Nat) (cols:List Int) {j:Nat} (h:j<cols.length):gi (Uj m cols j) j=gi cols j:=by
 unfold Uj gi
 rw [List.getElem?_append_right (by rw [List.length_map,List.length_take];omega),List.length_map,List.length_take,Nat.min_eq_left (Nat.le_of_lt h),Nat.sub_self,List.getElem?_drop,Nat.add_zero]
theorem ZH (m:Nat) (cols:List Int) {j:Nat} (h:j<cols.length):(Uj m cols j).set j (Ky m (gi cols j))=Uj m cols (j+1):=by
 unfold Uj
 have ht:((cols.take j).map (Ky m)).length=j:=by rw [List.length_map,List.length_take];omega
 rw [List.set_append_right _ _ (by omega),ht,Nat.sub_self,kL h,List.map_append,List.append_assoc]
 congr 1
 rw [List.drop_eq_getElem_cons h,List.set_cons_zero]
 rfl
theorem mD (m:Nat) (cols:List Int) {j:Nat} (h:j<cols.length) (hc:Ky m (gi cols j)=gi cols j):Uj m cols (j+1)=Uj m cols j:=by
 rw [← ZH m cols h,hc,← lQ m cols h]
 refine List.ext_getElem? fun i=>?_
 rw [List.getElem?_set]
 by_cases e:j=i
 ·subst e
  rw [if_pos rfl,if_pos (by rw [VF];exact h)]
  unfold gi
  rw [List.getElem?_eq_getElem (by rw [VF];exact h)]
  rfl
 ·rw [if_neg e]
theorem vX (m:Nat) (cols:List Int):Uj m cols cols.length=cols.map (Ky m):=by
 unfold Uj
 rw [List.take_of_length_le (Nat.le_refl _),List.drop_of_length_le (Nat.le_refl _),List.append_nil]
structure QD where
 cols:List Int
 total:Int
 rows:List Int
 BU:List Int
def QD.enc (x:QD):List FV:=[.lst 3 (cells x.cols) x.cols.length,.int .i64 x.total,.lst 3 (cells x.rows) x.rows.length,.lst 3 (cells x.BU) x.BU.length]
instance:Enc QD:={ default:=⟨[],0,[],[]⟩,enc:=QD.enc,size:=4,len:=fun _=>rfl }
def YX (l:List (List Int)) (m:Nat) (skip:Int):QD:=⟨qW l l.length m skip,iy l l.length m skip,vN l l.length m skip,qB l l.length m skip⟩
theorem Y4 {l:List (List Int)} {m:Nat} {skip B:Int} (e:TypeId) (h:PZ l l.length m skip B) (h0:0<l.length) :
 AX env 45 [.lst e (cells l) l.length,.int .i64 skip] (.Fb [.p (.agg (Enc.enc (YX l m skip))),.p (.int .i64 0)]):=by
 have hck:=LD e h
 have hcl:=NY e h
 have h2:=h.n60
 have h3:=h.uS
 have hrow:=h.Uf.row
 have hP:=tN h.Uf
 have hw:=Yc h.Uf
 have hs:=VN hw
 have hsv:=aS (costs:=DC l skip l.length) (n:=l.length) (m:=m+(l.length+1)) 52 hw (NW _ _ _) (fun r hr=>by
  unfold DC
  rw [gi_map' _ hr,List.length_append,List.length_replicate,hrow r hr]) h0 (by omega)
 have hroom:l.length*(24+1)≤room∧l.length≤2 ^ 40:=⟨by have:=Y6 (n:=l.length) (k:=0) (b:=24) (by omega) (by decide);simpa using this,by omega⟩
 refine AX.enter (AB (by decide)) Tryz.func45 rfl (by kernel_rfl) (by simp [Tryz.ntmps45]) ?_
 repeat' (first|apply Ae.assoc|apply Ae.AA|apply Ae.Aq|apply Ae.Ai|apply Ag.nil|apply Ag.one|(apply Aa.fn;rfl;rfl;exact hck;intro _;rfl)|(apply Aa.fn;rfl;rfl;exact hcl;intro _;rfl)|(apply Aa.makeSlice (n:=l.length);rfl;rfl;rfl;rfl;rfl;exact hroom;decide)|(apply Aa.assign;rfl)|(apply Aa.move;rfl)|(apply Aa.int;rfl;rfl;rfl)|(apply Aa.BI;rfl;rfl)|(apply Aa.alloc;rfl)|(apply Ae.Az;rfl))
 all_goals try (exfalso;omega)
 all_goals try contradiction
 refine Ae.ghost (Ba.a3t 1 (cells (NV l skip 0)) rfl (by rw [iH];exact YB _)) ?_
 apply Ae.EX (l.length) [(0,_),(1,_),(4,_),(7,_),(8,_),(26,_),(27,_)] [(0,_)] (fun k r=>(28,.p (.int .i64 (k:Int)))::r) (fun k r=>(1,.vec 52 (cells (NV l skip k)) l.length false)::r) 2
 ·first|omega|decide
 ·first|omega|decide
 ·repeat (first|exact Ad.nil|(refine Ad.eq rfl ?_ ?_;(first|exact PV.Ak rfl|(simp [PV.under,AU.under];done)))|refine Ad.cons trivial rfl (.of_eq (Ar (by simp<;>omega))) ?_)
 ·repeat (first|exact Aj.nil|(refine Aj.eq rfl (Ac rfl) ?_ ?_;(first|exact HB.Ak rfl|exact AU.Ah _ _|(simp [HB.under,AU.under,PV.under];done)))|(refine Aj.cons (Ac rfl) ?_ rfl ?_ ?_;(first|exact trivial|exact AU.Ah _ _|(simp [HB.under,AU.under,PV.under]));(first|exact Bl.refl _|exact Bl.vec (Bh.refl _) (by simp))))
 ·intro k hk
  have hrk:=hrow k hk
  have hsl:=mV l skip (Nat.le_of_lt hk)
  have hst:=mY l skip hk
  have hrep:=TF 3 skip (l.length+1) (by omega) (by omega)
  have hlen:(gi l k++List.replicate (l.length+1) skip).length=(gi l k).length+(List.replicate (l.length+1) skip).length:=List.length_append
  have hrl:(List.replicate (l.length+1) skip).length=l.length+1:=List.length_replicate
  have hpc:Gn (.p (.lst 3 (cells (gi l k++List.replicate (l.length+1) skip)) ((gi l k).length+(List.replicate (l.length+1) skip).length)))=(Enc.enc (Um l skip k)).map .p:=by
   show [PV.p (FV.lst 3 (cells (gi l k++List.replicate (l.length+1) skip)) ((gi l k).length+(List.replicate (l.length+1) skip).length))]=[PV.p (FV.lst 3 (cells (Um l skip k)) (Um l skip k).length)]
   rw [show (Um l skip k).length=_ from hlen];rfl
  by_cases hm:0<m
  ·have hcn:=dO (gi l k) (by omega) (by omega)
   repeat' (first|(refine Ag.IC 42 ?_;refine Ag.ghost (Ba.freeze 38 rfl rfl) ?_)|(refine Ag.IC 43 ?_;refine Ag.ghost (Ba.freeze 42 rfl rfl) ?_)|(refine Ag.IC 44 ?_;refine Ag.ghost (Ba.freeze 43 rfl rfl) ?_)|apply Ae.AA|apply Ae.region|apply Ae.Aq|apply Ae.Ai|apply AO.normal|apply AL.normal|apply Ag.nil|apply Ag.one|(apply Aa.fv;rfl;rfl;exact hcn)|(apply Aa.fv;rfl;rfl;exact hrep)|(apply Aa.Eb (y:=Um l skip k);rfl;rfl;rfl;trivial;exact hpc;rfl;rfl;decide;omega)|(apply Aa.PX (l:=gi l k) (r:=List.replicate (l.length+1) skip);rfl;rfl;rfl;rfl;exact hrl;rfl;rfl;(intro _ h;cases h);rfl;rfl;rfl;decide;decide;omega)|(apply Aa.assign;rfl)|(apply Aa.move;rfl)|(apply Aa.Bv;rfl;rfl;omega)|(apply Aa.int;rfl;rfl;rfl)|(apply Aa.AP;rfl;rfl;rfl;omega;rfl)|(apply Aa.load;rfl;rfl)|(apply Aa.BI;rfl;rfl)|(apply Aa.buildSlice;rfl;rfl;rfl;decide;rfl;rfl;rfl)|(apply Aa.Dk;rfl;rfl;rfl;rfl;omega)|(apply Ae.Af;rfl)|(intro _;try (exfalso;omega)))
   all_goals try (exfalso;omega)
   refine Aw.normal ⟨by first|omega|decide,?_,?_⟩
   ·try (rw [← hst])
    repeat (first|exact Ad.nil|refine Ad.same trivial rfl ?_|refine Ad.same (Ac rfl) rfl ?_|refine Ad.same ⟨trivial,Ac rfl,trivial⟩ rfl ?_|refine Ad.same ⟨trivial,Ac rfl,Ac rfl,trivial⟩ rfl ?_|refine Ad.same ⟨trivial,Ac rfl,Ac rfl,Ac rfl,trivial⟩ rfl ?_|refine Ad.same ⟨trivial,trivial⟩ rfl ?_|refine Ad.cons trivial rfl (.of_eq (Ar (by simp<;>omega))) ?_)
   ·rw [← hst]
    repeat (first|exact Aj.nil|(refine Aj.cons (Ac rfl) ?_ rfl ?_ ?_;(first|exact HB.Ak rfl|exact AU.Ah _ _|(simp [HB.under,AU.under,PV.under]));(first|exact Bl.refl _|exact Bl.vec (Bh.refl _) (by simp))))
  ·have hl0:gi l k=[]:=List.length_eq_zero_iff.1 (by omega)
   have a6s:Gn (.p (.lst 3 (cells (List.replicate (l.length+1) skip)) (List.replicate (l.length+1) skip).length))=(Enc.enc (Um l skip k)).map .p:=by
    rw [show Um l skip k=List.replicate (l.length+1) skip by unfold Um;rw [hl0];rfl];rfl
   repeat' (first|(refine Ag.IC 42 ?_;refine Ag.ghost (Ba.freeze 38 rfl rfl) ?_)|(refine Ag.IC 43 ?_;refine Ag.ghost (Ba.trans (Ba.freeze 42 rfl rfl) (Ba.adopt 36 3 rfl)) ?_)|(refine Ag.IC 43 ?_;refine Ag.ghost (Ba.freeze 42 rfl rfl) ?_)|(refine Ag.IC 44 ?_;refine Ag.ghost (Ba.freeze 43 rfl rfl) ?_)|apply Ae.assoc|apply Ae.AA|apply Ae.region|apply Ae.Aq|apply Ae.BQ|apply Ae.Ai|apply AO.normal|(apply Bq.ret;rfl)|apply AL.normal|apply Ae.ret|apply Ag.nil|apply Ag.one|(apply yD;rfl;rfl;rfl;exact le_dec rfl)|(apply Aa.fv;rfl;rfl;exact hrep)|(apply Aa.Eb (y:=Um l skip k);rfl;rfl;rfl;trivial;exact a6s;rfl;rfl;decide;omega)|(apply Aa.Nv (r:=List.replicate (l.length+1) skip);rfl;rfl;rfl;exact hrl;rfl;rfl;(intro _ h;cases h);rfl;rfl;rfl;decide;decide;omega)|(apply Aa.eqNil;rfl;rfl;rfl;intro b hb)|(apply Aa.Eb (y:=Um l skip k);rfl;rfl;rfl;trivial;exact hpc;rfl;rfl;decide;omega)|(apply Aa.PX (l:=gi l k) (r:=List.replicate (l.length+1) skip);rfl;rfl;rfl;rfl;exact hrl;rfl;rfl;(intro _ h;cases h);rfl;rfl;rfl;decide;decide;omega)|(apply Aa.assign;rfl)|(apply Aa.move;rfl)|(apply Aa.Bv;rfl;rfl;omega)|(apply Aa.int;rfl;rfl;rfl)|(apply Aa.AP;rfl;rfl;rfl;omega;rfl)|(apply Aa.load;rfl;rfl)|(apply Aa.BI;rfl;rfl)|(apply Aa.buildSlice;rfl;rfl;rfl;decide;rfl;rfl;rfl)|(apply Aa.Dk;rfl;rfl;rfl;rfl;omega)|(apply Aa.Nv;rfl;rfl;rfl;(first|rfl|omega|(simp only [List.length_take,List.length_drop,List.length_append,List.length_singleton,List.length_cons,List.length_nil]<;>omega));rfl;rfl;(intro _ h;cases h);rfl;rfl;rfl;decide;decide;(first|omega|(simp only [List.length_take,List.length_drop,List.length_append,List.length_singleton,List.length_cons,List.length_nil]<;>omega)))|(apply Ae.Af;rfl)|(apply Ae.PY;rfl)|(intro _;try (exfalso;omega)))
   all_goals try (exfalso;omega)
   ·refine Aw.normal ⟨by first|omega|decide,?_,?_⟩
    ·try (rw [← hst])
     repeat (first|exact Ad.nil|refine Ad.same trivial rfl ?_|refine Ad.same (Ac rfl) rfl ?_|refine Ad.same ⟨trivial,Ac rfl,trivial⟩ rfl ?_|refine Ad.same ⟨trivial,Ac rfl,Ac rfl,trivial⟩ rfl ?_|refine Ad.same ⟨trivial,Ac rfl,Ac rfl,Ac rfl,trivial⟩ rfl ?_|refine Ad.same ⟨trivial,trivial⟩ rfl ?_|refine Ad.cons trivial rfl (.of_eq (Ar (by simp<;>omega))) ?_)
    ·rw [← hst]
     repeat (first|exact Aj.nil|(refine Aj.cons (Ac rfl) ?_ rfl ?_ ?_;(first|exact HB.Ak rfl|exact AU.Ah _ _|(simp [HB.under,AU.under,PV.under]));(first|exact Bl.refl _|exact Bl.vec (Bh.refl _) (by simp))))
   ·refine Aw.normal ⟨by first|omega|decide,?_,?_⟩
    ·try (rw [← hst])
     repeat (first|exact Ad.nil|refine Ad.same trivial rfl ?_|refine Ad.same (Ac rfl) rfl ?_|refine Ad.same ⟨trivial,Ac rfl,trivial⟩ rfl ?_|refine Ad.same ⟨trivial,Ac rfl,Ac rfl,trivial⟩ rfl ?_|refine Ad.same ⟨trivial,Ac rfl,Ac rfl,Ac rfl,trivial⟩ rfl ?_|refine Ad.same ⟨trivial,trivial⟩ rfl ?_|refine Ad.cons trivial rfl (.of_eq (Ar (by simp<;>omega))) ?_)
    ·rw [← hst]
     repeat (first|exact Aj.nil|(refine Aj.cons (Ac rfl) ?_ rfl ?_ ?_;(first|exact HB.Ak rfl|exact AU.Ah _ _|(simp [HB.under,AU.under,PV.under]));(first|exact Bl.refl _|exact Bl.vec (Bh.refl _) (by simp))))
 ·rw [nD]
  have lC:(Gs (DC l skip l.length) l.length (m+(l.length+1))).cols.length=l.length:=hs.len
  have lV:(GY (DC l skip l.length) l.length (m+(l.length+1))).length=m+(l.length+1):=hs.lV
  repeat' (first|(refine Ag.IC 47 ?_;refine Ag.ghost (Ba.freeze 46 rfl rfl) ?_)|apply Ae.assoc|apply Ae.AA|apply Ae.AY|apply Ae.Ai|apply AO.normal|apply AL.exit|apply Aw.exit|apply Ag.nil|apply Ag.one|(apply Aa.lX [] (hsv);rfl;rfl;exact .of_eq rfl;exact AU.Ak rfl;exact F6 rfl;(repeat (first|exact trivial|refine ⟨⟨_,rfl,.of_eq rfl⟩,?_⟩));decide;(intro _ hb;first|(simp at hb;done)|(simp at hb ⊢<;>omega));(rintro _ _ _ ⟨rfl,rfl,rfl⟩))|(apply Aa.sliceTo (l:=GY (DC l skip l.length) l.length (m+(l.length+1))) (b:=m);rfl;rfl;rfl;rfl;rfl;exact lV;omega)|(apply Aa.move;rfl)|(apply Aa.int;rfl;rfl;rfl)|(apply Aa.load;rfl;rfl)|(apply Aa.BI;rfl;rfl)|(apply Aa.lenV;rfl;rfl;rfl)|(apply Aa.AQ;rfl;rfl;rfl)|(apply Aa.alloc;rfl)|(apply Aa.Bo;rfl;rfl;rfl;trivial;rfl;rfl;exact Ac rfl;exact le_dec rfl)|(apply Ae.Af;rfl)|(intro _;try (exfalso;omega)))
  all_goals try (exfalso;omega)
  all_goals try contradiction
  have eM:YX l m skip=⟨(Gs (DC l skip l.length) l.length (m+(l.length+1))).cols.map (Ky m),(Gs (DC l skip l.length) l.length (m+(l.length+1))).total,JD (DC l skip l.length) l.length (m+(l.length+1)),(GY (DC l skip l.length) l.length (m+(l.length+1))).take m⟩:=rfl
  have Xn:=hs.col
  rw [eM]
  generalize (Gs (DC l skip l.length) l.length (m+(l.length+1))).cols=cols at *
  apply Ae.EX (l.length) [(4,_),(7,_),(11,_),(57,_),(58,_)] [(8,_),(0,_)] (fun k r=>(59,.p (.int .i64 (k:Int)))::r) (fun k r=>(7,.vec 3 (cells (Uj m cols k)) l.length false)::r) 9
  ·first|omega|decide
  ·first|omega|decide
  ·repeat (first|exact Ad.nil|(refine Ad.eq rfl ?_ ?_;(first|exact PV.Ak rfl|(simp [PV.under,AU.under];done)))|refine Ad.cons trivial rfl (.of_eq (Ar (by simp<;>omega))) ?_)
  ·repeat (first|exact Aj.nil|(refine Aj.eq rfl (Ac rfl) ?_ ?_;(first|exact HB.Ak rfl|exact AU.Ah _ _|(simp [HB.under,AU.under,PV.under];done)))|(refine Aj.cons (Ac rfl) ?_ rfl ?_ ?_;(first|exact trivial|exact AU.Ah _ _|(simp [HB.under,AU.under,PV.under]));(first|exact Bl.refl _|exact Bl.vec (Bh.refl _) (by simp))))
  ·intro k hk
   have c1:=VF m cols k
   have c2:=lQ m cols (j:=k) (by omega)
   have c3:=ZH m cols (j:=k) (by omega)
   have c4:=Xn k hk
   by_cases hc:(m:Int)≤gi cols k
   ·have c5:Ky m (gi cols k)=-1:=if_pos hc
    rw [c5] at c3
    repeat' (first|apply Ae.AA|apply Ae.region|apply Ae.Aq|apply Ae.Ai|apply AO.normal|apply AL.normal|apply Ag.nil|apply Ag.one|(apply Aa.Du;rfl;rfl;(first|omega|(simp only [List.length_set]<;>omega));exact congrArg (fun b=>some (FV.int .i64 b)) (c2))|(apply Aa.Eb (y:=(-1:Int));rfl;rfl;rfl;trivial;(first|rfl|(refine congrArg (fun t=>[PV.p (FV.int _ t)]) ?_;first|omega|(simp only [Int.natCast_add,Int.natCast_mul,Int.natCast_ediv,Int.natCast_emod]<;>omega)));rfl;rfl;decide;(first|omega|(simp only [List.length_set]<;>omega)))|(apply Aa.assign;rfl)|(apply Aa.move;rfl)|(apply Aa.Bv;rfl;rfl;omega)|(apply Aa.int;rfl;rfl;rfl)|(apply Aa.load;rfl;rfl)|(apply Aa.AQ;rfl;rfl;rfl)|(apply Aa.Dk;rfl;rfl;rfl;rfl;omega)|(apply Ae.Af;rfl)|(apply Ae.AZ;rfl)|(intro _;try (exfalso;omega)))
    all_goals try (exfalso;omega)
    refine Aw.normal ⟨by first|omega|decide,?_,?_⟩
    ·try (rw [← c3])
     repeat (first|exact Ad.nil|refine Ad.same trivial rfl ?_|refine Ad.same (Ac rfl) rfl ?_|refine Ad.same ⟨trivial,Ac rfl,trivial⟩ rfl ?_|refine Ad.same ⟨trivial,Ac rfl,Ac rfl,trivial⟩ rfl ?_|refine Ad.same ⟨trivial,Ac rfl,Ac rfl,Ac rfl,trivial⟩ rfl ?_|refine Ad.same ⟨trivial,trivial⟩ rfl ?_|refine Ad.cons trivial rfl (.of_eq (Ar (by simp<;>omega))) ?_)
    ·rw [← c3]
     repeat (first|exact Aj.nil|(refine Aj.cons (Ac rfl) ?_ rfl ?_ ?_;(first|exact HB.Ak rfl|exact AU.Ah _ _|(simp [HB.under,AU.under,PV.under]));(first|exact Bl.refl _|exact Bl.vec (Bh.refl _) (by simp))))
   ·have c5:Ky m (gi cols k)=gi cols k:=if_neg hc
    have c6:=mD m cols (j:=k) (by omega) c5
    repeat' (first|apply Ae.AA|apply Ae.region|apply Ae.Aq|apply Ae.Ai|apply AO.normal|apply AL.normal|apply Ae.skip|apply Ag.nil|apply Ag.one|(apply Aa.Du;rfl;rfl;(first|omega|(simp only [List.length_set]<;>omega));exact congrArg (fun b=>some (FV.int .i64 b)) (c2))|(apply Aa.assign;rfl)|(apply Aa.move;rfl)|(apply Aa.Bv;rfl;rfl;omega)|(apply Aa.int;rfl;rfl;rfl)|(apply Aa.Dk;rfl;rfl;rfl;rfl;omega)|(apply Ae.Af;rfl)|(apply Ae.AZ;rfl)|(intro _;try (exfalso;omega)))
    all_goals try (exfalso;omega)
    refine Aw.normal ⟨by first|omega|decide,?_,?_⟩
    ·try (rw [c6])
     repeat (first|exact Ad.nil|refine Ad.same trivial rfl ?_|refine Ad.same (Ac rfl) rfl ?_|refine Ad.same ⟨trivial,Ac rfl,trivial⟩ rfl ?_|refine Ad.same ⟨trivial,Ac rfl,Ac rfl,trivial⟩ rfl ?_|refine Ad.same ⟨trivial,Ac rfl,Ac rfl,Ac rfl,trivial⟩ rfl ?_|refine Ad.same ⟨trivial,trivial⟩ rfl ?_|refine Ad.cons trivial rfl (.of_eq (Ar (by simp<;>omega))) ?_)
    ·rw [c6]
     repeat (first|exact Aj.nil|(refine Aj.cons (Ac rfl) ?_ rfl ?_ ?_;(first|exact HB.Ak rfl|exact AU.Ah _ _|(simp [HB.under,AU.under,PV.under]));(first|exact Bl.refl _|exact Bl.vec (Bh.refl _) (by simp))))
  ·have c7:=vX m cols
   rw [lC] at c7
   rw [c7]
   have f1:(cols.map (Ky m)).length=l.length:=by rw [List.length_map];exact lC
   have f2:=hs.lU
   have f3:((GY (DC l skip l.length) l.length (m+(l.length+1))).take m).length=m:=by rw [List.length_take,lV];omega
   generalize cols.map (Ky m)=C at *
   generalize (GY (DC l skip l.length) l.length (m+(l.length+1))).take m=V at *
   have hfin:∀ (t:Int) (U:List Int),U.length=l.length→PV.Fb [.p (.agg [.lst 3 (cells C) l.length,.int .i64 t,.lst 3 (cells U) l.length,.lst 3 (cells V) m]),.p (.int .i64 0)]=PV.Fb [.p (.agg (Enc.enc (⟨C,t,U,V⟩:QD))),.p (.int .i64 0)]:=fun t U f2=>by
    show _=PV.Fb [.p (.agg [.lst 3 (cells C) C.length,.int .i64 t,.lst 3 (cells U) U.length,.lst 3 (cells V) V.length]),.p (.int .i64 0)]
    rw [f1,f2,f3]
   repeat' (first|(refine Ae.at 20 ?_;refine Ae.ghost (Ba.Dh 8 0 rfl rfl rfl) ?_;first|apply Ae.AA|apply Ae.BF)|apply Ae.AA|apply Ae.AY|apply AO.normal|apply AL.exit|apply Aw.exit|apply Ae.ret|apply Ag.nil|apply Ag.one|(apply Aa.assign;rfl)|(apply Aa.int;rfl;rfl;rfl)|(apply Aa.load;rfl;rfl)|(apply Aa.Bo;rfl;rfl;rfl;trivial;rfl;rfl;exact Ac rfl;exact le_dec rfl)|(apply Ae.Af;rfl)|(intro _;try (exfalso;omega)))
   all_goals try (exfalso;omega)
   all_goals (refine Done.ret rfl (.refl _) (by first|exact trivial|exact ⟨trivial,trivial,trivial⟩|exact ⟨trivial,trivial,trivial,trivial⟩) Aj.nil (Nat.zero_le _) (Nat.le_refl _) ⟨?_,rfl,rfl⟩;exact hfin _ _ f2)
theorem aj (e:TypeId):AX env 72 [.lst e [] 0] (.p (.agg (Enc.enc (⟨[],0,[],[]⟩:QD)))):=by
 have Xn:AX env 69 [.lst e [] 0] (.p (.int .i64 0)):=Lr e [] (by decide)
 refine AX.enter (AB (by decide)) Tryz.func72 rfl (by kernel_rfl) (by simp [Tryz.ntmps72]) ?_
 repeat' (first|apply Ae.assoc|apply Ae.AA|apply Ae.BF|apply Ae.Ai|apply Ag.nil|apply Ap.nil|apply Ag.one|(apply Ap.bar;decide +kernel)|apply Ap.quiet|(apply Aa.fn;rfl;rfl;exact Xn;intro _;rfl)|(apply Aa.Em 1 (0:Int);rfl;rfl;rfl;rfl;rfl;rfl;rfl;decide;decide;decide;rfl)|(apply Aa.assign;rfl)|(apply Aa.move;rfl)|(apply Aa.Bv;rfl;rfl;omega)|(apply Aa.BI;rfl;rfl)|(apply Aa.alloc;rfl))
 all_goals try (exfalso;omega)
 apply Ae.EX (0) [(2,_),(3,_),(4,_),(5,_),(6,_),(7,_)] [(0,_),(1,_),(2,_),(3,_)] (fun k r=>(9,.p (.int .i64 ((k+1:Nat):Int)))::r) (fun k r=>r) 5
 ·first|omega|decide
 ·first|omega|decide
 ·repeat (first|exact Ad.nil|(refine Ad.eq rfl ?_ ?_;(first|exact PV.Ak rfl|(simp [PV.under,AU.under];done)))|refine Ad.cons trivial rfl (.of_eq (Ar (by simp<;>omega))) ?_)
 ·repeat (first|exact Aj.nil|(refine Aj.eq rfl (Ac rfl) ?_ ?_;(first|exact HB.Ak rfl|exact AU.Ah _ _|(simp [HB.under,AU.under,PV.under];done)))|(refine Aj.cons (Ac rfl) ?_ rfl ?_ ?_;(first|exact trivial|exact AU.Ah _ _|(simp [HB.under,AU.under,PV.under]));(first|exact Bl.refl _|exact Bl.vec (Bh.refl _) (by simp))))
 ·intro k hk;omega
 ·repeat' (first|(refine Ae.at 34 ?_;refine Ae.ghost (Ba.freeze 5 rfl rfl) ?_;first|apply Ae.AA|apply Ae.BF)|(refine Ap.atIdx 4 ?_;refine Ap.ghost (Ba.freeze 6 rfl rfl) ?_)|apply Ae.assoc|apply Ae.AA|apply Ae.AY|apply Ae.Ai|apply AO.normal|apply AL.exit|apply Aw.exit|apply Ag.nil|apply Ap.nil|apply Ag.one|(apply Ap.bar;decide +kernel)|apply Ap.quiet|(apply Aa.Em 0 (0:Int);rfl;rfl;rfl;rfl;rfl;rfl;rfl;decide;decide;decide;rfl)|(apply Aa.sliceFrom (l:=[(0:Int)]) (a:=1);rfl;rfl;rfl;rfl;rfl;rfl;decide)|(apply Aa.assign;rfl)|(apply Aa.move;rfl)|(apply Aa.int;rfl;rfl;rfl)|(apply Aa.alloc;rfl)|(apply Aa.Bo;rfl;rfl;rfl;trivial;rfl;rfl;exact Ac rfl;exact le_dec rfl)|(apply Aa.build;rfl;rfl;rfl;rfl;rfl)|(apply Ae.Az;rfl))
  all_goals try (exfalso;omega)
  apply Ae.EX (0) [(2,_),(3,_),(4,_),(7,_),(19,_)] [(0,_),(3,_),(5,_),(6,_)] (fun k r=>(20,.p (.int .i64 ((k+1:Nat):Int)))::r) (fun k r=>r) 7
  ·first|omega|decide
  ·first|omega|decide
  ·repeat (first|exact Ad.nil|(refine Ad.eq rfl ?_ ?_;(first|exact PV.Ak rfl|(simp [PV.under,AU.under];done)))|refine Ad.cons trivial rfl (.of_eq (Ar (by simp<;>omega))) ?_)
  ·repeat (first|exact Aj.nil|(refine Aj.eq rfl (Ac rfl) ?_ ?_;(first|exact HB.Ak rfl|exact AU.Ah _ _|(simp [HB.under,AU.under,PV.under];done)))|(refine Aj.cons (Ac rfl) ?_ rfl ?_ ?_;(first|exact trivial|exact AU.Ah _ _|(simp [HB.under,AU.under,PV.under]));(first|exact Bl.refl _|exact Bl.vec (Bh.refl _) (by simp))))
  ·intro k hk;omega
  ·repeat' (first|(refine Ae.at 42 ?_;refine Ae.ghost (Ba.Dh 6 0 rfl rfl rfl) ?_;first|apply Ae.AA|apply Ae.BF)|apply Ae.assoc|apply Ae.AA|apply Ae.AY|apply AO.normal|apply AL.exit|apply Aw.exit|apply Ae.ret|apply Ag.nil|apply Ag.one|(apply Aa.move;rfl)|(apply Aa.int;rfl;rfl;rfl)|(apply Aa.load;rfl;rfl)|(apply Aa.Bo;rfl;rfl;rfl;trivial;rfl;rfl;exact Ac rfl;exact le_dec rfl)|(apply Ae.Az;rfl))
   all_goals first|(exfalso;omega)|(refine Done.ret rfl (.refl _) (by first|exact trivial|exact ⟨trivial,trivial,trivial⟩|exact ⟨trivial,trivial,trivial,trivial⟩) Aj.nil (Nat.zero_le _) (Nat.le_refl _) ⟨?_,rfl,rfl⟩;try rfl)
theorem Xp {skip:Int} (e:TypeId) (hk:0≤skip∧skip≤1000000000):AX env 45 [.lst e (cells ([]:List (List Int))) 0,.int .i64 skip] (.Fb [.p (.agg (Enc.enc (⟨[],0,[],[]⟩:QD))),.p (.int .i64 0)]):=by
 have hM:PZ [] 0 0 skip 1000000000:=⟨⟨rfl,fun r hr=>by omega,fun r k hr=>by omega,hk,by decide⟩,by omega,by omega,by decide,fun _=>rfl⟩
 have hck:=LD e hM
 have hcl:=NY e hM
 have hs:=aj 52
 refine AX.enter (AB (by decide)) Tryz.func45 rfl (by kernel_rfl) (by simp [Tryz.ntmps45]) ?_
 repeat' (first|apply Ae.assoc|apply Ae.AA|apply Ae.Aq|apply Ae.Ai|apply Ag.nil|apply Ag.one|(apply Aa.fn;rfl;rfl;exact hck;intro _;rfl)|(apply Aa.fn;rfl;rfl;exact hcl;intro _;rfl)|(apply Aa.makeSlice (n:=0);rfl;rfl;rfl;rfl;rfl;decide;decide)|(apply Aa.assign;rfl)|(apply Aa.move;rfl)|(apply Aa.int;rfl;rfl;rfl)|(apply Aa.BI;rfl;rfl)|(apply Aa.alloc;rfl)|(apply Ae.Az;rfl))
 all_goals try (exfalso;omega)
 all_goals try contradiction
 apply Ae.EX (0) [(0,_),(1,_),(4,_),(7,_),(8,_),(26,_),(27,_)] [(0,_),(1,_)] (fun k r=>(28,.p (.int .i64 (k:Int)))::r) (fun k r=>r) 2
 ·first|omega|decide
 ·first|omega|decide
 ·repeat (first|exact Ad.nil|(refine Ad.eq rfl ?_ ?_;(first|exact PV.Ak rfl|(simp [PV.under,AU.under];done)))|refine Ad.cons trivial rfl (.of_eq (Ar (by simp<;>omega))) ?_)
 ·repeat (first|exact Aj.nil|(refine Aj.eq rfl (Ac rfl) ?_ ?_;(first|exact HB.Ak rfl|exact AU.Ah _ _|(simp [HB.under,AU.under,PV.under];done)))|(refine Aj.cons (Ac rfl) ?_ rfl ?_ ?_;(first|exact trivial|exact AU.Ah _ _|(simp [HB.under,AU.under,PV.under]));(first|exact Bl.refl _|exact Bl.vec (Bh.refl _) (by simp))))
 ·intro k hk;omega
 ·repeat' (first|(refine Ag.IC 47 ?_;refine Ag.ghost (Ba.freeze 46 rfl rfl) ?_)|apply Ae.assoc|apply Ae.AA|apply Ae.Aq|apply Ae.AY|apply Ae.Ai|apply AO.normal|apply AL.exit|apply Aw.exit|apply Ag.nil|apply Ag.one|(apply Aa.fn;rfl;rfl;exact hs;intro _;rfl)|(apply Aa.move;rfl)|(apply Aa.int;rfl;rfl;rfl)|(apply Aa.load;rfl;rfl)|(apply Aa.BI;rfl;rfl)|(apply Aa.AQ;rfl;rfl;rfl)|(apply Aa.alloc;rfl)|(apply Aa.Bo;rfl;rfl;rfl;trivial;rfl;rfl;exact Ac rfl;exact le_dec rfl)|(apply Ae.Az;rfl))
  all_goals try (exfalso;omega)
  all_goals try contradiction
  apply Ae.EX (0) [(4,_),(7,_),(11,_),(57,_),(58,_)] [(0,_),(2,_)] (fun k r=>(59,.p (.int .i64 (k:Int)))::r) (fun k r=>r) 3
  ·first|omega|decide
  ·first|omega|decide
  ·repeat (first|exact Ad.nil|(refine Ad.eq rfl ?_ ?_;(first|exact PV.Ak rfl|(simp [PV.under,AU.under];done)))|refine Ad.cons trivial rfl (.of_eq (Ar (by simp<;>omega))) ?_)
  ·repeat (first|exact Aj.nil|(refine Aj.eq rfl (Ac rfl) ?_ ?_;(first|exact HB.Ak rfl|exact AU.Ah _ _|(simp [HB.under,AU.under,PV.under];done)))|(refine Aj.cons (Ac rfl) ?_ rfl ?_ ?_;(first|exact trivial|exact AU.Ah _ _|(simp [HB.under,AU.under,PV.under]));(first|exact Bl.refl _|exact Bl.vec (Bh.refl _) (by simp))))
  ·intro k hk;omega
  ·repeat' (first|apply Ae.AA|apply Ae.AY|apply AO.normal|apply AL.exit|apply Aw.exit|apply Ae.ret|apply Ag.nil|apply Ag.one|(apply Aa.assign;rfl)|(apply Aa.int;rfl;rfl;rfl)|(apply Aa.load;rfl;rfl)|(apply Aa.Bo;rfl;rfl;rfl;trivial;rfl;rfl;exact Ac rfl;exact le_dec rfl)|(apply Ae.Az;rfl))
   all_goals first|(exfalso;omega)|(refine Done.ret rfl (.refl _) (by first|exact trivial|exact ⟨trivial,trivial,trivial⟩|exact ⟨trivial,trivial,trivial,trivial⟩) Aj.nil (Nat.zero_le _) (Nat.le_refl _) ⟨?_,rfl,rfl⟩;try rfl)
end Go.Proofs.YtdabojnmoejilaaGreatDoor
namespace Go.Hun
open Go Go.Am Go.Vm
def uD (row:List Int) (g:Nat→Int) (t:Nat) (b:Int):Nat→Int
 |0=>b
 |k+1=>if t.testBit k then uD row g t b k else min (uD row g t b k) (gi row k+g (t ||| 2 ^ k))
def ql (l:List (List Int)) (skip:Int) (m n:Nat):Nat→Nat→Int
 |0,_=>0
 |r+1,t=>uD (gi l (n-(r+1))) (ql l skip m n r) t (skip+ql l skip m n r t) m
def SL (f:Nat→Int) (n:Nat):Nat→Int
 |0=>0
 |r+1=>f (n-(r+1))+SL f n r
theorem Ud (f:Nat→Int) (n:Nat):∀ r,r≤n→DF f (n-r)+SL f n r=DF f n
 |0,_=>by simp [SL]
 |r+1,h=>by
  have ih:=Ud f n r (by omega)
  have e:n-r=(n-(r+1))+1:=by omega
  rw [e] at ih
  simp only [DF] at ih
  simp only [SL]
  omega
theorem nN (f:Nat→Int) (n:Nat):SL f n n=DF f n:=by
 have:=Ud f n n (Nat.le_refl _)
 rw [Nat.sub_self] at this
 simp only [DF] at this
 omega
structure a7z (n m r t:Nat) (cols:Nat→Int):Prop where
 rng:∀ q,n-r≤q→q<n→-1≤cols q∧cols q<m
 inj:∀ p q,n-r≤p→p<n→n-r≤q→q<n→0≤cols p→cols p=cols q→p=q
 free:∀ q,n-r≤q→q<n→0≤cols q→t.testBit (cols q).toNat=false
end Go.Hun
namespace Go.Proofs.YtdabojnmoejilaaGreatDoor
open Go Go.Am Go.Vm Go.Hun
attribute [local irreducible] Aa Ag Ap Ae BD AX CU AO AL Aw Vm.Done Df Bq YL
theorem kD {L:Vm.Frame} {H:Vm.Heap} {nx:Nat} {Q:PV→Vm.Heap→Nat→Prop} {dst:Option Tmp} {ty:TypeId} {pos:String} {af:Array Edge} {gd:Option (Nat×Bool)} {fo:Operand} {args:Array Operand} {aT:Array TypeId} {fs cs xs:List PV} {c:Code}
 (hf:BA env.Γ L fo=some (.clo 103 fs cs)) (ha:evs env.Γ L args.toList=some xs) (hb:Tryz.f103.body=some c) (hn:(fs++xs++cs).length≤Tryz.f103.ntmps)
 (h:Ae env nx c (CO 0 (fs++xs++cs)) H nx (Bq env.P Tryz.f103.results.toList Q)):Aa env true ⟨dst,.call { callee:=.value fo,args:=args,argTypes:=aT },ty,pos,af,gd⟩ L H nx Q:=by
 have h0:(match Tryz.f103.body with|some c=>Hq env.G Tryz.f103 c|none=>false)=true:=by kernel_rfl
 rw [hb] at h0
 exact Aa.inline rfl hf ha (AB (by decide)) Tryz.func103 hb h0 hn h
theorem jZ {L:Vm.Frame} {H:Vm.Heap} {nx:Nat} {Q:PV→Vm.Heap→Nat→Prop} {dst:Option Tmp} {ty:TypeId} {pos:String} {af:Array Edge} {gd:Option (Nat×Bool)} {fo:Operand} {args:Array Operand} {aT:Array TypeId} {fs cs xs:List PV} {c:Code}
 (hf:BA env.Γ L fo=some (.clo 76 fs cs)) (ha:evs env.Γ L args.toList=some xs) (hb:Tryz.f76.body=some c) (hn:(fs++xs++cs).length≤Tryz.f76.ntmps)
 (h:Ae env nx c (CO 0 (fs++xs++cs)) H nx (Bq env.P Tryz.f76.results.toList Q)):Aa env true ⟨dst,.call { callee:=.value fo,args:=args,argTypes:=aT },ty,pos,af,gd⟩ L H nx Q:=by
 have h0:(match Tryz.f76.body with|some c=>Hq env.G Tryz.f76 c|none=>false)=true:=by kernel_rfl
 rw [hb] at h0
 exact Aa.inline rfl hf ha (AB (by decide)) Tryz.func76 hb h0 hn h
def Xq (l:List (List Int)) (m:Nat) (skip:Int) (cols:List Int):Nat→Nat→List Bool→Int→Int×Int
 |0,_,_,sum=>(sum,0)
 |r+1,k,used,sum =>
  if gi cols k< -1∨gi cols k≥m then (0,3)
  else if gi cols k<0 then Xq l m skip cols r (k+1) used (sum+skip)
  else if gi used (gi cols k).toNat=true then (0,9)
  else Xq l m skip cols r (k+1) (used.set (gi cols k).toNat true) (sum+gi (gi l k) (gi cols k).toNat)
def Zn (l:List (List Int)) (m:Nat) (skip:Int) (cols:List Int):Int×Int:=if cols.length≠l.length then (0,5) else Xq l m skip cols l.length 0 (List.replicate m false) 0
theorem iI {l:List (List Int)} {m:Nat} {skip B:Int} (e:TypeId) (h:PZ l l.length m skip B) (cols:List Int) :
 AX env 47 [.lst e (cells l) l.length,.lst 3 (cells cols) cols.length,.int .i64 (-1),.int .i64 skip] (.Fb [.p (.int .i64 (Zn l m skip cols).1),.p (.int .i64 (Zn l m skip cols).2)]):=by
 have hcl:=NY e h
 have h2:=h.n60
 have h3:=h.uS
 have h4:=h.B9
 have hrow:=h.Uf.row
 have uG:=h.Uf.rng
 have hsk:=h.Uf.skip
 unfold Zn
 refine AX.enter (AB (by decide)) Tryz.func47 rfl (by kernel_rfl) (by simp [Tryz.ntmps47]) ?_
 by_cases hlen:cols.length=l.length
 case neg =>
  rw [if_pos hlen]
  repeat' (first|apply Ae.assoc|apply Ae.AA|apply Ae.BQ|apply Ag.nil|apply Ag.one|(apply Aa.assign;rfl)|(apply Aa.move;rfl)|(apply Aa.int;rfl;rfl;rfl)|(apply Aa.BI;rfl;rfl)|(apply Ae.Af;rfl)|(intro _;try (exfalso;omega)))
  all_goals first|(exfalso;omega)|contradiction|(refine Done.ret rfl (.refl _) (by first|exact trivial|exact ⟨trivial,trivial,trivial⟩|exact ⟨trivial,trivial,trivial,trivial⟩) Aj.nil (Nat.zero_le _) (Nat.le_refl _) ⟨?_,rfl,rfl⟩;try rfl)
 rw [if_neg (fun x=>x hlen)]
 repeat' (first|apply Ae.assoc|apply Ae.AA|apply Ae.Aq|apply Ae.Ai|apply Ag.nil|apply Ag.one|(apply Aa.fn;rfl;rfl;exact hcl;intro _;rfl)|(apply Aa.Em m false;rfl;rfl;rfl;rfl;rfl;rfl;rfl;omega;decide;decide;rfl)|(apply Aa.assign;rfl)|(apply Aa.move;rfl)|(apply Aa.int;rfl;rfl;rfl)|(apply Aa.BI;rfl;rfl)|(apply Ae.Af;rfl)|(intro _;try (exfalso;omega)))
 all_goals try (exfalso;omega)
 obtain ⟨R,hR⟩:∃ R,R=Xq l m skip cols l.length 0 (List.replicate m false) 0:=⟨_,rfl⟩
 rw [← hR]
 refine Ae.D6 (fun s:Nat×List Bool×Int=>[(0,.p (.lst e (cells l) l.length)),(2,.p (.int .i64 (-1))),(3,.p (.int .i64 skip)),(10,.p (.int .i64 s.2.2)),(11,.vec 0 m 0 m),(22,.p (.lst 3 (cells cols) cols.length)),(23,.p (.int .i64 (cols.length:Int))),(24,.p (.int .i64 (s.1:Int)))]) (fun s=>[(0,.vec 4 (cells s.2.1) m false)]) 1
  (fun s=>s.1≤l.length∧s.2.1.length=m∧0≤s.2.2∧s.2.2≤s.1*B∧Xq l m skip cols (l.length-s.1) s.1 s.2.1 s.2.2=R) (fun s=>l.length-s.1) (0,List.replicate m false,0) (by omega) ⟨Nat.zero_le _,by simp,by simp,by simp,hR.symm⟩ ⟨by omega,?_,?_⟩ ?_
 ·repeat (first|exact Ad.nil|refine Ad.same trivial rfl ?_|refine Ad.same (Ac rfl) rfl ?_|refine Ad.same ⟨trivial,Ac rfl,Ac rfl,Ac rfl,trivial⟩ rfl ?_|refine Ad.same ⟨trivial,Ac rfl,Ac rfl,trivial⟩ rfl ?_|refine Ad.same ⟨trivial,trivial⟩ rfl ?_|refine Ad.cons trivial rfl (.of_eq (Ar (by simp<;>omega))) ?_)
 ·repeat (first|exact Aj.nil|(refine Aj.cons (Ac rfl) ?_ rfl ?_ ?_;(first|exact HB.Ak rfl|exact AU.Ah _ _|(simp [HB.under,AU.under,PV.under]));(first|exact Bl.refl _|exact Bl.vec (Bh.refl _) (by simp))))
 rintro ⟨k,used,sum⟩ ⟨i1,i2,i3,i4,i5⟩
 simp only at i1 i2 i3 i4 i5 ⊢
 have hkB:(k:Int)*B≤60*1000000000:=Int.mul_le_mul (by omega) h4 (by omega) (by omega)
 by_cases hk:k<l.length
 ·obtain ⟨r,hr⟩:∃ r,l.length-k=r+1:=⟨l.length-k-1,by omega⟩
  rw [hr] at i5
  have hr':l.length-(k+1)=r:=by omega
  have a9e:((k+1:Nat):Int)*B=(k:Int)*B+B:=by rw [Int.natCast_add,Int.add_mul];simp
  unfold Xq at i5
  by_cases c1:gi cols k< -1∨gi cols k≥m
  ·rw [if_pos c1] at i5
   rw [← i5]
   repeat' (first|apply Ae.AA|apply Ae.Aq|apply Ae.Ai|apply AO.ret|apply AL.ret|apply Aw.ret|apply Ae.ret|apply Ag.nil|apply Ag.one|(apply Ag.take;rfl;rfl)|(apply Ag.drop;rfl;rfl;rfl)|(apply Ag.guard;rfl;rfl)|(apply Aa.assign;rfl)|(apply Aa.move;rfl)|(apply Aa.int;rfl;rfl;rfl)|(apply Aa.AP;rfl;rfl;rfl;omega;rfl)|(apply Aa.load;rfl;rfl)|(apply Aa.BH;rfl;rfl)|(apply Aa.AV;rfl;rfl)|(apply Aa.lenV;rfl;rfl;rfl)|(apply Ae.Af;rfl)|(apply Ae.cond_true;rfl)|(apply Ae.AZ;rfl)|(intro _;try (exfalso;omega)))
   all_goals first|(exfalso;omega)|contradiction|(refine Done.ret rfl (.refl _) (by first|exact trivial|exact ⟨trivial,trivial,trivial⟩|exact ⟨trivial,trivial,trivial,trivial⟩) Aj.nil (Nat.zero_le _) (Nat.le_refl _) ⟨?_,rfl,rfl⟩;try rfl)
  rw [if_neg c1] at i5
  by_cases c2:gi cols k<0
  ·rw [if_pos c2] at i5
   repeat' (first|apply Ae.AA|apply Ae.region|apply Ae.Aq|apply Ae.Ai|apply AO.normal|apply AO.exit|apply AL.exit|(apply AL.out;decide)|apply Ae.exit|apply Ag.nil|apply Ag.one|(apply Ag.take;rfl;rfl)|(apply Ag.guard;rfl;rfl)|(apply Aa.assign;rfl)|(apply Aa.move;rfl)|(apply Aa.Bv;rfl;rfl;omega)|(apply Aa.int;rfl;rfl;rfl)|(apply Aa.AP;rfl;rfl;rfl;omega;rfl)|(apply Aa.load;rfl;rfl)|(apply Aa.AV;rfl;rfl)|(apply Aa.lenV;rfl;rfl;rfl)|(apply Ae.Af;rfl)|(apply Ae.AZ;rfl)|(intro _;try (exfalso;omega)))
   all_goals try (exfalso;omega)
   refine Aw.normal ⟨(k+1,used,sum+skip),⟨hk,i2,by simp only;omega,by simp only;omega,by simp only;rw [hr'];exact i5⟩,by simp only;omega,⟨by omega,?_,?_⟩⟩
   ·repeat (first|exact Ad.nil|refine Ad.same trivial rfl ?_|refine Ad.same (Ac rfl) rfl ?_|refine Ad.same ⟨trivial,Ac rfl,Ac rfl,Ac rfl,trivial⟩ rfl ?_|refine Ad.same ⟨trivial,Ac rfl,Ac rfl,trivial⟩ rfl ?_|refine Ad.same ⟨trivial,trivial⟩ rfl ?_|refine Ad.cons trivial rfl (.of_eq (Ar (by simp<;>omega))) ?_)
   ·repeat (first|exact Aj.nil|(refine Aj.cons (Ac rfl) ?_ rfl ?_ ?_;(first|exact HB.Ak rfl|exact AU.Ah _ _|(simp [HB.under,AU.under,PV.under]));(first|exact Bl.refl _|exact Bl.vec (Bh.refl _) (by simp))))
  rw [if_neg c2] at i5
  obtain ⟨j,hj⟩:∃ j:Nat,gi cols k=j:=⟨(gi cols k).toNat,by omega⟩
  rw [hj,Int.toNat_natCast] at i5
  have hjm:j<m:=by omega
  have hc:=uG k j hk hjm
  have hrl:=hrow k hk
  by_cases c3:gi used j=true
  ·rw [if_pos c3] at i5
   rw [← i5]
   repeat' (first|apply Ae.AA|apply Ae.Aq|apply Ae.Ai|apply AO.ret|apply AL.ret|apply Aw.ret|apply Ae.ret|apply Ag.nil|apply Ag.one|(apply Ag.take;rfl;rfl)|(apply Aa.Du;rfl;rfl;(first|omega|(simp only [NP]<;>omega));exact congrArg (fun b=>some (FV.bool b)) (c3))|(apply Aa.load;rfl;exact congrArg (fun a=>some (PV.p (FV.int .i64 a))) hj)|(apply Aa.assign;rfl)|(apply Aa.move;rfl)|(apply Aa.int;rfl;rfl;rfl)|(apply Aa.AP;rfl;rfl;rfl;omega;rfl)|(apply Aa.AV;rfl;rfl)|(apply Aa.lenV;rfl;rfl;rfl)|(apply Aa.Dk;rfl;rfl;rfl;rfl;omega)|(apply Ae.Af;rfl)|(apply Ae.cond_true;rfl)|(apply Ae.cond_false;rfl)|(apply Ae.AZ;rfl)|(intro _;try (exfalso;omega)))
   all_goals first|(exfalso;omega)|contradiction|(refine Done.ret rfl (.refl _) (by first|exact trivial|exact ⟨trivial,trivial,trivial⟩|exact ⟨trivial,trivial,trivial,trivial⟩) Aj.nil (Nat.zero_le _) (Nat.le_refl _) ⟨?_,rfl,rfl⟩;try rfl)
  ·rw [if_neg c3] at i5
   have c3':gi used j=false:=by cases h:gi used j<;>simp_all
   repeat' (first|apply Ae.AA|apply Ae.region|apply Ae.Aq|apply Ae.Ai|apply AO.normal|apply AL.normal|apply Ae.skip|apply Ag.nil|apply Ag.one|(apply Ag.take;rfl;rfl)|(apply Aa.Du;rfl;rfl;(first|omega|(simp only [NP]<;>omega));exact congrArg (fun b=>some (FV.bool b)) (c3'))|(apply Aa.load;rfl;exact congrArg (fun a=>some (PV.p (FV.int .i64 a))) hj)|(apply Aa.Eb (y:=true);rfl;rfl;rfl;trivial;(first|rfl|(refine congrArg (fun t=>[PV.p (FV.int _ t)]) ?_;first|omega|(simp only [Int.natCast_add,Int.natCast_mul,Int.natCast_ediv,Int.natCast_emod]<;>omega)));rfl;rfl;decide;(first|omega|(simp only [List.length_set]<;>omega)))|(apply Aa.assign;rfl)|(apply Aa.move;rfl)|(apply Aa.Bv;rfl;rfl;omega)|(apply Aa.int;rfl;rfl;rfl)|(apply Aa.AP;rfl;rfl;rfl;omega;rfl)|(apply Aa.load;rfl;rfl)|(apply Aa.AV;rfl;rfl)|(apply Aa.lenV;rfl;rfl;rfl)|(apply Aa.Dk;rfl;rfl;rfl;rfl;omega)|(apply Ae.Af;rfl)|(apply Ae.cond_false;rfl)|(apply Ae.AZ;rfl)|(intro _;try (exfalso;omega)))
   all_goals try (exfalso;omega)
   refine Aw.normal ⟨(k+1,used.set j true,sum+gi (gi l k) j),⟨hk,by simp only;rw [List.length_set];exact i2,by simp only;omega,by simp only;omega,by simp only;rw [hr'];exact i5⟩,by simp only;omega,⟨by omega,?_,?_⟩⟩
   ·repeat (first|exact Ad.nil|refine Ad.same trivial rfl ?_|refine Ad.same (Ac rfl) rfl ?_|refine Ad.same ⟨trivial,Ac rfl,Ac rfl,Ac rfl,trivial⟩ rfl ?_|refine Ad.same ⟨trivial,Ac rfl,Ac rfl,trivial⟩ rfl ?_|refine Ad.same ⟨trivial,trivial⟩ rfl ?_|refine Ad.cons trivial rfl (.of_eq (Ar (by simp<;>omega))) ?_)
   ·repeat (first|exact Aj.nil|(refine Aj.cons (Ac rfl) ?_ rfl ?_ ?_;(first|exact HB.Ak rfl|exact AU.Ah _ _|(simp [HB.under,AU.under,PV.under]));(first|exact Bl.refl _|exact Bl.vec (Bh.refl _) (by simp))))
 ·obtain rfl:k=l.length:=by omega
  rw [Nat.sub_self] at i5
  unfold Xq at i5
  rw [← i5]
  repeat' (first|apply Ae.AA|apply Ae.AY|apply AO.normal|apply AL.exit|apply Aw.exit|apply Ae.ret|apply Ag.nil|apply Ag.one|(apply Aa.assign;rfl)|(apply Aa.move;rfl)|(apply Aa.int;rfl;rfl;rfl)|(apply Ae.Af;rfl)|(intro _;try (exfalso;omega)))
  all_goals first|(exfalso;omega)|contradiction|(refine Done.ret rfl (.refl _) (by first|exact trivial|exact ⟨trivial,trivial,trivial⟩|exact ⟨trivial,trivial,trivial,trivial⟩) Aj.nil (Nat.zero_le _) (Nat.le_refl _) ⟨?_,rfl,rfl⟩;try rfl)
theorem Zf (a b:List Int) (h0:a.length+b.length=0):CU env 102 [.lst 52 [.lst 3 (cells a) a.length,.lst 3 (cells b) b.length] 2] 3 (cells (a++b)) (a.length+b.length) true:=by
 have hg:=mO
 have e0:(0:Int)=0+(a.length:Int)+(b.length:Int):=by omega
 rw [e0] at hg
 refine CU.enter (AB (by decide)) Tryz.func102 rfl (by kernel_rfl) (by simp [Tryz.ntmps102]) ?_
 repeat' (first|apply Ae.assoc|apply Ae.AA|apply Ae.Ai|apply Ag.nil|apply Ag.one|(apply Aa.assign;rfl)|(apply Aa.move;rfl)|(apply Aa.BI;rfl;rfl))
 refine Ae.lg 2 ?_
 repeat' (first|apply Ae.assoc|apply Ae.AA|apply Ae.region|apply Ae.Aq|apply Ae.AY|apply Ae.Ai|apply AO.normal|apply AL.normal|apply AL.exit|apply Aw.exit|apply Ae.skip|apply Ag.nil|apply Ag.one|(apply Aa.fn;rfl;rfl;exact hg;intro _;rfl)|(apply YL.zero)|(apply YL.succ)|(apply Aw.again)|(apply Aa.Ru;rfl;rfl;rfl;decide;decide)|(apply Aa.assign;rfl)|(apply Aa.move;rfl)|(apply Aa.Bv;rfl;rfl;omega)|(apply Aa.int;rfl;rfl;rfl)|(apply Aa.load;rfl;rfl)|(apply Aa.BI;rfl;rfl)|(apply Ae.Bg;rfl)|(apply Ae.Az;rfl)|(apply Ae.cond_false;rfl))
 refine Ae.ghost (Ba.adopt 6 3 rfl) ?_
 refine Ae.lg 2 ?_
 repeat' (first|apply Ae.AA|apply Ae.region|apply Ae.Aq|apply Ae.AY|apply Ae.Ai|apply AO.normal|apply AL.normal|apply AL.exit|apply Aw.exit|apply Ae.ret|apply Ag.nil|apply Ag.one|(apply YL.zero)|(apply YL.succ)|(apply Aw.again)|(apply Aa.Ru;rfl;rfl;rfl;decide;decide)|(apply Aa.PX (l:=a) (r:=b);rfl;rfl;rfl;rfl;rfl;rfl;rfl;(intro _ h;cases h);rfl;rfl;rfl;decide;decide;omega)|(apply Aa.Nv (r:=a);rfl;rfl;rfl;rfl;rfl;rfl;(intro _ h;cases h);rfl;rfl;rfl;decide;decide;omega)|(apply Aa.assign;rfl)|(apply Aa.move;rfl)|(apply Aa.Bv;rfl;rfl;omega)|(apply Aa.int;rfl;rfl;rfl)|(apply Aa.load;rfl;rfl)|(apply Ae.Bg;rfl)|(apply Ae.Az;rfl))
 exact Df.ret rfl rfl rfl rfl
def sumT (l:List Int):Nat→Int
 |0=>0
 |k+1=>sumT l k+gi l k
def Jr (x:Int):Prop:=-1000000000000≤x∧x≤1000000000000
theorem VY {l:List Int}:∀ k,(∀ i,i<k→Jr (gi l i))→-(k*1000000000000:Int)≤sumT l k∧sumT l k≤k*1000000000000
 |0,_=>by simp [sumT]
 |k+1,h=>by
  obtain ⟨a,b⟩:=VY k fun i hi=>h i (by omega)
  obtain ⟨c,d⟩:=h k (by omega)
  simp only [sumT]
  omega
noncomputable def Ik (l:List (List Int)) (m:Nat) (rows BU:List Int):Int×Int :=
 open Classical in
 if ¬ (rows.length=l.length∧BU.length=m) then (0,5)
 else if ∃ i,i<(rows++BU).length∧¬ Jr (gi (rows++BU) i) then (0,3)
 else if ∃ k,k<BU.length∧gi BU k>0 then (0,20)
 else if ∃ i k,i<l.length∧k<m∧gi rows i+gi BU k>gi (gi l i) k then (0,20)
 else (sumT (rows++BU) (rows++BU).length,0)
section
variable {l:List (List Int)} {m:Nat} {rows BU:List Int}
theorem a3z (h:¬ (rows.length=l.length∧BU.length=m)):Ik l m rows BU=(0,5):=by unfold Ik;rw [if_pos h]
theorem a5w (h:rows.length=l.length∧BU.length=m) {i:Nat} (hi:i<(rows++BU).length) (hb:¬ Jr (gi (rows++BU) i)):Ik l m rows BU=(0,3):=by unfold Ik;rw [if_neg (fun x=>x h),if_pos ⟨i,hi,hb⟩]
theorem a0k (h:rows.length=l.length∧BU.length=m) (hb:∀ i,i<(rows++BU).length→Jr (gi (rows++BU) i)) {k:Nat} (hk:k<BU.length) (hp:gi BU k>0):Ik l m rows BU=(0,20):=by
 unfold Ik;rw [if_neg (fun x=>x h),if_neg (fun ⟨i,h1,h2⟩=>h2 (hb i h1)),if_pos ⟨k,hk,hp⟩]
theorem a1j (h:rows.length=l.length∧BU.length=m) (hb:∀ i,i<(rows++BU).length→Jr (gi (rows++BU) i)) (hn:∀ k,k<BU.length→gi BU k≤0) {i k:Nat} (hi:i<l.length) (hk:k<m) (hp:gi rows i+gi BU k>gi (gi l i) k):Ik l m rows BU=(0,20):=by
 unfold Ik;rw [if_neg (fun x=>x h),if_neg (fun ⟨i,h1,h2⟩=>h2 (hb i h1)),if_neg (fun ⟨k,h1,h2⟩=>by have:=hn k h1;omega),if_pos ⟨i,k,hi,hk,hp⟩]
theorem zu (h:rows.length=l.length∧BU.length=m) (hb:∀ i,i<(rows++BU).length→Jr (gi (rows++BU) i)) (hn:∀ k,k<BU.length→gi BU k≤0) (hf:∀ i,i<l.length→∀ k,k<m→gi rows i+gi BU k≤gi (gi l i) k):Ik l m rows BU=(sumT (rows++BU) (rows++BU).length,0):=by
 unfold Ik;rw [if_neg (fun x=>x h),if_neg (fun ⟨i,h1,h2⟩=>h2 (hb i h1)),if_neg (fun ⟨k,h1,h2⟩=>by have:=hn k h1;omega),if_neg (fun ⟨i,k,h1,h2,h3⟩=>by have:=hf i h1 k h2;omega)]
end
theorem QO {P:Nat→Prop} {k:Nat} (h:∀ i,i<k→P i) (hk:P k):∀ i,i<k+1→P i:=fun i hi=>by
 rcases Nat.lt_or_ge i k with h1|h1
 ·exact h i h1
 ·obtain rfl:i=k:=by omega
  exact hk
theorem Vk {a b:List Int} {i:Nat} (h:i<a.length):gi (a++b) i=gi a i:=by unfold gi;rw [List.getElem?_append_left h]
theorem WJ {a b:List Int} {i:Nat}:gi (a++b) (a.length+i)=gi b i:=by unfold gi;rw [List.getElem?_append_right (by omega),Nat.add_sub_cancel_left]
theorem Uh {l:List (List Int)} {m:Nat} {skip B:Int} (e:TypeId) (h:PZ l l.length m skip B) (rows BU:List Int) :
 AX env 74 [.lst e (cells l) l.length,.lst 3 (cells rows) rows.length,.lst 3 (cells BU) BU.length] (.Fb [.p (.int .i64 (Ik l m rows BU).1),.p (.int .i64 (Ik l m rows BU).2)]):=by
 have hcl:=NY e h
 have h2:=h.n60
 have h3:=h.uS
 have h4:=h.B9
 have hrow:=h.Uf.row
 have uG:=h.Uf.rng
 by_cases hlen:rows.length=l.length∧BU.length=m
 case neg =>
  rw [a3z hlen]
  refine AX.enter (AB (by decide)) Tryz.func74 rfl (by kernel_rfl) (by simp [Tryz.ntmps74]) ?_
  repeat' (first|apply Ae.assoc|apply Ae.AA|apply Ae.BQ|apply Ag.nil|apply Ag.one|(apply Ag.take;rfl;rfl)|(apply Ag.drop;rfl;rfl;rfl)|(apply Ag.guard;rfl;rfl)|(apply Aa.fn;rfl;rfl;exact hcl;intro _;rfl)|(apply Aa.assign;rfl)|(apply Aa.move;rfl)|(apply Aa.int;rfl;rfl;rfl)|(apply Aa.BH;rfl;rfl)|(apply Aa.AV;rfl;rfl)|(apply Aa.BI;rfl;rfl)|(apply Ae.Bg;rfl)|(apply Ae.Af;rfl)|(intro _;try (exfalso;omega)))
  all_goals first|(exfalso;omega)|contradiction|(refine Done.ret rfl (.refl _) (by first|exact trivial|exact ⟨trivial,trivial,trivial⟩|exact ⟨trivial,trivial,trivial,trivial⟩) Aj.nil (Nat.zero_le _) (Nat.le_refl _) ⟨?_,rfl,rfl⟩;try rfl)
 have hp3:∀ i,i<(rows++BU).length→¬ Jr (gi (rows++BU) i)→Ik l m rows BU=(0,3):=fun i=>a5w hlen
 have a4e:(∀ i,i<(rows++BU).length→Jr (gi (rows++BU) i))→∀ k,k<BU.length→gi BU k>0→Ik l m rows BU=(0,20):=fun hb k=>a0k hlen hb
 have a2h:(∀ i,i<(rows++BU).length→Jr (gi (rows++BU) i))→(∀ k,k<BU.length→gi BU k≤0)→∀ i k,i<l.length→k<m→gi rows i+gi BU k>gi (gi l i) k→Ik l m rows BU=(0,20):=fun hb hn i k=>a1j hlen hb hn
 have a3x:(∀ i,i<(rows++BU).length→Jr (gi (rows++BU) i))→(∀ k,k<BU.length→gi BU k≤0)→(∀ i,i<l.length→∀ k,k<m→gi rows i+gi BU k≤gi (gi l i) k)→Ik l m rows BU=(sumT (rows++BU) (rows++BU).length,0):=zu hlen
 have gr:∀ k,k<l.length→gi (rows++BU) k=gi rows k:=fun k hk=>Vk (by omega)
 have gp:∀ j,j<BU.length→gi (rows++BU) (rows.length+j)=gi BU j:=fun j _=>WJ
 have yS:(rows++BU).length=rows.length+BU.length:=List.length_append
 rcases Nat.eq_zero_or_pos (rows.length+BU.length) with hz|hz
 ·have hcn:=Zf rows BU hz
  rw [← yS] at hcn
  generalize rows++BU=cat at *
  generalize Ik l m rows BU=R at *
  refine AX.enter (AB (by decide)) Tryz.func74 rfl (by kernel_rfl) (by simp [Tryz.ntmps74]) ?_
  repeat' (first|(refine Ag.IC 30 ?_;refine Ag.ghost (Ba.freeze 29 rfl rfl) ?_)|apply Ae.assoc|apply Ae.AA|apply Ae.Aq|apply Ae.Ai|apply Ag.nil|apply Ag.one|(apply Ag.take;rfl;rfl)|(apply Ag.guard;rfl;rfl)|(apply Aa.fn;rfl;rfl;exact hcl;intro _;rfl)|(apply Aa.fv;rfl;rfl;exact hcn)|(apply Aa.assign;rfl)|(apply Aa.move;rfl)|(apply Aa.int;rfl;rfl;rfl)|(apply Aa.AV;rfl;rfl)|(apply Aa.BI;rfl;rfl)|(apply Aa.lenV;rfl;rfl;rfl)|(apply Aa.buildSlice;rfl;rfl;rfl;decide;rfl;rfl;rfl)|(apply Ae.Af;rfl)|(intro _;try (exfalso;omega)))
  all_goals try (exfalso;omega)
  apply Ae.GU (cat.length) (fun k=>∀ i,i<k→Jr (gi cat i)) [(0,_),(1,_),(2,_),(30,_),(31,_)] [(1,_)] (fun k r=>(8,.p (.int .i64 (sumT cat k)))::(32,.p (.int .i64 (k:Int)))::r) (fun k r=>r) 2
  ·first|omega|decide
  ·first|omega|decide
  ·repeat (first|exact Ad.nil|(refine Ad.eq rfl ?_ ?_;(first|exact PV.Ak rfl|(simp [PV.under,AU.under];done)))|refine Ad.cons trivial rfl (.of_eq (Ar (by simp<;>omega))) ?_)
  ·repeat (first|exact Aj.nil|(refine Aj.eq rfl (Ac rfl) ?_ ?_;(first|exact HB.Ak rfl|exact AU.Ah _ _|(simp [HB.under,AU.under,PV.under];done)))|(refine Aj.cons (Ac rfl) ?_ rfl ?_ ?_;(first|exact trivial|exact AU.Ah _ _|(simp [HB.under,AU.under,PV.under]));(first|exact Bl.refl _|exact Bl.vec (Bh.refl _) (by simp))))
  ·first|(intro _ _;omega)|omega|trivial
  ·intro k hk;omega
  ·intro hall
   repeat' (first|apply Ae.assoc|apply Ae.AA|apply Ae.AY|apply Ae.Ai|apply AO.normal|apply AL.exit|apply Aw.exit|apply Ag.nil|apply Ag.one|(apply UA;rfl;rfl;rfl;exact le_dec rfl)|(apply UC;rfl;rfl;rfl;exact le_dec rfl)|(apply Aa.assign;rfl)|(apply Aa.move;rfl)|(apply Aa.int;rfl;rfl;rfl)|(apply Aa.BI;rfl;rfl)|(apply Ae.Af;rfl)|(intro _;try (exfalso;omega)))
   all_goals try (exfalso;omega)
   apply Ae.GU (BU.length) (fun k=>∀ i,i<k→gi BU i≤0) [(0,_),(1,_),(7,_)] [(1,_)] (fun k r=>(8,.p (.int .i64 (k:Int)))::r) (fun k r=>r) 2
   ·first|omega|decide
   ·first|omega|decide
   ·repeat (first|exact Ad.nil|(refine Ad.eq rfl ?_ ?_;(first|exact PV.Ak rfl|(simp [PV.under,AU.under];done)))|refine Ad.cons trivial rfl (.of_eq (Ar (by simp<;>omega))) ?_)
   ·repeat (first|exact Aj.nil|(refine Aj.eq rfl (Ac rfl) ?_ ?_;(first|exact HB.Ak rfl|exact AU.Ah _ _|(simp [HB.under,AU.under,PV.under];done)))|(refine Aj.cons (Ac rfl) ?_ rfl ?_ ?_;(first|exact trivial|exact AU.Ah _ _|(simp [HB.under,AU.under,PV.under]));(first|exact Bl.refl _|exact Bl.vec (Bh.refl _) (by simp))))
   ·first|(intro _ _;omega)|omega|trivial
   ·intro k hk;omega
   ·intro hneg
    repeat' (first|apply Ae.assoc|apply Ae.AA|apply Ae.Aq|apply Ae.AY|apply Ae.Ai|apply AO.normal|(apply Bq.ret;rfl)|apply AL.exit|apply Aw.exit|apply Ae.ret|apply Ag.nil|apply Ag.one|(apply Aa.assign;rfl)|(apply Aa.move;rfl)|(apply Aa.int;rfl;rfl;rfl)|(apply Aa.BI;rfl;rfl)|(apply Ae.Az;rfl)|(apply Ae.Af;rfl)|(intro _;try (exfalso;omega)))
    all_goals try (exfalso;omega)
    all_goals try contradiction
    apply Ae.GU (l.length) (fun k=>∀ i,i<k→∀ j,j<m→gi rows i+gi BU j≤gi (gi l i) j) [(0,_),(1,_),(2,_),(8,_),(48,_),(49,_)] [(1,_)] (fun k r=>(50,.p (.int .i64 (k:Int)))::r) (fun k r=>r) 2
    ·first|omega|decide
    ·first|omega|decide
    ·repeat (first|exact Ad.nil|(refine Ad.eq rfl ?_ ?_;(first|exact PV.Ak rfl|(simp [PV.under,AU.under];done)))|refine Ad.cons trivial rfl (.of_eq (Ar (by simp<;>omega))) ?_)
    ·repeat (first|exact Aj.nil|(refine Aj.eq rfl (Ac rfl) ?_ ?_;(first|exact HB.Ak rfl|exact AU.Ah _ _|(simp [HB.under,AU.under,PV.under];done)))|(refine Aj.cons (Ac rfl) ?_ rfl ?_ ?_;(first|exact trivial|exact AU.Ah _ _|(simp [HB.under,AU.under,PV.under]));(first|exact Bl.refl _|exact Bl.vec (Bh.refl _) (by simp))))
    ·first|(intro _ _;omega)|omega|trivial
    ·intro k hk;omega
    ·intro hf
     rw [a3x hall hneg hf]
     repeat' (first|apply Ae.AA|apply Ae.AY|apply AO.normal|apply AL.exit|apply Aw.exit|apply Ae.ret|apply Ag.nil|apply Ag.one|(apply Aa.assign;rfl)|(apply Aa.move;rfl)|(apply Aa.int;rfl;rfl;rfl)|(apply Ae.Af;rfl)|(intro _;try (exfalso;omega)))
     all_goals first|(exfalso;omega)|contradiction|(refine Done.ret rfl (.refl _) (by first|exact trivial|exact ⟨trivial,trivial,trivial⟩|exact ⟨trivial,trivial,trivial,trivial⟩) Aj.nil (Nat.zero_le _) (Nat.le_refl _) ⟨?_,rfl,rfl⟩;try rfl)
 ·have hcn:=Y3 rows BU hz (by omega)
  rw [← yS] at hcn
  generalize rows++BU=cat at *
  generalize Ik l m rows BU=R at *
  refine AX.enter (AB (by decide)) Tryz.func74 rfl (by kernel_rfl) (by simp [Tryz.ntmps74]) ?_
  repeat' (first|(refine Ag.IC 30 ?_;refine Ag.ghost (Ba.freeze 29 rfl rfl) ?_)|apply Ae.assoc|apply Ae.AA|apply Ae.Aq|apply Ae.Ai|apply Ag.nil|apply Ag.one|(apply Ag.take;rfl;rfl)|(apply Ag.guard;rfl;rfl)|(apply Aa.fn;rfl;rfl;exact hcl;intro _;rfl)|(apply Aa.fv;rfl;rfl;exact hcn)|(apply Aa.assign;rfl)|(apply Aa.move;rfl)|(apply Aa.int;rfl;rfl;rfl)|(apply Aa.AV;rfl;rfl)|(apply Aa.BI;rfl;rfl)|(apply Aa.lenV;rfl;rfl;rfl)|(apply Aa.buildSlice;rfl;rfl;rfl;decide;rfl;rfl;rfl)|(apply Ae.Af;rfl)|(intro _;try (exfalso;omega)))
  all_goals try (exfalso;omega)
  apply Ae.GU (cat.length) (fun k=>∀ i,i<k→Jr (gi cat i)) [(0,_),(1,_),(2,_),(30,_),(31,_)] [(1,_)] (fun k r=>(8,.p (.int .i64 (sumT cat k)))::(32,.p (.int .i64 (k:Int)))::r) (fun k r=>r) 2
  ·first|omega|decide
  ·first|omega|decide
  ·repeat (first|exact Ad.nil|(refine Ad.eq rfl ?_ ?_;(first|exact PV.Ak rfl|(simp [PV.under,AU.under];done)))|refine Ad.cons trivial rfl (.of_eq (Ar (by simp<;>omega))) ?_)
  ·repeat (first|exact Aj.nil|(refine Aj.eq rfl (Ac rfl) ?_ ?_;(first|exact HB.Ak rfl|exact AU.Ah _ _|(simp [HB.under,AU.under,PV.under];done)))|(refine Aj.cons (Ac rfl) ?_ rfl ?_ ?_;(first|exact trivial|exact AU.Ah _ _|(simp [HB.under,AU.under,PV.under]));(first|exact Bl.refl _|exact Bl.vec (Bh.refl _) (by simp))))
  ·first|(intro _ _;omega)|omega|trivial
  ·intro k hk hi
   have hb:=VY k hi
   by_cases hx:Jr (gi cat k)
   ·obtain ⟨x1,x2⟩:=hx
    repeat' (first|apply Ae.assoc|apply Ae.AA|apply Ae.region|apply Ae.Aq|apply Ae.Ai|apply AO.normal|apply AL.normal|apply Ag.nil|apply Ag.one|(apply Ag.take;rfl;rfl)|(apply Ag.guard;rfl;rfl)|(apply Aa.assign;rfl)|(apply Aa.move;rfl)|(apply Aa.Bv;rfl;rfl;omega)|(apply Aa.int;rfl;rfl;rfl)|(apply Aa.Du;rfl;rfl;omega;rfl)|(apply Aa.AV;rfl;rfl)|(apply Aa.Dk;rfl;rfl;rfl;rfl;omega)|(apply Ae.Af;rfl)|(intro _;try (exfalso;omega)))
    all_goals try (exfalso;omega)
    refine Aw.normal ⟨(QO hi ⟨x1,x2⟩),by first|omega|decide,?_,?_⟩
    ·repeat (first|exact Ad.nil|refine Ad.same trivial rfl ?_|refine Ad.same (Ac rfl) rfl ?_|refine Ad.same ⟨trivial,Ac rfl,trivial⟩ rfl ?_|refine Ad.same ⟨trivial,Ac rfl,Ac rfl,trivial⟩ rfl ?_|refine Ad.same ⟨trivial,Ac rfl,Ac rfl,Ac rfl,trivial⟩ rfl ?_|refine Ad.same ⟨trivial,trivial⟩ rfl ?_|refine Ad.cons trivial rfl (.of_eq (Ar (by simp<;>omega))) ?_)
    ·repeat (first|exact Aj.nil|(refine Aj.cons (Ac rfl) ?_ rfl ?_ ?_;(first|exact HB.Ak rfl|exact AU.Ah _ _|(simp [HB.under,AU.under,PV.under]));(first|exact Bl.refl _|exact Bl.vec (Bh.refl _) (by simp))))
   ·rw [hp3 k hk hx]
    unfold Jr at hx
    repeat' (first|apply Ae.assoc|apply Ae.AA|apply Ae.Aq|apply Ae.BQ|apply Ae.Ai|apply AO.ret|apply AL.ret|apply Aw.ret|apply Ag.nil|apply Ag.one|(apply Ag.take;rfl;rfl)|(apply Ag.drop;rfl;rfl;rfl)|(apply Ag.guard;rfl;rfl)|(apply Aa.assign;rfl)|(apply Aa.move;rfl)|(apply Aa.int;rfl;rfl;rfl)|(apply Aa.Du;rfl;rfl;omega;rfl)|(apply Aa.BH;rfl;rfl)|(apply Aa.AV;rfl;rfl)|(apply Aa.Dk;rfl;rfl;rfl;rfl;omega)|(apply Ae.Bg;rfl)|(apply Ae.Af;rfl)|(intro _;try (exfalso;omega)))
    all_goals first|(exfalso;omega)|contradiction|(refine Done.ret rfl (.refl _) (by first|exact trivial|exact ⟨trivial,trivial,trivial⟩|exact ⟨trivial,trivial,trivial,trivial⟩) Aj.nil (Nat.zero_le _) (Nat.le_refl _) ⟨?_,rfl,rfl⟩;try rfl)
  ·intro hall
   repeat' (first|apply Ae.assoc|apply Ae.AA|apply Ae.AY|apply Ae.Ai|apply AO.normal|apply AL.exit|apply Aw.exit|apply Ag.nil|apply Ag.one|(apply UA;rfl;rfl;rfl;exact le_dec rfl)|(apply UC;rfl;rfl;rfl;exact le_dec rfl)|(apply Aa.assign;rfl)|(apply Aa.move;rfl)|(apply Aa.int;rfl;rfl;rfl)|(apply Aa.BI;rfl;rfl)|(apply Ae.Af;rfl)|(intro _;try (exfalso;omega)))
   all_goals try (exfalso;omega)
   apply Ae.GU (BU.length) (fun k=>∀ i,i<k→gi BU i≤0) [(0,_),(1,_),(7,_)] [(1,_)] (fun k r=>(8,.p (.int .i64 (k:Int)))::r) (fun k r=>r) 2
   ·first|omega|decide
   ·first|omega|decide
   ·repeat (first|exact Ad.nil|(refine Ad.eq rfl ?_ ?_;(first|exact PV.Ak rfl|(simp [PV.under,AU.under];done)))|refine Ad.cons trivial rfl (.of_eq (Ar (by simp<;>omega))) ?_)
   ·repeat (first|exact Aj.nil|(refine Aj.eq rfl (Ac rfl) ?_ ?_;(first|exact HB.Ak rfl|exact AU.Ah _ _|(simp [HB.under,AU.under,PV.under];done)))|(refine Aj.cons (Ac rfl) ?_ rfl ?_ ?_;(first|exact trivial|exact AU.Ah _ _|(simp [HB.under,AU.under,PV.under]));(first|exact Bl.refl _|exact Bl.vec (Bh.refl _) (by simp))))
   ·first|(intro _ _;omega)|omega|trivial
   ·intro k hk hi
    by_cases hx:gi BU k≤0
    ·repeat' (first|apply Ae.AA|apply Ae.region|apply Ae.Aq|apply Ae.Ai|apply AO.normal|(apply Bq.ret;rfl)|apply AL.normal|apply Ae.ret|apply Ae.skip|apply Ag.nil|apply Ag.one|(apply kD;rfl;rfl;rfl;exact le_dec rfl)|(apply Aa.assign;rfl)|(apply Aa.move;rfl)|(apply Aa.Bv;rfl;rfl;omega)|(apply Aa.int;rfl;rfl;rfl)|(apply Aa.AP;rfl;rfl;rfl;omega;rfl)|(apply Aa.load;rfl;rfl)|(apply Ae.Af;rfl)|(apply Ae.AZ;rfl)|(intro _;try (exfalso;omega)))
     all_goals try (exfalso;omega)
     refine Aw.normal ⟨(QO hi hx),by first|omega|decide,?_,?_⟩
     ·repeat (first|exact Ad.nil|refine Ad.same trivial rfl ?_|refine Ad.same (Ac rfl) rfl ?_|refine Ad.same ⟨trivial,Ac rfl,trivial⟩ rfl ?_|refine Ad.same ⟨trivial,Ac rfl,Ac rfl,trivial⟩ rfl ?_|refine Ad.same ⟨trivial,Ac rfl,Ac rfl,Ac rfl,trivial⟩ rfl ?_|refine Ad.same ⟨trivial,trivial⟩ rfl ?_|refine Ad.cons trivial rfl (.of_eq (Ar (by simp<;>omega))) ?_)
     ·repeat (first|exact Aj.nil|(refine Aj.cons (Ac rfl) ?_ rfl ?_ ?_;(first|exact HB.Ak rfl|exact AU.Ah _ _|(simp [HB.under,AU.under,PV.under]));(first|exact Bl.refl _|exact Bl.vec (Bh.refl _) (by simp))))
    ·rw [a4e hall k hk (by omega)]
     repeat' (first|apply Ae.assoc|apply Ae.AA|apply Ae.Aq|apply Ae.BQ|apply Ae.Ai|apply AO.ret|(apply Bq.ret;rfl)|apply AL.ret|apply Aw.ret|apply Ae.ret|apply Ag.nil|apply Ag.one|(apply kD;rfl;rfl;rfl;exact le_dec rfl)|(apply Aa.assign;rfl)|(apply Aa.move;rfl)|(apply Aa.int;rfl;rfl;rfl)|(apply Aa.AP;rfl;rfl;rfl;omega;rfl)|(apply Aa.load;rfl;rfl)|(apply Ae.Bg;rfl)|(apply Ae.Af;rfl)|(apply Ae.AZ;rfl)|(intro _;try (exfalso;omega)))
     all_goals first|(exfalso;omega)|contradiction|(refine Done.ret rfl (.refl _) (by first|exact trivial|exact ⟨trivial,trivial,trivial⟩|exact ⟨trivial,trivial,trivial,trivial⟩) Aj.nil (Nat.zero_le _) (Nat.le_refl _) ⟨?_,rfl,rfl⟩;try rfl)
   ·intro hneg
    repeat' (first|apply Ae.assoc|apply Ae.AA|apply Ae.Aq|apply Ae.AY|apply Ae.Ai|apply AO.normal|(apply Bq.ret;rfl)|apply AL.exit|apply Aw.exit|apply Ae.ret|apply Ag.nil|apply Ag.one|(apply Aa.assign;rfl)|(apply Aa.move;rfl)|(apply Aa.int;rfl;rfl;rfl)|(apply Aa.BI;rfl;rfl)|(apply Ae.Az;rfl)|(apply Ae.Af;rfl)|(intro _;try (exfalso;omega)))
    all_goals try (exfalso;omega)
    all_goals try contradiction
    apply Ae.GU (l.length) (fun k=>∀ i,i<k→∀ j,j<m→gi rows i+gi BU j≤gi (gi l i) j) [(0,_),(1,_),(2,_),(8,_),(48,_),(49,_)] [(1,_)] (fun k r=>(50,.p (.int .i64 (k:Int)))::r) (fun k r=>r) 2
    ·first|omega|decide
    ·first|omega|decide
    ·repeat (first|exact Ad.nil|(refine Ad.eq rfl ?_ ?_;(first|exact PV.Ak rfl|(simp [PV.under,AU.under];done)))|refine Ad.cons trivial rfl (.of_eq (Ar (by simp<;>omega))) ?_)
    ·repeat (first|exact Aj.nil|(refine Aj.eq rfl (Ac rfl) ?_ ?_;(first|exact HB.Ak rfl|exact AU.Ah _ _|(simp [HB.under,AU.under,PV.under];done)))|(refine Aj.cons (Ac rfl) ?_ rfl ?_ ?_;(first|exact trivial|exact AU.Ah _ _|(simp [HB.under,AU.under,PV.under]));(first|exact Bl.refl _|exact Bl.vec (Bh.refl _) (by simp))))
    ·first|(intro _ _;omega)|omega|trivial
    ·intro k hk hi
     have hrl:=hrow k hk
     have r1:=hall k (by omega)
     rw [gr k hk] at r1
     obtain ⟨r2,r3⟩:=r1
     repeat' (first|apply Ae.AA|apply Ae.Aq|apply Ae.Ai|apply Ae.Hy|apply Ag.nil|apply Ag.one|(apply Aa.assign;rfl)|(apply Aa.move;rfl)|(apply Aa.int;rfl;rfl;rfl)|(apply Aa.AP;rfl;rfl;rfl;omega;rfl)|(apply Aa.load;rfl;rfl)|(apply Aa.BI;rfl;rfl)|(apply Ae.Af;rfl)|(intro _;try (exfalso;omega)))
     all_goals try (exfalso;omega)
     apply Ae.GU ((gi l k).length) (fun k_=>∀ j,j<k_→gi rows k+gi BU j≤gi (gi l k) j) [(0,_),(1,_),(2,_),(8,_),(11,_),(48,_),(49,_),(50,_),(55,_),(56,_)] [(1,_)] (fun k_ r=>(57,.p (.int .i64 (k_:Int)))::r) (fun k_ r=>r) 2
     ·first|omega|decide
     ·first|omega|decide
     ·repeat (first|exact Ad.nil|(refine Ad.eq rfl ?_ ?_;(first|exact PV.Ak rfl|(simp [PV.under,AU.under];done)))|refine Ad.cons trivial rfl (.of_eq (Ar (by simp<;>omega))) ?_)
     ·repeat (first|exact Aj.nil|(refine Aj.eq rfl (Ac rfl) ?_ ?_;(first|exact HB.Ak rfl|exact AU.Ah _ _|(simp [HB.under,AU.under,PV.under];done)))|(refine Aj.cons (Ac rfl) ?_ rfl ?_ ?_;(first|exact trivial|exact AU.Ah _ _|(simp [HB.under,AU.under,PV.under]));(first|exact Bl.refl _|exact Bl.vec (Bh.refl _) (by simp))))
     ·first|(intro _ _;omega)|omega|trivial
     ·intro j hj hij
      have c1:=uG k j hk (by omega)
      have p1:=hall (rows.length+j) (by omega)
      rw [gp j (by omega)] at p1
      obtain ⟨p2,p3⟩:=p1
      by_cases hx:gi rows k+gi BU j≤gi (gi l k) j
      ·repeat' (first|apply Ae.AA|apply Ae.BF|apply Ae.region|apply Ae.Aq|apply Ae.Ai|apply AO.normal|apply AL.normal|apply Ae.skip|apply Ag.nil|apply Ap.nil|apply Ag.one|(apply Ap.bar;decide +kernel)|apply Ap.quiet|(apply Aa.assign;rfl)|(apply Aa.move;rfl)|(apply Aa.Bv;rfl;rfl;omega)|(apply Aa.int;rfl;rfl;rfl)|(apply Aa.AP;rfl;rfl;rfl;omega;rfl)|(apply Aa.load;rfl;rfl)|(apply Ae.Af;rfl)|(apply Ae.AZ;rfl)|(intro _;try (exfalso;omega)))
       all_goals try (exfalso;omega)
       refine Aw.normal ⟨(QO hij hx),by first|omega|decide,?_,?_⟩
       ·repeat (first|exact Ad.nil|refine Ad.same trivial rfl ?_|refine Ad.same (Ac rfl) rfl ?_|refine Ad.same ⟨trivial,Ac rfl,trivial⟩ rfl ?_|refine Ad.same ⟨trivial,Ac rfl,Ac rfl,trivial⟩ rfl ?_|refine Ad.same ⟨trivial,Ac rfl,Ac rfl,Ac rfl,trivial⟩ rfl ?_|refine Ad.same ⟨trivial,trivial⟩ rfl ?_|refine Ad.cons trivial rfl (.of_eq (Ar (by simp<;>omega))) ?_)
       ·repeat (first|exact Aj.nil|(refine Aj.cons (Ac rfl) ?_ rfl ?_ ?_;(first|exact HB.Ak rfl|exact AU.Ah _ _|(simp [HB.under,AU.under,PV.under]));(first|exact Bl.refl _|exact Bl.vec (Bh.refl _) (by simp))))
      ·rw [a2h hall hneg k j hk (by omega) (by omega)]
       repeat' (first|apply Ae.AA|apply Ae.BF|apply Ae.Aq|apply Ae.Ai|apply AO.ret|apply AL.ret|apply Aw.ret|apply Ae.ret|apply Ag.nil|apply Ap.nil|apply Ag.one|(apply Ap.bar;decide +kernel)|apply Ap.quiet|(apply Aa.assign;rfl)|(apply Aa.move;rfl)|(apply Aa.Bv;rfl;rfl;omega)|(apply Aa.int;rfl;rfl;rfl)|(apply Aa.AP;rfl;rfl;rfl;omega;rfl)|(apply Aa.load;rfl;rfl)|(apply Ae.Af;rfl)|(apply Ae.AZ;rfl)|(intro _;try (exfalso;omega)))
       all_goals first|(exfalso;omega)|contradiction|(refine Done.ret rfl (.refl _) (by first|exact trivial|exact ⟨trivial,trivial,trivial⟩|exact ⟨trivial,trivial,trivial,trivial⟩) Aj.nil (Nat.zero_le _) (Nat.le_refl _) ⟨?_,rfl,rfl⟩;try rfl)
     ·intro vP
      rw [hrl] at vP
      repeat' (first|apply Ae.AA|apply Ae.region|apply Ae.AY|apply AO.normal|apply AL.normal|apply AL.exit|apply Aw.exit|apply Ag.nil|apply Ag.one|(apply Aa.move;rfl)|(apply Aa.Bv;rfl;rfl;omega)|(apply Aa.int;rfl;rfl;rfl)|(apply Ae.Af;rfl)|(intro _;try (exfalso;omega)))
      all_goals try (exfalso;omega)
      refine Aw.normal ⟨(QO hi vP),by first|omega|decide,?_,?_⟩
      ·repeat (first|exact Ad.nil|refine Ad.same trivial rfl ?_|refine Ad.same (Ac rfl) rfl ?_|refine Ad.same ⟨trivial,Ac rfl,trivial⟩ rfl ?_|refine Ad.same ⟨trivial,Ac rfl,Ac rfl,trivial⟩ rfl ?_|refine Ad.same ⟨trivial,Ac rfl,Ac rfl,Ac rfl,trivial⟩ rfl ?_|refine Ad.same ⟨trivial,trivial⟩ rfl ?_|refine Ad.cons trivial rfl (.of_eq (Ar (by simp<;>omega))) ?_)
      ·repeat (first|exact Aj.nil|(refine Aj.cons (Ac rfl) ?_ rfl ?_ ?_;(first|exact HB.Ak rfl|exact AU.Ah _ _|(simp [HB.under,AU.under,PV.under]));(first|exact Bl.refl _|exact Bl.vec (Bh.refl _) (by simp))))
    ·intro hf
     rw [a3x hall hneg hf]
     repeat' (first|apply Ae.AA|apply Ae.AY|apply AO.normal|apply AL.exit|apply Aw.exit|apply Ae.ret|apply Ag.nil|apply Ag.one|(apply Aa.assign;rfl)|(apply Aa.move;rfl)|(apply Aa.int;rfl;rfl;rfl)|(apply Ae.Af;rfl)|(intro _;try (exfalso;omega)))
     all_goals first|(exfalso;omega)|contradiction|(refine Done.ret rfl (.refl _) (by first|exact trivial|exact ⟨trivial,trivial,trivial⟩|exact ⟨trivial,trivial,trivial,trivial⟩) Aj.nil (Nat.zero_le _) (Nat.le_refl _) ⟨?_,rfl,rfl⟩;try rfl)
noncomputable def lM (l:List (List Int)) (m:Nat) (r:QD) (sum e most:Int):Int :=
 open Classical in
 if e≠0 then e else if sum≠r.total then 7 else if (Ik l m r.rows r.BU).2≠0 then (Ik l m r.rows r.BU).2
 else if (Ik l m r.rows r.BU).1<r.total∨∃ i,i<r.rows.length∧gi r.rows i>most then 20 else 0
noncomputable def rC (l:List (List Int)) (m:Nat) (skip:Int) (r:QD):Int:=lM l m r (Zn l m skip r.cols).1 (Zn l m skip r.cols).2 skip
theorem jc {l:List (List Int)} {m:Nat} {skip B:Int} (ty:TypeId) (h:PZ l l.length m skip B) (r:QD) (sum e most:Int) :
 AX env 48 [.lst ty (cells l) l.length,.agg (Enc.enc r),.int .i64 sum,.int .i64 e,.int .i64 most] (.p (.int .i64 (lM l m r sum e most))):=by
 have hp:=Uh ty h r.rows r.BU
 have hE:lM l m r sum e most=if e≠0 then e else if sum≠r.total then 7 else if (Ik l m r.rows r.BU).2≠0 then (Ik l m r.rows r.BU).2
  else open Classical in if (Ik l m r.rows r.BU).1<r.total∨∃ i,i<r.rows.length∧gi r.rows i>most then 20 else 0:=rfl
 rw [hE]
 clear hE
 refine AX.enter (AB (by decide)) Tryz.func48 rfl (by kernel_rfl) (by simp [Tryz.ntmps48]) ?_
 by_cases e1:e=0
 case neg =>
  rw [if_pos e1]
  repeat' (first|apply Ae.AA|apply Ae.Ai|apply AO.ret|apply AL.ret|apply Ae.ret|apply Ag.nil|apply Ag.one|(apply Aa.assign;rfl)|(apply Aa.move;rfl)|(apply Aa.int;rfl;rfl;rfl)|(apply Aa.box;rfl;trivial)|(apply Ae.AZ;rfl)|(intro _;try (exfalso;omega)))
  all_goals first|(exfalso;omega)|contradiction|(refine Done.ret rfl (.refl _) (by first|exact trivial|exact ⟨trivial,trivial,trivial⟩|exact ⟨trivial,trivial,trivial,trivial⟩) Aj.nil (Nat.zero_le _) (Nat.le_refl _) ⟨?_,rfl,rfl⟩;try rfl)
 rw [if_neg (fun x=>x e1)]
 by_cases e2:sum=r.total
 case neg =>
  rw [if_pos e2]
  repeat' (first|apply Ae.AA|apply Ae.Ai|apply AO.ret|apply AL.ret|apply Ae.ret|apply Ag.nil|apply Ag.one|(apply Aa.assign;rfl)|(apply Aa.move;rfl)|(apply Aa.int;rfl;rfl;rfl)|(apply Aa.load;rfl;rfl)|(apply Aa.AQ;rfl;rfl;rfl)|(apply Aa.box;rfl;trivial)|(apply Ae.AZ;rfl)|(intro _;try (exfalso;omega)))
  all_goals first|(exfalso;omega)|contradiction|(refine Done.ret rfl (.refl _) (by first|exact trivial|exact ⟨trivial,trivial,trivial⟩|exact ⟨trivial,trivial,trivial,trivial⟩) Aj.nil (Nat.zero_le _) (Nat.le_refl _) ⟨?_,rfl,rfl⟩;try rfl)
 rw [if_neg (fun x=>x e2)]
 have hlen0:(Ik l m r.rows r.BU).2=0→r.rows.length=l.length:=fun h0=>Classical.byContradiction fun h1=>by
  rw [a3z (fun x=>h1 x.1)] at h0
  cases h0
 have h60:=h.n60
 generalize Ik l m r.rows r.BU=P at *
 obtain ⟨b,e3⟩:=P
 simp only at hp hlen0 ⊢
 by_cases e4:e3=0
 case neg =>
  rw [if_pos e4]
  repeat' (first|apply Ae.AA|apply Ae.Ai|apply AO.normal|apply AO.ret|apply AL.normal|apply AL.ret|apply Ae.ret|apply Ae.skip|apply Ag.nil|apply Ag.one|(apply Aa.fn;rfl;rfl;exact hp;intro _;rfl)|(apply Aa.assign;rfl)|(apply Aa.move;rfl)|(apply Aa.int;rfl;rfl;rfl)|(apply Aa.load;rfl;rfl)|(apply Aa.AQ;rfl;rfl;rfl)|(apply Aa.box;rfl;trivial)|(apply Aa.extract;rfl;rfl)|(apply Ae.AZ;rfl)|(intro _;try (exfalso;omega)))
  all_goals first|(exfalso;omega)|contradiction|(refine Done.ret rfl (.refl _) (by first|exact trivial|exact ⟨trivial,trivial,trivial⟩|exact ⟨trivial,trivial,trivial,trivial⟩) Aj.nil (Nat.zero_le _) (Nat.le_refl _) ⟨?_,rfl,rfl⟩;try rfl)
 rw [if_neg (fun x=>x e4)]
 have hlen:=hlen0 e4
 by_cases e5:b<r.total
 ·rw [if_pos (.inl e5)]
  repeat' (first|apply Ae.AA|apply Ae.Ai|apply AO.normal|apply AO.ret|apply AL.normal|apply AL.ret|apply Ae.ret|apply Ae.skip|apply Ag.nil|apply Ag.one|(apply Ag.drop;rfl;rfl;rfl)|(apply Ag.guard;rfl;rfl)|(apply Aa.fn;rfl;rfl;exact hp;intro _;rfl)|(apply Aa.assign;rfl)|(apply Aa.move;rfl)|(apply Aa.int;rfl;rfl;rfl)|(apply Aa.load;rfl;rfl)|(apply Aa.BH;rfl;rfl)|(apply Aa.AQ;rfl;rfl;rfl)|(apply Aa.box;rfl;trivial)|(apply Aa.extract;rfl;rfl)|(apply Ae.cond_true;rfl)|(apply Ae.AZ;rfl)|(intro _;try (exfalso;omega)))
  all_goals first|(exfalso;omega)|contradiction|(refine Done.ret rfl (.refl _) (by first|exact trivial|exact ⟨trivial,trivial,trivial⟩|exact ⟨trivial,trivial,trivial,trivial⟩) Aj.nil (Nat.zero_le _) (Nat.le_refl _) ⟨?_,rfl,rfl⟩;try rfl)
 ·repeat' (first|apply Ae.assoc|apply Ae.AA|apply Ae.Ai|apply AO.normal|apply AL.normal|apply Ae.skip|apply Ag.nil|apply Ag.one|(apply Ag.take;rfl;rfl)|(apply Ag.guard;rfl;rfl)|(apply Aa.fn;rfl;rfl;exact hp;intro _;rfl)|(apply Aa.makeFunc;rfl;rfl)|(apply UA;rfl;rfl;rfl;exact le_dec rfl)|(apply UC;rfl;rfl;rfl;exact le_dec rfl)|(apply Aa.assign;rfl)|(apply Aa.move;rfl)|(apply Aa.int;rfl;rfl;rfl)|(apply Aa.load;rfl;rfl)|(apply Aa.BI;rfl;rfl)|(apply Aa.AQ;rfl;rfl;rfl)|(apply Aa.box;rfl;trivial)|(apply Aa.extract;rfl;rfl)|(apply Ae.AZ;rfl)|(intro _;try (exfalso;omega)))
  all_goals try (exfalso;omega)
  all_goals try contradiction
  apply Ae.GU (r.rows.length) (fun k=>∀ i,i<k→gi r.rows i≤most) [(0,_),(1,_),(7,_)] [(1,_),(0,_)] (fun k r=>(8,.p (.int .i64 (k:Int)))::r) (fun k r=>r) 2
  ·first|omega|decide
  ·first|omega|decide
  ·repeat (first|exact Ad.nil|(refine Ad.eq rfl ?_ ?_;(first|exact PV.Ak rfl|(simp [PV.under,AU.under];done)))|refine Ad.cons trivial rfl (.of_eq (Ar (by simp<;>omega))) ?_)
  ·repeat (first|exact Aj.nil|(refine Aj.eq rfl (Ac rfl) ?_ ?_;(first|exact HB.Ak rfl|exact AU.Ah _ _|(simp [HB.under,AU.under,PV.under];done)))|(refine Aj.cons (Ac rfl) ?_ rfl ?_ ?_;(first|exact trivial|exact AU.Ah _ _|(simp [HB.under,AU.under,PV.under]));(first|exact Bl.refl _|exact Bl.vec (Bh.refl _) (by simp))))
  ·first|(intro _ _;omega)|omega|trivial
  ·intro k hk hi
   by_cases hx:gi r.rows k≤most
   ·repeat' (first|apply Ae.AA|apply Ae.region|apply Ae.Aq|apply Ae.Ai|apply AO.normal|(apply Bq.ret;rfl)|apply AL.normal|apply Ae.ret|apply Ae.skip|apply Ag.nil|apply Ag.one|(apply jZ;rfl;rfl;rfl;exact le_dec rfl)|(apply Aa.assign;rfl)|(apply Aa.move;rfl)|(apply Aa.Bv;rfl;rfl;omega)|(apply Aa.int;rfl;rfl;rfl)|(apply Aa.AP;rfl;rfl;rfl;omega;rfl)|(apply Aa.load;rfl;rfl)|(apply Ae.Af;rfl)|(apply Ae.AZ;rfl)|(intro _;try (exfalso;omega)))
    all_goals try (exfalso;omega)
    refine Aw.normal ⟨(QO hi hx),by first|omega|decide,?_,?_⟩
    ·repeat (first|exact Ad.nil|refine Ad.same trivial rfl ?_|refine Ad.same (Ac rfl) rfl ?_|refine Ad.same ⟨trivial,Ac rfl,trivial⟩ rfl ?_|refine Ad.same ⟨trivial,Ac rfl,Ac rfl,trivial⟩ rfl ?_|refine Ad.same ⟨trivial,Ac rfl,Ac rfl,Ac rfl,trivial⟩ rfl ?_|refine Ad.same ⟨trivial,trivial⟩ rfl ?_|refine Ad.cons trivial rfl (.of_eq (Ar (by simp<;>omega))) ?_)
    ·repeat (first|exact Aj.nil|(refine Aj.cons (Ac rfl) ?_ rfl ?_ ?_;(first|exact HB.Ak rfl|exact AU.Ah _ _|(simp [HB.under,AU.under,PV.under]));(first|exact Bl.refl _|exact Bl.vec (Bh.refl _) (by simp))))
   ·rw [if_pos (.inr ⟨k,hk,by omega⟩)]
    repeat' (first|apply Ae.AA|apply Ae.Aq|apply Ae.Ai|apply AO.ret|(apply Bq.ret;rfl)|apply AL.ret|apply Aw.ret|apply Ae.ret|apply Ag.nil|apply Ag.one|(apply jZ;rfl;rfl;rfl;exact le_dec rfl)|(apply Aa.assign;rfl)|(apply Aa.move;rfl)|(apply Aa.int;rfl;rfl;rfl)|(apply Aa.AP;rfl;rfl;rfl;omega;rfl)|(apply Aa.load;rfl;rfl)|(apply Aa.AV;rfl;rfl)|(apply Ae.Af;rfl)|(apply Ae.cond_true;rfl)|(apply Ae.AZ;rfl)|(intro _;try (exfalso;omega)))
    all_goals first|(exfalso;omega)|contradiction|(refine Done.ret rfl (.refl _) (by first|exact trivial|exact ⟨trivial,trivial,trivial⟩|exact ⟨trivial,trivial,trivial,trivial⟩) Aj.nil (Nat.zero_le _) (Nat.le_refl _) ⟨?_,rfl,rfl⟩;try rfl)
  ·intro hall
   rw [if_neg (by
    rintro (h1|⟨i,h1,h2⟩)
    ·exact e5 h1
    ·have:=hall i h1;omega)]
   repeat' (first|apply Ae.AA|apply Ae.AY|apply AO.normal|(apply Bq.ret;rfl)|apply AL.normal|apply AL.exit|apply Aw.exit|apply Ae.ret|apply Ae.skip|apply Ag.nil|apply Ag.one|(apply Aa.assign;rfl)|(apply Aa.int;rfl;rfl;rfl)|(apply Aa.AV;rfl;rfl)|(apply Ae.Af;rfl)|(apply Ae.cond_false;rfl)|(intro _;try (exfalso;omega)))
   all_goals first|(exfalso;omega)|contradiction|(refine Done.ret rfl (.refl _) (by first|exact trivial|exact ⟨trivial,trivial,trivial⟩|exact ⟨trivial,trivial,trivial,trivial⟩) Aj.nil (Nat.zero_le _) (Nat.le_refl _) ⟨?_,rfl,rfl⟩;try rfl)
theorem dR {l:List (List Int)} {m:Nat} {skip B:Int} (ty:TypeId) (h:PZ l l.length m skip B) (r:QD) :
 AX env 22 [.lst ty (cells l) l.length,.int .i64 skip,.agg (Enc.enc r)] (.p (.int .i64 (rC l m skip r))):=by
 have hc:=LD ty h
 have ht:=iI ty h r.cols
 have hp:=jc ty h r (Zn l m skip r.cols).1 (Zn l m skip r.cols).2 skip
 refine AX.enter (AB (by decide)) Tryz.func22 rfl (by kernel_rfl) (by simp [Tryz.ntmps22]) ?_
 repeat' (first|apply Ae.assoc|apply Ae.AA|apply Ae.Aq|apply Ae.ret|apply Ag.nil|apply Ag.one|(apply Aa.fn;rfl;rfl;exact hc;intro _;rfl)|(apply Aa.fn;rfl;rfl;exact ht;intro _;rfl)|(apply Aa.fn;rfl;rfl;exact hp;intro _;rfl)|(apply Aa.assign;rfl)|(apply Aa.move;rfl)|(apply Aa.int;rfl;rfl;rfl)|(apply Aa.load;rfl;rfl)|(apply Aa.AQ;rfl;rfl;rfl)|(apply Aa.box;rfl;trivial)|(apply Aa.extract;rfl;rfl)|(apply Ae.Az;rfl))
 all_goals first|(exfalso;omega)|contradiction|(refine Done.ret rfl (.refl _) (by first|exact trivial|exact ⟨trivial,trivial,trivial⟩|exact ⟨trivial,trivial,trivial,trivial⟩) Aj.nil (Nat.zero_le _) (Nat.le_refl _) ⟨?_,rfl,rfl⟩;try rfl)
theorem Rw {l:List (List Int)} {m:Nat} {skip:Int} {cols:List Int} (h:kE l.length m fun r=>gi cols r):∀ (r k:Nat) (used:List Bool) (sum:Int),k+r=l.length→(∀ q,k≤q→q<l.length→0≤gi cols q→gi used (gi cols q).toNat=false)→used.length=m →
 Xq l m skip cols r k used sum=(sum+SL (ZX l skip fun r=>gi cols r) l.length r,0)
 |0,k,used,sum,hk,hu,hl=>by simp [Xq,SL]
 |r+1,k,used,sum,hk,hu,hl=>by
  have hrg:=h.rng k (by omega)
  have hrg:-1≤gi cols k∧gi cols k<m:=hrg
  have ek:l.length-(r+1)=k:=by omega
  unfold Xq
  rw [if_neg (by omega)]
  simp only [SL,ek]
  by_cases c2:gi cols k<0
  ·rw [if_pos c2,Rw h r (k+1) used (sum+skip) (by omega) (fun q q1 q2 q3=>hu q (by omega) q2 q3) hl]
   have e:ZX l skip (fun r=>gi cols r) k=skip:=if_pos c2
   rw [e,Int.add_assoc]
  ·rw [if_neg c2,hu k (Nat.le_refl _) (by omega) (by omega),if_neg (by decide)]
   have e:ZX l skip (fun r=>gi cols r) k=gi (gi l k) (gi cols k).toNat:=if_neg c2
   rw [Rw h r (k+1) _ _ (by omega) (fun q q1 q2 q3=>?_) (by rw [List.length_set];exact hl),e,Int.add_assoc]
   rw [gs (by omega),if_neg]
   ·exact hu q (by omega) q2 q3
   ·intro e
    have:=h.inj k q (by omega) q2 (show 0≤gi cols k by omega) (show gi cols k=gi cols q by omega)
    omega
theorem Yg (l:List Int):∀ k,sumT l k=DF (fun i=>gi l i) k
 |0=>rfl
 |k+1=>by simp only [sumT,DF,Yg l k]
theorem qR {l:List (List Int)} {m:Nat} {skip B:Int} (h:PZ l l.length m skip B):rC l m skip (YX l m skip)=0:=by
 have hP:=tN h.Uf
 have hB:=h.B9
 have hm:(YX l m skip)=⟨qW l l.length m skip,iy l l.length m skip,vN l l.length m skip,qB l l.length m skip⟩:=rfl
 rw [hm]
 generalize qW l l.length m skip=C at *
 generalize iy l l.length m skip=T at *
 generalize vN l l.length m skip=U at *
 generalize qB l l.length m skip=V at *
 have ht:Zn l m skip C=(T,0):=by
  unfold Zn
  rw [if_neg (fun x=>x hP.lC),Rw hP.part l.length 0 _ 0 (by omega) (fun q _ _ _=>by
   unfold gi;rw [List.getElem?_replicate];split<;>rfl) (by simp),nN,← hP.tot]
  simp
 have a6e:∀ i,i<(U++V).length→Jr (gi (U++V) i):=fun i hi=>by
  rw [List.length_append,hP.lU,hP.lV] at hi
  rcases Nat.lt_or_ge i l.length with h1|h1
  ·rw [Vk (by rw [hP.lU];exact h1)]
   have:=hP.a5o i h1
   exact ⟨by omega,by omega⟩
  ·obtain ⟨j,rfl⟩:∃ j,i=U.length+j:=⟨i-U.length,by have:=hP.lU;omega⟩
   rw [WJ]
   have:=hP.lU
   have:=hP.a3p j (by omega)
   exact ⟨by omega,by omega⟩
 have hs:sumT (U++V) (U++V).length=T:=by
  rw [Yg,List.length_append,PS,hP.a1p,hP.lU,hP.lV]
  congr 1
  ·exact EK fun k hk=>Vk (by rw [hP.lU];exact hk)
  ·exact EK fun k hk=>by
    have:=WJ (a:=U) (b:=V) (i:=k)
    rw [hP.lU] at this
    exact this
 have hp:Ik l m U V=(T,0):=by
  rw [zu ⟨hP.lU,hP.lV⟩ a6e (fun k hk=>(hP.a3p k (by have:=hP.lV;omega)).2) (fun i hi k hk=>hP.pot.VP i k hi hk),hs]
 unfold rC lM
 simp only [ht,hp]
 rw [if_neg (fun h=>h rfl),if_neg (fun h=>h rfl),if_neg (fun h=>h rfl),if_neg]
 rintro (h1|⟨i,h1,h2⟩)
 ·omega
 ·have:=hP.pot.skip i (by have:=hP.lU;omega)
  have:gi U i≤skip:=this
  omega
end Go.Proofs.YtdabojnmoejilaaGreatDoor
namespace Go.Proofs.YtdabojnmoejilaaGreatDoor
open Go Go.Am Go.Vm Go.Tra Go.Hun
attribute [local irreducible] Aa Ag Ap Ae BD AX CU AO AL Aw Vm.Done Df Bq
attribute [local irreducible] DY DN Je Kw SC BX
structure eY (q:SA):Prop where
 sm1:OL q.Bz
 sm2:OL q.tgt
 rg:q.reg.Ok
 err:fK q=0
 shb:ShB q.Bz q.tgt
theorem KT {q:SA} (h:fK q=0):KI q.Bz=0∧Pq q.Bz q.reg=0∧KI q.tgt=0∧MH q.D5∧(Bc q.Bz q.reg).length≤60∧(BG q.tgt).length≤120:=by
 unfold fK at h
 split at h
 ·rename_i h1;exact absurd h h1
 rename_i h1
 split at h
 ·rename_i h2;exact absurd h h2
 rename_i h2
 split at h
 ·rename_i h3;exact absurd h h3
 rename_i h3
 split at h
 ·exact absurd h (by decide)
 rename_i h4
 split at h
 ·exact absurd h (by decide)
 rename_i h5
 exact ⟨Classical.not_not.1 h1,Classical.not_not.1 h2,Classical.not_not.1 h3,Classical.not_not.1 h4,by omega,by omega⟩
theorem eY.k1 {q:SA} (h:eY q):I9 q.Bz:=yA h.sm1 (KT h.err).1
theorem eY.k2 {q:SA} (h:eY q):I9 q.tgt:=yA h.sm2 (KT h.err).2.2.1
theorem eY.D5 {q:SA} (h:eY q):MH q.D5:=(KT h.err).2.2.2.1
theorem eY.len {q:SA} (h:eY q):q.reg.stops.length=q.Bz.Au.length:=kQ (KT h.err).2.1
def Ih (q:SA):List (List Int):=Kq q.Bz q.tgt q.reg q.D5
def OQ (q:SA):Nat:=if (Bc q.Bz q.reg).length=0 then 0 else (BG q.tgt).length
theorem ng (q:SA):(Ih q).length=(Bc q.Bz q.reg).length:=by simp [Ih,Kq]
theorem qQ (q:SA) {r k:Nat} (hr:r<(Bc q.Bz q.reg).length) (hk:k<(BG q.tgt).length):gi (gi (Ih q) r) k=I4 q.Bz q.tgt q.D5 (gi (Bc q.Bz q.reg) r) (gi (BG q.tgt) k):=by
 unfold Ih Kq
 rw [gi_map' _ hr,gi_map' _ hk]
theorem nH (q:SA) {r:Nat} (hr:r<(Bc q.Bz q.reg).length):(gi (Ih q) r).length=(BG q.tgt).length:=by
 unfold Ih Kq
 rw [gi_map' _ hr,List.length_map]
theorem eY.Uf {q:SA} (h:eY q):PZ (Ih q) (Ih q).length (OQ q) q.D5.miss 101000000:=by
 obtain ⟨_,_,_,hw,h5,h6⟩:=KT h.err
 obtain ⟨_,_,_,w4⟩:=NJ hw
 have hl:=ng q
 refine ⟨⟨rfl,fun r hr=>?_,fun r k hr hk=>?_,⟨w4.1,by omega⟩,by decide⟩,by omega,?_,by decide,fun h0=>?_⟩
 ·rw [nH q (by omega)]
  unfold OQ;rw [if_neg (by omega)]
 ·unfold OQ at hk
  rw [if_neg (by omega)] at hk
  rw [qQ q (by omega) hk]
  exact jQ hw h.shb (Rx (Zc (by omega))) (QC hk)
 ·unfold OQ;split<;>omega
 ·unfold OQ;rw [if_pos (by omega)]
theorem Xj {l:List (List Int)} {m:Nat} {skip B:Int} (e:TypeId) (h:PZ l l.length m skip B):AX env 45 [.lst e (cells l) l.length,.int .i64 skip] (.Fb [.p (.agg (Enc.enc (YX l m skip))),.p (.int .i64 0)]):=by
 rcases Nat.eq_zero_or_pos l.length with h0|h0
 ·have hm:=h.m0 h0
  have hl:l=[]:=List.length_eq_zero_iff.1 h0
  subst hl;subst hm
  have:=h.Uf.skip
  have:=h.B9
  exact Xp e (by omega)
 ·exact Y4 e h h0
theorem Ja {q:SA} (h:eY q):AX env 15 [.agg (Enc.enc q)] (.Fb [.p (.lst 52 (cells (Ih q)) (Ih q).length),.p (.int .i64 0)]):=by
 have hc:=dD q h.sm1 h.sm2 h.rg
 rw [h.err] at hc
 have hl:=Xv q h.k1 h.k2 h.D5 h.shb h.rg h.len
 rw [show Kq q.Bz q.tgt q.reg q.D5=Ih q from rfl] at hl
 refine AX.enter (AB (by decide)) Tryz.func15 rfl (by kernel_rfl) (by simp [Tryz.ntmps15]) ?_
 repeat' (first|apply Ae.assoc|apply Ae.AA|apply Ae.Aq|apply Ae.ret|apply Ag.nil|apply Ag.one|(apply Aa.fn;rfl;rfl;exact hc;intro _;rfl)|(apply Aa.fn;rfl;rfl;exact hl;intro _;rfl)|(apply Aa.assign;rfl)|(apply Aa.move;rfl)|(apply Aa.int;rfl;rfl;rfl)|(apply Aa.load;rfl;rfl)|(apply Aa.box;rfl;trivial)|(apply Aa.extract;rfl;rfl)|(apply Ae.Az;rfl))
 all_goals first|(exfalso;omega)|contradiction|(refine Done.ret rfl (.refl _) (by first|exact trivial|exact ⟨trivial,trivial,trivial⟩|exact ⟨trivial,trivial,trivial,trivial⟩) Aj.nil (Nat.zero_le _) (Nat.le_refl _) ⟨?_,rfl,rfl⟩;try rfl)
noncomputable def NQ (q:SA):QD:=YX (Ih q) (OQ q) q.D5.miss
theorem U7 {q:SA} (h:eY q):AX env 17 [.agg (Enc.enc q)] (.Fb [.p (.agg (Enc.enc (NQ q))),.p (.int .i64 0)]):=by
 have hl:=Ja h
 have hp:=Xj 52 h.Uf
 rw [show YX (Ih q) (OQ q) q.D5.miss=NQ q from rfl] at hp
 generalize NQ q=b at *
 refine AX.enter (AB (by decide)) Tryz.func17 rfl (by kernel_rfl) (by simp [Tryz.ntmps17]) ?_
 repeat' (first|apply Ae.assoc|apply Ae.AA|apply Ae.Aq|apply Ae.ret|apply Ag.nil|apply Ag.one|(apply Aa.fn;rfl;rfl;exact hl;intro _;rfl)|(apply Aa.fn;rfl;rfl;exact hp;intro _;rfl)|(apply Aa.assign;rfl)|(apply Aa.move;rfl)|(apply Aa.int;rfl;rfl;rfl)|(apply Aa.load;rfl;rfl)|(apply Aa.AQ;rfl;rfl;rfl)|(apply Aa.box;rfl;trivial)|(apply Aa.alloc;rfl)|(apply Aa.Bo;rfl;rfl;rfl;trivial;rfl;rfl;exact Ac rfl;exact le_dec rfl)|(apply Aa.build;rfl;rfl;rfl;rfl;rfl)|(apply Aa.extract;rfl;rfl)|(apply Ae.Az;rfl))
 all_goals first|(exfalso;omega)|contradiction|(refine Done.ret rfl (.refl _) (by first|exact trivial|exact ⟨trivial,trivial,trivial⟩|exact ⟨trivial,trivial,trivial,trivial⟩) Aj.nil (Nat.zero_le _) (Nat.le_refl _) ⟨?_,rfl,rfl⟩;try rfl)
def a7o:List FV:=[.val (.slice none 0 0),.int .i64 0,.val (.slice none 0 0),.val (.slice none 0 0)]
theorem Y1 {q:SA} (h:eY q) (p:QD):AX env 21 [.agg (Enc.enc q),.agg (Enc.enc p)] (.p (.int .i64 (rC (Ih q) (OQ q) q.D5.miss p))):=by
 have hl:=Ja h
 have hp:=dR 52 h.Uf p
 refine AX.enter (AB (by decide)) Tryz.func21 rfl (by kernel_rfl) (by simp [Tryz.ntmps21]) ?_
 repeat' (first|apply Ae.assoc|apply Ae.AA|apply Ae.Aq|apply Ae.ret|apply Ag.nil|apply Ag.one|(apply Aa.fn;rfl;rfl;exact hl;intro _;rfl)|(apply Aa.fn;rfl;rfl;exact hp;intro _;rfl)|(apply Aa.assign;rfl)|(apply Aa.move;rfl)|(apply Aa.int;rfl;rfl;rfl)|(apply Aa.load;rfl;rfl)|(apply Aa.AQ;rfl;rfl;rfl)|(apply Aa.box;rfl;trivial)|(apply Aa.build;rfl;rfl;rfl;rfl;rfl)|(apply Aa.extract;rfl;rfl)|(apply Ae.Az;rfl))
 all_goals first|(exfalso;omega)|contradiction|(refine Done.ret rfl (.refl _) (by first|exact trivial|exact ⟨trivial,trivial,trivial⟩|exact ⟨trivial,trivial,trivial,trivial⟩) Aj.nil (Nat.zero_le _) (Nat.le_refl _) ⟨?_,rfl,rfl⟩;try rfl)
end Go.Proofs.YtdabojnmoejilaaGreatDoor
namespace Go.Proofs.YtdabojnmoejilaaGreatDoor
open Go Go.Am Go.Vm Go.Tra Go.Hun
attribute [local irreducible] Aa Ag Ap Ae BD AX CU AO AL Aw Vm.Done Df Bq
theorem eF (fs:List Int):∀ {k i:Nat},i<k→gi (EH fs k) i=ZP i (gi fs i):=fun {k i} h=>by
 unfold EH gi;simp [List.getElem?_map,List.getElem?_range h]
theorem bf (ts:List Tn) (fs:List Int):∀ {k i:Nat},i<k→gi (Fz ts fs k) i=Za i (gi ts i).t (gi fs i):=fun {k i} h=>by
 unfold Fz gi;simp [List.getElem?_map,List.getElem?_range h]
theorem wY {i:Nat} {t:List UInt8} {f:Int} (hi:i<10) (ht:CY t) (hf:oq ⟨f,1⟩):DY (Za i t f)=0:=by
 unfold DY
 have h1:CY (Za i t f).name:=Vl (by decide) hi
 have h2:CY (Za i t f).Eu:=ht
 have h3:Ox (Za i t f).Dq=0:=Oa.2 hf
 rw [if_neg (by rintro (h|h);exact h h1;exact h h2),if_neg (fun h=>h h3),if_neg (by show ¬ ((36:Int)< -256∨(36:Int)>256);omega),if_neg (by show ¬ (3=0);omega),if_neg (by show ¬ (3>128);omega)]
 unfold DN
 rw [if_pos]
 intro j hj
 have:j=0∨j=1∨j=2:=by
  have:j<3:=hj
  omega
 rcases this with rfl|rfl|rfl<;>(show ¬ Xy 1)<;>decide
theorem jX {ts:List Tn} {fs:List Int} (hl:ts.length=fs.length) (h9:ts.length≤9) (hT:∀ i,i<ts.length→CY (gi ts i).t) (hF:∀ i,i<ts.length→oq ⟨gi fs i,1⟩):KI (Jq ts fs)=0:=by
 have eR:(Jq ts fs).ranks=Fz ts fs ts.length:=rfl
 have eD:(Jq ts fs).Au=[VH (EH fs ts.length)]:=rfl
 have eC:(Jq ts fs).FU=[]:=rfl
 have eN:(Jq ts fs).name=[79]:=rfl
 have lR:=QX ts fs ts.length
 have lS:=Q8 fs ts.length
 have gR:∀ i,i<ts.length→gi (Fz ts fs ts.length) i=Za i (gi ts i).t (gi fs i):=fun i hi=>bf ts fs hi
 have gS:∀ i,i<ts.length→gi (EH fs ts.length) i=ZP i (gi fs i):=fun i hi=>eF fs hi
 unfold KI
 rw [eR,eD,eC,eN]
 have hr:∀ i,i<(Fz ts fs ts.length).length→DY (gi (Fz ts fs ts.length) i)=0:=fun i hi=>by
  rw [lR] at hi
  rw [gR i hi]
  exact wY (by omega) (hT i hi) (hF i hi)
 have hrk:Ns (Fz ts fs ts.length) 0=0:=RI (fun i hi=>⟨hr i hi,Rh (c:=82) (by omega) (fun j hj=>by rw [gR j (by omega)];rfl) hi⟩) _ 0 rfl
 have n1:CY [79]:=⟨by decide,by decide,by decide,fun j h1 h2=>by simp at h2;omega⟩
 have n2:CY [71,114,101,97,116]:=⟨by decide,by decide,by decide,fun j h1 h2=>by
  have:j=1∨j=2∨j=3∨j=4:=by simp at h2;omega
  rcases this with rfl|rfl|rfl|rfl<;>exact .inl (by decide)⟩
 rw [if_neg (fun h=>h n1),if_neg (by omega),if_neg (fun h=>h hrk),if_neg (by simp),if_neg (by simp)]
 have hst:∀ i,i<(EH fs ts.length).length→Je (Fz ts fs ts.length) 36 38 (gi (EH fs ts.length) i)=0:=fun i hi=>by
  rw [lS] at hi
  rw [gS i hi]
  unfold Je
  rw [Yn hr (by omega) (by omega),if_neg (fun h=>h rfl)]
  unfold wE
  have h1:CY (ZP i (gi fs i)).name:=Vl (by decide) (by omega)
  have h3:Ox (ZP i (gi fs i)).Dq=0:=Oa.2 (hF i hi)
  have es:(ZP i (gi fs i)).Et=[⟨36,38,[⟨(i:Int),0⟩]⟩]:=rfl
  rw [if_neg (fun h=>h h1),if_neg (fun h=>h h3),es,if_neg (by simp),if_neg (by simp)]
  exact Jo (by simp) (H9 ⟨by simp only;omega,by simp⟩)
 have hd:FI (Fz ts fs ts.length) [VH (EH fs ts.length)] 0=0:=Pm (fun i hi=>by
  obtain rfl:i=0:=by simp at hi;omega
  refine ⟨n2,by simp,?_⟩
  show Kw (Fz ts fs ts.length) (VH (EH fs ts.length))=0
  unfold Kw
  rw [show Uy (VH (EH fs ts.length)).lo (VH (EH fs ts.length)).hi=0 from KW (by simp [VH]),if_neg (fun h=>h rfl),if_neg (by show ¬ (EH fs ts.length).length>60;omega)]
  exact OU (fun j hj=>⟨hst j hj,Rh (c:=82) (l:=EH fs ts.length) (by omega) (fun a ha=>by rw [gS a (by omega)];rfl) hj⟩) _ 0 rfl) _ 0 rfl
 rw [if_neg (fun h=>h hd)]
 unfold SC
 rw [if_neg (by simp)]
 have hc:Px ([VH (EH fs ts.length)].map fun d=>(⟨d.lo,d.hi⟩:ZE)) 0=0:=RS (fun i hi=>by
  obtain rfl:i=0:=by simp at hi;omega
  exact KW (by simp [gi,VH])) _ 0 rfl
 rw [if_neg (fun h=>h hc),NT,if_neg (by simp)]
theorem qM {ts:List Tn} {fs:List Int} (h9:ts.length≤9) (hT:∀ i,i<ts.length→CY (gi ts i).t):OL (Jq ts fs):=by
 have lR:=QX ts fs ts.length
 have lS:=Q8 fs ts.length
 refine ⟨by show 1<1000000;decide,by show (Fz ts fs ts.length).length<_;omega,by show 1<1000000;decide,by show 0<1000000;decide,fun i hi=>?_,fun i hi=>?_,fun i hi=>?_⟩
 ·have hi:i<ts.length:=by rw [← lR];exact hi
  show U9 (gi (Fz ts fs ts.length) i)
  rw [bf ts fs hi]
  exact ⟨by show 2<1000000;decide,by show (gi ts i).t.length<_;have:=(hT i hi).2.1;omega,by show 3<1000000;decide⟩
 ·obtain rfl:i=0:=by
   have:i<1:=hi
   omega
  show vZ (VH (EH fs ts.length))
  refine ⟨by show 5<1000000;decide,by show (EH fs ts.length).length<_;omega,fun j hj=>?_⟩
  have hj:j<ts.length:=by rw [← lS];exact hj
  show Yy (gi (EH fs ts.length) j)
  rw [eF fs hj]
  refine ⟨by show 2<1000000;decide,by show 1<1000000;decide,fun a ha=>?_⟩
  obtain rfl:a=0:=by
   have:a<1:=ha
   omega
  exact ⟨by show 1<1000000;decide⟩
 ·have:i<0:=hi
  omega
def uT:List Tn:=[⟨[112,114,105,110,99,105,112,97,108]⟩,⟨[102,108,117,116,101]⟩]
def wH:List Tn:=[⟨[102,108,117,116,101]⟩]
theorem vk (s:List UInt8) (h0:0<s.length) (h1:s.length≤32) (h:∀ i,i<s.length→ZL (gi s i).toNat):CY s:=⟨h0,h1,h 0 h0,fun i _ hi=>.inl (h i hi)⟩
instance (c:Nat):Decidable (ZL c):=by unfold ZL;infer_instance
theorem a0l:CY [112,114,105,110,99,105,112,97,108]:=vk _ (by decide) (by decide) (by decide)
theorem uH:CY [102,108,117,116,101]:=vk _ (by decide) (by decide) (by decide)
theorem qO:∀ i,i<uT.length→CY (gi uT i).t:=fun i hi=>by
 have:i=0∨i=1:=by
  have:i<2:=hi
  omega
 rcases this with rfl|rfl
 ·exact a0l
 ·exact uH
theorem qj:∀ i,i<wH.length→CY (gi wH i).t:=fun i hi=>by
 obtain rfl:i=0:=by
  have:i<1:=hi
  omega
 exact uH
def qK (w:Int):SA:=⟨Jq uT [8,4],⟨[3],0,0⟩,Jq wH [8],⟨10,1,5,w⟩⟩
theorem a1h {w:Int} (hw:0≤w∧w≤100):MH (qK w).D5:=fun i hi=>by
 match i,hi with
 |0,_=>show (0:Int)≤10∧(10:Int)≤100000;decide
 |1,_=>show (0:Int)≤1∧(1:Int)≤100000;decide
 |2,_=>show (0:Int)≤5∧(5:Int)≤100000;decide
 |3,_=>exact ⟨hw.1,Int.le_trans hw.2 (by decide)⟩
theorem shK:∀ a,a<2→(BX ⟨8,1⟩ ⟨gi [8,4] a,1⟩).2=0∧-1000≤(BX ⟨8,1⟩ ⟨gi [8,4] a,1⟩).1∧(BX ⟨8,1⟩ ⟨gi [8,4] a,1⟩).1≤1000:=by decide +kernel
theorem ZQ {w:Int} (hw:0≤w∧w≤100):eY (qK w):=by
 have e1:KI (Jq uT [8,4])=0:=jX rfl (by decide) qO (fun i hi=>by
  have:i=0∨i=1:=by
   have:i<2:=hi
   omega
  rcases this with rfl|rfl<;>decide +kernel)
 have e2:KI (Jq wH [8])=0:=jX rfl (by decide) qj (fun i hi=>by
  obtain rfl:i=0:=by
   have:i<1:=hi
   omega
  decide +kernel)
 have e3:Pq (Jq uT [8,4]) ⟨[3],0,0⟩=0:=by
  rw [Ry rfl (fun i hi=>by
   obtain rfl:i=0:=by
    have:i<1:=hi
    omega
   rfl)]
  rfl
 refine ⟨qM (by decide) qO,qM (by decide) qj,⟨fun i hi=>?_,by show 0<18446744073709551616;decide,by show 0<18446744073709551616;decide,by show 1<9223372036854775808;decide⟩,?_,fun a b ha hb=>?_⟩
 ·obtain rfl:i=0:=by
   have:i<1:=hi
   omega
  show 3<18446744073709551616
  decide
 ·unfold fK
  rw [if_neg (fun h=>h e1),if_neg (fun h=>h e3),if_neg (fun h=>h e2),if_neg (fun h=>h (a1h hw)),if_neg]
  have h1:(Bc (Jq uT [8,4]) ⟨[3],0,0⟩).length=2:=by decide +kernel
  have h2:(BG (Jq wH [8])).length=1:=by decide +kernel
  have h1:(Bc (qK w).Bz (qK w).reg).length=2:=h1
  have h2:(BG (qK w).tgt).length=1:=h2
  omega
 ·obtain ⟨d,s⟩:=a
  obtain ⟨d',s'⟩:=b
  have a1:d<1:=ha.1
  obtain rfl:d=0:=by omega
  have a2:s<2:=ha.2
  have b1:d'<1:=hb.1
  obtain rfl:d'=0:=by omega
  have b2:s'<1:=hb.2
  obtain rfl:s'=0:=by omega
  have:s=0∨s=1:=by omega
  rcases this with rfl|rfl
  ·exact shK 0 (by decide)
  ·exact shK 1 (by decide)
theorem Zx (w:Int):Ih (qK w)=[[10],[12]]:=by
 show Kq (Jq uT [8,4]) (Jq wH [8]) ⟨[3],0,0⟩ ⟨10,1,5,w⟩=_
 have:Kq (Jq uT [8,4]) (Jq wH [8]) ⟨[3],0,0⟩ ⟨10,1,5,0⟩=[[10],[12]]:=by decide +kernel
 exact this
theorem kN (w:Int):OQ (qK w)=1:=by
 have h1:(Bc (Jq uT [8,4]) ⟨[3],0,0⟩).length=2:=by decide +kernel
 have h2:(BG (Jq wH [8])).length=1:=by decide +kernel
 show (if (Bc (Jq uT [8,4]) ⟨[3],0,0⟩).length=0 then 0 else (BG (Jq wH [8])).length)=1
 rw [h1,h2];rfl
theorem a2i:(NQ (qK 20)).total=30:=by
 unfold NQ YX
 rw [Zx,kN]
 show iy [[10],[12]] 2 1 20=30
 decide +kernel
theorem a5g:(NQ (qK 5)).total=10:=by
 unfold NQ YX
 rw [Zx,kN]
 show iy [[10],[12]] 2 1 5=10
 decide +kernel
theorem iY:AX env 12 [] (.p (.bool true)):=by
 have h1:=SN uT [8,4] rfl (by decide)
 have h2:=SN wH [8] rfl (by decide)
 have hl:=Ja (ZQ (w:=20) (by decide))
 rw [Zx] at hl
 have hb:=U7 (ZQ (w:=20) (by decide))
 have hb5:=U7 (ZQ (w:=5) (by decide))
 have hv:=Y1 (ZQ (w:=20) (by decide)) (NQ (qK 20))
 rw [show rC (Ih (qK 20)) (OQ (qK 20)) (qK 20).D5.miss (NQ (qK 20))=0 from qR (ZQ (w:=20) (by decide)).Uf] at hv
 have t1:=a2i
 have t2:=a5g
 generalize NQ (qK 20)=A at *
 generalize NQ (qK 5)=B at *
 obtain ⟨c1,tt1,r1,p1⟩:=A
 obtain ⟨c2,tt2,r2,p2⟩:=B
 simp only at t1 t2
 subst t1;subst t2
 refine AX.enter (AB (by decide)) Tryz.func12 rfl (by kernel_rfl) (by simp [Tryz.ntmps12]) ?_
 repeat' (first|(refine Ag.IC 11 ?_;refine Ag.ghost (Ba.trans (Ba.freeze 9 rfl rfl) (Ba.freeze 10 rfl rfl)) ?_)|(refine Ag.IC 13 ?_;refine Ag.ghost (Ba.freeze 12 rfl rfl) ?_)|(refine Ag.IC 16 ?_;refine Ag.ghost (Ba.trans (Ba.freeze 14 rfl rfl) (Ba.freeze 15 rfl rfl)) ?_)|apply Ae.AA|apply Ae.ret|apply Ag.nil|apply Ag.one|(apply Ag.take;rfl;rfl)|(apply Aa.fn;rfl;rfl;exact h1;intro _;rfl)|(apply Aa.fn;rfl;rfl;exact h2;intro _;rfl)|(apply Aa.fn;rfl;rfl;exact hl;intro _;rfl)|(apply Aa.fn;rfl;rfl;exact hb;intro _;rfl)|(apply Aa.fn;rfl;rfl;exact hv;intro _;rfl)|(apply Aa.fn;rfl;rfl;exact hb5;intro _;rfl)|(apply Aa.Ru;rfl;rfl;rfl;decide;decide)|(apply Aa.assign;rfl)|(apply Aa.move;rfl)|(apply Aa.int;rfl;rfl;rfl)|(apply Aa.load;rfl;rfl)|(apply Aa.BH;rfl;rfl)|(apply Aa.BI;rfl;rfl)|(apply Aa.AQ;rfl;rfl;rfl)|(apply Aa.alloc;rfl)|(apply Aa.Bo;rfl;rfl;rfl;trivial;rfl;rfl;exact Ac rfl;exact le_dec rfl)|(apply Aa.build;rfl;rfl;rfl;rfl;rfl)|(apply Aa.buildSlice;rfl;rfl;rfl;decide;rfl;rfl;rfl)|(apply Aa.extract;rfl;rfl))
 all_goals try (exfalso;omega)
 all_goals (refine Done.ret rfl (.refl _) (by first|exact trivial|exact ⟨trivial,trivial,trivial⟩|exact ⟨trivial,trivial,trivial,trivial⟩) Aj.nil (Nat.zero_le _) (Nat.le_refl _) ⟨?_,rfl,rfl⟩;try rfl)
end Go.Proofs.YtdabojnmoejilaaGreatDoor
namespace Go.Proofs.YtdabojnmoejilaaGreatDoor
open Go Go.Am Go.Vm Go.Tra
attribute [local irreducible] Aa Ag Ap Ae BD AX CU AO AL Aw Vm.Done Df Bq
attribute [local irreducible] DY DN Je Kw SC BX
def QT (o:EP) (d s:Nat):List Pv:=Ld (PU o) d++(List.range s).map fun i=>⟨d,i⟩
theorem oL (o:EP) (d:Nat):QT o d 0=Ld (PU o) d:=by simp [QT]
theorem oH (o:EP) (d s:Nat):QT o d (s+1)=QT o d s++[⟨d,s⟩]:=by simp [QT,List.range_succ]
theorem qV (o:EP) (d s:Nat):(QT o d s).length=Kv (PU o) d+s:=by simp [QT,Kv]
theorem uI (o:EP) {d:Nat} (hd:d<o.Au.length):QT o d (gi o.Au d).stops.length=Ld (PU o) (d+1):=by
 rw [← Wx o hd];rfl
theorem fO {o:EP} (ho:I9 o) {d:Nat} (h:d≤o.Au.length):Kv (PU o) d≤480:=by
 have h1:=YS (PU o) (d:=d) (e:=(PU o).length) (by rw [Lp];exact h)
 have h2:=EJ ho
 rw [Wy] at h2
 omega
theorem SY (o:EP) (ho:I9 o):AX env 19 [.agg (Enc.enc o)] (.p (.lst 85 (cells (BG o)) (BG o).length)):=by
 have d1:=ho.Au
 refine AX.enter (AB (by decide)) Tryz.func19 rfl (by kernel_rfl) (by simp [Tryz.ntmps19]) ?_
 repeat' (first|apply Ae.assoc|apply Ae.AA|apply Ae.Ai|apply Ag.nil|apply Ag.one|(apply Aa.assign;rfl)|(apply Aa.box;rfl;trivial))
 all_goals try (exfalso;omega)
 refine Ae.ghost (Ba.adopt 3 85 rfl) ?_
 apply Ae.EX (o.Au.length) [(1,_)] [(0,_)] (fun k r=>(3,.vec 1 (Ld (PU o) k).length 0 (Ld (PU o) k).length)::(4,.p (.int .i64 (k:Int)))::r) (fun k r=>(1,.vec 85 (cells (Ld (PU o) k)) (Ld (PU o) k).length true)::r) 2
 ·first|omega|decide
 ·first|omega|decide
 ·repeat (first|exact Ad.nil|(refine Ad.eq rfl ?_ ?_;(first|exact PV.Ak rfl|(simp [PV.under,AU.under];done)))|refine Ad.cons trivial rfl (.of_eq (Ar (by simp<;>omega))) ?_)
 ·repeat (first|exact Aj.nil|(refine Aj.eq rfl (Ac rfl) ?_ ?_;(first|exact HB.Ak rfl|exact AU.Ah _ _|(simp [HB.under,AU.under,PV.under];done)))|(refine Aj.cons (Ac rfl) ?_ rfl ?_ ?_;(first|exact trivial|exact AU.Ah _ _|(simp [HB.under,AU.under,PV.under]));(first|exact Bl.refl _|exact Bl.vec (Bh.refl _) (by simp))))
 ·intro k hk
  have s1:=ho.stops k hk
  have e0:=oL o k
  have e9:=uI o hk
  have b1:=fO ho (d:=k+1) hk
  have b2:=Ji (PU o) k
  rw [Wx o hk] at b2
  rw [← e0,← e9]
  repeat' (first|apply Ae.assoc|apply Ae.AA|apply Ae.Aq|apply Ae.Ai|apply Ae.Hy|apply Ag.nil|apply Ag.one|(apply Aa.assign;rfl)|(apply Aa.move;rfl)|(apply Aa.int;rfl;rfl;rfl)|(apply Aa.load;rfl;rfl)|(apply Aa.BI;rfl;rfl)|(apply Aa.AQ;rfl;rfl;rfl)|(apply Ae.Af;rfl)|(intro _;try (exfalso;omega)))
  all_goals try (exfalso;omega)
  apply Ae.EX ((gi o.Au k).stops.length) [(1,_),(4,_)] [(0,_)] (fun k_ r=>(3,.vec 1 (QT o k k_).length 0 (QT o k k_).length)::(5,.p (.int .i64 (k_:Int)))::r) (fun k_ r=>(1,.vec 85 (cells (QT o k k_)) (QT o k k_).length true)::r) 2
  ·first|omega|decide
  ·first|omega|decide
  ·repeat (first|exact Ad.nil|(refine Ad.eq rfl ?_ ?_;(first|exact PV.Ak rfl|(simp [PV.under,AU.under];done)))|refine Ad.cons trivial rfl (.of_eq (Ar (by simp<;>omega))) ?_)
  ·repeat (first|exact Aj.nil|(refine Aj.eq rfl (Ac rfl) ?_ ?_;(first|exact HB.Ak rfl|exact AU.Ah _ _|(simp [HB.under,AU.under,PV.under];done)))|(refine Aj.cons (Ac rfl) ?_ rfl ?_ ?_;(first|exact trivial|exact AU.Ah _ _|(simp [HB.under,AU.under,PV.under]));(first|exact Bl.refl _|exact Bl.vec (Bh.refl _) (by simp))))
  ·intro j hj
   have f1:=oH o k j
   have f2:(QT o k (j+1)).length=(QT o k j).length+1:=by rw [f1];simp
   have f3:=qV o k j
   repeat' (first|apply Ae.assoc|apply Ae.AA|apply Ae.region|apply Ae.Aq|apply Ae.Ai|apply AO.normal|apply AL.normal|apply Ag.nil|apply Ag.one|(apply Aa.Dl (a:=(⟨k,j⟩:Pv));rfl;rfl;rfl;rfl;rfl;rfl;rfl;rfl;(intro _ h;cases h);rfl;rfl;rfl;decide;decide;(first|omega|(simp only [List.length_take,List.length_drop,List.length_append,List.length_singleton,List.length_cons,List.length_nil]<;>omega)))|(apply Aa.assign;rfl)|(apply Aa.move;rfl)|(apply Aa.Bv;rfl;rfl;omega)|(apply Aa.int;rfl;rfl;rfl)|(apply Aa.AP;rfl;rfl;rfl;omega;rfl)|(apply Aa.load;rfl;rfl)|(apply Aa.BI;rfl;rfl)|(apply Aa.AQ;rfl;rfl;rfl)|(apply Aa.Dw;rfl;rfl)|(apply Aa.build;rfl;rfl;rfl;rfl;rfl)|(apply Aa.buildSlice;rfl;rfl;rfl;decide;rfl;rfl;rfl)|(apply Ae.Af;rfl)|(intro _;try (exfalso;omega)))
   all_goals try (exfalso;omega)
   refine Aw.normal ⟨by omega,?_,?_⟩
   ·rw [f2]
    repeat (first|exact Ad.nil|refine Ad.same trivial rfl ?_|refine Ad.same (Ac rfl) rfl ?_|refine Ad.same ⟨trivial,Ac rfl,trivial⟩ rfl ?_|refine Ad.same ⟨trivial,Ac rfl,Ac rfl,trivial⟩ rfl ?_|refine Ad.same ⟨trivial,Ac rfl,Ac rfl,Ac rfl,trivial⟩ rfl ?_|refine Ad.same ⟨trivial,trivial⟩ rfl ?_|refine Ad.cons trivial rfl (.of_eq (Ar (by simp<;>omega))) ?_)
   ·rw [f2,f1]
    repeat (first|exact Aj.nil|(refine Aj.cons (Ac rfl) ?_ rfl ?_ ?_;(first|exact HB.Ak rfl|exact AU.Ah _ _|(simp [HB.under,AU.under,PV.under]));(first|exact Bl.refl _|exact Bl.vec (Bh.refl _) (by simp))))
  ·repeat' (first|apply Ae.assoc|apply Ae.AA|apply Ae.region|apply Ae.AY|apply AO.normal|apply AL.normal|apply AL.exit|apply Aw.exit|apply Ag.nil|apply Ag.one|(apply Aa.assign;rfl)|(apply Aa.move;rfl)|(apply Aa.Bv;rfl;rfl;omega)|(apply Aa.int;rfl;rfl;rfl)|(apply Aa.AP;rfl;rfl;rfl;omega;rfl)|(apply Aa.load;rfl;rfl)|(apply Aa.BI;rfl;rfl)|(apply Aa.AQ;rfl;rfl;rfl)|(apply Aa.Dw;rfl;rfl)|(apply Ae.Af;rfl)|(intro _;try (exfalso;omega)))
   all_goals try (exfalso;omega)
   refine Aw.normal ⟨by first|omega|decide,?_,?_⟩
   ·repeat (first|exact Ad.nil|refine Ad.same trivial rfl ?_|refine Ad.same (Ac rfl) rfl ?_|refine Ad.same ⟨trivial,Ac rfl,trivial⟩ rfl ?_|refine Ad.same ⟨trivial,Ac rfl,Ac rfl,trivial⟩ rfl ?_|refine Ad.same ⟨trivial,Ac rfl,Ac rfl,Ac rfl,trivial⟩ rfl ?_|refine Ad.same ⟨trivial,trivial⟩ rfl ?_|refine Ad.cons trivial rfl (.of_eq (Ar (by simp<;>omega))) ?_)
   ·repeat (first|exact Aj.nil|(refine Aj.cons (Ac rfl) ?_ rfl ?_ ?_;(first|exact HB.Ak rfl|exact AU.Ah _ _|(simp [HB.under,AU.under,PV.under]));(first|exact Bl.refl _|exact Bl.vec (Bh.refl _) (by simp))))
 ·have ea:Ld (PU o) o.Au.length=BG o:=by unfold BG;rw [Lp]
  rw [ea]
  repeat' (first|(refine Ag.IC 2 ?_;refine Ag.ghost (Ba.freeze 30 rfl rfl) ?_)|apply Ae.assoc|apply Ae.AA|apply Ae.AY|apply AO.normal|apply AL.exit|apply Aw.exit|apply Ae.ret|apply Ag.nil|apply Ag.one|(apply Aa.assign;rfl)|(apply Aa.move;rfl)|(apply Aa.int;rfl;rfl;rfl)|(apply Aa.load;rfl;rfl)|(apply Aa.BI;rfl;rfl)|(apply Aa.AQ;rfl;rfl;rfl)|(apply Ae.Af;rfl)|(intro _;try (exfalso;omega)))
  all_goals first|(exfalso;omega)|(refine Done.ret rfl (.refl _) (by first|exact trivial|exact ⟨trivial,trivial,trivial⟩|exact ⟨trivial,trivial,trivial,trivial⟩) Aj.nil (Nat.zero_le _) (Nat.le_refl _) ⟨?_,rfl,rfl⟩;try rfl)
def H6 (o:EP) (rg:Rgs) (k:Nat):List Pv:=((BG o).take k).filter (FT rg)
theorem aN (o:EP) (rg:Rgs) {k:Nat} (h:k<(BG o).length):H6 o rg (k+1)=if FT rg (gi (BG o) k)=true then H6 o rg k++[gi (BG o) k] else H6 o rg k:=by
 unfold H6
 rw [Dy h,List.filter_append]
 split
 ·rename_i h1;simp [h1]
 ·rename_i h1;simp [h1]
theorem iO (o:EP) (rg:Rgs) (k:Nat):(H6 o rg k).length≤k:=by
 unfold H6
 have:=List.length_filter_le (FT rg) ((BG o).take k)
 rw [List.length_take] at this
 omega
theorem jq (o:EP) (rg:Rgs):H6 o rg (BG o).length=Bc o rg:=by unfold H6 Bc;rw [List.take_of_length_le (Nat.le_refl _)]
theorem bH (o:EP) (ho:I9 o) (rg:Rgs) (hr:rg.Ok) (hl:rg.stops.length=o.Au.length) :
 AX env 31 [.agg (Enc.enc o),.agg (Enc.enc rg)] (.p (.lst 85 (cells (Bc o rg)) (Bc o rg).length)):=by
 have hb:=EJ ho
 have hs:=SY o ho
 refine AX.enter (AB (by decide)) Tryz.func31 rfl (by kernel_rfl) (by simp [Tryz.ntmps31]) ?_
 repeat' (first|apply Ae.assoc|apply Ae.AA|apply Ae.Ai|apply Ag.nil|apply Ag.one|(apply Aa.fn;rfl;rfl;exact hs;intro _;rfl)|(apply Aa.assign;rfl)|(apply Aa.load;rfl;rfl)|(apply Aa.box;rfl;trivial))
 all_goals try (exfalso;omega)
 refine Ae.ghost (Ba.adopt 5 85 rfl) ?_
 apply Ae.EX ((BG o).length) [(3,_),(6,_)] [(1,_)] (fun k r=>(5,.vec 2 (H6 o rg k).length 0 (H6 o rg k).length)::(7,.p (.int .i64 (k:Int)))::r) (fun k r=>(2,.vec 85 (cells (H6 o rg k)) (H6 o rg k).length true)::r) 3
 ·first|omega|decide
 ·first|omega|decide
 ·repeat (first|exact Ad.nil|(refine Ad.eq rfl ?_ ?_;(first|exact PV.Ak rfl|(simp [PV.under,AU.under];done)))|refine Ad.cons trivial rfl (.of_eq (Ar (by simp<;>omega))) ?_)
 ·repeat (first|exact Aj.nil|(refine Aj.eq rfl (Ac rfl) ?_ ?_;(first|exact HB.Ak rfl|exact AU.Ah _ _|(simp [HB.under,AU.under,PV.under];done)))|(refine Aj.cons (Ac rfl) ?_ rfl ?_ ?_;(first|exact trivial|exact AU.Ah _ _|(simp [HB.under,AU.under,PV.under]));(first|exact Bl.refl _|exact Bl.vec (Bh.refl _) (by simp))))
 ·intro k hk
  obtain ⟨h1,h2⟩:=QC hk
  have s1:=ho.stops _ h1
  have b1:=hr.stops (gi (BG o) k).d (by omega)
  have hq:gi rg.stops (gi (BG o) k).d / 2 ^ (gi (BG o) k).s<18446744073709551616:=Nat.lt_of_le_of_lt (Nat.div_le_self _ _) b1
  have e1:=aN o rg hk
  have e3:=iO o rg k
  by_cases hp:FT rg (gi (BG o) k)=true
  ·rw [if_pos hp] at e1
   have e2:(H6 o rg (k+1)).length=(H6 o rg k).length+1:=by rw [e1];simp
   have hm:gi rg.stops (gi (BG o) k).d / 2 ^ (gi (BG o) k).s % 2=1:=by simpa [FT] using hp
   repeat' (first|apply Ae.assoc|apply Ae.AA|apply Ae.BF|apply Ae.region|apply Ae.Aq|apply Ae.Ai|apply AO.normal|apply AL.normal|apply Ag.nil|apply Ap.nil|apply Ag.one|(apply Ap.bar;decide +kernel)|apply Ap.quiet|(apply Aa.Dl (a:=gi (BG o) k);rfl;rfl;rfl;rfl;rfl;rfl;rfl;rfl;(intro _ h;cases h);rfl;rfl;rfl;decide;decide;(first|omega|(simp only [List.length_take,List.length_drop,List.length_append,List.length_singleton,List.length_cons,List.length_nil]<;>omega)))|(apply Aa.AP (l:=rg.stops) (i:=(gi (BG o) k).d);rfl;rfl;rfl;omega;rfl)|(apply Aa.assign;rfl)|(apply Aa.move;rfl)|(apply Aa.Bv;rfl;rfl;omega)|(apply Aa.qm;rfl;rfl;omega)|(apply Aa.int;rfl;rfl;rfl)|(apply Aa.AP;rfl;rfl;rfl;omega;rfl)|(apply Aa.load;rfl;rfl)|(apply Aa.BI;rfl;rfl)|(apply Aa.AQ;rfl;rfl;rfl)|(apply Aa.Dw;rfl;rfl)|(apply Aa.buildSlice;rfl;rfl;rfl;decide;rfl;rfl;rfl)|(apply Aa.TW;rfl;rfl;rfl;rfl;omega)|(apply Aa.VK;rfl;rfl;(simp only [IntKind.bits];omega))|(apply Ae.Af;rfl)|(apply Ae.AZ;rfl)|(intro _;try (exfalso;omega)))
   all_goals try (exfalso;omega)
   refine Aw.normal ⟨by omega,?_,?_⟩
   ·rw [e2]
    repeat (first|exact Ad.nil|refine Ad.same trivial rfl ?_|refine Ad.same (Ac rfl) rfl ?_|refine Ad.same ⟨trivial,Ac rfl,trivial⟩ rfl ?_|refine Ad.same ⟨trivial,Ac rfl,Ac rfl,trivial⟩ rfl ?_|refine Ad.same ⟨trivial,Ac rfl,Ac rfl,Ac rfl,trivial⟩ rfl ?_|refine Ad.same ⟨trivial,trivial⟩ rfl ?_|refine Ad.cons trivial rfl (.of_eq (Ar (by simp<;>omega))) ?_)
   ·rw [e2,e1]
    repeat (first|exact Aj.nil|(refine Aj.cons (Ac rfl) ?_ rfl ?_ ?_;(first|exact HB.Ak rfl|exact AU.Ah _ _|(simp [HB.under,AU.under,PV.under]));(first|exact Bl.refl _|exact Bl.vec (Bh.refl _) (by simp))))
  ·rw [if_neg hp] at e1
   have hm:¬ gi rg.stops (gi (BG o) k).d / 2 ^ (gi (BG o) k).s % 2=1:=by simpa [FT] using hp
   repeat' (first|apply Ae.assoc|apply Ae.AA|apply Ae.BF|apply Ae.region|apply Ae.Aq|apply Ae.Ai|apply AO.normal|apply AL.normal|apply Ae.skip|apply Ag.nil|apply Ap.nil|apply Ag.one|(apply Ap.bar;decide +kernel)|apply Ap.quiet|(apply Aa.AP (l:=rg.stops) (i:=(gi (BG o) k).d);rfl;rfl;rfl;omega;rfl)|(apply Aa.assign;rfl)|(apply Aa.move;rfl)|(apply Aa.Bv;rfl;rfl;omega)|(apply Aa.qm;rfl;rfl;omega)|(apply Aa.int;rfl;rfl;rfl)|(apply Aa.AP;rfl;rfl;rfl;omega;rfl)|(apply Aa.load;rfl;rfl)|(apply Aa.BI;rfl;rfl)|(apply Aa.AQ;rfl;rfl;rfl)|(apply Aa.Dw;rfl;rfl)|(apply Aa.TW;rfl;rfl;rfl;rfl;omega)|(apply Aa.VK;rfl;rfl;(simp only [IntKind.bits];omega))|(apply Ae.Af;rfl)|(apply Ae.AZ;rfl)|(intro _;try (exfalso;omega)))
   all_goals try (exfalso;omega)
   refine Aw.normal ⟨by omega,?_,?_⟩
   ·rw [e1]
    repeat (first|exact Ad.nil|refine Ad.same trivial rfl ?_|refine Ad.same (Ac rfl) rfl ?_|refine Ad.same ⟨trivial,Ac rfl,trivial⟩ rfl ?_|refine Ad.same ⟨trivial,Ac rfl,Ac rfl,trivial⟩ rfl ?_|refine Ad.same ⟨trivial,Ac rfl,Ac rfl,Ac rfl,trivial⟩ rfl ?_|refine Ad.same ⟨trivial,trivial⟩ rfl ?_|refine Ad.cons trivial rfl (.of_eq (Ar (by simp<;>omega))) ?_)
   ·rw [e1]
    repeat (first|exact Aj.nil|(refine Aj.cons (Ac rfl) ?_ rfl ?_ ?_;(first|exact HB.Ak rfl|exact AU.Ah _ _|(simp [HB.under,AU.under,PV.under]));(first|exact Bl.refl _|exact Bl.vec (Bh.refl _) (by simp))))
 ·rw [jq]
  repeat' (first|(refine Ag.IC 4 ?_;refine Ag.ghost (Ba.freeze 41 rfl rfl) ?_)|apply Ae.assoc|apply Ae.AA|apply Ae.AY|apply AO.normal|apply AL.exit|apply Aw.exit|apply Ae.ret|apply Ag.nil|apply Ag.one|(apply Aa.assign;rfl)|(apply Aa.move;rfl)|(apply Aa.int;rfl;rfl;rfl)|(apply Aa.BI;rfl;rfl)|(apply Ae.Af;rfl)|(intro _;try (exfalso;omega)))
  all_goals first|(exfalso;omega)|(refine Done.ret rfl (.refl _) (by first|exact trivial|exact ⟨trivial,trivial,trivial⟩|exact ⟨trivial,trivial,trivial,trivial⟩) Aj.nil (Nat.zero_le _) (Nat.le_refl _) ⟨?_,rfl,rfl⟩;try rfl)
theorem WO (o:EP) (ho:I9 o) (p:Pv) (hp:Hg o p):AX env 32 [.agg (Enc.enc o),.agg (Enc.enc p)] (st (MG o p)):=by
 obtain ⟨g1,g2⟩:=ho.sto hp
 obtain ⟨h1,h2⟩:=hp
 have hs1:=ho.stops p.d h1
 unfold MG
 obtain ⟨s,hs⟩:∃ s,s=EU o p:=⟨_,rfl⟩
 have hs':gi (gi o.Au p.d).stops p.s=s:=hs.symm
 rw [← hs] at g1 g2 ⊢
 have b1:=ho.sm.ranks
 refine AX.enter (AB (by decide)) Tryz.func32 rfl (by kernel_rfl) (by simp [Tryz.ntmps32]) ?_
 repeat' (first|apply Ae.assoc|apply Ae.AA|apply Ae.BF|apply Ae.Ai|apply Ag.nil|apply Ap.nil|apply Ag.one|(apply Ap.bar;decide +kernel)|apply Ap.quiet|(apply Aa.AP (l:=o.Au) (i:=p.d);rfl;rfl;rfl;exact h1;rfl)|(apply Aa.AP (l:=(gi o.Au p.d).stops) (i:=p.s);rfl;rfl;rfl;exact h2;rfl)|(apply Aa.assign;rfl)|(apply Aa.load;rfl;rfl)|(apply Aa.AQ;rfl;rfl;rfl)|(apply Aa.Dw;rfl;rfl)|(apply Aa.box;rfl;trivial)|(apply Aa.alloc;rfl)|(apply Aa.Bo;rfl;rfl;rfl;trivial;rfl;rfl;exact Ac rfl;exact le_dec rfl))
 all_goals try (exfalso;omega)
 rw [hs']
 apply Ae.GU (s.Et.length) (fun k=>P8 o.ranks s s.Et.length (s.Et.length-k)=WS o.ranks s) [(2,_),(5,_)] [(0,_),(2,_)] (fun k r=>(6,.p (.int .i64 (k:Int)))::r) (fun k r=>r) 3
 ·first|omega|decide
 ·first|omega|decide
 ·repeat (first|exact Ad.nil|(refine Ad.eq rfl ?_ ?_;(first|exact PV.Ak rfl|(simp [PV.under,AU.under];done)))|refine Ad.cons trivial rfl (.of_eq (Ar (by simp<;>omega))) ?_)
 ·repeat (first|exact Aj.nil|(refine Aj.eq rfl (Ac rfl) ?_ ?_;(first|exact HB.Ak rfl|exact AU.Ah _ _|(simp [HB.under,AU.under,PV.under];done)))|(refine Aj.cons (Ac rfl) ?_ rfl ?_ ?_;(first|exact trivial|exact AU.Ah _ _|(simp [HB.under,AU.under,PV.under]));(first|exact Bl.refl _|exact Bl.vec (Bh.refl _) (by simp))))
 ·first|(intro _ _;omega)|omega|trivial
 ·intro k hk hi
  obtain ⟨g3,g4⟩:=g2 k hk
  by_cases h0:(gi s.Et k).draws.length=0
  ·repeat' (first|apply Ae.assoc|apply Ae.AA|apply Ae.region|apply Ae.Aq|apply Ae.Ai|apply AO.normal|apply AL.normal|apply Ae.skip|apply Ag.nil|apply Ag.one|(apply Aa.assign;rfl)|(apply Aa.move;rfl)|(apply Aa.Bv;rfl;rfl;omega)|(apply Aa.int;rfl;rfl;rfl)|(apply Aa.AP;rfl;rfl;rfl;omega;rfl)|(apply Aa.load;rfl;rfl)|(apply Aa.BI;rfl;rfl)|(apply Aa.AQ;rfl;rfl;rfl)|(apply Aa.Dw;rfl;rfl)|(apply Ae.Af;rfl)|(apply Ae.AZ;rfl)|(intro _;try (exfalso;omega)))
   all_goals try (exfalso;omega)
   refine Aw.normal ⟨((V6 hk h0).symm.trans hi),by first|omega|decide,?_,?_⟩
   ·repeat (first|exact Ad.nil|refine Ad.same trivial rfl ?_|refine Ad.same (Ac rfl) rfl ?_|refine Ad.same ⟨trivial,Ac rfl,trivial⟩ rfl ?_|refine Ad.same ⟨trivial,Ac rfl,Ac rfl,trivial⟩ rfl ?_|refine Ad.same ⟨trivial,Ac rfl,Ac rfl,Ac rfl,trivial⟩ rfl ?_|refine Ad.same ⟨trivial,trivial⟩ rfl ?_|refine Ad.cons trivial rfl (.of_eq (Ar (by simp<;>omega))) ?_)
   ·repeat (first|exact Aj.nil|(refine Aj.cons (Ac rfl) ?_ rfl ?_ ?_;(first|exact HB.Ak rfl|exact AU.Ah _ _|(simp [HB.under,AU.under,PV.under]));(first|exact Bl.refl _|exact Bl.vec (Bh.refl _) (by simp))))
  ·have g5:=g4 0 (by omega)
   obtain ⟨rn,hrn⟩:∃ rn:Nat,(gi (gi s.Et k).draws 0).rank=rn:=⟨_,(Int.toNat_of_nonneg g5.1).symm⟩
   have h1:WS o.ranks s=(gi o.ranks rn).Eu:=by
    rw [← hi,XL hk (by omega),hrn];rfl
   rw [h1]
   repeat' (first|apply Ae.assoc|apply Ae.AA|apply Ae.BF|apply Ae.Aq|apply Ae.Ai|apply AO.ret|apply AL.ret|apply Aw.ret|apply Ae.ret|apply Ag.nil|apply Ap.nil|apply Ag.one|(apply Ap.bar;decide +kernel)|apply Ap.quiet|(apply Aa.AP (l:=o.ranks) (i:=rn);rfl;(first|exact congrArg (fun a=>some (PV.p (.int .i64 a))) hrn|rfl);rfl;omega;rfl)|(apply Aa.assign;rfl)|(apply Aa.move;rfl)|(apply Aa.int;rfl;rfl;rfl)|(apply Aa.AP;rfl;rfl;rfl;omega;rfl)|(apply Aa.WY;rfl;rfl;rfl;omega;omega;rfl)|(apply Aa.load;rfl;rfl)|(apply Aa.BI;rfl;rfl)|(apply Aa.AQ;rfl;rfl;rfl)|(apply Aa.Dw;rfl;rfl)|(apply Ae.Af;rfl)|(apply Ae.AZ;rfl)|(intro _;try (exfalso;omega)))
   all_goals first|(exfalso;omega)|(refine Done.ret rfl (.refl _) (by first|exact trivial|exact ⟨trivial,trivial,trivial⟩|exact ⟨trivial,trivial,trivial,trivial⟩) Aj.nil (Nat.zero_le _) (Nat.le_refl _) ⟨?_,rfl,rfl⟩;try rfl)
 ·intro hi
  have h1:WS o.ranks s=[]:=by rw [← hi,Nat.sub_self];rfl
  rw [h1]
  repeat' (first|apply Ae.assoc|apply Ae.AA|apply Ae.AY|apply AO.normal|apply AL.exit|apply Aw.exit|apply Ae.ret|apply Ag.nil|apply Ag.one|(apply Aa.assign;rfl)|(apply Aa.move;rfl)|(apply Aa.int;rfl;rfl;rfl)|(apply Aa.load;rfl;rfl)|(apply Aa.BI;rfl;rfl)|(apply Aa.AQ;rfl;rfl;rfl)|(apply Ae.Af;rfl)|(intro _;try (exfalso;omega)))
  all_goals first|(exfalso;omega)|(refine Done.ret rfl (.refl _) (by first|exact trivial|exact ⟨trivial,trivial,trivial⟩|exact ⟨trivial,trivial,trivial,trivial⟩) Aj.nil (Nat.zero_le _) (Nat.le_refl _) ⟨?_,rfl,rfl⟩;try rfl)
def mX (F T:EP) (a b:Pv):Int:=(BX (EU F a).Dq (EU T b).Dq).1
def ShS (F T:EP):Prop:=∀ a b,Hg F a→Hg T b→-1000≤mX F T a b∧mX F T a b≤1000∧max (mX F T a b) (-mX F T a b)=max (pR F T a b) (-pR F T a b)
theorem Zd (q:SA) (k1:I9 q.Bz) (k2:I9 q.tgt) (hw:MH q.D5) (hs:ShS q.Bz q.tgt) (hr:q.reg.Ok) (hl:q.reg.stops.length=q.Bz.Au.length) :
 AX env 16 [.agg (Enc.enc q)] (.p (.lst 52 (cells (Kq q.Bz q.tgt q.reg q.D5)) (Kq q.Bz q.tgt q.reg q.D5).length)):=by
 have hdr:=bH q.Bz k1 q.reg hr hl
 have hst:=SY q.tgt k2
 have b1:=EJ k2
 have b2:(Bc q.Bz q.reg).length≤480:=by
  have:=EJ k1
  have:(Bc q.Bz q.reg).length≤(BG q.Bz).length:=List.length_filter_le _ _
  omega
 obtain ⟨t,_,p,_⟩:=NJ hw
 refine AX.enter (AB (by decide)) Tryz.func16 rfl (by kernel_rfl) (by simp [Tryz.ntmps16]) ?_
 repeat' (first|apply Ae.assoc|apply Ae.AA|apply Ae.BF|apply Ae.Ai|apply Ag.nil|apply Ap.nil|apply Ag.one|(apply Ap.bar;decide +kernel)|apply Ap.quiet|(apply Aa.fn;rfl;rfl;exact hdr;intro _;rfl)|(apply Aa.fn;rfl;rfl;exact hst;intro _;rfl)|(apply Aa.assign;rfl)|(apply Aa.load;rfl;rfl)|(apply Aa.AQ;rfl;rfl;rfl)|(apply Aa.box;rfl;trivial))
 all_goals try (exfalso;omega)
 refine Ae.ghost (Ba.adopt 5 52 rfl) ?_
 apply Ae.EX ((Bc q.Bz q.reg).length) [(1,_),(3,_),(4,_)] [(0,_)] (fun k r=>(5,.vec 1 (FP q.Bz q.tgt q.reg q.D5 k).length 0 (FP q.Bz q.tgt q.reg q.D5 k).length)::(6,.p (.int .i64 (k:Int)))::r) (fun k r=>(1,.vec 52 (cells (FP q.Bz q.tgt q.reg q.D5 k)) (FP q.Bz q.tgt q.reg q.D5 k).length true)::r) 2
 ·first|omega|decide
 ·first|omega|decide
 ·repeat (first|exact Ad.nil|(refine Ad.eq rfl ?_ ?_;(first|exact PV.Ak rfl|(simp [PV.under,AU.under];done)))|refine Ad.cons trivial rfl (.of_eq (Ar (by simp<;>omega))) ?_)
 ·repeat (first|exact Aj.nil|(refine Aj.eq rfl (Ac rfl) ?_ ?_;(first|exact HB.Ak rfl|exact AU.Ah _ _|(simp [HB.under,AU.under,PV.under];done)))|(refine Aj.cons (Ac rfl) ?_ rfl ?_ ?_;(first|exact trivial|exact AU.Ah _ _|(simp [HB.under,AU.under,PV.under]));(first|exact Bl.refl _|exact Bl.vec (Bh.refl _) (by simp))))
 ·intro k hk
  have ha:Hg q.Bz (gi (Bc q.Bz q.reg) k):=Rx (Zc hk)
  have e1:=Vj q.Bz q.tgt q.reg q.D5 hk
  have e2:(FP q.Bz q.tgt q.reg q.D5 (k+1)).length=(FP q.Bz q.tgt q.reg q.D5 k).length+1:=by rw [e1];simp
  have e3:=X9 q.Bz q.tgt q.reg q.D5 (Nat.le_of_lt hk)
  have ht1:=WO q.Bz k1 _ ha
  repeat' (first|apply Ae.assoc|apply Ae.AA|apply Ae.BF|apply Ae.Aq|apply Ae.Ai|apply Ag.nil|apply Ap.nil|apply Ag.one|(apply Ap.bar;decide +kernel)|apply Ap.quiet|(apply Aa.AP (l:=q.Bz.Au) (i:=(gi (Bc q.Bz q.reg) k).d);rfl;rfl;rfl;exact ha.1;rfl)|(apply Aa.assign;rfl)|(apply Aa.move;rfl)|(apply Aa.int;rfl;rfl;rfl)|(apply Aa.AP;rfl;rfl;rfl;omega;rfl)|(apply Aa.load;rfl;rfl)|(apply Aa.BI;rfl;rfl)|(apply Aa.AQ;rfl;rfl;rfl)|(apply Aa.Dw;rfl;rfl)|(apply Aa.alloc;rfl)|(apply Aa.Bo;rfl;rfl;rfl;trivial;rfl;rfl;exact Ac rfl;exact le_dec rfl)|(apply Ae.Af;rfl)|(intro _;try (exfalso;omega)))
  all_goals try (exfalso;omega)
  refine Ae.ghost (Ba.adopt 7 3 rfl) ?_
  apply Ae.EX ((BG q.tgt).length) [(1,_),(3,_),(4,_),(5,_),(6,_),(8,_)] [(0,_),(1,_),(2,_)] (fun k_ r=>(7,.vec 3 (JZ q.Bz q.tgt q.D5 (gi (Bc q.Bz q.reg) k) k_).length 0 (JZ q.Bz q.tgt q.D5 (gi (Bc q.Bz q.reg) k) k_).length)::(9,.p (.int .i64 (k_:Int)))::r) (fun k_ r=>(3,.vec 3 (cells (JZ q.Bz q.tgt q.D5 (gi (Bc q.Bz q.reg) k) k_)) (JZ q.Bz q.tgt q.D5 (gi (Bc q.Bz q.reg) k) k_).length true)::r) 4
  ·first|omega|decide
  ·first|omega|decide
  ·repeat (first|exact Ad.nil|(refine Ad.eq rfl ?_ ?_;(first|exact PV.Ak rfl|(simp [PV.under,AU.under];done)))|refine Ad.cons trivial rfl (.of_eq (Ar (by simp<;>omega))) ?_)
  ·repeat (first|exact Aj.nil|(refine Aj.eq rfl (Ac rfl) ?_ ?_;(first|exact HB.Ak rfl|exact AU.Ah _ _|(simp [HB.under,AU.under,PV.under];done)))|(refine Aj.cons (Ac rfl) ?_ rfl ?_ ?_;(first|exact trivial|exact AU.Ah _ _|(simp [HB.under,AU.under,PV.under]));(first|exact Bl.refl _|exact Bl.vec (Bh.refl _) (by simp))))
  ·intro j hj
   have hb:Hg q.tgt (gi (BG q.tgt) j):=QC hj
   have ht2:=WO q.tgt k2 _ hb
   have f1:=XQ q.Bz q.tgt q.D5 (gi (Bc q.Bz q.reg) k) hj
   have f2:(JZ q.Bz q.tgt q.D5 (gi (Bc q.Bz q.reg) k) (j+1)).length=(JZ q.Bz q.tgt q.D5 (gi (Bc q.Bz q.reg) k) j).length+1:=by rw [f1];simp
   have f3:=Qq q.Bz q.tgt q.D5 (gi (Bc q.Bz q.reg) k) (Nat.le_of_lt hj)
   obtain ⟨s1,s2,s3⟩:=hs _ _ ha hb
   have hsh:=J3 (EU q.Bz (gi (Bc q.Bz q.reg) k)).Dq (EU q.tgt (gi (BG q.tgt) j)).Dq
   have hP:=MN hw s1 s2
   have hmul:-9223372036854775808≤q.D5.FB*max (mX q.Bz q.tgt (gi (Bc q.Bz q.reg) k) (gi (BG q.tgt) j)) (-mX q.Bz q.tgt (gi (Bc q.Bz q.reg) k) (gi (BG q.tgt) j))∧q.D5.FB*max (mX q.Bz q.tgt (gi (Bc q.Bz q.reg) k) (gi (BG q.tgt) j)) (-mX q.Bz q.tgt (gi (Bc q.Bz q.reg) k) (gi (BG q.tgt) j))<9223372036854775808:=by omega
   have hV:I4 q.Bz q.tgt q.D5 (gi (Bc q.Bz q.reg) k) (gi (BG q.tgt) j)=(if MG q.Bz (gi (Bc q.Bz q.reg) k)=MG q.tgt (gi (BG q.tgt) j) then 0 else q.D5.Eu)+q.D5.FB*max (mX q.Bz q.tgt (gi (Bc q.Bz q.reg) k) (gi (BG q.tgt) j)) (-mX q.Bz q.tgt (gi (Bc q.Bz q.reg) k) (gi (BG q.tgt) j))+(if (gi q.Bz.Au (gi (Bc q.Bz q.reg) k).d).Dj=(gi q.tgt.Au (gi (BG q.tgt) j).d).Dj then 0 else q.D5.Dj):=by
    unfold I4;rw [s3]
   rw [show (BX (EU q.Bz (gi (Bc q.Bz q.reg) k)).Dq (EU q.tgt (gi (BG q.tgt) j)).Dq).1=mX q.Bz q.tgt (gi (Bc q.Bz q.reg) k) (gi (BG q.tgt) j) from rfl] at hsh
   generalize hn:mX q.Bz q.tgt (gi (Bc q.Bz q.reg) k) (gi (BG q.tgt) j)=n at *
   by_cases c1:MG q.Bz (gi (Bc q.Bz q.reg) k)=MG q.tgt (gi (BG q.tgt) j)
   ·rw [if_pos c1] at hV
    have d1:=decide_eq_true c1
    by_cases c2:(gi q.Bz.Au (gi (Bc q.Bz q.reg) k).d).Dj=(gi q.tgt.Au (gi (BG q.tgt) j).d).Dj
    ·rw [if_pos c2] at hV
     have d2:((gi q.Bz.Au (gi (Bc q.Bz q.reg) k).d).Dj != (gi q.tgt.Au (gi (BG q.tgt) j).d).Dj)=false:=by rw [c2];simp
     have hval:I4 q.Bz q.tgt q.D5 (gi (Bc q.Bz q.reg) k) (gi (BG q.tgt) j)=q.D5.FB*max n (-n):=by omega
     repeat' (first|apply Ae.assoc|apply Ae.AA|apply Ae.BF|apply Ae.region|apply Ae.Aq|apply Ae.Ai|apply AO.normal|apply AL.normal|apply Ag.nil|apply Ap.nil|apply Ag.one|(apply Ap.bar;decide +kernel)|apply Ap.quiet|(apply Aa.fn;rfl;rfl;exact hsh;intro _;rfl)|(apply Aa.fn;rfl;rfl;exact ht1;intro _;rfl)|(apply Aa.fn;rfl;rfl;exact ht2;intro _;rfl)|(apply Aa.Dl (a:=q.D5.FB*max n (-n));rfl;rfl;rfl;rfl;rfl;rfl;rfl;rfl;(intro _ h;cases h);rfl;rfl;rfl;decide;decide;(first|omega|(simp only [List.length_take,List.length_drop,List.length_append,List.length_singleton,List.length_cons,List.length_nil]<;>omega)))|(apply Aa.bQ;rfl;rfl;exact d1)|(apply Aa.dH;rfl;rfl;rfl;exact d2)|(apply Aa.Ij;rfl;rfl;exact hmul)|(apply Aa.AP (l:=q.tgt.Au) (i:=(gi (BG q.tgt) j).d);rfl;rfl;rfl;exact hb.1;rfl)|(apply Aa.AP (l:=(gi q.Bz.Au (gi (Bc q.Bz q.reg) k).d).stops) (i:=(gi (Bc q.Bz q.reg) k).s);rfl;rfl;rfl;exact ha.2;rfl)|(apply Aa.AP (l:=(gi q.tgt.Au (gi (BG q.tgt) j).d).stops) (i:=(gi (BG q.tgt) j).s);rfl;rfl;rfl;exact hb.2;rfl)|(apply Aa.assign;rfl)|(apply Aa.move;rfl)|(apply Aa.Bv;rfl;rfl;omega)|(apply Aa.int;rfl;rfl;rfl)|(apply Aa.AP;rfl;rfl;rfl;omega;rfl)|(apply Aa.load;rfl;rfl)|(apply Aa.BI;rfl;rfl)|(apply Aa.AQ;rfl;rfl;rfl)|(apply Aa.Dw;rfl;rfl)|(apply Aa.alloc;rfl)|(apply Aa.Bo;rfl;rfl;rfl;trivial;rfl;rfl;exact Ac rfl;exact le_dec rfl)|(apply Aa.buildSlice;rfl;rfl;rfl;decide;rfl;rfl;rfl)|(apply Aa.neg;rfl;omega)|(apply Aa.Xl;rfl;rfl)|(apply Aa.extract;rfl;rfl)|(apply Ae.Az;rfl)|(apply Ae.Af;rfl)|(intro _;try (exfalso;omega)))
     all_goals try (exfalso;omega)
     refine Aw.normal ⟨by omega,?_,?_⟩
     ·rw [f2]
      repeat (first|exact Ad.nil|refine Ad.same trivial rfl ?_|refine Ad.same (Ac rfl) rfl ?_|refine Ad.same ⟨trivial,Ac rfl,trivial⟩ rfl ?_|refine Ad.same ⟨trivial,Ac rfl,Ac rfl,trivial⟩ rfl ?_|refine Ad.same ⟨trivial,Ac rfl,Ac rfl,Ac rfl,trivial⟩ rfl ?_|refine Ad.same ⟨trivial,trivial⟩ rfl ?_|refine Ad.cons trivial rfl (.of_eq (Ar (by simp<;>omega))) ?_)
     ·rw [f2,f1,hval]
      repeat (first|exact Aj.nil|(refine Aj.cons (Ac rfl) ?_ rfl ?_ ?_;(first|exact HB.Ak rfl|exact AU.Ah _ _|(simp [HB.under,AU.under,PV.under]));(first|exact Bl.refl _|exact Bl.vec (Bh.refl _) (by simp))))
    ·rw [if_neg c2] at hV
     have d2:((gi q.Bz.Au (gi (Bc q.Bz q.reg) k).d).Dj != (gi q.tgt.Au (gi (BG q.tgt) j).d).Dj)=true:=by simp [c2]
     have hval:I4 q.Bz q.tgt q.D5 (gi (Bc q.Bz q.reg) k) (gi (BG q.tgt) j)=q.D5.FB*max n (-n)+q.D5.Dj:=by omega
     repeat' (first|apply Ae.assoc|apply Ae.AA|apply Ae.BF|apply Ae.region|apply Ae.Aq|apply Ae.Ai|apply AO.normal|apply AL.normal|apply Ag.nil|apply Ap.nil|apply Ag.one|(apply Ap.bar;decide +kernel)|apply Ap.quiet|(apply Aa.fn;rfl;rfl;exact hsh;intro _;rfl)|(apply Aa.fn;rfl;rfl;exact ht1;intro _;rfl)|(apply Aa.fn;rfl;rfl;exact ht2;intro _;rfl)|(apply Aa.Dl (a:=q.D5.FB*max n (-n)+q.D5.Dj);rfl;rfl;rfl;rfl;rfl;rfl;rfl;rfl;(intro _ h;cases h);rfl;rfl;rfl;decide;decide;(first|omega|(simp only [List.length_take,List.length_drop,List.length_append,List.length_singleton,List.length_cons,List.length_nil]<;>omega)))|(apply Aa.bQ;rfl;rfl;exact d1)|(apply Aa.dH;rfl;rfl;rfl;exact d2)|(apply Aa.Ij;rfl;rfl;exact hmul)|(apply Aa.AP (l:=q.tgt.Au) (i:=(gi (BG q.tgt) j).d);rfl;rfl;rfl;exact hb.1;rfl)|(apply Aa.AP (l:=(gi q.Bz.Au (gi (Bc q.Bz q.reg) k).d).stops) (i:=(gi (Bc q.Bz q.reg) k).s);rfl;rfl;rfl;exact ha.2;rfl)|(apply Aa.AP (l:=(gi q.tgt.Au (gi (BG q.tgt) j).d).stops) (i:=(gi (BG q.tgt) j).s);rfl;rfl;rfl;exact hb.2;rfl)|(apply Aa.assign;rfl)|(apply Aa.move;rfl)|(apply Aa.Bv;rfl;rfl;omega)|(apply Aa.int;rfl;rfl;rfl)|(apply Aa.AP;rfl;rfl;rfl;omega;rfl)|(apply Aa.load;rfl;rfl)|(apply Aa.BI;rfl;rfl)|(apply Aa.AQ;rfl;rfl;rfl)|(apply Aa.Dw;rfl;rfl)|(apply Aa.alloc;rfl)|(apply Aa.Bo;rfl;rfl;rfl;trivial;rfl;rfl;exact Ac rfl;exact le_dec rfl)|(apply Aa.buildSlice;rfl;rfl;rfl;decide;rfl;rfl;rfl)|(apply Aa.neg;rfl;omega)|(apply Aa.Xl;rfl;rfl)|(apply Aa.extract;rfl;rfl)|(apply Ae.Bg;rfl)|(apply Ae.Az;rfl)|(apply Ae.Af;rfl)|(intro _;try (exfalso;omega)))
     all_goals try (exfalso;omega)
     refine Aw.normal ⟨by omega,?_,?_⟩
     ·rw [f2]
      repeat (first|exact Ad.nil|refine Ad.same trivial rfl ?_|refine Ad.same (Ac rfl) rfl ?_|refine Ad.same ⟨trivial,Ac rfl,trivial⟩ rfl ?_|refine Ad.same ⟨trivial,Ac rfl,Ac rfl,trivial⟩ rfl ?_|refine Ad.same ⟨trivial,Ac rfl,Ac rfl,Ac rfl,trivial⟩ rfl ?_|refine Ad.same ⟨trivial,trivial⟩ rfl ?_|refine Ad.cons trivial rfl (.of_eq (Ar (by simp<;>omega))) ?_)
     ·rw [f2,f1,hval]
      repeat (first|exact Aj.nil|(refine Aj.cons (Ac rfl) ?_ rfl ?_ ?_;(first|exact HB.Ak rfl|exact AU.Ah _ _|(simp [HB.under,AU.under,PV.under]));(first|exact Bl.refl _|exact Bl.vec (Bh.refl _) (by simp))))
   ·rw [if_neg c1] at hV
    have d1:=decide_eq_false c1
    by_cases c2:(gi q.Bz.Au (gi (Bc q.Bz q.reg) k).d).Dj=(gi q.tgt.Au (gi (BG q.tgt) j).d).Dj
    ·rw [if_pos c2] at hV
     have d2:((gi q.Bz.Au (gi (Bc q.Bz q.reg) k).d).Dj != (gi q.tgt.Au (gi (BG q.tgt) j).d).Dj)=false:=by rw [c2];simp
     have hval:I4 q.Bz q.tgt q.D5 (gi (Bc q.Bz q.reg) k) (gi (BG q.tgt) j)=q.D5.FB*max n (-n)+q.D5.Eu:=by omega
     repeat' (first|apply Ae.assoc|apply Ae.AA|apply Ae.BF|apply Ae.region|apply Ae.Aq|apply Ae.Ai|apply AO.normal|apply AL.normal|apply Ag.nil|apply Ap.nil|apply Ag.one|(apply Ap.bar;decide +kernel)|apply Ap.quiet|(apply Aa.fn;rfl;rfl;exact hsh;intro _;rfl)|(apply Aa.fn;rfl;rfl;exact ht1;intro _;rfl)|(apply Aa.fn;rfl;rfl;exact ht2;intro _;rfl)|(apply Aa.Dl (a:=q.D5.FB*max n (-n)+q.D5.Eu);rfl;rfl;rfl;rfl;rfl;rfl;rfl;rfl;(intro _ h;cases h);rfl;rfl;rfl;decide;decide;(first|omega|(simp only [List.length_take,List.length_drop,List.length_append,List.length_singleton,List.length_cons,List.length_nil]<;>omega)))|(apply Aa.bQ;rfl;rfl;exact d1)|(apply Aa.dH;rfl;rfl;rfl;exact d2)|(apply Aa.Ij;rfl;rfl;exact hmul)|(apply Aa.AP (l:=q.tgt.Au) (i:=(gi (BG q.tgt) j).d);rfl;rfl;rfl;exact hb.1;rfl)|(apply Aa.AP (l:=(gi q.Bz.Au (gi (Bc q.Bz q.reg) k).d).stops) (i:=(gi (Bc q.Bz q.reg) k).s);rfl;rfl;rfl;exact ha.2;rfl)|(apply Aa.AP (l:=(gi q.tgt.Au (gi (BG q.tgt) j).d).stops) (i:=(gi (BG q.tgt) j).s);rfl;rfl;rfl;exact hb.2;rfl)|(apply Aa.assign;rfl)|(apply Aa.move;rfl)|(apply Aa.Bv;rfl;rfl;omega)|(apply Aa.int;rfl;rfl;rfl)|(apply Aa.AP;rfl;rfl;rfl;omega;rfl)|(apply Aa.load;rfl;rfl)|(apply Aa.BI;rfl;rfl)|(apply Aa.AQ;rfl;rfl;rfl)|(apply Aa.Dw;rfl;rfl)|(apply Aa.alloc;rfl)|(apply Aa.Bo;rfl;rfl;rfl;trivial;rfl;rfl;exact Ac rfl;exact le_dec rfl)|(apply Aa.buildSlice;rfl;rfl;rfl;decide;rfl;rfl;rfl)|(apply Aa.neg;rfl;omega)|(apply Aa.Xl;rfl;rfl)|(apply Aa.extract;rfl;rfl)|(apply Ae.Bg;rfl)|(apply Ae.Az;rfl)|(apply Ae.Af;rfl)|(intro _;try (exfalso;omega)))
     all_goals try (exfalso;omega)
     refine Aw.normal ⟨by omega,?_,?_⟩
     ·rw [f2]
      repeat (first|exact Ad.nil|refine Ad.same trivial rfl ?_|refine Ad.same (Ac rfl) rfl ?_|refine Ad.same ⟨trivial,Ac rfl,trivial⟩ rfl ?_|refine Ad.same ⟨trivial,Ac rfl,Ac rfl,trivial⟩ rfl ?_|refine Ad.same ⟨trivial,Ac rfl,Ac rfl,Ac rfl,trivial⟩ rfl ?_|refine Ad.same ⟨trivial,trivial⟩ rfl ?_|refine Ad.cons trivial rfl (.of_eq (Ar (by simp<;>omega))) ?_)
     ·rw [f2,f1,hval]
      repeat (first|exact Aj.nil|(refine Aj.cons (Ac rfl) ?_ rfl ?_ ?_;(first|exact HB.Ak rfl|exact AU.Ah _ _|(simp [HB.under,AU.under,PV.under]));(first|exact Bl.refl _|exact Bl.vec (Bh.refl _) (by simp))))
    ·rw [if_neg c2] at hV
     have d2:((gi q.Bz.Au (gi (Bc q.Bz q.reg) k).d).Dj != (gi q.tgt.Au (gi (BG q.tgt) j).d).Dj)=true:=by simp [c2]
     have hval:I4 q.Bz q.tgt q.D5 (gi (Bc q.Bz q.reg) k) (gi (BG q.tgt) j)=q.D5.FB*max n (-n)+q.D5.Eu+q.D5.Dj:=by omega
     repeat' (first|apply Ae.assoc|apply Ae.AA|apply Ae.BF|apply Ae.region|apply Ae.Aq|apply Ae.Ai|apply AO.normal|apply AL.normal|apply Ag.nil|apply Ap.nil|apply Ag.one|(apply Ap.bar;decide +kernel)|apply Ap.quiet|(apply Aa.fn;rfl;rfl;exact hsh;intro _;rfl)|(apply Aa.fn;rfl;rfl;exact ht1;intro _;rfl)|(apply Aa.fn;rfl;rfl;exact ht2;intro _;rfl)|(apply Aa.Dl (a:=q.D5.FB*max n (-n)+q.D5.Eu+q.D5.Dj);rfl;rfl;rfl;rfl;rfl;rfl;rfl;rfl;(intro _ h;cases h);rfl;rfl;rfl;decide;decide;(first|omega|(simp only [List.length_take,List.length_drop,List.length_append,List.length_singleton,List.length_cons,List.length_nil]<;>omega)))|(apply Aa.bQ;rfl;rfl;exact d1)|(apply Aa.dH;rfl;rfl;rfl;exact d2)|(apply Aa.Ij;rfl;rfl;exact hmul)|(apply Aa.AP (l:=q.tgt.Au) (i:=(gi (BG q.tgt) j).d);rfl;rfl;rfl;exact hb.1;rfl)|(apply Aa.AP (l:=(gi q.Bz.Au (gi (Bc q.Bz q.reg) k).d).stops) (i:=(gi (Bc q.Bz q.reg) k).s);rfl;rfl;rfl;exact ha.2;rfl)|(apply Aa.AP (l:=(gi q.tgt.Au (gi (BG q.tgt) j).d).stops) (i:=(gi (BG q.tgt) j).s);rfl;rfl;rfl;exact hb.2;rfl)|(apply Aa.assign;rfl)|(apply Aa.move;rfl)|(apply Aa.Bv;rfl;rfl;omega)|(apply Aa.int;rfl;rfl;rfl)|(apply Aa.AP;rfl;rfl;rfl;omega;rfl)|(apply Aa.load;rfl;rfl)|(apply Aa.BI;rfl;rfl)|(apply Aa.AQ;rfl;rfl;rfl)|(apply Aa.Dw;rfl;rfl)|(apply Aa.alloc;rfl)|(apply Aa.Bo;rfl;rfl;rfl;trivial;rfl;rfl;exact Ac rfl;exact le_dec rfl)|(apply Aa.buildSlice;rfl;rfl;rfl;decide;rfl;rfl;rfl)|(apply Aa.neg;rfl;omega)|(apply Aa.Xl;rfl;rfl)|(apply Aa.extract;rfl;rfl)|(apply Ae.Bg;rfl)|(apply Ae.Af;rfl)|(intro _;try (exfalso;omega)))
     all_goals try (exfalso;omega)
     refine Aw.normal ⟨by omega,?_,?_⟩
     ·rw [f2]
      repeat (first|exact Ad.nil|refine Ad.same trivial rfl ?_|refine Ad.same (Ac rfl) rfl ?_|refine Ad.same ⟨trivial,Ac rfl,trivial⟩ rfl ?_|refine Ad.same ⟨trivial,Ac rfl,Ac rfl,trivial⟩ rfl ?_|refine Ad.same ⟨trivial,Ac rfl,Ac rfl,Ac rfl,trivial⟩ rfl ?_|refine Ad.same ⟨trivial,trivial⟩ rfl ?_|refine Ad.cons trivial rfl (.of_eq (Ar (by simp<;>omega))) ?_)
     ·rw [f2,f1,hval]
      repeat (first|exact Aj.nil|(refine Aj.cons (Ac rfl) ?_ rfl ?_ ?_;(first|exact HB.Ak rfl|exact AU.Ah _ _|(simp [HB.under,AU.under,PV.under]));(first|exact Bl.refl _|exact Bl.vec (Bh.refl _) (by simp))))
  ·have f3:=Qq q.Bz q.tgt q.D5 (gi (Bc q.Bz q.reg) k) (Nat.le_refl (BG q.tgt).length)
   repeat' (first|(refine Ag.IC 122 ?_;refine Ag.ghost (Ba.freeze 121 rfl rfl) ?_)|apply Ae.assoc|apply Ae.AA|apply Ae.region|apply Ae.AY|apply AO.normal|apply AL.normal|apply AL.exit|apply Aw.exit|apply Ag.nil|apply Ag.one|(apply Aa.Dl (a:=JZ q.Bz q.tgt q.D5 (gi (Bc q.Bz q.reg) k) (BG q.tgt).length);rfl;rfl;rfl;rfl;rfl;rfl;rfl;rfl;(intro _ h;cases h);rfl;rfl;rfl;decide;decide;(first|omega|(simp only [List.length_take,List.length_drop,List.length_append,List.length_singleton,List.length_cons,List.length_nil]<;>omega)))|(apply Aa.assign;rfl)|(apply Aa.move;rfl)|(apply Aa.Bv;rfl;rfl;omega)|(apply Aa.int;rfl;rfl;rfl)|(apply Aa.BI;rfl;rfl)|(apply Aa.buildSlice;rfl;rfl;rfl;decide;rfl;rfl;rfl)|(apply Ae.Af;rfl)|(intro _;try (exfalso;omega)))
   all_goals try (exfalso;omega)
   refine Aw.normal ⟨by omega,?_,?_⟩
   ·rw [e2]
    repeat (first|exact Ad.nil|refine Ad.same trivial rfl ?_|refine Ad.same (Ac rfl) rfl ?_|refine Ad.same ⟨trivial,Ac rfl,trivial⟩ rfl ?_|refine Ad.same ⟨trivial,Ac rfl,Ac rfl,trivial⟩ rfl ?_|refine Ad.same ⟨trivial,Ac rfl,Ac rfl,Ac rfl,trivial⟩ rfl ?_|refine Ad.same ⟨trivial,trivial⟩ rfl ?_|refine Ad.cons trivial rfl (.of_eq (Ar (by simp<;>omega))) ?_)
   ·rw [e2,e1]
    repeat (first|exact Aj.nil|(refine Aj.cons (Ac rfl) ?_ rfl ?_ ?_;(first|exact HB.Ak rfl|exact AU.Ah _ _|(simp [HB.under,AU.under,PV.under]));(first|exact Bl.refl _|exact Bl.vec (Bh.refl _) (by simp))))
 ·rw [Yl]
  repeat' (first|(refine Ag.IC 2 ?_;refine Ag.ghost (Ba.freeze 124 rfl rfl) ?_)|apply Ae.assoc|apply Ae.AA|apply Ae.AY|apply AO.normal|apply AL.exit|apply Aw.exit|apply Ae.ret|apply Ag.nil|apply Ag.one|(apply Aa.assign;rfl)|(apply Aa.move;rfl)|(apply Aa.int;rfl;rfl;rfl)|(apply Aa.BI;rfl;rfl)|(apply Ae.Af;rfl)|(intro _;try (exfalso;omega)))
  all_goals first|(exfalso;omega)|(refine Done.ret rfl (.refl _) (by first|exact trivial|exact ⟨trivial,trivial,trivial⟩|exact ⟨trivial,trivial,trivial,trivial⟩) Aj.nil (Nat.zero_le _) (Nat.le_refl _) ⟨?_,rfl,rfl⟩;try rfl)
end Go.Proofs.YtdabojnmoejilaaGreatDoor
namespace Go.Proofs.YtdabojnmoejilaaGreatDoor
open Go Go.Am Go.Vm
attribute [local irreducible] Aa Ag Ap Ae BD AX CU AO AL Aw Vm.Done Df Bq
def a8m (o:EP):Rgs:=⟨List.replicate o.Au.length 0,0,0⟩
def a3g (o:EP) (k:Nat):Nat:=2 ^ (gi o.Au k).stops.length-1
def a7r (o:EP):Rgs:=⟨a0f (a3g o) (List.replicate o.Au.length 0) o.Au.length,2 ^ o.FU.length-1,0⟩
def a8f (r:Rgs) (d s:Nat):Rgs:=⟨r.stops.set d (gi r.stops d ||| 2 ^ s),r.cp,r.off⟩
def zN (a b:Rgs) (k:Nat):Nat:=gi a.stops k ||| gi b.stops k
def a5j (a b:Rgs):Rgs:=⟨a0f (zN a b) a.stops a.stops.length,a.cp ||| b.cp,a.off ||| b.off⟩
end Go.Proofs.YtdabojnmoejilaaGreatDoor
namespace Go.Proofs.YtdabojnmoejilaaGreatDoor
open Go Go.Am Go.Vm
attribute [local irreducible] Aa Ag Ap Ae BD AX CU AO AL Aw Vm.Done Df Bq
theorem UZ (x n:Nat):(x &&& (2 ^ n-1)) / 2 ^ n=0:=by
 have h1:x &&& (2 ^ n-1)≤2 ^ n-1:=Nat.and_le_right
 have h2:0<2 ^ n:=Nat.two_pow_pos n
 exact Nat.div_eq_of_lt (by omega)
theorem nV (o:EP) (ho:O8 o) (b:Nat→Nat) (hb:∀ i,b i<256):(QY o b).Ok:=by
 have r2:=ho.Au
 have l:=Jl (Gg o b) o.Au.length
 refine ⟨fun i hi=>?_,?_,?_,?_⟩
 ·have hi:i<(Gw (Gg o b) o.Au.length).length:=hi
  rw [l] at hi
  show gi (Gw (Gg o b) o.Au.length) i<_
  rw [ZK _ hi]
  have:=hb (i % 3)
  have:Gg o b i≤b (i % 3):=Nat.and_le_left
  omega
 ·have:=hb 3
  have:b 3 &&& (2 ^ o.FU.length-1)≤b 3:=Nat.and_le_left
  show b 3 &&& (2 ^ o.FU.length-1)<_
  omega
 ·have:=hb 4
  have:b 4 &&& (2 ^ o.Au.length-1)≤b 4:=Nat.and_le_left
  show b 4 &&& (2 ^ o.Au.length-1)<_
  omega
 ·show (Gw (Gg o b) o.Au.length).length<_
  omega
theorem jr (o:EP) (b:Nat→Nat):Pq o (QY o b)=0:=by
 have l:=Jl (Gg o b) o.Au.length
 rw [Ry (show (Gw (Gg o b) o.Au.length).length=_ from l) fun i hi=>?_]
 ·rw [if_neg]
  intro h
  rcases h with h|h
  ·exact h (UZ _ _)
  ·exact h (UZ _ _)
 ·have hi:i<(Gw (Gg o b) o.Au.length).length:=hi
  rw [l] at hi
  show gi (Gw (Gg o b) o.Au.length) i / _=0
  rw [ZK _ hi]
  exact UZ _ _
def a9x (i:Nat):Nat:=if i=4 then 0 else 255
end Go.Proofs.YtdabojnmoejilaaGreatDoor
namespace Go.Proofs.YtdabojnmoejilaaGreatDoor
open Go Go.Am Go.Vm Go.Tra Go.Hun
attribute [local irreducible] Aa Ag Ap Ae BD AX CU AO AL Aw Vm.Done Df Bq
structure pX where
 Bz:nO
 tgt:nO
 bits:Nat→Nat
 w:Nat→Nat
def pX.enc (x:pX):List FV:=[.lst 150 (cells x.Bz.ranks) x.Bz.ranks.length,.lst 75 (cells x.Bz.Au) x.Bz.Au.length,.lst 153 (cells x.Bz.links) x.Bz.links.length,
 .lst 150 (cells x.tgt.ranks) x.tgt.ranks.length,.lst 75 (cells x.tgt.Au) x.tgt.Au.length,.lst 153 (cells x.tgt.links) x.tgt.links.length,
 .int .u8 (x.bits 0:Int),.int .u8 (x.bits 1:Int),.int .u8 (x.bits 2:Int),.int .u8 (x.bits 3:Int),.int .u8 (x.bits 4:Int),.int .u8 (x.w 0:Int),.int .u8 (x.w 1:Int),.int .u8 (x.w 2:Int),.int .u8 (x.w 3:Int)]
structure pX.Ok (x:pX):Prop where
 Bz:x.Bz.Ok
 tgt:x.tgt.Ok
 bits:∀ i,x.bits i<256
 w:∀ i,x.w i<256
def Ti (x:pX):Prop:=QV x.Bz∧QV x.tgt
noncomputable instance (x:pX):Decidable (Ti x):=Classical.propDecidable _
theorem fQ (x:pX) (hx:x.Ok):AX env 13 [.agg x.enc] (.p (.bool (decide (Ti x)))):=by
 have h1:=Yf x.Bz hx.Bz
 have h2:=Yf x.tgt hx.tgt
 refine AX.enter (AB (by decide)) Tryz.func13 rfl (by kernel_rfl) (by simp [Tryz.ntmps13]) ?_
 by_cases c1:QV x.Bz
 ·rw [decide_eq_true c1] at h1
  by_cases c2:QV x.tgt
  ·rw [decide_eq_true c2] at h2
   rw [decide_eq_true (p:=Ti x) ⟨c1,c2⟩]
   repeat' (first|apply Ae.AA|apply Ae.ret|apply Ag.nil|apply Ag.one|(apply Ag.take;rfl;rfl)|(apply Aa.fn;rfl;rfl;exact h1;intro _;rfl)|(apply Aa.fn;rfl;rfl;exact h2;intro _;rfl)|(apply Aa.assign;rfl)|(apply Aa.move;rfl)|(apply Aa.load;rfl;rfl)|(apply Aa.BH;rfl;rfl)|(apply Aa.AQ;rfl;rfl;rfl)|(apply Aa.box;rfl;trivial))
   all_goals first|(exfalso;omega)|contradiction|(refine Done.ret rfl (.refl _) (by first|exact trivial|exact ⟨trivial,trivial,trivial⟩|exact ⟨trivial,trivial,trivial,trivial⟩) Aj.nil (Nat.zero_le _) (Nat.le_refl _) ⟨?_,rfl,rfl⟩;try rfl)
  ·rw [decide_eq_false c2] at h2
   rw [decide_eq_false (p:=Ti x) (fun h=>c2 h.2)]
   repeat' (first|apply Ae.AA|apply Ae.ret|apply Ag.nil|apply Ag.one|(apply Ag.take;rfl;rfl)|(apply Aa.fn;rfl;rfl;exact h1;intro _;rfl)|(apply Aa.fn;rfl;rfl;exact h2;intro _;rfl)|(apply Aa.assign;rfl)|(apply Aa.move;rfl)|(apply Aa.load;rfl;rfl)|(apply Aa.BH;rfl;rfl)|(apply Aa.AQ;rfl;rfl;rfl)|(apply Aa.box;rfl;trivial))
   all_goals first|(exfalso;omega)|contradiction|(refine Done.ret rfl (.refl _) (by first|exact trivial|exact ⟨trivial,trivial,trivial⟩|exact ⟨trivial,trivial,trivial,trivial⟩) Aj.nil (Nat.zero_le _) (Nat.le_refl _) ⟨?_,rfl,rfl⟩;try rfl)
 ·rw [decide_eq_false c1] at h1
  rw [decide_eq_false (p:=Ti x) (fun h=>c1 h.1)]
  repeat' (first|apply Ae.AA|apply Ae.ret|apply Ag.nil|apply Ag.one|(apply Ag.drop;rfl;rfl;rfl)|(apply Aa.fn;rfl;rfl;exact h1;intro _;rfl)|(apply Aa.assign;rfl)|(apply Aa.move;rfl)|(apply Aa.load;rfl;rfl)|(apply Aa.AV;rfl;rfl)|(apply Aa.AQ;rfl;rfl;rfl)|(apply Aa.box;rfl;trivial))
  all_goals first|(exfalso;omega)|contradiction|(refine Done.ret rfl (.refl _) (by first|exact trivial|exact ⟨trivial,trivial,trivial⟩|exact ⟨trivial,trivial,trivial,trivial⟩) Aj.nil (Nat.zero_le _) (Nat.le_refl _) ⟨?_,rfl,rfl⟩;try rfl)
def mkW (w:Nat→Nat):ZG:=⟨((w 0 % 32:Nat):Int),((w 1 % 8:Nat):Int),((w 2 % 32:Nat):Int),((w 3 % 64:Nat):Int)⟩
noncomputable def mkQ (x:pX):SA:=⟨aH x.Bz,QY (aH x.Bz) x.bits,aH x.tgt,mkW x.w⟩
theorem gq (x:pX) (hx:x.Ok) (hf:Ti x):AX env 14 [.agg x.enc] (.p (.agg (Enc.enc (mkQ x)))):=by
 have h1:=Tm x.Bz hx.Bz hf.1
 have h2:=Tm x.tgt hx.tgt hf.2
 have h3:=gB (aH x.Bz) (XE x.Bz hx.Bz hf.1) x.bits hx.bits
 have w0:=hx.w 0
 have w1:=hx.w 1
 have w2:=hx.w 2
 have w3:=hx.w 3
 obtain ⟨a0,e0⟩:∃ a,a=x.w 0 % 32:=⟨_,rfl⟩
 obtain ⟨a1,e1⟩:∃ a,a=x.w 1 % 8:=⟨_,rfl⟩
 obtain ⟨a2,e2⟩:∃ a,a=x.w 2 % 32:=⟨_,rfl⟩
 obtain ⟨a3,e3⟩:∃ a,a=x.w 3 % 64:=⟨_,rfl⟩
 have eQ:mkQ x=⟨aH x.Bz,QY (aH x.Bz) x.bits,aH x.tgt,⟨(a0:Int),(a1:Int),(a2:Int),(a3:Int)⟩⟩:=by rw [e0,e1,e2,e3];rfl
 have v0:ES .rem .u8 (x.w 0:Int) 32=some (.int .u8 (a0:Int)):=by rw [e0];rfl
 have v1:ES .rem .u8 (x.w 1:Int) 8=some (.int .u8 (a1:Int)):=by rw [e1];rfl
 have v2:ES .rem .u8 (x.w 2:Int) 32=some (.int .u8 (a2:Int)):=by rw [e2];rfl
 have v3:ES .rem .u8 (x.w 3:Int) 64=some (.int .u8 (a3:Int)):=by rw [e3];rfl
 have a0b:a0<256:=by omega
 have a1b:a1<256:=by omega
 have a2b:a2<256:=by omega
 have a3b:a3<256:=by omega
 rw [eQ]
 clear eQ e0 e1 e2 e3
 generalize QY (aH x.Bz) x.bits=r at *
 generalize aH x.Bz=F at *
 generalize aH x.tgt=T at *
 refine AX.enter (AB (by decide)) Tryz.func14 rfl (by kernel_rfl) (by simp [Tryz.ntmps14]) ?_
 repeat' (first|apply Ae.AA|apply Ae.BF|apply Ae.ret|apply Ag.nil|apply Ap.nil|apply Ag.one|(apply Ap.bar;decide +kernel)|apply Ap.quiet|(apply Aa.fn;rfl;rfl;exact h1;intro _;rfl)|(apply Aa.fn;rfl;rfl;exact h2;intro _;rfl)|(apply Aa.fn;rfl;rfl;exact h3;intro _;rfl)|(apply Aa.UH;rfl;rfl;rfl;rfl;rfl;decide)|(apply Aa.int;rfl;rfl;exact v0)|(apply Aa.int;rfl;rfl;exact v1)|(apply Aa.int;rfl;rfl;exact v2)|(apply Aa.int;rfl;rfl;exact v3)|(apply Aa.load;rfl;rfl)|(apply Aa.AQ;rfl;rfl;rfl)|(apply Aa.box;rfl;trivial)|(apply Aa.alloc;rfl)|(apply Aa.Bo;rfl;rfl;rfl;trivial;rfl;rfl;exact Ac rfl;exact le_dec rfl)|(apply Aa.build;rfl;rfl;rfl;rfl;rfl)|(apply Aa.IZ;rfl;rfl;rfl;rfl;omega))
 all_goals first|(exfalso;omega)|(refine Done.ret rfl (.refl _) (by first|exact trivial|exact ⟨trivial,trivial,trivial⟩|exact ⟨trivial,trivial,trivial,trivial⟩) Aj.nil (Nat.zero_le _) (Nat.le_refl _) ⟨?_,rfl,rfl⟩;try rfl)
theorem a0m {w:Nat→Nat}:MH (mkW w):=fun i hi=>by
 match i,hi with
 |0,_=>show (0:Int)≤((w 0 % 32:Nat):Int)∧((w 0 % 32:Nat):Int)≤100000;omega
 |1,_=>show (0:Int)≤((w 1 % 8:Nat):Int)∧((w 1 % 8:Nat):Int)≤100000;omega
 |2,_=>show (0:Int)≤((w 2 % 32:Nat):Int)∧((w 2 % 32:Nat):Int)≤100000;omega
 |3,_=>show (0:Int)≤((w 3 % 64:Nat):Int)∧((w 3 % 64:Nat):Int)≤100000;omega
theorem O8.yV {o:EP} (h:O8 o):(BG o).length≤9:=by
 have h1:=PG (ns:=PU o) (K:=3) (fun d hd=>by rw [Lp] at hd;rw [Wx o hd];exact h.stops d hd) (PU o).length (Nat.le_refl _)
 rw [Wy]
 have:=h.Au
 rw [Lp] at h1 ⊢
 omega
theorem l9 (o:EP) (r:Rgs):(Bc o r).length≤(BG o).length:=List.length_filter_le _ _
theorem kT:∀ a,a<6→∀ b,b<6→(BX (gi EZ a) (gi EZ b)).2=0∧-1000≤(BX (gi EZ a) (gi EZ b)).1∧(BX (gi EZ a) (gi EZ b)).1≤1000 ∧
 max (BX (gi EZ a) (gi EZ b)).1 (-(BX (gi EZ a) (gi EZ b)).1)=max (BX (gi EZ b) (gi EZ a)).1 (-(BX (gi EZ b) (gi EZ a)).1)∧(a=b→(BX (gi EZ a) (gi EZ b)).1=0):=by decide +kernel
theorem O8.Dq {o:EP} (h:O8 o) {p:Pv} (hp:Hg o p):∃ a,a<6∧(EU o p).Dq=gi EZ a:=(h.st p.d hp.1 p.s hp.2).2.2
theorem a3y {F T:EP} (hF:O8 F) (hT:O8 T):ShB F T:=fun a b ha hb=>by
 obtain ⟨i,hi,ei⟩:=hF.Dq ha
 obtain ⟨j,hj,ej⟩:=hT.Dq hb
 have:=kT j hj i hi
 unfold pR
 rw [ei,ej]
 exact ⟨this.1,this.2.1,this.2.2.1⟩
theorem a2e {F T:EP} (hF:O8 F) (hT:O8 T):ShS F T:=fun a b ha hb=>by
 obtain ⟨i,hi,ei⟩:=hF.Dq ha
 obtain ⟨j,hj,ej⟩:=hT.Dq hb
 have:=kT i hi j hj
 unfold mX pR
 rw [ei,ej]
 exact ⟨this.2.1,this.2.2.1,this.2.2.2.1⟩
theorem a3k {F T:EP} {r:Rgs} {w:Nat→Nat} (hF:O8 F) (hT:O8 T) (hr:r.Ok) (he:Pq F r=0):eY ⟨F,r,T,mkW w⟩:=by
 have h1:=hF.yV
 have h2:=hT.yV
 have h3:=l9 F r
 refine ⟨hF.sm,hT.sm,hr,?_,a3y hF hT⟩
 unfold fK
 rw [if_neg (fun h=>h hF.ok),if_neg (fun h=>h he),if_neg (fun h=>h hT.ok),if_neg (fun h=>h a0m),if_neg (by show ¬ ((Bc F r).length>60∨(BG T).length>120);omega)]
theorem zS (x:pX) (hx:x.Ok) (hf:Ti x):eY (mkQ x):=a3k (XE x.Bz hx.Bz hf.1) (XE x.tgt hx.tgt hf.2) (nV _ (XE x.Bz hx.Bz hf.1) _ hx.bits) (jr _ _)
end Go.Proofs.YtdabojnmoejilaaGreatDoor
namespace Go.Proofs.YtdabojnmoejilaaGreatDoor
open Go Go.Am Go.Vm Go.Tra Go.Hun
attribute [local irreducible] Aa Ag Ap Ae BD AX CU AO AL Aw Vm.Done Df Bq
theorem Oq (x:pX) (hx:x.Ok):AX env 3 [.agg x.enc] (.p (.bool true)):=by
 have hkn:=iY
 have hfs:=fQ x hx
 refine AX.enter (AB (by decide)) Tryz.func3 rfl (by kernel_rfl) (by simp [Tryz.ntmps3]) ?_
 by_cases hf:Ti x
 case neg =>
  rw [decide_eq_false hf] at hfs
  repeat' (first|apply Ae.assoc|apply Ae.AA|apply Ae.BQ|apply Ag.nil|apply Ag.one|(apply Ag.take;rfl;rfl)|(apply Aa.fn;rfl;rfl;exact hkn;intro _;rfl)|(apply Aa.fn;rfl;rfl;exact hfs;intro _;rfl)|(apply Aa.assign;rfl)|(apply Aa.move;rfl)|(apply Aa.load;rfl;rfl)|(apply Aa.AV;rfl;rfl)|(apply Aa.box;rfl;trivial)|(apply Aa.not;rfl)|(apply Ae.Bg;rfl))
  all_goals first|(exfalso;omega)|contradiction|((refine Done.ret rfl (.refl _) (by first|exact trivial|exact ⟨trivial,trivial,trivial⟩|exact ⟨trivial,trivial,trivial,trivial⟩) Aj.nil (Nat.zero_le _) (Nat.le_refl _) ⟨?_,rfl,rfl⟩;try rfl);try simp)
 rw [decide_eq_true hf] at hfs
 have hm:=gq x hx hf
 have hq:=zS x hx hf
 have hS:ShS (mkQ x).Bz (mkQ x).tgt:=a2e (XE x.Bz hx.Bz hf.1) (XE x.tgt hx.tgt hf.2)
 generalize mkQ x=q at *
 have hl:=Ja hq
 have hll:=Zd q hq.k1 hq.k2 hq.D5 hS hq.rg hq.len
 rw [show Kq q.Bz q.tgt q.reg q.D5=Ih q from rfl] at hll
 have b1:=hq.Uf.n60
 have b2:=hq.Uf.uS
 have hrow:=hq.Uf.Uf.row
 generalize Ih q=l at *
 repeat' (first|apply Ae.assoc|apply Ae.AA|apply Ae.Aq|apply Ae.Ai|apply Ag.nil|apply Ag.one|(apply Ag.take;rfl;rfl)|(apply Aa.fn;rfl;rfl;exact hkn;intro _;rfl)|(apply Aa.fn;rfl;rfl;exact hfs;intro _;rfl)|(apply Aa.fn;rfl;rfl;exact hm;intro _;rfl)|(apply Aa.fn;rfl;rfl;exact hl;intro _;rfl)|(apply Aa.fn;rfl;rfl;exact hll;intro _;rfl)|(apply Aa.assign;rfl)|(apply Aa.move;rfl)|(apply Aa.int;rfl;rfl;rfl)|(apply Aa.load;rfl;rfl)|(apply Aa.AV;rfl;rfl)|(apply Aa.BI;rfl;rfl)|(apply Aa.box;rfl;trivial)|(apply Aa.alloc;rfl)|(apply Aa.Bo;rfl;rfl;rfl;trivial;rfl;rfl;exact Ac rfl;exact le_dec rfl)|(apply Aa.not;rfl)|(apply Aa.extract;rfl;rfl)|(apply Ae.Az;rfl)|(apply Ae.Af;rfl)|(intro _;try (exfalso;omega)))
 all_goals try (exfalso;omega)
 all_goals try contradiction
 apply Ae.EX (l.length) [(4,_),(6,_)] [] (fun k r=>(7,.p (.int .i64 (k:Int)))::r) (fun k r=>r) 2
 ·first|omega|decide
 ·first|omega|decide
 ·repeat (first|exact Ad.nil|(refine Ad.eq rfl ?_ ?_;(first|exact PV.Ak rfl|(simp [PV.under,AU.under];done)))|refine Ad.cons trivial rfl (.of_eq (Ar (by simp<;>omega))) ?_)
 ·repeat (first|exact Aj.nil|(refine Aj.eq rfl (Ac rfl) ?_ ?_;(first|exact HB.Ak rfl|exact AU.Ah _ _|(simp [HB.under,AU.under,PV.under];done)))|(refine Aj.cons (Ac rfl) ?_ rfl ?_ ?_;(first|exact trivial|exact AU.Ah _ _|(simp [HB.under,AU.under,PV.under]));(first|exact Bl.refl _|exact Bl.vec (Bh.refl _) (by simp))))
 ·intro k hk
  have b3:=hrow k hk
  repeat' (first|apply Ae.assoc|apply Ae.AA|apply Ae.BF|apply Ae.Aq|apply Ae.Ai|apply Ae.Hy|apply Ag.nil|apply Ap.nil|apply Ag.one|(apply Ap.bar;decide +kernel)|apply Ap.quiet|(apply Aa.assign;rfl)|(apply Aa.move;rfl)|(apply Aa.int;rfl;rfl;rfl)|(apply Aa.AP;rfl;rfl;rfl;omega;rfl)|(apply Aa.load;rfl;rfl)|(apply Aa.BI;rfl;rfl)|(apply Ae.Af;rfl)|(intro _;try (exfalso;omega)))
  all_goals try (exfalso;omega)
  apply Ae.EX ((gi l k).length) [(4,_),(6,_),(7,_)] [] (fun k_ r=>(8,.p (.int .i64 (k_:Int)))::r) (fun k_ r=>r) 2
  ·first|omega|decide
  ·first|omega|decide
  ·repeat (first|exact Ad.nil|(refine Ad.eq rfl ?_ ?_;(first|exact PV.Ak rfl|(simp [PV.under,AU.under];done)))|refine Ad.cons trivial rfl (.of_eq (Ar (by simp<;>omega))) ?_)
  ·repeat (first|exact Aj.nil|(refine Aj.eq rfl (Ac rfl) ?_ ?_;(first|exact HB.Ak rfl|exact AU.Ah _ _|(simp [HB.under,AU.under,PV.under];done)))|(refine Aj.cons (Ac rfl) ?_ rfl ?_ ?_;(first|exact trivial|exact AU.Ah _ _|(simp [HB.under,AU.under,PV.under]));(first|exact Bl.refl _|exact Bl.vec (Bh.refl _) (by simp))))
  ·intro j hj
   repeat' (first|apply Ae.assoc|apply Ae.AA|apply Ae.BF|apply Ae.region|apply Ae.Aq|apply Ae.Ai|apply AO.normal|apply AL.normal|apply Ae.skip|apply Ag.nil|apply Ap.nil|apply Ag.one|(apply Ap.bar;decide +kernel)|apply Ap.quiet|(apply Aa.assign;rfl)|(apply Aa.move;rfl)|(apply Aa.Bv;rfl;rfl;omega)|(apply Aa.int;rfl;rfl;rfl)|(apply Aa.AP;rfl;rfl;rfl;omega;rfl)|(apply Aa.load;rfl;rfl)|(apply Aa.BI;rfl;rfl)|(apply Ae.Af;rfl)|(apply Ae.AZ;rfl)|(intro _;try (exfalso;omega)))
   all_goals try (exfalso;omega)
   refine Aw.normal ⟨by first|omega|decide,?_,?_⟩
   ·repeat (first|exact Ad.nil|refine Ad.same trivial rfl ?_|refine Ad.same (Ac rfl) rfl ?_|refine Ad.same ⟨trivial,Ac rfl,trivial⟩ rfl ?_|refine Ad.same ⟨trivial,Ac rfl,Ac rfl,trivial⟩ rfl ?_|refine Ad.same ⟨trivial,Ac rfl,Ac rfl,Ac rfl,trivial⟩ rfl ?_|refine Ad.same ⟨trivial,trivial⟩ rfl ?_|refine Ad.cons trivial rfl (.of_eq (Ar (by simp<;>omega))) ?_)
   ·repeat (first|exact Aj.nil|(refine Aj.cons (Ac rfl) ?_ rfl ?_ ?_;(first|exact HB.Ak rfl|exact AU.Ah _ _|(simp [HB.under,AU.under,PV.under]));(first|exact Bl.refl _|exact Bl.vec (Bh.refl _) (by simp))))
  ·repeat' (first|apply Ae.assoc|apply Ae.AA|apply Ae.region|apply Ae.AY|apply AO.normal|apply AL.normal|apply AL.exit|apply Aw.exit|apply Ag.nil|apply Ag.one|(apply Aa.assign;rfl)|(apply Aa.move;rfl)|(apply Aa.Bv;rfl;rfl;omega)|(apply Aa.int;rfl;rfl;rfl)|(apply Aa.AP;rfl;rfl;rfl;omega;rfl)|(apply Aa.load;rfl;rfl)|(apply Aa.BI;rfl;rfl)|(apply Ae.Af;rfl)|(intro _;try (exfalso;omega)))
   all_goals try (exfalso;omega)
   refine Aw.normal ⟨by first|omega|decide,?_,?_⟩
   ·repeat (first|exact Ad.nil|refine Ad.same trivial rfl ?_|refine Ad.same (Ac rfl) rfl ?_|refine Ad.same ⟨trivial,Ac rfl,trivial⟩ rfl ?_|refine Ad.same ⟨trivial,Ac rfl,Ac rfl,trivial⟩ rfl ?_|refine Ad.same ⟨trivial,Ac rfl,Ac rfl,Ac rfl,trivial⟩ rfl ?_|refine Ad.same ⟨trivial,trivial⟩ rfl ?_|refine Ad.cons trivial rfl (.of_eq (Ar (by simp<;>omega))) ?_)
   ·repeat (first|exact Aj.nil|(refine Aj.cons (Ac rfl) ?_ rfl ?_ ?_;(first|exact HB.Ak rfl|exact AU.Ah _ _|(simp [HB.under,AU.under,PV.under]));(first|exact Bl.refl _|exact Bl.vec (Bh.refl _) (by simp))))
 ·repeat' (first|apply Ae.assoc|apply Ae.AA|apply Ae.AY|apply AO.normal|apply AL.exit|apply Aw.exit|apply Ae.ret|apply Ag.nil|apply Ag.one|(apply Aa.assign;rfl)|(apply Aa.move;rfl)|(apply Aa.int;rfl;rfl;rfl)|(apply Aa.BI;rfl;rfl)|(apply Ae.Af;rfl)|(intro _;try (exfalso;omega)))
  all_goals first|(exfalso;omega)|contradiction|(refine Done.ret rfl (.refl _) (by first|exact trivial|exact ⟨trivial,trivial,trivial⟩|exact ⟨trivial,trivial,trivial,trivial⟩) Aj.nil (Nat.zero_le _) (Nat.le_refl _) ⟨?_,rfl,rfl⟩;try rfl)
end Go.Proofs.YtdabojnmoejilaaGreatDoor
namespace Go.Proofs.YtdabojnmoejilaaGreatDoor
open Go Go.Am Go.Vm
theorem LM {n:Int} (h:(Lit.int .u8 n).wf=true):∃ m:Nat,m<256∧n=m:=by
 simp [Lit.wf,IntKind.min,IntKind.max,IntKind.signed,IntKind.bits] at h
 exact ⟨n.toNat,by omega,by omega⟩
theorem qp {n:Int} (h:(Lit.int .i8 n).wf=true):-128≤n∧n≤127:=by
 simp [Lit.wf,IntKind.min,IntKind.max,IntKind.signed,IntKind.bits] at h
 omega
theorem U0 {α β:Type} {R:β→α→Prop}:∀ {l:List α},(∀ x∈l,∃ y,R y x)→∃ r:List β,F7 R r l
 |[],_=>⟨[],.nil⟩
 |a::l,h=>by
  obtain ⟨y,hy⟩:=h a (by simp)
  obtain ⟨r,hr⟩:=U0 (l:=l) (fun x hx=>h x (by simp [hx]))
  exact ⟨y::r,.cons hy hr⟩
theorem Vy {α:Type} [Enc α] {p:α→Prop}:∀ {r:List α} {L:List (List FV)},F7 (fun a fs=>fs=Enc.enc a∧p a) r L→L.flatten=cells r∧L.length=r.length∧∀ i,i<r.length→p (gi r i)
 |_,_,.nil=>⟨rfl,rfl,fun i hi=>by simp at hi⟩
 |a::r,fs::L,.cons ⟨h1,h2⟩ t=>by
  obtain ⟨e1,e2,e3⟩:=Vy t
  refine ⟨by rw [List.flatten_cons,e1,h1];rfl,by simp [e2],fun i hi=>?_⟩
  cases i with
  |zero=>exact h2
  |succ i=>exact e3 i (by simpa using hi)
section
variable {α β:Type} {R:α→β→Prop} {a b c d e:α} {r:List β}
theorem WT (h:F7 R [a] r):∃ x,r=[x]∧R a x:=by
 cases h with|cons h1 t=>cases t;exact ⟨_,rfl,h1⟩
theorem uw (h:F7 R [a,b] r):∃ x y,r=[x,y]∧R a x∧R b y:=by
 cases h with|cons h1 t=>obtain ⟨x,rfl,h2⟩:=WT t;exact ⟨_,_,rfl,h1,h2⟩
theorem UY (h:F7 R [a,b,c] r):∃ x y z,r=[x,y,z]∧R a x∧R b y∧R c z:=by
 cases h with|cons h1 t=>obtain ⟨x,y,rfl,h2,h3⟩:=uw t;exact ⟨_,_,_,rfl,h1,h2,h3⟩
theorem KJ (h:F7 R [a,b,c,d] r):∃ x y z w,r=[x,y,z,w]∧R a x∧R b y∧R c z∧R d w:=by
 cases h with|cons h1 t=>obtain ⟨x,y,z,rfl,h2,h3,h4⟩:=UY t;exact ⟨_,_,_,_,rfl,h1,h2,h3,h4⟩
theorem oW (h:F7 R [a,b,c,d,e] r):∃ x y z w v,r=[x,y,z,w,v]∧R a x∧R b y∧R c z∧R d w∧R e v:=by
 cases h with|cons h1 t=>obtain ⟨x,y,z,w,rfl,h2,h3,h4,h5⟩:=KJ t;exact ⟨_,_,_,_,_,rfl,h1,h2,h3,h4,h5⟩
end
theorem dQ {j:Nat} {fs:List FV} (h:ER Tryz.prog (j+1) 4 fs):∃ b:Bool,fs=[.bool b]:=by
 simp only [ER,Tryz.underlying4] at h
 exact h
theorem a5u {α:Type} {l:List α} (h:l.length=5):∃ a b c d e,l=[a,b,c,d,e]:=by
 match l,h with|[a,b,c,d,e],_=>exact ⟨a,b,c,d,e,rfl⟩
theorem pI {j:Nat} {fs:List FV} (h:ER Tryz.prog (j+3) 150 fs):∃ x:FQ,fs=x.enc∧x.Ok:=by
 simp only [ER,Tryz.underlying150,Tryz.underlying5,Tryz.underlying64,Tryz.underlying27] at h
 obtain ⟨parts,rfl,hp⟩:=h
 obtain ⟨a,b,c,d,e,rfl,⟨n1,rfl,h1⟩,⟨n2,rfl,h2⟩,⟨n3,rfl,h3⟩,⟨n4,rfl,h4⟩,L,rfl,hl,hL⟩:=oW hp
 obtain ⟨m1,q1,rfl⟩:=LM h1
 obtain ⟨m2,q2,rfl⟩:=LM h2
 obtain ⟨m4,q4,rfl⟩:=LM h4
 obtain ⟨a,b,c,d,e,rfl⟩:=a5u hl
 obtain ⟨w0,rfl,g0⟩:=hL a (by simp)
 obtain ⟨w1,rfl,g1⟩:=hL b (by simp)
 obtain ⟨w2,rfl,g2⟩:=hL c (by simp)
 obtain ⟨w3,rfl,g3⟩:=hL d (by simp)
 obtain ⟨w4,rfl,g4⟩:=hL e (by simp)
 obtain ⟨v0,k0,rfl⟩:=LM g0
 obtain ⟨v1,k1,rfl⟩:=LM g1
 obtain ⟨v2,k2,rfl⟩:=LM g2
 obtain ⟨v3,k3,rfl⟩:=LM g3
 obtain ⟨v4,k4,rfl⟩:=LM g4
 refine ⟨⟨m1,m2,n3,m4,[v0,v1,v2,v3,v4]⟩,rfl,q1,q2,qp h3,q4,fun i=>?_⟩
 match i with
 |0=>exact k0
 |1=>exact k1
 |2=>exact k2
 |3=>exact k3
 |4=>exact k4
 |n+5=>simp [gi]
end Go.Proofs.YtdabojnmoejilaaGreatDoor
namespace Go.Proofs.YtdabojnmoejilaaGreatDoor
open Go Go.Am Go.Vm
theorem IL {P:Program} {n:Nat} {t:TypeId} {fs:List FV} {sf:Array Field} (h:ER P (n+1) t fs) (hu:P.underlying t=some (.struct sf)):∃ parts:List (List FV),fs=parts.flatten∧F7 (fun (fd:Field) x=>ER P n fd.type x) sf.toList parts:=by
 unfold ER at h;rw [hu] at h;exact h
theorem LH {P:Program} {n:Nat} {t e:TypeId} {fs:List FV} {α:Type} [Enc α] {p:α→Prop} (h:ER P (n+1) t fs) (hu:P.underlying t=some (.slice e)) (he:∀ x,ER P n e x→∃ a:α,x=Enc.enc a∧p a):∃ l:List α,fs=[.lst e (cells l) l.length]∧l.length≤maxLen∧∀ i,i<l.length→p (gi l i):=by
 unfold ER at h;rw [hu] at h
 obtain ⟨L,rfl,hl,hL⟩:=h
 obtain ⟨r,hr⟩:=U0 (R:=fun (a:α) fs=>fs=Enc.enc a∧p a) (l:=L) (fun x hx=>he x (hL x hx))
 obtain ⟨e1,e2,e3⟩:=Vy hr
 exact ⟨r,by rw [e1,e2],by omega,e3⟩
theorem FX {j:Nat} {fs:List FV} (h:ER Tryz.prog (j+1) 5 fs):∃ n:Nat,fs=[.int .u8 (n:Int)]∧n<256:=by
 simp only [ER,Tryz.underlying5] at h
 obtain ⟨n,rfl,hn⟩:=h
 obtain ⟨m,q,rfl⟩:=LM hn
 exact ⟨m,rfl,q⟩
theorem zT {j:Nat} {fs:List FV} (h:ER Tryz.prog (j+1) 64 fs):∃ n:Int,fs=[.int .i8 n]∧-128≤n∧n≤127:=by
 simp only [ER,Tryz.underlying64] at h
 obtain ⟨n,rfl,hn⟩:=h
 exact ⟨n,rfl,qp hn⟩
theorem tX {j:Nat} {fs:List FV} (h:ER Tryz.prog (j+2) 72 fs):∃ x:ny,fs=Enc.enc x∧x.Ok:=by
 obtain ⟨parts,rfl,hp⟩:=IL h Tryz.underlying72
 obtain ⟨a,b,c,d,rfl,h1,h2,h3,h4⟩:=KJ hp
 obtain ⟨m1,rfl,q1⟩:=FX (j:=j) h1
 obtain ⟨m2,rfl,q2⟩:=FX (j:=j) h2
 obtain ⟨m3,rfl,q3⟩:=FX (j:=j) h3
 obtain ⟨m4,rfl,q4⟩:=FX (j:=j) h4
 exact ⟨⟨m1,m2,m3,m4⟩,rfl,q1,q2,q3,q4⟩
theorem nC {j:Nat} {fs:List FV} (h:ER Tryz.prog (j+4) 75 fs):∃ x:mZ,fs=Enc.enc x∧x.Ok:=by
 obtain ⟨parts,rfl,hp⟩:=IL h Tryz.underlying75
 obtain ⟨a,b,c,d,rfl,h1,h2,h3,h4⟩:=KJ hp
 obtain ⟨m1,rfl,q1⟩:=FX (j:=j+2) h1
 obtain ⟨m2,rfl,q2⟩:=FX (j:=j+2) h2
 obtain ⟨m3,rfl⟩:=dQ (j:=j+2) h3
 obtain ⟨l,rfl,hl,hL⟩:=LH (n:=j+2) (p:=ny.Ok) h4 Tryz.underlying73 (fun x hx=>tX hx)
 exact ⟨⟨m1,m2,m3,l⟩,rfl,q1,q2,by simp only [maxLen] at hl;simp only;omega,hL⟩
theorem qA {j:Nat} {fs:List FV} (h:ER Tryz.prog (j+2) 153 fs):∃ x:rV,fs=Enc.enc x∧x.Ok:=by
 obtain ⟨parts,rfl,hp⟩:=IL h Tryz.underlying153
 obtain ⟨a,b,c,d,rfl,h1,h2,h3,h4⟩:=KJ hp
 obtain ⟨m1,rfl,q1⟩:=FX (j:=j) h1
 obtain ⟨m2,rfl,q2⟩:=FX (j:=j) h2
 obtain ⟨m3,rfl,q3⟩:=zT (j:=j) h3
 obtain ⟨m4,rfl⟩:=dQ (j:=j) h4
 exact ⟨⟨m1,m2,m3,m4⟩,rfl,q1,q2,q3⟩
theorem XH {j:Nat} {fs:List FV} (h:ER Tryz.prog (j+6) 26 fs):∃ x:nO,fs=x.enc∧x.Ok:=by
 obtain ⟨parts,rfl,hp⟩:=IL h Tryz.underlying26
 obtain ⟨a,b,c,rfl,h1,h2,h3⟩:=UY hp
 obtain ⟨l1,rfl,n1,g1⟩:=LH (n:=j+4) (p:=FQ.Ok) h1 Tryz.underlying22 (fun x hx=>pI (j:=j+1) hx)
 obtain ⟨l2,rfl,n2,g2⟩:=LH (n:=j+4) (p:=mZ.Ok) h2 Tryz.underlying23 (fun x hx=>nC hx)
 obtain ⟨l3,rfl,n3,g3⟩:=LH (n:=j+4) (p:=rV.Ok) h3 Tryz.underlying24 (fun x hx=>qA (j:=j+2) hx)
 simp only [maxLen] at n1 n2 n3
 exact ⟨⟨l1,l2,l3⟩,rfl,g1,g2,g3,by simp only;omega,by simp only;omega,by simp only;omega⟩
end Go.Proofs.YtdabojnmoejilaaGreatDoor
namespace Go.Proofs.YtdabojnmoejilaaGreatDoor
open Go Go.Am Go.Vm
theorem a2g {α:Type} {L:List α} (h:L.length=5):∃ a b c d e,L=[a,b,c,d,e]:=by
 match L,h with
 |[a,b,c,d,e],_=>exact ⟨a,b,c,d,e,rfl⟩
theorem o7 {j:Nat} {fs:List FV} (h:ER Tryz.prog (j+2) 27 fs):∃ b:Nat→Nat,fs=qH b∧∀ i,b i<256:=by
 obtain ⟨L,rfl,hl,hL⟩:=ER.array h Tryz.underlying27
 obtain ⟨a,b,c,d,e,rfl⟩:=a2g hl
 obtain ⟨m1,rfl,q1⟩:=FX (j:=j) (hL a (by simp))
 obtain ⟨m2,rfl,q2⟩:=FX (j:=j) (hL b (by simp))
 obtain ⟨m3,rfl,q3⟩:=FX (j:=j) (hL c (by simp))
 obtain ⟨m4,rfl,q4⟩:=FX (j:=j) (hL d (by simp))
 obtain ⟨m5,rfl,q5⟩:=FX (j:=j) (hL e (by simp))
 exact ⟨fun i=>if i=0 then m1 else if i=1 then m2 else if i=2 then m3 else if i=3 then m4 else m5,rfl,fun i=>by simp only;split<;>(try split)<;>(try split)<;>(try split)<;>omega⟩
end Go.Proofs.YtdabojnmoejilaaGreatDoor
namespace Go.Proofs.YtdabojnmoejilaaGreatDoor
open Go Go.Am Go.Vm
theorem list4 {α:Type} {L:List α} (h:L.length=4):∃ a b c d,L=[a,b,c,d]:=by
 match L,h with
 |[a,b,c,d],_=>exact ⟨a,b,c,d,rfl⟩
theorem mQ {j:Nat} {fs:List FV} (h:ER Tryz.prog (j+2) 28 fs):∃ b:Nat→Nat,fs=[.int .u8 (b 0:Int),.int .u8 (b 1:Int),.int .u8 (b 2:Int),.int .u8 (b 3:Int)]∧∀ i,b i<256:=by
 obtain ⟨L,rfl,hl,hL⟩:=ER.array h Tryz.underlying28
 obtain ⟨a,b,c,d,rfl⟩:=list4 hl
 obtain ⟨m1,rfl,q1⟩:=FX (j:=j) (hL a (by simp))
 obtain ⟨m2,rfl,q2⟩:=FX (j:=j) (hL b (by simp))
 obtain ⟨m3,rfl,q3⟩:=FX (j:=j) (hL c (by simp))
 obtain ⟨m4,rfl,q4⟩:=FX (j:=j) (hL d (by simp))
 exact ⟨fun i=>if i=0 then m1 else if i=1 then m2 else if i=2 then m3 else m4,rfl,fun i=>by simp only;split<;>(try split)<;>(try split)<;>omega⟩
theorem mP {j:Nat} {fs:List FV} (h:ER Tryz.prog (j+7) 30 fs):∃ x:pX,fs=x.enc∧x.Ok:=by
 obtain ⟨parts,rfl,hp⟩:=IL h Tryz.underlying30
 obtain ⟨a,b,c,d,rfl,h1,h2,h3,h4⟩:=KJ hp
 obtain ⟨x1,rfl,k1⟩:=XH (j:=j) h1
 obtain ⟨x2,rfl,k2⟩:=XH (j:=j) h2
 obtain ⟨b5,rfl,k3⟩:=o7 (j:=j+4) h3
 obtain ⟨b4,rfl,k4⟩:=mQ (j:=j+4) h4
 exact ⟨⟨x1,x2,b5,b4⟩,rfl,k1,k2,k3,k4⟩
end Go.Proofs.YtdabojnmoejilaaGreatDoor
