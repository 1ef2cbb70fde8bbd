/-
  Texts of a proof, merged (HunD, TraB, TraC, TraD, TraK, HunE, TraL, TraM, Vm38, HunF, CarA, TraN, OrO, OrQ, TraS, CarB, CarD, CarE). Conditions: in each statement.
-/
import Derived.Test.YtdabojnmoejilaaGreatDoorKIe
set_option linter.unusedSimpArgs false
set_option linter.unusedVariables false
set_option linter.unusedSectionVars false
set_option maxRecDepth 100000
set_option maxHeartbeats 8000000
namespace Go.Hun
open Go.Vm
def Dw (f:Nat→Int):Nat→Int
 |0=>0
 |k+1=>Dw f k+f k
theorem En {f g:Nat→Int}:∀ {n:Nat},(∀ k,k<n→f k=g k)→Dw f n=Dw g n
 |0,_=>rfl
 |n+1,h=>by simp only [Dw];rw [En fun k hk=>h k (by omega),h n (by omega)]
theorem OU {f g:Nat→Int}:∀ {n:Nat},(∀ k,k<n→f k≤g k)→Dw f n≤Dw g n
 |0,_=>Int.le_refl _
 |n+1,h=>by
  simp only [Dw]
  have:=OU (f:=f) (g:=g) (n:=n) fun k hk=>h k (by omega)
  have:=h n (by omega)
  omega
theorem Wj (f g:Nat→Int):∀ n,Dw (fun k=>f k+g k) n=Dw f n+Dw g n
 |0=>rfl
 |n+1=>by simp only [Dw];rw [Wj f g n];omega
theorem Tj {f:Nat→Int}:∀ {n:Nat},(∀ k,k<n→f k=0)→Dw f n=0
 |0,_=>rfl
 |n+1,h=>by simp only [Dw];rw [Tj fun k hk=>h k (by omega),h n (by omega)];rfl
theorem JG (c:Int):∀ n:Nat,Dw (fun _=>c) n=n*c
 |0=>by simp [Dw]
 |n+1=>by
  simp only [Dw];rw [JG c n]
  push_cast
  rw [Int.add_mul,Int.one_mul]
theorem jF {f:Nat→Int} {a b:Int}:∀ {n:Nat},(∀ k,k<n→a≤f k∧f k≤b)→n*a≤Dw f n∧Dw f n≤n*b:=fun {n} h=>by
 have h1:=OU (f:=fun _=>a) (g:=f) (n:=n) fun k hk=>(h k hk).1
 have h2:=OU (f:=f) (g:=fun _=>b) (n:=n) fun k hk=>(h k hk).2
 rw [JG] at h1 h2
 exact ⟨h1,h2⟩
theorem TG {f:Nat→Int} {j:Nat}:∀ {n:Nat},j<n→Dw f n=f j+Dw (fun k=>if k=j then 0 else f k) n
 |n+1,h=>by
  simp only [Dw]
  by_cases e:j=n
  ·subst e
   rw [if_pos rfl,En (f:=fun k=>if k=j then 0 else f k) (g:=f) fun k hk=>if_neg (by omega)]
   omega
  ·rw [if_neg (fun x=>e x.symm),TG (f:=f) (j:=j) (n:=n) (by omega)]
   omega
theorem Zp:∀ (n m:Nat) (κ:Nat→Nat) (f:Nat→Int),(∀ r,r<n→κ r<m)→(∀ r q,r<n→q<n→κ r=κ q→r=q)→(∀ k,k<m→(∀ r,r<n→κ r≠k)→f k=0)→Dw f m=Dw (fun r=>f (κ r)) n
 |0,m,κ,f,h1,h2,h3=>Tj fun k hk=>h3 k hk fun r hr=>by omega
 |n+1,m,κ,f,h1,h2,h3=>by
  rw [TG (h1 n (by omega))]
  have ih:=Zp n m κ (fun k=>if k=κ n then 0 else f k) (fun r hr=>h1 r (by omega)) (fun r q hr hq=>h2 r q (by omega) (by omega)) fun k hk hn=>by
   by_cases e:k=κ n
   ·simp only [if_pos e]
   ·simp only [if_neg e]
    refine h3 k hk fun r hr=>?_
    rcases Nat.lt_or_ge r n with h|h
    ·exact hn r h
    ·obtain rfl:r=n:=by omega
     exact fun x=>e x.symm
  rw [ih]
  simp only [Dw]
  rw [En (n:=n) (f:=fun r=>if κ r=κ n then 0 else f (κ r)) (g:=fun r=>f (κ r)) fun r hr=>if_neg fun e=>by have:=h2 r n (by omega) (by omega) e;omega]
  omega
theorem WH:∀ (n m:Nat) (κ:Nat→Nat) (f:Nat→Int),(∀ r q,r<n→q<n→κ r<m→κ r=κ q→r=q)→(∀ k,k<m→f k≤0)→Dw f m≤Dw (fun r=>if κ r<m then f (κ r) else 0) n
 |0,m,κ,f,h2,h3=>by
  have:=OU (f:=f) (g:=fun _=>0) (n:=m) h3
  rw [JG] at this
  simp only [Dw];omega
 |n+1,m,κ,f,h2,h3=>by
  simp only [Dw]
  by_cases hk:κ n<m
  ·rw [if_pos hk,TG hk]
   have ih:=WH n m κ (fun k=>if k=κ n then 0 else f k) (fun r q hr hq=>h2 r q (by omega) (by omega)) fun k hk=>by
    by_cases e:k=κ n
    ·simp only [if_pos e];omega
    ·simp only [if_neg e];exact h3 k hk
   have e2:Dw (fun r=>if κ r<m then (if κ r=κ n then 0 else f (κ r)) else 0) n=Dw (fun r=>if κ r<m then f (κ r) else 0) n:=En fun r hr=>by
    by_cases h:κ r<m
    ·rw [if_pos h,if_pos h,if_neg fun e=>by have:=h2 r n (by omega) (by omega) h e;omega]
    ·rw [if_neg h,if_neg h]
   rw [e2] at ih
   omega
  ·rw [if_neg hk]
   have ih:=WH n m κ f (fun r q hr hq=>h2 r q (by omega) (by omega)) h3
   omega
section
variable {costs:List (List Int)} {n m:Nat} {B:Int}
structure a8v (costs:List (List Int)) (n:Nat) (o:List Ix) (j:Nat) (x:Out):Prop where
 len:x.cols.length=n
 cols:∀ k,1≤k→k≤j→0<own o k→gi x.cols (own o k-1)=(k:Int)-1
 total:x.total=Dw (fun k=>if 0<own o (k+1) then cst costs (own o (k+1)) (k+1) else 0) j
theorem VZ {s:jq} (h:rY costs n m n s):∀ j,j≤m→a8v costs n s.owner j (KQ costs s.owner n j)
 |0,_=>⟨by simp [KQ],fun k k1 k2=>by omega,rfl⟩
 |j+1,hj=>by
  obtain ⟨i1,i2,i3⟩:=VZ h j (by omega)
  have e:KQ costs s.owner n (j+1)=qI costs s.owner (KQ costs s.owner n j) (j+1):=rfl
  rw [e]
  generalize KQ costs s.owner n j=x at *
  unfold qI
  have e2:(gi s.owner (j+1)).n=own s.owner (j+1):=rfl
  simp only [e2]
  by_cases hp:0<own s.owner (j+1)
  ·rw [if_pos hp]
   have hle:=h.own (j+1) (by omega) hj
   refine ⟨by simp [i1],fun k k1 k2 k3=>?_,?_⟩
   ·show gi (x.cols.set (own s.owner (j+1)-1) (((j+1:Nat):Int)-1)) _=_
    rw [gs (by omega)]
    by_cases e:k=j+1
    ·subst e;rw [if_pos rfl]
    ·rw [if_neg,i2 k k1 (by omega) k3]
     intro e3
     have:=h.inj k (j+1) k1 (by omega) (by omega) hj (by omega) (by omega)
     omega
   ·simp only [Dw]
    rw [if_pos hp,i3]
    unfold cst
    rfl
  ·rw [if_neg hp]
   refine ⟨i1,fun k k1 k2 k3=>?_,?_⟩
   ·by_cases e:k=j+1
    ·subst e;exact absurd k3 hp
    ·exact i2 k k1 (by omega) k3
   ·simp only [Dw]
    rw [if_neg hp,i3];omega
def Gn (costs:List (List Int)) (n m:Nat):Out:=KQ costs (Dh costs n m n).owner n m
def JU (costs:List (List Int)) (n m:Nat):List Int:=(Dh costs n m n).u.drop 1
def GY (costs:List (List Int)) (n m:Nat):List Int:=(Dh costs n m n).v.drop 1
theorem oG {α:Type} [Inhabited α] (l:List α) (j k:Nat):gi (l.drop j) k=gi l (j+k):=by
 unfold gi;rw [List.getElem?_drop]
structure a3v (c:Nat→Nat→Int) (n m:Nat) (B:Int) (x:Out) (U V:List Int):Prop where
 len:x.cols.length=n
 lU:U.length=n
 lV:V.length=m
 col:∀ r,r<n→0≤gi x.cols r∧gi x.cols r<m
 inj:∀ r q,r<n→q<n→gi x.cols r=gi x.cols q→r=q
 total:x.total=Dw (fun r=>c r (gi x.cols r).toNat) n
 VG:∀ r k,r<n→k<m→gi U r+gi V k≤c r k
 neg:∀ k,k<m→-B≤gi V k∧gi V k≤0
 pos:∀ r,r<n→0≤gi U r∧gi U r≤B
 a0x:x.total=Dw (fun r=>gi U r) n+Dw (fun k=>gi V k) m
 free:∀ k,k<m→(∀ r,r<n→gi x.cols r≠k)→gi V k=0
theorem VH (hc:Ij costs n m B):a3v (fun r k=>gi (gi costs r) k) n m B (Gn costs n m) (JU costs n m) (GY costs n m):=by
 have h:=Nw hc n (Nat.le_refl _)
 have hO:=VZ h m (Nat.le_refl _)
 have e1:KQ costs (Dh costs n m n).owner n m=Gn costs n m:=rfl
 have e2:(Dh costs n m n).u.drop 1=JU costs n m:=rfl
 have e3:(Dh costs n m n).v.drop 1=GY costs n m:=rfl
 rw [e1] at hO
 have hu:∀ r,gi (JU costs n m) r=gi (Dh costs n m n).u (r+1):=fun r=>by rw [← e2,oG,Nat.add_comm]
 have hv:∀ k,gi (GY costs n m) k=gi (Dh costs n m n).v (k+1):=fun k=>by rw [← e3,oG,Nat.add_comm]
 have lU:(JU costs n m).length=n:=by rw [← e2,List.length_drop,h.lu];omega
 have lV:(GY costs n m).length=m:=by rw [← e3,List.length_drop,h.lv];omega
 generalize JU costs n m=U at *
 generalize GY costs n m=V at *
 generalize Gn costs n m=x at *
 generalize Dh costs n m n=s at *
 have hb:=hc.big
 have hnm:=hc.nm
 have XO:∀ r,r<n→∃ k,1≤k∧k≤m∧own s.owner k=r+1∧gi x.cols r=(k:Int)-1:=fun r hr=>by
  obtain ⟨k,k1,k2,k3⟩:=h.all (r+1) (by omega) (by omega)
  have:=hO.cols k k1 k2 (by omega)
  rw [k3,Nat.add_sub_cancel] at this
  exact ⟨k,k1,k2,k3,this⟩
 have hown:∀ r,r<n→own s.owner ((gi x.cols r).toNat+1)=r+1∧(gi x.cols r).toNat<m:=fun r hr=>by
  obtain ⟨k,k1,k2,k3,k4⟩:=XO r hr
  have:(gi x.cols r).toNat+1=k:=by omega
  rw [this];exact ⟨k3,by omega⟩
 have hinj:∀ r q,r<n→q<n→(gi x.cols r).toNat=(gi x.cols q).toNat→r=q:=fun r q hr hq e=>by
  have h1:=(hown r hr).1
  have h2:=(hown q hq).1
  rw [e] at h1;omega
 have hfree:∀ k,k<m→(∀ r,r<n→(gi x.cols r).toNat≠k)→own s.owner (k+1)=0:=fun k hk hn=>by
  rcases Nat.eq_zero_or_pos (own s.owner (k+1)) with e|e
  ·exact e
  ·have hle:=h.own (k+1) (by omega) (by omega)
   have:=hO.cols (k+1) (by omega) (by omega) e
   exact absurd (by omega) (hn (own s.owner (k+1)-1) (by omega))
 have ht:x.total=Dw (fun r=>gi (gi costs r) (gi x.cols r).toNat) n:=by
  rw [hO.total,Zp n m (fun r=>(gi x.cols r).toNat) _ (fun r hr=>(hown r hr).2) hinj fun k hk hn=>by
   rw [if_neg (by rw [hfree k hk hn];omega)]]
  refine En fun r hr=>?_
  rw [(hown r hr).1,if_pos (by omega)]
  unfold cst
  rw [Nat.add_sub_cancel,Nat.add_sub_cancel]
 have hfe:∀ r k,r<n→k<m→gi U r+gi V k≤gi (gi costs r) k:=fun r k hr hk=>by
  rw [hu,hv]
  have:=h.VG (r+1) (k+1) (by omega) (by omega) (by omega) (by omega)
  unfold cst at this
  rwa [Nat.add_sub_cancel,Nat.add_sub_cancel] at this
 have hng:∀ k,k<m→gi V k≤0:=fun k hk=>by rw [hv];exact h.eX (k+1) (by omega) (by omega)
 have hps:∀ r,r<n→0≤gi U r:=fun r hr=>by rw [hu];exact h.UW (r+1) (by omega) (by omega)
 have hf:∃ k,k<m∧own s.owner (k+1)=0:=by
  refine Classical.byContradiction fun hn=>?_
  have hn:∀ k,k<m→own s.owner (k+1)≠0:=fun k h1 h3=>hn ⟨k,h1,h3⟩
  have:=VU n m (fun k=>own s.owner (k+1)-1) (fun k hk=>by
   have h1:=hn k hk
   have h2:=h.own (k+1) (by omega) (by omega)
   show own s.owner (k+1)-1<n
   omega) (fun k e hk he hf=>by
   have h1:=hn k hk
   have h2:=hn e he
   have hf:own s.owner (k+1)-1=own s.owner (e+1)-1:=hf
   have:=h.inj (k+1) (e+1) (by omega) (by omega) (by omega) (by omega) (by omega) h1
   omega)
  omega
 obtain ⟨f,f1,f2⟩:=hf
 have fv:gi V f=0:=by rw [hv];exact h.Ph (f+1) (by omega) (by omega) f2
 have hub:∀ r,r<n→gi U r≤B:=fun r hr=>by
  have h1:=hfe r f hr f1
  have h2:=hc.hi (r+1) (f+1)
  unfold cst at h2
  rw [Nat.add_sub_cancel,Nat.add_sub_cancel] at h2
  omega
 have a3m:∀ r,r<n→gi U r+gi V (gi x.cols r).toNat=gi (gi costs r) (gi x.cols r).toNat:=fun r hr=>by
  obtain ⟨h1,h2⟩:=hown r hr
  have:=h.tight ((gi x.cols r).toNat+1) (by omega) (by omega) (by omega)
  rw [h1] at this
  rw [hu,hv]
  unfold cst at this
  rwa [Nat.add_sub_cancel,Nat.add_sub_cancel] at this
 have hV0:∀ k,k<m→(∀ r,r<n→(gi x.cols r).toNat≠k)→gi V k=0:=fun k hk hn=>by
  rw [hv];exact h.Ph (k+1) (by omega) (by omega) (hfree k hk hn)
 refine ⟨hO.len,lU,lV,fun r hr=>?_,fun r q hr hq e=>hinj r q hr hq (by rw [e]),ht,hfe,fun k hk=>⟨?_,hng k hk⟩,fun r hr=>⟨hps r hr,hub r hr⟩,?_,fun k hk hn=>hV0 k hk fun r hr e=>hn r hr (by obtain ⟨j,j1,j2,j3,j4⟩:=XO r hr;omega)⟩
 ·obtain ⟨k,k1,k2,k3,k4⟩:=XO r hr
  omega
 ·by_cases e:own s.owner (k+1)=0
  ·rw [hv,h.Ph (k+1) (by omega) (by omega) e];omega
  ·have hle:=h.own (k+1) (by omega) (by omega)
   have h1:=h.tight (k+1) (by omega) (by omega) e
   have h2:=hub (own s.owner (k+1)-1) (by omega)
   rw [hu] at h2
   have h3:own s.owner (k+1)-1+1=own s.owner (k+1):=by omega
   rw [h3] at h2
   have h4:=hc.lo (own s.owner (k+1)) (k+1)
   rw [hv];omega
 ·rw [ht,En (fun r hr=>(a3m r hr).symm),Wj]
  congr 1
  rw [Zp n m (fun r=>(gi x.cols r).toNat) (fun k=>gi V k) (fun r hr=>(hown r hr).2) hinj hV0]
end
def WO (l:List (List Int)) (skip:Int) (cols:Nat→Int) (r:Nat):Int:=if cols r<0 then skip else gi (gi l r) (cols r).toNat
structure WB (n m:Nat) (cols:Nat→Int):Prop where
 rng:∀ r,r<n→-1≤cols r∧cols r<m
 inj:∀ r q,r<n→q<n→0≤cols r→cols r=cols q→r=q
structure a3q (l:List (List Int)) (n m:Nat) (skip:Int) (U V:Nat→Int):Prop where
 VG:∀ r k,r<n→k<m→U r+V k≤gi (gi l r) k
 skip:∀ r,r<n→U r≤skip
 neg:∀ k,k<m→V k≤0
theorem weak {l:List (List Int)} {n m:Nat} {skip:Int} {U V:Nat→Int} {cols:Nat→Int} (hp:a3q l n m skip U V) (hc:WB n m cols):Dw U n+Dw V m≤Dw (WO l skip cols) n:=by
 have h1:=WH n m (fun r=>if cols r<0 then m else (cols r).toNat) V (fun r q hr hq h e=>by
  by_cases a:cols r<0
  ·rw [if_pos a] at h;omega
  ·rw [if_neg a] at h e
   by_cases b:cols q<0
   ·rw [if_pos b] at e;omega
   ·rw [if_neg b] at e
    exact hc.inj r q hr hq (by omega) (by omega)) hp.neg
 have h2:=OU (n:=n) (f:=fun r=>U r+(if (if cols r<0 then m else (cols r).toNat)<m then V (if cols r<0 then m else (cols r).toNat) else 0)) (g:=WO l skip cols) fun r hr=>by
  unfold WO
  have hr1:=hc.rng r hr
  by_cases a:cols r<0
  ·simp only [if_pos a]
   rw [if_neg (by omega)]
   have:=hp.skip r hr
   omega
  ·simp only [if_neg a]
   rw [if_pos (by omega)]
   exact hp.VG r _ hr (by omega)
 rw [Wj] at h2
 omega
def Dz (l:List (List Int)) (skip:Int) (n:Nat):List (List Int):=l.map fun row=>row++List.replicate (n+1) skip
theorem gi_map' {α β:Type} [Inhabited α] [Inhabited β] (f:α→β) {l:List α} {i:Nat} (h:i<l.length):gi (l.map f) i=f (gi l i):=by
 unfold gi;simp [List.getElem?_map,List.getElem?_eq_getElem h]
structure yc (l:List (List Int)) (n m:Nat) (skip B:Int):Prop where
 len:l.length=n
 row:∀ r,r<n→(gi l r).length=m
 rng:∀ r k,r<n→k<m→0≤gi (gi l r) k∧gi (gi l r) k≤B
 skip:0≤skip∧skip≤B
 big:B≤1000000000000
theorem Ve {l:List (List Int)} {n m:Nat} {skip B:Int} (h:yc l n m skip B) {r k:Nat} (hr:r<n):gi (gi (Dz l skip n) r) k=if k<m then gi (gi l r) k else if k<m+(n+1) then skip else 0:=by
 unfold Dz
 rw [gi_map' _ (by rw [h.len];exact hr)]
 have:=h.row r hr
 unfold gi at this ⊢
 rw [List.getElem?_append]
 by_cases h1:k<m
 ·rw [if_pos (by omega),if_pos h1]
 ·rw [if_neg (by omega),if_neg h1,List.getElem?_replicate]
  by_cases h2:k<m+(n+1)
  ·rw [if_pos (by omega),if_pos h2];rfl
  ·rw [if_neg (by omega),if_neg h2];rfl
theorem YX {l:List (List Int)} {n m:Nat} {skip B:Int} (h:yc l n m skip B):Ij (Dz l skip n) n (m+(n+1)) B:=by
 have h0:=h.skip
 have hb:0≤B:=by omega
 have:∀ r k,0≤gi (gi (Dz l skip n) r) k∧gi (gi (Dz l skip n) r) k≤B:=fun r k=>by
  rcases Nat.lt_or_ge r n with h1|h1
  ·rw [Ve h h1]
   split
   ·rename_i h2;exact h.rng r k h1 h2
   ·split
    ·exact h0
    ·omega
  ·have e:gi (Dz l skip n) r=default:=by
    unfold gi Dz
    rw [List.getElem?_eq_none (by rw [List.length_map,h.len];omega)];rfl
   rw [e]
   have:gi (default:List Int) k=0:=by
    show ((([]:List Int)[k]?).getD 0)=0
    simp
   rw [this];omega
 exact ⟨fun r k=>(this _ _).1,fun r k=>(this _ _).2,⟨hb,h.big⟩,by omega⟩
def KN (m:Nat) (c:Int):Int:=if (m:Int)≤c then -1 else c
def wY (l:List (List Int)) (n m:Nat) (skip:Int):List Int:=(Gn (Dz l skip n) n (m+(n+1))).cols.map (KN m)
def lJ (l:List (List Int)) (n m:Nat) (skip:Int):Int:=(Gn (Dz l skip n) n (m+(n+1))).total
def xU (l:List (List Int)) (n m:Nat) (skip:Int):List Int:=JU (Dz l skip n) n (m+(n+1))
def tJ (l:List (List Int)) (n m:Nat) (skip:Int):List Int:=(GY (Dz l skip n) n (m+(n+1))).take m
structure a0i (l:List (List Int)) (n m:Nat) (skip B:Int) (cols U V:List Int) (total:Int):Prop where
 lC:cols.length=n
 lU:U.length=n
 lV:V.length=m
 part:WB n m (fun r=>gi cols r)
 tot:total=Dw (WO l skip fun r=>gi cols r) n
 pot:a3q l n m skip (fun r=>gi U r) (fun k=>gi V k)
 a0x:total=Dw (fun r=>gi U r) n+Dw (fun k=>gi V k) m
 a8x:∀ r,r<n→0≤gi U r∧gi U r≤B
 a6j:∀ k,k<m→-B≤gi V k∧gi V k≤0
theorem gi_take' {α:Type} [Inhabited α] (l:List α) {j k:Nat} (h:k<j):gi (l.take j) k=gi l k:=by
 unfold gi;rw [List.getElem?_take,if_pos h]
theorem P5 (f:Nat→Int) (m:Nat):∀ n,Dw f (m+n)=Dw f m+Dw (fun k=>f (m+k)) n
 |0=>by simp [Dw]
 |n+1=>by
  rw [← Nat.add_assoc]
  simp only [Dw]
  rw [P5 f m n];omega
theorem Tz {l:List (List Int)} {n m:Nat} {skip B:Int} (h:yc l n m skip B):a0i l n m skip B (wY l n m skip) (xU l n m skip) (tJ l n m skip) (lJ l n m skip):=by
 have hs:=VH (YX h)
 have eC:wY l n m skip=(Gn (Dz l skip n) n (m+(n+1))).cols.map (KN m):=rfl
 have eT:lJ l n m skip=(Gn (Dz l skip n) n (m+(n+1))).total:=rfl
 have eU:xU l n m skip=JU (Dz l skip n) n (m+(n+1)):=rfl
 have eV:tJ l n m skip=(GY (Dz l skip n) n (m+(n+1))).take m:=rfl
 rw [eC,eT,eU,eV]
 generalize Gn (Dz l skip n) n (m+(n+1))=x at *
 generalize JU (Dz l skip n) n (m+(n+1))=U at *
 generalize GY (Dz l skip n) n (m+(n+1))=V at *
 obtain ⟨s1,s2,s3,s4,s5,s6,s7,s8,s9,s10,s11⟩:=hs
 have gC:∀ r,r<n→gi (x.cols.map (KN m)) r=KN m (gi x.cols r):=fun r hr=>gi_map' _ (by omega)
 have gV:∀ k,k<m→gi (V.take m) k=gi V k:=fun k hk=>gi_take' V hk
 have part:WB n m (fun r=>gi (x.cols.map (KN m)) r):=by
  refine ⟨fun r hr=>?_,fun r q hr hq h1 h2=>?_⟩
  ·rw [gC r hr]
   have:=s4 r hr
   unfold KN;split<;>omega
  ·rw [gC r hr] at h1 h2
   rw [gC q hq] at h2
   refine s5 r q hr hq ?_
   have:=s4 q hq
   unfold KN at h1 h2
   split at h2<;>split at h2<;>omega
 have tot:x.total=Dw (WO l skip fun r=>gi (x.cols.map (KN m)) r) n:=by
  rw [s6]
  refine En fun r hr=>?_
  have:=s4 r hr
  show _=if gi (x.cols.map (KN m)) r<0 then skip else gi (gi l r) (gi (x.cols.map (KN m)) r).toNat
  rw [gC r hr,Ve h hr]
  unfold KN
  by_cases h1:(m:Int)≤gi x.cols r
  ·rw [if_pos h1,if_neg (by omega),if_pos (by omega),if_pos (by omega)]
  ·rw [if_neg h1,if_pos (by omega),if_neg (by omega)]
 have hsk:∀ r,r<n→gi U r≤skip:=fun r hr=>by
  have hx:∃ k,k<n+1∧∀ q,q<n→gi x.cols q≠((m+k:Nat):Int):=by
   refine Classical.byContradiction fun hn=>?_
   have hn:∀ k,k<n+1→∃ q,q<n∧gi x.cols q=((m+k:Nat):Int):=fun k hk=>Classical.byContradiction fun h2=>hn ⟨k,hk,fun q hq e=>h2 ⟨q,hq,e⟩⟩
   have hn':∀ k,∃ q,k<n+1→q<n∧gi x.cols q=((m+k:Nat):Int):=fun k=>by
    by_cases hk:k<n+1
    ·obtain ⟨q,hq⟩:=hn k hk;exact ⟨q,fun _=>hq⟩
    ·exact ⟨0,fun h=>absurd h hk⟩
   have hF:=fun k=>Classical.choose_spec (hn' k)
   have:=VU n (n+1) (fun k=>Classical.choose (hn' k)) (fun k hk=>(hF k hk).1) (fun k e hk he hf=>by
    have h1:=(hF k hk).2
    have h2:=(hF e he).2
    have hf:Classical.choose (hn' k)=Classical.choose (hn' e):=hf
    rw [hf,h2] at h1;omega)
   omega
  obtain ⟨k,k1,k2⟩:=hx
  have h1:=s7 r (m+k) hr (by omega)
  rw [Ve h hr,if_neg (by omega),if_pos (by omega)] at h1
  have h0:=s11 (m+k) (by omega) k2
  omega
 have a0x:Dw (fun k=>gi V k) (m+(n+1))≤Dw (fun k=>gi (V.take m) k) m:=by
  rw [P5,En (n:=m) (f:=fun k=>gi (V.take m) k) (g:=fun k=>gi V k) gV]
  have:=OU (n:=n+1) (f:=fun k=>gi V (m+k)) (g:=fun _=>0) fun k hk=>(s8 (m+k) (by omega)).2
  rw [JG] at this
  omega
 have pot:a3q l n m skip (fun r=>gi U r) (fun k=>gi (V.take m) k):=by
  refine ⟨fun r k hr hk=>?_,hsk,fun k hk=>?_⟩
  ·have h1:=s7 r k hr (by omega)
   rw [Ve h hr,if_pos hk] at h1
   show gi U r+gi (V.take m) k≤_
   rw [gV k hk];exact h1
  ·show gi (V.take m) k≤0
   rw [gV k hk];exact (s8 k (by omega)).2
 have hw:=weak pot part
 exact ⟨by rw [List.length_map,s1],s2,by rw [List.length_take,s3];omega,part,tot,pot,by omega,s9,fun k hk=>by rw [gV k hk];exact s8 k (by omega)⟩
end Go.Hun
namespace Go.Proofs.YtdabojnmoejilaaGreatDoor
open Go Go.Am Go.Vm Go.Hun
attribute [local irreducible] Aa Ag Ap Ae BD AX CO AO AL Az Vm.Done CY Bl
def sJ (l:List (List Int)):Nat:=(gi l 0).length
theorem ML (e:TypeId) (l:List (List Int)) (hl:l.length<1000000):AX env 69 [.lst e (cells l) l.length] (.p (.int .i64 (sJ l:Int))):=by
 refine AX.enter (AA (by decide)) Tryz.func69 rfl (by kernel_rfl) (by simp [Tryz.ntmps69]) ?_
 by_cases h:l.length=0
 ·have hl0:l=[]:=List.length_eq_zero_iff.1 h
  subst hl0
  repeat' (first|apply Ae.assoc|apply Ae.AB|apply Ae.BO|apply Ag.nil|apply Ag.one|(apply Aa.assign;rfl)|(apply Aa.move;rfl)|(apply Aa.int;rfl;rfl;rfl)|(apply Aa.BN;rfl;rfl)|(apply Ae.Bg;rfl))
  all_goals first|(exfalso;omega)|contradiction|(refine Done.ret rfl (.refl _) (by first|exact trivial|exact ⟨trivial,trivial,trivial⟩|exact ⟨trivial,trivial,trivial,trivial⟩) Aj.nil (Nat.zero_le _) (Nat.le_refl _) ⟨?_,rfl,rfl⟩;try rfl)
 ·repeat' (first|apply Ae.assoc|apply Ae.AB|apply Ae.Aq|apply Ae.ret|apply Ag.nil|apply Ag.one|(apply Aa.assign;rfl)|(apply Aa.move;rfl)|(apply Aa.int;rfl;rfl;rfl)|(apply Aa.aH;rfl;rfl;rfl;omega;omega;rfl)|(apply Aa.load;rfl;rfl)|(apply Aa.BN;rfl;rfl)|(apply Ae.Af;rfl)|(intro _;try (exfalso;omega)))
  all_goals first|(exfalso;omega)|contradiction|(refine Done.ret rfl (.refl _) (by first|exact trivial|exact ⟨trivial,trivial,trivial⟩|exact ⟨trivial,trivial,trivial,trivial⟩) Aj.nil (Nat.zero_le _) (Nat.le_refl _) ⟨?_,rfl,rfl⟩;try rfl)
section
variable {costs:List (List Int)} {n m:Nat} {B:Int}
theorem wP {i:Nat} {o:List Ix} {A:Nat→Nat} {t:Nat} {g:Gr} (h:iI costs n m i o A t g) (hc:Ij costs n m B) (ho:rZ m i o) (hi:i<n) (hr:Hun.own o (A t)≠0):gi (Gq costs o m g).v 0+gi (Gq costs o m g).u (i+1)=gi g.v 0+gi g.u (i+1):=by
 have hR:=J9 h hc ho hi hr
 have hS:=Nz h hc ho hi hr
 have h0:gi (CQ g) 0=true:=(hR.doneD 0).2 ⟨0,by omega,h.zero⟩
 have h1:=hS.u1 0 (Nat.zero_le _) h0
 have h2:=hS.v1 0 (Nat.zero_le _) h0
 rw [ho.zero] at h1
 show gi (Ja costs o m g).v 0+gi (Ja costs o m g).u (i+1)=_
 omega
theorem ZO {i:Nat} {s:jq} (h:rY costs n m i s) (hc:Ij costs n m B) (hi:i<n):∀ t,(∀ p,p<t→Hun.own (Jd s (i+1)) (LY costs m i s p)≠0)→gi (Ei costs (Jd s (i+1)) m (QF m s) t).v 0+gi (Ei costs (Jd s (i+1)) m (QF m s) t).u (i+1)=gi s.v 0
 |0,_=>by
  show gi s.v 0+gi s.u (i+1)=_
  rw [h.uz (i+1) (by omega)];omega
 |t+1,hp=>by
  have ih:=ZO h hc hi t fun p hp'=>hp p (by omega)
  have:=wP (Py h hc hi t fun p hp'=>hp p (by omega)) hc (YU h) hi (hp t (by omega))
  show gi (Gq costs _ m _).v 0+gi (Gq costs _ m _).u (i+1)=_
  omega
theorem iH (hc:Ij costs n m B):∀ i,i≤n→-(i*B)≤gi (Dh costs n m i).v 0∧gi (Dh costs n m i).v 0≤0
 |0,_=>by
  have:gi (Dh costs n m 0).v 0=0:=Vs 0
  rw [this];simp
 |i+1,hi=>by
  have ih:=iH hc i (by omega)
  have h:=Nw hc i (by omega)
  obtain ⟨a,b,c⟩:=ZA h hc (by omega)
  have h1:=ZO h hc (by omega) _ a
  have hg:=Py h hc (by omega) _ a
  have h2:=hg.ule hc (YU h) (by have:=hc.nm;omega) (r:=i+1) (by omega) (Nat.le_refl _)
  have h3:=hg.UW (i+1) (by omega) (Nat.le_refl _)
  have e:(Dh costs n m (i+1)).v=(Ei costs (Jd (Dh costs n m i) (i+1)) m (QF m (Dh costs n m i)) (XH costs m (Dh costs n m i) (i+1))).v:=rfl
  rw [e]
  push_cast
  rw [Int.add_mul,Int.one_mul]
  omega
end
def mM (e:TypeId) (costs:List (List Int)) (n m k row a:Nat) (s:rX) (j:Nat):Vm.Frame :=
 [(14,.p (.int .i64 s.delta)),(15,.p (.int .i64 (s.next:Int))),(16,.p (.int .i64 ((j+1:Nat):Int))),(0,.p (.lst e (cells costs) n)),(2,.ref 0 0),(3,.p (.int .i64 (n:Int))),(4,.p (.int .i64 (m:Int))),(5,.vec 1 (n+1) 0 (n+1)),(6,.vec 2 (m+1) 0 (m+1)),(7,.vec 3 (m+1) 0 (m+1)),(8,.vec 4 (m+1) 0 (m+1)),(9,.p (.int .i64 ((k+1:Nat):Int))),(10,.p (.int .i64 (a:Int))),(11,.vec 6 (m+1) 0 (m+1)),(12,.vec 7 (m+1) 0 (m+1)),(13,.p (.int .i64 (row:Int)))]
def a0k:Vm.HB:=.box 69 [.p (.val (.slice none 0 0)),.p (.int .i64 0),.p (.val (.slice none 0 0)),.p (.val (.slice none 0 0))]
def nG (n m:Nat) (u v:List Int) (o:List Ix) (done:List Bool) (s:rX):Vm.Heap :=
 [(4,.vec 3 (cells s.way) (m+1) false),(6,.vec 3 (cells s.least) (m+1) false),(7,.vec 4 (cells done) (m+1) false),(0,a0k),(1,.vec 3 (cells u) (n+1) false),(2,.vec 3 (cells v) (m+1) false),(3,.vec 3 (cells o) (m+1) false)]
theorem qG {costs:List (List Int)} {n m k row a:Nat} {B:Int} {e:TypeId} {u v:List Int} {o:List Ix} {done:List Bool} {s0:rX} (hB:0≤B∧B≤1000000000000) (hl:costs.length=n) (hm:m≤1000) (hn:n≤1000) (hr:1≤row∧row≤n) (hrl:(gi costs (row-1)).length=m) (Uz:∀ j,0≤gi (gi costs (row-1)) j∧gi (gi costs (row-1)) j≤B)
 (hu:u.length=n+1) (hv:v.length=m+1) (hd9:done.length=m+1) (h1:s0.least.length=m+1) (h2:s0.way.length=m+1) (hu9:0≤gi u row∧gi u row≤B) (hv9:∀ j,1≤j→j≤m→-B≤gi v j∧gi v j≤0) :
 Ae env 0 (Zz Tryz.f72 14) (mM e costs n m k row a s0 0) (nG n m u v o done s0) 8 (fun ex L' H' nx'=>ex=.exit 4∧XE L' H' nx' (mM e costs n m k row a (Ky (gi costs (row-1)) (gi u row) v done a s0 m) m) (nG n m u v o done (Ky (gi costs (row-1)) (gi u row) v done a s0 m)) 8):=by
 have hs1:ER .sub .i64 (row:Int) 1=some (.int .i64 ((row-1:Nat):Int)):=by
  simp only [ER]
  rw [wrap_i64 (by omega)]
  congr 2;omega
 show Ae env 0 (Code.loop _) _ _ _ _
 refine Ae.FH m (mM e costs n m k row a s0 0 |>.drop 3) (nG n m u v o done s0 |>.drop 2) (fun j _=>mM e costs n m k row a (Ky (gi costs (row-1)) (gi u row) v done a s0 j) j) (fun j _=>nG n m u v o done (Ky (gi costs (row-1)) (gi u row) v done a s0 j)) 8 (by omega) (Nat.le_refl _) ?_ ?_ ?_ ?_
 ·repeat (first|exact Ad.nil|refine Ad.same trivial rfl ?_|refine Ad.same (Ac rfl) rfl ?_|refine Ad.same ⟨trivial,Ac rfl,trivial⟩ rfl ?_|refine Ad.same ⟨trivial,Ac rfl,Ac rfl,trivial⟩ rfl ?_|refine Ad.same ⟨trivial,Ac rfl,Ac rfl,Ac rfl,trivial⟩ rfl ?_|refine Ad.same ⟨trivial,Ac rfl,Ac rfl,Ac rfl,Ac rfl,trivial⟩ rfl ?_|refine Ad.same ⟨trivial,trivial⟩ rfl ?_|refine Ad.cons trivial rfl (.of_eq (Au (by simp<;>omega))) ?_)
 ·repeat (first|exact Aj.nil|(refine Aj.cons (Ac rfl) ?_ rfl ?_ ?_;(first|exact HB.Ak rfl|exact AP.Ah _ _|(simp [HB.under,AP.under,PV.under]));(first|exact Bh.refl _|exact Bh.vec (Bf.refl _) (by simp))))
 ·intro j hj
  have hI:=RU (row:=gi costs (row-1)) (ur:=gi u row) (v:=v) (done:=done) (a:=a) (s0:=s0) h1 h2 j (by omega)
  have eS2:Ky (gi costs (row-1)) (gi u row) v done a s0 (j+1)=Lu (gi costs (row-1)) (gi u row) v done a (Ky (gi costs (row-1)) (gi u row) v done a s0 j) (j+1):=rfl
  rw [eS2]
  generalize Ky (gi costs (row-1)) (gi u row) v done a s0 j=sc at *
  have n1:=hI.ll
  have n2:=hI.lw
  have hc1:=Uz j
  have hv1:=hv9 (j+1) (by omega) (by omega)
  obtain ⟨C,hC⟩:∃ C,C=Ut (gi costs (row-1)) (gi u row) v (j+1):=⟨_,rfl⟩
  have hC':C=gi (gi costs (row-1)) j-gi u row-gi v (j+1):=hC
  have hCv:ER .sub .i64 (gi (gi costs (row-1)) j-gi u row) (gi v (j+1))=some (.int .i64 C):=by
   rw [hC']
   simp only [ER]
   rw [wrap_i64 (by omega)]
  have hs2:ER .sub .i64 ((j+1:Nat):Int) 1=some (.int .i64 (j:Int)):=by
   simp only [ER]
   rw [wrap_i64 (by omega)]
   congr 2;omega
  clear hI Uz hv9 eS2
  by_cases hd:gi done (j+1)=true
  ·have e9:Lu (gi costs (row-1)) (gi u row) v done a sc (j+1)=sc:=if_pos hd
   rw [e9]
   repeat' (first|apply Ae.assoc|apply Ae.AB|apply Ae.region|apply Ae.Aq|apply Ae.AY|apply Ae.Ai|apply AO.normal|apply AL.exit|apply Ag.nil|apply Ag.one|(apply Aa.Dn;rfl;rfl;(first|omega|(simp only [NI]<;>omega));exact congrArg (fun b=>some (FV.bool b)) (hd))|(apply Aa.assign;rfl)|(apply Aa.move;rfl)|(apply Aa.Bv;rfl;rfl;omega)|(apply Aa.int;rfl;rfl;rfl)|(apply Aa.Dj;rfl;rfl;rfl;rfl;omega)|(apply Ae.Bg;rfl)|(apply Ae.Af;rfl)|(intro _;try (exfalso;omega)))
   all_goals try (exfalso;omega)
   refine Az.normal ⟨by first|omega|decide,?_,?_⟩
   ·repeat (first|exact Ad.nil|refine Ad.same trivial rfl ?_|refine Ad.same (Ac rfl) rfl ?_|refine Ad.same ⟨trivial,Ac rfl,trivial⟩ rfl ?_|refine Ad.same ⟨trivial,Ac rfl,Ac rfl,trivial⟩ rfl ?_|refine Ad.same ⟨trivial,Ac rfl,Ac rfl,Ac rfl,trivial⟩ rfl ?_|refine Ad.same ⟨trivial,Ac rfl,Ac rfl,Ac rfl,Ac rfl,trivial⟩ rfl ?_|refine Ad.same ⟨trivial,trivial⟩ rfl ?_|refine Ad.cons trivial rfl (.of_eq (Au (by simp<;>omega))) ?_)
   ·repeat (first|exact Aj.nil|(refine Aj.cons (Ac rfl) ?_ rfl ?_ ?_;(first|exact HB.Ak rfl|exact AP.Ah _ _|(simp [HB.under,AP.under,PV.under]));(first|exact Bh.refl _|exact Bh.vec (Bf.refl _) (by simp))))
  ·have hd':gi done (j+1)=false:=by cases h:gi done (j+1)<;>simp_all
   by_cases h1:C<gi sc.least (j+1)
   ·have hld:gi (sc.least.set (j+1) C) (j+1)=C:=by rw [gs (by omega),if_pos rfl]
    by_cases h2:C<sc.delta
    ·have e9:Lu (gi costs (row-1)) (gi u row) v done a sc (j+1)=⟨sc.least.set (j+1) C,sc.way.set (j+1) ⟨a⟩,C,j+1⟩:=by
      unfold Lu
      rw [← hC,if_neg hd,if_pos h1,if_pos h2]
     rw [e9]
     repeat' (first|apply Ae.assoc|apply Ae.AB|apply Ae.BF|apply Ae.region|apply Ae.Aq|apply Ae.Ai|apply AO.normal|apply AL.normal|apply Ag.nil|apply Ap.nil|apply Ag.one|(apply Ap.bar;decide +kernel)|apply Ap.quiet|(apply Aa.Dn;rfl;rfl;(first|omega|(simp only [NI]<;>omega));exact congrArg (fun b=>some (FV.bool b)) (hd'))|(apply Aa.AV (l:=costs);rfl;rfl;rfl;omega;exact hl)|(apply Aa.int;rfl;rfl;exact hs1)|(apply Aa.int;rfl;rfl;exact hs2)|(apply Aa.int;rfl;rfl;exact hCv)|(apply Aa.D8 (y:=C);rfl;rfl;rfl;trivial;(first|rfl|(refine congrArg (fun t=>[PV.p (FV.int _ t)]) ?_;first|omega|(simp only [Int.natCast_add,Int.natCast_mul,Int.natCast_ediv,Int.natCast_emod]<;>omega)));rfl;rfl;decide;(first|omega|(simp only [List.length_set]<;>omega)))|(apply Aa.D8 (y:=(⟨a⟩:Ix));rfl;rfl;rfl;trivial;(first|rfl|(refine congrArg (fun t=>[PV.p (FV.int _ t)]) ?_;first|omega|(simp only [Int.natCast_add,Int.natCast_mul,Int.natCast_ediv,Int.natCast_emod]<;>omega)));rfl;rfl;decide;(first|omega|(simp only [List.length_set]<;>omega)))|(apply Aa.Dn;rfl;rfl;(first|omega|(simp only [List.length_set]<;>omega));exact congrArg (fun b=>some (FV.int .i64 b)) (hld))|(apply Aa.assign;rfl)|(apply Aa.move;rfl)|(apply Aa.Bv;rfl;rfl;omega)|(apply Aa.Ii;rfl;rfl;omega)|(apply Aa.int;rfl;rfl;rfl)|(apply Aa.AV;rfl;rfl;rfl;omega;rfl)|(apply Aa.Dn;rfl;rfl;omega;rfl)|(apply Aa.load;rfl;rfl)|(apply Aa.Dj;rfl;rfl;rfl;rfl;omega)|(apply Ae.Aw;rfl)|(apply Ae.Af;rfl)|(apply Ae.AZ;rfl)|(intro _;try (exfalso;omega)))
     all_goals try (exfalso;omega)
     refine Az.normal ⟨by first|omega|decide,?_,?_⟩
     ·repeat (first|exact Ad.nil|refine Ad.same trivial rfl ?_|refine Ad.same (Ac rfl) rfl ?_|refine Ad.same ⟨trivial,Ac rfl,trivial⟩ rfl ?_|refine Ad.same ⟨trivial,Ac rfl,Ac rfl,trivial⟩ rfl ?_|refine Ad.same ⟨trivial,Ac rfl,Ac rfl,Ac rfl,trivial⟩ rfl ?_|refine Ad.same ⟨trivial,Ac rfl,Ac rfl,Ac rfl,Ac rfl,trivial⟩ rfl ?_|refine Ad.same ⟨trivial,trivial⟩ rfl ?_|refine Ad.cons trivial rfl (.of_eq (Au (by simp<;>omega))) ?_)
     ·repeat (first|exact Aj.nil|(refine Aj.cons (Ac rfl) ?_ rfl ?_ ?_;(first|exact HB.Ak rfl|exact AP.Ah _ _|(simp [HB.under,AP.under,PV.under]));(first|exact Bh.refl _|exact Bh.vec (Bf.refl _) (by simp))))
    ·have e9:Lu (gi costs (row-1)) (gi u row) v done a sc (j+1)=⟨sc.least.set (j+1) C,sc.way.set (j+1) ⟨a⟩,sc.delta,sc.next⟩:=by
      unfold Lu
      rw [← hC,if_neg hd,if_pos h1,if_neg h2]
     rw [e9]
     repeat' (first|apply Ae.assoc|apply Ae.AB|apply Ae.BF|apply Ae.region|apply Ae.Aq|apply Ae.Ai|apply AO.normal|apply AL.normal|apply Ae.skip|apply Ag.nil|apply Ap.nil|apply Ag.one|(apply Ap.bar;decide +kernel)|apply Ap.quiet|(apply Aa.Dn;rfl;rfl;(first|omega|(simp only [NI]<;>omega));exact congrArg (fun b=>some (FV.bool b)) (hd'))|(apply Aa.AV (l:=costs);rfl;rfl;rfl;omega;exact hl)|(apply Aa.int;rfl;rfl;exact hs1)|(apply Aa.int;rfl;rfl;exact hs2)|(apply Aa.int;rfl;rfl;exact hCv)|(apply Aa.D8 (y:=C);rfl;rfl;rfl;trivial;(first|rfl|(refine congrArg (fun t=>[PV.p (FV.int _ t)]) ?_;first|omega|(simp only [Int.natCast_add,Int.natCast_mul,Int.natCast_ediv,Int.natCast_emod]<;>omega)));rfl;rfl;decide;(first|omega|(simp only [List.length_set]<;>omega)))|(apply Aa.D8 (y:=(⟨a⟩:Ix));rfl;rfl;rfl;trivial;(first|rfl|(refine congrArg (fun t=>[PV.p (FV.int _ t)]) ?_;first|omega|(simp only [Int.natCast_add,Int.natCast_mul,Int.natCast_ediv,Int.natCast_emod]<;>omega)));rfl;rfl;decide;(first|omega|(simp only [List.length_set]<;>omega)))|(apply Aa.Dn;rfl;rfl;(first|omega|(simp only [List.length_set]<;>omega));exact congrArg (fun b=>some (FV.int .i64 b)) (hld))|(apply Aa.assign;rfl)|(apply Aa.move;rfl)|(apply Aa.Bv;rfl;rfl;omega)|(apply Aa.Ii;rfl;rfl;omega)|(apply Aa.int;rfl;rfl;rfl)|(apply Aa.AV;rfl;rfl;rfl;omega;rfl)|(apply Aa.Dn;rfl;rfl;omega;rfl)|(apply Aa.load;rfl;rfl)|(apply Aa.Dj;rfl;rfl;rfl;rfl;omega)|(apply Ae.Aw;rfl)|(apply Ae.Af;rfl)|(apply Ae.AZ;rfl)|(intro _;try (exfalso;omega)))
     all_goals try (exfalso;omega)
     refine Az.normal ⟨by first|omega|decide,?_,?_⟩
     ·repeat (first|exact Ad.nil|refine Ad.same trivial rfl ?_|refine Ad.same (Ac rfl) rfl ?_|refine Ad.same ⟨trivial,Ac rfl,trivial⟩ rfl ?_|refine Ad.same ⟨trivial,Ac rfl,Ac rfl,trivial⟩ rfl ?_|refine Ad.same ⟨trivial,Ac rfl,Ac rfl,Ac rfl,trivial⟩ rfl ?_|refine Ad.same ⟨trivial,Ac rfl,Ac rfl,Ac rfl,Ac rfl,trivial⟩ rfl ?_|refine Ad.same ⟨trivial,trivial⟩ rfl ?_|refine Ad.cons trivial rfl (.of_eq (Au (by simp<;>omega))) ?_)
     ·repeat (first|exact Aj.nil|(refine Aj.cons (Ac rfl) ?_ rfl ?_ ?_;(first|exact HB.Ak rfl|exact AP.Ah _ _|(simp [HB.under,AP.under,PV.under]));(first|exact Bh.refl _|exact Bh.vec (Bf.refl _) (by simp))))
   ·by_cases h2:gi sc.least (j+1)<sc.delta
    ·have e9:Lu (gi costs (row-1)) (gi u row) v done a sc (j+1)=⟨sc.least,sc.way,gi sc.least (j+1),j+1⟩:=by
      unfold Lu
      rw [← hC,if_neg hd,if_neg h1,if_pos h2]
     rw [e9]
     repeat' (first|apply Ae.assoc|apply Ae.AB|apply Ae.BF|apply Ae.region|apply Ae.Aq|apply Ae.Ai|apply AO.normal|apply AL.normal|apply Ag.nil|apply Ap.nil|apply Ag.one|(apply Ap.bar;decide +kernel)|apply Ap.quiet|(apply Aa.Dn;rfl;rfl;(first|omega|(simp only [NI]<;>omega));exact congrArg (fun b=>some (FV.bool b)) (hd'))|(apply Aa.AV (l:=costs);rfl;rfl;rfl;omega;exact hl)|(apply Aa.int;rfl;rfl;exact hs1)|(apply Aa.int;rfl;rfl;exact hs2)|(apply Aa.int;rfl;rfl;exact hCv)|(apply Aa.assign;rfl)|(apply Aa.move;rfl)|(apply Aa.Bv;rfl;rfl;omega)|(apply Aa.Ii;rfl;rfl;omega)|(apply Aa.int;rfl;rfl;rfl)|(apply Aa.AV;rfl;rfl;rfl;omega;rfl)|(apply Aa.Dn;rfl;rfl;omega;rfl)|(apply Aa.load;rfl;rfl)|(apply Aa.Dj;rfl;rfl;rfl;rfl;omega)|(apply Ae.Aw;rfl)|(apply Ae.Af;rfl)|(apply Ae.AZ;rfl)|(intro _;try (exfalso;omega)))
     all_goals try (exfalso;omega)
     refine Az.normal ⟨by first|omega|decide,?_,?_⟩
     ·repeat (first|exact Ad.nil|refine Ad.same trivial rfl ?_|refine Ad.same (Ac rfl) rfl ?_|refine Ad.same ⟨trivial,Ac rfl,trivial⟩ rfl ?_|refine Ad.same ⟨trivial,Ac rfl,Ac rfl,trivial⟩ rfl ?_|refine Ad.same ⟨trivial,Ac rfl,Ac rfl,Ac rfl,trivial⟩ rfl ?_|refine Ad.same ⟨trivial,Ac rfl,Ac rfl,Ac rfl,Ac rfl,trivial⟩ rfl ?_|refine Ad.same ⟨trivial,trivial⟩ rfl ?_|refine Ad.cons trivial rfl (.of_eq (Au (by simp<;>omega))) ?_)
     ·repeat (first|exact Aj.nil|(refine Aj.cons (Ac rfl) ?_ rfl ?_ ?_;(first|exact HB.Ak rfl|exact AP.Ah _ _|(simp [HB.under,AP.under,PV.under]));(first|exact Bh.refl _|exact Bh.vec (Bf.refl _) (by simp))))
    ·have e9:Lu (gi costs (row-1)) (gi u row) v done a sc (j+1)=sc:=by
      unfold Lu
      rw [← hC,if_neg hd,if_neg h1,if_neg h2]
     rw [e9]
     repeat' (first|apply Ae.assoc|apply Ae.AB|apply Ae.BF|apply Ae.region|apply Ae.Aq|apply Ae.Ai|apply AO.normal|apply AL.normal|apply Ae.skip|apply Ag.nil|apply Ap.nil|apply Ag.one|(apply Ap.bar;decide +kernel)|apply Ap.quiet|(apply Aa.Dn;rfl;rfl;(first|omega|(simp only [NI]<;>omega));exact congrArg (fun b=>some (FV.bool b)) (hd'))|(apply Aa.AV (l:=costs);rfl;rfl;rfl;omega;exact hl)|(apply Aa.int;rfl;rfl;exact hs1)|(apply Aa.int;rfl;rfl;exact hs2)|(apply Aa.int;rfl;rfl;exact hCv)|(apply Aa.assign;rfl)|(apply Aa.move;rfl)|(apply Aa.Bv;rfl;rfl;omega)|(apply Aa.Ii;rfl;rfl;omega)|(apply Aa.int;rfl;rfl;rfl)|(apply Aa.AV;rfl;rfl;rfl;omega;rfl)|(apply Aa.Dn;rfl;rfl;omega;rfl)|(apply Aa.load;rfl;rfl)|(apply Aa.Dj;rfl;rfl;rfl;rfl;omega)|(apply Ae.Aw;rfl)|(apply Ae.Af;rfl)|(apply Ae.AZ;rfl)|(intro _;try (exfalso;omega)))
     all_goals try (exfalso;omega)
     refine Az.normal ⟨by first|omega|decide,?_,?_⟩
     ·repeat (first|exact Ad.nil|refine Ad.same trivial rfl ?_|refine Ad.same (Ac rfl) rfl ?_|refine Ad.same ⟨trivial,Ac rfl,trivial⟩ rfl ?_|refine Ad.same ⟨trivial,Ac rfl,Ac rfl,trivial⟩ rfl ?_|refine Ad.same ⟨trivial,Ac rfl,Ac rfl,Ac rfl,trivial⟩ rfl ?_|refine Ad.same ⟨trivial,Ac rfl,Ac rfl,Ac rfl,Ac rfl,trivial⟩ rfl ?_|refine Ad.same ⟨trivial,trivial⟩ rfl ?_|refine Ad.cons trivial rfl (.of_eq (Au (by simp<;>omega))) ?_)
     ·repeat (first|exact Aj.nil|(refine Aj.cons (Ac rfl) ?_ rfl ?_ ?_;(first|exact HB.Ak rfl|exact AP.Ah _ _|(simp [HB.under,AP.under,PV.under]));(first|exact Bh.refl _|exact Bh.vec (Bf.refl _) (by simp))))
 ·repeat' (first|apply Ae.assoc|apply Ae.AB|apply Ae.AY|apply Az.exit|apply Ag.nil|apply Ag.one|(apply Aa.move;rfl)|(apply Aa.int;rfl;rfl;rfl)|(apply Ae.Af;rfl)|(intro _;try (exfalso;omega)))
  all_goals try (exfalso;omega)
  refine ⟨rfl,⟨Nat.le_refl _,?_,?_⟩⟩
  ·repeat (first|exact Ad.nil|refine Ad.same trivial rfl ?_|refine Ad.same (Ac rfl) rfl ?_|refine Ad.same ⟨trivial,Ac rfl,trivial⟩ rfl ?_|refine Ad.same ⟨trivial,Ac rfl,Ac rfl,trivial⟩ rfl ?_|refine Ad.same ⟨trivial,Ac rfl,Ac rfl,Ac rfl,trivial⟩ rfl ?_|refine Ad.same ⟨trivial,Ac rfl,Ac rfl,Ac rfl,Ac rfl,trivial⟩ rfl ?_|refine Ad.same ⟨trivial,trivial⟩ rfl ?_|refine Ad.cons trivial rfl (.of_eq (Au (by simp<;>omega))) ?_)
  ·repeat (first|exact Aj.nil|(refine Aj.cons (Ac rfl) ?_ rfl ?_ ?_;(first|exact HB.Ak rfl|exact AP.Ah _ _|(simp [HB.under,AP.under,PV.under]));(first|exact Bh.refl _|exact Bh.vec (Bf.refl _) (by simp))))
end Go.Proofs.YtdabojnmoejilaaGreatDoor
namespace Go.Proofs.YtdabojnmoejilaaGreatDoor
open Go Go.Am Go.Vm Go.Hun
attribute [local irreducible] Aa Ag Ap Ae BD AX CO AO AL Az Vm.Done CY Bl
def ZQ (e:TypeId) (costs:List (List Int)) (n m k:Nat) (d:Int) (nxt:Nat) (j:Nat):Vm.Frame :=
 [(120,.p (.int .i64 (j:Int))),(0,.p (.lst e (cells costs) n)),(2,.ref 0 0),(3,.p (.int .i64 (n:Int))),(4,.p (.int .i64 (m:Int))),(5,.vec 1 (n+1) 0 (n+1)),(6,.vec 2 (m+1) 0 (m+1)),(7,.vec 3 (m+1) 0 (m+1)),(8,.vec 4 (m+1) 0 (m+1)),(9,.p (.int .i64 ((k+1:Nat):Int))),(11,.vec 6 (m+1) 0 (m+1)),(12,.vec 7 (m+1) 0 (m+1)),(14,.p (.int .i64 d)),(15,.p (.int .i64 (nxt:Int))),(119,.p (.int .i64 ((m+1:Nat):Int)))]
def Zj (n m:Nat) (o way:List Ix) (done:List Bool) (t:yP):Vm.Heap :=
 [(1,.vec 3 (cells t.u) (n+1) false),(2,.vec 3 (cells t.v) (m+1) false),(6,.vec 3 (cells t.least) (m+1) false),(0,a0k),(3,.vec 3 (cells o) (m+1) false),(4,.vec 3 (cells way) (m+1) false),(7,.vec 4 (cells done) (m+1) false)]
theorem jv {costs:List (List Int)} {n m k nxt:Nat} {d:Int} {e:TypeId} {o way:List Ix} {done:List Bool} {t0:yP} (hd:0≤d∧d≤1000000000000) (hm:m≤1000) (hn:n≤1000) (hu:t0.u.length=n+1) (hv:t0.v.length=m+1) (hl:t0.least.length=m+1) (ho:o.length=m+1) (hD:done.length=m+1)
 (h1:∀ j,j≤m→gi done j=true→(gi o j).n<t0.u.length) (h2:∀ j i,j≤m→i≤m→gi done j=true→gi done i=true→(gi o j).n=(gi o i).n→j=i)
 (hub:∀ j,j≤m→gi done j=true→0≤gi t0.u (gi o j).n∧gi t0.u (gi o j).n≤1000000000000) (hvb:∀ j,j≤m→-2000000000000000≤gi t0.v j∧gi t0.v j≤0) (hlb:∀ j,j≤m→gi done j=false→0≤gi t0.least j∧gi t0.least j≤far) :
 Ae env 0 (Zz Tryz.f72 23) (ZQ e costs n m k d nxt 0) (Zj n m o way done t0) 8 (fun ex L' H' nx'=>ex=.exit 6∧XE L' H' nx' (ZQ e costs n m k d nxt (m+1)) (Zj n m o way done (Ie o done d t0 (m+1))) 8):=by
 have hf:far=1152921504606846976:=rfl
 show Ae env 0 (Code.loop _) _ _ _ _
 refine Ae.FH (m+1) (ZQ e costs n m k d nxt 0 |>.drop 1) (Zj n m o way done t0 |>.drop 3) (fun j _=>ZQ e costs n m k d nxt j) (fun j _=>Zj n m o way done (Ie o done d t0 j)) 8 (by omega) (Nat.le_refl _) ?_ ?_ ?_ ?_
 ·repeat (first|exact Ad.nil|refine Ad.same trivial rfl ?_|refine Ad.same (Ac rfl) rfl ?_|refine Ad.same ⟨trivial,Ac rfl,trivial⟩ rfl ?_|refine Ad.same ⟨trivial,Ac rfl,Ac rfl,trivial⟩ rfl ?_|refine Ad.same ⟨trivial,Ac rfl,Ac rfl,Ac rfl,trivial⟩ rfl ?_|refine Ad.same ⟨trivial,Ac rfl,Ac rfl,Ac rfl,Ac rfl,trivial⟩ rfl ?_|refine Ad.same ⟨trivial,trivial⟩ rfl ?_|refine Ad.cons trivial rfl (.of_eq (Au (by simp<;>omega))) ?_)
 ·repeat (first|exact Aj.nil|(refine Aj.cons (Ac rfl) ?_ rfl ?_ ?_;(first|exact HB.Ak rfl|exact AP.Ah _ _|(simp [HB.under,AP.under,PV.under]));(first|exact Bh.refl _|exact Bh.vec (Bf.refl _) (by simp))))
 ·intro j hj
  have hI:=Go.Hun.J8 (owner:=o) (done:=done) (delta:=d) (t:=t0) (m:=m) hv hl h1 h2 j (by omega)
  have eS2:Ie o done d t0 (j+1)=Td o done d (Ie o done d t0 j) j:=rfl
  rw [eS2]
  generalize Ie o done d t0 j=sc at *
  have n1:=hI.lu
  have n2:=hI.lv
  have n3:=hI.ll
  have hv1:=hvb j (by omega)
  have ev:gi sc.v j=gi t0.v j:=by rw [hI.v,if_neg (by omega)]
  by_cases hdj:gi done j=true
  ·have hu1:=hub j (by omega) hdj
   have hlt:=h1 j (by omega) hdj
   have eu:gi sc.u (gi o j).n=gi t0.u (gi o j).n:=hI.u0 _ fun i hi hi2 e=>by have:=h2 i j (by omega) (by omega) hi2 hdj e;omega
   have e9:Td o done d sc j=⟨sc.u.set (gi o j).n (gi sc.u (gi o j).n+d),sc.v.set j (gi sc.v j-d),sc.least⟩:=if_pos hdj
   rw [e9]
   clear hI hub hvb hlb h1 h2 eS2
   repeat' (first|apply Ae.AB|apply Ae.region|apply Ae.Aq|apply Ae.Ai|apply AO.normal|apply AL.normal|apply Ag.nil|apply Ag.one|(apply Aa.Dn;rfl;rfl;(first|omega|(simp only [NI]<;>omega));exact congrArg (fun b=>some (FV.bool b)) (hdj))|(apply Aa.D8 (y:=(gi sc.u (gi o j).n+d));rfl;rfl;rfl;trivial;(first|rfl|(refine congrArg (fun t=>[PV.p (FV.int _ t)]) ?_;first|omega|(simp only [Int.natCast_add,Int.natCast_mul,Int.natCast_ediv,Int.natCast_emod]<;>omega)));rfl;rfl;decide;(first|omega|(simp only [List.length_set]<;>omega)))|(apply Aa.D8 (y:=(gi sc.v j-d));rfl;rfl;rfl;trivial;(first|rfl|(refine congrArg (fun t=>[PV.p (FV.int _ t)]) ?_;first|omega|(simp only [Int.natCast_add,Int.natCast_mul,Int.natCast_ediv,Int.natCast_emod]<;>omega)));rfl;rfl;decide;(first|omega|(simp only [List.length_set]<;>omega)))|(apply Aa.assign;rfl)|(apply Aa.move;rfl)|(apply Aa.Bv;rfl;rfl;omega)|(apply Aa.Ii;rfl;rfl;omega)|(apply Aa.int;rfl;rfl;rfl)|(apply Aa.Dn;rfl;rfl;omega;rfl)|(apply Aa.Dj;rfl;rfl;rfl;rfl;omega)|(apply Ae.Af;rfl)|(apply Ae.cond_true;rfl)|(intro _;try (exfalso;omega)))
   all_goals try (exfalso;omega)
   refine Az.normal ⟨by first|omega|decide,?_,?_⟩
   ·repeat (first|exact Ad.nil|refine Ad.same trivial rfl ?_|refine Ad.same (Ac rfl) rfl ?_|refine Ad.same ⟨trivial,Ac rfl,trivial⟩ rfl ?_|refine Ad.same ⟨trivial,Ac rfl,Ac rfl,trivial⟩ rfl ?_|refine Ad.same ⟨trivial,Ac rfl,Ac rfl,Ac rfl,trivial⟩ rfl ?_|refine Ad.same ⟨trivial,Ac rfl,Ac rfl,Ac rfl,Ac rfl,trivial⟩ rfl ?_|refine Ad.same ⟨trivial,trivial⟩ rfl ?_|refine Ad.cons trivial rfl (.of_eq (Au (by simp<;>omega))) ?_)
   ·repeat (first|exact Aj.nil|(refine Aj.cons (Ac rfl) ?_ rfl ?_ ?_;(first|exact HB.Ak rfl|exact AP.Ah _ _|(simp [HB.under,AP.under,PV.under]));(first|exact Bh.refl _|exact Bh.vec (Bf.refl _) (by simp))))
  ·have hdj':gi done j=false:=by cases h:gi done j<;>simp_all
   have hl1:=hlb j (by omega) hdj'
   have el:gi sc.least j=gi t0.least j:=by rw [hI.least,if_neg (by omega)]
   have e9:Td o done d sc j=⟨sc.u,sc.v,sc.least.set j (gi sc.least j-d)⟩:=if_neg hdj
   rw [e9]
   clear hI hub hvb hlb h1 h2 eS2
   repeat' (first|apply Ae.AB|apply Ae.region|apply Ae.Aq|apply Ae.Ai|apply AO.normal|apply AL.normal|apply Ag.nil|apply Ag.one|(apply Aa.Dn;rfl;rfl;(first|omega|(simp only [NI]<;>omega));exact congrArg (fun b=>some (FV.bool b)) (hdj'))|(apply Aa.D8 (y:=(gi sc.least j-d));rfl;rfl;rfl;trivial;(first|rfl|(refine congrArg (fun t=>[PV.p (FV.int _ t)]) ?_;first|omega|(simp only [Int.natCast_add,Int.natCast_mul,Int.natCast_ediv,Int.natCast_emod]<;>omega)));rfl;rfl;decide;(first|omega|(simp only [List.length_set]<;>omega)))|(apply Aa.assign;rfl)|(apply Aa.move;rfl)|(apply Aa.Bv;rfl;rfl;omega)|(apply Aa.Ii;rfl;rfl;omega)|(apply Aa.int;rfl;rfl;rfl)|(apply Aa.Dn;rfl;rfl;omega;rfl)|(apply Aa.Dj;rfl;rfl;rfl;rfl;omega)|(apply Ae.Af;rfl)|(apply Ae.cond_false;rfl)|(intro _;try (exfalso;omega)))
   all_goals try (exfalso;omega)
   refine Az.normal ⟨by first|omega|decide,?_,?_⟩
   ·repeat (first|exact Ad.nil|refine Ad.same trivial rfl ?_|refine Ad.same (Ac rfl) rfl ?_|refine Ad.same ⟨trivial,Ac rfl,trivial⟩ rfl ?_|refine Ad.same ⟨trivial,Ac rfl,Ac rfl,trivial⟩ rfl ?_|refine Ad.same ⟨trivial,Ac rfl,Ac rfl,Ac rfl,trivial⟩ rfl ?_|refine Ad.same ⟨trivial,Ac rfl,Ac rfl,Ac rfl,Ac rfl,trivial⟩ rfl ?_|refine Ad.same ⟨trivial,trivial⟩ rfl ?_|refine Ad.cons trivial rfl (.of_eq (Au (by simp<;>omega))) ?_)
   ·repeat (first|exact Aj.nil|(refine Aj.cons (Ac rfl) ?_ rfl ?_ ?_;(first|exact HB.Ak rfl|exact AP.Ah _ _|(simp [HB.under,AP.under,PV.under]));(first|exact Bh.refl _|exact Bh.vec (Bf.refl _) (by simp))))
 ·repeat' (first|apply Ae.AB|apply Ae.AY|apply Az.exit|apply Ag.nil|apply Ag.one|(apply Aa.int;rfl;rfl;rfl)|(apply Ae.Af;rfl)|(intro _;try (exfalso;omega)))
  all_goals try (exfalso;omega)
  refine ⟨rfl,⟨Nat.le_refl _,?_,?_⟩⟩
  ·repeat (first|exact Ad.nil|refine Ad.same trivial rfl ?_|refine Ad.same (Ac rfl) rfl ?_|refine Ad.same ⟨trivial,Ac rfl,trivial⟩ rfl ?_|refine Ad.same ⟨trivial,Ac rfl,Ac rfl,trivial⟩ rfl ?_|refine Ad.same ⟨trivial,Ac rfl,Ac rfl,Ac rfl,trivial⟩ rfl ?_|refine Ad.same ⟨trivial,Ac rfl,Ac rfl,Ac rfl,Ac rfl,trivial⟩ rfl ?_|refine Ad.same ⟨trivial,trivial⟩ rfl ?_|refine Ad.cons trivial rfl (.of_eq (Au (by simp<;>omega))) ?_)
  ·repeat (first|exact Aj.nil|(refine Aj.cons (Ac rfl) ?_ rfl ?_ ?_;(first|exact HB.Ak rfl|exact AP.Ah _ _|(simp [HB.under,AP.under,PV.under]));(first|exact Bh.refl _|exact Bh.vec (Bf.refl _) (by simp))))
def zG (e:TypeId) (costs:List (List Int)) (n m k:Nat) (a:Nat):Vm.Frame :=
 [(10,.p (.int .i64 (a:Int))),(0,.p (.lst e (cells costs) n)),(2,.ref 0 0),(3,.p (.int .i64 (n:Int))),(4,.p (.int .i64 (m:Int))),(5,.vec 1 (n+1) 0 (n+1)),(6,.vec 2 (m+1) 0 (m+1)),(7,.vec 3 (m+1) 0 (m+1)),(8,.vec 4 (m+1) 0 (m+1)),(9,.p (.int .i64 ((k+1:Nat):Int)))]
def a0g (n m:Nat) (u v:List Int) (way o:List Ix):Vm.Heap :=
 [(3,.vec 3 (cells o) (m+1) false),(0,a0k),(1,.vec 3 (cells u) (n+1) false),(2,.vec 3 (cells v) (m+1) false),(4,.vec 3 (cells way) (m+1) false)]
theorem tZ {costs:List (List Int)} {n m k U:Nat} {e:TypeId} {u v:List Int} {way:List Ix} {a:Aug} (hm:m≤1000) (hw:way.length=m+1) (hlen:∀ t,t≤U→(GL way a t).owner.length=m+1) (hgo:∀ t,t<U→(GL way a t).at_≠0) (hle:∀ t,t≤U→(GL way a t).at_≤m) (hfin:(GL way a U).at_=0) :
 Ae env 0 (Zz Tryz.f72 31) (zG e costs n m k a.at_) (a0g n m u v way a.owner) 5 (fun ex L' H' nx'=>ex=.exit 8∧XE L' H' nx' (zG e costs n m k 0) (a0g n m u v way (GL way a U).owner) 5):=by
 show Ae env 0 (Code.loop _) _ _ _ _
 refine Ae.FH U (zG e costs n m k a.at_ |>.drop 1) (a0g n m u v way a.owner |>.drop 1) (fun t _=>zG e costs n m k (GL way a t).at_) (fun t _=>a0g n m u v way (GL way a t).owner) 5 (by omega) (Nat.le_refl _) ?_ ?_ ?_ ?_
 ·repeat (first|exact Ad.nil|refine Ad.same trivial rfl ?_|refine Ad.same (Ac rfl) rfl ?_|refine Ad.same ⟨trivial,Ac rfl,trivial⟩ rfl ?_|refine Ad.same ⟨trivial,Ac rfl,Ac rfl,trivial⟩ rfl ?_|refine Ad.same ⟨trivial,Ac rfl,Ac rfl,Ac rfl,trivial⟩ rfl ?_|refine Ad.same ⟨trivial,Ac rfl,Ac rfl,Ac rfl,Ac rfl,trivial⟩ rfl ?_|refine Ad.same ⟨trivial,trivial⟩ rfl ?_|refine Ad.cons trivial rfl (.of_eq (Au (by simp<;>omega))) ?_)
 ·repeat (first|exact Aj.nil|(refine Aj.cons (Ac rfl) ?_ rfl ?_ ?_;(first|exact HB.Ak rfl|exact AP.Ah _ _|(simp [HB.under,AP.under,PV.under]));(first|exact Bh.refl _|exact Bh.vec (Bf.refl _) (by simp))))
 ·intro t ht
  have h1:=hlen t (by omega)
  have h2:=hgo t ht
  have h3:=hle t (by omega)
  have h4:=hle (t+1) (by omega)
  have e1:GL way a (t+1)=⟨(GL way a t).owner.set (GL way a t).at_ (gi (GL way a t).owner (gi way (GL way a t).at_).n),(gi way (GL way a t).at_).n⟩:=rfl
  rw [e1] at h4 ⊢
  have h4:(gi way (GL way a t).at_).n≤m:=h4
  generalize GL way a t=x at *
  repeat' (first|apply Ae.assoc|apply Ae.AB|apply Ae.region|apply Ae.Aq|apply AL.normal|apply Ae.Jc|apply Ag.nil|apply Ag.one|(apply Aa.D8 (y:=(gi x.owner (gi way x.at_).n));rfl;rfl;rfl;trivial;(first|rfl|(refine congrArg (fun t=>[PV.p (FV.int _ t)]) ?_;first|omega|(simp only [Int.natCast_add,Int.natCast_mul,Int.natCast_ediv,Int.natCast_emod]<;>omega)));rfl;rfl;decide;(first|omega|(simp only [List.length_set]<;>omega)))|(apply Aa.assign;rfl)|(apply Aa.move;rfl)|(apply Aa.int;rfl;rfl;rfl)|(apply Aa.Dn;rfl;rfl;omega;rfl)|(apply Aa.Dj;rfl;rfl;rfl;rfl;omega)|(apply Ae.Af;rfl)|(intro _;try (exfalso;omega)))
  all_goals try (exfalso;omega)
  refine Az.normal ⟨by first|omega|decide,?_,?_⟩
  ·repeat (first|exact Ad.nil|refine Ad.same trivial rfl ?_|refine Ad.same (Ac rfl) rfl ?_|refine Ad.same ⟨trivial,Ac rfl,trivial⟩ rfl ?_|refine Ad.same ⟨trivial,Ac rfl,Ac rfl,trivial⟩ rfl ?_|refine Ad.same ⟨trivial,Ac rfl,Ac rfl,Ac rfl,trivial⟩ rfl ?_|refine Ad.same ⟨trivial,Ac rfl,Ac rfl,Ac rfl,Ac rfl,trivial⟩ rfl ?_|refine Ad.same ⟨trivial,trivial⟩ rfl ?_|refine Ad.cons trivial rfl (.of_eq (Au (by simp<;>omega))) ?_)
  ·repeat (first|exact Aj.nil|(refine Aj.cons (Ac rfl) ?_ rfl ?_ ?_;(first|exact HB.Ak rfl|exact AP.Ah _ _|(simp [HB.under,AP.under,PV.under]));(first|exact Bh.refl _|exact Bh.vec (Bf.refl _) (by simp))))
 ·rw [hfin]
  repeat' (first|apply Ae.assoc|apply Ae.AB|apply Ae.AY|apply Az.exit|apply Ag.nil|apply Ag.one|(apply Aa.move;rfl)|(apply Aa.int;rfl;rfl;rfl)|(apply Ae.Aw;rfl))
  all_goals try (exfalso;omega)
  refine ⟨rfl,⟨Nat.le_refl _,?_,?_⟩⟩
  ·repeat (first|exact Ad.nil|refine Ad.same trivial rfl ?_|refine Ad.same (Ac rfl) rfl ?_|refine Ad.same ⟨trivial,Ac rfl,trivial⟩ rfl ?_|refine Ad.same ⟨trivial,Ac rfl,Ac rfl,trivial⟩ rfl ?_|refine Ad.same ⟨trivial,Ac rfl,Ac rfl,Ac rfl,trivial⟩ rfl ?_|refine Ad.same ⟨trivial,Ac rfl,Ac rfl,Ac rfl,Ac rfl,trivial⟩ rfl ?_|refine Ad.same ⟨trivial,trivial⟩ rfl ?_|refine Ad.cons trivial rfl (.of_eq (Au (by simp<;>omega))) ?_)
  ·repeat (first|exact Aj.nil|(refine Aj.cons (Ac rfl) ?_ rfl ?_ ?_;(first|exact HB.Ak rfl|exact AP.Ah _ _|(simp [HB.under,AP.under,PV.under]));(first|exact Bh.refl _|exact Bh.vec (Bf.refl _) (by simp))))
def a0h (e:TypeId) (costs:List (List Int)) (n m:Nat) (j:Nat):Vm.Frame :=
 [(20,.p (.int .i64 ((j+1:Nat):Int))),(0,.p (.lst e (cells costs) n)),(2,.ref 0 0),(4,.p (.int .i64 (m:Int))),(7,.vec 3 (m+1) 0 (m+1)),(19,.ref 6 0)]
def zn (n m:Nat) (U V:List Int) (o:List Ix) (x:Out):Vm.Heap :=
 [(5,.vec 3 (cells x.cols) n false),(6,.box 69 [.vec 5 n 0 n,.p (.int .i64 x.total),.p (.lst 3 (cells U) n),.p (.lst 3 (cells V) m)]),(0,a0k),(3,.vec 3 (cells o) (m+1) false)]
theorem tN {costs:List (List Int)} {n m:Nat} {e:TypeId} {U V:List Int} {o:List Ix} (hm:m≤1000) (hn:n≤1000) (hl:costs.length=n) (hrow:∀ r,r<n→(gi costs r).length=m) (ho:o.length=m+1) (hle:∀ j,1≤j→j≤m→(gi o j).n≤n) (hlen:∀ j,j≤m→(KQ costs o n j).cols.length=n)
 (Uz:∀ r j,0≤gi (gi costs r) j∧gi (gi costs r) j≤1000000000000) (htot:∀ j,j≤m→0≤(KQ costs o n j).total∧(KQ costs o n j).total≤1000000000000000) :
 Ae env 0 (Zz Tryz.f72 36) (a0h e costs n m 0) (zn n m U V o (KQ costs o n 0)) 7 (fun ex L' H' nx'=>ex=.exit 10∧XE L' H' nx' (a0h e costs n m m) (zn n m U V o (KQ costs o n m)) 7):=by
 show Ae env 0 (Code.loop _) _ _ _ _
 refine Ae.FH m (a0h e costs n m 0 |>.drop 1) (zn n m U V o (KQ costs o n 0) |>.drop 2) (fun j _=>a0h e costs n m j) (fun j _=>zn n m U V o (KQ costs o n j)) 7 (by omega) (Nat.le_refl _) ?_ ?_ ?_ ?_
 ·repeat (first|exact Ad.nil|refine Ad.same trivial rfl ?_|refine Ad.same (Ac rfl) rfl ?_|refine Ad.same ⟨trivial,Ac rfl,trivial⟩ rfl ?_|refine Ad.same ⟨trivial,Ac rfl,Ac rfl,trivial⟩ rfl ?_|refine Ad.same ⟨trivial,Ac rfl,Ac rfl,Ac rfl,trivial⟩ rfl ?_|refine Ad.same ⟨trivial,Ac rfl,Ac rfl,Ac rfl,Ac rfl,trivial⟩ rfl ?_|refine Ad.same ⟨trivial,trivial⟩ rfl ?_|refine Ad.cons trivial rfl (.of_eq (Au (by simp<;>omega))) ?_)
 ·repeat (first|exact Aj.nil|(refine Aj.cons (Ac rfl) ?_ rfl ?_ ?_;(first|exact HB.Ak rfl|exact AP.Ah _ _|(simp [HB.under,AP.under,PV.under]));(first|exact Bh.refl _|exact Bh.vec (Bf.refl _) (by simp))))
 ·intro j hj
  have h1:=hlen j (by omega)
  have h2:=htot j (by omega)
  have h3:=hle (j+1) (by omega) (by omega)
  have e1:KQ costs o n (j+1)=qI costs o (KQ costs o n j) (j+1):=rfl
  rw [e1]
  generalize KQ costs o n j=x at *
  by_cases hp:0<(gi o (j+1)).n
  ·have e9:qI costs o x (j+1)=⟨x.cols.set ((gi o (j+1)).n-1) (((j+1:Nat):Int)-1),x.total+gi (gi costs ((gi o (j+1)).n-1)) j⟩:=if_pos hp
   rw [e9]
   have hrl:=hrow ((gi o (j+1)).n-1) (by omega)
   have hc1:=Uz ((gi o (j+1)).n-1) j
   have hs1:ER .sub .i64 ((gi o (j+1)).n:Int) 1=some (.int .i64 (((gi o (j+1)).n-1:Nat):Int)):=by
    simp only [ER]
    rw [wrap_i64 (by omega)]
    congr 2;omega
   have hs2:ER .sub .i64 ((j+1:Nat):Int) 1=some (.int .i64 (j:Int)):=by
    simp only [ER]
    rw [wrap_i64 (by omega)]
    congr 2;omega
   clear Uz htot hlen hle e1
   repeat' (first|apply Ae.assoc|apply Ae.AB|apply Ae.region|apply Ae.ES|apply Ae.Aq|apply Ae.Ai|apply AO.normal|apply AL.normal|apply Ag.nil|apply Ap.nil|apply Ag.one|(apply Ap.bar;decide +kernel)|apply Ap.quiet|(apply Aa.AV (l:=costs);rfl;rfl;rfl;omega;exact hl)|(apply Aa.int;rfl;rfl;exact hs1)|(apply Aa.int;rfl;rfl;exact hs2)|(apply Aa.D8 (y:=(((j+1:Nat):Int)-1));rfl;rfl;rfl;trivial;(first|rfl|(refine congrArg (fun t=>[PV.p (FV.int _ t)]) ?_;first|omega|(simp only [Int.natCast_add,Int.natCast_mul,Int.natCast_ediv,Int.natCast_emod]<;>omega)));rfl;rfl;decide;(first|omega|(simp only [List.length_set]<;>omega)))|(apply Aa.assign;rfl)|(apply Aa.move;rfl)|(apply Aa.Bv;rfl;rfl;omega)|(apply Aa.int;rfl;rfl;rfl)|(apply Aa.AV;rfl;rfl;rfl;omega;rfl)|(apply Aa.Dn;rfl;rfl;omega;rfl)|(apply Aa.load;rfl;rfl)|(apply Aa.AU;rfl;rfl;rfl)|(apply Aa.Bj;rfl;rfl;rfl;trivial;rfl;rfl;exact Ac rfl;exact le_dec rfl)|(apply Aa.Dj;rfl;rfl;rfl;rfl;omega)|(apply Ae.Af;rfl)|(apply Ae.AZ;rfl)|(intro _;try (exfalso;omega)))
   all_goals try (exfalso;omega)
   refine Az.normal ⟨by first|omega|decide,?_,?_⟩
   ·repeat (first|exact Ad.nil|refine Ad.same trivial rfl ?_|refine Ad.same (Ac rfl) rfl ?_|refine Ad.same ⟨trivial,Ac rfl,trivial⟩ rfl ?_|refine Ad.same ⟨trivial,Ac rfl,Ac rfl,trivial⟩ rfl ?_|refine Ad.same ⟨trivial,Ac rfl,Ac rfl,Ac rfl,trivial⟩ rfl ?_|refine Ad.same ⟨trivial,Ac rfl,Ac rfl,Ac rfl,Ac rfl,trivial⟩ rfl ?_|refine Ad.same ⟨trivial,trivial⟩ rfl ?_|refine Ad.cons trivial rfl (.of_eq (Au (by simp<;>omega))) ?_)
   ·repeat (first|exact Aj.nil|(refine Aj.cons (Ac rfl) ?_ rfl ?_ ?_;(first|exact HB.Ak rfl|exact AP.Ah _ _|(simp [HB.under,AP.under,PV.under]));(first|exact Bh.refl _|exact Bh.vec (Bf.refl _) (by simp))))
  ·have e9:qI costs o x (j+1)=x:=if_neg hp
   rw [e9]
   clear Uz htot hlen hle e1
   repeat' (first|apply Ae.assoc|apply Ae.AB|apply Ae.region|apply Ae.Aq|apply Ae.Ai|apply AO.normal|apply AL.normal|apply Ae.skip|apply Ag.nil|apply Ag.one|(apply Aa.assign;rfl)|(apply Aa.move;rfl)|(apply Aa.Bv;rfl;rfl;omega)|(apply Aa.int;rfl;rfl;rfl)|(apply Aa.Dn;rfl;rfl;omega;rfl)|(apply Aa.Dj;rfl;rfl;rfl;rfl;omega)|(apply Ae.Af;rfl)|(apply Ae.AZ;rfl)|(intro _;try (exfalso;omega)))
   all_goals try (exfalso;omega)
   refine Az.normal ⟨by first|omega|decide,?_,?_⟩
   ·repeat (first|exact Ad.nil|refine Ad.same trivial rfl ?_|refine Ad.same (Ac rfl) rfl ?_|refine Ad.same ⟨trivial,Ac rfl,trivial⟩ rfl ?_|refine Ad.same ⟨trivial,Ac rfl,Ac rfl,trivial⟩ rfl ?_|refine Ad.same ⟨trivial,Ac rfl,Ac rfl,Ac rfl,trivial⟩ rfl ?_|refine Ad.same ⟨trivial,Ac rfl,Ac rfl,Ac rfl,Ac rfl,trivial⟩ rfl ?_|refine Ad.same ⟨trivial,trivial⟩ rfl ?_|refine Ad.cons trivial rfl (.of_eq (Au (by simp<;>omega))) ?_)
   ·repeat (first|exact Aj.nil|(refine Aj.cons (Ac rfl) ?_ rfl ?_ ?_;(first|exact HB.Ak rfl|exact AP.Ah _ _|(simp [HB.under,AP.under,PV.under]));(first|exact Bh.refl _|exact Bh.vec (Bf.refl _) (by simp))))
 ·repeat' (first|apply Ae.assoc|apply Ae.AB|apply Ae.AY|apply Az.exit|apply Ag.nil|apply Ag.one|(apply Aa.move;rfl)|(apply Aa.int;rfl;rfl;rfl)|(apply Ae.Af;rfl)|(intro _;try (exfalso;omega)))
  all_goals try (exfalso;omega)
  refine ⟨rfl,⟨Nat.le_refl _,?_,?_⟩⟩
  ·repeat (first|exact Ad.nil|refine Ad.same trivial rfl ?_|refine Ad.same (Ac rfl) rfl ?_|refine Ad.same ⟨trivial,Ac rfl,trivial⟩ rfl ?_|refine Ad.same ⟨trivial,Ac rfl,Ac rfl,trivial⟩ rfl ?_|refine Ad.same ⟨trivial,Ac rfl,Ac rfl,Ac rfl,trivial⟩ rfl ?_|refine Ad.same ⟨trivial,Ac rfl,Ac rfl,Ac rfl,Ac rfl,trivial⟩ rfl ?_|refine Ad.same ⟨trivial,trivial⟩ rfl ?_|refine Ad.cons trivial rfl (.of_eq (Au (by simp<;>omega))) ?_)
  ·repeat (first|exact Aj.nil|(refine Aj.cons (Ac rfl) ?_ rfl ?_ ?_;(first|exact HB.Ak rfl|exact AP.Ah _ _|(simp [HB.under,AP.under,PV.under]));(first|exact Bh.refl _|exact Bh.vec (Bf.refl _) (by simp))))
end Go.Proofs.YtdabojnmoejilaaGreatDoor
namespace Go.Proofs.YtdabojnmoejilaaGreatDoor
open Go Go.Am Go.Vm Go.Hun
attribute [local irreducible] Aa Ag Ap Ae BD AX CO AO AL Az Vm.Done CY Bl
def a2e (costs:List (List Int)) (n m:Nat):PV:=.agg [.vec 5 n 0 n,.p (.int .i64 (Gn costs n m).total),.p (.lst 3 (cells (JU costs n m)) n),.p (.lst 3 (cells (GY costs n m)) m)]
theorem aZ {costs:List (List Int)} {n m:Nat} {B:Int} (e:TypeId) (hc:Ij costs n m B) (hl:costs.length=n) (hrow:∀ r,r<n→(gi costs r).length=m) (hn:1≤n) (hm:m≤1000) :
 BD env 72 [.p (.lst e (cells costs) n)] [] 0 fun r H' nx'=>r=a2e costs n m∧H'=[(5,.vec 3 (cells (Gn costs n m).cols) n false)]∧nx'=6:=by
 have XO:AX env 69 [.lst e (cells costs) n] (.p (.int .i64 (m:Int))):=by
  have:=ML e costs (by have:=hc.nm;omega)
  rw [hl] at this
  rwa [show sJ costs=m from hrow 0 (by omega)] at this
 have hnm:=hc.nm
 have hB:=hc.big
 refine BD.enter (AA (by decide)) Tryz.func72 rfl (by kernel_rfl) (by simp [Tryz.ntmps72]) ?_
 repeat' (first|apply Ae.assoc|apply Ae.AB|apply Ae.BF|apply Ae.Ai|apply Ag.nil|apply Ap.nil|apply Ag.one|(apply Ap.bar;decide +kernel)|apply Ap.quiet|(apply Aa.fn;rfl;rfl;exact XO;intro _;rfl)|(apply Aa.DR (n+1) (0:Int);rfl;rfl;rfl;rfl;rfl;omega;omega;omega;decide;decide;rfl)|(apply Aa.DR (dst:=some 34) (m+1) (⟨0⟩:Ix);rfl;rfl;rfl;rfl;rfl;omega;omega;omega;decide;decide;rfl)|(apply Aa.DR (dst:=some 37) (m+1) (⟨0⟩:Ix);rfl;rfl;rfl;rfl;rfl;omega;omega;omega;decide;decide;rfl)|(apply Aa.DR (m+1) (0:Int);rfl;rfl;rfl;rfl;rfl;omega;omega;omega;decide;decide;rfl)|(apply Aa.assign;rfl)|(apply Aa.move;rfl)|(apply Aa.Bv;rfl;rfl;omega)|(apply Aa.BN;rfl;rfl)|(apply Aa.alloc;rfl))
 apply Ae.FH (n) [(0,_),(2,_),(3,_),(4,_),(5,_),(6,_),(7,_),(8,_)] [(0,_)] (fun k r=>(9,.p (.int .i64 ((k+1:Nat):Int)))::r) (fun k r=>(1,.vec 3 (cells (Dh costs n m k).u) (n+1) false)::(2,.vec 3 (cells (Dh costs n m k).v) (m+1) false)::(3,.vec 3 (cells (Dh costs n m k).owner) (m+1) false)::(4,.vec 3 (cells (Dh costs n m k).way) (m+1) false)::r) 5
 ·first|omega|decide
 ·first|omega|decide
 ·repeat (first|exact Ad.nil|(refine Ad.eq rfl ?_ ?_;(first|exact PV.Ak rfl|(simp [PV.under,AP.under];done)))|refine Ad.cons trivial rfl (.of_eq (Au (by simp<;>omega))) ?_)
 ·repeat (first|exact Aj.nil|(refine Aj.eq rfl (Ac rfl) ?_ ?_;(first|exact HB.Ak rfl|exact AP.Ah _ _|(simp [HB.under,AP.under,PV.under];done)))|(refine Aj.cons (Ac rfl) ?_ rfl ?_ ?_;(first|exact trivial|exact AP.Ah _ _|(simp [HB.under,AP.under,PV.under]));(first|exact Bh.refl _|exact Bh.vec (Bf.refl _) (by simp))))
 ·intro k hk
  have hS:=Nw hc k (by omega)
  have hS':=hS.step hc hk
  obtain ⟨hgo,hend,hT⟩:=ZA hS hc hk
  have hgr:=Py hS hc hk
  have hback:=lY hS hc hk
  have hv0:=ZO hS hc hk
  have b1p:=iH hc k (by omega)
  have ho:=YU hS
  have eS:Dh costs n m (k+1)=Ol costs m (Dh costs n m k) (k+1):=rfl
  have l1:=hS.lu
  have l2:=hS.lv
  have l3:=hS.lo
  have l4:=hS.lw
  rw [eS]
  generalize Dh costs n m k=s at *
  repeat' (first|(refine Ap.atIdx 3 ?_;refine Ap.ghost (Bd.freeze 46 rfl rfl) ?_)|apply Ae.assoc|apply Ae.AB|apply Ae.BF|apply Ae.Aq|apply Ae.Ai|apply Ag.nil|apply Ap.nil|apply Ag.one|(apply Ap.bar;decide +kernel)|apply Ap.quiet|(apply Aa.D8 (y:=(⟨k+1⟩:Ix));rfl;rfl;rfl;trivial;(first|rfl|(refine congrArg (fun t=>[PV.p (FV.int _ t)]) ?_;first|omega|(simp only [Int.natCast_add,Int.natCast_mul,Int.natCast_ediv,Int.natCast_emod]<;>omega)));rfl;rfl;decide;(first|omega|(simp only [List.length_set]<;>omega)))|(apply Aa.fv;rfl;rfl;exact TQ 3 far (m+1) (by omega) (by omega))|(apply Aa.DR (m+1) false;rfl;rfl;rfl;rfl;rfl;omega;omega;omega;decide;decide;rfl)|(apply Aa.assign;rfl)|(apply Aa.move;rfl)|(apply Aa.Bv;rfl;rfl;omega)|(apply Aa.int;rfl;rfl;rfl)|(apply Aa.buildSlice;rfl;rfl;rfl;decide;rfl;rfl;rfl)|(apply Aa.ni;rfl;rfl;rfl;rfl;omega;omega)|(apply Ae.Af;rfl)|(intro _;try (exfalso;omega)))
  all_goals try (exfalso;omega)
  apply Ae.FH (XH costs m s (k+1)) [(0,_),(2,_),(3,_),(4,_),(5,_),(6,_),(7,_),(8,_),(9,_),(11,_),(12,_)] [(0,_)] (fun k_ r=>(10,.p (.int .i64 ((Ei costs (Jd s (k+1)) m (QF m s) k_).at_:Int)))::r) (fun k_ r=>(1,.vec 3 (cells (Ei costs (Jd s (k+1)) m (QF m s) k_).u) (n+1) false)::(2,.vec 3 (cells (Ei costs (Jd s (k+1)) m (QF m s) k_).v) (m+1) false)::(3,.vec 3 (cells (Jd s (k+1))) (m+1) false)::(4,.vec 3 (cells (Ei costs (Jd s (k+1)) m (QF m s) k_).way) (m+1) false)::(6,.vec 3 (cells (Ei costs (Jd s (k+1)) m (QF m s) k_).least) (m+1) false)::(7,.vec 4 (cells (Ei costs (Jd s (k+1)) m (QF m s) k_).done) (m+1) false)::r) 8
  ·first|omega|decide
  ·first|omega|decide
  ·repeat (first|exact Ad.nil|(refine Ad.eq rfl ?_ ?_;(first|exact PV.Ak rfl|(simp [PV.under,AP.under];done)))|refine Ad.cons trivial rfl (.of_eq (Au (by simp<;>omega))) ?_)
  ·repeat (first|exact Aj.nil|(refine Aj.eq rfl (Ac rfl) ?_ ?_;(first|exact HB.Ak rfl|exact AP.Ah _ _|(simp [HB.under,AP.under,PV.under];done)))|(refine Aj.cons (Ac rfl) ?_ rfl ?_ ?_;(first|exact trivial|exact AP.Ah _ _|(simp [HB.under,AP.under,PV.under]));(first|exact Bh.refl _|exact Bh.vec (Bf.refl _) (by simp))))
  ·intro t ht
   have hg:=hgr t fun p hp=>hgo p (by omega)
   have hr:=hgo t ht
   have hR:=J9 hg hc ho hk hr
   have hSh:=Nz hg hc ho hk hr
   have hpre:=Yi hg hc ho hk hr
   have hub:∀ r,1≤r→r≤k+1→gi (Ei costs (Jd s (k+1)) m (QF m s) t).u r≤B:=fun r r1 r2=>hg.ule hc ho (by omega) r1 r2
   have hvb:∀ j,1≤j→j≤m→-B≤gi (Ei costs (Jd s (k+1)) m (QF m s) t).v j:=fun j j1 j2=>hg.vge hc ho (by omega) j1 j2
   have b2c:=hv0 t fun p hp=>hgo p (by omega)
   have eG:Ei costs (Jd s (k+1)) m (QF m s) (t+1)=Gq costs (Jd s (k+1)) m (Ei costs (Jd s (k+1)) m (QF m s) t):=rfl
   have hat:LY costs m k s t=(Ei costs (Jd s (k+1)) m (QF m s) t).at_:=rfl
   have hle:=hg.le t (Nat.le_refl _)
   rw [hat] at hr hle
   rw [eG]
   generalize Ei costs (Jd s (k+1)) m (QF m s) t=g at *
   have a6g:=ho.lt hle
   have lo:=ho.len
   generalize Jd s (k+1)=o at *
   obtain ⟨row,hrw⟩:∃ row,row=(gi o g.at_).n:=⟨_,rfl⟩
   have hr1:1≤row:=by have:(gi o g.at_).n≠0:=hr;omega
   have hr2:row≤k+1:=by rw [hrw];exact a6g
   have m1:=hg.lu
   have m2:=hg.lv
   have m3:=hg.lw
   have m4:=hg.ll
   have m5:=hg.ld
   have eR:Gq costs o m g=⟨(Ie o (CQ g) (DT costs o m g).delta ⟨g.u,g.v,(DT costs o m g).least⟩ (m+1)).u,(Ie o (CQ g) (DT costs o m g).delta ⟨g.u,g.v,(DT costs o m g).least⟩ (m+1)).v,(DT costs o m g).way,(Ie o (CQ g) (DT costs o m g).delta ⟨g.u,g.v,(DT costs o m g).least⟩ (m+1)).least,CQ g,(DT costs o m g).next⟩:=rfl
   rw [eR]
   have hD9:(CQ g).length=m+1:=by unfold CQ;rw [List.length_set,m5]
   have hrl:(gi costs ((gi o g.at_).n-1)).length=m:=hrow _ (by omega)
   have Uz:∀ j,0≤gi (gi costs ((gi o g.at_).n-1)) j∧gi (gi costs ((gi o g.at_).n-1)) j≤B:=fun j=>⟨hc.lo (gi o g.at_).n (j+1),hc.hi (gi o g.at_).n (j+1)⟩
   have hu0:=hg.UW (gi o g.at_).n (by omega) (by omega)
   have hu1:=hub (gi o g.at_).n (by omega) (by omega)
   have hs1:ER .sub .i64 ((gi o g.at_).n:Int) 1=some (.int .i64 (((gi o g.at_).n-1:Nat):Int)):=by
    simp only [ER]
    rw [wrap_i64 (by omega)]
    congr 2;omega
   have hdn:∀ j,j≤m→gi (CQ g) j=true→1≤(gi o j).n∧(gi o j).n≤k+1:=fun j hj hd=>by
    obtain ⟨p,p1,p2⟩:=(hR.doneD j).1 hd
    have h1:=ho.lt hj
    refine ⟨?_,h1⟩
    rcases Nat.lt_or_ge p t with h|h
    ·have:=hg.qN p h
     rw [p2] at this
     unfold Hun.own at this
     omega
    ·obtain rfl:p=t:=by omega
     have h2:=hr
     rw [← hat,p2] at h2
     unfold Hun.own at h2
     omega
   clear hs1
   have hkB:(k:Int)*B≤1000*1000000000000:=Int.mul_le_mul (by omega) hB.2 hB.1 (by omega)
   repeat' (first|apply Ae.assoc|apply Ae.AB|apply Ae.Aq|apply Ae.Ai|apply Ae.Jc|apply Ag.nil|apply Ag.one|(apply Aa.D8 (y:=true);rfl;rfl;rfl;trivial;(first|rfl|(refine congrArg (fun t=>[PV.p (FV.int _ t)]) ?_;first|omega|(simp only [Int.natCast_add,Int.natCast_mul,Int.natCast_ediv,Int.natCast_emod]<;>omega)));rfl;rfl;decide;(first|omega|(simp only [List.length_set]<;>omega)))|(apply Aa.assign;rfl)|(apply Aa.move;rfl)|(apply Aa.int;rfl;rfl;rfl)|(apply Aa.Dn;rfl;rfl;omega;rfl)|(apply Aa.Dj;rfl;rfl;rfl;rfl;omega)|(apply Ae.Af;rfl)|(intro _;try (exfalso;omega)))
   all_goals try (exfalso;omega)
   refine Ae.blk (qG (e:=e) (k:=k) (row:=(gi o g.at_).n) (a:=g.at_) (u:=g.u) (v:=g.v) (o:=o) (done:=CQ g) (s0:=⟨g.least,g.way,far,0⟩) hB hl hm (by omega) ⟨by omega,by omega⟩ hrl Uz m1 m2 hD9 m4 m3 ⟨hu0,hu1⟩ fun j j1 j2=>⟨hvb j j1 j2,hg.eX j j1 j2⟩) (by omega) (by omega) ?_ ?_ ?_
   ·repeat (first|exact Ad.nil|refine Ad.same trivial rfl ?_|refine Ad.same (Ac rfl) rfl ?_|refine Ad.same ⟨trivial,Ac rfl,trivial⟩ rfl ?_|refine Ad.same ⟨trivial,Ac rfl,Ac rfl,trivial⟩ rfl ?_|refine Ad.same ⟨trivial,Ac rfl,Ac rfl,Ac rfl,trivial⟩ rfl ?_|refine Ad.same ⟨trivial,Ac rfl,Ac rfl,Ac rfl,Ac rfl,trivial⟩ rfl ?_|refine Ad.same ⟨trivial,trivial⟩ rfl ?_|refine Ad.cons trivial rfl (.of_eq (Au (by simp<;>omega))) ?_)
   ·repeat (first|exact Aj.nil|(refine Aj.cons (Ac rfl) ?_ rfl ?_ ?_;(first|exact HB.Ak rfl|exact AP.Ah _ _|(simp [HB.under,AP.under,PV.under]));(first|exact Bh.refl _|exact Bh.vec (Bf.refl _) (by simp))))
   ·have eC:Ky (gi costs ((gi o g.at_).n-1)) (gi g.u (gi o g.at_).n) g.v (CQ g) g.at_ ⟨g.least,g.way,far,0⟩ m=DT costs o m g:=rfl
    rw [eC]
    generalize DT costs o m g=sc at *
    have n1:=hR.ll
    have n2:=hR.lw
    repeat' (first|apply Ae.assoc|apply Ae.AB|apply Ae.Ai|apply AO.normal|apply AL.exit|apply Ag.nil|apply Ag.one|(apply Aa.move;rfl)|(apply Aa.lenV;rfl;rfl;rfl))
    all_goals try (exfalso;omega)
    refine Ae.blk (jv (e:=e) (costs:=costs) (k:=k) (nxt:=sc.next) (o:=o) (way:=sc.way) (done:=CQ g) (t0:=⟨g.u,g.v,sc.least⟩) ⟨hR.d0,by have:=hR.dB;omega⟩ hm (by omega) m1 m2 n1 lo hD9 hpre.1 hpre.2 (fun j hj hd=>?_) (fun j hj=>?_) (fun j hj hd=>?_)) (by omega) (by omega) ?_ ?_ ?_
    ·have:=hdn j hj hd
     exact ⟨hg.UW _ this.1 this.2,Int.le_trans (hub _ this.1 this.2) hB.2⟩
    ·show -2000000000000000≤gi g.v j∧gi g.v j≤0
     rcases Nat.eq_zero_or_pos j with h|h
     ·subst h
      have:=hg.UW (k+1) (by omega) (Nat.le_refl _)
      have:=hub (k+1) (by omega) (Nat.le_refl _)
      omega
     ·have:=hvb j h hj
      exact ⟨by omega,hg.eX j h hj⟩
    ·have h0:1≤j:=by
      rcases Nat.eq_zero_or_pos j with h|h
      ·subst h
       rw [(hR.doneD 0).2 ⟨0,by omega,hg.zero⟩] at hd
       cases hd
      ·exact h
     obtain ⟨p,p1,p2,p3⟩:=hR.Xq j h0 hj hd
     have h1:=hR.dle j h0 hj hd
     have h2:=hR.d0
     have h3:=hvb j h0 hj
     have h4:=hc.hi (Hun.own o (LY costs m k s p)) j
     have h5:0≤gi g.u (Hun.own o (LY costs m k s p)):=by
      have hp1:Hun.own o (LY costs m k s p)≠0:=by
       rcases Nat.lt_or_ge p t with h|h
       ·exact hg.qN p h
       ·obtain rfl:p=t:=by omega
        rw [hat];exact hr
      exact hg.UW _ (by omega) (ho.lt (hg.le p (by omega)))
     have hf:far=1152921504606846976:=rfl
     show 0≤gi sc.least j∧gi sc.least j≤far
     omega
    ·repeat (first|exact Ad.nil|refine Ad.same trivial rfl ?_|refine Ad.same (Ac rfl) rfl ?_|refine Ad.same ⟨trivial,Ac rfl,trivial⟩ rfl ?_|refine Ad.same ⟨trivial,Ac rfl,Ac rfl,trivial⟩ rfl ?_|refine Ad.same ⟨trivial,Ac rfl,Ac rfl,Ac rfl,trivial⟩ rfl ?_|refine Ad.same ⟨trivial,Ac rfl,Ac rfl,Ac rfl,Ac rfl,trivial⟩ rfl ?_|refine Ad.same ⟨trivial,trivial⟩ rfl ?_|refine Ad.cons trivial rfl (.of_eq (Au (by simp<;>omega))) ?_)
    ·repeat (first|exact Aj.nil|(refine Aj.cons (Ac rfl) ?_ rfl ?_ ?_;(first|exact HB.Ak rfl|exact AP.Ah _ _|(simp [HB.under,AP.under,PV.under]));(first|exact Bh.refl _|exact Bh.vec (Bf.refl _) (by simp))))
    ·repeat' (first|apply Ae.region|apply AO.normal|apply AL.normal|apply AL.exit|apply Ag.nil|apply Ag.one|(apply Aa.assign;rfl)|(apply Aa.move;rfl))
     all_goals try (exfalso;omega)
     refine Az.normal ⟨by first|omega|decide,?_,?_⟩
     ·repeat (first|exact Ad.nil|refine Ad.same trivial rfl ?_|refine Ad.same (Ac rfl) rfl ?_|refine Ad.same ⟨trivial,Ac rfl,trivial⟩ rfl ?_|refine Ad.same ⟨trivial,Ac rfl,Ac rfl,trivial⟩ rfl ?_|refine Ad.same ⟨trivial,Ac rfl,Ac rfl,Ac rfl,trivial⟩ rfl ?_|refine Ad.same ⟨trivial,Ac rfl,Ac rfl,Ac rfl,Ac rfl,trivial⟩ rfl ?_|refine Ad.same ⟨trivial,trivial⟩ rfl ?_|refine Ad.cons trivial rfl (.of_eq (Au (by simp<;>omega))) ?_)
     ·repeat (first|exact Aj.nil|(refine Aj.cons (Ac rfl) ?_ rfl ?_ ?_;(first|exact HB.Ak rfl|exact AP.Ah _ _|(simp [HB.under,AP.under,PV.under]));(first|exact Bh.refl _|exact Bh.vec (Bf.refl _) (by simp))))
  ·have h0:(gi (Jd s (k+1)) (Ei costs (Jd s (k+1)) m (QF m s) (XH costs m s (k+1))).at_).n=0:=hend
   have hg:=hgr _ hgo
   have hle:=hg.le _ (Nat.le_refl _)
   have hat:LY costs m k s (XH costs m s (k+1))=(Ei costs (Jd s (k+1)) m (QF m s) (XH costs m s (k+1))).at_:=rfl
   rw [hat] at hle
   have lo:=ho.len
   have eE:Ei costs (Jd s (k+1)) m (QF m s) (XH costs m s (k+1))=MO costs m s (k+1):=rfl
   rw [eE] at h0 hle hg hat ⊢
   repeat' (first|apply Ae.assoc|apply Ae.AB|apply Ae.AY|apply AO.normal|apply AL.exit|apply Az.exit|apply Ae.Jc|apply Ag.nil|apply Ag.one|(apply Aa.move;rfl)|(apply Aa.int;rfl;rfl;rfl)|(apply Aa.Dn;rfl;rfl;omega;rfl)|(apply Aa.Dj;rfl;rfl;rfl;rfl;omega)|(apply Ae.Af;rfl)|(intro _;try (exfalso;omega)))
   all_goals try (exfalso;omega)
   have hA:∀ t,t≤zx costs m s (k+1)→(GL (MO costs m s (k+1)).way (stA costs m s (k+1)) t).owner.length=m+1∧(GL (MO costs m s (k+1)).way (stA costs m s (k+1)) t).at_≤m:=fun t ht=>by
    obtain ⟨q,q1,q2⟩:=hback.inv t ht
    exact ⟨q2.len,by rw [q2.at_];exact (hgr q fun p hp=>hgo p (by omega)).le q (Nat.le_refl _)⟩
   refine Ae.blk (tZ (e:=e) (costs:=costs) (n:=n) (k:=k) (u:=(MO costs m s (k+1)).u) (v:=(MO costs m s (k+1)).v) (a:=stA costs m s (k+1)) hm hg.lw (fun t ht=>(hA t ht).1) hback.go (fun t ht=>(hA t ht).2) hback.fin) (by omega) (by omega) ?_ ?_ ?_
   ·repeat (first|exact Ad.nil|refine Ad.same trivial rfl ?_|refine Ad.same (Ac rfl) rfl ?_|refine Ad.same ⟨trivial,Ac rfl,trivial⟩ rfl ?_|refine Ad.same ⟨trivial,Ac rfl,Ac rfl,trivial⟩ rfl ?_|refine Ad.same ⟨trivial,Ac rfl,Ac rfl,Ac rfl,trivial⟩ rfl ?_|refine Ad.same ⟨trivial,Ac rfl,Ac rfl,Ac rfl,Ac rfl,trivial⟩ rfl ?_|refine Ad.same ⟨trivial,trivial⟩ rfl ?_|refine Ad.cons trivial rfl (.of_eq (Au (by simp<;>omega))) ?_)
   ·repeat (first|exact Aj.nil|(refine Aj.cons (Ac rfl) ?_ rfl ?_ ?_;(first|exact HB.Ak rfl|exact AP.Ah _ _|(simp [HB.under,AP.under,PV.under]));(first|exact Bh.refl _|exact Bh.vec (Bf.refl _) (by simp))))
   ·repeat' (first|apply Ae.region|apply AO.normal|apply AL.normal|apply AL.exit|apply Ag.nil|apply Ag.one|(apply Aa.assign;rfl)|(apply Aa.move;rfl)|(apply Aa.Bv;rfl;rfl;omega))
    all_goals try (exfalso;omega)
    refine Az.normal ⟨by first|omega|decide,?_,?_⟩
    ·repeat (first|exact Ad.nil|refine Ad.same trivial rfl ?_|refine Ad.same (Ac rfl) rfl ?_|refine Ad.same ⟨trivial,Ac rfl,trivial⟩ rfl ?_|refine Ad.same ⟨trivial,Ac rfl,Ac rfl,trivial⟩ rfl ?_|refine Ad.same ⟨trivial,Ac rfl,Ac rfl,Ac rfl,trivial⟩ rfl ?_|refine Ad.same ⟨trivial,Ac rfl,Ac rfl,Ac rfl,Ac rfl,trivial⟩ rfl ?_|refine Ad.same ⟨trivial,trivial⟩ rfl ?_|refine Ad.cons trivial rfl (.of_eq (Au (by simp<;>omega))) ?_)
    ·repeat (first|exact Aj.nil|(refine Aj.cons (Ac rfl) ?_ rfl ?_ ?_;(first|exact HB.Ak rfl|exact AP.Ah _ _|(simp [HB.under,AP.under,PV.under]));(first|exact Bh.refl _|exact Bh.vec (Bf.refl _) (by simp))))
 ·have hS:=Nw hc n (Nat.le_refl _)
  have hO:=VZ hS
  have hs:=VH hc
  have l1:=hS.lu
  have l2:=hS.lv
  have l3:=hS.lo
  have eO:KQ costs (Dh costs n m n).owner n m=Gn costs n m:=rfl
  have eU:(Dh costs n m n).u.drop 1=JU costs n m:=rfl
  have eV:(Dh costs n m n).v.drop 1=GY costs n m:=rfl
  have htot:∀ j,j≤m→0≤(KQ costs (Dh costs n m n).owner n j).total∧(KQ costs (Dh costs n m n).owner n j).total≤1000000000000000:=fun j hj=>by
   rw [(hO j hj).total]
   have h1:=jF (f:=fun k=>if 0<Hun.own (Dh costs n m n).owner (k+1) then cst costs (Hun.own (Dh costs n m n).owner (k+1)) (k+1) else 0) (a:=0) (b:=1000000000000) (n:=j) fun k hk=>by
    split
    ·exact ⟨hc.lo _ _,Int.le_trans (hc.hi _ _) hB.2⟩
    ·exact ⟨Int.le_refl _,by decide⟩
   omega
  generalize Dh costs n m n=s at *
  repeat' (first|(refine Ae.at 34 ?_;refine Ae.ghost (Bd.freeze 5 rfl rfl) ?_;first|apply Ae.AB|apply Ae.BF)|(refine Ap.atIdx 4 ?_;refine Ap.ghost (Bd.freeze 6 rfl rfl) ?_)|apply Ae.assoc|apply Ae.AB|apply Ae.AY|apply Ae.Ai|apply AO.normal|apply AL.exit|apply Az.exit|apply Ag.nil|apply Ap.nil|apply Ag.one|(apply Ap.bar;decide +kernel)|apply Ap.quiet|(apply Aa.DR n (0:Int);rfl;rfl;rfl;rfl;rfl;rfl;rfl;omega;decide;decide;rfl)|(apply Aa.sliceFrom (l:=s.u) (a:=1);rfl;rfl;rfl;rfl;rfl;exact l1;omega)|(apply Aa.sliceFrom (l:=s.v) (a:=1);rfl;rfl;rfl;rfl;rfl;exact l2;omega)|(apply Aa.assign;rfl)|(apply Aa.move;rfl)|(apply Aa.int;rfl;rfl;rfl)|(apply Aa.alloc;rfl)|(apply Aa.Bj;rfl;rfl;rfl;trivial;rfl;rfl;exact Ac rfl;exact le_dec rfl)|(apply Aa.build;rfl;rfl;rfl;rfl;rfl)|(apply Ae.Af;rfl)|(intro _;try (exfalso;omega)))
  all_goals try (exfalso;omega)
  have e1:costs.length=n:=hl
  refine Ae.blk (tN (e:=e) (costs:=costs) (n:=n) (m:=m) (U:=s.u.drop 1) (V:=s.v.drop 1) (o:=s.owner) hm (by omega) hl hrow l3 (fun j j1 j2=>hS.own j j1 j2) (fun j hj=>(hO j hj).len) (fun r j=>⟨hc.lo (r+1) (j+1),Int.le_trans (hc.hi (r+1) (j+1)) hB.2⟩) htot) (by omega) (by omega) ?_ ?_ ?_
  ·repeat (first|exact Ad.nil|refine Ad.same trivial rfl ?_|refine Ad.same (Ac rfl) rfl ?_|refine Ad.same ⟨trivial,Ac rfl,trivial⟩ rfl ?_|refine Ad.same ⟨trivial,Ac rfl,Ac rfl,trivial⟩ rfl ?_|refine Ad.same ⟨trivial,Ac rfl,Ac rfl,Ac rfl,trivial⟩ rfl ?_|refine Ad.same ⟨trivial,Ac rfl,Ac rfl,Ac rfl,Ac rfl,trivial⟩ rfl ?_|refine Ad.same ⟨trivial,trivial⟩ rfl ?_|refine Ad.cons trivial rfl (.of_eq (Au (by simp<;>omega))) ?_)
  ·repeat (first|exact Aj.nil|(refine Aj.cons (Ac rfl) ?_ rfl ?_ ?_;(first|exact HB.Ak rfl|exact AP.Ah _ _|(simp [HB.under,AP.under,PV.under]));(first|exact Bh.refl _|exact Bh.vec (Bf.refl _) (by simp))))
  ·rw [eO,eU,eV]
   repeat' (first|apply Ae.AB|apply AO.normal|apply AL.exit|apply Ae.ret|apply Ag.nil|apply Ag.one|(apply Aa.load;rfl;rfl)|(apply Aa.Bj;rfl;rfl;rfl;trivial;rfl;rfl;exact Ac rfl;exact le_dec rfl))
   all_goals try (exfalso;omega)
   refine Done.ret (H0:=[(5,.vec 3 (cells (Gn costs n m).cols) n false)]) (DV:=6) rfl (.refl _) ⟨Ac rfl,trivial,trivial,trivial,trivial⟩ ?_ (by omega) (by omega) ⟨rfl,rfl,rfl⟩
   repeat (first|exact Aj.nil|(refine Aj.cons (Ac rfl) ?_ rfl ?_ ?_;(first|exact HB.Ak rfl|exact AP.Ah _ _|(simp [HB.under,AP.under,PV.under]));(first|exact Bh.refl _|exact Bh.vec (Bf.refl _) (by simp))))
end Go.Proofs.YtdabojnmoejilaaGreatDoor
namespace Go.Proofs.YtdabojnmoejilaaGreatDoor
open Go Go.Am Go.Vm Go.Hun
attribute [local irreducible] Aa Ag Ap Ae BD AX CO AO AL Az Vm.Done CY Bl
theorem Vr {L:Vm.Frame} {H:Vm.Heap} {nx:Nat} {Q:PV→Vm.Heap→Nat→Prop} {dst:Option Tmp} {ty:TypeId} {pos:String} {af:Array Edge} {gd:Option (Nat×Bool)} {fo:Operand} {args:Array Operand} {aT:Array TypeId} {fs cs xs:List PV} {c:Code}
 (hf:BA env.Γ L fo=some (.clo 75 fs cs)) (ha:evs env.Γ L args.toList=some xs) (hb:Tryz.f75.body=some c) (hn:(fs++xs++cs).length≤Tryz.f75.ntmps)
 (h:Ae env nx c (CP 0 (fs++xs++cs)) H nx (Bl env.P Tryz.f75.results.toList Q)):Aa env true ⟨dst,.call { callee:=.value fo,args:=args,argTypes:=aT },ty,pos,af,gd⟩ L H nx Q:=by
 have h0:(match Tryz.f75.body with|some c=>Hq env.G Tryz.f75 c|none=>false)=true:=by kernel_rfl
 rw [hb] at h0
 exact Aa.inline rfl hf ha (AA (by decide)) Tryz.func75 hb h0 hn h
theorem Vp {L:Vm.Frame} {H:Vm.Heap} {nx:Nat} {Q:PV→Vm.Heap→Nat→Prop} {dst:Option Tmp} {ty:TypeId} {pos:String} {af:Array Edge} {gd:Option (Nat×Bool)} {fo:Operand} {args:Array Operand} {aT:Array TypeId} {fs cs xs:List PV} {c:Code}
 (hf:BA env.Γ L fo=some (.clo 104 fs cs)) (ha:evs env.Γ L args.toList=some xs) (hb:Tryz.f104.body=some c) (hn:(fs++xs++cs).length≤Tryz.f104.ntmps)
 (h:Ae env nx c (CP 0 (fs++xs++cs)) H nx (Bl env.P Tryz.f104.results.toList Q)):Aa env true ⟨dst,.call { callee:=.value fo,args:=args,argTypes:=aT },ty,pos,af,gd⟩ L H nx Q:=by
 have h0:(match Tryz.f104.body with|some c=>Hq env.G Tryz.f104 c|none=>false)=true:=by kernel_rfl
 rw [hb] at h0
 exact Aa.inline rfl hf ha (AA (by decide)) Tryz.func104 hb h0 hn h
theorem a0e {L:Vm.Frame} {H:Vm.Heap} {nx:Nat} {Q:PV→Vm.Heap→Nat→Prop} {dst:Option Tmp} {ty:TypeId} {pos:String} {af:Array Edge} {gd:Option (Nat×Bool)} {fo:Operand} {args:Array Operand} {aT:Array TypeId} {fs cs xs:List PV} {c:Code}
 (hf:BA env.Γ L fo=some (.clo 101 fs cs)) (ha:evs env.Γ L args.toList=some xs) (hb:Tryz.f101.body=some c) (hn:(fs++xs++cs).length≤Tryz.f101.ntmps)
 (h:Ae env nx c (CP 0 (fs++xs++cs)) H nx (Bl env.P Tryz.f101.results.toList Q)):Aa env true ⟨dst,.call { callee:=.value fo,args:=args,argTypes:=aT },ty,pos,af,gd⟩ L H nx Q:=by
 have h0:(match Tryz.f101.body with|some c=>Hq env.G Tryz.f101 c|none=>false)=true:=by kernel_rfl
 rw [hb] at h0
 exact Aa.inline rfl hf ha (AA (by decide)) Tryz.func101 hb h0 hn h
structure Rz (l:List (List Int)) (n m:Nat) (skip B:Int):Prop where
 P7:yc l n m skip B
 n60:n≤60
 zB:m≤120
 B9:B≤1000000000
 m0:n=0→m=0
theorem Rz.cols {l:List (List Int)} {n m:Nat} {skip B:Int} (h:Rz l n m skip B):sJ l=m:=by
 rcases Nat.eq_zero_or_pos n with h0|h0
 ·have:l=[]:=List.length_eq_zero_iff.1 (by rw [h.P7.len];exact h0)
  rw [this,h.m0 h0]
  rfl
 ·exact h.P7.row 0 h0
theorem bf {l:List (List Int)} {n m:Nat} {skip B:Int} (e:TypeId) (h:Rz l n m skip B):AX env 73 [.lst e (cells l) l.length,.bool false] (.p (.int .i64 0)):=by
 have h1:=h.P7.len
 have h2:=h.n60
 have h3:=h.zB
 have h4:=h.B9
 have XO:=h.cols
 have hrow:=h.P7.row
 have uM:=h.P7.rng
 refine AX.enter (AA (by decide)) Tryz.func73 rfl (by kernel_rfl) (by simp [Tryz.ntmps73]) ?_
 rcases Nat.eq_zero_or_pos n with h0|h0
 ·have hl0:l=[]:=List.length_eq_zero_iff.1 (by omega)
  subst hl0
  repeat' (first|apply Ae.assoc|apply Ae.AB|apply Ae.Aq|apply Ae.Ai|apply Ag.nil|apply Ag.one|(apply Ag.take;rfl;rfl)|(apply Ag.drop;rfl;rfl;rfl)|(apply Aa.assign;rfl)|(apply Aa.move;rfl)|(apply Aa.int;rfl;rfl;rfl)|(apply Aa.AQ;rfl;rfl)|(apply Aa.BN;rfl;rfl)|(apply Ae.Aw;rfl))
  all_goals try (exfalso;omega)
  all_goals try contradiction
  apply Ae.FH (0) [(0,_),(1,_),(24,_),(25,_)] [] (fun k r=>(26,.p (.int .i64 (k:Int)))::r) (fun k r=>r) 0
  ·first|omega|decide
  ·first|omega|decide
  ·repeat (first|exact Ad.nil|(refine Ad.eq rfl ?_ ?_;(first|exact PV.Ak rfl|(simp [PV.under,AP.under];done)))|refine Ad.cons trivial rfl (.of_eq (Au (by simp<;>omega))) ?_)
  ·repeat (first|exact Aj.nil|(refine Aj.eq rfl (Ac rfl) ?_ ?_;(first|exact HB.Ak rfl|exact AP.Ah _ _|(simp [HB.under,AP.under,PV.under];done)))|(refine Aj.cons (Ac rfl) ?_ rfl ?_ ?_;(first|exact trivial|exact AP.Ah _ _|(simp [HB.under,AP.under,PV.under]));(first|exact Bh.refl _|exact Bh.vec (Bf.refl _) (by simp))))
  ·intro k hk;omega
  ·repeat' (first|apply Ae.assoc|apply Ae.AB|apply Ae.Aq|apply Ae.AY|apply Ae.Ai|apply AO.normal|apply AL.exit|apply Az.exit|apply Ag.nil|apply Ag.one|(apply Ag.drop;rfl;rfl;rfl)|(apply Aa.move;rfl)|(apply Aa.int;rfl;rfl;rfl)|(apply Aa.AQ;rfl;rfl)|(apply Aa.BN;rfl;rfl)|(apply Ae.Aw;rfl))
   all_goals try (exfalso;omega)
   all_goals try contradiction
   apply Ae.FH (0) [(0,_),(53,_),(54,_)] [] (fun k r=>(55,.p (.int .i64 (k:Int)))::r) (fun k r=>r) 0
   ·first|omega|decide
   ·first|omega|decide
   ·repeat (first|exact Ad.nil|(refine Ad.eq rfl ?_ ?_;(first|exact PV.Ak rfl|(simp [PV.under,AP.under];done)))|refine Ad.cons trivial rfl (.of_eq (Au (by simp<;>omega))) ?_)
   ·repeat (first|exact Aj.nil|(refine Aj.eq rfl (Ac rfl) ?_ ?_;(first|exact HB.Ak rfl|exact AP.Ah _ _|(simp [HB.under,AP.under,PV.under];done)))|(refine Aj.cons (Ac rfl) ?_ rfl ?_ ?_;(first|exact trivial|exact AP.Ah _ _|(simp [HB.under,AP.under,PV.under]));(first|exact Bh.refl _|exact Bh.vec (Bf.refl _) (by simp))))
   ·intro k hk;omega
   ·repeat' (first|apply Ae.AB|apply Ae.AY|apply AO.normal|apply AL.exit|apply Az.exit|apply Ae.ret|apply Ag.nil|apply Ag.one|(apply Aa.assign;rfl)|(apply Aa.int;rfl;rfl;rfl)|(apply Ae.Aw;rfl))
    all_goals first|(exfalso;omega)|contradiction|(refine Done.ret rfl (.refl _) (by first|exact trivial|exact ⟨trivial,trivial,trivial⟩|exact ⟨trivial,trivial,trivial,trivial⟩) Aj.nil (Nat.zero_le _) (Nat.le_refl _) ⟨?_,rfl,rfl⟩;try rfl)
 ·have hr0:=hrow 0 h0
  have hc0:(gi l 0).length=m:=hr0
  repeat' (first|apply Ae.assoc|apply Ae.AB|apply Ae.Aq|apply Ae.Ai|apply Ag.nil|apply Ag.one|(apply Ag.take;rfl;rfl)|(apply Ag.guard;rfl;rfl)|(apply Aa.AV (l:=l) (i:=0);rfl;rfl;rfl;omega;rfl)|(apply Aa.assign;rfl)|(apply Aa.move;rfl)|(apply Aa.int;rfl;rfl;rfl)|(apply Aa.load;rfl;rfl)|(apply Aa.Bz;rfl;rfl)|(apply Aa.AQ;rfl;rfl)|(apply Aa.BN;rfl;rfl)|(apply Ae.Af;rfl)|(intro _;try (exfalso;omega)))
  all_goals try (exfalso;omega)
  all_goals try contradiction
  apply Ae.FH (l.length) [(0,_),(1,_),(24,_),(25,_)] [] (fun k r=>(26,.p (.int .i64 (k:Int)))::r) (fun k r=>r) 0
  ·first|omega|decide
  ·first|omega|decide
  ·repeat (first|exact Ad.nil|(refine Ad.eq rfl ?_ ?_;(first|exact PV.Ak rfl|(simp [PV.under,AP.under];done)))|refine Ad.cons trivial rfl (.of_eq (Au (by simp<;>omega))) ?_)
  ·repeat (first|exact Aj.nil|(refine Aj.eq rfl (Ac rfl) ?_ ?_;(first|exact HB.Ak rfl|exact AP.Ah _ _|(simp [HB.under,AP.under,PV.under];done)))|(refine Aj.cons (Ac rfl) ?_ rfl ?_ ?_;(first|exact trivial|exact AP.Ah _ _|(simp [HB.under,AP.under,PV.under]));(first|exact Bh.refl _|exact Bh.vec (Bf.refl _) (by simp))))
  ·intro k hk
   have hrk:=hrow k (by omega)
   repeat' (first|apply Ae.AB|apply Ae.region|apply Ae.Aq|apply Ae.Ai|apply AO.normal|apply AL.normal|apply Ae.skip|apply Ag.nil|apply Ag.one|(apply Aa.AV (l:=l) (i:=k);rfl;rfl;rfl;omega;rfl)|(apply Aa.AV (l:=l) (i:=0);rfl;rfl;rfl;omega;rfl)|(apply Aa.assign;rfl)|(apply Aa.move;rfl)|(apply Aa.Bv;rfl;rfl;omega)|(apply Aa.int;rfl;rfl;rfl)|(apply Aa.load;rfl;rfl)|(apply Aa.BN;rfl;rfl)|(apply Ae.Af;rfl)|(apply Ae.AZ;rfl)|(intro _;try (exfalso;omega)))
   all_goals try (exfalso;omega)
   refine Az.normal ⟨by first|omega|decide,?_,?_⟩
   ·repeat (first|exact Ad.nil|refine Ad.same trivial rfl ?_|refine Ad.same (Ac rfl) rfl ?_|refine Ad.same ⟨trivial,Ac rfl,trivial⟩ rfl ?_|refine Ad.same ⟨trivial,Ac rfl,Ac rfl,trivial⟩ rfl ?_|refine Ad.same ⟨trivial,Ac rfl,Ac rfl,Ac rfl,trivial⟩ rfl ?_|refine Ad.same ⟨trivial,Ac rfl,Ac rfl,Ac rfl,Ac rfl,trivial⟩ rfl ?_|refine Ad.same ⟨trivial,trivial⟩ rfl ?_|refine Ad.cons trivial rfl (.of_eq (Au (by simp<;>omega))) ?_)
   ·repeat (first|exact Aj.nil|(refine Aj.cons (Ac rfl) ?_ rfl ?_ ?_;(first|exact HB.Ak rfl|exact AP.Ah _ _|(simp [HB.under,AP.under,PV.under]));(first|exact Bh.refl _|exact Bh.vec (Bf.refl _) (by simp))))
  ·repeat' (first|apply Ae.assoc|apply Ae.AB|apply Ae.Aq|apply Ae.AY|apply Ae.Ai|apply AO.normal|apply AL.exit|apply Az.exit|apply Ag.nil|apply Ag.one|(apply Ag.drop;rfl;rfl;rfl)|(apply Aa.move;rfl)|(apply Aa.int;rfl;rfl;rfl)|(apply Aa.AQ;rfl;rfl)|(apply Aa.BN;rfl;rfl)|(apply Ae.Aw;rfl)|(apply Ae.Af;rfl)|(intro _;try (exfalso;omega)))
   all_goals try (exfalso;omega)
   all_goals try contradiction
   apply Ae.FH (l.length) [(0,_),(53,_),(54,_)] [] (fun k r=>(55,.p (.int .i64 (k:Int)))::r) (fun k r=>r) 0
   ·first|omega|decide
   ·first|omega|decide
   ·repeat (first|exact Ad.nil|(refine Ad.eq rfl ?_ ?_;(first|exact PV.Ak rfl|(simp [PV.under,AP.under];done)))|refine Ad.cons trivial rfl (.of_eq (Au (by simp<;>omega))) ?_)
   ·repeat (first|exact Aj.nil|(refine Aj.eq rfl (Ac rfl) ?_ ?_;(first|exact HB.Ak rfl|exact AP.Ah _ _|(simp [HB.under,AP.under,PV.under];done)))|(refine Aj.cons (Ac rfl) ?_ rfl ?_ ?_;(first|exact trivial|exact AP.Ah _ _|(simp [HB.under,AP.under,PV.under]));(first|exact Bh.refl _|exact Bh.vec (Bf.refl _) (by simp))))
   ·intro k hk
    have hrk:=hrow k (by omega)
    repeat' (first|apply Ae.assoc|apply Ae.AB|apply Ae.Aq|apply Ae.Ai|apply Ag.nil|apply Ag.one|(apply Vr;rfl;rfl;rfl;exact le_dec rfl)|(apply Vp;rfl;rfl;rfl;exact le_dec rfl)|(apply Aa.assign;rfl)|(apply Aa.move;rfl)|(apply Aa.int;rfl;rfl;rfl)|(apply Aa.AV;rfl;rfl;rfl;omega;rfl)|(apply Aa.load;rfl;rfl)|(apply Aa.BN;rfl;rfl)|(apply Ae.Af;rfl)|(intro _;try (exfalso;omega)))
    all_goals try (exfalso;omega)
    apply Ae.FH ((gi l k).length) [(0,_),(1,_),(7,_)] [] (fun k_ r=>(8,.p (.int .i64 (k_:Int)))::r) (fun k_ r=>r) 0
    ·first|omega|decide
    ·first|omega|decide
    ·repeat (first|exact Ad.nil|(refine Ad.eq rfl ?_ ?_;(first|exact PV.Ak rfl|(simp [PV.under,AP.under];done)))|refine Ad.cons trivial rfl (.of_eq (Au (by simp<;>omega))) ?_)
    ·repeat (first|exact Aj.nil|(refine Aj.eq rfl (Ac rfl) ?_ ?_;(first|exact HB.Ak rfl|exact AP.Ah _ _|(simp [HB.under,AP.under,PV.under];done)))|(refine Aj.cons (Ac rfl) ?_ rfl ?_ ?_;(first|exact trivial|exact AP.Ah _ _|(simp [HB.under,AP.under,PV.under]));(first|exact Bh.refl _|exact Bh.vec (Bf.refl _) (by simp))))
    ·intro j hj
     have hb:=uM k j (by omega) (by omega)
     repeat' (first|apply Ae.AB|apply Ae.region|apply Ae.Aq|apply Ae.Ai|apply AO.normal|(apply Bl.ret;rfl)|apply AL.normal|apply Ae.ret|apply Ae.skip|apply Ag.nil|apply Ag.one|(apply Ag.take;rfl;rfl)|(apply Ag.guard;rfl;rfl)|(apply a0e;rfl;rfl;rfl;exact le_dec rfl)|(apply Aa.assign;rfl)|(apply Aa.move;rfl)|(apply Aa.Bv;rfl;rfl;omega)|(apply Aa.int;rfl;rfl;rfl)|(apply Aa.AV;rfl;rfl;rfl;omega;rfl)|(apply Aa.load;rfl;rfl)|(apply Aa.AQ;rfl;rfl)|(apply Ae.Af;rfl)|(apply Ae.AZ;rfl)|(intro _;try (exfalso;omega)))
     all_goals try (exfalso;omega)
     refine Az.normal ⟨by first|omega|decide,?_,?_⟩
     ·repeat (first|exact Ad.nil|refine Ad.same trivial rfl ?_|refine Ad.same (Ac rfl) rfl ?_|refine Ad.same ⟨trivial,Ac rfl,trivial⟩ rfl ?_|refine Ad.same ⟨trivial,Ac rfl,Ac rfl,trivial⟩ rfl ?_|refine Ad.same ⟨trivial,Ac rfl,Ac rfl,Ac rfl,trivial⟩ rfl ?_|refine Ad.same ⟨trivial,Ac rfl,Ac rfl,Ac rfl,Ac rfl,trivial⟩ rfl ?_|refine Ad.same ⟨trivial,trivial⟩ rfl ?_|refine Ad.cons trivial rfl (.of_eq (Au (by simp<;>omega))) ?_)
     ·repeat (first|exact Aj.nil|(refine Aj.cons (Ac rfl) ?_ rfl ?_ ?_;(first|exact HB.Ak rfl|exact AP.Ah _ _|(simp [HB.under,AP.under,PV.under]));(first|exact Bh.refl _|exact Bh.vec (Bf.refl _) (by simp))))
    ·repeat' (first|apply Ae.AB|apply Ae.region|apply Ae.AY|apply AO.normal|(apply Bl.ret;rfl)|apply AL.normal|apply AL.exit|apply Az.exit|apply Ae.ret|apply Ae.skip|apply Ag.nil|apply Ag.one|(apply Aa.assign;rfl)|(apply Aa.move;rfl)|(apply Aa.Bv;rfl;rfl;omega)|(apply Aa.int;rfl;rfl;rfl)|(apply Ae.Af;rfl)|(apply Ae.cond_false;rfl)|(intro _;try (exfalso;omega)))
     all_goals try (exfalso;omega)
     all_goals try contradiction
     refine Az.normal ⟨by first|omega|decide,?_,?_⟩
     ·repeat (first|exact Ad.nil|refine Ad.same trivial rfl ?_|refine Ad.same (Ac rfl) rfl ?_|refine Ad.same ⟨trivial,Ac rfl,trivial⟩ rfl ?_|refine Ad.same ⟨trivial,Ac rfl,Ac rfl,trivial⟩ rfl ?_|refine Ad.same ⟨trivial,Ac rfl,Ac rfl,Ac rfl,trivial⟩ rfl ?_|refine Ad.same ⟨trivial,Ac rfl,Ac rfl,Ac rfl,Ac rfl,trivial⟩ rfl ?_|refine Ad.same ⟨trivial,trivial⟩ rfl ?_|refine Ad.cons trivial rfl (.of_eq (Au (by simp<;>omega))) ?_)
     ·repeat (first|exact Aj.nil|(refine Aj.cons (Ac rfl) ?_ rfl ?_ ?_;(first|exact HB.Ak rfl|exact AP.Ah _ _|(simp [HB.under,AP.under,PV.under]));(first|exact Bh.refl _|exact Bh.vec (Bf.refl _) (by simp))))
   ·repeat' (first|apply Ae.AB|apply Ae.AY|apply AO.normal|apply AL.exit|apply Az.exit|apply Ae.ret|apply Ag.nil|apply Ag.one|(apply Aa.assign;rfl)|(apply Aa.int;rfl;rfl;rfl)|(apply Ae.Af;rfl)|(intro _;try (exfalso;omega)))
    all_goals first|(exfalso;omega)|contradiction|(refine Done.ret rfl (.refl _) (by first|exact trivial|exact ⟨trivial,trivial,trivial⟩|exact ⟨trivial,trivial,trivial,trivial⟩) Aj.nil (Nat.zero_le _) (Nat.le_refl _) ⟨?_,rfl,rfl⟩;try rfl)
theorem L6 {l:List (List Int)} {n m:Nat} {skip B:Int} (e:TypeId) (h:Rz l n m skip B):AX env 46 [.lst e (cells l) l.length,.int .i64 skip] (.p (.int .i64 0)):=by
 have hc:=bf e h
 have h4:=h.B9
 have h5:=h.P7.skip
 refine AX.enter (AA (by decide)) Tryz.func46 rfl (by kernel_rfl) (by simp [Tryz.ntmps46]) ?_
 repeat' (first|apply Ae.assoc|apply Ae.AB|apply Ae.Aq|apply Ae.ret|apply Ag.nil|apply Ag.one|(apply Ag.take;rfl;rfl)|(apply Ag.guard;rfl;rfl)|(apply Aa.fn;rfl;rfl;exact hc;intro _;rfl)|(apply Aa.assign;rfl)|(apply Aa.move;rfl)|(apply Aa.int;rfl;rfl;rfl)|(apply Aa.AQ;rfl;rfl)|(apply Ae.Aw;rfl)|(apply Ae.Af;rfl)|(intro _;try (exfalso;omega)))
 all_goals first|(exfalso;omega)|contradiction|(refine Done.ret rfl (.refl _) (by first|exact trivial|exact ⟨trivial,trivial,trivial⟩|exact ⟨trivial,trivial,trivial,trivial⟩) Aj.nil (Nat.zero_le _) (Nat.le_refl _) ⟨?_,rfl,rfl⟩;try rfl)
theorem Ox {l:List (List Int)} {n m:Nat} {skip B:Int} (e:TypeId) (h:Rz l n m skip B):AX env 69 [.lst e (cells l) l.length] (.p (.int .i64 (m:Int))):=by
 have:=ML e l (by have:=h.P7.len;have:=h.n60;omega)
 rwa [h.cols] at this
theorem iE (l:List Int) (h0:0<l.length) (h1:l.length<1000000):CO env 70 [.lst 3 (cells l) l.length] 3 (cells l) l.length false:=by
 refine CO.enter (AA (by decide)) Tryz.func70 rfl (by kernel_rfl) (by simp [Tryz.ntmps70]) ?_
 repeat' (first|apply Ae.assoc|apply Ae.AB|apply Ae.Aq|apply Ae.ret|apply Ag.nil|apply Ag.one|(apply Aa.a3w;rfl;rfl;rfl;exact h0)|(apply Aa.assign;rfl)|(apply Aa.move;rfl)|(apply Aa.buildSlice;rfl;rfl;rfl;decide;rfl;rfl;rfl)|(apply Aa.Oa;rfl;rfl;rfl;(first|rfl|omega|(simp only [List.length_take,List.length_drop,List.length_append,List.length_singleton,List.length_cons,List.length_nil]<;>omega));rfl;rfl;(intro _ h;cases h);rfl;rfl;rfl;decide;decide;(first|omega|(simp only [List.length_take,List.length_drop,List.length_append,List.length_singleton,List.length_cons,List.length_nil]<;>omega)))|(apply Ae.Aw;rfl))
 exact CY.ret rfl rfl rfl rfl
theorem a0l {L:Vm.Frame} {H:Vm.Heap} {nx:Nat} {Q:PV→Vm.Heap→Nat→Prop} {dst:Option Tmp} {ty:TypeId} {pos:String} {af:Array Edge} {gd:Option (Nat×Bool)} {fo:Operand} {args:Array Operand} {aT:Array TypeId} {fs cs xs:List PV} {c:Code}
 (hf:BA env.Γ L fo=some (.clo 70 fs cs)) (ha:evs env.Γ L args.toList=some xs) (hb:Tryz.f70.body=some c) (hn:(fs++xs++cs).length≤Tryz.f70.ntmps)
 (h:Ae env nx c (CP 0 (fs++xs++cs)) H nx (Bl env.P Tryz.f70.results.toList Q)):Aa env true ⟨dst,.call { callee:=.value fo,args:=args,argTypes:=aT },ty,pos,af,gd⟩ L H nx Q:=by
 have h0:(match Tryz.f70.body with|some c=>Hq env.G Tryz.f70 c|none=>false)=true:=by kernel_rfl
 rw [hb] at h0
 exact Aa.inline rfl hf ha (AA (by decide)) Tryz.func70 hb h0 hn h
theorem nC {α:Type} [Inhabited α] {l:List α} {k:Nat} (h:k<l.length):l.take (k+1)=l.take k++[gi l k]:=by
 rw [List.take_succ_eq_append_getElem h]
 unfold gi
 rw [List.getElem?_eq_getElem h];rfl
def U8 (l:List (List Int)) (skip:Int) (k:Nat):List Int:=gi l k++List.replicate (l.length+1) skip
def Og (l:List (List Int)) (skip:Int) (k:Nat):List (List Int):=(Dz l skip l.length).take k++List.replicate (l.length-k) []
theorem OD (l:List (List Int)) (skip:Int) (n:Nat):(Dz l skip n).length=l.length:=by simp [Dz]
theorem pW (l:List (List Int)) (skip:Int) {k:Nat} (h:k≤l.length):(Og l skip k).length=l.length:=by
 unfold Og
 rw [List.length_append,List.length_take,List.length_replicate,OD];omega
theorem qg (l:List (List Int)) (skip:Int):Og l skip l.length=Dz l skip l.length:=by
 unfold Og
 rw [Nat.sub_self,List.take_of_length_le (by rw [OD];exact Nat.le_refl _)]
 simp
theorem pX (l:List (List Int)) (skip:Int) {k:Nat} (h:k<l.length):(Og l skip k).set k (U8 l skip k)=Og l skip (k+1):=by
 have e1:U8 l skip k=gi (Dz l skip l.length) k:=(gi_map' (fun row=>row++List.replicate (l.length+1) skip) h).symm
 have hk:k<(Dz l skip l.length).length:=by rw [OD];exact h
 obtain ⟨r,hr⟩:∃ r,l.length-k=r+1:=⟨l.length-k-1,by omega⟩
 unfold Og
 rw [e1,nC hk,hr,show l.length-(k+1)=r by omega]
 have ht:((Dz l skip l.length).take k).length=k:=by rw [List.length_take];omega
 generalize gi (Dz l skip l.length) k=x
 generalize (Dz l skip l.length).take k=t at *
 rw [List.set_append_right _ _ (by omega),ht,Nat.sub_self,List.replicate_succ,List.set_cons_zero,List.append_assoc]
 rfl
theorem Yx:∀ n:Nat,Bf ((Ba [.slice none 0 0] n).map FW) (cells (List.replicate n ([]:List Int)))
 |0=>.refl _
 |n+1=>.cons (.nil _) (Yx n)
theorem kQ (l:List (List Int)) (skip:Int):Og l skip 0=List.replicate l.length []:=by unfold Og;simp
def UZ (m:Nat) (cols:List Int) (j:Nat):List Int:=(cols.take j).map (KN m)++cols.drop j
theorem V8 (m:Nat) (cols:List Int) (j:Nat):(UZ m cols j).length=cols.length:=by
 unfold UZ
 rw [List.length_append,List.length_map,List.length_take,List.length_drop];omega
theorem nR (m:Nat) (cols:List Int) {j:Nat} (h:j<cols.length):gi (UZ m cols j) j=gi cols j:=by
 unfold UZ gi
 rw [List.getElem?_append_right (by rw [List.length_map,List.length_take];omega),List.length_map,List.length_take,Nat.min_eq_left (Nat.le_of_lt h),Nat.sub_self,List.getElem?_drop,Nat.add_zero]
theorem dF (m:Nat) (cols:List Int) {j:Nat} (h:j<cols.length):(UZ m cols j).set j (KN m (gi cols j))=UZ m cols (j+1):=by
 unfold UZ
 have ht:((cols.take j).map (KN m)).length=j:=by rw [List.length_map,List.length_take];omega
 rw [List.set_append_right _ _ (by omega),ht,Nat.sub_self,nC h,List.map_append,List.append_assoc]
 congr 1
 rw [List.drop_eq_getElem_cons h,List.set_cons_zero]
 rfl
theorem pO (m:Nat) (cols:List Int) {j:Nat} (h:j<cols.length) (hc:KN m (gi cols j)=gi cols j):UZ m cols (j+1)=UZ m cols j:=by
 rw [← dF m cols h,hc,← nR m cols h]
 refine List.ext_getElem? fun i=>?_
 rw [List.getElem?_set]
 by_cases e:j=i
 ·subst e
  rw [if_pos rfl,if_pos (by rw [V8];exact h)]
  unfold gi
  rw [List.getElem?_eq_getElem (by rw [V8];exact h)]
  rfl
 ·rw [if_neg e]
theorem xA (m:Nat) (cols:List Int):UZ m cols cols.length=cols.map (KN m):=by
 unfold UZ
 rw [List.take_of_length_le (Nat.le_refl _),List.drop_of_length_le (Nat.le_refl _),List.append_nil]
structure Qy where
 cols:List Int
 total:Int
 rows:List Int
 BR:List Int
def Qy.enc (x:Qy):List FV:=[.lst 3 (cells x.cols) x.cols.length,.int .i64 x.total,.lst 3 (cells x.rows) x.rows.length,.lst 3 (cells x.BR) x.BR.length]
instance:Enc Qy:={ default:=⟨[],0,[],[]⟩,enc:=Qy.enc,size:=4,len:=fun _=>rfl }
def Z8 (l:List (List Int)) (m:Nat) (skip:Int):Qy:=⟨wY l l.length m skip,lJ l l.length m skip,xU l l.length m skip,tJ l l.length m skip⟩
theorem Zg {l:List (List Int)} {m:Nat} {skip B:Int} (e:TypeId) (h:Rz l l.length m skip B) (h0:0<l.length) :
 AX env 45 [.lst e (cells l) l.length,.int .i64 skip] (.ET [.p (.agg (Enc.enc (Z8 l m skip))),.p (.int .i64 0)]):=by
 have hck:=L6 e h
 have hcl:=Ox e h
 have h2:=h.n60
 have h3:=h.zB
 have hrow:=h.P7.row
 have hP:=Tz h.P7
 have hw:=YX h.P7
 have hs:=VH hw
 have hsv:=aZ (costs:=Dz l skip l.length) (n:=l.length) (m:=m+(l.length+1)) 52 hw (OD _ _ _) (fun r hr=>by
  unfold Dz
  rw [gi_map' _ hr,List.length_append,List.length_replicate,hrow r hr]) h0 (by omega)
 have hroom:l.length*(24+1)≤room∧l.length≤2 ^ 40:=⟨by have:=Zr (n:=l.length) (k:=0) (b:=24) (by omega) (by decide);simpa using this,by omega⟩
 refine AX.enter (AA (by decide)) Tryz.func45 rfl (by kernel_rfl) (by simp [Tryz.ntmps45]) ?_
 repeat' (first|apply Ae.assoc|apply Ae.AB|apply Ae.Aq|apply Ae.Ai|apply Ag.nil|apply Ag.one|(apply Aa.fn;rfl;rfl;exact hck;intro _;rfl)|(apply Aa.fn;rfl;rfl;exact hcl;intro _;rfl)|(apply Aa.makeSlice (n:=l.length);rfl;rfl;rfl;rfl;rfl;exact hroom;decide)|(apply Aa.assign;rfl)|(apply Aa.move;rfl)|(apply Aa.int;rfl;rfl;rfl)|(apply Aa.BN;rfl;rfl)|(apply Aa.alloc;rfl)|(apply Ae.Aw;rfl))
 all_goals try (exfalso;omega)
 all_goals try contradiction
 refine Ae.ghost (Bd.a5k 1 (cells (Og l skip 0)) rfl (by rw [kQ];exact Yx _)) ?_
 apply Ae.FH (l.length) [(0,_),(1,_),(4,_),(7,_),(8,_),(26,_),(27,_)] [(0,_)] (fun k r=>(28,.p (.int .i64 (k:Int)))::r) (fun k r=>(1,.vec 52 (cells (Og l skip k)) l.length false)::r) 2
 ·first|omega|decide
 ·first|omega|decide
 ·repeat (first|exact Ad.nil|(refine Ad.eq rfl ?_ ?_;(first|exact PV.Ak rfl|(simp [PV.under,AP.under];done)))|refine Ad.cons trivial rfl (.of_eq (Au (by simp<;>omega))) ?_)
 ·repeat (first|exact Aj.nil|(refine Aj.eq rfl (Ac rfl) ?_ ?_;(first|exact HB.Ak rfl|exact AP.Ah _ _|(simp [HB.under,AP.under,PV.under];done)))|(refine Aj.cons (Ac rfl) ?_ rfl ?_ ?_;(first|exact trivial|exact AP.Ah _ _|(simp [HB.under,AP.under,PV.under]));(first|exact Bh.refl _|exact Bh.vec (Bf.refl _) (by simp))))
 ·intro k hk
  have hrk:=hrow k hk
  have hsl:=pW l skip (Nat.le_of_lt hk)
  have hst:=pX l skip hk
  have hrep:=TQ 3 skip (l.length+1) (by omega) (by omega)
  have hlen:(gi l k++List.replicate (l.length+1) skip).length=(gi l k).length+(List.replicate (l.length+1) skip).length:=List.length_append
  have hrl:(List.replicate (l.length+1) skip).length=l.length+1:=List.length_replicate
  have hpc:Gj (.p (.lst 3 (cells (gi l k++List.replicate (l.length+1) skip)) ((gi l k).length+(List.replicate (l.length+1) skip).length)))=(Enc.enc (U8 l skip k)).map .p:=by
   show [PV.p (FV.lst 3 (cells (gi l k++List.replicate (l.length+1) skip)) ((gi l k).length+(List.replicate (l.length+1) skip).length))]=[PV.p (FV.lst 3 (cells (U8 l skip k)) (U8 l skip k).length)]
   rw [show (U8 l skip k).length=_ from hlen];rfl
  by_cases hm:0<m
  ·have hcn:=iE (gi l k) (by omega) (by omega)
   repeat' (first|(refine Ag.Jp 42 ?_;refine Ag.ghost (Bd.freeze 38 rfl rfl) ?_)|(refine Ag.Jp 43 ?_;refine Ag.ghost (Bd.freeze 42 rfl rfl) ?_)|(refine Ag.Jp 44 ?_;refine Ag.ghost (Bd.freeze 43 rfl rfl) ?_)|apply Ae.AB|apply Ae.region|apply Ae.Aq|apply Ae.Ai|apply AO.normal|apply AL.normal|apply Ag.nil|apply Ag.one|(apply Aa.fv;rfl;rfl;exact hcn)|(apply Aa.fv;rfl;rfl;exact hrep)|(apply Aa.D8 (y:=U8 l skip k);rfl;rfl;rfl;trivial;exact hpc;rfl;rfl;decide;omega)|(apply Aa.QH (l:=gi l k) (r:=List.replicate (l.length+1) skip);rfl;rfl;rfl;rfl;exact hrl;rfl;rfl;(intro _ h;cases h);rfl;rfl;rfl;decide;decide;omega)|(apply Aa.assign;rfl)|(apply Aa.move;rfl)|(apply Aa.Bv;rfl;rfl;omega)|(apply Aa.int;rfl;rfl;rfl)|(apply Aa.AV;rfl;rfl;rfl;omega;rfl)|(apply Aa.load;rfl;rfl)|(apply Aa.BN;rfl;rfl)|(apply Aa.buildSlice;rfl;rfl;rfl;decide;rfl;rfl;rfl)|(apply Aa.Dj;rfl;rfl;rfl;rfl;omega)|(apply Ae.Af;rfl)|(intro _;try (exfalso;omega)))
   all_goals try (exfalso;omega)
   refine Az.normal ⟨by first|omega|decide,?_,?_⟩
   ·try (rw [← hst])
    repeat (first|exact Ad.nil|refine Ad.same trivial rfl ?_|refine Ad.same (Ac rfl) rfl ?_|refine Ad.same ⟨trivial,Ac rfl,trivial⟩ rfl ?_|refine Ad.same ⟨trivial,Ac rfl,Ac rfl,trivial⟩ rfl ?_|refine Ad.same ⟨trivial,Ac rfl,Ac rfl,Ac rfl,trivial⟩ rfl ?_|refine Ad.same ⟨trivial,Ac rfl,Ac rfl,Ac rfl,Ac rfl,trivial⟩ rfl ?_|refine Ad.same ⟨trivial,trivial⟩ rfl ?_|refine Ad.cons trivial rfl (.of_eq (Au (by simp<;>omega))) ?_)
   ·rw [← hst]
    repeat (first|exact Aj.nil|(refine Aj.cons (Ac rfl) ?_ rfl ?_ ?_;(first|exact HB.Ak rfl|exact AP.Ah _ _|(simp [HB.under,AP.under,PV.under]));(first|exact Bh.refl _|exact Bh.vec (Bf.refl _) (by simp))))
  ·have hl0:gi l k=[]:=List.length_eq_zero_iff.1 (by omega)
   have a9o:Gj (.p (.lst 3 (cells (List.replicate (l.length+1) skip)) (List.replicate (l.length+1) skip).length))=(Enc.enc (U8 l skip k)).map .p:=by
    rw [show U8 l skip k=List.replicate (l.length+1) skip by unfold U8;rw [hl0];rfl];rfl
   repeat' (first|(refine Ag.Jp 42 ?_;refine Ag.ghost (Bd.freeze 38 rfl rfl) ?_)|(refine Ag.Jp 43 ?_;refine Ag.ghost (Bd.trans (Bd.freeze 42 rfl rfl) (Bd.adopt 36 3 rfl)) ?_)|(refine Ag.Jp 43 ?_;refine Ag.ghost (Bd.freeze 42 rfl rfl) ?_)|(refine Ag.Jp 44 ?_;refine Ag.ghost (Bd.freeze 43 rfl rfl) ?_)|apply Ae.assoc|apply Ae.AB|apply Ae.region|apply Ae.Aq|apply Ae.BO|apply Ae.Ai|apply AO.normal|(apply Bl.ret;rfl)|apply AL.normal|apply Ae.ret|apply Ag.nil|apply Ag.one|(apply a0l;rfl;rfl;rfl;exact le_dec rfl)|(apply Aa.fv;rfl;rfl;exact hrep)|(apply Aa.D8 (y:=U8 l skip k);rfl;rfl;rfl;trivial;exact a9o;rfl;rfl;decide;omega)|(apply Aa.Oa (r:=List.replicate (l.length+1) skip);rfl;rfl;rfl;exact hrl;rfl;rfl;(intro _ h;cases h);rfl;rfl;rfl;decide;decide;omega)|(apply Aa.eqNil;rfl;rfl;rfl;intro b hb)|(apply Aa.D8 (y:=U8 l skip k);rfl;rfl;rfl;trivial;exact hpc;rfl;rfl;decide;omega)|(apply Aa.QH (l:=gi l k) (r:=List.replicate (l.length+1) skip);rfl;rfl;rfl;rfl;exact hrl;rfl;rfl;(intro _ h;cases h);rfl;rfl;rfl;decide;decide;omega)|(apply Aa.assign;rfl)|(apply Aa.move;rfl)|(apply Aa.Bv;rfl;rfl;omega)|(apply Aa.int;rfl;rfl;rfl)|(apply Aa.AV;rfl;rfl;rfl;omega;rfl)|(apply Aa.load;rfl;rfl)|(apply Aa.BN;rfl;rfl)|(apply Aa.buildSlice;rfl;rfl;rfl;decide;rfl;rfl;rfl)|(apply Aa.Dj;rfl;rfl;rfl;rfl;omega)|(apply Aa.Oa;rfl;rfl;rfl;(first|rfl|omega|(simp only [List.length_take,List.length_drop,List.length_append,List.length_singleton,List.length_cons,List.length_nil]<;>omega));rfl;rfl;(intro _ h;cases h);rfl;rfl;rfl;decide;decide;(first|omega|(simp only [List.length_take,List.length_drop,List.length_append,List.length_singleton,List.length_cons,List.length_nil]<;>omega)))|(apply Ae.Af;rfl)|(apply Ae.Ri;rfl)|(intro _;try (exfalso;omega)))
   all_goals try (exfalso;omega)
   ·refine Az.normal ⟨by first|omega|decide,?_,?_⟩
    ·try (rw [← hst])
     repeat (first|exact Ad.nil|refine Ad.same trivial rfl ?_|refine Ad.same (Ac rfl) rfl ?_|refine Ad.same ⟨trivial,Ac rfl,trivial⟩ rfl ?_|refine Ad.same ⟨trivial,Ac rfl,Ac rfl,trivial⟩ rfl ?_|refine Ad.same ⟨trivial,Ac rfl,Ac rfl,Ac rfl,trivial⟩ rfl ?_|refine Ad.same ⟨trivial,Ac rfl,Ac rfl,Ac rfl,Ac rfl,trivial⟩ rfl ?_|refine Ad.same ⟨trivial,trivial⟩ rfl ?_|refine Ad.cons trivial rfl (.of_eq (Au (by simp<;>omega))) ?_)
    ·rw [← hst]
     repeat (first|exact Aj.nil|(refine Aj.cons (Ac rfl) ?_ rfl ?_ ?_;(first|exact HB.Ak rfl|exact AP.Ah _ _|(simp [HB.under,AP.under,PV.under]));(first|exact Bh.refl _|exact Bh.vec (Bf.refl _) (by simp))))
   ·refine Az.normal ⟨by first|omega|decide,?_,?_⟩
    ·try (rw [← hst])
     repeat (first|exact Ad.nil|refine Ad.same trivial rfl ?_|refine Ad.same (Ac rfl) rfl ?_|refine Ad.same ⟨trivial,Ac rfl,trivial⟩ rfl ?_|refine Ad.same ⟨trivial,Ac rfl,Ac rfl,trivial⟩ rfl ?_|refine Ad.same ⟨trivial,Ac rfl,Ac rfl,Ac rfl,trivial⟩ rfl ?_|refine Ad.same ⟨trivial,Ac rfl,Ac rfl,Ac rfl,Ac rfl,trivial⟩ rfl ?_|refine Ad.same ⟨trivial,trivial⟩ rfl ?_|refine Ad.cons trivial rfl (.of_eq (Au (by simp<;>omega))) ?_)
    ·rw [← hst]
     repeat (first|exact Aj.nil|(refine Aj.cons (Ac rfl) ?_ rfl ?_ ?_;(first|exact HB.Ak rfl|exact AP.Ah _ _|(simp [HB.under,AP.under,PV.under]));(first|exact Bh.refl _|exact Bh.vec (Bf.refl _) (by simp))))
 ·rw [qg]
  have lC:(Gn (Dz l skip l.length) l.length (m+(l.length+1))).cols.length=l.length:=hs.len
  have lV:(GY (Dz l skip l.length) l.length (m+(l.length+1))).length=m+(l.length+1):=hs.lV
  repeat' (first|(refine Ag.Jp 47 ?_;refine Ag.ghost (Bd.freeze 46 rfl rfl) ?_)|apply Ae.assoc|apply Ae.AB|apply Ae.AY|apply Ae.Ai|apply AO.normal|apply AL.exit|apply Az.exit|apply Ag.nil|apply Ag.one|(apply Aa.bG [] (hsv);rfl;rfl;exact .of_eq rfl;exact AP.Ak rfl;exact Dv rfl;(repeat (first|exact trivial|refine ⟨⟨_,rfl,.of_eq rfl⟩,?_⟩));decide;(intro _ hb;first|(simp at hb;done)|(simp at hb ⊢<;>omega));(rintro _ _ _ ⟨rfl,rfl,rfl⟩))|(apply Aa.sliceTo (l:=GY (Dz l skip l.length) l.length (m+(l.length+1))) (b:=m);rfl;rfl;rfl;rfl;rfl;exact lV;omega)|(apply Aa.move;rfl)|(apply Aa.int;rfl;rfl;rfl)|(apply Aa.load;rfl;rfl)|(apply Aa.BN;rfl;rfl)|(apply Aa.lenV;rfl;rfl;rfl)|(apply Aa.AU;rfl;rfl;rfl)|(apply Aa.alloc;rfl)|(apply Aa.Bj;rfl;rfl;rfl;trivial;rfl;rfl;exact Ac rfl;exact le_dec rfl)|(apply Ae.Af;rfl)|(intro _;try (exfalso;omega)))
  all_goals try (exfalso;omega)
  all_goals try contradiction
  have eM:Z8 l m skip=⟨(Gn (Dz l skip l.length) l.length (m+(l.length+1))).cols.map (KN m),(Gn (Dz l skip l.length) l.length (m+(l.length+1))).total,JU (Dz l skip l.length) l.length (m+(l.length+1)),(GY (Dz l skip l.length) l.length (m+(l.length+1))).take m⟩:=rfl
  have XO:=hs.col
  rw [eM]
  generalize (Gn (Dz l skip l.length) l.length (m+(l.length+1))).cols=cols at *
  apply Ae.FH (l.length) [(4,_),(7,_),(11,_),(57,_),(58,_)] [(8,_),(0,_)] (fun k r=>(59,.p (.int .i64 (k:Int)))::r) (fun k r=>(7,.vec 3 (cells (UZ m cols k)) l.length false)::r) 9
  ·first|omega|decide
  ·first|omega|decide
  ·repeat (first|exact Ad.nil|(refine Ad.eq rfl ?_ ?_;(first|exact PV.Ak rfl|(simp [PV.under,AP.under];done)))|refine Ad.cons trivial rfl (.of_eq (Au (by simp<;>omega))) ?_)
  ·repeat (first|exact Aj.nil|(refine Aj.eq rfl (Ac rfl) ?_ ?_;(first|exact HB.Ak rfl|exact AP.Ah _ _|(simp [HB.under,AP.under,PV.under];done)))|(refine Aj.cons (Ac rfl) ?_ rfl ?_ ?_;(first|exact trivial|exact AP.Ah _ _|(simp [HB.under,AP.under,PV.under]));(first|exact Bh.refl _|exact Bh.vec (Bf.refl _) (by simp))))
  ·intro k hk
   have c1:=V8 m cols k
   have c2:=nR m cols (j:=k) (by omega)
   have c3:=dF m cols (j:=k) (by omega)
   have c4:=XO k hk
   by_cases hc:(m:Int)≤gi cols k
   ·have c5:KN m (gi cols k)=-1:=if_pos hc
    rw [c5] at c3
    repeat' (first|apply Ae.AB|apply Ae.region|apply Ae.Aq|apply Ae.Ai|apply AO.normal|apply AL.normal|apply Ag.nil|apply Ag.one|(apply Aa.Dn;rfl;rfl;(first|omega|(simp only [List.length_set]<;>omega));exact congrArg (fun b=>some (FV.int .i64 b)) (c2))|(apply Aa.D8 (y:=(-1:Int));rfl;rfl;rfl;trivial;(first|rfl|(refine congrArg (fun t=>[PV.p (FV.int _ t)]) ?_;first|omega|(simp only [Int.natCast_add,Int.natCast_mul,Int.natCast_ediv,Int.natCast_emod]<;>omega)));rfl;rfl;decide;(first|omega|(simp only [List.length_set]<;>omega)))|(apply Aa.assign;rfl)|(apply Aa.move;rfl)|(apply Aa.Bv;rfl;rfl;omega)|(apply Aa.int;rfl;rfl;rfl)|(apply Aa.load;rfl;rfl)|(apply Aa.AU;rfl;rfl;rfl)|(apply Aa.Dj;rfl;rfl;rfl;rfl;omega)|(apply Ae.Af;rfl)|(apply Ae.AZ;rfl)|(intro _;try (exfalso;omega)))
    all_goals try (exfalso;omega)
    refine Az.normal ⟨by first|omega|decide,?_,?_⟩
    ·try (rw [← c3])
     repeat (first|exact Ad.nil|refine Ad.same trivial rfl ?_|refine Ad.same (Ac rfl) rfl ?_|refine Ad.same ⟨trivial,Ac rfl,trivial⟩ rfl ?_|refine Ad.same ⟨trivial,Ac rfl,Ac rfl,trivial⟩ rfl ?_|refine Ad.same ⟨trivial,Ac rfl,Ac rfl,Ac rfl,trivial⟩ rfl ?_|refine Ad.same ⟨trivial,Ac rfl,Ac rfl,Ac rfl,Ac rfl,trivial⟩ rfl ?_|refine Ad.same ⟨trivial,trivial⟩ rfl ?_|refine Ad.cons trivial rfl (.of_eq (Au (by simp<;>omega))) ?_)
    ·rw [← c3]
     repeat (first|exact Aj.nil|(refine Aj.cons (Ac rfl) ?_ rfl ?_ ?_;(first|exact HB.Ak rfl|exact AP.Ah _ _|(simp [HB.under,AP.under,PV.under]));(first|exact Bh.refl _|exact Bh.vec (Bf.refl _) (by simp))))
   ·have c5:KN m (gi cols k)=gi cols k:=if_neg hc
    have c6:=pO m cols (j:=k) (by omega) c5
    repeat' (first|apply Ae.AB|apply Ae.region|apply Ae.Aq|apply Ae.Ai|apply AO.normal|apply AL.normal|apply Ae.skip|apply Ag.nil|apply Ag.one|(apply Aa.Dn;rfl;rfl;(first|omega|(simp only [List.length_set]<;>omega));exact congrArg (fun b=>some (FV.int .i64 b)) (c2))|(apply Aa.assign;rfl)|(apply Aa.move;rfl)|(apply Aa.Bv;rfl;rfl;omega)|(apply Aa.int;rfl;rfl;rfl)|(apply Aa.Dj;rfl;rfl;rfl;rfl;omega)|(apply Ae.Af;rfl)|(apply Ae.AZ;rfl)|(intro _;try (exfalso;omega)))
    all_goals try (exfalso;omega)
    refine Az.normal ⟨by first|omega|decide,?_,?_⟩
    ·try (rw [c6])
     repeat (first|exact Ad.nil|refine Ad.same trivial rfl ?_|refine Ad.same (Ac rfl) rfl ?_|refine Ad.same ⟨trivial,Ac rfl,trivial⟩ rfl ?_|refine Ad.same ⟨trivial,Ac rfl,Ac rfl,trivial⟩ rfl ?_|refine Ad.same ⟨trivial,Ac rfl,Ac rfl,Ac rfl,trivial⟩ rfl ?_|refine Ad.same ⟨trivial,Ac rfl,Ac rfl,Ac rfl,Ac rfl,trivial⟩ rfl ?_|refine Ad.same ⟨trivial,trivial⟩ rfl ?_|refine Ad.cons trivial rfl (.of_eq (Au (by simp<;>omega))) ?_)
    ·rw [c6]
     repeat (first|exact Aj.nil|(refine Aj.cons (Ac rfl) ?_ rfl ?_ ?_;(first|exact HB.Ak rfl|exact AP.Ah _ _|(simp [HB.under,AP.under,PV.under]));(first|exact Bh.refl _|exact Bh.vec (Bf.refl _) (by simp))))
  ·have c7:=xA m cols
   rw [lC] at c7
   rw [c7]
   have f1:(cols.map (KN m)).length=l.length:=by rw [List.length_map];exact lC
   have f2:=hs.lU
   have f3:((GY (Dz l skip l.length) l.length (m+(l.length+1))).take m).length=m:=by rw [List.length_take,lV];omega
   generalize cols.map (KN m)=C at *
   generalize (GY (Dz l skip l.length) l.length (m+(l.length+1))).take m=V at *
   have hfin:∀ (t:Int) (U:List Int),U.length=l.length→PV.ET [.p (.agg [.lst 3 (cells C) l.length,.int .i64 t,.lst 3 (cells U) l.length,.lst 3 (cells V) m]),.p (.int .i64 0)]=PV.ET [.p (.agg (Enc.enc (⟨C,t,U,V⟩:Qy))),.p (.int .i64 0)]:=fun t U f2=>by
    show _=PV.ET [.p (.agg [.lst 3 (cells C) C.length,.int .i64 t,.lst 3 (cells U) U.length,.lst 3 (cells V) V.length]),.p (.int .i64 0)]
    rw [f1,f2,f3]
   repeat' (first|(refine Ae.at 20 ?_;refine Ae.ghost (Bd.Dc 8 0 rfl rfl rfl) ?_;first|apply Ae.AB|apply Ae.BF)|apply Ae.AB|apply Ae.AY|apply AO.normal|apply AL.exit|apply Az.exit|apply Ae.ret|apply Ag.nil|apply Ag.one|(apply Aa.assign;rfl)|(apply Aa.int;rfl;rfl;rfl)|(apply Aa.load;rfl;rfl)|(apply Aa.Bj;rfl;rfl;rfl;trivial;rfl;rfl;exact Ac rfl;exact le_dec rfl)|(apply Ae.Af;rfl)|(intro _;try (exfalso;omega)))
   all_goals try (exfalso;omega)
   all_goals (refine Done.ret rfl (.refl _) (by first|exact trivial|exact ⟨trivial,trivial,trivial⟩|exact ⟨trivial,trivial,trivial,trivial⟩) Aj.nil (Nat.zero_le _) (Nat.le_refl _) ⟨?_,rfl,rfl⟩;exact hfin _ _ f2)
theorem gY (e:TypeId):AX env 72 [.lst e [] 0] (.p (.agg (Enc.enc (⟨[],0,[],[]⟩:Qy)))):=by
 have XO:AX env 69 [.lst e [] 0] (.p (.int .i64 0)):=ML e [] (by decide)
 refine AX.enter (AA (by decide)) Tryz.func72 rfl (by kernel_rfl) (by simp [Tryz.ntmps72]) ?_
 repeat' (first|apply Ae.assoc|apply Ae.AB|apply Ae.BF|apply Ae.Ai|apply Ag.nil|apply Ap.nil|apply Ag.one|(apply Ap.bar;decide +kernel)|apply Ap.quiet|(apply Aa.fn;rfl;rfl;exact XO;intro _;rfl)|(apply Aa.DR 1 (0:Int);rfl;rfl;rfl;rfl;rfl;rfl;rfl;decide;decide;decide;rfl)|(apply Aa.assign;rfl)|(apply Aa.move;rfl)|(apply Aa.Bv;rfl;rfl;omega)|(apply Aa.BN;rfl;rfl)|(apply Aa.alloc;rfl))
 all_goals try (exfalso;omega)
 apply Ae.FH (0) [(2,_),(3,_),(4,_),(5,_),(6,_),(7,_)] [(0,_),(1,_),(2,_),(3,_)] (fun k r=>(9,.p (.int .i64 ((k+1:Nat):Int)))::r) (fun k r=>r) 5
 ·first|omega|decide
 ·first|omega|decide
 ·repeat (first|exact Ad.nil|(refine Ad.eq rfl ?_ ?_;(first|exact PV.Ak rfl|(simp [PV.under,AP.under];done)))|refine Ad.cons trivial rfl (.of_eq (Au (by simp<;>omega))) ?_)
 ·repeat (first|exact Aj.nil|(refine Aj.eq rfl (Ac rfl) ?_ ?_;(first|exact HB.Ak rfl|exact AP.Ah _ _|(simp [HB.under,AP.under,PV.under];done)))|(refine Aj.cons (Ac rfl) ?_ rfl ?_ ?_;(first|exact trivial|exact AP.Ah _ _|(simp [HB.under,AP.under,PV.under]));(first|exact Bh.refl _|exact Bh.vec (Bf.refl _) (by simp))))
 ·intro k hk;omega
 ·repeat' (first|(refine Ae.at 34 ?_;refine Ae.ghost (Bd.freeze 5 rfl rfl) ?_;first|apply Ae.AB|apply Ae.BF)|(refine Ap.atIdx 4 ?_;refine Ap.ghost (Bd.freeze 6 rfl rfl) ?_)|apply Ae.assoc|apply Ae.AB|apply Ae.AY|apply Ae.Ai|apply AO.normal|apply AL.exit|apply Az.exit|apply Ag.nil|apply Ap.nil|apply Ag.one|(apply Ap.bar;decide +kernel)|apply Ap.quiet|(apply Aa.DR 0 (0:Int);rfl;rfl;rfl;rfl;rfl;rfl;rfl;decide;decide;decide;rfl)|(apply Aa.sliceFrom (l:=[(0:Int)]) (a:=1);rfl;rfl;rfl;rfl;rfl;rfl;decide)|(apply Aa.assign;rfl)|(apply Aa.move;rfl)|(apply Aa.int;rfl;rfl;rfl)|(apply Aa.alloc;rfl)|(apply Aa.Bj;rfl;rfl;rfl;trivial;rfl;rfl;exact Ac rfl;exact le_dec rfl)|(apply Aa.build;rfl;rfl;rfl;rfl;rfl)|(apply Ae.Aw;rfl))
  all_goals try (exfalso;omega)
  apply Ae.FH (0) [(2,_),(3,_),(4,_),(7,_),(19,_)] [(0,_),(3,_),(5,_),(6,_)] (fun k r=>(20,.p (.int .i64 ((k+1:Nat):Int)))::r) (fun k r=>r) 7
  ·first|omega|decide
  ·first|omega|decide
  ·repeat (first|exact Ad.nil|(refine Ad.eq rfl ?_ ?_;(first|exact PV.Ak rfl|(simp [PV.under,AP.under];done)))|refine Ad.cons trivial rfl (.of_eq (Au (by simp<;>omega))) ?_)
  ·repeat (first|exact Aj.nil|(refine Aj.eq rfl (Ac rfl) ?_ ?_;(first|exact HB.Ak rfl|exact AP.Ah _ _|(simp [HB.under,AP.under,PV.under];done)))|(refine Aj.cons (Ac rfl) ?_ rfl ?_ ?_;(first|exact trivial|exact AP.Ah _ _|(simp [HB.under,AP.under,PV.under]));(first|exact Bh.refl _|exact Bh.vec (Bf.refl _) (by simp))))
  ·intro k hk;omega
  ·repeat' (first|(refine Ae.at 42 ?_;refine Ae.ghost (Bd.Dc 6 0 rfl rfl rfl) ?_;first|apply Ae.AB|apply Ae.BF)|apply Ae.assoc|apply Ae.AB|apply Ae.AY|apply AO.normal|apply AL.exit|apply Az.exit|apply Ae.ret|apply Ag.nil|apply Ag.one|(apply Aa.move;rfl)|(apply Aa.int;rfl;rfl;rfl)|(apply Aa.load;rfl;rfl)|(apply Aa.Bj;rfl;rfl;rfl;trivial;rfl;rfl;exact Ac rfl;exact le_dec rfl)|(apply Ae.Aw;rfl))
   all_goals first|(exfalso;omega)|(refine Done.ret rfl (.refl _) (by first|exact trivial|exact ⟨trivial,trivial,trivial⟩|exact ⟨trivial,trivial,trivial,trivial⟩) Aj.nil (Nat.zero_le _) (Nat.le_refl _) ⟨?_,rfl,rfl⟩;try rfl)
theorem XY {skip:Int} (e:TypeId) (hk:0≤skip∧skip≤1000000000):AX env 45 [.lst e (cells ([]:List (List Int))) 0,.int .i64 skip] (.ET [.p (.agg (Enc.enc (⟨[],0,[],[]⟩:Qy))),.p (.int .i64 0)]):=by
 have hM:Rz [] 0 0 skip 1000000000:=⟨⟨rfl,fun r hr=>by omega,fun r k hr=>by omega,hk,by decide⟩,by omega,by omega,by decide,fun _=>rfl⟩
 have hck:=L6 e hM
 have hcl:=Ox e hM
 have hs:=gY 52
 refine AX.enter (AA (by decide)) Tryz.func45 rfl (by kernel_rfl) (by simp [Tryz.ntmps45]) ?_
 repeat' (first|apply Ae.assoc|apply Ae.AB|apply Ae.Aq|apply Ae.Ai|apply Ag.nil|apply Ag.one|(apply Aa.fn;rfl;rfl;exact hck;intro _;rfl)|(apply Aa.fn;rfl;rfl;exact hcl;intro _;rfl)|(apply Aa.makeSlice (n:=0);rfl;rfl;rfl;rfl;rfl;decide;decide)|(apply Aa.assign;rfl)|(apply Aa.move;rfl)|(apply Aa.int;rfl;rfl;rfl)|(apply Aa.BN;rfl;rfl)|(apply Aa.alloc;rfl)|(apply Ae.Aw;rfl))
 all_goals try (exfalso;omega)
 all_goals try contradiction
 apply Ae.FH (0) [(0,_),(1,_),(4,_),(7,_),(8,_),(26,_),(27,_)] [(0,_),(1,_)] (fun k r=>(28,.p (.int .i64 (k:Int)))::r) (fun k r=>r) 2
 ·first|omega|decide
 ·first|omega|decide
 ·repeat (first|exact Ad.nil|(refine Ad.eq rfl ?_ ?_;(first|exact PV.Ak rfl|(simp [PV.under,AP.under];done)))|refine Ad.cons trivial rfl (.of_eq (Au (by simp<;>omega))) ?_)
 ·repeat (first|exact Aj.nil|(refine Aj.eq rfl (Ac rfl) ?_ ?_;(first|exact HB.Ak rfl|exact AP.Ah _ _|(simp [HB.under,AP.under,PV.under];done)))|(refine Aj.cons (Ac rfl) ?_ rfl ?_ ?_;(first|exact trivial|exact AP.Ah _ _|(simp [HB.under,AP.under,PV.under]));(first|exact Bh.refl _|exact Bh.vec (Bf.refl _) (by simp))))
 ·intro k hk;omega
 ·repeat' (first|(refine Ag.Jp 47 ?_;refine Ag.ghost (Bd.freeze 46 rfl rfl) ?_)|apply Ae.assoc|apply Ae.AB|apply Ae.Aq|apply Ae.AY|apply Ae.Ai|apply AO.normal|apply AL.exit|apply Az.exit|apply Ag.nil|apply Ag.one|(apply Aa.fn;rfl;rfl;exact hs;intro _;rfl)|(apply Aa.move;rfl)|(apply Aa.int;rfl;rfl;rfl)|(apply Aa.load;rfl;rfl)|(apply Aa.BN;rfl;rfl)|(apply Aa.AU;rfl;rfl;rfl)|(apply Aa.alloc;rfl)|(apply Aa.Bj;rfl;rfl;rfl;trivial;rfl;rfl;exact Ac rfl;exact le_dec rfl)|(apply Ae.Aw;rfl))
  all_goals try (exfalso;omega)
  all_goals try contradiction
  apply Ae.FH (0) [(4,_),(7,_),(11,_),(57,_),(58,_)] [(0,_),(2,_)] (fun k r=>(59,.p (.int .i64 (k:Int)))::r) (fun k r=>r) 3
  ·first|omega|decide
  ·first|omega|decide
  ·repeat (first|exact Ad.nil|(refine Ad.eq rfl ?_ ?_;(first|exact PV.Ak rfl|(simp [PV.under,AP.under];done)))|refine Ad.cons trivial rfl (.of_eq (Au (by simp<;>omega))) ?_)
  ·repeat (first|exact Aj.nil|(refine Aj.eq rfl (Ac rfl) ?_ ?_;(first|exact HB.Ak rfl|exact AP.Ah _ _|(simp [HB.under,AP.under,PV.under];done)))|(refine Aj.cons (Ac rfl) ?_ rfl ?_ ?_;(first|exact trivial|exact AP.Ah _ _|(simp [HB.under,AP.under,PV.under]));(first|exact Bh.refl _|exact Bh.vec (Bf.refl _) (by simp))))
  ·intro k hk;omega
  ·repeat' (first|apply Ae.AB|apply Ae.AY|apply AO.normal|apply AL.exit|apply Az.exit|apply Ae.ret|apply Ag.nil|apply Ag.one|(apply Aa.assign;rfl)|(apply Aa.int;rfl;rfl;rfl)|(apply Aa.load;rfl;rfl)|(apply Aa.Bj;rfl;rfl;rfl;trivial;rfl;rfl;exact Ac rfl;exact le_dec rfl)|(apply Ae.Aw;rfl))
   all_goals first|(exfalso;omega)|(refine Done.ret rfl (.refl _) (by first|exact trivial|exact ⟨trivial,trivial,trivial⟩|exact ⟨trivial,trivial,trivial,trivial⟩) Aj.nil (Nat.zero_le _) (Nat.le_refl _) ⟨?_,rfl,rfl⟩;try rfl)
end Go.Proofs.YtdabojnmoejilaaGreatDoor
namespace Go.Hun
open Go Go.Am Go.Vm
def vK (row:List Int) (g:Nat→Int) (t:Nat) (b:Int):Nat→Int
 |0=>b
 |k+1=>if t.testBit k then vK row g t b k else min (vK row g t b k) (gi row k+g (t ||| 2 ^ k))
def Za (l:List (List Int)) (skip:Int) (m n:Nat):Nat→Nat→Int
 |0,_=>0
 |r+1,t=>vK (gi l (n-(r+1))) (Za l skip m n r) t (skip+Za l skip m n r t) m
def TY (f:Nat→Int) (n:Nat):Nat→Int
 |0=>0
 |r+1=>f (n-(r+1))+TY f n r
theorem Uu (f:Nat→Int) (n:Nat):∀ r,r≤n→Dw f (n-r)+TY f n r=Dw f n
 |0,_=>by simp [TY]
 |r+1,h=>by
  have ih:=Uu f n r (by omega)
  have e:n-r=(n-(r+1))+1:=by omega
  rw [e] at ih
  simp only [Dw] at ih
  simp only [TY]
  omega
theorem rM (f:Nat→Int) (n:Nat):TY f n n=Dw f n:=by
 have:=Uu f n n (Nat.le_refl _)
 rw [Nat.sub_self] at this
 simp only [Dw] at this
 omega
structure b0r (n m r t:Nat) (cols:Nat→Int):Prop where
 rng:∀ q,n-r≤q→q<n→-1≤cols q∧cols q<m
 inj:∀ p q,n-r≤p→p<n→n-r≤q→q<n→0≤cols p→cols p=cols q→p=q
 free:∀ q,n-r≤q→q<n→0≤cols q→t.testBit (cols q).toNat=false
theorem a3d {t j k:Nat}:(t ||| 2 ^ j).testBit k=(t.testBit k||decide (j=k)):=by
 rw [Nat.testBit_or,Nat.testBit_two_pow]
end Go.Hun
namespace Go.Proofs.YtdabojnmoejilaaGreatDoor
open Go Go.Am Go.Vm Go.Hun
attribute [local irreducible] Aa Ag Ap Ae BD AX CO AO AL Az Vm.Done CY Bl ZW
theorem mX {L:Vm.Frame} {H:Vm.Heap} {nx:Nat} {Q:PV→Vm.Heap→Nat→Prop} {dst:Option Tmp} {ty:TypeId} {pos:String} {af:Array Edge} {gd:Option (Nat×Bool)} {fo:Operand} {args:Array Operand} {aT:Array TypeId} {fs cs xs:List PV} {c:Code}
 (hf:BA env.Γ L fo=some (.clo 103 fs cs)) (ha:evs env.Γ L args.toList=some xs) (hb:Tryz.f103.body=some c) (hn:(fs++xs++cs).length≤Tryz.f103.ntmps)
 (h:Ae env nx c (CP 0 (fs++xs++cs)) H nx (Bl env.P Tryz.f103.results.toList Q)):Aa env true ⟨dst,.call { callee:=.value fo,args:=args,argTypes:=aT },ty,pos,af,gd⟩ L H nx Q:=by
 have h0:(match Tryz.f103.body with|some c=>Hq env.G Tryz.f103 c|none=>false)=true:=by kernel_rfl
 rw [hb] at h0
 exact Aa.inline rfl hf ha (AA (by decide)) Tryz.func103 hb h0 hn h
theorem lW {L:Vm.Frame} {H:Vm.Heap} {nx:Nat} {Q:PV→Vm.Heap→Nat→Prop} {dst:Option Tmp} {ty:TypeId} {pos:String} {af:Array Edge} {gd:Option (Nat×Bool)} {fo:Operand} {args:Array Operand} {aT:Array TypeId} {fs cs xs:List PV} {c:Code}
 (hf:BA env.Γ L fo=some (.clo 76 fs cs)) (ha:evs env.Γ L args.toList=some xs) (hb:Tryz.f76.body=some c) (hn:(fs++xs++cs).length≤Tryz.f76.ntmps)
 (h:Ae env nx c (CP 0 (fs++xs++cs)) H nx (Bl env.P Tryz.f76.results.toList Q)):Aa env true ⟨dst,.call { callee:=.value fo,args:=args,argTypes:=aT },ty,pos,af,gd⟩ L H nx Q:=by
 have h0:(match Tryz.f76.body with|some c=>Hq env.G Tryz.f76 c|none=>false)=true:=by kernel_rfl
 rw [hb] at h0
 exact Aa.inline rfl hf ha (AA (by decide)) Tryz.func76 hb h0 hn h
def XJ (l:List (List Int)) (m:Nat) (skip:Int) (cols:List Int):Nat→Nat→List Bool→Int→Int×Int
 |0,_,_,sum=>(sum,0)
 |r+1,k,used,sum =>
  if gi cols k< -1∨gi cols k≥m then (0,3)
  else if gi cols k<0 then XJ l m skip cols r (k+1) used (sum+skip)
  else if gi used (gi cols k).toNat=true then (0,9)
  else XJ l m skip cols r (k+1) (used.set (gi cols k).toNat true) (sum+gi (gi l k) (gi cols k).toNat)
def aG (l:List (List Int)) (m:Nat) (skip:Int) (cols:List Int):Int×Int:=if cols.length≠l.length then (0,5) else XJ l m skip cols l.length 0 (List.replicate m false) 0
theorem ji {l:List (List Int)} {m:Nat} {skip B:Int} (e:TypeId) (h:Rz l l.length m skip B) (cols:List Int) :
 AX env 47 [.lst e (cells l) l.length,.lst 3 (cells cols) cols.length,.int .i64 (-1),.int .i64 skip] (.ET [.p (.int .i64 (aG l m skip cols).1),.p (.int .i64 (aG l m skip cols).2)]):=by
 have hcl:=Ox e h
 have h2:=h.n60
 have h3:=h.zB
 have h4:=h.B9
 have hrow:=h.P7.row
 have uM:=h.P7.rng
 have hsk:=h.P7.skip
 unfold aG
 refine AX.enter (AA (by decide)) Tryz.func47 rfl (by kernel_rfl) (by simp [Tryz.ntmps47]) ?_
 by_cases hlen:cols.length=l.length
 case neg =>
  rw [if_pos hlen]
  repeat' (first|apply Ae.assoc|apply Ae.AB|apply Ae.BO|apply Ag.nil|apply Ag.one|(apply Aa.assign;rfl)|(apply Aa.move;rfl)|(apply Aa.int;rfl;rfl;rfl)|(apply Aa.BN;rfl;rfl)|(apply Ae.Af;rfl)|(intro _;try (exfalso;omega)))
  all_goals first|(exfalso;omega)|contradiction|(refine Done.ret rfl (.refl _) (by first|exact trivial|exact ⟨trivial,trivial,trivial⟩|exact ⟨trivial,trivial,trivial,trivial⟩) Aj.nil (Nat.zero_le _) (Nat.le_refl _) ⟨?_,rfl,rfl⟩;try rfl)
 rw [if_neg (fun x=>x hlen)]
 repeat' (first|apply Ae.assoc|apply Ae.AB|apply Ae.Aq|apply Ae.Ai|apply Ag.nil|apply Ag.one|(apply Aa.fn;rfl;rfl;exact hcl;intro _;rfl)|(apply Aa.DR m false;rfl;rfl;rfl;rfl;rfl;rfl;rfl;omega;decide;decide;rfl)|(apply Aa.assign;rfl)|(apply Aa.move;rfl)|(apply Aa.int;rfl;rfl;rfl)|(apply Aa.BN;rfl;rfl)|(apply Ae.Af;rfl)|(intro _;try (exfalso;omega)))
 all_goals try (exfalso;omega)
 obtain ⟨R,hR⟩:∃ R,R=XJ l m skip cols l.length 0 (List.replicate m false) 0:=⟨_,rfl⟩
 rw [← hR]
 refine Ae.D7 (fun s:Nat×List Bool×Int=>[(0,.p (.lst e (cells l) l.length)),(2,.p (.int .i64 (-1))),(3,.p (.int .i64 skip)),(10,.p (.int .i64 s.2.2)),(11,.vec 0 m 0 m),(22,.p (.lst 3 (cells cols) cols.length)),(23,.p (.int .i64 (cols.length:Int))),(24,.p (.int .i64 (s.1:Int)))]) (fun s=>[(0,.vec 4 (cells s.2.1) m false)]) 1
  (fun s=>s.1≤l.length∧s.2.1.length=m∧0≤s.2.2∧s.2.2≤s.1*B∧XJ l m skip cols (l.length-s.1) s.1 s.2.1 s.2.2=R) (fun s=>l.length-s.1) (0,List.replicate m false,0) (by omega) ⟨Nat.zero_le _,by simp,by simp,by simp,hR.symm⟩ ⟨by omega,?_,?_⟩ ?_
 ·repeat (first|exact Ad.nil|refine Ad.same trivial rfl ?_|refine Ad.same (Ac rfl) rfl ?_|refine Ad.same ⟨trivial,Ac rfl,Ac rfl,Ac rfl,trivial⟩ rfl ?_|refine Ad.same ⟨trivial,Ac rfl,Ac rfl,trivial⟩ rfl ?_|refine Ad.same ⟨trivial,trivial⟩ rfl ?_|refine Ad.cons trivial rfl (.of_eq (Au (by simp<;>omega))) ?_)
 ·repeat (first|exact Aj.nil|(refine Aj.cons (Ac rfl) ?_ rfl ?_ ?_;(first|exact HB.Ak rfl|exact AP.Ah _ _|(simp [HB.under,AP.under,PV.under]));(first|exact Bh.refl _|exact Bh.vec (Bf.refl _) (by simp))))
 rintro ⟨k,used,sum⟩ ⟨i1,i2,i3,i4,i5⟩
 simp only at i1 i2 i3 i4 i5 ⊢
 have hkB:(k:Int)*B≤60*1000000000:=Int.mul_le_mul (by omega) h4 (by omega) (by omega)
 by_cases hk:k<l.length
 ·obtain ⟨r,hr⟩:∃ r,l.length-k=r+1:=⟨l.length-k-1,by omega⟩
  rw [hr] at i5
  have hr':l.length-(k+1)=r:=by omega
  have b1q:((k+1:Nat):Int)*B=(k:Int)*B+B:=by rw [Int.natCast_add,Int.add_mul];simp
  unfold XJ at i5
  by_cases c1:gi cols k< -1∨gi cols k≥m
  ·rw [if_pos c1] at i5
   rw [← i5]
   repeat' (first|apply Ae.AB|apply Ae.Aq|apply Ae.Ai|apply AO.ret|apply AL.ret|apply Az.ret|apply Ae.ret|apply Ag.nil|apply Ag.one|(apply Ag.take;rfl;rfl)|(apply Ag.drop;rfl;rfl;rfl)|(apply Ag.guard;rfl;rfl)|(apply Aa.assign;rfl)|(apply Aa.move;rfl)|(apply Aa.int;rfl;rfl;rfl)|(apply Aa.AV;rfl;rfl;rfl;omega;rfl)|(apply Aa.load;rfl;rfl)|(apply Aa.Bz;rfl;rfl)|(apply Aa.AQ;rfl;rfl)|(apply Aa.lenV;rfl;rfl;rfl)|(apply Ae.Af;rfl)|(apply Ae.cond_true;rfl)|(apply Ae.AZ;rfl)|(intro _;try (exfalso;omega)))
   all_goals first|(exfalso;omega)|contradiction|(refine Done.ret rfl (.refl _) (by first|exact trivial|exact ⟨trivial,trivial,trivial⟩|exact ⟨trivial,trivial,trivial,trivial⟩) Aj.nil (Nat.zero_le _) (Nat.le_refl _) ⟨?_,rfl,rfl⟩;try rfl)
  rw [if_neg c1] at i5
  by_cases c2:gi cols k<0
  ·rw [if_pos c2] at i5
   repeat' (first|apply Ae.AB|apply Ae.region|apply Ae.Aq|apply Ae.Ai|apply AO.normal|apply AO.exit|apply AL.exit|(apply AL.out;decide)|apply Ae.exit|apply Ag.nil|apply Ag.one|(apply Ag.take;rfl;rfl)|(apply Ag.guard;rfl;rfl)|(apply Aa.assign;rfl)|(apply Aa.move;rfl)|(apply Aa.Bv;rfl;rfl;omega)|(apply Aa.int;rfl;rfl;rfl)|(apply Aa.AV;rfl;rfl;rfl;omega;rfl)|(apply Aa.load;rfl;rfl)|(apply Aa.AQ;rfl;rfl)|(apply Aa.lenV;rfl;rfl;rfl)|(apply Ae.Af;rfl)|(apply Ae.AZ;rfl)|(intro _;try (exfalso;omega)))
   all_goals try (exfalso;omega)
   refine Az.normal ⟨(k+1,used,sum+skip),⟨hk,i2,by simp only;omega,by simp only;omega,by simp only;rw [hr'];exact i5⟩,by simp only;omega,⟨by omega,?_,?_⟩⟩
   ·repeat (first|exact Ad.nil|refine Ad.same trivial rfl ?_|refine Ad.same (Ac rfl) rfl ?_|refine Ad.same ⟨trivial,Ac rfl,Ac rfl,Ac rfl,trivial⟩ rfl ?_|refine Ad.same ⟨trivial,Ac rfl,Ac rfl,trivial⟩ rfl ?_|refine Ad.same ⟨trivial,trivial⟩ rfl ?_|refine Ad.cons trivial rfl (.of_eq (Au (by simp<;>omega))) ?_)
   ·repeat (first|exact Aj.nil|(refine Aj.cons (Ac rfl) ?_ rfl ?_ ?_;(first|exact HB.Ak rfl|exact AP.Ah _ _|(simp [HB.under,AP.under,PV.under]));(first|exact Bh.refl _|exact Bh.vec (Bf.refl _) (by simp))))
  rw [if_neg c2] at i5
  obtain ⟨j,hj⟩:∃ j:Nat,gi cols k=j:=⟨(gi cols k).toNat,by omega⟩
  rw [hj,Int.toNat_natCast] at i5
  have hjm:j<m:=by omega
  have hc:=uM k j hk hjm
  have hrl:=hrow k hk
  by_cases c3:gi used j=true
  ·rw [if_pos c3] at i5
   rw [← i5]
   repeat' (first|apply Ae.AB|apply Ae.Aq|apply Ae.Ai|apply AO.ret|apply AL.ret|apply Az.ret|apply Ae.ret|apply Ag.nil|apply Ag.one|(apply Ag.take;rfl;rfl)|(apply Aa.Dn;rfl;rfl;(first|omega|(simp only [NI]<;>omega));exact congrArg (fun b=>some (FV.bool b)) (c3))|(apply Aa.load;rfl;exact congrArg (fun a=>some (PV.p (FV.int .i64 a))) hj)|(apply Aa.assign;rfl)|(apply Aa.move;rfl)|(apply Aa.int;rfl;rfl;rfl)|(apply Aa.AV;rfl;rfl;rfl;omega;rfl)|(apply Aa.AQ;rfl;rfl)|(apply Aa.lenV;rfl;rfl;rfl)|(apply Aa.Dj;rfl;rfl;rfl;rfl;omega)|(apply Ae.Af;rfl)|(apply Ae.cond_true;rfl)|(apply Ae.cond_false;rfl)|(apply Ae.AZ;rfl)|(intro _;try (exfalso;omega)))
   all_goals first|(exfalso;omega)|contradiction|(refine Done.ret rfl (.refl _) (by first|exact trivial|exact ⟨trivial,trivial,trivial⟩|exact ⟨trivial,trivial,trivial,trivial⟩) Aj.nil (Nat.zero_le _) (Nat.le_refl _) ⟨?_,rfl,rfl⟩;try rfl)
  ·rw [if_neg c3] at i5
   have c3':gi used j=false:=by cases h:gi used j<;>simp_all
   repeat' (first|apply Ae.AB|apply Ae.region|apply Ae.Aq|apply Ae.Ai|apply AO.normal|apply AL.normal|apply Ae.skip|apply Ag.nil|apply Ag.one|(apply Ag.take;rfl;rfl)|(apply Aa.Dn;rfl;rfl;(first|omega|(simp only [NI]<;>omega));exact congrArg (fun b=>some (FV.bool b)) (c3'))|(apply Aa.load;rfl;exact congrArg (fun a=>some (PV.p (FV.int .i64 a))) hj)|(apply Aa.D8 (y:=true);rfl;rfl;rfl;trivial;(first|rfl|(refine congrArg (fun t=>[PV.p (FV.int _ t)]) ?_;first|omega|(simp only [Int.natCast_add,Int.natCast_mul,Int.natCast_ediv,Int.natCast_emod]<;>omega)));rfl;rfl;decide;(first|omega|(simp only [List.length_set]<;>omega)))|(apply Aa.assign;rfl)|(apply Aa.move;rfl)|(apply Aa.Bv;rfl;rfl;omega)|(apply Aa.int;rfl;rfl;rfl)|(apply Aa.AV;rfl;rfl;rfl;omega;rfl)|(apply Aa.load;rfl;rfl)|(apply Aa.AQ;rfl;rfl)|(apply Aa.lenV;rfl;rfl;rfl)|(apply Aa.Dj;rfl;rfl;rfl;rfl;omega)|(apply Ae.Af;rfl)|(apply Ae.cond_false;rfl)|(apply Ae.AZ;rfl)|(intro _;try (exfalso;omega)))
   all_goals try (exfalso;omega)
   refine Az.normal ⟨(k+1,used.set j true,sum+gi (gi l k) j),⟨hk,by simp only;rw [List.length_set];exact i2,by simp only;omega,by simp only;omega,by simp only;rw [hr'];exact i5⟩,by simp only;omega,⟨by omega,?_,?_⟩⟩
   ·repeat (first|exact Ad.nil|refine Ad.same trivial rfl ?_|refine Ad.same (Ac rfl) rfl ?_|refine Ad.same ⟨trivial,Ac rfl,Ac rfl,Ac rfl,trivial⟩ rfl ?_|refine Ad.same ⟨trivial,Ac rfl,Ac rfl,trivial⟩ rfl ?_|refine Ad.same ⟨trivial,trivial⟩ rfl ?_|refine Ad.cons trivial rfl (.of_eq (Au (by simp<;>omega))) ?_)
   ·repeat (first|exact Aj.nil|(refine Aj.cons (Ac rfl) ?_ rfl ?_ ?_;(first|exact HB.Ak rfl|exact AP.Ah _ _|(simp [HB.under,AP.under,PV.under]));(first|exact Bh.refl _|exact Bh.vec (Bf.refl _) (by simp))))
 ·obtain rfl:k=l.length:=by omega
  rw [Nat.sub_self] at i5
  unfold XJ at i5
  rw [← i5]
  repeat' (first|apply Ae.AB|apply Ae.AY|apply AO.normal|apply AL.exit|apply Az.exit|apply Ae.ret|apply Ag.nil|apply Ag.one|(apply Aa.assign;rfl)|(apply Aa.move;rfl)|(apply Aa.int;rfl;rfl;rfl)|(apply Ae.Af;rfl)|(intro _;try (exfalso;omega)))
  all_goals first|(exfalso;omega)|contradiction|(refine Done.ret rfl (.refl _) (by first|exact trivial|exact ⟨trivial,trivial,trivial⟩|exact ⟨trivial,trivial,trivial,trivial⟩) Aj.nil (Nat.zero_le _) (Nat.le_refl _) ⟨?_,rfl,rfl⟩;try rfl)
theorem ZM (a b:List Int) (h0:a.length+b.length=0):CO env 102 [.lst 52 [.lst 3 (cells a) a.length,.lst 3 (cells b) b.length] 2] 3 (cells (a++b)) (a.length+b.length) true:=by
 have hg:=oH
 have e0:(0:Int)=0+(a.length:Int)+(b.length:Int):=by omega
 rw [e0] at hg
 refine CO.enter (AA (by decide)) Tryz.func102 rfl (by kernel_rfl) (by simp [Tryz.ntmps102]) ?_
 repeat' (first|apply Ae.assoc|apply Ae.AB|apply Ae.Ai|apply Ag.nil|apply Ag.one|(apply Aa.assign;rfl)|(apply Aa.move;rfl)|(apply Aa.BN;rfl;rfl))
 refine Ae.mY 2 ?_
 repeat' (first|apply Ae.assoc|apply Ae.AB|apply Ae.region|apply Ae.Aq|apply Ae.AY|apply Ae.Ai|apply AO.normal|apply AL.normal|apply AL.exit|apply Az.exit|apply Ae.skip|apply Ag.nil|apply Ag.one|(apply Aa.fn;rfl;rfl;exact hg;intro _;rfl)|(apply ZW.zero)|(apply ZW.succ)|(apply Az.again)|(apply Aa.SQ;rfl;rfl;rfl;decide;decide)|(apply Aa.assign;rfl)|(apply Aa.move;rfl)|(apply Aa.Bv;rfl;rfl;omega)|(apply Aa.int;rfl;rfl;rfl)|(apply Aa.load;rfl;rfl)|(apply Aa.BN;rfl;rfl)|(apply Ae.Bg;rfl)|(apply Ae.Aw;rfl)|(apply Ae.cond_false;rfl))
 refine Ae.ghost (Bd.adopt 6 3 rfl) ?_
 refine Ae.mY 2 ?_
 repeat' (first|apply Ae.AB|apply Ae.region|apply Ae.Aq|apply Ae.AY|apply Ae.Ai|apply AO.normal|apply AL.normal|apply AL.exit|apply Az.exit|apply Ae.ret|apply Ag.nil|apply Ag.one|(apply ZW.zero)|(apply ZW.succ)|(apply Az.again)|(apply Aa.SQ;rfl;rfl;rfl;decide;decide)|(apply Aa.QH (l:=a) (r:=b);rfl;rfl;rfl;rfl;rfl;rfl;rfl;(intro _ h;cases h);rfl;rfl;rfl;decide;decide;omega)|(apply Aa.Oa (r:=a);rfl;rfl;rfl;rfl;rfl;rfl;(intro _ h;cases h);rfl;rfl;rfl;decide;decide;omega)|(apply Aa.assign;rfl)|(apply Aa.move;rfl)|(apply Aa.Bv;rfl;rfl;omega)|(apply Aa.int;rfl;rfl;rfl)|(apply Aa.load;rfl;rfl)|(apply Ae.Bg;rfl)|(apply Ae.Aw;rfl))
 exact CY.ret rfl rfl rfl rfl
def sumT (l:List Int):Nat→Int
 |0=>0
 |k+1=>sumT l k+gi l k
def JY (x:Int):Prop:=-1000000000000≤x∧x≤1000000000000
theorem WI {l:List Int}:∀ k,(∀ i,i<k→JY (gi l i))→-(k*1000000000000:Int)≤sumT l k∧sumT l k≤k*1000000000000
 |0,_=>by simp [sumT]
 |k+1,h=>by
  obtain ⟨a,b⟩:=WI k fun i hi=>h i (by omega)
  obtain ⟨c,d⟩:=h k (by omega)
  simp only [sumT]
  omega
noncomputable def Iu (l:List (List Int)) (m:Nat) (rows BR:List Int):Int×Int :=
 open Classical in
 if ¬ (rows.length=l.length∧BR.length=m) then (0,5)
 else if ∃ i,i<(rows++BR).length∧¬ JY (gi (rows++BR) i) then (0,3)
 else if ∃ k,k<BR.length∧gi BR k>0 then (0,20)
 else if ∃ i k,i<l.length∧k<m∧gi rows i+gi BR k>gi (gi l i) k then (0,20)
 else (sumT (rows++BR) (rows++BR).length,0)
section
variable {l:List (List Int)} {m:Nat} {rows BR:List Int}
theorem a5w (h:¬ (rows.length=l.length∧BR.length=m)):Iu l m rows BR=(0,5):=by unfold Iu;rw [if_pos h]
theorem a9c (h:rows.length=l.length∧BR.length=m) {i:Nat} (hi:i<(rows++BR).length) (hb:¬ JY (gi (rows++BR) i)):Iu l m rows BR=(0,3):=by unfold Iu;rw [if_neg (fun x=>x h),if_pos ⟨i,hi,hb⟩]
theorem a3o (h:rows.length=l.length∧BR.length=m) (hb:∀ i,i<(rows++BR).length→JY (gi (rows++BR) i)) {k:Nat} (hk:k<BR.length) (hp:gi BR k>0):Iu l m rows BR=(0,20):=by
 unfold Iu;rw [if_neg (fun x=>x h),if_neg (fun ⟨i,h1,h2⟩=>h2 (hb i h1)),if_pos ⟨k,hk,hp⟩]
theorem a4a (h:rows.length=l.length∧BR.length=m) (hb:∀ i,i<(rows++BR).length→JY (gi (rows++BR) i)) (hn:∀ k,k<BR.length→gi BR k≤0) {i k:Nat} (hi:i<l.length) (hk:k<m) (hp:gi rows i+gi BR k>gi (gi l i) k):Iu l m rows BR=(0,20):=by
 unfold Iu;rw [if_neg (fun x=>x h),if_neg (fun ⟨i,h1,h2⟩=>h2 (hb i h1)),if_neg (fun ⟨k,h1,h2⟩=>by have:=hn k h1;omega),if_pos ⟨i,k,hi,hk,hp⟩]
theorem a0z (h:rows.length=l.length∧BR.length=m) (hb:∀ i,i<(rows++BR).length→JY (gi (rows++BR) i)) (hn:∀ k,k<BR.length→gi BR k≤0) (hf:∀ i,i<l.length→∀ k,k<m→gi rows i+gi BR k≤gi (gi l i) k):Iu l m rows BR=(sumT (rows++BR) (rows++BR).length,0):=by
 unfold Iu;rw [if_neg (fun x=>x h),if_neg (fun ⟨i,h1,h2⟩=>h2 (hb i h1)),if_neg (fun ⟨k,h1,h2⟩=>by have:=hn k h1;omega),if_neg (fun ⟨i,k,h1,h2,h3⟩=>by have:=hf i h1 k h2;omega)]
end
theorem QA {P:Nat→Prop} {k:Nat} (h:∀ i,i<k→P i) (hk:P k):∀ i,i<k+1→P i:=fun i hi=>by
 rcases Nat.lt_or_ge i k with h1|h1
 ·exact h i h1
 ·obtain rfl:i=k:=by omega
  exact hk
theorem Xl {a b:List Int} {i:Nat} (h:i<a.length):gi (a++b) i=gi a i:=by unfold gi;rw [List.getElem?_append_left h]
theorem VO {a b:List Int} {i:Nat}:gi (a++b) (a.length+i)=gi b i:=by unfold gi;rw [List.getElem?_append_right (by omega),Nat.add_sub_cancel_left]
theorem U4 {l:List (List Int)} {m:Nat} {skip B:Int} (e:TypeId) (h:Rz l l.length m skip B) (rows BR:List Int) :
 AX env 74 [.lst e (cells l) l.length,.lst 3 (cells rows) rows.length,.lst 3 (cells BR) BR.length] (.ET [.p (.int .i64 (Iu l m rows BR).1),.p (.int .i64 (Iu l m rows BR).2)]):=by
 have hcl:=Ox e h
 have h2:=h.n60
 have h3:=h.zB
 have h4:=h.B9
 have hrow:=h.P7.row
 have uM:=h.P7.rng
 by_cases hlen:rows.length=l.length∧BR.length=m
 case neg =>
  rw [a5w hlen]
  refine AX.enter (AA (by decide)) Tryz.func74 rfl (by kernel_rfl) (by simp [Tryz.ntmps74]) ?_
  repeat' (first|apply Ae.assoc|apply Ae.AB|apply Ae.BO|apply Ag.nil|apply Ag.one|(apply Ag.take;rfl;rfl)|(apply Ag.drop;rfl;rfl;rfl)|(apply Ag.guard;rfl;rfl)|(apply Aa.fn;rfl;rfl;exact hcl;intro _;rfl)|(apply Aa.assign;rfl)|(apply Aa.move;rfl)|(apply Aa.int;rfl;rfl;rfl)|(apply Aa.Bz;rfl;rfl)|(apply Aa.AQ;rfl;rfl)|(apply Aa.BN;rfl;rfl)|(apply Ae.Bg;rfl)|(apply Ae.Af;rfl)|(intro _;try (exfalso;omega)))
  all_goals first|(exfalso;omega)|contradiction|(refine Done.ret rfl (.refl _) (by first|exact trivial|exact ⟨trivial,trivial,trivial⟩|exact ⟨trivial,trivial,trivial,trivial⟩) Aj.nil (Nat.zero_le _) (Nat.le_refl _) ⟨?_,rfl,rfl⟩;try rfl)
 have hp3:∀ i,i<(rows++BR).length→¬ JY (gi (rows++BR) i)→Iu l m rows BR=(0,3):=fun i=>a9c hlen
 have a5d:(∀ i,i<(rows++BR).length→JY (gi (rows++BR) i))→∀ k,k<BR.length→gi BR k>0→Iu l m rows BR=(0,20):=fun hb k=>a3o hlen hb
 have a6c:(∀ i,i<(rows++BR).length→JY (gi (rows++BR) i))→(∀ k,k<BR.length→gi BR k≤0)→∀ i k,i<l.length→k<m→gi rows i+gi BR k>gi (gi l i) k→Iu l m rows BR=(0,20):=fun hb hn i k=>a4a hlen hb hn
 have a5a:(∀ i,i<(rows++BR).length→JY (gi (rows++BR) i))→(∀ k,k<BR.length→gi BR k≤0)→(∀ i,i<l.length→∀ k,k<m→gi rows i+gi BR k≤gi (gi l i) k)→Iu l m rows BR=(sumT (rows++BR) (rows++BR).length,0):=a0z hlen
 have gr:∀ k,k<l.length→gi (rows++BR) k=gi rows k:=fun k hk=>Xl (by omega)
 have gp:∀ j,j<BR.length→gi (rows++BR) (rows.length+j)=gi BR j:=fun j _=>VO
 have a1u:(rows++BR).length=rows.length+BR.length:=List.length_append
 rcases Nat.eq_zero_or_pos (rows.length+BR.length) with hz|hz
 ·have hcn:=ZM rows BR hz
  rw [← a1u] at hcn
  generalize rows++BR=cat at *
  generalize Iu l m rows BR=R at *
  refine AX.enter (AA (by decide)) Tryz.func74 rfl (by kernel_rfl) (by simp [Tryz.ntmps74]) ?_
  repeat' (first|(refine Ag.Jp 30 ?_;refine Ag.ghost (Bd.freeze 29 rfl rfl) ?_)|apply Ae.assoc|apply Ae.AB|apply Ae.Aq|apply Ae.Ai|apply Ag.nil|apply Ag.one|(apply Ag.take;rfl;rfl)|(apply Ag.guard;rfl;rfl)|(apply Aa.fn;rfl;rfl;exact hcl;intro _;rfl)|(apply Aa.fv;rfl;rfl;exact hcn)|(apply Aa.assign;rfl)|(apply Aa.move;rfl)|(apply Aa.int;rfl;rfl;rfl)|(apply Aa.AQ;rfl;rfl)|(apply Aa.BN;rfl;rfl)|(apply Aa.lenV;rfl;rfl;rfl)|(apply Aa.buildSlice;rfl;rfl;rfl;decide;rfl;rfl;rfl)|(apply Ae.Af;rfl)|(intro _;try (exfalso;omega)))
  all_goals try (exfalso;omega)
  apply Ae.F6 (cat.length) (fun k=>∀ i,i<k→JY (gi cat i)) [(0,_),(1,_),(2,_),(30,_),(31,_)] [(1,_)] (fun k r=>(8,.p (.int .i64 (sumT cat k)))::(32,.p (.int .i64 (k:Int)))::r) (fun k r=>r) 2
  ·first|omega|decide
  ·first|omega|decide
  ·repeat (first|exact Ad.nil|(refine Ad.eq rfl ?_ ?_;(first|exact PV.Ak rfl|(simp [PV.under,AP.under];done)))|refine Ad.cons trivial rfl (.of_eq (Au (by simp<;>omega))) ?_)
  ·repeat (first|exact Aj.nil|(refine Aj.eq rfl (Ac rfl) ?_ ?_;(first|exact HB.Ak rfl|exact AP.Ah _ _|(simp [HB.under,AP.under,PV.under];done)))|(refine Aj.cons (Ac rfl) ?_ rfl ?_ ?_;(first|exact trivial|exact AP.Ah _ _|(simp [HB.under,AP.under,PV.under]));(first|exact Bh.refl _|exact Bh.vec (Bf.refl _) (by simp))))
  ·first|(intro _ _;omega)|omega|trivial
  ·intro k hk;omega
  ·intro hall
   repeat' (first|apply Ae.assoc|apply Ae.AB|apply Ae.AY|apply Ae.Ai|apply AO.normal|apply AL.exit|apply Az.exit|apply Ag.nil|apply Ag.one|(apply Vr;rfl;rfl;rfl;exact le_dec rfl)|(apply Vp;rfl;rfl;rfl;exact le_dec rfl)|(apply Aa.assign;rfl)|(apply Aa.move;rfl)|(apply Aa.int;rfl;rfl;rfl)|(apply Aa.BN;rfl;rfl)|(apply Ae.Af;rfl)|(intro _;try (exfalso;omega)))
   all_goals try (exfalso;omega)
   apply Ae.F6 (BR.length) (fun k=>∀ i,i<k→gi BR i≤0) [(0,_),(1,_),(7,_)] [(1,_)] (fun k r=>(8,.p (.int .i64 (k:Int)))::r) (fun k r=>r) 2
   ·first|omega|decide
   ·first|omega|decide
   ·repeat (first|exact Ad.nil|(refine Ad.eq rfl ?_ ?_;(first|exact PV.Ak rfl|(simp [PV.under,AP.under];done)))|refine Ad.cons trivial rfl (.of_eq (Au (by simp<;>omega))) ?_)
   ·repeat (first|exact Aj.nil|(refine Aj.eq rfl (Ac rfl) ?_ ?_;(first|exact HB.Ak rfl|exact AP.Ah _ _|(simp [HB.under,AP.under,PV.under];done)))|(refine Aj.cons (Ac rfl) ?_ rfl ?_ ?_;(first|exact trivial|exact AP.Ah _ _|(simp [HB.under,AP.under,PV.under]));(first|exact Bh.refl _|exact Bh.vec (Bf.refl _) (by simp))))
   ·first|(intro _ _;omega)|omega|trivial
   ·intro k hk;omega
   ·intro hneg
    repeat' (first|apply Ae.assoc|apply Ae.AB|apply Ae.Aq|apply Ae.AY|apply Ae.Ai|apply AO.normal|(apply Bl.ret;rfl)|apply AL.exit|apply Az.exit|apply Ae.ret|apply Ag.nil|apply Ag.one|(apply Aa.assign;rfl)|(apply Aa.move;rfl)|(apply Aa.int;rfl;rfl;rfl)|(apply Aa.BN;rfl;rfl)|(apply Ae.Aw;rfl)|(apply Ae.Af;rfl)|(intro _;try (exfalso;omega)))
    all_goals try (exfalso;omega)
    all_goals try contradiction
    apply Ae.F6 (l.length) (fun k=>∀ i,i<k→∀ j,j<m→gi rows i+gi BR j≤gi (gi l i) j) [(0,_),(1,_),(2,_),(8,_),(48,_),(49,_)] [(1,_)] (fun k r=>(50,.p (.int .i64 (k:Int)))::r) (fun k r=>r) 2
    ·first|omega|decide
    ·first|omega|decide
    ·repeat (first|exact Ad.nil|(refine Ad.eq rfl ?_ ?_;(first|exact PV.Ak rfl|(simp [PV.under,AP.under];done)))|refine Ad.cons trivial rfl (.of_eq (Au (by simp<;>omega))) ?_)
    ·repeat (first|exact Aj.nil|(refine Aj.eq rfl (Ac rfl) ?_ ?_;(first|exact HB.Ak rfl|exact AP.Ah _ _|(simp [HB.under,AP.under,PV.under];done)))|(refine Aj.cons (Ac rfl) ?_ rfl ?_ ?_;(first|exact trivial|exact AP.Ah _ _|(simp [HB.under,AP.under,PV.under]));(first|exact Bh.refl _|exact Bh.vec (Bf.refl _) (by simp))))
    ·first|(intro _ _;omega)|omega|trivial
    ·intro k hk;omega
    ·intro hf
     rw [a5a hall hneg hf]
     repeat' (first|apply Ae.AB|apply Ae.AY|apply AO.normal|apply AL.exit|apply Az.exit|apply Ae.ret|apply Ag.nil|apply Ag.one|(apply Aa.assign;rfl)|(apply Aa.move;rfl)|(apply Aa.int;rfl;rfl;rfl)|(apply Ae.Af;rfl)|(intro _;try (exfalso;omega)))
     all_goals first|(exfalso;omega)|contradiction|(refine Done.ret rfl (.refl _) (by first|exact trivial|exact ⟨trivial,trivial,trivial⟩|exact ⟨trivial,trivial,trivial,trivial⟩) Aj.nil (Nat.zero_le _) (Nat.le_refl _) ⟨?_,rfl,rfl⟩;try rfl)
 ·have hcn:=ZN rows BR hz (by omega)
  rw [← a1u] at hcn
  generalize rows++BR=cat at *
  generalize Iu l m rows BR=R at *
  refine AX.enter (AA (by decide)) Tryz.func74 rfl (by kernel_rfl) (by simp [Tryz.ntmps74]) ?_
  repeat' (first|(refine Ag.Jp 30 ?_;refine Ag.ghost (Bd.freeze 29 rfl rfl) ?_)|apply Ae.assoc|apply Ae.AB|apply Ae.Aq|apply Ae.Ai|apply Ag.nil|apply Ag.one|(apply Ag.take;rfl;rfl)|(apply Ag.guard;rfl;rfl)|(apply Aa.fn;rfl;rfl;exact hcl;intro _;rfl)|(apply Aa.fv;rfl;rfl;exact hcn)|(apply Aa.assign;rfl)|(apply Aa.move;rfl)|(apply Aa.int;rfl;rfl;rfl)|(apply Aa.AQ;rfl;rfl)|(apply Aa.BN;rfl;rfl)|(apply Aa.lenV;rfl;rfl;rfl)|(apply Aa.buildSlice;rfl;rfl;rfl;decide;rfl;rfl;rfl)|(apply Ae.Af;rfl)|(intro _;try (exfalso;omega)))
  all_goals try (exfalso;omega)
  apply Ae.F6 (cat.length) (fun k=>∀ i,i<k→JY (gi cat i)) [(0,_),(1,_),(2,_),(30,_),(31,_)] [(1,_)] (fun k r=>(8,.p (.int .i64 (sumT cat k)))::(32,.p (.int .i64 (k:Int)))::r) (fun k r=>r) 2
  ·first|omega|decide
  ·first|omega|decide
  ·repeat (first|exact Ad.nil|(refine Ad.eq rfl ?_ ?_;(first|exact PV.Ak rfl|(simp [PV.under,AP.under];done)))|refine Ad.cons trivial rfl (.of_eq (Au (by simp<;>omega))) ?_)
  ·repeat (first|exact Aj.nil|(refine Aj.eq rfl (Ac rfl) ?_ ?_;(first|exact HB.Ak rfl|exact AP.Ah _ _|(simp [HB.under,AP.under,PV.under];done)))|(refine Aj.cons (Ac rfl) ?_ rfl ?_ ?_;(first|exact trivial|exact AP.Ah _ _|(simp [HB.under,AP.under,PV.under]));(first|exact Bh.refl _|exact Bh.vec (Bf.refl _) (by simp))))
  ·first|(intro _ _;omega)|omega|trivial
  ·intro k hk hi
   have hb:=WI k hi
   by_cases hx:JY (gi cat k)
   ·obtain ⟨x1,x2⟩:=hx
    repeat' (first|apply Ae.assoc|apply Ae.AB|apply Ae.region|apply Ae.Aq|apply Ae.Ai|apply AO.normal|apply AL.normal|apply Ag.nil|apply Ag.one|(apply Ag.take;rfl;rfl)|(apply Ag.guard;rfl;rfl)|(apply Aa.assign;rfl)|(apply Aa.move;rfl)|(apply Aa.Bv;rfl;rfl;omega)|(apply Aa.int;rfl;rfl;rfl)|(apply Aa.Dn;rfl;rfl;omega;rfl)|(apply Aa.AQ;rfl;rfl)|(apply Aa.Dj;rfl;rfl;rfl;rfl;omega)|(apply Ae.Af;rfl)|(intro _;try (exfalso;omega)))
    all_goals try (exfalso;omega)
    refine Az.normal ⟨(QA hi ⟨x1,x2⟩),by first|omega|decide,?_,?_⟩
    ·repeat (first|exact Ad.nil|refine Ad.same trivial rfl ?_|refine Ad.same (Ac rfl) rfl ?_|refine Ad.same ⟨trivial,Ac rfl,trivial⟩ rfl ?_|refine Ad.same ⟨trivial,Ac rfl,Ac rfl,trivial⟩ rfl ?_|refine Ad.same ⟨trivial,Ac rfl,Ac rfl,Ac rfl,trivial⟩ rfl ?_|refine Ad.same ⟨trivial,Ac rfl,Ac rfl,Ac rfl,Ac rfl,trivial⟩ rfl ?_|refine Ad.same ⟨trivial,trivial⟩ rfl ?_|refine Ad.cons trivial rfl (.of_eq (Au (by simp<;>omega))) ?_)
    ·repeat (first|exact Aj.nil|(refine Aj.cons (Ac rfl) ?_ rfl ?_ ?_;(first|exact HB.Ak rfl|exact AP.Ah _ _|(simp [HB.under,AP.under,PV.under]));(first|exact Bh.refl _|exact Bh.vec (Bf.refl _) (by simp))))
   ·rw [hp3 k hk hx]
    unfold JY at hx
    repeat' (first|apply Ae.assoc|apply Ae.AB|apply Ae.Aq|apply Ae.BO|apply Ae.Ai|apply AO.ret|apply AL.ret|apply Az.ret|apply Ag.nil|apply Ag.one|(apply Ag.take;rfl;rfl)|(apply Ag.drop;rfl;rfl;rfl)|(apply Ag.guard;rfl;rfl)|(apply Aa.assign;rfl)|(apply Aa.move;rfl)|(apply Aa.int;rfl;rfl;rfl)|(apply Aa.Dn;rfl;rfl;omega;rfl)|(apply Aa.Bz;rfl;rfl)|(apply Aa.AQ;rfl;rfl)|(apply Aa.Dj;rfl;rfl;rfl;rfl;omega)|(apply Ae.Bg;rfl)|(apply Ae.Af;rfl)|(intro _;try (exfalso;omega)))
    all_goals first|(exfalso;omega)|contradiction|(refine Done.ret rfl (.refl _) (by first|exact trivial|exact ⟨trivial,trivial,trivial⟩|exact ⟨trivial,trivial,trivial,trivial⟩) Aj.nil (Nat.zero_le _) (Nat.le_refl _) ⟨?_,rfl,rfl⟩;try rfl)
  ·intro hall
   repeat' (first|apply Ae.assoc|apply Ae.AB|apply Ae.AY|apply Ae.Ai|apply AO.normal|apply AL.exit|apply Az.exit|apply Ag.nil|apply Ag.one|(apply Vr;rfl;rfl;rfl;exact le_dec rfl)|(apply Vp;rfl;rfl;rfl;exact le_dec rfl)|(apply Aa.assign;rfl)|(apply Aa.move;rfl)|(apply Aa.int;rfl;rfl;rfl)|(apply Aa.BN;rfl;rfl)|(apply Ae.Af;rfl)|(intro _;try (exfalso;omega)))
   all_goals try (exfalso;omega)
   apply Ae.F6 (BR.length) (fun k=>∀ i,i<k→gi BR i≤0) [(0,_),(1,_),(7,_)] [(1,_)] (fun k r=>(8,.p (.int .i64 (k:Int)))::r) (fun k r=>r) 2
   ·first|omega|decide
   ·first|omega|decide
   ·repeat (first|exact Ad.nil|(refine Ad.eq rfl ?_ ?_;(first|exact PV.Ak rfl|(simp [PV.under,AP.under];done)))|refine Ad.cons trivial rfl (.of_eq (Au (by simp<;>omega))) ?_)
   ·repeat (first|exact Aj.nil|(refine Aj.eq rfl (Ac rfl) ?_ ?_;(first|exact HB.Ak rfl|exact AP.Ah _ _|(simp [HB.under,AP.under,PV.under];done)))|(refine Aj.cons (Ac rfl) ?_ rfl ?_ ?_;(first|exact trivial|exact AP.Ah _ _|(simp [HB.under,AP.under,PV.under]));(first|exact Bh.refl _|exact Bh.vec (Bf.refl _) (by simp))))
   ·first|(intro _ _;omega)|omega|trivial
   ·intro k hk hi
    by_cases hx:gi BR k≤0
    ·repeat' (first|apply Ae.AB|apply Ae.region|apply Ae.Aq|apply Ae.Ai|apply AO.normal|(apply Bl.ret;rfl)|apply AL.normal|apply Ae.ret|apply Ae.skip|apply Ag.nil|apply Ag.one|(apply mX;rfl;rfl;rfl;exact le_dec rfl)|(apply Aa.assign;rfl)|(apply Aa.move;rfl)|(apply Aa.Bv;rfl;rfl;omega)|(apply Aa.int;rfl;rfl;rfl)|(apply Aa.AV;rfl;rfl;rfl;omega;rfl)|(apply Aa.load;rfl;rfl)|(apply Ae.Af;rfl)|(apply Ae.AZ;rfl)|(intro _;try (exfalso;omega)))
     all_goals try (exfalso;omega)
     refine Az.normal ⟨(QA hi hx),by first|omega|decide,?_,?_⟩
     ·repeat (first|exact Ad.nil|refine Ad.same trivial rfl ?_|refine Ad.same (Ac rfl) rfl ?_|refine Ad.same ⟨trivial,Ac rfl,trivial⟩ rfl ?_|refine Ad.same ⟨trivial,Ac rfl,Ac rfl,trivial⟩ rfl ?_|refine Ad.same ⟨trivial,Ac rfl,Ac rfl,Ac rfl,trivial⟩ rfl ?_|refine Ad.same ⟨trivial,Ac rfl,Ac rfl,Ac rfl,Ac rfl,trivial⟩ rfl ?_|refine Ad.same ⟨trivial,trivial⟩ rfl ?_|refine Ad.cons trivial rfl (.of_eq (Au (by simp<;>omega))) ?_)
     ·repeat (first|exact Aj.nil|(refine Aj.cons (Ac rfl) ?_ rfl ?_ ?_;(first|exact HB.Ak rfl|exact AP.Ah _ _|(simp [HB.under,AP.under,PV.under]));(first|exact Bh.refl _|exact Bh.vec (Bf.refl _) (by simp))))
    ·rw [a5d hall k hk (by omega)]
     repeat' (first|apply Ae.assoc|apply Ae.AB|apply Ae.Aq|apply Ae.BO|apply Ae.Ai|apply AO.ret|(apply Bl.ret;rfl)|apply AL.ret|apply Az.ret|apply Ae.ret|apply Ag.nil|apply Ag.one|(apply mX;rfl;rfl;rfl;exact le_dec rfl)|(apply Aa.assign;rfl)|(apply Aa.move;rfl)|(apply Aa.int;rfl;rfl;rfl)|(apply Aa.AV;rfl;rfl;rfl;omega;rfl)|(apply Aa.load;rfl;rfl)|(apply Ae.Bg;rfl)|(apply Ae.Af;rfl)|(apply Ae.AZ;rfl)|(intro _;try (exfalso;omega)))
     all_goals first|(exfalso;omega)|contradiction|(refine Done.ret rfl (.refl _) (by first|exact trivial|exact ⟨trivial,trivial,trivial⟩|exact ⟨trivial,trivial,trivial,trivial⟩) Aj.nil (Nat.zero_le _) (Nat.le_refl _) ⟨?_,rfl,rfl⟩;try rfl)
   ·intro hneg
    repeat' (first|apply Ae.assoc|apply Ae.AB|apply Ae.Aq|apply Ae.AY|apply Ae.Ai|apply AO.normal|(apply Bl.ret;rfl)|apply AL.exit|apply Az.exit|apply Ae.ret|apply Ag.nil|apply Ag.one|(apply Aa.assign;rfl)|(apply Aa.move;rfl)|(apply Aa.int;rfl;rfl;rfl)|(apply Aa.BN;rfl;rfl)|(apply Ae.Aw;rfl)|(apply Ae.Af;rfl)|(intro _;try (exfalso;omega)))
    all_goals try (exfalso;omega)
    all_goals try contradiction
    apply Ae.F6 (l.length) (fun k=>∀ i,i<k→∀ j,j<m→gi rows i+gi BR j≤gi (gi l i) j) [(0,_),(1,_),(2,_),(8,_),(48,_),(49,_)] [(1,_)] (fun k r=>(50,.p (.int .i64 (k:Int)))::r) (fun k r=>r) 2
    ·first|omega|decide
    ·first|omega|decide
    ·repeat (first|exact Ad.nil|(refine Ad.eq rfl ?_ ?_;(first|exact PV.Ak rfl|(simp [PV.under,AP.under];done)))|refine Ad.cons trivial rfl (.of_eq (Au (by simp<;>omega))) ?_)
    ·repeat (first|exact Aj.nil|(refine Aj.eq rfl (Ac rfl) ?_ ?_;(first|exact HB.Ak rfl|exact AP.Ah _ _|(simp [HB.under,AP.under,PV.under];done)))|(refine Aj.cons (Ac rfl) ?_ rfl ?_ ?_;(first|exact trivial|exact AP.Ah _ _|(simp [HB.under,AP.under,PV.under]));(first|exact Bh.refl _|exact Bh.vec (Bf.refl _) (by simp))))
    ·first|(intro _ _;omega)|omega|trivial
    ·intro k hk hi
     have hrl:=hrow k hk
     have r1:=hall k (by omega)
     rw [gr k hk] at r1
     obtain ⟨r2,r3⟩:=r1
     repeat' (first|apply Ae.AB|apply Ae.Aq|apply Ae.Ai|apply Ae.Jc|apply Ag.nil|apply Ag.one|(apply Aa.assign;rfl)|(apply Aa.move;rfl)|(apply Aa.int;rfl;rfl;rfl)|(apply Aa.AV;rfl;rfl;rfl;omega;rfl)|(apply Aa.load;rfl;rfl)|(apply Aa.BN;rfl;rfl)|(apply Ae.Af;rfl)|(intro _;try (exfalso;omega)))
     all_goals try (exfalso;omega)
     apply Ae.F6 ((gi l k).length) (fun k_=>∀ j,j<k_→gi rows k+gi BR j≤gi (gi l k) j) [(0,_),(1,_),(2,_),(8,_),(11,_),(48,_),(49,_),(50,_),(55,_),(56,_)] [(1,_)] (fun k_ r=>(57,.p (.int .i64 (k_:Int)))::r) (fun k_ r=>r) 2
     ·first|omega|decide
     ·first|omega|decide
     ·repeat (first|exact Ad.nil|(refine Ad.eq rfl ?_ ?_;(first|exact PV.Ak rfl|(simp [PV.under,AP.under];done)))|refine Ad.cons trivial rfl (.of_eq (Au (by simp<;>omega))) ?_)
     ·repeat (first|exact Aj.nil|(refine Aj.eq rfl (Ac rfl) ?_ ?_;(first|exact HB.Ak rfl|exact AP.Ah _ _|(simp [HB.under,AP.under,PV.under];done)))|(refine Aj.cons (Ac rfl) ?_ rfl ?_ ?_;(first|exact trivial|exact AP.Ah _ _|(simp [HB.under,AP.under,PV.under]));(first|exact Bh.refl _|exact Bh.vec (Bf.refl _) (by simp))))
     ·first|(intro _ _;omega)|omega|trivial
     ·intro j hj hij
      have c1:=uM k j hk (by omega)
      have p1:=hall (rows.length+j) (by omega)
      rw [gp j (by omega)] at p1
      obtain ⟨p2,p3⟩:=p1
      by_cases hx:gi rows k+gi BR j≤gi (gi l k) j
      ·repeat' (first|apply Ae.AB|apply Ae.BF|apply Ae.region|apply Ae.Aq|apply Ae.Ai|apply AO.normal|apply AL.normal|apply Ae.skip|apply Ag.nil|apply Ap.nil|apply Ag.one|(apply Ap.bar;decide +kernel)|apply Ap.quiet|(apply Aa.assign;rfl)|(apply Aa.move;rfl)|(apply Aa.Bv;rfl;rfl;omega)|(apply Aa.int;rfl;rfl;rfl)|(apply Aa.AV;rfl;rfl;rfl;omega;rfl)|(apply Aa.load;rfl;rfl)|(apply Ae.Af;rfl)|(apply Ae.AZ;rfl)|(intro _;try (exfalso;omega)))
       all_goals try (exfalso;omega)
       refine Az.normal ⟨(QA hij hx),by first|omega|decide,?_,?_⟩
       ·repeat (first|exact Ad.nil|refine Ad.same trivial rfl ?_|refine Ad.same (Ac rfl) rfl ?_|refine Ad.same ⟨trivial,Ac rfl,trivial⟩ rfl ?_|refine Ad.same ⟨trivial,Ac rfl,Ac rfl,trivial⟩ rfl ?_|refine Ad.same ⟨trivial,Ac rfl,Ac rfl,Ac rfl,trivial⟩ rfl ?_|refine Ad.same ⟨trivial,Ac rfl,Ac rfl,Ac rfl,Ac rfl,trivial⟩ rfl ?_|refine Ad.same ⟨trivial,trivial⟩ rfl ?_|refine Ad.cons trivial rfl (.of_eq (Au (by simp<;>omega))) ?_)
       ·repeat (first|exact Aj.nil|(refine Aj.cons (Ac rfl) ?_ rfl ?_ ?_;(first|exact HB.Ak rfl|exact AP.Ah _ _|(simp [HB.under,AP.under,PV.under]));(first|exact Bh.refl _|exact Bh.vec (Bf.refl _) (by simp))))
      ·rw [a6c hall hneg k j hk (by omega) (by omega)]
       repeat' (first|apply Ae.AB|apply Ae.BF|apply Ae.Aq|apply Ae.Ai|apply AO.ret|apply AL.ret|apply Az.ret|apply Ae.ret|apply Ag.nil|apply Ap.nil|apply Ag.one|(apply Ap.bar;decide +kernel)|apply Ap.quiet|(apply Aa.assign;rfl)|(apply Aa.move;rfl)|(apply Aa.Bv;rfl;rfl;omega)|(apply Aa.int;rfl;rfl;rfl)|(apply Aa.AV;rfl;rfl;rfl;omega;rfl)|(apply Aa.load;rfl;rfl)|(apply Ae.Af;rfl)|(apply Ae.AZ;rfl)|(intro _;try (exfalso;omega)))
       all_goals first|(exfalso;omega)|contradiction|(refine Done.ret rfl (.refl _) (by first|exact trivial|exact ⟨trivial,trivial,trivial⟩|exact ⟨trivial,trivial,trivial,trivial⟩) Aj.nil (Nat.zero_le _) (Nat.le_refl _) ⟨?_,rfl,rfl⟩;try rfl)
     ·intro vk
      rw [hrl] at vk
      repeat' (first|apply Ae.AB|apply Ae.region|apply Ae.AY|apply AO.normal|apply AL.normal|apply AL.exit|apply Az.exit|apply Ag.nil|apply Ag.one|(apply Aa.move;rfl)|(apply Aa.Bv;rfl;rfl;omega)|(apply Aa.int;rfl;rfl;rfl)|(apply Ae.Af;rfl)|(intro _;try (exfalso;omega)))
      all_goals try (exfalso;omega)
      refine Az.normal ⟨(QA hi vk),by first|omega|decide,?_,?_⟩
      ·repeat (first|exact Ad.nil|refine Ad.same trivial rfl ?_|refine Ad.same (Ac rfl) rfl ?_|refine Ad.same ⟨trivial,Ac rfl,trivial⟩ rfl ?_|refine Ad.same ⟨trivial,Ac rfl,Ac rfl,trivial⟩ rfl ?_|refine Ad.same ⟨trivial,Ac rfl,Ac rfl,Ac rfl,trivial⟩ rfl ?_|refine Ad.same ⟨trivial,Ac rfl,Ac rfl,Ac rfl,Ac rfl,trivial⟩ rfl ?_|refine Ad.same ⟨trivial,trivial⟩ rfl ?_|refine Ad.cons trivial rfl (.of_eq (Au (by simp<;>omega))) ?_)
      ·repeat (first|exact Aj.nil|(refine Aj.cons (Ac rfl) ?_ rfl ?_ ?_;(first|exact HB.Ak rfl|exact AP.Ah _ _|(simp [HB.under,AP.under,PV.under]));(first|exact Bh.refl _|exact Bh.vec (Bf.refl _) (by simp))))
    ·intro hf
     rw [a5a hall hneg hf]
     repeat' (first|apply Ae.AB|apply Ae.AY|apply AO.normal|apply AL.exit|apply Az.exit|apply Ae.ret|apply Ag.nil|apply Ag.one|(apply Aa.assign;rfl)|(apply Aa.move;rfl)|(apply Aa.int;rfl;rfl;rfl)|(apply Ae.Af;rfl)|(intro _;try (exfalso;omega)))
     all_goals first|(exfalso;omega)|contradiction|(refine Done.ret rfl (.refl _) (by first|exact trivial|exact ⟨trivial,trivial,trivial⟩|exact ⟨trivial,trivial,trivial,trivial⟩) Aj.nil (Nat.zero_le _) (Nat.le_refl _) ⟨?_,rfl,rfl⟩;try rfl)
noncomputable def mJ (l:List (List Int)) (m:Nat) (r:Qy) (sum e most:Int):Int :=
 open Classical in
 if e≠0 then e else if sum≠r.total then 7 else if (Iu l m r.rows r.BR).2≠0 then (Iu l m r.rows r.BR).2
 else if (Iu l m r.rows r.BR).1<r.total∨∃ i,i<r.rows.length∧gi r.rows i>most then 20 else 0
noncomputable def xO (l:List (List Int)) (m:Nat) (skip:Int) (r:Qy):Int:=mJ l m r (aG l m skip r.cols).1 (aG l m skip r.cols).2 skip
theorem jm {l:List (List Int)} {m:Nat} {skip B:Int} (ty:TypeId) (h:Rz l l.length m skip B) (r:Qy) (sum e most:Int) :
 AX env 48 [.lst ty (cells l) l.length,.agg (Enc.enc r),.int .i64 sum,.int .i64 e,.int .i64 most] (.p (.int .i64 (mJ l m r sum e most))):=by
 have hp:=U4 ty h r.rows r.BR
 have hE:mJ l m r sum e most=if e≠0 then e else if sum≠r.total then 7 else if (Iu l m r.rows r.BR).2≠0 then (Iu l m r.rows r.BR).2
  else open Classical in if (Iu l m r.rows r.BR).1<r.total∨∃ i,i<r.rows.length∧gi r.rows i>most then 20 else 0:=rfl
 rw [hE]
 clear hE
 refine AX.enter (AA (by decide)) Tryz.func48 rfl (by kernel_rfl) (by simp [Tryz.ntmps48]) ?_
 by_cases e1:e=0
 case neg =>
  rw [if_pos e1]
  repeat' (first|apply Ae.AB|apply Ae.Ai|apply AO.ret|apply AL.ret|apply Ae.ret|apply Ag.nil|apply Ag.one|(apply Aa.assign;rfl)|(apply Aa.move;rfl)|(apply Aa.int;rfl;rfl;rfl)|(apply Aa.box;rfl;trivial)|(apply Ae.AZ;rfl)|(intro _;try (exfalso;omega)))
  all_goals first|(exfalso;omega)|contradiction|(refine Done.ret rfl (.refl _) (by first|exact trivial|exact ⟨trivial,trivial,trivial⟩|exact ⟨trivial,trivial,trivial,trivial⟩) Aj.nil (Nat.zero_le _) (Nat.le_refl _) ⟨?_,rfl,rfl⟩;try rfl)
 rw [if_neg (fun x=>x e1)]
 by_cases e2:sum=r.total
 case neg =>
  rw [if_pos e2]
  repeat' (first|apply Ae.AB|apply Ae.Ai|apply AO.ret|apply AL.ret|apply Ae.ret|apply Ag.nil|apply Ag.one|(apply Aa.assign;rfl)|(apply Aa.move;rfl)|(apply Aa.int;rfl;rfl;rfl)|(apply Aa.load;rfl;rfl)|(apply Aa.AU;rfl;rfl;rfl)|(apply Aa.box;rfl;trivial)|(apply Ae.AZ;rfl)|(intro _;try (exfalso;omega)))
  all_goals first|(exfalso;omega)|contradiction|(refine Done.ret rfl (.refl _) (by first|exact trivial|exact ⟨trivial,trivial,trivial⟩|exact ⟨trivial,trivial,trivial,trivial⟩) Aj.nil (Nat.zero_le _) (Nat.le_refl _) ⟨?_,rfl,rfl⟩;try rfl)
 rw [if_neg (fun x=>x e2)]
 have hlen0:(Iu l m r.rows r.BR).2=0→r.rows.length=l.length:=fun h0=>Classical.byContradiction fun h1=>by
  rw [a5w (fun x=>h1 x.1)] at h0
  cases h0
 have h60:=h.n60
 generalize Iu l m r.rows r.BR=P at *
 obtain ⟨b,e3⟩:=P
 simp only at hp hlen0 ⊢
 by_cases e4:e3=0
 case neg =>
  rw [if_pos e4]
  repeat' (first|apply Ae.AB|apply Ae.Ai|apply AO.normal|apply AO.ret|apply AL.normal|apply AL.ret|apply Ae.ret|apply Ae.skip|apply Ag.nil|apply Ag.one|(apply Aa.fn;rfl;rfl;exact hp;intro _;rfl)|(apply Aa.assign;rfl)|(apply Aa.move;rfl)|(apply Aa.int;rfl;rfl;rfl)|(apply Aa.load;rfl;rfl)|(apply Aa.AU;rfl;rfl;rfl)|(apply Aa.box;rfl;trivial)|(apply Aa.extract;rfl;rfl)|(apply Ae.AZ;rfl)|(intro _;try (exfalso;omega)))
  all_goals first|(exfalso;omega)|contradiction|(refine Done.ret rfl (.refl _) (by first|exact trivial|exact ⟨trivial,trivial,trivial⟩|exact ⟨trivial,trivial,trivial,trivial⟩) Aj.nil (Nat.zero_le _) (Nat.le_refl _) ⟨?_,rfl,rfl⟩;try rfl)
 rw [if_neg (fun x=>x e4)]
 have hlen:=hlen0 e4
 by_cases e5:b<r.total
 ·rw [if_pos (.inl e5)]
  repeat' (first|apply Ae.AB|apply Ae.Ai|apply AO.normal|apply AO.ret|apply AL.normal|apply AL.ret|apply Ae.ret|apply Ae.skip|apply Ag.nil|apply Ag.one|(apply Ag.drop;rfl;rfl;rfl)|(apply Ag.guard;rfl;rfl)|(apply Aa.fn;rfl;rfl;exact hp;intro _;rfl)|(apply Aa.assign;rfl)|(apply Aa.move;rfl)|(apply Aa.int;rfl;rfl;rfl)|(apply Aa.load;rfl;rfl)|(apply Aa.Bz;rfl;rfl)|(apply Aa.AU;rfl;rfl;rfl)|(apply Aa.box;rfl;trivial)|(apply Aa.extract;rfl;rfl)|(apply Ae.cond_true;rfl)|(apply Ae.AZ;rfl)|(intro _;try (exfalso;omega)))
  all_goals first|(exfalso;omega)|contradiction|(refine Done.ret rfl (.refl _) (by first|exact trivial|exact ⟨trivial,trivial,trivial⟩|exact ⟨trivial,trivial,trivial,trivial⟩) Aj.nil (Nat.zero_le _) (Nat.le_refl _) ⟨?_,rfl,rfl⟩;try rfl)
 ·repeat' (first|apply Ae.assoc|apply Ae.AB|apply Ae.Ai|apply AO.normal|apply AL.normal|apply Ae.skip|apply Ag.nil|apply Ag.one|(apply Ag.take;rfl;rfl)|(apply Ag.guard;rfl;rfl)|(apply Aa.fn;rfl;rfl;exact hp;intro _;rfl)|(apply Aa.makeFunc;rfl;rfl)|(apply Vr;rfl;rfl;rfl;exact le_dec rfl)|(apply Vp;rfl;rfl;rfl;exact le_dec rfl)|(apply Aa.assign;rfl)|(apply Aa.move;rfl)|(apply Aa.int;rfl;rfl;rfl)|(apply Aa.load;rfl;rfl)|(apply Aa.BN;rfl;rfl)|(apply Aa.AU;rfl;rfl;rfl)|(apply Aa.box;rfl;trivial)|(apply Aa.extract;rfl;rfl)|(apply Ae.AZ;rfl)|(intro _;try (exfalso;omega)))
  all_goals try (exfalso;omega)
  all_goals try contradiction
  apply Ae.F6 (r.rows.length) (fun k=>∀ i,i<k→gi r.rows i≤most) [(0,_),(1,_),(7,_)] [(1,_),(0,_)] (fun k r=>(8,.p (.int .i64 (k:Int)))::r) (fun k r=>r) 2
  ·first|omega|decide
  ·first|omega|decide
  ·repeat (first|exact Ad.nil|(refine Ad.eq rfl ?_ ?_;(first|exact PV.Ak rfl|(simp [PV.under,AP.under];done)))|refine Ad.cons trivial rfl (.of_eq (Au (by simp<;>omega))) ?_)
  ·repeat (first|exact Aj.nil|(refine Aj.eq rfl (Ac rfl) ?_ ?_;(first|exact HB.Ak rfl|exact AP.Ah _ _|(simp [HB.under,AP.under,PV.under];done)))|(refine Aj.cons (Ac rfl) ?_ rfl ?_ ?_;(first|exact trivial|exact AP.Ah _ _|(simp [HB.under,AP.under,PV.under]));(first|exact Bh.refl _|exact Bh.vec (Bf.refl _) (by simp))))
  ·first|(intro _ _;omega)|omega|trivial
  ·intro k hk hi
   by_cases hx:gi r.rows k≤most
   ·repeat' (first|apply Ae.AB|apply Ae.region|apply Ae.Aq|apply Ae.Ai|apply AO.normal|(apply Bl.ret;rfl)|apply AL.normal|apply Ae.ret|apply Ae.skip|apply Ag.nil|apply Ag.one|(apply lW;rfl;rfl;rfl;exact le_dec rfl)|(apply Aa.assign;rfl)|(apply Aa.move;rfl)|(apply Aa.Bv;rfl;rfl;omega)|(apply Aa.int;rfl;rfl;rfl)|(apply Aa.AV;rfl;rfl;rfl;omega;rfl)|(apply Aa.load;rfl;rfl)|(apply Ae.Af;rfl)|(apply Ae.AZ;rfl)|(intro _;try (exfalso;omega)))
    all_goals try (exfalso;omega)
    refine Az.normal ⟨(QA hi hx),by first|omega|decide,?_,?_⟩
    ·repeat (first|exact Ad.nil|refine Ad.same trivial rfl ?_|refine Ad.same (Ac rfl) rfl ?_|refine Ad.same ⟨trivial,Ac rfl,trivial⟩ rfl ?_|refine Ad.same ⟨trivial,Ac rfl,Ac rfl,trivial⟩ rfl ?_|refine Ad.same ⟨trivial,Ac rfl,Ac rfl,Ac rfl,trivial⟩ rfl ?_|refine Ad.same ⟨trivial,Ac rfl,Ac rfl,Ac rfl,Ac rfl,trivial⟩ rfl ?_|refine Ad.same ⟨trivial,trivial⟩ rfl ?_|refine Ad.cons trivial rfl (.of_eq (Au (by simp<;>omega))) ?_)
    ·repeat (first|exact Aj.nil|(refine Aj.cons (Ac rfl) ?_ rfl ?_ ?_;(first|exact HB.Ak rfl|exact AP.Ah _ _|(simp [HB.under,AP.under,PV.under]));(first|exact Bh.refl _|exact Bh.vec (Bf.refl _) (by simp))))
   ·rw [if_pos (.inr ⟨k,hk,by omega⟩)]
    repeat' (first|apply Ae.AB|apply Ae.Aq|apply Ae.Ai|apply AO.ret|(apply Bl.ret;rfl)|apply AL.ret|apply Az.ret|apply Ae.ret|apply Ag.nil|apply Ag.one|(apply lW;rfl;rfl;rfl;exact le_dec rfl)|(apply Aa.assign;rfl)|(apply Aa.move;rfl)|(apply Aa.int;rfl;rfl;rfl)|(apply Aa.AV;rfl;rfl;rfl;omega;rfl)|(apply Aa.load;rfl;rfl)|(apply Aa.AQ;rfl;rfl)|(apply Ae.Af;rfl)|(apply Ae.cond_true;rfl)|(apply Ae.AZ;rfl)|(intro _;try (exfalso;omega)))
    all_goals first|(exfalso;omega)|contradiction|(refine Done.ret rfl (.refl _) (by first|exact trivial|exact ⟨trivial,trivial,trivial⟩|exact ⟨trivial,trivial,trivial,trivial⟩) Aj.nil (Nat.zero_le _) (Nat.le_refl _) ⟨?_,rfl,rfl⟩;try rfl)
  ·intro hall
   rw [if_neg (by
    rintro (h1|⟨i,h1,h2⟩)
    ·exact e5 h1
    ·have:=hall i h1;omega)]
   repeat' (first|apply Ae.AB|apply Ae.AY|apply AO.normal|(apply Bl.ret;rfl)|apply AL.normal|apply AL.exit|apply Az.exit|apply Ae.ret|apply Ae.skip|apply Ag.nil|apply Ag.one|(apply Aa.assign;rfl)|(apply Aa.int;rfl;rfl;rfl)|(apply Aa.AQ;rfl;rfl)|(apply Ae.Af;rfl)|(apply Ae.cond_false;rfl)|(intro _;try (exfalso;omega)))
   all_goals first|(exfalso;omega)|contradiction|(refine Done.ret rfl (.refl _) (by first|exact trivial|exact ⟨trivial,trivial,trivial⟩|exact ⟨trivial,trivial,trivial,trivial⟩) Aj.nil (Nat.zero_le _) (Nat.le_refl _) ⟨?_,rfl,rfl⟩;try rfl)
theorem dV {l:List (List Int)} {m:Nat} {skip B:Int} (ty:TypeId) (h:Rz l l.length m skip B) (r:Qy) :
 AX env 22 [.lst ty (cells l) l.length,.int .i64 skip,.agg (Enc.enc r)] (.p (.int .i64 (xO l m skip r))):=by
 have hc:=L6 ty h
 have ht:=ji ty h r.cols
 have hp:=jm ty h r (aG l m skip r.cols).1 (aG l m skip r.cols).2 skip
 refine AX.enter (AA (by decide)) Tryz.func22 rfl (by kernel_rfl) (by simp [Tryz.ntmps22]) ?_
 repeat' (first|apply Ae.assoc|apply Ae.AB|apply Ae.Aq|apply Ae.ret|apply Ag.nil|apply Ag.one|(apply Aa.fn;rfl;rfl;exact hc;intro _;rfl)|(apply Aa.fn;rfl;rfl;exact ht;intro _;rfl)|(apply Aa.fn;rfl;rfl;exact hp;intro _;rfl)|(apply Aa.assign;rfl)|(apply Aa.move;rfl)|(apply Aa.int;rfl;rfl;rfl)|(apply Aa.load;rfl;rfl)|(apply Aa.AU;rfl;rfl;rfl)|(apply Aa.box;rfl;trivial)|(apply Aa.extract;rfl;rfl)|(apply Ae.Aw;rfl))
 all_goals first|(exfalso;omega)|contradiction|(refine Done.ret rfl (.refl _) (by first|exact trivial|exact ⟨trivial,trivial,trivial⟩|exact ⟨trivial,trivial,trivial,trivial⟩) Aj.nil (Nat.zero_le _) (Nat.le_refl _) ⟨?_,rfl,rfl⟩;try rfl)
theorem Tv {l:List (List Int)} {m:Nat} {skip:Int} {cols:List Int} (h:WB l.length m fun r=>gi cols r):∀ (r k:Nat) (used:List Bool) (sum:Int),k+r=l.length→(∀ q,k≤q→q<l.length→0≤gi cols q→gi used (gi cols q).toNat=false)→used.length=m →
 XJ l m skip cols r k used sum=(sum+TY (WO l skip fun r=>gi cols r) l.length r,0)
 |0,k,used,sum,hk,hu,hl=>by simp [XJ,TY]
 |r+1,k,used,sum,hk,hu,hl=>by
  have hrg:=h.rng k (by omega)
  have hrg:-1≤gi cols k∧gi cols k<m:=hrg
  have ek:l.length-(r+1)=k:=by omega
  unfold XJ
  rw [if_neg (by omega)]
  simp only [TY,ek]
  by_cases c2:gi cols k<0
  ·rw [if_pos c2,Tv h r (k+1) used (sum+skip) (by omega) (fun q q1 q2 q3=>hu q (by omega) q2 q3) hl]
   have e:WO l skip (fun r=>gi cols r) k=skip:=if_pos c2
   rw [e,Int.add_assoc]
  ·rw [if_neg c2,hu k (Nat.le_refl _) (by omega) (by omega),if_neg (by decide)]
   have e:WO l skip (fun r=>gi cols r) k=gi (gi l k) (gi cols k).toNat:=if_neg c2
   rw [Tv h r (k+1) _ _ (by omega) (fun q q1 q2 q3=>?_) (by rw [List.length_set];exact hl),e,Int.add_assoc]
   rw [gs (by omega),if_neg]
   ·exact hu q (by omega) q2 q3
   ·intro e
    have:=h.inj k q (by omega) q2 (show 0≤gi cols k by omega) (show gi cols k=gi cols q by omega)
    omega
theorem YS (l:List Int):∀ k,sumT l k=Dw (fun i=>gi l i) k
 |0=>rfl
 |k+1=>by simp only [sumT,Dw,YS l k]
theorem tX {l:List (List Int)} {m:Nat} {skip B:Int} (h:Rz l l.length m skip B):xO l m skip (Z8 l m skip)=0:=by
 have hP:=Tz h.P7
 have hB:=h.B9
 have hm:(Z8 l m skip)=⟨wY l l.length m skip,lJ l l.length m skip,xU l l.length m skip,tJ l l.length m skip⟩:=rfl
 rw [hm]
 generalize wY l l.length m skip=C at *
 generalize lJ l l.length m skip=T at *
 generalize xU l l.length m skip=U at *
 generalize tJ l l.length m skip=V at *
 have ht:aG l m skip C=(T,0):=by
  unfold aG
  rw [if_neg (fun x=>x hP.lC),Tv hP.part l.length 0 _ 0 (by omega) (fun q _ _ _=>by
   unfold gi;rw [List.getElem?_replicate];split<;>rfl) (by simp),rM,← hP.tot]
  simp
 have a9r:∀ i,i<(U++V).length→JY (gi (U++V) i):=fun i hi=>by
  rw [List.length_append,hP.lU,hP.lV] at hi
  rcases Nat.lt_or_ge i l.length with h1|h1
  ·rw [Xl (by rw [hP.lU];exact h1)]
   have:=hP.a8x i h1
   exact ⟨by omega,by omega⟩
  ·obtain ⟨j,rfl⟩:∃ j,i=U.length+j:=⟨i-U.length,by have:=hP.lU;omega⟩
   rw [VO]
   have:=hP.lU
   have:=hP.a6j j (by omega)
   exact ⟨by omega,by omega⟩
 have hs:sumT (U++V) (U++V).length=T:=by
  rw [YS,List.length_append,P5,hP.a0x,hP.lU,hP.lV]
  congr 1
  ·exact En fun k hk=>Xl (by rw [hP.lU];exact hk)
  ·exact En fun k hk=>by
    have:=VO (a:=U) (b:=V) (i:=k)
    rw [hP.lU] at this
    exact this
 have hp:Iu l m U V=(T,0):=by
  rw [a0z ⟨hP.lU,hP.lV⟩ a9r (fun k hk=>(hP.a6j k (by have:=hP.lV;omega)).2) (fun i hi k hk=>hP.pot.VG i k hi hk),hs]
 unfold xO mJ
 simp only [ht,hp]
 rw [if_neg (fun h=>h rfl),if_neg (fun h=>h rfl),if_neg (fun h=>h rfl),if_neg]
 rintro (h1|⟨i,h1,h2⟩)
 ·omega
 ·have:=hP.pot.skip i (by have:=hP.lU;omega)
  have:gi U i≤skip:=this
  omega
end Go.Proofs.YtdabojnmoejilaaGreatDoor
namespace Go.Proofs.YtdabojnmoejilaaGreatDoor
open Go Go.Am Go.Vm Go.Tra Go.Hun
attribute [local irreducible] Aa Ag Ap Ae BD AX CO AO AL Az Vm.Done CY Bl
attribute [local irreducible] DL Dy Ip Jo Ot BU
structure Xu (q:Jw):Prop where
 sm1:Pj q.BH
 sm2:Pj q.tgt
 rg:q.reg.Ok
 err:jr q=0
 shb:ShB q.BH q.tgt
theorem Jy {q:Jw} (h:jr q=0):KU q.BH=0∧Nl q.BH q.reg=0∧KU q.tgt=0∧Nr q.Ia∧(Bq q.BH q.reg).length≤60∧(BX q.tgt).length≤120:=by
 unfold jr at h
 split at h
 ·rename_i h1;exact absurd h h1
 rename_i h1
 split at h
 ·rename_i h2;exact absurd h h2
 rename_i h2
 split at h
 ·rename_i h3;exact absurd h h3
 rename_i h3
 split at h
 ·exact absurd h (by decide)
 rename_i h4
 split at h
 ·exact absurd h (by decide)
 rename_i h5
 exact ⟨Classical.not_not.1 h1,Classical.not_not.1 h2,Classical.not_not.1 h3,Classical.not_not.1 h4,by omega,by omega⟩
theorem Xu.k1 {q:Jw} (h:Xu q):I9 q.BH:=y9 h.sm1 (Jy h.err).1
theorem Xu.k2 {q:Jw} (h:Xu q):I9 q.tgt:=y9 h.sm2 (Jy h.err).2.2.1
theorem Xu.Ia {q:Jw} (h:Xu q):Nr q.Ia:=(Jy h.err).2.2.2.1
theorem Xu.len {q:Jw} (h:Xu q):q.reg.stops.length=q.BH.Ar.length:=aK (Jy h.err).2.1
def Gg (q:Jw):List (List Int):=Ns q.BH q.tgt q.reg q.Ia
def JZ (q:Jw):Nat:=if (Bq q.BH q.reg).length=0 then 0 else (BX q.tgt).length
theorem Jt (q:Jw):(Gg q).length=(Bq q.BH q.reg).length:=by simp [Gg,Ns]
theorem cu (q:Jw) {r k:Nat} (hr:r<(Bq q.BH q.reg).length) (hk:k<(BX q.tgt).length):gi (gi (Gg q) r) k=Lr q.BH q.tgt q.Ia (gi (Bq q.BH q.reg) r) (gi (BX q.tgt) k):=by
 unfold Gg Ns
 rw [gi_map' _ hr,gi_map' _ hk]
theorem o7 (q:Jw) {r:Nat} (hr:r<(Bq q.BH q.reg).length):(gi (Gg q) r).length=(BX q.tgt).length:=by
 unfold Gg Ns
 rw [gi_map' _ hr,List.length_map]
theorem Xu.P7 {q:Jw} (h:Xu q):Rz (Gg q) (Gg q).length (JZ q) q.Ia.miss 101000000:=by
 obtain ⟨_,_,_,hw,h5,h6⟩:=Jy h.err
 obtain ⟨_,_,_,w4⟩:=NU hw
 have hl:=Jt q
 refine ⟨⟨rfl,fun r hr=>?_,fun r k hr hk=>?_,⟨w4.1,by omega⟩,by decide⟩,by omega,?_,by decide,fun h0=>?_⟩
 ·rw [o7 q (by omega)]
  unfold JZ;rw [if_neg (by omega)]
 ·unfold JZ at hk
  rw [if_neg (by omega)] at hk
  rw [cu q (by omega) hk]
  exact jd hw h.shb (SY (TL (by omega))) (Rn hk)
 ·unfold JZ;split<;>omega
 ·unfold JZ;rw [if_pos (by omega)]
theorem X0 {l:List (List Int)} {m:Nat} {skip B:Int} (e:TypeId) (h:Rz l l.length m skip B):AX env 45 [.lst e (cells l) l.length,.int .i64 skip] (.ET [.p (.agg (Enc.enc (Z8 l m skip))),.p (.int .i64 0)]):=by
 rcases Nat.eq_zero_or_pos l.length with h0|h0
 ·have hm:=h.m0 h0
  have hl:l=[]:=List.length_eq_zero_iff.1 h0
  subst hl;subst hm
  have:=h.P7.skip
  have:=h.B9
  exact XY e (by omega)
 ·exact Zg e h h0
theorem MC {q:Jw} (h:Xu q):AX env 15 [.agg (Enc.enc q)] (.ET [.p (.lst 52 (cells (Gg q)) (Gg q).length),.p (.int .i64 0)]):=by
 have hc:=UC q h.sm1 h.sm2 h.rg
 rw [h.err] at hc
 have hl:=XI q h.k1 h.k2 h.Ia h.shb h.rg h.len
 rw [show Ns q.BH q.tgt q.reg q.Ia=Gg q from rfl] at hl
 refine AX.enter (AA (by decide)) Tryz.func15 rfl (by kernel_rfl) (by simp [Tryz.ntmps15]) ?_
 repeat' (first|apply Ae.assoc|apply Ae.AB|apply Ae.Aq|apply Ae.ret|apply Ag.nil|apply Ag.one|(apply Aa.fn;rfl;rfl;exact hc;intro _;rfl)|(apply Aa.fn;rfl;rfl;exact hl;intro _;rfl)|(apply Aa.assign;rfl)|(apply Aa.move;rfl)|(apply Aa.int;rfl;rfl;rfl)|(apply Aa.load;rfl;rfl)|(apply Aa.box;rfl;trivial)|(apply Aa.extract;rfl;rfl)|(apply Ae.Aw;rfl))
 all_goals first|(exfalso;omega)|contradiction|(refine Done.ret rfl (.refl _) (by first|exact trivial|exact ⟨trivial,trivial,trivial⟩|exact ⟨trivial,trivial,trivial,trivial⟩) Aj.nil (Nat.zero_le _) (Nat.le_refl _) ⟨?_,rfl,rfl⟩;try rfl)
noncomputable def Ea (q:Jw):Qy:=Z8 (Gg q) (JZ q) q.Ia.miss
theorem Kq {q:Jw} (h:Xu q):AX env 17 [.agg (Enc.enc q)] (.ET [.p (.agg (Enc.enc (Ea q))),.p (.int .i64 0)]):=by
 have hl:=MC h
 have hp:=X0 52 h.P7
 rw [show Z8 (Gg q) (JZ q) q.Ia.miss=Ea q from rfl] at hp
 generalize Ea q=b at *
 refine AX.enter (AA (by decide)) Tryz.func17 rfl (by kernel_rfl) (by simp [Tryz.ntmps17]) ?_
 repeat' (first|apply Ae.assoc|apply Ae.AB|apply Ae.Aq|apply Ae.ret|apply Ag.nil|apply Ag.one|(apply Aa.fn;rfl;rfl;exact hl;intro _;rfl)|(apply Aa.fn;rfl;rfl;exact hp;intro _;rfl)|(apply Aa.assign;rfl)|(apply Aa.move;rfl)|(apply Aa.int;rfl;rfl;rfl)|(apply Aa.load;rfl;rfl)|(apply Aa.AU;rfl;rfl;rfl)|(apply Aa.box;rfl;trivial)|(apply Aa.alloc;rfl)|(apply Aa.Bj;rfl;rfl;rfl;trivial;rfl;rfl;exact Ac rfl;exact le_dec rfl)|(apply Aa.build;rfl;rfl;rfl;rfl;rfl)|(apply Aa.extract;rfl;rfl)|(apply Ae.Aw;rfl))
 all_goals first|(exfalso;omega)|contradiction|(refine Done.ret rfl (.refl _) (by first|exact trivial|exact ⟨trivial,trivial,trivial⟩|exact ⟨trivial,trivial,trivial,trivial⟩) Aj.nil (Nat.zero_le _) (Nat.le_refl _) ⟨?_,rfl,rfl⟩;try rfl)
def b1a:List FV:=[.val (.slice none 0 0),.int .i64 0,.val (.slice none 0 0),.val (.slice none 0 0)]
theorem Zf {q:Jw} (h:Xu q) (p:Qy):AX env 21 [.agg (Enc.enc q),.agg (Enc.enc p)] (.p (.int .i64 (xO (Gg q) (JZ q) q.Ia.miss p))):=by
 have hl:=MC h
 have hp:=dV 52 h.P7 p
 refine AX.enter (AA (by decide)) Tryz.func21 rfl (by kernel_rfl) (by simp [Tryz.ntmps21]) ?_
 repeat' (first|apply Ae.assoc|apply Ae.AB|apply Ae.Aq|apply Ae.ret|apply Ag.nil|apply Ag.one|(apply Aa.fn;rfl;rfl;exact hl;intro _;rfl)|(apply Aa.fn;rfl;rfl;exact hp;intro _;rfl)|(apply Aa.assign;rfl)|(apply Aa.move;rfl)|(apply Aa.int;rfl;rfl;rfl)|(apply Aa.load;rfl;rfl)|(apply Aa.AU;rfl;rfl;rfl)|(apply Aa.box;rfl;trivial)|(apply Aa.build;rfl;rfl;rfl;rfl;rfl)|(apply Aa.extract;rfl;rfl)|(apply Ae.Aw;rfl))
 all_goals first|(exfalso;omega)|contradiction|(refine Done.ret rfl (.refl _) (by first|exact trivial|exact ⟨trivial,trivial,trivial⟩|exact ⟨trivial,trivial,trivial,trivial⟩) Aj.nil (Nat.zero_le _) (Nat.le_refl _) ⟨?_,rfl,rfl⟩;try rfl)
theorem Uj (o:EM) (ho:I9 o) (r:Rgs) (hr:r.Ok) (he:Nl o r=0):AX env 27 [.agg (Enc.enc o),.agg (Enc.enc r)] (.ET [.p (.lst 85 (cells (Bq o r)) (Bq o r).length),.p (.int .i64 0)]):=by
 have hc:=IW o ho.sm
 rw [ho.err] at hc
 have hg:=Yt o ho r hr
 rw [he] at hg
 have hd:=KL o ho r hr (aK he)
 refine AX.enter (AA (by decide)) Tryz.func27 rfl (by kernel_rfl) (by simp [Tryz.ntmps27]) ?_
 repeat' (first|apply Ae.assoc|apply Ae.AB|apply Ae.Aq|apply Ae.ret|apply Ag.nil|apply Ag.one|(apply Aa.fn;rfl;rfl;exact hc;intro _;rfl)|(apply Aa.fn;rfl;rfl;exact hg;intro _;rfl)|(apply Aa.fn;rfl;rfl;exact hd;intro _;rfl)|(apply Aa.assign;rfl)|(apply Aa.move;rfl)|(apply Aa.int;rfl;rfl;rfl)|(apply Aa.load;rfl;rfl)|(apply Aa.box;rfl;trivial)|(apply Ae.Aw;rfl))
 all_goals first|(exfalso;omega)|contradiction|(refine Done.ret rfl (.refl _) (by first|exact trivial|exact ⟨trivial,trivial,trivial⟩|exact ⟨trivial,trivial,trivial,trivial⟩) Aj.nil (Nat.zero_le _) (Nat.le_refl _) ⟨?_,rfl,rfl⟩;try rfl)
end Go.Proofs.YtdabojnmoejilaaGreatDoor
namespace Go.Vm
open Go.Am
section
variable {P:Program}
structure b2t (P:Program) (t e:TypeId):Prop where
 arr:P.underlying t=some (.array 2 e)
 elt:P.underlying e=some (.int .i64)
 agg:FN P e=some false
 sz:(P.info? e).map (·.size)=some 1
def a2V (a b:Int):Value:=.agg #[.int .i64 a,.int .i64 b]
abbrev ZJ:=List ((Int×Int)×Int)
def b3g (es:ZJ):List (FV×FV):=es.map fun x=>(.agg [.int .i64 x.1.1,.int .i64 x.1.2],.int .i64 x.2)
def wF:ZJ→Int→Int→Option Int
 |[],_,_=>none
 |x::es,a,b=>if a=x.1.1∧b=x.1.2 then some x.2 else wF es a b
variable {E:Env} {L:Vm.Frame} {H:Vm.Heap} {nx:Nat} {Q:PV→Vm.Heap→Nat→Prop} {w:Bool} {dst:Option Tmp} {ty:TypeId} {pos:String} {af:Array Edge} {gd:Option (Nat×Bool)}
end
end Go.Vm
namespace Go.Hun
open Go Go.Am Go.Vm
def wX (f:Nat→ZJ→ZJ) (t:Nat) (es:ZJ):Nat→ZJ
 |0=>es
 |k+1=>if t.testBit k then wX f t es k else f (t ||| 2 ^ k) (wX f t es k)
def vT (l:List (List Int)) (skip:Int) (m n:Nat):Nat→Nat→ZJ→ZJ
 |0,_,es=>es
 |r+1,t,es=>if (wF es ((n-(r+1):Nat):Int) (t:Int)).isSome then es else
   wX (vT l skip m n r) t (vT l skip m n r t es) m++[((((n-(r+1):Nat):Int),(t:Int)),Za l skip m n (r+1) t)]
def b3o (l:List (List Int)) (skip:Int) (m n:Nat) (es:ZJ):Prop :=
 ∀ (r t:Nat) v,r≤n→wF es ((n-r:Nat):Int) (t:Int)=some v→v=Za l skip m n r t
theorem mG {f:Nat→Int} {B:Int}:∀ n,(∀ i,i<n→0≤f i∧f i≤B)→0≤Dw f n∧Dw f n≤n*B
 |0,_=>by simp [Dw]
 |n+1,h=>by
  have h1:=mG n fun i hi=>h i (by omega)
  have h2:=h n (by omega)
  have h3:((n+1:Nat):Int)*B=n*B+B:=by rw [Int.natCast_add,Int.add_mul];simp
  rw [h3]
  simp only [Dw]
  omega
def F5 (cols:List Int):Nat→Nat
 |0=>0
 |k+1=>if gi cols k<0 then F5 cols k else F5 cols k ||| 2 ^ (gi cols k).toNat
end Go.Hun
namespace Go.Tra
open Go Go.Am Go.Vm Go.Hun
def WY (P:Nat→Bool) (n:Nat):Nat→Int
 |0=>-1
 |r+1=>if P (n-(r+1))=true then ((n-(r+1):Nat):Int) else WY P n r
def Fg (P:Nat→Bool) (n:Nat):Int:=WY P n n
theorem Xx {P:Nat→Bool} {n k:Nat} (hk:k<n) (h:P k=false):WY P n (n-k)=WY P n (n-(k+1)):=by
 obtain ⟨j,hj⟩:∃ j,n-k=j+1:=⟨n-k-1,by omega⟩
 rw [hj]
 have e:n-(j+1)=k:=by omega
 show (if P (n-(j+1))=true then _ else WY P n j)=_
 rw [e,if_neg (by rw [h];decide)]
 congr 1;omega
theorem ay {P:Nat→Bool} {n k:Nat} (hk:k<n) (h:P k=true):WY P n (n-k)=(k:Int):=by
 obtain ⟨j,hj⟩:∃ j,n-k=j+1:=⟨n-k-1,by omega⟩
 rw [hj]
 have e:n-(j+1)=k:=by omega
 show (if P (n-(j+1))=true then _ else WY P n j)=_
 rw [e,if_pos h]
theorem Rl (P:Nat→Bool) (n:Nat):∀ r,r≤n→-1≤WY P n r∧WY P n r<(n:Int)
 |0,_=>⟨by simp [WY],by simp only [WY];omega⟩
 |r+1,hr=>by
  unfold WY
  split
  ·omega
  ·exact Rl P n r (by omega)
theorem fC {P:Nat→Bool} {n:Nat}:∀ r,r≤n→0≤WY P n r→P (WY P n r).toNat=true
 |0,_,h=>by simp [WY] at h
 |r+1,hr,h=>by
  unfold WY at h ⊢
  split
  ·rename_i h1;simpa using h1
  ·rename_i h1
   rw [if_neg h1] at h
   exact fC r (by omega) h
theorem dL {P:Nat→Bool} {n k:Nat} (hp:P k=true):∀ r,r≤n→n-r≤k→k<n→0≤WY P n r
 |0,_,h1,h2=>by omega
 |r+1,hr,h1,h2=>by
  unfold WY
  split
  ·omega
  ·rename_i h3
   refine dL hp r (by omega) ?_ h2
   by_cases e:n-(r+1)=k
   ·rw [e] at h3;exact absurd hp h3
   ·omega
theorem WQ (ns:List Nat):∀ n,(OZ ns n).Nodup
 |0=>List.nodup_nil
 |n+1=>by
  have e0:OZ ns (n+1)=OZ ns n++(List.range (gi ns n)).map fun s=>⟨n,s⟩:=rfl
  rw [e0,List.nodup_append]
  refine ⟨WQ ns n,?_,fun a ha b hb he=>?_⟩
  ·refine List.Pairwise.map _ (fun a b hab he=>hab ?_) List.nodup_range
   injection he
  ·subst he
   have h1:=VY ha
   obtain ⟨s,_,rfl⟩:=List.mem_map.1 hb
   have:n<n:=h1.1
   omega
theorem yg {α:Type} [Inhabited α] {l:List α} (h:l.Nodup) {i j:Nat} (hi:i<l.length) (hj:j<l.length) (e:gi l i=gi l j):i=j:=by
 unfold gi at e
 rw [List.getElem?_eq_getElem hi,List.getElem?_eq_getElem hj] at e
 exact (List.getElem_inj h).1 e
def Hw (all:List Np) (l:List Int) (n:Nat):Nat→List Nat
 |0=>List.replicate n 0
 |k+1=>if gi l k<0 then Hw all l n k else (Hw all l n k).set (gi all (gi l k).toNat).d (gi (Hw all l n k) (gi all (gi l k).toNat).d ||| 2 ^ (gi all (gi l k).toNat).s)
theorem Kt (all:List Np) (l:List Int) (n:Nat):∀ k,(Hw all l n k).length=n
 |0=>by simp [Hw]
 |k+1=>by
  unfold Hw
  split
  ·exact Kt all l n k
  ·rw [List.length_set];exact Kt all l n k
theorem Gw (n i:Nat):gi (List.replicate n (0:Nat)) i=0:=by
 unfold gi
 rw [List.getElem?_replicate]
 split<;>rfl
theorem iG {all:List Np} {l:List Int} {n:Nat} {p:Np} (hp:p.d<n):∀ k,(gi (Hw all l n k) p.d).testBit p.s=true↔∃ j,j<k∧0≤gi l j∧gi all (gi l j).toNat=p
 |0=>by
  unfold Hw
  rw [Gw]
  simp
 |k+1=>by
  have ih:=iG (all:=all) (l:=l) hp k
  have hl:=Kt all l n k
  unfold Hw
  split
  ·rename_i h1
   rw [ih]
   constructor
   ·rintro ⟨j,h2,h3⟩;exact ⟨j,by omega,h3⟩
   ·rintro ⟨j,h2,h3,h4⟩
    by_cases e:j=k
    ·subst e;omega
    ·exact ⟨j,by omega,h3,h4⟩
  ·rename_i h1
   rw [Qi]
   by_cases e:p.d=(gi all (gi l k).toNat).d
   ·rw [if_pos ⟨e.symm,by omega⟩,← e,a3d,Bool.or_eq_true,ih]
    constructor
    ·rintro (⟨j,h2,h3⟩|h2)
     ·exact ⟨j,by omega,h3⟩
     ·refine ⟨k,by omega,by omega,?_⟩
      have:=of_decide_eq_true h2
      cases hq:gi all (gi l k).toNat
      cases p
      rw [hq] at e this
      simp only at e this
      rw [e,this]
    ·rintro ⟨j,h2,h3,h4⟩
     by_cases ej:j=k
     ·subst ej;right;rw [h4];exact decide_eq_true rfl
     ·left;exact ⟨j,by omega,h3,h4⟩
   ·rw [if_neg (fun h=>e h.1.symm),ih]
    constructor
    ·rintro ⟨j,h2,h3⟩;exact ⟨j,by omega,h3⟩
    ·rintro ⟨j,h2,h3,h4⟩
     by_cases ej:j=k
     ·subst ej;rw [h4] at e;exact absurd rfl e
     ·exact ⟨j,by omega,h3,h4⟩
theorem ZV {all:List Np} {l:List Int} {n:Nat} {B:Nat→Nat}:∀ k,(∀ j,j<k→0≤gi l j→(gi all (gi l j).toNat).s<B (gi all (gi l j).toNat).d)→∀ i,gi (Hw all l n k) i<2 ^ B i
 |0,_,i=>by
  unfold Hw;rw [Gw];exact Nat.pow_pos (by decide)
 |k+1,hb,i=>by
  have ih:=ZV (all:=all) (l:=l) (n:=n) (B:=B) k fun j hj=>hb j (by omega)
  unfold Hw
  split
  ·exact ih i
  ·rw [Qi]
   split
   ·rename_i h1
    rw [← h1.1]
    have h2:=ih (gi all (gi l k).toNat).d
    exact Nat.or_lt_two_pow h2 (Nat.pow_lt_pow_right (by decide) (hb k (by omega) (by omega)))
   ·exact ih i
def Z7 (l:List Int) (m n:Nat):Nat→Int
 |0=>0
 |r+1=>if gi l (n-(r+1))< -1∨gi l (n-(r+1))≥m then 3 else if 0≤gi l (n-(r+1))∧gi l (n-(r+1))∈l.take (n-(r+1)) then 9 else Z7 l m n r
theorem NH {l:List Int} {k:Nat} {x:Int} (hk:k≤l.length):x∈l.take k↔∃ j,j<k∧gi l j=x:=by
 rw [List.mem_take_iff_getElem]
 constructor
 ·rintro ⟨j,hj,e⟩
  refine ⟨j,by omega,?_⟩
  unfold gi;rw [List.getElem?_eq_getElem (by omega)];exact e
 ·rintro ⟨j,hj,e⟩
  refine ⟨j,by omega,?_⟩
  unfold gi at e;rw [List.getElem?_eq_getElem (by omega)] at e;exact e
theorem Yw {l:List Int} {m n:Nat} (hl:l.length=n) (h:WB n m fun r=>gi l r):∀ r,r≤n→Z7 l m n r=0
 |0,_=>rfl
 |r+1,hr=>by
  have h1:-1≤gi l (n-(r+1))∧gi l (n-(r+1))<m:=h.rng (n-(r+1)) (by omega)
  unfold Z7
  rw [if_neg (by omega),if_neg,Yw hl h r (by omega)]
  rintro ⟨h2,h3⟩
  obtain ⟨j,h4,h5⟩:=(NH (by omega)).1 h3
  have:=h.inj j (n-(r+1)) (by omega) (by omega) (show 0≤gi l j by omega) h5
  omega
theorem RV {l:List Int} {m n:Nat} (hl:l.length=n):∀ r,r≤n→Z7 l m n r=0→∀ k,n-r≤k→k<n→-1≤gi l k∧gi l k<m∧(0≤gi l k→∀ j,j<k→gi l j≠gi l k)
 |0,_,_,k,h1,h2=>by omega
 |r+1,hr,h,k,h1,h2=>by
  unfold Z7 at h
  split at h
  ·cases h
  rename_i h3
  split at h
  ·cases h
  rename_i h4
  by_cases e:k=n-(r+1)
  ·rw [← e] at h3 h4
   refine ⟨by omega,by omega,fun h5 j hj he=>h4 ⟨h5,(NH (by omega)).2 ⟨j,hj,he⟩⟩⟩
  ·exact RV hl r (by omega) h k (by omega) h2
theorem dR {α:Type} (f:Nat→α):∀ (k:Nat) (l:List α),l.Nodup→(∀ x,x∈l→∃ j,j<k∧f j=x)→l.length≤k
 |0,l,_,h=>by
  cases l with
  |nil=>exact Nat.le_refl _
  |cons a l=>obtain ⟨j,hj,_⟩:=h a (List.mem_cons_self ..);omega
 |k+1,l,hn,h=>by
  haveI:DecidableEq α:=fun a b=>Classical.propDecidable (a=b)
  have h1:=dR f k (l.erase (f k)) (hn.erase _) fun x hx=>by
   obtain ⟨hne,hm⟩:=(List.Nodup.mem_erase_iff hn).1 hx
   obtain ⟨j,hj,e⟩:=h x hm
   refine ⟨j,?_,e⟩
   by_cases ej:j=k
   ·subst ej;exact absurd e.symm hne
   ·omega
  have h2:l.length≤(l.erase (f k)).length+1:=by rw [List.length_erase];split<;>omega
  omega
theorem MI {cols:List Int} {m:Nat}:∀ k,(∀ j,j<k→gi cols j<m)→F5 cols k<2 ^ m
 |0,_=>Nat.pow_pos (by decide)
 |k+1,h=>by
  have ih:=MI (cols:=cols) (m:=m) k fun j hj=>h j (by omega)
  have:=h k (by omega)
  unfold F5
  split
  ·exact ih
  ·exact Nat.or_lt_two_pow ih (Nat.pow_lt_pow_right (by decide) (by omega))
theorem uS {l:List (List Int)} {n m:Nat} {skip B:Int} {cols U V:List Int} {total:Int} (h:a0i l n m skip B cols U V total) {c:Nat→Int} (hc:WB n m c):total≤Dw (WO l skip c) n:=by
 rw [h.a0x]
 exact weak h.pot hc
theorem wL {l:List (List Int)} {n m:Nat} {skip B:Int} {cols U V:List Int} {total:Int} (h:a0i l n m skip B cols U V total):total≤n*skip:=by
 have:=uS h (c:=fun _=>-1) ⟨fun _ _=>⟨by omega,by omega⟩,fun _ _ _ _ h=>by omega⟩
 rw [En (g:=fun _=>skip) (fun k _=>by unfold WO;exact if_pos (show (-1:Int)<0 by decide)),JG] at this
 exact this
theorem yX {l:List (List Int)} {n m:Nat} {skip B:Int} {cols U V:List Int} {total:Int} (hm:yc l n m skip B) (h:a0i l n m skip B cols U V total):0≤total:=by
 rw [h.tot]
 refine (mG (B:=B) n fun i hi=>?_).1
 have h1:-1≤gi cols i∧gi cols i<(m:Int):=h.part.rng i hi
 unfold WO
 by_cases hc:gi cols i<0
 ·rw [if_pos hc];exact hm.skip
 ·rw [if_neg hc];exact hm.rng i (gi cols i).toNat hi (by omega)
end Go.Tra
namespace Go.Proofs.YtdabojnmoejilaaGreatDoor
open Go Go.Am Go.Vm Go.Tra
attribute [local irreducible] Aa Ag Ap Ae BD AX CO AO AL Az Vm.Done CY Bl
attribute [local irreducible] DL Dy Ip Jo Ot BU
def b3n (o:EM) (d s:Nat):List Np:=OZ (aO o) d++(List.range s).map fun i=>⟨d,i⟩
def b0l (o:EM) (rg:Rgs) (k:Nat):List Np:=((BX o).take k).filter (Iw rg)
def shg (F T:EM) (a b:Np):Int:=(BU (GV F a).Du (GV T b).Du).1
def ShS (F T:EM):Prop:=∀ a b,G7 F a→G7 T b→-1000≤shg F T a b∧shg F T a b≤1000∧max (shg F T a b) (-shg F T a b)=max (kN F T a b) (-kN F T a b)
end Go.Proofs.YtdabojnmoejilaaGreatDoor
namespace Go.Proofs.YtdabojnmoejilaaGreatDoor
open Go Go.Am Go.Vm
attribute [local irreducible] Aa Ag Ap Ae BD AX CO AO AL Az Vm.Done CY Bl
def Kw (o:EM):Rgs:=⟨List.replicate o.Ar.length 0,0,0⟩
theorem rH (o:EM) (ho:P6 o):AX env 40 [.agg (Enc.enc o)] (.ET [.p (.agg (Enc.enc (Kw o))),.p (.int .i64 0)]):=by
 have hc:=IW o ho.sm
 rw [ho.ok] at hc
 have r2:=ho.Ar
 have hl:(List.replicate o.Ar.length 0:List Nat).length=o.Ar.length:=List.length_replicate
 have e:Enc.enc (Kw o)=[.lst 39 (cells (List.replicate o.Ar.length (0:Nat))) o.Ar.length,.int .u64 0,.int .u64 0]:=by
  show [FV.lst 39 (cells (List.replicate o.Ar.length (0:Nat))) (List.replicate o.Ar.length (0:Nat)).length,.int .u64 0,.int .u64 0]=_
  rw [hl]
 rw [e]
 refine AX.enter (AA (by decide)) Tryz.func40 rfl (by kernel_rfl) (by simp [Tryz.ntmps40]) ?_
 repeat' (first|(refine Ag.Jp 15 ?_;refine Ag.ghost (Bd.freeze 14 rfl rfl) ?_)|apply Ae.assoc|apply Ae.AB|apply Ae.Aq|apply Ae.ret|apply Ag.nil|apply Ag.one|(apply Aa.fn;rfl;rfl;exact hc;intro _;rfl)|(apply Aa.DR o.Ar.length (0:Nat);rfl;rfl;rfl;rfl;rfl;rfl;rfl;omega;decide;decide;rfl)|(apply Aa.assign;rfl)|(apply Aa.move;rfl)|(apply Aa.int;rfl;rfl;rfl)|(apply Aa.load;rfl;rfl)|(apply Aa.BN;rfl;rfl)|(apply Aa.AU;rfl;rfl;rfl)|(apply Aa.box;rfl;trivial)|(apply Aa.alloc;rfl)|(apply Aa.Bj;rfl;rfl;rfl;trivial;rfl;rfl;exact Ac rfl;exact le_dec rfl)|(apply Aa.build;rfl;rfl;rfl;rfl;rfl)|(apply Ae.Aw;rfl))
 all_goals first|(exfalso;omega)|contradiction|(refine Done.ret rfl (.refl _) (by first|exact trivial|exact ⟨trivial,trivial,trivial⟩|exact ⟨trivial,trivial,trivial,trivial⟩) Aj.nil (Nat.zero_le _) (Nat.le_refl _) ⟨?_,rfl,rfl⟩;try rfl)
def a6q (o:EM) (k:Nat):Nat:=2 ^ (gi o.Ar k).stops.length-1
def b0y (o:EM):Rgs:=⟨a4m (a6q o) (List.replicate o.Ar.length 0) o.Ar.length,2 ^ o.Df.length-1,0⟩
def b0w (r:Rgs) (d s:Nat):Rgs:=⟨r.stops.set d (gi r.stops d ||| 2 ^ s),r.cp,r.off⟩
def a3y (a b:Rgs) (k:Nat):Nat:=gi a.stops k ||| gi b.stops k
def a9x (a b:Rgs):Rgs:=⟨a4m (a3y a b) a.stops a.stops.length,a.cp ||| b.cp,a.off ||| b.off⟩
end Go.Proofs.YtdabojnmoejilaaGreatDoor
namespace Go.Proofs.YtdabojnmoejilaaGreatDoor
open Go Go.Am Go.Vm
attribute [local irreducible] Aa Ag Ap Ae BD AX CO AO AL Az Vm.Done CY Bl
theorem Xr (x n:Nat):(x &&& (2 ^ n-1)) / 2 ^ n=0:=by
 have h1:x &&& (2 ^ n-1)≤2 ^ n-1:=Nat.and_le_right
 have h2:0<2 ^ n:=Nat.two_pow_pos n
 exact Nat.div_eq_of_lt (by omega)
theorem qU (o:EM) (ho:P6 o) (b:Nat→Nat) (hb:∀ i,b i<256):(Oq o b).Ok:=by
 have r2:=ho.Ar
 have l:=Jv (Gh o b) o.Ar.length
 refine ⟨fun i hi=>?_,?_,?_,?_⟩
 ·have hi:i<(Gv (Gh o b) o.Ar.length).length:=hi
  rw [l] at hi
  show gi (Gv (Gh o b) o.Ar.length) i<_
  rw [fZ _ hi]
  have:=hb (i % 3)
  have:Gh o b i≤b (i % 3):=Nat.and_le_left
  omega
 ·have:=hb 3
  have:b 3 &&& (2 ^ o.Df.length-1)≤b 3:=Nat.and_le_left
  show b 3 &&& (2 ^ o.Df.length-1)<_
  omega
 ·have:=hb 4
  have:b 4 &&& (2 ^ o.Ar.length-1)≤b 4:=Nat.and_le_left
  show b 4 &&& (2 ^ o.Ar.length-1)<_
  omega
 ·show (Gv (Gh o b) o.Ar.length).length<_
  omega
theorem kM (o:EM) (b:Nat→Nat):Nl o (Oq o b)=0:=by
 have l:=Jv (Gh o b) o.Ar.length
 rw [Ll (show (Gv (Gh o b) o.Ar.length).length=_ from l) fun i hi=>?_]
 ·rw [if_neg]
  intro h
  rcases h with h|h
  ·exact h (Xr _ _)
  ·exact h (Xr _ _)
 ·have hi:i<(Gv (Gh o b) o.Ar.length).length:=hi
  rw [l] at hi
  show gi (Gv (Gh o b) o.Ar.length) i / _=0
  rw [fZ _ hi]
  exact Xr _ _
def b2k (i:Nat):Nat:=if i=4 then 0 else 255
end Go.Proofs.YtdabojnmoejilaaGreatDoor
namespace Go.Proofs.YtdabojnmoejilaaGreatDoor
open Go Go.Am Go.Vm Go.Tra Go.Hun
attribute [local irreducible] Aa Ag Ap Ae BD AX CO AO AL Az Vm.Done CY Bl
structure wO where
 BH:lq
 tgt:lq
 bits:Nat→Nat
 w:Nat→Nat
def wO.enc (x:wO):List FV:=[.lst 150 (cells x.BH.ranks) x.BH.ranks.length,.lst 75 (cells x.BH.Ar) x.BH.Ar.length,.lst 153 (cells x.BH.links) x.BH.links.length,
 .lst 150 (cells x.tgt.ranks) x.tgt.ranks.length,.lst 75 (cells x.tgt.Ar) x.tgt.Ar.length,.lst 153 (cells x.tgt.links) x.tgt.links.length,
 .int .u8 (x.bits 0:Int),.int .u8 (x.bits 1:Int),.int .u8 (x.bits 2:Int),.int .u8 (x.bits 3:Int),.int .u8 (x.bits 4:Int),.int .u8 (x.w 0:Int),.int .u8 (x.w 1:Int),.int .u8 (x.w 2:Int),.int .u8 (x.w 3:Int)]
structure wO.Ok (x:wO):Prop where
 BH:x.BH.Ok
 tgt:x.tgt.Ok
 bits:∀ i,x.bits i<256
 w:∀ i,x.w i<256
def V9 (x:wO):Prop:=QM x.BH∧QM x.tgt
noncomputable instance (x:wO):Decidable (V9 x):=Classical.propDecidable _
theorem lI (x:wO) (hx:x.Ok):AX env 13 [.agg x.enc] (.p (.bool (decide (V9 x)))):=by
 have h1:=Yk x.BH hx.BH
 have h2:=Yk x.tgt hx.tgt
 refine AX.enter (AA (by decide)) Tryz.func13 rfl (by kernel_rfl) (by simp [Tryz.ntmps13]) ?_
 by_cases c1:QM x.BH
 ·rw [decide_eq_true c1] at h1
  by_cases c2:QM x.tgt
  ·rw [decide_eq_true c2] at h2
   rw [decide_eq_true (p:=V9 x) ⟨c1,c2⟩]
   repeat' (first|apply Ae.AB|apply Ae.ret|apply Ag.nil|apply Ag.one|(apply Ag.take;rfl;rfl)|(apply Aa.fn;rfl;rfl;exact h1;intro _;rfl)|(apply Aa.fn;rfl;rfl;exact h2;intro _;rfl)|(apply Aa.assign;rfl)|(apply Aa.move;rfl)|(apply Aa.load;rfl;rfl)|(apply Aa.Bz;rfl;rfl)|(apply Aa.AU;rfl;rfl;rfl)|(apply Aa.box;rfl;trivial))
   all_goals first|(exfalso;omega)|contradiction|(refine Done.ret rfl (.refl _) (by first|exact trivial|exact ⟨trivial,trivial,trivial⟩|exact ⟨trivial,trivial,trivial,trivial⟩) Aj.nil (Nat.zero_le _) (Nat.le_refl _) ⟨?_,rfl,rfl⟩;try rfl)
  ·rw [decide_eq_false c2] at h2
   rw [decide_eq_false (p:=V9 x) (fun h=>c2 h.2)]
   repeat' (first|apply Ae.AB|apply Ae.ret|apply Ag.nil|apply Ag.one|(apply Ag.take;rfl;rfl)|(apply Aa.fn;rfl;rfl;exact h1;intro _;rfl)|(apply Aa.fn;rfl;rfl;exact h2;intro _;rfl)|(apply Aa.assign;rfl)|(apply Aa.move;rfl)|(apply Aa.load;rfl;rfl)|(apply Aa.Bz;rfl;rfl)|(apply Aa.AU;rfl;rfl;rfl)|(apply Aa.box;rfl;trivial))
   all_goals first|(exfalso;omega)|contradiction|(refine Done.ret rfl (.refl _) (by first|exact trivial|exact ⟨trivial,trivial,trivial⟩|exact ⟨trivial,trivial,trivial,trivial⟩) Aj.nil (Nat.zero_le _) (Nat.le_refl _) ⟨?_,rfl,rfl⟩;try rfl)
 ·rw [decide_eq_false c1] at h1
  rw [decide_eq_false (p:=V9 x) (fun h=>c1 h.1)]
  repeat' (first|apply Ae.AB|apply Ae.ret|apply Ag.nil|apply Ag.one|(apply Ag.drop;rfl;rfl;rfl)|(apply Aa.fn;rfl;rfl;exact h1;intro _;rfl)|(apply Aa.assign;rfl)|(apply Aa.move;rfl)|(apply Aa.load;rfl;rfl)|(apply Aa.AQ;rfl;rfl)|(apply Aa.AU;rfl;rfl;rfl)|(apply Aa.box;rfl;trivial))
  all_goals first|(exfalso;omega)|contradiction|(refine Done.ret rfl (.refl _) (by first|exact trivial|exact ⟨trivial,trivial,trivial⟩|exact ⟨trivial,trivial,trivial,trivial⟩) Aj.nil (Nat.zero_le _) (Nat.le_refl _) ⟨?_,rfl,rfl⟩;try rfl)
def mkW (w:Nat→Nat):X5:=⟨((w 0 % 32:Nat):Int),((w 1 % 8:Nat):Int),((w 2 % 32:Nat):Int),((w 3 % 64:Nat):Int)⟩
noncomputable def mkQ (x:wO):Jw:=⟨Vl x.BH,Oq (Vl x.BH) x.bits,Vl x.tgt,mkW x.w⟩
theorem jU (x:wO) (hx:x.Ok) (hf:V9 x):AX env 14 [.agg x.enc] (.p (.agg (Enc.enc (mkQ x)))):=by
 have h1:=UF x.BH hx.BH hf.1
 have h2:=UF x.tgt hx.tgt hf.2
 have h3:=jy (Vl x.BH) (vN x.BH hx.BH hf.1) x.bits hx.bits
 have w0:=hx.w 0
 have w1:=hx.w 1
 have w2:=hx.w 2
 have w3:=hx.w 3
 obtain ⟨a0,e0⟩:∃ a,a=x.w 0 % 32:=⟨_,rfl⟩
 obtain ⟨a1,e1⟩:∃ a,a=x.w 1 % 8:=⟨_,rfl⟩
 obtain ⟨a2,e2⟩:∃ a,a=x.w 2 % 32:=⟨_,rfl⟩
 obtain ⟨a3,e3⟩:∃ a,a=x.w 3 % 64:=⟨_,rfl⟩
 have eQ:mkQ x=⟨Vl x.BH,Oq (Vl x.BH) x.bits,Vl x.tgt,⟨(a0:Int),(a1:Int),(a2:Int),(a3:Int)⟩⟩:=by rw [e0,e1,e2,e3];rfl
 have v0:ER .rem .u8 (x.w 0:Int) 32=some (.int .u8 (a0:Int)):=by rw [e0];rfl
 have v1:ER .rem .u8 (x.w 1:Int) 8=some (.int .u8 (a1:Int)):=by rw [e1];rfl
 have v2:ER .rem .u8 (x.w 2:Int) 32=some (.int .u8 (a2:Int)):=by rw [e2];rfl
 have v3:ER .rem .u8 (x.w 3:Int) 64=some (.int .u8 (a3:Int)):=by rw [e3];rfl
 have a0b:a0<256:=by omega
 have a1b:a1<256:=by omega
 have a2b:a2<256:=by omega
 have a3b:a3<256:=by omega
 rw [eQ]
 clear eQ e0 e1 e2 e3
 generalize Oq (Vl x.BH) x.bits=r at *
 generalize Vl x.BH=F at *
 generalize Vl x.tgt=T at *
 refine AX.enter (AA (by decide)) Tryz.func14 rfl (by kernel_rfl) (by simp [Tryz.ntmps14]) ?_
 repeat' (first|apply Ae.AB|apply Ae.BF|apply Ae.ret|apply Ag.nil|apply Ap.nil|apply Ag.one|(apply Ap.bar;decide +kernel)|apply Ap.quiet|(apply Aa.fn;rfl;rfl;exact h1;intro _;rfl)|(apply Aa.fn;rfl;rfl;exact h2;intro _;rfl)|(apply Aa.fn;rfl;rfl;exact h3;intro _;rfl)|(apply Aa.Vj;rfl;rfl;rfl;rfl;rfl;decide)|(apply Aa.int;rfl;rfl;exact v0)|(apply Aa.int;rfl;rfl;exact v1)|(apply Aa.int;rfl;rfl;exact v2)|(apply Aa.int;rfl;rfl;exact v3)|(apply Aa.load;rfl;rfl)|(apply Aa.AU;rfl;rfl;rfl)|(apply Aa.box;rfl;trivial)|(apply Aa.alloc;rfl)|(apply Aa.Bj;rfl;rfl;rfl;trivial;rfl;rfl;exact Ac rfl;exact le_dec rfl)|(apply Aa.build;rfl;rfl;rfl;rfl;rfl)|(apply Aa.Jf;rfl;rfl;rfl;rfl;omega))
 all_goals first|(exfalso;omega)|(refine Done.ret rfl (.refl _) (by first|exact trivial|exact ⟨trivial,trivial,trivial⟩|exact ⟨trivial,trivial,trivial,trivial⟩) Aj.nil (Nat.zero_le _) (Nat.le_refl _) ⟨?_,rfl,rfl⟩;try rfl)
theorem a3p {w:Nat→Nat}:Nr (mkW w):=fun i hi=>by
 match i,hi with
 |0,_=>show (0:Int)≤((w 0 % 32:Nat):Int)∧((w 0 % 32:Nat):Int)≤100000;omega
 |1,_=>show (0:Int)≤((w 1 % 8:Nat):Int)∧((w 1 % 8:Nat):Int)≤100000;omega
 |2,_=>show (0:Int)≤((w 2 % 32:Nat):Int)∧((w 2 % 32:Nat):Int)≤100000;omega
 |3,_=>show (0:Int)≤((w 3 % 64:Nat):Int)∧((w 3 % 64:Nat):Int)≤100000;omega
theorem P6.yE {o:EM} (h:P6 o):(BX o).length≤9:=by
 have h1:=Ql (ns:=aO o) (K:=3) (fun d hd=>by rw [QG] at hd;rw [lg o hd];exact h.stops d hd) (aO o).length (Nat.le_refl _)
 rw [dK]
 have:=h.Ar
 rw [QG] at h1 ⊢
 omega
theorem Ym (o:EM) (r:Rgs):(Bq o r).length≤(BX o).length:=List.length_filter_le _ _
theorem nH:∀ a,a<6→∀ b,b<6→(BU (gi EU a) (gi EU b)).2=0∧-1000≤(BU (gi EU a) (gi EU b)).1∧(BU (gi EU a) (gi EU b)).1≤1000 ∧
 max (BU (gi EU a) (gi EU b)).1 (-(BU (gi EU a) (gi EU b)).1)=max (BU (gi EU b) (gi EU a)).1 (-(BU (gi EU b) (gi EU a)).1)∧(a=b→(BU (gi EU a) (gi EU b)).1=0):=by decide +kernel
theorem P6.Du {o:EM} (h:P6 o) {p:Np} (hp:G7 o p):∃ a,a<6∧(GV o p).Du=gi EU a:=(h.st p.d hp.1 p.s hp.2).2.2
theorem a6f {F T:EM} (hF:P6 F) (hT:P6 T):ShB F T:=fun a b ha hb=>by
 obtain ⟨i,hi,ei⟩:=hF.Du ha
 obtain ⟨j,hj,ej⟩:=hT.Du hb
 have:=nH j hj i hi
 unfold kN
 rw [ei,ej]
 exact ⟨this.1,this.2.1,this.2.2.1⟩
theorem wH {F T:EM} {r:Rgs} {w:Nat→Nat} (hF:P6 F) (hT:P6 T) (hr:r.Ok) (he:Nl F r=0):Xu ⟨F,r,T,mkW w⟩:=by
 have h1:=hF.yE
 have h2:=hT.yE
 have h3:=Ym F r
 refine ⟨hF.sm,hT.sm,hr,?_,a6f hF hT⟩
 unfold jr
 rw [if_neg (fun h=>h hF.ok),if_neg (fun h=>h he),if_neg (fun h=>h hT.ok),if_neg (fun h=>h a3p),if_neg (by show ¬ ((Bq F r).length>60∨(BX T).length>120);omega)]
end Go.Proofs.YtdabojnmoejilaaGreatDoor
namespace Go.Proofs.YtdabojnmoejilaaGreatDoor
open Go Go.Am Go.Vm Go.Tra Go.Hun
theorem kV (o:EM):(BX o).Nodup:=WQ _ _
theorem Rx (o:EM) (r:Rgs):(Bq o r).Nodup:=(kV o).filter _
theorem uT {α:Type} [Inhabited α] {l:List α} {x:α} (h:x∈l):∃ k,k<l.length∧gi l k=x:=by
 obtain ⟨k,hk,e⟩:=List.getElem_of_mem h
 exact ⟨k,hk,by unfold gi;rw [List.getElem?_eq_getElem hk];exact e⟩
theorem qh (o:EM) (w:X5) (p:Np) (h:kN o o p p=0):Lr o o w p p=0:=by
 unfold Lr
 rw [h,if_pos rfl,if_pos rfl]
 simp
theorem wI {o:EM} {r:Rgs} {w:X5} (hq:Xu ⟨o,r,o,w⟩) (hs:∀ p,G7 o p→kN o o p p=0):(Ea ⟨o,r,o,w⟩).total=0:=by
 have hP:=Tz hq.P7.P7
 have h0:=yX hq.P7.P7 hP
 have hlen:(Gg ⟨o,r,o,w⟩).length=(Bq o r).length:=Jt ⟨o,r,o,w⟩
 have hex:∀ i,∃ k,i<(Bq o r).length→k<(BX o).length∧gi (BX o) k=gi (Bq o r) i:=fun i=>by
  by_cases hi:i<(Bq o r).length
  ·obtain ⟨k,h1,h2⟩:=uT (List.mem_filter.1 (TL hi)).1
   exact ⟨k,fun _=>⟨h1,h2⟩⟩
  ·exact ⟨0,fun h=>absurd h hi⟩
 obtain ⟨κ,hκ⟩:=Classical.axiomOfChoice hex
 have hc:WB (Gg ⟨o,r,o,w⟩).length (JZ ⟨o,r,o,w⟩) fun i=>(κ i:Int):=by
  refine ⟨fun i hi=>?_,fun i j hi hj _ e=>?_⟩
  ·rw [hlen] at hi
   have h1:=(hκ i hi).1
   have h2:JZ ⟨o,r,o,w⟩=(BX o).length:=by unfold JZ;rw [if_neg (by show ¬ (Bq o r).length=0;omega)]
   rw [h2]
   show -1≤(κ i:Int)∧(κ i:Int)<_
   omega
  ·rw [hlen] at hi hj
   have e':κ i=κ j:=by
    have e2:(κ i:Int)=(κ j:Int):=e
    omega
   have h1:=(hκ i hi).2
   have h2:=(hκ j hj).2
   rw [e'] at h1
   exact yg (Rx o r) hi hj (h1.symm.trans h2)
 have h1:=uS hP hc
 rw [Tj (fun i hi=>by
  rw [hlen] at hi
  obtain ⟨h3,h4⟩:=hκ i hi
  show (if (κ i:Int)<0 then w.miss else gi (gi (Gg ⟨o,r,o,w⟩) i) (κ i:Int).toNat)=0
  rw [if_neg (by omega),Int.toNat_natCast,cu ⟨o,r,o,w⟩ hi h3]
  show Lr o o w (gi (Bq o r) i) (gi (BX o) (κ i))=0
  rw [h4]
  exact qh o w _ (hs _ (SY (TL hi))))] at h1
 exact Int.le_antisymm h1 h0
theorem zS {o:EM} (h:P6 o) {p:Np} (hp:G7 o p):kN o o p p=0:=by
 obtain ⟨a,ha,e⟩:=h.Du hp
 unfold kN
 rw [e]
 exact (nH a ha a ha).2.2.2.2 rfl
theorem dw (o:EM):Bq o (Kw o)=[]:=by
 unfold Bq
 rw [List.filter_eq_nil_iff]
 intro p _
 unfold Iw Kw
 simp only
 rw [Gw]
 simp
theorem qZ {F T:EM} {w:X5} (hq:Xu ⟨F,Kw F,T,w⟩):(Ea ⟨F,Kw F,T,w⟩).total=0:=by
 have hP:=Tz hq.P7.P7
 have h0:(Gg ⟨F,Kw F,T,w⟩).length=0:=by
  rw [Jt]
  show (Bq F (Kw F)).length=0
  rw [dw];rfl
 have h1:(Ea ⟨F,Kw F,T,w⟩).total=Dw _ (Gg ⟨F,Kw F,T,w⟩).length:=hP.tot
 rw [h1,h0]
 rfl
theorem qW {q:Jw} (h:Xu q):(Ea q).total≤(Bq q.BH q.reg).length*q.Ia.miss:=by
 have h2:(Ea q).total≤(Gg q).length*q.Ia.miss:=wL (Tz h.P7.P7)
 rw [Jt] at h2
 exact h2
end Go.Proofs.YtdabojnmoejilaaGreatDoor
namespace Go.Vm
open Go Go.Am
section
variable {E:Env} {L:Frame} {H:Heap} {nx:Nat} {Q:PV→Heap→Nat→Prop} {dst:Option Tmp} {ty:TypeId} {pos:String} {af:Array Edge} {gd:Option (Nat×Bool)} {w:Bool}
theorem Aa.zF {t t2:TypeId} {x y:Operand} {a b r:Bool} (hx:BA E.Γ L x=some (.p (.bool a))) (hy:BA E.Γ L y=some (.p (.bool b))) (ht:E.P.underlying t=some .bool) (hr:(a==b)=r) (q:Q (.p (.bool r)) H nx) :
 Aa E w ⟨dst,.binOp .eql t x y t2,ty,pos,af,gd⟩ L H nx Q:=Aa.eqB hx hy ht (by rw [hr];exact q)
end
end Go.Vm
namespace Go.Proofs.YtdabojnmoejilaaGreatDoor
open Go Go.Am Go.Vm Go.Tra Go.Hun
attribute [local irreducible] Aa Ag Ap Ae BD AX CO AO AL Az Vm.Done CY Bl
attribute [local irreducible] DL Dy Ip Jo Ot BU
def jw (F T:EM) (c y:Xk):Bool:=decide (y.shift=c.shift)&&((y.through==c.through)&&(decide ((gi T.Ar y.BH.toNat).name=(gi F.Ar c.BH.toNat).name)&&decide ((gi T.Ar y.tgt.toNat).name=(gi F.Ar c.tgt.toNat).name)))
def a6t (n:Nat) (c:Xk):Prop:=0≤c.BH∧c.BH<n∧0≤c.tgt∧c.tgt<n
theorem I9.a5p {o:EM} (h:I9 o) {i:Nat} (hi:i<o.Df.length):a6t o.Ar.length (gi o.Df i):=by
 have h0:=h.err
 unfold KU at h0
 split at h0
 ·exact absurd h0 (by decide)
 split at h0
 ·exact absurd h0 (by decide)
 split at h0
 ·rename_i h1;exact absurd h0 h1
 split at h0
 ·exact absurd h0 (by decide)
 split at h0
 ·exact absurd h0 (by decide)
 split at h0
 ·rename_i h1;exact absurd h0 h1
 unfold Ot at h0
 split at h0
 ·exact absurd h0 (by decide)
 split at h0
 ·rename_i h1;exact absurd h0 h1
 rw [List.length_map] at h0
 exact Ye _ 0 rfl h0 i (Nat.zero_le _) hi
theorem qH (q:Jw) (c y:Xk) (nf nt:List UInt8) (hnf:(gi q.BH.Ar c.BH.toNat).name=nf) (hnt:(gi q.BH.Ar c.tgt.toNat).name=nt) (hy:a6t q.tgt.Ar.length y) (hd:q.tgt.Ar.length≤8) :
 H7 env 95 ([.p (.agg (Enc.enc y))]++[.ref 0 0,.ref 1 0,.ref 2 0,.ref 3 0]) [(0,.box 147 ((Enc.enc c).map .p)),(1,.box 45 ((Enc.enc q).map .p)),(2,.box 9 [.p (.str (bs nf))]),(3,.box 9 [.p (.str (bs nt))])] 4 (.bool (jw q.BH q.tgt c y)):=by
 obtain ⟨y1,y2,y3,y4⟩:=hy
 obtain ⟨yf,hyf⟩:∃ n:Nat,y.BH=n:=⟨y.BH.toNat,by omega⟩
 obtain ⟨yt,hyt⟩:∃ n:Nat,y.tgt=n:=⟨y.tgt.toNat,by omega⟩
 have eM:jw q.BH q.tgt c y=(decide (y.shift=c.shift)&&((y.through==c.through)&&(decide ((gi q.tgt.Ar yf).name=nf)&&decide ((gi q.tgt.Ar yt).name=nt)))):=by
  unfold jw;rw [hnf,hnt,hyf,hyt,Int.toNat_natCast,Int.toNat_natCast]
 rw [eM]
 clear eM hnf hnt
 obtain ⟨b2,d2⟩:∃ b,(y.through==c.through)=b:=⟨_,rfl⟩
 obtain ⟨b3,d3⟩:∃ b,decide ((gi q.tgt.Ar yf).name=nf)=b:=⟨_,rfl⟩
 obtain ⟨b4,d4⟩:∃ b,decide ((gi q.tgt.Ar yt).name=nt)=b:=⟨_,rfl⟩
 rw [d2,d3,d4]
 by_cases h1:y.shift=c.shift
 case neg =>
  rw [decide_eq_false h1,Bool.false_and]
  refine H7.enter (AA (by decide)) Tryz.func95 rfl (by kernel_rfl) (by simp [Tryz.ntmps95]) ?_
  repeat' (first|apply Ae.AB|apply Ae.BF|apply Ae.ret|apply Ag.nil|apply Ap.nil|apply Ag.one|(apply Ap.bar;decide +kernel)|apply Ap.quiet|(apply Ap.drop;rfl;rfl;rfl)|(apply Ap.guard;rfl;rfl)|(apply Aa.assign;rfl)|(apply Aa.move;rfl)|(apply Aa.int;rfl;rfl;rfl)|(apply Aa.load;rfl;rfl)|(apply Aa.AQ;rfl;rfl)|(apply Aa.AU;rfl;rfl;rfl)|(apply Aa.box;rfl;trivial)|(intro _;try (exfalso;omega)))
  all_goals first|(exfalso;omega)|contradiction|(refine Done.ret rfl (.refl _) trivial ?_ (by omega) (Nat.le_refl _) ⟨?_,rfl,rfl⟩;repeat (first|exact Aj.nil|(refine Aj.cons (Ac rfl) ?_ rfl ?_ ?_;(first|exact HB.Ak rfl|exact AP.Ah _ _|(simp [HB.under,AP.under,PV.under]));(first|exact Bh.refl _|exact Bh.vec (Bf.refl _) (by simp))));try rfl)
 rw [decide_eq_true h1,Bool.true_and]
 cases b2
 case false =>
  rw [Bool.false_and]
  refine H7.enter (AA (by decide)) Tryz.func95 rfl (by kernel_rfl) (by simp [Tryz.ntmps95]) ?_
  repeat' (first|apply Ae.AB|apply Ae.BF|apply Ae.ret|apply Ag.nil|apply Ap.nil|apply Ag.one|(apply Ap.bar;decide +kernel)|apply Ap.quiet|(apply Ap.JA;rfl;rfl)|(apply Ap.drop;rfl;rfl;rfl)|(apply Ap.guard;rfl;rfl)|(apply Aa.zF;rfl;rfl;rfl;exact d2)|(apply Aa.assign;rfl)|(apply Aa.move;rfl)|(apply Aa.int;rfl;rfl;rfl)|(apply Aa.load;rfl;rfl)|(apply Aa.Bz;rfl;rfl)|(apply Aa.AQ;rfl;rfl)|(apply Aa.AU;rfl;rfl;rfl)|(apply Aa.box;rfl;trivial)|(intro _;try (exfalso;omega)))
  all_goals first|(exfalso;omega)|contradiction|(refine Done.ret rfl (.refl _) trivial ?_ (by omega) (Nat.le_refl _) ⟨?_,rfl,rfl⟩;repeat (first|exact Aj.nil|(refine Aj.cons (Ac rfl) ?_ rfl ?_ ?_;(first|exact HB.Ak rfl|exact AP.Ah _ _|(simp [HB.under,AP.under,PV.under]));(first|exact Bh.refl _|exact Bh.vec (Bf.refl _) (by simp))));try rfl)
 rw [Bool.true_and]
 cases b3
 case false =>
  rw [Bool.false_and]
  refine H7.enter (AA (by decide)) Tryz.func95 rfl (by kernel_rfl) (by simp [Tryz.ntmps95]) ?_
  repeat' (first|apply Ae.AB|apply Ae.BF|apply Ae.ret|apply Ag.nil|apply Ap.nil|apply Ag.one|(apply Ap.bar;decide +kernel)|apply Ap.quiet|(apply Ap.JA;rfl;rfl)|(apply Ap.drop;rfl;rfl;rfl)|(apply Ap.guard;rfl;rfl)|(apply Aa.zF;rfl;rfl;rfl;exact d2)|(apply Aa.aQ;rfl;rfl;exact d3)|(apply Aa.AV (l:=q.tgt.Ar) (i:=yf);rfl;(first|exact congrArg (fun a=>some (PV.p (.int .i64 a))) hyf|rfl);rfl;omega;rfl)|(apply Aa.assign;rfl)|(apply Aa.move;rfl)|(apply Aa.int;rfl;rfl;rfl)|(apply Aa.load;rfl;rfl)|(apply Aa.Bz;rfl;rfl)|(apply Aa.AQ;rfl;rfl)|(apply Aa.AU;rfl;rfl;rfl)|(apply Aa.Eu;rfl;rfl)|(apply Aa.box;rfl;trivial)|(intro _;try (exfalso;omega)))
  all_goals first|(exfalso;omega)|contradiction|(refine Done.ret rfl (.refl _) trivial ?_ (by omega) (Nat.le_refl _) ⟨?_,rfl,rfl⟩;repeat (first|exact Aj.nil|(refine Aj.cons (Ac rfl) ?_ rfl ?_ ?_;(first|exact HB.Ak rfl|exact AP.Ah _ _|(simp [HB.under,AP.under,PV.under]));(first|exact Bh.refl _|exact Bh.vec (Bf.refl _) (by simp))));try rfl)
 rw [Bool.true_and]
 cases b4
 case false =>
  refine H7.enter (AA (by decide)) Tryz.func95 rfl (by kernel_rfl) (by simp [Tryz.ntmps95]) ?_
  repeat' (first|apply Ae.AB|apply Ae.BF|apply Ae.ret|apply Ag.nil|apply Ap.nil|apply Ag.one|(apply Ap.bar;decide +kernel)|apply Ap.quiet|(apply Ap.JA;rfl;rfl)|(apply Ap.guard;rfl;rfl)|(apply Aa.zF;rfl;rfl;rfl;exact d2)|(apply Aa.aQ;rfl;rfl;exact d3)|(apply Aa.aQ;rfl;rfl;exact d4)|(apply Aa.AV (l:=q.tgt.Ar) (i:=yf);rfl;(first|exact congrArg (fun a=>some (PV.p (.int .i64 a))) hyf|rfl);rfl;omega;rfl)|(apply Aa.AV (l:=q.tgt.Ar) (i:=yt);rfl;(first|exact congrArg (fun a=>some (PV.p (.int .i64 a))) hyt|rfl);rfl;omega;rfl)|(apply Aa.assign;rfl)|(apply Aa.move;rfl)|(apply Aa.int;rfl;rfl;rfl)|(apply Aa.load;rfl;rfl)|(apply Aa.Bz;rfl;rfl)|(apply Aa.AU;rfl;rfl;rfl)|(apply Aa.Eu;rfl;rfl)|(apply Aa.box;rfl;trivial)|(intro _;try (exfalso;omega)))
  all_goals first|(exfalso;omega)|contradiction|(refine Done.ret rfl (.refl _) trivial ?_ (by omega) (Nat.le_refl _) ⟨?_,rfl,rfl⟩;repeat (first|exact Aj.nil|(refine Aj.cons (Ac rfl) ?_ rfl ?_ ?_;(first|exact HB.Ak rfl|exact AP.Ah _ _|(simp [HB.under,AP.under,PV.under]));(first|exact Bh.refl _|exact Bh.vec (Bf.refl _) (by simp))));try rfl)
 case true =>
  refine H7.enter (AA (by decide)) Tryz.func95 rfl (by kernel_rfl) (by simp [Tryz.ntmps95]) ?_
  repeat' (first|apply Ae.AB|apply Ae.BF|apply Ae.ret|apply Ag.nil|apply Ap.nil|apply Ag.one|(apply Ap.bar;decide +kernel)|apply Ap.quiet|(apply Ap.JA;rfl;rfl)|(apply Ap.guard;rfl;rfl)|(apply Aa.zF;rfl;rfl;rfl;exact d2)|(apply Aa.aQ;rfl;rfl;exact d3)|(apply Aa.aQ;rfl;rfl;exact d4)|(apply Aa.AV (l:=q.tgt.Ar) (i:=yf);rfl;(first|exact congrArg (fun a=>some (PV.p (.int .i64 a))) hyf|rfl);rfl;omega;rfl)|(apply Aa.AV (l:=q.tgt.Ar) (i:=yt);rfl;(first|exact congrArg (fun a=>some (PV.p (.int .i64 a))) hyt|rfl);rfl;omega;rfl)|(apply Aa.assign;rfl)|(apply Aa.move;rfl)|(apply Aa.int;rfl;rfl;rfl)|(apply Aa.load;rfl;rfl)|(apply Aa.Bz;rfl;rfl)|(apply Aa.AU;rfl;rfl;rfl)|(apply Aa.Eu;rfl;rfl)|(apply Aa.box;rfl;trivial)|(intro _;try (exfalso;omega)))
  all_goals first|(exfalso;omega)|contradiction|(refine Done.ret rfl (.refl _) trivial ?_ (by omega) (Nat.le_refl _) ⟨?_,rfl,rfl⟩;repeat (first|exact Aj.nil|(refine Aj.cons (Ac rfl) ?_ rfl ?_ ?_;(first|exact HB.Ak rfl|exact AP.Ah _ _|(simp [HB.under,AP.under,PV.under]));(first|exact Bh.refl _|exact Bh.vec (Bf.refl _) (by simp))));try rfl)
theorem a6y (q:Jw) (c:Xk) (nf nt:List UInt8) (hnf:(gi q.BH.Ar c.BH.toNat).name=nf) (hnt:(gi q.BH.Ar c.tgt.toNat).name=nt) (hk:I9 q.tgt) :
 H7 env 94 [.p (.lst 147 (cells q.tgt.Df) q.tgt.Df.length),.clo 95 [] [.ref 0 0,.ref 1 0,.ref 2 0,.ref 3 0]] [(0,.box 147 ((Enc.enc c).map .p)),(1,.box 45 ((Enc.enc q).map .p)),(2,.box 9 [.p (.str (bs nf))]),(3,.box 9 [.p (.str (bs nt))])] 4
  (.int .i64 (Fg (fun k=>jw q.BH q.tgt c (gi q.tgt.Df k)) q.tgt.Df.length)):=by
 have b1:=hk.Df
 obtain ⟨P,hP⟩:∃ P:Nat→Bool,P=fun k=>jw q.BH q.tgt c (gi q.tgt.Df k):=⟨_,rfl⟩
 have hM':∀ k,k<q.tgt.Df.length→H7 env 95 ([.p (.agg (Enc.enc (gi q.tgt.Df k)))]++[.ref 0 0,.ref 1 0,.ref 2 0,.ref 3 0]) [(0,.box 147 ((Enc.enc c).map .p)),(1,.box 45 ((Enc.enc q).map .p)),(2,.box 9 [.p (.str (bs nf))]),(3,.box 9 [.p (.str (bs nt))])] 4 (.bool (P k)):=fun k hkk=>by rw [hP];exact qH q c (gi q.tgt.Df k) nf nt hnf hnt (hk.a5p hkk) hk.Ar.2
 rw [← hP]
 clear hP hnf hnt
 refine H7.enter (AA (by decide)) Tryz.func94 rfl (by kernel_rfl) (by simp [Tryz.ntmps94]) ?_
 repeat' (first|apply Ae.assoc|apply Ae.AB|apply Ae.Ai|apply Ag.nil|apply Ag.one|(apply Aa.assign;rfl)|(apply Aa.move;rfl)|(apply Aa.BN;rfl;rfl))
 all_goals try (exfalso;omega)
 apply Ae.F6 (q.tgt.Df.length) (fun k=>WY P q.tgt.Df.length (q.tgt.Df.length-k)=Fg P q.tgt.Df.length) [(0,_),(1,_),(7,_)] [(0,_),(1,_),(2,_),(3,_)] (fun k r=>(8,.p (.int .i64 (k:Int)))::r) (fun k r=>r) 4
 ·first|omega|decide
 ·first|omega|decide
 ·repeat (first|exact Ad.nil|(refine Ad.eq rfl ?_ ?_;(first|exact PV.Ak rfl|(simp [PV.under,AP.under];done)))|refine Ad.cons trivial rfl (.of_eq (Au (by simp<;>omega))) ?_)
 ·repeat (first|exact Aj.nil|(refine Aj.eq rfl (Ac rfl) ?_ ?_;(first|exact HB.Ak rfl|exact AP.Ah _ _|(simp [HB.under,AP.under,PV.under];done)))|(refine Aj.cons (Ac rfl) ?_ rfl ?_ ?_;(first|exact trivial|exact AP.Ah _ _|(simp [HB.under,AP.under,PV.under]));(first|exact Bh.refl _|exact Bh.vec (Bf.refl _) (by simp))))
 ·first|(intro _ _;omega)|omega|trivial
 ·intro k hk hi
  have hC:=hM' k hk
  by_cases hp:P k=true
  ·rw [hp] at hC
   have e1:Fg P q.tgt.Df.length=(k:Int):=by rw [← hi,ay hk hp]
   rw [e1]
   repeat' (first|apply Ae.AB|apply Ae.Aq|apply Ae.Ai|apply AO.ret|apply AL.ret|apply Az.ret|apply Ae.ret|apply Ag.nil|apply Ag.one|(apply Aa.read [0,1,2,3] hC;rfl;rfl;exact .of_eq rfl;exact AP.Ak rfl;exact Dv rfl;(repeat (first|exact trivial|refine ⟨⟨_,rfl,.of_eq rfl⟩,?_⟩));decide;(intro _ hb;simp at hb<;>omega);rfl)|(apply Aa.assign;rfl)|(apply Aa.move;rfl)|(apply Aa.int;rfl;rfl;rfl)|(apply Aa.AV;rfl;rfl;rfl;omega;rfl)|(apply Aa.load;rfl;rfl)|(apply Ae.Af;rfl)|(apply Ae.cond_true;rfl)|(intro _;try (exfalso;omega)))
   all_goals first|(exfalso;omega)|contradiction|(refine Done.ret rfl (.refl _) trivial ?_ (by omega) (Nat.le_refl _) ⟨?_,rfl,rfl⟩;repeat (first|exact Aj.nil|(refine Aj.cons (Ac rfl) ?_ rfl ?_ ?_;(first|exact HB.Ak rfl|exact AP.Ah _ _|(simp [HB.under,AP.under,PV.under]));(first|exact Bh.refl _|exact Bh.vec (Bf.refl _) (by simp))));try rfl)
  ·have hp':P k=false:=by simpa using hp
   rw [hp'] at hC
   repeat' (first|apply Ae.AB|apply Ae.region|apply Ae.Aq|apply Ae.Ai|apply AO.normal|apply AL.normal|apply Ae.skip|apply Ag.nil|apply Ag.one|(apply Aa.read [0,1,2,3] hC;rfl;rfl;exact .of_eq rfl;exact AP.Ak rfl;exact Dv rfl;(repeat (first|exact trivial|refine ⟨⟨_,rfl,.of_eq rfl⟩,?_⟩));decide;(intro _ hb;simp at hb<;>omega);rfl)|(apply Aa.assign;rfl)|(apply Aa.move;rfl)|(apply Aa.Bv;rfl;rfl;omega)|(apply Aa.int;rfl;rfl;rfl)|(apply Aa.AV;rfl;rfl;rfl;omega;rfl)|(apply Aa.load;rfl;rfl)|(apply Ae.Af;rfl)|(apply Ae.cond_false;rfl)|(intro _;try (exfalso;omega)))
   all_goals try (exfalso;omega)
   all_goals try contradiction
   refine Az.normal ⟨((Xx hk hp').symm.trans hi),by first|omega|decide,?_,?_⟩
   ·repeat (first|exact Ad.nil|refine Ad.same trivial rfl ?_|refine Ad.same (Ac rfl) rfl ?_|refine Ad.same ⟨trivial,Ac rfl,trivial⟩ rfl ?_|refine Ad.same ⟨trivial,Ac rfl,Ac rfl,trivial⟩ rfl ?_|refine Ad.same ⟨trivial,Ac rfl,Ac rfl,Ac rfl,trivial⟩ rfl ?_|refine Ad.same ⟨trivial,Ac rfl,Ac rfl,Ac rfl,Ac rfl,trivial⟩ rfl ?_|refine Ad.same ⟨trivial,trivial⟩ rfl ?_|refine Ad.cons trivial rfl (.of_eq (Au (by simp<;>omega))) ?_)
   ·repeat (first|exact Aj.nil|(refine Aj.cons (Ac rfl) ?_ rfl ?_ ?_;(first|exact HB.Ak rfl|exact AP.Ah _ _|(simp [HB.under,AP.under,PV.under]));(first|exact Bh.refl _|exact Bh.vec (Bf.refl _) (by simp))))
 ·intro hi
  have e1:Fg P q.tgt.Df.length=-1:=by rw [← hi,Nat.sub_self];rfl
  rw [e1]
  repeat' (first|apply Ae.AB|apply Ae.AY|apply AO.normal|apply AL.exit|apply Az.exit|apply Ae.ret|apply Ag.nil|apply Ag.one|(apply Aa.assign;rfl)|(apply Aa.int;rfl;rfl;rfl)|(apply Ae.Af;rfl)|(intro _;try (exfalso;omega)))
  all_goals first|(exfalso;omega)|(refine Done.ret rfl (.refl _) trivial ?_ (by omega) (Nat.le_refl _) ⟨?_,rfl,rfl⟩;repeat (first|exact Aj.nil|(refine Aj.cons (Ac rfl) ?_ rfl ?_ ?_;(first|exact HB.Ak rfl|exact AP.Ah _ _|(simp [HB.under,AP.under,PV.under]));(first|exact Bh.refl _|exact Bh.vec (Bf.refl _) (by simp))));try rfl)
def oV (q:Jw) (i:Nat):Int:=Fg (fun k=>jw q.BH q.tgt (gi q.BH.Df i) (gi q.tgt.Df k)) q.tgt.Df.length
def Jh (q:Jw):Nat→List Int
 |0=>[]
 |k+1=>if q.reg.cp / 2 ^ k % 2=1 then Jh q k++[oV q k] else Jh q k
def Io (q:Jw):List Int:=Jh q q.BH.Df.length
theorem QE (q:Jw):∀ k,(Jh q k).length≤k
 |0=>Nat.le_refl _
 |k+1=>by
  have:=QE q k
  unfold Jh
  split
  ·simp only [List.length_append,List.length_cons,List.length_nil];omega
  ·omega
theorem sF (q:Jw) (i:Nat):-1≤oV q i∧oV q i<q.tgt.Df.length:=Rl _ _ _ (Nat.le_refl _)
theorem Ry (q:Jw):∀ k j,j<(Jh q k).length→-1≤gi (Jh q k) j∧gi (Jh q k) j<q.tgt.Df.length
 |0,j,h=>by simp [Jh] at h
 |k+1,j,h=>by
  have ih:=Ry q k j
  unfold Jh at h ⊢
  split
  ·rename_i h1
   rw [if_pos h1] at h
   simp only [List.length_append,List.length_cons,List.length_nil] at h
   rw [Rw]
   split
   ·rename_i h2;exact ih h2
   ·rw [if_pos (by omega)];exact sF q k
  ·rename_i h1
   rw [if_neg h1] at h
   exact ih h
theorem X4 (q:Jw) (h1:I9 q.BH) (h2:I9 q.tgt) (hr:q.reg.Ok):AX env 63 [.agg (Enc.enc q)] (.p (.lst 3 (cells (Io q)) (Io q).length)):=by
 have b1:=h1.Df
 have b2:=h2.Df
 have b3:=h1.Ar
 have b4:=hr.cp
 unfold Io
 refine AX.enter (AA (by decide)) Tryz.func63 rfl (by kernel_rfl) (by simp [Tryz.ntmps63]) ?_
 repeat' (first|apply Ae.assoc|apply Ae.AB|apply Ae.Ai|apply Ag.nil|apply Ag.one|(apply Aa.assign;rfl)|(apply Aa.move;rfl)|(apply Aa.load;rfl;rfl)|(apply Aa.BN;rfl;rfl)|(apply Aa.AU;rfl;rfl;rfl)|(apply Aa.box;rfl;trivial))
 all_goals try (exfalso;omega)
 refine Ae.ghost (Bd.adopt 3 3 rfl) ?_
 apply Ae.FH (q.BH.Df.length) [(1,_),(10,_),(11,_)] [(0,_)] (fun k r=>(3,.vec 1 (Jh q k).length 0 (Jh q k).length)::(12,.p (.int .i64 (k:Int)))::r) (fun k r=>(1,.vec 3 (cells (Jh q k)) (Jh q k).length true)::r) 2
 ·first|omega|decide
 ·first|omega|decide
 ·repeat (first|exact Ad.nil|(refine Ad.eq rfl ?_ ?_;(first|exact PV.Ak rfl|(simp [PV.under,AP.under];done)))|refine Ad.cons trivial rfl (.of_eq (Au (by simp<;>omega))) ?_)
 ·repeat (first|exact Aj.nil|(refine Aj.eq rfl (Ac rfl) ?_ ?_;(first|exact HB.Ak rfl|exact AP.Ah _ _|(simp [HB.under,AP.under,PV.under];done)))|(refine Aj.cons (Ac rfl) ?_ rfl ?_ ?_;(first|exact trivial|exact AP.Ah _ _|(simp [HB.under,AP.under,PV.under]));(first|exact Bh.refl _|exact Bh.vec (Bf.refl _) (by simp))))
 ·intro k hk
  obtain ⟨c1,c2,c3,c4⟩:=h1.a5p hk
  have e3:=QE q k
  have hq:q.reg.cp / 2 ^ k<18446744073709551616:=Nat.lt_of_le_of_lt (Nat.div_le_self _ _) b4
  have hm2:=Nat.mod_lt (q.reg.cp / 2 ^ k) (show 0<2 by decide)
  by_cases hb:q.reg.cp / 2 ^ k % 2=1
  ·have e1:Jh q (k+1)=Jh q k++[oV q k]:=by rw [Jh,if_pos hb]
   have e2:(Jh q (k+1)).length=(Jh q k).length+1:=by rw [e1];simp
   have hix:=a6y q (gi q.BH.Df k) _ _ rfl rfl h2
   rw [show Fg (fun j=>jw q.BH q.tgt (gi q.BH.Df k) (gi q.tgt.Df j)) q.tgt.Df.length=oV q k from rfl] at hix
   obtain ⟨cf,hcf⟩:∃ n:Nat,(gi q.BH.Df k).BH=n:=⟨(gi q.BH.Df k).BH.toNat,by omega⟩
   obtain ⟨ct,hct⟩:∃ n:Nat,(gi q.BH.Df k).tgt=n:=⟨(gi q.BH.Df k).tgt.toNat,by omega⟩
   rw [hcf,hct,Int.toNat_natCast,Int.toNat_natCast] at hix
   repeat' (first|(refine Ap.atIdx 18 ?_;apply Ap.weak [.tmp 33,.tmp 35,.tmp 38];decide +kernel;rfl;rfl;(first|exact Rt.ref rfl|exact Rt.vec rfl|exact Rt.Em rfl);decide +kernel;rfl)|apply Ae.assoc|apply Ae.AB|apply Ae.BF|apply Ae.region|apply Ae.Aq|apply Ae.Ai|apply AO.normal|apply AL.normal|apply Ag.nil|apply Ap.nil|apply Ag.one|(apply Ap.bar;decide +kernel)|apply Ap.quiet|(apply Aa.makeFunc;rfl;rfl)|(apply Aa.DK (a:=oV q k);rfl;rfl;rfl;rfl;rfl;rfl;rfl;rfl;(intro _ h;cases h);rfl;rfl;rfl;decide;decide;(first|omega|(simp only [List.length_take,List.length_drop,List.length_append,List.length_singleton,List.length_cons,List.length_nil]<;>omega)))|(apply Aa.read [2,0,3,4] hix;rfl;rfl;exact .of_eq rfl;exact AP.Ak rfl;exact Dv rfl;(repeat (first|exact trivial|refine ⟨⟨_,rfl,.of_eq rfl⟩,?_⟩));decide;(intro _ hb;simp at hb<;>omega);rfl)|(apply Aa.AV (l:=q.BH.Ar) (i:=cf);rfl;(first|exact congrArg (fun a=>some (PV.p (.int .i64 a))) hcf|rfl);rfl;omega;rfl)|(apply Aa.AV (l:=q.BH.Ar) (i:=ct);rfl;(first|exact congrArg (fun a=>some (PV.p (.int .i64 a))) hct|rfl);rfl;omega;rfl)|(apply Aa.assign;rfl)|(apply Aa.move;rfl)|(apply Aa.Bv;rfl;rfl;omega)|(apply Aa.YJ;rfl;rfl;omega)|(apply Aa.int;rfl;rfl;rfl)|(apply Aa.AV;rfl;rfl;rfl;omega;rfl)|(apply Aa.load;rfl;rfl)|(apply Aa.AU;rfl;rfl;rfl)|(apply Aa.Eu;rfl;rfl)|(apply Aa.alloc;rfl)|(apply Aa.Bj;rfl;rfl;rfl;trivial;rfl;rfl;exact Ac rfl;exact le_dec rfl)|(apply Aa.buildSlice;rfl;rfl;rfl;decide;rfl;rfl;rfl)|(apply Aa.QS;rfl;rfl;(simp only [IntKind.bits];omega))|(apply Ae.Af;rfl)|(intro _;try (exfalso;omega)))
   all_goals try (exfalso;omega)
   refine Az.normal ⟨by omega,?_,?_⟩
   ·rw [e2]
    repeat (first|exact Ad.nil|refine Ad.same trivial rfl ?_|refine Ad.same (Ac rfl) rfl ?_|refine Ad.same ⟨trivial,Ac rfl,trivial⟩ rfl ?_|refine Ad.same ⟨trivial,Ac rfl,Ac rfl,trivial⟩ rfl ?_|refine Ad.same ⟨trivial,Ac rfl,Ac rfl,Ac rfl,trivial⟩ rfl ?_|refine Ad.same ⟨trivial,Ac rfl,Ac rfl,Ac rfl,Ac rfl,trivial⟩ rfl ?_|refine Ad.same ⟨trivial,trivial⟩ rfl ?_|refine Ad.cons trivial rfl (.of_eq (Au (by simp<;>omega))) ?_)
   ·rw [e2,e1]
    repeat (first|exact Aj.nil|(refine Aj.cons (Ac rfl) ?_ rfl ?_ ?_;(first|exact HB.Ak rfl|exact AP.Ah _ _|(simp [HB.under,AP.under,PV.under]));(first|exact Bh.refl _|exact Bh.vec (Bf.refl _) (by simp))))
  ·have e1:Jh q (k+1)=Jh q k:=by rw [Jh,if_neg hb]
   repeat' (first|apply Ae.assoc|apply Ae.AB|apply Ae.region|apply Ae.Aq|apply Ae.AY|apply Ae.Ai|apply AO.normal|apply AL.exit|apply Ag.nil|apply Ag.one|(apply Aa.assign;rfl)|(apply Aa.move;rfl)|(apply Aa.Bv;rfl;rfl;omega)|(apply Aa.YJ;rfl;rfl;omega)|(apply Aa.int;rfl;rfl;rfl)|(apply Aa.AV;rfl;rfl;rfl;omega;rfl)|(apply Aa.load;rfl;rfl)|(apply Aa.AU;rfl;rfl;rfl)|(apply Aa.alloc;rfl)|(apply Aa.Bj;rfl;rfl;rfl;trivial;rfl;rfl;exact Ac rfl;exact le_dec rfl)|(apply Aa.QS;rfl;rfl;(simp only [IntKind.bits];omega))|(apply Ae.Af;rfl)|(intro _;try (exfalso;omega)))
   all_goals try (exfalso;omega)
   refine Az.normal ⟨by omega,?_,?_⟩
   ·rw [e1]
    repeat (first|exact Ad.nil|refine Ad.same trivial rfl ?_|refine Ad.same (Ac rfl) rfl ?_|refine Ad.same ⟨trivial,Ac rfl,trivial⟩ rfl ?_|refine Ad.same ⟨trivial,Ac rfl,Ac rfl,trivial⟩ rfl ?_|refine Ad.same ⟨trivial,Ac rfl,Ac rfl,Ac rfl,trivial⟩ rfl ?_|refine Ad.same ⟨trivial,Ac rfl,Ac rfl,Ac rfl,Ac rfl,trivial⟩ rfl ?_|refine Ad.same ⟨trivial,trivial⟩ rfl ?_|refine Ad.cons trivial rfl (.of_eq (Au (by simp<;>omega))) ?_)
   ·rw [e1]
    repeat (first|exact Aj.nil|(refine Aj.cons (Ac rfl) ?_ rfl ?_ ?_;(first|exact HB.Ak rfl|exact AP.Ah _ _|(simp [HB.under,AP.under,PV.under]));(first|exact Bh.refl _|exact Bh.vec (Bf.refl _) (by simp))))
 ·have e3:=QE q q.BH.Df.length
  repeat' (first|(refine Ag.Jp 2 ?_;refine Ag.ghost (Bd.freeze 49 rfl rfl) ?_)|apply Ae.AB|apply Ae.AY|apply AO.normal|apply AL.exit|apply Az.exit|apply Ae.ret|apply Ag.nil|apply Ag.one|(apply Aa.assign;rfl)|(apply Aa.move;rfl)|(apply Aa.int;rfl;rfl;rfl)|(apply Ae.Af;rfl)|(intro _;try (exfalso;omega)))
  all_goals first|(exfalso;omega)|(refine Done.ret rfl (.refl _) (by first|exact trivial|exact ⟨trivial,trivial,trivial⟩|exact ⟨trivial,trivial,trivial,trivial⟩) Aj.nil (Nat.zero_le _) (Nat.le_refl _) ⟨?_,rfl,rfl⟩;try rfl)
end Go.Proofs.YtdabojnmoejilaaGreatDoor
namespace Go.Proofs.YtdabojnmoejilaaGreatDoor
open Go Go.Am Go.Vm Go.Tra Go.Hun
attribute [local irreducible] Aa Ag Ap Ae BD AX CO AO AL Az Vm.Done CY Bl
attribute [local irreducible] DL Dy Ip Jo Ot BU
theorem XV (e:TypeId) (l:List Int) (n:Int) (hl:l.length<1000000):AX env 93 [.lst e (cells l) l.length,.int .i64 n] (.p (.int .i64 (Fg (fun k=>decide (gi l k=n)) l.length))):=by
 obtain ⟨P,hP⟩:∃ P:Nat→Bool,P=fun k=>decide (gi l k=n):=⟨_,rfl⟩
 have hP1:∀ k,n=gi l k→P k=true:=fun k h=>by rw [hP];exact decide_eq_true h.symm
 have hP2:∀ k,¬ n=gi l k→P k=false:=fun k h=>by rw [hP];exact decide_eq_false (fun e=>h e.symm)
 rw [← hP]
 clear hP
 refine AX.enter (AA (by decide)) Tryz.func93 rfl (by kernel_rfl) (by simp [Tryz.ntmps93]) ?_
 repeat' (first|apply Ae.assoc|apply Ae.AB|apply Ae.Ai|apply Ag.nil|apply Ag.one|(apply Aa.assign;rfl)|(apply Aa.move;rfl)|(apply Aa.BN;rfl;rfl))
 all_goals try (exfalso;omega)
 apply Ae.F6 (l.length) (fun k=>WY P l.length (l.length-k)=Fg P l.length) [(0,_),(1,_),(7,_)] [] (fun k r=>(8,.p (.int .i64 (k:Int)))::r) (fun k r=>r) 0
 ·first|omega|decide
 ·first|omega|decide
 ·repeat (first|exact Ad.nil|(refine Ad.eq rfl ?_ ?_;(first|exact PV.Ak rfl|(simp [PV.under,AP.under];done)))|refine Ad.cons trivial rfl (.of_eq (Au (by simp<;>omega))) ?_)
 ·repeat (first|exact Aj.nil|(refine Aj.eq rfl (Ac rfl) ?_ ?_;(first|exact HB.Ak rfl|exact AP.Ah _ _|(simp [HB.under,AP.under,PV.under];done)))|(refine Aj.cons (Ac rfl) ?_ rfl ?_ ?_;(first|exact trivial|exact AP.Ah _ _|(simp [HB.under,AP.under,PV.under]));(first|exact Bh.refl _|exact Bh.vec (Bf.refl _) (by simp))))
 ·first|(intro _ _;omega)|omega|trivial
 ·intro k hk hi
  by_cases hp:n=gi l k
  ·have e1:Fg P l.length=(k:Int):=by rw [← hi,ay hk (hP1 k hp)]
   rw [e1]
   repeat' (first|apply Ae.AB|apply Ae.Aq|apply Ae.Ai|apply AO.ret|apply AL.ret|apply Az.ret|apply Ae.ret|apply Ag.nil|apply Ag.one|(apply Aa.assign;rfl)|(apply Aa.move;rfl)|(apply Aa.int;rfl;rfl;rfl)|(apply Aa.AV;rfl;rfl;rfl;omega;rfl)|(apply Aa.load;rfl;rfl)|(apply Ae.Af;rfl)|(apply Ae.AZ;rfl)|(intro _;try (exfalso;omega)))
   all_goals first|(exfalso;omega)|contradiction|(refine Done.ret rfl (.refl _) (by first|exact trivial|exact ⟨trivial,trivial,trivial⟩|exact ⟨trivial,trivial,trivial,trivial⟩) Aj.nil (Nat.zero_le _) (Nat.le_refl _) ⟨?_,rfl,rfl⟩;try rfl)
  ·repeat' (first|apply Ae.AB|apply Ae.region|apply Ae.Aq|apply Ae.Ai|apply AO.normal|apply AL.normal|apply Ae.skip|apply Ag.nil|apply Ag.one|(apply Aa.assign;rfl)|(apply Aa.move;rfl)|(apply Aa.Bv;rfl;rfl;omega)|(apply Aa.int;rfl;rfl;rfl)|(apply Aa.AV;rfl;rfl;rfl;omega;rfl)|(apply Aa.load;rfl;rfl)|(apply Ae.Af;rfl)|(apply Ae.AZ;rfl)|(intro _;try (exfalso;omega)))
   all_goals try (exfalso;omega)
   all_goals try contradiction
   refine Az.normal ⟨((Xx hk (hP2 k hp)).symm.trans hi),by first|omega|decide,?_,?_⟩
   ·repeat (first|exact Ad.nil|refine Ad.same trivial rfl ?_|refine Ad.same (Ac rfl) rfl ?_|refine Ad.same ⟨trivial,Ac rfl,trivial⟩ rfl ?_|refine Ad.same ⟨trivial,Ac rfl,Ac rfl,trivial⟩ rfl ?_|refine Ad.same ⟨trivial,Ac rfl,Ac rfl,Ac rfl,trivial⟩ rfl ?_|refine Ad.same ⟨trivial,Ac rfl,Ac rfl,Ac rfl,Ac rfl,trivial⟩ rfl ?_|refine Ad.same ⟨trivial,trivial⟩ rfl ?_|refine Ad.cons trivial rfl (.of_eq (Au (by simp<;>omega))) ?_)
   ·repeat (first|exact Aj.nil|(refine Aj.cons (Ac rfl) ?_ rfl ?_ ?_;(first|exact HB.Ak rfl|exact AP.Ah _ _|(simp [HB.under,AP.under,PV.under]));(first|exact Bh.refl _|exact Bh.vec (Bf.refl _) (by simp))))
 ·intro hi
  have e1:Fg P l.length=-1:=by rw [← hi,Nat.sub_self];rfl
  rw [e1]
  repeat' (first|apply Ae.AB|apply Ae.AY|apply AO.normal|apply AL.exit|apply Az.exit|apply Ae.ret|apply Ag.nil|apply Ag.one|(apply Aa.assign;rfl)|(apply Aa.int;rfl;rfl;rfl)|(apply Ae.Af;rfl)|(intro _;try (exfalso;omega)))
  all_goals first|(exfalso;omega)|(refine Done.ret rfl (.refl _) (by first|exact trivial|exact ⟨trivial,trivial,trivial⟩|exact ⟨trivial,trivial,trivial,trivial⟩) Aj.nil (Nat.zero_le _) (Nat.le_refl _) ⟨?_,rfl,rfl⟩;try rfl)
theorem qO (l:List Int) (n:Int):0≤Fg (fun k=>decide (gi l k=n)) l.length↔n∈l:=by
 constructor
 ·intro h
  have h:0≤WY (fun k=>decide (gi l k=n)) l.length l.length:=h
  have h1:=fC l.length (Nat.le_refl _) h
  have h2:=(Rl (fun k=>decide (gi l k=n)) l.length l.length (Nat.le_refl _)).2
  have h3:=of_decide_eq_true h1
  rw [← h3]
  exact TL (by omega)
 ·intro h
  obtain ⟨k,hk,e⟩:=uT h
  exact dL (P:=fun k=>decide (gi l k=n)) (decide_eq_true e) l.length (Nat.le_refl _) (by omega) hk
theorem Sl (e:TypeId) (l:List Int) (n:Int) (hl:l.length<1000000):AX env 62 [.lst e (cells l) l.length,.int .i64 n] (.p (.bool (decide (n∈l)))):=by
 have hi:=XV e l n hl
 have hm:=qO l n
 have hr:=Rl (fun k=>decide (gi l k=n)) l.length l.length (Nat.le_refl _)
 rw [show WY (fun k=>decide (gi l k=n)) l.length l.length=Fg (fun k=>decide (gi l k=n)) l.length from rfl] at hr
 generalize Fg (fun k=>decide (gi l k=n)) l.length=f at *
 by_cases h:n∈l
 ·rw [decide_eq_true h]
  have h0:=hm.2 h
  refine AX.enter (AA (by decide)) Tryz.func62 rfl (by kernel_rfl) (by simp [Tryz.ntmps62]) ?_
  repeat' (first|apply Ae.AB|apply Ae.ret|apply Ag.nil|apply Ag.one|(apply Aa.fn;rfl;rfl;exact hi;intro _;rfl)|(apply Aa.assign;rfl)|(apply Aa.move;rfl)|(apply Aa.int;rfl;rfl;rfl))
  all_goals first|(exfalso;omega)|(refine Done.ret rfl (.refl _) (by first|exact trivial|exact ⟨trivial,trivial,trivial⟩|exact ⟨trivial,trivial,trivial,trivial⟩) Aj.nil (Nat.zero_le _) (Nat.le_refl _) ⟨?_,rfl,rfl⟩;refine PV.KI ?_;simp;omega)
 ·rw [decide_eq_false h]
  have h0:¬ 0≤f:=fun h'=>h (hm.1 h')
  refine AX.enter (AA (by decide)) Tryz.func62 rfl (by kernel_rfl) (by simp [Tryz.ntmps62]) ?_
  repeat' (first|apply Ae.AB|apply Ae.ret|apply Ag.nil|apply Ag.one|(apply Aa.fn;rfl;rfl;exact hi;intro _;rfl)|(apply Aa.assign;rfl)|(apply Aa.move;rfl)|(apply Aa.int;rfl;rfl;rfl))
  all_goals first|(exfalso;omega)|(refine Done.ret rfl (.refl _) (by first|exact trivial|exact ⟨trivial,trivial,trivial⟩|exact ⟨trivial,trivial,trivial,trivial⟩) Aj.nil (Nat.zero_le _) (Nat.le_refl _) ⟨?_,rfl,rfl⟩;refine PV.KI ?_;simp;omega)
theorem qX (d y:VL):H7 env 65 ([.p (.agg (Enc.enc y))]++[.ref 0 0]) [(0,.box 97 ((Enc.enc d).map .p))] 1 (.bool (decide (y.name=d.name))):=by
 obtain ⟨b,hb⟩:∃ b,decide (y.name=d.name)=b:=⟨_,rfl⟩
 rw [hb]
 refine H7.enter (AA (by decide)) Tryz.func65 rfl (by kernel_rfl) (by simp [Tryz.ntmps65]) ?_
 repeat' (first|apply Ae.AB|apply Ae.ret|apply Ag.nil|apply Ag.one|(apply Aa.aQ;rfl;rfl;exact hb)|(apply Aa.assign;rfl)|(apply Aa.load;rfl;rfl)|(apply Aa.AU;rfl;rfl;rfl)|(apply Aa.box;rfl;trivial))
 all_goals first|(exfalso;omega)|contradiction|(refine Done.ret rfl (.refl _) trivial ?_ (by omega) (Nat.le_refl _) ⟨?_,rfl,rfl⟩;repeat (first|exact Aj.nil|(refine Aj.cons (Ac rfl) ?_ rfl ?_ ?_;(first|exact HB.Ak rfl|exact AP.Ah _ _|(simp [HB.under,AP.under,PV.under]));(first|exact Bh.refl _|exact Bh.vec (Bf.refl _) (by simp))));try rfl)
theorem a4w (l:List VL) (d:VL) (hl:l.length<1000000) :
 H7 env 64 [.p (.lst 97 (cells l) l.length),.clo 65 [] [.ref 0 0]] [(0,.box 97 ((Enc.enc d).map .p))] 1
  (.int .i64 (Fg (fun k=>decide ((gi l k).name=d.name)) l.length)):=by
 obtain ⟨P,hP⟩:∃ P:Nat→Bool,P=fun k=>decide ((gi l k).name=d.name):=⟨_,rfl⟩
 have hM:∀ k,H7 env 65 ([.p (.agg (Enc.enc (gi l k)))]++[.ref 0 0]) [(0,.box 97 ((Enc.enc d).map .p))] 1 (.bool (P k)):=fun k=>by rw [hP];exact qX d (gi l k)
 rw [← hP]
 clear hP
 refine H7.enter (AA (by decide)) Tryz.func64 rfl (by kernel_rfl) (by simp [Tryz.ntmps64]) ?_
 repeat' (first|apply Ae.assoc|apply Ae.AB|apply Ae.Ai|apply Ag.nil|apply Ag.one|(apply Aa.assign;rfl)|(apply Aa.move;rfl)|(apply Aa.BN;rfl;rfl))
 all_goals try (exfalso;omega)
 apply Ae.F6 (l.length) (fun k=>WY P l.length (l.length-k)=Fg P l.length) [(0,_),(1,_),(7,_)] [(0,_)] (fun k r=>(8,.p (.int .i64 (k:Int)))::r) (fun k r=>r) 1
 ·first|omega|decide
 ·first|omega|decide
 ·repeat (first|exact Ad.nil|(refine Ad.eq rfl ?_ ?_;(first|exact PV.Ak rfl|(simp [PV.under,AP.under];done)))|refine Ad.cons trivial rfl (.of_eq (Au (by simp<;>omega))) ?_)
 ·repeat (first|exact Aj.nil|(refine Aj.eq rfl (Ac rfl) ?_ ?_;(first|exact HB.Ak rfl|exact AP.Ah _ _|(simp [HB.under,AP.under,PV.under];done)))|(refine Aj.cons (Ac rfl) ?_ rfl ?_ ?_;(first|exact trivial|exact AP.Ah _ _|(simp [HB.under,AP.under,PV.under]));(first|exact Bh.refl _|exact Bh.vec (Bf.refl _) (by simp))))
 ·first|(intro _ _;omega)|omega|trivial
 ·intro k hk hi
  have hC:=hM k
  by_cases hp:P k=true
  ·rw [hp] at hC
   have e1:Fg P l.length=(k:Int):=by rw [← hi,ay hk hp]
   rw [e1]
   repeat' (first|apply Ae.AB|apply Ae.Aq|apply Ae.Ai|apply AO.ret|apply AL.ret|apply Az.ret|apply Ae.ret|apply Ag.nil|apply Ag.one|(apply Aa.read [0] hC;rfl;rfl;exact .of_eq rfl;exact AP.Ak rfl;exact Dv rfl;(repeat (first|exact trivial|refine ⟨⟨_,rfl,.of_eq rfl⟩,?_⟩));decide;(intro _ hb;simp at hb<;>omega);rfl)|(apply Aa.assign;rfl)|(apply Aa.move;rfl)|(apply Aa.int;rfl;rfl;rfl)|(apply Aa.AV;rfl;rfl;rfl;omega;rfl)|(apply Aa.load;rfl;rfl)|(apply Ae.Af;rfl)|(apply Ae.cond_true;rfl)|(intro _;try (exfalso;omega)))
   all_goals first|(exfalso;omega)|contradiction|(refine Done.ret rfl (.refl _) trivial ?_ (by omega) (Nat.le_refl _) ⟨?_,rfl,rfl⟩;repeat (first|exact Aj.nil|(refine Aj.cons (Ac rfl) ?_ rfl ?_ ?_;(first|exact HB.Ak rfl|exact AP.Ah _ _|(simp [HB.under,AP.under,PV.under]));(first|exact Bh.refl _|exact Bh.vec (Bf.refl _) (by simp))));try rfl)
  ·have hp':P k=false:=by simpa using hp
   rw [hp'] at hC
   repeat' (first|apply Ae.AB|apply Ae.region|apply Ae.Aq|apply Ae.Ai|apply AO.normal|apply AL.normal|apply Ae.skip|apply Ag.nil|apply Ag.one|(apply Aa.read [0] hC;rfl;rfl;exact .of_eq rfl;exact AP.Ak rfl;exact Dv rfl;(repeat (first|exact trivial|refine ⟨⟨_,rfl,.of_eq rfl⟩,?_⟩));decide;(intro _ hb;simp at hb<;>omega);rfl)|(apply Aa.assign;rfl)|(apply Aa.move;rfl)|(apply Aa.Bv;rfl;rfl;omega)|(apply Aa.int;rfl;rfl;rfl)|(apply Aa.AV;rfl;rfl;rfl;omega;rfl)|(apply Aa.load;rfl;rfl)|(apply Ae.Af;rfl)|(apply Ae.cond_false;rfl)|(intro _;try (exfalso;omega)))
   all_goals try (exfalso;omega)
   all_goals try contradiction
   refine Az.normal ⟨((Xx hk hp').symm.trans hi),by first|omega|decide,?_,?_⟩
   ·repeat (first|exact Ad.nil|refine Ad.same trivial rfl ?_|refine Ad.same (Ac rfl) rfl ?_|refine Ad.same ⟨trivial,Ac rfl,trivial⟩ rfl ?_|refine Ad.same ⟨trivial,Ac rfl,Ac rfl,trivial⟩ rfl ?_|refine Ad.same ⟨trivial,Ac rfl,Ac rfl,Ac rfl,trivial⟩ rfl ?_|refine Ad.same ⟨trivial,Ac rfl,Ac rfl,Ac rfl,Ac rfl,trivial⟩ rfl ?_|refine Ad.same ⟨trivial,trivial⟩ rfl ?_|refine Ad.cons trivial rfl (.of_eq (Au (by simp<;>omega))) ?_)
   ·repeat (first|exact Aj.nil|(refine Aj.cons (Ac rfl) ?_ rfl ?_ ?_;(first|exact HB.Ak rfl|exact AP.Ah _ _|(simp [HB.under,AP.under,PV.under]));(first|exact Bh.refl _|exact Bh.vec (Bf.refl _) (by simp))))
 ·intro hi
  have e1:Fg P l.length=-1:=by rw [← hi,Nat.sub_self];rfl
  rw [e1]
  repeat' (first|apply Ae.AB|apply Ae.AY|apply AO.normal|apply AL.exit|apply Az.exit|apply Ae.ret|apply Ag.nil|apply Ag.one|(apply Aa.assign;rfl)|(apply Aa.int;rfl;rfl;rfl)|(apply Ae.Af;rfl)|(intro _;try (exfalso;omega)))
  all_goals first|(exfalso;omega)|(refine Done.ret rfl (.refl _) trivial ?_ (by omega) (Nat.le_refl _) ⟨?_,rfl,rfl⟩;repeat (first|exact Aj.nil|(refine Aj.cons (Ac rfl) ?_ rfl ?_ ?_;(first|exact HB.Ak rfl|exact AP.Ah _ _|(simp [HB.under,AP.under,PV.under]));(first|exact Bh.refl _|exact Bh.vec (Bf.refl _) (by simp))));try rfl)
end Go.Proofs.YtdabojnmoejilaaGreatDoor
