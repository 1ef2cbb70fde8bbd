/-
  Texts of a proof, merged (HunD, TraB, TraC, TraD, TraK, HunE, TraL, TraM, CkA, OrR, OrRa, OrRb, OrRc, OrS, RkQ). Conditions: in each statement.
-/
import Derived.Test.YtdabojnmoejilaaGreatDoorKKe
set_option linter.unusedSimpArgs false
set_option linter.unusedVariables false
set_option linter.unusedSectionVars false
set_option maxRecDepth 100000
set_option maxHeartbeats 8000000
namespace Go.Hun
open Go.Vm
def DR (f:Nat→Int):Nat→Int
 |0=>0
 |k+1=>DR f k+f k
theorem EU {f g:Nat→Int}:∀ {n:Nat},(∀ k,k<n→f k=g k)→DR f n=DR g n
 |0,_=>rfl
 |n+1,h=>by simp only [DR];rw [EU fun k hk=>h k (by omega),h n (by omega)]
theorem OD {f g:Nat→Int}:∀ {n:Nat},(∀ k,k<n→f k≤g k)→DR f n≤DR g n
 |0,_=>Int.le_refl _
 |n+1,h=>by
  simp only [DR]
  have:=OD (f:=f) (g:=g) (n:=n) fun k hk=>h k (by omega)
  have:=h n (by omega)
  omega
theorem VL (f g:Nat→Int):∀ n,DR (fun k=>f k+g k) n=DR f n+DR g n
 |0=>rfl
 |n+1=>by simp only [DR];rw [VL f g n];omega
theorem YH {f:Nat→Int}:∀ {n:Nat},(∀ k,k<n→f k=0)→DR f n=0
 |0,_=>rfl
 |n+1,h=>by simp only [DR];rw [YH fun k hk=>h k (by omega),h n (by omega)];rfl
theorem L9 (c:Int):∀ n:Nat,DR (fun _=>c) n=n*c
 |0=>by simp [DR]
 |n+1=>by
  simp only [DR];rw [L9 c n]
  push_cast
  rw [Int.add_mul,Int.one_mul]
theorem iR {f:Nat→Int} {a b:Int}:∀ {n:Nat},(∀ k,k<n→a≤f k∧f k≤b)→n*a≤DR f n∧DR f n≤n*b:=fun {n} h=>by
 have h1:=OD (f:=fun _=>a) (g:=f) (n:=n) fun k hk=>(h k hk).1
 have h2:=OD (f:=f) (g:=fun _=>b) (n:=n) fun k hk=>(h k hk).2
 rw [L9] at h1 h2
 exact ⟨h1,h2⟩
theorem Si {f:Nat→Int} {j:Nat}:∀ {n:Nat},j<n→DR f n=f j+DR (fun k=>if k=j then 0 else f k) n
 |n+1,h=>by
  simp only [DR]
  by_cases e:j=n
  ·subst e
   rw [if_pos rfl,EU (f:=fun k=>if k=j then 0 else f k) (g:=f) fun k hk=>if_neg (by omega)]
   omega
  ·rw [if_neg (fun x=>e x.symm),Si (f:=f) (j:=j) (n:=n) (by omega)]
   omega
theorem Zc:∀ (n m:Nat) (κ:Nat→Nat) (f:Nat→Int),(∀ r,r<n→κ r<m)→(∀ r q,r<n→q<n→κ r=κ q→r=q)→(∀ k,k<m→(∀ r,r<n→κ r≠k)→f k=0)→DR f m=DR (fun r=>f (κ r)) n
 |0,m,κ,f,h1,h2,h3=>YH fun k hk=>h3 k hk fun r hr=>by omega
 |n+1,m,κ,f,h1,h2,h3=>by
  rw [Si (h1 n (by omega))]
  have ih:=Zc n m κ (fun k=>if k=κ n then 0 else f k) (fun r hr=>h1 r (by omega)) (fun r q hr hq=>h2 r q (by omega) (by omega)) fun k hk hn=>by
   by_cases e:k=κ n
   ·simp only [if_pos e]
   ·simp only [if_neg e]
    refine h3 k hk fun r hr=>?_
    rcases Nat.lt_or_ge r n with h|h
    ·exact hn r h
    ·obtain rfl:r=n:=by omega
     exact fun x=>e x.symm
  rw [ih]
  simp only [DR]
  rw [EU (n:=n) (f:=fun r=>if κ r=κ n then 0 else f (κ r)) (g:=fun r=>f (κ r)) fun r hr=>if_neg fun e=>by have:=h2 r n (by omega) (by omega) e;omega]
  omega
theorem Vo:∀ (n m:Nat) (κ:Nat→Nat) (f:Nat→Int),(∀ r q,r<n→q<n→κ r<m→κ r=κ q→r=q)→(∀ k,k<m→f k≤0)→DR f m≤DR (fun r=>if κ r<m then f (κ r) else 0) n
 |0,m,κ,f,h2,h3=>by
  have:=OD (f:=f) (g:=fun _=>0) (n:=m) h3
  rw [L9] at this
  simp only [DR];omega
 |n+1,m,κ,f,h2,h3=>by
  simp only [DR]
  by_cases hk:κ n<m
  ·rw [if_pos hk,Si hk]
   have ih:=Vo n m κ (fun k=>if k=κ n then 0 else f k) (fun r q hr hq=>h2 r q (by omega) (by omega)) fun k hk=>by
    by_cases e:k=κ n
    ·simp only [if_pos e];omega
    ·simp only [if_neg e];exact h3 k hk
   have e2:DR (fun r=>if κ r<m then (if κ r=κ n then 0 else f (κ r)) else 0) n=DR (fun r=>if κ r<m then f (κ r) else 0) n:=EU fun r hr=>by
    by_cases h:κ r<m
    ·rw [if_pos h,if_pos h,if_neg fun e=>by have:=h2 r n (by omega) (by omega) h e;omega]
    ·rw [if_neg h,if_neg h]
   rw [e2] at ih
   omega
  ·rw [if_neg hk]
   have ih:=Vo n m κ f (fun r q hr hq=>h2 r q (by omega) (by omega)) h3
   omega
section
variable {costs:List (List Int)} {n m:Nat} {B:Int}
structure a6t (costs:List (List Int)) (n:Nat) (o:List Ix) (j:Nat) (x:Out):Prop where
 len:x.cols.length=n
 cols:∀ k,1≤k→k≤j→0<own o k→gi x.cols (own o k-1)=(k:Int)-1
 total:x.total=DR (fun k=>if 0<own o (k+1) then cst costs (own o (k+1)) (k+1) else 0) j
theorem WE {s:jW} (h:qH costs n m n s):∀ j,j≤m→a6t costs n s.owner j (KW costs s.owner n j)
 |0,_=>⟨by simp [KW],fun k k1 k2=>by omega,rfl⟩
 |j+1,hj=>by
  obtain ⟨i1,i2,i3⟩:=WE h j (by omega)
  have e:KW costs s.owner n (j+1)=oN costs s.owner (KW costs s.owner n j) (j+1):=rfl
  rw [e]
  generalize KW costs s.owner n j=x at *
  unfold oN
  have e2:(gi s.owner (j+1)).n=own s.owner (j+1):=rfl
  simp only [e2]
  by_cases hp:0<own s.owner (j+1)
  ·rw [if_pos hp]
   have hle:=h.own (j+1) (by omega) hj
   refine ⟨by simp [i1],fun k k1 k2 k3=>?_,?_⟩
   ·show gi (x.cols.set (own s.owner (j+1)-1) (((j+1:Nat):Int)-1)) _=_
    rw [gs (by omega)]
    by_cases e:k=j+1
    ·subst e;rw [if_pos rfl]
    ·rw [if_neg,i2 k k1 (by omega) k3]
     intro e3
     have:=h.inj k (j+1) k1 (by omega) (by omega) hj (by omega) (by omega)
     omega
   ·simp only [DR]
    rw [if_pos hp,i3]
    unfold cst
    rfl
  ·rw [if_neg hp]
   refine ⟨i1,fun k k1 k2 k3=>?_,?_⟩
   ·by_cases e:k=j+1
    ·subst e;exact absurd k3 hp
    ·exact i2 k k1 (by omega) k3
   ·simp only [DR]
    rw [if_neg hp,i3];omega
def Gx (costs:List (List Int)) (n m:Nat):Out:=KW costs (Dk costs n m n).owner n m
def Kv (costs:List (List Int)) (n m:Nat):List Int:=(Dk costs n m n).u.drop 1
def G5 (costs:List (List Int)) (n m:Nat):List Int:=(Dk costs n m n).v.drop 1
theorem lH {α:Type} [Inhabited α] (l:List α) (j k:Nat):gi (l.drop j) k=gi l (j+k):=by
 unfold gi;rw [List.getElem?_drop]
structure a1g (c:Nat→Nat→Int) (n m:Nat) (B:Int) (x:Out) (U V:List Int):Prop where
 len:x.cols.length=n
 lU:U.length=n
 lV:V.length=m
 col:∀ r,r<n→0≤gi x.cols r∧gi x.cols r<m
 inj:∀ r q,r<n→q<n→gi x.cols r=gi x.cols q→r=q
 total:x.total=DR (fun r=>c r (gi x.cols r).toNat) n
 WQ:∀ r k,r<n→k<m→gi U r+gi V k≤c r k
 neg:∀ k,k<m→-B≤gi V k∧gi V k≤0
 pos:∀ r,r<n→0≤gi U r∧gi U r≤B
 a2w:x.total=DR (fun r=>gi U r) n+DR (fun k=>gi V k) m
 free:∀ k,k<m→(∀ r,r<n→gi x.cols r≠k)→gi V k=0
theorem WZ (hc:Iz costs n m B):a1g (fun r k=>gi (gi costs r) k) n m B (Gx costs n m) (Kv costs n m) (G5 costs n m):=by
 have h:=Oi hc n (Nat.le_refl _)
 have hO:=WE h m (Nat.le_refl _)
 have e1:KW costs (Dk costs n m n).owner n m=Gx costs n m:=rfl
 have e2:(Dk costs n m n).u.drop 1=Kv costs n m:=rfl
 have e3:(Dk costs n m n).v.drop 1=G5 costs n m:=rfl
 rw [e1] at hO
 have hu:∀ r,gi (Kv costs n m) r=gi (Dk costs n m n).u (r+1):=fun r=>by rw [← e2,lH,Nat.add_comm]
 have hv:∀ k,gi (G5 costs n m) k=gi (Dk costs n m n).v (k+1):=fun k=>by rw [← e3,lH,Nat.add_comm]
 have lU:(Kv costs n m).length=n:=by rw [← e2,List.length_drop,h.lu];omega
 have lV:(G5 costs n m).length=m:=by rw [← e3,List.length_drop,h.lv];omega
 generalize Kv costs n m=U at *
 generalize G5 costs n m=V at *
 generalize Gx costs n m=x at *
 generalize Dk costs n m n=s at *
 have hb:=hc.big
 have hnm:=hc.nm
 have Xy:∀ r,r<n→∃ k,1≤k∧k≤m∧own s.owner k=r+1∧gi x.cols r=(k:Int)-1:=fun r hr=>by
  obtain ⟨k,k1,k2,k3⟩:=h.all (r+1) (by omega) (by omega)
  have:=hO.cols k k1 k2 (by omega)
  rw [k3,Nat.add_sub_cancel] at this
  exact ⟨k,k1,k2,k3,this⟩
 have hown:∀ r,r<n→own s.owner ((gi x.cols r).toNat+1)=r+1∧(gi x.cols r).toNat<m:=fun r hr=>by
  obtain ⟨k,k1,k2,k3,k4⟩:=Xy r hr
  have:(gi x.cols r).toNat+1=k:=by omega
  rw [this];exact ⟨k3,by omega⟩
 have hinj:∀ r q,r<n→q<n→(gi x.cols r).toNat=(gi x.cols q).toNat→r=q:=fun r q hr hq e=>by
  have h1:=(hown r hr).1
  have h2:=(hown q hq).1
  rw [e] at h1;omega
 have hfree:∀ k,k<m→(∀ r,r<n→(gi x.cols r).toNat≠k)→own s.owner (k+1)=0:=fun k hk hn=>by
  rcases Nat.eq_zero_or_pos (own s.owner (k+1)) with e|e
  ·exact e
  ·have hle:=h.own (k+1) (by omega) (by omega)
   have:=hO.cols (k+1) (by omega) (by omega) e
   exact absurd (by omega) (hn (own s.owner (k+1)-1) (by omega))
 have ht:x.total=DR (fun r=>gi (gi costs r) (gi x.cols r).toNat) n:=by
  rw [hO.total,Zc n m (fun r=>(gi x.cols r).toNat) _ (fun r hr=>(hown r hr).2) hinj fun k hk hn=>by
   rw [if_neg (by rw [hfree k hk hn];omega)]]
  refine EU fun r hr=>?_
  rw [(hown r hr).1,if_pos (by omega)]
  unfold cst
  rw [Nat.add_sub_cancel,Nat.add_sub_cancel]
 have hfe:∀ r k,r<n→k<m→gi U r+gi V k≤gi (gi costs r) k:=fun r k hr hk=>by
  rw [hu,hv]
  have:=h.WQ (r+1) (k+1) (by omega) (by omega) (by omega) (by omega)
  unfold cst at this
  rwa [Nat.add_sub_cancel,Nat.add_sub_cancel] at this
 have hng:∀ k,k<m→gi V k≤0:=fun k hk=>by rw [hv];exact h.aA (k+1) (by omega) (by omega)
 have hps:∀ r,r<n→0≤gi U r:=fun r hr=>by rw [hu];exact h.UG (r+1) (by omega) (by omega)
 have hf:∃ k,k<m∧own s.owner (k+1)=0:=by
  refine Classical.byContradiction fun hn=>?_
  have hn:∀ k,k<m→own s.owner (k+1)≠0:=fun k h1 h3=>hn ⟨k,h1,h3⟩
  have:=V3 n m (fun k=>own s.owner (k+1)-1) (fun k hk=>by
   have h1:=hn k hk
   have h2:=h.own (k+1) (by omega) (by omega)
   show own s.owner (k+1)-1<n
   omega) (fun k e hk he hf=>by
   have h1:=hn k hk
   have h2:=hn e he
   have hf:own s.owner (k+1)-1=own s.owner (e+1)-1:=hf
   have:=h.inj (k+1) (e+1) (by omega) (by omega) (by omega) (by omega) (by omega) h1
   omega)
  omega
 obtain ⟨f,f1,f2⟩:=hf
 have fv:gi V f=0:=by rw [hv];exact h.Pj (f+1) (by omega) (by omega) f2
 have hub:∀ r,r<n→gi U r≤B:=fun r hr=>by
  have h1:=hfe r f hr f1
  have h2:=hc.hi (r+1) (f+1)
  unfold cst at h2
  rw [Nat.add_sub_cancel,Nat.add_sub_cancel] at h2
  omega
 have a2u:∀ r,r<n→gi U r+gi V (gi x.cols r).toNat=gi (gi costs r) (gi x.cols r).toNat:=fun r hr=>by
  obtain ⟨h1,h2⟩:=hown r hr
  have:=h.tight ((gi x.cols r).toNat+1) (by omega) (by omega) (by omega)
  rw [h1] at this
  rw [hu,hv]
  unfold cst at this
  rwa [Nat.add_sub_cancel,Nat.add_sub_cancel] at this
 have hV0:∀ k,k<m→(∀ r,r<n→(gi x.cols r).toNat≠k)→gi V k=0:=fun k hk hn=>by
  rw [hv];exact h.Pj (k+1) (by omega) (by omega) (hfree k hk hn)
 refine ⟨hO.len,lU,lV,fun r hr=>?_,fun r q hr hq e=>hinj r q hr hq (by rw [e]),ht,hfe,fun k hk=>⟨?_,hng k hk⟩,fun r hr=>⟨hps r hr,hub r hr⟩,?_,fun k hk hn=>hV0 k hk fun r hr e=>hn r hr (by obtain ⟨j,j1,j2,j3,j4⟩:=Xy r hr;omega)⟩
 ·obtain ⟨k,k1,k2,k3,k4⟩:=Xy r hr
  omega
 ·by_cases e:own s.owner (k+1)=0
  ·rw [hv,h.Pj (k+1) (by omega) (by omega) e];omega
  ·have hle:=h.own (k+1) (by omega) (by omega)
   have h1:=h.tight (k+1) (by omega) (by omega) e
   have h2:=hub (own s.owner (k+1)-1) (by omega)
   rw [hu] at h2
   have h3:own s.owner (k+1)-1+1=own s.owner (k+1):=by omega
   rw [h3] at h2
   have h4:=hc.lo (own s.owner (k+1)) (k+1)
   rw [hv];omega
 ·rw [ht,EU (fun r hr=>(a2u r hr).symm),VL]
  congr 1
  rw [Zc n m (fun r=>(gi x.cols r).toNat) (fun k=>gi V k) (fun r hr=>(hown r hr).2) hinj hV0]
end
def fK (l:List (List Int)) (skip:Int) (cols:Nat→Int) (r:Nat):Int:=if cols r<0 then skip else gi (gi l r) (cols r).toNat
structure lM (n m:Nat) (cols:Nat→Int):Prop where
 rng:∀ r,r<n→-1≤cols r∧cols r<m
 inj:∀ r q,r<n→q<n→0≤cols r→cols r=cols q→r=q
structure a1m (l:List (List Int)) (n m:Nat) (skip:Int) (U V:Nat→Int):Prop where
 WQ:∀ r k,r<n→k<m→U r+V k≤gi (gi l r) k
 skip:∀ r,r<n→U r≤skip
 neg:∀ k,k<m→V k≤0
theorem weak {l:List (List Int)} {n m:Nat} {skip:Int} {U V:Nat→Int} {cols:Nat→Int} (hp:a1m l n m skip U V) (hc:lM n m cols):DR U n+DR V m≤DR (fK l skip cols) n:=by
 have h1:=Vo n m (fun r=>if cols r<0 then m else (cols r).toNat) V (fun r q hr hq h e=>by
  by_cases a:cols r<0
  ·rw [if_pos a] at h;omega
  ·rw [if_neg a] at h e
   by_cases b:cols q<0
   ·rw [if_pos b] at e;omega
   ·rw [if_neg b] at e
    exact hc.inj r q hr hq (by omega) (by omega)) hp.neg
 have h2:=OD (n:=n) (f:=fun r=>U r+(if (if cols r<0 then m else (cols r).toNat)<m then V (if cols r<0 then m else (cols r).toNat) else 0)) (g:=fK l skip cols) fun r hr=>by
  unfold fK
  have hr1:=hc.rng r hr
  by_cases a:cols r<0
  ·simp only [if_pos a]
   rw [if_neg (by omega)]
   have:=hp.skip r hr
   omega
  ·simp only [if_neg a]
   rw [if_pos (by omega)]
   exact hp.WQ r _ hr (by omega)
 rw [VL] at h2
 omega
def DL (l:List (List Int)) (skip:Int) (n:Nat):List (List Int):=l.map fun row=>row++List.replicate (n+1) skip
theorem gi_map' {α β:Type} [Inhabited α] [Inhabited β] (f:α→β) {l:List α} {i:Nat} (h:i<l.length):gi (l.map f) i=f (gi l i):=by
 unfold gi;simp [List.getElem?_map,List.getElem?_eq_getElem h]
structure yS (l:List (List Int)) (n m:Nat) (skip B:Int):Prop where
 len:l.length=n
 row:∀ r,r<n→(gi l r).length=m
 rng:∀ r k,r<n→k<m→0≤gi (gi l r) k∧gi (gi l r) k≤B
 skip:0≤skip∧skip≤B
 big:B≤1000000000000
theorem Vg {l:List (List Int)} {n m:Nat} {skip B:Int} (h:yS l n m skip B) {r k:Nat} (hr:r<n):gi (gi (DL l skip n) r) k=if k<m then gi (gi l r) k else if k<m+(n+1) then skip else 0:=by
 unfold DL
 rw [gi_map' _ (by rw [h.len];exact hr)]
 have:=h.row r hr
 unfold gi at this ⊢
 rw [List.getElem?_append]
 by_cases h1:k<m
 ·rw [if_pos (by omega),if_pos h1]
 ·rw [if_neg (by omega),if_neg h1,List.getElem?_replicate]
  by_cases h2:k<m+(n+1)
  ·rw [if_pos (by omega),if_pos h2];rfl
  ·rw [if_neg (by omega),if_neg h2];rfl
theorem XJ {l:List (List Int)} {n m:Nat} {skip B:Int} (h:yS l n m skip B):Iz (DL l skip n) n (m+(n+1)) B:=by
 have h0:=h.skip
 have hb:0≤B:=by omega
 have:∀ r k,0≤gi (gi (DL l skip n) r) k∧gi (gi (DL l skip n) r) k≤B:=fun r k=>by
  rcases Nat.lt_or_ge r n with h1|h1
  ·rw [Vg h h1]
   split
   ·rename_i h2;exact h.rng r k h1 h2
   ·split
    ·exact h0
    ·omega
  ·have e:gi (DL l skip n) r=default:=by
    unfold gi DL
    rw [List.getElem?_eq_none (by rw [List.length_map,h.len];omega)];rfl
   rw [e]
   have:gi (default:List Int) k=0:=by
    show ((([]:List Int)[k]?).getD 0)=0
    simp
   rw [this];omega
 exact ⟨fun r k=>(this _ _).1,fun r k=>(this _ _).2,⟨hb,h.big⟩,by omega⟩
def KZ (m:Nat) (c:Int):Int:=if (m:Int)≤c then -1 else c
def wV (l:List (List Int)) (n m:Nat) (skip:Int):List Int:=(Gx (DL l skip n) n (m+(n+1))).cols.map (KZ m)
def jd (l:List (List Int)) (n m:Nat) (skip:Int):Int:=(Gx (DL l skip n) n (m+(n+1))).total
def wH (l:List (List Int)) (n m:Nat) (skip:Int):List Int:=Kv (DL l skip n) n (m+(n+1))
def tV (l:List (List Int)) (n m:Nat) (skip:Int):List Int:=(G5 (DL l skip n) n (m+(n+1))).take m
structure a8a (l:List (List Int)) (n m:Nat) (skip B:Int) (cols U V:List Int) (total:Int):Prop where
 lC:cols.length=n
 lU:U.length=n
 lV:V.length=m
 part:lM n m (fun r=>gi cols r)
 tot:total=DR (fK l skip fun r=>gi cols r) n
 pot:a1m l n m skip (fun r=>gi U r) (fun k=>gi V k)
 a2w:total=DR (fun r=>gi U r) n+DR (fun k=>gi V k) m
 a7r:∀ r,r<n→0≤gi U r∧gi U r≤B
 a4a:∀ k,k<m→-B≤gi V k∧gi V k≤0
theorem gi_take' {α:Type} [Inhabited α] (l:List α) {j k:Nat} (h:k<j):gi (l.take j) k=gi l k:=by
 unfold gi;rw [List.getElem?_take,if_pos h]
theorem PY (f:Nat→Int) (m:Nat):∀ n,DR f (m+n)=DR f m+DR (fun k=>f (m+k)) n
 |0=>by simp [DR]
 |n+1=>by
  rw [← Nat.add_assoc]
  simp only [DR]
  rw [PY f m n];omega
theorem wQ {l:List (List Int)} {n m:Nat} {skip B:Int} (h:yS l n m skip B):a8a l n m skip B (wV l n m skip) (wH l n m skip) (tV l n m skip) (jd l n m skip):=by
 have hs:=WZ (XJ h)
 have eC:wV l n m skip=(Gx (DL l skip n) n (m+(n+1))).cols.map (KZ m):=rfl
 have eT:jd l n m skip=(Gx (DL l skip n) n (m+(n+1))).total:=rfl
 have eU:wH l n m skip=Kv (DL l skip n) n (m+(n+1)):=rfl
 have eV:tV l n m skip=(G5 (DL l skip n) n (m+(n+1))).take m:=rfl
 rw [eC,eT,eU,eV]
 generalize Gx (DL l skip n) n (m+(n+1))=x at *
 generalize Kv (DL l skip n) n (m+(n+1))=U at *
 generalize G5 (DL l skip n) n (m+(n+1))=V at *
 obtain ⟨s1,s2,s3,s4,s5,s6,s7,s8,s9,s10,s11⟩:=hs
 have gC:∀ r,r<n→gi (x.cols.map (KZ m)) r=KZ m (gi x.cols r):=fun r hr=>gi_map' _ (by omega)
 have gV:∀ k,k<m→gi (V.take m) k=gi V k:=fun k hk=>gi_take' V hk
 have part:lM n m (fun r=>gi (x.cols.map (KZ m)) r):=by
  refine ⟨fun r hr=>?_,fun r q hr hq h1 h2=>?_⟩
  ·rw [gC r hr]
   have:=s4 r hr
   unfold KZ;split<;>omega
  ·rw [gC r hr] at h1 h2
   rw [gC q hq] at h2
   refine s5 r q hr hq ?_
   have:=s4 q hq
   unfold KZ at h1 h2
   split at h2<;>split at h2<;>omega
 have tot:x.total=DR (fK l skip fun r=>gi (x.cols.map (KZ m)) r) n:=by
  rw [s6]
  refine EU fun r hr=>?_
  have:=s4 r hr
  show _=if gi (x.cols.map (KZ m)) r<0 then skip else gi (gi l r) (gi (x.cols.map (KZ m)) r).toNat
  rw [gC r hr,Vg h hr]
  unfold KZ
  by_cases h1:(m:Int)≤gi x.cols r
  ·rw [if_pos h1,if_neg (by omega),if_pos (by omega),if_pos (by omega)]
  ·rw [if_neg h1,if_pos (by omega),if_neg (by omega)]
 have hsk:∀ r,r<n→gi U r≤skip:=fun r hr=>by
  have hx:∃ k,k<n+1∧∀ q,q<n→gi x.cols q≠((m+k:Nat):Int):=by
   refine Classical.byContradiction fun hn=>?_
   have hn:∀ k,k<n+1→∃ q,q<n∧gi x.cols q=((m+k:Nat):Int):=fun k hk=>Classical.byContradiction fun h2=>hn ⟨k,hk,fun q hq e=>h2 ⟨q,hq,e⟩⟩
   have hn':∀ k,∃ q,k<n+1→q<n∧gi x.cols q=((m+k:Nat):Int):=fun k=>by
    by_cases hk:k<n+1
    ·obtain ⟨q,hq⟩:=hn k hk;exact ⟨q,fun _=>hq⟩
    ·exact ⟨0,fun h=>absurd h hk⟩
   have hF:=fun k=>Classical.choose_spec (hn' k)
   have:=V3 n (n+1) (fun k=>Classical.choose (hn' k)) (fun k hk=>(hF k hk).1) (fun k e hk he hf=>by
    have h1:=(hF k hk).2
    have h2:=(hF e he).2
    have hf:Classical.choose (hn' k)=Classical.choose (hn' e):=hf
    rw [hf,h2] at h1;omega)
   omega
  obtain ⟨k,k1,k2⟩:=hx
  have h1:=s7 r (m+k) hr (by omega)
  rw [Vg h hr,if_neg (by omega),if_pos (by omega)] at h1
  have h0:=s11 (m+k) (by omega) k2
  omega
 have a2w:DR (fun k=>gi V k) (m+(n+1))≤DR (fun k=>gi (V.take m) k) m:=by
  rw [PY,EU (n:=m) (f:=fun k=>gi (V.take m) k) (g:=fun k=>gi V k) gV]
  have:=OD (n:=n+1) (f:=fun k=>gi V (m+k)) (g:=fun _=>0) fun k hk=>(s8 (m+k) (by omega)).2
  rw [L9] at this
  omega
 have pot:a1m l n m skip (fun r=>gi U r) (fun k=>gi (V.take m) k):=by
  refine ⟨fun r k hr hk=>?_,hsk,fun k hk=>?_⟩
  ·have h1:=s7 r k hr (by omega)
   rw [Vg h hr,if_pos hk] at h1
   show gi U r+gi (V.take m) k≤_
   rw [gV k hk];exact h1
  ·show gi (V.take m) k≤0
   rw [gV k hk];exact (s8 k (by omega)).2
 have hw:=weak pot part
 exact ⟨by rw [List.length_map,s1],s2,by rw [List.length_take,s3];omega,part,tot,pot,by omega,s9,fun k hk=>by rw [gV k hk];exact s8 k (by omega)⟩
end Go.Hun
namespace Go.Proofs.YtdabojnmoejilaaGreatDoor
open Go Go.Am Go.Vm Go.Hun
attribute [local irreducible] Aa Af Aq Ad BF AX Ci AU AO Aw Vm.Done CS Bq
def vW (l:List (List Int)):Nat:=(gi l 0).length
theorem MF (e:TypeId) (l:List (List Int)) (hl:l.length<1000000):AX env 69 [.lst e (cells l) l.length] (.p (.int .i64 (vW l:Int))):=by
 refine AX.enter (AB (by decide)) Tryz.func69 rfl (by kernel_rfl) (by simp [Tryz.ntmps69]) ?_
 by_cases h:l.length=0
 ·have hl0:l=[]:=List.length_eq_zero_iff.1 h
  subst hl0
  repeat' (first|apply Ad.assoc|apply Ad.AA|apply Ad.BI|apply Af.nil|apply Af.one|(apply Aa.assign;rfl)|(apply Aa.move;rfl)|(apply Aa.int;rfl;rfl;rfl)|(apply Aa.BQ;rfl;rfl)|(apply Ad.Bc;rfl))
  all_goals first|(exfalso;omega)|contradiction|(refine Done.ret rfl (.refl _) (by exact PV.Ac rfl) Ak.nil (Nat.zero_le _) (Nat.le_refl _) ⟨?_,rfl,rfl⟩;try rfl)
 ·repeat' (first|apply Ad.assoc|apply Ad.AA|apply Ad.Ar|apply Ad.ret|apply Af.nil|apply Af.one|(apply Aa.assign;rfl)|(apply Aa.move;rfl)|(apply Aa.int;rfl;rfl;rfl)|(apply Aa.Ze;rfl;rfl;rfl;omega;omega;rfl)|(apply Aa.load;rfl;rfl)|(apply Aa.BQ;rfl;rfl)|(apply Ad.Ae;rfl)|(intro _;try (exfalso;omega)))
  all_goals first|(exfalso;omega)|contradiction|(refine Done.ret rfl (.refl _) (by exact PV.Ac rfl) Ak.nil (Nat.zero_le _) (Nat.le_refl _) ⟨?_,rfl,rfl⟩;try rfl)
section
variable {costs:List (List Int)} {n m:Nat} {B:Int}
theorem tX {i:Nat} {o:List Ix} {A:Nat→Nat} {t:Nat} {g:Gr} (h:fV costs n m i o A t g) (hc:Iz costs n m B) (ho:qJ m i o) (hi:i<n) (hr:Hun.own o (A t)≠0):gi (GH costs o m g).v 0+gi (GH costs o m g).u (i+1)=gi g.v 0+gi g.u (i+1):=by
 have hR:=J7 h hc ho hi hr
 have hS:=NW h hc ho hi hr
 have h0:gi (CP g) 0=true:=(hR.doneD 0).2 ⟨0,by omega,h.zero⟩
 have h1:=hS.u1 0 (Nat.zero_le _) h0
 have h2:=hS.v1 0 (Nat.zero_le _) h0
 rw [ho.zero] at h1
 show gi (Jo costs o m g).v 0+gi (Jo costs o m g).u (i+1)=_
 omega
theorem YX {i:Nat} {s:jW} (h:qH costs n m i s) (hc:Iz costs n m B) (hi:i<n):∀ t,(∀ p,p<t→Hun.own (Jp s (i+1)) (MS costs m i s p)≠0)→gi (Et costs (Jp s (i+1)) m (Ql m s) t).v 0+gi (Et costs (Jp s (i+1)) m (Ql m s) t).u (i+1)=gi s.v 0
 |0,_=>by
  show gi s.v 0+gi s.u (i+1)=_
  rw [h.uz (i+1) (by omega)];omega
 |t+1,hp=>by
  have ih:=YX h hc hi t fun p hp'=>hp p (by omega)
  have:=tX (OZ h hc hi t fun p hp'=>hp p (by omega)) hc (YN h) hi (hp t (by omega))
  show gi (GH costs _ m _).v 0+gi (GH costs _ m _).u (i+1)=_
  omega
theorem fG (hc:Iz costs n m B):∀ i,i≤n→-(i*B)≤gi (Dk costs n m i).v 0∧gi (Dk costs n m i).v 0≤0
 |0,_=>by
  have:gi (Dk costs n m 0).v 0=0:=U3 0
  rw [this];simp
 |i+1,hi=>by
  have ih:=fG hc i (by omega)
  have h:=Oi hc i (by omega)
  obtain ⟨a,b,c⟩:=ZB h hc (by omega)
  have h1:=YX h hc (by omega) _ a
  have hg:=OZ h hc (by omega) _ a
  have h2:=hg.ule hc (YN h) (by have:=hc.nm;omega) (r:=i+1) (by omega) (Nat.le_refl _)
  have h3:=hg.UG (i+1) (by omega) (Nat.le_refl _)
  have e:(Dk costs n m (i+1)).v=(Et costs (Jp (Dk costs n m i) (i+1)) m (Ql m (Dk costs n m i)) (Xh costs m (Dk costs n m i) (i+1))).v:=rfl
  rw [e]
  push_cast
  rw [Int.add_mul,Int.one_mul]
  omega
end
def kL (e:TypeId) (costs:List (List Int)) (n m k row a:Nat) (s:qL) (j:Nat):Vm.Frame :=
 [(14,.p (.int .i64 s.delta)),(15,.p (.int .i64 (s.next:Int))),(16,.p (.int .i64 ((j+1:Nat):Int))),(0,.p (.lst e (cells costs) n)),(2,.ref 0 0),(3,.p (.int .i64 (n:Int))),(4,.p (.int .i64 (m:Int))),(5,.vec 1 (n+1) 0 (n+1)),(6,.vec 2 (m+1) 0 (m+1)),(7,.vec 3 (m+1) 0 (m+1)),(8,.vec 4 (m+1) 0 (m+1)),(9,.p (.int .i64 ((k+1:Nat):Int))),(10,.p (.int .i64 (a:Int))),(11,.vec 6 (m+1) 0 (m+1)),(12,.vec 7 (m+1) 0 (m+1)),(13,.p (.int .i64 (row:Int)))]
def zo:Vm.HB:=.box 69 [.p (.val (.slice none 0 0)),.p (.int .i64 0),.p (.val (.slice none 0 0)),.p (.val (.slice none 0 0))]
def mJ (n m:Nat) (u v:List Int) (o:List Ix) (done:List Bool) (s:qL):Vm.Heap :=
 [(4,.vec 3 (cells s.way) (m+1) false),(6,.vec 3 (cells s.least) (m+1) false),(7,.vec 4 (cells done) (m+1) false),(0,zo),(1,.vec 3 (cells u) (n+1) false),(2,.vec 3 (cells v) (m+1) false),(3,.vec 3 (cells o) (m+1) false)]
theorem pU {costs:List (List Int)} {n m k row a:Nat} {B:Int} {e:TypeId} {u v:List Int} {o:List Ix} {done:List Bool} {s0:qL} (hB:0≤B∧B≤1000000000000) (hl:costs.length=n) (hm:m≤1000) (hn:n≤1000) (hr:1≤row∧row≤n) (hrl:(gi costs (row-1)).length=m) (Uc:∀ j,0≤gi (gi costs (row-1)) j∧gi (gi costs (row-1)) j≤B)
 (hu:u.length=n+1) (hv:v.length=m+1) (hd9:done.length=m+1) (h1:s0.least.length=m+1) (h2:s0.way.length=m+1) (hu9:0≤gi u row∧gi u row≤B) (hv9:∀ j,1≤j→j≤m→-B≤gi v j∧gi v j≤0) :
 Ad env 0 (ZC Tryz.f72 14) (kL e costs n m k row a s0 0) (mJ n m u v o done s0) 8 (fun ex L' H' nx'=>ex=.exit 4∧WS L' H' nx' (kL e costs n m k row a (KI (gi costs (row-1)) (gi u row) v done a s0 m) m) (mJ n m u v o done (KI (gi costs (row-1)) (gi u row) v done a s0 m)) 8):=by
 have hs1:FP .sub .i64 (row:Int) 1=some (.int .i64 ((row-1:Nat):Int)):=by
  simp only [FP]
  rw [wrap_i64 (by omega)]
  congr 2;omega
 show Ad env 0 (Code.loop _) _ _ _ _
 refine Ad.EF m (kL e costs n m k row a s0 0 |>.drop 3) (mJ n m u v o done s0 |>.drop 2) (fun j _=>kL e costs n m k row a (KI (gi costs (row-1)) (gi u row) v done a s0 j) j) (fun j _=>mJ n m u v o done (KI (gi costs (row-1)) (gi u row) v done a s0 j)) 8 (by omega) (Nat.le_refl _) ?_ ?_ ?_ ?_
 ·repeat (first|exact Ap.nil|refine Ap.same (by exact PV.Ac rfl) rfl ?_|refine Ap.cons trivial rfl (.of_eq (Au (by simp<;>omega))) ?_)
 ·repeat (first|exact Ak.nil|(refine Ak.cons (Aj rfl) ?_ rfl ?_ ?_;(first|exact HB.Ac rfl|exact AZ.Ag _ _|(simp [HB.under,AZ.under,PV.under]));(first|exact Bv.refl _|exact Bv.vec (Bl.refl _) (by simp))))
 ·intro j hj
  have hI:=RJ (row:=gi costs (row-1)) (ur:=gi u row) (v:=v) (done:=done) (a:=a) (s0:=s0) h1 h2 j (by omega)
  have eS2:KI (gi costs (row-1)) (gi u row) v done a s0 (j+1)=Lm (gi costs (row-1)) (gi u row) v done a (KI (gi costs (row-1)) (gi u row) v done a s0 j) (j+1):=rfl
  rw [eS2]
  generalize KI (gi costs (row-1)) (gi u row) v done a s0 j=sc at *
  have n1:=hI.ll
  have n2:=hI.lw
  have hc1:=Uc j
  have hv1:=hv9 (j+1) (by omega) (by omega)
  obtain ⟨C,hC⟩:∃ C,C=Un (gi costs (row-1)) (gi u row) v (j+1):=⟨_,rfl⟩
  have hC':C=gi (gi costs (row-1)) j-gi u row-gi v (j+1):=hC
  have hCv:FP .sub .i64 (gi (gi costs (row-1)) j-gi u row) (gi v (j+1))=some (.int .i64 C):=by
   rw [hC']
   simp only [FP]
   rw [wrap_i64 (by omega)]
  have hs2:FP .sub .i64 ((j+1:Nat):Int) 1=some (.int .i64 (j:Int)):=by
   simp only [FP]
   rw [wrap_i64 (by omega)]
   congr 2;omega
  clear hI Uc hv9 eS2
  by_cases hd:gi done (j+1)=true
  ·have e9:Lm (gi costs (row-1)) (gi u row) v done a sc (j+1)=sc:=if_pos hd
   rw [e9]
   repeat' (first|apply Ad.assoc|apply Ad.AA|apply Ad.region|apply Ad.Ar|apply Ad.A8|apply Ad.Ai|apply AU.normal|apply AO.exit|apply Af.nil|apply Af.one|(apply Aa.BH;rfl;rfl;(first|omega|(simp only [NV]<;>omega));exact congrArg (fun b=>some (FV.bool b)) (hd))|(apply Aa.assign;rfl)|(apply Aa.move;rfl)|(apply Aa.Bz;rfl;rfl;omega)|(apply Aa.int;rfl;rfl;rfl)|(apply Aa.BD;rfl;rfl;rfl;rfl;omega)|(apply Ad.Bc;rfl)|(apply Ad.Ae;rfl)|(intro _;try (exfalso;omega)))
   all_goals try (exfalso;omega)
   refine Aw.normal ⟨by first|omega|decide,?_,?_⟩
   ·repeat (first|exact Ap.nil|refine Ap.same (by exact PV.Ac rfl) rfl ?_|refine Ap.cons trivial rfl (.of_eq (Au (by simp<;>omega))) ?_)
   ·repeat (first|exact Ak.nil|(refine Ak.cons (Aj rfl) ?_ rfl ?_ ?_;(first|exact HB.Ac rfl|exact AZ.Ag _ _|(simp [HB.under,AZ.under,PV.under]));(first|exact Bv.refl _|exact Bv.vec (Bl.refl _) (by simp))))
  ·have hd':gi done (j+1)=false:=by cases h:gi done (j+1)<;>simp_all
   by_cases h1:C<gi sc.least (j+1)
   ·have hld:gi (sc.least.set (j+1) C) (j+1)=C:=by rw [gs (by omega),if_pos rfl]
    by_cases h2:C<sc.delta
    ·have e9:Lm (gi costs (row-1)) (gi u row) v done a sc (j+1)=⟨sc.least.set (j+1) C,sc.way.set (j+1) ⟨a⟩,C,j+1⟩:=by
      unfold Lm
      rw [← hC,if_neg hd,if_pos h1,if_pos h2]
     rw [e9]
     repeat' (first|apply Ad.assoc|apply Ad.AA|apply Ad.Bj|apply Ad.region|apply Ad.Ar|apply Ad.Ai|apply AU.normal|apply AO.normal|apply Af.nil|apply Aq.nil|apply Af.one|(apply Aq.bar;decide +kernel)|apply Aq.quiet|(apply Aa.BH;rfl;rfl;(first|omega|(simp only [NV]<;>omega));exact congrArg (fun b=>some (FV.bool b)) (hd'))|(apply Aa.Ba (l:=costs);rfl;rfl;rfl;omega;exact hl)|(apply Aa.int;rfl;rfl;exact hs1)|(apply Aa.int;rfl;rfl;exact hs2)|(apply Aa.int;rfl;rfl;exact hCv)|(apply Aa.CU (y:=C);rfl;rfl;rfl;trivial;(first|rfl|(refine congrArg (fun t=>[PV.p (FV.int _ t)]) ?_;first|omega|(simp only [Int.natCast_add,Int.natCast_mul,Int.natCast_ediv,Int.natCast_emod]<;>omega)));rfl;rfl;decide;(first|omega|(simp only [List.length_set]<;>omega)))|(apply Aa.CU (y:=(⟨a⟩:Ix));rfl;rfl;rfl;trivial;(first|rfl|(refine congrArg (fun t=>[PV.p (FV.int _ t)]) ?_;first|omega|(simp only [Int.natCast_add,Int.natCast_mul,Int.natCast_ediv,Int.natCast_emod]<;>omega)));rfl;rfl;decide;(first|omega|(simp only [List.length_set]<;>omega)))|(apply Aa.BH;rfl;rfl;(first|omega|(simp only [List.length_set]<;>omega));exact congrArg (fun b=>some (FV.int .i64 b)) (hld))|(apply Aa.assign;rfl)|(apply Aa.move;rfl)|(apply Aa.Bz;rfl;rfl;omega)|(apply Aa.IC;rfl;rfl;omega)|(apply Aa.int;rfl;rfl;rfl)|(apply Aa.Ba;rfl;rfl;rfl;omega;rfl)|(apply Aa.BH;rfl;rfl;omega;rfl)|(apply Aa.load;rfl;rfl)|(apply Aa.BD;rfl;rfl;rfl;rfl;omega)|(apply Ad.Az;rfl)|(apply Ad.Ae;rfl)|(apply Ad.AY;rfl)|(intro _;try (exfalso;omega)))
     all_goals try (exfalso;omega)
     refine Aw.normal ⟨by first|omega|decide,?_,?_⟩
     ·repeat (first|exact Ap.nil|refine Ap.same (by exact PV.Ac rfl) rfl ?_|refine Ap.cons trivial rfl (.of_eq (Au (by simp<;>omega))) ?_)
     ·repeat (first|exact Ak.nil|(refine Ak.cons (Aj rfl) ?_ rfl ?_ ?_;(first|exact HB.Ac rfl|exact AZ.Ag _ _|(simp [HB.under,AZ.under,PV.under]));(first|exact Bv.refl _|exact Bv.vec (Bl.refl _) (by simp))))
    ·have e9:Lm (gi costs (row-1)) (gi u row) v done a sc (j+1)=⟨sc.least.set (j+1) C,sc.way.set (j+1) ⟨a⟩,sc.delta,sc.next⟩:=by
      unfold Lm
      rw [← hC,if_neg hd,if_pos h1,if_neg h2]
     rw [e9]
     repeat' (first|apply Ad.assoc|apply Ad.AA|apply Ad.Bj|apply Ad.region|apply Ad.Ar|apply Ad.Ai|apply AU.normal|apply AO.normal|apply Ad.skip|apply Af.nil|apply Aq.nil|apply Af.one|(apply Aq.bar;decide +kernel)|apply Aq.quiet|(apply Aa.BH;rfl;rfl;(first|omega|(simp only [NV]<;>omega));exact congrArg (fun b=>some (FV.bool b)) (hd'))|(apply Aa.Ba (l:=costs);rfl;rfl;rfl;omega;exact hl)|(apply Aa.int;rfl;rfl;exact hs1)|(apply Aa.int;rfl;rfl;exact hs2)|(apply Aa.int;rfl;rfl;exact hCv)|(apply Aa.CU (y:=C);rfl;rfl;rfl;trivial;(first|rfl|(refine congrArg (fun t=>[PV.p (FV.int _ t)]) ?_;first|omega|(simp only [Int.natCast_add,Int.natCast_mul,Int.natCast_ediv,Int.natCast_emod]<;>omega)));rfl;rfl;decide;(first|omega|(simp only [List.length_set]<;>omega)))|(apply Aa.CU (y:=(⟨a⟩:Ix));rfl;rfl;rfl;trivial;(first|rfl|(refine congrArg (fun t=>[PV.p (FV.int _ t)]) ?_;first|omega|(simp only [Int.natCast_add,Int.natCast_mul,Int.natCast_ediv,Int.natCast_emod]<;>omega)));rfl;rfl;decide;(first|omega|(simp only [List.length_set]<;>omega)))|(apply Aa.BH;rfl;rfl;(first|omega|(simp only [List.length_set]<;>omega));exact congrArg (fun b=>some (FV.int .i64 b)) (hld))|(apply Aa.assign;rfl)|(apply Aa.move;rfl)|(apply Aa.Bz;rfl;rfl;omega)|(apply Aa.IC;rfl;rfl;omega)|(apply Aa.int;rfl;rfl;rfl)|(apply Aa.Ba;rfl;rfl;rfl;omega;rfl)|(apply Aa.BH;rfl;rfl;omega;rfl)|(apply Aa.load;rfl;rfl)|(apply Aa.BD;rfl;rfl;rfl;rfl;omega)|(apply Ad.Az;rfl)|(apply Ad.Ae;rfl)|(apply Ad.AY;rfl)|(intro _;try (exfalso;omega)))
     all_goals try (exfalso;omega)
     refine Aw.normal ⟨by first|omega|decide,?_,?_⟩
     ·repeat (first|exact Ap.nil|refine Ap.same (by exact PV.Ac rfl) rfl ?_|refine Ap.cons trivial rfl (.of_eq (Au (by simp<;>omega))) ?_)
     ·repeat (first|exact Ak.nil|(refine Ak.cons (Aj rfl) ?_ rfl ?_ ?_;(first|exact HB.Ac rfl|exact AZ.Ag _ _|(simp [HB.under,AZ.under,PV.under]));(first|exact Bv.refl _|exact Bv.vec (Bl.refl _) (by simp))))
   ·by_cases h2:gi sc.least (j+1)<sc.delta
    ·have e9:Lm (gi costs (row-1)) (gi u row) v done a sc (j+1)=⟨sc.least,sc.way,gi sc.least (j+1),j+1⟩:=by
      unfold Lm
      rw [← hC,if_neg hd,if_neg h1,if_pos h2]
     rw [e9]
     repeat' (first|apply Ad.assoc|apply Ad.AA|apply Ad.Bj|apply Ad.region|apply Ad.Ar|apply Ad.Ai|apply AU.normal|apply AO.normal|apply Af.nil|apply Aq.nil|apply Af.one|(apply Aq.bar;decide +kernel)|apply Aq.quiet|(apply Aa.BH;rfl;rfl;(first|omega|(simp only [NV]<;>omega));exact congrArg (fun b=>some (FV.bool b)) (hd'))|(apply Aa.Ba (l:=costs);rfl;rfl;rfl;omega;exact hl)|(apply Aa.int;rfl;rfl;exact hs1)|(apply Aa.int;rfl;rfl;exact hs2)|(apply Aa.int;rfl;rfl;exact hCv)|(apply Aa.assign;rfl)|(apply Aa.move;rfl)|(apply Aa.Bz;rfl;rfl;omega)|(apply Aa.IC;rfl;rfl;omega)|(apply Aa.int;rfl;rfl;rfl)|(apply Aa.Ba;rfl;rfl;rfl;omega;rfl)|(apply Aa.BH;rfl;rfl;omega;rfl)|(apply Aa.load;rfl;rfl)|(apply Aa.BD;rfl;rfl;rfl;rfl;omega)|(apply Ad.Az;rfl)|(apply Ad.Ae;rfl)|(apply Ad.AY;rfl)|(intro _;try (exfalso;omega)))
     all_goals try (exfalso;omega)
     refine Aw.normal ⟨by first|omega|decide,?_,?_⟩
     ·repeat (first|exact Ap.nil|refine Ap.same (by exact PV.Ac rfl) rfl ?_|refine Ap.cons trivial rfl (.of_eq (Au (by simp<;>omega))) ?_)
     ·repeat (first|exact Ak.nil|(refine Ak.cons (Aj rfl) ?_ rfl ?_ ?_;(first|exact HB.Ac rfl|exact AZ.Ag _ _|(simp [HB.under,AZ.under,PV.under]));(first|exact Bv.refl _|exact Bv.vec (Bl.refl _) (by simp))))
    ·have e9:Lm (gi costs (row-1)) (gi u row) v done a sc (j+1)=sc:=by
      unfold Lm
      rw [← hC,if_neg hd,if_neg h1,if_neg h2]
     rw [e9]
     repeat' (first|apply Ad.assoc|apply Ad.AA|apply Ad.Bj|apply Ad.region|apply Ad.Ar|apply Ad.Ai|apply AU.normal|apply AO.normal|apply Ad.skip|apply Af.nil|apply Aq.nil|apply Af.one|(apply Aq.bar;decide +kernel)|apply Aq.quiet|(apply Aa.BH;rfl;rfl;(first|omega|(simp only [NV]<;>omega));exact congrArg (fun b=>some (FV.bool b)) (hd'))|(apply Aa.Ba (l:=costs);rfl;rfl;rfl;omega;exact hl)|(apply Aa.int;rfl;rfl;exact hs1)|(apply Aa.int;rfl;rfl;exact hs2)|(apply Aa.int;rfl;rfl;exact hCv)|(apply Aa.assign;rfl)|(apply Aa.move;rfl)|(apply Aa.Bz;rfl;rfl;omega)|(apply Aa.IC;rfl;rfl;omega)|(apply Aa.int;rfl;rfl;rfl)|(apply Aa.Ba;rfl;rfl;rfl;omega;rfl)|(apply Aa.BH;rfl;rfl;omega;rfl)|(apply Aa.load;rfl;rfl)|(apply Aa.BD;rfl;rfl;rfl;rfl;omega)|(apply Ad.Az;rfl)|(apply Ad.Ae;rfl)|(apply Ad.AY;rfl)|(intro _;try (exfalso;omega)))
     all_goals try (exfalso;omega)
     refine Aw.normal ⟨by first|omega|decide,?_,?_⟩
     ·repeat (first|exact Ap.nil|refine Ap.same (by exact PV.Ac rfl) rfl ?_|refine Ap.cons trivial rfl (.of_eq (Au (by simp<;>omega))) ?_)
     ·repeat (first|exact Ak.nil|(refine Ak.cons (Aj rfl) ?_ rfl ?_ ?_;(first|exact HB.Ac rfl|exact AZ.Ag _ _|(simp [HB.under,AZ.under,PV.under]));(first|exact Bv.refl _|exact Bv.vec (Bl.refl _) (by simp))))
 ·repeat' (first|apply Ad.assoc|apply Ad.AA|apply Ad.A8|apply Aw.exit|apply Af.nil|apply Af.one|(apply Aa.move;rfl)|(apply Aa.int;rfl;rfl;rfl)|(apply Ad.Ae;rfl)|(intro _;try (exfalso;omega)))
  all_goals try (exfalso;omega)
  refine ⟨rfl,⟨Nat.le_refl _,?_,?_⟩⟩
  ·repeat (first|exact Ap.nil|refine Ap.same (by exact PV.Ac rfl) rfl ?_|refine Ap.cons trivial rfl (.of_eq (Au (by simp<;>omega))) ?_)
  ·repeat (first|exact Ak.nil|(refine Ak.cons (Aj rfl) ?_ rfl ?_ ?_;(first|exact HB.Ac rfl|exact AZ.Ag _ _|(simp [HB.under,AZ.under,PV.under]));(first|exact Bv.refl _|exact Bv.vec (Bl.refl _) (by simp))))
end Go.Proofs.YtdabojnmoejilaaGreatDoor
namespace Go.Proofs.YtdabojnmoejilaaGreatDoor
open Go Go.Am Go.Vm Go.Hun
attribute [local irreducible] Aa Af Aq Ad BF AX Ci AU AO Aw Vm.Done CS Bq
def ZV (e:TypeId) (costs:List (List Int)) (n m k:Nat) (d:Int) (nxt:Nat) (j:Nat):Vm.Frame :=
 [(120,.p (.int .i64 (j:Int))),(0,.p (.lst e (cells costs) n)),(2,.ref 0 0),(3,.p (.int .i64 (n:Int))),(4,.p (.int .i64 (m:Int))),(5,.vec 1 (n+1) 0 (n+1)),(6,.vec 2 (m+1) 0 (m+1)),(7,.vec 3 (m+1) 0 (m+1)),(8,.vec 4 (m+1) 0 (m+1)),(9,.p (.int .i64 ((k+1:Nat):Int))),(11,.vec 6 (m+1) 0 (m+1)),(12,.vec 7 (m+1) 0 (m+1)),(14,.p (.int .i64 d)),(15,.p (.int .i64 (nxt:Int))),(119,.p (.int .i64 ((m+1:Nat):Int)))]
def YZ (n m:Nat) (o way:List Ix) (done:List Bool) (t:xB):Vm.Heap :=
 [(1,.vec 3 (cells t.u) (n+1) false),(2,.vec 3 (cells t.v) (m+1) false),(6,.vec 3 (cells t.least) (m+1) false),(0,zo),(3,.vec 3 (cells o) (m+1) false),(4,.vec 3 (cells way) (m+1) false),(7,.vec 4 (cells done) (m+1) false)]
theorem gy {costs:List (List Int)} {n m k nxt:Nat} {d:Int} {e:TypeId} {o way:List Ix} {done:List Bool} {t0:xB} (hd:0≤d∧d≤1000000000000) (hm:m≤1000) (hn:n≤1000) (hu:t0.u.length=n+1) (hv:t0.v.length=m+1) (hl:t0.least.length=m+1) (ho:o.length=m+1) (hD:done.length=m+1)
 (h1:∀ j,j≤m→gi done j=true→(gi o j).n<t0.u.length) (h2:∀ j i,j≤m→i≤m→gi done j=true→gi done i=true→(gi o j).n=(gi o i).n→j=i)
 (hub:∀ j,j≤m→gi done j=true→0≤gi t0.u (gi o j).n∧gi t0.u (gi o j).n≤1000000000000) (hvb:∀ j,j≤m→-2000000000000000≤gi t0.v j∧gi t0.v j≤0) (hlb:∀ j,j≤m→gi done j=false→0≤gi t0.least j∧gi t0.least j≤far) :
 Ad env 0 (ZC Tryz.f72 23) (ZV e costs n m k d nxt 0) (YZ n m o way done t0) 8 (fun ex L' H' nx'=>ex=.exit 6∧WS L' H' nx' (ZV e costs n m k d nxt (m+1)) (YZ n m o way done (Ia o done d t0 (m+1))) 8):=by
 have hf:far=1152921504606846976:=rfl
 show Ad env 0 (Code.loop _) _ _ _ _
 refine Ad.EF (m+1) (ZV e costs n m k d nxt 0 |>.drop 1) (YZ n m o way done t0 |>.drop 3) (fun j _=>ZV e costs n m k d nxt j) (fun j _=>YZ n m o way done (Ia o done d t0 j)) 8 (by omega) (Nat.le_refl _) ?_ ?_ ?_ ?_
 ·repeat (first|exact Ap.nil|refine Ap.same (by exact PV.Ac rfl) rfl ?_|refine Ap.cons trivial rfl (.of_eq (Au (by simp<;>omega))) ?_)
 ·repeat (first|exact Ak.nil|(refine Ak.cons (Aj rfl) ?_ rfl ?_ ?_;(first|exact HB.Ac rfl|exact AZ.Ag _ _|(simp [HB.under,AZ.under,PV.under]));(first|exact Bv.refl _|exact Bv.vec (Bl.refl _) (by simp))))
 ·intro j hj
  have hI:=Go.Hun.JO (owner:=o) (done:=done) (delta:=d) (t:=t0) (m:=m) hv hl h1 h2 j (by omega)
  have eS2:Ia o done d t0 (j+1)=Sm o done d (Ia o done d t0 j) j:=rfl
  rw [eS2]
  generalize Ia o done d t0 j=sc at *
  have n1:=hI.lu
  have n2:=hI.lv
  have n3:=hI.ll
  have hv1:=hvb j (by omega)
  have ev:gi sc.v j=gi t0.v j:=by rw [hI.v,if_neg (by omega)]
  by_cases hdj:gi done j=true
  ·have hu1:=hub j (by omega) hdj
   have hlt:=h1 j (by omega) hdj
   have eu:gi sc.u (gi o j).n=gi t0.u (gi o j).n:=hI.u0 _ fun i hi hi2 e=>by have:=h2 i j (by omega) (by omega) hi2 hdj e;omega
   have e9:Sm o done d sc j=⟨sc.u.set (gi o j).n (gi sc.u (gi o j).n+d),sc.v.set j (gi sc.v j-d),sc.least⟩:=if_pos hdj
   rw [e9]
   clear hI hub hvb hlb h1 h2 eS2
   repeat' (first|apply Ad.AA|apply Ad.region|apply Ad.Ar|apply Ad.Ai|apply AU.normal|apply AO.normal|apply Af.nil|apply Af.one|(apply Aa.BH;rfl;rfl;(first|omega|(simp only [NV]<;>omega));exact congrArg (fun b=>some (FV.bool b)) (hdj))|(apply Aa.CU (y:=(gi sc.u (gi o j).n+d));rfl;rfl;rfl;trivial;(first|rfl|(refine congrArg (fun t=>[PV.p (FV.int _ t)]) ?_;first|omega|(simp only [Int.natCast_add,Int.natCast_mul,Int.natCast_ediv,Int.natCast_emod]<;>omega)));rfl;rfl;decide;(first|omega|(simp only [List.length_set]<;>omega)))|(apply Aa.CU (y:=(gi sc.v j-d));rfl;rfl;rfl;trivial;(first|rfl|(refine congrArg (fun t=>[PV.p (FV.int _ t)]) ?_;first|omega|(simp only [Int.natCast_add,Int.natCast_mul,Int.natCast_ediv,Int.natCast_emod]<;>omega)));rfl;rfl;decide;(first|omega|(simp only [List.length_set]<;>omega)))|(apply Aa.assign;rfl)|(apply Aa.move;rfl)|(apply Aa.Bz;rfl;rfl;omega)|(apply Aa.IC;rfl;rfl;omega)|(apply Aa.int;rfl;rfl;rfl)|(apply Aa.BH;rfl;rfl;omega;rfl)|(apply Aa.BD;rfl;rfl;rfl;rfl;omega)|(apply Ad.Ae;rfl)|(apply Ad.cond_true;rfl)|(intro _;try (exfalso;omega)))
   all_goals try (exfalso;omega)
   refine Aw.normal ⟨by first|omega|decide,?_,?_⟩
   ·repeat (first|exact Ap.nil|refine Ap.same (by exact PV.Ac rfl) rfl ?_|refine Ap.cons trivial rfl (.of_eq (Au (by simp<;>omega))) ?_)
   ·repeat (first|exact Ak.nil|(refine Ak.cons (Aj rfl) ?_ rfl ?_ ?_;(first|exact HB.Ac rfl|exact AZ.Ag _ _|(simp [HB.under,AZ.under,PV.under]));(first|exact Bv.refl _|exact Bv.vec (Bl.refl _) (by simp))))
  ·have hdj':gi done j=false:=by cases h:gi done j<;>simp_all
   have hl1:=hlb j (by omega) hdj'
   have el:gi sc.least j=gi t0.least j:=by rw [hI.least,if_neg (by omega)]
   have e9:Sm o done d sc j=⟨sc.u,sc.v,sc.least.set j (gi sc.least j-d)⟩:=if_neg hdj
   rw [e9]
   clear hI hub hvb hlb h1 h2 eS2
   repeat' (first|apply Ad.AA|apply Ad.region|apply Ad.Ar|apply Ad.Ai|apply AU.normal|apply AO.normal|apply Af.nil|apply Af.one|(apply Aa.BH;rfl;rfl;(first|omega|(simp only [NV]<;>omega));exact congrArg (fun b=>some (FV.bool b)) (hdj'))|(apply Aa.CU (y:=(gi sc.least j-d));rfl;rfl;rfl;trivial;(first|rfl|(refine congrArg (fun t=>[PV.p (FV.int _ t)]) ?_;first|omega|(simp only [Int.natCast_add,Int.natCast_mul,Int.natCast_ediv,Int.natCast_emod]<;>omega)));rfl;rfl;decide;(first|omega|(simp only [List.length_set]<;>omega)))|(apply Aa.assign;rfl)|(apply Aa.move;rfl)|(apply Aa.Bz;rfl;rfl;omega)|(apply Aa.IC;rfl;rfl;omega)|(apply Aa.int;rfl;rfl;rfl)|(apply Aa.BH;rfl;rfl;omega;rfl)|(apply Aa.BD;rfl;rfl;rfl;rfl;omega)|(apply Ad.Ae;rfl)|(apply Ad.cond_false;rfl)|(intro _;try (exfalso;omega)))
   all_goals try (exfalso;omega)
   refine Aw.normal ⟨by first|omega|decide,?_,?_⟩
   ·repeat (first|exact Ap.nil|refine Ap.same (by exact PV.Ac rfl) rfl ?_|refine Ap.cons trivial rfl (.of_eq (Au (by simp<;>omega))) ?_)
   ·repeat (first|exact Ak.nil|(refine Ak.cons (Aj rfl) ?_ rfl ?_ ?_;(first|exact HB.Ac rfl|exact AZ.Ag _ _|(simp [HB.under,AZ.under,PV.under]));(first|exact Bv.refl _|exact Bv.vec (Bl.refl _) (by simp))))
 ·repeat' (first|apply Ad.AA|apply Ad.A8|apply Aw.exit|apply Af.nil|apply Af.one|(apply Aa.int;rfl;rfl;rfl)|(apply Ad.Ae;rfl)|(intro _;try (exfalso;omega)))
  all_goals try (exfalso;omega)
  refine ⟨rfl,⟨Nat.le_refl _,?_,?_⟩⟩
  ·repeat (first|exact Ap.nil|refine Ap.same (by exact PV.Ac rfl) rfl ?_|refine Ap.cons trivial rfl (.of_eq (Au (by simp<;>omega))) ?_)
  ·repeat (first|exact Ak.nil|(refine Ak.cons (Aj rfl) ?_ rfl ?_ ?_;(first|exact HB.Ac rfl|exact AZ.Ag _ _|(simp [HB.under,AZ.under,PV.under]));(first|exact Bv.refl _|exact Bv.vec (Bl.refl _) (by simp))))
def zi (e:TypeId) (costs:List (List Int)) (n m k:Nat) (a:Nat):Vm.Frame :=
 [(10,.p (.int .i64 (a:Int))),(0,.p (.lst e (cells costs) n)),(2,.ref 0 0),(3,.p (.int .i64 (n:Int))),(4,.p (.int .i64 (m:Int))),(5,.vec 1 (n+1) 0 (n+1)),(6,.vec 2 (m+1) 0 (m+1)),(7,.vec 3 (m+1) 0 (m+1)),(8,.vec 4 (m+1) 0 (m+1)),(9,.p (.int .i64 ((k+1:Nat):Int)))]
def yP (n m:Nat) (u v:List Int) (way o:List Ix):Vm.Heap :=
 [(3,.vec 3 (cells o) (m+1) false),(0,zo),(1,.vec 3 (cells u) (n+1) false),(2,.vec 3 (cells v) (m+1) false),(4,.vec 3 (cells way) (m+1) false)]
theorem tq {costs:List (List Int)} {n m k U:Nat} {e:TypeId} {u v:List Int} {way:List Ix} {a:Aug} (hm:m≤1000) (hw:way.length=m+1) (hlen:∀ t,t≤U→(G9 way a t).owner.length=m+1) (hgo:∀ t,t<U→(G9 way a t).at_≠0) (hle:∀ t,t≤U→(G9 way a t).at_≤m) (hfin:(G9 way a U).at_=0) :
 Ad env 0 (ZC Tryz.f72 31) (zi e costs n m k a.at_) (yP n m u v way a.owner) 5 (fun ex L' H' nx'=>ex=.exit 8∧WS L' H' nx' (zi e costs n m k 0) (yP n m u v way (G9 way a U).owner) 5):=by
 show Ad env 0 (Code.loop _) _ _ _ _
 refine Ad.EF U (zi e costs n m k a.at_ |>.drop 1) (yP n m u v way a.owner |>.drop 1) (fun t _=>zi e costs n m k (G9 way a t).at_) (fun t _=>yP n m u v way (G9 way a t).owner) 5 (by omega) (Nat.le_refl _) ?_ ?_ ?_ ?_
 ·repeat (first|exact Ap.nil|refine Ap.same (by exact PV.Ac rfl) rfl ?_|refine Ap.cons trivial rfl (.of_eq (Au (by simp<;>omega))) ?_)
 ·repeat (first|exact Ak.nil|(refine Ak.cons (Aj rfl) ?_ rfl ?_ ?_;(first|exact HB.Ac rfl|exact AZ.Ag _ _|(simp [HB.under,AZ.under,PV.under]));(first|exact Bv.refl _|exact Bv.vec (Bl.refl _) (by simp))))
 ·intro t ht
  have h1:=hlen t (by omega)
  have h2:=hgo t ht
  have h3:=hle t (by omega)
  have h4:=hle (t+1) (by omega)
  have e1:G9 way a (t+1)=⟨(G9 way a t).owner.set (G9 way a t).at_ (gi (G9 way a t).owner (gi way (G9 way a t).at_).n),(gi way (G9 way a t).at_).n⟩:=rfl
  rw [e1] at h4 ⊢
  have h4:(gi way (G9 way a t).at_).n≤m:=h4
  generalize G9 way a t=x at *
  repeat' (first|apply Ad.assoc|apply Ad.AA|apply Ad.region|apply Ad.Ar|apply AO.normal|apply Ad.Fv|apply Af.nil|apply Af.one|(apply Aa.CU (y:=(gi x.owner (gi way x.at_).n));rfl;rfl;rfl;trivial;(first|rfl|(refine congrArg (fun t=>[PV.p (FV.int _ t)]) ?_;first|omega|(simp only [Int.natCast_add,Int.natCast_mul,Int.natCast_ediv,Int.natCast_emod]<;>omega)));rfl;rfl;decide;(first|omega|(simp only [List.length_set]<;>omega)))|(apply Aa.assign;rfl)|(apply Aa.move;rfl)|(apply Aa.int;rfl;rfl;rfl)|(apply Aa.BH;rfl;rfl;omega;rfl)|(apply Aa.BD;rfl;rfl;rfl;rfl;omega)|(apply Ad.Ae;rfl)|(intro _;try (exfalso;omega)))
  all_goals try (exfalso;omega)
  refine Aw.normal ⟨by first|omega|decide,?_,?_⟩
  ·repeat (first|exact Ap.nil|refine Ap.same (by exact PV.Ac rfl) rfl ?_|refine Ap.cons trivial rfl (.of_eq (Au (by simp<;>omega))) ?_)
  ·repeat (first|exact Ak.nil|(refine Ak.cons (Aj rfl) ?_ rfl ?_ ?_;(first|exact HB.Ac rfl|exact AZ.Ag _ _|(simp [HB.under,AZ.under,PV.under]));(first|exact Bv.refl _|exact Bv.vec (Bl.refl _) (by simp))))
 ·rw [hfin]
  repeat' (first|apply Ad.assoc|apply Ad.AA|apply Ad.A8|apply Aw.exit|apply Af.nil|apply Af.one|(apply Aa.move;rfl)|(apply Aa.int;rfl;rfl;rfl)|(apply Ad.Az;rfl))
  all_goals try (exfalso;omega)
  refine ⟨rfl,⟨Nat.le_refl _,?_,?_⟩⟩
  ·repeat (first|exact Ap.nil|refine Ap.same (by exact PV.Ac rfl) rfl ?_|refine Ap.cons trivial rfl (.of_eq (Au (by simp<;>omega))) ?_)
  ·repeat (first|exact Ak.nil|(refine Ak.cons (Aj rfl) ?_ rfl ?_ ?_;(first|exact HB.Ac rfl|exact AZ.Ag _ _|(simp [HB.under,AZ.under,PV.under]));(first|exact Bv.refl _|exact Bv.vec (Bl.refl _) (by simp))))
def yB (e:TypeId) (costs:List (List Int)) (n m:Nat) (j:Nat):Vm.Frame :=
 [(20,.p (.int .i64 ((j+1:Nat):Int))),(0,.p (.lst e (cells costs) n)),(2,.ref 0 0),(4,.p (.int .i64 (m:Int))),(7,.vec 3 (m+1) 0 (m+1)),(19,.ref 6 0)]
def yx (n m:Nat) (U V:List Int) (o:List Ix) (x:Out):Vm.Heap :=
 [(5,.vec 3 (cells x.cols) n false),(6,.box 69 [.vec 5 n 0 n,.p (.int .i64 x.total),.p (.lst 3 (cells U) n),.p (.lst 3 (cells V) m)]),(0,zo),(3,.vec 3 (cells o) (m+1) false)]
theorem xA {costs:List (List Int)} {n m:Nat} {e:TypeId} {U V:List Int} {o:List Ix} (hm:m≤1000) (hn:n≤1000) (hl:costs.length=n) (hrow:∀ r,r<n→(gi costs r).length=m) (ho:o.length=m+1) (hle:∀ j,1≤j→j≤m→(gi o j).n≤n) (hlen:∀ j,j≤m→(KW costs o n j).cols.length=n)
 (Uc:∀ r j,0≤gi (gi costs r) j∧gi (gi costs r) j≤1000000000000) (htot:∀ j,j≤m→0≤(KW costs o n j).total∧(KW costs o n j).total≤1000000000000000) :
 Ad env 0 (ZC Tryz.f72 36) (yB e costs n m 0) (yx n m U V o (KW costs o n 0)) 7 (fun ex L' H' nx'=>ex=.exit 10∧WS L' H' nx' (yB e costs n m m) (yx n m U V o (KW costs o n m)) 7):=by
 show Ad env 0 (Code.loop _) _ _ _ _
 refine Ad.EF m (yB e costs n m 0 |>.drop 1) (yx n m U V o (KW costs o n 0) |>.drop 2) (fun j _=>yB e costs n m j) (fun j _=>yx n m U V o (KW costs o n j)) 7 (by omega) (Nat.le_refl _) ?_ ?_ ?_ ?_
 ·repeat (first|exact Ap.nil|refine Ap.same (by exact PV.Ac rfl) rfl ?_|refine Ap.cons trivial rfl (.of_eq (Au (by simp<;>omega))) ?_)
 ·repeat (first|exact Ak.nil|(refine Ak.cons (Aj rfl) ?_ rfl ?_ ?_;(first|exact HB.Ac rfl|exact AZ.Ag _ _|(simp [HB.under,AZ.under,PV.under]));(first|exact Bv.refl _|exact Bv.vec (Bl.refl _) (by simp))))
 ·intro j hj
  have h1:=hlen j (by omega)
  have h2:=htot j (by omega)
  have h3:=hle (j+1) (by omega) (by omega)
  have e1:KW costs o n (j+1)=oN costs o (KW costs o n j) (j+1):=rfl
  rw [e1]
  generalize KW costs o n j=x at *
  by_cases hp:0<(gi o (j+1)).n
  ·have e9:oN costs o x (j+1)=⟨x.cols.set ((gi o (j+1)).n-1) (((j+1:Nat):Int)-1),x.total+gi (gi costs ((gi o (j+1)).n-1)) j⟩:=if_pos hp
   rw [e9]
   have hrl:=hrow ((gi o (j+1)).n-1) (by omega)
   have hc1:=Uc ((gi o (j+1)).n-1) j
   have hs1:FP .sub .i64 ((gi o (j+1)).n:Int) 1=some (.int .i64 (((gi o (j+1)).n-1:Nat):Int)):=by
    simp only [FP]
    rw [wrap_i64 (by omega)]
    congr 2;omega
   have hs2:FP .sub .i64 ((j+1:Nat):Int) 1=some (.int .i64 (j:Int)):=by
    simp only [FP]
    rw [wrap_i64 (by omega)]
    congr 2;omega
   clear Uc htot hlen hle e1
   repeat' (first|apply Ad.assoc|apply Ad.AA|apply Ad.region|apply Ad.Fq|apply Ad.Ar|apply Ad.Ai|apply AU.normal|apply AO.normal|apply Af.nil|apply Aq.nil|apply Af.one|(apply Aq.bar;decide +kernel)|apply Aq.quiet|(apply Aa.Ba (l:=costs);rfl;rfl;rfl;omega;exact hl)|(apply Aa.int;rfl;rfl;exact hs1)|(apply Aa.int;rfl;rfl;exact hs2)|(apply Aa.CU (y:=(((j+1:Nat):Int)-1));rfl;rfl;rfl;trivial;(first|rfl|(refine congrArg (fun t=>[PV.p (FV.int _ t)]) ?_;first|omega|(simp only [Int.natCast_add,Int.natCast_mul,Int.natCast_ediv,Int.natCast_emod]<;>omega)));rfl;rfl;decide;(first|omega|(simp only [List.length_set]<;>omega)))|(apply Aa.assign;rfl)|(apply Aa.move;rfl)|(apply Aa.Bz;rfl;rfl;omega)|(apply Aa.int;rfl;rfl;rfl)|(apply Aa.Ba;rfl;rfl;rfl;omega;rfl)|(apply Aa.BH;rfl;rfl;omega;rfl)|(apply Aa.load;rfl;rfl)|(apply Aa.AV;rfl;rfl;rfl)|(apply Aa.Bd;rfl;rfl;rfl;trivial;rfl;rfl;exact Aj rfl;exact le_dec rfl)|(apply Aa.BD;rfl;rfl;rfl;rfl;omega)|(apply Ad.Ae;rfl)|(apply Ad.AY;rfl)|(intro _;try (exfalso;omega)))
   all_goals try (exfalso;omega)
   refine Aw.normal ⟨by first|omega|decide,?_,?_⟩
   ·repeat (first|exact Ap.nil|refine Ap.same (by exact PV.Ac rfl) rfl ?_|refine Ap.cons trivial rfl (.of_eq (Au (by simp<;>omega))) ?_)
   ·repeat (first|exact Ak.nil|(refine Ak.cons (Aj rfl) ?_ rfl ?_ ?_;(first|exact HB.Ac rfl|exact AZ.Ag _ _|(simp [HB.under,AZ.under,PV.under]));(first|exact Bv.refl _|exact Bv.vec (Bl.refl _) (by simp))))
  ·have e9:oN costs o x (j+1)=x:=if_neg hp
   rw [e9]
   clear Uc htot hlen hle e1
   repeat' (first|apply Ad.assoc|apply Ad.AA|apply Ad.region|apply Ad.Ar|apply Ad.Ai|apply AU.normal|apply AO.normal|apply Ad.skip|apply Af.nil|apply Af.one|(apply Aa.assign;rfl)|(apply Aa.move;rfl)|(apply Aa.Bz;rfl;rfl;omega)|(apply Aa.int;rfl;rfl;rfl)|(apply Aa.BH;rfl;rfl;omega;rfl)|(apply Aa.BD;rfl;rfl;rfl;rfl;omega)|(apply Ad.Ae;rfl)|(apply Ad.AY;rfl)|(intro _;try (exfalso;omega)))
   all_goals try (exfalso;omega)
   refine Aw.normal ⟨by first|omega|decide,?_,?_⟩
   ·repeat (first|exact Ap.nil|refine Ap.same (by exact PV.Ac rfl) rfl ?_|refine Ap.cons trivial rfl (.of_eq (Au (by simp<;>omega))) ?_)
   ·repeat (first|exact Ak.nil|(refine Ak.cons (Aj rfl) ?_ rfl ?_ ?_;(first|exact HB.Ac rfl|exact AZ.Ag _ _|(simp [HB.under,AZ.under,PV.under]));(first|exact Bv.refl _|exact Bv.vec (Bl.refl _) (by simp))))
 ·repeat' (first|apply Ad.assoc|apply Ad.AA|apply Ad.A8|apply Aw.exit|apply Af.nil|apply Af.one|(apply Aa.move;rfl)|(apply Aa.int;rfl;rfl;rfl)|(apply Ad.Ae;rfl)|(intro _;try (exfalso;omega)))
  all_goals try (exfalso;omega)
  refine ⟨rfl,⟨Nat.le_refl _,?_,?_⟩⟩
  ·repeat (first|exact Ap.nil|refine Ap.same (by exact PV.Ac rfl) rfl ?_|refine Ap.cons trivial rfl (.of_eq (Au (by simp<;>omega))) ?_)
  ·repeat (first|exact Ak.nil|(refine Ak.cons (Aj rfl) ?_ rfl ?_ ?_;(first|exact HB.Ac rfl|exact AZ.Ag _ _|(simp [HB.under,AZ.under,PV.under]));(first|exact Bv.refl _|exact Bv.vec (Bl.refl _) (by simp))))
end Go.Proofs.YtdabojnmoejilaaGreatDoor
namespace Go.Proofs.YtdabojnmoejilaaGreatDoor
open Go Go.Am Go.Vm Go.Hun
attribute [local irreducible] Aa Af Aq Ad BF AX Ci AU AO Aw Vm.Done CS Bq
def a0s (costs:List (List Int)) (n m:Nat):PV:=.agg [.vec 5 n 0 n,.p (.int .i64 (Gx costs n m).total),.p (.lst 3 (cells (Kv costs n m)) n),.p (.lst 3 (cells (G5 costs n m)) m)]
theorem fE {costs:List (List Int)} {n m:Nat} {B:Int} (e:TypeId) (hc:Iz costs n m B) (hl:costs.length=n) (hrow:∀ r,r<n→(gi costs r).length=m) (hn:1≤n) (hm:m≤1000) :
 BF env 72 [.p (.lst e (cells costs) n)] [] 0 fun r H' nx'=>r=a0s costs n m∧H'=[(5,.vec 3 (cells (Gx costs n m).cols) n false)]∧nx'=6:=by
 have Xy:AX env 69 [.lst e (cells costs) n] (.p (.int .i64 (m:Int))):=by
  have:=MF e costs (by have:=hc.nm;omega)
  rw [hl] at this
  rwa [show vW costs=m from hrow 0 (by omega)] at this
 have hnm:=hc.nm
 have hB:=hc.big
 refine BF.enter (AB (by decide)) Tryz.func72 rfl (by kernel_rfl) (by simp [Tryz.ntmps72]) ?_
 repeat' (first|apply Ad.assoc|apply Ad.AA|apply Ad.Bj|apply Ad.Ai|apply Af.nil|apply Aq.nil|apply Af.one|(apply Aq.bar;decide +kernel)|apply Aq.quiet|(apply Aa.fn;rfl;rfl;exact Xy;intro _;rfl)|(apply Aa.ED (n+1) (0:Int);rfl;rfl;rfl;rfl;rfl;omega;omega;omega;decide;decide;rfl)|(apply Aa.ED (dst:=some 34) (m+1) (⟨0⟩:Ix);rfl;rfl;rfl;rfl;rfl;omega;omega;omega;decide;decide;rfl)|(apply Aa.ED (dst:=some 37) (m+1) (⟨0⟩:Ix);rfl;rfl;rfl;rfl;rfl;omega;omega;omega;decide;decide;rfl)|(apply Aa.ED (m+1) (0:Int);rfl;rfl;rfl;rfl;rfl;omega;omega;omega;decide;decide;rfl)|(apply Aa.assign;rfl)|(apply Aa.move;rfl)|(apply Aa.Bz;rfl;rfl;omega)|(apply Aa.BQ;rfl;rfl)|(apply Aa.alloc;rfl))
 apply Ad.EF (n) [(0,_),(2,_),(3,_),(4,_),(5,_),(6,_),(7,_),(8,_)] [(0,_)] (fun k r=>(9,.p (.int .i64 ((k+1:Nat):Int)))::r) (fun k r=>(1,.vec 3 (cells (Dk costs n m k).u) (n+1) false)::(2,.vec 3 (cells (Dk costs n m k).v) (m+1) false)::(3,.vec 3 (cells (Dk costs n m k).owner) (m+1) false)::(4,.vec 3 (cells (Dk costs n m k).way) (m+1) false)::r) 5
 ·first|omega|decide
 ·first|omega|decide
 ·repeat (first|exact Ap.nil|(refine Ap.eq rfl ?_ ?_;(first|exact PV.Ac rfl|(simp [PV.under,AZ.under];done)))|refine Ap.cons trivial rfl (.of_eq (Au (by simp<;>omega))) ?_)
 ·repeat (first|exact Ak.nil|(refine Ak.eq rfl (Aj rfl) ?_ ?_;(first|exact HB.Ac rfl|exact AZ.Ag _ _|(simp [HB.under,AZ.under,PV.under];done)))|(refine Ak.cons (Aj rfl) ?_ rfl ?_ ?_;(first|exact trivial|exact AZ.Ag _ _|(simp [HB.under,AZ.under,PV.under]));(first|exact Bv.refl _|exact Bv.vec (Bl.refl _) (by simp))))
 ·intro k hk
  have hS:=Oi hc k (by omega)
  have hS':=hS.step hc hk
  obtain ⟨hgo,hend,hT⟩:=ZB hS hc hk
  have hgr:=OZ hS hc hk
  have hback:=kM hS hc hk
  have hv0:=YX hS hc hk
  have b0o:=fG hc k (by omega)
  have ho:=YN hS
  have eS:Dk costs n m (k+1)=NZ costs m (Dk costs n m k) (k+1):=rfl
  have l1:=hS.lu
  have l2:=hS.lv
  have l3:=hS.lo
  have l4:=hS.lw
  rw [eS]
  generalize Dk costs n m k=s at *
  repeat' (first|(refine Aq.atIdx 3 ?_;refine Aq.ghost (AL.freeze 46 rfl rfl) ?_)|apply Ad.assoc|apply Ad.AA|apply Ad.Bj|apply Ad.Ar|apply Ad.Ai|apply Af.nil|apply Aq.nil|apply Af.one|(apply Aq.bar;decide +kernel)|apply Aq.quiet|(apply Aa.CU (y:=(⟨k+1⟩:Ix));rfl;rfl;rfl;trivial;(first|rfl|(refine congrArg (fun t=>[PV.p (FV.int _ t)]) ?_;first|omega|(simp only [Int.natCast_add,Int.natCast_mul,Int.natCast_ediv,Int.natCast_emod]<;>omega)));rfl;rfl;decide;(first|omega|(simp only [List.length_set]<;>omega)))|(apply Aa.fv;rfl;rfl;exact Uw 3 far (m+1) (by omega) (by omega))|(apply Aa.ED (m+1) false;rfl;rfl;rfl;rfl;rfl;omega;omega;omega;decide;decide;rfl)|(apply Aa.assign;rfl)|(apply Aa.move;rfl)|(apply Aa.Bz;rfl;rfl;omega)|(apply Aa.int;rfl;rfl;rfl)|(apply Aa.buildSlice;rfl;rfl;rfl;decide;rfl;rfl;rfl)|(apply Aa.kJ;rfl;rfl;rfl;rfl;omega;omega)|(apply Ad.Ae;rfl)|(intro _;try (exfalso;omega)))
  all_goals try (exfalso;omega)
  apply Ad.EF (Xh costs m s (k+1)) [(0,_),(2,_),(3,_),(4,_),(5,_),(6,_),(7,_),(8,_),(9,_),(11,_),(12,_)] [(0,_)] (fun k_ r=>(10,.p (.int .i64 ((Et costs (Jp s (k+1)) m (Ql m s) k_).at_:Int)))::r) (fun k_ r=>(1,.vec 3 (cells (Et costs (Jp s (k+1)) m (Ql m s) k_).u) (n+1) false)::(2,.vec 3 (cells (Et costs (Jp s (k+1)) m (Ql m s) k_).v) (m+1) false)::(3,.vec 3 (cells (Jp s (k+1))) (m+1) false)::(4,.vec 3 (cells (Et costs (Jp s (k+1)) m (Ql m s) k_).way) (m+1) false)::(6,.vec 3 (cells (Et costs (Jp s (k+1)) m (Ql m s) k_).least) (m+1) false)::(7,.vec 4 (cells (Et costs (Jp s (k+1)) m (Ql m s) k_).done) (m+1) false)::r) 8
  ·first|omega|decide
  ·first|omega|decide
  ·repeat (first|exact Ap.nil|(refine Ap.eq rfl ?_ ?_;(first|exact PV.Ac rfl|(simp [PV.under,AZ.under];done)))|refine Ap.cons trivial rfl (.of_eq (Au (by simp<;>omega))) ?_)
  ·repeat (first|exact Ak.nil|(refine Ak.eq rfl (Aj rfl) ?_ ?_;(first|exact HB.Ac rfl|exact AZ.Ag _ _|(simp [HB.under,AZ.under,PV.under];done)))|(refine Ak.cons (Aj rfl) ?_ rfl ?_ ?_;(first|exact trivial|exact AZ.Ag _ _|(simp [HB.under,AZ.under,PV.under]));(first|exact Bv.refl _|exact Bv.vec (Bl.refl _) (by simp))))
  ·intro t ht
   have hg:=hgr t fun p hp=>hgo p (by omega)
   have hr:=hgo t ht
   have hR:=J7 hg hc ho hk hr
   have hSh:=NW hg hc ho hk hr
   have hpre:=Yp hg hc ho hk hr
   have hub:∀ r,1≤r→r≤k+1→gi (Et costs (Jp s (k+1)) m (Ql m s) t).u r≤B:=fun r r1 r2=>hg.ule hc ho (by omega) r1 r2
   have hvb:∀ j,1≤j→j≤m→-B≤gi (Et costs (Jp s (k+1)) m (Ql m s) t).v j:=fun j j1 j2=>hg.vge hc ho (by omega) j1 j2
   have b1o:=hv0 t fun p hp=>hgo p (by omega)
   have eG:Et costs (Jp s (k+1)) m (Ql m s) (t+1)=GH costs (Jp s (k+1)) m (Et costs (Jp s (k+1)) m (Ql m s) t):=rfl
   have hat:MS costs m k s t=(Et costs (Jp s (k+1)) m (Ql m s) t).at_:=rfl
   have hle:=hg.le t (Nat.le_refl _)
   rw [hat] at hr hle
   rw [eG]
   generalize Et costs (Jp s (k+1)) m (Ql m s) t=g at *
   have a4m:=ho.lt hle
   have lo:=ho.len
   generalize Jp s (k+1)=o at *
   obtain ⟨row,hrw⟩:∃ row,row=(gi o g.at_).n:=⟨_,rfl⟩
   have hr1:1≤row:=by have:(gi o g.at_).n≠0:=hr;omega
   have hr2:row≤k+1:=by rw [hrw];exact a4m
   have m1:=hg.lu
   have m2:=hg.lv
   have m3:=hg.lw
   have m4:=hg.ll
   have m5:=hg.ld
   have eR:GH costs o m g=⟨(Ia o (CP g) (DV costs o m g).delta ⟨g.u,g.v,(DV costs o m g).least⟩ (m+1)).u,(Ia o (CP g) (DV costs o m g).delta ⟨g.u,g.v,(DV costs o m g).least⟩ (m+1)).v,(DV costs o m g).way,(Ia o (CP g) (DV costs o m g).delta ⟨g.u,g.v,(DV costs o m g).least⟩ (m+1)).least,CP g,(DV costs o m g).next⟩:=rfl
   rw [eR]
   have hD9:(CP g).length=m+1:=by unfold CP;rw [List.length_set,m5]
   have hrl:(gi costs ((gi o g.at_).n-1)).length=m:=hrow _ (by omega)
   have Uc:∀ j,0≤gi (gi costs ((gi o g.at_).n-1)) j∧gi (gi costs ((gi o g.at_).n-1)) j≤B:=fun j=>⟨hc.lo (gi o g.at_).n (j+1),hc.hi (gi o g.at_).n (j+1)⟩
   have hu0:=hg.UG (gi o g.at_).n (by omega) (by omega)
   have hu1:=hub (gi o g.at_).n (by omega) (by omega)
   have hs1:FP .sub .i64 ((gi o g.at_).n:Int) 1=some (.int .i64 (((gi o g.at_).n-1:Nat):Int)):=by
    simp only [FP]
    rw [wrap_i64 (by omega)]
    congr 2;omega
   have hdn:∀ j,j≤m→gi (CP g) j=true→1≤(gi o j).n∧(gi o j).n≤k+1:=fun j hj hd=>by
    obtain ⟨p,p1,p2⟩:=(hR.doneD j).1 hd
    have h1:=ho.lt hj
    refine ⟨?_,h1⟩
    rcases Nat.lt_or_ge p t with h|h
    ·have:=hg.nO p h
     rw [p2] at this
     unfold Hun.own at this
     omega
    ·obtain rfl:p=t:=by omega
     have h2:=hr
     rw [← hat,p2] at h2
     unfold Hun.own at h2
     omega
   clear hs1
   have hkB:(k:Int)*B≤1000*1000000000000:=Int.mul_le_mul (by omega) hB.2 hB.1 (by omega)
   repeat' (first|apply Ad.assoc|apply Ad.AA|apply Ad.Ar|apply Ad.Ai|apply Ad.Fv|apply Af.nil|apply Af.one|(apply Aa.CU (y:=true);rfl;rfl;rfl;trivial;(first|rfl|(refine congrArg (fun t=>[PV.p (FV.int _ t)]) ?_;first|omega|(simp only [Int.natCast_add,Int.natCast_mul,Int.natCast_ediv,Int.natCast_emod]<;>omega)));rfl;rfl;decide;(first|omega|(simp only [List.length_set]<;>omega)))|(apply Aa.assign;rfl)|(apply Aa.move;rfl)|(apply Aa.int;rfl;rfl;rfl)|(apply Aa.BH;rfl;rfl;omega;rfl)|(apply Aa.BD;rfl;rfl;rfl;rfl;omega)|(apply Ad.Ae;rfl)|(intro _;try (exfalso;omega)))
   all_goals try (exfalso;omega)
   refine Ad.blk (pU (e:=e) (k:=k) (row:=(gi o g.at_).n) (a:=g.at_) (u:=g.u) (v:=g.v) (o:=o) (done:=CP g) (s0:=⟨g.least,g.way,far,0⟩) hB hl hm (by omega) ⟨by omega,by omega⟩ hrl Uc m1 m2 hD9 m4 m3 ⟨hu0,hu1⟩ fun j j1 j2=>⟨hvb j j1 j2,hg.aA j j1 j2⟩) (by omega) (by omega) ?_ ?_ ?_
   ·repeat (first|exact Ap.nil|refine Ap.same (by exact PV.Ac rfl) rfl ?_|refine Ap.cons trivial rfl (.of_eq (Au (by simp<;>omega))) ?_)
   ·repeat (first|exact Ak.nil|(refine Ak.cons (Aj rfl) ?_ rfl ?_ ?_;(first|exact HB.Ac rfl|exact AZ.Ag _ _|(simp [HB.under,AZ.under,PV.under]));(first|exact Bv.refl _|exact Bv.vec (Bl.refl _) (by simp))))
   ·have eC:KI (gi costs ((gi o g.at_).n-1)) (gi g.u (gi o g.at_).n) g.v (CP g) g.at_ ⟨g.least,g.way,far,0⟩ m=DV costs o m g:=rfl
    rw [eC]
    generalize DV costs o m g=sc at *
    have n1:=hR.ll
    have n2:=hR.lw
    repeat' (first|apply Ad.assoc|apply Ad.AA|apply Ad.Ai|apply AU.normal|apply AO.exit|apply Af.nil|apply Af.one|(apply Aa.move;rfl)|(apply Aa.lenV;rfl;rfl;rfl))
    all_goals try (exfalso;omega)
    refine Ad.blk (gy (e:=e) (costs:=costs) (k:=k) (nxt:=sc.next) (o:=o) (way:=sc.way) (done:=CP g) (t0:=⟨g.u,g.v,sc.least⟩) ⟨hR.d0,by have:=hR.dB;omega⟩ hm (by omega) m1 m2 n1 lo hD9 hpre.1 hpre.2 (fun j hj hd=>?_) (fun j hj=>?_) (fun j hj hd=>?_)) (by omega) (by omega) ?_ ?_ ?_
    ·have:=hdn j hj hd
     exact ⟨hg.UG _ this.1 this.2,Int.le_trans (hub _ this.1 this.2) hB.2⟩
    ·show -2000000000000000≤gi g.v j∧gi g.v j≤0
     rcases Nat.eq_zero_or_pos j with h|h
     ·subst h
      have:=hg.UG (k+1) (by omega) (Nat.le_refl _)
      have:=hub (k+1) (by omega) (Nat.le_refl _)
      omega
     ·have:=hvb j h hj
      exact ⟨by omega,hg.aA j h hj⟩
    ·have h0:1≤j:=by
      rcases Nat.eq_zero_or_pos j with h|h
      ·subst h
       rw [(hR.doneD 0).2 ⟨0,by omega,hg.zero⟩] at hd
       cases hd
      ·exact h
     obtain ⟨p,p1,p2,p3⟩:=hR.WH j h0 hj hd
     have h1:=hR.dle j h0 hj hd
     have h2:=hR.d0
     have h3:=hvb j h0 hj
     have h4:=hc.hi (Hun.own o (MS costs m k s p)) j
     have h5:0≤gi g.u (Hun.own o (MS costs m k s p)):=by
      have hp1:Hun.own o (MS costs m k s p)≠0:=by
       rcases Nat.lt_or_ge p t with h|h
       ·exact hg.nO p h
       ·obtain rfl:p=t:=by omega
        rw [hat];exact hr
      exact hg.UG _ (by omega) (ho.lt (hg.le p (by omega)))
     have hf:far=1152921504606846976:=rfl
     show 0≤gi sc.least j∧gi sc.least j≤far
     omega
    ·repeat (first|exact Ap.nil|refine Ap.same (by exact PV.Ac rfl) rfl ?_|refine Ap.cons trivial rfl (.of_eq (Au (by simp<;>omega))) ?_)
    ·repeat (first|exact Ak.nil|(refine Ak.cons (Aj rfl) ?_ rfl ?_ ?_;(first|exact HB.Ac rfl|exact AZ.Ag _ _|(simp [HB.under,AZ.under,PV.under]));(first|exact Bv.refl _|exact Bv.vec (Bl.refl _) (by simp))))
    ·repeat' (first|apply Ad.region|apply AU.normal|apply AO.normal|apply AO.exit|apply Af.nil|apply Af.one|(apply Aa.assign;rfl)|(apply Aa.move;rfl))
     all_goals try (exfalso;omega)
     refine Aw.normal ⟨by first|omega|decide,?_,?_⟩
     ·repeat (first|exact Ap.nil|refine Ap.same (by exact PV.Ac rfl) rfl ?_|refine Ap.cons trivial rfl (.of_eq (Au (by simp<;>omega))) ?_)
     ·repeat (first|exact Ak.nil|(refine Ak.cons (Aj rfl) ?_ rfl ?_ ?_;(first|exact HB.Ac rfl|exact AZ.Ag _ _|(simp [HB.under,AZ.under,PV.under]));(first|exact Bv.refl _|exact Bv.vec (Bl.refl _) (by simp))))
  ·have h0:(gi (Jp s (k+1)) (Et costs (Jp s (k+1)) m (Ql m s) (Xh costs m s (k+1))).at_).n=0:=hend
   have hg:=hgr _ hgo
   have hle:=hg.le _ (Nat.le_refl _)
   have hat:MS costs m k s (Xh costs m s (k+1))=(Et costs (Jp s (k+1)) m (Ql m s) (Xh costs m s (k+1))).at_:=rfl
   rw [hat] at hle
   have lo:=ho.len
   have eE:Et costs (Jp s (k+1)) m (Ql m s) (Xh costs m s (k+1))=LZ costs m s (k+1):=rfl
   rw [eE] at h0 hle hg hat ⊢
   repeat' (first|apply Ad.assoc|apply Ad.AA|apply Ad.A8|apply AU.normal|apply AO.exit|apply Aw.exit|apply Ad.Fv|apply Af.nil|apply Af.one|(apply Aa.move;rfl)|(apply Aa.int;rfl;rfl;rfl)|(apply Aa.BH;rfl;rfl;omega;rfl)|(apply Aa.BD;rfl;rfl;rfl;rfl;omega)|(apply Ad.Ae;rfl)|(intro _;try (exfalso;omega)))
   all_goals try (exfalso;omega)
   have hA:∀ t,t≤yu costs m s (k+1)→(G9 (LZ costs m s (k+1)).way (stA costs m s (k+1)) t).owner.length=m+1∧(G9 (LZ costs m s (k+1)).way (stA costs m s (k+1)) t).at_≤m:=fun t ht=>by
    obtain ⟨q,q1,q2⟩:=hback.inv t ht
    exact ⟨q2.len,by rw [q2.at_];exact (hgr q fun p hp=>hgo p (by omega)).le q (Nat.le_refl _)⟩
   refine Ad.blk (tq (e:=e) (costs:=costs) (n:=n) (k:=k) (u:=(LZ costs m s (k+1)).u) (v:=(LZ costs m s (k+1)).v) (a:=stA costs m s (k+1)) hm hg.lw (fun t ht=>(hA t ht).1) hback.go (fun t ht=>(hA t ht).2) hback.fin) (by omega) (by omega) ?_ ?_ ?_
   ·repeat (first|exact Ap.nil|refine Ap.same (by exact PV.Ac rfl) rfl ?_|refine Ap.cons trivial rfl (.of_eq (Au (by simp<;>omega))) ?_)
   ·repeat (first|exact Ak.nil|(refine Ak.cons (Aj rfl) ?_ rfl ?_ ?_;(first|exact HB.Ac rfl|exact AZ.Ag _ _|(simp [HB.under,AZ.under,PV.under]));(first|exact Bv.refl _|exact Bv.vec (Bl.refl _) (by simp))))
   ·repeat' (first|apply Ad.region|apply AU.normal|apply AO.normal|apply AO.exit|apply Af.nil|apply Af.one|(apply Aa.assign;rfl)|(apply Aa.move;rfl)|(apply Aa.Bz;rfl;rfl;omega))
    all_goals try (exfalso;omega)
    refine Aw.normal ⟨by first|omega|decide,?_,?_⟩
    ·repeat (first|exact Ap.nil|refine Ap.same (by exact PV.Ac rfl) rfl ?_|refine Ap.cons trivial rfl (.of_eq (Au (by simp<;>omega))) ?_)
    ·repeat (first|exact Ak.nil|(refine Ak.cons (Aj rfl) ?_ rfl ?_ ?_;(first|exact HB.Ac rfl|exact AZ.Ag _ _|(simp [HB.under,AZ.under,PV.under]));(first|exact Bv.refl _|exact Bv.vec (Bl.refl _) (by simp))))
 ·have hS:=Oi hc n (Nat.le_refl _)
  have hO:=WE hS
  have hs:=WZ hc
  have l1:=hS.lu
  have l2:=hS.lv
  have l3:=hS.lo
  have eO:KW costs (Dk costs n m n).owner n m=Gx costs n m:=rfl
  have eU:(Dk costs n m n).u.drop 1=Kv costs n m:=rfl
  have eV:(Dk costs n m n).v.drop 1=G5 costs n m:=rfl
  have htot:∀ j,j≤m→0≤(KW costs (Dk costs n m n).owner n j).total∧(KW costs (Dk costs n m n).owner n j).total≤1000000000000000:=fun j hj=>by
   rw [(hO j hj).total]
   have h1:=iR (f:=fun k=>if 0<Hun.own (Dk costs n m n).owner (k+1) then cst costs (Hun.own (Dk costs n m n).owner (k+1)) (k+1) else 0) (a:=0) (b:=1000000000000) (n:=j) fun k hk=>by
    split
    ·exact ⟨hc.lo _ _,Int.le_trans (hc.hi _ _) hB.2⟩
    ·exact ⟨Int.le_refl _,by decide⟩
   omega
  generalize Dk costs n m n=s at *
  repeat' (first|(refine Ad.at 34 ?_;refine Ad.ghost (AL.freeze 5 rfl rfl) ?_;first|apply Ad.AA|apply Ad.Bj)|(refine Aq.atIdx 4 ?_;refine Aq.ghost (AL.freeze 6 rfl rfl) ?_)|apply Ad.assoc|apply Ad.AA|apply Ad.A8|apply Ad.Ai|apply AU.normal|apply AO.exit|apply Aw.exit|apply Af.nil|apply Aq.nil|apply Af.one|(apply Aq.bar;decide +kernel)|apply Aq.quiet|(apply Aa.ED n (0:Int);rfl;rfl;rfl;rfl;rfl;rfl;rfl;omega;decide;decide;rfl)|(apply Aa.sliceFrom (l:=s.u) (a:=1);rfl;rfl;rfl;rfl;rfl;exact l1;omega)|(apply Aa.sliceFrom (l:=s.v) (a:=1);rfl;rfl;rfl;rfl;rfl;exact l2;omega)|(apply Aa.assign;rfl)|(apply Aa.move;rfl)|(apply Aa.int;rfl;rfl;rfl)|(apply Aa.alloc;rfl)|(apply Aa.Bd;rfl;rfl;rfl;trivial;rfl;rfl;exact Aj rfl;exact le_dec rfl)|(apply Aa.build;rfl;rfl;rfl;rfl;rfl)|(apply Ad.Ae;rfl)|(intro _;try (exfalso;omega)))
  all_goals try (exfalso;omega)
  have e1:costs.length=n:=hl
  refine Ad.blk (xA (e:=e) (costs:=costs) (n:=n) (m:=m) (U:=s.u.drop 1) (V:=s.v.drop 1) (o:=s.owner) hm (by omega) hl hrow l3 (fun j j1 j2=>hS.own j j1 j2) (fun j hj=>(hO j hj).len) (fun r j=>⟨hc.lo (r+1) (j+1),Int.le_trans (hc.hi (r+1) (j+1)) hB.2⟩) htot) (by omega) (by omega) ?_ ?_ ?_
  ·repeat (first|exact Ap.nil|refine Ap.same (by exact PV.Ac rfl) rfl ?_|refine Ap.cons trivial rfl (.of_eq (Au (by simp<;>omega))) ?_)
  ·repeat (first|exact Ak.nil|(refine Ak.cons (Aj rfl) ?_ rfl ?_ ?_;(first|exact HB.Ac rfl|exact AZ.Ag _ _|(simp [HB.under,AZ.under,PV.under]));(first|exact Bv.refl _|exact Bv.vec (Bl.refl _) (by simp))))
  ·rw [eO,eU,eV]
   repeat' (first|apply Ad.AA|apply AU.normal|apply AO.exit|apply Ad.ret|apply Af.nil|apply Af.one|(apply Aa.load;rfl;rfl)|(apply Aa.Bd;rfl;rfl;rfl;trivial;rfl;rfl;exact Aj rfl;exact le_dec rfl))
   all_goals try (exfalso;omega)
   refine Done.ret (H0:=[(5,.vec 3 (cells (Gx costs n m).cols) n false)]) (D6:=6) rfl (.refl _) ⟨Aj rfl,trivial,trivial,trivial,trivial⟩ ?_ (by omega) (by omega) ⟨rfl,rfl,rfl⟩
   repeat (first|exact Ak.nil|(refine Ak.cons (Aj rfl) ?_ rfl ?_ ?_;(first|exact HB.Ac rfl|exact AZ.Ag _ _|(simp [HB.under,AZ.under,PV.under]));(first|exact Bv.refl _|exact Bv.vec (Bl.refl _) (by simp))))
end Go.Proofs.YtdabojnmoejilaaGreatDoor
namespace Go.Proofs.YtdabojnmoejilaaGreatDoor
open Go Go.Am Go.Vm Go.Hun
attribute [local irreducible] Aa Af Aq Ad BF AX Ci AU AO Aw Vm.Done CS Bq
theorem Vd {L:Vm.Frame} {H:Vm.Heap} {nx:Nat} {Q:PV→Vm.Heap→Nat→Prop} {dst:Option Tmp} {ty:TypeId} {pos:String} {af:Array Edge} {gd:Option (Nat×Bool)} {fo:Operand} {args:Array Operand} {aT:Array TypeId} {fs cs xs:List PV} {c:Code}
 (hf:BG env.Γ L fo=some (.clo 75 fs cs)) (ha:evs env.Γ L args.toList=some xs) (hb:Tryz.f75.body=some c) (hn:(fs++xs++cs).length≤Tryz.f75.ntmps)
 (h:Ad env nx c (CQ 0 (fs++xs++cs)) H nx (Bq env.P Tryz.f75.results.toList Q)):Aa env true ⟨dst,.call { callee:=.value fo,args:=args,argTypes:=aT },ty,pos,af,gd⟩ L H nx Q:=by
 have h0:(match Tryz.f75.body with|some c=>H6 env.G Tryz.f75 c|none=>false)=true:=by kernel_rfl
 rw [hb] at h0
 exact Aa.inline rfl hf ha (AB (by decide)) Tryz.func75 hb h0 hn h
theorem Vf {L:Vm.Frame} {H:Vm.Heap} {nx:Nat} {Q:PV→Vm.Heap→Nat→Prop} {dst:Option Tmp} {ty:TypeId} {pos:String} {af:Array Edge} {gd:Option (Nat×Bool)} {fo:Operand} {args:Array Operand} {aT:Array TypeId} {fs cs xs:List PV} {c:Code}
 (hf:BG env.Γ L fo=some (.clo 104 fs cs)) (ha:evs env.Γ L args.toList=some xs) (hb:Tryz.f104.body=some c) (hn:(fs++xs++cs).length≤Tryz.f104.ntmps)
 (h:Ad env nx c (CQ 0 (fs++xs++cs)) H nx (Bq env.P Tryz.f104.results.toList Q)):Aa env true ⟨dst,.call { callee:=.value fo,args:=args,argTypes:=aT },ty,pos,af,gd⟩ L H nx Q:=by
 have h0:(match Tryz.f104.body with|some c=>H6 env.G Tryz.f104 c|none=>false)=true:=by kernel_rfl
 rw [hb] at h0
 exact Aa.inline rfl hf ha (AB (by decide)) Tryz.func104 hb h0 hn h
theorem yC {L:Vm.Frame} {H:Vm.Heap} {nx:Nat} {Q:PV→Vm.Heap→Nat→Prop} {dst:Option Tmp} {ty:TypeId} {pos:String} {af:Array Edge} {gd:Option (Nat×Bool)} {fo:Operand} {args:Array Operand} {aT:Array TypeId} {fs cs xs:List PV} {c:Code}
 (hf:BG env.Γ L fo=some (.clo 101 fs cs)) (ha:evs env.Γ L args.toList=some xs) (hb:Tryz.f101.body=some c) (hn:(fs++xs++cs).length≤Tryz.f101.ntmps)
 (h:Ad env nx c (CQ 0 (fs++xs++cs)) H nx (Bq env.P Tryz.f101.results.toList Q)):Aa env true ⟨dst,.call { callee:=.value fo,args:=args,argTypes:=aT },ty,pos,af,gd⟩ L H nx Q:=by
 have h0:(match Tryz.f101.body with|some c=>H6 env.G Tryz.f101 c|none=>false)=true:=by kernel_rfl
 rw [hb] at h0
 exact Aa.inline rfl hf ha (AB (by decide)) Tryz.func101 hb h0 hn h
structure QC (l:List (List Int)) (n m:Nat) (skip B:Int):Prop where
 XF:yS l n m skip B
 n60:n≤60
 zq:m≤120
 B9:B≤1000000000
 m0:n=0→m=0
theorem QC.cols {l:List (List Int)} {n m:Nat} {skip B:Int} (h:QC l n m skip B):vW l=m:=by
 rcases Nat.eq_zero_or_pos n with h0|h0
 ·have:l=[]:=List.length_eq_zero_iff.1 (by rw [h.XF.len];exact h0)
  rw [this,h.m0 h0]
  rfl
 ·exact h.XF.row 0 h0
theorem dw {l:List (List Int)} {n m:Nat} {skip B:Int} (e:TypeId) (h:QC l n m skip B):AX env 73 [.lst e (cells l) l.length,.bool false] (.p (.int .i64 0)):=by
 have h1:=h.XF.len
 have h2:=h.n60
 have h3:=h.zq
 have h4:=h.B9
 have Xy:=h.cols
 have hrow:=h.XF.row
 have uJ:=h.XF.rng
 refine AX.enter (AB (by decide)) Tryz.func73 rfl (by kernel_rfl) (by simp [Tryz.ntmps73]) ?_
 rcases Nat.eq_zero_or_pos n with h0|h0
 ·have hl0:l=[]:=List.length_eq_zero_iff.1 (by omega)
  subst hl0
  repeat' (first|apply Ad.assoc|apply Ad.AA|apply Ad.Ar|apply Ad.Ai|apply Af.nil|apply Af.one|(apply Af.take;rfl;rfl)|(apply Af.drop;rfl;rfl;rfl)|(apply Aa.assign;rfl)|(apply Aa.move;rfl)|(apply Aa.int;rfl;rfl;rfl)|(apply Aa.AQ;rfl;rfl)|(apply Aa.BQ;rfl;rfl)|(apply Ad.Az;rfl))
  all_goals try (exfalso;omega)
  all_goals try contradiction
  apply Ad.EF (0) [(0,_),(1,_),(24,_),(25,_)] [] (fun k r=>(26,.p (.int .i64 (k:Int)))::r) (fun k r=>r) 0
  ·first|omega|decide
  ·first|omega|decide
  ·repeat (first|exact Ap.nil|(refine Ap.eq rfl ?_ ?_;(first|exact PV.Ac rfl|(simp [PV.under,AZ.under];done)))|refine Ap.cons trivial rfl (.of_eq (Au (by simp<;>omega))) ?_)
  ·repeat (first|exact Ak.nil|(refine Ak.eq rfl (Aj rfl) ?_ ?_;(first|exact HB.Ac rfl|exact AZ.Ag _ _|(simp [HB.under,AZ.under,PV.under];done)))|(refine Ak.cons (Aj rfl) ?_ rfl ?_ ?_;(first|exact trivial|exact AZ.Ag _ _|(simp [HB.under,AZ.under,PV.under]));(first|exact Bv.refl _|exact Bv.vec (Bl.refl _) (by simp))))
  ·intro k hk;omega
  ·repeat' (first|apply Ad.assoc|apply Ad.AA|apply Ad.Ar|apply Ad.A8|apply Ad.Ai|apply AU.normal|apply AO.exit|apply Aw.exit|apply Af.nil|apply Af.one|(apply Af.drop;rfl;rfl;rfl)|(apply Aa.move;rfl)|(apply Aa.int;rfl;rfl;rfl)|(apply Aa.AQ;rfl;rfl)|(apply Aa.BQ;rfl;rfl)|(apply Ad.Az;rfl))
   all_goals try (exfalso;omega)
   all_goals try contradiction
   apply Ad.EF (0) [(0,_),(53,_),(54,_)] [] (fun k r=>(55,.p (.int .i64 (k:Int)))::r) (fun k r=>r) 0
   ·first|omega|decide
   ·first|omega|decide
   ·repeat (first|exact Ap.nil|(refine Ap.eq rfl ?_ ?_;(first|exact PV.Ac rfl|(simp [PV.under,AZ.under];done)))|refine Ap.cons trivial rfl (.of_eq (Au (by simp<;>omega))) ?_)
   ·repeat (first|exact Ak.nil|(refine Ak.eq rfl (Aj rfl) ?_ ?_;(first|exact HB.Ac rfl|exact AZ.Ag _ _|(simp [HB.under,AZ.under,PV.under];done)))|(refine Ak.cons (Aj rfl) ?_ rfl ?_ ?_;(first|exact trivial|exact AZ.Ag _ _|(simp [HB.under,AZ.under,PV.under]));(first|exact Bv.refl _|exact Bv.vec (Bl.refl _) (by simp))))
   ·intro k hk;omega
   ·repeat' (first|apply Ad.AA|apply Ad.A8|apply AU.normal|apply AO.exit|apply Aw.exit|apply Ad.ret|apply Af.nil|apply Af.one|(apply Aa.assign;rfl)|(apply Aa.int;rfl;rfl;rfl)|(apply Ad.Az;rfl))
    all_goals first|(exfalso;omega)|contradiction|(refine Done.ret rfl (.refl _) (by exact PV.Ac rfl) Ak.nil (Nat.zero_le _) (Nat.le_refl _) ⟨?_,rfl,rfl⟩;try rfl)
 ·have hr0:=hrow 0 h0
  have hc0:(gi l 0).length=m:=hr0
  repeat' (first|apply Ad.assoc|apply Ad.AA|apply Ad.Ar|apply Ad.Ai|apply Af.nil|apply Af.one|(apply Af.take;rfl;rfl)|(apply Af.guard;rfl;rfl)|(apply Aa.Ba (l:=l) (i:=0);rfl;rfl;rfl;omega;rfl)|(apply Aa.assign;rfl)|(apply Aa.move;rfl)|(apply Aa.int;rfl;rfl;rfl)|(apply Aa.load;rfl;rfl)|(apply Aa.Bo;rfl;rfl)|(apply Aa.AQ;rfl;rfl)|(apply Aa.BQ;rfl;rfl)|(apply Ad.Ae;rfl)|(intro _;try (exfalso;omega)))
  all_goals try (exfalso;omega)
  all_goals try contradiction
  apply Ad.EF (l.length) [(0,_),(1,_),(24,_),(25,_)] [] (fun k r=>(26,.p (.int .i64 (k:Int)))::r) (fun k r=>r) 0
  ·first|omega|decide
  ·first|omega|decide
  ·repeat (first|exact Ap.nil|(refine Ap.eq rfl ?_ ?_;(first|exact PV.Ac rfl|(simp [PV.under,AZ.under];done)))|refine Ap.cons trivial rfl (.of_eq (Au (by simp<;>omega))) ?_)
  ·repeat (first|exact Ak.nil|(refine Ak.eq rfl (Aj rfl) ?_ ?_;(first|exact HB.Ac rfl|exact AZ.Ag _ _|(simp [HB.under,AZ.under,PV.under];done)))|(refine Ak.cons (Aj rfl) ?_ rfl ?_ ?_;(first|exact trivial|exact AZ.Ag _ _|(simp [HB.under,AZ.under,PV.under]));(first|exact Bv.refl _|exact Bv.vec (Bl.refl _) (by simp))))
  ·intro k hk
   have hrk:=hrow k (by omega)
   repeat' (first|apply Ad.AA|apply Ad.region|apply Ad.Ar|apply Ad.Ai|apply AU.normal|apply AO.normal|apply Ad.skip|apply Af.nil|apply Af.one|(apply Aa.Ba (l:=l) (i:=k);rfl;rfl;rfl;omega;rfl)|(apply Aa.Ba (l:=l) (i:=0);rfl;rfl;rfl;omega;rfl)|(apply Aa.assign;rfl)|(apply Aa.move;rfl)|(apply Aa.Bz;rfl;rfl;omega)|(apply Aa.int;rfl;rfl;rfl)|(apply Aa.load;rfl;rfl)|(apply Aa.BQ;rfl;rfl)|(apply Ad.Ae;rfl)|(apply Ad.AY;rfl)|(intro _;try (exfalso;omega)))
   all_goals try (exfalso;omega)
   refine Aw.normal ⟨by first|omega|decide,?_,?_⟩
   ·repeat (first|exact Ap.nil|refine Ap.same (by exact PV.Ac rfl) rfl ?_|refine Ap.cons trivial rfl (.of_eq (Au (by simp<;>omega))) ?_)
   ·repeat (first|exact Ak.nil|(refine Ak.cons (Aj rfl) ?_ rfl ?_ ?_;(first|exact HB.Ac rfl|exact AZ.Ag _ _|(simp [HB.under,AZ.under,PV.under]));(first|exact Bv.refl _|exact Bv.vec (Bl.refl _) (by simp))))
  ·repeat' (first|apply Ad.assoc|apply Ad.AA|apply Ad.Ar|apply Ad.A8|apply Ad.Ai|apply AU.normal|apply AO.exit|apply Aw.exit|apply Af.nil|apply Af.one|(apply Af.drop;rfl;rfl;rfl)|(apply Aa.move;rfl)|(apply Aa.int;rfl;rfl;rfl)|(apply Aa.AQ;rfl;rfl)|(apply Aa.BQ;rfl;rfl)|(apply Ad.Az;rfl)|(apply Ad.Ae;rfl)|(intro _;try (exfalso;omega)))
   all_goals try (exfalso;omega)
   all_goals try contradiction
   apply Ad.EF (l.length) [(0,_),(53,_),(54,_)] [] (fun k r=>(55,.p (.int .i64 (k:Int)))::r) (fun k r=>r) 0
   ·first|omega|decide
   ·first|omega|decide
   ·repeat (first|exact Ap.nil|(refine Ap.eq rfl ?_ ?_;(first|exact PV.Ac rfl|(simp [PV.under,AZ.under];done)))|refine Ap.cons trivial rfl (.of_eq (Au (by simp<;>omega))) ?_)
   ·repeat (first|exact Ak.nil|(refine Ak.eq rfl (Aj rfl) ?_ ?_;(first|exact HB.Ac rfl|exact AZ.Ag _ _|(simp [HB.under,AZ.under,PV.under];done)))|(refine Ak.cons (Aj rfl) ?_ rfl ?_ ?_;(first|exact trivial|exact AZ.Ag _ _|(simp [HB.under,AZ.under,PV.under]));(first|exact Bv.refl _|exact Bv.vec (Bl.refl _) (by simp))))
   ·intro k hk
    have hrk:=hrow k (by omega)
    repeat' (first|apply Ad.assoc|apply Ad.AA|apply Ad.Ar|apply Ad.Ai|apply Af.nil|apply Af.one|(apply Vd;rfl;rfl;rfl;exact le_dec rfl)|(apply Vf;rfl;rfl;rfl;exact le_dec rfl)|(apply Aa.assign;rfl)|(apply Aa.move;rfl)|(apply Aa.int;rfl;rfl;rfl)|(apply Aa.Ba;rfl;rfl;rfl;omega;rfl)|(apply Aa.load;rfl;rfl)|(apply Aa.BQ;rfl;rfl)|(apply Ad.Ae;rfl)|(intro _;try (exfalso;omega)))
    all_goals try (exfalso;omega)
    apply Ad.EF ((gi l k).length) [(0,_),(1,_),(7,_)] [] (fun k_ r=>(8,.p (.int .i64 (k_:Int)))::r) (fun k_ r=>r) 0
    ·first|omega|decide
    ·first|omega|decide
    ·repeat (first|exact Ap.nil|(refine Ap.eq rfl ?_ ?_;(first|exact PV.Ac rfl|(simp [PV.under,AZ.under];done)))|refine Ap.cons trivial rfl (.of_eq (Au (by simp<;>omega))) ?_)
    ·repeat (first|exact Ak.nil|(refine Ak.eq rfl (Aj rfl) ?_ ?_;(first|exact HB.Ac rfl|exact AZ.Ag _ _|(simp [HB.under,AZ.under,PV.under];done)))|(refine Ak.cons (Aj rfl) ?_ rfl ?_ ?_;(first|exact trivial|exact AZ.Ag _ _|(simp [HB.under,AZ.under,PV.under]));(first|exact Bv.refl _|exact Bv.vec (Bl.refl _) (by simp))))
    ·intro j hj
     have hb:=uJ k j (by omega) (by omega)
     repeat' (first|apply Ad.AA|apply Ad.region|apply Ad.Ar|apply Ad.Ai|apply AU.normal|(apply Bq.ret;rfl)|apply AO.normal|apply Ad.ret|apply Ad.skip|apply Af.nil|apply Af.one|(apply Af.take;rfl;rfl)|(apply Af.guard;rfl;rfl)|(apply yC;rfl;rfl;rfl;exact le_dec rfl)|(apply Aa.assign;rfl)|(apply Aa.move;rfl)|(apply Aa.Bz;rfl;rfl;omega)|(apply Aa.int;rfl;rfl;rfl)|(apply Aa.Ba;rfl;rfl;rfl;omega;rfl)|(apply Aa.load;rfl;rfl)|(apply Aa.AQ;rfl;rfl)|(apply Ad.Ae;rfl)|(apply Ad.AY;rfl)|(intro _;try (exfalso;omega)))
     all_goals try (exfalso;omega)
     refine Aw.normal ⟨by first|omega|decide,?_,?_⟩
     ·repeat (first|exact Ap.nil|refine Ap.same (by exact PV.Ac rfl) rfl ?_|refine Ap.cons trivial rfl (.of_eq (Au (by simp<;>omega))) ?_)
     ·repeat (first|exact Ak.nil|(refine Ak.cons (Aj rfl) ?_ rfl ?_ ?_;(first|exact HB.Ac rfl|exact AZ.Ag _ _|(simp [HB.under,AZ.under,PV.under]));(first|exact Bv.refl _|exact Bv.vec (Bl.refl _) (by simp))))
    ·repeat' (first|apply Ad.AA|apply Ad.region|apply Ad.A8|apply AU.normal|(apply Bq.ret;rfl)|apply AO.normal|apply AO.exit|apply Aw.exit|apply Ad.ret|apply Ad.skip|apply Af.nil|apply Af.one|(apply Aa.assign;rfl)|(apply Aa.move;rfl)|(apply Aa.Bz;rfl;rfl;omega)|(apply Aa.int;rfl;rfl;rfl)|(apply Ad.Ae;rfl)|(apply Ad.cond_false;rfl)|(intro _;try (exfalso;omega)))
     all_goals try (exfalso;omega)
     all_goals try contradiction
     refine Aw.normal ⟨by first|omega|decide,?_,?_⟩
     ·repeat (first|exact Ap.nil|refine Ap.same (by exact PV.Ac rfl) rfl ?_|refine Ap.cons trivial rfl (.of_eq (Au (by simp<;>omega))) ?_)
     ·repeat (first|exact Ak.nil|(refine Ak.cons (Aj rfl) ?_ rfl ?_ ?_;(first|exact HB.Ac rfl|exact AZ.Ag _ _|(simp [HB.under,AZ.under,PV.under]));(first|exact Bv.refl _|exact Bv.vec (Bl.refl _) (by simp))))
   ·repeat' (first|apply Ad.AA|apply Ad.A8|apply AU.normal|apply AO.exit|apply Aw.exit|apply Ad.ret|apply Af.nil|apply Af.one|(apply Aa.assign;rfl)|(apply Aa.int;rfl;rfl;rfl)|(apply Ad.Ae;rfl)|(intro _;try (exfalso;omega)))
    all_goals first|(exfalso;omega)|contradiction|(refine Done.ret rfl (.refl _) (by exact PV.Ac rfl) Ak.nil (Nat.zero_le _) (Nat.le_refl _) ⟨?_,rfl,rfl⟩;try rfl)
theorem MB {l:List (List Int)} {n m:Nat} {skip B:Int} (e:TypeId) (h:QC l n m skip B):AX env 46 [.lst e (cells l) l.length,.int .i64 skip] (.p (.int .i64 0)):=by
 have hc:=dw e h
 have h4:=h.B9
 have h5:=h.XF.skip
 refine AX.enter (AB (by decide)) Tryz.func46 rfl (by kernel_rfl) (by simp [Tryz.ntmps46]) ?_
 repeat' (first|apply Ad.assoc|apply Ad.AA|apply Ad.Ar|apply Ad.ret|apply Af.nil|apply Af.one|(apply Af.take;rfl;rfl)|(apply Af.guard;rfl;rfl)|(apply Aa.fn;rfl;rfl;exact hc;intro _;rfl)|(apply Aa.assign;rfl)|(apply Aa.move;rfl)|(apply Aa.int;rfl;rfl;rfl)|(apply Aa.AQ;rfl;rfl)|(apply Ad.Az;rfl)|(apply Ad.Ae;rfl)|(intro _;try (exfalso;omega)))
 all_goals first|(exfalso;omega)|contradiction|(refine Done.ret rfl (.refl _) (by exact PV.Ac rfl) Ak.nil (Nat.zero_le _) (Nat.le_refl _) ⟨?_,rfl,rfl⟩;try rfl)
theorem Ol {l:List (List Int)} {n m:Nat} {skip B:Int} (e:TypeId) (h:QC l n m skip B):AX env 69 [.lst e (cells l) l.length] (.p (.int .i64 (m:Int))):=by
 have:=MF e l (by have:=h.XF.len;have:=h.n60;omega)
 rwa [h.cols] at this
theorem dG (l:List Int) (h0:0<l.length) (h1:l.length<1000000):Ci env 70 [.lst 3 (cells l) l.length] 3 (cells l) l.length false:=by
 refine Ci.enter (AB (by decide)) Tryz.func70 rfl (by kernel_rfl) (by simp [Tryz.ntmps70]) ?_
 repeat' (first|apply Ad.assoc|apply Ad.AA|apply Ad.Ar|apply Ad.ret|apply Af.nil|apply Af.one|(apply Aa.a2y;rfl;rfl;rfl;exact h0)|(apply Aa.assign;rfl)|(apply Aa.move;rfl)|(apply Aa.buildSlice;rfl;rfl;rfl;decide;rfl;rfl;rfl)|(apply Aa.DC;rfl;rfl;rfl;(first|rfl|omega|(simp only [List.length_take,List.length_drop,List.length_append,List.length_singleton,List.length_cons,List.length_nil]<;>omega));rfl;rfl;(intro _ h;cases h);rfl;rfl;rfl;decide;decide;(first|omega|(simp only [List.length_take,List.length_drop,List.length_append,List.length_singleton,List.length_cons,List.length_nil]<;>omega)))|(apply Ad.Az;rfl))
 exact CS.ret rfl rfl rfl rfl
theorem yA {L:Vm.Frame} {H:Vm.Heap} {nx:Nat} {Q:PV→Vm.Heap→Nat→Prop} {dst:Option Tmp} {ty:TypeId} {pos:String} {af:Array Edge} {gd:Option (Nat×Bool)} {fo:Operand} {args:Array Operand} {aT:Array TypeId} {fs cs xs:List PV} {c:Code}
 (hf:BG env.Γ L fo=some (.clo 70 fs cs)) (ha:evs env.Γ L args.toList=some xs) (hb:Tryz.f70.body=some c) (hn:(fs++xs++cs).length≤Tryz.f70.ntmps)
 (h:Ad env nx c (CQ 0 (fs++xs++cs)) H nx (Bq env.P Tryz.f70.results.toList Q)):Aa env true ⟨dst,.call { callee:=.value fo,args:=args,argTypes:=aT },ty,pos,af,gd⟩ L H nx Q:=by
 have h0:(match Tryz.f70.body with|some c=>H6 env.G Tryz.f70 c|none=>false)=true:=by kernel_rfl
 rw [hb] at h0
 exact Aa.inline rfl hf ha (AB (by decide)) Tryz.func70 hb h0 hn h
theorem mD {α:Type} [Inhabited α] {l:List α} {k:Nat} (h:k<l.length):l.take (k+1)=l.take k++[gi l k]:=by
 rw [List.take_succ_eq_append_getElem h]
 unfold gi
 rw [List.getElem?_eq_getElem h];rfl
def UO (l:List (List Int)) (skip:Int) (k:Nat):List Int:=gi l k++List.replicate (l.length+1) skip
def Ob (l:List (List Int)) (skip:Int) (k:Nat):List (List Int):=(DL l skip l.length).take k++List.replicate (l.length-k) []
theorem Ov (l:List (List Int)) (skip:Int) (n:Nat):(DL l skip n).length=l.length:=by simp [DL]
theorem qm (l:List (List Int)) (skip:Int) {k:Nat} (h:k≤l.length):(Ob l skip k).length=l.length:=by
 unfold Ob
 rw [List.length_append,List.length_take,List.length_replicate,Ov];omega
theorem pV (l:List (List Int)) (skip:Int):Ob l skip l.length=DL l skip l.length:=by
 unfold Ob
 rw [Nat.sub_self,List.take_of_length_le (by rw [Ov];exact Nat.le_refl _)]
 simp
theorem oK (l:List (List Int)) (skip:Int) {k:Nat} (h:k<l.length):(Ob l skip k).set k (UO l skip k)=Ob l skip (k+1):=by
 have e1:UO l skip k=gi (DL l skip l.length) k:=(gi_map' (fun row=>row++List.replicate (l.length+1) skip) h).symm
 have hk:k<(DL l skip l.length).length:=by rw [Ov];exact h
 obtain ⟨r,hr⟩:∃ r,l.length-k=r+1:=⟨l.length-k-1,by omega⟩
 unfold Ob
 rw [e1,mD hk,hr,show l.length-(k+1)=r by omega]
 have ht:((DL l skip l.length).take k).length=k:=by rw [List.length_take];omega
 generalize gi (DL l skip l.length) k=x
 generalize (DL l skip l.length).take k=t at *
 rw [List.set_append_right _ _ (by omega),ht,Nat.sub_self,List.replicate_succ,List.set_cons_zero,List.append_assoc]
 rfl
theorem YM:∀ n:Nat,Bl ((Bg [.slice none 0 0] n).map F9) (cells (List.replicate n ([]:List Int)))
 |0=>.refl _
 |n+1=>.cons (.nil _) (YM n)
theorem jZ (l:List (List Int)) (skip:Int):Ob l skip 0=List.replicate l.length []:=by unfold Ob;simp
def UF (m:Nat) (cols:List Int) (j:Nat):List Int:=(cols.take j).map (KZ m)++cols.drop j
theorem VE (m:Nat) (cols:List Int) (j:Nat):(UF m cols j).length=cols.length:=by
 unfold UF
 rw [List.length_append,List.length_map,List.length_take,List.length_drop];omega
theorem lG (m:Nat) (cols:List Int) {j:Nat} (h:j<cols.length):gi (UF m cols j) j=gi cols j:=by
 unfold UF gi
 rw [List.getElem?_append_right (by rw [List.length_map,List.length_take];omega),List.length_map,List.length_take,Nat.min_eq_left (Nat.le_of_lt h),Nat.sub_self,List.getElem?_drop,Nat.add_zero]
theorem fJ (m:Nat) (cols:List Int) {j:Nat} (h:j<cols.length):(UF m cols j).set j (KZ m (gi cols j))=UF m cols (j+1):=by
 unfold UF
 have ht:((cols.take j).map (KZ m)).length=j:=by rw [List.length_map,List.length_take];omega
 rw [List.set_append_right _ _ (by omega),ht,Nat.sub_self,mD h,List.map_append,List.append_assoc]
 congr 1
 rw [List.drop_eq_getElem_cons h,List.set_cons_zero]
 rfl
theorem pO (m:Nat) (cols:List Int) {j:Nat} (h:j<cols.length) (hc:KZ m (gi cols j)=gi cols j):UF m cols (j+1)=UF m cols j:=by
 rw [← fJ m cols h,hc,← lG m cols h]
 refine List.ext_getElem? fun i=>?_
 rw [List.getElem?_set]
 by_cases e:j=i
 ·subst e
  rw [if_pos rfl,if_pos (by rw [VE];exact h)]
  unfold gi
  rw [List.getElem?_eq_getElem (by rw [VE];exact h)]
  rfl
 ·rw [if_neg e]
theorem qZ (m:Nat) (cols:List Int):UF m cols cols.length=cols.map (KZ m):=by
 unfold UF
 rw [List.take_of_length_le (Nat.le_refl _),List.drop_of_length_le (Nat.le_refl _),List.append_nil]
structure QB where
 cols:List Int
 total:Int
 rows:List Int
 BZ:List Int
def QB.enc (x:QB):List FV:=[.lst 3 (cells x.cols) x.cols.length,.int .i64 x.total,.lst 3 (cells x.rows) x.rows.length,.lst 3 (cells x.BZ) x.BZ.length]
instance:Enc QB:={ default:=⟨[],0,[],[]⟩,enc:=QB.enc,size:=4,len:=fun _=>rfl }
def YR (l:List (List Int)) (m:Nat) (skip:Int):QB:=⟨wV l l.length m skip,jd l l.length m skip,wH l l.length m skip,tV l l.length m skip⟩
theorem Zx {l:List (List Int)} {m:Nat} {skip B:Int} (e:TypeId) (h:QC l l.length m skip B) (h0:0<l.length) :
 AX env 45 [.lst e (cells l) l.length,.int .i64 skip] (.EW [.p (.agg (Enc.enc (YR l m skip))),.p (.int .i64 0)]):=by
 have hck:=MB e h
 have hcl:=Ol e h
 have h2:=h.n60
 have h3:=h.zq
 have hrow:=h.XF.row
 have hP:=wQ h.XF
 have hw:=XJ h.XF
 have hs:=WZ hw
 have hsv:=fE (costs:=DL l skip l.length) (n:=l.length) (m:=m+(l.length+1)) 52 hw (Ov _ _ _) (fun r hr=>by
  unfold DL
  rw [gi_map' _ hr,List.length_append,List.length_replicate,hrow r hr]) h0 (by omega)
 have hroom:l.length*(24+1)≤room∧l.length≤2 ^ 40:=⟨by have:=Zy (n:=l.length) (k:=0) (b:=24) (by omega) (by decide);simpa using this,by omega⟩
 refine AX.enter (AB (by decide)) Tryz.func45 rfl (by kernel_rfl) (by simp [Tryz.ntmps45]) ?_
 repeat' (first|apply Ad.assoc|apply Ad.AA|apply Ad.Ar|apply Ad.Ai|apply Af.nil|apply Af.one|(apply Aa.fn;rfl;rfl;exact hck;intro _;rfl)|(apply Aa.fn;rfl;rfl;exact hcl;intro _;rfl)|(apply Aa.makeSlice (n:=l.length);rfl;rfl;rfl;rfl;rfl;exact hroom;decide)|(apply Aa.assign;rfl)|(apply Aa.move;rfl)|(apply Aa.int;rfl;rfl;rfl)|(apply Aa.BQ;rfl;rfl)|(apply Aa.alloc;rfl)|(apply Ad.Az;rfl))
 all_goals try (exfalso;omega)
 all_goals try contradiction
 refine Ad.ghost (AL.a3m 1 (cells (Ob l skip 0)) rfl (by rw [jZ];exact YM _)) ?_
 apply Ad.EF (l.length) [(0,_),(1,_),(4,_),(7,_),(8,_),(26,_),(27,_)] [(0,_)] (fun k r=>(28,.p (.int .i64 (k:Int)))::r) (fun k r=>(1,.vec 52 (cells (Ob l skip k)) l.length false)::r) 2
 ·first|omega|decide
 ·first|omega|decide
 ·repeat (first|exact Ap.nil|(refine Ap.eq rfl ?_ ?_;(first|exact PV.Ac rfl|(simp [PV.under,AZ.under];done)))|refine Ap.cons trivial rfl (.of_eq (Au (by simp<;>omega))) ?_)
 ·repeat (first|exact Ak.nil|(refine Ak.eq rfl (Aj rfl) ?_ ?_;(first|exact HB.Ac rfl|exact AZ.Ag _ _|(simp [HB.under,AZ.under,PV.under];done)))|(refine Ak.cons (Aj rfl) ?_ rfl ?_ ?_;(first|exact trivial|exact AZ.Ag _ _|(simp [HB.under,AZ.under,PV.under]));(first|exact Bv.refl _|exact Bv.vec (Bl.refl _) (by simp))))
 ·intro k hk
  have hrk:=hrow k hk
  have hsl:=qm l skip (Nat.le_of_lt hk)
  have hst:=oK l skip hk
  have hrep:=Uw 3 skip (l.length+1) (by omega) (by omega)
  have hlen:(gi l k++List.replicate (l.length+1) skip).length=(gi l k).length+(List.replicate (l.length+1) skip).length:=List.length_append
  have hrl:(List.replicate (l.length+1) skip).length=l.length+1:=List.length_replicate
  have hpc:FQ (.p (.lst 3 (cells (gi l k++List.replicate (l.length+1) skip)) ((gi l k).length+(List.replicate (l.length+1) skip).length)))=(Enc.enc (UO l skip k)).map .p:=by
   show [PV.p (FV.lst 3 (cells (gi l k++List.replicate (l.length+1) skip)) ((gi l k).length+(List.replicate (l.length+1) skip).length))]=[PV.p (FV.lst 3 (cells (UO l skip k)) (UO l skip k).length)]
   rw [show (UO l skip k).length=_ from hlen];rfl
  by_cases hm:0<m
  ·have hcn:=dG (gi l k) (by omega) (by omega)
   repeat' (first|(refine Af.He 42 ?_;refine Af.ghost (AL.freeze 38 rfl rfl) ?_)|(refine Af.He 43 ?_;refine Af.ghost (AL.freeze 42 rfl rfl) ?_)|(refine Af.He 44 ?_;refine Af.ghost (AL.freeze 43 rfl rfl) ?_)|apply Ad.AA|apply Ad.region|apply Ad.Ar|apply Ad.Ai|apply AU.normal|apply AO.normal|apply Af.nil|apply Af.one|(apply Aa.fv;rfl;rfl;exact hcn)|(apply Aa.fv;rfl;rfl;exact hrep)|(apply Aa.CU (y:=UO l skip k);rfl;rfl;rfl;trivial;exact hpc;rfl;rfl;decide;omega)|(apply Aa.QZ (l:=gi l k) (r:=List.replicate (l.length+1) skip);rfl;rfl;rfl;rfl;exact hrl;rfl;rfl;(intro _ h;cases h);rfl;rfl;rfl;decide;decide;omega)|(apply Aa.assign;rfl)|(apply Aa.move;rfl)|(apply Aa.Bz;rfl;rfl;omega)|(apply Aa.int;rfl;rfl;rfl)|(apply Aa.Ba;rfl;rfl;rfl;omega;rfl)|(apply Aa.load;rfl;rfl)|(apply Aa.BQ;rfl;rfl)|(apply Aa.buildSlice;rfl;rfl;rfl;decide;rfl;rfl;rfl)|(apply Aa.BD;rfl;rfl;rfl;rfl;omega)|(apply Ad.Ae;rfl)|(intro _;try (exfalso;omega)))
   all_goals try (exfalso;omega)
   refine Aw.normal ⟨by first|omega|decide,?_,?_⟩
   ·try (rw [← hst])
    repeat (first|exact Ap.nil|refine Ap.same (by exact PV.Ac rfl) rfl ?_|refine Ap.cons trivial rfl (.of_eq (Au (by simp<;>omega))) ?_)
   ·rw [← hst]
    repeat (first|exact Ak.nil|(refine Ak.cons (Aj rfl) ?_ rfl ?_ ?_;(first|exact HB.Ac rfl|exact AZ.Ag _ _|(simp [HB.under,AZ.under,PV.under]));(first|exact Bv.refl _|exact Bv.vec (Bl.refl _) (by simp))))
  ·have hl0:gi l k=[]:=List.length_eq_zero_iff.1 (by omega)
   have a9b:FQ (.p (.lst 3 (cells (List.replicate (l.length+1) skip)) (List.replicate (l.length+1) skip).length))=(Enc.enc (UO l skip k)).map .p:=by
    rw [show UO l skip k=List.replicate (l.length+1) skip by unfold UO;rw [hl0];rfl];rfl
   repeat' (first|(refine Af.He 42 ?_;refine Af.ghost (AL.freeze 38 rfl rfl) ?_)|(refine Af.He 43 ?_;refine Af.ghost (AL.trans (AL.freeze 42 rfl rfl) (AL.adopt 36 3 rfl)) ?_)|(refine Af.He 43 ?_;refine Af.ghost (AL.freeze 42 rfl rfl) ?_)|(refine Af.He 44 ?_;refine Af.ghost (AL.freeze 43 rfl rfl) ?_)|apply Ad.assoc|apply Ad.AA|apply Ad.region|apply Ad.Ar|apply Ad.BI|apply Ad.Ai|apply AU.normal|(apply Bq.ret;rfl)|apply AO.normal|apply Ad.ret|apply Af.nil|apply Af.one|(apply yA;rfl;rfl;rfl;exact le_dec rfl)|(apply Aa.fv;rfl;rfl;exact hrep)|(apply Aa.CU (y:=UO l skip k);rfl;rfl;rfl;trivial;exact a9b;rfl;rfl;decide;omega)|(apply Aa.DC (r:=List.replicate (l.length+1) skip);rfl;rfl;rfl;exact hrl;rfl;rfl;(intro _ h;cases h);rfl;rfl;rfl;decide;decide;omega)|(apply Aa.eqNil;rfl;rfl;rfl;intro b hb)|(apply Aa.CU (y:=UO l skip k);rfl;rfl;rfl;trivial;exact hpc;rfl;rfl;decide;omega)|(apply Aa.QZ (l:=gi l k) (r:=List.replicate (l.length+1) skip);rfl;rfl;rfl;rfl;exact hrl;rfl;rfl;(intro _ h;cases h);rfl;rfl;rfl;decide;decide;omega)|(apply Aa.assign;rfl)|(apply Aa.move;rfl)|(apply Aa.Bz;rfl;rfl;omega)|(apply Aa.int;rfl;rfl;rfl)|(apply Aa.Ba;rfl;rfl;rfl;omega;rfl)|(apply Aa.load;rfl;rfl)|(apply Aa.BQ;rfl;rfl)|(apply Aa.buildSlice;rfl;rfl;rfl;decide;rfl;rfl;rfl)|(apply Aa.BD;rfl;rfl;rfl;rfl;omega)|(apply Aa.DC;rfl;rfl;rfl;(first|rfl|omega|(simp only [List.length_take,List.length_drop,List.length_append,List.length_singleton,List.length_cons,List.length_nil]<;>omega));rfl;rfl;(intro _ h;cases h);rfl;rfl;rfl;decide;decide;(first|omega|(simp only [List.length_take,List.length_drop,List.length_append,List.length_singleton,List.length_cons,List.length_nil]<;>omega)))|(apply Ad.Ae;rfl)|(apply Ad.QV;rfl)|(intro _;try (exfalso;omega)))
   all_goals try (exfalso;omega)
   ·refine Aw.normal ⟨by first|omega|decide,?_,?_⟩
    ·try (rw [← hst])
     repeat (first|exact Ap.nil|refine Ap.same (by exact PV.Ac rfl) rfl ?_|refine Ap.cons trivial rfl (.of_eq (Au (by simp<;>omega))) ?_)
    ·rw [← hst]
     repeat (first|exact Ak.nil|(refine Ak.cons (Aj rfl) ?_ rfl ?_ ?_;(first|exact HB.Ac rfl|exact AZ.Ag _ _|(simp [HB.under,AZ.under,PV.under]));(first|exact Bv.refl _|exact Bv.vec (Bl.refl _) (by simp))))
   ·refine Aw.normal ⟨by first|omega|decide,?_,?_⟩
    ·try (rw [← hst])
     repeat (first|exact Ap.nil|refine Ap.same (by exact PV.Ac rfl) rfl ?_|refine Ap.cons trivial rfl (.of_eq (Au (by simp<;>omega))) ?_)
    ·rw [← hst]
     repeat (first|exact Ak.nil|(refine Ak.cons (Aj rfl) ?_ rfl ?_ ?_;(first|exact HB.Ac rfl|exact AZ.Ag _ _|(simp [HB.under,AZ.under,PV.under]));(first|exact Bv.refl _|exact Bv.vec (Bl.refl _) (by simp))))
 ·rw [pV]
  have lC:(Gx (DL l skip l.length) l.length (m+(l.length+1))).cols.length=l.length:=hs.len
  have lV:(G5 (DL l skip l.length) l.length (m+(l.length+1))).length=m+(l.length+1):=hs.lV
  repeat' (first|(refine Af.He 47 ?_;refine Af.ghost (AL.freeze 46 rfl rfl) ?_)|apply Ad.assoc|apply Ad.AA|apply Ad.A8|apply Ad.Ai|apply AU.normal|apply AO.exit|apply Aw.exit|apply Af.nil|apply Af.one|(apply Aa.mY [] (hsv);rfl;rfl;exact .of_eq rfl;exact AZ.Ac rfl;exact Gl rfl;(repeat (first|exact trivial|refine ⟨⟨_,rfl,.of_eq rfl⟩,?_⟩));decide;(intro _ hb;first|(simp at hb;done)|(simp at hb ⊢<;>omega));(rintro _ _ _ ⟨rfl,rfl,rfl⟩))|(apply Aa.sliceTo (l:=G5 (DL l skip l.length) l.length (m+(l.length+1))) (b:=m);rfl;rfl;rfl;rfl;rfl;exact lV;omega)|(apply Aa.move;rfl)|(apply Aa.int;rfl;rfl;rfl)|(apply Aa.load;rfl;rfl)|(apply Aa.BQ;rfl;rfl)|(apply Aa.lenV;rfl;rfl;rfl)|(apply Aa.AV;rfl;rfl;rfl)|(apply Aa.alloc;rfl)|(apply Aa.Bd;rfl;rfl;rfl;trivial;rfl;rfl;exact Aj rfl;exact le_dec rfl)|(apply Ad.Ae;rfl)|(intro _;try (exfalso;omega)))
  all_goals try (exfalso;omega)
  all_goals try contradiction
  have eM:YR l m skip=⟨(Gx (DL l skip l.length) l.length (m+(l.length+1))).cols.map (KZ m),(Gx (DL l skip l.length) l.length (m+(l.length+1))).total,Kv (DL l skip l.length) l.length (m+(l.length+1)),(G5 (DL l skip l.length) l.length (m+(l.length+1))).take m⟩:=rfl
  have Xy:=hs.col
  rw [eM]
  generalize (Gx (DL l skip l.length) l.length (m+(l.length+1))).cols=cols at *
  apply Ad.EF (l.length) [(4,_),(7,_),(11,_),(57,_),(58,_)] [(8,_),(0,_)] (fun k r=>(59,.p (.int .i64 (k:Int)))::r) (fun k r=>(7,.vec 3 (cells (UF m cols k)) l.length false)::r) 9
  ·first|omega|decide
  ·first|omega|decide
  ·repeat (first|exact Ap.nil|(refine Ap.eq rfl ?_ ?_;(first|exact PV.Ac rfl|(simp [PV.under,AZ.under];done)))|refine Ap.cons trivial rfl (.of_eq (Au (by simp<;>omega))) ?_)
  ·repeat (first|exact Ak.nil|(refine Ak.eq rfl (Aj rfl) ?_ ?_;(first|exact HB.Ac rfl|exact AZ.Ag _ _|(simp [HB.under,AZ.under,PV.under];done)))|(refine Ak.cons (Aj rfl) ?_ rfl ?_ ?_;(first|exact trivial|exact AZ.Ag _ _|(simp [HB.under,AZ.under,PV.under]));(first|exact Bv.refl _|exact Bv.vec (Bl.refl _) (by simp))))
  ·intro k hk
   have c1:=VE m cols k
   have c2:=lG m cols (j:=k) (by omega)
   have c3:=fJ m cols (j:=k) (by omega)
   have c4:=Xy k hk
   by_cases hc:(m:Int)≤gi cols k
   ·have c5:KZ m (gi cols k)=-1:=if_pos hc
    rw [c5] at c3
    repeat' (first|apply Ad.AA|apply Ad.region|apply Ad.Ar|apply Ad.Ai|apply AU.normal|apply AO.normal|apply Af.nil|apply Af.one|(apply Aa.BH;rfl;rfl;(first|omega|(simp only [List.length_set]<;>omega));exact congrArg (fun b=>some (FV.int .i64 b)) (c2))|(apply Aa.CU (y:=(-1:Int));rfl;rfl;rfl;trivial;(first|rfl|(refine congrArg (fun t=>[PV.p (FV.int _ t)]) ?_;first|omega|(simp only [Int.natCast_add,Int.natCast_mul,Int.natCast_ediv,Int.natCast_emod]<;>omega)));rfl;rfl;decide;(first|omega|(simp only [List.length_set]<;>omega)))|(apply Aa.assign;rfl)|(apply Aa.move;rfl)|(apply Aa.Bz;rfl;rfl;omega)|(apply Aa.int;rfl;rfl;rfl)|(apply Aa.load;rfl;rfl)|(apply Aa.AV;rfl;rfl;rfl)|(apply Aa.BD;rfl;rfl;rfl;rfl;omega)|(apply Ad.Ae;rfl)|(apply Ad.AY;rfl)|(intro _;try (exfalso;omega)))
    all_goals try (exfalso;omega)
    refine Aw.normal ⟨by first|omega|decide,?_,?_⟩
    ·try (rw [← c3])
     repeat (first|exact Ap.nil|refine Ap.same (by exact PV.Ac rfl) rfl ?_|refine Ap.cons trivial rfl (.of_eq (Au (by simp<;>omega))) ?_)
    ·rw [← c3]
     repeat (first|exact Ak.nil|(refine Ak.cons (Aj rfl) ?_ rfl ?_ ?_;(first|exact HB.Ac rfl|exact AZ.Ag _ _|(simp [HB.under,AZ.under,PV.under]));(first|exact Bv.refl _|exact Bv.vec (Bl.refl _) (by simp))))
   ·have c5:KZ m (gi cols k)=gi cols k:=if_neg hc
    have c6:=pO m cols (j:=k) (by omega) c5
    repeat' (first|apply Ad.AA|apply Ad.region|apply Ad.Ar|apply Ad.Ai|apply AU.normal|apply AO.normal|apply Ad.skip|apply Af.nil|apply Af.one|(apply Aa.BH;rfl;rfl;(first|omega|(simp only [List.length_set]<;>omega));exact congrArg (fun b=>some (FV.int .i64 b)) (c2))|(apply Aa.assign;rfl)|(apply Aa.move;rfl)|(apply Aa.Bz;rfl;rfl;omega)|(apply Aa.int;rfl;rfl;rfl)|(apply Aa.BD;rfl;rfl;rfl;rfl;omega)|(apply Ad.Ae;rfl)|(apply Ad.AY;rfl)|(intro _;try (exfalso;omega)))
    all_goals try (exfalso;omega)
    refine Aw.normal ⟨by first|omega|decide,?_,?_⟩
    ·try (rw [c6])
     repeat (first|exact Ap.nil|refine Ap.same (by exact PV.Ac rfl) rfl ?_|refine Ap.cons trivial rfl (.of_eq (Au (by simp<;>omega))) ?_)
    ·rw [c6]
     repeat (first|exact Ak.nil|(refine Ak.cons (Aj rfl) ?_ rfl ?_ ?_;(first|exact HB.Ac rfl|exact AZ.Ag _ _|(simp [HB.under,AZ.under,PV.under]));(first|exact Bv.refl _|exact Bv.vec (Bl.refl _) (by simp))))
  ·have c7:=qZ m cols
   rw [lC] at c7
   rw [c7]
   have f1:(cols.map (KZ m)).length=l.length:=by rw [List.length_map];exact lC
   have f2:=hs.lU
   have f3:((G5 (DL l skip l.length) l.length (m+(l.length+1))).take m).length=m:=by rw [List.length_take,lV];omega
   generalize cols.map (KZ m)=C at *
   generalize (G5 (DL l skip l.length) l.length (m+(l.length+1))).take m=V at *
   have hfin:∀ (t:Int) (U:List Int),U.length=l.length→PV.EW [.p (.agg [.lst 3 (cells C) l.length,.int .i64 t,.lst 3 (cells U) l.length,.lst 3 (cells V) m]),.p (.int .i64 0)]=PV.EW [.p (.agg (Enc.enc (⟨C,t,U,V⟩:QB))),.p (.int .i64 0)]:=fun t U f2=>by
    show _=PV.EW [.p (.agg [.lst 3 (cells C) C.length,.int .i64 t,.lst 3 (cells U) U.length,.lst 3 (cells V) V.length]),.p (.int .i64 0)]
    rw [f1,f2,f3]
   repeat' (first|(refine Ad.at 20 ?_;refine Ad.ghost (AL.AP 8 0 rfl rfl rfl) ?_;first|apply Ad.AA|apply Ad.Bj)|apply Ad.AA|apply Ad.A8|apply AU.normal|apply AO.exit|apply Aw.exit|apply Ad.ret|apply Af.nil|apply Af.one|(apply Aa.assign;rfl)|(apply Aa.int;rfl;rfl;rfl)|(apply Aa.load;rfl;rfl)|(apply Aa.Bd;rfl;rfl;rfl;trivial;rfl;rfl;exact Aj rfl;exact le_dec rfl)|(apply Ad.Ae;rfl)|(intro _;try (exfalso;omega)))
   all_goals try (exfalso;omega)
   all_goals (refine Done.ret rfl (.refl _) (by exact PV.Ac rfl) Ak.nil (Nat.zero_le _) (Nat.le_refl _) ⟨?_,rfl,rfl⟩;exact hfin _ _ f2)
theorem dQ (e:TypeId):AX env 72 [.lst e [] 0] (.p (.agg (Enc.enc (⟨[],0,[],[]⟩:QB)))):=by
 have Xy:AX env 69 [.lst e [] 0] (.p (.int .i64 0)):=MF e [] (by decide)
 refine AX.enter (AB (by decide)) Tryz.func72 rfl (by kernel_rfl) (by simp [Tryz.ntmps72]) ?_
 repeat' (first|apply Ad.assoc|apply Ad.AA|apply Ad.Bj|apply Ad.Ai|apply Af.nil|apply Aq.nil|apply Af.one|(apply Aq.bar;decide +kernel)|apply Aq.quiet|(apply Aa.fn;rfl;rfl;exact Xy;intro _;rfl)|(apply Aa.ED 1 (0:Int);rfl;rfl;rfl;rfl;rfl;rfl;rfl;decide;decide;decide;rfl)|(apply Aa.assign;rfl)|(apply Aa.move;rfl)|(apply Aa.Bz;rfl;rfl;omega)|(apply Aa.BQ;rfl;rfl)|(apply Aa.alloc;rfl))
 all_goals try (exfalso;omega)
 apply Ad.EF (0) [(2,_),(3,_),(4,_),(5,_),(6,_),(7,_)] [(0,_),(1,_),(2,_),(3,_)] (fun k r=>(9,.p (.int .i64 ((k+1:Nat):Int)))::r) (fun k r=>r) 5
 ·first|omega|decide
 ·first|omega|decide
 ·repeat (first|exact Ap.nil|(refine Ap.eq rfl ?_ ?_;(first|exact PV.Ac rfl|(simp [PV.under,AZ.under];done)))|refine Ap.cons trivial rfl (.of_eq (Au (by simp<;>omega))) ?_)
 ·repeat (first|exact Ak.nil|(refine Ak.eq rfl (Aj rfl) ?_ ?_;(first|exact HB.Ac rfl|exact AZ.Ag _ _|(simp [HB.under,AZ.under,PV.under];done)))|(refine Ak.cons (Aj rfl) ?_ rfl ?_ ?_;(first|exact trivial|exact AZ.Ag _ _|(simp [HB.under,AZ.under,PV.under]));(first|exact Bv.refl _|exact Bv.vec (Bl.refl _) (by simp))))
 ·intro k hk;omega
 ·repeat' (first|(refine Ad.at 34 ?_;refine Ad.ghost (AL.freeze 5 rfl rfl) ?_;first|apply Ad.AA|apply Ad.Bj)|(refine Aq.atIdx 4 ?_;refine Aq.ghost (AL.freeze 6 rfl rfl) ?_)|apply Ad.assoc|apply Ad.AA|apply Ad.A8|apply Ad.Ai|apply AU.normal|apply AO.exit|apply Aw.exit|apply Af.nil|apply Aq.nil|apply Af.one|(apply Aq.bar;decide +kernel)|apply Aq.quiet|(apply Aa.ED 0 (0:Int);rfl;rfl;rfl;rfl;rfl;rfl;rfl;decide;decide;decide;rfl)|(apply Aa.sliceFrom (l:=[(0:Int)]) (a:=1);rfl;rfl;rfl;rfl;rfl;rfl;decide)|(apply Aa.assign;rfl)|(apply Aa.move;rfl)|(apply Aa.int;rfl;rfl;rfl)|(apply Aa.alloc;rfl)|(apply Aa.Bd;rfl;rfl;rfl;trivial;rfl;rfl;exact Aj rfl;exact le_dec rfl)|(apply Aa.build;rfl;rfl;rfl;rfl;rfl)|(apply Ad.Az;rfl))
  all_goals try (exfalso;omega)
  apply Ad.EF (0) [(2,_),(3,_),(4,_),(7,_),(19,_)] [(0,_),(3,_),(5,_),(6,_)] (fun k r=>(20,.p (.int .i64 ((k+1:Nat):Int)))::r) (fun k r=>r) 7
  ·first|omega|decide
  ·first|omega|decide
  ·repeat (first|exact Ap.nil|(refine Ap.eq rfl ?_ ?_;(first|exact PV.Ac rfl|(simp [PV.under,AZ.under];done)))|refine Ap.cons trivial rfl (.of_eq (Au (by simp<;>omega))) ?_)
  ·repeat (first|exact Ak.nil|(refine Ak.eq rfl (Aj rfl) ?_ ?_;(first|exact HB.Ac rfl|exact AZ.Ag _ _|(simp [HB.under,AZ.under,PV.under];done)))|(refine Ak.cons (Aj rfl) ?_ rfl ?_ ?_;(first|exact trivial|exact AZ.Ag _ _|(simp [HB.under,AZ.under,PV.under]));(first|exact Bv.refl _|exact Bv.vec (Bl.refl _) (by simp))))
  ·intro k hk;omega
  ·repeat' (first|(refine Ad.at 42 ?_;refine Ad.ghost (AL.AP 6 0 rfl rfl rfl) ?_;first|apply Ad.AA|apply Ad.Bj)|apply Ad.assoc|apply Ad.AA|apply Ad.A8|apply AU.normal|apply AO.exit|apply Aw.exit|apply Ad.ret|apply Af.nil|apply Af.one|(apply Aa.move;rfl)|(apply Aa.int;rfl;rfl;rfl)|(apply Aa.load;rfl;rfl)|(apply Aa.Bd;rfl;rfl;rfl;trivial;rfl;rfl;exact Aj rfl;exact le_dec rfl)|(apply Ad.Az;rfl))
   all_goals first|(exfalso;omega)|(refine Done.ret rfl (.refl _) (by exact PV.Ac rfl) Ak.nil (Nat.zero_le _) (Nat.le_refl _) ⟨?_,rfl,rfl⟩;try rfl)
theorem Xo {skip:Int} (e:TypeId) (hk:0≤skip∧skip≤1000000000):AX env 45 [.lst e (cells ([]:List (List Int))) 0,.int .i64 skip] (.EW [.p (.agg (Enc.enc (⟨[],0,[],[]⟩:QB))),.p (.int .i64 0)]):=by
 have hM:QC [] 0 0 skip 1000000000:=⟨⟨rfl,fun r hr=>by omega,fun r k hr=>by omega,hk,by decide⟩,by omega,by omega,by decide,fun _=>rfl⟩
 have hck:=MB e hM
 have hcl:=Ol e hM
 have hs:=dQ 52
 refine AX.enter (AB (by decide)) Tryz.func45 rfl (by kernel_rfl) (by simp [Tryz.ntmps45]) ?_
 repeat' (first|apply Ad.assoc|apply Ad.AA|apply Ad.Ar|apply Ad.Ai|apply Af.nil|apply Af.one|(apply Aa.fn;rfl;rfl;exact hck;intro _;rfl)|(apply Aa.fn;rfl;rfl;exact hcl;intro _;rfl)|(apply Aa.makeSlice (n:=0);rfl;rfl;rfl;rfl;rfl;decide;decide)|(apply Aa.assign;rfl)|(apply Aa.move;rfl)|(apply Aa.int;rfl;rfl;rfl)|(apply Aa.BQ;rfl;rfl)|(apply Aa.alloc;rfl)|(apply Ad.Az;rfl))
 all_goals try (exfalso;omega)
 all_goals try contradiction
 apply Ad.EF (0) [(0,_),(1,_),(4,_),(7,_),(8,_),(26,_),(27,_)] [(0,_),(1,_)] (fun k r=>(28,.p (.int .i64 (k:Int)))::r) (fun k r=>r) 2
 ·first|omega|decide
 ·first|omega|decide
 ·repeat (first|exact Ap.nil|(refine Ap.eq rfl ?_ ?_;(first|exact PV.Ac rfl|(simp [PV.under,AZ.under];done)))|refine Ap.cons trivial rfl (.of_eq (Au (by simp<;>omega))) ?_)
 ·repeat (first|exact Ak.nil|(refine Ak.eq rfl (Aj rfl) ?_ ?_;(first|exact HB.Ac rfl|exact AZ.Ag _ _|(simp [HB.under,AZ.under,PV.under];done)))|(refine Ak.cons (Aj rfl) ?_ rfl ?_ ?_;(first|exact trivial|exact AZ.Ag _ _|(simp [HB.under,AZ.under,PV.under]));(first|exact Bv.refl _|exact Bv.vec (Bl.refl _) (by simp))))
 ·intro k hk;omega
 ·repeat' (first|(refine Af.He 47 ?_;refine Af.ghost (AL.freeze 46 rfl rfl) ?_)|apply Ad.assoc|apply Ad.AA|apply Ad.Ar|apply Ad.A8|apply Ad.Ai|apply AU.normal|apply AO.exit|apply Aw.exit|apply Af.nil|apply Af.one|(apply Aa.fn;rfl;rfl;exact hs;intro _;rfl)|(apply Aa.move;rfl)|(apply Aa.int;rfl;rfl;rfl)|(apply Aa.load;rfl;rfl)|(apply Aa.BQ;rfl;rfl)|(apply Aa.AV;rfl;rfl;rfl)|(apply Aa.alloc;rfl)|(apply Aa.Bd;rfl;rfl;rfl;trivial;rfl;rfl;exact Aj rfl;exact le_dec rfl)|(apply Ad.Az;rfl))
  all_goals try (exfalso;omega)
  all_goals try contradiction
  apply Ad.EF (0) [(4,_),(7,_),(11,_),(57,_),(58,_)] [(0,_),(2,_)] (fun k r=>(59,.p (.int .i64 (k:Int)))::r) (fun k r=>r) 3
  ·first|omega|decide
  ·first|omega|decide
  ·repeat (first|exact Ap.nil|(refine Ap.eq rfl ?_ ?_;(first|exact PV.Ac rfl|(simp [PV.under,AZ.under];done)))|refine Ap.cons trivial rfl (.of_eq (Au (by simp<;>omega))) ?_)
  ·repeat (first|exact Ak.nil|(refine Ak.eq rfl (Aj rfl) ?_ ?_;(first|exact HB.Ac rfl|exact AZ.Ag _ _|(simp [HB.under,AZ.under,PV.under];done)))|(refine Ak.cons (Aj rfl) ?_ rfl ?_ ?_;(first|exact trivial|exact AZ.Ag _ _|(simp [HB.under,AZ.under,PV.under]));(first|exact Bv.refl _|exact Bv.vec (Bl.refl _) (by simp))))
  ·intro k hk;omega
  ·repeat' (first|apply Ad.AA|apply Ad.A8|apply AU.normal|apply AO.exit|apply Aw.exit|apply Ad.ret|apply Af.nil|apply Af.one|(apply Aa.assign;rfl)|(apply Aa.int;rfl;rfl;rfl)|(apply Aa.load;rfl;rfl)|(apply Aa.Bd;rfl;rfl;rfl;trivial;rfl;rfl;exact Aj rfl;exact le_dec rfl)|(apply Ad.Az;rfl))
   all_goals first|(exfalso;omega)|(refine Done.ret rfl (.refl _) (by exact PV.Ac rfl) Ak.nil (Nat.zero_le _) (Nat.le_refl _) ⟨?_,rfl,rfl⟩;try rfl)
end Go.Proofs.YtdabojnmoejilaaGreatDoor
namespace Go.Hun
open Go Go.Am Go.Vm
def wW (row:List Int) (g:Nat→Int) (t:Nat) (b:Int):Nat→Int
 |0=>b
 |k+1=>if t.testBit k then wW row g t b k else min (wW row g t b k) (gi row k+g (t ||| 2 ^ k))
def uT (l:List (List Int)) (skip:Int) (m n:Nat):Nat→Nat→Int
 |0,_=>0
 |r+1,t=>wW (gi l (n-(r+1))) (uT l skip m n r) t (skip+uT l skip m n r t) m
def Tz (f:Nat→Int) (n:Nat):Nat→Int
 |0=>0
 |r+1=>f (n-(r+1))+Tz f n r
theorem Uz (f:Nat→Int) (n:Nat):∀ r,r≤n→DR f (n-r)+Tz f n r=DR f n
 |0,_=>by simp [Tz]
 |r+1,h=>by
  have ih:=Uz f n r (by omega)
  have e:n-r=(n-(r+1))+1:=by omega
  rw [e] at ih
  simp only [DR] at ih
  simp only [Tz]
  omega
theorem qF (f:Nat→Int) (n:Nat):Tz f n n=DR f n:=by
 have:=Uz f n n (Nat.le_refl _)
 rw [Nat.sub_self] at this
 simp only [DR] at this
 omega
structure b0i (n m r t:Nat) (cols:Nat→Int):Prop where
 rng:∀ q,n-r≤q→q<n→-1≤cols q∧cols q<m
 inj:∀ p q,n-r≤p→p<n→n-r≤q→q<n→0≤cols p→cols p=cols q→p=q
 free:∀ q,n-r≤q→q<n→0≤cols q→t.testBit (cols q).toNat=false
end Go.Hun
namespace Go.Proofs.YtdabojnmoejilaaGreatDoor
open Go Go.Am Go.Vm Go.Hun
attribute [local irreducible] Aa Af Aq Ad BF AX Ci AU AO Aw Vm.Done CS Bq YP
theorem l9 {L:Vm.Frame} {H:Vm.Heap} {nx:Nat} {Q:PV→Vm.Heap→Nat→Prop} {dst:Option Tmp} {ty:TypeId} {pos:String} {af:Array Edge} {gd:Option (Nat×Bool)} {fo:Operand} {args:Array Operand} {aT:Array TypeId} {fs cs xs:List PV} {c:Code}
 (hf:BG env.Γ L fo=some (.clo 103 fs cs)) (ha:evs env.Γ L args.toList=some xs) (hb:Tryz.f103.body=some c) (hn:(fs++xs++cs).length≤Tryz.f103.ntmps)
 (h:Ad env nx c (CQ 0 (fs++xs++cs)) H nx (Bq env.P Tryz.f103.results.toList Q)):Aa env true ⟨dst,.call { callee:=.value fo,args:=args,argTypes:=aT },ty,pos,af,gd⟩ L H nx Q:=by
 have h0:(match Tryz.f103.body with|some c=>H6 env.G Tryz.f103 c|none=>false)=true:=by kernel_rfl
 rw [hb] at h0
 exact Aa.inline rfl hf ha (AB (by decide)) Tryz.func103 hb h0 hn h
theorem lY {L:Vm.Frame} {H:Vm.Heap} {nx:Nat} {Q:PV→Vm.Heap→Nat→Prop} {dst:Option Tmp} {ty:TypeId} {pos:String} {af:Array Edge} {gd:Option (Nat×Bool)} {fo:Operand} {args:Array Operand} {aT:Array TypeId} {fs cs xs:List PV} {c:Code}
 (hf:BG env.Γ L fo=some (.clo 76 fs cs)) (ha:evs env.Γ L args.toList=some xs) (hb:Tryz.f76.body=some c) (hn:(fs++xs++cs).length≤Tryz.f76.ntmps)
 (h:Ad env nx c (CQ 0 (fs++xs++cs)) H nx (Bq env.P Tryz.f76.results.toList Q)):Aa env true ⟨dst,.call { callee:=.value fo,args:=args,argTypes:=aT },ty,pos,af,gd⟩ L H nx Q:=by
 have h0:(match Tryz.f76.body with|some c=>H6 env.G Tryz.f76 c|none=>false)=true:=by kernel_rfl
 rw [hb] at h0
 exact Aa.inline rfl hf ha (AB (by decide)) Tryz.func76 hb h0 hn h
def Xp (l:List (List Int)) (m:Nat) (skip:Int) (cols:List Int):Nat→Nat→List Bool→Int→Int×Int
 |0,_,_,sum=>(sum,0)
 |r+1,k,used,sum =>
  if gi cols k< -1∨gi cols k≥m then (0,3)
  else if gi cols k<0 then Xp l m skip cols r (k+1) used (sum+skip)
  else if gi used (gi cols k).toNat=true then (0,9)
  else Xp l m skip cols r (k+1) (used.set (gi cols k).toNat true) (sum+gi (gi l k) (gi cols k).toNat)
def Y0 (l:List (List Int)) (m:Nat) (skip:Int) (cols:List Int):Int×Int:=if cols.length≠l.length then (0,5) else Xp l m skip cols l.length 0 (List.replicate m false) 0
theorem gJ {l:List (List Int)} {m:Nat} {skip B:Int} (e:TypeId) (h:QC l l.length m skip B) (cols:List Int) :
 AX env 47 [.lst e (cells l) l.length,.lst 3 (cells cols) cols.length,.int .i64 (-1),.int .i64 skip] (.EW [.p (.int .i64 (Y0 l m skip cols).1),.p (.int .i64 (Y0 l m skip cols).2)]):=by
 have hcl:=Ol e h
 have h2:=h.n60
 have h3:=h.zq
 have h4:=h.B9
 have hrow:=h.XF.row
 have uJ:=h.XF.rng
 have hsk:=h.XF.skip
 unfold Y0
 refine AX.enter (AB (by decide)) Tryz.func47 rfl (by kernel_rfl) (by simp [Tryz.ntmps47]) ?_
 by_cases hlen:cols.length=l.length
 case neg =>
  rw [if_pos hlen]
  repeat' (first|apply Ad.assoc|apply Ad.AA|apply Ad.BI|apply Af.nil|apply Af.one|(apply Aa.assign;rfl)|(apply Aa.move;rfl)|(apply Aa.int;rfl;rfl;rfl)|(apply Aa.BQ;rfl;rfl)|(apply Ad.Ae;rfl)|(intro _;try (exfalso;omega)))
  all_goals first|(exfalso;omega)|contradiction|(refine Done.ret rfl (.refl _) (by exact PV.Ac rfl) Ak.nil (Nat.zero_le _) (Nat.le_refl _) ⟨?_,rfl,rfl⟩;try rfl)
 rw [if_neg (fun x=>x hlen)]
 repeat' (first|apply Ad.assoc|apply Ad.AA|apply Ad.Ar|apply Ad.Ai|apply Af.nil|apply Af.one|(apply Aa.fn;rfl;rfl;exact hcl;intro _;rfl)|(apply Aa.ED m false;rfl;rfl;rfl;rfl;rfl;rfl;rfl;omega;decide;decide;rfl)|(apply Aa.assign;rfl)|(apply Aa.move;rfl)|(apply Aa.int;rfl;rfl;rfl)|(apply Aa.BQ;rfl;rfl)|(apply Ad.Ae;rfl)|(intro _;try (exfalso;omega)))
 all_goals try (exfalso;omega)
 obtain ⟨R,hR⟩:∃ R,R=Xp l m skip cols l.length 0 (List.replicate m false) 0:=⟨_,rfl⟩
 rw [← hR]
 refine Ad.Ee (fun s:Nat×List Bool×Int=>[(0,.p (.lst e (cells l) l.length)),(2,.p (.int .i64 (-1))),(3,.p (.int .i64 skip)),(10,.p (.int .i64 s.2.2)),(11,.vec 0 m 0 m),(22,.p (.lst 3 (cells cols) cols.length)),(23,.p (.int .i64 (cols.length:Int))),(24,.p (.int .i64 (s.1:Int)))]) (fun s=>[(0,.vec 4 (cells s.2.1) m false)]) 1
  (fun s=>s.1≤l.length∧s.2.1.length=m∧0≤s.2.2∧s.2.2≤s.1*B∧Xp l m skip cols (l.length-s.1) s.1 s.2.1 s.2.2=R) (fun s=>l.length-s.1) (0,List.replicate m false,0) (by omega) ⟨Nat.zero_le _,by simp,by simp,by simp,hR.symm⟩ ⟨by omega,?_,?_⟩ ?_
 ·repeat (first|exact Ap.nil|refine Ap.same (by exact PV.Ac rfl) rfl ?_|refine Ap.cons trivial rfl (.of_eq (Au (by simp<;>omega))) ?_)
 ·repeat (first|exact Ak.nil|(refine Ak.cons (Aj rfl) ?_ rfl ?_ ?_;(first|exact HB.Ac rfl|exact AZ.Ag _ _|(simp [HB.under,AZ.under,PV.under]));(first|exact Bv.refl _|exact Bv.vec (Bl.refl _) (by simp))))
 rintro ⟨k,used,sum⟩ ⟨i1,i2,i3,i4,i5⟩
 simp only at i1 i2 i3 i4 i5 ⊢
 have hkB:(k:Int)*B≤60*1000000000:=Int.mul_le_mul (by omega) h4 (by omega) (by omega)
 by_cases hk:k<l.length
 ·obtain ⟨r,hr⟩:∃ r,l.length-k=r+1:=⟨l.length-k-1,by omega⟩
  rw [hr] at i5
  have hr':l.length-(k+1)=r:=by omega
  have b0s:((k+1:Nat):Int)*B=(k:Int)*B+B:=by rw [Int.natCast_add,Int.add_mul];simp
  unfold Xp at i5
  by_cases c1:gi cols k< -1∨gi cols k≥m
  ·rw [if_pos c1] at i5
   rw [← i5]
   repeat' (first|apply Ad.AA|apply Ad.Ar|apply Ad.Ai|apply AU.ret|apply AO.ret|apply Aw.ret|apply Ad.ret|apply Af.nil|apply Af.one|(apply Af.take;rfl;rfl)|(apply Af.drop;rfl;rfl;rfl)|(apply Af.guard;rfl;rfl)|(apply Aa.assign;rfl)|(apply Aa.move;rfl)|(apply Aa.int;rfl;rfl;rfl)|(apply Aa.Ba;rfl;rfl;rfl;omega;rfl)|(apply Aa.load;rfl;rfl)|(apply Aa.Bo;rfl;rfl)|(apply Aa.AQ;rfl;rfl)|(apply Aa.lenV;rfl;rfl;rfl)|(apply Ad.Ae;rfl)|(apply Ad.cond_true;rfl)|(apply Ad.AY;rfl)|(intro _;try (exfalso;omega)))
   all_goals first|(exfalso;omega)|contradiction|(refine Done.ret rfl (.refl _) (by exact PV.Ac rfl) Ak.nil (Nat.zero_le _) (Nat.le_refl _) ⟨?_,rfl,rfl⟩;try rfl)
  rw [if_neg c1] at i5
  by_cases c2:gi cols k<0
  ·rw [if_pos c2] at i5
   repeat' (first|apply Ad.AA|apply Ad.region|apply Ad.Ar|apply Ad.Ai|apply AU.normal|apply AU.exit|apply AO.exit|(apply AO.out;decide)|apply Ad.exit|apply Af.nil|apply Af.one|(apply Af.take;rfl;rfl)|(apply Af.guard;rfl;rfl)|(apply Aa.assign;rfl)|(apply Aa.move;rfl)|(apply Aa.Bz;rfl;rfl;omega)|(apply Aa.int;rfl;rfl;rfl)|(apply Aa.Ba;rfl;rfl;rfl;omega;rfl)|(apply Aa.load;rfl;rfl)|(apply Aa.AQ;rfl;rfl)|(apply Aa.lenV;rfl;rfl;rfl)|(apply Ad.Ae;rfl)|(apply Ad.AY;rfl)|(intro _;try (exfalso;omega)))
   all_goals try (exfalso;omega)
   refine Aw.normal ⟨(k+1,used,sum+skip),⟨hk,i2,by simp only;omega,by simp only;omega,by simp only;rw [hr'];exact i5⟩,by simp only;omega,⟨by omega,?_,?_⟩⟩
   ·repeat (first|exact Ap.nil|refine Ap.same (by exact PV.Ac rfl) rfl ?_|refine Ap.cons trivial rfl (.of_eq (Au (by simp<;>omega))) ?_)
   ·repeat (first|exact Ak.nil|(refine Ak.cons (Aj rfl) ?_ rfl ?_ ?_;(first|exact HB.Ac rfl|exact AZ.Ag _ _|(simp [HB.under,AZ.under,PV.under]));(first|exact Bv.refl _|exact Bv.vec (Bl.refl _) (by simp))))
  rw [if_neg c2] at i5
  obtain ⟨j,hj⟩:∃ j:Nat,gi cols k=j:=⟨(gi cols k).toNat,by omega⟩
  rw [hj,Int.toNat_natCast] at i5
  have hjm:j<m:=by omega
  have hc:=uJ k j hk hjm
  have hrl:=hrow k hk
  by_cases c3:gi used j=true
  ·rw [if_pos c3] at i5
   rw [← i5]
   repeat' (first|apply Ad.AA|apply Ad.Ar|apply Ad.Ai|apply AU.ret|apply AO.ret|apply Aw.ret|apply Ad.ret|apply Af.nil|apply Af.one|(apply Af.take;rfl;rfl)|(apply Aa.BH;rfl;rfl;(first|omega|(simp only [NV]<;>omega));exact congrArg (fun b=>some (FV.bool b)) (c3))|(apply Aa.load;rfl;exact congrArg (fun a=>some (PV.p (FV.int .i64 a))) hj)|(apply Aa.assign;rfl)|(apply Aa.move;rfl)|(apply Aa.int;rfl;rfl;rfl)|(apply Aa.Ba;rfl;rfl;rfl;omega;rfl)|(apply Aa.AQ;rfl;rfl)|(apply Aa.lenV;rfl;rfl;rfl)|(apply Aa.BD;rfl;rfl;rfl;rfl;omega)|(apply Ad.Ae;rfl)|(apply Ad.cond_true;rfl)|(apply Ad.cond_false;rfl)|(apply Ad.AY;rfl)|(intro _;try (exfalso;omega)))
   all_goals first|(exfalso;omega)|contradiction|(refine Done.ret rfl (.refl _) (by exact PV.Ac rfl) Ak.nil (Nat.zero_le _) (Nat.le_refl _) ⟨?_,rfl,rfl⟩;try rfl)
  ·rw [if_neg c3] at i5
   have c3':gi used j=false:=by cases h:gi used j<;>simp_all
   repeat' (first|apply Ad.AA|apply Ad.region|apply Ad.Ar|apply Ad.Ai|apply AU.normal|apply AO.normal|apply Ad.skip|apply Af.nil|apply Af.one|(apply Af.take;rfl;rfl)|(apply Aa.BH;rfl;rfl;(first|omega|(simp only [NV]<;>omega));exact congrArg (fun b=>some (FV.bool b)) (c3'))|(apply Aa.load;rfl;exact congrArg (fun a=>some (PV.p (FV.int .i64 a))) hj)|(apply Aa.CU (y:=true);rfl;rfl;rfl;trivial;(first|rfl|(refine congrArg (fun t=>[PV.p (FV.int _ t)]) ?_;first|omega|(simp only [Int.natCast_add,Int.natCast_mul,Int.natCast_ediv,Int.natCast_emod]<;>omega)));rfl;rfl;decide;(first|omega|(simp only [List.length_set]<;>omega)))|(apply Aa.assign;rfl)|(apply Aa.move;rfl)|(apply Aa.Bz;rfl;rfl;omega)|(apply Aa.int;rfl;rfl;rfl)|(apply Aa.Ba;rfl;rfl;rfl;omega;rfl)|(apply Aa.load;rfl;rfl)|(apply Aa.AQ;rfl;rfl)|(apply Aa.lenV;rfl;rfl;rfl)|(apply Aa.BD;rfl;rfl;rfl;rfl;omega)|(apply Ad.Ae;rfl)|(apply Ad.cond_false;rfl)|(apply Ad.AY;rfl)|(intro _;try (exfalso;omega)))
   all_goals try (exfalso;omega)
   refine Aw.normal ⟨(k+1,used.set j true,sum+gi (gi l k) j),⟨hk,by simp only;rw [List.length_set];exact i2,by simp only;omega,by simp only;omega,by simp only;rw [hr'];exact i5⟩,by simp only;omega,⟨by omega,?_,?_⟩⟩
   ·repeat (first|exact Ap.nil|refine Ap.same (by exact PV.Ac rfl) rfl ?_|refine Ap.cons trivial rfl (.of_eq (Au (by simp<;>omega))) ?_)
   ·repeat (first|exact Ak.nil|(refine Ak.cons (Aj rfl) ?_ rfl ?_ ?_;(first|exact HB.Ac rfl|exact AZ.Ag _ _|(simp [HB.under,AZ.under,PV.under]));(first|exact Bv.refl _|exact Bv.vec (Bl.refl _) (by simp))))
 ·obtain rfl:k=l.length:=by omega
  rw [Nat.sub_self] at i5
  unfold Xp at i5
  rw [← i5]
  repeat' (first|apply Ad.AA|apply Ad.A8|apply AU.normal|apply AO.exit|apply Aw.exit|apply Ad.ret|apply Af.nil|apply Af.one|(apply Aa.assign;rfl)|(apply Aa.move;rfl)|(apply Aa.int;rfl;rfl;rfl)|(apply Ad.Ae;rfl)|(intro _;try (exfalso;omega)))
  all_goals first|(exfalso;omega)|contradiction|(refine Done.ret rfl (.refl _) (by exact PV.Ac rfl) Ak.nil (Nat.zero_le _) (Nat.le_refl _) ⟨?_,rfl,rfl⟩;try rfl)
theorem Zf (a b:List Int) (h0:a.length+b.length=0):Ci env 102 [.lst 52 [.lst 3 (cells a) a.length,.lst 3 (cells b) b.length] 2] 3 (cells (a++b)) (a.length+b.length) true:=by
 have hg:=pX
 have e0:(0:Int)=0+(a.length:Int)+(b.length:Int):=by omega
 rw [e0] at hg
 refine Ci.enter (AB (by decide)) Tryz.func102 rfl (by kernel_rfl) (by simp [Tryz.ntmps102]) ?_
 repeat' (first|apply Ad.assoc|apply Ad.AA|apply Ad.Ai|apply Af.nil|apply Af.one|(apply Aa.assign;rfl)|(apply Aa.move;rfl)|(apply Aa.BQ;rfl;rfl))
 refine Ad.kZ 2 ?_
 repeat' (first|apply Ad.assoc|apply Ad.AA|apply Ad.region|apply Ad.Ar|apply Ad.A8|apply Ad.Ai|apply AU.normal|apply AO.normal|apply AO.exit|apply Aw.exit|apply Ad.skip|apply Af.nil|apply Af.one|(apply Aa.fn;rfl;rfl;exact hg;intro _;rfl)|(apply YP.zero)|(apply YP.succ)|(apply Aw.again)|(apply Aa.Sj;rfl;rfl;rfl;decide;decide)|(apply Aa.assign;rfl)|(apply Aa.move;rfl)|(apply Aa.Bz;rfl;rfl;omega)|(apply Aa.int;rfl;rfl;rfl)|(apply Aa.load;rfl;rfl)|(apply Aa.BQ;rfl;rfl)|(apply Ad.Bc;rfl)|(apply Ad.Az;rfl)|(apply Ad.cond_false;rfl))
 refine Ad.ghost (AL.adopt 6 3 rfl) ?_
 refine Ad.kZ 2 ?_
 repeat' (first|apply Ad.AA|apply Ad.region|apply Ad.Ar|apply Ad.A8|apply Ad.Ai|apply AU.normal|apply AO.normal|apply AO.exit|apply Aw.exit|apply Ad.ret|apply Af.nil|apply Af.one|(apply YP.zero)|(apply YP.succ)|(apply Aw.again)|(apply Aa.Sj;rfl;rfl;rfl;decide;decide)|(apply Aa.QZ (l:=a) (r:=b);rfl;rfl;rfl;rfl;rfl;rfl;rfl;(intro _ h;cases h);rfl;rfl;rfl;decide;decide;omega)|(apply Aa.DC (r:=a);rfl;rfl;rfl;rfl;rfl;rfl;(intro _ h;cases h);rfl;rfl;rfl;decide;decide;omega)|(apply Aa.assign;rfl)|(apply Aa.move;rfl)|(apply Aa.Bz;rfl;rfl;omega)|(apply Aa.int;rfl;rfl;rfl)|(apply Aa.load;rfl;rfl)|(apply Ad.Bc;rfl)|(apply Ad.Az;rfl))
 exact CS.ret rfl rfl rfl rfl
def sumT (l:List Int):Nat→Int
 |0=>0
 |k+1=>sumT l k+gi l k
def Kw (x:Int):Prop:=-1000000000000≤x∧x≤1000000000000
theorem WR {l:List Int}:∀ k,(∀ i,i<k→Kw (gi l i))→-(k*1000000000000:Int)≤sumT l k∧sumT l k≤k*1000000000000
 |0,_=>by simp [sumT]
 |k+1,h=>by
  obtain ⟨a,b⟩:=WR k fun i hi=>h i (by omega)
  obtain ⟨c,d⟩:=h k (by omega)
  simp only [sumT]
  omega
noncomputable def IX (l:List (List Int)) (m:Nat) (rows BZ:List Int):Int×Int :=
 open Classical in
 if ¬ (rows.length=l.length∧BZ.length=m) then (0,5)
 else if ∃ i,i<(rows++BZ).length∧¬ Kw (gi (rows++BZ) i) then (0,3)
 else if ∃ k,k<BZ.length∧gi BZ k>0 then (0,20)
 else if ∃ i k,i<l.length∧k<m∧gi rows i+gi BZ k>gi (gi l i) k then (0,20)
 else (sumT (rows++BZ) (rows++BZ).length,0)
section
variable {l:List (List Int)} {m:Nat} {rows BZ:List Int}
theorem a5f (h:¬ (rows.length=l.length∧BZ.length=m)):IX l m rows BZ=(0,5):=by unfold IX;rw [if_pos h]
theorem a7p (h:rows.length=l.length∧BZ.length=m) {i:Nat} (hi:i<(rows++BZ).length) (hb:¬ Kw (gi (rows++BZ) i)):IX l m rows BZ=(0,3):=by unfold IX;rw [if_neg (fun x=>x h),if_pos ⟨i,hi,hb⟩]
theorem a1w (h:rows.length=l.length∧BZ.length=m) (hb:∀ i,i<(rows++BZ).length→Kw (gi (rows++BZ) i)) {k:Nat} (hk:k<BZ.length) (hp:gi BZ k>0):IX l m rows BZ=(0,20):=by
 unfold IX;rw [if_neg (fun x=>x h),if_neg (fun ⟨i,h1,h2⟩=>h2 (hb i h1)),if_pos ⟨k,hk,hp⟩]
theorem a1x (h:rows.length=l.length∧BZ.length=m) (hb:∀ i,i<(rows++BZ).length→Kw (gi (rows++BZ) i)) (hn:∀ k,k<BZ.length→gi BZ k≤0) {i k:Nat} (hi:i<l.length) (hk:k<m) (hp:gi rows i+gi BZ k>gi (gi l i) k):IX l m rows BZ=(0,20):=by
 unfold IX;rw [if_neg (fun x=>x h),if_neg (fun ⟨i,h1,h2⟩=>h2 (hb i h1)),if_neg (fun ⟨k,h1,h2⟩=>by have:=hn k h1;omega),if_pos ⟨i,k,hi,hk,hp⟩]
theorem zU (h:rows.length=l.length∧BZ.length=m) (hb:∀ i,i<(rows++BZ).length→Kw (gi (rows++BZ) i)) (hn:∀ k,k<BZ.length→gi BZ k≤0) (hf:∀ i,i<l.length→∀ k,k<m→gi rows i+gi BZ k≤gi (gi l i) k):IX l m rows BZ=(sumT (rows++BZ) (rows++BZ).length,0):=by
 unfold IX;rw [if_neg (fun x=>x h),if_neg (fun ⟨i,h1,h2⟩=>h2 (hb i h1)),if_neg (fun ⟨k,h1,h2⟩=>by have:=hn k h1;omega),if_neg (fun ⟨i,k,h1,h2,h3⟩=>by have:=hf i h1 k h2;omega)]
end
theorem QW {P:Nat→Prop} {k:Nat} (h:∀ i,i<k→P i) (hk:P k):∀ i,i<k+1→P i:=fun i hi=>by
 rcases Nat.lt_or_ge i k with h1|h1
 ·exact h i h1
 ·obtain rfl:i=k:=by omega
  exact hk
theorem Vq {a b:List Int} {i:Nat} (h:i<a.length):gi (a++b) i=gi a i:=by unfold gi;rw [List.getElem?_append_left h]
theorem Vs {a b:List Int} {i:Nat}:gi (a++b) (a.length+i)=gi b i:=by unfold gi;rw [List.getElem?_append_right (by omega),Nat.add_sub_cancel_left]
theorem UE {l:List (List Int)} {m:Nat} {skip B:Int} (e:TypeId) (h:QC l l.length m skip B) (rows BZ:List Int) :
 AX env 74 [.lst e (cells l) l.length,.lst 3 (cells rows) rows.length,.lst 3 (cells BZ) BZ.length] (.EW [.p (.int .i64 (IX l m rows BZ).1),.p (.int .i64 (IX l m rows BZ).2)]):=by
 have hcl:=Ol e h
 have h2:=h.n60
 have h3:=h.zq
 have h4:=h.B9
 have hrow:=h.XF.row
 have uJ:=h.XF.rng
 by_cases hlen:rows.length=l.length∧BZ.length=m
 case neg =>
  rw [a5f hlen]
  refine AX.enter (AB (by decide)) Tryz.func74 rfl (by kernel_rfl) (by simp [Tryz.ntmps74]) ?_
  repeat' (first|apply Ad.assoc|apply Ad.AA|apply Ad.BI|apply Af.nil|apply Af.one|(apply Af.take;rfl;rfl)|(apply Af.drop;rfl;rfl;rfl)|(apply Af.guard;rfl;rfl)|(apply Aa.fn;rfl;rfl;exact hcl;intro _;rfl)|(apply Aa.assign;rfl)|(apply Aa.move;rfl)|(apply Aa.int;rfl;rfl;rfl)|(apply Aa.Bo;rfl;rfl)|(apply Aa.AQ;rfl;rfl)|(apply Aa.BQ;rfl;rfl)|(apply Ad.Bc;rfl)|(apply Ad.Ae;rfl)|(intro _;try (exfalso;omega)))
  all_goals first|(exfalso;omega)|contradiction|(refine Done.ret rfl (.refl _) (by exact PV.Ac rfl) Ak.nil (Nat.zero_le _) (Nat.le_refl _) ⟨?_,rfl,rfl⟩;try rfl)
 have hp3:∀ i,i<(rows++BZ).length→¬ Kw (gi (rows++BZ) i)→IX l m rows BZ=(0,3):=fun i=>a7p hlen
 have a4u:(∀ i,i<(rows++BZ).length→Kw (gi (rows++BZ) i))→∀ k,k<BZ.length→gi BZ k>0→IX l m rows BZ=(0,20):=fun hb k=>a1w hlen hb
 have a4r:(∀ i,i<(rows++BZ).length→Kw (gi (rows++BZ) i))→(∀ k,k<BZ.length→gi BZ k≤0)→∀ i k,i<l.length→k<m→gi rows i+gi BZ k>gi (gi l i) k→IX l m rows BZ=(0,20):=fun hb hn i k=>a1x hlen hb hn
 have a3r:(∀ i,i<(rows++BZ).length→Kw (gi (rows++BZ) i))→(∀ k,k<BZ.length→gi BZ k≤0)→(∀ i,i<l.length→∀ k,k<m→gi rows i+gi BZ k≤gi (gi l i) k)→IX l m rows BZ=(sumT (rows++BZ) (rows++BZ).length,0):=zU hlen
 have gr:∀ k,k<l.length→gi (rows++BZ) k=gi rows k:=fun k hk=>Vq (by omega)
 have gp:∀ j,j<BZ.length→gi (rows++BZ) (rows.length+j)=gi BZ j:=fun j _=>Vs
 have zY:(rows++BZ).length=rows.length+BZ.length:=List.length_append
 rcases Nat.eq_zero_or_pos (rows.length+BZ.length) with hz|hz
 ·have hcn:=Zf rows BZ hz
  rw [← zY] at hcn
  generalize rows++BZ=cat at *
  generalize IX l m rows BZ=R at *
  refine AX.enter (AB (by decide)) Tryz.func74 rfl (by kernel_rfl) (by simp [Tryz.ntmps74]) ?_
  repeat' (first|(refine Af.He 30 ?_;refine Af.ghost (AL.freeze 29 rfl rfl) ?_)|apply Ad.assoc|apply Ad.AA|apply Ad.Ar|apply Ad.Ai|apply Af.nil|apply Af.one|(apply Af.take;rfl;rfl)|(apply Af.guard;rfl;rfl)|(apply Aa.fn;rfl;rfl;exact hcl;intro _;rfl)|(apply Aa.fv;rfl;rfl;exact hcn)|(apply Aa.assign;rfl)|(apply Aa.move;rfl)|(apply Aa.int;rfl;rfl;rfl)|(apply Aa.AQ;rfl;rfl)|(apply Aa.BQ;rfl;rfl)|(apply Aa.lenV;rfl;rfl;rfl)|(apply Aa.buildSlice;rfl;rfl;rfl;decide;rfl;rfl;rfl)|(apply Ad.Ae;rfl)|(intro _;try (exfalso;omega)))
  all_goals try (exfalso;omega)
  apply Ad.H8 (cat.length) (fun k=>∀ i,i<k→Kw (gi cat i)) [(0,_),(1,_),(2,_),(30,_),(31,_)] [(1,_)] (fun k r=>(8,.p (.int .i64 (sumT cat k)))::(32,.p (.int .i64 (k:Int)))::r) (fun k r=>r) 2
  ·first|omega|decide
  ·first|omega|decide
  ·repeat (first|exact Ap.nil|(refine Ap.eq rfl ?_ ?_;(first|exact PV.Ac rfl|(simp [PV.under,AZ.under];done)))|refine Ap.cons trivial rfl (.of_eq (Au (by simp<;>omega))) ?_)
  ·repeat (first|exact Ak.nil|(refine Ak.eq rfl (Aj rfl) ?_ ?_;(first|exact HB.Ac rfl|exact AZ.Ag _ _|(simp [HB.under,AZ.under,PV.under];done)))|(refine Ak.cons (Aj rfl) ?_ rfl ?_ ?_;(first|exact trivial|exact AZ.Ag _ _|(simp [HB.under,AZ.under,PV.under]));(first|exact Bv.refl _|exact Bv.vec (Bl.refl _) (by simp))))
  ·first|(intro _ _;omega)|omega|trivial
  ·intro k hk;omega
  ·intro hall
   repeat' (first|apply Ad.assoc|apply Ad.AA|apply Ad.A8|apply Ad.Ai|apply AU.normal|apply AO.exit|apply Aw.exit|apply Af.nil|apply Af.one|(apply Vd;rfl;rfl;rfl;exact le_dec rfl)|(apply Vf;rfl;rfl;rfl;exact le_dec rfl)|(apply Aa.assign;rfl)|(apply Aa.move;rfl)|(apply Aa.int;rfl;rfl;rfl)|(apply Aa.BQ;rfl;rfl)|(apply Ad.Ae;rfl)|(intro _;try (exfalso;omega)))
   all_goals try (exfalso;omega)
   apply Ad.H8 (BZ.length) (fun k=>∀ i,i<k→gi BZ i≤0) [(0,_),(1,_),(7,_)] [(1,_)] (fun k r=>(8,.p (.int .i64 (k:Int)))::r) (fun k r=>r) 2
   ·first|omega|decide
   ·first|omega|decide
   ·repeat (first|exact Ap.nil|(refine Ap.eq rfl ?_ ?_;(first|exact PV.Ac rfl|(simp [PV.under,AZ.under];done)))|refine Ap.cons trivial rfl (.of_eq (Au (by simp<;>omega))) ?_)
   ·repeat (first|exact Ak.nil|(refine Ak.eq rfl (Aj rfl) ?_ ?_;(first|exact HB.Ac rfl|exact AZ.Ag _ _|(simp [HB.under,AZ.under,PV.under];done)))|(refine Ak.cons (Aj rfl) ?_ rfl ?_ ?_;(first|exact trivial|exact AZ.Ag _ _|(simp [HB.under,AZ.under,PV.under]));(first|exact Bv.refl _|exact Bv.vec (Bl.refl _) (by simp))))
   ·first|(intro _ _;omega)|omega|trivial
   ·intro k hk;omega
   ·intro hneg
    repeat' (first|apply Ad.assoc|apply Ad.AA|apply Ad.Ar|apply Ad.A8|apply Ad.Ai|apply AU.normal|(apply Bq.ret;rfl)|apply AO.exit|apply Aw.exit|apply Ad.ret|apply Af.nil|apply Af.one|(apply Aa.assign;rfl)|(apply Aa.move;rfl)|(apply Aa.int;rfl;rfl;rfl)|(apply Aa.BQ;rfl;rfl)|(apply Ad.Az;rfl)|(apply Ad.Ae;rfl)|(intro _;try (exfalso;omega)))
    all_goals try (exfalso;omega)
    all_goals try contradiction
    apply Ad.H8 (l.length) (fun k=>∀ i,i<k→∀ j,j<m→gi rows i+gi BZ j≤gi (gi l i) j) [(0,_),(1,_),(2,_),(8,_),(48,_),(49,_)] [(1,_)] (fun k r=>(50,.p (.int .i64 (k:Int)))::r) (fun k r=>r) 2
    ·first|omega|decide
    ·first|omega|decide
    ·repeat (first|exact Ap.nil|(refine Ap.eq rfl ?_ ?_;(first|exact PV.Ac rfl|(simp [PV.under,AZ.under];done)))|refine Ap.cons trivial rfl (.of_eq (Au (by simp<;>omega))) ?_)
    ·repeat (first|exact Ak.nil|(refine Ak.eq rfl (Aj rfl) ?_ ?_;(first|exact HB.Ac rfl|exact AZ.Ag _ _|(simp [HB.under,AZ.under,PV.under];done)))|(refine Ak.cons (Aj rfl) ?_ rfl ?_ ?_;(first|exact trivial|exact AZ.Ag _ _|(simp [HB.under,AZ.under,PV.under]));(first|exact Bv.refl _|exact Bv.vec (Bl.refl _) (by simp))))
    ·first|(intro _ _;omega)|omega|trivial
    ·intro k hk;omega
    ·intro hf
     rw [a3r hall hneg hf]
     repeat' (first|apply Ad.AA|apply Ad.A8|apply AU.normal|apply AO.exit|apply Aw.exit|apply Ad.ret|apply Af.nil|apply Af.one|(apply Aa.assign;rfl)|(apply Aa.move;rfl)|(apply Aa.int;rfl;rfl;rfl)|(apply Ad.Ae;rfl)|(intro _;try (exfalso;omega)))
     all_goals first|(exfalso;omega)|contradiction|(refine Done.ret rfl (.refl _) (by exact PV.Ac rfl) Ak.nil (Nat.zero_le _) (Nat.le_refl _) ⟨?_,rfl,rfl⟩;try rfl)
 ·have hcn:=Y2 rows BZ hz (by omega)
  rw [← zY] at hcn
  generalize rows++BZ=cat at *
  generalize IX l m rows BZ=R at *
  refine AX.enter (AB (by decide)) Tryz.func74 rfl (by kernel_rfl) (by simp [Tryz.ntmps74]) ?_
  repeat' (first|(refine Af.He 30 ?_;refine Af.ghost (AL.freeze 29 rfl rfl) ?_)|apply Ad.assoc|apply Ad.AA|apply Ad.Ar|apply Ad.Ai|apply Af.nil|apply Af.one|(apply Af.take;rfl;rfl)|(apply Af.guard;rfl;rfl)|(apply Aa.fn;rfl;rfl;exact hcl;intro _;rfl)|(apply Aa.fv;rfl;rfl;exact hcn)|(apply Aa.assign;rfl)|(apply Aa.move;rfl)|(apply Aa.int;rfl;rfl;rfl)|(apply Aa.AQ;rfl;rfl)|(apply Aa.BQ;rfl;rfl)|(apply Aa.lenV;rfl;rfl;rfl)|(apply Aa.buildSlice;rfl;rfl;rfl;decide;rfl;rfl;rfl)|(apply Ad.Ae;rfl)|(intro _;try (exfalso;omega)))
  all_goals try (exfalso;omega)
  apply Ad.H8 (cat.length) (fun k=>∀ i,i<k→Kw (gi cat i)) [(0,_),(1,_),(2,_),(30,_),(31,_)] [(1,_)] (fun k r=>(8,.p (.int .i64 (sumT cat k)))::(32,.p (.int .i64 (k:Int)))::r) (fun k r=>r) 2
  ·first|omega|decide
  ·first|omega|decide
  ·repeat (first|exact Ap.nil|(refine Ap.eq rfl ?_ ?_;(first|exact PV.Ac rfl|(simp [PV.under,AZ.under];done)))|refine Ap.cons trivial rfl (.of_eq (Au (by simp<;>omega))) ?_)
  ·repeat (first|exact Ak.nil|(refine Ak.eq rfl (Aj rfl) ?_ ?_;(first|exact HB.Ac rfl|exact AZ.Ag _ _|(simp [HB.under,AZ.under,PV.under];done)))|(refine Ak.cons (Aj rfl) ?_ rfl ?_ ?_;(first|exact trivial|exact AZ.Ag _ _|(simp [HB.under,AZ.under,PV.under]));(first|exact Bv.refl _|exact Bv.vec (Bl.refl _) (by simp))))
  ·first|(intro _ _;omega)|omega|trivial
  ·intro k hk hi
   have hb:=WR k hi
   by_cases hx:Kw (gi cat k)
   ·obtain ⟨x1,x2⟩:=hx
    repeat' (first|apply Ad.assoc|apply Ad.AA|apply Ad.region|apply Ad.Ar|apply Ad.Ai|apply AU.normal|apply AO.normal|apply Af.nil|apply Af.one|(apply Af.take;rfl;rfl)|(apply Af.guard;rfl;rfl)|(apply Aa.assign;rfl)|(apply Aa.move;rfl)|(apply Aa.Bz;rfl;rfl;omega)|(apply Aa.int;rfl;rfl;rfl)|(apply Aa.BH;rfl;rfl;omega;rfl)|(apply Aa.AQ;rfl;rfl)|(apply Aa.BD;rfl;rfl;rfl;rfl;omega)|(apply Ad.Ae;rfl)|(intro _;try (exfalso;omega)))
    all_goals try (exfalso;omega)
    refine Aw.normal ⟨(QW hi ⟨x1,x2⟩),by first|omega|decide,?_,?_⟩
    ·repeat (first|exact Ap.nil|refine Ap.same (by exact PV.Ac rfl) rfl ?_|refine Ap.cons trivial rfl (.of_eq (Au (by simp<;>omega))) ?_)
    ·repeat (first|exact Ak.nil|(refine Ak.cons (Aj rfl) ?_ rfl ?_ ?_;(first|exact HB.Ac rfl|exact AZ.Ag _ _|(simp [HB.under,AZ.under,PV.under]));(first|exact Bv.refl _|exact Bv.vec (Bl.refl _) (by simp))))
   ·rw [hp3 k hk hx]
    unfold Kw at hx
    repeat' (first|apply Ad.assoc|apply Ad.AA|apply Ad.Ar|apply Ad.BI|apply Ad.Ai|apply AU.ret|apply AO.ret|apply Aw.ret|apply Af.nil|apply Af.one|(apply Af.take;rfl;rfl)|(apply Af.drop;rfl;rfl;rfl)|(apply Af.guard;rfl;rfl)|(apply Aa.assign;rfl)|(apply Aa.move;rfl)|(apply Aa.int;rfl;rfl;rfl)|(apply Aa.BH;rfl;rfl;omega;rfl)|(apply Aa.Bo;rfl;rfl)|(apply Aa.AQ;rfl;rfl)|(apply Aa.BD;rfl;rfl;rfl;rfl;omega)|(apply Ad.Bc;rfl)|(apply Ad.Ae;rfl)|(intro _;try (exfalso;omega)))
    all_goals first|(exfalso;omega)|contradiction|(refine Done.ret rfl (.refl _) (by exact PV.Ac rfl) Ak.nil (Nat.zero_le _) (Nat.le_refl _) ⟨?_,rfl,rfl⟩;try rfl)
  ·intro hall
   repeat' (first|apply Ad.assoc|apply Ad.AA|apply Ad.A8|apply Ad.Ai|apply AU.normal|apply AO.exit|apply Aw.exit|apply Af.nil|apply Af.one|(apply Vd;rfl;rfl;rfl;exact le_dec rfl)|(apply Vf;rfl;rfl;rfl;exact le_dec rfl)|(apply Aa.assign;rfl)|(apply Aa.move;rfl)|(apply Aa.int;rfl;rfl;rfl)|(apply Aa.BQ;rfl;rfl)|(apply Ad.Ae;rfl)|(intro _;try (exfalso;omega)))
   all_goals try (exfalso;omega)
   apply Ad.H8 (BZ.length) (fun k=>∀ i,i<k→gi BZ i≤0) [(0,_),(1,_),(7,_)] [(1,_)] (fun k r=>(8,.p (.int .i64 (k:Int)))::r) (fun k r=>r) 2
   ·first|omega|decide
   ·first|omega|decide
   ·repeat (first|exact Ap.nil|(refine Ap.eq rfl ?_ ?_;(first|exact PV.Ac rfl|(simp [PV.under,AZ.under];done)))|refine Ap.cons trivial rfl (.of_eq (Au (by simp<;>omega))) ?_)
   ·repeat (first|exact Ak.nil|(refine Ak.eq rfl (Aj rfl) ?_ ?_;(first|exact HB.Ac rfl|exact AZ.Ag _ _|(simp [HB.under,AZ.under,PV.under];done)))|(refine Ak.cons (Aj rfl) ?_ rfl ?_ ?_;(first|exact trivial|exact AZ.Ag _ _|(simp [HB.under,AZ.under,PV.under]));(first|exact Bv.refl _|exact Bv.vec (Bl.refl _) (by simp))))
   ·first|(intro _ _;omega)|omega|trivial
   ·intro k hk hi
    by_cases hx:gi BZ k≤0
    ·repeat' (first|apply Ad.AA|apply Ad.region|apply Ad.Ar|apply Ad.Ai|apply AU.normal|(apply Bq.ret;rfl)|apply AO.normal|apply Ad.ret|apply Ad.skip|apply Af.nil|apply Af.one|(apply l9;rfl;rfl;rfl;exact le_dec rfl)|(apply Aa.assign;rfl)|(apply Aa.move;rfl)|(apply Aa.Bz;rfl;rfl;omega)|(apply Aa.int;rfl;rfl;rfl)|(apply Aa.Ba;rfl;rfl;rfl;omega;rfl)|(apply Aa.load;rfl;rfl)|(apply Ad.Ae;rfl)|(apply Ad.AY;rfl)|(intro _;try (exfalso;omega)))
     all_goals try (exfalso;omega)
     refine Aw.normal ⟨(QW hi hx),by first|omega|decide,?_,?_⟩
     ·repeat (first|exact Ap.nil|refine Ap.same (by exact PV.Ac rfl) rfl ?_|refine Ap.cons trivial rfl (.of_eq (Au (by simp<;>omega))) ?_)
     ·repeat (first|exact Ak.nil|(refine Ak.cons (Aj rfl) ?_ rfl ?_ ?_;(first|exact HB.Ac rfl|exact AZ.Ag _ _|(simp [HB.under,AZ.under,PV.under]));(first|exact Bv.refl _|exact Bv.vec (Bl.refl _) (by simp))))
    ·rw [a4u hall k hk (by omega)]
     repeat' (first|apply Ad.assoc|apply Ad.AA|apply Ad.Ar|apply Ad.BI|apply Ad.Ai|apply AU.ret|(apply Bq.ret;rfl)|apply AO.ret|apply Aw.ret|apply Ad.ret|apply Af.nil|apply Af.one|(apply l9;rfl;rfl;rfl;exact le_dec rfl)|(apply Aa.assign;rfl)|(apply Aa.move;rfl)|(apply Aa.int;rfl;rfl;rfl)|(apply Aa.Ba;rfl;rfl;rfl;omega;rfl)|(apply Aa.load;rfl;rfl)|(apply Ad.Bc;rfl)|(apply Ad.Ae;rfl)|(apply Ad.AY;rfl)|(intro _;try (exfalso;omega)))
     all_goals first|(exfalso;omega)|contradiction|(refine Done.ret rfl (.refl _) (by exact PV.Ac rfl) Ak.nil (Nat.zero_le _) (Nat.le_refl _) ⟨?_,rfl,rfl⟩;try rfl)
   ·intro hneg
    repeat' (first|apply Ad.assoc|apply Ad.AA|apply Ad.Ar|apply Ad.A8|apply Ad.Ai|apply AU.normal|(apply Bq.ret;rfl)|apply AO.exit|apply Aw.exit|apply Ad.ret|apply Af.nil|apply Af.one|(apply Aa.assign;rfl)|(apply Aa.move;rfl)|(apply Aa.int;rfl;rfl;rfl)|(apply Aa.BQ;rfl;rfl)|(apply Ad.Az;rfl)|(apply Ad.Ae;rfl)|(intro _;try (exfalso;omega)))
    all_goals try (exfalso;omega)
    all_goals try contradiction
    apply Ad.H8 (l.length) (fun k=>∀ i,i<k→∀ j,j<m→gi rows i+gi BZ j≤gi (gi l i) j) [(0,_),(1,_),(2,_),(8,_),(48,_),(49,_)] [(1,_)] (fun k r=>(50,.p (.int .i64 (k:Int)))::r) (fun k r=>r) 2
    ·first|omega|decide
    ·first|omega|decide
    ·repeat (first|exact Ap.nil|(refine Ap.eq rfl ?_ ?_;(first|exact PV.Ac rfl|(simp [PV.under,AZ.under];done)))|refine Ap.cons trivial rfl (.of_eq (Au (by simp<;>omega))) ?_)
    ·repeat (first|exact Ak.nil|(refine Ak.eq rfl (Aj rfl) ?_ ?_;(first|exact HB.Ac rfl|exact AZ.Ag _ _|(simp [HB.under,AZ.under,PV.under];done)))|(refine Ak.cons (Aj rfl) ?_ rfl ?_ ?_;(first|exact trivial|exact AZ.Ag _ _|(simp [HB.under,AZ.under,PV.under]));(first|exact Bv.refl _|exact Bv.vec (Bl.refl _) (by simp))))
    ·first|(intro _ _;omega)|omega|trivial
    ·intro k hk hi
     have hrl:=hrow k hk
     have r1:=hall k (by omega)
     rw [gr k hk] at r1
     obtain ⟨r2,r3⟩:=r1
     repeat' (first|apply Ad.AA|apply Ad.Ar|apply Ad.Ai|apply Ad.Fv|apply Af.nil|apply Af.one|(apply Aa.assign;rfl)|(apply Aa.move;rfl)|(apply Aa.int;rfl;rfl;rfl)|(apply Aa.Ba;rfl;rfl;rfl;omega;rfl)|(apply Aa.load;rfl;rfl)|(apply Aa.BQ;rfl;rfl)|(apply Ad.Ae;rfl)|(intro _;try (exfalso;omega)))
     all_goals try (exfalso;omega)
     apply Ad.H8 ((gi l k).length) (fun k_=>∀ j,j<k_→gi rows k+gi BZ j≤gi (gi l k) j) [(0,_),(1,_),(2,_),(8,_),(11,_),(48,_),(49,_),(50,_),(55,_),(56,_)] [(1,_)] (fun k_ r=>(57,.p (.int .i64 (k_:Int)))::r) (fun k_ r=>r) 2
     ·first|omega|decide
     ·first|omega|decide
     ·repeat (first|exact Ap.nil|(refine Ap.eq rfl ?_ ?_;(first|exact PV.Ac rfl|(simp [PV.under,AZ.under];done)))|refine Ap.cons trivial rfl (.of_eq (Au (by simp<;>omega))) ?_)
     ·repeat (first|exact Ak.nil|(refine Ak.eq rfl (Aj rfl) ?_ ?_;(first|exact HB.Ac rfl|exact AZ.Ag _ _|(simp [HB.under,AZ.under,PV.under];done)))|(refine Ak.cons (Aj rfl) ?_ rfl ?_ ?_;(first|exact trivial|exact AZ.Ag _ _|(simp [HB.under,AZ.under,PV.under]));(first|exact Bv.refl _|exact Bv.vec (Bl.refl _) (by simp))))
     ·first|(intro _ _;omega)|omega|trivial
     ·intro j hj hij
      have c1:=uJ k j hk (by omega)
      have p1:=hall (rows.length+j) (by omega)
      rw [gp j (by omega)] at p1
      obtain ⟨p2,p3⟩:=p1
      by_cases hx:gi rows k+gi BZ j≤gi (gi l k) j
      ·repeat' (first|apply Ad.AA|apply Ad.Bj|apply Ad.region|apply Ad.Ar|apply Ad.Ai|apply AU.normal|apply AO.normal|apply Ad.skip|apply Af.nil|apply Aq.nil|apply Af.one|(apply Aq.bar;decide +kernel)|apply Aq.quiet|(apply Aa.assign;rfl)|(apply Aa.move;rfl)|(apply Aa.Bz;rfl;rfl;omega)|(apply Aa.int;rfl;rfl;rfl)|(apply Aa.Ba;rfl;rfl;rfl;omega;rfl)|(apply Aa.load;rfl;rfl)|(apply Ad.Ae;rfl)|(apply Ad.AY;rfl)|(intro _;try (exfalso;omega)))
       all_goals try (exfalso;omega)
       refine Aw.normal ⟨(QW hij hx),by first|omega|decide,?_,?_⟩
       ·repeat (first|exact Ap.nil|refine Ap.same (by exact PV.Ac rfl) rfl ?_|refine Ap.cons trivial rfl (.of_eq (Au (by simp<;>omega))) ?_)
       ·repeat (first|exact Ak.nil|(refine Ak.cons (Aj rfl) ?_ rfl ?_ ?_;(first|exact HB.Ac rfl|exact AZ.Ag _ _|(simp [HB.under,AZ.under,PV.under]));(first|exact Bv.refl _|exact Bv.vec (Bl.refl _) (by simp))))
      ·rw [a4r hall hneg k j hk (by omega) (by omega)]
       repeat' (first|apply Ad.AA|apply Ad.Bj|apply Ad.Ar|apply Ad.Ai|apply AU.ret|apply AO.ret|apply Aw.ret|apply Ad.ret|apply Af.nil|apply Aq.nil|apply Af.one|(apply Aq.bar;decide +kernel)|apply Aq.quiet|(apply Aa.assign;rfl)|(apply Aa.move;rfl)|(apply Aa.Bz;rfl;rfl;omega)|(apply Aa.int;rfl;rfl;rfl)|(apply Aa.Ba;rfl;rfl;rfl;omega;rfl)|(apply Aa.load;rfl;rfl)|(apply Ad.Ae;rfl)|(apply Ad.AY;rfl)|(intro _;try (exfalso;omega)))
       all_goals first|(exfalso;omega)|contradiction|(refine Done.ret rfl (.refl _) (by exact PV.Ac rfl) Ak.nil (Nat.zero_le _) (Nat.le_refl _) ⟨?_,rfl,rfl⟩;try rfl)
     ·intro sO
      rw [hrl] at sO
      repeat' (first|apply Ad.AA|apply Ad.region|apply Ad.A8|apply AU.normal|apply AO.normal|apply AO.exit|apply Aw.exit|apply Af.nil|apply Af.one|(apply Aa.move;rfl)|(apply Aa.Bz;rfl;rfl;omega)|(apply Aa.int;rfl;rfl;rfl)|(apply Ad.Ae;rfl)|(intro _;try (exfalso;omega)))
      all_goals try (exfalso;omega)
      refine Aw.normal ⟨(QW hi sO),by first|omega|decide,?_,?_⟩
      ·repeat (first|exact Ap.nil|refine Ap.same (by exact PV.Ac rfl) rfl ?_|refine Ap.cons trivial rfl (.of_eq (Au (by simp<;>omega))) ?_)
      ·repeat (first|exact Ak.nil|(refine Ak.cons (Aj rfl) ?_ rfl ?_ ?_;(first|exact HB.Ac rfl|exact AZ.Ag _ _|(simp [HB.under,AZ.under,PV.under]));(first|exact Bv.refl _|exact Bv.vec (Bl.refl _) (by simp))))
    ·intro hf
     rw [a3r hall hneg hf]
     repeat' (first|apply Ad.AA|apply Ad.A8|apply AU.normal|apply AO.exit|apply Aw.exit|apply Ad.ret|apply Af.nil|apply Af.one|(apply Aa.assign;rfl)|(apply Aa.move;rfl)|(apply Aa.int;rfl;rfl;rfl)|(apply Ad.Ae;rfl)|(intro _;try (exfalso;omega)))
     all_goals first|(exfalso;omega)|contradiction|(refine Done.ret rfl (.refl _) (by exact PV.Ac rfl) Ak.nil (Nat.zero_le _) (Nat.le_refl _) ⟨?_,rfl,rfl⟩;try rfl)
noncomputable def mG (l:List (List Int)) (m:Nat) (r:QB) (sum e most:Int):Int :=
 open Classical in
 if e≠0 then e else if sum≠r.total then 7 else if (IX l m r.rows r.BZ).2≠0 then (IX l m r.rows r.BZ).2
 else if (IX l m r.rows r.BZ).1<r.total∨∃ i,i<r.rows.length∧gi r.rows i>most then 20 else 0
noncomputable def vZ (l:List (List Int)) (m:Nat) (skip:Int) (r:QB):Int:=mG l m r (Y0 l m skip r.cols).1 (Y0 l m skip r.cols).2 skip
theorem iy {l:List (List Int)} {m:Nat} {skip B:Int} (ty:TypeId) (h:QC l l.length m skip B) (r:QB) (sum e most:Int) :
 AX env 48 [.lst ty (cells l) l.length,.agg (Enc.enc r),.int .i64 sum,.int .i64 e,.int .i64 most] (.p (.int .i64 (mG l m r sum e most))):=by
 have hp:=UE ty h r.rows r.BZ
 have hE:mG l m r sum e most=if e≠0 then e else if sum≠r.total then 7 else if (IX l m r.rows r.BZ).2≠0 then (IX l m r.rows r.BZ).2
  else open Classical in if (IX l m r.rows r.BZ).1<r.total∨∃ i,i<r.rows.length∧gi r.rows i>most then 20 else 0:=rfl
 rw [hE]
 clear hE
 refine AX.enter (AB (by decide)) Tryz.func48 rfl (by kernel_rfl) (by simp [Tryz.ntmps48]) ?_
 by_cases e1:e=0
 case neg =>
  rw [if_pos e1]
  repeat' (first|apply Ad.AA|apply Ad.Ai|apply AU.ret|apply AO.ret|apply Ad.ret|apply Af.nil|apply Af.one|(apply Aa.assign;rfl)|(apply Aa.move;rfl)|(apply Aa.int;rfl;rfl;rfl)|(apply Aa.box;rfl;trivial)|(apply Ad.AY;rfl)|(intro _;try (exfalso;omega)))
  all_goals first|(exfalso;omega)|contradiction|(refine Done.ret rfl (.refl _) (by exact PV.Ac rfl) Ak.nil (Nat.zero_le _) (Nat.le_refl _) ⟨?_,rfl,rfl⟩;try rfl)
 rw [if_neg (fun x=>x e1)]
 by_cases e2:sum=r.total
 case neg =>
  rw [if_pos e2]
  repeat' (first|apply Ad.AA|apply Ad.Ai|apply AU.ret|apply AO.ret|apply Ad.ret|apply Af.nil|apply Af.one|(apply Aa.assign;rfl)|(apply Aa.move;rfl)|(apply Aa.int;rfl;rfl;rfl)|(apply Aa.load;rfl;rfl)|(apply Aa.AV;rfl;rfl;rfl)|(apply Aa.box;rfl;trivial)|(apply Ad.AY;rfl)|(intro _;try (exfalso;omega)))
  all_goals first|(exfalso;omega)|contradiction|(refine Done.ret rfl (.refl _) (by exact PV.Ac rfl) Ak.nil (Nat.zero_le _) (Nat.le_refl _) ⟨?_,rfl,rfl⟩;try rfl)
 rw [if_neg (fun x=>x e2)]
 have hlen0:(IX l m r.rows r.BZ).2=0→r.rows.length=l.length:=fun h0=>Classical.byContradiction fun h1=>by
  rw [a5f (fun x=>h1 x.1)] at h0
  cases h0
 have h60:=h.n60
 generalize IX l m r.rows r.BZ=P at *
 obtain ⟨b,e3⟩:=P
 simp only at hp hlen0 ⊢
 by_cases e4:e3=0
 case neg =>
  rw [if_pos e4]
  repeat' (first|apply Ad.AA|apply Ad.Ai|apply AU.normal|apply AU.ret|apply AO.normal|apply AO.ret|apply Ad.ret|apply Ad.skip|apply Af.nil|apply Af.one|(apply Aa.fn;rfl;rfl;exact hp;intro _;rfl)|(apply Aa.assign;rfl)|(apply Aa.move;rfl)|(apply Aa.int;rfl;rfl;rfl)|(apply Aa.load;rfl;rfl)|(apply Aa.AV;rfl;rfl;rfl)|(apply Aa.box;rfl;trivial)|(apply Aa.extract;rfl;rfl)|(apply Ad.AY;rfl)|(intro _;try (exfalso;omega)))
  all_goals first|(exfalso;omega)|contradiction|(refine Done.ret rfl (.refl _) (by exact PV.Ac rfl) Ak.nil (Nat.zero_le _) (Nat.le_refl _) ⟨?_,rfl,rfl⟩;try rfl)
 rw [if_neg (fun x=>x e4)]
 have hlen:=hlen0 e4
 by_cases e5:b<r.total
 ·rw [if_pos (.inl e5)]
  repeat' (first|apply Ad.AA|apply Ad.Ai|apply AU.normal|apply AU.ret|apply AO.normal|apply AO.ret|apply Ad.ret|apply Ad.skip|apply Af.nil|apply Af.one|(apply Af.drop;rfl;rfl;rfl)|(apply Af.guard;rfl;rfl)|(apply Aa.fn;rfl;rfl;exact hp;intro _;rfl)|(apply Aa.assign;rfl)|(apply Aa.move;rfl)|(apply Aa.int;rfl;rfl;rfl)|(apply Aa.load;rfl;rfl)|(apply Aa.Bo;rfl;rfl)|(apply Aa.AV;rfl;rfl;rfl)|(apply Aa.box;rfl;trivial)|(apply Aa.extract;rfl;rfl)|(apply Ad.cond_true;rfl)|(apply Ad.AY;rfl)|(intro _;try (exfalso;omega)))
  all_goals first|(exfalso;omega)|contradiction|(refine Done.ret rfl (.refl _) (by exact PV.Ac rfl) Ak.nil (Nat.zero_le _) (Nat.le_refl _) ⟨?_,rfl,rfl⟩;try rfl)
 ·repeat' (first|apply Ad.assoc|apply Ad.AA|apply Ad.Ai|apply AU.normal|apply AO.normal|apply Ad.skip|apply Af.nil|apply Af.one|(apply Af.take;rfl;rfl)|(apply Af.guard;rfl;rfl)|(apply Aa.fn;rfl;rfl;exact hp;intro _;rfl)|(apply Aa.makeFunc;rfl;rfl)|(apply Vd;rfl;rfl;rfl;exact le_dec rfl)|(apply Vf;rfl;rfl;rfl;exact le_dec rfl)|(apply Aa.assign;rfl)|(apply Aa.move;rfl)|(apply Aa.int;rfl;rfl;rfl)|(apply Aa.load;rfl;rfl)|(apply Aa.BQ;rfl;rfl)|(apply Aa.AV;rfl;rfl;rfl)|(apply Aa.box;rfl;trivial)|(apply Aa.extract;rfl;rfl)|(apply Ad.AY;rfl)|(intro _;try (exfalso;omega)))
  all_goals try (exfalso;omega)
  all_goals try contradiction
  apply Ad.H8 (r.rows.length) (fun k=>∀ i,i<k→gi r.rows i≤most) [(0,_),(1,_),(7,_)] [(1,_),(0,_)] (fun k r=>(8,.p (.int .i64 (k:Int)))::r) (fun k r=>r) 2
  ·first|omega|decide
  ·first|omega|decide
  ·repeat (first|exact Ap.nil|(refine Ap.eq rfl ?_ ?_;(first|exact PV.Ac rfl|(simp [PV.under,AZ.under];done)))|refine Ap.cons trivial rfl (.of_eq (Au (by simp<;>omega))) ?_)
  ·repeat (first|exact Ak.nil|(refine Ak.eq rfl (Aj rfl) ?_ ?_;(first|exact HB.Ac rfl|exact AZ.Ag _ _|(simp [HB.under,AZ.under,PV.under];done)))|(refine Ak.cons (Aj rfl) ?_ rfl ?_ ?_;(first|exact trivial|exact AZ.Ag _ _|(simp [HB.under,AZ.under,PV.under]));(first|exact Bv.refl _|exact Bv.vec (Bl.refl _) (by simp))))
  ·first|(intro _ _;omega)|omega|trivial
  ·intro k hk hi
   by_cases hx:gi r.rows k≤most
   ·repeat' (first|apply Ad.AA|apply Ad.region|apply Ad.Ar|apply Ad.Ai|apply AU.normal|(apply Bq.ret;rfl)|apply AO.normal|apply Ad.ret|apply Ad.skip|apply Af.nil|apply Af.one|(apply lY;rfl;rfl;rfl;exact le_dec rfl)|(apply Aa.assign;rfl)|(apply Aa.move;rfl)|(apply Aa.Bz;rfl;rfl;omega)|(apply Aa.int;rfl;rfl;rfl)|(apply Aa.Ba;rfl;rfl;rfl;omega;rfl)|(apply Aa.load;rfl;rfl)|(apply Ad.Ae;rfl)|(apply Ad.AY;rfl)|(intro _;try (exfalso;omega)))
    all_goals try (exfalso;omega)
    refine Aw.normal ⟨(QW hi hx),by first|omega|decide,?_,?_⟩
    ·repeat (first|exact Ap.nil|refine Ap.same (by exact PV.Ac rfl) rfl ?_|refine Ap.cons trivial rfl (.of_eq (Au (by simp<;>omega))) ?_)
    ·repeat (first|exact Ak.nil|(refine Ak.cons (Aj rfl) ?_ rfl ?_ ?_;(first|exact HB.Ac rfl|exact AZ.Ag _ _|(simp [HB.under,AZ.under,PV.under]));(first|exact Bv.refl _|exact Bv.vec (Bl.refl _) (by simp))))
   ·rw [if_pos (.inr ⟨k,hk,by omega⟩)]
    repeat' (first|apply Ad.AA|apply Ad.Ar|apply Ad.Ai|apply AU.ret|(apply Bq.ret;rfl)|apply AO.ret|apply Aw.ret|apply Ad.ret|apply Af.nil|apply Af.one|(apply lY;rfl;rfl;rfl;exact le_dec rfl)|(apply Aa.assign;rfl)|(apply Aa.move;rfl)|(apply Aa.int;rfl;rfl;rfl)|(apply Aa.Ba;rfl;rfl;rfl;omega;rfl)|(apply Aa.load;rfl;rfl)|(apply Aa.AQ;rfl;rfl)|(apply Ad.Ae;rfl)|(apply Ad.cond_true;rfl)|(apply Ad.AY;rfl)|(intro _;try (exfalso;omega)))
    all_goals first|(exfalso;omega)|contradiction|(refine Done.ret rfl (.refl _) (by exact PV.Ac rfl) Ak.nil (Nat.zero_le _) (Nat.le_refl _) ⟨?_,rfl,rfl⟩;try rfl)
  ·intro hall
   rw [if_neg (by
    rintro (h1|⟨i,h1,h2⟩)
    ·exact e5 h1
    ·have:=hall i h1;omega)]
   repeat' (first|apply Ad.AA|apply Ad.A8|apply AU.normal|(apply Bq.ret;rfl)|apply AO.normal|apply AO.exit|apply Aw.exit|apply Ad.ret|apply Ad.skip|apply Af.nil|apply Af.one|(apply Aa.assign;rfl)|(apply Aa.int;rfl;rfl;rfl)|(apply Aa.AQ;rfl;rfl)|(apply Ad.Ae;rfl)|(apply Ad.cond_false;rfl)|(intro _;try (exfalso;omega)))
   all_goals first|(exfalso;omega)|contradiction|(refine Done.ret rfl (.refl _) (by exact PV.Ac rfl) Ak.nil (Nat.zero_le _) (Nat.le_refl _) ⟨?_,rfl,rfl⟩;try rfl)
theorem ay {l:List (List Int)} {m:Nat} {skip B:Int} (ty:TypeId) (h:QC l l.length m skip B) (r:QB) :
 AX env 22 [.lst ty (cells l) l.length,.int .i64 skip,.agg (Enc.enc r)] (.p (.int .i64 (vZ l m skip r))):=by
 have hc:=MB ty h
 have ht:=gJ ty h r.cols
 have hp:=iy ty h r (Y0 l m skip r.cols).1 (Y0 l m skip r.cols).2 skip
 refine AX.enter (AB (by decide)) Tryz.func22 rfl (by kernel_rfl) (by simp [Tryz.ntmps22]) ?_
 repeat' (first|apply Ad.assoc|apply Ad.AA|apply Ad.Ar|apply Ad.ret|apply Af.nil|apply Af.one|(apply Aa.fn;rfl;rfl;exact hc;intro _;rfl)|(apply Aa.fn;rfl;rfl;exact ht;intro _;rfl)|(apply Aa.fn;rfl;rfl;exact hp;intro _;rfl)|(apply Aa.assign;rfl)|(apply Aa.move;rfl)|(apply Aa.int;rfl;rfl;rfl)|(apply Aa.load;rfl;rfl)|(apply Aa.AV;rfl;rfl;rfl)|(apply Aa.box;rfl;trivial)|(apply Aa.extract;rfl;rfl)|(apply Ad.Az;rfl))
 all_goals first|(exfalso;omega)|contradiction|(refine Done.ret rfl (.refl _) (by exact PV.Ac rfl) Ak.nil (Nat.zero_le _) (Nat.le_refl _) ⟨?_,rfl,rfl⟩;try rfl)
theorem SB {l:List (List Int)} {m:Nat} {skip:Int} {cols:List Int} (h:lM l.length m fun r=>gi cols r):∀ (r k:Nat) (used:List Bool) (sum:Int),k+r=l.length→(∀ q,k≤q→q<l.length→0≤gi cols q→gi used (gi cols q).toNat=false)→used.length=m →
 Xp l m skip cols r k used sum=(sum+Tz (fK l skip fun r=>gi cols r) l.length r,0)
 |0,k,used,sum,hk,hu,hl=>by simp [Xp,Tz]
 |r+1,k,used,sum,hk,hu,hl=>by
  have hrg:=h.rng k (by omega)
  have hrg:-1≤gi cols k∧gi cols k<m:=hrg
  have ek:l.length-(r+1)=k:=by omega
  unfold Xp
  rw [if_neg (by omega)]
  simp only [Tz,ek]
  by_cases c2:gi cols k<0
  ·rw [if_pos c2,SB h r (k+1) used (sum+skip) (by omega) (fun q q1 q2 q3=>hu q (by omega) q2 q3) hl]
   have e:fK l skip (fun r=>gi cols r) k=skip:=if_pos c2
   rw [e,Int.add_assoc]
  ·rw [if_neg c2,hu k (Nat.le_refl _) (by omega) (by omega),if_neg (by decide)]
   have e:fK l skip (fun r=>gi cols r) k=gi (gi l k) (gi cols k).toNat:=if_neg c2
   rw [SB h r (k+1) _ _ (by omega) (fun q q1 q2 q3=>?_) (by rw [List.length_set];exact hl),e,Int.add_assoc]
   rw [gs (by omega),if_neg]
   ·exact hu q (by omega) q2 q3
   ·intro e
    have:=h.inj k q (by omega) q2 (show 0≤gi cols k by omega) (show gi cols k=gi cols q by omega)
    omega
theorem Yq (l:List Int):∀ k,sumT l k=DR (fun i=>gi l i) k
 |0=>rfl
 |k+1=>by simp only [sumT,DR,Yq l k]
theorem wP {l:List (List Int)} {m:Nat} {skip B:Int} (h:QC l l.length m skip B):vZ l m skip (YR l m skip)=0:=by
 have hP:=wQ h.XF
 have hB:=h.B9
 have hm:(YR l m skip)=⟨wV l l.length m skip,jd l l.length m skip,wH l l.length m skip,tV l l.length m skip⟩:=rfl
 rw [hm]
 generalize wV l l.length m skip=C at *
 generalize jd l l.length m skip=T at *
 generalize wH l l.length m skip=U at *
 generalize tV l l.length m skip=V at *
 have ht:Y0 l m skip C=(T,0):=by
  unfold Y0
  rw [if_neg (fun x=>x hP.lC),SB hP.part l.length 0 _ 0 (by omega) (fun q _ _ _=>by
   unfold gi;rw [List.getElem?_replicate];split<;>rfl) (by simp),qF,← hP.tot]
  simp
 have a8o:∀ i,i<(U++V).length→Kw (gi (U++V) i):=fun i hi=>by
  rw [List.length_append,hP.lU,hP.lV] at hi
  rcases Nat.lt_or_ge i l.length with h1|h1
  ·rw [Vq (by rw [hP.lU];exact h1)]
   have:=hP.a7r i h1
   exact ⟨by omega,by omega⟩
  ·obtain ⟨j,rfl⟩:∃ j,i=U.length+j:=⟨i-U.length,by have:=hP.lU;omega⟩
   rw [Vs]
   have:=hP.lU
   have:=hP.a4a j (by omega)
   exact ⟨by omega,by omega⟩
 have hs:sumT (U++V) (U++V).length=T:=by
  rw [Yq,List.length_append,PY,hP.a2w,hP.lU,hP.lV]
  congr 1
  ·exact EU fun k hk=>Vq (by rw [hP.lU];exact hk)
  ·exact EU fun k hk=>by
    have:=Vs (a:=U) (b:=V) (i:=k)
    rw [hP.lU] at this
    exact this
 have hp:IX l m U V=(T,0):=by
  rw [zU ⟨hP.lU,hP.lV⟩ a8o (fun k hk=>(hP.a4a k (by have:=hP.lV;omega)).2) (fun i hi k hk=>hP.pot.WQ i k hi hk),hs]
 unfold vZ mG
 simp only [ht,hp]
 rw [if_neg (fun h=>h rfl),if_neg (fun h=>h rfl),if_neg (fun h=>h rfl),if_neg]
 rintro (h1|⟨i,h1,h2⟩)
 ·omega
 ·have:=hP.pot.skip i (by have:=hP.lU;omega)
  have:gi U i≤skip:=this
  omega
end Go.Proofs.YtdabojnmoejilaaGreatDoor
namespace Go.Proofs.YtdabojnmoejilaaGreatDoor
open Go Go.Am Go.Vm Go.Tra Go.Hun
attribute [local irreducible] Aa Af Aq Ad BF AX Ci AU AO Aw Vm.Done CS Bq
attribute [local irreducible] DW DN Je Kz QO Dc
structure lg (q:P5):Prop where
 sm1:GR q.Df
 sm2:GR q.tgt
 rg:q.reg.Ok
 err:GK q=0
 shb:ShB q.Df q.tgt
theorem LG {q:P5} (h:GK q=0):Jy q.Df=0∧OY q.Df q.reg=0∧Jy q.tgt=0∧KQ q.IE∧(Ce q.Df q.reg).length≤60∧(Dj q.tgt).length≤120:=by
 unfold GK at h
 split at h
 ·rename_i h1;exact absurd h h1
 rename_i h1
 split at h
 ·rename_i h2;exact absurd h h2
 rename_i h2
 split at h
 ·rename_i h3;exact absurd h h3
 rename_i h3
 split at h
 ·exact absurd h (by decide)
 rename_i h4
 split at h
 ·exact absurd h (by decide)
 rename_i h5
 exact ⟨Classical.not_not.1 h1,Classical.not_not.1 h2,Classical.not_not.1 h3,Classical.not_not.1 h4,by omega,by omega⟩
theorem lg.k1 {q:P5} (h:lg q):KU q.Df:=oD h.sm1 (LG h.err).1
theorem lg.k2 {q:P5} (h:lg q):KU q.tgt:=oD h.sm2 (LG h.err).2.2.1
theorem lg.IE {q:P5} (h:lg q):KQ q.IE:=(LG h.err).2.2.2.1
theorem lg.len {q:P5} (h:lg q):q.reg.stops.length=q.Df.Ah.length:=Zk (LG h.err).2.1
def Jq (q:P5):List (List Int):=Nr q.Df q.tgt q.reg q.IE
def O4 (q:P5):Nat:=if (Ce q.Df q.reg).length=0 then 0 else (Dj q.tgt).length
theorem oP (q:P5):(Jq q).length=(Ce q.Df q.reg).length:=by simp [Jq,Nr]
theorem tC (q:P5) {r k:Nat} (hr:r<(Ce q.Df q.reg).length) (hk:k<(Dj q.tgt).length):gi (gi (Jq q) r) k=O9 q.Df q.tgt q.IE (gi (Ce q.Df q.reg) r) (gi (Dj q.tgt) k):=by
 unfold Jq Nr
 rw [gi_map' _ hr,gi_map' _ hk]
theorem oZ (q:P5) {r:Nat} (hr:r<(Ce q.Df q.reg).length):(gi (Jq q) r).length=(Dj q.tgt).length:=by
 unfold Jq Nr
 rw [gi_map' _ hr,List.length_map]
theorem lg.XF {q:P5} (h:lg q):QC (Jq q) (Jq q).length (O4 q) q.IE.miss 101000000:=by
 obtain ⟨_,_,_,hw,h5,h6⟩:=LG h.err
 obtain ⟨_,_,_,w4⟩:=Ro hw
 have hl:=oP q
 refine ⟨⟨rfl,fun r hr=>?_,fun r k hr hk=>?_,⟨w4.1,by omega⟩,by decide⟩,by omega,?_,by decide,fun h0=>?_⟩
 ·rw [oZ q (by omega)]
  unfold O4;rw [if_neg (by omega)]
 ·unfold O4 at hk
  rw [if_neg (by omega)] at hk
  rw [tC q (by omega) hk]
  exact jH hw h.shb (Yl (iO (by omega))) (Ve hk)
 ·unfold O4;split<;>omega
 ·unfold O4;rw [if_pos (by omega)]
theorem Xj {l:List (List Int)} {m:Nat} {skip B:Int} (e:TypeId) (h:QC l l.length m skip B):AX env 45 [.lst e (cells l) l.length,.int .i64 skip] (.EW [.p (.agg (Enc.enc (YR l m skip))),.p (.int .i64 0)]):=by
 rcases Nat.eq_zero_or_pos l.length with h0|h0
 ·have hm:=h.m0 h0
  have hl:l=[]:=List.length_eq_zero_iff.1 h0
  subst hl;subst hm
  have:=h.XF.skip
  have:=h.B9
  exact Xo e (by omega)
 ·exact Zx e h h0
theorem MI {q:P5} (h:lg q):AX env 15 [.agg (Enc.enc q)] (.EW [.p (.lst 52 (cells (Jq q)) (Jq q).length),.p (.int .i64 0)]):=by
 have hc:=Jc q h.sm1 h.sm2 h.rg
 rw [h.err] at hc
 have hl:=Xm q h.k1 h.k2 h.IE h.shb h.rg h.len
 rw [show Nr q.Df q.tgt q.reg q.IE=Jq q from rfl] at hl
 refine AX.enter (AB (by decide)) Tryz.func15 rfl (by kernel_rfl) (by simp [Tryz.ntmps15]) ?_
 repeat' (first|apply Ad.assoc|apply Ad.AA|apply Ad.Ar|apply Ad.ret|apply Af.nil|apply Af.one|(apply Aa.fn;rfl;rfl;exact hc;intro _;rfl)|(apply Aa.fn;rfl;rfl;exact hl;intro _;rfl)|(apply Aa.assign;rfl)|(apply Aa.move;rfl)|(apply Aa.int;rfl;rfl;rfl)|(apply Aa.load;rfl;rfl)|(apply Aa.box;rfl;trivial)|(apply Aa.extract;rfl;rfl)|(apply Ad.Az;rfl))
 all_goals first|(exfalso;omega)|contradiction|(refine Done.ret rfl (.refl _) (by exact PV.Ac rfl) Ak.nil (Nat.zero_le _) (Nat.le_refl _) ⟨?_,rfl,rfl⟩;try rfl)
theorem EX {q:P5} (h1:GR q.Df) (h2:GR q.tgt) (hr:q.reg.Ok) (he:GK q≠0):AX env 15 [.agg (Enc.enc q)] (.EW [.p (.val (.slice none 0 0)),.p (.int .i64 (GK q))]):=by
 have hc:=Jc q h1 h2 hr
 refine AX.enter (AB (by decide)) Tryz.func15 rfl (by kernel_rfl) (by simp [Tryz.ntmps15]) ?_
 repeat' (first|apply Ad.assoc|apply Ad.AA|apply Ad.BI|apply Af.nil|apply Af.one|(apply Aa.fn;rfl;rfl;exact hc;intro _;rfl)|(apply Aa.assign;rfl)|(apply Aa.move;rfl)|(apply Aa.int;rfl;rfl;rfl)|(apply Aa.load;rfl;rfl)|(apply Aa.box;rfl;trivial)|(apply Ad.Ae;rfl)|(intro _;try (exfalso;omega)))
 all_goals first|(exfalso;omega)|contradiction|(refine Done.ret rfl (.refl _) (by exact PV.Ac rfl) Ak.nil (Nat.zero_le _) (Nat.le_refl _) ⟨?_,rfl,rfl⟩;try rfl)
noncomputable def NK (q:P5):QB:=YR (Jq q) (O4 q) q.IE.miss
theorem Xb {q:P5} (h:lg q):AX env 17 [.agg (Enc.enc q)] (.EW [.p (.agg (Enc.enc (NK q))),.p (.int .i64 0)]):=by
 have hl:=MI h
 have hp:=Xj 52 h.XF
 rw [show YR (Jq q) (O4 q) q.IE.miss=NK q from rfl] at hp
 generalize NK q=b at *
 refine AX.enter (AB (by decide)) Tryz.func17 rfl (by kernel_rfl) (by simp [Tryz.ntmps17]) ?_
 repeat' (first|apply Ad.assoc|apply Ad.AA|apply Ad.Ar|apply Ad.ret|apply Af.nil|apply Af.one|(apply Aa.fn;rfl;rfl;exact hl;intro _;rfl)|(apply Aa.fn;rfl;rfl;exact hp;intro _;rfl)|(apply Aa.assign;rfl)|(apply Aa.move;rfl)|(apply Aa.int;rfl;rfl;rfl)|(apply Aa.load;rfl;rfl)|(apply Aa.AV;rfl;rfl;rfl)|(apply Aa.box;rfl;trivial)|(apply Aa.alloc;rfl)|(apply Aa.Bd;rfl;rfl;rfl;trivial;rfl;rfl;exact Aj rfl;exact le_dec rfl)|(apply Aa.build;rfl;rfl;rfl;rfl;rfl)|(apply Aa.extract;rfl;rfl)|(apply Ad.Az;rfl))
 all_goals first|(exfalso;omega)|contradiction|(refine Done.ret rfl (.refl _) (by exact PV.Ac rfl) Ak.nil (Nat.zero_le _) (Nat.le_refl _) ⟨?_,rfl,rfl⟩;try rfl)
def Uo:List FV:=[.val (.slice none 0 0),.int .i64 0,.val (.slice none 0 0),.val (.slice none 0 0)]
theorem Jd {q:P5} (h1:GR q.Df) (h2:GR q.tgt) (hr:q.reg.Ok) (he:GK q≠0):AX env 17 [.agg (Enc.enc q)] (.EW [.p (.agg Uo),.p (.int .i64 (GK q))]):=by
 have hl:=EX h1 h2 hr he
 refine AX.enter (AB (by decide)) Tryz.func17 rfl (by kernel_rfl) (by simp [Tryz.ntmps17]) ?_
 repeat' (first|apply Ad.assoc|apply Ad.AA|apply Ad.BI|apply Af.nil|apply Af.one|(apply Aa.fn;rfl;rfl;exact hl;intro _;rfl)|(apply Aa.assign;rfl)|(apply Aa.move;rfl)|(apply Aa.int;rfl;rfl;rfl)|(apply Aa.load;rfl;rfl)|(apply Aa.box;rfl;trivial)|(apply Aa.alloc;rfl)|(apply Aa.Bd;rfl;rfl;rfl;trivial;rfl;rfl;exact Aj rfl;exact le_dec rfl)|(apply Aa.build;rfl;rfl;rfl;rfl;rfl)|(apply Aa.extract;rfl;rfl)|(apply Ad.Ae;rfl)|(intro _;try (exfalso;omega)))
 all_goals first|(exfalso;omega)|contradiction|(refine Done.ret rfl (.refl _) (by exact PV.Ac rfl) Ak.nil (Nat.zero_le _) (Nat.le_refl _) ⟨?_,rfl,rfl⟩;try rfl)
theorem Y6 {q:P5} (h:lg q) (p:QB):AX env 21 [.agg (Enc.enc q),.agg (Enc.enc p)] (.p (.int .i64 (vZ (Jq q) (O4 q) q.IE.miss p))):=by
 have hl:=MI h
 have hp:=ay 52 h.XF p
 refine AX.enter (AB (by decide)) Tryz.func21 rfl (by kernel_rfl) (by simp [Tryz.ntmps21]) ?_
 repeat' (first|apply Ad.assoc|apply Ad.AA|apply Ad.Ar|apply Ad.ret|apply Af.nil|apply Af.one|(apply Aa.fn;rfl;rfl;exact hl;intro _;rfl)|(apply Aa.fn;rfl;rfl;exact hp;intro _;rfl)|(apply Aa.assign;rfl)|(apply Aa.move;rfl)|(apply Aa.int;rfl;rfl;rfl)|(apply Aa.load;rfl;rfl)|(apply Aa.AV;rfl;rfl;rfl)|(apply Aa.box;rfl;trivial)|(apply Aa.build;rfl;rfl;rfl;rfl;rfl)|(apply Aa.extract;rfl;rfl)|(apply Ad.Az;rfl))
 all_goals first|(exfalso;omega)|contradiction|(refine Done.ret rfl (.refl _) (by exact PV.Ac rfl) Ak.nil (Nat.zero_le _) (Nat.le_refl _) ⟨?_,rfl,rfl⟩;try rfl)
theorem GN {q:P5} (h1:GR q.Df) (h2:GR q.tgt) (hr:q.reg.Ok) (he:GK q≠0) (p:List FV) (hp:p=Uo):AX env 21 [.agg (Enc.enc q),.agg p] (.p (.int .i64 (GK q))):=by
 subst hp
 have hl:=EX h1 h2 hr he
 refine AX.enter (AB (by decide)) Tryz.func21 rfl (by kernel_rfl) (by simp [Tryz.ntmps21]) ?_
 repeat' (first|apply Ad.assoc|apply Ad.AA|apply Ad.BI|apply Af.nil|apply Af.one|(apply Aa.fn;rfl;rfl;exact hl;intro _;rfl)|(apply Aa.assign;rfl)|(apply Aa.move;rfl)|(apply Aa.int;rfl;rfl;rfl)|(apply Aa.load;rfl;rfl)|(apply Aa.box;rfl;trivial)|(apply Aa.extract;rfl;rfl)|(apply Ad.Ae;rfl)|(intro _;try (exfalso;omega)))
 all_goals first|(exfalso;omega)|contradiction|(refine Done.ret rfl (.refl _) (by exact PV.Ac rfl) Ak.nil (Nat.zero_le _) (Nat.le_refl _) ⟨?_,rfl,rfl⟩;try rfl)
end Go.Proofs.YtdabojnmoejilaaGreatDoor
namespace Go.Proofs.YtdabojnmoejilaaGreatDoor
open Go Go.Am Go.Vm Go.Tra Go.Hun
attribute [local irreducible] Aa Af Aq Ad BF AX Ci AU AO Aw Vm.Done CS Bq
attribute [local irreducible] DW DN Je Kz QO Dc
theorem FK {q:P5} (h1:GR q.Df) (h2:GR q.tgt) (hr:q.reg.Ok) (he:GK q≠0):AX env 38 [.agg (Enc.enc q)] (.EW [.p (.val (.slice none 0 0)),.p (.int .i64 (GK q))]):=by
 have hc:=Jc q h1 h2 hr
 refine AX.enter (AB (by decide)) Tryz.func38 rfl (by kernel_rfl) (by simp [Tryz.ntmps38]) ?_
 repeat' (first|apply Ad.assoc|apply Ad.AA|apply Ad.BI|apply Af.nil|apply Af.one|(apply Aa.fn;rfl;rfl;exact hc;intro _;rfl)|(apply Aa.assign;rfl)|(apply Aa.move;rfl)|(apply Aa.int;rfl;rfl;rfl)|(apply Aa.load;rfl;rfl)|(apply Aa.box;rfl;trivial)|(apply Ad.Ae;rfl)|(intro _;try (exfalso;omega)))
 all_goals first|(exfalso;omega)|contradiction|(refine Done.ret rfl (.refl _) (by exact PV.Ac rfl) Ak.nil (Nat.zero_le _) (Nat.le_refl _) ⟨?_,rfl,rfl⟩;try rfl)
theorem Ii {q:P5} (h1:GR q.Df) (h2:GR q.tgt) (hr:q.reg.Ok) (he:GK q≠0):AX env 37 [.agg (Enc.enc q),.agg Uo] (.EW [.p (.agg [.val (.slice none 0 0),.int .u64 0,.int .u64 0]),.p (.int .i64 (GK q))]):=by
 have hc:=Jc q h1 h2 hr
 refine AX.enter (AB (by decide)) Tryz.func37 rfl (by kernel_rfl) (by simp [Tryz.ntmps37]) ?_
 repeat' (first|apply Ad.assoc|apply Ad.AA|apply Ad.BI|apply Af.nil|apply Af.one|(apply Aa.fn;rfl;rfl;exact hc;intro _;rfl)|(apply Aa.assign;rfl)|(apply Aa.move;rfl)|(apply Aa.int;rfl;rfl;rfl)|(apply Aa.load;rfl;rfl)|(apply Aa.box;rfl;trivial)|(apply Aa.alloc;rfl)|(apply Aa.Bd;rfl;rfl;rfl;trivial;rfl;rfl;exact Aj rfl;exact le_dec rfl)|(apply Aa.build;rfl;rfl;rfl;rfl;rfl)|(apply Ad.Ae;rfl)|(intro _;try (exfalso;omega)))
 all_goals first|(exfalso;omega)|contradiction|(refine Done.ret rfl (.refl _) (by exact PV.Ac rfl) Ak.nil (Nat.zero_le _) (Nat.le_refl _) ⟨?_,rfl,rfl⟩;try rfl)
def wK (w:U2) (w0:Int):Nat→Int
 |0=>w0
 |k+1=>if wK w w0 k=0∧(gi (Eh w) k<0∨gi (Eh w) k>100000) then 3 else wK w w0 k
theorem Zv (w:U2) {w0:Int} (h:w0≠0):∀ k,wK w w0 k=w0
 |0=>rfl
 |k+1=>by
  have ih:=Zv w h k
  unfold wK
  rw [ih,if_neg (fun h'=>h h'.1)]
theorem lD (w:U2):∀ k,k≤4→(wK w 0 k=0∧(∀ i,i<k→0≤gi (Eh w) i∧gi (Eh w) i≤100000))∨(wK w 0 k=3∧∃ i,i<k∧¬ (0≤gi (Eh w) i∧gi (Eh w) i≤100000))
 |0,_=>.inl ⟨rfl,fun i hi=>absurd hi (by omega)⟩
 |k+1,hk=>by
  unfold wK
  rcases lD w k (by omega) with ⟨h1,h2⟩|⟨h1,i,hi,h2⟩
  ·by_cases h3:gi (Eh w) k<0∨gi (Eh w) k>100000
   ·exact .inr ⟨by rw [if_pos (And.intro h1 h3)],k,by omega,by omega⟩
   ·refine .inl ⟨by rw [if_neg (fun h=>h3 h.2)];exact h1,fun i hi=>?_⟩
    by_cases e:i=k
    ·subst e;omega
    ·exact h2 i (by omega)
  ·exact .inr ⟨by rw [if_neg (fun h=>by omega)];exact h1,i,by omega,h2⟩
open Classical in
theorem iH (w:U2):wK w 0 4=if KQ w then 0 else 3:=by
 rcases lD w 4 (Nat.le_refl _) with ⟨h1,h2⟩|⟨h1,i,hi,h2⟩
 ·rw [h1,if_pos (show KQ w from h2)]
 ·rw [h1,if_neg (fun h:KQ w=>h2 (h i hi))]
end Go.Proofs.YtdabojnmoejilaaGreatDoor
namespace Go.Proofs.YtdabojnmoejilaaGreatDoor
open Go Go.Am Go.Vm
attribute [local irreducible] Aa Af Aq Ad BF AX Ci AU AO Aw Vm.Done CS Bq
structure Slp where
 kind:Nat
 at_:Nat
instance:Enc Slp:={ default:=⟨0,0⟩,enc:=fun x=>[.int .u8 (x.kind:Int),.int .u8 (x.at_:Int)],size:=2,len:=fun _=>rfl }
structure Slp.Ok (x:Slp):Prop where
 kind:x.kind<256
 at_:x.at_<256
structure LH (n:Nat) (o:D7):Prop where
 sm:GR o
 ranks:o.ranks.length≤n
 Ah:o.Ah.length≤n
 CZ:o.CZ.length≤n
 stops:∀ i,i<o.Ah.length→(gi o.Ah i).stops.length≤n
def chA:List (List UInt8):=[[],[55],[97,32,98],[70,105,110,101]]
def chB:List (List UInt8):=[[],[82,48],[82,57]]
def chC:List (List UInt8):=[[],[68,48],[68,49],[83,111,108,111]]
def xE:List (List UInt8):=[[],[83,49],[84],[83,50]]
def chE:List (List UInt8):=[[],[67,48],[68,48]]
def cpA:List ZW:=[⟨-1,40⟩,⟨50,40⟩,⟨0,128⟩,⟨0,127⟩]
def EJ {α:Type} (f:List α→α) (l:List α):Nat→List α
 |0=>l
 |k+1=>EJ f l k++[f (EJ f l k)]
theorem FI {α:Type} (f:List α→α) (l:List α):∀ k,(EJ f l k).length=l.length+k
 |0=>rfl
 |k+1=>by simp [EJ,FI f l k];omega
def a0u (nm:List UInt8) (R:List Fh) (nr:Nat) (D:List Ld) (nd:Nat) (C:List Rt) (nc:Nat):List FV:=[.str (bs nm),.lst 131 (cells R) nr,.lst 97 (cells D) nd,.lst 147 (cells C) nc]
theorem DY {nm:List UInt8} {R:List Fh} {nr:Nat} {D:List Ld} {nd:Nat} {C:List Rt} {nc:Nat} (h1:R.length=nr) (h2:D.length=nd) (h3:C.length=nc):Enc.enc (⟨nm,R,D,C⟩:D7)=a0u nm R nr D nd C nc:=by subst h1;subst h2;subst h3;rfl
theorem a8w (o:D7) (n:Nat) (hn:n≤1000) (hl:LH n o) (hr0:0<o.ranks.length) (hd0:0<o.Ah.length) (K A:Nat) (hK:K<256) (hA:A<256) (hc:K % 16=0∨K % 16=14∨K % 16=15) :
 AX env 33 [.agg (Enc.enc o),.agg [.int .u8 (K:Int),.int .u8 (A:Int)]] (.p (.agg (Enc.enc (⟨o.name,o.ranks,o.Ah.set (A % o.Ah.length) (gi o.Ah (A % o.Ah.length)),o.CZ⟩:D7)))):=by
 have hr:=hl.ranks
 have hd:=hl.Ah
 have hcp:=hl.CZ
 have kd:A % o.Ah.length<o.Ah.length:=Nat.mod_lt _ hd0
 have kr:A % o.ranks.length<o.ranks.length:=Nat.mod_lt _ hr0
 have hst:=hl.stops _ kd
 rw [DY (nr:=o.ranks.length) (nd:=o.Ah.length) (nc:=o.CZ.length) rfl List.length_set rfl]
 refine AX.enter (AB (by decide)) Tryz.func33 rfl (by kernel_rfl) (by simp [Tryz.ntmps33]) ?_
 repeat' (first|(refine Ad.at 47 ?_;refine Ad.ghost (AL.AP 9 4 rfl rfl rfl) ?_;first|apply Ad.AA|apply Ad.Bj)|(refine Ad.at 49 ?_;refine Ad.ghost (AL.trans (AL.AP 0 1 rfl rfl rfl) (AL.trans (AL.AP 0 2 rfl rfl rfl) (AL.AP 0 3 rfl rfl rfl))) ?_;first|apply Ad.AA|apply Ad.Bj)|apply Ad.assoc|apply Ad.AA|apply Ad.Bj|apply Ad.Ai|apply AU.normal|apply AO.normal|apply Ad.ret|apply Ad.skip|apply Af.nil|apply Aq.nil|apply Af.one|(apply Aq.bar;decide +kernel)|apply Aq.quiet|(apply Aa.CU (y:=(gi o.Ah (A % o.Ah.length)));rfl;rfl;rfl;trivial;(first|rfl|(refine congrArg (fun t=>[PV.p (FV.int _ t)]) ?_;first|omega|(simp only [Int.natCast_add,Int.natCast_mul,Int.natCast_ediv,Int.natCast_emod]<;>omega)));rfl;rfl;decide;(first|omega|(simp only [List.length_set]<;>omega)))|(apply Aa.OI;rfl;rfl;omega)|(apply Aa.BD (i:=A % o.Ah.length);rfl;rfl;rfl;rfl;exact kd)|(apply Aa.BH (i:=A % o.Ah.length);rfl;rfl;exact kd;rfl)|(apply Aa.assign;rfl)|(apply Aa.move;rfl)|(apply Aa.FX;rfl;rfl;omega;omega)|(apply Aa.int;rfl;rfl;rfl)|(apply Aa.load;rfl;rfl)|(apply Aa.lenV;rfl;rfl;rfl)|(apply Aa.AV;rfl;rfl;rfl)|(apply Aa.box;rfl;trivial)|(apply Aa.alloc;rfl)|(apply Aa.Bd;rfl;rfl;rfl;trivial;rfl;rfl;exact Aj rfl;exact le_dec rfl)|(apply Aa.buildSlice;rfl;rfl;rfl;decide;rfl;rfl;rfl)|(apply Aa.DZ;rfl;rfl;rfl;rfl;omega)|(apply Aa.DC;rfl;rfl;rfl;(first|rfl|omega|(simp only [List.length_take,List.length_drop,List.length_append,List.length_singleton,List.length_cons,List.length_nil]<;>omega));rfl;rfl;(intro _ h;cases h);rfl;rfl;rfl;decide;decide;(first|omega|(simp only [List.length_take,List.length_drop,List.length_append,List.length_singleton,List.length_cons,List.length_nil]<;>omega)))|(apply Ad.Ae;rfl)|(apply Ad.AY;rfl)|(intro _;try (exfalso;omega)))
 all_goals first|(exfalso;omega)|contradiction|(refine Done.ret rfl (.refl _) (by exact PV.Ac rfl) Ak.nil (Nat.zero_le _) (Nat.le_refl _) ⟨?_,rfl,rfl⟩;try rfl)
end Go.Proofs.YtdabojnmoejilaaGreatDoor
namespace Go.Proofs.YtdabojnmoejilaaGreatDoor
open Go Go.Am Go.Vm
attribute [local irreducible] Aa Af Aq Ad BF AX Ci AU AO Aw Vm.Done CS Bq
theorem a9f (o:D7) (n:Nat) (hn:n≤1000) (hl:LH n o) (hr0:0<o.ranks.length) (hd0:0<o.Ah.length) (K A:Nat) (hK:K<256) (hA:A<256) (hc:K % 16=1) :
 AX env 33 [.agg (Enc.enc o),.agg [.int .u8 (K:Int),.int .u8 (A:Int)]] (.p (.agg (Enc.enc (⟨gi chA (A % 4),o.ranks,o.Ah.set (A % o.Ah.length) (gi o.Ah (A % o.Ah.length)),o.CZ⟩:D7)))):=by
 have hr:=hl.ranks
 have hd:=hl.Ah
 have hcp:=hl.CZ
 have kd:A % o.Ah.length<o.Ah.length:=Nat.mod_lt _ hd0
 have kr:A % o.ranks.length<o.ranks.length:=Nat.mod_lt _ hr0
 have hst:=hl.stops _ kd
 have a4:A % 4<chA.length:=Nat.mod_lt _ (by decide)
 rw [DY (nr:=o.ranks.length) (nd:=o.Ah.length) (nc:=o.CZ.length) rfl List.length_set rfl]
 refine AX.enter (AB (by decide)) Tryz.func33 rfl (by kernel_rfl) (by simp [Tryz.ntmps33]) ?_
 repeat' (first|(refine Ad.at 47 ?_;refine Ad.ghost (AL.AP 9 4 rfl rfl rfl) ?_;first|apply Ad.AA|apply Ad.Bj)|(refine Ad.at 49 ?_;refine Ad.ghost (AL.trans (AL.AP 0 1 rfl rfl rfl) (AL.trans (AL.AP 0 2 rfl rfl rfl) (AL.AP 0 3 rfl rfl rfl))) ?_;first|apply Ad.AA|apply Ad.Bj)|(refine Af.He 61 ?_;refine Af.ghost (AL.freeze 57 rfl rfl) ?_)|apply Ad.assoc|apply Ad.AA|apply Ad.Bj|apply Ad.region|apply Ad.Ai|apply AU.normal|apply AO.normal|apply Ad.ret|apply Af.nil|apply Aq.nil|apply Af.one|(apply Aq.bar;decide +kernel)|apply Aq.quiet|(apply Aa.Ba (l:=chA) (i:=A % 4);rfl;rfl;rfl;exact a4;rfl)|(apply Aa.CU (y:=(gi o.Ah (A % o.Ah.length)));rfl;rfl;rfl;trivial;(first|rfl|(refine congrArg (fun t=>[PV.p (FV.int _ t)]) ?_;first|omega|(simp only [Int.natCast_add,Int.natCast_mul,Int.natCast_ediv,Int.natCast_emod]<;>omega)));rfl;rfl;decide;(first|omega|(simp only [List.length_set]<;>omega)))|(apply Aa.OI;rfl;rfl;omega)|(apply Aa.BD (i:=A % o.Ah.length);rfl;rfl;rfl;rfl;exact kd)|(apply Aa.BH (i:=A % o.Ah.length);rfl;rfl;exact kd;rfl)|(apply Aa.assign;rfl)|(apply Aa.move;rfl)|(apply Aa.FX;rfl;rfl;omega;omega)|(apply Aa.int;rfl;rfl;rfl)|(apply Aa.load;rfl;rfl)|(apply Aa.lenV;rfl;rfl;rfl)|(apply Aa.AV;rfl;rfl;rfl)|(apply Aa.box;rfl;trivial)|(apply Aa.alloc;rfl)|(apply Aa.Bd;rfl;rfl;rfl;trivial;rfl;rfl;exact Aj rfl;exact le_dec rfl)|(apply Aa.buildSlice;rfl;rfl;rfl;decide;rfl;rfl;rfl)|(apply Aa.DZ;rfl;rfl;rfl;rfl;omega)|(apply Aa.DC;rfl;rfl;rfl;(first|rfl|omega|(simp only [List.length_take,List.length_drop,List.length_append,List.length_singleton,List.length_cons,List.length_nil]<;>omega));rfl;rfl;(intro _ h;cases h);rfl;rfl;rfl;decide;decide;(first|omega|(simp only [List.length_take,List.length_drop,List.length_append,List.length_singleton,List.length_cons,List.length_nil]<;>omega)))|(apply Ad.Ae;rfl)|(apply Ad.AY;rfl)|(intro _;try (exfalso;omega)))
 all_goals first|(exfalso;omega)|contradiction|(refine Done.ret rfl (.refl _) (by exact PV.Ac rfl) Ak.nil (Nat.zero_le _) (Nat.le_refl _) ⟨?_,rfl,rfl⟩;try rfl)
theorem a8q (o:D7) (n:Nat) (hn:n≤1000) (hl:LH n o) (hr0:0<o.ranks.length) (hd0:0<o.Ah.length) (K A:Nat) (hK:K<256) (hA:A<256) (hc:K % 16=2) :
 AX env 33 [.agg (Enc.enc o),.agg [.int .u8 (K:Int),.int .u8 (A:Int)]] (.p (.agg (Enc.enc (⟨o.name,o.ranks.set (A % o.ranks.length) (⟨(gi o.ranks (A % o.ranks.length)).name,(gi o.ranks (A % o.ranks.length)).Ep,(gi o.ranks (A % o.ranks.length)).Dp,(gi o.ranks (A % o.ranks.length)).first,[]⟩:Fh),o.Ah.set (A % o.Ah.length) (gi o.Ah (A % o.Ah.length)),o.CZ⟩:D7)))):=by
 have hr:=hl.ranks
 have hd:=hl.Ah
 have hcp:=hl.CZ
 have kd:A % o.Ah.length<o.Ah.length:=Nat.mod_lt _ hd0
 have kr:A % o.ranks.length<o.ranks.length:=Nat.mod_lt _ hr0
 have hst:=hl.stops _ kd
 rw [DY (nr:=o.ranks.length) (nd:=o.Ah.length) (nc:=o.CZ.length) List.length_set List.length_set rfl]
 refine AX.enter (AB (by decide)) Tryz.func33 rfl (by kernel_rfl) (by simp [Tryz.ntmps33]) ?_
 repeat' (first|(refine Ad.at 47 ?_;refine Ad.ghost (AL.AP 9 4 rfl rfl rfl) ?_;first|apply Ad.AA|apply Ad.Bj)|(refine Ad.at 49 ?_;refine Ad.ghost (AL.trans (AL.AP 0 1 rfl rfl rfl) (AL.trans (AL.AP 0 2 rfl rfl rfl) (AL.AP 0 3 rfl rfl rfl))) ?_;first|apply Ad.AA|apply Ad.Bj)|apply Ad.assoc|apply Ad.AA|apply Ad.Bj|apply Ad.region|apply Ad.Ai|apply AU.normal|apply AO.normal|apply Ad.ret|apply Af.nil|apply Aq.nil|apply Af.one|(apply Aq.bar;decide +kernel)|apply Aq.quiet|(apply Aa.BD (i:=A % o.ranks.length);rfl;rfl;rfl;rfl;exact kr)|(apply Aa.sK;rfl;rfl;rfl)|(apply Aa.lq (i:=A % o.ranks.length) (f:=5) (fs:=[.val (.slice none 0 0)]) (⟨(gi o.ranks (A % o.ranks.length)).name,(gi o.ranks (A % o.ranks.length)).Ep,(gi o.ranks (A % o.ranks.length)).Dp,(gi o.ranks (A % o.ranks.length)).first,[]⟩:Fh);rfl;rfl;rfl;trivial;rfl;rfl;rfl;decide;exact kr;decide;exact .cons (.refl _) (.cons (.refl _) (.cons (.refl _) (.cons (.refl _) (.cons (.refl _) (.cons (.nil _) (.refl _)))))))|(apply Aa.CU (y:=(gi o.Ah (A % o.Ah.length)));rfl;rfl;rfl;trivial;(first|rfl|(refine congrArg (fun t=>[PV.p (FV.int _ t)]) ?_;first|omega|(simp only [Int.natCast_add,Int.natCast_mul,Int.natCast_ediv,Int.natCast_emod]<;>omega)));rfl;rfl;decide;(first|omega|(simp only [List.length_set]<;>omega)))|(apply Aa.OI;rfl;rfl;omega)|(apply Aa.BD (i:=A % o.Ah.length);rfl;rfl;rfl;rfl;exact kd)|(apply Aa.BH (i:=A % o.Ah.length);rfl;rfl;exact kd;rfl)|(apply Aa.assign;rfl)|(apply Aa.move;rfl)|(apply Aa.FX;rfl;rfl;omega;omega)|(apply Aa.int;rfl;rfl;rfl)|(apply Aa.load;rfl;rfl)|(apply Aa.lenV;rfl;rfl;rfl)|(apply Aa.AV;rfl;rfl;rfl)|(apply Aa.box;rfl;trivial)|(apply Aa.alloc;rfl)|(apply Aa.Bd;rfl;rfl;rfl;trivial;rfl;rfl;exact Aj rfl;exact le_dec rfl)|(apply Aa.buildSlice;rfl;rfl;rfl;decide;rfl;rfl;rfl)|(apply Aa.DZ;rfl;rfl;rfl;rfl;omega)|(apply Aa.DC;rfl;rfl;rfl;(first|rfl|omega|(simp only [List.length_take,List.length_drop,List.length_append,List.length_singleton,List.length_cons,List.length_nil]<;>omega));rfl;rfl;(intro _ h;cases h);rfl;rfl;rfl;decide;decide;(first|omega|(simp only [List.length_take,List.length_drop,List.length_append,List.length_singleton,List.length_cons,List.length_nil]<;>omega)))|(apply Ad.Ae;rfl)|(apply Ad.AY;rfl)|(intro _;try (exfalso;omega)))
 all_goals first|(exfalso;omega)|contradiction|(refine Done.ret rfl (.refl _) (by exact PV.Ac rfl) Ak.nil (Nat.zero_le _) (Nat.le_refl _) ⟨?_,rfl,rfl⟩;try rfl)
theorem a6v (o:D7) (n:Nat) (hn:n≤1000) (hl:LH n o) (hr0:0<o.ranks.length) (hd0:0<o.Ah.length) (K A:Nat) (hK:K<256) (hA:A<256) (hc:K % 16=3) :
 AX env 33 [.agg (Enc.enc o),.agg [.int .u8 (K:Int),.int .u8 (A:Int)]] (.p (.agg (Enc.enc (⟨o.name,o.ranks.set (A % o.ranks.length) (⟨gi chB (A % 3),(gi o.ranks (A % o.ranks.length)).Ep,(gi o.ranks (A % o.ranks.length)).Dp,(gi o.ranks (A % o.ranks.length)).first,(gi o.ranks (A % o.ranks.length)).Ez⟩:Fh),o.Ah.set (A % o.Ah.length) (gi o.Ah (A % o.Ah.length)),o.CZ⟩:D7)))):=by
 have hr:=hl.ranks
 have hd:=hl.Ah
 have hcp:=hl.CZ
 have kd:A % o.Ah.length<o.Ah.length:=Nat.mod_lt _ hd0
 have kr:A % o.ranks.length<o.ranks.length:=Nat.mod_lt _ hr0
 have hst:=hl.stops _ kd
 have a4:A % 3<chB.length:=Nat.mod_lt _ (by decide)
 rw [DY (nr:=o.ranks.length) (nd:=o.Ah.length) (nc:=o.CZ.length) List.length_set List.length_set rfl]
 refine AX.enter (AB (by decide)) Tryz.func33 rfl (by kernel_rfl) (by simp [Tryz.ntmps33]) ?_
 repeat' (first|(refine Ad.at 47 ?_;refine Ad.ghost (AL.AP 9 4 rfl rfl rfl) ?_;first|apply Ad.AA|apply Ad.Bj)|(refine Ad.at 49 ?_;refine Ad.ghost (AL.trans (AL.AP 0 1 rfl rfl rfl) (AL.trans (AL.AP 0 2 rfl rfl rfl) (AL.AP 0 3 rfl rfl rfl))) ?_;first|apply Ad.AA|apply Ad.Bj)|(refine Aq.He 80 ?_;refine Aq.ghost (AL.freeze 76 rfl rfl) ?_)|apply Ad.assoc|apply Ad.AA|apply Ad.Bj|apply Ad.Fq|apply Ad.Ai|apply AU.normal|apply AO.normal|apply Ad.ret|apply Af.nil|apply Aq.nil|apply Af.one|(apply Aq.bar;decide +kernel)|apply Aq.quiet|(apply Aa.Ba (l:=chB) (i:=A % 3);rfl;rfl;rfl;exact a4;rfl)|(apply Aa.BD (i:=A % o.ranks.length);rfl;rfl;rfl;rfl;exact kr)|(apply Aa.sK;rfl;rfl;rfl)|(apply Aa.lq (i:=A % o.ranks.length) (f:=0) (fs:=[.str (bs (gi chB (A % 3)))]) (⟨gi chB (A % 3),(gi o.ranks (A % o.ranks.length)).Ep,(gi o.ranks (A % o.ranks.length)).Dp,(gi o.ranks (A % o.ranks.length)).first,(gi o.ranks (A % o.ranks.length)).Ez⟩:Fh);rfl;rfl;rfl;trivial;rfl;rfl;rfl;decide;exact kr;decide;exact .refl _)|(apply Aa.CU (y:=(gi o.Ah (A % o.Ah.length)));rfl;rfl;rfl;trivial;(first|rfl|(refine congrArg (fun t=>[PV.p (FV.int _ t)]) ?_;first|omega|(simp only [Int.natCast_add,Int.natCast_mul,Int.natCast_ediv,Int.natCast_emod]<;>omega)));rfl;rfl;decide;(first|omega|(simp only [List.length_set]<;>omega)))|(apply Aa.OI;rfl;rfl;omega)|(apply Aa.BD (i:=A % o.Ah.length);rfl;rfl;rfl;rfl;exact kd)|(apply Aa.BH (i:=A % o.Ah.length);rfl;rfl;exact kd;rfl)|(apply Aa.assign;rfl)|(apply Aa.move;rfl)|(apply Aa.FX;rfl;rfl;omega;omega)|(apply Aa.int;rfl;rfl;rfl)|(apply Aa.load;rfl;rfl)|(apply Aa.lenV;rfl;rfl;rfl)|(apply Aa.AV;rfl;rfl;rfl)|(apply Aa.box;rfl;trivial)|(apply Aa.alloc;rfl)|(apply Aa.Bd;rfl;rfl;rfl;trivial;rfl;rfl;exact Aj rfl;exact le_dec rfl)|(apply Aa.buildSlice;rfl;rfl;rfl;decide;rfl;rfl;rfl)|(apply Aa.DZ;rfl;rfl;rfl;rfl;omega)|(apply Aa.DC;rfl;rfl;rfl;(first|rfl|omega|(simp only [List.length_take,List.length_drop,List.length_append,List.length_singleton,List.length_cons,List.length_nil]<;>omega));rfl;rfl;(intro _ h;cases h);rfl;rfl;rfl;decide;decide;(first|omega|(simp only [List.length_take,List.length_drop,List.length_append,List.length_singleton,List.length_cons,List.length_nil]<;>omega)))|(apply Ad.Ae;rfl)|(apply Ad.AY;rfl)|(intro _;try (exfalso;omega)))
 all_goals first|(exfalso;omega)|contradiction|(refine Done.ret rfl (.refl _) (by exact PV.Ac rfl) Ak.nil (Nat.zero_le _) (Nat.le_refl _) ⟨?_,rfl,rfl⟩;try rfl)
end Go.Proofs.YtdabojnmoejilaaGreatDoor
namespace Go.Proofs.YtdabojnmoejilaaGreatDoor
open Go Go.Am Go.Vm
attribute [local irreducible] Aa Af Aq Ad BF AX Ci AU AO Aw Vm.Done CS Bq
theorem a7a (o:D7) (n:Nat) (hn:n≤1000) (hl:LH n o) (hr0:0<o.ranks.length) (hd0:0<o.Ah.length) (K A:Nat) (hK:K<256) (hA:A<256) (hc:K % 16=5) :
 AX env 33 [.agg (Enc.enc o),.agg [.int .u8 (K:Int),.int .u8 (A:Int)]] (.p (.agg (Enc.enc (⟨o.name,o.ranks,[],o.CZ⟩:D7)))):=by
 have hr:=hl.ranks
 have hd:=hl.Ah
 have hcp:=hl.CZ
 have kd:A % o.Ah.length<o.Ah.length:=Nat.mod_lt _ hd0
 have kr:A % o.ranks.length<o.ranks.length:=Nat.mod_lt _ hr0
 have hst:=hl.stops _ kd
 rw [DY (nr:=o.ranks.length) (nd:=0) (D:=[]) (nc:=o.CZ.length) rfl rfl rfl]
 refine AX.enter (AB (by decide)) Tryz.func33 rfl (by kernel_rfl) (by simp [Tryz.ntmps33]) ?_
 repeat' (first|(refine Ad.at 49 ?_;refine Ad.ghost (AL.trans (AL.AP 0 1 rfl rfl rfl) (AL.trans (AL.AP 0 3 rfl rfl rfl) (AL.trans (AL.EL 0 2 97 rfl rfl) (AL.AP 0 2 rfl rfl rfl)))) ?_;first|apply Ad.AA|apply Ad.Bj)|apply Ad.assoc|apply Ad.AA|apply Ad.Bj|apply Ad.region|apply Ad.Ar|apply Ad.Ai|apply AU.normal|apply AO.normal|apply Ad.ret|apply Af.nil|apply Aq.nil|apply Af.one|(apply Aq.bar;decide +kernel)|apply Aq.quiet|(apply Aa.OI;rfl;rfl;omega)|(apply Aa.BD (i:=A % o.Ah.length);rfl;rfl;rfl;rfl;exact kd)|(apply Aa.BH (i:=A % o.Ah.length);rfl;rfl;exact kd;rfl)|(apply Aa.assign;rfl)|(apply Aa.move;rfl)|(apply Aa.FX;rfl;rfl;omega;omega)|(apply Aa.int;rfl;rfl;rfl)|(apply Aa.load;rfl;rfl)|(apply Aa.RZ;rfl;rfl)|(apply Aa.lenV;rfl;rfl;rfl)|(apply Aa.AV;rfl;rfl;rfl)|(apply Aa.box;rfl;trivial)|(apply Aa.alloc;rfl)|(apply Aa.Bd;rfl;rfl;rfl;trivial;rfl;rfl;exact Aj rfl;exact le_dec rfl)|(apply Aa.buildSlice;rfl;rfl;rfl;decide;rfl;rfl;rfl)|(apply Aa.DZ;rfl;rfl;rfl;rfl;omega)|(apply Aa.DC;rfl;rfl;rfl;(first|rfl|omega|(simp only [List.length_take,List.length_drop,List.length_append,List.length_singleton,List.length_cons,List.length_nil]<;>omega));rfl;rfl;(intro _ h;cases h);rfl;rfl;rfl;decide;decide;(first|omega|(simp only [List.length_take,List.length_drop,List.length_append,List.length_singleton,List.length_cons,List.length_nil]<;>omega)))|(apply Ad.Az;rfl)|(apply Ad.AY;rfl)|(intro _;try (exfalso;omega)))
 all_goals first|(exfalso;omega)|contradiction|(refine Done.ret rfl (.refl _) (by exact PV.Ac rfl) Ak.nil (Nat.zero_le _) (Nat.le_refl _) ⟨?_,rfl,rfl⟩;try rfl)
theorem a7y (o:D7) (n:Nat) (hn:n≤1000) (hl:LH n o) (hr0:0<o.ranks.length) (hd0:0<o.Ah.length) (K A:Nat) (hK:K<256) (hA:A<256) (hc:K % 16=7) :
 AX env 33 [.agg (Enc.enc o),.agg [.int .u8 (K:Int),.int .u8 (A:Int)]] (.p (.agg (Enc.enc (⟨o.name,o.ranks,o.Ah.set (A % o.Ah.length) (⟨gi chC (A % 4),(gi o.Ah (A % o.Ah.length)).Dx,(gi o.Ah (A % o.Ah.length)).lo,(gi o.Ah (A % o.Ah.length)).hi,(gi o.Ah (A % o.Ah.length)).stops⟩:Ld),o.CZ⟩:D7)))):=by
 have hr:=hl.ranks
 have hd:=hl.Ah
 have hcp:=hl.CZ
 have kd:A % o.Ah.length<o.Ah.length:=Nat.mod_lt _ hd0
 have kr:A % o.ranks.length<o.ranks.length:=Nat.mod_lt _ hr0
 have hst:=hl.stops _ kd
 have a4:A % 4<chC.length:=Nat.mod_lt _ (by decide)
 rw [DY (nr:=o.ranks.length) (nd:=o.Ah.length) (nc:=o.CZ.length) rfl List.length_set rfl]
 refine AX.enter (AB (by decide)) Tryz.func33 rfl (by kernel_rfl) (by simp [Tryz.ntmps33]) ?_
 repeat' (first|(refine Ad.at 47 ?_;refine Ad.ghost (AL.AP 9 4 rfl rfl rfl) ?_;first|apply Ad.AA|apply Ad.Bj)|(refine Ad.at 49 ?_;refine Ad.ghost (AL.trans (AL.AP 0 1 rfl rfl rfl) (AL.trans (AL.AP 0 2 rfl rfl rfl) (AL.AP 0 3 rfl rfl rfl))) ?_;first|apply Ad.AA|apply Ad.Bj)|(refine Af.He 154 ?_;refine Af.ghost (AL.freeze 150 rfl rfl) ?_)|apply Ad.assoc|apply Ad.AA|apply Ad.Bj|apply Ad.region|apply Ad.Ai|apply AU.normal|apply AO.normal|apply Ad.ret|apply Af.nil|apply Aq.nil|apply Af.one|(apply Aq.bar;decide +kernel)|apply Aq.quiet|(apply Aa.Ba (l:=chC) (i:=A % 4);rfl;rfl;rfl;exact a4;rfl)|(apply Aa.CU (y:=(⟨gi chC (A % 4),(gi o.Ah (A % o.Ah.length)).Dx,(gi o.Ah (A % o.Ah.length)).lo,(gi o.Ah (A % o.Ah.length)).hi,(gi o.Ah (A % o.Ah.length)).stops⟩:Ld));rfl;rfl;rfl;trivial;(first|rfl|(refine congrArg (fun t=>[PV.p (FV.int _ t)]) ?_;first|omega|(simp only [Int.natCast_add,Int.natCast_mul,Int.natCast_ediv,Int.natCast_emod]<;>omega)));rfl;rfl;decide;(first|omega|(simp only [List.length_set]<;>omega)))|(apply Aa.OI;rfl;rfl;omega)|(apply Aa.BD (i:=A % o.Ah.length);rfl;rfl;rfl;rfl;exact kd)|(apply Aa.BH (i:=A % o.Ah.length);rfl;rfl;exact kd;rfl)|(apply Aa.assign;rfl)|(apply Aa.move;rfl)|(apply Aa.FX;rfl;rfl;omega;omega)|(apply Aa.int;rfl;rfl;rfl)|(apply Aa.load;rfl;rfl)|(apply Aa.lenV;rfl;rfl;rfl)|(apply Aa.AV;rfl;rfl;rfl)|(apply Aa.box;rfl;trivial)|(apply Aa.alloc;rfl)|(apply Aa.Bd;rfl;rfl;rfl;trivial;rfl;rfl;exact Aj rfl;exact le_dec rfl)|(apply Aa.buildSlice;rfl;rfl;rfl;decide;rfl;rfl;rfl)|(apply Aa.DZ;rfl;rfl;rfl;rfl;omega)|(apply Aa.DC;rfl;rfl;rfl;(first|rfl|omega|(simp only [List.length_take,List.length_drop,List.length_append,List.length_singleton,List.length_cons,List.length_nil]<;>omega));rfl;rfl;(intro _ h;cases h);rfl;rfl;rfl;decide;decide;(first|omega|(simp only [List.length_take,List.length_drop,List.length_append,List.length_singleton,List.length_cons,List.length_nil]<;>omega)))|(apply Ad.Ae;rfl)|(apply Ad.AY;rfl)|(intro _;try (exfalso;omega)))
 all_goals first|(exfalso;omega)|contradiction|(refine Done.ret rfl (.refl _) (by exact PV.Ac rfl) Ak.nil (Nat.zero_le _) (Nat.le_refl _) ⟨?_,rfl,rfl⟩;try rfl)
theorem a8t (o:D7) (n:Nat) (hn:n≤1000) (hl:LH n o) (hr0:0<o.ranks.length) (hd0:0<o.Ah.length) (K A:Nat) (hK:K<256) (hA:A<256) (hc:K % 16=8) :
 AX env 33 [.agg (Enc.enc o),.agg [.int .u8 (K:Int),.int .u8 (A:Int)]] (.p (.agg (Enc.enc (⟨o.name,o.ranks,o.Ah.set (A % o.Ah.length) (⟨(gi o.Ah (A % o.Ah.length)).name,(gi o.Ah (A % o.Ah.length)).Dx,(gi cpA (A % 4)).lo,(gi cpA (A % 4)).hi,(gi o.Ah (A % o.Ah.length)).stops⟩:Ld),o.CZ⟩:D7)))):=by
 have hr:=hl.ranks
 have hd:=hl.Ah
 have hcp:=hl.CZ
 have kd:A % o.Ah.length<o.Ah.length:=Nat.mod_lt _ hd0
 have kr:A % o.ranks.length<o.ranks.length:=Nat.mod_lt _ hr0
 have hst:=hl.stops _ kd
 have a4:A % 4<cpA.length:=Nat.mod_lt _ (by decide)
 rw [DY (nr:=o.ranks.length) (nd:=o.Ah.length) (nc:=o.CZ.length) rfl List.length_set rfl]
 refine AX.enter (AB (by decide)) Tryz.func33 rfl (by kernel_rfl) (by simp [Tryz.ntmps33]) ?_
 repeat' (first|(refine Ad.at 47 ?_;refine Ad.ghost (AL.AP 9 4 rfl rfl rfl) ?_;first|apply Ad.AA|apply Ad.Bj)|(refine Ad.at 49 ?_;refine Ad.ghost (AL.trans (AL.AP 0 1 rfl rfl rfl) (AL.trans (AL.AP 0 2 rfl rfl rfl) (AL.AP 0 3 rfl rfl rfl))) ?_;first|apply Ad.AA|apply Ad.Bj)|(refine Af.He 167 ?_;refine Af.ghost (AL.freeze 163 rfl rfl) ?_)|apply Ad.assoc|apply Ad.AA|apply Ad.Bj|apply Ad.region|apply Ad.Ai|apply AU.normal|apply AO.normal|apply Ad.ret|apply Af.nil|apply Aq.nil|apply Af.one|(apply Aq.bar;decide +kernel)|apply Aq.quiet|(apply Aa.Ba (l:=cpA) (i:=A % 4);rfl;rfl;rfl;exact a4;rfl)|(apply Aa.CU (y:=(⟨(gi o.Ah (A % o.Ah.length)).name,(gi o.Ah (A % o.Ah.length)).Dx,(gi cpA (A % 4)).lo,(gi cpA (A % 4)).hi,(gi o.Ah (A % o.Ah.length)).stops⟩:Ld));rfl;rfl;rfl;trivial;(first|rfl|(refine congrArg (fun t=>[PV.p (FV.int _ t)]) ?_;first|omega|(simp only [Int.natCast_add,Int.natCast_mul,Int.natCast_ediv,Int.natCast_emod]<;>omega)));rfl;rfl;decide;(first|omega|(simp only [List.length_set]<;>omega)))|(apply Aa.OI;rfl;rfl;omega)|(apply Aa.BD (i:=A % o.Ah.length);rfl;rfl;rfl;rfl;exact kd)|(apply Aa.BH (i:=A % o.Ah.length);rfl;rfl;exact kd;rfl)|(apply Aa.assign;rfl)|(apply Aa.move;rfl)|(apply Aa.FX;rfl;rfl;omega;omega)|(apply Aa.int;rfl;rfl;rfl)|(apply Aa.load;rfl;rfl)|(apply Aa.lenV;rfl;rfl;rfl)|(apply Aa.AV;rfl;rfl;rfl)|(apply Aa.box;rfl;trivial)|(apply Aa.alloc;rfl)|(apply Aa.Bd;rfl;rfl;rfl;trivial;rfl;rfl;exact Aj rfl;exact le_dec rfl)|(apply Aa.build;rfl;rfl;rfl;rfl;rfl)|(apply Aa.buildSlice;rfl;rfl;rfl;decide;rfl;rfl;rfl)|(apply Aa.DZ;rfl;rfl;rfl;rfl;omega)|(apply Aa.DC;rfl;rfl;rfl;(first|rfl|omega|(simp only [List.length_take,List.length_drop,List.length_append,List.length_singleton,List.length_cons,List.length_nil]<;>omega));rfl;rfl;(intro _ h;cases h);rfl;rfl;rfl;decide;decide;(first|omega|(simp only [List.length_take,List.length_drop,List.length_append,List.length_singleton,List.length_cons,List.length_nil]<;>omega)))|(apply Ad.Ae;rfl)|(apply Ad.AY;rfl)|(intro _;try (exfalso;omega)))
 all_goals first|(exfalso;omega)|contradiction|(refine Done.ret rfl (.refl _) (by exact PV.Ac rfl) Ak.nil (Nat.zero_le _) (Nat.le_refl _) ⟨?_,rfl,rfl⟩;try rfl)
theorem a4e (o:D7) (n:Nat) (hn:n≤1000) (hl:LH n o) (hr0:0<o.ranks.length) (hd0:0<o.Ah.length) (K A:Nat) (hK:K<256) (hA:A<256) (hc:K % 16=9∨K % 16=10) (h0:(gi o.Ah (A % o.Ah.length)).stops.length=0) :
 AX env 33 [.agg (Enc.enc o),.agg [.int .u8 (K:Int),.int .u8 (A:Int)]] (.p (.agg (Enc.enc (⟨o.name,o.ranks,o.Ah.set (A % o.Ah.length) (gi o.Ah (A % o.Ah.length)),o.CZ⟩:D7)))):=by
 have hr:=hl.ranks
 have hd:=hl.Ah
 have hcp:=hl.CZ
 have kd:A % o.Ah.length<o.Ah.length:=Nat.mod_lt _ hd0
 have kr:A % o.ranks.length<o.ranks.length:=Nat.mod_lt _ hr0
 have hst:=hl.stops _ kd
 rw [DY (nr:=o.ranks.length) (nd:=o.Ah.length) (nc:=o.CZ.length) rfl List.length_set rfl]
 refine AX.enter (AB (by decide)) Tryz.func33 rfl (by kernel_rfl) (by simp [Tryz.ntmps33]) ?_
 repeat' (first|(refine Ad.at 47 ?_;refine Ad.ghost (AL.AP 9 4 rfl rfl rfl) ?_;first|apply Ad.AA|apply Ad.Bj)|(refine Ad.at 49 ?_;refine Ad.ghost (AL.trans (AL.AP 0 1 rfl rfl rfl) (AL.trans (AL.AP 0 2 rfl rfl rfl) (AL.AP 0 3 rfl rfl rfl))) ?_;first|apply Ad.AA|apply Ad.Bj)|apply Ad.assoc|apply Ad.AA|apply Ad.Bj|apply Ad.Ai|apply AU.normal|apply AO.normal|apply Ad.ret|apply Ad.skip|apply Af.nil|apply Aq.nil|apply Af.one|(apply Aq.bar;decide +kernel)|apply Aq.quiet|(apply Aa.CU (y:=(gi o.Ah (A % o.Ah.length)));rfl;rfl;rfl;trivial;(first|rfl|(refine congrArg (fun t=>[PV.p (FV.int _ t)]) ?_;first|omega|(simp only [Int.natCast_add,Int.natCast_mul,Int.natCast_ediv,Int.natCast_emod]<;>omega)));rfl;rfl;decide;(first|omega|(simp only [List.length_set]<;>omega)))|(apply Aa.OI;rfl;rfl;omega)|(apply Aa.BD (i:=A % o.Ah.length);rfl;rfl;rfl;rfl;exact kd)|(apply Aa.BH (i:=A % o.Ah.length);rfl;rfl;exact kd;rfl)|(apply Aa.assign;rfl)|(apply Aa.move;rfl)|(apply Aa.FX;rfl;rfl;omega;omega)|(apply Aa.int;rfl;rfl;rfl)|(apply Aa.load;rfl;rfl)|(apply Aa.lenV;rfl;rfl;rfl)|(apply Aa.AV;rfl;rfl;rfl)|(apply Aa.box;rfl;trivial)|(apply Aa.alloc;rfl)|(apply Aa.Bd;rfl;rfl;rfl;trivial;rfl;rfl;exact Aj rfl;exact le_dec rfl)|(apply Aa.buildSlice;rfl;rfl;rfl;decide;rfl;rfl;rfl)|(apply Aa.DZ;rfl;rfl;rfl;rfl;omega)|(apply Aa.DC;rfl;rfl;rfl;(first|rfl|omega|(simp only [List.length_take,List.length_drop,List.length_append,List.length_singleton,List.length_cons,List.length_nil]<;>omega));rfl;rfl;(intro _ h;cases h);rfl;rfl;rfl;decide;decide;(first|omega|(simp only [List.length_take,List.length_drop,List.length_append,List.length_singleton,List.length_cons,List.length_nil]<;>omega)))|(apply Ad.Ae;rfl)|(apply Ad.AY;rfl)|(intro _;try (exfalso;omega)))
 all_goals first|(exfalso;omega)|contradiction|(refine Done.ret rfl (.refl _) (by exact PV.Ac rfl) Ak.nil (Nat.zero_le _) (Nat.le_refl _) ⟨?_,rfl,rfl⟩;try rfl)
end Go.Proofs.YtdabojnmoejilaaGreatDoor
namespace Go.Proofs.YtdabojnmoejilaaGreatDoor
open Go Go.Am Go.Vm
attribute [local irreducible] Aa Af Aq Ad BF AX Ci AU AO Aw Vm.Done CS Bq
theorem a9e (o:D7) (n:Nat) (hn:n≤1000) (hl:LH n o) (hr0:0<o.ranks.length) (hd0:0<o.Ah.length) (K A:Nat) (hK:K<256) (hA:A<256) (hc:K % 16=9) (h0:0<(gi o.Ah (A % o.Ah.length)).stops.length) :
 AX env 33 [.agg (Enc.enc o),.agg [.int .u8 (K:Int),.int .u8 (A:Int)]] (.p (.agg (Enc.enc (⟨o.name,o.ranks,o.Ah.set (A % o.Ah.length) (⟨(gi o.Ah (A % o.Ah.length)).name,(gi o.Ah (A % o.Ah.length)).Dx,(gi o.Ah (A % o.Ah.length)).lo,(gi o.Ah (A % o.Ah.length)).hi,((gi o.Ah (A % o.Ah.length)).stops.set 0 (⟨gi xE (A % 4),(gi (gi o.Ah (A % o.Ah.length)).stops 0).Dp,(gi (gi o.Ah (A % o.Ah.length)).stops 0).Ej⟩:Stp))⟩:Ld),o.CZ⟩:D7)))):=by
 have hr:=hl.ranks
 have hd:=hl.Ah
 have hcp:=hl.CZ
 have kd:A % o.Ah.length<o.Ah.length:=Nat.mod_lt _ hd0
 have kr:A % o.ranks.length<o.ranks.length:=Nat.mod_lt _ hr0
 have hst:=hl.stops _ kd
 have a4:A % 4<xE.length:=Nat.mod_lt _ (by decide)
 have ed:(Enc.enc (⟨(gi o.Ah (A % o.Ah.length)).name,(gi o.Ah (A % o.Ah.length)).Dx,(gi o.Ah (A % o.Ah.length)).lo,(gi o.Ah (A % o.Ah.length)).hi,((gi o.Ah (A % o.Ah.length)).stops.set 0 (⟨gi xE (A % 4),(gi (gi o.Ah (A % o.Ah.length)).stops 0).Dp,(gi (gi o.Ah (A % o.Ah.length)).stops 0).Ej⟩:Stp))⟩:Ld)).map PV.p=[.p (.str (bs (gi o.Ah (A % o.Ah.length)).name)),.p (.bool (gi o.Ah (A % o.Ah.length)).Dx),.p (.int .i64 (gi o.Ah (A % o.Ah.length)).lo),.p (.int .i64 (gi o.Ah (A % o.Ah.length)).hi),.p (.lst 122 (cells ((gi o.Ah (A % o.Ah.length)).stops.set 0 (⟨gi xE (A % 4),(gi (gi o.Ah (A % o.Ah.length)).stops 0).Dp,(gi (gi o.Ah (A % o.Ah.length)).stops 0).Ej⟩:Stp))) (gi o.Ah (A % o.Ah.length)).stops.length)]:=by
  show [PV.p (.str (bs (gi o.Ah (A % o.Ah.length)).name)),.p (.bool (gi o.Ah (A % o.Ah.length)).Dx),.p (.int .i64 (gi o.Ah (A % o.Ah.length)).lo),.p (.int .i64 (gi o.Ah (A % o.Ah.length)).hi),.p (.lst 122 (cells ((gi o.Ah (A % o.Ah.length)).stops.set 0 (⟨gi xE (A % 4),(gi (gi o.Ah (A % o.Ah.length)).stops 0).Dp,(gi (gi o.Ah (A % o.Ah.length)).stops 0).Ej⟩:Stp))) ((gi o.Ah (A % o.Ah.length)).stops.set 0 (⟨gi xE (A % 4),(gi (gi o.Ah (A % o.Ah.length)).stops 0).Dp,(gi (gi o.Ah (A % o.Ah.length)).stops 0).Ej⟩:Stp)).length)]=_
  rw [List.length_set]
 rw [DY (nr:=o.ranks.length) (nd:=o.Ah.length) (nc:=o.CZ.length) rfl List.length_set rfl]
 refine AX.enter (AB (by decide)) Tryz.func33 rfl (by kernel_rfl) (by simp [Tryz.ntmps33]) ?_
 repeat' (first|(refine Ad.at 47 ?_;refine Ad.ghost (AL.AP 9 4 rfl rfl rfl) ?_;first|apply Ad.AA|apply Ad.Bj)|(refine Ad.at 49 ?_;refine Ad.ghost (AL.trans (AL.AP 0 1 rfl rfl rfl) (AL.trans (AL.AP 0 2 rfl rfl rfl) (AL.AP 0 3 rfl rfl rfl))) ?_;first|apply Ad.AA|apply Ad.Bj)|(refine Af.He 184 ?_;refine Af.ghost (AL.freeze 180 rfl rfl) ?_)|apply Ad.assoc|apply Ad.AA|apply Ad.Bj|apply Ad.region|apply Ad.Ai|apply AU.normal|apply AO.normal|apply Ad.ret|apply Af.nil|apply Aq.nil|apply Af.one|(apply Aq.bar;decide +kernel)|apply Aq.quiet|(apply Aa.BD (i:=0);rfl;rfl;rfl;rfl;exact h0)|(apply Aa.BH (i:=0);rfl;rfl;exact h0;rfl)|(apply Aa.Ba (l:=xE) (i:=A % 4);rfl;rfl;rfl;exact a4;rfl)|(apply Aa.CU (i:=0) (⟨gi xE (A % 4),(gi (gi o.Ah (A % o.Ah.length)).stops 0).Dp,(gi (gi o.Ah (A % o.Ah.length)).stops 0).Ej⟩:Stp);rfl;rfl;rfl;trivial;rfl;rfl;rfl;decide;exact h0)|(apply Aa.CU (i:=A % o.Ah.length) (⟨(gi o.Ah (A % o.Ah.length)).name,(gi o.Ah (A % o.Ah.length)).Dx,(gi o.Ah (A % o.Ah.length)).lo,(gi o.Ah (A % o.Ah.length)).hi,((gi o.Ah (A % o.Ah.length)).stops.set 0 (⟨gi xE (A % 4),(gi (gi o.Ah (A % o.Ah.length)).stops 0).Dp,(gi (gi o.Ah (A % o.Ah.length)).stops 0).Ej⟩:Stp))⟩:Ld);rfl;rfl;rfl;trivial;exact ed.symm;rfl;rfl;decide;exact kd)|(apply Aa.OI;rfl;rfl;omega)|(apply Aa.BD (i:=A % o.Ah.length);rfl;rfl;rfl;rfl;exact kd)|(apply Aa.BH (i:=A % o.Ah.length);rfl;rfl;exact kd;rfl)|(apply Aa.assign;rfl)|(apply Aa.move;rfl)|(apply Aa.FX;rfl;rfl;omega;omega)|(apply Aa.int;rfl;rfl;rfl)|(apply Aa.load;rfl;rfl)|(apply Aa.lenV;rfl;rfl;rfl)|(apply Aa.AV;rfl;rfl;rfl)|(apply Aa.box;rfl;trivial)|(apply Aa.alloc;rfl)|(apply Aa.Bd;rfl;rfl;rfl;trivial;rfl;rfl;exact Aj rfl;exact le_dec rfl)|(apply Aa.buildSlice;rfl;rfl;rfl;decide;rfl;rfl;rfl)|(apply Aa.DZ;rfl;rfl;rfl;rfl;omega)|(apply Aa.DC;rfl;rfl;rfl;(first|rfl|omega|(simp only [List.length_take,List.length_drop,List.length_append,List.length_singleton,List.length_cons,List.length_nil]<;>omega));rfl;rfl;(intro _ h;cases h);rfl;rfl;rfl;decide;decide;(first|omega|(simp only [List.length_take,List.length_drop,List.length_append,List.length_singleton,List.length_cons,List.length_nil]<;>omega)))|(apply Ad.Ae;rfl)|(apply Ad.AY;rfl)|(intro _;try (exfalso;omega)))
 all_goals first|(exfalso;omega)|contradiction|(refine Done.ret rfl (.refl _) (by exact PV.Ac rfl) Ak.nil (Nat.zero_le _) (Nat.le_refl _) ⟨?_,rfl,rfl⟩;try rfl)
theorem a0e (o:D7) (n:Nat) (hn:n≤1000) (hl:LH n o) (hr0:0<o.ranks.length) (hd0:0<o.Ah.length) (K A:Nat) (hK:K<256) (hA:A<256) (hc:K % 16=11) :
 AX env 33 [.agg (Enc.enc o),.agg [.int .u8 (K:Int),.int .u8 (A:Int)]] (.p (.agg (Enc.enc (⟨o.name,o.ranks.take (A % o.ranks.length),o.Ah.set (A % o.Ah.length) (gi o.Ah (A % o.Ah.length)),o.CZ⟩:D7)))):=by
 have hr:=hl.ranks
 have hd:=hl.Ah
 have hcp:=hl.CZ
 have kd:A % o.Ah.length<o.Ah.length:=Nat.mod_lt _ hd0
 have kr:A % o.ranks.length<o.ranks.length:=Nat.mod_lt _ hr0
 have hst:=hl.stops _ kd
 rw [DY (nr:=(A % o.ranks.length)) (nd:=o.Ah.length) (nc:=o.CZ.length) (by rw [List.length_take];omega) List.length_set rfl]
 refine AX.enter (AB (by decide)) Tryz.func33 rfl (by kernel_rfl) (by simp [Tryz.ntmps33]) ?_
 repeat' (first|(refine Ad.atEnd 42 ?_;refine Ad.ghost (AL.AP 0 1 rfl rfl rfl) ?_;first|apply Ad.region|apply Ad.Fq)|(refine Ad.at 47 ?_;refine Ad.ghost (AL.AP 9 4 rfl rfl rfl) ?_;first|apply Ad.AA|apply Ad.Bj)|(refine Ad.at 49 ?_;refine Ad.ghost (AL.trans (AL.AP 0 2 rfl rfl rfl) (AL.AP 0 3 rfl rfl rfl)) ?_;first|apply Ad.AA|apply Ad.Bj)|apply Ad.assoc|apply Ad.AA|apply Ad.Bj|apply Ad.Ai|apply AU.normal|apply AO.normal|apply Ad.ret|apply Af.nil|apply Aq.nil|apply Af.one|(apply Aq.bar;decide +kernel)|apply Aq.quiet|(apply Aa.CU (y:=(gi o.Ah (A % o.Ah.length)));rfl;rfl;rfl;trivial;(first|rfl|(refine congrArg (fun t=>[PV.p (FV.int _ t)]) ?_;first|omega|(simp only [Int.natCast_add,Int.natCast_mul,Int.natCast_ediv,Int.natCast_emod]<;>omega)));rfl;rfl;decide;(first|omega|(simp only [List.length_set]<;>omega)))|(apply Aa.OI;rfl;rfl;omega)|(apply Aa.BD (i:=A % o.Ah.length);rfl;rfl;rfl;rfl;exact kd)|(apply Aa.BH (i:=A % o.Ah.length);rfl;rfl;exact kd;rfl)|(apply Aa.assign;rfl)|(apply Aa.move;rfl)|(apply Aa.FX;rfl;rfl;omega;omega)|(apply Aa.int;rfl;rfl;rfl)|(apply Aa.load;rfl;rfl)|(apply Aa.lenV;rfl;rfl;rfl)|(apply Aa.AV;rfl;rfl;rfl)|(apply Aa.box;rfl;trivial)|(apply Aa.alloc;rfl)|(apply Aa.Bd;rfl;rfl;rfl;trivial;rfl;rfl;exact Aj rfl;exact le_dec rfl)|(apply Aa.buildSlice;rfl;rfl;rfl;decide;rfl;rfl;rfl)|(apply Aa.DZ;rfl;rfl;rfl;rfl;omega)|(apply Aa.DC;rfl;rfl;rfl;(first|rfl|omega|(simp only [List.length_take,List.length_drop,List.length_append,List.length_singleton,List.length_cons,List.length_nil]<;>omega));rfl;rfl;(intro _ h;cases h);rfl;rfl;rfl;decide;decide;(first|omega|(simp only [List.length_take,List.length_drop,List.length_append,List.length_singleton,List.length_cons,List.length_nil]<;>omega)))|(apply Aa.sliceTo;rfl;rfl;rfl;rfl;rfl;rfl;omega)|(apply Ad.Ae;rfl)|(apply Ad.AY;rfl)|(intro _;try (exfalso;omega)))
 all_goals first|(exfalso;omega)|contradiction|(refine Done.ret rfl (.refl _) (by exact PV.Ac rfl) Ak.nil (Nat.zero_le _) (Nat.le_refl _) ⟨?_,rfl,rfl⟩;try rfl)
theorem zI (o:D7) (n:Nat) (hn:n≤1000) (hl:LH n o) (hr0:0<o.ranks.length) (hd0:0<o.Ah.length) (K A:Nat) (hK:K<256) (hA:A<256) (hc:K % 16=12) :
 AX env 33 [.agg (Enc.enc o),.agg [.int .u8 (K:Int),.int .u8 (A:Int)]] (.p (.agg (Enc.enc (⟨o.name,o.ranks,o.Ah.set (A % o.Ah.length) (gi o.Ah (A % o.Ah.length)),o.CZ++[(⟨[67,57],((A % 5:Nat):Int),0,1,false⟩:Rt)]⟩:D7)))):=by
 have hr:=hl.ranks
 have hd:=hl.Ah
 have hcp:=hl.CZ
 have kd:A % o.Ah.length<o.Ah.length:=Nat.mod_lt _ hd0
 have kr:A % o.ranks.length<o.ranks.length:=Nat.mod_lt _ hr0
 have hst:=hl.stops _ kd
 rw [DY (nr:=o.ranks.length) (nd:=o.Ah.length) (nc:=(o.CZ.length+1)) rfl List.length_set (by simp)]
 refine AX.enter (AB (by decide)) Tryz.func33 rfl (by kernel_rfl) (by simp [Tryz.ntmps33]) ?_
 repeat' (first|(refine Ad.at 47 ?_;refine Ad.ghost (AL.AP 9 4 rfl rfl rfl) ?_;first|apply Ad.AA|apply Ad.Bj)|(refine Ad.at 49 ?_;refine Ad.ghost (AL.trans (AL.AP 0 1 rfl rfl rfl) (AL.trans (AL.AP 0 2 rfl rfl rfl) (AL.AP 0 3 rfl rfl rfl))) ?_;first|apply Ad.AA|apply Ad.Bj)|apply Ad.assoc|apply Ad.AA|apply Ad.Bj|apply Ad.region|apply Ad.Ai|apply AU.normal|apply AO.normal|apply Ad.ret|apply Af.nil|apply Aq.nil|apply Af.one|(apply Aq.bar;decide +kernel)|apply Aq.quiet|(apply Aa.CU (y:=(gi o.Ah (A % o.Ah.length)));rfl;rfl;rfl;trivial;(first|rfl|(refine congrArg (fun t=>[PV.p (FV.int _ t)]) ?_;first|omega|(simp only [Int.natCast_add,Int.natCast_mul,Int.natCast_ediv,Int.natCast_emod]<;>omega)));rfl;rfl;decide;(first|omega|(simp only [List.length_set]<;>omega)))|(apply Aa.Dv (a:=(⟨[67,57],((A % 5:Nat):Int),0,1,false⟩:Rt));rfl;rfl;rfl;rfl;rfl;rfl;rfl;rfl;(intro _ h;cases h);rfl;rfl;rfl;decide;decide;(first|omega|(simp only [List.length_take,List.length_drop,List.length_append,List.length_singleton,List.length_cons,List.length_nil]<;>omega)))|(apply Aa.OI;rfl;rfl;omega)|(apply Aa.BD (i:=A % o.Ah.length);rfl;rfl;rfl;rfl;exact kd)|(apply Aa.BH (i:=A % o.Ah.length);rfl;rfl;exact kd;rfl)|(apply Aa.assign;rfl)|(apply Aa.move;rfl)|(apply Aa.FX;rfl;rfl;omega;omega)|(apply Aa.int;rfl;rfl;rfl)|(apply Aa.load;rfl;rfl)|(apply Aa.lenV;rfl;rfl;rfl)|(apply Aa.AV;rfl;rfl;rfl)|(apply Aa.box;rfl;trivial)|(apply Aa.alloc;rfl)|(apply Aa.Bd;rfl;rfl;rfl;trivial;rfl;rfl;exact Aj rfl;exact le_dec rfl)|(apply Aa.build;rfl;rfl;rfl;rfl;rfl)|(apply Aa.buildSlice;rfl;rfl;rfl;decide;rfl;rfl;rfl)|(apply Aa.DZ;rfl;rfl;rfl;rfl;omega)|(apply Aa.DC;rfl;rfl;rfl;(first|rfl|omega|(simp only [List.length_take,List.length_drop,List.length_append,List.length_singleton,List.length_cons,List.length_nil]<;>omega));rfl;rfl;(intro _ h;cases h);rfl;rfl;rfl;decide;decide;(first|omega|(simp only [List.length_take,List.length_drop,List.length_append,List.length_singleton,List.length_cons,List.length_nil]<;>omega)))|(apply Ad.Ae;rfl)|(apply Ad.AY;rfl)|(intro _;try (exfalso;omega)))
 all_goals first|(exfalso;omega)|contradiction|(refine Done.ret rfl (.refl _) (by exact PV.Ac rfl) Ak.nil (Nat.zero_le _) (Nat.le_refl _) ⟨?_,rfl,rfl⟩;try rfl)
theorem zL (o:D7) (n:Nat) (hn:n≤1000) (hl:LH n o) (hr0:0<o.ranks.length) (hd0:0<o.Ah.length) (K A:Nat) (hK:K<256) (hA:A<256) (hc:K % 16=13) :
 AX env 33 [.agg (Enc.enc o),.agg [.int .u8 (K:Int),.int .u8 (A:Int)]] (.p (.agg (Enc.enc (⟨o.name,o.ranks,o.Ah.set (A % o.Ah.length) (gi o.Ah (A % o.Ah.length)),o.CZ++[(⟨gi chE (A % 3),0,0,1,false⟩:Rt)]⟩:D7)))):=by
 have hr:=hl.ranks
 have hd:=hl.Ah
 have hcp:=hl.CZ
 have kd:A % o.Ah.length<o.Ah.length:=Nat.mod_lt _ hd0
 have kr:A % o.ranks.length<o.ranks.length:=Nat.mod_lt _ hr0
 have hst:=hl.stops _ kd
 have a4:A % 3<chE.length:=Nat.mod_lt _ (by decide)
 rw [DY (nr:=o.ranks.length) (nd:=o.Ah.length) (nc:=(o.CZ.length+1)) rfl List.length_set (by simp)]
 refine AX.enter (AB (by decide)) Tryz.func33 rfl (by kernel_rfl) (by simp [Tryz.ntmps33]) ?_
 repeat' (first|(refine Ad.at 47 ?_;refine Ad.ghost (AL.AP 9 4 rfl rfl rfl) ?_;first|apply Ad.AA|apply Ad.Bj)|(refine Ad.at 49 ?_;refine Ad.ghost (AL.trans (AL.AP 0 1 rfl rfl rfl) (AL.trans (AL.AP 0 2 rfl rfl rfl) (AL.AP 0 3 rfl rfl rfl))) ?_;first|apply Ad.AA|apply Ad.Bj)|(refine Aq.He 258 ?_;refine Aq.ghost (AL.freeze 254 rfl rfl) ?_)|apply Ad.assoc|apply Ad.AA|apply Ad.Bj|apply Ad.Fq|apply Ad.Ai|apply AU.normal|apply AO.normal|apply Ad.ret|apply Af.nil|apply Aq.nil|apply Af.one|(apply Aq.bar;decide +kernel)|apply Aq.quiet|(apply Aa.Ba (l:=chE) (i:=A % 3);rfl;rfl;rfl;exact a4;rfl)|(apply Aa.CU (y:=(gi o.Ah (A % o.Ah.length)));rfl;rfl;rfl;trivial;(first|rfl|(refine congrArg (fun t=>[PV.p (FV.int _ t)]) ?_;first|omega|(simp only [Int.natCast_add,Int.natCast_mul,Int.natCast_ediv,Int.natCast_emod]<;>omega)));rfl;rfl;decide;(first|omega|(simp only [List.length_set]<;>omega)))|(apply Aa.Dv (a:=(⟨gi chE (A % 3),0,0,1,false⟩:Rt));rfl;rfl;rfl;rfl;rfl;rfl;rfl;rfl;(intro _ h;cases h);rfl;rfl;rfl;decide;decide;(first|omega|(simp only [List.length_take,List.length_drop,List.length_append,List.length_singleton,List.length_cons,List.length_nil]<;>omega)))|(apply Aa.OI;rfl;rfl;omega)|(apply Aa.BD (i:=A % o.Ah.length);rfl;rfl;rfl;rfl;exact kd)|(apply Aa.BH (i:=A % o.Ah.length);rfl;rfl;exact kd;rfl)|(apply Aa.assign;rfl)|(apply Aa.move;rfl)|(apply Aa.FX;rfl;rfl;omega;omega)|(apply Aa.int;rfl;rfl;rfl)|(apply Aa.load;rfl;rfl)|(apply Aa.lenV;rfl;rfl;rfl)|(apply Aa.AV;rfl;rfl;rfl)|(apply Aa.box;rfl;trivial)|(apply Aa.alloc;rfl)|(apply Aa.Bd;rfl;rfl;rfl;trivial;rfl;rfl;exact Aj rfl;exact le_dec rfl)|(apply Aa.build;rfl;rfl;rfl;rfl;rfl)|(apply Aa.buildSlice;rfl;rfl;rfl;decide;rfl;rfl;rfl)|(apply Aa.DZ;rfl;rfl;rfl;rfl;omega)|(apply Aa.DC;rfl;rfl;rfl;(first|rfl|omega|(simp only [List.length_take,List.length_drop,List.length_append,List.length_singleton,List.length_cons,List.length_nil]<;>omega));rfl;rfl;(intro _ h;cases h);rfl;rfl;rfl;decide;decide;(first|omega|(simp only [List.length_take,List.length_drop,List.length_append,List.length_singleton,List.length_cons,List.length_nil]<;>omega)))|(apply Ad.Ae;rfl)|(apply Ad.AY;rfl)|(intro _;try (exfalso;omega)))
 all_goals first|(exfalso;omega)|contradiction|(refine Done.ret rfl (.refl _) (by exact PV.Ac rfl) Ak.nil (Nat.zero_le _) (Nat.le_refl _) ⟨?_,rfl,rfl⟩;try rfl)
end Go.Proofs.YtdabojnmoejilaaGreatDoor
namespace Go.Proofs.YtdabojnmoejilaaGreatDoor
open Go Go.Am Go.Vm
attribute [local irreducible] Aa Af Aq Ad BF AX Ci AU AO Aw Vm.Done CS Bq
def f4 (l:List Fh):Fh:=⟨[88,UInt8.ofNat (48+(l.length:Int) / 10).toNat,UInt8.ofNat (48+(l.length:Int) % 10).toNat],(gi l 0).Ep,(gi l 0).Dp,(gi l 0).first,(gi l 0).Ez⟩
def f6 (l:List Ld):Ld:=⟨[69,UInt8.ofNat (48+(l.length:Int)).toNat],false,0,0,[]⟩
def f10 (l:List Stp):Stp:=⟨[89,UInt8.ofNat (48+(l.length:Int) / 10).toNat,UInt8.ofNat (48+(l.length:Int) % 10).toNat],(gi l 0).Dp,(gi l 0).Ej⟩
theorem a7m (o:D7) (n:Nat) (hn:n≤1000) (hl:LH n o) (hr0:0<o.ranks.length) (hd0:0<o.Ah.length) (K A:Nat) (hK:K<256) (hA:A<256) (hc:K % 16=4) :
 AX env 33 [.agg (Enc.enc o),.agg [.int .u8 (K:Int),.int .u8 (A:Int)]] (.p (.agg (Enc.enc (⟨o.name,EJ f4 o.ranks (60+A % 2-o.ranks.length),o.Ah.set (A % o.Ah.length) (gi o.Ah (A % o.Ah.length)),o.CZ⟩:D7)))):=by
 have hr:=hl.ranks
 have hd:=hl.Ah
 have hcp:=hl.CZ
 have kd:A % o.Ah.length<o.Ah.length:=Nat.mod_lt _ hd0
 have kr:A % o.ranks.length<o.ranks.length:=Nat.mod_lt _ hr0
 have hst:=hl.stops _ kd
 rw [DY (nr:=(EJ f4 o.ranks (60+A % 2-o.ranks.length)).length) (nd:=o.Ah.length) (nc:=o.CZ.length) rfl List.length_set rfl]
 refine AX.enter (AB (by decide)) Tryz.func33 rfl (by kernel_rfl) (by simp [Tryz.ntmps33]) ?_
 repeat' (first|apply Ad.assoc|apply Ad.AA|apply Ad.Bj|apply Ad.Ai|apply Ad.Fv|apply Af.nil|apply Aq.nil|apply Af.one|(apply Aq.bar;decide +kernel)|apply Aq.quiet|(apply Aa.OI;rfl;rfl;omega)|(apply Aa.BD (i:=A % o.Ah.length);rfl;rfl;rfl;rfl;exact kd)|(apply Aa.BH (i:=A % o.Ah.length);rfl;rfl;exact kd;rfl)|(apply Aa.assign;rfl)|(apply Aa.move;rfl)|(apply Aa.FX;rfl;rfl;omega;omega)|(apply Aa.int;rfl;rfl;rfl)|(apply Aa.load;rfl;rfl)|(apply Aa.lenV;rfl;rfl;rfl)|(apply Aa.AV;rfl;rfl;rfl)|(apply Aa.box;rfl;trivial)|(apply Aa.alloc;rfl)|(apply Aa.Bd;rfl;rfl;rfl;trivial;rfl;rfl;exact Aj rfl;exact le_dec rfl)|(apply Aa.buildSlice;rfl;rfl;rfl;decide;rfl;rfl;rfl)|(apply Aa.DZ;rfl;rfl;rfl;rfl;omega)|(apply Aa.DC;rfl;rfl;rfl;(first|rfl|omega|(simp only [List.length_take,List.length_drop,List.length_append,List.length_singleton,List.length_cons,List.length_nil]<;>omega));rfl;rfl;(intro _ h;cases h);rfl;rfl;rfl;decide;decide;(first|omega|(simp only [List.length_take,List.length_drop,List.length_append,List.length_singleton,List.length_cons,List.length_nil]<;>omega)))|(apply Ad.AY;rfl)|(intro _;try (exfalso;omega)))
 all_goals try (exfalso;omega)
 apply Ad.EF (60+A % 2-o.ranks.length) [(2,_),(3,_),(4,_),(6,_),(7,_)] [(1,_),(2,_),(6,_),(8,_),(9,_),(11,_)] (fun k r=>r) (fun k r=>(0,.box 37 [.p (.str (bs o.name)),.vec 4 (EJ f4 o.ranks k).length 0 (EJ f4 o.ranks k).length,.vec 6 o.Ah.length 0 o.Ah.length,.vec 8 o.CZ.length 0 o.CZ.length])::(4,.vec 131 (cells (EJ f4 o.ranks k)) (EJ f4 o.ranks k).length false)::r) 12
 ·first|omega|decide
 ·first|omega|decide
 ·repeat (first|exact Ap.nil|(refine Ap.eq rfl ?_ ?_;(first|exact PV.Ac rfl|(simp [PV.under,AZ.under];done)))|refine Ap.cons trivial rfl (.of_eq (Au (by simp<;>omega))) ?_)
 ·repeat (first|exact Ak.nil|(refine Ak.eq rfl (Aj rfl) ?_ ?_;(first|exact HB.Ac rfl|exact AZ.Ag _ _|(simp [HB.under,AZ.under,PV.under];done)))|(refine Ak.cons (Aj rfl) ?_ rfl ?_ ?_;(first|exact trivial|exact AZ.Ag _ _|(simp [HB.under,AZ.under,PV.under]));(first|exact Bv.refl _|exact Bv.vec (Bl.refl _) (by simp))))
 ·intro k hk
  have hk2:=FI f4 o.ranks k
  have e1:EJ f4 o.ranks (k+1)=EJ f4 o.ranks k++[f4 (EJ f4 o.ranks k)]:=rfl
  have e2:(EJ f4 o.ranks (k+1)).length=(EJ f4 o.ranks k).length+1:=by rw [e1];simp
  repeat' (first|apply Ad.assoc|apply Ad.AA|apply Ad.region|apply Ad.Ar|apply AO.normal|apply Ad.Fv|apply Af.nil|apply Af.one|(apply Aa.BD (i:=0);rfl;rfl;rfl;rfl;omega)|(apply Aa.BH (i:=0);rfl;rfl;omega;rfl)|(apply Aa.Zo;rfl;rfl;rfl;rfl;rfl;omega;omega)|(apply Aa.Dv (a:=f4 (EJ f4 o.ranks k));rfl;rfl;rfl;rfl;rfl;rfl;rfl;rfl;(intro _ h;cases h);rfl;rfl;rfl;decide;decide;(first|omega|(simp only [List.length_take,List.length_drop,List.length_append,List.length_singleton,List.length_cons,List.length_nil]<;>omega)))|(apply Aa.assign;rfl)|(apply Aa.move;rfl)|(apply Aa.Bz;rfl;rfl;omega)|(apply Aa.FX;rfl;rfl;omega;omega)|(apply Aa.a4g;rfl;rfl;omega;omega)|(apply Aa.int;rfl;rfl;rfl)|(apply Aa.load;rfl;rfl)|(apply Aa.lenV;rfl;rfl;rfl)|(apply Aa.AV;rfl;rfl;rfl)|(apply Aa.alloc;rfl)|(apply Aa.Bd;rfl;rfl;rfl;trivial;rfl;rfl;exact Aj rfl;exact le_dec rfl)|(apply Aa.buildSlice;rfl;rfl;rfl;decide;rfl;rfl;rfl)|(apply Aa.PN;rfl;rfl;(first|omega|(simp only [List.length_take,List.length_drop,List.length_append,List.length_singleton,List.length_cons,List.length_nil]<;>omega)))|(apply Aa.DZ;rfl;rfl;rfl;rfl;omega)|(apply Aa.Jt;rfl;rfl;rfl;rfl;omega)|(apply Ad.Ae;rfl)|(intro _;try (exfalso;omega)))
  all_goals try (exfalso;omega)
  refine Aw.normal ⟨by first|omega|decide,?_,?_⟩
  ·try (rw [e2,e1])
   repeat (first|exact Ap.nil|refine Ap.same (by exact PV.Ac rfl) rfl ?_|refine Ap.cons trivial rfl (.of_eq (Au (by simp<;>omega))) ?_)
  ·rw [e2,e1]
   repeat (first|exact Ak.nil|(refine Ak.cons (Aj rfl) ?_ rfl ?_ ?_;(first|exact HB.Ac rfl|exact AZ.Ag _ _|(simp [HB.under,AZ.under,PV.under]));(first|exact Bv.refl _|exact Bv.vec (Bl.refl _) (by simp))))
 ·have hk2:=FI f4 o.ranks (60+A % 2-o.ranks.length)
  repeat' (first|(refine Ad.at 47 ?_;refine Ad.ghost (AL.AP 9 4 rfl rfl rfl) ?_;first|apply Ad.AA|apply Ad.Bj)|(refine Ad.at 49 ?_;refine Ad.ghost (AL.trans (AL.AP 0 1 rfl rfl rfl) (AL.trans (AL.AP 0 2 rfl rfl rfl) (AL.AP 0 3 rfl rfl rfl))) ?_;first|apply Ad.AA|apply Ad.Bj)|apply Ad.assoc|apply Ad.AA|apply Ad.A8|apply AU.normal|apply AO.normal|apply AO.exit|apply Aw.exit|apply Ad.ret|apply Af.nil|apply Af.one|(apply Aa.CU (y:=(gi o.Ah (A % o.Ah.length)));rfl;rfl;rfl;trivial;(first|rfl|(refine congrArg (fun t=>[PV.p (FV.int _ t)]) ?_;first|omega|(simp only [Int.natCast_add,Int.natCast_mul,Int.natCast_ediv,Int.natCast_emod]<;>omega)));rfl;rfl;decide;(first|omega|(simp only [List.length_set]<;>omega)))|(apply Aa.BD (i:=A % o.Ah.length);rfl;rfl;rfl;rfl;exact kd)|(apply Aa.move;rfl)|(apply Aa.Bz;rfl;rfl;omega)|(apply Aa.FX;rfl;rfl;omega;omega)|(apply Aa.int;rfl;rfl;rfl)|(apply Aa.load;rfl;rfl)|(apply Aa.lenV;rfl;rfl;rfl)|(apply Aa.AV;rfl;rfl;rfl)|(apply Aa.Bd;rfl;rfl;rfl;trivial;rfl;rfl;exact Aj rfl;exact le_dec rfl)|(apply Aa.DZ;rfl;rfl;rfl;rfl;omega)|(apply Ad.Ae;rfl)|(intro _;try (exfalso;omega)))
  all_goals first|(exfalso;omega)|contradiction|(refine Done.ret rfl (.refl _) (by exact PV.Ac rfl) Ak.nil (Nat.zero_le _) (Nat.le_refl _) ⟨?_,rfl,rfl⟩;try rfl)
theorem a6r (o:D7) (n:Nat) (hn:n≤1000) (hl:LH n o) (hr0:0<o.ranks.length) (hd0:0<o.Ah.length) (K A:Nat) (hK:K<256) (hA:A<256) (hc:K % 16=6) :
 AX env 33 [.agg (Enc.enc o),.agg [.int .u8 (K:Int),.int .u8 (A:Int)]] (.p (.agg (Enc.enc (⟨o.name,o.ranks,(EJ f6 o.Ah (8+A % 2-o.Ah.length)).set (A % o.Ah.length) (gi o.Ah (A % o.Ah.length)),o.CZ⟩:D7)))):=by
 have hr:=hl.ranks
 have hd:=hl.Ah
 have hcp:=hl.CZ
 have kd:A % o.Ah.length<o.Ah.length:=Nat.mod_lt _ hd0
 have kr:A % o.ranks.length<o.ranks.length:=Nat.mod_lt _ hr0
 have hst:=hl.stops _ kd
 rw [DY (nr:=o.ranks.length) (nd:=(EJ f6 o.Ah (8+A % 2-o.Ah.length)).length) (nc:=o.CZ.length) rfl List.length_set rfl]
 refine AX.enter (AB (by decide)) Tryz.func33 rfl (by kernel_rfl) (by simp [Tryz.ntmps33]) ?_
 repeat' (first|apply Ad.assoc|apply Ad.AA|apply Ad.Bj|apply Ad.Ai|apply Ad.Fv|apply Af.nil|apply Aq.nil|apply Af.one|(apply Aq.bar;decide +kernel)|apply Aq.quiet|(apply Aa.OI;rfl;rfl;omega)|(apply Aa.BD (i:=A % o.Ah.length);rfl;rfl;rfl;rfl;exact kd)|(apply Aa.BH (i:=A % o.Ah.length);rfl;rfl;exact kd;rfl)|(apply Aa.assign;rfl)|(apply Aa.move;rfl)|(apply Aa.FX;rfl;rfl;omega;omega)|(apply Aa.int;rfl;rfl;rfl)|(apply Aa.load;rfl;rfl)|(apply Aa.lenV;rfl;rfl;rfl)|(apply Aa.AV;rfl;rfl;rfl)|(apply Aa.box;rfl;trivial)|(apply Aa.alloc;rfl)|(apply Aa.Bd;rfl;rfl;rfl;trivial;rfl;rfl;exact Aj rfl;exact le_dec rfl)|(apply Aa.buildSlice;rfl;rfl;rfl;decide;rfl;rfl;rfl)|(apply Aa.DZ;rfl;rfl;rfl;rfl;omega)|(apply Aa.DC;rfl;rfl;rfl;(first|rfl|omega|(simp only [List.length_take,List.length_drop,List.length_append,List.length_singleton,List.length_cons,List.length_nil]<;>omega));rfl;rfl;(intro _ h;cases h);rfl;rfl;rfl;decide;decide;(first|omega|(simp only [List.length_take,List.length_drop,List.length_append,List.length_singleton,List.length_cons,List.length_nil]<;>omega)))|(apply Ad.AY;rfl)|(intro _;try (exfalso;omega)))
 all_goals try (exfalso;omega)
 apply Ad.EF (8+A % 2-o.Ah.length) [(2,_),(3,_),(4,_),(6,_),(7,_)] [(1,_),(2,_),(4,_),(8,_),(9,_),(11,_)] (fun k r=>r) (fun k r=>(0,.box 37 [.p (.str (bs o.name)),.vec 4 o.ranks.length 0 o.ranks.length,.vec 6 (EJ f6 o.Ah k).length 0 (EJ f6 o.Ah k).length,.vec 8 o.CZ.length 0 o.CZ.length])::(6,.vec 97 (cells (EJ f6 o.Ah k)) (EJ f6 o.Ah k).length false)::r) 12
 ·first|omega|decide
 ·first|omega|decide
 ·repeat (first|exact Ap.nil|(refine Ap.eq rfl ?_ ?_;(first|exact PV.Ac rfl|(simp [PV.under,AZ.under];done)))|refine Ap.cons trivial rfl (.of_eq (Au (by simp<;>omega))) ?_)
 ·repeat (first|exact Ak.nil|(refine Ak.eq rfl (Aj rfl) ?_ ?_;(first|exact HB.Ac rfl|exact AZ.Ag _ _|(simp [HB.under,AZ.under,PV.under];done)))|(refine Ak.cons (Aj rfl) ?_ rfl ?_ ?_;(first|exact trivial|exact AZ.Ag _ _|(simp [HB.under,AZ.under,PV.under]));(first|exact Bv.refl _|exact Bv.vec (Bl.refl _) (by simp))))
 ·intro k hk
  have hk2:=FI f6 o.Ah k
  have e1:EJ f6 o.Ah (k+1)=EJ f6 o.Ah k++[f6 (EJ f6 o.Ah k)]:=rfl
  have e2:(EJ f6 o.Ah (k+1)).length=(EJ f6 o.Ah k).length+1:=by rw [e1];simp
  repeat' (first|(refine Af.He 145 ?_;refine Af.ghost (AL.le 144 rfl (.p (.agg (.cons (.refl _) (.cons (.refl _) (.cons (.refl _) (.cons (.refl _) (.cons (.nil 122) (.refl _))))))))) ?_)|apply Ad.assoc|apply Ad.AA|apply Ad.region|apply Ad.Ar|apply AO.normal|apply Ad.Fv|apply Af.nil|apply Af.one|(apply Aa.Gq;rfl;rfl;rfl;rfl;rfl;omega)|(apply Aa.Dv (a:=f6 (EJ f6 o.Ah k));rfl;rfl;rfl;rfl;rfl;rfl;rfl;rfl;(intro _ h;cases h);rfl;rfl;rfl;decide;decide;(first|omega|(simp only [List.length_take,List.length_drop,List.length_append,List.length_singleton,List.length_cons,List.length_nil]<;>omega)))|(apply Aa.Bz;rfl;rfl;omega)|(apply Aa.FX;rfl;rfl;omega;omega)|(apply Aa.int;rfl;rfl;rfl)|(apply Aa.load;rfl;rfl)|(apply Aa.lenV;rfl;rfl;rfl)|(apply Aa.AV;rfl;rfl;rfl)|(apply Aa.Bd;rfl;rfl;rfl;trivial;rfl;rfl;exact Aj rfl;exact le_dec rfl)|(apply Aa.build;rfl;rfl;rfl;rfl;rfl)|(apply Aa.buildSlice;rfl;rfl;rfl;decide;rfl;rfl;rfl)|(apply Aa.PN;rfl;rfl;(first|omega|(simp only [List.length_take,List.length_drop,List.length_append,List.length_singleton,List.length_cons,List.length_nil]<;>omega)))|(apply Aa.DZ;rfl;rfl;rfl;rfl;omega)|(apply Aa.Jt;rfl;rfl;rfl;rfl;omega)|(apply Ad.Ae;rfl)|(intro _;try (exfalso;omega)))
  all_goals try (exfalso;omega)
  refine Aw.normal ⟨by first|omega|decide,?_,?_⟩
  ·try (rw [e2,e1])
   repeat (first|exact Ap.nil|refine Ap.same (by exact PV.Ac rfl) rfl ?_|refine Ap.cons trivial rfl (.of_eq (Au (by simp<;>omega))) ?_)
  ·rw [e2,e1]
   repeat (first|exact Ak.nil|(refine Ak.cons (Aj rfl) ?_ rfl ?_ ?_;(first|exact HB.Ac rfl|exact AZ.Ag _ _|(simp [HB.under,AZ.under,PV.under]));(first|exact Bv.refl _|exact Bv.vec (Bl.refl _) (by simp))))
 ·have hk2:=FI f6 o.Ah (8+A % 2-o.Ah.length)
  have kd6:A % o.Ah.length<(EJ f6 o.Ah (8+A % 2-o.Ah.length)).length:=by omega
  repeat' (first|(refine Ad.at 47 ?_;refine Ad.ghost (AL.AP 9 4 rfl rfl rfl) ?_;first|apply Ad.AA|apply Ad.Bj)|(refine Ad.at 49 ?_;refine Ad.ghost (AL.trans (AL.AP 0 1 rfl rfl rfl) (AL.trans (AL.AP 0 2 rfl rfl rfl) (AL.AP 0 3 rfl rfl rfl))) ?_;first|apply Ad.AA|apply Ad.Bj)|apply Ad.assoc|apply Ad.AA|apply Ad.A8|apply AU.normal|apply AO.normal|apply AO.exit|apply Aw.exit|apply Ad.ret|apply Af.nil|apply Af.one|(apply Aa.BD (i:=A % o.Ah.length);rfl;rfl;rfl;rfl;exact kd6)|(apply Aa.CU (y:=(gi o.Ah (A % o.Ah.length)));rfl;rfl;rfl;trivial;(first|rfl|(refine congrArg (fun t=>[PV.p (FV.int _ t)]) ?_;first|omega|(simp only [Int.natCast_add,Int.natCast_mul,Int.natCast_ediv,Int.natCast_emod]<;>omega)));rfl;rfl;decide;(first|omega|(simp only [List.length_set]<;>omega)))|(apply Aa.move;rfl)|(apply Aa.Bz;rfl;rfl;omega)|(apply Aa.FX;rfl;rfl;omega;omega)|(apply Aa.int;rfl;rfl;rfl)|(apply Aa.load;rfl;rfl)|(apply Aa.lenV;rfl;rfl;rfl)|(apply Aa.AV;rfl;rfl;rfl)|(apply Aa.Bd;rfl;rfl;rfl;trivial;rfl;rfl;exact Aj rfl;exact le_dec rfl)|(apply Aa.DZ;rfl;rfl;rfl;rfl;omega)|(apply Ad.Ae;rfl)|(intro _;try (exfalso;omega)))
  all_goals first|(exfalso;omega)|contradiction|(refine Done.ret rfl (.refl _) (by exact PV.Ac rfl) Ak.nil (Nat.zero_le _) (Nat.le_refl _) ⟨?_,rfl,rfl⟩;try rfl)
theorem a5t (o:D7) (n:Nat) (hn:n≤1000) (hl:LH n o) (hr0:0<o.ranks.length) (hd0:0<o.Ah.length) (K A:Nat) (hK:K<256) (hA:A<256) (hc:K % 16=10) (h0:0<(gi o.Ah (A % o.Ah.length)).stops.length) :
 AX env 33 [.agg (Enc.enc o),.agg [.int .u8 (K:Int),.int .u8 (A:Int)]] (.p (.agg (Enc.enc (⟨o.name,o.ranks,o.Ah.set (A % o.Ah.length) (⟨(gi o.Ah (A % o.Ah.length)).name,(gi o.Ah (A % o.Ah.length)).Dx,(gi o.Ah (A % o.Ah.length)).lo,(gi o.Ah (A % o.Ah.length)).hi,EJ f10 (gi o.Ah (A % o.Ah.length)).stops (60+A % 2-(gi o.Ah (A % o.Ah.length)).stops.length)⟩:Ld),o.CZ⟩:D7)))):=by
 have hr:=hl.ranks
 have hd:=hl.Ah
 have hcp:=hl.CZ
 have kd:A % o.Ah.length<o.Ah.length:=Nat.mod_lt _ hd0
 have kr:A % o.ranks.length<o.ranks.length:=Nat.mod_lt _ hr0
 have hst:=hl.stops _ kd
 rw [DY (nr:=o.ranks.length) (nd:=o.Ah.length) (nc:=o.CZ.length) rfl List.length_set rfl]
 refine AX.enter (AB (by decide)) Tryz.func33 rfl (by kernel_rfl) (by simp [Tryz.ntmps33]) ?_
 repeat' (first|apply Ad.assoc|apply Ad.AA|apply Ad.Bj|apply Ad.Ai|apply Ad.Fv|apply Af.nil|apply Aq.nil|apply Af.one|(apply Aq.bar;decide +kernel)|apply Aq.quiet|(apply Aa.OI;rfl;rfl;omega)|(apply Aa.BD (i:=A % o.Ah.length);rfl;rfl;rfl;rfl;exact kd)|(apply Aa.BH (i:=A % o.Ah.length);rfl;rfl;exact kd;rfl)|(apply Aa.assign;rfl)|(apply Aa.move;rfl)|(apply Aa.FX;rfl;rfl;omega;omega)|(apply Aa.int;rfl;rfl;rfl)|(apply Aa.load;rfl;rfl)|(apply Aa.lenV;rfl;rfl;rfl)|(apply Aa.AV;rfl;rfl;rfl)|(apply Aa.box;rfl;trivial)|(apply Aa.alloc;rfl)|(apply Aa.Bd;rfl;rfl;rfl;trivial;rfl;rfl;exact Aj rfl;exact le_dec rfl)|(apply Aa.buildSlice;rfl;rfl;rfl;decide;rfl;rfl;rfl)|(apply Aa.DZ;rfl;rfl;rfl;rfl;omega)|(apply Aa.DC;rfl;rfl;rfl;(first|rfl|omega|(simp only [List.length_take,List.length_drop,List.length_append,List.length_singleton,List.length_cons,List.length_nil]<;>omega));rfl;rfl;(intro _ h;cases h);rfl;rfl;rfl;decide;decide;(first|omega|(simp only [List.length_take,List.length_drop,List.length_append,List.length_singleton,List.length_cons,List.length_nil]<;>omega)))|(apply Ad.AY;rfl)|(intro _;try (exfalso;omega)))
 all_goals try (exfalso;omega)
 apply Ad.EF (60+A % 2-(gi o.Ah (A % o.Ah.length)).stops.length) [(2,_),(3,_),(4,_),(6,_),(7,_)] [(0,_),(1,_),(2,_),(4,_),(6,_),(8,_)] (fun k r=>r) (fun k r=>(9,.box 97 [.p (.str (bs (gi o.Ah (A % o.Ah.length)).name)),.p (.bool (gi o.Ah (A % o.Ah.length)).Dx),.p (.int .i64 (gi o.Ah (A % o.Ah.length)).lo),.p (.int .i64 (gi o.Ah (A % o.Ah.length)).hi),.vec 11 (EJ f10 (gi o.Ah (A % o.Ah.length)).stops k).length 0 (EJ f10 (gi o.Ah (A % o.Ah.length)).stops k).length])::(11,.vec 122 (cells (EJ f10 (gi o.Ah (A % o.Ah.length)).stops k)) (EJ f10 (gi o.Ah (A % o.Ah.length)).stops k).length false)::r) 12
 ·first|omega|decide
 ·first|omega|decide
 ·repeat (first|exact Ap.nil|(refine Ap.eq rfl ?_ ?_;(first|exact PV.Ac rfl|(simp [PV.under,AZ.under];done)))|refine Ap.cons trivial rfl (.of_eq (Au (by simp<;>omega))) ?_)
 ·repeat (first|exact Ak.nil|(refine Ak.eq rfl (Aj rfl) ?_ ?_;(first|exact HB.Ac rfl|exact AZ.Ag _ _|(simp [HB.under,AZ.under,PV.under];done)))|(refine Ak.cons (Aj rfl) ?_ rfl ?_ ?_;(first|exact trivial|exact AZ.Ag _ _|(simp [HB.under,AZ.under,PV.under]));(first|exact Bv.refl _|exact Bv.vec (Bl.refl _) (by simp))))
 ·intro k hk
  have hk2:=FI f10 (gi o.Ah (A % o.Ah.length)).stops k
  have e1:EJ f10 (gi o.Ah (A % o.Ah.length)).stops (k+1)=EJ f10 (gi o.Ah (A % o.Ah.length)).stops k++[f10 (EJ f10 (gi o.Ah (A % o.Ah.length)).stops k)]:=rfl
  have e2:(EJ f10 (gi o.Ah (A % o.Ah.length)).stops (k+1)).length=(EJ f10 (gi o.Ah (A % o.Ah.length)).stops k).length+1:=by rw [e1];simp
  repeat' (first|apply Ad.assoc|apply Ad.AA|apply Ad.region|apply Ad.Ar|apply AO.normal|apply Ad.Fv|apply Af.nil|apply Af.one|(apply Aa.BD (i:=0);rfl;rfl;rfl;rfl;omega)|(apply Aa.BH (i:=0);rfl;rfl;omega;rfl)|(apply Aa.Zo;rfl;rfl;rfl;rfl;rfl;omega;omega)|(apply Aa.Dv (a:=f10 (EJ f10 (gi o.Ah (A % o.Ah.length)).stops k));rfl;rfl;rfl;rfl;rfl;rfl;rfl;rfl;(intro _ h;cases h);rfl;rfl;rfl;decide;decide;(first|omega|(simp only [List.length_take,List.length_drop,List.length_append,List.length_singleton,List.length_cons,List.length_nil]<;>omega)))|(apply Aa.assign;rfl)|(apply Aa.move;rfl)|(apply Aa.Bz;rfl;rfl;omega)|(apply Aa.FX;rfl;rfl;omega;omega)|(apply Aa.a4g;rfl;rfl;omega;omega)|(apply Aa.int;rfl;rfl;rfl)|(apply Aa.load;rfl;rfl)|(apply Aa.lenV;rfl;rfl;rfl)|(apply Aa.AV;rfl;rfl;rfl)|(apply Aa.alloc;rfl)|(apply Aa.Bd;rfl;rfl;rfl;trivial;rfl;rfl;exact Aj rfl;exact le_dec rfl)|(apply Aa.buildSlice;rfl;rfl;rfl;decide;rfl;rfl;rfl)|(apply Aa.PN;rfl;rfl;(first|omega|(simp only [List.length_take,List.length_drop,List.length_append,List.length_singleton,List.length_cons,List.length_nil]<;>omega)))|(apply Aa.DZ;rfl;rfl;rfl;rfl;omega)|(apply Aa.Jt;rfl;rfl;rfl;rfl;omega)|(apply Ad.Ae;rfl)|(intro _;try (exfalso;omega)))
  all_goals try (exfalso;omega)
  refine Aw.normal ⟨by first|omega|decide,?_,?_⟩
  ·try (rw [e2,e1])
   repeat (first|exact Ap.nil|refine Ap.same (by exact PV.Ac rfl) rfl ?_|refine Ap.cons trivial rfl (.of_eq (Au (by simp<;>omega))) ?_)
  ·rw [e2,e1]
   repeat (first|exact Ak.nil|(refine Ak.cons (Aj rfl) ?_ rfl ?_ ?_;(first|exact HB.Ac rfl|exact AZ.Ag _ _|(simp [HB.under,AZ.under,PV.under]));(first|exact Bv.refl _|exact Bv.vec (Bl.refl _) (by simp))))
 ·have hk2:=FI f10 (gi o.Ah (A % o.Ah.length)).stops (60+A % 2-(gi o.Ah (A % o.Ah.length)).stops.length)
  repeat' (first|(refine Ad.at 47 ?_;refine Ad.ghost (AL.AP 9 4 rfl rfl rfl) ?_;first|apply Ad.AA|apply Ad.Bj)|(refine Ad.at 49 ?_;refine Ad.ghost (AL.trans (AL.AP 0 1 rfl rfl rfl) (AL.trans (AL.AP 0 2 rfl rfl rfl) (AL.AP 0 3 rfl rfl rfl))) ?_;first|apply Ad.AA|apply Ad.Bj)|apply Ad.assoc|apply Ad.AA|apply Ad.A8|apply AU.normal|apply AO.normal|apply AO.exit|apply Aw.exit|apply Ad.ret|apply Af.nil|apply Af.one|(apply Aa.CU (y:=(⟨(gi o.Ah (A % o.Ah.length)).name,(gi o.Ah (A % o.Ah.length)).Dx,(gi o.Ah (A % o.Ah.length)).lo,(gi o.Ah (A % o.Ah.length)).hi,EJ f10 (gi o.Ah (A % o.Ah.length)).stops (60+A % 2-(gi o.Ah (A % o.Ah.length)).stops.length)⟩:Ld));rfl;rfl;rfl;trivial;(first|rfl|(refine congrArg (fun t=>[PV.p (FV.int _ t)]) ?_;first|omega|(simp only [Int.natCast_add,Int.natCast_mul,Int.natCast_ediv,Int.natCast_emod]<;>omega)));rfl;rfl;decide;(first|omega|(simp only [List.length_set]<;>omega)))|(apply Aa.BD (i:=A % o.Ah.length);rfl;rfl;rfl;rfl;exact kd)|(apply Aa.move;rfl)|(apply Aa.Bz;rfl;rfl;omega)|(apply Aa.FX;rfl;rfl;omega;omega)|(apply Aa.int;rfl;rfl;rfl)|(apply Aa.load;rfl;rfl)|(apply Aa.lenV;rfl;rfl;rfl)|(apply Aa.AV;rfl;rfl;rfl)|(apply Aa.Bd;rfl;rfl;rfl;trivial;rfl;rfl;exact Aj rfl;exact le_dec rfl)|(apply Aa.DZ;rfl;rfl;rfl;rfl;omega)|(apply Ad.Ae;rfl)|(intro _;try (exfalso;omega)))
  all_goals first|(exfalso;omega)|contradiction|(refine Done.ret rfl (.refl _) (by exact PV.Ac rfl) Ak.nil (Nat.zero_le _) (Nat.le_refl _) ⟨?_,rfl,rfl⟩;try rfl)
end Go.Proofs.YtdabojnmoejilaaGreatDoor
namespace Go.Proofs.YtdabojnmoejilaaGreatDoor
open Go Go.Am Go.Vm
theorem MN {n:Int} (h:(Lit.int .u8 n).wf=true):∃ m:Nat,m<256∧n=m:=by
 simp [Lit.wf,IntKind.min,IntKind.max,IntKind.signed,IntKind.bits] at h
 exact ⟨n.toNat,by omega,by omega⟩
theorem rQ {n:Int} (h:(Lit.int .i8 n).wf=true):-128≤n∧n≤127:=by
 simp [Lit.wf,IntKind.min,IntKind.max,IntKind.signed,IntKind.bits] at h
 omega
theorem yH {n:Int} (h:(Lit.int .i64 n).wf=true):-9223372036854775808≤n∧n≤9223372036854775807:=by
 simp [Lit.wf,IntKind.min,IntKind.max,IntKind.signed,IntKind.bits] at h
 omega
theorem VJ {α β:Type} {R:β→α→Prop}:∀ {l:List α},(∀ x∈l,∃ y,R y x)→∃ r:List β,Gj R r l
 |[],_=>⟨[],.nil⟩
 |a::l,h=>by
  obtain ⟨y,hy⟩:=h a (by simp)
  obtain ⟨r,hr⟩:=VJ (l:=l) (fun x hx=>h x (by simp [hx]))
  exact ⟨y::r,.cons hy hr⟩
theorem V9 {α:Type} [Enc α] {p:α→Prop}:∀ {r:List α} {L:List (List FV)},Gj (fun a fs=>fs=Enc.enc a∧p a) r L→L.flatten=cells r∧L.length=r.length∧∀ i,i<r.length→p (gi r i)
 |_,_,.nil=>⟨rfl,rfl,fun i hi=>by simp at hi⟩
 |a::r,fs::L,.cons ⟨h1,h2⟩ t=>by
  obtain ⟨e1,e2,e3⟩:=V9 t
  refine ⟨by rw [List.flatten_cons,e1,h1];rfl,by simp [e2],fun i hi=>?_⟩
  cases i with
  |zero=>exact h2
  |succ i=>exact e3 i (by simpa using hi)
section
variable {α β:Type} {R:α→β→Prop} {a b c d e:α} {r:List β}
theorem uN (h:Gj R [a] r):∃ x,r=[x]∧R a x:=by
 cases h with|cons h1 t=>cases t;exact ⟨_,rfl,h1⟩
theorem Z7 (h:Gj R [a,b] r):∃ x y,r=[x,y]∧R a x∧R b y:=by
 cases h with|cons h1 t=>obtain ⟨x,rfl,h2⟩:=uN t;exact ⟨_,_,rfl,h1,h2⟩
theorem JL (h:Gj R [a,b,c] r):∃ x y z,r=[x,y,z]∧R a x∧R b y∧R c z:=by
 cases h with|cons h1 t=>obtain ⟨x,y,rfl,h2,h3⟩:=Z7 t;exact ⟨_,_,_,rfl,h1,h2,h3⟩
theorem Hu (h:Gj R [a,b,c,d] r):∃ x y z w,r=[x,y,z,w]∧R a x∧R b y∧R c z∧R d w:=by
 cases h with|cons h1 t=>obtain ⟨x,y,z,rfl,h2,h3,h4⟩:=JL t;exact ⟨_,_,_,_,rfl,h1,h2,h3,h4⟩
theorem oC (h:Gj R [a,b,c,d,e] r):∃ x y z w v,r=[x,y,z,w,v]∧R a x∧R b y∧R c z∧R d w∧R e v:=by
 cases h with|cons h1 t=>obtain ⟨x,y,z,w,rfl,h2,h3,h4,h5⟩:=Hu t;exact ⟨_,_,_,_,_,rfl,h1,h2,h3,h4,h5⟩
end
theorem U1 {j:Nat} {fs:List FV} (h:Dz Tryz.prog (j+1) 3 fs):∃ n:Int,fs=[.int .i64 n]∧-9223372036854775808≤n∧n≤9223372036854775807:=by
 simp only [Dz,Tryz.underlying3] at h
 obtain ⟨n,rfl,hn⟩:=h
 exact ⟨n,rfl,yH hn⟩
theorem dZ {j:Nat} {fs:List FV} (h:Dz Tryz.prog (j+1) 4 fs):∃ b:Bool,fs=[.bool b]:=by
 simp only [Dz,Tryz.underlying4] at h
 exact h
theorem a7u {α:Type} {l:List α} (h:l.length=5):∃ a b c d e,l=[a,b,c,d,e]:=by
 match l,h with|[a,b,c,d,e],_=>exact ⟨a,b,c,d,e,rfl⟩
theorem oH {j:Nat} {fs:List FV} (h:Dz Tryz.prog (j+3) 150 fs):∃ x:F7,fs=x.enc∧x.Ok:=by
 simp only [Dz,Tryz.underlying150,Tryz.underlying5,Tryz.underlying64,Tryz.underlying27] at h
 obtain ⟨parts,rfl,hp⟩:=h
 obtain ⟨a,b,c,d,e,rfl,⟨n1,rfl,h1⟩,⟨n2,rfl,h2⟩,⟨n3,rfl,h3⟩,⟨n4,rfl,h4⟩,L,rfl,hl,hL⟩:=oC hp
 obtain ⟨m1,q1,rfl⟩:=MN h1
 obtain ⟨m2,q2,rfl⟩:=MN h2
 obtain ⟨m4,q4,rfl⟩:=MN h4
 obtain ⟨a,b,c,d,e,rfl⟩:=a7u hl
 obtain ⟨w0,rfl,g0⟩:=hL a (by simp)
 obtain ⟨w1,rfl,g1⟩:=hL b (by simp)
 obtain ⟨w2,rfl,g2⟩:=hL c (by simp)
 obtain ⟨w3,rfl,g3⟩:=hL d (by simp)
 obtain ⟨w4,rfl,g4⟩:=hL e (by simp)
 obtain ⟨v0,k0,rfl⟩:=MN g0
 obtain ⟨v1,k1,rfl⟩:=MN g1
 obtain ⟨v2,k2,rfl⟩:=MN g2
 obtain ⟨v3,k3,rfl⟩:=MN g3
 obtain ⟨v4,k4,rfl⟩:=MN g4
 refine ⟨⟨m1,m2,n3,m4,[v0,v1,v2,v3,v4]⟩,rfl,q1,q2,rQ h3,q4,fun i=>?_⟩
 match i with
 |0=>exact k0
 |1=>exact k1
 |2=>exact k2
 |3=>exact k3
 |4=>exact k4
 |n+5=>simp [gi]
end Go.Proofs.YtdabojnmoejilaaGreatDoor
