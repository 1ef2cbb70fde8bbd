/-
  Texts of a proof, merged (HunC, HunD, TraB, TraC, TraD, TraK, HunE, TraL, TraM, TraR, TraN, OrO, OrQ, TraS, TraT, Vm38). Conditions: in each statement.
-/
import Derived.Test.YtdabojnmoejilaaGreatDoorKVe
set_option linter.unusedSimpArgs false
set_option linter.unusedVariables false
set_option linter.unusedSectionVars false
set_option maxRecDepth 100000
set_option maxHeartbeats 8000000
namespace Go.Hun
open Go.Vm
section
variable {costs:List (List Int)} {n m i:Nat} {s:jC} {B:Int}
theorem Zb {l:List Ix} {j k x:Nat} (h:j<l.length):own (l.set j ⟨x⟩) k=if j=k then x else own l k:=by
 unfold own
 rw [gs h]
 split<;>rfl
theorem a1q {α:Type} [Inhabited α] {a:α} {n i:Nat} (h:i<n):gi (List.replicate n a) i=a:=L6 h
theorem U1 {n:Nat} (i:Nat):gi (List.replicate n (0:Int)) i=0:=by
 unfold gi
 rw [List.getElem?_replicate]
 split<;>rfl
theorem YE (h:qA costs n m i s):qF m i (Jg s (i+1)):=by
 have e:∀ k,own (Jg s (i+1)) k=if 0=k then i+1 else own s.owner k:=fun k=>Zb (by rw [h.lo];omega)
 refine ⟨by unfold Jg;simp [h.lo],by rw [e];rfl,fun k k1 k2=>?_,fun k j k1 k2=>?_⟩
 ·rw [e,if_neg (by omega)];exact h.own k k1 k2
 ·rw [e,e]
  intro h1 h2
  by_cases a:0=k<;>by_cases b:0=j
  ·omega
  ·rw [if_pos a,if_neg b] at h1
   have:=h.own j (by omega) k2;omega
  ·rw [if_neg a,if_pos b] at h1
   have:=h.own k (by omega) k1;omega
  ·rw [if_neg a,if_neg b] at h1
   rw [if_neg a] at h2
   exact h.inj k j (by omega) k1 (by omega) k2 h1 h2
def MF (costs:List (List Int)) (m i:Nat) (s:jC) (p:Nat):Nat:=(Eo costs (Jg s (i+1)) m (Qr m s) p).at_
theorem zY (h:qA costs n m i s) (hc:Iq costs n m B) (hi:i<n):fQ costs n m i (Jg s (i+1)) (MF costs m i s) 0 (Eo costs (Jg s (i+1)) m (Qr m s) 0):=by
 have ho:=YE h
 have eo:∀ k,own (Jg s (i+1)) k=if 0=k then i+1 else own s.owner k:=fun k=>Zb (by rw [h.lo];omega)
 have nd:∀ k,gi (List.replicate (m+1) false) k=false:=fun k=>by
  unfold gi
  rw [List.getElem?_replicate]
  split<;>rfl
 refine ⟨h.lu,h.lv,h.lw,by simp [Eo,Qr],by simp [Eo,Qr],rfl,fun p hp=>?_,rfl,fun p p1 p2=>by omega,fun k=>?_,nd _,fun p hp=>by omega,?_,?_,h.aO,?_,?_,?_,fun k _ _ _ p hp=>by omega,fun k k1 k2 _=>.inl ⟨rfl,?_⟩,fun p p1 p2=>by omega⟩
 ·obtain rfl:p=0:=by omega
  exact Nat.zero_le _
 ·constructor
  ·intro hk
   have:gi (List.replicate (m+1) false) k=true:=hk
   rw [nd] at this;cases this
  ·rintro ⟨p,hp,_⟩;omega
 ·intro r k r1 r2 k1 k2
  show gi s.u r+gi s.v k≤_
  rcases Nat.lt_or_ge r (i+1) with h3|h3
  ·exact h.VR r k r1 (by omega) k1 k2
  ·have:=h.uz r (by omega)
   have:=h.aO k k1 k2
   have:=hc.lo r k
   omega
 ·intro k k1 k2
  rw [eo,if_neg (by omega)]
  exact h.tight k k1 k2
 ·intro k k1 k2
  rw [eo,if_neg (by omega)]
  exact h.OW k k1 k2
 ·intro r r1 r2
  show 0≤gi s.u r
  rcases Nat.lt_or_ge r (i+1) with h3|h3
  ·exact h.UH r r1 (by omega)
  ·rw [h.uz r (by omega)];omega
 ·intro r hr
  exact h.uz r (by omega)
 ·exact a1q (by omega)
theorem O4 (h:qA costs n m i s) (hc:Iq costs n m B) (hi:i<n):∀ t,(∀ p,p<t→own (Jg s (i+1)) (MF costs m i s p)≠0)→fQ costs n m i (Jg s (i+1)) (MF costs m i s) t (Eo costs (Jg s (i+1)) m (Qr m s) t)
 |0,_=>zY h hc hi
 |t+1,hp=>(O4 h hc hi t fun p hp'=>hp p (by omega)).step hc (YE h) hi (hp t (by omega)) rfl
theorem Wj (o:List Ix) (g0:Gr):∀ f t,(∀ p,p<t→own o (Eo costs o m g0 p).at_≠0) →
 (∀ p,p<TD costs o m g0 f t→own o (Eo costs o m g0 p).at_≠0)∧(own o (Eo costs o m g0 (TD costs o m g0 f t)).at_=0∨TD costs o m g0 f t=t+f)∧TD costs o m g0 f t≤t+f
 |0,t,h=>⟨h,.inr rfl,Nat.le_refl _⟩
 |f+1,t,h=>by
  unfold TD
  by_cases e:(gi o (Eo costs o m g0 t).at_).n=0
  ·rw [if_pos e];exact ⟨h,.inl e,by omega⟩
  ·rw [if_neg e]
   obtain ⟨a,b,c⟩:=Wj o g0 f (t+1) fun p hp=>by
    rcases Nat.lt_or_ge p t with h3|h3
    ·exact h p h3
    ·obtain rfl:p=t:=by omega
     exact e
   exact ⟨a,by rcases b with b|b;exact .inl b;exact .inr (by omega),by omega⟩
theorem fQ.ne {o:List Ix} {A:Nat→Nat} {p q:Nat} {g:Gr} (h:fQ costs n m i o A p g) (hq:q<p):A q≠A p:=fun e=>by
 have:=(h.done (A p)).2 ⟨q,hq,e⟩
 rw [h.new] at this;cases this
theorem ZK (h:qA costs n m i s) (hc:Iq costs n m B) (hi:i<n):(∀ p,p<Xj costs m s (i+1)→own (Jg s (i+1)) (MF costs m i s p)≠0)∧own (Jg s (i+1)) (MF costs m i s (Xj costs m s (i+1)))=0∧Xj costs m s (i+1)≤m+1:=by
 obtain ⟨a,b,c⟩:=Wj (costs:=costs) (m:=m) (Jg s (i+1)) (Qr m s) (m+2) 0 (fun p hp=>by omega)
 have e:Xj costs m s (i+1)=TD costs (Jg s (i+1)) m (Qr m s) (m+2) 0:=rfl
 rw [← e] at a b c
 have hlt:Xj costs m s (i+1)≠m+2:=fun e2=>by
  have:=WU (m+1) (m+2) (MF costs m i s) (fun k hk=>by
   have:=(O4 h hc hi k fun p hp=>a p (by omega)).le k (Nat.le_refl _)
   omega) (fun k j hk hj hkj=>by
   rcases Nat.lt_trichotomy k j with h3|h3|h3
   ·exact absurd hkj ((O4 h hc hi j fun p hp=>a p (by omega)).ne h3)
   ·exact h3
   ·exact absurd hkj.symm ((O4 h hc hi k fun p hp=>a p (by omega)).ne h3))
  omega
 refine ⟨a,?_,by omega⟩
 rcases b with b|b
 ·exact b
 ·omega
structure oU (costs:List (List Int)) (m i:Nat) (u v:List Int) (o:List Ix) (A:Nat→Nat) (q:Nat) (a:Aug):Prop where
 len:a.owner.length=m+1
 at_:a.at_=A q
 tight:∀ k,1≤k→k≤m→k≠a.at_→own a.owner k≠0→gi u (own a.owner k)+gi v k=cst costs (own a.owner k) k
 inj:∀ k e,k≤m→e≤m→k≠a.at_→e≠a.at_→own a.owner k=own a.owner e→own a.owner k≠0→k=e
 all:∀ r,1≤r→r≤i+1→∃ k,k≤m∧k≠a.at_∧own a.owner k=r
 same:∀ p,p<q→own a.owner (A p)=own o (A p)
 free:∀ k,1≤k→k≤m→k≠a.at_→own a.owner k=0→gi v k=0
 le:∀ k,k≤m→own a.owner k≤i+1
theorem oU.step {o:List Ix} {A:Nat→Nat} {T q:Nat} {g:Gr} {a:Aug} (h:oU costs m i g.u g.v o A q a) (hg:fQ costs n m i o A T g) (hne:∀ p q,q<p→p≤T→A q≠A p) (hq:1≤q) (hqT:q≤T):∃ q',q'<q∧oU costs m i g.u g.v o A q' (jr g.way a):=by
 obtain ⟨q',q1,q2,q3⟩:=hg.path q hq hqT
 have ew:(gi g.way a.at_).n=A q':=by rw [h.at_];exact q2
 have hle:=hg.le q hqT
 have hle':=hg.le q' (by omega)
 have hab:A q'≠A q:=hne q q' q1 hqT
 have eo:∀ k,own (jr g.way a).owner k=if A q=k then own a.owner (A q') else own a.owner k:=fun k=>by
  unfold jr own
  simp only
  rw [gs (by rw [h.len,h.at_];omega),h.at_]
  rw [show gi g.way (A q)=⟨A q'⟩ from by
   have:own g.way (A q)=A q':=q2
   unfold own at this
   rw [← this]]
  split<;>rfl
 have ea:(jr g.way a).at_=A q':=by
  unfold jr;simp only;exact ew
 have hs:=h.same q' q1
 refine ⟨q',q1,by unfold jr;simp [h.len],ea,fun k k1 k2 k3=>?_,fun k e k1 k2 k3 k4=>?_,fun r r1 r2=>?_,fun p hp=>?_,fun k k1 k2 k3=>?_,fun k hk=>?_⟩
 ·rw [eo]
  rw [ea] at k3
  by_cases e:A q=k
  ·subst e
   rw [if_pos rfl,hs]
   intro _;exact q3
  ·rw [if_neg e]
   exact h.tight k k1 k2 (by rw [h.at_];exact fun x=>e x.symm)
 ·rw [ea] at k3 k4
  rw [eo,eo]
  have d1:A q'≠a.at_:=by rw [h.at_];exact hab
  by_cases e1:A q=k<;>by_cases e2:A q=e
  ·intro _ _;omega
  ·rw [if_pos e1,if_neg e2]
   intro x y
   have:=h.inj (A q') e hle' k2 d1 (by rw [h.at_];exact fun z=>e2 z.symm) x y
   exact absurd this.symm k4
  ·rw [if_neg e1,if_pos e2]
   intro x y
   have:=h.inj k (A q') k1 hle' (by rw [h.at_];exact fun z=>e1 z.symm) d1 x y
   exact absurd this k3
  ·rw [if_neg e1,if_neg e2]
   intro x y
   exact h.inj k e k1 k2 (by rw [h.at_];exact fun z=>e1 z.symm) (by rw [h.at_];exact fun z=>e2 z.symm) x y
 ·obtain ⟨k,k1,k2,k3⟩:=h.all r r1 r2
  rw [h.at_] at k2
  by_cases e:k=A q'
  ·refine ⟨A q,hle,by rw [ea];exact fun x=>hab x.symm,?_⟩
   rw [eo,if_pos rfl,← e];exact k3
  ·refine ⟨k,k1,by rw [ea];exact e,?_⟩
   rw [eo,if_neg (fun x=>k2 x.symm)];exact k3
 ·rw [eo,if_neg (fun x=>hne q p (by omega) hqT x.symm)]
  exact h.same p (by omega)
 ·rw [eo]
  rw [ea] at k3
  by_cases e:A q=k
  ·rw [if_pos e,hs]
   intro x
   exact absurd x (hg.pR q' (by omega))
  ·rw [if_neg e]
   exact h.free k k1 k2 (by rw [h.at_];exact fun x=>e x.symm)
 ·rw [eo]
  split
  ·exact h.le _ hle'
  ·exact h.le k hk
theorem X4 (way:List Ix) (a:Aug):∀ f t,(∀ p,p<t→(GX way a p).at_≠0) →
 (∀ p,p<aj way a f t→(GX way a p).at_≠0)∧((GX way a (aj way a f t)).at_=0∨aj way a f t=t+f)∧aj way a f t≤t+f
 |0,t,h=>⟨h,.inr rfl,Nat.le_refl _⟩
 |f+1,t,h=>by
  unfold aj
  by_cases e:(GX way a t).at_=0
  ·rw [if_pos e];exact ⟨h,.inl e,by omega⟩
  ·rw [if_neg e]
   obtain ⟨x,b,c⟩:=X4 way a f (t+1) fun p hp=>by
    rcases Nat.lt_or_ge p t with h3|h3
    ·exact h p h3
    ·obtain rfl:p=t:=by omega
     exact e
   exact ⟨x,by rcases b with b|b;exact .inl b;exact .inr (by omega),by omega⟩
structure a4c (costs:List (List Int)) (m:Nat) (s:jC) (i:Nat):Prop where
 go:∀ t,t<yh costs m s (i+1)→(GX (MN costs m s (i+1)).way (stA costs m s (i+1)) t).at_≠0
 fin:(GX (MN costs m s (i+1)).way (stA costs m s (i+1)) (yh costs m s (i+1))).at_=0
 inv:∀ t,t≤yh costs m s (i+1)→∃ q,q+t≤Xj costs m s (i+1)∧oU costs m i (MN costs m s (i+1)).u (MN costs m s (i+1)).v (Jg s (i+1)) (MF costs m i s) q (GX (MN costs m s (i+1)).way (stA costs m s (i+1)) t)
theorem mV (h:qA costs n m i s) (hc:Iq costs n m B) (hi:i<n):a4c costs m s i:=by
 obtain ⟨a,b,c⟩:=ZK h hc hi
 have ho:=YE h
 have hg:=O4 h hc hi (Xj costs m s (i+1)) a
 have eE:Eo costs (Jg s (i+1)) m (Qr m s) (Xj costs m s (i+1))=MN costs m s (i+1):=rfl
 rw [eE] at hg
 have hne:∀ p q,q<p→p≤Xj costs m s (i+1)→MF costs m i s q≠MF costs m i s p:=fun p q h1 h2=>(O4 h hc hi p fun p' hp'=>a p' (by omega)).ne h1
 have eA:stA costs m s (i+1)=⟨Jg s (i+1),MF costs m i s (Xj costs m s (i+1))⟩:=rfl
 have i0:oU costs m i (MN costs m s (i+1)).u (MN costs m s (i+1)).v (Jg s (i+1)) (MF costs m i s) (Xj costs m s (i+1)) (stA costs m s (i+1)):=by
  rw [eA]
  refine ⟨ho.len,rfl,fun k k1 k2 _=>hg.tight k k1 k2,fun k e k1 k2 _ _=>ho.inj k e k1 k2,fun r r1 r2=>?_,fun _ _=>rfl,fun k k1 k2 _=>hg.OW k k1 k2,fun k hk=>ho.lt hk⟩
  have nz:∀ k,own (Jg s (i+1)) k=r→k≠MF costs m i s (Xj costs m s (i+1)):=fun k hk e=>by rw [e,b] at hk;omega
  rcases Nat.lt_or_ge r (i+1) with h3|h3
  ·obtain ⟨k,k1,k2,k3⟩:=h.all r r1 (by omega)
   have:own (Jg s (i+1)) k=r:=by
    unfold Jg
    rw [Zb (by rw [h.lo];omega),if_neg (by omega)];exact k3
   exact ⟨k,k2,nz k this,this⟩
  ·have:own (Jg s (i+1)) 0=r:=by rw [ho.zero];omega
   exact ⟨0,Nat.zero_le _,nz 0 this,this⟩
 have inv:∀ t,(∀ p,p<t→(GX (MN costs m s (i+1)).way (stA costs m s (i+1)) p).at_≠0)→∃ q,q+t≤Xj costs m s (i+1)∧oU costs m i (MN costs m s (i+1)).u (MN costs m s (i+1)).v (Jg s (i+1)) (MF costs m i s) q (GX (MN costs m s (i+1)).way (stA costs m s (i+1)) t):=by
  intro t
  induction t with
  |zero=>intro _;exact ⟨_,Nat.le_refl _,i0⟩
  |succ t ih =>
   intro hp
   obtain ⟨q,q1,q2⟩:=ih fun p hp'=>hp p (by omega)
   have h0:=hp t (by omega)
   have hq:1≤q:=by
    rcases Nat.eq_zero_or_pos q with e|e
    ·subst e
     rw [q2.at_,hg.zero] at h0;exact absurd rfl h0
    ·exact e
   obtain ⟨q',x1,x2⟩:=q2.step hg hne hq (by omega)
   exact ⟨q',by omega,x2⟩
 obtain ⟨x,y,z⟩:=X4 (MN costs m s (i+1)).way (stA costs m s (i+1)) (m+2) 0 (fun p hp=>by omega)
 have e:yh costs m s (i+1)=aj (MN costs m s (i+1)).way (stA costs m s (i+1)) (m+2) 0:=rfl
 rw [← e] at x y z
 refine ⟨x,?_,fun t ht=>inv t fun p hp=>x p (by omega)⟩
 rcases y with y|y
 ·exact y
 ·obtain ⟨q,q1,_⟩:=inv (yh costs m s (i+1)) x
  omega
theorem qA.step (h:qA costs n m i s) (hc:Iq costs n m B) (hi:i<n):qA costs n m (i+1) (Nv costs m s (i+1)):=by
 obtain ⟨a,b,c⟩:=ZK h hc hi
 have hg:=O4 h hc hi (Xj costs m s (i+1)) a
 have eE:Eo costs (Jg s (i+1)) m (Qr m s) (Xj costs m s (i+1))=MN costs m s (i+1):=rfl
 rw [eE] at hg
 obtain ⟨_,fin,inv⟩:=mV h hc hi
 obtain ⟨q,_,hA⟩:=inv _ (Nat.le_refl _)
 have e1:(Nv costs m s (i+1)).u=(MN costs m s (i+1)).u:=rfl
 have e2:(Nv costs m s (i+1)).v=(MN costs m s (i+1)).v:=rfl
 have e3:(Nv costs m s (i+1)).owner=(GX (MN costs m s (i+1)).way (stA costs m s (i+1)) (yh costs m s (i+1))).owner:=rfl
 have e4:(Nv costs m s (i+1)).way=(MN costs m s (i+1)).way:=rfl
 generalize Nv costs m s (i+1)=S at *
 generalize GX (MN costs m s (i+1)).way (stA costs m s (i+1)) (yh costs m s (i+1))=a' at *
 refine ⟨by rw [e1];exact hg.lu,by rw [e2];exact hg.lv,by rw [e3];exact hA.len,by rw [e4];exact hg.lw,fun k k1 k2=>by rw [e3];exact hA.le k k2,fun r r1 r2=>?_,fun k e k1 k2 k3 k4=>?_,fun r k r1 r2 k1 k2=>by rw [e1,e2];exact hg.VR r k r1 r2 k1 k2,fun k k1 k2=>?_,fun k k1 k2=>by rw [e2];exact hg.aO k k1 k2,fun k k1 k2=>?_,fun r r1 r2=>by rw [e1];exact hg.UH r r1 r2,fun r hr=>by rw [e1];exact hg.uz r hr⟩
 ·obtain ⟨k,k1,k2,k3⟩:=hA.all r r1 r2
  rw [fin] at k2
  exact ⟨k,by omega,k1,by rw [e3];exact k3⟩
 ·rw [e3]
  exact hA.inj k e k2 k4 (by omega) (by omega)
 ·rw [e1,e2,e3]
  exact hA.tight k k1 k2 (by omega)
 ·rw [e2,e3]
  exact hA.free k k1 k2 (by omega)
theorem stage0:qA costs n m 0 (Dh costs n m 0):=by
 have z:∀ k,own (List.replicate (m+1) (⟨0⟩:Ix)) k=0:=fun k=>by
  unfold own gi
  rw [List.getElem?_replicate]
  split<;>rfl
 refine ⟨by simp [Dh],by simp [Dh],by simp [Dh],by simp [Dh],fun k _ _=>?_,fun r h1 h2=>by omega,fun k e _ _ _ _ _ h=>absurd (z k) h,fun r k h1 h2=>by omega,fun k _ _ h=>absurd (z k) h,fun k _ _=>?_,fun k _ _ _=>?_,fun r h1 h2=>by omega,fun r _=>?_⟩
 ·show own (List.replicate (m+1) (⟨0⟩:Ix)) k≤0
  rw [z];exact Nat.le_refl _
 ·show gi (List.replicate (m+1) (0:Int)) k≤0
  rw [U1];omega
 ·show gi (List.replicate (m+1) (0:Int)) k=0
  exact U1 k
 ·show gi (List.replicate (n+1) (0:Int)) r=0
  exact U1 r
theorem NY (hc:Iq costs n m B):∀ i,i≤n→qA costs n m i (Dh costs n m i)
 |0,_=>stage0
 |i+1,hi=>(NY hc i (by omega)).step hc (by omega)
end
end Go.Hun
namespace Go.Hun
open Go.Vm
def Dy (f:Nat→Int):Nat→Int
 |0=>0
 |k+1=>Dy f k+f k
theorem EP {f g:Nat→Int}:∀ {n:Nat},(∀ k,k<n→f k=g k)→Dy f n=Dy g n
 |0,_=>rfl
 |n+1,h=>by simp only [Dy];rw [EP fun k hk=>h k (by omega),h n (by omega)]
theorem OA {f g:Nat→Int}:∀ {n:Nat},(∀ k,k<n→f k≤g k)→Dy f n≤Dy g n
 |0,_=>Int.le_refl _
 |n+1,h=>by
  simp only [Dy]
  have:=OA (f:=f) (g:=g) (n:=n) fun k hk=>h k (by omega)
  have:=h n (by omega)
  omega
theorem Wi (f g:Nat→Int):∀ n,Dy (fun k=>f k+g k) n=Dy f n+Dy g n
 |0=>rfl
 |n+1=>by simp only [Dy];rw [Wi f g n];omega
theorem Ya {f:Nat→Int}:∀ {n:Nat},(∀ k,k<n→f k=0)→Dy f n=0
 |0,_=>rfl
 |n+1,h=>by simp only [Dy];rw [Ya fun k hk=>h k (by omega),h n (by omega)];rfl
theorem LQ (c:Int):∀ n:Nat,Dy (fun _=>c) n=n*c
 |0=>by simp [Dy]
 |n+1=>by
  simp only [Dy];rw [LQ c n]
  push_cast
  rw [Int.add_mul,Int.one_mul]
theorem jX {f:Nat→Int} {a b:Int}:∀ {n:Nat},(∀ k,k<n→a≤f k∧f k≤b)→n*a≤Dy f n∧Dy f n≤n*b:=fun {n} h=>by
 have h1:=OA (f:=fun _=>a) (g:=f) (n:=n) fun k hk=>(h k hk).1
 have h2:=OA (f:=f) (g:=fun _=>b) (n:=n) fun k hk=>(h k hk).2
 rw [LQ] at h1 h2
 exact ⟨h1,h2⟩
theorem SA {f:Nat→Int} {j:Nat}:∀ {n:Nat},j<n→Dy f n=f j+Dy (fun k=>if k=j then 0 else f k) n
 |n+1,h=>by
  simp only [Dy]
  by_cases e:j=n
  ·subst e
   rw [if_pos rfl,EP (f:=fun k=>if k=j then 0 else f k) (g:=f) fun k hk=>if_neg (by omega)]
   omega
  ·rw [if_neg (fun x=>e x.symm),SA (f:=f) (j:=j) (n:=n) (by omega)]
   omega
theorem Y0:∀ (n m:Nat) (κ:Nat→Nat) (f:Nat→Int),(∀ r,r<n→κ r<m)→(∀ r q,r<n→q<n→κ r=κ q→r=q)→(∀ k,k<m→(∀ r,r<n→κ r≠k)→f k=0)→Dy f m=Dy (fun r=>f (κ r)) n
 |0,m,κ,f,h1,h2,h3=>Ya fun k hk=>h3 k hk fun r hr=>by omega
 |n+1,m,κ,f,h1,h2,h3=>by
  rw [SA (h1 n (by omega))]
  have ih:=Y0 n m κ (fun k=>if k=κ n then 0 else f k) (fun r hr=>h1 r (by omega)) (fun r q hr hq=>h2 r q (by omega) (by omega)) fun k hk hn=>by
   by_cases e:k=κ n
   ·simp only [if_pos e]
   ·simp only [if_neg e]
    refine h3 k hk fun r hr=>?_
    rcases Nat.lt_or_ge r n with h|h
    ·exact hn r h
    ·obtain rfl:r=n:=by omega
     exact fun x=>e x.symm
  rw [ih]
  simp only [Dy]
  rw [EP (n:=n) (f:=fun r=>if κ r=κ n then 0 else f (κ r)) (g:=fun r=>f (κ r)) fun r hr=>if_neg fun e=>by have:=h2 r n (by omega) (by omega) e;omega]
  omega
theorem Vp:∀ (n m:Nat) (κ:Nat→Nat) (f:Nat→Int),(∀ r q,r<n→q<n→κ r<m→κ r=κ q→r=q)→(∀ k,k<m→f k≤0)→Dy f m≤Dy (fun r=>if κ r<m then f (κ r) else 0) n
 |0,m,κ,f,h2,h3=>by
  have:=OA (f:=f) (g:=fun _=>0) (n:=m) h3
  rw [LQ] at this
  simp only [Dy];omega
 |n+1,m,κ,f,h2,h3=>by
  simp only [Dy]
  by_cases hk:κ n<m
  ·rw [if_pos hk,SA hk]
   have ih:=Vp n m κ (fun k=>if k=κ n then 0 else f k) (fun r q hr hq=>h2 r q (by omega) (by omega)) fun k hk=>by
    by_cases e:k=κ n
    ·simp only [if_pos e];omega
    ·simp only [if_neg e];exact h3 k hk
   have e2:Dy (fun r=>if κ r<m then (if κ r=κ n then 0 else f (κ r)) else 0) n=Dy (fun r=>if κ r<m then f (κ r) else 0) n:=EP fun r hr=>by
    by_cases h:κ r<m
    ·rw [if_pos h,if_pos h,if_neg fun e=>by have:=h2 r n (by omega) (by omega) h e;omega]
    ·rw [if_neg h,if_neg h]
   rw [e2] at ih
   omega
  ·rw [if_neg hk]
   have ih:=Vp n m κ f (fun r q hr hq=>h2 r q (by omega) (by omega)) h3
   omega
section
variable {costs:List (List Int)} {n m:Nat} {B:Int}
structure a5x (costs:List (List Int)) (n:Nat) (o:List Ix) (j:Nat) (x:Out):Prop where
 len:x.cols.length=n
 cols:∀ k,1≤k→k≤j→0<own o k→gi x.cols (own o k-1)=(k:Int)-1
 total:x.total=Dy (fun k=>if 0<own o (k+1) then cst costs (own o (k+1)) (k+1) else 0) j
theorem Vf {s:jC} (h:qA costs n m n s):∀ j,j≤m→a5x costs n s.owner j (KI costs s.owner n j)
 |0,_=>⟨by simp [KI],fun k k1 k2=>by omega,rfl⟩
 |j+1,hj=>by
  obtain ⟨i1,i2,i3⟩:=Vf h j (by omega)
  have e:KI costs s.owner n (j+1)=nP costs s.owner (KI costs s.owner n j) (j+1):=rfl
  rw [e]
  generalize KI costs s.owner n j=x at *
  unfold nP
  have e2:(gi s.owner (j+1)).n=own s.owner (j+1):=rfl
  simp only [e2]
  by_cases hp:0<own s.owner (j+1)
  ·rw [if_pos hp]
   have hle:=h.own (j+1) (by omega) hj
   refine ⟨by simp [i1],fun k k1 k2 k3=>?_,?_⟩
   ·show gi (x.cols.set (own s.owner (j+1)-1) (((j+1:Nat):Int)-1)) _=_
    rw [gs (by omega)]
    by_cases e:k=j+1
    ·subst e;rw [if_pos rfl]
    ·rw [if_neg,i2 k k1 (by omega) k3]
     intro e3
     have:=h.inj k (j+1) k1 (by omega) (by omega) hj (by omega) (by omega)
     omega
   ·simp only [Dy]
    rw [if_pos hp,i3]
    unfold cst
    rfl
  ·rw [if_neg hp]
   refine ⟨i1,fun k k1 k2 k3=>?_,?_⟩
   ·by_cases e:k=j+1
    ·subst e;exact absurd k3 hp
    ·exact i2 k k1 (by omega) k3
   ·simp only [Dy]
    rw [if_neg hp,i3];omega
def GH (costs:List (List Int)) (n m:Nat):Out:=KI costs (Dh costs n m n).owner n m
def JI (costs:List (List Int)) (n m:Nat):List Int:=(Dh costs n m n).u.drop 1
def GZ (costs:List (List Int)) (n m:Nat):List Int:=(Dh costs n m n).v.drop 1
theorem kM {α:Type} [Inhabited α] (l:List α) (j k:Nat):gi (l.drop j) k=gi l (j+k):=by
 unfold gi;rw [List.getElem?_drop]
structure a2f (c:Nat→Nat→Int) (n m:Nat) (B:Int) (x:Out) (U V:List Int):Prop where
 len:x.cols.length=n
 lU:U.length=n
 lV:V.length=m
 col:∀ r,r<n→0≤gi x.cols r∧gi x.cols r<m
 inj:∀ r q,r<n→q<n→gi x.cols r=gi x.cols q→r=q
 total:x.total=Dy (fun r=>c r (gi x.cols r).toNat) n
 VR:∀ r k,r<n→k<m→gi U r+gi V k≤c r k
 neg:∀ k,k<m→-B≤gi V k∧gi V k≤0
 pos:∀ r,r<n→0≤gi U r∧gi U r≤B
 a0g:x.total=Dy (fun r=>gi U r) n+Dy (fun k=>gi V k) m
 free:∀ k,k<m→(∀ r,r<n→gi x.cols r≠k)→gi V k=0
theorem Xf (hc:Iq costs n m B):a2f (fun r k=>gi (gi costs r) k) n m B (GH costs n m) (JI costs n m) (GZ costs n m):=by
 have h:=NY hc n (Nat.le_refl _)
 have hO:=Vf h m (Nat.le_refl _)
 have e1:KI costs (Dh costs n m n).owner n m=GH costs n m:=rfl
 have e2:(Dh costs n m n).u.drop 1=JI costs n m:=rfl
 have e3:(Dh costs n m n).v.drop 1=GZ costs n m:=rfl
 rw [e1] at hO
 have hu:∀ r,gi (JI costs n m) r=gi (Dh costs n m n).u (r+1):=fun r=>by rw [← e2,kM,Nat.add_comm]
 have hv:∀ k,gi (GZ costs n m) k=gi (Dh costs n m n).v (k+1):=fun k=>by rw [← e3,kM,Nat.add_comm]
 have lU:(JI costs n m).length=n:=by rw [← e2,List.length_drop,h.lu];omega
 have lV:(GZ costs n m).length=m:=by rw [← e3,List.length_drop,h.lv];omega
 generalize JI costs n m=U at *
 generalize GZ costs n m=V at *
 generalize GH costs n m=x at *
 generalize Dh costs n m n=s at *
 have hb:=hc.big
 have hnm:=hc.nm
 have XE:∀ r,r<n→∃ k,1≤k∧k≤m∧own s.owner k=r+1∧gi x.cols r=(k:Int)-1:=fun r hr=>by
  obtain ⟨k,k1,k2,k3⟩:=h.all (r+1) (by omega) (by omega)
  have:=hO.cols k k1 k2 (by omega)
  rw [k3,Nat.add_sub_cancel] at this
  exact ⟨k,k1,k2,k3,this⟩
 have hown:∀ r,r<n→own s.owner ((gi x.cols r).toNat+1)=r+1∧(gi x.cols r).toNat<m:=fun r hr=>by
  obtain ⟨k,k1,k2,k3,k4⟩:=XE r hr
  have:(gi x.cols r).toNat+1=k:=by omega
  rw [this];exact ⟨k3,by omega⟩
 have hinj:∀ r q,r<n→q<n→(gi x.cols r).toNat=(gi x.cols q).toNat→r=q:=fun r q hr hq e=>by
  have h1:=(hown r hr).1
  have h2:=(hown q hq).1
  rw [e] at h1;omega
 have hfree:∀ k,k<m→(∀ r,r<n→(gi x.cols r).toNat≠k)→own s.owner (k+1)=0:=fun k hk hn=>by
  rcases Nat.eq_zero_or_pos (own s.owner (k+1)) with e|e
  ·exact e
  ·have hle:=h.own (k+1) (by omega) (by omega)
   have:=hO.cols (k+1) (by omega) (by omega) e
   exact absurd (by omega) (hn (own s.owner (k+1)-1) (by omega))
 have ht:x.total=Dy (fun r=>gi (gi costs r) (gi x.cols r).toNat) n:=by
  rw [hO.total,Y0 n m (fun r=>(gi x.cols r).toNat) _ (fun r hr=>(hown r hr).2) hinj fun k hk hn=>by
   rw [if_neg (by rw [hfree k hk hn];omega)]]
  refine EP fun r hr=>?_
  rw [(hown r hr).1,if_pos (by omega)]
  unfold cst
  rw [Nat.add_sub_cancel,Nat.add_sub_cancel]
 have hfe:∀ r k,r<n→k<m→gi U r+gi V k≤gi (gi costs r) k:=fun r k hr hk=>by
  rw [hu,hv]
  have:=h.VR (r+1) (k+1) (by omega) (by omega) (by omega) (by omega)
  unfold cst at this
  rwa [Nat.add_sub_cancel,Nat.add_sub_cancel] at this
 have hng:∀ k,k<m→gi V k≤0:=fun k hk=>by rw [hv];exact h.aO (k+1) (by omega) (by omega)
 have hps:∀ r,r<n→0≤gi U r:=fun r hr=>by rw [hu];exact h.UH (r+1) (by omega) (by omega)
 have hf:∃ k,k<m∧own s.owner (k+1)=0:=by
  refine Classical.byContradiction fun hn=>?_
  have hn:∀ k,k<m→own s.owner (k+1)≠0:=fun k h1 h3=>hn ⟨k,h1,h3⟩
  have:=WU n m (fun k=>own s.owner (k+1)-1) (fun k hk=>by
   have h1:=hn k hk
   have h2:=h.own (k+1) (by omega) (by omega)
   show own s.owner (k+1)-1<n
   omega) (fun k e hk he hf=>by
   have h1:=hn k hk
   have h2:=hn e he
   have hf:own s.owner (k+1)-1=own s.owner (e+1)-1:=hf
   have:=h.inj (k+1) (e+1) (by omega) (by omega) (by omega) (by omega) (by omega) h1
   omega)
  omega
 obtain ⟨f,f1,f2⟩:=hf
 have fv:gi V f=0:=by rw [hv];exact h.OW (f+1) (by omega) (by omega) f2
 have hub:∀ r,r<n→gi U r≤B:=fun r hr=>by
  have h1:=hfe r f hr f1
  have h2:=hc.hi (r+1) (f+1)
  unfold cst at h2
  rw [Nat.add_sub_cancel,Nat.add_sub_cancel] at h2
  omega
 have a2l:∀ r,r<n→gi U r+gi V (gi x.cols r).toNat=gi (gi costs r) (gi x.cols r).toNat:=fun r hr=>by
  obtain ⟨h1,h2⟩:=hown r hr
  have:=h.tight ((gi x.cols r).toNat+1) (by omega) (by omega) (by omega)
  rw [h1] at this
  rw [hu,hv]
  unfold cst at this
  rwa [Nat.add_sub_cancel,Nat.add_sub_cancel] at this
 have hV0:∀ k,k<m→(∀ r,r<n→(gi x.cols r).toNat≠k)→gi V k=0:=fun k hk hn=>by
  rw [hv];exact h.OW (k+1) (by omega) (by omega) (hfree k hk hn)
 refine ⟨hO.len,lU,lV,fun r hr=>?_,fun r q hr hq e=>hinj r q hr hq (by rw [e]),ht,hfe,fun k hk=>⟨?_,hng k hk⟩,fun r hr=>⟨hps r hr,hub r hr⟩,?_,fun k hk hn=>hV0 k hk fun r hr e=>hn r hr (by obtain ⟨j,j1,j2,j3,j4⟩:=XE r hr;omega)⟩
 ·obtain ⟨k,k1,k2,k3,k4⟩:=XE r hr
  omega
 ·by_cases e:own s.owner (k+1)=0
  ·rw [hv,h.OW (k+1) (by omega) (by omega) e];omega
  ·have hle:=h.own (k+1) (by omega) (by omega)
   have h1:=h.tight (k+1) (by omega) (by omega) e
   have h2:=hub (own s.owner (k+1)-1) (by omega)
   rw [hu] at h2
   have h3:own s.owner (k+1)-1+1=own s.owner (k+1):=by omega
   rw [h3] at h2
   have h4:=hc.lo (own s.owner (k+1)) (k+1)
   rw [hv];omega
 ·rw [ht,EP (fun r hr=>(a2l r hr).symm),Wi]
  congr 1
  rw [Y0 n m (fun r=>(gi x.cols r).toNat) (fun k=>gi V k) (fun r hr=>(hown r hr).2) hinj hV0]
end
def Xy (l:List (List Int)) (skip:Int) (cols:Nat→Int) (r:Nat):Int:=if cols r<0 then skip else gi (gi l r) (cols r).toNat
structure lg (n m:Nat) (cols:Nat→Int):Prop where
 rng:∀ r,r<n→-1≤cols r∧cols r<m
 inj:∀ r q,r<n→q<n→0≤cols r→cols r=cols q→r=q
structure a0i (l:List (List Int)) (n m:Nat) (skip:Int) (U V:Nat→Int):Prop where
 VR:∀ r k,r<n→k<m→U r+V k≤gi (gi l r) k
 skip:∀ r,r<n→U r≤skip
 neg:∀ k,k<m→V k≤0
theorem weak {l:List (List Int)} {n m:Nat} {skip:Int} {U V:Nat→Int} {cols:Nat→Int} (hp:a0i l n m skip U V) (hc:lg n m cols):Dy U n+Dy V m≤Dy (Xy l skip cols) n:=by
 have h1:=Vp n m (fun r=>if cols r<0 then m else (cols r).toNat) V (fun r q hr hq h e=>by
  by_cases a:cols r<0
  ·rw [if_pos a] at h;omega
  ·rw [if_neg a] at h e
   by_cases b:cols q<0
   ·rw [if_pos b] at e;omega
   ·rw [if_neg b] at e
    exact hc.inj r q hr hq (by omega) (by omega)) hp.neg
 have h2:=OA (n:=n) (f:=fun r=>U r+(if (if cols r<0 then m else (cols r).toNat)<m then V (if cols r<0 then m else (cols r).toNat) else 0)) (g:=Xy l skip cols) fun r hr=>by
  unfold Xy
  have hr1:=hc.rng r hr
  by_cases a:cols r<0
  ·simp only [if_pos a]
   rw [if_neg (by omega)]
   have:=hp.skip r hr
   omega
  ·simp only [if_neg a]
   rw [if_pos (by omega)]
   exact hp.VR r _ hr (by omega)
 rw [Wi] at h2
 omega
def DJ (l:List (List Int)) (skip:Int) (n:Nat):List (List Int):=l.map fun row=>row++List.replicate (n+1) skip
theorem gi_map' {α β:Type} [Inhabited α] [Inhabited β] (f:α→β) {l:List α} {i:Nat} (h:i<l.length):gi (l.map f) i=f (gi l i):=by
 unfold gi;simp [List.getElem?_map,List.getElem?_eq_getElem h]
structure xB (l:List (List Int)) (n m:Nat) (skip B:Int):Prop where
 len:l.length=n
 row:∀ r,r<n→(gi l r).length=m
 rng:∀ r k,r<n→k<m→0≤gi (gi l r) k∧gi (gi l r) k≤B
 skip:0≤skip∧skip≤B
 big:B≤1000000000000
theorem UR {l:List (List Int)} {n m:Nat} {skip B:Int} (h:xB l n m skip B) {r k:Nat} (hr:r<n):gi (gi (DJ l skip n) r) k=if k<m then gi (gi l r) k else if k<m+(n+1) then skip else 0:=by
 unfold DJ
 rw [gi_map' _ (by rw [h.len];exact hr)]
 have:=h.row r hr
 unfold gi at this ⊢
 rw [List.getElem?_append]
 by_cases h1:k<m
 ·rw [if_pos (by omega),if_pos h1]
 ·rw [if_neg (by omega),if_neg h1,List.getElem?_replicate]
  by_cases h2:k<m+(n+1)
  ·rw [if_pos (by omega),if_pos h2];rfl
  ·rw [if_neg (by omega),if_neg h2];rfl
theorem YC {l:List (List Int)} {n m:Nat} {skip B:Int} (h:xB l n m skip B):Iq (DJ l skip n) n (m+(n+1)) B:=by
 have h0:=h.skip
 have hb:0≤B:=by omega
 have:∀ r k,0≤gi (gi (DJ l skip n) r) k∧gi (gi (DJ l skip n) r) k≤B:=fun r k=>by
  rcases Nat.lt_or_ge r n with h1|h1
  ·rw [UR h h1]
   split
   ·rename_i h2;exact h.rng r k h1 h2
   ·split
    ·exact h0
    ·omega
  ·have e:gi (DJ l skip n) r=default:=by
    unfold gi DJ
    rw [List.getElem?_eq_none (by rw [List.length_map,h.len];omega)];rfl
   rw [e]
   have:gi (default:List Int) k=0:=by
    show ((([]:List Int)[k]?).getD 0)=0
    simp
   rw [this];omega
 exact ⟨fun r k=>(this _ _).1,fun r k=>(this _ _).2,⟨hb,h.big⟩,by omega⟩
def KL (m:Nat) (c:Int):Int:=if (m:Int)≤c then -1 else c
def Xm (l:List (List Int)) (n m:Nat) (skip:Int):List Int:=(GH (DJ l skip n) n (m+(n+1))).cols.map (KL m)
def ZJ (l:List (List Int)) (n m:Nat) (skip:Int):Int:=(GH (DJ l skip n) n (m+(n+1))).total
def o7 (l:List (List Int)) (n m:Nat) (skip:Int):List Int:=JI (DJ l skip n) n (m+(n+1))
def qw (l:List (List Int)) (n m:Nat) (skip:Int):List Int:=(GZ (DJ l skip n) n (m+(n+1))).take m
structure a8c (l:List (List Int)) (n m:Nat) (skip B:Int) (cols U V:List Int) (total:Int):Prop where
 lC:cols.length=n
 lU:U.length=n
 lV:V.length=m
 part:lg n m (fun r=>gi cols r)
 tot:total=Dy (Xy l skip fun r=>gi cols r) n
 pot:a0i l n m skip (fun r=>gi U r) (fun k=>gi V k)
 a0g:total=Dy (fun r=>gi U r) n+Dy (fun k=>gi V k) m
 a4k:∀ r,r<n→0≤gi U r∧gi U r≤B
 a0x:∀ k,k<m→-B≤gi V k∧gi V k≤0
theorem gi_take' {α:Type} [Inhabited α] (l:List α) {j k:Nat} (h:k<j):gi (l.take j) k=gi l k:=by
 unfold gi;rw [List.getElem?_take,if_pos h]
theorem Pn (f:Nat→Int) (m:Nat):∀ n,Dy f (m+n)=Dy f m+Dy (fun k=>f (m+k)) n
 |0=>by simp [Dy]
 |n+1=>by
  rw [← Nat.add_assoc]
  simp only [Dy]
  rw [Pn f m n];omega
theorem iW {l:List (List Int)} {n m:Nat} {skip B:Int} (h:xB l n m skip B):a8c l n m skip B (Xm l n m skip) (o7 l n m skip) (qw l n m skip) (ZJ l n m skip):=by
 have hs:=Xf (YC h)
 have eC:Xm l n m skip=(GH (DJ l skip n) n (m+(n+1))).cols.map (KL m):=rfl
 have eT:ZJ l n m skip=(GH (DJ l skip n) n (m+(n+1))).total:=rfl
 have eU:o7 l n m skip=JI (DJ l skip n) n (m+(n+1)):=rfl
 have eV:qw l n m skip=(GZ (DJ l skip n) n (m+(n+1))).take m:=rfl
 rw [eC,eT,eU,eV]
 generalize GH (DJ l skip n) n (m+(n+1))=x at *
 generalize JI (DJ l skip n) n (m+(n+1))=U at *
 generalize GZ (DJ l skip n) n (m+(n+1))=V at *
 obtain ⟨s1,s2,s3,s4,s5,s6,s7,s8,s9,s10,s11⟩:=hs
 have gC:∀ r,r<n→gi (x.cols.map (KL m)) r=KL m (gi x.cols r):=fun r hr=>gi_map' _ (by omega)
 have gV:∀ k,k<m→gi (V.take m) k=gi V k:=fun k hk=>gi_take' V hk
 have part:lg n m (fun r=>gi (x.cols.map (KL m)) r):=by
  refine ⟨fun r hr=>?_,fun r q hr hq h1 h2=>?_⟩
  ·rw [gC r hr]
   have:=s4 r hr
   unfold KL;split<;>omega
  ·rw [gC r hr] at h1 h2
   rw [gC q hq] at h2
   refine s5 r q hr hq ?_
   have:=s4 q hq
   unfold KL at h1 h2
   split at h2<;>split at h2<;>omega
 have tot:x.total=Dy (Xy l skip fun r=>gi (x.cols.map (KL m)) r) n:=by
  rw [s6]
  refine EP fun r hr=>?_
  have:=s4 r hr
  show _=if gi (x.cols.map (KL m)) r<0 then skip else gi (gi l r) (gi (x.cols.map (KL m)) r).toNat
  rw [gC r hr,UR h hr]
  unfold KL
  by_cases h1:(m:Int)≤gi x.cols r
  ·rw [if_pos h1,if_neg (by omega),if_pos (by omega),if_pos (by omega)]
  ·rw [if_neg h1,if_pos (by omega),if_neg (by omega)]
 have hsk:∀ r,r<n→gi U r≤skip:=fun r hr=>by
  have hx:∃ k,k<n+1∧∀ q,q<n→gi x.cols q≠((m+k:Nat):Int):=by
   refine Classical.byContradiction fun hn=>?_
   have hn:∀ k,k<n+1→∃ q,q<n∧gi x.cols q=((m+k:Nat):Int):=fun k hk=>Classical.byContradiction fun h2=>hn ⟨k,hk,fun q hq e=>h2 ⟨q,hq,e⟩⟩
   have hn':∀ k,∃ q,k<n+1→q<n∧gi x.cols q=((m+k:Nat):Int):=fun k=>by
    by_cases hk:k<n+1
    ·obtain ⟨q,hq⟩:=hn k hk;exact ⟨q,fun _=>hq⟩
    ·exact ⟨0,fun h=>absurd h hk⟩
   have hF:=fun k=>Classical.choose_spec (hn' k)
   have:=WU n (n+1) (fun k=>Classical.choose (hn' k)) (fun k hk=>(hF k hk).1) (fun k e hk he hf=>by
    have h1:=(hF k hk).2
    have h2:=(hF e he).2
    have hf:Classical.choose (hn' k)=Classical.choose (hn' e):=hf
    rw [hf,h2] at h1;omega)
   omega
  obtain ⟨k,k1,k2⟩:=hx
  have h1:=s7 r (m+k) hr (by omega)
  rw [UR h hr,if_neg (by omega),if_pos (by omega)] at h1
  have h0:=s11 (m+k) (by omega) k2
  omega
 have a0g:Dy (fun k=>gi V k) (m+(n+1))≤Dy (fun k=>gi (V.take m) k) m:=by
  rw [Pn,EP (n:=m) (f:=fun k=>gi (V.take m) k) (g:=fun k=>gi V k) gV]
  have:=OA (n:=n+1) (f:=fun k=>gi V (m+k)) (g:=fun _=>0) fun k hk=>(s8 (m+k) (by omega)).2
  rw [LQ] at this
  omega
 have pot:a0i l n m skip (fun r=>gi U r) (fun k=>gi (V.take m) k):=by
  refine ⟨fun r k hr hk=>?_,hsk,fun k hk=>?_⟩
  ·have h1:=s7 r k hr (by omega)
   rw [UR h hr,if_pos hk] at h1
   show gi U r+gi (V.take m) k≤_
   rw [gV k hk];exact h1
  ·show gi (V.take m) k≤0
   rw [gV k hk];exact (s8 k (by omega)).2
 have hw:=weak pot part
 exact ⟨by rw [List.length_map,s1],s2,by rw [List.length_take,s3];omega,part,tot,pot,by omega,s9,fun k hk=>by rw [gV k hk];exact s8 k (by omega)⟩
end Go.Hun
namespace Go.Proofs.YtdabojnmoejilaaGreatDoor
open Go Go.Am Go.Vm Go.Hun
attribute [local irreducible] Aa Ag Ak Ae BH AZ CW AO AL Az Vm.Done Di Bv
def uM (l:List (List Int)):Nat:=(gi l 0).length
theorem LH (e:TypeId) (l:List (List Int)) (hl:l.length<1000000):AZ env 69 [.lst e (cells l) l.length] (.p (.int .i64 (uM l:Int))):=by
 refine AZ.enter (AB (by decide)) Tryz.func69 rfl (by kernel_rfl) (by simp [Tryz.ntmps69]) ?_
 by_cases h:l.length=0
 ·have hl0:l=[]:=List.length_eq_zero_iff.1 h
  subst hl0
  repeat' (first|apply Ae.assoc|apply Ae.AA|apply Ae.BU|apply Ag.nil|apply Ag.one|(apply Aa.assign;rfl)|(apply Aa.move;rfl)|(apply Aa.int;rfl;rfl;rfl)|(apply Aa.BL;rfl;rfl)|(apply Ae.Bg;rfl))
  all_goals first|(exfalso;omega)|contradiction|(refine Done.ret rfl (.refl _) (by first|exact trivial|exact ⟨trivial,trivial,trivial⟩|exact ⟨trivial,trivial,trivial,trivial⟩) Aj.nil (Nat.zero_le _) (Nat.le_refl _) ⟨?_,rfl,rfl⟩;try rfl)
 ·repeat' (first|apply Ae.assoc|apply Ae.AA|apply Ae.Aq|apply Ae.ret|apply Ag.nil|apply Ag.one|(apply Aa.assign;rfl)|(apply Aa.move;rfl)|(apply Aa.int;rfl;rfl;rfl)|(apply Aa.Xh;rfl;rfl;rfl;omega;omega;rfl)|(apply Aa.load;rfl;rfl)|(apply Aa.BL;rfl;rfl)|(apply Ae.Af;rfl)|(intro _;try (exfalso;omega)))
  all_goals first|(exfalso;omega)|contradiction|(refine Done.ret rfl (.refl _) (by first|exact trivial|exact ⟨trivial,trivial,trivial⟩|exact ⟨trivial,trivial,trivial,trivial⟩) Aj.nil (Nat.zero_le _) (Nat.le_refl _) ⟨?_,rfl,rfl⟩;try rfl)
section
variable {costs:List (List Int)} {n m:Nat} {B:Int}
theorem wQ {i:Nat} {o:List Ix} {A:Nat→Nat} {t:Nat} {g:Gr} (h:fQ costs n m i o A t g) (hc:Iq costs n m B) (ho:qF m i o) (hi:i<n) (hr:Hun.own o (A t)≠0):gi (GI costs o m g).v 0+gi (GI costs o m g).u (i+1)=gi g.v 0+gi g.u (i+1):=by
 have hR:=JX h hc ho hi hr
 have hS:=Nw h hc ho hi hr
 have h0:gi (CP g) 0=true:=(hR.doneD 0).2 ⟨0,by omega,h.zero⟩
 have h1:=hS.u1 0 (Nat.zero_le _) h0
 have h2:=hS.v1 0 (Nat.zero_le _) h0
 rw [ho.zero] at h1
 show gi (Jd costs o m g).v 0+gi (Jd costs o m g).u (i+1)=_
 omega
theorem ZM {i:Nat} {s:jC} (h:qA costs n m i s) (hc:Iq costs n m B) (hi:i<n):∀ t,(∀ p,p<t→Hun.own (Jg s (i+1)) (MF costs m i s p)≠0)→gi (Eo costs (Jg s (i+1)) m (Qr m s) t).v 0+gi (Eo costs (Jg s (i+1)) m (Qr m s) t).u (i+1)=gi s.v 0
 |0,_=>by
  show gi s.v 0+gi s.u (i+1)=_
  rw [h.uz (i+1) (by omega)];omega
 |t+1,hp=>by
  have ih:=ZM h hc hi t fun p hp'=>hp p (by omega)
  have:=wQ (O4 h hc hi t fun p hp'=>hp p (by omega)) hc (YE h) hi (hp t (by omega))
  show gi (GI costs _ m _).v 0+gi (GI costs _ m _).u (i+1)=_
  omega
theorem aY (hc:Iq costs n m B):∀ i,i≤n→-(i*B)≤gi (Dh costs n m i).v 0∧gi (Dh costs n m i).v 0≤0
 |0,_=>by
  have:gi (Dh costs n m 0).v 0=0:=U1 0
  rw [this];simp
 |i+1,hi=>by
  have ih:=aY hc i (by omega)
  have h:=NY hc i (by omega)
  obtain ⟨a,b,c⟩:=ZK h hc (by omega)
  have h1:=ZM h hc (by omega) _ a
  have hg:=O4 h hc (by omega) _ a
  have h2:=hg.ule hc (YE h) (by have:=hc.nm;omega) (r:=i+1) (by omega) (Nat.le_refl _)
  have h3:=hg.UH (i+1) (by omega) (Nat.le_refl _)
  have e:(Dh costs n m (i+1)).v=(Eo costs (Jg (Dh costs n m i) (i+1)) m (Qr m (Dh costs n m i)) (Xj costs m (Dh costs n m i) (i+1))).v:=rfl
  rw [e]
  push_cast
  rw [Int.add_mul,Int.one_mul]
  omega
end
def lN (e:TypeId) (costs:List (List Int)) (n m k row a:Nat) (s:qx) (j:Nat):Vm.Frame :=
 [(14,.p (.int .i64 s.delta)),(15,.p (.int .i64 (s.next:Int))),(16,.p (.int .i64 ((j+1:Nat):Int))),(0,.p (.lst e (cells costs) n)),(2,.ref 0 0),(3,.p (.int .i64 (n:Int))),(4,.p (.int .i64 (m:Int))),(5,.vec 1 (n+1) 0 (n+1)),(6,.vec 2 (m+1) 0 (m+1)),(7,.vec 3 (m+1) 0 (m+1)),(8,.vec 4 (m+1) 0 (m+1)),(9,.p (.int .i64 ((k+1:Nat):Int))),(10,.p (.int .i64 (a:Int))),(11,.vec 6 (m+1) 0 (m+1)),(12,.vec 7 (m+1) 0 (m+1)),(13,.p (.int .i64 (row:Int)))]
def xE:Vm.HB:=.box 69 [.p (.val (.slice none 0 0)),.p (.int .i64 0),.p (.val (.slice none 0 0)),.p (.val (.slice none 0 0))]
def kF (n m:Nat) (u v:List Int) (o:List Ix) (done:List Bool) (s:qx):Vm.Heap :=
 [(4,.vec 3 (cells s.way) (m+1) false),(6,.vec 3 (cells s.least) (m+1) false),(7,.vec 4 (cells done) (m+1) false),(0,xE),(1,.vec 3 (cells u) (n+1) false),(2,.vec 3 (cells v) (m+1) false),(3,.vec 3 (cells o) (m+1) false)]
theorem pU {costs:List (List Int)} {n m k row a:Nat} {B:Int} {e:TypeId} {u v:List Int} {o:List Ix} {done:List Bool} {s0:qx} (hB:0≤B∧B≤1000000000000) (hl:costs.length=n) (hm:m≤1000) (hn:n≤1000) (hr:1≤row∧row≤n) (hrl:(gi costs (row-1)).length=m) (Uk:∀ j,0≤gi (gi costs (row-1)) j∧gi (gi costs (row-1)) j≤B)
 (hu:u.length=n+1) (hv:v.length=m+1) (hd9:done.length=m+1) (h1:s0.least.length=m+1) (h2:s0.way.length=m+1) (hu9:0≤gi u row∧gi u row≤B) (hv9:∀ j,1≤j→j≤m→-B≤gi v j∧gi v j≤0) :
 Ae env 0 (Zc Tryz.f72 14) (lN e costs n m k row a s0 0) (kF n m u v o done s0) 8 (fun ex L' H' nx'=>ex=.exit 4∧Xe L' H' nx' (lN e costs n m k row a (KC (gi costs (row-1)) (gi u row) v done a s0 m) m) (kF n m u v o done (KC (gi costs (row-1)) (gi u row) v done a s0 m)) 8):=by
 have hs1:EO .sub .i64 (row:Int) 1=some (.int .i64 ((row-1:Nat):Int)):=by
  simp only [EO]
  rw [wrap_i64 (by omega)]
  congr 2;omega
 show Ae env 0 (Code.loop _) _ _ _ _
 refine Ae.FD m (lN e costs n m k row a s0 0 |>.drop 3) (kF n m u v o done s0 |>.drop 2) (fun j _=>lN e costs n m k row a (KC (gi costs (row-1)) (gi u row) v done a s0 j) j) (fun j _=>kF n m u v o done (KC (gi costs (row-1)) (gi u row) v done a s0 j)) 8 (by omega) (Nat.le_refl _) ?_ ?_ ?_ ?_
 ·repeat (first|exact Ad.nil|refine Ad.same trivial rfl ?_|refine Ad.same (Ac rfl) rfl ?_|refine Ad.same ⟨trivial,Ac rfl,trivial⟩ rfl ?_|refine Ad.same ⟨trivial,Ac rfl,Ac rfl,trivial⟩ rfl ?_|refine Ad.same ⟨trivial,Ac rfl,Ac rfl,Ac rfl,trivial⟩ rfl ?_|refine Ad.same ⟨trivial,Ac rfl,Ac rfl,Ac rfl,Ac rfl,trivial⟩ rfl ?_|refine Ad.same ⟨trivial,trivial⟩ rfl ?_|refine Ad.cons trivial rfl (.of_eq (Au (by simp<;>omega))) ?_)
 ·repeat (first|exact Aj.nil|(refine Aj.cons (Ac rfl) ?_ rfl ?_ ?_;(first|exact HB.Ap rfl|exact AV.Ah _ _|(simp [HB.under,AV.under,PV.under]));(first|exact Bq.refl _|exact Bq.vec (Bl.refl _) (by simp))))
 ·intro j hj
  have hI:=SL (row:=gi costs (row-1)) (ur:=gi u row) (v:=v) (done:=done) (a:=a) (s0:=s0) h1 h2 j (by omega)
  have eS2:KC (gi costs (row-1)) (gi u row) v done a s0 (j+1)=KQ (gi costs (row-1)) (gi u row) v done a (KC (gi costs (row-1)) (gi u row) v done a s0 j) (j+1):=rfl
  rw [eS2]
  generalize KC (gi costs (row-1)) (gi u row) v done a s0 j=sc at *
  have n1:=hI.ll
  have n2:=hI.lw
  have hc1:=Uk j
  have hv1:=hv9 (j+1) (by omega) (by omega)
  obtain ⟨C,hC⟩:∃ C,C=TT (gi costs (row-1)) (gi u row) v (j+1):=⟨_,rfl⟩
  have hC':C=gi (gi costs (row-1)) j-gi u row-gi v (j+1):=hC
  have hCv:EO .sub .i64 (gi (gi costs (row-1)) j-gi u row) (gi v (j+1))=some (.int .i64 C):=by
   rw [hC']
   simp only [EO]
   rw [wrap_i64 (by omega)]
  have hs2:EO .sub .i64 ((j+1:Nat):Int) 1=some (.int .i64 (j:Int)):=by
   simp only [EO]
   rw [wrap_i64 (by omega)]
   congr 2;omega
  clear hI Uk hv9 eS2
  by_cases hd:gi done (j+1)=true
  ·have e9:KQ (gi costs (row-1)) (gi u row) v done a sc (j+1)=sc:=if_pos hd
   rw [e9]
   repeat' (first|apply Ae.assoc|apply Ae.AA|apply Ae.region|apply Ae.Aq|apply Ae.A8|apply Ae.Ai|apply AO.normal|apply AL.exit|apply Ag.nil|apply Ag.one|(apply Aa.Dl;rfl;rfl;(first|omega|(simp only [N8]<;>omega));exact congrArg (fun b=>some (FV.bool b)) (hd))|(apply Aa.assign;rfl)|(apply Aa.move;rfl)|(apply Aa.Bz;rfl;rfl;omega)|(apply Aa.int;rfl;rfl;rfl)|(apply Aa.Dc;rfl;rfl;rfl;rfl;omega)|(apply Ae.Bg;rfl)|(apply Ae.Af;rfl)|(intro _;try (exfalso;omega)))
   all_goals try (exfalso;omega)
   refine Az.normal ⟨by first|omega|decide,?_,?_⟩
   ·repeat (first|exact Ad.nil|refine Ad.same trivial rfl ?_|refine Ad.same (Ac rfl) rfl ?_|refine Ad.same ⟨trivial,Ac rfl,trivial⟩ rfl ?_|refine Ad.same ⟨trivial,Ac rfl,Ac rfl,trivial⟩ rfl ?_|refine Ad.same ⟨trivial,Ac rfl,Ac rfl,Ac rfl,trivial⟩ rfl ?_|refine Ad.same ⟨trivial,Ac rfl,Ac rfl,Ac rfl,Ac rfl,trivial⟩ rfl ?_|refine Ad.same ⟨trivial,trivial⟩ rfl ?_|refine Ad.cons trivial rfl (.of_eq (Au (by simp<;>omega))) ?_)
   ·repeat (first|exact Aj.nil|(refine Aj.cons (Ac rfl) ?_ rfl ?_ ?_;(first|exact HB.Ap rfl|exact AV.Ah _ _|(simp [HB.under,AV.under,PV.under]));(first|exact Bq.refl _|exact Bq.vec (Bl.refl _) (by simp))))
  ·have hd':gi done (j+1)=false:=by cases h:gi done (j+1)<;>simp_all
   by_cases h1:C<gi sc.least (j+1)
   ·have hld:gi (sc.least.set (j+1) C) (j+1)=C:=by rw [gs (by omega),if_pos rfl]
    by_cases h2:C<sc.delta
    ·have e9:KQ (gi costs (row-1)) (gi u row) v done a sc (j+1)=⟨sc.least.set (j+1) C,sc.way.set (j+1) ⟨a⟩,C,j+1⟩:=by
      unfold KQ
      rw [← hC,if_neg hd,if_pos h1,if_pos h2]
     rw [e9]
     repeat' (first|apply Ae.assoc|apply Ae.AA|apply Ae.BA|apply Ae.region|apply Ae.Aq|apply Ae.Ai|apply AO.normal|apply AL.normal|apply Ag.nil|apply Ak.nil|apply Ag.one|(apply Ak.bar;decide +kernel)|apply Ak.quiet|(apply Aa.Dl;rfl;rfl;(first|omega|(simp only [N8]<;>omega));exact congrArg (fun b=>some (FV.bool b)) (hd'))|(apply Aa.AU (l:=costs);rfl;rfl;rfl;omega;exact hl)|(apply Aa.int;rfl;rfl;exact hs1)|(apply Aa.int;rfl;rfl;exact hs2)|(apply Aa.int;rfl;rfl;exact hCv)|(apply Aa.DT (y:=C);rfl;rfl;rfl;trivial;(first|rfl|(refine congrArg (fun t=>[PV.p (FV.int _ t)]) ?_;first|omega|(simp only [Int.natCast_add,Int.natCast_mul,Int.natCast_ediv,Int.natCast_emod]<;>omega)));rfl;rfl;decide;(first|omega|(simp only [List.length_set]<;>omega)))|(apply Aa.DT (y:=(⟨a⟩:Ix));rfl;rfl;rfl;trivial;(first|rfl|(refine congrArg (fun t=>[PV.p (FV.int _ t)]) ?_;first|omega|(simp only [Int.natCast_add,Int.natCast_mul,Int.natCast_ediv,Int.natCast_emod]<;>omega)));rfl;rfl;decide;(first|omega|(simp only [List.length_set]<;>omega)))|(apply Aa.Dl;rfl;rfl;(first|omega|(simp only [List.length_set]<;>omega));exact congrArg (fun b=>some (FV.int .i64 b)) (hld))|(apply Aa.assign;rfl)|(apply Aa.move;rfl)|(apply Aa.Bz;rfl;rfl;omega)|(apply Aa.Ir;rfl;rfl;omega)|(apply Aa.int;rfl;rfl;rfl)|(apply Aa.AU;rfl;rfl;rfl;omega;rfl)|(apply Aa.Dl;rfl;rfl;omega;rfl)|(apply Aa.load;rfl;rfl)|(apply Aa.Dc;rfl;rfl;rfl;rfl;omega)|(apply Ae.Ar;rfl)|(apply Ae.Af;rfl)|(apply Ae.AY;rfl)|(intro _;try (exfalso;omega)))
     all_goals try (exfalso;omega)
     refine Az.normal ⟨by first|omega|decide,?_,?_⟩
     ·repeat (first|exact Ad.nil|refine Ad.same trivial rfl ?_|refine Ad.same (Ac rfl) rfl ?_|refine Ad.same ⟨trivial,Ac rfl,trivial⟩ rfl ?_|refine Ad.same ⟨trivial,Ac rfl,Ac rfl,trivial⟩ rfl ?_|refine Ad.same ⟨trivial,Ac rfl,Ac rfl,Ac rfl,trivial⟩ rfl ?_|refine Ad.same ⟨trivial,Ac rfl,Ac rfl,Ac rfl,Ac rfl,trivial⟩ rfl ?_|refine Ad.same ⟨trivial,trivial⟩ rfl ?_|refine Ad.cons trivial rfl (.of_eq (Au (by simp<;>omega))) ?_)
     ·repeat (first|exact Aj.nil|(refine Aj.cons (Ac rfl) ?_ rfl ?_ ?_;(first|exact HB.Ap rfl|exact AV.Ah _ _|(simp [HB.under,AV.under,PV.under]));(first|exact Bq.refl _|exact Bq.vec (Bl.refl _) (by simp))))
    ·have e9:KQ (gi costs (row-1)) (gi u row) v done a sc (j+1)=⟨sc.least.set (j+1) C,sc.way.set (j+1) ⟨a⟩,sc.delta,sc.next⟩:=by
      unfold KQ
      rw [← hC,if_neg hd,if_pos h1,if_neg h2]
     rw [e9]
     repeat' (first|apply Ae.assoc|apply Ae.AA|apply Ae.BA|apply Ae.region|apply Ae.Aq|apply Ae.Ai|apply AO.normal|apply AL.normal|apply Ae.skip|apply Ag.nil|apply Ak.nil|apply Ag.one|(apply Ak.bar;decide +kernel)|apply Ak.quiet|(apply Aa.Dl;rfl;rfl;(first|omega|(simp only [N8]<;>omega));exact congrArg (fun b=>some (FV.bool b)) (hd'))|(apply Aa.AU (l:=costs);rfl;rfl;rfl;omega;exact hl)|(apply Aa.int;rfl;rfl;exact hs1)|(apply Aa.int;rfl;rfl;exact hs2)|(apply Aa.int;rfl;rfl;exact hCv)|(apply Aa.DT (y:=C);rfl;rfl;rfl;trivial;(first|rfl|(refine congrArg (fun t=>[PV.p (FV.int _ t)]) ?_;first|omega|(simp only [Int.natCast_add,Int.natCast_mul,Int.natCast_ediv,Int.natCast_emod]<;>omega)));rfl;rfl;decide;(first|omega|(simp only [List.length_set]<;>omega)))|(apply Aa.DT (y:=(⟨a⟩:Ix));rfl;rfl;rfl;trivial;(first|rfl|(refine congrArg (fun t=>[PV.p (FV.int _ t)]) ?_;first|omega|(simp only [Int.natCast_add,Int.natCast_mul,Int.natCast_ediv,Int.natCast_emod]<;>omega)));rfl;rfl;decide;(first|omega|(simp only [List.length_set]<;>omega)))|(apply Aa.Dl;rfl;rfl;(first|omega|(simp only [List.length_set]<;>omega));exact congrArg (fun b=>some (FV.int .i64 b)) (hld))|(apply Aa.assign;rfl)|(apply Aa.move;rfl)|(apply Aa.Bz;rfl;rfl;omega)|(apply Aa.Ir;rfl;rfl;omega)|(apply Aa.int;rfl;rfl;rfl)|(apply Aa.AU;rfl;rfl;rfl;omega;rfl)|(apply Aa.Dl;rfl;rfl;omega;rfl)|(apply Aa.load;rfl;rfl)|(apply Aa.Dc;rfl;rfl;rfl;rfl;omega)|(apply Ae.Ar;rfl)|(apply Ae.Af;rfl)|(apply Ae.AY;rfl)|(intro _;try (exfalso;omega)))
     all_goals try (exfalso;omega)
     refine Az.normal ⟨by first|omega|decide,?_,?_⟩
     ·repeat (first|exact Ad.nil|refine Ad.same trivial rfl ?_|refine Ad.same (Ac rfl) rfl ?_|refine Ad.same ⟨trivial,Ac rfl,trivial⟩ rfl ?_|refine Ad.same ⟨trivial,Ac rfl,Ac rfl,trivial⟩ rfl ?_|refine Ad.same ⟨trivial,Ac rfl,Ac rfl,Ac rfl,trivial⟩ rfl ?_|refine Ad.same ⟨trivial,Ac rfl,Ac rfl,Ac rfl,Ac rfl,trivial⟩ rfl ?_|refine Ad.same ⟨trivial,trivial⟩ rfl ?_|refine Ad.cons trivial rfl (.of_eq (Au (by simp<;>omega))) ?_)
     ·repeat (first|exact Aj.nil|(refine Aj.cons (Ac rfl) ?_ rfl ?_ ?_;(first|exact HB.Ap rfl|exact AV.Ah _ _|(simp [HB.under,AV.under,PV.under]));(first|exact Bq.refl _|exact Bq.vec (Bl.refl _) (by simp))))
   ·by_cases h2:gi sc.least (j+1)<sc.delta
    ·have e9:KQ (gi costs (row-1)) (gi u row) v done a sc (j+1)=⟨sc.least,sc.way,gi sc.least (j+1),j+1⟩:=by
      unfold KQ
      rw [← hC,if_neg hd,if_neg h1,if_pos h2]
     rw [e9]
     repeat' (first|apply Ae.assoc|apply Ae.AA|apply Ae.BA|apply Ae.region|apply Ae.Aq|apply Ae.Ai|apply AO.normal|apply AL.normal|apply Ag.nil|apply Ak.nil|apply Ag.one|(apply Ak.bar;decide +kernel)|apply Ak.quiet|(apply Aa.Dl;rfl;rfl;(first|omega|(simp only [N8]<;>omega));exact congrArg (fun b=>some (FV.bool b)) (hd'))|(apply Aa.AU (l:=costs);rfl;rfl;rfl;omega;exact hl)|(apply Aa.int;rfl;rfl;exact hs1)|(apply Aa.int;rfl;rfl;exact hs2)|(apply Aa.int;rfl;rfl;exact hCv)|(apply Aa.assign;rfl)|(apply Aa.move;rfl)|(apply Aa.Bz;rfl;rfl;omega)|(apply Aa.Ir;rfl;rfl;omega)|(apply Aa.int;rfl;rfl;rfl)|(apply Aa.AU;rfl;rfl;rfl;omega;rfl)|(apply Aa.Dl;rfl;rfl;omega;rfl)|(apply Aa.load;rfl;rfl)|(apply Aa.Dc;rfl;rfl;rfl;rfl;omega)|(apply Ae.Ar;rfl)|(apply Ae.Af;rfl)|(apply Ae.AY;rfl)|(intro _;try (exfalso;omega)))
     all_goals try (exfalso;omega)
     refine Az.normal ⟨by first|omega|decide,?_,?_⟩
     ·repeat (first|exact Ad.nil|refine Ad.same trivial rfl ?_|refine Ad.same (Ac rfl) rfl ?_|refine Ad.same ⟨trivial,Ac rfl,trivial⟩ rfl ?_|refine Ad.same ⟨trivial,Ac rfl,Ac rfl,trivial⟩ rfl ?_|refine Ad.same ⟨trivial,Ac rfl,Ac rfl,Ac rfl,trivial⟩ rfl ?_|refine Ad.same ⟨trivial,Ac rfl,Ac rfl,Ac rfl,Ac rfl,trivial⟩ rfl ?_|refine Ad.same ⟨trivial,trivial⟩ rfl ?_|refine Ad.cons trivial rfl (.of_eq (Au (by simp<;>omega))) ?_)
     ·repeat (first|exact Aj.nil|(refine Aj.cons (Ac rfl) ?_ rfl ?_ ?_;(first|exact HB.Ap rfl|exact AV.Ah _ _|(simp [HB.under,AV.under,PV.under]));(first|exact Bq.refl _|exact Bq.vec (Bl.refl _) (by simp))))
    ·have e9:KQ (gi costs (row-1)) (gi u row) v done a sc (j+1)=sc:=by
      unfold KQ
      rw [← hC,if_neg hd,if_neg h1,if_neg h2]
     rw [e9]
     repeat' (first|apply Ae.assoc|apply Ae.AA|apply Ae.BA|apply Ae.region|apply Ae.Aq|apply Ae.Ai|apply AO.normal|apply AL.normal|apply Ae.skip|apply Ag.nil|apply Ak.nil|apply Ag.one|(apply Ak.bar;decide +kernel)|apply Ak.quiet|(apply Aa.Dl;rfl;rfl;(first|omega|(simp only [N8]<;>omega));exact congrArg (fun b=>some (FV.bool b)) (hd'))|(apply Aa.AU (l:=costs);rfl;rfl;rfl;omega;exact hl)|(apply Aa.int;rfl;rfl;exact hs1)|(apply Aa.int;rfl;rfl;exact hs2)|(apply Aa.int;rfl;rfl;exact hCv)|(apply Aa.assign;rfl)|(apply Aa.move;rfl)|(apply Aa.Bz;rfl;rfl;omega)|(apply Aa.Ir;rfl;rfl;omega)|(apply Aa.int;rfl;rfl;rfl)|(apply Aa.AU;rfl;rfl;rfl;omega;rfl)|(apply Aa.Dl;rfl;rfl;omega;rfl)|(apply Aa.load;rfl;rfl)|(apply Aa.Dc;rfl;rfl;rfl;rfl;omega)|(apply Ae.Ar;rfl)|(apply Ae.Af;rfl)|(apply Ae.AY;rfl)|(intro _;try (exfalso;omega)))
     all_goals try (exfalso;omega)
     refine Az.normal ⟨by first|omega|decide,?_,?_⟩
     ·repeat (first|exact Ad.nil|refine Ad.same trivial rfl ?_|refine Ad.same (Ac rfl) rfl ?_|refine Ad.same ⟨trivial,Ac rfl,trivial⟩ rfl ?_|refine Ad.same ⟨trivial,Ac rfl,Ac rfl,trivial⟩ rfl ?_|refine Ad.same ⟨trivial,Ac rfl,Ac rfl,Ac rfl,trivial⟩ rfl ?_|refine Ad.same ⟨trivial,Ac rfl,Ac rfl,Ac rfl,Ac rfl,trivial⟩ rfl ?_|refine Ad.same ⟨trivial,trivial⟩ rfl ?_|refine Ad.cons trivial rfl (.of_eq (Au (by simp<;>omega))) ?_)
     ·repeat (first|exact Aj.nil|(refine Aj.cons (Ac rfl) ?_ rfl ?_ ?_;(first|exact HB.Ap rfl|exact AV.Ah _ _|(simp [HB.under,AV.under,PV.under]));(first|exact Bq.refl _|exact Bq.vec (Bl.refl _) (by simp))))
 ·repeat' (first|apply Ae.assoc|apply Ae.AA|apply Ae.A8|apply Az.exit|apply Ag.nil|apply Ag.one|(apply Aa.move;rfl)|(apply Aa.int;rfl;rfl;rfl)|(apply Ae.Af;rfl)|(intro _;try (exfalso;omega)))
  all_goals try (exfalso;omega)
  refine ⟨rfl,⟨Nat.le_refl _,?_,?_⟩⟩
  ·repeat (first|exact Ad.nil|refine Ad.same trivial rfl ?_|refine Ad.same (Ac rfl) rfl ?_|refine Ad.same ⟨trivial,Ac rfl,trivial⟩ rfl ?_|refine Ad.same ⟨trivial,Ac rfl,Ac rfl,trivial⟩ rfl ?_|refine Ad.same ⟨trivial,Ac rfl,Ac rfl,Ac rfl,trivial⟩ rfl ?_|refine Ad.same ⟨trivial,Ac rfl,Ac rfl,Ac rfl,Ac rfl,trivial⟩ rfl ?_|refine Ad.same ⟨trivial,trivial⟩ rfl ?_|refine Ad.cons trivial rfl (.of_eq (Au (by simp<;>omega))) ?_)
  ·repeat (first|exact Aj.nil|(refine Aj.cons (Ac rfl) ?_ rfl ?_ ?_;(first|exact HB.Ap rfl|exact AV.Ah _ _|(simp [HB.under,AV.under,PV.under]));(first|exact Bq.refl _|exact Bq.vec (Bl.refl _) (by simp))))
end Go.Proofs.YtdabojnmoejilaaGreatDoor
namespace Go.Proofs.YtdabojnmoejilaaGreatDoor
open Go Go.Am Go.Vm Go.Hun
attribute [local irreducible] Aa Ag Ak Ae BH AZ CW AO AL Az Vm.Done Di Bv
def Zi (e:TypeId) (costs:List (List Int)) (n m k:Nat) (d:Int) (nxt:Nat) (j:Nat):Vm.Frame :=
 [(120,.p (.int .i64 (j:Int))),(0,.p (.lst e (cells costs) n)),(2,.ref 0 0),(3,.p (.int .i64 (n:Int))),(4,.p (.int .i64 (m:Int))),(5,.vec 1 (n+1) 0 (n+1)),(6,.vec 2 (m+1) 0 (m+1)),(7,.vec 3 (m+1) 0 (m+1)),(8,.vec 4 (m+1) 0 (m+1)),(9,.p (.int .i64 ((k+1:Nat):Int))),(11,.vec 6 (m+1) 0 (m+1)),(12,.vec 7 (m+1) 0 (m+1)),(14,.p (.int .i64 d)),(15,.p (.int .i64 (nxt:Int))),(119,.p (.int .i64 ((m+1:Nat):Int)))]
def YP (n m:Nat) (o way:List Ix) (done:List Bool) (t:xu):Vm.Heap :=
 [(1,.vec 3 (cells t.u) (n+1) false),(2,.vec 3 (cells t.v) (m+1) false),(6,.vec 3 (cells t.least) (m+1) false),(0,xE),(3,.vec 3 (cells o) (m+1) false),(4,.vec 3 (cells way) (m+1) false),(7,.vec 4 (cells done) (m+1) false)]
theorem jG {costs:List (List Int)} {n m k nxt:Nat} {d:Int} {e:TypeId} {o way:List Ix} {done:List Bool} {t0:xu} (hd:0≤d∧d≤1000000000000) (hm:m≤1000) (hn:n≤1000) (hu:t0.u.length=n+1) (hv:t0.v.length=m+1) (hl:t0.least.length=m+1) (ho:o.length=m+1) (hD:done.length=m+1)
 (h1:∀ j,j≤m→gi done j=true→(gi o j).n<t0.u.length) (h2:∀ j i,j≤m→i≤m→gi done j=true→gi done i=true→(gi o j).n=(gi o i).n→j=i)
 (hub:∀ j,j≤m→gi done j=true→0≤gi t0.u (gi o j).n∧gi t0.u (gi o j).n≤1000000000000) (hvb:∀ j,j≤m→-2000000000000000≤gi t0.v j∧gi t0.v j≤0) (hlb:∀ j,j≤m→gi done j=false→0≤gi t0.least j∧gi t0.least j≤far) :
 Ae env 0 (Zc Tryz.f72 23) (Zi e costs n m k d nxt 0) (YP n m o way done t0) 8 (fun ex L' H' nx'=>ex=.exit 6∧Xe L' H' nx' (Zi e costs n m k d nxt (m+1)) (YP n m o way done (Io o done d t0 (m+1))) 8):=by
 have hf:far=1152921504606846976:=rfl
 show Ae env 0 (Code.loop _) _ _ _ _
 refine Ae.FD (m+1) (Zi e costs n m k d nxt 0 |>.drop 1) (YP n m o way done t0 |>.drop 3) (fun j _=>Zi e costs n m k d nxt j) (fun j _=>YP n m o way done (Io o done d t0 j)) 8 (by omega) (Nat.le_refl _) ?_ ?_ ?_ ?_
 ·repeat (first|exact Ad.nil|refine Ad.same trivial rfl ?_|refine Ad.same (Ac rfl) rfl ?_|refine Ad.same ⟨trivial,Ac rfl,trivial⟩ rfl ?_|refine Ad.same ⟨trivial,Ac rfl,Ac rfl,trivial⟩ rfl ?_|refine Ad.same ⟨trivial,Ac rfl,Ac rfl,Ac rfl,trivial⟩ rfl ?_|refine Ad.same ⟨trivial,Ac rfl,Ac rfl,Ac rfl,Ac rfl,trivial⟩ rfl ?_|refine Ad.same ⟨trivial,trivial⟩ rfl ?_|refine Ad.cons trivial rfl (.of_eq (Au (by simp<;>omega))) ?_)
 ·repeat (first|exact Aj.nil|(refine Aj.cons (Ac rfl) ?_ rfl ?_ ?_;(first|exact HB.Ap rfl|exact AV.Ah _ _|(simp [HB.under,AV.under,PV.under]));(first|exact Bq.refl _|exact Bq.vec (Bl.refl _) (by simp))))
 ·intro j hj
  have hI:=Go.Hun.JF (owner:=o) (done:=done) (delta:=d) (t:=t0) (m:=m) hv hl h1 h2 j (by omega)
  have eS2:Io o done d t0 (j+1)=Rl o done d (Io o done d t0 j) j:=rfl
  rw [eS2]
  generalize Io o done d t0 j=sc at *
  have n1:=hI.lu
  have n2:=hI.lv
  have n3:=hI.ll
  have hv1:=hvb j (by omega)
  have ev:gi sc.v j=gi t0.v j:=by rw [hI.v,if_neg (by omega)]
  by_cases hdj:gi done j=true
  ·have hu1:=hub j (by omega) hdj
   have hlt:=h1 j (by omega) hdj
   have eu:gi sc.u (gi o j).n=gi t0.u (gi o j).n:=hI.u0 _ fun i hi hi2 e=>by have:=h2 i j (by omega) (by omega) hi2 hdj e;omega
   have e9:Rl o done d sc j=⟨sc.u.set (gi o j).n (gi sc.u (gi o j).n+d),sc.v.set j (gi sc.v j-d),sc.least⟩:=if_pos hdj
   rw [e9]
   clear hI hub hvb hlb h1 h2 eS2
   repeat' (first|apply Ae.AA|apply Ae.region|apply Ae.Aq|apply Ae.Ai|apply AO.normal|apply AL.normal|apply Ag.nil|apply Ag.one|(apply Aa.Dl;rfl;rfl;(first|omega|(simp only [N8]<;>omega));exact congrArg (fun b=>some (FV.bool b)) (hdj))|(apply Aa.DT (y:=(gi sc.u (gi o j).n+d));rfl;rfl;rfl;trivial;(first|rfl|(refine congrArg (fun t=>[PV.p (FV.int _ t)]) ?_;first|omega|(simp only [Int.natCast_add,Int.natCast_mul,Int.natCast_ediv,Int.natCast_emod]<;>omega)));rfl;rfl;decide;(first|omega|(simp only [List.length_set]<;>omega)))|(apply Aa.DT (y:=(gi sc.v j-d));rfl;rfl;rfl;trivial;(first|rfl|(refine congrArg (fun t=>[PV.p (FV.int _ t)]) ?_;first|omega|(simp only [Int.natCast_add,Int.natCast_mul,Int.natCast_ediv,Int.natCast_emod]<;>omega)));rfl;rfl;decide;(first|omega|(simp only [List.length_set]<;>omega)))|(apply Aa.assign;rfl)|(apply Aa.move;rfl)|(apply Aa.Bz;rfl;rfl;omega)|(apply Aa.Ir;rfl;rfl;omega)|(apply Aa.int;rfl;rfl;rfl)|(apply Aa.Dl;rfl;rfl;omega;rfl)|(apply Aa.Dc;rfl;rfl;rfl;rfl;omega)|(apply Ae.Af;rfl)|(apply Ae.cond_true;rfl)|(intro _;try (exfalso;omega)))
   all_goals try (exfalso;omega)
   refine Az.normal ⟨by first|omega|decide,?_,?_⟩
   ·repeat (first|exact Ad.nil|refine Ad.same trivial rfl ?_|refine Ad.same (Ac rfl) rfl ?_|refine Ad.same ⟨trivial,Ac rfl,trivial⟩ rfl ?_|refine Ad.same ⟨trivial,Ac rfl,Ac rfl,trivial⟩ rfl ?_|refine Ad.same ⟨trivial,Ac rfl,Ac rfl,Ac rfl,trivial⟩ rfl ?_|refine Ad.same ⟨trivial,Ac rfl,Ac rfl,Ac rfl,Ac rfl,trivial⟩ rfl ?_|refine Ad.same ⟨trivial,trivial⟩ rfl ?_|refine Ad.cons trivial rfl (.of_eq (Au (by simp<;>omega))) ?_)
   ·repeat (first|exact Aj.nil|(refine Aj.cons (Ac rfl) ?_ rfl ?_ ?_;(first|exact HB.Ap rfl|exact AV.Ah _ _|(simp [HB.under,AV.under,PV.under]));(first|exact Bq.refl _|exact Bq.vec (Bl.refl _) (by simp))))
  ·have hdj':gi done j=false:=by cases h:gi done j<;>simp_all
   have hl1:=hlb j (by omega) hdj'
   have el:gi sc.least j=gi t0.least j:=by rw [hI.least,if_neg (by omega)]
   have e9:Rl o done d sc j=⟨sc.u,sc.v,sc.least.set j (gi sc.least j-d)⟩:=if_neg hdj
   rw [e9]
   clear hI hub hvb hlb h1 h2 eS2
   repeat' (first|apply Ae.AA|apply Ae.region|apply Ae.Aq|apply Ae.Ai|apply AO.normal|apply AL.normal|apply Ag.nil|apply Ag.one|(apply Aa.Dl;rfl;rfl;(first|omega|(simp only [N8]<;>omega));exact congrArg (fun b=>some (FV.bool b)) (hdj'))|(apply Aa.DT (y:=(gi sc.least j-d));rfl;rfl;rfl;trivial;(first|rfl|(refine congrArg (fun t=>[PV.p (FV.int _ t)]) ?_;first|omega|(simp only [Int.natCast_add,Int.natCast_mul,Int.natCast_ediv,Int.natCast_emod]<;>omega)));rfl;rfl;decide;(first|omega|(simp only [List.length_set]<;>omega)))|(apply Aa.assign;rfl)|(apply Aa.move;rfl)|(apply Aa.Bz;rfl;rfl;omega)|(apply Aa.Ir;rfl;rfl;omega)|(apply Aa.int;rfl;rfl;rfl)|(apply Aa.Dl;rfl;rfl;omega;rfl)|(apply Aa.Dc;rfl;rfl;rfl;rfl;omega)|(apply Ae.Af;rfl)|(apply Ae.cond_false;rfl)|(intro _;try (exfalso;omega)))
   all_goals try (exfalso;omega)
   refine Az.normal ⟨by first|omega|decide,?_,?_⟩
   ·repeat (first|exact Ad.nil|refine Ad.same trivial rfl ?_|refine Ad.same (Ac rfl) rfl ?_|refine Ad.same ⟨trivial,Ac rfl,trivial⟩ rfl ?_|refine Ad.same ⟨trivial,Ac rfl,Ac rfl,trivial⟩ rfl ?_|refine Ad.same ⟨trivial,Ac rfl,Ac rfl,Ac rfl,trivial⟩ rfl ?_|refine Ad.same ⟨trivial,Ac rfl,Ac rfl,Ac rfl,Ac rfl,trivial⟩ rfl ?_|refine Ad.same ⟨trivial,trivial⟩ rfl ?_|refine Ad.cons trivial rfl (.of_eq (Au (by simp<;>omega))) ?_)
   ·repeat (first|exact Aj.nil|(refine Aj.cons (Ac rfl) ?_ rfl ?_ ?_;(first|exact HB.Ap rfl|exact AV.Ah _ _|(simp [HB.under,AV.under,PV.under]));(first|exact Bq.refl _|exact Bq.vec (Bl.refl _) (by simp))))
 ·repeat' (first|apply Ae.AA|apply Ae.A8|apply Az.exit|apply Ag.nil|apply Ag.one|(apply Aa.int;rfl;rfl;rfl)|(apply Ae.Af;rfl)|(intro _;try (exfalso;omega)))
  all_goals try (exfalso;omega)
  refine ⟨rfl,⟨Nat.le_refl _,?_,?_⟩⟩
  ·repeat (first|exact Ad.nil|refine Ad.same trivial rfl ?_|refine Ad.same (Ac rfl) rfl ?_|refine Ad.same ⟨trivial,Ac rfl,trivial⟩ rfl ?_|refine Ad.same ⟨trivial,Ac rfl,Ac rfl,trivial⟩ rfl ?_|refine Ad.same ⟨trivial,Ac rfl,Ac rfl,Ac rfl,trivial⟩ rfl ?_|refine Ad.same ⟨trivial,Ac rfl,Ac rfl,Ac rfl,Ac rfl,trivial⟩ rfl ?_|refine Ad.same ⟨trivial,trivial⟩ rfl ?_|refine Ad.cons trivial rfl (.of_eq (Au (by simp<;>omega))) ?_)
  ·repeat (first|exact Aj.nil|(refine Aj.cons (Ac rfl) ?_ rfl ?_ ?_;(first|exact HB.Ap rfl|exact AV.Ah _ _|(simp [HB.under,AV.under,PV.under]));(first|exact Bq.refl _|exact Bq.vec (Bl.refl _) (by simp))))
def yc (e:TypeId) (costs:List (List Int)) (n m k:Nat) (a:Nat):Vm.Frame :=
 [(10,.p (.int .i64 (a:Int))),(0,.p (.lst e (cells costs) n)),(2,.ref 0 0),(3,.p (.int .i64 (n:Int))),(4,.p (.int .i64 (m:Int))),(5,.vec 1 (n+1) 0 (n+1)),(6,.vec 2 (m+1) 0 (m+1)),(7,.vec 3 (m+1) 0 (m+1)),(8,.vec 4 (m+1) 0 (m+1)),(9,.p (.int .i64 ((k+1:Nat):Int)))]
def xP (n m:Nat) (u v:List Int) (way o:List Ix):Vm.Heap :=
 [(3,.vec 3 (cells o) (m+1) false),(0,xE),(1,.vec 3 (cells u) (n+1) false),(2,.vec 3 (cells v) (m+1) false),(4,.vec 3 (cells way) (m+1) false)]
theorem vV {costs:List (List Int)} {n m k U:Nat} {e:TypeId} {u v:List Int} {way:List Ix} {a:Aug} (hm:m≤1000) (hw:way.length=m+1) (hlen:∀ t,t≤U→(GX way a t).owner.length=m+1) (hgo:∀ t,t<U→(GX way a t).at_≠0) (hle:∀ t,t≤U→(GX way a t).at_≤m) (hfin:(GX way a U).at_=0) :
 Ae env 0 (Zc Tryz.f72 31) (yc e costs n m k a.at_) (xP n m u v way a.owner) 5 (fun ex L' H' nx'=>ex=.exit 8∧Xe L' H' nx' (yc e costs n m k 0) (xP n m u v way (GX way a U).owner) 5):=by
 show Ae env 0 (Code.loop _) _ _ _ _
 refine Ae.FD U (yc e costs n m k a.at_ |>.drop 1) (xP n m u v way a.owner |>.drop 1) (fun t _=>yc e costs n m k (GX way a t).at_) (fun t _=>xP n m u v way (GX way a t).owner) 5 (by omega) (Nat.le_refl _) ?_ ?_ ?_ ?_
 ·repeat (first|exact Ad.nil|refine Ad.same trivial rfl ?_|refine Ad.same (Ac rfl) rfl ?_|refine Ad.same ⟨trivial,Ac rfl,trivial⟩ rfl ?_|refine Ad.same ⟨trivial,Ac rfl,Ac rfl,trivial⟩ rfl ?_|refine Ad.same ⟨trivial,Ac rfl,Ac rfl,Ac rfl,trivial⟩ rfl ?_|refine Ad.same ⟨trivial,Ac rfl,Ac rfl,Ac rfl,Ac rfl,trivial⟩ rfl ?_|refine Ad.same ⟨trivial,trivial⟩ rfl ?_|refine Ad.cons trivial rfl (.of_eq (Au (by simp<;>omega))) ?_)
 ·repeat (first|exact Aj.nil|(refine Aj.cons (Ac rfl) ?_ rfl ?_ ?_;(first|exact HB.Ap rfl|exact AV.Ah _ _|(simp [HB.under,AV.under,PV.under]));(first|exact Bq.refl _|exact Bq.vec (Bl.refl _) (by simp))))
 ·intro t ht
  have h1:=hlen t (by omega)
  have h2:=hgo t ht
  have h3:=hle t (by omega)
  have h4:=hle (t+1) (by omega)
  have e1:GX way a (t+1)=⟨(GX way a t).owner.set (GX way a t).at_ (gi (GX way a t).owner (gi way (GX way a t).at_).n),(gi way (GX way a t).at_).n⟩:=rfl
  rw [e1] at h4 ⊢
  have h4:(gi way (GX way a t).at_).n≤m:=h4
  generalize GX way a t=x at *
  repeat' (first|apply Ae.assoc|apply Ae.AA|apply Ae.region|apply Ae.Aq|apply AL.normal|apply Ae.IE|apply Ag.nil|apply Ag.one|(apply Aa.DT (y:=(gi x.owner (gi way x.at_).n));rfl;rfl;rfl;trivial;(first|rfl|(refine congrArg (fun t=>[PV.p (FV.int _ t)]) ?_;first|omega|(simp only [Int.natCast_add,Int.natCast_mul,Int.natCast_ediv,Int.natCast_emod]<;>omega)));rfl;rfl;decide;(first|omega|(simp only [List.length_set]<;>omega)))|(apply Aa.assign;rfl)|(apply Aa.move;rfl)|(apply Aa.int;rfl;rfl;rfl)|(apply Aa.Dl;rfl;rfl;omega;rfl)|(apply Aa.Dc;rfl;rfl;rfl;rfl;omega)|(apply Ae.Af;rfl)|(intro _;try (exfalso;omega)))
  all_goals try (exfalso;omega)
  refine Az.normal ⟨by first|omega|decide,?_,?_⟩
  ·repeat (first|exact Ad.nil|refine Ad.same trivial rfl ?_|refine Ad.same (Ac rfl) rfl ?_|refine Ad.same ⟨trivial,Ac rfl,trivial⟩ rfl ?_|refine Ad.same ⟨trivial,Ac rfl,Ac rfl,trivial⟩ rfl ?_|refine Ad.same ⟨trivial,Ac rfl,Ac rfl,Ac rfl,trivial⟩ rfl ?_|refine Ad.same ⟨trivial,Ac rfl,Ac rfl,Ac rfl,Ac rfl,trivial⟩ rfl ?_|refine Ad.same ⟨trivial,trivial⟩ rfl ?_|refine Ad.cons trivial rfl (.of_eq (Au (by simp<;>omega))) ?_)
  ·repeat (first|exact Aj.nil|(refine Aj.cons (Ac rfl) ?_ rfl ?_ ?_;(first|exact HB.Ap rfl|exact AV.Ah _ _|(simp [HB.under,AV.under,PV.under]));(first|exact Bq.refl _|exact Bq.vec (Bl.refl _) (by simp))))
 ·rw [hfin]
  repeat' (first|apply Ae.assoc|apply Ae.AA|apply Ae.A8|apply Az.exit|apply Ag.nil|apply Ag.one|(apply Aa.move;rfl)|(apply Aa.int;rfl;rfl;rfl)|(apply Ae.Ar;rfl))
  all_goals try (exfalso;omega)
  refine ⟨rfl,⟨Nat.le_refl _,?_,?_⟩⟩
  ·repeat (first|exact Ad.nil|refine Ad.same trivial rfl ?_|refine Ad.same (Ac rfl) rfl ?_|refine Ad.same ⟨trivial,Ac rfl,trivial⟩ rfl ?_|refine Ad.same ⟨trivial,Ac rfl,Ac rfl,trivial⟩ rfl ?_|refine Ad.same ⟨trivial,Ac rfl,Ac rfl,Ac rfl,trivial⟩ rfl ?_|refine Ad.same ⟨trivial,Ac rfl,Ac rfl,Ac rfl,Ac rfl,trivial⟩ rfl ?_|refine Ad.same ⟨trivial,trivial⟩ rfl ?_|refine Ad.cons trivial rfl (.of_eq (Au (by simp<;>omega))) ?_)
  ·repeat (first|exact Aj.nil|(refine Aj.cons (Ac rfl) ?_ rfl ?_ ?_;(first|exact HB.Ap rfl|exact AV.Ah _ _|(simp [HB.under,AV.under,PV.under]));(first|exact Bq.refl _|exact Bq.vec (Bl.refl _) (by simp))))
def xH (e:TypeId) (costs:List (List Int)) (n m:Nat) (j:Nat):Vm.Frame :=
 [(20,.p (.int .i64 ((j+1:Nat):Int))),(0,.p (.lst e (cells costs) n)),(2,.ref 0 0),(4,.p (.int .i64 (m:Int))),(7,.vec 3 (m+1) 0 (m+1)),(19,.ref 6 0)]
def y8 (n m:Nat) (U V:List Int) (o:List Ix) (x:Out):Vm.Heap :=
 [(5,.vec 3 (cells x.cols) n false),(6,.box 69 [.vec 5 n 0 n,.p (.int .i64 x.total),.p (.lst 3 (cells U) n),.p (.lst 3 (cells V) m)]),(0,xE),(3,.vec 3 (cells o) (m+1) false)]
theorem vS {costs:List (List Int)} {n m:Nat} {e:TypeId} {U V:List Int} {o:List Ix} (hm:m≤1000) (hn:n≤1000) (hl:costs.length=n) (hrow:∀ r,r<n→(gi costs r).length=m) (ho:o.length=m+1) (hle:∀ j,1≤j→j≤m→(gi o j).n≤n) (hlen:∀ j,j≤m→(KI costs o n j).cols.length=n)
 (Uk:∀ r j,0≤gi (gi costs r) j∧gi (gi costs r) j≤1000000000000) (htot:∀ j,j≤m→0≤(KI costs o n j).total∧(KI costs o n j).total≤1000000000000000) :
 Ae env 0 (Zc Tryz.f72 36) (xH e costs n m 0) (y8 n m U V o (KI costs o n 0)) 7 (fun ex L' H' nx'=>ex=.exit 10∧Xe L' H' nx' (xH e costs n m m) (y8 n m U V o (KI costs o n m)) 7):=by
 show Ae env 0 (Code.loop _) _ _ _ _
 refine Ae.FD m (xH e costs n m 0 |>.drop 1) (y8 n m U V o (KI costs o n 0) |>.drop 2) (fun j _=>xH e costs n m j) (fun j _=>y8 n m U V o (KI costs o n j)) 7 (by omega) (Nat.le_refl _) ?_ ?_ ?_ ?_
 ·repeat (first|exact Ad.nil|refine Ad.same trivial rfl ?_|refine Ad.same (Ac rfl) rfl ?_|refine Ad.same ⟨trivial,Ac rfl,trivial⟩ rfl ?_|refine Ad.same ⟨trivial,Ac rfl,Ac rfl,trivial⟩ rfl ?_|refine Ad.same ⟨trivial,Ac rfl,Ac rfl,Ac rfl,trivial⟩ rfl ?_|refine Ad.same ⟨trivial,Ac rfl,Ac rfl,Ac rfl,Ac rfl,trivial⟩ rfl ?_|refine Ad.same ⟨trivial,trivial⟩ rfl ?_|refine Ad.cons trivial rfl (.of_eq (Au (by simp<;>omega))) ?_)
 ·repeat (first|exact Aj.nil|(refine Aj.cons (Ac rfl) ?_ rfl ?_ ?_;(first|exact HB.Ap rfl|exact AV.Ah _ _|(simp [HB.under,AV.under,PV.under]));(first|exact Bq.refl _|exact Bq.vec (Bl.refl _) (by simp))))
 ·intro j hj
  have h1:=hlen j (by omega)
  have h2:=htot j (by omega)
  have h3:=hle (j+1) (by omega) (by omega)
  have e1:KI costs o n (j+1)=nP costs o (KI costs o n j) (j+1):=rfl
  rw [e1]
  generalize KI costs o n j=x at *
  by_cases hp:0<(gi o (j+1)).n
  ·have e9:nP costs o x (j+1)=⟨x.cols.set ((gi o (j+1)).n-1) (((j+1:Nat):Int)-1),x.total+gi (gi costs ((gi o (j+1)).n-1)) j⟩:=if_pos hp
   rw [e9]
   have hrl:=hrow ((gi o (j+1)).n-1) (by omega)
   have hc1:=Uk ((gi o (j+1)).n-1) j
   have hs1:EO .sub .i64 ((gi o (j+1)).n:Int) 1=some (.int .i64 (((gi o (j+1)).n-1:Nat):Int)):=by
    simp only [EO]
    rw [wrap_i64 (by omega)]
    congr 2;omega
   have hs2:EO .sub .i64 ((j+1:Nat):Int) 1=some (.int .i64 (j:Int)):=by
    simp only [EO]
    rw [wrap_i64 (by omega)]
    congr 2;omega
   clear Uk htot hlen hle e1
   repeat' (first|apply Ae.assoc|apply Ae.AA|apply Ae.region|apply Ae.EZ|apply Ae.Aq|apply Ae.Ai|apply AO.normal|apply AL.normal|apply Ag.nil|apply Ak.nil|apply Ag.one|(apply Ak.bar;decide +kernel)|apply Ak.quiet|(apply Aa.AU (l:=costs);rfl;rfl;rfl;omega;exact hl)|(apply Aa.int;rfl;rfl;exact hs1)|(apply Aa.int;rfl;rfl;exact hs2)|(apply Aa.DT (y:=(((j+1:Nat):Int)-1));rfl;rfl;rfl;trivial;(first|rfl|(refine congrArg (fun t=>[PV.p (FV.int _ t)]) ?_;first|omega|(simp only [Int.natCast_add,Int.natCast_mul,Int.natCast_ediv,Int.natCast_emod]<;>omega)));rfl;rfl;decide;(first|omega|(simp only [List.length_set]<;>omega)))|(apply Aa.assign;rfl)|(apply Aa.move;rfl)|(apply Aa.Bz;rfl;rfl;omega)|(apply Aa.int;rfl;rfl;rfl)|(apply Aa.AU;rfl;rfl;rfl;omega;rfl)|(apply Aa.Dl;rfl;rfl;omega;rfl)|(apply Aa.load;rfl;rfl)|(apply Aa.AP;rfl;rfl;rfl)|(apply Aa.Bj;rfl;rfl;rfl;trivial;rfl;rfl;exact Ac rfl;exact le_dec rfl)|(apply Aa.Dc;rfl;rfl;rfl;rfl;omega)|(apply Ae.Af;rfl)|(apply Ae.AY;rfl)|(intro _;try (exfalso;omega)))
   all_goals try (exfalso;omega)
   refine Az.normal ⟨by first|omega|decide,?_,?_⟩
   ·repeat (first|exact Ad.nil|refine Ad.same trivial rfl ?_|refine Ad.same (Ac rfl) rfl ?_|refine Ad.same ⟨trivial,Ac rfl,trivial⟩ rfl ?_|refine Ad.same ⟨trivial,Ac rfl,Ac rfl,trivial⟩ rfl ?_|refine Ad.same ⟨trivial,Ac rfl,Ac rfl,Ac rfl,trivial⟩ rfl ?_|refine Ad.same ⟨trivial,Ac rfl,Ac rfl,Ac rfl,Ac rfl,trivial⟩ rfl ?_|refine Ad.same ⟨trivial,trivial⟩ rfl ?_|refine Ad.cons trivial rfl (.of_eq (Au (by simp<;>omega))) ?_)
   ·repeat (first|exact Aj.nil|(refine Aj.cons (Ac rfl) ?_ rfl ?_ ?_;(first|exact HB.Ap rfl|exact AV.Ah _ _|(simp [HB.under,AV.under,PV.under]));(first|exact Bq.refl _|exact Bq.vec (Bl.refl _) (by simp))))
  ·have e9:nP costs o x (j+1)=x:=if_neg hp
   rw [e9]
   clear Uk htot hlen hle e1
   repeat' (first|apply Ae.assoc|apply Ae.AA|apply Ae.region|apply Ae.Aq|apply Ae.Ai|apply AO.normal|apply AL.normal|apply Ae.skip|apply Ag.nil|apply Ag.one|(apply Aa.assign;rfl)|(apply Aa.move;rfl)|(apply Aa.Bz;rfl;rfl;omega)|(apply Aa.int;rfl;rfl;rfl)|(apply Aa.Dl;rfl;rfl;omega;rfl)|(apply Aa.Dc;rfl;rfl;rfl;rfl;omega)|(apply Ae.Af;rfl)|(apply Ae.AY;rfl)|(intro _;try (exfalso;omega)))
   all_goals try (exfalso;omega)
   refine Az.normal ⟨by first|omega|decide,?_,?_⟩
   ·repeat (first|exact Ad.nil|refine Ad.same trivial rfl ?_|refine Ad.same (Ac rfl) rfl ?_|refine Ad.same ⟨trivial,Ac rfl,trivial⟩ rfl ?_|refine Ad.same ⟨trivial,Ac rfl,Ac rfl,trivial⟩ rfl ?_|refine Ad.same ⟨trivial,Ac rfl,Ac rfl,Ac rfl,trivial⟩ rfl ?_|refine Ad.same ⟨trivial,Ac rfl,Ac rfl,Ac rfl,Ac rfl,trivial⟩ rfl ?_|refine Ad.same ⟨trivial,trivial⟩ rfl ?_|refine Ad.cons trivial rfl (.of_eq (Au (by simp<;>omega))) ?_)
   ·repeat (first|exact Aj.nil|(refine Aj.cons (Ac rfl) ?_ rfl ?_ ?_;(first|exact HB.Ap rfl|exact AV.Ah _ _|(simp [HB.under,AV.under,PV.under]));(first|exact Bq.refl _|exact Bq.vec (Bl.refl _) (by simp))))
 ·repeat' (first|apply Ae.assoc|apply Ae.AA|apply Ae.A8|apply Az.exit|apply Ag.nil|apply Ag.one|(apply Aa.move;rfl)|(apply Aa.int;rfl;rfl;rfl)|(apply Ae.Af;rfl)|(intro _;try (exfalso;omega)))
  all_goals try (exfalso;omega)
  refine ⟨rfl,⟨Nat.le_refl _,?_,?_⟩⟩
  ·repeat (first|exact Ad.nil|refine Ad.same trivial rfl ?_|refine Ad.same (Ac rfl) rfl ?_|refine Ad.same ⟨trivial,Ac rfl,trivial⟩ rfl ?_|refine Ad.same ⟨trivial,Ac rfl,Ac rfl,trivial⟩ rfl ?_|refine Ad.same ⟨trivial,Ac rfl,Ac rfl,Ac rfl,trivial⟩ rfl ?_|refine Ad.same ⟨trivial,Ac rfl,Ac rfl,Ac rfl,Ac rfl,trivial⟩ rfl ?_|refine Ad.same ⟨trivial,trivial⟩ rfl ?_|refine Ad.cons trivial rfl (.of_eq (Au (by simp<;>omega))) ?_)
  ·repeat (first|exact Aj.nil|(refine Aj.cons (Ac rfl) ?_ rfl ?_ ?_;(first|exact HB.Ap rfl|exact AV.Ah _ _|(simp [HB.under,AV.under,PV.under]));(first|exact Bq.refl _|exact Bq.vec (Bl.refl _) (by simp))))
end Go.Proofs.YtdabojnmoejilaaGreatDoor
namespace Go.Proofs.YtdabojnmoejilaaGreatDoor
open Go Go.Am Go.Vm Go.Hun
attribute [local irreducible] Aa Ag Ak Ae BH AZ CW AO AL Az Vm.Done Di Bv
def a2d (costs:List (List Int)) (n m:Nat):PV:=.agg [.vec 5 n 0 n,.p (.int .i64 (GH costs n m).total),.p (.lst 3 (cells (JI costs n m)) n),.p (.lst 3 (cells (GZ costs n m)) m)]
theorem bU {costs:List (List Int)} {n m:Nat} {B:Int} (e:TypeId) (hc:Iq costs n m B) (hl:costs.length=n) (hrow:∀ r,r<n→(gi costs r).length=m) (hn:1≤n) (hm:m≤1000) :
 BH env 72 [.p (.lst e (cells costs) n)] [] 0 fun r H' nx'=>r=a2d costs n m∧H'=[(5,.vec 3 (cells (GH costs n m).cols) n false)]∧nx'=6:=by
 have XE:AZ env 69 [.lst e (cells costs) n] (.p (.int .i64 (m:Int))):=by
  have:=LH e costs (by have:=hc.nm;omega)
  rw [hl] at this
  rwa [show uM costs=m from hrow 0 (by omega)] at this
 have hnm:=hc.nm
 have hB:=hc.big
 refine BH.enter (AB (by decide)) Tryz.func72 rfl (by kernel_rfl) (by simp [Tryz.ntmps72]) ?_
 repeat' (first|apply Ae.assoc|apply Ae.AA|apply Ae.BA|apply Ae.Ai|apply Ag.nil|apply Ak.nil|apply Ag.one|(apply Ak.bar;decide +kernel)|apply Ak.quiet|(apply Aa.fn;rfl;rfl;exact XE;intro _;rfl)|(apply Aa.Ep (n+1) (0:Int);rfl;rfl;rfl;rfl;rfl;omega;omega;omega;decide;decide;rfl)|(apply Aa.Ep (dst:=some 34) (m+1) (⟨0⟩:Ix);rfl;rfl;rfl;rfl;rfl;omega;omega;omega;decide;decide;rfl)|(apply Aa.Ep (dst:=some 37) (m+1) (⟨0⟩:Ix);rfl;rfl;rfl;rfl;rfl;omega;omega;omega;decide;decide;rfl)|(apply Aa.Ep (m+1) (0:Int);rfl;rfl;rfl;rfl;rfl;omega;omega;omega;decide;decide;rfl)|(apply Aa.assign;rfl)|(apply Aa.move;rfl)|(apply Aa.Bz;rfl;rfl;omega)|(apply Aa.BL;rfl;rfl)|(apply Aa.alloc;rfl))
 apply Ae.FD (n) [(0,_),(2,_),(3,_),(4,_),(5,_),(6,_),(7,_),(8,_)] [(0,_)] (fun k r=>(9,.p (.int .i64 ((k+1:Nat):Int)))::r) (fun k r=>(1,.vec 3 (cells (Dh costs n m k).u) (n+1) false)::(2,.vec 3 (cells (Dh costs n m k).v) (m+1) false)::(3,.vec 3 (cells (Dh costs n m k).owner) (m+1) false)::(4,.vec 3 (cells (Dh costs n m k).way) (m+1) false)::r) 5
 ·first|omega|decide
 ·first|omega|decide
 ·repeat (first|exact Ad.nil|(refine Ad.eq rfl ?_ ?_;(first|exact PV.Ap rfl|(simp [PV.under,AV.under];done)))|refine Ad.cons trivial rfl (.of_eq (Au (by simp<;>omega))) ?_)
 ·repeat (first|exact Aj.nil|(refine Aj.eq rfl (Ac rfl) ?_ ?_;(first|exact HB.Ap rfl|exact AV.Ah _ _|(simp [HB.under,AV.under,PV.under];done)))|(refine Aj.cons (Ac rfl) ?_ rfl ?_ ?_;(first|exact trivial|exact AV.Ah _ _|(simp [HB.under,AV.under,PV.under]));(first|exact Bq.refl _|exact Bq.vec (Bl.refl _) (by simp))))
 ·intro k hk
  have hS:=NY hc k (by omega)
  have hS':=hS.step hc hk
  obtain ⟨hgo,hend,hT⟩:=ZK hS hc hk
  have hgr:=O4 hS hc hk
  have hback:=mV hS hc hk
  have hv0:=ZM hS hc hk
  have b0w:=aY hc k (by omega)
  have ho:=YE hS
  have eS:Dh costs n m (k+1)=Nv costs m (Dh costs n m k) (k+1):=rfl
  have l1:=hS.lu
  have l2:=hS.lv
  have l3:=hS.lo
  have l4:=hS.lw
  rw [eS]
  generalize Dh costs n m k=s at *
  repeat' (first|(refine Ak.atIdx 3 ?_;refine Ak.ghost (AX.freeze 46 rfl rfl) ?_)|apply Ae.assoc|apply Ae.AA|apply Ae.BA|apply Ae.Aq|apply Ae.Ai|apply Ag.nil|apply Ak.nil|apply Ag.one|(apply Ak.bar;decide +kernel)|apply Ak.quiet|(apply Aa.DT (y:=(⟨k+1⟩:Ix));rfl;rfl;rfl;trivial;(first|rfl|(refine congrArg (fun t=>[PV.p (FV.int _ t)]) ?_;first|omega|(simp only [Int.natCast_add,Int.natCast_mul,Int.natCast_ediv,Int.natCast_emod]<;>omega)));rfl;rfl;decide;(first|omega|(simp only [List.length_set]<;>omega)))|(apply Aa.fv;rfl;rfl;exact TL 3 far (m+1) (by omega) (by omega))|(apply Aa.Ep (m+1) false;rfl;rfl;rfl;rfl;rfl;omega;omega;omega;decide;decide;rfl)|(apply Aa.assign;rfl)|(apply Aa.move;rfl)|(apply Aa.Bz;rfl;rfl;omega)|(apply Aa.int;rfl;rfl;rfl)|(apply Aa.buildSlice;rfl;rfl;rfl;decide;rfl;rfl;rfl)|(apply Aa.lK;rfl;rfl;rfl;rfl;omega;omega)|(apply Ae.Af;rfl)|(intro _;try (exfalso;omega)))
  all_goals try (exfalso;omega)
  apply Ae.FD (Xj costs m s (k+1)) [(0,_),(2,_),(3,_),(4,_),(5,_),(6,_),(7,_),(8,_),(9,_),(11,_),(12,_)] [(0,_)] (fun k_ r=>(10,.p (.int .i64 ((Eo costs (Jg s (k+1)) m (Qr m s) k_).at_:Int)))::r) (fun k_ r=>(1,.vec 3 (cells (Eo costs (Jg s (k+1)) m (Qr m s) k_).u) (n+1) false)::(2,.vec 3 (cells (Eo costs (Jg s (k+1)) m (Qr m s) k_).v) (m+1) false)::(3,.vec 3 (cells (Jg s (k+1))) (m+1) false)::(4,.vec 3 (cells (Eo costs (Jg s (k+1)) m (Qr m s) k_).way) (m+1) false)::(6,.vec 3 (cells (Eo costs (Jg s (k+1)) m (Qr m s) k_).least) (m+1) false)::(7,.vec 4 (cells (Eo costs (Jg s (k+1)) m (Qr m s) k_).done) (m+1) false)::r) 8
  ·first|omega|decide
  ·first|omega|decide
  ·repeat (first|exact Ad.nil|(refine Ad.eq rfl ?_ ?_;(first|exact PV.Ap rfl|(simp [PV.under,AV.under];done)))|refine Ad.cons trivial rfl (.of_eq (Au (by simp<;>omega))) ?_)
  ·repeat (first|exact Aj.nil|(refine Aj.eq rfl (Ac rfl) ?_ ?_;(first|exact HB.Ap rfl|exact AV.Ah _ _|(simp [HB.under,AV.under,PV.under];done)))|(refine Aj.cons (Ac rfl) ?_ rfl ?_ ?_;(first|exact trivial|exact AV.Ah _ _|(simp [HB.under,AV.under,PV.under]));(first|exact Bq.refl _|exact Bq.vec (Bl.refl _) (by simp))))
  ·intro t ht
   have hg:=hgr t fun p hp=>hgo p (by omega)
   have hr:=hgo t ht
   have hR:=JX hg hc ho hk hr
   have hSh:=Nw hg hc ho hk hr
   have hpre:=Yc hg hc ho hk hr
   have hub:∀ r,1≤r→r≤k+1→gi (Eo costs (Jg s (k+1)) m (Qr m s) t).u r≤B:=fun r r1 r2=>hg.ule hc ho (by omega) r1 r2
   have hvb:∀ j,1≤j→j≤m→-B≤gi (Eo costs (Jg s (k+1)) m (Qr m s) t).v j:=fun j j1 j2=>hg.vge hc ho (by omega) j1 j2
   have b1c:=hv0 t fun p hp=>hgo p (by omega)
   have eG:Eo costs (Jg s (k+1)) m (Qr m s) (t+1)=GI costs (Jg s (k+1)) m (Eo costs (Jg s (k+1)) m (Qr m s) t):=rfl
   have hat:MF costs m k s t=(Eo costs (Jg s (k+1)) m (Qr m s) t).at_:=rfl
   have hle:=hg.le t (Nat.le_refl _)
   rw [hat] at hr hle
   rw [eG]
   generalize Eo costs (Jg s (k+1)) m (Qr m s) t=g at *
   have a4a:=ho.lt hle
   have lo:=ho.len
   generalize Jg s (k+1)=o at *
   obtain ⟨row,hrw⟩:∃ row,row=(gi o g.at_).n:=⟨_,rfl⟩
   have hr1:1≤row:=by have:(gi o g.at_).n≠0:=hr;omega
   have hr2:row≤k+1:=by rw [hrw];exact a4a
   have m1:=hg.lu
   have m2:=hg.lv
   have m3:=hg.lw
   have m4:=hg.ll
   have m5:=hg.ld
   have eR:GI costs o m g=⟨(Io o (CP g) (DX costs o m g).delta ⟨g.u,g.v,(DX costs o m g).least⟩ (m+1)).u,(Io o (CP g) (DX costs o m g).delta ⟨g.u,g.v,(DX costs o m g).least⟩ (m+1)).v,(DX costs o m g).way,(Io o (CP g) (DX costs o m g).delta ⟨g.u,g.v,(DX costs o m g).least⟩ (m+1)).least,CP g,(DX costs o m g).next⟩:=rfl
   rw [eR]
   have hD9:(CP g).length=m+1:=by unfold CP;rw [List.length_set,m5]
   have hrl:(gi costs ((gi o g.at_).n-1)).length=m:=hrow _ (by omega)
   have Uk:∀ j,0≤gi (gi costs ((gi o g.at_).n-1)) j∧gi (gi costs ((gi o g.at_).n-1)) j≤B:=fun j=>⟨hc.lo (gi o g.at_).n (j+1),hc.hi (gi o g.at_).n (j+1)⟩
   have hu0:=hg.UH (gi o g.at_).n (by omega) (by omega)
   have hu1:=hub (gi o g.at_).n (by omega) (by omega)
   have hs1:EO .sub .i64 ((gi o g.at_).n:Int) 1=some (.int .i64 (((gi o g.at_).n-1:Nat):Int)):=by
    simp only [EO]
    rw [wrap_i64 (by omega)]
    congr 2;omega
   have hdn:∀ j,j≤m→gi (CP g) j=true→1≤(gi o j).n∧(gi o j).n≤k+1:=fun j hj hd=>by
    obtain ⟨p,p1,p2⟩:=(hR.doneD j).1 hd
    have h1:=ho.lt hj
    refine ⟨?_,h1⟩
    rcases Nat.lt_or_ge p t with h|h
    ·have:=hg.pR p h
     rw [p2] at this
     unfold Hun.own at this
     omega
    ·obtain rfl:p=t:=by omega
     have h2:=hr
     rw [← hat,p2] at h2
     unfold Hun.own at h2
     omega
   clear hs1
   have hkB:(k:Int)*B≤1000*1000000000000:=Int.mul_le_mul (by omega) hB.2 hB.1 (by omega)
   repeat' (first|apply Ae.assoc|apply Ae.AA|apply Ae.Aq|apply Ae.Ai|apply Ae.IE|apply Ag.nil|apply Ag.one|(apply Aa.DT (y:=true);rfl;rfl;rfl;trivial;(first|rfl|(refine congrArg (fun t=>[PV.p (FV.int _ t)]) ?_;first|omega|(simp only [Int.natCast_add,Int.natCast_mul,Int.natCast_ediv,Int.natCast_emod]<;>omega)));rfl;rfl;decide;(first|omega|(simp only [List.length_set]<;>omega)))|(apply Aa.assign;rfl)|(apply Aa.move;rfl)|(apply Aa.int;rfl;rfl;rfl)|(apply Aa.Dl;rfl;rfl;omega;rfl)|(apply Aa.Dc;rfl;rfl;rfl;rfl;omega)|(apply Ae.Af;rfl)|(intro _;try (exfalso;omega)))
   all_goals try (exfalso;omega)
   refine Ae.blk (pU (e:=e) (k:=k) (row:=(gi o g.at_).n) (a:=g.at_) (u:=g.u) (v:=g.v) (o:=o) (done:=CP g) (s0:=⟨g.least,g.way,far,0⟩) hB hl hm (by omega) ⟨by omega,by omega⟩ hrl Uk m1 m2 hD9 m4 m3 ⟨hu0,hu1⟩ fun j j1 j2=>⟨hvb j j1 j2,hg.aO j j1 j2⟩) (by omega) (by omega) ?_ ?_ ?_
   ·repeat (first|exact Ad.nil|refine Ad.same trivial rfl ?_|refine Ad.same (Ac rfl) rfl ?_|refine Ad.same ⟨trivial,Ac rfl,trivial⟩ rfl ?_|refine Ad.same ⟨trivial,Ac rfl,Ac rfl,trivial⟩ rfl ?_|refine Ad.same ⟨trivial,Ac rfl,Ac rfl,Ac rfl,trivial⟩ rfl ?_|refine Ad.same ⟨trivial,Ac rfl,Ac rfl,Ac rfl,Ac rfl,trivial⟩ rfl ?_|refine Ad.same ⟨trivial,trivial⟩ rfl ?_|refine Ad.cons trivial rfl (.of_eq (Au (by simp<;>omega))) ?_)
   ·repeat (first|exact Aj.nil|(refine Aj.cons (Ac rfl) ?_ rfl ?_ ?_;(first|exact HB.Ap rfl|exact AV.Ah _ _|(simp [HB.under,AV.under,PV.under]));(first|exact Bq.refl _|exact Bq.vec (Bl.refl _) (by simp))))
   ·have eC:KC (gi costs ((gi o g.at_).n-1)) (gi g.u (gi o g.at_).n) g.v (CP g) g.at_ ⟨g.least,g.way,far,0⟩ m=DX costs o m g:=rfl
    rw [eC]
    generalize DX costs o m g=sc at *
    have n1:=hR.ll
    have n2:=hR.lw
    repeat' (first|apply Ae.assoc|apply Ae.AA|apply Ae.Ai|apply AO.normal|apply AL.exit|apply Ag.nil|apply Ag.one|(apply Aa.move;rfl)|(apply Aa.lenV;rfl;rfl;rfl))
    all_goals try (exfalso;omega)
    refine Ae.blk (jG (e:=e) (costs:=costs) (k:=k) (nxt:=sc.next) (o:=o) (way:=sc.way) (done:=CP g) (t0:=⟨g.u,g.v,sc.least⟩) ⟨hR.d0,by have:=hR.dB;omega⟩ hm (by omega) m1 m2 n1 lo hD9 hpre.1 hpre.2 (fun j hj hd=>?_) (fun j hj=>?_) (fun j hj hd=>?_)) (by omega) (by omega) ?_ ?_ ?_
    ·have:=hdn j hj hd
     exact ⟨hg.UH _ this.1 this.2,Int.le_trans (hub _ this.1 this.2) hB.2⟩
    ·show -2000000000000000≤gi g.v j∧gi g.v j≤0
     rcases Nat.eq_zero_or_pos j with h|h
     ·subst h
      have:=hg.UH (k+1) (by omega) (Nat.le_refl _)
      have:=hub (k+1) (by omega) (Nat.le_refl _)
      omega
     ·have:=hvb j h hj
      exact ⟨by omega,hg.aO j h hj⟩
    ·have h0:1≤j:=by
      rcases Nat.eq_zero_or_pos j with h|h
      ·subst h
       rw [(hR.doneD 0).2 ⟨0,by omega,hg.zero⟩] at hd
       cases hd
      ·exact h
     obtain ⟨p,p1,p2,p3⟩:=hR.VQ j h0 hj hd
     have h1:=hR.dle j h0 hj hd
     have h2:=hR.d0
     have h3:=hvb j h0 hj
     have h4:=hc.hi (Hun.own o (MF costs m k s p)) j
     have h5:0≤gi g.u (Hun.own o (MF costs m k s p)):=by
      have hp1:Hun.own o (MF costs m k s p)≠0:=by
       rcases Nat.lt_or_ge p t with h|h
       ·exact hg.pR p h
       ·obtain rfl:p=t:=by omega
        rw [hat];exact hr
      exact hg.UH _ (by omega) (ho.lt (hg.le p (by omega)))
     have hf:far=1152921504606846976:=rfl
     show 0≤gi sc.least j∧gi sc.least j≤far
     omega
    ·repeat (first|exact Ad.nil|refine Ad.same trivial rfl ?_|refine Ad.same (Ac rfl) rfl ?_|refine Ad.same ⟨trivial,Ac rfl,trivial⟩ rfl ?_|refine Ad.same ⟨trivial,Ac rfl,Ac rfl,trivial⟩ rfl ?_|refine Ad.same ⟨trivial,Ac rfl,Ac rfl,Ac rfl,trivial⟩ rfl ?_|refine Ad.same ⟨trivial,Ac rfl,Ac rfl,Ac rfl,Ac rfl,trivial⟩ rfl ?_|refine Ad.same ⟨trivial,trivial⟩ rfl ?_|refine Ad.cons trivial rfl (.of_eq (Au (by simp<;>omega))) ?_)
    ·repeat (first|exact Aj.nil|(refine Aj.cons (Ac rfl) ?_ rfl ?_ ?_;(first|exact HB.Ap rfl|exact AV.Ah _ _|(simp [HB.under,AV.under,PV.under]));(first|exact Bq.refl _|exact Bq.vec (Bl.refl _) (by simp))))
    ·repeat' (first|apply Ae.region|apply AO.normal|apply AL.normal|apply AL.exit|apply Ag.nil|apply Ag.one|(apply Aa.assign;rfl)|(apply Aa.move;rfl))
     all_goals try (exfalso;omega)
     refine Az.normal ⟨by first|omega|decide,?_,?_⟩
     ·repeat (first|exact Ad.nil|refine Ad.same trivial rfl ?_|refine Ad.same (Ac rfl) rfl ?_|refine Ad.same ⟨trivial,Ac rfl,trivial⟩ rfl ?_|refine Ad.same ⟨trivial,Ac rfl,Ac rfl,trivial⟩ rfl ?_|refine Ad.same ⟨trivial,Ac rfl,Ac rfl,Ac rfl,trivial⟩ rfl ?_|refine Ad.same ⟨trivial,Ac rfl,Ac rfl,Ac rfl,Ac rfl,trivial⟩ rfl ?_|refine Ad.same ⟨trivial,trivial⟩ rfl ?_|refine Ad.cons trivial rfl (.of_eq (Au (by simp<;>omega))) ?_)
     ·repeat (first|exact Aj.nil|(refine Aj.cons (Ac rfl) ?_ rfl ?_ ?_;(first|exact HB.Ap rfl|exact AV.Ah _ _|(simp [HB.under,AV.under,PV.under]));(first|exact Bq.refl _|exact Bq.vec (Bl.refl _) (by simp))))
  ·have h0:(gi (Jg s (k+1)) (Eo costs (Jg s (k+1)) m (Qr m s) (Xj costs m s (k+1))).at_).n=0:=hend
   have hg:=hgr _ hgo
   have hle:=hg.le _ (Nat.le_refl _)
   have hat:MF costs m k s (Xj costs m s (k+1))=(Eo costs (Jg s (k+1)) m (Qr m s) (Xj costs m s (k+1))).at_:=rfl
   rw [hat] at hle
   have lo:=ho.len
   have eE:Eo costs (Jg s (k+1)) m (Qr m s) (Xj costs m s (k+1))=MN costs m s (k+1):=rfl
   rw [eE] at h0 hle hg hat ⊢
   repeat' (first|apply Ae.assoc|apply Ae.AA|apply Ae.A8|apply AO.normal|apply AL.exit|apply Az.exit|apply Ae.IE|apply Ag.nil|apply Ag.one|(apply Aa.move;rfl)|(apply Aa.int;rfl;rfl;rfl)|(apply Aa.Dl;rfl;rfl;omega;rfl)|(apply Aa.Dc;rfl;rfl;rfl;rfl;omega)|(apply Ae.Af;rfl)|(intro _;try (exfalso;omega)))
   all_goals try (exfalso;omega)
   have hA:∀ t,t≤yh costs m s (k+1)→(GX (MN costs m s (k+1)).way (stA costs m s (k+1)) t).owner.length=m+1∧(GX (MN costs m s (k+1)).way (stA costs m s (k+1)) t).at_≤m:=fun t ht=>by
    obtain ⟨q,q1,q2⟩:=hback.inv t ht
    exact ⟨q2.len,by rw [q2.at_];exact (hgr q fun p hp=>hgo p (by omega)).le q (Nat.le_refl _)⟩
   refine Ae.blk (vV (e:=e) (costs:=costs) (n:=n) (k:=k) (u:=(MN costs m s (k+1)).u) (v:=(MN costs m s (k+1)).v) (a:=stA costs m s (k+1)) hm hg.lw (fun t ht=>(hA t ht).1) hback.go (fun t ht=>(hA t ht).2) hback.fin) (by omega) (by omega) ?_ ?_ ?_
   ·repeat (first|exact Ad.nil|refine Ad.same trivial rfl ?_|refine Ad.same (Ac rfl) rfl ?_|refine Ad.same ⟨trivial,Ac rfl,trivial⟩ rfl ?_|refine Ad.same ⟨trivial,Ac rfl,Ac rfl,trivial⟩ rfl ?_|refine Ad.same ⟨trivial,Ac rfl,Ac rfl,Ac rfl,trivial⟩ rfl ?_|refine Ad.same ⟨trivial,Ac rfl,Ac rfl,Ac rfl,Ac rfl,trivial⟩ rfl ?_|refine Ad.same ⟨trivial,trivial⟩ rfl ?_|refine Ad.cons trivial rfl (.of_eq (Au (by simp<;>omega))) ?_)
   ·repeat (first|exact Aj.nil|(refine Aj.cons (Ac rfl) ?_ rfl ?_ ?_;(first|exact HB.Ap rfl|exact AV.Ah _ _|(simp [HB.under,AV.under,PV.under]));(first|exact Bq.refl _|exact Bq.vec (Bl.refl _) (by simp))))
   ·repeat' (first|apply Ae.region|apply AO.normal|apply AL.normal|apply AL.exit|apply Ag.nil|apply Ag.one|(apply Aa.assign;rfl)|(apply Aa.move;rfl)|(apply Aa.Bz;rfl;rfl;omega))
    all_goals try (exfalso;omega)
    refine Az.normal ⟨by first|omega|decide,?_,?_⟩
    ·repeat (first|exact Ad.nil|refine Ad.same trivial rfl ?_|refine Ad.same (Ac rfl) rfl ?_|refine Ad.same ⟨trivial,Ac rfl,trivial⟩ rfl ?_|refine Ad.same ⟨trivial,Ac rfl,Ac rfl,trivial⟩ rfl ?_|refine Ad.same ⟨trivial,Ac rfl,Ac rfl,Ac rfl,trivial⟩ rfl ?_|refine Ad.same ⟨trivial,Ac rfl,Ac rfl,Ac rfl,Ac rfl,trivial⟩ rfl ?_|refine Ad.same ⟨trivial,trivial⟩ rfl ?_|refine Ad.cons trivial rfl (.of_eq (Au (by simp<;>omega))) ?_)
    ·repeat (first|exact Aj.nil|(refine Aj.cons (Ac rfl) ?_ rfl ?_ ?_;(first|exact HB.Ap rfl|exact AV.Ah _ _|(simp [HB.under,AV.under,PV.under]));(first|exact Bq.refl _|exact Bq.vec (Bl.refl _) (by simp))))
 ·have hS:=NY hc n (Nat.le_refl _)
  have hO:=Vf hS
  have hs:=Xf hc
  have l1:=hS.lu
  have l2:=hS.lv
  have l3:=hS.lo
  have eO:KI costs (Dh costs n m n).owner n m=GH costs n m:=rfl
  have eU:(Dh costs n m n).u.drop 1=JI costs n m:=rfl
  have eV:(Dh costs n m n).v.drop 1=GZ costs n m:=rfl
  have htot:∀ j,j≤m→0≤(KI costs (Dh costs n m n).owner n j).total∧(KI costs (Dh costs n m n).owner n j).total≤1000000000000000:=fun j hj=>by
   rw [(hO j hj).total]
   have h1:=jX (f:=fun k=>if 0<Hun.own (Dh costs n m n).owner (k+1) then cst costs (Hun.own (Dh costs n m n).owner (k+1)) (k+1) else 0) (a:=0) (b:=1000000000000) (n:=j) fun k hk=>by
    split
    ·exact ⟨hc.lo _ _,Int.le_trans (hc.hi _ _) hB.2⟩
    ·exact ⟨Int.le_refl _,by decide⟩
   omega
  generalize Dh costs n m n=s at *
  repeat' (first|(refine Ae.at 34 ?_;refine Ae.ghost (AX.freeze 5 rfl rfl) ?_;first|apply Ae.AA|apply Ae.BA)|(refine Ak.atIdx 4 ?_;refine Ak.ghost (AX.freeze 6 rfl rfl) ?_)|apply Ae.assoc|apply Ae.AA|apply Ae.A8|apply Ae.Ai|apply AO.normal|apply AL.exit|apply Az.exit|apply Ag.nil|apply Ak.nil|apply Ag.one|(apply Ak.bar;decide +kernel)|apply Ak.quiet|(apply Aa.Ep n (0:Int);rfl;rfl;rfl;rfl;rfl;rfl;rfl;omega;decide;decide;rfl)|(apply Aa.sliceFrom (l:=s.u) (a:=1);rfl;rfl;rfl;rfl;rfl;exact l1;omega)|(apply Aa.sliceFrom (l:=s.v) (a:=1);rfl;rfl;rfl;rfl;rfl;exact l2;omega)|(apply Aa.assign;rfl)|(apply Aa.move;rfl)|(apply Aa.int;rfl;rfl;rfl)|(apply Aa.alloc;rfl)|(apply Aa.Bj;rfl;rfl;rfl;trivial;rfl;rfl;exact Ac rfl;exact le_dec rfl)|(apply Aa.build;rfl;rfl;rfl;rfl;rfl)|(apply Ae.Af;rfl)|(intro _;try (exfalso;omega)))
  all_goals try (exfalso;omega)
  have e1:costs.length=n:=hl
  refine Ae.blk (vS (e:=e) (costs:=costs) (n:=n) (m:=m) (U:=s.u.drop 1) (V:=s.v.drop 1) (o:=s.owner) hm (by omega) hl hrow l3 (fun j j1 j2=>hS.own j j1 j2) (fun j hj=>(hO j hj).len) (fun r j=>⟨hc.lo (r+1) (j+1),Int.le_trans (hc.hi (r+1) (j+1)) hB.2⟩) htot) (by omega) (by omega) ?_ ?_ ?_
  ·repeat (first|exact Ad.nil|refine Ad.same trivial rfl ?_|refine Ad.same (Ac rfl) rfl ?_|refine Ad.same ⟨trivial,Ac rfl,trivial⟩ rfl ?_|refine Ad.same ⟨trivial,Ac rfl,Ac rfl,trivial⟩ rfl ?_|refine Ad.same ⟨trivial,Ac rfl,Ac rfl,Ac rfl,trivial⟩ rfl ?_|refine Ad.same ⟨trivial,Ac rfl,Ac rfl,Ac rfl,Ac rfl,trivial⟩ rfl ?_|refine Ad.same ⟨trivial,trivial⟩ rfl ?_|refine Ad.cons trivial rfl (.of_eq (Au (by simp<;>omega))) ?_)
  ·repeat (first|exact Aj.nil|(refine Aj.cons (Ac rfl) ?_ rfl ?_ ?_;(first|exact HB.Ap rfl|exact AV.Ah _ _|(simp [HB.under,AV.under,PV.under]));(first|exact Bq.refl _|exact Bq.vec (Bl.refl _) (by simp))))
  ·rw [eO,eU,eV]
   repeat' (first|apply Ae.AA|apply AO.normal|apply AL.exit|apply Ae.ret|apply Ag.nil|apply Ag.one|(apply Aa.load;rfl;rfl)|(apply Aa.Bj;rfl;rfl;rfl;trivial;rfl;rfl;exact Ac rfl;exact le_dec rfl))
   all_goals try (exfalso;omega)
   refine Done.ret (H0:=[(5,.vec 3 (cells (GH costs n m).cols) n false)]) (D6:=6) rfl (.refl _) ⟨Ac rfl,trivial,trivial,trivial,trivial⟩ ?_ (by omega) (by omega) ⟨rfl,rfl,rfl⟩
   repeat (first|exact Aj.nil|(refine Aj.cons (Ac rfl) ?_ rfl ?_ ?_;(first|exact HB.Ap rfl|exact AV.Ah _ _|(simp [HB.under,AV.under,PV.under]));(first|exact Bq.refl _|exact Bq.vec (Bl.refl _) (by simp))))
end Go.Proofs.YtdabojnmoejilaaGreatDoor
namespace Go.Proofs.YtdabojnmoejilaaGreatDoor
open Go Go.Am Go.Vm Go.Hun
attribute [local irreducible] Aa Ag Ak Ae BH AZ CW AO AL Az Vm.Done Di Bv
theorem UM {L:Vm.Frame} {H:Vm.Heap} {nx:Nat} {Q:PV→Vm.Heap→Nat→Prop} {dst:Option Tmp} {ty:TypeId} {pos:String} {af:Array Edge} {gd:Option (Nat×Bool)} {fo:Operand} {args:Array Operand} {aT:Array TypeId} {fs cs xs:List PV} {c:Code}
 (hf:BG env.Γ L fo=some (.clo 75 fs cs)) (ha:evs env.Γ L args.toList=some xs) (hb:Tryz.f75.body=some c) (hn:(fs++xs++cs).length≤Tryz.f75.ntmps)
 (h:Ae env nx c (CQ 0 (fs++xs++cs)) H nx (Bv env.P Tryz.f75.results.toList Q)):Aa env true ⟨dst,.call { callee:=.value fo,args:=args,argTypes:=aT },ty,pos,af,gd⟩ L H nx Q:=by
 have h0:(match Tryz.f75.body with|some c=>H6 env.G Tryz.f75 c|none=>false)=true:=by kernel_rfl
 rw [hb] at h0
 exact Aa.inline rfl hf ha (AB (by decide)) Tryz.func75 hb h0 hn h
theorem UW {L:Vm.Frame} {H:Vm.Heap} {nx:Nat} {Q:PV→Vm.Heap→Nat→Prop} {dst:Option Tmp} {ty:TypeId} {pos:String} {af:Array Edge} {gd:Option (Nat×Bool)} {fo:Operand} {args:Array Operand} {aT:Array TypeId} {fs cs xs:List PV} {c:Code}
 (hf:BG env.Γ L fo=some (.clo 104 fs cs)) (ha:evs env.Γ L args.toList=some xs) (hb:Tryz.f104.body=some c) (hn:(fs++xs++cs).length≤Tryz.f104.ntmps)
 (h:Ae env nx c (CQ 0 (fs++xs++cs)) H nx (Bv env.P Tryz.f104.results.toList Q)):Aa env true ⟨dst,.call { callee:=.value fo,args:=args,argTypes:=aT },ty,pos,af,gd⟩ L H nx Q:=by
 have h0:(match Tryz.f104.body with|some c=>H6 env.G Tryz.f104 c|none=>false)=true:=by kernel_rfl
 rw [hb] at h0
 exact Aa.inline rfl hf ha (AB (by decide)) Tryz.func104 hb h0 hn h
theorem yD {L:Vm.Frame} {H:Vm.Heap} {nx:Nat} {Q:PV→Vm.Heap→Nat→Prop} {dst:Option Tmp} {ty:TypeId} {pos:String} {af:Array Edge} {gd:Option (Nat×Bool)} {fo:Operand} {args:Array Operand} {aT:Array TypeId} {fs cs xs:List PV} {c:Code}
 (hf:BG env.Γ L fo=some (.clo 101 fs cs)) (ha:evs env.Γ L args.toList=some xs) (hb:Tryz.f101.body=some c) (hn:(fs++xs++cs).length≤Tryz.f101.ntmps)
 (h:Ae env nx c (CQ 0 (fs++xs++cs)) H nx (Bv env.P Tryz.f101.results.toList Q)):Aa env true ⟨dst,.call { callee:=.value fo,args:=args,argTypes:=aT },ty,pos,af,gd⟩ L H nx Q:=by
 have h0:(match Tryz.f101.body with|some c=>H6 env.G Tryz.f101 c|none=>false)=true:=by kernel_rfl
 rw [hb] at h0
 exact Aa.inline rfl hf ha (AB (by decide)) Tryz.func101 hb h0 hn h
structure Qv (l:List (List Int)) (n m:Nat) (skip B:Int):Prop where
 LC:xB l n m skip B
 n60:n≤60
 pq:m≤120
 B9:B≤1000000000
 m0:n=0→m=0
theorem Qv.cols {l:List (List Int)} {n m:Nat} {skip B:Int} (h:Qv l n m skip B):uM l=m:=by
 rcases Nat.eq_zero_or_pos n with h0|h0
 ·have:l=[]:=List.length_eq_zero_iff.1 (by rw [h.LC.len];exact h0)
  rw [this,h.m0 h0]
  rfl
 ·exact h.LC.row 0 h0
theorem bJ {l:List (List Int)} {n m:Nat} {skip B:Int} (e:TypeId) (h:Qv l n m skip B):AZ env 73 [.lst e (cells l) l.length,.bool false] (.p (.int .i64 0)):=by
 have h1:=h.LC.len
 have h2:=h.n60
 have h3:=h.pq
 have h4:=h.B9
 have XE:=h.cols
 have hrow:=h.LC.row
 have tJ:=h.LC.rng
 refine AZ.enter (AB (by decide)) Tryz.func73 rfl (by kernel_rfl) (by simp [Tryz.ntmps73]) ?_
 rcases Nat.eq_zero_or_pos n with h0|h0
 ·have hl0:l=[]:=List.length_eq_zero_iff.1 (by omega)
  subst hl0
  repeat' (first|apply Ae.assoc|apply Ae.AA|apply Ae.Aq|apply Ae.Ai|apply Ag.nil|apply Ag.one|(apply Ag.take;rfl;rfl)|(apply Ag.drop;rfl;rfl;rfl)|(apply Aa.assign;rfl)|(apply Aa.move;rfl)|(apply Aa.int;rfl;rfl;rfl)|(apply Aa.AQ;rfl;rfl)|(apply Aa.BL;rfl;rfl)|(apply Ae.Ar;rfl))
  all_goals try (exfalso;omega)
  all_goals try contradiction
  apply Ae.FD (0) [(0,_),(1,_),(24,_),(25,_)] [] (fun k r=>(26,.p (.int .i64 (k:Int)))::r) (fun k r=>r) 0
  ·first|omega|decide
  ·first|omega|decide
  ·repeat (first|exact Ad.nil|(refine Ad.eq rfl ?_ ?_;(first|exact PV.Ap rfl|(simp [PV.under,AV.under];done)))|refine Ad.cons trivial rfl (.of_eq (Au (by simp<;>omega))) ?_)
  ·repeat (first|exact Aj.nil|(refine Aj.eq rfl (Ac rfl) ?_ ?_;(first|exact HB.Ap rfl|exact AV.Ah _ _|(simp [HB.under,AV.under,PV.under];done)))|(refine Aj.cons (Ac rfl) ?_ rfl ?_ ?_;(first|exact trivial|exact AV.Ah _ _|(simp [HB.under,AV.under,PV.under]));(first|exact Bq.refl _|exact Bq.vec (Bl.refl _) (by simp))))
  ·intro k hk;omega
  ·repeat' (first|apply Ae.assoc|apply Ae.AA|apply Ae.Aq|apply Ae.A8|apply Ae.Ai|apply AO.normal|apply AL.exit|apply Az.exit|apply Ag.nil|apply Ag.one|(apply Ag.drop;rfl;rfl;rfl)|(apply Aa.move;rfl)|(apply Aa.int;rfl;rfl;rfl)|(apply Aa.AQ;rfl;rfl)|(apply Aa.BL;rfl;rfl)|(apply Ae.Ar;rfl))
   all_goals try (exfalso;omega)
   all_goals try contradiction
   apply Ae.FD (0) [(0,_),(53,_),(54,_)] [] (fun k r=>(55,.p (.int .i64 (k:Int)))::r) (fun k r=>r) 0
   ·first|omega|decide
   ·first|omega|decide
   ·repeat (first|exact Ad.nil|(refine Ad.eq rfl ?_ ?_;(first|exact PV.Ap rfl|(simp [PV.under,AV.under];done)))|refine Ad.cons trivial rfl (.of_eq (Au (by simp<;>omega))) ?_)
   ·repeat (first|exact Aj.nil|(refine Aj.eq rfl (Ac rfl) ?_ ?_;(first|exact HB.Ap rfl|exact AV.Ah _ _|(simp [HB.under,AV.under,PV.under];done)))|(refine Aj.cons (Ac rfl) ?_ rfl ?_ ?_;(first|exact trivial|exact AV.Ah _ _|(simp [HB.under,AV.under,PV.under]));(first|exact Bq.refl _|exact Bq.vec (Bl.refl _) (by simp))))
   ·intro k hk;omega
   ·repeat' (first|apply Ae.AA|apply Ae.A8|apply AO.normal|apply AL.exit|apply Az.exit|apply Ae.ret|apply Ag.nil|apply Ag.one|(apply Aa.assign;rfl)|(apply Aa.int;rfl;rfl;rfl)|(apply Ae.Ar;rfl))
    all_goals first|(exfalso;omega)|contradiction|(refine Done.ret rfl (.refl _) (by first|exact trivial|exact ⟨trivial,trivial,trivial⟩|exact ⟨trivial,trivial,trivial,trivial⟩) Aj.nil (Nat.zero_le _) (Nat.le_refl _) ⟨?_,rfl,rfl⟩;try rfl)
 ·have hr0:=hrow 0 h0
  have hc0:(gi l 0).length=m:=hr0
  repeat' (first|apply Ae.assoc|apply Ae.AA|apply Ae.Aq|apply Ae.Ai|apply Ag.nil|apply Ag.one|(apply Ag.take;rfl;rfl)|(apply Ag.guard;rfl;rfl)|(apply Aa.AU (l:=l) (i:=0);rfl;rfl;rfl;omega;rfl)|(apply Aa.assign;rfl)|(apply Aa.move;rfl)|(apply Aa.int;rfl;rfl;rfl)|(apply Aa.load;rfl;rfl)|(apply Aa.BJ;rfl;rfl)|(apply Aa.AQ;rfl;rfl)|(apply Aa.BL;rfl;rfl)|(apply Ae.Af;rfl)|(intro _;try (exfalso;omega)))
  all_goals try (exfalso;omega)
  all_goals try contradiction
  apply Ae.FD (l.length) [(0,_),(1,_),(24,_),(25,_)] [] (fun k r=>(26,.p (.int .i64 (k:Int)))::r) (fun k r=>r) 0
  ·first|omega|decide
  ·first|omega|decide
  ·repeat (first|exact Ad.nil|(refine Ad.eq rfl ?_ ?_;(first|exact PV.Ap rfl|(simp [PV.under,AV.under];done)))|refine Ad.cons trivial rfl (.of_eq (Au (by simp<;>omega))) ?_)
  ·repeat (first|exact Aj.nil|(refine Aj.eq rfl (Ac rfl) ?_ ?_;(first|exact HB.Ap rfl|exact AV.Ah _ _|(simp [HB.under,AV.under,PV.under];done)))|(refine Aj.cons (Ac rfl) ?_ rfl ?_ ?_;(first|exact trivial|exact AV.Ah _ _|(simp [HB.under,AV.under,PV.under]));(first|exact Bq.refl _|exact Bq.vec (Bl.refl _) (by simp))))
  ·intro k hk
   have hrk:=hrow k (by omega)
   repeat' (first|apply Ae.AA|apply Ae.region|apply Ae.Aq|apply Ae.Ai|apply AO.normal|apply AL.normal|apply Ae.skip|apply Ag.nil|apply Ag.one|(apply Aa.AU (l:=l) (i:=k);rfl;rfl;rfl;omega;rfl)|(apply Aa.AU (l:=l) (i:=0);rfl;rfl;rfl;omega;rfl)|(apply Aa.assign;rfl)|(apply Aa.move;rfl)|(apply Aa.Bz;rfl;rfl;omega)|(apply Aa.int;rfl;rfl;rfl)|(apply Aa.load;rfl;rfl)|(apply Aa.BL;rfl;rfl)|(apply Ae.Af;rfl)|(apply Ae.AY;rfl)|(intro _;try (exfalso;omega)))
   all_goals try (exfalso;omega)
   refine Az.normal ⟨by first|omega|decide,?_,?_⟩
   ·repeat (first|exact Ad.nil|refine Ad.same trivial rfl ?_|refine Ad.same (Ac rfl) rfl ?_|refine Ad.same ⟨trivial,Ac rfl,trivial⟩ rfl ?_|refine Ad.same ⟨trivial,Ac rfl,Ac rfl,trivial⟩ rfl ?_|refine Ad.same ⟨trivial,Ac rfl,Ac rfl,Ac rfl,trivial⟩ rfl ?_|refine Ad.same ⟨trivial,Ac rfl,Ac rfl,Ac rfl,Ac rfl,trivial⟩ rfl ?_|refine Ad.same ⟨trivial,trivial⟩ rfl ?_|refine Ad.cons trivial rfl (.of_eq (Au (by simp<;>omega))) ?_)
   ·repeat (first|exact Aj.nil|(refine Aj.cons (Ac rfl) ?_ rfl ?_ ?_;(first|exact HB.Ap rfl|exact AV.Ah _ _|(simp [HB.under,AV.under,PV.under]));(first|exact Bq.refl _|exact Bq.vec (Bl.refl _) (by simp))))
  ·repeat' (first|apply Ae.assoc|apply Ae.AA|apply Ae.Aq|apply Ae.A8|apply Ae.Ai|apply AO.normal|apply AL.exit|apply Az.exit|apply Ag.nil|apply Ag.one|(apply Ag.drop;rfl;rfl;rfl)|(apply Aa.move;rfl)|(apply Aa.int;rfl;rfl;rfl)|(apply Aa.AQ;rfl;rfl)|(apply Aa.BL;rfl;rfl)|(apply Ae.Ar;rfl)|(apply Ae.Af;rfl)|(intro _;try (exfalso;omega)))
   all_goals try (exfalso;omega)
   all_goals try contradiction
   apply Ae.FD (l.length) [(0,_),(53,_),(54,_)] [] (fun k r=>(55,.p (.int .i64 (k:Int)))::r) (fun k r=>r) 0
   ·first|omega|decide
   ·first|omega|decide
   ·repeat (first|exact Ad.nil|(refine Ad.eq rfl ?_ ?_;(first|exact PV.Ap rfl|(simp [PV.under,AV.under];done)))|refine Ad.cons trivial rfl (.of_eq (Au (by simp<;>omega))) ?_)
   ·repeat (first|exact Aj.nil|(refine Aj.eq rfl (Ac rfl) ?_ ?_;(first|exact HB.Ap rfl|exact AV.Ah _ _|(simp [HB.under,AV.under,PV.under];done)))|(refine Aj.cons (Ac rfl) ?_ rfl ?_ ?_;(first|exact trivial|exact AV.Ah _ _|(simp [HB.under,AV.under,PV.under]));(first|exact Bq.refl _|exact Bq.vec (Bl.refl _) (by simp))))
   ·intro k hk
    have hrk:=hrow k (by omega)
    repeat' (first|apply Ae.assoc|apply Ae.AA|apply Ae.Aq|apply Ae.Ai|apply Ag.nil|apply Ag.one|(apply UM;rfl;rfl;rfl;exact le_dec rfl)|(apply UW;rfl;rfl;rfl;exact le_dec rfl)|(apply Aa.assign;rfl)|(apply Aa.move;rfl)|(apply Aa.int;rfl;rfl;rfl)|(apply Aa.AU;rfl;rfl;rfl;omega;rfl)|(apply Aa.load;rfl;rfl)|(apply Aa.BL;rfl;rfl)|(apply Ae.Af;rfl)|(intro _;try (exfalso;omega)))
    all_goals try (exfalso;omega)
    apply Ae.FD ((gi l k).length) [(0,_),(1,_),(7,_)] [] (fun k_ r=>(8,.p (.int .i64 (k_:Int)))::r) (fun k_ r=>r) 0
    ·first|omega|decide
    ·first|omega|decide
    ·repeat (first|exact Ad.nil|(refine Ad.eq rfl ?_ ?_;(first|exact PV.Ap rfl|(simp [PV.under,AV.under];done)))|refine Ad.cons trivial rfl (.of_eq (Au (by simp<;>omega))) ?_)
    ·repeat (first|exact Aj.nil|(refine Aj.eq rfl (Ac rfl) ?_ ?_;(first|exact HB.Ap rfl|exact AV.Ah _ _|(simp [HB.under,AV.under,PV.under];done)))|(refine Aj.cons (Ac rfl) ?_ rfl ?_ ?_;(first|exact trivial|exact AV.Ah _ _|(simp [HB.under,AV.under,PV.under]));(first|exact Bq.refl _|exact Bq.vec (Bl.refl _) (by simp))))
    ·intro j hj
     have hb:=tJ k j (by omega) (by omega)
     repeat' (first|apply Ae.AA|apply Ae.region|apply Ae.Aq|apply Ae.Ai|apply AO.normal|(apply Bv.ret;rfl)|apply AL.normal|apply Ae.ret|apply Ae.skip|apply Ag.nil|apply Ag.one|(apply Ag.take;rfl;rfl)|(apply Ag.guard;rfl;rfl)|(apply yD;rfl;rfl;rfl;exact le_dec rfl)|(apply Aa.assign;rfl)|(apply Aa.move;rfl)|(apply Aa.Bz;rfl;rfl;omega)|(apply Aa.int;rfl;rfl;rfl)|(apply Aa.AU;rfl;rfl;rfl;omega;rfl)|(apply Aa.load;rfl;rfl)|(apply Aa.AQ;rfl;rfl)|(apply Ae.Af;rfl)|(apply Ae.AY;rfl)|(intro _;try (exfalso;omega)))
     all_goals try (exfalso;omega)
     refine Az.normal ⟨by first|omega|decide,?_,?_⟩
     ·repeat (first|exact Ad.nil|refine Ad.same trivial rfl ?_|refine Ad.same (Ac rfl) rfl ?_|refine Ad.same ⟨trivial,Ac rfl,trivial⟩ rfl ?_|refine Ad.same ⟨trivial,Ac rfl,Ac rfl,trivial⟩ rfl ?_|refine Ad.same ⟨trivial,Ac rfl,Ac rfl,Ac rfl,trivial⟩ rfl ?_|refine Ad.same ⟨trivial,Ac rfl,Ac rfl,Ac rfl,Ac rfl,trivial⟩ rfl ?_|refine Ad.same ⟨trivial,trivial⟩ rfl ?_|refine Ad.cons trivial rfl (.of_eq (Au (by simp<;>omega))) ?_)
     ·repeat (first|exact Aj.nil|(refine Aj.cons (Ac rfl) ?_ rfl ?_ ?_;(first|exact HB.Ap rfl|exact AV.Ah _ _|(simp [HB.under,AV.under,PV.under]));(first|exact Bq.refl _|exact Bq.vec (Bl.refl _) (by simp))))
    ·repeat' (first|apply Ae.AA|apply Ae.region|apply Ae.A8|apply AO.normal|(apply Bv.ret;rfl)|apply AL.normal|apply AL.exit|apply Az.exit|apply Ae.ret|apply Ae.skip|apply Ag.nil|apply Ag.one|(apply Aa.assign;rfl)|(apply Aa.move;rfl)|(apply Aa.Bz;rfl;rfl;omega)|(apply Aa.int;rfl;rfl;rfl)|(apply Ae.Af;rfl)|(apply Ae.cond_false;rfl)|(intro _;try (exfalso;omega)))
     all_goals try (exfalso;omega)
     all_goals try contradiction
     refine Az.normal ⟨by first|omega|decide,?_,?_⟩
     ·repeat (first|exact Ad.nil|refine Ad.same trivial rfl ?_|refine Ad.same (Ac rfl) rfl ?_|refine Ad.same ⟨trivial,Ac rfl,trivial⟩ rfl ?_|refine Ad.same ⟨trivial,Ac rfl,Ac rfl,trivial⟩ rfl ?_|refine Ad.same ⟨trivial,Ac rfl,Ac rfl,Ac rfl,trivial⟩ rfl ?_|refine Ad.same ⟨trivial,Ac rfl,Ac rfl,Ac rfl,Ac rfl,trivial⟩ rfl ?_|refine Ad.same ⟨trivial,trivial⟩ rfl ?_|refine Ad.cons trivial rfl (.of_eq (Au (by simp<;>omega))) ?_)
     ·repeat (first|exact Aj.nil|(refine Aj.cons (Ac rfl) ?_ rfl ?_ ?_;(first|exact HB.Ap rfl|exact AV.Ah _ _|(simp [HB.under,AV.under,PV.under]));(first|exact Bq.refl _|exact Bq.vec (Bl.refl _) (by simp))))
   ·repeat' (first|apply Ae.AA|apply Ae.A8|apply AO.normal|apply AL.exit|apply Az.exit|apply Ae.ret|apply Ag.nil|apply Ag.one|(apply Aa.assign;rfl)|(apply Aa.int;rfl;rfl;rfl)|(apply Ae.Af;rfl)|(intro _;try (exfalso;omega)))
    all_goals first|(exfalso;omega)|contradiction|(refine Done.ret rfl (.refl _) (by first|exact trivial|exact ⟨trivial,trivial,trivial⟩|exact ⟨trivial,trivial,trivial,trivial⟩) Aj.nil (Nat.zero_le _) (Nat.le_refl _) ⟨?_,rfl,rfl⟩;try rfl)
theorem LW {l:List (List Int)} {n m:Nat} {skip B:Int} (e:TypeId) (h:Qv l n m skip B):AZ env 46 [.lst e (cells l) l.length,.int .i64 skip] (.p (.int .i64 0)):=by
 have hc:=bJ e h
 have h4:=h.B9
 have h5:=h.LC.skip
 refine AZ.enter (AB (by decide)) Tryz.func46 rfl (by kernel_rfl) (by simp [Tryz.ntmps46]) ?_
 repeat' (first|apply Ae.assoc|apply Ae.AA|apply Ae.Aq|apply Ae.ret|apply Ag.nil|apply Ag.one|(apply Ag.take;rfl;rfl)|(apply Ag.guard;rfl;rfl)|(apply Aa.fn;rfl;rfl;exact hc;intro _;rfl)|(apply Aa.assign;rfl)|(apply Aa.move;rfl)|(apply Aa.int;rfl;rfl;rfl)|(apply Aa.AQ;rfl;rfl)|(apply Ae.Ar;rfl)|(apply Ae.Af;rfl)|(intro _;try (exfalso;omega)))
 all_goals first|(exfalso;omega)|contradiction|(refine Done.ret rfl (.refl _) (by first|exact trivial|exact ⟨trivial,trivial,trivial⟩|exact ⟨trivial,trivial,trivial,trivial⟩) Aj.nil (Nat.zero_le _) (Nat.le_refl _) ⟨?_,rfl,rfl⟩;try rfl)
theorem Ox {l:List (List Int)} {n m:Nat} {skip B:Int} (e:TypeId) (h:Qv l n m skip B):AZ env 69 [.lst e (cells l) l.length] (.p (.int .i64 (m:Int))):=by
 have:=LH e l (by have:=h.LC.len;have:=h.n60;omega)
 rwa [h.cols] at this
theorem bM (l:List Int) (h0:0<l.length) (h1:l.length<1000000):CW env 70 [.lst 3 (cells l) l.length] 3 (cells l) l.length false:=by
 refine CW.enter (AB (by decide)) Tryz.func70 rfl (by kernel_rfl) (by simp [Tryz.ntmps70]) ?_
 repeat' (first|apply Ae.assoc|apply Ae.AA|apply Ae.Aq|apply Ae.ret|apply Ag.nil|apply Ag.one|(apply Aa.a2o;rfl;rfl;rfl;exact h0)|(apply Aa.assign;rfl)|(apply Aa.move;rfl)|(apply Aa.buildSlice;rfl;rfl;rfl;decide;rfl;rfl;rfl)|(apply Aa.CS;rfl;rfl;rfl;(first|rfl|omega|(simp only [List.length_take,List.length_drop,List.length_append,List.length_singleton,List.length_cons,List.length_nil]<;>omega));rfl;rfl;(intro _ h;cases h);rfl;rfl;rfl;decide;decide;(first|omega|(simp only [List.length_take,List.length_drop,List.length_append,List.length_singleton,List.length_cons,List.length_nil]<;>omega)))|(apply Ae.Ar;rfl))
 exact Di.ret rfl rfl rfl rfl
theorem yV {L:Vm.Frame} {H:Vm.Heap} {nx:Nat} {Q:PV→Vm.Heap→Nat→Prop} {dst:Option Tmp} {ty:TypeId} {pos:String} {af:Array Edge} {gd:Option (Nat×Bool)} {fo:Operand} {args:Array Operand} {aT:Array TypeId} {fs cs xs:List PV} {c:Code}
 (hf:BG env.Γ L fo=some (.clo 70 fs cs)) (ha:evs env.Γ L args.toList=some xs) (hb:Tryz.f70.body=some c) (hn:(fs++xs++cs).length≤Tryz.f70.ntmps)
 (h:Ae env nx c (CQ 0 (fs++xs++cs)) H nx (Bv env.P Tryz.f70.results.toList Q)):Aa env true ⟨dst,.call { callee:=.value fo,args:=args,argTypes:=aT },ty,pos,af,gd⟩ L H nx Q:=by
 have h0:(match Tryz.f70.body with|some c=>H6 env.G Tryz.f70 c|none=>false)=true:=by kernel_rfl
 rw [hb] at h0
 exact Aa.inline rfl hf ha (AB (by decide)) Tryz.func70 hb h0 hn h
theorem lZ {α:Type} [Inhabited α] {l:List α} {k:Nat} (h:k<l.length):l.take (k+1)=l.take k++[gi l k]:=by
 rw [List.take_succ_eq_append_getElem h]
 unfold gi
 rw [List.getElem?_eq_getElem h];rfl
def Ux (l:List (List Int)) (skip:Int) (k:Nat):List Int:=gi l k++List.replicate (l.length+1) skip
def N9 (l:List (List Int)) (skip:Int) (k:Nat):List (List Int):=(DJ l skip l.length).take k++List.replicate (l.length-k) []
theorem Oz (l:List (List Int)) (skip:Int) (n:Nat):(DJ l skip n).length=l.length:=by simp [DJ]
theorem oK (l:List (List Int)) (skip:Int) {k:Nat} (h:k≤l.length):(N9 l skip k).length=l.length:=by
 unfold N9
 rw [List.length_append,List.length_take,List.length_replicate,Oz];omega
theorem pz (l:List (List Int)) (skip:Int):N9 l skip l.length=DJ l skip l.length:=by
 unfold N9
 rw [Nat.sub_self,List.take_of_length_le (by rw [Oz];exact Nat.le_refl _)]
 simp
theorem og (l:List (List Int)) (skip:Int) {k:Nat} (h:k<l.length):(N9 l skip k).set k (Ux l skip k)=N9 l skip (k+1):=by
 have e1:Ux l skip k=gi (DJ l skip l.length) k:=(gi_map' (fun row=>row++List.replicate (l.length+1) skip) h).symm
 have hk:k<(DJ l skip l.length).length:=by rw [Oz];exact h
 obtain ⟨r,hr⟩:∃ r,l.length-k=r+1:=⟨l.length-k-1,by omega⟩
 unfold N9
 rw [e1,lZ hk,hr,show l.length-(k+1)=r by omega]
 have ht:((DJ l skip l.length).take k).length=k:=by rw [List.length_take];omega
 generalize gi (DJ l skip l.length) k=x
 generalize (DJ l skip l.length).take k=t at *
 rw [List.set_append_right _ _ (by omega),ht,Nat.sub_self,List.replicate_succ,List.set_cons_zero,List.append_assoc]
 rfl
theorem Yg:∀ n:Nat,Bl ((Bd [.slice none 0 0] n).map F7) (cells (List.replicate n ([]:List Int)))
 |0=>.refl _
 |n+1=>.cons (.nil _) (Yg n)
theorem jY (l:List (List Int)) (skip:Int):N9 l skip 0=List.replicate l.length []:=by unfold N9;simp
def Us (m:Nat) (cols:List Int) (j:Nat):List Int:=(cols.take j).map (KL m)++cols.drop j
theorem VP (m:Nat) (cols:List Int) (j:Nat):(Us m cols j).length=cols.length:=by
 unfold Us
 rw [List.length_append,List.length_map,List.length_take,List.length_drop];omega
theorem mM (m:Nat) (cols:List Int) {j:Nat} (h:j<cols.length):gi (Us m cols j) j=gi cols j:=by
 unfold Us gi
 rw [List.getElem?_append_right (by rw [List.length_map,List.length_take];omega),List.length_map,List.length_take,Nat.min_eq_left (Nat.le_of_lt h),Nat.sub_self,List.getElem?_drop,Nat.add_zero]
theorem cO (m:Nat) (cols:List Int) {j:Nat} (h:j<cols.length):(Us m cols j).set j (KL m (gi cols j))=Us m cols (j+1):=by
 unfold Us
 have ht:((cols.take j).map (KL m)).length=j:=by rw [List.length_map,List.length_take];omega
 rw [List.set_append_right _ _ (by omega),ht,Nat.sub_self,lZ h,List.map_append,List.append_assoc]
 congr 1
 rw [List.drop_eq_getElem_cons h,List.set_cons_zero]
 rfl
theorem pW (m:Nat) (cols:List Int) {j:Nat} (h:j<cols.length) (hc:KL m (gi cols j)=gi cols j):Us m cols (j+1)=Us m cols j:=by
 rw [← cO m cols h,hc,← mM m cols h]
 refine List.ext_getElem? fun i=>?_
 rw [List.getElem?_set]
 by_cases e:j=i
 ·subst e
  rw [if_pos rfl,if_pos (by rw [VP];exact h)]
  unfold gi
  rw [List.getElem?_eq_getElem (by rw [VP];exact h)]
  rfl
 ·rw [if_neg e]
theorem ru (m:Nat) (cols:List Int):Us m cols cols.length=cols.map (KL m):=by
 unfold Us
 rw [List.take_of_length_le (Nat.le_refl _),List.drop_of_length_le (Nat.le_refl _),List.append_nil]
structure Na where
 cols:List Int
 total:Int
 rows:List Int
 BD:List Int
def Na.enc (x:Na):List FV:=[.lst 3 (cells x.cols) x.cols.length,.int .i64 x.total,.lst 3 (cells x.rows) x.rows.length,.lst 3 (cells x.BD) x.BD.length]
instance:Enc Na:={ default:=⟨[],0,[],[]⟩,enc:=Na.enc,size:=4,len:=fun _=>rfl }
def Zr (l:List (List Int)) (m:Nat) (skip:Int):Na:=⟨Xm l l.length m skip,ZJ l l.length m skip,o7 l l.length m skip,qw l l.length m skip⟩
theorem YZ {l:List (List Int)} {m:Nat} {skip B:Int} (e:TypeId) (h:Qv l l.length m skip B) (h0:0<l.length) :
 AZ env 45 [.lst e (cells l) l.length,.int .i64 skip] (.Fp [.p (.agg (Enc.enc (Zr l m skip))),.p (.int .i64 0)]):=by
 have hck:=LW e h
 have hcl:=Ox e h
 have h2:=h.n60
 have h3:=h.pq
 have hrow:=h.LC.row
 have hP:=iW h.LC
 have hw:=YC h.LC
 have hs:=Xf hw
 have hsv:=bU (costs:=DJ l skip l.length) (n:=l.length) (m:=m+(l.length+1)) 52 hw (Oz _ _ _) (fun r hr=>by
  unfold DJ
  rw [gi_map' _ hr,List.length_append,List.length_replicate,hrow r hr]) h0 (by omega)
 have hroom:l.length*(24+1)≤room∧l.length≤2 ^ 40:=⟨by have:=ZG (n:=l.length) (k:=0) (b:=24) (by omega) (by decide);simpa using this,by omega⟩
 refine AZ.enter (AB (by decide)) Tryz.func45 rfl (by kernel_rfl) (by simp [Tryz.ntmps45]) ?_
 repeat' (first|apply Ae.assoc|apply Ae.AA|apply Ae.Aq|apply Ae.Ai|apply Ag.nil|apply Ag.one|(apply Aa.fn;rfl;rfl;exact hck;intro _;rfl)|(apply Aa.fn;rfl;rfl;exact hcl;intro _;rfl)|(apply Aa.makeSlice (n:=l.length);rfl;rfl;rfl;rfl;rfl;exact hroom;decide)|(apply Aa.assign;rfl)|(apply Aa.move;rfl)|(apply Aa.int;rfl;rfl;rfl)|(apply Aa.BL;rfl;rfl)|(apply Aa.alloc;rfl)|(apply Ae.Ar;rfl))
 all_goals try (exfalso;omega)
 all_goals try contradiction
 refine Ae.ghost (AX.a4t 1 (cells (N9 l skip 0)) rfl (by rw [jY];exact Yg _)) ?_
 apply Ae.FD (l.length) [(0,_),(1,_),(4,_),(7,_),(8,_),(26,_),(27,_)] [(0,_)] (fun k r=>(28,.p (.int .i64 (k:Int)))::r) (fun k r=>(1,.vec 52 (cells (N9 l skip k)) l.length false)::r) 2
 ·first|omega|decide
 ·first|omega|decide
 ·repeat (first|exact Ad.nil|(refine Ad.eq rfl ?_ ?_;(first|exact PV.Ap rfl|(simp [PV.under,AV.under];done)))|refine Ad.cons trivial rfl (.of_eq (Au (by simp<;>omega))) ?_)
 ·repeat (first|exact Aj.nil|(refine Aj.eq rfl (Ac rfl) ?_ ?_;(first|exact HB.Ap rfl|exact AV.Ah _ _|(simp [HB.under,AV.under,PV.under];done)))|(refine Aj.cons (Ac rfl) ?_ rfl ?_ ?_;(first|exact trivial|exact AV.Ah _ _|(simp [HB.under,AV.under,PV.under]));(first|exact Bq.refl _|exact Bq.vec (Bl.refl _) (by simp))))
 ·intro k hk
  have hrk:=hrow k hk
  have hsl:=oK l skip (Nat.le_of_lt hk)
  have hst:=og l skip hk
  have hrep:=TL 3 skip (l.length+1) (by omega) (by omega)
  have hlen:(gi l k++List.replicate (l.length+1) skip).length=(gi l k).length+(List.replicate (l.length+1) skip).length:=List.length_append
  have hrl:(List.replicate (l.length+1) skip).length=l.length+1:=List.length_replicate
  have hpc:Gx (.p (.lst 3 (cells (gi l k++List.replicate (l.length+1) skip)) ((gi l k).length+(List.replicate (l.length+1) skip).length)))=(Enc.enc (Ux l skip k)).map .p:=by
   show [PV.p (FV.lst 3 (cells (gi l k++List.replicate (l.length+1) skip)) ((gi l k).length+(List.replicate (l.length+1) skip).length))]=[PV.p (FV.lst 3 (cells (Ux l skip k)) (Ux l skip k).length)]
   rw [show (Ux l skip k).length=_ from hlen];rfl
  by_cases hm:0<m
  ·have hcn:=bM (gi l k) (by omega) (by omega)
   repeat' (first|(refine Ag.I8 42 ?_;refine Ag.ghost (AX.freeze 38 rfl rfl) ?_)|(refine Ag.I8 43 ?_;refine Ag.ghost (AX.freeze 42 rfl rfl) ?_)|(refine Ag.I8 44 ?_;refine Ag.ghost (AX.freeze 43 rfl rfl) ?_)|apply Ae.AA|apply Ae.region|apply Ae.Aq|apply Ae.Ai|apply AO.normal|apply AL.normal|apply Ag.nil|apply Ag.one|(apply Aa.fv;rfl;rfl;exact hcn)|(apply Aa.fv;rfl;rfl;exact hrep)|(apply Aa.DT (y:=Ux l skip k);rfl;rfl;rfl;trivial;exact hpc;rfl;rfl;decide;omega)|(apply Aa.Qk (l:=gi l k) (r:=List.replicate (l.length+1) skip);rfl;rfl;rfl;rfl;exact hrl;rfl;rfl;(intro _ h;cases h);rfl;rfl;rfl;decide;decide;omega)|(apply Aa.assign;rfl)|(apply Aa.move;rfl)|(apply Aa.Bz;rfl;rfl;omega)|(apply Aa.int;rfl;rfl;rfl)|(apply Aa.AU;rfl;rfl;rfl;omega;rfl)|(apply Aa.load;rfl;rfl)|(apply Aa.BL;rfl;rfl)|(apply Aa.buildSlice;rfl;rfl;rfl;decide;rfl;rfl;rfl)|(apply Aa.Dc;rfl;rfl;rfl;rfl;omega)|(apply Ae.Af;rfl)|(intro _;try (exfalso;omega)))
   all_goals try (exfalso;omega)
   refine Az.normal ⟨by first|omega|decide,?_,?_⟩
   ·try (rw [← hst])
    repeat (first|exact Ad.nil|refine Ad.same trivial rfl ?_|refine Ad.same (Ac rfl) rfl ?_|refine Ad.same ⟨trivial,Ac rfl,trivial⟩ rfl ?_|refine Ad.same ⟨trivial,Ac rfl,Ac rfl,trivial⟩ rfl ?_|refine Ad.same ⟨trivial,Ac rfl,Ac rfl,Ac rfl,trivial⟩ rfl ?_|refine Ad.same ⟨trivial,Ac rfl,Ac rfl,Ac rfl,Ac rfl,trivial⟩ rfl ?_|refine Ad.same ⟨trivial,trivial⟩ rfl ?_|refine Ad.cons trivial rfl (.of_eq (Au (by simp<;>omega))) ?_)
   ·rw [← hst]
    repeat (first|exact Aj.nil|(refine Aj.cons (Ac rfl) ?_ rfl ?_ ?_;(first|exact HB.Ap rfl|exact AV.Ah _ _|(simp [HB.under,AV.under,PV.under]));(first|exact Bq.refl _|exact Bq.vec (Bl.refl _) (by simp))))
  ·have hl0:gi l k=[]:=List.length_eq_zero_iff.1 (by omega)
   have a6h:Gx (.p (.lst 3 (cells (List.replicate (l.length+1) skip)) (List.replicate (l.length+1) skip).length))=(Enc.enc (Ux l skip k)).map .p:=by
    rw [show Ux l skip k=List.replicate (l.length+1) skip by unfold Ux;rw [hl0];rfl];rfl
   repeat' (first|(refine Ag.I8 42 ?_;refine Ag.ghost (AX.freeze 38 rfl rfl) ?_)|(refine Ag.I8 43 ?_;refine Ag.ghost (AX.trans (AX.freeze 42 rfl rfl) (AX.adopt 36 3 rfl)) ?_)|(refine Ag.I8 43 ?_;refine Ag.ghost (AX.freeze 42 rfl rfl) ?_)|(refine Ag.I8 44 ?_;refine Ag.ghost (AX.freeze 43 rfl rfl) ?_)|apply Ae.assoc|apply Ae.AA|apply Ae.region|apply Ae.Aq|apply Ae.BU|apply Ae.Ai|apply AO.normal|(apply Bv.ret;rfl)|apply AL.normal|apply Ae.ret|apply Ag.nil|apply Ag.one|(apply yV;rfl;rfl;rfl;exact le_dec rfl)|(apply Aa.fv;rfl;rfl;exact hrep)|(apply Aa.DT (y:=Ux l skip k);rfl;rfl;rfl;trivial;exact a6h;rfl;rfl;decide;omega)|(apply Aa.CS (r:=List.replicate (l.length+1) skip);rfl;rfl;rfl;exact hrl;rfl;rfl;(intro _ h;cases h);rfl;rfl;rfl;decide;decide;omega)|(apply Aa.eqNil;rfl;rfl;rfl;intro b hb)|(apply Aa.DT (y:=Ux l skip k);rfl;rfl;rfl;trivial;exact hpc;rfl;rfl;decide;omega)|(apply Aa.Qk (l:=gi l k) (r:=List.replicate (l.length+1) skip);rfl;rfl;rfl;rfl;exact hrl;rfl;rfl;(intro _ h;cases h);rfl;rfl;rfl;decide;decide;omega)|(apply Aa.assign;rfl)|(apply Aa.move;rfl)|(apply Aa.Bz;rfl;rfl;omega)|(apply Aa.int;rfl;rfl;rfl)|(apply Aa.AU;rfl;rfl;rfl;omega;rfl)|(apply Aa.load;rfl;rfl)|(apply Aa.BL;rfl;rfl)|(apply Aa.buildSlice;rfl;rfl;rfl;decide;rfl;rfl;rfl)|(apply Aa.Dc;rfl;rfl;rfl;rfl;omega)|(apply Aa.CS;rfl;rfl;rfl;(first|rfl|omega|(simp only [List.length_take,List.length_drop,List.length_append,List.length_singleton,List.length_cons,List.length_nil]<;>omega));rfl;rfl;(intro _ h;cases h);rfl;rfl;rfl;decide;decide;(first|omega|(simp only [List.length_take,List.length_drop,List.length_append,List.length_singleton,List.length_cons,List.length_nil]<;>omega)))|(apply Ae.Af;rfl)|(apply Ae.QC;rfl)|(intro _;try (exfalso;omega)))
   all_goals try (exfalso;omega)
   ·refine Az.normal ⟨by first|omega|decide,?_,?_⟩
    ·try (rw [← hst])
     repeat (first|exact Ad.nil|refine Ad.same trivial rfl ?_|refine Ad.same (Ac rfl) rfl ?_|refine Ad.same ⟨trivial,Ac rfl,trivial⟩ rfl ?_|refine Ad.same ⟨trivial,Ac rfl,Ac rfl,trivial⟩ rfl ?_|refine Ad.same ⟨trivial,Ac rfl,Ac rfl,Ac rfl,trivial⟩ rfl ?_|refine Ad.same ⟨trivial,Ac rfl,Ac rfl,Ac rfl,Ac rfl,trivial⟩ rfl ?_|refine Ad.same ⟨trivial,trivial⟩ rfl ?_|refine Ad.cons trivial rfl (.of_eq (Au (by simp<;>omega))) ?_)
    ·rw [← hst]
     repeat (first|exact Aj.nil|(refine Aj.cons (Ac rfl) ?_ rfl ?_ ?_;(first|exact HB.Ap rfl|exact AV.Ah _ _|(simp [HB.under,AV.under,PV.under]));(first|exact Bq.refl _|exact Bq.vec (Bl.refl _) (by simp))))
   ·refine Az.normal ⟨by first|omega|decide,?_,?_⟩
    ·try (rw [← hst])
     repeat (first|exact Ad.nil|refine Ad.same trivial rfl ?_|refine Ad.same (Ac rfl) rfl ?_|refine Ad.same ⟨trivial,Ac rfl,trivial⟩ rfl ?_|refine Ad.same ⟨trivial,Ac rfl,Ac rfl,trivial⟩ rfl ?_|refine Ad.same ⟨trivial,Ac rfl,Ac rfl,Ac rfl,trivial⟩ rfl ?_|refine Ad.same ⟨trivial,Ac rfl,Ac rfl,Ac rfl,Ac rfl,trivial⟩ rfl ?_|refine Ad.same ⟨trivial,trivial⟩ rfl ?_|refine Ad.cons trivial rfl (.of_eq (Au (by simp<;>omega))) ?_)
    ·rw [← hst]
     repeat (first|exact Aj.nil|(refine Aj.cons (Ac rfl) ?_ rfl ?_ ?_;(first|exact HB.Ap rfl|exact AV.Ah _ _|(simp [HB.under,AV.under,PV.under]));(first|exact Bq.refl _|exact Bq.vec (Bl.refl _) (by simp))))
 ·rw [pz]
  have lC:(GH (DJ l skip l.length) l.length (m+(l.length+1))).cols.length=l.length:=hs.len
  have lV:(GZ (DJ l skip l.length) l.length (m+(l.length+1))).length=m+(l.length+1):=hs.lV
  repeat' (first|(refine Ag.I8 47 ?_;refine Ag.ghost (AX.freeze 46 rfl rfl) ?_)|apply Ae.assoc|apply Ae.AA|apply Ae.A8|apply Ae.Ai|apply AO.normal|apply AL.exit|apply Az.exit|apply Ag.nil|apply Ag.one|(apply Aa.mD [] (hsv);rfl;rfl;exact .of_eq rfl;exact AV.Ap rfl;exact Gj rfl;(repeat (first|exact trivial|refine ⟨⟨_,rfl,.of_eq rfl⟩,?_⟩));decide;(intro _ hb;first|(simp at hb;done)|(simp at hb ⊢<;>omega));(rintro _ _ _ ⟨rfl,rfl,rfl⟩))|(apply Aa.sliceTo (l:=GZ (DJ l skip l.length) l.length (m+(l.length+1))) (b:=m);rfl;rfl;rfl;rfl;rfl;exact lV;omega)|(apply Aa.move;rfl)|(apply Aa.int;rfl;rfl;rfl)|(apply Aa.load;rfl;rfl)|(apply Aa.BL;rfl;rfl)|(apply Aa.lenV;rfl;rfl;rfl)|(apply Aa.AP;rfl;rfl;rfl)|(apply Aa.alloc;rfl)|(apply Aa.Bj;rfl;rfl;rfl;trivial;rfl;rfl;exact Ac rfl;exact le_dec rfl)|(apply Ae.Af;rfl)|(intro _;try (exfalso;omega)))
  all_goals try (exfalso;omega)
  all_goals try contradiction
  have eM:Zr l m skip=⟨(GH (DJ l skip l.length) l.length (m+(l.length+1))).cols.map (KL m),(GH (DJ l skip l.length) l.length (m+(l.length+1))).total,JI (DJ l skip l.length) l.length (m+(l.length+1)),(GZ (DJ l skip l.length) l.length (m+(l.length+1))).take m⟩:=rfl
  have XE:=hs.col
  rw [eM]
  generalize (GH (DJ l skip l.length) l.length (m+(l.length+1))).cols=cols at *
  apply Ae.FD (l.length) [(4,_),(7,_),(11,_),(57,_),(58,_)] [(8,_),(0,_)] (fun k r=>(59,.p (.int .i64 (k:Int)))::r) (fun k r=>(7,.vec 3 (cells (Us m cols k)) l.length false)::r) 9
  ·first|omega|decide
  ·first|omega|decide
  ·repeat (first|exact Ad.nil|(refine Ad.eq rfl ?_ ?_;(first|exact PV.Ap rfl|(simp [PV.under,AV.under];done)))|refine Ad.cons trivial rfl (.of_eq (Au (by simp<;>omega))) ?_)
  ·repeat (first|exact Aj.nil|(refine Aj.eq rfl (Ac rfl) ?_ ?_;(first|exact HB.Ap rfl|exact AV.Ah _ _|(simp [HB.under,AV.under,PV.under];done)))|(refine Aj.cons (Ac rfl) ?_ rfl ?_ ?_;(first|exact trivial|exact AV.Ah _ _|(simp [HB.under,AV.under,PV.under]));(first|exact Bq.refl _|exact Bq.vec (Bl.refl _) (by simp))))
  ·intro k hk
   have c1:=VP m cols k
   have c2:=mM m cols (j:=k) (by omega)
   have c3:=cO m cols (j:=k) (by omega)
   have c4:=XE k hk
   by_cases hc:(m:Int)≤gi cols k
   ·have c5:KL m (gi cols k)=-1:=if_pos hc
    rw [c5] at c3
    repeat' (first|apply Ae.AA|apply Ae.region|apply Ae.Aq|apply Ae.Ai|apply AO.normal|apply AL.normal|apply Ag.nil|apply Ag.one|(apply Aa.Dl;rfl;rfl;(first|omega|(simp only [List.length_set]<;>omega));exact congrArg (fun b=>some (FV.int .i64 b)) (c2))|(apply Aa.DT (y:=(-1:Int));rfl;rfl;rfl;trivial;(first|rfl|(refine congrArg (fun t=>[PV.p (FV.int _ t)]) ?_;first|omega|(simp only [Int.natCast_add,Int.natCast_mul,Int.natCast_ediv,Int.natCast_emod]<;>omega)));rfl;rfl;decide;(first|omega|(simp only [List.length_set]<;>omega)))|(apply Aa.assign;rfl)|(apply Aa.move;rfl)|(apply Aa.Bz;rfl;rfl;omega)|(apply Aa.int;rfl;rfl;rfl)|(apply Aa.load;rfl;rfl)|(apply Aa.AP;rfl;rfl;rfl)|(apply Aa.Dc;rfl;rfl;rfl;rfl;omega)|(apply Ae.Af;rfl)|(apply Ae.AY;rfl)|(intro _;try (exfalso;omega)))
    all_goals try (exfalso;omega)
    refine Az.normal ⟨by first|omega|decide,?_,?_⟩
    ·try (rw [← c3])
     repeat (first|exact Ad.nil|refine Ad.same trivial rfl ?_|refine Ad.same (Ac rfl) rfl ?_|refine Ad.same ⟨trivial,Ac rfl,trivial⟩ rfl ?_|refine Ad.same ⟨trivial,Ac rfl,Ac rfl,trivial⟩ rfl ?_|refine Ad.same ⟨trivial,Ac rfl,Ac rfl,Ac rfl,trivial⟩ rfl ?_|refine Ad.same ⟨trivial,Ac rfl,Ac rfl,Ac rfl,Ac rfl,trivial⟩ rfl ?_|refine Ad.same ⟨trivial,trivial⟩ rfl ?_|refine Ad.cons trivial rfl (.of_eq (Au (by simp<;>omega))) ?_)
    ·rw [← c3]
     repeat (first|exact Aj.nil|(refine Aj.cons (Ac rfl) ?_ rfl ?_ ?_;(first|exact HB.Ap rfl|exact AV.Ah _ _|(simp [HB.under,AV.under,PV.under]));(first|exact Bq.refl _|exact Bq.vec (Bl.refl _) (by simp))))
   ·have c5:KL m (gi cols k)=gi cols k:=if_neg hc
    have c6:=pW m cols (j:=k) (by omega) c5
    repeat' (first|apply Ae.AA|apply Ae.region|apply Ae.Aq|apply Ae.Ai|apply AO.normal|apply AL.normal|apply Ae.skip|apply Ag.nil|apply Ag.one|(apply Aa.Dl;rfl;rfl;(first|omega|(simp only [List.length_set]<;>omega));exact congrArg (fun b=>some (FV.int .i64 b)) (c2))|(apply Aa.assign;rfl)|(apply Aa.move;rfl)|(apply Aa.Bz;rfl;rfl;omega)|(apply Aa.int;rfl;rfl;rfl)|(apply Aa.Dc;rfl;rfl;rfl;rfl;omega)|(apply Ae.Af;rfl)|(apply Ae.AY;rfl)|(intro _;try (exfalso;omega)))
    all_goals try (exfalso;omega)
    refine Az.normal ⟨by first|omega|decide,?_,?_⟩
    ·try (rw [c6])
     repeat (first|exact Ad.nil|refine Ad.same trivial rfl ?_|refine Ad.same (Ac rfl) rfl ?_|refine Ad.same ⟨trivial,Ac rfl,trivial⟩ rfl ?_|refine Ad.same ⟨trivial,Ac rfl,Ac rfl,trivial⟩ rfl ?_|refine Ad.same ⟨trivial,Ac rfl,Ac rfl,Ac rfl,trivial⟩ rfl ?_|refine Ad.same ⟨trivial,Ac rfl,Ac rfl,Ac rfl,Ac rfl,trivial⟩ rfl ?_|refine Ad.same ⟨trivial,trivial⟩ rfl ?_|refine Ad.cons trivial rfl (.of_eq (Au (by simp<;>omega))) ?_)
    ·rw [c6]
     repeat (first|exact Aj.nil|(refine Aj.cons (Ac rfl) ?_ rfl ?_ ?_;(first|exact HB.Ap rfl|exact AV.Ah _ _|(simp [HB.under,AV.under,PV.under]));(first|exact Bq.refl _|exact Bq.vec (Bl.refl _) (by simp))))
  ·have c7:=ru m cols
   rw [lC] at c7
   rw [c7]
   have f1:(cols.map (KL m)).length=l.length:=by rw [List.length_map];exact lC
   have f2:=hs.lU
   have f3:((GZ (DJ l skip l.length) l.length (m+(l.length+1))).take m).length=m:=by rw [List.length_take,lV];omega
   generalize cols.map (KL m)=C at *
   generalize (GZ (DJ l skip l.length) l.length (m+(l.length+1))).take m=V at *
   have hfin:∀ (t:Int) (U:List Int),U.length=l.length→PV.Fp [.p (.agg [.lst 3 (cells C) l.length,.int .i64 t,.lst 3 (cells U) l.length,.lst 3 (cells V) m]),.p (.int .i64 0)]=PV.Fp [.p (.agg (Enc.enc (⟨C,t,U,V⟩:Na))),.p (.int .i64 0)]:=fun t U f2=>by
    show _=PV.Fp [.p (.agg [.lst 3 (cells C) C.length,.int .i64 t,.lst 3 (cells U) U.length,.lst 3 (cells V) V.length]),.p (.int .i64 0)]
    rw [f1,f2,f3]
   repeat' (first|(refine Ae.at 20 ?_;refine Ae.ghost (AX.Bh 8 0 rfl rfl rfl) ?_;first|apply Ae.AA|apply Ae.BA)|apply Ae.AA|apply Ae.A8|apply AO.normal|apply AL.exit|apply Az.exit|apply Ae.ret|apply Ag.nil|apply Ag.one|(apply Aa.assign;rfl)|(apply Aa.int;rfl;rfl;rfl)|(apply Aa.load;rfl;rfl)|(apply Aa.Bj;rfl;rfl;rfl;trivial;rfl;rfl;exact Ac rfl;exact le_dec rfl)|(apply Ae.Af;rfl)|(intro _;try (exfalso;omega)))
   all_goals try (exfalso;omega)
   all_goals (refine Done.ret rfl (.refl _) (by first|exact trivial|exact ⟨trivial,trivial,trivial⟩|exact ⟨trivial,trivial,trivial,trivial⟩) Aj.nil (Nat.zero_le _) (Nat.le_refl _) ⟨?_,rfl,rfl⟩;exact hfin _ _ f2)
theorem dY (e:TypeId):AZ env 72 [.lst e [] 0] (.p (.agg (Enc.enc (⟨[],0,[],[]⟩:Na)))):=by
 have XE:AZ env 69 [.lst e [] 0] (.p (.int .i64 0)):=LH e [] (by decide)
 refine AZ.enter (AB (by decide)) Tryz.func72 rfl (by kernel_rfl) (by simp [Tryz.ntmps72]) ?_
 repeat' (first|apply Ae.assoc|apply Ae.AA|apply Ae.BA|apply Ae.Ai|apply Ag.nil|apply Ak.nil|apply Ag.one|(apply Ak.bar;decide +kernel)|apply Ak.quiet|(apply Aa.fn;rfl;rfl;exact XE;intro _;rfl)|(apply Aa.Ep 1 (0:Int);rfl;rfl;rfl;rfl;rfl;rfl;rfl;decide;decide;decide;rfl)|(apply Aa.assign;rfl)|(apply Aa.move;rfl)|(apply Aa.Bz;rfl;rfl;omega)|(apply Aa.BL;rfl;rfl)|(apply Aa.alloc;rfl))
 all_goals try (exfalso;omega)
 apply Ae.FD (0) [(2,_),(3,_),(4,_),(5,_),(6,_),(7,_)] [(0,_),(1,_),(2,_),(3,_)] (fun k r=>(9,.p (.int .i64 ((k+1:Nat):Int)))::r) (fun k r=>r) 5
 ·first|omega|decide
 ·first|omega|decide
 ·repeat (first|exact Ad.nil|(refine Ad.eq rfl ?_ ?_;(first|exact PV.Ap rfl|(simp [PV.under,AV.under];done)))|refine Ad.cons trivial rfl (.of_eq (Au (by simp<;>omega))) ?_)
 ·repeat (first|exact Aj.nil|(refine Aj.eq rfl (Ac rfl) ?_ ?_;(first|exact HB.Ap rfl|exact AV.Ah _ _|(simp [HB.under,AV.under,PV.under];done)))|(refine Aj.cons (Ac rfl) ?_ rfl ?_ ?_;(first|exact trivial|exact AV.Ah _ _|(simp [HB.under,AV.under,PV.under]));(first|exact Bq.refl _|exact Bq.vec (Bl.refl _) (by simp))))
 ·intro k hk;omega
 ·repeat' (first|(refine Ae.at 34 ?_;refine Ae.ghost (AX.freeze 5 rfl rfl) ?_;first|apply Ae.AA|apply Ae.BA)|(refine Ak.atIdx 4 ?_;refine Ak.ghost (AX.freeze 6 rfl rfl) ?_)|apply Ae.assoc|apply Ae.AA|apply Ae.A8|apply Ae.Ai|apply AO.normal|apply AL.exit|apply Az.exit|apply Ag.nil|apply Ak.nil|apply Ag.one|(apply Ak.bar;decide +kernel)|apply Ak.quiet|(apply Aa.Ep 0 (0:Int);rfl;rfl;rfl;rfl;rfl;rfl;rfl;decide;decide;decide;rfl)|(apply Aa.sliceFrom (l:=[(0:Int)]) (a:=1);rfl;rfl;rfl;rfl;rfl;rfl;decide)|(apply Aa.assign;rfl)|(apply Aa.move;rfl)|(apply Aa.int;rfl;rfl;rfl)|(apply Aa.alloc;rfl)|(apply Aa.Bj;rfl;rfl;rfl;trivial;rfl;rfl;exact Ac rfl;exact le_dec rfl)|(apply Aa.build;rfl;rfl;rfl;rfl;rfl)|(apply Ae.Ar;rfl))
  all_goals try (exfalso;omega)
  apply Ae.FD (0) [(2,_),(3,_),(4,_),(7,_),(19,_)] [(0,_),(3,_),(5,_),(6,_)] (fun k r=>(20,.p (.int .i64 ((k+1:Nat):Int)))::r) (fun k r=>r) 7
  ·first|omega|decide
  ·first|omega|decide
  ·repeat (first|exact Ad.nil|(refine Ad.eq rfl ?_ ?_;(first|exact PV.Ap rfl|(simp [PV.under,AV.under];done)))|refine Ad.cons trivial rfl (.of_eq (Au (by simp<;>omega))) ?_)
  ·repeat (first|exact Aj.nil|(refine Aj.eq rfl (Ac rfl) ?_ ?_;(first|exact HB.Ap rfl|exact AV.Ah _ _|(simp [HB.under,AV.under,PV.under];done)))|(refine Aj.cons (Ac rfl) ?_ rfl ?_ ?_;(first|exact trivial|exact AV.Ah _ _|(simp [HB.under,AV.under,PV.under]));(first|exact Bq.refl _|exact Bq.vec (Bl.refl _) (by simp))))
  ·intro k hk;omega
  ·repeat' (first|(refine Ae.at 42 ?_;refine Ae.ghost (AX.Bh 6 0 rfl rfl rfl) ?_;first|apply Ae.AA|apply Ae.BA)|apply Ae.assoc|apply Ae.AA|apply Ae.A8|apply AO.normal|apply AL.exit|apply Az.exit|apply Ae.ret|apply Ag.nil|apply Ag.one|(apply Aa.move;rfl)|(apply Aa.int;rfl;rfl;rfl)|(apply Aa.load;rfl;rfl)|(apply Aa.Bj;rfl;rfl;rfl;trivial;rfl;rfl;exact Ac rfl;exact le_dec rfl)|(apply Ae.Ar;rfl))
   all_goals first|(exfalso;omega)|(refine Done.ret rfl (.refl _) (by first|exact trivial|exact ⟨trivial,trivial,trivial⟩|exact ⟨trivial,trivial,trivial,trivial⟩) Aj.nil (Nat.zero_le _) (Nat.le_refl _) ⟨?_,rfl,rfl⟩;try rfl)
theorem Xw {skip:Int} (e:TypeId) (hk:0≤skip∧skip≤1000000000):AZ env 45 [.lst e (cells ([]:List (List Int))) 0,.int .i64 skip] (.Fp [.p (.agg (Enc.enc (⟨[],0,[],[]⟩:Na))),.p (.int .i64 0)]):=by
 have hM:Qv [] 0 0 skip 1000000000:=⟨⟨rfl,fun r hr=>by omega,fun r k hr=>by omega,hk,by decide⟩,by omega,by omega,by decide,fun _=>rfl⟩
 have hck:=LW e hM
 have hcl:=Ox e hM
 have hs:=dY 52
 refine AZ.enter (AB (by decide)) Tryz.func45 rfl (by kernel_rfl) (by simp [Tryz.ntmps45]) ?_
 repeat' (first|apply Ae.assoc|apply Ae.AA|apply Ae.Aq|apply Ae.Ai|apply Ag.nil|apply Ag.one|(apply Aa.fn;rfl;rfl;exact hck;intro _;rfl)|(apply Aa.fn;rfl;rfl;exact hcl;intro _;rfl)|(apply Aa.makeSlice (n:=0);rfl;rfl;rfl;rfl;rfl;decide;decide)|(apply Aa.assign;rfl)|(apply Aa.move;rfl)|(apply Aa.int;rfl;rfl;rfl)|(apply Aa.BL;rfl;rfl)|(apply Aa.alloc;rfl)|(apply Ae.Ar;rfl))
 all_goals try (exfalso;omega)
 all_goals try contradiction
 apply Ae.FD (0) [(0,_),(1,_),(4,_),(7,_),(8,_),(26,_),(27,_)] [(0,_),(1,_)] (fun k r=>(28,.p (.int .i64 (k:Int)))::r) (fun k r=>r) 2
 ·first|omega|decide
 ·first|omega|decide
 ·repeat (first|exact Ad.nil|(refine Ad.eq rfl ?_ ?_;(first|exact PV.Ap rfl|(simp [PV.under,AV.under];done)))|refine Ad.cons trivial rfl (.of_eq (Au (by simp<;>omega))) ?_)
 ·repeat (first|exact Aj.nil|(refine Aj.eq rfl (Ac rfl) ?_ ?_;(first|exact HB.Ap rfl|exact AV.Ah _ _|(simp [HB.under,AV.under,PV.under];done)))|(refine Aj.cons (Ac rfl) ?_ rfl ?_ ?_;(first|exact trivial|exact AV.Ah _ _|(simp [HB.under,AV.under,PV.under]));(first|exact Bq.refl _|exact Bq.vec (Bl.refl _) (by simp))))
 ·intro k hk;omega
 ·repeat' (first|(refine Ag.I8 47 ?_;refine Ag.ghost (AX.freeze 46 rfl rfl) ?_)|apply Ae.assoc|apply Ae.AA|apply Ae.Aq|apply Ae.A8|apply Ae.Ai|apply AO.normal|apply AL.exit|apply Az.exit|apply Ag.nil|apply Ag.one|(apply Aa.fn;rfl;rfl;exact hs;intro _;rfl)|(apply Aa.move;rfl)|(apply Aa.int;rfl;rfl;rfl)|(apply Aa.load;rfl;rfl)|(apply Aa.BL;rfl;rfl)|(apply Aa.AP;rfl;rfl;rfl)|(apply Aa.alloc;rfl)|(apply Aa.Bj;rfl;rfl;rfl;trivial;rfl;rfl;exact Ac rfl;exact le_dec rfl)|(apply Ae.Ar;rfl))
  all_goals try (exfalso;omega)
  all_goals try contradiction
  apply Ae.FD (0) [(4,_),(7,_),(11,_),(57,_),(58,_)] [(0,_),(2,_)] (fun k r=>(59,.p (.int .i64 (k:Int)))::r) (fun k r=>r) 3
  ·first|omega|decide
  ·first|omega|decide
  ·repeat (first|exact Ad.nil|(refine Ad.eq rfl ?_ ?_;(first|exact PV.Ap rfl|(simp [PV.under,AV.under];done)))|refine Ad.cons trivial rfl (.of_eq (Au (by simp<;>omega))) ?_)
  ·repeat (first|exact Aj.nil|(refine Aj.eq rfl (Ac rfl) ?_ ?_;(first|exact HB.Ap rfl|exact AV.Ah _ _|(simp [HB.under,AV.under,PV.under];done)))|(refine Aj.cons (Ac rfl) ?_ rfl ?_ ?_;(first|exact trivial|exact AV.Ah _ _|(simp [HB.under,AV.under,PV.under]));(first|exact Bq.refl _|exact Bq.vec (Bl.refl _) (by simp))))
  ·intro k hk;omega
  ·repeat' (first|apply Ae.AA|apply Ae.A8|apply AO.normal|apply AL.exit|apply Az.exit|apply Ae.ret|apply Ag.nil|apply Ag.one|(apply Aa.assign;rfl)|(apply Aa.int;rfl;rfl;rfl)|(apply Aa.load;rfl;rfl)|(apply Aa.Bj;rfl;rfl;rfl;trivial;rfl;rfl;exact Ac rfl;exact le_dec rfl)|(apply Ae.Ar;rfl))
   all_goals first|(exfalso;omega)|(refine Done.ret rfl (.refl _) (by first|exact trivial|exact ⟨trivial,trivial,trivial⟩|exact ⟨trivial,trivial,trivial,trivial⟩) Aj.nil (Nat.zero_le _) (Nat.le_refl _) ⟨?_,rfl,rfl⟩;try rfl)
end Go.Proofs.YtdabojnmoejilaaGreatDoor
namespace Go.Hun
open Go Go.Am Go.Vm
def fJ (row:List Int) (g:Nat→Int) (t:Nat) (b:Int):Nat→Int
 |0=>b
 |k+1=>if t.testBit k then fJ row g t b k else min (fJ row g t b k) (gi row k+g (t ||| 2 ^ k))
def Zm (l:List (List Int)) (skip:Int) (m n:Nat):Nat→Nat→Int
 |0,_=>0
 |r+1,t=>fJ (gi l (n-(r+1))) (Zm l skip m n r) t (skip+Zm l skip m n r t) m
def TY (f:Nat→Int) (n:Nat):Nat→Int
 |0=>0
 |r+1=>f (n-(r+1))+TY f n r
theorem TS (f:Nat→Int) (n:Nat):∀ r,r≤n→Dy f (n-r)+TY f n r=Dy f n
 |0,_=>by simp [TY]
 |r+1,h=>by
  have ih:=TS f n r (by omega)
  have e:n-r=(n-(r+1))+1:=by omega
  rw [e] at ih
  simp only [Dy] at ih
  simp only [TY]
  omega
theorem qh (f:Nat→Int) (n:Nat):TY f n n=Dy f n:=by
 have:=TS f n n (Nat.le_refl _)
 rw [Nat.sub_self] at this
 simp only [Dy] at this
 omega
structure a9i (n m r t:Nat) (cols:Nat→Int):Prop where
 rng:∀ q,n-r≤q→q<n→-1≤cols q∧cols q<m
 inj:∀ p q,n-r≤p→p<n→n-r≤q→q<n→0≤cols p→cols p=cols q→p=q
 free:∀ q,n-r≤q→q<n→0≤cols q→t.testBit (cols q).toNat=false
end Go.Hun
namespace Go.Proofs.YtdabojnmoejilaaGreatDoor
open Go Go.Am Go.Vm Go.Hun
attribute [local irreducible] Aa Ag Ak Ae BH AZ CW AO AL Az Vm.Done Di Bv Zu
theorem mQ {L:Vm.Frame} {H:Vm.Heap} {nx:Nat} {Q:PV→Vm.Heap→Nat→Prop} {dst:Option Tmp} {ty:TypeId} {pos:String} {af:Array Edge} {gd:Option (Nat×Bool)} {fo:Operand} {args:Array Operand} {aT:Array TypeId} {fs cs xs:List PV} {c:Code}
 (hf:BG env.Γ L fo=some (.clo 103 fs cs)) (ha:evs env.Γ L args.toList=some xs) (hb:Tryz.f103.body=some c) (hn:(fs++xs++cs).length≤Tryz.f103.ntmps)
 (h:Ae env nx c (CQ 0 (fs++xs++cs)) H nx (Bv env.P Tryz.f103.results.toList Q)):Aa env true ⟨dst,.call { callee:=.value fo,args:=args,argTypes:=aT },ty,pos,af,gd⟩ L H nx Q:=by
 have h0:(match Tryz.f103.body with|some c=>H6 env.G Tryz.f103 c|none=>false)=true:=by kernel_rfl
 rw [hb] at h0
 exact Aa.inline rfl hf ha (AB (by decide)) Tryz.func103 hb h0 hn h
theorem lT {L:Vm.Frame} {H:Vm.Heap} {nx:Nat} {Q:PV→Vm.Heap→Nat→Prop} {dst:Option Tmp} {ty:TypeId} {pos:String} {af:Array Edge} {gd:Option (Nat×Bool)} {fo:Operand} {args:Array Operand} {aT:Array TypeId} {fs cs xs:List PV} {c:Code}
 (hf:BG env.Γ L fo=some (.clo 76 fs cs)) (ha:evs env.Γ L args.toList=some xs) (hb:Tryz.f76.body=some c) (hn:(fs++xs++cs).length≤Tryz.f76.ntmps)
 (h:Ae env nx c (CQ 0 (fs++xs++cs)) H nx (Bv env.P Tryz.f76.results.toList Q)):Aa env true ⟨dst,.call { callee:=.value fo,args:=args,argTypes:=aT },ty,pos,af,gd⟩ L H nx Q:=by
 have h0:(match Tryz.f76.body with|some c=>H6 env.G Tryz.f76 c|none=>false)=true:=by kernel_rfl
 rw [hb] at h0
 exact Aa.inline rfl hf ha (AB (by decide)) Tryz.func76 hb h0 hn h
def XI (l:List (List Int)) (m:Nat) (skip:Int) (cols:List Int):Nat→Nat→List Bool→Int→Int×Int
 |0,_,_,sum=>(sum,0)
 |r+1,k,used,sum =>
  if gi cols k< -1∨gi cols k≥m then (0,3)
  else if gi cols k<0 then XI l m skip cols r (k+1) used (sum+skip)
  else if gi used (gi cols k).toNat=true then (0,9)
  else XI l m skip cols r (k+1) (used.set (gi cols k).toNat true) (sum+gi (gi l k) (gi cols k).toNat)
def YR (l:List (List Int)) (m:Nat) (skip:Int) (cols:List Int):Int×Int:=if cols.length≠l.length then (0,5) else XI l m skip cols l.length 0 (List.replicate m false) 0
theorem jJ {l:List (List Int)} {m:Nat} {skip B:Int} (e:TypeId) (h:Qv l l.length m skip B) (cols:List Int) :
 AZ env 47 [.lst e (cells l) l.length,.lst 3 (cells cols) cols.length,.int .i64 (-1),.int .i64 skip] (.Fp [.p (.int .i64 (YR l m skip cols).1),.p (.int .i64 (YR l m skip cols).2)]):=by
 have hcl:=Ox e h
 have h2:=h.n60
 have h3:=h.pq
 have h4:=h.B9
 have hrow:=h.LC.row
 have tJ:=h.LC.rng
 have hsk:=h.LC.skip
 unfold YR
 refine AZ.enter (AB (by decide)) Tryz.func47 rfl (by kernel_rfl) (by simp [Tryz.ntmps47]) ?_
 by_cases hlen:cols.length=l.length
 case neg =>
  rw [if_pos hlen]
  repeat' (first|apply Ae.assoc|apply Ae.AA|apply Ae.BU|apply Ag.nil|apply Ag.one|(apply Aa.assign;rfl)|(apply Aa.move;rfl)|(apply Aa.int;rfl;rfl;rfl)|(apply Aa.BL;rfl;rfl)|(apply Ae.Af;rfl)|(intro _;try (exfalso;omega)))
  all_goals first|(exfalso;omega)|contradiction|(refine Done.ret rfl (.refl _) (by first|exact trivial|exact ⟨trivial,trivial,trivial⟩|exact ⟨trivial,trivial,trivial,trivial⟩) Aj.nil (Nat.zero_le _) (Nat.le_refl _) ⟨?_,rfl,rfl⟩;try rfl)
 rw [if_neg (fun x=>x hlen)]
 repeat' (first|apply Ae.assoc|apply Ae.AA|apply Ae.Aq|apply Ae.Ai|apply Ag.nil|apply Ag.one|(apply Aa.fn;rfl;rfl;exact hcl;intro _;rfl)|(apply Aa.Ep m false;rfl;rfl;rfl;rfl;rfl;rfl;rfl;omega;decide;decide;rfl)|(apply Aa.assign;rfl)|(apply Aa.move;rfl)|(apply Aa.int;rfl;rfl;rfl)|(apply Aa.BL;rfl;rfl)|(apply Ae.Af;rfl)|(intro _;try (exfalso;omega)))
 all_goals try (exfalso;omega)
 obtain ⟨R,hR⟩:∃ R,R=XI l m skip cols l.length 0 (List.replicate m false) 0:=⟨_,rfl⟩
 rw [← hR]
 refine Ae.Ec (fun s:Nat×List Bool×Int=>[(0,.p (.lst e (cells l) l.length)),(2,.p (.int .i64 (-1))),(3,.p (.int .i64 skip)),(10,.p (.int .i64 s.2.2)),(11,.vec 0 m 0 m),(22,.p (.lst 3 (cells cols) cols.length)),(23,.p (.int .i64 (cols.length:Int))),(24,.p (.int .i64 (s.1:Int)))]) (fun s=>[(0,.vec 4 (cells s.2.1) m false)]) 1
  (fun s=>s.1≤l.length∧s.2.1.length=m∧0≤s.2.2∧s.2.2≤s.1*B∧XI l m skip cols (l.length-s.1) s.1 s.2.1 s.2.2=R) (fun s=>l.length-s.1) (0,List.replicate m false,0) (by omega) ⟨Nat.zero_le _,by simp,by simp,by simp,hR.symm⟩ ⟨by omega,?_,?_⟩ ?_
 ·repeat (first|exact Ad.nil|refine Ad.same trivial rfl ?_|refine Ad.same (Ac rfl) rfl ?_|refine Ad.same ⟨trivial,Ac rfl,Ac rfl,Ac rfl,trivial⟩ rfl ?_|refine Ad.same ⟨trivial,Ac rfl,Ac rfl,trivial⟩ rfl ?_|refine Ad.same ⟨trivial,trivial⟩ rfl ?_|refine Ad.cons trivial rfl (.of_eq (Au (by simp<;>omega))) ?_)
 ·repeat (first|exact Aj.nil|(refine Aj.cons (Ac rfl) ?_ rfl ?_ ?_;(first|exact HB.Ap rfl|exact AV.Ah _ _|(simp [HB.under,AV.under,PV.under]));(first|exact Bq.refl _|exact Bq.vec (Bl.refl _) (by simp))))
 rintro ⟨k,used,sum⟩ ⟨i1,i2,i3,i4,i5⟩
 simp only at i1 i2 i3 i4 i5 ⊢
 have hkB:(k:Int)*B≤60*1000000000:=Int.mul_le_mul (by omega) h4 (by omega) (by omega)
 by_cases hk:k<l.length
 ·obtain ⟨r,hr⟩:∃ r,l.length-k=r+1:=⟨l.length-k-1,by omega⟩
  rw [hr] at i5
  have hr':l.length-(k+1)=r:=by omega
  have b1l:((k+1:Nat):Int)*B=(k:Int)*B+B:=by rw [Int.natCast_add,Int.add_mul];simp
  unfold XI at i5
  by_cases c1:gi cols k< -1∨gi cols k≥m
  ·rw [if_pos c1] at i5
   rw [← i5]
   repeat' (first|apply Ae.AA|apply Ae.Aq|apply Ae.Ai|apply AO.ret|apply AL.ret|apply Az.ret|apply Ae.ret|apply Ag.nil|apply Ag.one|(apply Ag.take;rfl;rfl)|(apply Ag.drop;rfl;rfl;rfl)|(apply Ag.guard;rfl;rfl)|(apply Aa.assign;rfl)|(apply Aa.move;rfl)|(apply Aa.int;rfl;rfl;rfl)|(apply Aa.AU;rfl;rfl;rfl;omega;rfl)|(apply Aa.load;rfl;rfl)|(apply Aa.BJ;rfl;rfl)|(apply Aa.AQ;rfl;rfl)|(apply Aa.lenV;rfl;rfl;rfl)|(apply Ae.Af;rfl)|(apply Ae.cond_true;rfl)|(apply Ae.AY;rfl)|(intro _;try (exfalso;omega)))
   all_goals first|(exfalso;omega)|contradiction|(refine Done.ret rfl (.refl _) (by first|exact trivial|exact ⟨trivial,trivial,trivial⟩|exact ⟨trivial,trivial,trivial,trivial⟩) Aj.nil (Nat.zero_le _) (Nat.le_refl _) ⟨?_,rfl,rfl⟩;try rfl)
  rw [if_neg c1] at i5
  by_cases c2:gi cols k<0
  ·rw [if_pos c2] at i5
   repeat' (first|apply Ae.AA|apply Ae.region|apply Ae.Aq|apply Ae.Ai|apply AO.normal|apply AO.exit|apply AL.exit|(apply AL.out;decide)|apply Ae.exit|apply Ag.nil|apply Ag.one|(apply Ag.take;rfl;rfl)|(apply Ag.guard;rfl;rfl)|(apply Aa.assign;rfl)|(apply Aa.move;rfl)|(apply Aa.Bz;rfl;rfl;omega)|(apply Aa.int;rfl;rfl;rfl)|(apply Aa.AU;rfl;rfl;rfl;omega;rfl)|(apply Aa.load;rfl;rfl)|(apply Aa.AQ;rfl;rfl)|(apply Aa.lenV;rfl;rfl;rfl)|(apply Ae.Af;rfl)|(apply Ae.AY;rfl)|(intro _;try (exfalso;omega)))
   all_goals try (exfalso;omega)
   refine Az.normal ⟨(k+1,used,sum+skip),⟨hk,i2,by simp only;omega,by simp only;omega,by simp only;rw [hr'];exact i5⟩,by simp only;omega,⟨by omega,?_,?_⟩⟩
   ·repeat (first|exact Ad.nil|refine Ad.same trivial rfl ?_|refine Ad.same (Ac rfl) rfl ?_|refine Ad.same ⟨trivial,Ac rfl,Ac rfl,Ac rfl,trivial⟩ rfl ?_|refine Ad.same ⟨trivial,Ac rfl,Ac rfl,trivial⟩ rfl ?_|refine Ad.same ⟨trivial,trivial⟩ rfl ?_|refine Ad.cons trivial rfl (.of_eq (Au (by simp<;>omega))) ?_)
   ·repeat (first|exact Aj.nil|(refine Aj.cons (Ac rfl) ?_ rfl ?_ ?_;(first|exact HB.Ap rfl|exact AV.Ah _ _|(simp [HB.under,AV.under,PV.under]));(first|exact Bq.refl _|exact Bq.vec (Bl.refl _) (by simp))))
  rw [if_neg c2] at i5
  obtain ⟨j,hj⟩:∃ j:Nat,gi cols k=j:=⟨(gi cols k).toNat,by omega⟩
  rw [hj,Int.toNat_natCast] at i5
  have hjm:j<m:=by omega
  have hc:=tJ k j hk hjm
  have hrl:=hrow k hk
  by_cases c3:gi used j=true
  ·rw [if_pos c3] at i5
   rw [← i5]
   repeat' (first|apply Ae.AA|apply Ae.Aq|apply Ae.Ai|apply AO.ret|apply AL.ret|apply Az.ret|apply Ae.ret|apply Ag.nil|apply Ag.one|(apply Ag.take;rfl;rfl)|(apply Aa.Dl;rfl;rfl;(first|omega|(simp only [N8]<;>omega));exact congrArg (fun b=>some (FV.bool b)) (c3))|(apply Aa.load;rfl;exact congrArg (fun a=>some (PV.p (FV.int .i64 a))) hj)|(apply Aa.assign;rfl)|(apply Aa.move;rfl)|(apply Aa.int;rfl;rfl;rfl)|(apply Aa.AU;rfl;rfl;rfl;omega;rfl)|(apply Aa.AQ;rfl;rfl)|(apply Aa.lenV;rfl;rfl;rfl)|(apply Aa.Dc;rfl;rfl;rfl;rfl;omega)|(apply Ae.Af;rfl)|(apply Ae.cond_true;rfl)|(apply Ae.cond_false;rfl)|(apply Ae.AY;rfl)|(intro _;try (exfalso;omega)))
   all_goals first|(exfalso;omega)|contradiction|(refine Done.ret rfl (.refl _) (by first|exact trivial|exact ⟨trivial,trivial,trivial⟩|exact ⟨trivial,trivial,trivial,trivial⟩) Aj.nil (Nat.zero_le _) (Nat.le_refl _) ⟨?_,rfl,rfl⟩;try rfl)
  ·rw [if_neg c3] at i5
   have c3':gi used j=false:=by cases h:gi used j<;>simp_all
   repeat' (first|apply Ae.AA|apply Ae.region|apply Ae.Aq|apply Ae.Ai|apply AO.normal|apply AL.normal|apply Ae.skip|apply Ag.nil|apply Ag.one|(apply Ag.take;rfl;rfl)|(apply Aa.Dl;rfl;rfl;(first|omega|(simp only [N8]<;>omega));exact congrArg (fun b=>some (FV.bool b)) (c3'))|(apply Aa.load;rfl;exact congrArg (fun a=>some (PV.p (FV.int .i64 a))) hj)|(apply Aa.DT (y:=true);rfl;rfl;rfl;trivial;(first|rfl|(refine congrArg (fun t=>[PV.p (FV.int _ t)]) ?_;first|omega|(simp only [Int.natCast_add,Int.natCast_mul,Int.natCast_ediv,Int.natCast_emod]<;>omega)));rfl;rfl;decide;(first|omega|(simp only [List.length_set]<;>omega)))|(apply Aa.assign;rfl)|(apply Aa.move;rfl)|(apply Aa.Bz;rfl;rfl;omega)|(apply Aa.int;rfl;rfl;rfl)|(apply Aa.AU;rfl;rfl;rfl;omega;rfl)|(apply Aa.load;rfl;rfl)|(apply Aa.AQ;rfl;rfl)|(apply Aa.lenV;rfl;rfl;rfl)|(apply Aa.Dc;rfl;rfl;rfl;rfl;omega)|(apply Ae.Af;rfl)|(apply Ae.cond_false;rfl)|(apply Ae.AY;rfl)|(intro _;try (exfalso;omega)))
   all_goals try (exfalso;omega)
   refine Az.normal ⟨(k+1,used.set j true,sum+gi (gi l k) j),⟨hk,by simp only;rw [List.length_set];exact i2,by simp only;omega,by simp only;omega,by simp only;rw [hr'];exact i5⟩,by simp only;omega,⟨by omega,?_,?_⟩⟩
   ·repeat (first|exact Ad.nil|refine Ad.same trivial rfl ?_|refine Ad.same (Ac rfl) rfl ?_|refine Ad.same ⟨trivial,Ac rfl,Ac rfl,Ac rfl,trivial⟩ rfl ?_|refine Ad.same ⟨trivial,Ac rfl,Ac rfl,trivial⟩ rfl ?_|refine Ad.same ⟨trivial,trivial⟩ rfl ?_|refine Ad.cons trivial rfl (.of_eq (Au (by simp<;>omega))) ?_)
   ·repeat (first|exact Aj.nil|(refine Aj.cons (Ac rfl) ?_ rfl ?_ ?_;(first|exact HB.Ap rfl|exact AV.Ah _ _|(simp [HB.under,AV.under,PV.under]));(first|exact Bq.refl _|exact Bq.vec (Bl.refl _) (by simp))))
 ·obtain rfl:k=l.length:=by omega
  rw [Nat.sub_self] at i5
  unfold XI at i5
  rw [← i5]
  repeat' (first|apply Ae.AA|apply Ae.A8|apply AO.normal|apply AL.exit|apply Az.exit|apply Ae.ret|apply Ag.nil|apply Ag.one|(apply Aa.assign;rfl)|(apply Aa.move;rfl)|(apply Aa.int;rfl;rfl;rfl)|(apply Ae.Af;rfl)|(intro _;try (exfalso;omega)))
  all_goals first|(exfalso;omega)|contradiction|(refine Done.ret rfl (.refl _) (by first|exact trivial|exact ⟨trivial,trivial,trivial⟩|exact ⟨trivial,trivial,trivial,trivial⟩) Aj.nil (Nat.zero_le _) (Nat.le_refl _) ⟨?_,rfl,rfl⟩;try rfl)
theorem YU (a b:List Int) (h0:a.length+b.length=0):CW env 102 [.lst 52 [.lst 3 (cells a) a.length,.lst 3 (cells b) b.length] 2] 3 (cells (a++b)) (a.length+b.length) true:=by
 have hg:=oJ
 have e0:(0:Int)=0+(a.length:Int)+(b.length:Int):=by omega
 rw [e0] at hg
 refine CW.enter (AB (by decide)) Tryz.func102 rfl (by kernel_rfl) (by simp [Tryz.ntmps102]) ?_
 repeat' (first|apply Ae.assoc|apply Ae.AA|apply Ae.Ai|apply Ag.nil|apply Ag.one|(apply Aa.assign;rfl)|(apply Aa.move;rfl)|(apply Aa.BL;rfl;rfl))
 refine Ae.mF 2 ?_
 repeat' (first|apply Ae.assoc|apply Ae.AA|apply Ae.region|apply Ae.Aq|apply Ae.A8|apply Ae.Ai|apply AO.normal|apply AL.normal|apply AL.exit|apply Az.exit|apply Ae.skip|apply Ag.nil|apply Ag.one|(apply Aa.fn;rfl;rfl;exact hg;intro _;rfl)|(apply Zu.zero)|(apply Zu.succ)|(apply Az.again)|(apply Aa.Sv;rfl;rfl;rfl;decide;decide)|(apply Aa.assign;rfl)|(apply Aa.move;rfl)|(apply Aa.Bz;rfl;rfl;omega)|(apply Aa.int;rfl;rfl;rfl)|(apply Aa.load;rfl;rfl)|(apply Aa.BL;rfl;rfl)|(apply Ae.Bg;rfl)|(apply Ae.Ar;rfl)|(apply Ae.cond_false;rfl))
 refine Ae.ghost (AX.adopt 6 3 rfl) ?_
 refine Ae.mF 2 ?_
 repeat' (first|apply Ae.AA|apply Ae.region|apply Ae.Aq|apply Ae.A8|apply Ae.Ai|apply AO.normal|apply AL.normal|apply AL.exit|apply Az.exit|apply Ae.ret|apply Ag.nil|apply Ag.one|(apply Zu.zero)|(apply Zu.succ)|(apply Az.again)|(apply Aa.Sv;rfl;rfl;rfl;decide;decide)|(apply Aa.Qk (l:=a) (r:=b);rfl;rfl;rfl;rfl;rfl;rfl;rfl;(intro _ h;cases h);rfl;rfl;rfl;decide;decide;omega)|(apply Aa.CS (r:=a);rfl;rfl;rfl;rfl;rfl;rfl;(intro _ h;cases h);rfl;rfl;rfl;decide;decide;omega)|(apply Aa.assign;rfl)|(apply Aa.move;rfl)|(apply Aa.Bz;rfl;rfl;omega)|(apply Aa.int;rfl;rfl;rfl)|(apply Aa.load;rfl;rfl)|(apply Ae.Bg;rfl)|(apply Ae.Ar;rfl))
 exact Di.ret rfl rfl rfl rfl
def sumT (l:List Int):Nat→Int
 |0=>0
 |k+1=>sumT l k+gi l k
def J8 (x:Int):Prop:=-1000000000000≤x∧x≤1000000000000
theorem Vo {l:List Int}:∀ k,(∀ i,i<k→J8 (gi l i))→-(k*1000000000000:Int)≤sumT l k∧sumT l k≤k*1000000000000
 |0,_=>by simp [sumT]
 |k+1,h=>by
  obtain ⟨a,b⟩:=Vo k fun i hi=>h i (by omega)
  obtain ⟨c,d⟩:=h k (by omega)
  simp only [sumT]
  omega
noncomputable def Iz (l:List (List Int)) (m:Nat) (rows BD:List Int):Int×Int :=
 open Classical in
 if ¬ (rows.length=l.length∧BD.length=m) then (0,5)
 else if ∃ i,i<(rows++BD).length∧¬ J8 (gi (rows++BD) i) then (0,3)
 else if ∃ k,k<BD.length∧gi BD k>0 then (0,20)
 else if ∃ i k,i<l.length∧k<m∧gi rows i+gi BD k>gi (gi l i) k then (0,20)
 else (sumT (rows++BD) (rows++BD).length,0)
section
variable {l:List (List Int)} {m:Nat} {rows BD:List Int}
theorem a5c (h:¬ (rows.length=l.length∧BD.length=m)):Iz l m rows BD=(0,5):=by unfold Iz;rw [if_pos h]
theorem a8g (h:rows.length=l.length∧BD.length=m) {i:Nat} (hi:i<(rows++BD).length) (hb:¬ J8 (gi (rows++BD) i)):Iz l m rows BD=(0,3):=by unfold Iz;rw [if_neg (fun x=>x h),if_pos ⟨i,hi,hb⟩]
theorem a1o (h:rows.length=l.length∧BD.length=m) (hb:∀ i,i<(rows++BD).length→J8 (gi (rows++BD) i)) {k:Nat} (hk:k<BD.length) (hp:gi BD k>0):Iz l m rows BD=(0,20):=by
 unfold Iz;rw [if_neg (fun x=>x h),if_neg (fun ⟨i,h1,h2⟩=>h2 (hb i h1)),if_pos ⟨k,hk,hp⟩]
theorem a2a (h:rows.length=l.length∧BD.length=m) (hb:∀ i,i<(rows++BD).length→J8 (gi (rows++BD) i)) (hn:∀ k,k<BD.length→gi BD k≤0) {i k:Nat} (hi:i<l.length) (hk:k<m) (hp:gi rows i+gi BD k>gi (gi l i) k):Iz l m rows BD=(0,20):=by
 unfold Iz;rw [if_neg (fun x=>x h),if_neg (fun ⟨i,h1,h2⟩=>h2 (hb i h1)),if_neg (fun ⟨k,h1,h2⟩=>by have:=hn k h1;omega),if_pos ⟨i,k,hi,hk,hp⟩]
theorem zx (h:rows.length=l.length∧BD.length=m) (hb:∀ i,i<(rows++BD).length→J8 (gi (rows++BD) i)) (hn:∀ k,k<BD.length→gi BD k≤0) (hf:∀ i,i<l.length→∀ k,k<m→gi rows i+gi BD k≤gi (gi l i) k):Iz l m rows BD=(sumT (rows++BD) (rows++BD).length,0):=by
 unfold Iz;rw [if_neg (fun x=>x h),if_neg (fun ⟨i,h1,h2⟩=>h2 (hb i h1)),if_neg (fun ⟨k,h1,h2⟩=>by have:=hn k h1;omega),if_neg (fun ⟨i,k,h1,h2,h3⟩=>by have:=hf i h1 k h2;omega)]
end
theorem Qm {P:Nat→Prop} {k:Nat} (h:∀ i,i<k→P i) (hk:P k):∀ i,i<k+1→P i:=fun i hi=>by
 rcases Nat.lt_or_ge i k with h1|h1
 ·exact h i h1
 ·obtain rfl:i=k:=by omega
  exact hk
theorem VF {a b:List Int} {i:Nat} (h:i<a.length):gi (a++b) i=gi a i:=by unfold gi;rw [List.getElem?_append_left h]
theorem Vq {a b:List Int} {i:Nat}:gi (a++b) (a.length+i)=gi b i:=by unfold gi;rw [List.getElem?_append_right (by omega),Nat.add_sub_cancel_left]
theorem UC {l:List (List Int)} {m:Nat} {skip B:Int} (e:TypeId) (h:Qv l l.length m skip B) (rows BD:List Int) :
 AZ env 74 [.lst e (cells l) l.length,.lst 3 (cells rows) rows.length,.lst 3 (cells BD) BD.length] (.Fp [.p (.int .i64 (Iz l m rows BD).1),.p (.int .i64 (Iz l m rows BD).2)]):=by
 have hcl:=Ox e h
 have h2:=h.n60
 have h3:=h.pq
 have h4:=h.B9
 have hrow:=h.LC.row
 have tJ:=h.LC.rng
 by_cases hlen:rows.length=l.length∧BD.length=m
 case neg =>
  rw [a5c hlen]
  refine AZ.enter (AB (by decide)) Tryz.func74 rfl (by kernel_rfl) (by simp [Tryz.ntmps74]) ?_
  repeat' (first|apply Ae.assoc|apply Ae.AA|apply Ae.BU|apply Ag.nil|apply Ag.one|(apply Ag.take;rfl;rfl)|(apply Ag.drop;rfl;rfl;rfl)|(apply Ag.guard;rfl;rfl)|(apply Aa.fn;rfl;rfl;exact hcl;intro _;rfl)|(apply Aa.assign;rfl)|(apply Aa.move;rfl)|(apply Aa.int;rfl;rfl;rfl)|(apply Aa.BJ;rfl;rfl)|(apply Aa.AQ;rfl;rfl)|(apply Aa.BL;rfl;rfl)|(apply Ae.Bg;rfl)|(apply Ae.Af;rfl)|(intro _;try (exfalso;omega)))
  all_goals first|(exfalso;omega)|contradiction|(refine Done.ret rfl (.refl _) (by first|exact trivial|exact ⟨trivial,trivial,trivial⟩|exact ⟨trivial,trivial,trivial,trivial⟩) Aj.nil (Nat.zero_le _) (Nat.le_refl _) ⟨?_,rfl,rfl⟩;try rfl)
 have hp3:∀ i,i<(rows++BD).length→¬ J8 (gi (rows++BD) i)→Iz l m rows BD=(0,3):=fun i=>a8g hlen
 have a3n:(∀ i,i<(rows++BD).length→J8 (gi (rows++BD) i))→∀ k,k<BD.length→gi BD k>0→Iz l m rows BD=(0,20):=fun hb k=>a1o hlen hb
 have a3j:(∀ i,i<(rows++BD).length→J8 (gi (rows++BD) i))→(∀ k,k<BD.length→gi BD k≤0)→∀ i k,i<l.length→k<m→gi rows i+gi BD k>gi (gi l i) k→Iz l m rows BD=(0,20):=fun hb hn i k=>a2a hlen hb hn
 have a4q:(∀ i,i<(rows++BD).length→J8 (gi (rows++BD) i))→(∀ k,k<BD.length→gi BD k≤0)→(∀ i,i<l.length→∀ k,k<m→gi rows i+gi BD k≤gi (gi l i) k)→Iz l m rows BD=(sumT (rows++BD) (rows++BD).length,0):=zx hlen
 have gr:∀ k,k<l.length→gi (rows++BD) k=gi rows k:=fun k hk=>VF (by omega)
 have gp:∀ j,j<BD.length→gi (rows++BD) (rows.length+j)=gi BD j:=fun j _=>Vq
 have zM:(rows++BD).length=rows.length+BD.length:=List.length_append
 rcases Nat.eq_zero_or_pos (rows.length+BD.length) with hz|hz
 ·have hcn:=YU rows BD hz
  rw [← zM] at hcn
  generalize rows++BD=cat at *
  generalize Iz l m rows BD=R at *
  refine AZ.enter (AB (by decide)) Tryz.func74 rfl (by kernel_rfl) (by simp [Tryz.ntmps74]) ?_
  repeat' (first|(refine Ag.I8 30 ?_;refine Ag.ghost (AX.freeze 29 rfl rfl) ?_)|apply Ae.assoc|apply Ae.AA|apply Ae.Aq|apply Ae.Ai|apply Ag.nil|apply Ag.one|(apply Ag.take;rfl;rfl)|(apply Ag.guard;rfl;rfl)|(apply Aa.fn;rfl;rfl;exact hcl;intro _;rfl)|(apply Aa.fv;rfl;rfl;exact hcn)|(apply Aa.assign;rfl)|(apply Aa.move;rfl)|(apply Aa.int;rfl;rfl;rfl)|(apply Aa.AQ;rfl;rfl)|(apply Aa.BL;rfl;rfl)|(apply Aa.lenV;rfl;rfl;rfl)|(apply Aa.buildSlice;rfl;rfl;rfl;decide;rfl;rfl;rfl)|(apply Ae.Af;rfl)|(intro _;try (exfalso;omega)))
  all_goals try (exfalso;omega)
  apply Ae.GY (cat.length) (fun k=>∀ i,i<k→J8 (gi cat i)) [(0,_),(1,_),(2,_),(30,_),(31,_)] [(1,_)] (fun k r=>(8,.p (.int .i64 (sumT cat k)))::(32,.p (.int .i64 (k:Int)))::r) (fun k r=>r) 2
  ·first|omega|decide
  ·first|omega|decide
  ·repeat (first|exact Ad.nil|(refine Ad.eq rfl ?_ ?_;(first|exact PV.Ap rfl|(simp [PV.under,AV.under];done)))|refine Ad.cons trivial rfl (.of_eq (Au (by simp<;>omega))) ?_)
  ·repeat (first|exact Aj.nil|(refine Aj.eq rfl (Ac rfl) ?_ ?_;(first|exact HB.Ap rfl|exact AV.Ah _ _|(simp [HB.under,AV.under,PV.under];done)))|(refine Aj.cons (Ac rfl) ?_ rfl ?_ ?_;(first|exact trivial|exact AV.Ah _ _|(simp [HB.under,AV.under,PV.under]));(first|exact Bq.refl _|exact Bq.vec (Bl.refl _) (by simp))))
  ·first|(intro _ _;omega)|omega|trivial
  ·intro k hk;omega
  ·intro hall
   repeat' (first|apply Ae.assoc|apply Ae.AA|apply Ae.A8|apply Ae.Ai|apply AO.normal|apply AL.exit|apply Az.exit|apply Ag.nil|apply Ag.one|(apply UM;rfl;rfl;rfl;exact le_dec rfl)|(apply UW;rfl;rfl;rfl;exact le_dec rfl)|(apply Aa.assign;rfl)|(apply Aa.move;rfl)|(apply Aa.int;rfl;rfl;rfl)|(apply Aa.BL;rfl;rfl)|(apply Ae.Af;rfl)|(intro _;try (exfalso;omega)))
   all_goals try (exfalso;omega)
   apply Ae.GY (BD.length) (fun k=>∀ i,i<k→gi BD i≤0) [(0,_),(1,_),(7,_)] [(1,_)] (fun k r=>(8,.p (.int .i64 (k:Int)))::r) (fun k r=>r) 2
   ·first|omega|decide
   ·first|omega|decide
   ·repeat (first|exact Ad.nil|(refine Ad.eq rfl ?_ ?_;(first|exact PV.Ap rfl|(simp [PV.under,AV.under];done)))|refine Ad.cons trivial rfl (.of_eq (Au (by simp<;>omega))) ?_)
   ·repeat (first|exact Aj.nil|(refine Aj.eq rfl (Ac rfl) ?_ ?_;(first|exact HB.Ap rfl|exact AV.Ah _ _|(simp [HB.under,AV.under,PV.under];done)))|(refine Aj.cons (Ac rfl) ?_ rfl ?_ ?_;(first|exact trivial|exact AV.Ah _ _|(simp [HB.under,AV.under,PV.under]));(first|exact Bq.refl _|exact Bq.vec (Bl.refl _) (by simp))))
   ·first|(intro _ _;omega)|omega|trivial
   ·intro k hk;omega
   ·intro hneg
    repeat' (first|apply Ae.assoc|apply Ae.AA|apply Ae.Aq|apply Ae.A8|apply Ae.Ai|apply AO.normal|(apply Bv.ret;rfl)|apply AL.exit|apply Az.exit|apply Ae.ret|apply Ag.nil|apply Ag.one|(apply Aa.assign;rfl)|(apply Aa.move;rfl)|(apply Aa.int;rfl;rfl;rfl)|(apply Aa.BL;rfl;rfl)|(apply Ae.Ar;rfl)|(apply Ae.Af;rfl)|(intro _;try (exfalso;omega)))
    all_goals try (exfalso;omega)
    all_goals try contradiction
    apply Ae.GY (l.length) (fun k=>∀ i,i<k→∀ j,j<m→gi rows i+gi BD j≤gi (gi l i) j) [(0,_),(1,_),(2,_),(8,_),(48,_),(49,_)] [(1,_)] (fun k r=>(50,.p (.int .i64 (k:Int)))::r) (fun k r=>r) 2
    ·first|omega|decide
    ·first|omega|decide
    ·repeat (first|exact Ad.nil|(refine Ad.eq rfl ?_ ?_;(first|exact PV.Ap rfl|(simp [PV.under,AV.under];done)))|refine Ad.cons trivial rfl (.of_eq (Au (by simp<;>omega))) ?_)
    ·repeat (first|exact Aj.nil|(refine Aj.eq rfl (Ac rfl) ?_ ?_;(first|exact HB.Ap rfl|exact AV.Ah _ _|(simp [HB.under,AV.under,PV.under];done)))|(refine Aj.cons (Ac rfl) ?_ rfl ?_ ?_;(first|exact trivial|exact AV.Ah _ _|(simp [HB.under,AV.under,PV.under]));(first|exact Bq.refl _|exact Bq.vec (Bl.refl _) (by simp))))
    ·first|(intro _ _;omega)|omega|trivial
    ·intro k hk;omega
    ·intro hf
     rw [a4q hall hneg hf]
     repeat' (first|apply Ae.AA|apply Ae.A8|apply AO.normal|apply AL.exit|apply Az.exit|apply Ae.ret|apply Ag.nil|apply Ag.one|(apply Aa.assign;rfl)|(apply Aa.move;rfl)|(apply Aa.int;rfl;rfl;rfl)|(apply Ae.Af;rfl)|(intro _;try (exfalso;omega)))
     all_goals first|(exfalso;omega)|contradiction|(refine Done.ret rfl (.refl _) (by first|exact trivial|exact ⟨trivial,trivial,trivial⟩|exact ⟨trivial,trivial,trivial,trivial⟩) Aj.nil (Nat.zero_le _) (Nat.le_refl _) ⟨?_,rfl,rfl⟩;try rfl)
 ·have hcn:=ZC rows BD hz (by omega)
  rw [← zM] at hcn
  generalize rows++BD=cat at *
  generalize Iz l m rows BD=R at *
  refine AZ.enter (AB (by decide)) Tryz.func74 rfl (by kernel_rfl) (by simp [Tryz.ntmps74]) ?_
  repeat' (first|(refine Ag.I8 30 ?_;refine Ag.ghost (AX.freeze 29 rfl rfl) ?_)|apply Ae.assoc|apply Ae.AA|apply Ae.Aq|apply Ae.Ai|apply Ag.nil|apply Ag.one|(apply Ag.take;rfl;rfl)|(apply Ag.guard;rfl;rfl)|(apply Aa.fn;rfl;rfl;exact hcl;intro _;rfl)|(apply Aa.fv;rfl;rfl;exact hcn)|(apply Aa.assign;rfl)|(apply Aa.move;rfl)|(apply Aa.int;rfl;rfl;rfl)|(apply Aa.AQ;rfl;rfl)|(apply Aa.BL;rfl;rfl)|(apply Aa.lenV;rfl;rfl;rfl)|(apply Aa.buildSlice;rfl;rfl;rfl;decide;rfl;rfl;rfl)|(apply Ae.Af;rfl)|(intro _;try (exfalso;omega)))
  all_goals try (exfalso;omega)
  apply Ae.GY (cat.length) (fun k=>∀ i,i<k→J8 (gi cat i)) [(0,_),(1,_),(2,_),(30,_),(31,_)] [(1,_)] (fun k r=>(8,.p (.int .i64 (sumT cat k)))::(32,.p (.int .i64 (k:Int)))::r) (fun k r=>r) 2
  ·first|omega|decide
  ·first|omega|decide
  ·repeat (first|exact Ad.nil|(refine Ad.eq rfl ?_ ?_;(first|exact PV.Ap rfl|(simp [PV.under,AV.under];done)))|refine Ad.cons trivial rfl (.of_eq (Au (by simp<;>omega))) ?_)
  ·repeat (first|exact Aj.nil|(refine Aj.eq rfl (Ac rfl) ?_ ?_;(first|exact HB.Ap rfl|exact AV.Ah _ _|(simp [HB.under,AV.under,PV.under];done)))|(refine Aj.cons (Ac rfl) ?_ rfl ?_ ?_;(first|exact trivial|exact AV.Ah _ _|(simp [HB.under,AV.under,PV.under]));(first|exact Bq.refl _|exact Bq.vec (Bl.refl _) (by simp))))
  ·first|(intro _ _;omega)|omega|trivial
  ·intro k hk hi
   have hb:=Vo k hi
   by_cases hx:J8 (gi cat k)
   ·obtain ⟨x1,x2⟩:=hx
    repeat' (first|apply Ae.assoc|apply Ae.AA|apply Ae.region|apply Ae.Aq|apply Ae.Ai|apply AO.normal|apply AL.normal|apply Ag.nil|apply Ag.one|(apply Ag.take;rfl;rfl)|(apply Ag.guard;rfl;rfl)|(apply Aa.assign;rfl)|(apply Aa.move;rfl)|(apply Aa.Bz;rfl;rfl;omega)|(apply Aa.int;rfl;rfl;rfl)|(apply Aa.Dl;rfl;rfl;omega;rfl)|(apply Aa.AQ;rfl;rfl)|(apply Aa.Dc;rfl;rfl;rfl;rfl;omega)|(apply Ae.Af;rfl)|(intro _;try (exfalso;omega)))
    all_goals try (exfalso;omega)
    refine Az.normal ⟨(Qm hi ⟨x1,x2⟩),by first|omega|decide,?_,?_⟩
    ·repeat (first|exact Ad.nil|refine Ad.same trivial rfl ?_|refine Ad.same (Ac rfl) rfl ?_|refine Ad.same ⟨trivial,Ac rfl,trivial⟩ rfl ?_|refine Ad.same ⟨trivial,Ac rfl,Ac rfl,trivial⟩ rfl ?_|refine Ad.same ⟨trivial,Ac rfl,Ac rfl,Ac rfl,trivial⟩ rfl ?_|refine Ad.same ⟨trivial,Ac rfl,Ac rfl,Ac rfl,Ac rfl,trivial⟩ rfl ?_|refine Ad.same ⟨trivial,trivial⟩ rfl ?_|refine Ad.cons trivial rfl (.of_eq (Au (by simp<;>omega))) ?_)
    ·repeat (first|exact Aj.nil|(refine Aj.cons (Ac rfl) ?_ rfl ?_ ?_;(first|exact HB.Ap rfl|exact AV.Ah _ _|(simp [HB.under,AV.under,PV.under]));(first|exact Bq.refl _|exact Bq.vec (Bl.refl _) (by simp))))
   ·rw [hp3 k hk hx]
    unfold J8 at hx
    repeat' (first|apply Ae.assoc|apply Ae.AA|apply Ae.Aq|apply Ae.BU|apply Ae.Ai|apply AO.ret|apply AL.ret|apply Az.ret|apply Ag.nil|apply Ag.one|(apply Ag.take;rfl;rfl)|(apply Ag.drop;rfl;rfl;rfl)|(apply Ag.guard;rfl;rfl)|(apply Aa.assign;rfl)|(apply Aa.move;rfl)|(apply Aa.int;rfl;rfl;rfl)|(apply Aa.Dl;rfl;rfl;omega;rfl)|(apply Aa.BJ;rfl;rfl)|(apply Aa.AQ;rfl;rfl)|(apply Aa.Dc;rfl;rfl;rfl;rfl;omega)|(apply Ae.Bg;rfl)|(apply Ae.Af;rfl)|(intro _;try (exfalso;omega)))
    all_goals first|(exfalso;omega)|contradiction|(refine Done.ret rfl (.refl _) (by first|exact trivial|exact ⟨trivial,trivial,trivial⟩|exact ⟨trivial,trivial,trivial,trivial⟩) Aj.nil (Nat.zero_le _) (Nat.le_refl _) ⟨?_,rfl,rfl⟩;try rfl)
  ·intro hall
   repeat' (first|apply Ae.assoc|apply Ae.AA|apply Ae.A8|apply Ae.Ai|apply AO.normal|apply AL.exit|apply Az.exit|apply Ag.nil|apply Ag.one|(apply UM;rfl;rfl;rfl;exact le_dec rfl)|(apply UW;rfl;rfl;rfl;exact le_dec rfl)|(apply Aa.assign;rfl)|(apply Aa.move;rfl)|(apply Aa.int;rfl;rfl;rfl)|(apply Aa.BL;rfl;rfl)|(apply Ae.Af;rfl)|(intro _;try (exfalso;omega)))
   all_goals try (exfalso;omega)
   apply Ae.GY (BD.length) (fun k=>∀ i,i<k→gi BD i≤0) [(0,_),(1,_),(7,_)] [(1,_)] (fun k r=>(8,.p (.int .i64 (k:Int)))::r) (fun k r=>r) 2
   ·first|omega|decide
   ·first|omega|decide
   ·repeat (first|exact Ad.nil|(refine Ad.eq rfl ?_ ?_;(first|exact PV.Ap rfl|(simp [PV.under,AV.under];done)))|refine Ad.cons trivial rfl (.of_eq (Au (by simp<;>omega))) ?_)
   ·repeat (first|exact Aj.nil|(refine Aj.eq rfl (Ac rfl) ?_ ?_;(first|exact HB.Ap rfl|exact AV.Ah _ _|(simp [HB.under,AV.under,PV.under];done)))|(refine Aj.cons (Ac rfl) ?_ rfl ?_ ?_;(first|exact trivial|exact AV.Ah _ _|(simp [HB.under,AV.under,PV.under]));(first|exact Bq.refl _|exact Bq.vec (Bl.refl _) (by simp))))
   ·first|(intro _ _;omega)|omega|trivial
   ·intro k hk hi
    by_cases hx:gi BD k≤0
    ·repeat' (first|apply Ae.AA|apply Ae.region|apply Ae.Aq|apply Ae.Ai|apply AO.normal|(apply Bv.ret;rfl)|apply AL.normal|apply Ae.ret|apply Ae.skip|apply Ag.nil|apply Ag.one|(apply mQ;rfl;rfl;rfl;exact le_dec rfl)|(apply Aa.assign;rfl)|(apply Aa.move;rfl)|(apply Aa.Bz;rfl;rfl;omega)|(apply Aa.int;rfl;rfl;rfl)|(apply Aa.AU;rfl;rfl;rfl;omega;rfl)|(apply Aa.load;rfl;rfl)|(apply Ae.Af;rfl)|(apply Ae.AY;rfl)|(intro _;try (exfalso;omega)))
     all_goals try (exfalso;omega)
     refine Az.normal ⟨(Qm hi hx),by first|omega|decide,?_,?_⟩
     ·repeat (first|exact Ad.nil|refine Ad.same trivial rfl ?_|refine Ad.same (Ac rfl) rfl ?_|refine Ad.same ⟨trivial,Ac rfl,trivial⟩ rfl ?_|refine Ad.same ⟨trivial,Ac rfl,Ac rfl,trivial⟩ rfl ?_|refine Ad.same ⟨trivial,Ac rfl,Ac rfl,Ac rfl,trivial⟩ rfl ?_|refine Ad.same ⟨trivial,Ac rfl,Ac rfl,Ac rfl,Ac rfl,trivial⟩ rfl ?_|refine Ad.same ⟨trivial,trivial⟩ rfl ?_|refine Ad.cons trivial rfl (.of_eq (Au (by simp<;>omega))) ?_)
     ·repeat (first|exact Aj.nil|(refine Aj.cons (Ac rfl) ?_ rfl ?_ ?_;(first|exact HB.Ap rfl|exact AV.Ah _ _|(simp [HB.under,AV.under,PV.under]));(first|exact Bq.refl _|exact Bq.vec (Bl.refl _) (by simp))))
    ·rw [a3n hall k hk (by omega)]
     repeat' (first|apply Ae.assoc|apply Ae.AA|apply Ae.Aq|apply Ae.BU|apply Ae.Ai|apply AO.ret|(apply Bv.ret;rfl)|apply AL.ret|apply Az.ret|apply Ae.ret|apply Ag.nil|apply Ag.one|(apply mQ;rfl;rfl;rfl;exact le_dec rfl)|(apply Aa.assign;rfl)|(apply Aa.move;rfl)|(apply Aa.int;rfl;rfl;rfl)|(apply Aa.AU;rfl;rfl;rfl;omega;rfl)|(apply Aa.load;rfl;rfl)|(apply Ae.Bg;rfl)|(apply Ae.Af;rfl)|(apply Ae.AY;rfl)|(intro _;try (exfalso;omega)))
     all_goals first|(exfalso;omega)|contradiction|(refine Done.ret rfl (.refl _) (by first|exact trivial|exact ⟨trivial,trivial,trivial⟩|exact ⟨trivial,trivial,trivial,trivial⟩) Aj.nil (Nat.zero_le _) (Nat.le_refl _) ⟨?_,rfl,rfl⟩;try rfl)
   ·intro hneg
    repeat' (first|apply Ae.assoc|apply Ae.AA|apply Ae.Aq|apply Ae.A8|apply Ae.Ai|apply AO.normal|(apply Bv.ret;rfl)|apply AL.exit|apply Az.exit|apply Ae.ret|apply Ag.nil|apply Ag.one|(apply Aa.assign;rfl)|(apply Aa.move;rfl)|(apply Aa.int;rfl;rfl;rfl)|(apply Aa.BL;rfl;rfl)|(apply Ae.Ar;rfl)|(apply Ae.Af;rfl)|(intro _;try (exfalso;omega)))
    all_goals try (exfalso;omega)
    all_goals try contradiction
    apply Ae.GY (l.length) (fun k=>∀ i,i<k→∀ j,j<m→gi rows i+gi BD j≤gi (gi l i) j) [(0,_),(1,_),(2,_),(8,_),(48,_),(49,_)] [(1,_)] (fun k r=>(50,.p (.int .i64 (k:Int)))::r) (fun k r=>r) 2
    ·first|omega|decide
    ·first|omega|decide
    ·repeat (first|exact Ad.nil|(refine Ad.eq rfl ?_ ?_;(first|exact PV.Ap rfl|(simp [PV.under,AV.under];done)))|refine Ad.cons trivial rfl (.of_eq (Au (by simp<;>omega))) ?_)
    ·repeat (first|exact Aj.nil|(refine Aj.eq rfl (Ac rfl) ?_ ?_;(first|exact HB.Ap rfl|exact AV.Ah _ _|(simp [HB.under,AV.under,PV.under];done)))|(refine Aj.cons (Ac rfl) ?_ rfl ?_ ?_;(first|exact trivial|exact AV.Ah _ _|(simp [HB.under,AV.under,PV.under]));(first|exact Bq.refl _|exact Bq.vec (Bl.refl _) (by simp))))
    ·first|(intro _ _;omega)|omega|trivial
    ·intro k hk hi
     have hrl:=hrow k hk
     have r1:=hall k (by omega)
     rw [gr k hk] at r1
     obtain ⟨r2,r3⟩:=r1
     repeat' (first|apply Ae.AA|apply Ae.Aq|apply Ae.Ai|apply Ae.IE|apply Ag.nil|apply Ag.one|(apply Aa.assign;rfl)|(apply Aa.move;rfl)|(apply Aa.int;rfl;rfl;rfl)|(apply Aa.AU;rfl;rfl;rfl;omega;rfl)|(apply Aa.load;rfl;rfl)|(apply Aa.BL;rfl;rfl)|(apply Ae.Af;rfl)|(intro _;try (exfalso;omega)))
     all_goals try (exfalso;omega)
     apply Ae.GY ((gi l k).length) (fun k_=>∀ j,j<k_→gi rows k+gi BD j≤gi (gi l k) j) [(0,_),(1,_),(2,_),(8,_),(11,_),(48,_),(49,_),(50,_),(55,_),(56,_)] [(1,_)] (fun k_ r=>(57,.p (.int .i64 (k_:Int)))::r) (fun k_ r=>r) 2
     ·first|omega|decide
     ·first|omega|decide
     ·repeat (first|exact Ad.nil|(refine Ad.eq rfl ?_ ?_;(first|exact PV.Ap rfl|(simp [PV.under,AV.under];done)))|refine Ad.cons trivial rfl (.of_eq (Au (by simp<;>omega))) ?_)
     ·repeat (first|exact Aj.nil|(refine Aj.eq rfl (Ac rfl) ?_ ?_;(first|exact HB.Ap rfl|exact AV.Ah _ _|(simp [HB.under,AV.under,PV.under];done)))|(refine Aj.cons (Ac rfl) ?_ rfl ?_ ?_;(first|exact trivial|exact AV.Ah _ _|(simp [HB.under,AV.under,PV.under]));(first|exact Bq.refl _|exact Bq.vec (Bl.refl _) (by simp))))
     ·first|(intro _ _;omega)|omega|trivial
     ·intro j hj hij
      have c1:=tJ k j hk (by omega)
      have p1:=hall (rows.length+j) (by omega)
      rw [gp j (by omega)] at p1
      obtain ⟨p2,p3⟩:=p1
      by_cases hx:gi rows k+gi BD j≤gi (gi l k) j
      ·repeat' (first|apply Ae.AA|apply Ae.BA|apply Ae.region|apply Ae.Aq|apply Ae.Ai|apply AO.normal|apply AL.normal|apply Ae.skip|apply Ag.nil|apply Ak.nil|apply Ag.one|(apply Ak.bar;decide +kernel)|apply Ak.quiet|(apply Aa.assign;rfl)|(apply Aa.move;rfl)|(apply Aa.Bz;rfl;rfl;omega)|(apply Aa.int;rfl;rfl;rfl)|(apply Aa.AU;rfl;rfl;rfl;omega;rfl)|(apply Aa.load;rfl;rfl)|(apply Ae.Af;rfl)|(apply Ae.AY;rfl)|(intro _;try (exfalso;omega)))
       all_goals try (exfalso;omega)
       refine Az.normal ⟨(Qm hij hx),by first|omega|decide,?_,?_⟩
       ·repeat (first|exact Ad.nil|refine Ad.same trivial rfl ?_|refine Ad.same (Ac rfl) rfl ?_|refine Ad.same ⟨trivial,Ac rfl,trivial⟩ rfl ?_|refine Ad.same ⟨trivial,Ac rfl,Ac rfl,trivial⟩ rfl ?_|refine Ad.same ⟨trivial,Ac rfl,Ac rfl,Ac rfl,trivial⟩ rfl ?_|refine Ad.same ⟨trivial,Ac rfl,Ac rfl,Ac rfl,Ac rfl,trivial⟩ rfl ?_|refine Ad.same ⟨trivial,trivial⟩ rfl ?_|refine Ad.cons trivial rfl (.of_eq (Au (by simp<;>omega))) ?_)
       ·repeat (first|exact Aj.nil|(refine Aj.cons (Ac rfl) ?_ rfl ?_ ?_;(first|exact HB.Ap rfl|exact AV.Ah _ _|(simp [HB.under,AV.under,PV.under]));(first|exact Bq.refl _|exact Bq.vec (Bl.refl _) (by simp))))
      ·rw [a3j hall hneg k j hk (by omega) (by omega)]
       repeat' (first|apply Ae.AA|apply Ae.BA|apply Ae.Aq|apply Ae.Ai|apply AO.ret|apply AL.ret|apply Az.ret|apply Ae.ret|apply Ag.nil|apply Ak.nil|apply Ag.one|(apply Ak.bar;decide +kernel)|apply Ak.quiet|(apply Aa.assign;rfl)|(apply Aa.move;rfl)|(apply Aa.Bz;rfl;rfl;omega)|(apply Aa.int;rfl;rfl;rfl)|(apply Aa.AU;rfl;rfl;rfl;omega;rfl)|(apply Aa.load;rfl;rfl)|(apply Ae.Af;rfl)|(apply Ae.AY;rfl)|(intro _;try (exfalso;omega)))
       all_goals first|(exfalso;omega)|contradiction|(refine Done.ret rfl (.refl _) (by first|exact trivial|exact ⟨trivial,trivial,trivial⟩|exact ⟨trivial,trivial,trivial,trivial⟩) Aj.nil (Nat.zero_le _) (Nat.le_refl _) ⟨?_,rfl,rfl⟩;try rfl)
     ·intro qJ
      rw [hrl] at qJ
      repeat' (first|apply Ae.AA|apply Ae.region|apply Ae.A8|apply AO.normal|apply AL.normal|apply AL.exit|apply Az.exit|apply Ag.nil|apply Ag.one|(apply Aa.move;rfl)|(apply Aa.Bz;rfl;rfl;omega)|(apply Aa.int;rfl;rfl;rfl)|(apply Ae.Af;rfl)|(intro _;try (exfalso;omega)))
      all_goals try (exfalso;omega)
      refine Az.normal ⟨(Qm hi qJ),by first|omega|decide,?_,?_⟩
      ·repeat (first|exact Ad.nil|refine Ad.same trivial rfl ?_|refine Ad.same (Ac rfl) rfl ?_|refine Ad.same ⟨trivial,Ac rfl,trivial⟩ rfl ?_|refine Ad.same ⟨trivial,Ac rfl,Ac rfl,trivial⟩ rfl ?_|refine Ad.same ⟨trivial,Ac rfl,Ac rfl,Ac rfl,trivial⟩ rfl ?_|refine Ad.same ⟨trivial,Ac rfl,Ac rfl,Ac rfl,Ac rfl,trivial⟩ rfl ?_|refine Ad.same ⟨trivial,trivial⟩ rfl ?_|refine Ad.cons trivial rfl (.of_eq (Au (by simp<;>omega))) ?_)
      ·repeat (first|exact Aj.nil|(refine Aj.cons (Ac rfl) ?_ rfl ?_ ?_;(first|exact HB.Ap rfl|exact AV.Ah _ _|(simp [HB.under,AV.under,PV.under]));(first|exact Bq.refl _|exact Bq.vec (Bl.refl _) (by simp))))
    ·intro hf
     rw [a4q hall hneg hf]
     repeat' (first|apply Ae.AA|apply Ae.A8|apply AO.normal|apply AL.exit|apply Az.exit|apply Ae.ret|apply Ag.nil|apply Ag.one|(apply Aa.assign;rfl)|(apply Aa.move;rfl)|(apply Aa.int;rfl;rfl;rfl)|(apply Ae.Af;rfl)|(intro _;try (exfalso;omega)))
     all_goals first|(exfalso;omega)|contradiction|(refine Done.ret rfl (.refl _) (by first|exact trivial|exact ⟨trivial,trivial,trivial⟩|exact ⟨trivial,trivial,trivial,trivial⟩) Aj.nil (Nat.zero_le _) (Nat.le_refl _) ⟨?_,rfl,rfl⟩;try rfl)
noncomputable def kK (l:List (List Int)) (m:Nat) (r:Na) (sum e most:Int):Int :=
 open Classical in
 if e≠0 then e else if sum≠r.total then 7 else if (Iz l m r.rows r.BD).2≠0 then (Iz l m r.rows r.BD).2
 else if (Iz l m r.rows r.BD).1<r.total∨∃ i,i<r.rows.length∧gi r.rows i>most then 20 else 0
noncomputable def vk (l:List (List Int)) (m:Nat) (skip:Int) (r:Na):Int:=kK l m r (YR l m skip r.cols).1 (YR l m skip r.cols).2 skip
theorem gW {l:List (List Int)} {m:Nat} {skip B:Int} (ty:TypeId) (h:Qv l l.length m skip B) (r:Na) (sum e most:Int) :
 AZ env 48 [.lst ty (cells l) l.length,.agg (Enc.enc r),.int .i64 sum,.int .i64 e,.int .i64 most] (.p (.int .i64 (kK l m r sum e most))):=by
 have hp:=UC ty h r.rows r.BD
 have hE:kK l m r sum e most=if e≠0 then e else if sum≠r.total then 7 else if (Iz l m r.rows r.BD).2≠0 then (Iz l m r.rows r.BD).2
  else open Classical in if (Iz l m r.rows r.BD).1<r.total∨∃ i,i<r.rows.length∧gi r.rows i>most then 20 else 0:=rfl
 rw [hE]
 clear hE
 refine AZ.enter (AB (by decide)) Tryz.func48 rfl (by kernel_rfl) (by simp [Tryz.ntmps48]) ?_
 by_cases e1:e=0
 case neg =>
  rw [if_pos e1]
  repeat' (first|apply Ae.AA|apply Ae.Ai|apply AO.ret|apply AL.ret|apply Ae.ret|apply Ag.nil|apply Ag.one|(apply Aa.assign;rfl)|(apply Aa.move;rfl)|(apply Aa.int;rfl;rfl;rfl)|(apply Aa.box;rfl;trivial)|(apply Ae.AY;rfl)|(intro _;try (exfalso;omega)))
  all_goals first|(exfalso;omega)|contradiction|(refine Done.ret rfl (.refl _) (by first|exact trivial|exact ⟨trivial,trivial,trivial⟩|exact ⟨trivial,trivial,trivial,trivial⟩) Aj.nil (Nat.zero_le _) (Nat.le_refl _) ⟨?_,rfl,rfl⟩;try rfl)
 rw [if_neg (fun x=>x e1)]
 by_cases e2:sum=r.total
 case neg =>
  rw [if_pos e2]
  repeat' (first|apply Ae.AA|apply Ae.Ai|apply AO.ret|apply AL.ret|apply Ae.ret|apply Ag.nil|apply Ag.one|(apply Aa.assign;rfl)|(apply Aa.move;rfl)|(apply Aa.int;rfl;rfl;rfl)|(apply Aa.load;rfl;rfl)|(apply Aa.AP;rfl;rfl;rfl)|(apply Aa.box;rfl;trivial)|(apply Ae.AY;rfl)|(intro _;try (exfalso;omega)))
  all_goals first|(exfalso;omega)|contradiction|(refine Done.ret rfl (.refl _) (by first|exact trivial|exact ⟨trivial,trivial,trivial⟩|exact ⟨trivial,trivial,trivial,trivial⟩) Aj.nil (Nat.zero_le _) (Nat.le_refl _) ⟨?_,rfl,rfl⟩;try rfl)
 rw [if_neg (fun x=>x e2)]
 have hlen0:(Iz l m r.rows r.BD).2=0→r.rows.length=l.length:=fun h0=>Classical.byContradiction fun h1=>by
  rw [a5c (fun x=>h1 x.1)] at h0
  cases h0
 have h60:=h.n60
 generalize Iz l m r.rows r.BD=P at *
 obtain ⟨b,e3⟩:=P
 simp only at hp hlen0 ⊢
 by_cases e4:e3=0
 case neg =>
  rw [if_pos e4]
  repeat' (first|apply Ae.AA|apply Ae.Ai|apply AO.normal|apply AO.ret|apply AL.normal|apply AL.ret|apply Ae.ret|apply Ae.skip|apply Ag.nil|apply Ag.one|(apply Aa.fn;rfl;rfl;exact hp;intro _;rfl)|(apply Aa.assign;rfl)|(apply Aa.move;rfl)|(apply Aa.int;rfl;rfl;rfl)|(apply Aa.load;rfl;rfl)|(apply Aa.AP;rfl;rfl;rfl)|(apply Aa.box;rfl;trivial)|(apply Aa.extract;rfl;rfl)|(apply Ae.AY;rfl)|(intro _;try (exfalso;omega)))
  all_goals first|(exfalso;omega)|contradiction|(refine Done.ret rfl (.refl _) (by first|exact trivial|exact ⟨trivial,trivial,trivial⟩|exact ⟨trivial,trivial,trivial,trivial⟩) Aj.nil (Nat.zero_le _) (Nat.le_refl _) ⟨?_,rfl,rfl⟩;try rfl)
 rw [if_neg (fun x=>x e4)]
 have hlen:=hlen0 e4
 by_cases e5:b<r.total
 ·rw [if_pos (.inl e5)]
  repeat' (first|apply Ae.AA|apply Ae.Ai|apply AO.normal|apply AO.ret|apply AL.normal|apply AL.ret|apply Ae.ret|apply Ae.skip|apply Ag.nil|apply Ag.one|(apply Ag.drop;rfl;rfl;rfl)|(apply Ag.guard;rfl;rfl)|(apply Aa.fn;rfl;rfl;exact hp;intro _;rfl)|(apply Aa.assign;rfl)|(apply Aa.move;rfl)|(apply Aa.int;rfl;rfl;rfl)|(apply Aa.load;rfl;rfl)|(apply Aa.BJ;rfl;rfl)|(apply Aa.AP;rfl;rfl;rfl)|(apply Aa.box;rfl;trivial)|(apply Aa.extract;rfl;rfl)|(apply Ae.cond_true;rfl)|(apply Ae.AY;rfl)|(intro _;try (exfalso;omega)))
  all_goals first|(exfalso;omega)|contradiction|(refine Done.ret rfl (.refl _) (by first|exact trivial|exact ⟨trivial,trivial,trivial⟩|exact ⟨trivial,trivial,trivial,trivial⟩) Aj.nil (Nat.zero_le _) (Nat.le_refl _) ⟨?_,rfl,rfl⟩;try rfl)
 ·repeat' (first|apply Ae.assoc|apply Ae.AA|apply Ae.Ai|apply AO.normal|apply AL.normal|apply Ae.skip|apply Ag.nil|apply Ag.one|(apply Ag.take;rfl;rfl)|(apply Ag.guard;rfl;rfl)|(apply Aa.fn;rfl;rfl;exact hp;intro _;rfl)|(apply Aa.makeFunc;rfl;rfl)|(apply UM;rfl;rfl;rfl;exact le_dec rfl)|(apply UW;rfl;rfl;rfl;exact le_dec rfl)|(apply Aa.assign;rfl)|(apply Aa.move;rfl)|(apply Aa.int;rfl;rfl;rfl)|(apply Aa.load;rfl;rfl)|(apply Aa.BL;rfl;rfl)|(apply Aa.AP;rfl;rfl;rfl)|(apply Aa.box;rfl;trivial)|(apply Aa.extract;rfl;rfl)|(apply Ae.AY;rfl)|(intro _;try (exfalso;omega)))
  all_goals try (exfalso;omega)
  all_goals try contradiction
  apply Ae.GY (r.rows.length) (fun k=>∀ i,i<k→gi r.rows i≤most) [(0,_),(1,_),(7,_)] [(1,_),(0,_)] (fun k r=>(8,.p (.int .i64 (k:Int)))::r) (fun k r=>r) 2
  ·first|omega|decide
  ·first|omega|decide
  ·repeat (first|exact Ad.nil|(refine Ad.eq rfl ?_ ?_;(first|exact PV.Ap rfl|(simp [PV.under,AV.under];done)))|refine Ad.cons trivial rfl (.of_eq (Au (by simp<;>omega))) ?_)
  ·repeat (first|exact Aj.nil|(refine Aj.eq rfl (Ac rfl) ?_ ?_;(first|exact HB.Ap rfl|exact AV.Ah _ _|(simp [HB.under,AV.under,PV.under];done)))|(refine Aj.cons (Ac rfl) ?_ rfl ?_ ?_;(first|exact trivial|exact AV.Ah _ _|(simp [HB.under,AV.under,PV.under]));(first|exact Bq.refl _|exact Bq.vec (Bl.refl _) (by simp))))
  ·first|(intro _ _;omega)|omega|trivial
  ·intro k hk hi
   by_cases hx:gi r.rows k≤most
   ·repeat' (first|apply Ae.AA|apply Ae.region|apply Ae.Aq|apply Ae.Ai|apply AO.normal|(apply Bv.ret;rfl)|apply AL.normal|apply Ae.ret|apply Ae.skip|apply Ag.nil|apply Ag.one|(apply lT;rfl;rfl;rfl;exact le_dec rfl)|(apply Aa.assign;rfl)|(apply Aa.move;rfl)|(apply Aa.Bz;rfl;rfl;omega)|(apply Aa.int;rfl;rfl;rfl)|(apply Aa.AU;rfl;rfl;rfl;omega;rfl)|(apply Aa.load;rfl;rfl)|(apply Ae.Af;rfl)|(apply Ae.AY;rfl)|(intro _;try (exfalso;omega)))
    all_goals try (exfalso;omega)
    refine Az.normal ⟨(Qm hi hx),by first|omega|decide,?_,?_⟩
    ·repeat (first|exact Ad.nil|refine Ad.same trivial rfl ?_|refine Ad.same (Ac rfl) rfl ?_|refine Ad.same ⟨trivial,Ac rfl,trivial⟩ rfl ?_|refine Ad.same ⟨trivial,Ac rfl,Ac rfl,trivial⟩ rfl ?_|refine Ad.same ⟨trivial,Ac rfl,Ac rfl,Ac rfl,trivial⟩ rfl ?_|refine Ad.same ⟨trivial,Ac rfl,Ac rfl,Ac rfl,Ac rfl,trivial⟩ rfl ?_|refine Ad.same ⟨trivial,trivial⟩ rfl ?_|refine Ad.cons trivial rfl (.of_eq (Au (by simp<;>omega))) ?_)
    ·repeat (first|exact Aj.nil|(refine Aj.cons (Ac rfl) ?_ rfl ?_ ?_;(first|exact HB.Ap rfl|exact AV.Ah _ _|(simp [HB.under,AV.under,PV.under]));(first|exact Bq.refl _|exact Bq.vec (Bl.refl _) (by simp))))
   ·rw [if_pos (.inr ⟨k,hk,by omega⟩)]
    repeat' (first|apply Ae.AA|apply Ae.Aq|apply Ae.Ai|apply AO.ret|(apply Bv.ret;rfl)|apply AL.ret|apply Az.ret|apply Ae.ret|apply Ag.nil|apply Ag.one|(apply lT;rfl;rfl;rfl;exact le_dec rfl)|(apply Aa.assign;rfl)|(apply Aa.move;rfl)|(apply Aa.int;rfl;rfl;rfl)|(apply Aa.AU;rfl;rfl;rfl;omega;rfl)|(apply Aa.load;rfl;rfl)|(apply Aa.AQ;rfl;rfl)|(apply Ae.Af;rfl)|(apply Ae.cond_true;rfl)|(apply Ae.AY;rfl)|(intro _;try (exfalso;omega)))
    all_goals first|(exfalso;omega)|contradiction|(refine Done.ret rfl (.refl _) (by first|exact trivial|exact ⟨trivial,trivial,trivial⟩|exact ⟨trivial,trivial,trivial,trivial⟩) Aj.nil (Nat.zero_le _) (Nat.le_refl _) ⟨?_,rfl,rfl⟩;try rfl)
  ·intro hall
   rw [if_neg (by
    rintro (h1|⟨i,h1,h2⟩)
    ·exact e5 h1
    ·have:=hall i h1;omega)]
   repeat' (first|apply Ae.AA|apply Ae.A8|apply AO.normal|(apply Bv.ret;rfl)|apply AL.normal|apply AL.exit|apply Az.exit|apply Ae.ret|apply Ae.skip|apply Ag.nil|apply Ag.one|(apply Aa.assign;rfl)|(apply Aa.int;rfl;rfl;rfl)|(apply Aa.AQ;rfl;rfl)|(apply Ae.Af;rfl)|(apply Ae.cond_false;rfl)|(intro _;try (exfalso;omega)))
   all_goals first|(exfalso;omega)|contradiction|(refine Done.ret rfl (.refl _) (by first|exact trivial|exact ⟨trivial,trivial,trivial⟩|exact ⟨trivial,trivial,trivial,trivial⟩) Aj.nil (Nat.zero_le _) (Nat.le_refl _) ⟨?_,rfl,rfl⟩;try rfl)
theorem EK {l:List (List Int)} {m:Nat} {skip B:Int} (ty:TypeId) (h:Qv l l.length m skip B) (r:Na) :
 AZ env 22 [.lst ty (cells l) l.length,.int .i64 skip,.agg (Enc.enc r)] (.p (.int .i64 (vk l m skip r))):=by
 have hc:=LW ty h
 have ht:=jJ ty h r.cols
 have hp:=gW ty h r (YR l m skip r.cols).1 (YR l m skip r.cols).2 skip
 refine AZ.enter (AB (by decide)) Tryz.func22 rfl (by kernel_rfl) (by simp [Tryz.ntmps22]) ?_
 repeat' (first|apply Ae.assoc|apply Ae.AA|apply Ae.Aq|apply Ae.ret|apply Ag.nil|apply Ag.one|(apply Aa.fn;rfl;rfl;exact hc;intro _;rfl)|(apply Aa.fn;rfl;rfl;exact ht;intro _;rfl)|(apply Aa.fn;rfl;rfl;exact hp;intro _;rfl)|(apply Aa.assign;rfl)|(apply Aa.move;rfl)|(apply Aa.int;rfl;rfl;rfl)|(apply Aa.load;rfl;rfl)|(apply Aa.AP;rfl;rfl;rfl)|(apply Aa.box;rfl;trivial)|(apply Aa.extract;rfl;rfl)|(apply Ae.Ar;rfl))
 all_goals first|(exfalso;omega)|contradiction|(refine Done.ret rfl (.refl _) (by first|exact trivial|exact ⟨trivial,trivial,trivial⟩|exact ⟨trivial,trivial,trivial,trivial⟩) Aj.nil (Nat.zero_le _) (Nat.le_refl _) ⟨?_,rfl,rfl⟩;try rfl)
theorem SB {l:List (List Int)} {m:Nat} {skip:Int} {cols:List Int} (h:lg l.length m fun r=>gi cols r):∀ (r k:Nat) (used:List Bool) (sum:Int),k+r=l.length→(∀ q,k≤q→q<l.length→0≤gi cols q→gi used (gi cols q).toNat=false)→used.length=m →
 XI l m skip cols r k used sum=(sum+TY (Xy l skip fun r=>gi cols r) l.length r,0)
 |0,k,used,sum,hk,hu,hl=>by simp [XI,TY]
 |r+1,k,used,sum,hk,hu,hl=>by
  have hrg:=h.rng k (by omega)
  have hrg:-1≤gi cols k∧gi cols k<m:=hrg
  have ek:l.length-(r+1)=k:=by omega
  unfold XI
  rw [if_neg (by omega)]
  simp only [TY,ek]
  by_cases c2:gi cols k<0
  ·rw [if_pos c2,SB h r (k+1) used (sum+skip) (by omega) (fun q q1 q2 q3=>hu q (by omega) q2 q3) hl]
   have e:Xy l skip (fun r=>gi cols r) k=skip:=if_pos c2
   rw [e,Int.add_assoc]
  ·rw [if_neg c2,hu k (Nat.le_refl _) (by omega) (by omega),if_neg (by decide)]
   have e:Xy l skip (fun r=>gi cols r) k=gi (gi l k) (gi cols k).toNat:=if_neg c2
   rw [SB h r (k+1) _ _ (by omega) (fun q q1 q2 q3=>?_) (by rw [List.length_set];exact hl),e,Int.add_assoc]
   rw [gs (by omega),if_neg]
   ·exact hu q (by omega) q2 q3
   ·intro e
    have:=h.inj k q (by omega) q2 (show 0≤gi cols k by omega) (show gi cols k=gi cols q by omega)
    omega
theorem YF (l:List Int):∀ k,sumT l k=Dy (fun i=>gi l i) k
 |0=>rfl
 |k+1=>by simp only [sumT,Dy,YF l k]
theorem wF {l:List (List Int)} {m:Nat} {skip B:Int} (h:Qv l l.length m skip B):vk l m skip (Zr l m skip)=0:=by
 have hP:=iW h.LC
 have hB:=h.B9
 have hm:(Zr l m skip)=⟨Xm l l.length m skip,ZJ l l.length m skip,o7 l l.length m skip,qw l l.length m skip⟩:=rfl
 rw [hm]
 generalize Xm l l.length m skip=C at *
 generalize ZJ l l.length m skip=T at *
 generalize o7 l l.length m skip=U at *
 generalize qw l l.length m skip=V at *
 have ht:YR l m skip C=(T,0):=by
  unfold YR
  rw [if_neg (fun x=>x hP.lC),SB hP.part l.length 0 _ 0 (by omega) (fun q _ _ _=>by
   unfold gi;rw [List.getElem?_replicate];split<;>rfl) (by simp),qh,← hP.tot]
  simp
 have a7l:∀ i,i<(U++V).length→J8 (gi (U++V) i):=fun i hi=>by
  rw [List.length_append,hP.lU,hP.lV] at hi
  rcases Nat.lt_or_ge i l.length with h1|h1
  ·rw [VF (by rw [hP.lU];exact h1)]
   have:=hP.a4k i h1
   exact ⟨by omega,by omega⟩
  ·obtain ⟨j,rfl⟩:∃ j,i=U.length+j:=⟨i-U.length,by have:=hP.lU;omega⟩
   rw [Vq]
   have:=hP.lU
   have:=hP.a0x j (by omega)
   exact ⟨by omega,by omega⟩
 have hs:sumT (U++V) (U++V).length=T:=by
  rw [YF,List.length_append,Pn,hP.a0g,hP.lU,hP.lV]
  congr 1
  ·exact EP fun k hk=>VF (by rw [hP.lU];exact hk)
  ·exact EP fun k hk=>by
    have:=Vq (a:=U) (b:=V) (i:=k)
    rw [hP.lU] at this
    exact this
 have hp:Iz l m U V=(T,0):=by
  rw [zx ⟨hP.lU,hP.lV⟩ a7l (fun k hk=>(hP.a0x k (by have:=hP.lV;omega)).2) (fun i hi k hk=>hP.pot.VR i k hi hk),hs]
 unfold vk kK
 simp only [ht,hp]
 rw [if_neg (fun h=>h rfl),if_neg (fun h=>h rfl),if_neg (fun h=>h rfl),if_neg]
 rintro (h1|⟨i,h1,h2⟩)
 ·omega
 ·have:=hP.pot.skip i (by have:=hP.lU;omega)
  have:gi U i≤skip:=this
  omega
end Go.Proofs.YtdabojnmoejilaaGreatDoor
namespace Go.Proofs.YtdabojnmoejilaaGreatDoor
open Go Go.Am Go.Vm Go.Tra Go.Hun
attribute [local irreducible] Aa Ag Ak Ae BH AZ CW AO AL Az Vm.Done Di Bv
attribute [local irreducible] D8 DW Jp KJ SV Cb
structure Z5 (q:Ri):Prop where
 sm1:OX q.BF
 sm2:OX q.tgt
 rg:q.reg.Ok
 err:iM q=0
 shb:ShB q.BF q.tgt
theorem KW {q:Ri} (h:iM q=0):KR q.BF=0∧O8 q.BF q.reg=0∧KR q.tgt=0∧MO q.DV∧(Bc q.BF q.reg).length≤60∧(BI q.tgt).length≤120:=by
 unfold iM at h
 split at h
 ·rename_i h1;exact absurd h h1
 rename_i h1
 split at h
 ·rename_i h2;exact absurd h h2
 rename_i h2
 split at h
 ·rename_i h3;exact absurd h h3
 rename_i h3
 split at h
 ·exact absurd h (by decide)
 rename_i h4
 split at h
 ·exact absurd h (by decide)
 rename_i h5
 exact ⟨Classical.not_not.1 h1,Classical.not_not.1 h2,Classical.not_not.1 h3,Classical.not_not.1 h4,by omega,by omega⟩
theorem Z5.k1 {q:Ri} (h:Z5 q):Jl q.BF:=xI h.sm1 (KW h.err).1
theorem Z5.k2 {q:Ri} (h:Z5 q):Jl q.tgt:=xI h.sm2 (KW h.err).2.2.1
theorem Z5.DV {q:Ri} (h:Z5 q):MO q.DV:=(KW h.err).2.2.2.1
theorem Z5.len {q:Ri} (h:Z5 q):q.reg.stops.length=q.BF.Aw.length:=lq (KW h.err).2.1
def Es (q:Ri):List (List Int):=KA q.BF q.tgt q.reg q.DV
def I4 (q:Ri):Nat:=if (Bc q.BF q.reg).length=0 then 0 else (BI q.tgt).length
theorem pI (q:Ri):(Es q).length=(Bc q.BF q.reg).length:=by simp [Es,KA]
theorem uo (q:Ri) {r k:Nat} (hr:r<(Bc q.BF q.reg).length) (hk:k<(BI q.tgt).length):gi (gi (Es q) r) k=Je q.BF q.tgt q.DV (gi (Bc q.BF q.reg) r) (gi (BI q.tgt) k):=by
 unfold Es KA
 rw [gi_map' _ hr,gi_map' _ hk]
theorem qg (q:Ri) {r:Nat} (hr:r<(Bc q.BF q.reg).length):(gi (Es q) r).length=(BI q.tgt).length:=by
 unfold Es KA
 rw [gi_map' _ hr,List.length_map]
theorem Z5.LC {q:Ri} (h:Z5 q):Qv (Es q) (Es q).length (I4 q) q.DV.miss 101000000:=by
 obtain ⟨_,_,_,hw,h5,h6⟩:=KW h.err
 obtain ⟨_,_,_,w4⟩:=NC hw
 have hl:=pI q
 refine ⟨⟨rfl,fun r hr=>?_,fun r k hr hk=>?_,⟨w4.1,by omega⟩,by decide⟩,by omega,?_,by decide,fun h0=>?_⟩
 ·rw [qg q (by omega)]
  unfold I4;rw [if_neg (by omega)]
 ·unfold I4 at hk
  rw [if_neg (by omega)] at hk
  rw [uo q (by omega) hk]
  exact jE hw h.shb (RY (Y9 (by omega))) (Qj hk)
 ·unfold I4;split<;>omega
 ·unfold I4;rw [if_pos (by omega)]
theorem Xx {l:List (List Int)} {m:Nat} {skip B:Int} (e:TypeId) (h:Qv l l.length m skip B):AZ env 45 [.lst e (cells l) l.length,.int .i64 skip] (.Fp [.p (.agg (Enc.enc (Zr l m skip))),.p (.int .i64 0)]):=by
 rcases Nat.eq_zero_or_pos l.length with h0|h0
 ·have hm:=h.m0 h0
  have hl:l=[]:=List.length_eq_zero_iff.1 h0
  subst hl;subst hm
  have:=h.LC.skip
  have:=h.B9
  exact Xw e (by omega)
 ·exact YZ e h h0
theorem MH {q:Ri} (h:Z5 q):AZ env 15 [.agg (Enc.enc q)] (.Fp [.p (.lst 52 (cells (Es q)) (Es q).length),.p (.int .i64 0)]):=by
 have hc:=fD q h.sm1 h.sm2 h.rg
 rw [h.err] at hc
 have hl:=Xt q h.k1 h.k2 h.DV h.shb h.rg h.len
 rw [show KA q.BF q.tgt q.reg q.DV=Es q from rfl] at hl
 refine AZ.enter (AB (by decide)) Tryz.func15 rfl (by kernel_rfl) (by simp [Tryz.ntmps15]) ?_
 repeat' (first|apply Ae.assoc|apply Ae.AA|apply Ae.Aq|apply Ae.ret|apply Ag.nil|apply Ag.one|(apply Aa.fn;rfl;rfl;exact hc;intro _;rfl)|(apply Aa.fn;rfl;rfl;exact hl;intro _;rfl)|(apply Aa.assign;rfl)|(apply Aa.move;rfl)|(apply Aa.int;rfl;rfl;rfl)|(apply Aa.load;rfl;rfl)|(apply Aa.box;rfl;trivial)|(apply Aa.extract;rfl;rfl)|(apply Ae.Ar;rfl))
 all_goals first|(exfalso;omega)|contradiction|(refine Done.ret rfl (.refl _) (by first|exact trivial|exact ⟨trivial,trivial,trivial⟩|exact ⟨trivial,trivial,trivial,trivial⟩) Aj.nil (Nat.zero_le _) (Nat.le_refl _) ⟨?_,rfl,rfl⟩;try rfl)
noncomputable def Lm (q:Ri):Na:=Zr (Es q) (I4 q) q.DV.miss
theorem Pq {q:Ri} (h:Z5 q):AZ env 17 [.agg (Enc.enc q)] (.Fp [.p (.agg (Enc.enc (Lm q))),.p (.int .i64 0)]):=by
 have hl:=MH h
 have hp:=Xx 52 h.LC
 rw [show Zr (Es q) (I4 q) q.DV.miss=Lm q from rfl] at hp
 generalize Lm q=b at *
 refine AZ.enter (AB (by decide)) Tryz.func17 rfl (by kernel_rfl) (by simp [Tryz.ntmps17]) ?_
 repeat' (first|apply Ae.assoc|apply Ae.AA|apply Ae.Aq|apply Ae.ret|apply Ag.nil|apply Ag.one|(apply Aa.fn;rfl;rfl;exact hl;intro _;rfl)|(apply Aa.fn;rfl;rfl;exact hp;intro _;rfl)|(apply Aa.assign;rfl)|(apply Aa.move;rfl)|(apply Aa.int;rfl;rfl;rfl)|(apply Aa.load;rfl;rfl)|(apply Aa.AP;rfl;rfl;rfl)|(apply Aa.box;rfl;trivial)|(apply Aa.alloc;rfl)|(apply Aa.Bj;rfl;rfl;rfl;trivial;rfl;rfl;exact Ac rfl;exact le_dec rfl)|(apply Aa.build;rfl;rfl;rfl;rfl;rfl)|(apply Aa.extract;rfl;rfl)|(apply Ae.Ar;rfl))
 all_goals first|(exfalso;omega)|contradiction|(refine Done.ret rfl (.refl _) (by first|exact trivial|exact ⟨trivial,trivial,trivial⟩|exact ⟨trivial,trivial,trivial,trivial⟩) Aj.nil (Nat.zero_le _) (Nat.le_refl _) ⟨?_,rfl,rfl⟩;try rfl)
def a9k:List FV:=[.val (.slice none 0 0),.int .i64 0,.val (.slice none 0 0),.val (.slice none 0 0)]
theorem Eh {q:Ri} (h:Z5 q) (p:Na):AZ env 21 [.agg (Enc.enc q),.agg (Enc.enc p)] (.p (.int .i64 (vk (Es q) (I4 q) q.DV.miss p))):=by
 have hl:=MH h
 have hp:=EK 52 h.LC p
 refine AZ.enter (AB (by decide)) Tryz.func21 rfl (by kernel_rfl) (by simp [Tryz.ntmps21]) ?_
 repeat' (first|apply Ae.assoc|apply Ae.AA|apply Ae.Aq|apply Ae.ret|apply Ag.nil|apply Ag.one|(apply Aa.fn;rfl;rfl;exact hl;intro _;rfl)|(apply Aa.fn;rfl;rfl;exact hp;intro _;rfl)|(apply Aa.assign;rfl)|(apply Aa.move;rfl)|(apply Aa.int;rfl;rfl;rfl)|(apply Aa.load;rfl;rfl)|(apply Aa.AP;rfl;rfl;rfl)|(apply Aa.box;rfl;trivial)|(apply Aa.build;rfl;rfl;rfl;rfl;rfl)|(apply Aa.extract;rfl;rfl)|(apply Ae.Ar;rfl))
 all_goals first|(exfalso;omega)|contradiction|(refine Done.ret rfl (.refl _) (by first|exact trivial|exact ⟨trivial,trivial,trivial⟩|exact ⟨trivial,trivial,trivial,trivial⟩) Aj.nil (Nat.zero_le _) (Nat.le_refl _) ⟨?_,rfl,rfl⟩;try rfl)
end Go.Proofs.YtdabojnmoejilaaGreatDoor
namespace Go.Proofs.YtdabojnmoejilaaGreatDoor
open Go Go.Am Go.Vm Go.Tra Go.Hun
attribute [local irreducible] Aa Ag Ak Ae BH AZ CW AO AL Az Vm.Done Di Bv
theorem fK (fs:List Int):∀ {k i:Nat},i<k→gi (EI fs k) i=dO i (gi fs i):=fun {k i} h=>by
 unfold EI gi;simp [List.getElem?_map,List.getElem?_range h]
theorem Z9 (ts:List Tn) (fs:List Int):∀ {k i:Nat},i<k→gi (FM ts fs k) i=Y7 i (gi ts i).t (gi fs i):=fun {k i} h=>by
 unfold FM gi;simp [List.getElem?_map,List.getElem?_range h]
theorem yX {i:Nat} {t:List UInt8} {f:Int} (hi:i<10) (ht:C9 t) (hf:oh ⟨f,1⟩):D8 (Y7 i t f)=0:=by
 unfold D8
 have h1:C9 (Y7 i t f).name:=WG (by decide) hi
 have h2:C9 (Y7 i t f).EC:=ht
 have h3:OJ (Y7 i t f).Du=0:=Ot.2 hf
 rw [if_neg (by rintro (h|h);exact h h1;exact h h2),if_neg (fun h=>h h3),if_neg (by show ¬ ((36:Int)< -256∨(36:Int)>256);omega),if_neg (by show ¬ (3=0);omega),if_neg (by show ¬ (3>128);omega)]
 unfold DW
 rw [if_pos]
 intro j hj
 have:j=0∨j=1∨j=2:=by
  have:j<3:=hj
  omega
 rcases this with rfl|rfl|rfl<;>(show ¬ Xz 1)<;>decide
theorem kE {ts:List Tn} {fs:List Int} (hl:ts.length=fs.length) (h9:ts.length≤9) (hT:∀ i,i<ts.length→C9 (gi ts i).t) (hF:∀ i,i<ts.length→oh ⟨gi fs i,1⟩):KR (JE ts fs)=0:=by
 have eR:(JE ts fs).ranks=FM ts fs ts.length:=rfl
 have eD:(JE ts fs).Aw=[Xa (EI fs ts.length)]:=rfl
 have eC:(JE ts fs).Gh=[]:=rfl
 have eN:(JE ts fs).name=[79]:=rfl
 have lR:=RX ts fs ts.length
 have lS:=Sr fs ts.length
 have gR:∀ i,i<ts.length→gi (FM ts fs ts.length) i=Y7 i (gi ts i).t (gi fs i):=fun i hi=>Z9 ts fs hi
 have gS:∀ i,i<ts.length→gi (EI fs ts.length) i=dO i (gi fs i):=fun i hi=>fK fs hi
 unfold KR
 rw [eR,eD,eC,eN]
 have hr:∀ i,i<(FM ts fs ts.length).length→D8 (gi (FM ts fs ts.length) i)=0:=fun i hi=>by
  rw [lR] at hi
  rw [gR i hi]
  exact yX (by omega) (hT i hi) (hF i hi)
 have hrk:NU (FM ts fs ts.length) 0=0:=SN (fun i hi=>⟨hr i hi,Sm (c:=82) (by omega) (fun j hj=>by rw [gR j (by omega)];rfl) hi⟩) _ 0 rfl
 have n1:C9 [79]:=⟨by decide,by decide,by decide,fun j h1 h2=>by simp at h2;omega⟩
 have n2:C9 [71,114,101,97,116]:=⟨by decide,by decide,by decide,fun j h1 h2=>by
  have:j=1∨j=2∨j=3∨j=4:=by simp at h2;omega
  rcases this with rfl|rfl|rfl|rfl<;>exact .inl (by decide)⟩
 rw [if_neg (fun h=>h n1),if_neg (by omega),if_neg (fun h=>h hrk),if_neg (by simp),if_neg (by simp)]
 have hst:∀ i,i<(EI fs ts.length).length→Jp (FM ts fs ts.length) 36 38 (gi (EI fs ts.length) i)=0:=fun i hi=>by
  rw [lS] at hi
  rw [gS i hi]
  unfold Jp
  rw [Yq hr (by omega) (by omega),if_neg (fun h=>h rfl)]
  unfold wL
  have h1:C9 (dO i (gi fs i)).name:=WG (by decide) (by omega)
  have h3:OJ (dO i (gi fs i)).Du=0:=Ot.2 (hF i hi)
  have es:(dO i (gi fs i)).Ez=[⟨36,38,[⟨(i:Int),0⟩]⟩]:=rfl
  rw [if_neg (fun h=>h h1),if_neg (fun h=>h h3),es,if_neg (by simp),if_neg (by simp)]
  exact Jy (by simp) (H9 ⟨by simp only;omega,by simp⟩)
 have hd:F9 (FM ts fs ts.length) [Xa (EI fs ts.length)] 0=0:=PU (fun i hi=>by
  obtain rfl:i=0:=by simp at hi;omega
  refine ⟨n2,by simp,?_⟩
  show KJ (FM ts fs ts.length) (Xa (EI fs ts.length))=0
  unfold KJ
  rw [show UG (Xa (EI fs ts.length)).lo (Xa (EI fs ts.length)).hi=0 from Lr (by simp [Xa]),if_neg (fun h=>h rfl),if_neg (by show ¬ (EI fs ts.length).length>60;omega)]
  exact PI (fun j hj=>⟨hst j hj,Sm (c:=82) (l:=EI fs ts.length) (by omega) (fun a ha=>by rw [gS a (by omega)];rfl) hj⟩) _ 0 rfl) _ 0 rfl
 rw [if_neg (fun h=>h hd)]
 unfold SV
 rw [if_neg (by simp)]
 have hc:P8 ([Xa (EI fs ts.length)].map fun d=>(⟨d.lo,d.hi⟩:ZT)) 0=0:=RD (fun i hi=>by
  obtain rfl:i=0:=by simp at hi;omega
  exact Lr (by simp [gi,Xa])) _ 0 rfl
 rw [if_neg (fun h=>h hc),Nz,if_neg (by simp)]
theorem su {ts:List Tn} {fs:List Int} (h9:ts.length≤9) (hT:∀ i,i<ts.length→C9 (gi ts i).t):OX (JE ts fs):=by
 have lR:=RX ts fs ts.length
 have lS:=Sr fs ts.length
 refine ⟨by show 1<1000000;decide,by show (FM ts fs ts.length).length<_;omega,by show 1<1000000;decide,by show 0<1000000;decide,fun i hi=>?_,fun i hi=>?_,fun i hi=>?_⟩
 ·have hi:i<ts.length:=by rw [← lR];exact hi
  show Vk (gi (FM ts fs ts.length) i)
  rw [Z9 ts fs hi]
  exact ⟨by show 2<1000000;decide,by show (gi ts i).t.length<_;have:=(hT i hi).2.1;omega,by show 3<1000000;decide⟩
 ·obtain rfl:i=0:=by
   have:i<1:=hi
   omega
  show wC (Xa (EI fs ts.length))
  refine ⟨by show 5<1000000;decide,by show (EI fs ts.length).length<_;omega,fun j hj=>?_⟩
  have hj:j<ts.length:=by rw [← lS];exact hj
  show X5 (gi (EI fs ts.length) j)
  rw [fK fs hj]
  refine ⟨by show 2<1000000;decide,by show 1<1000000;decide,fun a ha=>?_⟩
  obtain rfl:a=0:=by
   have:a<1:=ha
   omega
  exact ⟨by show 1<1000000;decide⟩
 ·have:i<0:=hi
  omega
def rD:List Tn:=[⟨[112,114,105,110,99,105,112,97,108]⟩,⟨[102,108,117,116,101]⟩]
def xq:List Tn:=[⟨[102,108,117,116,101]⟩]
theorem qQ (s:List UInt8) (h0:0<s.length) (h1:s.length≤32) (h:∀ i,i<s.length→eP (gi s i).toNat):C9 s:=⟨h0,h1,h 0 h0,fun i _ hi=>.inl (h i hi)⟩
instance (c:Nat):Decidable (eP c):=by unfold eP;infer_instance
theorem a0r:C9 [112,114,105,110,99,105,112,97,108]:=qQ _ (by decide) (by decide) (by decide)
theorem sO:C9 [102,108,117,116,101]:=qQ _ (by decide) (by decide) (by decide)
theorem tq:∀ i,i<rD.length→C9 (gi rD i).t:=fun i hi=>by
 have:i=0∨i=1:=by
  have:i<2:=hi
  omega
 rcases this with rfl|rfl
 ·exact a0r
 ·exact sO
theorem qL:∀ i,i<xq.length→C9 (gi xq i).t:=fun i hi=>by
 obtain rfl:i=0:=by
  have:i<1:=hi
  omega
 exact sO
def qK (w:Int):Ri:=⟨JE rD [8,4],⟨[3],0,0⟩,JE xq [8],⟨10,1,5,w⟩⟩
theorem a1k {w:Int} (hw:0≤w∧w≤100):MO (qK w).DV:=fun i hi=>by
 match i,hi with
 |0,_=>show (0:Int)≤10∧(10:Int)≤100000;decide
 |1,_=>show (0:Int)≤1∧(1:Int)≤100000;decide
 |2,_=>show (0:Int)≤5∧(5:Int)≤100000;decide
 |3,_=>exact ⟨hw.1,Int.le_trans hw.2 (by decide)⟩
theorem shK:∀ a,a<2→(Cb ⟨8,1⟩ ⟨gi [8,4] a,1⟩).2=0∧-1000≤(Cb ⟨8,1⟩ ⟨gi [8,4] a,1⟩).1∧(Cb ⟨8,1⟩ ⟨gi [8,4] a,1⟩).1≤1000:=by decide +kernel
theorem aI {w:Int} (hw:0≤w∧w≤100):Z5 (qK w):=by
 have e1:KR (JE rD [8,4])=0:=kE rfl (by decide) tq (fun i hi=>by
  have:i=0∨i=1:=by
   have:i<2:=hi
   omega
  rcases this with rfl|rfl<;>decide +kernel)
 have e2:KR (JE xq [8])=0:=kE rfl (by decide) qL (fun i hi=>by
  obtain rfl:i=0:=by
   have:i<1:=hi
   omega
  decide +kernel)
 have e3:O8 (JE rD [8,4]) ⟨[3],0,0⟩=0:=by
  rw [SC rfl (fun i hi=>by
   obtain rfl:i=0:=by
    have:i<1:=hi
    omega
   rfl)]
  rfl
 refine ⟨su (by decide) tq,su (by decide) qL,⟨fun i hi=>?_,by show 0<18446744073709551616;decide,by show 0<18446744073709551616;decide,by show 1<9223372036854775808;decide⟩,?_,fun a b ha hb=>?_⟩
 ·obtain rfl:i=0:=by
   have:i<1:=hi
   omega
  show 3<18446744073709551616
  decide
 ·unfold iM
  rw [if_neg (fun h=>h e1),if_neg (fun h=>h e3),if_neg (fun h=>h e2),if_neg (fun h=>h (a1k hw)),if_neg]
  have h1:(Bc (JE rD [8,4]) ⟨[3],0,0⟩).length=2:=by decide +kernel
  have h2:(BI (JE xq [8])).length=1:=by decide +kernel
  have h1:(Bc (qK w).BF (qK w).reg).length=2:=h1
  have h2:(BI (qK w).tgt).length=1:=h2
  omega
 ·obtain ⟨d,s⟩:=a
  obtain ⟨d',s'⟩:=b
  have a1:d<1:=ha.1
  obtain rfl:d=0:=by omega
  have a2:s<2:=ha.2
  have b1:d'<1:=hb.1
  obtain rfl:d'=0:=by omega
  have b2:s'<1:=hb.2
  obtain rfl:s'=0:=by omega
  have:s=0∨s=1:=by omega
  rcases this with rfl|rfl
  ·exact shK 0 (by decide)
  ·exact shK 1 (by decide)
theorem YN (w:Int):Es (qK w)=[[10],[12]]:=by
 show KA (JE rD [8,4]) (JE xq [8]) ⟨[3],0,0⟩ ⟨10,1,5,w⟩=_
 have:KA (JE rD [8,4]) (JE xq [8]) ⟨[3],0,0⟩ ⟨10,1,5,0⟩=[[10],[12]]:=by decide +kernel
 exact this
theorem lW (w:Int):I4 (qK w)=1:=by
 have h1:(Bc (JE rD [8,4]) ⟨[3],0,0⟩).length=2:=by decide +kernel
 have h2:(BI (JE xq [8])).length=1:=by decide +kernel
 show (if (Bc (JE rD [8,4]) ⟨[3],0,0⟩).length=0 then 0 else (BI (JE xq [8])).length)=1
 rw [h1,h2];rfl
theorem a4v:(Lm (qK 20)).total=30:=by
 unfold Lm Zr
 rw [YN,lW]
 show ZJ [[10],[12]] 2 1 20=30
 decide +kernel
theorem a7b:(Lm (qK 5)).total=10:=by
 unfold Lm Zr
 rw [YN,lW]
 show ZJ [[10],[12]] 2 1 5=10
 decide +kernel
theorem iK:AZ env 12 [] (.p (.bool true)):=by
 have h1:=Uj rD [8,4] rfl (by decide)
 have h2:=Uj xq [8] rfl (by decide)
 have hl:=MH (aI (w:=20) (by decide))
 rw [YN] at hl
 have hb:=Pq (aI (w:=20) (by decide))
 have hb5:=Pq (aI (w:=5) (by decide))
 have hv:=Eh (aI (w:=20) (by decide)) (Lm (qK 20))
 rw [show vk (Es (qK 20)) (I4 (qK 20)) (qK 20).DV.miss (Lm (qK 20))=0 from wF (aI (w:=20) (by decide)).LC] at hv
 have t1:=a4v
 have t2:=a7b
 generalize Lm (qK 20)=A at *
 generalize Lm (qK 5)=B at *
 obtain ⟨c1,tt1,r1,p1⟩:=A
 obtain ⟨c2,tt2,r2,p2⟩:=B
 simp only at t1 t2
 subst t1;subst t2
 refine AZ.enter (AB (by decide)) Tryz.func12 rfl (by kernel_rfl) (by simp [Tryz.ntmps12]) ?_
 repeat' (first|(refine Ag.I8 11 ?_;refine Ag.ghost (AX.trans (AX.freeze 9 rfl rfl) (AX.freeze 10 rfl rfl)) ?_)|(refine Ag.I8 13 ?_;refine Ag.ghost (AX.freeze 12 rfl rfl) ?_)|(refine Ag.I8 16 ?_;refine Ag.ghost (AX.trans (AX.freeze 14 rfl rfl) (AX.freeze 15 rfl rfl)) ?_)|apply Ae.AA|apply Ae.ret|apply Ag.nil|apply Ag.one|(apply Ag.take;rfl;rfl)|(apply Aa.fn;rfl;rfl;exact h1;intro _;rfl)|(apply Aa.fn;rfl;rfl;exact h2;intro _;rfl)|(apply Aa.fn;rfl;rfl;exact hl;intro _;rfl)|(apply Aa.fn;rfl;rfl;exact hb;intro _;rfl)|(apply Aa.fn;rfl;rfl;exact hv;intro _;rfl)|(apply Aa.fn;rfl;rfl;exact hb5;intro _;rfl)|(apply Aa.Sv;rfl;rfl;rfl;decide;decide)|(apply Aa.assign;rfl)|(apply Aa.move;rfl)|(apply Aa.int;rfl;rfl;rfl)|(apply Aa.load;rfl;rfl)|(apply Aa.BJ;rfl;rfl)|(apply Aa.BL;rfl;rfl)|(apply Aa.AP;rfl;rfl;rfl)|(apply Aa.alloc;rfl)|(apply Aa.Bj;rfl;rfl;rfl;trivial;rfl;rfl;exact Ac rfl;exact le_dec rfl)|(apply Aa.build;rfl;rfl;rfl;rfl;rfl)|(apply Aa.buildSlice;rfl;rfl;rfl;decide;rfl;rfl;rfl)|(apply Aa.extract;rfl;rfl))
 all_goals try (exfalso;omega)
 all_goals (refine Done.ret rfl (.refl _) (by first|exact trivial|exact ⟨trivial,trivial,trivial⟩|exact ⟨trivial,trivial,trivial,trivial⟩) Aj.nil (Nat.zero_le _) (Nat.le_refl _) ⟨?_,rfl,rfl⟩;try rfl)
end Go.Proofs.YtdabojnmoejilaaGreatDoor
namespace Go.Proofs.YtdabojnmoejilaaGreatDoor
open Go Go.Am Go.Vm Go.Tra
attribute [local irreducible] Aa Ag Ak Ae BH AZ CW AO AL Az Vm.Done Di Bv
attribute [local irreducible] D8 DW Jp KJ SV Cb
def Rh (o:EY) (d s:Nat):List PN:=KT (Qb o) d++(List.range s).map fun i=>⟨d,i⟩
theorem nU (o:EY) (d:Nat):Rh o d 0=KT (Qb o) d:=by simp [Rh]
theorem oP (o:EY) (d s:Nat):Rh o d (s+1)=Rh o d s++[⟨d,s⟩]:=by simp [Rh,List.range_succ]
theorem qZ (o:EY) (d s:Nat):(Rh o d s).length=KF (Qb o) d+s:=by simp [Rh,KF]
theorem vZ (o:EY) {d:Nat} (hd:d<o.Aw.length):Rh o d (gi o.Aw d).stops.length=KT (Qb o) (d+1):=by
 rw [← Vu o hd];rfl
theorem jc {o:EY} (ho:Jl o) {d:Nat} (h:d≤o.Aw.length):KF (Qb o) d≤480:=by
 have h1:=Y2 (Qb o) (d:=d) (e:=(Qb o).length) (by rw [Mc];exact h)
 have h2:=ER ho
 rw [Wp] at h2
 omega
theorem Td (o:EY) (ho:Jl o):AZ env 19 [.agg (Enc.enc o)] (.p (.lst 85 (cells (BI o)) (BI o).length)):=by
 have d1:=ho.Aw
 refine AZ.enter (AB (by decide)) Tryz.func19 rfl (by kernel_rfl) (by simp [Tryz.ntmps19]) ?_
 repeat' (first|apply Ae.assoc|apply Ae.AA|apply Ae.Ai|apply Ag.nil|apply Ag.one|(apply Aa.assign;rfl)|(apply Aa.box;rfl;trivial))
 all_goals try (exfalso;omega)
 refine Ae.ghost (AX.adopt 3 85 rfl) ?_
 apply Ae.FD (o.Aw.length) [(1,_)] [(0,_)] (fun k r=>(3,.vec 1 (KT (Qb o) k).length 0 (KT (Qb o) k).length)::(4,.p (.int .i64 (k:Int)))::r) (fun k r=>(1,.vec 85 (cells (KT (Qb o) k)) (KT (Qb o) k).length true)::r) 2
 ·first|omega|decide
 ·first|omega|decide
 ·repeat (first|exact Ad.nil|(refine Ad.eq rfl ?_ ?_;(first|exact PV.Ap rfl|(simp [PV.under,AV.under];done)))|refine Ad.cons trivial rfl (.of_eq (Au (by simp<;>omega))) ?_)
 ·repeat (first|exact Aj.nil|(refine Aj.eq rfl (Ac rfl) ?_ ?_;(first|exact HB.Ap rfl|exact AV.Ah _ _|(simp [HB.under,AV.under,PV.under];done)))|(refine Aj.cons (Ac rfl) ?_ rfl ?_ ?_;(first|exact trivial|exact AV.Ah _ _|(simp [HB.under,AV.under,PV.under]));(first|exact Bq.refl _|exact Bq.vec (Bl.refl _) (by simp))))
 ·intro k hk
  have s1:=ho.stops k hk
  have e0:=nU o k
  have e9:=vZ o hk
  have b1:=jc ho (d:=k+1) hk
  have b2:=Jw (Qb o) k
  rw [Vu o hk] at b2
  rw [← e0,← e9]
  repeat' (first|apply Ae.assoc|apply Ae.AA|apply Ae.Aq|apply Ae.Ai|apply Ae.IE|apply Ag.nil|apply Ag.one|(apply Aa.assign;rfl)|(apply Aa.move;rfl)|(apply Aa.int;rfl;rfl;rfl)|(apply Aa.load;rfl;rfl)|(apply Aa.BL;rfl;rfl)|(apply Aa.AP;rfl;rfl;rfl)|(apply Ae.Af;rfl)|(intro _;try (exfalso;omega)))
  all_goals try (exfalso;omega)
  apply Ae.FD ((gi o.Aw k).stops.length) [(1,_),(4,_)] [(0,_)] (fun k_ r=>(3,.vec 1 (Rh o k k_).length 0 (Rh o k k_).length)::(5,.p (.int .i64 (k_:Int)))::r) (fun k_ r=>(1,.vec 85 (cells (Rh o k k_)) (Rh o k k_).length true)::r) 2
  ·first|omega|decide
  ·first|omega|decide
  ·repeat (first|exact Ad.nil|(refine Ad.eq rfl ?_ ?_;(first|exact PV.Ap rfl|(simp [PV.under,AV.under];done)))|refine Ad.cons trivial rfl (.of_eq (Au (by simp<;>omega))) ?_)
  ·repeat (first|exact Aj.nil|(refine Aj.eq rfl (Ac rfl) ?_ ?_;(first|exact HB.Ap rfl|exact AV.Ah _ _|(simp [HB.under,AV.under,PV.under];done)))|(refine Aj.cons (Ac rfl) ?_ rfl ?_ ?_;(first|exact trivial|exact AV.Ah _ _|(simp [HB.under,AV.under,PV.under]));(first|exact Bq.refl _|exact Bq.vec (Bl.refl _) (by simp))))
  ·intro j hj
   have f1:=oP o k j
   have f2:(Rh o k (j+1)).length=(Rh o k j).length+1:=by rw [f1];simp
   have f3:=qZ o k j
   repeat' (first|apply Ae.assoc|apply Ae.AA|apply Ae.region|apply Ae.Aq|apply Ae.Ai|apply AO.normal|apply AL.normal|apply Ag.nil|apply Ag.one|(apply Aa.Dp (a:=(⟨k,j⟩:PN));rfl;rfl;rfl;rfl;rfl;rfl;rfl;rfl;(intro _ h;cases h);rfl;rfl;rfl;decide;decide;(first|omega|(simp only [List.length_take,List.length_drop,List.length_append,List.length_singleton,List.length_cons,List.length_nil]<;>omega)))|(apply Aa.assign;rfl)|(apply Aa.move;rfl)|(apply Aa.Bz;rfl;rfl;omega)|(apply Aa.int;rfl;rfl;rfl)|(apply Aa.AU;rfl;rfl;rfl;omega;rfl)|(apply Aa.load;rfl;rfl)|(apply Aa.BL;rfl;rfl)|(apply Aa.AP;rfl;rfl;rfl)|(apply Aa.DC;rfl;rfl)|(apply Aa.build;rfl;rfl;rfl;rfl;rfl)|(apply Aa.buildSlice;rfl;rfl;rfl;decide;rfl;rfl;rfl)|(apply Ae.Af;rfl)|(intro _;try (exfalso;omega)))
   all_goals try (exfalso;omega)
   refine Az.normal ⟨by omega,?_,?_⟩
   ·rw [f2]
    repeat (first|exact Ad.nil|refine Ad.same trivial rfl ?_|refine Ad.same (Ac rfl) rfl ?_|refine Ad.same ⟨trivial,Ac rfl,trivial⟩ rfl ?_|refine Ad.same ⟨trivial,Ac rfl,Ac rfl,trivial⟩ rfl ?_|refine Ad.same ⟨trivial,Ac rfl,Ac rfl,Ac rfl,trivial⟩ rfl ?_|refine Ad.same ⟨trivial,Ac rfl,Ac rfl,Ac rfl,Ac rfl,trivial⟩ rfl ?_|refine Ad.same ⟨trivial,trivial⟩ rfl ?_|refine Ad.cons trivial rfl (.of_eq (Au (by simp<;>omega))) ?_)
   ·rw [f2,f1]
    repeat (first|exact Aj.nil|(refine Aj.cons (Ac rfl) ?_ rfl ?_ ?_;(first|exact HB.Ap rfl|exact AV.Ah _ _|(simp [HB.under,AV.under,PV.under]));(first|exact Bq.refl _|exact Bq.vec (Bl.refl _) (by simp))))
  ·repeat' (first|apply Ae.assoc|apply Ae.AA|apply Ae.region|apply Ae.A8|apply AO.normal|apply AL.normal|apply AL.exit|apply Az.exit|apply Ag.nil|apply Ag.one|(apply Aa.assign;rfl)|(apply Aa.move;rfl)|(apply Aa.Bz;rfl;rfl;omega)|(apply Aa.int;rfl;rfl;rfl)|(apply Aa.AU;rfl;rfl;rfl;omega;rfl)|(apply Aa.load;rfl;rfl)|(apply Aa.BL;rfl;rfl)|(apply Aa.AP;rfl;rfl;rfl)|(apply Aa.DC;rfl;rfl)|(apply Ae.Af;rfl)|(intro _;try (exfalso;omega)))
   all_goals try (exfalso;omega)
   refine Az.normal ⟨by first|omega|decide,?_,?_⟩
   ·repeat (first|exact Ad.nil|refine Ad.same trivial rfl ?_|refine Ad.same (Ac rfl) rfl ?_|refine Ad.same ⟨trivial,Ac rfl,trivial⟩ rfl ?_|refine Ad.same ⟨trivial,Ac rfl,Ac rfl,trivial⟩ rfl ?_|refine Ad.same ⟨trivial,Ac rfl,Ac rfl,Ac rfl,trivial⟩ rfl ?_|refine Ad.same ⟨trivial,Ac rfl,Ac rfl,Ac rfl,Ac rfl,trivial⟩ rfl ?_|refine Ad.same ⟨trivial,trivial⟩ rfl ?_|refine Ad.cons trivial rfl (.of_eq (Au (by simp<;>omega))) ?_)
   ·repeat (first|exact Aj.nil|(refine Aj.cons (Ac rfl) ?_ rfl ?_ ?_;(first|exact HB.Ap rfl|exact AV.Ah _ _|(simp [HB.under,AV.under,PV.under]));(first|exact Bq.refl _|exact Bq.vec (Bl.refl _) (by simp))))
 ·have ea:KT (Qb o) o.Aw.length=BI o:=by unfold BI;rw [Mc]
  rw [ea]
  repeat' (first|(refine Ag.I8 2 ?_;refine Ag.ghost (AX.freeze 30 rfl rfl) ?_)|apply Ae.assoc|apply Ae.AA|apply Ae.A8|apply AO.normal|apply AL.exit|apply Az.exit|apply Ae.ret|apply Ag.nil|apply Ag.one|(apply Aa.assign;rfl)|(apply Aa.move;rfl)|(apply Aa.int;rfl;rfl;rfl)|(apply Aa.load;rfl;rfl)|(apply Aa.BL;rfl;rfl)|(apply Aa.AP;rfl;rfl;rfl)|(apply Ae.Af;rfl)|(intro _;try (exfalso;omega)))
  all_goals first|(exfalso;omega)|(refine Done.ret rfl (.refl _) (by first|exact trivial|exact ⟨trivial,trivial,trivial⟩|exact ⟨trivial,trivial,trivial,trivial⟩) Aj.nil (Nat.zero_le _) (Nat.le_refl _) ⟨?_,rfl,rfl⟩;try rfl)
def Ie (o:EY) (rg:Rgs) (k:Nat):List PN:=((BI o).take k).filter (F5 rg)
theorem dV (o:EY) (rg:Rgs) {k:Nat} (h:k<(BI o).length):Ie o rg (k+1)=if F5 rg (gi (BI o) k)=true then Ie o rg k++[gi (BI o) k] else Ie o rg k:=by
 unfold Ie
 rw [DL h,List.filter_append]
 split
 ·rename_i h1;simp [h1]
 ·rename_i h1;simp [h1]
theorem iO (o:EY) (rg:Rgs) (k:Nat):(Ie o rg k).length≤k:=by
 unfold Ie
 have:=List.length_filter_le (F5 rg) ((BI o).take k)
 rw [List.length_take] at this
 omega
theorem jo (o:EY) (rg:Rgs):Ie o rg (BI o).length=Bc o rg:=by unfold Ie Bc;rw [List.take_of_length_le (Nat.le_refl _)]
theorem Z8 (o:EY) (ho:Jl o) (rg:Rgs) (hr:rg.Ok) (hl:rg.stops.length=o.Aw.length) :
 AZ env 31 [.agg (Enc.enc o),.agg (Enc.enc rg)] (.p (.lst 85 (cells (Bc o rg)) (Bc o rg).length)):=by
 have hb:=ER ho
 have hs:=Td o ho
 refine AZ.enter (AB (by decide)) Tryz.func31 rfl (by kernel_rfl) (by simp [Tryz.ntmps31]) ?_
 repeat' (first|apply Ae.assoc|apply Ae.AA|apply Ae.Ai|apply Ag.nil|apply Ag.one|(apply Aa.fn;rfl;rfl;exact hs;intro _;rfl)|(apply Aa.assign;rfl)|(apply Aa.load;rfl;rfl)|(apply Aa.box;rfl;trivial))
 all_goals try (exfalso;omega)
 refine Ae.ghost (AX.adopt 5 85 rfl) ?_
 apply Ae.FD ((BI o).length) [(3,_),(6,_)] [(1,_)] (fun k r=>(5,.vec 2 (Ie o rg k).length 0 (Ie o rg k).length)::(7,.p (.int .i64 (k:Int)))::r) (fun k r=>(2,.vec 85 (cells (Ie o rg k)) (Ie o rg k).length true)::r) 3
 ·first|omega|decide
 ·first|omega|decide
 ·repeat (first|exact Ad.nil|(refine Ad.eq rfl ?_ ?_;(first|exact PV.Ap rfl|(simp [PV.under,AV.under];done)))|refine Ad.cons trivial rfl (.of_eq (Au (by simp<;>omega))) ?_)
 ·repeat (first|exact Aj.nil|(refine Aj.eq rfl (Ac rfl) ?_ ?_;(first|exact HB.Ap rfl|exact AV.Ah _ _|(simp [HB.under,AV.under,PV.under];done)))|(refine Aj.cons (Ac rfl) ?_ rfl ?_ ?_;(first|exact trivial|exact AV.Ah _ _|(simp [HB.under,AV.under,PV.under]));(first|exact Bq.refl _|exact Bq.vec (Bl.refl _) (by simp))))
 ·intro k hk
  obtain ⟨h1,h2⟩:=Qj hk
  have s1:=ho.stops _ h1
  have b1:=hr.stops (gi (BI o) k).d (by omega)
  have hq:gi rg.stops (gi (BI o) k).d / 2 ^ (gi (BI o) k).s<18446744073709551616:=Nat.lt_of_le_of_lt (Nat.div_le_self _ _) b1
  have e1:=dV o rg hk
  have e3:=iO o rg k
  by_cases hp:F5 rg (gi (BI o) k)=true
  ·rw [if_pos hp] at e1
   have e2:(Ie o rg (k+1)).length=(Ie o rg k).length+1:=by rw [e1];simp
   have hm:gi rg.stops (gi (BI o) k).d / 2 ^ (gi (BI o) k).s % 2=1:=by simpa [F5] using hp
   repeat' (first|apply Ae.assoc|apply Ae.AA|apply Ae.BA|apply Ae.region|apply Ae.Aq|apply Ae.Ai|apply AO.normal|apply AL.normal|apply Ag.nil|apply Ak.nil|apply Ag.one|(apply Ak.bar;decide +kernel)|apply Ak.quiet|(apply Aa.Dp (a:=gi (BI o) k);rfl;rfl;rfl;rfl;rfl;rfl;rfl;rfl;(intro _ h;cases h);rfl;rfl;rfl;decide;decide;(first|omega|(simp only [List.length_take,List.length_drop,List.length_append,List.length_singleton,List.length_cons,List.length_nil]<;>omega)))|(apply Aa.AU (l:=rg.stops) (i:=(gi (BI o) k).d);rfl;rfl;rfl;omega;rfl)|(apply Aa.assign;rfl)|(apply Aa.move;rfl)|(apply Aa.Bz;rfl;rfl;omega)|(apply Aa.wG;rfl;rfl;omega)|(apply Aa.int;rfl;rfl;rfl)|(apply Aa.AU;rfl;rfl;rfl;omega;rfl)|(apply Aa.load;rfl;rfl)|(apply Aa.BL;rfl;rfl)|(apply Aa.AP;rfl;rfl;rfl)|(apply Aa.DC;rfl;rfl)|(apply Aa.buildSlice;rfl;rfl;rfl;decide;rfl;rfl;rfl)|(apply Aa.TF;rfl;rfl;rfl;rfl;omega)|(apply Aa.VI;rfl;rfl;(simp only [IntKind.bits];omega))|(apply Ae.Af;rfl)|(apply Ae.AY;rfl)|(intro _;try (exfalso;omega)))
   all_goals try (exfalso;omega)
   refine Az.normal ⟨by omega,?_,?_⟩
   ·rw [e2]
    repeat (first|exact Ad.nil|refine Ad.same trivial rfl ?_|refine Ad.same (Ac rfl) rfl ?_|refine Ad.same ⟨trivial,Ac rfl,trivial⟩ rfl ?_|refine Ad.same ⟨trivial,Ac rfl,Ac rfl,trivial⟩ rfl ?_|refine Ad.same ⟨trivial,Ac rfl,Ac rfl,Ac rfl,trivial⟩ rfl ?_|refine Ad.same ⟨trivial,Ac rfl,Ac rfl,Ac rfl,Ac rfl,trivial⟩ rfl ?_|refine Ad.same ⟨trivial,trivial⟩ rfl ?_|refine Ad.cons trivial rfl (.of_eq (Au (by simp<;>omega))) ?_)
   ·rw [e2,e1]
    repeat (first|exact Aj.nil|(refine Aj.cons (Ac rfl) ?_ rfl ?_ ?_;(first|exact HB.Ap rfl|exact AV.Ah _ _|(simp [HB.under,AV.under,PV.under]));(first|exact Bq.refl _|exact Bq.vec (Bl.refl _) (by simp))))
  ·rw [if_neg hp] at e1
   have hm:¬ gi rg.stops (gi (BI o) k).d / 2 ^ (gi (BI o) k).s % 2=1:=by simpa [F5] using hp
   repeat' (first|apply Ae.assoc|apply Ae.AA|apply Ae.BA|apply Ae.region|apply Ae.Aq|apply Ae.Ai|apply AO.normal|apply AL.normal|apply Ae.skip|apply Ag.nil|apply Ak.nil|apply Ag.one|(apply Ak.bar;decide +kernel)|apply Ak.quiet|(apply Aa.AU (l:=rg.stops) (i:=(gi (BI o) k).d);rfl;rfl;rfl;omega;rfl)|(apply Aa.assign;rfl)|(apply Aa.move;rfl)|(apply Aa.Bz;rfl;rfl;omega)|(apply Aa.wG;rfl;rfl;omega)|(apply Aa.int;rfl;rfl;rfl)|(apply Aa.AU;rfl;rfl;rfl;omega;rfl)|(apply Aa.load;rfl;rfl)|(apply Aa.BL;rfl;rfl)|(apply Aa.AP;rfl;rfl;rfl)|(apply Aa.DC;rfl;rfl)|(apply Aa.TF;rfl;rfl;rfl;rfl;omega)|(apply Aa.VI;rfl;rfl;(simp only [IntKind.bits];omega))|(apply Ae.Af;rfl)|(apply Ae.AY;rfl)|(intro _;try (exfalso;omega)))
   all_goals try (exfalso;omega)
   refine Az.normal ⟨by omega,?_,?_⟩
   ·rw [e1]
    repeat (first|exact Ad.nil|refine Ad.same trivial rfl ?_|refine Ad.same (Ac rfl) rfl ?_|refine Ad.same ⟨trivial,Ac rfl,trivial⟩ rfl ?_|refine Ad.same ⟨trivial,Ac rfl,Ac rfl,trivial⟩ rfl ?_|refine Ad.same ⟨trivial,Ac rfl,Ac rfl,Ac rfl,trivial⟩ rfl ?_|refine Ad.same ⟨trivial,Ac rfl,Ac rfl,Ac rfl,Ac rfl,trivial⟩ rfl ?_|refine Ad.same ⟨trivial,trivial⟩ rfl ?_|refine Ad.cons trivial rfl (.of_eq (Au (by simp<;>omega))) ?_)
   ·rw [e1]
    repeat (first|exact Aj.nil|(refine Aj.cons (Ac rfl) ?_ rfl ?_ ?_;(first|exact HB.Ap rfl|exact AV.Ah _ _|(simp [HB.under,AV.under,PV.under]));(first|exact Bq.refl _|exact Bq.vec (Bl.refl _) (by simp))))
 ·rw [jo]
  repeat' (first|(refine Ag.I8 4 ?_;refine Ag.ghost (AX.freeze 41 rfl rfl) ?_)|apply Ae.assoc|apply Ae.AA|apply Ae.A8|apply AO.normal|apply AL.exit|apply Az.exit|apply Ae.ret|apply Ag.nil|apply Ag.one|(apply Aa.assign;rfl)|(apply Aa.move;rfl)|(apply Aa.int;rfl;rfl;rfl)|(apply Aa.BL;rfl;rfl)|(apply Ae.Af;rfl)|(intro _;try (exfalso;omega)))
  all_goals first|(exfalso;omega)|(refine Done.ret rfl (.refl _) (by first|exact trivial|exact ⟨trivial,trivial,trivial⟩|exact ⟨trivial,trivial,trivial,trivial⟩) Aj.nil (Nat.zero_le _) (Nat.le_refl _) ⟨?_,rfl,rfl⟩;try rfl)
theorem WS (o:EY) (ho:Jl o) (p:PN) (hp:Hq o p):AZ env 32 [.agg (Enc.enc o),.agg (Enc.enc p)] (st (MQ o p)):=by
 obtain ⟨g1,g2⟩:=ho.sto hp
 obtain ⟨h1,h2⟩:=hp
 have hs1:=ho.stops p.d h1
 unfold MQ
 obtain ⟨s,hs⟩:∃ s,s=Fe o p:=⟨_,rfl⟩
 have hs':gi (gi o.Aw p.d).stops p.s=s:=hs.symm
 rw [← hs] at g1 g2 ⊢
 have b1:=ho.sm.ranks
 refine AZ.enter (AB (by decide)) Tryz.func32 rfl (by kernel_rfl) (by simp [Tryz.ntmps32]) ?_
 repeat' (first|apply Ae.assoc|apply Ae.AA|apply Ae.BA|apply Ae.Ai|apply Ag.nil|apply Ak.nil|apply Ag.one|(apply Ak.bar;decide +kernel)|apply Ak.quiet|(apply Aa.AU (l:=o.Aw) (i:=p.d);rfl;rfl;rfl;exact h1;rfl)|(apply Aa.AU (l:=(gi o.Aw p.d).stops) (i:=p.s);rfl;rfl;rfl;exact h2;rfl)|(apply Aa.assign;rfl)|(apply Aa.load;rfl;rfl)|(apply Aa.AP;rfl;rfl;rfl)|(apply Aa.DC;rfl;rfl)|(apply Aa.box;rfl;trivial)|(apply Aa.alloc;rfl)|(apply Aa.Bj;rfl;rfl;rfl;trivial;rfl;rfl;exact Ac rfl;exact le_dec rfl))
 all_goals try (exfalso;omega)
 rw [hs']
 apply Ae.GY (s.Ez.length) (fun k=>QT o.ranks s s.Ez.length (s.Ez.length-k)=Xb o.ranks s) [(2,_),(5,_)] [(0,_),(2,_)] (fun k r=>(6,.p (.int .i64 (k:Int)))::r) (fun k r=>r) 3
 ·first|omega|decide
 ·first|omega|decide
 ·repeat (first|exact Ad.nil|(refine Ad.eq rfl ?_ ?_;(first|exact PV.Ap rfl|(simp [PV.under,AV.under];done)))|refine Ad.cons trivial rfl (.of_eq (Au (by simp<;>omega))) ?_)
 ·repeat (first|exact Aj.nil|(refine Aj.eq rfl (Ac rfl) ?_ ?_;(first|exact HB.Ap rfl|exact AV.Ah _ _|(simp [HB.under,AV.under,PV.under];done)))|(refine Aj.cons (Ac rfl) ?_ rfl ?_ ?_;(first|exact trivial|exact AV.Ah _ _|(simp [HB.under,AV.under,PV.under]));(first|exact Bq.refl _|exact Bq.vec (Bl.refl _) (by simp))))
 ·first|(intro _ _;omega)|omega|trivial
 ·intro k hk hi
  obtain ⟨g3,g4⟩:=g2 k hk
  by_cases h0:(gi s.Ez k).draws.length=0
  ·repeat' (first|apply Ae.assoc|apply Ae.AA|apply Ae.region|apply Ae.Aq|apply Ae.Ai|apply AO.normal|apply AL.normal|apply Ae.skip|apply Ag.nil|apply Ag.one|(apply Aa.assign;rfl)|(apply Aa.move;rfl)|(apply Aa.Bz;rfl;rfl;omega)|(apply Aa.int;rfl;rfl;rfl)|(apply Aa.AU;rfl;rfl;rfl;omega;rfl)|(apply Aa.load;rfl;rfl)|(apply Aa.BL;rfl;rfl)|(apply Aa.AP;rfl;rfl;rfl)|(apply Aa.DC;rfl;rfl)|(apply Ae.Af;rfl)|(apply Ae.AY;rfl)|(intro _;try (exfalso;omega)))
   all_goals try (exfalso;omega)
   refine Az.normal ⟨((Xc hk h0).symm.trans hi),by first|omega|decide,?_,?_⟩
   ·repeat (first|exact Ad.nil|refine Ad.same trivial rfl ?_|refine Ad.same (Ac rfl) rfl ?_|refine Ad.same ⟨trivial,Ac rfl,trivial⟩ rfl ?_|refine Ad.same ⟨trivial,Ac rfl,Ac rfl,trivial⟩ rfl ?_|refine Ad.same ⟨trivial,Ac rfl,Ac rfl,Ac rfl,trivial⟩ rfl ?_|refine Ad.same ⟨trivial,Ac rfl,Ac rfl,Ac rfl,Ac rfl,trivial⟩ rfl ?_|refine Ad.same ⟨trivial,trivial⟩ rfl ?_|refine Ad.cons trivial rfl (.of_eq (Au (by simp<;>omega))) ?_)
   ·repeat (first|exact Aj.nil|(refine Aj.cons (Ac rfl) ?_ rfl ?_ ?_;(first|exact HB.Ap rfl|exact AV.Ah _ _|(simp [HB.under,AV.under,PV.under]));(first|exact Bq.refl _|exact Bq.vec (Bl.refl _) (by simp))))
  ·have g5:=g4 0 (by omega)
   obtain ⟨rn,hrn⟩:∃ rn:Nat,(gi (gi s.Ez k).draws 0).rank=rn:=⟨_,(Int.toNat_of_nonneg g5.1).symm⟩
   have h1:Xb o.ranks s=(gi o.ranks rn).EC:=by
    rw [← hi,YJ hk (by omega),hrn];rfl
   rw [h1]
   repeat' (first|apply Ae.assoc|apply Ae.AA|apply Ae.BA|apply Ae.Aq|apply Ae.Ai|apply AO.ret|apply AL.ret|apply Az.ret|apply Ae.ret|apply Ag.nil|apply Ak.nil|apply Ag.one|(apply Ak.bar;decide +kernel)|apply Ak.quiet|(apply Aa.AU (l:=o.ranks) (i:=rn);rfl;(first|exact congrArg (fun a=>some (PV.p (.int .i64 a))) hrn|rfl);rfl;omega;rfl)|(apply Aa.assign;rfl)|(apply Aa.move;rfl)|(apply Aa.int;rfl;rfl;rfl)|(apply Aa.AU;rfl;rfl;rfl;omega;rfl)|(apply Aa.Xh;rfl;rfl;rfl;omega;omega;rfl)|(apply Aa.load;rfl;rfl)|(apply Aa.BL;rfl;rfl)|(apply Aa.AP;rfl;rfl;rfl)|(apply Aa.DC;rfl;rfl)|(apply Ae.Af;rfl)|(apply Ae.AY;rfl)|(intro _;try (exfalso;omega)))
   all_goals first|(exfalso;omega)|(refine Done.ret rfl (.refl _) (by first|exact trivial|exact ⟨trivial,trivial,trivial⟩|exact ⟨trivial,trivial,trivial,trivial⟩) Aj.nil (Nat.zero_le _) (Nat.le_refl _) ⟨?_,rfl,rfl⟩;try rfl)
 ·intro hi
  have h1:Xb o.ranks s=[]:=by rw [← hi,Nat.sub_self];rfl
  rw [h1]
  repeat' (first|apply Ae.assoc|apply Ae.AA|apply Ae.A8|apply AO.normal|apply AL.exit|apply Az.exit|apply Ae.ret|apply Ag.nil|apply Ag.one|(apply Aa.assign;rfl)|(apply Aa.move;rfl)|(apply Aa.int;rfl;rfl;rfl)|(apply Aa.load;rfl;rfl)|(apply Aa.BL;rfl;rfl)|(apply Aa.AP;rfl;rfl;rfl)|(apply Ae.Af;rfl)|(intro _;try (exfalso;omega)))
  all_goals first|(exfalso;omega)|(refine Done.ret rfl (.refl _) (by first|exact trivial|exact ⟨trivial,trivial,trivial⟩|exact ⟨trivial,trivial,trivial,trivial⟩) Aj.nil (Nat.zero_le _) (Nat.le_refl _) ⟨?_,rfl,rfl⟩;try rfl)
def oC (F T:EY) (a b:PN):Int:=(Cb (Fe F a).Du (Fe T b).Du).1
def ShS (F T:EY):Prop:=∀ a b,Hq F a→Hq T b→-1000≤oC F T a b∧oC F T a b≤1000∧max (oC F T a b) (-oC F T a b)=max (qE F T a b) (-qE F T a b)
theorem Zn (q:Ri) (k1:Jl q.BF) (k2:Jl q.tgt) (hw:MO q.DV) (hs:ShS q.BF q.tgt) (hr:q.reg.Ok) (hl:q.reg.stops.length=q.BF.Aw.length) :
 AZ env 16 [.agg (Enc.enc q)] (.p (.lst 52 (cells (KA q.BF q.tgt q.reg q.DV)) (KA q.BF q.tgt q.reg q.DV).length)):=by
 have hdr:=Z8 q.BF k1 q.reg hr hl
 have hst:=Td q.tgt k2
 have b1:=ER k2
 have b2:(Bc q.BF q.reg).length≤480:=by
  have:=ER k1
  have:(Bc q.BF q.reg).length≤(BI q.BF).length:=List.length_filter_le _ _
  omega
 obtain ⟨t,_,p,_⟩:=NC hw
 refine AZ.enter (AB (by decide)) Tryz.func16 rfl (by kernel_rfl) (by simp [Tryz.ntmps16]) ?_
 repeat' (first|apply Ae.assoc|apply Ae.AA|apply Ae.BA|apply Ae.Ai|apply Ag.nil|apply Ak.nil|apply Ag.one|(apply Ak.bar;decide +kernel)|apply Ak.quiet|(apply Aa.fn;rfl;rfl;exact hdr;intro _;rfl)|(apply Aa.fn;rfl;rfl;exact hst;intro _;rfl)|(apply Aa.assign;rfl)|(apply Aa.load;rfl;rfl)|(apply Aa.AP;rfl;rfl;rfl)|(apply Aa.box;rfl;trivial))
 all_goals try (exfalso;omega)
 refine Ae.ghost (AX.adopt 5 52 rfl) ?_
 apply Ae.FD ((Bc q.BF q.reg).length) [(1,_),(3,_),(4,_)] [(0,_)] (fun k r=>(5,.vec 1 (FW q.BF q.tgt q.reg q.DV k).length 0 (FW q.BF q.tgt q.reg q.DV k).length)::(6,.p (.int .i64 (k:Int)))::r) (fun k r=>(1,.vec 52 (cells (FW q.BF q.tgt q.reg q.DV k)) (FW q.BF q.tgt q.reg q.DV k).length true)::r) 2
 ·first|omega|decide
 ·first|omega|decide
 ·repeat (first|exact Ad.nil|(refine Ad.eq rfl ?_ ?_;(first|exact PV.Ap rfl|(simp [PV.under,AV.under];done)))|refine Ad.cons trivial rfl (.of_eq (Au (by simp<;>omega))) ?_)
 ·repeat (first|exact Aj.nil|(refine Aj.eq rfl (Ac rfl) ?_ ?_;(first|exact HB.Ap rfl|exact AV.Ah _ _|(simp [HB.under,AV.under,PV.under];done)))|(refine Aj.cons (Ac rfl) ?_ rfl ?_ ?_;(first|exact trivial|exact AV.Ah _ _|(simp [HB.under,AV.under,PV.under]));(first|exact Bq.refl _|exact Bq.vec (Bl.refl _) (by simp))))
 ·intro k hk
  have ha:Hq q.BF (gi (Bc q.BF q.reg) k):=RY (Y9 hk)
  have e1:=U5 q.BF q.tgt q.reg q.DV hk
  have e2:(FW q.BF q.tgt q.reg q.DV (k+1)).length=(FW q.BF q.tgt q.reg q.DV k).length+1:=by rw [e1];simp
  have e3:=XP q.BF q.tgt q.reg q.DV (Nat.le_of_lt hk)
  have ht1:=WS q.BF k1 _ ha
  repeat' (first|apply Ae.assoc|apply Ae.AA|apply Ae.BA|apply Ae.Aq|apply Ae.Ai|apply Ag.nil|apply Ak.nil|apply Ag.one|(apply Ak.bar;decide +kernel)|apply Ak.quiet|(apply Aa.AU (l:=q.BF.Aw) (i:=(gi (Bc q.BF q.reg) k).d);rfl;rfl;rfl;exact ha.1;rfl)|(apply Aa.assign;rfl)|(apply Aa.move;rfl)|(apply Aa.int;rfl;rfl;rfl)|(apply Aa.AU;rfl;rfl;rfl;omega;rfl)|(apply Aa.load;rfl;rfl)|(apply Aa.BL;rfl;rfl)|(apply Aa.AP;rfl;rfl;rfl)|(apply Aa.DC;rfl;rfl)|(apply Aa.alloc;rfl)|(apply Aa.Bj;rfl;rfl;rfl;trivial;rfl;rfl;exact Ac rfl;exact le_dec rfl)|(apply Ae.Af;rfl)|(intro _;try (exfalso;omega)))
  all_goals try (exfalso;omega)
  refine Ae.ghost (AX.adopt 7 3 rfl) ?_
  apply Ae.FD ((BI q.tgt).length) [(1,_),(3,_),(4,_),(5,_),(6,_),(8,_)] [(0,_),(1,_),(2,_)] (fun k_ r=>(7,.vec 3 (J9 q.BF q.tgt q.DV (gi (Bc q.BF q.reg) k) k_).length 0 (J9 q.BF q.tgt q.DV (gi (Bc q.BF q.reg) k) k_).length)::(9,.p (.int .i64 (k_:Int)))::r) (fun k_ r=>(3,.vec 3 (cells (J9 q.BF q.tgt q.DV (gi (Bc q.BF q.reg) k) k_)) (J9 q.BF q.tgt q.DV (gi (Bc q.BF q.reg) k) k_).length true)::r) 4
  ·first|omega|decide
  ·first|omega|decide
  ·repeat (first|exact Ad.nil|(refine Ad.eq rfl ?_ ?_;(first|exact PV.Ap rfl|(simp [PV.under,AV.under];done)))|refine Ad.cons trivial rfl (.of_eq (Au (by simp<;>omega))) ?_)
  ·repeat (first|exact Aj.nil|(refine Aj.eq rfl (Ac rfl) ?_ ?_;(first|exact HB.Ap rfl|exact AV.Ah _ _|(simp [HB.under,AV.under,PV.under];done)))|(refine Aj.cons (Ac rfl) ?_ rfl ?_ ?_;(first|exact trivial|exact AV.Ah _ _|(simp [HB.under,AV.under,PV.under]));(first|exact Bq.refl _|exact Bq.vec (Bl.refl _) (by simp))))
  ·intro j hj
   have hb:Hq q.tgt (gi (BI q.tgt) j):=Qj hj
   have ht2:=WS q.tgt k2 _ hb
   have f1:=X8 q.BF q.tgt q.DV (gi (Bc q.BF q.reg) k) hj
   have f2:(J9 q.BF q.tgt q.DV (gi (Bc q.BF q.reg) k) (j+1)).length=(J9 q.BF q.tgt q.DV (gi (Bc q.BF q.reg) k) j).length+1:=by rw [f1];simp
   have f3:=Q9 q.BF q.tgt q.DV (gi (Bc q.BF q.reg) k) (Nat.le_of_lt hj)
   obtain ⟨s1,s2,s3⟩:=hs _ _ ha hb
   have hsh:=Kr (Fe q.BF (gi (Bc q.BF q.reg) k)).Du (Fe q.tgt (gi (BI q.tgt) j)).Du
   have hP:=NW hw s1 s2
   have hmul:-9223372036854775808≤q.DV.FN*max (oC q.BF q.tgt (gi (Bc q.BF q.reg) k) (gi (BI q.tgt) j)) (-oC q.BF q.tgt (gi (Bc q.BF q.reg) k) (gi (BI q.tgt) j))∧q.DV.FN*max (oC q.BF q.tgt (gi (Bc q.BF q.reg) k) (gi (BI q.tgt) j)) (-oC q.BF q.tgt (gi (Bc q.BF q.reg) k) (gi (BI q.tgt) j))<9223372036854775808:=by omega
   have hV:Je q.BF q.tgt q.DV (gi (Bc q.BF q.reg) k) (gi (BI q.tgt) j)=(if MQ q.BF (gi (Bc q.BF q.reg) k)=MQ q.tgt (gi (BI q.tgt) j) then 0 else q.DV.EC)+q.DV.FN*max (oC q.BF q.tgt (gi (Bc q.BF q.reg) k) (gi (BI q.tgt) j)) (-oC q.BF q.tgt (gi (Bc q.BF q.reg) k) (gi (BI q.tgt) j))+(if (gi q.BF.Aw (gi (Bc q.BF q.reg) k).d).Dn=(gi q.tgt.Aw (gi (BI q.tgt) j).d).Dn then 0 else q.DV.Dn):=by
    unfold Je;rw [s3]
   rw [show (Cb (Fe q.BF (gi (Bc q.BF q.reg) k)).Du (Fe q.tgt (gi (BI q.tgt) j)).Du).1=oC q.BF q.tgt (gi (Bc q.BF q.reg) k) (gi (BI q.tgt) j) from rfl] at hsh
   generalize hn:oC q.BF q.tgt (gi (Bc q.BF q.reg) k) (gi (BI q.tgt) j)=n at *
   by_cases c1:MQ q.BF (gi (Bc q.BF q.reg) k)=MQ q.tgt (gi (BI q.tgt) j)
   ·rw [if_pos c1] at hV
    have d1:=decide_eq_true c1
    by_cases c2:(gi q.BF.Aw (gi (Bc q.BF q.reg) k).d).Dn=(gi q.tgt.Aw (gi (BI q.tgt) j).d).Dn
    ·rw [if_pos c2] at hV
     have d2:((gi q.BF.Aw (gi (Bc q.BF q.reg) k).d).Dn != (gi q.tgt.Aw (gi (BI q.tgt) j).d).Dn)=false:=by rw [c2];simp
     have hval:Je q.BF q.tgt q.DV (gi (Bc q.BF q.reg) k) (gi (BI q.tgt) j)=q.DV.FN*max n (-n):=by omega
     repeat' (first|apply Ae.assoc|apply Ae.AA|apply Ae.BA|apply Ae.region|apply Ae.Aq|apply Ae.Ai|apply AO.normal|apply AL.normal|apply Ag.nil|apply Ak.nil|apply Ag.one|(apply Ak.bar;decide +kernel)|apply Ak.quiet|(apply Aa.fn;rfl;rfl;exact hsh;intro _;rfl)|(apply Aa.fn;rfl;rfl;exact ht1;intro _;rfl)|(apply Aa.fn;rfl;rfl;exact ht2;intro _;rfl)|(apply Aa.Dp (a:=q.DV.FN*max n (-n));rfl;rfl;rfl;rfl;rfl;rfl;rfl;rfl;(intro _ h;cases h);rfl;rfl;rfl;decide;decide;(first|omega|(simp only [List.length_take,List.length_drop,List.length_append,List.length_singleton,List.length_cons,List.length_nil]<;>omega)))|(apply Aa.dD;rfl;rfl;exact d1)|(apply Aa.dN;rfl;rfl;rfl;exact d2)|(apply Aa.Iu;rfl;rfl;exact hmul)|(apply Aa.AU (l:=q.tgt.Aw) (i:=(gi (BI q.tgt) j).d);rfl;rfl;rfl;exact hb.1;rfl)|(apply Aa.AU (l:=(gi q.BF.Aw (gi (Bc q.BF q.reg) k).d).stops) (i:=(gi (Bc q.BF q.reg) k).s);rfl;rfl;rfl;exact ha.2;rfl)|(apply Aa.AU (l:=(gi q.tgt.Aw (gi (BI q.tgt) j).d).stops) (i:=(gi (BI q.tgt) j).s);rfl;rfl;rfl;exact hb.2;rfl)|(apply Aa.assign;rfl)|(apply Aa.move;rfl)|(apply Aa.Bz;rfl;rfl;omega)|(apply Aa.int;rfl;rfl;rfl)|(apply Aa.AU;rfl;rfl;rfl;omega;rfl)|(apply Aa.load;rfl;rfl)|(apply Aa.BL;rfl;rfl)|(apply Aa.AP;rfl;rfl;rfl)|(apply Aa.DC;rfl;rfl)|(apply Aa.alloc;rfl)|(apply Aa.Bj;rfl;rfl;rfl;trivial;rfl;rfl;exact Ac rfl;exact le_dec rfl)|(apply Aa.buildSlice;rfl;rfl;rfl;decide;rfl;rfl;rfl)|(apply Aa.neg;rfl;omega)|(apply Aa.Xk;rfl;rfl)|(apply Aa.extract;rfl;rfl)|(apply Ae.Ar;rfl)|(apply Ae.Af;rfl)|(intro _;try (exfalso;omega)))
     all_goals try (exfalso;omega)
     refine Az.normal ⟨by omega,?_,?_⟩
     ·rw [f2]
      repeat (first|exact Ad.nil|refine Ad.same trivial rfl ?_|refine Ad.same (Ac rfl) rfl ?_|refine Ad.same ⟨trivial,Ac rfl,trivial⟩ rfl ?_|refine Ad.same ⟨trivial,Ac rfl,Ac rfl,trivial⟩ rfl ?_|refine Ad.same ⟨trivial,Ac rfl,Ac rfl,Ac rfl,trivial⟩ rfl ?_|refine Ad.same ⟨trivial,Ac rfl,Ac rfl,Ac rfl,Ac rfl,trivial⟩ rfl ?_|refine Ad.same ⟨trivial,trivial⟩ rfl ?_|refine Ad.cons trivial rfl (.of_eq (Au (by simp<;>omega))) ?_)
     ·rw [f2,f1,hval]
      repeat (first|exact Aj.nil|(refine Aj.cons (Ac rfl) ?_ rfl ?_ ?_;(first|exact HB.Ap rfl|exact AV.Ah _ _|(simp [HB.under,AV.under,PV.under]));(first|exact Bq.refl _|exact Bq.vec (Bl.refl _) (by simp))))
    ·rw [if_neg c2] at hV
     have d2:((gi q.BF.Aw (gi (Bc q.BF q.reg) k).d).Dn != (gi q.tgt.Aw (gi (BI q.tgt) j).d).Dn)=true:=by simp [c2]
     have hval:Je q.BF q.tgt q.DV (gi (Bc q.BF q.reg) k) (gi (BI q.tgt) j)=q.DV.FN*max n (-n)+q.DV.Dn:=by omega
     repeat' (first|apply Ae.assoc|apply Ae.AA|apply Ae.BA|apply Ae.region|apply Ae.Aq|apply Ae.Ai|apply AO.normal|apply AL.normal|apply Ag.nil|apply Ak.nil|apply Ag.one|(apply Ak.bar;decide +kernel)|apply Ak.quiet|(apply Aa.fn;rfl;rfl;exact hsh;intro _;rfl)|(apply Aa.fn;rfl;rfl;exact ht1;intro _;rfl)|(apply Aa.fn;rfl;rfl;exact ht2;intro _;rfl)|(apply Aa.Dp (a:=q.DV.FN*max n (-n)+q.DV.Dn);rfl;rfl;rfl;rfl;rfl;rfl;rfl;rfl;(intro _ h;cases h);rfl;rfl;rfl;decide;decide;(first|omega|(simp only [List.length_take,List.length_drop,List.length_append,List.length_singleton,List.length_cons,List.length_nil]<;>omega)))|(apply Aa.dD;rfl;rfl;exact d1)|(apply Aa.dN;rfl;rfl;rfl;exact d2)|(apply Aa.Iu;rfl;rfl;exact hmul)|(apply Aa.AU (l:=q.tgt.Aw) (i:=(gi (BI q.tgt) j).d);rfl;rfl;rfl;exact hb.1;rfl)|(apply Aa.AU (l:=(gi q.BF.Aw (gi (Bc q.BF q.reg) k).d).stops) (i:=(gi (Bc q.BF q.reg) k).s);rfl;rfl;rfl;exact ha.2;rfl)|(apply Aa.AU (l:=(gi q.tgt.Aw (gi (BI q.tgt) j).d).stops) (i:=(gi (BI q.tgt) j).s);rfl;rfl;rfl;exact hb.2;rfl)|(apply Aa.assign;rfl)|(apply Aa.move;rfl)|(apply Aa.Bz;rfl;rfl;omega)|(apply Aa.int;rfl;rfl;rfl)|(apply Aa.AU;rfl;rfl;rfl;omega;rfl)|(apply Aa.load;rfl;rfl)|(apply Aa.BL;rfl;rfl)|(apply Aa.AP;rfl;rfl;rfl)|(apply Aa.DC;rfl;rfl)|(apply Aa.alloc;rfl)|(apply Aa.Bj;rfl;rfl;rfl;trivial;rfl;rfl;exact Ac rfl;exact le_dec rfl)|(apply Aa.buildSlice;rfl;rfl;rfl;decide;rfl;rfl;rfl)|(apply Aa.neg;rfl;omega)|(apply Aa.Xk;rfl;rfl)|(apply Aa.extract;rfl;rfl)|(apply Ae.Bg;rfl)|(apply Ae.Ar;rfl)|(apply Ae.Af;rfl)|(intro _;try (exfalso;omega)))
     all_goals try (exfalso;omega)
     refine Az.normal ⟨by omega,?_,?_⟩
     ·rw [f2]
      repeat (first|exact Ad.nil|refine Ad.same trivial rfl ?_|refine Ad.same (Ac rfl) rfl ?_|refine Ad.same ⟨trivial,Ac rfl,trivial⟩ rfl ?_|refine Ad.same ⟨trivial,Ac rfl,Ac rfl,trivial⟩ rfl ?_|refine Ad.same ⟨trivial,Ac rfl,Ac rfl,Ac rfl,trivial⟩ rfl ?_|refine Ad.same ⟨trivial,Ac rfl,Ac rfl,Ac rfl,Ac rfl,trivial⟩ rfl ?_|refine Ad.same ⟨trivial,trivial⟩ rfl ?_|refine Ad.cons trivial rfl (.of_eq (Au (by simp<;>omega))) ?_)
     ·rw [f2,f1,hval]
      repeat (first|exact Aj.nil|(refine Aj.cons (Ac rfl) ?_ rfl ?_ ?_;(first|exact HB.Ap rfl|exact AV.Ah _ _|(simp [HB.under,AV.under,PV.under]));(first|exact Bq.refl _|exact Bq.vec (Bl.refl _) (by simp))))
   ·rw [if_neg c1] at hV
    have d1:=decide_eq_false c1
    by_cases c2:(gi q.BF.Aw (gi (Bc q.BF q.reg) k).d).Dn=(gi q.tgt.Aw (gi (BI q.tgt) j).d).Dn
    ·rw [if_pos c2] at hV
     have d2:((gi q.BF.Aw (gi (Bc q.BF q.reg) k).d).Dn != (gi q.tgt.Aw (gi (BI q.tgt) j).d).Dn)=false:=by rw [c2];simp
     have hval:Je q.BF q.tgt q.DV (gi (Bc q.BF q.reg) k) (gi (BI q.tgt) j)=q.DV.FN*max n (-n)+q.DV.EC:=by omega
     repeat' (first|apply Ae.assoc|apply Ae.AA|apply Ae.BA|apply Ae.region|apply Ae.Aq|apply Ae.Ai|apply AO.normal|apply AL.normal|apply Ag.nil|apply Ak.nil|apply Ag.one|(apply Ak.bar;decide +kernel)|apply Ak.quiet|(apply Aa.fn;rfl;rfl;exact hsh;intro _;rfl)|(apply Aa.fn;rfl;rfl;exact ht1;intro _;rfl)|(apply Aa.fn;rfl;rfl;exact ht2;intro _;rfl)|(apply Aa.Dp (a:=q.DV.FN*max n (-n)+q.DV.EC);rfl;rfl;rfl;rfl;rfl;rfl;rfl;rfl;(intro _ h;cases h);rfl;rfl;rfl;decide;decide;(first|omega|(simp only [List.length_take,List.length_drop,List.length_append,List.length_singleton,List.length_cons,List.length_nil]<;>omega)))|(apply Aa.dD;rfl;rfl;exact d1)|(apply Aa.dN;rfl;rfl;rfl;exact d2)|(apply Aa.Iu;rfl;rfl;exact hmul)|(apply Aa.AU (l:=q.tgt.Aw) (i:=(gi (BI q.tgt) j).d);rfl;rfl;rfl;exact hb.1;rfl)|(apply Aa.AU (l:=(gi q.BF.Aw (gi (Bc q.BF q.reg) k).d).stops) (i:=(gi (Bc q.BF q.reg) k).s);rfl;rfl;rfl;exact ha.2;rfl)|(apply Aa.AU (l:=(gi q.tgt.Aw (gi (BI q.tgt) j).d).stops) (i:=(gi (BI q.tgt) j).s);rfl;rfl;rfl;exact hb.2;rfl)|(apply Aa.assign;rfl)|(apply Aa.move;rfl)|(apply Aa.Bz;rfl;rfl;omega)|(apply Aa.int;rfl;rfl;rfl)|(apply Aa.AU;rfl;rfl;rfl;omega;rfl)|(apply Aa.load;rfl;rfl)|(apply Aa.BL;rfl;rfl)|(apply Aa.AP;rfl;rfl;rfl)|(apply Aa.DC;rfl;rfl)|(apply Aa.alloc;rfl)|(apply Aa.Bj;rfl;rfl;rfl;trivial;rfl;rfl;exact Ac rfl;exact le_dec rfl)|(apply Aa.buildSlice;rfl;rfl;rfl;decide;rfl;rfl;rfl)|(apply Aa.neg;rfl;omega)|(apply Aa.Xk;rfl;rfl)|(apply Aa.extract;rfl;rfl)|(apply Ae.Bg;rfl)|(apply Ae.Ar;rfl)|(apply Ae.Af;rfl)|(intro _;try (exfalso;omega)))
     all_goals try (exfalso;omega)
     refine Az.normal ⟨by omega,?_,?_⟩
     ·rw [f2]
      repeat (first|exact Ad.nil|refine Ad.same trivial rfl ?_|refine Ad.same (Ac rfl) rfl ?_|refine Ad.same ⟨trivial,Ac rfl,trivial⟩ rfl ?_|refine Ad.same ⟨trivial,Ac rfl,Ac rfl,trivial⟩ rfl ?_|refine Ad.same ⟨trivial,Ac rfl,Ac rfl,Ac rfl,trivial⟩ rfl ?_|refine Ad.same ⟨trivial,Ac rfl,Ac rfl,Ac rfl,Ac rfl,trivial⟩ rfl ?_|refine Ad.same ⟨trivial,trivial⟩ rfl ?_|refine Ad.cons trivial rfl (.of_eq (Au (by simp<;>omega))) ?_)
     ·rw [f2,f1,hval]
      repeat (first|exact Aj.nil|(refine Aj.cons (Ac rfl) ?_ rfl ?_ ?_;(first|exact HB.Ap rfl|exact AV.Ah _ _|(simp [HB.under,AV.under,PV.under]));(first|exact Bq.refl _|exact Bq.vec (Bl.refl _) (by simp))))
    ·rw [if_neg c2] at hV
     have d2:((gi q.BF.Aw (gi (Bc q.BF q.reg) k).d).Dn != (gi q.tgt.Aw (gi (BI q.tgt) j).d).Dn)=true:=by simp [c2]
     have hval:Je q.BF q.tgt q.DV (gi (Bc q.BF q.reg) k) (gi (BI q.tgt) j)=q.DV.FN*max n (-n)+q.DV.EC+q.DV.Dn:=by omega
     repeat' (first|apply Ae.assoc|apply Ae.AA|apply Ae.BA|apply Ae.region|apply Ae.Aq|apply Ae.Ai|apply AO.normal|apply AL.normal|apply Ag.nil|apply Ak.nil|apply Ag.one|(apply Ak.bar;decide +kernel)|apply Ak.quiet|(apply Aa.fn;rfl;rfl;exact hsh;intro _;rfl)|(apply Aa.fn;rfl;rfl;exact ht1;intro _;rfl)|(apply Aa.fn;rfl;rfl;exact ht2;intro _;rfl)|(apply Aa.Dp (a:=q.DV.FN*max n (-n)+q.DV.EC+q.DV.Dn);rfl;rfl;rfl;rfl;rfl;rfl;rfl;rfl;(intro _ h;cases h);rfl;rfl;rfl;decide;decide;(first|omega|(simp only [List.length_take,List.length_drop,List.length_append,List.length_singleton,List.length_cons,List.length_nil]<;>omega)))|(apply Aa.dD;rfl;rfl;exact d1)|(apply Aa.dN;rfl;rfl;rfl;exact d2)|(apply Aa.Iu;rfl;rfl;exact hmul)|(apply Aa.AU (l:=q.tgt.Aw) (i:=(gi (BI q.tgt) j).d);rfl;rfl;rfl;exact hb.1;rfl)|(apply Aa.AU (l:=(gi q.BF.Aw (gi (Bc q.BF q.reg) k).d).stops) (i:=(gi (Bc q.BF q.reg) k).s);rfl;rfl;rfl;exact ha.2;rfl)|(apply Aa.AU (l:=(gi q.tgt.Aw (gi (BI q.tgt) j).d).stops) (i:=(gi (BI q.tgt) j).s);rfl;rfl;rfl;exact hb.2;rfl)|(apply Aa.assign;rfl)|(apply Aa.move;rfl)|(apply Aa.Bz;rfl;rfl;omega)|(apply Aa.int;rfl;rfl;rfl)|(apply Aa.AU;rfl;rfl;rfl;omega;rfl)|(apply Aa.load;rfl;rfl)|(apply Aa.BL;rfl;rfl)|(apply Aa.AP;rfl;rfl;rfl)|(apply Aa.DC;rfl;rfl)|(apply Aa.alloc;rfl)|(apply Aa.Bj;rfl;rfl;rfl;trivial;rfl;rfl;exact Ac rfl;exact le_dec rfl)|(apply Aa.buildSlice;rfl;rfl;rfl;decide;rfl;rfl;rfl)|(apply Aa.neg;rfl;omega)|(apply Aa.Xk;rfl;rfl)|(apply Aa.extract;rfl;rfl)|(apply Ae.Bg;rfl)|(apply Ae.Af;rfl)|(intro _;try (exfalso;omega)))
     all_goals try (exfalso;omega)
     refine Az.normal ⟨by omega,?_,?_⟩
     ·rw [f2]
      repeat (first|exact Ad.nil|refine Ad.same trivial rfl ?_|refine Ad.same (Ac rfl) rfl ?_|refine Ad.same ⟨trivial,Ac rfl,trivial⟩ rfl ?_|refine Ad.same ⟨trivial,Ac rfl,Ac rfl,trivial⟩ rfl ?_|refine Ad.same ⟨trivial,Ac rfl,Ac rfl,Ac rfl,trivial⟩ rfl ?_|refine Ad.same ⟨trivial,Ac rfl,Ac rfl,Ac rfl,Ac rfl,trivial⟩ rfl ?_|refine Ad.same ⟨trivial,trivial⟩ rfl ?_|refine Ad.cons trivial rfl (.of_eq (Au (by simp<;>omega))) ?_)
     ·rw [f2,f1,hval]
      repeat (first|exact Aj.nil|(refine Aj.cons (Ac rfl) ?_ rfl ?_ ?_;(first|exact HB.Ap rfl|exact AV.Ah _ _|(simp [HB.under,AV.under,PV.under]));(first|exact Bq.refl _|exact Bq.vec (Bl.refl _) (by simp))))
  ·have f3:=Q9 q.BF q.tgt q.DV (gi (Bc q.BF q.reg) k) (Nat.le_refl (BI q.tgt).length)
   repeat' (first|(refine Ag.I8 122 ?_;refine Ag.ghost (AX.freeze 121 rfl rfl) ?_)|apply Ae.assoc|apply Ae.AA|apply Ae.region|apply Ae.A8|apply AO.normal|apply AL.normal|apply AL.exit|apply Az.exit|apply Ag.nil|apply Ag.one|(apply Aa.Dp (a:=J9 q.BF q.tgt q.DV (gi (Bc q.BF q.reg) k) (BI q.tgt).length);rfl;rfl;rfl;rfl;rfl;rfl;rfl;rfl;(intro _ h;cases h);rfl;rfl;rfl;decide;decide;(first|omega|(simp only [List.length_take,List.length_drop,List.length_append,List.length_singleton,List.length_cons,List.length_nil]<;>omega)))|(apply Aa.assign;rfl)|(apply Aa.move;rfl)|(apply Aa.Bz;rfl;rfl;omega)|(apply Aa.int;rfl;rfl;rfl)|(apply Aa.BL;rfl;rfl)|(apply Aa.buildSlice;rfl;rfl;rfl;decide;rfl;rfl;rfl)|(apply Ae.Af;rfl)|(intro _;try (exfalso;omega)))
   all_goals try (exfalso;omega)
   refine Az.normal ⟨by omega,?_,?_⟩
   ·rw [e2]
    repeat (first|exact Ad.nil|refine Ad.same trivial rfl ?_|refine Ad.same (Ac rfl) rfl ?_|refine Ad.same ⟨trivial,Ac rfl,trivial⟩ rfl ?_|refine Ad.same ⟨trivial,Ac rfl,Ac rfl,trivial⟩ rfl ?_|refine Ad.same ⟨trivial,Ac rfl,Ac rfl,Ac rfl,trivial⟩ rfl ?_|refine Ad.same ⟨trivial,Ac rfl,Ac rfl,Ac rfl,Ac rfl,trivial⟩ rfl ?_|refine Ad.same ⟨trivial,trivial⟩ rfl ?_|refine Ad.cons trivial rfl (.of_eq (Au (by simp<;>omega))) ?_)
   ·rw [e2,e1]
    repeat (first|exact Aj.nil|(refine Aj.cons (Ac rfl) ?_ rfl ?_ ?_;(first|exact HB.Ap rfl|exact AV.Ah _ _|(simp [HB.under,AV.under,PV.under]));(first|exact Bq.refl _|exact Bq.vec (Bl.refl _) (by simp))))
 ·rw [Yf]
  repeat' (first|(refine Ag.I8 2 ?_;refine Ag.ghost (AX.freeze 124 rfl rfl) ?_)|apply Ae.assoc|apply Ae.AA|apply Ae.A8|apply AO.normal|apply AL.exit|apply Az.exit|apply Ae.ret|apply Ag.nil|apply Ag.one|(apply Aa.assign;rfl)|(apply Aa.move;rfl)|(apply Aa.int;rfl;rfl;rfl)|(apply Aa.BL;rfl;rfl)|(apply Ae.Af;rfl)|(intro _;try (exfalso;omega)))
  all_goals first|(exfalso;omega)|(refine Done.ret rfl (.refl _) (by first|exact trivial|exact ⟨trivial,trivial,trivial⟩|exact ⟨trivial,trivial,trivial,trivial⟩) Aj.nil (Nat.zero_le _) (Nat.le_refl _) ⟨?_,rfl,rfl⟩;try rfl)
end Go.Proofs.YtdabojnmoejilaaGreatDoor
namespace Go.Proofs.YtdabojnmoejilaaGreatDoor
open Go Go.Am Go.Vm
attribute [local irreducible] Aa Ag Ak Ae BH AZ CW AO AL Az Vm.Done Di Bv
def a8i (o:EY):Rgs:=⟨List.replicate o.Aw.length 0,0,0⟩
def a4z (o:EY) (k:Nat):Nat:=2 ^ (gi o.Aw k).stops.length-1
def a8s (o:EY):Rgs:=⟨a1p (a4z o) (List.replicate o.Aw.length 0) o.Aw.length,2 ^ o.Gh.length-1,0⟩
def a8q (r:Rgs) (d s:Nat):Rgs:=⟨r.stops.set d (gi r.stops d ||| 2 ^ s),r.cp,r.off⟩
def a2j (a b:Rgs) (k:Nat):Nat:=gi a.stops k ||| gi b.stops k
def a5s (a b:Rgs):Rgs:=⟨a1p (a2j a b) a.stops a.stops.length,a.cp ||| b.cp,a.off ||| b.off⟩
end Go.Proofs.YtdabojnmoejilaaGreatDoor
namespace Go.Proofs.YtdabojnmoejilaaGreatDoor
open Go Go.Am Go.Vm
attribute [local irreducible] Aa Ag Ak Ae BH AZ CW AO AL Az Vm.Done Di Bv
theorem Xd (x n:Nat):(x &&& (2 ^ n-1)) / 2 ^ n=0:=by
 have h1:x &&& (2 ^ n-1)≤2 ^ n-1:=Nat.and_le_right
 have h2:0<2 ^ n:=Nat.two_pow_pos n
 exact Nat.div_eq_of_lt (by omega)
theorem oM (o:EY) (ho:Pj o) (b:Nat→Nat) (hb:∀ i,b i<256):(SG o b).Ok:=by
 have r2:=ho.Aw
 have l:=Jv (Gs o b) o.Aw.length
 refine ⟨fun i hi=>?_,?_,?_,?_⟩
 ·have hi:i<(GK (Gs o b) o.Aw.length).length:=hi
  rw [l] at hi
  show gi (GK (Gs o b) o.Aw.length) i<_
  rw [eH _ hi]
  have:=hb (i % 3)
  have:Gs o b i≤b (i % 3):=Nat.and_le_left
  omega
 ·have:=hb 3
  have:b 3 &&& (2 ^ o.Gh.length-1)≤b 3:=Nat.and_le_left
  show b 3 &&& (2 ^ o.Gh.length-1)<_
  omega
 ·have:=hb 4
  have:b 4 &&& (2 ^ o.Aw.length-1)≤b 4:=Nat.and_le_left
  show b 4 &&& (2 ^ o.Aw.length-1)<_
  omega
 ·show (GK (Gs o b) o.Aw.length).length<_
  omega
theorem jB (o:EY) (b:Nat→Nat):O8 o (SG o b)=0:=by
 have l:=Jv (Gs o b) o.Aw.length
 rw [SC (show (GK (Gs o b) o.Aw.length).length=_ from l) fun i hi=>?_]
 ·rw [if_neg]
  intro h
  rcases h with h|h
  ·exact h (Xd _ _)
  ·exact h (Xd _ _)
 ·have hi:i<(GK (Gs o b) o.Aw.length).length:=hi
  rw [l] at hi
  show gi (GK (Gs o b) o.Aw.length) i / _=0
  rw [eH _ hi]
  exact Xd _ _
def b0d (i:Nat):Nat:=if i=4 then 0 else 255
end Go.Proofs.YtdabojnmoejilaaGreatDoor
namespace Go.Proofs.YtdabojnmoejilaaGreatDoor
open Go Go.Am Go.Vm Go.Tra Go.Hun
attribute [local irreducible] Aa Ag Ak Ae BH AZ CW AO AL Az Vm.Done Di Bv
structure qC where
 BF:nO
 tgt:nO
 bits:Nat→Nat
 w:Nat→Nat
def qC.enc (x:qC):List FV:=[.lst 150 (cells x.BF.ranks) x.BF.ranks.length,.lst 75 (cells x.BF.Aw) x.BF.Aw.length,.lst 153 (cells x.BF.links) x.BF.links.length,
 .lst 150 (cells x.tgt.ranks) x.tgt.ranks.length,.lst 75 (cells x.tgt.Aw) x.tgt.Aw.length,.lst 153 (cells x.tgt.links) x.tgt.links.length,
 .int .u8 (x.bits 0:Int),.int .u8 (x.bits 1:Int),.int .u8 (x.bits 2:Int),.int .u8 (x.bits 3:Int),.int .u8 (x.bits 4:Int),.int .u8 (x.w 0:Int),.int .u8 (x.w 1:Int),.int .u8 (x.w 2:Int),.int .u8 (x.w 3:Int)]
structure qC.Ok (x:qC):Prop where
 BF:x.BF.Ok
 tgt:x.tgt.Ok
 bits:∀ i,x.bits i<256
 w:∀ i,x.w i<256
def Ti (x:qC):Prop:=Ql x.BF∧Ql x.tgt
noncomputable instance (x:qC):Decidable (Ti x):=Classical.propDecidable _
theorem jQ (x:qC) (hx:x.Ok):AZ env 13 [.agg x.enc] (.p (.bool (decide (Ti x)))):=by
 have h1:=YG x.BF hx.BF
 have h2:=YG x.tgt hx.tgt
 refine AZ.enter (AB (by decide)) Tryz.func13 rfl (by kernel_rfl) (by simp [Tryz.ntmps13]) ?_
 by_cases c1:Ql x.BF
 ·rw [decide_eq_true c1] at h1
  by_cases c2:Ql x.tgt
  ·rw [decide_eq_true c2] at h2
   rw [decide_eq_true (p:=Ti x) ⟨c1,c2⟩]
   repeat' (first|apply Ae.AA|apply Ae.ret|apply Ag.nil|apply Ag.one|(apply Ag.take;rfl;rfl)|(apply Aa.fn;rfl;rfl;exact h1;intro _;rfl)|(apply Aa.fn;rfl;rfl;exact h2;intro _;rfl)|(apply Aa.assign;rfl)|(apply Aa.move;rfl)|(apply Aa.load;rfl;rfl)|(apply Aa.BJ;rfl;rfl)|(apply Aa.AP;rfl;rfl;rfl)|(apply Aa.box;rfl;trivial))
   all_goals first|(exfalso;omega)|contradiction|(refine Done.ret rfl (.refl _) (by first|exact trivial|exact ⟨trivial,trivial,trivial⟩|exact ⟨trivial,trivial,trivial,trivial⟩) Aj.nil (Nat.zero_le _) (Nat.le_refl _) ⟨?_,rfl,rfl⟩;try rfl)
  ·rw [decide_eq_false c2] at h2
   rw [decide_eq_false (p:=Ti x) (fun h=>c2 h.2)]
   repeat' (first|apply Ae.AA|apply Ae.ret|apply Ag.nil|apply Ag.one|(apply Ag.take;rfl;rfl)|(apply Aa.fn;rfl;rfl;exact h1;intro _;rfl)|(apply Aa.fn;rfl;rfl;exact h2;intro _;rfl)|(apply Aa.assign;rfl)|(apply Aa.move;rfl)|(apply Aa.load;rfl;rfl)|(apply Aa.BJ;rfl;rfl)|(apply Aa.AP;rfl;rfl;rfl)|(apply Aa.box;rfl;trivial))
   all_goals first|(exfalso;omega)|contradiction|(refine Done.ret rfl (.refl _) (by first|exact trivial|exact ⟨trivial,trivial,trivial⟩|exact ⟨trivial,trivial,trivial,trivial⟩) Aj.nil (Nat.zero_le _) (Nat.le_refl _) ⟨?_,rfl,rfl⟩;try rfl)
 ·rw [decide_eq_false c1] at h1
  rw [decide_eq_false (p:=Ti x) (fun h=>c1 h.1)]
  repeat' (first|apply Ae.AA|apply Ae.ret|apply Ag.nil|apply Ag.one|(apply Ag.drop;rfl;rfl;rfl)|(apply Aa.fn;rfl;rfl;exact h1;intro _;rfl)|(apply Aa.assign;rfl)|(apply Aa.move;rfl)|(apply Aa.load;rfl;rfl)|(apply Aa.AQ;rfl;rfl)|(apply Aa.AP;rfl;rfl;rfl)|(apply Aa.box;rfl;trivial))
  all_goals first|(exfalso;omega)|contradiction|(refine Done.ret rfl (.refl _) (by first|exact trivial|exact ⟨trivial,trivial,trivial⟩|exact ⟨trivial,trivial,trivial,trivial⟩) Aj.nil (Nat.zero_le _) (Nat.le_refl _) ⟨?_,rfl,rfl⟩;try rfl)
def mkW (w:Nat→Nat):ZU:=⟨((w 0 % 32:Nat):Int),((w 1 % 8:Nat):Int),((w 2 % 32:Nat):Int),((w 3 % 64:Nat):Int)⟩
noncomputable def mkQ (x:qC):Ri:=⟨aW x.BF,SG (aW x.BF) x.bits,aW x.tgt,mkW x.w⟩
theorem iy (x:qC) (hx:x.Ok) (hf:Ti x):AZ env 14 [.agg x.enc] (.p (.agg (Enc.enc (mkQ x)))):=by
 have h1:=Uo x.BF hx.BF hf.1
 have h2:=Uo x.tgt hx.tgt hf.2
 have h3:=iH (aW x.BF) (Ym x.BF hx.BF hf.1) x.bits hx.bits
 have w0:=hx.w 0
 have w1:=hx.w 1
 have w2:=hx.w 2
 have w3:=hx.w 3
 obtain ⟨a0,e0⟩:∃ a,a=x.w 0 % 32:=⟨_,rfl⟩
 obtain ⟨a1,e1⟩:∃ a,a=x.w 1 % 8:=⟨_,rfl⟩
 obtain ⟨a2,e2⟩:∃ a,a=x.w 2 % 32:=⟨_,rfl⟩
 obtain ⟨a3,e3⟩:∃ a,a=x.w 3 % 64:=⟨_,rfl⟩
 have eQ:mkQ x=⟨aW x.BF,SG (aW x.BF) x.bits,aW x.tgt,⟨(a0:Int),(a1:Int),(a2:Int),(a3:Int)⟩⟩:=by rw [e0,e1,e2,e3];rfl
 have v0:EO .rem .u8 (x.w 0:Int) 32=some (.int .u8 (a0:Int)):=by rw [e0];rfl
 have v1:EO .rem .u8 (x.w 1:Int) 8=some (.int .u8 (a1:Int)):=by rw [e1];rfl
 have v2:EO .rem .u8 (x.w 2:Int) 32=some (.int .u8 (a2:Int)):=by rw [e2];rfl
 have v3:EO .rem .u8 (x.w 3:Int) 64=some (.int .u8 (a3:Int)):=by rw [e3];rfl
 have a0b:a0<256:=by omega
 have a1b:a1<256:=by omega
 have a2b:a2<256:=by omega
 have a3b:a3<256:=by omega
 rw [eQ]
 clear eQ e0 e1 e2 e3
 generalize SG (aW x.BF) x.bits=r at *
 generalize aW x.BF=F at *
 generalize aW x.tgt=T at *
 refine AZ.enter (AB (by decide)) Tryz.func14 rfl (by kernel_rfl) (by simp [Tryz.ntmps14]) ?_
 repeat' (first|apply Ae.AA|apply Ae.BA|apply Ae.ret|apply Ag.nil|apply Ak.nil|apply Ag.one|(apply Ak.bar;decide +kernel)|apply Ak.quiet|(apply Aa.fn;rfl;rfl;exact h1;intro _;rfl)|(apply Aa.fn;rfl;rfl;exact h2;intro _;rfl)|(apply Aa.fn;rfl;rfl;exact h3;intro _;rfl)|(apply Aa.UN;rfl;rfl;rfl;rfl;rfl;decide)|(apply Aa.int;rfl;rfl;exact v0)|(apply Aa.int;rfl;rfl;exact v1)|(apply Aa.int;rfl;rfl;exact v2)|(apply Aa.int;rfl;rfl;exact v3)|(apply Aa.load;rfl;rfl)|(apply Aa.AP;rfl;rfl;rfl)|(apply Aa.box;rfl;trivial)|(apply Aa.alloc;rfl)|(apply Aa.Bj;rfl;rfl;rfl;trivial;rfl;rfl;exact Ac rfl;exact le_dec rfl)|(apply Aa.build;rfl;rfl;rfl;rfl;rfl)|(apply Aa.Hr;rfl;rfl;rfl;rfl;omega))
 all_goals first|(exfalso;omega)|(refine Done.ret rfl (.refl _) (by first|exact trivial|exact ⟨trivial,trivial,trivial⟩|exact ⟨trivial,trivial,trivial,trivial⟩) Aj.nil (Nat.zero_le _) (Nat.le_refl _) ⟨?_,rfl,rfl⟩;try rfl)
theorem a0n {w:Nat→Nat}:MO (mkW w):=fun i hi=>by
 match i,hi with
 |0,_=>show (0:Int)≤((w 0 % 32:Nat):Int)∧((w 0 % 32:Nat):Int)≤100000;omega
 |1,_=>show (0:Int)≤((w 1 % 8:Nat):Int)∧((w 1 % 8:Nat):Int)≤100000;omega
 |2,_=>show (0:Int)≤((w 2 % 32:Nat):Int)∧((w 2 % 32:Nat):Int)≤100000;omega
 |3,_=>show (0:Int)≤((w 3 % 64:Nat):Int)∧((w 3 % 64:Nat):Int)≤100000;omega
theorem Pj.zN {o:EY} (h:Pj o):(BI o).length≤9:=by
 have h1:=PY (ns:=Qb o) (K:=3) (fun d hd=>by rw [Mc] at hd;rw [Vu o hd];exact h.stops d hd) (Qb o).length (Nat.le_refl _)
 rw [Wp]
 have:=h.Aw
 rw [Mc] at h1 ⊢
 omega
theorem qj (o:EY) (r:Rgs):(Bc o r).length≤(BI o).length:=List.length_filter_le _ _
theorem kH:∀ a,a<6→∀ b,b<6→(Cb (gi Fb a) (gi Fb b)).2=0∧-1000≤(Cb (gi Fb a) (gi Fb b)).1∧(Cb (gi Fb a) (gi Fb b)).1≤1000 ∧
 max (Cb (gi Fb a) (gi Fb b)).1 (-(Cb (gi Fb a) (gi Fb b)).1)=max (Cb (gi Fb b) (gi Fb a)).1 (-(Cb (gi Fb b) (gi Fb a)).1)∧(a=b→(Cb (gi Fb a) (gi Fb b)).1=0):=by decide +kernel
theorem Pj.Du {o:EY} (h:Pj o) {p:PN} (hp:Hq o p):∃ a,a<6∧(Fe o p).Du=gi Fb a:=(h.st p.d hp.1 p.s hp.2).2.2
theorem a4n {F T:EY} (hF:Pj F) (hT:Pj T):ShB F T:=fun a b ha hb=>by
 obtain ⟨i,hi,ei⟩:=hF.Du ha
 obtain ⟨j,hj,ej⟩:=hT.Du hb
 have:=kH j hj i hi
 unfold qE
 rw [ei,ej]
 exact ⟨this.1,this.2.1,this.2.2.1⟩
theorem a4u {F T:EY} (hF:Pj F) (hT:Pj T):ShS F T:=fun a b ha hb=>by
 obtain ⟨i,hi,ei⟩:=hF.Du ha
 obtain ⟨j,hj,ej⟩:=hT.Du hb
 have:=kH i hi j hj
 unfold oC qE
 rw [ei,ej]
 exact ⟨this.2.1,this.2.2.1,this.2.2.2.1⟩
theorem a3t {F T:EY} {r:Rgs} {w:Nat→Nat} (hF:Pj F) (hT:Pj T) (hr:r.Ok) (he:O8 F r=0):Z5 ⟨F,r,T,mkW w⟩:=by
 have h1:=hF.zN
 have h2:=hT.zN
 have h3:=qj F r
 refine ⟨hF.sm,hT.sm,hr,?_,a4n hF hT⟩
 unfold iM
 rw [if_neg (fun h=>h hF.ok),if_neg (fun h=>h he),if_neg (fun h=>h hT.ok),if_neg (fun h=>h a0n),if_neg (by show ¬ ((Bc F r).length>60∨(BI T).length>120);omega)]
theorem a1h (x:qC) (hx:x.Ok) (hf:Ti x):Z5 (mkQ x):=a3t (Ym x.BF hx.BF hf.1) (Ym x.tgt hx.tgt hf.2) (oM _ (Ym x.BF hx.BF hf.1) _ hx.bits) (jB _ _)
end Go.Proofs.YtdabojnmoejilaaGreatDoor
namespace Go.Proofs.YtdabojnmoejilaaGreatDoor
open Go Go.Am Go.Vm Go.Tra Go.Hun
attribute [local irreducible] Aa Ag Ak Ae BH AZ CW AO AL Az Vm.Done Di Bv
end Go.Proofs.YtdabojnmoejilaaGreatDoor
namespace Go.Vm
open Go.Am
section
variable {P:Program}
structure b0i (P:Program) (t e:TypeId):Prop where
 arr:P.underlying t=some (.array 2 e)
 elt:P.underlying e=some (.int .i64)
 agg:FX P e=some false
 sz:(P.info? e).map (·.size)=some 1
def a2V (a b:Int):Value:=.agg #[.int .i64 a,.int .i64 b]
abbrev ZQ:=List ((Int×Int)×Int)
def a9m (es:ZQ):List (FV×FV):=es.map fun x=>(.agg [.int .i64 x.1.1,.int .i64 x.1.2],.int .i64 x.2)
def qN:ZQ→Int→Int→Option Int
 |[],_,_=>none
 |x::es,a,b=>if a=x.1.1∧b=x.1.2 then some x.2 else qN es a b
variable {E:Env} {L:Vm.Frame} {H:Vm.Heap} {nx:Nat} {Q:PV→Vm.Heap→Nat→Prop} {w:Bool} {dst:Option Tmp} {ty:TypeId} {pos:String} {af:Array Edge} {gd:Option (Nat×Bool)}
end
end Go.Vm
