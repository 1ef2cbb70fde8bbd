/-
  Texts of a proof, merged (HunC, HunD, TraB, TraC, TraD, TraK, HunE, TraL, TraM, TraR, TraN, OrO, OrQ, TraS, TraT, RkQ). Conditions: in each statement.
-/
import Derived.Test.YtdabojnmoejilaaGreatDoorKSe
set_option linter.unusedSimpArgs false
set_option linter.unusedVariables false
set_option linter.unusedSectionVars false
set_option maxRecDepth 100000
set_option maxHeartbeats 8000000
namespace Go.Hun
open Go.Vm
section
variable {costs:List (List Int)} {n m i:Nat} {s:iR} {B:Int}
theorem YG {l:List Ix} {j k x:Nat} (h:j<l.length):own (l.set j ⟨x⟩) k=if j=k then x else own l k:=by
 unfold own
 rw [gs h]
 split<;>rfl
theorem a2d {α:Type} [Inhabited α] {a:α} {n i:Nat} (h:i<n):gi (List.replicate n a) i=a:=Lu h
theorem UN {n:Nat} (i:Nat):gi (List.replicate n (0:Int)) i=0:=by
 unfold gi
 rw [List.getElem?_replicate]
 split<;>rfl
theorem Yf (h:pY costs n m i s):pW m i (I5 s (i+1)):=by
 have e:∀ k,own (I5 s (i+1)) k=if 0=k then i+1 else own s.owner k:=fun k=>YG (by rw [h.lo];omega)
 refine ⟨by unfold I5;simp [h.lo],by rw [e];rfl,fun k k1 k2=>?_,fun k j k1 k2=>?_⟩
 ·rw [e,if_neg (by omega)];exact h.own k k1 k2
 ·rw [e,e]
  intro h1 h2
  by_cases a:0=k<;>by_cases b:0=j
  ·omega
  ·rw [if_pos a,if_neg b] at h1
   have:=h.own j (by omega) k2;omega
  ·rw [if_neg a,if_pos b] at h1
   have:=h.own k (by omega) k1;omega
  ·rw [if_neg a,if_neg b] at h1
   rw [if_neg a] at h2
   exact h.inj k j (by omega) k1 (by omega) k2 h1 h2
def Mc (costs:List (List Int)) (m i:Nat) (s:iR) (p:Nat):Nat:=(Ed costs (I5 s (i+1)) m (P5 m s) p).at_
theorem a0l (h:pY costs n m i s) (hc:Ih costs n m B) (hi:i<n):eP costs n m i (I5 s (i+1)) (Mc costs m i s) 0 (Ed costs (I5 s (i+1)) m (P5 m s) 0):=by
 have ho:=Yf h
 have eo:∀ k,own (I5 s (i+1)) k=if 0=k then i+1 else own s.owner k:=fun k=>YG (by rw [h.lo];omega)
 have nd:∀ k,gi (List.replicate (m+1) false) k=false:=fun k=>by
  unfold gi
  rw [List.getElem?_replicate]
  split<;>rfl
 refine ⟨h.lu,h.lv,h.lw,by simp [Ed,P5],by simp [Ed,P5],rfl,fun p hp=>?_,rfl,fun p p1 p2=>by omega,fun k=>?_,nd _,fun p hp=>by omega,?_,?_,h.ZF,?_,?_,?_,fun k _ _ _ p hp=>by omega,fun k k1 k2 _=>.inl ⟨rfl,?_⟩,fun p p1 p2=>by omega⟩
 ·obtain rfl:p=0:=by omega
  exact Nat.zero_le _
 ·constructor
  ·intro hk
   have:gi (List.replicate (m+1) false) k=true:=hk
   rw [nd] at this;cases this
  ·rintro ⟨p,hp,_⟩;omega
 ·intro r k r1 r2 k1 k2
  show gi s.u r+gi s.v k≤_
  rcases Nat.lt_or_ge r (i+1) with h3|h3
  ·exact h.Wh r k r1 (by omega) k1 k2
  ·have:=h.uz r (by omega)
   have:=h.ZF k k1 k2
   have:=hc.lo r k
   omega
 ·intro k k1 k2
  rw [eo,if_neg (by omega)]
  exact h.tight k k1 k2
 ·intro k k1 k2
  rw [eo,if_neg (by omega)]
  exact h.OG k k1 k2
 ·intro r r1 r2
  show 0≤gi s.u r
  rcases Nat.lt_or_ge r (i+1) with h3|h3
  ·exact h.Ur r r1 (by omega)
  ·rw [h.uz r (by omega)];omega
 ·intro r hr
  exact h.uz r (by omega)
 ·exact a2d (by omega)
theorem OM (h:pY costs n m i s) (hc:Ih costs n m B) (hi:i<n):∀ t,(∀ p,p<t→own (I5 s (i+1)) (Mc costs m i s p)≠0)→eP costs n m i (I5 s (i+1)) (Mc costs m i s) t (Ed costs (I5 s (i+1)) m (P5 m s) t)
 |0,_=>a0l h hc hi
 |t+1,hp=>(OM h hc hi t fun p hp'=>hp p (by omega)).step hc (Yf h) hi (hp t (by omega)) rfl
theorem V3 (o:List Ix) (g0:Gr):∀ f t,(∀ p,p<t→own o (Ed costs o m g0 p).at_≠0) →
 (∀ p,p<TP costs o m g0 f t→own o (Ed costs o m g0 p).at_≠0)∧(own o (Ed costs o m g0 (TP costs o m g0 f t)).at_=0∨TP costs o m g0 f t=t+f)∧TP costs o m g0 f t≤t+f
 |0,t,h=>⟨h,.inr rfl,Nat.le_refl _⟩
 |f+1,t,h=>by
  unfold TP
  by_cases e:(gi o (Ed costs o m g0 t).at_).n=0
  ·rw [if_pos e];exact ⟨h,.inl e,by omega⟩
  ·rw [if_neg e]
   obtain ⟨a,b,c⟩:=V3 o g0 f (t+1) fun p hp=>by
    rcases Nat.lt_or_ge p t with h3|h3
    ·exact h p h3
    ·obtain rfl:p=t:=by omega
     exact e
   exact ⟨a,by rcases b with b|b;exact .inl b;exact .inr (by omega),by omega⟩
theorem eP.ne {o:List Ix} {A:Nat→Nat} {p q:Nat} {g:Gr} (h:eP costs n m i o A p g) (hq:q<p):A q≠A p:=fun e=>by
 have:=(h.done (A p)).2 ⟨q,hq,e⟩
 rw [h.new] at this;cases this
theorem YK (h:pY costs n m i s) (hc:Ih costs n m B) (hi:i<n):(∀ p,p<Xc costs m s (i+1)→own (I5 s (i+1)) (Mc costs m i s p)≠0)∧own (I5 s (i+1)) (Mc costs m i s (Xc costs m s (i+1)))=0∧Xc costs m s (i+1)≤m+1:=by
 obtain ⟨a,b,c⟩:=V3 (costs:=costs) (m:=m) (I5 s (i+1)) (P5 m s) (m+2) 0 (fun p hp=>by omega)
 have e:Xc costs m s (i+1)=TP costs (I5 s (i+1)) m (P5 m s) (m+2) 0:=rfl
 rw [← e] at a b c
 have hlt:Xc costs m s (i+1)≠m+2:=fun e2=>by
  have:=WR (m+1) (m+2) (Mc costs m i s) (fun k hk=>by
   have:=(OM h hc hi k fun p hp=>a p (by omega)).le k (Nat.le_refl _)
   omega) (fun k j hk hj hkj=>by
   rcases Nat.lt_trichotomy k j with h3|h3|h3
   ·exact absurd hkj ((OM h hc hi j fun p hp=>a p (by omega)).ne h3)
   ·exact h3
   ·exact absurd hkj.symm ((OM h hc hi k fun p hp=>a p (by omega)).ne h3))
  omega
 refine ⟨a,?_,by omega⟩
 rcases b with b|b
 ·exact b
 ·omega
structure pG (costs:List (List Int)) (m i:Nat) (u v:List Int) (o:List Ix) (A:Nat→Nat) (q:Nat) (a:Aug):Prop where
 len:a.owner.length=m+1
 at_:a.at_=A q
 tight:∀ k,1≤k→k≤m→k≠a.at_→own a.owner k≠0→gi u (own a.owner k)+gi v k=cst costs (own a.owner k) k
 inj:∀ k e,k≤m→e≤m→k≠a.at_→e≠a.at_→own a.owner k=own a.owner e→own a.owner k≠0→k=e
 all:∀ r,1≤r→r≤i+1→∃ k,k≤m∧k≠a.at_∧own a.owner k=r
 same:∀ p,p<q→own a.owner (A p)=own o (A p)
 free:∀ k,1≤k→k≤m→k≠a.at_→own a.owner k=0→gi v k=0
 le:∀ k,k≤m→own a.owner k≤i+1
theorem pG.step {o:List Ix} {A:Nat→Nat} {T q:Nat} {g:Gr} {a:Aug} (h:pG costs m i g.u g.v o A q a) (hg:eP costs n m i o A T g) (hne:∀ p q,q<p→p≤T→A q≠A p) (hq:1≤q) (hqT:q≤T):∃ q',q'<q∧pG costs m i g.u g.v o A q' (fC g.way a):=by
 obtain ⟨q',q1,q2,q3⟩:=hg.path q hq hqT
 have ew:(gi g.way a.at_).n=A q':=by rw [h.at_];exact q2
 have hle:=hg.le q hqT
 have hle':=hg.le q' (by omega)
 have hab:A q'≠A q:=hne q q' q1 hqT
 have eo:∀ k,own (fC g.way a).owner k=if A q=k then own a.owner (A q') else own a.owner k:=fun k=>by
  unfold fC own
  simp only
  rw [gs (by rw [h.len,h.at_];omega),h.at_]
  rw [show gi g.way (A q)=⟨A q'⟩ from by
   have:own g.way (A q)=A q':=q2
   unfold own at this
   rw [← this]]
  split<;>rfl
 have ea:(fC g.way a).at_=A q':=by
  unfold fC;simp only;exact ew
 have hs:=h.same q' q1
 refine ⟨q',q1,by unfold fC;simp [h.len],ea,fun k k1 k2 k3=>?_,fun k e k1 k2 k3 k4=>?_,fun r r1 r2=>?_,fun p hp=>?_,fun k k1 k2 k3=>?_,fun k hk=>?_⟩
 ·rw [eo]
  rw [ea] at k3
  by_cases e:A q=k
  ·subst e
   rw [if_pos rfl,hs]
   intro _;exact q3
  ·rw [if_neg e]
   exact h.tight k k1 k2 (by rw [h.at_];exact fun x=>e x.symm)
 ·rw [ea] at k3 k4
  rw [eo,eo]
  have d1:A q'≠a.at_:=by rw [h.at_];exact hab
  by_cases e1:A q=k<;>by_cases e2:A q=e
  ·intro _ _;omega
  ·rw [if_pos e1,if_neg e2]
   intro x y
   have:=h.inj (A q') e hle' k2 d1 (by rw [h.at_];exact fun z=>e2 z.symm) x y
   exact absurd this.symm k4
  ·rw [if_neg e1,if_pos e2]
   intro x y
   have:=h.inj k (A q') k1 hle' (by rw [h.at_];exact fun z=>e1 z.symm) d1 x y
   exact absurd this k3
  ·rw [if_neg e1,if_neg e2]
   intro x y
   exact h.inj k e k1 k2 (by rw [h.at_];exact fun z=>e1 z.symm) (by rw [h.at_];exact fun z=>e2 z.symm) x y
 ·obtain ⟨k,k1,k2,k3⟩:=h.all r r1 r2
  rw [h.at_] at k2
  by_cases e:k=A q'
  ·refine ⟨A q,hle,by rw [ea];exact fun x=>hab x.symm,?_⟩
   rw [eo,if_pos rfl,← e];exact k3
  ·refine ⟨k,k1,by rw [ea];exact e,?_⟩
   rw [eo,if_neg (fun x=>k2 x.symm)];exact k3
 ·rw [eo,if_neg (fun x=>hne q p (by omega) hqT x.symm)]
  exact h.same p (by omega)
 ·rw [eo]
  rw [ea] at k3
  by_cases e:A q=k
  ·rw [if_pos e,hs]
   intro x
   exact absurd x (hg.pI q' (by omega))
  ·rw [if_neg e]
   exact h.free k k1 k2 (by rw [h.at_];exact fun x=>e x.symm)
 ·rw [eo]
  split
  ·exact h.le _ hle'
  ·exact h.le k hk
theorem XW (way:List Ix) (a:Aug):∀ f t,(∀ p,p<t→(GK way a p).at_≠0) →
 (∀ p,p<aV way a f t→(GK way a p).at_≠0)∧((GK way a (aV way a f t)).at_=0∨aV way a f t=t+f)∧aV way a f t≤t+f
 |0,t,h=>⟨h,.inr rfl,Nat.le_refl _⟩
 |f+1,t,h=>by
  unfold aV
  by_cases e:(GK way a t).at_=0
  ·rw [if_pos e];exact ⟨h,.inl e,by omega⟩
  ·rw [if_neg e]
   obtain ⟨x,b,c⟩:=XW way a f (t+1) fun p hp=>by
    rcases Nat.lt_or_ge p t with h3|h3
    ·exact h p h3
    ·obtain rfl:p=t:=by omega
     exact e
   exact ⟨x,by rcases b with b|b;exact .inl b;exact .inr (by omega),by omega⟩
structure a3q (costs:List (List Int)) (m:Nat) (s:iR) (i:Nat):Prop where
 go:∀ t,t<xI costs m s (i+1)→(GK (Lh costs m s (i+1)).way (stA costs m s (i+1)) t).at_≠0
 fin:(GK (Lh costs m s (i+1)).way (stA costs m s (i+1)) (xI costs m s (i+1))).at_=0
 inv:∀ t,t≤xI costs m s (i+1)→∃ q,q+t≤Xc costs m s (i+1)∧pG costs m i (Lh costs m s (i+1)).u (Lh costs m s (i+1)).v (I5 s (i+1)) (Mc costs m i s) q (GK (Lh costs m s (i+1)).way (stA costs m s (i+1)) t)
theorem kL (h:pY costs n m i s) (hc:Ih costs n m B) (hi:i<n):a3q costs m s i:=by
 obtain ⟨a,b,c⟩:=YK h hc hi
 have ho:=Yf h
 have hg:=OM h hc hi (Xc costs m s (i+1)) a
 have eE:Ed costs (I5 s (i+1)) m (P5 m s) (Xc costs m s (i+1))=Lh costs m s (i+1):=rfl
 rw [eE] at hg
 have hne:∀ p q,q<p→p≤Xc costs m s (i+1)→Mc costs m i s q≠Mc costs m i s p:=fun p q h1 h2=>(OM h hc hi p fun p' hp'=>a p' (by omega)).ne h1
 have eA:stA costs m s (i+1)=⟨I5 s (i+1),Mc costs m i s (Xc costs m s (i+1))⟩:=rfl
 have i0:pG costs m i (Lh costs m s (i+1)).u (Lh costs m s (i+1)).v (I5 s (i+1)) (Mc costs m i s) (Xc costs m s (i+1)) (stA costs m s (i+1)):=by
  rw [eA]
  refine ⟨ho.len,rfl,fun k k1 k2 _=>hg.tight k k1 k2,fun k e k1 k2 _ _=>ho.inj k e k1 k2,fun r r1 r2=>?_,fun _ _=>rfl,fun k k1 k2 _=>hg.OG k k1 k2,fun k hk=>ho.lt hk⟩
  have nz:∀ k,own (I5 s (i+1)) k=r→k≠Mc costs m i s (Xc costs m s (i+1)):=fun k hk e=>by rw [e,b] at hk;omega
  rcases Nat.lt_or_ge r (i+1) with h3|h3
  ·obtain ⟨k,k1,k2,k3⟩:=h.all r r1 (by omega)
   have:own (I5 s (i+1)) k=r:=by
    unfold I5
    rw [YG (by rw [h.lo];omega),if_neg (by omega)];exact k3
   exact ⟨k,k2,nz k this,this⟩
  ·have:own (I5 s (i+1)) 0=r:=by rw [ho.zero];omega
   exact ⟨0,Nat.zero_le _,nz 0 this,this⟩
 have inv:∀ t,(∀ p,p<t→(GK (Lh costs m s (i+1)).way (stA costs m s (i+1)) p).at_≠0)→∃ q,q+t≤Xc costs m s (i+1)∧pG costs m i (Lh costs m s (i+1)).u (Lh costs m s (i+1)).v (I5 s (i+1)) (Mc costs m i s) q (GK (Lh costs m s (i+1)).way (stA costs m s (i+1)) t):=by
  intro t
  induction t with
  |zero=>intro _;exact ⟨_,Nat.le_refl _,i0⟩
  |succ t ih =>
   intro hp
   obtain ⟨q,q1,q2⟩:=ih fun p hp'=>hp p (by omega)
   have h0:=hp t (by omega)
   have hq:1≤q:=by
    rcases Nat.eq_zero_or_pos q with e|e
    ·subst e
     rw [q2.at_,hg.zero] at h0;exact absurd rfl h0
    ·exact e
   obtain ⟨q',x1,x2⟩:=q2.step hg hne hq (by omega)
   exact ⟨q',by omega,x2⟩
 obtain ⟨x,y,z⟩:=XW (Lh costs m s (i+1)).way (stA costs m s (i+1)) (m+2) 0 (fun p hp=>by omega)
 have e:xI costs m s (i+1)=aV (Lh costs m s (i+1)).way (stA costs m s (i+1)) (m+2) 0:=rfl
 rw [← e] at x y z
 refine ⟨x,?_,fun t ht=>inv t fun p hp=>x p (by omega)⟩
 rcases y with y|y
 ·exact y
 ·obtain ⟨q,q1,_⟩:=inv (xI costs m s (i+1)) x
  omega
theorem pY.step (h:pY costs n m i s) (hc:Ih costs n m B) (hi:i<n):pY costs n m (i+1) (Nv costs m s (i+1)):=by
 obtain ⟨a,b,c⟩:=YK h hc hi
 have hg:=OM h hc hi (Xc costs m s (i+1)) a
 have eE:Ed costs (I5 s (i+1)) m (P5 m s) (Xc costs m s (i+1))=Lh costs m s (i+1):=rfl
 rw [eE] at hg
 obtain ⟨_,fin,inv⟩:=kL h hc hi
 obtain ⟨q,_,hA⟩:=inv _ (Nat.le_refl _)
 have e1:(Nv costs m s (i+1)).u=(Lh costs m s (i+1)).u:=rfl
 have e2:(Nv costs m s (i+1)).v=(Lh costs m s (i+1)).v:=rfl
 have e3:(Nv costs m s (i+1)).owner=(GK (Lh costs m s (i+1)).way (stA costs m s (i+1)) (xI costs m s (i+1))).owner:=rfl
 have e4:(Nv costs m s (i+1)).way=(Lh costs m s (i+1)).way:=rfl
 generalize Nv costs m s (i+1)=S at *
 generalize GK (Lh costs m s (i+1)).way (stA costs m s (i+1)) (xI costs m s (i+1))=a' at *
 refine ⟨by rw [e1];exact hg.lu,by rw [e2];exact hg.lv,by rw [e3];exact hA.len,by rw [e4];exact hg.lw,fun k k1 k2=>by rw [e3];exact hA.le k k2,fun r r1 r2=>?_,fun k e k1 k2 k3 k4=>?_,fun r k r1 r2 k1 k2=>by rw [e1,e2];exact hg.Wh r k r1 r2 k1 k2,fun k k1 k2=>?_,fun k k1 k2=>by rw [e2];exact hg.ZF k k1 k2,fun k k1 k2=>?_,fun r r1 r2=>by rw [e1];exact hg.Ur r r1 r2,fun r hr=>by rw [e1];exact hg.uz r hr⟩
 ·obtain ⟨k,k1,k2,k3⟩:=hA.all r r1 r2
  rw [fin] at k2
  exact ⟨k,by omega,k1,by rw [e3];exact k3⟩
 ·rw [e3]
  exact hA.inj k e k2 k4 (by omega) (by omega)
 ·rw [e1,e2,e3]
  exact hA.tight k k1 k2 (by omega)
 ·rw [e2,e3]
  exact hA.free k k1 k2 (by omega)
theorem stage0:pY costs n m 0 (Dc costs n m 0):=by
 have z:∀ k,own (List.replicate (m+1) (⟨0⟩:Ix)) k=0:=fun k=>by
  unfold own gi
  rw [List.getElem?_replicate]
  split<;>rfl
 refine ⟨by simp [Dc],by simp [Dc],by simp [Dc],by simp [Dc],fun k _ _=>?_,fun r h1 h2=>by omega,fun k e _ _ _ _ _ h=>absurd (z k) h,fun r k h1 h2=>by omega,fun k _ _ h=>absurd (z k) h,fun k _ _=>?_,fun k _ _ _=>?_,fun r h1 h2=>by omega,fun r _=>?_⟩
 ·show own (List.replicate (m+1) (⟨0⟩:Ix)) k≤0
  rw [z];exact Nat.le_refl _
 ·show gi (List.replicate (m+1) (0:Int)) k≤0
  rw [UN];omega
 ·show gi (List.replicate (m+1) (0:Int)) k=0
  exact UN k
 ·show gi (List.replicate (n+1) (0:Int)) r=0
  exact UN r
theorem MZ (hc:Ih costs n m B):∀ i,i≤n→pY costs n m i (Dc costs n m i)
 |0,_=>stage0
 |i+1,hi=>(MZ hc i (by omega)).step hc (by omega)
end
end Go.Hun
namespace Go.Hun
open Go.Vm
def Dz (f:Nat→Int):Nat→Int
 |0=>0
 |k+1=>Dz f k+f k
theorem EI {f g:Nat→Int}:∀ {n:Nat},(∀ k,k<n→f k=g k)→Dz f n=Dz g n
 |0,_=>rfl
 |n+1,h=>by simp only [Dz];rw [EI fun k hk=>h k (by omega),h n (by omega)]
theorem Oe {f g:Nat→Int}:∀ {n:Nat},(∀ k,k<n→f k≤g k)→Dz f n≤Dz g n
 |0,_=>Int.le_refl _
 |n+1,h=>by
  simp only [Dz]
  have:=Oe (f:=f) (g:=g) (n:=n) fun k hk=>h k (by omega)
  have:=h n (by omega)
  omega
theorem V4 (f g:Nat→Int):∀ n,Dz (fun k=>f k+g k) n=Dz f n+Dz g n
 |0=>rfl
 |n+1=>by simp only [Dz];rw [V4 f g n];omega
theorem Yn {f:Nat→Int}:∀ {n:Nat},(∀ k,k<n→f k=0)→Dz f n=0
 |0,_=>rfl
 |n+1,h=>by simp only [Dz];rw [Yn fun k hk=>h k (by omega),h n (by omega)];rfl
theorem Ls (c:Int):∀ n:Nat,Dz (fun _=>c) n=n*c
 |0=>by simp [Dz]
 |n+1=>by
  simp only [Dz];rw [Ls c n]
  push_cast
  rw [Int.add_mul,Int.one_mul]
theorem iG {f:Nat→Int} {a b:Int}:∀ {n:Nat},(∀ k,k<n→a≤f k∧f k≤b)→n*a≤Dz f n∧Dz f n≤n*b:=fun {n} h=>by
 have h1:=Oe (f:=fun _=>a) (g:=f) (n:=n) fun k hk=>(h k hk).1
 have h2:=Oe (f:=f) (g:=fun _=>b) (n:=n) fun k hk=>(h k hk).2
 rw [Ls] at h1 h2
 exact ⟨h1,h2⟩
theorem RS {f:Nat→Int} {j:Nat}:∀ {n:Nat},j<n→Dz f n=f j+Dz (fun k=>if k=j then 0 else f k) n
 |n+1,h=>by
  simp only [Dz]
  by_cases e:j=n
  ·subst e
   rw [if_pos rfl,EI (f:=fun k=>if k=j then 0 else f k) (g:=f) fun k hk=>if_neg (by omega)]
   omega
  ·rw [if_neg (fun x=>e x.symm),RS (f:=f) (j:=j) (n:=n) (by omega)]
   omega
theorem Ze:∀ (n m:Nat) (κ:Nat→Nat) (f:Nat→Int),(∀ r,r<n→κ r<m)→(∀ r q,r<n→q<n→κ r=κ q→r=q)→(∀ k,k<m→(∀ r,r<n→κ r≠k)→f k=0)→Dz f m=Dz (fun r=>f (κ r)) n
 |0,m,κ,f,h1,h2,h3=>Yn fun k hk=>h3 k hk fun r hr=>by omega
 |n+1,m,κ,f,h1,h2,h3=>by
  rw [RS (h1 n (by omega))]
  have ih:=Ze n m κ (fun k=>if k=κ n then 0 else f k) (fun r hr=>h1 r (by omega)) (fun r q hr hq=>h2 r q (by omega) (by omega)) fun k hk hn=>by
   by_cases e:k=κ n
   ·simp only [if_pos e]
   ·simp only [if_neg e]
    refine h3 k hk fun r hr=>?_
    rcases Nat.lt_or_ge r n with h|h
    ·exact hn r h
    ·obtain rfl:r=n:=by omega
     exact fun x=>e x.symm
  rw [ih]
  simp only [Dz]
  rw [EI (n:=n) (f:=fun r=>if κ r=κ n then 0 else f (κ r)) (g:=fun r=>f (κ r)) fun r hr=>if_neg fun e=>by have:=h2 r n (by omega) (by omega) e;omega]
  omega
theorem Vu:∀ (n m:Nat) (κ:Nat→Nat) (f:Nat→Int),(∀ r q,r<n→q<n→κ r<m→κ r=κ q→r=q)→(∀ k,k<m→f k≤0)→Dz f m≤Dz (fun r=>if κ r<m then f (κ r) else 0) n
 |0,m,κ,f,h2,h3=>by
  have:=Oe (f:=f) (g:=fun _=>0) (n:=m) h3
  rw [Ls] at this
  simp only [Dz];omega
 |n+1,m,κ,f,h2,h3=>by
  simp only [Dz]
  by_cases hk:κ n<m
  ·rw [if_pos hk,RS hk]
   have ih:=Vu n m κ (fun k=>if k=κ n then 0 else f k) (fun r q hr hq=>h2 r q (by omega) (by omega)) fun k hk=>by
    by_cases e:k=κ n
    ·simp only [if_pos e];omega
    ·simp only [if_neg e];exact h3 k hk
   have e2:Dz (fun r=>if κ r<m then (if κ r=κ n then 0 else f (κ r)) else 0) n=Dz (fun r=>if κ r<m then f (κ r) else 0) n:=EI fun r hr=>by
    by_cases h:κ r<m
    ·rw [if_pos h,if_pos h,if_neg fun e=>by have:=h2 r n (by omega) (by omega) h e;omega]
    ·rw [if_neg h,if_neg h]
   rw [e2] at ih
   omega
  ·rw [if_neg hk]
   have ih:=Vu n m κ f (fun r q hr hq=>h2 r q (by omega) (by omega)) h3
   omega
section
variable {costs:List (List Int)} {n m:Nat} {B:Int}
structure a6c (costs:List (List Int)) (n:Nat) (o:List Ix) (j:Nat) (x:Out):Prop where
 len:x.cols.length=n
 cols:∀ k,1≤k→k≤j→0<own o k→gi x.cols (own o k-1)=(k:Int)-1
 total:x.total=Dz (fun k=>if 0<own o (k+1) then cst costs (own o (k+1)) (k+1) else 0) j
theorem VT {s:iR} (h:pY costs n m n s):∀ j,j≤m→a6c costs n s.owner j (KC costs s.owner n j)
 |0,_=>⟨by simp [KC],fun k k1 k2=>by omega,rfl⟩
 |j+1,hj=>by
  obtain ⟨i1,i2,i3⟩:=VT h j (by omega)
  have e:KC costs s.owner n (j+1)=pO costs s.owner (KC costs s.owner n j) (j+1):=rfl
  rw [e]
  generalize KC costs s.owner n j=x at *
  unfold pO
  have e2:(gi s.owner (j+1)).n=own s.owner (j+1):=rfl
  simp only [e2]
  by_cases hp:0<own s.owner (j+1)
  ·rw [if_pos hp]
   have hle:=h.own (j+1) (by omega) hj
   refine ⟨by simp [i1],fun k k1 k2 k3=>?_,?_⟩
   ·show gi (x.cols.set (own s.owner (j+1)-1) (((j+1:Nat):Int)-1)) _=_
    rw [gs (by omega)]
    by_cases e:k=j+1
    ·subst e;rw [if_pos rfl]
    ·rw [if_neg,i2 k k1 (by omega) k3]
     intro e3
     have:=h.inj k (j+1) k1 (by omega) (by omega) hj (by omega) (by omega)
     omega
   ·simp only [Dz]
    rw [if_pos hp,i3]
    unfold cst
    rfl
  ·rw [if_neg hp]
   refine ⟨i1,fun k k1 k2 k3=>?_,?_⟩
   ·by_cases e:k=j+1
    ·subst e;exact absurd k3 hp
    ·exact i2 k k1 (by omega) k3
   ·simp only [Dz]
    rw [if_neg hp,i3];omega
def Gq (costs:List (List Int)) (n m:Nat):Out:=KC costs (Dc costs n m n).owner n m
def Jp (costs:List (List Int)) (n m:Nat):List Int:=(Dc costs n m n).u.drop 1
def GZ (costs:List (List Int)) (n m:Nat):List Int:=(Dc costs n m n).v.drop 1
theorem lq {α:Type} [Inhabited α] (l:List α) (j k:Nat):gi (l.drop j) k=gi l (j+k):=by
 unfold gi;rw [List.getElem?_drop]
structure a0h (c:Nat→Nat→Int) (n m:Nat) (B:Int) (x:Out) (U V:List Int):Prop where
 len:x.cols.length=n
 lU:U.length=n
 lV:V.length=m
 col:∀ r,r<n→0≤gi x.cols r∧gi x.cols r<m
 inj:∀ r q,r<n→q<n→gi x.cols r=gi x.cols q→r=q
 total:x.total=Dz (fun r=>c r (gi x.cols r).toNat) n
 Wh:∀ r k,r<n→k<m→gi U r+gi V k≤c r k
 neg:∀ k,k<m→-B≤gi V k∧gi V k≤0
 pos:∀ r,r<n→0≤gi U r∧gi U r≤B
 a0w:x.total=Dz (fun r=>gi U r) n+Dz (fun k=>gi V k) m
 free:∀ k,k<m→(∀ r,r<n→gi x.cols r≠k)→gi V k=0
theorem Vz (hc:Ih costs n m B):a0h (fun r k=>gi (gi costs r) k) n m B (Gq costs n m) (Jp costs n m) (GZ costs n m):=by
 have h:=MZ hc n (Nat.le_refl _)
 have hO:=VT h m (Nat.le_refl _)
 have e1:KC costs (Dc costs n m n).owner n m=Gq costs n m:=rfl
 have e2:(Dc costs n m n).u.drop 1=Jp costs n m:=rfl
 have e3:(Dc costs n m n).v.drop 1=GZ costs n m:=rfl
 rw [e1] at hO
 have hu:∀ r,gi (Jp costs n m) r=gi (Dc costs n m n).u (r+1):=fun r=>by rw [← e2,lq,Nat.add_comm]
 have hv:∀ k,gi (GZ costs n m) k=gi (Dc costs n m n).v (k+1):=fun k=>by rw [← e3,lq,Nat.add_comm]
 have lU:(Jp costs n m).length=n:=by rw [← e2,List.length_drop,h.lu];omega
 have lV:(GZ costs n m).length=m:=by rw [← e3,List.length_drop,h.lv];omega
 generalize Jp costs n m=U at *
 generalize GZ costs n m=V at *
 generalize Gq costs n m=x at *
 generalize Dc costs n m n=s at *
 have hb:=hc.big
 have hnm:=hc.nm
 have Xt:∀ r,r<n→∃ k,1≤k∧k≤m∧own s.owner k=r+1∧gi x.cols r=(k:Int)-1:=fun r hr=>by
  obtain ⟨k,k1,k2,k3⟩:=h.all (r+1) (by omega) (by omega)
  have:=hO.cols k k1 k2 (by omega)
  rw [k3,Nat.add_sub_cancel] at this
  exact ⟨k,k1,k2,k3,this⟩
 have hown:∀ r,r<n→own s.owner ((gi x.cols r).toNat+1)=r+1∧(gi x.cols r).toNat<m:=fun r hr=>by
  obtain ⟨k,k1,k2,k3,k4⟩:=Xt r hr
  have:(gi x.cols r).toNat+1=k:=by omega
  rw [this];exact ⟨k3,by omega⟩
 have hinj:∀ r q,r<n→q<n→(gi x.cols r).toNat=(gi x.cols q).toNat→r=q:=fun r q hr hq e=>by
  have h1:=(hown r hr).1
  have h2:=(hown q hq).1
  rw [e] at h1;omega
 have hfree:∀ k,k<m→(∀ r,r<n→(gi x.cols r).toNat≠k)→own s.owner (k+1)=0:=fun k hk hn=>by
  rcases Nat.eq_zero_or_pos (own s.owner (k+1)) with e|e
  ·exact e
  ·have hle:=h.own (k+1) (by omega) (by omega)
   have:=hO.cols (k+1) (by omega) (by omega) e
   exact absurd (by omega) (hn (own s.owner (k+1)-1) (by omega))
 have ht:x.total=Dz (fun r=>gi (gi costs r) (gi x.cols r).toNat) n:=by
  rw [hO.total,Ze n m (fun r=>(gi x.cols r).toNat) _ (fun r hr=>(hown r hr).2) hinj fun k hk hn=>by
   rw [if_neg (by rw [hfree k hk hn];omega)]]
  refine EI fun r hr=>?_
  rw [(hown r hr).1,if_pos (by omega)]
  unfold cst
  rw [Nat.add_sub_cancel,Nat.add_sub_cancel]
 have hfe:∀ r k,r<n→k<m→gi U r+gi V k≤gi (gi costs r) k:=fun r k hr hk=>by
  rw [hu,hv]
  have:=h.Wh (r+1) (k+1) (by omega) (by omega) (by omega) (by omega)
  unfold cst at this
  rwa [Nat.add_sub_cancel,Nat.add_sub_cancel] at this
 have hng:∀ k,k<m→gi V k≤0:=fun k hk=>by rw [hv];exact h.ZF (k+1) (by omega) (by omega)
 have hps:∀ r,r<n→0≤gi U r:=fun r hr=>by rw [hu];exact h.Ur (r+1) (by omega) (by omega)
 have hf:∃ k,k<m∧own s.owner (k+1)=0:=by
  refine Classical.byContradiction fun hn=>?_
  have hn:∀ k,k<m→own s.owner (k+1)≠0:=fun k h1 h3=>hn ⟨k,h1,h3⟩
  have:=WR n m (fun k=>own s.owner (k+1)-1) (fun k hk=>by
   have h1:=hn k hk
   have h2:=h.own (k+1) (by omega) (by omega)
   show own s.owner (k+1)-1<n
   omega) (fun k e hk he hf=>by
   have h1:=hn k hk
   have h2:=hn e he
   have hf:own s.owner (k+1)-1=own s.owner (e+1)-1:=hf
   have:=h.inj (k+1) (e+1) (by omega) (by omega) (by omega) (by omega) (by omega) h1
   omega)
  omega
 obtain ⟨f,f1,f2⟩:=hf
 have fv:gi V f=0:=by rw [hv];exact h.OG (f+1) (by omega) (by omega) f2
 have hub:∀ r,r<n→gi U r≤B:=fun r hr=>by
  have h1:=hfe r f hr f1
  have h2:=hc.hi (r+1) (f+1)
  unfold cst at h2
  rw [Nat.add_sub_cancel,Nat.add_sub_cancel] at h2
  omega
 have a1o:∀ r,r<n→gi U r+gi V (gi x.cols r).toNat=gi (gi costs r) (gi x.cols r).toNat:=fun r hr=>by
  obtain ⟨h1,h2⟩:=hown r hr
  have:=h.tight ((gi x.cols r).toNat+1) (by omega) (by omega) (by omega)
  rw [h1] at this
  rw [hu,hv]
  unfold cst at this
  rwa [Nat.add_sub_cancel,Nat.add_sub_cancel] at this
 have hV0:∀ k,k<m→(∀ r,r<n→(gi x.cols r).toNat≠k)→gi V k=0:=fun k hk hn=>by
  rw [hv];exact h.OG (k+1) (by omega) (by omega) (hfree k hk hn)
 refine ⟨hO.len,lU,lV,fun r hr=>?_,fun r q hr hq e=>hinj r q hr hq (by rw [e]),ht,hfe,fun k hk=>⟨?_,hng k hk⟩,fun r hr=>⟨hps r hr,hub r hr⟩,?_,fun k hk hn=>hV0 k hk fun r hr e=>hn r hr (by obtain ⟨j,j1,j2,j3,j4⟩:=Xt r hr;omega)⟩
 ·obtain ⟨k,k1,k2,k3,k4⟩:=Xt r hr
  omega
 ·by_cases e:own s.owner (k+1)=0
  ·rw [hv,h.OG (k+1) (by omega) (by omega) e];omega
  ·have hle:=h.own (k+1) (by omega) (by omega)
   have h1:=h.tight (k+1) (by omega) (by omega) e
   have h2:=hub (own s.owner (k+1)-1) (by omega)
   rw [hu] at h2
   have h3:own s.owner (k+1)-1+1=own s.owner (k+1):=by omega
   rw [h3] at h2
   have h4:=hc.lo (own s.owner (k+1)) (k+1)
   rw [hv];omega
 ·rw [ht,EI (fun r hr=>(a1o r hr).symm),V4]
  congr 1
  rw [Ze n m (fun r=>(gi x.cols r).toNat) (fun k=>gi V k) (fun r hr=>(hown r hr).2) hinj hV0]
end
def ZL (l:List (List Int)) (skip:Int) (cols:Nat→Int) (r:Nat):Int:=if cols r<0 then skip else gi (gi l r) (cols r).toNat
structure mF (n m:Nat) (cols:Nat→Int):Prop where
 rng:∀ r,r<n→-1≤cols r∧cols r<m
 inj:∀ r q,r<n→q<n→0≤cols r→cols r=cols q→r=q
structure a1m (l:List (List Int)) (n m:Nat) (skip:Int) (U V:Nat→Int):Prop where
 Wh:∀ r k,r<n→k<m→U r+V k≤gi (gi l r) k
 skip:∀ r,r<n→U r≤skip
 neg:∀ k,k<m→V k≤0
theorem weak {l:List (List Int)} {n m:Nat} {skip:Int} {U V:Nat→Int} {cols:Nat→Int} (hp:a1m l n m skip U V) (hc:mF n m cols):Dz U n+Dz V m≤Dz (ZL l skip cols) n:=by
 have h1:=Vu n m (fun r=>if cols r<0 then m else (cols r).toNat) V (fun r q hr hq h e=>by
  by_cases a:cols r<0
  ·rw [if_pos a] at h;omega
  ·rw [if_neg a] at h e
   by_cases b:cols q<0
   ·rw [if_pos b] at e;omega
   ·rw [if_neg b] at e
    exact hc.inj r q hr hq (by omega) (by omega)) hp.neg
 have h2:=Oe (n:=n) (f:=fun r=>U r+(if (if cols r<0 then m else (cols r).toNat)<m then V (if cols r<0 then m else (cols r).toNat) else 0)) (g:=ZL l skip cols) fun r hr=>by
  unfold ZL
  have hr1:=hc.rng r hr
  by_cases a:cols r<0
  ·simp only [if_pos a]
   rw [if_neg (by omega)]
   have:=hp.skip r hr
   omega
  ·simp only [if_neg a]
   rw [if_pos (by omega)]
   exact hp.Wh r _ hr (by omega)
 rw [V4] at h2
 omega
def Dy (l:List (List Int)) (skip:Int) (n:Nat):List (List Int):=l.map fun row=>row++List.replicate (n+1) skip
theorem gi_map' {α β:Type} [Inhabited α] [Inhabited β] (f:α→β) {l:List α} {i:Nat} (h:i<l.length):gi (l.map f) i=f (gi l i):=by
 unfold gi;simp [List.getElem?_map,List.getElem?_eq_getElem h]
structure wQ (l:List (List Int)) (n m:Nat) (skip B:Int):Prop where
 len:l.length=n
 row:∀ r,r<n→(gi l r).length=m
 rng:∀ r k,r<n→k<m→0≤gi (gi l r) k∧gi (gi l r) k≤B
 skip:0≤skip∧skip≤B
 big:B≤1000000000000
theorem UG {l:List (List Int)} {n m:Nat} {skip B:Int} (h:wQ l n m skip B) {r k:Nat} (hr:r<n):gi (gi (Dy l skip n) r) k=if k<m then gi (gi l r) k else if k<m+(n+1) then skip else 0:=by
 unfold Dy
 rw [gi_map' _ (by rw [h.len];exact hr)]
 have:=h.row r hr
 unfold gi at this ⊢
 rw [List.getElem?_append]
 by_cases h1:k<m
 ·rw [if_pos (by omega),if_pos h1]
 ·rw [if_neg (by omega),if_neg h1,List.getElem?_replicate]
  by_cases h2:k<m+(n+1)
  ·rw [if_pos (by omega),if_pos h2];rfl
  ·rw [if_neg (by omega),if_neg h2];rfl
theorem X0 {l:List (List Int)} {n m:Nat} {skip B:Int} (h:wQ l n m skip B):Ih (Dy l skip n) n (m+(n+1)) B:=by
 have h0:=h.skip
 have hb:0≤B:=by omega
 have:∀ r k,0≤gi (gi (Dy l skip n) r) k∧gi (gi (Dy l skip n) r) k≤B:=fun r k=>by
  rcases Nat.lt_or_ge r n with h1|h1
  ·rw [UG h h1]
   split
   ·rename_i h2;exact h.rng r k h1 h2
   ·split
    ·exact h0
    ·omega
  ·have e:gi (Dy l skip n) r=default:=by
    unfold gi Dy
    rw [List.getElem?_eq_none (by rw [List.length_map,h.len];omega)];rfl
   rw [e]
   have:gi (default:List Int) k=0:=by
    show ((([]:List Int)[k]?).getD 0)=0
    simp
   rw [this];omega
 exact ⟨fun r k=>(this _ _).1,fun r k=>(this _ _).2,⟨hb,h.big⟩,by omega⟩
def KD (m:Nat) (c:Int):Int:=if (m:Int)≤c then -1 else c
def uq (l:List (List Int)) (n m:Nat) (skip:Int):List Int:=(Gq (Dy l skip n) n (m+(n+1))).cols.map (KD m)
def jr (l:List (List Int)) (n m:Nat) (skip:Int):Int:=(Gq (Dy l skip n) n (m+(n+1))).total
def uo (l:List (List Int)) (n m:Nat) (skip:Int):List Int:=Jp (Dy l skip n) n (m+(n+1))
def qp (l:List (List Int)) (n m:Nat) (skip:Int):List Int:=(GZ (Dy l skip n) n (m+(n+1))).take m
structure a6z (l:List (List Int)) (n m:Nat) (skip B:Int) (cols U V:List Int) (total:Int):Prop where
 lC:cols.length=n
 lU:U.length=n
 lV:V.length=m
 part:mF n m (fun r=>gi cols r)
 tot:total=Dz (ZL l skip fun r=>gi cols r) n
 pot:a1m l n m skip (fun r=>gi U r) (fun k=>gi V k)
 a0w:total=Dz (fun r=>gi U r) n+Dz (fun k=>gi V k) m
 a7w:∀ r,r<n→0≤gi U r∧gi U r≤B
 a3i:∀ k,k<m→-B≤gi V k∧gi V k≤0
theorem gi_take' {α:Type} [Inhabited α] (l:List α) {j k:Nat} (h:k<j):gi (l.take j) k=gi l k:=by
 unfold gi;rw [List.getElem?_take,if_pos h]
theorem O5 (f:Nat→Int) (m:Nat):∀ n,Dz f (m+n)=Dz f m+Dz (fun k=>f (m+k)) n
 |0=>by simp [Dz]
 |n+1=>by
  rw [← Nat.add_assoc]
  simp only [Dz]
  rw [O5 f m n];omega
theorem sU {l:List (List Int)} {n m:Nat} {skip B:Int} (h:wQ l n m skip B):a6z l n m skip B (uq l n m skip) (uo l n m skip) (qp l n m skip) (jr l n m skip):=by
 have hs:=Vz (X0 h)
 have eC:uq l n m skip=(Gq (Dy l skip n) n (m+(n+1))).cols.map (KD m):=rfl
 have eT:jr l n m skip=(Gq (Dy l skip n) n (m+(n+1))).total:=rfl
 have eU:uo l n m skip=Jp (Dy l skip n) n (m+(n+1)):=rfl
 have eV:qp l n m skip=(GZ (Dy l skip n) n (m+(n+1))).take m:=rfl
 rw [eC,eT,eU,eV]
 generalize Gq (Dy l skip n) n (m+(n+1))=x at *
 generalize Jp (Dy l skip n) n (m+(n+1))=U at *
 generalize GZ (Dy l skip n) n (m+(n+1))=V at *
 obtain ⟨s1,s2,s3,s4,s5,s6,s7,s8,s9,s10,s11⟩:=hs
 have gC:∀ r,r<n→gi (x.cols.map (KD m)) r=KD m (gi x.cols r):=fun r hr=>gi_map' _ (by omega)
 have gV:∀ k,k<m→gi (V.take m) k=gi V k:=fun k hk=>gi_take' V hk
 have part:mF n m (fun r=>gi (x.cols.map (KD m)) r):=by
  refine ⟨fun r hr=>?_,fun r q hr hq h1 h2=>?_⟩
  ·rw [gC r hr]
   have:=s4 r hr
   unfold KD;split<;>omega
  ·rw [gC r hr] at h1 h2
   rw [gC q hq] at h2
   refine s5 r q hr hq ?_
   have:=s4 q hq
   unfold KD at h1 h2
   split at h2<;>split at h2<;>omega
 have tot:x.total=Dz (ZL l skip fun r=>gi (x.cols.map (KD m)) r) n:=by
  rw [s6]
  refine EI fun r hr=>?_
  have:=s4 r hr
  show _=if gi (x.cols.map (KD m)) r<0 then skip else gi (gi l r) (gi (x.cols.map (KD m)) r).toNat
  rw [gC r hr,UG h hr]
  unfold KD
  by_cases h1:(m:Int)≤gi x.cols r
  ·rw [if_pos h1,if_neg (by omega),if_pos (by omega),if_pos (by omega)]
  ·rw [if_neg h1,if_pos (by omega),if_neg (by omega)]
 have hsk:∀ r,r<n→gi U r≤skip:=fun r hr=>by
  have hx:∃ k,k<n+1∧∀ q,q<n→gi x.cols q≠((m+k:Nat):Int):=by
   refine Classical.byContradiction fun hn=>?_
   have hn:∀ k,k<n+1→∃ q,q<n∧gi x.cols q=((m+k:Nat):Int):=fun k hk=>Classical.byContradiction fun h2=>hn ⟨k,hk,fun q hq e=>h2 ⟨q,hq,e⟩⟩
   have hn':∀ k,∃ q,k<n+1→q<n∧gi x.cols q=((m+k:Nat):Int):=fun k=>by
    by_cases hk:k<n+1
    ·obtain ⟨q,hq⟩:=hn k hk;exact ⟨q,fun _=>hq⟩
    ·exact ⟨0,fun h=>absurd h hk⟩
   have hF:=fun k=>Classical.choose_spec (hn' k)
   have:=WR n (n+1) (fun k=>Classical.choose (hn' k)) (fun k hk=>(hF k hk).1) (fun k e hk he hf=>by
    have h1:=(hF k hk).2
    have h2:=(hF e he).2
    have hf:Classical.choose (hn' k)=Classical.choose (hn' e):=hf
    rw [hf,h2] at h1;omega)
   omega
  obtain ⟨k,k1,k2⟩:=hx
  have h1:=s7 r (m+k) hr (by omega)
  rw [UG h hr,if_neg (by omega),if_pos (by omega)] at h1
  have h0:=s11 (m+k) (by omega) k2
  omega
 have a0w:Dz (fun k=>gi V k) (m+(n+1))≤Dz (fun k=>gi (V.take m) k) m:=by
  rw [O5,EI (n:=m) (f:=fun k=>gi (V.take m) k) (g:=fun k=>gi V k) gV]
  have:=Oe (n:=n+1) (f:=fun k=>gi V (m+k)) (g:=fun _=>0) fun k hk=>(s8 (m+k) (by omega)).2
  rw [Ls] at this
  omega
 have pot:a1m l n m skip (fun r=>gi U r) (fun k=>gi (V.take m) k):=by
  refine ⟨fun r k hr hk=>?_,hsk,fun k hk=>?_⟩
  ·have h1:=s7 r k hr (by omega)
   rw [UG h hr,if_pos hk] at h1
   show gi U r+gi (V.take m) k≤_
   rw [gV k hk];exact h1
  ·show gi (V.take m) k≤0
   rw [gV k hk];exact (s8 k (by omega)).2
 have hw:=weak pot part
 exact ⟨by rw [List.length_map,s1],s2,by rw [List.length_take,s3];omega,part,tot,pot,by omega,s9,fun k hk=>by rw [gV k hk];exact s8 k (by omega)⟩
end Go.Hun
namespace Go.Proofs.YtdabojnmoejilaaGreatDoor
open Go Go.Am Go.Vm Go.Hun
attribute [local irreducible] Aa Ag Ap Ad BA AV CS AO AL Az Vm.Done Df Bh
def tJ (l:List (List Int)):Nat:=(gi l 0).length
theorem Ld (e:TypeId) (l:List (List Int)) (hl:l.length<1000000):AV env 69 [.lst e (cells l) l.length] (.p (.int .i64 (tJ l:Int))):=by
 refine AV.enter (AA (by decide)) Tryz.func69 rfl (by kernel_rfl) (by simp [Tryz.ntmps69]) ?_
 by_cases h:l.length=0
 ·have hl0:l=[]:=List.length_eq_zero_iff.1 h
  subst hl0
  repeat' (first|apply Ad.assoc|apply Ad.AB|apply Ad.BH|apply Ag.nil|apply Ag.one|(apply Aa.assign;rfl)|(apply Aa.move;rfl)|(apply Aa.int;rfl;rfl;rfl)|(apply Aa.BF;rfl;rfl)|(apply Ad.Bc;rfl))
  all_goals first|(exfalso;omega)|contradiction|(refine Done.ret rfl (.refl _) (by first|exact trivial|exact ⟨trivial,trivial,trivial⟩|exact ⟨trivial,trivial,trivial,trivial⟩) Aj.nil (Nat.zero_le _) (Nat.le_refl _) ⟨?_,rfl,rfl⟩;try rfl)
 ·repeat' (first|apply Ad.assoc|apply Ad.AB|apply Ad.Aq|apply Ad.ret|apply Ag.nil|apply Ag.one|(apply Aa.assign;rfl)|(apply Aa.move;rfl)|(apply Aa.int;rfl;rfl;rfl)|(apply Aa.Vg;rfl;rfl;rfl;omega;omega;rfl)|(apply Aa.load;rfl;rfl)|(apply Aa.BF;rfl;rfl)|(apply Ad.Af;rfl)|(intro _;try (exfalso;omega)))
  all_goals first|(exfalso;omega)|contradiction|(refine Done.ret rfl (.refl _) (by first|exact trivial|exact ⟨trivial,trivial,trivial⟩|exact ⟨trivial,trivial,trivial,trivial⟩) Aj.nil (Nat.zero_le _) (Nat.le_refl _) ⟨?_,rfl,rfl⟩;try rfl)
section
variable {costs:List (List Int)} {n m:Nat} {B:Int}
theorem uh {i:Nat} {o:List Ix} {A:Nat→Nat} {t:Nat} {g:Gr} (h:eP costs n m i o A t g) (hc:Ih costs n m B) (ho:pW m i o) (hi:i<n) (hr:Hun.own o (A t)≠0):gi (Gm costs o m g).v 0+gi (Gm costs o m g).u (i+1)=gi g.v 0+gi g.u (i+1):=by
 have hR:=Jv h hc ho hi hr
 have hS:=Na h hc ho hi hr
 have h0:gi (CO g) 0=true:=(hR.doneD 0).2 ⟨0,by omega,h.zero⟩
 have h1:=hS.u1 0 (Nat.zero_le _) h0
 have h2:=hS.v1 0 (Nat.zero_le _) h0
 rw [ho.zero] at h1
 show gi (IY costs o m g).v 0+gi (IY costs o m g).u (i+1)=_
 omega
theorem Y7 {i:Nat} {s:iR} (h:pY costs n m i s) (hc:Ih costs n m B) (hi:i<n):∀ t,(∀ p,p<t→Hun.own (I5 s (i+1)) (Mc costs m i s p)≠0)→gi (Ed costs (I5 s (i+1)) m (P5 m s) t).v 0+gi (Ed costs (I5 s (i+1)) m (P5 m s) t).u (i+1)=gi s.v 0
 |0,_=>by
  show gi s.v 0+gi s.u (i+1)=_
  rw [h.uz (i+1) (by omega)];omega
 |t+1,hp=>by
  have ih:=Y7 h hc hi t fun p hp'=>hp p (by omega)
  have:=uh (OM h hc hi t fun p hp'=>hp p (by omega)) hc (Yf h) hi (hp t (by omega))
  show gi (Gm costs _ m _).v 0+gi (Gm costs _ m _).u (i+1)=_
  omega
theorem dF (hc:Ih costs n m B):∀ i,i≤n→-(i*B)≤gi (Dc costs n m i).v 0∧gi (Dc costs n m i).v 0≤0
 |0,_=>by
  have:gi (Dc costs n m 0).v 0=0:=UN 0
  rw [this];simp
 |i+1,hi=>by
  have ih:=dF hc i (by omega)
  have h:=MZ hc i (by omega)
  obtain ⟨a,b,c⟩:=YK h hc (by omega)
  have h1:=Y7 h hc (by omega) _ a
  have hg:=OM h hc (by omega) _ a
  have h2:=hg.ule hc (Yf h) (by have:=hc.nm;omega) (r:=i+1) (by omega) (Nat.le_refl _)
  have h3:=hg.Ur (i+1) (by omega) (Nat.le_refl _)
  have e:(Dc costs n m (i+1)).v=(Ed costs (I5 (Dc costs n m i) (i+1)) m (P5 m (Dc costs n m i)) (Xc costs m (Dc costs n m i) (i+1))).v:=rfl
  rw [e]
  push_cast
  rw [Int.add_mul,Int.one_mul]
  omega
end
def kD (e:TypeId) (costs:List (List Int)) (n m k row a:Nat) (s:pX) (j:Nat):Vm.Frame :=
 [(14,.p (.int .i64 s.delta)),(15,.p (.int .i64 (s.next:Int))),(16,.p (.int .i64 ((j+1:Nat):Int))),(0,.p (.lst e (cells costs) n)),(2,.ref 0 0),(3,.p (.int .i64 (n:Int))),(4,.p (.int .i64 (m:Int))),(5,.vec 1 (n+1) 0 (n+1)),(6,.vec 2 (m+1) 0 (m+1)),(7,.vec 3 (m+1) 0 (m+1)),(8,.vec 4 (m+1) 0 (m+1)),(9,.p (.int .i64 ((k+1:Nat):Int))),(10,.p (.int .i64 (a:Int))),(11,.vec 6 (m+1) 0 (m+1)),(12,.vec 7 (m+1) 0 (m+1)),(13,.p (.int .i64 (row:Int)))]
def yI:Vm.HB:=.box 69 [.p (.val (.slice none 0 0)),.p (.int .i64 0),.p (.val (.slice none 0 0)),.p (.val (.slice none 0 0))]
def jX (n m:Nat) (u v:List Int) (o:List Ix) (done:List Bool) (s:pX):Vm.Heap :=
 [(4,.vec 3 (cells s.way) (m+1) false),(6,.vec 3 (cells s.least) (m+1) false),(7,.vec 4 (cells done) (m+1) false),(0,yI),(1,.vec 3 (cells u) (n+1) false),(2,.vec 3 (cells v) (m+1) false),(3,.vec 3 (cells o) (m+1) false)]
theorem oD {costs:List (List Int)} {n m k row a:Nat} {B:Int} {e:TypeId} {u v:List Int} {o:List Ix} {done:List Bool} {s0:pX} (hB:0≤B∧B≤1000000000000) (hl:costs.length=n) (hm:m≤1000) (hn:n≤1000) (hr:1≤row∧row≤n) (hrl:(gi costs (row-1)).length=m) (SS:∀ j,0≤gi (gi costs (row-1)) j∧gi (gi costs (row-1)) j≤B)
 (hu:u.length=n+1) (hv:v.length=m+1) (hd9:done.length=m+1) (h1:s0.least.length=m+1) (h2:s0.way.length=m+1) (hu9:0≤gi u row∧gi u row≤B) (hv9:∀ j,1≤j→j≤m→-B≤gi v j∧gi v j≤0) :
 Ad env 0 (YC Tryz.f72 14) (kD e costs n m k row a s0 0) (jX n m u v o done s0) 8 (fun ex L' H' nx'=>ex=.exit 4∧VI L' H' nx' (kD e costs n m k row a (JZ (gi costs (row-1)) (gi u row) v done a s0 m) m) (jX n m u v o done (JZ (gi costs (row-1)) (gi u row) v done a s0 m)) 8):=by
 have hs1:EW .sub .i64 (row:Int) 1=some (.int .i64 ((row-1:Nat):Int)):=by
  simp only [EW]
  rw [wrap_i64 (by omega)]
  congr 2;omega
 show Ad env 0 (Code.loop _) _ _ _ _
 refine Ad.Fq m (kD e costs n m k row a s0 0 |>.drop 3) (jX n m u v o done s0 |>.drop 2) (fun j _=>kD e costs n m k row a (JZ (gi costs (row-1)) (gi u row) v done a s0 j) j) (fun j _=>jX n m u v o done (JZ (gi costs (row-1)) (gi u row) v done a s0 j)) 8 (by omega) (Nat.le_refl _) ?_ ?_ ?_ ?_
 ·repeat (first|exact Ae.nil|refine Ae.same trivial rfl ?_|refine Ae.same (Ac rfl) rfl ?_|refine Ae.same ⟨trivial,Ac rfl,trivial⟩ rfl ?_|refine Ae.same ⟨trivial,Ac rfl,Ac rfl,trivial⟩ rfl ?_|refine Ae.same ⟨trivial,Ac rfl,Ac rfl,Ac rfl,trivial⟩ rfl ?_|refine Ae.same ⟨trivial,trivial⟩ rfl ?_|refine Ae.cons trivial rfl (.of_eq (Au (by simp<;>omega))) ?_)
 ·repeat (first|exact Aj.nil|(refine Aj.cons (Ac rfl) ?_ rfl ?_ ?_;(first|exact HB.Ak rfl|exact AU.Ah _ _|(simp [HB.under,AU.under,PV.under]));(first|exact Bo.refl _|exact Bo.vec (Bj.refl _) (by simp))))
 ·intro j hj
  have hI:=SA (row:=gi costs (row-1)) (ur:=gi u row) (v:=v) (done:=done) (a:=a) (s0:=s0) h1 h2 j (by omega)
  have eS2:JZ (gi costs (row-1)) (gi u row) v done a s0 (j+1)=KJ (gi costs (row-1)) (gi u row) v done a (JZ (gi costs (row-1)) (gi u row) v done a s0 j) (j+1):=rfl
  rw [eS2]
  generalize JZ (gi costs (row-1)) (gi u row) v done a s0 j=sc at *
  have n1:=hI.ll
  have n2:=hI.lw
  have hc1:=SS j
  have hv1:=hv9 (j+1) (by omega) (by omega)
  obtain ⟨C,hC⟩:∃ C,C=TS (gi costs (row-1)) (gi u row) v (j+1):=⟨_,rfl⟩
  have hC':C=gi (gi costs (row-1)) j-gi u row-gi v (j+1):=hC
  have hCv:EW .sub .i64 (gi (gi costs (row-1)) j-gi u row) (gi v (j+1))=some (.int .i64 C):=by
   rw [hC']
   simp only [EW]
   rw [wrap_i64 (by omega)]
  have hs2:EW .sub .i64 ((j+1:Nat):Int) 1=some (.int .i64 (j:Int)):=by
   simp only [EW]
   rw [wrap_i64 (by omega)]
   congr 2;omega
  clear hI SS hv9 eS2
  by_cases hd:gi done (j+1)=true
  ·have e9:KJ (gi costs (row-1)) (gi u row) v done a sc (j+1)=sc:=if_pos hd
   rw [e9]
   repeat' (first|apply Ad.assoc|apply Ad.AB|apply Ad.region|apply Ad.Aq|apply Ad.AY|apply Ad.Ai|apply AO.normal|apply AL.exit|apply Ag.nil|apply Ag.one|(apply Aa.Dn;rfl;rfl;(first|omega|(simp only [MV]<;>omega));exact congrArg (fun b=>some (FV.bool b)) (hd))|(apply Aa.assign;rfl)|(apply Aa.move;rfl)|(apply Aa.Bq;rfl;rfl;omega)|(apply Aa.int;rfl;rfl;rfl)|(apply Aa.Dj;rfl;rfl;rfl;rfl;omega)|(apply Ad.Bc;rfl)|(apply Ad.Af;rfl)|(intro _;try (exfalso;omega)))
   all_goals try (exfalso;omega)
   refine Az.normal ⟨by first|omega|decide,?_,?_⟩
   ·repeat (first|exact Ae.nil|refine Ae.same trivial rfl ?_|refine Ae.same (Ac rfl) rfl ?_|refine Ae.same ⟨trivial,Ac rfl,trivial⟩ rfl ?_|refine Ae.same ⟨trivial,Ac rfl,Ac rfl,trivial⟩ rfl ?_|refine Ae.same ⟨trivial,Ac rfl,Ac rfl,Ac rfl,trivial⟩ rfl ?_|refine Ae.same ⟨trivial,trivial⟩ rfl ?_|refine Ae.cons trivial rfl (.of_eq (Au (by simp<;>omega))) ?_)
   ·repeat (first|exact Aj.nil|(refine Aj.cons (Ac rfl) ?_ rfl ?_ ?_;(first|exact HB.Ak rfl|exact AU.Ah _ _|(simp [HB.under,AU.under,PV.under]));(first|exact Bo.refl _|exact Bo.vec (Bj.refl _) (by simp))))
  ·have hd':gi done (j+1)=false:=by cases h:gi done (j+1)<;>simp_all
   by_cases h1:C<gi sc.least (j+1)
   ·have hld:gi (sc.least.set (j+1) C) (j+1)=C:=by rw [gs (by omega),if_pos rfl]
    by_cases h2:C<sc.delta
    ·have e9:KJ (gi costs (row-1)) (gi u row) v done a sc (j+1)=⟨sc.least.set (j+1) C,sc.way.set (j+1) ⟨a⟩,C,j+1⟩:=by
      unfold KJ
      rw [← hC,if_neg hd,if_pos h1,if_pos h2]
     rw [e9]
     repeat' (first|apply Ad.assoc|apply Ad.AB|apply Ad.BD|apply Ad.region|apply Ad.Aq|apply Ad.Ai|apply AO.normal|apply AL.normal|apply Ag.nil|apply Ap.nil|apply Ag.one|(apply Ap.bar;decide +kernel)|apply Ap.quiet|(apply Aa.Dn;rfl;rfl;(first|omega|(simp only [MV]<;>omega));exact congrArg (fun b=>some (FV.bool b)) (hd'))|(apply Aa.AX (l:=costs);rfl;rfl;rfl;omega;exact hl)|(apply Aa.int;rfl;rfl;exact hs1)|(apply Aa.int;rfl;rfl;exact hs2)|(apply Aa.int;rfl;rfl;exact hCv)|(apply Aa.D9 (y:=C);rfl;rfl;rfl;trivial;(first|rfl|(refine congrArg (fun t=>[PV.p (FV.int _ t)]) ?_;first|omega|(simp only [Int.natCast_add,Int.natCast_mul,Int.natCast_ediv,Int.natCast_emod]<;>omega)));rfl;rfl;decide;(first|omega|(simp only [List.length_set]<;>omega)))|(apply Aa.D9 (y:=(⟨a⟩:Ix));rfl;rfl;rfl;trivial;(first|rfl|(refine congrArg (fun t=>[PV.p (FV.int _ t)]) ?_;first|omega|(simp only [Int.natCast_add,Int.natCast_mul,Int.natCast_ediv,Int.natCast_emod]<;>omega)));rfl;rfl;decide;(first|omega|(simp only [List.length_set]<;>omega)))|(apply Aa.Dn;rfl;rfl;(first|omega|(simp only [List.length_set]<;>omega));exact congrArg (fun b=>some (FV.int .i64 b)) (hld))|(apply Aa.assign;rfl)|(apply Aa.move;rfl)|(apply Aa.Bq;rfl;rfl;omega)|(apply Aa.Ij;rfl;rfl;omega)|(apply Aa.int;rfl;rfl;rfl)|(apply Aa.AX;rfl;rfl;rfl;omega;rfl)|(apply Aa.Dn;rfl;rfl;omega;rfl)|(apply Aa.load;rfl;rfl)|(apply Aa.Dj;rfl;rfl;rfl;rfl;omega)|(apply Ad.Ar;rfl)|(apply Ad.Af;rfl)|(apply Ad.Ba;rfl)|(intro _;try (exfalso;omega)))
     all_goals try (exfalso;omega)
     refine Az.normal ⟨by first|omega|decide,?_,?_⟩
     ·repeat (first|exact Ae.nil|refine Ae.same trivial rfl ?_|refine Ae.same (Ac rfl) rfl ?_|refine Ae.same ⟨trivial,Ac rfl,trivial⟩ rfl ?_|refine Ae.same ⟨trivial,Ac rfl,Ac rfl,trivial⟩ rfl ?_|refine Ae.same ⟨trivial,Ac rfl,Ac rfl,Ac rfl,trivial⟩ rfl ?_|refine Ae.same ⟨trivial,trivial⟩ rfl ?_|refine Ae.cons trivial rfl (.of_eq (Au (by simp<;>omega))) ?_)
     ·repeat (first|exact Aj.nil|(refine Aj.cons (Ac rfl) ?_ rfl ?_ ?_;(first|exact HB.Ak rfl|exact AU.Ah _ _|(simp [HB.under,AU.under,PV.under]));(first|exact Bo.refl _|exact Bo.vec (Bj.refl _) (by simp))))
    ·have e9:KJ (gi costs (row-1)) (gi u row) v done a sc (j+1)=⟨sc.least.set (j+1) C,sc.way.set (j+1) ⟨a⟩,sc.delta,sc.next⟩:=by
      unfold KJ
      rw [← hC,if_neg hd,if_pos h1,if_neg h2]
     rw [e9]
     repeat' (first|apply Ad.assoc|apply Ad.AB|apply Ad.BD|apply Ad.region|apply Ad.Aq|apply Ad.Ai|apply AO.normal|apply AL.normal|apply Ad.skip|apply Ag.nil|apply Ap.nil|apply Ag.one|(apply Ap.bar;decide +kernel)|apply Ap.quiet|(apply Aa.Dn;rfl;rfl;(first|omega|(simp only [MV]<;>omega));exact congrArg (fun b=>some (FV.bool b)) (hd'))|(apply Aa.AX (l:=costs);rfl;rfl;rfl;omega;exact hl)|(apply Aa.int;rfl;rfl;exact hs1)|(apply Aa.int;rfl;rfl;exact hs2)|(apply Aa.int;rfl;rfl;exact hCv)|(apply Aa.D9 (y:=C);rfl;rfl;rfl;trivial;(first|rfl|(refine congrArg (fun t=>[PV.p (FV.int _ t)]) ?_;first|omega|(simp only [Int.natCast_add,Int.natCast_mul,Int.natCast_ediv,Int.natCast_emod]<;>omega)));rfl;rfl;decide;(first|omega|(simp only [List.length_set]<;>omega)))|(apply Aa.D9 (y:=(⟨a⟩:Ix));rfl;rfl;rfl;trivial;(first|rfl|(refine congrArg (fun t=>[PV.p (FV.int _ t)]) ?_;first|omega|(simp only [Int.natCast_add,Int.natCast_mul,Int.natCast_ediv,Int.natCast_emod]<;>omega)));rfl;rfl;decide;(first|omega|(simp only [List.length_set]<;>omega)))|(apply Aa.Dn;rfl;rfl;(first|omega|(simp only [List.length_set]<;>omega));exact congrArg (fun b=>some (FV.int .i64 b)) (hld))|(apply Aa.assign;rfl)|(apply Aa.move;rfl)|(apply Aa.Bq;rfl;rfl;omega)|(apply Aa.Ij;rfl;rfl;omega)|(apply Aa.int;rfl;rfl;rfl)|(apply Aa.AX;rfl;rfl;rfl;omega;rfl)|(apply Aa.Dn;rfl;rfl;omega;rfl)|(apply Aa.load;rfl;rfl)|(apply Aa.Dj;rfl;rfl;rfl;rfl;omega)|(apply Ad.Ar;rfl)|(apply Ad.Af;rfl)|(apply Ad.Ba;rfl)|(intro _;try (exfalso;omega)))
     all_goals try (exfalso;omega)
     refine Az.normal ⟨by first|omega|decide,?_,?_⟩
     ·repeat (first|exact Ae.nil|refine Ae.same trivial rfl ?_|refine Ae.same (Ac rfl) rfl ?_|refine Ae.same ⟨trivial,Ac rfl,trivial⟩ rfl ?_|refine Ae.same ⟨trivial,Ac rfl,Ac rfl,trivial⟩ rfl ?_|refine Ae.same ⟨trivial,Ac rfl,Ac rfl,Ac rfl,trivial⟩ rfl ?_|refine Ae.same ⟨trivial,trivial⟩ rfl ?_|refine Ae.cons trivial rfl (.of_eq (Au (by simp<;>omega))) ?_)
     ·repeat (first|exact Aj.nil|(refine Aj.cons (Ac rfl) ?_ rfl ?_ ?_;(first|exact HB.Ak rfl|exact AU.Ah _ _|(simp [HB.under,AU.under,PV.under]));(first|exact Bo.refl _|exact Bo.vec (Bj.refl _) (by simp))))
   ·by_cases h2:gi sc.least (j+1)<sc.delta
    ·have e9:KJ (gi costs (row-1)) (gi u row) v done a sc (j+1)=⟨sc.least,sc.way,gi sc.least (j+1),j+1⟩:=by
      unfold KJ
      rw [← hC,if_neg hd,if_neg h1,if_pos h2]
     rw [e9]
     repeat' (first|apply Ad.assoc|apply Ad.AB|apply Ad.BD|apply Ad.region|apply Ad.Aq|apply Ad.Ai|apply AO.normal|apply AL.normal|apply Ag.nil|apply Ap.nil|apply Ag.one|(apply Ap.bar;decide +kernel)|apply Ap.quiet|(apply Aa.Dn;rfl;rfl;(first|omega|(simp only [MV]<;>omega));exact congrArg (fun b=>some (FV.bool b)) (hd'))|(apply Aa.AX (l:=costs);rfl;rfl;rfl;omega;exact hl)|(apply Aa.int;rfl;rfl;exact hs1)|(apply Aa.int;rfl;rfl;exact hs2)|(apply Aa.int;rfl;rfl;exact hCv)|(apply Aa.assign;rfl)|(apply Aa.move;rfl)|(apply Aa.Bq;rfl;rfl;omega)|(apply Aa.Ij;rfl;rfl;omega)|(apply Aa.int;rfl;rfl;rfl)|(apply Aa.AX;rfl;rfl;rfl;omega;rfl)|(apply Aa.Dn;rfl;rfl;omega;rfl)|(apply Aa.load;rfl;rfl)|(apply Aa.Dj;rfl;rfl;rfl;rfl;omega)|(apply Ad.Ar;rfl)|(apply Ad.Af;rfl)|(apply Ad.Ba;rfl)|(intro _;try (exfalso;omega)))
     all_goals try (exfalso;omega)
     refine Az.normal ⟨by first|omega|decide,?_,?_⟩
     ·repeat (first|exact Ae.nil|refine Ae.same trivial rfl ?_|refine Ae.same (Ac rfl) rfl ?_|refine Ae.same ⟨trivial,Ac rfl,trivial⟩ rfl ?_|refine Ae.same ⟨trivial,Ac rfl,Ac rfl,trivial⟩ rfl ?_|refine Ae.same ⟨trivial,Ac rfl,Ac rfl,Ac rfl,trivial⟩ rfl ?_|refine Ae.same ⟨trivial,trivial⟩ rfl ?_|refine Ae.cons trivial rfl (.of_eq (Au (by simp<;>omega))) ?_)
     ·repeat (first|exact Aj.nil|(refine Aj.cons (Ac rfl) ?_ rfl ?_ ?_;(first|exact HB.Ak rfl|exact AU.Ah _ _|(simp [HB.under,AU.under,PV.under]));(first|exact Bo.refl _|exact Bo.vec (Bj.refl _) (by simp))))
    ·have e9:KJ (gi costs (row-1)) (gi u row) v done a sc (j+1)=sc:=by
      unfold KJ
      rw [← hC,if_neg hd,if_neg h1,if_neg h2]
     rw [e9]
     repeat' (first|apply Ad.assoc|apply Ad.AB|apply Ad.BD|apply Ad.region|apply Ad.Aq|apply Ad.Ai|apply AO.normal|apply AL.normal|apply Ad.skip|apply Ag.nil|apply Ap.nil|apply Ag.one|(apply Ap.bar;decide +kernel)|apply Ap.quiet|(apply Aa.Dn;rfl;rfl;(first|omega|(simp only [MV]<;>omega));exact congrArg (fun b=>some (FV.bool b)) (hd'))|(apply Aa.AX (l:=costs);rfl;rfl;rfl;omega;exact hl)|(apply Aa.int;rfl;rfl;exact hs1)|(apply Aa.int;rfl;rfl;exact hs2)|(apply Aa.int;rfl;rfl;exact hCv)|(apply Aa.assign;rfl)|(apply Aa.move;rfl)|(apply Aa.Bq;rfl;rfl;omega)|(apply Aa.Ij;rfl;rfl;omega)|(apply Aa.int;rfl;rfl;rfl)|(apply Aa.AX;rfl;rfl;rfl;omega;rfl)|(apply Aa.Dn;rfl;rfl;omega;rfl)|(apply Aa.load;rfl;rfl)|(apply Aa.Dj;rfl;rfl;rfl;rfl;omega)|(apply Ad.Ar;rfl)|(apply Ad.Af;rfl)|(apply Ad.Ba;rfl)|(intro _;try (exfalso;omega)))
     all_goals try (exfalso;omega)
     refine Az.normal ⟨by first|omega|decide,?_,?_⟩
     ·repeat (first|exact Ae.nil|refine Ae.same trivial rfl ?_|refine Ae.same (Ac rfl) rfl ?_|refine Ae.same ⟨trivial,Ac rfl,trivial⟩ rfl ?_|refine Ae.same ⟨trivial,Ac rfl,Ac rfl,trivial⟩ rfl ?_|refine Ae.same ⟨trivial,Ac rfl,Ac rfl,Ac rfl,trivial⟩ rfl ?_|refine Ae.same ⟨trivial,trivial⟩ rfl ?_|refine Ae.cons trivial rfl (.of_eq (Au (by simp<;>omega))) ?_)
     ·repeat (first|exact Aj.nil|(refine Aj.cons (Ac rfl) ?_ rfl ?_ ?_;(first|exact HB.Ak rfl|exact AU.Ah _ _|(simp [HB.under,AU.under,PV.under]));(first|exact Bo.refl _|exact Bo.vec (Bj.refl _) (by simp))))
 ·repeat' (first|apply Ad.assoc|apply Ad.AB|apply Ad.AY|apply Az.exit|apply Ag.nil|apply Ag.one|(apply Aa.move;rfl)|(apply Aa.int;rfl;rfl;rfl)|(apply Ad.Af;rfl)|(intro _;try (exfalso;omega)))
  all_goals try (exfalso;omega)
  refine ⟨rfl,⟨Nat.le_refl _,?_,?_⟩⟩
  ·repeat (first|exact Ae.nil|refine Ae.same trivial rfl ?_|refine Ae.same (Ac rfl) rfl ?_|refine Ae.same ⟨trivial,Ac rfl,trivial⟩ rfl ?_|refine Ae.same ⟨trivial,Ac rfl,Ac rfl,trivial⟩ rfl ?_|refine Ae.same ⟨trivial,Ac rfl,Ac rfl,Ac rfl,trivial⟩ rfl ?_|refine Ae.same ⟨trivial,trivial⟩ rfl ?_|refine Ae.cons trivial rfl (.of_eq (Au (by simp<;>omega))) ?_)
  ·repeat (first|exact Aj.nil|(refine Aj.cons (Ac rfl) ?_ rfl ?_ ?_;(first|exact HB.Ak rfl|exact AU.Ah _ _|(simp [HB.under,AU.under,PV.under]));(first|exact Bo.refl _|exact Bo.vec (Bj.refl _) (by simp))))
end Go.Proofs.YtdabojnmoejilaaGreatDoor
namespace Go.Proofs.YtdabojnmoejilaaGreatDoor
open Go Go.Am Go.Vm Go.Hun
attribute [local irreducible] Aa Ag Ap Ad BA AV CS AO AL Az Vm.Done Df Bh
def Zk (e:TypeId) (costs:List (List Int)) (n m k:Nat) (d:Int) (nxt:Nat) (j:Nat):Vm.Frame :=
 [(120,.p (.int .i64 (j:Int))),(0,.p (.lst e (cells costs) n)),(2,.ref 0 0),(3,.p (.int .i64 (n:Int))),(4,.p (.int .i64 (m:Int))),(5,.vec 1 (n+1) 0 (n+1)),(6,.vec 2 (m+1) 0 (m+1)),(7,.vec 3 (m+1) 0 (m+1)),(8,.vec 4 (m+1) 0 (m+1)),(9,.p (.int .i64 ((k+1:Nat):Int))),(11,.vec 6 (m+1) 0 (m+1)),(12,.vec 7 (m+1) 0 (m+1)),(14,.p (.int .i64 d)),(15,.p (.int .i64 (nxt:Int))),(119,.p (.int .i64 ((m+1:Nat):Int)))]
def YD (n m:Nat) (o way:List Ix) (done:List Bool) (t:wK):Vm.Heap :=
 [(1,.vec 3 (cells t.u) (n+1) false),(2,.vec 3 (cells t.v) (m+1) false),(6,.vec 3 (cells t.least) (m+1) false),(0,yI),(3,.vec 3 (cells o) (m+1) false),(4,.vec 3 (cells way) (m+1) false),(7,.vec 4 (cells done) (m+1) false)]
theorem jT {costs:List (List Int)} {n m k nxt:Nat} {d:Int} {e:TypeId} {o way:List Ix} {done:List Bool} {t0:wK} (hd:0≤d∧d≤1000000000000) (hm:m≤1000) (hn:n≤1000) (hu:t0.u.length=n+1) (hv:t0.v.length=m+1) (hl:t0.least.length=m+1) (ho:o.length=m+1) (hD:done.length=m+1)
 (h1:∀ j,j≤m→gi done j=true→(gi o j).n<t0.u.length) (h2:∀ j i,j≤m→i≤m→gi done j=true→gi done i=true→(gi o j).n=(gi o i).n→j=i)
 (hub:∀ j,j≤m→gi done j=true→0≤gi t0.u (gi o j).n∧gi t0.u (gi o j).n≤1000000000000) (hvb:∀ j,j≤m→-2000000000000000≤gi t0.v j∧gi t0.v j≤0) (hlb:∀ j,j≤m→gi done j=false→0≤gi t0.least j∧gi t0.least j≤far) :
 Ad env 0 (YC Tryz.f72 23) (Zk e costs n m k d nxt 0) (YD n m o way done t0) 8 (fun ex L' H' nx'=>ex=.exit 6∧VI L' H' nx' (Zk e costs n m k d nxt (m+1)) (YD n m o way done (H7 o done d t0 (m+1))) 8):=by
 have hf:far=1152921504606846976:=rfl
 show Ad env 0 (Code.loop _) _ _ _ _
 refine Ad.Fq (m+1) (Zk e costs n m k d nxt 0 |>.drop 1) (YD n m o way done t0 |>.drop 3) (fun j _=>Zk e costs n m k d nxt j) (fun j _=>YD n m o way done (H7 o done d t0 j)) 8 (by omega) (Nat.le_refl _) ?_ ?_ ?_ ?_
 ·repeat (first|exact Ae.nil|refine Ae.same trivial rfl ?_|refine Ae.same (Ac rfl) rfl ?_|refine Ae.same ⟨trivial,Ac rfl,trivial⟩ rfl ?_|refine Ae.same ⟨trivial,Ac rfl,Ac rfl,trivial⟩ rfl ?_|refine Ae.same ⟨trivial,Ac rfl,Ac rfl,Ac rfl,trivial⟩ rfl ?_|refine Ae.same ⟨trivial,trivial⟩ rfl ?_|refine Ae.cons trivial rfl (.of_eq (Au (by simp<;>omega))) ?_)
 ·repeat (first|exact Aj.nil|(refine Aj.cons (Ac rfl) ?_ rfl ?_ ?_;(first|exact HB.Ak rfl|exact AU.Ah _ _|(simp [HB.under,AU.under,PV.under]));(first|exact Bo.refl _|exact Bo.vec (Bj.refl _) (by simp))))
 ·intro j hj
  have hI:=Go.Hun.JA (owner:=o) (done:=done) (delta:=d) (t:=t0) (m:=m) hv hl h1 h2 j (by omega)
  have eS2:H7 o done d t0 (j+1)=RX o done d (H7 o done d t0 j) j:=rfl
  rw [eS2]
  generalize H7 o done d t0 j=sc at *
  have n1:=hI.lu
  have n2:=hI.lv
  have n3:=hI.ll
  have hv1:=hvb j (by omega)
  have ev:gi sc.v j=gi t0.v j:=by rw [hI.v,if_neg (by omega)]
  by_cases hdj:gi done j=true
  ·have hu1:=hub j (by omega) hdj
   have hlt:=h1 j (by omega) hdj
   have eu:gi sc.u (gi o j).n=gi t0.u (gi o j).n:=hI.u0 _ fun i hi hi2 e=>by have:=h2 i j (by omega) (by omega) hi2 hdj e;omega
   have e9:RX o done d sc j=⟨sc.u.set (gi o j).n (gi sc.u (gi o j).n+d),sc.v.set j (gi sc.v j-d),sc.least⟩:=if_pos hdj
   rw [e9]
   clear hI hub hvb hlb h1 h2 eS2
   repeat' (first|apply Ad.AB|apply Ad.region|apply Ad.Aq|apply Ad.Ai|apply AO.normal|apply AL.normal|apply Ag.nil|apply Ag.one|(apply Aa.Dn;rfl;rfl;(first|omega|(simp only [MV]<;>omega));exact congrArg (fun b=>some (FV.bool b)) (hdj))|(apply Aa.D9 (y:=(gi sc.u (gi o j).n+d));rfl;rfl;rfl;trivial;(first|rfl|(refine congrArg (fun t=>[PV.p (FV.int _ t)]) ?_;first|omega|(simp only [Int.natCast_add,Int.natCast_mul,Int.natCast_ediv,Int.natCast_emod]<;>omega)));rfl;rfl;decide;(first|omega|(simp only [List.length_set]<;>omega)))|(apply Aa.D9 (y:=(gi sc.v j-d));rfl;rfl;rfl;trivial;(first|rfl|(refine congrArg (fun t=>[PV.p (FV.int _ t)]) ?_;first|omega|(simp only [Int.natCast_add,Int.natCast_mul,Int.natCast_ediv,Int.natCast_emod]<;>omega)));rfl;rfl;decide;(first|omega|(simp only [List.length_set]<;>omega)))|(apply Aa.assign;rfl)|(apply Aa.move;rfl)|(apply Aa.Bq;rfl;rfl;omega)|(apply Aa.Ij;rfl;rfl;omega)|(apply Aa.int;rfl;rfl;rfl)|(apply Aa.Dn;rfl;rfl;omega;rfl)|(apply Aa.Dj;rfl;rfl;rfl;rfl;omega)|(apply Ad.Af;rfl)|(apply Ad.cond_true;rfl)|(intro _;try (exfalso;omega)))
   all_goals try (exfalso;omega)
   refine Az.normal ⟨by first|omega|decide,?_,?_⟩
   ·repeat (first|exact Ae.nil|refine Ae.same trivial rfl ?_|refine Ae.same (Ac rfl) rfl ?_|refine Ae.same ⟨trivial,Ac rfl,trivial⟩ rfl ?_|refine Ae.same ⟨trivial,Ac rfl,Ac rfl,trivial⟩ rfl ?_|refine Ae.same ⟨trivial,Ac rfl,Ac rfl,Ac rfl,trivial⟩ rfl ?_|refine Ae.same ⟨trivial,trivial⟩ rfl ?_|refine Ae.cons trivial rfl (.of_eq (Au (by simp<;>omega))) ?_)
   ·repeat (first|exact Aj.nil|(refine Aj.cons (Ac rfl) ?_ rfl ?_ ?_;(first|exact HB.Ak rfl|exact AU.Ah _ _|(simp [HB.under,AU.under,PV.under]));(first|exact Bo.refl _|exact Bo.vec (Bj.refl _) (by simp))))
  ·have hdj':gi done j=false:=by cases h:gi done j<;>simp_all
   have hl1:=hlb j (by omega) hdj'
   have el:gi sc.least j=gi t0.least j:=by rw [hI.least,if_neg (by omega)]
   have e9:RX o done d sc j=⟨sc.u,sc.v,sc.least.set j (gi sc.least j-d)⟩:=if_neg hdj
   rw [e9]
   clear hI hub hvb hlb h1 h2 eS2
   repeat' (first|apply Ad.AB|apply Ad.region|apply Ad.Aq|apply Ad.Ai|apply AO.normal|apply AL.normal|apply Ag.nil|apply Ag.one|(apply Aa.Dn;rfl;rfl;(first|omega|(simp only [MV]<;>omega));exact congrArg (fun b=>some (FV.bool b)) (hdj'))|(apply Aa.D9 (y:=(gi sc.least j-d));rfl;rfl;rfl;trivial;(first|rfl|(refine congrArg (fun t=>[PV.p (FV.int _ t)]) ?_;first|omega|(simp only [Int.natCast_add,Int.natCast_mul,Int.natCast_ediv,Int.natCast_emod]<;>omega)));rfl;rfl;decide;(first|omega|(simp only [List.length_set]<;>omega)))|(apply Aa.assign;rfl)|(apply Aa.move;rfl)|(apply Aa.Bq;rfl;rfl;omega)|(apply Aa.Ij;rfl;rfl;omega)|(apply Aa.int;rfl;rfl;rfl)|(apply Aa.Dn;rfl;rfl;omega;rfl)|(apply Aa.Dj;rfl;rfl;rfl;rfl;omega)|(apply Ad.Af;rfl)|(apply Ad.cond_false;rfl)|(intro _;try (exfalso;omega)))
   all_goals try (exfalso;omega)
   refine Az.normal ⟨by first|omega|decide,?_,?_⟩
   ·repeat (first|exact Ae.nil|refine Ae.same trivial rfl ?_|refine Ae.same (Ac rfl) rfl ?_|refine Ae.same ⟨trivial,Ac rfl,trivial⟩ rfl ?_|refine Ae.same ⟨trivial,Ac rfl,Ac rfl,trivial⟩ rfl ?_|refine Ae.same ⟨trivial,Ac rfl,Ac rfl,Ac rfl,trivial⟩ rfl ?_|refine Ae.same ⟨trivial,trivial⟩ rfl ?_|refine Ae.cons trivial rfl (.of_eq (Au (by simp<;>omega))) ?_)
   ·repeat (first|exact Aj.nil|(refine Aj.cons (Ac rfl) ?_ rfl ?_ ?_;(first|exact HB.Ak rfl|exact AU.Ah _ _|(simp [HB.under,AU.under,PV.under]));(first|exact Bo.refl _|exact Bo.vec (Bj.refl _) (by simp))))
 ·repeat' (first|apply Ad.AB|apply Ad.AY|apply Az.exit|apply Ag.nil|apply Ag.one|(apply Aa.int;rfl;rfl;rfl)|(apply Ad.Af;rfl)|(intro _;try (exfalso;omega)))
  all_goals try (exfalso;omega)
  refine ⟨rfl,⟨Nat.le_refl _,?_,?_⟩⟩
  ·repeat (first|exact Ae.nil|refine Ae.same trivial rfl ?_|refine Ae.same (Ac rfl) rfl ?_|refine Ae.same ⟨trivial,Ac rfl,trivial⟩ rfl ?_|refine Ae.same ⟨trivial,Ac rfl,Ac rfl,trivial⟩ rfl ?_|refine Ae.same ⟨trivial,Ac rfl,Ac rfl,Ac rfl,trivial⟩ rfl ?_|refine Ae.same ⟨trivial,trivial⟩ rfl ?_|refine Ae.cons trivial rfl (.of_eq (Au (by simp<;>omega))) ?_)
  ·repeat (first|exact Aj.nil|(refine Aj.cons (Ac rfl) ?_ rfl ?_ ?_;(first|exact HB.Ak rfl|exact AU.Ah _ _|(simp [HB.under,AU.under,PV.under]));(first|exact Bo.refl _|exact Bo.vec (Bj.refl _) (by simp))))
def xg (e:TypeId) (costs:List (List Int)) (n m k:Nat) (a:Nat):Vm.Frame :=
 [(10,.p (.int .i64 (a:Int))),(0,.p (.lst e (cells costs) n)),(2,.ref 0 0),(3,.p (.int .i64 (n:Int))),(4,.p (.int .i64 (m:Int))),(5,.vec 1 (n+1) 0 (n+1)),(6,.vec 2 (m+1) 0 (m+1)),(7,.vec 3 (m+1) 0 (m+1)),(8,.vec 4 (m+1) 0 (m+1)),(9,.p (.int .i64 ((k+1:Nat):Int)))]
def yL (n m:Nat) (u v:List Int) (way o:List Ix):Vm.Heap :=
 [(3,.vec 3 (cells o) (m+1) false),(0,yI),(1,.vec 3 (cells u) (n+1) false),(2,.vec 3 (cells v) (m+1) false),(4,.vec 3 (cells way) (m+1) false)]
theorem vJ {costs:List (List Int)} {n m k U:Nat} {e:TypeId} {u v:List Int} {way:List Ix} {a:Aug} (hm:m≤1000) (hw:way.length=m+1) (hlen:∀ t,t≤U→(GK way a t).owner.length=m+1) (hgo:∀ t,t<U→(GK way a t).at_≠0) (hle:∀ t,t≤U→(GK way a t).at_≤m) (hfin:(GK way a U).at_=0) :
 Ad env 0 (YC Tryz.f72 31) (xg e costs n m k a.at_) (yL n m u v way a.owner) 5 (fun ex L' H' nx'=>ex=.exit 8∧VI L' H' nx' (xg e costs n m k 0) (yL n m u v way (GK way a U).owner) 5):=by
 show Ad env 0 (Code.loop _) _ _ _ _
 refine Ad.Fq U (xg e costs n m k a.at_ |>.drop 1) (yL n m u v way a.owner |>.drop 1) (fun t _=>xg e costs n m k (GK way a t).at_) (fun t _=>yL n m u v way (GK way a t).owner) 5 (by omega) (Nat.le_refl _) ?_ ?_ ?_ ?_
 ·repeat (first|exact Ae.nil|refine Ae.same trivial rfl ?_|refine Ae.same (Ac rfl) rfl ?_|refine Ae.same ⟨trivial,Ac rfl,trivial⟩ rfl ?_|refine Ae.same ⟨trivial,Ac rfl,Ac rfl,trivial⟩ rfl ?_|refine Ae.same ⟨trivial,Ac rfl,Ac rfl,Ac rfl,trivial⟩ rfl ?_|refine Ae.same ⟨trivial,trivial⟩ rfl ?_|refine Ae.cons trivial rfl (.of_eq (Au (by simp<;>omega))) ?_)
 ·repeat (first|exact Aj.nil|(refine Aj.cons (Ac rfl) ?_ rfl ?_ ?_;(first|exact HB.Ak rfl|exact AU.Ah _ _|(simp [HB.under,AU.under,PV.under]));(first|exact Bo.refl _|exact Bo.vec (Bj.refl _) (by simp))))
 ·intro t ht
  have h1:=hlen t (by omega)
  have h2:=hgo t ht
  have h3:=hle t (by omega)
  have h4:=hle (t+1) (by omega)
  have e1:GK way a (t+1)=⟨(GK way a t).owner.set (GK way a t).at_ (gi (GK way a t).owner (gi way (GK way a t).at_).n),(gi way (GK way a t).at_).n⟩:=rfl
  rw [e1] at h4 ⊢
  have h4:(gi way (GK way a t).at_).n≤m:=h4
  generalize GK way a t=x at *
  repeat' (first|apply Ad.assoc|apply Ad.AB|apply Ad.region|apply Ad.Aq|apply AL.normal|apply Ad.Iw|apply Ag.nil|apply Ag.one|(apply Aa.D9 (y:=(gi x.owner (gi way x.at_).n));rfl;rfl;rfl;trivial;(first|rfl|(refine congrArg (fun t=>[PV.p (FV.int _ t)]) ?_;first|omega|(simp only [Int.natCast_add,Int.natCast_mul,Int.natCast_ediv,Int.natCast_emod]<;>omega)));rfl;rfl;decide;(first|omega|(simp only [List.length_set]<;>omega)))|(apply Aa.assign;rfl)|(apply Aa.move;rfl)|(apply Aa.int;rfl;rfl;rfl)|(apply Aa.Dn;rfl;rfl;omega;rfl)|(apply Aa.Dj;rfl;rfl;rfl;rfl;omega)|(apply Ad.Af;rfl)|(intro _;try (exfalso;omega)))
  all_goals try (exfalso;omega)
  refine Az.normal ⟨by first|omega|decide,?_,?_⟩
  ·repeat (first|exact Ae.nil|refine Ae.same trivial rfl ?_|refine Ae.same (Ac rfl) rfl ?_|refine Ae.same ⟨trivial,Ac rfl,trivial⟩ rfl ?_|refine Ae.same ⟨trivial,Ac rfl,Ac rfl,trivial⟩ rfl ?_|refine Ae.same ⟨trivial,Ac rfl,Ac rfl,Ac rfl,trivial⟩ rfl ?_|refine Ae.same ⟨trivial,trivial⟩ rfl ?_|refine Ae.cons trivial rfl (.of_eq (Au (by simp<;>omega))) ?_)
  ·repeat (first|exact Aj.nil|(refine Aj.cons (Ac rfl) ?_ rfl ?_ ?_;(first|exact HB.Ak rfl|exact AU.Ah _ _|(simp [HB.under,AU.under,PV.under]));(first|exact Bo.refl _|exact Bo.vec (Bj.refl _) (by simp))))
 ·rw [hfin]
  repeat' (first|apply Ad.assoc|apply Ad.AB|apply Ad.AY|apply Az.exit|apply Ag.nil|apply Ag.one|(apply Aa.move;rfl)|(apply Aa.int;rfl;rfl;rfl)|(apply Ad.Ar;rfl))
  all_goals try (exfalso;omega)
  refine ⟨rfl,⟨Nat.le_refl _,?_,?_⟩⟩
  ·repeat (first|exact Ae.nil|refine Ae.same trivial rfl ?_|refine Ae.same (Ac rfl) rfl ?_|refine Ae.same ⟨trivial,Ac rfl,trivial⟩ rfl ?_|refine Ae.same ⟨trivial,Ac rfl,Ac rfl,trivial⟩ rfl ?_|refine Ae.same ⟨trivial,Ac rfl,Ac rfl,Ac rfl,trivial⟩ rfl ?_|refine Ae.same ⟨trivial,trivial⟩ rfl ?_|refine Ae.cons trivial rfl (.of_eq (Au (by simp<;>omega))) ?_)
  ·repeat (first|exact Aj.nil|(refine Aj.cons (Ac rfl) ?_ rfl ?_ ?_;(first|exact HB.Ak rfl|exact AU.Ah _ _|(simp [HB.under,AU.under,PV.under]));(first|exact Bo.refl _|exact Bo.vec (Bj.refl _) (by simp))))
def yH (e:TypeId) (costs:List (List Int)) (n m:Nat) (j:Nat):Vm.Frame :=
 [(20,.p (.int .i64 ((j+1:Nat):Int))),(0,.p (.lst e (cells costs) n)),(2,.ref 0 0),(4,.p (.int .i64 (m:Int))),(7,.vec 3 (m+1) 0 (m+1)),(19,.ref 6 0)]
def yw (n m:Nat) (U V:List Int) (o:List Ix) (x:Out):Vm.Heap :=
 [(5,.vec 3 (cells x.cols) n false),(6,.box 69 [.vec 5 n 0 n,.p (.int .i64 x.total),.p (.lst 3 (cells U) n),.p (.lst 3 (cells V) m)]),(0,yI),(3,.vec 3 (cells o) (m+1) false)]
theorem uf {costs:List (List Int)} {n m:Nat} {e:TypeId} {U V:List Int} {o:List Ix} (hm:m≤1000) (hn:n≤1000) (hl:costs.length=n) (hrow:∀ r,r<n→(gi costs r).length=m) (ho:o.length=m+1) (hle:∀ j,1≤j→j≤m→(gi o j).n≤n) (hlen:∀ j,j≤m→(KC costs o n j).cols.length=n)
 (SS:∀ r j,0≤gi (gi costs r) j∧gi (gi costs r) j≤1000000000000) (htot:∀ j,j≤m→0≤(KC costs o n j).total∧(KC costs o n j).total≤1000000000000000) :
 Ad env 0 (YC Tryz.f72 36) (yH e costs n m 0) (yw n m U V o (KC costs o n 0)) 7 (fun ex L' H' nx'=>ex=.exit 10∧VI L' H' nx' (yH e costs n m m) (yw n m U V o (KC costs o n m)) 7):=by
 show Ad env 0 (Code.loop _) _ _ _ _
 refine Ad.Fq m (yH e costs n m 0 |>.drop 1) (yw n m U V o (KC costs o n 0) |>.drop 2) (fun j _=>yH e costs n m j) (fun j _=>yw n m U V o (KC costs o n j)) 7 (by omega) (Nat.le_refl _) ?_ ?_ ?_ ?_
 ·repeat (first|exact Ae.nil|refine Ae.same trivial rfl ?_|refine Ae.same (Ac rfl) rfl ?_|refine Ae.same ⟨trivial,Ac rfl,trivial⟩ rfl ?_|refine Ae.same ⟨trivial,Ac rfl,Ac rfl,trivial⟩ rfl ?_|refine Ae.same ⟨trivial,Ac rfl,Ac rfl,Ac rfl,trivial⟩ rfl ?_|refine Ae.same ⟨trivial,trivial⟩ rfl ?_|refine Ae.cons trivial rfl (.of_eq (Au (by simp<;>omega))) ?_)
 ·repeat (first|exact Aj.nil|(refine Aj.cons (Ac rfl) ?_ rfl ?_ ?_;(first|exact HB.Ak rfl|exact AU.Ah _ _|(simp [HB.under,AU.under,PV.under]));(first|exact Bo.refl _|exact Bo.vec (Bj.refl _) (by simp))))
 ·intro j hj
  have h1:=hlen j (by omega)
  have h2:=htot j (by omega)
  have h3:=hle (j+1) (by omega) (by omega)
  have e1:KC costs o n (j+1)=pO costs o (KC costs o n j) (j+1):=rfl
  rw [e1]
  generalize KC costs o n j=x at *
  by_cases hp:0<(gi o (j+1)).n
  ·have e9:pO costs o x (j+1)=⟨x.cols.set ((gi o (j+1)).n-1) (((j+1:Nat):Int)-1),x.total+gi (gi costs ((gi o (j+1)).n-1)) j⟩:=if_pos hp
   rw [e9]
   have hrl:=hrow ((gi o (j+1)).n-1) (by omega)
   have hc1:=SS ((gi o (j+1)).n-1) j
   have hs1:EW .sub .i64 ((gi o (j+1)).n:Int) 1=some (.int .i64 (((gi o (j+1)).n-1:Nat):Int)):=by
    simp only [EW]
    rw [wrap_i64 (by omega)]
    congr 2;omega
   have hs2:EW .sub .i64 ((j+1:Nat):Int) 1=some (.int .i64 (j:Int)):=by
    simp only [EW]
    rw [wrap_i64 (by omega)]
    congr 2;omega
   clear SS htot hlen hle e1
   repeat' (first|apply Ad.assoc|apply Ad.AB|apply Ad.region|apply Ad.FZ|apply Ad.Aq|apply Ad.Ai|apply AO.normal|apply AL.normal|apply Ag.nil|apply Ap.nil|apply Ag.one|(apply Ap.bar;decide +kernel)|apply Ap.quiet|(apply Aa.AX (l:=costs);rfl;rfl;rfl;omega;exact hl)|(apply Aa.int;rfl;rfl;exact hs1)|(apply Aa.int;rfl;rfl;exact hs2)|(apply Aa.D9 (y:=(((j+1:Nat):Int)-1));rfl;rfl;rfl;trivial;(first|rfl|(refine congrArg (fun t=>[PV.p (FV.int _ t)]) ?_;first|omega|(simp only [Int.natCast_add,Int.natCast_mul,Int.natCast_ediv,Int.natCast_emod]<;>omega)));rfl;rfl;decide;(first|omega|(simp only [List.length_set]<;>omega)))|(apply Aa.assign;rfl)|(apply Aa.move;rfl)|(apply Aa.Bq;rfl;rfl;omega)|(apply Aa.int;rfl;rfl;rfl)|(apply Aa.AX;rfl;rfl;rfl;omega;rfl)|(apply Aa.Dn;rfl;rfl;omega;rfl)|(apply Aa.load;rfl;rfl)|(apply Aa.AQ;rfl;rfl;rfl)|(apply Aa.Bl;rfl;rfl;rfl;trivial;rfl;rfl;exact Ac rfl;exact le_dec rfl)|(apply Aa.Dj;rfl;rfl;rfl;rfl;omega)|(apply Ad.Af;rfl)|(apply Ad.Ba;rfl)|(intro _;try (exfalso;omega)))
   all_goals try (exfalso;omega)
   refine Az.normal ⟨by first|omega|decide,?_,?_⟩
   ·repeat (first|exact Ae.nil|refine Ae.same trivial rfl ?_|refine Ae.same (Ac rfl) rfl ?_|refine Ae.same ⟨trivial,Ac rfl,trivial⟩ rfl ?_|refine Ae.same ⟨trivial,Ac rfl,Ac rfl,trivial⟩ rfl ?_|refine Ae.same ⟨trivial,Ac rfl,Ac rfl,Ac rfl,trivial⟩ rfl ?_|refine Ae.same ⟨trivial,trivial⟩ rfl ?_|refine Ae.cons trivial rfl (.of_eq (Au (by simp<;>omega))) ?_)
   ·repeat (first|exact Aj.nil|(refine Aj.cons (Ac rfl) ?_ rfl ?_ ?_;(first|exact HB.Ak rfl|exact AU.Ah _ _|(simp [HB.under,AU.under,PV.under]));(first|exact Bo.refl _|exact Bo.vec (Bj.refl _) (by simp))))
  ·have e9:pO costs o x (j+1)=x:=if_neg hp
   rw [e9]
   clear SS htot hlen hle e1
   repeat' (first|apply Ad.assoc|apply Ad.AB|apply Ad.region|apply Ad.Aq|apply Ad.Ai|apply AO.normal|apply AL.normal|apply Ad.skip|apply Ag.nil|apply Ag.one|(apply Aa.assign;rfl)|(apply Aa.move;rfl)|(apply Aa.Bq;rfl;rfl;omega)|(apply Aa.int;rfl;rfl;rfl)|(apply Aa.Dn;rfl;rfl;omega;rfl)|(apply Aa.Dj;rfl;rfl;rfl;rfl;omega)|(apply Ad.Af;rfl)|(apply Ad.Ba;rfl)|(intro _;try (exfalso;omega)))
   all_goals try (exfalso;omega)
   refine Az.normal ⟨by first|omega|decide,?_,?_⟩
   ·repeat (first|exact Ae.nil|refine Ae.same trivial rfl ?_|refine Ae.same (Ac rfl) rfl ?_|refine Ae.same ⟨trivial,Ac rfl,trivial⟩ rfl ?_|refine Ae.same ⟨trivial,Ac rfl,Ac rfl,trivial⟩ rfl ?_|refine Ae.same ⟨trivial,Ac rfl,Ac rfl,Ac rfl,trivial⟩ rfl ?_|refine Ae.same ⟨trivial,trivial⟩ rfl ?_|refine Ae.cons trivial rfl (.of_eq (Au (by simp<;>omega))) ?_)
   ·repeat (first|exact Aj.nil|(refine Aj.cons (Ac rfl) ?_ rfl ?_ ?_;(first|exact HB.Ak rfl|exact AU.Ah _ _|(simp [HB.under,AU.under,PV.under]));(first|exact Bo.refl _|exact Bo.vec (Bj.refl _) (by simp))))
 ·repeat' (first|apply Ad.assoc|apply Ad.AB|apply Ad.AY|apply Az.exit|apply Ag.nil|apply Ag.one|(apply Aa.move;rfl)|(apply Aa.int;rfl;rfl;rfl)|(apply Ad.Af;rfl)|(intro _;try (exfalso;omega)))
  all_goals try (exfalso;omega)
  refine ⟨rfl,⟨Nat.le_refl _,?_,?_⟩⟩
  ·repeat (first|exact Ae.nil|refine Ae.same trivial rfl ?_|refine Ae.same (Ac rfl) rfl ?_|refine Ae.same ⟨trivial,Ac rfl,trivial⟩ rfl ?_|refine Ae.same ⟨trivial,Ac rfl,Ac rfl,trivial⟩ rfl ?_|refine Ae.same ⟨trivial,Ac rfl,Ac rfl,Ac rfl,trivial⟩ rfl ?_|refine Ae.same ⟨trivial,trivial⟩ rfl ?_|refine Ae.cons trivial rfl (.of_eq (Au (by simp<;>omega))) ?_)
  ·repeat (first|exact Aj.nil|(refine Aj.cons (Ac rfl) ?_ rfl ?_ ?_;(first|exact HB.Ak rfl|exact AU.Ah _ _|(simp [HB.under,AU.under,PV.under]));(first|exact Bo.refl _|exact Bo.vec (Bj.refl _) (by simp))))
end Go.Proofs.YtdabojnmoejilaaGreatDoor
namespace Go.Proofs.YtdabojnmoejilaaGreatDoor
open Go Go.Am Go.Vm Go.Hun
attribute [local irreducible] Aa Ag Ap Ad BA AV CS AO AL Az Vm.Done Df Bh
def a1n (costs:List (List Int)) (n m:Nat):PV:=.agg [.vec 5 n 0 n,.p (.int .i64 (Gq costs n m).total),.p (.lst 3 (cells (Jp costs n m)) n),.p (.lst 3 (cells (GZ costs n m)) m)]
theorem dY {costs:List (List Int)} {n m:Nat} {B:Int} (e:TypeId) (hc:Ih costs n m B) (hl:costs.length=n) (hrow:∀ r,r<n→(gi costs r).length=m) (hn:1≤n) (hm:m≤1000) :
 BA env 72 [.p (.lst e (cells costs) n)] [] 0 fun r H' nx'=>r=a1n costs n m∧H'=[(5,.vec 3 (cells (Gq costs n m).cols) n false)]∧nx'=6:=by
 have Xt:AV env 69 [.lst e (cells costs) n] (.p (.int .i64 (m:Int))):=by
  have:=Ld e costs (by have:=hc.nm;omega)
  rw [hl] at this
  rwa [show tJ costs=m from hrow 0 (by omega)] at this
 have hnm:=hc.nm
 have hB:=hc.big
 refine BA.enter (AA (by decide)) Tryz.func72 rfl (by kernel_rfl) (by simp [Tryz.ntmps72]) ?_
 repeat' (first|apply Ad.assoc|apply Ad.AB|apply Ad.BD|apply Ad.Ai|apply Ag.nil|apply Ap.nil|apply Ag.one|(apply Ap.bar;decide +kernel)|apply Ap.quiet|(apply Aa.fn;rfl;rfl;exact Xt;intro _;rfl)|(apply Aa.Eh (n+1) (0:Int);rfl;rfl;rfl;rfl;rfl;omega;omega;omega;decide;decide;rfl)|(apply Aa.Eh (dst:=some 34) (m+1) (⟨0⟩:Ix);rfl;rfl;rfl;rfl;rfl;omega;omega;omega;decide;decide;rfl)|(apply Aa.Eh (dst:=some 37) (m+1) (⟨0⟩:Ix);rfl;rfl;rfl;rfl;rfl;omega;omega;omega;decide;decide;rfl)|(apply Aa.Eh (m+1) (0:Int);rfl;rfl;rfl;rfl;rfl;omega;omega;omega;decide;decide;rfl)|(apply Aa.assign;rfl)|(apply Aa.move;rfl)|(apply Aa.Bq;rfl;rfl;omega)|(apply Aa.BF;rfl;rfl)|(apply Aa.alloc;rfl))
 apply Ad.Fq (n) [(0,_),(2,_),(3,_),(4,_),(5,_),(6,_),(7,_),(8,_)] [(0,_)] (fun k r=>(9,.p (.int .i64 ((k+1:Nat):Int)))::r) (fun k r=>(1,.vec 3 (cells (Dc costs n m k).u) (n+1) false)::(2,.vec 3 (cells (Dc costs n m k).v) (m+1) false)::(3,.vec 3 (cells (Dc costs n m k).owner) (m+1) false)::(4,.vec 3 (cells (Dc costs n m k).way) (m+1) false)::r) 5
 ·first|omega|decide
 ·first|omega|decide
 ·repeat (first|exact Ae.nil|(refine Ae.eq rfl ?_ ?_;(first|exact PV.Ak rfl|(simp [PV.under,AU.under];done)))|refine Ae.cons trivial rfl (.of_eq (Au (by simp<;>omega))) ?_)
 ·repeat (first|exact Aj.nil|(refine Aj.eq rfl (Ac rfl) ?_ ?_;(first|exact HB.Ak rfl|exact AU.Ah _ _|(simp [HB.under,AU.under,PV.under];done)))|(refine Aj.cons (Ac rfl) ?_ rfl ?_ ?_;(first|exact trivial|exact AU.Ah _ _|(simp [HB.under,AU.under,PV.under]));(first|exact Bo.refl _|exact Bo.vec (Bj.refl _) (by simp))))
 ·intro k hk
  have hS:=MZ hc k (by omega)
  have hS':=hS.step hc hk
  obtain ⟨hgo,hend,hT⟩:=YK hS hc hk
  have hgr:=OM hS hc hk
  have hback:=kL hS hc hk
  have hv0:=Y7 hS hc hk
  have b0h:=dF hc k (by omega)
  have ho:=Yf hS
  have eS:Dc costs n m (k+1)=Nv costs m (Dc costs n m k) (k+1):=rfl
  have l1:=hS.lu
  have l2:=hS.lv
  have l3:=hS.lo
  have l4:=hS.lw
  rw [eS]
  generalize Dc costs n m k=s at *
  repeat' (first|(refine Ap.atIdx 3 ?_;refine Ap.ghost (AZ.freeze 46 rfl rfl) ?_)|apply Ad.assoc|apply Ad.AB|apply Ad.BD|apply Ad.Aq|apply Ad.Ai|apply Ag.nil|apply Ap.nil|apply Ag.one|(apply Ap.bar;decide +kernel)|apply Ap.quiet|(apply Aa.D9 (y:=(⟨k+1⟩:Ix));rfl;rfl;rfl;trivial;(first|rfl|(refine congrArg (fun t=>[PV.p (FV.int _ t)]) ?_;first|omega|(simp only [Int.natCast_add,Int.natCast_mul,Int.natCast_ediv,Int.natCast_emod]<;>omega)));rfl;rfl;decide;(first|omega|(simp only [List.length_set]<;>omega)))|(apply Aa.fv;rfl;rfl;exact TY 3 far (m+1) (by omega) (by omega))|(apply Aa.Eh (m+1) false;rfl;rfl;rfl;rfl;rfl;omega;omega;omega;decide;decide;rfl)|(apply Aa.assign;rfl)|(apply Aa.move;rfl)|(apply Aa.Bq;rfl;rfl;omega)|(apply Aa.int;rfl;rfl;rfl)|(apply Aa.buildSlice;rfl;rfl;rfl;decide;rfl;rfl;rfl)|(apply Aa.kT;rfl;rfl;rfl;rfl;omega;omega)|(apply Ad.Af;rfl)|(intro _;try (exfalso;omega)))
  all_goals try (exfalso;omega)
  apply Ad.Fq (Xc costs m s (k+1)) [(0,_),(2,_),(3,_),(4,_),(5,_),(6,_),(7,_),(8,_),(9,_),(11,_),(12,_)] [(0,_)] (fun k_ r=>(10,.p (.int .i64 ((Ed costs (I5 s (k+1)) m (P5 m s) k_).at_:Int)))::r) (fun k_ r=>(1,.vec 3 (cells (Ed costs (I5 s (k+1)) m (P5 m s) k_).u) (n+1) false)::(2,.vec 3 (cells (Ed costs (I5 s (k+1)) m (P5 m s) k_).v) (m+1) false)::(3,.vec 3 (cells (I5 s (k+1))) (m+1) false)::(4,.vec 3 (cells (Ed costs (I5 s (k+1)) m (P5 m s) k_).way) (m+1) false)::(6,.vec 3 (cells (Ed costs (I5 s (k+1)) m (P5 m s) k_).least) (m+1) false)::(7,.vec 4 (cells (Ed costs (I5 s (k+1)) m (P5 m s) k_).done) (m+1) false)::r) 8
  ·first|omega|decide
  ·first|omega|decide
  ·repeat (first|exact Ae.nil|(refine Ae.eq rfl ?_ ?_;(first|exact PV.Ak rfl|(simp [PV.under,AU.under];done)))|refine Ae.cons trivial rfl (.of_eq (Au (by simp<;>omega))) ?_)
  ·repeat (first|exact Aj.nil|(refine Aj.eq rfl (Ac rfl) ?_ ?_;(first|exact HB.Ak rfl|exact AU.Ah _ _|(simp [HB.under,AU.under,PV.under];done)))|(refine Aj.cons (Ac rfl) ?_ rfl ?_ ?_;(first|exact trivial|exact AU.Ah _ _|(simp [HB.under,AU.under,PV.under]));(first|exact Bo.refl _|exact Bo.vec (Bj.refl _) (by simp))))
  ·intro t ht
   have hg:=hgr t fun p hp=>hgo p (by omega)
   have hr:=hgo t ht
   have hR:=Jv hg hc ho hk hr
   have hSh:=Na hg hc ho hk hr
   have hpre:=Yt hg hc ho hk hr
   have hub:∀ r,1≤r→r≤k+1→gi (Ed costs (I5 s (k+1)) m (P5 m s) t).u r≤B:=fun r r1 r2=>hg.ule hc ho (by omega) r1 r2
   have hvb:∀ j,1≤j→j≤m→-B≤gi (Ed costs (I5 s (k+1)) m (P5 m s) t).v j:=fun j j1 j2=>hg.vge hc ho (by omega) j1 j2
   have b0v:=hv0 t fun p hp=>hgo p (by omega)
   have eG:Ed costs (I5 s (k+1)) m (P5 m s) (t+1)=Gm costs (I5 s (k+1)) m (Ed costs (I5 s (k+1)) m (P5 m s) t):=rfl
   have hat:Mc costs m k s t=(Ed costs (I5 s (k+1)) m (P5 m s) t).at_:=rfl
   have hle:=hg.le t (Nat.le_refl _)
   rw [hat] at hr hle
   rw [eG]
   generalize Ed costs (I5 s (k+1)) m (P5 m s) t=g at *
   have a3h:=ho.lt hle
   have lo:=ho.len
   generalize I5 s (k+1)=o at *
   obtain ⟨row,hrw⟩:∃ row,row=(gi o g.at_).n:=⟨_,rfl⟩
   have hr1:1≤row:=by have:(gi o g.at_).n≠0:=hr;omega
   have hr2:row≤k+1:=by rw [hrw];exact a3h
   have m1:=hg.lu
   have m2:=hg.lv
   have m3:=hg.lw
   have m4:=hg.ll
   have m5:=hg.ld
   have eR:Gm costs o m g=⟨(H7 o (CO g) (DK costs o m g).delta ⟨g.u,g.v,(DK costs o m g).least⟩ (m+1)).u,(H7 o (CO g) (DK costs o m g).delta ⟨g.u,g.v,(DK costs o m g).least⟩ (m+1)).v,(DK costs o m g).way,(H7 o (CO g) (DK costs o m g).delta ⟨g.u,g.v,(DK costs o m g).least⟩ (m+1)).least,CO g,(DK costs o m g).next⟩:=rfl
   rw [eR]
   have hD9:(CO g).length=m+1:=by unfold CO;rw [List.length_set,m5]
   have hrl:(gi costs ((gi o g.at_).n-1)).length=m:=hrow _ (by omega)
   have SS:∀ j,0≤gi (gi costs ((gi o g.at_).n-1)) j∧gi (gi costs ((gi o g.at_).n-1)) j≤B:=fun j=>⟨hc.lo (gi o g.at_).n (j+1),hc.hi (gi o g.at_).n (j+1)⟩
   have hu0:=hg.Ur (gi o g.at_).n (by omega) (by omega)
   have hu1:=hub (gi o g.at_).n (by omega) (by omega)
   have hs1:EW .sub .i64 ((gi o g.at_).n:Int) 1=some (.int .i64 (((gi o g.at_).n-1:Nat):Int)):=by
    simp only [EW]
    rw [wrap_i64 (by omega)]
    congr 2;omega
   have hdn:∀ j,j≤m→gi (CO g) j=true→1≤(gi o j).n∧(gi o j).n≤k+1:=fun j hj hd=>by
    obtain ⟨p,p1,p2⟩:=(hR.doneD j).1 hd
    have h1:=ho.lt hj
    refine ⟨?_,h1⟩
    rcases Nat.lt_or_ge p t with h|h
    ·have:=hg.pI p h
     rw [p2] at this
     unfold Hun.own at this
     omega
    ·obtain rfl:p=t:=by omega
     have h2:=hr
     rw [← hat,p2] at h2
     unfold Hun.own at h2
     omega
   clear hs1
   have hkB:(k:Int)*B≤1000*1000000000000:=Int.mul_le_mul (by omega) hB.2 hB.1 (by omega)
   repeat' (first|apply Ad.assoc|apply Ad.AB|apply Ad.Aq|apply Ad.Ai|apply Ad.Iw|apply Ag.nil|apply Ag.one|(apply Aa.D9 (y:=true);rfl;rfl;rfl;trivial;(first|rfl|(refine congrArg (fun t=>[PV.p (FV.int _ t)]) ?_;first|omega|(simp only [Int.natCast_add,Int.natCast_mul,Int.natCast_ediv,Int.natCast_emod]<;>omega)));rfl;rfl;decide;(first|omega|(simp only [List.length_set]<;>omega)))|(apply Aa.assign;rfl)|(apply Aa.move;rfl)|(apply Aa.int;rfl;rfl;rfl)|(apply Aa.Dn;rfl;rfl;omega;rfl)|(apply Aa.Dj;rfl;rfl;rfl;rfl;omega)|(apply Ad.Af;rfl)|(intro _;try (exfalso;omega)))
   all_goals try (exfalso;omega)
   refine Ad.blk (oD (e:=e) (k:=k) (row:=(gi o g.at_).n) (a:=g.at_) (u:=g.u) (v:=g.v) (o:=o) (done:=CO g) (s0:=⟨g.least,g.way,far,0⟩) hB hl hm (by omega) ⟨by omega,by omega⟩ hrl SS m1 m2 hD9 m4 m3 ⟨hu0,hu1⟩ fun j j1 j2=>⟨hvb j j1 j2,hg.ZF j j1 j2⟩) (by omega) (by omega) ?_ ?_ ?_
   ·repeat (first|exact Ae.nil|refine Ae.same trivial rfl ?_|refine Ae.same (Ac rfl) rfl ?_|refine Ae.same ⟨trivial,Ac rfl,trivial⟩ rfl ?_|refine Ae.same ⟨trivial,Ac rfl,Ac rfl,trivial⟩ rfl ?_|refine Ae.same ⟨trivial,Ac rfl,Ac rfl,Ac rfl,trivial⟩ rfl ?_|refine Ae.same ⟨trivial,trivial⟩ rfl ?_|refine Ae.cons trivial rfl (.of_eq (Au (by simp<;>omega))) ?_)
   ·repeat (first|exact Aj.nil|(refine Aj.cons (Ac rfl) ?_ rfl ?_ ?_;(first|exact HB.Ak rfl|exact AU.Ah _ _|(simp [HB.under,AU.under,PV.under]));(first|exact Bo.refl _|exact Bo.vec (Bj.refl _) (by simp))))
   ·have eC:JZ (gi costs ((gi o g.at_).n-1)) (gi g.u (gi o g.at_).n) g.v (CO g) g.at_ ⟨g.least,g.way,far,0⟩ m=DK costs o m g:=rfl
    rw [eC]
    generalize DK costs o m g=sc at *
    have n1:=hR.ll
    have n2:=hR.lw
    repeat' (first|apply Ad.assoc|apply Ad.AB|apply Ad.Ai|apply AO.normal|apply AL.exit|apply Ag.nil|apply Ag.one|(apply Aa.move;rfl)|(apply Aa.lenV;rfl;rfl;rfl))
    all_goals try (exfalso;omega)
    refine Ad.blk (jT (e:=e) (costs:=costs) (k:=k) (nxt:=sc.next) (o:=o) (way:=sc.way) (done:=CO g) (t0:=⟨g.u,g.v,sc.least⟩) ⟨hR.d0,by have:=hR.dB;omega⟩ hm (by omega) m1 m2 n1 lo hD9 hpre.1 hpre.2 (fun j hj hd=>?_) (fun j hj=>?_) (fun j hj hd=>?_)) (by omega) (by omega) ?_ ?_ ?_
    ·have:=hdn j hj hd
     exact ⟨hg.Ur _ this.1 this.2,Int.le_trans (hub _ this.1 this.2) hB.2⟩
    ·show -2000000000000000≤gi g.v j∧gi g.v j≤0
     rcases Nat.eq_zero_or_pos j with h|h
     ·subst h
      have:=hg.Ur (k+1) (by omega) (Nat.le_refl _)
      have:=hub (k+1) (by omega) (Nat.le_refl _)
      omega
     ·have:=hvb j h hj
      exact ⟨by omega,hg.ZF j h hj⟩
    ·have h0:1≤j:=by
      rcases Nat.eq_zero_or_pos j with h|h
      ·subst h
       rw [(hR.doneD 0).2 ⟨0,by omega,hg.zero⟩] at hd
       cases hd
      ·exact h
     obtain ⟨p,p1,p2,p3⟩:=hR.Vx j h0 hj hd
     have h1:=hR.dle j h0 hj hd
     have h2:=hR.d0
     have h3:=hvb j h0 hj
     have h4:=hc.hi (Hun.own o (Mc costs m k s p)) j
     have h5:0≤gi g.u (Hun.own o (Mc costs m k s p)):=by
      have hp1:Hun.own o (Mc costs m k s p)≠0:=by
       rcases Nat.lt_or_ge p t with h|h
       ·exact hg.pI p h
       ·obtain rfl:p=t:=by omega
        rw [hat];exact hr
      exact hg.Ur _ (by omega) (ho.lt (hg.le p (by omega)))
     have hf:far=1152921504606846976:=rfl
     show 0≤gi sc.least j∧gi sc.least j≤far
     omega
    ·repeat (first|exact Ae.nil|refine Ae.same trivial rfl ?_|refine Ae.same (Ac rfl) rfl ?_|refine Ae.same ⟨trivial,Ac rfl,trivial⟩ rfl ?_|refine Ae.same ⟨trivial,Ac rfl,Ac rfl,trivial⟩ rfl ?_|refine Ae.same ⟨trivial,Ac rfl,Ac rfl,Ac rfl,trivial⟩ rfl ?_|refine Ae.same ⟨trivial,trivial⟩ rfl ?_|refine Ae.cons trivial rfl (.of_eq (Au (by simp<;>omega))) ?_)
    ·repeat (first|exact Aj.nil|(refine Aj.cons (Ac rfl) ?_ rfl ?_ ?_;(first|exact HB.Ak rfl|exact AU.Ah _ _|(simp [HB.under,AU.under,PV.under]));(first|exact Bo.refl _|exact Bo.vec (Bj.refl _) (by simp))))
    ·repeat' (first|apply Ad.region|apply AO.normal|apply AL.normal|apply AL.exit|apply Ag.nil|apply Ag.one|(apply Aa.assign;rfl)|(apply Aa.move;rfl))
     all_goals try (exfalso;omega)
     refine Az.normal ⟨by first|omega|decide,?_,?_⟩
     ·repeat (first|exact Ae.nil|refine Ae.same trivial rfl ?_|refine Ae.same (Ac rfl) rfl ?_|refine Ae.same ⟨trivial,Ac rfl,trivial⟩ rfl ?_|refine Ae.same ⟨trivial,Ac rfl,Ac rfl,trivial⟩ rfl ?_|refine Ae.same ⟨trivial,Ac rfl,Ac rfl,Ac rfl,trivial⟩ rfl ?_|refine Ae.same ⟨trivial,trivial⟩ rfl ?_|refine Ae.cons trivial rfl (.of_eq (Au (by simp<;>omega))) ?_)
     ·repeat (first|exact Aj.nil|(refine Aj.cons (Ac rfl) ?_ rfl ?_ ?_;(first|exact HB.Ak rfl|exact AU.Ah _ _|(simp [HB.under,AU.under,PV.under]));(first|exact Bo.refl _|exact Bo.vec (Bj.refl _) (by simp))))
  ·have h0:(gi (I5 s (k+1)) (Ed costs (I5 s (k+1)) m (P5 m s) (Xc costs m s (k+1))).at_).n=0:=hend
   have hg:=hgr _ hgo
   have hle:=hg.le _ (Nat.le_refl _)
   have hat:Mc costs m k s (Xc costs m s (k+1))=(Ed costs (I5 s (k+1)) m (P5 m s) (Xc costs m s (k+1))).at_:=rfl
   rw [hat] at hle
   have lo:=ho.len
   have eE:Ed costs (I5 s (k+1)) m (P5 m s) (Xc costs m s (k+1))=Lh costs m s (k+1):=rfl
   rw [eE] at h0 hle hg hat ⊢
   repeat' (first|apply Ad.assoc|apply Ad.AB|apply Ad.AY|apply AO.normal|apply AL.exit|apply Az.exit|apply Ad.Iw|apply Ag.nil|apply Ag.one|(apply Aa.move;rfl)|(apply Aa.int;rfl;rfl;rfl)|(apply Aa.Dn;rfl;rfl;omega;rfl)|(apply Aa.Dj;rfl;rfl;rfl;rfl;omega)|(apply Ad.Af;rfl)|(intro _;try (exfalso;omega)))
   all_goals try (exfalso;omega)
   have hA:∀ t,t≤xI costs m s (k+1)→(GK (Lh costs m s (k+1)).way (stA costs m s (k+1)) t).owner.length=m+1∧(GK (Lh costs m s (k+1)).way (stA costs m s (k+1)) t).at_≤m:=fun t ht=>by
    obtain ⟨q,q1,q2⟩:=hback.inv t ht
    exact ⟨q2.len,by rw [q2.at_];exact (hgr q fun p hp=>hgo p (by omega)).le q (Nat.le_refl _)⟩
   refine Ad.blk (vJ (e:=e) (costs:=costs) (n:=n) (k:=k) (u:=(Lh costs m s (k+1)).u) (v:=(Lh costs m s (k+1)).v) (a:=stA costs m s (k+1)) hm hg.lw (fun t ht=>(hA t ht).1) hback.go (fun t ht=>(hA t ht).2) hback.fin) (by omega) (by omega) ?_ ?_ ?_
   ·repeat (first|exact Ae.nil|refine Ae.same trivial rfl ?_|refine Ae.same (Ac rfl) rfl ?_|refine Ae.same ⟨trivial,Ac rfl,trivial⟩ rfl ?_|refine Ae.same ⟨trivial,Ac rfl,Ac rfl,trivial⟩ rfl ?_|refine Ae.same ⟨trivial,Ac rfl,Ac rfl,Ac rfl,trivial⟩ rfl ?_|refine Ae.same ⟨trivial,trivial⟩ rfl ?_|refine Ae.cons trivial rfl (.of_eq (Au (by simp<;>omega))) ?_)
   ·repeat (first|exact Aj.nil|(refine Aj.cons (Ac rfl) ?_ rfl ?_ ?_;(first|exact HB.Ak rfl|exact AU.Ah _ _|(simp [HB.under,AU.under,PV.under]));(first|exact Bo.refl _|exact Bo.vec (Bj.refl _) (by simp))))
   ·repeat' (first|apply Ad.region|apply AO.normal|apply AL.normal|apply AL.exit|apply Ag.nil|apply Ag.one|(apply Aa.assign;rfl)|(apply Aa.move;rfl)|(apply Aa.Bq;rfl;rfl;omega))
    all_goals try (exfalso;omega)
    refine Az.normal ⟨by first|omega|decide,?_,?_⟩
    ·repeat (first|exact Ae.nil|refine Ae.same trivial rfl ?_|refine Ae.same (Ac rfl) rfl ?_|refine Ae.same ⟨trivial,Ac rfl,trivial⟩ rfl ?_|refine Ae.same ⟨trivial,Ac rfl,Ac rfl,trivial⟩ rfl ?_|refine Ae.same ⟨trivial,Ac rfl,Ac rfl,Ac rfl,trivial⟩ rfl ?_|refine Ae.same ⟨trivial,trivial⟩ rfl ?_|refine Ae.cons trivial rfl (.of_eq (Au (by simp<;>omega))) ?_)
    ·repeat (first|exact Aj.nil|(refine Aj.cons (Ac rfl) ?_ rfl ?_ ?_;(first|exact HB.Ak rfl|exact AU.Ah _ _|(simp [HB.under,AU.under,PV.under]));(first|exact Bo.refl _|exact Bo.vec (Bj.refl _) (by simp))))
 ·have hS:=MZ hc n (Nat.le_refl _)
  have hO:=VT hS
  have hs:=Vz hc
  have l1:=hS.lu
  have l2:=hS.lv
  have l3:=hS.lo
  have eO:KC costs (Dc costs n m n).owner n m=Gq costs n m:=rfl
  have eU:(Dc costs n m n).u.drop 1=Jp costs n m:=rfl
  have eV:(Dc costs n m n).v.drop 1=GZ costs n m:=rfl
  have htot:∀ j,j≤m→0≤(KC costs (Dc costs n m n).owner n j).total∧(KC costs (Dc costs n m n).owner n j).total≤1000000000000000:=fun j hj=>by
   rw [(hO j hj).total]
   have h1:=iG (f:=fun k=>if 0<Hun.own (Dc costs n m n).owner (k+1) then cst costs (Hun.own (Dc costs n m n).owner (k+1)) (k+1) else 0) (a:=0) (b:=1000000000000) (n:=j) fun k hk=>by
    split
    ·exact ⟨hc.lo _ _,Int.le_trans (hc.hi _ _) hB.2⟩
    ·exact ⟨Int.le_refl _,by decide⟩
   omega
  generalize Dc costs n m n=s at *
  repeat' (first|(refine Ad.at 34 ?_;refine Ad.ghost (AZ.freeze 5 rfl rfl) ?_;first|apply Ad.AB|apply Ad.BD)|(refine Ap.atIdx 4 ?_;refine Ap.ghost (AZ.freeze 6 rfl rfl) ?_)|apply Ad.assoc|apply Ad.AB|apply Ad.AY|apply Ad.Ai|apply AO.normal|apply AL.exit|apply Az.exit|apply Ag.nil|apply Ap.nil|apply Ag.one|(apply Ap.bar;decide +kernel)|apply Ap.quiet|(apply Aa.Eh n (0:Int);rfl;rfl;rfl;rfl;rfl;rfl;rfl;omega;decide;decide;rfl)|(apply Aa.sliceFrom (l:=s.u) (a:=1);rfl;rfl;rfl;rfl;rfl;exact l1;omega)|(apply Aa.sliceFrom (l:=s.v) (a:=1);rfl;rfl;rfl;rfl;rfl;exact l2;omega)|(apply Aa.assign;rfl)|(apply Aa.move;rfl)|(apply Aa.int;rfl;rfl;rfl)|(apply Aa.alloc;rfl)|(apply Aa.Bl;rfl;rfl;rfl;trivial;rfl;rfl;exact Ac rfl;exact le_dec rfl)|(apply Aa.build;rfl;rfl;rfl;rfl;rfl)|(apply Ad.Af;rfl)|(intro _;try (exfalso;omega)))
  all_goals try (exfalso;omega)
  have e1:costs.length=n:=hl
  refine Ad.blk (uf (e:=e) (costs:=costs) (n:=n) (m:=m) (U:=s.u.drop 1) (V:=s.v.drop 1) (o:=s.owner) hm (by omega) hl hrow l3 (fun j j1 j2=>hS.own j j1 j2) (fun j hj=>(hO j hj).len) (fun r j=>⟨hc.lo (r+1) (j+1),Int.le_trans (hc.hi (r+1) (j+1)) hB.2⟩) htot) (by omega) (by omega) ?_ ?_ ?_
  ·repeat (first|exact Ae.nil|refine Ae.same trivial rfl ?_|refine Ae.same (Ac rfl) rfl ?_|refine Ae.same ⟨trivial,Ac rfl,trivial⟩ rfl ?_|refine Ae.same ⟨trivial,Ac rfl,Ac rfl,trivial⟩ rfl ?_|refine Ae.same ⟨trivial,Ac rfl,Ac rfl,Ac rfl,trivial⟩ rfl ?_|refine Ae.same ⟨trivial,trivial⟩ rfl ?_|refine Ae.cons trivial rfl (.of_eq (Au (by simp<;>omega))) ?_)
  ·repeat (first|exact Aj.nil|(refine Aj.cons (Ac rfl) ?_ rfl ?_ ?_;(first|exact HB.Ak rfl|exact AU.Ah _ _|(simp [HB.under,AU.under,PV.under]));(first|exact Bo.refl _|exact Bo.vec (Bj.refl _) (by simp))))
  ·rw [eO,eU,eV]
   repeat' (first|apply Ad.AB|apply AO.normal|apply AL.exit|apply Ad.ret|apply Ag.nil|apply Ag.one|(apply Aa.load;rfl;rfl)|(apply Aa.Bl;rfl;rfl;rfl;trivial;rfl;rfl;exact Ac rfl;exact le_dec rfl))
   all_goals try (exfalso;omega)
   refine Done.ret (H0:=[(5,.vec 3 (cells (Gq costs n m).cols) n false)]) (DU:=6) rfl (.refl _) ⟨Ac rfl,trivial,trivial,trivial,trivial⟩ ?_ (by omega) (by omega) ⟨rfl,rfl,rfl⟩
   repeat (first|exact Aj.nil|(refine Aj.cons (Ac rfl) ?_ rfl ?_ ?_;(first|exact HB.Ak rfl|exact AU.Ah _ _|(simp [HB.under,AU.under,PV.under]));(first|exact Bo.refl _|exact Bo.vec (Bj.refl _) (by simp))))
end Go.Proofs.YtdabojnmoejilaaGreatDoor
namespace Go.Proofs.YtdabojnmoejilaaGreatDoor
open Go Go.Am Go.Vm Go.Hun
attribute [local irreducible] Aa Ag Ap Ad BA AV CS AO AL Az Vm.Done Df Bh
theorem UH {L:Vm.Frame} {H:Vm.Heap} {nx:Nat} {Q:PV→Vm.Heap→Nat→Prop} {dst:Option Tmp} {ty:TypeId} {pos:String} {af:Array Edge} {gd:Option (Nat×Bool)} {fo:Operand} {args:Array Operand} {aT:Array TypeId} {fs cs xs:List PV} {c:Code}
 (hf:Bz env.Γ L fo=some (.clo 75 fs cs)) (ha:evs env.Γ L args.toList=some xs) (hb:Tryz.f75.body=some c) (hn:(fs++xs++cs).length≤Tryz.f75.ntmps)
 (h:Ad env nx c (CG 0 (fs++xs++cs)) H nx (Bh env.P Tryz.f75.results.toList Q)):Aa env true ⟨dst,.call { callee:=.value fo,args:=args,argTypes:=aT },ty,pos,af,gd⟩ L H nx Q:=by
 have h0:(match Tryz.f75.body with|some c=>Hl env.G Tryz.f75 c|none=>false)=true:=by kernel_rfl
 rw [hb] at h0
 exact Aa.inline rfl hf ha (AA (by decide)) Tryz.func75 hb h0 hn h
theorem UU {L:Vm.Frame} {H:Vm.Heap} {nx:Nat} {Q:PV→Vm.Heap→Nat→Prop} {dst:Option Tmp} {ty:TypeId} {pos:String} {af:Array Edge} {gd:Option (Nat×Bool)} {fo:Operand} {args:Array Operand} {aT:Array TypeId} {fs cs xs:List PV} {c:Code}
 (hf:Bz env.Γ L fo=some (.clo 104 fs cs)) (ha:evs env.Γ L args.toList=some xs) (hb:Tryz.f104.body=some c) (hn:(fs++xs++cs).length≤Tryz.f104.ntmps)
 (h:Ad env nx c (CG 0 (fs++xs++cs)) H nx (Bh env.P Tryz.f104.results.toList Q)):Aa env true ⟨dst,.call { callee:=.value fo,args:=args,argTypes:=aT },ty,pos,af,gd⟩ L H nx Q:=by
 have h0:(match Tryz.f104.body with|some c=>Hl env.G Tryz.f104 c|none=>false)=true:=by kernel_rfl
 rw [hb] at h0
 exact Aa.inline rfl hf ha (AA (by decide)) Tryz.func104 hb h0 hn h
theorem xO {L:Vm.Frame} {H:Vm.Heap} {nx:Nat} {Q:PV→Vm.Heap→Nat→Prop} {dst:Option Tmp} {ty:TypeId} {pos:String} {af:Array Edge} {gd:Option (Nat×Bool)} {fo:Operand} {args:Array Operand} {aT:Array TypeId} {fs cs xs:List PV} {c:Code}
 (hf:Bz env.Γ L fo=some (.clo 101 fs cs)) (ha:evs env.Γ L args.toList=some xs) (hb:Tryz.f101.body=some c) (hn:(fs++xs++cs).length≤Tryz.f101.ntmps)
 (h:Ad env nx c (CG 0 (fs++xs++cs)) H nx (Bh env.P Tryz.f101.results.toList Q)):Aa env true ⟨dst,.call { callee:=.value fo,args:=args,argTypes:=aT },ty,pos,af,gd⟩ L H nx Q:=by
 have h0:(match Tryz.f101.body with|some c=>Hl env.G Tryz.f101 c|none=>false)=true:=by kernel_rfl
 rw [hb] at h0
 exact Aa.inline rfl hf ha (AA (by decide)) Tryz.func101 hb h0 hn h
structure Qr (l:List (List Int)) (n m:Nat) (skip B:Int):Prop where
 Xj:wQ l n m skip B
 n60:n≤60
 yR:m≤120
 B9:B≤1000000000
 m0:n=0→m=0
theorem Qr.cols {l:List (List Int)} {n m:Nat} {skip B:Int} (h:Qr l n m skip B):tJ l=m:=by
 rcases Nat.eq_zero_or_pos n with h0|h0
 ·have:l=[]:=List.length_eq_zero_iff.1 (by rw [h.Xj.len];exact h0)
  rw [this,h.m0 h0]
  rfl
 ·exact h.Xj.row 0 h0
theorem ak {l:List (List Int)} {n m:Nat} {skip B:Int} (e:TypeId) (h:Qr l n m skip B):AV env 73 [.lst e (cells l) l.length,.bool false] (.p (.int .i64 0)):=by
 have h1:=h.Xj.len
 have h2:=h.n60
 have h3:=h.yR
 have h4:=h.B9
 have Xt:=h.cols
 have hrow:=h.Xj.row
 have qI:=h.Xj.rng
 refine AV.enter (AA (by decide)) Tryz.func73 rfl (by kernel_rfl) (by simp [Tryz.ntmps73]) ?_
 rcases Nat.eq_zero_or_pos n with h0|h0
 ·have hl0:l=[]:=List.length_eq_zero_iff.1 (by omega)
  subst hl0
  repeat' (first|apply Ad.assoc|apply Ad.AB|apply Ad.Aq|apply Ad.Ai|apply Ag.nil|apply Ag.one|(apply Ag.take;rfl;rfl)|(apply Ag.drop;rfl;rfl;rfl)|(apply Aa.assign;rfl)|(apply Aa.move;rfl)|(apply Aa.int;rfl;rfl;rfl)|(apply Aa.AP;rfl;rfl)|(apply Aa.BF;rfl;rfl)|(apply Ad.Ar;rfl))
  all_goals try (exfalso;omega)
  all_goals try contradiction
  apply Ad.Fq (0) [(0,_),(1,_),(24,_),(25,_)] [] (fun k r=>(26,.p (.int .i64 (k:Int)))::r) (fun k r=>r) 0
  ·first|omega|decide
  ·first|omega|decide
  ·repeat (first|exact Ae.nil|(refine Ae.eq rfl ?_ ?_;(first|exact PV.Ak rfl|(simp [PV.under,AU.under];done)))|refine Ae.cons trivial rfl (.of_eq (Au (by simp<;>omega))) ?_)
  ·repeat (first|exact Aj.nil|(refine Aj.eq rfl (Ac rfl) ?_ ?_;(first|exact HB.Ak rfl|exact AU.Ah _ _|(simp [HB.under,AU.under,PV.under];done)))|(refine Aj.cons (Ac rfl) ?_ rfl ?_ ?_;(first|exact trivial|exact AU.Ah _ _|(simp [HB.under,AU.under,PV.under]));(first|exact Bo.refl _|exact Bo.vec (Bj.refl _) (by simp))))
  ·intro k hk;omega
  ·repeat' (first|apply Ad.assoc|apply Ad.AB|apply Ad.Aq|apply Ad.AY|apply Ad.Ai|apply AO.normal|apply AL.exit|apply Az.exit|apply Ag.nil|apply Ag.one|(apply Ag.drop;rfl;rfl;rfl)|(apply Aa.move;rfl)|(apply Aa.int;rfl;rfl;rfl)|(apply Aa.AP;rfl;rfl)|(apply Aa.BF;rfl;rfl)|(apply Ad.Ar;rfl))
   all_goals try (exfalso;omega)
   all_goals try contradiction
   apply Ad.Fq (0) [(0,_),(53,_),(54,_)] [] (fun k r=>(55,.p (.int .i64 (k:Int)))::r) (fun k r=>r) 0
   ·first|omega|decide
   ·first|omega|decide
   ·repeat (first|exact Ae.nil|(refine Ae.eq rfl ?_ ?_;(first|exact PV.Ak rfl|(simp [PV.under,AU.under];done)))|refine Ae.cons trivial rfl (.of_eq (Au (by simp<;>omega))) ?_)
   ·repeat (first|exact Aj.nil|(refine Aj.eq rfl (Ac rfl) ?_ ?_;(first|exact HB.Ak rfl|exact AU.Ah _ _|(simp [HB.under,AU.under,PV.under];done)))|(refine Aj.cons (Ac rfl) ?_ rfl ?_ ?_;(first|exact trivial|exact AU.Ah _ _|(simp [HB.under,AU.under,PV.under]));(first|exact Bo.refl _|exact Bo.vec (Bj.refl _) (by simp))))
   ·intro k hk;omega
   ·repeat' (first|apply Ad.AB|apply Ad.AY|apply AO.normal|apply AL.exit|apply Az.exit|apply Ad.ret|apply Ag.nil|apply Ag.one|(apply Aa.assign;rfl)|(apply Aa.int;rfl;rfl;rfl)|(apply Ad.Ar;rfl))
    all_goals first|(exfalso;omega)|contradiction|(refine Done.ret rfl (.refl _) (by first|exact trivial|exact ⟨trivial,trivial,trivial⟩|exact ⟨trivial,trivial,trivial,trivial⟩) Aj.nil (Nat.zero_le _) (Nat.le_refl _) ⟨?_,rfl,rfl⟩;try rfl)
 ·have hr0:=hrow 0 h0
  have hc0:(gi l 0).length=m:=hr0
  repeat' (first|apply Ad.assoc|apply Ad.AB|apply Ad.Aq|apply Ad.Ai|apply Ag.nil|apply Ag.one|(apply Ag.take;rfl;rfl)|(apply Ag.guard;rfl;rfl)|(apply Aa.AX (l:=l) (i:=0);rfl;rfl;rfl;omega;rfl)|(apply Aa.assign;rfl)|(apply Aa.move;rfl)|(apply Aa.int;rfl;rfl;rfl)|(apply Aa.load;rfl;rfl)|(apply Aa.Bv;rfl;rfl)|(apply Aa.AP;rfl;rfl)|(apply Aa.BF;rfl;rfl)|(apply Ad.Af;rfl)|(intro _;try (exfalso;omega)))
  all_goals try (exfalso;omega)
  all_goals try contradiction
  apply Ad.Fq (l.length) [(0,_),(1,_),(24,_),(25,_)] [] (fun k r=>(26,.p (.int .i64 (k:Int)))::r) (fun k r=>r) 0
  ·first|omega|decide
  ·first|omega|decide
  ·repeat (first|exact Ae.nil|(refine Ae.eq rfl ?_ ?_;(first|exact PV.Ak rfl|(simp [PV.under,AU.under];done)))|refine Ae.cons trivial rfl (.of_eq (Au (by simp<;>omega))) ?_)
  ·repeat (first|exact Aj.nil|(refine Aj.eq rfl (Ac rfl) ?_ ?_;(first|exact HB.Ak rfl|exact AU.Ah _ _|(simp [HB.under,AU.under,PV.under];done)))|(refine Aj.cons (Ac rfl) ?_ rfl ?_ ?_;(first|exact trivial|exact AU.Ah _ _|(simp [HB.under,AU.under,PV.under]));(first|exact Bo.refl _|exact Bo.vec (Bj.refl _) (by simp))))
  ·intro k hk
   have hrk:=hrow k (by omega)
   repeat' (first|apply Ad.AB|apply Ad.region|apply Ad.Aq|apply Ad.Ai|apply AO.normal|apply AL.normal|apply Ad.skip|apply Ag.nil|apply Ag.one|(apply Aa.AX (l:=l) (i:=k);rfl;rfl;rfl;omega;rfl)|(apply Aa.AX (l:=l) (i:=0);rfl;rfl;rfl;omega;rfl)|(apply Aa.assign;rfl)|(apply Aa.move;rfl)|(apply Aa.Bq;rfl;rfl;omega)|(apply Aa.int;rfl;rfl;rfl)|(apply Aa.load;rfl;rfl)|(apply Aa.BF;rfl;rfl)|(apply Ad.Af;rfl)|(apply Ad.Ba;rfl)|(intro _;try (exfalso;omega)))
   all_goals try (exfalso;omega)
   refine Az.normal ⟨by first|omega|decide,?_,?_⟩
   ·repeat (first|exact Ae.nil|refine Ae.same trivial rfl ?_|refine Ae.same (Ac rfl) rfl ?_|refine Ae.same ⟨trivial,Ac rfl,trivial⟩ rfl ?_|refine Ae.same ⟨trivial,Ac rfl,Ac rfl,trivial⟩ rfl ?_|refine Ae.same ⟨trivial,Ac rfl,Ac rfl,Ac rfl,trivial⟩ rfl ?_|refine Ae.same ⟨trivial,trivial⟩ rfl ?_|refine Ae.cons trivial rfl (.of_eq (Au (by simp<;>omega))) ?_)
   ·repeat (first|exact Aj.nil|(refine Aj.cons (Ac rfl) ?_ rfl ?_ ?_;(first|exact HB.Ak rfl|exact AU.Ah _ _|(simp [HB.under,AU.under,PV.under]));(first|exact Bo.refl _|exact Bo.vec (Bj.refl _) (by simp))))
  ·repeat' (first|apply Ad.assoc|apply Ad.AB|apply Ad.Aq|apply Ad.AY|apply Ad.Ai|apply AO.normal|apply AL.exit|apply Az.exit|apply Ag.nil|apply Ag.one|(apply Ag.drop;rfl;rfl;rfl)|(apply Aa.move;rfl)|(apply Aa.int;rfl;rfl;rfl)|(apply Aa.AP;rfl;rfl)|(apply Aa.BF;rfl;rfl)|(apply Ad.Ar;rfl)|(apply Ad.Af;rfl)|(intro _;try (exfalso;omega)))
   all_goals try (exfalso;omega)
   all_goals try contradiction
   apply Ad.Fq (l.length) [(0,_),(53,_),(54,_)] [] (fun k r=>(55,.p (.int .i64 (k:Int)))::r) (fun k r=>r) 0
   ·first|omega|decide
   ·first|omega|decide
   ·repeat (first|exact Ae.nil|(refine Ae.eq rfl ?_ ?_;(first|exact PV.Ak rfl|(simp [PV.under,AU.under];done)))|refine Ae.cons trivial rfl (.of_eq (Au (by simp<;>omega))) ?_)
   ·repeat (first|exact Aj.nil|(refine Aj.eq rfl (Ac rfl) ?_ ?_;(first|exact HB.Ak rfl|exact AU.Ah _ _|(simp [HB.under,AU.under,PV.under];done)))|(refine Aj.cons (Ac rfl) ?_ rfl ?_ ?_;(first|exact trivial|exact AU.Ah _ _|(simp [HB.under,AU.under,PV.under]));(first|exact Bo.refl _|exact Bo.vec (Bj.refl _) (by simp))))
   ·intro k hk
    have hrk:=hrow k (by omega)
    repeat' (first|apply Ad.assoc|apply Ad.AB|apply Ad.Aq|apply Ad.Ai|apply Ag.nil|apply Ag.one|(apply UH;rfl;rfl;rfl;exact le_dec rfl)|(apply UU;rfl;rfl;rfl;exact le_dec rfl)|(apply Aa.assign;rfl)|(apply Aa.move;rfl)|(apply Aa.int;rfl;rfl;rfl)|(apply Aa.AX;rfl;rfl;rfl;omega;rfl)|(apply Aa.load;rfl;rfl)|(apply Aa.BF;rfl;rfl)|(apply Ad.Af;rfl)|(intro _;try (exfalso;omega)))
    all_goals try (exfalso;omega)
    apply Ad.Fq ((gi l k).length) [(0,_),(1,_),(7,_)] [] (fun k_ r=>(8,.p (.int .i64 (k_:Int)))::r) (fun k_ r=>r) 0
    ·first|omega|decide
    ·first|omega|decide
    ·repeat (first|exact Ae.nil|(refine Ae.eq rfl ?_ ?_;(first|exact PV.Ak rfl|(simp [PV.under,AU.under];done)))|refine Ae.cons trivial rfl (.of_eq (Au (by simp<;>omega))) ?_)
    ·repeat (first|exact Aj.nil|(refine Aj.eq rfl (Ac rfl) ?_ ?_;(first|exact HB.Ak rfl|exact AU.Ah _ _|(simp [HB.under,AU.under,PV.under];done)))|(refine Aj.cons (Ac rfl) ?_ rfl ?_ ?_;(first|exact trivial|exact AU.Ah _ _|(simp [HB.under,AU.under,PV.under]));(first|exact Bo.refl _|exact Bo.vec (Bj.refl _) (by simp))))
    ·intro j hj
     have hb:=qI k j (by omega) (by omega)
     repeat' (first|apply Ad.AB|apply Ad.region|apply Ad.Aq|apply Ad.Ai|apply AO.normal|(apply Bh.ret;rfl)|apply AL.normal|apply Ad.ret|apply Ad.skip|apply Ag.nil|apply Ag.one|(apply Ag.take;rfl;rfl)|(apply Ag.guard;rfl;rfl)|(apply xO;rfl;rfl;rfl;exact le_dec rfl)|(apply Aa.assign;rfl)|(apply Aa.move;rfl)|(apply Aa.Bq;rfl;rfl;omega)|(apply Aa.int;rfl;rfl;rfl)|(apply Aa.AX;rfl;rfl;rfl;omega;rfl)|(apply Aa.load;rfl;rfl)|(apply Aa.AP;rfl;rfl)|(apply Ad.Af;rfl)|(apply Ad.Ba;rfl)|(intro _;try (exfalso;omega)))
     all_goals try (exfalso;omega)
     refine Az.normal ⟨by first|omega|decide,?_,?_⟩
     ·repeat (first|exact Ae.nil|refine Ae.same trivial rfl ?_|refine Ae.same (Ac rfl) rfl ?_|refine Ae.same ⟨trivial,Ac rfl,trivial⟩ rfl ?_|refine Ae.same ⟨trivial,Ac rfl,Ac rfl,trivial⟩ rfl ?_|refine Ae.same ⟨trivial,Ac rfl,Ac rfl,Ac rfl,trivial⟩ rfl ?_|refine Ae.same ⟨trivial,trivial⟩ rfl ?_|refine Ae.cons trivial rfl (.of_eq (Au (by simp<;>omega))) ?_)
     ·repeat (first|exact Aj.nil|(refine Aj.cons (Ac rfl) ?_ rfl ?_ ?_;(first|exact HB.Ak rfl|exact AU.Ah _ _|(simp [HB.under,AU.under,PV.under]));(first|exact Bo.refl _|exact Bo.vec (Bj.refl _) (by simp))))
    ·repeat' (first|apply Ad.AB|apply Ad.region|apply Ad.AY|apply AO.normal|(apply Bh.ret;rfl)|apply AL.normal|apply AL.exit|apply Az.exit|apply Ad.ret|apply Ad.skip|apply Ag.nil|apply Ag.one|(apply Aa.assign;rfl)|(apply Aa.move;rfl)|(apply Aa.Bq;rfl;rfl;omega)|(apply Aa.int;rfl;rfl;rfl)|(apply Ad.Af;rfl)|(apply Ad.cond_false;rfl)|(intro _;try (exfalso;omega)))
     all_goals try (exfalso;omega)
     all_goals try contradiction
     refine Az.normal ⟨by first|omega|decide,?_,?_⟩
     ·repeat (first|exact Ae.nil|refine Ae.same trivial rfl ?_|refine Ae.same (Ac rfl) rfl ?_|refine Ae.same ⟨trivial,Ac rfl,trivial⟩ rfl ?_|refine Ae.same ⟨trivial,Ac rfl,Ac rfl,trivial⟩ rfl ?_|refine Ae.same ⟨trivial,Ac rfl,Ac rfl,Ac rfl,trivial⟩ rfl ?_|refine Ae.same ⟨trivial,trivial⟩ rfl ?_|refine Ae.cons trivial rfl (.of_eq (Au (by simp<;>omega))) ?_)
     ·repeat (first|exact Aj.nil|(refine Aj.cons (Ac rfl) ?_ rfl ?_ ?_;(first|exact HB.Ak rfl|exact AU.Ah _ _|(simp [HB.under,AU.under,PV.under]));(first|exact Bo.refl _|exact Bo.vec (Bj.refl _) (by simp))))
   ·repeat' (first|apply Ad.AB|apply Ad.AY|apply AO.normal|apply AL.exit|apply Az.exit|apply Ad.ret|apply Ag.nil|apply Ag.one|(apply Aa.assign;rfl)|(apply Aa.int;rfl;rfl;rfl)|(apply Ad.Af;rfl)|(intro _;try (exfalso;omega)))
    all_goals first|(exfalso;omega)|contradiction|(refine Done.ret rfl (.refl _) (by first|exact trivial|exact ⟨trivial,trivial,trivial⟩|exact ⟨trivial,trivial,trivial,trivial⟩) Aj.nil (Nat.zero_le _) (Nat.le_refl _) ⟨?_,rfl,rfl⟩;try rfl)
theorem LP {l:List (List Int)} {n m:Nat} {skip B:Int} (e:TypeId) (h:Qr l n m skip B):AV env 46 [.lst e (cells l) l.length,.int .i64 skip] (.p (.int .i64 0)):=by
 have hc:=ak e h
 have h4:=h.B9
 have h5:=h.Xj.skip
 refine AV.enter (AA (by decide)) Tryz.func46 rfl (by kernel_rfl) (by simp [Tryz.ntmps46]) ?_
 repeat' (first|apply Ad.assoc|apply Ad.AB|apply Ad.Aq|apply Ad.ret|apply Ag.nil|apply Ag.one|(apply Ag.take;rfl;rfl)|(apply Ag.guard;rfl;rfl)|(apply Aa.fn;rfl;rfl;exact hc;intro _;rfl)|(apply Aa.assign;rfl)|(apply Aa.move;rfl)|(apply Aa.int;rfl;rfl;rfl)|(apply Aa.AP;rfl;rfl)|(apply Ad.Ar;rfl)|(apply Ad.Af;rfl)|(intro _;try (exfalso;omega)))
 all_goals first|(exfalso;omega)|contradiction|(refine Done.ret rfl (.refl _) (by first|exact trivial|exact ⟨trivial,trivial,trivial⟩|exact ⟨trivial,trivial,trivial,trivial⟩) Aj.nil (Nat.zero_le _) (Nat.le_refl _) ⟨?_,rfl,rfl⟩;try rfl)
theorem Og {l:List (List Int)} {n m:Nat} {skip B:Int} (e:TypeId) (h:Qr l n m skip B):AV env 69 [.lst e (cells l) l.length] (.p (.int .i64 (m:Int))):=by
 have:=Ld e l (by have:=h.Xj.len;have:=h.n60;omega)
 rwa [h.cols] at this
theorem bf (l:List Int) (h0:0<l.length) (h1:l.length<1000000):CS env 70 [.lst 3 (cells l) l.length] 3 (cells l) l.length false:=by
 refine CS.enter (AA (by decide)) Tryz.func70 rfl (by kernel_rfl) (by simp [Tryz.ntmps70]) ?_
 repeat' (first|apply Ad.assoc|apply Ad.AB|apply Ad.Aq|apply Ad.ret|apply Ag.nil|apply Ag.one|(apply Aa.a1t;rfl;rfl;rfl;exact h0)|(apply Aa.assign;rfl)|(apply Aa.move;rfl)|(apply Aa.buildSlice;rfl;rfl;rfl;decide;rfl;rfl;rfl)|(apply Aa.Nw;rfl;rfl;rfl;(first|rfl|omega|(simp only [List.length_take,List.length_drop,List.length_append,List.length_singleton,List.length_cons,List.length_nil]<;>omega));rfl;rfl;(intro _ h;cases h);rfl;rfl;rfl;decide;decide;(first|omega|(simp only [List.length_take,List.length_drop,List.length_append,List.length_singleton,List.length_cons,List.length_nil]<;>omega)))|(apply Ad.Ar;rfl))
 exact Df.ret rfl rfl rfl rfl
theorem yG {L:Vm.Frame} {H:Vm.Heap} {nx:Nat} {Q:PV→Vm.Heap→Nat→Prop} {dst:Option Tmp} {ty:TypeId} {pos:String} {af:Array Edge} {gd:Option (Nat×Bool)} {fo:Operand} {args:Array Operand} {aT:Array TypeId} {fs cs xs:List PV} {c:Code}
 (hf:Bz env.Γ L fo=some (.clo 70 fs cs)) (ha:evs env.Γ L args.toList=some xs) (hb:Tryz.f70.body=some c) (hn:(fs++xs++cs).length≤Tryz.f70.ntmps)
 (h:Ad env nx c (CG 0 (fs++xs++cs)) H nx (Bh env.P Tryz.f70.results.toList Q)):Aa env true ⟨dst,.call { callee:=.value fo,args:=args,argTypes:=aT },ty,pos,af,gd⟩ L H nx Q:=by
 have h0:(match Tryz.f70.body with|some c=>Hl env.G Tryz.f70 c|none=>false)=true:=by kernel_rfl
 rw [hb] at h0
 exact Aa.inline rfl hf ha (AA (by decide)) Tryz.func70 hb h0 hn h
theorem kG {α:Type} [Inhabited α] {l:List α} {k:Nat} (h:k<l.length):l.take (k+1)=l.take k++[gi l k]:=by
 rw [List.take_succ_eq_append_getElem h]
 unfold gi
 rw [List.getElem?_eq_getElem h];rfl
def Uw (l:List (List Int)) (skip:Int) (k:Nat):List Int:=gi l k++List.replicate (l.length+1) skip
def Np (l:List (List Int)) (skip:Int) (k:Nat):List (List Int):=(Dy l skip l.length).take k++List.replicate (l.length-k) []
theorem Oj (l:List (List Int)) (skip:Int) (n:Nat):(Dy l skip n).length=l.length:=by simp [Dy]
theorem ou (l:List (List Int)) (skip:Int) {k:Nat} (h:k≤l.length):(Np l skip k).length=l.length:=by
 unfold Np
 rw [List.length_append,List.length_take,List.length_replicate,Oj];omega
theorem mZ (l:List (List Int)) (skip:Int):Np l skip l.length=Dy l skip l.length:=by
 unfold Np
 rw [Nat.sub_self,List.take_of_length_le (by rw [Oj];exact Nat.le_refl _)]
 simp
theorem pq (l:List (List Int)) (skip:Int) {k:Nat} (h:k<l.length):(Np l skip k).set k (Uw l skip k)=Np l skip (k+1):=by
 have e1:Uw l skip k=gi (Dy l skip l.length) k:=(gi_map' (fun row=>row++List.replicate (l.length+1) skip) h).symm
 have hk:k<(Dy l skip l.length).length:=by rw [Oj];exact h
 obtain ⟨r,hr⟩:∃ r,l.length-k=r+1:=⟨l.length-k-1,by omega⟩
 unfold Np
 rw [e1,kG hk,hr,show l.length-(k+1)=r by omega]
 have ht:((Dy l skip l.length).take k).length=k:=by rw [List.length_take];omega
 generalize gi (Dy l skip l.length) k=x
 generalize (Dy l skip l.length).take k=t at *
 rw [List.set_append_right _ _ (by omega),ht,Nat.sub_self,List.replicate_succ,List.set_cons_zero,List.append_assoc]
 rfl
theorem XD:∀ n:Nat,Bj ((Bf [.slice none 0 0] n).map FW) (cells (List.replicate n ([]:List Int)))
 |0=>.refl _
 |n+1=>.cons (.nil _) (XD n)
theorem iH (l:List (List Int)) (skip:Int):Np l skip 0=List.replicate l.length []:=by unfold Np;simp
def Ut (m:Nat) (cols:List Int) (j:Nat):List Int:=(cols.take j).map (KD m)++cols.drop j
theorem VY (m:Nat) (cols:List Int) (j:Nat):(Ut m cols j).length=cols.length:=by
 unfold Ut
 rw [List.length_append,List.length_map,List.length_take,List.length_drop];omega
theorem kH (m:Nat) (cols:List Int) {j:Nat} (h:j<cols.length):gi (Ut m cols j) j=gi cols j:=by
 unfold Ut gi
 rw [List.getElem?_append_right (by rw [List.length_map,List.length_take];omega),List.length_map,List.length_take,Nat.min_eq_left (Nat.le_of_lt h),Nat.sub_self,List.getElem?_drop,Nat.add_zero]
theorem eF (m:Nat) (cols:List Int) {j:Nat} (h:j<cols.length):(Ut m cols j).set j (KD m (gi cols j))=Ut m cols (j+1):=by
 unfold Ut
 have ht:((cols.take j).map (KD m)).length=j:=by rw [List.length_map,List.length_take];omega
 rw [List.set_append_right _ _ (by omega),ht,Nat.sub_self,kG h,List.map_append,List.append_assoc]
 congr 1
 rw [List.drop_eq_getElem_cons h,List.set_cons_zero]
 rfl
theorem nC (m:Nat) (cols:List Int) {j:Nat} (h:j<cols.length) (hc:KD m (gi cols j)=gi cols j):Ut m cols (j+1)=Ut m cols j:=by
 rw [← eF m cols h,hc,← kH m cols h]
 refine List.ext_getElem? fun i=>?_
 rw [List.getElem?_set]
 by_cases e:j=i
 ·subst e
  rw [if_pos rfl,if_pos (by rw [VY];exact h)]
  unfold gi
  rw [List.getElem?_eq_getElem (by rw [VY];exact h)]
  rfl
 ·rw [if_neg e]
theorem sO (m:Nat) (cols:List Int):Ut m cols cols.length=cols.map (KD m):=by
 unfold Ut
 rw [List.take_of_length_le (Nat.le_refl _),List.drop_of_length_le (Nat.le_refl _),List.append_nil]
structure QL where
 cols:List Int
 total:Int
 rows:List Int
 BQ:List Int
def QL.enc (x:QL):List FV:=[.lst 3 (cells x.cols) x.cols.length,.int .i64 x.total,.lst 3 (cells x.rows) x.rows.length,.lst 3 (cells x.BQ) x.BQ.length]
instance:Enc QL:={ default:=⟨[],0,[],[]⟩,enc:=QL.enc,size:=4,len:=fun _=>rfl }
def Y4 (l:List (List Int)) (m:Nat) (skip:Int):QL:=⟨uq l l.length m skip,jr l l.length m skip,uo l l.length m skip,qp l l.length m skip⟩
theorem Zv {l:List (List Int)} {m:Nat} {skip B:Int} (e:TypeId) (h:Qr l l.length m skip B) (h0:0<l.length) :
 AV env 45 [.lst e (cells l) l.length,.int .i64 skip] (.EP [.p (.agg (Enc.enc (Y4 l m skip))),.p (.int .i64 0)]):=by
 have hck:=LP e h
 have hcl:=Og e h
 have h2:=h.n60
 have h3:=h.yR
 have hrow:=h.Xj.row
 have hP:=sU h.Xj
 have hw:=X0 h.Xj
 have hs:=Vz hw
 have hsv:=dY (costs:=Dy l skip l.length) (n:=l.length) (m:=m+(l.length+1)) 52 hw (Oj _ _ _) (fun r hr=>by
  unfold Dy
  rw [gi_map' _ hr,List.length_append,List.length_replicate,hrow r hr]) h0 (by omega)
 have hroom:l.length*(24+1)≤room∧l.length≤2 ^ 40:=⟨by have:=Zp (n:=l.length) (k:=0) (b:=24) (by omega) (by decide);simpa using this,by omega⟩
 refine AV.enter (AA (by decide)) Tryz.func45 rfl (by kernel_rfl) (by simp [Tryz.ntmps45]) ?_
 repeat' (first|apply Ad.assoc|apply Ad.AB|apply Ad.Aq|apply Ad.Ai|apply Ag.nil|apply Ag.one|(apply Aa.fn;rfl;rfl;exact hck;intro _;rfl)|(apply Aa.fn;rfl;rfl;exact hcl;intro _;rfl)|(apply Aa.makeSlice (n:=l.length);rfl;rfl;rfl;rfl;rfl;exact hroom;decide)|(apply Aa.assign;rfl)|(apply Aa.move;rfl)|(apply Aa.int;rfl;rfl;rfl)|(apply Aa.BF;rfl;rfl)|(apply Aa.alloc;rfl)|(apply Ad.Ar;rfl))
 all_goals try (exfalso;omega)
 all_goals try contradiction
 refine Ad.ghost (AZ.a2n 1 (cells (Np l skip 0)) rfl (by rw [iH];exact XD _)) ?_
 apply Ad.Fq (l.length) [(0,_),(1,_),(4,_),(7,_),(8,_),(26,_),(27,_)] [(0,_)] (fun k r=>(28,.p (.int .i64 (k:Int)))::r) (fun k r=>(1,.vec 52 (cells (Np l skip k)) l.length false)::r) 2
 ·first|omega|decide
 ·first|omega|decide
 ·repeat (first|exact Ae.nil|(refine Ae.eq rfl ?_ ?_;(first|exact PV.Ak rfl|(simp [PV.under,AU.under];done)))|refine Ae.cons trivial rfl (.of_eq (Au (by simp<;>omega))) ?_)
 ·repeat (first|exact Aj.nil|(refine Aj.eq rfl (Ac rfl) ?_ ?_;(first|exact HB.Ak rfl|exact AU.Ah _ _|(simp [HB.under,AU.under,PV.under];done)))|(refine Aj.cons (Ac rfl) ?_ rfl ?_ ?_;(first|exact trivial|exact AU.Ah _ _|(simp [HB.under,AU.under,PV.under]));(first|exact Bo.refl _|exact Bo.vec (Bj.refl _) (by simp))))
 ·intro k hk
  have hrk:=hrow k hk
  have hsl:=ou l skip (Nat.le_of_lt hk)
  have hst:=pq l skip hk
  have hrep:=TY 3 skip (l.length+1) (by omega) (by omega)
  have hlen:(gi l k++List.replicate (l.length+1) skip).length=(gi l k).length+(List.replicate (l.length+1) skip).length:=List.length_append
  have hrl:(List.replicate (l.length+1) skip).length=l.length+1:=List.length_replicate
  have hpc:Gs (.p (.lst 3 (cells (gi l k++List.replicate (l.length+1) skip)) ((gi l k).length+(List.replicate (l.length+1) skip).length)))=(Enc.enc (Uw l skip k)).map .p:=by
   show [PV.p (FV.lst 3 (cells (gi l k++List.replicate (l.length+1) skip)) ((gi l k).length+(List.replicate (l.length+1) skip).length))]=[PV.p (FV.lst 3 (cells (Uw l skip k)) (Uw l skip k).length)]
   rw [show (Uw l skip k).length=_ from hlen];rfl
  by_cases hm:0<m
  ·have hcn:=bf (gi l k) (by omega) (by omega)
   repeat' (first|(refine Ag.Ie 42 ?_;refine Ag.ghost (AZ.freeze 38 rfl rfl) ?_)|(refine Ag.Ie 43 ?_;refine Ag.ghost (AZ.freeze 42 rfl rfl) ?_)|(refine Ag.Ie 44 ?_;refine Ag.ghost (AZ.freeze 43 rfl rfl) ?_)|apply Ad.AB|apply Ad.region|apply Ad.Aq|apply Ad.Ai|apply AO.normal|apply AL.normal|apply Ag.nil|apply Ag.one|(apply Aa.fv;rfl;rfl;exact hcn)|(apply Aa.fv;rfl;rfl;exact hrep)|(apply Aa.D9 (y:=Uw l skip k);rfl;rfl;rfl;trivial;exact hpc;rfl;rfl;decide;omega)|(apply Aa.P7 (l:=gi l k) (r:=List.replicate (l.length+1) skip);rfl;rfl;rfl;rfl;exact hrl;rfl;rfl;(intro _ h;cases h);rfl;rfl;rfl;decide;decide;omega)|(apply Aa.assign;rfl)|(apply Aa.move;rfl)|(apply Aa.Bq;rfl;rfl;omega)|(apply Aa.int;rfl;rfl;rfl)|(apply Aa.AX;rfl;rfl;rfl;omega;rfl)|(apply Aa.load;rfl;rfl)|(apply Aa.BF;rfl;rfl)|(apply Aa.buildSlice;rfl;rfl;rfl;decide;rfl;rfl;rfl)|(apply Aa.Dj;rfl;rfl;rfl;rfl;omega)|(apply Ad.Af;rfl)|(intro _;try (exfalso;omega)))
   all_goals try (exfalso;omega)
   refine Az.normal ⟨by first|omega|decide,?_,?_⟩
   ·try (rw [← hst])
    repeat (first|exact Ae.nil|refine Ae.same trivial rfl ?_|refine Ae.same (Ac rfl) rfl ?_|refine Ae.same ⟨trivial,Ac rfl,trivial⟩ rfl ?_|refine Ae.same ⟨trivial,Ac rfl,Ac rfl,trivial⟩ rfl ?_|refine Ae.same ⟨trivial,Ac rfl,Ac rfl,Ac rfl,trivial⟩ rfl ?_|refine Ae.same ⟨trivial,trivial⟩ rfl ?_|refine Ae.cons trivial rfl (.of_eq (Au (by simp<;>omega))) ?_)
   ·rw [← hst]
    repeat (first|exact Aj.nil|(refine Aj.cons (Ac rfl) ?_ rfl ?_ ?_;(first|exact HB.Ak rfl|exact AU.Ah _ _|(simp [HB.under,AU.under,PV.under]));(first|exact Bo.refl _|exact Bo.vec (Bj.refl _) (by simp))))
  ·have hl0:gi l k=[]:=List.length_eq_zero_iff.1 (by omega)
   have a7s:Gs (.p (.lst 3 (cells (List.replicate (l.length+1) skip)) (List.replicate (l.length+1) skip).length))=(Enc.enc (Uw l skip k)).map .p:=by
    rw [show Uw l skip k=List.replicate (l.length+1) skip by unfold Uw;rw [hl0];rfl];rfl
   repeat' (first|(refine Ag.Ie 42 ?_;refine Ag.ghost (AZ.freeze 38 rfl rfl) ?_)|(refine Ag.Ie 43 ?_;refine Ag.ghost (AZ.trans (AZ.freeze 42 rfl rfl) (AZ.adopt 36 3 rfl)) ?_)|(refine Ag.Ie 43 ?_;refine Ag.ghost (AZ.freeze 42 rfl rfl) ?_)|(refine Ag.Ie 44 ?_;refine Ag.ghost (AZ.freeze 43 rfl rfl) ?_)|apply Ad.assoc|apply Ad.AB|apply Ad.region|apply Ad.Aq|apply Ad.BH|apply Ad.Ai|apply AO.normal|(apply Bh.ret;rfl)|apply AL.normal|apply Ad.ret|apply Ag.nil|apply Ag.one|(apply yG;rfl;rfl;rfl;exact le_dec rfl)|(apply Aa.fv;rfl;rfl;exact hrep)|(apply Aa.D9 (y:=Uw l skip k);rfl;rfl;rfl;trivial;exact a7s;rfl;rfl;decide;omega)|(apply Aa.Nw (r:=List.replicate (l.length+1) skip);rfl;rfl;rfl;exact hrl;rfl;rfl;(intro _ h;cases h);rfl;rfl;rfl;decide;decide;omega)|(apply Aa.eqNil;rfl;rfl;rfl;intro b hb)|(apply Aa.D9 (y:=Uw l skip k);rfl;rfl;rfl;trivial;exact hpc;rfl;rfl;decide;omega)|(apply Aa.P7 (l:=gi l k) (r:=List.replicate (l.length+1) skip);rfl;rfl;rfl;rfl;exact hrl;rfl;rfl;(intro _ h;cases h);rfl;rfl;rfl;decide;decide;omega)|(apply Aa.assign;rfl)|(apply Aa.move;rfl)|(apply Aa.Bq;rfl;rfl;omega)|(apply Aa.int;rfl;rfl;rfl)|(apply Aa.AX;rfl;rfl;rfl;omega;rfl)|(apply Aa.load;rfl;rfl)|(apply Aa.BF;rfl;rfl)|(apply Aa.buildSlice;rfl;rfl;rfl;decide;rfl;rfl;rfl)|(apply Aa.Dj;rfl;rfl;rfl;rfl;omega)|(apply Aa.Nw;rfl;rfl;rfl;(first|rfl|omega|(simp only [List.length_take,List.length_drop,List.length_append,List.length_singleton,List.length_cons,List.length_nil]<;>omega));rfl;rfl;(intro _ h;cases h);rfl;rfl;rfl;decide;decide;(first|omega|(simp only [List.length_take,List.length_drop,List.length_append,List.length_singleton,List.length_cons,List.length_nil]<;>omega)))|(apply Ad.Af;rfl)|(apply Ad.Qa;rfl)|(intro _;try (exfalso;omega)))
   all_goals try (exfalso;omega)
   ·refine Az.normal ⟨by first|omega|decide,?_,?_⟩
    ·try (rw [← hst])
     repeat (first|exact Ae.nil|refine Ae.same trivial rfl ?_|refine Ae.same (Ac rfl) rfl ?_|refine Ae.same ⟨trivial,Ac rfl,trivial⟩ rfl ?_|refine Ae.same ⟨trivial,Ac rfl,Ac rfl,trivial⟩ rfl ?_|refine Ae.same ⟨trivial,Ac rfl,Ac rfl,Ac rfl,trivial⟩ rfl ?_|refine Ae.same ⟨trivial,trivial⟩ rfl ?_|refine Ae.cons trivial rfl (.of_eq (Au (by simp<;>omega))) ?_)
    ·rw [← hst]
     repeat (first|exact Aj.nil|(refine Aj.cons (Ac rfl) ?_ rfl ?_ ?_;(first|exact HB.Ak rfl|exact AU.Ah _ _|(simp [HB.under,AU.under,PV.under]));(first|exact Bo.refl _|exact Bo.vec (Bj.refl _) (by simp))))
   ·refine Az.normal ⟨by first|omega|decide,?_,?_⟩
    ·try (rw [← hst])
     repeat (first|exact Ae.nil|refine Ae.same trivial rfl ?_|refine Ae.same (Ac rfl) rfl ?_|refine Ae.same ⟨trivial,Ac rfl,trivial⟩ rfl ?_|refine Ae.same ⟨trivial,Ac rfl,Ac rfl,trivial⟩ rfl ?_|refine Ae.same ⟨trivial,Ac rfl,Ac rfl,Ac rfl,trivial⟩ rfl ?_|refine Ae.same ⟨trivial,trivial⟩ rfl ?_|refine Ae.cons trivial rfl (.of_eq (Au (by simp<;>omega))) ?_)
    ·rw [← hst]
     repeat (first|exact Aj.nil|(refine Aj.cons (Ac rfl) ?_ rfl ?_ ?_;(first|exact HB.Ak rfl|exact AU.Ah _ _|(simp [HB.under,AU.under,PV.under]));(first|exact Bo.refl _|exact Bo.vec (Bj.refl _) (by simp))))
 ·rw [mZ]
  have lC:(Gq (Dy l skip l.length) l.length (m+(l.length+1))).cols.length=l.length:=hs.len
  have lV:(GZ (Dy l skip l.length) l.length (m+(l.length+1))).length=m+(l.length+1):=hs.lV
  repeat' (first|(refine Ag.Ie 47 ?_;refine Ag.ghost (AZ.freeze 46 rfl rfl) ?_)|apply Ad.assoc|apply Ad.AB|apply Ad.AY|apply Ad.Ai|apply AO.normal|apply AL.exit|apply Az.exit|apply Ag.nil|apply Ag.one|(apply Aa.bG [] (hsv);rfl;rfl;exact .of_eq rfl;exact AU.Ak rfl;exact Fh rfl;(repeat (first|exact trivial|refine ⟨⟨_,rfl,.of_eq rfl⟩,?_⟩));decide;(intro _ hb;first|(simp at hb;done)|(simp at hb ⊢<;>omega));(rintro _ _ _ ⟨rfl,rfl,rfl⟩))|(apply Aa.sliceTo (l:=GZ (Dy l skip l.length) l.length (m+(l.length+1))) (b:=m);rfl;rfl;rfl;rfl;rfl;exact lV;omega)|(apply Aa.move;rfl)|(apply Aa.int;rfl;rfl;rfl)|(apply Aa.load;rfl;rfl)|(apply Aa.BF;rfl;rfl)|(apply Aa.lenV;rfl;rfl;rfl)|(apply Aa.AQ;rfl;rfl;rfl)|(apply Aa.alloc;rfl)|(apply Aa.Bl;rfl;rfl;rfl;trivial;rfl;rfl;exact Ac rfl;exact le_dec rfl)|(apply Ad.Af;rfl)|(intro _;try (exfalso;omega)))
  all_goals try (exfalso;omega)
  all_goals try contradiction
  have eM:Y4 l m skip=⟨(Gq (Dy l skip l.length) l.length (m+(l.length+1))).cols.map (KD m),(Gq (Dy l skip l.length) l.length (m+(l.length+1))).total,Jp (Dy l skip l.length) l.length (m+(l.length+1)),(GZ (Dy l skip l.length) l.length (m+(l.length+1))).take m⟩:=rfl
  have Xt:=hs.col
  rw [eM]
  generalize (Gq (Dy l skip l.length) l.length (m+(l.length+1))).cols=cols at *
  apply Ad.Fq (l.length) [(4,_),(7,_),(11,_),(57,_),(58,_)] [(8,_),(0,_)] (fun k r=>(59,.p (.int .i64 (k:Int)))::r) (fun k r=>(7,.vec 3 (cells (Ut m cols k)) l.length false)::r) 9
  ·first|omega|decide
  ·first|omega|decide
  ·repeat (first|exact Ae.nil|(refine Ae.eq rfl ?_ ?_;(first|exact PV.Ak rfl|(simp [PV.under,AU.under];done)))|refine Ae.cons trivial rfl (.of_eq (Au (by simp<;>omega))) ?_)
  ·repeat (first|exact Aj.nil|(refine Aj.eq rfl (Ac rfl) ?_ ?_;(first|exact HB.Ak rfl|exact AU.Ah _ _|(simp [HB.under,AU.under,PV.under];done)))|(refine Aj.cons (Ac rfl) ?_ rfl ?_ ?_;(first|exact trivial|exact AU.Ah _ _|(simp [HB.under,AU.under,PV.under]));(first|exact Bo.refl _|exact Bo.vec (Bj.refl _) (by simp))))
  ·intro k hk
   have c1:=VY m cols k
   have c2:=kH m cols (j:=k) (by omega)
   have c3:=eF m cols (j:=k) (by omega)
   have c4:=Xt k hk
   by_cases hc:(m:Int)≤gi cols k
   ·have c5:KD m (gi cols k)=-1:=if_pos hc
    rw [c5] at c3
    repeat' (first|apply Ad.AB|apply Ad.region|apply Ad.Aq|apply Ad.Ai|apply AO.normal|apply AL.normal|apply Ag.nil|apply Ag.one|(apply Aa.Dn;rfl;rfl;(first|omega|(simp only [List.length_set]<;>omega));exact congrArg (fun b=>some (FV.int .i64 b)) (c2))|(apply Aa.D9 (y:=(-1:Int));rfl;rfl;rfl;trivial;(first|rfl|(refine congrArg (fun t=>[PV.p (FV.int _ t)]) ?_;first|omega|(simp only [Int.natCast_add,Int.natCast_mul,Int.natCast_ediv,Int.natCast_emod]<;>omega)));rfl;rfl;decide;(first|omega|(simp only [List.length_set]<;>omega)))|(apply Aa.assign;rfl)|(apply Aa.move;rfl)|(apply Aa.Bq;rfl;rfl;omega)|(apply Aa.int;rfl;rfl;rfl)|(apply Aa.load;rfl;rfl)|(apply Aa.AQ;rfl;rfl;rfl)|(apply Aa.Dj;rfl;rfl;rfl;rfl;omega)|(apply Ad.Af;rfl)|(apply Ad.Ba;rfl)|(intro _;try (exfalso;omega)))
    all_goals try (exfalso;omega)
    refine Az.normal ⟨by first|omega|decide,?_,?_⟩
    ·try (rw [← c3])
     repeat (first|exact Ae.nil|refine Ae.same trivial rfl ?_|refine Ae.same (Ac rfl) rfl ?_|refine Ae.same ⟨trivial,Ac rfl,trivial⟩ rfl ?_|refine Ae.same ⟨trivial,Ac rfl,Ac rfl,trivial⟩ rfl ?_|refine Ae.same ⟨trivial,Ac rfl,Ac rfl,Ac rfl,trivial⟩ rfl ?_|refine Ae.same ⟨trivial,trivial⟩ rfl ?_|refine Ae.cons trivial rfl (.of_eq (Au (by simp<;>omega))) ?_)
    ·rw [← c3]
     repeat (first|exact Aj.nil|(refine Aj.cons (Ac rfl) ?_ rfl ?_ ?_;(first|exact HB.Ak rfl|exact AU.Ah _ _|(simp [HB.under,AU.under,PV.under]));(first|exact Bo.refl _|exact Bo.vec (Bj.refl _) (by simp))))
   ·have c5:KD m (gi cols k)=gi cols k:=if_neg hc
    have c6:=nC m cols (j:=k) (by omega) c5
    repeat' (first|apply Ad.AB|apply Ad.region|apply Ad.Aq|apply Ad.Ai|apply AO.normal|apply AL.normal|apply Ad.skip|apply Ag.nil|apply Ag.one|(apply Aa.Dn;rfl;rfl;(first|omega|(simp only [List.length_set]<;>omega));exact congrArg (fun b=>some (FV.int .i64 b)) (c2))|(apply Aa.assign;rfl)|(apply Aa.move;rfl)|(apply Aa.Bq;rfl;rfl;omega)|(apply Aa.int;rfl;rfl;rfl)|(apply Aa.Dj;rfl;rfl;rfl;rfl;omega)|(apply Ad.Af;rfl)|(apply Ad.Ba;rfl)|(intro _;try (exfalso;omega)))
    all_goals try (exfalso;omega)
    refine Az.normal ⟨by first|omega|decide,?_,?_⟩
    ·try (rw [c6])
     repeat (first|exact Ae.nil|refine Ae.same trivial rfl ?_|refine Ae.same (Ac rfl) rfl ?_|refine Ae.same ⟨trivial,Ac rfl,trivial⟩ rfl ?_|refine Ae.same ⟨trivial,Ac rfl,Ac rfl,trivial⟩ rfl ?_|refine Ae.same ⟨trivial,Ac rfl,Ac rfl,Ac rfl,trivial⟩ rfl ?_|refine Ae.same ⟨trivial,trivial⟩ rfl ?_|refine Ae.cons trivial rfl (.of_eq (Au (by simp<;>omega))) ?_)
    ·rw [c6]
     repeat (first|exact Aj.nil|(refine Aj.cons (Ac rfl) ?_ rfl ?_ ?_;(first|exact HB.Ak rfl|exact AU.Ah _ _|(simp [HB.under,AU.under,PV.under]));(first|exact Bo.refl _|exact Bo.vec (Bj.refl _) (by simp))))
  ·have c7:=sO m cols
   rw [lC] at c7
   rw [c7]
   have f1:(cols.map (KD m)).length=l.length:=by rw [List.length_map];exact lC
   have f2:=hs.lU
   have f3:((GZ (Dy l skip l.length) l.length (m+(l.length+1))).take m).length=m:=by rw [List.length_take,lV];omega
   generalize cols.map (KD m)=C at *
   generalize (GZ (Dy l skip l.length) l.length (m+(l.length+1))).take m=V at *
   have hfin:∀ (t:Int) (U:List Int),U.length=l.length→PV.EP [.p (.agg [.lst 3 (cells C) l.length,.int .i64 t,.lst 3 (cells U) l.length,.lst 3 (cells V) m]),.p (.int .i64 0)]=PV.EP [.p (.agg (Enc.enc (⟨C,t,U,V⟩:QL))),.p (.int .i64 0)]:=fun t U f2=>by
    show _=PV.EP [.p (.agg [.lst 3 (cells C) C.length,.int .i64 t,.lst 3 (cells U) U.length,.lst 3 (cells V) V.length]),.p (.int .i64 0)]
    rw [f1,f2,f3]
   repeat' (first|(refine Ad.at 20 ?_;refine Ad.ghost (AZ.Dh 8 0 rfl rfl rfl) ?_;first|apply Ad.AB|apply Ad.BD)|apply Ad.AB|apply Ad.AY|apply AO.normal|apply AL.exit|apply Az.exit|apply Ad.ret|apply Ag.nil|apply Ag.one|(apply Aa.assign;rfl)|(apply Aa.int;rfl;rfl;rfl)|(apply Aa.load;rfl;rfl)|(apply Aa.Bl;rfl;rfl;rfl;trivial;rfl;rfl;exact Ac rfl;exact le_dec rfl)|(apply Ad.Af;rfl)|(intro _;try (exfalso;omega)))
   all_goals try (exfalso;omega)
   all_goals (refine Done.ret rfl (.refl _) (by first|exact trivial|exact ⟨trivial,trivial,trivial⟩|exact ⟨trivial,trivial,trivial,trivial⟩) Aj.nil (Nat.zero_le _) (Nat.le_refl _) ⟨?_,rfl,rfl⟩;exact hfin _ _ f2)
theorem dw (e:TypeId):AV env 72 [.lst e [] 0] (.p (.agg (Enc.enc (⟨[],0,[],[]⟩:QL)))):=by
 have Xt:AV env 69 [.lst e [] 0] (.p (.int .i64 0)):=Ld e [] (by decide)
 refine AV.enter (AA (by decide)) Tryz.func72 rfl (by kernel_rfl) (by simp [Tryz.ntmps72]) ?_
 repeat' (first|apply Ad.assoc|apply Ad.AB|apply Ad.BD|apply Ad.Ai|apply Ag.nil|apply Ap.nil|apply Ag.one|(apply Ap.bar;decide +kernel)|apply Ap.quiet|(apply Aa.fn;rfl;rfl;exact Xt;intro _;rfl)|(apply Aa.Eh 1 (0:Int);rfl;rfl;rfl;rfl;rfl;rfl;rfl;decide;decide;decide;rfl)|(apply Aa.assign;rfl)|(apply Aa.move;rfl)|(apply Aa.Bq;rfl;rfl;omega)|(apply Aa.BF;rfl;rfl)|(apply Aa.alloc;rfl))
 all_goals try (exfalso;omega)
 apply Ad.Fq (0) [(2,_),(3,_),(4,_),(5,_),(6,_),(7,_)] [(0,_),(1,_),(2,_),(3,_)] (fun k r=>(9,.p (.int .i64 ((k+1:Nat):Int)))::r) (fun k r=>r) 5
 ·first|omega|decide
 ·first|omega|decide
 ·repeat (first|exact Ae.nil|(refine Ae.eq rfl ?_ ?_;(first|exact PV.Ak rfl|(simp [PV.under,AU.under];done)))|refine Ae.cons trivial rfl (.of_eq (Au (by simp<;>omega))) ?_)
 ·repeat (first|exact Aj.nil|(refine Aj.eq rfl (Ac rfl) ?_ ?_;(first|exact HB.Ak rfl|exact AU.Ah _ _|(simp [HB.under,AU.under,PV.under];done)))|(refine Aj.cons (Ac rfl) ?_ rfl ?_ ?_;(first|exact trivial|exact AU.Ah _ _|(simp [HB.under,AU.under,PV.under]));(first|exact Bo.refl _|exact Bo.vec (Bj.refl _) (by simp))))
 ·intro k hk;omega
 ·repeat' (first|(refine Ad.at 34 ?_;refine Ad.ghost (AZ.freeze 5 rfl rfl) ?_;first|apply Ad.AB|apply Ad.BD)|(refine Ap.atIdx 4 ?_;refine Ap.ghost (AZ.freeze 6 rfl rfl) ?_)|apply Ad.assoc|apply Ad.AB|apply Ad.AY|apply Ad.Ai|apply AO.normal|apply AL.exit|apply Az.exit|apply Ag.nil|apply Ap.nil|apply Ag.one|(apply Ap.bar;decide +kernel)|apply Ap.quiet|(apply Aa.Eh 0 (0:Int);rfl;rfl;rfl;rfl;rfl;rfl;rfl;decide;decide;decide;rfl)|(apply Aa.sliceFrom (l:=[(0:Int)]) (a:=1);rfl;rfl;rfl;rfl;rfl;rfl;decide)|(apply Aa.assign;rfl)|(apply Aa.move;rfl)|(apply Aa.int;rfl;rfl;rfl)|(apply Aa.alloc;rfl)|(apply Aa.Bl;rfl;rfl;rfl;trivial;rfl;rfl;exact Ac rfl;exact le_dec rfl)|(apply Aa.build;rfl;rfl;rfl;rfl;rfl)|(apply Ad.Ar;rfl))
  all_goals try (exfalso;omega)
  apply Ad.Fq (0) [(2,_),(3,_),(4,_),(7,_),(19,_)] [(0,_),(3,_),(5,_),(6,_)] (fun k r=>(20,.p (.int .i64 ((k+1:Nat):Int)))::r) (fun k r=>r) 7
  ·first|omega|decide
  ·first|omega|decide
  ·repeat (first|exact Ae.nil|(refine Ae.eq rfl ?_ ?_;(first|exact PV.Ak rfl|(simp [PV.under,AU.under];done)))|refine Ae.cons trivial rfl (.of_eq (Au (by simp<;>omega))) ?_)
  ·repeat (first|exact Aj.nil|(refine Aj.eq rfl (Ac rfl) ?_ ?_;(first|exact HB.Ak rfl|exact AU.Ah _ _|(simp [HB.under,AU.under,PV.under];done)))|(refine Aj.cons (Ac rfl) ?_ rfl ?_ ?_;(first|exact trivial|exact AU.Ah _ _|(simp [HB.under,AU.under,PV.under]));(first|exact Bo.refl _|exact Bo.vec (Bj.refl _) (by simp))))
  ·intro k hk;omega
  ·repeat' (first|(refine Ad.at 42 ?_;refine Ad.ghost (AZ.Dh 6 0 rfl rfl rfl) ?_;first|apply Ad.AB|apply Ad.BD)|apply Ad.assoc|apply Ad.AB|apply Ad.AY|apply AO.normal|apply AL.exit|apply Az.exit|apply Ad.ret|apply Ag.nil|apply Ag.one|(apply Aa.move;rfl)|(apply Aa.int;rfl;rfl;rfl)|(apply Aa.load;rfl;rfl)|(apply Aa.Bl;rfl;rfl;rfl;trivial;rfl;rfl;exact Ac rfl;exact le_dec rfl)|(apply Ad.Ar;rfl))
   all_goals first|(exfalso;omega)|(refine Done.ret rfl (.refl _) (by first|exact trivial|exact ⟨trivial,trivial,trivial⟩|exact ⟨trivial,trivial,trivial,trivial⟩) Aj.nil (Nat.zero_le _) (Nat.le_refl _) ⟨?_,rfl,rfl⟩;try rfl)
theorem Xu {skip:Int} (e:TypeId) (hk:0≤skip∧skip≤1000000000):AV env 45 [.lst e (cells ([]:List (List Int))) 0,.int .i64 skip] (.EP [.p (.agg (Enc.enc (⟨[],0,[],[]⟩:QL))),.p (.int .i64 0)]):=by
 have hM:Qr [] 0 0 skip 1000000000:=⟨⟨rfl,fun r hr=>by omega,fun r k hr=>by omega,hk,by decide⟩,by omega,by omega,by decide,fun _=>rfl⟩
 have hck:=LP e hM
 have hcl:=Og e hM
 have hs:=dw 52
 refine AV.enter (AA (by decide)) Tryz.func45 rfl (by kernel_rfl) (by simp [Tryz.ntmps45]) ?_
 repeat' (first|apply Ad.assoc|apply Ad.AB|apply Ad.Aq|apply Ad.Ai|apply Ag.nil|apply Ag.one|(apply Aa.fn;rfl;rfl;exact hck;intro _;rfl)|(apply Aa.fn;rfl;rfl;exact hcl;intro _;rfl)|(apply Aa.makeSlice (n:=0);rfl;rfl;rfl;rfl;rfl;decide;decide)|(apply Aa.assign;rfl)|(apply Aa.move;rfl)|(apply Aa.int;rfl;rfl;rfl)|(apply Aa.BF;rfl;rfl)|(apply Aa.alloc;rfl)|(apply Ad.Ar;rfl))
 all_goals try (exfalso;omega)
 all_goals try contradiction
 apply Ad.Fq (0) [(0,_),(1,_),(4,_),(7,_),(8,_),(26,_),(27,_)] [(0,_),(1,_)] (fun k r=>(28,.p (.int .i64 (k:Int)))::r) (fun k r=>r) 2
 ·first|omega|decide
 ·first|omega|decide
 ·repeat (first|exact Ae.nil|(refine Ae.eq rfl ?_ ?_;(first|exact PV.Ak rfl|(simp [PV.under,AU.under];done)))|refine Ae.cons trivial rfl (.of_eq (Au (by simp<;>omega))) ?_)
 ·repeat (first|exact Aj.nil|(refine Aj.eq rfl (Ac rfl) ?_ ?_;(first|exact HB.Ak rfl|exact AU.Ah _ _|(simp [HB.under,AU.under,PV.under];done)))|(refine Aj.cons (Ac rfl) ?_ rfl ?_ ?_;(first|exact trivial|exact AU.Ah _ _|(simp [HB.under,AU.under,PV.under]));(first|exact Bo.refl _|exact Bo.vec (Bj.refl _) (by simp))))
 ·intro k hk;omega
 ·repeat' (first|(refine Ag.Ie 47 ?_;refine Ag.ghost (AZ.freeze 46 rfl rfl) ?_)|apply Ad.assoc|apply Ad.AB|apply Ad.Aq|apply Ad.AY|apply Ad.Ai|apply AO.normal|apply AL.exit|apply Az.exit|apply Ag.nil|apply Ag.one|(apply Aa.fn;rfl;rfl;exact hs;intro _;rfl)|(apply Aa.move;rfl)|(apply Aa.int;rfl;rfl;rfl)|(apply Aa.load;rfl;rfl)|(apply Aa.BF;rfl;rfl)|(apply Aa.AQ;rfl;rfl;rfl)|(apply Aa.alloc;rfl)|(apply Aa.Bl;rfl;rfl;rfl;trivial;rfl;rfl;exact Ac rfl;exact le_dec rfl)|(apply Ad.Ar;rfl))
  all_goals try (exfalso;omega)
  all_goals try contradiction
  apply Ad.Fq (0) [(4,_),(7,_),(11,_),(57,_),(58,_)] [(0,_),(2,_)] (fun k r=>(59,.p (.int .i64 (k:Int)))::r) (fun k r=>r) 3
  ·first|omega|decide
  ·first|omega|decide
  ·repeat (first|exact Ae.nil|(refine Ae.eq rfl ?_ ?_;(first|exact PV.Ak rfl|(simp [PV.under,AU.under];done)))|refine Ae.cons trivial rfl (.of_eq (Au (by simp<;>omega))) ?_)
  ·repeat (first|exact Aj.nil|(refine Aj.eq rfl (Ac rfl) ?_ ?_;(first|exact HB.Ak rfl|exact AU.Ah _ _|(simp [HB.under,AU.under,PV.under];done)))|(refine Aj.cons (Ac rfl) ?_ rfl ?_ ?_;(first|exact trivial|exact AU.Ah _ _|(simp [HB.under,AU.under,PV.under]));(first|exact Bo.refl _|exact Bo.vec (Bj.refl _) (by simp))))
  ·intro k hk;omega
  ·repeat' (first|apply Ad.AB|apply Ad.AY|apply AO.normal|apply AL.exit|apply Az.exit|apply Ad.ret|apply Ag.nil|apply Ag.one|(apply Aa.assign;rfl)|(apply Aa.int;rfl;rfl;rfl)|(apply Aa.load;rfl;rfl)|(apply Aa.Bl;rfl;rfl;rfl;trivial;rfl;rfl;exact Ac rfl;exact le_dec rfl)|(apply Ad.Ar;rfl))
   all_goals first|(exfalso;omega)|(refine Done.ret rfl (.refl _) (by first|exact trivial|exact ⟨trivial,trivial,trivial⟩|exact ⟨trivial,trivial,trivial,trivial⟩) Aj.nil (Nat.zero_le _) (Nat.le_refl _) ⟨?_,rfl,rfl⟩;try rfl)
end Go.Proofs.YtdabojnmoejilaaGreatDoor
namespace Go.Hun
open Go Go.Am Go.Vm
def uG (row:List Int) (g:Nat→Int) (t:Nat) (b:Int):Nat→Int
 |0=>b
 |k+1=>if t.testBit k then uG row g t b k else min (uG row g t b k) (gi row k+g (t ||| 2 ^ k))
def wE (l:List (List Int)) (skip:Int) (m n:Nat):Nat→Nat→Int
 |0,_=>0
 |r+1,t=>uG (gi l (n-(r+1))) (wE l skip m n r) t (skip+wE l skip m n r t) m
def SN (f:Nat→Int) (n:Nat):Nat→Int
 |0=>0
 |r+1=>f (n-(r+1))+SN f n r
theorem Ti (f:Nat→Int) (n:Nat):∀ r,r≤n→Dz f (n-r)+SN f n r=Dz f n
 |0,_=>by simp [SN]
 |r+1,h=>by
  have ih:=Ti f n r (by omega)
  have e:n-r=(n-(r+1))+1:=by omega
  rw [e] at ih
  simp only [Dz] at ih
  simp only [SN]
  omega
theorem nM (f:Nat→Int) (n:Nat):SN f n n=Dz f n:=by
 have:=Ti f n n (Nat.le_refl _)
 rw [Nat.sub_self] at this
 simp only [Dz] at this
 omega
structure a8o (n m r t:Nat) (cols:Nat→Int):Prop where
 rng:∀ q,n-r≤q→q<n→-1≤cols q∧cols q<m
 inj:∀ p q,n-r≤p→p<n→n-r≤q→q<n→0≤cols p→cols p=cols q→p=q
 free:∀ q,n-r≤q→q<n→0≤cols q→t.testBit (cols q).toNat=false
end Go.Hun
namespace Go.Proofs.YtdabojnmoejilaaGreatDoor
open Go Go.Am Go.Vm Go.Hun
attribute [local irreducible] Aa Ag Ap Ad BA AV CS AO AL Az Vm.Done Df Bh YE
theorem kR {L:Vm.Frame} {H:Vm.Heap} {nx:Nat} {Q:PV→Vm.Heap→Nat→Prop} {dst:Option Tmp} {ty:TypeId} {pos:String} {af:Array Edge} {gd:Option (Nat×Bool)} {fo:Operand} {args:Array Operand} {aT:Array TypeId} {fs cs xs:List PV} {c:Code}
 (hf:Bz env.Γ L fo=some (.clo 103 fs cs)) (ha:evs env.Γ L args.toList=some xs) (hb:Tryz.f103.body=some c) (hn:(fs++xs++cs).length≤Tryz.f103.ntmps)
 (h:Ad env nx c (CG 0 (fs++xs++cs)) H nx (Bh env.P Tryz.f103.results.toList Q)):Aa env true ⟨dst,.call { callee:=.value fo,args:=args,argTypes:=aT },ty,pos,af,gd⟩ L H nx Q:=by
 have h0:(match Tryz.f103.body with|some c=>Hl env.G Tryz.f103 c|none=>false)=true:=by kernel_rfl
 rw [hb] at h0
 exact Aa.inline rfl hf ha (AA (by decide)) Tryz.func103 hb h0 hn h
theorem kP {L:Vm.Frame} {H:Vm.Heap} {nx:Nat} {Q:PV→Vm.Heap→Nat→Prop} {dst:Option Tmp} {ty:TypeId} {pos:String} {af:Array Edge} {gd:Option (Nat×Bool)} {fo:Operand} {args:Array Operand} {aT:Array TypeId} {fs cs xs:List PV} {c:Code}
 (hf:Bz env.Γ L fo=some (.clo 76 fs cs)) (ha:evs env.Γ L args.toList=some xs) (hb:Tryz.f76.body=some c) (hn:(fs++xs++cs).length≤Tryz.f76.ntmps)
 (h:Ad env nx c (CG 0 (fs++xs++cs)) H nx (Bh env.P Tryz.f76.results.toList Q)):Aa env true ⟨dst,.call { callee:=.value fo,args:=args,argTypes:=aT },ty,pos,af,gd⟩ L H nx Q:=by
 have h0:(match Tryz.f76.body with|some c=>Hl env.G Tryz.f76 c|none=>false)=true:=by kernel_rfl
 rw [hb] at h0
 exact Aa.inline rfl hf ha (AA (by decide)) Tryz.func76 hb h0 hn h
def Xy (l:List (List Int)) (m:Nat) (skip:Int) (cols:List Int):Nat→Nat→List Bool→Int→Int×Int
 |0,_,_,sum=>(sum,0)
 |r+1,k,used,sum =>
  if gi cols k< -1∨gi cols k≥m then (0,3)
  else if gi cols k<0 then Xy l m skip cols r (k+1) used (sum+skip)
  else if gi used (gi cols k).toNat=true then (0,9)
  else Xy l m skip cols r (k+1) (used.set (gi cols k).toNat true) (sum+gi (gi l k) (gi cols k).toNat)
def Zb (l:List (List Int)) (m:Nat) (skip:Int) (cols:List Int):Int×Int:=if cols.length≠l.length then (0,5) else Xy l m skip cols l.length 0 (List.replicate m false) 0
theorem fJ {l:List (List Int)} {m:Nat} {skip B:Int} (e:TypeId) (h:Qr l l.length m skip B) (cols:List Int) :
 AV env 47 [.lst e (cells l) l.length,.lst 3 (cells cols) cols.length,.int .i64 (-1),.int .i64 skip] (.EP [.p (.int .i64 (Zb l m skip cols).1),.p (.int .i64 (Zb l m skip cols).2)]):=by
 have hcl:=Og e h
 have h2:=h.n60
 have h3:=h.yR
 have h4:=h.B9
 have hrow:=h.Xj.row
 have qI:=h.Xj.rng
 have hsk:=h.Xj.skip
 unfold Zb
 refine AV.enter (AA (by decide)) Tryz.func47 rfl (by kernel_rfl) (by simp [Tryz.ntmps47]) ?_
 by_cases hlen:cols.length=l.length
 case neg =>
  rw [if_pos hlen]
  repeat' (first|apply Ad.assoc|apply Ad.AB|apply Ad.BH|apply Ag.nil|apply Ag.one|(apply Aa.assign;rfl)|(apply Aa.move;rfl)|(apply Aa.int;rfl;rfl;rfl)|(apply Aa.BF;rfl;rfl)|(apply Ad.Af;rfl)|(intro _;try (exfalso;omega)))
  all_goals first|(exfalso;omega)|contradiction|(refine Done.ret rfl (.refl _) (by first|exact trivial|exact ⟨trivial,trivial,trivial⟩|exact ⟨trivial,trivial,trivial,trivial⟩) Aj.nil (Nat.zero_le _) (Nat.le_refl _) ⟨?_,rfl,rfl⟩;try rfl)
 rw [if_neg (fun x=>x hlen)]
 repeat' (first|apply Ad.assoc|apply Ad.AB|apply Ad.Aq|apply Ad.Ai|apply Ag.nil|apply Ag.one|(apply Aa.fn;rfl;rfl;exact hcl;intro _;rfl)|(apply Aa.Eh m false;rfl;rfl;rfl;rfl;rfl;rfl;rfl;omega;decide;decide;rfl)|(apply Aa.assign;rfl)|(apply Aa.move;rfl)|(apply Aa.int;rfl;rfl;rfl)|(apply Aa.BF;rfl;rfl)|(apply Ad.Af;rfl)|(intro _;try (exfalso;omega)))
 all_goals try (exfalso;omega)
 obtain ⟨R,hR⟩:∃ R,R=Xy l m skip cols l.length 0 (List.replicate m false) 0:=⟨_,rfl⟩
 rw [← hR]
 refine Ad.D6 (fun s:Nat×List Bool×Int=>[(0,.p (.lst e (cells l) l.length)),(2,.p (.int .i64 (-1))),(3,.p (.int .i64 skip)),(10,.p (.int .i64 s.2.2)),(11,.vec 0 m 0 m),(22,.p (.lst 3 (cells cols) cols.length)),(23,.p (.int .i64 (cols.length:Int))),(24,.p (.int .i64 (s.1:Int)))]) (fun s=>[(0,.vec 4 (cells s.2.1) m false)]) 1
  (fun s=>s.1≤l.length∧s.2.1.length=m∧0≤s.2.2∧s.2.2≤s.1*B∧Xy l m skip cols (l.length-s.1) s.1 s.2.1 s.2.2=R) (fun s=>l.length-s.1) (0,List.replicate m false,0) (by omega) ⟨Nat.zero_le _,by simp,by simp,by simp,hR.symm⟩ ⟨by omega,?_,?_⟩ ?_
 ·repeat (first|exact Ae.nil|refine Ae.same trivial rfl ?_|refine Ae.same (Ac rfl) rfl ?_|refine Ae.same ⟨trivial,Ac rfl,Ac rfl,Ac rfl,trivial⟩ rfl ?_|refine Ae.same ⟨trivial,Ac rfl,Ac rfl,trivial⟩ rfl ?_|refine Ae.same ⟨trivial,trivial⟩ rfl ?_|refine Ae.cons trivial rfl (.of_eq (Au (by simp<;>omega))) ?_)
 ·repeat (first|exact Aj.nil|(refine Aj.cons (Ac rfl) ?_ rfl ?_ ?_;(first|exact HB.Ak rfl|exact AU.Ah _ _|(simp [HB.under,AU.under,PV.under]));(first|exact Bo.refl _|exact Bo.vec (Bj.refl _) (by simp))))
 rintro ⟨k,used,sum⟩ ⟨i1,i2,i3,i4,i5⟩
 simp only at i1 i2 i3 i4 i5 ⊢
 have hkB:(k:Int)*B≤60*1000000000:=Int.mul_le_mul (by omega) h4 (by omega) (by omega)
 by_cases hk:k<l.length
 ·obtain ⟨r,hr⟩:∃ r,l.length-k=r+1:=⟨l.length-k-1,by omega⟩
  rw [hr] at i5
  have hr':l.length-(k+1)=r:=by omega
  have a9s:((k+1:Nat):Int)*B=(k:Int)*B+B:=by rw [Int.natCast_add,Int.add_mul];simp
  unfold Xy at i5
  by_cases c1:gi cols k< -1∨gi cols k≥m
  ·rw [if_pos c1] at i5
   rw [← i5]
   repeat' (first|apply Ad.AB|apply Ad.Aq|apply Ad.Ai|apply AO.ret|apply AL.ret|apply Az.ret|apply Ad.ret|apply Ag.nil|apply Ag.one|(apply Ag.take;rfl;rfl)|(apply Ag.drop;rfl;rfl;rfl)|(apply Ag.guard;rfl;rfl)|(apply Aa.assign;rfl)|(apply Aa.move;rfl)|(apply Aa.int;rfl;rfl;rfl)|(apply Aa.AX;rfl;rfl;rfl;omega;rfl)|(apply Aa.load;rfl;rfl)|(apply Aa.Bv;rfl;rfl)|(apply Aa.AP;rfl;rfl)|(apply Aa.lenV;rfl;rfl;rfl)|(apply Ad.Af;rfl)|(apply Ad.cond_true;rfl)|(apply Ad.Ba;rfl)|(intro _;try (exfalso;omega)))
   all_goals first|(exfalso;omega)|contradiction|(refine Done.ret rfl (.refl _) (by first|exact trivial|exact ⟨trivial,trivial,trivial⟩|exact ⟨trivial,trivial,trivial,trivial⟩) Aj.nil (Nat.zero_le _) (Nat.le_refl _) ⟨?_,rfl,rfl⟩;try rfl)
  rw [if_neg c1] at i5
  by_cases c2:gi cols k<0
  ·rw [if_pos c2] at i5
   repeat' (first|apply Ad.AB|apply Ad.region|apply Ad.Aq|apply Ad.Ai|apply AO.normal|apply AO.exit|apply AL.exit|(apply AL.out;decide)|apply Ad.exit|apply Ag.nil|apply Ag.one|(apply Ag.take;rfl;rfl)|(apply Ag.guard;rfl;rfl)|(apply Aa.assign;rfl)|(apply Aa.move;rfl)|(apply Aa.Bq;rfl;rfl;omega)|(apply Aa.int;rfl;rfl;rfl)|(apply Aa.AX;rfl;rfl;rfl;omega;rfl)|(apply Aa.load;rfl;rfl)|(apply Aa.AP;rfl;rfl)|(apply Aa.lenV;rfl;rfl;rfl)|(apply Ad.Af;rfl)|(apply Ad.Ba;rfl)|(intro _;try (exfalso;omega)))
   all_goals try (exfalso;omega)
   refine Az.normal ⟨(k+1,used,sum+skip),⟨hk,i2,by simp only;omega,by simp only;omega,by simp only;rw [hr'];exact i5⟩,by simp only;omega,⟨by omega,?_,?_⟩⟩
   ·repeat (first|exact Ae.nil|refine Ae.same trivial rfl ?_|refine Ae.same (Ac rfl) rfl ?_|refine Ae.same ⟨trivial,Ac rfl,Ac rfl,Ac rfl,trivial⟩ rfl ?_|refine Ae.same ⟨trivial,Ac rfl,Ac rfl,trivial⟩ rfl ?_|refine Ae.same ⟨trivial,trivial⟩ rfl ?_|refine Ae.cons trivial rfl (.of_eq (Au (by simp<;>omega))) ?_)
   ·repeat (first|exact Aj.nil|(refine Aj.cons (Ac rfl) ?_ rfl ?_ ?_;(first|exact HB.Ak rfl|exact AU.Ah _ _|(simp [HB.under,AU.under,PV.under]));(first|exact Bo.refl _|exact Bo.vec (Bj.refl _) (by simp))))
  rw [if_neg c2] at i5
  obtain ⟨j,hj⟩:∃ j:Nat,gi cols k=j:=⟨(gi cols k).toNat,by omega⟩
  rw [hj,Int.toNat_natCast] at i5
  have hjm:j<m:=by omega
  have hc:=qI k j hk hjm
  have hrl:=hrow k hk
  by_cases c3:gi used j=true
  ·rw [if_pos c3] at i5
   rw [← i5]
   repeat' (first|apply Ad.AB|apply Ad.Aq|apply Ad.Ai|apply AO.ret|apply AL.ret|apply Az.ret|apply Ad.ret|apply Ag.nil|apply Ag.one|(apply Ag.take;rfl;rfl)|(apply Aa.Dn;rfl;rfl;(first|omega|(simp only [MV]<;>omega));exact congrArg (fun b=>some (FV.bool b)) (c3))|(apply Aa.load;rfl;exact congrArg (fun a=>some (PV.p (FV.int .i64 a))) hj)|(apply Aa.assign;rfl)|(apply Aa.move;rfl)|(apply Aa.int;rfl;rfl;rfl)|(apply Aa.AX;rfl;rfl;rfl;omega;rfl)|(apply Aa.AP;rfl;rfl)|(apply Aa.lenV;rfl;rfl;rfl)|(apply Aa.Dj;rfl;rfl;rfl;rfl;omega)|(apply Ad.Af;rfl)|(apply Ad.cond_true;rfl)|(apply Ad.cond_false;rfl)|(apply Ad.Ba;rfl)|(intro _;try (exfalso;omega)))
   all_goals first|(exfalso;omega)|contradiction|(refine Done.ret rfl (.refl _) (by first|exact trivial|exact ⟨trivial,trivial,trivial⟩|exact ⟨trivial,trivial,trivial,trivial⟩) Aj.nil (Nat.zero_le _) (Nat.le_refl _) ⟨?_,rfl,rfl⟩;try rfl)
  ·rw [if_neg c3] at i5
   have c3':gi used j=false:=by cases h:gi used j<;>simp_all
   repeat' (first|apply Ad.AB|apply Ad.region|apply Ad.Aq|apply Ad.Ai|apply AO.normal|apply AL.normal|apply Ad.skip|apply Ag.nil|apply Ag.one|(apply Ag.take;rfl;rfl)|(apply Aa.Dn;rfl;rfl;(first|omega|(simp only [MV]<;>omega));exact congrArg (fun b=>some (FV.bool b)) (c3'))|(apply Aa.load;rfl;exact congrArg (fun a=>some (PV.p (FV.int .i64 a))) hj)|(apply Aa.D9 (y:=true);rfl;rfl;rfl;trivial;(first|rfl|(refine congrArg (fun t=>[PV.p (FV.int _ t)]) ?_;first|omega|(simp only [Int.natCast_add,Int.natCast_mul,Int.natCast_ediv,Int.natCast_emod]<;>omega)));rfl;rfl;decide;(first|omega|(simp only [List.length_set]<;>omega)))|(apply Aa.assign;rfl)|(apply Aa.move;rfl)|(apply Aa.Bq;rfl;rfl;omega)|(apply Aa.int;rfl;rfl;rfl)|(apply Aa.AX;rfl;rfl;rfl;omega;rfl)|(apply Aa.load;rfl;rfl)|(apply Aa.AP;rfl;rfl)|(apply Aa.lenV;rfl;rfl;rfl)|(apply Aa.Dj;rfl;rfl;rfl;rfl;omega)|(apply Ad.Af;rfl)|(apply Ad.cond_false;rfl)|(apply Ad.Ba;rfl)|(intro _;try (exfalso;omega)))
   all_goals try (exfalso;omega)
   refine Az.normal ⟨(k+1,used.set j true,sum+gi (gi l k) j),⟨hk,by simp only;rw [List.length_set];exact i2,by simp only;omega,by simp only;omega,by simp only;rw [hr'];exact i5⟩,by simp only;omega,⟨by omega,?_,?_⟩⟩
   ·repeat (first|exact Ae.nil|refine Ae.same trivial rfl ?_|refine Ae.same (Ac rfl) rfl ?_|refine Ae.same ⟨trivial,Ac rfl,Ac rfl,Ac rfl,trivial⟩ rfl ?_|refine Ae.same ⟨trivial,Ac rfl,Ac rfl,trivial⟩ rfl ?_|refine Ae.same ⟨trivial,trivial⟩ rfl ?_|refine Ae.cons trivial rfl (.of_eq (Au (by simp<;>omega))) ?_)
   ·repeat (first|exact Aj.nil|(refine Aj.cons (Ac rfl) ?_ rfl ?_ ?_;(first|exact HB.Ak rfl|exact AU.Ah _ _|(simp [HB.under,AU.under,PV.under]));(first|exact Bo.refl _|exact Bo.vec (Bj.refl _) (by simp))))
 ·obtain rfl:k=l.length:=by omega
  rw [Nat.sub_self] at i5
  unfold Xy at i5
  rw [← i5]
  repeat' (first|apply Ad.AB|apply Ad.AY|apply AO.normal|apply AL.exit|apply Az.exit|apply Ad.ret|apply Ag.nil|apply Ag.one|(apply Aa.assign;rfl)|(apply Aa.move;rfl)|(apply Aa.int;rfl;rfl;rfl)|(apply Ad.Af;rfl)|(intro _;try (exfalso;omega)))
  all_goals first|(exfalso;omega)|contradiction|(refine Done.ret rfl (.refl _) (by first|exact trivial|exact ⟨trivial,trivial,trivial⟩|exact ⟨trivial,trivial,trivial,trivial⟩) Aj.nil (Nat.zero_le _) (Nat.le_refl _) ⟨?_,rfl,rfl⟩;try rfl)
theorem YI (a b:List Int) (h0:a.length+b.length=0):CS env 102 [.lst 52 [.lst 3 (cells a) a.length,.lst 3 (cells b) b.length] 2] 3 (cells (a++b)) (a.length+b.length) true:=by
 have hg:=oz
 have e0:(0:Int)=0+(a.length:Int)+(b.length:Int):=by omega
 rw [e0] at hg
 refine CS.enter (AA (by decide)) Tryz.func102 rfl (by kernel_rfl) (by simp [Tryz.ntmps102]) ?_
 repeat' (first|apply Ad.assoc|apply Ad.AB|apply Ad.Ai|apply Ag.nil|apply Ag.one|(apply Aa.assign;rfl)|(apply Aa.move;rfl)|(apply Aa.BF;rfl;rfl))
 refine Ad.lF 2 ?_
 repeat' (first|apply Ad.assoc|apply Ad.AB|apply Ad.region|apply Ad.Aq|apply Ad.AY|apply Ad.Ai|apply AO.normal|apply AL.normal|apply AL.exit|apply Az.exit|apply Ad.skip|apply Ag.nil|apply Ag.one|(apply Aa.fn;rfl;rfl;exact hg;intro _;rfl)|(apply YE.zero)|(apply YE.succ)|(apply Az.again)|(apply Aa.Rn;rfl;rfl;rfl;decide;decide)|(apply Aa.assign;rfl)|(apply Aa.move;rfl)|(apply Aa.Bq;rfl;rfl;omega)|(apply Aa.int;rfl;rfl;rfl)|(apply Aa.load;rfl;rfl)|(apply Aa.BF;rfl;rfl)|(apply Ad.Bc;rfl)|(apply Ad.Ar;rfl)|(apply Ad.cond_false;rfl))
 refine Ad.ghost (AZ.adopt 6 3 rfl) ?_
 refine Ad.lF 2 ?_
 repeat' (first|apply Ad.AB|apply Ad.region|apply Ad.Aq|apply Ad.AY|apply Ad.Ai|apply AO.normal|apply AL.normal|apply AL.exit|apply Az.exit|apply Ad.ret|apply Ag.nil|apply Ag.one|(apply YE.zero)|(apply YE.succ)|(apply Az.again)|(apply Aa.Rn;rfl;rfl;rfl;decide;decide)|(apply Aa.P7 (l:=a) (r:=b);rfl;rfl;rfl;rfl;rfl;rfl;rfl;(intro _ h;cases h);rfl;rfl;rfl;decide;decide;omega)|(apply Aa.Nw (r:=a);rfl;rfl;rfl;rfl;rfl;rfl;(intro _ h;cases h);rfl;rfl;rfl;decide;decide;omega)|(apply Aa.assign;rfl)|(apply Aa.move;rfl)|(apply Aa.Bq;rfl;rfl;omega)|(apply Aa.int;rfl;rfl;rfl)|(apply Aa.load;rfl;rfl)|(apply Ad.Bc;rfl)|(apply Ad.Ar;rfl))
 exact Df.ret rfl rfl rfl rfl
def sumT (l:List Int):Nat→Int
 |0=>0
 |k+1=>sumT l k+gi l k
def Js (x:Int):Prop:=-1000000000000≤x∧x≤1000000000000
theorem WC {l:List Int}:∀ k,(∀ i,i<k→Js (gi l i))→-(k*1000000000000:Int)≤sumT l k∧sumT l k≤k*1000000000000
 |0,_=>by simp [sumT]
 |k+1,h=>by
  obtain ⟨a,b⟩:=WC k fun i hi=>h i (by omega)
  obtain ⟨c,d⟩:=h k (by omega)
  simp only [sumT]
  omega
noncomputable def Iu (l:List (List Int)) (m:Nat) (rows BQ:List Int):Int×Int :=
 open Classical in
 if ¬ (rows.length=l.length∧BQ.length=m) then (0,5)
 else if ∃ i,i<(rows++BQ).length∧¬ Js (gi (rows++BQ) i) then (0,3)
 else if ∃ k,k<BQ.length∧gi BQ k>0 then (0,20)
 else if ∃ i k,i<l.length∧k<m∧gi rows i+gi BQ k>gi (gi l i) k then (0,20)
 else (sumT (rows++BQ) (rows++BQ).length,0)
section
variable {l:List (List Int)} {m:Nat} {rows BQ:List Int}
theorem a2o (h:¬ (rows.length=l.length∧BQ.length=m)):Iu l m rows BQ=(0,5):=by unfold Iu;rw [if_pos h]
theorem a5w (h:rows.length=l.length∧BQ.length=m) {i:Nat} (hi:i<(rows++BQ).length) (hb:¬ Js (gi (rows++BQ) i)):Iu l m rows BQ=(0,3):=by unfold Iu;rw [if_neg (fun x=>x h),if_pos ⟨i,hi,hb⟩]
theorem zY (h:rows.length=l.length∧BQ.length=m) (hb:∀ i,i<(rows++BQ).length→Js (gi (rows++BQ) i)) {k:Nat} (hk:k<BQ.length) (hp:gi BQ k>0):Iu l m rows BQ=(0,20):=by
 unfold Iu;rw [if_neg (fun x=>x h),if_neg (fun ⟨i,h1,h2⟩=>h2 (hb i h1)),if_pos ⟨k,hk,hp⟩]
theorem a1g (h:rows.length=l.length∧BQ.length=m) (hb:∀ i,i<(rows++BQ).length→Js (gi (rows++BQ) i)) (hn:∀ k,k<BQ.length→gi BQ k≤0) {i k:Nat} (hi:i<l.length) (hk:k<m) (hp:gi rows i+gi BQ k>gi (gi l i) k):Iu l m rows BQ=(0,20):=by
 unfold Iu;rw [if_neg (fun x=>x h),if_neg (fun ⟨i,h1,h2⟩=>h2 (hb i h1)),if_neg (fun ⟨k,h1,h2⟩=>by have:=hn k h1;omega),if_pos ⟨i,k,hi,hk,hp⟩]
theorem zy (h:rows.length=l.length∧BQ.length=m) (hb:∀ i,i<(rows++BQ).length→Js (gi (rows++BQ) i)) (hn:∀ k,k<BQ.length→gi BQ k≤0) (hf:∀ i,i<l.length→∀ k,k<m→gi rows i+gi BQ k≤gi (gi l i) k):Iu l m rows BQ=(sumT (rows++BQ) (rows++BQ).length,0):=by
 unfold Iu;rw [if_neg (fun x=>x h),if_neg (fun ⟨i,h1,h2⟩=>h2 (hb i h1)),if_neg (fun ⟨k,h1,h2⟩=>by have:=hn k h1;omega),if_neg (fun ⟨i,k,h1,h2,h3⟩=>by have:=hf i h1 k h2;omega)]
end
theorem QD {P:Nat→Prop} {k:Nat} (h:∀ i,i<k→P i) (hk:P k):∀ i,i<k+1→P i:=fun i hi=>by
 rcases Nat.lt_or_ge i k with h1|h1
 ·exact h i h1
 ·obtain rfl:i=k:=by omega
  exact hk
theorem U0 {a b:List Int} {i:Nat} (h:i<a.length):gi (a++b) i=gi a i:=by unfold gi;rw [List.getElem?_append_left h]
theorem U9 {a b:List Int} {i:Nat}:gi (a++b) (a.length+i)=gi b i:=by unfold gi;rw [List.getElem?_append_right (by omega),Nat.add_sub_cancel_left]
theorem Uj {l:List (List Int)} {m:Nat} {skip B:Int} (e:TypeId) (h:Qr l l.length m skip B) (rows BQ:List Int) :
 AV env 74 [.lst e (cells l) l.length,.lst 3 (cells rows) rows.length,.lst 3 (cells BQ) BQ.length] (.EP [.p (.int .i64 (Iu l m rows BQ).1),.p (.int .i64 (Iu l m rows BQ).2)]):=by
 have hcl:=Og e h
 have h2:=h.n60
 have h3:=h.yR
 have h4:=h.B9
 have hrow:=h.Xj.row
 have qI:=h.Xj.rng
 by_cases hlen:rows.length=l.length∧BQ.length=m
 case neg =>
  rw [a2o hlen]
  refine AV.enter (AA (by decide)) Tryz.func74 rfl (by kernel_rfl) (by simp [Tryz.ntmps74]) ?_
  repeat' (first|apply Ad.assoc|apply Ad.AB|apply Ad.BH|apply Ag.nil|apply Ag.one|(apply Ag.take;rfl;rfl)|(apply Ag.drop;rfl;rfl;rfl)|(apply Ag.guard;rfl;rfl)|(apply Aa.fn;rfl;rfl;exact hcl;intro _;rfl)|(apply Aa.assign;rfl)|(apply Aa.move;rfl)|(apply Aa.int;rfl;rfl;rfl)|(apply Aa.Bv;rfl;rfl)|(apply Aa.AP;rfl;rfl)|(apply Aa.BF;rfl;rfl)|(apply Ad.Bc;rfl)|(apply Ad.Af;rfl)|(intro _;try (exfalso;omega)))
  all_goals first|(exfalso;omega)|contradiction|(refine Done.ret rfl (.refl _) (by first|exact trivial|exact ⟨trivial,trivial,trivial⟩|exact ⟨trivial,trivial,trivial,trivial⟩) Aj.nil (Nat.zero_le _) (Nat.le_refl _) ⟨?_,rfl,rfl⟩;try rfl)
 have hp3:∀ i,i<(rows++BQ).length→¬ Js (gi (rows++BQ) i)→Iu l m rows BQ=(0,3):=fun i=>a5w hlen
 have a3p:(∀ i,i<(rows++BQ).length→Js (gi (rows++BQ) i))→∀ k,k<BQ.length→gi BQ k>0→Iu l m rows BQ=(0,20):=fun hb k=>zY hlen hb
 have a3a:(∀ i,i<(rows++BQ).length→Js (gi (rows++BQ) i))→(∀ k,k<BQ.length→gi BQ k≤0)→∀ i k,i<l.length→k<m→gi rows i+gi BQ k>gi (gi l i) k→Iu l m rows BQ=(0,20):=fun hb hn i k=>a1g hlen hb hn
 have a3y:(∀ i,i<(rows++BQ).length→Js (gi (rows++BQ) i))→(∀ k,k<BQ.length→gi BQ k≤0)→(∀ i,i<l.length→∀ k,k<m→gi rows i+gi BQ k≤gi (gi l i) k)→Iu l m rows BQ=(sumT (rows++BQ) (rows++BQ).length,0):=zy hlen
 have gr:∀ k,k<l.length→gi (rows++BQ) k=gi rows k:=fun k hk=>U0 (by omega)
 have gp:∀ j,j<BQ.length→gi (rows++BQ) (rows.length+j)=gi BQ j:=fun j _=>U9
 have zJ:(rows++BQ).length=rows.length+BQ.length:=List.length_append
 rcases Nat.eq_zero_or_pos (rows.length+BQ.length) with hz|hz
 ·have hcn:=YI rows BQ hz
  rw [← zJ] at hcn
  generalize rows++BQ=cat at *
  generalize Iu l m rows BQ=R at *
  refine AV.enter (AA (by decide)) Tryz.func74 rfl (by kernel_rfl) (by simp [Tryz.ntmps74]) ?_
  repeat' (first|(refine Ag.Ie 30 ?_;refine Ag.ghost (AZ.freeze 29 rfl rfl) ?_)|apply Ad.assoc|apply Ad.AB|apply Ad.Aq|apply Ad.Ai|apply Ag.nil|apply Ag.one|(apply Ag.take;rfl;rfl)|(apply Ag.guard;rfl;rfl)|(apply Aa.fn;rfl;rfl;exact hcl;intro _;rfl)|(apply Aa.fv;rfl;rfl;exact hcn)|(apply Aa.assign;rfl)|(apply Aa.move;rfl)|(apply Aa.int;rfl;rfl;rfl)|(apply Aa.AP;rfl;rfl)|(apply Aa.BF;rfl;rfl)|(apply Aa.lenV;rfl;rfl;rfl)|(apply Aa.buildSlice;rfl;rfl;rfl;decide;rfl;rfl;rfl)|(apply Ad.Af;rfl)|(intro _;try (exfalso;omega)))
  all_goals try (exfalso;omega)
  apply Ad.GU (cat.length) (fun k=>∀ i,i<k→Js (gi cat i)) [(0,_),(1,_),(2,_),(30,_),(31,_)] [(1,_)] (fun k r=>(8,.p (.int .i64 (sumT cat k)))::(32,.p (.int .i64 (k:Int)))::r) (fun k r=>r) 2
  ·first|omega|decide
  ·first|omega|decide
  ·repeat (first|exact Ae.nil|(refine Ae.eq rfl ?_ ?_;(first|exact PV.Ak rfl|(simp [PV.under,AU.under];done)))|refine Ae.cons trivial rfl (.of_eq (Au (by simp<;>omega))) ?_)
  ·repeat (first|exact Aj.nil|(refine Aj.eq rfl (Ac rfl) ?_ ?_;(first|exact HB.Ak rfl|exact AU.Ah _ _|(simp [HB.under,AU.under,PV.under];done)))|(refine Aj.cons (Ac rfl) ?_ rfl ?_ ?_;(first|exact trivial|exact AU.Ah _ _|(simp [HB.under,AU.under,PV.under]));(first|exact Bo.refl _|exact Bo.vec (Bj.refl _) (by simp))))
  ·first|(intro _ _;omega)|omega|trivial
  ·intro k hk;omega
  ·intro hall
   repeat' (first|apply Ad.assoc|apply Ad.AB|apply Ad.AY|apply Ad.Ai|apply AO.normal|apply AL.exit|apply Az.exit|apply Ag.nil|apply Ag.one|(apply UH;rfl;rfl;rfl;exact le_dec rfl)|(apply UU;rfl;rfl;rfl;exact le_dec rfl)|(apply Aa.assign;rfl)|(apply Aa.move;rfl)|(apply Aa.int;rfl;rfl;rfl)|(apply Aa.BF;rfl;rfl)|(apply Ad.Af;rfl)|(intro _;try (exfalso;omega)))
   all_goals try (exfalso;omega)
   apply Ad.GU (BQ.length) (fun k=>∀ i,i<k→gi BQ i≤0) [(0,_),(1,_),(7,_)] [(1,_)] (fun k r=>(8,.p (.int .i64 (k:Int)))::r) (fun k r=>r) 2
   ·first|omega|decide
   ·first|omega|decide
   ·repeat (first|exact Ae.nil|(refine Ae.eq rfl ?_ ?_;(first|exact PV.Ak rfl|(simp [PV.under,AU.under];done)))|refine Ae.cons trivial rfl (.of_eq (Au (by simp<;>omega))) ?_)
   ·repeat (first|exact Aj.nil|(refine Aj.eq rfl (Ac rfl) ?_ ?_;(first|exact HB.Ak rfl|exact AU.Ah _ _|(simp [HB.under,AU.under,PV.under];done)))|(refine Aj.cons (Ac rfl) ?_ rfl ?_ ?_;(first|exact trivial|exact AU.Ah _ _|(simp [HB.under,AU.under,PV.under]));(first|exact Bo.refl _|exact Bo.vec (Bj.refl _) (by simp))))
   ·first|(intro _ _;omega)|omega|trivial
   ·intro k hk;omega
   ·intro hneg
    repeat' (first|apply Ad.assoc|apply Ad.AB|apply Ad.Aq|apply Ad.AY|apply Ad.Ai|apply AO.normal|(apply Bh.ret;rfl)|apply AL.exit|apply Az.exit|apply Ad.ret|apply Ag.nil|apply Ag.one|(apply Aa.assign;rfl)|(apply Aa.move;rfl)|(apply Aa.int;rfl;rfl;rfl)|(apply Aa.BF;rfl;rfl)|(apply Ad.Ar;rfl)|(apply Ad.Af;rfl)|(intro _;try (exfalso;omega)))
    all_goals try (exfalso;omega)
    all_goals try contradiction
    apply Ad.GU (l.length) (fun k=>∀ i,i<k→∀ j,j<m→gi rows i+gi BQ j≤gi (gi l i) j) [(0,_),(1,_),(2,_),(8,_),(48,_),(49,_)] [(1,_)] (fun k r=>(50,.p (.int .i64 (k:Int)))::r) (fun k r=>r) 2
    ·first|omega|decide
    ·first|omega|decide
    ·repeat (first|exact Ae.nil|(refine Ae.eq rfl ?_ ?_;(first|exact PV.Ak rfl|(simp [PV.under,AU.under];done)))|refine Ae.cons trivial rfl (.of_eq (Au (by simp<;>omega))) ?_)
    ·repeat (first|exact Aj.nil|(refine Aj.eq rfl (Ac rfl) ?_ ?_;(first|exact HB.Ak rfl|exact AU.Ah _ _|(simp [HB.under,AU.under,PV.under];done)))|(refine Aj.cons (Ac rfl) ?_ rfl ?_ ?_;(first|exact trivial|exact AU.Ah _ _|(simp [HB.under,AU.under,PV.under]));(first|exact Bo.refl _|exact Bo.vec (Bj.refl _) (by simp))))
    ·first|(intro _ _;omega)|omega|trivial
    ·intro k hk;omega
    ·intro hf
     rw [a3y hall hneg hf]
     repeat' (first|apply Ad.AB|apply Ad.AY|apply AO.normal|apply AL.exit|apply Az.exit|apply Ad.ret|apply Ag.nil|apply Ag.one|(apply Aa.assign;rfl)|(apply Aa.move;rfl)|(apply Aa.int;rfl;rfl;rfl)|(apply Ad.Af;rfl)|(intro _;try (exfalso;omega)))
     all_goals first|(exfalso;omega)|contradiction|(refine Done.ret rfl (.refl _) (by first|exact trivial|exact ⟨trivial,trivial,trivial⟩|exact ⟨trivial,trivial,trivial,trivial⟩) Aj.nil (Nat.zero_le _) (Nat.le_refl _) ⟨?_,rfl,rfl⟩;try rfl)
 ·have hcn:=Y2 rows BQ hz (by omega)
  rw [← zJ] at hcn
  generalize rows++BQ=cat at *
  generalize Iu l m rows BQ=R at *
  refine AV.enter (AA (by decide)) Tryz.func74 rfl (by kernel_rfl) (by simp [Tryz.ntmps74]) ?_
  repeat' (first|(refine Ag.Ie 30 ?_;refine Ag.ghost (AZ.freeze 29 rfl rfl) ?_)|apply Ad.assoc|apply Ad.AB|apply Ad.Aq|apply Ad.Ai|apply Ag.nil|apply Ag.one|(apply Ag.take;rfl;rfl)|(apply Ag.guard;rfl;rfl)|(apply Aa.fn;rfl;rfl;exact hcl;intro _;rfl)|(apply Aa.fv;rfl;rfl;exact hcn)|(apply Aa.assign;rfl)|(apply Aa.move;rfl)|(apply Aa.int;rfl;rfl;rfl)|(apply Aa.AP;rfl;rfl)|(apply Aa.BF;rfl;rfl)|(apply Aa.lenV;rfl;rfl;rfl)|(apply Aa.buildSlice;rfl;rfl;rfl;decide;rfl;rfl;rfl)|(apply Ad.Af;rfl)|(intro _;try (exfalso;omega)))
  all_goals try (exfalso;omega)
  apply Ad.GU (cat.length) (fun k=>∀ i,i<k→Js (gi cat i)) [(0,_),(1,_),(2,_),(30,_),(31,_)] [(1,_)] (fun k r=>(8,.p (.int .i64 (sumT cat k)))::(32,.p (.int .i64 (k:Int)))::r) (fun k r=>r) 2
  ·first|omega|decide
  ·first|omega|decide
  ·repeat (first|exact Ae.nil|(refine Ae.eq rfl ?_ ?_;(first|exact PV.Ak rfl|(simp [PV.under,AU.under];done)))|refine Ae.cons trivial rfl (.of_eq (Au (by simp<;>omega))) ?_)
  ·repeat (first|exact Aj.nil|(refine Aj.eq rfl (Ac rfl) ?_ ?_;(first|exact HB.Ak rfl|exact AU.Ah _ _|(simp [HB.under,AU.under,PV.under];done)))|(refine Aj.cons (Ac rfl) ?_ rfl ?_ ?_;(first|exact trivial|exact AU.Ah _ _|(simp [HB.under,AU.under,PV.under]));(first|exact Bo.refl _|exact Bo.vec (Bj.refl _) (by simp))))
  ·first|(intro _ _;omega)|omega|trivial
  ·intro k hk hi
   have hb:=WC k hi
   by_cases hx:Js (gi cat k)
   ·obtain ⟨x1,x2⟩:=hx
    repeat' (first|apply Ad.assoc|apply Ad.AB|apply Ad.region|apply Ad.Aq|apply Ad.Ai|apply AO.normal|apply AL.normal|apply Ag.nil|apply Ag.one|(apply Ag.take;rfl;rfl)|(apply Ag.guard;rfl;rfl)|(apply Aa.assign;rfl)|(apply Aa.move;rfl)|(apply Aa.Bq;rfl;rfl;omega)|(apply Aa.int;rfl;rfl;rfl)|(apply Aa.Dn;rfl;rfl;omega;rfl)|(apply Aa.AP;rfl;rfl)|(apply Aa.Dj;rfl;rfl;rfl;rfl;omega)|(apply Ad.Af;rfl)|(intro _;try (exfalso;omega)))
    all_goals try (exfalso;omega)
    refine Az.normal ⟨(QD hi ⟨x1,x2⟩),by first|omega|decide,?_,?_⟩
    ·repeat (first|exact Ae.nil|refine Ae.same trivial rfl ?_|refine Ae.same (Ac rfl) rfl ?_|refine Ae.same ⟨trivial,Ac rfl,trivial⟩ rfl ?_|refine Ae.same ⟨trivial,Ac rfl,Ac rfl,trivial⟩ rfl ?_|refine Ae.same ⟨trivial,Ac rfl,Ac rfl,Ac rfl,trivial⟩ rfl ?_|refine Ae.same ⟨trivial,trivial⟩ rfl ?_|refine Ae.cons trivial rfl (.of_eq (Au (by simp<;>omega))) ?_)
    ·repeat (first|exact Aj.nil|(refine Aj.cons (Ac rfl) ?_ rfl ?_ ?_;(first|exact HB.Ak rfl|exact AU.Ah _ _|(simp [HB.under,AU.under,PV.under]));(first|exact Bo.refl _|exact Bo.vec (Bj.refl _) (by simp))))
   ·rw [hp3 k hk hx]
    unfold Js at hx
    repeat' (first|apply Ad.assoc|apply Ad.AB|apply Ad.Aq|apply Ad.BH|apply Ad.Ai|apply AO.ret|apply AL.ret|apply Az.ret|apply Ag.nil|apply Ag.one|(apply Ag.take;rfl;rfl)|(apply Ag.drop;rfl;rfl;rfl)|(apply Ag.guard;rfl;rfl)|(apply Aa.assign;rfl)|(apply Aa.move;rfl)|(apply Aa.int;rfl;rfl;rfl)|(apply Aa.Dn;rfl;rfl;omega;rfl)|(apply Aa.Bv;rfl;rfl)|(apply Aa.AP;rfl;rfl)|(apply Aa.Dj;rfl;rfl;rfl;rfl;omega)|(apply Ad.Bc;rfl)|(apply Ad.Af;rfl)|(intro _;try (exfalso;omega)))
    all_goals first|(exfalso;omega)|contradiction|(refine Done.ret rfl (.refl _) (by first|exact trivial|exact ⟨trivial,trivial,trivial⟩|exact ⟨trivial,trivial,trivial,trivial⟩) Aj.nil (Nat.zero_le _) (Nat.le_refl _) ⟨?_,rfl,rfl⟩;try rfl)
  ·intro hall
   repeat' (first|apply Ad.assoc|apply Ad.AB|apply Ad.AY|apply Ad.Ai|apply AO.normal|apply AL.exit|apply Az.exit|apply Ag.nil|apply Ag.one|(apply UH;rfl;rfl;rfl;exact le_dec rfl)|(apply UU;rfl;rfl;rfl;exact le_dec rfl)|(apply Aa.assign;rfl)|(apply Aa.move;rfl)|(apply Aa.int;rfl;rfl;rfl)|(apply Aa.BF;rfl;rfl)|(apply Ad.Af;rfl)|(intro _;try (exfalso;omega)))
   all_goals try (exfalso;omega)
   apply Ad.GU (BQ.length) (fun k=>∀ i,i<k→gi BQ i≤0) [(0,_),(1,_),(7,_)] [(1,_)] (fun k r=>(8,.p (.int .i64 (k:Int)))::r) (fun k r=>r) 2
   ·first|omega|decide
   ·first|omega|decide
   ·repeat (first|exact Ae.nil|(refine Ae.eq rfl ?_ ?_;(first|exact PV.Ak rfl|(simp [PV.under,AU.under];done)))|refine Ae.cons trivial rfl (.of_eq (Au (by simp<;>omega))) ?_)
   ·repeat (first|exact Aj.nil|(refine Aj.eq rfl (Ac rfl) ?_ ?_;(first|exact HB.Ak rfl|exact AU.Ah _ _|(simp [HB.under,AU.under,PV.under];done)))|(refine Aj.cons (Ac rfl) ?_ rfl ?_ ?_;(first|exact trivial|exact AU.Ah _ _|(simp [HB.under,AU.under,PV.under]));(first|exact Bo.refl _|exact Bo.vec (Bj.refl _) (by simp))))
   ·first|(intro _ _;omega)|omega|trivial
   ·intro k hk hi
    by_cases hx:gi BQ k≤0
    ·repeat' (first|apply Ad.AB|apply Ad.region|apply Ad.Aq|apply Ad.Ai|apply AO.normal|(apply Bh.ret;rfl)|apply AL.normal|apply Ad.ret|apply Ad.skip|apply Ag.nil|apply Ag.one|(apply kR;rfl;rfl;rfl;exact le_dec rfl)|(apply Aa.assign;rfl)|(apply Aa.move;rfl)|(apply Aa.Bq;rfl;rfl;omega)|(apply Aa.int;rfl;rfl;rfl)|(apply Aa.AX;rfl;rfl;rfl;omega;rfl)|(apply Aa.load;rfl;rfl)|(apply Ad.Af;rfl)|(apply Ad.Ba;rfl)|(intro _;try (exfalso;omega)))
     all_goals try (exfalso;omega)
     refine Az.normal ⟨(QD hi hx),by first|omega|decide,?_,?_⟩
     ·repeat (first|exact Ae.nil|refine Ae.same trivial rfl ?_|refine Ae.same (Ac rfl) rfl ?_|refine Ae.same ⟨trivial,Ac rfl,trivial⟩ rfl ?_|refine Ae.same ⟨trivial,Ac rfl,Ac rfl,trivial⟩ rfl ?_|refine Ae.same ⟨trivial,Ac rfl,Ac rfl,Ac rfl,trivial⟩ rfl ?_|refine Ae.same ⟨trivial,trivial⟩ rfl ?_|refine Ae.cons trivial rfl (.of_eq (Au (by simp<;>omega))) ?_)
     ·repeat (first|exact Aj.nil|(refine Aj.cons (Ac rfl) ?_ rfl ?_ ?_;(first|exact HB.Ak rfl|exact AU.Ah _ _|(simp [HB.under,AU.under,PV.under]));(first|exact Bo.refl _|exact Bo.vec (Bj.refl _) (by simp))))
    ·rw [a3p hall k hk (by omega)]
     repeat' (first|apply Ad.assoc|apply Ad.AB|apply Ad.Aq|apply Ad.BH|apply Ad.Ai|apply AO.ret|(apply Bh.ret;rfl)|apply AL.ret|apply Az.ret|apply Ad.ret|apply Ag.nil|apply Ag.one|(apply kR;rfl;rfl;rfl;exact le_dec rfl)|(apply Aa.assign;rfl)|(apply Aa.move;rfl)|(apply Aa.int;rfl;rfl;rfl)|(apply Aa.AX;rfl;rfl;rfl;omega;rfl)|(apply Aa.load;rfl;rfl)|(apply Ad.Bc;rfl)|(apply Ad.Af;rfl)|(apply Ad.Ba;rfl)|(intro _;try (exfalso;omega)))
     all_goals first|(exfalso;omega)|contradiction|(refine Done.ret rfl (.refl _) (by first|exact trivial|exact ⟨trivial,trivial,trivial⟩|exact ⟨trivial,trivial,trivial,trivial⟩) Aj.nil (Nat.zero_le _) (Nat.le_refl _) ⟨?_,rfl,rfl⟩;try rfl)
   ·intro hneg
    repeat' (first|apply Ad.assoc|apply Ad.AB|apply Ad.Aq|apply Ad.AY|apply Ad.Ai|apply AO.normal|(apply Bh.ret;rfl)|apply AL.exit|apply Az.exit|apply Ad.ret|apply Ag.nil|apply Ag.one|(apply Aa.assign;rfl)|(apply Aa.move;rfl)|(apply Aa.int;rfl;rfl;rfl)|(apply Aa.BF;rfl;rfl)|(apply Ad.Ar;rfl)|(apply Ad.Af;rfl)|(intro _;try (exfalso;omega)))
    all_goals try (exfalso;omega)
    all_goals try contradiction
    apply Ad.GU (l.length) (fun k=>∀ i,i<k→∀ j,j<m→gi rows i+gi BQ j≤gi (gi l i) j) [(0,_),(1,_),(2,_),(8,_),(48,_),(49,_)] [(1,_)] (fun k r=>(50,.p (.int .i64 (k:Int)))::r) (fun k r=>r) 2
    ·first|omega|decide
    ·first|omega|decide
    ·repeat (first|exact Ae.nil|(refine Ae.eq rfl ?_ ?_;(first|exact PV.Ak rfl|(simp [PV.under,AU.under];done)))|refine Ae.cons trivial rfl (.of_eq (Au (by simp<;>omega))) ?_)
    ·repeat (first|exact Aj.nil|(refine Aj.eq rfl (Ac rfl) ?_ ?_;(first|exact HB.Ak rfl|exact AU.Ah _ _|(simp [HB.under,AU.under,PV.under];done)))|(refine Aj.cons (Ac rfl) ?_ rfl ?_ ?_;(first|exact trivial|exact AU.Ah _ _|(simp [HB.under,AU.under,PV.under]));(first|exact Bo.refl _|exact Bo.vec (Bj.refl _) (by simp))))
    ·first|(intro _ _;omega)|omega|trivial
    ·intro k hk hi
     have hrl:=hrow k hk
     have r1:=hall k (by omega)
     rw [gr k hk] at r1
     obtain ⟨r2,r3⟩:=r1
     repeat' (first|apply Ad.AB|apply Ad.Aq|apply Ad.Ai|apply Ad.Iw|apply Ag.nil|apply Ag.one|(apply Aa.assign;rfl)|(apply Aa.move;rfl)|(apply Aa.int;rfl;rfl;rfl)|(apply Aa.AX;rfl;rfl;rfl;omega;rfl)|(apply Aa.load;rfl;rfl)|(apply Aa.BF;rfl;rfl)|(apply Ad.Af;rfl)|(intro _;try (exfalso;omega)))
     all_goals try (exfalso;omega)
     apply Ad.GU ((gi l k).length) (fun k_=>∀ j,j<k_→gi rows k+gi BQ j≤gi (gi l k) j) [(0,_),(1,_),(2,_),(8,_),(11,_),(48,_),(49,_),(50,_),(55,_),(56,_)] [(1,_)] (fun k_ r=>(57,.p (.int .i64 (k_:Int)))::r) (fun k_ r=>r) 2
     ·first|omega|decide
     ·first|omega|decide
     ·repeat (first|exact Ae.nil|(refine Ae.eq rfl ?_ ?_;(first|exact PV.Ak rfl|(simp [PV.under,AU.under];done)))|refine Ae.cons trivial rfl (.of_eq (Au (by simp<;>omega))) ?_)
     ·repeat (first|exact Aj.nil|(refine Aj.eq rfl (Ac rfl) ?_ ?_;(first|exact HB.Ak rfl|exact AU.Ah _ _|(simp [HB.under,AU.under,PV.under];done)))|(refine Aj.cons (Ac rfl) ?_ rfl ?_ ?_;(first|exact trivial|exact AU.Ah _ _|(simp [HB.under,AU.under,PV.under]));(first|exact Bo.refl _|exact Bo.vec (Bj.refl _) (by simp))))
     ·first|(intro _ _;omega)|omega|trivial
     ·intro j hj hij
      have c1:=qI k j hk (by omega)
      have p1:=hall (rows.length+j) (by omega)
      rw [gp j (by omega)] at p1
      obtain ⟨p2,p3⟩:=p1
      by_cases hx:gi rows k+gi BQ j≤gi (gi l k) j
      ·repeat' (first|apply Ad.AB|apply Ad.BD|apply Ad.region|apply Ad.Aq|apply Ad.Ai|apply AO.normal|apply AL.normal|apply Ad.skip|apply Ag.nil|apply Ap.nil|apply Ag.one|(apply Ap.bar;decide +kernel)|apply Ap.quiet|(apply Aa.assign;rfl)|(apply Aa.move;rfl)|(apply Aa.Bq;rfl;rfl;omega)|(apply Aa.int;rfl;rfl;rfl)|(apply Aa.AX;rfl;rfl;rfl;omega;rfl)|(apply Aa.load;rfl;rfl)|(apply Ad.Af;rfl)|(apply Ad.Ba;rfl)|(intro _;try (exfalso;omega)))
       all_goals try (exfalso;omega)
       refine Az.normal ⟨(QD hij hx),by first|omega|decide,?_,?_⟩
       ·repeat (first|exact Ae.nil|refine Ae.same trivial rfl ?_|refine Ae.same (Ac rfl) rfl ?_|refine Ae.same ⟨trivial,Ac rfl,trivial⟩ rfl ?_|refine Ae.same ⟨trivial,Ac rfl,Ac rfl,trivial⟩ rfl ?_|refine Ae.same ⟨trivial,Ac rfl,Ac rfl,Ac rfl,trivial⟩ rfl ?_|refine Ae.same ⟨trivial,trivial⟩ rfl ?_|refine Ae.cons trivial rfl (.of_eq (Au (by simp<;>omega))) ?_)
       ·repeat (first|exact Aj.nil|(refine Aj.cons (Ac rfl) ?_ rfl ?_ ?_;(first|exact HB.Ak rfl|exact AU.Ah _ _|(simp [HB.under,AU.under,PV.under]));(first|exact Bo.refl _|exact Bo.vec (Bj.refl _) (by simp))))
      ·rw [a3a hall hneg k j hk (by omega) (by omega)]
       repeat' (first|apply Ad.AB|apply Ad.BD|apply Ad.Aq|apply Ad.Ai|apply AO.ret|apply AL.ret|apply Az.ret|apply Ad.ret|apply Ag.nil|apply Ap.nil|apply Ag.one|(apply Ap.bar;decide +kernel)|apply Ap.quiet|(apply Aa.assign;rfl)|(apply Aa.move;rfl)|(apply Aa.Bq;rfl;rfl;omega)|(apply Aa.int;rfl;rfl;rfl)|(apply Aa.AX;rfl;rfl;rfl;omega;rfl)|(apply Aa.load;rfl;rfl)|(apply Ad.Af;rfl)|(apply Ad.Ba;rfl)|(intro _;try (exfalso;omega)))
       all_goals first|(exfalso;omega)|contradiction|(refine Done.ret rfl (.refl _) (by first|exact trivial|exact ⟨trivial,trivial,trivial⟩|exact ⟨trivial,trivial,trivial,trivial⟩) Aj.nil (Nat.zero_le _) (Nat.le_refl _) ⟨?_,rfl,rfl⟩;try rfl)
     ·intro wz
      rw [hrl] at wz
      repeat' (first|apply Ad.AB|apply Ad.region|apply Ad.AY|apply AO.normal|apply AL.normal|apply AL.exit|apply Az.exit|apply Ag.nil|apply Ag.one|(apply Aa.move;rfl)|(apply Aa.Bq;rfl;rfl;omega)|(apply Aa.int;rfl;rfl;rfl)|(apply Ad.Af;rfl)|(intro _;try (exfalso;omega)))
      all_goals try (exfalso;omega)
      refine Az.normal ⟨(QD hi wz),by first|omega|decide,?_,?_⟩
      ·repeat (first|exact Ae.nil|refine Ae.same trivial rfl ?_|refine Ae.same (Ac rfl) rfl ?_|refine Ae.same ⟨trivial,Ac rfl,trivial⟩ rfl ?_|refine Ae.same ⟨trivial,Ac rfl,Ac rfl,trivial⟩ rfl ?_|refine Ae.same ⟨trivial,Ac rfl,Ac rfl,Ac rfl,trivial⟩ rfl ?_|refine Ae.same ⟨trivial,trivial⟩ rfl ?_|refine Ae.cons trivial rfl (.of_eq (Au (by simp<;>omega))) ?_)
      ·repeat (first|exact Aj.nil|(refine Aj.cons (Ac rfl) ?_ rfl ?_ ?_;(first|exact HB.Ak rfl|exact AU.Ah _ _|(simp [HB.under,AU.under,PV.under]));(first|exact Bo.refl _|exact Bo.vec (Bj.refl _) (by simp))))
    ·intro hf
     rw [a3y hall hneg hf]
     repeat' (first|apply Ad.AB|apply Ad.AY|apply AO.normal|apply AL.exit|apply Az.exit|apply Ad.ret|apply Ag.nil|apply Ag.one|(apply Aa.assign;rfl)|(apply Aa.move;rfl)|(apply Aa.int;rfl;rfl;rfl)|(apply Ad.Af;rfl)|(intro _;try (exfalso;omega)))
     all_goals first|(exfalso;omega)|contradiction|(refine Done.ret rfl (.refl _) (by first|exact trivial|exact ⟨trivial,trivial,trivial⟩|exact ⟨trivial,trivial,trivial,trivial⟩) Aj.nil (Nat.zero_le _) (Nat.le_refl _) ⟨?_,rfl,rfl⟩;try rfl)
noncomputable def lM (l:List (List Int)) (m:Nat) (r:QL) (sum e most:Int):Int :=
 open Classical in
 if e≠0 then e else if sum≠r.total then 7 else if (Iu l m r.rows r.BQ).2≠0 then (Iu l m r.rows r.BQ).2
 else if (Iu l m r.rows r.BQ).1<r.total∨∃ i,i<r.rows.length∧gi r.rows i>most then 20 else 0
noncomputable def vN (l:List (List Int)) (m:Nat) (skip:Int) (r:QL):Int:=lM l m r (Zb l m skip r.cols).1 (Zb l m skip r.cols).2 skip
theorem iJ {l:List (List Int)} {m:Nat} {skip B:Int} (ty:TypeId) (h:Qr l l.length m skip B) (r:QL) (sum e most:Int) :
 AV env 48 [.lst ty (cells l) l.length,.agg (Enc.enc r),.int .i64 sum,.int .i64 e,.int .i64 most] (.p (.int .i64 (lM l m r sum e most))):=by
 have hp:=Uj ty h r.rows r.BQ
 have hE:lM l m r sum e most=if e≠0 then e else if sum≠r.total then 7 else if (Iu l m r.rows r.BQ).2≠0 then (Iu l m r.rows r.BQ).2
  else open Classical in if (Iu l m r.rows r.BQ).1<r.total∨∃ i,i<r.rows.length∧gi r.rows i>most then 20 else 0:=rfl
 rw [hE]
 clear hE
 refine AV.enter (AA (by decide)) Tryz.func48 rfl (by kernel_rfl) (by simp [Tryz.ntmps48]) ?_
 by_cases e1:e=0
 case neg =>
  rw [if_pos e1]
  repeat' (first|apply Ad.AB|apply Ad.Ai|apply AO.ret|apply AL.ret|apply Ad.ret|apply Ag.nil|apply Ag.one|(apply Aa.assign;rfl)|(apply Aa.move;rfl)|(apply Aa.int;rfl;rfl;rfl)|(apply Aa.box;rfl;trivial)|(apply Ad.Ba;rfl)|(intro _;try (exfalso;omega)))
  all_goals first|(exfalso;omega)|contradiction|(refine Done.ret rfl (.refl _) (by first|exact trivial|exact ⟨trivial,trivial,trivial⟩|exact ⟨trivial,trivial,trivial,trivial⟩) Aj.nil (Nat.zero_le _) (Nat.le_refl _) ⟨?_,rfl,rfl⟩;try rfl)
 rw [if_neg (fun x=>x e1)]
 by_cases e2:sum=r.total
 case neg =>
  rw [if_pos e2]
  repeat' (first|apply Ad.AB|apply Ad.Ai|apply AO.ret|apply AL.ret|apply Ad.ret|apply Ag.nil|apply Ag.one|(apply Aa.assign;rfl)|(apply Aa.move;rfl)|(apply Aa.int;rfl;rfl;rfl)|(apply Aa.load;rfl;rfl)|(apply Aa.AQ;rfl;rfl;rfl)|(apply Aa.box;rfl;trivial)|(apply Ad.Ba;rfl)|(intro _;try (exfalso;omega)))
  all_goals first|(exfalso;omega)|contradiction|(refine Done.ret rfl (.refl _) (by first|exact trivial|exact ⟨trivial,trivial,trivial⟩|exact ⟨trivial,trivial,trivial,trivial⟩) Aj.nil (Nat.zero_le _) (Nat.le_refl _) ⟨?_,rfl,rfl⟩;try rfl)
 rw [if_neg (fun x=>x e2)]
 have hlen0:(Iu l m r.rows r.BQ).2=0→r.rows.length=l.length:=fun h0=>Classical.byContradiction fun h1=>by
  rw [a2o (fun x=>h1 x.1)] at h0
  cases h0
 have h60:=h.n60
 generalize Iu l m r.rows r.BQ=P at *
 obtain ⟨b,e3⟩:=P
 simp only at hp hlen0 ⊢
 by_cases e4:e3=0
 case neg =>
  rw [if_pos e4]
  repeat' (first|apply Ad.AB|apply Ad.Ai|apply AO.normal|apply AO.ret|apply AL.normal|apply AL.ret|apply Ad.ret|apply Ad.skip|apply Ag.nil|apply Ag.one|(apply Aa.fn;rfl;rfl;exact hp;intro _;rfl)|(apply Aa.assign;rfl)|(apply Aa.move;rfl)|(apply Aa.int;rfl;rfl;rfl)|(apply Aa.load;rfl;rfl)|(apply Aa.AQ;rfl;rfl;rfl)|(apply Aa.box;rfl;trivial)|(apply Aa.extract;rfl;rfl)|(apply Ad.Ba;rfl)|(intro _;try (exfalso;omega)))
  all_goals first|(exfalso;omega)|contradiction|(refine Done.ret rfl (.refl _) (by first|exact trivial|exact ⟨trivial,trivial,trivial⟩|exact ⟨trivial,trivial,trivial,trivial⟩) Aj.nil (Nat.zero_le _) (Nat.le_refl _) ⟨?_,rfl,rfl⟩;try rfl)
 rw [if_neg (fun x=>x e4)]
 have hlen:=hlen0 e4
 by_cases e5:b<r.total
 ·rw [if_pos (.inl e5)]
  repeat' (first|apply Ad.AB|apply Ad.Ai|apply AO.normal|apply AO.ret|apply AL.normal|apply AL.ret|apply Ad.ret|apply Ad.skip|apply Ag.nil|apply Ag.one|(apply Ag.drop;rfl;rfl;rfl)|(apply Ag.guard;rfl;rfl)|(apply Aa.fn;rfl;rfl;exact hp;intro _;rfl)|(apply Aa.assign;rfl)|(apply Aa.move;rfl)|(apply Aa.int;rfl;rfl;rfl)|(apply Aa.load;rfl;rfl)|(apply Aa.Bv;rfl;rfl)|(apply Aa.AQ;rfl;rfl;rfl)|(apply Aa.box;rfl;trivial)|(apply Aa.extract;rfl;rfl)|(apply Ad.cond_true;rfl)|(apply Ad.Ba;rfl)|(intro _;try (exfalso;omega)))
  all_goals first|(exfalso;omega)|contradiction|(refine Done.ret rfl (.refl _) (by first|exact trivial|exact ⟨trivial,trivial,trivial⟩|exact ⟨trivial,trivial,trivial,trivial⟩) Aj.nil (Nat.zero_le _) (Nat.le_refl _) ⟨?_,rfl,rfl⟩;try rfl)
 ·repeat' (first|apply Ad.assoc|apply Ad.AB|apply Ad.Ai|apply AO.normal|apply AL.normal|apply Ad.skip|apply Ag.nil|apply Ag.one|(apply Ag.take;rfl;rfl)|(apply Ag.guard;rfl;rfl)|(apply Aa.fn;rfl;rfl;exact hp;intro _;rfl)|(apply Aa.makeFunc;rfl;rfl)|(apply UH;rfl;rfl;rfl;exact le_dec rfl)|(apply UU;rfl;rfl;rfl;exact le_dec rfl)|(apply Aa.assign;rfl)|(apply Aa.move;rfl)|(apply Aa.int;rfl;rfl;rfl)|(apply Aa.load;rfl;rfl)|(apply Aa.BF;rfl;rfl)|(apply Aa.AQ;rfl;rfl;rfl)|(apply Aa.box;rfl;trivial)|(apply Aa.extract;rfl;rfl)|(apply Ad.Ba;rfl)|(intro _;try (exfalso;omega)))
  all_goals try (exfalso;omega)
  all_goals try contradiction
  apply Ad.GU (r.rows.length) (fun k=>∀ i,i<k→gi r.rows i≤most) [(0,_),(1,_),(7,_)] [(1,_),(0,_)] (fun k r=>(8,.p (.int .i64 (k:Int)))::r) (fun k r=>r) 2
  ·first|omega|decide
  ·first|omega|decide
  ·repeat (first|exact Ae.nil|(refine Ae.eq rfl ?_ ?_;(first|exact PV.Ak rfl|(simp [PV.under,AU.under];done)))|refine Ae.cons trivial rfl (.of_eq (Au (by simp<;>omega))) ?_)
  ·repeat (first|exact Aj.nil|(refine Aj.eq rfl (Ac rfl) ?_ ?_;(first|exact HB.Ak rfl|exact AU.Ah _ _|(simp [HB.under,AU.under,PV.under];done)))|(refine Aj.cons (Ac rfl) ?_ rfl ?_ ?_;(first|exact trivial|exact AU.Ah _ _|(simp [HB.under,AU.under,PV.under]));(first|exact Bo.refl _|exact Bo.vec (Bj.refl _) (by simp))))
  ·first|(intro _ _;omega)|omega|trivial
  ·intro k hk hi
   by_cases hx:gi r.rows k≤most
   ·repeat' (first|apply Ad.AB|apply Ad.region|apply Ad.Aq|apply Ad.Ai|apply AO.normal|(apply Bh.ret;rfl)|apply AL.normal|apply Ad.ret|apply Ad.skip|apply Ag.nil|apply Ag.one|(apply kP;rfl;rfl;rfl;exact le_dec rfl)|(apply Aa.assign;rfl)|(apply Aa.move;rfl)|(apply Aa.Bq;rfl;rfl;omega)|(apply Aa.int;rfl;rfl;rfl)|(apply Aa.AX;rfl;rfl;rfl;omega;rfl)|(apply Aa.load;rfl;rfl)|(apply Ad.Af;rfl)|(apply Ad.Ba;rfl)|(intro _;try (exfalso;omega)))
    all_goals try (exfalso;omega)
    refine Az.normal ⟨(QD hi hx),by first|omega|decide,?_,?_⟩
    ·repeat (first|exact Ae.nil|refine Ae.same trivial rfl ?_|refine Ae.same (Ac rfl) rfl ?_|refine Ae.same ⟨trivial,Ac rfl,trivial⟩ rfl ?_|refine Ae.same ⟨trivial,Ac rfl,Ac rfl,trivial⟩ rfl ?_|refine Ae.same ⟨trivial,Ac rfl,Ac rfl,Ac rfl,trivial⟩ rfl ?_|refine Ae.same ⟨trivial,trivial⟩ rfl ?_|refine Ae.cons trivial rfl (.of_eq (Au (by simp<;>omega))) ?_)
    ·repeat (first|exact Aj.nil|(refine Aj.cons (Ac rfl) ?_ rfl ?_ ?_;(first|exact HB.Ak rfl|exact AU.Ah _ _|(simp [HB.under,AU.under,PV.under]));(first|exact Bo.refl _|exact Bo.vec (Bj.refl _) (by simp))))
   ·rw [if_pos (.inr ⟨k,hk,by omega⟩)]
    repeat' (first|apply Ad.AB|apply Ad.Aq|apply Ad.Ai|apply AO.ret|(apply Bh.ret;rfl)|apply AL.ret|apply Az.ret|apply Ad.ret|apply Ag.nil|apply Ag.one|(apply kP;rfl;rfl;rfl;exact le_dec rfl)|(apply Aa.assign;rfl)|(apply Aa.move;rfl)|(apply Aa.int;rfl;rfl;rfl)|(apply Aa.AX;rfl;rfl;rfl;omega;rfl)|(apply Aa.load;rfl;rfl)|(apply Aa.AP;rfl;rfl)|(apply Ad.Af;rfl)|(apply Ad.cond_true;rfl)|(apply Ad.Ba;rfl)|(intro _;try (exfalso;omega)))
    all_goals first|(exfalso;omega)|contradiction|(refine Done.ret rfl (.refl _) (by first|exact trivial|exact ⟨trivial,trivial,trivial⟩|exact ⟨trivial,trivial,trivial,trivial⟩) Aj.nil (Nat.zero_le _) (Nat.le_refl _) ⟨?_,rfl,rfl⟩;try rfl)
  ·intro hall
   rw [if_neg (by
    rintro (h1|⟨i,h1,h2⟩)
    ·exact e5 h1
    ·have:=hall i h1;omega)]
   repeat' (first|apply Ad.AB|apply Ad.AY|apply AO.normal|(apply Bh.ret;rfl)|apply AL.normal|apply AL.exit|apply Az.exit|apply Ad.ret|apply Ad.skip|apply Ag.nil|apply Ag.one|(apply Aa.assign;rfl)|(apply Aa.int;rfl;rfl;rfl)|(apply Aa.AP;rfl;rfl)|(apply Ad.Af;rfl)|(apply Ad.cond_false;rfl)|(intro _;try (exfalso;omega)))
   all_goals first|(exfalso;omega)|contradiction|(refine Done.ret rfl (.refl _) (by first|exact trivial|exact ⟨trivial,trivial,trivial⟩|exact ⟨trivial,trivial,trivial,trivial⟩) Aj.nil (Nat.zero_le _) (Nat.le_refl _) ⟨?_,rfl,rfl⟩;try rfl)
theorem ZU {l:List (List Int)} {m:Nat} {skip B:Int} (ty:TypeId) (h:Qr l l.length m skip B) (r:QL) :
 AV env 22 [.lst ty (cells l) l.length,.int .i64 skip,.agg (Enc.enc r)] (.p (.int .i64 (vN l m skip r))):=by
 have hc:=LP ty h
 have ht:=fJ ty h r.cols
 have hp:=iJ ty h r (Zb l m skip r.cols).1 (Zb l m skip r.cols).2 skip
 refine AV.enter (AA (by decide)) Tryz.func22 rfl (by kernel_rfl) (by simp [Tryz.ntmps22]) ?_
 repeat' (first|apply Ad.assoc|apply Ad.AB|apply Ad.Aq|apply Ad.ret|apply Ag.nil|apply Ag.one|(apply Aa.fn;rfl;rfl;exact hc;intro _;rfl)|(apply Aa.fn;rfl;rfl;exact ht;intro _;rfl)|(apply Aa.fn;rfl;rfl;exact hp;intro _;rfl)|(apply Aa.assign;rfl)|(apply Aa.move;rfl)|(apply Aa.int;rfl;rfl;rfl)|(apply Aa.load;rfl;rfl)|(apply Aa.AQ;rfl;rfl;rfl)|(apply Aa.box;rfl;trivial)|(apply Aa.extract;rfl;rfl)|(apply Ad.Ar;rfl))
 all_goals first|(exfalso;omega)|contradiction|(refine Done.ret rfl (.refl _) (by first|exact trivial|exact ⟨trivial,trivial,trivial⟩|exact ⟨trivial,trivial,trivial,trivial⟩) Aj.nil (Nat.zero_le _) (Nat.le_refl _) ⟨?_,rfl,rfl⟩;try rfl)
theorem Q8 {l:List (List Int)} {m:Nat} {skip:Int} {cols:List Int} (h:mF l.length m fun r=>gi cols r):∀ (r k:Nat) (used:List Bool) (sum:Int),k+r=l.length→(∀ q,k≤q→q<l.length→0≤gi cols q→gi used (gi cols q).toNat=false)→used.length=m →
 Xy l m skip cols r k used sum=(sum+SN (ZL l skip fun r=>gi cols r) l.length r,0)
 |0,k,used,sum,hk,hu,hl=>by simp [Xy,SN]
 |r+1,k,used,sum,hk,hu,hl=>by
  have hrg:=h.rng k (by omega)
  have hrg:-1≤gi cols k∧gi cols k<m:=hrg
  have ek:l.length-(r+1)=k:=by omega
  unfold Xy
  rw [if_neg (by omega)]
  simp only [SN,ek]
  by_cases c2:gi cols k<0
  ·rw [if_pos c2,Q8 h r (k+1) used (sum+skip) (by omega) (fun q q1 q2 q3=>hu q (by omega) q2 q3) hl]
   have e:ZL l skip (fun r=>gi cols r) k=skip:=if_pos c2
   rw [e,Int.add_assoc]
  ·rw [if_neg c2,hu k (Nat.le_refl _) (by omega) (by omega),if_neg (by decide)]
   have e:ZL l skip (fun r=>gi cols r) k=gi (gi l k) (gi cols k).toNat:=if_neg c2
   rw [Q8 h r (k+1) _ _ (by omega) (fun q q1 q2 q3=>?_) (by rw [List.length_set];exact hl),e,Int.add_assoc]
   rw [gs (by omega),if_neg]
   ·exact hu q (by omega) q2 q3
   ·intro e
    have:=h.inj k q (by omega) q2 (show 0≤gi cols k by omega) (show gi cols k=gi cols q by omega)
    omega
theorem XE (l:List Int):∀ k,sumT l k=Dz (fun i=>gi l i) k
 |0=>rfl
 |k+1=>by simp only [sumT,Dz,XE l k]
theorem qF {l:List (List Int)} {m:Nat} {skip B:Int} (h:Qr l l.length m skip B):vN l m skip (Y4 l m skip)=0:=by
 have hP:=sU h.Xj
 have hB:=h.B9
 have hm:(Y4 l m skip)=⟨uq l l.length m skip,jr l l.length m skip,uo l l.length m skip,qp l l.length m skip⟩:=rfl
 rw [hm]
 generalize uq l l.length m skip=C at *
 generalize jr l l.length m skip=T at *
 generalize uo l l.length m skip=U at *
 generalize qp l l.length m skip=V at *
 have ht:Zb l m skip C=(T,0):=by
  unfold Zb
  rw [if_neg (fun x=>x hP.lC),Q8 hP.part l.length 0 _ 0 (by omega) (fun q _ _ _=>by
   unfold gi;rw [List.getElem?_replicate];split<;>rfl) (by simp),nM,← hP.tot]
  simp
 have a5x:∀ i,i<(U++V).length→Js (gi (U++V) i):=fun i hi=>by
  rw [List.length_append,hP.lU,hP.lV] at hi
  rcases Nat.lt_or_ge i l.length with h1|h1
  ·rw [U0 (by rw [hP.lU];exact h1)]
   have:=hP.a7w i h1
   exact ⟨by omega,by omega⟩
  ·obtain ⟨j,rfl⟩:∃ j,i=U.length+j:=⟨i-U.length,by have:=hP.lU;omega⟩
   rw [U9]
   have:=hP.lU
   have:=hP.a3i j (by omega)
   exact ⟨by omega,by omega⟩
 have hs:sumT (U++V) (U++V).length=T:=by
  rw [XE,List.length_append,O5,hP.a0w,hP.lU,hP.lV]
  congr 1
  ·exact EI fun k hk=>U0 (by rw [hP.lU];exact hk)
  ·exact EI fun k hk=>by
    have:=U9 (a:=U) (b:=V) (i:=k)
    rw [hP.lU] at this
    exact this
 have hp:Iu l m U V=(T,0):=by
  rw [zy ⟨hP.lU,hP.lV⟩ a5x (fun k hk=>(hP.a3i k (by have:=hP.lV;omega)).2) (fun i hi k hk=>hP.pot.Wh i k hi hk),hs]
 unfold vN lM
 simp only [ht,hp]
 rw [if_neg (fun h=>h rfl),if_neg (fun h=>h rfl),if_neg (fun h=>h rfl),if_neg]
 rintro (h1|⟨i,h1,h2⟩)
 ·omega
 ·have:=hP.pot.skip i (by have:=hP.lU;omega)
  have:gi U i≤skip:=this
  omega
end Go.Proofs.YtdabojnmoejilaaGreatDoor
namespace Go.Proofs.YtdabojnmoejilaaGreatDoor
open Go Go.Am Go.Vm Go.Tra Go.Hun
attribute [local irreducible] Aa Ag Ap Ad BA AV CS AO AL Az Vm.Done Df Bh
attribute [local irreducible] DX DN Jc KA Rj Cc
structure eX (q:SY):Prop where
 sm1:OT q.Cj
 sm2:OT q.tgt
 rg:q.reg.Ok
 err:fE q=0
 shb:ShB q.Cj q.tgt
theorem Jg {q:SY} (h:fE q=0):KL q.Cj=0∧Lj q.Cj q.reg=0∧KL q.tgt=0∧ND q.Ii∧(BM q.Cj q.reg).length≤60∧(CV q.tgt).length≤120:=by
 unfold fE at h
 split at h
 ·rename_i h1;exact absurd h h1
 rename_i h1
 split at h
 ·rename_i h2;exact absurd h h2
 rename_i h2
 split at h
 ·rename_i h3;exact absurd h h3
 rename_i h3
 split at h
 ·exact absurd h (by decide)
 rename_i h4
 split at h
 ·exact absurd h (by decide)
 rename_i h5
 exact ⟨Classical.not_not.1 h1,Classical.not_not.1 h2,Classical.not_not.1 h3,Classical.not_not.1 h4,by omega,by omega⟩
theorem eX.k1 {q:SY} (h:eX q):Ig q.Cj:=wZ h.sm1 (Jg h.err).1
theorem eX.k2 {q:SY} (h:eX q):Ig q.tgt:=wZ h.sm2 (Jg h.err).2.2.1
theorem eX.Ii {q:SY} (h:eX q):ND q.Ii:=(Jg h.err).2.2.2.1
theorem eX.len {q:SY} (h:eX q):q.reg.stops.length=q.Cj.Aw.length:=YJ (Jg h.err).2.1
def IZ (q:SY):List (List Int):=Nj q.Cj q.tgt q.reg q.Ii
def OO (q:SY):Nat:=if (BM q.Cj q.reg).length=0 then 0 else (CV q.tgt).length
theorem oQ (q:SY):(IZ q).length=(BM q.Cj q.reg).length:=by simp [IZ,Nj]
theorem qL (q:SY) {r k:Nat} (hr:r<(BM q.Cj q.reg).length) (hk:k<(CV q.tgt).length):gi (gi (IZ q) r) k=OQ q.Cj q.tgt q.Ii (gi (BM q.Cj q.reg) r) (gi (CV q.tgt) k):=by
 unfold IZ Nj
 rw [gi_map' _ hr,gi_map' _ hk]
theorem pV (q:SY) {r:Nat} (hr:r<(BM q.Cj q.reg).length):(gi (IZ q) r).length=(CV q.tgt).length:=by
 unfold IZ Nj
 rw [gi_map' _ hr,List.length_map]
theorem eX.Xj {q:SY} (h:eX q):Qr (IZ q) (IZ q).length (OO q) q.Ii.miss 101000000:=by
 obtain ⟨_,_,_,hw,h5,h6⟩:=Jg h.err
 obtain ⟨_,_,_,w4⟩:=QF hw
 have hl:=oQ q
 refine ⟨⟨rfl,fun r hr=>?_,fun r k hr hk=>?_,⟨w4.1,by omega⟩,by decide⟩,by omega,?_,by decide,fun h0=>?_⟩
 ·rw [pV q (by omega)]
  unfold OO;rw [if_neg (by omega)]
 ·unfold OO at hk
  rw [if_neg (by omega)] at hk
  rw [qL q (by omega) hk]
  exact jf hw h.shb (XQ (iZ (by omega))) (UL hk)
 ·unfold OO;split<;>omega
 ·unfold OO;rw [if_pos (by omega)]
theorem Xe {l:List (List Int)} {m:Nat} {skip B:Int} (e:TypeId) (h:Qr l l.length m skip B):AV env 45 [.lst e (cells l) l.length,.int .i64 skip] (.EP [.p (.agg (Enc.enc (Y4 l m skip))),.p (.int .i64 0)]):=by
 rcases Nat.eq_zero_or_pos l.length with h0|h0
 ·have hm:=h.m0 h0
  have hl:l=[]:=List.length_eq_zero_iff.1 h0
  subst hl;subst hm
  have:=h.Xj.skip
  have:=h.B9
  exact Xu e (by omega)
 ·exact Zv e h h0
theorem Lp {q:SY} (h:eX q):AV env 15 [.agg (Enc.enc q)] (.EP [.p (.lst 52 (cells (IZ q)) (IZ q).length),.p (.int .i64 0)]):=by
 have hc:=dW q h.sm1 h.sm2 h.rg
 rw [h.err] at hc
 have hl:=Xl q h.k1 h.k2 h.Ii h.shb h.rg h.len
 rw [show Nj q.Cj q.tgt q.reg q.Ii=IZ q from rfl] at hl
 refine AV.enter (AA (by decide)) Tryz.func15 rfl (by kernel_rfl) (by simp [Tryz.ntmps15]) ?_
 repeat' (first|apply Ad.assoc|apply Ad.AB|apply Ad.Aq|apply Ad.ret|apply Ag.nil|apply Ag.one|(apply Aa.fn;rfl;rfl;exact hc;intro _;rfl)|(apply Aa.fn;rfl;rfl;exact hl;intro _;rfl)|(apply Aa.assign;rfl)|(apply Aa.move;rfl)|(apply Aa.int;rfl;rfl;rfl)|(apply Aa.load;rfl;rfl)|(apply Aa.box;rfl;trivial)|(apply Aa.extract;rfl;rfl)|(apply Ad.Ar;rfl))
 all_goals first|(exfalso;omega)|contradiction|(refine Done.ret rfl (.refl _) (by first|exact trivial|exact ⟨trivial,trivial,trivial⟩|exact ⟨trivial,trivial,trivial,trivial⟩) Aj.nil (Nat.zero_le _) (Nat.le_refl _) ⟨?_,rfl,rfl⟩;try rfl)
noncomputable def MQ (q:SY):QL:=Y4 (IZ q) (OO q) q.Ii.miss
theorem VN {q:SY} (h:eX q):AV env 17 [.agg (Enc.enc q)] (.EP [.p (.agg (Enc.enc (MQ q))),.p (.int .i64 0)]):=by
 have hl:=Lp h
 have hp:=Xe 52 h.Xj
 rw [show Y4 (IZ q) (OO q) q.Ii.miss=MQ q from rfl] at hp
 generalize MQ q=b at *
 refine AV.enter (AA (by decide)) Tryz.func17 rfl (by kernel_rfl) (by simp [Tryz.ntmps17]) ?_
 repeat' (first|apply Ad.assoc|apply Ad.AB|apply Ad.Aq|apply Ad.ret|apply Ag.nil|apply Ag.one|(apply Aa.fn;rfl;rfl;exact hl;intro _;rfl)|(apply Aa.fn;rfl;rfl;exact hp;intro _;rfl)|(apply Aa.assign;rfl)|(apply Aa.move;rfl)|(apply Aa.int;rfl;rfl;rfl)|(apply Aa.load;rfl;rfl)|(apply Aa.AQ;rfl;rfl;rfl)|(apply Aa.box;rfl;trivial)|(apply Aa.alloc;rfl)|(apply Aa.Bl;rfl;rfl;rfl;trivial;rfl;rfl;exact Ac rfl;exact le_dec rfl)|(apply Aa.build;rfl;rfl;rfl;rfl;rfl)|(apply Aa.extract;rfl;rfl)|(apply Ad.Ar;rfl))
 all_goals first|(exfalso;omega)|contradiction|(refine Done.ret rfl (.refl _) (by first|exact trivial|exact ⟨trivial,trivial,trivial⟩|exact ⟨trivial,trivial,trivial,trivial⟩) Aj.nil (Nat.zero_le _) (Nat.le_refl _) ⟨?_,rfl,rfl⟩;try rfl)
def a8j:List FV:=[.val (.slice none 0 0),.int .i64 0,.val (.slice none 0 0),.val (.slice none 0 0)]
theorem YR {q:SY} (h:eX q) (p:QL):AV env 21 [.agg (Enc.enc q),.agg (Enc.enc p)] (.p (.int .i64 (vN (IZ q) (OO q) q.Ii.miss p))):=by
 have hl:=Lp h
 have hp:=ZU 52 h.Xj p
 refine AV.enter (AA (by decide)) Tryz.func21 rfl (by kernel_rfl) (by simp [Tryz.ntmps21]) ?_
 repeat' (first|apply Ad.assoc|apply Ad.AB|apply Ad.Aq|apply Ad.ret|apply Ag.nil|apply Ag.one|(apply Aa.fn;rfl;rfl;exact hl;intro _;rfl)|(apply Aa.fn;rfl;rfl;exact hp;intro _;rfl)|(apply Aa.assign;rfl)|(apply Aa.move;rfl)|(apply Aa.int;rfl;rfl;rfl)|(apply Aa.load;rfl;rfl)|(apply Aa.AQ;rfl;rfl;rfl)|(apply Aa.box;rfl;trivial)|(apply Aa.build;rfl;rfl;rfl;rfl;rfl)|(apply Aa.extract;rfl;rfl)|(apply Ad.Ar;rfl))
 all_goals first|(exfalso;omega)|contradiction|(refine Done.ret rfl (.refl _) (by first|exact trivial|exact ⟨trivial,trivial,trivial⟩|exact ⟨trivial,trivial,trivial,trivial⟩) Aj.nil (Nat.zero_le _) (Nat.le_refl _) ⟨?_,rfl,rfl⟩;try rfl)
theorem aj (o:Ey) (ho:Ig o) (r:Rgs) (hr:r.Ok) (he:Lj o r=0):AV env 27 [.agg (Enc.enc o),.agg (Enc.enc r)] (.EP [.p (.lst 85 (cells (BM o r)) (BM o r).length),.p (.int .i64 0)]):=by
 have hc:=EZ o ho.sm
 rw [ho.err] at hc
 have hg:=QZ o ho r hr
 rw [he] at hg
 have hd:=Nq o ho r hr (YJ he)
 refine AV.enter (AA (by decide)) Tryz.func27 rfl (by kernel_rfl) (by simp [Tryz.ntmps27]) ?_
 repeat' (first|apply Ad.assoc|apply Ad.AB|apply Ad.Aq|apply Ad.ret|apply Ag.nil|apply Ag.one|(apply Aa.fn;rfl;rfl;exact hc;intro _;rfl)|(apply Aa.fn;rfl;rfl;exact hg;intro _;rfl)|(apply Aa.fn;rfl;rfl;exact hd;intro _;rfl)|(apply Aa.assign;rfl)|(apply Aa.move;rfl)|(apply Aa.int;rfl;rfl;rfl)|(apply Aa.load;rfl;rfl)|(apply Aa.box;rfl;trivial)|(apply Ad.Ar;rfl))
 all_goals first|(exfalso;omega)|contradiction|(refine Done.ret rfl (.refl _) (by first|exact trivial|exact ⟨trivial,trivial,trivial⟩|exact ⟨trivial,trivial,trivial,trivial⟩) Aj.nil (Nat.zero_le _) (Nat.le_refl _) ⟨?_,rfl,rfl⟩;try rfl)
theorem YB (o:Ey) (ho:Ig o) (r:Rgs) (hr:r.Ok) (he:Lj o r≠0):AV env 27 [.agg (Enc.enc o),.agg (Enc.enc r)] (.EP [.p (.val (.slice none 0 0)),.p (.int .i64 (Lj o r))]):=by
 have hc:=EZ o ho.sm
 rw [ho.err] at hc
 have hg:=QZ o ho r hr
 refine AV.enter (AA (by decide)) Tryz.func27 rfl (by kernel_rfl) (by simp [Tryz.ntmps27]) ?_
 repeat' (first|apply Ad.assoc|apply Ad.AB|apply Ad.Aq|apply Ad.BH|apply Ag.nil|apply Ag.one|(apply Aa.fn;rfl;rfl;exact hc;intro _;rfl)|(apply Aa.fn;rfl;rfl;exact hg;intro _;rfl)|(apply Aa.assign;rfl)|(apply Aa.move;rfl)|(apply Aa.int;rfl;rfl;rfl)|(apply Aa.load;rfl;rfl)|(apply Aa.box;rfl;trivial)|(apply Ad.Ar;rfl)|(apply Ad.Af;rfl)|(intro _;try (exfalso;omega)))
 all_goals first|(exfalso;omega)|contradiction|(refine Done.ret rfl (.refl _) (by first|exact trivial|exact ⟨trivial,trivial,trivial⟩|exact ⟨trivial,trivial,trivial,trivial⟩) Aj.nil (Nat.zero_le _) (Nat.le_refl _) ⟨?_,rfl,rfl⟩;try rfl)
theorem fG (o:Ey) (ho:Ig o) (p:Ol) (hp:G9 o p):AV env 29 [.agg (Enc.enc o),.agg (Enc.enc p)] (.EP [st (MR o p),.p (.int .i64 0)]):=by
 have hc:=EZ o ho.sm
 rw [ho.err] at hc
 have ht:=PK o ho p hp
 obtain ⟨h1,h2⟩:=hp
 have s1:=ho.stops p.d h1
 refine AV.enter (AA (by decide)) Tryz.func29 rfl (by kernel_rfl) (by simp [Tryz.ntmps29]) ?_
 repeat' (first|apply Ad.assoc|apply Ad.AB|apply Ad.BD|apply Ad.Aq|apply Ad.ret|apply Ag.nil|apply Ap.nil|apply Ag.one|(apply Ap.bar;decide +kernel)|(apply Ap.G5;rfl;rfl)|(apply Ap.guard;rfl;rfl)|(apply Aa.fn;rfl;rfl;exact hc;intro _;rfl)|(apply Aa.fn;rfl;rfl;exact ht;intro _;rfl)|(apply Aa.AX (l:=o.Aw) (i:=p.d);rfl;rfl;rfl;exact h1;rfl)|(apply Aa.assign;rfl)|(apply Aa.move;rfl)|(apply Aa.int;rfl;rfl;rfl)|(apply Aa.load;rfl;rfl)|(apply Aa.AP;rfl;rfl)|(apply Aa.BF;rfl;rfl)|(apply Aa.AQ;rfl;rfl;rfl)|(apply Aa.DF;rfl;rfl)|(apply Aa.box;rfl;trivial)|(apply Ad.Ar;rfl)|(apply Ad.Af;rfl)|(intro _;try (exfalso;omega)))
 all_goals first|(exfalso;omega)|contradiction|(refine Done.ret rfl (.refl _) (by first|exact trivial|exact ⟨trivial,trivial,trivial⟩|exact ⟨trivial,trivial,trivial,trivial⟩) Aj.nil (Nat.zero_le _) (Nat.le_refl _) ⟨?_,rfl,rfl⟩;try rfl)
theorem ZW (o:Ey) (ho:Ig o) (d s:Int) (hp:¬ (0≤d∧d<o.Aw.length∧0≤s∧s<(gi o.Aw d.toNat).stops.length)):AV env 29 [.agg (Enc.enc o),.agg [.int .i64 d,.int .i64 s]] (.EP [st [],.p (.int .i64 10)]):=by
 have hc:=EZ o ho.sm
 rw [ho.err] at hc
 refine AV.enter (AA (by decide)) Tryz.func29 rfl (by kernel_rfl) (by simp [Tryz.ntmps29]) ?_
 by_cases h1:0≤d∧d<o.Aw.length
 ·obtain ⟨e,rfl⟩:∃ e:Nat,d=e:=⟨d.toNat,by omega⟩
  have he:e<o.Aw.length:=by omega
  have s1:=ho.stops e he
  rw [Int.toNat_natCast] at hp
  repeat' (first|apply Ad.assoc|apply Ad.AB|apply Ad.BD|apply Ad.Aq|apply Ad.BH|apply Ag.nil|apply Ap.nil|apply Ag.one|(apply Ap.bar;decide +kernel)|(apply Ap.G5;rfl;rfl)|(apply Ap.drop;rfl;rfl;rfl)|(apply Ap.guard;rfl;rfl)|(apply Aa.fn;rfl;rfl;exact hc;intro _;rfl)|(apply Aa.AX (l:=o.Aw) (i:=e);rfl;rfl;rfl;exact he;rfl)|(apply Aa.assign;rfl)|(apply Aa.move;rfl)|(apply Aa.int;rfl;rfl;rfl)|(apply Aa.load;rfl;rfl)|(apply Aa.Bv;rfl;rfl)|(apply Aa.AP;rfl;rfl)|(apply Aa.BF;rfl;rfl)|(apply Aa.AQ;rfl;rfl;rfl)|(apply Aa.DF;rfl;rfl)|(apply Aa.box;rfl;trivial)|(apply Ad.Bc;rfl)|(apply Ad.Ar;rfl)|(apply Ad.Af;rfl)|(intro _;try (exfalso;omega)))
  all_goals first|(exfalso;omega)|contradiction|(refine Done.ret rfl (.refl _) (by first|exact trivial|exact ⟨trivial,trivial,trivial⟩|exact ⟨trivial,trivial,trivial,trivial⟩) Aj.nil (Nat.zero_le _) (Nat.le_refl _) ⟨?_,rfl,rfl⟩;try rfl)
 ·repeat' (first|apply Ad.assoc|apply Ad.AB|apply Ad.BD|apply Ad.Aq|apply Ad.BH|apply Ag.nil|apply Ap.nil|apply Ag.one|(apply Ap.bar;decide +kernel)|(apply Ap.G5;rfl;rfl)|(apply Ap.drop;rfl;rfl;rfl)|(apply Ap.guard;rfl;rfl)|(apply Aa.fn;rfl;rfl;exact hc;intro _;rfl)|(apply Aa.assign;rfl)|(apply Aa.move;rfl)|(apply Aa.int;rfl;rfl;rfl)|(apply Aa.load;rfl;rfl)|(apply Aa.Bv;rfl;rfl)|(apply Aa.AP;rfl;rfl)|(apply Aa.BF;rfl;rfl)|(apply Aa.AQ;rfl;rfl;rfl)|(apply Aa.box;rfl;trivial)|(apply Ad.Bc;rfl)|(apply Ad.Ar;rfl)|(intro _;try (exfalso;omega)))
  all_goals first|(exfalso;omega)|contradiction|(refine Done.ret rfl (.refl _) (by first|exact trivial|exact ⟨trivial,trivial,trivial⟩|exact ⟨trivial,trivial,trivial,trivial⟩) Aj.nil (Nat.zero_le _) (Nat.le_refl _) ⟨?_,rfl,rfl⟩;try rfl)
end Go.Proofs.YtdabojnmoejilaaGreatDoor
namespace Go.Proofs.YtdabojnmoejilaaGreatDoor
open Go Go.Am Go.Vm Go.Tra Go.Hun
attribute [local irreducible] Aa Ag Ap Ad BA AV CS AO AL Az Vm.Done Df Bh
theorem bI (fs:List Int):∀ {k i:Nat},i<k→gi (EC fs k) i=dR i (gi fs i):=fun {k i} h=>by
 unfold EC gi;simp [List.getElem?_map,List.getElem?_range h]
theorem aJ (ts:List Tn) (fs:List Int):∀ {k i:Nat},i<k→gi (FB ts fs k) i=Zt i (gi ts i).t (gi fs i):=fun {k i} h=>by
 unfold FB gi;simp [List.getElem?_map,List.getElem?_range h]
theorem yu {i:Nat} {t:List UInt8} {f:Int} (hi:i<10) (ht:CY t) (hf:oJ ⟨f,1⟩):DX (Zt i t f)=0:=by
 unfold DX
 have h1:CY (Zt i t f).name:=WH (by decide) hi
 have h2:CY (Zt i t f).EX:=ht
 have h3:OD (Zt i t f).Dt=0:=Oo.2 hf
 rw [if_neg (by rintro (h|h);exact h h1;exact h h2),if_neg (fun h=>h h3),if_neg (by show ¬ ((36:Int)< -256∨(36:Int)>256);omega),if_neg (by show ¬ (3=0);omega),if_neg (by show ¬ (3>128);omega)]
 unfold DN
 rw [if_pos]
 intro j hj
 have:j=0∨j=1∨j=2:=by
  have:j<3:=hj
  omega
 rcases this with rfl|rfl|rfl<;>(show ¬ Xk 1)<;>decide
theorem mg {ts:List Tn} {fs:List Int} (hl:ts.length=fs.length) (h9:ts.length≤9) (hT:∀ i,i<ts.length→CY (gi ts i).t) (hF:∀ i,i<ts.length→oJ ⟨gi fs i,1⟩):KL (JH ts fs)=0:=by
 have eR:(JH ts fs).ranks=FB ts fs ts.length:=rfl
 have eD:(JH ts fs).Aw=[Wp (EC fs ts.length)]:=rfl
 have eC:(JH ts fs).FN=[]:=rfl
 have eN:(JH ts fs).name=[79]:=rfl
 have lR:=Si ts fs ts.length
 have lS:=Q9 fs ts.length
 have gR:∀ i,i<ts.length→gi (FB ts fs ts.length) i=Zt i (gi ts i).t (gi fs i):=fun i hi=>aJ ts fs hi
 have gS:∀ i,i<ts.length→gi (EC fs ts.length) i=dR i (gi fs i):=fun i hi=>bI fs hi
 unfold KL
 rw [eR,eD,eC,eN]
 have hr:∀ i,i<(FB ts fs ts.length).length→DX (gi (FB ts fs ts.length) i)=0:=fun i hi=>by
  rw [lR] at hi
  rw [gR i hi]
  exact yu (by omega) (hT i hi) (hF i hi)
 have hrk:Nc (FB ts fs ts.length) 0=0:=Q5 (fun i hi=>⟨hr i hi,RD (c:=82) (by omega) (fun j hj=>by rw [gR j (by omega)];rfl) hi⟩) _ 0 rfl
 have n1:CY [79]:=⟨by decide,by decide,by decide,fun j h1 h2=>by simp at h2;omega⟩
 have n2:CY [71,114,101,97,116]:=⟨by decide,by decide,by decide,fun j h1 h2=>by
  have:j=1∨j=2∨j=3∨j=4:=by simp at h2;omega
  rcases this with rfl|rfl|rfl|rfl<;>exact .inl (by decide)⟩
 rw [if_neg (fun h=>h n1),if_neg (by omega),if_neg (fun h=>h hrk),if_neg (by simp),if_neg (by simp)]
 have hst:∀ i,i<(EC fs ts.length).length→Jc (FB ts fs ts.length) 36 38 (gi (EC fs ts.length) i)=0:=fun i hi=>by
  rw [lS] at hi
  rw [gS i hi]
  unfold Jc
  rw [Yq hr (by omega) (by omega),if_neg (fun h=>h rfl)]
  unfold sZ
  have h1:CY (dR i (gi fs i)).name:=WH (by decide) (by omega)
  have h3:OD (dR i (gi fs i)).Dt=0:=Oo.2 (hF i hi)
  have es:(dR i (gi fs i)).Ep=[⟨36,38,[⟨(i:Int),0⟩]⟩]:=rfl
  rw [if_neg (fun h=>h h1),if_neg (fun h=>h h3),es,if_neg (by simp),if_neg (by simp)]
  exact Jj (by simp) (Hu ⟨by simp only;omega,by simp⟩)
 have hd:FK (FB ts fs ts.length) [Wp (EC fs ts.length)] 0=0:=Pj (fun i hi=>by
  obtain rfl:i=0:=by simp at hi;omega
  refine ⟨n2,by simp,?_⟩
  show KA (FB ts fs ts.length) (Wp (EC fs ts.length))=0
  unfold KA
  rw [show UC (Wp (EC fs ts.length)).lo (Wp (EC fs ts.length)).hi=0 from KN (by simp [Wp]),if_neg (fun h=>h rfl),if_neg (by show ¬ (EC fs ts.length).length>60;omega)]
  exact OU (fun j hj=>⟨hst j hj,RD (c:=82) (l:=EC fs ts.length) (by omega) (fun a ha=>by rw [gS a (by omega)];rfl) hj⟩) _ 0 rfl) _ 0 rfl
 rw [if_neg (fun h=>h hd)]
 unfold Rj
 rw [if_neg (by simp)]
 have hc:OX ([Wp (EC fs ts.length)].map fun d=>(⟨d.lo,d.hi⟩:ZA)) 0=0:=Rf (fun i hi=>by
  obtain rfl:i=0:=by simp at hi;omega
  exact KN (by simp [gi,Wp])) _ 0 rfl
 rw [if_neg (fun h=>h hc),MS,if_neg (by simp)]
theorem qE {ts:List Tn} {fs:List Int} (h9:ts.length≤9) (hT:∀ i,i<ts.length→CY (gi ts i).t):OT (JH ts fs):=by
 have lR:=Si ts fs ts.length
 have lS:=Q9 fs ts.length
 refine ⟨by show 1<1000000;decide,by show (FB ts fs ts.length).length<_;omega,by show 1<1000000;decide,by show 0<1000000;decide,fun i hi=>?_,fun i hi=>?_,fun i hi=>?_⟩
 ·have hi:i<ts.length:=by rw [← lR];exact hi
  show Wi (gi (FB ts fs ts.length) i)
  rw [aJ ts fs hi]
  exact ⟨by show 2<1000000;decide,by show (gi ts i).t.length<_;have:=(hT i hi).2.1;omega,by show 3<1000000;decide⟩
 ·obtain rfl:i=0:=by
   have:i<1:=hi
   omega
  show uT (Wp (EC fs ts.length))
  refine ⟨by show 5<1000000;decide,by show (EC fs ts.length).length<_;omega,fun j hj=>?_⟩
  have hj:j<ts.length:=by rw [← lS];exact hj
  show XG (gi (EC fs ts.length) j)
  rw [bI fs hj]
  refine ⟨by show 2<1000000;decide,by show 1<1000000;decide,fun a ha=>?_⟩
  obtain rfl:a=0:=by
   have:a<1:=ha
   omega
  exact ⟨by show 1<1000000;decide⟩
 ·have:i<0:=hi
  omega
def uX:List Tn:=[⟨[112,114,105,110,99,105,112,97,108]⟩,⟨[102,108,117,116,101]⟩]
def wJ:List Tn:=[⟨[102,108,117,116,101]⟩]
theorem qj (s:List UInt8) (h0:0<s.length) (h1:s.length≤32) (h:∀ i,i<s.length→bU (gi s i).toNat):CY s:=⟨h0,h1,h 0 h0,fun i _ hi=>.inl (h i hi)⟩
instance (c:Nat):Decidable (bU c):=by unfold bU;infer_instance
theorem a1s:CY [112,114,105,110,99,105,112,97,108]:=qj _ (by decide) (by decide) (by decide)
theorem qG:CY [102,108,117,116,101]:=qj _ (by decide) (by decide) (by decide)
theorem qZ:∀ i,i<uX.length→CY (gi uX i).t:=fun i hi=>by
 have:i=0∨i=1:=by
  have:i<2:=hi
  omega
 rcases this with rfl|rfl
 ·exact a1s
 ·exact qG
theorem vO:∀ i,i<wJ.length→CY (gi wJ i).t:=fun i hi=>by
 obtain rfl:i=0:=by
  have:i<1:=hi
  omega
 exact qG
def qK (w:Int):SY:=⟨JH uX [8,4],⟨[3],0,0⟩,JH wJ [8],⟨10,1,5,w⟩⟩
theorem a1d {w:Int} (hw:0≤w∧w≤100):ND (qK w).Ii:=fun i hi=>by
 match i,hi with
 |0,_=>show (0:Int)≤10∧(10:Int)≤100000;decide
 |1,_=>show (0:Int)≤1∧(1:Int)≤100000;decide
 |2,_=>show (0:Int)≤5∧(5:Int)≤100000;decide
 |3,_=>exact ⟨hw.1,Int.le_trans hw.2 (by decide)⟩
theorem shK:∀ a,a<2→(Cc ⟨8,1⟩ ⟨gi [8,4] a,1⟩).2=0∧-1000≤(Cc ⟨8,1⟩ ⟨gi [8,4] a,1⟩).1∧(Cc ⟨8,1⟩ ⟨gi [8,4] a,1⟩).1≤1000:=by decide +kernel
theorem dh {w:Int} (hw:0≤w∧w≤100):eX (qK w):=by
 have e1:KL (JH uX [8,4])=0:=mg rfl (by decide) qZ (fun i hi=>by
  have:i=0∨i=1:=by
   have:i<2:=hi
   omega
  rcases this with rfl|rfl<;>decide +kernel)
 have e2:KL (JH wJ [8])=0:=mg rfl (by decide) vO (fun i hi=>by
  obtain rfl:i=0:=by
   have:i<1:=hi
   omega
  decide +kernel)
 have e3:Lj (JH uX [8,4]) ⟨[3],0,0⟩=0:=by
  rw [Sz rfl (fun i hi=>by
   obtain rfl:i=0:=by
    have:i<1:=hi
    omega
   rfl)]
  rfl
 refine ⟨qE (by decide) qZ,qE (by decide) vO,⟨fun i hi=>?_,by show 0<18446744073709551616;decide,by show 0<18446744073709551616;decide,by show 1<9223372036854775808;decide⟩,?_,fun a b ha hb=>?_⟩
 ·obtain rfl:i=0:=by
   have:i<1:=hi
   omega
  show 3<18446744073709551616
  decide
 ·unfold fE
  rw [if_neg (fun h=>h e1),if_neg (fun h=>h e3),if_neg (fun h=>h e2),if_neg (fun h=>h (a1d hw)),if_neg]
  have h1:(BM (JH uX [8,4]) ⟨[3],0,0⟩).length=2:=by decide +kernel
  have h2:(CV (JH wJ [8])).length=1:=by decide +kernel
  have h1:(BM (qK w).Cj (qK w).reg).length=2:=h1
  have h2:(CV (qK w).tgt).length=1:=h2
  omega
 ·obtain ⟨d,s⟩:=a
  obtain ⟨d',s'⟩:=b
  have a1:d<1:=ha.1
  obtain rfl:d=0:=by omega
  have a2:s<2:=ha.2
  have b1:d'<1:=hb.1
  obtain rfl:d'=0:=by omega
  have b2:s'<1:=hb.2
  obtain rfl:s'=0:=by omega
  have:s=0∨s=1:=by omega
  rcases this with rfl|rfl
  ·exact shK 0 (by decide)
  ·exact shK 1 (by decide)
theorem Zc (w:Int):IZ (qK w)=[[10],[12]]:=by
 show Nj (JH uX [8,4]) (JH wJ [8]) ⟨[3],0,0⟩ ⟨10,1,5,w⟩=_
 have:Nj (JH uX [8,4]) (JH wJ [8]) ⟨[3],0,0⟩ ⟨10,1,5,0⟩=[[10],[12]]:=by decide +kernel
 exact this
theorem kJ (w:Int):OO (qK w)=1:=by
 have h1:(BM (JH uX [8,4]) ⟨[3],0,0⟩).length=2:=by decide +kernel
 have h2:(CV (JH wJ [8])).length=1:=by decide +kernel
 show (if (BM (JH uX [8,4]) ⟨[3],0,0⟩).length=0 then 0 else (CV (JH wJ [8])).length)=1
 rw [h1,h2];rfl
theorem a4i:(MQ (qK 20)).total=30:=by
 unfold MQ Y4
 rw [Zc,kJ]
 show jr [[10],[12]] 2 1 20=30
 decide +kernel
theorem a5k:(MQ (qK 5)).total=10:=by
 unfold MQ Y4
 rw [Zc,kJ]
 show jr [[10],[12]] 2 1 5=10
 decide +kernel
theorem jA:AV env 12 [] (.p (.bool true)):=by
 have h1:=Tc uX [8,4] rfl (by decide)
 have h2:=Tc wJ [8] rfl (by decide)
 have hl:=Lp (dh (w:=20) (by decide))
 rw [Zc] at hl
 have hb:=VN (dh (w:=20) (by decide))
 have hb5:=VN (dh (w:=5) (by decide))
 have hv:=YR (dh (w:=20) (by decide)) (MQ (qK 20))
 rw [show vN (IZ (qK 20)) (OO (qK 20)) (qK 20).Ii.miss (MQ (qK 20))=0 from qF (dh (w:=20) (by decide)).Xj] at hv
 have t1:=a4i
 have t2:=a5k
 generalize MQ (qK 20)=A at *
 generalize MQ (qK 5)=B at *
 obtain ⟨c1,tt1,r1,p1⟩:=A
 obtain ⟨c2,tt2,r2,p2⟩:=B
 simp only at t1 t2
 subst t1;subst t2
 refine AV.enter (AA (by decide)) Tryz.func12 rfl (by kernel_rfl) (by simp [Tryz.ntmps12]) ?_
 repeat' (first|(refine Ag.Ie 11 ?_;refine Ag.ghost (AZ.trans (AZ.freeze 9 rfl rfl) (AZ.freeze 10 rfl rfl)) ?_)|(refine Ag.Ie 13 ?_;refine Ag.ghost (AZ.freeze 12 rfl rfl) ?_)|(refine Ag.Ie 16 ?_;refine Ag.ghost (AZ.trans (AZ.freeze 14 rfl rfl) (AZ.freeze 15 rfl rfl)) ?_)|apply Ad.AB|apply Ad.ret|apply Ag.nil|apply Ag.one|(apply Ag.take;rfl;rfl)|(apply Aa.fn;rfl;rfl;exact h1;intro _;rfl)|(apply Aa.fn;rfl;rfl;exact h2;intro _;rfl)|(apply Aa.fn;rfl;rfl;exact hl;intro _;rfl)|(apply Aa.fn;rfl;rfl;exact hb;intro _;rfl)|(apply Aa.fn;rfl;rfl;exact hv;intro _;rfl)|(apply Aa.fn;rfl;rfl;exact hb5;intro _;rfl)|(apply Aa.Rn;rfl;rfl;rfl;decide;decide)|(apply Aa.assign;rfl)|(apply Aa.move;rfl)|(apply Aa.int;rfl;rfl;rfl)|(apply Aa.load;rfl;rfl)|(apply Aa.Bv;rfl;rfl)|(apply Aa.BF;rfl;rfl)|(apply Aa.AQ;rfl;rfl;rfl)|(apply Aa.alloc;rfl)|(apply Aa.Bl;rfl;rfl;rfl;trivial;rfl;rfl;exact Ac rfl;exact le_dec rfl)|(apply Aa.build;rfl;rfl;rfl;rfl;rfl)|(apply Aa.buildSlice;rfl;rfl;rfl;decide;rfl;rfl;rfl)|(apply Aa.extract;rfl;rfl))
 all_goals try (exfalso;omega)
 all_goals (refine Done.ret rfl (.refl _) (by first|exact trivial|exact ⟨trivial,trivial,trivial⟩|exact ⟨trivial,trivial,trivial,trivial⟩) Aj.nil (Nat.zero_le _) (Nat.le_refl _) ⟨?_,rfl,rfl⟩;try rfl)
end Go.Proofs.YtdabojnmoejilaaGreatDoor
namespace Go.Proofs.YtdabojnmoejilaaGreatDoor
open Go Go.Am Go.Vm Go.Tra
attribute [local irreducible] Aa Ag Ap Ad BA AV CS AO AL Az Vm.Done Df Bh
attribute [local irreducible] DX DN Jc KA Rj Cc
def PY (o:Ey) (d s:Nat):List Ol:=KO (PW o) d++(List.range s).map fun i=>⟨d,i⟩
theorem oN (o:Ey) (d:Nat):PY o d 0=KO (PW o) d:=by simp [PY]
theorem nS (o:Ey) (d s:Nat):PY o d (s+1)=PY o d s++[⟨d,s⟩]:=by simp [PY,List.range_succ]
theorem rE (o:Ey) (d s:Nat):(PY o d s).length=Ky (PW o) d+s:=by simp [PY,Ky]
theorem qw (o:Ey) {d:Nat} (hd:d<o.Aw.length):PY o d (gi o.Aw d).stops.length=KO (PW o) (d+1):=by
 rw [← Wv o hd];rfl
theorem jR {o:Ey} (ho:Ig o) {d:Nat} (h:d≤o.Aw.length):Ky (PW o) d≤480:=by
 have h1:=Zx (PW o) (d:=d) (e:=(PW o).length) (by rw [LU];exact h)
 have h2:=EL ho
 rw [WJ] at h2
 omega
theorem Tf (o:Ey) (ho:Ig o):AV env 19 [.agg (Enc.enc o)] (.p (.lst 85 (cells (CV o)) (CV o).length)):=by
 have d1:=ho.Aw
 refine AV.enter (AA (by decide)) Tryz.func19 rfl (by kernel_rfl) (by simp [Tryz.ntmps19]) ?_
 repeat' (first|apply Ad.assoc|apply Ad.AB|apply Ad.Ai|apply Ag.nil|apply Ag.one|(apply Aa.assign;rfl)|(apply Aa.box;rfl;trivial))
 all_goals try (exfalso;omega)
 refine Ad.ghost (AZ.adopt 3 85 rfl) ?_
 apply Ad.Fq (o.Aw.length) [(1,_)] [(0,_)] (fun k r=>(3,.vec 1 (KO (PW o) k).length 0 (KO (PW o) k).length)::(4,.p (.int .i64 (k:Int)))::r) (fun k r=>(1,.vec 85 (cells (KO (PW o) k)) (KO (PW o) k).length true)::r) 2
 ·first|omega|decide
 ·first|omega|decide
 ·repeat (first|exact Ae.nil|(refine Ae.eq rfl ?_ ?_;(first|exact PV.Ak rfl|(simp [PV.under,AU.under];done)))|refine Ae.cons trivial rfl (.of_eq (Au (by simp<;>omega))) ?_)
 ·repeat (first|exact Aj.nil|(refine Aj.eq rfl (Ac rfl) ?_ ?_;(first|exact HB.Ak rfl|exact AU.Ah _ _|(simp [HB.under,AU.under,PV.under];done)))|(refine Aj.cons (Ac rfl) ?_ rfl ?_ ?_;(first|exact trivial|exact AU.Ah _ _|(simp [HB.under,AU.under,PV.under]));(first|exact Bo.refl _|exact Bo.vec (Bj.refl _) (by simp))))
 ·intro k hk
  have s1:=ho.stops k hk
  have e0:=oN o k
  have e9:=qw o hk
  have b1:=jR ho (d:=k+1) hk
  have b2:=Jm (PW o) k
  rw [Wv o hk] at b2
  rw [← e0,← e9]
  repeat' (first|apply Ad.assoc|apply Ad.AB|apply Ad.Aq|apply Ad.Ai|apply Ad.Iw|apply Ag.nil|apply Ag.one|(apply Aa.assign;rfl)|(apply Aa.move;rfl)|(apply Aa.int;rfl;rfl;rfl)|(apply Aa.load;rfl;rfl)|(apply Aa.BF;rfl;rfl)|(apply Aa.AQ;rfl;rfl;rfl)|(apply Ad.Af;rfl)|(intro _;try (exfalso;omega)))
  all_goals try (exfalso;omega)
  apply Ad.Fq ((gi o.Aw k).stops.length) [(1,_),(4,_)] [(0,_)] (fun k_ r=>(3,.vec 1 (PY o k k_).length 0 (PY o k k_).length)::(5,.p (.int .i64 (k_:Int)))::r) (fun k_ r=>(1,.vec 85 (cells (PY o k k_)) (PY o k k_).length true)::r) 2
  ·first|omega|decide
  ·first|omega|decide
  ·repeat (first|exact Ae.nil|(refine Ae.eq rfl ?_ ?_;(first|exact PV.Ak rfl|(simp [PV.under,AU.under];done)))|refine Ae.cons trivial rfl (.of_eq (Au (by simp<;>omega))) ?_)
  ·repeat (first|exact Aj.nil|(refine Aj.eq rfl (Ac rfl) ?_ ?_;(first|exact HB.Ak rfl|exact AU.Ah _ _|(simp [HB.under,AU.under,PV.under];done)))|(refine Aj.cons (Ac rfl) ?_ rfl ?_ ?_;(first|exact trivial|exact AU.Ah _ _|(simp [HB.under,AU.under,PV.under]));(first|exact Bo.refl _|exact Bo.vec (Bj.refl _) (by simp))))
  ·intro j hj
   have f1:=nS o k j
   have f2:(PY o k (j+1)).length=(PY o k j).length+1:=by rw [f1];simp
   have f3:=rE o k j
   repeat' (first|apply Ad.assoc|apply Ad.AB|apply Ad.region|apply Ad.Aq|apply Ad.Ai|apply AO.normal|apply AL.normal|apply Ag.nil|apply Ag.one|(apply Aa.Dv (a:=(⟨k,j⟩:Ol));rfl;rfl;rfl;rfl;rfl;rfl;rfl;rfl;(intro _ h;cases h);rfl;rfl;rfl;decide;decide;(first|omega|(simp only [List.length_take,List.length_drop,List.length_append,List.length_singleton,List.length_cons,List.length_nil]<;>omega)))|(apply Aa.assign;rfl)|(apply Aa.move;rfl)|(apply Aa.Bq;rfl;rfl;omega)|(apply Aa.int;rfl;rfl;rfl)|(apply Aa.AX;rfl;rfl;rfl;omega;rfl)|(apply Aa.load;rfl;rfl)|(apply Aa.BF;rfl;rfl)|(apply Aa.AQ;rfl;rfl;rfl)|(apply Aa.DF;rfl;rfl)|(apply Aa.build;rfl;rfl;rfl;rfl;rfl)|(apply Aa.buildSlice;rfl;rfl;rfl;decide;rfl;rfl;rfl)|(apply Ad.Af;rfl)|(intro _;try (exfalso;omega)))
   all_goals try (exfalso;omega)
   refine Az.normal ⟨by omega,?_,?_⟩
   ·rw [f2]
    repeat (first|exact Ae.nil|refine Ae.same trivial rfl ?_|refine Ae.same (Ac rfl) rfl ?_|refine Ae.same ⟨trivial,Ac rfl,trivial⟩ rfl ?_|refine Ae.same ⟨trivial,Ac rfl,Ac rfl,trivial⟩ rfl ?_|refine Ae.same ⟨trivial,Ac rfl,Ac rfl,Ac rfl,trivial⟩ rfl ?_|refine Ae.same ⟨trivial,trivial⟩ rfl ?_|refine Ae.cons trivial rfl (.of_eq (Au (by simp<;>omega))) ?_)
   ·rw [f2,f1]
    repeat (first|exact Aj.nil|(refine Aj.cons (Ac rfl) ?_ rfl ?_ ?_;(first|exact HB.Ak rfl|exact AU.Ah _ _|(simp [HB.under,AU.under,PV.under]));(first|exact Bo.refl _|exact Bo.vec (Bj.refl _) (by simp))))
  ·repeat' (first|apply Ad.assoc|apply Ad.AB|apply Ad.region|apply Ad.AY|apply AO.normal|apply AL.normal|apply AL.exit|apply Az.exit|apply Ag.nil|apply Ag.one|(apply Aa.assign;rfl)|(apply Aa.move;rfl)|(apply Aa.Bq;rfl;rfl;omega)|(apply Aa.int;rfl;rfl;rfl)|(apply Aa.AX;rfl;rfl;rfl;omega;rfl)|(apply Aa.load;rfl;rfl)|(apply Aa.BF;rfl;rfl)|(apply Aa.AQ;rfl;rfl;rfl)|(apply Aa.DF;rfl;rfl)|(apply Ad.Af;rfl)|(intro _;try (exfalso;omega)))
   all_goals try (exfalso;omega)
   refine Az.normal ⟨by first|omega|decide,?_,?_⟩
   ·repeat (first|exact Ae.nil|refine Ae.same trivial rfl ?_|refine Ae.same (Ac rfl) rfl ?_|refine Ae.same ⟨trivial,Ac rfl,trivial⟩ rfl ?_|refine Ae.same ⟨trivial,Ac rfl,Ac rfl,trivial⟩ rfl ?_|refine Ae.same ⟨trivial,Ac rfl,Ac rfl,Ac rfl,trivial⟩ rfl ?_|refine Ae.same ⟨trivial,trivial⟩ rfl ?_|refine Ae.cons trivial rfl (.of_eq (Au (by simp<;>omega))) ?_)
   ·repeat (first|exact Aj.nil|(refine Aj.cons (Ac rfl) ?_ rfl ?_ ?_;(first|exact HB.Ak rfl|exact AU.Ah _ _|(simp [HB.under,AU.under,PV.under]));(first|exact Bo.refl _|exact Bo.vec (Bj.refl _) (by simp))))
 ·have ea:KO (PW o) o.Aw.length=CV o:=by unfold CV;rw [LU]
  rw [ea]
  repeat' (first|(refine Ag.Ie 2 ?_;refine Ag.ghost (AZ.freeze 30 rfl rfl) ?_)|apply Ad.assoc|apply Ad.AB|apply Ad.AY|apply AO.normal|apply AL.exit|apply Az.exit|apply Ad.ret|apply Ag.nil|apply Ag.one|(apply Aa.assign;rfl)|(apply Aa.move;rfl)|(apply Aa.int;rfl;rfl;rfl)|(apply Aa.load;rfl;rfl)|(apply Aa.BF;rfl;rfl)|(apply Aa.AQ;rfl;rfl;rfl)|(apply Ad.Af;rfl)|(intro _;try (exfalso;omega)))
  all_goals first|(exfalso;omega)|(refine Done.ret rfl (.refl _) (by first|exact trivial|exact ⟨trivial,trivial,trivial⟩|exact ⟨trivial,trivial,trivial,trivial⟩) Aj.nil (Nat.zero_le _) (Nat.le_refl _) ⟨?_,rfl,rfl⟩;try rfl)
def H9 (o:Ey) (rg:Rgs) (k:Nat):List Ol:=((CV o).take k).filter (FM rg)
theorem ZO (o:Ey) (rg:Rgs) {k:Nat} (h:k<(CV o).length):H9 o rg (k+1)=if FM rg (gi (CV o) k)=true then H9 o rg k++[gi (CV o) k] else H9 o rg k:=by
 unfold H9
 rw [Dw h,List.filter_append]
 split
 ·rename_i h1;simp [h1]
 ·rename_i h1;simp [h1]
theorem jm (o:Ey) (rg:Rgs) (k:Nat):(H9 o rg k).length≤k:=by
 unfold H9
 have:=List.length_filter_le (FM rg) ((CV o).take k)
 rw [List.length_take] at this
 omega
theorem jq (o:Ey) (rg:Rgs):H9 o rg (CV o).length=BM o rg:=by unfold H9 BM;rw [List.take_of_length_le (Nat.le_refl _)]
theorem ZG (o:Ey) (ho:Ig o) (rg:Rgs) (hr:rg.Ok) (hl:rg.stops.length=o.Aw.length) :
 AV env 31 [.agg (Enc.enc o),.agg (Enc.enc rg)] (.p (.lst 85 (cells (BM o rg)) (BM o rg).length)):=by
 have hb:=EL ho
 have hs:=Tf o ho
 refine AV.enter (AA (by decide)) Tryz.func31 rfl (by kernel_rfl) (by simp [Tryz.ntmps31]) ?_
 repeat' (first|apply Ad.assoc|apply Ad.AB|apply Ad.Ai|apply Ag.nil|apply Ag.one|(apply Aa.fn;rfl;rfl;exact hs;intro _;rfl)|(apply Aa.assign;rfl)|(apply Aa.load;rfl;rfl)|(apply Aa.box;rfl;trivial))
 all_goals try (exfalso;omega)
 refine Ad.ghost (AZ.adopt 5 85 rfl) ?_
 apply Ad.Fq ((CV o).length) [(3,_),(6,_)] [(1,_)] (fun k r=>(5,.vec 2 (H9 o rg k).length 0 (H9 o rg k).length)::(7,.p (.int .i64 (k:Int)))::r) (fun k r=>(2,.vec 85 (cells (H9 o rg k)) (H9 o rg k).length true)::r) 3
 ·first|omega|decide
 ·first|omega|decide
 ·repeat (first|exact Ae.nil|(refine Ae.eq rfl ?_ ?_;(first|exact PV.Ak rfl|(simp [PV.under,AU.under];done)))|refine Ae.cons trivial rfl (.of_eq (Au (by simp<;>omega))) ?_)
 ·repeat (first|exact Aj.nil|(refine Aj.eq rfl (Ac rfl) ?_ ?_;(first|exact HB.Ak rfl|exact AU.Ah _ _|(simp [HB.under,AU.under,PV.under];done)))|(refine Aj.cons (Ac rfl) ?_ rfl ?_ ?_;(first|exact trivial|exact AU.Ah _ _|(simp [HB.under,AU.under,PV.under]));(first|exact Bo.refl _|exact Bo.vec (Bj.refl _) (by simp))))
 ·intro k hk
  obtain ⟨h1,h2⟩:=UL hk
  have s1:=ho.stops _ h1
  have b1:=hr.stops (gi (CV o) k).d (by omega)
  have hq:gi rg.stops (gi (CV o) k).d / 2 ^ (gi (CV o) k).s<18446744073709551616:=Nat.lt_of_le_of_lt (Nat.div_le_self _ _) b1
  have e1:=ZO o rg hk
  have e3:=jm o rg k
  by_cases hp:FM rg (gi (CV o) k)=true
  ·rw [if_pos hp] at e1
   have e2:(H9 o rg (k+1)).length=(H9 o rg k).length+1:=by rw [e1];simp
   have hm:gi rg.stops (gi (CV o) k).d / 2 ^ (gi (CV o) k).s % 2=1:=by simpa [FM] using hp
   repeat' (first|apply Ad.assoc|apply Ad.AB|apply Ad.BD|apply Ad.region|apply Ad.Aq|apply Ad.Ai|apply AO.normal|apply AL.normal|apply Ag.nil|apply Ap.nil|apply Ag.one|(apply Ap.bar;decide +kernel)|apply Ap.quiet|(apply Aa.Dv (a:=gi (CV o) k);rfl;rfl;rfl;rfl;rfl;rfl;rfl;rfl;(intro _ h;cases h);rfl;rfl;rfl;decide;decide;(first|omega|(simp only [List.length_take,List.length_drop,List.length_append,List.length_singleton,List.length_cons,List.length_nil]<;>omega)))|(apply Aa.AX (l:=rg.stops) (i:=(gi (CV o) k).d);rfl;rfl;rfl;omega;rfl)|(apply Aa.assign;rfl)|(apply Aa.move;rfl)|(apply Aa.Bq;rfl;rfl;omega)|(apply Aa.sK;rfl;rfl;omega)|(apply Aa.int;rfl;rfl;rfl)|(apply Aa.AX;rfl;rfl;rfl;omega;rfl)|(apply Aa.load;rfl;rfl)|(apply Aa.BF;rfl;rfl)|(apply Aa.AQ;rfl;rfl;rfl)|(apply Aa.DF;rfl;rfl)|(apply Aa.buildSlice;rfl;rfl;rfl;decide;rfl;rfl;rfl)|(apply Aa.SX;rfl;rfl;rfl;rfl;omega)|(apply Aa.Vp;rfl;rfl;(simp only [IntKind.bits];omega))|(apply Ad.Af;rfl)|(apply Ad.Ba;rfl)|(intro _;try (exfalso;omega)))
   all_goals try (exfalso;omega)
   refine Az.normal ⟨by omega,?_,?_⟩
   ·rw [e2]
    repeat (first|exact Ae.nil|refine Ae.same trivial rfl ?_|refine Ae.same (Ac rfl) rfl ?_|refine Ae.same ⟨trivial,Ac rfl,trivial⟩ rfl ?_|refine Ae.same ⟨trivial,Ac rfl,Ac rfl,trivial⟩ rfl ?_|refine Ae.same ⟨trivial,Ac rfl,Ac rfl,Ac rfl,trivial⟩ rfl ?_|refine Ae.same ⟨trivial,trivial⟩ rfl ?_|refine Ae.cons trivial rfl (.of_eq (Au (by simp<;>omega))) ?_)
   ·rw [e2,e1]
    repeat (first|exact Aj.nil|(refine Aj.cons (Ac rfl) ?_ rfl ?_ ?_;(first|exact HB.Ak rfl|exact AU.Ah _ _|(simp [HB.under,AU.under,PV.under]));(first|exact Bo.refl _|exact Bo.vec (Bj.refl _) (by simp))))
  ·rw [if_neg hp] at e1
   have hm:¬ gi rg.stops (gi (CV o) k).d / 2 ^ (gi (CV o) k).s % 2=1:=by simpa [FM] using hp
   repeat' (first|apply Ad.assoc|apply Ad.AB|apply Ad.BD|apply Ad.region|apply Ad.Aq|apply Ad.Ai|apply AO.normal|apply AL.normal|apply Ad.skip|apply Ag.nil|apply Ap.nil|apply Ag.one|(apply Ap.bar;decide +kernel)|apply Ap.quiet|(apply Aa.AX (l:=rg.stops) (i:=(gi (CV o) k).d);rfl;rfl;rfl;omega;rfl)|(apply Aa.assign;rfl)|(apply Aa.move;rfl)|(apply Aa.Bq;rfl;rfl;omega)|(apply Aa.sK;rfl;rfl;omega)|(apply Aa.int;rfl;rfl;rfl)|(apply Aa.AX;rfl;rfl;rfl;omega;rfl)|(apply Aa.load;rfl;rfl)|(apply Aa.BF;rfl;rfl)|(apply Aa.AQ;rfl;rfl;rfl)|(apply Aa.DF;rfl;rfl)|(apply Aa.SX;rfl;rfl;rfl;rfl;omega)|(apply Aa.Vp;rfl;rfl;(simp only [IntKind.bits];omega))|(apply Ad.Af;rfl)|(apply Ad.Ba;rfl)|(intro _;try (exfalso;omega)))
   all_goals try (exfalso;omega)
   refine Az.normal ⟨by omega,?_,?_⟩
   ·rw [e1]
    repeat (first|exact Ae.nil|refine Ae.same trivial rfl ?_|refine Ae.same (Ac rfl) rfl ?_|refine Ae.same ⟨trivial,Ac rfl,trivial⟩ rfl ?_|refine Ae.same ⟨trivial,Ac rfl,Ac rfl,trivial⟩ rfl ?_|refine Ae.same ⟨trivial,Ac rfl,Ac rfl,Ac rfl,trivial⟩ rfl ?_|refine Ae.same ⟨trivial,trivial⟩ rfl ?_|refine Ae.cons trivial rfl (.of_eq (Au (by simp<;>omega))) ?_)
   ·rw [e1]
    repeat (first|exact Aj.nil|(refine Aj.cons (Ac rfl) ?_ rfl ?_ ?_;(first|exact HB.Ak rfl|exact AU.Ah _ _|(simp [HB.under,AU.under,PV.under]));(first|exact Bo.refl _|exact Bo.vec (Bj.refl _) (by simp))))
 ·rw [jq]
  repeat' (first|(refine Ag.Ie 4 ?_;refine Ag.ghost (AZ.freeze 41 rfl rfl) ?_)|apply Ad.assoc|apply Ad.AB|apply Ad.AY|apply AO.normal|apply AL.exit|apply Az.exit|apply Ad.ret|apply Ag.nil|apply Ag.one|(apply Aa.assign;rfl)|(apply Aa.move;rfl)|(apply Aa.int;rfl;rfl;rfl)|(apply Aa.BF;rfl;rfl)|(apply Ad.Af;rfl)|(intro _;try (exfalso;omega)))
  all_goals first|(exfalso;omega)|(refine Done.ret rfl (.refl _) (by first|exact trivial|exact ⟨trivial,trivial,trivial⟩|exact ⟨trivial,trivial,trivial,trivial⟩) Aj.nil (Nat.zero_le _) (Nat.le_refl _) ⟨?_,rfl,rfl⟩;try rfl)
theorem iy (o:Ey) (ho:Ig o) (p:Ol) (hp:G9 o p):AV env 32 [.agg (Enc.enc o),.agg (Enc.enc p)] (st (MR o p)):=by
 obtain ⟨g1,g2⟩:=ho.sto hp
 obtain ⟨h1,h2⟩:=hp
 have hs1:=ho.stops p.d h1
 unfold MR
 obtain ⟨s,hs⟩:∃ s,s=Gg o p:=⟨_,rfl⟩
 have hs':gi (gi o.Aw p.d).stops p.s=s:=hs.symm
 rw [← hs] at g1 g2 ⊢
 have b1:=ho.sm.ranks
 refine AV.enter (AA (by decide)) Tryz.func32 rfl (by kernel_rfl) (by simp [Tryz.ntmps32]) ?_
 repeat' (first|apply Ad.assoc|apply Ad.AB|apply Ad.BD|apply Ad.Ai|apply Ag.nil|apply Ap.nil|apply Ag.one|(apply Ap.bar;decide +kernel)|apply Ap.quiet|(apply Aa.AX (l:=o.Aw) (i:=p.d);rfl;rfl;rfl;exact h1;rfl)|(apply Aa.AX (l:=(gi o.Aw p.d).stops) (i:=p.s);rfl;rfl;rfl;exact h2;rfl)|(apply Aa.assign;rfl)|(apply Aa.load;rfl;rfl)|(apply Aa.AQ;rfl;rfl;rfl)|(apply Aa.DF;rfl;rfl)|(apply Aa.box;rfl;trivial)|(apply Aa.alloc;rfl)|(apply Aa.Bl;rfl;rfl;rfl;trivial;rfl;rfl;exact Ac rfl;exact le_dec rfl))
 all_goals try (exfalso;omega)
 rw [hs']
 apply Ad.GU (s.Ep.length) (fun k=>QC o.ranks s s.Ep.length (s.Ep.length-k)=VL o.ranks s) [(2,_),(5,_)] [(0,_),(2,_)] (fun k r=>(6,.p (.int .i64 (k:Int)))::r) (fun k r=>r) 3
 ·first|omega|decide
 ·first|omega|decide
 ·repeat (first|exact Ae.nil|(refine Ae.eq rfl ?_ ?_;(first|exact PV.Ak rfl|(simp [PV.under,AU.under];done)))|refine Ae.cons trivial rfl (.of_eq (Au (by simp<;>omega))) ?_)
 ·repeat (first|exact Aj.nil|(refine Aj.eq rfl (Ac rfl) ?_ ?_;(first|exact HB.Ak rfl|exact AU.Ah _ _|(simp [HB.under,AU.under,PV.under];done)))|(refine Aj.cons (Ac rfl) ?_ rfl ?_ ?_;(first|exact trivial|exact AU.Ah _ _|(simp [HB.under,AU.under,PV.under]));(first|exact Bo.refl _|exact Bo.vec (Bj.refl _) (by simp))))
 ·first|(intro _ _;omega)|omega|trivial
 ·intro k hk hi
  obtain ⟨g3,g4⟩:=g2 k hk
  by_cases h0:(gi s.Ep k).draws.length=0
  ·repeat' (first|apply Ad.assoc|apply Ad.AB|apply Ad.region|apply Ad.Aq|apply Ad.Ai|apply AO.normal|apply AL.normal|apply Ad.skip|apply Ag.nil|apply Ag.one|(apply Aa.assign;rfl)|(apply Aa.move;rfl)|(apply Aa.Bq;rfl;rfl;omega)|(apply Aa.int;rfl;rfl;rfl)|(apply Aa.AX;rfl;rfl;rfl;omega;rfl)|(apply Aa.load;rfl;rfl)|(apply Aa.BF;rfl;rfl)|(apply Aa.AQ;rfl;rfl;rfl)|(apply Aa.DF;rfl;rfl)|(apply Ad.Af;rfl)|(apply Ad.Ba;rfl)|(intro _;try (exfalso;omega)))
   all_goals try (exfalso;omega)
   refine Az.normal ⟨((VR hk h0).symm.trans hi),by first|omega|decide,?_,?_⟩
   ·repeat (first|exact Ae.nil|refine Ae.same trivial rfl ?_|refine Ae.same (Ac rfl) rfl ?_|refine Ae.same ⟨trivial,Ac rfl,trivial⟩ rfl ?_|refine Ae.same ⟨trivial,Ac rfl,Ac rfl,trivial⟩ rfl ?_|refine Ae.same ⟨trivial,Ac rfl,Ac rfl,Ac rfl,trivial⟩ rfl ?_|refine Ae.same ⟨trivial,trivial⟩ rfl ?_|refine Ae.cons trivial rfl (.of_eq (Au (by simp<;>omega))) ?_)
   ·repeat (first|exact Aj.nil|(refine Aj.cons (Ac rfl) ?_ rfl ?_ ?_;(first|exact HB.Ak rfl|exact AU.Ah _ _|(simp [HB.under,AU.under,PV.under]));(first|exact Bo.refl _|exact Bo.vec (Bj.refl _) (by simp))))
  ·have g5:=g4 0 (by omega)
   obtain ⟨rn,hrn⟩:∃ rn:Nat,(gi (gi s.Ep k).draws 0).rank=rn:=⟨_,(Int.toNat_of_nonneg g5.1).symm⟩
   have h1:VL o.ranks s=(gi o.ranks rn).EX:=by
    rw [← hi,XF hk (by omega),hrn];rfl
   rw [h1]
   repeat' (first|apply Ad.assoc|apply Ad.AB|apply Ad.BD|apply Ad.Aq|apply Ad.Ai|apply AO.ret|apply AL.ret|apply Az.ret|apply Ad.ret|apply Ag.nil|apply Ap.nil|apply Ag.one|(apply Ap.bar;decide +kernel)|apply Ap.quiet|(apply Aa.AX (l:=o.ranks) (i:=rn);rfl;(first|exact congrArg (fun a=>some (PV.p (.int .i64 a))) hrn|rfl);rfl;omega;rfl)|(apply Aa.assign;rfl)|(apply Aa.move;rfl)|(apply Aa.int;rfl;rfl;rfl)|(apply Aa.AX;rfl;rfl;rfl;omega;rfl)|(apply Aa.Vg;rfl;rfl;rfl;omega;omega;rfl)|(apply Aa.load;rfl;rfl)|(apply Aa.BF;rfl;rfl)|(apply Aa.AQ;rfl;rfl;rfl)|(apply Aa.DF;rfl;rfl)|(apply Ad.Af;rfl)|(apply Ad.Ba;rfl)|(intro _;try (exfalso;omega)))
   all_goals first|(exfalso;omega)|(refine Done.ret rfl (.refl _) (by first|exact trivial|exact ⟨trivial,trivial,trivial⟩|exact ⟨trivial,trivial,trivial,trivial⟩) Aj.nil (Nat.zero_le _) (Nat.le_refl _) ⟨?_,rfl,rfl⟩;try rfl)
 ·intro hi
  have h1:VL o.ranks s=[]:=by rw [← hi,Nat.sub_self];rfl
  rw [h1]
  repeat' (first|apply Ad.assoc|apply Ad.AB|apply Ad.AY|apply AO.normal|apply AL.exit|apply Az.exit|apply Ad.ret|apply Ag.nil|apply Ag.one|(apply Aa.assign;rfl)|(apply Aa.move;rfl)|(apply Aa.int;rfl;rfl;rfl)|(apply Aa.load;rfl;rfl)|(apply Aa.BF;rfl;rfl)|(apply Aa.AQ;rfl;rfl;rfl)|(apply Ad.Af;rfl)|(intro _;try (exfalso;omega)))
  all_goals first|(exfalso;omega)|(refine Done.ret rfl (.refl _) (by first|exact trivial|exact ⟨trivial,trivial,trivial⟩|exact ⟨trivial,trivial,trivial,trivial⟩) Aj.nil (Nat.zero_le _) (Nat.le_refl _) ⟨?_,rfl,rfl⟩;try rfl)
def shg (F T:Ey) (a b:Ol):Int:=(Cc (Gg F a).Dt (Gg T b).Dt).1
def ShS (F T:Ey):Prop:=∀ a b,G9 F a→G9 T b→-1000≤shg F T a b∧shg F T a b≤1000∧max (shg F T a b) (-shg F T a b)=max (sW F T a b) (-sW F T a b)
theorem wR:Px Tryz.prog 85=true:=by kernel_rfl
theorem a0x (x:Ol):Vm.UD Tryz.prog 85 (Enc.enc x) (Enc.enc x)=some true:=by
 show some (decide ((x.d:Int)=x.d)&&(decide ((x.s:Int)=x.s)&&true))=_
 simp
theorem W9 (l:List Ol) (hl:l.length<1000000):AV env 30 [.lst 85 (cells l) l.length,.lst 85 (cells l) l.length] (.p (.bool true)):=by
 refine AV.enter (AA (by decide)) Tryz.func30 rfl (by kernel_rfl) (by simp [Tryz.ntmps30]) ?_
 repeat' (first|apply Ad.assoc|apply Ad.AB|apply Ad.Aq|apply Ad.Ai|apply Ag.nil|apply Ag.one|(apply Aa.assign;rfl)|(apply Aa.move;rfl)|(apply Aa.int;rfl;rfl;rfl)|(apply Aa.BF;rfl;rfl)|(apply Ad.Af;rfl)|(intro _;try (exfalso;omega)))
 all_goals try (exfalso;omega)
 all_goals try contradiction
 apply Ad.Fq (l.length) [(0,_),(1,_)] [] (fun k r=>(5,.p (.int .i64 (k:Int)))::r) (fun k r=>r) 0
 ·first|omega|decide
 ·first|omega|decide
 ·repeat (first|exact Ae.nil|(refine Ae.eq rfl ?_ ?_;(first|exact PV.Ak rfl|(simp [PV.under,AU.under];done)))|refine Ae.cons trivial rfl (.of_eq (Au (by simp<;>omega))) ?_)
 ·repeat (first|exact Aj.nil|(refine Aj.eq rfl (Ac rfl) ?_ ?_;(first|exact HB.Ak rfl|exact AU.Ah _ _|(simp [HB.under,AU.under,PV.under];done)))|(refine Aj.cons (Ac rfl) ?_ rfl ?_ ?_;(first|exact trivial|exact AU.Ah _ _|(simp [HB.under,AU.under,PV.under]));(first|exact Bo.refl _|exact Bo.vec (Bj.refl _) (by simp))))
 ·intro k hk
  have he:=a0x (gi l k)
  repeat' (first|apply Ad.assoc|apply Ad.AB|apply Ad.BD|apply Ad.region|apply Ad.Aq|apply Ad.Ai|apply AO.normal|apply AL.normal|apply Ad.skip|apply Ag.nil|apply Ap.nil|apply Ag.one|(apply Ap.bar;decide +kernel)|apply Ap.quiet|(apply Aa.a3e;rfl;rfl;exact wR;exact he)|(apply Aa.assign;rfl)|(apply Aa.move;rfl)|(apply Aa.Bq;rfl;rfl;omega)|(apply Aa.int;rfl;rfl;rfl)|(apply Aa.AX;rfl;rfl;rfl;omega;rfl)|(apply Aa.load;rfl;rfl)|(apply Aa.BF;rfl;rfl)|(apply Ad.Af;rfl)|(apply Ad.cond_false;rfl)|(intro _;try (exfalso;omega)))
  all_goals try (exfalso;omega)
  refine Az.normal ⟨by first|omega|decide,?_,?_⟩
  ·repeat (first|exact Ae.nil|refine Ae.same trivial rfl ?_|refine Ae.same (Ac rfl) rfl ?_|refine Ae.same ⟨trivial,Ac rfl,trivial⟩ rfl ?_|refine Ae.same ⟨trivial,Ac rfl,Ac rfl,trivial⟩ rfl ?_|refine Ae.same ⟨trivial,Ac rfl,Ac rfl,Ac rfl,trivial⟩ rfl ?_|refine Ae.same ⟨trivial,trivial⟩ rfl ?_|refine Ae.cons trivial rfl (.of_eq (Au (by simp<;>omega))) ?_)
  ·repeat (first|exact Aj.nil|(refine Aj.cons (Ac rfl) ?_ rfl ?_ ?_;(first|exact HB.Ak rfl|exact AU.Ah _ _|(simp [HB.under,AU.under,PV.under]));(first|exact Bo.refl _|exact Bo.vec (Bj.refl _) (by simp))))
 ·repeat' (first|apply Ad.assoc|apply Ad.AB|apply Ad.AY|apply AO.normal|apply AL.exit|apply Az.exit|apply Ad.ret|apply Ag.nil|apply Ag.one|(apply Aa.assign;rfl)|(apply Aa.move;rfl)|(apply Aa.int;rfl;rfl;rfl)|(apply Aa.BF;rfl;rfl)|(apply Ad.Af;rfl)|(intro _;try (exfalso;omega)))
  all_goals first|(exfalso;omega)|contradiction|(refine Done.ret rfl (.refl _) (by first|exact trivial|exact ⟨trivial,trivial,trivial⟩|exact ⟨trivial,trivial,trivial,trivial⟩) Aj.nil (Nat.zero_le _) (Nat.le_refl _) ⟨?_,rfl,rfl⟩;try rfl)
end Go.Proofs.YtdabojnmoejilaaGreatDoor
namespace Go.Proofs.YtdabojnmoejilaaGreatDoor
open Go Go.Am Go.Vm
attribute [local irreducible] Aa Ag Ap Ad BA AV CS AO AL Az Vm.Done Df Bh
def a8k (o:Ey):Rgs:=⟨List.replicate o.Aw.length 0,0,0⟩
def a3v (o:Ey) (k:Nat):Nat:=2 ^ (gi o.Aw k).stops.length-1
def a8f (o:Ey):Rgs:=⟨zZ (a3v o) (List.replicate o.Aw.length 0) o.Aw.length,2 ^ o.FN.length-1,0⟩
def a8q (r:Rgs) (d s:Nat):Rgs:=⟨r.stops.set d (gi r.stops d ||| 2 ^ s),r.cp,r.off⟩
def a0j (a b:Rgs) (k:Nat):Nat:=gi a.stops k ||| gi b.stops k
def a6e (a b:Rgs):Rgs:=⟨zZ (a0j a b) a.stops a.stops.length,a.cp ||| b.cp,a.off ||| b.off⟩
end Go.Proofs.YtdabojnmoejilaaGreatDoor
namespace Go.Proofs.YtdabojnmoejilaaGreatDoor
open Go Go.Am Go.Vm
attribute [local irreducible] Aa Ag Ap Ad BA AV CS AO AL Az Vm.Done Df Bh
theorem Wj (x n:Nat):(x &&& (2 ^ n-1)) / 2 ^ n=0:=by
 have h1:x &&& (2 ^ n-1)≤2 ^ n-1:=Nat.and_le_right
 have h2:0<2 ^ n:=Nat.two_pow_pos n
 exact Nat.div_eq_of_lt (by omega)
theorem nY (o:Ey) (ho:Rl o) (b:Nat→Nat) (hb:∀ i,b i<256):(Sr o b).Ok:=by
 have r2:=ho.Aw
 have l:=Jl (F9 o b) o.Aw.length
 refine ⟨fun i hi=>?_,?_,?_,?_⟩
 ·have hi:i<(Gv (F9 o b) o.Aw.length).length:=hi
  rw [l] at hi
  show gi (Gv (F9 o b) o.Aw.length) i<_
  rw [Z5 _ hi]
  have:=hb (i % 3)
  have:F9 o b i≤b (i % 3):=Nat.and_le_left
  omega
 ·have:=hb 3
  have:b 3 &&& (2 ^ o.FN.length-1)≤b 3:=Nat.and_le_left
  show b 3 &&& (2 ^ o.FN.length-1)<_
  omega
 ·have:=hb 4
  have:b 4 &&& (2 ^ o.Aw.length-1)≤b 4:=Nat.and_le_left
  show b 4 &&& (2 ^ o.Aw.length-1)<_
  omega
 ·show (Gv (F9 o b) o.Aw.length).length<_
  omega
theorem gG (o:Ey) (b:Nat→Nat):Lj o (Sr o b)=0:=by
 have l:=Jl (F9 o b) o.Aw.length
 rw [Sz (show (Gv (F9 o b) o.Aw.length).length=_ from l) fun i hi=>?_]
 ·rw [if_neg]
  intro h
  rcases h with h|h
  ·exact h (Wj _ _)
  ·exact h (Wj _ _)
 ·have hi:i<(Gv (F9 o b) o.Aw.length).length:=hi
  rw [l] at hi
  show gi (Gv (F9 o b) o.Aw.length) i / _=0
  rw [Z5 _ hi]
  exact Wj _ _
def b0y (i:Nat):Nat:=if i=4 then 0 else 255
end Go.Proofs.YtdabojnmoejilaaGreatDoor
namespace Go.Proofs.YtdabojnmoejilaaGreatDoor
open Go Go.Am Go.Vm Go.Tra Go.Hun
attribute [local irreducible] Aa Ag Ap Ad BA AV CS AO AL Az Vm.Done Df Bh
structure qh where
 Cj:o9
 tgt:o9
 bits:Nat→Nat
 w:Nat→Nat
def qh.enc (x:qh):List FV:=[.lst 150 (cells x.Cj.ranks) x.Cj.ranks.length,.lst 75 (cells x.Cj.Aw) x.Cj.Aw.length,.lst 153 (cells x.Cj.links) x.Cj.links.length,
 .lst 150 (cells x.tgt.ranks) x.tgt.ranks.length,.lst 75 (cells x.tgt.Aw) x.tgt.Aw.length,.lst 153 (cells x.tgt.links) x.tgt.links.length,
 .int .u8 (x.bits 0:Int),.int .u8 (x.bits 1:Int),.int .u8 (x.bits 2:Int),.int .u8 (x.bits 3:Int),.int .u8 (x.bits 4:Int),.int .u8 (x.w 0:Int),.int .u8 (x.w 1:Int),.int .u8 (x.w 2:Int),.int .u8 (x.w 3:Int)]
structure qh.Ok (x:qh):Prop where
 Cj:x.Cj.Ok
 tgt:x.tgt.Ok
 bits:∀ i,x.bits i<256
 w:∀ i,x.w i<256
def Tm (x:qh):Prop:=Qy x.Cj∧Qy x.tgt
noncomputable instance (x:qh):Decidable (Tm x):=Classical.propDecidable _
theorem gX (x:qh) (hx:x.Ok):AV env 13 [.agg x.enc] (.p (.bool (decide (Tm x)))):=by
 have h1:=XL x.Cj hx.Cj
 have h2:=XL x.tgt hx.tgt
 refine AV.enter (AA (by decide)) Tryz.func13 rfl (by kernel_rfl) (by simp [Tryz.ntmps13]) ?_
 by_cases c1:Qy x.Cj
 ·rw [decide_eq_true c1] at h1
  by_cases c2:Qy x.tgt
  ·rw [decide_eq_true c2] at h2
   rw [decide_eq_true (p:=Tm x) ⟨c1,c2⟩]
   repeat' (first|apply Ad.AB|apply Ad.ret|apply Ag.nil|apply Ag.one|(apply Ag.take;rfl;rfl)|(apply Aa.fn;rfl;rfl;exact h1;intro _;rfl)|(apply Aa.fn;rfl;rfl;exact h2;intro _;rfl)|(apply Aa.assign;rfl)|(apply Aa.move;rfl)|(apply Aa.load;rfl;rfl)|(apply Aa.Bv;rfl;rfl)|(apply Aa.AQ;rfl;rfl;rfl)|(apply Aa.box;rfl;trivial))
   all_goals first|(exfalso;omega)|contradiction|(refine Done.ret rfl (.refl _) (by first|exact trivial|exact ⟨trivial,trivial,trivial⟩|exact ⟨trivial,trivial,trivial,trivial⟩) Aj.nil (Nat.zero_le _) (Nat.le_refl _) ⟨?_,rfl,rfl⟩;try rfl)
  ·rw [decide_eq_false c2] at h2
   rw [decide_eq_false (p:=Tm x) (fun h=>c2 h.2)]
   repeat' (first|apply Ad.AB|apply Ad.ret|apply Ag.nil|apply Ag.one|(apply Ag.take;rfl;rfl)|(apply Aa.fn;rfl;rfl;exact h1;intro _;rfl)|(apply Aa.fn;rfl;rfl;exact h2;intro _;rfl)|(apply Aa.assign;rfl)|(apply Aa.move;rfl)|(apply Aa.load;rfl;rfl)|(apply Aa.Bv;rfl;rfl)|(apply Aa.AQ;rfl;rfl;rfl)|(apply Aa.box;rfl;trivial))
   all_goals first|(exfalso;omega)|contradiction|(refine Done.ret rfl (.refl _) (by first|exact trivial|exact ⟨trivial,trivial,trivial⟩|exact ⟨trivial,trivial,trivial,trivial⟩) Aj.nil (Nat.zero_le _) (Nat.le_refl _) ⟨?_,rfl,rfl⟩;try rfl)
 ·rw [decide_eq_false c1] at h1
  rw [decide_eq_false (p:=Tm x) (fun h=>c1 h.1)]
  repeat' (first|apply Ad.AB|apply Ad.ret|apply Ag.nil|apply Ag.one|(apply Ag.drop;rfl;rfl;rfl)|(apply Aa.fn;rfl;rfl;exact h1;intro _;rfl)|(apply Aa.assign;rfl)|(apply Aa.move;rfl)|(apply Aa.load;rfl;rfl)|(apply Aa.AP;rfl;rfl)|(apply Aa.AQ;rfl;rfl;rfl)|(apply Aa.box;rfl;trivial))
  all_goals first|(exfalso;omega)|contradiction|(refine Done.ret rfl (.refl _) (by first|exact trivial|exact ⟨trivial,trivial,trivial⟩|exact ⟨trivial,trivial,trivial,trivial⟩) Aj.nil (Nat.zero_le _) (Nat.le_refl _) ⟨?_,rfl,rfl⟩;try rfl)
def mkW (w:Nat→Nat):ZB:=⟨((w 0 % 32:Nat):Int),((w 1 % 8:Nat):Int),((w 2 % 32:Nat):Int),((w 3 % 64:Nat):Int)⟩
noncomputable def mkQ (x:qh):SY:=⟨dS x.Cj,Sr (dS x.Cj) x.bits,dS x.tgt,mkW x.w⟩
theorem jk (x:qh) (hx:x.Ok) (hf:Tm x):AV env 14 [.agg x.enc] (.p (.agg (Enc.enc (mkQ x)))):=by
 have h1:=TD x.Cj hx.Cj hf.1
 have h2:=TD x.tgt hx.tgt hf.2
 have h3:=jP (dS x.Cj) (kX x.Cj hx.Cj hf.1) x.bits hx.bits
 have w0:=hx.w 0
 have w1:=hx.w 1
 have w2:=hx.w 2
 have w3:=hx.w 3
 obtain ⟨a0,e0⟩:∃ a,a=x.w 0 % 32:=⟨_,rfl⟩
 obtain ⟨a1,e1⟩:∃ a,a=x.w 1 % 8:=⟨_,rfl⟩
 obtain ⟨a2,e2⟩:∃ a,a=x.w 2 % 32:=⟨_,rfl⟩
 obtain ⟨a3,e3⟩:∃ a,a=x.w 3 % 64:=⟨_,rfl⟩
 have eQ:mkQ x=⟨dS x.Cj,Sr (dS x.Cj) x.bits,dS x.tgt,⟨(a0:Int),(a1:Int),(a2:Int),(a3:Int)⟩⟩:=by rw [e0,e1,e2,e3];rfl
 have v0:EW .rem .u8 (x.w 0:Int) 32=some (.int .u8 (a0:Int)):=by rw [e0];rfl
 have v1:EW .rem .u8 (x.w 1:Int) 8=some (.int .u8 (a1:Int)):=by rw [e1];rfl
 have v2:EW .rem .u8 (x.w 2:Int) 32=some (.int .u8 (a2:Int)):=by rw [e2];rfl
 have v3:EW .rem .u8 (x.w 3:Int) 64=some (.int .u8 (a3:Int)):=by rw [e3];rfl
 have a0b:a0<256:=by omega
 have a1b:a1<256:=by omega
 have a2b:a2<256:=by omega
 have a3b:a3<256:=by omega
 rw [eQ]
 clear eQ e0 e1 e2 e3
 generalize Sr (dS x.Cj) x.bits=r at *
 generalize dS x.Cj=F at *
 generalize dS x.tgt=T at *
 refine AV.enter (AA (by decide)) Tryz.func14 rfl (by kernel_rfl) (by simp [Tryz.ntmps14]) ?_
 repeat' (first|apply Ad.AB|apply Ad.BD|apply Ad.ret|apply Ag.nil|apply Ap.nil|apply Ag.one|(apply Ap.bar;decide +kernel)|apply Ap.quiet|(apply Aa.fn;rfl;rfl;exact h1;intro _;rfl)|(apply Aa.fn;rfl;rfl;exact h2;intro _;rfl)|(apply Aa.fn;rfl;rfl;exact h3;intro _;rfl)|(apply Aa.UR;rfl;rfl;rfl;rfl;rfl;decide)|(apply Aa.int;rfl;rfl;exact v0)|(apply Aa.int;rfl;rfl;exact v1)|(apply Aa.int;rfl;rfl;exact v2)|(apply Aa.int;rfl;rfl;exact v3)|(apply Aa.load;rfl;rfl)|(apply Aa.AQ;rfl;rfl;rfl)|(apply Aa.box;rfl;trivial)|(apply Aa.alloc;rfl)|(apply Aa.Bl;rfl;rfl;rfl;trivial;rfl;rfl;exact Ac rfl;exact le_dec rfl)|(apply Aa.build;rfl;rfl;rfl;rfl;rfl)|(apply Aa.I4;rfl;rfl;rfl;rfl;omega))
 all_goals first|(exfalso;omega)|(refine Done.ret rfl (.refl _) (by first|exact trivial|exact ⟨trivial,trivial,trivial⟩|exact ⟨trivial,trivial,trivial,trivial⟩) Aj.nil (Nat.zero_le _) (Nat.le_refl _) ⟨?_,rfl,rfl⟩;try rfl)
theorem a1z {w:Nat→Nat}:ND (mkW w):=fun i hi=>by
 match i,hi with
 |0,_=>show (0:Int)≤((w 0 % 32:Nat):Int)∧((w 0 % 32:Nat):Int)≤100000;omega
 |1,_=>show (0:Int)≤((w 1 % 8:Nat):Int)∧((w 1 % 8:Nat):Int)≤100000;omega
 |2,_=>show (0:Int)≤((w 2 % 32:Nat):Int)∧((w 2 % 32:Nat):Int)≤100000;omega
 |3,_=>show (0:Int)≤((w 3 % 64:Nat):Int)∧((w 3 % 64:Nat):Int)≤100000;omega
theorem Rl.zh {o:Ey} (h:Rl o):(CV o).length≤9:=by
 have h1:=Pz (ns:=PW o) (K:=3) (fun d hd=>by rw [LU] at hd;rw [Wv o hd];exact h.stops d hd) (PW o).length (Nat.le_refl _)
 rw [WJ]
 have:=h.Aw
 rw [LU] at h1 ⊢
 omega
theorem Yb (o:Ey) (r:Rgs):(BM o r).length≤(CV o).length:=List.length_filter_le _ _
theorem xZ:∀ a,a<6→∀ b,b<6→(Cc (gi EU a) (gi EU b)).2=0∧-1000≤(Cc (gi EU a) (gi EU b)).1∧(Cc (gi EU a) (gi EU b)).1≤1000 ∧
 max (Cc (gi EU a) (gi EU b)).1 (-(Cc (gi EU a) (gi EU b)).1)=max (Cc (gi EU b) (gi EU a)).1 (-(Cc (gi EU b) (gi EU a)).1)∧(a=b→(Cc (gi EU a) (gi EU b)).1=0):=by decide +kernel
theorem Rl.Dt {o:Ey} (h:Rl o) {p:Ol} (hp:G9 o p):∃ a,a<6∧(Gg o p).Dt=gi EU a:=(h.st p.d hp.1 p.s hp.2).2.2
theorem a3g {F T:Ey} (hF:Rl F) (hT:Rl T):ShB F T:=fun a b ha hb=>by
 obtain ⟨i,hi,ei⟩:=hF.Dt ha
 obtain ⟨j,hj,ej⟩:=hT.Dt hb
 have:=xZ j hj i hi
 unfold sW
 rw [ei,ej]
 exact ⟨this.1,this.2.1,this.2.2.1⟩
theorem a2s {F T:Ey} {r:Rgs} {w:Nat→Nat} (hF:Rl F) (hT:Rl T) (hr:r.Ok) (he:Lj F r=0):eX ⟨F,r,T,mkW w⟩:=by
 have h1:=hF.zh
 have h2:=hT.zh
 have h3:=Yb F r
 refine ⟨hF.sm,hT.sm,hr,?_,a3g hF hT⟩
 unfold fE
 rw [if_neg (fun h=>h hF.ok),if_neg (fun h=>h he),if_neg (fun h=>h hT.ok),if_neg (fun h=>h a1z),if_neg (by show ¬ ((BM F r).length>60∨(CV T).length>120);omega)]
theorem a1c (x:qh) (hx:x.Ok) (hf:Tm x):eX (mkQ x):=a2s (kX x.Cj hx.Cj hf.1) (kX x.tgt hx.tgt hf.2) (nY _ (kX x.Cj hx.Cj hf.1) _ hx.bits) (gG _ _)
end Go.Proofs.YtdabojnmoejilaaGreatDoor
namespace Go.Proofs.YtdabojnmoejilaaGreatDoor
open Go Go.Am Go.Vm Go.Tra Go.Hun
attribute [local irreducible] Aa Ag Ap Ad BA AV CS AO AL Az Vm.Done Df Bh
theorem dM {o:Ey} (ho:Ig o):Lj o ⟨[],0,0⟩=5:=Wq (by have:=ho.Aw;show ¬ (0=o.Aw.length);omega)
theorem Po (x:qh) (hx:x.Ok) (d s:Int):AV env 8 [.agg x.enc,.agg [.int .i64 d,.int .i64 s]] (.p (.bool true)):=by
 have hkn:=jA
 have hfs:=gX x hx
 refine AV.enter (AA (by decide)) Tryz.func8 rfl (by kernel_rfl) (by simp [Tryz.ntmps8]) ?_
 by_cases hf:Tm x
 case neg =>
  rw [decide_eq_false hf] at hfs
  repeat' (first|apply Ad.assoc|apply Ad.AB|apply Ad.BH|apply Ag.nil|apply Ag.one|(apply Ag.take;rfl;rfl)|(apply Aa.fn;rfl;rfl;exact hkn;intro _;rfl)|(apply Aa.fn;rfl;rfl;exact hfs;intro _;rfl)|(apply Aa.assign;rfl)|(apply Aa.move;rfl)|(apply Aa.load;rfl;rfl)|(apply Aa.AP;rfl;rfl)|(apply Aa.box;rfl;trivial)|(apply Aa.not;rfl)|(apply Ad.Bc;rfl))
  all_goals first|(exfalso;omega)|contradiction|((refine Done.ret rfl (.refl _) (by first|exact trivial|exact ⟨trivial,trivial,trivial⟩|exact ⟨trivial,trivial,trivial,trivial⟩) Aj.nil (Nat.zero_le _) (Nat.le_refl _) ⟨?_,rfl,rfl⟩;try rfl);try simp)
 rw [decide_eq_true hf] at hfs
 have hm:=jk x hx hf
 have hq:=a1c x hx hf
 generalize mkQ x=q at *
 have k1:=hq.k1
 have e1:=(Jg hq.err).2.1
 have hd:=aj q.Cj k1 q.reg hq.rg e1
 have hs:=jG q.Cj k1
 have hn:=YB q.Cj k1 (⟨[],0,0⟩:Rgs) ⟨fun i hi=>by have:i<0:=hi;omega,by decide,by decide,by decide⟩ (by rw [dM k1];decide)
 rw [dM k1] at hn
 have hld:=ZG q.Cj k1 q.reg hq.rg hq.len
 have hls:=Tf q.Cj k1
 have b1:=EL k1
 have b2:=Yb q.Cj q.reg
 have hs1:=W9 (BM q.Cj q.reg) (by omega)
 have hs2:=W9 (CV q.Cj) (by omega)
 by_cases hin:0≤d∧d<q.Cj.Aw.length∧0≤s∧s<(gi q.Cj.Aw d.toNat).stops.length
 ·obtain ⟨i,rfl⟩:∃ i:Nat,d=i:=⟨d.toNat,by omega⟩
  obtain ⟨j,rfl⟩:∃ j:Nat,s=j:=⟨s.toNat,by omega⟩
  rw [Int.toNat_natCast] at hin
  have hi:i<q.Cj.Aw.length:=by omega
  have hp:G9 q.Cj ⟨i,j⟩:=⟨hi,by show j<(gi q.Cj.Aw i).stops.length;omega⟩
  have ht:=fG q.Cj k1 ⟨i,j⟩ hp
  have hlt:=iy q.Cj k1 ⟨i,j⟩ hp
  have hrf:decide (MR q.Cj ⟨i,j⟩=MR q.Cj ⟨i,j⟩)=true:=decide_eq_true rfl
  have s1:=k1.stops i hi
  repeat' (first|(refine Ag.Ie 49 ?_;refine Ag.ghost (AZ.le 48 (v0:=.p (.agg (Enc.enc (⟨[],0,0⟩:Rgs)))) rfl (.p (.agg (.cons (.nil _) (.refl _))))) ?_)|apply Ad.assoc|apply Ad.AB|apply Ad.BD|apply Ad.Aq|apply Ad.ret|apply Ag.nil|apply Ap.nil|apply Ag.one|(apply Ap.bar;decide +kernel)|(apply Ag.take;rfl;rfl)|(apply Ap.G5;rfl;rfl)|(apply Ap.guard;rfl;rfl)|(apply Aa.fn;rfl;rfl;exact hkn;intro _;rfl)|(apply Aa.fn;rfl;rfl;exact hfs;intro _;rfl)|(apply Aa.fn;rfl;rfl;exact hm;intro _;rfl)|(apply Aa.fn;rfl;rfl;exact hd;intro _;rfl)|(apply Aa.fn;rfl;rfl;exact hs;intro _;rfl)|(apply Aa.fn;rfl;rfl;exact ht;intro _;rfl)|(apply Aa.fn;rfl;rfl;exact hn;intro _;rfl)|(apply Aa.fn;rfl;rfl;exact hld;intro _;rfl)|(apply Aa.fn;rfl;rfl;exact hls;intro _;rfl)|(apply Aa.fn;rfl;rfl;exact hlt;intro _;rfl)|(apply Aa.fn;rfl;rfl;exact hs1;intro _;rfl)|(apply Aa.fn;rfl;rfl;exact hs2;intro _;rfl)|(apply Aa.a0d;rfl;rfl;exact hrf)|(apply Aa.AX (l:=q.Cj.Aw) (i:=i);rfl;rfl;rfl;exact hi;rfl)|(apply Aa.assign;rfl)|(apply Aa.move;rfl)|(apply Aa.int;rfl;rfl;rfl)|(apply Aa.load;rfl;rfl)|(apply Aa.Bv;rfl;rfl)|(apply Aa.AP;rfl;rfl)|(apply Aa.BF;rfl;rfl)|(apply Aa.gZ;rfl;rfl)|(apply Aa.AQ;rfl;rfl;rfl)|(apply Aa.DF;rfl;rfl)|(apply Aa.box;rfl;trivial)|(apply Aa.alloc;rfl)|(apply Aa.Bl;rfl;rfl;rfl;trivial;rfl;rfl;exact Ac rfl;exact le_dec rfl)|(apply Aa.build;rfl;rfl;rfl;rfl;rfl)|(apply Aa.not;rfl)|(apply Aa.extract;rfl;rfl)|(apply Ad.Ar;rfl)|(apply Ad.Af;rfl)|(intro _;try (exfalso;omega)))
  all_goals try (exfalso;omega)
  all_goals try contradiction
  all_goals ((refine Done.ret rfl (.refl _) (by first|exact trivial|exact ⟨trivial,trivial,trivial⟩|exact ⟨trivial,trivial,trivial,trivial⟩) Aj.nil (Nat.zero_le _) (Nat.le_refl _) ⟨?_,rfl,rfl⟩;try rfl);try simp)
 ·have ht:=ZW q.Cj k1 d s hin
  by_cases h1:0≤d∧d<q.Cj.Aw.length
  ·obtain ⟨i,rfl⟩:∃ i:Nat,d=i:=⟨d.toNat,by omega⟩
   have hi:i<q.Cj.Aw.length:=by omega
   have s1:=k1.stops i hi
   rw [Int.toNat_natCast] at hin
   repeat' (first|(refine Ag.Ie 49 ?_;refine Ag.ghost (AZ.le 48 (v0:=.p (.agg (Enc.enc (⟨[],0,0⟩:Rgs)))) rfl (.p (.agg (.cons (.nil _) (.refl _))))) ?_)|apply Ad.assoc|apply Ad.AB|apply Ad.BD|apply Ad.Aq|apply Ad.BH|apply Ag.nil|apply Ap.nil|apply Ag.one|(apply Ap.bar;decide +kernel)|(apply Ag.take;rfl;rfl)|(apply Ap.G5;rfl;rfl)|(apply Ap.drop;rfl;rfl;rfl)|(apply Ap.guard;rfl;rfl)|(apply Aa.fn;rfl;rfl;exact hkn;intro _;rfl)|(apply Aa.fn;rfl;rfl;exact hfs;intro _;rfl)|(apply Aa.fn;rfl;rfl;exact hm;intro _;rfl)|(apply Aa.fn;rfl;rfl;exact hd;intro _;rfl)|(apply Aa.fn;rfl;rfl;exact hs;intro _;rfl)|(apply Aa.fn;rfl;rfl;exact ht;intro _;rfl)|(apply Aa.fn;rfl;rfl;exact hn;intro _;rfl)|(apply Aa.fn;rfl;rfl;exact hld;intro _;rfl)|(apply Aa.fn;rfl;rfl;exact hls;intro _;rfl)|(apply Aa.fn;rfl;rfl;exact hs1;intro _;rfl)|(apply Aa.fn;rfl;rfl;exact hs2;intro _;rfl)|(apply Aa.AX (l:=q.Cj.Aw) (i:=i);rfl;rfl;rfl;exact hi;rfl)|(apply Aa.assign;rfl)|(apply Aa.move;rfl)|(apply Aa.int;rfl;rfl;rfl)|(apply Aa.load;rfl;rfl)|(apply Aa.Bv;rfl;rfl)|(apply Aa.AP;rfl;rfl)|(apply Aa.BF;rfl;rfl)|(apply Aa.gZ;rfl;rfl)|(apply Aa.AQ;rfl;rfl;rfl)|(apply Aa.DF;rfl;rfl)|(apply Aa.box;rfl;trivial)|(apply Aa.alloc;rfl)|(apply Aa.Bl;rfl;rfl;rfl;trivial;rfl;rfl;exact Ac rfl;exact le_dec rfl)|(apply Aa.build;rfl;rfl;rfl;rfl;rfl)|(apply Aa.eqS;rfl;rfl)|(apply Aa.not;rfl)|(apply Aa.extract;rfl;rfl)|(apply Ad.Bc;rfl)|(apply Ad.Ar;rfl)|(apply Ad.Af;rfl)|(intro _;try (exfalso;omega)))
   all_goals try (exfalso;omega)
   all_goals try contradiction
   all_goals ((refine Done.ret rfl (.refl _) (by first|exact trivial|exact ⟨trivial,trivial,trivial⟩|exact ⟨trivial,trivial,trivial,trivial⟩) Aj.nil (Nat.zero_le _) (Nat.le_refl _) ⟨?_,rfl,rfl⟩;try rfl);try simp)
  ·repeat' (first|(refine Ag.Ie 49 ?_;refine Ag.ghost (AZ.le 48 (v0:=.p (.agg (Enc.enc (⟨[],0,0⟩:Rgs)))) rfl (.p (.agg (.cons (.nil _) (.refl _))))) ?_)|apply Ad.assoc|apply Ad.AB|apply Ad.BD|apply Ad.Aq|apply Ad.BH|apply Ag.nil|apply Ap.nil|apply Ag.one|(apply Ap.bar;decide +kernel)|(apply Ag.take;rfl;rfl)|(apply Ap.G5;rfl;rfl)|(apply Ap.drop;rfl;rfl;rfl)|(apply Ap.guard;rfl;rfl)|(apply Aa.fn;rfl;rfl;exact hkn;intro _;rfl)|(apply Aa.fn;rfl;rfl;exact hfs;intro _;rfl)|(apply Aa.fn;rfl;rfl;exact hm;intro _;rfl)|(apply Aa.fn;rfl;rfl;exact hd;intro _;rfl)|(apply Aa.fn;rfl;rfl;exact hs;intro _;rfl)|(apply Aa.fn;rfl;rfl;exact ht;intro _;rfl)|(apply Aa.fn;rfl;rfl;exact hn;intro _;rfl)|(apply Aa.fn;rfl;rfl;exact hld;intro _;rfl)|(apply Aa.fn;rfl;rfl;exact hls;intro _;rfl)|(apply Aa.fn;rfl;rfl;exact hs1;intro _;rfl)|(apply Aa.fn;rfl;rfl;exact hs2;intro _;rfl)|(apply Aa.assign;rfl)|(apply Aa.move;rfl)|(apply Aa.int;rfl;rfl;rfl)|(apply Aa.load;rfl;rfl)|(apply Aa.Bv;rfl;rfl)|(apply Aa.AP;rfl;rfl)|(apply Aa.BF;rfl;rfl)|(apply Aa.gZ;rfl;rfl)|(apply Aa.AQ;rfl;rfl;rfl)|(apply Aa.box;rfl;trivial)|(apply Aa.alloc;rfl)|(apply Aa.Bl;rfl;rfl;rfl;trivial;rfl;rfl;exact Ac rfl;exact le_dec rfl)|(apply Aa.build;rfl;rfl;rfl;rfl;rfl)|(apply Aa.eqS;rfl;rfl)|(apply Aa.not;rfl)|(apply Aa.extract;rfl;rfl)|(apply Ad.Bc;rfl)|(apply Ad.Ar;rfl)|(intro _;try (exfalso;omega)))
   all_goals try (exfalso;omega)
   all_goals try contradiction
   all_goals ((refine Done.ret rfl (.refl _) (by first|exact trivial|exact ⟨trivial,trivial,trivial⟩|exact ⟨trivial,trivial,trivial,trivial⟩) Aj.nil (Nat.zero_le _) (Nat.le_refl _) ⟨?_,rfl,rfl⟩;try rfl);try simp)
end Go.Proofs.YtdabojnmoejilaaGreatDoor
namespace Go.Proofs.YtdabojnmoejilaaGreatDoor
open Go Go.Am Go.Vm
theorem Lm {n:Int} (h:(Lit.int .u8 n).wf=true):∃ m:Nat,m<256∧n=m:=by
 simp [Lit.wf,IntKind.min,IntKind.max,IntKind.signed,IntKind.bits] at h
 exact ⟨n.toNat,by omega,by omega⟩
theorem uY {n:Int} (h:(Lit.int .i8 n).wf=true):-128≤n∧n≤127:=by
 simp [Lit.wf,IntKind.min,IntKind.max,IntKind.signed,IntKind.bits] at h
 omega
theorem wO {n:Int} (h:(Lit.int .i64 n).wf=true):-9223372036854775808≤n∧n≤9223372036854775807:=by
 simp [Lit.wf,IntKind.min,IntKind.max,IntKind.signed,IntKind.bits] at h
 omega
theorem VZ {α β:Type} {R:β→α→Prop}:∀ {l:List α},(∀ x∈l,∃ y,R y x)→∃ r:List β,F5 R r l
 |[],_=>⟨[],.nil⟩
 |a::l,h=>by
  obtain ⟨y,hy⟩:=h a (by simp)
  obtain ⟨r,hr⟩:=VZ (l:=l) (fun x hx=>h x (by simp [hx]))
  exact ⟨y::r,.cons hy hr⟩
theorem Vr {α:Type} [Enc α] {p:α→Prop}:∀ {r:List α} {L:List (List FV)},F5 (fun a fs=>fs=Enc.enc a∧p a) r L→L.flatten=cells r∧L.length=r.length∧∀ i,i<r.length→p (gi r i)
 |_,_,.nil=>⟨rfl,rfl,fun i hi=>by simp at hi⟩
 |a::r,fs::L,.cons ⟨h1,h2⟩ t=>by
  obtain ⟨e1,e2,e3⟩:=Vr t
  refine ⟨by rw [List.flatten_cons,e1,h1];rfl,by simp [e2],fun i hi=>?_⟩
  cases i with
  |zero=>exact h2
  |succ i=>exact e3 i (by simpa using hi)
section
variable {α β:Type} {R:α→β→Prop} {a b c d e:α} {r:List β}
theorem vX (h:F5 R [a] r):∃ x,r=[x]∧R a x:=by
 cases h with|cons h1 t=>cases t;exact ⟨_,rfl,h1⟩
theorem Qe (h:F5 R [a,b] r):∃ x y,r=[x,y]∧R a x∧R b y:=by
 cases h with|cons h1 t=>obtain ⟨x,rfl,h2⟩:=vX t;exact ⟨_,_,rfl,h1,h2⟩
theorem WQ (h:F5 R [a,b,c] r):∃ x y z,r=[x,y,z]∧R a x∧R b y∧R c z:=by
 cases h with|cons h1 t=>obtain ⟨x,y,rfl,h2,h3⟩:=Qe t;exact ⟨_,_,_,rfl,h1,h2,h3⟩
theorem KY (h:F5 R [a,b,c,d] r):∃ x y z w,r=[x,y,z,w]∧R a x∧R b y∧R c z∧R d w:=by
 cases h with|cons h1 t=>obtain ⟨x,y,z,rfl,h2,h3,h4⟩:=WQ t;exact ⟨_,_,_,_,rfl,h1,h2,h3,h4⟩
theorem ni (h:F5 R [a,b,c,d,e] r):∃ x y z w v,r=[x,y,z,w,v]∧R a x∧R b y∧R c z∧R d w∧R e v:=by
 cases h with|cons h1 t=>obtain ⟨x,y,z,w,rfl,h2,h3,h4,h5⟩:=KY t;exact ⟨_,_,_,_,_,rfl,h1,h2,h3,h4,h5⟩
end
theorem lY {j:Nat} {fs:List FV} (h:Es Tryz.prog (j+1) 3 fs):∃ n:Int,fs=[.int .i64 n]∧-9223372036854775808≤n∧n≤9223372036854775807:=by
 simp only [Es,Tryz.underlying3] at h
 obtain ⟨n,rfl,hn⟩:=h
 exact ⟨n,rfl,wO hn⟩
theorem bV {j:Nat} {fs:List FV} (h:Es Tryz.prog (j+1) 4 fs):∃ b:Bool,fs=[.bool b]:=by
 simp only [Es,Tryz.underlying4] at h
 exact h
theorem a5n {α:Type} {l:List α} (h:l.length=5):∃ a b c d e,l=[a,b,c,d,e]:=by
 match l,h with|[a,b,c,d,e],_=>exact ⟨a,b,c,d,e,rfl⟩
theorem ng {j:Nat} {fs:List FV} (h:Es Tryz.prog (j+3) 150 fs):∃ x:FU,fs=x.enc∧x.Ok:=by
 simp only [Es,Tryz.underlying150,Tryz.underlying5,Tryz.underlying64,Tryz.underlying27] at h
 obtain ⟨parts,rfl,hp⟩:=h
 obtain ⟨a,b,c,d,e,rfl,⟨n1,rfl,h1⟩,⟨n2,rfl,h2⟩,⟨n3,rfl,h3⟩,⟨n4,rfl,h4⟩,L,rfl,hl,hL⟩:=ni hp
 obtain ⟨m1,q1,rfl⟩:=Lm h1
 obtain ⟨m2,q2,rfl⟩:=Lm h2
 obtain ⟨m4,q4,rfl⟩:=Lm h4
 obtain ⟨a,b,c,d,e,rfl⟩:=a5n hl
 obtain ⟨w0,rfl,g0⟩:=hL a (by simp)
 obtain ⟨w1,rfl,g1⟩:=hL b (by simp)
 obtain ⟨w2,rfl,g2⟩:=hL c (by simp)
 obtain ⟨w3,rfl,g3⟩:=hL d (by simp)
 obtain ⟨w4,rfl,g4⟩:=hL e (by simp)
 obtain ⟨v0,k0,rfl⟩:=Lm g0
 obtain ⟨v1,k1,rfl⟩:=Lm g1
 obtain ⟨v2,k2,rfl⟩:=Lm g2
 obtain ⟨v3,k3,rfl⟩:=Lm g3
 obtain ⟨v4,k4,rfl⟩:=Lm g4
 refine ⟨⟨m1,m2,n3,m4,[v0,v1,v2,v3,v4]⟩,rfl,q1,q2,uY h3,q4,fun i=>?_⟩
 match i with
 |0=>exact k0
 |1=>exact k1
 |2=>exact k2
 |3=>exact k3
 |4=>exact k4
 |n+5=>simp [gi]
end Go.Proofs.YtdabojnmoejilaaGreatDoor
