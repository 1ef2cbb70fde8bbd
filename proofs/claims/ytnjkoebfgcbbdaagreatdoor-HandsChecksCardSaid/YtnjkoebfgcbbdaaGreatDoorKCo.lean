/-
  Texts of a proof, merged (Sch, HanP, Wm2, Wm4, HanM). Conditions: in each statement.
-/
import Derived.Test.YtnjkoebfgcbbdaaGreatDoorKCn
set_option linter.unusedSimpArgs false
set_option linter.unusedVariables false
set_option linter.unusedSectionVars false
set_option maxRecDepth 100000
set_option maxHeartbeats 8000000
abbrev bl:=@List.not_mem_nil
abbrev cD:=@List.mem_flatMap
abbrev dE:=@List.nodup_cons
abbrev ep:=@Array.size_setIfInBounds
abbrev ez:=@List.nodup_append
abbrev eV:=@Array.getElem?_setIfInBounds_ne
abbrev gm:=@List.Pairwise.imp_of_mem
abbrev gn:=@List.countP_cons
namespace Go.Sch
section
open Go.Vm
def cmpL:List Int→List Int→Int
 |[],[]=>0
 |[],_::_=>-1
 |_::_,[]=>1
 |x::a,y::b=>if x<y then -1 else if y<x then 1 else cmpL a b
theorem fF:∀ a:List Int,cmpL a a=0
 |[]=>rfl
 |x::a=>by unfold cmpL;rw [if_neg (by omega),if_neg (by omega),fF a]
theorem cmpL_eq:∀ {a b:List Int},cmpL a b=0→a=b
 |[],[],_=>rfl
 |[],_::_,h=>by cases h
 |_::_,[],h=>by cases h
 |x::a,y::b,h=>by
  unfold cmpL at h;split at h
  ·cases h
  ·split at h
   ·cases h
   ·rw [cmpL_eq h,show x=y by omega]
theorem Wu:∀ a b:List Int,cmpL a b=-cmpL b a
 |[],[]=>rfl
 |[],_::_=>rfl
 |_::_,[]=>rfl
 |x::a,y::b=>by
  unfold cmpL;by_cases h1:x<y
  ·omega
  ·by_cases h2:y<x
   ·omega
   ·rw [if_neg h1,if_neg h2,if_neg h2,if_neg h1,Wu a b]
theorem aH:∀ {a b c:List Int},cmpL a b≤0→cmpL b c≤0→cmpL a c≤0
 |[],_,[],_,_=>bj _
 |[],_,_::_,_,_=>by show (-1:Int)≤0;omega
 |_::_,[],_,h,_=>by contradiction
 |_::_,_::_,[],_,h=>by assumption
 |x::a,y::b,z::c,h1,h2=>by
  unfold cmpL at h1 h2 ⊢;by_cases g1:x<y
  ·omega
  ·rw [if_neg g1] at h1
   by_cases g1':y<x
   ·omega
   ·rw [if_neg g1'] at h1
    by_cases g2:y<z
    ·omega
    ·rw [if_neg g2] at h2
     by_cases g3:z<y
     ·omega
     ·rw [if_neg g3] at h2
      rw [if_neg (by omega),if_neg (by omega)];exact aH h1 h2
theorem mX:∀ {a b:List Int} {m:Nat} {v:Int},m<a.length→m<b.length→gi a m=gi b m→cmpL (a.set m v) (b.set m v)=cmpL a b
 |[],_,_,_,h,_,_=>absurd h (bL _)
 |_::_,[],_,_,_,h,_=>absurd h (bL _)
 |x::a,y::b,0,v,_,_,h=>by
  have e:x=y:=h;subst e;unfold cmpL;simp
 |x::a,y::b,m+1,v,h1,h2,h=>by
  rw [en,en];have ih:=mX (v:=v) (a:=a) (b:=b) (m:=m) (by grind) (by grind) (by assumption);unfold cmpL;rw [ih]
def nD (x y:List Int×Int):Prop:=x.2<y.2∨x.2=y.2∧cmpL x.1 y.1≤0
theorem LD (x:List Int×Int):nD x x:=.inr ⟨rfl,by rw [fF];omega⟩
theorem NG {x y z:List Int×Int} (h1:nD x y) (h2:nD y z):nD x z:=by
 rcases h1 with h1|⟨h1,h1'⟩
 ·rcases h2 with h2|⟨h2,_⟩
  ·exact .inl (by omega)
  ·exact .inl (by omega)
 ·rcases h2 with h2|⟨h2,h2'⟩
  ·exact .inl (by omega)
  ·exact .inr ⟨by omega,aH h1' h2'⟩
theorem a3v {x y:List Int×Int} (h1:nD x y) (h2:nD y x):x=y:=by
 obtain ⟨a,c⟩:=x;obtain ⟨b,d⟩:=y;rcases h1 with h1|⟨h1,h1'⟩
 ·rcases h2 with h2|⟨h2,_⟩<;>simp only at h1 h2<;>omega
 ·rcases h2 with h2|⟨h2,h2'⟩
  ·omega
  ·simp only at h1 h1' h2'
   have h3:=Wu a b;rw [h1,cmpL_eq (a:=a) (b:=b) (by omega)]
def ltB (x y:List Int×Int):Bool:=decide (x.2<y.2)||(decide (x.2=y.2)&&decide (cmpL x.1 y.1<0))
theorem a7l {x y:List Int×Int} (h:ltB x y=true):nD x y:=by
 unfold ltB at h;simp only [Bool.or_eq_true,Bool.and_eq_true,decide_eq_true_eq] at h;rcases h with h|⟨h,h'⟩
 ·exact .inl h
 ·exact .inr ⟨h,by omega⟩
theorem zC {x y:List Int×Int} (h:ltB x y=false):nD y x:=by
 unfold ltB at h;simp only [Bool.or_eq_false_iff,Bool.and_eq_false_iff,decide_eq_false_iff_not] at h;obtain ⟨h1,h2⟩:=h;rcases h2 with h2|h2
 ·exact .inl (by omega)
 ·by_cases e:x.2=y.2
  ·have:=Wu x.1 y.1
   exact .inr ⟨e.symm,by omega⟩
  ·exact .inl (by omega)
def FW (nw:Nat→Bool) (f:Nat→Nat) (l:List Int):Nat→List (List Int)
 |0=>[l]
 |k+1=>if nw k=true then FW nw f l k++(FW nw f l k).map (fun x=>x.set (f k) 1) else FW nw f l k
theorem ZL (nw:Nat→Bool) (f:Nat→Nat) (l:List Int):∀ k,1≤(FW nw f l k).length∧(FW nw f l k).length≤2 ^ k
 |0=>⟨ab _,ab _⟩
 |k+1=>by
  have ih:=ZL nw f l k;unfold FW;grind
def VA (nw:Nat→Bool) (f:Nat→Nat) (k i:Nat):Prop:=∃ j,j<k∧nw j=true∧f j=i
theorem VA.succ {nw:Nat→Bool} {f:Nat→Nat} {k i:Nat}:VA nw f (k+1) i↔VA nw f k i∨nw k=true∧f k=i:=by
 constructor
 ·rintro ⟨j,h1,h2,h3⟩
  by_cases e:j=k
  ·grind
  ·exact .inl ⟨j,by omega,h2,h3⟩
 ·rintro (⟨j,h1,h2,h3⟩|⟨h1,h2⟩)
  ·exact ⟨j,by omega,h2,h3⟩
  ·exact ⟨k,by omega,h1,h2⟩
theorem Nq {nw:Nat→Bool} {f:Nat→Nat} {l:List Int}:∀ (k:Nat),(∀ j j',j<k→j'<k→f j=f j'→j=j')→(∀ j,j<k→f j<l.length)→(∀ j,j<k→nw j=true→gi l (f j)=0)→∀ x:List Int,
 x∈FW nw f l k↔x.length=l.length∧∀ i,i<l.length→(VA nw f k i→gi x i=0∨gi x i=1)∧(¬ VA nw f k i→gi x i=gi l i)
 |0,_,_,_,x=>by
  have h0:∀ i,¬ VA nw f 0 i:=fun i ⟨j,h,_⟩=>by omega
  unfold FW;rw [aR];constructor
  ·grind
  ·rintro ⟨h1,h2⟩
   exact KO h1 fun i hi=>(h2 i (by omega)).2 (h0 i)
 |k+1,hinj,hr,hz,x=>by
  have ih:=Nq k (fun j j' h h'=>hinj j j' (by omega) (by omega)) (fun j h=>hr j (by omega)) (fun j h=>hz j (by omega));have hk:=hr k (by omega);unfold FW;by_cases hn:nw k=true
  ·rw [if_pos hn,bq,ih,be]
   have hnk:¬ VA nw f k (f k):=fun ⟨j,h1,_,h3⟩=>by
    grind
   have hzk:=hz k (by omega) hn;constructor
   ·rintro (⟨h1,h2⟩|⟨y,hy,rfl⟩)
    ·refine ⟨h1,fun i hi=>⟨fun hh=>?_,fun hh=>(h2 i hi).2 fun h=>hh (VA.succ.2 (.inl h))⟩⟩
     rcases VA.succ.1 hh with hh|⟨_,rfl⟩
     ·grind
     grind
    ·obtain ⟨h1,h2⟩:=(ih y).1 hy
     refine ⟨by grind,fun i hi=>⟨fun hh=>?_,fun hh=>?_⟩⟩
     ·rw [Gt]
      split
      ·simp
      ·rename_i e
       rcases VA.succ.1 hh with hh|⟨_,rfl⟩
       ·grind
       omega
     ·rw [Gt,if_neg fun e=>hh (VA.succ.2 (.inr ⟨hn,e.1⟩))]
      exact (h2 i hi).2 fun h=>hh (VA.succ.2 (.inl h))
   ·rintro ⟨h1,h2⟩
    rcases (h2 (f k) hk).1 (VA.succ.2 (.inr ⟨hn,rfl⟩)) with e|e
    ·refine .inl ⟨h1,fun i hi=>⟨fun hh=>(h2 i hi).1 (VA.succ.2 (.inl hh)),fun hh=>?_⟩⟩
     by_cases ei:f k=i
     ·subst ei;rw [e,hzk]
     ·exact (h2 i hi).2 fun h=>(VA.succ.1 h).elim hh fun h=>ei h.2
    ·refine .inr ⟨x.set (f k) 0,(ih _).2 ⟨by rw [bo,h1],fun i hi=>⟨fun hh=>?_,fun hh=>?_⟩⟩,?_⟩
     ·have ei:f k≠i:=fun e=>hnk (e.symm▸hh)
      rw [Gt,if_neg fun e=>ei e.1];exact (h2 i hi).1 (VA.succ.2 (.inl hh))
     ·rw [Gt]
      by_cases ei:f k=i
      ·subst ei;rw [if_pos ⟨rfl,by omega⟩,hzk]
      ·rw [if_neg fun h=>ei h.1]
       exact (h2 i hi).2 fun h=>(VA.succ.1 h).elim hh fun h=>ei h.2
     ·refine KO (by simp) fun i hi=>?_
      rw [Gt,Gt];by_cases ei:f k=i
      ·subst ei;rw [if_pos ⟨rfl,by simpa using hi⟩,e]
      ·rw [if_neg fun h=>ei h.1,if_neg fun h=>ei h.1]
  ·rw [if_neg hn,ih]
   have:∀ i,VA nw f (k+1) i↔VA nw f k i:=fun i=>by
    rw [VA.succ];exact ⟨fun h=>h.elim id fun h=>absurd h.1 hn,.inl⟩
   simp only [this]
theorem dB {L:List (List Int)} {m:Nat} (hz:∀ x∈L,m<x.length∧gi x m=0) (h:L.Nodup):(L.map fun x=>x.set m 1).Nodup:=by
 have hb:∀ x∈L,((x.set m 1).set m 0)=x:=fun x hx=>by
  obtain ⟨h1,h2⟩:=hz x hx;refine KO (by simp) fun i hi=>?_
  rw [Gt,Gt];grind
 refine List.Pairwise.map _ (R:=fun a b=>a∈L∧b∈L∧a≠b) (fun a b ⟨ha,hb',hne⟩ e=>hne ?_) ?_
 ·grind
 ·exact gm (R:=(·≠·)) (fun {a b} ha hb h=>⟨ha,hb,h⟩) h
theorem Zd {nw:Nat→Bool} {f:Nat→Nat} {l:List Int}:∀ (k:Nat),(∀ j j',j<k→j'<k→f j=f j'→j=j')→(∀ j,j<k→f j<l.length)→(∀ j,j<k→nw j=true→gi l (f j)=0)→(FW nw f l k).Nodup
 |0,_,_,_=>by unfold FW;simp
 |k+1,hinj,hr,hz=>by
  have hm:=Nq (nw:=nw) (f:=f) (l:=l) k (fun j j' h h'=>hinj j j' (by omega) (by omega)) (fun j h=>hr j (by omega)) (fun j h=>hz j (by omega));have ih:=Zd (nw:=nw) (f:=f) (l:=l) k (fun j j' h h'=>hinj j j' (by omega) (by omega)) (fun j h=>hr j (by omega)) (fun j h=>hz j (by omega));unfold FW;by_cases hn:nw k=true
  ·rw [if_pos hn]
   have hnk:¬ VA nw f k (f k):=fun ⟨j,h1,_,h3⟩=>by
    grind
   have hzz:∀ x∈FW nw f l k,f k<x.length∧gi x (f k)=0:=fun x hx=>by
    grind
   refine ez.2 ⟨ih,dB hzz ih,fun a ha b hb e=>?_⟩;subst e;obtain ⟨y,hy,e⟩:=be.1 hb;have h1:=(hzz a ha).2;rw [← e,Gt,if_pos ⟨rfl,(hzz y hy).1⟩] at h1;omega
  grind
inductive All2' {α β:Type} (R:α→β→Prop):List α→List β→Prop
 |nil:All2' R [] []
 |cons {a b l r} (h:R a b) (t:All2' R l r):All2' R (a::l) (b::r)
theorem All2'.append {α β:Type} {R:α→β→Prop}:∀ {l1:List α} {r1:List β} {l2:List α} {r2:List β},All2' R l1 r1→All2' R l2 r2→All2' R (l1++l2) (r1++r2)
 |_,_,_,_,.nil,h=>h
 |_,_,_,_,.cons h t,k=>.cons h (All2'.append t k)
theorem All2'.map {α β γ δ:Type} {R:α→β→Prop} {S:γ→δ→Prop} {g:α→γ} {h:β→δ} (hi:∀ a b,R a b→S (g a) (h b)):∀ {l:List α} {r:List β},All2' R l r→All2' S (l.map g) (r.map h)
 |_,_,.nil=>.nil
 |_,_,.cons a t=>.cons (hi _ _ a) (All2'.map hi t)
theorem All2'.filter {α β:Type} {R:α→β→Prop} {g:α→Bool} {h:β→Bool} (hi:∀ a b,R a b→g a=h b):∀ {l:List α} {r:List β},All2' R l r→All2' R (l.filter g) (r.filter h)
 |_,_,.nil=>.nil
 |_,_,.cons (a:=a) (b:=b) x t=>by
  rw [di,di,hi a b x];cases h b
  ·exact All2'.filter hi t
  ·exact .cons x (All2'.filter hi t)
theorem All2'.right {α β:Type} {R:α→β→Prop}:∀ {l:List α} {r:List β},All2' R l r→∀ b∈r,∃ a,a∈l∧R a b
 |_,_,.nil,b,h=>absurd h bl
 |_,_,.cons x t,b,h=>by
  rcases bm.1 h with rfl|h
  ·grind
  ·obtain ⟨a,h1,h2⟩:=All2'.right t b h
   grind
theorem All2'.count {α β:Type} {R:α→β→Prop} {g:α→Bool} {h:β→Bool} (hi:∀ a b,R a b→g a=h b):∀ {l:List α} {r:List β},All2' R l r→l.countP g=r.countP h
 |_,_,.nil=>rfl
 |_,_,.cons (a:=a) (b:=b) x t=>by
  rw [gn,gn,All2'.count hi t,hi a b x]
theorem fD {nw:Nat→Bool} {f:Nat→Nat} {R:List Int→List Int→Prop} {a b:List Int} (hab:R a b):∀ (k:Nat),(∀ j,j<k→nw j=true→∀ x y,R x y→R (x.set (f j) 1) (y.set (f j) 1))→All2' R (FW nw f a k) (FW nw f b k)
 |0,_=>.cons hab .nil
 |k+1,h=>by
  have ih:=fD hab k fun j hj=>h j (by omega)
  unfold FW;by_cases hn:nw k=true
  ·rw [if_pos hn,if_pos hn]
   exact ih.append (ih.map (h k (by omega) hn))
  grind
end
section
open Go.Vm
section
variable (nw:Nat→Nat→Bool) (f:Nat→Nat→Nat) (K:Nat→Nat) (play:Nat→List Int→Bool) (Ia:List Int)
def uz (t:Nat) (l:List Int):List (List Int):=(FW (nw t) (f t) l (K t)).filter (play t)
def Xp:Nat→List (List Int)
 |0=>[Ia]
 |t+1=>(Xp t).flatMap (uz nw f K play t)
end
structure YP (n T:Nat) (nw:Nat→Nat→Bool) (f:Nat→Nat→Nat) (K:Nat→Nat) (S:Nat→Nat→Prop) (play:Nat→List Int→Bool) (Ia:List Int):Prop where
 len:Ia.length=n
 inj:∀ t,t<T→∀ j j',j<K t→j'<K t→f t j=f t j'→j=j'
 rng:∀ t,t<T→∀ j,j<K t→f t j<n
 zero:∀ t,t<T→∀ j,j<K t→nw t j=true→gi Ia (f t j)=0
 once:∀ t t',t<T→t'<T→∀ i,VA (nw t) (f t) (K t) i→VA (nw t') (f t') (K t') i→t=t'
 sub:∀ t,t<T→∀ j,j<K t→S t (f t j)
 old:∀ t t',t<t'→t'<T→∀ i,S t i→¬ VA (nw t') (f t') (K t') i
 cont:∀ t,t+1<T→∀ i,S (t+1) i→S t i∨∀ t',t'<t+1→¬ VA (nw t') (f t') (K t') i
 loc:∀ t,t<T→∀ l l':List Int,l.length=n→l'.length=n→(∀ i,S t i→gi l i=gi l' i)→play t l=play t l'
section
variable {n T:Nat} {nw:Nat→Nat→Bool} {f:Nat→Nat→Nat} {K:Nat→Nat} {S:Nat→Nat→Prop} {play:Nat→List Int→Bool} {Ia:List Int}
def zX (nw:Nat→Nat→Bool) (f:Nat→Nat→Nat) (K:Nat→Nat) (t i:Nat):Prop:=VA (nw t) (f t) (K t) i
structure iw (nw:Nat→Nat→Bool) (f:Nat→Nat→Nat) (K:Nat→Nat) (play:Nat→List Int→Bool) (Ia:List Int) (n t:Nat) (l:List Int):Prop where
 len:l.length=n
 yes:∀ i,i<n→(∃ t',t'<t∧zX nw f K t' i)→gi l i=0∨gi l i=1
 no:∀ i,i<n→(¬ ∃ t',t'<t∧zX nw f K t' i)→gi l i=gi Ia i
 play:∀ t',t'<t→play t' l=true
theorem Ry (h:YP n T nw f K S play Ia) {t:Nat} (ht:t<T) {l:List Int} (hl:iw nw f K play Ia n t l) (x:List Int) :
 x∈uz nw f K play t l↔(x.length=n∧∀ i,i<n→(zX nw f K t i→gi x i=0∨gi x i=1)∧(¬ zX nw f K t i→gi x i=gi l i))∧play t x=true:=by
 have hz:∀ j,j<K t→nw t j=true→gi l (f t j)=0:=fun j hj hn=>by
  rw [hl.no _ (h.rng t ht j hj) fun ⟨t',h1,h2⟩=>?_]
  ·exact h.zero t ht j hj hn
  ·have:=h.once t' t (by omega) ht _ h2 ⟨j,hj,hn,rfl⟩
   omega
 unfold uz;rw [List.mem_filter,Nq (K t) (h.inj t ht) (fun j hj=>by rw [hl.len];exact h.rng t ht j hj) hz,hl.len];rfl
theorem a1p (h:YP n T nw f K S play Ia) {t:Nat} (ht:t<T) {l:List Int} (hl:iw nw f K play Ia n t l):(uz nw f K play t l).Nodup:=by
 have hz:∀ j,j<K t→nw t j=true→gi l (f t j)=0:=fun j hj hn=>by
  rw [hl.no _ (h.rng t ht j hj) fun ⟨t',h1,h2⟩=>?_]
  ·exact h.zero t ht j hj hn
  ·have:=h.once t' t (by omega) ht _ h2 ⟨j,hj,hn,rfl⟩
   omega
 exact (Zd (K t) (h.inj t ht) (fun j hj=>by rw [hl.len];exact h.rng t ht j hj) hz).filter _
theorem mP (h:YP n T nw f K S play Ia) {t:Nat} (ht:t<T) {l x:List Int} (hl:iw nw f K play Ia n t l) (hx:x∈uz nw f K play t l) {t':Nat} (ht':t'<t) {i:Nat} (hS:S t' i):gi x i=gi l i:=by
 obtain ⟨⟨h1,h2⟩,_⟩:=(Ry h ht hl x).1 hx;by_cases hi:i<n
 ·exact (h2 i hi).2 (h.old t' t ht' ht i hS)
 ·unfold gi
  have e:=hl.len;grind
theorem UY (h:YP n T nw f K S play Ia):∀ t,t≤T→∀ l,l∈Xp nw f K play Ia t↔iw nw f K play Ia n t l
 |0,_,l=>by
  unfold Xp;rw [aR];constructor
  ·rintro rfl
   exact ⟨h.len,fun i _ ⟨t',h1,_⟩=>by omega,fun _ _ _=>rfl,fun t' h1=>by omega⟩
  ·intro hl
   exact KO (by rw [hl.len,h.len]) fun i hi=>hl.no i (by rw [← hl.len];omega) fun ⟨t',h1,_⟩=>by omega
 |t+1,ht,l=>by
  have ih:=UY h t (by omega);unfold Xp;rw [cD];constructor
  ·rintro ⟨y,hy,hx⟩
   have hy:=(ih y).1 hy;obtain ⟨⟨h1,h2⟩,h3⟩:=(Ry h (by omega) hy l).1 hx;refine ⟨h1,fun i hi ⟨t',g1,g2⟩=>?_,fun i hi hno=>?_,fun t' g1=>?_⟩
   ·by_cases e:t'=t
    ·grind
    ·by_cases hb:zX nw f K t i
     ·grind
     ·rw [(h2 i hi).2 hb];exact hy.yes i hi ⟨t',by omega,g2⟩
   ·rw [(h2 i hi).2 fun hb=>hno ⟨t,by omega,hb⟩]
    exact hy.no i hi fun ⟨t',g1,g2⟩=>hno ⟨t',by omega,g2⟩
   ·by_cases e:t'=t
    ·grind
    ·rw [h.loc t' (by omega) l y h1 hy.len fun i hS=>mP h (by omega) hy hx (by omega) hS]
     exact hy.play t' (by omega)
  ·intro hl
   let y:List Int:=BD (fun i=>open Classical in if zX nw f K t i then 0 else gi l i) n
   have hyl:y.length=n:=CP _ _;have hyi:∀ i,i<n→gi y i=open Classical in if zX nw f K t i then 0 else gi l i:=fun i hi=>EC _ hi
   have hy:iw nw f K play Ia n t y:=by
    refine ⟨hyl,fun i hi ⟨t',g1,g2⟩=>?_,fun i hi hno=>?_,fun t' g1=>?_⟩
    ·rw [hyi i hi]
     split
     ·simp
     ·exact hl.yes i hi ⟨t',by omega,g2⟩
    ·rw [hyi i hi]
     split
     ·rename_i hb
      obtain ⟨j,j1,j2,rfl⟩:=hb;exact (h.zero t (by omega) j j1 j2).symm
     ·rename_i hb
      exact hl.no i hi fun ⟨t',g1,g2⟩=>by
       grind
    ·rw [h.loc t' (by omega) y l hyl hl.len fun i hS=>?_]
     ·exact hl.play t' (by omega)
     ·by_cases hi:i<n
      ·have hno:¬ zX nw f K t i:=h.old t' t g1 (by omega) i hS
       grind
      ·have e:=hl.len
       unfold gi;grind
   refine ⟨y,(ih y).2 hy,(Ry h (by omega) hy l).2 ⟨⟨hl.len,fun i hi=>⟨fun hb=>hl.yes i hi ⟨t,by omega,hb⟩,fun hb=>?_⟩⟩,hl.play t (by omega)⟩⟩;grind
theorem Sm {g:List Int→List (List Int)}:∀ {L:List (List Int)},L.Nodup→(∀ a∈L,(g a).Nodup)→(∀ a∈L,∀ b∈L,∀ x,x∈g a→x∈g b→a=b)→(L.flatMap g).Nodup
 |[],_,_,_=>cB
 |a::L,h1,h2,h3=>by
  obtain ⟨n1,n2⟩:=dE.1 h1;refine ez.2 ⟨h2 a (by simp),Sm n2 (fun b hb=>h2 b (av _ hb)) fun b hb c hc=>h3 b (av _ hb) c (av _ hc),fun x hx y hy e=>?_⟩;grind
theorem dZ (h:YP n T nw f K S play Ia):∀ t,t≤T→(Xp nw f K play Ia t).Nodup
 |0,_=>by unfold Xp;simp
 |t+1,ht=>by
  have hm:=UY h t (by omega);refine Sm (dZ h t (by omega)) (fun a ha=>a1p h (by omega) ((hm a).1 ha)) fun a ha b hb x hxa hxb=>?_
  have ia:=(hm a).1 ha;have ib:=(hm b).1 hb;obtain ⟨⟨_,h2⟩,_⟩:=(Ry h (by omega) ia x).1 hxa;obtain ⟨⟨_,h3⟩,_⟩:=(Ry h (by omega) ib x).1 hxb;refine KO (by rw [ia.len,ib.len]) fun i hi=>?_
  rw [ia.len] at hi;by_cases hbg:zX nw f K t i
  ·have hno:¬ ∃ t',t'<t∧zX nw f K t' i:=fun ⟨t',g1,g2⟩=>by
    have:=h.once t' t (by omega) (by omega) i g2 hbg;omega
   rw [ia.no i hi hno,ib.no i hi hno]
  grind
variable {σ:Type} (s0:σ) (EU:Nat→σ→List Int→σ) (inc:Nat→σ→List Int→Int)
def JM (l:List Int):Nat→σ
 |0=>s0
 |t+1=>EU t (JM l t) l
def cF (l:List Int):Nat→Int
 |0=>0
 |t+1=>cF l t+inc t (JM s0 EU l t) l
structure Stp (n T:Nat) (S:Nat→Nat→Prop) (EU:Nat→σ→List Int→σ) (inc:Nat→σ→List Int→Int):Prop where
 loc:∀ t,t<T→∀ x (l l':List Int),l.length=n→l'.length=n→(∀ i,S t i→gi l i=gi l' i)→EU t x l=EU t x l'∧inc t x l=inc t x l'
 tell:∀ t,t<T→∀ x x' (l l':List Int),l.length=n→l'.length=n→(∀ i,i<n→0≤gi l i∧gi l i≤2)→(∀ i,i<n→0≤gi l' i∧gi l' i≤2)→EU t x l=EU t x' l'→∀ i,S t i→gi l i=gi l' i
variable {s0:σ} {EU:Nat→σ→List Int→σ} {inc:Nat→σ→List Int→Int}
theorem zh (hs:Stp n T S EU inc) {l l':List Int} (h1:l.length=n) (h2:l'.length=n):∀ t,t≤T→(∀ t',t'<t→∀ i,S t' i→gi l i=gi l' i)→JM s0 EU l t=JM s0 EU l' t∧cF s0 EU inc l t=cF s0 EU inc l' t
 |0,_,_=>⟨rfl,rfl⟩
 |t+1,ht,h=>by
  obtain ⟨i1,i2⟩:=zh hs h1 h2 t (by omega) fun t' ht'=>h t' (by omega)
  unfold JM cF;obtain ⟨g1,g2⟩:=hs.loc t (by omega) (JM s0 EU l' t) l l' h1 h2 (h t (by omega));grind
theorem Wx (h:YP n T nw f K S play Ia) (hs:Stp n T S EU inc) {t:Nat} (ht:t<T) {l x:List Int} (hl:iw nw f K play Ia n t l) (hx:x∈uz nw f K play t l) :
 JM s0 EU x t=JM s0 EU l t∧cF s0 EU inc x t=cF s0 EU inc l t:=by
 have hxl:=((Ry h ht hl x).1 hx).1.1;exact zh hs hxl hl.len t (by omega) fun t' ht' i hS=>mP h ht hl hx ht' hS
theorem Yk (hb:∀ i,i<n→0≤gi Ia i∧gi Ia i≤2) {t:Nat} {l:List Int} (hl:iw nw f K play Ia n t l) {i:Nat} (hi:i<n):0≤gi l i∧gi l i≤2:=by
 by_cases e:∃ t',t'<t∧zX nw f K t' i
 ·rcases hl.yes i hi e with h|h<;>omega
 ·rw [hl.no i hi e];grind
theorem a0d (h:YP n T nw f K S play Ia) (hs:Stp n T S EU inc) (hb:∀ i,i<n→0≤gi Ia i∧gi Ia i≤2) (hSn:∀ t,t<T→∀ i,S t i→i<n):∀ {t:Nat},t<T→∀ {l l':List Int},iw nw f K play Ia n t l→iw nw f K play Ia n t l'→JM s0 EU l t=JM s0 EU l' t→∀ i,S t i→gi l i=gi l' i
 |0,ht,l,l',hl,hl',_,i,hS=>by
  have hi:=hSn 0 ht i hS;rw [hl.no i hi fun ⟨t',h1,_⟩=>by omega,hl'.no i hi fun ⟨t',h1,_⟩=>by omega]
 |t+1,ht,l,l',hl,hl',he,i,hS=>by
  have hi:=hSn _ ht i hS;rcases h.cont t ht i hS with h1|h1
  ·exact hs.tell t (by omega) _ _ l l' hl.len hl'.len (fun i hi=>Yk hb hl hi) (fun i hi=>Yk hb hl' hi) he i h1
  ·rw [hl.no i hi fun ⟨t',g1,g2⟩=>h1 t' g1 g2,hl'.no i hi fun ⟨t',g1,g2⟩=>h1 t' g1 g2]
theorem jH (h:YP n T nw f K S play Ia) (hs:Stp n T S EU inc) (hb:∀ i,i<n→0≤gi Ia i∧gi Ia i≤2) (hSn:∀ t,t<T→∀ i,S t i→i<n) {t:Nat} (ht:t<T) {l l':List Int} (hl:iw nw f K play Ia n t l) (hl':iw nw f K play Ia n t l') (he:JM s0 EU l t=JM s0 EU l' t) :
 All2' (fun x y=>(∀ i,S t i→gi x i=gi y i)∧cmpL x y=cmpL l l'∧x.length=n∧y.length=n) (uz nw f K play t l) (uz nw f K play t l'):=by
 have hag:=a0d h hs hb hSn ht hl hl' he;have h0:All2' (fun x y=>(∀ i,S t i→gi x i=gi y i)∧cmpL x y=cmpL l l'∧x.length=n∧y.length=n) (FW (nw t) (f t) l (K t)) (FW (nw t) (f t) l' (K t)):=by
  refine fD ⟨hag,rfl,hl.len,hl'.len⟩ (K t) fun j hj hn x y ⟨g1,g2,g3,g4⟩=>⟨fun i hi=>?_,?_,by grind,by grind⟩
  ·rw [Gt,Gt,g3,g4]
   grind
  ·have hr:=h.rng t ht j hj
   rw [mX (by omega) (by omega) (g1 _ (h.sub t ht j hj)),g2]
 exact h0.filter fun a b ⟨g1,_,g3,g4⟩=>h.loc t ht a b g3 g4 g1
variable [DecidableEq σ]
def TA (m:List (σ×(List Int×Int))) (d:σ×(List Int×Int)):List (σ×(List Int×Int)) :=
 match BZ m d.1 with
 |none=>Cm m d.1 d.2
 |some o=>if ltB d.2 o=true then Cm m d.1 d.2 else m
theorem KQ {β:Type}:∀ {m:List (σ×β)} {y:σ} {o:β},BZ m y=some o→(y,o)∈m
 |[],_,_,h=>by cases h
 |x::m,y,o,h=>by
  unfold BZ at h;split at h
  ·grind
  ·exact av _ (KQ h)
theorem TQ {β:Type}:∀ {m:List (σ×β)} {y:σ},BZ m y=none→∀ o,(y,o)∉m
 |[],_,_,_,h=>absurd h bl
 |x::m,y,h,o,hm=>by
  unfold BZ at h;split at h
  ·cases h
  ·rename_i e
   rcases bm.1 hm with h1|h1
   ·grind
   ·exact TQ h o h1
theorem Qq {β:Type}:∀ {m:List (σ×β)} {y:σ} {b:β} {z:σ×β},z∈Cm m y b→z=(y,b)∨z∈m∧z.1≠y∨z∈m
 |[],y,b,z,h=>by
  unfold Cm at h;grind
 |x::m,y,b,z,h=>by
  unfold Cm at h;split at h
  ·grind
  ·rcases bm.1 h with h|h
   ·grind
   ·rcases Qq h with h|h|h
    ·grind
    ·grind
    grind
theorem KR {β:Type}:∀ {m:List (σ×β)} {y:σ} {b:β},(y,b)∈Cm m y b
 |[],_,_=>aR.2 rfl
 |x::m,y,b=>by
  unfold Cm;split
  ·simp
  ·exact av _ KR
theorem aQ {β:Type}:∀ {m:List (σ×β)} {y:σ} {b:β} {z:σ×β},z∈m→z.1≠y→z∈Cm m y b
 |[],_,_,_,h,_=>absurd h bl
 |x::m,y,b,z,h,hne=>by
  unfold Cm;split
  ·grind
  ·rcases bm.1 h with h|h
   ·grind
   ·exact av _ (aQ h hne)
theorem gY {β:Type}:∀ {m:List (σ×β)} {y:σ} {b:β} {z:σ},z∈(Cm m y b).map (·.1)→z=y∨z∈m.map (·.1)
 |[],y,b,z,h=>by
  unfold Cm at h;grind
 |x::m,y,b,z,h=>by
  unfold Cm at h;split at h
  ·grind
  ·rcases bm.1 h with h|h
   ·grind
   ·exact (gY h).elim .inl fun h=>.inr (av _ h)
theorem Ol {β:Type}:∀ {m:List (σ×β)} {y:σ} {b:β},(m.map (·.1)).Nodup→((Cm m y b).map (·.1)).Nodup
 |[],_,_,_=>by unfold Cm;simp
 |x::m,y,b,h=>by
  obtain ⟨h1,h2⟩:=dE.1 h;unfold Cm;split
  ·grind
  ·rename_i e
   refine dE.2 ⟨fun hm=>?_,Ol h2⟩;rcases gY hm with h3|h3
   ·grind
   grind
theorem YV {β:Type}:∀ {m:List (σ×β)} {y:σ} {a b:β},(m.map (·.1)).Nodup→(y,a)∈m→(y,b)∈m→a=b
 |[],_,_,_,_,h,_=>absurd h bl
 |x::m,y,a,b,hn,h1,h2=>by
  obtain ⟨n1,n2⟩:=dE.1 hn;rcases bm.1 h1 with e1|h1
  ·grind
  ·rcases bm.1 h2 with e2|h2
   ·grind
   ·exact YV n2 h1 h2
structure XZ (D m:List (σ×(List Int×Int))):Prop where
 keys:(m.map (·.1)).Nodup
 sub:∀ d∈m,d∈D
 best:∀ d∈D,∃ o,(d.1,o)∈m∧nD o d.2
theorem XZ.ins {D m:List (σ×(List Int×Int))} (h:XZ D m) (d:σ×(List Int×Int)):XZ (D++[d]) (TA m d):=by
 obtain ⟨y,w⟩:=d;unfold TA;have hput:(∀ o,(y,o)∈m→nD w o)→XZ (D++[(y,w)]) (Cm m y w):=fun hw=>by
  refine ⟨Ol h.keys,fun z hz=>?_,fun z hz=>?_⟩
  ·rcases Qq hz with rfl|hz|hz
   ·simp
   ·exact cx _ (h.sub z hz.1)
   ·exact cx _ (h.sub z hz)
  ·rcases bq.1 hz with hz|hz
   ·obtain ⟨o,h1,h2⟩:=h.best z hz
    by_cases e:z.1=y
    ·refine ⟨w,by rw [e];exact KR,NG (hw o (by grind)) h2⟩
    ·exact ⟨o,aQ h1 e,h2⟩
   ·rw [aR] at hz
    subst hz;exact ⟨w,KR,LD _⟩
 cases hl:BZ m y with
 |none=>exact hput fun o ho=>absurd ho (TQ hl o)
 |some o =>
  have ho:=KQ hl;simp only;cases hb:ltB w o with
  |true =>
   refine hput fun o' ho'=>?_
   rw [YV h.keys ho' ho];exact a7l hb
  |false =>
   refine ⟨h.keys,fun z hz=>cx _ (h.sub z hz),fun z hz=>?_⟩;rcases bq.1 hz with hz|hz
   ·exact h.best z hz
   ·rw [aR] at hz
    subst hz;exact ⟨o,ho,zC hb⟩
theorem XZ.fold {D:List (σ×(List Int×Int))}:∀ (L:List (σ×(List Int×Int))) {m:List (σ×(List Int×Int))},XZ D m→XZ (D++L) (L.foldl TA m)
 |[],m,h=>by grind
 |d::L,m,h=>by
  have:=XZ.fold L (h.ins d);grind
theorem XZ.nil:XZ ([]:List (σ×(List Int×Int))) []:=⟨cB,fun d h=>absurd h bl,fun d h=>absurd h bl⟩
structure oK (nw:Nat→Nat→Bool) (f:Nat→Nat→Nat) (K:Nat→Nat) (play:Nat→List Int→Bool) (Ia:List Int) (s0:σ) (EU:Nat→σ→List Int→σ) (inc:Nat→σ→List Int→Int) (t:Nat) (m:List (σ×(List Int×Int))):Prop where
 keys:(m.map (·.1)).Nodup
 sub:∀ d∈m,d.2.1∈Xp nw f K play Ia t∧d.1=JM s0 EU d.2.1 t∧d.2.2=cF s0 EU inc d.2.1 t
 best:∀ h∈Xp nw f K play Ia t,∃ o,(JM s0 EU h t,o)∈m∧nD o (h,cF s0 EU inc h t)
def cand (nw:Nat→Nat→Bool) (f:Nat→Nat→Nat) (K:Nat→Nat) (play:Nat→List Int→Bool) (EU:Nat→σ→List Int→σ) (inc:Nat→σ→List Int→Int) (t:Nat) (d:σ×(List Int×Int)):List (σ×(List Int×Int)) :=
 (uz nw f K play t d.2.1).map fun x=>(EU t d.1 x,(x,d.2.2+inc t d.1 x))
theorem oK.step (h:YP n T nw f K S play Ia) (hs:Stp n T S EU inc) (hb:∀ i,i<n→0≤gi Ia i∧gi Ia i≤2) (hSn:∀ t,t<T→∀ i,S t i→i<n) {t:Nat} (ht:t<T) {m L:List (σ×(List Int×Int))} (hm:oK nw f K play Ia s0 EU inc t m) (hL:∀ d,d∈L↔d∈m) :
 oK nw f K play Ia s0 EU inc (t+1) ((L.flatMap (cand nw f K play EU inc t)).foldl TA []):=by
 have hp:=UY h t (by omega);have hI:=XZ.fold (L.flatMap (cand nw f K play EU inc t)) (XZ.nil (σ:=σ));have hc:∀ e∈L.flatMap (cand nw f K play EU inc t),e.2.1∈Xp nw f K play Ia (t+1)∧e.1=JM s0 EU e.2.1 (t+1)∧e.2.2=cF s0 EU inc e.2.1 (t+1):=fun e he=>by
  obtain ⟨d,hd,he⟩:=cD.1 he;obtain ⟨x,hx,rfl⟩:=be.1 he;obtain ⟨g1,g2,g3⟩:=hm.sub d ((hL d).1 hd);have hi:=(hp _).1 g1;obtain ⟨k1,k2⟩:=Wx (s0:=s0) h hs ht hi hx;refine ⟨?_,?_,?_⟩
  ·unfold Xp;grind
  ·show EU t d.1 x=EU t (JM s0 EU x t) x
   grind
  ·show d.2.2+inc t d.1 x=cF s0 EU inc x t+inc t (JM s0 EU x t) x
   grind
 refine ⟨hI.keys,fun d hd=>hc d (hI.sub d hd),fun x hx=>?_⟩;unfold Xp at hx;obtain ⟨y,hy,hx⟩:=cD.1 hx;obtain ⟨o,ho,hle⟩:=hm.best y hy;obtain ⟨g1,g2,g3⟩:=hm.sub _ ho;have hyi:=(hp y).1 hy;have hoi:=(hp o.1).1 g1;obtain ⟨z,hz,z1,z2,z3,z4⟩:=(jH h hs hb hSn ht hoi hyi g2.symm).right x hx;obtain ⟨k1,k2⟩:=Wx (s0:=s0) h hs ht hyi hx;obtain ⟨k3,k4⟩:=Wx (s0:=s0) h hs ht hoi hz;have hzc:(EU t (JM s0 EU y t) z,(z,o.2+inc t (JM s0 EU y t) z))∈L.flatMap (cand nw f K play EU inc t):=cD.2 ⟨_,(hL _).2 ho,be.2 ⟨z,hz,rfl⟩⟩;obtain ⟨o',h1,h2⟩:=hI.best _ hzc;obtain ⟨l1,l2⟩:=hs.loc t ht (JM s0 EU y t) z x z3 z4 z1;simp only [l1] at h1;refine ⟨o',?_,NG h2 ?_⟩
 ·show (EU t (JM s0 EU x t) x,o')∈_
  grind
 ·show nD _ (x,cF s0 EU inc x t+inc t (JM s0 EU x t) x)
  rcases hle with hle|⟨hle,hle'⟩
  ·exact .inl (by grind)
  ·exact .inr ⟨by grind,by grind⟩
theorem oK.start:oK nw f K play Ia s0 EU inc 0 [(s0,(Ia,0))] :=
 ⟨by simp,fun d hd=>by rw [aR] at hd;subst hd;exact ⟨by simp [Xp],rfl,rfl⟩,fun h hh=>⟨(Ia,0),by simp [JM],by
  have:h=Ia:=by simpa [Xp] using hh
  subst this;exact LD _⟩⟩
end
end
section
open Go.Vm
def sumF {α:Type} (F:α→Nat):List α→Nat
 |[]=>0
 |a::l=>F a+sumF F l
theorem L6 {α:Type} (F:α→Nat):∀ l r:List α,sumF F (l++r)=sumF F l+sumF F r
 |[],r=>by simp [sumF]
 |a::l,r=>by simp only [List.cons_append,sumF,L6 F l r];omega
theorem iQ {α:Type} (F:α→Nat) {l r:List α} (h:l.Perm r):sumF F l=sumF F r:=by
 induction h with
 |nil=>rfl
 |cons a _ ih=>simp only [sumF,ih]
 |swap a b l=>simp only [sumF];omega
 |trans _ _ h1 h2=>omega
theorem La {α:Type} {F G:α→Nat}:∀ {l:List α},(∀ a∈l,F a=G a)→sumF F l=sumF G l
 |[],_=>rfl
 |a::l,h=>by
  simp only [sumF];rw [h a (by simp),La fun b hb=>h b (av _ hb)]
theorem QS {α:Type} {F:α→Nat}:∀ {l:List α},(∀ a∈l,F a=0)→sumF F l=0
 |[],_=>rfl
 |a::l,h=>by
  simp only [sumF];rw [h a (by simp),QS fun b hb=>h b (av _ hb)]
theorem nC {α:Type} (F G:α→Nat):∀ l:List α,sumF (fun a=>F a+G a) l=sumF F l+sumF G l
 |[]=>rfl
 |a::l=>by simp only [sumF,nC F G l];omega
theorem nX {α:Type}:∀ l:List α,sumF (fun _=>1) l=l.length
 |[]=>rfl
 |a::l=>by simp only [sumF,nX l,List.length_cons];omega
theorem OB {α β:Type} (F:β→Nat) (g:α→List β):∀ l:List α,sumF F (l.flatMap g)=sumF (fun a=>sumF F (g a)) l
 |[]=>rfl
 |a::l=>by rw [List.flatMap_cons,L6,OB F g l];rfl
theorem YZ {α β:Type} (F:β→Nat) (g:α→β):∀ l:List α,sumF F (l.map g)=sumF (fun a=>F (g a)) l
 |[]=>rfl
 |a::l=>by simp only [List.map_cons,sumF,YZ F g l]
theorem Qj {α:Type} (p:α→Bool):∀ l:List α,l.countP p=sumF (fun a=>if p a=true then 1 else 0) l
 |[]=>rfl
 |a::l=>by
  rw [gn,Qj p l];simp only [sumF];omega
theorem countP_flatMap {α β:Type} (p:β→Bool) (g:α→List β) (l:List α):(l.flatMap g).countP p=sumF (fun a=>(g a).countP p) l:=by
 rw [Qj,OB];exact La fun a _=>(Qj p _).symm
section
variable {σ β:Type} [DecidableEq σ]
theorem tV {m:List (σ×β)} {y:σ} {o:β} {G:σ×β→Nat} (hk:(m.map (·.1)).Nodup) (h:(y,o)∈m):sumF (fun e=>if y=e.1 then G e else 0) m=G (y,o):=by
 induction m with
 |nil=>cases h
 |cons x m ih =>
  obtain ⟨n1,n2⟩:=dE.1 hk;simp only [sumF];rcases bm.1 h with h|h
  ·subst h
   rw [if_pos rfl,QS fun e he=>if_neg fun e1=>n1 (be.2 ⟨e,he,e1.symm⟩)];rfl
  grind
theorem V4 {α:Type} {m:List (σ×β)} (hk:(m.map (·.1)).Nodup) {g:α→σ} {F:α→Nat} {G:σ×β→Nat}:∀ {P:List α},(∀ h∈P,∃ o,(g h,o)∈m)→(∀ h∈P,∀ e∈m,e.1=g h→F h=G e)→sumF F P=sumF (fun e=>P.countP (fun h=>decide (g h=e.1))*G e) m
 |[],_,_=>by
  refine (QS fun e _=>?_).symm;simp
 |h::P,h1,h2=>by
  have ih:=V4 hk (P:=P) (g:=g) (F:=F) (G:=G) (fun x hx=>h1 x (av _ hx)) fun x hx=>h2 x (av _ hx)
  obtain ⟨o,ho⟩:=h1 h (by simp);simp only [sumF];rw [ih,h2 h (by simp) _ ho rfl,← tV (G:=G) hk ho,← nC];grind
def RX (m:List (σ×(List Int×Nat))) (d:σ×(List Int×Nat)):List (σ×(List Int×Nat)) :=
 match BZ m d.1 with
 |none=>Cm m d.1 (d.2.1,0+d.2.2)
 |some o=>Cm m d.1 (o.1,o.2+d.2.2)
def rJ (D:List (σ×(List Int×Nat))) (y:σ):Nat:=sumF (fun d=>if d.1=y then d.2.2 else 0) D
structure X8 (D m:List (σ×(List Int×Nat))):Prop where
 keys:(m.map (·.1)).Nodup
 sub:∀ d∈m,(∃ c,(d.1,(d.2.1,c))∈D)∧d.2.2=rJ D d.1
 all:∀ d∈D,∃ o,(d.1,o)∈m
theorem dM (D:List (σ×(List Int×Nat))) (d:σ×(List Int×Nat)) (y:σ):rJ (D++[d]) y=rJ D y+if d.1=y then d.2.2 else 0:=by
 unfold rJ;rw [L6];rfl
theorem a1r {D:List (σ×(List Int×Nat))} {y:σ} (h:∀ d∈D,d.1≠y):rJ D y=0:=QS fun d hd=>if_neg (h d hd)
theorem Uy {m:List (σ×β)} {y:σ} {b c:β} (hk:(m.map (·.1)).Nodup) (h:(y,c)∈Cm m y b):c=b:=YV (Ol hk) h KR
theorem X8.ins {D m:List (σ×(List Int×Nat))} (h:X8 D m) (d:σ×(List Int×Nat)):X8 (D++[d]) (RX m d):=by
 obtain ⟨y,x,c⟩:=d;unfold RX;have hput:∀ w:List Int×Nat,(∃ c',(y,(w.1,c'))∈D++[(y,(x,c))])→w.2=rJ D y+c→X8 (D++[(y,(x,c))]) (Cm m y w):=fun w hw1 hw2=>by
  refine ⟨Ol h.keys,fun z hz=>?_,fun z hz=>?_⟩
  ·by_cases e:z.1=y
   ·obtain ⟨z1,z2⟩:=z
    subst e;have:=Uy h.keys hz;subst this;exact ⟨hw1,by rw [hw2,dM,if_pos rfl]⟩
   ·have hz':z∈m:=by
     rcases Qq hz with h1|h1|h1
     ·grind
     ·grind
     omega
    obtain ⟨⟨c',h1⟩,h2⟩:=h.sub z hz';exact ⟨⟨c',cx _ h1⟩,by rw [h2,dM,if_neg (fun e'=>e e'.symm),ee]⟩
  ·rcases bq.1 hz with hz|hz
   ·by_cases e:z.1=y
    ·exact ⟨w,by rw [e];exact KR⟩
    ·obtain ⟨o,ho⟩:=h.all z hz
     exact ⟨o,aQ ho e⟩
   ·rw [aR] at hz
    subst hz;exact ⟨w,KR⟩
 cases hl:BZ m y with
 |none =>
  refine hput _ ⟨c,by simp⟩ ?_;rw [a1r fun d hd e=>?_];obtain ⟨o,ho⟩:=h.all d hd;rw [e] at ho;exact TQ hl o ho
 |some o =>
  have ho:=KQ hl;obtain ⟨⟨c',h1⟩,h2⟩:=h.sub _ ho;grind
theorem X8.fold:∀ (L:List (σ×(List Int×Nat))) {D m:List (σ×(List Int×Nat))},X8 D m→X8 (D++L) (L.foldl RX m)
 |[],D,m,h=>by grind
 |d::L,D,m,h=>by
  have:=X8.fold L (h.ins d);grind
theorem X8.nil:X8 ([]:List (σ×(List Int×Nat))) []:=⟨cB,fun d h=>absurd h bl,fun d h=>absurd h bl⟩
variable {n T:Nat} {nw:Nat→Nat→Bool} {f:Nat→Nat→Nat} {K:Nat→Nat} {S:Nat→Nat→Prop} {play:Nat→List Int→Bool} {Ia:List Int} {s0:σ} {EU:Nat→σ→List Int→σ} {inc:Nat→σ→List Int→Int}
structure X7 (nw:Nat→Nat→Bool) (f:Nat→Nat→Nat) (K:Nat→Nat) (play:Nat→List Int→Bool) (Ia:List Int) (s0:σ) (EU:Nat→σ→List Int→σ) (t:Nat) (m:List (σ×(List Int×Nat))):Prop where
 keys:(m.map (·.1)).Nodup
 sub:∀ d∈m,d.2.1∈Xp nw f K play Ia t∧d.1=JM s0 EU d.2.1 t∧d.2.2=(Xp nw f K play Ia t).countP fun h=>decide (JM s0 EU h t=d.1)
 all:∀ h∈Xp nw f K play Ia t,∃ o,(JM s0 EU h t,o)∈m
def iq (nw:Nat→Nat→Bool) (f:Nat→Nat→Nat) (K:Nat→Nat) (play:Nat→List Int→Bool) (EU:Nat→σ→List Int→σ) (t:Nat) (d:σ×(List Int×Nat)):List (σ×(List Int×Nat)) :=
 (uz nw f K play t d.2.1).map fun x=>(EU t d.1 x,(x,d.2.2))
theorem qP (p:List Int→Bool) (c:Nat):∀ l:List (List Int),sumF (fun x=>if p x=true then c else 0) l=c*l.countP p
 |[]=>rfl
 |a::l=>by
  simp only [sumF,qP p c l,List.countP_cons];grind
theorem X7.step (h:YP n T nw f K S play Ia) (hs:Stp n T S EU inc) (hb:∀ i,i<n→0≤gi Ia i∧gi Ia i≤2) (hSn:∀ t,t<T→∀ i,S t i→i<n) {t:Nat} (ht:t<T) {m L:List (σ×(List Int×Nat))} (hm:X7 nw f K play Ia s0 EU t m) (hL:L.Perm m) :
 X7 nw f K play Ia s0 EU (t+1) ((L.flatMap (iq nw f K play EU t)).foldl RX []):=by
 have hp:=UY h t (by omega);have hI:=X8.fold (L.flatMap (iq nw f K play EU t)) (X8.nil (σ:=σ));have hsum:∀ y,rJ (L.flatMap (iq nw f K play EU t)) y=(Xp nw f K play Ia (t+1)).countP fun x=>decide (JM s0 EU x (t+1)=y):=fun y=>by
  unfold rJ;rw [OB,iQ _ hL];have e1:∀ d∈m,sumF (fun e:σ×(List Int×Nat)=>if e.1=y then e.2.2 else 0) (iq nw f K play EU t d)=(Xp nw f K play Ia t).countP (fun h=>decide (JM s0 EU h t=d.1))*(uz nw f K play t d.2.1).countP (fun x=>decide (EU t d.1 x=y)):=fun d hd=>by
   obtain ⟨_,_,g3⟩:=hm.sub d hd;rw [← g3];unfold iq;rw [YZ];rw [← qP];simp
  rw [La e1];rw [← V4 (P:=Xp nw f K play Ia t) (g:=fun h=>JM s0 EU h t) (F:=fun h=>(uz nw f K play t h).countP fun x=>decide (EU t (JM s0 EU h t) x=y)) (G:=fun d=>(uz nw f K play t d.2.1).countP fun x=>decide (EU t d.1 x=y)) hm.keys hm.all]
  ·show _=List.countP _ (List.flatMap _ _)
   rw [countP_flatMap];refine La fun a ha=>?_
   refine List.countP_congr fun x hx=>?_
   obtain ⟨k1,_⟩:=Wx (s0:=s0) (inc:=inc) h hs ht ((hp a).1 ha) hx;show decide (EU t (JM s0 EU a t) x=y)=true↔decide (EU t (JM s0 EU x t) x=y)=true;rw [k1]
  ·intro a ha e he hea
   obtain ⟨g1,g2,_⟩:=hm.sub e he;have:=(jH (s0:=s0) (inc:=inc) h hs hb hSn ht ((hp a).1 ha) ((hp _).1 g1) (by grind)).count (g:=fun x=>decide (EU t (JM s0 EU a t) x=y)) (h:=fun x=>decide (EU t e.1 x=y)) fun x z ⟨z1,_,z3,z4⟩=>by
    rw [hea,(hs.loc t ht _ x z z3 z4 z1).1]
   omega
 have hc:∀ e∈L.flatMap (iq nw f K play EU t),e.2.1∈Xp nw f K play Ia (t+1)∧e.1=JM s0 EU e.2.1 (t+1):=fun e he=>by
  obtain ⟨d,hd,he⟩:=cD.1 he;obtain ⟨x,hx,rfl⟩:=be.1 he;obtain ⟨g1,g2,g3⟩:=hm.sub d (hL.mem_iff.1 hd);obtain ⟨k1,_⟩:=Wx (s0:=s0) (inc:=inc) h hs ht ((hp _).1 g1) hx;refine ⟨?_,?_⟩
  ·unfold Xp;grind
  ·show EU t d.1 x=EU t (JM s0 EU x t) x
   grind
 refine ⟨hI.keys,fun d hd=>?_,fun x hx=>?_⟩
 ·obtain ⟨⟨c,h1⟩,h2⟩:=hI.sub d hd
  grind
 ·obtain ⟨y,hy,hx⟩:=cD.1 hx
  obtain ⟨o,ho⟩:=hm.all y hy;obtain ⟨g1,g2,_⟩:=hm.sub _ ho;obtain ⟨z,hz,z1,_,z3,z4⟩:=(jH (s0:=s0) (inc:=inc) h hs hb hSn ht ((hp _).1 g1) ((hp y).1 hy) g2.symm).right x hx;obtain ⟨o',h1⟩:=hI.all (EU t (JM s0 EU y t) z,(z,o.2)) (cD.2 ⟨_,hL.mem_iff.2 ho,be.2 ⟨z,hz,rfl⟩⟩);obtain ⟨k1,_⟩:=Wx (s0:=s0) (inc:=inc) h hs ht ((hp y).1 hy) hx;refine ⟨o',?_⟩;show (EU t (JM s0 EU x t) x,o')∈_;rw [k1,← (hs.loc t ht _ z x z3 z4 z1).1];omega
theorem X7.start:X7 nw f K play Ia s0 EU 0 [(s0,(Ia,1))] :=
 ⟨by simp,fun d hd=>by rw [aR] at hd;subst hd;exact ⟨by simp [Xp],rfl,by simp [Xp,JM]⟩,fun h hh=>⟨(Ia,1),by simp [JM]⟩⟩
theorem X7.total {t:Nat} {m:List (σ×(List Int×Nat))} (hm:X7 nw f K play Ia s0 EU t m):sumF (fun d=>d.2.2) m=(Xp nw f K play Ia t).length:=by
 rw [← nX,V4 (P:=Xp nw f K play Ia t) (g:=fun h=>JM s0 EU h t) (F:=fun _=>1) (G:=fun _=>1) hm.keys hm.all fun _ _ _ _ _=>rfl];exact La fun d hd=>by rw [(hm.sub d hd).2.2,gz]
end
end
section
open Go.Vm
def Xy (b:Option (List Int×Int)) (w:List Int×Int):Option (List Int×Int) :=
 match b with
 |none=>some w
 |some o=>if ltB w o=true then some w else some o
theorem Vl:∀ (L:List (List Int×Int)) (b:Option (List Int×Int)),(b=none∧L=[]∧L.foldl Xy b=none)∨∃ w,L.foldl Xy b=some w∧(w∈L∨b=some w)∧(∀ x∈L,nD w x)∧∀ o,b=some o→nD w o
 |[],none=>.inl ⟨rfl,rfl,rfl⟩
 |[],some o=>.inr ⟨o,rfl,.inr rfl,fun x h=>absurd h bl,fun o' h=>by cases h;exact LD _⟩
 |x::L,b=>by
  rw [List.foldl_cons];have hb:∃ o,Xy b x=some o∧(o=x∨b=some o)∧nD o x∧∀ o',b=some o'→nD o o':=by
   cases b with
   |none=>exact ⟨x,rfl,.inl rfl,LD _,fun o' h=>by cases h⟩
   |some o =>
    unfold Xy;simp only;cases h:ltB x o with
    |true =>
     exact ⟨x,rfl,.inl rfl,LD _,fun o' h'=>by cases h';exact a7l h⟩
    |false =>
     exact ⟨o,rfl,.inr rfl,zC h,fun o' h'=>by cases h';exact LD _⟩
  obtain ⟨o,h1,h2,h3,h4⟩:=hb;rw [h1];rcases Vl L (some o) with ⟨h,_⟩|⟨w,g1,g2,g3,g4⟩
  ·cases h
  ·have hw:=g4 o rfl
   refine .inr ⟨w,g1,?_,fun y hy=>?_,fun o' ho'=>NG hw (h4 o' ho')⟩
   ·grind
   ·rcases bm.1 hy with rfl|hy
    ·exact NG hw h3
    grind
end
end Go.Sch
namespace Go.Proofs.YtnjkoebfgcbbdaaGreatDoor
open Go Go.Am Go.Vm Go.Pie Go.Sch
attribute [local irreducible] Aa Ah Af Ad Az Ai Ba Bq Bd Aj Vm.Done Bg AB RN
attribute [local irreducible] BR A8 DJ Dx DX AV Cc
theorem b2m (p:Ef):Inc (DT p):=XR (gV _)
theorem Vj (p:Ef) {i j:Nat} (h:i<j) (hj:j<(DT p).length):gi (DT p) i<gi (DT p) j:=by
 have:=fW.1 (b2m p) i j (by omega) hj h;unfold gi;grind
theorem a4u (p:Ef) {i j:Nat} (hi:i<(DT p).length) (hj:j<(DT p).length) (h:gi (DT p) i=gi (DT p) j):i=j:=by
 rcases ew i j with h1|h1|h1
 ·have:=Vj p h1 hj;omega
 ·omega
 ·have:=Vj p h1 hi;omega
theorem zM (p:Ef) (t:Int):t∈DT p↔t∈TY p p.notes.length:=by
 unfold DT;rw [QB,fw]
theorem MB {α:Type} [Inhabited α] {l:List α} {x:α} (h:x∈l):∃ i,i<l.length∧gi l i=x:=by
 obtain ⟨i,hi,e⟩:=cK.1 h;exact ⟨i,hi,by unfold gi;grind⟩
theorem EX {α:Type} [Inhabited α] {l:List α} {i:Nat} (h:i<l.length):gi l i∈l:=by
 unfold gi;grind
theorem a7q {α:Type} [Inhabited α] {l:List α} (h:l.Nodup) {i j:Nat} (hi:i<l.length) (hj:j<l.length) (e:gi l i=gi l j):i=j:=by
 unfold gi at e;rw [ai hi,ai hj] at e;exact (List.getElem_inj h).1 e
theorem ah (p:Ef) (t:Int):∀ k,(Ls p t k).Nodup
 |0=>cB
 |k+1=>by
  have ih:=ah p t k;unfold Ls;split
  ·refine ez.2 ⟨ih,by simp,fun a ha b hb e=>?_⟩
   rw [aR] at hb;have:=Yj ha;omega
  omega
theorem jc (p:Ef) (t:Int) (x:Int):x∈snd p t↔∃ i:Nat,i<p.notes.length∧x=(i:Int)∧(gi p.notes i).s≤t∧t<(gi p.notes i).e:=by
 have h:=ng p t x p.notes.length;simp only [a3t] at h;exact h
def Nv (q:Qu) (t:Nat):kW:=gi (BN q.p) t
def b0f (q:Qu) (s:kW) (x:Int):Bool:=decide ((gi q.p.notes x.toNat).s=s.s)
def MZ (q:Qu) (t j:Nat):Bool:=b0f q (Nv q t) (gi (Jf q (J6 q t)) j)
def fQ (q:Qu) (t j:Nat):Nat:=(gi (Jf q (J6 q t)) j).toNat
def kQ (q:Qu) (t:Nat):Nat:=(Jf q (J6 q t)).length
def sQ (q:Qu) (t i:Nat):Prop:=(i:Int)∈J6 q t
def XJ (q:Qu) (t:Nat) (l:List Int):Bool:=Po q (J6 q t) l
theorem sH (p:Ef):(BN p).length+1=(DT p).length:=by
 have:=zq p;show (a5g _ _).length+1=_;rw [pX];omega
theorem b3r (q:Qu) {t:Nat} (ht:t<(BN q.p).length):(Nv q t).s=gi (DT q.p) t:=by
 unfold Nv;rw [Yu _ ht]
theorem Z5 (q:Qu) {t:Nat} (ht:t<(BN q.p).length):J6 q t=snd q.p (gi (DT q.p) t):=by
 unfold J6;rw [Yu _ ht]
theorem ZO (q:Qu) {t:Nat} (ht:t<(BN q.p).length) (i:Nat):sQ q t i↔i<q.p.notes.length∧(gi q.p.notes i).s≤gi (DT q.p) t∧gi (DT q.p) t<(gi q.p.notes i).e:=by
 unfold sQ;rw [Z5 q ht,jc];grind
theorem qF (q:Qu) (N:List Int) (x:Int):x∈Jf q N↔x∈N∧IK q x.toNat=false:=by
 unfold Jf Us;simp
theorem vI (q:Qu) {t:Nat} (ht:t<(BN q.p).length):(Jf q (J6 q t)).Nodup:=by
 rw [Z5 q ht];exact (ah _ _ _).filter _
theorem N7 (q:Qu) {t:Nat} (ht:t<(BN q.p).length) {j:Nat} (hj:j<kQ q t):∃ i:Nat,gi (Jf q (J6 q t)) j=(i:Int)∧fQ q t j=i∧i<q.p.notes.length∧sQ q t i∧IK q i=false:=by
 have hm:=EX (l:=Jf q (J6 q t)) hj;obtain ⟨h1,h2⟩:=(qF q _ _).1 hm;have h3:gi (Jf q (J6 q t)) j∈snd q.p (gi (DT q.p) t):=by rw [← Z5 q ht];omega
 obtain ⟨i,g1,g2,_⟩:=(jc _ _ _).1 h3;refine ⟨i,g2,by unfold fQ;omega,g1,by unfold sQ;grind,by grind⟩
theorem N8 (q:Qu) (hq:Na q) {t:Nat} (ht:t<(BN q.p).length) (i:Nat):zX (MZ q) (fQ q) (kQ q) t i↔i<q.p.notes.length∧IK q i=false∧(gi q.p.notes i).s=gi (DT q.p) t:=by
 constructor
 ·rintro ⟨j,h1,h2,rfl⟩
  obtain ⟨i,g1,g2,g3,g4,g5⟩:=N7 q ht h1;rw [g2];refine ⟨g3,g5,?_⟩;unfold MZ b0f at h2;rw [g1,b3r q ht] at h2;grind
 ·rintro ⟨h1,h2,h3⟩
  have hn:=hq.p.note i h1;have hS:sQ q t i:=(ZO q ht i).2 ⟨h1,by omega,by have:=hn.r;omega⟩;have hm:(i:Int)∈Jf q (J6 q t):=(qF q _ _).2 ⟨hS,h2⟩;obtain ⟨j,j1,j2⟩:=MB hm;refine ⟨j,j1,?_,by unfold fQ;omega⟩;unfold MZ b0f;rw [j2,b3r q ht];grind
theorem gu {p:Ef} {N:List Int} {is is':Nat→Bool} (h:∀ x∈N,is x.toNat=is' x.toNat) (d:Nat):∀ k,k≤N.length→uS p N is d k=uS p N is' d k
 |0,_=>rfl
 |k+1,hk=>by
  rw [Ui,Ui,gu h d k (by omega),h _ (EX (by omega))]
theorem a2p {q:Qu} {N:List Int} {is is':Nat→Bool} (h:∀ x∈N,is x.toNat=is' x.toNat):jv q N is=jv q N is':=by
 refine P6 fun d _=>?_
 unfold bQ;rw [gu h d _ (ab _)]
theorem WE {p:Ef} {N l l':List Int} (h:∀ x∈N,gi l x.toNat=gi l' x.toNat) (hd:Int):∀ k,k≤N.length→Vh p N l hd k=Vh p N l' hd k
 |0,_=>rfl
 |k+1,hk=>by
  unfold Vh;rw [WE h hd k (by omega),h _ (EX (by omega))]
theorem ZK {q:Qu} {N l l':List Int} (h:∀ x∈N,gi l x.toNat=gi l' x.toNat) (hd:Int):je q N l hd=je q N l' hd:=by
 unfold je;rw [a2p (is:=hasB l hd) (is':=hasB l' hd) fun x hx=>by unfold hasB;grind]
theorem oQ {q:Qu} {N l l':List Int} (h:∀ x∈N,gi l x.toNat=gi l' x.toNat):Po q N l=Po q N l':=by
 unfold Po;rw [ZK h,ZK h]
theorem Wp {N l l':List Int} (h:∀ x∈N,gi l x.toNat=gi l' x.toNat):∀ k,k≤N.length→mD N l k=mD N l' k
 |0,_=>rfl
 |k+1,hk=>by
  unfold mD;rw [Wp h k (by omega),h _ (EX (by omega))]
theorem qE {N l l':List Int} (hr:∀ x∈N,0≤gi l x.toNat∧gi l x.toNat≤2) (hr':∀ x∈N,0≤gi l' x.toNat∧gi l' x.toNat≤2):∀ k,k≤N.length→mD N l k=mD N l' k→∀ j,j<k→gi l (gi N j).toNat=gi l' (gi N j).toNat
 |0,_,_,j,hj=>by omega
 |k+1,hk,he,j,hj=>by
  have hl:=U7 N l k;have hl':=U7 N l' k;obtain ⟨e1,e2⟩:=List.append_inj he (by omega);by_cases e:j=k
  ·subst e
   simp only [List.cons.injEq,and_true] at e2;have e3:=congrArg UInt8.toNat e2;rw [UInt8.toNat_ofNat',UInt8.toNat_ofNat'] at e3;have:=hr _ (EX (l:=N) (i:=j) (by omega));have:=hr' _ (EX (l:=N) (i:=j) (by omega));omega
  ·exact qE hr hr' k (by omega) e1 j (by omega)
theorem jU {q:Qu} {t:Nat} (ht:t<(BN q.p).length) {l l':List Int} (h:∀ i,sQ q t i→gi l i=gi l' i):∀ x∈J6 q t,gi l x.toNat=gi l' x.toNat:=fun x hx=>by
 have hx':=hx;rw [Z5 q ht,jc] at hx;obtain ⟨i,_,rfl,_⟩:=hx;exact h i hx'
theorem YF (q:Qu) {i:Nat} (hi:i<q.p.notes.length):gi (NK q) i=if IK q i=true then 2 else 0:=by
 unfold NK Wq;rw [EC _ hi];grind
theorem a4i (q:Qu):(NK q).length=q.p.notes.length:=NC _ _
theorem Xf (q:Qu) (hq:Na q):YP q.p.notes.length (BN q.p).length (MZ q) (fQ q) (kQ q) (sQ q) (XJ q) (NK q):=by
 have hT:=sH q.p;refine ⟨a4i q,fun t ht j j' hj hj' e=>?_,fun t ht j hj=>?_,fun t ht j hj hn=>?_,fun t t' ht ht' i h1 h2=>?_,fun t ht j hj=>?_,fun t t' h1 h2 i hS hh=>?_,fun t ht i hS=>?_,fun t ht l l' _ _ h=>?_⟩
 ·obtain ⟨i,g1,g2,_⟩:=N7 q ht hj
  obtain ⟨i',g3,g4,_⟩:=N7 q ht hj';refine a7q (vI q ht) hj hj' ?_;omega
 ·obtain ⟨i,g1,g2,g3,_⟩:=N7 q ht hj
  omega
 ·obtain ⟨i,g1,g2,g3,_,g5⟩:=N7 q ht hj
  rw [g2,YF q g3,g5];rfl
 ·have h1:=((N8 q hq ht i).1 h1).2.2
  have h2:=((N8 q hq ht' i).1 h2).2.2;exact a4u q.p (by omega) (by omega) (h1.symm.trans h2)
 ·obtain ⟨i,g1,g2,g3,g4,_⟩:=N7 q ht hj
  grind
 ·have h3:=((N8 q hq h2 i).1 hh).2.2
  have h4:=((ZO q (by omega) i).1 hS).2.1;have:=Vj q.p h1 (by omega);omega
 ·obtain ⟨g1,g2,g3⟩:=(ZO q ht i).1 hS
  have hlt:=Vj q.p (show t<t+1 by omega) (by omega);by_cases h1:(gi q.p.notes i).s≤gi (DT q.p) t
  ·exact .inl ((ZO q (by omega) i).2 ⟨g1,h1,by omega⟩)
  ·refine .inr fun t' ht' hh=>?_
   have h3:=((N8 q hq (by omega) i).1 hh).2.2;rcases ax t' t with h4|h4
   ·have:=Vj q.p h4 (by omega);omega
   grind
 ·exact oQ (jU ht h)
theorem Ua (q:Qu):∀ i,i<q.p.notes.length→0≤gi (NK q) i∧gi (NK q) i≤2:=fun i hi=>by
 rw [YF q hi];split<;>omega
theorem b3p (q:Qu):∀ t,t<(BN q.p).length→∀ i,sQ q t i→i<q.p.notes.length:=fun t ht i h=>((ZO q ht i).1 h).1
def KN (q:Qu) (t:Nat):List (List Int):=Xp (MZ q) (fQ q) (kQ q) (XJ q) (NK q) t
def b6b (q:Qu) (t:Nat) (l:List Int):Prop:=iw (MZ q) (fQ q) (kQ q) (XJ q) (NK q) q.p.notes.length t l
theorem Ql (q:Qu) (hq:Na q) {t:Nat} (ht:t≤(BN q.p).length) (l:List Int):l∈KN q t↔b6b q t l:=UY (Xf q hq) t ht l
theorem Z7 (q:Qu) (hq:Na q) {t:Nat} (ht:t≤(BN q.p).length):(KN q t).Nodup:=dZ (Xf q hq) t ht
def lH (q:Qu) (t:Nat) (l:List Int):List (List Int):=uz (MZ q) (fQ q) (kQ q) (XJ q) t l
structure a2o (q:Qu) (t:Nat) (l:List Int):Prop where
 len:l.length=q.p.notes.length
 rng:∀ i,i<l.length→0≤gi l i∧gi l i≤2
 zero:∀ j,j<kQ q t→MZ q t j=true→gi l (fQ q t j)=0
theorem qm (q:Qu) (hq:Na q) {t:Nat} (ht:t<(BN q.p).length) {l:List Int} (h:b6b q t l):a2o q t l:=by
 have hS:=Xf q hq;have hlen:l.length=q.p.notes.length:=iw.len h;refine ⟨hlen,fun i hi=>Yk (Ua q) h (by omega),fun j hj hn=>?_⟩;rw [iw.no h _ (hS.rng t ht j hj) fun ⟨t',h1,h2⟩=>by have:=hS.once t' t (by omega) ht _ h2 ⟨j,hj,hn,rfl⟩;omega];exact hS.zero t ht j hj hn
theorem fJ (q:Qu) (hq:Na q) {i:Nat} (hi:i<q.p.notes.length) (hp:IK q i=false):∃ t,t<(BN q.p).length∧zX (MZ q) (fQ q) (kQ q) t i:=by
 have hT:=sH q.p;have hn:=hq.p.note i hi;have h1:(gi q.p.notes i).s∈DT q.p:=(zM _ _).2 ((kK _ _ _).2 (.inr (.inr ⟨i,hi,.inl rfl⟩)));have h2:(gi q.p.notes i).e∈DT q.p:=(zM _ _).2 ((kK _ _ _).2 (.inr (.inr ⟨i,hi,.inr rfl⟩)));obtain ⟨a,a1,a2⟩:=MB h1;obtain ⟨b,b1,b2⟩:=MB h2;have hlt:a<(BN q.p).length:=by
  rcases ax a (BN q.p).length with h|h
  ·exact h
  ·have:=hn.r
   rcases ew a b with g|g|g
   ·omega
   ·grind
   ·have:=Vj q.p g a1;omega
 exact ⟨a,hlt,(N8 q hq hlt i).2 ⟨hi,hp,a2.symm⟩⟩
theorem a1a (q:Qu) (hq:Na q) (l:List Int):l∈KN q (BN q.p).length↔l.length=q.p.notes.length∧(∀ i,i<q.p.notes.length→if IK q i=true then gi l i=2 else gi l i=0∨gi l i=1)∧∀ t,t<(BN q.p).length→Po q (J6 q t) l=true:=by
 rw [Ql q hq (ab _)];constructor
 ·intro h
  refine ⟨iw.len h,fun i hi=>?_,fun t ht=>iw.play h t ht⟩;split
  ·rename_i hp
   rw [iw.no h i hi (fun ⟨t,h1,h2⟩=>by have:=((N8 q hq h1 i).1 h2).2.1;grind),YF q hi,if_pos hp]
  ·rename_i hp
   exact iw.yes h i hi (fJ q hq hi (by grind))
 ·rintro ⟨h1,h2,h3⟩
  refine ⟨h1,fun i hi ⟨t,g1,g2⟩=>?_,fun i hi hno=>?_,fun t ht=>h3 t ht⟩
  ·have:=h2 i hi
   rw [((N8 q hq g1 i).1 g2).2.1] at this;grind
  ·have:=h2 i hi
   by_cases hp:IK q i=true
   ·rw [if_pos hp] at this
    rw [this,YF q hi,if_pos hp]
   ·exact absurd (fJ q hq hi (by grind)) hno
structure J8 where
 now:List UInt8
 c0:V7
 c1:V7
 b0:Bool
 b1:Bool
deriving DecidableEq
def st0:J8:=⟨[],⟨0,0⟩,⟨0,0⟩,false,false⟩
def Hq (q:Qu) (t:Nat) (x:J8) (l:List Int):J8 :=
 ⟨Py (J6 q t) l,if (Gv q l 0 t).1=true then (Gv q l 0 t).2 else x.c0,if (Gv q l 1 t).1=true then (Gv q l 1 t).2 else x.c1,(Gv q l 0 t).1||x.b0,(Gv q l 1 t).1||x.b1⟩
def GH (r:Bool×V7) (b:Bool) (c:V7):Int:=if r.1=true then if b=true then mvC c r.2 else 0 else 0
def KZ (q:Qu) (t:Nat) (x:J8) (l:List Int):Int:=GH (Gv q l 0 t) x.b0 x.c0+GH (Gv q l 1 t) x.b1 x.c1
theorem rH (q:Qu) {t:Nat} (ht:t<(BN q.p).length) {l l':List Int} (h2:∀ i,i<q.p.notes.length→0≤gi l i∧gi l i≤2) (h2':∀ i,i<q.p.notes.length→0≤gi l' i∧gi l' i≤2) (e2:Py (J6 q t) l=Py (J6 q t) l') {i:Nat} (hS:sQ q t i):gi l i=gi l' i:=by
 have hin:=Tj ht;have hb:∀ x∈J6 q t,x.toNat<q.p.notes.length:=fun x hx=>by
  obtain ⟨j,j1,j2⟩:=MB hx;have:=hin j j1;omega
 obtain ⟨j,j1,j2⟩:=MB (l:=J6 q t) hS;have:=qE (fun x hx=>h2 _ (hb x hx)) (fun x hx=>h2' _ (hb x hx)) _ (ab _) e2 j j1;grind
theorem b1f (q:Qu):Go.Sch.Stp q.p.notes.length (BN q.p).length (sQ q) (Hq q) (KZ q):=by
 refine ⟨fun t ht x l l' _ _ h=>?_,fun t ht x x' l l' h1 h1' h2 h2' he i hS=>?_⟩
 ·have hx:=jU ht h
  have e0:Gv q l 0 t=Gv q l' 0 t:=WE hx 0 _ (ab _);have e1:Gv q l 1 t=Gv q l' 1 t:=WE hx 1 _ (ab _);have e2:Py (J6 q t) l=Py (J6 q t) l':=Wp hx _ (ab _);unfold Hq KZ;grind
 ·exact rH q ht h2 h2' (congrArg J8.now he) hS
def c1z (q:Qu) (t:Nat) (_:List UInt8) (l:List Int):List UInt8:=Py (J6 q t) l
theorem b2a (q:Qu):Go.Sch.Stp q.p.notes.length (BN q.p).length (sQ q) (c1z q) (fun _ _ _=>0):=by
 refine ⟨fun t ht x l l' _ _ h=>⟨Wp (jU ht h) _ (ab _),rfl⟩,fun t ht x x' l l' h1 h1' h2 h2' he i hS=>?_⟩;exact rH q ht h2 h2' he hS
end Go.Proofs.YtnjkoebfgcbbdaaGreatDoor
namespace Go.Am
open Go.ChangeMaps (setBlock)
variable {P:Program} {G:List Nat}
theorem Z4 {ops:Array Oper} {o:Oper} {l:List Oper} {R:Exit→Act→World→Prop} {ac:Act} {w w':World} {v':Value} (hg:o.guard=none) (hno:∀ c,o.op≠.defer c) (hr:(execOp ac.eval o).run P w=.ok (.value v') w')
 (k:wpListIn Fence.wide 0 P ops R l (ac.put o.dst v') w'):wpListIn Fence.wide 0 P ops R (o::l) ac w:=by
 unfold wpListIn;rw [Vm.Me hg,if_pos rfl];unfold Oper.wpIn;rw [Oper.semAt_eq _ _ _ hno,hr];refine ⟨fun _ _=>trivial,?_⟩;exact k
theorem Du.len {ι:BJ} {g:Nat→Nat}:∀ {es es':List MapEntry},Du ι g es es'→es'.length=es.length
 |[],[],_=>rfl
 |_::_,_::_,⟨_,k⟩=>by simp [Du.len k]
 |[],_::_,h=>h.elim
 |_::_,[],h=>h.elim
theorem a8i {ι ι':BJ} {m m':Mem} {w w':World} (hs:DL P G ι m w) (h:Ext ι m w ι' m' w') {k:Nat} {o:Obj} (hk:w.heap[k]?=some o) (ho:o.isCells=false) (hm:∀ es c,o≠.map es c):w'.heap[k]?=some o:=by
 rw [h.frame k (al.1 hk).1 ?_];exact hk;intro b ib hb hc;have h1:=hs.blk b ib hb;rw [hc,hk] at h1;obtain ⟨es,c,h2⟩:=NV h1 ho;grind
theorem a6d {ι:BJ} {m:Mem} {W W1:World} {l:Nat} {o o':Obj} (hs:DL P G ι m W) (hd:W1=W∨W1=W.drew) (hk:W.heap[l]?=some o) (ho:o.isCells=false) (hm:∀ es c,o≠.map es c):DL P G ι m (setBlock W1 l o'):=by
 have hh:W1.heap=W.heap:=by rcases hd with rfl|rfl<;>rfl
 have hg:∀ c,c≠l→(setBlock W1 l o').heap[c]?=W.heap[c]?:=fun c hc=>by
  show (W1.heap.setIfInBounds l o')[c]?=_;grind
 have hz:(setBlock W1 l o').heap.size=W.heap.size:=by
  show (W1.heap.setIfInBounds l o').size=_;grind
 refine ⟨fun b ib hb=>⟨(hs.dom b ib hb).1,by rw [hz];exact (hs.dom b ib hb).2⟩,fun b ib hb=>?_,hs.inj,hs.glob⟩;rw [hg ib.blk ?_];exact hs.blk b ib hb;intro e;have h1:=hs.blk b ib hb;rw [e,hk] at h1;obtain ⟨es,c,h2⟩:=NV h1 ho;grind
theorem a4w {ι ι':BJ} {m m':Mem} {w W W1:World} {l:Nat} (h:Ext ι m w ι' m' W) (hd:W1=W∨W1=W.drew) (hl:w.heap.size≤l) (o':Obj):Ext ι m w ι' m' (setBlock W1 l o'):=by
 have hh:W1.heap=W.heap:=by rcases hd with rfl|rfl<;>rfl
 have hz:(setBlock W1 l o').heap.size=W.heap.size:=by
  show (W1.heap.setIfInBounds l o').size=_;grind
 refine ⟨h.size,h.low,h.keep,h.ro,h.ro',h.le,h.back,h.dom,by rw [hz];exact h.heap,fun c hc hf=>?_,?_,?_,?_⟩
 ·show (W1.heap.setIfInBounds l o')[c]?=_
  rw [hh,eV (by omega)];exact h.frame c hc hf
 ·rcases hd with rfl|rfl<;>exact h.tape
 ·rcases hd with rfl|rfl<;>exact h.os
 ·rcases hd with rfl|rfl<;>exact h.output
theorem run_move {ρ:Operand→Value} {dst:Option Tmp} {x:Operand} {ty:TypeId} {pos:String} {af:Array Edge} {gd:Option (Nat×Bool)} {w:World}:(execOp ρ ⟨dst,.move x,ty,pos,af,gd⟩).run P w=.ok (.value (ρ x)) w:=by
 rfl
theorem XF {ρ:Operand→Value} {dst:Option Tmp} {x:Operand} {i:Nat} {vs:Array Value} {v:Value} {ty:TypeId} {pos:String} {af:Array Edge} {gd:Option (Nat×Bool)} {w:World} (hx:ρ x=.tuple vs) (hv:vs[i]?=some v):(execOp ρ ⟨dst,.extract x i,ty,pos,af,gd⟩).run P w=.ok (.value v) w:=by
 simp only [execOp,hx];exact He (by simp [Instr.extract,hv])
theorem OE {a:Act} {d d':Tmp} {v:Value} (h:d<a.tmps.size):(a.put (some d) v).eval (.tmp d')=if d=d' then v else a.eval (.tmp d'):=by
 show (a.tmps.setIfInBounds d v).getD d' undef=_;by_cases e:d=d'
 ·simp_all
 ·rw [if_neg e]
  show _=a.tmps.getD d' undef;simp_all
theorem Zg {es:Array MapEntry} {V:List Nat} {e:MapEntry}:e∈(leftOf es V.toArray).toList↔e∈es.toList∧e.born∉V:=by
 unfold leftOf;simp
end Go.Am
namespace Go.Vm
open Go.Am
open Go.ChangeMaps (setBlock)
variable {E:Env} {n bn:Nat} {L:Frame} {H:Heap} {nx:Nat} {Q:BM→Frame→Heap→Nat→Prop}
theorem b2l {l:List MapEntry} {clock:Nat} (h:Stamped l clock) {i:Nat} {e:MapEntry} (he:l[i]?=some e):e.born=i:=h.at he
theorem Dj.at {m:Mem} {F:Nat→Prop}:∀ {xs:List FV} {vs:List Value} {i:Nat} {x:FV} {v:Value},Dj m F xs vs→xs[i]?=some x→vs[i]?=some v→RF m F x v
 |_,_,i,_,_,.nil,h,_=>by grind
 |_,_,0,_,_,.cons h t,h1,h2=>by grind
 |_,_,i+1,_,_,.cons h t,h1,h2=>Dj.at t (by assumption) (by grind)
theorem Dt.at {m:Mem} {F:Nat→Prop} {T:Nat→Option Tg} {σ:Nat→Value} {n:Nat}:∀ {xs:List PV} {vs:List Value} {i:Nat} {x:PV} {v:Value},Dt m F T σ n xs vs→xs[i]?=some x→vs[i]?=some v→RP m F T σ n x v
 |_,_,i,_,_,.nil,h,_=>by grind
 |_,_,0,_,_,.cons h t,h1,h2=>by grind
 |_,_,i+1,_,_,.cons h t,h1,h2=>Dt.at t (by assumption) (by grind)
theorem RL.other {m:Mem} {F:Nat→Prop} {T:Nat→Option Tg} {σ:Nat→Value} {nx:Nat} {L:Frame} {t:Tr Value} (h:RL m F T σ nx L t) {d:Nat} (hd:Fp L d=none) (v:Value):RL m F T σ nx L (P7 t d v):=fun i x hi=>by
 rw [Df];by_cases e:d=i
 ·grind
 ·rw [if_neg e];exact h i x hi
theorem Aw.b8b {ι:BJ} {g:Nat→Nat} {l:Nat} {v':Value} (h:Aw ι g (.iface 0 (.int .i64 l)) v'):v'=.pointer (some ⟨l,0,none⟩):=by
 generalize hv:Value.iface 0 (.int .i64 (l:Int))=v at h;cases h<;>simp at hv
 grind
theorem Iz:∀ (n:Nat) (V:List Nat),V.Nodup→(∀ i∈V,i<n)→V.length≤n
 |0,V,_,h=>by
  match V,h with
  |[],_=>simp
  |a::V,h=>exact absurd (h a (by simp)) (bL _)
 |n+1,V,hn,h=>by
  by_cases hm:n∈V
  ·have h1:=Iz n (V.erase n) (hn.erase n) fun i hi=>by
    grind
   grind
  ·have:=Iz n V hn fun i hi=>by
    grind
   omega
theorem nN {ι:BJ} {g:Nat→Nat} {l es:List MapEntry} (h:Du ι g l es) {j:Nat} {e:MapEntry} (he:es[j]?=some e):∃ ea,l[j]?=some ea∧iR ι g ea e:=by
 have hj:=(bw.1 he).1;rw [h.len] at hj;exact ⟨l[j],ai hj,Du.get h (ai hj) he⟩
theorem YW {ι:BJ} {g:Nat→Nat}:∀ {l es:List MapEntry},Du ι g l es→es.map (·.born)=l.map (·.born)
 |[],[],_=>rfl
 |e::l,e'::es,⟨h,k⟩=>by
  rw [bz,bz,YW k,h.2.1]
 |[],_::_,h=>h.elim
 |_::_,[],h=>h.elim
theorem Bc.jB {r1 id r2 id2 r3:Nat} {x:Operand} {d0 d dn dk de:Tmp} {T kt et aa1 a2 a3 a4 aa5:TypeId} {p1 p2 p3 p4 p5:String} {f1 f2 f3 f4 f5:Array Edge} {ops3:Array Oper} {tl:List Oper} {rest:Code} {b Dw:Nat} {ks:List FV} {cs:List PV} {α:Type} (Lf:α→Frame) (Hf:α→Heap) (inv:List Nat→α→Prop) (s0:α)
 (ht:E.P.underlying T=some (.map kt et)) (hx:AU E.Γ L x=some (.mref b)) (hb:bn≤Dw) (hbm:hget H b=some (.Jz ks cs))
 (h0:inv [] s0) (hc:YR (H8 L (some d0) (.mref b)) H nx (Lf s0) (Hf s0) Dw)
 (hLd:Fp L d=none) (hL:∀ s,Fp (Lf s) d0=some (.mref b)∧Fp (Lf s) dn=none∧Fp (Lf s) dk=none)
 (hH:∀ V s,inv V s→hget (Hf s) b=some (.Jz ks cs)) (hl:ks.length=cs.length)
 (hops:ops3.toList=⟨some de,.entry (.tmp d),aa5,p5,f5,none⟩::tl) (hkd:keeps d (.seq (.region r3 ops3 false) rest)=true) (hk0:keeps d0 (.seq (.region r3 ops3 false) rest)=true)
 (hne:d0≠d∧dn≠d∧dn≠d0∧dk≠d∧dk≠d0∧de≠d)
 (hs:∀ V s i kk c,inv V s→V.Nodup→i∉V→ks[i]?=some kk→cs[i]?=some c→BX E n bn ops3 tl (H8 (Lf s) (some de) (.Eb [.p kk,c])) (Hf s) Dw fun L' H' nx' =>
  Bc E n bn rest L' H' nx' (Bd id2 (Aj (fun L' H' nx'=>∃ s',inv (V++[i]) s'∧YR L' H' nx' (Lf s') (Hf s') Dw) (Bd id Q))))
 (he:∀ V s,inv V s→V.Nodup→(∀ i,i<cs.length→i∈V)→(∀ i∈V,i<cs.length)→Q .normal (Lf s) (Hf s) Dw) :
 Bc E n bn (.seq (.region r1 #[⟨some d0,.move x,aa1,p1,f1,none⟩,⟨some d,.range T (.tmp d0),a2,p2,f2,none⟩] false)
  (.block id (.loop (.seq (.region r2 #[⟨some dn,.next (.tmp d) false,a3,p3,f3,none⟩,⟨some dk,.extract (.tmp dn) 0,a4,p4,f4,none⟩] false) (.seq (.cond (.tmp dk) .skip (.exit id)) (.block id2 (.seq (.region r3 ops3 false) rest))))))) L H nx Q:=by
 intro hsn hok hfl B hB m F σ t h1 h2 h3 ι ac w hst R hR;simp only [codeOk,Bool.and_eq_true] at hok;simp only [flat,Bool.true_and,Bool.and_true,Bool.and_eq_true] at hfl;obtain ⟨⟨hok1,_⟩,⟨hok2,_⟩,_,⟨b6v,_⟩,hokr⟩:=hok;have c5c:=hfl;obtain ⟨hn1,hn2,hn3,hn4,hn5,hn6⟩:=hne;have ho1:=fun o ho=>DR (bh.1 hok1 o ho)
 have ho2:=fun o ho=>DR (bh.1 hok2 o ho)
 have ho3:∀ o∈ops3.toList,Iq E.G n o=true:=fun o ho=>bh.1 b6v o (by simpa using ho)
 rw [hops] at ho3;have hd0:d0<n:=(ho1 ⟨some d0,.move x,aa1,p1,f1,none⟩ (by simp)).2 d0 rfl;have hdd:d<n:=(ho1 ⟨some d,.range T (.tmp d0),a2,p2,f2,none⟩ (by simp)).2 d rfl;have hdn:dn<n:=(ho2 ⟨some dn,.next (.tmp d) false,a3,p3,f3,none⟩ (by simp)).2 dn rfl;have hdk:dk<n:=(ho2 ⟨some dk,.extract (.tmp dn) 0,a4,p4,f4,none⟩ (by simp)).2 dk rfl;have hde:de<n:=(DR (ho3 _ (bN ..))).2 de rfl;have c3b:Gn E.G x=true:=(ho1 ⟨some d0,.move x,aa1,p1,f1,none⟩ (by simp)).1 x (by simp [Op.operands]);simp only [keeps,Bool.and_eq_true,hops,List.all_cons] at hkd hk0;obtain ⟨c9y,r,l,clock,q1,q2,q3,q4,q5,q6,q7⟩:=h1.hp b _ hbm;have hxv:ev t x=.map (some r):=(I7 h1 h2 hx hbm).trans q1;have hrx:=Bz h1 h2 hx;rw [hxv] at hrx;have hvx:=Jw hst.1 hst.2 c3b;rw [hxv] at hvx;obtain ⟨ib,hib,hxe⟩:∃ ib,ι r=some ib∧ac.eval x=.map (some ib.blk):=by
  have hg0:m.gen r=0:=by unfold Mem.gen;rw [q4];rfl
  generalize ac.eval x=u at hvx;cases hvx with
  |map _ c ib h hc=>exact ⟨ib,h,by rw [hc hg0]⟩
 have hlen:l.length=cs.length:=by have:=q5.length;rw [bc] at this;omega
 have c4g:clock=cs.length:=by rw [q7.2,hlen]
 obtain ⟨es,hes,c9o⟩:∃ es,w.heap[ib.blk]?=some (.map es clock)∧Du ι m.gen l es.toList:=by
  have hbr:=hst.1.blk r ib hib;rw [q4] at hbr;cases ho:w.heap[ib.blk]? with
  |none=>rw [ho] at hbr;exact hbr.elim
  |some o =>
   rw [ho] at hbr;cases o<;>simp only [Ue] at hbr<;>first|exact hbr.elim|skip
   rename_i es' c';exact ⟨es',by rw [hbr.1],hbr.2⟩
 have hsz:∀ {a:Act} {s:St} {ι:BJ} {w:World},D9 E.P E.G [] n s ι a w→a.tmps.size=n:=fun h=>h.2.size
 refine wpIn_seq (wpIn_region_list ?_);refine Z4 rfl (fun c hc=>by cases hc) run_move ?_;have c6o:(ac.put (some d0) (ac.eval x)).tmps.size=n:=by
  show (ac.tmps.setIfInBounds d0 _).size=n;rw [ep];exact hsz hst
 have hrun0:(execOp (ac.put (some d0) (ac.eval x)).eval ⟨some d,.range T (.tmp d0),a2,p2,f2,none⟩).run E.P w=.ok (.value (.pointer (some ⟨w.heap.size,0,none⟩))) (w.alloc (.mapIter (some ib.blk) clock #[] clock)):=by
  simp only [execOp];refine He ?_;rw [OE (by rw [hsz hst];exact hd0),if_pos rfl,hxe];exact run_range_map w T kt et ib.blk es clock ht hes
 refine Z4 rfl (fun c hc=>by cases hc) hrun0 ?_;have hbel:Go.RowKit.Below w.heap.size w (w.alloc (.mapIter (some ib.blk) clock #[] clock)):=⟨rfl,rfl,rfl,by show w.heap.size≤(w.heap.push _).size;simp,fun c hc=>(by first|exact heap_alloc_old w _ hc|exact heap_alloc_old w _ _ hc)⟩
 have hlt:w.heap.size<(w.alloc (.mapIter (some ib.blk) clock #[] clock)).heap.size:=by show w.heap.size<(w.heap.push _).size;simp
 have hst1:D9 E.P E.G [] n ⟨P7 (P7 t d0 (.map (some r))) d (.iface 0 (.int .i64 w.heap.size)),m⟩ ι ((ac.put (some d0) (ac.eval x)).put (some d) (.pointer (some ⟨w.heap.size,0,none⟩))) (w.alloc (.mapIter (some ib.blk) clock #[] clock)):=by
  refine ⟨QX hst.1 hbel,?_⟩;have e1:RU [] ι m.gen n (H7 t (some d0) (.map (some r))) (ac.put (some d0) (ac.eval x)):=hst.2.put (fun d' e=>by cases e;exact hd0) hvx;exact e1.put (dst:=some d) (fun d' e=>by cases e;exact hdd) (.it _)
 have c4m:RL m F (htag H) σ nx (H8 L (some d0) (.mref b)) (P7 (P7 t d0 (.map (some r))) d (.iface 0 (.int .i64 w.heap.size))):=by
  refine RL.other (RL.set h2 hrx) ?_ _;rw [Ec,if_neg hn1];exact hLd
 show (Code.block _ _).wpIn _ _ _ _ _ _;refine (wpIn_block (wpIn_loop_rounds (cs.length+1) ?_));have key:∀ N V s,inv V s→V.Nodup→(∀ i∈V,i<cs.length)→cs.length<N+V.length→∀ m1 F1 σ1 t1 ι1 a1 w1,Ctx E.Γ m1 F1 σ1 (Hf s) Dw→RL m1 F1 (htag (Hf s)) σ1 Dw (Lf s) t1→B.to m1 F1 σ1 (Hf s) Dw →
  Ext ι m w ι1 m1 w1→D9 E.P E.G [] n ⟨t1,m1⟩ ι1 a1 w1→Cj t1 d=.iface 0 (.int .i64 w.heap.size)→Cj t1 d0=.map (some r)→w1.heap[w.heap.size]?=some (.mapIter (some ib.blk) cs.length V.toArray cs.length) →
  (∀ y,y≠d0→y≠d→y≠dn→y≠dk→y≠de→UK y tl=true→keeps y rest=true→Cj t1 y=Cj t y) →
  Code.roundsIn Fence.wide 0 E.P (.seq (.region r2 #[⟨some dn,.next (.tmp d) false,a3,p3,f3,none⟩,⟨some dk,.extract (.tmp dn) 0,a4,p4,f4,none⟩] false) (.seq (.cond (.tmp dk) .skip (.exit id)) (.block id2 (.seq (.region r3 ops3 false) rest)))) (Exit.inBlock id R) N a1 w1:=by
  intro N
  induction N with
  |zero =>
   intro V s _ hnd hV hlt;have:=Iz _ V hnd hV;omega
  |succ N ih =>
   intro V s hi hnd hV hN m1 F1 σ1 t1 ι1 a1 w1 c1 c2 c3 hE hS hit hmp hob hkp;rw [roundsIn_succ];refine wpIn_seq (wpIn_region_list ?_);obtain ⟨c5u,b9k,c0d⟩:=hL s;obtain ⟨_,rr,l1,clock1,g1,g2,g3,g4,g5,g6,g7⟩:=c1.hp b _ (hH V s hi);have hrr:rr=r:=by
    have hh:=c2 d0 _ c5u;rw [hmp] at hh;have ht':htag (Hf s) b=some .map:=by unfold htag;rw [hH V s hi];rfl
    cases hh with
    |mref _ _ h4 =>
     have:=h4 ht';rw [g1] at this;cases this;rfl
   subst hrr;obtain ⟨ib1,c3a,he1⟩:∃ ib1,ι1 rr=some ib1∧ib1.blk=ib.blk:=by
    obtain ⟨_,ib1,k1,k2⟩:=hE.le rr ib hib;have e1:m1.gen rr=0:=by unfold Mem.gen;rw [g4];rfl
    have e2:m.gen rr=0:=by unfold Mem.gen;rw [q4];rfl
    exact ⟨ib1,k1,by rw [k2 (by rw [e1,e2])]⟩
   have hlen1:l1.length=cs.length:=by have:=g5.length;rw [bc] at this;omega
   have b4z:clock1=cs.length:=by rw [g7.2,hlen1]
   obtain ⟨es1,hes1,gU⟩:∃ es1,w1.heap[ib.blk]?=some (.map es1 clock1)∧Du ι1 m1.gen l1 es1.toList:=by
    have hbr:=hS.1.blk rr ib1 c3a;rw [g4,he1] at hbr;cases ho:w1.heap[ib.blk]? with
    |none=>rw [ho] at hbr;exact hbr.elim
    |some o =>
     rw [ho] at hbr;cases o<;>simp only [Ue] at hbr<;>first|exact hbr.elim|skip
     rename_i es' c';exact ⟨es',by rw [hbr.1],hbr.2⟩
   have hborn:∀ {j:Nat} {e:MapEntry},es1.toList[j]?=some e→e.born=j:=fun {j e} he=>by
    obtain ⟨ea,k1,k2⟩:=nN gU he;rw [k2.2.1];exact b2l g7 k1
   have hold:∀ x∈es1.toList,x.born<cs.length:=fun x hx=>by
    obtain ⟨j,hj,e⟩:=cK.1 hx;have:=hborn (j:=j) (e:=x) (by rw [ai hj,e]);rw [gU.len] at hj;omega
   have hiv:a1.eval (.tmp d)=.pointer (some ⟨w.heap.size,0,none⟩):=by
    have hh:=hS.2.val d;have e:Cj (⟨t1,m1⟩:St).t d=_:=hit;rw [e] at hh;exact Aw.b8b hh
   rcases run_next_at w1 a3 w.heap.size ib.blk cs.length cs.length V.toArray es1 clock1 (P:=E.P) hob hes1 hold (ab _) with ⟨hz,hrun⟩|⟨e,hel,w2,hdr,hrun⟩
   ·
    refine Z4 (v':=.tuple #[.bool false]) (w':=w1) rfl (fun c hc=>by cases hc) (by simp only [execOp];rw [hiv];exact He hrun) ?_;refine Z4 (v':=.bool false) (w':=w1) rfl (fun c hc=>by cases hc) (XF (vs:=#[.bool false]) (by rw [OE (by rw [hsz hS];exact hdn),if_pos rfl]) rfl) ?_;have hsz2:(a1.put (some dn) (.tuple #[.bool false])).tmps.size=n:=by
     show (a1.tmps.setIfInBounds dn _).size=n;rw [ep];exact hsz hS
    show (Code.seq _ _).wpIn _ _ _ _ _ _;refine wpIn_seq (wpIn_cond_false (by rw [OE (by rw [hsz2];exact hdk),if_pos rfl]) (wpIn_exit ?_));show (if id=id then _ else _);rw [if_pos rfl];show R .normal _ _;have hall:∀ i,i<cs.length→i∈V:=fun i hil=>Classical.byContradiction fun hni=>by
     have hil':i<es1.toList.length:=by rw [gU.len,hlen1];exact hil
     have hm:es1.toList[i]∈(leftOf es1 V.toArray).toList:=Zg.2 ⟨cN hil',by rw [hborn (ai hil')];exact hni⟩;have:=List.length_pos_of_mem hm;rw [Array.length_toList] at this;omega
    have e1:RU [] ι1 m1.gen n (H7 t1 (some dn) (.tuple #[.bool false])) (a1.put (some dn) (.tuple #[.bool false])):=hS.2.put (fun d' e=>by cases e;exact hdn) (.tuple [.bool false] [.bool false] rfl fun i hi=>by
     have:i=0:=by simpa using hi
     subst this;exact .bool _)
    have e2:=e1.put (dst:=some dk) (v:=.bool false) (v':=.bool false) (fun d' e=>by cases e;exact hdk) (.bool _);refine hR .normal _ _ _ _ _ (he V s hi hnd hall hV) ⟨m1,F1,σ1,_,ι1,c1,((c2.other b9k (.tuple #[.bool false])).other c0d (.bool false)),c3,hE,⟨hS.1,e2⟩,fun y hy=>?_⟩;simp only [keeps,Bool.and_eq_true,hops,List.all_cons] at hy;obtain ⟨y1,y2,_,⟨⟨y3,y4⟩,y5⟩⟩:=hy;simp only [List.all_nil,Bool.and_true,Bool.and_eq_true,bne_iff_ne,ne_eq,Option.some.injEq] at y1 y2 y3;show Cj (P7 (P7 t1 dn _) dk _) y=_;rw [Df,if_neg y2.2.1,Df,if_neg y2.1];exact hkp y (fun e=>y1.1 e.symm) (fun e=>y1.2.1 e.symm) (fun e=>y2.1 e.symm) (fun e=>y2.2.1 e.symm) (fun e=>y3 e.symm) y4 y5
   ·
    have hem:=Zg.1 hel;obtain ⟨i,hil,hei⟩:=cK.1 hem.1;have hei':es1.toList[i]?=some e:=by rw [ai hil,hei]
    have hbi:=hborn hei';obtain ⟨ea,hea,hka,hba,hpl,hva⟩:=nN gU hei';have hic:i<cs.length:=by rw [gU.len,hlen1] at hil;exact hil
    have hni:i∉V:=by rw [← hbi];exact hem.2
    have hw3:(V.toArray.push e.born)=(V++[i]).toArray:=by rw [hbi];simp
    rw [hw3] at hrun;rw [b4z] at hrun;have hS3:=a6d (o':=.mapIter (some ib.blk) cs.length (V++[i]).toArray cs.length) hS.1 hdr hob rfl (fun es c hc=>by cases hc);have hE3:=a4w hE hdr (ab _) (.mapIter (some ib.blk) cs.length (V++[i]).toArray cs.length);have hh2:w2.heap=w1.heap:=by rcases hdr with rfl|rfl<;>rfl
    have hl0:w.heap.size<w1.heap.size:=(al.1 hob).1;have c0r:(setBlock w2 w.heap.size (.mapIter (some ib.blk) cs.length (V++[i]).toArray cs.length)).heap[w.heap.size]?=some (.mapIter (some ib.blk) cs.length (V++[i]).toArray cs.length):=by
     show (w2.heap.setIfInBounds _ _)[_]?=_;rw [hh2,Array.getElem?_setIfInBounds_self_of_lt hl0]
    have c3o:ib.blk≠w.heap.size:=fun e=>by have:=(hst.1.dom rr ib hib).2;omega
    have hes3:(setBlock w2 w.heap.size (.mapIter (some ib.blk) cs.length (V++[i]).toArray cs.length)).heap[ib.blk]?=some (.map es1 clock1):=by
     show (w2.heap.setIfInBounds _ _)[_]?=_;rw [hh2,eV (fun e=>c3o e.symm)];exact hes1
    generalize setBlock w2 w.heap.size (.mapIter (some ib.blk) cs.length (V++[i]).toArray cs.length)=w3 at *;refine Z4 (v':=.tuple #[.bool true,e.key,e.val]) (w':=w3) rfl (fun c hc=>by cases hc) (by simp only [execOp];rw [hiv];exact He hrun) ?_;refine Z4 (v':=.bool true) (w':=w3) rfl (fun c hc=>by cases hc) (XF (vs:=#[.bool true,e.key,e.val]) (by rw [OE (by rw [hsz hS];exact hdn),if_pos rfl]) rfl) ?_;have hsz2:(a1.put (some dn) (.tuple #[.bool true,e.key,e.val])).tmps.size=n:=by
     show (a1.tmps.setIfInBounds dn _).size=n;rw [ep];exact hsz hS
    show (Code.seq _ _).wpIn _ _ _ _ _ _;refine wpIn_seq (wpIn_cond_true (by rw [OE (by rw [hsz2];exact hdk),if_pos rfl]) (wpIn_skip ?_));show (Code.block _ _).wpIn _ _ _ _ _ _;refine wpIn_block (wpIn_seq (wpIn_region_list ?_));rw [hops];have hkey:Aw ι1 m1.gen ea.key e.key:=by rw [hka];exact Aw.plain hpl
    have e1:RU [] ι1 m1.gen n (H7 t1 (some dn) (.tuple ⟨[.bool true,ea.key,ea.val]⟩)) (a1.put (some dn) (.tuple #[.bool true,e.key,e.val])):=hS.2.put (fun d' e=>by cases e;exact hdn) (.tuple _ [.bool true,e.key,e.val] rfl fun i hi=>by
     have:i=0∨i=1∨i=2:=by simp at hi;omega
     rcases this with rfl|rfl|rfl
     ·exact .bool _
     ·exact hkey
     ·exact hva)
    have e2:=e1.put (dst:=some dk) (v:=.bool true) (v':=.bool true) (fun d' e=>by cases e;exact hdk) (.bool _);have hsz3:((a1.put (some dn) (.tuple #[.bool true,e.key,e.val])).put (some dk) (.bool true)).tmps.size=n:=e2.size;have c3k:((a1.put (some dn) (.tuple #[.bool true,e.key,e.val])).put (some dk) (.bool true)).eval (.tmp d)=.pointer (some ⟨w.heap.size,0,none⟩):=by
     rw [OE (by rw [hsz2];exact hdk),if_neg hn4,OE (by rw [hsz hS];exact hdn),if_neg hn2];exact hiv
    refine Z4 (v':=.tuple #[e.key,e.val]) (w':=w3) rfl (fun c hc=>by cases hc) (by
     simp only [execOp];rw [c3k];refine He (run_entry_at w3 w.heap.size ib.blk cs.length V.toArray es1 clock1 e ?_ hes3 hem.1 ?_)
     ·rw [hw3,b4z];exact c0r
     ·rw [YW gU,g7.1];exact gh) ?_
    have e3:=e2.put (dst:=some de) (v:=.tuple ⟨[ea.key,ea.val]⟩) (v':=.tuple #[e.key,e.val]) (fun d' e=>by cases e;exact hde) (.tuple _ [e.key,e.val] rfl fun i hi=>by
     have:i=0∨i=1:=by simp at hi;omega
     rcases this with rfl|rfl
     ·exact hkey
     ·exact hva)
    have hik:i<ks.length:=by omega
    have hkk:ks[i]?=some ks[i]:=ai hik;have hcc:cs[i]?=some cs[i]:=ai hic;have hrk:RF m1 F1 ks[i] ea.key:=Dj.at g5 hkk (by rw [aD,hea];rfl);have hrc:RP m1 F1 (htag (Hf s)) σ1 Dw cs[i] ea.val:=Dt.at g6 hcc (by rw [aD,hea];rfl);have c4t:RL m1 F1 (htag (Hf s)) σ1 Dw (H8 (Lf s) (some de) (.Eb [.p ks[i],cs[i]])) (H7 (H7 (H7 t1 (some dn) (.tuple ⟨[.bool true,ea.key,ea.val]⟩)) (some dk) (.bool true)) (some de) (.tuple ⟨[ea.key,ea.val]⟩)) :=
     RL.set ((c2.other b9k _).other c0d _) (.Eb (.cons (.p hrk) (.cons hrc .nil)))
    refine hs V s i _ _ hi hnd hni hkk hcc hsn (fun o ho=>ho3 o (av _ ho)) B hB m1 F1 σ1 _ c1 c4t c3 ι1 _ w3 ⟨hS3,e3⟩ _ fun L' H' nx' a' w' q hw=>?_
    obtain ⟨m4,F4,σ4,t4,ι4,d1,d2,d3,hE4,hS4,hk4⟩:=hw.ex;refine q hsn hokr c5c B hB m4 F4 σ4 t4 d1 d2 d3 ι4 a' w' hS4 _ fun e5 L5 H5 nx5 a5j w5 q5 hw5=>?_
    obtain ⟨m6,F6,σ6,t6,ι6,x1,x2,x3,hE6,hS6,hk6⟩:=hw5.ex;have c0p:=Ext.trans hS3 hE4 hE6;have hE0:=Ext.trans hst.1 hE3 c0p;have c5n:=a8i hS3 c0p c0r rfl (fun es c hc=>by cases hc);have ht6:∀ y,y≠dn→y≠dk→y≠de→UK y tl=true→keeps y rest=true→Cj t6 y=Cj t1 y:=fun y y1 y2 y3 y4 y5=>by
     rw [hk6 y y5,hk4 y y4];simp only [H7];rw [Df,if_neg (fun e=>y3 e.symm),Df,if_neg (fun e=>y2 e.symm),Df,if_neg (fun e=>y1 e.symm)]
    have hd6:Cj t6 d=.iface 0 (.int .i64 w.heap.size):=by rw [ht6 d (fun e=>hn2 e.symm) (fun e=>hn4 e.symm) (fun e=>hn6 e.symm) hkd.1.2 hkd.2];exact hit
    have hm6:Cj t6 d0=.map (some rr):=by
     have:de≠d0:=fun e=>by
      have:=hk0.1.1;simp [e] at this
     rw [ht6 d0 (fun e=>hn3 e.symm) (fun e=>hn5 e.symm) (fun e=>this e.symm) hk0.1.2 hk0.2];exact hmp
    have b8v:∀ y,y≠d0→y≠d→y≠dn→y≠dk→y≠de→UK y tl=true→keeps y rest=true→Cj t6 y=Cj t y:=fun y y1 y2 y3 y4 y5 y6 y7=>(ht6 y y3 y4 y5 y6 y7).trans (hkp y y1 y2 y3 y4 y5 y6 y7)
    have hout:∀ y,keeps y (.seq (.region r1 #[⟨some d0,.move x,aa1,p1,f1,none⟩,⟨some d,.range T (.tmp d0),a2,p2,f2,none⟩] false)
     (.block id (.loop (.seq (.region r2 #[⟨some dn,.next (.tmp d) false,a3,p3,f3,none⟩,⟨some dk,.extract (.tmp dn) 0,a4,p4,f4,none⟩] false) (.seq (.cond (.tmp dk) .skip (.exit id)) (.block id2 (.seq (.region r3 ops3 false) rest)))))))=true→Cj t6 y=Cj t y:=fun y hy=>by
     simp only [keeps,Bool.and_eq_true,hops,List.all_cons] at hy;obtain ⟨y1,y2,_,⟨⟨y3,y4⟩,y5⟩⟩:=hy;simp only [List.all_nil,Bool.and_true,Bool.and_eq_true,bne_iff_ne,ne_eq,Option.some.injEq] at y1 y2 y3;exact b8v y (fun e=>y1.1 e.symm) (fun e=>y1.2.1 e.symm) (fun e=>y2.1 e.symm) (fun e=>y2.2.1 e.symm) (fun e=>y3 e.symm) y4 y5
    have fin:∀ e',Aj (fun L' H' nx'=>∃ s',inv (V++[i]) s'∧YR L' H' nx' (Lf s') (Hf s') Dw) (Bd id Q) e' L5 H5 nx5→Exit.then (Code.roundsIn Fence.wide 0 E.P (.seq (.region r2 #[⟨some dn,.next (.tmp d) false,a3,p3,f3,none⟩,⟨some dk,.extract (.tmp dn) 0,a4,p4,f4,none⟩] false) (.seq (.cond (.tmp dk) .skip (.exit id)) (.block id2 (.seq (.region r3 ops3 false) rest)))) (Exit.inBlock id R) N) (Exit.inBlock id R) e'.toExit a5j w5:=fun e' qq=>by
     cases e' with
     |normal =>
      obtain ⟨s',i1,i2⟩:=qq;have hnd':(V++[i]).Nodup:=ez.2 ⟨hnd,by simp,fun a ha b hb=>by
       rw [aR] at hb;subst hb;exact fun e=>hni (e▸ha)⟩
      refine ih (V++[i]) s' i1 hnd' (fun j hj=>?_) (by rw [az];show _<N+(V.length+1);omega) m6 F6 σ6 t6 ι6 a5j w5 (i2.ctx x1) (i2.rl x2) (i2.step (by omega) x3) hE0 hS6 hd6 hm6 c5n b8v;rcases bq.1 hj with h|h
      ·exact hV j h
      ·rw [aR] at h;omega
     |ret=>exact hR .ret L5 H5 nx5 a5j w5 qq ⟨m6,F6,σ6,t6,ι6,x1,x2,x3,hE0,hS6,fun y hy=>hout y hy⟩
     |exit j =>
      show (if j=id then _ else _);simp only [Aj,Bd] at qq;split
      ·rename_i e;rw [if_pos e] at qq
       exact hR .normal L5 H5 nx5 a5j w5 qq ⟨m6,F6,σ6,t6,ι6,x1,x2,x3,hE0,hS6,fun y hy=>hout y hy⟩
      ·rename_i e;rw [if_neg e] at qq
       exact hR (.exit j) L5 H5 nx5 a5j w5 qq ⟨m6,F6,σ6,t6,ι6,x1,x2,x3,hE0,hS6,fun y hy=>hout y hy⟩
    cases e5 with
    |normal=>exact fin .normal q5
    |ret=>exact fin .ret q5
    |exit j =>
     show (if j=id2 then _ else _);simp only [Bd] at q5;split
     ·rename_i e;rw [if_pos e] at q5;exact fin .normal q5
     ·rename_i e;rw [if_neg e] at q5;exact fin (.exit j) q5
 refine key (cs.length+1) [] s0 h0 cB (fun i hi=>by cases hi) (by simp) m F σ _ ι _ _ (hc.ctx h1) (hc.rl c4m) (hc.step (by omega) h3) (VY (Ext.refl _ _ _) hbel) hst1 ?_ ?_ ?_ fun y y1 y2 _ _ _ _ _=>?_
 ·rw [Df,if_pos rfl]
 ·rw [Df,if_neg (fun e=>hn1 e.symm),Df,if_pos rfl]
 ·rw [heap_alloc_new,c4g]
 ·rw [Df,if_neg (fun e=>y2 e.symm),Df,if_neg (fun e=>y1 e.symm)]
end Go.Vm
namespace Go.Vm
section
open Go.Am
variable {E:Env} {n bn:Nat} {L:Frame} {H:Heap} {nx:Nat}
def Jj (E:Env) (g:FuncId) (xs:List FV) (r:PV):Prop:=Gp E g (xs.map .p) [] 0 fun r' H' nx'=>r'=r∧H'=[]∧nx'=0
theorem Jj.enter {f:FuncId} {fn:Func} {c:Code} {xs:List FV} {r:PV} (hf:E.P.funcs[f]?=some fn) (hb:fn.body=some c) (hok:IL E.G fn c=true) (hfl:flat c=true) (hn:xs.length≤fn.ntmps)
 (h:Bc E fn.ntmps 0 c (CG 0 (xs.map .p)) [] 0 (Done E.P fn.results.toList 0 fun r' H' nx'=>r'=r∧H'=[]∧nx'=0)):Jj E f xs r:=Gp.enter hf hb hok hfl (by grind) h
theorem BX.qg {ops:Array Oper} {l:List Oper} {R:Frame→Heap→Nat→Prop} {dst:Option Tmp} {ty:TypeId} {pos:String} {af:Array Edge} {fo:Operand} {args:Array Operand} {aT:Array TypeId} {g:FuncId} {xs:List FV} {Qc:PV→Heap→Nat→Prop}
 (hent:Enters E.P g) (hf:AU E.Γ L fo=some (.clo g [] [])) (ha:evF E.Γ L args.toList=some xs) (hc:Gp E g (xs.map .p) [] 0 Qc)
 (hq:∀ r H' nx',Qc r H' nx'→BX E n bn ops l (H8 L dst (r.rn (rho [] nx))) (news 0 (rho [] nx) H' H) (nx+nx') R):BX E n bn ops (⟨dst,.call { callee:=.value fo,args:=args,argTypes:=aT },ty,pos,af,none⟩::l) L H nx R:=by
 refine BX.ZW (ns:=[]) (Hc:=[]) (BF:=xs.map .p) (ac:=xs.map .p) hent hf (Yz ha) ?_ (C9.Bj _ _) trivial trivial cB (by simp) hc fun r H' nx' q=>?_
 ·rw [C9.jI,fa,cT];exact .refl _
 ·rw [Rt];grind
theorem BX.fn {ops:Array Oper} {l:List Oper} {R:Frame→Heap→Nat→Prop} {dst:Option Tmp} {ty:TypeId} {pos:String} {af:Array Edge} {fo:Operand} {args:Array Operand} {aT:Array TypeId} {g:FuncId} {xs:List FV} {r:PV}
 (hf:AU E.Γ L fo=some (.clo g [] [])) (ha:evF E.Γ L args.toList=some xs) (hc:Jj E g xs r) (hent:Enters E.P g) (hr:∀ ρ,r.rn ρ=r) (q:BX E n bn ops l (H8 L dst r) H nx R):BX E n bn ops (⟨dst,.call { callee:=.value fo,args:=args,argTypes:=aT },ty,pos,af,none⟩::l) L H nx R :=
 BX.qg hent hf ha hc fun r' H' nx' ⟨h1,h2,h3⟩=>by subst h1;subst h2;subst h3;rw [hr];exact q
theorem Bc.Je {b:Code} {Q:BM→Frame→Heap→Nat→Prop} (N:Nat) (L0:Frame) (H0:Heap) (Lf:Nat→Frame→Frame) (Hf:Nat→Heap→Heap) (Dw:Nat) (hb:bn≤Dw) (hn:Dw≤nx) (h1:Gq Dw (Lf 0 L0) L) (h2:BG Dw (Hf 0 H0) H)
 (hs:∀ k,k<N→Bc E n bn b (Lf k L0) (Hf k H0) Dw (Aj (fun L' H' nx'=>Dw≤nx'∧Gq Dw (Lf (k+1) L0) L'∧BG Dw (Hf (k+1) H0) H') Q))
 (he:Bc E n bn b (Lf N L0) (Hf N H0) Dw (Aj (fun _ _ _=>False) Q)):Bc E n bn (.loop b) L H nx Q :=
 Bc.D6 (fun k=>Lf k L0) (fun k=>Hf k H0) Dw (fun k=>k≤N) (fun k=>N-k) 0 hb (aq _) ⟨hn,h1,h2⟩ fun k hk=>by
  rcases ax k N with h|h
  ·refine (hs k h).mono fun e L' H' nx' q=>?_
   cases e with
   |normal=>exact ⟨k+1,h,by omega,⟨q.1,q.2.1,q.2.2⟩⟩
   |ret=>exact q
   |exit i=>exact q
  grind
end
section
open Go.Am Go.ChangeShapes Go.WideShapes Go.ChangeAt Go.WideMaps Go.WideElems
variable {P:Program} {H:Type} {enc:TypeId×Value→H} {W:World} {held:Bool}
theorem c0f {r:Go.Reach} {b0 F:Nat} {laid:List (String×DataW Unit)} {O:CB} {f:FuncId} {ts:List TypeId} {args:Array Value} {ds:List (DataW H)} {ps:List MemPlace}
 (hL:laidMet P laid W) (hA:DataW.TrodAll enc P W 0 (fun _=>true) held ts args.toList ds ps) (hv:∀ (j:Nat) t v,ts[j]?=some t→args.toList[j]?=some v→Value.okWide P W r b0 t v)
 (qw:P.follows .mixedOrders=true) (hty:ts.all (Vt P F)=true)
 (hO:Gu P (AP P F laid) O)
 (hp:∀ j vY xs,a4r P (j+F) ts vY→Hr (fun (tf:TypeId×List FV) x=>Xe P tf.1 tf.2=some x) (ts.zip vY) xs→Jj (EY P F laid O) f xs (.p (.bool true))) :
 Calls P f args W fun e W'=>e=.returned (.bool true)∧Go.RowKit.Below W.heap.size W W':=by
 obtain ⟨N,hN⟩:=a4l ts _ ds ps hA;obtain ⟨j,hj⟩:∃ j,max N F=j+F:=⟨max N F-F,by omega⟩
 obtain ⟨BF,m1,vY,xs,q1,q2,q3,q4,q5,q6⟩:=Vq ts _ ds (fun t ht=>zf (by omega) (aL.1 hty t ht)) (hN (max N F) (by omega)) (Bv P F laid);rw [hj] at q2;have XT:Ctx (EY P F laid O).Γ m1 (fun c=>c<m1.size) (fun _=>undef) [] 0:=by
  refine ⟨fun _ h=>h,fun b x hb=>(by cases hb),fun b b' x x' c hb=>(by cases hb),fun g vs e hg=>?_⟩;simp only [EY,gam] at hg;split at hg
  ·rename_i hlt
   simp only [Option.map_eq_some_iff,Prod.mk.injEq] at hg;obtain ⟨⟨e',l⟩,h1,rfl,rfl⟩:=hg;have hlt':g<(Bv P F laid).size:=by rw [Um];exact hlt
   exact ⟨by omega,by rw [q6 g hlt',IG hlt,h1],Uk h1⟩
  ·cases hg
 obtain ⟨ι,hs,hro⟩:=eX (F:=F) hL;obtain ⟨ι1,o1,o2,o3,o4⟩:=VL ts _ ds ps hA hv ι _ m1 BF hs hro q1;refine (hp j vY xs q2 q3 ⟨hO,qw⟩ m1 _ _ BF XT (Dt.rF q4) ι1 W args o1 o4).mono fun e W' ⟨v',he,r0,H',nx',m',F',σ',v,ι2,hq,_,hrv,_,hx,hs2,PE⟩=>?_
 obtain ⟨rfl,_,_⟩:=hq;have hv1:v=.bool true:=by cases hrv with|p h=>cases h;rfl
 subst hv1;have:=PE.BP (v:=.bool true) rfl;subst this;exact ⟨he,⟨hx.os,hx.tape,hx.output,hx.heap,fun c hcl=>hx.frame c hcl fun b ib hb _=>.inl (o3 b (o1.dom b ib hb).1)⟩⟩
end
section
open Go.Am
theorem Aa.b3f {E:Env} {L:Frame} {H:Heap} {nx:Nat} {Q:PV→Heap→Nat→Prop} {w:Bool} {dst:Option Tmp} {ty:TypeId} {pos:String} {af:Array Edge} {gd:Option (Nat×Bool)} {α:Type} {_:Enc α} {t:TypeId} {x ix:Operand} {e:TypeId} {l:List α} {b n j:Nat} {z:Bool} {k:IntKind} {i:Nat} (hx:AU E.Γ L x=some (.vec b n 0 j)) (hb:hget H b=some (.vec e (cells l) n z)) (hi:AU E.Γ L ix=some (.p (.int k (i:Int))))
 (hs:elemSize E.P t=some (Enc.size α)) (h1:i<j) (q:Q (.EH b n (i*Enc.size α)) H nx):Aa E w ⟨dst,.indexAddr t x ix,ty,pos,af,gd⟩ L H nx Q :=
 Aa.a8p hx hb hi hs (by omega) (by omega) (by grind)
end
section
open Go.Am
def Hold (p:Prop):Prop:=p
theorem Hold.of {p:Prop} (h:Hold p):p:=h
theorem Hold.go {p:Prop} (h:p):Hold p:=h
theorem BX.Gz {E:Env} {n bn:Nat} {L:Frame} {H:Heap} {nx:Nat} {ops:Array Oper} {l:List Oper} {R:Frame→Heap→Nat→Prop} {op:Op} {ty:TypeId} {pos:String} {af:Array Edge} (d:Tmp) (h:BX E n bn ops (⟨some d,op,ty,pos,af,none⟩::l) L H nx R):BX E n bn ops (⟨some d,op,ty,pos,af,none⟩::l) L H nx R:=h
end
end Go.Vm
namespace Go.Proofs.YtnjkoebfgcbbdaaGreatDoor
open Go Go.Am Go.Vm Go.Pie Go.Sch
attribute [local irreducible] Aa Ah Af Ad Az Ai Ba Bq Bd Aj Vm.Done Bg AB RN Bc BX Ew Jj Gp Hold
attribute [local irreducible] BR A8 DJ Dx DX AV Cc
def FU (O:List (List Int)) (m:Nat) (j:Nat):List (List Int):=O++(O.take j).map fun x=>x.set m 1
theorem a0q (O:List (List Int)) (m:Nat):FU O m 0=O:=by simp [FU]
theorem a6s (O:List (List Int)) (m:Nat):FU O m O.length=O++O.map fun x=>x.set m 1:=by simp [FU]
theorem eY (O:List (List Int)) (m:Nat) {j:Nat} (h:j<O.length):FU O m (j+1)=FU O m j++[(gi O j).set m 1]:=by
 unfold FU;rw [ED h,bk,← cA];rfl
theorem qJ (O:List (List Int)) (m:Nat) {j:Nat} (h:j≤O.length):(FU O m j).length=O.length+j:=by
 unfold FU;grind
theorem b0x (O:List (List Int)) (m j:Nat) {i:Nat} (h:i<O.length):gi (FU O m j) i=gi O i:=by
 unfold FU gi;grind
def ow (L:List (List Int)):List OwL:=L.map OwL.mk
theorem tZ (L:List (List Int)):(ow L).length=L.length:=by simp [ow]
theorem VH (L R:List (List Int)):ow (L++R)=ow L++ow R:=by simp [ow]
theorem b4a (L:List (List Int)) {i:Nat} (h:i<L.length):gi (ow L) i=⟨gi L i⟩:=by
 unfold ow gi;grind
theorem cells_at (l:List Int) {i:Nat} (h:i<l.length):(cells l)[i]?=some (.int .i64 (gi l i)):=by
 have:∀ l:List Int,cells l=l.map fun x=>FV.int .i64 x:=by
  intro l
  induction l with
  |nil=>rfl
  |cons a l ih=>rw [bz,← ih];rfl
 unfold gi;grind
theorem yK (L:List (List Int)) (m j:Nat):(cells (ow (FU L m j))).take (L.length*1)=cells (ow L):=by
 have h:∀ R:List OwL,cells R=R.map fun x=>FV.own 3 (cells x.l) x.l.length:=by
  intro R
  induction R with
  |nil=>rfl
  |cons a l ih=>rw [bz,← ih];rfl
 unfold FU;rw [VH,h,h,bk,gz,List.take_append_of_le_length (by simp [ow]),cU (by simp [ow])]
theorem a1c (q:Qu) (hq:Na q) {t:Nat} (ht:t<(BN q.p).length) {l:List Int} (hl:a2o q t l) {k:Nat} (hk:k<kQ q t) (hn:MZ q t k=true) {x:List Int} (hx:x∈FW (MZ q t) (fQ q t) l k):x.length=q.p.notes.length∧gi x (fQ q t k)=0:=by
 have hS:=Xf q hq;have hll:=hl.len;have hr:=hS.rng t ht k hk;have hm:=(Nq (nw:=MZ q t) (f:=fQ q t) (l:=l) k (fun j j' h h'=>hS.inj t ht j j' (by omega) (by omega)) (fun j hj=>by rw [hll];exact hS.rng t ht j (by omega)) (fun j hj=>hl.zero j (by omega)) x).1 hx;refine ⟨hm.1.trans hll,?_⟩;rw [(hm.2 _ (by omega)).2 fun ⟨j,h1,_,h3⟩=>by
  have:=hS.inj t ht j k (by omega) hk h3;omega]
 exact hl.zero k hk hn
theorem a2u (q:Qu) (hq:Na q) {t:Nat} (ht:t<(BN q.p).length) {l:List Int} (hl:a2o q t l) {x:List Int} (hx:x∈FW (MZ q t) (fQ q t) l (kQ q t)):x.length=q.p.notes.length:=by
 have hS:=Xf q hq;have hll:=hl.len;have hm:=(Nq (nw:=MZ q t) (f:=fQ q t) (l:=l) (kQ q t) (hS.inj t ht) (fun j hj=>by rw [hll];exact hS.rng t ht j hj) hl.zero x).1 hx;omega
theorem b4k:∀ L:List (List Int),FK (cells (ow L)) (cells L)
 |[]=>.refl _
 |a::L=>.cons .own (b4k L)
theorem b1k {L:Vm.Frame} {H:Vm.Heap} {nx:Nat} {Q:PV→Vm.Heap→Nat→Prop} {dst:Option Tmp} {ty:TypeId} {pos:String} {af:Array Edge} {gd:Option (Nat×Bool)} {fo:Operand} {args:Array Operand} {aT:Array TypeId} {fs cs xs:List PV} {c:Code}
 (hf:AU env.Γ L fo=some (.clo 88 fs cs)) (ha:evs env.Γ L args.toList=some xs) (hb:Tryz.f88.body=some c) (hn:(fs++xs++cs).length≤Tryz.f88.ntmps)
 (h:Ad env nx c (CG 0 (fs++xs++cs)) H nx (AB env.P Tryz.f88.results.toList Q)):Aa env true ⟨dst,.call { callee:=.value fo,args:=args,argTypes:=aT },ty,pos,af,gd⟩ L H nx Q:=by
 have h0:(match Tryz.f88.body with|some c=>IL env.G Tryz.f88 c|none=>false)=true:=by kernel_rfl
 rw [hb] at h0;exact Aa.inline rfl hf ha (Ae (by decide)) Tryz.func88 hb h0 hn h
theorem b2f {L:Vm.Frame} {H:Vm.Heap} {nx:Nat} {Q:PV→Vm.Heap→Nat→Prop} {dst:Option Tmp} {ty:TypeId} {pos:String} {af:Array Edge} {gd:Option (Nat×Bool)} {fo:Operand} {args:Array Operand} {aT:Array TypeId} {fs cs xs:List PV} {c:Code}
 (hf:AU env.Γ L fo=some (.clo 127 fs cs)) (ha:evs env.Γ L args.toList=some xs) (hb:Tryz.f127.body=some c) (hn:(fs++xs++cs).length≤Tryz.f127.ntmps)
 (h:Ad env nx c (CG 0 (fs++xs++cs)) H nx (AB env.P Tryz.f127.results.toList Q)):Aa env true ⟨dst,.call { callee:=.value fo,args:=args,argTypes:=aT },ty,pos,af,gd⟩ L H nx Q:=by
 have h0:(match Tryz.f127.body with|some c=>IL env.G Tryz.f127 c|none=>false)=true:=by kernel_rfl
 rw [hb] at h0;exact Aa.inline rfl hf ha (Ae (by decide)) Tryz.func127 hb h0 hn h
theorem UD (q:Qu) (hq:Na q) (t:Nat) (ht:t<(BN q.p).length) (hM:kQ q t≤12) (l:List Int) (hl:a2o q t l) :
 Jj env 41 [.agg (Enc.enc q),.agg (Enc.enc (Nv q t)),.lst 3 (cells l) l.length] (.p (.lst 28 (cells (lH q t l)) (lH q t l).length)):=by
 have n1:=hq.p.notes;have hll:=hl.len;have hcl:=sK l (by omega);have hN:tJ q (Nv q t).notes:=Tj ht;have hNl:(Nv q t).notes.length≤1000:=jr hq ht;have hm:=Uw q hq (Nv q t) hN hNl;have hat:=fun j hj=>N7 q ht (j:=j) hj
 have hK:kQ q t=(Jf q (Nv q t).notes).length:=rfl;have hnw:∀ j,MZ q t j=b0f q (Nv q t) (gi (Jf q (Nv q t).notes) j):=fun j=>rfl
 have hMg:Jf q (J6 q t)=Jf q (Nv q t).notes:=rfl;rw [hMg] at hat;have hzero:=hl.zero;unfold lH uz;rw [hK] at hat hM hzero ⊢;have hOl:∀ k,k≤(Jf q (Nv q t).notes).length→1≤(FW (MZ q t) (fQ q t) l k).length∧(FW (MZ q t) (fQ q t) l k).length≤4096:=fun k hk=>by
  obtain ⟨g1,g2⟩:=ZL (MZ q t) (fQ q t) l k;exact ⟨g1,an g2 (aE (by decide) (show k≤12 by omega))⟩
 have hOx:∀ k,k<(Jf q (Nv q t).notes).length→MZ q t k=true→∀ j,j<(FW (MZ q t) (fQ q t) l k).length→(gi (FW (MZ q t) (fQ q t) l k) j).length=q.p.notes.length∧gi (gi (FW (MZ q t) (fQ q t) l k) j) (fQ q t k)=0:=fun k hk hn j hj=>a1c q hq ht hl hk hn (EX hj)
 have c1j:∀ x∈FW (MZ q t) (fQ q t) l (Jf q (Nv q t).notes).length,x.length=q.p.notes.length:=fun x hx=>a2u q hq ht hl hx
 generalize Jf q (Nv q t).notes=M at *;refine Jj.enter Tryz.func41 rfl (by kernel_rfl) (by kernel_rfl) (by simp [Tryz.ntmps41]) ?_
 repeat' (first|apply Bc.Bf|apply Bc.to|apply Bc.block|(apply Aa.fn;rfl;rfl;exact hcl;intro _;rfl)|(apply Aa.fn;rfl;rfl;exact hm;intro _;rfl)|refine go1 ?_|(apply Aa.buildSlice;rfl;rfl;rfl;decide;rfl;rfl;rfl))
 all_goals try (exfalso;omega)
 apply Bc.Je (M.length) [(3,_),(4,_),(18,_),(19,_)] [(0,_),(1,_)] (fun k r=>(20,.p (.int .i64 (k:Int)))::(7,.vec 2 (FW (MZ q t) (fQ q t) l k).length 0 (FW (MZ q t) (fQ q t) l k).length)::r) (fun k r=>(2,.vec 28 (cells (ow (FW (MZ q t) (fQ q t) l k))) (FW (MZ q t) (fQ q t) l k).length false)::r) 3
 ·first|omega|decide
 ·first|omega|decide
 ·exact SS
 ·exact Ws
 ·intro k hk
  obtain ⟨m,g1,g2,g3,g4,g5⟩:=hat k hk;have hOk:=hOl k (by omega);have c1s:=hOx k hk;have e1:FW (MZ q t) (fQ q t) l (k+1)=if MZ q t k=true then FW (MZ q t) (fQ q t) l k++(FW (MZ q t) (fQ q t) l k).map (fun x=>x.set (fQ q t k) 1) else FW (MZ q t) (fQ q t) l k:=rfl
  have hnk:=hnw k;rw [g2] at e1 c1s;rw [g1] at hnk;rw [e1];clear hOx hOl;generalize FW (MZ q t) (fQ q t) l k=O at *;by_cases hn:(gi q.p.notes m).s=(Nv q t).s
  ·have hn1:MZ q t k=true:=by rw [hnk];exact decide_eq_true hn
   rw [if_pos hn1];have hOx:=c1s hn1
   repeat' (first|apply Bc.Bf|apply Bc.Bl|apply Ew.normal|apply Bc.to|apply Bc.block|apply Bc.skip|(apply Bc.Aq;rfl)|(apply Aa.Ap (l:=q.p.notes) (i:=m);rfl;exact congrArg (fun b=>some (PV.p (.int .i64 b))) g1;rfl;omega;rfl)|(apply Aa.Ap;rfl;rfl;rfl;omega;rfl)|(apply Aa.lenV;rfl;rfl;rfl)|refine go1 ?_|(apply Aa.int;rfl;rfl;rfl)|(intro _;try (exfalso;omega)))
   all_goals try (exfalso;omega)
   all_goals try contradiction
   refine Bc.D6 (fun s:Nat×Bool=>[(3,.ref 0 0),(4,.ref 1 0),(18,.p (.lst 3 (cells M) M.length)),(19,.p (.int .i64 (M.length:Int))),(20,.p (.int .i64 (k:Int))),(9,.p (.int .i64 (gi M k))),(34,bif s.2 then .vec 2 (O.length+s.1) 0 O.length else .p (.lst 28 (cells (ow O)) O.length)),(35,.p (.int .i64 (O.length:Int))),(36,.p (.int .i64 (s.1:Int))),(7,.vec 2 (O.length+s.1) 0 (O.length+s.1))])
    (fun s=>[(0,mV q),(1,slB (Nv q t)),(2,.vec 28 (cells (ow (FU O m s.1))) (O.length+s.1) false)]) 3 (fun s=>s.1≤O.length) (fun s=>O.length-s.1) (0,true) (by decide) (aq _) ⟨by decide,?_,?_⟩ ?_
   ·exact Dy
   ·simp only [a0q]
    exact Ey
   rintro ⟨j,att⟩ hj;simp only at hj ⊢;by_cases hjl:j<O.length
   ·obtain ⟨x1,x2⟩:=hOx j hjl
    have hgj:gi (ow (FU O m j)) j=⟨gi O j⟩:=by rw [b4a _ (by rw [qJ O m (by omega)];omega),b0x _ _ _ hjl]
    have hgo:gi (ow O) j=⟨gi O j⟩:=b4a _ hjl;have b1q:=J4 (gi O j) (by omega) (by omega);have hz:(cells (gi O j))[m]?=some (.int .i64 0):=by rw [cells_at _ (by omega),x2]
    have hlr:=qJ O m (j:=j) (by omega);have d0q:=tZ O;have hroom:(ow (FU O m j)).length=O.length+j:=by rw [tZ,hlr]
    cases att
    ·have hy:gi O j=(gi (ow O) j).l:=by rw [hgo]
     have e2:ow (FU O m (j+1))=ow (FU O m j)++[⟨(gi (ow O) j).l.set m 1⟩]:=by rw [eY O m hjl,VH,← hy];rfl
     rw [hy] at b1q hz x1
     repeat' (first|(refine Bc.at 10 ?_;apply Bc.Qk)|(refine Bc.atEnd 11 ?_;refine Bc.ghost (Ar.Ri 12 rfl rfl) ?_;first|apply Bc.region|apply Bc.Dq)|(refine Ah.Gz 41 ?_;refine Ah.ghost (Ar.le 40 (v0:=.p (.lst 3 (cells (gi (ow O) j).l) (gi (ow O) j).l.length)) rfl (.p .own)) ?_)|((apply BX.rM (i:=m);rfl;exact congrArg (fun b=>some (PV.p (.int .i64 b))) g1;rfl;omega;exact hz;rfl;rfl;rfl))|apply Bc.Bf|apply Bc.region|apply Ew.normal|apply Bc.to|apply Bc.block|apply Bc.skip|(apply Bc.Aq;rfl)|apply BX.nil|apply BX.one|apply Bd.normal|apply Ah.nil|apply Ah.one|(apply Aa.Ap (l:=ow O) (i:=j);rfl;rfl;rfl;omega;exact tZ O)|(apply Aa.Dk (l:=ow (FU O m j)) (a:=OwL.mk ((gi (ow O) j).l.set m 1));rfl;rfl;rfl;rfl;exact congrArg (fun n=>[FV.own 3 (cells ((gi (ow O) j).l.set m 1)) n]) List.length_set.symm;exact hroom;rfl;rfl;(intro _ h;cases h);rfl;rfl;rfl;decide;decide;omega)|(apply Aa.fv;rfl;rfl;exact b1q)|(apply Aa.Di (l:=(gi (ow O) j).l) (i:=m);rfl;rfl;exact congrArg (fun b=>some (PV.p (.int .i64 b))) g1;rfl;omega)|(apply Aa.JQ (l:=(gi (ow O) j).l) (i:=m) (y:=(1:Int));rfl;rfl;rfl;trivial;rfl;rfl;rfl;decide;omega)|(apply Aa.assign;rfl)|(apply Aa.move;rfl)|(apply Aa.Jl;rfl;rfl;omega)|(apply Aa.int;rfl;rfl;rfl)|(apply Aa.load;rfl;rfl)|(apply Aa.buildSlice;rfl;rfl;rfl;decide;rfl;rfl;rfl)|(intro _;try (exfalso;omega)))
     all_goals try (exfalso;omega)
     have e3:O.length+(j+1)=(ow (FU O m j)).length+1:=by omega
     refine Aj.normal ⟨(j+1,false),by show j+1≤O.length;omega,by show O.length-(j+1)<O.length-j;omega,⟨by decide,?_,?_⟩⟩
     ·dsimp only
      rw [e3];exact Dy
     ·dsimp only
      rw [e3,e2];exact Ey
    ·have hy:gi O j=(gi (ow (FU O m j)) j).l:=by rw [hgj]
     have e2:ow (FU O m (j+1))=ow (FU O m j)++[⟨(gi (ow (FU O m j)) j).l.set m 1⟩]:=by rw [eY O m hjl,VH,← hy];rfl
     rw [hy] at b1q hz x1;have e4:cells (ow (FU O m (j+1)))=cells (ow (FU O m j))++[FV.own 3 (cells ((gi (ow (FU O m j)) j).l.set m 1)) (gi (ow (FU O m j)) j).l.length]:=by
      rw [e2,EG];refine congrArg (fun x=>cells (ow (FU O m j))++x) ?_;show [FV.own 3 (cells ((gi (ow (FU O m j)) j).l.set m 1)) ((gi (ow (FU O m j)) j).l.set m 1).length]=_;rw [bo]
     repeat' (first|(refine Bc.at 10 ?_;apply Bc.Qk)|(refine Ah.Gz 41 ?_;refine Ah.ghost (Ar.le 40 (v0:=.p (.lst 3 (cells (gi (ow (FU O m j)) j).l) (gi (ow (FU O m j)) j).l.length)) rfl (.p .own)) ?_)|((refine Bc.atEnd 11 ?_;refine Bc.ghost (Ar.Ri 12 rfl rfl) ?_;apply Bc.kF))|((refine BX.Gz 51 ?_;refine Hold.of ?_))|((apply BX.rM (i:=m);rfl;exact congrArg (fun b=>some (PV.p (.int .i64 b))) g1;rfl;omega;exact hz;rfl;rfl;rfl))|apply Bc.Bf|apply Ew.normal|apply Bc.to|apply Bc.block|apply Bc.skip|(apply Bc.Aq;rfl)|apply BX.nil|apply BX.one|apply Ah.nil|apply Ah.one|(apply Aa.b3f (l:=ow (FU O m j)) (i:=j);rfl;rfl;rfl;rfl;omega)|(apply Aa.Oo (l:=ow (FU O m j)) (i:=j);rfl;rfl;omega;rfl)|(apply Aa.fv;rfl;rfl;exact b1q)|(apply Aa.Di (l:=(gi (ow (FU O m j)) j).l) (i:=m);rfl;rfl;exact congrArg (fun b=>some (PV.p (.int .i64 b))) g1;rfl;omega)|(apply Aa.JQ (l:=(gi (ow (FU O m j)) j).l) (i:=m) (y:=(1:Int));rfl;rfl;rfl;trivial;rfl;rfl;rfl;decide;omega)|(apply Aa.assign;rfl)|(apply Aa.move;rfl)|(apply Aa.int;rfl;rfl;rfl)|(apply Aa.buildSlice;rfl;rfl;rfl;decide;rfl;rfl;rfl)|(intro _;try (exfalso;omega)))
     all_goals try (exfalso;omega)
     refine Hold.go ?_;refine BX.b2c (r:=34) (i:=_) (k:=1) (xs:=[FV.own 3 (cells ((gi (ow (FU O m j)) j).l.set m 1)) (gi (ow (FU O m j)) j).l.length]) (j:=O.length) (N:=O.length+j) rfl rfl ?_ rfl ?_ ?_ rfl rfl (by intro _ h;cases h) rfl rfl (by decide) ?_ ?_ (by decide) ?_ ?_
     ·refine rY.all rfl rfl ?_
      rfl
     ·omega
     ·omega
     ·exact jP (by omega) (by decide)
     ·rw [CQ,hroom];rfl
     ·repeat' (first|apply Bc.region|apply Ew.normal|apply BX.nil|apply BX.one|refine go1 ?_|fail)
      refine Aj.normal ⟨(j+1,true),by show j+1≤O.length;omega,by show O.length-(j+1)<O.length-j;omega,⟨by decide,?_,?_⟩⟩
      ·dsimp only
       try rw [← yK O m j]
       exact Dy
      ·dsimp only
       rw [e4];exact Ey
     ·repeat' (first|apply Bc.region|apply Ew.normal|apply BX.nil|apply BX.one|refine go1 ?_|fail)
      refine Aj.normal ⟨(j+1,false),by show j+1≤O.length;omega,by show O.length-(j+1)<O.length-j;omega,⟨by decide,?_,?_⟩⟩
      ·dsimp only
       try rw [← yK O m j]
       exact Dy
      ·dsimp only
       rw [e4];exact Ey
   ·have hje:j=O.length:=by omega
    have e5:(O++O.map (fun x=>x.set m 1)).length=O.length+O.length:=by simp
    subst hje
    repeat' (first|apply Bc.Bf|apply Bc.region|apply Ew.normal|apply Ew.exit|apply Bc.to|apply Bc.exit|(apply Bc.Aq;rfl)|refine go2 ?_|(intro _;try (exfalso;omega)))
    all_goals try (exfalso;omega)
    refine Aj.normal ⟨by decide,?_,?_⟩
    ·rw [e5]
     exact Dy
    ·rw [e5,← a6s]
     exact Ey
  ·have hn1:¬ MZ q t k=true:=by rw [hnk];exact fun h=>hn (of_decide_eq_true h)
   rw [if_neg hn1]
   repeat' (first|apply Bc.Bf|apply Bc.Bl|apply Bc.region|apply Ew.normal|apply Ew.exit|apply Bc.to|apply Bc.block|apply Bc.skip|apply Bc.exit|(apply Bc.Aq;rfl)|(apply Aa.Ap (l:=q.p.notes) (i:=m);rfl;exact congrArg (fun b=>some (PV.p (.int .i64 b))) g1;rfl;omega;rfl)|(apply Aa.Ap;rfl;rfl;rfl;omega;rfl)|refine go1 ?_|(apply Aa.int;rfl;rfl;rfl)|(intro _;try (exfalso;omega)))
   all_goals try (exfalso;omega)
   all_goals try contradiction
   refine Aj.normal ⟨by first|omega|decide,?_,?_⟩
   ·exact Dy
   ·exact Ey
 ·have hOk:=hOl M.length (ab _)
  have c4r:∀ i,i<(FW (MZ q t) (fQ q t) l M.length).length→(gi (FW (MZ q t) (fQ q t) l M.length) i).length=q.p.notes.length:=fun i hi=>c1j _ (EX hi)
  clear hOl hOx;generalize FW (MZ q t) (fQ q t) l M.length=O at *;have hC:∀ i,i<O.length→EZ env 89 ([.p (.lst 3 (cells (gi O i)) (gi O i).length)]++[.ref 0 0,.ref 1 0]) [(0,mV q),(1,slB (Nv q t))] 2 (.bool (!XJ q t (gi O i))):=fun i hi=>cZ q hq _ hN hNl (gi O i) (c4r i hi)
  unfold mV slB at hC;generalize hP:XJ q t=P at *
  repeat' (first|(refine Bc.at 14 ?_;refine Bc.ghost (Ar.b9b 2 (cells O) rfl (b4k O)) ?_;first|apply Bc.Bf|apply Bc.Bl)|apply Bc.Bf|apply Ew.normal|apply Ew.exit|apply Bc.to|apply Bc.exit|(apply Bc.Aq;rfl)|(apply Aa.makeFunc;rfl;rfl)|(apply b1k;rfl;rfl;rfl;exact le_dec rfl)|(apply b2f;rfl;rfl;rfl;exact le_dec rfl)|(apply Aa.lenV;rfl;rfl;rfl)|refine go1 ?_|apply Ad.Bf|(apply Aa.int;rfl;rfl;rfl)|(intro _;try (exfalso;omega)))
  all_goals try (exfalso;omega)
  apply Ad.Jq (O.length) (fun k=>∀ i,i<k→P (gi O i)=true) [(0,_),(1,_),(7,_)] [(0,_),(1,_),(2,_)] (fun k r=>(8,.p (.int .i64 (k:Int)))::r) (fun k r=>r) 3
  ·first|omega|decide
  ·first|omega|decide
  ·exact SS
  ·exact Ws
  ·first|(intro _ _;omega)|omega|trivial
  ·intro k hk hi
   have hCk:=hC k hk;by_cases hp:P (gi O k)=true
   ·rw [hp] at hCk
    repeat' (first|(apply Aa.read [0,1] hCk;rfl;rfl;exact .of_eq rfl;exact C9.AA rfl;exact Dn rfl;(repeat (first|exact trivial|refine ⟨⟨_,rfl,.of_eq rfl⟩,?_⟩));decide;(intro _ hb;simp at hb<;>omega);rfl)|(apply Aa.Di;rfl;rfl;rfl;rfl;omega)|refine Cb ?_|(apply Aa.int;rfl;rfl;rfl)|(apply Ad.Ac;rfl)|(apply Ad.cond_false;rfl)|(intro _;try (exfalso;omega)))
    all_goals try (exfalso;omega)
    all_goals try contradiction
    refine Aj.normal ⟨(all_succ hi hp),by first|omega|decide,?_,?_⟩
    ·exact Dy
    ·exact Ey
   ·have hp':P (gi O k)=false:=by cases h:P (gi O k)<;>simp_all
    rw [hp'] at hCk
    repeat' (first|(apply Aa.read [0,1] hCk;rfl;rfl;exact .of_eq rfl;exact C9.AA rfl;exact Dn rfl;(repeat (first|exact trivial|refine ⟨⟨_,rfl,.of_eq rfl⟩,?_⟩));decide;(intro _ hb;simp at hb<;>omega);rfl)|(apply Aa.Di;rfl;rfl;rfl;rfl;omega)|refine Cb ?_|(apply AB.ret;rfl)|(apply Aa.int;rfl;rfl;rfl)|(apply Ad.Ak;rfl)|(apply Ad.Ac;rfl)|(apply Ad.cond_true;rfl)|(intro _;try (exfalso;omega)))
    all_goals try (exfalso;omega)
    all_goals try contradiction
    refine Ad.D6 (fun s:List (List Int)×Nat×Nat=>[(0,.vec 2 O.length 0 O.length),(1,.clo 89 [] [.ref 0 0,.ref 1 0]),(5,.p (.int .i64 (s.2.1:Int))),(6,.p (.int .i64 (s.2.2:Int)))]) (fun s=>[(0,mV q),(1,slB (Nv q t)),(2,.vec 28 (cells s.1) O.length false)]) 3 (fun s=>RV P O s.1 s.2.1 s.2.2) (fun s=>O.length-s.2.2) (O,k,k+1) (by decide) (RV.start hk hp' hi) ⟨by decide,?_,?_⟩ ?_
    ·exact Dy
    ·exact Ey
    rintro ⟨zs,i,j⟩ hD;simp only at hD ⊢;have z1:=hD.len;have z2:=hD.ij;have z3:=hD.jn;unfold mV slB;by_cases hj:j<O.length
    ·have hC2:=hC j hj
     have hz:=hD.at_ hj;by_cases hw:P (gi O j)=true
     ·rw [hw] at hC2
      rw [← hz] at hC2
      repeat' (first|(apply Aa.read [0,1] hC2;rfl;rfl;exact .of_eq rfl;exact C9.AA rfl;exact Dn rfl;(repeat (first|exact trivial|refine ⟨⟨_,rfl,.of_eq rfl⟩,?_⟩));decide;(intro _ hb;simp at hb<;>omega);rfl)|(apply Aa.JQ (y:=gi zs j);rfl;rfl;rfl;trivial;(first|rfl|(refine congrArg (fun t=>[PV.p (FV.int _ t)]) ?_;first|omega|(simp only [Int.natCast_add,Int.natCast_mul,Int.natCast_ediv,Int.natCast_emod]<;>omega)));rfl;rfl;decide;(first|omega|(simp only [List.length_set]<;>omega)))|(apply Aa.lenV;rfl;rfl;rfl)|(apply Aa.Di;rfl;rfl;rfl;rfl;omega)|refine Cb ?_|(apply Aa.int;rfl;rfl;rfl)|(apply Ad.Ac;rfl)|(apply Ad.cond_true;rfl)|(intro _;try (exfalso;omega)))
      all_goals try (exfalso;omega)
      refine Aj.normal ⟨(zs.set i (gi O j),i+1,j+1),hD.put hj hw,by simp only;omega,⟨by omega,?_,?_⟩⟩
      ·exact Dy
      ·rw [← hz]
       exact Ey
     ·have hw':P (gi O j)=false:=by cases h:P (gi O j)<;>simp_all
      rw [hw'] at hC2;rw [← hz] at hC2
      repeat' (first|(apply Aa.read [0,1] hC2;rfl;rfl;exact .of_eq rfl;exact C9.AA rfl;exact Dn rfl;(repeat (first|exact trivial|refine ⟨⟨_,rfl,.of_eq rfl⟩,?_⟩));decide;(intro _ hb;simp at hb<;>omega);rfl)|(apply Aa.lenV;rfl;rfl;rfl)|(apply Aa.Di;rfl;rfl;rfl;rfl;omega)|refine Cb ?_|(apply Aa.int;rfl;rfl;rfl)|(apply Ad.Ac;rfl)|(apply Ad.cond_false;rfl)|(intro _;try (exfalso;omega)))
      all_goals try (exfalso;omega)
      refine Aj.normal ⟨(zs,i,j+1),hD.skip hj hw',by simp only;omega,⟨by omega,?_,?_⟩⟩
      ·exact Dy
      ·exact Ey
    ·obtain rfl:j=O.length:=by omega
     obtain ⟨f1,f2⟩:=hD.fin;rw [← f1,show (zs.take i).length=i by rw [aw];omega];have hps:∀ xs,((CJ (cells zs) (0+i*1) xs).take (i*1))=cells (zs.take i):=fun xs=>by
      rw [OU _ _ _ (show i*1≤0+i*1 by omega)];exact Oi zs i
     have hpl:∀ xs,i*1≤(CJ (cells zs) (0+i*1) xs).length:=fun xs=>by
      rw [Qa,CQ,z1];show i*1≤O.length*1;omega
     repeat' (first|(refine Ah.Gz 6 ?_;refine Ah.ghost (Ar.rX 56 (i*1) rfl rfl (by omega) (hpl _)) ?_)|apply Bc.ret|apply Ad.assoc|apply Ad.Bf|apply Ad.Gw|apply Bq.normal|(apply AB.ret;rfl)|apply Bd.exit|apply Aj.exit|apply Ad.ret|apply Ah.nil|apply Ah.one|(apply Aa.ji (sz:=1) (a:=i) (c:=O.length);rfl;rfl;omega;rfl;rfl;rfl;exact ⟨_,rfl⟩;rfl;omega;exact ab _)|(apply Aa.ji (sz:=1) (a:=0) (c:=i);rfl;rfl;omega;rfl;rfl;rfl;rfl;exact ⟨_,rfl⟩;omega;omega)|(apply Aa.clear;rfl;rfl;omega;omega;rfl;rfl;rfl;decide;(rw [CQ,z1];show 0+i*1+(O.length-i)*1≤O.length*1;omega))|(apply Aa.assign;rfl)|(apply Aa.move;rfl)|(apply Aa.int;rfl;rfl;rfl)|(apply Aa.lenV;rfl;rfl;rfl)|(apply Ad.Ac;rfl)|(intro _;try (exfalso;omega)))
     all_goals first|(exfalso;omega)|(refine Done.rt rfl rfl ⟨?_,rfl,rfl⟩;exact congrArg (fun c=>PV.p (FV.lst 28 c i)) (hps _))
  ·intro hi
   rw [filter_all hi]
   repeat' (first|(refine Ah.Gz 6 ?_;refine Ah.ghost (Ar.freeze 56 rfl rfl) ?_)|apply Bc.ret|apply Ad.assoc|apply Ad.Bf|apply Ad.Fq|apply Ad.Gw|apply Bq.normal|(apply AB.ret;rfl)|apply Bd.exit|apply Aj.exit|apply Ad.ret|apply Ah.nil|apply Ah.one|(apply Aa.assign;rfl)|(apply Aa.move;rfl)|(apply Aa.int;rfl;rfl;rfl)|(apply Ad.AX;rfl)|(apply Ad.Ac;rfl)|(intro _;try (exfalso;omega)))
   all_goals first|(exfalso;omega)|(refine Done.rt rfl rfl ⟨?_,rfl,rfl⟩;try rfl)
end Go.Proofs.YtnjkoebfgcbbdaaGreatDoor
