/-
  Texts of a proof, merged (VmA). Conditions: in each statement.
-/
import Derived.Test.YtnjkoebfgcbbdaaGreatDoorKCd
set_option linter.unusedSimpArgs false
set_option linter.unusedVariables false
set_option linter.unusedSectionVars false
set_option maxRecDepth 100000
set_option maxHeartbeats 8000000
abbrev bE:=@Nat.lt_succ_self
abbrev cn:=@Nat.lt_irrefl
abbrev eW:=@Bool.eq_iff_iff
namespace Go.Vm
section
open Go.Am
inductive FV where
 |int (k:IntKind) (n:Int)
 |bool (b:Bool)
 |str (s:ByteArray)
 |val (x:Value)
 |agg (cs:List FV)
 |lst (e:TypeId) (cs:List FV) (n:Nat)
 |E8 (cs:List FV)
 |own (e:TypeId) (cs:List FV) (n:Nat)
inductive PV where
 |p (x:FV)
 |agg (cs:List PV)
 |Eb (vs:List PV)
 |vec (b tag off len:Nat)
 |ref (b off:Nat)
 |EH (b tag off:Nat)
 |mref (b:Nat)
 |clo (f:FuncId) (fs cs:List PV)
inductive HB where
 |box (e:TypeId) (cs:List PV)
 |vec (e:TypeId) (cs:List FV) (n:Nat) (z:Bool)
 |map (es:List (FV×FV))
 |QN (e:TypeId) (cs:List PV) (n:Nat)
 |Jz (ks:List FV) (cs:List PV)
abbrev Heap:=List (Nat×HB)
abbrev Frame:=List (Nat×PV)
inductive Tg where
 |box
 |vec (n:Nat)
 |map
def Tg.le:Tg→Tg→Prop
 | .box,.box=>True
 | .map,.map=>True
 | .vec n,.vec k=>n≤k
 |_,_=>False
def HB.tag:HB→Tg
 | .box ..=>.box
 | .vec _ _ n _=>.vec n
 | .map _=>.map
 | .QN _ _ n=>.vec n
 | .Jz _ _=>.map
def hget:Heap→Nat→Option HB
 |[],_=>none
 |(a,x)::H,b=>match Nat.decEq a b with
  | .isTrue _=>some x
  | .isFalse _=>hget H b
def hput:Heap→Nat→HB→Heap
 |[],_,_=>[]
 |(a,x)::H,b,y=>match Nat.decEq a b with
  | .isTrue _=>(a,y)::H
  | .isFalse _=>(a,x)::hput H b y
def Fp:Frame→Nat→Option PV
 |[],_=>none
 |(a,x)::L,b=>match Nat.decEq a b with
  | .isTrue _=>some x
  | .isFalse _=>Fp L b
theorem Bo (a:Nat) (x:HB) (H:Heap) (b:Nat):hget ((a,x)::H) b=if a=b then some x else hget H b:=by
 simp only [hget];cases Nat.decEq a b with
 |isTrue h=>grind
 |isFalse h=>grind
theorem Ec (a:Nat) (x:PV) (H:Frame) (b:Nat):Fp ((a,x)::H) b=if a=b then some x else Fp H b:=by
 simp only [Fp];cases Nat.decEq a b with
 |isTrue h=>grind
 |isFalse h=>grind
theorem NP (H:Heap) (b c:Nat) (y:HB):hget (hput H b y) c=if b=c then (hget H b).map (fun _=>y) else hget H c:=by
 induction H with
 |nil=>simp [hput,hget]
 |cons a H ih =>
  obtain ⟨a,x⟩:=a;simp only [hput];cases hd:Nat.decEq a b with
  |isTrue h =>
   subst h;simp only [Bo];by_cases hc:a=c<;>simp [hc]
  |isFalse h =>
   simp only [Bo,ih];grind
def htag (H:Heap) (b:Nat):Option Tg:=(hget H b).map HB.tag
def DC:Value:=.slice none 0 0
mutual
inductive RF (m:Mem) (F:Nat→Prop):FV→Value→Prop
 |int (k:IntKind) (n:Int):RF m F (.int k n) (.int k n)
 |bool (b:Bool):RF m F (.bool b) (.bool b)
 |str (s:ByteArray):RF m F (.str s) (.string s)
 |val {x:Value} (h:Am.plainCell x=true):RF m F (.val x) x
 |agg {cs:List FV} {vs:List Value} (h:Dj m F cs vs) (hc:vs.all BK=true):RF m F (.agg cs) (.agg vs.toArray)
 |nil (e:TypeId):RF m F (.lst e [] 0) (.slice none 0 0)
 |room (e:TypeId) (b o g:Nat):RF m F (.lst e [] 0) (.slice (some ⟨b,o,some g⟩) 0 0)
 |lst {e:TypeId} {cs:List FV} {n b o g:Nat} {vs ws:List Value} {ro:Bool} (hF:F b) (hm:m.get b=.cells vs e g ro) (hw:takeN cs.length (vs.drop o)=some ws) (h:Dj m F cs ws) (hc:ws.all BK=true) :
  RF m F (.lst e cs n) (.slice (some ⟨b,o,none⟩) n g)
 |E8 {cs:List FV} {b o g:Nat} {sp:Option Nat} {e:TypeId} {vs ws:List Value} {ro:Bool} (hF:F b) (hm:m.get b=.cells vs e g ro) (hg:Oh ⟨b,o,sp⟩=g) (hw:takeN cs.length (vs.drop o)=some ws) (h:Dj m F cs ws) (hc:ws.all BK=true) :
  RF m F (.E8 cs) (.pointer (some ⟨b,o,sp⟩))
 |own {e:TypeId} {cs:List FV} {n b o g:Nat} {vs ws:List Value} (hF:F b) (hm:m.get b=.cells vs e g false) (hw:takeN cs.length (vs.drop o)=some ws) (h:Dj m F cs ws) (hc:ws.all BK=true) :
  RF m F (.own e cs n) (.slice (some ⟨b,o,none⟩) n g)
 |Tv (e:TypeId):RF m F (.own e [] 0) (.slice none 0 0)
 |QV (e:TypeId) (b o g:Nat):RF m F (.own e [] 0) (.slice (some ⟨b,o,some g⟩) 0 0)
inductive Dj (m:Mem) (F:Nat→Prop):List FV→List Value→Prop
 |nil:Dj m F [] []
 |cons {c:FV} {v:Value} {cs:List FV} {vs:List Value} (h:RF m F c v) (t:Dj m F cs vs):Dj m F (c::cs) (v::vs)
end
def Gg (s:Value) (off len:Nat) (v:Value):Prop :=
 match s with
 | .slice (some ⟨c,0,none⟩) _ g=>v=.slice (some ⟨c,off,none⟩) len g
 |s=>v=s∧off=0∧len=0
mutual
inductive RP (m:Mem) (F:Nat→Prop) (T:Nat→Option Tg) (σ:Nat→Value) (nx:Nat):PV→Value→Prop
 |p {x:FV} {v:Value} (h:RF m F x v):RP m F T σ nx (.p x) v
 |agg {cs:List PV} {vs:List Value} (h:Dt m F T σ nx cs vs) (hc:vs.all BK=true):RP m F T σ nx (.agg cs) (.agg vs.toArray)
 |Eb {cs:List PV} {vs:List Value} (h:Dt m F T σ nx cs vs):RP m F T σ nx (.Eb cs) (.tuple vs.toArray)
 |vec {b tag off len:Nat} {v:Value} (hb:b<nx) (hc:BK v=true) (h:∀ n,T b=some (.vec n)→tag≤n∧(tag=n→Gg (σ b) off len v)):RP m F T σ nx (.vec b tag off len) v
 |ref {b off:Nat} {v:Value} (hb:b<nx) (hc:BK v=true) (h:T b=some .box→∃ c,σ b=.pointer (some ⟨c,0,none⟩)∧v=.pointer (some ⟨c,off,none⟩)):RP m F T σ nx (.ref b off) v
 |EH {b tag off:Nat} {v:Value} (hb:b<nx) (hc:BK v=true) (h:∀ n,T b=some (.vec n)→tag≤n∧(tag=n→∃ c k g,σ b=.slice (some ⟨c,0,none⟩) k g∧v=.pointer (some ⟨c,off,some g⟩))) :
  RP m F T σ nx (.EH b tag off) v
 |mref {b:Nat} {v:Value} (hb:b<nx) (hc:BK v=true) (h:T b=some .map→v=σ b):RP m F T σ nx (.mref b) v
 |clo {f:FuncId} {fs cs:List PV} {vf vc:List Value} (h1:Dt m F T σ nx fs vf) (h2:Dt m F T σ nx cs vc):RP m F T σ nx (.clo f fs cs) (.func (.func f) vf.toArray vc.toArray)
inductive Dt (m:Mem) (F:Nat→Prop) (T:Nat→Option Tg) (σ:Nat→Value) (nx:Nat):List PV→List Value→Prop
 |nil:Dt m F T σ nx [] []
 |cons {c:PV} {v:Value} {cs:List PV} {vs:List Value} (h:RP m F T σ nx c v) (t:Dt m F T σ nx cs vs):Dt m F T σ nx (c::cs) (v::vs)
end
mutual
theorem RF.mono {m m':Mem} {F F':Nat→Prop} (hF:∀ c,F c→F' c∧m'.get c=m.get c):∀ {x:FV} {v:Value},RF m F x v→RF m' F' x v
 |_,_,.int k n=>.int k n
 |_,_,.bool b=>.bool b
 |_,_,.str s=>.str s
 |_,_,.val h=>.val h
 |_,_,.agg h hc=>.agg (Dj.mono hF h) hc
 |_,_,.nil e=>.nil e
 |_,_,.room e b o g=>.room e b o g
 |_,_,.lst hb hm hw h hc=>.lst (hF _ hb).1 ((hF _ hb).2.trans hm) hw (Dj.mono hF h) hc
 |_,_,.E8 hb hm hg hw h hc=>.E8 (hF _ hb).1 ((hF _ hb).2.trans hm) hg hw (Dj.mono hF h) hc
 |_,_,.own hb hm hw h hc=>.own (hF _ hb).1 ((hF _ hb).2.trans hm) hw (Dj.mono hF h) hc
 |_,_,.Tv e=>.Tv e
 |_,_,.QV e b o g=>.QV e b o g
theorem Dj.mono {m m':Mem} {F F':Nat→Prop} (hF:∀ c,F c→F' c∧m'.get c=m.get c):∀ {x:List FV} {v:List Value},Dj m F x v→Dj m' F' x v
 |_,_,.nil=>.nil
 |_,_,.cons h t=>.cons (RF.mono hF h) (Dj.mono hF t)
end
def Vk:Option Tg→Option Tg→Prop
 |_,none=>True
 |some t,some t'=>t.le t'
 |none,some _=>False
def Names (nx:Nat) (T:Nat→Option Tg) (σ:Nat→Value) (T':Nat→Option Tg) (σ':Nat→Value):Prop :=
 ∀ b,b<nx→Vk (T b) (T' b)∧(∀ t,T b=some t→T' b=some t→σ' b=σ b)
theorem Names.vec {nx:Nat} {T T':Nat→Option Tg} {σ σ':Nat→Value} (h:Names nx T σ T' σ') {b n:Nat} (hb:b<nx) (ht:T' b=some (.vec n)):∃ k,T b=some (.vec k)∧k≤n∧(k=n→σ' b=σ b):=by
 obtain ⟨h1,h2⟩:=h b hb;rw [ht] at h1;cases hT:T b with
 |none=>rw [hT] at h1;exact h1.elim
 |some t =>
  rw [hT] at h1;cases t with
  |vec k=>exact ⟨k,rfl,h1,fun e=>h2 _ (by grind) ht⟩
  |box=>exact h1.elim
  |map=>exact h1.elim
theorem Names.box {nx:Nat} {T T':Nat→Option Tg} {σ σ':Nat→Value} (h:Names nx T σ T' σ') {b:Nat} (hb:b<nx) (ht:T' b=some .box):T b=some .box∧σ' b=σ b:=by
 obtain ⟨h1,h2⟩:=h b hb;rw [ht] at h1;cases hT:T b with
 |none=>rw [hT] at h1;exact h1.elim
 |some t =>
  rw [hT] at h1;cases t with
  |box=>grind
  |vec k=>exact h1.elim
  |map=>exact h1.elim
theorem Names.map {nx:Nat} {T T':Nat→Option Tg} {σ σ':Nat→Value} (h:Names nx T σ T' σ') {b:Nat} (hb:b<nx) (ht:T' b=some .map):T b=some .map∧σ' b=σ b:=by
 obtain ⟨h1,h2⟩:=h b hb;rw [ht] at h1;cases hT:T b with
 |none=>rw [hT] at h1;exact h1.elim
 |some t =>
  rw [hT] at h1;cases t with
  |map=>grind
  |vec k=>exact h1.elim
  |box=>exact h1.elim
theorem Vk.refl (t:Option Tg):Vk t t:=by
 cases t with
 |none=>trivial
 |some t=>cases t<;>simp [Vk,Tg.le]
theorem Vk.trans {a b c:Option Tg} (h:Vk a b) (k:Vk b c):Vk a c:=by
 cases c with
 |none=>trivial
 |some c =>
  cases b with
  |none=>exact k.elim
  |some b =>
   cases a with
   |none=>exact h.elim
   |some a =>
    cases a<;>cases b<;>cases c<;>simp_all [Vk,Tg.le]
    omega
theorem Vk.antisymm {a b c:Option Tg} (h:Vk a b) (k:Vk b c) (e:c=a):b=a:=by
 subst e;cases c with
 |none =>
  cases b with
  |none=>rfl
  |some b=>exact h.elim
 |some c =>
  cases b with
  |none=>exact k.elim
  |some b =>
   cases c<;>cases b<;>simp_all [Vk,Tg.le]
   omega
theorem Names.refl (nx:Nat) (T:Nat→Option Tg) (σ:Nat→Value):Names nx T σ T σ:=fun _ _=>⟨Vk.refl _,fun _ _ _=>rfl⟩
theorem Names.trans {nx nx':Nat} {T T' T'':Nat→Option Tg} {σ σ' σ'':Nat→Value} (h:Names nx T σ T' σ') (k:Names nx' T' σ' T'' σ'') (hn:nx≤nx'):Names nx T σ T'' σ'':=fun b hb=>by
 obtain ⟨h1,h2⟩:=h b hb;obtain ⟨k1,k2⟩:=k b (ag hb hn);refine ⟨h1.trans k1,fun t e1 e2=>?_⟩;have e':=Vk.antisymm h1 k1 (e2.trans e1.symm);grind
section
variable {m m':Mem} {F F':Nat→Prop} {T T':Nat→Option Tg} {σ σ':Nat→Value} {nx nx':Nat}
mutual
theorem RP.mono (hF:∀ c,F c→F' c∧m'.get c=m.get c) (hN:Names nx T σ T' σ') (hn:nx≤nx'):∀ {x:PV} {v:Value},RP m F T σ nx x v→RP m' F' T' σ' nx' x v
 |_,_,.p h=>.p (h.mono hF)
 |_,_,.agg h hc=>.agg (Dt.mono hF hN hn h) hc
 |_,_,.Eb h=>.Eb (Dt.mono hF hN hn h)
 |_,_,.vec hb hc h=>.vec (ag hb hn) hc fun n ht=>by
  obtain ⟨k,h1,h2,h3⟩:=hN.vec hb ht;obtain ⟨h4,h5⟩:=h k h1;exact ⟨by omega,fun e=>by rw [h3 (by omega)];exact h5 (by omega)⟩
 |_,_,.ref hb hc h=>.ref (ag hb hn) hc fun ht=>by
  obtain ⟨h1,h2⟩:=hN.box hb ht;rw [h2];exact h h1
 |_,_,.EH hb hc h=>.EH (ag hb hn) hc fun n ht=>by
  obtain ⟨k,h1,h2,h3⟩:=hN.vec hb ht;obtain ⟨h4,h5⟩:=h k h1;exact ⟨by omega,fun e=>by rw [h3 (by omega)];exact h5 (by omega)⟩
 |_,_,.mref hb hc h=>.mref (ag hb hn) hc fun ht=>by
  obtain ⟨h1,h2⟩:=hN.map hb ht;rw [h2];exact h h1
 |_,_,.clo h1 h2=>.clo (Dt.mono hF hN hn h1) (Dt.mono hF hN hn h2)
theorem Dt.mono (hF:∀ c,F c→F' c∧m'.get c=m.get c) (hN:Names nx T σ T' σ') (hn:nx≤nx'):∀ {x:List PV} {v:List Value},Dt m F T σ nx x v→Dt m' F' T' σ' nx' x v
 |_,_,.nil=>.nil
 |_,_,.cons h t=>.cons (RP.mono hF hN hn h) (Dt.mono hF hN hn t)
end
end
def Dl:Value→Option Nat
 | .pointer (some a)=>some a.block
 | .slice (some ⟨c,_,none⟩) _ _=>some c
 | .map (some r)=>some r
 |_=>none
def jF (m:Mem) (F:Nat→Prop) (es:List (FV×FV)) (l:List MapEntry):Prop :=
 Dj m F (es.map (·.1)) (l.map (·.key))∧Dj m F (es.map (·.2)) (l.map (·.val))
def Stamped (l:List MapEntry) (clock:Nat):Prop:=l.map (·.born)=List.range l.length∧clock=l.length
def RB (m:Mem) (F:Nat→Prop) (T:Nat→Option Tg) (σ:Nat→Value) (nx:Nat) (s:Value):HB→Prop
 | .box e cs=>∃ c vs,s=.pointer (some ⟨c,0,none⟩)∧c<m.size∧¬ F c∧m.get c=.cells vs e 0 false∧Dt m F T σ nx cs vs∧vs.all BK=true
 | .vec e cs n z=>(cs=[]∧n=0∧(s=DC∧z=true∨∃ b o g,s=.slice (some ⟨b,o,some g⟩) 0 0∧z=false)) ∨
  ∃ c g vs,s=.slice (some ⟨c,0,none⟩) n g∧c<m.size∧¬ F c∧m.get c=.cells vs e g false∧Dj m F cs vs∧vs.all BK=true∧(n=0→z=false)
 | .map es=>∃ r l clock,s=.map (some r)∧r<m.size∧¬ F r∧m.get r=.map l clock∧jF m F es l
 | .QN e cs n=>∃ c g vs,s=.slice (some ⟨c,0,none⟩) n g∧c<m.size∧¬ F c∧m.get c=.cells vs e g false∧Dt m F T σ nx cs vs∧vs.all BK=true
 | .Jz ks cs=>∃ r l clock,s=.map (some r)∧r<m.size∧¬ F r∧m.get r=.map l clock∧Dj m F ks (l.map (·.key))∧Dt m F T σ nx cs (l.map (·.val))∧Stamped l clock
structure Ctx (Γ:Nat→Option (List Value×TypeId)) (m:Mem) (F:Nat→Prop) (σ:Nat→Value) (H:Heap) (nx:Nat):Prop where
 fr:∀ c,F c→c<m.size
 hp:∀ b x,hget H b=some x→b<nx∧RB m F (htag H) σ nx (σ b) x
 sep:∀ b b' x x' c,hget H b=some x→hget H b'=some x'→Dl (σ b)=some c→Dl (σ b')=some c→b=b'
 gl:∀ g vs e,Γ g=some (vs,e)→F g∧m.get g=.cells vs e 0 true∧vs.all Am.plainCell=true
def own (H:Heap) (σ:Nat→Value) (c:Nat):Prop:=∃ b x,hget H b=some x∧Dl (σ b)=some c
structure Step (m:Mem) (F:Nat→Prop) (σ:Nat→Value) (H:Heap) (nx:Nat) (m':Mem) (F':Nat→Prop) (σ':Nat→Value) (H':Heap) (nx':Nat):Prop where
 size:m.size≤m'.size
 keep:∀ c,c<m.size→¬ own H σ c→m'.get c=m.get c
 Ky:∀ c,F c→F' c
 Kw:∀ c,c<m.size→F' c→F c∨own H σ c
 Jo:∀ c,c<m.size→own H' σ' c→own H σ c
 Vz:nx≤nx'
 names:Names nx (htag H) σ (htag H') σ'
 low:∀ k,k≤m.low→k≤m.size→(∀ c,own H σ c→k≤c)→k≤m'.low
variable {Γ:Nat→Option (List Value×TypeId)}
theorem Ctx.LY {m:Mem} {F:Nat→Prop} {σ:Nat→Value} {H:Heap} {nx c:Nat} (h:Ctx Γ m F σ H nx) (ho:own H σ c):¬ F c∧c<m.size:=by
 obtain ⟨b,x,hb,hc⟩:=ho;obtain ⟨_,hr⟩:=h.hp b x hb;cases x with
 |box e cs =>
  obtain ⟨c',vs,h1,h2,h3,_⟩:=hr;simp only [Dl,Option.some.injEq] at hc;grind
 |vec e cs n z =>
  rcases hr with ⟨_,_,h1⟩|⟨c',g,vs,h1,h2,h3,_⟩
  ·rcases h1 with ⟨h1,_⟩|⟨b',o,g,h1,_⟩<;>rw [h1] at hc<;>simp [Dl,DC] at hc
  ·simp only [Dl,Option.some.injEq] at hc
   grind
 |map es =>
  obtain ⟨r,l,clock,h1,h2,h3,_⟩:=hr;simp only [Dl,Option.some.injEq] at hc;grind
 |QN e cs n =>
  obtain ⟨c',g,vs,h1,h2,h3,_⟩:=hr;simp only [Dl,Option.some.injEq] at hc;grind
 |Jz ks cs =>
  obtain ⟨r,l,clock,h1,h2,h3,_⟩:=hr;simp only [Dl,Option.some.injEq] at hc;grind
theorem Step.refl (m:Mem) (F:Nat→Prop) (σ:Nat→Value) (H:Heap) (nx:Nat):Step m F σ H nx m F σ H nx :=
 ⟨ab _,fun _ _ _=>rfl,fun _ h=>h,fun _ _ h=>.inl h,fun _ _ h=>h,ab _,Names.refl _ _ _,fun _ h _ _=>h⟩
theorem Step.trans {m m' m'':Mem} {F F' F'':Nat→Prop} {σ σ' σ'':Nat→Value} {H H' H'':Heap} {nx nx' nx'':Nat} (h:Step m F σ H nx m' F' σ' H' nx') (k:Step m' F' σ' H' nx' m'' F'' σ'' H'' nx'') :
 Step m F σ H nx m'' F'' σ'' H'' nx'' where
 size:=an h.size k.size
 keep c hc ho:=(k.keep c (ag hc h.size) fun o=>ho (h.Jo c hc o)).trans (h.keep c hc ho)
 Ky c hc:=k.Ky c (h.Ky c hc)
 Kw c hc hf:=by
  rcases k.Kw c (ag hc h.size) hf with h1|h1
  ·exact h.Kw c hc h1
  ·exact .inr (h.Jo c hc h1)
 Jo c hc ho:=h.Jo c hc (k.Jo c (ag hc h.size) ho)
 Vz:=an h.Vz k.Vz
 names:=h.names.trans k.names h.Vz
 low j h1 h2 h3:=k.low j (h.low j h1 h2 h3) (an h2 h.size) fun c ho=>by
  by_cases hc:c<m.size
  ·exact h3 c (h.Jo c hc ho)
  omega
theorem Step.frozen {m m':Mem} {F F':Nat→Prop} {σ σ':Nat→Value} {H H':Heap} {nx nx':Nat} (h:Step m F σ H nx m' F' σ' H' nx') (hx:Ctx Γ m F σ H nx):∀ c,F c→F' c∧m'.get c=m.get c:=fun c hc =>
 ⟨h.Ky c hc,h.keep c (hx.fr c hc) fun ho=>(hx.LY ho).1 hc⟩
theorem RP.step {m m':Mem} {F F':Nat→Prop} {σ σ':Nat→Value} {H H':Heap} {nx nx':Nat} (h:Step m F σ H nx m' F' σ' H' nx') (hx:Ctx Γ m F σ H nx) {x:PV} {v:Value} (hr:RP m F (htag H) σ nx x v) :
 RP m' F' (htag H') σ' nx' x v:=hr.mono (h.frozen hx) h.names h.Vz
def RL (m:Mem) (F:Nat→Prop) (T:Nat→Option Tg) (σ:Nat→Value) (nx:Nat) (L:Frame) (t:Tr Value):Prop:=∀ i v,Fp L i=some v→RP m F T σ nx v (Cj t i)
theorem RL.step {m m':Mem} {F F':Nat→Prop} {σ σ':Nat→Value} {H H':Heap} {nx nx':Nat} (h:Step m F σ H nx m' F' σ' H' nx') (hx:Ctx Γ m F σ H nx) {L:Frame} {t:Tr Value} (hr:RL m F (htag H) σ nx L t) :
 RL m' F' (htag H') σ' nx' L t:=fun i v hi=>(hr i v hi).step h hx
theorem RL.set {m:Mem} {F:Nat→Prop} {T:Nat→Option Tg} {σ:Nat→Value} {nx:Nat} {L:Frame} {t:Tr Value} (hr:RL m F T σ nx L t) {d:Nat} {x:PV} {v:Value} (h:RP m F T σ nx x v) :
 RL m F T σ nx ((d,x)::L) (P7 t d v):=fun i y hi=>by
 rw [Ec] at hi;rw [Df];by_cases e:d=i
 ·grind
 ·rw [if_neg e] at hi ⊢
  exact hr i y hi
def H8 (L:Frame) (dst:Option Nat) (x:PV):Frame :=
 match dst with
 |some d=>(d,x)::L
 |none=>L
theorem RL.put {m:Mem} {F:Nat→Prop} {T:Nat→Option Tg} {σ:Nat→Value} {nx:Nat} {L:Frame} {t:Tr Value} (hr:RL m F T σ nx L t) {d:Option Nat} {x:PV} {v:Value} (h:RP m F T σ nx x v) :
 RL m F T σ nx (H8 L d x) (H7 t d v):=by
 cases d with
 |none=>exact hr
 |some d=>exact hr.set h
def H9:Value→FV
 | .int k n=>.int k n
 | .bool b=>.bool b
 | .string s=>.str s
 |x=>.val x
theorem vZ {m:Mem} {F:Nat→Prop} {x:Value} (h:Am.plainCell x=true):RF m F (H9 x) x:=by
 unfold H9;split
 ·exact .int _ _
 ·exact .bool _
 ·exact .str _
 ·exact .val h
theorem IE {m:Mem} {F:Nat→Prop}:∀ {l:List Value},l.all Am.plainCell=true→Dj m F (l.map H9) l
 |[],_=>.nil
 |v::l,h=>by
  simp only [List.all_cons,Bool.and_eq_true] at h;exact .cons (vZ h.1) (IE h.2)
def YB:Value→Option PV
 | .int k n=>some (.p (.int k n))
 | .bool b=>some (.p (.bool b))
 | .string s=>some (.p (.str s))
 | .agg cs=>if cs.toList.all Am.plainCell then some (.p (.agg (cs.toList.map H9))) else none
 |x=>if Am.plainCell x then some (.p (.val x)) else none
def AU (Γ:Nat→Option (List Value×TypeId)) (L:Frame):Operand→Option PV
 | .tmp i=>Fp L i
 | .const v=>YB v
 | .global g=>(Γ g).map fun x=>.p (.E8 (x.1.map H9))
 | .func f=>some (.clo f [] [])
theorem Xj {m:Mem} {F:Nat→Prop} {T:Nat→Option Tg} {σ:Nat→Value} {nx:Nat} {v:Value} {x:PV} (h:YB v=some x):RP m F T σ nx x v:=by
 unfold YB at h;split at h
 ·cases h;exact .p (.int _ _)
 ·cases h;exact .p (.bool _)
 ·cases h;exact .p (.str _)
 ·split at h
  ·rename_i cs hc
   cases h;exact .p (.agg (IE hc) (Dh hc))
  grind
 ·split at h
  ·rename_i hc
   cases h;exact .p (.val hc)
  grind
theorem Dj.length {m:Mem} {F:Nat→Prop}:∀ {cs:List FV} {vs:List Value},Dj m F cs vs→cs.length=vs.length
 |_,_,.nil=>rfl
 |_,_,.cons _ t=>by simp [t.length]
theorem Bz {m:Mem} {F:Nat→Prop} {σ:Nat→Value} {H:Heap} {nx:Nat} {L:Frame} {t:Tr Value} (hx:Ctx Γ m F σ H nx) (hl:RL m F (htag H) σ nx L t) {o:Operand} {x:PV} (h:AU Γ L o=some x) :
 RP m F (htag H) σ nx x (ev t o):=by
 cases o with
 |tmp i=>exact hl i x h
 |const v=>exact Xj h
 |global g =>
  simp only [AU,Option.map_eq_some_iff] at h;obtain ⟨⟨vs,e⟩,h1,rfl⟩:=h;obtain ⟨h2,h3,h4⟩:=hx.gl g vs e h1;exact .p (.E8 h2 h3 rfl (by simp [takeN]) (IE h4) (Dh h4))
 |func f =>
  cases h;exact .clo .nil .nil
end
section
open Go.Am
structure Env where
 P:Program
 O:CB
 G:List Nat
 Γ:Nat→Option (List Value×TypeId)
structure Base where
 m:Mem
 F:Nat→Prop
 σ:Nat→Value
 H:Heap
 nx:Nat
def Base.to (B:Base) (m:Mem) (F:Nat→Prop) (σ:Nat→Value) (H:Heap) (nx:Nat):Prop:=Step B.m B.F B.σ B.H B.nx m F σ H nx
def Quiet (m m':Mem):Prop:=∀ k,k≤m.low→k≤m.size→k≤m'.low
def Aa (E:Env) (w:Bool) (o:Oper) (L:Frame) (H:Heap) (nx:Nat) (Q:PV→Heap→Nat→Prop):Prop :=
 ∀ m F σ t,Ctx E.Γ m F σ H nx→RL m F (htag H) σ nx L t →
  Gs E.P E.O E.G o ⟨t,m⟩ fun v m'=>∃ r H' nx' F' σ',Q r H' nx'∧Ctx E.Γ m' F' σ' H' nx'∧RP m' F' (htag H') σ' nx' r v∧Step m F σ H nx m' F' σ' H' nx'∧(w=false→Quiet m m')
def Ah (E:Env) (bn:Nat) (ops:Array Oper) (l:List Oper) (L:Frame) (H:Heap) (nx:Nat) (Q:Frame→Heap→Nat→Prop):Prop :=
 ∀ (B:Base),B.nx=bn→∀ m F σ t,Ctx E.Γ m F σ H nx→RL m F (htag H) σ nx L t→B.to m F σ H nx →
  UM E.P E.O E.G ops l ⟨t,m⟩ fun s'=>∃ L' H' nx' F' σ',Q L' H' nx'∧Ctx E.Γ s'.m F' σ' H' nx'∧RL s'.m F' (htag H') σ' nx' L' s'.t∧B.to s'.m F' σ' H' nx'
def Af (E:Env) (bn:Nat) (ops:Array Oper) (i:Nat) (l:List Oper) (L:Frame) (H:Heap) (nx:Nat) (Q:Frame→Heap→Nat→Prop):Prop :=
 ∀ (B:Base),B.nx=bn→∀ m F σ t,Ctx E.Γ m F σ H nx→RL m F (htag H) σ nx L t→B.to m F σ H nx →
  I9 E.P E.O E.G ops i l ⟨t,m⟩ fun s'=>∃ L' H' nx' F' σ',Q L' H' nx'∧Ctx E.Γ s'.m F' σ' H' nx'∧RL s'.m F' (htag H') σ' nx' L' s'.t∧B.to s'.m F' σ' H' nx'
def Ad (E:Env) (bn:Nat) (c:Code) (L:Frame) (H:Heap) (nx:Nat) (Q:BM→Frame→Heap→Nat→Prop):Prop :=
 ∀ (B:Base),B.nx=bn→∀ m F σ t,Ctx E.Γ m F σ H nx→RL m F (htag H) σ nx L t→B.to m F σ H nx →
  Ns E.P E.O E.G c ⟨t,m⟩ fun e s'=>∃ L' H' nx' F' σ',Q e L' H' nx'∧Ctx E.Γ s'.m F' σ' H' nx'∧RL s'.m F' (htag H') σ' nx' L' s'.t∧B.to s'.m F' σ' H' nx'
def Az (E:Env) (f:FuncId) (args:List PV) (H:Heap) (nx:Nat) (Q:PV→Heap→Nat→Prop):Prop :=
 ∀ m F σ BF,Ctx E.Γ m F σ H nx→Dt m F (htag H) σ nx args BF →
  Jh E.P E.O E.G f BF m fun v m'=>∃ r H' nx' F' σ',Q r H' nx'∧Ctx E.Γ m' F' σ' H' nx'∧RP m' F' (htag H') σ' nx' r v∧Step m F σ H nx m' F' σ' H' nx'
variable {E:Env} {bn:Nat} {L:Frame} {H:Heap} {nx:Nat} {Q:BM→Frame→Heap→Nat→Prop}
theorem Ad.mono {c:Code} {R:BM→Frame→Heap→Nat→Prop} (h:Ad E bn c L H nx R) (hq:∀ e L' H' nx',R e L' H' nx'→Q e L' H' nx'):Ad E bn c L H nx Q :=
 fun B hB m F σ t h1 h2 h3=>(h B hB m F σ t h1 h2 h3).mono fun _ _ ⟨L',H',nx',F',σ',q,r⟩=>⟨L',H',nx',F',σ',hq _ _ _ _ q,r⟩
theorem Ad.seq {a b:Code} (h:Ad E bn a L H nx fun e L' H' nx'=>match e with| .normal=>Ad E bn b L' H' nx' Q| .ret=>Q .ret L' H' nx'| .exit i=>Q (.exit i) L' H' nx'):Ad E bn (.seq a b) L H nx Q:=by
 intro B hB m F σ t h1 h2 h3;refine Ns.seq ((h B hB m F σ t h1 h2 h3).mono ?_);rintro e s' ⟨L',H',nx',F',σ',q,c1,c2,c3⟩;cases e with
 |normal=>exact q B hB _ _ _ _ c1 c2 c3
 |ret=>grind
 |exit i=>grind
theorem Ad.skip (h:Q .normal L H nx):Ad E bn .skip L H nx Q:=fun _ _ _ F σ _ h1 h2 h3=>Ns.skip ⟨L,H,nx,F,σ,h,h1,h2,h3⟩
theorem Ad.ret (h:Q .ret L H nx):Ad E bn .ret L H nx Q:=fun _ _ _ F σ _ h1 h2 h3=>Ns.ret ⟨L,H,nx,F,σ,h,h1,h2,h3⟩
theorem Ad.exit {i:Nat} (h:Q (.exit i) L H nx):Ad E bn (.exit i) L H nx Q:=fun _ _ _ F σ _ h1 h2 h3=>Ns.exit ⟨L,H,nx,F,σ,h,h1,h2,h3⟩
theorem Ih {Γ:Nat→Option (List Value×TypeId)} {m:Mem} {F:Nat→Prop} {σ:Nat→Value} {t:Tr Value} {b:Bool} {o:Operand} (hx:Ctx Γ m F σ H nx) (hl:RL m F (htag H) σ nx L t) (h:AU Γ L o=some (.p (.bool b))):ev t o=.bool b:=by
 have:=Bz hx hl h;generalize hv:ev t o=v at this;rcases this with ⟨h⟩
 rename_i h;cases h;rfl
theorem Ad.cond {c:Operand} {a b:Code} (t:Bool) (hc:AU E.Γ L c=some (.p (.bool t))) (ht:t=true→Ad E bn a L H nx Q) (hf:t=false→Ad E bn b L H nx Q):Ad E bn (.cond c a b) L H nx Q :=
 fun B hB m F σ u h1 h2 h3=>Ns.cond t (Ih h1 h2 hc) (fun e=>ht e B hB m F σ u h1 h2 h3) (fun e=>hf e B hB m F σ u h1 h2 h3)
theorem Ad.cond_true {c:Operand} {a b:Code} (hc:AU E.Γ L c=some (.p (.bool true))) (ht:Ad E bn a L H nx Q):Ad E bn (.cond c a b) L H nx Q:=Ad.cond true hc (fun _=>ht) (fun h=>by cases h)
theorem Ad.cond_false {c:Operand} {a b:Code} (hc:AU E.Γ L c=some (.p (.bool false))) (hf:Ad E bn b L H nx Q):Ad E bn (.cond c a b) L H nx Q:=Ad.cond false hc (fun h=>by cases h) (fun _=>hf)
theorem Ad.Aq {c:Operand} {a b:Code} {p:Prop} {_:Decidable p} (hc:AU E.Γ L c=some (.p (.bool (decide p)))) (ht:p→Ad E bn a L H nx Q) (hf:¬ p→Ad E bn b L H nx Q):Ad E bn (.cond c a b) L H nx Q :=
 Ad.cond (decide p) hc (fun h=>ht (of_decide_eq_true h)) (fun h=>hf (of_decide_eq_false h))
theorem Ad.block {id:Nat} {b:Code} (h:Ad E bn b L H nx fun e L' H' nx'=>match e with| .normal=>Q .normal L' H' nx'| .ret=>Q .ret L' H' nx'| .exit i=>if i=id then Q .normal L' H' nx' else Q (.exit i) L' H' nx') :
 Ad E bn (.block id b) L H nx Q:=by
 intro B hB m F σ t h1 h2 h3;refine Ns.block ((h B hB m F σ t h1 h2 h3).mono ?_);grind
theorem Ad.region {id:Nat} {ops:Array Oper} (h:Ah E bn ops ops.toList L H nx (Q .normal)):Ad E bn (.region id ops false) L H nx Q :=
 fun B hB m F σ t h1 h2 h3=>Ns.region (h B hB m F σ t h1 h2 h3)
theorem Ad.Dq {id:Nat} {ops:Array Oper} (h:Af E bn ops 0 ops.toList L H nx (Q .normal)):Ad E bn (.region id ops true) L H nx Q :=
 fun B hB m F σ t h1 h2 h3=>Ns.Dq (h B hB m F σ t h1 h2 h3)
mutual
inductive FLe:FV→FV→Prop
 |refl (x:FV):FLe x x
 |nil (e:TypeId):FLe (.val (.slice none 0 0)) (.lst e [] 0)
 |agg {cs ds:List FV} (h:FK cs ds):FLe (.agg cs) (.agg ds)
 |lst {e:TypeId} {n:Nat} {cs ds:List FV} (h:FK cs ds):FLe (.lst e cs n) (.lst e ds n)
 |E8 {cs ds:List FV} (h:FK cs ds):FLe (.E8 cs) (.E8 ds)
 |own {e:TypeId} {n:Nat} {cs:List FV}:FLe (.own e cs n) (.lst e cs n)
inductive FK:List FV→List FV→Prop
 |refl (l:List FV):FK l l
 |cons {a b:FV} {l l':List FV} (h:FLe a b) (t:FK l l'):FK (a::l) (b::l')
end
mutual
inductive tK:PV→PV→Prop
 |refl (x:PV):tK x x
 |p {x y:FV} (h:FLe x y):tK (.p x) (.p y)
 |agg {cs ds:List PV} (h:OY cs ds):tK (.agg cs) (.agg ds)
 |Eb {cs ds:List PV} (h:OY cs ds):tK (.Eb cs) (.Eb ds)
inductive OY:List PV→List PV→Prop
 |refl (l:List PV):OY l l
 |cons {a b:PV} {l l':List PV} (h:tK a b) (t:OY l l'):OY (a::l) (b::l')
end
theorem tK.of_eq {x y:PV} (h:x=y):tK x y:=h▸.refl _
theorem OY.of_eq {x y:List PV} (h:x=y):OY x y:=h▸.refl _
mutual
theorem FLe.length {cs ds:List FV}:FK cs ds→cs.length=ds.length
 | .refl _=>rfl
 | .cons _ t=>by simp [FLe.length t]
end
section
variable {m:Mem} {F:Nat→Prop}
mutual
theorem RF.le:∀ {x y:FV},FLe x y→∀ {v:Value},RF m F x v→RF m F y v
 |_,_,.refl _,_,h=>h
 |_,_,.nil e,_,h=>by cases h;exact RF.nil e
 |_,_,.agg h,_,r=>by cases r with|agg h1 hc=>exact .agg (Dj.le h h1) hc
 |_,_,.lst h,_,r=>by
  cases r with
  |nil=>cases h with|refl=>exact .nil _
  |room=>cases h with|refl=>exact .room _ _ _ _
  |lst hF hm hw h1 hc=>exact .lst hF hm (by rw [← FLe.length h];exact hw) (Dj.le h h1) hc
 |_,_,.E8 h,_,r=>by cases r with|E8 hF hm hg hw h1 hc=>exact .E8 hF hm hg (by rw [← FLe.length h];exact hw) (Dj.le h h1) hc
 |_,_,.own,_,r=>by
  cases r with
  |own hF hm hw h1 hc=>exact .lst hF hm hw h1 hc
  |Tv=>exact .nil _
  |QV=>exact .room _ _ _ _
theorem Dj.le:∀ {x y:List FV},FK x y→∀ {v:List Value},Dj m F x v→Dj m F y v
 |_,_,.refl _,_,h=>h
 |_,_,.cons h t,_,r=>by cases r with|cons h1 t1=>exact .cons (RF.le h h1) (Dj.le t t1)
end
variable {T:Nat→Option Tg} {σ:Nat→Value} {n:Nat}
mutual
theorem RP.le:∀ {x y:PV},tK x y→∀ {v:Value},RP m F T σ n x v→RP m F T σ n y v
 |_,_,.refl _,_,h=>h
 |_,_,.p h,_,r=>by cases r with|p h1=>exact .p (RF.le h h1)
 |_,_,.agg h,_,r=>by cases r with|agg h1 hc=>exact .agg (Dt.le h h1) hc
 |_,_,.Eb h,_,r=>by cases r with|Eb h1=>exact .Eb (Dt.le h h1)
theorem Dt.le:∀ {x y:List PV},OY x y→∀ {v:List Value},Dt m F T σ n x v→Dt m F T σ n y v
 |_,_,.refl _,_,h=>h
 |_,_,.cons h t,_,r=>by cases r with|cons h1 t1=>exact .cons (RP.le h h1) (Dt.le t t1)
end
end
mutual
def PV.under (k:Nat):PV→Prop
 | .p _=>True
 | .agg cs=>C9.under k cs
 | .Eb cs=>C9.under k cs
 | .vec b _ _ _=>b<k
 | .ref b _=>b<k
 | .EH b _ _=>b<k
 | .mref b=>b<k
 | .clo _ fs cs=>C9.under k fs∧C9.under k cs
def C9.under (k:Nat):List PV→Prop
 |[]=>True
 |c::cs=>PV.under k c∧C9.under k cs
end
theorem C9.Bj (k:Nat):∀ cs:List FV,C9.under k (cs.map .p)
 |[]=>trivial
 |_::cs=>⟨trivial,C9.Bj k cs⟩
section
variable {m:Mem} {F:Nat→Prop} {T T':Nat→Option Tg} {σ:Nat→Value} {nx nx':Nat}
mutual
theorem RP.low (hT:∀ b t,T' b=some t→T b=some t):∀ {x:PV} {v:Value},x.under nx'→RP m F T σ nx x v→RP m F T' σ nx' x v
 |_,_,_,.p h=>.p h
 |_,_,hb,.agg h hc=>.agg (Dt.low hT hb h) hc
 |_,_,hb,.Eb h=>.Eb (Dt.low hT hb h)
 |_,_,hb,.vec _ hc h=>.vec hb hc fun n ht=>h n (hT _ _ ht)
 |_,_,hb,.ref _ hc h=>.ref hb hc fun ht=>h (hT _ _ ht)
 |_,_,hb,.EH _ hc h=>.EH hb hc fun n ht=>h n (hT _ _ ht)
 |_,_,hb,.mref _ hc h=>.mref hb hc fun ht=>h (hT _ _ ht)
 |_,_,hb,.clo h1 h2=>.clo (Dt.low hT hb.1 h1) (Dt.low hT hb.2 h2)
theorem Dt.low (hT:∀ b t,T' b=some t→T b=some t):∀ {x:List PV} {v:List Value},C9.under nx' x→Dt m F T σ nx x v→Dt m F T' σ nx' x v
 |_,_,_,.nil=>.nil
 |_,_,hb,.cons h t=>.cons (RP.low hT hb.1 h) (Dt.low hT hb.2 t)
end
end
def Gq (k:Nat):Frame→Frame→Prop
 |[],_=>True
 |(i,v0)::L0,L=>(v0.under k∧∃ v,Fp L i=some v∧tK v v0)∧Gq k L0 L
inductive JW:HB→HB→Prop
 |refl (x:HB):JW x x
 |box {e:TypeId} {cs ds:List PV} (h:OY cs ds):JW (.box e cs) (.box e ds)
 |vec {e:TypeId} {cs ds:List FV} {n k:Nat} {z:Bool} (h:FK cs ds) (hn:n=k):JW (.vec e cs n z) (.vec e ds k z)
theorem JW.of_eq {x y:HB} (h:x=y):JW x y:=h▸.refl _
def HB.under (k:Nat):HB→Prop
 | .box _ cs=>C9.under k cs
 | .QN _ cs _=>C9.under k cs
 | .Jz _ cs=>C9.under k cs
 |_=>True
def BG (k:Nat):Heap→Heap→Prop
 |[],_=>True
 |(i,x0)::H0,H=>(i<k∧x0.under k∧∃ x,hget H i=some x∧JW x x0)∧BG k H0 H
structure YR (L:Frame) (H:Heap) (nx:Nat) (L0:Frame) (H0:Heap) (Dw:Nat):Prop where
 n:Dw≤nx
 l:Gq Dw L0 L
 h:BG Dw H0 H
theorem Gq.get {k:Nat} {L:Frame}:∀ {L0:Frame},Gq k L0 L→∀ i v0,Fp L0 i=some v0→v0.under k∧∃ v,Fp L i=some v∧tK v v0
 |[],_,_,_,h=>by cases h
 |(j,w)::L0,⟨h1,h2⟩,i,v0,h=>by
  rw [Ec] at h;by_cases e:j=i
  ·grind
  ·rw [if_neg e] at h;exact Gq.get h2 i v0 h
theorem BG.get {k:Nat} {H:Heap}:∀ {H0:Heap},BG k H0 H→∀ i v0,hget H0 i=some v0→i<k∧v0.under k∧∃ v,hget H i=some v∧JW v v0
 |[],_,_,_,h=>by cases h
 |(j,w)::L0,⟨h1,h2⟩,i,v0,h=>by
  rw [Bo] at h;by_cases e:j=i
  ·grind
  ·rw [if_neg e] at h;exact BG.get h2 i v0 h
theorem JW.tag {x y:HB} (h:JW x y):x.tag=y.tag:=by
 cases h with
 |refl=>rfl
 |box=>rfl
 |vec _ hn=>simp [HB.tag,hn]
theorem BG.tag {k:Nat} {H H0:Heap} (h:BG k H0 H) (b:Nat) (t:Tg) (ht:htag H0 b=some t):htag H b=some t:=by
 unfold htag at ht ⊢;cases h0:hget H0 b with
 |none=>grind
 |some x0 =>
  obtain ⟨_,_,x,hx,hle⟩:=h.get b x0 h0;rw [hx,Option.map_some,hle.tag];grind
theorem YR.own {L0:Frame} {H0:Heap} {Dw:Nat} (h:YR L H nx L0 H0 Dw) {σ:Nat→Value} {c:Nat} (ho:Vm.own H0 σ c):Vm.own H σ c:=by
 obtain ⟨b,x,hb,hc⟩:=ho;obtain ⟨_,_,y,hy,_⟩:=h.h.get b x hb;exact ⟨b,y,hy,hc⟩
theorem YR.ctx {Γ:Nat→Option (List Value×TypeId)} {m:Mem} {F:Nat→Prop} {σ:Nat→Value} {L0:Frame} {H0:Heap} {Dw:Nat} (h:YR L H nx L0 H0 Dw) (hx:Ctx Γ m F σ H nx):Ctx Γ m F σ H0 Dw where
 fr:=hx.fr
 hp b x0 hb:=by
  obtain ⟨h1,h2,x,h3,h4⟩:=h.h.get b x0 hb;refine ⟨h1,?_⟩;obtain ⟨_,hr⟩:=hx.hp b x h3;have hT:=fun b t=>BG.tag h.h b t
  cases h4 with
  |refl =>
   cases x0 with
   |box e cs=>obtain ⟨c,vs,r1,r2,r3,r4,r5,r6⟩:=hr;exact ⟨c,vs,r1,r2,r3,r4,Dt.low hT h2 r5,r6⟩
   |vec e cs n z=>exact hr
   |map es=>exact hr
   |QN e cs n=>obtain ⟨c,g,vs,r1,r2,r3,r4,r5,r6⟩:=hr;exact ⟨c,g,vs,r1,r2,r3,r4,Dt.low hT h2 r5,r6⟩
   |Jz ks cs=>obtain ⟨r,l,clock,r1,r2,r3,r4,r5,r6,r7⟩:=hr;exact ⟨r,l,clock,r1,r2,r3,r4,r5,Dt.low hT h2 r6,r7⟩
  |box hle=>obtain ⟨c,vs,r1,r2,r3,r4,r5,r6⟩:=hr;exact ⟨c,vs,r1,r2,r3,r4,Dt.low hT h2 (Dt.le hle r5),r6⟩
  |vec hle hn =>
   subst hn;rcases hr with ⟨r1,r2,r3⟩|⟨c,g,vs,r1,r2,r3,r4,r5,r6⟩
   ·subst r1
    cases hle with|refl=>exact .inl ⟨rfl,r2,r3⟩
   ·exact .inr ⟨c,g,vs,r1,r2,r3,r4,Dj.le hle r5,r6⟩
 sep b b' x x' c h1 h2 h3 h4:=by
  obtain ⟨_,_,y,hy,_⟩:=h.h.get b x h1;obtain ⟨_,_,y',hy',_⟩:=h.h.get b' x' h2;exact hx.sep b b' y y' c hy hy' h3 h4
 gl:=hx.gl
theorem YR.rl {m:Mem} {F:Nat→Prop} {σ:Nat→Value} {L0:Frame} {H0:Heap} {Dw:Nat} (h:YR L H nx L0 H0 Dw) {t:Tr Value} (hl:RL m F (htag H) σ nx L t):RL m F (htag H0) σ Dw L0 t:=fun i v hi=>by
 obtain ⟨h1,w,h2,h3⟩:=h.l.get i v hi;exact RP.low (fun b t=>BG.tag h.h b t) h1 (RP.le h3 (hl i w h2))
theorem YR.step {B:Base} {m:Mem} {F:Nat→Prop} {σ:Nat→Value} {L0:Frame} {H0:Heap} {Dw:Nat} (h:YR L H nx L0 H0 Dw) (hb:B.nx≤Dw) (hs:B.to m F σ H nx):B.to m F σ H0 Dw where
 size:=hs.size
 keep:=hs.keep
 Ky:=hs.Ky
 Kw:=hs.Kw
 Jo c hc ho:=hs.Jo c hc (h.own ho)
 Vz:=hb
 names b hb:=by
  obtain ⟨h1,h2⟩:=hs.names b hb;cases h0:htag H0 b with
  |none=>exact ⟨trivial,fun _ _ e=>by cases e⟩
  |some t =>
   have:=BG.tag h.h b t h0;grind
 low:=hs.low
end
section
open Go.Am
variable {E:Env} {bn:Nat} {L:Frame} {H:Heap} {nx:Nat} {Q:BM→Frame→Heap→Nat→Prop}
theorem Ad.loop {α:Type} {b:Code} (Lf:α→Frame) (Hf:α→Heap) (Dw:Nat) (inv:α→Prop) (μ:α→Nat) (a0:α) (hb:bn≤Dw) (h0:inv a0) (hc:YR L H nx (Lf a0) (Hf a0) Dw)
 (hs:∀ a,inv a→Ad E bn b (Lf a) (Hf a) Dw fun e L' H' nx'=>match e with| .normal=>∃ a',inv a'∧μ a'<μ a∧YR L' H' nx' (Lf a') (Hf a') Dw| .ret=>Q .ret L' H' nx'| .exit i=>Q (.exit i) L' H' nx') :
 Ad E bn (.loop b) L H nx Q:=by
 intro B hB m F σ t h1 h2 h3;refine Ns.loop (fun n s=>∃ a F σ,inv a∧μ a=n∧Ctx E.Γ s.m F σ (Hf a) Dw∧RL s.m F (htag (Hf a)) σ Dw (Lf a) s.t∧B.to s.m F σ (Hf a) Dw) (μ a0) ⟨a0,F,σ,h0,rfl,hc.ctx h1,hc.rl h2,hc.step (by omega) h3⟩ ?_;rintro n s ⟨a,F1,σ1,ha,rfl,c1,c2,c3⟩;refine (hs a ha B hB s.m F1 σ1 s.t c1 c2 c3).mono ?_;rintro e s' ⟨L',H',nx',F',σ',q,d1,d2,d3⟩;cases e with
 |normal =>
  obtain ⟨a',i1,i2,i3⟩:=q;exact ⟨_,i2,a',F',σ',i1,rfl,i3.ctx d1,i3.rl d2,i3.step (by omega) d3⟩
 |ret=>grind
 |exit i=>grind
section
variable {ops:Array Oper} {o:Oper} {l:List Oper} {i:Nat} {R:Frame→Heap→Nat→Prop}
theorem Ah.nil (h:R L H nx):Ah E bn ops [] L H nx R:=fun _ _ _ F σ _ h1 h2 h3=>UM.nil ⟨L,H,nx,F,σ,h,h1,h2,h3⟩
theorem Af.nil (h:R L H nx):Af E bn ops i [] L H nx R:=fun _ _ _ F σ _ h1 h2 h3=>I9.nil ⟨L,H,nx,F,σ,h,h1,h2,h3⟩
def Ja (ops:Array Oper) (L:Frame) (o:Oper) (w:Bool):Prop :=
 match o.guard with
 |none=>w=true
 |some (j,want)=>∃ b d,(ops[j]?).bind (·.dst)=some d∧Fp L d=some (.p (.bool b))∧w=(b==want)
theorem Ja.wanted {Γ:Nat→Option (List Value×TypeId)} {m:Mem} {F:Nat→Prop} {σ:Nat→Value} {t:Tr Value} {w:Bool} (hx:Ctx Γ m F σ H nx) (hl:RL m F (htag H) σ nx L t) (h:Ja ops L o w):Region.wanted o (Eh ops t)=w:=by
 unfold Ja at h;unfold Region.wanted;split at h
 ·grind
 ·rename_i j want hg
  obtain ⟨b,d,h1,h2,h3⟩:=h;have hb:Cj t d=.bool b:=Ih (o:=.tmp d) hx hl h2;rw [hg];simp only [Eh,h1,hb,h3];cases b<;>cases want<;>rfl
theorem Ah.cons (hg:Ja ops L o true) (h:Aa E true o L H nx fun r H' nx'=>Ah E bn ops l (H8 L o.dst r) H' nx' R):Ah E bn ops (o::l) L H nx R:=by
 intro B hB m F σ t h1 h2 h3;refine UM.cons (hg.wanted h1 h2) ((h m F σ t h1 h2).mono ?_);rintro v m' ⟨r,H',nx',F',σ',q,c1,c2,c3,_⟩;exact q B hB m' F' σ' _ c1 ((h2.step c3 h1).put c2) (h3.trans c3)
theorem Ah.skip (hg:Ja ops L o false) (h:Ah E bn ops l (H8 L o.dst (.Eb [])) H nx R):Ah E bn ops (o::l) L H nx R:=by
 intro B hB m F σ t h1 h2 h3;refine UM.skip (hg.wanted h1 h2) (h B hB m F σ _ h1 (h2.put ?_) h3);exact .Eb .nil
theorem Xt (m:Mem) (k:Nat) (F:Nat→Prop):∀ c,F c→F c∧(m.at k).get c=m.get c :=by simp
theorem RL.at {Γ:Nat→Option (List Value×TypeId)} {m:Mem} {F:Nat→Prop} {T:Nat→Option Tg} {σ:Nat→Value} {t:Tr Value} (k:Nat) (h:RL m F T σ nx L t):RL (m.at k) F T σ nx L t :=
 fun i v hi=>(h i v hi).mono (Xt m k F) (Names.refl _ _ _) (ab _)
theorem Ctx.at {Γ:Nat→Option (List Value×TypeId)} {m:Mem} {F:Nat→Prop} {σ:Nat→Value} (k:Nat) (h:Ctx Γ m F σ H nx):Ctx Γ (m.at k) F σ H nx where
 fr:=h.fr
 hp b x hb:=by
  obtain ⟨h1,h2⟩:=h.hp b x hb;refine ⟨h1,?_⟩;cases x with
  |box e cs=>obtain ⟨c,vs,r1,r2,r3,r4,r5,r6⟩:=h2;exact ⟨c,vs,r1,r2,r3,r4,r5.mono (Xt m k F) (Names.refl _ _ _) (ab _),r6⟩
  |vec e cs n z =>
   rcases h2 with h2|⟨c,g,vs,r1,r2,r3,r4,r5,r6⟩
   ·exact .inl h2
   ·exact .inr ⟨c,g,vs,r1,r2,r3,r4,r5.mono (Xt m k F),r6⟩
  |map es=>obtain ⟨r,l,clock,r1,r2,r3,r4,r5,r6⟩:=h2;exact ⟨r,l,clock,r1,r2,r3,r4,r5.mono (Xt m k F),r6.mono (Xt m k F)⟩
  |QN e cs n=>obtain ⟨c,g,vs,r1,r2,r3,r4,r5,r6⟩:=h2;exact ⟨c,g,vs,r1,r2,r3,r4,r5.mono (Xt m k F) (Names.refl _ _ _) (ab _),r6⟩
  |Jz ks cs=>obtain ⟨r,l,clock,r1,r2,r3,r4,r5,r6,r7⟩:=h2;exact ⟨r,l,clock,r1,r2,r3,r4,r5.mono (Xt m k F),r6.mono (Xt m k F) (Names.refl _ _ _) (ab _),r7⟩
 sep:=h.sep
 gl:=h.gl
theorem Step.at {m m':Mem} {F F':Nat→Prop} {σ σ':Nat→Value} {H H':Heap} {nx nx':Nat} (h:Step (m.at m.size) F σ H nx m' F' σ' H' nx'):Step m F σ H nx (m'.at (min m.low m'.low)) F' σ' H' nx' where
 size:=h.size
 keep:=h.keep
 Ky:=h.Ky
 Kw:=h.Kw
 Jo:=h.Jo
 Vz:=h.Vz
 names:=h.names
 low k h1 h2 h3:=by
  have:=h.low k h2 h2 h3;simp only [Mem.a7d];omega
theorem Step.at0 (m:Mem) (k:Nat) (F:Nat→Prop) (σ:Nat→Value) (H:Heap) (nx:Nat) (hk:min m.low m.size≤k):Step m F σ H nx (m.at k) F σ H nx where
 size:=ab _
 keep _ _ _:=rfl
 Ky _ h:=h
 Kw _ _ h:=.inl h
 Jo _ _ h:=h
 Vz:=ab _
 names:=Names.refl _ _ _
 low j h1 h2 _:=by simp only [Mem.a7d];omega
theorem Af.cons {w:Bool} (hg:Ja ops L o true) (hw:barrier E.P ops i=w) (h:Aa E w o L H nx fun r H' nx'=>Af E bn ops (i+1) l (H8 L o.dst r) H' nx' R):Af E bn ops i (o::l) L H nx R:=by
 intro B hB m F σ t h1 h2 h3;refine I9.cons (hg.wanted h1 h2) ((h (m.at m.size) F σ t (h1.at _) (RL.at (Γ:=E.Γ) _ h2)).mono ?_);rintro v m' ⟨r,H',nx',F',σ',q,c1,c2,c3,c4⟩;refine ⟨?_,?_⟩
 ·cases w with
  |true=>grind
  |false=>exact .inr (.inl (c4 rfl m.size (ab _) (ab _)))
 ·refine q B hB _ F' σ' _ (c1.at _) (RL.at (Γ:=E.Γ) _ (((RL.at (Γ:=E.Γ) _ h2).step c3 (h1.at _)).put c2)) (h3.trans c3.at)
theorem Af.skip (hg:Ja ops L o false) (h:Af E bn ops (i+1) l (H8 L o.dst (.Eb [])) H nx R):Af E bn ops i (o::l) L H nx R:=by
 intro B hB m F σ t h1 h2 h3;refine I9.skip (hg.wanted h1 h2) (h B hB _ F σ _ (h1.at _) (RL.at (Γ:=E.Γ) _ (h2.put (.Eb .nil))) (h3.trans (Step.at0 _ _ _ _ _ _ (ab _))))
theorem Ah.split {j d:Nat} {want:Bool} {p:Prop} {_:Decidable p} (hg:o.guard=some (j,want)) (hd:(ops[j]?).bind (·.dst)=some d) (hb:Fp L d=some (.p (.bool (decide p))))
 (ht:p→Ah E bn ops (o::l) ((d,.p (.bool true))::L) H nx R) (hf:¬ p→Ah E bn ops (o::l) ((d,.p (.bool false))::L) H nx R):Ah E bn ops (o::l) L H nx R:=by
 have key:∀ b,decide p=b→Ah E bn ops (o::l) ((d,.p (.bool b))::L) H nx R→Ah E bn ops (o::l) L H nx R:=by
  intro b he h B hB m F σ t h1 h2 h3;refine h B hB m F σ t h1 (fun k x hk=>?_) h3;rw [Ec] at hk;by_cases e:d=k
  ·rw [if_pos e] at hk
   cases hk;have:=h2 d _ hb;grind
  ·rw [if_neg e] at hk;exact h2 k x hk
 by_cases h:p
 ·grind
 grind
theorem Af.split {j d:Nat} {want:Bool} {p:Prop} {_:Decidable p} (hg:o.guard=some (j,want)) (hd:(ops[j]?).bind (·.dst)=some d) (hb:Fp L d=some (.p (.bool (decide p))))
 (ht:p→Af E bn ops i (o::l) ((d,.p (.bool true))::L) H nx R) (hf:¬ p→Af E bn ops i (o::l) ((d,.p (.bool false))::L) H nx R):Af E bn ops i (o::l) L H nx R:=by
 have key:∀ b,decide p=b→Af E bn ops i (o::l) ((d,.p (.bool b))::L) H nx R→Af E bn ops i (o::l) L H nx R:=by
  intro b he h B hB m F σ t h1 h2 h3;refine h B hB m F σ t h1 (fun k x hk=>?_) h3;rw [Ec] at hk;by_cases e:d=k
  ·rw [if_pos e] at hk
   cases hk;have:=h2 d _ hb;grind
  ·rw [if_neg e] at hk;exact h2 k x hk
 by_cases h:p
 ·grind
 grind
end
def Y3 {α:Type}:Nat→List α→Option (List α)
 |0,_=>some []
 |_+1,[]=>none
 |n+1,a::l=>(Y3 n l).map (a::·)
def a8s:List PV→Option (List FV)
 |[]=>some []
 | .p x::l=>(a8s l).map (x::·)
 |_::_=>none
def ru (l:List PV):PV:=match a8s l with
 |some fs=>.p (.agg fs)
 |none=>.agg l
def ZA (P:Program) (t:TypeId) (cs:List FV):Option FV :=
 match GN P t with
 |some false=>cs.head?
 |some true=>match P.info? t with
  |some i=>(Y3 i.size cs).map .agg
  |none=>none
 |none=>none
def zi (P:Program) (t:TypeId) (cs:List PV):Option PV :=
 match GN P t with
 |some false=>cs.head?
 |some true=>match P.info? t with
  |some i=>(Y3 i.size cs).map ru
  |none=>none
 |none=>none
def gZ (P:Program) (t:TypeId) (H:Heap):PV→Option PV
 | .p (.E8 cs)=>(ZA P t cs).map .p
 | .ref b off=>match hget H b with
  |some (.box _ cs)=>zi P t (cs.drop off)
  |_=>none
 | .EH b tag off=>match hget H b with
  |some (.vec _ cs n _)=>match Nat.decEq tag n with
   | .isTrue _=>(ZA P t (cs.drop off)).map .p
   | .isFalse _=>none
  |_=>none
 |_=>none
theorem Xk {m:Mem} {F:Nat→Prop}:∀ {n:Nat} {cs:List FV} {ws:List Value} {l:List FV},Dj m F cs ws→Y3 n cs=some l→∃ w,takeN n ws=some w∧Dj m F l w
 |0,_,_,_,_,h=>by cases h;exact ⟨[],by rfl,.nil⟩
 |n+1,[],_,_,_,h=>by cases h
 |n+1,c::cs,_,l,.cons h t,hl=>by
  simp only [Y3,Option.map_eq_some_iff] at hl;obtain ⟨l',h1,rfl⟩:=hl;obtain ⟨w,h2,h3⟩:=Xk t h1;refine ⟨_::w,?_,.cons h h3⟩;unfold takeN at h2 ⊢;grind
section
variable {m:Mem} {F:Nat→Prop} {T:Nat→Option Tg} {σ:Nat→Value} {n':Nat}
theorem Ud:∀ {n:Nat} {cs:List PV} {ws:List Value} {l:List PV},Dt m F T σ n' cs ws→Y3 n cs=some l→∃ w,takeN n ws=some w∧Dt m F T σ n' l w
 |0,_,_,_,_,h=>by cases h;exact ⟨[],by rfl,.nil⟩
 |n+1,[],_,_,_,h=>by cases h
 |n+1,c::cs,_,l,.cons h t,hl=>by
  simp only [Y3,Option.map_eq_some_iff] at hl;obtain ⟨l',h1,rfl⟩:=hl;obtain ⟨w,h2,h3⟩:=Ud t h1;refine ⟨_::w,?_,.cons h h3⟩;unfold takeN at h2 ⊢;grind
theorem Dj.drop:∀ {cs:List FV} {vs:List Value} (k:Nat),Dj m F cs vs→Dj m F (cs.drop k) (vs.drop k)
 |_,_,0,h=>h
 |_,_,_+1,.nil=>.nil
 |_,_,k+1,.cons _ t=>Dj.drop k t
theorem Dt.drop:∀ {cs:List PV} {vs:List Value} (k:Nat),Dt m F T σ n' cs vs→Dt m F T σ n' (cs.drop k) (vs.drop k)
 |_,_,0,h=>h
 |_,_,_+1,.nil=>.nil
 |_,_,k+1,.cons _ t=>Dt.drop k t
theorem ZT:∀ {l:List PV} {fs:List FV} {vs:List Value},a8s l=some fs→Dt m F T σ n' l vs→Dj m F fs vs
 |[],_,_,h,.nil=>by cases h;exact .nil
 | .p x::l,_,_,h,.cons h1 t=>by
  simp only [a8s,Option.map_eq_some_iff] at h;obtain ⟨fs,h2,rfl⟩:=h;cases h1 with
  |p h1=>exact .cons h1 (ZT h2 t)
 | .agg _::_,_,_,h,_=>by cases h
 | .Eb _::_,_,_,h,_=>by cases h
 | .vec ..::_,_,_,h,_=>by cases h
 | .ref ..::_,_,_,h,_=>by cases h
 | .EH ..::_,_,_,h,_=>by cases h
 | .mref ..::_,_,_,h,_=>by cases h
 | .clo ..::_,_,_,h,_=>by cases h
theorem WG {l:List PV} {vs:List Value} (h:Dt m F T σ n' l vs) (hc:vs.all BK=true):RP m F T σ n' (ru l) (.agg vs.toArray):=by
 unfold ru;split
 ·rename_i fs hf
  exact .p (.agg (ZT hf h) hc)
 ·exact .agg h hc
end
theorem Fz {k:Nat} {l w:List Value} (h:takeN k l=some w):w=l.take k∧k≤l.length:=by
 unfold takeN at h;grind
theorem UN {l:List Value} (h:l.all BK=true) (k:Nat):(l.take k).all BK=true :=by grind
theorem LC {l:List Value} (h:l.all BK=true) (k:Nat):(l.drop k).all BK=true :=by grind
end
section
open Go.Am
variable {E:Env} {bn:Nat} {L:Frame} {H:Heap} {nx:Nat}
theorem pI {j k:Nat} {l ws w:List Value} (h:takeN k l=some ws) (h2:takeN j ws=some w):takeN j l=some w:=by
 obtain ⟨rfl,hk⟩:=Fz h;obtain ⟨rfl,hj⟩:=Fz h2;unfold takeN;grind
theorem a7p {m:Mem} {F:Nat→Prop} {cs:List FV} {ws:List Value} {x:FV} (h:Dj m F cs ws) (hx:cs.head?=some x):∃ v,takeN 1 ws=some [v]∧RF m F x v:=by
 cases h with
 |nil=>grind
 |cons h t=>cases hx;exact ⟨_,by rfl,h⟩
section
variable {m:Mem} {F:Nat→Prop} {T:Nat→Option Tg} {σ:Nat→Value} {n':Nat}
theorem a3b {cs:List PV} {ws:List Value} {x:PV} (h:Dt m F T σ n' cs ws) (hx:cs.head?=some x):∃ v,takeN 1 ws=some [v]∧RP m F T σ n' x v:=by
 cases h with
 |nil=>grind
 |cons h t=>cases hx;exact ⟨_,by rfl,h⟩
end
theorem dQ {P:Program} {m:Mem} {F:Nat→Prop} {t:TypeId} {a:Addr} {cs:List FV} {vs ws:List Value} {e:TypeId} {g:Nat} {ro:Bool} {x:FV} (hm:m.get a.block=.cells vs e g ro) (hlt:a.block<m.size) (hg:Oh a=g)
 (hw:takeN cs.length (vs.drop a.off)=some ws) (h:Dj m F cs ws) (hc:ws.all BK=true) (hx:ZA P t cs=some x):∃ v,Nr P t a m=some v∧RF m F x v:=by
 unfold ZA at hx;unfold Nr;unfold ZP;have key:∀ n w,takeN n ws=some w→m.Em a n=some w:=by
  intro n w hn;unfold Mem.Em;rw [hm];simp only [hg,if_true];exact pI hw hn
 cases hag:GN P t with
 |none=>grind
 |some b =>
  rw [hag] at hx;cases b with
  |false =>
   obtain ⟨v,h1,h2⟩:=a7p h hx;grind
  |true =>
   cases hi:P.info? t with
   |none=>grind
   |some i =>
    rw [hi] at hx;simp only [Option.map_eq_some_iff] at hx;obtain ⟨l,h1,rfl⟩:=hx;obtain ⟨w,h2,h3⟩:=Xk h h1;refine ⟨.agg w.toArray,by grind,.agg h3 ?_⟩;rw [(Fz h2).1];grind
theorem a0e {P:Program} {m:Mem} {F:Nat→Prop} {T:Nat→Option Tg} {σ:Nat→Value} {n':Nat} {t:TypeId} {a:Addr} {cs:List PV} {vs ws:List Value} {e:TypeId} {g:Nat} {ro:Bool} {x:PV} (hm:m.get a.block=.cells vs e g ro) (hlt:a.block<m.size) (hg:Oh a=g)
 (hw:vs.drop a.off=ws) (h:Dt m F T σ n' cs ws) (hc:ws.all BK=true) (hx:zi P t cs=some x):∃ v,Nr P t a m=some v∧RP m F T σ n' x v:=by
 unfold zi at hx;unfold Nr;unfold ZP;have key:∀ n w,takeN n ws=some w→m.Em a n=some w:=by
  intro n w hn;unfold Mem.Em;grind
 cases hag:GN P t with
 |none=>grind
 |some b =>
  rw [hag] at hx;cases b with
  |false =>
   obtain ⟨v,h1,h2⟩:=a3b h hx;grind
  |true =>
   cases hi:P.info? t with
   |none=>grind
   |some i =>
    rw [hi] at hx;simp only [Option.map_eq_some_iff] at hx;obtain ⟨l,h1,rfl⟩:=hx;obtain ⟨w,h2,h3⟩:=Ud h h1;refine ⟨.agg w.toArray,by grind,WG h3 ?_⟩;rw [(Fz h2).1];grind
theorem gW {P:Program} {Γ:Nat→Option (List Value×TypeId)} {m:Mem} {F:Nat→Prop} {σ:Nat→Value} {t:TypeId} {a x:PV} {v:Value} (hx:Ctx Γ m F σ H nx) (ha:RP m F (htag H) σ nx a v) (hl:gZ P t H a=some x) :
 ∃ p u,v=.pointer (some p)∧Nr P t p m=some u∧RP m F (htag H) σ nx x u:=by
 unfold gZ at hl;split at hl
 ·simp only [Option.map_eq_some_iff] at hl
  obtain ⟨y,h1,rfl⟩:=hl;cases ha with
  |p h =>
   cases h with
   |E8 hF hm hg hw h hc =>
    obtain ⟨u,h2,h3⟩:=dQ (a:=⟨_,_,_⟩) hm (hx.fr _ hF) hg hw h hc h1;exact ⟨_,u,rfl,h2,.p h3⟩
 ·rename_i b off
  cases hb:hget H b with
  |none=>grind
  |some y =>
   rw [hb] at hl;cases y with
   |box e cs =>
    obtain ⟨_,c,vs,r1,r2,r3,r4,r5,r6⟩:=hx.hp b _ hb;cases ha with
    |ref hb' hc h =>
     obtain ⟨c',h1,h2⟩:=h (by simp [htag,hb,HB.tag]);rw [r1] at h1;cases h1;obtain ⟨u,h3,h4⟩:=a0e (a:=⟨c,off,none⟩) r4 r2 rfl rfl (Dt.drop off r5) (LC r6 _) hl;grind
   |vec e cs n z=>grind
   |map es=>grind
   |QN e cs n=>grind
   |Jz ks cs=>grind
 ·rename_i b tag off
  cases hb:hget H b with
  |none=>grind
  |some y =>
   rw [hb] at hl;cases y with
   |vec e cs n z =>
    simp only at hl;split at hl
    ·rename_i hn _
     subst hn;simp only [Option.map_eq_some_iff] at hl;obtain ⟨y,hl,rfl⟩:=hl;cases ha with
     |EH hb' hc h =>
      obtain ⟨_,h0⟩:=h tag (by simp [htag,hb,HB.tag]);obtain ⟨c,k,g,h1,h2⟩:=h0 rfl;rcases (hx.hp b _ hb).2 with ⟨r1,r2,r3⟩|⟨c',g',vs,r1,r2,r3,r4,r5,r6,r7⟩
      ·rcases r3 with ⟨r3,_⟩|⟨_,_,_,r3,_⟩<;>rw [r3] at h1<;>cases h1
      ·rw [r1] at h1
       cases h1;subst h2;obtain ⟨u,h3,h4⟩:=dQ (a:=⟨c,off,some g⟩) (cs:=cs.drop off) (ws:=vs.drop off) r4 r2 rfl (by simp only [takeN,List.length_drop,r5.length];grind) (Dj.drop off r5) (LC r6 _) hl;exact ⟨_,u,rfl,h3,.p h4⟩
    grind
   |box e cs=>grind
   |map es=>grind
   |QN e cs n=>grind
   |Jz ks cs=>grind
 grind
def CG:Nat→List PV→Frame
 |_,[]=>[]
 |i,a::l=>(i,a)::CG (i+1) l
theorem Jd:∀ (l:List PV) (k i:Nat) (v:PV),Fp (CG k l) i=some v→k≤i∧l[i-k]?=some v
 |[],_,_,_,h=>by cases h
 |a::l,k,i,v,h=>by
  simp only [CG,Ec] at h;by_cases e:k=i
  ·grind
  ·rw [if_neg e] at h
   obtain ⟨h1,h2⟩:=Jd l (k+1) i v h;grind
theorem Dt.get {m:Mem} {F:Nat→Prop} {T:Nat→Option Tg} {σ:Nat→Value} {n':Nat}:∀ {cs:List PV} {vs:List Value} {i:Nat} {c:PV},Dt m F T σ n' cs vs→cs[i]?=some c→∃ v,vs[i]?=some v∧RP m F T σ n' c v
 |_,_,i,_,.nil,h=>by grind
 |_,_,0,_,.cons h _,hc=>by grind
 |_,_,i+1,c,.cons (cs:=cs) _ t,hc=>by
  have hc':cs[i]?=some c:=by grind
  obtain ⟨v,h1,h2⟩:=Dt.get t hc';grind
theorem Dt.length {m:Mem} {F:Nat→Prop} {T:Nat→Option Tg} {σ:Nat→Value} {n':Nat}:∀ {cs:List PV} {vs:List Value},Dt m F T σ n' cs vs→cs.length=vs.length
 |_,_,.nil=>rfl
 |_,_,.cons _ t=>by simp [t.length]
def Rh (P:Program) (L:Frame) (H:Heap):ResultVar→Option PV
 | .tmp t=>Fp L t
 | .cell a t=>match Fp L a with
  |some p=>gZ P t H p
  |none=>none
def oZ {α β:Type} (f:α→Option β):List α→Option (List β)
 |[]=>some []
 |a::l=>match f a with
  |some b=>match oZ f l with
   |some r=>some (b::r)
   |none=>none
  |none=>none
def Ez (P:Program) (rs:List ResultVar) (L:Frame) (H:Heap):Option PV :=
 match oZ (Rh P L H) rs with
 |some [v]=>some v
 |some vs=>some (.Eb vs)
 |none=>none
theorem rQ {P:Program} {Γ:Nat→Option (List Value×TypeId)} {m:Mem} {F:Nat→Prop} {σ:Nat→Value} {t:Tr Value} {r:ResultVar} {x:PV} (hx:Ctx Γ m F σ H nx) (hl:RL m F (htag H) σ nx L t) (h:Rh P L H r=some x) :
 ∃ v,J3 P ⟨t,m⟩ r=some v∧RP m F (htag H) σ nx x v:=by
 cases r with
 |tmp i=>exact ⟨_,rfl,hl i x h⟩
 |cell a ty =>
  simp only [Rh] at h;cases ha:Fp L a with
  |none=>grind
  |some p =>
   rw [ha] at h;obtain ⟨q,u,h1,h2,h3⟩:=gW hx (hl a p ha) h;refine ⟨u,?_,h3⟩;simp only [J3,h1,h2]
theorem VF {P:Program} {Γ:Nat→Option (List Value×TypeId)} {m:Mem} {F:Nat→Prop} {σ:Nat→Value} {t:Tr Value} (hx:Ctx Γ m F σ H nx) (hl:RL m F (htag H) σ nx L t):∀ {rs:List ResultVar} {xs:List PV},oZ (Rh P L H) rs=some xs →
 ∃ vs,Oc (J3 P ⟨t,m⟩) rs=some vs∧Dt m F (htag H) σ nx xs vs
 |[],_,h=>by cases h;exact ⟨[],rfl,.nil⟩
 |r::rs,xs,h=>by
  simp only [oZ] at h;cases h1:Rh P L H r with
  |none=>grind
  |some x =>
   rw [h1] at h;cases h2:oZ (Rh P L H) rs with
   |none=>grind
   |some ys =>
    rw [h2] at h;cases h;obtain ⟨v,h3,h4⟩:=rQ hx hl h1;obtain ⟨vs,h5,h6⟩:=VF hx hl h2;exact ⟨v::vs,by simp only [Oc,h3,h5],.cons h4 h6⟩
theorem KF {P:Program} {Γ:Nat→Option (List Value×TypeId)} {m:Mem} {F:Nat→Prop} {σ:Nat→Value} {t:Tr Value} {fn:Func} {x:PV} (hx:Ctx Γ m F σ H nx) (hl:RL m F (htag H) σ nx L t) (h:Ez P fn.results.toList L H=some x) :
 ∃ v,Fa P fn ⟨t,m⟩=some v∧RP m F (htag H) σ nx x v:=by
 unfold Ez at h;split at h
 ·rename_i v0 hv
  cases h;obtain ⟨vs,h1,h2⟩:=VF hx hl hv;cases h2 with
  |cons h3 t3 =>
   cases t3;exact ⟨_,by simp only [Fa,h1],h3⟩
 ·rename_i _ vs0 hne hv
  cases h;obtain ⟨vs,h1,h2⟩:=VF hx hl hv;refine ⟨.tuple vs.toArray,?_,.Eb h2⟩;simp only [Fa,h1];split
  ·rename_i hh
   simp only [Option.some.injEq] at hh;subst hh;cases h2 with
   |cons h3 t3=>cases t3;grind
  ·grind
  grind
 grind
def Ret (bn:Nat) (Q:PV→Heap→Nat→Prop) (r0:PV) (H:Heap) (nx:Nat):Prop :=
 ∃ r H0 Dw,tK r0 r∧r.under Dw∧BG Dw H0 H∧Dw≤nx∧bn≤Dw∧Q r H0 Dw
def Done (P:Program) (rs:List ResultVar) (bn:Nat) (Q:PV→Heap→Nat→Prop) (e:BM) (L:Frame) (H:Heap) (nx:Nat):Prop :=
 match e with
 | .exit _=>False
 | .normal=>∃ r,Ez P rs L H=some r∧Ret bn Q r H nx
 | .ret=>∃ r,Ez P rs L H=some r∧Ret bn Q r H nx
theorem Az.enter {f:FuncId} {fn:Func} {c:Code} {args:List PV} {Q:PV→Heap→Nat→Prop} (ho:E.O f=none) (hf:E.P.funcs[f]?=some fn) (hb:fn.body=some c) (hok:IL E.G fn c=true) (hn:args.length≤fn.ntmps)
 (h:Ad E nx c (CG 0 args) H nx (Done E.P fn.results.toList nx Q)):Az E f args H nx Q:=by
 intro m F σ BF h1 h2;refine Jh.enter ho hf hb hok (by rw [← h2.length];omega) ((h ⟨m,F,σ,H,nx⟩ rfl m F σ _ h1 ?_ (Step.refl _ _ _ _ _)).mono ?_)
 ·intro i v hi
  obtain ⟨_,h3⟩:=Jd args 0 i v hi;obtain ⟨u,h4,h5⟩:=h2.get h3;have:=GL BF 0 .leaf i;grind
 ·rintro e s ⟨L',H',nx',F',σ',q,c1,c2,c3⟩
  have key:(∃ r,Ez E.P fn.results.toList L' H'=some r∧Ret nx Q r H' nx')→∃ v,Fa E.P fn s=some v∧∃ r H' nx' F' σ',Q r H' nx'∧Ctx E.Γ s.m F' σ' H' nx'∧RP s.m F' (htag H') σ' nx' r v∧Step m F σ H nx s.m F' σ' H' nx':=by
   rintro ⟨r0,hr,r,H0,Dw,q1,q2,q3,q4,q5,q6⟩;obtain ⟨v,h3,h4⟩:=KF c1 c2 hr;have hcov:YR L' H' nx' [] H0 Dw:=⟨q4,trivial,q3⟩
   exact ⟨v,h3,r,H0,Dw,F',σ',q6,hcov.ctx c1,RP.low (fun b t=>BG.tag q3 b t) q2 (RP.le q1 h4),hcov.step (B:=⟨m,F,σ,H,nx⟩) q5 c3⟩
  cases e with
  |exit i=>exact q.elim
  |normal=>exact key q
  |ret=>exact key q
end
section
open Go.Am
variable {E:Env} {L:Frame} {H:Heap} {nx:Nat} {Q:PV→Heap→Nat→Prop} {w:Bool}
theorem Aa.quiet {o:Oper} {r:PV} (q:Q r H nx) (h:∀ m F σ t,Ctx E.Γ m F σ H nx→RL m F (htag H) σ nx L t→∃ v,(∀ call,BO E.P call (ev t) o m=some (v,m))∧RP m F (htag H) σ nx r v):Aa E w o L H nx Q :=
 fun m F σ t h1 h2=>by
  obtain ⟨v,h3,h4⟩:=h m F σ t h1 h2;exact Gs.op h3 ⟨r,H,nx,F,σ,q,h1,h4,Step.refl _ _ _ _ _,fun _ k hk _=>hk⟩
section
variable {m:Mem} {F:Nat→Prop} {T:Nat→Option Tg} {σ:Nat→Value} {n:Nat}
theorem RF.cell {x:FV} {v:Value} (h:RF m F x v):(∃ cs,x=.agg cs)∨BK v=true:=by
 cases h with
 |agg h hc=>simp
 |val h=>exact .inr (by have:=Dh (l:=[_]) (by simpa using h);grind)
 |_=>exact .inr rfl
def Kr:PV→List PV
 | .p (.agg cs)=>cs.map .p
 | .agg cs=>cs
 |x=>[x]
def PO:PV→Prop
 | .Eb _=>False
 |_=>True
theorem Dt.rF:∀ {cs:List FV} {vs:List Value},Dj m F cs vs→Dt m F T σ n (cs.map .p) vs
 |_,_,.nil=>.nil
 |_,_,.cons h t=>.cons (.p h) (Dt.rF t)
theorem Dj.XG:∀ {cs:List FV} {vs:List Value},Dt m F T σ n (cs.map .p) vs→Dj m F cs vs
 |[],_,.nil=>.nil
 |_::_,_,.cons (.p h) t=>.cons h (Dj.XG t)
theorem cells_one {v:Value} (h:BK v=true):v.cells=#[v]:=by
 cases v<;>first|rfl|cases h
theorem Lm {x:PV} {v:Value} (hn:PO x) (h:RP m F T σ n x v):Dt m F T σ n (Kr x) v.cells.toList∧v.cells.toList.all BK=true:=by
 cases h with
 |Eb h=>exact hn.elim
 |agg h hc=>exact ⟨h,hc⟩
 |p h =>
  rcases h.cell with ⟨cs,rfl⟩|hc
  ·cases h with|agg h hc=>exact ⟨Dt.rF h,hc⟩
  ·rw [cells_one hc]
   refine ⟨?_,by grind⟩;cases h<;>first|exact .cons (.p (by assumption)) .nil|skip
   ·exact .cons (.p (.int _ _)) .nil
   ·exact .cons (.p (.bool _)) .nil
   ·exact .cons (.p (.str _)) .nil
   ·rename_i h;exact .cons (.p (.val h)) .nil
   ·cases hc
   ·exact .cons (.p (.nil _)) .nil
   ·exact .cons (.p (.room _ _ _ _)) .nil
   ·rename_i h1 h2 h3 h4 h5;exact .cons (.p (.lst h1 h2 h3 h4 h5)) .nil
   ·rename_i h1 h2 h3 h4 h5 h6;exact .cons (.p (.E8 h1 h2 h3 h4 h5 h6)) .nil
   ·rename_i h1 h2 h3 h4 h5;exact .cons (.p (.own h1 h2 h3 h4 h5)) .nil
   ·exact .cons (.p (.Tv _)) .nil
   ·exact .cons (.p (.QV _ _ _ _)) .nil
 |vec hb hc h=>rw [cells_one hc];exact ⟨.cons (.vec hb hc h) .nil,by grind⟩
 |ref hb hc h=>rw [cells_one hc];exact ⟨.cons (.ref hb hc h) .nil,by grind⟩
 |EH hb hc h=>rw [cells_one hc];exact ⟨.cons (.EH hb hc h) .nil,by grind⟩
 |mref hb hc h=>rw [cells_one hc];exact ⟨.cons (.mref hb hc h) .nil,by grind⟩
 |clo h1 h2=>exact ⟨.cons (.clo h1 h2) .nil,rfl⟩
end
theorem JJ (b:Nat) (x:HB) (H:Heap) (c:Nat):htag ((b,x)::H) c=if b=c then some x.tag else htag H c:=by
 unfold htag;rw [Bo];split<;>rfl
theorem QY (H:Heap) (b c:Nat) (y:HB):htag (hput H b y) c=if b=c then (htag H b).map (fun _=>y.tag) else htag H c:=by
 unfold htag;rw [NP];split
 ·cases hget H b<;>rfl
 ·rfl
theorem Ctx.zJ {Γ:Nat→Option (List Value×TypeId)} {m:Mem} {F:Nat→Prop} {σ:Nat→Value} (h:Ctx Γ m F σ H nx) {b:Nat} (hb:nx≤b):hget H b=none:=by
 cases hh:hget H b with
 |none=>rfl
 |some x=>have:=(h.hp b x hh).1;omega
def upd (σ:Nat→Value) (b:Nat) (v:Value):Nat→Value:=fun c=>if c=b then v else σ c
theorem upd_same (σ:Nat→Value) (b:Nat) (v:Value):upd σ b v b=v:=if_pos rfl
theorem CY (σ:Nat→Value) {b c:Nat} (v:Value) (h:c≠b):upd σ b v c=σ c:=if_neg h
theorem RB.mono {m m':Mem} {F F':Nat→Prop} {T T':Nat→Option Tg} {σ σ':Nat→Value} {n n':Nat} {s:Value} {x:HB} (hF:∀ c,F c→F' c∧m'.get c=m.get c) (hN:Names n T σ T' σ') (hn:n≤n')
 (hs:m.size≤m'.size) (ho:∀ c,Dl s=some c→m'.get c=m.get c∧¬ F' c) (h:RB m F T σ n s x):RB m' F' T' σ' n' s x:=by
 cases x with
 |box e cs =>
  obtain ⟨c,vs,r1,r2,r3,r4,r5,r6⟩:=h;obtain ⟨h1,h2⟩:=ho c (by rw [r1];rfl);exact ⟨c,vs,r1,by omega,h2,h1.trans r4,r5.mono hF hN hn,r6⟩
 |vec e cs k z =>
  rcases h with h|⟨c,g,vs,r1,r2,r3,r4,r5,r6⟩
  ·exact .inl h
  ·obtain ⟨h1,h2⟩:=ho c (by rw [r1];rfl)
   exact .inr ⟨c,g,vs,r1,by omega,h2,h1.trans r4,r5.mono hF,r6⟩
 |map es =>
  obtain ⟨r,l,clock,r1,r2,r3,r4,r5,r6⟩:=h;obtain ⟨h1,h2⟩:=ho r (by rw [r1];rfl);exact ⟨r,l,clock,r1,by omega,h2,h1.trans r4,r5.mono hF,r6.mono hF⟩
 |QN e cs k =>
  obtain ⟨c,g,vs,r1,r2,r3,r4,r5,r6⟩:=h;obtain ⟨h1,h2⟩:=ho c (by rw [r1];rfl);exact ⟨c,g,vs,r1,by omega,h2,h1.trans r4,r5.mono hF hN hn,r6⟩
 |Jz ks cs =>
  obtain ⟨r,l,clock,r1,r2,r3,r4,r5,r6,r7⟩:=h;obtain ⟨h1,h2⟩:=ho r (by rw [r1];rfl);exact ⟨r,l,clock,r1,by omega,h2,h1.trans r4,r5.mono hF,r6.mono hF hN hn,r7⟩
theorem gX {Γ:Nat→Option (List Value×TypeId)} {m:Mem} {F:Nat→Prop} {σ:Nat→Value} (x:HB) (s:Value):Names nx (htag H) σ (htag ((nx,x)::H)) (upd σ nx s):=fun b hb=>by
 rw [JJ,if_neg (by omega),CY _ _ (by omega)];exact ⟨Vk.refl _,fun _ _ _=>rfl⟩
theorem Ctx.new {Γ:Nat→Option (List Value×TypeId)} {m m':Mem} {F:Nat→Prop} {σ:Nat→Value} {x:HB} {s:Value} (h:Ctx Γ m F σ H nx) (hsz:m.size≤m'.size) (hget':∀ c,c<m.size→m'.get c=m.get c) (hlow:min m.low m.size≤m'.low)
 (hs:∀ c,Dl s=some c→m.size≤c) (hr:RB m' F (htag ((nx,x)::H)) (upd σ nx s) (nx+1) s x) :
 Ctx Γ m' F (upd σ nx s) ((nx,x)::H) (nx+1)∧Step m F σ H nx m' F (upd σ nx s) ((nx,x)::H) (nx+1)∧Quiet m m':=by
 have hfz:∀ c,F c→F c∧m'.get c=m.get c:=fun c hc=>⟨hc,hget' c (h.fr c hc)⟩
 have hN:=gX (Γ:=Γ) (m:=m) (F:=F) (σ:=σ) (H:=H) (nx:=nx) x s;refine ⟨⟨fun c hc=>ag (h.fr c hc) hsz,?_,?_,?_⟩,⟨hsz,fun c hc _=>hget' c hc,fun _ h=>h,fun _ _ h=>.inl h,?_,cE _,hN,?_⟩,?_⟩
 ·intro b y hb
  rw [Bo] at hb;by_cases e:nx=b
  ·rw [if_pos e] at hb;cases hb;subst e
   rw [upd_same];grind
  ·rw [if_neg e] at hb
   obtain ⟨h1,h2⟩:=h.hp b y hb;rw [CY _ _ (Ne.symm e)];refine ⟨by omega,h2.mono hfz hN (cE _) hsz fun c hc=>?_⟩;have:=h.LY ⟨b,y,hb,hc⟩;grind
 ·intro b b' y y' c h1 h2 h3 h4
  rw [Bo] at h1 h2;by_cases e:nx=b<;>by_cases e':nx=b'
  ·omega
  ·subst e
   rw [if_neg e'] at h2;rw [upd_same] at h3;rw [CY _ _ (Ne.symm e')] at h4;have:=(h.LY ⟨b',y',h2,h4⟩).2;grind
  ·subst e'
   rw [if_neg e] at h1;rw [upd_same] at h4;rw [CY _ _ (Ne.symm e)] at h3;have:=(h.LY ⟨b,y,h1,h3⟩).2;grind
  ·rw [if_neg e] at h1
   rw [if_neg e'] at h2;rw [CY _ _ (Ne.symm e)] at h3;rw [CY _ _ (Ne.symm e')] at h4;exact h.sep b b' y y' c h1 h2 h3 h4
 ·intro g vs e hg
  obtain ⟨h1,h2,h3⟩:=h.gl g vs e hg;grind
 ·rintro c hc ⟨b,y,hb,hbc⟩
  rw [Bo] at hb;by_cases e:nx=b
  ·subst e
   rw [upd_same] at hbc;grind
  ·rw [if_neg e] at hb
   rw [CY _ _ (Ne.symm e)] at hbc;exact ⟨b,y,hb,hbc⟩
 ·omega
 ·intro k h1 h2;omega
theorem Ht {b0:Nat} {x0 x':HB} {σ:Nat→Value} {s':Value} (hb:hget H b0=some x0) (ht:Vk (some x0.tag) (some x'.tag)) (hs:x0.tag=x'.tag→s'=σ b0) :
 Names nx (htag H) σ (htag (hput H b0 x')) (upd σ b0 s'):=fun b _=>by
 rw [QY];by_cases e:b0=b
 ·subst e
  have h0:htag H b0=some x0.tag:=by simp [htag,hb]
  rw [if_pos rfl,h0,upd_same];grind
 ·rw [if_neg e,CY _ _ (Ne.symm e)]
  exact ⟨Vk.refl _,fun _ _ _=>rfl⟩
theorem Ctx.change {Γ:Nat→Option (List Value×TypeId)} {m m':Mem} {F:Nat→Prop} {σ:Nat→Value} {b0:Nat} {x0 x':HB} {s':Value} (h:Ctx Γ m F σ H nx) (hb:hget H b0=some x0) (ht:Vk (some x0.tag) (some x'.tag)) (hs:x0.tag=x'.tag→s'=σ b0)
 (hsz:m.size≤m'.size) (hget':∀ c,c<m.size→Dl (σ b0)≠some c→m'.get c=m.get c) (hlow:∀ k,k≤m.low→k≤m.size→(∀ c,Dl (σ b0)=some c→k≤c)→k≤m'.low)
 (hblk:∀ c,Dl s'=some c→Dl (σ b0)=some c∨m.size≤c) (hr:RB m' F (htag (hput H b0 x')) (upd σ b0 s') nx s' x') :
 Ctx Γ m' F (upd σ b0 s') (hput H b0 x') nx∧Step m F σ H nx m' F (upd σ b0 s') (hput H b0 x') nx:=by
 have hown:∀ c,Dl (σ b0)=some c→own H σ c:=fun c hc=>⟨b0,x0,hb,hc⟩
 have hfz:∀ c,F c→F c∧m'.get c=m.get c:=fun c hc=>⟨hc,hget' c (h.fr c hc) fun e=>(h.LY (hown c e)).1 hc⟩
 have hN:Names nx (htag H) σ (htag (hput H b0 x')) (upd σ b0 s'):=Ht hb ht hs;have hg0:hget (hput H b0 x') b0=some x':=by rw [NP,if_pos rfl,hb];rfl
 have hgo:∀ b,b≠b0→hget (hput H b0 x') b=hget H b:=fun b e=>by rw [NP,if_neg (Ne.symm e)]
 refine ⟨⟨fun c hc=>ag (h.fr c hc) hsz,?_,?_,?_⟩,⟨hsz,fun c hc ho=>hget' c hc fun e=>ho (hown c e),fun _ h=>h,fun _ _ h=>.inl h,?_,ab _,hN,?_⟩⟩
 ·intro b y hy
  by_cases e:b=b0
  ·subst e
   rw [hg0] at hy;cases hy;rw [upd_same];exact ⟨(h.hp b x0 hb).1,hr⟩
  ·rw [hgo b e] at hy
   obtain ⟨h1,h2⟩:=h.hp b y hy;rw [CY _ _ e];refine ⟨h1,h2.mono hfz hN (ab _) hsz fun c hc=>?_⟩;have:=h.LY ⟨b,y,hy,hc⟩;exact ⟨hget' c this.2 fun e'=>e (h.sep b b0 y x0 c hy hb hc e'),this.1⟩
 ·intro b b' y y' c h1 h2 h3 h4
  by_cases e:b=b0<;>by_cases e':b'=b0
  ·omega
  ·subst e
   rw [hgo b' e'] at h2;rw [upd_same] at h3;rw [CY _ _ e'] at h4;rcases hblk c h3 with h5|h5
   ·exact h.sep b b' x0 y' c hb h2 h5 h4
   ·have:=(h.LY ⟨b',y',h2,h4⟩).2;omega
  ·subst e'
   rw [hgo b e] at h1;rw [upd_same] at h4;rw [CY _ _ e] at h3;rcases hblk c h4 with h5|h5
   ·exact h.sep b b' y x0 c h1 hb h3 h5
   ·have:=(h.LY ⟨b,y,h1,h3⟩).2;omega
  ·rw [hgo b e] at h1
   rw [hgo b' e'] at h2;rw [CY _ _ e] at h3;rw [CY _ _ e'] at h4;exact h.sep b b' y y' c h1 h2 h3 h4
 ·intro g vs e hg
  obtain ⟨h1,h2,h3⟩:=h.gl g vs e hg;grind
 ·rintro c hc ⟨b,y,hy,hbc⟩
  by_cases e:b=b0
  ·subst e
   rw [upd_same] at hbc;grind
  ·rw [hgo b e] at hy
   rw [CY _ _ e] at hbc;exact ⟨b,y,hy,hbc⟩
 grind
def CJ {α:Type} (cs:List α):Nat→List α→List α
 |_,[]=>cs
 |o,v::l=>CJ (cs.set o v) (o+1) l
section
variable {m:Mem} {F:Nat→Prop} {T:Nat→Option Tg} {σ:Nat→Value} {n:Nat}
theorem Dt.set:∀ {cs:List PV} {vs:List Value} (i:Nat) {x:PV} {v:Value},Dt m F T σ n cs vs→RP m F T σ n x v→Dt m F T σ n (cs.set i x) (vs.set i v)
 |_,_,_,_,_,.nil,_=>.nil
 |_,_,0,_,_,.cons _ t,h=>.cons h t
 |_,_,i+1,_,_,.cons h t,h'=>.cons h (Dt.set i t h')
theorem Dj.set:∀ {cs:List FV} {vs:List Value} (i:Nat) {x:FV} {v:Value},Dj m F cs vs→RF m F x v→Dj m F (cs.set i x) (vs.set i v)
 |_,_,_,_,_,.nil,_=>.nil
 |_,_,0,_,_,.cons _ t,h=>.cons h t
 |_,_,i+1,_,_,.cons h t,h'=>.cons h (Dj.set i t h')
theorem Dt.splice:∀ {l:List PV} {ws:List Value} {cs:List PV} {vs:List Value} (o:Nat),Dt m F T σ n cs vs→Dt m F T σ n l ws→Dt m F T σ n (CJ cs o l) (splice vs o ws)
 |_,_,_,_,_,h,.nil=>h
 |_,_,_,_,o,h,.cons h1 t=>Dt.splice (o+1) (h.set o h1) t
theorem Dj.splice:∀ {l:List FV} {ws:List Value} {cs:List FV} {vs:List Value} (o:Nat),Dj m F cs vs→Dj m F l ws→Dj m F (CJ cs o l) (splice vs o ws)
 |_,_,_,_,_,h,.nil=>h
 |_,_,_,_,o,h,.cons h1 t=>Dj.splice (o+1) (h.set o h1) t
theorem Dj.append:∀ {cs ds:List FV} {vs ws:List Value},Dj m F cs vs→Dj m F ds ws→Dj m F (cs++ds) (vs++ws)
 |_,_,_,_,.nil,h=>h
 |_,_,_,_,.cons h t,h'=>.cons h (Dj.append t h')
end
theorem b0i {l:List Value} (h:l.all BK=true) {v:Value} (hv:BK v=true) (i:Nat):(l.set i v).all BK=true :=by grind
theorem JB:∀ {ws l:List Value} (o:Nat),l.all BK=true→ws.all BK=true→(splice l o ws).all BK=true
 |[],_,_,h,_=>h
 |v::ws,l,o,h,hw=>by
  simp only [List.all_cons,Bool.and_eq_true] at hw;exact JB (o+1) (b0i h hw.1 o) hw.2
end
section
open Go.Am
variable {E:Env} {L:Frame} {H:Heap} {nx:Nat} {Q:PV→Heap→Nat→Prop} {w:Bool}
variable {dst:Option Tmp} {ty:TypeId} {pos:String} {af:Array Edge} {gd:Option (Nat×Bool)}
theorem Aa.move {x:Operand} {r:PV} (h:AU E.Γ L x=some r) (q:Q r H nx):Aa E w ⟨dst,.move x,ty,pos,af,gd⟩ L H nx Q :=
 Aa.quiet q fun _ _ _ _ h1 h2=>⟨_,fun _=>rfl,Bz h1 h2 h⟩
theorem Aa.assign {x:Operand} {r:PV} (h:AU E.Γ L x=some r) (q:Q r H nx):Aa E w ⟨dst,.assign x,ty,pos,af,gd⟩ L H nx Q :=
 Aa.quiet q fun _ _ _ _ h1 h2=>⟨_,fun _=>rfl,Bz h1 h2 h⟩
theorem Aa.ND {c a b:Operand} {r:PV} (hc:AU E.Γ L c=some (.p (.bool true))) (h:AU E.Γ L a=some r) (q:Q r H nx):Aa E w ⟨dst,.pick c a b,ty,pos,af,gd⟩ L H nx Q :=
 Aa.quiet q fun m _ _ t h1 h2=>⟨ev t a,fun _=>by simp only [BO,FB,Ih h1 h2 hc,if_true],Bz h1 h2 h⟩
theorem Aa.TG {c a b:Operand} {r:PV} (hc:AU E.Γ L c=some (.p (.bool false))) (h:AU E.Γ L b=some r) (q:Q r H nx):Aa E w ⟨dst,.pick c a b,ty,pos,af,gd⟩ L H nx Q :=
 Aa.quiet q fun m _ _ t h1 h2=>⟨ev t b,fun _=>by simp only [BO,FB,Ih h1 h2 hc,Bool.false_eq_true,if_false],Bz h1 h2 h⟩
theorem CV {Γ:Nat→Option (List Value×TypeId)} {m:Mem} {F:Nat→Prop} {σ:Nat→Value} {t:Tr Value} {k:IntKind} {n:Int} {o:Operand} (hx:Ctx Γ m F σ H nx) (hl:RL m F (htag H) σ nx L t) (h:AU Γ L o=some (.p (.int k n))):ev t o=.int k n:=by
 have:=Bz hx hl h;generalize ev t o=v at this;cases this with|p h=>cases h;rfl
theorem ML {Γ:Nat→Option (List Value×TypeId)} {m:Mem} {F:Nat→Prop} {σ:Nat→Value} {t:Tr Value} {s:ByteArray} {o:Operand} (hx:Ctx Γ m F σ H nx) (hl:RL m F (htag H) σ nx L t) (h:AU Γ L o=some (.p (.str s))):ev t o=.string s:=by
 have:=Bz hx hl h;generalize ev t o=v at this;cases this with|p h=>cases h;rfl
def S9 (op:BinOp) (k:IntKind) (x y:Int):Option FV :=
 match op with
 | .add=>some (.int k (k.wrap (x+y)))
 | .sub=>some (.int k (k.wrap (x-y)))
 | .mul=>some (.int k (k.wrap (x*y)))
 | .eql=>some (.bool (decide (x=y)))
 | .neq=>some (.bool (decide (x≠y)))
 | .lss=>some (.bool (decide (x<y)))
 | .leq=>some (.bool (decide (x≤y)))
 | .gtr=>some (.bool (decide (x>y)))
 | .geq=>some (.bool (decide (x≥y)))
 | .quo=>if y=0 then none else some (.int k (k.wrap (x.tdiv y)))
 | .rem=>if y=0 then none else some (.int k (x.tmod y))
 | .and=>some (.int k (k.wrap (BitVec.ofInt k.bits x &&& BitVec.ofInt k.bits y).toNat))
 | .or=>some (.int k (k.wrap (BitVec.ofInt k.bits x ||| BitVec.ofInt k.bits y).toNat))
 | .xor=>some (.int k (k.wrap (BitVec.ofInt k.bits x ^^^ BitVec.ofInt k.bits y).toNat))
 | .andNot=>some (.int k (k.wrap (BitVec.ofInt k.bits x &&& ~~~ BitVec.ofInt k.bits y).toNat))
 |_=>none
theorem a8r {m:Mem} {F:Nat→Prop} {op:BinOp} {k:IntKind} {x y:Int} {r:FV} (h:S9 op k x y=some r):∃ v,a7a op k x y=some v∧RF m F r v∧op≠.shl∧op≠.shr:=by
 have e1:(x==y)=decide (x=y):=eW.2 (by simp);have e2:(x != y)=decide (x≠y):=eW.2 (by simp);cases op<;>simp only [S9,a7a,e1,e2] at h ⊢<;>first
  |(cases h;done)
  |(cases h;exact ⟨_,rfl,.int _ _,by simp,by simp⟩)
  |(cases h;exact ⟨_,rfl,.bool _,by simp,by simp⟩)
  |(split at h
    ·cases h
    ·rename_i h0;cases h;exact ⟨_,by rw [if_neg h0],.int _ _,by simp,by simp⟩)
theorem Aa.int {op:BinOp} {t t2:TypeId} {x y:Operand} {k:IntKind} {a b:Int} {r:FV} (hx:AU E.Γ L x=some (.p (.int k a))) (hy:AU E.Γ L y=some (.p (.int k b))) (h:S9 op k a b=some r) (q:Q (.p r) H nx) :
 Aa E w ⟨dst,.binOp op t x y t2,ty,pos,af,gd⟩ L H nx Q :=
 Aa.quiet q fun m F σ tt h1 h2=>by
  obtain ⟨v,h3,h4,h5,h6⟩:=a8r (m:=m) (F:=F) h;refine ⟨v,fun _=>?_,.p h4⟩;have e:PG E.P op t x y (.int k a) (.int k b)=some v:=by
   rw [← h3];cases op<;>first|exact absurd rfl h5|exact absurd rfl h6|simp only [PG,if_true]
  simp only [BO,FB,CV h1 h2 hx,CV h1 h2 hy,e,Option.map_some]
theorem wrap_i64 {n:Int} (h:-9223372036854775808≤n∧n<9223372036854775808):IntKind.i64.wrap n=n:=by
 have e:IntKind.i64.wrap n=(n+2^63) % 2^64-2^63:=by
  simp [IntKind.wrap,IntKind.signed,IntKind.bits];omega
 omega
theorem Aa.Jl {t t2:TypeId} {x y:Operand} {a b:Int} (hx:AU E.Γ L x=some (.p (.int .i64 a))) (hy:AU E.Γ L y=some (.p (.int .i64 b))) (h:-9223372036854775808≤a+b∧a+b<9223372036854775808) (q:Q (.p (.int .i64 (a+b))) H nx) :
 Aa E w ⟨dst,.binOp .add t x y t2,ty,pos,af,gd⟩ L H nx Q:=Aa.int hx hy (r:=.int .i64 (a+b)) (by simp only [S9,wrap_i64 h]) q
theorem Aa.qY {t t2:TypeId} {x y:Operand} {a b:Int} (hx:AU E.Γ L x=some (.p (.int .i64 a))) (hy:AU E.Γ L y=some (.p (.int .i64 b))) (h:-9223372036854775808≤a-b∧a-b<9223372036854775808) (q:Q (.p (.int .i64 (a-b))) H nx) :
 Aa E w ⟨dst,.binOp .sub t x y t2,ty,pos,af,gd⟩ L H nx Q:=Aa.int hx hy (r:=.int .i64 (a-b)) (by simp only [S9,wrap_i64 h]) q
theorem Aa.b4j {t t2:TypeId} {x y:Operand} {a b:Int} (hx:AU E.Γ L x=some (.p (.int .i64 a))) (hy:AU E.Γ L y=some (.p (.int .i64 b))) (h:-9223372036854775808≤a*b∧a*b<9223372036854775808) (q:Q (.p (.int .i64 (a*b))) H nx) :
 Aa E w ⟨dst,.binOp .mul t x y t2,ty,pos,af,gd⟩ L H nx Q:=Aa.int hx hy (r:=.int .i64 (a*b)) (by simp only [S9,wrap_i64 h]) q
theorem Aa.shift {op:BinOp} {t t2:TypeId} {x y:Operand} {k k':IntKind} {a b:Int} {r:FV} (hop:op=.shl∨op=.shr) (hx:AU E.Γ L x=some (.p (.int k a))) (hy:AU E.Γ L y=some (.p (.int k' b))) (hb:0≤b)
 (hr:r=if op=.shl then .int k (k.wrap (a*2 ^ (min b.toNat k.bits))) else .int k (a.fdiv (2 ^ (min b.toNat k.bits)))) (q:Q (.p r) H nx) :
 Aa E w ⟨dst,.binOp op t x y t2,ty,pos,af,gd⟩ L H nx Q :=
 Aa.quiet q fun m F σ tt h1 h2=>by
  have hb':¬ b<0:=by omega
  rcases hop with rfl|rfl
  ·refine ⟨.int k (k.wrap (a*2 ^ (min b.toNat k.bits))),fun _=>?_,by rw [hr];exact .p (.int _ _)⟩
   simp only [BO,FB,CV h1 h2 hx,CV h1 h2 hy,PG,Zp,if_neg hb',Option.map_some]
  ·refine ⟨.int k (a.fdiv (2 ^ (min b.toNat k.bits))),fun _=>?_,by rw [hr];exact .p (.int _ _)⟩
   simp only [BO,FB,CV h1 h2 hx,CV h1 h2 hy,PG,Zp,if_neg hb',Option.map_some]
theorem Aa.shl {t t2:TypeId} {x y:Operand} {k k':IntKind} {a b:Int} (hx:AU E.Γ L x=some (.p (.int k a))) (hy:AU E.Γ L y=some (.p (.int k' b))) (hb:0≤b) (q:Q (.p (.int k (k.wrap (a*2 ^ (min b.toNat k.bits))))) H nx) :
 Aa E w ⟨dst,.binOp .shl t x y t2,ty,pos,af,gd⟩ L H nx Q:=Aa.shift (.inl rfl) hx hy hb rfl q
theorem Aa.shr {t t2:TypeId} {x y:Operand} {k k':IntKind} {a b:Int} (hx:AU E.Γ L x=some (.p (.int k a))) (hy:AU E.Γ L y=some (.p (.int k' b))) (hb:0≤b) (q:Q (.p (.int k (a.fdiv (2 ^ (min b.toNat k.bits))))) H nx) :
 Aa E w ⟨dst,.binOp .shr t x y t2,ty,pos,af,gd⟩ L H nx Q:=Aa.shift (.inr rfl) hx hy hb rfl q
theorem KI {P:Program} {s:Sem Value} {v:Value} (h:DF P s=some v) (hp:plain v=true):Ya P s=some v:=by
 simp only [Ya,h,hp,if_true]
def oq:TypeDesc→Bool
 | .slice _=>false
 |_=>true
theorem Aa.Yo {s d:TypeId} {x:Operand} {k k':IntKind} {n:Int} {sd:TypeDesc} (hx:AU E.Γ L x=some (.p (.int k' n))) (hs:E.P.underlying s=some sd) (hns:oq sd=true) (hd:E.P.underlying d=some (.int k)) (q:Q (.p (.int k (k.wrap n))) H nx) :
 Aa E w ⟨dst,.convert s d x,ty,pos,af,gd⟩ L H nx Q :=
 Aa.quiet q fun m F σ tt h1 h2=>by
  refine ⟨.int k (k.wrap n),fun _=>?_,.p (.int _ _)⟩;have:DF E.P (convert s d (.int k' n))=some (.int k (k.wrap n)):=by
   unfold convert;simp only [Au,AZ,hs,hd,Option.bind_some];cases sd<;>rfl
  have hsl:(Jm E.P s||Jm E.P d)=false:=by
   simp only [Jm,hs,hd];cases sd<;>first|rfl|cases hns
  simp only [BO,FB,CV h1 h2 hx,KI this rfl,Option.map_some,hsl];rfl
theorem Aa.extract {t:Operand} {i:Nat} {vs:List PV} {r:PV} (h:AU E.Γ L t=some (.Eb vs)) (hr:vs[i]?=some r) (q:Q r H nx):Aa E w ⟨dst,.extract t i,ty,pos,af,gd⟩ L H nx Q :=
 Aa.quiet q fun m F σ tt h1 h2=>by
  have:=Bz h1 h2 h;generalize hv:ev tt t=v at this;cases this with
  |Eb hrs =>
   obtain ⟨u,h3,h4⟩:=hrs.get hr;refine ⟨u,fun _=>?_,h4⟩;simp only [BO,FB,hv,Instr.extract,List.getElem?_toArray,h3];rfl
def Qb (P:Program) (s:TypeId) (f:Nat):Option Nat :=
 match P.underlying s with
 |some (.struct fs)=>match fs[f]? with
  |some fd=>match P.info? fd.type with
   |some i=>if i.size=0 then none else some fd.offset
   |none=>none
  |none=>none
 |_=>none
theorem MS {P:Program} {ρ:Operand→Value} {s:TypeId} {f k:Nat} {x:Operand} {a:Addr} {m:Mem} (h:Qb P s f=some k) (hx:ρ x=.pointer (some a)) :
 FB P ρ ⟨dst,.fieldAddr s x f,ty,pos,af,gd⟩ m=some (.pointer (some { a with off:=a.off+k }),m):=by
 unfold Qb at h;simp only [FB,hx];grind
theorem N9 {n k:Nat} {l ws:List Value} (h:takeN n l=some ws):takeN (n-k) (l.drop k)=some (ws.drop k):=by
 obtain ⟨rfl,hn⟩:=Fz h;unfold takeN;rw [ci,if_pos (by omega),List.drop_take]
theorem RF.a0f {m:Mem} {F:Nat→Prop} {cs:List FV} {a:Addr} (k:Nat) (h:RF m F (.E8 cs) (.pointer (some a))):RF m F (.E8 (cs.drop k)) (.pointer (some { a with off:=a.off+k })):=by
 cases h with
 |E8 hF hm hg hw h hc =>
  refine .E8 hF hm hg (ws:=_) ?_ (Dj.drop k h) (LC hc k);have:=N9 (k:=k) hw;simp_all
theorem aS {Γ:Nat→Option (List Value×TypeId)} {m:Mem} {F:Nat→Prop} {σ:Nat→Value} {t:Tr Value} {cs:List FV} {o:Operand} (hx:Ctx Γ m F σ H nx) (hl:RL m F (htag H) σ nx L t) (h:AU Γ L o=some (.p (.E8 cs))) :
 ∃ a,ev t o=.pointer (some a)∧RF m F (.E8 cs) (.pointer (some a)):=by
 have:=Bz hx hl h;generalize ev t o=v at this;cases this with
 |p h =>
  cases h with
  |E8 h1 h2 h3 h4 h5 h6=>exact ⟨_,rfl,.E8 h1 h2 h3 h4 h5 h6⟩
theorem YA {Γ:Nat→Option (List Value×TypeId)} {m:Mem} {F:Nat→Prop} {σ:Nat→Value} {t:Tr Value} {b off:Nat} {o:Operand} {e:TypeId} {cs:List PV} (hx:Ctx Γ m F σ H nx) (hl:RL m F (htag H) σ nx L t) (h:AU Γ L o=some (.ref b off)) (hb:hget H b=some (.box e cs)) :
 ∃ c,ev t o=.pointer (some ⟨c,off,none⟩)∧σ b=.pointer (some ⟨c,0,none⟩):=by
 have:=Bz hx hl h;cases this with
 |ref h1 h2 h3 =>
  obtain ⟨c,h4,h5⟩:=h3 (by simp [htag,hb,HB.tag]);grind
theorem PN {Γ:Nat→Option (List Value×TypeId)} {m:Mem} {F:Nat→Prop} {σ:Nat→Value} {t:Tr Value} {b tag off:Nat} {o:Operand} {e:TypeId} {cs:List FV} {z:Bool} (hx:Ctx Γ m F σ H nx) (hl:RL m F (htag H) σ nx L t) (h:AU Γ L o=some (.EH b tag off)) (hb:hget H b=some (.vec e cs tag z)) :
 ∃ c k g,ev t o=.pointer (some ⟨c,off,some g⟩)∧σ b=.slice (some ⟨c,0,none⟩) k g:=by
 have:=Bz hx hl h;cases this with
 |EH h1 h2 h3 =>
  obtain ⟨_,h4⟩:=h3 tag (by simp [htag,hb,HB.tag]);grind
theorem Aa.kP {s:TypeId} {x:Operand} {f k:Nat} {cs:List FV} (hx:AU E.Γ L x=some (.p (.E8 cs))) (hk:Qb E.P s f=some k) (q:Q (.p (.E8 (cs.drop k))) H nx):Aa E w ⟨dst,.fieldAddr s x f,ty,pos,af,gd⟩ L H nx Q :=
 Aa.quiet q fun m F σ tt h1 h2=>by
  obtain ⟨a,h3,h4⟩:=aS h1 h2 hx;exact ⟨_,fun _=>MS (dst:=dst) (ty:=ty) (pos:=pos) (af:=af) (gd:=gd) hk h3,.p (h4.a0f k)⟩
theorem Aa.D8 {s:TypeId} {x:Operand} {f k b off:Nat} {e:TypeId} {cs:List PV} (hx:AU E.Γ L x=some (.ref b off)) (hb:hget H b=some (.box e cs)) (hk:Qb E.P s f=some k) (q:Q (.ref b (off+k)) H nx):Aa E w ⟨dst,.fieldAddr s x f,ty,pos,af,gd⟩ L H nx Q :=
 Aa.quiet q fun m F σ tt h1 h2=>by
  obtain ⟨c,h3,h4⟩:=YA h1 h2 hx hb;exact ⟨_,fun _=>MS (dst:=dst) (ty:=ty) (pos:=pos) (af:=af) (gd:=gd) hk h3,.ref (h1.hp b _ hb).1 rfl fun _=>⟨c,h4,rfl⟩⟩
theorem Aa.VJ {s:TypeId} {x:Operand} {f k b tag off:Nat} {e:TypeId} {cs:List FV} {z:Bool} (hx:AU E.Γ L x=some (.EH b tag off)) (hb:hget H b=some (.vec e cs tag z)) (hk:Qb E.P s f=some k) (q:Q (.EH b tag (off+k)) H nx) :
 Aa E w ⟨dst,.fieldAddr s x f,ty,pos,af,gd⟩ L H nx Q :=
 Aa.quiet q fun m F σ tt h1 h2=>by
  obtain ⟨c,k',g,h3,h4⟩:=PN h1 h2 hx hb;refine ⟨_,fun _=>MS (dst:=dst) (ty:=ty) (pos:=pos) (af:=af) (gd:=gd) hk h3,.EH (h1.hp b _ hb).1 rfl fun n hn=>?_⟩;simp only [htag,hb,HB.tag,Option.map_some,Option.some.injEq,Tg.vec.injEq] at hn;grind
theorem Aa.load {t:TypeId} {a:Operand} {x r:PV} (ha:AU E.Γ L a=some x) (h:gZ E.P t H x=some r) (q:Q r H nx):Aa E w ⟨dst,.load t a,ty,pos,af,gd⟩ L H nx Q :=
 Aa.quiet q fun m F σ tt h1 h2=>by
  obtain ⟨p,u,h3,h4,h5⟩:=gW h1 (Bz h1 h2 ha) h;exact ⟨u,fun _=>by simp only [BO,FB,h3,h4,Option.map_some],h5⟩
theorem Aa.b4h {t:TypeId} {a:Operand} {b tag off:Nat} {e:TypeId} {cs:List FV} {z:Bool} {r:FV} (ha:AU E.Γ L a=some (.EH b tag off)) (hb:hget H b=some (.vec e cs tag z)) (h:ZA E.P t (cs.drop off)=some r) (q:Q (.p r) H nx) :
 Aa E w ⟨dst,.load t a,ty,pos,af,gd⟩ L H nx Q:=by
 refine Aa.load ha ?_ q;simp only [gZ,hb];split
 ·grind
 omega
def elemSize (P:Program) (t:TypeId):Option Nat :=
 match P.underlying t with
 |some (.slice e)=>(P.info? e).map (·.size)
 |_=>none
theorem MW {P:Program} {t:TypeId} {sz:Nat} (h:elemSize P t=some sz):∃ e i,P.underlying t=some (.slice e)∧P.info? e=some i∧i.size=sz:=by
 unfold elemSize at h;split at h
 ·simp_all
 grind
theorem Aa.b7s {t:TypeId} {x ix:Operand} {e:TypeId} {cs:List FV} {n sz:Nat} {k:IntKind} {i:Int} (hx:AU E.Γ L x=some (.p (.lst e cs n))) (hi:AU E.Γ L ix=some (.p (.int k i))) (hs:elemSize E.P t=some sz) (h0:0≤i) (h1:i<n)
 (q:Q (.p (.E8 (cs.drop (i.toNat*sz)))) H nx):Aa E w ⟨dst,.indexAddr t x ix,ty,pos,af,gd⟩ L H nx Q :=
 Aa.quiet q fun m F σ tt c1 c2=>by
  obtain ⟨e',inf,h3,h4,h5⟩:=MW hs;have hix:=CV c1 c2 hi;have:=Bz c1 c2 hx;generalize hv:ev tt x=v at this;cases this with
  |p hr =>
   cases hr with
   |nil=>omega
   |room=>omega
   |lst hF hm hw hr hc =>
    rename_i b o g vs ws ro;refine ⟨.pointer (some ⟨b,o+i.toNat*sz,some g⟩),fun _=>by simp only [BO,FB,h3,hv,hix,h4,h0,h1,and_self,if_true,h5],.p ?_⟩;refine .E8 hF hm rfl ?_ (Dj.drop _ hr) (LC hc _);have:=N9 (k:=i.toNat*sz) hw;simp_all
theorem JK {Γ:Nat→Option (List Value×TypeId)} {m:Mem} {F:Nat→Prop} {σ:Nat→Value} {t:Tr Value} {b tag off len:Nat} {o:Operand} {e:TypeId} {cs:List FV} {z:Bool} (hx:Ctx Γ m F σ H nx) (hl:RL m F (htag H) σ nx L t) (h:AU Γ L o=some (.vec b tag off len)) (hb:hget H b=some (.vec e cs tag z)) :
 Gg (σ b) off len (ev t o):=by
 have:=Bz hx hl h;cases this with
 |vec h1 h2 h3=>exact (h3 tag (by simp [htag,hb,HB.tag])).2 rfl
theorem Aa.a8p {t:TypeId} {x ix:Operand} {e:TypeId} {cs:List FV} {b tag off len sz:Nat} {z:Bool} {k:IntKind} {i:Int} (hx:AU E.Γ L x=some (.vec b tag off len)) (hb:hget H b=some (.vec e cs tag z)) (hi:AU E.Γ L ix=some (.p (.int k i)))
 (hs:elemSize E.P t=some sz) (h0:0≤i) (h1:i<len) (q:Q (.EH b tag (off+i.toNat*sz)) H nx):Aa E w ⟨dst,.indexAddr t x ix,ty,pos,af,gd⟩ L H nx Q :=
 Aa.quiet q fun m F σ tt c1 c2=>by
  obtain ⟨e',inf,h3,h4,h5⟩:=MW hs;have hix:=CV c1 c2 hi;have hsub:=JK c1 c2 hx hb;obtain ⟨hlt,hr⟩:=c1.hp b _ hb;rcases hr with ⟨r1,r2,r3⟩|⟨c,g,vs,r1,r2,r3,r4,r5,r6,r7⟩
  ·rcases r3 with ⟨r3,_⟩|⟨b',o',g',r3,_⟩<;>rw [r3] at hsub<;>simp only [Gg,DC] at hsub<;>omega
  ·rw [r1] at hsub
   simp only [Gg] at hsub;refine ⟨.pointer (some ⟨c,off+i.toNat*sz,some g⟩),fun _=>by simp only [BO,FB,h3,hsub,hix,h4,h0,h1,and_self,if_true,h5],.EH hlt rfl fun n hn=>?_⟩;simp only [htag,hb,HB.tag,Option.map_some,Option.some.injEq,Tg.vec.injEq] at hn;grind
theorem Aa.Nk {x:Operand} {t e e':TypeId} {cs:List FV} {n:Nat} (hx:AU E.Γ L x=some (.p (.lst e cs n))) (ht:E.P.underlying t=some (.slice e')) (q:Q (.p (.int .i64 n)) H nx) :
 Aa E w ⟨dst,.call { callee:=.builtin .len,args:=#[x],argTypes:=#[t] },ty,pos,af,gd⟩ L H nx Q :=
 Aa.quiet q fun m F σ tt c1 c2=>by
  have:=Bz c1 c2 hx;generalize hv:ev tt x=v at this;refine ⟨.int .i64 n,fun _=>?_,.p (.int _ _)⟩;have hg:v=.slice none 0 0∧n=0∨∃ a g,v=.slice a n g:=by
   cases this with
   |p hr =>
    cases hr with
    |nil=>simp
    |room=>simp
    |lst=>simp
  rcases hg with ⟨rfl,rfl⟩|⟨a,g,rfl⟩<;>simp [BO,FB,Yc,ht,hv]
theorem Aa.lenV {x:Operand} {t e e':TypeId} {cs:List FV} {b tag off len:Nat} {z:Bool} (hx:AU E.Γ L x=some (.vec b tag off len)) (hb:hget H b=some (.vec e cs tag z)) (ht:E.P.underlying t=some (.slice e')) (q:Q (.p (.int .i64 len)) H nx) :
 Aa E w ⟨dst,.call { callee:=.builtin .len,args:=#[x],argTypes:=#[t] },ty,pos,af,gd⟩ L H nx Q :=
 Aa.quiet q fun m F σ tt c1 c2=>by
  have hsub:=JK c1 c2 hx hb;obtain ⟨hlt,hr⟩:=c1.hp b _ hb;refine ⟨.int .i64 len,fun _=>?_,.p (.int _ _)⟩;have hg:∃ a g,ev tt x=.slice a len g:=by
   rcases hr with ⟨r1,r2,r3⟩|⟨c,g,vs,r1,r2,r3,r4,r5,r6,r7⟩
   ·rcases r3 with ⟨r3,_⟩|⟨b',o',g',r3,_⟩<;>rw [r3] at hsub<;>simp only [Gg,DC] at hsub<;>obtain ⟨h1,h2,h3⟩:=hsub<;>subst h3<;>exact ⟨_,_,h1⟩
   ·rw [r1] at hsub
    exact ⟨_,_,hsub⟩
  obtain ⟨a,g,hg⟩:=hg;simp [BO,FB,Yc,ht,hg]
theorem Aa.c6c {x:Operand} {t:TypeId} {s:ByteArray} (hx:AU E.Γ L x=some (.p (.str s))) (ht:E.P.underlying t=some .string) (q:Q (.p (.int .i64 s.size)) H nx) :
 Aa E w ⟨dst,.call { callee:=.builtin .len,args:=#[x],argTypes:=#[t] },ty,pos,af,gd⟩ L H nx Q :=
 Aa.quiet q fun m F σ tt c1 c2=>⟨.int .i64 s.size,fun _=>by simp [BO,FB,Yc,ht,ML c1 c2 hx],.p (.int _ _)⟩
theorem dY {Γ:Nat→Option (List Value×TypeId)} {m:Mem} {F:Nat→Prop} {σ:Nat→Value} {e:TypeId} {cs:List PV} {vs:List Value} (h:Ctx Γ m F σ H nx) (hr:Dt m F (htag H) σ nx cs vs) (hc:vs.all BK=true) :
 Ctx Γ (m.alloc (.cells vs e 0 false)) F (upd σ nx (.pointer (some ⟨m.size,0,none⟩))) ((nx,.box e cs)::H) (nx+1) ∧
 Step m F σ H nx (m.alloc (.cells vs e 0 false)) F (upd σ nx (.pointer (some ⟨m.size,0,none⟩))) ((nx,.box e cs)::H) (nx+1)∧Quiet m (m.alloc (.cells vs e 0 false)):=by
 refine h.new (by simp [Mem.alloc]) (fun c hc=>by rw [Mem.Bh,if_neg (by omega)]) (by simp only [Mem.alloc];omega) (fun c hc=>by simp only [Dl,Option.some.injEq] at hc;omega) ?_;refine ⟨m.size,vs,rfl,by simp [Mem.alloc],fun hf=>cn _ (h.fr _ hf),by rw [Mem.Bh,if_pos rfl],?_,hc⟩;exact hr.mono (fun c hf=>⟨hf,by rw [Mem.Bh,if_neg (by have:=h.fr c hf;omega)]⟩) (gX (Γ:=Γ) (m:=m) (F:=F) _ _) (cE _)
theorem Aa.box {e:TypeId} {x:Operand} {r:PV} (hx:AU E.Γ L x=some r) (hn:PO r) (q:Q (.ref nx 0) ((nx,.box e (Kr r))::H) (nx+1)):Aa E w ⟨dst,.box e x,ty,pos,af,gd⟩ L H nx Q:=by
 intro m F σ t h1 h2;obtain ⟨h3,h4⟩:=Lm hn (Bz h1 h2 hx);obtain ⟨c1,c2,c3⟩:=dY (e:=e) h1 h3 h4;refine Gs.op (v:=.pointer (some ⟨m.size,0,none⟩)) (fun _=>?_) ⟨_,_,_,F,_,q,c1,?_,c2,fun _=>c3⟩
 ·simp only [BO,FB,h4,if_true]
 ·exact .ref (bE _) rfl fun _=>⟨m.size,upd_same _ _ _,rfl⟩
theorem Dt.zero {m:Mem} {F:Nat→Prop} {T:Nat→Option Tg} {σ:Nat→Value} {n:Nat} {z:List Value} (h:z.all Am.plainCell=true):Dt m F T σ n (z.map fun v=>.p (H9 v)) z:=by
 have:=Dt.rF (T:=T) (σ:=σ) (n:=n) (IE (m:=m) (F:=F) h);rw [gR] at this;exact this
theorem Aa.alloc {e:TypeId} {z:List Value} (hz:BQ E.P e=some z) (q:Q (.ref nx 0) ((nx,.box e (z.map fun v=>.p (H9 v)))::H) (nx+1)):Aa E w ⟨dst,.alloc e,ty,pos,af,gd⟩ L H nx Q:=by
 intro m F σ t h1 h2;obtain ⟨_,_,_,_,_,hp⟩:=BH hz;obtain ⟨c1,c2,c3⟩:=dY (e:=e) h1 (Dt.zero hp) (Dh hp);refine Gs.op (v:=.pointer (some ⟨m.size,0,none⟩)) (fun _=>?_) ⟨_,_,_,F,_,q,c1,?_,c2,fun _=>c3⟩
 ·simp only [BO,FB,hz,Option.map_some]
 ·exact .ref (bE _) rfl fun _=>⟨m.size,upd_same _ _ _,rfl⟩
theorem Aa.Dz {t:TypeId} {a x:Operand} {b off:Nat} {e:TypeId} {cs:List PV} {r:PV} {i:TypeInfo} (ha:AU E.Γ L a=some (.ref b off)) (hx:AU E.Γ L x=some r) (hb:hget H b=some (.box e cs)) (hn:PO r)
 (hi:E.P.info? t=some i) (hl:(Kr r).length=i.size) (h0:0<i.size) (hle:off+i.size≤cs.length) (q:Q (.Eb []) (hput H b (.box e (CJ cs off (Kr r)))) nx):Aa E true ⟨dst,.store t a x,ty,pos,af,gd⟩ L H nx Q:=by
 intro m F σ tt h1 h2;obtain ⟨c,h3,h4⟩:=YA h1 h2 ha hb;obtain ⟨h5,h6⟩:=Lm hn (Bz h1 h2 hx);obtain ⟨hlt,c',vs,r1,r2,r3,r4,r5,r6⟩:=h1.hp b _ hb;rw [h4] at r1;cases r1;have hlen:=h5.length;have hlen2:=r5.length;have hst:LJ E.P t ⟨c,off,none⟩ (ev tt x) m=some (m.put c (.cells (splice vs off (ev tt x).cells.toList) e 0 false)):=by
  unfold LJ F9;simp only [Oh,Option.getD_none,beq_self_eq_true,Bool.true_and,Bool.and_eq_true,decide_eq_true_eq];grind
 have hput':∀ d,c≠d→(m.put c (.cells (splice vs off (ev tt x).cells.toList) e 0 false)).get d=m.get d:=fun d hd=>by rw [Mem.get_put,if_neg hd]
 obtain ⟨c1,c2⟩:=h1.change (m':=m.put c (.cells (splice vs off (ev tt x).cells.toList) e 0 false)) (x':=.box e (CJ cs off (Kr r))) (s':=σ b) hb trivial (fun _=>rfl) (ab _)
  (fun d _ hd=>hput' d fun e=>hd (by rw [h4,e];rfl)) (fun k k1 k2 k3=>by
   have:=k3 c (by rw [h4];rfl);simp only [Mem.put];omega) (fun d hd=>.inl hd) (by
   refine ⟨c,splice vs off (ev tt x).cells.toList,h4,r2,r3,by rw [Mem.get_put,if_pos rfl],?_,JB _ r6 h6⟩;refine (Dt.splice off r5 h5).mono (fun d hd=>⟨hd,hput' d fun e=>r3 (e▸hd)⟩) (Ht (x':=.box e (CJ cs off (Kr r))) hb trivial fun _=>rfl) (ab _))
 refine Gs.op (v:=undef) (fun _=>?_) ⟨_,_,_,F,_,q,c1,.Eb .nil,c2,fun h=>by cases h⟩;simp only [BO,FB,h3,hst,Option.map_some]
theorem Aa.b7x {t:TypeId} {a x:Operand} {b tag off:Nat} {e:TypeId} {cs fs:List FV} {z:Bool} {r:PV} {i:TypeInfo} (ha:AU E.Γ L a=some (.EH b tag off)) (hx:AU E.Γ L x=some r) (hb:hget H b=some (.vec e cs tag z)) (hn:PO r)
 (hf:Kr r=fs.map .p) (hi:E.P.info? t=some i) (hl:fs.length=i.size) (h0:0<i.size) (hle:off+i.size≤cs.length) (q:Q (.Eb []) (hput H b (.vec e (CJ cs off fs) tag z)) nx):Aa E true ⟨dst,.store t a x,ty,pos,af,gd⟩ L H nx Q:=by
 intro m F σ tt h1 h2;obtain ⟨c,k,g,h3,h4⟩:=PN h1 h2 ha hb;obtain ⟨h5,h6⟩:=Lm hn (Bz h1 h2 hx);rw [hf] at h5;obtain ⟨hlt,hr⟩:=h1.hp b _ hb;rcases hr with ⟨r1,r2,r3⟩|⟨c',g',vs,r1,r2,r3,r4,r5,r6,r7⟩
 ·rcases r3 with ⟨r3,_⟩|⟨b',o',g',r3,_⟩<;>rw [r3] at h4<;>cases h4
 rw [h4] at r1;cases r1;have hlen:=h5.length;have hlen2:=r5.length;have hst:LJ E.P t ⟨c,off,some g⟩ (ev tt x) m=some (m.put c (.cells (splice vs off (ev tt x).cells.toList) e g false)):=by
  unfold LJ F9;simp only [Oh,Option.getD_some,beq_self_eq_true,Bool.true_and,Bool.and_eq_true,decide_eq_true_eq];grind
 have hput':∀ d,c≠d→(m.put c (.cells (splice vs off (ev tt x).cells.toList) e g false)).get d=m.get d:=fun d hd=>by rw [Mem.get_put,if_neg hd]
 obtain ⟨c1,c2⟩:=h1.change (m':=m.put c (.cells (splice vs off (ev tt x).cells.toList) e g false)) (x':=.vec e (CJ cs off fs) tag z) (s':=σ b) hb (ab _) (fun _=>rfl) (ab _)
  (fun d _ hd=>hput' d fun e=>hd (by rw [h4,e];rfl)) (fun k k1 k2 k3=>by
   have:=k3 c (by rw [h4];rfl);simp only [Mem.put];omega) (fun d hd=>.inl hd) (by
   refine .inr ⟨c,g,splice vs off (ev tt x).cells.toList,h4,r2,r3,by rw [Mem.get_put,if_pos rfl],?_,JB _ r6 h6,r7⟩;exact (Dj.splice off r5 (Dj.XG h5)).mono (fun d hd=>⟨hd,hput' d fun e=>r3 (e▸hd)⟩))
 refine Gs.op (v:=undef) (fun _=>?_) ⟨_,_,_,F,_,q,c1,.Eb .nil,c2,fun h=>by cases h⟩;simp only [BO,FB,h3,hst,Option.map_some]
end
end Go.Vm
