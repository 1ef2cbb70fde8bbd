/-
  The values' layer: pure data in place of memory. Definitions; what is related stays related. No condition. Nothing of one program stands here.
-/
import Derived.Test.YtmfnchgkffhpfaaDoorAmD
set_option linter.unusedSimpArgs false
set_option linter.unusedVariables false
set_option linter.unusedSectionVars false
namespace Go.Vm
open Go.Am
inductive FV where
 |int (k:IntKind) (n:Int)
 |bool (b:Bool)
 |str (s:ByteArray)
 |val (x:Value)
 |agg (cs:List FV)
 |lst (e:TypeId) (cs:List FV) (n:Nat)
 |cptr (cs:List FV)
inductive PV where
 |p (x:FV)
 |agg (cs:List PV)
 |tup (vs:List PV)
 |vec (b tag off len:Nat)
 |ref (b off:Nat)
 |eref (b tag off:Nat)
 |mref (b:Nat)
 |clo (f:FuncId) (fs cs:List PV)
inductive HB where
 |box (e:TypeId) (cs:List PV)
 |vec (e:TypeId) (cs:List FV) (n:Nat) (z:Bool)
 |map (es:List (FV×FV))
 |vecp (e:TypeId) (cs:List PV) (n:Nat)
abbrev Heap:=List (Nat×HB)
abbrev Frame:=List (Nat×PV)
inductive Tg where
 |box
 |vec (n:Nat)
 |map
def Tg.le:Tg→Tg→Prop
 | .box,.box=>True
 | .map,.map=>True
 | .vec n,.vec k=>n≤k
 |_,_=>False
def HB.tag:HB→Tg
 | .box ..=>.box
 | .vec _ _ n _=>.vec n
 | .map _=>.map
 | .vecp _ _ n=>.vec n
def hget:Heap→Nat→Option HB
 |[],_=>none
 |(a,x)::H,b=>match Nat.decEq a b with
  | .isTrue _=>some x
  | .isFalse _=>hget H b
def hput:Heap→Nat→HB→Heap
 |[],_,_=>[]
 |(a,x)::H,b,y=>match Nat.decEq a b with
  | .isTrue _=>(a,y)::H
  | .isFalse _=>(a,x)::hput H b y
def lget:Frame→Nat→Option PV
 |[],_=>none
 |(a,x)::L,b=>match Nat.decEq a b with
  | .isTrue _=>some x
  | .isFalse _=>lget L b
theorem hget_cons (a:Nat) (x:HB) (H:Heap) (b:Nat):hget ((a,x)::H) b=if a=b then some x else hget H b:=by
 simp only [hget]
 cases Nat.decEq a b with
 |isTrue h=>simp [h]
 |isFalse h=>simp [h]
theorem lget_cons (a:Nat) (x:PV) (H:Frame) (b:Nat):lget ((a,x)::H) b=if a=b then some x else lget H b:=by
 simp only [lget]
 cases Nat.decEq a b with
 |isTrue h=>simp [h]
 |isFalse h=>simp [h]
theorem hget_hput (H:Heap) (b c:Nat) (y:HB):hget (hput H b y) c=if b=c then (hget H b).map (fun _=>y) else hget H c:=by
 induction H with
 |nil=>simp [hput,hget]
 |cons a H ih =>
  obtain ⟨a,x⟩:=a
  simp only [hput]
  cases hd:Nat.decEq a b with
  |isTrue h =>
   subst h
   simp only [hget_cons]
   by_cases hc:a=c<;>simp [hc]
  |isFalse h =>
   simp only [hget_cons,ih]
   by_cases hbc:b=c
   ·subst hbc
    simp [h]
   ·simp [hbc]
def htag (H:Heap) (b:Nat):Option Tg:=(hget H b).map HB.tag
def nilSlice:Value:=.slice none 0 0
mutual
inductive RF (m:Mem) (F:Nat→Prop):FV→Value→Prop
 |int (k:IntKind) (n:Int):RF m F (.int k n) (.int k n)
 |bool (b:Bool):RF m F (.bool b) (.bool b)
 |str (s:ByteArray):RF m F (.str s) (.string s)
 |val {x:Value} (h:Am.plainCell x=true):RF m F (.val x) x
 |agg {cs:List FV} {vs:List Value} (h:RFs m F cs vs) (hc:vs.all isCell=true):RF m F (.agg cs) (.agg vs.toArray)
 |nil (e:TypeId):RF m F (.lst e [] 0) (.slice none 0 0)
 |room (e:TypeId) (b o g:Nat):RF m F (.lst e [] 0) (.slice (some ⟨b,o,some g⟩) 0 0)
 |lst {e:TypeId} {cs:List FV} {n b o g:Nat} {vs ws:List Value} {ro:Bool} (hF:F b) (hm:m.get b=.cells vs e g ro) (hw:takeN cs.length (vs.drop o)=some ws) (h:RFs m F cs ws) (hc:ws.all isCell=true) :
  RF m F (.lst e cs n) (.slice (some ⟨b,o,none⟩) n g)
 |cptr {cs:List FV} {b o g:Nat} {sp:Option Nat} {e:TypeId} {vs ws:List Value} {ro:Bool} (hF:F b) (hm:m.get b=.cells vs e g ro) (hg:agen ⟨b,o,sp⟩=g) (hw:takeN cs.length (vs.drop o)=some ws) (h:RFs m F cs ws) (hc:ws.all isCell=true) :
  RF m F (.cptr cs) (.pointer (some ⟨b,o,sp⟩))
inductive RFs (m:Mem) (F:Nat→Prop):List FV→List Value→Prop
 |nil:RFs m F [] []
 |cons {c:FV} {v:Value} {cs:List FV} {vs:List Value} (h:RF m F c v) (t:RFs m F cs vs):RFs m F (c::cs) (v::vs)
end
def SubOf (s:Value) (off len:Nat) (v:Value):Prop :=
 match s with
 | .slice (some ⟨c,0,none⟩) _ g=>v=.slice (some ⟨c,off,none⟩) len g
 |s=>v=s∧off=0∧len=0
mutual
inductive RP (m:Mem) (F:Nat→Prop) (T:Nat→Option Tg) (σ:Nat→Value) (nx:Nat):PV→Value→Prop
 |p {x:FV} {v:Value} (h:RF m F x v):RP m F T σ nx (.p x) v
 |agg {cs:List PV} {vs:List Value} (h:RPs m F T σ nx cs vs) (hc:vs.all isCell=true):RP m F T σ nx (.agg cs) (.agg vs.toArray)
 |tup {cs:List PV} {vs:List Value} (h:RPs m F T σ nx cs vs):RP m F T σ nx (.tup cs) (.tuple vs.toArray)
 |vec {b tag off len:Nat} {v:Value} (hb:b<nx) (hc:isCell v=true) (h:∀ n,T b=some (.vec n)→tag≤n∧(tag=n→SubOf (σ b) off len v)):RP m F T σ nx (.vec b tag off len) v
 |ref {b off:Nat} {v:Value} (hb:b<nx) (hc:isCell v=true) (h:T b=some .box→∃ c,σ b=.pointer (some ⟨c,0,none⟩)∧v=.pointer (some ⟨c,off,none⟩)):RP m F T σ nx (.ref b off) v
 |eref {b tag off:Nat} {v:Value} (hb:b<nx) (hc:isCell v=true) (h:∀ n,T b=some (.vec n)→tag≤n∧(tag=n→∃ c k g,σ b=.slice (some ⟨c,0,none⟩) k g∧v=.pointer (some ⟨c,off,some g⟩))) :
  RP m F T σ nx (.eref b tag off) v
 |mref {b:Nat} {v:Value} (hb:b<nx) (hc:isCell v=true) (h:T b=some .map→v=σ b):RP m F T σ nx (.mref b) v
 |clo {f:FuncId} {fs cs:List PV} {vf vc:List Value} (h1:RPs m F T σ nx fs vf) (h2:RPs m F T σ nx cs vc):RP m F T σ nx (.clo f fs cs) (.func (.func f) vf.toArray vc.toArray)
inductive RPs (m:Mem) (F:Nat→Prop) (T:Nat→Option Tg) (σ:Nat→Value) (nx:Nat):List PV→List Value→Prop
 |nil:RPs m F T σ nx [] []
 |cons {c:PV} {v:Value} {cs:List PV} {vs:List Value} (h:RP m F T σ nx c v) (t:RPs m F T σ nx cs vs):RPs m F T σ nx (c::cs) (v::vs)
end
mutual
theorem RF.mono {m m':Mem} {F F':Nat→Prop} (hF:∀ c,F c→F' c∧m'.get c=m.get c):∀ {x:FV} {v:Value},RF m F x v→RF m' F' x v
 |_,_,.int k n=>.int k n
 |_,_,.bool b=>.bool b
 |_,_,.str s=>.str s
 |_,_,.val h=>.val h
 |_,_,.agg h hc=>.agg (RFs.mono hF h) hc
 |_,_,.nil e=>.nil e
 |_,_,.room e b o g=>.room e b o g
 |_,_,.lst hb hm hw h hc=>.lst (hF _ hb).1 ((hF _ hb).2.trans hm) hw (RFs.mono hF h) hc
 |_,_,.cptr hb hm hg hw h hc=>.cptr (hF _ hb).1 ((hF _ hb).2.trans hm) hg hw (RFs.mono hF h) hc
theorem RFs.mono {m m':Mem} {F F':Nat→Prop} (hF:∀ c,F c→F' c∧m'.get c=m.get c):∀ {x:List FV} {v:List Value},RFs m F x v→RFs m' F' x v
 |_,_,.nil=>.nil
 |_,_,.cons h t=>.cons (RF.mono hF h) (RFs.mono hF t)
end
def TLe:Option Tg→Option Tg→Prop
 |_,none=>True
 |some t,some t'=>t.le t'
 |none,some _=>False
def Names (nx:Nat) (T:Nat→Option Tg) (σ:Nat→Value) (T':Nat→Option Tg) (σ':Nat→Value):Prop :=
 ∀ b,b<nx→TLe (T b) (T' b)∧(∀ t,T b=some t→T' b=some t→σ' b=σ b)
theorem Names.vec {nx:Nat} {T T':Nat→Option Tg} {σ σ':Nat→Value} (h:Names nx T σ T' σ') {b n:Nat} (hb:b<nx) (ht:T' b=some (.vec n)):∃ k,T b=some (.vec k)∧k≤n∧(k=n→σ' b=σ b):=by
 obtain ⟨h1,h2⟩:=h b hb
 rw [ht] at h1
 cases hT:T b with
 |none=>rw [hT] at h1;exact h1.elim
 |some t =>
  rw [hT] at h1
  cases t with
  |vec k=>exact ⟨k,rfl,h1,fun e=>h2 _ (by rw [hT,e]) ht⟩
  |box=>exact h1.elim
  |map=>exact h1.elim
theorem Names.box {nx:Nat} {T T':Nat→Option Tg} {σ σ':Nat→Value} (h:Names nx T σ T' σ') {b:Nat} (hb:b<nx) (ht:T' b=some .box):T b=some .box∧σ' b=σ b:=by
 obtain ⟨h1,h2⟩:=h b hb
 rw [ht] at h1
 cases hT:T b with
 |none=>rw [hT] at h1;exact h1.elim
 |some t =>
  rw [hT] at h1
  cases t with
  |box=>exact ⟨rfl,h2 _ hT ht⟩
  |vec k=>exact h1.elim
  |map=>exact h1.elim
theorem Names.map {nx:Nat} {T T':Nat→Option Tg} {σ σ':Nat→Value} (h:Names nx T σ T' σ') {b:Nat} (hb:b<nx) (ht:T' b=some .map):T b=some .map∧σ' b=σ b:=by
 obtain ⟨h1,h2⟩:=h b hb
 rw [ht] at h1
 cases hT:T b with
 |none=>rw [hT] at h1;exact h1.elim
 |some t =>
  rw [hT] at h1
  cases t with
  |map=>exact ⟨rfl,h2 _ hT ht⟩
  |vec k=>exact h1.elim
  |box=>exact h1.elim
theorem TLe.refl (t:Option Tg):TLe t t:=by
 cases t with
 |none=>trivial
 |some t=>cases t<;>simp [TLe,Tg.le]
theorem TLe.trans {a b c:Option Tg} (h:TLe a b) (k:TLe b c):TLe a c:=by
 cases c with
 |none=>trivial
 |some c =>
  cases b with
  |none=>exact k.elim
  |some b =>
   cases a with
   |none=>exact h.elim
   |some a =>
    cases a<;>cases b<;>cases c<;>simp_all [TLe,Tg.le]
    omega
theorem TLe.antisymm {a b c:Option Tg} (h:TLe a b) (k:TLe b c) (e:c=a):b=a:=by
 subst e
 cases c with
 |none =>
  cases b with
  |none=>rfl
  |some b=>exact h.elim
 |some c =>
  cases b with
  |none=>exact k.elim
  |some b =>
   cases c<;>cases b<;>simp_all [TLe,Tg.le]
   omega
theorem Names.refl (nx:Nat) (T:Nat→Option Tg) (σ:Nat→Value):Names nx T σ T σ:=fun _ _=>⟨TLe.refl _,fun _ _ _=>rfl⟩
theorem Names.trans {nx nx':Nat} {T T' T'':Nat→Option Tg} {σ σ' σ'':Nat→Value} (h:Names nx T σ T' σ') (k:Names nx' T' σ' T'' σ'') (hn:nx≤nx'):Names nx T σ T'' σ'':=fun b hb=>by
 obtain ⟨h1,h2⟩:=h b hb
 obtain ⟨k1,k2⟩:=k b (Nat.lt_of_lt_of_le hb hn)
 refine ⟨h1.trans k1,fun t e1 e2=>?_⟩
 have e':=TLe.antisymm h1 k1 (e2.trans e1.symm)
 rw [k2 t (e'.trans e1) e2,h2 t e1 (e'.trans e1)]
section
variable {m m':Mem} {F F':Nat→Prop} {T T':Nat→Option Tg} {σ σ':Nat→Value} {nx nx':Nat}
mutual
theorem RP.mono (hF:∀ c,F c→F' c∧m'.get c=m.get c) (hN:Names nx T σ T' σ') (hn:nx≤nx'):∀ {x:PV} {v:Value},RP m F T σ nx x v→RP m' F' T' σ' nx' x v
 |_,_,.p h=>.p (h.mono hF)
 |_,_,.agg h hc=>.agg (RPs.mono hF hN hn h) hc
 |_,_,.tup h=>.tup (RPs.mono hF hN hn h)
 |_,_,.vec hb hc h=>.vec (Nat.lt_of_lt_of_le hb hn) hc fun n ht=>by
  obtain ⟨k,h1,h2,h3⟩:=hN.vec hb ht
  obtain ⟨h4,h5⟩:=h k h1
  exact ⟨by omega,fun e=>by rw [h3 (by omega)];exact h5 (by omega)⟩
 |_,_,.ref hb hc h=>.ref (Nat.lt_of_lt_of_le hb hn) hc fun ht=>by
  obtain ⟨h1,h2⟩:=hN.box hb ht
  rw [h2];exact h h1
 |_,_,.eref hb hc h=>.eref (Nat.lt_of_lt_of_le hb hn) hc fun n ht=>by
  obtain ⟨k,h1,h2,h3⟩:=hN.vec hb ht
  obtain ⟨h4,h5⟩:=h k h1
  exact ⟨by omega,fun e=>by rw [h3 (by omega)];exact h5 (by omega)⟩
 |_,_,.mref hb hc h=>.mref (Nat.lt_of_lt_of_le hb hn) hc fun ht=>by
  obtain ⟨h1,h2⟩:=hN.map hb ht
  rw [h2];exact h h1
 |_,_,.clo h1 h2=>.clo (RPs.mono hF hN hn h1) (RPs.mono hF hN hn h2)
theorem RPs.mono (hF:∀ c,F c→F' c∧m'.get c=m.get c) (hN:Names nx T σ T' σ') (hn:nx≤nx'):∀ {x:List PV} {v:List Value},RPs m F T σ nx x v→RPs m' F' T' σ' nx' x v
 |_,_,.nil=>.nil
 |_,_,.cons h t=>.cons (RP.mono hF hN hn h) (RPs.mono hF hN hn t)
end
end
def blkOf:Value→Option Nat
 | .pointer (some a)=>some a.block
 | .slice (some ⟨c,_,none⟩) _ _=>some c
 | .map (some r)=>some r
 |_=>none
def entsRel (m:Mem) (F:Nat→Prop) (es:List (FV×FV)) (l:List MapEntry):Prop :=
 RFs m F (es.map (·.1)) (l.map (·.key))∧RFs m F (es.map (·.2)) (l.map (·.val))
def RB (m:Mem) (F:Nat→Prop) (T:Nat→Option Tg) (σ:Nat→Value) (nx:Nat) (s:Value):HB→Prop
 | .box e cs=>∃ c vs,s=.pointer (some ⟨c,0,none⟩)∧c<m.size∧¬ F c∧m.get c=.cells vs e 0 false∧RPs m F T σ nx cs vs∧vs.all isCell=true
 | .vec e cs n z=>(cs=[]∧n=0∧(s=nilSlice∧z=true∨∃ b o g,s=.slice (some ⟨b,o,some g⟩) 0 0∧z=false)) ∨
  ∃ c g vs,s=.slice (some ⟨c,0,none⟩) n g∧c<m.size∧¬ F c∧m.get c=.cells vs e g false∧RFs m F cs vs∧vs.all isCell=true∧(n=0→z=false)
 | .map es=>∃ r l clock,s=.map (some r)∧r<m.size∧¬ F r∧m.get r=.map l clock∧entsRel m F es l
 | .vecp e cs n=>∃ c g vs,s=.slice (some ⟨c,0,none⟩) n g∧c<m.size∧¬ F c∧m.get c=.cells vs e g false∧RPs m F T σ nx cs vs∧vs.all isCell=true
structure Ctx (Γ:Nat→Option (List Value×TypeId)) (m:Mem) (F:Nat→Prop) (σ:Nat→Value) (H:Heap) (nx:Nat):Prop where
 fr:∀ c,F c→c<m.size
 hp:∀ b x,hget H b=some x→b<nx∧RB m F (htag H) σ nx (σ b) x
 sep:∀ b b' x x' c,hget H b=some x→hget H b'=some x'→blkOf (σ b)=some c→blkOf (σ b')=some c→b=b'
 gl:∀ g vs e,Γ g=some (vs,e)→F g∧m.get g=.cells vs e 0 true∧vs.all Am.plainCell=true
def own (H:Heap) (σ:Nat→Value) (c:Nat):Prop:=∃ b x,hget H b=some x∧blkOf (σ b)=some c
structure Step (m:Mem) (F:Nat→Prop) (σ:Nat→Value) (H:Heap) (nx:Nat) (m':Mem) (F':Nat→Prop) (σ':Nat→Value) (H':Heap) (nx':Nat):Prop where
 size:m.size≤m'.size
 keep:∀ c,c<m.size→¬ own H σ c→m'.get c=m.get c
 fmono:∀ c,F c→F' c
 fback:∀ c,c<m.size→F' c→F c∨own H σ c
 oback:∀ c,c<m.size→own H' σ' c→own H σ c
 nxle:nx≤nx'
 names:Names nx (htag H) σ (htag H') σ'
 low:∀ k,k≤m.low→k≤m.size→(∀ c,own H σ c→k≤c)→k≤m'.low
variable {Γ:Nat→Option (List Value×TypeId)}
theorem Ctx.notF {m:Mem} {F:Nat→Prop} {σ:Nat→Value} {H:Heap} {nx c:Nat} (h:Ctx Γ m F σ H nx) (ho:own H σ c):¬ F c∧c<m.size:=by
 obtain ⟨b,x,hb,hc⟩:=ho
 obtain ⟨_,hr⟩:=h.hp b x hb
 cases x with
 |box e cs =>
  obtain ⟨c',vs,h1,h2,h3,_⟩:=hr
  rw [h1] at hc
  simp only [blkOf,Option.some.injEq] at hc
  subst hc
  exact ⟨h3,h2⟩
 |vec e cs n z =>
  rcases hr with ⟨_,_,h1⟩|⟨c',g,vs,h1,h2,h3,_⟩
  ·rcases h1 with ⟨h1,_⟩|⟨b',o,g,h1,_⟩<;>rw [h1] at hc<;>simp [blkOf,nilSlice] at hc
  ·rw [h1] at hc
   simp only [blkOf,Option.some.injEq] at hc
   subst hc
   exact ⟨h3,h2⟩
 |map es =>
  obtain ⟨r,l,clock,h1,h2,h3,_⟩:=hr
  rw [h1] at hc
  simp only [blkOf,Option.some.injEq] at hc
  subst hc
  exact ⟨h3,h2⟩
 |vecp e cs n =>
  obtain ⟨c',g,vs,h1,h2,h3,_⟩:=hr
  rw [h1] at hc
  simp only [blkOf,Option.some.injEq] at hc
  subst hc
  exact ⟨h3,h2⟩
theorem Step.refl (m:Mem) (F:Nat→Prop) (σ:Nat→Value) (H:Heap) (nx:Nat):Step m F σ H nx m F σ H nx :=
 ⟨Nat.le_refl _,fun _ _ _=>rfl,fun _ h=>h,fun _ _ h=>.inl h,fun _ _ h=>h,Nat.le_refl _,Names.refl _ _ _,fun _ h _ _=>h⟩
theorem Step.trans {m m' m'':Mem} {F F' F'':Nat→Prop} {σ σ' σ'':Nat→Value} {H H' H'':Heap} {nx nx' nx'':Nat} (h:Step m F σ H nx m' F' σ' H' nx') (k:Step m' F' σ' H' nx' m'' F'' σ'' H'' nx'') :
 Step m F σ H nx m'' F'' σ'' H'' nx'' where
 size:=Nat.le_trans h.size k.size
 keep c hc ho:=(k.keep c (Nat.lt_of_lt_of_le hc h.size) fun o=>ho (h.oback c hc o)).trans (h.keep c hc ho)
 fmono c hc:=k.fmono c (h.fmono c hc)
 fback c hc hf:=by
  rcases k.fback c (Nat.lt_of_lt_of_le hc h.size) hf with h1|h1
  ·exact h.fback c hc h1
  ·exact .inr (h.oback c hc h1)
 oback c hc ho:=h.oback c hc (k.oback c (Nat.lt_of_lt_of_le hc h.size) ho)
 nxle:=Nat.le_trans h.nxle k.nxle
 names:=h.names.trans k.names h.nxle
 low j h1 h2 h3:=k.low j (h.low j h1 h2 h3) (Nat.le_trans h2 h.size) fun c ho=>by
  by_cases hc:c<m.size
  ·exact h3 c (h.oback c hc ho)
  ·omega
theorem Step.frozen {m m':Mem} {F F':Nat→Prop} {σ σ':Nat→Value} {H H':Heap} {nx nx':Nat} (h:Step m F σ H nx m' F' σ' H' nx') (hx:Ctx Γ m F σ H nx):∀ c,F c→F' c∧m'.get c=m.get c:=fun c hc =>
 ⟨h.fmono c hc,h.keep c (hx.fr c hc) fun ho=>(hx.notF ho).1 hc⟩
theorem RP.step {m m':Mem} {F F':Nat→Prop} {σ σ':Nat→Value} {H H':Heap} {nx nx':Nat} (h:Step m F σ H nx m' F' σ' H' nx') (hx:Ctx Γ m F σ H nx) {x:PV} {v:Value} (hr:RP m F (htag H) σ nx x v) :
 RP m' F' (htag H') σ' nx' x v:=hr.mono (h.frozen hx) h.names h.nxle
theorem RPs.step {m m':Mem} {F F':Nat→Prop} {σ σ':Nat→Value} {H H':Heap} {nx nx':Nat} (h:Step m F σ H nx m' F' σ' H' nx') (hx:Ctx Γ m F σ H nx) {x:List PV} {v:List Value} (hr:RPs m F (htag H) σ nx x v) :
 RPs m' F' (htag H') σ' nx' x v:=hr.mono (h.frozen hx) h.names h.nxle
def RL (m:Mem) (F:Nat→Prop) (T:Nat→Option Tg) (σ:Nat→Value) (nx:Nat) (L:Frame) (t:Tr Value):Prop:=∀ i v,lget L i=some v→RP m F T σ nx v (tget t i)
theorem RL.step {m m':Mem} {F F':Nat→Prop} {σ σ':Nat→Value} {H H':Heap} {nx nx':Nat} (h:Step m F σ H nx m' F' σ' H' nx') (hx:Ctx Γ m F σ H nx) {L:Frame} {t:Tr Value} (hr:RL m F (htag H) σ nx L t) :
 RL m' F' (htag H') σ' nx' L t:=fun i v hi=>(hr i v hi).step h hx
theorem RL.set {m:Mem} {F:Nat→Prop} {T:Nat→Option Tg} {σ:Nat→Value} {nx:Nat} {L:Frame} {t:Tr Value} (hr:RL m F T σ nx L t) {d:Nat} {x:PV} {v:Value} (h:RP m F T σ nx x v) :
 RL m F T σ nx ((d,x)::L) (tset t d v):=fun i y hi=>by
 rw [lget_cons] at hi
 rw [tget_tset]
 by_cases e:d=i
 ·rw [if_pos e] at hi ⊢
  cases hi
  exact h
 ·rw [if_neg e] at hi ⊢
  exact hr i y hi
def lput (L:Frame) (dst:Option Nat) (x:PV):Frame :=
 match dst with
 |some d=>(d,x)::L
 |none=>L
theorem RL.put {m:Mem} {F:Nat→Prop} {T:Nat→Option Tg} {σ:Nat→Value} {nx:Nat} {L:Frame} {t:Tr Value} (hr:RL m F T σ nx L t) {d:Option Nat} {x:PV} {v:Value} (h:RP m F T σ nx x v) :
 RL m F T σ nx (lput L d x) (tput t d v):=by
 cases d with
 |none=>exact hr
 |some d=>exact hr.set h
def cellFV:Value→FV
 | .int k n=>.int k n
 | .bool b=>.bool b
 | .string s=>.str s
 |x=>.val x
theorem cellFV_rel {m:Mem} {F:Nat→Prop} {x:Value} (h:Am.plainCell x=true):RF m F (cellFV x) x:=by
 unfold cellFV
 split
 ·exact .int _ _
 ·exact .bool _
 ·exact .str _
 ·exact .val h
theorem cellFVs_rel {m:Mem} {F:Nat→Prop}:∀ {l:List Value},l.all Am.plainCell=true→RFs m F (l.map cellFV) l
 |[],_=>.nil
 |v::l,h=>by
  simp only [List.all_cons,Bool.and_eq_true] at h
  exact .cons (cellFV_rel h.1) (cellFVs_rel h.2)
def constPV:Value→Option PV
 | .int k n=>some (.p (.int k n))
 | .bool b=>some (.p (.bool b))
 | .string s=>some (.p (.str s))
 | .agg cs=>if cs.toList.all Am.plainCell then some (.p (.agg (cs.toList.map cellFV))) else none
 |x=>if Am.plainCell x then some (.p (.val x)) else none
def vev (Γ:Nat→Option (List Value×TypeId)) (L:Frame):Operand→Option PV
 | .tmp i=>lget L i
 | .const v=>constPV v
 | .global g=>(Γ g).map fun x=>.p (.cptr (x.1.map cellFV))
 | .func f=>some (.clo f [] [])
theorem constPV_rel {m:Mem} {F:Nat→Prop} {T:Nat→Option Tg} {σ:Nat→Value} {nx:Nat} {v:Value} {x:PV} (h:constPV v=some x):RP m F T σ nx x v:=by
 unfold constPV at h
 split at h
 ·cases h;exact .p (.int _ _)
 ·cases h;exact .p (.bool _)
 ·cases h;exact .p (.str _)
 ·split at h
  ·rename_i cs hc
   cases h
   exact .p (.agg (cellFVs_rel hc) (all_plain_isCell hc))
  ·cases h
 ·split at h
  ·rename_i hc
   cases h
   exact .p (.val hc)
  ·cases h
theorem RFs.length {m:Mem} {F:Nat→Prop}:∀ {cs:List FV} {vs:List Value},RFs m F cs vs→cs.length=vs.length
 |_,_,.nil=>rfl
 |_,_,.cons _ t=>by simp [t.length]
theorem vev_rel {m:Mem} {F:Nat→Prop} {σ:Nat→Value} {H:Heap} {nx:Nat} {L:Frame} {t:Tr Value} (hx:Ctx Γ m F σ H nx) (hl:RL m F (htag H) σ nx L t) {o:Operand} {x:PV} (h:vev Γ L o=some x) :
 RP m F (htag H) σ nx x (ev t o):=by
 cases o with
 |tmp i=>exact hl i x h
 |const v=>exact constPV_rel h
 |global g =>
  simp only [vev,Option.map_eq_some_iff] at h
  obtain ⟨⟨vs,e⟩,h1,rfl⟩:=h
  obtain ⟨h2,h3,h4⟩:=hx.gl g vs e h1
  exact .p (.cptr h2 h3 rfl (by simp [takeN]) (cellFVs_rel h4) (all_plain_isCell h4))
 |func f =>
  cases h
  exact .clo .nil .nil
end Go.Vm
set_option linter.unusedSimpArgs false
set_option linter.unusedVariables false
namespace Go.Vm
open Go.Am
structure Env where
 P:Program
 O:Oracle
 G:List Nat
 Γ:Nat→Option (List Value×TypeId)
structure Base where
 m:Mem
 F:Nat→Prop
 σ:Nat→Value
 H:Heap
 nx:Nat
def Base.to (B:Base) (m:Mem) (F:Nat→Prop) (σ:Nat→Value) (H:Heap) (nx:Nat):Prop:=Step B.m B.F B.σ B.H B.nx m F σ H nx
def Quiet (m m':Mem):Prop:=∀ k,k≤m.low→k≤m.size→k≤m'.low
def VVal (E:Env) (w:Bool) (o:Oper) (L:Frame) (H:Heap) (nx:Nat) (Q:PV→Heap→Nat→Prop):Prop :=
 ∀ m F σ t,Ctx E.Γ m F σ H nx→RL m F (htag H) σ nx L t →
  AVal E.P E.O E.G o ⟨t,m⟩ fun v m'=>∃ r H' nx' F' σ',Q r H' nx'∧Ctx E.Γ m' F' σ' H' nx'∧RP m' F' (htag H') σ' nx' r v∧Step m F σ H nx m' F' σ' H' nx'∧(w=false→Quiet m m')
def VOps (E:Env) (bn:Nat) (ops:Array Oper) (l:List Oper) (L:Frame) (H:Heap) (nx:Nat) (Q:Frame→Heap→Nat→Prop):Prop :=
 ∀ (B:Base),B.nx=bn→∀ m F σ t,Ctx E.Γ m F σ H nx→RL m F (htag H) σ nx L t→B.to m F σ H nx →
  AOps E.P E.O E.G ops l ⟨t,m⟩ fun s'=>∃ L' H' nx' F' σ',Q L' H' nx'∧Ctx E.Γ s'.m F' σ' H' nx'∧RL s'.m F' (htag H') σ' nx' L' s'.t∧B.to s'.m F' σ' H' nx'
def VOpsD (E:Env) (bn:Nat) (ops:Array Oper) (i:Nat) (l:List Oper) (L:Frame) (H:Heap) (nx:Nat) (Q:Frame→Heap→Nat→Prop):Prop :=
 ∀ (B:Base),B.nx=bn→∀ m F σ t,Ctx E.Γ m F σ H nx→RL m F (htag H) σ nx L t→B.to m F σ H nx →
  AOpsD E.P E.O E.G ops i l ⟨t,m⟩ fun s'=>∃ L' H' nx' F' σ',Q L' H' nx'∧Ctx E.Γ s'.m F' σ' H' nx'∧RL s'.m F' (htag H') σ' nx' L' s'.t∧B.to s'.m F' σ' H' nx'
def VWp (E:Env) (bn:Nat) (c:Code) (L:Frame) (H:Heap) (nx:Nat) (Q:AExit→Frame→Heap→Nat→Prop):Prop :=
 ∀ (B:Base),B.nx=bn→∀ m F σ t,Ctx E.Γ m F σ H nx→RL m F (htag H) σ nx L t→B.to m F σ H nx →
  AWp E.P E.O E.G c ⟨t,m⟩ fun e s'=>∃ L' H' nx' F' σ',Q e L' H' nx'∧Ctx E.Γ s'.m F' σ' H' nx'∧RL s'.m F' (htag H') σ' nx' L' s'.t∧B.to s'.m F' σ' H' nx'
def VCalls (E:Env) (f:FuncId) (args:List PV) (H:Heap) (nx:Nat) (Q:PV→Heap→Nat→Prop):Prop :=
 ∀ m F σ as,Ctx E.Γ m F σ H nx→RPs m F (htag H) σ nx args as →
  ACalls E.P E.O E.G f as m fun v m'=>∃ r H' nx' F' σ',Q r H' nx'∧Ctx E.Γ m' F' σ' H' nx'∧RP m' F' (htag H') σ' nx' r v∧Step m F σ H nx m' F' σ' H' nx'
variable {E:Env} {bn:Nat} {L:Frame} {H:Heap} {nx:Nat} {Q:AExit→Frame→Heap→Nat→Prop}
theorem VWp.mono {c:Code} {R:AExit→Frame→Heap→Nat→Prop} (h:VWp E bn c L H nx R) (hq:∀ e L' H' nx',R e L' H' nx'→Q e L' H' nx'):VWp E bn c L H nx Q :=
 fun B hB m F σ t h1 h2 h3=>(h B hB m F σ t h1 h2 h3).mono fun _ _ ⟨L',H',nx',F',σ',q,r⟩=>⟨L',H',nx',F',σ',hq _ _ _ _ q,r⟩
theorem VWp.seq {a b:Code} (h:VWp E bn a L H nx fun e L' H' nx'=>match e with| .normal=>VWp E bn b L' H' nx' Q| .ret=>Q .ret L' H' nx'| .exit i=>Q (.exit i) L' H' nx'):VWp E bn (.seq a b) L H nx Q:=by
 intro B hB m F σ t h1 h2 h3
 refine AWp.seq ((h B hB m F σ t h1 h2 h3).mono ?_)
 rintro e s' ⟨L',H',nx',F',σ',q,c1,c2,c3⟩
 cases e with
 |normal=>exact q B hB _ _ _ _ c1 c2 c3
 |ret=>exact ⟨L',H',nx',F',σ',q,c1,c2,c3⟩
 |exit i=>exact ⟨L',H',nx',F',σ',q,c1,c2,c3⟩
theorem VWp.skip (h:Q .normal L H nx):VWp E bn .skip L H nx Q:=fun _ _ _ F σ _ h1 h2 h3=>AWp.skip ⟨L,H,nx,F,σ,h,h1,h2,h3⟩
theorem VWp.label {n:Nat} (h:Q .normal L H nx):VWp E bn (.label n) L H nx Q:=fun _ _ _ F σ _ h1 h2 h3=>AWp.label ⟨L,H,nx,F,σ,h,h1,h2,h3⟩
theorem VWp.ret (h:Q .ret L H nx):VWp E bn .ret L H nx Q:=fun _ _ _ F σ _ h1 h2 h3=>AWp.ret ⟨L,H,nx,F,σ,h,h1,h2,h3⟩
theorem VWp.exit {i:Nat} (h:Q (.exit i) L H nx):VWp E bn (.exit i) L H nx Q:=fun _ _ _ F σ _ h1 h2 h3=>AWp.exit ⟨L,H,nx,F,σ,h,h1,h2,h3⟩
theorem vev_bool {Γ:Nat→Option (List Value×TypeId)} {m:Mem} {F:Nat→Prop} {σ:Nat→Value} {t:Tr Value} {b:Bool} {o:Operand} (hx:Ctx Γ m F σ H nx) (hl:RL m F (htag H) σ nx L t) (h:vev Γ L o=some (.p (.bool b))):ev t o=.bool b:=by
 have:=vev_rel hx hl h
 generalize hv:ev t o=v at this
 rcases this with ⟨h⟩
 rename_i h
 cases h
 rfl
theorem VWp.cond {c:Operand} {a b:Code} (t:Bool) (hc:vev E.Γ L c=some (.p (.bool t))) (ht:t=true→VWp E bn a L H nx Q) (hf:t=false→VWp E bn b L H nx Q):VWp E bn (.cond c a b) L H nx Q :=
 fun B hB m F σ u h1 h2 h3=>AWp.cond t (vev_bool h1 h2 hc) (fun e=>ht e B hB m F σ u h1 h2 h3) (fun e=>hf e B hB m F σ u h1 h2 h3)
theorem VWp.cond_true {c:Operand} {a b:Code} (hc:vev E.Γ L c=some (.p (.bool true))) (ht:VWp E bn a L H nx Q):VWp E bn (.cond c a b) L H nx Q:=VWp.cond true hc (fun _=>ht) (fun h=>by cases h)
theorem VWp.cond_false {c:Operand} {a b:Code} (hc:vev E.Γ L c=some (.p (.bool false))) (hf:VWp E bn b L H nx Q):VWp E bn (.cond c a b) L H nx Q:=VWp.cond false hc (fun h=>by cases h) (fun _=>hf)
theorem VWp.cond_dec {c:Operand} {a b:Code} {p:Prop} {_:Decidable p} (hc:vev E.Γ L c=some (.p (.bool (decide p)))) (ht:p→VWp E bn a L H nx Q) (hf:¬ p→VWp E bn b L H nx Q):VWp E bn (.cond c a b) L H nx Q :=
 VWp.cond (decide p) hc (fun h=>ht (of_decide_eq_true h)) (fun h=>hf (of_decide_eq_false h))
theorem VWp.cond_not {c:Operand} {a b:Code} {p:Prop} {_:Decidable p} (hc:vev E.Γ L c=some (.p (.bool (!decide p)))) (ht:¬ p→VWp E bn a L H nx Q) (hf:p→VWp E bn b L H nx Q):VWp E bn (.cond c a b) L H nx Q :=
 VWp.cond (!decide p) hc (fun h=>ht (by simpa using h)) (fun h=>hf (by simpa using h))
theorem VWp.block {id:Nat} {b:Code} (h:VWp E bn b L H nx fun e L' H' nx'=>match e with| .normal=>Q .normal L' H' nx'| .ret=>Q .ret L' H' nx'| .exit i=>if i=id then Q .normal L' H' nx' else Q (.exit i) L' H' nx') :
 VWp E bn (.block id b) L H nx Q:=by
 intro B hB m F σ t h1 h2 h3
 refine AWp.block ((h B hB m F σ t h1 h2 h3).mono ?_)
 rintro e s' ⟨L',H',nx',F',σ',q,c⟩
 cases e with
 |normal=>exact ⟨L',H',nx',F',σ',q,c⟩
 |ret=>exact ⟨L',H',nx',F',σ',q,c⟩
 |exit i =>
  simp only at q ⊢
  split
  ·rename_i hi;rw [if_pos hi] at q;exact ⟨L',H',nx',F',σ',q,c⟩
  ·rename_i hi;rw [if_neg hi] at q;exact ⟨L',H',nx',F',σ',q,c⟩
theorem VWp.region {id:Nat} {ops:Array Oper} (h:VOps E bn ops ops.toList L H nx (Q .normal)):VWp E bn (.region id ops false) L H nx Q :=
 fun B hB m F σ t h1 h2 h3=>AWp.region (h B hB m F σ t h1 h2 h3)
theorem VWp.regionD {id:Nat} {ops:Array Oper} (h:VOpsD E bn ops 0 ops.toList L H nx (Q .normal)):VWp E bn (.region id ops true) L H nx Q :=
 fun B hB m F σ t h1 h2 h3=>AWp.regionD (h B hB m F σ t h1 h2 h3)
mutual
inductive FLe:FV→FV→Prop
 |refl (x:FV):FLe x x
 |nil (e:TypeId):FLe (.val (.slice none 0 0)) (.lst e [] 0)
 |agg {cs ds:List FV} (h:FLes cs ds):FLe (.agg cs) (.agg ds)
 |lst {e:TypeId} {n:Nat} {cs ds:List FV} (h:FLes cs ds):FLe (.lst e cs n) (.lst e ds n)
 |cptr {cs ds:List FV} (h:FLes cs ds):FLe (.cptr cs) (.cptr ds)
inductive FLes:List FV→List FV→Prop
 |refl (l:List FV):FLes l l
 |cons {a b:FV} {l l':List FV} (h:FLe a b) (t:FLes l l'):FLes (a::l) (b::l')
end
theorem FLe.of_eq {x y:FV} (h:x=y):FLe x y:=h▸.refl _
theorem FLes.of_eq {x y:List FV} (h:x=y):FLes x y:=h▸.refl _
mutual
inductive PLe:PV→PV→Prop
 |refl (x:PV):PLe x x
 |p {x y:FV} (h:FLe x y):PLe (.p x) (.p y)
 |agg {cs ds:List PV} (h:PLes cs ds):PLe (.agg cs) (.agg ds)
 |tup {cs ds:List PV} (h:PLes cs ds):PLe (.tup cs) (.tup ds)
inductive PLes:List PV→List PV→Prop
 |refl (l:List PV):PLes l l
 |cons {a b:PV} {l l':List PV} (h:PLe a b) (t:PLes l l'):PLes (a::l) (b::l')
end
theorem PLe.of_eq {x y:PV} (h:x=y):PLe x y:=h▸.refl _
theorem PLes.of_eq {x y:List PV} (h:x=y):PLes x y:=h▸.refl _
mutual
theorem FLe.length {cs ds:List FV}:FLes cs ds→cs.length=ds.length
 | .refl _=>rfl
 | .cons _ t=>by simp [FLe.length t]
end
section
variable {m:Mem} {F:Nat→Prop}
mutual
theorem RF.le:∀ {x y:FV},FLe x y→∀ {v:Value},RF m F x v→RF m F y v
 |_,_,.refl _,_,h=>h
 |_,_,.nil e,_,h=>by cases h;exact RF.nil e
 |_,_,.agg h,_,r=>by cases r with|agg h1 hc=>exact .agg (RFs.le h h1) hc
 |_,_,.lst h,_,r=>by
  cases r with
  |nil=>cases h with|refl=>exact .nil _
  |room=>cases h with|refl=>exact .room _ _ _ _
  |lst hF hm hw h1 hc=>exact .lst hF hm (by rw [← FLe.length h];exact hw) (RFs.le h h1) hc
 |_,_,.cptr h,_,r=>by cases r with|cptr hF hm hg hw h1 hc=>exact .cptr hF hm hg (by rw [← FLe.length h];exact hw) (RFs.le h h1) hc
theorem RFs.le:∀ {x y:List FV},FLes x y→∀ {v:List Value},RFs m F x v→RFs m F y v
 |_,_,.refl _,_,h=>h
 |_,_,.cons h t,_,r=>by cases r with|cons h1 t1=>exact .cons (RF.le h h1) (RFs.le t t1)
end
variable {T:Nat→Option Tg} {σ:Nat→Value} {n:Nat}
mutual
theorem RP.le:∀ {x y:PV},PLe x y→∀ {v:Value},RP m F T σ n x v→RP m F T σ n y v
 |_,_,.refl _,_,h=>h
 |_,_,.p h,_,r=>by cases r with|p h1=>exact .p (RF.le h h1)
 |_,_,.agg h,_,r=>by cases r with|agg h1 hc=>exact .agg (RPs.le h h1) hc
 |_,_,.tup h,_,r=>by cases r with|tup h1=>exact .tup (RPs.le h h1)
theorem RPs.le:∀ {x y:List PV},PLes x y→∀ {v:List Value},RPs m F T σ n x v→RPs m F T σ n y v
 |_,_,.refl _,_,h=>h
 |_,_,.cons h t,_,r=>by cases r with|cons h1 t1=>exact .cons (RP.le h h1) (RPs.le t t1)
end
end
mutual
def PV.under (k:Nat):PV→Prop
 | .p _=>True
 | .agg cs=>PVs.under k cs
 | .tup cs=>PVs.under k cs
 | .vec b _ _ _=>b<k
 | .ref b _=>b<k
 | .eref b _ _=>b<k
 | .mref b=>b<k
 | .clo _ fs cs=>PVs.under k fs∧PVs.under k cs
def PVs.under (k:Nat):List PV→Prop
 |[]=>True
 |c::cs=>PV.under k c∧PVs.under k cs
end
theorem PVs.under_pure (k:Nat):∀ cs:List FV,PVs.under k (cs.map .p)
 |[]=>trivial
 |_::cs=>⟨trivial,PVs.under_pure k cs⟩
section
variable {m:Mem} {F:Nat→Prop} {T T':Nat→Option Tg} {σ:Nat→Value} {nx nx':Nat}
mutual
theorem RP.low (hT:∀ b t,T' b=some t→T b=some t):∀ {x:PV} {v:Value},x.under nx'→RP m F T σ nx x v→RP m F T' σ nx' x v
 |_,_,_,.p h=>.p h
 |_,_,hb,.agg h hc=>.agg (RPs.low hT hb h) hc
 |_,_,hb,.tup h=>.tup (RPs.low hT hb h)
 |_,_,hb,.vec _ hc h=>.vec hb hc fun n ht=>h n (hT _ _ ht)
 |_,_,hb,.ref _ hc h=>.ref hb hc fun ht=>h (hT _ _ ht)
 |_,_,hb,.eref _ hc h=>.eref hb hc fun n ht=>h n (hT _ _ ht)
 |_,_,hb,.mref _ hc h=>.mref hb hc fun ht=>h (hT _ _ ht)
 |_,_,hb,.clo h1 h2=>.clo (RPs.low hT hb.1 h1) (RPs.low hT hb.2 h2)
theorem RPs.low (hT:∀ b t,T' b=some t→T b=some t):∀ {x:List PV} {v:List Value},PVs.under nx' x→RPs m F T σ nx x v→RPs m F T' σ nx' x v
 |_,_,_,.nil=>.nil
 |_,_,hb,.cons h t=>.cons (RP.low hT hb.1 h) (RPs.low hT hb.2 t)
end
end
def LCov (k:Nat):Frame→Frame→Prop
 |[],_=>True
 |(i,v0)::L0,L=>(v0.under k∧∃ v,lget L i=some v∧PLe v v0)∧LCov k L0 L
inductive HLe:HB→HB→Prop
 |refl (x:HB):HLe x x
 |box {e:TypeId} {cs ds:List PV} (h:PLes cs ds):HLe (.box e cs) (.box e ds)
 |vec {e:TypeId} {cs ds:List FV} {n k:Nat} {z:Bool} (h:FLes cs ds) (hn:n=k):HLe (.vec e cs n z) (.vec e ds k z)
theorem HLe.of_eq {x y:HB} (h:x=y):HLe x y:=h▸.refl _
def HB.under (k:Nat):HB→Prop
 | .box _ cs=>PVs.under k cs
 | .vecp _ cs _=>PVs.under k cs
 |_=>True
def HCov (k:Nat):Heap→Heap→Prop
 |[],_=>True
 |(i,x0)::H0,H=>(i<k∧x0.under k∧∃ x,hget H i=some x∧HLe x x0)∧HCov k H0 H
structure Cov (L:Frame) (H:Heap) (nx:Nat) (L0:Frame) (H0:Heap) (nx0:Nat):Prop where
 n:nx0≤nx
 l:LCov nx0 L0 L
 h:HCov nx0 H0 H
theorem LCov.get {k:Nat} {L:Frame}:∀ {L0:Frame},LCov k L0 L→∀ i v0,lget L0 i=some v0→v0.under k∧∃ v,lget L i=some v∧PLe v v0
 |[],_,_,_,h=>by cases h
 |(j,w)::L0,⟨h1,h2⟩,i,v0,h=>by
  rw [lget_cons] at h
  by_cases e:j=i
  ·rw [if_pos e] at h;cases h;subst e;exact h1
  ·rw [if_neg e] at h;exact LCov.get h2 i v0 h
theorem HCov.get {k:Nat} {H:Heap}:∀ {H0:Heap},HCov k H0 H→∀ i v0,hget H0 i=some v0→i<k∧v0.under k∧∃ v,hget H i=some v∧HLe v v0
 |[],_,_,_,h=>by cases h
 |(j,w)::L0,⟨h1,h2⟩,i,v0,h=>by
  rw [hget_cons] at h
  by_cases e:j=i
  ·rw [if_pos e] at h;cases h;subst e;exact h1
  ·rw [if_neg e] at h;exact HCov.get h2 i v0 h
theorem HLe.tag {x y:HB} (h:HLe x y):x.tag=y.tag:=by
 cases h with
 |refl=>rfl
 |box=>rfl
 |vec _ hn=>simp [HB.tag,hn]
theorem HCov.tag {k:Nat} {H H0:Heap} (h:HCov k H0 H) (b:Nat) (t:Tg) (ht:htag H0 b=some t):htag H b=some t:=by
 unfold htag at ht ⊢
 cases h0:hget H0 b with
 |none=>rw [h0] at ht;cases ht
 |some x0 =>
  rw [h0] at ht
  obtain ⟨_,_,x,hx,hle⟩:=h.get b x0 h0
  rw [hx,Option.map_some,hle.tag]
  exact ht
theorem Cov.own {L0:Frame} {H0:Heap} {nx0:Nat} (h:Cov L H nx L0 H0 nx0) {σ:Nat→Value} {c:Nat} (ho:Vm.own H0 σ c):Vm.own H σ c:=by
 obtain ⟨b,x,hb,hc⟩:=ho
 obtain ⟨_,_,y,hy,_⟩:=h.h.get b x hb
 exact ⟨b,y,hy,hc⟩
theorem Cov.ctx {Γ:Nat→Option (List Value×TypeId)} {m:Mem} {F:Nat→Prop} {σ:Nat→Value} {L0:Frame} {H0:Heap} {nx0:Nat} (h:Cov L H nx L0 H0 nx0) (hx:Ctx Γ m F σ H nx):Ctx Γ m F σ H0 nx0 where
 fr:=hx.fr
 hp b x0 hb:=by
  obtain ⟨h1,h2,x,h3,h4⟩:=h.h.get b x0 hb
  refine ⟨h1,?_⟩
  obtain ⟨_,hr⟩:=hx.hp b x h3
  have hT:=fun b t=>HCov.tag h.h b t
  cases h4 with
  |refl =>
   cases x0 with
   |box e cs=>obtain ⟨c,vs,r1,r2,r3,r4,r5,r6⟩:=hr;exact ⟨c,vs,r1,r2,r3,r4,RPs.low hT h2 r5,r6⟩
   |vec e cs n z=>exact hr
   |map es=>exact hr
   |vecp e cs n=>obtain ⟨c,g,vs,r1,r2,r3,r4,r5,r6⟩:=hr;exact ⟨c,g,vs,r1,r2,r3,r4,RPs.low hT h2 r5,r6⟩
  |box hle=>obtain ⟨c,vs,r1,r2,r3,r4,r5,r6⟩:=hr;exact ⟨c,vs,r1,r2,r3,r4,RPs.low hT h2 (RPs.le hle r5),r6⟩
  |vec hle hn =>
   subst hn
   rcases hr with ⟨r1,r2,r3⟩|⟨c,g,vs,r1,r2,r3,r4,r5,r6⟩
   ·subst r1
    cases hle with|refl=>exact .inl ⟨rfl,r2,r3⟩
   ·exact .inr ⟨c,g,vs,r1,r2,r3,r4,RFs.le hle r5,r6⟩
 sep b b' x x' c h1 h2 h3 h4:=by
  obtain ⟨_,_,y,hy,_⟩:=h.h.get b x h1
  obtain ⟨_,_,y',hy',_⟩:=h.h.get b' x' h2
  exact hx.sep b b' y y' c hy hy' h3 h4
 gl:=hx.gl
theorem Cov.rl {m:Mem} {F:Nat→Prop} {σ:Nat→Value} {L0:Frame} {H0:Heap} {nx0:Nat} (h:Cov L H nx L0 H0 nx0) {t:Tr Value} (hl:RL m F (htag H) σ nx L t):RL m F (htag H0) σ nx0 L0 t:=fun i v hi=>by
 obtain ⟨h1,w,h2,h3⟩:=h.l.get i v hi
 exact RP.low (fun b t=>HCov.tag h.h b t) h1 (RP.le h3 (hl i w h2))
theorem Cov.step {B:Base} {m:Mem} {F:Nat→Prop} {σ:Nat→Value} {L0:Frame} {H0:Heap} {nx0:Nat} (h:Cov L H nx L0 H0 nx0) (hb:B.nx≤nx0) (hs:B.to m F σ H nx):B.to m F σ H0 nx0 where
 size:=hs.size
 keep:=hs.keep
 fmono:=hs.fmono
 fback:=hs.fback
 oback c hc ho:=hs.oback c hc (h.own ho)
 nxle:=hb
 names b hb:=by
  obtain ⟨h1,h2⟩:=hs.names b hb
  cases h0:htag H0 b with
  |none=>exact ⟨trivial,fun _ _ e=>by cases e⟩
  |some t =>
   have:=HCov.tag h.h b t h0
   rw [this] at h1 h2
   exact ⟨h1,h2⟩
 low:=hs.low
end Go.Vm
set_option linter.unusedSimpArgs false
set_option linter.unusedVariables false
namespace Go.Vm
open Go.Am
variable {E:Env} {bn:Nat} {L:Frame} {H:Heap} {nx:Nat} {Q:AExit→Frame→Heap→Nat→Prop}
theorem VWp.weaken {c:Code} {L0:Frame} {H0:Heap} {nx0:Nat} (hb:bn≤nx0) (hc:Cov L H nx L0 H0 nx0) (h:VWp E bn c L0 H0 nx0 Q):VWp E bn c L H nx Q :=
 fun B hB m F σ t h1 h2 h3=>h B hB m F σ t (hc.ctx h1) (hc.rl h2) (hc.step (by omega) h3)
theorem VWp.loop {α:Type} {b:Code} (Lf:α→Frame) (Hf:α→Heap) (nx0:Nat) (inv:α→Prop) (μ:α→Nat) (a0:α) (hb:bn≤nx0) (h0:inv a0) (hc:Cov L H nx (Lf a0) (Hf a0) nx0)
 (hs:∀ a,inv a→VWp E bn b (Lf a) (Hf a) nx0 fun e L' H' nx'=>match e with| .normal=>∃ a',inv a'∧μ a'<μ a∧Cov L' H' nx' (Lf a') (Hf a') nx0| .ret=>Q .ret L' H' nx'| .exit i=>Q (.exit i) L' H' nx') :
 VWp E bn (.loop b) L H nx Q:=by
 intro B hB m F σ t h1 h2 h3
 refine AWp.loop (fun n s=>∃ a F σ,inv a∧μ a=n∧Ctx E.Γ s.m F σ (Hf a) nx0∧RL s.m F (htag (Hf a)) σ nx0 (Lf a) s.t∧B.to s.m F σ (Hf a) nx0) (μ a0) ⟨a0,F,σ,h0,rfl,hc.ctx h1,hc.rl h2,hc.step (by omega) h3⟩ ?_
 rintro n s ⟨a,F1,σ1,ha,rfl,c1,c2,c3⟩
 refine (hs a ha B hB s.m F1 σ1 s.t c1 c2 c3).mono ?_
 rintro e s' ⟨L',H',nx',F',σ',q,d1,d2,d3⟩
 cases e with
 |normal =>
  obtain ⟨a',i1,i2,i3⟩:=q
  exact ⟨_,i2,a',F',σ',i1,rfl,i3.ctx d1,i3.rl d2,i3.step (by omega) d3⟩
 |ret=>exact ⟨L',H',nx',F',σ',q,d1,d2,d3⟩
 |exit i=>exact ⟨L',H',nx',F',σ',q,d1,d2,d3⟩
section
variable {ops:Array Oper} {o:Oper} {l:List Oper} {i:Nat} {R:Frame→Heap→Nat→Prop}
theorem VOps.nil (h:R L H nx):VOps E bn ops [] L H nx R:=fun _ _ _ F σ _ h1 h2 h3=>AOps.nil ⟨L,H,nx,F,σ,h,h1,h2,h3⟩
theorem VOpsD.nil (h:R L H nx):VOpsD E bn ops i [] L H nx R:=fun _ _ _ F σ _ h1 h2 h3=>AOpsD.nil ⟨L,H,nx,F,σ,h,h1,h2,h3⟩
def guardIs (ops:Array Oper) (L:Frame) (o:Oper) (w:Bool):Prop :=
 match o.guard with
 |none=>w=true
 |some (j,want)=>∃ b d,(ops[j]?).bind (·.dst)=some d∧lget L d=some (.p (.bool b))∧w=(b==want)
theorem guardIs.wanted {Γ:Nat→Option (List Value×TypeId)} {m:Mem} {F:Nat→Prop} {σ:Nat→Value} {t:Tr Value} {w:Bool} (hx:Ctx Γ m F σ H nx) (hl:RL m F (htag H) σ nx L t) (h:guardIs ops L o w):Region.wanted o (ayielded ops t)=w:=by
 unfold guardIs at h
 unfold Region.wanted
 split at h
 ·rename_i hg;rw [hg];exact h.symm
 ·rename_i j want hg
  obtain ⟨b,d,h1,h2,h3⟩:=h
  have hb:tget t d=.bool b:=vev_bool (o:=.tmp d) hx hl h2
  rw [hg]
  simp only [ayielded,h1,hb,h3]
  cases b<;>cases want<;>rfl
theorem VOps.cons (hg:guardIs ops L o true) (h:VVal E true o L H nx fun r H' nx'=>VOps E bn ops l (lput L o.dst r) H' nx' R):VOps E bn ops (o::l) L H nx R:=by
 intro B hB m F σ t h1 h2 h3
 refine AOps.cons (hg.wanted h1 h2) ((h m F σ t h1 h2).mono ?_)
 rintro v m' ⟨r,H',nx',F',σ',q,c1,c2,c3,_⟩
 exact q B hB m' F' σ' _ c1 ((h2.step c3 h1).put c2) (h3.trans c3)
theorem VOps.skip (hg:guardIs ops L o false) (h:VOps E bn ops l (lput L o.dst (.tup [])) H nx R):VOps E bn ops (o::l) L H nx R:=by
 intro B hB m F σ t h1 h2 h3
 refine AOps.skip (hg.wanted h1 h2) (h B hB m F σ _ h1 (h2.put ?_) h3)
 exact .tup .nil
theorem at_fz (m:Mem) (k:Nat) (F:Nat→Prop):∀ c,F c→F c∧(m.at k).get c=m.get c:=fun _ hc=>⟨hc,rfl⟩
theorem RL.at {Γ:Nat→Option (List Value×TypeId)} {m:Mem} {F:Nat→Prop} {T:Nat→Option Tg} {σ:Nat→Value} {t:Tr Value} (k:Nat) (h:RL m F T σ nx L t):RL (m.at k) F T σ nx L t :=
 fun i v hi=>(h i v hi).mono (at_fz m k F) (Names.refl _ _ _) (Nat.le_refl _)
theorem Ctx.at {Γ:Nat→Option (List Value×TypeId)} {m:Mem} {F:Nat→Prop} {σ:Nat→Value} (k:Nat) (h:Ctx Γ m F σ H nx):Ctx Γ (m.at k) F σ H nx where
 fr:=h.fr
 hp b x hb:=by
  obtain ⟨h1,h2⟩:=h.hp b x hb
  refine ⟨h1,?_⟩
  cases x with
  |box e cs=>obtain ⟨c,vs,r1,r2,r3,r4,r5,r6⟩:=h2;exact ⟨c,vs,r1,r2,r3,r4,r5.mono (at_fz m k F) (Names.refl _ _ _) (Nat.le_refl _),r6⟩
  |vec e cs n z =>
   rcases h2 with h2|⟨c,g,vs,r1,r2,r3,r4,r5,r6⟩
   ·exact .inl h2
   ·exact .inr ⟨c,g,vs,r1,r2,r3,r4,r5.mono (at_fz m k F),r6⟩
  |map es=>obtain ⟨r,l,clock,r1,r2,r3,r4,r5,r6⟩:=h2;exact ⟨r,l,clock,r1,r2,r3,r4,r5.mono (at_fz m k F),r6.mono (at_fz m k F)⟩
  |vecp e cs n=>obtain ⟨c,g,vs,r1,r2,r3,r4,r5,r6⟩:=h2;exact ⟨c,g,vs,r1,r2,r3,r4,r5.mono (at_fz m k F) (Names.refl _ _ _) (Nat.le_refl _),r6⟩
 sep:=h.sep
 gl:=h.gl
theorem Step.at {m m':Mem} {F F':Nat→Prop} {σ σ':Nat→Value} {H H':Heap} {nx nx':Nat} (h:Step (m.at m.size) F σ H nx m' F' σ' H' nx'):Step m F σ H nx (m'.at (min m.low m'.low)) F' σ' H' nx' where
 size:=h.size
 keep:=h.keep
 fmono:=h.fmono
 fback:=h.fback
 oback:=h.oback
 nxle:=h.nxle
 names:=h.names
 low k h1 h2 h3:=by
  have:=h.low k h2 h2 h3
  simp only [Mem.at_low]
  omega
theorem Step.at0 (m:Mem) (k:Nat) (F:Nat→Prop) (σ:Nat→Value) (H:Heap) (nx:Nat) (hk:min m.low m.size≤k):Step m F σ H nx (m.at k) F σ H nx where
 size:=Nat.le_refl _
 keep _ _ _:=rfl
 fmono _ h:=h
 fback _ _ h:=.inl h
 oback _ _ h:=h
 nxle:=Nat.le_refl _
 names:=Names.refl _ _ _
 low j h1 h2 _:=by simp only [Mem.at_low];omega
theorem VOpsD.cons {w:Bool} (hg:guardIs ops L o true) (hw:barrier E.P ops i=w) (h:VVal E w o L H nx fun r H' nx'=>VOpsD E bn ops (i+1) l (lput L o.dst r) H' nx' R):VOpsD E bn ops i (o::l) L H nx R:=by
 intro B hB m F σ t h1 h2 h3
 refine AOpsD.cons (hg.wanted h1 h2) ((h (m.at m.size) F σ t (h1.at _) (RL.at (Γ:=E.Γ) _ h2)).mono ?_)
 rintro v m' ⟨r,H',nx',F',σ',q,c1,c2,c3,c4⟩
 refine ⟨?_,?_⟩
 ·cases w with
  |true=>exact .inl hw
  |false=>exact .inr (.inl (c4 rfl m.size (Nat.le_refl _) (Nat.le_refl _)))
 ·refine q B hB _ F' σ' _ (c1.at _) (RL.at (Γ:=E.Γ) _ (((RL.at (Γ:=E.Γ) _ h2).step c3 (h1.at _)).put c2)) (h3.trans c3.at)
theorem VOpsD.skip (hg:guardIs ops L o false) (h:VOpsD E bn ops (i+1) l (lput L o.dst (.tup [])) H nx R):VOpsD E bn ops i (o::l) L H nx R:=by
 intro B hB m F σ t h1 h2 h3
 refine AOpsD.skip (hg.wanted h1 h2) (h B hB _ F σ _ (h1.at _) (RL.at (Γ:=E.Γ) _ (h2.put (.tup .nil))) (h3.trans (Step.at0 _ _ _ _ _ _ (Nat.le_refl _))))
theorem VOps.split {j d:Nat} {want:Bool} {p:Prop} {_:Decidable p} (hg:o.guard=some (j,want)) (hd:(ops[j]?).bind (·.dst)=some d) (hb:lget L d=some (.p (.bool (decide p))))
 (ht:p→VOps E bn ops (o::l) ((d,.p (.bool true))::L) H nx R) (hf:¬ p→VOps E bn ops (o::l) ((d,.p (.bool false))::L) H nx R):VOps E bn ops (o::l) L H nx R:=by
 have key:∀ b,decide p=b→VOps E bn ops (o::l) ((d,.p (.bool b))::L) H nx R→VOps E bn ops (o::l) L H nx R:=by
  intro b he h B hB m F σ t h1 h2 h3
  refine h B hB m F σ t h1 (fun k x hk=>?_) h3
  rw [lget_cons] at hk
  by_cases e:d=k
  ·rw [if_pos e] at hk
   cases hk
   subst e
   have:=h2 d _ hb
   rw [he] at this
   exact this
  ·rw [if_neg e] at hk;exact h2 k x hk
 by_cases h:p
 ·exact key true (decide_eq_true h) (ht h)
 ·exact key false (decide_eq_false h) (hf h)
theorem VOpsD.split {j d:Nat} {want:Bool} {p:Prop} {_:Decidable p} (hg:o.guard=some (j,want)) (hd:(ops[j]?).bind (·.dst)=some d) (hb:lget L d=some (.p (.bool (decide p))))
 (ht:p→VOpsD E bn ops i (o::l) ((d,.p (.bool true))::L) H nx R) (hf:¬ p→VOpsD E bn ops i (o::l) ((d,.p (.bool false))::L) H nx R):VOpsD E bn ops i (o::l) L H nx R:=by
 have key:∀ b,decide p=b→VOpsD E bn ops i (o::l) ((d,.p (.bool b))::L) H nx R→VOpsD E bn ops i (o::l) L H nx R:=by
  intro b he h B hB m F σ t h1 h2 h3
  refine h B hB m F σ t h1 (fun k x hk=>?_) h3
  rw [lget_cons] at hk
  by_cases e:d=k
  ·rw [if_pos e] at hk
   cases hk
   subst e
   have:=h2 d _ hb
   rw [he] at this
   exact this
  ·rw [if_neg e] at hk;exact h2 k x hk
 by_cases h:p
 ·exact key true (decide_eq_true h) (ht h)
 ·exact key false (decide_eq_false h) (hf h)
end
def takeF {α:Type}:Nat→List α→Option (List α)
 |0,_=>some []
 |_+1,[]=>none
 |n+1,a::l=>(takeF n l).map (a::·)
def allP:List PV→Option (List FV)
 |[]=>some []
 | .p x::l=>(allP l).map (x::·)
 |_::_=>none
def mkAgg (l:List PV):PV:=match allP l with
 |some fs=>.p (.agg fs)
 |none=>.agg l
def loadF (P:Program) (t:TypeId) (cs:List FV):Option FV :=
 match isAggT P t with
 |some false=>cs.head?
 |some true=>match P.info? t with
  |some i=>(takeF i.size cs).map .agg
  |none=>none
 |none=>none
def loadP (P:Program) (t:TypeId) (cs:List PV):Option PV :=
 match isAggT P t with
 |some false=>cs.head?
 |some true=>match P.info? t with
  |some i=>(takeF i.size cs).map mkAgg
  |none=>none
 |none=>none
def vload (P:Program) (t:TypeId) (H:Heap):PV→Option PV
 | .p (.cptr cs)=>(loadF P t cs).map .p
 | .ref b off=>match hget H b with
  |some (.box _ cs)=>loadP P t (cs.drop off)
  |_=>none
 | .eref b tag off=>match hget H b with
  |some (.vec _ cs n _)=>match Nat.decEq tag n with
   | .isTrue _=>(loadF P t (cs.drop off)).map .p
   | .isFalse _=>none
  |_=>none
 |_=>none
theorem takeF_takeN {m:Mem} {F:Nat→Prop}:∀ {n:Nat} {cs:List FV} {ws:List Value} {l:List FV},RFs m F cs ws→takeF n cs=some l→∃ w,takeN n ws=some w∧RFs m F l w
 |0,_,_,_,_,h=>by cases h;exact ⟨[],by simp [takeN],.nil⟩
 |n+1,[],_,_,_,h=>by cases h
 |n+1,c::cs,_,l,.cons h t,hl=>by
  simp only [takeF,Option.map_eq_some_iff] at hl
  obtain ⟨l',h1,rfl⟩:=hl
  obtain ⟨w,h2,h3⟩:=takeF_takeN t h1
  refine ⟨_::w,?_,.cons h h3⟩
  unfold takeN at h2 ⊢
  split at h2
  ·rename_i hn
   cases h2
   simp [hn]
  ·cases h2
section
variable {m:Mem} {F:Nat→Prop} {T:Nat→Option Tg} {σ:Nat→Value} {n':Nat}
theorem takeF_takeNP:∀ {n:Nat} {cs:List PV} {ws:List Value} {l:List PV},RPs m F T σ n' cs ws→takeF n cs=some l→∃ w,takeN n ws=some w∧RPs m F T σ n' l w
 |0,_,_,_,_,h=>by cases h;exact ⟨[],by simp [takeN],.nil⟩
 |n+1,[],_,_,_,h=>by cases h
 |n+1,c::cs,_,l,.cons h t,hl=>by
  simp only [takeF,Option.map_eq_some_iff] at hl
  obtain ⟨l',h1,rfl⟩:=hl
  obtain ⟨w,h2,h3⟩:=takeF_takeNP t h1
  refine ⟨_::w,?_,.cons h h3⟩
  unfold takeN at h2 ⊢
  split at h2
  ·rename_i hn
   cases h2
   simp [hn]
  ·cases h2
theorem RFs.drop:∀ {cs:List FV} {vs:List Value} (k:Nat),RFs m F cs vs→RFs m F (cs.drop k) (vs.drop k)
 |_,_,0,h=>h
 |_,_,_+1,.nil=>.nil
 |_,_,k+1,.cons _ t=>RFs.drop k t
theorem RPs.drop:∀ {cs:List PV} {vs:List Value} (k:Nat),RPs m F T σ n' cs vs→RPs m F T σ n' (cs.drop k) (vs.drop k)
 |_,_,0,h=>h
 |_,_,_+1,.nil=>.nil
 |_,_,k+1,.cons _ t=>RPs.drop k t
theorem allP_rel:∀ {l:List PV} {fs:List FV} {vs:List Value},allP l=some fs→RPs m F T σ n' l vs→RFs m F fs vs
 |[],_,_,h,.nil=>by cases h;exact .nil
 | .p x::l,_,_,h,.cons h1 t=>by
  simp only [allP,Option.map_eq_some_iff] at h
  obtain ⟨fs,h2,rfl⟩:=h
  cases h1 with
  |p h1=>exact .cons h1 (allP_rel h2 t)
 | .agg _::_,_,_,h,_=>by cases h
 | .tup _::_,_,_,h,_=>by cases h
 | .vec ..::_,_,_,h,_=>by cases h
 | .ref ..::_,_,_,h,_=>by cases h
 | .eref ..::_,_,_,h,_=>by cases h
 | .mref ..::_,_,_,h,_=>by cases h
 | .clo ..::_,_,_,h,_=>by cases h
theorem mkAgg_rel {l:List PV} {vs:List Value} (h:RPs m F T σ n' l vs) (hc:vs.all isCell=true):RP m F T σ n' (mkAgg l) (.agg vs.toArray):=by
 unfold mkAgg
 split
 ·rename_i fs hf
  exact .p (.agg (allP_rel hf h) hc)
 ·exact .agg h hc
end
theorem takeN_some {k:Nat} {l w:List Value} (h:takeN k l=some w):w=l.take k∧k≤l.length:=by
 unfold takeN at h
 split at h
 ·rename_i hk;cases h;exact ⟨rfl,hk⟩
 ·cases h
theorem all_take {l:List Value} (h:l.all isCell=true) (k:Nat):(l.take k).all isCell=true:=by
 rw [List.all_eq_true] at h ⊢
 exact fun x hx=>h x (List.mem_of_mem_take hx)
theorem all_drop {l:List Value} (h:l.all isCell=true) (k:Nat):(l.drop k).all isCell=true:=by
 rw [List.all_eq_true] at h ⊢
 exact fun x hx=>h x (List.mem_of_mem_drop hx)
end Go.Vm
set_option linter.unusedSimpArgs false
set_option linter.unusedVariables false
namespace Go.Vm
open Go.Am
variable {E:Env} {bn:Nat} {L:Frame} {H:Heap} {nx:Nat}
theorem takeN_takeN {j k:Nat} {l ws w:List Value} (h:takeN k l=some ws) (h2:takeN j ws=some w):takeN j l=some w:=by
 obtain ⟨rfl,hk⟩:=takeN_some h
 obtain ⟨rfl,hj⟩:=takeN_some h2
 simp only [List.length_take] at hj
 unfold takeN
 rw [if_pos (by omega),List.take_take,Nat.min_eq_left (by omega)]
theorem head_rel {m:Mem} {F:Nat→Prop} {cs:List FV} {ws:List Value} {x:FV} (h:RFs m F cs ws) (hx:cs.head?=some x):∃ v,takeN 1 ws=some [v]∧RF m F x v:=by
 cases h with
 |nil=>cases hx
 |cons h t=>cases hx;exact ⟨_,by simp [takeN],h⟩
section
variable {m:Mem} {F:Nat→Prop} {T:Nat→Option Tg} {σ:Nat→Value} {n':Nat}
theorem head_relP {cs:List PV} {ws:List Value} {x:PV} (h:RPs m F T σ n' cs ws) (hx:cs.head?=some x):∃ v,takeN 1 ws=some [v]∧RP m F T σ n' x v:=by
 cases h with
 |nil=>cases hx
 |cons h t=>cases hx;exact ⟨_,by simp [takeN],h⟩
end
theorem loadF_rel {P:Program} {m:Mem} {F:Nat→Prop} {t:TypeId} {a:Addr} {cs:List FV} {vs ws:List Value} {e:TypeId} {g:Nat} {ro:Bool} {x:FV} (hm:m.get a.block=.cells vs e g ro) (hlt:a.block<m.size) (hg:agen a=g)
 (hw:takeN cs.length (vs.drop a.off)=some ws) (h:RFs m F cs ws) (hc:ws.all isCell=true) (hx:loadF P t cs=some x):∃ v,aload P t a m=some v∧RF m F x v:=by
 unfold loadF at hx
 unfold aload
 rw [if_pos hlt]
 unfold aload0
 have key:∀ n w,takeN n ws=some w→m.cellsAt a n=some w:=by
  intro n w hn
  unfold Mem.cellsAt
  rw [hm]
  simp only [hg,if_true]
  exact takeN_takeN hw hn
 cases hag:isAggT P t with
 |none=>rw [hag] at hx;cases hx
 |some b =>
  rw [hag] at hx
  cases b with
  |false =>
   obtain ⟨v,h1,h2⟩:=head_rel h hx
   exact ⟨v,by simp only [key 1 _ h1,Option.bind_some,List.head?_cons],h2⟩
  |true =>
   cases hi:P.info? t with
   |none=>rw [hi] at hx;cases hx
   |some i =>
    rw [hi] at hx
    simp only [Option.map_eq_some_iff] at hx
    obtain ⟨l,h1,rfl⟩:=hx
    obtain ⟨w,h2,h3⟩:=takeF_takeN h h1
    refine ⟨.agg w.toArray,by simp only [key _ _ h2,Option.map_some],.agg h3 ?_⟩
    rw [(takeN_some h2).1]
    exact all_take hc _
theorem loadP_rel {P:Program} {m:Mem} {F:Nat→Prop} {T:Nat→Option Tg} {σ:Nat→Value} {n':Nat} {t:TypeId} {a:Addr} {cs:List PV} {vs ws:List Value} {e:TypeId} {g:Nat} {ro:Bool} {x:PV} (hm:m.get a.block=.cells vs e g ro) (hlt:a.block<m.size) (hg:agen a=g)
 (hw:vs.drop a.off=ws) (h:RPs m F T σ n' cs ws) (hc:ws.all isCell=true) (hx:loadP P t cs=some x):∃ v,aload P t a m=some v∧RP m F T σ n' x v:=by
 unfold loadP at hx
 unfold aload
 rw [if_pos hlt]
 unfold aload0
 have key:∀ n w,takeN n ws=some w→m.cellsAt a n=some w:=by
  intro n w hn
  unfold Mem.cellsAt
  rw [hm]
  simp only [hg,if_true,hw]
  exact hn
 cases hag:isAggT P t with
 |none=>rw [hag] at hx;cases hx
 |some b =>
  rw [hag] at hx
  cases b with
  |false =>
   obtain ⟨v,h1,h2⟩:=head_relP h hx
   exact ⟨v,by simp only [key 1 _ h1,Option.bind_some,List.head?_cons],h2⟩
  |true =>
   cases hi:P.info? t with
   |none=>rw [hi] at hx;cases hx
   |some i =>
    rw [hi] at hx
    simp only [Option.map_eq_some_iff] at hx
    obtain ⟨l,h1,rfl⟩:=hx
    obtain ⟨w,h2,h3⟩:=takeF_takeNP h h1
    refine ⟨.agg w.toArray,by simp only [key _ _ h2,Option.map_some],mkAgg_rel h3 ?_⟩
    rw [(takeN_some h2).1]
    exact all_take hc _
theorem vload_rel {P:Program} {Γ:Nat→Option (List Value×TypeId)} {m:Mem} {F:Nat→Prop} {σ:Nat→Value} {t:TypeId} {a x:PV} {v:Value} (hx:Ctx Γ m F σ H nx) (ha:RP m F (htag H) σ nx a v) (hl:vload P t H a=some x) :
 ∃ p u,v=.pointer (some p)∧aload P t p m=some u∧RP m F (htag H) σ nx x u:=by
 unfold vload at hl
 split at hl
 ·simp only [Option.map_eq_some_iff] at hl
  obtain ⟨y,h1,rfl⟩:=hl
  cases ha with
  |p h =>
   cases h with
   |cptr hF hm hg hw h hc =>
    obtain ⟨u,h2,h3⟩:=loadF_rel (a:=⟨_,_,_⟩) hm (hx.fr _ hF) hg hw h hc h1
    exact ⟨_,u,rfl,h2,.p h3⟩
 ·rename_i b off
  cases hb:hget H b with
  |none=>rw [hb] at hl;cases hl
  |some y =>
   rw [hb] at hl
   cases y with
   |box e cs =>
    obtain ⟨_,c,vs,r1,r2,r3,r4,r5,r6⟩:=hx.hp b _ hb
    cases ha with
    |ref hb' hc h =>
     obtain ⟨c',h1,h2⟩:=h (by simp [htag,hb,HB.tag])
     rw [r1] at h1
     cases h1
     subst h2
     obtain ⟨u,h3,h4⟩:=loadP_rel (a:=⟨c,off,none⟩) r4 r2 rfl rfl (RPs.drop off r5) (all_drop r6 _) hl
     exact ⟨_,u,rfl,h3,h4⟩
   |vec e cs n z=>cases hl
   |map es=>cases hl
   |vecp e cs n=>cases hl
 ·rename_i b tag off
  cases hb:hget H b with
  |none=>rw [hb] at hl;cases hl
  |some y =>
   rw [hb] at hl
   cases y with
   |vec e cs n z =>
    simp only at hl
    split at hl
    ·rename_i hn _
     subst hn
     simp only [Option.map_eq_some_iff] at hl
     obtain ⟨y,hl,rfl⟩:=hl
     cases ha with
     |eref hb' hc h =>
      obtain ⟨_,h0⟩:=h tag (by simp [htag,hb,HB.tag])
      obtain ⟨c,k,g,h1,h2⟩:=h0 rfl
      rcases (hx.hp b _ hb).2 with ⟨r1,r2,r3⟩|⟨c',g',vs,r1,r2,r3,r4,r5,r6,r7⟩
      ·rcases r3 with ⟨r3,_⟩|⟨_,_,_,r3,_⟩<;>rw [r3] at h1<;>cases h1
      ·rw [r1] at h1
       cases h1
       subst h2
       obtain ⟨u,h3,h4⟩:=loadF_rel (a:=⟨c,off,some g⟩) (cs:=cs.drop off) (ws:=vs.drop off) r4 r2 rfl (by simp only [takeN,List.length_drop,r5.length];rw [if_pos (Nat.le_refl _),← List.length_drop,List.take_length]) (RFs.drop off r5) (all_drop r6 _) hl
       exact ⟨_,u,rfl,h3,.p h4⟩
    ·cases hl
   |box e cs=>cases hl
   |map es=>cases hl
   |vecp e cs n=>cases hl
 ·cases hl
def argFrame:Nat→List PV→Frame
 |_,[]=>[]
 |i,a::l=>(i,a)::argFrame (i+1) l
theorem argFrame_get:∀ (l:List PV) (k i:Nat) (v:PV),lget (argFrame k l) i=some v→k≤i∧l[i-k]?=some v
 |[],_,_,_,h=>by cases h
 |a::l,k,i,v,h=>by
  simp only [argFrame,lget_cons] at h
  by_cases e:k=i
  ·rw [if_pos e] at h;cases h;subst e;simp
  ·rw [if_neg e] at h
   obtain ⟨h1,h2⟩:=argFrame_get l (k+1) i v h
   refine ⟨by omega,?_⟩
   have:i-k=(i-(k+1))+1:=by omega
   rw [this];exact h2
theorem RPs.get {m:Mem} {F:Nat→Prop} {T:Nat→Option Tg} {σ:Nat→Value} {n':Nat}:∀ {cs:List PV} {vs:List Value} {i:Nat} {c:PV},RPs m F T σ n' cs vs→cs[i]?=some c→∃ v,vs[i]?=some v∧RP m F T σ n' c v
 |_,_,i,_,.nil,h=>by simp at h
 |_,_,0,_,.cons h _,hc=>by simp at hc;subst hc;exact ⟨_,rfl,h⟩
 |_,_,i+1,c,.cons (cs:=cs) _ t,hc=>by
  have hc':cs[i]?=some c:=by simpa using hc
  obtain ⟨v,h1,h2⟩:=RPs.get t hc'
  exact ⟨v,by simpa using h1,h2⟩
theorem RPs.length {m:Mem} {F:Nat→Prop} {T:Nat→Option Tg} {σ:Nat→Value} {n':Nat}:∀ {cs:List PV} {vs:List Value},RPs m F T σ n' cs vs→cs.length=vs.length
 |_,_,.nil=>rfl
 |_,_,.cons _ t=>by simp [t.length]
def vresult (P:Program) (L:Frame) (H:Heap):ResultVar→Option PV
 | .tmp t=>lget L t
 | .cell a t=>match lget L a with
  |some p=>vload P t H p
  |none=>none
def vlist {α β:Type} (f:α→Option β):List α→Option (List β)
 |[]=>some []
 |a::l=>match f a with
  |some b=>match vlist f l with
   |some r=>some (b::r)
   |none=>none
  |none=>none
def vresults (P:Program) (rs:List ResultVar) (L:Frame) (H:Heap):Option PV :=
 match vlist (vresult P L H) rs with
 |some [v]=>some v
 |some vs=>some (.tup vs)
 |none=>none
theorem vresult_rel {P:Program} {Γ:Nat→Option (List Value×TypeId)} {m:Mem} {F:Nat→Prop} {σ:Nat→Value} {t:Tr Value} {r:ResultVar} {x:PV} (hx:Ctx Γ m F σ H nx) (hl:RL m F (htag H) σ nx L t) (h:vresult P L H r=some x) :
 ∃ v,resultOf P ⟨t,m⟩ r=some v∧RP m F (htag H) σ nx x v:=by
 cases r with
 |tmp i=>exact ⟨_,rfl,hl i x h⟩
 |cell a ty =>
  simp only [vresult] at h
  cases ha:lget L a with
  |none=>rw [ha] at h;cases h
  |some p =>
   rw [ha] at h
   obtain ⟨q,u,h1,h2,h3⟩:=vload_rel hx (hl a p ha) h
   refine ⟨u,?_,h3⟩
   simp only [resultOf,h1,h2]
theorem vlist_rel {P:Program} {Γ:Nat→Option (List Value×TypeId)} {m:Mem} {F:Nat→Prop} {σ:Nat→Value} {t:Tr Value} (hx:Ctx Γ m F σ H nx) (hl:RL m F (htag H) σ nx L t):∀ {rs:List ResultVar} {xs:List PV},vlist (vresult P L H) rs=some xs →
 ∃ vs,listAll (resultOf P ⟨t,m⟩) rs=some vs∧RPs m F (htag H) σ nx xs vs
 |[],_,h=>by cases h;exact ⟨[],rfl,.nil⟩
 |r::rs,xs,h=>by
  simp only [vlist] at h
  cases h1:vresult P L H r with
  |none=>rw [h1] at h;cases h
  |some x =>
   rw [h1] at h
   cases h2:vlist (vresult P L H) rs with
   |none=>rw [h2] at h;cases h
   |some ys =>
    rw [h2] at h
    cases h
    obtain ⟨v,h3,h4⟩:=vresult_rel hx hl h1
    obtain ⟨vs,h5,h6⟩:=vlist_rel hx hl h2
    exact ⟨v::vs,by simp only [listAll,h3,h5],.cons h4 h6⟩
theorem vresults_rel {P:Program} {Γ:Nat→Option (List Value×TypeId)} {m:Mem} {F:Nat→Prop} {σ:Nat→Value} {t:Tr Value} {fn:Func} {x:PV} (hx:Ctx Γ m F σ H nx) (hl:RL m F (htag H) σ nx L t) (h:vresults P fn.results.toList L H=some x) :
 ∃ v,resultsOf P fn ⟨t,m⟩=some v∧RP m F (htag H) σ nx x v:=by
 unfold vresults at h
 split at h
 ·rename_i v0 hv
  cases h
  obtain ⟨vs,h1,h2⟩:=vlist_rel hx hl hv
  cases h2 with
  |cons h3 t3 =>
   cases t3
   exact ⟨_,by simp only [resultsOf,h1],h3⟩
 ·rename_i _ vs0 hne hv
  cases h
  obtain ⟨vs,h1,h2⟩:=vlist_rel hx hl hv
  refine ⟨.tuple vs.toArray,?_,.tup h2⟩
  simp only [resultsOf,h1]
  split
  ·rename_i hh
   simp only [Option.some.injEq] at hh
   subst hh
   cases h2 with
   |cons h3 t3=>cases t3;exact (hne _ rfl).elim
  ·rename_i hh
   simp only [Option.some.injEq] at hh
   rw [hh]
  ·rename_i hh;cases hh
 ·cases h
def Ret (bn:Nat) (Q:PV→Heap→Nat→Prop) (r0:PV) (H:Heap) (nx:Nat):Prop :=
 ∃ r H0 nx0,PLe r0 r∧r.under nx0∧HCov nx0 H0 H∧nx0≤nx∧bn≤nx0∧Q r H0 nx0
def Done (P:Program) (rs:List ResultVar) (bn:Nat) (Q:PV→Heap→Nat→Prop) (e:AExit) (L:Frame) (H:Heap) (nx:Nat):Prop :=
 match e with
 | .exit _=>False
 | .normal=>∃ r,vresults P rs L H=some r∧Ret bn Q r H nx
 | .ret=>∃ r,vresults P rs L H=some r∧Ret bn Q r H nx
theorem VCalls.enter {f:FuncId} {fn:Func} {c:Code} {args:List PV} {Q:PV→Heap→Nat→Prop} (ho:E.O f=none) (hf:E.P.funcs[f]?=some fn) (hb:fn.body=some c) (hok:fnOk E.G fn c=true) (hn:args.length≤fn.ntmps)
 (h:VWp E nx c (argFrame 0 args) H nx (Done E.P fn.results.toList nx Q)):VCalls E f args H nx Q:=by
 intro m F σ as h1 h2
 refine ACalls.enter ho hf hb hok (by rw [← h2.length];exact hn) ((h ⟨m,F,σ,H,nx⟩ rfl m F σ _ h1 ?_ (Step.refl _ _ _ _ _)).mono ?_)
 ·intro i v hi
  obtain ⟨_,h3⟩:=argFrame_get args 0 i v hi
  obtain ⟨u,h4,h5⟩:=h2.get h3
  have:=tget_tmpsOf as 0 .leaf i
  simp only [Nat.sub_zero] at h4
  have hlt:i<as.length:=by
   rcases Nat.lt_or_ge i as.length with h|h
   ·exact h
   ·rw [List.getElem?_eq_none h] at h4;cases h4
  rw [this,if_pos ⟨Nat.zero_le _,by omega⟩,Nat.sub_zero,List.getD_eq_getElem?_getD,h4]
  exact h5
 ·rintro e s ⟨L',H',nx',F',σ',q,c1,c2,c3⟩
  have key:(∃ r,vresults E.P fn.results.toList L' H'=some r∧Ret nx Q r H' nx')→∃ v,resultsOf E.P fn s=some v∧∃ r H' nx' F' σ',Q r H' nx'∧Ctx E.Γ s.m F' σ' H' nx'∧RP s.m F' (htag H') σ' nx' r v∧Step m F σ H nx s.m F' σ' H' nx':=by
   rintro ⟨r0,hr,r,H0,nx0,q1,q2,q3,q4,q5,q6⟩
   obtain ⟨v,h3,h4⟩:=vresults_rel c1 c2 hr
   have hcov:Cov L' H' nx' [] H0 nx0:=⟨q4,trivial,q3⟩
   exact ⟨v,h3,r,H0,nx0,F',σ',q6,hcov.ctx c1,RP.low (fun b t=>HCov.tag q3 b t) q2 (RP.le q1 h4),hcov.step (B:=⟨m,F,σ,H,nx⟩) q5 c3⟩
  cases e with
  |exit i=>exact q.elim
  |normal=>exact key q
  |ret=>exact key q
theorem VCalls.mono {f:FuncId} {args:List PV} {Q R:PV→Heap→Nat→Prop} (h:VCalls E f args H nx R) (hq:∀ r H' nx',R r H' nx'→Q r H' nx'):VCalls E f args H nx Q :=
 fun m F σ as h1 h2=>(h m F σ as h1 h2).mono fun _ _ ⟨r,H',nx',F',σ',q,c⟩=>⟨r,H',nx',F',σ',hq _ _ _ q,c⟩
end Go.Vm
set_option linter.unusedSimpArgs false
set_option linter.unusedVariables false
namespace Go.Vm
open Go.Am
variable {E:Env} {L:Frame} {H:Heap} {nx:Nat} {Q:PV→Heap→Nat→Prop} {w:Bool}
theorem VVal.quiet {o:Oper} {r:PV} (q:Q r H nx) (h:∀ m F σ t,Ctx E.Γ m F σ H nx→RL m F (htag H) σ nx L t→∃ v,(∀ call,aval E.P call (ev t) o m=some (v,m))∧RP m F (htag H) σ nx r v):VVal E w o L H nx Q :=
 fun m F σ t h1 h2=>by
  obtain ⟨v,h3,h4⟩:=h m F σ t h1 h2
  exact AVal.op h3 ⟨r,H,nx,F,σ,q,h1,h4,Step.refl _ _ _ _ _,fun _ k hk _=>hk⟩
section
variable {m:Mem} {F:Nat→Prop} {T:Nat→Option Tg} {σ:Nat→Value} {n:Nat}
theorem RF.cell {x:FV} {v:Value} (h:RF m F x v):(∃ cs,x=.agg cs)∨isCell v=true:=by
 cases h with
 |agg h hc=>exact .inl ⟨_,rfl⟩
 |val h=>exact .inr (by have:=all_plain_isCell (l:=[_]) (by simpa using h);simpa using this)
 |_=>exact .inr rfl
def pcells:PV→List PV
 | .p (.agg cs)=>cs.map .p
 | .agg cs=>cs
 |x=>[x]
def notTup:PV→Prop
 | .tup _=>False
 |_=>True
theorem RPs.ofRFs:∀ {cs:List FV} {vs:List Value},RFs m F cs vs→RPs m F T σ n (cs.map .p) vs
 |_,_,.nil=>.nil
 |_,_,.cons h t=>.cons (.p h) (RPs.ofRFs t)
theorem RFs.ofRPs:∀ {cs:List FV} {vs:List Value},RPs m F T σ n (cs.map .p) vs→RFs m F cs vs
 |[],_,.nil=>.nil
 |_::_,_,.cons (.p h) t=>.cons h (RFs.ofRPs t)
theorem cells_one {v:Value} (h:isCell v=true):v.cells=#[v]:=by
 cases v<;>first|rfl|cases h
theorem pcells_rel {x:PV} {v:Value} (hn:notTup x) (h:RP m F T σ n x v):RPs m F T σ n (pcells x) v.cells.toList∧v.cells.toList.all isCell=true:=by
 cases h with
 |tup h=>exact hn.elim
 |agg h hc=>exact ⟨h,hc⟩
 |p h =>
  rcases h.cell with ⟨cs,rfl⟩|hc
  ·cases h with|agg h hc=>exact ⟨RPs.ofRFs h,hc⟩
  ·rw [cells_one hc]
   refine ⟨?_,by simp [hc]⟩
   cases h<;>first|exact .cons (.p (by assumption)) .nil|skip
   ·exact .cons (.p (.int _ _)) .nil
   ·exact .cons (.p (.bool _)) .nil
   ·exact .cons (.p (.str _)) .nil
   ·rename_i h;exact .cons (.p (.val h)) .nil
   ·cases hc
   ·exact .cons (.p (.nil _)) .nil
   ·exact .cons (.p (.room _ _ _ _)) .nil
   ·rename_i h1 h2 h3 h4 h5;exact .cons (.p (.lst h1 h2 h3 h4 h5)) .nil
   ·rename_i h1 h2 h3 h4 h5 h6;exact .cons (.p (.cptr h1 h2 h3 h4 h5 h6)) .nil
 |vec hb hc h=>rw [cells_one hc];exact ⟨.cons (.vec hb hc h) .nil,by simp [hc]⟩
 |ref hb hc h=>rw [cells_one hc];exact ⟨.cons (.ref hb hc h) .nil,by simp [hc]⟩
 |eref hb hc h=>rw [cells_one hc];exact ⟨.cons (.eref hb hc h) .nil,by simp [hc]⟩
 |mref hb hc h=>rw [cells_one hc];exact ⟨.cons (.mref hb hc h) .nil,by simp [hc]⟩
 |clo h1 h2=>exact ⟨.cons (.clo h1 h2) .nil,rfl⟩
end
theorem htag_cons (b:Nat) (x:HB) (H:Heap) (c:Nat):htag ((b,x)::H) c=if b=c then some x.tag else htag H c:=by
 unfold htag
 rw [hget_cons]
 split<;>rfl
theorem htag_hput (H:Heap) (b c:Nat) (y:HB):htag (hput H b y) c=if b=c then (htag H b).map (fun _=>y.tag) else htag H c:=by
 unfold htag
 rw [hget_hput]
 split
 ·cases hget H b<;>rfl
 ·rfl
theorem Ctx.tagNone {Γ:Nat→Option (List Value×TypeId)} {m:Mem} {F:Nat→Prop} {σ:Nat→Value} (h:Ctx Γ m F σ H nx) {b:Nat} (hb:nx≤b):hget H b=none:=by
 cases hh:hget H b with
 |none=>rfl
 |some x=>have:=(h.hp b x hh).1;omega
def upd (σ:Nat→Value) (b:Nat) (v:Value):Nat→Value:=fun c=>if c=b then v else σ c
theorem upd_same (σ:Nat→Value) (b:Nat) (v:Value):upd σ b v b=v:=if_pos rfl
theorem upd_other (σ:Nat→Value) {b c:Nat} (v:Value) (h:c≠b):upd σ b v c=σ c:=if_neg h
theorem RB.mono {m m':Mem} {F F':Nat→Prop} {T T':Nat→Option Tg} {σ σ':Nat→Value} {n n':Nat} {s:Value} {x:HB} (hF:∀ c,F c→F' c∧m'.get c=m.get c) (hN:Names n T σ T' σ') (hn:n≤n')
 (hs:m.size≤m'.size) (ho:∀ c,blkOf s=some c→m'.get c=m.get c∧¬ F' c) (h:RB m F T σ n s x):RB m' F' T' σ' n' s x:=by
 cases x with
 |box e cs =>
  obtain ⟨c,vs,r1,r2,r3,r4,r5,r6⟩:=h
  obtain ⟨h1,h2⟩:=ho c (by rw [r1];rfl)
  exact ⟨c,vs,r1,by omega,h2,h1.trans r4,r5.mono hF hN hn,r6⟩
 |vec e cs k z =>
  rcases h with h|⟨c,g,vs,r1,r2,r3,r4,r5,r6⟩
  ·exact .inl h
  ·obtain ⟨h1,h2⟩:=ho c (by rw [r1];rfl)
   exact .inr ⟨c,g,vs,r1,by omega,h2,h1.trans r4,r5.mono hF,r6⟩
 |map es =>
  obtain ⟨r,l,clock,r1,r2,r3,r4,r5,r6⟩:=h
  obtain ⟨h1,h2⟩:=ho r (by rw [r1];rfl)
  exact ⟨r,l,clock,r1,by omega,h2,h1.trans r4,r5.mono hF,r6.mono hF⟩
 |vecp e cs k =>
  obtain ⟨c,g,vs,r1,r2,r3,r4,r5,r6⟩:=h
  obtain ⟨h1,h2⟩:=ho c (by rw [r1];rfl)
  exact ⟨c,g,vs,r1,by omega,h2,h1.trans r4,r5.mono hF hN hn,r6⟩
theorem new_names {Γ:Nat→Option (List Value×TypeId)} {m:Mem} {F:Nat→Prop} {σ:Nat→Value} (x:HB) (s:Value):Names nx (htag H) σ (htag ((nx,x)::H)) (upd σ nx s):=fun b hb=>by
 rw [htag_cons,if_neg (by omega),upd_other _ _ (by omega)]
 exact ⟨TLe.refl _,fun _ _ _=>rfl⟩
theorem Ctx.new {Γ:Nat→Option (List Value×TypeId)} {m m':Mem} {F:Nat→Prop} {σ:Nat→Value} {x:HB} {s:Value} (h:Ctx Γ m F σ H nx) (hsz:m.size≤m'.size) (hget':∀ c,c<m.size→m'.get c=m.get c) (hlow:min m.low m.size≤m'.low)
 (hs:∀ c,blkOf s=some c→m.size≤c) (hr:RB m' F (htag ((nx,x)::H)) (upd σ nx s) (nx+1) s x) :
 Ctx Γ m' F (upd σ nx s) ((nx,x)::H) (nx+1)∧Step m F σ H nx m' F (upd σ nx s) ((nx,x)::H) (nx+1)∧Quiet m m':=by
 have hfz:∀ c,F c→F c∧m'.get c=m.get c:=fun c hc=>⟨hc,hget' c (h.fr c hc)⟩
 have hN:=new_names (Γ:=Γ) (m:=m) (F:=F) (σ:=σ) (H:=H) (nx:=nx) x s
 refine ⟨⟨fun c hc=>Nat.lt_of_lt_of_le (h.fr c hc) hsz,?_,?_,?_⟩,⟨hsz,fun c hc _=>hget' c hc,fun _ h=>h,fun _ _ h=>.inl h,?_,Nat.le_succ _,hN,?_⟩,?_⟩
 ·intro b y hb
  rw [hget_cons] at hb
  by_cases e:nx=b
  ·rw [if_pos e] at hb;cases hb;subst e
   rw [upd_same]
   exact ⟨by omega,hr⟩
  ·rw [if_neg e] at hb
   obtain ⟨h1,h2⟩:=h.hp b y hb
   rw [upd_other _ _ (Ne.symm e)]
   refine ⟨by omega,h2.mono hfz hN (Nat.le_succ _) hsz fun c hc=>?_⟩
   have:=h.notF ⟨b,y,hb,hc⟩
   exact ⟨hget' c this.2,this.1⟩
 ·intro b b' y y' c h1 h2 h3 h4
  rw [hget_cons] at h1 h2
  by_cases e:nx=b<;>by_cases e':nx=b'
  ·omega
  ·subst e
   rw [if_neg e'] at h2
   rw [upd_same] at h3
   rw [upd_other _ _ (Ne.symm e')] at h4
   have:=(h.notF ⟨b',y',h2,h4⟩).2
   have:=hs c h3
   omega
  ·subst e'
   rw [if_neg e] at h1
   rw [upd_same] at h4
   rw [upd_other _ _ (Ne.symm e)] at h3
   have:=(h.notF ⟨b,y,h1,h3⟩).2
   have:=hs c h4
   omega
  ·rw [if_neg e] at h1
   rw [if_neg e'] at h2
   rw [upd_other _ _ (Ne.symm e)] at h3
   rw [upd_other _ _ (Ne.symm e')] at h4
   exact h.sep b b' y y' c h1 h2 h3 h4
 ·intro g vs e hg
  obtain ⟨h1,h2,h3⟩:=h.gl g vs e hg
  exact ⟨h1,(hget' g (h.fr g h1)).trans h2,h3⟩
 ·rintro c hc ⟨b,y,hb,hbc⟩
  rw [hget_cons] at hb
  by_cases e:nx=b
  ·subst e
   rw [upd_same] at hbc
   have:=hs c hbc
   omega
  ·rw [if_neg e] at hb
   rw [upd_other _ _ (Ne.symm e)] at hbc
   exact ⟨b,y,hb,hbc⟩
 ·intro k h1 h2 _;omega
 ·intro k h1 h2;omega
theorem change_names {b0:Nat} {x0 x':HB} {σ:Nat→Value} {s':Value} (hb:hget H b0=some x0) (ht:TLe (some x0.tag) (some x'.tag)) (hs:x0.tag=x'.tag→s'=σ b0) :
 Names nx (htag H) σ (htag (hput H b0 x')) (upd σ b0 s'):=fun b _=>by
 rw [htag_hput]
 by_cases e:b0=b
 ·subst e
  have h0:htag H b0=some x0.tag:=by simp [htag,hb]
  rw [if_pos rfl,h0,upd_same]
  refine ⟨ht,fun t h1 h2=>hs ?_⟩
  simp only [Option.map_some,Option.some.injEq] at h1 h2
  rw [h1,h2]
 ·rw [if_neg e,upd_other _ _ (Ne.symm e)]
  exact ⟨TLe.refl _,fun _ _ _=>rfl⟩
theorem Ctx.change {Γ:Nat→Option (List Value×TypeId)} {m m':Mem} {F:Nat→Prop} {σ:Nat→Value} {b0:Nat} {x0 x':HB} {s':Value} (h:Ctx Γ m F σ H nx) (hb:hget H b0=some x0) (ht:TLe (some x0.tag) (some x'.tag)) (hs:x0.tag=x'.tag→s'=σ b0)
 (hsz:m.size≤m'.size) (hget':∀ c,c<m.size→blkOf (σ b0)≠some c→m'.get c=m.get c) (hlow:∀ k,k≤m.low→k≤m.size→(∀ c,blkOf (σ b0)=some c→k≤c)→k≤m'.low)
 (hblk:∀ c,blkOf s'=some c→blkOf (σ b0)=some c∨m.size≤c) (hr:RB m' F (htag (hput H b0 x')) (upd σ b0 s') nx s' x') :
 Ctx Γ m' F (upd σ b0 s') (hput H b0 x') nx∧Step m F σ H nx m' F (upd σ b0 s') (hput H b0 x') nx:=by
 have hown:∀ c,blkOf (σ b0)=some c→own H σ c:=fun c hc=>⟨b0,x0,hb,hc⟩
 have hfz:∀ c,F c→F c∧m'.get c=m.get c:=fun c hc=>⟨hc,hget' c (h.fr c hc) fun e=>(h.notF (hown c e)).1 hc⟩
 have hN:Names nx (htag H) σ (htag (hput H b0 x')) (upd σ b0 s'):=change_names hb ht hs
 have hg0:hget (hput H b0 x') b0=some x':=by rw [hget_hput,if_pos rfl,hb];rfl
 have hgo:∀ b,b≠b0→hget (hput H b0 x') b=hget H b:=fun b e=>by rw [hget_hput,if_neg (Ne.symm e)]
 refine ⟨⟨fun c hc=>Nat.lt_of_lt_of_le (h.fr c hc) hsz,?_,?_,?_⟩,⟨hsz,fun c hc ho=>hget' c hc fun e=>ho (hown c e),fun _ h=>h,fun _ _ h=>.inl h,?_,Nat.le_refl _,hN,?_⟩⟩
 ·intro b y hy
  by_cases e:b=b0
  ·subst e
   rw [hg0] at hy;cases hy
   rw [upd_same]
   exact ⟨(h.hp b x0 hb).1,hr⟩
  ·rw [hgo b e] at hy
   obtain ⟨h1,h2⟩:=h.hp b y hy
   rw [upd_other _ _ e]
   refine ⟨h1,h2.mono hfz hN (Nat.le_refl _) hsz fun c hc=>?_⟩
   have:=h.notF ⟨b,y,hy,hc⟩
   exact ⟨hget' c this.2 fun e'=>e (h.sep b b0 y x0 c hy hb hc e'),this.1⟩
 ·intro b b' y y' c h1 h2 h3 h4
  by_cases e:b=b0<;>by_cases e':b'=b0
  ·omega
  ·subst e
   rw [hgo b' e'] at h2
   rw [upd_same] at h3
   rw [upd_other _ _ e'] at h4
   rcases hblk c h3 with h5|h5
   ·exact h.sep b b' x0 y' c hb h2 h5 h4
   ·have:=(h.notF ⟨b',y',h2,h4⟩).2;omega
  ·subst e'
   rw [hgo b e] at h1
   rw [upd_same] at h4
   rw [upd_other _ _ e] at h3
   rcases hblk c h4 with h5|h5
   ·exact h.sep b b' y x0 c h1 hb h3 h5
   ·have:=(h.notF ⟨b,y,h1,h3⟩).2;omega
  ·rw [hgo b e] at h1
   rw [hgo b' e'] at h2
   rw [upd_other _ _ e] at h3
   rw [upd_other _ _ e'] at h4
   exact h.sep b b' y y' c h1 h2 h3 h4
 ·intro g vs e hg
  obtain ⟨h1,h2,h3⟩:=h.gl g vs e hg
  exact ⟨h1,(hfz g h1).2.trans h2,h3⟩
 ·rintro c hc ⟨b,y,hy,hbc⟩
  by_cases e:b=b0
  ·subst e
   rw [upd_same] at hbc
   rcases hblk c hbc with h5|h5
   ·exact hown c h5
   ·omega
  ·rw [hgo b e] at hy
   rw [upd_other _ _ e] at hbc
   exact ⟨b,y,hy,hbc⟩
 ·intro k h1 h2 h3
  exact hlow k h1 h2 fun c hc=>h3 c (hown c hc)
def psplice {α:Type} (cs:List α):Nat→List α→List α
 |_,[]=>cs
 |o,v::l=>psplice (cs.set o v) (o+1) l
section
variable {m:Mem} {F:Nat→Prop} {T:Nat→Option Tg} {σ:Nat→Value} {n:Nat}
theorem RPs.set:∀ {cs:List PV} {vs:List Value} (i:Nat) {x:PV} {v:Value},RPs m F T σ n cs vs→RP m F T σ n x v→RPs m F T σ n (cs.set i x) (vs.set i v)
 |_,_,_,_,_,.nil,_=>.nil
 |_,_,0,_,_,.cons _ t,h=>.cons h t
 |_,_,i+1,_,_,.cons h t,h'=>.cons h (RPs.set i t h')
theorem RFs.set:∀ {cs:List FV} {vs:List Value} (i:Nat) {x:FV} {v:Value},RFs m F cs vs→RF m F x v→RFs m F (cs.set i x) (vs.set i v)
 |_,_,_,_,_,.nil,_=>.nil
 |_,_,0,_,_,.cons _ t,h=>.cons h t
 |_,_,i+1,_,_,.cons h t,h'=>.cons h (RFs.set i t h')
theorem RPs.splice:∀ {l:List PV} {ws:List Value} {cs:List PV} {vs:List Value} (o:Nat),RPs m F T σ n cs vs→RPs m F T σ n l ws→RPs m F T σ n (psplice cs o l) (splice vs o ws)
 |_,_,_,_,_,h,.nil=>h
 |_,_,_,_,o,h,.cons h1 t=>RPs.splice (o+1) (h.set o h1) t
theorem RFs.splice:∀ {l:List FV} {ws:List Value} {cs:List FV} {vs:List Value} (o:Nat),RFs m F cs vs→RFs m F l ws→RFs m F (psplice cs o l) (splice vs o ws)
 |_,_,_,_,_,h,.nil=>h
 |_,_,_,_,o,h,.cons h1 t=>RFs.splice (o+1) (h.set o h1) t
theorem RFs.append:∀ {cs ds:List FV} {vs ws:List Value},RFs m F cs vs→RFs m F ds ws→RFs m F (cs++ds) (vs++ws)
 |_,_,_,_,.nil,h=>h
 |_,_,_,_,.cons h t,h'=>.cons h (RFs.append t h')
end
theorem all_set {l:List Value} (h:l.all isCell=true) {v:Value} (hv:isCell v=true) (i:Nat):(l.set i v).all isCell=true:=by
 rw [List.all_eq_true] at h ⊢
 intro x hx
 rcases List.mem_or_eq_of_mem_set hx with hx|rfl
 ·exact h x hx
 ·exact hv
theorem all_splice:∀ {ws l:List Value} (o:Nat),l.all isCell=true→ws.all isCell=true→(splice l o ws).all isCell=true
 |[],_,_,h,_=>h
 |v::ws,l,o,h,hw=>by
  simp only [List.all_cons,Bool.and_eq_true] at hw
  exact all_splice (o+1) (all_set h hw.1 o) hw.2
end Go.Vm
set_option linter.unusedSimpArgs false
set_option linter.unusedVariables false
namespace Go.Vm
open Go.Am
variable {E:Env} {L:Frame} {H:Heap} {nx:Nat} {Q:PV→Heap→Nat→Prop} {w:Bool}
variable {dst:Option Tmp} {ty:TypeId} {pos:String} {af:Array Edge} {gd:Option (Nat×Bool)}
theorem VVal.move {x:Operand} {r:PV} (h:vev E.Γ L x=some r) (q:Q r H nx):VVal E w ⟨dst,.move x,ty,pos,af,gd⟩ L H nx Q :=
 VVal.quiet q fun _ _ _ _ h1 h2=>⟨_,fun _=>rfl,vev_rel h1 h2 h⟩
theorem VVal.assign {x:Operand} {r:PV} (h:vev E.Γ L x=some r) (q:Q r H nx):VVal E w ⟨dst,.assign x,ty,pos,af,gd⟩ L H nx Q :=
 VVal.quiet q fun _ _ _ _ h1 h2=>⟨_,fun _=>rfl,vev_rel h1 h2 h⟩
theorem VVal.pick_true {c a b:Operand} {r:PV} (hc:vev E.Γ L c=some (.p (.bool true))) (h:vev E.Γ L a=some r) (q:Q r H nx):VVal E w ⟨dst,.pick c a b,ty,pos,af,gd⟩ L H nx Q :=
 VVal.quiet q fun m _ _ t h1 h2=>⟨ev t a,fun _=>by simp only [aval,aop,vev_bool h1 h2 hc,if_true],vev_rel h1 h2 h⟩
theorem VVal.pick_false {c a b:Operand} {r:PV} (hc:vev E.Γ L c=some (.p (.bool false))) (h:vev E.Γ L b=some r) (q:Q r H nx):VVal E w ⟨dst,.pick c a b,ty,pos,af,gd⟩ L H nx Q :=
 VVal.quiet q fun m _ _ t h1 h2=>⟨ev t b,fun _=>by simp only [aval,aop,vev_bool h1 h2 hc,Bool.false_eq_true,if_false],vev_rel h1 h2 h⟩
theorem vev_int {Γ:Nat→Option (List Value×TypeId)} {m:Mem} {F:Nat→Prop} {σ:Nat→Value} {t:Tr Value} {k:IntKind} {n:Int} {o:Operand} (hx:Ctx Γ m F σ H nx) (hl:RL m F (htag H) σ nx L t) (h:vev Γ L o=some (.p (.int k n))):ev t o=.int k n:=by
 have:=vev_rel hx hl h
 generalize ev t o=v at this
 cases this with|p h=>cases h;rfl
theorem vev_str {Γ:Nat→Option (List Value×TypeId)} {m:Mem} {F:Nat→Prop} {σ:Nat→Value} {t:Tr Value} {s:ByteArray} {o:Operand} (hx:Ctx Γ m F σ H nx) (hl:RL m F (htag H) σ nx L t) (h:vev Γ L o=some (.p (.str s))):ev t o=.string s:=by
 have:=vev_rel hx hl h
 generalize ev t o=v at this
 cases this with|p h=>cases h;rfl
def vint (op:BinOp) (k:IntKind) (x y:Int):Option FV :=
 match op with
 | .add=>some (.int k (k.wrap (x+y)))
 | .sub=>some (.int k (k.wrap (x-y)))
 | .mul=>some (.int k (k.wrap (x*y)))
 | .eql=>some (.bool (decide (x=y)))
 | .neq=>some (.bool (decide (x≠y)))
 | .lss=>some (.bool (decide (x<y)))
 | .leq=>some (.bool (decide (x≤y)))
 | .gtr=>some (.bool (decide (x>y)))
 | .geq=>some (.bool (decide (x≥y)))
 | .quo=>if y=0 then none else some (.int k (k.wrap (x.tdiv y)))
 | .rem=>if y=0 then none else some (.int k (x.tmod y))
 | .and=>some (.int k (k.wrap (BitVec.ofInt k.bits x &&& BitVec.ofInt k.bits y).toNat))
 | .or=>some (.int k (k.wrap (BitVec.ofInt k.bits x ||| BitVec.ofInt k.bits y).toNat))
 | .xor=>some (.int k (k.wrap (BitVec.ofInt k.bits x ^^^ BitVec.ofInt k.bits y).toNat))
 | .andNot=>some (.int k (k.wrap (BitVec.ofInt k.bits x &&& ~~~ BitVec.ofInt k.bits y).toNat))
 |_=>none
theorem vint_rel {m:Mem} {F:Nat→Prop} {op:BinOp} {k:IntKind} {x y:Int} {r:FV} (h:vint op k x y=some r):∃ v,aint op k x y=some v∧RF m F r v∧op≠.shl∧op≠.shr:=by
 have e1:(x==y)=decide (x=y):=Bool.eq_iff_iff.2 (by simp)
 have e2:(x != y)=decide (x≠y):=Bool.eq_iff_iff.2 (by simp)
 cases op<;>simp only [vint,aint,e1,e2] at h ⊢<;>first
  |(cases h;done)
  |(cases h;exact ⟨_,rfl,.int _ _,by simp,by simp⟩)
  |(cases h;exact ⟨_,rfl,.bool _,by simp,by simp⟩)
  |(split at h
    ·cases h
    ·rename_i h0;cases h;exact ⟨_,by rw [if_neg h0],.int _ _,by simp,by simp⟩)
theorem VVal.int {op:BinOp} {t t2:TypeId} {x y:Operand} {k:IntKind} {a b:Int} {r:FV} (hx:vev E.Γ L x=some (.p (.int k a))) (hy:vev E.Γ L y=some (.p (.int k b))) (h:vint op k a b=some r) (q:Q (.p r) H nx) :
 VVal E w ⟨dst,.binOp op t x y t2,ty,pos,af,gd⟩ L H nx Q :=
 VVal.quiet q fun m F σ tt h1 h2=>by
  obtain ⟨v,h3,h4,h5,h6⟩:=vint_rel (m:=m) (F:=F) h
  refine ⟨v,fun _=>?_,.p h4⟩
  have e:abin E.P op t x y (.int k a) (.int k b)=some v:=by
   rw [← h3]
   cases op<;>first|exact absurd rfl h5|exact absurd rfl h6|simp only [abin,if_true]
  simp only [aval,aop,vev_int h1 h2 hx,vev_int h1 h2 hy,e,Option.map_some]
theorem wrap_i64 {n:Int} (h:-9223372036854775808≤n∧n<9223372036854775808):IntKind.i64.wrap n=n:=by
 have e:IntKind.i64.wrap n=(n+2^63) % 2^64-2^63:=by
  simp [IntKind.wrap,IntKind.signed,IntKind.bits]
  try omega
 rw [e]
 omega
theorem VVal.add64 {t t2:TypeId} {x y:Operand} {a b:Int} (hx:vev E.Γ L x=some (.p (.int .i64 a))) (hy:vev E.Γ L y=some (.p (.int .i64 b))) (h:-9223372036854775808≤a+b∧a+b<9223372036854775808) (q:Q (.p (.int .i64 (a+b))) H nx) :
 VVal E w ⟨dst,.binOp .add t x y t2,ty,pos,af,gd⟩ L H nx Q:=VVal.int hx hy (r:=.int .i64 (a+b)) (by simp only [vint,wrap_i64 h]) q
theorem VVal.sub64 {t t2:TypeId} {x y:Operand} {a b:Int} (hx:vev E.Γ L x=some (.p (.int .i64 a))) (hy:vev E.Γ L y=some (.p (.int .i64 b))) (h:-9223372036854775808≤a-b∧a-b<9223372036854775808) (q:Q (.p (.int .i64 (a-b))) H nx) :
 VVal E w ⟨dst,.binOp .sub t x y t2,ty,pos,af,gd⟩ L H nx Q:=VVal.int hx hy (r:=.int .i64 (a-b)) (by simp only [vint,wrap_i64 h]) q
theorem VVal.mul64 {t t2:TypeId} {x y:Operand} {a b:Int} (hx:vev E.Γ L x=some (.p (.int .i64 a))) (hy:vev E.Γ L y=some (.p (.int .i64 b))) (h:-9223372036854775808≤a*b∧a*b<9223372036854775808) (q:Q (.p (.int .i64 (a*b))) H nx) :
 VVal E w ⟨dst,.binOp .mul t x y t2,ty,pos,af,gd⟩ L H nx Q:=VVal.int hx hy (r:=.int .i64 (a*b)) (by simp only [vint,wrap_i64 h]) q
theorem VVal.shift {op:BinOp} {t t2:TypeId} {x y:Operand} {k k':IntKind} {a b:Int} {r:FV} (hop:op=.shl∨op=.shr) (hx:vev E.Γ L x=some (.p (.int k a))) (hy:vev E.Γ L y=some (.p (.int k' b))) (hb:0≤b)
 (hr:r=if op=.shl then .int k (k.wrap (a*2 ^ (min b.toNat k.bits))) else .int k (a.fdiv (2 ^ (min b.toNat k.bits)))) (q:Q (.p r) H nx) :
 VVal E w ⟨dst,.binOp op t x y t2,ty,pos,af,gd⟩ L H nx Q :=
 VVal.quiet q fun m F σ tt h1 h2=>by
  have hb':¬ b<0:=by omega
  rcases hop with rfl|rfl
  ·refine ⟨.int k (k.wrap (a*2 ^ (min b.toNat k.bits))),fun _=>?_,by rw [hr];exact .p (.int _ _)⟩
   simp only [aval,aop,vev_int h1 h2 hx,vev_int h1 h2 hy,abin,ashift,if_neg hb',Option.map_some]
  ·refine ⟨.int k (a.fdiv (2 ^ (min b.toNat k.bits))),fun _=>?_,by rw [hr];exact .p (.int _ _)⟩
   simp only [aval,aop,vev_int h1 h2 hx,vev_int h1 h2 hy,abin,ashift,if_neg hb',Option.map_some]
theorem VVal.shl {t t2:TypeId} {x y:Operand} {k k':IntKind} {a b:Int} (hx:vev E.Γ L x=some (.p (.int k a))) (hy:vev E.Γ L y=some (.p (.int k' b))) (hb:0≤b) (q:Q (.p (.int k (k.wrap (a*2 ^ (min b.toNat k.bits))))) H nx) :
 VVal E w ⟨dst,.binOp .shl t x y t2,ty,pos,af,gd⟩ L H nx Q:=VVal.shift (.inl rfl) hx hy hb rfl q
theorem VVal.shr {t t2:TypeId} {x y:Operand} {k k':IntKind} {a b:Int} (hx:vev E.Γ L x=some (.p (.int k a))) (hy:vev E.Γ L y=some (.p (.int k' b))) (hb:0≤b) (q:Q (.p (.int k (a.fdiv (2 ^ (min b.toNat k.bits))))) H nx) :
 VVal E w ⟨dst,.binOp .shr t x y t2,ty,pos,af,gd⟩ L H nx Q:=VVal.shift (.inr rfl) hx hy hb rfl q
theorem dryV_of {P:Program} {s:Sem Value} {v:Value} (h:dry P s=some v) (hp:plain v=true):dryV P s=some v:=by
 simp only [dryV,h,hp,if_true]
def notSl:TypeDesc→Bool
 | .slice _=>false
 |_=>true
theorem VVal.convInt {s d:TypeId} {x:Operand} {k k':IntKind} {n:Int} {sd:TypeDesc} (hx:vev E.Γ L x=some (.p (.int k' n))) (hs:E.P.underlying s=some sd) (hns:notSl sd=true) (hd:E.P.underlying d=some (.int k)) (q:Q (.p (.int k (k.wrap n))) H nx) :
 VVal E w ⟨dst,.convert s d x,ty,pos,af,gd⟩ L H nx Q :=
 VVal.quiet q fun m F σ tt h1 h2=>by
  refine ⟨.int k (k.wrap n),fun _=>?_,.p (.int _ _)⟩
  have:dry E.P (convert s d (.int k' n))=some (.int k (k.wrap n)):=by
   unfold convert
   simp only [dry_bind,dry_underlying,hs,hd,Option.bind_some]
   cases sd<;>rfl
  have hsl:(isSlT E.P s||isSlT E.P d)=false:=by
   simp only [isSlT,hs,hd]
   cases sd<;>first|rfl|cases hns
  simp only [aval,aop,vev_int h1 h2 hx,dryV_of this rfl,Option.map_some,hsl]
  rfl
theorem RPs.idx {m:Mem} {F:Nat→Prop} {T:Nat→Option Tg} {σ:Nat→Value} {n':Nat} {cs:List PV} {vs:List Value} {i:Nat} {c:PV} (h:RPs m F T σ n' cs vs) (hc:cs[i]?=some c):∃ v,vs[i]?=some v∧RP m F T σ n' c v:=h.get hc
theorem VVal.extract {t:Operand} {i:Nat} {vs:List PV} {r:PV} (h:vev E.Γ L t=some (.tup vs)) (hr:vs[i]?=some r) (q:Q r H nx):VVal E w ⟨dst,.extract t i,ty,pos,af,gd⟩ L H nx Q :=
 VVal.quiet q fun m F σ tt h1 h2=>by
  have:=vev_rel h1 h2 h
  generalize hv:ev tt t=v at this
  cases this with
  |tup hrs =>
   obtain ⟨u,h3,h4⟩:=hrs.get hr
   refine ⟨u,fun _=>?_,h4⟩
   simp only [aval,aop,hv,Instr.extract,List.getElem?_toArray,h3]
   rfl
def fieldOff (P:Program) (s:TypeId) (f:Nat):Option Nat :=
 match P.underlying s with
 |some (.struct fs)=>match fs[f]? with
  |some fd=>match P.info? fd.type with
   |some i=>if i.size=0 then none else some fd.offset
   |none=>none
  |none=>none
 |_=>none
theorem fieldOff_spec {P:Program} {ρ:Operand→Value} {s:TypeId} {f k:Nat} {x:Operand} {a:Addr} {m:Mem} (h:fieldOff P s f=some k) (hx:ρ x=.pointer (some a)) :
 aop P ρ ⟨dst,.fieldAddr s x f,ty,pos,af,gd⟩ m=some (.pointer (some { a with off:=a.off+k }),m):=by
 unfold fieldOff at h
 simp only [aop,hx]
 cases hu:P.underlying s with
 |none=>rw [hu] at h;cases h
 |some d =>
  rw [hu] at h
  cases d with
  |struct fs =>
   simp only at h ⊢
   cases hf:fs[f]? with
   |none=>rw [hf] at h;cases h
   |some fd =>
    rw [hf] at h
    simp only at h ⊢
    cases hi:P.info? fd.type with
    |none=>rw [hi] at h;cases h
    |some i =>
     rw [hi] at h
     simp only at h ⊢
     split at h
     ·cases h
     ·rename_i h0;cases h;simp only [h0,if_false]
  |_=>cases h
theorem takeN_drop {n k:Nat} {l ws:List Value} (h:takeN n l=some ws):takeN (n-k) (l.drop k)=some (ws.drop k):=by
 obtain ⟨rfl,hn⟩:=takeN_some h
 unfold takeN
 rw [List.length_drop,if_pos (by omega),List.drop_take]
theorem RF.cptr_drop {m:Mem} {F:Nat→Prop} {cs:List FV} {a:Addr} (k:Nat) (h:RF m F (.cptr cs) (.pointer (some a))):RF m F (.cptr (cs.drop k)) (.pointer (some { a with off:=a.off+k })):=by
 cases h with
 |cptr hF hm hg hw h hc =>
  refine .cptr hF hm hg (ws:=_) ?_ (RFs.drop k h) (all_drop hc k)
  have:=takeN_drop (k:=k) hw
  rw [List.length_drop,← List.drop_drop]
  exact this
theorem vev_cptr {Γ:Nat→Option (List Value×TypeId)} {m:Mem} {F:Nat→Prop} {σ:Nat→Value} {t:Tr Value} {cs:List FV} {o:Operand} (hx:Ctx Γ m F σ H nx) (hl:RL m F (htag H) σ nx L t) (h:vev Γ L o=some (.p (.cptr cs))) :
 ∃ a,ev t o=.pointer (some a)∧RF m F (.cptr cs) (.pointer (some a)):=by
 have:=vev_rel hx hl h
 generalize ev t o=v at this
 cases this with
 |p h =>
  cases h with
  |cptr h1 h2 h3 h4 h5 h6=>exact ⟨_,rfl,.cptr h1 h2 h3 h4 h5 h6⟩
theorem vev_ref {Γ:Nat→Option (List Value×TypeId)} {m:Mem} {F:Nat→Prop} {σ:Nat→Value} {t:Tr Value} {b off:Nat} {o:Operand} {e:TypeId} {cs:List PV} (hx:Ctx Γ m F σ H nx) (hl:RL m F (htag H) σ nx L t) (h:vev Γ L o=some (.ref b off)) (hb:hget H b=some (.box e cs)) :
 ∃ c,ev t o=.pointer (some ⟨c,off,none⟩)∧σ b=.pointer (some ⟨c,0,none⟩):=by
 have:=vev_rel hx hl h
 generalize ev t o=v at this
 cases this with
 |ref h1 h2 h3 =>
  obtain ⟨c,h4,h5⟩:=h3 (by simp [htag,hb,HB.tag])
  exact ⟨c,h5,h4⟩
theorem vev_eref {Γ:Nat→Option (List Value×TypeId)} {m:Mem} {F:Nat→Prop} {σ:Nat→Value} {t:Tr Value} {b tag off:Nat} {o:Operand} {e:TypeId} {cs:List FV} {z:Bool} (hx:Ctx Γ m F σ H nx) (hl:RL m F (htag H) σ nx L t) (h:vev Γ L o=some (.eref b tag off)) (hb:hget H b=some (.vec e cs tag z)) :
 ∃ c k g,ev t o=.pointer (some ⟨c,off,some g⟩)∧σ b=.slice (some ⟨c,0,none⟩) k g:=by
 have:=vev_rel hx hl h
 generalize ev t o=v at this
 cases this with
 |eref h1 h2 h3 =>
  obtain ⟨_,h4⟩:=h3 tag (by simp [htag,hb,HB.tag])
  obtain ⟨c,k,g,h5,h6⟩:=h4 rfl
  exact ⟨c,k,g,h6,h5⟩
theorem VVal.fieldF {s:TypeId} {x:Operand} {f k:Nat} {cs:List FV} (hx:vev E.Γ L x=some (.p (.cptr cs))) (hk:fieldOff E.P s f=some k) (q:Q (.p (.cptr (cs.drop k))) H nx):VVal E w ⟨dst,.fieldAddr s x f,ty,pos,af,gd⟩ L H nx Q :=
 VVal.quiet q fun m F σ tt h1 h2=>by
  obtain ⟨a,h3,h4⟩:=vev_cptr h1 h2 hx
  exact ⟨_,fun _=>fieldOff_spec (dst:=dst) (ty:=ty) (pos:=pos) (af:=af) (gd:=gd) hk h3,.p (h4.cptr_drop k)⟩
theorem VVal.fieldB {s:TypeId} {x:Operand} {f k b off:Nat} {e:TypeId} {cs:List PV} (hx:vev E.Γ L x=some (.ref b off)) (hb:hget H b=some (.box e cs)) (hk:fieldOff E.P s f=some k) (q:Q (.ref b (off+k)) H nx):VVal E w ⟨dst,.fieldAddr s x f,ty,pos,af,gd⟩ L H nx Q :=
 VVal.quiet q fun m F σ tt h1 h2=>by
  obtain ⟨c,h3,h4⟩:=vev_ref h1 h2 hx hb
  exact ⟨_,fun _=>fieldOff_spec (dst:=dst) (ty:=ty) (pos:=pos) (af:=af) (gd:=gd) hk h3,.ref (h1.hp b _ hb).1 rfl fun _=>⟨c,h4,rfl⟩⟩
theorem VVal.fieldV {s:TypeId} {x:Operand} {f k b tag off:Nat} {e:TypeId} {cs:List FV} {z:Bool} (hx:vev E.Γ L x=some (.eref b tag off)) (hb:hget H b=some (.vec e cs tag z)) (hk:fieldOff E.P s f=some k) (q:Q (.eref b tag (off+k)) H nx) :
 VVal E w ⟨dst,.fieldAddr s x f,ty,pos,af,gd⟩ L H nx Q :=
 VVal.quiet q fun m F σ tt h1 h2=>by
  obtain ⟨c,k',g,h3,h4⟩:=vev_eref h1 h2 hx hb
  refine ⟨_,fun _=>fieldOff_spec (dst:=dst) (ty:=ty) (pos:=pos) (af:=af) (gd:=gd) hk h3,.eref (h1.hp b _ hb).1 rfl fun n hn=>?_⟩
  simp only [htag,hb,HB.tag,Option.map_some,Option.some.injEq,Tg.vec.injEq] at hn
  exact ⟨by omega,fun _=>⟨c,k',g,h4,rfl⟩⟩
theorem VVal.load {t:TypeId} {a:Operand} {x r:PV} (ha:vev E.Γ L a=some x) (h:vload E.P t H x=some r) (q:Q r H nx):VVal E w ⟨dst,.load t a,ty,pos,af,gd⟩ L H nx Q :=
 VVal.quiet q fun m F σ tt h1 h2=>by
  obtain ⟨p,u,h3,h4,h5⟩:=vload_rel h1 (vev_rel h1 h2 ha) h
  exact ⟨u,fun _=>by simp only [aval,aop,h3,h4,Option.map_some],h5⟩
theorem VVal.loadV {t:TypeId} {a:Operand} {b tag off:Nat} {e:TypeId} {cs:List FV} {z:Bool} {r:FV} (ha:vev E.Γ L a=some (.eref b tag off)) (hb:hget H b=some (.vec e cs tag z)) (h:loadF E.P t (cs.drop off)=some r) (q:Q (.p r) H nx) :
 VVal E w ⟨dst,.load t a,ty,pos,af,gd⟩ L H nx Q:=by
 refine VVal.load ha ?_ q
 simp only [vload,hb]
 split
 ·simp only [h,Option.map_some]
 ·rename_i hn _;exact absurd rfl hn
def elemSize (P:Program) (t:TypeId):Option Nat :=
 match P.underlying t with
 |some (.slice e)=>(P.info? e).map (·.size)
 |_=>none
theorem elemSize_some {P:Program} {t:TypeId} {sz:Nat} (h:elemSize P t=some sz):∃ e i,P.underlying t=some (.slice e)∧P.info? e=some i∧i.size=sz:=by
 unfold elemSize at h
 split at h
 ·rename_i e hu
  simp only [Option.map_eq_some_iff] at h
  obtain ⟨i,h1,h2⟩:=h
  exact ⟨e,i,hu,h1,h2⟩
 ·cases h
theorem VVal.indexF {t:TypeId} {x ix:Operand} {e:TypeId} {cs:List FV} {n sz:Nat} {k:IntKind} {i:Int} (hx:vev E.Γ L x=some (.p (.lst e cs n))) (hi:vev E.Γ L ix=some (.p (.int k i))) (hs:elemSize E.P t=some sz) (h0:0≤i) (h1:i<n)
 (q:Q (.p (.cptr (cs.drop (i.toNat*sz)))) H nx):VVal E w ⟨dst,.indexAddr t x ix,ty,pos,af,gd⟩ L H nx Q :=
 VVal.quiet q fun m F σ tt c1 c2=>by
  obtain ⟨e',inf,h3,h4,h5⟩:=elemSize_some hs
  have hix:=vev_int c1 c2 hi
  have:=vev_rel c1 c2 hx
  generalize hv:ev tt x=v at this
  cases this with
  |p hr =>
   cases hr with
   |nil=>exact absurd h1 (by simp only [Int.ofNat_zero] at *;omega)
   |room=>exact absurd h1 (by simp only [Int.ofNat_zero] at *;omega)
   |lst hF hm hw hr hc =>
    rename_i b o g vs ws ro
    refine ⟨.pointer (some ⟨b,o+i.toNat*sz,some g⟩),fun _=>by simp only [aval,aop,h3,hv,hix,h4,h0,h1,and_self,if_true,h5],.p ?_⟩
    refine .cptr hF hm rfl ?_ (RFs.drop _ hr) (all_drop hc _)
    have:=takeN_drop (k:=i.toNat*sz) hw
    rw [List.length_drop,← List.drop_drop]
    exact this
theorem vev_vec {Γ:Nat→Option (List Value×TypeId)} {m:Mem} {F:Nat→Prop} {σ:Nat→Value} {t:Tr Value} {b tag off len:Nat} {o:Operand} {e:TypeId} {cs:List FV} {z:Bool} (hx:Ctx Γ m F σ H nx) (hl:RL m F (htag H) σ nx L t) (h:vev Γ L o=some (.vec b tag off len)) (hb:hget H b=some (.vec e cs tag z)) :
 SubOf (σ b) off len (ev t o):=by
 have:=vev_rel hx hl h
 generalize ev t o=v at this
 cases this with
 |vec h1 h2 h3=>exact (h3 tag (by simp [htag,hb,HB.tag])).2 rfl
theorem VVal.indexV {t:TypeId} {x ix:Operand} {e:TypeId} {cs:List FV} {b tag off len sz:Nat} {z:Bool} {k:IntKind} {i:Int} (hx:vev E.Γ L x=some (.vec b tag off len)) (hb:hget H b=some (.vec e cs tag z)) (hi:vev E.Γ L ix=some (.p (.int k i)))
 (hs:elemSize E.P t=some sz) (h0:0≤i) (h1:i<len) (q:Q (.eref b tag (off+i.toNat*sz)) H nx):VVal E w ⟨dst,.indexAddr t x ix,ty,pos,af,gd⟩ L H nx Q :=
 VVal.quiet q fun m F σ tt c1 c2=>by
  obtain ⟨e',inf,h3,h4,h5⟩:=elemSize_some hs
  have hix:=vev_int c1 c2 hi
  have hsub:=vev_vec c1 c2 hx hb
  obtain ⟨hlt,hr⟩:=c1.hp b _ hb
  rcases hr with ⟨r1,r2,r3⟩|⟨c,g,vs,r1,r2,r3,r4,r5,r6,r7⟩
  ·rcases r3 with ⟨r3,_⟩|⟨b',o',g',r3,_⟩<;>rw [r3] at hsub<;>simp only [SubOf,nilSlice] at hsub<;>omega
  ·rw [r1] at hsub
   simp only [SubOf] at hsub
   refine ⟨.pointer (some ⟨c,off+i.toNat*sz,some g⟩),fun _=>by simp only [aval,aop,h3,hsub,hix,h4,h0,h1,and_self,if_true,h5],.eref hlt rfl fun n hn=>?_⟩
   simp only [htag,hb,HB.tag,Option.map_some,Option.some.injEq,Tg.vec.injEq] at hn
   exact ⟨by omega,fun _=>⟨c,tag,g,r1,rfl⟩⟩
theorem VVal.lenF {x:Operand} {t e e':TypeId} {cs:List FV} {n:Nat} (hx:vev E.Γ L x=some (.p (.lst e cs n))) (ht:E.P.underlying t=some (.slice e')) (q:Q (.p (.int .i64 n)) H nx) :
 VVal E w ⟨dst,.call { callee:=.builtin .len,args:=#[x],argTypes:=#[t] },ty,pos,af,gd⟩ L H nx Q :=
 VVal.quiet q fun m F σ tt c1 c2=>by
  have:=vev_rel c1 c2 hx
  generalize hv:ev tt x=v at this
  refine ⟨.int .i64 n,fun _=>?_,.p (.int _ _)⟩
  have hg:v=.slice none 0 0∧n=0∨∃ a g,v=.slice a n g:=by
   cases this with
   |p hr =>
    cases hr with
    |nil=>exact .inl ⟨rfl,rfl⟩
    |room=>exact .inr ⟨_,_,rfl⟩
    |lst=>exact .inr ⟨_,_,rfl⟩
  rcases hg with ⟨rfl,rfl⟩|⟨a,g,rfl⟩<;>simp [aval,aop,alen,ht,hv]
theorem VVal.lenV {x:Operand} {t e e':TypeId} {cs:List FV} {b tag off len:Nat} {z:Bool} (hx:vev E.Γ L x=some (.vec b tag off len)) (hb:hget H b=some (.vec e cs tag z)) (ht:E.P.underlying t=some (.slice e')) (q:Q (.p (.int .i64 len)) H nx) :
 VVal E w ⟨dst,.call { callee:=.builtin .len,args:=#[x],argTypes:=#[t] },ty,pos,af,gd⟩ L H nx Q :=
 VVal.quiet q fun m F σ tt c1 c2=>by
  have hsub:=vev_vec c1 c2 hx hb
  obtain ⟨hlt,hr⟩:=c1.hp b _ hb
  refine ⟨.int .i64 len,fun _=>?_,.p (.int _ _)⟩
  have hg:∃ a g,ev tt x=.slice a len g:=by
   rcases hr with ⟨r1,r2,r3⟩|⟨c,g,vs,r1,r2,r3,r4,r5,r6,r7⟩
   ·rcases r3 with ⟨r3,_⟩|⟨b',o',g',r3,_⟩<;>rw [r3] at hsub<;>simp only [SubOf,nilSlice] at hsub<;>obtain ⟨h1,h2,h3⟩:=hsub<;>subst h3<;>exact ⟨_,_,h1⟩
   ·rw [r1] at hsub
    exact ⟨_,_,hsub⟩
  obtain ⟨a,g,hg⟩:=hg
  simp [aval,aop,alen,ht,hg]
theorem VVal.lenS {x:Operand} {t:TypeId} {s:ByteArray} (hx:vev E.Γ L x=some (.p (.str s))) (ht:E.P.underlying t=some .string) (q:Q (.p (.int .i64 s.size)) H nx) :
 VVal E w ⟨dst,.call { callee:=.builtin .len,args:=#[x],argTypes:=#[t] },ty,pos,af,gd⟩ L H nx Q :=
 VVal.quiet q fun m F σ tt c1 c2=>⟨.int .i64 s.size,fun _=>by simp [aval,aop,alen,ht,vev_str c1 c2 hx],.p (.int _ _)⟩
theorem RP.notTup_cell {m:Mem} {F:Nat→Prop} {T:Nat→Option Tg} {σ:Nat→Value} {n:Nat} {x:PV} {v:Value} (hn:notTup x) (h:RP m F T σ n x v):RPs m F T σ n (pcells x) v.cells.toList∧v.cells.toList.all isCell=true:=pcells_rel hn h
theorem alloc_new {Γ:Nat→Option (List Value×TypeId)} {m:Mem} {F:Nat→Prop} {σ:Nat→Value} {e:TypeId} {cs:List PV} {vs:List Value} (h:Ctx Γ m F σ H nx) (hr:RPs m F (htag H) σ nx cs vs) (hc:vs.all isCell=true) :
 Ctx Γ (m.alloc (.cells vs e 0 false)) F (upd σ nx (.pointer (some ⟨m.size,0,none⟩))) ((nx,.box e cs)::H) (nx+1) ∧
 Step m F σ H nx (m.alloc (.cells vs e 0 false)) F (upd σ nx (.pointer (some ⟨m.size,0,none⟩))) ((nx,.box e cs)::H) (nx+1)∧Quiet m (m.alloc (.cells vs e 0 false)):=by
 refine h.new (by simp [Mem.alloc]) (fun c hc=>by rw [Mem.get_alloc,if_neg (by omega)]) (by simp only [Mem.alloc];omega) (fun c hc=>by simp only [blkOf,Option.some.injEq] at hc;omega) ?_
 refine ⟨m.size,vs,rfl,by simp [Mem.alloc],fun hf=>Nat.lt_irrefl _ (h.fr _ hf),by rw [Mem.get_alloc,if_pos rfl],?_,hc⟩
 exact hr.mono (fun c hf=>⟨hf,by rw [Mem.get_alloc,if_neg (by have:=h.fr c hf;omega)]⟩) (new_names (Γ:=Γ) (m:=m) (F:=F) _ _) (Nat.le_succ _)
theorem VVal.box {e:TypeId} {x:Operand} {r:PV} (hx:vev E.Γ L x=some r) (hn:notTup r) (q:Q (.ref nx 0) ((nx,.box e (pcells r))::H) (nx+1)):VVal E w ⟨dst,.box e x,ty,pos,af,gd⟩ L H nx Q:=by
 intro m F σ t h1 h2
 obtain ⟨h3,h4⟩:=pcells_rel hn (vev_rel h1 h2 hx)
 obtain ⟨c1,c2,c3⟩:=alloc_new (e:=e) h1 h3 h4
 refine AVal.op (v:=.pointer (some ⟨m.size,0,none⟩)) (fun _=>?_) ⟨_,_,_,F,_,q,c1,?_,c2,fun _=>c3⟩
 ·simp only [aval,aop,h4,if_true]
 ·exact .ref (Nat.lt_succ_self _) rfl fun _=>⟨m.size,upd_same _ _ _,rfl⟩
theorem RPs.zero {m:Mem} {F:Nat→Prop} {T:Nat→Option Tg} {σ:Nat→Value} {n:Nat} {z:List Value} (h:z.all Am.plainCell=true):RPs m F T σ n (z.map fun v=>.p (cellFV v)) z:=by
 have:=RPs.ofRFs (T:=T) (σ:=σ) (n:=n) (cellFVs_rel (m:=m) (F:=F) h)
 rw [List.map_map] at this
 exact this
theorem VVal.alloc {e:TypeId} {z:List Value} (hz:zeroCellsOf E.P e=some z) (q:Q (.ref nx 0) ((nx,.box e (z.map fun v=>.p (cellFV v)))::H) (nx+1)):VVal E w ⟨dst,.alloc e,ty,pos,af,gd⟩ L H nx Q:=by
 intro m F σ t h1 h2
 obtain ⟨_,_,_,_,_,hp⟩:=zeroCellsOf_some hz
 obtain ⟨c1,c2,c3⟩:=alloc_new (e:=e) h1 (RPs.zero hp) (all_plain_isCell hp)
 refine AVal.op (v:=.pointer (some ⟨m.size,0,none⟩)) (fun _=>?_) ⟨_,_,_,F,_,q,c1,?_,c2,fun _=>c3⟩
 ·simp only [aval,aop,hz,Option.map_some]
 ·exact .ref (Nat.lt_succ_self _) rfl fun _=>⟨m.size,upd_same _ _ _,rfl⟩
theorem splice_len (l:List Value) (vs:List Value) (o:Nat):(splice vs o l).length=vs.length:=splice_length l vs o
theorem VVal.storeB {t:TypeId} {a x:Operand} {b off:Nat} {e:TypeId} {cs:List PV} {r:PV} {i:TypeInfo} (ha:vev E.Γ L a=some (.ref b off)) (hx:vev E.Γ L x=some r) (hb:hget H b=some (.box e cs)) (hn:notTup r)
 (hi:E.P.info? t=some i) (hl:(pcells r).length=i.size) (h0:0<i.size) (hle:off+i.size≤cs.length) (q:Q (.tup []) (hput H b (.box e (psplice cs off (pcells r)))) nx):VVal E true ⟨dst,.store t a x,ty,pos,af,gd⟩ L H nx Q:=by
 intro m F σ tt h1 h2
 obtain ⟨c,h3,h4⟩:=vev_ref h1 h2 ha hb
 obtain ⟨h5,h6⟩:=pcells_rel hn (vev_rel h1 h2 hx)
 obtain ⟨hlt,c',vs,r1,r2,r3,r4,r5,r6⟩:=h1.hp b _ hb
 rw [h4] at r1
 cases r1
 have hlen:=h5.length
 have hlen2:=r5.length
 have hst:astore E.P t ⟨c,off,none⟩ (ev tt x) m=some (m.put c (.cells (splice vs off (ev tt x).cells.toList) e 0 false)):=by
  unfold astore storeRow
  rw [hi]
  simp only [r4]
  rw [if_pos (by simpa using hlen.symm.trans hl),if_pos]
  simp only [agen,Option.getD_none,beq_self_eq_true,Bool.true_and,Bool.and_eq_true,decide_eq_true_eq]
  refine ⟨⟨?_,?_⟩,h6⟩
  ·rw [← hlen,hl,← hlen2];exact ⟨trivial,hle⟩
  ·rw [← hlen,hl];exact h0
 have hput':∀ d,c≠d→(m.put c (.cells (splice vs off (ev tt x).cells.toList) e 0 false)).get d=m.get d:=fun d hd=>by rw [Mem.get_put,if_neg hd]
 obtain ⟨c1,c2⟩:=h1.change (m':=m.put c (.cells (splice vs off (ev tt x).cells.toList) e 0 false)) (x':=.box e (psplice cs off (pcells r))) (s':=σ b) hb trivial (fun _=>rfl) (Nat.le_refl _)
  (fun d _ hd=>hput' d fun e=>hd (by rw [h4,e];rfl)) (fun k k1 k2 k3=>by
   have:=k3 c (by rw [h4];rfl)
   simp only [Mem.put];omega) (fun d hd=>.inl hd) (by
   refine ⟨c,splice vs off (ev tt x).cells.toList,h4,r2,r3,by rw [Mem.get_put,if_pos rfl],?_,all_splice _ r6 h6⟩
   refine (RPs.splice off r5 h5).mono (fun d hd=>⟨hd,hput' d fun e=>r3 (e▸hd)⟩) (change_names (x':=.box e (psplice cs off (pcells r))) hb trivial fun _=>rfl) (Nat.le_refl _))
 refine AVal.op (v:=undef) (fun _=>?_) ⟨_,_,_,F,_,q,c1,.tup .nil,c2,fun h=>by cases h⟩
 simp only [aval,aop,h3,hst,Option.map_some]
theorem VVal.storeV {t:TypeId} {a x:Operand} {b tag off:Nat} {e:TypeId} {cs fs:List FV} {z:Bool} {r:PV} {i:TypeInfo} (ha:vev E.Γ L a=some (.eref b tag off)) (hx:vev E.Γ L x=some r) (hb:hget H b=some (.vec e cs tag z)) (hn:notTup r)
 (hf:pcells r=fs.map .p) (hi:E.P.info? t=some i) (hl:fs.length=i.size) (h0:0<i.size) (hle:off+i.size≤cs.length) (q:Q (.tup []) (hput H b (.vec e (psplice cs off fs) tag z)) nx):VVal E true ⟨dst,.store t a x,ty,pos,af,gd⟩ L H nx Q:=by
 intro m F σ tt h1 h2
 obtain ⟨c,k,g,h3,h4⟩:=vev_eref h1 h2 ha hb
 obtain ⟨h5,h6⟩:=pcells_rel hn (vev_rel h1 h2 hx)
 rw [hf] at h5
 obtain ⟨hlt,hr⟩:=h1.hp b _ hb
 rcases hr with ⟨r1,r2,r3⟩|⟨c',g',vs,r1,r2,r3,r4,r5,r6,r7⟩
 ·rcases r3 with ⟨r3,_⟩|⟨b',o',g',r3,_⟩<;>rw [r3] at h4<;>cases h4
 rw [h4] at r1
 cases r1
 have hlen:=h5.length
 rw [List.length_map] at hlen
 have hlen2:=r5.length
 have hst:astore E.P t ⟨c,off,some g⟩ (ev tt x) m=some (m.put c (.cells (splice vs off (ev tt x).cells.toList) e g false)):=by
  unfold astore storeRow
  rw [hi]
  simp only [r4]
  rw [if_pos (by simpa using hlen.symm.trans hl),if_pos]
  simp only [agen,Option.getD_some,beq_self_eq_true,Bool.true_and,Bool.and_eq_true,decide_eq_true_eq]
  refine ⟨⟨?_,?_⟩,h6⟩
  ·rw [← hlen,hl,← hlen2];exact ⟨trivial,hle⟩
  ·rw [← hlen,hl];exact h0
 have hput':∀ d,c≠d→(m.put c (.cells (splice vs off (ev tt x).cells.toList) e g false)).get d=m.get d:=fun d hd=>by rw [Mem.get_put,if_neg hd]
 obtain ⟨c1,c2⟩:=h1.change (m':=m.put c (.cells (splice vs off (ev tt x).cells.toList) e g false)) (x':=.vec e (psplice cs off fs) tag z) (s':=σ b) hb (Nat.le_refl _) (fun _=>rfl) (Nat.le_refl _)
  (fun d _ hd=>hput' d fun e=>hd (by rw [h4,e];rfl)) (fun k k1 k2 k3=>by
   have:=k3 c (by rw [h4];rfl)
   simp only [Mem.put];omega) (fun d hd=>.inl hd) (by
   refine .inr ⟨c,g,splice vs off (ev tt x).cells.toList,h4,r2,r3,by rw [Mem.get_put,if_pos rfl],?_,all_splice _ r6 h6,r7⟩
   exact (RFs.splice off r5 (RFs.ofRPs h5)).mono (fun d hd=>⟨hd,hput' d fun e=>r3 (e▸hd)⟩))
 refine AVal.op (v:=undef) (fun _=>?_) ⟨_,_,_,F,_,q,c1,.tup .nil,c2,fun h=>by cases h⟩
 simp only [aval,aop,h3,hst,Option.map_some]
end Go.Vm
