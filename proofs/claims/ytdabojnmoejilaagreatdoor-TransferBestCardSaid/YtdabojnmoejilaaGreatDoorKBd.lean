/-
  Texts of a proof, merged (Orq, VmG, TraP, EnvO, IntA, IntB, FraA, RkB, RkC, OrA, OrB, RkA, RkD, RkE, RkF, RkG, RkH, RkI, OrF, RkJ, RkK, RkL, OrG, OrH, OrI, TraE). Conditions: in each statement.
-/
import Derived.Shelf.Spec.SlicesGrow
import Derived.Test.YtdabojnmoejilaaGreatDoorKBc
set_option linter.unusedSimpArgs false
set_option linter.unusedVariables false
set_option linter.unusedSectionVars false
set_option maxRecDepth 100000
set_option maxHeartbeats 8000000
namespace Go.Vm
open Go.Am
section
variable {P:Program} {G:List Nat}
theorem JZ (n:Nat) (lb:List Value):(D9 n lb).drop (n+1)=lb:=by
 unfold D9
 rw [List.drop_append_of_le_length (by simp),List.drop_of_length_le (by simp)];rfl
theorem lJ {k k':Value} {a b:List (List Value)} (h:IJ k a=IJ k' b):k=k'∧a=b:=by
 have:=congrArg Ox h
 rw [Kv,Kv] at this
 refine ⟨?_,Option.some.inj this⟩
 unfold IJ at h
 simp only [Value.tuple.injEq] at h
 have h2:=congrArg (fun x=>x.toList) h
 simp only [List.cons.injEq] at h2
 exact h2.1
abbrev SqF:=List Value→Mem→Option (Value×List (List Value))
open Classical in
noncomputable def Ug (G:List Nat) (M0:Mem) (nt:Nat) (Sq:SqF) (Ci:List Value) (m:Mem):Option (Value×Mem) :=
 if Ci=D9 nt (Ci.drop (nt+1))∧∀ k∈G,m.get k=M0.get k then (Sq (Ci.drop (nt+1)) m).map fun kr=>(IJ kr.1 kr.2,m) else none
noncomputable def yI (G:List Nat) (M0:Mem) (gf:FuncId) (nt:Nat) (Sq:SqF) (O:CB):CB:=fun f=>if f=gf then some (Ug G M0 nt Sq) else O f
theorem nH {M0:Mem} {gf f:FuncId} {nt:Nat} {Sq:SqF} {O:CB} (h:f≠gf):yI G M0 gf nt Sq O f=O f:=if_neg h
theorem ou {M0:Mem} {gf:FuncId} {nt:Nat} {Sq:SqF} {O:CB}:yI G M0 gf nt Sq O gf=some (Ug G M0 nt Sq):=if_pos rfl
theorem MF {M0:Mem} {nt:Nat} {Sq:SqF} {Ci:List Value} {m:Mem} {r:Value×Mem} (h:Ug G M0 nt Sq Ci m=some r):∃ lb kr,Ci=D9 nt lb∧(∀ k∈G,m.get k=M0.get k)∧Sq lb m=some kr∧r=(IJ kr.1 kr.2,m):=by
 unfold Ug at h
 split at h
 case isFalse=>cases h
 rename_i hc
 rw [Option.map_eq_some_iff] at h
 obtain ⟨rows,h1,h2⟩:=h
 exact ⟨_,rows,hc.1,hc.2,h1,h2.symm⟩
theorem tX {M0:Mem} {nt:Nat} {Sq:SqF} {lb:List Value} {m:Mem} {kr:Value×List (List Value)} (hg:∀ k∈G,m.get k=M0.get k) (h:Sq lb m=some kr):Ug G M0 nt Sq (D9 nt lb) m=some (IJ kr.1 kr.2,m):=by
 unfold Ug
 rw [JZ,if_pos ⟨rfl,hg⟩,h];rfl
theorem bT {ι:Cj} {g:Nat→Nat} {v:Value} (h:Bf ι g Ve v):False:=by cases h
theorem ZC {gf:Nat} {lb:Array Value} {rows:List (List Value)} {I1 I2:World→Prop} {w:World} (h:XL P gf lb rows I2 w) (hi:∀ W,I1 W→I2 W):XL P gf lb rows I1 w :=
 fun l J Jx W hb hJ hx hy h0 hj=>h l J Jx W hb hJ hx (fun i W1 hi' hj'=>by
  obtain ⟨fn,tmps,LQ,body,e1,e2⟩:=hy i W1 hi' hj'
  refine ⟨fn,tmps,LQ,body,e1,e2.mono ?_⟩
  rintro e W' (⟨q1,q2,q3⟩|q)
  ·exact .inl ⟨q1,q2,hi _ q3⟩
  ·exact .inr q) (hi _ h0) hj
theorem jA {M0:Mem} {gf:FuncId} {nt:Nat} {Sq:SqF} {O:CB} (hO:Hg P G O) (he:Am.Enters P gf) (hnt:∀ fn,P.funcs[gf]?=some fn→fn.ntmps=nt)
 (hs:∀ (lb:List Value) (m:Mem) (key:Value) (rows:List (List Value)),Sq lb m=some (key,rows)→(∀ k∈G,m.get k=M0.get k)→∀ (ι:Cj) (w:World) (lb':Array Value),En P G ι m w→BN ι m.gen lb lb'.toList →
  XL P gf lb' rows (Xd P G (fun m'=>Sq lb m'=some (key,rows)∧∀ k∈G,m'.get k=M0.get k) ι m.gen lb lb') w):Hg P G (yI G M0 gf nt Sq O):=by
 intro f Fo hf
 by_cases h:f=gf
 ·subst h
  rw [ou] at hf
  cases hf
  refine ⟨fun Ci m v m' hv ι w as' hs' hrel=>?_,fun Ci m v m' hv=>?_,he,fun fn lb m m1 v rows hfn hv hr ι w lb' Ee hl=>?_⟩
  ·obtain ⟨lb,rows,rfl,_⟩:=MF hv
   rw [jS] at hrel
   obtain ⟨v',k',_,h2,_⟩:=hrel.Me
   exact (bT h2).elim
  ·obtain ⟨lb,rows,_,_,_,e⟩:=MF hv
   cases e;exact Bl.refl _
  ·rw [hnt fn hfn] at hv ⊢
   obtain ⟨lb2,a0j,e1,e2,e3,e4⟩:=MF hv
   have e5:lb=lb2:=by
    have:=congrArg (List.drop (nt+1)) e1
    rwa [JZ,JZ] at this
   subst e5
   obtain ⟨key2,a0j⟩:=a0j
   cases e4
   rw [Kv] at hr
   cases hr
   refine ZC (hs lb m _ _ e3 e2 ι w lb' Ee hl) ?_
   rintro W ⟨ι',m',q1,q2,⟨m2,q3⟩,q4⟩
   obtain ⟨lb3,a0l,p1,p2,p3,p4⟩:=MF q3
   have e6:lb=lb3:=by
    have:=congrArg (List.drop (nt+1)) p1
    rwa [JZ,JZ] at this
   subst e6
   simp only [Prod.mk.injEq] at p4
   obtain ⟨r1,r2⟩:=lJ p4.1
   obtain ⟨b1f,a0l⟩:=a0l
   simp only at r1 r2
   subst r1;subst r2
   exact ⟨ι',m',q1,q2,⟨p3,p2⟩,q4⟩
 ·rw [nH h] at hf
  exact hO f Fo hf
end
end Go.Vm
namespace Go.Vm
open Go.Am
variable {E:Env} {bn:Nat} {L:Frame} {H:Heap} {nx:Nat} {Q:CG→Frame→Heap→Nat→Prop} {b:Code}
theorem Ae.eq {k i:Nat} {v0:PV} {L0:Frame} (hv:G5 L i=some v0) (hu:v0.under k) (t:Ae k L0 L):Ae k ((i,v0)::L0) L:=⟨⟨hu,v0,hv,.refl _⟩,t⟩
theorem Aj.eq {k i:Nat} {v0:HB} {L0:Heap} (hv:hget H i=some v0) (hi:i<k) (hu:v0.under k) (t:Aj k L0 H):Aj k ((i,v0)::L0) H:=⟨⟨hi,hu,v0,hv,.refl _⟩,t⟩
mutual
def PV.ub (k:Nat):PV→Bool
 | .p _=>true
 | .agg cs=>AQ.ub k cs
 | .EX cs=>AQ.ub k cs
 | .vec b _ _ _=>Nat.blt b k
 | .ref b _=>Nat.blt b k
 | .Ep b _ _=>Nat.blt b k
 | .mref b=>Nat.blt b k
 | .clo _ fs cs=>and (AQ.ub k fs) (AQ.ub k cs)
def AQ.ub (k:Nat):List PV→Bool
 |[]=>true
 |c::cs=>and (PV.ub k c) (AQ.ub k cs)
end
mutual
theorem PV.Ak {k:Nat}:∀ {x:PV},PV.ub k x=true→x.under k
 | .p _,_=>trivial
 | .agg _,h=>AQ.Ak (by simpa [PV.ub] using h)
 | .EX _,h=>AQ.Ak (by simpa [PV.ub] using h)
 | .vec _ _ _ _,h=>Ac h
 | .ref _ _,h=>Ac h
 | .Ep _ _ _,h=>Ac h
 | .mref _,h=>Ac h
 | .clo _ _ _,h=>by
  simp only [PV.ub,Bool.and_eq_true] at h
  exact ⟨AQ.Ak h.1,AQ.Ak h.2⟩
theorem AQ.Ak {k:Nat}:∀ {x:List PV},AQ.ub k x=true→AQ.under k x
 |[],_=>trivial
 |_::_,h=>by
  simp only [AQ.ub,Bool.and_eq_true] at h
  exact ⟨PV.Ak h.1,AQ.Ak h.2⟩
end
def HB.ub (k:Nat):HB→Bool
 | .box _ cs=>AQ.ub k cs
 | .Fh _ cs _=>AQ.ub k cs
 |_=>true
theorem HB.Ak {k:Nat} {x:HB} (h:HB.ub k x=true):x.under k:=by
 cases x with
 |box e cs=>exact AQ.Ak h
 |Fh e cs n=>exact AQ.Ak h
 |vec=>trivial
 |map=>trivial
theorem Ad.Fe (n:Nat) (L0:Frame) (H0:Heap) (Lf:Nat→Frame→Frame) (Hf:Nat→Heap→Heap) (DR:Nat) (hb:bn≤DR) (hn:DR≤nx) (h1:Ae DR (Lf 0 L0) L) (h2:Aj DR (Hf 0 H0) H)
 (hs:∀ k,k<n→Ad E bn b (Lf k L0) (Hf k H0) DR (Aw (fun L' H' nx'=>DR≤nx'∧Ae DR (Lf (k+1) L0) L'∧Aj DR (Hf (k+1) H0) H') Q))
 (he:Ad E bn b (Lf n L0) (Hf n H0) DR (Aw (fun _ _ _=>False) Q)):Ad E bn (.loop b) L H nx Q :=
 Ad.Eb (fun k=>Lf k L0) (fun k=>Hf k H0) DR (fun k=>k≤n) (fun k=>n-k) 0 hb (Nat.zero_le _) ⟨hn,h1,h2⟩ fun k hk=>by
  rcases Nat.lt_or_ge k n with h|h
  ·refine (hs k h).mono fun e L' H' nx' q=>?_
   cases e with
   |normal=>exact ⟨k+1,h,by omega,⟨q.1,q.2.1,q.2.2⟩⟩
   |ret=>exact q
   |exit i=>exact q
  ·obtain rfl:k=n:=by omega
   refine he.mono fun e L' H' nx' q=>?_
   cases e with
   |normal=>exact q.elim
   |ret=>exact q
   |exit i=>exact q
theorem Ad.GZ (n:Nat) (inv:Nat→Prop) (L0:Frame) (H0:Heap) (Lf:Nat→Frame→Frame) (Hf:Nat→Heap→Heap) (DR:Nat) (hb:bn≤DR) (hn:DR≤nx) (h1:Ae DR (Lf 0 L0) L) (h2:Aj DR (Hf 0 H0) H) (h0:inv 0)
 (hs:∀ k,k<n→inv k→Ad E bn b (Lf k L0) (Hf k H0) DR (Aw (fun L' H' nx'=>inv (k+1)∧DR≤nx'∧Ae DR (Lf (k+1) L0) L'∧Aj DR (Hf (k+1) H0) H') Q))
 (he:inv n→Ad E bn b (Lf n L0) (Hf n H0) DR (Aw (fun _ _ _=>False) Q)):Ad E bn (.loop b) L H nx Q :=
 Ad.Eb (fun k=>Lf k L0) (fun k=>Hf k H0) DR (fun k=>k≤n∧inv k) (fun k=>n-k) 0 hb ⟨Nat.zero_le _,h0⟩ ⟨hn,h1,h2⟩ fun k hk=>by
  obtain ⟨hk,hi⟩:=hk
  rcases Nat.lt_or_ge k n with h|h
  ·refine (hs k h hi).mono fun e L' H' nx' q=>?_
   cases e with
   |normal=>exact ⟨k+1,⟨h,q.1⟩,by omega,⟨q.2.1,q.2.2.1,q.2.2.2⟩⟩
   |ret=>exact q
   |exit i=>exact q
  ·obtain rfl:k=n:=by omega
   refine (he hi).mono fun e L' H' nx' q=>?_
   cases e with
   |normal=>exact q.elim
   |ret=>exact q
   |exit i=>exact q
section
variable {Q:PV→Heap→Nat→Prop} {w:Bool} {dst:Option Tmp} {ty:TypeId} {pos:String} {af:Array Edge} {gd:Option (Nat×Bool)}
theorem a0c {Γ:Nat→Option (List Value×TypeId)} {m:Mem} {F:Nat→Prop} {σ:Nat→Value} {t:Tr Value} {x:Operand} {e:TypeId} {cs:List FV} {n:Nat} (hx:Ctx Γ m F σ H nx) (hl:RL m F (htag H) σ nx L t) (h:Bz Γ L x=some (.p (.lst e cs n))) :
 ∃ a k g,ev t x=.slice a k g∧(0<n→a.isNone=false):=by
 have:=BX hx hl h
 generalize ev t x=v at this
 cases this with
 |p hr =>
  cases hr with
  |nil=>exact ⟨_,_,_,rfl,fun h=>by omega⟩
  |room=>exact ⟨_,_,_,rfl,fun _=>rfl⟩
  |lst=>exact ⟨_,_,_,rfl,fun _=>rfl⟩
theorem zK {Γ:Nat→Option (List Value×TypeId)} {m:Mem} {F:Nat→Prop} {σ:Nat→Value} {t:Tr Value} {y:Operand} {v:Value} (hx:Ctx Γ m F σ H nx) (hl:RL m F (htag H) σ nx L t) (h:Bz Γ L y=some (.p (.val v))):ev t y=v:=by
 have:=BX hx hl h
 generalize ev t y=u at this
 cases this with|p hr=>cases hr;rfl
theorem xQ {P:Program} {t e':TypeId} {xo yo:Operand} {a:Option Addr} {k g:Nat} (ht:P.underlying t=some (.slice e')):O7 P .eql t xo yo (.slice a k g) (.slice none 0 0)=some (.bool a.isNone)∧O7 P .neq t xo yo (.slice a k g) (.slice none 0 0)=some (.bool !a.isNone):=by
 simp [O7,ht,JR]
theorem Aa.eqNil {t t2 e e':TypeId} {x y:Operand} {cs:List FV} {n:Nat} (hx:Bz E.Γ L x=some (.p (.lst e cs n))) (hy:Bz E.Γ L y=some (.p (.val (.slice none 0 0)))) (ht:E.P.underlying t=some (.slice e')) (q:∀ b,(0<n→b=false)→Q (.p (.bool b)) H nx) :
 Aa E w ⟨dst,.binOp .eql t x y t2,ty,pos,af,gd⟩ L H nx Q:=fun m F σ tt h1 h2=>by
 obtain ⟨a,k,g,h3,h4⟩:=a0c h1 h2 hx
 have h5:=zK h1 h2 hy
 exact Ir.op (v:=.bool a.isNone) (m':=m) (fun _=>by simp only [CW,FI,h3,h5];rw [(xQ ht).1];rfl) ⟨_,H,nx,F,σ,q a.isNone h4,h1,.p (.bool _),Step.refl _ _ _ _ _,fun _ k hk _=>hk⟩
theorem Aa.a3a {t t2 e e':TypeId} {x y:Operand} {cs:List FV} {n:Nat} (hx:Bz E.Γ L x=some (.p (.lst e cs n))) (hy:Bz E.Γ L y=some (.p (.val (.slice none 0 0)))) (ht:E.P.underlying t=some (.slice e')) (hn:0<n) (q:Q (.p (.bool false)) H nx) :
 Aa E w ⟨dst,.binOp .eql t x y t2,ty,pos,af,gd⟩ L H nx Q:=Aa.eqNil hx hy ht fun b hb=>by rw [hb hn];exact q
theorem V3 {α:Type} [Inhabited α] {l:List α} {i j:Nat} {a:α}:gi (l.set i a) j=if i=j∧j<l.length then a else gi l j:=by
 unfold gi
 rw [List.getElem?_set]
 by_cases h:i=j
 ·subst h
  by_cases h2:i<l.length
  ·simp [h2]
  ·simp [h2,List.getElem?_eq_none (by omega:l.length≤i)]
 ·simp [h]
theorem Aa.a0d {t t2:TypeId} {x y:Operand} {n:Nat} (hx:Bz E.Γ L x=some (.p (.int .u64 ((2 ^ n:Nat):Int)))) (hy:Bz E.Γ L y=some (.p (.int .u64 1))) (hn:n<64) (q:Q (.p (.int .u64 ((2 ^ n-1:Nat):Int))) H nx) :
 Aa E w ⟨dst,.binOp .sub t x y t2,ty,pos,af,gd⟩ L H nx Q :=
 Aa.a4r (a:=2 ^ n) (b:=1) hx hy ⟨Nat.one_le_two_pow,Nat.lt_of_le_of_lt (Nat.pow_le_pow_right (by omega) (show n≤63 by omega)) (by decide)⟩ q
end
theorem all_succ {P:Nat→Prop} {k:Nat} (h:∀ i,i<k→P i) (hk:P k):∀ i,i<k+1→P i:=fun i hi=>by
 rcases Nat.lt_or_ge i k with h1|h1
 ·exact h i h1
 ·obtain rfl:i=k:=by omega
  exact hk
def GR {α:Type} (f:Nat→α):Nat→List α
 |0=>[]
 |k+1=>GR f k++[f k]
theorem JB {α:Type} (f:Nat→α):∀ k,(GR f k).length=k
 |0=>rfl
 |k+1=>by simp [GR,JB f k]
theorem eF {α:Type} (f:Nat→α):∀ k i,i<k→(GR f k)[i]?=some (f i)
 |0,i,h=>by omega
 |k+1,i,h=>by
  simp only [GR]
  rw [List.getElem?_append]
  rw [JB]
  by_cases h2:i<k
  ·rw [if_pos h2];exact eF f k i h2
  ·obtain rfl:i=k:=by omega
   rw [if_neg (by omega)];simp
theorem gU {α:Type} [Inhabited α] (f:Nat→α) {k i:Nat} (h:i<k):gi (GR f k) i=f i:=by
 unfold gi;rw [eF f k i h];rfl
def a1n {α:Type} (f:Nat→α) (l:List α):Nat→List α
 |0=>l
 |k+1=>(a1n f l k).set k (f k)
theorem LV {α:Type} [Inhabited α] {a:α} {n i:Nat} (h:i<n):gi (List.replicate n a) i=a:=by
 unfold gi;rw [List.getElem?_replicate,if_pos h];rfl
def a2z (k:Nat):Heap→Bool
 |[]=>true
 |(i,x)::H=>and (and (Nat.blt i k) (HB.ub k x)) (a2z k H)
theorem EF {k:Nat}:∀ {H:Heap},a2z k H=true→Ob k H
 |[],_=>trivial
 |(_,_)::_,h=>by
  simp only [a2z,Bool.and_eq_true] at h
  exact ⟨⟨Ac h.1.1,HB.Ak h.1.2⟩,EF h.2⟩
def ig (E:Env) (g:FuncId) (ac:List PV) (Hc:Heap) (k:Nat) (x:FV):Prop:=BA E g ac Hc k fun r H' nx'=>r=.p x∧H'=Hc∧nx'=k
theorem ig.enter {f:FuncId} {fn:Func} {c:Code} {ac:List PV} {Hc:Heap} {k:Nat} {x:FV} (ho:E.O f=none) (hf:E.P.funcs[f]?=some fn) (hb:fn.body=some c) (hok:H6 E.G fn c=true) (hn:ac.length≤fn.ntmps)
 (h:Ad E k c (CP 0 ac) Hc k (Done E.P fn.results.toList k fun r' H' nx'=>r'=.p x∧H'=Hc∧nx'=k)):ig E f ac Hc k x:=BA.enter ho hf hb hok hn h
theorem Aa.read {Q:PV→Heap→Nat→Prop} {dst:Option Tmp} {ty:TypeId} {pos:String} {af:Array Edge} {gd:Option (Nat×Bool)} {fo:Operand} {args:Array Operand} {aT:Array TypeId} {g:FuncId} {fs cs Ci ac:List PV} {Hc:Heap} {x:FV} (ns:List Nat) (hc:ig E g ac Hc ns.length x)
 (hf:Bz E.Γ L fo=some (.clo g fs cs)) (ha:evs E.Γ L args.toList=some Ci) (hle:P9 (fs++Ci++cs) (AQ.rn (rho ns nx) ac)) (hu:AQ.under ns.length ac) (hHu:Ob ns.length Hc) (hin:HIn (rho ns nx) H Hc) (hnd:ns.Nodup) (hlt:∀ b∈ns,b<nx)
 (hm:news ns.length (rho ns nx) Hc (merge ns (rho ns nx) Hc H)=H) (q:Q (.p x) H nx) :
 Aa E true ⟨dst,.call { callee:=.value fo,args:=args,argTypes:=aT },ty,pos,af,gd⟩ L H nx Q :=
 Aa.sS hf ha hle hu hHu hin hnd hlt (fun h=>by cases h) hc fun r H' nx' ⟨h1,h2,h3⟩=>by
  subst h1;subst h2;subst h3
  rw [hm,Nat.sub_self]
  exact q
theorem dZ {P:Program} {t e:TypeId} {n:Nat} {z:List Value} {inf:TypeInfo} {ps:Array (Nat×Value)} {out:Array Value} (hz:CQ P t=some z) (hu:P.underlying t=some (.array n e)) (hi:P.info? e=some inf)
 (hf:Instr.fill (fun i=>some (i*inf.size,inf.size)) z.toArray ps.toList=some out):Ec P (Instr.build t ps)=some (.agg out):=by
 obtain ⟨i,zv,h1,h2,h3,h4⟩:=BQ hz
 unfold Instr.build
 simp only [AX]
 have hzv:Ec P (zeroValue t)=some zv:=by
  simp only [zeroValue,AX,Jq,h1,Option.bind_some,h2]
  rfl
 rw [hzv]
 simp only [Option.bind_some,BF,hu]
 simp only [AX,FC,hi,Option.map_some,Option.bind_some]
 have e:zv.cells=z.toArray:=by rw [h3]
 rw [e,hf]
 rfl
theorem Aa.VQ {Q:PV→Heap→Nat→Prop} {w:Bool} {dst:Option Tmp} {ty:TypeId} {pos:String} {af:Array Edge} {gd:Option (Nat×Bool)} {t e:TypeId} {n:Nat} {ps:Array (Nat×Operand)} {z:List Value} {inf:TypeInfo} {parts:List (Nat×PV)} {out:List PV} (hz:CQ E.P t=some z) (hu:E.P.underlying t=some (.array n e))
 (hi:E.P.info? e=some inf) (hp:evp E.Γ L ps.toList=some parts) (hf:VK (fun i=>some (i*inf.size,inf.size)) (z.map fun v=>.p (Gj v)) parts=some out) (q:Q (fH out) H nx) :
 Aa E w ⟨dst,.build t ps,ty,pos,af,gd⟩ L H nx Q :=
 Aa.quiet q fun m F σ tt h1 h2=>by
  obtain ⟨_,_,_,_,_,hpz⟩:=BQ hz
  obtain ⟨out',e1,e2,e3⟩:=OE (fun i=>some (i*inf.size,inf.size)) (Vp h1 h2 hp) (cs':=z.toArray) (DL.zero hpz) (Du hpz) hf
  have e4:=dZ (ps:=ps.map fun (i,x)=>(i,ev tt x)) hz hu hi (by rw [Array.toList_map];simpa using e1)
  refine ⟨.agg out',fun _=>?_,SQ e2 e3⟩
  simp only [CW,FI,hz,e4,Option.map_some]
end Go.Vm
namespace Go.Vm
open Go.Am
variable {E:Env} {L:Frame} {H:Heap} {nx:Nat} {Q:PV→Heap→Nat→Prop}
variable {dst:Option Tmp} {ty:TypeId} {pos:String} {af:Array Edge} {gd:Option (Nat×Bool)}
theorem Aa.yH {w:Bool} {s d e e2:TypeId} {x:Operand} {b:Nat} {z:Bool} {n k:Int} (hx:Bz E.Γ L x=some (.vec b 2 0 2)) (hb:hget H b=some (.vec e2 [.int .u8 n,.int .u8 k] 2 z)) (hs:E.P.underlying s=some (.slice e)) (hd:E.P.underlying d=some .string) (he:E.P.underlying e=some (.int .u8)) (hn:0≤n∧n<256) (hk:0≤k∧k<256)
 (q:Q (st [UInt8.ofNat n.toNat,UInt8.ofNat k.toNat]) H nx):Aa E w ⟨dst,.convert s d x,ty,pos,af,gd⟩ L H nx Q :=
 Aa.quiet q fun m F σ tt c1 c2=>by
  obtain ⟨hl1,vs,hl2,hl3,hl4⟩:=oP.all (sz:=1) hx hb rfl m F σ tt c1 c2
  have hc:cells [UInt8.ofNat n.toNat,UInt8.ofNat k.toNat]=[.int .u8 n,.int .u8 k]:=by
   show [FV.int .u8 (((UInt8.ofNat n.toNat).toNat:Nat):Int),FV.int .u8 (((UInt8.ofNat k.toNat).toNat:Nat):Int)]=_
   rw [UInt8.toNat_ofNat',UInt8.toNat_ofNat']
   congr 2
   ·omega
   ·congr 2
    omega
  rw [← hc] at hl3
  have hvs:=Oa hl3
  subst hvs
  have hsub:=GY c1 c2 hx hb
  have hag:∃ a g,ev tt x=.slice a 2 g:=by
   unfold Eu at hsub
   split at hsub
   ·exact ⟨_,_,hsub⟩
   ·exact absurd hsub.2.2 (by decide)
  obtain ⟨a,g,hag⟩:=hag
  rw [hag] at hl2
  refine ⟨.string (bs [UInt8.ofNat n.toNat,UInt8.ofNat k.toNat]),fun _=>?_,.p (.str _)⟩
  have hsl:(Hr E.P s||Hr E.P d)=true:=by simp only [Hr,hs,hd];rfl
  simp only [CW,FI,hsl,if_true,UA,hs,hd,hag,he,hl2,NJ]
  rfl
end Go.Vm
namespace Go.Tra
open Go Go.Am Go.Vm
structure PN where
 d:Nat
 s:Nat
instance:Enc PN:={ default:=⟨0,0⟩,enc:=fun x=>[.int .i64 (x.d:Int),.int .i64 (x.s:Int)],size:=2,len:=fun _=>rfl }
def LC (ns:List Nat):Nat→List PN
 |0=>[]
 |d+1=>LC ns d++(List.range (gi ns d)).map fun s=>⟨d,s⟩
def KZ (ns:List Nat) (d:Nat):Nat:=(LC ns d).length
theorem JA (ns:List Nat) (d:Nat):KZ ns (d+1)=KZ ns d+gi ns d:=by simp [KZ,LC]
theorem aI (ns:List Nat) {d e:Nat} (h:d≤e):KZ ns d≤KZ ns e:=by
 induction e with
 |zero=>obtain rfl:d=0:=by omega
        exact Nat.le_refl _
 |succ e ih =>
  rcases Nat.lt_or_ge d (e+1) with h1|h1
  ·have:=ih (by omega)
   rw [JA];omega
  ·obtain rfl:d=e+1:=by omega
   exact Nat.le_refl _
theorem oM (ns:List Nat):∀ (n d s:Nat),d<n→s<gi ns d→gi (LC ns n) (KZ ns d+s)=⟨d,s⟩
 |n+1,d,s,h1,h2=>by
  have e0:LC ns (n+1)=LC ns n++(List.range (gi ns n)).map fun s=>⟨n,s⟩:=rfl
  rw [e0]
  unfold gi
  rw [List.getElem?_append]
  rcases Nat.lt_or_ge d n with h|h
  ·have h3:=aI ns (d:=d+1) (e:=n) h
   rw [JA] at h3
   rw [if_pos (by show _<KZ ns n;omega)]
   exact oM ns n d s h h2
  ·obtain rfl:d=n:=by omega
   have:(LC ns d).length=KZ ns d:=rfl
   unfold gi at h2
   rw [if_neg (by omega),this,Nat.add_sub_cancel_left,List.getElem?_map,List.getElem?_range (by simpa [gi] using h2)]
   rfl
def VL (x:PN):List Value:=[.agg #[.int .i64 (x.d:Int),.int .i64 (x.s:Int)]]
def Fv (ns:List Nat):List (List Value):=(List.range (KZ ns ns.length)).map fun k=>VL (gi (LC ns ns.length) k)
theorem Us (ns:List Nat):(Fv ns).length=KZ ns ns.length:=by simp [Fv]
theorem jG (ns:List Nat) {d s:Nat} (hd:d<ns.length) (hs:s<gi ns d) (h:KZ ns d+s<(Fv ns).length):(Fv ns)[KZ ns d+s]=VL ⟨d,s⟩:=by
 simp only [Fv,List.getElem_map,List.getElem_range]
 rw [oM ns _ d s hd hs]
theorem a3r (ns:List Nat) {d s:Nat} (hd:d<ns.length) (hs:s<gi ns d):KZ ns d+s<(Fv ns).length:=by
 have h3:=aI ns (d:=d+1) (e:=ns.length) hd
 rw [JA] at h3
 rw [Us];omega
def UC (vs:List Value) (off:Nat):Nat→Option (List Nat)
 |0=>some []
 |n+1=>match UC vs off n with
  |some l=>match vs[off+n*5]?,vs[off+n*5+1]?,vs[off+n*5+2]?,vs[off+n*5+3]?,vs[off+n*5+4]? with
   |some (.string _),some (.bool _),some (.int .i64 _),some (.int .i64 _),some (.slice _ k _)=>if k<1000000 then some (l++[k]) else none
   |_,_,_,_,_=>none
  |none=>none
theorem L9 {vs:List Value} {off:Nat}:∀ {n:Nat} {l:List Nat},UC vs off n=some l→l.length=n∧∀ d,d<n→∃ x0 x1 x2 x3 a c,vs[off+d*5]?=some (.string x0)∧vs[off+d*5+1]?=some (.bool x1)∧vs[off+d*5+2]?=some (.int .i64 x2)∧vs[off+d*5+3]?=some (.int .i64 x3)∧vs[off+d*5+4]?=some (.slice a (gi l d) c)∧gi l d<1000000
 |0,l,h=>by cases h;exact ⟨rfl,fun d hd=>by omega⟩
 |n+1,l,h=>by
  unfold UC at h
  split at h
  case h_2=>cases h
  rename_i l0 h0
  split at h
  case h_2=>cases h
  rename_i x0 x1 x2 x3 a k c y0 y1 y2 y3 h1
  split at h
  case isFalse=>cases h
  rename_i hk
  cases h
  obtain ⟨i1,i2⟩:=L9 h0
  refine ⟨by simp [i1],fun d hd=>?_⟩
  rcases Nat.lt_or_ge d n with h|h
  ·obtain ⟨z0,z1,z2,z3,a',c',h20,h21,h22,h23,h2⟩:=i2 d h
   refine ⟨z0,z1,z2,z3,a',c',h20,h21,h22,h23,?_⟩
   have:gi (l0++[k]) d=gi l0 d:=by unfold gi;rw [List.getElem?_append_left (by omega)]
   rw [this];exact h2
  ·obtain rfl:d=n:=by omega
   refine ⟨x0,x1,x2,x3,a,c,y0,y1,y2,y3,?_⟩
   have:gi (l0++[k]) d=k:=by unfold gi;rw [← i1];simp
   rw [this];exact ⟨h1,hk⟩
def PU (sl:Value) (ns:List Nat):Value:=.tuple #[sl,.agg (ns.map fun k:Nat=>Value.int .i64 (k:Int)).toArray]
theorem kY {a b:Value} {x y:List Nat} (h:PU a x=PU b y):a=b∧x=y:=by
 unfold PU at h
 simp only [Value.tuple.injEq,Array.mk.injEq,List.cons.injEq,Value.agg.injEq,and_true] at h
 refine ⟨h.1,?_⟩
 have h2:=h.2
 refine List.ext_getElem? fun i=>?_
 have h3:=congrArg (fun l:List Value=>l[i]?) h2
 simp only [List.getElem?_map] at h3
 cases hx:x[i]?<;>cases hy:y[i]?<;>rw [hx,hy] at h3<;>simp at h3
 congr 1;omega
def Ry:SqF:=fun lb m=>match lb with
 |[.pointer (some ⟨b,0,none⟩)]=>match m.get b with
  | .cells [_,_,.slice (some ⟨c,off,none⟩) n g,_] _ 0 false=>match m.get c with
   | .cells vs _ g' _=>if 0<n∧n<1000000∧g'=g then (UC vs off n).map fun ns=>(PU (.slice (some ⟨c,off,none⟩) n g) ns,Fv ns) else none
   |_=>none
  |_=>none
 |_=>none
theorem V9 {lb:List Value} {m:Mem} {key:Value} {rows:List (List Value)} (h:Ry lb m=some (key,rows)):∃ b x y c off n g z e vs e' ro ns,lb=[.pointer (some ⟨b,0,none⟩)]∧m.get b=.cells [x,y,.slice (some ⟨c,off,none⟩) n g,z] e 0 false ∧
 m.get c=.cells vs e' g ro∧0<n∧n<1000000∧UC vs off n=some ns∧key=PU (.slice (some ⟨c,off,none⟩) n g) ns∧rows=Fv ns:=by
 unfold Ry at h
 split at h
 case h_2=>cases h
 rename_i b
 split at h
 case h_2=>cases h
 rename_i x y c off n g z e hb
 split at h
 case h_2=>cases h
 rename_i vs e' g' ro hc
 split at h
 case isFalse=>cases h
 rename_i hn
 obtain ⟨hn,hn9,rfl⟩:=hn
 rw [Option.map_eq_some_iff] at h
 obtain ⟨ns,h1,h2⟩:=h
 cases h2
 exact ⟨b,x,y,c,off,n,g',z,e,vs,e',ro,ns,rfl,hb,hc,hn,hn9,h1,rfl,rfl⟩
end Go.Tra
namespace Go.Proofs.YtdabojnmoejilaaGreatDoor
open Go Go.Am Go.Vm Go.Tra Go.RowKit
structure a7p (B O n c1 o1:Nat) (ns:List Nat) (X:World):Prop where
 box:∃ cap,X.cell? ⟨c1,o1+2,none⟩=some (.slice (some ⟨B,O,none⟩) n cap)
 div:∀ d,d<n→∃ v0 v1 v2 v3 a c,X.cell? ⟨B,O+d*5,none⟩=some (.string v0)∧X.cell? ⟨B,O+d*5+1,none⟩=some (.bool v1)∧X.cell? ⟨B,O+d*5+2,none⟩=some (.int .i64 v2)∧X.cell? ⟨B,O+d*5+3,none⟩=some (.int .i64 v3)∧X.cell? ⟨B,O+d*5+4,none⟩=some (.slice a (gi ns d) c)
abbrev wS (lb:List Value) (key:Value) (rows:List (List Value)) (ι:Cj) (g:Nat→Nat) (lb':Array Value):World→Prop:=Xd Tryz.prog (BM Tryz.prog 8 EJ) (fun m'=>Ry lb m'=some (key,rows)∧∀ k∈BM Tryz.prog 8 EJ,m'.get k=(CX Tryz.prog 8 EJ).get k) ι g lb lb'
theorem nD {G:List Nat} {ι:Cj} {m:Mem} {w:World} {b:Nat} {p':Value} {vs:List Value} {e:TypeId} (hs:En Tryz.prog G ι m w) (h:Bf ι m.gen (.pointer (some ⟨b,0,none⟩)) p') (hm:m.get b=.cells vs e 0 false) :
 ∃ c o,p'=.pointer (some ⟨c,o,none⟩)∧∀ i,i<vs.length→∃ v',w.cell? ⟨c,o+i,none⟩=some v'∧Bf ι m.gen (vs.getD i undef) v':=by
 cases h with
 |ptr a a' h =>
  obtain ⟨ib,h1,h2,h3⟩:=h
  obtain ⟨cs,fr,e',q1,q2,q3,q4,q5⟩:=J6 hs h1 hm
  have e1:=h3 (by simp [Mem.gen,hm,He.gen,Ju])
  refine ⟨ib.blk,ib.sh,by rw [e1];simp,fun i hi=>?_⟩
  obtain ⟨v',r1,r2⟩:=q4 i hi
  exact ⟨v',by rw [Am.cell_of_row q1];exact r1,r2⟩
theorem qO {ι:Cj} {g:Nat→Nat} {c off n gen:Nat} {v':Value} {ib:IB} (h:Bf ι g (.slice (some ⟨c,off,none⟩) n gen) v') (hn:0<n) (hg:gen=g c) (hi:ι c=some ib):∃ cap,v'=.slice (some ⟨ib.blk,off+ib.sh,none⟩) n cap:=by
 cases h with
 |sl _ _ _ _ a' cap hsr =>
  obtain ⟨ib',h1,h2,h3⟩:=G8 hsr (fun _=>hn) 0
  rw [hi] at h1
  cases h1
  have:=h3 (by simpa [Ju] using hg)
  rw [Addr.add_zero'] at this
  refine ⟨cap,?_⟩
  rw [this]
  simp
theorem zH {G:List Nat} {ι:Cj} {m:Mem} {w:World} {c off n g:Nat} {vs:List Value} {e:TypeId} {ro:Bool} {ib:IB} {ns:List Nat} (hs:En Tryz.prog G ι m w) (hi:ι c=some ib) (hc:m.get c=.cells vs e g ro) (hd:UC vs off n=some ns) {d:Nat} (hlt:d<n) :
 ∃ v0 v1 v2 v3 a k,w.cell? ⟨ib.blk,off+ib.sh+d*5,none⟩=some (.string v0)∧w.cell? ⟨ib.blk,off+ib.sh+d*5+1,none⟩=some (.bool v1)∧w.cell? ⟨ib.blk,off+ib.sh+d*5+2,none⟩=some (.int .i64 v2)∧w.cell? ⟨ib.blk,off+ib.sh+d*5+3,none⟩=some (.int .i64 v3)∧w.cell? ⟨ib.blk,off+ib.sh+d*5+4,none⟩=some (.slice a (gi ns d) k):=by
 obtain ⟨cs,fr,e',q1,q2,q3,q4,q5⟩:=J6 hs hi hc
 obtain ⟨x0,x1,x2,x3,a,k,y0,y1,y2,y3,hv,_⟩:=(L9 hd).2 d hlt
 have hl:off+d*5+4<vs.length:=by
  rcases Nat.lt_or_ge (off+d*5+4) vs.length with h|h
  ·exact h
  ·rw [List.getElem?_eq_none h] at hv;cases hv
 have cell:∀ j,j≤4→∃ v',w.cell? ⟨ib.blk,off+ib.sh+d*5+j,none⟩=some v'∧Bf ι m.gen (vs.getD (off+d*5+j) undef) v':=fun j hj=>by
  obtain ⟨v',r1,r2⟩:=q4 (off+d*5+j) (by omega)
  refine ⟨v',?_,r2⟩
  rw [Am.cell_of_row q1,← r1]
  congr 1
  omega
 obtain ⟨v0,h0,r0⟩:=cell 0 (by omega)
 obtain ⟨v1,h1,r1⟩:=cell 1 (by omega)
 obtain ⟨v2,h2,r2⟩:=cell 2 (by omega)
 obtain ⟨v3,h3,r3⟩:=cell 3 (by omega)
 obtain ⟨v4,h4,r4⟩:=cell 4 (by omega)
 rw [List.getD_eq_getElem?_getD,Nat.add_zero,y0,Option.getD_some] at r0
 rw [List.getD_eq_getElem?_getD,y1,Option.getD_some] at r1
 rw [List.getD_eq_getElem?_getD,y2,Option.getD_some] at r2
 rw [List.getD_eq_getElem?_getD,y3,Option.getD_some] at r3
 rw [List.getD_eq_getElem?_getD,hv,Option.getD_some] at r4
 cases r0;cases r1;cases r2;cases r3
 have:∃ a' k',v4=.slice a' (gi ns d) k':=by
  generalize gi ns d=q at *
  cases r4<;>exact ⟨_,_,rfl⟩
 obtain ⟨a',k',rfl⟩:=this
 exact ⟨x0,x1,x2,x3,a',k',h0,h1,h2,h3,h4⟩
theorem qG {lb:List Value} {m:Mem} {key:Value} {rows:List (List Value)} (hq:Ry lb m=some (key,rows)) {ι:Cj} {w:World} {lb':Array Value} (Ee:En Tryz.prog (BM Tryz.prog 8 EJ) ι m w) (hl:BN ι m.gen lb lb'.toList) :
 ∃ B O n c1 o1 ns,0<n∧n<1000000∧(∀ d,d<n→gi ns d<1000000)∧ns.length=n∧rows=Fv ns∧lb'=#[.pointer (some ⟨c1,o1,none⟩)]∧∀ X,wS lb key rows ι m.gen lb' X→a7p B O n c1 o1 ns X:=by
 obtain ⟨b,x,y,c,off,n,g,z,e,vs,e',ro,ns,rfl,hb,hc,hn,hn9,hns,rfl,rfl⟩:=V9 hq
 obtain ⟨lb'⟩:=lb'
 obtain ⟨p1,k1,rfl,r1,hl2⟩:=hl.Me
 have hk:k1=[]:=List.length_eq_zero_iff.1 hl2.1.symm
 subst hk
 obtain ⟨c1,o1,rfl,hcell⟩:=nD Ee r1 hb
 have hg:g=m.gen c:=by simp [Mem.gen,hc,He.gen]
 obtain ⟨v2,_,h2⟩:=hcell 2 (by simp)
 have hib:∃ ib,ι c=some ib:=by
  simp only [List.getD_cons_succ,List.getD_cons_zero] at h2
  cases h2 with
  |sl _ _ _ _ a' cap hsr =>
   obtain ⟨ib,h1,_⟩:=hsr
   exact ⟨ib,h1⟩
 obtain ⟨ib,hib⟩:=hib
 refine ⟨ib.blk,off+ib.sh,n,c1,o1,ns,hn,hn9,fun d hd=>by obtain ⟨_,_,_,_,_,_,_,_,_,_,_,h⟩:=(L9 hns).2 d hd;exact h,(L9 hns).1,rfl,rfl,?_⟩
 rintro X ⟨ι',m',g1,g2,⟨g3,g4⟩,g5⟩
 obtain ⟨b',x',y',c',off',n',g',z',e1',vs',e2',ro',ns',q0,qb,qc,qn,qn9,qns,qk,qr⟩:=V9 g3
 cases q0
 obtain ⟨k1,rfl⟩:=kY qk
 cases k1
 obtain ⟨_,ib',i1,i2⟩:=g5 c ib hib
 have:ib'=ib:=i2 (by rw [← hg];simp [Mem.gen,qc,He.gen])
 subst this
 obtain ⟨p1',k1',x1,x2,_⟩:=g2.Me
 cases x1
 obtain ⟨c1',o1',z1,z2⟩:=nD g1 x2 qb
 cases z1
 refine ⟨?_,fun d hd=>zH g1 i1 qc qns hd⟩
 obtain ⟨v',w1,w2⟩:=z2 2 (by simp)
 simp only [List.getD_cons_succ,List.getD_cons_zero] at w2
 obtain ⟨cap,rfl⟩:=qO w2 hn (by simp [Mem.gen,qc,He.gen]) i1
 exact ⟨cap,w1⟩
attribute [local go_sem] Oper.semAt_some
def ivS:Value→Int| .int _ q=>q|_=>0
theorem jv (lb:List Value) (m:Mem) (key:Value) (rows:List (List Value)) (hq:Ry lb m=some (key,rows)) (hg:∀ k∈BM Tryz.prog 8 EJ,m.get k=(CX Tryz.prog 8 EJ).get k) (ι:Cj) (w:World) (lb':Array Value) (Ee:En Tryz.prog (BM Tryz.prog 8 EJ) ι m w) (hl:BN ι m.gen lb lb'.toList) :
 XL Tryz.prog 81 lb' rows (wS lb key rows ι m.gen lb') w:=by
 obtain ⟨B,O,n,c1,o1,ns,hn,hn9,a9e,hlen,rfl,rfl,facts⟩:=qG hq Ee hl
 have later:∀ X Y,wS lb key (Fv ns) ι m.gen #[.pointer (some ⟨c1,o1,none⟩)] X→Below X.heap.size X Y→wS lb key (Fv ns) ι m.gen #[.pointer (some ⟨c1,o1,none⟩)] Y:=by
  rintro X Y ⟨ι',m',g1,g2,g3⟩ hb
  exact ⟨ι',m',Sm g1 hb,g2,g3⟩
 generalize wS lb key (Fv ns) ι m.gen #[.pointer (some ⟨c1,o1,none⟩)]=SI at *
 intro l J Jx W hB hJ hx hY hI hj
 refine callsIn_of_wp Tryz.func81 rfl trivial ?_ rfl
 simp only [Tryz.ntmps81,List.size_toArray,List.length_cons,List.length_nil,Nat.reduceAdd,Nat.reduceSub,Array.replicate_succ,Array.replicate_zero,List.push_toArray,List.append_toArray,List.nil_append,List.cons_append]
 obtain ⟨⟨cap,hbox⟩,hdiv⟩:=facts W hI
 gi_wp2
 gi_loopw [9] (fun v wr=>∃ d:Nat,d≤n∧v=.int .i64 (d:Int)∧J (KZ ns d) wr∧SI wr) (fun v _=>(n-ivS v).toNat)
 case atStart=>exact ⟨0,Nat.zero_le _,by simp,hj,hI⟩
 case round =>
  obtain ⟨d,hd,rfl,hJd,hId⟩:=hrel
  obtain ⟨_,hdv⟩:=facts _ hId
  by_cases hlt:d<n
  ·obtain ⟨v0,v1,v2,v3,a,k,f0,f1,f2,f3,f4⟩:=hdv d hlt
   have hwd:IntKind.i64.wrap ((d:Int)+1)=((d+1:Nat):Int):=by rw [Zj (by omega) (by omega)];omega
   gi_wp2
   have hJ1:∀ o,J (KZ ns d) (wr.alloc o):=fun o=>hJ _ _ _ hJd ((Below.refl _ _).alloc (Nat.le_refl _) o)
   have hI1:∀ o,SI (wr.alloc o):=fun o=>later _ _ hId ((Below.refl _ _).alloc (Nat.le_refl _) o)
   gi_loopw [17] (fun v wr2=>∃ s:Nat,s≤gi ns d∧v=.int .i64 (s:Int)∧J (KZ ns d+s) wr2∧SI wr2) (fun v _=>(gi ns d-ivS v).toNat)
   case atStart=>exact ⟨0,Nat.zero_le _,by simp,hJ1 _,hI1 _⟩
   case round =>
    obtain ⟨s,hs,rfl,hJs,hIs⟩:=hrel
    have h9:=a9e d hlt
    by_cases hls:s<gi ns d
    ·have hws:IntKind.i64.wrap ((s:Int)+1)=((s+1:Nat):Int):=by rw [Zj (by omega) (by omega)];omega
     have hpl:=a3r ns (d:=d) (s:=s) (by omega) hls
     obtain ⟨fn,tmps,LQ,body,hy,hR⟩:=hY _ _ hpl hJs
     rw [jG ns (by omega) hls] at hy
     have hy:(Instr.yield l #[.agg #[.int .i64 (d:Int),.int .i64 (s:Int)]]).run Tryz.prog wr=.ok (.round l fn tmps LQ body) wr:=hy
     gi_wp2
     refine ⟨rfl,hR.mono ?_⟩
     rintro e W3 (⟨rfl,hJ3,hI3⟩|⟨rfl,hx3⟩)
     ·gi_wp2
      go_roundw
      case rel=>exact ⟨s+1,hls,by first|rfl|simp,hJ3,hI3⟩
      case measure=>simp [ivS];omega
     ·gi_wp2
      refine ⟨rfl,_,results_none rfl _ _ _,⟨_,rfl⟩,.inr ⟨_,hx3⟩⟩
    ·have hss:s=gi ns d:=by omega
     rw [hss,← JA] at hJs
     gi_wp2
     go_roundw
     case rel=>exact ⟨d+1,hlt,by first|rfl|simp,hJs,hIs⟩
     case measure=>simp [ivS];omega
  ·have hdd:d=n:=by omega
   gi_wp2
   go_end0
   exact ⟨⟨_,rfl⟩,.inl (by rw [Us,hlen,← hdd];exact hJd)⟩
end Go.Proofs.YtdabojnmoejilaaGreatDoor
namespace Go.Vm
open Go Go.Am
section
variable {P:Program} {G:List Nat}
def MN (e:TypeId) (xs:List Value) (m:Mem):Option (Value×Mem):=match xs with
 |[.slice none 0 0,.int .i64 n]=>if n=0 then some (.slice none 0 0,m) else XA e [.slice none 0 0,.int .i64 n] m
 |_=>none
def Xp (fg:FuncId) (e:TypeId) (O:CB):CB:=fun f=>if f=fg then some (MN e) else O f
theorem Lh {fg f:FuncId} {e:TypeId} {O:CB} (h:f≠fg):Xp fg e O f=O f:=if_neg h
theorem Yq {fg:FuncId} {e:TypeId} {O:CB}:Xp fg e O fg=some (MN e):=if_pos rfl
theorem Ur {e:TypeId} {xs:List Value} {m m':Mem} {v:Value} (h:MN e xs m=some (v,m')):(xs=[.slice none 0 0,.int .i64 0]∧v=.slice none 0 0∧m'=m)∨XA e xs m=some (v,m'):=by
 unfold MN at h
 split at h
 ·rename_i n
  split at h
  ·rename_i hn;subst hn;cases h;exact .inl ⟨rfl,rfl,rfl⟩
  ·exact .inr h
 ·cases h
theorem ZG {O:CB} {fg:FuncId} {e:TypeId} (hO:Hg P G (mV fg e O)) (hc:∀ w:World,Calls P fg #[.slice none 0 0,.int .i64 0] w fun r w'=>r=.returned (.slice none 0 0)∧w'=w):Hg P G (Xp fg e O):=by
 intro f Fo hf
 by_cases h:f=fg
 ·subst h
  rw [Yq] at hf
  cases hf
  obtain ⟨o1,o2,o3,o4⟩:=hO f _ fJ
  refine ⟨fun xs m v m' hv ι w as' hs hrel=>?_,fun xs m v m' hv=>?_,o3,YA.none fun n lb m=>rfl⟩
  ·rcases Ur hv with ⟨rfl,rfl,rfl⟩|hv
   ·obtain ⟨hlen,hat⟩:=hrel
    have hl2:as'.toList.length=2:=by simpa using hlen.symm
    have e0:as'=#[.slice none 0 0,.int .i64 0]:=by
     obtain ⟨l⟩:=as'
     match l,hl2 with
     |[a,b],_ =>
      have ha:=hat 0 (by simp)
      have hb:=hat 1 (by simp)
      simp only [List.getD_cons_zero,List.getD_cons_succ] at ha hb
      have hb':=hb.Cm (v:=.int .i64 0) rfl
      cases ha
      rw [hb']
    subst e0
    refine (hc w).mono ?_
    rintro r w' ⟨rfl,rfl⟩
    exact ⟨_,rfl,Post.same hs (Bf.plain rfl)⟩
   ·exact o1 xs m v m' hv ι w as' hs hrel
  ·rcases Ur hv with ⟨rfl,rfl,rfl⟩|hv
   ·exact Bl.refl _
   ·exact o2 xs m v m' hv
 ·rw [Lh h] at hf
  exact hO f Fo (by rw [gX h];exact hf)
end
end Go.Vm
namespace Go.Proofs.YtdabojnmoejilaaGreatDoor
open Go Go.Am Go.Vm Go.Tra
theorem a6c:Tryz.prog.follows .mixedOrders=true:=by kernel_rfl
theorem sF:lZ 8 EJ:=⟨⟨1,39,by kernel_rfl,by kernel_rfl,of_decide_eq_true (by kernel_rfl)⟩⟩
theorem iL:Am.Enters Tryz.prog 114:=⟨_,Tryz.func114,by kernel_rfl,by kernel_rfl⟩
theorem WC:Am.Enters Tryz.prog 118:=⟨_,Tryz.func118,by kernel_rfl,by kernel_rfl⟩
theorem iF:Am.Enters Tryz.prog 111:=⟨_,Tryz.func111,by kernel_rfl,by kernel_rfl⟩
def zL:List (FuncId×Xk):=[(114,nG),(118,QJ),(111,textF)]
theorem zn:Hg Tryz.prog (BM Tryz.prog 8 EJ) (ZJ (BM Tryz.prog 8 EJ) (CX Tryz.prog 8 EJ) zL):=lQ fun x hx=>by
 simp only [zL,List.mem_cons,List.not_mem_nil,or_false] at hx
 rcases hx with rfl|rfl|rfl
 ·exact lg sF iL
 ·exact X4 WC
 ·exact jX sF iF
def zx:Go.Shelf.Ren:=⟨fun|4=>121|n=>n,fun|0=>0|3=>3|4=>4|9=>9|20=>20|22=>52|25=>3|n=>n,fun|n=>n⟩
theorem oq:Go.Proofs.Lays8.n4 Tryz.prog zx:={
 mixed:=by kernel_rfl
 f4:=⟨"slices.Grow[[]int,int]",by decide,Tryz.func121.trans (congrArg some (by kernel_rfl))⟩
 t0:=Tryz.underlying0
 a0:=Tryz.isAgg0
 z0:=Tryz.sizeOf0
 v0:=Tryz.zeroValue0
 t3:=Tryz.underlying3
 a3:=Tryz.isAgg3
 z3:=Tryz.sizeOf3
 v3:=Tryz.zeroValue3
 t4:=Tryz.underlying4
 a4:=Tryz.isAgg4
 z4:=Tryz.sizeOf4
 v4:=Tryz.zeroValue4
 t9:=Tryz.underlying9
 a9:=Tryz.isAgg9
 z9:=Tryz.sizeOf9
 v9:=Tryz.zeroValue9
 t20:=Tryz.underlying20
 a20:=Tryz.isAgg20
 z20:=Tryz.sizeOf20
 v20:=Tryz.zeroValue20
 t22:=Tryz.underlying52
 a22:=Tryz.isAgg52
 z22:=Tryz.sizeOf52
 v22:=Tryz.zeroValue52 }
theorem qJ:(match Tryz.prog.info? 3 with|some i=>decide (i.size=1)&&decide (i.bytes=8)&&(match i.zero with|some (.int .i64 n)=>decide (n=0)|_=>false)|none=>false)=true:=by kernel_rfl
theorem vX:∃ i0,Tryz.prog.info? 3=some i0∧i0.zero=some (.int .i64 0)∧i0.size=1∧i0.bytes=8:=by
 have h:=qJ
 generalize Tryz.prog.info? 3=o at *
 cases o with
 |none=>cases h
 |some i =>
  simp only [Bool.and_eq_true,decide_eq_true_eq] at h
  obtain ⟨⟨h1,h2⟩,h3⟩:=h
  refine ⟨i,rfl,?_,h1,h2⟩
  split at h3
  ·rename_i n hz
   rw [hz,of_decide_eq_true h3]
  ·cases h3
theorem jQ (n:Nat) (w:World) (h0:0<n) (hn:n≤1000000):Calls Tryz.prog 121 #[.slice none 0 0,.int .i64 n] w fun r w'=>∃ cap cs,r=.returned (.slice (some ⟨w.heap.size,0,none⟩) 0 cap)∧w'.heap=w.heap.push (.cells cs 3 (0,0))∧w'.tape=w.tape∧w'.os=w.os∧w'.output=w.output∧cap*Tryz.prog.cellsOf 3≤cs.size:=by
 obtain ⟨i0,h1,h2,h3,h4⟩:=vX
 refine (Any8.slices_Grow_grow oq i0 (.int .i64 0) h1 h2 (by omega) none 0 0 n [] w (Nat.le_refl _) (by omega) (by rw [h4];omega) (by omega) (by simp) (fun _=>rfl) (fun a ha=>by cases ha)).mono ?_
 rintro r w' ⟨rfl,rfl⟩
 refine ⟨_,_,rfl,rfl,rfl,rfl,rfl,?_⟩
 rw [EK h1,h3]
 have e:(Value.int .i64 0).cells.size=1:=rfl
 simp only [Array.size_append,J8,e]
 omega
theorem fV:Am.Enters Tryz.prog 121:=⟨_,Tryz.func121,by kernel_rfl,by kernel_rfl⟩
noncomputable def wV:CB:=Xp 121 3 (ZJ (BM Tryz.prog 8 EJ) (CX Tryz.prog 8 EJ) zL)
theorem yZ:Hg Tryz.prog (BM Tryz.prog 8 EJ) wV:=ZG (cO zn fV jQ) fun w=>Any8.slices_Grow_room oq none 0 0 0 w (Nat.le_refl _) (by omega) (by omega) (by omega)
theorem XV:Am.Enters Tryz.prog 81:=⟨_,Tryz.func81,by kernel_rfl,by kernel_rfl⟩
theorem pX:∀ fn,Tryz.prog.funcs[81]?=some fn→fn.ntmps=28:=fun fn h=>by
 rw [Tryz.func81] at h
 cases h
 exact Tryz.ntmps81
noncomputable def iP:CB:=yI (BM Tryz.prog 8 EJ) (CX Tryz.prog 8 EJ) 81 28 Ry wV
theorem a2h:Hg Tryz.prog (BM Tryz.prog 8 EJ) iP:=jA yZ XV pX jv
noncomputable abbrev env:Env:=Jr Tryz.prog 8 EJ iP
theorem QD {f:FuncId} (h:f≠81):iP f=wV f:=nH h
theorem UJ:iP 81=some (Ug (BM Tryz.prog 8 EJ) (CX Tryz.prog 8 EJ) 28 Ry):=by unfold iP;exact ou
theorem AB {f:FuncId} (h:f∉81::121::zL.map (·.1)):env.O f=none:=by
 show iP f=none
 rw [QD (fun e=>h (by rw [e];simp))]
 show Xp _ _ _ f=none
 rw [Lh (fun e=>h (by rw [e];simp))]
 refine qP ?_
 rw [List.lookup_eq_none_iff]
 intro p hp
 by_cases e:f=p.1
 ·exact absurd (List.mem_cons_of_mem _ (List.mem_cons_of_mem _ (List.mem_map.2 ⟨p,hp,e.symm⟩))) h
 ·simpa using e
theorem tZ (n:Int) (h:-9223372036854775808≤n∧n≤9223372036854775807):AY env 114 [.int .i64 n] (st (Lib.itoa n)) :=
 VX ((QD (by decide)).trans (Lh (by decide))) rfl fun m F xs h1=>by
  cases h1 with
  |cons h1 t =>
   cases t;cases h1
   exact ⟨_,by simp only [nG];rw [if_pos h],.str _⟩
theorem UK (a b:List UInt8):AY env 118 [.str (bs a),.str (bs b)] (.p (.int .i64 (Lib.compareBytes a b))) :=
 VX ((QD (by decide)).trans (Lh (by decide))) rfl fun m F xs h1=>by
  cases h1 with
  |cons h1 t =>
   cases t with
   |cons h2 t =>
    cases t;cases h1;cases h2
    exact ⟨.int .i64 (Lib.compareBytes a b),by simp only [QJ,Zz],.int _ _⟩
theorem bH (l:List Nat) (hl:Num.XQ l) (hn:l.length<1000000000):AY env 111 [.lst 39 (cells l) l.length] (st (Num.Nb l)) :=
 VX ((QD (by decide)).trans (Lh (by decide))) rfl fun m F xs h1=>rM hl hn h1
theorem YO:iP 121=some (MN 3):=(QD (by decide)).trans Yq
theorem vG (n:Nat) (h0:0<n) (hn:n≤1000000):CJ env 121 [.val (.slice none 0 0),.int .i64 (n:Int)] 3 [] 0 false:=by
 intro m F σ xs h1 h2
 have h2':DN m F [.val (.slice none 0 0),.int .i64 (n:Int)] xs:=DN.VR h2
 have e:xs=[.slice none 0 0,.int .i64 (n:Int)]:=by
  cases h2' with
  |cons a t =>
   cases t with
   |cons b t =>
    cases t
    cases a
    cases b
    rfl
 subst e
 obtain ⟨c1,c2,c3,c4⟩:=OJ (e:=3) (cs:=[]) (vs:=[]) 0 h1 .nil rfl
 refine Jc.jU (F:=MN 3) (m':=(BK m 3 [] 0).2) (v:=(BK m 3 [] 0).1) YO ?_ ⟨_,_,_,F,_,⟨rfl,rfl,rfl⟩,c1,c4,c2⟩
 simp only [MN,XA]
 rw [if_neg (by omega),if_pos (by omega)]
theorem qg:AY env 121 [.val (.slice none 0 0),.int .i64 0] (.p (.val (.slice none 0 0))):=by
 intro m F σ xs h1 h2
 have h2':DN m F [.val (.slice none 0 0),.int .i64 0] xs:=DN.VR h2
 have e:xs=[.slice none 0 0,.int .i64 0]:=by
  cases h2' with
  |cons a t =>
   cases t with
   |cons b t =>
    cases t
    cases a
    cases b
    rfl
 subst e
 exact Jc.jU (F:=MN 3) (m':=m) (v:=.slice none 0 0) YO (by simp only [MN];rfl) ⟨_,[],0,F,σ,⟨rfl,rfl,rfl⟩,h1,.p (.val rfl),Step.refl _ _ _ _ _⟩
end Go.Proofs.YtdabojnmoejilaaGreatDoor
namespace Go.Proofs.YtdabojnmoejilaaGreatDoor
open Go Go.Am Go.Vm
attribute [local irreducible] Aa Ag Ap Ad BA AY CJ AO AL Aw Vm.Done Dc Bq
theorem Zc (l:List Nat) (hl:l.length<1000000):AY env 131 [.lst 39 (cells l) l.length] (lst 39 (Num.J7 l)):=by
 refine AY.enter (AB (by decide)) Tryz.func131 rfl (by kernel_rfl) (by simp [Tryz.ntmps131]) ?_
 repeat' (first|apply Ad.AA|apply Ad.Ai|apply Ag.nil|apply Ag.one|(apply Aa.assign;rfl))
 refine Ad.Eb (fun a:List Nat=>[(0,lst 39 a)]) (fun _=>[]) 0 (fun a=>a.length≤l.length∧Num.J7 a=Num.J7 l) (fun a=>a.length) l (Nat.le_refl _) ⟨by omega,rfl⟩ ⟨Nat.le_refl _,?_,trivial⟩ ?_
 ·repeat (first|exact Ae.nil|refine Ae.same trivial rfl ?_|refine Ae.same (Ac rfl) rfl ?_|refine Ae.same ⟨trivial,Ac rfl,Ac rfl,Ac rfl,trivial⟩ rfl ?_|refine Ae.same ⟨trivial,Ac rfl,Ac rfl,trivial⟩ rfl ?_|refine Ae.same ⟨trivial,trivial⟩ rfl ?_|refine Ae.cons trivial rfl (.of_eq (Ar (by simp<;>omega))) ?_)
 rintro a ⟨ha,hr⟩
 have hlast:0<a.length→a=a.take (a.length-1)++[gi a (a.length-1)]:=fun h=>by
  conv=>lhs;rw [← List.take_append_drop (a.length-1) a]
  congr 1
  rw [List.drop_eq_getElem_cons (by omega),List.drop_eq_nil_of_le (by omega)]
  simp [gi,List.getElem?_eq_getElem (show a.length-1<a.length by omega)]
 repeat' (first|apply Ad.assoc|apply Ad.AA|apply Ad.region|apply Ad.Aq|apply Ad.AZ|apply AO.normal|apply AL.normal|apply AL.exit|apply Aw.exit|apply Ad.ret|apply Ad.II|apply Ag.nil|apply Ag.one|(apply Ag.take;rfl;rfl)|(apply Ag.drop;rfl;rfl;rfl)|(apply Ag.guard;rfl;rfl)|(apply Aa.assign;rfl)|(apply Aa.move;rfl)|(apply Aa.IC;rfl;rfl;omega)|(apply Aa.int;rfl;rfl;rfl)|(apply Aa.sG;rfl;rfl;rfl;omega;omega;rfl)|(apply Aa.load;rfl;rfl)|(apply Aa.BH;rfl;rfl)|(apply Aa.AV;rfl;rfl)|(apply Aa.BI;rfl;rfl)|(apply Aa.uD;rfl;rfl;rfl;rfl;rfl;rfl;omega)|(apply Ad.Au;rfl)|(apply Ad.Af;rfl)|(intro _;try (exfalso;omega)))
 ·rename_i h1 h2
  have e1:((a.length:Int)-1).toNat=a.length-1:=by omega
  have hz:gi a (a.length-1)=0:=by omega
  refine Aw.normal ⟨a.take (a.length-1),⟨by simp;omega,?_⟩,by simp;omega,⟨Nat.le_refl _,?_,trivial⟩⟩
  ·have:=hlast (by omega)
   rw [hz] at this
   rw [← hr]
   conv=>rhs;rw [this]
   rw [Num.Sj]
  ·rw [e1];repeat (first|exact Ae.nil|refine Ae.same trivial rfl ?_|refine Ae.same (Ac rfl) rfl ?_|refine Ae.same ⟨trivial,Ac rfl,Ac rfl,Ac rfl,trivial⟩ rfl ?_|refine Ae.same ⟨trivial,Ac rfl,Ac rfl,trivial⟩ rfl ?_|refine Ae.same ⟨trivial,trivial⟩ rfl ?_|refine Ae.cons trivial rfl (.of_eq (Ar (by simp<;>omega))) ?_)
 ·rename_i h1 h2
  refine Done.ret rfl (.refl _) (by first|exact trivial|exact ⟨trivial,trivial,trivial⟩|exact ⟨trivial,trivial,trivial,trivial⟩) Aj.nil (Nat.zero_le _) (Nat.le_refl _) ⟨?_,rfl,rfl⟩
  have e:Num.J7 a=a:=by
   have:=hlast (by omega)
   conv=>lhs;rw [this]
   rw [Num.XO _ (by omega),← this]
  rw [← hr,e]
 ·rename_i h1
  refine Done.ret rfl (.refl _) (by first|exact trivial|exact ⟨trivial,trivial,trivial⟩|exact ⟨trivial,trivial,trivial,trivial⟩) Aj.nil (Nat.zero_le _) (Nat.le_refl _) ⟨?_,rfl,rfl⟩
  have:a=[]:=List.eq_nil_of_length_eq_zero (by omega)
  rw [← hr,this]
  rfl
theorem Qa (m n:List Nat) (hm:Num.XQ m) (hn:Num.XQ n) (hml:m.length<400000) (hnl:n.length<400000) :
 AY env 112 [.lst 39 (cells m) m.length,.lst 39 (cells n) n.length] (lst 39 (Num.OW (Num.val m*Num.val n))):=by
 refine AY.enter (AB (by decide)) Tryz.func112 rfl (by kernel_rfl) (by simp [Tryz.ntmps112]) ?_
 obtain ⟨T,hT⟩:∃ T,T=m.length+n.length+1:=⟨_,rfl⟩
 repeat' (first|apply Ad.assoc|apply Ad.AA|apply Ad.Ai|apply Ag.nil|apply Ag.one|(apply Aa.Es T (0:Nat);rfl;rfl;rfl;rfl;rfl;omega;omega;omega;decide;decide;rfl)|(apply Aa.assign;rfl)|(apply Aa.move;rfl)|(apply Aa.Bv;rfl;rfl;omega)|(apply Aa.BI;rfl;rfl))
 refine Ad.Eb (fun a:Nat×List Nat=>[(0,lst 39 m),(1,lst 39 n),(5,.vec 0 T 0 T),(19,lst 39 m),(20,.p (.int .i64 m.length)),(21,.p (.int .i64 (a.1:Int)))]) (fun a=>[(0,.vec 39 (cells a.2) T false)]) 1
  (fun a=>a.1≤m.length∧a.2.length=T∧Num.XQ a.2∧Num.val a.2=Num.val (m.take a.1)*Num.val n∧∀ j,a.1+n.length≤j→gi a.2 j=0) (fun a=>m.length-a.1) (0,List.replicate T 0) (by omega)
  ⟨by simp,by simp,Num.XU _,by simp [Num.Yb,Num.val],fun j _=>Num.LV _ _⟩ ⟨Nat.le_refl _,?_,?_⟩ ?_
 ·repeat (first|exact Ae.nil|refine Ae.same trivial rfl ?_|refine Ae.same (Ac rfl) rfl ?_|refine Ae.same ⟨trivial,Ac rfl,Ac rfl,Ac rfl,trivial⟩ rfl ?_|refine Ae.same ⟨trivial,Ac rfl,Ac rfl,trivial⟩ rfl ?_|refine Ae.same ⟨trivial,trivial⟩ rfl ?_|refine Ae.cons trivial rfl (.of_eq (Ar (by simp<;>omega))) ?_)
 ·repeat (first|exact Aj.nil|(refine Aj.cons (Ac rfl) ?_ rfl ?_ ?_;(first|exact trivial|exact AQ.Ah _ _|(simp [HB.under,AQ.under,PV.under]));(first|exact Bj.refl _|exact Bj.vec (Bh.refl _) (by simp))))
 rintro ⟨i,out⟩ ⟨hi,hol,hlim,hval,hzero⟩
 simp only at hi hol hlim hval hzero
 dsimp only
 by_cases hlt:i<m.length
 ·have ha:=Num.lD hm i
  repeat' (first|apply Ad.assoc|apply Ad.AA|apply Ad.Aq|apply Ad.Ai|apply Ag.nil|apply Ag.one|(apply Aa.assign;rfl)|(apply Aa.move;rfl)|(apply Aa.int;rfl;rfl;rfl)|(apply Aa.AP;rfl;rfl;rfl;omega;rfl)|(apply Aa.load;rfl;rfl)|(apply Aa.BI;rfl;rfl)|(apply Ad.Af;rfl)|(intro _;try (exfalso;omega)))
  refine Ad.Eb (fun a:Nat×Nat×List Nat=>[(0,lst 39 m),(1,lst 39 n),(5,.vec 0 T 0 T),(6,.p (.int .i64 (i:Int))),(7,.p (.int .u64 ((gi m i:Nat):Int))),(8,.p (.int .u64 (a.2.1:Int))),(19,lst 39 m),(20,.p (.int .i64 m.length)),(21,.p (.int .i64 (i:Int))),(26,lst 39 n),(27,.p (.int .i64 n.length)),(28,.p (.int .i64 (a.1:Int)))]) (fun a=>[(0,.vec 39 (cells a.2.2) T false)]) 1
   (fun a=>a.1≤n.length∧a.2.1<1000000000∧a.2.2.length=T∧Num.XQ a.2.2∧Num.val a.2.2+a.2.1*Num.B9 ^ (i+a.1)=Num.val out+gi m i*Num.B9 ^ i*Num.val (n.take a.1)∧∀ j,i+n.length≤j→gi a.2.2 j=0) (fun a=>n.length-a.1) (0,0,out) (by omega)
   ⟨by simp,by simp,hol,hlim,by simp [Num.val],hzero⟩ ⟨Nat.le_refl _,?_,?_⟩ ?_
  ·repeat (first|exact Ae.nil|refine Ae.same trivial rfl ?_|refine Ae.same (Ac rfl) rfl ?_|refine Ae.same ⟨trivial,Ac rfl,Ac rfl,Ac rfl,trivial⟩ rfl ?_|refine Ae.same ⟨trivial,Ac rfl,Ac rfl,trivial⟩ rfl ?_|refine Ae.same ⟨trivial,trivial⟩ rfl ?_|refine Ae.cons trivial rfl (.of_eq (Ar (by simp<;>omega))) ?_)
  ·repeat (first|exact Aj.nil|(refine Aj.cons (Ac rfl) ?_ rfl ?_ ?_;(first|exact trivial|exact AQ.Ah _ _|(simp [HB.under,AQ.under,PV.under]));(first|exact Bj.refl _|exact Bj.vec (Bh.refl _) (by simp))))
  rintro ⟨k,carry,o⟩ ⟨hk,hc,hol',hlim',hval',hzero'⟩
  simp only at hk hc hol' hlim' hval' hzero'
  dsimp only
  by_cases hlk:k<n.length
  ·have hb:=Num.lD hn k
   have ho:=Num.lD hlim' (i+k)
   have hab:gi m i*gi n k≤999999999*999999999:=Nat.mul_le_mul (by omega) (by omega)
   repeat' (first|apply Ad.AA|apply Ad.region|apply Ad.Aq|apply Ad.Ai|apply AO.normal|apply AL.normal|apply Ag.nil|apply Ag.one|(apply Aa.Ef (y:=(gi o (i+k)+gi m i*gi n k+carry) % 1000000000);rfl;rfl;rfl;trivial;(first|rfl|(refine congrArg (fun t=>[PV.p (FV.int _ t)]) ?_;first|omega|(simp only [Int.natCast_add,Int.natCast_mul,Int.natCast_ediv,Int.natCast_emod]<;>omega)));rfl;rfl;decide;(first|omega|(simp only [List.length_set]<;>omega)))|(apply Aa.assign;rfl)|(apply Aa.move;rfl)|(apply Aa.Bv;rfl;rfl;omega)|(apply Aa.sN;rfl;rfl;omega)|(apply Aa.a0r;rfl;rfl;omega)|(apply Aa.a5j;rfl;rfl;omega)|(apply Aa.a6k;rfl;rfl;omega)|(apply Aa.int;rfl;rfl;rfl)|(apply Aa.AP;rfl;rfl;rfl;omega;rfl)|(apply Aa.Dw;rfl;rfl;omega;rfl)|(apply Aa.load;rfl;rfl)|(apply Aa.Dn;rfl;rfl;rfl;rfl;omega)|(apply Ad.Af;rfl)|(intro _;try (exfalso;omega)))
   refine Aw.normal ⟨(k+1,(gi o (i+k)+gi m i*gi n k+carry) / 1000000000,o.set (i+k) ((gi o (i+k)+gi m i*gi n k+carry) % 1000000000)),⟨by simp only;omega,?_,by simp [hol'],?_,?_,?_⟩,by simp only;omega,⟨Nat.le_refl _,?_,?_⟩⟩
   ·simp only
    apply Nat.div_lt_of_lt_mul
    omega
   ·exact Num.oN hlim' (Nat.mod_lt _ (by decide))
   ·simp only
    rw [Num.Po n k hlk]
    exact Num.vw (by omega) hval'
   ·intro j hj
    simp only
    rw [Num.V3 _ _ _ _ (by omega),if_neg (by omega)]
    exact hzero' j hj
   ·repeat (first|exact Ae.nil|refine Ae.same trivial rfl ?_|refine Ae.same (Ac rfl) rfl ?_|refine Ae.same ⟨trivial,Ac rfl,Ac rfl,Ac rfl,trivial⟩ rfl ?_|refine Ae.same ⟨trivial,Ac rfl,Ac rfl,trivial⟩ rfl ?_|refine Ae.same ⟨trivial,trivial⟩ rfl ?_|refine Ae.cons trivial rfl (.of_eq (Ar (by simp<;>omega))) ?_)
   ·repeat (first|exact Aj.nil|(refine Aj.cons (Ac rfl) ?_ rfl ?_ ?_;(first|exact trivial|exact AQ.Ah _ _|(simp [HB.under,AQ.under,PV.under]));(first|exact Bj.refl _|exact Bj.vec (Bh.refl _) (by simp))))
  ·have hkn:k=n.length:=by omega
   subst hkn
   have hz:=hzero' (i+n.length) (by omega)
   repeat' (first|apply Ad.AA|apply Ad.region|apply Ad.AZ|apply AO.normal|apply AL.normal|apply AL.exit|apply Aw.exit|apply Ag.nil|apply Ag.one|(apply Aa.Ef (y:=gi o (i+n.length)+carry);rfl;rfl;rfl;trivial;(first|rfl|(refine congrArg (fun t=>[PV.p (FV.int _ t)]) ?_;first|omega|(simp only [Int.natCast_add,Int.natCast_mul,Int.natCast_ediv,Int.natCast_emod]<;>omega)));rfl;rfl;decide;(first|omega|(simp only [List.length_set]<;>omega)))|(apply Aa.move;rfl)|(apply Aa.Bv;rfl;rfl;omega)|(apply Aa.sN;rfl;rfl;omega)|(apply Aa.int;rfl;rfl;rfl)|(apply Aa.Dw;rfl;rfl;omega;rfl)|(apply Aa.BI;rfl;rfl)|(apply Aa.Dn;rfl;rfl;rfl;rfl;omega)|(apply Ad.Af;rfl)|(intro _;try (exfalso;omega)))
   refine Aw.normal ⟨(i+1,o.set (i+n.length) (gi o (i+n.length)+carry)),⟨by simp only;omega,by simp [hol'],?_,?_,?_⟩,by simp only;omega,⟨Nat.le_refl _,?_,?_⟩⟩
   ·refine Num.oN hlim' ?_
    rw [hz]
    simp only [Num.B9];omega
   ·simp only
    rw [Num.zk (by omega) hz hval',hval,List.take_length,Num.Po m i hlt,Nat.add_mul]
   ·intro j hj
    simp only at hj
    simp only
    rw [Num.V3 _ _ _ _ (by omega),if_neg (by omega)]
    exact hzero' j (by omega)
   ·repeat (first|exact Ae.nil|refine Ae.same trivial rfl ?_|refine Ae.same (Ac rfl) rfl ?_|refine Ae.same ⟨trivial,Ac rfl,Ac rfl,Ac rfl,trivial⟩ rfl ?_|refine Ae.same ⟨trivial,Ac rfl,Ac rfl,trivial⟩ rfl ?_|refine Ae.same ⟨trivial,trivial⟩ rfl ?_|refine Ae.cons trivial rfl (.of_eq (Ar (by simp<;>omega))) ?_)
   ·repeat (first|exact Aj.nil|(refine Aj.cons (Ac rfl) ?_ rfl ?_ ?_;(first|exact trivial|exact AQ.Ah _ _|(simp [HB.under,AQ.under,PV.under]));(first|exact Bj.refl _|exact Bj.vec (Bh.refl _) (by simp))))
 ·have him:i=m.length:=by omega
  subst him
  have htr:=Zc out (by omega)
  rw [hol] at htr
  repeat' (first|(refine Ad.at 14 ?_;refine Ad.ghost (Ba.freeze 5 rfl rfl) ?_;first|apply Ad.AA|apply Ad.BJ)|apply Ad.AA|apply Ad.AZ|apply AO.normal|apply AL.exit|apply Aw.exit|apply Ad.ret|apply Ag.nil|apply Ag.one|(apply Aa.fn;rfl;rfl;exact htr;intro _;rfl)|(apply Aa.assign;rfl)|(apply Aa.move;rfl)|(apply Aa.int;rfl;rfl;rfl)|(apply Ad.Af;rfl)|(intro _;try (exfalso;omega)))
  ·refine Done.ret rfl (.refl _) (by first|exact trivial|exact ⟨trivial,trivial,trivial⟩|exact ⟨trivial,trivial,trivial,trivial⟩) Aj.nil (Nat.zero_le _) (Nat.le_refl _) ⟨?_,rfl,rfl⟩
   rw [Num.dX hlim,hval,List.take_length]
end Go.Proofs.YtdabojnmoejilaaGreatDoor
namespace Go.Proofs.YtdabojnmoejilaaGreatDoor
open Go Go.Am Go.Vm
attribute [local irreducible] Aa Ag Ap Ad BA AY CJ AO AL Aw Vm.Done Dc Bq
theorem bD {l:List UInt8} {p:UInt8→Prop} (h:∀ c∈l,p c) (i:Nat) (hi:i<l.length):p (gi l i):=by
 simp only [gi,List.getElem?_eq_getElem hi,Option.getD_some];exact h _ (List.getElem_mem _)
theorem oQ (n:Nat) (hn:Lib.nDigits n<900000):AY env 125 [.str (bs (Lib.decDigits n))] (lst 39 (Num.OW n)):=by
 refine AY.enter (AB (by decide)) Tryz.func125 rfl (by kernel_rfl) (by simp [Tryz.ntmps125]) ?_
 obtain ⟨d,hd⟩:∃ d,d=Lib.decDigits n:=⟨_,rfl⟩
 obtain ⟨K,hK⟩:∃ K,K=Lib.nDigits n:=⟨_,rfl⟩
 have hdl:d.length=K:=by rw [hd,hK,Lib.decDigits_length]
 have hdD:d=Num.D K n:=by rw [hd,hK,Num.Eh]
 rw [← hd]
 repeat' (first|apply Ad.assoc|apply Ad.AA|apply Ad.Ai|apply Ag.nil|apply Ag.one|(apply Aa.assign;rfl)|(apply Aa.move;rfl)|(apply Aa.Kw;rfl;rfl))
 refine Ad.ghost (Ba.adopt 3 39 rfl) ?_
 refine Ad.Eb (fun k:Nat=>[(0,st d),(3,.vec 0 (Num.limbs n k).length 0 (Num.limbs n k).length),(4,.p (.int .i64 ((K:Int)-9*(k:Int))))]) (fun k=>[(0,.vec 39 (cells (Num.limbs n k)) (Num.limbs n k).length true)]) 1 (fun k=>9*k<K+9) (fun k=>K+9-9*k) 0 (by omega) (by omega) ⟨Nat.le_refl _,?_,?_⟩ ?_
 ·rw [← hdl];refine Ae.cons trivial rfl (.refl _) ?_;repeat (first|exact Ae.nil|refine Ae.same trivial rfl ?_|refine Ae.same (Ac rfl) rfl ?_|refine Ae.same ⟨trivial,Ac rfl,Ac rfl,Ac rfl,trivial⟩ rfl ?_|refine Ae.same ⟨trivial,Ac rfl,Ac rfl,trivial⟩ rfl ?_|refine Ae.same ⟨trivial,trivial⟩ rfl ?_|refine Ae.cons trivial rfl (.of_eq (Ar (by simp<;>omega))) ?_)
 ·exact Aj.cons (by decide) trivial rfl (.refl _) Aj.nil
 intro k hk
 have hll:=Num.LD n k
 by_cases hlt:9*k<K
 ·obtain ⟨e,he⟩:∃ e,e=K-9*k:=⟨_,rfl⟩
  obtain ⟨c,hc⟩:∃ c,c=min 9 e:=⟨_,rfl⟩
  obtain ⟨p,hp⟩:∃ p,p=Num.D c (n / 10 ^ (9*k)):=⟨_,rfl⟩
  have hpl:p.length=c:=by rw [hp,Num.Ed]
  have hpc:List.drop (max ((K:Int)-9*(k:Int)-9) 0).toNat (List.take ((K:Int)-9*(k:Int)).toNat d)=p:=by
   rw [show ((K:Int)-9*(k:Int)).toNat=e by omega,show (max ((K:Int)-9*(k:Int)-9) 0).toNat=e-c by omega,hdD,Num.gY K n e c (by omega) (by omega),hp]
   rw [show K-e=9*k by omega]
  have a2g:Num.parse p=Num.ak n k:=by
   rw [hp,Num.QG]
   unfold Num.ak
   rw [show Num.B9 ^ k=10 ^ (9*k) by rw [Nat.pow_mul]]
   by_cases h9:c=9
   ·rw [h9]
   ·have hlt2:n / 10 ^ (9*k)<10 ^ c:=by
     apply Nat.div_lt_of_lt_mul
     rw [← Nat.pow_add,show 9*k+c=K by omega,hK]
     exact Lib.lt_pow_nDigits n
    have hle:10 ^ c≤Num.B9:=by
     have:10 ^ c≤10 ^ 9:=Nat.pow_le_pow_right (by decide) (by omega)
     exact this
    rw [Nat.mod_eq_of_lt hlt2,Nat.mod_eq_of_lt (by omega)]
  have hdig:∀ i,i<p.length→48≤(gi p i).toNat∧(gi p i).toNat≤57:=fun i hi=>bD (p:=fun c=>48≤c.toNat∧c.toNat≤57) (by rw [hp];exact Num.Z9 _ _) i hi
  have hpv:∀ j,j≤p.length→Num.parse (p.take j)<1000000000:=fun j hj=>by
   have h1:=Num.cZ (p.take j) (fun c hc=>by
    have hm:=List.mem_of_mem_take hc
    rw [hp] at hm
    exact Num.Z9 _ _ c hm)
   rw [List.length_take,Nat.min_eq_left hj] at h1
   have h2:10 ^ j≤10 ^ 9:=Nat.pow_le_pow_right (by decide) (by omega)
   exact Nat.lt_of_lt_of_le h1 h2
  repeat' (first|apply Ad.assoc|apply Ad.AA|apply Ad.Aq|apply Ad.Ai|apply Ag.nil|apply Ag.one|(rw [hpc])|(apply Aa.assign;rfl)|(apply Aa.move;rfl)|(apply Aa.IC;rfl;rfl;omega)|(apply Aa.int;rfl;rfl;rfl)|(apply Aa.lenV;rfl;rfl;rfl)|(apply Aa.zf;rfl;rfl;rfl;rfl;omega)|(apply Aa.nO;rfl;rfl;rfl;rfl;rfl;rfl;omega)|(apply Aa.X8;rfl;rfl)|(apply Ad.Af;rfl)|(intro _;try (exfalso;omega)))
  refine Ad.Eb (fun j:Nat=>[(0,st d),(3,.vec 0 (Num.limbs n k).length 0 (Num.limbs n k).length),(4,.p (.int .i64 ((K:Int)-9*(k:Int)))),(5,.p (.int .u64 ((Num.parse (p.take j):Nat):Int))),(20,.vec 1 p.length 0 p.length),(21,.p (.int .i64 p.length)),(22,.p (.int .i64 (j:Int)))])
   (fun _=>[(1,.vec 5 (cells p) p.length false),(0,.vec 39 (cells (Num.limbs n k)) (Num.limbs n k).length true)]) 2 (fun j=>j≤p.length) (fun j=>p.length-j) 0 (by omega) (by omega) ⟨Nat.le_refl _,?_,?_⟩ ?_
  ·repeat (first|exact Ae.nil|refine Ae.same trivial rfl ?_|refine Ae.same (Ac rfl) rfl ?_|refine Ae.same ⟨trivial,Ac rfl,Ac rfl,Ac rfl,trivial⟩ rfl ?_|refine Ae.same ⟨trivial,Ac rfl,Ac rfl,trivial⟩ rfl ?_|refine Ae.same ⟨trivial,trivial⟩ rfl ?_|refine Ae.cons trivial rfl (.of_eq (Ar (by simp<;>omega))) ?_)
  ·repeat (first|exact Aj.nil|(refine Aj.cons (Ac rfl) ?_ rfl ?_ ?_;(first|exact trivial|exact AQ.Ah _ _|(simp [HB.under,AQ.under,PV.under]));(first|exact Bj.refl _|exact Bj.vec (Bh.refl _) (by simp))))
  intro j hj
  have hv:=hpv j hj
  by_cases hlj:j<p.length
  ·have hd2:=hdig j hlj
   repeat' (first|apply Ad.AA|apply Ad.region|apply Ad.Aq|apply Ad.Ai|apply AO.normal|apply AL.normal|apply Ag.nil|apply Ag.one|(apply Aa.assign;rfl)|(apply Aa.move;rfl)|(apply Aa.Bv;rfl;rfl;omega)|(apply Aa.a0n (c:=48);rfl;rfl;omega)|(apply Aa.sN;rfl;rfl;omega)|(apply Aa.a0r (a:=10);rfl;rfl;omega)|(apply Aa.int;rfl;rfl;rfl)|(apply Aa.Dw;rfl;rfl;omega;rfl)|(apply Aa.Dn;rfl;rfl;rfl;rfl;omega)|(apply Aa.NP;rfl;rfl;rfl;rfl;omega)|(apply Ad.Af;rfl)|(intro _;try (exfalso;omega)))
   refine Aw.normal ⟨j+1,by omega,by omega,⟨by omega,?_,?_⟩⟩
   ·rw [Num.parse_snoc' p j hlj];repeat (first|exact Ae.nil|refine Ae.same trivial rfl ?_|refine Ae.same (Ac rfl) rfl ?_|refine Ae.same ⟨trivial,Ac rfl,Ac rfl,Ac rfl,trivial⟩ rfl ?_|refine Ae.same ⟨trivial,Ac rfl,Ac rfl,trivial⟩ rfl ?_|refine Ae.same ⟨trivial,trivial⟩ rfl ?_|refine Ae.cons trivial rfl (.of_eq (Ar (by simp<;>omega))) ?_)
   ·repeat (first|exact Aj.nil|(refine Aj.cons (Ac rfl) ?_ rfl ?_ ?_;(first|exact trivial|exact AQ.Ah _ _|(simp [HB.under,AQ.under,PV.under]));(first|exact Bj.refl _|exact Bj.vec (Bh.refl _) (by simp))))
  ·have hjp:j=p.length:=by omega
   subst hjp
   repeat' (first|apply Ad.AA|apply Ad.region|apply Ad.AZ|apply AO.normal|apply AL.normal|apply AL.exit|apply Aw.exit|apply Ag.nil|apply Ag.one|(apply Aa.Dl (a:=(Num.parse (p.take p.length)));rfl;rfl;rfl;rfl;rfl;rfl;rfl;rfl;(intro _ h;cases h);rfl;rfl;rfl;decide;decide;(first|omega|(simp only [List.length_take,List.length_drop,List.length_append,List.length_singleton,List.length_cons,List.length_nil]<;>omega)))|(apply Aa.assign;rfl)|(apply Aa.move;rfl)|(apply Aa.IC;rfl;rfl;omega)|(apply Aa.int;rfl;rfl;rfl)|(apply Aa.buildSlice;rfl;rfl;rfl;decide;rfl;rfl;rfl)|(apply Ad.Af;rfl)|(intro _;try (exfalso;omega)))
   have e1:Num.limbs n k++[Num.parse (p.take p.length)]=Num.limbs n (k+1):=by rw [List.take_length,a2g,Num.limbs]
   have e2:(Num.limbs n (k+1)).length=(Num.limbs n k).length+1:=by rw [Num.LD,Num.LD]
   refine Aw.normal ⟨k+1,by omega,by omega,⟨by omega,?_,?_⟩⟩
   ·rw [e2,show (K:Int)-9*((k+1:Nat):Int)=(K:Int)-9*(k:Int)-9 by omega];repeat (first|exact Ae.nil|refine Ae.same trivial rfl ?_|refine Ae.same (Ac rfl) rfl ?_|refine Ae.same ⟨trivial,Ac rfl,Ac rfl,Ac rfl,trivial⟩ rfl ?_|refine Ae.same ⟨trivial,Ac rfl,Ac rfl,trivial⟩ rfl ?_|refine Ae.same ⟨trivial,trivial⟩ rfl ?_|refine Ae.cons trivial rfl (.of_eq (Ar (by simp<;>omega))) ?_)
   ·rw [e2,← e1];repeat (first|exact Aj.nil|(refine Aj.cons (Ac rfl) ?_ rfl ?_ ?_;(first|exact trivial|exact AQ.Ah _ _|(simp [HB.under,AQ.under,PV.under]));(first|exact Bj.refl _|exact Bj.vec (Bh.refl _) (by simp))))
 ·have htr:=Zc (Num.limbs n k) (by omega)
  repeat' (first|(refine Ad.at 12 ?_;refine Ad.ghost (Ba.freeze 3 rfl rfl) ?_;first|apply Ad.AA|apply Ad.BJ)|apply Ad.assoc|apply Ad.AA|apply Ad.AZ|apply AO.normal|apply AL.exit|apply Aw.exit|apply Ad.ret|apply Ag.nil|apply Ag.one|(apply Aa.fn;rfl;rfl;exact htr;intro _;rfl)|(apply Aa.assign;rfl)|(apply Aa.move;rfl)|(apply Aa.int;rfl;rfl;rfl)|(apply Ad.Af;rfl)|(intro _;try (exfalso;omega)))
  ·refine Done.ret rfl (.refl _) (by first|exact trivial|exact ⟨trivial,trivial,trivial⟩|exact ⟨trivial,trivial,trivial,trivial⟩) Aj.nil (Nat.zero_le _) (Nat.le_refl _) ⟨?_,rfl,rfl⟩
   rw [Num.jH]
   rw [show Num.B9 ^ k=10 ^ (9*k) by rw [Nat.pow_mul]]
   exact Nat.lt_of_lt_of_le (Lib.lt_pow_nDigits n) (Nat.pow_le_pow_right (by decide) (by omega))
end Go.Proofs.YtdabojnmoejilaaGreatDoor
namespace Go.Proofs.YtdabojnmoejilaaGreatDoor
open Go Go.Am Go.Vm
attribute [local irreducible] Aa Ag Ap Ad BA AY CJ AO AL Aw Vm.Done Dc Bq
theorem xg {L:Vm.Frame} {H:Vm.Heap} {nx:Nat} {Q:PV→Vm.Heap→Nat→Prop} {dst:Option Tmp} {ty:TypeId} {pos:String} {af:Array Edge} {gd:Option (Nat×Bool)} {fo:Operand} {args:Array Operand} {aT:Array TypeId} {fs cs xs:List PV} {c:Code}
 (hf:Bz env.Γ L fo=some (.clo 134 fs cs)) (ha:evs env.Γ L args.toList=some xs) (hb:Tryz.f134.body=some c) (hn:(fs++xs++cs).length≤Tryz.f134.ntmps)
 (h:Ad env nx c (CP 0 (fs++xs++cs)) H nx (Bq env.P Tryz.f134.results.toList Q)):Aa env true ⟨dst,.call { callee:=.value fo,args:=args,argTypes:=aT },ty,pos,af,gd⟩ L H nx Q:=by
 have h0:(match Tryz.f134.body with|some c=>H6 env.G Tryz.f134 c|none=>false)=true:=by kernel_rfl
 rw [hb] at h0
 exact Aa.inline rfl hf ha (AB (by decide)) Tryz.func134 hb h0 hn h
theorem vI {L:Vm.Frame} {H:Vm.Heap} {nx:Nat} {Q:PV→Vm.Heap→Nat→Prop} {dst:Option Tmp} {ty:TypeId} {pos:String} {af:Array Edge} {gd:Option (Nat×Bool)} {fo:Operand} {args:Array Operand} {aT:Array TypeId} {fs cs xs:List PV} {c:Code}
 (hf:Bz env.Γ L fo=some (.clo 133 fs cs)) (ha:evs env.Γ L args.toList=some xs) (hb:Tryz.f133.body=some c) (hn:(fs++xs++cs).length≤Tryz.f133.ntmps)
 (h:Ad env nx c (CP 0 (fs++xs++cs)) H nx (Bq env.P Tryz.f133.results.toList Q)):Aa env true ⟨dst,.call { callee:=.value fo,args:=args,argTypes:=aT },ty,pos,af,gd⟩ L H nx Q:=by
 have h0:(match Tryz.f133.body with|some c=>H6 env.G Tryz.f133 c|none=>false)=true:=by kernel_rfl
 rw [hb] at h0
 exact Aa.inline rfl hf ha (AB (by decide)) Tryz.func133 hb h0 hn h
theorem fC {L:Vm.Frame} {H:Vm.Heap} {nx:Nat} {Q:PV→Vm.Heap→Nat→Prop} {dst:Option Tmp} {ty:TypeId} {pos:String} {af:Array Edge} {gd:Option (Nat×Bool)} {fo:Operand} {args:Array Operand} {aT:Array TypeId} {fs cs xs:List PV} {c:Code}
 (hf:Bz env.Γ L fo=some (.clo 143 fs cs)) (ha:evs env.Γ L args.toList=some xs) (hb:Tryz.f143.body=some c) (hn:(fs++xs++cs).length≤Tryz.f143.ntmps)
 (h:Ad env nx c (CP 0 (fs++xs++cs)) H nx (Bq env.P Tryz.f143.results.toList Q)):Aa env true ⟨dst,.call { callee:=.value fo,args:=args,argTypes:=aT },ty,pos,af,gd⟩ L H nx Q:=by
 have h0:(match Tryz.f143.body with|some c=>H6 env.G Tryz.f143 c|none=>false)=true:=by kernel_rfl
 rw [hb] at h0
 exact Aa.inline rfl hf ha (AB (by decide)) Tryz.func143 hb h0 hn h
theorem eP (n:Nat):¬ (List.take 1 (Lib.decDigits n)=[45]):=fun h=>by
 have h1:=Num.Jd n 45 (List.mem_of_mem_take (by rw [h];simp))
 have:(45:UInt8).toNat=45:=rfl
 omega
theorem oC (n:Nat):0<(Lib.decDigits n).length:=by rw [Lib.decDigits_length];exact Lib.nDigits_pos n
theorem zG {a b:Nat} (h:Lib.decDigits a=Lib.decDigits b):a=b:=by
 have h1:Lib.nDigits a=Lib.nDigits b:=by rw [← Lib.decDigits_length,← Lib.decDigits_length,h]
 rw [Num.Eh,Num.Eh,h1] at h
 have:=congrArg Num.parse h
 rw [Num.QG,Num.QG,Nat.mod_eq_of_lt (by rw [← h1];exact Lib.lt_pow_nDigits a),Nat.mod_eq_of_lt (Lib.lt_pow_nDigits b)] at this
 exact this
theorem sU (a:Nat):Lib.decDigits a=[48]↔a=0:=by
 have:Lib.decDigits 0=[48]:=by rw [Lib.decDigits_one (by decide)];rfl
 rw [← this]
 exact ⟨zG,fun h=>by rw [h]⟩
theorem rF (n:Nat):Num.parse (Lib.decDigits n)=n:=by
 rw [Num.Eh,Num.QG,Nat.mod_eq_of_lt (Lib.lt_pow_nDigits n)]
theorem wz (n:Nat):AY env 117 [.str (bs (Lib.decDigits n)),.str (bs [45])] (.EX [st (Lib.decDigits n),.p (.bool false)]):=by
 refine AY.enter (AB (by decide)) Tryz.func117 rfl (by kernel_rfl) (by simp [Tryz.ntmps117]) ?_
 have h1:=eP n
 have h2:=oC n
 repeat' (first|apply Ad.assoc|apply Ad.AA|apply Ad.Aq|apply Ad.BO|(apply Bq.ret;rfl)|apply Ad.ret|apply Ag.nil|apply Ag.one|(apply Ag.take;rfl;rfl)|(apply Ag.drop;rfl;rfl;rfl)|(apply Ag.guard;rfl;rfl)|(apply xg;rfl;rfl;rfl;exact le_dec rfl)|(apply fC;rfl;rfl;rfl;exact le_dec rfl)|(apply Aa.assign;rfl)|(apply Aa.move;rfl)|(apply Aa.int;rfl;rfl;rfl)|(apply Aa.BH;rfl;rfl)|(apply Aa.AV;rfl;rfl)|(apply Aa.Kw;rfl;rfl)|(apply Aa.eqS;rfl;rfl)|(apply Aa.aV;rfl;rfl;rfl;omega)|(apply Aa.jg;rfl;rfl;rfl;omega)|(apply Aa.not;rfl)|(apply Aa.extract;rfl;rfl)|(apply Ad.Bd;rfl)|(apply Ad.QT;rfl)|(intro _;try (exfalso;omega)))
 ·refine Done.ret rfl (.refl _) (by first|exact trivial|exact ⟨trivial,trivial,trivial⟩|exact ⟨trivial,trivial,trivial,trivial⟩) Aj.nil (Nat.zero_le _) (Nat.le_refl _) ⟨?_,rfl,rfl⟩
  rfl
 ·exfalso;simp_all
 ·exfalso;simp_all;omega
theorem cut_spec' (n:Nat):AY env 117 [.str (bs (Lib.decDigits n)),.str ⟨#[45]⟩] (.EX [st (Lib.decDigits n),.p (.bool false)]):=wz n
theorem PZ (n:Nat) (hn:Lib.nDigits n<900000):AY env 110 [.str (bs (Lib.decDigits n))] (.EX [lst 39 (Num.OW n),.p (.bool false)]):=by
 refine AY.enter (AB (by decide)) Tryz.func110 rfl (by kernel_rfl) (by simp [Tryz.ntmps110]) ?_
 repeat' (first|apply Ad.AA|apply Ad.ret|apply Ag.nil|apply Ag.one|(apply Aa.fn;rfl;rfl;exact cut_spec' n;intro _;rfl)|(apply Aa.fn;rfl;rfl;exact oQ n hn;intro _;rfl)|(apply Aa.assign;rfl)|(apply Aa.move;rfl)|(apply Aa.extract;rfl;rfl))
 ·refine Done.ret rfl (.refl _) (by first|exact trivial|exact ⟨trivial,trivial,trivial⟩|exact ⟨trivial,trivial,trivial,trivial⟩) Aj.nil (Nat.zero_le _) (Nat.le_refl _) ⟨?_,rfl,rfl⟩
  rfl
theorem TY (n:Nat) (hn:(Num.OW n).length<1000000):AY env 113 [.lst 39 (cells (Num.OW n)) (Num.OW n).length,.bool false] (st (Lib.decDigits n)):=by
 refine AY.enter (AB (by decide)) Tryz.func113 rfl (by kernel_rfl) (by simp [Tryz.ntmps113]) ?_
 have ht:=bH (Num.OW n) (Num.KI n) (by omega)
 rw [Num.YW] at ht
 repeat' (first|apply Ad.assoc|apply Ad.AA|apply Ad.Aq|apply Ad.ret|apply Ag.nil|apply Ag.one|(apply Ag.drop;rfl;rfl;rfl)|(apply Aa.fn;rfl;rfl;exact ht;intro _;rfl)|(apply Aa.assign;rfl)|(apply Aa.move;rfl)|(apply Aa.AV;rfl;rfl)|(apply Ad.Au;rfl))
 ·refine Done.ret rfl (.refl _) (by first|exact trivial|exact ⟨trivial,trivial,trivial⟩|exact ⟨trivial,trivial,trivial,trivial⟩) Aj.nil (Nat.zero_le _) (Nat.le_refl _) ⟨?_,rfl,rfl⟩
  rfl
theorem Z7 (n:Int) (h:-9223372036854775808≤n∧n≤9223372036854775807):AY env 97 [.int .i64 n] (st (Lib.itoa n)):=by
 refine AY.enter (AB (by decide)) Tryz.func97 rfl (by kernel_rfl) (by simp [Tryz.ntmps97]) ?_
 repeat' (first|apply Ad.AA|apply Ad.ret|apply Ag.nil|apply Ag.one|(apply Aa.fn;rfl;rfl;exact tZ n h;intro _;rfl)|(apply Aa.assign;rfl)|(apply Aa.move;rfl))
 ·refine Done.ret rfl (.refl _) (by first|exact trivial|exact ⟨trivial,trivial,trivial⟩|exact ⟨trivial,trivial,trivial,trivial⟩) Aj.nil (Nat.zero_le _) (Nat.le_refl _) ⟨?_,rfl,rfl⟩
  rfl
theorem fO (n:Nat):Lib.itoa (n:Int)=Lib.decDigits n:=by simp [Lib.itoa]
theorem WR (n g:Nat) (hg:g≤18):AY env 115 [.str (bs (Lib.decDigits n)),.int .i64 (g:Int)] (.EX [.p (.int .i64 ((if Lib.nDigits n≤g then n else 0:Nat):Int)),.p (.bool (decide (Lib.nDigits n≤g)))]):=by
 refine AY.enter (AB (by decide)) Tryz.func115 rfl (by kernel_rfl) (by simp [Tryz.ntmps115]) ?_
 have hl:=Lib.decDigits_length n
 by_cases hng:Lib.nDigits n≤g
 ·rw [if_pos hng,decide_eq_true hng]
  obtain ⟨d,hd⟩:∃ d,d=Lib.decDigits n:=⟨_,rfl⟩
  have hc:=cut_spec' n
  rw [← hd] at hl hc ⊢
  have hdig:∀ i,i<d.length→48≤(gi d i).toNat∧(gi d i).toNat≤57:=fun i hi=>bD (p:=fun c=>48≤c.toNat∧c.toNat≤57) (by rw [hd];exact Num.Jd n) i hi
  have hpv:∀ j,j≤d.length→Num.parse (d.take j)<1000000000000000000:=fun j hj=>by
   have h1:=Num.cZ (d.take j) (fun c hc=>by
    have hm:=List.mem_of_mem_take hc
    rw [hd] at hm
    exact Num.Jd n c hm)
   rw [List.length_take,Nat.min_eq_left hj] at h1
   have h2:10 ^ j≤10 ^ 18:=Nat.pow_le_pow_right (by decide) (by omega)
   exact Nat.lt_of_lt_of_le h1 h2
  repeat' (first|apply Ad.assoc|apply Ad.AA|apply Ad.Aq|apply Ad.Ai|apply Ag.nil|apply Ag.one|(apply Aa.fn;rfl;rfl;exact hc;intro _;rfl)|(apply Aa.assign;rfl)|(apply Aa.move;rfl)|(apply Aa.int;rfl;rfl;rfl)|(apply Aa.lenV;rfl;rfl;rfl)|(apply Aa.Kw;rfl;rfl)|(apply Aa.nO;rfl;rfl;rfl;rfl;rfl;rfl;omega)|(apply Aa.extract;rfl;rfl)|(apply Ad.Af;rfl)|(intro _;try (exfalso;omega)))
  refine Ad.Eb (fun j:Nat=>[(7,.p (.bool false)),(8,.p (.int .i64 ((Num.parse (d.take j):Nat):Int))),(21,.vec 0 d.length 0 d.length),(22,.p (.int .i64 d.length)),(23,.p (.int .i64 (j:Int)))])
   (fun _=>[(0,.vec 5 (cells d) d.length false)]) 1 (fun j=>j≤d.length) (fun j=>d.length-j) 0 (by omega) (by omega) ⟨Nat.le_refl _,?_,?_⟩ ?_
  ·repeat (first|exact Ae.nil|refine Ae.same trivial rfl ?_|refine Ae.same (Ac rfl) rfl ?_|refine Ae.same ⟨trivial,Ac rfl,Ac rfl,Ac rfl,trivial⟩ rfl ?_|refine Ae.same ⟨trivial,Ac rfl,Ac rfl,trivial⟩ rfl ?_|refine Ae.same ⟨trivial,trivial⟩ rfl ?_|refine Ae.cons trivial rfl (.of_eq (Ar (by simp<;>omega))) ?_)
  ·repeat (first|exact Aj.nil|(refine Aj.cons (Ac rfl) ?_ rfl ?_ ?_;(first|exact trivial|exact AQ.Ah _ _|(simp [HB.under,AQ.under,PV.under]));(first|exact Bj.refl _|exact Bj.vec (Bh.refl _) (by simp))))
  intro j hj
  have hv:=hpv j hj
  by_cases hlj:j<d.length
  ·have hd2:=hdig j hlj
   have hv2:=hpv (j+1) hlj
   rw [Num.parse_snoc' d j hlj] at hv2
   repeat' (first|apply Ad.AA|apply Ad.region|apply Ad.Aq|apply Ad.Ai|apply AO.normal|apply AL.normal|apply Ag.nil|apply Ag.one|(apply Aa.assign;rfl)|(apply Aa.move;rfl)|(apply Aa.Bv;rfl;rfl;omega)|(apply Aa.Iy;rfl;rfl;omega)|(apply Aa.a0n (c:=48);rfl;rfl;omega)|(apply Aa.int;rfl;rfl;rfl)|(apply Aa.Dw;rfl;rfl;omega;rfl)|(apply Aa.Dn;rfl;rfl;rfl;rfl;omega)|(apply Aa.Jh;rfl;rfl;rfl;rfl;omega)|(apply Ad.Af;rfl)|(intro _;try (exfalso;omega)))
   refine Aw.normal ⟨j+1,by omega,by omega,⟨by omega,?_,?_⟩⟩
   ·rw [Num.parse_snoc' d j hlj,Int.natCast_add,Int.natCast_mul];repeat (first|exact Ae.nil|refine Ae.same trivial rfl ?_|refine Ae.same (Ac rfl) rfl ?_|refine Ae.same ⟨trivial,Ac rfl,Ac rfl,Ac rfl,trivial⟩ rfl ?_|refine Ae.same ⟨trivial,Ac rfl,Ac rfl,trivial⟩ rfl ?_|refine Ae.same ⟨trivial,trivial⟩ rfl ?_|refine Ae.cons trivial rfl (.of_eq (Ar (by simp<;>omega))) ?_)
   ·repeat (first|exact Aj.nil|(refine Aj.cons (Ac rfl) ?_ rfl ?_ ?_;(first|exact trivial|exact AQ.Ah _ _|(simp [HB.under,AQ.under,PV.under]));(first|exact Bj.refl _|exact Bj.vec (Bh.refl _) (by simp))))
  ·have hjp:j=d.length:=by omega
   subst hjp
   repeat' (first|apply Ad.assoc|apply Ad.AA|apply Ad.Aq|apply Ad.AZ|apply AO.normal|apply AL.exit|apply Aw.exit|apply Ad.ret|apply Ag.nil|apply Ag.one|(apply Aa.assign;rfl)|(apply Aa.move;rfl)|(apply Aa.int;rfl;rfl;rfl)|(apply Ad.Au;rfl)|(apply Ad.Af;rfl)|(intro _;try (exfalso;omega)))
   ·refine Done.ret rfl (.refl _) (by first|exact trivial|exact ⟨trivial,trivial,trivial⟩|exact ⟨trivial,trivial,trivial,trivial⟩) Aj.nil (Nat.zero_le _) (Nat.le_refl _) ⟨?_,rfl,rfl⟩
    rw [List.take_length,hd,rF]
 ·rw [if_neg hng,decide_eq_false hng]
  repeat' (first|apply Ad.assoc|apply Ad.AA|apply Ad.BO|apply Ag.nil|apply Ag.one|(apply Aa.fn;rfl;rfl;exact cut_spec' n;intro _;rfl)|(apply Aa.assign;rfl)|(apply Aa.move;rfl)|(apply Aa.int;rfl;rfl;rfl)|(apply Aa.Kw;rfl;rfl)|(apply Aa.extract;rfl;rfl)|(apply Ad.Af;rfl)|(intro _;try (exfalso;omega)))
  ·refine Done.ret rfl (.refl _) (by first|exact trivial|exact ⟨trivial,trivial,trivial⟩|exact ⟨trivial,trivial,trivial,trivial⟩) Aj.nil (Nat.zero_le _) (Nat.le_refl _) ⟨?_,rfl,rfl⟩
   rfl
end Go.Proofs.YtdabojnmoejilaaGreatDoor
namespace Go.Proofs.YtdabojnmoejilaaGreatDoor
open Go Go.Am Go.Vm
attribute [local irreducible] Aa Ag Ap Ad BA AY CJ AO AL Aw Vm.Done Dc Bq
theorem Lu {x K:Nat} (h:x<10 ^ K) (hK:K<900000):(Num.OW x).length<200000:=by
 have h1:x<Num.B9 ^ (K / 9+1):=by
  refine Nat.lt_of_lt_of_le h ?_
  rw [show Num.B9 ^ (K / 9+1)=10 ^ (9*(K / 9+1)) by rw [Nat.pow_mul]]
  exact Nat.pow_le_pow_right (by decide) (by omega)
 have:=Num.jO x (K / 9+1) h1
 omega
theorem zJ (e i:Nat):e &&& 2 ^ i=if e / 2 ^ i % 2=1 then 2 ^ i else 0:=by
 apply Nat.eq_of_testBit_eq
 intro j
 have hi:e.testBit i=decide (e / 2 ^ i % 2=1):=Nat.testBit_eq_decide_div_mod_eq
 rw [Nat.testBit_and,Nat.testBit_two_pow]
 by_cases hij:i=j
 ·subst hij
  rw [hi]
  by_cases h:e / 2 ^ i % 2=1
  ·rw [if_pos h,Nat.testBit_two_pow];simp [h]
  ·rw [if_neg h];simp [h]
 ·by_cases h:e / 2 ^ i % 2=1
  ·rw [if_pos h,Nat.testBit_two_pow];simp [hij]
  ·rw [if_neg h];simp [hij]
theorem WH (n e:Nat) (he:e≤6000) (hne:e*Lib.nDigits n≤24000) (hn:Lib.nDigits n<100000):AY env 96 [.str (bs (Lib.decDigits n)),.int .i64 (e:Int)] (.EX [st (Lib.decDigits (n ^ e)),.p (.int .i64 0)]):=by
 refine AY.enter (AB (by decide)) Tryz.func96 rfl (by kernel_rfl) (by simp [Tryz.ntmps96]) ?_
 have hlt:=Lib.lt_pow_nDigits n
 have hnl:=Lu hlt (by omega)
 obtain ⟨K,hK⟩:∃ K:Nat,K=24000:=⟨_,rfl⟩
 rw [← hK] at hne
 have jR:∀ k,k≤e→(Num.OW (n ^ k)).length<200000:=fun k hk=>by
  refine Lu (K:=K) ?_ (by omega)
  have h1:n ^ k≤(10 ^ Lib.nDigits n) ^ k:=Nat.pow_le_pow_left (Nat.le_of_lt hlt) k
  rw [← Nat.pow_mul] at h1
  rcases Nat.eq_zero_or_pos k with h0|h0
  ·rw [h0,Nat.pow_zero];exact Nat.one_lt_pow (by omega) (by decide)
  ·have h2:n ^ k<(10 ^ Lib.nDigits n) ^ k:=Nat.pow_lt_pow_left hlt (by omega)
   rw [← Nat.pow_mul] at h2
   refine Nat.lt_of_lt_of_le h2 (Nat.pow_le_pow_right (by decide) ?_)
   have:=Nat.mul_le_mul_left (Lib.nDigits n) hk
   rw [Nat.mul_comm (Lib.nDigits n) e] at this
   omega
 have htx:=bH (Num.OW n) (Num.KI n) (by omega)
 rw [Num.YW] at htx
 have hdl:=Lib.decDigits_length n
 have hmul:(e:Int)*((Lib.decDigits n).length:Int)≤24000:=by rw [hK] at hne;rw [hdl];exact_mod_cast hne
 have b0e:(0:Int)≤(e:Int)*((Lib.decDigits n).length:Int):=by rw [hdl,← Int.natCast_mul];omega
 repeat' (first|apply Ad.assoc|apply Ad.AA|apply Ad.Aq|apply Ad.Ai|apply Ag.nil|apply Ag.one|(apply Ag.take;rfl;rfl)|(apply Aa.fn;rfl;rfl;exact PZ n (by omega);intro _;rfl)|(apply Aa.fn;rfl;rfl;exact htx;intro _;rfl)|(apply Aa.assign;rfl)|(apply Aa.move;rfl)|(apply Aa.Iy;rfl;rfl;omega)|(apply Aa.int;rfl;rfl;rfl)|(apply Aa.AV;rfl;rfl)|(apply Aa.buildSlice;rfl;rfl;rfl;decide;rfl;rfl;rfl)|(apply Aa.Kw;rfl;rfl)|(apply Aa.extract;rfl;rfl)|(apply Ad.Af;rfl)|(intro _;try (exfalso;omega)))
 refine Ad.ghost (Ba.freeze 8 rfl rfl) ?_
 have one:Num.OW 1=[1]:=by rw [Num.MO (by decide),show 1 / Num.B9=0 by decide,Num.H8];rfl
 have e14:e / 2 ^ 14=0:=Nat.div_eq_of_lt (by omega)
 refine Ad.Eb (fun b:Nat=>[(1,.p (.int .i64 (e:Int))),(6,lst 39 (Num.OW n)),(7,.p (.bool false)),(8,lst 39 (Num.OW (n ^ (e / 2 ^ b)))),(9,.p (.int .i64 ((2 ^ b / 2:Nat):Int)))]) (fun _=>[]) 1 (fun b=>b≤14) (fun b=>b) 14 (by omega) (by omega) ⟨Nat.le_refl _,?_,?_⟩ ?_
 ·rw [e14,Nat.pow_zero,one];repeat (first|exact Ae.nil|refine Ae.same trivial rfl ?_|refine Ae.same (Ac rfl) rfl ?_|refine Ae.same ⟨trivial,Ac rfl,Ac rfl,Ac rfl,trivial⟩ rfl ?_|refine Ae.same ⟨trivial,Ac rfl,Ac rfl,trivial⟩ rfl ?_|refine Ae.same ⟨trivial,trivial⟩ rfl ?_|refine Ae.cons trivial rfl (.of_eq (Ar (by simp<;>omega))) ?_)
 ·exact Aj.nil
 intro b hb
 rcases Nat.eq_zero_or_pos b with hb0|hb0
 ·subst hb0
  have hlen:=jR e (Nat.le_refl _)
  have hs:=TY (n ^ e) (by omega)
  rw [Nat.pow_zero,Nat.div_one]
  repeat' (first|apply Ad.assoc|apply Ad.AA|apply Ad.AZ|apply AO.normal|apply AL.exit|apply Aw.exit|apply Ad.ret|apply Ag.nil|apply Ag.one|(apply Ag.drop;rfl;rfl;rfl)|(apply Aa.fn;rfl;rfl;exact hs;intro _;rfl)|(apply Aa.assign;rfl)|(apply Aa.move;rfl)|(apply Aa.int;rfl;rfl;rfl)|(apply Aa.AV;rfl;rfl)|(apply Ad.Au;rfl))
  ·(refine Done.ret rfl (.refl _) (by first|exact trivial|exact ⟨trivial,trivial,trivial⟩|exact ⟨trivial,trivial,trivial,trivial⟩) Aj.nil (Nat.zero_le _) (Nat.le_refl _) ⟨?_,rfl,rfl⟩;try rfl)
 ·obtain ⟨i,rfl⟩:∃ i,b=i+1:=⟨b-1,by omega⟩
  have hp1:2 ^ (i+1) / 2=2 ^ i:=by rw [Nat.pow_succ,Nat.mul_div_cancel _ (by decide)]
  have hp0:0<2 ^ i:=Nat.pow_pos (by decide)
  have b2l:2 ^ i≤2 ^ 13:=Nat.pow_le_pow_right (by decide) (by omega)
  rw [hp1]
  have hle:e / 2 ^ (i+1)≤e:=Nat.div_le_self _ _
  have h1:=Qa (Num.OW (n ^ (e / 2 ^ (i+1)))) (Num.OW (n ^ (e / 2 ^ (i+1)))) (Num.KI _) (Num.KI _) (by have:=jR _ hle;omega) (by have:=jR _ hle;omega)
  rw [Num.Rw] at h1
  have hle2:e / 2 ^ (i+1)+e / 2 ^ (i+1)≤e:=by
   have h2:e / 2 ^ (i+1)*2 ^ (i+1)≤e:=Nat.div_mul_le_self _ _
   have h3:e / 2 ^ (i+1)*2≤e / 2 ^ (i+1)*2 ^ (i+1):=Nat.mul_le_mul_left _ (by rw [Nat.pow_succ];omega)
   omega
  have h2:=Qa (Num.OW (n ^ (e / 2 ^ (i+1))*n ^ (e / 2 ^ (i+1)))) (Num.OW n) (Num.KI _) (Num.KI _) (by rw [← Nat.pow_add];have:=jR _ hle2;omega) (by omega)
  rw [Num.Rw,Num.Rw] at h2
  have hbit:=Num.y9 n e i
  have hand:=zJ e i
  by_cases hb1:e / 2 ^ i % 2=1
  ·rw [if_pos hb1] at hbit hand
   repeat' (first|apply Ad.assoc|apply Ad.AA|apply Ad.region|apply Ad.Aq|apply Ad.Ai|apply AO.normal|apply AL.normal|apply Ag.nil|apply Ag.one|(apply Aa.fn;rfl;rfl;exact h1;intro _;rfl)|(apply Aa.fn;rfl;rfl;exact h2;intro _;rfl)|(apply Aa.assign;rfl)|(apply Aa.move;rfl)|(apply Aa.a5p;rfl;rfl;omega)|(apply Aa.int;rfl;rfl;rfl)|(apply Aa.RI;rfl;rfl;(simp only [IntKind.bits];omega))|(apply Ad.Af;rfl)|(apply Ad.A8;rfl)|(intro _;try (exfalso;omega)))
   all_goals try (exfalso;rename_i hx;rw [hand] at hx;omega)
   refine Aw.normal ⟨i,by omega,by omega,⟨by omega,?_,?_⟩⟩
   ·rw [← hbit];repeat (first|exact Ae.nil|refine Ae.same trivial rfl ?_|refine Ae.same (Ac rfl) rfl ?_|refine Ae.same ⟨trivial,Ac rfl,Ac rfl,Ac rfl,trivial⟩ rfl ?_|refine Ae.same ⟨trivial,Ac rfl,Ac rfl,trivial⟩ rfl ?_|refine Ae.same ⟨trivial,trivial⟩ rfl ?_|refine Ae.cons trivial rfl (.of_eq (Ar (by simp<;>omega))) ?_)
   ·exact Aj.nil
  ·rw [if_neg hb1,Nat.mul_one] at hbit
   rw [if_neg hb1] at hand
   repeat' (first|apply Ad.assoc|apply Ad.AA|apply Ad.region|apply Ad.Aq|apply Ad.Ai|apply AO.normal|apply AL.normal|apply Ad.skip|apply Ag.nil|apply Ag.one|(apply Aa.fn;rfl;rfl;exact h1;intro _;rfl)|(apply Aa.assign;rfl)|(apply Aa.move;rfl)|(apply Aa.a5p;rfl;rfl;omega)|(apply Aa.int;rfl;rfl;rfl)|(apply Aa.RI;rfl;rfl;(simp only [IntKind.bits];omega))|(apply Ad.Af;rfl)|(apply Ad.A8;rfl)|(intro _;try (exfalso;omega)))
   all_goals try (exfalso;rename_i hx;rw [hand] at hx;omega)
   refine Aw.normal ⟨i,by omega,by omega,⟨by omega,?_,?_⟩⟩
   ·rw [← hbit];repeat (first|exact Ae.nil|refine Ae.same trivial rfl ?_|refine Ae.same (Ac rfl) rfl ?_|refine Ae.same ⟨trivial,Ac rfl,Ac rfl,Ac rfl,trivial⟩ rfl ?_|refine Ae.same ⟨trivial,Ac rfl,Ac rfl,trivial⟩ rfl ?_|refine Ae.same ⟨trivial,trivial⟩ rfl ?_|refine Ae.cons trivial rfl (.of_eq (Ar (by simp<;>omega))) ?_)
   ·exact Aj.nil
theorem iD (a b:Nat) (ha:Lib.nDigits a<400000) (hb:Lib.nDigits b<400000):AY env 98 [.str (bs (Lib.decDigits a)),.str (bs (Lib.decDigits b))] (st (Lib.decDigits (a*b))):=by
 refine AY.enter (AB (by decide)) Tryz.func98 rfl (by kernel_rfl) (by simp [Tryz.ntmps98]) ?_
 have qa:=WR a 9 (by decide)
 have qb:=WR b 9 (by decide)
 have la:=Lib.lt_pow_nDigits a
 have lb:=Lib.lt_pow_nDigits b
 have hla:=Lu la (by omega)
 have hlb:=Lu lb (by omega)
 have ht:=Qa (Num.OW a) (Num.OW b) (Num.KI _) (Num.KI _) (by omega) (by omega)
 rw [Num.Rw,Num.Rw] at ht
 have hlab:(Num.OW (a*b)).length<200000:=Lu (K:=Lib.nDigits a+Lib.nDigits b) (by
  rw [Nat.pow_add]
  exact Nat.mul_lt_mul_of_lt_of_le la (Nat.le_of_lt lb) (Nat.pow_pos (by decide))) (by omega)
 have hs:=TY (a*b) (by omega)
 by_cases h9:Lib.nDigits a≤9∧Lib.nDigits b≤9
 ·rw [if_pos h9.1,decide_eq_true h9.1] at qa
  rw [if_pos h9.2,decide_eq_true h9.2] at qb
  have ha9:a<1000000000:=Nat.lt_of_lt_of_le la (Nat.pow_le_pow_right (n:=10) (by decide) h9.1)
  have hb9:b<1000000000:=Nat.lt_of_lt_of_le lb (Nat.pow_le_pow_right (n:=10) (by decide) h9.2)
  have hab:a*b≤999999999*999999999:=Nat.mul_le_mul (by omega) (by omega)
  have a1i:(a:Int)*(b:Int)=((a*b:Nat):Int):=(Int.natCast_mul a b).symm
  have ho:=Z7 ((a:Int)*(b:Int)) (by rw [a1i];omega)
  have h2:-9223372036854775808≤(a:Int)*(b:Int)∧(a:Int)*(b:Int)<9223372036854775808:=by rw [a1i];omega
  repeat' (first|apply Ad.assoc|apply Ad.AA|apply Ad.BO|apply Ag.nil|apply Ag.one|(apply Aa.fn;rfl;rfl;exact qa;intro _;rfl)|(apply Aa.fn;rfl;rfl;exact qb;intro _;rfl)|(apply Aa.fn;rfl;rfl;exact ho;intro _;rfl)|(apply Aa.assign;rfl)|(apply Aa.move;rfl)|(apply Aa.Iy;rfl;rfl;omega)|(apply Aa.extract;rfl;rfl)|(apply Ad.Bd;rfl))
  ·refine Done.ret rfl (.refl _) (by first|exact trivial|exact ⟨trivial,trivial,trivial⟩|exact ⟨trivial,trivial,trivial,trivial⟩) Aj.nil (Nat.zero_le _) (Nat.le_refl _) ⟨?_,rfl,rfl⟩
   rw [a1i,fO]
 ·repeat' (first|apply Ad.assoc|apply Ad.AA|apply Ad.Aq|apply Ad.ret|apply Ag.nil|apply Ag.one|(apply Aa.fn;rfl;rfl;exact qa;intro _;rfl)|(apply Aa.fn;rfl;rfl;exact qb;intro _;rfl)|(apply Aa.fn;rfl;rfl;exact PZ a (by omega);intro _;rfl)|(apply Aa.fn;rfl;rfl;exact PZ b (by omega);intro _;rfl)|(apply Aa.fn;rfl;rfl;exact ht;intro _;rfl)|(apply Aa.fn;rfl;rfl;exact hs;intro _;rfl)|(apply Aa.assign;rfl)|(apply Aa.move;rfl)|(apply Aa.neB;rfl;rfl;rfl)|(apply Aa.extract;rfl;rfl)|(apply Ad.Af;rfl)|(intro _;try (exfalso;omega)))
  all_goals (refine Done.ret rfl (.refl _) (by first|exact trivial|exact ⟨trivial,trivial,trivial⟩|exact ⟨trivial,trivial,trivial,trivial⟩) Aj.nil (Nat.zero_le _) (Nat.le_refl _) ⟨?_,rfl,rfl⟩;try rfl)
theorem Yu (n:Nat):AY env 116 [.str (bs (Lib.decDigits n))] (.p (.int .i64 (if n=0 then 0 else 1))):=by
 refine AY.enter (AB (by decide)) Tryz.func116 rfl (by kernel_rfl) (by simp [Tryz.ntmps116]) ?_
 have h1:=eP n
 have h2:=oC n
 have h3:=sU n
 repeat' (first|apply Ad.AA|apply Ad.Ai|apply AO.normal|apply AO.ret|(apply Bq.ret;rfl)|apply AL.normal|apply AL.ret|apply Ad.ret|apply Ad.skip|apply Ag.nil|apply Ag.one|(apply Ag.take;rfl;rfl)|(apply Ag.drop;rfl;rfl;rfl)|(apply Ag.guard;rfl;rfl)|(apply vI;rfl;rfl;rfl;exact le_dec rfl)|(apply fC;rfl;rfl;rfl;exact le_dec rfl)|(apply Aa.assign;rfl)|(apply Aa.move;rfl)|(apply Aa.int;rfl;rfl;rfl)|(apply Aa.BH;rfl;rfl)|(apply Aa.AV;rfl;rfl)|(apply Aa.Kw;rfl;rfl)|(apply Aa.eqS;rfl;rfl)|(apply Aa.aV;rfl;rfl;rfl;omega)|(apply Ad.cond_false;rfl)|(apply Ad.A8;rfl)|(intro _;try (exfalso;omega)))
 all_goals first
  |(exfalso;simp_all;done)
  |(exfalso;simp_all;omega)
  |((refine Done.ret rfl (.refl _) (by first|exact trivial|exact ⟨trivial,trivial,trivial⟩|exact ⟨trivial,trivial,trivial,trivial⟩) Aj.nil (Nat.zero_le _) (Nat.le_refl _) ⟨?_,rfl,rfl⟩;try rfl);refine PV.int_eq ?_;first|(rw [if_pos (h3.1 (by assumption))];done)|(rw [if_neg (fun e=>by have:=h3.2 e;contradiction)];done))
theorem XB:∀ (a b:List UInt8),-1≤Lib.compareBytes a b∧Lib.compareBytes a b≤1
 |[],[]=>by simp [Lib.compareBytes]
 |[],_::_=>by simp [Lib.compareBytes]
 |_::_,[]=>by simp [Lib.compareBytes]
 |a::as',b::bs'=>by
  simp only [Lib.compareBytes]
  have:=XB as' bs'
  split
  ·omega
  ·split
   ·omega
   ·exact this
def X3 (a b:Nat):Int:=if a<b then -1 else if b<a then 1 else 0
theorem zQ {a b:Nat} (h:Lib.nDigits a=Lib.nDigits b):Lib.compareBytes (Lib.decDigits a) (Lib.decDigits b)=X3 a b:=by
 rw [Num.Eh,Num.Eh,← h]
 exact Num.a0t _ _ _ (Lib.lt_pow_nDigits a) (by rw [h];exact Lib.lt_pow_nDigits b)
theorem ZV (a b:Nat) (ha:Lib.nDigits a<400000) (hb:Lib.nDigits b<400000):AY env 99 [.str (bs (Lib.decDigits a)),.str (bs (Lib.decDigits b))] (.p (.int .i64 (X3 a b))):=by
 refine AY.enter (AB (by decide)) Tryz.func99 rfl (by kernel_rfl) (by simp [Tryz.ntmps99]) ?_
 have sa:=Yu a
 have sb:=Yu b
 have hla:=Lib.decDigits_length a
 have hlb:=Lib.decDigits_length b
 have hcb:=XB (Lib.decDigits a) (Lib.decDigits b)
 have z1:Lib.nDigits 0=1:=Lib.nDigits_small (by decide)
 by_cases ha0:a=0<;>by_cases hb0:b=0
 ·rw [if_pos ha0] at sa
  rw [if_pos hb0] at sb
  have heq:Lib.nDigits a=Lib.nDigits b:=by rw [ha0,hb0]
  repeat' (first|apply Ad.AA|apply Ad.Ai|apply AO.normal|apply AL.normal|apply Ad.ret|apply Ad.skip|apply Ag.nil|apply Ag.one|(apply Aa.fn;rfl;rfl;exact sa;intro _;rfl)|(apply Aa.fn;rfl;rfl;exact sb;intro _;rfl)|(apply Aa.fn;rfl;rfl;exact cut_spec' a;intro _;rfl)|(apply Aa.fn;rfl;rfl;exact cut_spec' b;intro _;rfl)|(apply Aa.fn;rfl;rfl;exact UK _ _;intro _;rfl)|(apply Aa.assign;rfl)|(apply Aa.move;rfl)|(apply Aa.Iy;rfl;rfl;omega)|(apply Aa.int;rfl;rfl;rfl)|(apply Aa.Kw;rfl;rfl)|(apply Aa.extract;rfl;rfl)|(apply Ad.cond_false;rfl)|(apply Ad.A8;rfl)|(intro _;try (exfalso;omega)))
  all_goals first
   |(exfalso;omega)
   |((refine Done.ret rfl (.refl _) (by first|exact trivial|exact ⟨trivial,trivial,trivial⟩|exact ⟨trivial,trivial,trivial,trivial⟩) Aj.nil (Nat.zero_le _) (Nat.le_refl _) ⟨?_,rfl,rfl⟩;try rfl);refine PV.int_eq ?_;simp [X3,ha0,hb0];done)
 ·rw [if_pos ha0] at sa
  rw [if_neg hb0] at sb
  repeat' (first|apply Ad.AA|apply Ad.Ai|apply AO.ret|apply AL.ret|apply Ad.ret|apply Ag.nil|apply Ag.one|(apply Aa.fn;rfl;rfl;exact sa;intro _;rfl)|(apply Aa.fn;rfl;rfl;exact sb;intro _;rfl)|(apply Aa.assign;rfl)|(apply Aa.move;rfl)|(apply Aa.int;rfl;rfl;rfl)|(apply Ad.cond_true;rfl))
  all_goals first
   |(exfalso;omega)
   |((refine Done.ret rfl (.refl _) (by first|exact trivial|exact ⟨trivial,trivial,trivial⟩|exact ⟨trivial,trivial,trivial,trivial⟩) Aj.nil (Nat.zero_le _) (Nat.le_refl _) ⟨?_,rfl,rfl⟩;try rfl);refine PV.int_eq ?_;unfold X3;rw [if_pos (by omega)];done)
 ·rw [if_neg ha0] at sa
  rw [if_pos hb0] at sb
  repeat' (first|apply Ad.AA|apply Ad.Ai|apply AO.ret|apply AL.ret|apply Ad.ret|apply Ag.nil|apply Ag.one|(apply Aa.fn;rfl;rfl;exact sa;intro _;rfl)|(apply Aa.fn;rfl;rfl;exact sb;intro _;rfl)|(apply Aa.assign;rfl)|(apply Aa.move;rfl)|(apply Aa.int;rfl;rfl;rfl)|(apply Ad.cond_true;rfl)|(apply Ad.cond_false;rfl))
  all_goals first
   |(exfalso;omega)
   |((refine Done.ret rfl (.refl _) (by first|exact trivial|exact ⟨trivial,trivial,trivial⟩|exact ⟨trivial,trivial,trivial,trivial⟩) Aj.nil (Nat.zero_le _) (Nat.le_refl _) ⟨?_,rfl,rfl⟩;try rfl);refine PV.int_eq ?_;unfold X3;rw [if_neg (by omega),if_pos (by omega)];done)
 ·rw [if_neg ha0] at sa
  rw [if_neg hb0] at sb
  have hm1:Lib.nDigits a<Lib.nDigits b→a<b:=Num.Rt
  have hm2:Lib.nDigits b<Lib.nDigits a→b<a:=Num.Rt
  repeat' (first|apply Ad.AA|apply Ad.Ai|apply AO.normal|apply AO.ret|apply AL.normal|apply AL.ret|apply Ad.ret|apply Ad.skip|apply Ag.nil|apply Ag.one|(apply Aa.fn;rfl;rfl;exact sa;intro _;rfl)|(apply Aa.fn;rfl;rfl;exact sb;intro _;rfl)|(apply Aa.fn;rfl;rfl;exact cut_spec' a;intro _;rfl)|(apply Aa.fn;rfl;rfl;exact cut_spec' b;intro _;rfl)|(apply Aa.fn;rfl;rfl;exact UK _ _;intro _;rfl)|(apply Aa.assign;rfl)|(apply Aa.move;rfl)|(apply Aa.Iy;rfl;rfl;omega)|(apply Aa.int;rfl;rfl;rfl)|(apply Aa.Kw;rfl;rfl)|(apply Aa.neg;rfl;omega)|(apply Aa.extract;rfl;rfl)|(apply Ad.cond_false;rfl)|(apply Ad.A8;rfl)|(intro _;try (exfalso;omega)))
  ·(refine Done.ret rfl (.refl _) (by first|exact trivial|exact ⟨trivial,trivial,trivial⟩|exact ⟨trivial,trivial,trivial,trivial⟩) Aj.nil (Nat.zero_le _) (Nat.le_refl _) ⟨?_,rfl,rfl⟩;try rfl)
   refine PV.int_eq ?_
   have:=hm1 (by omega)
   unfold X3;rw [if_pos this]
  ·(refine Done.ret rfl (.refl _) (by first|exact trivial|exact ⟨trivial,trivial,trivial⟩|exact ⟨trivial,trivial,trivial,trivial⟩) Aj.nil (Nat.zero_le _) (Nat.le_refl _) ⟨?_,rfl,rfl⟩;try rfl)
   refine PV.int_eq ?_
   have:=hm2 (by omega)
   unfold X3;rw [if_neg (by omega),if_pos this]
  ·(refine Done.ret rfl (.refl _) (by first|exact trivial|exact ⟨trivial,trivial,trivial⟩|exact ⟨trivial,trivial,trivial,trivial⟩) Aj.nil (Nat.zero_le _) (Nat.le_refl _) ⟨?_,rfl,rfl⟩;try rfl)
   refine PV.int_eq ?_
   rw [Int.one_mul,zQ (by omega)]
end Go.Proofs.YtdabojnmoejilaaGreatDoor
namespace Go.Vm
open Go.Am
theorem Rl {n:Int} (h0:n<0) (h:-18446744073709551616≤n):IntKind.u64.wrap n=n+18446744073709551616:=by
 have e:IntKind.u64.wrap n=n % 2^64:=by
  simp [IntKind.wrap,IntKind.signed,IntKind.bits]
  try omega
 rw [e]
 omega
section
variable {E:Env} {L:Frame} {H:Heap} {nx:Nat} {Q:PV→Heap→Nat→Prop} {w:Bool}
variable {dst:Option Tmp} {ty:TypeId} {pos:String} {af:Array Edge} {gd:Option (Nat×Bool)}
theorem Aa.a1f {s d:TypeId} {x:Operand} {k':IntKind} {n:Int} {sd:TypeDesc} (hx:Bz E.Γ L x=some (.p (.int k' n))) (hs:E.P.underlying s=some sd) (hns:aZ sd=true) (hd:E.P.underlying d=some (.int .u64)) (hn:n<0∧-18446744073709551616≤n) (q:Q (.p (.int .u64 (n+18446744073709551616))) H nx) :
 Aa E w ⟨dst,.convert s d x,ty,pos,af,gd⟩ L H nx Q:=Aa.Vb hx hs hns hd (by rw [Rl hn.1 hn.2];exact q)
theorem Aa.a8w {t:TypeId} {x:Operand} {a:Int} (hx:Bz E.Γ L x=some (.p (.int .u64 a))) (h:0<a∧a<18446744073709551616) (q:Q (.p (.int .u64 (18446744073709551616-a))) H nx):Aa E w ⟨dst,.unOp .neg t x,ty,pos,af,gd⟩ L H nx Q :=
 Aa.quiet q fun m F σ tt c1 c2=>by
  refine ⟨.int .u64 (18446744073709551616-a),fun _=>?_,.p (.int _ _)⟩
  have hd:Ec E.P (Op.unary .neg (.int .u64 a))=some (.int .u64 (18446744073709551616-a)):=by
   simp only [Op.unary,Op.intArith,Int.zero_sub,Rl (n:=-a) (by omega) (by omega)]
   rw [show -a+18446744073709551616=18446744073709551616-a by omega]
   rfl
  simp only [CW,FI,Df c1 c2 hx]
  rw [show plain (Value.int IntKind.u64 a)=true from rfl]
  simp only [if_true,Ik hd rfl,Option.map_some]
theorem Aa.makeFunc {f:FuncId} {fs cs:Array Operand} {pf pc:List PV} (hf:evs E.Γ L fs.toList=some pf) (hc:evs E.Γ L cs.toList=some pc) (q:Q (.clo f pf pc) H nx):Aa E w ⟨dst,.makeFunc (.func f) fs cs,ty,pos,af,gd⟩ L H nx Q :=
 Aa.quiet q fun m F σ tt c1 c2=>by
  refine ⟨.func (.func f) (fs.toList.map (ev tt)).toArray (cs.toList.map (ev tt)).toArray,fun _=>?_,.clo (QX c1 c2 hf) (QX c1 c2 hc)⟩
  simp only [CW,FI,Option.map_some,← Array.toList_map,Array.toArray_toList]
end
end Go.Vm
namespace Go.Proofs.YtdabojnmoejilaaGreatDoor
open Go Go.Am Go.Vm
attribute [local irreducible] Aa Ag Ap Ad BA AY CJ AO AL Aw Vm.Done Dc Bq
structure JU where
 num:Int
 den:Int
instance:Enc JU:={ default:=⟨0,0⟩,enc:=fun x=>[.int .i64 x.num,.int .i64 x.den],size:=2,len:=fun _=>rfl }
theorem VO (n:Int) (h:-9223372036854775808≤n∧n<9223372036854775808):AY env 123 [.int .i64 n] (.p (.int .u64 ((n.natAbs:Nat):Int))):=by
 refine AY.enter (AB (by decide)) Tryz.func123 rfl (by kernel_rfl) (by simp [Tryz.ntmps123]) ?_
 repeat' (first|apply Ad.assoc|apply Ad.AA|apply Ad.Aq|apply Ad.BO|apply Ad.ret|apply Ag.nil|apply Ag.one|(apply Aa.a1f;rfl;rfl;rfl;rfl;omega)|(apply Aa.a8w;rfl;omega)|(apply Aa.assign;rfl)|(apply Aa.move;rfl)|(apply Aa.int;rfl;rfl;rfl)|(apply Aa.NP;rfl;rfl;rfl;rfl;omega)|(apply Ad.Af;rfl)|(intro _;try (exfalso;omega)))
 all_goals (refine Done.ret rfl (.refl _) (by first|exact trivial|exact ⟨trivial,trivial,trivial⟩|exact ⟨trivial,trivial,trivial,trivial⟩) Aj.nil (Nat.zero_le _) (Nat.le_refl _) ⟨?_,rfl,rfl⟩;refine PV.int_eq ?_;omega)
theorem vW (a b:Nat) (ha:a<18446744073709551616) (hb:b<18446744073709551616):AY env 122 [.int .u64 (a:Int),.int .u64 (b:Int)] (.p (.int .u64 ((Nat.gcd a b:Nat):Int))):=by
 refine AY.enter (AB (by decide)) Tryz.func122 rfl (by kernel_rfl) (by simp [Tryz.ntmps122]) ?_
 repeat' (first|apply Ad.AA|apply Ad.Ai|apply Ag.nil|apply Ag.one|(apply Aa.assign;rfl))
 refine Ad.Eb (fun s:Nat×Nat=>[(0,.p (.int .u64 (s.1:Int))),(1,.p (.int .u64 (s.2:Int)))]) (fun _=>[]) 0 (fun s=>s.1<18446744073709551616∧s.2<18446744073709551616∧Nat.gcd s.1 s.2=Nat.gcd a b) (fun s=>s.2) (a,b) (Nat.le_refl _) ⟨ha,hb,rfl⟩ ⟨Nat.le_refl _,?_,trivial⟩ ?_
 ·repeat (first|exact Ae.nil|refine Ae.same trivial rfl ?_|refine Ae.same (Ac rfl) rfl ?_|refine Ae.same ⟨trivial,Ac rfl,Ac rfl,Ac rfl,trivial⟩ rfl ?_|refine Ae.same ⟨trivial,Ac rfl,Ac rfl,trivial⟩ rfl ?_|refine Ae.same ⟨trivial,trivial⟩ rfl ?_|refine Ae.cons trivial rfl (.of_eq (Ar (by simp<;>omega))) ?_)
 rintro ⟨x,y⟩ ⟨hx,hy,hg⟩
 simp only at hx hy hg
 have hmod:0<y→x % y<y:=fun h=>Nat.mod_lt _ h
 repeat' (first|apply Ad.assoc|apply Ad.AA|apply Ad.FP|apply Ad.Aq|apply Ad.AZ|apply AO.normal|apply AL.normal|apply AL.exit|apply Aw.exit|apply Ad.ret|apply Ad.II|apply Ag.nil|apply Ap.nil|apply Ag.one|(apply Ap.bar;decide +kernel)|(apply Aa.assign;rfl)|(apply Aa.move;rfl)|(apply Aa.a0o;rfl;rfl;omega)|(apply Aa.int;rfl;rfl;rfl)|(apply Ad.Af;rfl)|(intro _;try (exfalso;omega)))
 ·rename_i h1
  have hy0:0<y:=by omega
  refine Aw.normal ⟨(y,x % y),⟨hy,by have:=hmod hy0;omega,?_⟩,hmod hy0,⟨Nat.le_refl _,?_,trivial⟩⟩
  ·rw [← hg,Nat.gcd_comm x y,Nat.gcd_rec y x,Nat.gcd_comm]
  ·repeat (first|exact Ae.nil|refine Ae.same trivial rfl ?_|refine Ae.same (Ac rfl) rfl ?_|refine Ae.same ⟨trivial,Ac rfl,Ac rfl,Ac rfl,trivial⟩ rfl ?_|refine Ae.same ⟨trivial,Ac rfl,Ac rfl,trivial⟩ rfl ?_|refine Ae.same ⟨trivial,trivial⟩ rfl ?_|refine Ae.cons trivial rfl (.of_eq (Ar (by simp<;>omega))) ?_)
 ·rename_i h1
  refine Done.ret rfl (.refl _) (by first|exact trivial|exact ⟨trivial,trivial,trivial⟩|exact ⟨trivial,trivial,trivial,trivial⟩) Aj.nil (Nat.zero_le _) (Nat.le_refl _) ⟨?_,rfl,rfl⟩
  have hy0:y=0:=by omega
  subst hy0
  rw [← hg,Nat.gcd_zero_right]
def tC (x:JU):Prop:=0<x.den∧x.den≤1000000∧-1000000≤x.num∧x.num≤1000000∧Nat.gcd x.num.natAbs x.den.toNat=1
instance (x:JU):Decidable (tC x):=by unfold tC;infer_instance
def yD (x:JU):Int:=if tC x then 0 else 2
theorem gu (x:JU):AY env 106 [.agg (Enc.enc x)] (.p (.int .i64 (yD x))):=by
 refine AY.enter (AB (by decide)) Tryz.func106 rfl (by kernel_rfl) (by simp [Tryz.ntmps106]) ?_
 have hd:0<x.den→((x.den.toNat:Nat):Int)=x.den:=fun h=>Int.toNat_of_nonneg (Int.le_of_lt h)
 have hg:0<x.den→x.den≤1000000→-1000000≤x.num→x.num≤1000000→AY env 122 [.int .u64 ((x.num.natAbs:Nat):Int),.int .u64 x.den] (.p (.int .u64 ((Nat.gcd x.num.natAbs x.den.toNat:Nat):Int))):=fun h1 h2 h3 h4=>by
  have:=vW x.num.natAbs x.den.toNat (by omega) (by omega)
  rwa [hd h1] at this
 repeat' (first|apply Ad.assoc|apply Ad.AA|apply Ad.BJ|apply Ad.Aq|apply Ad.BO|apply Ad.ret|apply Ag.nil|apply Ap.nil|apply Ag.one|(apply Ap.bar;decide +kernel)|(apply Ap.Yy;rfl;rfl)|(apply Ap.drop;rfl;rfl;rfl)|(apply Ap.guard;rfl;rfl)|(apply Aa.fn;rfl;rfl;exact VO _ (by omega);intro _;rfl)|(apply Aa.fn;rfl;rfl;exact hg (by omega) (by omega) (by omega) (by omega);intro _;rfl)|(apply Aa.assign;rfl)|(apply Aa.move;rfl)|(apply Aa.int;rfl;rfl;rfl)|(apply Aa.load;rfl;rfl)|(apply Aa.BH;rfl;rfl)|(apply Aa.AV;rfl;rfl)|(apply Aa.AU;rfl;rfl;rfl)|(apply Aa.box;rfl;trivial)|(apply Aa.NP;rfl;rfl;rfl;rfl;omega)|(apply Ad.Bd;rfl)|(apply Ad.Af;rfl)|(intro _;try (exfalso;omega)))
 all_goals (refine Done.ret rfl (.refl _) (by first|exact trivial|exact ⟨trivial,trivial,trivial⟩|exact ⟨trivial,trivial,trivial,trivial⟩) Aj.nil (Nat.zero_le _) (Nat.le_refl _) ⟨?_,rfl,rfl⟩;refine PV.int_eq ?_;unfold yD;first|(rw [if_neg (show ¬ tC x from fun h=>by unfold tC at h;omega)];done)|(rw [if_pos (show tC x from by unfold tC;omega)];done))
end Go.Proofs.YtdabojnmoejilaaGreatDoor
namespace Go.Proofs.YtdabojnmoejilaaGreatDoor
open Go Go.Am Go.Vm
attribute [local irreducible] Aa Ag Ap Ad BA AY CJ AO AL Aw Vm.Done Dc Bq
def qW (x:JU):Prop:=tC x∧0<x.num∧x.num≤128*x.den∧x.den≤128
instance (x:JU):Decidable (qW x):=by unfold qW;infer_instance
def OY (x:JU):Int:=if ¬ tC x then 2 else if x.num≤0∨x.num>128*x.den then 3 else if x.den>128 then 4 else 0
theorem OG {x:JU}:OY x=0↔qW x:=by
 unfold OY qW
 by_cases h1:tC x
 ·rw [if_neg (Classical.not_not.2 h1)]
  split
  ·constructor
   ·intro h;cases h
   ·rintro ⟨_,_,_,_⟩;omega
  ·split
   ·constructor
    ·intro h;cases h
    ·rintro ⟨_,_,_,_⟩;omega
   ·exact ⟨fun _=>⟨h1,by omega,by omega,by omega⟩,fun _=>rfl⟩
 ·rw [if_pos h1]
  exact ⟨fun h=>(by cases h),fun h=>absurd h.1 h1⟩
theorem KF (x:JU):AY env 86 [.agg (Enc.enc x)] (.p (.int .i64 (OY x))):=by
 have hc:=gu x
 refine AY.enter (AB (by decide)) Tryz.func86 rfl (by kernel_rfl) (by simp [Tryz.ntmps86]) ?_
 by_cases h1:tC x
 ·rw [show yD x=0 from if_pos h1] at hc
  have h1':=h1
  obtain ⟨h2,h3,h4,h5,-⟩:=h1'
  have e:OY x=if x.num≤0∨x.num>128*x.den then 3 else if x.den>128 then 4 else 0:=by unfold OY;rw [if_neg (Classical.not_not.2 h1)]
  rw [e]
  repeat' (first|apply Ad.AA|apply Ad.Ai|apply AO.normal|apply AO.ret|apply AL.normal|apply AL.ret|apply Ad.ret|apply Ad.skip|apply Ag.nil|apply Ag.one|(apply Ag.take;rfl;rfl)|(apply Ag.drop;rfl;rfl;rfl)|(apply Ag.guard;rfl;rfl)|(apply Aa.fn;rfl;rfl;exact hc;intro _;rfl)|(apply Aa.assign;rfl)|(apply Aa.move;rfl)|(apply Aa.Iy;rfl;rfl;omega)|(apply Aa.int;rfl;rfl;rfl)|(apply Aa.load;rfl;rfl)|(apply Aa.BH;rfl;rfl)|(apply Aa.AV;rfl;rfl)|(apply Aa.AU;rfl;rfl;rfl)|(apply Aa.box;rfl;trivial)|(apply Ad.cond_true;rfl)|(apply Ad.cond_false;rfl)|(apply Ad.A8;rfl)|(intro _;try (exfalso;omega)))
  all_goals first|(exfalso;omega)|(rw [if_pos (by omega)];(refine Done.ret rfl (.refl _) (by first|exact trivial|exact ⟨trivial,trivial,trivial⟩|exact ⟨trivial,trivial,trivial,trivial⟩) Aj.nil (Nat.zero_le _) (Nat.le_refl _) ⟨?_,rfl,rfl⟩;try rfl);done)|(rw [if_neg (by omega),if_pos (by omega)];(refine Done.ret rfl (.refl _) (by first|exact trivial|exact ⟨trivial,trivial,trivial⟩|exact ⟨trivial,trivial,trivial,trivial⟩) Aj.nil (Nat.zero_le _) (Nat.le_refl _) ⟨?_,rfl,rfl⟩;try rfl);done)|(rw [if_neg (by omega),if_neg (by omega)];(refine Done.ret rfl (.refl _) (by first|exact trivial|exact ⟨trivial,trivial,trivial⟩|exact ⟨trivial,trivial,trivial,trivial⟩) Aj.nil (Nat.zero_le _) (Nat.le_refl _) ⟨?_,rfl,rfl⟩;try rfl);done)
 ·rw [show yD x=2 from if_neg h1] at hc
  rw [show OY x=2 from if_pos h1]
  repeat' (first|apply Ad.AA|apply Ad.Ai|apply AO.ret|apply AL.ret|apply Ad.ret|apply Ag.nil|apply Ag.one|(apply Aa.fn;rfl;rfl;exact hc;intro _;rfl)|(apply Aa.assign;rfl)|(apply Aa.int;rfl;rfl;rfl)|(apply Aa.load;rfl;rfl)|(apply Aa.box;rfl;trivial)|(apply Ad.cond_true;rfl))
  all_goals (refine Done.ret rfl (.refl _) (by first|exact trivial|exact ⟨trivial,trivial,trivial⟩|exact ⟨trivial,trivial,trivial,trivial⟩) Aj.nil (Nat.zero_le _) (Nat.le_refl _) ⟨?_,rfl,rfl⟩;try rfl)
def bothR (x y:JU):Int:=if OY x≠0 then OY x else OY y
theorem jZ (x y:JU):AY env 67 [.agg (Enc.enc x),.agg (Enc.enc y)] (.p (.int .i64 (bothR x y))):=by
 have h1:=KF x
 have h2:=KF y
 unfold bothR
 refine AY.enter (AB (by decide)) Tryz.func67 rfl (by kernel_rfl) (by simp [Tryz.ntmps67]) ?_
 repeat' (first|apply Ad.assoc|apply Ad.AA|apply Ad.Aq|apply Ad.BO|apply Ad.ret|apply Ag.nil|apply Ag.one|(apply Aa.fn;rfl;rfl;exact h1;intro _;rfl)|(apply Aa.fn;rfl;rfl;exact h2;intro _;rfl)|(apply Aa.assign;rfl)|(apply Aa.move;rfl)|(apply Aa.int;rfl;rfl;rfl)|(apply Aa.load;rfl;rfl)|(apply Aa.box;rfl;trivial)|(apply Ad.Af;rfl)|(intro _;try (exfalso;omega)))
 all_goals first|(rw [if_pos (by assumption)];(refine Done.ret rfl (.refl _) (by first|exact trivial|exact ⟨trivial,trivial,trivial⟩|exact ⟨trivial,trivial,trivial,trivial⟩) Aj.nil (Nat.zero_le _) (Nat.le_refl _) ⟨?_,rfl,rfl⟩;try rfl);done)|(rw [if_neg (by assumption)];(refine Done.ret rfl (.refl _) (by first|exact trivial|exact ⟨trivial,trivial,trivial⟩|exact ⟨trivial,trivial,trivial,trivial⟩) Aj.nil (Nat.zero_le _) (Nat.le_refl _) ⟨?_,rfl,rfl⟩;try rfl);done)
def sh1 (den:Nat):Nat→Nat→Int→Nat×Int
 |0,num,n=>(num,n)
 |f+1,num,n=>if num<den then sh1 den f (num*2) (n-12) else (num,n)
def sh2 (num:Nat):Nat→Nat→Int→Nat×Int
 |0,den,n=>(den,n)
 |f+1,den,n=>if 2*den≤num then sh2 num f (den*2) (n+12) else (den,n)
def sh3 (p:Nat):Nat→Nat→Int→Int
 |0,l,n=>n
 |f+1,l,n=>if l<p then sh3 p f (l*4) (n+1) else n
def shN (num den:Nat):Int :=
 let a:=sh1 den 30 num 0
 let b:=sh2 a.1 30 den a.2
 sh3 (a.1 ^ 24) 30 (b.1 ^ 24*2) b.2
def wM (x y:JU):Int:=shN (y.num*x.den).toNat (y.den*x.num).toNat
theorem vZ (a b:Nat):X3 a b>0↔b<a:=by
 unfold X3
 split
 ·omega
 ·split<;>omega
theorem og {n k:Nat} (hk:0<k) (h:n<10 ^ k):Lib.nDigits n≤k:=by
 rcases Nat.eq_zero_or_pos n with h0|h0
 ·subst h0;rw [Lib.nDigits_small (by decide)];exact hk
 ·have h1:=Num.FQ n (by omega)
  have h2:10 ^ (Lib.nDigits n-1)<10 ^ k:=Nat.lt_of_le_of_lt h1 h
  have h3:=(Nat.pow_lt_pow_iff_right (a:=10) (by decide)).1 h2
  omega
theorem jV {n k e:Nat} (hk:0<k) (h:n<10 ^ k) (he:e≤100):Lib.nDigits (n ^ e)≤k*100:=by
 rcases Nat.eq_zero_or_pos e with h0|h0
 ·subst h0;rw [Nat.pow_zero,Lib.nDigits_small (by decide)];omega
 ·refine og (by omega) ?_
  have h1:n ^ e<(10 ^ k) ^ e:=Nat.pow_lt_pow_left h (by omega)
  rw [← Nat.pow_mul] at h1
  exact Nat.lt_of_lt_of_le h1 (Nat.pow_le_pow_right (by decide) (Nat.mul_le_mul_left _ he))
theorem wO {a b j k:Nat} (ha:Lib.nDigits a≤j) (hb:Lib.nDigits b≤k):Lib.nDigits (a*b)≤j+k:=by
 have h1:=Lib.lt_pow_nDigits a
 have h2:=Lib.lt_pow_nDigits b
 have hp:=Lib.nDigits_pos a
 refine og (by omega) ?_
 rw [Nat.pow_add]
 have h3:a<10 ^ j:=Nat.lt_of_lt_of_le h1 (Nat.pow_le_pow_right (by decide) ha)
 have h4:b<10 ^ k:=Nat.lt_of_lt_of_le h2 (Nat.pow_le_pow_right (by decide) hb)
 exact Nat.mul_lt_mul_of_lt_of_le h3 (Nat.le_of_lt h4) (Nat.pow_pos (by decide))
theorem Kr (x y:JU) (hx:qW x) (hy:qW y):AY env 68 [.agg (Enc.enc x),.agg (Enc.enc y)] (.p (.int .i64 (wM x y))):=by
 obtain ⟨⟨f1,-⟩,f2,f3,f4⟩:=hx
 obtain ⟨⟨g1,-⟩,g2,g3,g4⟩:=hy
 obtain ⟨xn,hxn⟩:∃ k:Nat,x.num=k:=⟨x.num.toNat,by omega⟩
 obtain ⟨xd,hxd⟩:∃ k:Nat,x.den=k:=⟨x.den.toNat,by omega⟩
 obtain ⟨yn,hyn⟩:∃ k:Nat,y.num=k:=⟨y.num.toNat,by omega⟩
 obtain ⟨yd,hyd⟩:∃ k:Nat,y.den=k:=⟨y.den.toNat,by omega⟩
 have b1:yn*xd≤16384*128:=Nat.mul_le_mul (by omega) (by omega)
 have b2:yd*xn≤128*16384:=Nat.mul_le_mul (by omega) (by omega)
 have p1:0<yn*xd:=Nat.mul_pos (by omega) (by omega)
 have p2:0<yd*xn:=Nat.mul_pos (by omega) (by omega)
 have c1:y.num*x.den=((yn*xd:Nat):Int):=by rw [hyn,hxd,Int.natCast_mul]
 have c2:y.den*x.num=((yd*xn:Nat):Int):=by rw [hyd,hxn,Int.natCast_mul]
 have e:wM x y=shN (yn*xd) (yd*xn):=by unfold wM;rw [c1,c2];rfl
 rw [e]
 generalize yn*xd=num at *
 generalize yd*xn=den at *
 have z1:-9223372036854775808≤y.num*x.den∧y.num*x.den<9223372036854775808:=by omega
 have z2:-9223372036854775808≤y.den*x.num∧y.den*x.num<9223372036854775808:=by omega
 refine AY.enter (AB (by decide)) Tryz.func68 rfl (by kernel_rfl) (by simp [Tryz.ntmps68]) ?_
 repeat' (first|apply Ad.AA|apply Ad.BJ|apply Ad.Ai|apply Ag.nil|apply Ap.nil|apply Ag.one|(apply Ap.bar;decide +kernel)|apply Ap.quiet|(apply Aa.assign;rfl)|(apply Aa.Iy;rfl;rfl;omega)|(apply Aa.load;rfl;rfl)|(apply Aa.AU;rfl;rfl;rfl)|(apply Aa.box;rfl;trivial))
 refine Ad.Eb (fun s:Nat×Nat=>[(5,.p (.int .i64 (s.2:Int))),(6,.p (.int .i64 (den:Int))),(7,.p (.int .i64 (-(12*(s.1:Int)))))]) (fun _=>[]) 0 (fun s=>s.1≤22∧s.2=num*2 ^ s.1∧s.2≤4194304∧sh1 den (30-s.1) s.2 (-(12*(s.1:Int)))=sh1 den 30 num 0) (fun s=>30-s.1) (0,num) (by omega) ⟨by omega,by simp,by simp only;omega,by simp⟩ ⟨by omega,?_,?_⟩ ?_
 ·simp only [c1,c2];repeat (first|exact Ae.nil|refine Ae.same trivial rfl ?_|refine Ae.same (Ac rfl) rfl ?_|refine Ae.same ⟨trivial,Ac rfl,Ac rfl,Ac rfl,trivial⟩ rfl ?_|refine Ae.same ⟨trivial,Ac rfl,Ac rfl,trivial⟩ rfl ?_|refine Ae.same ⟨trivial,trivial⟩ rfl ?_|refine Ae.cons trivial rfl (.of_eq (Ar (by simp<;>omega))) ?_)
 ·exact Aj.nil
 rintro ⟨i,m⟩ ⟨hi,hm,hm2,hs⟩
 simp only at hi hm hm2 hs
 have jR:∀ a b c:Nat,0<a→a*2 ^ b≤c→2 ^ b≤c:=fun a b c ha h=>Nat.le_trans (Nat.le_mul_of_pos_left _ ha) h
 have h21:∀ b:Nat,2 ^ b≤2 ^ 21→b≤21:=fun b h=>(Nat.pow_le_pow_iff_right (by decide)).1 h
 have a9p:0<m:=by rw [hm];exact Nat.mul_pos p1 (Nat.pow_pos (by decide))
 repeat' (first|apply Ad.assoc|apply Ad.AA|apply Ad.region|apply Ad.Aq|apply Ad.AZ|apply Ad.Ai|apply AO.normal|apply AL.normal|apply AL.exit|apply Aw.exit|apply Ag.nil|apply Ag.one|(apply Aa.assign;rfl)|(apply Aa.move;rfl)|(apply Aa.IC;rfl;rfl;omega)|(apply Aa.Iy;rfl;rfl;omega)|(apply Aa.int;rfl;rfl;rfl)|(apply Ad.Af;rfl)|(intro _;try (exfalso;omega)))
 ·rename_i a1
  simp only at a1
  have hi2:i≤20:=by
   have h1:num*2 ^ i<den:=by rw [← hm];omega
   have h2:2 ^ i<2 ^ 21:=Nat.lt_of_le_of_lt (jR _ _ _ p1 (Nat.le_refl _)) (by omega)
   have:=(Nat.pow_lt_pow_iff_right (a:=2) (by decide)).1 h2
   omega
  have e7:-(12*((i+1:Nat):Int))=-(12*(i:Int))-12:=by omega
  refine Aw.normal ⟨(i+1,m*2),⟨by simp only;omega,by simp only;rw [hm,Nat.pow_succ,Nat.mul_assoc],by simp only;omega,?_⟩,by simp only;omega,⟨by omega,?_,?_⟩⟩
  ·simp only
   rw [← hs,show 30-i=(30-(i+1))+1 by omega,e7]
   conv=>rhs;rw [sh1]
   rw [if_pos (by omega)]
  ·simp only [e7];repeat (first|exact Ae.nil|refine Ae.same trivial rfl ?_|refine Ae.same (Ac rfl) rfl ?_|refine Ae.same ⟨trivial,Ac rfl,Ac rfl,Ac rfl,trivial⟩ rfl ?_|refine Ae.same ⟨trivial,Ac rfl,Ac rfl,trivial⟩ rfl ?_|refine Ae.same ⟨trivial,trivial⟩ rfl ?_|refine Ae.cons trivial rfl (.of_eq (Ar (by simp<;>omega))) ?_)
  ·exact Aj.nil
 ·rename_i a1
  simp only at a1
  have hs1:sh1 den 30 num 0=(m,-(12*(i:Int))):=by
   rw [← hs]
   cases 30-i with
   |zero=>rfl
   |succ f=>rw [sh1,if_neg (by omega)]
  refine Ad.Eb (fun s:Nat×Nat=>[(5,.p (.int .i64 (m:Int))),(6,.p (.int .i64 (s.2:Int))),(7,.p (.int .i64 (-(12*(i:Int))+12*(s.1:Int))))]) (fun _=>[]) 0 (fun s=>s.1≤22∧s.2=den*2 ^ s.1∧s.2≤4194304∧sh2 m (30-s.1) s.2 (-(12*(i:Int))+12*(s.1:Int))=sh2 m 30 den (-(12*(i:Int)))) (fun s=>30-s.1) (0,den) (by omega) ⟨by omega,by simp,by simp only;omega,by simp⟩ ⟨by omega,?_,?_⟩ ?_
  ·have e7:-(12*(i:Int))+12*((0:Nat):Int)=-(12*(i:Int)):=by omega
   simp only [e7];repeat (first|exact Ae.nil|refine Ae.same trivial rfl ?_|refine Ae.same (Ac rfl) rfl ?_|refine Ae.same ⟨trivial,Ac rfl,Ac rfl,Ac rfl,trivial⟩ rfl ?_|refine Ae.same ⟨trivial,Ac rfl,Ac rfl,trivial⟩ rfl ?_|refine Ae.same ⟨trivial,trivial⟩ rfl ?_|refine Ae.cons trivial rfl (.of_eq (Ar (by simp<;>omega))) ?_)
  ·exact Aj.nil
  rintro ⟨j,d⟩ ⟨hj,hd,hd2,ht⟩
  simp only at hj hd hd2 ht
  have a5r:0<d:=by rw [hd];exact Nat.mul_pos p2 (Nat.pow_pos (by decide))
  by_cases hdm:2*d≤m
  ·repeat' (first|apply Ad.assoc|apply Ad.AA|apply Ad.region|apply Ad.Aq|apply Ad.Ai|apply AO.normal|apply AL.normal|apply Ag.nil|apply Ag.one|(apply Aa.assign;rfl)|(apply Aa.move;rfl)|(apply Aa.Bv;rfl;rfl;omega)|(apply Aa.Iy;rfl;rfl;omega)|(apply Aa.int;rfl;rfl;rfl)|(apply Ad.Af;rfl)|(intro _;try (exfalso;omega)))
   all_goals try (exfalso;omega)
   have hj2:j≤21:=by
    have h1:den*2 ^ j≤2 ^ 21:=by rw [← hd];omega
    exact h21 _ (jR _ _ _ p2 h1)
   have e7:-(12*(i:Int))+12*((j+1:Nat):Int)=-(12*(i:Int))+12*(j:Int)+12:=by omega
   refine Aw.normal ⟨(j+1,d*2),⟨by simp only;omega,by simp only;rw [hd,Nat.pow_succ,Nat.mul_assoc],by simp only;omega,?_⟩,by simp only;omega,⟨by omega,?_,?_⟩⟩
   ·simp only
    rw [← ht,show 30-j=(30-(j+1))+1 by omega,e7]
    conv=>rhs;rw [sh2]
    rw [if_pos hdm]
   ·simp only [e7];repeat (first|exact Ae.nil|refine Ae.same trivial rfl ?_|refine Ae.same (Ac rfl) rfl ?_|refine Ae.same ⟨trivial,Ac rfl,Ac rfl,Ac rfl,trivial⟩ rfl ?_|refine Ae.same ⟨trivial,Ac rfl,Ac rfl,trivial⟩ rfl ?_|refine Ae.same ⟨trivial,trivial⟩ rfl ?_|refine Ae.cons trivial rfl (.of_eq (Ar (by simp<;>omega))) ?_)
   ·exact Aj.nil
  ·have hs2:sh2 m 30 den (-(12*(i:Int)))=(d,-(12*(i:Int))+12*(j:Int)):=by
    rw [← ht]
    cases 30-j with
    |zero=>rfl
    |succ f=>rw [sh2,if_neg hdm]
   have hR:shN num den=sh3 (m ^ 24) 30 (d ^ 24*2) (-(12*(i:Int))+12*(j:Int)):=by
    unfold shN;rw [hs1];simp only;rw [hs2]
   rw [hR]
   have om:=Z7 (m:Int) (by omega)
   have od:=Z7 (d:Int) (by omega)
   rw [fO] at om od
   have nm:Lib.nDigits m≤7:=og (by decide) (by omega)
   have nd:Lib.nDigits d≤7:=og (by decide) (by omega)
   have pm:=WH m 24 (by decide) (by omega) (by omega)
   have pd:=WH d 24 (by decide) (by omega) (by omega)
   have np:Lib.nDigits (m ^ 24)≤700:=jV (k:=7) (by decide) (by omega) (by decide)
   have nq:Lib.nDigits (d ^ 24)≤700:=jV (k:=7) (by decide) (by omega) (by decide)
   have n2:Lib.nDigits 2=1:=Lib.nDigits_small (by decide)
   have n4:Lib.nDigits 4=1:=Lib.nDigits_small (by decide)
   have q2:=iD (d ^ 24) 2 (by omega) (by omega)
   rw [show Lib.decDigits 2=[50] by decide +kernel] at q2
   have hpq:m ^ 24<2 ^ 24*d ^ 24:=by
    rw [← Nat.mul_pow]
    exact Nat.pow_lt_pow_left (by omega) (by decide)
   have b0i:0<d ^ 24:=Nat.pow_pos a5r
   generalize m ^ 24=p at *
   generalize d ^ 24=q at *
   repeat' (first|apply Ad.assoc|apply Ad.AA|apply Ad.AZ|apply Ad.Ai|apply AO.normal|apply AL.exit|apply Aw.exit|apply Ag.nil|apply Ag.one|(apply Aa.fn;rfl;rfl;exact om;intro _;rfl)|(apply Aa.fn;rfl;rfl;exact od;intro _;rfl)|(apply Aa.fn;rfl;rfl;exact pm;intro _;rfl)|(apply Aa.fn;rfl;rfl;exact pd;intro _;rfl)|(apply Aa.fn;rfl;rfl;exact q2;intro _;rfl)|(apply Aa.assign;rfl)|(apply Aa.move;rfl)|(apply Aa.Iy;rfl;rfl;omega)|(apply Aa.int;rfl;rfl;rfl)|(apply Aa.extract;rfl;rfl)|(apply Ad.Af;rfl)|(intro _;try (exfalso;omega)))
   all_goals try (exfalso;omega)
   generalize hn0:-(12*(i:Int))+12*(j:Int)=n0 at *
   have b2h:-1000≤n0∧n0≤1000:=by omega
   refine Ad.Eb (fun k:Nat=>[(8,st (Lib.decDigits p)),(12,st (Lib.decDigits (q*2*4 ^ k))),(7,.p (.int .i64 (n0+(k:Int))))]) (fun _=>[]) 0 (fun k=>k≤20∧sh3 p (30-k) (q*2*4 ^ k) (n0+(k:Int))=sh3 p 30 (q*2) n0) (fun k=>30-k) 0 (by omega) ⟨by omega,by simp⟩ ⟨by omega,?_,?_⟩ ?_
   ·have e7:n0+((0:Nat):Int)=n0:=by omega
    rw [e7,Nat.pow_zero,Nat.mul_one];repeat (first|exact Ae.nil|refine Ae.same trivial rfl ?_|refine Ae.same (Ac rfl) rfl ?_|refine Ae.same ⟨trivial,Ac rfl,Ac rfl,Ac rfl,trivial⟩ rfl ?_|refine Ae.same ⟨trivial,Ac rfl,Ac rfl,trivial⟩ rfl ?_|refine Ae.same ⟨trivial,trivial⟩ rfl ?_|refine Ae.cons trivial rfl (.of_eq (Ar (by simp<;>omega))) ?_)
   ·exact Aj.nil
   rintro k ⟨hk,hs⟩
   have nl:Lib.nDigits (q*2*4 ^ k)≤1000:=by
    have h1:=wO (a:=q) (b:=2) (j:=700) (k:=1) (by omega) (by omega)
    have h2:Lib.nDigits (4 ^ k)≤100:=jV (n:=4) (k:=1) (by decide) (by decide) (by omega)
    have h3:=wO h1 h2
    omega
   have cc:=ZV p (q*2*4 ^ k) (by omega) (by omega)
   have q4:=iD (q*2*4 ^ k) 4 (by omega) (by omega)
   rw [show Lib.decDigits 4=[52] by decide +kernel] at q4
   have hcp:=vZ p (q*2*4 ^ k)
   by_cases hlt:q*2*4 ^ k<p
   ·have hc:=hcp.2 hlt
    have hk2:k≤12:=by
     have h1:q*(2*4 ^ k)<q*2 ^ 24:=by rw [← Nat.mul_assoc,Nat.mul_comm q (2 ^ 24)];omega
     have h2:=Nat.lt_of_mul_lt_mul_left h1
     have h3:2*4 ^ k=2 ^ (1+2*k):=by rw [Nat.pow_add,Nat.pow_mul,Nat.pow_one]
     rw [h3] at h2
     have:=(Nat.pow_lt_pow_iff_right (a:=2) (by decide)).1 h2
     omega
    have e7:n0+((k+1:Nat):Int)=n0+(k:Int)+1:=by omega
    repeat' (first|apply Ad.assoc|apply Ad.AA|apply Ad.region|apply Ad.Aq|apply Ad.Ai|apply AO.normal|apply AL.normal|apply Ag.nil|apply Ag.one|(apply Aa.fn;rfl;rfl;exact cc;intro _;rfl)|(apply Aa.fn;rfl;rfl;exact q4;intro _;rfl)|(apply Aa.assign;rfl)|(apply Aa.move;rfl)|(apply Aa.Bv;rfl;rfl;omega)|(apply Aa.int;rfl;rfl;rfl)|(apply Ad.Af;rfl)|(intro _;try (exfalso;omega)))
    all_goals try (exfalso;omega)
    refine Aw.normal ⟨k+1,⟨by omega,?_⟩,by omega,⟨by omega,?_,?_⟩⟩
    ·rw [← hs,show 30-k=(30-(k+1))+1 by omega,e7]
     conv=>rhs;rw [sh3]
     rw [if_pos hlt,Nat.pow_succ,Nat.mul_assoc (q*2)]
    ·rw [e7,Nat.pow_succ,← Nat.mul_assoc];repeat (first|exact Ae.nil|refine Ae.same trivial rfl ?_|refine Ae.same (Ac rfl) rfl ?_|refine Ae.same ⟨trivial,Ac rfl,Ac rfl,Ac rfl,trivial⟩ rfl ?_|refine Ae.same ⟨trivial,Ac rfl,Ac rfl,trivial⟩ rfl ?_|refine Ae.same ⟨trivial,trivial⟩ rfl ?_|refine Ae.cons trivial rfl (.of_eq (Ar (by simp<;>omega))) ?_)
    ·exact Aj.nil
   ·have hc:¬ X3 p (q*2*4 ^ k)>0:=fun h=>hlt (hcp.1 h)
    have hR3:sh3 p 30 (q*2) n0=n0+(k:Int):=by
     rw [← hs]
     cases 30-k with
     |zero=>rfl
     |succ f=>rw [sh3,if_neg hlt]
    rw [hR3]
    repeat' (first|apply Ad.assoc|apply Ad.AA|apply Ad.AZ|apply AO.normal|apply AL.exit|apply Aw.exit|apply Ad.ret|apply Ag.nil|apply Ag.one|(apply Aa.fn;rfl;rfl;exact cc;intro _;rfl)|(apply Aa.assign;rfl)|(apply Aa.move;rfl)|(apply Aa.int;rfl;rfl;rfl)|(apply Ad.Af;rfl)|(intro _;try (exfalso;omega)))
    all_goals first|(exfalso;omega)|(refine Done.ret rfl (.refl _) (by first|exact trivial|exact ⟨trivial,trivial,trivial⟩|exact ⟨trivial,trivial,trivial,trivial⟩) Aj.nil (Nat.zero_le _) (Nat.le_refl _) ⟨?_,rfl,rfl⟩;try rfl)
def BZ (x y:JU):Int×Int:=if bothR x y≠0 then (0,bothR x y) else (wM x y,0)
theorem yc {x y:JU}:bothR x y=0↔qW x∧qW y:=by
 unfold bothR
 rw [← OG,← OG]
 split
 ·rename_i h;exact ⟨fun h'=>absurd h' h,fun h'=>absurd h'.1 h⟩
 ·rename_i h;exact ⟨fun h'=>⟨Classical.not_not.1 h,h'⟩,fun h'=>h'.2⟩
theorem KE (x y:JU):AY env 44 [.agg (Enc.enc x),.agg (Enc.enc y)] (.EX [.p (.int .i64 (BZ x y).1),.p (.int .i64 (BZ x y).2)]):=by
 have hb:=jZ x y
 by_cases h:bothR x y=0
 ·rw [h] at hb
  have ok:=yc.1 h
  have hs:=Kr x y ok.1 ok.2
  rw [show BZ x y=(wM x y,0) from if_neg (fun h'=>h' h)]
  refine AY.enter (AB (by decide)) Tryz.func44 rfl (by kernel_rfl) (by simp [Tryz.ntmps44]) ?_
  repeat' (first|apply Ad.assoc|apply Ad.AA|apply Ad.Aq|apply Ad.ret|apply Ag.nil|apply Ag.one|(apply Aa.fn;rfl;rfl;exact hb;intro _;rfl)|(apply Aa.fn;rfl;rfl;exact hs;intro _;rfl)|(apply Aa.assign;rfl)|(apply Aa.move;rfl)|(apply Aa.int;rfl;rfl;rfl)|(apply Aa.load;rfl;rfl)|(apply Aa.box;rfl;trivial)|(apply Ad.Au;rfl))
  all_goals first|(exfalso;omega)|(refine Done.ret rfl (.refl _) (by first|exact trivial|exact ⟨trivial,trivial,trivial⟩|exact ⟨trivial,trivial,trivial,trivial⟩) Aj.nil (Nat.zero_le _) (Nat.le_refl _) ⟨?_,rfl,rfl⟩;try rfl)
 ·rw [show BZ x y=(0,bothR x y) from if_pos h]
  refine AY.enter (AB (by decide)) Tryz.func44 rfl (by kernel_rfl) (by simp [Tryz.ntmps44]) ?_
  repeat' (first|apply Ad.assoc|apply Ad.AA|apply Ad.BO|apply Ag.nil|apply Ag.one|(apply Aa.fn;rfl;rfl;exact hb;intro _;rfl)|(apply Aa.assign;rfl)|(apply Aa.move;rfl)|(apply Aa.int;rfl;rfl;rfl)|(apply Aa.load;rfl;rfl)|(apply Aa.box;rfl;trivial)|(apply Ad.Af;rfl)|(intro _;try (exfalso;omega)))
  all_goals first|(exfalso;omega)|(refine Done.ret rfl (.refl _) (by first|exact trivial|exact ⟨trivial,trivial,trivial⟩|exact ⟨trivial,trivial,trivial,trivial⟩) Aj.nil (Nat.zero_le _) (Nat.le_refl _) ⟨?_,rfl,rfl⟩;try rfl)
end Go.Proofs.YtdabojnmoejilaaGreatDoor
namespace Go.Proofs.YtdabojnmoejilaaGreatDoor
open Go Go.Am Go.Vm
attribute [local irreducible] Aa Ag Ap Ad BA AY CJ AO AL Aw Vm.Done Dc Bq
structure FU where
 name:List UInt8
 EC:List UInt8
 Dp:JU
 first:Int
 EP:List Int
instance:Enc FU:={ default:=⟨[],[],⟨0,0⟩,0,[]⟩,enc:=fun r=>[.str (bs r.name),.str (bs r.EC),.int .i64 r.Dp.num,.int .i64 r.Dp.den,.int .i64 r.first,.lst 3 (cells r.EP) r.EP.length],size:=6,len:=fun _=>rfl }
theorem PV.Rn {a b:Bool} (h:a=b):PV.p (.bool a)=PV.p (.bool b):=by rw [h]
def Yc (x:Int):Prop:=x<0∨x>1000000
instance (x:Int):Decidable (Yc x):=by unfold Yc;infer_instance
theorem yF (x:Int):AY env 107 [.int .i64 x] (.p (.bool (decide (Yc x)))):=by
 refine AY.enter (AB (by decide)) Tryz.func107 rfl (by kernel_rfl) (by simp [Tryz.ntmps107]) ?_
 repeat' (first|apply Ad.AA|apply Ad.ret|apply Ag.nil|apply Ag.one|(apply Ag.take;rfl;rfl)|(apply Ag.drop;rfl;rfl;rfl)|(apply Ag.guard;rfl;rfl)|(apply Aa.assign;rfl)|(apply Aa.move;rfl)|(apply Aa.int;rfl;rfl;rfl)|(apply Aa.BH;rfl;rfl)|(apply Aa.AV;rfl;rfl)|(intro _;try (exfalso;omega)))
 all_goals (refine Done.ret rfl (.refl _) (by first|exact trivial|exact ⟨trivial,trivial,trivial⟩|exact ⟨trivial,trivial,trivial,trivial⟩) Aj.nil (Nat.zero_le _) (Nat.le_refl _) ⟨?_,rfl,rfl⟩;refine PV.Rn ?_;first|(refine decide_eq_decide.2 ⟨fun h=>by unfold Yc;omega,fun h=>by unfold Yc at h;omega⟩)|(symm;apply decide_eq_true;unfold Yc;omega))
def okW (l:List Int):Prop:=∀ i,i<l.length→¬ Yc (gi l i)
noncomputable instance (l:List Int):Decidable (okW l):=Classical.propDecidable _
noncomputable def DT (l:List Int):Int:=if okW l then 0 else 3
theorem a2i {L:Vm.Frame} {H:Vm.Heap} {nx:Nat} {Q:PV→Vm.Heap→Nat→Prop} {dst:Option Tmp} {ty:TypeId} {pos:String} {af:Array Edge} {gd:Option (Nat×Bool)} {fo:Operand} {args:Array Operand} {aT:Array TypeId} {fs cs xs:List PV} {c:Code}
 (hf:Bz env.Γ L fo=some (.clo 75 fs cs)) (ha:evs env.Γ L args.toList=some xs) (hb:Tryz.f75.body=some c) (hn:(fs++xs++cs).length≤Tryz.f75.ntmps)
 (h:Ad env nx c (CP 0 (fs++xs++cs)) H nx (Bq env.P Tryz.f75.results.toList Q)):Aa env true ⟨dst,.call { callee:=.value fo,args:=args,argTypes:=aT },ty,pos,af,gd⟩ L H nx Q:=by
 have h0:(match Tryz.f75.body with|some c=>H6 env.G Tryz.f75 c|none=>false)=true:=by kernel_rfl
 rw [hb] at h0
 exact Aa.inline rfl hf ha (AB (by decide)) Tryz.func75 hb h0 hn h
theorem a1e {L:Vm.Frame} {H:Vm.Heap} {nx:Nat} {Q:PV→Vm.Heap→Nat→Prop} {dst:Option Tmp} {ty:TypeId} {pos:String} {af:Array Edge} {gd:Option (Nat×Bool)} {fo:Operand} {args:Array Operand} {aT:Array TypeId} {fs cs xs:List PV} {c:Code}
 (hf:Bz env.Γ L fo=some (.clo 104 fs cs)) (ha:evs env.Γ L args.toList=some xs) (hb:Tryz.f104.body=some c) (hn:(fs++xs++cs).length≤Tryz.f104.ntmps)
 (h:Ad env nx c (CP 0 (fs++xs++cs)) H nx (Bq env.P Tryz.f104.results.toList Q)):Aa env true ⟨dst,.call { callee:=.value fo,args:=args,argTypes:=aT },ty,pos,af,gd⟩ L H nx Q:=by
 have h0:(match Tryz.f104.body with|some c=>H6 env.G Tryz.f104 c|none=>false)=true:=by kernel_rfl
 rw [hb] at h0
 exact Aa.inline rfl hf ha (AB (by decide)) Tryz.func104 hb h0 hn h
theorem kJ (l:List Int) (hl:l.length<9223372036854775808):AY env 88 [.lst 3 (cells l) l.length] (.p (.int .i64 (DT l))):=by
 refine AY.enter (AB (by decide)) Tryz.func88 rfl (by kernel_rfl) (by simp [Tryz.ntmps88]) ?_
 repeat' (first|apply Ad.assoc|apply Ad.AA|apply Ad.Ai|apply Ag.nil|apply Ag.one|(apply a2i;rfl;rfl;rfl;exact le_dec rfl)|(apply a1e;rfl;rfl;rfl;exact le_dec rfl)|(apply Aa.assign;rfl)|(apply Aa.move;rfl)|(apply Aa.BI;rfl;rfl))
 refine Ad.Eb (fun k:Nat=>[(0,lst 3 l),(1,.clo 107 [] []),(7,.p (.int .i64 (l.length:Int))),(8,.p (.int .i64 (k:Int)))]) (fun _=>[]) 0 (fun k=>k≤l.length∧∀ i,i<k→¬ Yc (gi l i)) (fun k=>l.length-k) 0 (by omega) ⟨by omega,fun i hi=>by omega⟩ ⟨by omega,?_,?_⟩ ?_
 ·repeat (first|exact Ae.nil|refine Ae.same trivial rfl ?_|refine Ae.same (Ac rfl) rfl ?_|refine Ae.same ⟨trivial,Ac rfl,Ac rfl,Ac rfl,trivial⟩ rfl ?_|refine Ae.same ⟨trivial,Ac rfl,Ac rfl,trivial⟩ rfl ?_|refine Ae.same ⟨trivial,trivial⟩ rfl ?_|refine Ae.cons trivial rfl (.of_eq (Ar (by simp<;>omega))) ?_)
 ·exact Aj.nil
 rintro k ⟨hk,hok⟩
 have hw:=yF (gi l k)
 repeat' (first|apply Ad.assoc|apply Ad.AA|apply Ad.region|apply Ad.Aq|apply Ad.BO|apply Ad.AZ|apply Ad.Ai|apply AO.normal|apply AO.ret|(apply Bq.ret;rfl)|apply AL.normal|apply AL.ret|apply AL.exit|apply Aw.ret|apply Aw.exit|apply Ad.ret|apply Ad.skip|apply Ag.nil|apply Ag.one|(apply Aa.fn;rfl;rfl;exact hw;intro _;rfl)|(apply Aa.assign;rfl)|(apply Aa.move;rfl)|(apply Aa.Bv;rfl;rfl;omega)|(apply Aa.int;rfl;rfl;rfl)|(apply Aa.AP;rfl;rfl;rfl;omega;rfl)|(apply Aa.load;rfl;rfl)|(apply Ad.Bd;rfl)|(apply Ad.Au;rfl)|(apply Ad.Af;rfl)|(apply Ad.A8;rfl)|(intro _;try (exfalso;omega)))
 ·rename_i a1 a2
  rw [show DT l=3 from if_neg (fun h=>h k (by omega) a2)]
  (refine Done.ret rfl (.refl _) (by first|exact trivial|exact ⟨trivial,trivial,trivial⟩|exact ⟨trivial,trivial,trivial,trivial⟩) Aj.nil (Nat.zero_le _) (Nat.le_refl _) ⟨?_,rfl,rfl⟩;try rfl)
 ·rename_i a1 a2
  refine Aw.normal ⟨k+1,⟨by omega,fun i hi=>?_⟩,by omega,⟨by omega,?_,?_⟩⟩
  ·rcases Nat.lt_or_ge i k with h|h
   ·exact hok i h
   ·obtain rfl:i=k:=by omega
    exact a2
  ·repeat (first|exact Ae.nil|refine Ae.same trivial rfl ?_|refine Ae.same (Ac rfl) rfl ?_|refine Ae.same ⟨trivial,Ac rfl,Ac rfl,Ac rfl,trivial⟩ rfl ?_|refine Ae.same ⟨trivial,Ac rfl,Ac rfl,trivial⟩ rfl ?_|refine Ae.same ⟨trivial,trivial⟩ rfl ?_|refine Ae.cons trivial rfl (.of_eq (Ar (by simp<;>omega))) ?_)
  ·exact Aj.nil
 ·rename_i a1
  rw [show DT l=0 from if_pos (fun i hi=>hok i (by omega))]
  (refine Done.ret rfl (.refl _) (by first|exact trivial|exact ⟨trivial,trivial,trivial⟩|exact ⟨trivial,trivial,trivial,trivial⟩) Aj.nil (Nat.zero_le _) (Nat.le_refl _) ⟨?_,rfl,rfl⟩;try rfl)
def bY (c:Nat):Prop:=(65≤c∧c≤90)∨(97≤c∧c≤122)
instance (c:Nat):Decidable (bY c):=by unfold bY;infer_instance
def nmC (c:Nat):Prop:=bY c∨(48≤c∧c≤57)∨c=95
theorem TW (c:Nat) (hc:c<256):AY env 85 [.int .u8 (c:Int)] (.p (.bool (decide (bY c)))):=by
 refine AY.enter (AB (by decide)) Tryz.func85 rfl (by kernel_rfl) (by simp [Tryz.ntmps85]) ?_
 repeat' (first|apply Ad.AA|apply Ad.ret|apply Ag.nil|apply Ag.one|(apply Ag.take;rfl;rfl)|(apply Ag.drop;rfl;rfl;rfl)|(apply Ag.guard;rfl;rfl)|(apply Ag.nZ;rfl;rfl)|(apply Aa.assign;rfl)|(apply Aa.move;rfl)|(apply Aa.int;rfl;rfl;rfl)|(apply Aa.BH;rfl;rfl)|(apply Aa.AV;rfl;rfl)|(intro _;try (exfalso;omega)))
 all_goals (refine Done.ret rfl (.refl _) (by first|exact trivial|exact ⟨trivial,trivial,trivial⟩|exact ⟨trivial,trivial,trivial,trivial⟩) Aj.nil (Nat.zero_le _) (Nat.le_refl _) ⟨?_,rfl,rfl⟩;refine PV.Rn ?_;first|(refine decide_eq_decide.2 ⟨fun h=>by unfold bY;omega,fun h=>by unfold bY at h;omega⟩)|(symm;apply decide_eq_true;unfold bY;omega)|(symm;apply decide_eq_false;unfold bY;omega))
def C9 (s:List UInt8):Prop:=0<s.length∧s.length≤32∧bY (gi s 0).toNat∧∀ i,1≤i→i<s.length→nmC (gi s i).toNat
noncomputable instance (s:List UInt8):Decidable (C9 s):=Classical.propDecidable _
theorem Hw (s:List UInt8) (hs:s.length<9223372036854775808):AY env 57 [.str (bs s)] (.p (.bool (decide (C9 s)))):=by
 have hl0:=TW (gi s 0).toNat (gi s 0).toNat_lt
 by_cases hz:s=[]
 ·subst hz
  rw [decide_eq_false (show ¬ C9 [] from fun h=>absurd h.1 (by decide))]
  refine AY.enter (AB (by decide)) Tryz.func57 rfl (by kernel_rfl) (by simp [Tryz.ntmps57]) ?_
  repeat' (first|apply Ad.assoc|apply Ad.AA|apply Ad.BO|apply Ag.nil|apply Ag.one|(apply Ag.drop;rfl;rfl;rfl)|(apply Aa.assign;rfl)|(apply Aa.move;rfl)|(apply Aa.BH;rfl;rfl)|(apply Aa.eqS;rfl;rfl)|(apply Ad.Bd;rfl))
  all_goals first|(refine Done.ret rfl (.refl _) (by first|exact trivial|exact ⟨trivial,trivial,trivial⟩|exact ⟨trivial,trivial,trivial,trivial⟩) Aj.nil (Nat.zero_le _) (Nat.le_refl _) ⟨?_,rfl,rfl⟩;try rfl)|contradiction
 ·have hpos:0<s.length:=List.length_pos_iff.2 hz
  refine AY.enter (AB (by decide)) Tryz.func57 rfl (by kernel_rfl) (by simp [Tryz.ntmps57]) ?_
  by_cases h32:s.length≤32
  ·by_cases hL:bY (gi s 0).toNat
   ·rw [decide_eq_true hL] at hl0
    repeat' (first|apply Ad.assoc|apply Ad.AA|apply Ad.Aq|apply Ad.BO|apply Ad.Ai|apply Ag.nil|apply Ag.one|(apply Ag.take;rfl;rfl)|(apply Ag.drop;rfl;rfl;rfl)|(apply Ag.guard;rfl;rfl)|(apply Aa.fn;rfl;rfl;exact hl0;intro _;rfl)|(apply Aa.Q5 (i:=0);rfl;rfl;rfl;omega)|(apply Aa.assign;rfl)|(apply Aa.move;rfl)|(apply Aa.int;rfl;rfl;rfl)|(apply Aa.BH;rfl;rfl)|(apply Aa.AV;rfl;rfl)|(apply Aa.Kw;rfl;rfl)|(apply Aa.eqS;rfl;rfl)|(apply Aa.not;rfl)|(apply Ad.Bd;rfl)|(apply Ad.Au;rfl)|(intro _;try (exfalso;omega)))
    all_goals try (exfalso;omega)
    all_goals try contradiction
    refine Ad.Eb (fun k:Nat=>[(0,st s),(3,.p (.int .i64 (k:Int)))]) (fun _=>[]) 0 (fun k=>1≤k∧k≤s.length∧∀ i,1≤i→i<k→nmC (gi s i).toNat) (fun k=>s.length-k) 1 (by omega) ⟨by omega,by omega,fun i h1 h2=>by omega⟩ ⟨by omega,?_,?_⟩ ?_
    ·repeat (first|exact Ae.nil|refine Ae.same trivial rfl ?_|refine Ae.same (Ac rfl) rfl ?_|refine Ae.same ⟨trivial,Ac rfl,Ac rfl,Ac rfl,trivial⟩ rfl ?_|refine Ae.same ⟨trivial,Ac rfl,Ac rfl,trivial⟩ rfl ?_|refine Ae.same ⟨trivial,trivial⟩ rfl ?_|refine Ae.cons trivial rfl (.of_eq (Ar (by simp<;>omega))) ?_)
    ·exact Aj.nil
    rintro k ⟨hk1,hk2,hok⟩
    have hlk:=TW (gi s k).toNat (gi s k).toNat_lt
    have hc256:=(gi s k).toNat_lt
    have hnext:nmC (gi s k).toNat→∀ i,1≤i→i<k+1→nmC (gi s i).toNat:=fun h i h1 h2=>by
     rcases Nat.lt_or_ge i k with h3|h3
     ·exact hok i h1 h3
     ·obtain rfl:i=k:=by omega
      exact h
    have hbad:k<s.length→¬ nmC (gi s k).toNat→decide (C9 s)=false:=fun h1 h2=>decide_eq_false fun h=>h2 (h.2.2.2 k hk1 h1)
    by_cases hkl:k<s.length
    ·by_cases hLk:bY (gi s k).toNat
     ·rw [decide_eq_true hLk] at hlk
      repeat' (first|apply Ad.assoc|apply Ad.AA|apply Ad.region|apply Ad.Aq|apply Ad.Ai|apply AO.normal|apply AL.normal|apply Ad.skip|apply Ag.nil|apply Ag.one|(apply Ag.drop;rfl;rfl;rfl)|(apply Ag.nZ;rfl;rfl)|(apply Aa.fn;rfl;rfl;exact hlk;intro _;rfl)|(apply Aa.assign;rfl)|(apply Aa.move;rfl)|(apply Aa.Bv;rfl;rfl;omega)|(apply Aa.int;rfl;rfl;rfl)|(apply Aa.AV;rfl;rfl)|(apply Aa.Kw;rfl;rfl)|(apply Aa.Q5;rfl;rfl;rfl;omega)|(apply Aa.not;rfl)|(apply Ad.Af;rfl)|(apply Ad.cond_false;rfl)|(intro _;try (exfalso;omega)))
      all_goals try (exfalso;omega)
      refine Aw.normal ⟨k+1,⟨by omega,by omega,hnext (.inl hLk)⟩,by omega,⟨by omega,?_,?_⟩⟩
      ·repeat (first|exact Ae.nil|refine Ae.same trivial rfl ?_|refine Ae.same (Ac rfl) rfl ?_|refine Ae.same ⟨trivial,Ac rfl,Ac rfl,Ac rfl,trivial⟩ rfl ?_|refine Ae.same ⟨trivial,Ac rfl,Ac rfl,trivial⟩ rfl ?_|refine Ae.same ⟨trivial,trivial⟩ rfl ?_|refine Ae.cons trivial rfl (.of_eq (Ar (by simp<;>omega))) ?_)
      ·exact Aj.nil
     ·rw [decide_eq_false hLk] at hlk
      have hn1:nmC (gi s k).toNat↔(48≤(gi s k).toNat∧(gi s k).toNat≤57)∨(gi s k).toNat=95:=⟨fun h=>h.resolve_left hLk,fun h=>.inr h⟩
      repeat' (first|apply Ad.assoc|apply Ad.AA|apply Ad.region|apply Ad.Aq|apply Ad.Ai|apply AO.normal|apply AO.ret|apply AL.normal|apply AL.ret|apply Aw.ret|apply Ad.ret|apply Ad.skip|apply Ag.nil|apply Ag.one|(apply Ag.take;rfl;rfl)|(apply Ag.drop;rfl;rfl;rfl)|(apply Ag.guard;rfl;rfl)|(apply Aa.fn;rfl;rfl;exact hlk;intro _;rfl)|(apply Aa.assign;rfl)|(apply Aa.move;rfl)|(apply Aa.Bv;rfl;rfl;omega)|(apply Aa.int;rfl;rfl;rfl)|(apply Aa.BH;rfl;rfl)|(apply Aa.AV;rfl;rfl)|(apply Aa.Kw;rfl;rfl)|(apply Aa.Q5;rfl;rfl;rfl;omega)|(apply Aa.not;rfl)|(apply Ad.Af;rfl)|(apply Ad.cond_false;rfl)|(apply Ad.A8;rfl)|(intro _;try (exfalso;omega)))
      all_goals try (exfalso;omega)
      all_goals first
       |(rw [hbad hkl (fun h=>by have:=hn1.1 h;omega)];(refine Done.ret rfl (.refl _) (by first|exact trivial|exact ⟨trivial,trivial,trivial⟩|exact ⟨trivial,trivial,trivial,trivial⟩) Aj.nil (Nat.zero_le _) (Nat.le_refl _) ⟨?_,rfl,rfl⟩;try rfl);done)
       |(refine Aw.normal ⟨k+1,⟨by omega,by omega,hnext (hn1.2 (by omega))⟩,by omega,⟨by omega,?_,Aj.nil⟩⟩;repeat (first|exact Ae.nil|refine Ae.same trivial rfl ?_|refine Ae.same (Ac rfl) rfl ?_|refine Ae.same ⟨trivial,Ac rfl,Ac rfl,Ac rfl,trivial⟩ rfl ?_|refine Ae.same ⟨trivial,Ac rfl,Ac rfl,trivial⟩ rfl ?_|refine Ae.same ⟨trivial,trivial⟩ rfl ?_|refine Ae.cons trivial rfl (.of_eq (Ar (by simp<;>omega))) ?_))
    ·obtain rfl:k=s.length:=by omega
     rw [decide_eq_true (show C9 s from ⟨hpos,h32,hL,fun i h1 h2=>hok i h1 h2⟩)]
     repeat' (first|apply Ad.assoc|apply Ad.AA|apply Ad.AZ|apply AO.normal|apply AL.exit|apply Aw.exit|apply Ad.ret|apply Ag.nil|apply Ag.one|(apply Aa.assign;rfl)|(apply Aa.move;rfl)|(apply Aa.int;rfl;rfl;rfl)|(apply Aa.Kw;rfl;rfl)|(apply Ad.Af;rfl)|(intro _;try (exfalso;omega)))
     all_goals first|(exfalso;omega)|(refine Done.ret rfl (.refl _) (by first|exact trivial|exact ⟨trivial,trivial,trivial⟩|exact ⟨trivial,trivial,trivial,trivial⟩) Aj.nil (Nat.zero_le _) (Nat.le_refl _) ⟨?_,rfl,rfl⟩;try rfl)
   ·rw [decide_eq_false (show ¬ C9 s from fun h=>hL h.2.2.1)]
    rw [decide_eq_false hL] at hl0
    repeat' (first|apply Ad.assoc|apply Ad.AA|apply Ad.BO|apply Ag.nil|apply Ag.one|(apply Ag.take;rfl;rfl)|(apply Ag.drop;rfl;rfl;rfl)|(apply Ag.guard;rfl;rfl)|(apply Aa.fn;rfl;rfl;exact hl0;intro _;rfl)|(apply Aa.Q5 (i:=0);rfl;rfl;rfl;omega)|(apply Aa.assign;rfl)|(apply Aa.move;rfl)|(apply Aa.int;rfl;rfl;rfl)|(apply Aa.BH;rfl;rfl)|(apply Aa.AV;rfl;rfl)|(apply Aa.Kw;rfl;rfl)|(apply Aa.eqS;rfl;rfl)|(apply Aa.not;rfl)|(apply Ad.Bd;rfl)|(intro _;try (exfalso;omega)))
    all_goals first|(exfalso;omega)|contradiction|(refine Done.ret rfl (.refl _) (by first|exact trivial|exact ⟨trivial,trivial,trivial⟩|exact ⟨trivial,trivial,trivial,trivial⟩) Aj.nil (Nat.zero_le _) (Nat.le_refl _) ⟨?_,rfl,rfl⟩;try rfl)
  ·rw [decide_eq_false (show ¬ C9 s from fun h=>h32 h.2.1)]
   repeat' (first|apply Ad.assoc|apply Ad.AA|apply Ad.BO|apply Ag.nil|apply Ag.one|(apply Ag.take;rfl;rfl)|(apply Ag.drop;rfl;rfl;rfl)|(apply Ag.guard;rfl;rfl)|(apply Aa.assign;rfl)|(apply Aa.move;rfl)|(apply Aa.int;rfl;rfl;rfl)|(apply Aa.BH;rfl;rfl)|(apply Aa.AV;rfl;rfl)|(apply Aa.Kw;rfl;rfl)|(apply Aa.eqS;rfl;rfl)|(apply Ad.Bd;rfl)|(intro _;try (exfalso;omega)))
   all_goals first|(exfalso;omega)|contradiction|(refine Done.ret rfl (.refl _) (by first|exact trivial|exact ⟨trivial,trivial,trivial⟩|exact ⟨trivial,trivial,trivial,trivial⟩) Aj.nil (Nat.zero_le _) (Nat.le_refl _) ⟨?_,rfl,rfl⟩;try rfl)
noncomputable def D8 (r:FU):Int:=if ¬ C9 r.name∨¬ C9 r.EC then 8 else if OY r.Dp≠0 then OY r.Dp else if r.first< -256∨r.first>256 then 3 else if r.EP.length=0 then 13 else if r.EP.length>128 then 4 else DT r.EP
def NC (n:Int):Prop:=-256≤n∧n≤256
instance (n:Int):Decidable (NC n):=by unfold NC;infer_instance
theorem jM (n:Int):AY env 87 [.int .i64 n] (.p (.bool (decide (NC n)))):=by
 refine AY.enter (AB (by decide)) Tryz.func87 rfl (by kernel_rfl) (by simp [Tryz.ntmps87]) ?_
 repeat' (first|apply Ad.AA|apply Ad.ret|apply Ag.nil|apply Ag.one|(apply Ag.take;rfl;rfl)|(apply Ag.drop;rfl;rfl;rfl)|(apply Ag.guard;rfl;rfl)|(apply Aa.assign;rfl)|(apply Aa.move;rfl)|(apply Aa.int;rfl;rfl;rfl)|(apply Aa.BH;rfl;rfl)|(apply Aa.AV;rfl;rfl)|(intro _;try (exfalso;omega)))
 all_goals (refine Done.ret rfl (.refl _) (by first|exact trivial|exact ⟨trivial,trivial,trivial⟩|exact ⟨trivial,trivial,trivial,trivial⟩) Aj.nil (Nat.zero_le _) (Nat.le_refl _) ⟨?_,rfl,rfl⟩;refine PV.Rn ?_;first|(refine decide_eq_decide.2 ⟨fun h=>by unfold NC;omega,fun h=>by unfold NC at h;omega⟩)|(symm;apply decide_eq_false;unfold NC;omega))
theorem Ue (r:FU) (h1:r.name.length<9223372036854775808) (h2:r.EC.length<9223372036854775808) (h3:r.EP.length<9223372036854775808):AY env 58 [.agg (Enc.enc r)] (.p (.int .i64 (D8 r))):=by
 have n1:=Hw r.name h1
 have n2:=Hw r.EC h2
 have p1:=KF r.Dp
 have f1:=jM r.first
 have w1:=kJ r.EP h3
 unfold D8
 refine AY.enter (AB (by decide)) Tryz.func58 rfl (by kernel_rfl) (by simp [Tryz.ntmps58]) ?_
 by_cases a1:C9 r.name
 ·rw [decide_eq_true a1] at n1
  by_cases a2:C9 r.EC
  ·rw [decide_eq_true a2] at n2
   rw [if_neg (fun h=>h.elim (fun h=>h a1) (fun h=>h a2))]
   by_cases a3:NC r.first
   ·rw [decide_eq_true a3] at f1
    unfold NC at a3
    repeat' (first|apply Ad.assoc|apply Ad.AA|apply Ad.Aq|apply Ad.BO|apply Ad.Ai|apply AO.normal|apply AO.ret|apply AL.normal|apply AL.ret|apply Ad.ret|apply Ad.skip|apply Ag.nil|apply Ag.one|(apply Ag.take;rfl;rfl)|(apply Aa.fn;rfl;rfl;exact n1;intro _;rfl)|(apply Aa.fn;rfl;rfl;exact n2;intro _;rfl)|(apply Aa.fn;rfl;rfl;exact p1;intro _;rfl)|(apply Aa.fn;rfl;rfl;exact f1;intro _;rfl)|(apply Aa.fn;rfl;rfl;exact w1;intro _;rfl)|(apply Aa.assign;rfl)|(apply Aa.move;rfl)|(apply Aa.int;rfl;rfl;rfl)|(apply Aa.load;rfl;rfl)|(apply Aa.AV;rfl;rfl)|(apply Aa.BI;rfl;rfl)|(apply Aa.AU;rfl;rfl;rfl)|(apply Aa.box;rfl;trivial)|(apply Aa.not;rfl)|(apply Ad.Au;rfl)|(apply Ad.Af;rfl)|(apply Ad.cond_false;rfl)|(apply Ad.A8;rfl)|(intro _;try (exfalso;omega)))
    all_goals first
     |(rw [if_pos (by assumption)];(refine Done.ret rfl (.refl _) (by first|exact trivial|exact ⟨trivial,trivial,trivial⟩|exact ⟨trivial,trivial,trivial,trivial⟩) Aj.nil (Nat.zero_le _) (Nat.le_refl _) ⟨?_,rfl,rfl⟩;try rfl);done)
     |(rw [if_neg (by assumption),if_neg (by omega),if_pos (by omega)];(refine Done.ret rfl (.refl _) (by first|exact trivial|exact ⟨trivial,trivial,trivial⟩|exact ⟨trivial,trivial,trivial,trivial⟩) Aj.nil (Nat.zero_le _) (Nat.le_refl _) ⟨?_,rfl,rfl⟩;try rfl);done)
     |(rw [if_neg (by assumption),if_neg (by omega),if_neg (by omega),if_pos (by omega)];(refine Done.ret rfl (.refl _) (by first|exact trivial|exact ⟨trivial,trivial,trivial⟩|exact ⟨trivial,trivial,trivial,trivial⟩) Aj.nil (Nat.zero_le _) (Nat.le_refl _) ⟨?_,rfl,rfl⟩;try rfl);done)
     |(rw [if_neg (by assumption),if_neg (by omega),if_neg (by omega),if_neg (by omega)];(refine Done.ret rfl (.refl _) (by first|exact trivial|exact ⟨trivial,trivial,trivial⟩|exact ⟨trivial,trivial,trivial,trivial⟩) Aj.nil (Nat.zero_le _) (Nat.le_refl _) ⟨?_,rfl,rfl⟩;try rfl);done)
   ·rw [decide_eq_false a3] at f1
    unfold NC at a3
    repeat' (first|apply Ad.assoc|apply Ad.AA|apply Ad.Aq|apply Ad.BO|apply Ad.Ai|apply AO.ret|apply AL.ret|apply Ad.ret|apply Ag.nil|apply Ag.one|(apply Ag.take;rfl;rfl)|(apply Aa.fn;rfl;rfl;exact n1;intro _;rfl)|(apply Aa.fn;rfl;rfl;exact n2;intro _;rfl)|(apply Aa.fn;rfl;rfl;exact p1;intro _;rfl)|(apply Aa.fn;rfl;rfl;exact f1;intro _;rfl)|(apply Aa.assign;rfl)|(apply Aa.move;rfl)|(apply Aa.int;rfl;rfl;rfl)|(apply Aa.load;rfl;rfl)|(apply Aa.AV;rfl;rfl)|(apply Aa.AU;rfl;rfl;rfl)|(apply Aa.box;rfl;trivial)|(apply Aa.not;rfl)|(apply Ad.Au;rfl)|(apply Ad.Af;rfl)|(apply Ad.cond_true;rfl)|(intro _;try (exfalso;omega)))
    all_goals first
     |(rw [if_pos (by assumption)];(refine Done.ret rfl (.refl _) (by first|exact trivial|exact ⟨trivial,trivial,trivial⟩|exact ⟨trivial,trivial,trivial,trivial⟩) Aj.nil (Nat.zero_le _) (Nat.le_refl _) ⟨?_,rfl,rfl⟩;try rfl);done)
     |(rw [if_neg (by assumption),if_pos (by omega)];(refine Done.ret rfl (.refl _) (by first|exact trivial|exact ⟨trivial,trivial,trivial⟩|exact ⟨trivial,trivial,trivial,trivial⟩) Aj.nil (Nat.zero_le _) (Nat.le_refl _) ⟨?_,rfl,rfl⟩;try rfl);done)
  ·rw [decide_eq_false a2] at n2
   rw [if_pos (.inr a2)]
   repeat' (first|apply Ad.assoc|apply Ad.AA|apply Ad.BO|apply Ag.nil|apply Ag.one|(apply Ag.take;rfl;rfl)|(apply Aa.fn;rfl;rfl;exact n1;intro _;rfl)|(apply Aa.fn;rfl;rfl;exact n2;intro _;rfl)|(apply Aa.assign;rfl)|(apply Aa.move;rfl)|(apply Aa.load;rfl;rfl)|(apply Aa.AV;rfl;rfl)|(apply Aa.AU;rfl;rfl;rfl)|(apply Aa.box;rfl;trivial)|(apply Aa.not;rfl)|(apply Ad.Bd;rfl))
   all_goals (refine Done.ret rfl (.refl _) (by first|exact trivial|exact ⟨trivial,trivial,trivial⟩|exact ⟨trivial,trivial,trivial,trivial⟩) Aj.nil (Nat.zero_le _) (Nat.le_refl _) ⟨?_,rfl,rfl⟩;try rfl)
 ·rw [decide_eq_false a1] at n1
  rw [if_pos (.inl a1)]
  repeat' (first|apply Ad.assoc|apply Ad.AA|apply Ad.BO|apply Ag.nil|apply Ag.one|(apply Ag.drop;rfl;rfl;rfl)|(apply Aa.fn;rfl;rfl;exact n1;intro _;rfl)|(apply Aa.assign;rfl)|(apply Aa.move;rfl)|(apply Aa.load;rfl;rfl)|(apply Aa.BH;rfl;rfl)|(apply Aa.AU;rfl;rfl;rfl)|(apply Aa.box;rfl;trivial)|(apply Aa.not;rfl)|(apply Ad.Bd;rfl))
  all_goals (refine Done.ret rfl (.refl _) (by first|exact trivial|exact ⟨trivial,trivial,trivial⟩|exact ⟨trivial,trivial,trivial,trivial⟩) Aj.nil (Nat.zero_le _) (Nat.le_refl _) ⟨?_,rfl,rfl⟩;try rfl)
end Go.Proofs.YtdabojnmoejilaaGreatDoor
namespace Go.Proofs.YtdabojnmoejilaaGreatDoor
open Go Go.Am Go.Vm
structure iC where
 rank:Int
 shift:Int
instance:Enc iC:={ default:=⟨0,0⟩,enc:=fun x=>[.int .i64 x.rank,.int .i64 x.shift],size:=2,len:=fun _=>rfl }
structure Seg where
 lo:Int
 hi:Int
 draws:List iC
instance:Enc Seg:={ default:=⟨0,0,[]⟩,enc:=fun x=>[.int .i64 x.lo,.int .i64 x.hi,.lst 133 (cells x.draws) x.draws.length],size:=3,len:=fun _=>rfl }
structure Stp where
 name:List UInt8
 Dp:JU
 Ez:List Seg
instance:Enc Stp:={ default:=⟨[],⟨0,0⟩,[]⟩,enc:=fun x=>[.str (bs x.name),.int .i64 x.Dp.num,.int .i64 x.Dp.den,.lst 136 (cells x.Ez) x.Ez.length],size:=4,len:=fun _=>rfl }
structure YH where
 name:List UInt8
 Dk:Bool
 lo:Int
 hi:Int
 stops:List Stp
instance:Enc YH:={ default:=⟨[],false,0,0,[]⟩,enc:=fun x=>[.str (bs x.name),.bool x.Dk,.int .i64 x.lo,.int .i64 x.hi,.lst 122 (cells x.stops) x.stops.length],size:=5,len:=fun _=>rfl }
structure aQ where
 name:List UInt8
 BD:Int
 tgt:Int
 shift:Int
 through:Bool
instance:Enc aQ:={ default:=⟨[],0,0,0,false⟩,enc:=fun x=>[.str (bs x.name),.int .i64 x.BD,.int .i64 x.tgt,.int .i64 x.shift,.bool x.through],size:=5,len:=fun _=>rfl }
structure ET where
 name:List UInt8
 ranks:List FU
 Az:List YH
 Gf:List aQ
instance:Enc ET:={ default:=⟨[],[],[],[]⟩,enc:=fun x=>[.str (bs x.name),.lst 131 (cells x.ranks) x.ranks.length,.lst 97 (cells x.Az) x.Az.length,.lst 147 (cells x.Gf) x.Gf.length],size:=4,len:=fun _=>rfl }
structure aS where
 lo:Int
 hi:Int
instance:Enc aS:={ default:=⟨0,0⟩,enc:=fun x=>[.int .i64 x.lo,.int .i64 x.hi],size:=2,len:=fun _=>rfl }
noncomputable instance (a b:iC):Decidable (a=b):=Classical.propDecidable _
noncomputable instance (a:iC) (l:List iC):Decidable (a∈l):=Classical.propDecidable _
noncomputable instance (a:List UInt8) (l:List (List UInt8)):Decidable (a∈l):=Classical.propDecidable _
def Va (lo hi:Int):Int:=if lo<0∨hi>127 then 3 else if lo>hi then 23 else 0
noncomputable def Na (n:Nat) (l:List iC) (k:Nat):Int :=
 if k<l.length then
  if (gi l k).rank<0∨(gi l k).rank≥n then 10 else if (gi l k).shift< -127∨(gi l k).shift>127 then 3 else if gi l k∈l.take k then 9 else Na n l (k+1)
 else 0
termination_by l.length-k
noncomputable def PG (n:Nat) (l:List iC):Int:=if l.length>8 then 4 else Na n l 0
noncomputable def JQ (n:Nat) (lo hi:Int) (l:List Seg) (k:Nat):Int :=
 if k<l.length then
  if min (gi l k).lo (gi l k).hi<lo∨max (gi l k).lo (gi l k).hi>hi then 23 else if (gi l k).lo>(gi l k).hi∨0<k∧(gi l k).lo≤(gi l (k-1)).hi then 6
  else if PG n (gi l k).draws≠0 then PG n (gi l k).draws else JQ n lo hi l (k+1)
 else 0
termination_by l.length-k
noncomputable def uj (n:Nat) (lo hi:Int) (s:Stp):Int :=
 if ¬ C9 s.name then 8 else if OY s.Dp≠0 then OY s.Dp else if s.Ez.length=0 then 13 else if s.Ez.length>12 then 4 else JQ n lo hi s.Ez 0
noncomputable def Xn (l:List FU) (k:Nat):Int :=
 if k<l.length then if D8 (gi l k)≠0 then D8 (gi l k) else Xn l (k+1) else 0
termination_by l.length-k
noncomputable def eY (l:List FU) (lo hi:Int):Int:=if l.length>60 then 4 else if Xn l 0≠0 then Xn l 0 else Va lo hi
noncomputable def Jp (rk:List FU) (lo hi:Int) (s:Stp):Int:=if eY rk lo hi≠0 then eY rk lo hi else uj rk.length lo hi s
noncomputable def ND (l:List FU) (k:Nat):Int :=
 if k<l.length then if D8 (gi l k)≠0 then D8 (gi l k) else if (gi l k).name∈(l.take k).map FU.name then 9 else ND l (k+1) else 0
termination_by l.length-k
noncomputable def MZ (rk:List FU) (lo hi:Int) (l:List Stp) (k:Nat):Int :=
 if k<l.length then if Jp rk lo hi (gi l k)≠0 then Jp rk lo hi (gi l k) else if (gi l k).name∈(l.take k).map Stp.name then 9 else MZ rk lo hi l (k+1) else 0
termination_by l.length-k
noncomputable def KX (rk:List FU) (d:YH):Int:=if Va d.lo d.hi≠0 then Va d.lo d.hi else if d.stops.length>60 then 4 else MZ rk d.lo d.hi d.stops 0
noncomputable def Gi (rk:List FU) (l:List YH) (k:Nat):Int :=
 if k<l.length then if ¬ C9 (gi l k).name then 8 else if (gi l k).name∈(l.take k).map YH.name then 9 else if KX rk (gi l k)≠0 then KX rk (gi l k) else Gi rk l (k+1) else 0
termination_by l.length-k
noncomputable def NT (n:Nat) (l:List aQ) (k:Nat):Int :=
 if k<l.length then
  if ¬ C9 (gi l k).name then 8 else if (gi l k).name∈(l.take k).map aQ.name then 9
  else if (gi l k).BD<0∨(gi l k).BD≥n∨(gi l k).tgt<0∨(gi l k).tgt≥n then 10
  else if (gi l k).shift< -127∨(gi l k).shift>127 then 3 else if (gi l k).BD=(gi l k).tgt∧(gi l k).shift=0 then 7 else NT n l (k+1)
 else 0
termination_by l.length-k
noncomputable def PI (l:List aS) (k:Nat):Int:=if k<l.length then if Va (gi l k).lo (gi l k).hi≠0 then 23 else PI l (k+1) else 0
termination_by l.length-k
noncomputable def TG (ks:List aS) (l:List aQ):Int:=if ks.length>8∨l.length>40 then 4 else if PI ks 0≠0 then PI ks 0 else NT ks.length l 0
noncomputable def LK (o:ET):Int :=
 if ¬ C9 o.name then 8 else if o.ranks.length>60 then 4 else if ND o.ranks 0≠0 then ND o.ranks 0 else if o.Az.length=0 then 13 else if o.Az.length>8 then 4
 else if Gi o.ranks o.Az 0≠0 then Gi o.ranks o.Az 0 else TG (o.Az.map fun d=>⟨d.lo,d.hi⟩) o.Gf
structure a5e (x:Seg):Prop where
 draws:x.draws.length<1000000
structure Ze (x:Stp):Prop where
 name:x.name.length<1000000
 Ez:x.Ez.length<1000000
 all:∀ i,i<x.Ez.length→a5e (gi x.Ez i)
structure wF (x:YH):Prop where
 name:x.name.length<1000000
 stops:x.stops.length<1000000
 all:∀ i,i<x.stops.length→Ze (gi x.stops i)
structure XM (r:FU):Prop where
 name:r.name.length<1000000
 EC:r.EC.length<1000000
 EP:r.EP.length<1000000
structure Pq (o:ET):Prop where
 name:o.name.length<1000000
 ranks:o.ranks.length<1000000
 Az:o.Az.length<1000000
 Gf:o.Gf.length<1000000
 rk:∀ i,i<o.ranks.length→XM (gi o.ranks i)
 dv:∀ i,i<o.Az.length→wF (gi o.Az i)
 cp:∀ i,i<o.Gf.length→(gi o.Gf i).name.length<1000000
theorem XM.len {r:FU} (h:XM r):r.name.length<9223372036854775808∧r.EC.length<9223372036854775808∧r.EP.length<9223372036854775808:=⟨by have:=h.name;omega,by have:=h.EC;omega,by have:=h.EP;omega⟩
end Go.Proofs.YtdabojnmoejilaaGreatDoor
namespace Go.Proofs.YtdabojnmoejilaaGreatDoor
open Go Go.Am Go.Vm
theorem Y1 {l:List FU} (h:∀ i,i<l.length→D8 (gi l i)=0):∀ n k,l.length-k=n→Xn l k=0
 |0,k,hk=>by rw [Xn,if_neg (by omega)]
 |n+1,k,hk=>by
  rw [Xn,if_pos (by omega),if_neg (fun h'=>h' (h k (by omega)))]
  exact Y1 h n (k+1) (by omega)
theorem Tf {l:List FU} (h:∀ i,i<l.length→D8 (gi l i)=0∧(gi l i).name∉(l.take i).map FU.name):∀ n k,l.length-k=n→ND l k=0
 |0,k,hk=>by rw [ND,if_neg (by omega)]
 |n+1,k,hk=>by
  obtain ⟨h1,h2⟩:=h k (by omega)
  rw [ND,if_pos (by omega),if_neg (fun h'=>h' h1),if_neg h2]
  exact Tf h n (k+1) (by omega)
theorem Qb {rk:List FU} {lo hi:Int} {l:List Stp} (h:∀ i,i<l.length→Jp rk lo hi (gi l i)=0∧(gi l i).name∉(l.take i).map Stp.name):∀ n k,l.length-k=n→MZ rk lo hi l k=0
 |0,k,hk=>by rw [MZ,if_neg (by omega)]
 |n+1,k,hk=>by
  obtain ⟨h1,h2⟩:=h k (by omega)
  rw [MZ,if_pos (by omega),if_neg (fun h'=>h' h1),if_neg h2]
  exact Qb h n (k+1) (by omega)
theorem Pz {rk:List FU} {l:List YH} (h:∀ i,i<l.length→C9 (gi l i).name∧(gi l i).name∉(l.take i).map YH.name∧KX rk (gi l i)=0):∀ n k,l.length-k=n→Gi rk l k=0
 |0,k,hk=>by rw [Gi,if_neg (by omega)]
 |n+1,k,hk=>by
  obtain ⟨h1,h2,h3⟩:=h k (by omega)
  rw [Gi,if_pos (by omega),if_neg (fun h'=>h' h1),if_neg h2,if_neg (fun h'=>h' h3)]
  exact Pz h n (k+1) (by omega)
theorem SB {l:List aS} (h:∀ i,i<l.length→Va (gi l i).lo (gi l i).hi=0):∀ n k,l.length-k=n→PI l k=0
 |0,k,hk=>by rw [PI,if_neg (by omega)]
 |n+1,k,hk=>by
  rw [PI,if_pos (by omega),if_neg (fun h'=>h' (h k (by omega)))]
  exact SB h n (k+1) (by omega)
structure xP (n:Nat) (c:aQ):Prop where
 name:C9 c.name
 BD:0≤c.BD∧c.BD<n
 tgt:0≤c.tgt∧c.tgt<n
 shift:-127≤c.shift∧c.shift≤127
 form:¬ (c.BD=c.tgt∧c.shift=0)
theorem Xi {m:Nat} {l:List aQ} (h:∀ i,i<l.length→xP m (gi l i)∧(gi l i).name∉(l.take i).map aQ.name):∀ n k,l.length-k=n→NT m l k=0
 |0,k,hk=>by rw [NT,if_neg (by omega)]
 |n+1,k,hk=>by
  obtain ⟨⟨h1,h2,h3,h4,h5⟩,h6⟩:=h k (by omega)
  rw [NT,if_pos (by omega),if_neg (fun h'=>h' h1),if_neg h6,if_neg (by omega),if_neg (by omega),if_neg h5]
  exact Xi h n (k+1) (by omega)
structure UG (n:Nat) (d:iC):Prop where
 rank:0≤d.rank∧d.rank<n
 shift:-127≤d.shift∧d.shift≤127
theorem PK {m:Nat} {l:List iC} (h:∀ i,i<l.length→UG m (gi l i)∧gi l i∉l.take i):∀ n k,l.length-k=n→Na m l k=0
 |0,k,hk=>by rw [Na,if_neg (by omega)]
 |n+1,k,hk=>by
  obtain ⟨⟨h1,h2⟩,h3⟩:=h k (by omega)
  rw [Na,if_pos (by omega),if_neg (by omega),if_neg (by omega),if_neg h3]
  exact PK h n (k+1) (by omega)
theorem Iq {m:Nat} {d:iC} (h:UG m d):PG m [d]=0:=by
 unfold PG
 rw [if_neg (by simp)]
 exact PK (fun i hi=>by
  obtain rfl:i=0:=by simp at hi;omega
  exact ⟨h,by simp⟩) _ 0 rfl
theorem wP {m:Nat} {d e:iC} (h:UG m d) (h':UG m e) (hn:e≠d):PG m [d,e]=0:=by
 unfold PG
 rw [if_neg (by simp)]
 refine PK (fun i hi=>?_) _ 0 rfl
 have:i=0∨i=1:=by simp at hi;omega
 rcases this with rfl|rfl
 ·exact ⟨h,by simp⟩
 ·exact ⟨h',by simpa [gi] using hn⟩
theorem Lj {lo hi:Int} (h:0≤lo∧lo≤hi∧hi≤127):Va lo hi=0:=by
 unfold Va
 rw [if_neg (by omega),if_neg (by omega)]
theorem YB {l:List FU} {lo hi:Int} (h:∀ i,i<l.length→D8 (gi l i)=0) (hl:l.length≤60) (hc:0≤lo∧lo≤hi∧hi≤127):eY l lo hi=0:=by
 unfold eY
 rw [if_neg (by omega),if_neg (fun h'=>h' (Y1 h _ 0 rfl)),Lj hc]
structure a4g (n:Nat) (lo hi:Int) (g:Seg):Prop where
 pl:lo≤g.lo∧g.lo≤g.hi∧g.hi≤hi
 draws:PG n g.draws=0
theorem Px {m:Nat} {lo hi:Int} {l:List Seg} (h:∀ i,i<l.length→a4g m lo hi (gi l i)∧(0<i→(gi l (i-1)).hi<(gi l i).lo)):∀ n k,l.length-k=n→JQ m lo hi l k=0
 |0,k,hk=>by rw [JQ,if_neg (by omega)]
 |n+1,k,hk=>by
  obtain ⟨⟨h1,h2⟩,h3⟩:=h k (by omega)
  rw [JQ,if_pos (by omega),if_neg (by omega),if_neg (fun h'=>by
   rcases h' with h'|⟨h4,h5⟩
   ·omega
   ·have:=h3 h4;omega),if_neg (fun h'=>h' h2)]
  exact Px h n (k+1) (by omega)
theorem Jw {n:Nat} {lo hi:Int} {s:Seg} (h1:lo≤s.lo∧s.lo≤s.hi∧s.hi≤hi) (h2:PG n s.draws=0):JQ n lo hi [s] 0=0 :=
 Px (fun i hi=>by
  obtain rfl:i=0:=by simp at hi;omega
  exact ⟨⟨h1,h2⟩,fun h=>by omega⟩) _ 0 rfl
theorem Yk {n:Nat} {lo hi:Int} {s t:Seg} (h1:lo≤s.lo∧s.lo≤s.hi∧s.hi<t.lo∧t.lo≤t.hi∧t.hi≤hi) (h2:PG n s.draws=0) (h3:PG n t.draws=0):JQ n lo hi [s,t] 0=0 :=
 Px (fun i hi=>by
  have:i=0∨i=1:=by simp at hi;omega
  rcases this with rfl|rfl
  ·exact ⟨⟨⟨h1.1,h1.2.1,show s.hi≤_ by omega⟩,h2⟩,fun h=>by omega⟩
  ·exact ⟨⟨⟨show lo≤t.lo by omega,h1.2.2.2⟩,h3⟩,fun _=>h1.2.2.1⟩) _ 0 rfl
def MW (c:UInt8) (i:Int):List UInt8:=[c,UInt8.ofNat (48+i).toNat]
theorem zT {c:UInt8} {i j:Nat} (hi:i<10) (hj:j<10) (h:MW c i=MW c j):i=j:=by
 simp only [MW,List.cons.injEq,and_true,true_and] at h
 have:=congrArg UInt8.toNat h
 rw [UInt8.toNat_ofNat',UInt8.toNat_ofNat'] at this
 omega
theorem XP {c:UInt8} (hc:bY c.toNat) {i:Nat} (hi:i<10):C9 (MW c i):=by
 refine ⟨by simp [MW],by simp [MW],hc,fun j h1 h2=>?_⟩
 obtain rfl:j=1:=by simp [MW] at h2;omega
 have e:(gi (MW c i) 1).toNat=48+i:=by
  show (UInt8.ofNat (48+(i:Int)).toNat).toNat=_
  rw [UInt8.toNat_ofNat'];omega
 rw [e]
 right;left;omega
theorem SV {α:Type} [Inhabited α] {f:α→List UInt8} {c:UInt8} {l:List α} (hl:l.length≤10) (h:∀ i,i<l.length→f (gi l i)=MW c i) {k:Nat} (hk:k<l.length):f (gi l k)∉(l.take k).map f:=by
 intro hm
 rw [List.mem_map] at hm
 obtain ⟨a,ha,he⟩:=hm
 obtain ⟨j,hj,e⟩:=List.getElem_of_mem ha
 rw [List.length_take] at hj
 have e2:a=gi l j:=by
  rw [← e,List.getElem_take]
  simp [gi,List.getElem?_eq_getElem (show j<l.length by omega)]
 rw [e2,h j (by omega),h k hk] at he
 have:=zT (by omega) (by omega) he
 omega
end Go.Proofs.YtdabojnmoejilaaGreatDoor
namespace Go.Proofs.YtdabojnmoejilaaGreatDoor
open Go Go.Am Go.Vm
attribute [local irreducible] Aa Ag Ap Ad BA AY CJ AO AL Aw Vm.Done Dc Bq ZB
theorem Zk (a b:List Int) (h0:0<a.length+b.length) (h1:a.length+b.length≤1000) :
 CJ env 102 [.lst 52 [.lst 3 (cells a) a.length,.lst 3 (cells b) b.length] 2] 3 (cells (a++b)) (a.length+b.length) false:=by
 have hg:=vG (a.length+b.length) h0 (by omega)
 rw [show ((a.length+b.length:Nat):Int)=0+(a.length:Int)+(b.length:Int) by omega] at hg
 refine CJ.enter (AB (by decide)) Tryz.func102 rfl (by kernel_rfl) (by simp [Tryz.ntmps102]) ?_
 repeat' (first|apply Ad.assoc|apply Ad.AA|apply Ad.Ai|apply Ag.nil|apply Ag.one|(apply Aa.assign;rfl)|(apply Aa.move;rfl)|(apply Aa.BI;rfl;rfl))
 refine Ad.nY 2 ?_
 repeat' (first|apply Ad.assoc|apply Ad.AA|apply Ad.region|apply Ad.Aq|apply Ad.AZ|apply Ad.Ai|apply AO.normal|apply AL.normal|apply AL.exit|apply Aw.exit|apply Ad.skip|apply Ag.nil|apply Ag.one|(apply Aa.fv;rfl;rfl;exact hg)|(apply ZB.zero)|(apply ZB.succ)|(apply Aw.again)|(apply Aa.SA;rfl;rfl;rfl;decide;decide)|(apply Aa.assign;rfl)|(apply Aa.move;rfl)|(apply Aa.Bv;rfl;rfl;omega)|(apply Aa.int;rfl;rfl;rfl)|(apply Aa.load;rfl;rfl)|(apply Aa.BI;rfl;rfl)|(apply Ad.Bd;rfl)|(apply Ad.Au;rfl)|(apply Ad.cond_false;rfl))
 refine Ad.nY 2 ?_
 repeat' (first|apply Ad.AA|apply Ad.region|apply Ad.Aq|apply Ad.AZ|apply Ad.Ai|apply AO.normal|apply AL.normal|apply AL.exit|apply Aw.exit|apply Ad.ret|apply Ag.nil|apply Ag.one|(apply ZB.zero)|(apply ZB.succ)|(apply Aw.again)|(apply Aa.SA;rfl;rfl;rfl;decide;decide)|(apply Aa.QF (l:=a) (r:=b);rfl;rfl;rfl;rfl;rfl;rfl;rfl;(intro _ h;cases h);rfl;rfl;rfl;decide;decide;omega)|(apply Aa.NG (r:=a);rfl;rfl;rfl;rfl;rfl;rfl;(intro _ h;cases h);rfl;rfl;rfl;decide;decide;omega)|(apply Aa.assign;rfl)|(apply Aa.move;rfl)|(apply Aa.Bv;rfl;rfl;omega)|(apply Aa.int;rfl;rfl;rfl)|(apply Aa.load;rfl;rfl)|(apply Ad.Bd;rfl)|(apply Ad.Au;rfl))
 exact Dc.ret rfl rfl rfl rfl
end Go.Proofs.YtdabojnmoejilaaGreatDoor
namespace Go.Proofs.YtdabojnmoejilaaGreatDoor
open Go Go.Am Go.Vm
attribute [local irreducible] Aa Ag Ap Ad BA AY CJ AO AL Aw Vm.Done Dc Bq
attribute [local irreducible] D8 DT wM BZ
def a7k (r:FU):Prop:=r.name.length<9223372036854775808∧r.EC.length<9223372036854775808∧r.EP.length<9223372036854775808
noncomputable def UR (r:FU) (n:Int):Int:=if D8 r≠0 then D8 r else if n<0∨n≥r.EP.length then 10 else 0
def JY:FV:=.agg [.str ⟨#[]⟩,.str ⟨#[]⟩,.int .i64 0,.int .i64 0,.int .i64 0,.val (.slice none 0 0)]
def zF (r:FU) (n:Int) (w:List Int):FV×Int:=if w.length>128 then (JY,4) else if ¬ NC n then (JY,3) else (.agg (Enc.enc { r with first:=n,EP:=w }),0)
noncomputable def a8t (r:FU) (k:Int):Int×Bool×Int:=if UR r k≠0 then (0,false,UR r k) else if (BZ r.Dp ⟨8,1⟩).2≠0∨r.first+k+(BZ r.Dp ⟨8,1⟩).1<0∨r.first+k+(BZ r.Dp ⟨8,1⟩).1>127 then (0,false,(BZ r.Dp ⟨8,1⟩).2) else (r.first+k+(BZ r.Dp ⟨8,1⟩).1,true,0)
end Go.Proofs.YtdabojnmoejilaaGreatDoor
namespace Go.Proofs.YtdabojnmoejilaaGreatDoor
open Go Go.Am Go.Vm
attribute [local irreducible] Aa Ag Ap Ad BA AY CJ AO AL Aw Vm.Done Dc Bq
attribute [local irreducible] D8 DT wM BZ
noncomputable def a7r (r:FU) (n:Int):Int×Bool×Int:=if D8 r≠0 then (0,false,D8 r) else if n<r.first∨n≥r.first+r.EP.length then (0,false,0) else (n-r.first,true,0)
noncomputable def a7f (r:FU) (w:List Int):FV×Int:=if D8 r≠0 then (JY,D8 r) else if DT w≠0 then (JY,DT w) else zF r (r.first-w.length) (w++r.EP)
noncomputable def a6y (r:FU) (f:JU):FV×Int:=if D8 r≠0 then (JY,D8 r) else if (BZ f r.Dp).2≠0 then (JY,(BZ f r.Dp).2) else if NC (r.first-(BZ f r.Dp).1) then (.agg (Enc.enc { r with first:=r.first-(BZ f r.Dp).1,Dp:=f }),0) else (JY,3)
end Go.Proofs.YtdabojnmoejilaaGreatDoor
namespace Go.Proofs.YtdabojnmoejilaaGreatDoor
open Go Go.Am Go.Vm
attribute [local irreducible] Aa Ag Ap Ad BA AY CJ AO AL Aw Vm.Done Dc Bq
attribute [local irreducible] D8 DT wM BZ UR
noncomputable def b1e (r:FU) (n:Int):Int×Int:=if UR r n≠0 then (0,UR r n) else (r.first+n,0)
noncomputable def b1o (r:FU) (n:Int):Int×Int:=if UR r n≠0 then (0,UR r n) else (gi r.EP n.toNat,0)
noncomputable def b1s (r:FU) (w:List Int):FV×Int:=if D8 r≠0 then (JY,D8 r) else if DT w≠0 then (JY,DT w) else zF r r.first (r.EP++w)
end Go.Proofs.YtdabojnmoejilaaGreatDoor
namespace Go.Proofs.YtdabojnmoejilaaGreatDoor
open Go Go.Am Go.Vm
attribute [local irreducible] Aa Ag Ap Ad BA AY CJ AO AL Aw Vm.Done Dc Bq
attribute [local irreducible] D8 DT wM BZ UR
def a6d (l:List Int):Nat→Int
 |0=>0
 |k+1=>a6d l k+gi l k
noncomputable def b1m (r:FU):Int×Int:=if D8 r≠0 then (0,D8 r) else (a6d r.EP r.EP.length,0)
def Pn:List JU:=[⟨8,1⟩,⟨4,1⟩,⟨16,1⟩,⟨2,1⟩,⟨8,3⟩,⟨8,5⟩,⟨4,3⟩,⟨1,1⟩,⟨32,1⟩,⟨16,3⟩,⟨16,5⟩,⟨32,3⟩,⟨8,7⟩,⟨2,3⟩,⟨1,2⟩,⟨64,1⟩]
theorem oV (n:Nat) (hn:n<256):AY env 83 [.int .u8 (n:Int)] (.p (.agg (Enc.enc (gi Pn (n % 16))))):=by
 refine AY.enter (AB (by decide)) Tryz.func83 rfl (by kernel_rfl) (by simp [Tryz.ntmps83]) ?_
 have hlt:n % 16<16:=Nat.mod_lt _ (by decide)
 repeat' (first|(refine Ag.IX 22 ?_;refine Ag.ghost (Ba.freeze 19 rfl rfl) ?_)|apply Ad.AA|apply Ad.ret|apply Ag.nil|apply Ag.one|(apply Aa.AP (l:=Pn) (i:=n % 16);rfl;rfl;rfl;exact hlt;rfl)|(apply Aa.move;rfl)|(apply Aa.O4;rfl;rfl;omega;omega)|(apply Aa.load;rfl;rfl)|(apply Aa.alloc;rfl)|(apply Aa.Bo;rfl;rfl;rfl;trivial;rfl;rfl;exact Ac rfl;exact le_dec rfl)|(apply Aa.build;rfl;rfl;rfl;rfl;rfl)|(apply Aa.buildSlice;rfl;rfl;rfl;decide;rfl;rfl;rfl))
 all_goals (refine Done.ret rfl (.refl _) (by first|exact trivial|exact ⟨trivial,trivial,trivial⟩|exact ⟨trivial,trivial,trivial,trivial⟩) Aj.nil (Nat.zero_le _) (Nat.le_refl _) ⟨?_,rfl,rfl⟩;try rfl)
end Go.Proofs.YtdabojnmoejilaaGreatDoor
namespace Go.Proofs.YtdabojnmoejilaaGreatDoor
open Go Go.Am Go.Vm
attribute [local irreducible] Aa Ag Ap Ad BA AY CJ AO AL Aw Vm.Done Dc Bq
theorem kV {r:FU} (h1:C9 r.name) (h2:C9 r.EC) (h3:qW r.Dp) (h4:-256≤r.first∧r.first≤256) (h5:0<r.EP.length∧r.EP.length≤128) (h6:okW r.EP):D8 r=0:=by
 unfold D8
 rw [if_neg (fun h=>h.elim (fun h=>h h1) (fun h=>h h2)),if_neg (fun h=>h (OG.2 h3)),if_neg (by omega),if_neg (by omega),if_neg (by omega)]
 exact if_pos h6
theorem qo:C9 [79,112,101,110]:=by
 refine ⟨by decide,by decide,by decide,fun i h1 h2=>?_⟩
 have:i=1∨i=2∨i=3:=by simp at h2;omega
 rcases this with rfl|rfl|rfl<;>exact .inl (by decide)
def b1c (f first:Int) (n:Nat):FU:=⟨[82,111,119],[79,112,101,110],⟨f,1⟩,first,List.replicate n 1⟩
def a7q:FU:=⟨[82,111,119],[79,112,101,110],⟨8,1⟩,24,List.replicate 12 0++List.replicate 61 1⟩
attribute [local irreducible] D8 DT wM BZ UR a7r a8t a7f a6y
end Go.Proofs.YtdabojnmoejilaaGreatDoor
namespace Go.Proofs.YtdabojnmoejilaaGreatDoor
open Go Go.Am Go.Vm
attribute [local irreducible] Aa Ag Ap Ad BA AY CJ AO AL Aw Vm.Done Dc Bq
instance encStr:Enc (List UInt8):={ default:=[],enc:=fun s=>[.str (bs s)],size:=1,len:=fun _=>rfl }
structure FW where
 EC:Nat
 Dp:Nat
 first:Int
 pipes:Nat
 EP:List Nat
def FW.enc (x:FW):List FV:=[.int .u8 (x.EC:Int),.int .u8 (x.Dp:Int),.int .i8 x.first,.int .u8 (x.pipes:Int),.int .u8 ((gi x.EP 0:Nat):Int),.int .u8 ((gi x.EP 1:Nat):Int),.int .u8 ((gi x.EP 2:Nat):Int),.int .u8 ((gi x.EP 3:Nat):Int),.int .u8 ((gi x.EP 4:Nat):Int)]
structure FW.Ok (x:FW):Prop where
 EC:x.EC<256
 Dp:x.Dp<256
 first:-128≤x.first∧x.first≤127
 pipes:x.pipes<256
 EP:∀ i,gi x.EP i<256
def NU:List (List UInt8):=[[79,112,101,110],[70,108,117,116,101],[82,101,101,100]]
def Ip (x:FW):Nat→List Int
 |0=>[]
 |k+1=>Ip x k++[((gi x.EP (k % 5):Nat):Int)]
theorem FD (x:FW):∀ k,(Ip x k).length=k
 |0=>rfl
 |k+1=>by simp [Ip,FD x k]
def TI (x:FW) (i:Int):FU:=⟨[82,UInt8.ofNat (48+i % 10).toNat],gi NU (x.EC % 3),gi Pn (x.Dp % 16),x.first,Ip x (1+x.pipes % 25)⟩
theorem qN (x:FW) (hx:x.Ok) (i:Int) (hi:0≤i∧i≤1000):AY env 55 [.agg x.enc,.int .i64 i] (.p (.agg (Enc.enc (TI x i)))):=by
 obtain ⟨h1,h2,h3,h4,h5⟩:=hx
 have hf:=oV x.Dp h2
 have hlt:x.EC % 3<3:=Nat.mod_lt _ (by decide)
 refine AY.enter (AB (by decide)) Tryz.func55 rfl (by kernel_rfl) (by simp [Tryz.ntmps55]) ?_
 repeat' (first|(refine Ap.IX 18 ?_;refine Ap.ghost (Ba.freeze 14 rfl rfl) ?_)|apply Ad.assoc|apply Ad.AA|apply Ad.BJ|apply Ad.Ai|apply Ag.nil|apply Ap.nil|apply Ag.one|(apply Ap.bar;decide +kernel)|apply Ap.quiet|(apply Aa.fn;rfl;rfl;exact hf;intro _;rfl)|(apply Aa.GV;rfl;rfl;rfl;rfl;rfl;omega)|(apply Aa.AP (l:=NU) (i:=x.EC % 3);rfl;rfl;rfl;exact hlt;rfl)|(apply Aa.assign;rfl)|(apply Aa.move;rfl)|(apply Aa.Bv;rfl;rfl;omega)|(apply Aa.O4;rfl;rfl;omega;omega)|(apply Aa.load;rfl;rfl)|(apply Aa.AU;rfl;rfl;rfl)|(apply Aa.box;rfl;trivial)|(apply Aa.alloc;rfl)|(apply Aa.Bo;rfl;rfl;rfl;trivial;rfl;rfl;exact Ac rfl;exact le_dec rfl)|(apply Aa.build;rfl;rfl;rfl;rfl;rfl)|(apply Aa.buildSlice;rfl;rfl;rfl;decide;rfl;rfl;rfl)|(apply Aa.U5;rfl;rfl;(first|omega|(simp only [List.length_take,List.length_drop,List.length_append,List.length_singleton,List.length_cons,List.length_nil]<;>omega)))|(apply Aa.Jh;rfl;rfl;rfl;rfl;omega)|(apply Aa.Lm;rfl;rfl;rfl;rfl;omega))
 refine Ad.ghost (Ba.EG 4 5 3 rfl rfl) ?_
 refine Ad.Eb (fun k:Nat=>[(2,.ref 0 0),(4,.ref 1 0),(5,.ref 4 0),(6,.p (.int .i64 (k:Int)))]) (fun k=>[(5,.vec 3 (cells (Ip x k)) (Ip x k).length true),(4,.box 131 [.p (.str (bs [82,UInt8.ofNat (48+i % 10).toNat])),.p (.str (bs (gi NU (x.EC % 3)))),.p (.int .i64 (gi Pn (x.Dp % 16)).num),.p (.int .i64 (gi Pn (x.Dp % 16)).den),.p (.int .i64 x.first),.vec 5 (Ip x k).length 0 (Ip x k).length]),(1,.box 131 [.p (.str ⟨#[]⟩),.p (.str ⟨#[]⟩),.p (.int .i64 0),.p (.int .i64 0),.p (.int .i64 0),.p (.val (.slice none 0 0))]),(0,.box 150 (x.enc.map .p))]) 6 (fun k=>k≤1+x.pipes % 25) (fun k=>1+x.pipes % 25-k) 0 (by omega) (by omega) ⟨by omega,?_,?_⟩ ?_
 ·repeat (first|exact Ae.nil|refine Ae.same trivial rfl ?_|refine Ae.same (Ac rfl) rfl ?_|refine Ae.same ⟨trivial,Ac rfl,Ac rfl,Ac rfl,trivial⟩ rfl ?_|refine Ae.same ⟨trivial,Ac rfl,Ac rfl,trivial⟩ rfl ?_|refine Ae.same ⟨trivial,trivial⟩ rfl ?_|refine Ae.cons trivial rfl (.of_eq (Ar (by simp<;>omega))) ?_)
 ·repeat (first|exact Aj.nil|(refine Aj.cons (Ac rfl) ?_ rfl ?_ ?_;(first|exact trivial|exact AQ.Ah _ _|(simp [HB.under,AQ.under,PV.under]));(first|exact Bj.refl _|exact Bj.vec (Bh.refl _) (by simp))))
 intro k hk
 have hl:=FD x k
 have hw:=h5 (k % 5)
 have e1:Ip x (k+1)=Ip x k++[((gi x.EP (k % 5):Nat):Int)]:=rfl
 have e2:(Ip x (k+1)).length=(Ip x k).length+1:=by rw [e1];simp
 have hr:(x.enc.map PV.p)[4+((k:Int) % 5).toNat*1]?=some (.p (.int .u8 ((gi x.EP (k % 5):Nat):Int))):=by
  have e0:((k:Int) % 5).toNat=k % 5:=by omega
  rw [e0]
  have:k % 5<5:=Nat.mod_lt _ (by decide)
  generalize k % 5=n at this
  match n,this with
  |0,_=>rfl
  |1,_=>rfl
  |2,_=>rfl
  |3,_=>rfl
  |4,_=>rfl
 repeat' (first|(refine Ad.at 6 ?_;refine Ad.ghost (Ba.Di 4 5 rfl rfl rfl) ?_;first|apply Ad.AA|apply Ad.BJ)|apply Ad.assoc|apply Ad.AA|apply Ad.region|apply Ad.FP|apply Ad.Aq|apply Ad.AZ|apply Ad.Ai|apply AO.normal|apply AL.normal|apply AL.exit|apply Aw.exit|apply Ad.ret|apply Ag.nil|apply Ap.nil|apply Ag.one|(apply Ap.bar;decide +kernel)|apply Ap.quiet|(apply Aa.uo;rfl;rfl;rfl;exact hr)|(apply Aa.Vj;rfl;rfl;rfl;rfl;rfl;omega)|(apply Aa.assign;rfl)|(apply Aa.move;rfl)|(apply Aa.Bv;rfl;rfl;omega)|(apply Aa.O4;rfl;rfl;omega;omega)|(apply Aa.int;rfl;rfl;rfl)|(apply Aa.load;rfl;rfl)|(apply Aa.AU;rfl;rfl;rfl)|(apply Aa.Bo;rfl;rfl;rfl;trivial;rfl;rfl;exact Ac rfl;exact le_dec rfl)|(apply Aa.buildSlice;rfl;rfl;rfl;decide;rfl;rfl;rfl)|(apply Aa.Jh;rfl;rfl;rfl;rfl;omega)|(apply Aa.Dl;rfl;rfl;rfl;rfl;rfl;rfl;rfl;rfl;(intro _ h;cases h);rfl;rfl;rfl;decide;decide;(first|omega|(simp only [List.length_take,List.length_drop,List.length_append,List.length_singleton,List.length_cons,List.length_nil]<;>omega)))|(apply Ad.Af;rfl)|(intro _;try (exfalso;omega)))
 ·refine Aw.normal ⟨k+1,by omega,by omega,⟨by omega,?_,?_⟩⟩
  ·repeat (first|exact Ae.nil|refine Ae.same trivial rfl ?_|refine Ae.same (Ac rfl) rfl ?_|refine Ae.same ⟨trivial,Ac rfl,Ac rfl,Ac rfl,trivial⟩ rfl ?_|refine Ae.same ⟨trivial,Ac rfl,Ac rfl,trivial⟩ rfl ?_|refine Ae.same ⟨trivial,trivial⟩ rfl ?_|refine Ae.cons trivial rfl (.of_eq (Ar (by simp<;>omega))) ?_)
  ·rw [e2,e1];repeat (first|exact Aj.nil|(refine Aj.cons (Ac rfl) ?_ rfl ?_ ?_;(first|exact trivial|exact AQ.Ah _ _|(simp [HB.under,AQ.under,PV.under]));(first|exact Bj.refl _|exact Bj.vec (Bh.refl _) (by simp))))
 ·obtain rfl:k=1+x.pipes % 25:=by omega
  refine Done.ret rfl (.refl _) (by first|exact trivial|exact ⟨trivial,trivial,trivial⟩|exact ⟨trivial,trivial,trivial,trivial⟩) Aj.nil (Nat.zero_le _) (Nat.le_refl _) ⟨?_,rfl,rfl⟩
  rfl
end Go.Proofs.YtdabojnmoejilaaGreatDoor
namespace Go.Proofs.YtdabojnmoejilaaGreatDoor
open Go Go.Am Go.Vm
attribute [local irreducible] Aa Ag Ap Ad BA AY CJ AO AL Aw Vm.Done Dc Bq
structure qF where
 rank:Nat
 Dp:Nat
 kind:Nat
 at_:Nat
instance:Enc qF:={ default:=⟨0,0,0,0⟩,enc:=fun x=>[.int .u8 (x.rank:Int),.int .u8 (x.Dp:Int),.int .u8 (x.kind:Int),.int .u8 (x.at_:Int)],size:=4,len:=fun _=>rfl }
structure qF.Ok (x:qF):Prop where
 rank:x.rank<256
 Dp:x.Dp<256
 kind:x.kind<256
 at_:x.at_<256
structure o8 where
 low:Nat
 keys:Nat
 Dk:Bool
 stops:List qF
instance:Enc o8:={ default:=⟨0,0,false,[]⟩,enc:=fun x=>[.int .u8 (x.low:Int),.int .u8 (x.keys:Int),.bool x.Dk,.lst 72 (cells x.stops) x.stops.length],size:=4,len:=fun _=>rfl }
structure o8.Ok (x:o8):Prop where
 low:x.low<256
 keys:x.keys<256
 stops:x.stops.length<9223372036854775808
 all:∀ i,i<x.stops.length→(gi x.stops i).Ok
structure yj where
 BD:Nat
 tgt:Nat
 shift:Int
 through:Bool
instance:Enc yj:={ default:=⟨0,0,0,false⟩,enc:=fun x=>[.int .u8 (x.BD:Int),.int .u8 (x.tgt:Int),.int .i8 x.shift,.bool x.through],size:=4,len:=fun _=>rfl }
structure yj.Ok (x:yj):Prop where
 BD:x.BD<256
 tgt:x.tgt<256
 shift:-128≤x.shift∧x.shift≤127
instance a5l:Enc FW:={ default:=⟨0,0,0,0,[]⟩,enc:=FW.enc,size:=9,len:=fun _=>rfl }
structure pV where
 ranks:List FW
 Az:List o8
 links:List yj
def pV.enc (x:pV):List FV:=[.lst 150 (cells x.ranks) x.ranks.length,.lst 75 (cells x.Az) x.Az.length,.lst 153 (cells x.links) x.links.length]
structure pV.Ok (x:pV):Prop where
 ranks:∀ i,i<x.ranks.length→(gi x.ranks i).Ok
 Az:∀ i,i<x.Az.length→(gi x.Az i).Ok
 links:∀ i,i<x.links.length→(gi x.links i).Ok
 nr:x.ranks.length<9223372036854775808
 nd:x.Az.length<9223372036854775808
 nl:x.links.length<9223372036854775808
def E8:List JU:=[⟨8,1⟩,⟨4,1⟩,⟨16,1⟩,⟨8,3⟩,⟨2,1⟩,⟨8,5⟩]
theorem jJ (n:Nat) (hn:n<256):AY env 84 [.int .u8 (n:Int)] (.p (.agg (Enc.enc (gi E8 (n % 6))))):=by
 refine AY.enter (AB (by decide)) Tryz.func84 rfl (by kernel_rfl) (by simp [Tryz.ntmps84]) ?_
 have hlt:n % 6<6:=Nat.mod_lt _ (by decide)
 repeat' (first|(refine Ag.IX 12 ?_;refine Ag.ghost (Ba.freeze 9 rfl rfl) ?_)|apply Ad.AA|apply Ad.ret|apply Ag.nil|apply Ag.one|(apply Aa.AP (l:=E8) (i:=n % 6);rfl;rfl;rfl;exact hlt;rfl)|(apply Aa.move;rfl)|(apply Aa.O4;rfl;rfl;omega;omega)|(apply Aa.load;rfl;rfl)|(apply Aa.alloc;rfl)|(apply Aa.Bo;rfl;rfl;rfl;trivial;rfl;rfl;exact Ac rfl;exact le_dec rfl)|(apply Aa.build;rfl;rfl;rfl;rfl;rfl)|(apply Aa.buildSlice;rfl;rfl;rfl;decide;rfl;rfl;rfl))
 all_goals (refine Done.ret rfl (.refl _) (by first|exact trivial|exact ⟨trivial,trivial,trivial⟩|exact ⟨trivial,trivial,trivial,trivial⟩) Aj.nil (Nat.zero_le _) (Nat.le_refl _) ⟨?_,rfl,rfl⟩;try rfl)
theorem uK:∀ n,n<6→qW (gi E8 n):=by decide +kernel
theorem uF:∀ a,a<6→∀ b,b<16→(BZ (gi E8 a) (gi Pn b)).2=0∧-100≤(BZ (gi E8 a) (gi Pn b)).1∧(BZ (gi E8 a) (gi Pn b)).1≤100:=by decide +kernel
structure nC (rk:List FU):Prop where
 len:0<rk.length∧rk.length≤3
 ok:∀ i,i<rk.length→D8 (gi rk i)=0∧∃ b,b<16∧(gi rk i).Dp=gi Pn b
attribute [local irreducible] D8 DT BZ
theorem y7 (rk:List FU) (lo hi:Int) (x:qF) (i:Nat) (hrk:nC rk) (hc:0≤lo∧lo≤hi∧hi≤127) (hx:x.Ok) (hi9:i≤9) :
 ∃ s:Stp,AY env 56 [.lst 131 (cells rk) rk.length,.agg [.int .i64 lo,.int .i64 hi],.agg (Enc.enc x),.int .i64 (i:Int)] (.p (.agg (Enc.enc s)))∧s.name=MW 83 i∧Jp rk lo hi s=0∧Ze s∧∃ a,a<6∧s.Dp=gi E8 a:=by
 obtain ⟨hl,hok⟩:=hrk
 obtain ⟨x1,x2,x3,x4⟩:=hx
 obtain ⟨n,hn⟩:∃ n,n=x.rank % rk.length:=⟨_,rfl⟩
 have hnl:n<rk.length:=by rw [hn];exact Nat.mod_lt _ hl.1
 obtain ⟨m,hm⟩:∃ m,m=(n+1) % rk.length:=⟨_,rfl⟩
 have hml:m<rk.length:=by rw [hm];exact Nat.mod_lt _ hl.1
 have hf6:=jJ x.Dp x2
 have h6:x.Dp % 6<6:=Nat.mod_lt _ (by decide)
 have f6:=uK _ h6
 obtain ⟨-,b,hb,eb⟩:=hok n hnl
 obtain ⟨-,c,hc2,ec⟩:=hok m hml
 have s1:=uF _ h6 b hb
 have s2:=uF _ h6 c hc2
 rw [← eb] at s1
 rw [← ec] at s2
 generalize hF:gi E8 (x.Dp % 6)=F at *
 have q1:=KE F (gi rk n).Dp
 have q2:=KE F (gi rk m).Dp
 rw [s1.1] at q1
 rw [s2.1] at q2
 generalize (BZ F (gi rk n).Dp).1=sh at *
 generalize (BZ F (gi rk m).Dp).1=so at *
 have a7v:eY rk lo hi=0:=YB (fun i h=>(hok i h).1) (by omega) hc
 have MS:∀ g:List Seg,(0<g.length∧g.length≤12)→JQ rk.length lo hi g 0=0→Jp rk lo hi ⟨MW 83 i,F,g⟩=0:=fun g h1 h2=>by
  unfold Jp uj
  rw [if_neg (fun h=>h a7v),if_neg (fun h=>h (XP (by decide) (by omega))),if_neg (fun h=>h (OG.2 f6)),if_neg (by simp only;omega),if_neg (by simp only;omega)]
  exact h2
 have sm:∀ g:List Seg,g.length<1000000→(∀ j,j<g.length→(gi g j).draws.length<1000000)→Ze ⟨MW 83 i,F,g⟩:=fun g h1 h2=>⟨by simp [MW],h1,fun j hj=>⟨h2 j hj⟩⟩
 have fD:UG rk.length ⟨n,sh⟩:=⟨⟨by simp only;omega,by simp only;omega⟩,⟨by simp only;omega,by simp only;omega⟩⟩
 have hn2:(n:Int)=(x.rank:Int) % rk.length:=by rw [hn];simp
 obtain ⟨d,hd⟩:∃ d:Nat,(d:Int)=(x.at_:Int) % (hi-lo+1):=⟨((x.at_:Int) % (hi-lo+1)).toNat,by have:=Int.emod_nonneg (x.at_:Int) (show hi-lo+1≠0 by omega);omega⟩
 have hd2:(d:Int)≤hi-lo:=by have:=Int.emod_lt_of_pos (x.at_:Int) (show 0<hi-lo+1 by omega);omega
 have hk6:x.kind % 6<6:=Nat.mod_lt _ (by decide)
 rw [hm,hn] at q2 hml
 rw [hn] at q1 hnl
 have hm2:(m:Int)=((x.rank:Int) % rk.length+1) % rk.length:=by rw [hm,hn];simp
 have hAt:lo+(d:Int)=lo+(x.at_:Int) % (hi-lo+1):=by omega
 rw [hn2] at fD
 have dSo:UG rk.length ⟨((x.rank:Int) % rk.length+1) % rk.length,so⟩:=by
  rw [← hm2]
  exact ⟨⟨by simp only;omega,by simp only;rw [hm];have:=Nat.mod_lt (n+1) hl.1;omega⟩,⟨by simp only;omega,by simp only;omega⟩⟩
 have dTw:UG rk.length ⟨(x.rank:Int) % rk.length,sh-12⟩:=⟨fD.rank,⟨by simp only;omega,by simp only;omega⟩⟩
 have dTh:UG rk.length ⟨(x.rank:Int) % rk.length,sh+7⟩:=⟨fD.rank,⟨by simp only;omega,by simp only;omega⟩⟩
 by_cases k2:x.kind % 6=2
 ·refine ⟨⟨MW 83 i,F,[⟨lo,hi,[⟨(x.rank:Int) % rk.length,sh⟩,⟨(x.rank:Int) % rk.length,sh+7⟩]⟩]⟩,?_,rfl,?_,?_,_,h6,hF.symm⟩
  ·refine AY.enter (AB (by decide)) Tryz.func56 rfl (by kernel_rfl) (by simp [Tryz.ntmps56]) ?_
   repeat' (first|(refine Ad.at 5 ?_;refine Ad.ghost (Ba.freeze 13 rfl rfl) ?_;first|apply Ad.AA|apply Ad.BJ)|(refine Ad.at 22 ?_;refine Ad.ghost (Ba.Di 4 3 rfl rfl rfl) ?_;first|apply Ad.AA|apply Ad.BJ)|(refine Ag.IX 88 ?_;refine Ag.ghost (Ba.freeze 87 rfl rfl) ?_)|apply Ad.assoc|apply Ad.AA|apply Ad.BJ|apply Ad.region|apply Ad.Ai|apply AO.normal|apply AL.normal|apply Ad.ret|apply Ag.nil|apply Ap.nil|apply Ag.one|(apply Ap.bar;decide +kernel)|apply Ap.quiet|(apply Aa.fn;rfl;rfl;exact hf6;intro _;rfl)|(apply Aa.fn;rfl;rfl;exact q1;intro _;rfl)|(apply Aa.GV;rfl;rfl;rfl;rfl;rfl;omega)|(apply Aa.AP (l:=rk) (i:=x.rank % rk.length);rfl;rfl;rfl;exact hnl;rfl)|(apply Aa.assign;rfl)|(apply Aa.move;rfl)|(apply Aa.Bv;rfl;rfl;omega)|(apply Aa.IC;rfl;rfl;omega)|(apply Aa.O4;rfl;rfl;omega;omega)|(apply Aa.int;rfl;rfl;rfl)|(apply Aa.load;rfl;rfl)|(apply Aa.BI;rfl;rfl)|(apply Aa.AU;rfl;rfl;rfl)|(apply Aa.DK;rfl;rfl)|(apply Aa.box;rfl;trivial)|(apply Aa.alloc;rfl)|(apply Aa.Bo;rfl;rfl;rfl;trivial;rfl;rfl;exact Ac rfl;exact le_dec rfl)|(apply Aa.build;rfl;rfl;rfl;rfl;rfl)|(apply Aa.buildSlice;rfl;rfl;rfl;decide;rfl;rfl;rfl)|(apply Aa.U5;rfl;rfl;(first|omega|(simp only [List.length_take,List.length_drop,List.length_append,List.length_singleton,List.length_cons,List.length_nil]<;>omega)))|(apply Aa.extract;rfl;rfl)|(apply Aa.Jh;rfl;rfl;rfl;rfl;omega)|(apply Aa.Lm;rfl;rfl;rfl;rfl;omega)|(apply Ad.A8;rfl)|(intro _;try (exfalso;omega)))
   all_goals first|(exfalso;omega)|contradiction|(refine Done.ret rfl (.refl _) (by first|exact trivial|exact ⟨trivial,trivial,trivial⟩|exact ⟨trivial,trivial,trivial,trivial⟩) Aj.nil (Nat.zero_le _) (Nat.le_refl _) ⟨?_,rfl,rfl⟩;rfl)
  ·exact MS _ (by simp) (Jw ⟨Int.le_refl _,hc.2.1,Int.le_refl _⟩ (wP fD dTh (fun h=>by have:=congrArg iC.shift h;simp only at this;omega)))
  ·refine sm _ (by simp) (fun j hj=>?_)
   obtain rfl:j=0:=by simp at hj;omega
   show 2<1000000
   decide
 by_cases k5:x.kind % 6=5
 ·refine ⟨⟨MW 83 i,F,[⟨lo+(x.at_:Int) % (hi-lo+1),hi,[⟨(x.rank:Int) % rk.length,sh⟩]⟩]⟩,?_,rfl,?_,?_,_,h6,hF.symm⟩
  ·refine AY.enter (AB (by decide)) Tryz.func56 rfl (by kernel_rfl) (by simp [Tryz.ntmps56]) ?_
   repeat' (first|(refine Ad.at 5 ?_;refine Ad.ghost (Ba.freeze 13 rfl rfl) ?_;first|apply Ad.AA|apply Ad.BJ)|(refine Ad.at 22 ?_;refine Ad.ghost (Ba.Di 4 3 rfl rfl rfl) ?_;first|apply Ad.AA|apply Ad.BJ)|apply Ad.assoc|apply Ad.AA|apply Ad.BJ|apply Ad.region|apply Ad.Ai|apply AO.normal|apply AL.normal|apply Ad.ret|apply Ag.nil|apply Ap.nil|apply Ag.one|(apply Ap.bar;decide +kernel)|apply Ap.quiet|(apply Aa.fn;rfl;rfl;exact hf6;intro _;rfl)|(apply Aa.fn;rfl;rfl;exact q1;intro _;rfl)|(apply Aa.GV;rfl;rfl;rfl;rfl;rfl;omega)|(apply Aa.AP (l:=rk) (i:=x.rank % rk.length);rfl;rfl;rfl;exact hnl;rfl)|(apply Aa.assign;rfl)|(apply Aa.move;rfl)|(apply Aa.Bv;rfl;rfl;omega)|(apply Aa.IC;rfl;rfl;omega)|(apply Aa.O4;rfl;rfl;omega;omega)|(apply Aa.int;rfl;rfl;rfl)|(apply Aa.load;rfl;rfl)|(apply Aa.BI;rfl;rfl)|(apply Aa.AU;rfl;rfl;rfl)|(apply Aa.DK;rfl;rfl)|(apply Aa.box;rfl;trivial)|(apply Aa.alloc;rfl)|(apply Aa.Bo;rfl;rfl;rfl;trivial;rfl;rfl;exact Ac rfl;exact le_dec rfl)|(apply Aa.build;rfl;rfl;rfl;rfl;rfl)|(apply Aa.buildSlice;rfl;rfl;rfl;decide;rfl;rfl;rfl)|(apply Aa.U5;rfl;rfl;(first|omega|(simp only [List.length_take,List.length_drop,List.length_append,List.length_singleton,List.length_cons,List.length_nil]<;>omega)))|(apply Aa.extract;rfl;rfl)|(apply Aa.Jh;rfl;rfl;rfl;rfl;omega)|(apply Aa.Lm;rfl;rfl;rfl;rfl;omega)|(apply Ad.Af;rfl)|(apply Ad.A8;rfl)|(intro _;try (exfalso;omega)))
   all_goals first|(exfalso;omega)|contradiction|(refine Done.ret rfl (.refl _) (by first|exact trivial|exact ⟨trivial,trivial,trivial⟩|exact ⟨trivial,trivial,trivial,trivial⟩) Aj.nil (Nat.zero_le _) (Nat.le_refl _) ⟨?_,rfl,rfl⟩;rfl)
  ·exact MS _ (by simp) (Jw ⟨by simp only;omega,by simp only;omega,Int.le_refl _⟩ (Iq fD))
  ·refine sm _ (by simp) (fun j hj=>?_)
   obtain rfl:j=0:=by simp at hj;omega
   show 1<1000000
   decide
 by_cases k01:x.kind % 6<2
 ·refine ⟨⟨MW 83 i,F,[⟨lo,hi,[⟨(x.rank:Int) % rk.length,sh⟩]⟩]⟩,?_,rfl,?_,?_,_,h6,hF.symm⟩
  ·refine AY.enter (AB (by decide)) Tryz.func56 rfl (by kernel_rfl) (by simp [Tryz.ntmps56]) ?_
   repeat' (first|(refine Ad.at 5 ?_;refine Ad.ghost (Ba.freeze 13 rfl rfl) ?_;first|apply Ad.AA|apply Ad.BJ)|(refine Ad.at 22 ?_;refine Ad.ghost (Ba.Di 4 3 rfl rfl rfl) ?_;first|apply Ad.AA|apply Ad.BJ)|apply Ad.assoc|apply Ad.AA|apply Ad.BJ|apply Ad.region|apply Ad.Ai|apply AO.normal|apply AL.normal|apply Ad.ret|apply Ag.nil|apply Ap.nil|apply Ag.one|(apply Ap.bar;decide +kernel)|apply Ap.quiet|(apply Aa.fn;rfl;rfl;exact hf6;intro _;rfl)|(apply Aa.fn;rfl;rfl;exact q1;intro _;rfl)|(apply Aa.GV;rfl;rfl;rfl;rfl;rfl;omega)|(apply Aa.AP (l:=rk) (i:=x.rank % rk.length);rfl;rfl;rfl;exact hnl;rfl)|(apply Aa.assign;rfl)|(apply Aa.move;rfl)|(apply Aa.Bv;rfl;rfl;omega)|(apply Aa.IC;rfl;rfl;omega)|(apply Aa.O4;rfl;rfl;omega;omega)|(apply Aa.int;rfl;rfl;rfl)|(apply Aa.load;rfl;rfl)|(apply Aa.BI;rfl;rfl)|(apply Aa.AU;rfl;rfl;rfl)|(apply Aa.DK;rfl;rfl)|(apply Aa.box;rfl;trivial)|(apply Aa.alloc;rfl)|(apply Aa.Bo;rfl;rfl;rfl;trivial;rfl;rfl;exact Ac rfl;exact le_dec rfl)|(apply Aa.build;rfl;rfl;rfl;rfl;rfl)|(apply Aa.buildSlice;rfl;rfl;rfl;decide;rfl;rfl;rfl)|(apply Aa.U5;rfl;rfl;(first|omega|(simp only [List.length_take,List.length_drop,List.length_append,List.length_singleton,List.length_cons,List.length_nil]<;>omega)))|(apply Aa.extract;rfl;rfl)|(apply Aa.Jh;rfl;rfl;rfl;rfl;omega)|(apply Aa.Lm;rfl;rfl;rfl;rfl;omega)|(apply Ad.Af;rfl)|(apply Ad.A8;rfl)|(intro _;try (exfalso;omega)))
   all_goals first|(exfalso;omega)|contradiction|(refine Done.ret rfl (.refl _) (by first|exact trivial|exact ⟨trivial,trivial,trivial⟩|exact ⟨trivial,trivial,trivial,trivial⟩) Aj.nil (Nat.zero_le _) (Nat.le_refl _) ⟨?_,rfl,rfl⟩;rfl)
  ·exact MS _ (by simp) (Jw ⟨Int.le_refl _,hc.2.1,Int.le_refl _⟩ (Iq fD))
  ·refine sm _ (by simp) (fun j hj=>?_)
   obtain rfl:j=0:=by simp at hj;omega
   show 1<1000000
   decide
 by_cases hd0:d=0
 ·by_cases k3:x.kind % 6=3
  ·refine ⟨⟨MW 83 i,F,[⟨lo+(x.at_:Int) % (hi-lo+1),hi,[⟨((x.rank:Int) % rk.length+1) % rk.length,so⟩]⟩]⟩,?_,rfl,?_,?_,_,h6,hF.symm⟩
   ·refine AY.enter (AB (by decide)) Tryz.func56 rfl (by kernel_rfl) (by simp [Tryz.ntmps56]) ?_
    repeat' (first|(refine Ad.at 17 ?_;refine Ad.ghost (Ba.trans (Ba.freeze 15 rfl rfl) (Ba.EG 4 3 136 rfl rfl)) ?_;first|apply Ad.AA|apply Ad.BJ)|(refine Ad.at 5 ?_;refine Ad.ghost (Ba.freeze 13 rfl rfl) ?_;first|apply Ad.AA|apply Ad.BJ)|(refine Ad.at 22 ?_;refine Ad.ghost (Ba.Di 4 3 rfl rfl rfl) ?_;first|apply Ad.AA|apply Ad.BJ)|apply Ad.assoc|apply Ad.AA|apply Ad.BJ|apply Ad.region|apply Ad.Aq|apply Ad.Ai|apply AO.normal|apply AL.normal|apply Ad.ret|apply Ag.nil|apply Ap.nil|apply Ag.one|(apply Ap.bar;decide +kernel)|apply Ap.quiet|(apply Aa.Dl (l:=([]:List Seg)) (a:=⟨lo+(x.at_:Int) % (hi-lo+1),hi,[⟨((x.rank:Int) % rk.length+1) % rk.length,so⟩]⟩);rfl;rfl;rfl;rfl;rfl;rfl;rfl;rfl;(intro _ h;cases h);rfl;rfl;rfl;decide;decide;(first|omega|(simp only [List.length_nil,List.length_cons]<;>omega)))|(apply Aa.fn;rfl;rfl;exact hf6;intro _;rfl)|(apply Aa.fn;rfl;rfl;exact q1;intro _;rfl)|(apply Aa.fn;rfl;rfl;exact q2;intro _;rfl)|(apply Aa.GV;rfl;rfl;rfl;rfl;rfl;omega)|(apply Aa.AP (l:=rk) (i:=x.rank % rk.length);rfl;rfl;rfl;exact hnl;rfl)|(apply Aa.AP (l:=rk) (i:=(x.rank % rk.length+1) % rk.length);rfl;rfl;rfl;exact hml;rfl)|(apply Aa.assign;rfl)|(apply Aa.move;rfl)|(apply Aa.Bv;rfl;rfl;omega)|(apply Aa.IC;rfl;rfl;omega)|(apply Aa.O4;rfl;rfl;omega;omega)|(apply Aa.int;rfl;rfl;rfl)|(apply Aa.load;rfl;rfl)|(apply Aa.BI;rfl;rfl)|(apply Aa.AU;rfl;rfl;rfl)|(apply Aa.DK;rfl;rfl)|(apply Aa.box;rfl;trivial)|(apply Aa.alloc;rfl)|(apply Aa.Bo;rfl;rfl;rfl;trivial;rfl;rfl;exact Ac rfl;exact le_dec rfl)|(apply Aa.build;rfl;rfl;rfl;rfl;rfl)|(apply Aa.buildSlice;rfl;rfl;rfl;decide;rfl;rfl;rfl)|(apply Aa.U5;rfl;rfl;(first|omega|(simp only [List.length_take,List.length_drop,List.length_append,List.length_singleton,List.length_cons,List.length_nil]<;>omega)))|(apply Aa.extract;rfl;rfl)|(apply Aa.Jh;rfl;rfl;rfl;rfl;omega)|(apply Aa.Lm;rfl;rfl;rfl;rfl;omega)|(apply Ad.Af;rfl)|(apply Ad.A8;rfl)|(intro _;try (exfalso;omega)))
    all_goals first|(exfalso;omega)|contradiction|(refine Done.ret rfl (.refl _) (by first|exact trivial|exact ⟨trivial,trivial,trivial⟩|exact ⟨trivial,trivial,trivial,trivial⟩) Aj.nil (Nat.zero_le _) (Nat.le_refl _) ⟨?_,rfl,rfl⟩;rfl)
   ·exact MS _ (by simp) (Jw ⟨by simp only;omega,by simp only;omega,Int.le_refl _⟩ (Iq dSo))
   ·refine sm _ (by simp) (fun j hj=>?_)
    obtain rfl:j=0:=by simp at hj;omega
    show 1<1000000
    decide
  ·refine ⟨⟨MW 83 i,F,[⟨lo+(x.at_:Int) % (hi-lo+1),hi,[⟨(x.rank:Int) % rk.length,sh-12⟩]⟩]⟩,?_,rfl,?_,?_,_,h6,hF.symm⟩
   ·refine AY.enter (AB (by decide)) Tryz.func56 rfl (by kernel_rfl) (by simp [Tryz.ntmps56]) ?_
    repeat' (first|(refine Ad.at 17 ?_;refine Ad.ghost (Ba.trans (Ba.freeze 15 rfl rfl) (Ba.EG 4 3 136 rfl rfl)) ?_;first|apply Ad.AA|apply Ad.BJ)|(refine Ad.at 5 ?_;refine Ad.ghost (Ba.freeze 13 rfl rfl) ?_;first|apply Ad.AA|apply Ad.BJ)|(refine Ad.at 22 ?_;refine Ad.ghost (Ba.Di 4 3 rfl rfl rfl) ?_;first|apply Ad.AA|apply Ad.BJ)|apply Ad.assoc|apply Ad.AA|apply Ad.BJ|apply Ad.region|apply Ad.Aq|apply Ad.Ai|apply AO.normal|apply AL.normal|apply Ad.ret|apply Ag.nil|apply Ap.nil|apply Ag.one|(apply Ap.bar;decide +kernel)|apply Ap.quiet|(apply Aa.Dl (l:=([]:List Seg)) (a:=⟨lo+(x.at_:Int) % (hi-lo+1),hi,[⟨(x.rank:Int) % rk.length,sh-12⟩]⟩);rfl;rfl;rfl;rfl;rfl;rfl;rfl;rfl;(intro _ h;cases h);rfl;rfl;rfl;decide;decide;(first|omega|(simp only [List.length_nil,List.length_cons]<;>omega)))|(apply Aa.fn;rfl;rfl;exact hf6;intro _;rfl)|(apply Aa.fn;rfl;rfl;exact q1;intro _;rfl)|(apply Aa.GV;rfl;rfl;rfl;rfl;rfl;omega)|(apply Aa.AP (l:=rk) (i:=x.rank % rk.length);rfl;rfl;rfl;exact hnl;rfl)|(apply Aa.assign;rfl)|(apply Aa.move;rfl)|(apply Aa.Bv;rfl;rfl;omega)|(apply Aa.IC;rfl;rfl;omega)|(apply Aa.O4;rfl;rfl;omega;omega)|(apply Aa.int;rfl;rfl;rfl)|(apply Aa.load;rfl;rfl)|(apply Aa.BI;rfl;rfl)|(apply Aa.AU;rfl;rfl;rfl)|(apply Aa.DK;rfl;rfl)|(apply Aa.box;rfl;trivial)|(apply Aa.alloc;rfl)|(apply Aa.Bo;rfl;rfl;rfl;trivial;rfl;rfl;exact Ac rfl;exact le_dec rfl)|(apply Aa.build;rfl;rfl;rfl;rfl;rfl)|(apply Aa.buildSlice;rfl;rfl;rfl;decide;rfl;rfl;rfl)|(apply Aa.U5;rfl;rfl;(first|omega|(simp only [List.length_take,List.length_drop,List.length_append,List.length_singleton,List.length_cons,List.length_nil]<;>omega)))|(apply Aa.extract;rfl;rfl)|(apply Aa.Jh;rfl;rfl;rfl;rfl;omega)|(apply Aa.Lm;rfl;rfl;rfl;rfl;omega)|(apply Ad.Af;rfl)|(apply Ad.A8;rfl)|(intro _;try (exfalso;omega)))
    all_goals first|(exfalso;omega)|contradiction|(refine Done.ret rfl (.refl _) (by first|exact trivial|exact ⟨trivial,trivial,trivial⟩|exact ⟨trivial,trivial,trivial,trivial⟩) Aj.nil (Nat.zero_le _) (Nat.le_refl _) ⟨?_,rfl,rfl⟩;rfl)
   ·exact MS _ (by simp) (Jw ⟨by simp only;omega,by simp only;omega,Int.le_refl _⟩ (Iq dTw))
   ·refine sm _ (by simp) (fun j hj=>?_)
    obtain rfl:j=0:=by simp at hj;omega
    show 1<1000000
    decide
 ·by_cases k3:x.kind % 6=3
  ·refine ⟨⟨MW 83 i,F,[⟨lo,lo+(x.at_:Int) % (hi-lo+1)-1,[⟨(x.rank:Int) % rk.length,sh⟩]⟩,⟨lo+(x.at_:Int) % (hi-lo+1),hi,[⟨((x.rank:Int) % rk.length+1) % rk.length,so⟩]⟩]⟩,?_,rfl,?_,?_,_,h6,hF.symm⟩
   ·refine AY.enter (AB (by decide)) Tryz.func56 rfl (by kernel_rfl) (by simp [Tryz.ntmps56]) ?_
    repeat' (first|(refine Ad.at 17 ?_;refine Ad.ghost (Ba.trans (Ba.freeze 15 rfl rfl) (Ba.EG 4 3 136 rfl rfl)) ?_;first|apply Ad.AA|apply Ad.BJ)|(refine Ad.at 5 ?_;refine Ad.ghost (Ba.freeze 13 rfl rfl) ?_;first|apply Ad.AA|apply Ad.BJ)|(refine Ad.at 22 ?_;refine Ad.ghost (Ba.Di 4 3 rfl rfl rfl) ?_;first|apply Ad.AA|apply Ad.BJ)|apply Ad.assoc|apply Ad.AA|apply Ad.BJ|apply Ad.region|apply Ad.Aq|apply Ad.Ai|apply AO.normal|apply AL.normal|apply Ad.ret|apply Ag.nil|apply Ap.nil|apply Ag.one|(apply Ap.bar;decide +kernel)|apply Ap.quiet|(apply Aa.Dl (l:=([]:List Seg)) (a:=⟨lo,lo+(x.at_:Int) % (hi-lo+1)-1,[⟨(x.rank:Int) % rk.length,sh⟩]⟩);rfl;rfl;rfl;rfl;rfl;rfl;rfl;rfl;(intro _ h;cases h);rfl;rfl;rfl;decide;decide;(first|omega|(simp only [List.length_nil,List.length_cons]<;>omega)))|(apply Aa.Dl (l:=([⟨lo,lo+(x.at_:Int) % (hi-lo+1)-1,[⟨(x.rank:Int) % rk.length,sh⟩]⟩]:List Seg)) (a:=⟨lo+(x.at_:Int) % (hi-lo+1),hi,[⟨((x.rank:Int) % rk.length+1) % rk.length,so⟩]⟩);rfl;rfl;rfl;rfl;rfl;rfl;rfl;rfl;(intro _ h;cases h);rfl;rfl;rfl;decide;decide;(first|omega|(simp only [List.length_nil,List.length_cons]<;>omega)))|(apply Aa.fn;rfl;rfl;exact hf6;intro _;rfl)|(apply Aa.fn;rfl;rfl;exact q1;intro _;rfl)|(apply Aa.fn;rfl;rfl;exact q2;intro _;rfl)|(apply Aa.GV;rfl;rfl;rfl;rfl;rfl;omega)|(apply Aa.AP (l:=rk) (i:=x.rank % rk.length);rfl;rfl;rfl;exact hnl;rfl)|(apply Aa.AP (l:=rk) (i:=(x.rank % rk.length+1) % rk.length);rfl;rfl;rfl;exact hml;rfl)|(apply Aa.assign;rfl)|(apply Aa.move;rfl)|(apply Aa.Bv;rfl;rfl;omega)|(apply Aa.IC;rfl;rfl;omega)|(apply Aa.O4;rfl;rfl;omega;omega)|(apply Aa.int;rfl;rfl;rfl)|(apply Aa.load;rfl;rfl)|(apply Aa.BI;rfl;rfl)|(apply Aa.AU;rfl;rfl;rfl)|(apply Aa.DK;rfl;rfl)|(apply Aa.box;rfl;trivial)|(apply Aa.alloc;rfl)|(apply Aa.Bo;rfl;rfl;rfl;trivial;rfl;rfl;exact Ac rfl;exact le_dec rfl)|(apply Aa.build;rfl;rfl;rfl;rfl;rfl)|(apply Aa.buildSlice;rfl;rfl;rfl;decide;rfl;rfl;rfl)|(apply Aa.U5;rfl;rfl;(first|omega|(simp only [List.length_take,List.length_drop,List.length_append,List.length_singleton,List.length_cons,List.length_nil]<;>omega)))|(apply Aa.extract;rfl;rfl)|(apply Aa.Jh;rfl;rfl;rfl;rfl;omega)|(apply Aa.Lm;rfl;rfl;rfl;rfl;omega)|(apply Ad.Af;rfl)|(apply Ad.A8;rfl)|(intro _;try (exfalso;omega)))
    all_goals first|(exfalso;omega)|contradiction|(refine Done.ret rfl (.refl _) (by first|exact trivial|exact ⟨trivial,trivial,trivial⟩|exact ⟨trivial,trivial,trivial,trivial⟩) Aj.nil (Nat.zero_le _) (Nat.le_refl _) ⟨?_,rfl,rfl⟩;rfl)
   ·exact MS _ (by simp) (Yk ⟨Int.le_refl _,by simp only;omega,by simp only;omega,by simp only;omega,Int.le_refl _⟩ (Iq fD) (Iq dSo))
   ·refine sm _ (by simp) (fun j hj=>?_)
    have:j=0∨j=1:=by simp at hj;omega
    rcases this with rfl|rfl
    ·show 1<1000000
     decide
    ·show 1<1000000
     decide
  ·refine ⟨⟨MW 83 i,F,[⟨lo,lo+(x.at_:Int) % (hi-lo+1)-1,[⟨(x.rank:Int) % rk.length,sh⟩]⟩,⟨lo+(x.at_:Int) % (hi-lo+1),hi,[⟨(x.rank:Int) % rk.length,sh-12⟩]⟩]⟩,?_,rfl,?_,?_,_,h6,hF.symm⟩
   ·refine AY.enter (AB (by decide)) Tryz.func56 rfl (by kernel_rfl) (by simp [Tryz.ntmps56]) ?_
    repeat' (first|(refine Ad.at 17 ?_;refine Ad.ghost (Ba.trans (Ba.freeze 15 rfl rfl) (Ba.EG 4 3 136 rfl rfl)) ?_;first|apply Ad.AA|apply Ad.BJ)|(refine Ad.at 5 ?_;refine Ad.ghost (Ba.freeze 13 rfl rfl) ?_;first|apply Ad.AA|apply Ad.BJ)|(refine Ad.at 22 ?_;refine Ad.ghost (Ba.Di 4 3 rfl rfl rfl) ?_;first|apply Ad.AA|apply Ad.BJ)|apply Ad.assoc|apply Ad.AA|apply Ad.BJ|apply Ad.region|apply Ad.Aq|apply Ad.Ai|apply AO.normal|apply AL.normal|apply Ad.ret|apply Ag.nil|apply Ap.nil|apply Ag.one|(apply Ap.bar;decide +kernel)|apply Ap.quiet|(apply Aa.Dl (l:=([]:List Seg)) (a:=⟨lo,lo+(x.at_:Int) % (hi-lo+1)-1,[⟨(x.rank:Int) % rk.length,sh⟩]⟩);rfl;rfl;rfl;rfl;rfl;rfl;rfl;rfl;(intro _ h;cases h);rfl;rfl;rfl;decide;decide;(first|omega|(simp only [List.length_nil,List.length_cons]<;>omega)))|(apply Aa.Dl (l:=([⟨lo,lo+(x.at_:Int) % (hi-lo+1)-1,[⟨(x.rank:Int) % rk.length,sh⟩]⟩]:List Seg)) (a:=⟨lo+(x.at_:Int) % (hi-lo+1),hi,[⟨(x.rank:Int) % rk.length,sh-12⟩]⟩);rfl;rfl;rfl;rfl;rfl;rfl;rfl;rfl;(intro _ h;cases h);rfl;rfl;rfl;decide;decide;(first|omega|(simp only [List.length_nil,List.length_cons]<;>omega)))|(apply Aa.fn;rfl;rfl;exact hf6;intro _;rfl)|(apply Aa.fn;rfl;rfl;exact q1;intro _;rfl)|(apply Aa.GV;rfl;rfl;rfl;rfl;rfl;omega)|(apply Aa.AP (l:=rk) (i:=x.rank % rk.length);rfl;rfl;rfl;exact hnl;rfl)|(apply Aa.assign;rfl)|(apply Aa.move;rfl)|(apply Aa.Bv;rfl;rfl;omega)|(apply Aa.IC;rfl;rfl;omega)|(apply Aa.O4;rfl;rfl;omega;omega)|(apply Aa.int;rfl;rfl;rfl)|(apply Aa.load;rfl;rfl)|(apply Aa.BI;rfl;rfl)|(apply Aa.AU;rfl;rfl;rfl)|(apply Aa.DK;rfl;rfl)|(apply Aa.box;rfl;trivial)|(apply Aa.alloc;rfl)|(apply Aa.Bo;rfl;rfl;rfl;trivial;rfl;rfl;exact Ac rfl;exact le_dec rfl)|(apply Aa.build;rfl;rfl;rfl;rfl;rfl)|(apply Aa.buildSlice;rfl;rfl;rfl;decide;rfl;rfl;rfl)|(apply Aa.U5;rfl;rfl;(first|omega|(simp only [List.length_take,List.length_drop,List.length_append,List.length_singleton,List.length_cons,List.length_nil]<;>omega)))|(apply Aa.extract;rfl;rfl)|(apply Aa.Jh;rfl;rfl;rfl;rfl;omega)|(apply Aa.Lm;rfl;rfl;rfl;rfl;omega)|(apply Ad.Af;rfl)|(apply Ad.A8;rfl)|(intro _;try (exfalso;omega)))
    all_goals first|(exfalso;omega)|contradiction|(refine Done.ret rfl (.refl _) (by first|exact trivial|exact ⟨trivial,trivial,trivial⟩|exact ⟨trivial,trivial,trivial,trivial⟩) Aj.nil (Nat.zero_le _) (Nat.le_refl _) ⟨?_,rfl,rfl⟩;rfl)
   ·exact MS _ (by simp) (Yk ⟨Int.le_refl _,by simp only;omega,by simp only;omega,by simp only;omega,Int.le_refl _⟩ (Iq fD) (Iq dTw))
   ·refine sm _ (by simp) (fun j hj=>?_)
    have:j=0∨j=1:=by simp at hj;omega
    rcases this with rfl|rfl
    ·show 1<1000000
     decide
    ·show 1<1000000
     decide
end Go.Proofs.YtdabojnmoejilaaGreatDoor
namespace Go.Proofs.YtdabojnmoejilaaGreatDoor
open Go Go.Am Go.Vm
attribute [local irreducible] Aa Ag Ap Ad BA AY CJ AO AL Aw Vm.Done Dc Bq
end Go.Proofs.YtdabojnmoejilaaGreatDoor
namespace Go.Proofs.YtdabojnmoejilaaGreatDoor
open Go Go.Am Go.Vm
attribute [local irreducible] Aa Ag Ap Ad BA AY CJ AO AL Aw Vm.Done Dc Bq
noncomputable instance (a b:JU):Decidable (a=b):=Classical.propDecidable _
noncomputable instance (a b:FU):Decidable (a=b):=Classical.propDecidable _
def lnC (i c:Nat):Prop:=bY c∨(i≠0∧(c=95∨(48≤c∧c≤57)))
def a5n (r:FU):Prop:=(r.EP.length≤30∨r.EP.length=129)∧r.name.length≤40∧r.EC.length≤40
instance (r:FU):Decidable (a5n r):=by unfold a5n;infer_instance
end Go.Proofs.YtdabojnmoejilaaGreatDoor
namespace Go.Proofs.YtdabojnmoejilaaGreatDoor
open Go Go.Am Go.Vm
attribute [local irreducible] Aa Ag Ap Ad BA AY CJ AO AL Aw Vm.Done Dc Bq
attribute [local irreducible] D8 DT wM BZ UR
noncomputable def b2r (r:FU) (f p:Int):FV×Int:=if UR r f≠0 then (JY,UR r f) else if p<1∨p>r.EP.length-f then (JY,3) else zF r (r.first+f) ((r.EP.drop f.toNat).take ((f+p).toNat-f.toNat))
noncomputable def b1y (a b:FU):FV×Int:=if D8 a≠0 then (JY,D8 a) else if D8 b≠0 then (JY,D8 b) else if ¬ (a.EC=b.EC∧a.Dp=b.Dp) then (JY,14) else if b.first≠a.first+a.EP.length then (JY,6) else zF a a.first (a.EP++b.EP)
theorem xq:∀ n,n<3→C9 (gi NU n)
 |0,_=>qo
 |1,_=>by
  refine ⟨by decide,by decide,by decide,fun i h1 h2=>?_⟩
  have:i=1∨i=2∨i=3∨i=4:=by simp [NU,gi] at h2;omega
  rcases this with rfl|rfl|rfl|rfl<;>exact .inl (by decide)
 |2,_=>by
  refine ⟨by decide,by decide,by decide,fun i h1 h2=>?_⟩
  have:i=1∨i=2∨i=3:=by simp [NU,gi] at h2;omega
  rcases this with rfl|rfl|rfl<;>exact .inl (by decide)
theorem yV:∀ n,n<16→qW (gi Pn n):=by decide +kernel
theorem dK (x:FW):∀ k i,i<k→gi (Ip x k) i=((gi x.EP (i % 5):Nat):Int)
 |k+1,i,h=>by
  rcases Nat.lt_or_ge i k with h1|h1
  ·have:gi (Ip x (k+1)) i=gi (Ip x k) i:=by simp [Ip,gi,List.getElem?_append_left (show i<(Ip x k).length by rw [FD];exact h1)]
   rw [this];exact dK x k i h1
  ·obtain rfl:i=k:=by omega
   simp [Ip,gi,List.getElem?_append_right (show (Ip x i).length≤i by rw [FD];exact Nat.le_refl _),FD]
theorem a3i (x:FW) (hx:x.Ok) (i:Int) (hi:0≤i):D8 (TI x i)=0:=by
 obtain ⟨h1,h2,h3,h4,h5⟩:=hx
 refine kV ⟨by simp [TI],by simp [TI],(show bY (82:UInt8).toNat by decide),fun j j1 j2=>?_⟩ (xq _ (Nat.mod_lt _ (by decide))) (yV _ (Nat.mod_lt _ (by decide))) ⟨by simp only [TI];omega,by simp only [TI];omega⟩ ⟨by simp only [TI,FD];omega,by simp only [TI,FD];omega⟩ (fun j hj=>?_)
 ·obtain rfl:j=1:=by simp [TI] at j2;omega
  have e:(gi (TI x i).name 1).toNat=(48+i % 10).toNat:=by
   show (UInt8.ofNat (48+i % 10).toNat).toNat=_
   rw [UInt8.toNat_ofNat'];omega
  rw [e]
  right;left;omega
 ·simp only [TI,FD] at hj ⊢
  rw [dK x _ j hj]
  have:=h5 (j % 5)
  unfold Yc
  omega
theorem a0y {α:Type} [Inhabited α] {l:List α} {P:α→Prop} (h:∀ a∈l,P a) {n:Nat} (hn:n<l.length):P (gi l n):=by
 simp only [gi,List.getElem?_eq_getElem hn,Option.getD_some]
 exact h _ (List.getElem_mem hn)
theorem zI (x:FW) (i:Int):a7k (TI x i):=by
 refine ⟨by simp [TI],?_,by simp only [TI,FD];omega⟩
 show (gi NU (x.EC % 3)).length<_
 exact Nat.lt_of_le_of_lt (a0y (P:=fun l=>l.length≤5) (by decide) (show x.EC % 3<NU.length from Nat.mod_lt _ (by decide))) (by decide)
theorem vJ (x:FW) (i:Int):(TI x i).EP.length≤25:=by simp only [TI,FD];omega
def a9x:FU:=⟨[],[],⟨0,0⟩,0,[]⟩
end Go.Proofs.YtdabojnmoejilaaGreatDoor
namespace Go.Proofs.YtdabojnmoejilaaGreatDoor
open Go Go.Am Go.Vm
attribute [local irreducible] Aa Ag Ap Ad BA AY CJ AO AL Aw Vm.Done Dc Bq
def Qx (x:pV):Prop:=(1≤x.ranks.length∧x.ranks.length≤3)∧(1≤x.Az.length∧x.Az.length≤3)∧x.links.length≤3∧∀ i,i<x.Az.length→(gi x.Az i).stops.length≤3
noncomputable instance (x:pV):Decidable (Qx x):=Classical.propDecidable _
theorem Yj (x:pV) (hx:x.Ok):AY env 41 [.agg x.enc] (.p (.bool (decide (Qx x)))):=by
 have b1:=hx.nr
 have b2:=hx.nd
 have b3:=hx.nl
 refine AY.enter (AB (by decide)) Tryz.func41 rfl (by kernel_rfl) (by simp [Tryz.ntmps41]) ?_
 by_cases h0:(1≤x.ranks.length∧x.ranks.length≤3)∧(1≤x.Az.length∧x.Az.length≤3)∧x.links.length≤3
 case neg =>
  rw [decide_eq_false (fun h=>h0 ⟨h.1,h.2.1,h.2.2.1⟩)]
  repeat' (first|apply Ad.assoc|apply Ad.AA|apply Ad.BO|apply Ag.nil|apply Ag.one|(apply Ag.take;rfl;rfl)|(apply Ag.drop;rfl;rfl;rfl)|(apply Ag.guard;rfl;rfl)|(apply Aa.assign;rfl)|(apply Aa.move;rfl)|(apply Aa.int;rfl;rfl;rfl)|(apply Aa.load;rfl;rfl)|(apply Aa.BH;rfl;rfl)|(apply Aa.AV;rfl;rfl)|(apply Aa.BI;rfl;rfl)|(apply Aa.AU;rfl;rfl;rfl)|(apply Aa.box;rfl;trivial)|(apply Ad.Bd;rfl)|(apply Ad.Af;rfl)|(intro _;try (exfalso;omega)))
  all_goals first|(exfalso;omega)|(refine Done.ret rfl (.refl _) (by first|exact trivial|exact ⟨trivial,trivial,trivial⟩|exact ⟨trivial,trivial,trivial,trivial⟩) Aj.nil (Nat.zero_le _) (Nat.le_refl _) ⟨?_,rfl,rfl⟩;try rfl)
 repeat' (first|apply Ad.assoc|apply Ad.AA|apply Ad.Aq|apply Ad.Ai|apply Ag.nil|apply Ag.one|(apply Ag.take;rfl;rfl)|(apply Ag.guard;rfl;rfl)|(apply Aa.assign;rfl)|(apply Aa.move;rfl)|(apply Aa.int;rfl;rfl;rfl)|(apply Aa.load;rfl;rfl)|(apply Aa.AV;rfl;rfl)|(apply Aa.BI;rfl;rfl)|(apply Aa.AU;rfl;rfl;rfl)|(apply Aa.box;rfl;trivial)|(apply Ad.Af;rfl)|(intro _;try (exfalso;omega)))
 all_goals try (exfalso;omega)
 refine Ad.Eb (fun k:Nat=>[(1,.ref 0 0),(3,.p (.int .i64 (k:Int)))]) (fun _=>[(0,.box 26 (x.enc.map .p))]) 1 (fun k=>k≤x.Az.length∧∀ i,i<k→(gi x.Az i).stops.length≤3) (fun k=>x.Az.length-k) 0 (by omega) ⟨by omega,fun i hi=>by omega⟩ ⟨by omega,?_,?_⟩ ?_
 ·repeat (first|exact Ae.nil|refine Ae.same trivial rfl ?_|refine Ae.same (Ac rfl) rfl ?_|refine Ae.same ⟨trivial,Ac rfl,Ac rfl,Ac rfl,trivial⟩ rfl ?_|refine Ae.same ⟨trivial,Ac rfl,Ac rfl,trivial⟩ rfl ?_|refine Ae.same ⟨trivial,trivial⟩ rfl ?_|refine Ae.cons trivial rfl (.of_eq (Ar (by simp<;>omega))) ?_)
 ·repeat (first|exact Aj.nil|(refine Aj.cons (Ac rfl) ?_ rfl ?_ ?_;(first|exact trivial|exact AQ.Ah _ _|(simp [HB.under,AQ.under,PV.under]));(first|exact Bj.refl _|exact Bj.vec (Bh.refl _) (by simp))))
 rintro k ⟨hk,hok⟩
 by_cases hkl:k<x.Az.length
 ·have hst:=(hx.Az k hkl).stops
  by_cases h1:(gi x.Az k).stops.length≤3
  ·repeat' (first|apply Ad.assoc|apply Ad.AA|apply Ad.region|apply Ad.Aq|apply Ad.Ai|apply AO.normal|apply AL.normal|apply Ad.skip|apply Ag.nil|apply Ag.one|(apply Aa.assign;rfl)|(apply Aa.move;rfl)|(apply Aa.Bv;rfl;rfl;omega)|(apply Aa.int;rfl;rfl;rfl)|(apply Aa.AP;rfl;rfl;rfl;omega;rfl)|(apply Aa.load;rfl;rfl)|(apply Aa.BI;rfl;rfl)|(apply Aa.AU;rfl;rfl;rfl)|(apply Aa.DK;rfl;rfl)|(apply Ad.Af;rfl)|(apply Ad.A8;rfl)|(intro _;try (exfalso;omega)))
   all_goals try (exfalso;omega)
   refine Aw.normal ⟨k+1,⟨by omega,fun i hi=>?_⟩,by omega,⟨by omega,?_,?_⟩⟩
   ·rcases Nat.lt_or_ge i k with h|h
    ·exact hok i h
    ·obtain rfl:i=k:=by omega
     exact h1
   ·repeat (first|exact Ae.nil|refine Ae.same trivial rfl ?_|refine Ae.same (Ac rfl) rfl ?_|refine Ae.same ⟨trivial,Ac rfl,Ac rfl,Ac rfl,trivial⟩ rfl ?_|refine Ae.same ⟨trivial,Ac rfl,Ac rfl,trivial⟩ rfl ?_|refine Ae.same ⟨trivial,trivial⟩ rfl ?_|refine Ae.cons trivial rfl (.of_eq (Ar (by simp<;>omega))) ?_)
   ·repeat (first|exact Aj.nil|(refine Aj.cons (Ac rfl) ?_ rfl ?_ ?_;(first|exact trivial|exact AQ.Ah _ _|(simp [HB.under,AQ.under,PV.under]));(first|exact Bj.refl _|exact Bj.vec (Bh.refl _) (by simp))))
  ·rw [decide_eq_false (fun h=>h1 (h.2.2.2 k hkl))]
   repeat' (first|apply Ad.assoc|apply Ad.AA|apply Ad.Aq|apply Ad.Ai|apply AO.ret|apply AL.ret|apply Aw.ret|apply Ad.ret|apply Ag.nil|apply Ag.one|(apply Aa.assign;rfl)|(apply Aa.move;rfl)|(apply Aa.int;rfl;rfl;rfl)|(apply Aa.AP;rfl;rfl;rfl;omega;rfl)|(apply Aa.load;rfl;rfl)|(apply Aa.BI;rfl;rfl)|(apply Aa.AU;rfl;rfl;rfl)|(apply Aa.DK;rfl;rfl)|(apply Ad.Af;rfl)|(apply Ad.A8;rfl)|(intro _;try (exfalso;omega)))
   all_goals first|(exfalso;omega)|(refine Done.ret rfl (.refl _) (by first|exact trivial|exact ⟨trivial,trivial,trivial⟩|exact ⟨trivial,trivial,trivial,trivial⟩) Aj.nil (Nat.zero_le _) (Nat.le_refl _) ⟨?_,rfl,rfl⟩;try rfl)
 ·rw [decide_eq_true (show Qx x from ⟨h0.1,h0.2.1,h0.2.2,fun i hi=>hok i (by omega)⟩)]
  repeat' (first|apply Ad.assoc|apply Ad.AA|apply Ad.AZ|apply AO.normal|apply AL.exit|apply Aw.exit|apply Ad.ret|apply Ag.nil|apply Ag.one|(apply Aa.assign;rfl)|(apply Aa.move;rfl)|(apply Aa.int;rfl;rfl;rfl)|(apply Aa.load;rfl;rfl)|(apply Aa.BI;rfl;rfl)|(apply Aa.AU;rfl;rfl;rfl)|(apply Ad.Af;rfl)|(intro _;try (exfalso;omega)))
  all_goals first|(exfalso;omega)|(refine Done.ret rfl (.refl _) (by first|exact trivial|exact ⟨trivial,trivial,trivial⟩|exact ⟨trivial,trivial,trivial,trivial⟩) Aj.nil (Nat.zero_le _) (Nat.le_refl _) ⟨?_,rfl,rfl⟩;try rfl)
def uN (rk:List FU) (lo hi:Int) (x:qF) (i:Nat) (s:Stp):Prop :=
 AY env 56 [.lst 131 (cells rk) rk.length,.agg [.int .i64 lo,.int .i64 hi],.agg (Enc.enc x),.int .i64 (i:Int)] (.p (.agg (Enc.enc s)))∧s.name=MW 83 i∧Jp rk lo hi s=0∧Ze s∧∃ a,a<6∧s.Dp=gi E8 a
noncomputable def Qn (rk:List FU) (lo hi:Int) (x:qF) (i:Nat):Stp:=Classical.epsilon (h:=⟨default⟩) (uN rk lo hi x i)
theorem VN (rk:List FU) (lo hi:Int) (x:qF) (i:Nat) (hrk:nC rk) (hc:0≤lo∧lo≤hi∧hi≤127) (hx:x.Ok) (hi9:i≤9):uN rk lo hi x i (Qn rk lo hi x i) :=
 Classical.epsilon_spec (y7 rk lo hi x i hrk hc hx hi9)
def Et (l:List FW):Nat→List FU
 |0=>[]
 |k+1=>Et l k++[TI (gi l k) (k:Int)]
noncomputable def Gh (rk:List FU) (lo hi:Int) (l:List qF):Nat→List Stp
 |0=>[]
 |k+1=>Gh rk lo hi l k++[Qn rk lo hi (gi l k) k]
def Ey (b:o8):Int:=36+(b.low:Int) % 12
def ES (b:o8):Int:=Ey b+(b.keys:Int) % 9
noncomputable def eH (rk:List FU) (b:o8) (k:Nat):YH:=⟨MW 68 (k:Int),b.Dk,Ey b,ES b,Gh rk (Ey b) (ES b) b.stops b.stops.length⟩
noncomputable def Gu (rk:List FU) (l:List o8):Nat→List YH
 |0=>[]
 |k+1=>Gu rk l k++[eH rk (gi l k) k]
def UY (n:Nat) (c:yj) (k:Nat):aQ:=⟨MW 67 (k:Int),(c.BD:Int) % n,(c.tgt:Int) % n,if (c.BD:Int) % n=(c.tgt:Int) % n∧c.shift.tmod 25=0 then 12 else c.shift.tmod 25,c.through⟩
def ER (n:Nat) (l:List yj):Nat→List aQ
 |0=>[]
 |k+1=>ER n l k++[UY n (gi l k) k]
theorem IL (l:List FW):∀ k,(Et l k).length=k
 |0=>rfl
 |k+1=>by simp [Et,IL l k]
theorem Hl (rk:List FU) (lo hi:Int) (l:List qF):∀ k,(Gh rk lo hi l k).length=k
 |0=>rfl
 |k+1=>by simp [Gh,Hl rk lo hi l k]
theorem LP (rk:List FU) (l:List o8):∀ k,(Gu rk l k).length=k
 |0=>rfl
 |k+1=>by simp [Gu,LP rk l k]
theorem OI (n:Nat) (l:List yj):∀ k,(ER n l k).length=k
 |0=>rfl
 |k+1=>by simp [ER,OI n l k]
noncomputable def gG (x:pV):ET:=⟨[79,114,103,97,110],Et x.ranks x.ranks.length,Gu (Et x.ranks x.ranks.length) x.Az x.Az.length,ER x.Az.length x.links x.links.length⟩
theorem Vd {α:Type} [Inhabited α] {l:List α} {a:α} {i:Nat}:gi (l++[a]) i=if i<l.length then gi l i else if i=l.length then a else default:=by
 by_cases h:i<l.length
 ·rw [if_pos h];simp [gi,List.getElem?_append_left h]
 ·rw [if_neg h]
  by_cases h2:i=l.length
  ·rw [if_pos h2,h2];simp [gi]
  ·rw [if_neg h2];simp [gi,List.getElem?_append_right (show l.length≤i by omega),show ¬ i-l.length=0 by omega]
theorem Td (l:List FW):∀ k i,i<k→gi (Et l k) i=TI (gi l i) (i:Int)
 |k+1,i,h=>by
  simp only [Et,Vd,IL]
  by_cases h1:i<k
  ·rw [if_pos h1];exact Td l k i h1
  ·obtain rfl:i=k:=by omega
   simp
theorem Yv {l:List FW} (h:∀ i,i<l.length→(gi l i).Ok) (hl:0<l.length∧l.length≤3):nC (Et l l.length):=by
 refine ⟨by rw [IL];exact hl,fun i hi=>?_⟩
 rw [IL] at hi
 rw [Td l _ i hi]
 exact ⟨a3i _ (h i hi) _ (by omega),(gi l i).Dp % 16,Nat.mod_lt _ (by decide),rfl⟩
end Go.Proofs.YtdabojnmoejilaaGreatDoor
namespace Go.Proofs.YtdabojnmoejilaaGreatDoor
open Go Go.Am Go.Vm
attribute [local irreducible] Aa Ag Ap Ad BA AY CJ AO AL Aw Vm.Done Dc Bq
attribute [local irreducible] TI Qn
def b2j (a b c:PV):Vm.HB:=.box 37 [.p (.str (bs [79,114,103,97,110])),a,b,c]
def b0z:Vm.HB:=.box 37 [.p (.str ⟨#[]⟩),.p (.val (.slice none 0 0)),.p (.val (.slice none 0 0)),.p (.val (.slice none 0 0))]
theorem UN (x:pV) (hx:x.Ok) (hf:Qx x):AY env 34 [.agg x.enc] (.p (.agg (Enc.enc (gG x)))):=by
 obtain ⟨hf1,hf2,hf3,hf4⟩:=hf
 have hR:=Yv hx.ranks (by omega)
 refine AY.enter (AB (by decide)) Tryz.func34 rfl (by kernel_rfl) (by simp [Tryz.ntmps34]) ?_
 repeat' (first|apply Ad.assoc|apply Ad.AA|apply Ad.Ai|apply Ag.nil|apply Ag.one|(apply Aa.assign;rfl)|(apply Aa.box;rfl;trivial)|(apply Aa.alloc;rfl)|(apply Aa.Bo;rfl;rfl;rfl;trivial;rfl;rfl;exact Ac rfl;exact le_dec rfl)|(apply Aa.build;rfl;rfl;rfl;rfl;rfl))
 refine Ad.ghost (Ba.EG 2 1 131 rfl rfl) ?_
 refine Ad.Eb (fun k:Nat=>[(1,.ref 0 0),(2,.ref 1 0),(3,.ref 2 0),(4,.p (.int .i64 (k:Int)))]) (fun k=>[(3,.vec 131 (cells (Et x.ranks k)) (Et x.ranks k).length true),(2,.box 37 [.p (.str (bs [79,114,103,97,110])),.vec 3 (Et x.ranks k).length 0 (Et x.ranks k).length,.p (.val (.slice none 0 0)),.p (.val (.slice none 0 0))]),(1,.box 37 [.p (.str ⟨#[]⟩),.p (.val (.slice none 0 0)),.p (.val (.slice none 0 0)),.p (.val (.slice none 0 0))]),(0,.box 26 (x.enc.map .p))]) 4 (fun k=>k≤x.ranks.length) (fun k=>x.ranks.length-k) 0 (by omega) (by omega) ⟨by omega,?_,?_⟩ ?_
 ·repeat (first|exact Ae.nil|refine Ae.same trivial rfl ?_|refine Ae.same (Ac rfl) rfl ?_|refine Ae.same ⟨trivial,Ac rfl,Ac rfl,Ac rfl,trivial⟩ rfl ?_|refine Ae.same ⟨trivial,Ac rfl,Ac rfl,trivial⟩ rfl ?_|refine Ae.same ⟨trivial,trivial⟩ rfl ?_|refine Ae.cons trivial rfl (.of_eq (Ar (by simp<;>omega))) ?_)
 ·repeat (first|exact Aj.nil|(refine Aj.cons (Ac rfl) ?_ rfl ?_ ?_;(first|exact trivial|exact AQ.Ah _ _|(simp [HB.under,AQ.under,PV.under]));(first|exact Bj.refl _|exact Bj.vec (Bh.refl _) (by simp))))
 intro k hk
 have hl:=IL x.ranks k
 have e1:Et x.ranks (k+1)=Et x.ranks k++[TI (gi x.ranks k) (k:Int)]:=rfl
 have e2:(Et x.ranks (k+1)).length=(Et x.ranks k).length+1:=by rw [e1];simp
 by_cases hkl:k<x.ranks.length
 ·have hm:=qN (gi x.ranks k) (hx.ranks k hkl) k ⟨by omega,by omega⟩
  repeat' (first|apply Ad.assoc|apply Ad.AA|apply Ad.region|apply Ad.FP|apply Ad.Aq|apply Ad.Ai|apply AO.normal|apply AL.normal|apply Ag.nil|apply Ap.nil|apply Ag.one|(apply Ap.bar;decide +kernel)|apply Ap.quiet|(apply Aa.fn;rfl;rfl;exact hm;intro _;rfl)|(apply Aa.Dl (a:=TI (gi x.ranks k) (k:Int));rfl;rfl;rfl;rfl;rfl;rfl;rfl;rfl;(intro _ h;cases h);rfl;rfl;rfl;decide;decide;(first|omega|(simp only [List.length_take,List.length_drop,List.length_append,List.length_singleton,List.length_cons,List.length_nil]<;>omega)))|(apply Aa.assign;rfl)|(apply Aa.move;rfl)|(apply Aa.Bv;rfl;rfl;omega)|(apply Aa.int;rfl;rfl;rfl)|(apply Aa.AP;rfl;rfl;rfl;omega;rfl)|(apply Aa.load;rfl;rfl)|(apply Aa.BI;rfl;rfl)|(apply Aa.AU;rfl;rfl;rfl)|(apply Aa.Bo;rfl;rfl;rfl;trivial;rfl;rfl;exact Ac rfl;exact le_dec rfl)|(apply Aa.buildSlice;rfl;rfl;rfl;decide;rfl;rfl;rfl)|(apply Ad.Af;rfl)|(intro _;try (exfalso;omega)))
  all_goals try (exfalso;omega)
  refine Aw.normal ⟨k+1,by omega,by omega,⟨by omega,?_,?_⟩⟩
  ·repeat (first|exact Ae.nil|refine Ae.same trivial rfl ?_|refine Ae.same (Ac rfl) rfl ?_|refine Ae.same ⟨trivial,Ac rfl,Ac rfl,Ac rfl,trivial⟩ rfl ?_|refine Ae.same ⟨trivial,Ac rfl,Ac rfl,trivial⟩ rfl ?_|refine Ae.same ⟨trivial,trivial⟩ rfl ?_|refine Ae.cons trivial rfl (.of_eq (Ar (by simp<;>omega))) ?_)
  ·rw [e2,e1];repeat (first|exact Aj.nil|(refine Aj.cons (Ac rfl) ?_ rfl ?_ ?_;(first|exact trivial|exact AQ.Ah _ _|(simp [HB.under,AQ.under,PV.under]));(first|exact Bj.refl _|exact Bj.vec (Bh.refl _) (by simp))))
 obtain rfl:k=x.ranks.length:=by omega
 clear e1 e2 hl hkl hk
 have eO:gG x=⟨[79,114,103,97,110],Et x.ranks x.ranks.length,Gu (Et x.ranks x.ranks.length) x.Az x.Az.length,ER x.Az.length x.links x.links.length⟩:=rfl
 rw [eO]
 generalize Et x.ranks x.ranks.length=R at *
 clear eO
 repeat' (first|(refine Ad.at 6 ?_;refine Ad.ghost (Ba.trans (Ba.Di 2 1 rfl rfl rfl) (Ba.trans (Ba.EG 2 2 97 rfl rfl) (Ba.EG 2 3 147 rfl rfl))) ?_;first|apply Ad.AA|apply Ad.BJ)|apply Ad.assoc|apply Ad.AA|apply Ad.AZ|apply Ad.Ai|apply AO.normal|apply AL.exit|apply Aw.exit|apply Ag.nil|apply Ag.one|(apply Aa.assign;rfl)|(apply Aa.move;rfl)|(apply Aa.int;rfl;rfl;rfl)|(apply Aa.load;rfl;rfl)|(apply Aa.BI;rfl;rfl)|(apply Aa.AU;rfl;rfl;rfl)|(apply Ad.Af;rfl)|(intro _;try (exfalso;omega)))
 all_goals try (exfalso;omega)
 refine Ad.Eb (fun k:Nat=>[(1,.ref 0 0),(2,.ref 1 0),(3,.ref 2 0),(5,.p (.int .i64 (k:Int)))]) (fun k=>[(5,.vec 147 [] 0 true),(4,.vec 97 (cells (Gu R x.Az k)) (Gu R x.Az k).length true),(2,.box 37 [.p (.str (bs [79,114,103,97,110])),.p (.lst 131 (cells R) R.length),.vec 4 (Gu R x.Az k).length 0 (Gu R x.Az k).length,.vec 5 0 0 0]),(1,.box 37 [.p (.str ⟨#[]⟩),.p (.val (.slice none 0 0)),.p (.val (.slice none 0 0)),.p (.val (.slice none 0 0))]),(0,.box 26 (x.enc.map .p))]) 6 (fun k=>k≤x.Az.length) (fun k=>x.Az.length-k) 0 (by omega) (by omega) ⟨by omega,?_,?_⟩ ?_
 ·repeat (first|exact Ae.nil|refine Ae.same trivial rfl ?_|refine Ae.same (Ac rfl) rfl ?_|refine Ae.same ⟨trivial,Ac rfl,Ac rfl,Ac rfl,trivial⟩ rfl ?_|refine Ae.same ⟨trivial,Ac rfl,Ac rfl,trivial⟩ rfl ?_|refine Ae.same ⟨trivial,trivial⟩ rfl ?_|refine Ae.cons trivial rfl (.of_eq (Ar (by simp<;>omega))) ?_)
 ·repeat (first|exact Aj.nil|(refine Aj.cons (Ac rfl) ?_ rfl ?_ ?_;(first|exact trivial|exact AQ.Ah _ _|(simp [HB.under,AQ.under,PV.under]));(first|exact Bj.refl _|exact Bj.vec (Bh.refl _) (by simp))))
 intro k hk
 have hl:=LP R x.Az k
 have e1:Gu R x.Az (k+1)=Gu R x.Az k++[eH R (gi x.Az k) k]:=rfl
 have e2:(Gu R x.Az (k+1)).length=(Gu R x.Az k).length+1:=by rw [e1];simp
 by_cases hkl:k<x.Az.length
 ·obtain ⟨q1,q2,q3,q4⟩:=hx.Az k hkl
  have q5:=hf4 k hkl
  have eD:eH R (gi x.Az k) k=⟨MW 68 (k:Int),(gi x.Az k).Dk,Ey (gi x.Az k),ES (gi x.Az k),Gh R (Ey (gi x.Az k)) (ES (gi x.Az k)) (gi x.Az k).stops (gi x.Az k).stops.length⟩:=rfl
  have hlo:0≤Ey (gi x.Az k)∧Ey (gi x.Az k)≤ES (gi x.Az k)∧ES (gi x.Az k)≤127:=by unfold ES Ey;omega
  have hst:(gi x.Az k).stops.length≤3:=q5
  repeat' (first|apply Ad.assoc|apply Ad.AA|apply Ad.Aq|apply Ad.Ai|apply Ag.nil|apply Ag.one|(apply Aa.GV;rfl;rfl;rfl;rfl;rfl;omega)|(apply Aa.assign;rfl)|(apply Aa.move;rfl)|(apply Aa.Bv;rfl;rfl;omega)|(apply Aa.O4;rfl;rfl;omega;omega)|(apply Aa.int;rfl;rfl;rfl)|(apply Aa.AP;rfl;rfl;rfl;omega;rfl)|(apply Aa.load;rfl;rfl)|(apply Aa.BI;rfl;rfl)|(apply Aa.AU;rfl;rfl;rfl)|(apply Aa.alloc;rfl)|(apply Aa.Bo;rfl;rfl;rfl;trivial;rfl;rfl;exact Ac rfl;exact le_dec rfl)|(apply Aa.build;rfl;rfl;rfl;rfl;rfl)|(apply Aa.buildSlice;rfl;rfl;rfl;decide;rfl;rfl;rfl)|(apply Aa.U5;rfl;rfl;(first|omega|(simp only [List.length_take,List.length_drop,List.length_append,List.length_singleton,List.length_cons,List.length_nil]<;>omega)))|(apply Aa.Jh;rfl;rfl;rfl;rfl;omega)|(apply Aa.Lm;rfl;rfl;rfl;rfl;omega)|(apply Ad.Af;rfl)|(intro _;try (exfalso;omega)))
  all_goals try (exfalso;omega)
  refine Ad.ghost (Ba.EG 8 4 122 rfl rfl) ?_
  refine Ad.Eb (fun j:Nat=>[(1,.ref 0 0),(2,.ref 1 0),(3,.ref 2 0),(5,.p (.int .i64 (k:Int))),(6,.ref 6 0),(7,.p (.int .i64 (Ey (gi x.Az k)))),(8,.ref 8 0),(9,.p (.int .i64 (j:Int)))]) (fun j=>[(9,.vec 122 (cells (Gh R (Ey (gi x.Az k)) (ES (gi x.Az k)) (gi x.Az k).stops j)) (Gh R (Ey (gi x.Az k)) (ES (gi x.Az k)) (gi x.Az k).stops j).length true),(8,.box 97 [.p (.str (bs (MW 68 (k:Int)))),.p (.bool (gi x.Az k).Dk),.p (.int .i64 (Ey (gi x.Az k))),.p (.int .i64 (ES (gi x.Az k))),.vec 9 (Gh R (Ey (gi x.Az k)) (ES (gi x.Az k)) (gi x.Az k).stops j).length 0 (Gh R (Ey (gi x.Az k)) (ES (gi x.Az k)) (gi x.Az k).stops j).length]),(6,.box 75 ((Enc.enc (gi x.Az k)).map .p)),(5,.vec 147 [] 0 true),(4,.vec 97 (cells (Gu R x.Az k)) (Gu R x.Az k).length true),(2,.box 37 [.p (.str (bs [79,114,103,97,110])),.p (.lst 131 (cells R) R.length),.vec 4 (Gu R x.Az k).length 0 (Gu R x.Az k).length,.vec 5 0 0 0]),(1,.box 37 [.p (.str ⟨#[]⟩),.p (.val (.slice none 0 0)),.p (.val (.slice none 0 0)),.p (.val (.slice none 0 0))]),(0,.box 26 (x.enc.map .p))]) 10 (fun j=>j≤(gi x.Az k).stops.length) (fun j=>(gi x.Az k).stops.length-j) 0 (by omega) (by omega) ⟨by omega,?_,?_⟩ ?_
  ·repeat (first|exact Ae.nil|refine Ae.same trivial rfl ?_|refine Ae.same (Ac rfl) rfl ?_|refine Ae.same ⟨trivial,Ac rfl,Ac rfl,Ac rfl,trivial⟩ rfl ?_|refine Ae.same ⟨trivial,Ac rfl,Ac rfl,trivial⟩ rfl ?_|refine Ae.same ⟨trivial,trivial⟩ rfl ?_|refine Ae.cons trivial rfl (.of_eq (Ar (by simp<;>omega))) ?_)
  ·repeat (first|exact Aj.nil|(refine Aj.cons (Ac rfl) ?_ rfl ?_ ?_;(first|exact trivial|exact AQ.Ah _ _|(simp [HB.under,AQ.under,PV.under]));(first|exact Bj.refl _|exact Bj.vec (Bh.refl _) (by simp))))
  intro j hj
  have jl:=Hl R (Ey (gi x.Az k)) (ES (gi x.Az k)) (gi x.Az k).stops j
  have j1:Gh R (Ey (gi x.Az k)) (ES (gi x.Az k)) (gi x.Az k).stops (j+1)=Gh R (Ey (gi x.Az k)) (ES (gi x.Az k)) (gi x.Az k).stops j++[Qn R (Ey (gi x.Az k)) (ES (gi x.Az k)) (gi (gi x.Az k).stops j) j]:=rfl
  have j2:(Gh R (Ey (gi x.Az k)) (ES (gi x.Az k)) (gi x.Az k).stops (j+1)).length=(Gh R (Ey (gi x.Az k)) (ES (gi x.Az k)) (gi x.Az k).stops j).length+1:=by rw [j1];simp
  by_cases hjl:j<(gi x.Az k).stops.length
  ·have hp:=(VN R (Ey (gi x.Az k)) (ES (gi x.Az k)) (gi (gi x.Az k).stops j) j hR hlo (q4 j hjl) (by omega)).1
   repeat' (first|apply Ad.assoc|apply Ad.AA|apply Ad.region|apply Ad.FP|apply Ad.Aq|apply Ad.Ai|apply AO.normal|apply AL.normal|apply Ag.nil|apply Ap.nil|apply Ag.one|(apply Ap.bar;decide +kernel)|apply Ap.quiet|(apply Aa.fn;rfl;rfl;exact hp;intro _;rfl)|(apply Aa.Dl (a:=Qn R (Ey (gi x.Az k)) (ES (gi x.Az k)) (gi (gi x.Az k).stops j) j);rfl;rfl;rfl;rfl;rfl;rfl;rfl;rfl;(intro _ h;cases h);rfl;rfl;rfl;decide;decide;(first|omega|(simp only [List.length_take,List.length_drop,List.length_append,List.length_singleton,List.length_cons,List.length_nil]<;>omega)))|(apply Aa.assign;rfl)|(apply Aa.move;rfl)|(apply Aa.Bv;rfl;rfl;omega)|(apply Aa.int;rfl;rfl;rfl)|(apply Aa.AP;rfl;rfl;rfl;omega;rfl)|(apply Aa.load;rfl;rfl)|(apply Aa.BI;rfl;rfl)|(apply Aa.AU;rfl;rfl;rfl)|(apply Aa.Bo;rfl;rfl;rfl;trivial;rfl;rfl;exact Ac rfl;exact le_dec rfl)|(apply Aa.buildSlice;rfl;rfl;rfl;decide;rfl;rfl;rfl)|(apply Ad.Af;rfl)|(intro _;try (exfalso;omega)))
   all_goals try (exfalso;omega)
   refine Aw.normal ⟨j+1,by omega,by omega,⟨by omega,?_,?_⟩⟩
   ·repeat (first|exact Ae.nil|refine Ae.same trivial rfl ?_|refine Ae.same (Ac rfl) rfl ?_|refine Ae.same ⟨trivial,Ac rfl,Ac rfl,Ac rfl,trivial⟩ rfl ?_|refine Ae.same ⟨trivial,Ac rfl,Ac rfl,trivial⟩ rfl ?_|refine Ae.same ⟨trivial,trivial⟩ rfl ?_|refine Ae.cons trivial rfl (.of_eq (Ar (by simp<;>omega))) ?_)
   ·rw [j2,j1];repeat (first|exact Aj.nil|(refine Aj.cons (Ac rfl) ?_ rfl ?_ ?_;(first|exact trivial|exact AQ.Ah _ _|(simp [HB.under,AQ.under,PV.under]));(first|exact Bj.refl _|exact Bj.vec (Bh.refl _) (by simp))))
  obtain rfl:j=(gi x.Az k).stops.length:=by omega
  repeat' (first|(refine Ad.atEnd 16 ?_;refine Ad.ghost (Ba.Di 8 4 rfl rfl rfl) ?_;first|apply Ad.region|apply Ad.FP)|apply Ad.assoc|apply Ad.AA|apply Ad.region|apply Ad.AZ|apply AO.normal|apply AL.normal|apply AL.exit|apply Aw.exit|apply Ag.nil|apply Ag.one|(apply Aa.Dl (a:=eH R (gi x.Az k) k);rfl;rfl;rfl;rfl;rfl;rfl;rfl;rfl;(intro _ h;cases h);rfl;rfl;rfl;decide;decide;(first|omega|(simp only [List.length_take,List.length_drop,List.length_append,List.length_singleton,List.length_cons,List.length_nil]<;>omega)))|(apply Aa.assign;rfl)|(apply Aa.move;rfl)|(apply Aa.Bv;rfl;rfl;omega)|(apply Aa.int;rfl;rfl;rfl)|(apply Aa.load;rfl;rfl)|(apply Aa.BI;rfl;rfl)|(apply Aa.AU;rfl;rfl;rfl)|(apply Aa.Bo;rfl;rfl;rfl;trivial;rfl;rfl;exact Ac rfl;exact le_dec rfl)|(apply Aa.buildSlice;rfl;rfl;rfl;decide;rfl;rfl;rfl)|(apply Ad.Af;rfl)|(intro _;try (exfalso;omega)))
  all_goals try (exfalso;omega)
  refine Aw.normal ⟨k+1,by omega,by omega,⟨by omega,?_,?_⟩⟩
  ·repeat (first|exact Ae.nil|refine Ae.same trivial rfl ?_|refine Ae.same (Ac rfl) rfl ?_|refine Ae.same ⟨trivial,Ac rfl,Ac rfl,Ac rfl,trivial⟩ rfl ?_|refine Ae.same ⟨trivial,Ac rfl,Ac rfl,trivial⟩ rfl ?_|refine Ae.same ⟨trivial,trivial⟩ rfl ?_|refine Ae.cons trivial rfl (.of_eq (Ar (by simp<;>omega))) ?_)
  ·rw [e2,e1];repeat (first|exact Aj.nil|(refine Aj.cons (Ac rfl) ?_ rfl ?_ ?_;(first|exact trivial|exact AQ.Ah _ _|(simp [HB.under,AQ.under,PV.under]));(first|exact Bj.refl _|exact Bj.vec (Bh.refl _) (by simp))))
 obtain rfl:k=x.Az.length:=by omega
 clear e1 e2 hl hkl hk
 have hDl:=LP R x.Az x.Az.length
 generalize Gu R x.Az x.Az.length=D at *
 repeat' (first|(refine Ad.at 17 ?_;refine Ad.ghost (Ba.Di 2 2 rfl rfl rfl) ?_;first|apply Ad.AA|apply Ad.BJ)|apply Ad.assoc|apply Ad.AA|apply Ad.AZ|apply Ad.Ai|apply AO.normal|apply AL.exit|apply Aw.exit|apply Ag.nil|apply Ag.one|(apply Aa.assign;rfl)|(apply Aa.move;rfl)|(apply Aa.int;rfl;rfl;rfl)|(apply Aa.load;rfl;rfl)|(apply Aa.BI;rfl;rfl)|(apply Aa.AU;rfl;rfl;rfl)|(apply Ad.Af;rfl)|(intro _;try (exfalso;omega)))
 all_goals try (exfalso;omega)
 refine Ad.Eb (fun k:Nat=>[(1,.ref 0 0),(2,.ref 1 0),(3,.ref 2 0),(10,.p (.int .i64 (x.Az.length:Int))),(11,.p (.int .i64 (k:Int)))]) (fun k=>[(5,.vec 147 (cells (ER x.Az.length x.links k)) (ER x.Az.length x.links k).length true),(2,.box 37 [.p (.str (bs [79,114,103,97,110])),.p (.lst 131 (cells R) R.length),.p (.lst 97 (cells D) D.length),.vec 5 (ER x.Az.length x.links k).length 0 (ER x.Az.length x.links k).length]),(1,.box 37 [.p (.str ⟨#[]⟩),.p (.val (.slice none 0 0)),.p (.val (.slice none 0 0)),.p (.val (.slice none 0 0))]),(0,.box 26 (x.enc.map .p))]) 6 (fun k=>k≤x.links.length) (fun k=>x.links.length-k) 0 (by omega) (by omega) ⟨by omega,?_,?_⟩ ?_
 ·repeat (first|exact Ae.nil|refine Ae.same trivial rfl ?_|refine Ae.same (Ac rfl) rfl ?_|refine Ae.same ⟨trivial,Ac rfl,Ac rfl,Ac rfl,trivial⟩ rfl ?_|refine Ae.same ⟨trivial,Ac rfl,Ac rfl,trivial⟩ rfl ?_|refine Ae.same ⟨trivial,trivial⟩ rfl ?_|refine Ae.cons trivial rfl (.of_eq (Ar (by simp<;>omega))) ?_)
 ·repeat (first|exact Aj.nil|(refine Aj.cons (Ac rfl) ?_ rfl ?_ ?_;(first|exact trivial|exact AQ.Ah _ _|(simp [HB.under,AQ.under,PV.under]));(first|exact Bj.refl _|exact Bj.vec (Bh.refl _) (by simp))))
 intro k hk
 have hl:=OI x.Az.length x.links k
 by_cases hkl:k<x.links.length
 ·obtain ⟨q1,q2,q3⟩:=hx.links k hkl
  have hne:((gi x.links k).BD:Int) % x.Az.length≥0:=Int.emod_nonneg _ (by omega)
  by_cases c1:((gi x.links k).BD:Int) % x.Az.length=((gi x.links k).tgt:Int) % x.Az.length
  ·by_cases c2:(gi x.links k).shift.tmod 25=0
   ·have e1:ER x.Az.length x.links (k+1)=ER x.Az.length x.links k++[(⟨MW 67 (k:Int),((gi x.links k).BD:Int) % x.Az.length,((gi x.links k).tgt:Int) % x.Az.length,12,(gi x.links k).through⟩:aQ)]:=by
     show ER x.Az.length x.links k++[UY x.Az.length (gi x.links k) k]=_
     unfold UY
     rw [if_pos ⟨c1,c2⟩]
    have e2:(ER x.Az.length x.links (k+1)).length=(ER x.Az.length x.links k).length+1:=by rw [e1];simp
    repeat' (first|apply Ad.assoc|apply Ad.AA|apply Ad.BJ|apply Ad.region|apply Ad.Aq|apply Ad.Ai|apply AO.normal|apply AL.normal|apply Ag.nil|apply Ap.nil|apply Ag.one|(apply Ap.bar;decide +kernel)|apply Ap.quiet|(apply Ag.take;rfl;rfl)|(apply Ag.guard;rfl;rfl)|(apply Aa.GV;rfl;rfl;rfl;rfl;rfl;omega)|(apply Aa.Dl (a:=(⟨MW 67 (k:Int),((gi x.links k).BD:Int) % x.Az.length,((gi x.links k).tgt:Int) % x.Az.length,12,(gi x.links k).through⟩:aQ));rfl;rfl;rfl;rfl;rfl;rfl;rfl;rfl;(intro _ h;cases h);rfl;rfl;rfl;decide;decide;(first|omega|(simp only [List.length_take,List.length_drop,List.length_append,List.length_singleton,List.length_cons,List.length_nil]<;>omega)))|(apply Aa.assign;rfl)|(apply Aa.move;rfl)|(apply Aa.Bv;rfl;rfl;omega)|(apply Aa.O4;rfl;rfl;omega;omega)|(apply Aa.int;rfl;rfl;rfl)|(apply Aa.AP;rfl;rfl;rfl;omega;rfl)|(apply Aa.load;rfl;rfl)|(apply Aa.BH;rfl;rfl)|(apply Aa.BI;rfl;rfl)|(apply Aa.AU;rfl;rfl;rfl)|(apply Aa.alloc;rfl)|(apply Aa.Bo;rfl;rfl;rfl;trivial;rfl;rfl;exact Ac rfl;exact le_dec rfl)|(apply Aa.build;rfl;rfl;rfl;rfl;rfl)|(apply Aa.buildSlice;rfl;rfl;rfl;decide;rfl;rfl;rfl)|(apply Aa.U5;rfl;rfl;(first|omega|(simp only [List.length_take,List.length_drop,List.length_append,List.length_singleton,List.length_cons,List.length_nil]<;>omega)))|(apply Aa.Jh;rfl;rfl;rfl;rfl;omega)|(apply Aa.Lm;rfl;rfl;rfl;rfl;omega)|(apply Ad.Af;rfl)|(intro _;try (exfalso;omega)))
    all_goals try (exfalso;omega)
    refine Aw.normal ⟨k+1,by omega,by omega,⟨by omega,?_,?_⟩⟩
    ·repeat (first|exact Ae.nil|refine Ae.same trivial rfl ?_|refine Ae.same (Ac rfl) rfl ?_|refine Ae.same ⟨trivial,Ac rfl,Ac rfl,Ac rfl,trivial⟩ rfl ?_|refine Ae.same ⟨trivial,Ac rfl,Ac rfl,trivial⟩ rfl ?_|refine Ae.same ⟨trivial,trivial⟩ rfl ?_|refine Ae.cons trivial rfl (.of_eq (Ar (by simp<;>omega))) ?_)
    ·rw [e2,e1];repeat (first|exact Aj.nil|(refine Aj.cons (Ac rfl) ?_ rfl ?_ ?_;(first|exact trivial|exact AQ.Ah _ _|(simp [HB.under,AQ.under,PV.under]));(first|exact Bj.refl _|exact Bj.vec (Bh.refl _) (by simp))))
   ·have e1:ER x.Az.length x.links (k+1)=ER x.Az.length x.links k++[(⟨MW 67 (k:Int),((gi x.links k).BD:Int) % x.Az.length,((gi x.links k).tgt:Int) % x.Az.length,(gi x.links k).shift.tmod 25,(gi x.links k).through⟩:aQ)]:=by
     show ER x.Az.length x.links k++[UY x.Az.length (gi x.links k) k]=_
     unfold UY
     rw [if_neg (fun h=>c2 h.2)]
    have e2:(ER x.Az.length x.links (k+1)).length=(ER x.Az.length x.links k).length+1:=by rw [e1];simp
    repeat' (first|apply Ad.assoc|apply Ad.AA|apply Ad.BJ|apply Ad.region|apply Ad.Aq|apply Ad.Ai|apply AO.normal|apply AL.normal|apply Ag.nil|apply Ap.nil|apply Ag.one|(apply Ap.bar;decide +kernel)|apply Ap.quiet|(apply Ag.take;rfl;rfl)|(apply Ag.guard;rfl;rfl)|(apply Aa.GV;rfl;rfl;rfl;rfl;rfl;omega)|(apply Aa.Dl (a:=(⟨MW 67 (k:Int),((gi x.links k).BD:Int) % x.Az.length,((gi x.links k).tgt:Int) % x.Az.length,(gi x.links k).shift.tmod 25,(gi x.links k).through⟩:aQ));rfl;rfl;rfl;rfl;rfl;rfl;rfl;rfl;(intro _ h;cases h);rfl;rfl;rfl;decide;decide;(first|omega|(simp only [List.length_take,List.length_drop,List.length_append,List.length_singleton,List.length_cons,List.length_nil]<;>omega)))|(apply Aa.assign;rfl)|(apply Aa.move;rfl)|(apply Aa.Bv;rfl;rfl;omega)|(apply Aa.O4;rfl;rfl;omega;omega)|(apply Aa.int;rfl;rfl;rfl)|(apply Aa.AP;rfl;rfl;rfl;omega;rfl)|(apply Aa.load;rfl;rfl)|(apply Aa.BH;rfl;rfl)|(apply Aa.BI;rfl;rfl)|(apply Aa.AU;rfl;rfl;rfl)|(apply Aa.alloc;rfl)|(apply Aa.Bo;rfl;rfl;rfl;trivial;rfl;rfl;exact Ac rfl;exact le_dec rfl)|(apply Aa.build;rfl;rfl;rfl;rfl;rfl)|(apply Aa.buildSlice;rfl;rfl;rfl;decide;rfl;rfl;rfl)|(apply Aa.U5;rfl;rfl;(first|omega|(simp only [List.length_take,List.length_drop,List.length_append,List.length_singleton,List.length_cons,List.length_nil]<;>omega)))|(apply Aa.Jh;rfl;rfl;rfl;rfl;omega)|(apply Aa.Lm;rfl;rfl;rfl;rfl;omega)|(apply Ad.Af;rfl)|(intro _;try (exfalso;omega)))
    all_goals try (exfalso;omega)
    refine Aw.normal ⟨k+1,by omega,by omega,⟨by omega,?_,?_⟩⟩
    ·repeat (first|exact Ae.nil|refine Ae.same trivial rfl ?_|refine Ae.same (Ac rfl) rfl ?_|refine Ae.same ⟨trivial,Ac rfl,Ac rfl,Ac rfl,trivial⟩ rfl ?_|refine Ae.same ⟨trivial,Ac rfl,Ac rfl,trivial⟩ rfl ?_|refine Ae.same ⟨trivial,trivial⟩ rfl ?_|refine Ae.cons trivial rfl (.of_eq (Ar (by simp<;>omega))) ?_)
    ·rw [e2,e1];repeat (first|exact Aj.nil|(refine Aj.cons (Ac rfl) ?_ rfl ?_ ?_;(first|exact trivial|exact AQ.Ah _ _|(simp [HB.under,AQ.under,PV.under]));(first|exact Bj.refl _|exact Bj.vec (Bh.refl _) (by simp))))
  ·have e1:ER x.Az.length x.links (k+1)=ER x.Az.length x.links k++[(⟨MW 67 (k:Int),((gi x.links k).BD:Int) % x.Az.length,((gi x.links k).tgt:Int) % x.Az.length,(gi x.links k).shift.tmod 25,(gi x.links k).through⟩:aQ)]:=by
    show ER x.Az.length x.links k++[UY x.Az.length (gi x.links k) k]=_
    unfold UY
    rw [if_neg (fun h=>c1 h.1)]
   have e2:(ER x.Az.length x.links (k+1)).length=(ER x.Az.length x.links k).length+1:=by rw [e1];simp
   repeat' (first|apply Ad.assoc|apply Ad.AA|apply Ad.BJ|apply Ad.region|apply Ad.Aq|apply Ad.Ai|apply AO.normal|apply AL.normal|apply Ag.nil|apply Ap.nil|apply Ag.one|(apply Ap.bar;decide +kernel)|apply Ap.quiet|(apply Ag.drop;rfl;rfl;rfl)|(apply Ag.guard;rfl;rfl)|(apply Aa.GV;rfl;rfl;rfl;rfl;rfl;omega)|(apply Aa.Dl (a:=(⟨MW 67 (k:Int),((gi x.links k).BD:Int) % x.Az.length,((gi x.links k).tgt:Int) % x.Az.length,(gi x.links k).shift.tmod 25,(gi x.links k).through⟩:aQ));rfl;rfl;rfl;rfl;rfl;rfl;rfl;rfl;(intro _ h;cases h);rfl;rfl;rfl;decide;decide;(first|omega|(simp only [List.length_take,List.length_drop,List.length_append,List.length_singleton,List.length_cons,List.length_nil]<;>omega)))|(apply Aa.assign;rfl)|(apply Aa.move;rfl)|(apply Aa.Bv;rfl;rfl;omega)|(apply Aa.O4;rfl;rfl;omega;omega)|(apply Aa.int;rfl;rfl;rfl)|(apply Aa.AP;rfl;rfl;rfl;omega;rfl)|(apply Aa.load;rfl;rfl)|(apply Aa.AV;rfl;rfl)|(apply Aa.BI;rfl;rfl)|(apply Aa.AU;rfl;rfl;rfl)|(apply Aa.alloc;rfl)|(apply Aa.Bo;rfl;rfl;rfl;trivial;rfl;rfl;exact Ac rfl;exact le_dec rfl)|(apply Aa.build;rfl;rfl;rfl;rfl;rfl)|(apply Aa.buildSlice;rfl;rfl;rfl;decide;rfl;rfl;rfl)|(apply Aa.U5;rfl;rfl;(first|omega|(simp only [List.length_take,List.length_drop,List.length_append,List.length_singleton,List.length_cons,List.length_nil]<;>omega)))|(apply Aa.Jh;rfl;rfl;rfl;rfl;omega)|(apply Aa.Lm;rfl;rfl;rfl;rfl;omega)|(apply Ad.Au;rfl)|(apply Ad.Af;rfl)|(intro _;try (exfalso;omega)))
   all_goals try (exfalso;omega)
   refine Aw.normal ⟨k+1,by omega,by omega,⟨by omega,?_,?_⟩⟩
   ·repeat (first|exact Ae.nil|refine Ae.same trivial rfl ?_|refine Ae.same (Ac rfl) rfl ?_|refine Ae.same ⟨trivial,Ac rfl,Ac rfl,Ac rfl,trivial⟩ rfl ?_|refine Ae.same ⟨trivial,Ac rfl,Ac rfl,trivial⟩ rfl ?_|refine Ae.same ⟨trivial,trivial⟩ rfl ?_|refine Ae.cons trivial rfl (.of_eq (Ar (by simp<;>omega))) ?_)
   ·rw [e2,e1];repeat (first|exact Aj.nil|(refine Aj.cons (Ac rfl) ?_ rfl ?_ ?_;(first|exact trivial|exact AQ.Ah _ _|(simp [HB.under,AQ.under,PV.under]));(first|exact Bj.refl _|exact Bj.vec (Bh.refl _) (by simp))))
 obtain rfl:k=x.links.length:=by omega
 repeat' (first|(refine Ad.at 26 ?_;refine Ad.ghost (Ba.Di 2 3 rfl rfl rfl) ?_;first|apply Ad.AA|apply Ad.BJ)|apply Ad.assoc|apply Ad.AA|apply Ad.AZ|apply AO.normal|apply AL.exit|apply Aw.exit|apply Ad.ret|apply Ag.nil|apply Ag.one|(apply Aa.move;rfl)|(apply Aa.int;rfl;rfl;rfl)|(apply Aa.load;rfl;rfl)|(apply Aa.BI;rfl;rfl)|(apply Aa.AU;rfl;rfl;rfl)|(apply Aa.Bo;rfl;rfl;rfl;trivial;rfl;rfl;exact Ac rfl;exact le_dec rfl)|(apply Ad.Af;rfl)|(intro _;try (exfalso;omega)))
 all_goals first|(exfalso;omega)|(refine Done.ret rfl (.refl _) (by first|exact trivial|exact ⟨trivial,trivial,trivial⟩|exact ⟨trivial,trivial,trivial,trivial⟩) Aj.nil (Nat.zero_le _) (Nat.le_refl _) ⟨?_,rfl,rfl⟩;rfl)
end Go.Proofs.YtdabojnmoejilaaGreatDoor
namespace Go.Proofs.YtdabojnmoejilaaGreatDoor
open Go Go.Am Go.Vm
attribute [local irreducible] Aa Ag Ap Ad BA AY CJ AO AL Aw Vm.Done Dc Bq
attribute [local irreducible] TI Qn D8 DT BZ
theorem bU (rk:List FU) (l:List o8):∀ k i,i<k→gi (Gu rk l k) i=eH rk (gi l i) i
 |k+1,i,h=>by
  simp only [Gu,Vd,LP]
  by_cases h1:i<k
  ·rw [if_pos h1];exact bU rk l k i h1
  ·obtain rfl:i=k:=by omega
   simp
theorem YP (rk:List FU) (lo hi:Int) (l:List qF):∀ k i,i<k→gi (Gh rk lo hi l k) i=Qn rk lo hi (gi l i) i
 |k+1,i,h=>by
  simp only [Gh,Vd,Hl]
  by_cases h1:i<k
  ·rw [if_pos h1];exact YP rk lo hi l k i h1
  ·obtain rfl:i=k:=by omega
   simp
theorem bf (n:Nat) (l:List yj):∀ k i,i<k→gi (ER n l k) i=UY n (gi l i) i
 |k+1,i,h=>by
  simp only [ER,Vd,OI]
  by_cases h1:i<k
  ·rw [if_pos h1];exact bf n l k i h1
  ·obtain rfl:i=k:=by omega
   simp
theorem uI (b:o8):0≤Ey b∧Ey b≤ES b∧ES b≤127:=by unfold ES Ey;omega
structure OZ (o:ET):Prop where
 sm:Pq o
 ranks:1≤o.ranks.length∧o.ranks.length≤3
 Az:1≤o.Az.length∧o.Az.length≤3
 Gf:o.Gf.length≤3
 stops:∀ i,i<o.Az.length→(gi o.Az i).stops.length≤3
 rk:nC o.ranks
 dv:∀ i,i<o.Az.length→0≤(gi o.Az i).lo∧(gi o.Az i).lo≤(gi o.Az i).hi∧(gi o.Az i).hi≤127
 dn:∀ i,i<o.Az.length→(gi o.Az i).name=MW 68 i
 st:∀ i,i<o.Az.length→∀ j,j<(gi o.Az i).stops.length→Jp o.ranks (gi o.Az i).lo (gi o.Az i).hi (gi (gi o.Az i).stops j)=0∧(gi (gi o.Az i).stops j).name=MW 83 j∧∃ a,a<6∧(gi (gi o.Az i).stops j).Dp=gi E8 a
 cp:∀ i,i<o.Gf.length→xP o.Az.length (gi o.Gf i)∧(gi o.Gf i).name=MW 67 i
 rn:∀ i,i<o.ranks.length→(gi o.ranks i).name=MW 82 i
 nm:o.name=[79,114,103,97,110]
theorem yP (n:Nat) (c:yj) (k:Nat) (hn:1≤n) (hc:c.Ok) (hk:k<10):xP n (UY n c k):=by
 obtain ⟨c1,c2,c3⟩:=hc
 have m1:=Int.emod_nonneg (c.BD:Int) (show (n:Int)≠0 by omega)
 have m2:=Int.emod_lt_of_pos (c.BD:Int) (show 0<(n:Int) by omega)
 have m3:=Int.emod_nonneg (c.tgt:Int) (show (n:Int)≠0 by omega)
 have m4:=Int.emod_lt_of_pos (c.tgt:Int) (show 0<(n:Int) by omega)
 refine ⟨XP (by decide) hk,⟨m1,m2⟩,⟨m3,m4⟩,?_,?_⟩
 ·have e:(UY n c k).shift=if (c.BD:Int) % n=(c.tgt:Int) % n∧c.shift.tmod 25=0 then 12 else c.shift.tmod 25:=rfl
  rw [e]
  split
  ·omega
  ·have:=Int.tmod_lt_of_pos c.shift (show (0:Int)<25 by decide)
   have:=Int.lt_tmod_of_pos c.shift (show (0:Int)<25 by decide)
   omega
 ·show ¬ ((c.BD:Int) % n=(c.tgt:Int) % n∧(if (c.BD:Int) % n=(c.tgt:Int) % n∧c.shift.tmod 25=0 then (12:Int) else c.shift.tmod 25)=0)
  intro h
  obtain ⟨h1,h2⟩:=h
  by_cases h3:c.shift.tmod 25=0
  ·rw [if_pos ⟨h1,h3⟩] at h2;omega
  ·rw [if_neg (fun h=>h3 h.2)] at h2;exact h3 h2
theorem a2r (x:FW) (i:Int):XM (TI x i):=by
 have h:=zI x i
 have w:=vJ x i
 unfold TI at h w ⊢
 refine ⟨by simp,?_,by omega⟩
 have:(gi NU (x.EC % 3)).length≤5:=a0y (P:=fun l:List UInt8=>l.length≤5) (by decide) (show x.EC % 3<NU.length from Nat.mod_lt _ (by decide))
 show (gi NU (x.EC % 3)).length<_
 omega
theorem vT (x:FW) (i:Nat) (hi:i<10):(TI x i).name=MW 82 i:=by
 unfold TI MW
 show [82,UInt8.ofNat (48+(i:Int) % 10).toNat]=_
 rw [show (i:Int) % 10=i by omega]
theorem Xc (x:pV) (hx:x.Ok) (hf:Qx x):OZ (gG x):=by
 obtain ⟨hf1,hf2,hf3,hf4⟩:=hf
 have hR:=Yv hx.ranks (by omega)
 have e1:(gG x).ranks=Et x.ranks x.ranks.length:=rfl
 have e2:(gG x).Az=Gu (Et x.ranks x.ranks.length) x.Az x.Az.length:=rfl
 have e3:(gG x).Gf=ER x.Az.length x.links x.links.length:=rfl
 have e4:(gG x).name=[79,114,103,97,110]:=rfl
 have rn:∀ i,i<x.ranks.length→gi (Et x.ranks x.ranks.length) i=TI (gi x.ranks i) (i:Int):=Td _ _
 generalize hRR:Et x.ranks x.ranks.length=R at *
 have hRl:R.length=x.ranks.length:=by rw [← hRR,IL]
 have dl:=LP R x.Az x.Az.length
 have cl:=OI x.Az.length x.links x.links.length
 have dg:∀ i,i<x.Az.length→gi (Gu R x.Az x.Az.length) i=eH R (gi x.Az i) i:=bU _ _ _
 have cg:∀ i,i<x.links.length→gi (ER x.Az.length x.links x.links.length) i=UY x.Az.length (gi x.links i) i:=bf _ _ _
 have ds:∀ b k,(eH R b k).stops=Gh R (Ey b) (ES b) b.stops b.stops.length:=fun _ _=>rfl
 have sp:∀ i,i<x.Az.length→∀ j,j<(gi x.Az i).stops.length→gi (Gh R (Ey (gi x.Az i)) (ES (gi x.Az i)) (gi x.Az i).stops (gi x.Az i).stops.length) j=Qn R (Ey (gi x.Az i)) (ES (gi x.Az i)) (gi (gi x.Az i).stops j) j∧uN R (Ey (gi x.Az i)) (ES (gi x.Az i)) (gi (gi x.Az i).stops j) j (Qn R (Ey (gi x.Az i)) (ES (gi x.Az i)) (gi (gi x.Az i).stops j) j):=fun i hi j hj =>
  ⟨YP _ _ _ _ _ _ hj,VN R _ _ _ j hR (uI _) ((hx.Az i hi).all j hj) (by have:=hf4 i hi;omega)⟩
 refine ⟨⟨by rw [e4];simp,by rw [e1];omega,by rw [e2];omega,by rw [e3];omega,fun i hi=>?_,fun i hi=>?_,fun i hi=>?_⟩,by rw [e1];omega,by rw [e2];omega,by rw [e3];omega,fun i hi=>?_,by rw [e1];exact hR,fun i hi=>?_,fun i hi=>?_,fun i hi j hj=>?_,fun i hi=>?_,fun i hi=>?_,e4⟩
 ·rw [e1] at hi ⊢;rw [rn i (by omega)];exact a2r _ _
 ·rw [e2] at hi ⊢;rw [dg i (by omega)]
  refine ⟨by simp [eH,MW],by rw [ds,Hl];have:=hf4 i (by omega);omega,fun j hj=>?_⟩
  rw [ds,Hl] at hj
  rw [ds,(sp i (by omega) j hj).1]
  exact (sp i (by omega) j hj).2.2.2.2.1
 ·rw [e3] at hi ⊢;rw [cg i (by omega)];simp [UY,MW]
 ·rw [e2] at hi ⊢;rw [dg i (by omega),ds,Hl];exact hf4 i (by omega)
 ·rw [e2] at hi ⊢;rw [dg i (by omega)];exact uI _
 ·rw [e2] at hi ⊢;rw [dg i (by omega)];rfl
 ·rw [e2] at hi hj ⊢;rw [dg i (by omega),ds,Hl] at hj;rw [e1,dg i (by omega),ds,(sp i (by omega) j hj).1]
  exact ⟨(sp i (by omega) j hj).2.2.2.1,(sp i (by omega) j hj).2.2.1,(sp i (by omega) j hj).2.2.2.2.2⟩
 ·rw [e3] at hi ⊢;rw [e2,dl,cg i (by omega)]
  exact ⟨yP _ _ _ (by omega) (hx.links i (by omega)) (by omega),rfl⟩
 ·rw [e1] at hi ⊢;rw [rn i (by omega)];exact vT _ _ (by omega)
theorem a2s:C9 [79,114,103,97,110]:=by
 refine ⟨by decide,by decide,by decide,fun i h1 h2=>?_⟩
 have:i=1∨i=2∨i=3∨i=4:=by simp at h2;omega
 rcases this with rfl|rfl|rfl|rfl<;>exact .inl (by decide)
theorem OZ.ok {o:ET} (h:OZ o):LK o=0:=by
 have r1:=h.ranks
 have d1:=h.Az
 have c1:=h.Gf
 unfold LK
 rw [if_neg (fun h'=>h' (h.nm▸a2s)),if_neg (by omega)]
 have hr:ND o.ranks 0=0:=Tf (fun i hi=>⟨(h.rk.ok i hi).1,SV (c:=82) (by omega) h.rn hi⟩) _ 0 rfl
 rw [if_neg (fun h'=>h' hr),if_neg (by omega),if_neg (by omega)]
 have hd:Gi o.ranks o.Az 0=0:=Pz (fun i hi=>by
  have s1:=h.stops i hi
  refine ⟨by rw [h.dn i hi];exact XP (by decide) (by omega),SV (c:=68) (by omega) h.dn hi,?_⟩
  unfold KX
  rw [Lj (h.dv i hi),if_neg (fun h=>h rfl),if_neg (by omega)]
  exact Qb (fun j hj=>⟨(h.st i hi j hj).1,SV (c:=83) (by omega) (fun a ha=>(h.st i hi a ha).2.1) hj⟩) _ 0 rfl) _ 0 rfl
 rw [if_neg (fun h'=>h' hd)]
 unfold TG
 rw [if_neg (by simp only [List.length_map];omega)]
 have hc:PI (o.Az.map fun d=>⟨d.lo,d.hi⟩) 0=0:=SB (fun i hi=>by
  rw [List.length_map] at hi
  have e:gi (o.Az.map fun d=>(⟨d.lo,d.hi⟩:aS)) i=⟨(gi o.Az i).lo,(gi o.Az i).hi⟩:=by simp [gi,List.getElem?_eq_getElem hi]
  rw [e]
  exact Lj (h.dv i hi)) _ 0 rfl
 rw [if_neg (fun h'=>h' hc),List.length_map]
 exact Xi (fun i hi=>⟨(h.cp i hi).1,SV (c:=67) (by omega) (fun a ha=>(h.cp a ha).2) hi⟩) _ 0 rfl
end Go.Proofs.YtdabojnmoejilaaGreatDoor
namespace Go.Proofs.YtdabojnmoejilaaGreatDoor
open Go Go.Am Go.Vm
attribute [local irreducible] D8 DT
theorem RU {rk:List FU} {l:List YH}:∀ (n k:Nat),l.length-k=n→Gi rk l k=0→∀ i,k≤i→i<l.length→KX rk (gi l i)=0
 |0,k,h,_,i,h1,h2=>by omega
 |n+1,k,h,h0,i,h1,h2=>by
  rw [Gi,if_pos (by omega)] at h0
  split at h0
  ·exact absurd h0 (by decide)
  split at h0
  ·exact absurd h0 (by decide)
  split at h0
  ·rename_i h3;exact absurd h0 h3
  rename_i h3
  rcases Nat.lt_or_ge k i with h4|h4
  ·exact RU n (k+1) (by omega) h0 i h4 h2
  ·obtain rfl:k=i:=by omega
   exact Decidable.byContradiction fun h5=>h3 h5
structure Jl (o:ET):Prop where
 sm:Pq o
 err:LK o=0
 Az:1≤o.Az.length∧o.Az.length≤8
 Gf:o.Gf.length≤40
 stops:∀ i,i<o.Az.length→(gi o.Az i).stops.length≤60
theorem yO {o:ET} (hs:Pq o) (h:LK o=0):Jl o:=by
 have h0:=h
 unfold LK at h0
 split at h0
 ·exact absurd h0 (by decide)
 split at h0
 ·exact absurd h0 (by decide)
 split at h0
 ·rename_i h1;exact absurd h0 h1
 split at h0
 ·exact absurd h0 (by decide)
 rename_i d1
 split at h0
 ·exact absurd h0 (by decide)
 rename_i d2
 split at h0
 ·rename_i h1;exact absurd h0 h1
 rename_i d3
 have d3:Gi o.ranks o.Az 0=0:=Decidable.byContradiction d3
 unfold TG at h0
 split at h0
 ·exact absurd h0 (by decide)
 rename_i c1
 refine ⟨hs,h,⟨by omega,by omega⟩,by omega,fun i hi=>?_⟩
 have:=RU _ 0 rfl d3 i (Nat.zero_le _) hi
 unfold KX at this
 split at this
 ·rename_i h1;exact absurd this h1
 split at this
 ·exact absurd this (by decide)
 rename_i h2
 omega
theorem YT {m:Nat} {l:List iC}:∀ (n k:Nat),l.length-k=n→Na m l k=0→∀ i,k≤i→i<l.length→0≤(gi l i).rank∧(gi l i).rank<m
 |0,k,h,_,i,h1,h2=>by omega
 |n+1,k,h,h0,i,h1,h2=>by
  rw [Na,if_pos (by omega)] at h0
  split at h0
  ·exact absurd h0 (by decide)
  rename_i h3
  split at h0
  ·exact absurd h0 (by decide)
  split at h0
  ·exact absurd h0 (by decide)
  rcases Nat.lt_or_ge k i with h4|h4
  ·exact YT n (k+1) (by omega) h0 i h4 h2
  ·obtain rfl:k=i:=by omega
   omega
theorem YJ {m:Nat} {lo hi:Int} {l:List Seg}:∀ (n k:Nat),l.length-k=n→JQ m lo hi l k=0→∀ i,k≤i→i<l.length→PG m (gi l i).draws=0
 |0,k,h,_,i,h1,h2=>by omega
 |n+1,k,h,h0,i,h1,h2=>by
  rw [JQ,if_pos (by omega)] at h0
  split at h0
  ·exact absurd h0 (by decide)
  split at h0
  ·exact absurd h0 (by decide)
  split at h0
  ·rename_i h3;exact absurd h0 h3
  rename_i h3
  rcases Nat.lt_or_ge k i with h4|h4
  ·exact YJ n (k+1) (by omega) h0 i h4 h2
  ·obtain rfl:k=i:=by omega
   exact Decidable.byContradiction fun h5=>h3 h5
structure a5y (rk:List FU) (s:Stp):Prop where
 Ez:s.Ez.length≤12
 draws:∀ i,i<s.Ez.length→(gi s.Ez i).draws.length≤8∧∀ j,j<(gi s.Ez i).draws.length→0≤(gi (gi s.Ez i).draws j).rank∧(gi (gi s.Ez i).draws j).rank<rk.length
theorem a7s {rk:List FU} {lo hi:Int} {s:Stp} (h:Jp rk lo hi s=0):a5y rk s:=by
 unfold Jp at h
 split at h
 ·rename_i h1;exact absurd h h1
 unfold uj at h
 split at h
 ·exact absurd h (by decide)
 split at h
 ·rename_i h1;exact absurd h h1
 split at h
 ·exact absurd h (by decide)
 split at h
 ·exact absurd h (by decide)
 rename_i h1
 refine ⟨by omega,fun i hi=>?_⟩
 have h2:=YJ _ 0 rfl h i (Nat.zero_le _) hi
 unfold PG at h2
 split at h2
 ·exact absurd h2 (by decide)
 exact ⟨by omega,fun j hj=>YT _ 0 rfl h2 j (Nat.zero_le _) hj⟩
def RH (rk:List FU) (s:Stp) (n:Nat):Nat→List UInt8
 |0=>[]
 |k+1=>if (gi s.Ez (n-(k+1))).draws.length>0 then (gi rk (gi (gi s.Ez (n-(k+1))).draws 0).rank.toNat).EC else RH rk s n k
def Xr (rk:List FU) (s:Stp):List UInt8:=RH rk s s.Ez.length s.Ez.length
theorem VI {rk:List FU} {s:Stp} {n k:Nat} (hk:k<n) (h:(gi s.Ez k).draws.length=0):RH rk s n (n-k)=RH rk s n (n-(k+1)):=by
 obtain ⟨j,hj⟩:∃ j,n-k=j+1:=⟨n-k-1,by omega⟩
 rw [hj]
 have e:n-(j+1)=k:=by omega
 show (if (gi s.Ez (n-(j+1))).draws.length>0 then _ else RH rk s n j)=_
 rw [e,if_neg (by omega)]
 congr 1;omega
theorem YM {rk:List FU} {s:Stp} {n k:Nat} (hk:k<n) (h:0<(gi s.Ez k).draws.length):RH rk s n (n-k)=(gi rk (gi (gi s.Ez k).draws 0).rank.toNat).EC:=by
 obtain ⟨j,hj⟩:∃ j,n-k=j+1:=⟨n-k-1,by omega⟩
 rw [hj]
 have e:n-(j+1)=k:=by omega
 show (if (gi s.Ez (n-(j+1))).draws.length>0 then _ else RH rk s n j)=_
 rw [e,if_pos h]
end Go.Proofs.YtdabojnmoejilaaGreatDoor
