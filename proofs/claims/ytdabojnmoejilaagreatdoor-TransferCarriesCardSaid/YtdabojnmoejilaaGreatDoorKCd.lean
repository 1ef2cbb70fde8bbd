/-
  Texts of a proof, merged (Orq, VmG, TraP, EnvO, IntA, IntB, FraA, RkB, RkC, OrA, OrB, RkA, RkD, RkE, RkF, RkG, RkH, RkI, OrF, RkJ, RkK, RkL, OrG, OrH, OrI, TraE). Conditions: in each statement.
-/
import Derived.Shelf.Spec.SlicesGrow
import Derived.Test.YtdabojnmoejilaaGreatDoorKCc
set_option linter.unusedSimpArgs false
set_option linter.unusedVariables false
set_option linter.unusedSectionVars false
set_option maxRecDepth 100000
set_option maxHeartbeats 8000000
namespace Go.Vm
open Go.Am
section
variable {P:Program} {G:List Nat}
theorem Ko (n:Nat) (lb:List Value):(Ec n lb).drop (n+1)=lb:=by
 unfold Ec
 rw [List.drop_append_of_le_length (by simp),List.drop_of_length_le (by simp)];rfl
theorem lg {k k':Value} {a b:List (List Value)} (h:IG k a=IG k' b):k=k'∧a=b:=by
 have:=congrArg OC h
 rw [KF,KF] at this
 refine ⟨?_,Option.some.inj this⟩
 unfold IG at h
 simp only [Value.tuple.injEq] at h
 have h2:=congrArg (fun x=>x.toList) h
 simp only [List.cons.injEq] at h2
 exact h2.1
abbrev SqF:=List Value→Mem→Option (Value×List (List Value))
open Classical in
noncomputable def UW (G:List Nat) (M0:Mem) (nt:Nat) (Sq:SqF) (Cm:List Value) (m:Mem):Option (Value×Mem) :=
 if Cm=Ec nt (Cm.drop (nt+1))∧∀ k∈G,m.get k=M0.get k then (Sq (Cm.drop (nt+1)) m).map fun kr=>(IG kr.1 kr.2,m) else none
noncomputable def zC (G:List Nat) (M0:Mem) (gf:FuncId) (nt:Nat) (Sq:SqF) (O:CO):CO:=fun f=>if f=gf then some (UW G M0 nt Sq) else O f
theorem mO {M0:Mem} {gf f:FuncId} {nt:Nat} {Sq:SqF} {O:CO} (h:f≠gf):zC G M0 gf nt Sq O f=O f:=if_neg h
theorem nG {M0:Mem} {gf:FuncId} {nt:Nat} {Sq:SqF} {O:CO}:zC G M0 gf nt Sq O gf=some (UW G M0 nt Sq):=if_pos rfl
theorem LV {M0:Mem} {nt:Nat} {Sq:SqF} {Cm:List Value} {m:Mem} {r:Value×Mem} (h:UW G M0 nt Sq Cm m=some r):∃ lb kr,Cm=Ec nt lb∧(∀ k∈G,m.get k=M0.get k)∧Sq lb m=some kr∧r=(IG kr.1 kr.2,m):=by
 unfold UW at h
 split at h
 case isFalse=>cases h
 rename_i hc
 rw [Option.map_eq_some_iff] at h
 obtain ⟨rows,h1,h2⟩:=h
 exact ⟨_,rows,hc.1,hc.2,h1,h2.symm⟩
theorem tH {M0:Mem} {nt:Nat} {Sq:SqF} {lb:List Value} {m:Mem} {kr:Value×List (List Value)} (hg:∀ k∈G,m.get k=M0.get k) (h:Sq lb m=some kr):UW G M0 nt Sq (Ec nt lb) m=some (IG kr.1 kr.2,m):=by
 unfold UW
 rw [Ko,if_pos ⟨rfl,hg⟩,h];rfl
theorem bZ {ι:Cb} {g:Nat→Nat} {v:Value} (h:Bd ι g Vq v):False:=by cases h
theorem aJ {gf:Nat} {lb:Array Value} {rows:List (List Value)} {I1 I2:World→Prop} {w:World} (h:XC P gf lb rows I2 w) (hi:∀ W,I1 W→I2 W):XC P gf lb rows I1 w :=
 fun l J Jx W hb hJ hx hy h0 hj=>h l J Jx W hb hJ hx (fun i W1 hi' hj'=>by
  obtain ⟨fn,tmps,LM,body,e1,e2⟩:=hy i W1 hi' hj'
  refine ⟨fn,tmps,LM,body,e1,e2.mono ?_⟩
  rintro e W' (⟨q1,q2,q3⟩|q)
  ·exact .inl ⟨q1,q2,hi _ q3⟩
  ·exact .inr q) (hi _ h0) hj
theorem jA {M0:Mem} {gf:FuncId} {nt:Nat} {Sq:SqF} {O:CO} (hO:G7 P G O) (he:Am.Enters P gf) (hnt:∀ fn,P.funcs[gf]?=some fn→fn.ntmps=nt)
 (hs:∀ (lb:List Value) (m:Mem) (key:Value) (rows:List (List Value)),Sq lb m=some (key,rows)→(∀ k∈G,m.get k=M0.get k)→∀ (ι:Cb) (w:World) (lb':Array Value),Ef P G ι m w→BP ι m.gen lb lb'.toList →
  XC P gf lb' rows (Xv P G (fun m'=>Sq lb m'=some (key,rows)∧∀ k∈G,m'.get k=M0.get k) ι m.gen lb lb') w):G7 P G (zC G M0 gf nt Sq O):=by
 intro f Fo hf
 by_cases h:f=gf
 ·subst h
  rw [nG] at hf
  cases hf
  refine ⟨fun Cm m v m' hv ι w as' hs' hrel=>?_,fun Cm m v m' hv=>?_,he,fun fn lb m m1 v rows hfn hv hr ι w lb' Eh hl=>?_⟩
  ·obtain ⟨lb,rows,rfl,_⟩:=LV hv
   rw [jC] at hrel
   obtain ⟨v',k',_,h2,_⟩:=hrel.LY
   exact (bZ h2).elim
  ·obtain ⟨lb,rows,_,_,_,e⟩:=LV hv
   cases e;exact Bv.refl _
  ·rw [hnt fn hfn] at hv ⊢
   obtain ⟨lb2,a1r,e1,e2,e3,e4⟩:=LV hv
   have e5:lb=lb2:=by
    have:=congrArg (List.drop (nt+1)) e1
    rwa [Ko,Ko] at this
   subst e5
   obtain ⟨key2,a1r⟩:=a1r
   cases e4
   rw [KF] at hr
   cases hr
   refine aJ (hs lb m _ _ e3 e2 ι w lb' Eh hl) ?_
   rintro W ⟨ι',m',q1,q2,⟨m2,q3⟩,q4⟩
   obtain ⟨lb3,a1q,p1,p2,p3,p4⟩:=LV q3
   have e6:lb=lb3:=by
    have:=congrArg (List.drop (nt+1)) p1
    rwa [Ko,Ko] at this
   subst e6
   simp only [Prod.mk.injEq] at p4
   obtain ⟨r1,r2⟩:=lg p4.1
   obtain ⟨b2v,a1q⟩:=a1q
   simp only at r1 r2
   subst r1;subst r2
   exact ⟨ι',m',q1,q2,⟨p3,p2⟩,q4⟩
 ·rw [mO h] at hf
  exact hO f Fo hf
end
end Go.Vm
namespace Go.Vm
open Go.Am
variable {E:Env} {bn:Nat} {L:Frame} {H:Heap} {nx:Nat} {Q:CP→Frame→Heap→Nat→Prop} {b:Code}
theorem Ak.eq {k i:Nat} {v0:PV} {L0:Frame} (hv:GZ L i=some v0) (hu:v0.under k) (t:Ak k L0 L):Ak k ((i,v0)::L0) L:=⟨⟨hu,v0,hv,.refl _⟩,t⟩
theorem Ah.eq {k i:Nat} {v0:HB} {L0:Heap} (hv:hget H i=some v0) (hi:i<k) (hu:v0.under k) (t:Ah k L0 H):Ah k ((i,v0)::L0) H:=⟨⟨hi,hu,v0,hv,.refl _⟩,t⟩
mutual
def PV.ub (k:Nat):PV→Bool
 | .p _=>true
 | .agg cs=>AP.ub k cs
 | .EP cs=>AP.ub k cs
 | .vec b _ _ _=>Nat.blt b k
 | .ref b _=>Nat.blt b k
 | .Eo b _ _=>Nat.blt b k
 | .mref b=>Nat.blt b k
 | .clo _ fs cs=>and (AP.ub k fs) (AP.ub k cs)
def AP.ub (k:Nat):List PV→Bool
 |[]=>true
 |c::cs=>and (PV.ub k c) (AP.ub k cs)
end
mutual
theorem PV.Ac {k:Nat}:∀ {x:PV},PV.ub k x=true→x.under k
 | .p _,_=>trivial
 | .agg _,h=>AP.Ac (by simpa [PV.ub] using h)
 | .EP _,h=>AP.Ac (by simpa [PV.ub] using h)
 | .vec _ _ _ _,h=>Aj h
 | .ref _ _,h=>Aj h
 | .Eo _ _ _,h=>Aj h
 | .mref _,h=>Aj h
 | .clo _ _ _,h=>by
  simp only [PV.ub,Bool.and_eq_true] at h
  exact ⟨AP.Ac h.1,AP.Ac h.2⟩
theorem AP.Ac {k:Nat}:∀ {x:List PV},AP.ub k x=true→AP.under k x
 |[],_=>trivial
 |_::_,h=>by
  simp only [AP.ub,Bool.and_eq_true] at h
  exact ⟨PV.Ac h.1,AP.Ac h.2⟩
end
def HB.ub (k:Nat):HB→Bool
 | .box _ cs=>AP.ub k cs
 | .Fe _ cs _=>AP.ub k cs
 |_=>true
theorem HB.Ac {k:Nat} {x:HB} (h:HB.ub k x=true):x.under k:=by
 cases x with
 |box e cs=>exact AP.Ac h
 |Fe e cs n=>exact AP.Ac h
 |vec=>trivial
 |map=>trivial
theorem Ad.Ed (n:Nat) (L0:Frame) (H0:Heap) (Lf:Nat→Frame→Frame) (Hf:Nat→Heap→Heap) (DZ:Nat) (hb:bn≤DZ) (hn:DZ≤nx) (h1:Ak DZ (Lf 0 L0) L) (h2:Ah DZ (Hf 0 H0) H)
 (hs:∀ k,k<n→Ad E bn b (Lf k L0) (Hf k H0) DZ (Aw (fun L' H' nx'=>DZ≤nx'∧Ak DZ (Lf (k+1) L0) L'∧Ah DZ (Hf (k+1) H0) H') Q))
 (he:Ad E bn b (Lf n L0) (Hf n H0) DZ (Aw (fun _ _ _=>False) Q)):Ad E bn (.loop b) L H nx Q :=
 Ad.D8 (fun k=>Lf k L0) (fun k=>Hf k H0) DZ (fun k=>k≤n) (fun k=>n-k) 0 hb (Nat.zero_le _) ⟨hn,h1,h2⟩ fun k hk=>by
  rcases Nat.lt_or_ge k n with h|h
  ·refine (hs k h).mono fun e L' H' nx' q=>?_
   cases e with
   |normal=>exact ⟨k+1,h,by omega,⟨q.1,q.2.1,q.2.2⟩⟩
   |ret=>exact q
   |exit i=>exact q
  ·obtain rfl:k=n:=by omega
   refine he.mono fun e L' H' nx' q=>?_
   cases e with
   |normal=>exact q.elim
   |ret=>exact q
   |exit i=>exact q
theorem Ad.FK (n:Nat) (inv:Nat→Prop) (L0:Frame) (H0:Heap) (Lf:Nat→Frame→Frame) (Hf:Nat→Heap→Heap) (DZ:Nat) (hb:bn≤DZ) (hn:DZ≤nx) (h1:Ak DZ (Lf 0 L0) L) (h2:Ah DZ (Hf 0 H0) H) (h0:inv 0)
 (hs:∀ k,k<n→inv k→Ad E bn b (Lf k L0) (Hf k H0) DZ (Aw (fun L' H' nx'=>inv (k+1)∧DZ≤nx'∧Ak DZ (Lf (k+1) L0) L'∧Ah DZ (Hf (k+1) H0) H') Q))
 (he:inv n→Ad E bn b (Lf n L0) (Hf n H0) DZ (Aw (fun _ _ _=>False) Q)):Ad E bn (.loop b) L H nx Q :=
 Ad.D8 (fun k=>Lf k L0) (fun k=>Hf k H0) DZ (fun k=>k≤n∧inv k) (fun k=>n-k) 0 hb ⟨Nat.zero_le _,h0⟩ ⟨hn,h1,h2⟩ fun k hk=>by
  obtain ⟨hk,hi⟩:=hk
  rcases Nat.lt_or_ge k n with h|h
  ·refine (hs k h hi).mono fun e L' H' nx' q=>?_
   cases e with
   |normal=>exact ⟨k+1,⟨h,q.1⟩,by omega,⟨q.2.1,q.2.2.1,q.2.2.2⟩⟩
   |ret=>exact q
   |exit i=>exact q
  ·obtain rfl:k=n:=by omega
   refine (he hi).mono fun e L' H' nx' q=>?_
   cases e with
   |normal=>exact q.elim
   |ret=>exact q
   |exit i=>exact q
section
variable {Q:PV→Heap→Nat→Prop} {w:Bool} {dst:Option Tmp} {ty:TypeId} {pos:String} {af:Array Edge} {gd:Option (Nat×Bool)}
theorem zG {Γ:Nat→Option (List Value×TypeId)} {m:Mem} {F:Nat→Prop} {σ:Nat→Value} {t:Tr Value} {x:Operand} {e:TypeId} {cs:List FV} {n:Nat} (hx:Ctx Γ m F σ H nx) (hl:RL m F (htag H) σ nx L t) (h:BD Γ L x=some (.p (.lst e cs n))) :
 ∃ a k g,ev t x=.slice a k g∧(0<n→a.isNone=false):=by
 have:=Ci hx hl h
 generalize ev t x=v at this
 cases this with
 |p hr =>
  cases hr with
  |nil=>exact ⟨_,_,_,rfl,fun h=>by omega⟩
  |room=>exact ⟨_,_,_,rfl,fun _=>rfl⟩
  |lst=>exact ⟨_,_,_,rfl,fun _=>rfl⟩
theorem zW {Γ:Nat→Option (List Value×TypeId)} {m:Mem} {F:Nat→Prop} {σ:Nat→Value} {t:Tr Value} {y:Operand} {v:Value} (hx:Ctx Γ m F σ H nx) (hl:RL m F (htag H) σ nx L t) (h:BD Γ L y=some (.p (.val v))):ev t y=v:=by
 have:=Ci hx hl h
 generalize ev t y=u at this
 cases this with|p hr=>cases hr;rfl
theorem uH {P:Program} {t e':TypeId} {xo yo:Operand} {a:Option Addr} {k g:Nat} (ht:P.underlying t=some (.slice e')):O8 P .eql t xo yo (.slice a k g) (.slice none 0 0)=some (.bool a.isNone)∧O8 P .neq t xo yo (.slice a k g) (.slice none 0 0)=some (.bool !a.isNone):=by
 simp [O8,ht,JU]
theorem Aa.eqNil {t t2 e e':TypeId} {x y:Operand} {cs:List FV} {n:Nat} (hx:BD E.Γ L x=some (.p (.lst e cs n))) (hy:BD E.Γ L y=some (.p (.val (.slice none 0 0)))) (ht:E.P.underlying t=some (.slice e')) (q:∀ b,(0<n→b=false)→Q (.p (.bool b)) H nx) :
 Aa E w ⟨dst,.binOp .eql t x y t2,ty,pos,af,gd⟩ L H nx Q:=fun m F σ tt h1 h2=>by
 obtain ⟨a,k,g,h3,h4⟩:=zG h1 h2 hx
 have h5:=zW h1 h2 hy
 exact Ip.op (v:=.bool a.isNone) (m':=m) (fun _=>by simp only [CY,FC,h3,h5];rw [(uH ht).1];rfl) ⟨_,H,nx,F,σ,q a.isNone h4,h1,.p (.bool _),Step.refl _ _ _ _ _,fun _ k hk _=>hk⟩
theorem Aa.a3r {t t2 e e':TypeId} {x y:Operand} {cs:List FV} {n:Nat} (hx:BD E.Γ L x=some (.p (.lst e cs n))) (hy:BD E.Γ L y=some (.p (.val (.slice none 0 0)))) (ht:E.P.underlying t=some (.slice e')) (hn:0<n) (q:Q (.p (.bool false)) H nx) :
 Aa E w ⟨dst,.binOp .eql t x y t2,ty,pos,af,gd⟩ L H nx Q:=Aa.eqNil hx hy ht fun b hb=>by rw [hb hn];exact q
theorem PG {α:Type} [Inhabited α] {l:List α} {i j:Nat} {a:α}:gi (l.set i a) j=if i=j∧j<l.length then a else gi l j:=by
 unfold gi
 rw [List.getElem?_set]
 by_cases h:i=j
 ·subst h
  by_cases h2:i<l.length
  ·simp [h2]
  ·simp [h2,List.getElem?_eq_none (by omega:l.length≤i)]
 ·simp [h]
theorem Aa.a1u {t t2:TypeId} {x y:Operand} {n:Nat} (hx:BD E.Γ L x=some (.p (.int .u64 ((2 ^ n:Nat):Int)))) (hy:BD E.Γ L y=some (.p (.int .u64 1))) (hn:n<64) (q:Q (.p (.int .u64 ((2 ^ n-1:Nat):Int))) H nx) :
 Aa E w ⟨dst,.binOp .sub t x y t2,ty,pos,af,gd⟩ L H nx Q :=
 Aa.a5t (a:=2 ^ n) (b:=1) hx hy ⟨Nat.one_le_two_pow,Nat.lt_of_le_of_lt (Nat.pow_le_pow_right (by omega) (show n≤63 by omega)) (by decide)⟩ q
end
theorem all_succ {P:Nat→Prop} {k:Nat} (h:∀ i,i<k→P i) (hk:P k):∀ i,i<k+1→P i:=fun i hi=>by
 rcases Nat.lt_or_ge i k with h1|h1
 ·exact h i h1
 ·obtain rfl:i=k:=by omega
  exact hk
def GI {α:Type} (f:Nat→α):Nat→List α
 |0=>[]
 |k+1=>GI f k++[f k]
theorem Jy {α:Type} (f:Nat→α):∀ k,(GI f k).length=k
 |0=>rfl
 |k+1=>by simp [GI,Jy f k]
theorem ig {α:Type} (f:Nat→α):∀ k i,i<k→(GI f k)[i]?=some (f i)
 |0,i,h=>by omega
 |k+1,i,h=>by
  simp only [GI]
  rw [List.getElem?_append]
  rw [Jy]
  by_cases h2:i<k
  ·rw [if_pos h2];exact ig f k i h2
  ·obtain rfl:i=k:=by omega
   rw [if_neg (by omega)];simp
theorem bH {α:Type} [Inhabited α] (f:Nat→α) {k i:Nat} (h:i<k):gi (GI f k) i=f i:=by
 unfold gi;rw [ig f k i h];rfl
def a4o {α:Type} (f:Nat→α) (l:List α):Nat→List α
 |0=>l
 |k+1=>(a4o f l k).set k (f k)
theorem Mc {α:Type} [Inhabited α] {a:α} {n i:Nat} (h:i<n):gi (List.replicate n a) i=a:=by
 unfold gi;rw [List.getElem?_replicate,if_pos h];rfl
def a2v (k:Nat):Heap→Bool
 |[]=>true
 |(i,x)::H=>and (and (Nat.blt i k) (HB.ub k x)) (a2v k H)
theorem DJ {k:Nat}:∀ {H:Heap},a2v k H=true→Nv k H
 |[],_=>trivial
 |(_,_)::_,h=>by
  simp only [a2v,Bool.and_eq_true] at h
  exact ⟨⟨Aj h.1.1,HB.Ac h.1.2⟩,DJ h.2⟩
def J5 (E:Env) (g:FuncId) (ac:List PV) (Hc:Heap) (k:Nat) (x:FV):Prop:=BA E g ac Hc k fun r H' nx'=>r=.p x∧H'=Hc∧nx'=k
theorem J5.enter {f:FuncId} {fn:Func} {c:Code} {ac:List PV} {Hc:Heap} {k:Nat} {x:FV} (ho:E.O f=none) (hf:E.P.funcs[f]?=some fn) (hb:fn.body=some c) (hok:Hy E.G fn c=true) (hn:ac.length≤fn.ntmps)
 (h:Ad E k c (CS 0 ac) Hc k (Done E.P fn.results.toList k fun r' H' nx'=>r'=.p x∧H'=Hc∧nx'=k)):J5 E f ac Hc k x:=BA.enter ho hf hb hok hn h
theorem Aa.read {Q:PV→Heap→Nat→Prop} {dst:Option Tmp} {ty:TypeId} {pos:String} {af:Array Edge} {gd:Option (Nat×Bool)} {fo:Operand} {args:Array Operand} {aT:Array TypeId} {g:FuncId} {fs cs Cm ac:List PV} {Hc:Heap} {x:FV} (ns:List Nat) (hc:J5 E g ac Hc ns.length x)
 (hf:BD E.Γ L fo=some (.clo g fs cs)) (ha:evs E.Γ L args.toList=some Cm) (hle:P5 (fs++Cm++cs) (AP.rn (rho ns nx) ac)) (hu:AP.under ns.length ac) (hHu:Nv ns.length Hc) (hin:HIn (rho ns nx) H Hc) (hnd:ns.Nodup) (hlt:∀ b∈ns,b<nx)
 (hm:news ns.length (rho ns nx) Hc (merge ns (rho ns nx) Hc H)=H) (q:Q (.p x) H nx) :
 Aa E true ⟨dst,.call { callee:=.value fo,args:=args,argTypes:=aT },ty,pos,af,gd⟩ L H nx Q :=
 Aa.wW hf ha hle hu hHu hin hnd hlt (fun h=>by cases h) hc fun r H' nx' ⟨h1,h2,h3⟩=>by
  subst h1;subst h2;subst h3
  rw [hm,Nat.sub_self]
  exact q
theorem aZ {P:Program} {t e:TypeId} {n:Nat} {z:List Value} {inf:TypeInfo} {ps:Array (Nat×Value)} {out:Array Value} (hz:CJ P t=some z) (hu:P.underlying t=some (.array n e)) (hi:P.info? e=some inf)
 (hf:Instr.fill (fun i=>some (i*inf.size,inf.size)) z.toArray ps.toList=some out):Ez P (Instr.build t ps)=some (.agg out):=by
 obtain ⟨i,zv,h1,h2,h3,h4⟩:=BN hz
 unfold Instr.build
 simp only [Ba]
 have hzv:Ez P (zeroValue t)=some zv:=by
  simp only [zeroValue,Ba,Jm,h1,Option.bind_some,h2]
  rfl
 rw [hzv]
 simp only [Option.bind_some,BQ,hu]
 simp only [Ba,G9,hi,Option.map_some,Option.bind_some]
 have e:zv.cells=z.toArray:=by rw [h3]
 rw [e,hf]
 rfl
theorem Aa.sN {Q:PV→Heap→Nat→Prop} {w:Bool} {dst:Option Tmp} {ty:TypeId} {pos:String} {af:Array Edge} {gd:Option (Nat×Bool)} {t e:TypeId} {n:Nat} {ps:Array (Nat×Operand)} {z:List Value} {inf:TypeInfo} {parts:List (Nat×PV)} {out:List PV} (hz:CJ E.P t=some z) (hu:E.P.underlying t=some (.array n e))
 (hi:E.P.info? e=some inf) (hp:evp E.Γ L ps.toList=some parts) (hf:Pj (fun i=>some (i*inf.size,inf.size)) (z.map fun v=>.p (FZ v)) parts=some out) (q:Q (gW out) H nx) :
 Aa E w ⟨dst,.build t ps,ty,pos,af,gd⟩ L H nx Q :=
 Aa.quiet q fun m F σ tt h1 h2=>by
  obtain ⟨_,_,_,_,_,hpz⟩:=BN hz
  obtain ⟨out',e1,e2,e3⟩:=OT (fun i=>some (i*inf.size,inf.size)) (Vt h1 h2 hp) (cs':=z.toArray) (DL.zero hpz) (Dt hpz) hf
  have e4:=aZ (ps:=ps.map fun (i,x)=>(i,ev tt x)) hz hu hi (by rw [Array.toList_map];simpa using e1)
  refine ⟨.agg out',fun _=>?_,TI e2 e3⟩
  simp only [CY,FC,hz,e4,Option.map_some]
end Go.Vm
namespace Go.Vm
open Go.Am
variable {E:Env} {L:Frame} {H:Heap} {nx:Nat} {Q:PV→Heap→Nat→Prop}
variable {dst:Option Tmp} {ty:TypeId} {pos:String} {af:Array Edge} {gd:Option (Nat×Bool)}
theorem Aa.zh {w:Bool} {s d e e2:TypeId} {x:Operand} {b:Nat} {z:Bool} {n k:Int} (hx:BD E.Γ L x=some (.vec b 2 0 2)) (hb:hget H b=some (.vec e2 [.int .u8 n,.int .u8 k] 2 z)) (hs:E.P.underlying s=some (.slice e)) (hd:E.P.underlying d=some .string) (he:E.P.underlying e=some (.int .u8)) (hn:0≤n∧n<256) (hk:0≤k∧k<256)
 (q:Q (st [UInt8.ofNat n.toNat,UInt8.ofNat k.toNat]) H nx):Aa E w ⟨dst,.convert s d x,ty,pos,af,gd⟩ L H nx Q :=
 Aa.quiet q fun m F σ tt c1 c2=>by
  obtain ⟨hl1,vs,hl2,hl3,hl4⟩:=qB.all (sz:=1) hx hb rfl m F σ tt c1 c2
  have hc:cells [UInt8.ofNat n.toNat,UInt8.ofNat k.toNat]=[.int .u8 n,.int .u8 k]:=by
   show [FV.int .u8 (((UInt8.ofNat n.toNat).toNat:Nat):Int),FV.int .u8 (((UInt8.ofNat k.toNat).toNat:Nat):Int)]=_
   rw [UInt8.toNat_ofNat',UInt8.toNat_ofNat']
   congr 2
   ·omega
   ·congr 2
    omega
  rw [← hc] at hl3
  have hvs:=NS hl3
  subst hvs
  have hsub:=GK c1 c2 hx hb
  have hag:∃ a g,ev tt x=.slice a 2 g:=by
   unfold Ew at hsub
   split at hsub
   ·exact ⟨_,_,hsub⟩
   ·exact absurd hsub.2.2 (by decide)
  obtain ⟨a,g,hag⟩:=hag
  rw [hag] at hl2
  refine ⟨.string (bs [UInt8.ofNat n.toNat,UInt8.ofNat k.toNat]),fun _=>?_,.p (.str _)⟩
  have hsl:(Hl E.P s||Hl E.P d)=true:=by simp only [Hl,hs,hd];rfl
  simp only [CY,FC,hsl,if_true,UZ,hs,hd,hag,he,hl2,Ol]
  rfl
end Go.Vm
namespace Go.Tra
open Go Go.Am Go.Vm
structure Oo where
 d:Nat
 s:Nat
instance:Enc Oo:={ default:=⟨0,0⟩,enc:=fun x=>[.int .i64 (x.d:Int),.int .i64 (x.s:Int)],size:=2,len:=fun _=>rfl }
def J9 (ns:List Nat):Nat→List Oo
 |0=>[]
 |d+1=>J9 ns d++(List.range (gi ns d)).map fun s=>⟨d,s⟩
def KX (ns:List Nat) (d:Nat):Nat:=(J9 ns d).length
theorem Jz (ns:List Nat) (d:Nat):KX ns (d+1)=KX ns d+gi ns d:=by simp [KX,J9]
theorem aj (ns:List Nat) {d e:Nat} (h:d≤e):KX ns d≤KX ns e:=by
 induction e with
 |zero=>obtain rfl:d=0:=by omega
        exact Nat.le_refl _
 |succ e ih =>
  rcases Nat.lt_or_ge d (e+1) with h1|h1
  ·have:=ih (by omega)
   rw [Jz];omega
  ·obtain rfl:d=e+1:=by omega
   exact Nat.le_refl _
theorem mX (ns:List Nat):∀ (n d s:Nat),d<n→s<gi ns d→gi (J9 ns n) (KX ns d+s)=⟨d,s⟩
 |n+1,d,s,h1,h2=>by
  have e0:J9 ns (n+1)=J9 ns n++(List.range (gi ns n)).map fun s=>⟨n,s⟩:=rfl
  rw [e0]
  unfold gi
  rw [List.getElem?_append]
  rcases Nat.lt_or_ge d n with h|h
  ·have h3:=aj ns (d:=d+1) (e:=n) h
   rw [Jz] at h3
   rw [if_pos (by show _<KX ns n;omega)]
   exact mX ns n d s h h2
  ·obtain rfl:d=n:=by omega
   have:(J9 ns d).length=KX ns d:=rfl
   unfold gi at h2
   rw [if_neg (by omega),this,Nat.add_sub_cancel_left,List.getElem?_map,List.getElem?_range (by simpa [gi] using h2)]
   rfl
def V8 (x:Oo):List Value:=[.agg #[.int .i64 (x.d:Int),.int .i64 (x.s:Int)]]
def Fh (ns:List Nat):List (List Value):=(List.range (KX ns ns.length)).map fun k=>V8 (gi (J9 ns ns.length) k)
theorem UR (ns:List Nat):(Fh ns).length=KX ns ns.length:=by simp [Fh]
theorem jc (ns:List Nat) {d s:Nat} (hd:d<ns.length) (hs:s<gi ns d) (h:KX ns d+s<(Fh ns).length):(Fh ns)[KX ns d+s]=V8 ⟨d,s⟩:=by
 simp only [Fh,List.getElem_map,List.getElem_range]
 rw [mX ns _ d s hd hs]
theorem a4e (ns:List Nat) {d s:Nat} (hd:d<ns.length) (hs:s<gi ns d):KX ns d+s<(Fh ns).length:=by
 have h3:=aj ns (d:=d+1) (e:=ns.length) hd
 rw [Jz] at h3
 rw [UR];omega
def Uo (vs:List Value) (off:Nat):Nat→Option (List Nat)
 |0=>some []
 |n+1=>match Uo vs off n with
  |some l=>match vs[off+n*5]?,vs[off+n*5+1]?,vs[off+n*5+2]?,vs[off+n*5+3]?,vs[off+n*5+4]? with
   |some (.string _),some (.bool _),some (.int .i64 _),some (.int .i64 _),some (.slice _ k _)=>if k<1000000 then some (l++[k]) else none
   |_,_,_,_,_=>none
  |none=>none
theorem MS {vs:List Value} {off:Nat}:∀ {n:Nat} {l:List Nat},Uo vs off n=some l→l.length=n∧∀ d,d<n→∃ x0 x1 x2 x3 a c,vs[off+d*5]?=some (.string x0)∧vs[off+d*5+1]?=some (.bool x1)∧vs[off+d*5+2]?=some (.int .i64 x2)∧vs[off+d*5+3]?=some (.int .i64 x3)∧vs[off+d*5+4]?=some (.slice a (gi l d) c)∧gi l d<1000000
 |0,l,h=>by cases h;exact ⟨rfl,fun d hd=>by omega⟩
 |n+1,l,h=>by
  unfold Uo at h
  split at h
  case h_2=>cases h
  rename_i l0 h0
  split at h
  case h_2=>cases h
  rename_i x0 x1 x2 x3 a k c y0 y1 y2 y3 h1
  split at h
  case isFalse=>cases h
  rename_i hk
  cases h
  obtain ⟨i1,i2⟩:=MS h0
  refine ⟨by simp [i1],fun d hd=>?_⟩
  rcases Nat.lt_or_ge d n with h|h
  ·obtain ⟨z0,z1,z2,z3,a',c',h20,h21,h22,h23,h2⟩:=i2 d h
   refine ⟨z0,z1,z2,z3,a',c',h20,h21,h22,h23,?_⟩
   have:gi (l0++[k]) d=gi l0 d:=by unfold gi;rw [List.getElem?_append_left (by omega)]
   rw [this];exact h2
  ·obtain rfl:d=n:=by omega
   refine ⟨x0,x1,x2,x3,a,c,y0,y1,y2,y3,?_⟩
   have:gi (l0++[k]) d=k:=by unfold gi;rw [← i1];simp
   rw [this];exact ⟨h1,hk⟩
def Qm (sl:Value) (ns:List Nat):Value:=.tuple #[sl,.agg (ns.map fun k:Nat=>Value.int .i64 (k:Int)).toArray]
theorem je {a b:Value} {x y:List Nat} (h:Qm a x=Qm b y):a=b∧x=y:=by
 unfold Qm at h
 simp only [Value.tuple.injEq,Array.mk.injEq,List.cons.injEq,Value.agg.injEq,and_true] at h
 refine ⟨h.1,?_⟩
 have h2:=h.2
 refine List.ext_getElem? fun i=>?_
 have h3:=congrArg (fun l:List Value=>l[i]?) h2
 simp only [List.getElem?_map] at h3
 cases hx:x[i]?<;>cases hy:y[i]?<;>rw [hx,hy] at h3<;>simp at h3
 congr 1;omega
def RJ:SqF:=fun lb m=>match lb with
 |[.pointer (some ⟨b,0,none⟩)]=>match m.get b with
  | .cells [_,_,.slice (some ⟨c,off,none⟩) n g,_] _ 0 false=>match m.get c with
   | .cells vs _ g' _=>if 0<n∧n<1000000∧g'=g then (Uo vs off n).map fun ns=>(Qm (.slice (some ⟨c,off,none⟩) n g) ns,Fh ns) else none
   |_=>none
  |_=>none
 |_=>none
theorem XA {lb:List Value} {m:Mem} {key:Value} {rows:List (List Value)} (h:RJ lb m=some (key,rows)):∃ b x y c off n g z e vs e' ro ns,lb=[.pointer (some ⟨b,0,none⟩)]∧m.get b=.cells [x,y,.slice (some ⟨c,off,none⟩) n g,z] e 0 false ∧
 m.get c=.cells vs e' g ro∧0<n∧n<1000000∧Uo vs off n=some ns∧key=Qm (.slice (some ⟨c,off,none⟩) n g) ns∧rows=Fh ns:=by
 unfold RJ at h
 split at h
 case h_2=>cases h
 rename_i b
 split at h
 case h_2=>cases h
 rename_i x y c off n g z e hb
 split at h
 case h_2=>cases h
 rename_i vs e' g' ro hc
 split at h
 case isFalse=>cases h
 rename_i hn
 obtain ⟨hn,hn9,rfl⟩:=hn
 rw [Option.map_eq_some_iff] at h
 obtain ⟨ns,h1,h2⟩:=h
 cases h2
 exact ⟨b,x,y,c,off,n,g',z,e,vs,e',ro,ns,rfl,hb,hc,hn,hn9,h1,rfl,rfl⟩
end Go.Tra
namespace Go.Proofs.YtdabojnmoejilaaGreatDoor
open Go Go.Am Go.Vm Go.Tra Go.RowKit
structure b0v (B O n c1 o1:Nat) (ns:List Nat) (X:World):Prop where
 box:∃ cap,X.cell? ⟨c1,o1+2,none⟩=some (.slice (some ⟨B,O,none⟩) n cap)
 div:∀ d,d<n→∃ v0 v1 v2 v3 a c,X.cell? ⟨B,O+d*5,none⟩=some (.string v0)∧X.cell? ⟨B,O+d*5+1,none⟩=some (.bool v1)∧X.cell? ⟨B,O+d*5+2,none⟩=some (.int .i64 v2)∧X.cell? ⟨B,O+d*5+3,none⟩=some (.int .i64 v3)∧X.cell? ⟨B,O+d*5+4,none⟩=some (.slice a (gi ns d) c)
abbrev wX (lb:List Value) (key:Value) (rows:List (List Value)) (ι:Cb) (g:Nat→Nat) (lb':Array Value):World→Prop:=Xv Tryz.prog (BO Tryz.prog 8 EG) (fun m'=>RJ lb m'=some (key,rows)∧∀ k∈BO Tryz.prog 8 EG,m'.get k=(CX Tryz.prog 8 EG).get k) ι g lb lb'
theorem oh {G:List Nat} {ι:Cb} {m:Mem} {w:World} {b:Nat} {p':Value} {vs:List Value} {e:TypeId} (hs:Ef Tryz.prog G ι m w) (h:Bd ι m.gen (.pointer (some ⟨b,0,none⟩)) p') (hm:m.get b=.cells vs e 0 false) :
 ∃ c o,p'=.pointer (some ⟨c,o,none⟩)∧∀ i,i<vs.length→∃ v',w.cell? ⟨c,o+i,none⟩=some v'∧Bd ι m.gen (vs.getD i undef) v':=by
 cases h with
 |ptr a a' h =>
  obtain ⟨ib,h1,h2,h3⟩:=h
  obtain ⟨cs,fr,e',q1,q2,q3,q4,q5⟩:=JV hs h1 hm
  have e1:=h3 (by simp [Mem.gen,hm,GX.gen,Jj])
  refine ⟨ib.blk,ib.sh,by rw [e1];simp,fun i hi=>?_⟩
  obtain ⟨v',r1,r2⟩:=q4 i hi
  exact ⟨v',by rw [Am.cell_of_row q1];exact r1,r2⟩
theorem oQ {ι:Cb} {g:Nat→Nat} {c off n gen:Nat} {v':Value} {ib:IB} (h:Bd ι g (.slice (some ⟨c,off,none⟩) n gen) v') (hn:0<n) (hg:gen=g c) (hi:ι c=some ib):∃ cap,v'=.slice (some ⟨ib.blk,off+ib.sh,none⟩) n cap:=by
 cases h with
 |sl _ _ _ _ a' cap hsr =>
  obtain ⟨ib',h1,h2,h3⟩:=He hsr (fun _=>hn) 0
  rw [hi] at h1
  cases h1
  have:=h3 (by simpa [Jj] using hg)
  rw [Addr.add_zero'] at this
  refine ⟨cap,?_⟩
  rw [this]
  simp
theorem zT {G:List Nat} {ι:Cb} {m:Mem} {w:World} {c off n g:Nat} {vs:List Value} {e:TypeId} {ro:Bool} {ib:IB} {ns:List Nat} (hs:Ef Tryz.prog G ι m w) (hi:ι c=some ib) (hc:m.get c=.cells vs e g ro) (hd:Uo vs off n=some ns) {d:Nat} (hlt:d<n) :
 ∃ v0 v1 v2 v3 a k,w.cell? ⟨ib.blk,off+ib.sh+d*5,none⟩=some (.string v0)∧w.cell? ⟨ib.blk,off+ib.sh+d*5+1,none⟩=some (.bool v1)∧w.cell? ⟨ib.blk,off+ib.sh+d*5+2,none⟩=some (.int .i64 v2)∧w.cell? ⟨ib.blk,off+ib.sh+d*5+3,none⟩=some (.int .i64 v3)∧w.cell? ⟨ib.blk,off+ib.sh+d*5+4,none⟩=some (.slice a (gi ns d) k):=by
 obtain ⟨cs,fr,e',q1,q2,q3,q4,q5⟩:=JV hs hi hc
 obtain ⟨x0,x1,x2,x3,a,k,y0,y1,y2,y3,hv,_⟩:=(MS hd).2 d hlt
 have hl:off+d*5+4<vs.length:=by
  rcases Nat.lt_or_ge (off+d*5+4) vs.length with h|h
  ·exact h
  ·rw [List.getElem?_eq_none h] at hv;cases hv
 have cell:∀ j,j≤4→∃ v',w.cell? ⟨ib.blk,off+ib.sh+d*5+j,none⟩=some v'∧Bd ι m.gen (vs.getD (off+d*5+j) undef) v':=fun j hj=>by
  obtain ⟨v',r1,r2⟩:=q4 (off+d*5+j) (by omega)
  refine ⟨v',?_,r2⟩
  rw [Am.cell_of_row q1,← r1]
  congr 1
  omega
 obtain ⟨v0,h0,r0⟩:=cell 0 (by omega)
 obtain ⟨v1,h1,r1⟩:=cell 1 (by omega)
 obtain ⟨v2,h2,r2⟩:=cell 2 (by omega)
 obtain ⟨v3,h3,r3⟩:=cell 3 (by omega)
 obtain ⟨v4,h4,r4⟩:=cell 4 (by omega)
 rw [List.getD_eq_getElem?_getD,Nat.add_zero,y0,Option.getD_some] at r0
 rw [List.getD_eq_getElem?_getD,y1,Option.getD_some] at r1
 rw [List.getD_eq_getElem?_getD,y2,Option.getD_some] at r2
 rw [List.getD_eq_getElem?_getD,y3,Option.getD_some] at r3
 rw [List.getD_eq_getElem?_getD,hv,Option.getD_some] at r4
 cases r0;cases r1;cases r2;cases r3
 have:∃ a' k',v4=.slice a' (gi ns d) k':=by
  generalize gi ns d=q at *
  cases r4<;>exact ⟨_,_,rfl⟩
 obtain ⟨a',k',rfl⟩:=this
 exact ⟨x0,x1,x2,x3,a',k',h0,h1,h2,h3,h4⟩
theorem qN {lb:List Value} {m:Mem} {key:Value} {rows:List (List Value)} (hq:RJ lb m=some (key,rows)) {ι:Cb} {w:World} {lb':Array Value} (Eh:Ef Tryz.prog (BO Tryz.prog 8 EG) ι m w) (hl:BP ι m.gen lb lb'.toList) :
 ∃ B O n c1 o1 ns,0<n∧n<1000000∧(∀ d,d<n→gi ns d<1000000)∧ns.length=n∧rows=Fh ns∧lb'=#[.pointer (some ⟨c1,o1,none⟩)]∧∀ X,wX lb key rows ι m.gen lb' X→b0v B O n c1 o1 ns X:=by
 obtain ⟨b,x,y,c,off,n,g,z,e,vs,e',ro,ns,rfl,hb,hc,hn,hn9,hns,rfl,rfl⟩:=XA hq
 obtain ⟨lb'⟩:=lb'
 obtain ⟨p1,k1,rfl,r1,hl2⟩:=hl.LY
 have hk:k1=[]:=List.length_eq_zero_iff.1 hl2.1.symm
 subst hk
 obtain ⟨c1,o1,rfl,hcell⟩:=oh Eh r1 hb
 have hg:g=m.gen c:=by simp [Mem.gen,hc,GX.gen]
 obtain ⟨v2,_,h2⟩:=hcell 2 (by simp)
 have hib:∃ ib,ι c=some ib:=by
  simp only [List.getD_cons_succ,List.getD_cons_zero] at h2
  cases h2 with
  |sl _ _ _ _ a' cap hsr =>
   obtain ⟨ib,h1,_⟩:=hsr
   exact ⟨ib,h1⟩
 obtain ⟨ib,hib⟩:=hib
 refine ⟨ib.blk,off+ib.sh,n,c1,o1,ns,hn,hn9,fun d hd=>by obtain ⟨_,_,_,_,_,_,_,_,_,_,_,h⟩:=(MS hns).2 d hd;exact h,(MS hns).1,rfl,rfl,?_⟩
 rintro X ⟨ι',m',g1,g2,⟨g3,g4⟩,g5⟩
 obtain ⟨b',x',y',c',off',n',g',z',e1',vs',e2',ro',ns',q0,qb,qc,qn,qn9,qns,qk,qr⟩:=XA g3
 cases q0
 obtain ⟨k1,rfl⟩:=je qk
 cases k1
 obtain ⟨_,ib',i1,i2⟩:=g5 c ib hib
 have:ib'=ib:=i2 (by rw [← hg];simp [Mem.gen,qc,GX.gen])
 subst this
 obtain ⟨p1',k1',x1,x2,_⟩:=g2.LY
 cases x1
 obtain ⟨c1',o1',z1,z2⟩:=oh g1 x2 qb
 cases z1
 refine ⟨?_,fun d hd=>zT g1 i1 qc qns hd⟩
 obtain ⟨v',w1,w2⟩:=z2 2 (by simp)
 simp only [List.getD_cons_succ,List.getD_cons_zero] at w2
 obtain ⟨cap,rfl⟩:=oQ w2 hn (by simp [Mem.gen,qc,GX.gen]) i1
 exact ⟨cap,w1⟩
attribute [local go_sem] Oper.semAt_some
def ivS:Value→Int| .int _ q=>q|_=>0
theorem kU (lb:List Value) (m:Mem) (key:Value) (rows:List (List Value)) (hq:RJ lb m=some (key,rows)) (hg:∀ k∈BO Tryz.prog 8 EG,m.get k=(CX Tryz.prog 8 EG).get k) (ι:Cb) (w:World) (lb':Array Value) (Eh:Ef Tryz.prog (BO Tryz.prog 8 EG) ι m w) (hl:BP ι m.gen lb lb'.toList) :
 XC Tryz.prog 81 lb' rows (wX lb key rows ι m.gen lb') w:=by
 obtain ⟨B,O,n,c1,o1,ns,hn,hn9,b0u,hlen,rfl,rfl,facts⟩:=qN hq Eh hl
 have later:∀ X Y,wX lb key (Fh ns) ι m.gen #[.pointer (some ⟨c1,o1,none⟩)] X→Below X.heap.size X Y→wX lb key (Fh ns) ι m.gen #[.pointer (some ⟨c1,o1,none⟩)] Y:=by
  rintro X Y ⟨ι',m',g1,g2,g3⟩ hb
  exact ⟨ι',m',Tc g1 hb,g2,g3⟩
 generalize wX lb key (Fh ns) ι m.gen #[.pointer (some ⟨c1,o1,none⟩)]=SI at *
 intro l J Jx W hB hJ hx hY hI hj
 refine callsIn_of_wp Tryz.func81 rfl trivial ?_ rfl
 simp only [Tryz.ntmps81,List.size_toArray,List.length_cons,List.length_nil,Nat.reduceAdd,Nat.reduceSub,Array.replicate_succ,Array.replicate_zero,List.push_toArray,List.append_toArray,List.nil_append,List.cons_append]
 obtain ⟨⟨cap,hbox⟩,hdiv⟩:=facts W hI
 gi_wp2
 gi_loopw [9] (fun v wr=>∃ d:Nat,d≤n∧v=.int .i64 (d:Int)∧J (KX ns d) wr∧SI wr) (fun v _=>(n-ivS v).toNat)
 case atStart=>exact ⟨0,Nat.zero_le _,by simp,hj,hI⟩
 case round =>
  obtain ⟨d,hd,rfl,hJd,hId⟩:=hrel
  obtain ⟨_,hdv⟩:=facts _ hId
  by_cases hlt:d<n
  ·obtain ⟨v0,v1,v2,v3,a,k,f0,f1,f2,f3,f4⟩:=hdv d hlt
   have hwd:IntKind.i64.wrap ((d:Int)+1)=((d+1:Nat):Int):=by rw [Y4 (by omega) (by omega)];omega
   gi_wp2
   have hJ1:∀ o,J (KX ns d) (wr.alloc o):=fun o=>hJ _ _ _ hJd ((Below.refl _ _).alloc (Nat.le_refl _) o)
   have hI1:∀ o,SI (wr.alloc o):=fun o=>later _ _ hId ((Below.refl _ _).alloc (Nat.le_refl _) o)
   gi_loopw [17] (fun v wr2=>∃ s:Nat,s≤gi ns d∧v=.int .i64 (s:Int)∧J (KX ns d+s) wr2∧SI wr2) (fun v _=>(gi ns d-ivS v).toNat)
   case atStart=>exact ⟨0,Nat.zero_le _,by simp,hJ1 _,hI1 _⟩
   case round =>
    obtain ⟨s,hs,rfl,hJs,hIs⟩:=hrel
    have h9:=b0u d hlt
    by_cases hls:s<gi ns d
    ·have hws:IntKind.i64.wrap ((s:Int)+1)=((s+1:Nat):Int):=by rw [Y4 (by omega) (by omega)];omega
     have hpl:=a4e ns (d:=d) (s:=s) (by omega) hls
     obtain ⟨fn,tmps,LM,body,hy,hR⟩:=hY _ _ hpl hJs
     rw [jc ns (by omega) hls] at hy
     have hy:(Instr.yield l #[.agg #[.int .i64 (d:Int),.int .i64 (s:Int)]]).run Tryz.prog wr=.ok (.round l fn tmps LM body) wr:=hy
     gi_wp2
     refine ⟨rfl,hR.mono ?_⟩
     rintro e W3 (⟨rfl,hJ3,hI3⟩|⟨rfl,hx3⟩)
     ·gi_wp2
      go_roundw
      case rel=>exact ⟨s+1,hls,by first|rfl|simp,hJ3,hI3⟩
      case measure=>simp [ivS];omega
     ·gi_wp2
      refine ⟨rfl,_,results_none rfl _ _ _,⟨_,rfl⟩,.inr ⟨_,hx3⟩⟩
    ·have hss:s=gi ns d:=by omega
     rw [hss,← Jz] at hJs
     gi_wp2
     go_roundw
     case rel=>exact ⟨d+1,hlt,by first|rfl|simp,hJs,hIs⟩
     case measure=>simp [ivS];omega
  ·have hdd:d=n:=by omega
   gi_wp2
   go_end0
   exact ⟨⟨_,rfl⟩,.inl (by rw [UR,hlen,← hdd];exact hJd)⟩
end Go.Proofs.YtdabojnmoejilaaGreatDoor
namespace Go.Vm
open Go Go.Am
section
variable {P:Program} {G:List Nat}
def MG (e:TypeId) (xs:List Value) (m:Mem):Option (Value×Mem):=match xs with
 |[.slice none 0 0,.int .i64 n]=>if n=0 then some (.slice none 0 0,m) else XK e [.slice none 0 0,.int .i64 n] m
 |_=>none
def Xc (fg:FuncId) (e:TypeId) (O:CO):CO:=fun f=>if f=fg then some (MG e) else O f
theorem LH {fg f:FuncId} {e:TypeId} {O:CO} (h:f≠fg):Xc fg e O f=O f:=if_neg h
theorem Y1 {fg:FuncId} {e:TypeId} {O:CO}:Xc fg e O fg=some (MG e):=if_pos rfl
theorem Uw {e:TypeId} {xs:List Value} {m m':Mem} {v:Value} (h:MG e xs m=some (v,m')):(xs=[.slice none 0 0,.int .i64 0]∧v=.slice none 0 0∧m'=m)∨XK e xs m=some (v,m'):=by
 unfold MG at h
 split at h
 ·rename_i n
  split at h
  ·rename_i hn;subst hn;cases h;exact .inl ⟨rfl,rfl,rfl⟩
  ·exact .inr h
 ·cases h
theorem ZF {O:CO} {fg:FuncId} {e:TypeId} (hO:G7 P G (oN fg e O)) (hc:∀ w:World,Calls P fg #[.slice none 0 0,.int .i64 0] w fun r w'=>r=.returned (.slice none 0 0)∧w'=w):G7 P G (Xc fg e O):=by
 intro f Fo hf
 by_cases h:f=fg
 ·subst h
  rw [Y1] at hf
  cases hf
  obtain ⟨o1,o2,o3,o4⟩:=hO f _ eP
  refine ⟨fun xs m v m' hv ι w as' hs hrel=>?_,fun xs m v m' hv=>?_,o3,Yy.none fun n lb m=>rfl⟩
  ·rcases Uw hv with ⟨rfl,rfl,rfl⟩|hv
   ·obtain ⟨hlen,hat⟩:=hrel
    have hl2:as'.toList.length=2:=by simpa using hlen.symm
    have e0:as'=#[.slice none 0 0,.int .i64 0]:=by
     obtain ⟨l⟩:=as'
     match l,hl2 with
     |[a,b],_ =>
      have ha:=hat 0 (by simp)
      have hb:=hat 1 (by simp)
      simp only [List.getD_cons_zero,List.getD_cons_succ] at ha hb
      have hb':=hb.CB (v:=.int .i64 0) rfl
      cases ha
      rw [hb']
    subst e0
    refine (hc w).mono ?_
    rintro r w' ⟨rfl,rfl⟩
    exact ⟨_,rfl,Post.same hs (Bd.plain rfl)⟩
   ·exact o1 xs m v m' hv ι w as' hs hrel
  ·rcases Uw hv with ⟨rfl,rfl,rfl⟩|hv
   ·exact Bv.refl _
   ·exact o2 xs m v m' hv
 ·rw [LH h] at hf
  exact hO f Fo (by rw [bf h];exact hf)
end
end Go.Vm
namespace Go.Proofs.YtdabojnmoejilaaGreatDoor
open Go Go.Am Go.Vm Go.Tra
theorem a6j:Tryz.prog.follows .mixedOrders=true:=by kernel_rfl
theorem wZ:kV 8 EG:=⟨⟨1,39,by kernel_rfl,by kernel_rfl,of_decide_eq_true (by kernel_rfl)⟩⟩
theorem gy:Am.Enters Tryz.prog 114:=⟨_,Tryz.func114,by kernel_rfl,by kernel_rfl⟩
theorem Wp:Am.Enters Tryz.prog 118:=⟨_,Tryz.func118,by kernel_rfl,by kernel_rfl⟩
theorem bW:Am.Enters Tryz.prog 111:=⟨_,Tryz.func111,by kernel_rfl,by kernel_rfl⟩
def zU:List (FuncId×WW):=[(114,oK),(118,RY),(111,textF)]
theorem a0g:G7 Tryz.prog (BO Tryz.prog 8 EG) (ZO (BO Tryz.prog 8 EG) (CX Tryz.prog 8 EG) zU):=jg fun x hx=>by
 simp only [zU,List.mem_cons,List.not_mem_nil,or_false] at hx
 rcases hx with rfl|rfl|rfl
 ·exact jD wZ gy
 ·exact XT Wp
 ·exact kZ wZ bW
def a0k:Go.Shelf.Ren:=⟨fun|4=>121|n=>n,fun|0=>0|3=>3|4=>4|9=>9|20=>20|22=>52|25=>3|n=>n,fun|n=>n⟩
theorem oD:Go.Proofs.Lays8.n4 Tryz.prog a0k:={
 mixed:=by kernel_rfl
 f4:=⟨"slices.Grow[[]int,int]",by decide,Tryz.func121.trans (congrArg some (by kernel_rfl))⟩
 t0:=Tryz.underlying0
 a0:=Tryz.isAgg0
 z0:=Tryz.sizeOf0
 v0:=Tryz.zeroValue0
 t3:=Tryz.underlying3
 a3:=Tryz.isAgg3
 z3:=Tryz.sizeOf3
 v3:=Tryz.zeroValue3
 t4:=Tryz.underlying4
 a4:=Tryz.isAgg4
 z4:=Tryz.sizeOf4
 v4:=Tryz.zeroValue4
 t9:=Tryz.underlying9
 a9:=Tryz.isAgg9
 z9:=Tryz.sizeOf9
 v9:=Tryz.zeroValue9
 t20:=Tryz.underlying20
 a20:=Tryz.isAgg20
 z20:=Tryz.sizeOf20
 v20:=Tryz.zeroValue20
 t22:=Tryz.underlying52
 a22:=Tryz.isAgg52
 z22:=Tryz.sizeOf52
 v22:=Tryz.zeroValue52 }
theorem qy:(match Tryz.prog.info? 3 with|some i=>decide (i.size=1)&&decide (i.bytes=8)&&(match i.zero with|some (.int .i64 n)=>decide (n=0)|_=>false)|none=>false)=true:=by kernel_rfl
theorem yJ:∃ i0,Tryz.prog.info? 3=some i0∧i0.zero=some (.int .i64 0)∧i0.size=1∧i0.bytes=8:=by
 have h:=qy
 generalize Tryz.prog.info? 3=o at *
 cases o with
 |none=>cases h
 |some i =>
  simp only [Bool.and_eq_true,decide_eq_true_eq] at h
  obtain ⟨⟨h1,h2⟩,h3⟩:=h
  refine ⟨i,rfl,?_,h1,h2⟩
  split at h3
  ·rename_i n hz
   rw [hz,of_decide_eq_true h3]
  ·cases h3
theorem kP (n:Nat) (w:World) (h0:0<n) (hn:n≤1000000):Calls Tryz.prog 121 #[.slice none 0 0,.int .i64 n] w fun r w'=>∃ cap cs,r=.returned (.slice (some ⟨w.heap.size,0,none⟩) 0 cap)∧w'.heap=w.heap.push (.cells cs 3 (0,0))∧w'.tape=w.tape∧w'.os=w.os∧w'.output=w.output∧cap*Tryz.prog.cellsOf 3≤cs.size:=by
 obtain ⟨i0,h1,h2,h3,h4⟩:=yJ
 refine (Any8.slices_Grow_grow oD i0 (.int .i64 0) h1 h2 (by omega) none 0 0 n [] w (Nat.le_refl _) (by omega) (by rw [h4];omega) (by omega) (by simp) (fun _=>rfl) (fun a ha=>by cases ha)).mono ?_
 rintro r w' ⟨rfl,rfl⟩
 refine ⟨_,_,rfl,rfl,rfl,rfl,rfl,?_⟩
 rw [EI h1,h3]
 have e:(Value.int .i64 0).cells.size=1:=rfl
 simp only [Array.size_append,Kq,e]
 omega
theorem eY:Am.Enters Tryz.prog 121:=⟨_,Tryz.func121,by kernel_rfl,by kernel_rfl⟩
noncomputable def wS:CO:=Xc 121 3 (ZO (BO Tryz.prog 8 EG) (CX Tryz.prog 8 EG) zU)
theorem a0c:G7 Tryz.prog (BO Tryz.prog 8 EG) wS:=ZF (fQ a0g eY kP) fun w=>Any8.slices_Grow_room oD none 0 0 0 w (Nat.le_refl _) (by omega) (by omega) (by omega)
theorem X0:Am.Enters Tryz.prog 81:=⟨_,Tryz.func81,by kernel_rfl,by kernel_rfl⟩
theorem qm:∀ fn,Tryz.prog.funcs[81]?=some fn→fn.ntmps=28:=fun fn h=>by
 rw [Tryz.func81] at h
 cases h
 exact Tryz.ntmps81
noncomputable def dW:CO:=zC (BO Tryz.prog 8 EG) (CX Tryz.prog 8 EG) 81 28 RJ wS
theorem a4h:G7 Tryz.prog (BO Tryz.prog 8 EG) dW:=jA a0c X0 qm kU
noncomputable abbrev env:Env:=Jo Tryz.prog 8 EG dW
theorem QJ {f:FuncId} (h:f≠81):dW f=wS f:=mO h
theorem Ue:dW 81=some (UW (BO Tryz.prog 8 EG) (CX Tryz.prog 8 EG) 28 RJ):=by unfold dW;exact nG
theorem AB {f:FuncId} (h:f∉81::121::zU.map (·.1)):env.O f=none:=by
 show dW f=none
 rw [QJ (fun e=>h (by rw [e];simp))]
 show Xc _ _ _ f=none
 rw [LH (fun e=>h (by rw [e];simp))]
 refine pR ?_
 rw [List.lookup_eq_none_iff]
 intro p hp
 by_cases e:f=p.1
 ·exact absurd (List.mem_cons_of_mem _ (List.mem_cons_of_mem _ (List.mem_map.2 ⟨p,hp,e.symm⟩))) h
 ·simpa using e
theorem uo (n:Int) (h:-9223372036854775808≤n∧n≤9223372036854775807):AY env 114 [.int .i64 n] (st (Lib.itoa n)) :=
 WI ((QJ (by decide)).trans (LH (by decide))) rfl fun m F xs h1=>by
  cases h1 with
  |cons h1 t =>
   cases t;cases h1
   exact ⟨_,by simp only [oK];rw [if_pos h],.str _⟩
theorem UL (a b:List UInt8):AY env 118 [.str (bs a),.str (bs b)] (.p (.int .i64 (Lib.compareBytes a b))) :=
 WI ((QJ (by decide)).trans (LH (by decide))) rfl fun m F xs h1=>by
  cases h1 with
  |cons h1 t =>
   cases t with
   |cons h2 t =>
    cases t;cases h1;cases h2
    exact ⟨.int .i64 (Lib.compareBytes a b),by simp only [RY,aC],.int _ _⟩
theorem iJ (l:List Nat) (hl:Num.XO l) (hn:l.length<1000000000):AY env 111 [.lst 39 (cells l) l.length] (st (Num.MV l)) :=
 WI ((QJ (by decide)).trans (LH (by decide))) rfl fun m F xs h1=>qI hl hn h1
theorem Y5:dW 121=some (MG 3):=(QJ (by decide)).trans Y1
theorem wB (n:Nat) (h0:0<n) (hn:n≤1000000):CG env 121 [.val (.slice none 0 0),.int .i64 (n:Int)] 3 [] 0 false:=by
 intro m F σ xs h1 h2
 have h2':DT m F [.val (.slice none 0 0),.int .i64 (n:Int)] xs:=DT.VG h2
 have e:xs=[.slice none 0 0,.int .i64 (n:Int)]:=by
  cases h2' with
  |cons a t =>
   cases t with
   |cons b t =>
    cases t
    cases a
    cases b
    rfl
 subst e
 obtain ⟨c1,c2,c3,c4⟩:=Oz (e:=3) (cs:=[]) (vs:=[]) 0 h1 .nil rfl
 refine Ja.lT (F:=MG 3) (m':=(BK m 3 [] 0).2) (v:=(BK m 3 [] 0).1) Y5 ?_ ⟨_,_,_,F,_,⟨rfl,rfl,rfl⟩,c1,c4,c2⟩
 simp only [MG,XK]
 rw [if_neg (by omega),if_pos (by omega)]
theorem qj:AY env 121 [.val (.slice none 0 0),.int .i64 0] (.p (.val (.slice none 0 0))):=by
 intro m F σ xs h1 h2
 have h2':DT m F [.val (.slice none 0 0),.int .i64 0] xs:=DT.VG h2
 have e:xs=[.slice none 0 0,.int .i64 0]:=by
  cases h2' with
  |cons a t =>
   cases t with
   |cons b t =>
    cases t
    cases a
    cases b
    rfl
 subst e
 exact Ja.lT (F:=MG 3) (m':=m) (v:=.slice none 0 0) Y5 (by simp only [MG];rfl) ⟨_,[],0,F,σ,⟨rfl,rfl,rfl⟩,h1,.p (.val rfl),Step.refl _ _ _ _ _⟩
end Go.Proofs.YtdabojnmoejilaaGreatDoor
namespace Go.Proofs.YtdabojnmoejilaaGreatDoor
open Go Go.Am Go.Vm
attribute [local irreducible] Aa Af Ar Ad BA AY CG AO AL Aw Vm.Done CW Bl
theorem Ym (l:List Nat) (hl:l.length<1000000):AY env 131 [.lst 39 (cells l) l.length] (lst 39 (Num.Kr l)):=by
 refine AY.enter (AB (by decide)) Tryz.func131 rfl (by kernel_rfl) (by simp [Tryz.ntmps131]) ?_
 repeat' (first|apply Ad.AA|apply Ad.Ai|apply Af.nil|apply Af.one|(apply Aa.assign;rfl))
 refine Ad.D8 (fun a:List Nat=>[(0,lst 39 a)]) (fun _=>[]) 0 (fun a=>a.length≤l.length∧Num.Kr a=Num.Kr l) (fun a=>a.length) l (Nat.le_refl _) ⟨by omega,rfl⟩ ⟨Nat.le_refl _,?_,trivial⟩ ?_
 ·repeat (first|exact Ak.nil|refine Ak.same (by exact PV.Ac rfl) rfl ?_|refine Ak.cons trivial rfl (.of_eq (Aq (by simp<;>omega))) ?_)
 rintro a ⟨ha,hr⟩
 have hlast:0<a.length→a=a.take (a.length-1)++[gi a (a.length-1)]:=fun h=>by
  conv=>lhs;rw [← List.take_append_drop (a.length-1) a]
  congr 1
  rw [List.drop_eq_getElem_cons (by omega),List.drop_eq_nil_of_le (by omega)]
  simp [gi,List.getElem?_eq_getElem (show a.length-1<a.length by omega)]
 repeat' (first|apply Ad.assoc|apply Ad.AA|apply Ad.region|apply Ad.Au|apply Ad.AX|apply AO.normal|apply AL.normal|apply AL.exit|apply Aw.exit|apply Ad.ret|apply Ad.Ih|apply Af.nil|apply Af.one|(apply Af.take;rfl;rfl)|(apply Af.drop;rfl;rfl;rfl)|(apply Af.guard;rfl;rfl)|(apply Aa.assign;rfl)|(apply Aa.move;rfl)|(apply Aa.Hr;rfl;rfl;omega)|(apply Aa.int;rfl;rfl;rfl)|(apply Aa.uy;rfl;rfl;rfl;omega;omega;rfl)|(apply Aa.load;rfl;rfl)|(apply Aa.Bz;rfl;rfl)|(apply Aa.AU;rfl;rfl)|(apply Aa.BH;rfl;rfl)|(apply Aa.uI;rfl;rfl;rfl;rfl;rfl;rfl;omega)|(apply Ad.Az;rfl)|(apply Ad.Ae;rfl)|(intro _;try (exfalso;omega)))
 ·rename_i h1 h2
  have e1:((a.length:Int)-1).toNat=a.length-1:=by omega
  have hz:gi a (a.length-1)=0:=by omega
  refine Aw.normal ⟨a.take (a.length-1),⟨by simp;omega,?_⟩,by simp;omega,⟨Nat.le_refl _,?_,trivial⟩⟩
  ·have:=hlast (by omega)
   rw [hz] at this
   rw [← hr]
   conv=>rhs;rw [this]
   rw [Num.Sm]
  ·rw [e1];repeat (first|exact Ak.nil|refine Ak.same (by exact PV.Ac rfl) rfl ?_|refine Ak.cons trivial rfl (.of_eq (Aq (by simp<;>omega))) ?_)
 ·rename_i h1 h2
  refine Done.ret rfl (.refl _) (by exact PV.Ac rfl) Ah.nil (Nat.zero_le _) (Nat.le_refl _) ⟨?_,rfl,rfl⟩
  have e:Num.Kr a=a:=by
   have:=hlast (by omega)
   conv=>lhs;rw [this]
   rw [Num.VI _ (by omega),← this]
  rw [← hr,e]
 ·rename_i h1
  refine Done.ret rfl (.refl _) (by exact PV.Ac rfl) Ah.nil (Nat.zero_le _) (Nat.le_refl _) ⟨?_,rfl,rfl⟩
  have:a=[]:=List.eq_nil_of_length_eq_zero (by omega)
  rw [← hr,this]
  rfl
theorem P9 (m n:List Nat) (hm:Num.XO m) (hn:Num.XO n) (hml:m.length<400000) (hnl:n.length<400000) :
 AY env 112 [.lst 39 (cells m) m.length,.lst 39 (cells n) n.length] (lst 39 (Num.O5 (Num.val m*Num.val n))):=by
 refine AY.enter (AB (by decide)) Tryz.func112 rfl (by kernel_rfl) (by simp [Tryz.ntmps112]) ?_
 obtain ⟨T,hT⟩:∃ T,T=m.length+n.length+1:=⟨_,rfl⟩
 repeat' (first|apply Ad.assoc|apply Ad.AA|apply Ad.Ai|apply Af.nil|apply Af.one|(apply Aa.DX T (0:Nat);rfl;rfl;rfl;rfl;rfl;omega;omega;omega;decide;decide;rfl)|(apply Aa.assign;rfl)|(apply Aa.move;rfl)|(apply Aa.Bq;rfl;rfl;omega)|(apply Aa.BH;rfl;rfl))
 refine Ad.D8 (fun a:Nat×List Nat=>[(0,lst 39 m),(1,lst 39 n),(5,.vec 0 T 0 T),(19,lst 39 m),(20,.p (.int .i64 m.length)),(21,.p (.int .i64 (a.1:Int)))]) (fun a=>[(0,.vec 39 (cells a.2) T false)]) 1
  (fun a=>a.1≤m.length∧a.2.length=T∧Num.XO a.2∧Num.val a.2=Num.val (m.take a.1)*Num.val n∧∀ j,a.1+n.length≤j→gi a.2 j=0) (fun a=>m.length-a.1) (0,List.replicate T 0) (by omega)
  ⟨by simp,by simp,Num.X5 _,by simp [Num.X8,Num.val],fun j _=>Num.Mc _ _⟩ ⟨Nat.le_refl _,?_,?_⟩ ?_
 ·repeat (first|exact Ak.nil|refine Ak.same (by exact PV.Ac rfl) rfl ?_|refine Ak.cons trivial rfl (.of_eq (Aq (by simp<;>omega))) ?_)
 ·repeat (first|exact Ah.nil|(refine Ah.cons (Aj rfl) ?_ rfl ?_ ?_;(first|exact trivial|exact AP.Ag _ _|(simp [HB.under,AP.under,PV.under]));(first|exact Bg.refl _|exact Bg.vec (Bf.refl _) (by simp))))
 rintro ⟨i,out⟩ ⟨hi,hol,hlim,hval,hzero⟩
 simp only at hi hol hlim hval hzero
 dsimp only
 by_cases hlt:i<m.length
 ·have ha:=Num.iU hm i
  repeat' (first|apply Ad.assoc|apply Ad.AA|apply Ad.Au|apply Ad.Ai|apply Af.nil|apply Af.one|(apply Aa.assign;rfl)|(apply Aa.move;rfl)|(apply Aa.int;rfl;rfl;rfl)|(apply Aa.AV;rfl;rfl;rfl;omega;rfl)|(apply Aa.load;rfl;rfl)|(apply Aa.BH;rfl;rfl)|(apply Ad.Ae;rfl)|(intro _;try (exfalso;omega)))
  refine Ad.D8 (fun a:Nat×Nat×List Nat=>[(0,lst 39 m),(1,lst 39 n),(5,.vec 0 T 0 T),(6,.p (.int .i64 (i:Int))),(7,.p (.int .u64 ((gi m i:Nat):Int))),(8,.p (.int .u64 (a.2.1:Int))),(19,lst 39 m),(20,.p (.int .i64 m.length)),(21,.p (.int .i64 (i:Int))),(26,lst 39 n),(27,.p (.int .i64 n.length)),(28,.p (.int .i64 (a.1:Int)))]) (fun a=>[(0,.vec 39 (cells a.2.2) T false)]) 1
   (fun a=>a.1≤n.length∧a.2.1<1000000000∧a.2.2.length=T∧Num.XO a.2.2∧Num.val a.2.2+a.2.1*Num.B9 ^ (i+a.1)=Num.val out+gi m i*Num.B9 ^ i*Num.val (n.take a.1)∧∀ j,i+n.length≤j→gi a.2.2 j=0) (fun a=>n.length-a.1) (0,0,out) (by omega)
   ⟨by simp,by simp,hol,hlim,by simp [Num.val],hzero⟩ ⟨Nat.le_refl _,?_,?_⟩ ?_
  ·repeat (first|exact Ak.nil|refine Ak.same (by exact PV.Ac rfl) rfl ?_|refine Ak.cons trivial rfl (.of_eq (Aq (by simp<;>omega))) ?_)
  ·repeat (first|exact Ah.nil|(refine Ah.cons (Aj rfl) ?_ rfl ?_ ?_;(first|exact trivial|exact AP.Ag _ _|(simp [HB.under,AP.under,PV.under]));(first|exact Bg.refl _|exact Bg.vec (Bf.refl _) (by simp))))
  rintro ⟨k,carry,o⟩ ⟨hk,hc,hol',hlim',hval',hzero'⟩
  simp only at hk hc hol' hlim' hval' hzero'
  dsimp only
  by_cases hlk:k<n.length
  ·have hb:=Num.iU hn k
   have ho:=Num.iU hlim' (i+k)
   have hab:gi m i*gi n k≤999999999*999999999:=Nat.mul_le_mul (by omega) (by omega)
   repeat' (first|apply Ad.AA|apply Ad.region|apply Ad.Au|apply Ad.Ai|apply AO.normal|apply AL.normal|apply Af.nil|apply Af.one|(apply Aa.D6 (y:=(gi o (i+k)+gi m i*gi n k+carry) % 1000000000);rfl;rfl;rfl;trivial;(first|rfl|(refine congrArg (fun t=>[PV.p (FV.int _ t)]) ?_;first|omega|(simp only [Int.natCast_add,Int.natCast_mul,Int.natCast_ediv,Int.natCast_emod]<;>omega)));rfl;rfl;decide;(first|omega|(simp only [List.length_set]<;>omega)))|(apply Aa.assign;rfl)|(apply Aa.move;rfl)|(apply Aa.Bq;rfl;rfl;omega)|(apply Aa.yG;rfl;rfl;omega)|(apply Aa.a1p;rfl;rfl;omega)|(apply Aa.a7c;rfl;rfl;omega)|(apply Aa.a7a;rfl;rfl;omega)|(apply Aa.int;rfl;rfl;rfl)|(apply Aa.AV;rfl;rfl;rfl;omega;rfl)|(apply Aa.Dk;rfl;rfl;omega;rfl)|(apply Aa.load;rfl;rfl)|(apply Aa.Df;rfl;rfl;rfl;rfl;omega)|(apply Ad.Ae;rfl)|(intro _;try (exfalso;omega)))
   refine Aw.normal ⟨(k+1,(gi o (i+k)+gi m i*gi n k+carry) / 1000000000,o.set (i+k) ((gi o (i+k)+gi m i*gi n k+carry) % 1000000000)),⟨by simp only;omega,?_,by simp [hol'],?_,?_,?_⟩,by simp only;omega,⟨Nat.le_refl _,?_,?_⟩⟩
   ·simp only
    apply Nat.div_lt_of_lt_mul
    omega
   ·exact Num.nJ hlim' (Nat.mod_lt _ (by decide))
   ·simp only
    rw [Num.Ph n k hlk]
    exact Num.wQ (by omega) hval'
   ·intro j hj
    simp only
    rw [Num.PG _ _ _ _ (by omega),if_neg (by omega)]
    exact hzero' j hj
   ·repeat (first|exact Ak.nil|refine Ak.same (by exact PV.Ac rfl) rfl ?_|refine Ak.cons trivial rfl (.of_eq (Aq (by simp<;>omega))) ?_)
   ·repeat (first|exact Ah.nil|(refine Ah.cons (Aj rfl) ?_ rfl ?_ ?_;(first|exact trivial|exact AP.Ag _ _|(simp [HB.under,AP.under,PV.under]));(first|exact Bg.refl _|exact Bg.vec (Bf.refl _) (by simp))))
  ·have hkn:k=n.length:=by omega
   subst hkn
   have hz:=hzero' (i+n.length) (by omega)
   repeat' (first|apply Ad.AA|apply Ad.region|apply Ad.AX|apply AO.normal|apply AL.normal|apply AL.exit|apply Aw.exit|apply Af.nil|apply Af.one|(apply Aa.D6 (y:=gi o (i+n.length)+carry);rfl;rfl;rfl;trivial;(first|rfl|(refine congrArg (fun t=>[PV.p (FV.int _ t)]) ?_;first|omega|(simp only [Int.natCast_add,Int.natCast_mul,Int.natCast_ediv,Int.natCast_emod]<;>omega)));rfl;rfl;decide;(first|omega|(simp only [List.length_set]<;>omega)))|(apply Aa.move;rfl)|(apply Aa.Bq;rfl;rfl;omega)|(apply Aa.yG;rfl;rfl;omega)|(apply Aa.int;rfl;rfl;rfl)|(apply Aa.Dk;rfl;rfl;omega;rfl)|(apply Aa.BH;rfl;rfl)|(apply Aa.Df;rfl;rfl;rfl;rfl;omega)|(apply Ad.Ae;rfl)|(intro _;try (exfalso;omega)))
   refine Aw.normal ⟨(i+1,o.set (i+n.length) (gi o (i+n.length)+carry)),⟨by simp only;omega,by simp [hol'],?_,?_,?_⟩,by simp only;omega,⟨Nat.le_refl _,?_,?_⟩⟩
   ·refine Num.nJ hlim' ?_
    rw [hz]
    simp only [Num.B9];omega
   ·simp only
    rw [Num.a0x (by omega) hz hval',hval,List.take_length,Num.Ph m i hlt,Nat.add_mul]
   ·intro j hj
    simp only at hj
    simp only
    rw [Num.PG _ _ _ _ (by omega),if_neg (by omega)]
    exact hzero' j (by omega)
   ·repeat (first|exact Ak.nil|refine Ak.same (by exact PV.Ac rfl) rfl ?_|refine Ak.cons trivial rfl (.of_eq (Aq (by simp<;>omega))) ?_)
   ·repeat (first|exact Ah.nil|(refine Ah.cons (Aj rfl) ?_ rfl ?_ ?_;(first|exact trivial|exact AP.Ag _ _|(simp [HB.under,AP.under,PV.under]));(first|exact Bg.refl _|exact Bg.vec (Bf.refl _) (by simp))))
 ·have him:i=m.length:=by omega
  subst him
  have htr:=Ym out (by omega)
  rw [hol] at htr
  repeat' (first|(refine Ad.at 14 ?_;refine Ad.ghost (A8.freeze 5 rfl rfl) ?_;first|apply Ad.AA|apply Ad.BI)|apply Ad.AA|apply Ad.AX|apply AO.normal|apply AL.exit|apply Aw.exit|apply Ad.ret|apply Af.nil|apply Af.one|(apply Aa.fn;rfl;rfl;exact htr;intro _;rfl)|(apply Aa.assign;rfl)|(apply Aa.move;rfl)|(apply Aa.int;rfl;rfl;rfl)|(apply Ad.Ae;rfl)|(intro _;try (exfalso;omega)))
  ·refine Done.ret rfl (.refl _) (by exact PV.Ac rfl) Ah.nil (Nat.zero_le _) (Nat.le_refl _) ⟨?_,rfl,rfl⟩
   rw [Num.dV hlim,hval,List.take_length]
end Go.Proofs.YtdabojnmoejilaaGreatDoor
namespace Go.Proofs.YtdabojnmoejilaaGreatDoor
open Go Go.Am Go.Vm
attribute [local irreducible] Aa Af Ar Ad BA AY CG AO AL Aw Vm.Done CW Bl
theorem gJ {l:List UInt8} {p:UInt8→Prop} (h:∀ c∈l,p c) (i:Nat) (hi:i<l.length):p (gi l i):=by
 simp only [gi,List.getElem?_eq_getElem hi,Option.getD_some];exact h _ (List.getElem_mem _)
theorem rE (n:Nat) (hn:Lib.nDigits n<900000):AY env 125 [.str (bs (Lib.decDigits n))] (lst 39 (Num.O5 n)):=by
 refine AY.enter (AB (by decide)) Tryz.func125 rfl (by kernel_rfl) (by simp [Tryz.ntmps125]) ?_
 obtain ⟨d,hd⟩:∃ d,d=Lib.decDigits n:=⟨_,rfl⟩
 obtain ⟨K,hK⟩:∃ K,K=Lib.nDigits n:=⟨_,rfl⟩
 have hdl:d.length=K:=by rw [hd,hK,Lib.decDigits_length]
 have hdD:d=Num.D K n:=by rw [hd,hK,Num.Em]
 rw [← hd]
 repeat' (first|apply Ad.assoc|apply Ad.AA|apply Ad.Ai|apply Af.nil|apply Af.one|(apply Aa.assign;rfl)|(apply Aa.move;rfl)|(apply Aa.KA;rfl;rfl))
 refine Ad.ghost (A8.adopt 3 39 rfl) ?_
 refine Ad.D8 (fun k:Nat=>[(0,st d),(3,.vec 0 (Num.limbs n k).length 0 (Num.limbs n k).length),(4,.p (.int .i64 ((K:Int)-9*(k:Int))))]) (fun k=>[(0,.vec 39 (cells (Num.limbs n k)) (Num.limbs n k).length true)]) 1 (fun k=>9*k<K+9) (fun k=>K+9-9*k) 0 (by omega) (by omega) ⟨Nat.le_refl _,?_,?_⟩ ?_
 ·rw [← hdl];refine Ak.cons trivial rfl (.refl _) ?_;repeat (first|exact Ak.nil|refine Ak.same (by exact PV.Ac rfl) rfl ?_|refine Ak.cons trivial rfl (.of_eq (Aq (by simp<;>omega))) ?_)
 ·exact Ah.cons (by decide) trivial rfl (.refl _) Ah.nil
 intro k hk
 have hll:=Num.Ld n k
 by_cases hlt:9*k<K
 ·obtain ⟨e,he⟩:∃ e,e=K-9*k:=⟨_,rfl⟩
  obtain ⟨c,hc⟩:∃ c,c=min 9 e:=⟨_,rfl⟩
  obtain ⟨p,hp⟩:∃ p,p=Num.D c (n / 10 ^ (9*k)):=⟨_,rfl⟩
  have hpl:p.length=c:=by rw [hp,Num.Ee]
  have hpc:List.drop (max ((K:Int)-9*(k:Int)-9) 0).toNat (List.take ((K:Int)-9*(k:Int)).toNat d)=p:=by
   rw [show ((K:Int)-9*(k:Int)).toNat=e by omega,show (max ((K:Int)-9*(k:Int)-9) 0).toNat=e-c by omega,hdD,Num.dL K n e c (by omega) (by omega),hp]
   rw [show K-e=9*k by omega]
  have a3o:Num.parse p=Num.Zp n k:=by
   rw [hp,Num.RI]
   unfold Num.Zp
   rw [show Num.B9 ^ k=10 ^ (9*k) by rw [Nat.pow_mul]]
   by_cases h9:c=9
   ·rw [h9]
   ·have hlt2:n / 10 ^ (9*k)<10 ^ c:=by
     apply Nat.div_lt_of_lt_mul
     rw [← Nat.pow_add,show 9*k+c=K by omega,hK]
     exact Lib.lt_pow_nDigits n
    have hle:10 ^ c≤Num.B9:=by
     have:10 ^ c≤10 ^ 9:=Nat.pow_le_pow_right (by decide) (by omega)
     exact this
    rw [Nat.mod_eq_of_lt hlt2,Nat.mod_eq_of_lt (by omega)]
  have hdig:∀ i,i<p.length→48≤(gi p i).toNat∧(gi p i).toNat≤57:=fun i hi=>gJ (p:=fun c=>48≤c.toNat∧c.toNat≤57) (by rw [hp];exact Num.Zh _ _) i hi
  have hpv:∀ j,j≤p.length→Num.parse (p.take j)<1000000000:=fun j hj=>by
   have h1:=Num.iG (p.take j) (fun c hc=>by
    have hm:=List.mem_of_mem_take hc
    rw [hp] at hm
    exact Num.Zh _ _ c hm)
   rw [List.length_take,Nat.min_eq_left hj] at h1
   have h2:10 ^ j≤10 ^ 9:=Nat.pow_le_pow_right (by decide) (by omega)
   exact Nat.lt_of_lt_of_le h1 h2
  repeat' (first|apply Ad.assoc|apply Ad.AA|apply Ad.Au|apply Ad.Ai|apply Af.nil|apply Af.one|(rw [hpc])|(apply Aa.assign;rfl)|(apply Aa.move;rfl)|(apply Aa.Hr;rfl;rfl;omega)|(apply Aa.int;rfl;rfl;rfl)|(apply Aa.lenV;rfl;rfl;rfl)|(apply Aa.a0q;rfl;rfl;rfl;rfl;omega)|(apply Aa.nM;rfl;rfl;rfl;rfl;rfl;rfl;omega)|(apply Aa.qM;rfl;rfl)|(apply Ad.Ae;rfl)|(intro _;try (exfalso;omega)))
  refine Ad.D8 (fun j:Nat=>[(0,st d),(3,.vec 0 (Num.limbs n k).length 0 (Num.limbs n k).length),(4,.p (.int .i64 ((K:Int)-9*(k:Int)))),(5,.p (.int .u64 ((Num.parse (p.take j):Nat):Int))),(20,.vec 1 p.length 0 p.length),(21,.p (.int .i64 p.length)),(22,.p (.int .i64 (j:Int)))])
   (fun _=>[(1,.vec 5 (cells p) p.length false),(0,.vec 39 (cells (Num.limbs n k)) (Num.limbs n k).length true)]) 2 (fun j=>j≤p.length) (fun j=>p.length-j) 0 (by omega) (by omega) ⟨Nat.le_refl _,?_,?_⟩ ?_
  ·repeat (first|exact Ak.nil|refine Ak.same (by exact PV.Ac rfl) rfl ?_|refine Ak.cons trivial rfl (.of_eq (Aq (by simp<;>omega))) ?_)
  ·repeat (first|exact Ah.nil|(refine Ah.cons (Aj rfl) ?_ rfl ?_ ?_;(first|exact trivial|exact AP.Ag _ _|(simp [HB.under,AP.under,PV.under]));(first|exact Bg.refl _|exact Bg.vec (Bf.refl _) (by simp))))
  intro j hj
  have hv:=hpv j hj
  by_cases hlj:j<p.length
  ·have hd2:=hdig j hlj
   repeat' (first|apply Ad.AA|apply Ad.region|apply Ad.Au|apply Ad.Ai|apply AO.normal|apply AL.normal|apply Af.nil|apply Af.one|(apply Aa.assign;rfl)|(apply Aa.move;rfl)|(apply Aa.Bq;rfl;rfl;omega)|(apply Aa.a1h (c:=48);rfl;rfl;omega)|(apply Aa.yG;rfl;rfl;omega)|(apply Aa.a1p (a:=10);rfl;rfl;omega)|(apply Aa.int;rfl;rfl;rfl)|(apply Aa.Dk;rfl;rfl;omega;rfl)|(apply Aa.Df;rfl;rfl;rfl;rfl;omega)|(apply Aa.LK;rfl;rfl;rfl;rfl;omega)|(apply Ad.Ae;rfl)|(intro _;try (exfalso;omega)))
   refine Aw.normal ⟨j+1,by omega,by omega,⟨by omega,?_,?_⟩⟩
   ·rw [Num.parse_snoc' p j hlj];repeat (first|exact Ak.nil|refine Ak.same (by exact PV.Ac rfl) rfl ?_|refine Ak.cons trivial rfl (.of_eq (Aq (by simp<;>omega))) ?_)
   ·repeat (first|exact Ah.nil|(refine Ah.cons (Aj rfl) ?_ rfl ?_ ?_;(first|exact trivial|exact AP.Ag _ _|(simp [HB.under,AP.under,PV.under]));(first|exact Bg.refl _|exact Bg.vec (Bf.refl _) (by simp))))
  ·have hjp:j=p.length:=by omega
   subst hjp
   repeat' (first|apply Ad.AA|apply Ad.region|apply Ad.AX|apply AO.normal|apply AL.normal|apply AL.exit|apply Aw.exit|apply Af.nil|apply Af.one|(apply Aa.Dv (a:=(Num.parse (p.take p.length)));rfl;rfl;rfl;rfl;rfl;rfl;rfl;rfl;(intro _ h;cases h);rfl;rfl;rfl;decide;decide;(first|omega|(simp only [List.length_take,List.length_drop,List.length_append,List.length_singleton,List.length_cons,List.length_nil]<;>omega)))|(apply Aa.assign;rfl)|(apply Aa.move;rfl)|(apply Aa.Hr;rfl;rfl;omega)|(apply Aa.int;rfl;rfl;rfl)|(apply Aa.buildSlice;rfl;rfl;rfl;decide;rfl;rfl;rfl)|(apply Ad.Ae;rfl)|(intro _;try (exfalso;omega)))
   have e1:Num.limbs n k++[Num.parse (p.take p.length)]=Num.limbs n (k+1):=by rw [List.take_length,a3o,Num.limbs]
   have e2:(Num.limbs n (k+1)).length=(Num.limbs n k).length+1:=by rw [Num.Ld,Num.Ld]
   refine Aw.normal ⟨k+1,by omega,by omega,⟨by omega,?_,?_⟩⟩
   ·rw [e2,show (K:Int)-9*((k+1:Nat):Int)=(K:Int)-9*(k:Int)-9 by omega];repeat (first|exact Ak.nil|refine Ak.same (by exact PV.Ac rfl) rfl ?_|refine Ak.cons trivial rfl (.of_eq (Aq (by simp<;>omega))) ?_)
   ·rw [e2,← e1];repeat (first|exact Ah.nil|(refine Ah.cons (Aj rfl) ?_ rfl ?_ ?_;(first|exact trivial|exact AP.Ag _ _|(simp [HB.under,AP.under,PV.under]));(first|exact Bg.refl _|exact Bg.vec (Bf.refl _) (by simp))))
 ·have htr:=Ym (Num.limbs n k) (by omega)
  repeat' (first|(refine Ad.at 12 ?_;refine Ad.ghost (A8.freeze 3 rfl rfl) ?_;first|apply Ad.AA|apply Ad.BI)|apply Ad.assoc|apply Ad.AA|apply Ad.AX|apply AO.normal|apply AL.exit|apply Aw.exit|apply Ad.ret|apply Af.nil|apply Af.one|(apply Aa.fn;rfl;rfl;exact htr;intro _;rfl)|(apply Aa.assign;rfl)|(apply Aa.move;rfl)|(apply Aa.int;rfl;rfl;rfl)|(apply Ad.Ae;rfl)|(intro _;try (exfalso;omega)))
  ·refine Done.ret rfl (.refl _) (by exact PV.Ac rfl) Ah.nil (Nat.zero_le _) (Nat.le_refl _) ⟨?_,rfl,rfl⟩
   rw [Num.jV]
   rw [show Num.B9 ^ k=10 ^ (9*k) by rw [Nat.pow_mul]]
   exact Nat.lt_of_lt_of_le (Lib.lt_pow_nDigits n) (Nat.pow_le_pow_right (by decide) (by omega))
end Go.Proofs.YtdabojnmoejilaaGreatDoor
namespace Go.Proofs.YtdabojnmoejilaaGreatDoor
open Go Go.Am Go.Vm
attribute [local irreducible] Aa Af Ar Ad BA AY CG AO AL Aw Vm.Done CW Bl
theorem sU {L:Vm.Frame} {H:Vm.Heap} {nx:Nat} {Q:PV→Vm.Heap→Nat→Prop} {dst:Option Tmp} {ty:TypeId} {pos:String} {af:Array Edge} {gd:Option (Nat×Bool)} {fo:Operand} {args:Array Operand} {aT:Array TypeId} {fs cs xs:List PV} {c:Code}
 (hf:BD env.Γ L fo=some (.clo 134 fs cs)) (ha:evs env.Γ L args.toList=some xs) (hb:Tryz.f134.body=some c) (hn:(fs++xs++cs).length≤Tryz.f134.ntmps)
 (h:Ad env nx c (CS 0 (fs++xs++cs)) H nx (Bl env.P Tryz.f134.results.toList Q)):Aa env true ⟨dst,.call { callee:=.value fo,args:=args,argTypes:=aT },ty,pos,af,gd⟩ L H nx Q:=by
 have h0:(match Tryz.f134.body with|some c=>Hy env.G Tryz.f134 c|none=>false)=true:=by kernel_rfl
 rw [hb] at h0
 exact Aa.inline rfl hf ha (AB (by decide)) Tryz.func134 hb h0 hn h
theorem yA {L:Vm.Frame} {H:Vm.Heap} {nx:Nat} {Q:PV→Vm.Heap→Nat→Prop} {dst:Option Tmp} {ty:TypeId} {pos:String} {af:Array Edge} {gd:Option (Nat×Bool)} {fo:Operand} {args:Array Operand} {aT:Array TypeId} {fs cs xs:List PV} {c:Code}
 (hf:BD env.Γ L fo=some (.clo 133 fs cs)) (ha:evs env.Γ L args.toList=some xs) (hb:Tryz.f133.body=some c) (hn:(fs++xs++cs).length≤Tryz.f133.ntmps)
 (h:Ad env nx c (CS 0 (fs++xs++cs)) H nx (Bl env.P Tryz.f133.results.toList Q)):Aa env true ⟨dst,.call { callee:=.value fo,args:=args,argTypes:=aT },ty,pos,af,gd⟩ L H nx Q:=by
 have h0:(match Tryz.f133.body with|some c=>Hy env.G Tryz.f133 c|none=>false)=true:=by kernel_rfl
 rw [hb] at h0
 exact Aa.inline rfl hf ha (AB (by decide)) Tryz.func133 hb h0 hn h
theorem dO {L:Vm.Frame} {H:Vm.Heap} {nx:Nat} {Q:PV→Vm.Heap→Nat→Prop} {dst:Option Tmp} {ty:TypeId} {pos:String} {af:Array Edge} {gd:Option (Nat×Bool)} {fo:Operand} {args:Array Operand} {aT:Array TypeId} {fs cs xs:List PV} {c:Code}
 (hf:BD env.Γ L fo=some (.clo 143 fs cs)) (ha:evs env.Γ L args.toList=some xs) (hb:Tryz.f143.body=some c) (hn:(fs++xs++cs).length≤Tryz.f143.ntmps)
 (h:Ad env nx c (CS 0 (fs++xs++cs)) H nx (Bl env.P Tryz.f143.results.toList Q)):Aa env true ⟨dst,.call { callee:=.value fo,args:=args,argTypes:=aT },ty,pos,af,gd⟩ L H nx Q:=by
 have h0:(match Tryz.f143.body with|some c=>Hy env.G Tryz.f143 c|none=>false)=true:=by kernel_rfl
 rw [hb] at h0
 exact Aa.inline rfl hf ha (AB (by decide)) Tryz.func143 hb h0 hn h
theorem bK (n:Nat):¬ (List.take 1 (Lib.decDigits n)=[45]):=fun h=>by
 have h1:=Num.Jb n 45 (List.mem_of_mem_take (by rw [h];simp))
 have:(45:UInt8).toNat=45:=rfl
 omega
theorem nD (n:Nat):0<(Lib.decDigits n).length:=by rw [Lib.decDigits_length];exact Lib.nDigits_pos n
theorem a0z {a b:Nat} (h:Lib.decDigits a=Lib.decDigits b):a=b:=by
 have h1:Lib.nDigits a=Lib.nDigits b:=by rw [← Lib.decDigits_length,← Lib.decDigits_length,h]
 rw [Num.Em,Num.Em,h1] at h
 have:=congrArg Num.parse h
 rw [Num.RI,Num.RI,Nat.mod_eq_of_lt (by rw [← h1];exact Lib.lt_pow_nDigits a),Nat.mod_eq_of_lt (Lib.lt_pow_nDigits b)] at this
 exact this
theorem vV (a:Nat):Lib.decDigits a=[48]↔a=0:=by
 have:Lib.decDigits 0=[48]:=by rw [Lib.decDigits_one (by decide)];rfl
 rw [← this]
 exact ⟨a0z,fun h=>by rw [h]⟩
theorem qF (n:Nat):Num.parse (Lib.decDigits n)=n:=by
 rw [Num.Em,Num.RI,Nat.mod_eq_of_lt (Lib.lt_pow_nDigits n)]
theorem wP (n:Nat):AY env 117 [.str (bs (Lib.decDigits n)),.str (bs [45])] (.EP [st (Lib.decDigits n),.p (.bool false)]):=by
 refine AY.enter (AB (by decide)) Tryz.func117 rfl (by kernel_rfl) (by simp [Tryz.ntmps117]) ?_
 have h1:=bK n
 have h2:=nD n
 repeat' (first|apply Ad.assoc|apply Ad.AA|apply Ad.Au|apply Ad.BL|(apply Bl.ret;rfl)|apply Ad.ret|apply Af.nil|apply Af.one|(apply Af.take;rfl;rfl)|(apply Af.drop;rfl;rfl;rfl)|(apply Af.guard;rfl;rfl)|(apply sU;rfl;rfl;rfl;exact le_dec rfl)|(apply dO;rfl;rfl;rfl;exact le_dec rfl)|(apply Aa.assign;rfl)|(apply Aa.move;rfl)|(apply Aa.int;rfl;rfl;rfl)|(apply Aa.Bz;rfl;rfl)|(apply Aa.AU;rfl;rfl)|(apply Aa.KA;rfl;rfl)|(apply Aa.eqS;rfl;rfl)|(apply Aa.gu;rfl;rfl;rfl;omega)|(apply Aa.jU;rfl;rfl;rfl;omega)|(apply Aa.not;rfl)|(apply Aa.extract;rfl;rfl)|(apply Ad.Bh;rfl)|(apply Ad.QC;rfl)|(intro _;try (exfalso;omega)))
 ·refine Done.ret rfl (.refl _) (by exact PV.Ac rfl) Ah.nil (Nat.zero_le _) (Nat.le_refl _) ⟨?_,rfl,rfl⟩
  rfl
 ·exfalso;simp_all
 ·exfalso;simp_all;omega
theorem cut_spec' (n:Nat):AY env 117 [.str (bs (Lib.decDigits n)),.str ⟨#[45]⟩] (.EP [st (Lib.decDigits n),.p (.bool false)]):=wP n
theorem Qk (n:Nat) (hn:Lib.nDigits n<900000):AY env 110 [.str (bs (Lib.decDigits n))] (.EP [lst 39 (Num.O5 n),.p (.bool false)]):=by
 refine AY.enter (AB (by decide)) Tryz.func110 rfl (by kernel_rfl) (by simp [Tryz.ntmps110]) ?_
 repeat' (first|apply Ad.AA|apply Ad.ret|apply Af.nil|apply Af.one|(apply Aa.fn;rfl;rfl;exact cut_spec' n;intro _;rfl)|(apply Aa.fn;rfl;rfl;exact rE n hn;intro _;rfl)|(apply Aa.assign;rfl)|(apply Aa.move;rfl)|(apply Aa.extract;rfl;rfl))
 ·refine Done.ret rfl (.refl _) (by exact PV.Ac rfl) Ah.nil (Nat.zero_le _) (Nat.le_refl _) ⟨?_,rfl,rfl⟩
  rfl
theorem Ug (n:Nat) (hn:(Num.O5 n).length<1000000):AY env 113 [.lst 39 (cells (Num.O5 n)) (Num.O5 n).length,.bool false] (st (Lib.decDigits n)):=by
 refine AY.enter (AB (by decide)) Tryz.func113 rfl (by kernel_rfl) (by simp [Tryz.ntmps113]) ?_
 have ht:=iJ (Num.O5 n) (Num.Kw n) (by omega)
 rw [Num.Yl] at ht
 repeat' (first|apply Ad.assoc|apply Ad.AA|apply Ad.Au|apply Ad.ret|apply Af.nil|apply Af.one|(apply Af.drop;rfl;rfl;rfl)|(apply Aa.fn;rfl;rfl;exact ht;intro _;rfl)|(apply Aa.assign;rfl)|(apply Aa.move;rfl)|(apply Aa.AU;rfl;rfl)|(apply Ad.Az;rfl))
 ·refine Done.ret rfl (.refl _) (by exact PV.Ac rfl) Ah.nil (Nat.zero_le _) (Nat.le_refl _) ⟨?_,rfl,rfl⟩
  rfl
theorem ZW (n:Int) (h:-9223372036854775808≤n∧n≤9223372036854775807):AY env 97 [.int .i64 n] (st (Lib.itoa n)):=by
 refine AY.enter (AB (by decide)) Tryz.func97 rfl (by kernel_rfl) (by simp [Tryz.ntmps97]) ?_
 repeat' (first|apply Ad.AA|apply Ad.ret|apply Af.nil|apply Af.one|(apply Aa.fn;rfl;rfl;exact uo n h;intro _;rfl)|(apply Aa.assign;rfl)|(apply Aa.move;rfl))
 ·refine Done.ret rfl (.refl _) (by exact PV.Ac rfl) Ah.nil (Nat.zero_le _) (Nat.le_refl _) ⟨?_,rfl,rfl⟩
  rfl
theorem dY (n:Nat):Lib.itoa (n:Int)=Lib.decDigits n:=by simp [Lib.itoa]
theorem Xf (n g:Nat) (hg:g≤18):AY env 115 [.str (bs (Lib.decDigits n)),.int .i64 (g:Int)] (.EP [.p (.int .i64 ((if Lib.nDigits n≤g then n else 0:Nat):Int)),.p (.bool (decide (Lib.nDigits n≤g)))]):=by
 refine AY.enter (AB (by decide)) Tryz.func115 rfl (by kernel_rfl) (by simp [Tryz.ntmps115]) ?_
 have hl:=Lib.decDigits_length n
 by_cases hng:Lib.nDigits n≤g
 ·rw [if_pos hng,decide_eq_true hng]
  obtain ⟨d,hd⟩:∃ d,d=Lib.decDigits n:=⟨_,rfl⟩
  have hc:=cut_spec' n
  rw [← hd] at hl hc ⊢
  have hdig:∀ i,i<d.length→48≤(gi d i).toNat∧(gi d i).toNat≤57:=fun i hi=>gJ (p:=fun c=>48≤c.toNat∧c.toNat≤57) (by rw [hd];exact Num.Jb n) i hi
  have hpv:∀ j,j≤d.length→Num.parse (d.take j)<1000000000000000000:=fun j hj=>by
   have h1:=Num.iG (d.take j) (fun c hc=>by
    have hm:=List.mem_of_mem_take hc
    rw [hd] at hm
    exact Num.Jb n c hm)
   rw [List.length_take,Nat.min_eq_left hj] at h1
   have h2:10 ^ j≤10 ^ 18:=Nat.pow_le_pow_right (by decide) (by omega)
   exact Nat.lt_of_lt_of_le h1 h2
  repeat' (first|apply Ad.assoc|apply Ad.AA|apply Ad.Au|apply Ad.Ai|apply Af.nil|apply Af.one|(apply Aa.fn;rfl;rfl;exact hc;intro _;rfl)|(apply Aa.assign;rfl)|(apply Aa.move;rfl)|(apply Aa.int;rfl;rfl;rfl)|(apply Aa.lenV;rfl;rfl;rfl)|(apply Aa.KA;rfl;rfl)|(apply Aa.nM;rfl;rfl;rfl;rfl;rfl;rfl;omega)|(apply Aa.extract;rfl;rfl)|(apply Ad.Ae;rfl)|(intro _;try (exfalso;omega)))
  refine Ad.D8 (fun j:Nat=>[(7,.p (.bool false)),(8,.p (.int .i64 ((Num.parse (d.take j):Nat):Int))),(21,.vec 0 d.length 0 d.length),(22,.p (.int .i64 d.length)),(23,.p (.int .i64 (j:Int)))])
   (fun _=>[(0,.vec 5 (cells d) d.length false)]) 1 (fun j=>j≤d.length) (fun j=>d.length-j) 0 (by omega) (by omega) ⟨Nat.le_refl _,?_,?_⟩ ?_
  ·repeat (first|exact Ak.nil|refine Ak.same (by exact PV.Ac rfl) rfl ?_|refine Ak.cons trivial rfl (.of_eq (Aq (by simp<;>omega))) ?_)
  ·repeat (first|exact Ah.nil|(refine Ah.cons (Aj rfl) ?_ rfl ?_ ?_;(first|exact trivial|exact AP.Ag _ _|(simp [HB.under,AP.under,PV.under]));(first|exact Bg.refl _|exact Bg.vec (Bf.refl _) (by simp))))
  intro j hj
  have hv:=hpv j hj
  by_cases hlj:j<d.length
  ·have hd2:=hdig j hlj
   have hv2:=hpv (j+1) hlj
   rw [Num.parse_snoc' d j hlj] at hv2
   repeat' (first|apply Ad.AA|apply Ad.region|apply Ad.Au|apply Ad.Ai|apply AO.normal|apply AL.normal|apply Af.nil|apply Af.one|(apply Aa.assign;rfl)|(apply Aa.move;rfl)|(apply Aa.Bq;rfl;rfl;omega)|(apply Aa.KE;rfl;rfl;omega)|(apply Aa.a1h (c:=48);rfl;rfl;omega)|(apply Aa.int;rfl;rfl;rfl)|(apply Aa.Dk;rfl;rfl;omega;rfl)|(apply Aa.Df;rfl;rfl;rfl;rfl;omega)|(apply Aa.Jf;rfl;rfl;rfl;rfl;omega)|(apply Ad.Ae;rfl)|(intro _;try (exfalso;omega)))
   refine Aw.normal ⟨j+1,by omega,by omega,⟨by omega,?_,?_⟩⟩
   ·rw [Num.parse_snoc' d j hlj,Int.natCast_add,Int.natCast_mul];repeat (first|exact Ak.nil|refine Ak.same (by exact PV.Ac rfl) rfl ?_|refine Ak.cons trivial rfl (.of_eq (Aq (by simp<;>omega))) ?_)
   ·repeat (first|exact Ah.nil|(refine Ah.cons (Aj rfl) ?_ rfl ?_ ?_;(first|exact trivial|exact AP.Ag _ _|(simp [HB.under,AP.under,PV.under]));(first|exact Bg.refl _|exact Bg.vec (Bf.refl _) (by simp))))
  ·have hjp:j=d.length:=by omega
   subst hjp
   repeat' (first|apply Ad.assoc|apply Ad.AA|apply Ad.Au|apply Ad.AX|apply AO.normal|apply AL.exit|apply Aw.exit|apply Ad.ret|apply Af.nil|apply Af.one|(apply Aa.assign;rfl)|(apply Aa.move;rfl)|(apply Aa.int;rfl;rfl;rfl)|(apply Ad.Az;rfl)|(apply Ad.Ae;rfl)|(intro _;try (exfalso;omega)))
   ·refine Done.ret rfl (.refl _) (by exact PV.Ac rfl) Ah.nil (Nat.zero_le _) (Nat.le_refl _) ⟨?_,rfl,rfl⟩
    rw [List.take_length,hd,qF]
 ·rw [if_neg hng,decide_eq_false hng]
  repeat' (first|apply Ad.assoc|apply Ad.AA|apply Ad.BL|apply Af.nil|apply Af.one|(apply Aa.fn;rfl;rfl;exact cut_spec' n;intro _;rfl)|(apply Aa.assign;rfl)|(apply Aa.move;rfl)|(apply Aa.int;rfl;rfl;rfl)|(apply Aa.KA;rfl;rfl)|(apply Aa.extract;rfl;rfl)|(apply Ad.Ae;rfl)|(intro _;try (exfalso;omega)))
  ·refine Done.ret rfl (.refl _) (by exact PV.Ac rfl) Ah.nil (Nat.zero_le _) (Nat.le_refl _) ⟨?_,rfl,rfl⟩
   rfl
end Go.Proofs.YtdabojnmoejilaaGreatDoor
namespace Go.Proofs.YtdabojnmoejilaaGreatDoor
open Go Go.Am Go.Vm
attribute [local irreducible] Aa Af Ar Ad BA AY CG AO AL Aw Vm.Done CW Bl
theorem Lm {x K:Nat} (h:x<10 ^ K) (hK:K<900000):(Num.O5 x).length<200000:=by
 have h1:x<Num.B9 ^ (K / 9+1):=by
  refine Nat.lt_of_lt_of_le h ?_
  rw [show Num.B9 ^ (K / 9+1)=10 ^ (9*(K / 9+1)) by rw [Nat.pow_mul]]
  exact Nat.pow_le_pow_right (by decide) (by omega)
 have:=Num.jM x (K / 9+1) h1
 omega
theorem y5 (e i:Nat):e &&& 2 ^ i=if e / 2 ^ i % 2=1 then 2 ^ i else 0:=by
 apply Nat.eq_of_testBit_eq
 intro j
 have hi:e.testBit i=decide (e / 2 ^ i % 2=1):=Nat.testBit_eq_decide_div_mod_eq
 rw [Nat.testBit_and,Nat.testBit_two_pow]
 by_cases hij:i=j
 ·subst hij
  rw [hi]
  by_cases h:e / 2 ^ i % 2=1
  ·rw [if_pos h,Nat.testBit_two_pow];simp [h]
  ·rw [if_neg h];simp [h]
 ·by_cases h:e / 2 ^ i % 2=1
  ·rw [if_pos h,Nat.testBit_two_pow];simp [hij]
  ·rw [if_neg h];simp [hij]
theorem WZ (n e:Nat) (he:e≤6000) (hne:e*Lib.nDigits n≤24000) (hn:Lib.nDigits n<100000):AY env 96 [.str (bs (Lib.decDigits n)),.int .i64 (e:Int)] (.EP [st (Lib.decDigits (n ^ e)),.p (.int .i64 0)]):=by
 refine AY.enter (AB (by decide)) Tryz.func96 rfl (by kernel_rfl) (by simp [Tryz.ntmps96]) ?_
 have hlt:=Lib.lt_pow_nDigits n
 have hnl:=Lm hlt (by omega)
 obtain ⟨K,hK⟩:∃ K:Nat,K=24000:=⟨_,rfl⟩
 rw [← hK] at hne
 have jv:∀ k,k≤e→(Num.O5 (n ^ k)).length<200000:=fun k hk=>by
  refine Lm (K:=K) ?_ (by omega)
  have h1:n ^ k≤(10 ^ Lib.nDigits n) ^ k:=Nat.pow_le_pow_left (Nat.le_of_lt hlt) k
  rw [← Nat.pow_mul] at h1
  rcases Nat.eq_zero_or_pos k with h0|h0
  ·rw [h0,Nat.pow_zero];exact Nat.one_lt_pow (by omega) (by decide)
  ·have h2:n ^ k<(10 ^ Lib.nDigits n) ^ k:=Nat.pow_lt_pow_left hlt (by omega)
   rw [← Nat.pow_mul] at h2
   refine Nat.lt_of_lt_of_le h2 (Nat.pow_le_pow_right (by decide) ?_)
   have:=Nat.mul_le_mul_left (Lib.nDigits n) hk
   rw [Nat.mul_comm (Lib.nDigits n) e] at this
   omega
 have htx:=iJ (Num.O5 n) (Num.Kw n) (by omega)
 rw [Num.Yl] at htx
 have hdl:=Lib.decDigits_length n
 have hmul:(e:Int)*((Lib.decDigits n).length:Int)≤24000:=by rw [hK] at hne;rw [hdl];exact_mod_cast hne
 have b1d:(0:Int)≤(e:Int)*((Lib.decDigits n).length:Int):=by rw [hdl,← Int.natCast_mul];omega
 repeat' (first|apply Ad.assoc|apply Ad.AA|apply Ad.Au|apply Ad.Ai|apply Af.nil|apply Af.one|(apply Af.take;rfl;rfl)|(apply Aa.fn;rfl;rfl;exact Qk n (by omega);intro _;rfl)|(apply Aa.fn;rfl;rfl;exact htx;intro _;rfl)|(apply Aa.assign;rfl)|(apply Aa.move;rfl)|(apply Aa.KE;rfl;rfl;omega)|(apply Aa.int;rfl;rfl;rfl)|(apply Aa.AU;rfl;rfl)|(apply Aa.buildSlice;rfl;rfl;rfl;decide;rfl;rfl;rfl)|(apply Aa.KA;rfl;rfl)|(apply Aa.extract;rfl;rfl)|(apply Ad.Ae;rfl)|(intro _;try (exfalso;omega)))
 refine Ad.ghost (A8.freeze 8 rfl rfl) ?_
 have one:Num.O5 1=[1]:=by rw [Num.MC (by decide),show 1 / Num.B9=0 by decide,Num.Ie];rfl
 have e14:e / 2 ^ 14=0:=Nat.div_eq_of_lt (by omega)
 refine Ad.D8 (fun b:Nat=>[(1,.p (.int .i64 (e:Int))),(6,lst 39 (Num.O5 n)),(7,.p (.bool false)),(8,lst 39 (Num.O5 (n ^ (e / 2 ^ b)))),(9,.p (.int .i64 ((2 ^ b / 2:Nat):Int)))]) (fun _=>[]) 1 (fun b=>b≤14) (fun b=>b) 14 (by omega) (by omega) ⟨Nat.le_refl _,?_,?_⟩ ?_
 ·rw [e14,Nat.pow_zero,one];repeat (first|exact Ak.nil|refine Ak.same (by exact PV.Ac rfl) rfl ?_|refine Ak.cons trivial rfl (.of_eq (Aq (by simp<;>omega))) ?_)
 ·exact Ah.nil
 intro b hb
 rcases Nat.eq_zero_or_pos b with hb0|hb0
 ·subst hb0
  have hlen:=jv e (Nat.le_refl _)
  have hs:=Ug (n ^ e) (by omega)
  rw [Nat.pow_zero,Nat.div_one]
  repeat' (first|apply Ad.assoc|apply Ad.AA|apply Ad.AX|apply AO.normal|apply AL.exit|apply Aw.exit|apply Ad.ret|apply Af.nil|apply Af.one|(apply Af.drop;rfl;rfl;rfl)|(apply Aa.fn;rfl;rfl;exact hs;intro _;rfl)|(apply Aa.assign;rfl)|(apply Aa.move;rfl)|(apply Aa.int;rfl;rfl;rfl)|(apply Aa.AU;rfl;rfl)|(apply Ad.Az;rfl))
  ·(refine Done.ret rfl (.refl _) (by exact PV.Ac rfl) Ah.nil (Nat.zero_le _) (Nat.le_refl _) ⟨?_,rfl,rfl⟩;try rfl)
 ·obtain ⟨i,rfl⟩:∃ i,b=i+1:=⟨b-1,by omega⟩
  have hp1:2 ^ (i+1) / 2=2 ^ i:=by rw [Nat.pow_succ,Nat.mul_div_cancel _ (by decide)]
  have hp0:0<2 ^ i:=Nat.pow_pos (by decide)
  have b2k:2 ^ i≤2 ^ 13:=Nat.pow_le_pow_right (by decide) (by omega)
  rw [hp1]
  have hle:e / 2 ^ (i+1)≤e:=Nat.div_le_self _ _
  have h1:=P9 (Num.O5 (n ^ (e / 2 ^ (i+1)))) (Num.O5 (n ^ (e / 2 ^ (i+1)))) (Num.Kw _) (Num.Kw _) (by have:=jv _ hle;omega) (by have:=jv _ hle;omega)
  rw [Num.Rh] at h1
  have hle2:e / 2 ^ (i+1)+e / 2 ^ (i+1)≤e:=by
   have h2:e / 2 ^ (i+1)*2 ^ (i+1)≤e:=Nat.div_mul_le_self _ _
   have h3:e / 2 ^ (i+1)*2≤e / 2 ^ (i+1)*2 ^ (i+1):=Nat.mul_le_mul_left _ (by rw [Nat.pow_succ];omega)
   omega
  have h2:=P9 (Num.O5 (n ^ (e / 2 ^ (i+1))*n ^ (e / 2 ^ (i+1)))) (Num.O5 n) (Num.Kw _) (Num.Kw _) (by rw [← Nat.pow_add];have:=jv _ hle2;omega) (by omega)
  rw [Num.Rh,Num.Rh] at h2
  have hbit:=Num.zI n e i
  have hand:=y5 e i
  by_cases hb1:e / 2 ^ i % 2=1
  ·rw [if_pos hb1] at hbit hand
   repeat' (first|apply Ad.assoc|apply Ad.AA|apply Ad.region|apply Ad.Au|apply Ad.Ai|apply AO.normal|apply AL.normal|apply Af.nil|apply Af.one|(apply Aa.fn;rfl;rfl;exact h1;intro _;rfl)|(apply Aa.fn;rfl;rfl;exact h2;intro _;rfl)|(apply Aa.assign;rfl)|(apply Aa.move;rfl)|(apply Aa.a5s;rfl;rfl;omega)|(apply Aa.int;rfl;rfl;rfl)|(apply Aa.NU;rfl;rfl;(simp only [IntKind.bits];omega))|(apply Ad.Ae;rfl)|(apply Ad.AZ;rfl)|(intro _;try (exfalso;omega)))
   all_goals try (exfalso;rename_i hx;rw [hand] at hx;omega)
   refine Aw.normal ⟨i,by omega,by omega,⟨by omega,?_,?_⟩⟩
   ·rw [← hbit];repeat (first|exact Ak.nil|refine Ak.same (by exact PV.Ac rfl) rfl ?_|refine Ak.cons trivial rfl (.of_eq (Aq (by simp<;>omega))) ?_)
   ·exact Ah.nil
  ·rw [if_neg hb1,Nat.mul_one] at hbit
   rw [if_neg hb1] at hand
   repeat' (first|apply Ad.assoc|apply Ad.AA|apply Ad.region|apply Ad.Au|apply Ad.Ai|apply AO.normal|apply AL.normal|apply Ad.skip|apply Af.nil|apply Af.one|(apply Aa.fn;rfl;rfl;exact h1;intro _;rfl)|(apply Aa.assign;rfl)|(apply Aa.move;rfl)|(apply Aa.a5s;rfl;rfl;omega)|(apply Aa.int;rfl;rfl;rfl)|(apply Aa.NU;rfl;rfl;(simp only [IntKind.bits];omega))|(apply Ad.Ae;rfl)|(apply Ad.AZ;rfl)|(intro _;try (exfalso;omega)))
   all_goals try (exfalso;rename_i hx;rw [hand] at hx;omega)
   refine Aw.normal ⟨i,by omega,by omega,⟨by omega,?_,?_⟩⟩
   ·rw [← hbit];repeat (first|exact Ak.nil|refine Ak.same (by exact PV.Ac rfl) rfl ?_|refine Ak.cons trivial rfl (.of_eq (Aq (by simp<;>omega))) ?_)
   ·exact Ah.nil
theorem dS (a b:Nat) (ha:Lib.nDigits a<400000) (hb:Lib.nDigits b<400000):AY env 98 [.str (bs (Lib.decDigits a)),.str (bs (Lib.decDigits b))] (st (Lib.decDigits (a*b))):=by
 refine AY.enter (AB (by decide)) Tryz.func98 rfl (by kernel_rfl) (by simp [Tryz.ntmps98]) ?_
 have qa:=Xf a 9 (by decide)
 have qb:=Xf b 9 (by decide)
 have la:=Lib.lt_pow_nDigits a
 have lb:=Lib.lt_pow_nDigits b
 have hla:=Lm la (by omega)
 have hlb:=Lm lb (by omega)
 have ht:=P9 (Num.O5 a) (Num.O5 b) (Num.Kw _) (Num.Kw _) (by omega) (by omega)
 rw [Num.Rh,Num.Rh] at ht
 have hlab:(Num.O5 (a*b)).length<200000:=Lm (K:=Lib.nDigits a+Lib.nDigits b) (by
  rw [Nat.pow_add]
  exact Nat.mul_lt_mul_of_lt_of_le la (Nat.le_of_lt lb) (Nat.pow_pos (by decide))) (by omega)
 have hs:=Ug (a*b) (by omega)
 by_cases h9:Lib.nDigits a≤9∧Lib.nDigits b≤9
 ·rw [if_pos h9.1,decide_eq_true h9.1] at qa
  rw [if_pos h9.2,decide_eq_true h9.2] at qb
  have ha9:a<1000000000:=Nat.lt_of_lt_of_le la (Nat.pow_le_pow_right (n:=10) (by decide) h9.1)
  have hb9:b<1000000000:=Nat.lt_of_lt_of_le lb (Nat.pow_le_pow_right (n:=10) (by decide) h9.2)
  have hab:a*b≤999999999*999999999:=Nat.mul_le_mul (by omega) (by omega)
  have a2o:(a:Int)*(b:Int)=((a*b:Nat):Int):=(Int.natCast_mul a b).symm
  have ho:=ZW ((a:Int)*(b:Int)) (by rw [a2o];omega)
  have h2:-9223372036854775808≤(a:Int)*(b:Int)∧(a:Int)*(b:Int)<9223372036854775808:=by rw [a2o];omega
  repeat' (first|apply Ad.assoc|apply Ad.AA|apply Ad.BL|apply Af.nil|apply Af.one|(apply Aa.fn;rfl;rfl;exact qa;intro _;rfl)|(apply Aa.fn;rfl;rfl;exact qb;intro _;rfl)|(apply Aa.fn;rfl;rfl;exact ho;intro _;rfl)|(apply Aa.assign;rfl)|(apply Aa.move;rfl)|(apply Aa.KE;rfl;rfl;omega)|(apply Aa.extract;rfl;rfl)|(apply Ad.Bh;rfl))
  ·refine Done.ret rfl (.refl _) (by exact PV.Ac rfl) Ah.nil (Nat.zero_le _) (Nat.le_refl _) ⟨?_,rfl,rfl⟩
   rw [a2o,dY]
 ·repeat' (first|apply Ad.assoc|apply Ad.AA|apply Ad.Au|apply Ad.ret|apply Af.nil|apply Af.one|(apply Aa.fn;rfl;rfl;exact qa;intro _;rfl)|(apply Aa.fn;rfl;rfl;exact qb;intro _;rfl)|(apply Aa.fn;rfl;rfl;exact Qk a (by omega);intro _;rfl)|(apply Aa.fn;rfl;rfl;exact Qk b (by omega);intro _;rfl)|(apply Aa.fn;rfl;rfl;exact ht;intro _;rfl)|(apply Aa.fn;rfl;rfl;exact hs;intro _;rfl)|(apply Aa.assign;rfl)|(apply Aa.move;rfl)|(apply Aa.neB;rfl;rfl;rfl)|(apply Aa.extract;rfl;rfl)|(apply Ad.Ae;rfl)|(intro _;try (exfalso;omega)))
  all_goals (refine Done.ret rfl (.refl _) (by exact PV.Ac rfl) Ah.nil (Nat.zero_le _) (Nat.le_refl _) ⟨?_,rfl,rfl⟩;try rfl)
theorem Yu (n:Nat):AY env 116 [.str (bs (Lib.decDigits n))] (.p (.int .i64 (if n=0 then 0 else 1))):=by
 refine AY.enter (AB (by decide)) Tryz.func116 rfl (by kernel_rfl) (by simp [Tryz.ntmps116]) ?_
 have h1:=bK n
 have h2:=nD n
 have h3:=vV n
 repeat' (first|apply Ad.AA|apply Ad.Ai|apply AO.normal|apply AO.ret|(apply Bl.ret;rfl)|apply AL.normal|apply AL.ret|apply Ad.ret|apply Ad.skip|apply Af.nil|apply Af.one|(apply Af.take;rfl;rfl)|(apply Af.drop;rfl;rfl;rfl)|(apply Af.guard;rfl;rfl)|(apply yA;rfl;rfl;rfl;exact le_dec rfl)|(apply dO;rfl;rfl;rfl;exact le_dec rfl)|(apply Aa.assign;rfl)|(apply Aa.move;rfl)|(apply Aa.int;rfl;rfl;rfl)|(apply Aa.Bz;rfl;rfl)|(apply Aa.AU;rfl;rfl)|(apply Aa.KA;rfl;rfl)|(apply Aa.eqS;rfl;rfl)|(apply Aa.gu;rfl;rfl;rfl;omega)|(apply Ad.cond_false;rfl)|(apply Ad.AZ;rfl)|(intro _;try (exfalso;omega)))
 all_goals first
  |(exfalso;simp_all;done)
  |(exfalso;simp_all;omega)
  |((refine Done.ret rfl (.refl _) (by exact PV.Ac rfl) Ah.nil (Nat.zero_le _) (Nat.le_refl _) ⟨?_,rfl,rfl⟩;try rfl);refine PV.int_eq ?_;first|(rw [if_pos (h3.1 (by assumption))];done)|(rw [if_neg (fun e=>by have:=h3.2 e;contradiction)];done))
theorem Xu:∀ (a b:List UInt8),-1≤Lib.compareBytes a b∧Lib.compareBytes a b≤1
 |[],[]=>by simp [Lib.compareBytes]
 |[],_::_=>by simp [Lib.compareBytes]
 |_::_,[]=>by simp [Lib.compareBytes]
 |a::as',b::bs'=>by
  simp only [Lib.compareBytes]
  have:=Xu as' bs'
  split
  ·omega
  ·split
   ·omega
   ·exact this
def XP (a b:Nat):Int:=if a<b then -1 else if b<a then 1 else 0
theorem a0v {a b:Nat} (h:Lib.nDigits a=Lib.nDigits b):Lib.compareBytes (Lib.decDigits a) (Lib.decDigits b)=XP a b:=by
 rw [Num.Em,Num.Em,← h]
 exact Num.a1j _ _ _ (Lib.lt_pow_nDigits a) (by rw [h];exact Lib.lt_pow_nDigits b)
theorem Zv (a b:Nat) (ha:Lib.nDigits a<400000) (hb:Lib.nDigits b<400000):AY env 99 [.str (bs (Lib.decDigits a)),.str (bs (Lib.decDigits b))] (.p (.int .i64 (XP a b))):=by
 refine AY.enter (AB (by decide)) Tryz.func99 rfl (by kernel_rfl) (by simp [Tryz.ntmps99]) ?_
 have sa:=Yu a
 have sb:=Yu b
 have hla:=Lib.decDigits_length a
 have hlb:=Lib.decDigits_length b
 have hcb:=Xu (Lib.decDigits a) (Lib.decDigits b)
 have z1:Lib.nDigits 0=1:=Lib.nDigits_small (by decide)
 by_cases ha0:a=0<;>by_cases hb0:b=0
 ·rw [if_pos ha0] at sa
  rw [if_pos hb0] at sb
  have heq:Lib.nDigits a=Lib.nDigits b:=by rw [ha0,hb0]
  repeat' (first|apply Ad.AA|apply Ad.Ai|apply AO.normal|apply AL.normal|apply Ad.ret|apply Ad.skip|apply Af.nil|apply Af.one|(apply Aa.fn;rfl;rfl;exact sa;intro _;rfl)|(apply Aa.fn;rfl;rfl;exact sb;intro _;rfl)|(apply Aa.fn;rfl;rfl;exact cut_spec' a;intro _;rfl)|(apply Aa.fn;rfl;rfl;exact cut_spec' b;intro _;rfl)|(apply Aa.fn;rfl;rfl;exact UL _ _;intro _;rfl)|(apply Aa.assign;rfl)|(apply Aa.move;rfl)|(apply Aa.KE;rfl;rfl;omega)|(apply Aa.int;rfl;rfl;rfl)|(apply Aa.KA;rfl;rfl)|(apply Aa.extract;rfl;rfl)|(apply Ad.cond_false;rfl)|(apply Ad.AZ;rfl)|(intro _;try (exfalso;omega)))
  all_goals first
   |(exfalso;omega)
   |((refine Done.ret rfl (.refl _) (by exact PV.Ac rfl) Ah.nil (Nat.zero_le _) (Nat.le_refl _) ⟨?_,rfl,rfl⟩;try rfl);refine PV.int_eq ?_;simp [XP,ha0,hb0];done)
 ·rw [if_pos ha0] at sa
  rw [if_neg hb0] at sb
  repeat' (first|apply Ad.AA|apply Ad.Ai|apply AO.ret|apply AL.ret|apply Ad.ret|apply Af.nil|apply Af.one|(apply Aa.fn;rfl;rfl;exact sa;intro _;rfl)|(apply Aa.fn;rfl;rfl;exact sb;intro _;rfl)|(apply Aa.assign;rfl)|(apply Aa.move;rfl)|(apply Aa.int;rfl;rfl;rfl)|(apply Ad.cond_true;rfl))
  all_goals first
   |(exfalso;omega)
   |((refine Done.ret rfl (.refl _) (by exact PV.Ac rfl) Ah.nil (Nat.zero_le _) (Nat.le_refl _) ⟨?_,rfl,rfl⟩;try rfl);refine PV.int_eq ?_;unfold XP;rw [if_pos (by omega)];done)
 ·rw [if_neg ha0] at sa
  rw [if_pos hb0] at sb
  repeat' (first|apply Ad.AA|apply Ad.Ai|apply AO.ret|apply AL.ret|apply Ad.ret|apply Af.nil|apply Af.one|(apply Aa.fn;rfl;rfl;exact sa;intro _;rfl)|(apply Aa.fn;rfl;rfl;exact sb;intro _;rfl)|(apply Aa.assign;rfl)|(apply Aa.move;rfl)|(apply Aa.int;rfl;rfl;rfl)|(apply Ad.cond_true;rfl)|(apply Ad.cond_false;rfl))
  all_goals first
   |(exfalso;omega)
   |((refine Done.ret rfl (.refl _) (by exact PV.Ac rfl) Ah.nil (Nat.zero_le _) (Nat.le_refl _) ⟨?_,rfl,rfl⟩;try rfl);refine PV.int_eq ?_;unfold XP;rw [if_neg (by omega),if_pos (by omega)];done)
 ·rw [if_neg ha0] at sa
  rw [if_neg hb0] at sb
  have hm1:Lib.nDigits a<Lib.nDigits b→a<b:=Num.RU
  have hm2:Lib.nDigits b<Lib.nDigits a→b<a:=Num.RU
  repeat' (first|apply Ad.AA|apply Ad.Ai|apply AO.normal|apply AO.ret|apply AL.normal|apply AL.ret|apply Ad.ret|apply Ad.skip|apply Af.nil|apply Af.one|(apply Aa.fn;rfl;rfl;exact sa;intro _;rfl)|(apply Aa.fn;rfl;rfl;exact sb;intro _;rfl)|(apply Aa.fn;rfl;rfl;exact cut_spec' a;intro _;rfl)|(apply Aa.fn;rfl;rfl;exact cut_spec' b;intro _;rfl)|(apply Aa.fn;rfl;rfl;exact UL _ _;intro _;rfl)|(apply Aa.assign;rfl)|(apply Aa.move;rfl)|(apply Aa.KE;rfl;rfl;omega)|(apply Aa.int;rfl;rfl;rfl)|(apply Aa.KA;rfl;rfl)|(apply Aa.neg;rfl;omega)|(apply Aa.extract;rfl;rfl)|(apply Ad.cond_false;rfl)|(apply Ad.AZ;rfl)|(intro _;try (exfalso;omega)))
  ·(refine Done.ret rfl (.refl _) (by exact PV.Ac rfl) Ah.nil (Nat.zero_le _) (Nat.le_refl _) ⟨?_,rfl,rfl⟩;try rfl)
   refine PV.int_eq ?_
   have:=hm1 (by omega)
   unfold XP;rw [if_pos this]
  ·(refine Done.ret rfl (.refl _) (by exact PV.Ac rfl) Ah.nil (Nat.zero_le _) (Nat.le_refl _) ⟨?_,rfl,rfl⟩;try rfl)
   refine PV.int_eq ?_
   have:=hm2 (by omega)
   unfold XP;rw [if_neg (by omega),if_pos this]
  ·(refine Done.ret rfl (.refl _) (by exact PV.Ac rfl) Ah.nil (Nat.zero_le _) (Nat.le_refl _) ⟨?_,rfl,rfl⟩;try rfl)
   refine PV.int_eq ?_
   rw [Int.one_mul,a0v (by omega)]
end Go.Proofs.YtdabojnmoejilaaGreatDoor
namespace Go.Vm
open Go.Am
theorem QY {n:Int} (h0:n<0) (h:-18446744073709551616≤n):IntKind.u64.wrap n=n+18446744073709551616:=by
 have e:IntKind.u64.wrap n=n % 2^64:=by
  simp [IntKind.wrap,IntKind.signed,IntKind.bits]
  try omega
 rw [e]
 omega
section
variable {E:Env} {L:Frame} {H:Heap} {nx:Nat} {Q:PV→Heap→Nat→Prop} {w:Bool}
variable {dst:Option Tmp} {ty:TypeId} {pos:String} {af:Array Edge} {gd:Option (Nat×Bool)}
theorem Aa.a4l {s d:TypeId} {x:Operand} {k':IntKind} {n:Int} {sd:TypeDesc} (hx:BD E.Γ L x=some (.p (.int k' n))) (hs:E.P.underlying s=some sd) (hns:fH sd=true) (hd:E.P.underlying d=some (.int .u64)) (hn:n<0∧-18446744073709551616≤n) (q:Q (.p (.int .u64 (n+18446744073709551616))) H nx) :
 Aa E w ⟨dst,.convert s d x,ty,pos,af,gd⟩ L H nx Q:=Aa.VA hx hs hns hd (by rw [QY hn.1 hn.2];exact q)
theorem Aa.a9h {t:TypeId} {x:Operand} {a:Int} (hx:BD E.Γ L x=some (.p (.int .u64 a))) (h:0<a∧a<18446744073709551616) (q:Q (.p (.int .u64 (18446744073709551616-a))) H nx):Aa E w ⟨dst,.unOp .neg t x,ty,pos,af,gd⟩ L H nx Q :=
 Aa.quiet q fun m F σ tt c1 c2=>by
  refine ⟨.int .u64 (18446744073709551616-a),fun _=>?_,.p (.int _ _)⟩
  have hd:Ez E.P (Op.unary .neg (.int .u64 a))=some (.int .u64 (18446744073709551616-a)):=by
   simp only [Op.unary,Op.intArith,Int.zero_sub,QY (n:=-a) (by omega) (by omega)]
   rw [show -a+18446744073709551616=18446744073709551616-a by omega]
   rfl
  simp only [CY,FC,Dh c1 c2 hx]
  rw [show plain (Value.int IntKind.u64 a)=true from rfl]
  simp only [if_true,Ik hd rfl,Option.map_some]
theorem Aa.makeFunc {f:FuncId} {fs cs:Array Operand} {pf pc:List PV} (hf:evs E.Γ L fs.toList=some pf) (hc:evs E.Γ L cs.toList=some pc) (q:Q (.clo f pf pc) H nx):Aa E w ⟨dst,.makeFunc (.func f) fs cs,ty,pos,af,gd⟩ L H nx Q :=
 Aa.quiet q fun m F σ tt c1 c2=>by
  refine ⟨.func (.func f) (fs.toList.map (ev tt)).toArray (cs.toList.map (ev tt)).toArray,fun _=>?_,.clo (Q7 c1 c2 hf) (Q7 c1 c2 hc)⟩
  simp only [CY,FC,Option.map_some,← Array.toList_map,Array.toArray_toList]
end
end Go.Vm
namespace Go.Proofs.YtdabojnmoejilaaGreatDoor
open Go Go.Am Go.Vm
attribute [local irreducible] Aa Af Ar Ad BA AY CG AO AL Aw Vm.Done CW Bl
structure JJ where
 num:Int
 den:Int
instance:Enc JJ:={ default:=⟨0,0⟩,enc:=fun x=>[.int .i64 x.num,.int .i64 x.den],size:=2,len:=fun _=>rfl }
theorem VQ (n:Int) (h:-9223372036854775808≤n∧n<9223372036854775808):AY env 123 [.int .i64 n] (.p (.int .u64 ((n.natAbs:Nat):Int))):=by
 refine AY.enter (AB (by decide)) Tryz.func123 rfl (by kernel_rfl) (by simp [Tryz.ntmps123]) ?_
 repeat' (first|apply Ad.assoc|apply Ad.AA|apply Ad.Au|apply Ad.BL|apply Ad.ret|apply Af.nil|apply Af.one|(apply Aa.a4l;rfl;rfl;rfl;rfl;omega)|(apply Aa.a9h;rfl;omega)|(apply Aa.assign;rfl)|(apply Aa.move;rfl)|(apply Aa.int;rfl;rfl;rfl)|(apply Aa.LK;rfl;rfl;rfl;rfl;omega)|(apply Ad.Ae;rfl)|(intro _;try (exfalso;omega)))
 all_goals (refine Done.ret rfl (.refl _) (by exact PV.Ac rfl) Ah.nil (Nat.zero_le _) (Nat.le_refl _) ⟨?_,rfl,rfl⟩;refine PV.int_eq ?_;omega)
theorem yK (a b:Nat) (ha:a<18446744073709551616) (hb:b<18446744073709551616):AY env 122 [.int .u64 (a:Int),.int .u64 (b:Int)] (.p (.int .u64 ((Nat.gcd a b:Nat):Int))):=by
 refine AY.enter (AB (by decide)) Tryz.func122 rfl (by kernel_rfl) (by simp [Tryz.ntmps122]) ?_
 repeat' (first|apply Ad.AA|apply Ad.Ai|apply Af.nil|apply Af.one|(apply Aa.assign;rfl))
 refine Ad.D8 (fun s:Nat×Nat=>[(0,.p (.int .u64 (s.1:Int))),(1,.p (.int .u64 (s.2:Int)))]) (fun _=>[]) 0 (fun s=>s.1<18446744073709551616∧s.2<18446744073709551616∧Nat.gcd s.1 s.2=Nat.gcd a b) (fun s=>s.2) (a,b) (Nat.le_refl _) ⟨ha,hb,rfl⟩ ⟨Nat.le_refl _,?_,trivial⟩ ?_
 ·repeat (first|exact Ak.nil|refine Ak.same (by exact PV.Ac rfl) rfl ?_|refine Ak.cons trivial rfl (.of_eq (Aq (by simp<;>omega))) ?_)
 rintro ⟨x,y⟩ ⟨hx,hy,hg⟩
 simp only at hx hy hg
 have hmod:0<y→x % y<y:=fun h=>Nat.mod_lt _ h
 repeat' (first|apply Ad.assoc|apply Ad.AA|apply Ad.Et|apply Ad.Au|apply Ad.AX|apply AO.normal|apply AL.normal|apply AL.exit|apply Aw.exit|apply Ad.ret|apply Ad.Ih|apply Af.nil|apply Ar.nil|apply Af.one|(apply Ar.bar;decide +kernel)|(apply Aa.assign;rfl)|(apply Aa.move;rfl)|(apply Aa.a2c;rfl;rfl;omega)|(apply Aa.int;rfl;rfl;rfl)|(apply Ad.Ae;rfl)|(intro _;try (exfalso;omega)))
 ·rename_i h1
  have hy0:0<y:=by omega
  refine Aw.normal ⟨(y,x % y),⟨hy,by have:=hmod hy0;omega,?_⟩,hmod hy0,⟨Nat.le_refl _,?_,trivial⟩⟩
  ·rw [← hg,Nat.gcd_comm x y,Nat.gcd_rec y x,Nat.gcd_comm]
  ·repeat (first|exact Ak.nil|refine Ak.same (by exact PV.Ac rfl) rfl ?_|refine Ak.cons trivial rfl (.of_eq (Aq (by simp<;>omega))) ?_)
 ·rename_i h1
  refine Done.ret rfl (.refl _) (by exact PV.Ac rfl) Ah.nil (Nat.zero_le _) (Nat.le_refl _) ⟨?_,rfl,rfl⟩
  have hy0:y=0:=by omega
  subst hy0
  rw [← hg,Nat.gcd_zero_right]
def wJ (x:JJ):Prop:=0<x.den∧x.den≤1000000∧-1000000≤x.num∧x.num≤1000000∧Nat.gcd x.num.natAbs x.den.toNat=1
instance (x:JJ):Decidable (wJ x):=by unfold wJ;infer_instance
def zl (x:JJ):Int:=if wJ x then 0 else 2
theorem bg (x:JJ):AY env 106 [.agg (Enc.enc x)] (.p (.int .i64 (zl x))):=by
 refine AY.enter (AB (by decide)) Tryz.func106 rfl (by kernel_rfl) (by simp [Tryz.ntmps106]) ?_
 have hd:0<x.den→((x.den.toNat:Nat):Int)=x.den:=fun h=>Int.toNat_of_nonneg (Int.le_of_lt h)
 have hg:0<x.den→x.den≤1000000→-1000000≤x.num→x.num≤1000000→AY env 122 [.int .u64 ((x.num.natAbs:Nat):Int),.int .u64 x.den] (.p (.int .u64 ((Nat.gcd x.num.natAbs x.den.toNat:Nat):Int))):=fun h1 h2 h3 h4=>by
  have:=yK x.num.natAbs x.den.toNat (by omega) (by omega)
  rwa [hd h1] at this
 repeat' (first|apply Ad.assoc|apply Ad.AA|apply Ad.BI|apply Ad.Au|apply Ad.BL|apply Ad.ret|apply Af.nil|apply Ar.nil|apply Af.one|(apply Ar.bar;decide +kernel)|(apply Ar.Lr;rfl;rfl)|(apply Ar.drop;rfl;rfl;rfl)|(apply Ar.guard;rfl;rfl)|(apply Aa.fn;rfl;rfl;exact VQ _ (by omega);intro _;rfl)|(apply Aa.fn;rfl;rfl;exact hg (by omega) (by omega) (by omega) (by omega);intro _;rfl)|(apply Aa.assign;rfl)|(apply Aa.move;rfl)|(apply Aa.int;rfl;rfl;rfl)|(apply Aa.load;rfl;rfl)|(apply Aa.Bz;rfl;rfl)|(apply Aa.AU;rfl;rfl)|(apply Aa.AQ;rfl;rfl;rfl)|(apply Aa.box;rfl;trivial)|(apply Aa.LK;rfl;rfl;rfl;rfl;omega)|(apply Ad.Bh;rfl)|(apply Ad.Ae;rfl)|(intro _;try (exfalso;omega)))
 all_goals (refine Done.ret rfl (.refl _) (by exact PV.Ac rfl) Ah.nil (Nat.zero_le _) (Nat.le_refl _) ⟨?_,rfl,rfl⟩;refine PV.int_eq ?_;unfold zl;first|(rw [if_neg (show ¬ wJ x from fun h=>by unfold wJ at h;omega)];done)|(rw [if_pos (show wJ x from by unfold wJ;omega)];done))
end Go.Proofs.YtdabojnmoejilaaGreatDoor
namespace Go.Proofs.YtdabojnmoejilaaGreatDoor
open Go Go.Am Go.Vm
attribute [local irreducible] Aa Af Ar Ad BA AY CG AO AL Aw Vm.Done CW Bl
def pI (x:JJ):Prop:=wJ x∧0<x.num∧x.num≤128*x.den∧x.den≤128
instance (x:JJ):Decidable (pI x):=by unfold pI;infer_instance
def O7 (x:JJ):Int:=if ¬ wJ x then 2 else if x.num≤0∨x.num>128*x.den then 3 else if x.den>128 then 4 else 0
theorem Oy {x:JJ}:O7 x=0↔pI x:=by
 unfold O7 pI
 by_cases h1:wJ x
 ·rw [if_neg (Classical.not_not.2 h1)]
  split
  ·constructor
   ·intro h;cases h
   ·rintro ⟨_,_,_,_⟩;omega
  ·split
   ·constructor
    ·intro h;cases h
    ·rintro ⟨_,_,_,_⟩;omega
   ·exact ⟨fun _=>⟨h1,by omega,by omega,by omega⟩,fun _=>rfl⟩
 ·rw [if_pos h1]
  exact ⟨fun h=>(by cases h),fun h=>absurd h.1 h1⟩
theorem KG (x:JJ):AY env 86 [.agg (Enc.enc x)] (.p (.int .i64 (O7 x))):=by
 have hc:=bg x
 refine AY.enter (AB (by decide)) Tryz.func86 rfl (by kernel_rfl) (by simp [Tryz.ntmps86]) ?_
 by_cases h1:wJ x
 ·rw [show zl x=0 from if_pos h1] at hc
  have h1':=h1
  obtain ⟨h2,h3,h4,h5,-⟩:=h1'
  have e:O7 x=if x.num≤0∨x.num>128*x.den then 3 else if x.den>128 then 4 else 0:=by unfold O7;rw [if_neg (Classical.not_not.2 h1)]
  rw [e]
  repeat' (first|apply Ad.AA|apply Ad.Ai|apply AO.normal|apply AO.ret|apply AL.normal|apply AL.ret|apply Ad.ret|apply Ad.skip|apply Af.nil|apply Af.one|(apply Af.take;rfl;rfl)|(apply Af.drop;rfl;rfl;rfl)|(apply Af.guard;rfl;rfl)|(apply Aa.fn;rfl;rfl;exact hc;intro _;rfl)|(apply Aa.assign;rfl)|(apply Aa.move;rfl)|(apply Aa.KE;rfl;rfl;omega)|(apply Aa.int;rfl;rfl;rfl)|(apply Aa.load;rfl;rfl)|(apply Aa.Bz;rfl;rfl)|(apply Aa.AU;rfl;rfl)|(apply Aa.AQ;rfl;rfl;rfl)|(apply Aa.box;rfl;trivial)|(apply Ad.cond_true;rfl)|(apply Ad.cond_false;rfl)|(apply Ad.AZ;rfl)|(intro _;try (exfalso;omega)))
  all_goals first|(exfalso;omega)|(rw [if_pos (by omega)];(refine Done.ret rfl (.refl _) (by exact PV.Ac rfl) Ah.nil (Nat.zero_le _) (Nat.le_refl _) ⟨?_,rfl,rfl⟩;try rfl);done)|(rw [if_neg (by omega),if_pos (by omega)];(refine Done.ret rfl (.refl _) (by exact PV.Ac rfl) Ah.nil (Nat.zero_le _) (Nat.le_refl _) ⟨?_,rfl,rfl⟩;try rfl);done)|(rw [if_neg (by omega),if_neg (by omega)];(refine Done.ret rfl (.refl _) (by exact PV.Ac rfl) Ah.nil (Nat.zero_le _) (Nat.le_refl _) ⟨?_,rfl,rfl⟩;try rfl);done)
 ·rw [show zl x=2 from if_neg h1] at hc
  rw [show O7 x=2 from if_pos h1]
  repeat' (first|apply Ad.AA|apply Ad.Ai|apply AO.ret|apply AL.ret|apply Ad.ret|apply Af.nil|apply Af.one|(apply Aa.fn;rfl;rfl;exact hc;intro _;rfl)|(apply Aa.assign;rfl)|(apply Aa.int;rfl;rfl;rfl)|(apply Aa.load;rfl;rfl)|(apply Aa.box;rfl;trivial)|(apply Ad.cond_true;rfl))
  all_goals (refine Done.ret rfl (.refl _) (by exact PV.Ac rfl) Ah.nil (Nat.zero_le _) (Nat.le_refl _) ⟨?_,rfl,rfl⟩;try rfl)
def bothR (x y:JJ):Int:=if O7 x≠0 then O7 x else O7 y
theorem jL (x y:JJ):AY env 67 [.agg (Enc.enc x),.agg (Enc.enc y)] (.p (.int .i64 (bothR x y))):=by
 have h1:=KG x
 have h2:=KG y
 unfold bothR
 refine AY.enter (AB (by decide)) Tryz.func67 rfl (by kernel_rfl) (by simp [Tryz.ntmps67]) ?_
 repeat' (first|apply Ad.assoc|apply Ad.AA|apply Ad.Au|apply Ad.BL|apply Ad.ret|apply Af.nil|apply Af.one|(apply Aa.fn;rfl;rfl;exact h1;intro _;rfl)|(apply Aa.fn;rfl;rfl;exact h2;intro _;rfl)|(apply Aa.assign;rfl)|(apply Aa.move;rfl)|(apply Aa.int;rfl;rfl;rfl)|(apply Aa.load;rfl;rfl)|(apply Aa.box;rfl;trivial)|(apply Ad.Ae;rfl)|(intro _;try (exfalso;omega)))
 all_goals first|(rw [if_pos (by assumption)];(refine Done.ret rfl (.refl _) (by exact PV.Ac rfl) Ah.nil (Nat.zero_le _) (Nat.le_refl _) ⟨?_,rfl,rfl⟩;try rfl);done)|(rw [if_neg (by assumption)];(refine Done.ret rfl (.refl _) (by exact PV.Ac rfl) Ah.nil (Nat.zero_le _) (Nat.le_refl _) ⟨?_,rfl,rfl⟩;try rfl);done)
def sh1 (den:Nat):Nat→Nat→Int→Nat×Int
 |0,num,n=>(num,n)
 |f+1,num,n=>if num<den then sh1 den f (num*2) (n-12) else (num,n)
def sh2 (num:Nat):Nat→Nat→Int→Nat×Int
 |0,den,n=>(den,n)
 |f+1,den,n=>if 2*den≤num then sh2 num f (den*2) (n+12) else (den,n)
def sh3 (p:Nat):Nat→Nat→Int→Int
 |0,l,n=>n
 |f+1,l,n=>if l<p then sh3 p f (l*4) (n+1) else n
def shN (num den:Nat):Int :=
 let a:=sh1 den 30 num 0
 let b:=sh2 a.1 30 den a.2
 sh3 (a.1 ^ 24) 30 (b.1 ^ 24*2) b.2
def xI (x y:JJ):Int:=shN (y.num*x.den).toNat (y.den*x.num).toNat
theorem xM (a b:Nat):XP a b>0↔b<a:=by
 unfold XP
 split
 ·omega
 ·split<;>omega
theorem oq {n k:Nat} (hk:0<k) (h:n<10 ^ k):Lib.nDigits n≤k:=by
 rcases Nat.eq_zero_or_pos n with h0|h0
 ·subst h0;rw [Lib.nDigits_small (by decide)];exact hk
 ·have h1:=Num.FP n (by omega)
  have h2:10 ^ (Lib.nDigits n-1)<10 ^ k:=Nat.lt_of_le_of_lt h1 h
  have h3:=(Nat.pow_lt_pow_iff_right (a:=10) (by decide)).1 h2
  omega
theorem iO {n k e:Nat} (hk:0<k) (h:n<10 ^ k) (he:e≤100):Lib.nDigits (n ^ e)≤k*100:=by
 rcases Nat.eq_zero_or_pos e with h0|h0
 ·subst h0;rw [Nat.pow_zero,Lib.nDigits_small (by decide)];omega
 ·refine oq (by omega) ?_
  have h1:n ^ e<(10 ^ k) ^ e:=Nat.pow_lt_pow_left h (by omega)
  rw [← Nat.pow_mul] at h1
  exact Nat.lt_of_lt_of_le h1 (Nat.pow_le_pow_right (by decide) (Nat.mul_le_mul_left _ he))
theorem wH {a b j k:Nat} (ha:Lib.nDigits a≤j) (hb:Lib.nDigits b≤k):Lib.nDigits (a*b)≤j+k:=by
 have h1:=Lib.lt_pow_nDigits a
 have h2:=Lib.lt_pow_nDigits b
 have hp:=Lib.nDigits_pos a
 refine oq (by omega) ?_
 rw [Nat.pow_add]
 have h3:a<10 ^ j:=Nat.lt_of_lt_of_le h1 (Nat.pow_le_pow_right (by decide) ha)
 have h4:b<10 ^ k:=Nat.lt_of_lt_of_le h2 (Nat.pow_le_pow_right (by decide) hb)
 exact Nat.mul_lt_mul_of_lt_of_le h3 (Nat.le_of_lt h4) (Nat.pow_pos (by decide))
theorem JK (x y:JJ) (hx:pI x) (hy:pI y):AY env 68 [.agg (Enc.enc x),.agg (Enc.enc y)] (.p (.int .i64 (xI x y))):=by
 obtain ⟨⟨f1,-⟩,f2,f3,f4⟩:=hx
 obtain ⟨⟨g1,-⟩,g2,g3,g4⟩:=hy
 obtain ⟨xn,hxn⟩:∃ k:Nat,x.num=k:=⟨x.num.toNat,by omega⟩
 obtain ⟨xd,hxd⟩:∃ k:Nat,x.den=k:=⟨x.den.toNat,by omega⟩
 obtain ⟨yn,hyn⟩:∃ k:Nat,y.num=k:=⟨y.num.toNat,by omega⟩
 obtain ⟨yd,hyd⟩:∃ k:Nat,y.den=k:=⟨y.den.toNat,by omega⟩
 have b1:yn*xd≤16384*128:=Nat.mul_le_mul (by omega) (by omega)
 have b2:yd*xn≤128*16384:=Nat.mul_le_mul (by omega) (by omega)
 have p1:0<yn*xd:=Nat.mul_pos (by omega) (by omega)
 have p2:0<yd*xn:=Nat.mul_pos (by omega) (by omega)
 have c1:y.num*x.den=((yn*xd:Nat):Int):=by rw [hyn,hxd,Int.natCast_mul]
 have c2:y.den*x.num=((yd*xn:Nat):Int):=by rw [hyd,hxn,Int.natCast_mul]
 have e:xI x y=shN (yn*xd) (yd*xn):=by unfold xI;rw [c1,c2];rfl
 rw [e]
 generalize yn*xd=num at *
 generalize yd*xn=den at *
 have z1:-9223372036854775808≤y.num*x.den∧y.num*x.den<9223372036854775808:=by omega
 have z2:-9223372036854775808≤y.den*x.num∧y.den*x.num<9223372036854775808:=by omega
 refine AY.enter (AB (by decide)) Tryz.func68 rfl (by kernel_rfl) (by simp [Tryz.ntmps68]) ?_
 repeat' (first|apply Ad.AA|apply Ad.BI|apply Ad.Ai|apply Af.nil|apply Ar.nil|apply Af.one|(apply Ar.bar;decide +kernel)|apply Ar.quiet|(apply Aa.assign;rfl)|(apply Aa.KE;rfl;rfl;omega)|(apply Aa.load;rfl;rfl)|(apply Aa.AQ;rfl;rfl;rfl)|(apply Aa.box;rfl;trivial))
 refine Ad.D8 (fun s:Nat×Nat=>[(5,.p (.int .i64 (s.2:Int))),(6,.p (.int .i64 (den:Int))),(7,.p (.int .i64 (-(12*(s.1:Int)))))]) (fun _=>[]) 0 (fun s=>s.1≤22∧s.2=num*2 ^ s.1∧s.2≤4194304∧sh1 den (30-s.1) s.2 (-(12*(s.1:Int)))=sh1 den 30 num 0) (fun s=>30-s.1) (0,num) (by omega) ⟨by omega,by simp,by simp only;omega,by simp⟩ ⟨by omega,?_,?_⟩ ?_
 ·simp only [c1,c2];repeat (first|exact Ak.nil|refine Ak.same (by exact PV.Ac rfl) rfl ?_|refine Ak.cons trivial rfl (.of_eq (Aq (by simp<;>omega))) ?_)
 ·exact Ah.nil
 rintro ⟨i,m⟩ ⟨hi,hm,hm2,hs⟩
 simp only at hi hm hm2 hs
 have jv:∀ a b c:Nat,0<a→a*2 ^ b≤c→2 ^ b≤c:=fun a b c ha h=>Nat.le_trans (Nat.le_mul_of_pos_left _ ha) h
 have h21:∀ b:Nat,2 ^ b≤2 ^ 21→b≤21:=fun b h=>(Nat.pow_le_pow_iff_right (by decide)).1 h
 have b1q:0<m:=by rw [hm];exact Nat.mul_pos p1 (Nat.pow_pos (by decide))
 repeat' (first|apply Ad.assoc|apply Ad.AA|apply Ad.region|apply Ad.Au|apply Ad.AX|apply Ad.Ai|apply AO.normal|apply AL.normal|apply AL.exit|apply Aw.exit|apply Af.nil|apply Af.one|(apply Aa.assign;rfl)|(apply Aa.move;rfl)|(apply Aa.Hr;rfl;rfl;omega)|(apply Aa.KE;rfl;rfl;omega)|(apply Aa.int;rfl;rfl;rfl)|(apply Ad.Ae;rfl)|(intro _;try (exfalso;omega)))
 ·rename_i a1
  simp only at a1
  have hi2:i≤20:=by
   have h1:num*2 ^ i<den:=by rw [← hm];omega
   have h2:2 ^ i<2 ^ 21:=Nat.lt_of_le_of_lt (jv _ _ _ p1 (Nat.le_refl _)) (by omega)
   have:=(Nat.pow_lt_pow_iff_right (a:=2) (by decide)).1 h2
   omega
  have e7:-(12*((i+1:Nat):Int))=-(12*(i:Int))-12:=by omega
  refine Aw.normal ⟨(i+1,m*2),⟨by simp only;omega,by simp only;rw [hm,Nat.pow_succ,Nat.mul_assoc],by simp only;omega,?_⟩,by simp only;omega,⟨by omega,?_,?_⟩⟩
  ·simp only
   rw [← hs,show 30-i=(30-(i+1))+1 by omega,e7]
   conv=>rhs;rw [sh1]
   rw [if_pos (by omega)]
  ·simp only [e7];repeat (first|exact Ak.nil|refine Ak.same (by exact PV.Ac rfl) rfl ?_|refine Ak.cons trivial rfl (.of_eq (Aq (by simp<;>omega))) ?_)
  ·exact Ah.nil
 ·rename_i a1
  simp only at a1
  have hs1:sh1 den 30 num 0=(m,-(12*(i:Int))):=by
   rw [← hs]
   cases 30-i with
   |zero=>rfl
   |succ f=>rw [sh1,if_neg (by omega)]
  refine Ad.D8 (fun s:Nat×Nat=>[(5,.p (.int .i64 (m:Int))),(6,.p (.int .i64 (s.2:Int))),(7,.p (.int .i64 (-(12*(i:Int))+12*(s.1:Int))))]) (fun _=>[]) 0 (fun s=>s.1≤22∧s.2=den*2 ^ s.1∧s.2≤4194304∧sh2 m (30-s.1) s.2 (-(12*(i:Int))+12*(s.1:Int))=sh2 m 30 den (-(12*(i:Int)))) (fun s=>30-s.1) (0,den) (by omega) ⟨by omega,by simp,by simp only;omega,by simp⟩ ⟨by omega,?_,?_⟩ ?_
  ·have e7:-(12*(i:Int))+12*((0:Nat):Int)=-(12*(i:Int)):=by omega
   simp only [e7];repeat (first|exact Ak.nil|refine Ak.same (by exact PV.Ac rfl) rfl ?_|refine Ak.cons trivial rfl (.of_eq (Aq (by simp<;>omega))) ?_)
  ·exact Ah.nil
  rintro ⟨j,d⟩ ⟨hj,hd,hd2,ht⟩
  simp only at hj hd hd2 ht
  have a5y:0<d:=by rw [hd];exact Nat.mul_pos p2 (Nat.pow_pos (by decide))
  by_cases hdm:2*d≤m
  ·repeat' (first|apply Ad.assoc|apply Ad.AA|apply Ad.region|apply Ad.Au|apply Ad.Ai|apply AO.normal|apply AL.normal|apply Af.nil|apply Af.one|(apply Aa.assign;rfl)|(apply Aa.move;rfl)|(apply Aa.Bq;rfl;rfl;omega)|(apply Aa.KE;rfl;rfl;omega)|(apply Aa.int;rfl;rfl;rfl)|(apply Ad.Ae;rfl)|(intro _;try (exfalso;omega)))
   all_goals try (exfalso;omega)
   have hj2:j≤21:=by
    have h1:den*2 ^ j≤2 ^ 21:=by rw [← hd];omega
    exact h21 _ (jv _ _ _ p2 h1)
   have e7:-(12*(i:Int))+12*((j+1:Nat):Int)=-(12*(i:Int))+12*(j:Int)+12:=by omega
   refine Aw.normal ⟨(j+1,d*2),⟨by simp only;omega,by simp only;rw [hd,Nat.pow_succ,Nat.mul_assoc],by simp only;omega,?_⟩,by simp only;omega,⟨by omega,?_,?_⟩⟩
   ·simp only
    rw [← ht,show 30-j=(30-(j+1))+1 by omega,e7]
    conv=>rhs;rw [sh2]
    rw [if_pos hdm]
   ·simp only [e7];repeat (first|exact Ak.nil|refine Ak.same (by exact PV.Ac rfl) rfl ?_|refine Ak.cons trivial rfl (.of_eq (Aq (by simp<;>omega))) ?_)
   ·exact Ah.nil
  ·have hs2:sh2 m 30 den (-(12*(i:Int)))=(d,-(12*(i:Int))+12*(j:Int)):=by
    rw [← ht]
    cases 30-j with
    |zero=>rfl
    |succ f=>rw [sh2,if_neg hdm]
   have hR:shN num den=sh3 (m ^ 24) 30 (d ^ 24*2) (-(12*(i:Int))+12*(j:Int)):=by
    unfold shN;rw [hs1];simp only;rw [hs2]
   rw [hR]
   have om:=ZW (m:Int) (by omega)
   have od:=ZW (d:Int) (by omega)
   rw [dY] at om od
   have nm:Lib.nDigits m≤7:=oq (by decide) (by omega)
   have nd:Lib.nDigits d≤7:=oq (by decide) (by omega)
   have pm:=WZ m 24 (by decide) (by omega) (by omega)
   have pd:=WZ d 24 (by decide) (by omega) (by omega)
   have np:Lib.nDigits (m ^ 24)≤700:=iO (k:=7) (by decide) (by omega) (by decide)
   have nq:Lib.nDigits (d ^ 24)≤700:=iO (k:=7) (by decide) (by omega) (by decide)
   have n2:Lib.nDigits 2=1:=Lib.nDigits_small (by decide)
   have n4:Lib.nDigits 4=1:=Lib.nDigits_small (by decide)
   have q2:=dS (d ^ 24) 2 (by omega) (by omega)
   rw [show Lib.decDigits 2=[50] by decide +kernel] at q2
   have hpq:m ^ 24<2 ^ 24*d ^ 24:=by
    rw [← Nat.mul_pow]
    exact Nat.pow_lt_pow_left (by omega) (by decide)
   have b1s:0<d ^ 24:=Nat.pow_pos a5y
   generalize m ^ 24=p at *
   generalize d ^ 24=q at *
   repeat' (first|apply Ad.assoc|apply Ad.AA|apply Ad.AX|apply Ad.Ai|apply AO.normal|apply AL.exit|apply Aw.exit|apply Af.nil|apply Af.one|(apply Aa.fn;rfl;rfl;exact om;intro _;rfl)|(apply Aa.fn;rfl;rfl;exact od;intro _;rfl)|(apply Aa.fn;rfl;rfl;exact pm;intro _;rfl)|(apply Aa.fn;rfl;rfl;exact pd;intro _;rfl)|(apply Aa.fn;rfl;rfl;exact q2;intro _;rfl)|(apply Aa.assign;rfl)|(apply Aa.move;rfl)|(apply Aa.KE;rfl;rfl;omega)|(apply Aa.int;rfl;rfl;rfl)|(apply Aa.extract;rfl;rfl)|(apply Ad.Ae;rfl)|(intro _;try (exfalso;omega)))
   all_goals try (exfalso;omega)
   generalize hn0:-(12*(i:Int))+12*(j:Int)=n0 at *
   have b2b:-1000≤n0∧n0≤1000:=by omega
   refine Ad.D8 (fun k:Nat=>[(8,st (Lib.decDigits p)),(12,st (Lib.decDigits (q*2*4 ^ k))),(7,.p (.int .i64 (n0+(k:Int))))]) (fun _=>[]) 0 (fun k=>k≤20∧sh3 p (30-k) (q*2*4 ^ k) (n0+(k:Int))=sh3 p 30 (q*2) n0) (fun k=>30-k) 0 (by omega) ⟨by omega,by simp⟩ ⟨by omega,?_,?_⟩ ?_
   ·have e7:n0+((0:Nat):Int)=n0:=by omega
    rw [e7,Nat.pow_zero,Nat.mul_one];repeat (first|exact Ak.nil|refine Ak.same (by exact PV.Ac rfl) rfl ?_|refine Ak.cons trivial rfl (.of_eq (Aq (by simp<;>omega))) ?_)
   ·exact Ah.nil
   rintro k ⟨hk,hs⟩
   have nl:Lib.nDigits (q*2*4 ^ k)≤1000:=by
    have h1:=wH (a:=q) (b:=2) (j:=700) (k:=1) (by omega) (by omega)
    have h2:Lib.nDigits (4 ^ k)≤100:=iO (n:=4) (k:=1) (by decide) (by decide) (by omega)
    have h3:=wH h1 h2
    omega
   have cc:=Zv p (q*2*4 ^ k) (by omega) (by omega)
   have q4:=dS (q*2*4 ^ k) 4 (by omega) (by omega)
   rw [show Lib.decDigits 4=[52] by decide +kernel] at q4
   have hcp:=xM p (q*2*4 ^ k)
   by_cases hlt:q*2*4 ^ k<p
   ·have hc:=hcp.2 hlt
    have hk2:k≤12:=by
     have h1:q*(2*4 ^ k)<q*2 ^ 24:=by rw [← Nat.mul_assoc,Nat.mul_comm q (2 ^ 24)];omega
     have h2:=Nat.lt_of_mul_lt_mul_left h1
     have h3:2*4 ^ k=2 ^ (1+2*k):=by rw [Nat.pow_add,Nat.pow_mul,Nat.pow_one]
     rw [h3] at h2
     have:=(Nat.pow_lt_pow_iff_right (a:=2) (by decide)).1 h2
     omega
    have e7:n0+((k+1:Nat):Int)=n0+(k:Int)+1:=by omega
    repeat' (first|apply Ad.assoc|apply Ad.AA|apply Ad.region|apply Ad.Au|apply Ad.Ai|apply AO.normal|apply AL.normal|apply Af.nil|apply Af.one|(apply Aa.fn;rfl;rfl;exact cc;intro _;rfl)|(apply Aa.fn;rfl;rfl;exact q4;intro _;rfl)|(apply Aa.assign;rfl)|(apply Aa.move;rfl)|(apply Aa.Bq;rfl;rfl;omega)|(apply Aa.int;rfl;rfl;rfl)|(apply Ad.Ae;rfl)|(intro _;try (exfalso;omega)))
    all_goals try (exfalso;omega)
    refine Aw.normal ⟨k+1,⟨by omega,?_⟩,by omega,⟨by omega,?_,?_⟩⟩
    ·rw [← hs,show 30-k=(30-(k+1))+1 by omega,e7]
     conv=>rhs;rw [sh3]
     rw [if_pos hlt,Nat.pow_succ,Nat.mul_assoc (q*2)]
    ·rw [e7,Nat.pow_succ,← Nat.mul_assoc];repeat (first|exact Ak.nil|refine Ak.same (by exact PV.Ac rfl) rfl ?_|refine Ak.cons trivial rfl (.of_eq (Aq (by simp<;>omega))) ?_)
    ·exact Ah.nil
   ·have hc:¬ XP p (q*2*4 ^ k)>0:=fun h=>hlt (hcp.1 h)
    have hR3:sh3 p 30 (q*2) n0=n0+(k:Int):=by
     rw [← hs]
     cases 30-k with
     |zero=>rfl
     |succ f=>rw [sh3,if_neg hlt]
    rw [hR3]
    repeat' (first|apply Ad.assoc|apply Ad.AA|apply Ad.AX|apply AO.normal|apply AL.exit|apply Aw.exit|apply Ad.ret|apply Af.nil|apply Af.one|(apply Aa.fn;rfl;rfl;exact cc;intro _;rfl)|(apply Aa.assign;rfl)|(apply Aa.move;rfl)|(apply Aa.int;rfl;rfl;rfl)|(apply Ad.Ae;rfl)|(intro _;try (exfalso;omega)))
    all_goals first|(exfalso;omega)|(refine Done.ret rfl (.refl _) (by exact PV.Ac rfl) Ah.nil (Nat.zero_le _) (Nat.le_refl _) ⟨?_,rfl,rfl⟩;try rfl)
def BU (x y:JJ):Int×Int:=if bothR x y≠0 then (0,bothR x y) else (xI x y,0)
theorem wR {x y:JJ}:bothR x y=0↔pI x∧pI y:=by
 unfold bothR
 rw [← Oy,← Oy]
 split
 ·rename_i h;exact ⟨fun h'=>absurd h' h,fun h'=>absurd h'.1 h⟩
 ·rename_i h;exact ⟨fun h'=>⟨Classical.not_not.1 h,h'⟩,fun h'=>h'.2⟩
theorem NP (x y:JJ):AY env 44 [.agg (Enc.enc x),.agg (Enc.enc y)] (.EP [.p (.int .i64 (BU x y).1),.p (.int .i64 (BU x y).2)]):=by
 have hb:=jL x y
 by_cases h:bothR x y=0
 ·rw [h] at hb
  have ok:=wR.1 h
  have hs:=JK x y ok.1 ok.2
  rw [show BU x y=(xI x y,0) from if_neg (fun h'=>h' h)]
  refine AY.enter (AB (by decide)) Tryz.func44 rfl (by kernel_rfl) (by simp [Tryz.ntmps44]) ?_
  repeat' (first|apply Ad.assoc|apply Ad.AA|apply Ad.Au|apply Ad.ret|apply Af.nil|apply Af.one|(apply Aa.fn;rfl;rfl;exact hb;intro _;rfl)|(apply Aa.fn;rfl;rfl;exact hs;intro _;rfl)|(apply Aa.assign;rfl)|(apply Aa.move;rfl)|(apply Aa.int;rfl;rfl;rfl)|(apply Aa.load;rfl;rfl)|(apply Aa.box;rfl;trivial)|(apply Ad.Az;rfl))
  all_goals first|(exfalso;omega)|(refine Done.ret rfl (.refl _) (by exact PV.Ac rfl) Ah.nil (Nat.zero_le _) (Nat.le_refl _) ⟨?_,rfl,rfl⟩;try rfl)
 ·rw [show BU x y=(0,bothR x y) from if_pos h]
  refine AY.enter (AB (by decide)) Tryz.func44 rfl (by kernel_rfl) (by simp [Tryz.ntmps44]) ?_
  repeat' (first|apply Ad.assoc|apply Ad.AA|apply Ad.BL|apply Af.nil|apply Af.one|(apply Aa.fn;rfl;rfl;exact hb;intro _;rfl)|(apply Aa.assign;rfl)|(apply Aa.move;rfl)|(apply Aa.int;rfl;rfl;rfl)|(apply Aa.load;rfl;rfl)|(apply Aa.box;rfl;trivial)|(apply Ad.Ae;rfl)|(intro _;try (exfalso;omega)))
  all_goals first|(exfalso;omega)|(refine Done.ret rfl (.refl _) (by exact PV.Ac rfl) Ah.nil (Nat.zero_le _) (Nat.le_refl _) ⟨?_,rfl,rfl⟩;try rfl)
end Go.Proofs.YtdabojnmoejilaaGreatDoor
namespace Go.Proofs.YtdabojnmoejilaaGreatDoor
open Go Go.Am Go.Vm
attribute [local irreducible] Aa Af Ar Ad BA AY CG AO AL Aw Vm.Done CW Bl
structure FQ where
 name:List UInt8
 Fq:List UInt8
 Du:JJ
 first:Int
 ES:List Int
instance:Enc FQ:={ default:=⟨[],[],⟨0,0⟩,0,[]⟩,enc:=fun r=>[.str (bs r.name),.str (bs r.Fq),.int .i64 r.Du.num,.int .i64 r.Du.den,.int .i64 r.first,.lst 3 (cells r.ES) r.ES.length],size:=6,len:=fun _=>rfl }
theorem PV.Jk {a b:Bool} (h:a=b):PV.p (.bool a)=PV.p (.bool b):=by rw [h]
def XZ (x:Int):Prop:=x<0∨x>1000000
instance (x:Int):Decidable (XZ x):=by unfold XZ;infer_instance
theorem zM (x:Int):AY env 107 [.int .i64 x] (.p (.bool (decide (XZ x)))):=by
 refine AY.enter (AB (by decide)) Tryz.func107 rfl (by kernel_rfl) (by simp [Tryz.ntmps107]) ?_
 repeat' (first|apply Ad.AA|apply Ad.ret|apply Af.nil|apply Af.one|(apply Af.take;rfl;rfl)|(apply Af.drop;rfl;rfl;rfl)|(apply Af.guard;rfl;rfl)|(apply Aa.assign;rfl)|(apply Aa.move;rfl)|(apply Aa.int;rfl;rfl;rfl)|(apply Aa.Bz;rfl;rfl)|(apply Aa.AU;rfl;rfl)|(intro _;try (exfalso;omega)))
 all_goals (refine Done.ret rfl (.refl _) (by exact PV.Ac rfl) Ah.nil (Nat.zero_le _) (Nat.le_refl _) ⟨?_,rfl,rfl⟩;refine PV.Jk ?_;first|(refine decide_eq_decide.2 ⟨fun h=>by unfold XZ;omega,fun h=>by unfold XZ at h;omega⟩)|(symm;apply decide_eq_true;unfold XZ;omega))
def okW (l:List Int):Prop:=∀ i,i<l.length→¬ XZ (gi l i)
noncomputable instance (l:List Int):Decidable (okW l):=Classical.propDecidable _
noncomputable def Dw (l:List Int):Int:=if okW l then 0 else 3
theorem a3a {L:Vm.Frame} {H:Vm.Heap} {nx:Nat} {Q:PV→Vm.Heap→Nat→Prop} {dst:Option Tmp} {ty:TypeId} {pos:String} {af:Array Edge} {gd:Option (Nat×Bool)} {fo:Operand} {args:Array Operand} {aT:Array TypeId} {fs cs xs:List PV} {c:Code}
 (hf:BD env.Γ L fo=some (.clo 75 fs cs)) (ha:evs env.Γ L args.toList=some xs) (hb:Tryz.f75.body=some c) (hn:(fs++xs++cs).length≤Tryz.f75.ntmps)
 (h:Ad env nx c (CS 0 (fs++xs++cs)) H nx (Bl env.P Tryz.f75.results.toList Q)):Aa env true ⟨dst,.call { callee:=.value fo,args:=args,argTypes:=aT },ty,pos,af,gd⟩ L H nx Q:=by
 have h0:(match Tryz.f75.body with|some c=>Hy env.G Tryz.f75 c|none=>false)=true:=by kernel_rfl
 rw [hb] at h0
 exact Aa.inline rfl hf ha (AB (by decide)) Tryz.func75 hb h0 hn h
theorem a2h {L:Vm.Frame} {H:Vm.Heap} {nx:Nat} {Q:PV→Vm.Heap→Nat→Prop} {dst:Option Tmp} {ty:TypeId} {pos:String} {af:Array Edge} {gd:Option (Nat×Bool)} {fo:Operand} {args:Array Operand} {aT:Array TypeId} {fs cs xs:List PV} {c:Code}
 (hf:BD env.Γ L fo=some (.clo 104 fs cs)) (ha:evs env.Γ L args.toList=some xs) (hb:Tryz.f104.body=some c) (hn:(fs++xs++cs).length≤Tryz.f104.ntmps)
 (h:Ad env nx c (CS 0 (fs++xs++cs)) H nx (Bl env.P Tryz.f104.results.toList Q)):Aa env true ⟨dst,.call { callee:=.value fo,args:=args,argTypes:=aT },ty,pos,af,gd⟩ L H nx Q:=by
 have h0:(match Tryz.f104.body with|some c=>Hy env.G Tryz.f104 c|none=>false)=true:=by kernel_rfl
 rw [hb] at h0
 exact Aa.inline rfl hf ha (AB (by decide)) Tryz.func104 hb h0 hn h
theorem kF (l:List Int) (hl:l.length<9223372036854775808):AY env 88 [.lst 3 (cells l) l.length] (.p (.int .i64 (Dw l))):=by
 refine AY.enter (AB (by decide)) Tryz.func88 rfl (by kernel_rfl) (by simp [Tryz.ntmps88]) ?_
 repeat' (first|apply Ad.assoc|apply Ad.AA|apply Ad.Ai|apply Af.nil|apply Af.one|(apply a3a;rfl;rfl;rfl;exact le_dec rfl)|(apply a2h;rfl;rfl;rfl;exact le_dec rfl)|(apply Aa.assign;rfl)|(apply Aa.move;rfl)|(apply Aa.BH;rfl;rfl))
 refine Ad.D8 (fun k:Nat=>[(0,lst 3 l),(1,.clo 107 [] []),(7,.p (.int .i64 (l.length:Int))),(8,.p (.int .i64 (k:Int)))]) (fun _=>[]) 0 (fun k=>k≤l.length∧∀ i,i<k→¬ XZ (gi l i)) (fun k=>l.length-k) 0 (by omega) ⟨by omega,fun i hi=>by omega⟩ ⟨by omega,?_,?_⟩ ?_
 ·repeat (first|exact Ak.nil|refine Ak.same (by exact PV.Ac rfl) rfl ?_|refine Ak.cons trivial rfl (.of_eq (Aq (by simp<;>omega))) ?_)
 ·exact Ah.nil
 rintro k ⟨hk,hok⟩
 have hw:=zM (gi l k)
 repeat' (first|apply Ad.assoc|apply Ad.AA|apply Ad.region|apply Ad.Au|apply Ad.BL|apply Ad.AX|apply Ad.Ai|apply AO.normal|apply AO.ret|(apply Bl.ret;rfl)|apply AL.normal|apply AL.ret|apply AL.exit|apply Aw.ret|apply Aw.exit|apply Ad.ret|apply Ad.skip|apply Af.nil|apply Af.one|(apply Aa.fn;rfl;rfl;exact hw;intro _;rfl)|(apply Aa.assign;rfl)|(apply Aa.move;rfl)|(apply Aa.Bq;rfl;rfl;omega)|(apply Aa.int;rfl;rfl;rfl)|(apply Aa.AV;rfl;rfl;rfl;omega;rfl)|(apply Aa.load;rfl;rfl)|(apply Ad.Bh;rfl)|(apply Ad.Az;rfl)|(apply Ad.Ae;rfl)|(apply Ad.AZ;rfl)|(intro _;try (exfalso;omega)))
 ·rename_i a1 a2
  rw [show Dw l=3 from if_neg (fun h=>h k (by omega) a2)]
  (refine Done.ret rfl (.refl _) (by exact PV.Ac rfl) Ah.nil (Nat.zero_le _) (Nat.le_refl _) ⟨?_,rfl,rfl⟩;try rfl)
 ·rename_i a1 a2
  refine Aw.normal ⟨k+1,⟨by omega,fun i hi=>?_⟩,by omega,⟨by omega,?_,?_⟩⟩
  ·rcases Nat.lt_or_ge i k with h|h
   ·exact hok i h
   ·obtain rfl:i=k:=by omega
    exact a2
  ·repeat (first|exact Ak.nil|refine Ak.same (by exact PV.Ac rfl) rfl ?_|refine Ak.cons trivial rfl (.of_eq (Aq (by simp<;>omega))) ?_)
  ·exact Ah.nil
 ·rename_i a1
  rw [show Dw l=0 from if_pos (fun i hi=>hok i (by omega))]
  (refine Done.ret rfl (.refl _) (by exact PV.Ac rfl) Ah.nil (Nat.zero_le _) (Nat.le_refl _) ⟨?_,rfl,rfl⟩;try rfl)
def bT (c:Nat):Prop:=(65≤c∧c≤90)∨(97≤c∧c≤122)
instance (c:Nat):Decidable (bT c):=by unfold bT;infer_instance
def nmC (c:Nat):Prop:=bT c∨(48≤c∧c≤57)∨c=95
theorem TV (c:Nat) (hc:c<256):AY env 85 [.int .u8 (c:Int)] (.p (.bool (decide (bT c)))):=by
 refine AY.enter (AB (by decide)) Tryz.func85 rfl (by kernel_rfl) (by simp [Tryz.ntmps85]) ?_
 repeat' (first|apply Ad.AA|apply Ad.ret|apply Af.nil|apply Af.one|(apply Af.take;rfl;rfl)|(apply Af.drop;rfl;rfl;rfl)|(apply Af.guard;rfl;rfl)|(apply Af.nO;rfl;rfl)|(apply Aa.assign;rfl)|(apply Aa.move;rfl)|(apply Aa.int;rfl;rfl;rfl)|(apply Aa.Bz;rfl;rfl)|(apply Aa.AU;rfl;rfl)|(intro _;try (exfalso;omega)))
 all_goals (refine Done.ret rfl (.refl _) (by exact PV.Ac rfl) Ah.nil (Nat.zero_le _) (Nat.le_refl _) ⟨?_,rfl,rfl⟩;refine PV.Jk ?_;first|(refine decide_eq_decide.2 ⟨fun h=>by unfold bT;omega,fun h=>by unfold bT at h;omega⟩)|(symm;apply decide_eq_true;unfold bT;omega)|(symm;apply decide_eq_false;unfold bT;omega))
def C9 (s:List UInt8):Prop:=0<s.length∧s.length≤32∧bT (gi s 0).toNat∧∀ i,1≤i→i<s.length→nmC (gi s i).toNat
noncomputable instance (s:List UInt8):Decidable (C9 s):=Classical.propDecidable _
theorem Hq (s:List UInt8) (hs:s.length<9223372036854775808):AY env 57 [.str (bs s)] (.p (.bool (decide (C9 s)))):=by
 have hl0:=TV (gi s 0).toNat (gi s 0).toNat_lt
 by_cases hz:s=[]
 ·subst hz
  rw [decide_eq_false (show ¬ C9 [] from fun h=>absurd h.1 (by decide))]
  refine AY.enter (AB (by decide)) Tryz.func57 rfl (by kernel_rfl) (by simp [Tryz.ntmps57]) ?_
  repeat' (first|apply Ad.assoc|apply Ad.AA|apply Ad.BL|apply Af.nil|apply Af.one|(apply Af.drop;rfl;rfl;rfl)|(apply Aa.assign;rfl)|(apply Aa.move;rfl)|(apply Aa.Bz;rfl;rfl)|(apply Aa.eqS;rfl;rfl)|(apply Ad.Bh;rfl))
  all_goals first|(refine Done.ret rfl (.refl _) (by exact PV.Ac rfl) Ah.nil (Nat.zero_le _) (Nat.le_refl _) ⟨?_,rfl,rfl⟩;try rfl)|contradiction
 ·have hpos:0<s.length:=List.length_pos_iff.2 hz
  refine AY.enter (AB (by decide)) Tryz.func57 rfl (by kernel_rfl) (by simp [Tryz.ntmps57]) ?_
  by_cases h32:s.length≤32
  ·by_cases hL:bT (gi s 0).toNat
   ·rw [decide_eq_true hL] at hl0
    repeat' (first|apply Ad.assoc|apply Ad.AA|apply Ad.Au|apply Ad.BL|apply Ad.Ai|apply Af.nil|apply Af.one|(apply Af.take;rfl;rfl)|(apply Af.drop;rfl;rfl;rfl)|(apply Af.guard;rfl;rfl)|(apply Aa.fn;rfl;rfl;exact hl0;intro _;rfl)|(apply Aa.Rk (i:=0);rfl;rfl;rfl;omega)|(apply Aa.assign;rfl)|(apply Aa.move;rfl)|(apply Aa.int;rfl;rfl;rfl)|(apply Aa.Bz;rfl;rfl)|(apply Aa.AU;rfl;rfl)|(apply Aa.KA;rfl;rfl)|(apply Aa.eqS;rfl;rfl)|(apply Aa.not;rfl)|(apply Ad.Bh;rfl)|(apply Ad.Az;rfl)|(intro _;try (exfalso;omega)))
    all_goals try (exfalso;omega)
    all_goals try contradiction
    refine Ad.D8 (fun k:Nat=>[(0,st s),(3,.p (.int .i64 (k:Int)))]) (fun _=>[]) 0 (fun k=>1≤k∧k≤s.length∧∀ i,1≤i→i<k→nmC (gi s i).toNat) (fun k=>s.length-k) 1 (by omega) ⟨by omega,by omega,fun i h1 h2=>by omega⟩ ⟨by omega,?_,?_⟩ ?_
    ·repeat (first|exact Ak.nil|refine Ak.same (by exact PV.Ac rfl) rfl ?_|refine Ak.cons trivial rfl (.of_eq (Aq (by simp<;>omega))) ?_)
    ·exact Ah.nil
    rintro k ⟨hk1,hk2,hok⟩
    have hlk:=TV (gi s k).toNat (gi s k).toNat_lt
    have hc256:=(gi s k).toNat_lt
    have hnext:nmC (gi s k).toNat→∀ i,1≤i→i<k+1→nmC (gi s i).toNat:=fun h i h1 h2=>by
     rcases Nat.lt_or_ge i k with h3|h3
     ·exact hok i h1 h3
     ·obtain rfl:i=k:=by omega
      exact h
    have hbad:k<s.length→¬ nmC (gi s k).toNat→decide (C9 s)=false:=fun h1 h2=>decide_eq_false fun h=>h2 (h.2.2.2 k hk1 h1)
    by_cases hkl:k<s.length
    ·by_cases hLk:bT (gi s k).toNat
     ·rw [decide_eq_true hLk] at hlk
      repeat' (first|apply Ad.assoc|apply Ad.AA|apply Ad.region|apply Ad.Au|apply Ad.Ai|apply AO.normal|apply AL.normal|apply Ad.skip|apply Af.nil|apply Af.one|(apply Af.drop;rfl;rfl;rfl)|(apply Af.nO;rfl;rfl)|(apply Aa.fn;rfl;rfl;exact hlk;intro _;rfl)|(apply Aa.assign;rfl)|(apply Aa.move;rfl)|(apply Aa.Bq;rfl;rfl;omega)|(apply Aa.int;rfl;rfl;rfl)|(apply Aa.AU;rfl;rfl)|(apply Aa.KA;rfl;rfl)|(apply Aa.Rk;rfl;rfl;rfl;omega)|(apply Aa.not;rfl)|(apply Ad.Ae;rfl)|(apply Ad.cond_false;rfl)|(intro _;try (exfalso;omega)))
      all_goals try (exfalso;omega)
      refine Aw.normal ⟨k+1,⟨by omega,by omega,hnext (.inl hLk)⟩,by omega,⟨by omega,?_,?_⟩⟩
      ·repeat (first|exact Ak.nil|refine Ak.same (by exact PV.Ac rfl) rfl ?_|refine Ak.cons trivial rfl (.of_eq (Aq (by simp<;>omega))) ?_)
      ·exact Ah.nil
     ·rw [decide_eq_false hLk] at hlk
      have hn1:nmC (gi s k).toNat↔(48≤(gi s k).toNat∧(gi s k).toNat≤57)∨(gi s k).toNat=95:=⟨fun h=>h.resolve_left hLk,fun h=>.inr h⟩
      repeat' (first|apply Ad.assoc|apply Ad.AA|apply Ad.region|apply Ad.Au|apply Ad.Ai|apply AO.normal|apply AO.ret|apply AL.normal|apply AL.ret|apply Aw.ret|apply Ad.ret|apply Ad.skip|apply Af.nil|apply Af.one|(apply Af.take;rfl;rfl)|(apply Af.drop;rfl;rfl;rfl)|(apply Af.guard;rfl;rfl)|(apply Aa.fn;rfl;rfl;exact hlk;intro _;rfl)|(apply Aa.assign;rfl)|(apply Aa.move;rfl)|(apply Aa.Bq;rfl;rfl;omega)|(apply Aa.int;rfl;rfl;rfl)|(apply Aa.Bz;rfl;rfl)|(apply Aa.AU;rfl;rfl)|(apply Aa.KA;rfl;rfl)|(apply Aa.Rk;rfl;rfl;rfl;omega)|(apply Aa.not;rfl)|(apply Ad.Ae;rfl)|(apply Ad.cond_false;rfl)|(apply Ad.AZ;rfl)|(intro _;try (exfalso;omega)))
      all_goals try (exfalso;omega)
      all_goals first
       |(rw [hbad hkl (fun h=>by have:=hn1.1 h;omega)];(refine Done.ret rfl (.refl _) (by exact PV.Ac rfl) Ah.nil (Nat.zero_le _) (Nat.le_refl _) ⟨?_,rfl,rfl⟩;try rfl);done)
       |(refine Aw.normal ⟨k+1,⟨by omega,by omega,hnext (hn1.2 (by omega))⟩,by omega,⟨by omega,?_,Ah.nil⟩⟩;repeat (first|exact Ak.nil|refine Ak.same (by exact PV.Ac rfl) rfl ?_|refine Ak.cons trivial rfl (.of_eq (Aq (by simp<;>omega))) ?_))
    ·obtain rfl:k=s.length:=by omega
     rw [decide_eq_true (show C9 s from ⟨hpos,h32,hL,fun i h1 h2=>hok i h1 h2⟩)]
     repeat' (first|apply Ad.assoc|apply Ad.AA|apply Ad.AX|apply AO.normal|apply AL.exit|apply Aw.exit|apply Ad.ret|apply Af.nil|apply Af.one|(apply Aa.assign;rfl)|(apply Aa.move;rfl)|(apply Aa.int;rfl;rfl;rfl)|(apply Aa.KA;rfl;rfl)|(apply Ad.Ae;rfl)|(intro _;try (exfalso;omega)))
     all_goals first|(exfalso;omega)|(refine Done.ret rfl (.refl _) (by exact PV.Ac rfl) Ah.nil (Nat.zero_le _) (Nat.le_refl _) ⟨?_,rfl,rfl⟩;try rfl)
   ·rw [decide_eq_false (show ¬ C9 s from fun h=>hL h.2.2.1)]
    rw [decide_eq_false hL] at hl0
    repeat' (first|apply Ad.assoc|apply Ad.AA|apply Ad.BL|apply Af.nil|apply Af.one|(apply Af.take;rfl;rfl)|(apply Af.drop;rfl;rfl;rfl)|(apply Af.guard;rfl;rfl)|(apply Aa.fn;rfl;rfl;exact hl0;intro _;rfl)|(apply Aa.Rk (i:=0);rfl;rfl;rfl;omega)|(apply Aa.assign;rfl)|(apply Aa.move;rfl)|(apply Aa.int;rfl;rfl;rfl)|(apply Aa.Bz;rfl;rfl)|(apply Aa.AU;rfl;rfl)|(apply Aa.KA;rfl;rfl)|(apply Aa.eqS;rfl;rfl)|(apply Aa.not;rfl)|(apply Ad.Bh;rfl)|(intro _;try (exfalso;omega)))
    all_goals first|(exfalso;omega)|contradiction|(refine Done.ret rfl (.refl _) (by exact PV.Ac rfl) Ah.nil (Nat.zero_le _) (Nat.le_refl _) ⟨?_,rfl,rfl⟩;try rfl)
  ·rw [decide_eq_false (show ¬ C9 s from fun h=>h32 h.2.1)]
   repeat' (first|apply Ad.assoc|apply Ad.AA|apply Ad.BL|apply Af.nil|apply Af.one|(apply Af.take;rfl;rfl)|(apply Af.drop;rfl;rfl;rfl)|(apply Af.guard;rfl;rfl)|(apply Aa.assign;rfl)|(apply Aa.move;rfl)|(apply Aa.int;rfl;rfl;rfl)|(apply Aa.Bz;rfl;rfl)|(apply Aa.AU;rfl;rfl)|(apply Aa.KA;rfl;rfl)|(apply Aa.eqS;rfl;rfl)|(apply Ad.Bh;rfl)|(intro _;try (exfalso;omega)))
   all_goals first|(exfalso;omega)|contradiction|(refine Done.ret rfl (.refl _) (by exact PV.Ac rfl) Ah.nil (Nat.zero_le _) (Nat.le_refl _) ⟨?_,rfl,rfl⟩;try rfl)
noncomputable def DR (r:FQ):Int:=if ¬ C9 r.name∨¬ C9 r.Fq then 8 else if O7 r.Du≠0 then O7 r.Du else if r.first< -256∨r.first>256 then 3 else if r.ES.length=0 then 13 else if r.ES.length>128 then 4 else Dw r.ES
def Oh (n:Int):Prop:=-256≤n∧n≤256
instance (n:Int):Decidable (Oh n):=by unfold Oh;infer_instance
theorem iR (n:Int):AY env 87 [.int .i64 n] (.p (.bool (decide (Oh n)))):=by
 refine AY.enter (AB (by decide)) Tryz.func87 rfl (by kernel_rfl) (by simp [Tryz.ntmps87]) ?_
 repeat' (first|apply Ad.AA|apply Ad.ret|apply Af.nil|apply Af.one|(apply Af.take;rfl;rfl)|(apply Af.drop;rfl;rfl;rfl)|(apply Af.guard;rfl;rfl)|(apply Aa.assign;rfl)|(apply Aa.move;rfl)|(apply Aa.int;rfl;rfl;rfl)|(apply Aa.Bz;rfl;rfl)|(apply Aa.AU;rfl;rfl)|(intro _;try (exfalso;omega)))
 all_goals (refine Done.ret rfl (.refl _) (by exact PV.Ac rfl) Ah.nil (Nat.zero_le _) (Nat.le_refl _) ⟨?_,rfl,rfl⟩;refine PV.Jk ?_;first|(refine decide_eq_decide.2 ⟨fun h=>by unfold Oh;omega,fun h=>by unfold Oh at h;omega⟩)|(symm;apply decide_eq_false;unfold Oh;omega))
theorem TU (r:FQ) (h1:r.name.length<9223372036854775808) (h2:r.Fq.length<9223372036854775808) (h3:r.ES.length<9223372036854775808):AY env 58 [.agg (Enc.enc r)] (.p (.int .i64 (DR r))):=by
 have n1:=Hq r.name h1
 have n2:=Hq r.Fq h2
 have p1:=KG r.Du
 have f1:=iR r.first
 have w1:=kF r.ES h3
 unfold DR
 refine AY.enter (AB (by decide)) Tryz.func58 rfl (by kernel_rfl) (by simp [Tryz.ntmps58]) ?_
 by_cases a1:C9 r.name
 ·rw [decide_eq_true a1] at n1
  by_cases a2:C9 r.Fq
  ·rw [decide_eq_true a2] at n2
   rw [if_neg (fun h=>h.elim (fun h=>h a1) (fun h=>h a2))]
   by_cases a3:Oh r.first
   ·rw [decide_eq_true a3] at f1
    unfold Oh at a3
    repeat' (first|apply Ad.assoc|apply Ad.AA|apply Ad.Au|apply Ad.BL|apply Ad.Ai|apply AO.normal|apply AO.ret|apply AL.normal|apply AL.ret|apply Ad.ret|apply Ad.skip|apply Af.nil|apply Af.one|(apply Af.take;rfl;rfl)|(apply Aa.fn;rfl;rfl;exact n1;intro _;rfl)|(apply Aa.fn;rfl;rfl;exact n2;intro _;rfl)|(apply Aa.fn;rfl;rfl;exact p1;intro _;rfl)|(apply Aa.fn;rfl;rfl;exact f1;intro _;rfl)|(apply Aa.fn;rfl;rfl;exact w1;intro _;rfl)|(apply Aa.assign;rfl)|(apply Aa.move;rfl)|(apply Aa.int;rfl;rfl;rfl)|(apply Aa.load;rfl;rfl)|(apply Aa.AU;rfl;rfl)|(apply Aa.BH;rfl;rfl)|(apply Aa.AQ;rfl;rfl;rfl)|(apply Aa.box;rfl;trivial)|(apply Aa.not;rfl)|(apply Ad.Az;rfl)|(apply Ad.Ae;rfl)|(apply Ad.cond_false;rfl)|(apply Ad.AZ;rfl)|(intro _;try (exfalso;omega)))
    all_goals first
     |(rw [if_pos (by assumption)];(refine Done.ret rfl (.refl _) (by exact PV.Ac rfl) Ah.nil (Nat.zero_le _) (Nat.le_refl _) ⟨?_,rfl,rfl⟩;try rfl);done)
     |(rw [if_neg (by assumption),if_neg (by omega),if_pos (by omega)];(refine Done.ret rfl (.refl _) (by exact PV.Ac rfl) Ah.nil (Nat.zero_le _) (Nat.le_refl _) ⟨?_,rfl,rfl⟩;try rfl);done)
     |(rw [if_neg (by assumption),if_neg (by omega),if_neg (by omega),if_pos (by omega)];(refine Done.ret rfl (.refl _) (by exact PV.Ac rfl) Ah.nil (Nat.zero_le _) (Nat.le_refl _) ⟨?_,rfl,rfl⟩;try rfl);done)
     |(rw [if_neg (by assumption),if_neg (by omega),if_neg (by omega),if_neg (by omega)];(refine Done.ret rfl (.refl _) (by exact PV.Ac rfl) Ah.nil (Nat.zero_le _) (Nat.le_refl _) ⟨?_,rfl,rfl⟩;try rfl);done)
   ·rw [decide_eq_false a3] at f1
    unfold Oh at a3
    repeat' (first|apply Ad.assoc|apply Ad.AA|apply Ad.Au|apply Ad.BL|apply Ad.Ai|apply AO.ret|apply AL.ret|apply Ad.ret|apply Af.nil|apply Af.one|(apply Af.take;rfl;rfl)|(apply Aa.fn;rfl;rfl;exact n1;intro _;rfl)|(apply Aa.fn;rfl;rfl;exact n2;intro _;rfl)|(apply Aa.fn;rfl;rfl;exact p1;intro _;rfl)|(apply Aa.fn;rfl;rfl;exact f1;intro _;rfl)|(apply Aa.assign;rfl)|(apply Aa.move;rfl)|(apply Aa.int;rfl;rfl;rfl)|(apply Aa.load;rfl;rfl)|(apply Aa.AU;rfl;rfl)|(apply Aa.AQ;rfl;rfl;rfl)|(apply Aa.box;rfl;trivial)|(apply Aa.not;rfl)|(apply Ad.Az;rfl)|(apply Ad.Ae;rfl)|(apply Ad.cond_true;rfl)|(intro _;try (exfalso;omega)))
    all_goals first
     |(rw [if_pos (by assumption)];(refine Done.ret rfl (.refl _) (by exact PV.Ac rfl) Ah.nil (Nat.zero_le _) (Nat.le_refl _) ⟨?_,rfl,rfl⟩;try rfl);done)
     |(rw [if_neg (by assumption),if_pos (by omega)];(refine Done.ret rfl (.refl _) (by exact PV.Ac rfl) Ah.nil (Nat.zero_le _) (Nat.le_refl _) ⟨?_,rfl,rfl⟩;try rfl);done)
  ·rw [decide_eq_false a2] at n2
   rw [if_pos (.inr a2)]
   repeat' (first|apply Ad.assoc|apply Ad.AA|apply Ad.BL|apply Af.nil|apply Af.one|(apply Af.take;rfl;rfl)|(apply Aa.fn;rfl;rfl;exact n1;intro _;rfl)|(apply Aa.fn;rfl;rfl;exact n2;intro _;rfl)|(apply Aa.assign;rfl)|(apply Aa.move;rfl)|(apply Aa.load;rfl;rfl)|(apply Aa.AU;rfl;rfl)|(apply Aa.AQ;rfl;rfl;rfl)|(apply Aa.box;rfl;trivial)|(apply Aa.not;rfl)|(apply Ad.Bh;rfl))
   all_goals (refine Done.ret rfl (.refl _) (by exact PV.Ac rfl) Ah.nil (Nat.zero_le _) (Nat.le_refl _) ⟨?_,rfl,rfl⟩;try rfl)
 ·rw [decide_eq_false a1] at n1
  rw [if_pos (.inl a1)]
  repeat' (first|apply Ad.assoc|apply Ad.AA|apply Ad.BL|apply Af.nil|apply Af.one|(apply Af.drop;rfl;rfl;rfl)|(apply Aa.fn;rfl;rfl;exact n1;intro _;rfl)|(apply Aa.assign;rfl)|(apply Aa.move;rfl)|(apply Aa.load;rfl;rfl)|(apply Aa.Bz;rfl;rfl)|(apply Aa.AQ;rfl;rfl;rfl)|(apply Aa.box;rfl;trivial)|(apply Aa.not;rfl)|(apply Ad.Bh;rfl))
  all_goals (refine Done.ret rfl (.refl _) (by exact PV.Ac rfl) Ah.nil (Nat.zero_le _) (Nat.le_refl _) ⟨?_,rfl,rfl⟩;try rfl)
end Go.Proofs.YtdabojnmoejilaaGreatDoor
namespace Go.Proofs.YtdabojnmoejilaaGreatDoor
open Go Go.Am Go.Vm
structure bD where
 rank:Int
 shift:Int
instance:Enc bD:={ default:=⟨0,0⟩,enc:=fun x=>[.int .i64 x.rank,.int .i64 x.shift],size:=2,len:=fun _=>rfl }
structure Seg where
 lo:Int
 hi:Int
 draws:List bD
instance:Enc Seg:={ default:=⟨0,0,[]⟩,enc:=fun x=>[.int .i64 x.lo,.int .i64 x.hi,.lst 133 (cells x.draws) x.draws.length],size:=3,len:=fun _=>rfl }
structure Stp where
 name:List UInt8
 Du:JJ
 Fb:List Seg
instance:Enc Stp:={ default:=⟨[],⟨0,0⟩,[]⟩,enc:=fun x=>[.str (bs x.name),.int .i64 x.Du.num,.int .i64 x.Du.den,.lst 136 (cells x.Fb) x.Fb.length],size:=4,len:=fun _=>rfl }
structure VB where
 name:List UInt8
 EH:Bool
 lo:Int
 hi:Int
 stops:List Stp
instance:Enc VB:={ default:=⟨[],false,0,0,[]⟩,enc:=fun x=>[.str (bs x.name),.bool x.EH,.int .i64 x.lo,.int .i64 x.hi,.lst 122 (cells x.stops) x.stops.length],size:=5,len:=fun _=>rfl }
structure Xq where
 name:List UInt8
 BG:Int
 tgt:Int
 shift:Int
 through:Bool
instance:Enc Xq:={ default:=⟨[],0,0,0,false⟩,enc:=fun x=>[.str (bs x.name),.int .i64 x.BG,.int .i64 x.tgt,.int .i64 x.shift,.bool x.through],size:=5,len:=fun _=>rfl }
structure EN where
 name:List UInt8
 ranks:List FQ
 Ap:List VB
 BF:List Xq
instance:Enc EN:={ default:=⟨[],[],[],[]⟩,enc:=fun x=>[.str (bs x.name),.lst 131 (cells x.ranks) x.ranks.length,.lst 97 (cells x.Ap) x.Ap.length,.lst 147 (cells x.BF) x.BF.length],size:=4,len:=fun _=>rfl }
structure aQ where
 lo:Int
 hi:Int
instance:Enc aQ:={ default:=⟨0,0⟩,enc:=fun x=>[.int .i64 x.lo,.int .i64 x.hi],size:=2,len:=fun _=>rfl }
noncomputable instance (a b:bD):Decidable (a=b):=Classical.propDecidable _
noncomputable instance (a:bD) (l:List bD):Decidable (a∈l):=Classical.propDecidable _
noncomputable instance (a:List UInt8) (l:List (List UInt8)):Decidable (a∈l):=Classical.propDecidable _
def U9 (lo hi:Int):Int:=if lo<0∨hi>127 then 3 else if lo>hi then 23 else 0
noncomputable def MZ (n:Nat) (l:List bD) (k:Nat):Int :=
 if k<l.length then
  if (gi l k).rank<0∨(gi l k).rank≥n then 10 else if (gi l k).shift< -127∨(gi l k).shift>127 then 3 else if gi l k∈l.take k then 9 else MZ n l (k+1)
 else 0
termination_by l.length-k
noncomputable def PK (n:Nat) (l:List bD):Int:=if l.length>8 then 4 else MZ n l 0
noncomputable def JF (n:Nat) (lo hi:Int) (l:List Seg) (k:Nat):Int :=
 if k<l.length then
  if min (gi l k).lo (gi l k).hi<lo∨max (gi l k).lo (gi l k).hi>hi then 23 else if (gi l k).lo>(gi l k).hi∨0<k∧(gi l k).lo≤(gi l (k-1)).hi then 6
  else if PK n (gi l k).draws≠0 then PK n (gi l k).draws else JF n lo hi l (k+1)
 else 0
termination_by l.length-k
noncomputable def xu (n:Nat) (lo hi:Int) (s:Stp):Int :=
 if ¬ C9 s.name then 8 else if O7 s.Du≠0 then O7 s.Du else if s.Fb.length=0 then 13 else if s.Fb.length>12 then 4 else JF n lo hi s.Fb 0
noncomputable def Xn (l:List FQ) (k:Nat):Int :=
 if k<l.length then if DR (gi l k)≠0 then DR (gi l k) else Xn l (k+1) else 0
termination_by l.length-k
noncomputable def gY (l:List FQ) (lo hi:Int):Int:=if l.length>60 then 4 else if Xn l 0≠0 then Xn l 0 else U9 lo hi
noncomputable def Io (rk:List FQ) (lo hi:Int) (s:Stp):Int:=if gY rk lo hi≠0 then gY rk lo hi else xu rk.length lo hi s
noncomputable def N7 (l:List FQ) (k:Nat):Int :=
 if k<l.length then if DR (gi l k)≠0 then DR (gi l k) else if (gi l k).name∈(l.take k).map FQ.name then 9 else N7 l (k+1) else 0
termination_by l.length-k
noncomputable def MW (rk:List FQ) (lo hi:Int) (l:List Stp) (k:Nat):Int :=
 if k<l.length then if Io rk lo hi (gi l k)≠0 then Io rk lo hi (gi l k) else if (gi l k).name∈(l.take k).map Stp.name then 9 else MW rk lo hi l (k+1) else 0
termination_by l.length-k
noncomputable def Jd (rk:List FQ) (d:VB):Int:=if U9 d.lo d.hi≠0 then U9 d.lo d.hi else if d.stops.length>60 then 4 else MW rk d.lo d.hi d.stops 0
noncomputable def FD (rk:List FQ) (l:List VB) (k:Nat):Int :=
 if k<l.length then if ¬ C9 (gi l k).name then 8 else if (gi l k).name∈(l.take k).map VB.name then 9 else if Jd rk (gi l k)≠0 then Jd rk (gi l k) else FD rk l (k+1) else 0
termination_by l.length-k
noncomputable def LD (n:Nat) (l:List Xq) (k:Nat):Int :=
 if k<l.length then
  if ¬ C9 (gi l k).name then 8 else if (gi l k).name∈(l.take k).map Xq.name then 9
  else if (gi l k).BG<0∨(gi l k).BG≥n∨(gi l k).tgt<0∨(gi l k).tgt≥n then 10
  else if (gi l k).shift< -127∨(gi l k).shift>127 then 3 else if (gi l k).BG=(gi l k).tgt∧(gi l k).shift=0 then 7 else LD n l (k+1)
 else 0
termination_by l.length-k
noncomputable def PZ (l:List aQ) (k:Nat):Int:=if k<l.length then if U9 (gi l k).lo (gi l k).hi≠0 then 23 else PZ l (k+1) else 0
termination_by l.length-k
noncomputable def Nh (ks:List aQ) (l:List Xq):Int:=if ks.length>8∨l.length>40 then 4 else if PZ ks 0≠0 then PZ ks 0 else LD ks.length l 0
noncomputable def KW (o:EN):Int :=
 if ¬ C9 o.name then 8 else if o.ranks.length>60 then 4 else if N7 o.ranks 0≠0 then N7 o.ranks 0 else if o.Ap.length=0 then 13 else if o.Ap.length>8 then 4
 else if FD o.ranks o.Ap 0≠0 then FD o.ranks o.Ap 0 else Nh (o.Ap.map fun d=>⟨d.lo,d.hi⟩) o.BF
structure a5p (x:Seg):Prop where
 draws:x.draws.length<1000000
structure YK (x:Stp):Prop where
 name:x.name.length<1000000
 Fb:x.Fb.length<1000000
 all:∀ i,i<x.Fb.length→a5p (gi x.Fb i)
structure uX (x:VB):Prop where
 name:x.name.length<1000000
 stops:x.stops.length<1000000
 all:∀ i,i<x.stops.length→YK (gi x.stops i)
structure Ws (r:FQ):Prop where
 name:r.name.length<1000000
 Fq:r.Fq.length<1000000
 ES:r.ES.length<1000000
structure Pg (o:EN):Prop where
 name:o.name.length<1000000
 ranks:o.ranks.length<1000000
 Ap:o.Ap.length<1000000
 BF:o.BF.length<1000000
 rk:∀ i,i<o.ranks.length→Ws (gi o.ranks i)
 dv:∀ i,i<o.Ap.length→uX (gi o.Ap i)
 cp:∀ i,i<o.BF.length→(gi o.BF i).name.length<1000000
theorem Ws.len {r:FQ} (h:Ws r):r.name.length<9223372036854775808∧r.Fq.length<9223372036854775808∧r.ES.length<9223372036854775808:=⟨by have:=h.name;omega,by have:=h.Fq;omega,by have:=h.ES;omega⟩
end Go.Proofs.YtdabojnmoejilaaGreatDoor
namespace Go.Proofs.YtdabojnmoejilaaGreatDoor
open Go Go.Am Go.Vm
theorem YD {l:List FQ} (h:∀ i,i<l.length→DR (gi l i)=0):∀ n k,l.length-k=n→Xn l k=0
 |0,k,hk=>by rw [Xn,if_neg (by omega)]
 |n+1,k,hk=>by
  rw [Xn,if_pos (by omega),if_neg (fun h'=>h' (h k (by omega)))]
  exact YD h n (k+1) (by omega)
theorem SN {l:List FQ} (h:∀ i,i<l.length→DR (gi l i)=0∧(gi l i).name∉(l.take i).map FQ.name):∀ n k,l.length-k=n→N7 l k=0
 |0,k,hk=>by rw [N7,if_neg (by omega)]
 |n+1,k,hk=>by
  obtain ⟨h1,h2⟩:=h k (by omega)
  rw [N7,if_pos (by omega),if_neg (fun h'=>h' h1),if_neg h2]
  exact SN h n (k+1) (by omega)
theorem PI {rk:List FQ} {lo hi:Int} {l:List Stp} (h:∀ i,i<l.length→Io rk lo hi (gi l i)=0∧(gi l i).name∉(l.take i).map Stp.name):∀ n k,l.length-k=n→MW rk lo hi l k=0
 |0,k,hk=>by rw [MW,if_neg (by omega)]
 |n+1,k,hk=>by
  obtain ⟨h1,h2⟩:=h k (by omega)
  rw [MW,if_pos (by omega),if_neg (fun h'=>h' h1),if_neg h2]
  exact PI h n (k+1) (by omega)
theorem Qb {rk:List FQ} {l:List VB} (h:∀ i,i<l.length→C9 (gi l i).name∧(gi l i).name∉(l.take i).map VB.name∧Jd rk (gi l i)=0):∀ n k,l.length-k=n→FD rk l k=0
 |0,k,hk=>by rw [FD,if_neg (by omega)]
 |n+1,k,hk=>by
  obtain ⟨h1,h2,h3⟩:=h k (by omega)
  rw [FD,if_pos (by omega),if_neg (fun h'=>h' h1),if_neg h2,if_neg (fun h'=>h' h3)]
  exact Qb h n (k+1) (by omega)
theorem TK {l:List aQ} (h:∀ i,i<l.length→U9 (gi l i).lo (gi l i).hi=0):∀ n k,l.length-k=n→PZ l k=0
 |0,k,hk=>by rw [PZ,if_neg (by omega)]
 |n+1,k,hk=>by
  rw [PZ,if_pos (by omega),if_neg (fun h'=>h' (h k (by omega)))]
  exact TK h n (k+1) (by omega)
structure wU (n:Nat) (c:Xq):Prop where
 name:C9 c.name
 BG:0≤c.BG∧c.BG<n
 tgt:0≤c.tgt∧c.tgt<n
 shift:-127≤c.shift∧c.shift≤127
 form:¬ (c.BG=c.tgt∧c.shift=0)
theorem Xx {m:Nat} {l:List Xq} (h:∀ i,i<l.length→wU m (gi l i)∧(gi l i).name∉(l.take i).map Xq.name):∀ n k,l.length-k=n→LD m l k=0
 |0,k,hk=>by rw [LD,if_neg (by omega)]
 |n+1,k,hk=>by
  obtain ⟨⟨h1,h2,h3,h4,h5⟩,h6⟩:=h k (by omega)
  rw [LD,if_pos (by omega),if_neg (fun h'=>h' h1),if_neg h6,if_neg (by omega),if_neg (by omega),if_neg h5]
  exact Xx h n (k+1) (by omega)
structure Ut (n:Nat) (d:bD):Prop where
 rank:0≤d.rank∧d.rank<n
 shift:-127≤d.shift∧d.shift≤127
theorem Qj {m:Nat} {l:List bD} (h:∀ i,i<l.length→Ut m (gi l i)∧gi l i∉l.take i):∀ n k,l.length-k=n→MZ m l k=0
 |0,k,hk=>by rw [MZ,if_neg (by omega)]
 |n+1,k,hk=>by
  obtain ⟨⟨h1,h2⟩,h3⟩:=h k (by omega)
  rw [MZ,if_pos (by omega),if_neg (by omega),if_neg (by omega),if_neg h3]
  exact Qj h n (k+1) (by omega)
theorem Ij {m:Nat} {d:bD} (h:Ut m d):PK m [d]=0:=by
 unfold PK
 rw [if_neg (by simp)]
 exact Qj (fun i hi=>by
  obtain rfl:i=0:=by simp at hi;omega
  exact ⟨h,by simp⟩) _ 0 rfl
theorem yO {m:Nat} {d e:bD} (h:Ut m d) (h':Ut m e) (hn:e≠d):PK m [d,e]=0:=by
 unfold PK
 rw [if_neg (by simp)]
 refine Qj (fun i hi=>?_) _ 0 rfl
 have:i=0∨i=1:=by simp at hi;omega
 rcases this with rfl|rfl
 ·exact ⟨h,by simp⟩
 ·exact ⟨h',by simpa [gi] using hn⟩
theorem La {lo hi:Int} (h:0≤lo∧lo≤hi∧hi≤127):U9 lo hi=0:=by
 unfold U9
 rw [if_neg (by omega),if_neg (by omega)]
theorem YF {l:List FQ} {lo hi:Int} (h:∀ i,i<l.length→DR (gi l i)=0) (hl:l.length≤60) (hc:0≤lo∧lo≤hi∧hi≤127):gY l lo hi=0:=by
 unfold gY
 rw [if_neg (by omega),if_neg (fun h'=>h' (YD h _ 0 rfl)),La hc]
structure a7l (n:Nat) (lo hi:Int) (g:Seg):Prop where
 pl:lo≤g.lo∧g.lo≤g.hi∧g.hi≤hi
 draws:PK n g.draws=0
theorem Ql {m:Nat} {lo hi:Int} {l:List Seg} (h:∀ i,i<l.length→a7l m lo hi (gi l i)∧(0<i→(gi l (i-1)).hi<(gi l i).lo)):∀ n k,l.length-k=n→JF m lo hi l k=0
 |0,k,hk=>by rw [JF,if_neg (by omega)]
 |n+1,k,hk=>by
  obtain ⟨⟨h1,h2⟩,h3⟩:=h k (by omega)
  rw [JF,if_pos (by omega),if_neg (by omega),if_neg (fun h'=>by
   rcases h' with h'|⟨h4,h5⟩
   ·omega
   ·have:=h3 h4;omega),if_neg (fun h'=>h' h2)]
  exact Ql h n (k+1) (by omega)
theorem Jt {n:Nat} {lo hi:Int} {s:Seg} (h1:lo≤s.lo∧s.lo≤s.hi∧s.hi≤hi) (h2:PK n s.draws=0):JF n lo hi [s] 0=0 :=
 Ql (fun i hi=>by
  obtain rfl:i=0:=by simp at hi;omega
  exact ⟨⟨h1,h2⟩,fun h=>by omega⟩) _ 0 rfl
theorem Yh {n:Nat} {lo hi:Int} {s t:Seg} (h1:lo≤s.lo∧s.lo≤s.hi∧s.hi<t.lo∧t.lo≤t.hi∧t.hi≤hi) (h2:PK n s.draws=0) (h3:PK n t.draws=0):JF n lo hi [s,t] 0=0 :=
 Ql (fun i hi=>by
  have:i=0∨i=1:=by simp at hi;omega
  rcases this with rfl|rfl
  ·exact ⟨⟨⟨h1.1,h1.2.1,show s.hi≤_ by omega⟩,h2⟩,fun h=>by omega⟩
  ·exact ⟨⟨⟨show lo≤t.lo by omega,h1.2.2.2⟩,h3⟩,fun _=>h1.2.2.1⟩) _ 0 rfl
def MJ (c:UInt8) (i:Int):List UInt8:=[c,UInt8.ofNat (48+i).toNat]
theorem a0i {c:UInt8} {i j:Nat} (hi:i<10) (hj:j<10) (h:MJ c i=MJ c j):i=j:=by
 simp only [MJ,List.cons.injEq,and_true,true_and] at h
 have:=congrArg UInt8.toNat h
 rw [UInt8.toNat_ofNat',UInt8.toNat_ofNat'] at this
 omega
theorem VL {c:UInt8} (hc:bT c.toNat) {i:Nat} (hi:i<10):C9 (MJ c i):=by
 refine ⟨by simp [MJ],by simp [MJ],hc,fun j h1 h2=>?_⟩
 obtain rfl:j=1:=by simp [MJ] at h2;omega
 have e:(gi (MJ c i) 1).toNat=48+i:=by
  show (UInt8.ofNat (48+(i:Int)).toNat).toNat=_
  rw [UInt8.toNat_ofNat'];omega
 rw [e]
 right;left;omega
theorem TS {α:Type} [Inhabited α] {f:α→List UInt8} {c:UInt8} {l:List α} (hl:l.length≤10) (h:∀ i,i<l.length→f (gi l i)=MJ c i) {k:Nat} (hk:k<l.length):f (gi l k)∉(l.take k).map f:=by
 intro hm
 rw [List.mem_map] at hm
 obtain ⟨a,ha,he⟩:=hm
 obtain ⟨j,hj,e⟩:=List.getElem_of_mem ha
 rw [List.length_take] at hj
 have e2:a=gi l j:=by
  rw [← e,List.getElem_take]
  simp [gi,List.getElem?_eq_getElem (show j<l.length by omega)]
 rw [e2,h j (by omega),h k hk] at he
 have:=a0i (by omega) (by omega) he
 omega
end Go.Proofs.YtdabojnmoejilaaGreatDoor
namespace Go.Proofs.YtdabojnmoejilaaGreatDoor
open Go Go.Am Go.Vm
attribute [local irreducible] Aa Af Ar Ad BA AY CG AO AL Aw Vm.Done CW Bl ZA
theorem ZI (a b:List Int) (h0:0<a.length+b.length) (h1:a.length+b.length≤1000) :
 CG env 102 [.lst 52 [.lst 3 (cells a) a.length,.lst 3 (cells b) b.length] 2] 3 (cells (a++b)) (a.length+b.length) false:=by
 have hg:=wB (a.length+b.length) h0 (by omega)
 rw [show ((a.length+b.length:Nat):Int)=0+(a.length:Int)+(b.length:Int) by omega] at hg
 refine CG.enter (AB (by decide)) Tryz.func102 rfl (by kernel_rfl) (by simp [Tryz.ntmps102]) ?_
 repeat' (first|apply Ad.assoc|apply Ad.AA|apply Ad.Ai|apply Af.nil|apply Af.one|(apply Aa.assign;rfl)|(apply Aa.move;rfl)|(apply Aa.BH;rfl;rfl))
 refine Ad.nH 2 ?_
 repeat' (first|apply Ad.assoc|apply Ad.AA|apply Ad.region|apply Ad.Au|apply Ad.AX|apply Ad.Ai|apply AO.normal|apply AL.normal|apply AL.exit|apply Aw.exit|apply Ad.skip|apply Af.nil|apply Af.one|(apply Aa.fv;rfl;rfl;exact hg)|(apply ZA.zero)|(apply ZA.succ)|(apply Aw.again)|(apply Aa.TF;rfl;rfl;rfl;decide;decide)|(apply Aa.assign;rfl)|(apply Aa.move;rfl)|(apply Aa.Bq;rfl;rfl;omega)|(apply Aa.int;rfl;rfl;rfl)|(apply Aa.load;rfl;rfl)|(apply Aa.BH;rfl;rfl)|(apply Ad.Bh;rfl)|(apply Ad.Az;rfl)|(apply Ad.cond_false;rfl))
 refine Ad.nH 2 ?_
 repeat' (first|apply Ad.AA|apply Ad.region|apply Ad.Au|apply Ad.AX|apply Ad.Ai|apply AO.normal|apply AL.normal|apply AL.exit|apply Aw.exit|apply Ad.ret|apply Af.nil|apply Af.one|(apply ZA.zero)|(apply ZA.succ)|(apply Aw.again)|(apply Aa.TF;rfl;rfl;rfl;decide;decide)|(apply Aa.QE (l:=a) (r:=b);rfl;rfl;rfl;rfl;rfl;rfl;rfl;(intro _ h;cases h);rfl;rfl;rfl;decide;decide;omega)|(apply Aa.N8 (r:=a);rfl;rfl;rfl;rfl;rfl;rfl;(intro _ h;cases h);rfl;rfl;rfl;decide;decide;omega)|(apply Aa.assign;rfl)|(apply Aa.move;rfl)|(apply Aa.Bq;rfl;rfl;omega)|(apply Aa.int;rfl;rfl;rfl)|(apply Aa.load;rfl;rfl)|(apply Ad.Bh;rfl)|(apply Ad.Az;rfl))
 exact CW.ret rfl rfl rfl rfl
end Go.Proofs.YtdabojnmoejilaaGreatDoor
namespace Go.Proofs.YtdabojnmoejilaaGreatDoor
open Go Go.Am Go.Vm
attribute [local irreducible] Aa Af Ar Ad BA AY CG AO AL Aw Vm.Done CW Bl
attribute [local irreducible] DR Dw xI BU
def b0o (r:FQ):Prop:=r.name.length<9223372036854775808∧r.Fq.length<9223372036854775808∧r.ES.length<9223372036854775808
noncomputable def Vj (r:FQ) (n:Int):Int:=if DR r≠0 then DR r else if n<0∨n≥r.ES.length then 10 else 0
def JA:FV:=.agg [.str ⟨#[]⟩,.str ⟨#[]⟩,.int .i64 0,.int .i64 0,.int .i64 0,.val (.slice none 0 0)]
def a0o (r:FQ) (n:Int) (w:List Int):FV×Int:=if w.length>128 then (JA,4) else if ¬ Oh n then (JA,3) else (.agg (Enc.enc { r with first:=n,ES:=w }),0)
noncomputable def a8r (r:FQ) (k:Int):Int×Bool×Int:=if Vj r k≠0 then (0,false,Vj r k) else if (BU r.Du ⟨8,1⟩).2≠0∨r.first+k+(BU r.Du ⟨8,1⟩).1<0∨r.first+k+(BU r.Du ⟨8,1⟩).1>127 then (0,false,(BU r.Du ⟨8,1⟩).2) else (r.first+k+(BU r.Du ⟨8,1⟩).1,true,0)
end Go.Proofs.YtdabojnmoejilaaGreatDoor
namespace Go.Proofs.YtdabojnmoejilaaGreatDoor
open Go Go.Am Go.Vm
attribute [local irreducible] Aa Af Ar Ad BA AY CG AO AL Aw Vm.Done CW Bl
attribute [local irreducible] DR Dw xI BU
noncomputable def b0j (r:FQ) (n:Int):Int×Bool×Int:=if DR r≠0 then (0,false,DR r) else if n<r.first∨n≥r.first+r.ES.length then (0,false,0) else (n-r.first,true,0)
noncomputable def b0p (r:FQ) (w:List Int):FV×Int:=if DR r≠0 then (JA,DR r) else if Dw w≠0 then (JA,Dw w) else a0o r (r.first-w.length) (w++r.ES)
noncomputable def a9g (r:FQ) (f:JJ):FV×Int:=if DR r≠0 then (JA,DR r) else if (BU f r.Du).2≠0 then (JA,(BU f r.Du).2) else if Oh (r.first-(BU f r.Du).1) then (.agg (Enc.enc { r with first:=r.first-(BU f r.Du).1,Du:=f }),0) else (JA,3)
end Go.Proofs.YtdabojnmoejilaaGreatDoor
namespace Go.Proofs.YtdabojnmoejilaaGreatDoor
open Go Go.Am Go.Vm
attribute [local irreducible] Aa Af Ar Ad BA AY CG AO AL Aw Vm.Done CW Bl
attribute [local irreducible] DR Dw xI BU Vj
noncomputable def b2p (r:FQ) (n:Int):Int×Int:=if Vj r n≠0 then (0,Vj r n) else (r.first+n,0)
noncomputable def b3y (r:FQ) (n:Int):Int×Int:=if Vj r n≠0 then (0,Vj r n) else (gi r.ES n.toNat,0)
noncomputable def b3a (r:FQ) (w:List Int):FV×Int:=if DR r≠0 then (JA,DR r) else if Dw w≠0 then (JA,Dw w) else a0o r r.first (r.ES++w)
end Go.Proofs.YtdabojnmoejilaaGreatDoor
namespace Go.Proofs.YtdabojnmoejilaaGreatDoor
open Go Go.Am Go.Vm
attribute [local irreducible] Aa Af Ar Ad BA AY CG AO AL Aw Vm.Done CW Bl
attribute [local irreducible] DR Dw xI BU Vj
def a5n (l:List Int):Nat→Int
 |0=>0
 |k+1=>a5n l k+gi l k
noncomputable def b2d (r:FQ):Int×Int:=if DR r≠0 then (0,DR r) else (a5n r.ES r.ES.length,0)
def PE:List JJ:=[⟨8,1⟩,⟨4,1⟩,⟨16,1⟩,⟨2,1⟩,⟨8,3⟩,⟨8,5⟩,⟨4,3⟩,⟨1,1⟩,⟨32,1⟩,⟨16,3⟩,⟨16,5⟩,⟨32,3⟩,⟨8,7⟩,⟨2,3⟩,⟨1,2⟩,⟨64,1⟩]
theorem rO (n:Nat) (hn:n<256):AY env 83 [.int .u8 (n:Int)] (.p (.agg (Enc.enc (gi PE (n % 16))))):=by
 refine AY.enter (AB (by decide)) Tryz.func83 rfl (by kernel_rfl) (by simp [Tryz.ntmps83]) ?_
 have hlt:n % 16<16:=Nat.mod_lt _ (by decide)
 repeat' (first|(refine Af.IU 22 ?_;refine Af.ghost (A8.freeze 19 rfl rfl) ?_)|apply Ad.AA|apply Ad.ret|apply Af.nil|apply Af.one|(apply Aa.AV (l:=PE) (i:=n % 16);rfl;rfl;rfl;exact hlt;rfl)|(apply Aa.move;rfl)|(apply Aa.OW;rfl;rfl;omega;omega)|(apply Aa.load;rfl;rfl)|(apply Aa.alloc;rfl)|(apply Aa.Bj;rfl;rfl;rfl;trivial;rfl;rfl;exact Aj rfl;exact le_dec rfl)|(apply Aa.build;rfl;rfl;rfl;rfl;rfl)|(apply Aa.buildSlice;rfl;rfl;rfl;decide;rfl;rfl;rfl))
 all_goals (refine Done.ret rfl (.refl _) (by exact PV.Ac rfl) Ah.nil (Nat.zero_le _) (Nat.le_refl _) ⟨?_,rfl,rfl⟩;try rfl)
end Go.Proofs.YtdabojnmoejilaaGreatDoor
namespace Go.Proofs.YtdabojnmoejilaaGreatDoor
open Go Go.Am Go.Vm
attribute [local irreducible] Aa Af Ar Ad BA AY CG AO AL Aw Vm.Done CW Bl
theorem kG {r:FQ} (h1:C9 r.name) (h2:C9 r.Fq) (h3:pI r.Du) (h4:-256≤r.first∧r.first≤256) (h5:0<r.ES.length∧r.ES.length≤128) (h6:okW r.ES):DR r=0:=by
 unfold DR
 rw [if_neg (fun h=>h.elim (fun h=>h h1) (fun h=>h h2)),if_neg (fun h=>h (Oy.2 h3)),if_neg (by omega),if_neg (by omega),if_neg (by omega)]
 exact if_pos h6
theorem qX:C9 [79,112,101,110]:=by
 refine ⟨by decide,by decide,by decide,fun i h1 h2=>?_⟩
 have:i=1∨i=2∨i=3:=by simp at h2;omega
 rcases this with rfl|rfl|rfl<;>exact .inl (by decide)
def b3m (f first:Int) (n:Nat):FQ:=⟨[82,111,119],[79,112,101,110],⟨f,1⟩,first,List.replicate n 1⟩
def a9k:FQ:=⟨[82,111,119],[79,112,101,110],⟨8,1⟩,24,List.replicate 12 0++List.replicate 61 1⟩
attribute [local irreducible] DR Dw xI BU Vj b0j a8r b0p a9g
end Go.Proofs.YtdabojnmoejilaaGreatDoor
namespace Go.Proofs.YtdabojnmoejilaaGreatDoor
open Go Go.Am Go.Vm
attribute [local irreducible] Aa Af Ar Ad BA AY CG AO AL Aw Vm.Done CW Bl
instance encStr:Enc (List UInt8):={ default:=[],enc:=fun s=>[.str (bs s)],size:=1,len:=fun _=>rfl }
structure FW where
 Fq:Nat
 Du:Nat
 first:Int
 pipes:Nat
 ES:List Nat
def FW.enc (x:FW):List FV:=[.int .u8 (x.Fq:Int),.int .u8 (x.Du:Int),.int .i8 x.first,.int .u8 (x.pipes:Int),.int .u8 ((gi x.ES 0:Nat):Int),.int .u8 ((gi x.ES 1:Nat):Int),.int .u8 ((gi x.ES 2:Nat):Int),.int .u8 ((gi x.ES 3:Nat):Int),.int .u8 ((gi x.ES 4:Nat):Int)]
structure FW.Ok (x:FW):Prop where
 Fq:x.Fq<256
 Du:x.Du<256
 first:-128≤x.first∧x.first≤127
 pipes:x.pipes<256
 ES:∀ i,gi x.ES i<256
def Nk:List (List UInt8):=[[79,112,101,110],[70,108,117,116,101],[82,101,101,100]]
def H8 (x:FW):Nat→List Int
 |0=>[]
 |k+1=>H8 x k++[((gi x.ES (k % 5):Nat):Int)]
theorem FH (x:FW):∀ k,(H8 x k).length=k
 |0=>rfl
 |k+1=>by simp [H8,FH x k]
def Tq (x:FW) (i:Int):FQ:=⟨[82,UInt8.ofNat (48+i % 10).toNat],gi Nk (x.Fq % 3),gi PE (x.Du % 16),x.first,H8 x (1+x.pipes % 25)⟩
theorem qR (x:FW) (hx:x.Ok) (i:Int) (hi:0≤i∧i≤1000):AY env 55 [.agg x.enc,.int .i64 i] (.p (.agg (Enc.enc (Tq x i)))):=by
 obtain ⟨h1,h2,h3,h4,h5⟩:=hx
 have hf:=rO x.Du h2
 have hlt:x.Fq % 3<3:=Nat.mod_lt _ (by decide)
 refine AY.enter (AB (by decide)) Tryz.func55 rfl (by kernel_rfl) (by simp [Tryz.ntmps55]) ?_
 repeat' (first|(refine Ar.IU 18 ?_;refine Ar.ghost (A8.freeze 14 rfl rfl) ?_)|apply Ad.assoc|apply Ad.AA|apply Ad.BI|apply Ad.Ai|apply Af.nil|apply Ar.nil|apply Af.one|(apply Ar.bar;decide +kernel)|apply Ar.quiet|(apply Aa.fn;rfl;rfl;exact hf;intro _;rfl)|(apply Aa.GL;rfl;rfl;rfl;rfl;rfl;omega)|(apply Aa.AV (l:=Nk) (i:=x.Fq % 3);rfl;rfl;rfl;exact hlt;rfl)|(apply Aa.assign;rfl)|(apply Aa.move;rfl)|(apply Aa.Bq;rfl;rfl;omega)|(apply Aa.OW;rfl;rfl;omega;omega)|(apply Aa.load;rfl;rfl)|(apply Aa.AQ;rfl;rfl;rfl)|(apply Aa.box;rfl;trivial)|(apply Aa.alloc;rfl)|(apply Aa.Bj;rfl;rfl;rfl;trivial;rfl;rfl;exact Aj rfl;exact le_dec rfl)|(apply Aa.build;rfl;rfl;rfl;rfl;rfl)|(apply Aa.buildSlice;rfl;rfl;rfl;decide;rfl;rfl;rfl)|(apply Aa.U6;rfl;rfl;(first|omega|(simp only [List.length_take,List.length_drop,List.length_append,List.length_singleton,List.length_cons,List.length_nil]<;>omega)))|(apply Aa.Jf;rfl;rfl;rfl;rfl;omega)|(apply Aa.Lc;rfl;rfl;rfl;rfl;omega))
 refine Ad.ghost (A8.EC 4 5 3 rfl rfl) ?_
 refine Ad.D8 (fun k:Nat=>[(2,.ref 0 0),(4,.ref 1 0),(5,.ref 4 0),(6,.p (.int .i64 (k:Int)))]) (fun k=>[(5,.vec 3 (cells (H8 x k)) (H8 x k).length true),(4,.box 131 [.p (.str (bs [82,UInt8.ofNat (48+i % 10).toNat])),.p (.str (bs (gi Nk (x.Fq % 3)))),.p (.int .i64 (gi PE (x.Du % 16)).num),.p (.int .i64 (gi PE (x.Du % 16)).den),.p (.int .i64 x.first),.vec 5 (H8 x k).length 0 (H8 x k).length]),(1,.box 131 [.p (.str ⟨#[]⟩),.p (.str ⟨#[]⟩),.p (.int .i64 0),.p (.int .i64 0),.p (.int .i64 0),.p (.val (.slice none 0 0))]),(0,.box 150 (x.enc.map .p))]) 6 (fun k=>k≤1+x.pipes % 25) (fun k=>1+x.pipes % 25-k) 0 (by omega) (by omega) ⟨by omega,?_,?_⟩ ?_
 ·repeat (first|exact Ak.nil|refine Ak.same (by exact PV.Ac rfl) rfl ?_|refine Ak.cons trivial rfl (.of_eq (Aq (by simp<;>omega))) ?_)
 ·repeat (first|exact Ah.nil|(refine Ah.cons (Aj rfl) ?_ rfl ?_ ?_;(first|exact trivial|exact AP.Ag _ _|(simp [HB.under,AP.under,PV.under]));(first|exact Bg.refl _|exact Bg.vec (Bf.refl _) (by simp))))
 intro k hk
 have hl:=FH x k
 have hw:=h5 (k % 5)
 have e1:H8 x (k+1)=H8 x k++[((gi x.ES (k % 5):Nat):Int)]:=rfl
 have e2:(H8 x (k+1)).length=(H8 x k).length+1:=by rw [e1];simp
 have hr:(x.enc.map PV.p)[4+((k:Int) % 5).toNat*1]?=some (.p (.int .u8 ((gi x.ES (k % 5):Nat):Int))):=by
  have e0:((k:Int) % 5).toNat=k % 5:=by omega
  rw [e0]
  have:k % 5<5:=Nat.mod_lt _ (by decide)
  generalize k % 5=n at this
  match n,this with
  |0,_=>rfl
  |1,_=>rfl
  |2,_=>rfl
  |3,_=>rfl
  |4,_=>rfl
 repeat' (first|(refine Ad.at 6 ?_;refine Ad.ghost (A8.Dc 4 5 rfl rfl rfl) ?_;first|apply Ad.AA|apply Ad.BI)|apply Ad.assoc|apply Ad.AA|apply Ad.region|apply Ad.Et|apply Ad.Au|apply Ad.AX|apply Ad.Ai|apply AO.normal|apply AL.normal|apply AL.exit|apply Aw.exit|apply Ad.ret|apply Af.nil|apply Ar.nil|apply Af.one|(apply Ar.bar;decide +kernel)|apply Ar.quiet|(apply Aa.xP;rfl;rfl;rfl;exact hr)|(apply Aa.Vw;rfl;rfl;rfl;rfl;rfl;omega)|(apply Aa.assign;rfl)|(apply Aa.move;rfl)|(apply Aa.Bq;rfl;rfl;omega)|(apply Aa.OW;rfl;rfl;omega;omega)|(apply Aa.int;rfl;rfl;rfl)|(apply Aa.load;rfl;rfl)|(apply Aa.AQ;rfl;rfl;rfl)|(apply Aa.Bj;rfl;rfl;rfl;trivial;rfl;rfl;exact Aj rfl;exact le_dec rfl)|(apply Aa.buildSlice;rfl;rfl;rfl;decide;rfl;rfl;rfl)|(apply Aa.Jf;rfl;rfl;rfl;rfl;omega)|(apply Aa.Dv;rfl;rfl;rfl;rfl;rfl;rfl;rfl;rfl;(intro _ h;cases h);rfl;rfl;rfl;decide;decide;(first|omega|(simp only [List.length_take,List.length_drop,List.length_append,List.length_singleton,List.length_cons,List.length_nil]<;>omega)))|(apply Ad.Ae;rfl)|(intro _;try (exfalso;omega)))
 ·refine Aw.normal ⟨k+1,by omega,by omega,⟨by omega,?_,?_⟩⟩
  ·repeat (first|exact Ak.nil|refine Ak.same (by exact PV.Ac rfl) rfl ?_|refine Ak.cons trivial rfl (.of_eq (Aq (by simp<;>omega))) ?_)
  ·rw [e2,e1];repeat (first|exact Ah.nil|(refine Ah.cons (Aj rfl) ?_ rfl ?_ ?_;(first|exact trivial|exact AP.Ag _ _|(simp [HB.under,AP.under,PV.under]));(first|exact Bg.refl _|exact Bg.vec (Bf.refl _) (by simp))))
 ·obtain rfl:k=1+x.pipes % 25:=by omega
  refine Done.ret rfl (.refl _) (by exact PV.Ac rfl) Ah.nil (Nat.zero_le _) (Nat.le_refl _) ⟨?_,rfl,rfl⟩
  rfl
end Go.Proofs.YtdabojnmoejilaaGreatDoor
namespace Go.Proofs.YtdabojnmoejilaaGreatDoor
open Go Go.Am Go.Vm
attribute [local irreducible] Aa Af Ar Ad BA AY CG AO AL Aw Vm.Done CW Bl
structure mG where
 rank:Nat
 Du:Nat
 kind:Nat
 at_:Nat
instance:Enc mG:={ default:=⟨0,0,0,0⟩,enc:=fun x=>[.int .u8 (x.rank:Int),.int .u8 (x.Du:Int),.int .u8 (x.kind:Int),.int .u8 (x.at_:Int)],size:=4,len:=fun _=>rfl }
structure mG.Ok (x:mG):Prop where
 rank:x.rank<256
 Du:x.Du<256
 kind:x.kind<256
 at_:x.at_<256
structure ru where
 low:Nat
 keys:Nat
 EH:Bool
 stops:List mG
instance:Enc ru:={ default:=⟨0,0,false,[]⟩,enc:=fun x=>[.int .u8 (x.low:Int),.int .u8 (x.keys:Int),.bool x.EH,.lst 72 (cells x.stops) x.stops.length],size:=4,len:=fun _=>rfl }
structure ru.Ok (x:ru):Prop where
 low:x.low<256
 keys:x.keys<256
 stops:x.stops.length<9223372036854775808
 all:∀ i,i<x.stops.length→(gi x.stops i).Ok
structure xZ where
 BG:Nat
 tgt:Nat
 shift:Int
 through:Bool
instance:Enc xZ:={ default:=⟨0,0,0,false⟩,enc:=fun x=>[.int .u8 (x.BG:Int),.int .u8 (x.tgt:Int),.int .i8 x.shift,.bool x.through],size:=4,len:=fun _=>rfl }
structure xZ.Ok (x:xZ):Prop where
 BG:x.BG<256
 tgt:x.tgt<256
 shift:-128≤x.shift∧x.shift≤127
instance a7m:Enc FW:={ default:=⟨0,0,0,0,[]⟩,enc:=FW.enc,size:=9,len:=fun _=>rfl }
structure jW where
 ranks:List FW
 Ap:List ru
 links:List xZ
def jW.enc (x:jW):List FV:=[.lst 150 (cells x.ranks) x.ranks.length,.lst 75 (cells x.Ap) x.Ap.length,.lst 153 (cells x.links) x.links.length]
structure jW.Ok (x:jW):Prop where
 ranks:∀ i,i<x.ranks.length→(gi x.ranks i).Ok
 Ap:∀ i,i<x.Ap.length→(gi x.Ap i).Ok
 links:∀ i,i<x.links.length→(gi x.links i).Ok
 nr:x.ranks.length<9223372036854775808
 nd:x.Ap.length<9223372036854775808
 nl:x.links.length<9223372036854775808
def EZ:List JJ:=[⟨8,1⟩,⟨4,1⟩,⟨16,1⟩,⟨8,3⟩,⟨2,1⟩,⟨8,5⟩]
theorem jJ (n:Nat) (hn:n<256):AY env 84 [.int .u8 (n:Int)] (.p (.agg (Enc.enc (gi EZ (n % 6))))):=by
 refine AY.enter (AB (by decide)) Tryz.func84 rfl (by kernel_rfl) (by simp [Tryz.ntmps84]) ?_
 have hlt:n % 6<6:=Nat.mod_lt _ (by decide)
 repeat' (first|(refine Af.IU 12 ?_;refine Af.ghost (A8.freeze 9 rfl rfl) ?_)|apply Ad.AA|apply Ad.ret|apply Af.nil|apply Af.one|(apply Aa.AV (l:=EZ) (i:=n % 6);rfl;rfl;rfl;exact hlt;rfl)|(apply Aa.move;rfl)|(apply Aa.OW;rfl;rfl;omega;omega)|(apply Aa.load;rfl;rfl)|(apply Aa.alloc;rfl)|(apply Aa.Bj;rfl;rfl;rfl;trivial;rfl;rfl;exact Aj rfl;exact le_dec rfl)|(apply Aa.build;rfl;rfl;rfl;rfl;rfl)|(apply Aa.buildSlice;rfl;rfl;rfl;decide;rfl;rfl;rfl))
 all_goals (refine Done.ret rfl (.refl _) (by exact PV.Ac rfl) Ah.nil (Nat.zero_le _) (Nat.le_refl _) ⟨?_,rfl,rfl⟩;try rfl)
theorem xX:∀ n,n<6→pI (gi EZ n):=by decide +kernel
theorem tY:∀ a,a<6→∀ b,b<16→(BU (gi EZ a) (gi PE b)).2=0∧-100≤(BU (gi EZ a) (gi PE b)).1∧(BU (gi EZ a) (gi PE b)).1≤100:=by decide +kernel
structure mD (rk:List FQ):Prop where
 len:0<rk.length∧rk.length≤3
 ok:∀ i,i<rk.length→DR (gi rk i)=0∧∃ b,b<16∧(gi rk i).Du=gi PE b
attribute [local irreducible] DR Dw BU
theorem y8 (rk:List FQ) (lo hi:Int) (x:mG) (i:Nat) (hrk:mD rk) (hc:0≤lo∧lo≤hi∧hi≤127) (hx:x.Ok) (hi9:i≤9) :
 ∃ s:Stp,AY env 56 [.lst 131 (cells rk) rk.length,.agg [.int .i64 lo,.int .i64 hi],.agg (Enc.enc x),.int .i64 (i:Int)] (.p (.agg (Enc.enc s)))∧s.name=MJ 83 i∧Io rk lo hi s=0∧YK s∧∃ a,a<6∧s.Du=gi EZ a:=by
 obtain ⟨hl,hok⟩:=hrk
 obtain ⟨x1,x2,x3,x4⟩:=hx
 obtain ⟨n,hn⟩:∃ n,n=x.rank % rk.length:=⟨_,rfl⟩
 have hnl:n<rk.length:=by rw [hn];exact Nat.mod_lt _ hl.1
 obtain ⟨m,hm⟩:∃ m,m=(n+1) % rk.length:=⟨_,rfl⟩
 have hml:m<rk.length:=by rw [hm];exact Nat.mod_lt _ hl.1
 have hf6:=jJ x.Du x2
 have h6:x.Du % 6<6:=Nat.mod_lt _ (by decide)
 have f6:=xX _ h6
 obtain ⟨-,b,hb,eb⟩:=hok n hnl
 obtain ⟨-,c,hc2,ec⟩:=hok m hml
 have s1:=tY _ h6 b hb
 have s2:=tY _ h6 c hc2
 rw [← eb] at s1
 rw [← ec] at s2
 generalize hF:gi EZ (x.Du % 6)=F at *
 have q1:=NP F (gi rk n).Du
 have q2:=NP F (gi rk m).Du
 rw [s1.1] at q1
 rw [s2.1] at q2
 generalize (BU F (gi rk n).Du).1=sh at *
 generalize (BU F (gi rk m).Du).1=so at *
 have a8p:gY rk lo hi=0:=YF (fun i h=>(hok i h).1) (by omega) hc
 have LQ:∀ g:List Seg,(0<g.length∧g.length≤12)→JF rk.length lo hi g 0=0→Io rk lo hi ⟨MJ 83 i,F,g⟩=0:=fun g h1 h2=>by
  unfold Io xu
  rw [if_neg (fun h=>h a8p),if_neg (fun h=>h (VL (by decide) (by omega))),if_neg (fun h=>h (Oy.2 f6)),if_neg (by simp only;omega),if_neg (by simp only;omega)]
  exact h2
 have sm:∀ g:List Seg,g.length<1000000→(∀ j,j<g.length→(gi g j).draws.length<1000000)→YK ⟨MJ 83 i,F,g⟩:=fun g h1 h2=>⟨by simp [MJ],h1,fun j hj=>⟨h2 j hj⟩⟩
 have bQ:Ut rk.length ⟨n,sh⟩:=⟨⟨by simp only;omega,by simp only;omega⟩,⟨by simp only;omega,by simp only;omega⟩⟩
 have hn2:(n:Int)=(x.rank:Int) % rk.length:=by rw [hn];simp
 obtain ⟨d,hd⟩:∃ d:Nat,(d:Int)=(x.at_:Int) % (hi-lo+1):=⟨((x.at_:Int) % (hi-lo+1)).toNat,by have:=Int.emod_nonneg (x.at_:Int) (show hi-lo+1≠0 by omega);omega⟩
 have hd2:(d:Int)≤hi-lo:=by have:=Int.emod_lt_of_pos (x.at_:Int) (show 0<hi-lo+1 by omega);omega
 have hk6:x.kind % 6<6:=Nat.mod_lt _ (by decide)
 rw [hm,hn] at q2 hml
 rw [hn] at q1 hnl
 have hm2:(m:Int)=((x.rank:Int) % rk.length+1) % rk.length:=by rw [hm,hn];simp
 have hAt:lo+(d:Int)=lo+(x.at_:Int) % (hi-lo+1):=by omega
 rw [hn2] at bQ
 have dSo:Ut rk.length ⟨((x.rank:Int) % rk.length+1) % rk.length,so⟩:=by
  rw [← hm2]
  exact ⟨⟨by simp only;omega,by simp only;rw [hm];have:=Nat.mod_lt (n+1) hl.1;omega⟩,⟨by simp only;omega,by simp only;omega⟩⟩
 have dTw:Ut rk.length ⟨(x.rank:Int) % rk.length,sh-12⟩:=⟨bQ.rank,⟨by simp only;omega,by simp only;omega⟩⟩
 have dTh:Ut rk.length ⟨(x.rank:Int) % rk.length,sh+7⟩:=⟨bQ.rank,⟨by simp only;omega,by simp only;omega⟩⟩
 by_cases k2:x.kind % 6=2
 ·refine ⟨⟨MJ 83 i,F,[⟨lo,hi,[⟨(x.rank:Int) % rk.length,sh⟩,⟨(x.rank:Int) % rk.length,sh+7⟩]⟩]⟩,?_,rfl,?_,?_,_,h6,hF.symm⟩
  ·refine AY.enter (AB (by decide)) Tryz.func56 rfl (by kernel_rfl) (by simp [Tryz.ntmps56]) ?_
   repeat' (first|(refine Ad.at 5 ?_;refine Ad.ghost (A8.freeze 13 rfl rfl) ?_;first|apply Ad.AA|apply Ad.BI)|(refine Ad.at 22 ?_;refine Ad.ghost (A8.Dc 4 3 rfl rfl rfl) ?_;first|apply Ad.AA|apply Ad.BI)|(refine Af.IU 88 ?_;refine Af.ghost (A8.freeze 87 rfl rfl) ?_)|apply Ad.assoc|apply Ad.AA|apply Ad.BI|apply Ad.region|apply Ad.Ai|apply AO.normal|apply AL.normal|apply Ad.ret|apply Af.nil|apply Ar.nil|apply Af.one|(apply Ar.bar;decide +kernel)|apply Ar.quiet|(apply Aa.fn;rfl;rfl;exact hf6;intro _;rfl)|(apply Aa.fn;rfl;rfl;exact q1;intro _;rfl)|(apply Aa.GL;rfl;rfl;rfl;rfl;rfl;omega)|(apply Aa.AV (l:=rk) (i:=x.rank % rk.length);rfl;rfl;rfl;exact hnl;rfl)|(apply Aa.assign;rfl)|(apply Aa.move;rfl)|(apply Aa.Bq;rfl;rfl;omega)|(apply Aa.Hr;rfl;rfl;omega)|(apply Aa.OW;rfl;rfl;omega;omega)|(apply Aa.int;rfl;rfl;rfl)|(apply Aa.load;rfl;rfl)|(apply Aa.BH;rfl;rfl)|(apply Aa.AQ;rfl;rfl;rfl)|(apply Aa.DW;rfl;rfl)|(apply Aa.box;rfl;trivial)|(apply Aa.alloc;rfl)|(apply Aa.Bj;rfl;rfl;rfl;trivial;rfl;rfl;exact Aj rfl;exact le_dec rfl)|(apply Aa.build;rfl;rfl;rfl;rfl;rfl)|(apply Aa.buildSlice;rfl;rfl;rfl;decide;rfl;rfl;rfl)|(apply Aa.U6;rfl;rfl;(first|omega|(simp only [List.length_take,List.length_drop,List.length_append,List.length_singleton,List.length_cons,List.length_nil]<;>omega)))|(apply Aa.extract;rfl;rfl)|(apply Aa.Jf;rfl;rfl;rfl;rfl;omega)|(apply Aa.Lc;rfl;rfl;rfl;rfl;omega)|(apply Ad.AZ;rfl)|(intro _;try (exfalso;omega)))
   all_goals first|(exfalso;omega)|contradiction|(refine Done.ret rfl (.refl _) (by exact PV.Ac rfl) Ah.nil (Nat.zero_le _) (Nat.le_refl _) ⟨?_,rfl,rfl⟩;rfl)
  ·exact LQ _ (by simp) (Jt ⟨Int.le_refl _,hc.2.1,Int.le_refl _⟩ (yO bQ dTh (fun h=>by have:=congrArg bD.shift h;simp only at this;omega)))
  ·refine sm _ (by simp) (fun j hj=>?_)
   obtain rfl:j=0:=by simp at hj;omega
   show 2<1000000
   decide
 by_cases k5:x.kind % 6=5
 ·refine ⟨⟨MJ 83 i,F,[⟨lo+(x.at_:Int) % (hi-lo+1),hi,[⟨(x.rank:Int) % rk.length,sh⟩]⟩]⟩,?_,rfl,?_,?_,_,h6,hF.symm⟩
  ·refine AY.enter (AB (by decide)) Tryz.func56 rfl (by kernel_rfl) (by simp [Tryz.ntmps56]) ?_
   repeat' (first|(refine Ad.at 5 ?_;refine Ad.ghost (A8.freeze 13 rfl rfl) ?_;first|apply Ad.AA|apply Ad.BI)|(refine Ad.at 22 ?_;refine Ad.ghost (A8.Dc 4 3 rfl rfl rfl) ?_;first|apply Ad.AA|apply Ad.BI)|apply Ad.assoc|apply Ad.AA|apply Ad.BI|apply Ad.region|apply Ad.Ai|apply AO.normal|apply AL.normal|apply Ad.ret|apply Af.nil|apply Ar.nil|apply Af.one|(apply Ar.bar;decide +kernel)|apply Ar.quiet|(apply Aa.fn;rfl;rfl;exact hf6;intro _;rfl)|(apply Aa.fn;rfl;rfl;exact q1;intro _;rfl)|(apply Aa.GL;rfl;rfl;rfl;rfl;rfl;omega)|(apply Aa.AV (l:=rk) (i:=x.rank % rk.length);rfl;rfl;rfl;exact hnl;rfl)|(apply Aa.assign;rfl)|(apply Aa.move;rfl)|(apply Aa.Bq;rfl;rfl;omega)|(apply Aa.Hr;rfl;rfl;omega)|(apply Aa.OW;rfl;rfl;omega;omega)|(apply Aa.int;rfl;rfl;rfl)|(apply Aa.load;rfl;rfl)|(apply Aa.BH;rfl;rfl)|(apply Aa.AQ;rfl;rfl;rfl)|(apply Aa.DW;rfl;rfl)|(apply Aa.box;rfl;trivial)|(apply Aa.alloc;rfl)|(apply Aa.Bj;rfl;rfl;rfl;trivial;rfl;rfl;exact Aj rfl;exact le_dec rfl)|(apply Aa.build;rfl;rfl;rfl;rfl;rfl)|(apply Aa.buildSlice;rfl;rfl;rfl;decide;rfl;rfl;rfl)|(apply Aa.U6;rfl;rfl;(first|omega|(simp only [List.length_take,List.length_drop,List.length_append,List.length_singleton,List.length_cons,List.length_nil]<;>omega)))|(apply Aa.extract;rfl;rfl)|(apply Aa.Jf;rfl;rfl;rfl;rfl;omega)|(apply Aa.Lc;rfl;rfl;rfl;rfl;omega)|(apply Ad.Ae;rfl)|(apply Ad.AZ;rfl)|(intro _;try (exfalso;omega)))
   all_goals first|(exfalso;omega)|contradiction|(refine Done.ret rfl (.refl _) (by exact PV.Ac rfl) Ah.nil (Nat.zero_le _) (Nat.le_refl _) ⟨?_,rfl,rfl⟩;rfl)
  ·exact LQ _ (by simp) (Jt ⟨by simp only;omega,by simp only;omega,Int.le_refl _⟩ (Ij bQ))
  ·refine sm _ (by simp) (fun j hj=>?_)
   obtain rfl:j=0:=by simp at hj;omega
   show 1<1000000
   decide
 by_cases k01:x.kind % 6<2
 ·refine ⟨⟨MJ 83 i,F,[⟨lo,hi,[⟨(x.rank:Int) % rk.length,sh⟩]⟩]⟩,?_,rfl,?_,?_,_,h6,hF.symm⟩
  ·refine AY.enter (AB (by decide)) Tryz.func56 rfl (by kernel_rfl) (by simp [Tryz.ntmps56]) ?_
   repeat' (first|(refine Ad.at 5 ?_;refine Ad.ghost (A8.freeze 13 rfl rfl) ?_;first|apply Ad.AA|apply Ad.BI)|(refine Ad.at 22 ?_;refine Ad.ghost (A8.Dc 4 3 rfl rfl rfl) ?_;first|apply Ad.AA|apply Ad.BI)|apply Ad.assoc|apply Ad.AA|apply Ad.BI|apply Ad.region|apply Ad.Ai|apply AO.normal|apply AL.normal|apply Ad.ret|apply Af.nil|apply Ar.nil|apply Af.one|(apply Ar.bar;decide +kernel)|apply Ar.quiet|(apply Aa.fn;rfl;rfl;exact hf6;intro _;rfl)|(apply Aa.fn;rfl;rfl;exact q1;intro _;rfl)|(apply Aa.GL;rfl;rfl;rfl;rfl;rfl;omega)|(apply Aa.AV (l:=rk) (i:=x.rank % rk.length);rfl;rfl;rfl;exact hnl;rfl)|(apply Aa.assign;rfl)|(apply Aa.move;rfl)|(apply Aa.Bq;rfl;rfl;omega)|(apply Aa.Hr;rfl;rfl;omega)|(apply Aa.OW;rfl;rfl;omega;omega)|(apply Aa.int;rfl;rfl;rfl)|(apply Aa.load;rfl;rfl)|(apply Aa.BH;rfl;rfl)|(apply Aa.AQ;rfl;rfl;rfl)|(apply Aa.DW;rfl;rfl)|(apply Aa.box;rfl;trivial)|(apply Aa.alloc;rfl)|(apply Aa.Bj;rfl;rfl;rfl;trivial;rfl;rfl;exact Aj rfl;exact le_dec rfl)|(apply Aa.build;rfl;rfl;rfl;rfl;rfl)|(apply Aa.buildSlice;rfl;rfl;rfl;decide;rfl;rfl;rfl)|(apply Aa.U6;rfl;rfl;(first|omega|(simp only [List.length_take,List.length_drop,List.length_append,List.length_singleton,List.length_cons,List.length_nil]<;>omega)))|(apply Aa.extract;rfl;rfl)|(apply Aa.Jf;rfl;rfl;rfl;rfl;omega)|(apply Aa.Lc;rfl;rfl;rfl;rfl;omega)|(apply Ad.Ae;rfl)|(apply Ad.AZ;rfl)|(intro _;try (exfalso;omega)))
   all_goals first|(exfalso;omega)|contradiction|(refine Done.ret rfl (.refl _) (by exact PV.Ac rfl) Ah.nil (Nat.zero_le _) (Nat.le_refl _) ⟨?_,rfl,rfl⟩;rfl)
  ·exact LQ _ (by simp) (Jt ⟨Int.le_refl _,hc.2.1,Int.le_refl _⟩ (Ij bQ))
  ·refine sm _ (by simp) (fun j hj=>?_)
   obtain rfl:j=0:=by simp at hj;omega
   show 1<1000000
   decide
 by_cases hd0:d=0
 ·by_cases k3:x.kind % 6=3
  ·refine ⟨⟨MJ 83 i,F,[⟨lo+(x.at_:Int) % (hi-lo+1),hi,[⟨((x.rank:Int) % rk.length+1) % rk.length,so⟩]⟩]⟩,?_,rfl,?_,?_,_,h6,hF.symm⟩
   ·refine AY.enter (AB (by decide)) Tryz.func56 rfl (by kernel_rfl) (by simp [Tryz.ntmps56]) ?_
    repeat' (first|(refine Ad.at 17 ?_;refine Ad.ghost (A8.trans (A8.freeze 15 rfl rfl) (A8.EC 4 3 136 rfl rfl)) ?_;first|apply Ad.AA|apply Ad.BI)|(refine Ad.at 5 ?_;refine Ad.ghost (A8.freeze 13 rfl rfl) ?_;first|apply Ad.AA|apply Ad.BI)|(refine Ad.at 22 ?_;refine Ad.ghost (A8.Dc 4 3 rfl rfl rfl) ?_;first|apply Ad.AA|apply Ad.BI)|apply Ad.assoc|apply Ad.AA|apply Ad.BI|apply Ad.region|apply Ad.Au|apply Ad.Ai|apply AO.normal|apply AL.normal|apply Ad.ret|apply Af.nil|apply Ar.nil|apply Af.one|(apply Ar.bar;decide +kernel)|apply Ar.quiet|(apply Aa.Dv (l:=([]:List Seg)) (a:=⟨lo+(x.at_:Int) % (hi-lo+1),hi,[⟨((x.rank:Int) % rk.length+1) % rk.length,so⟩]⟩);rfl;rfl;rfl;rfl;rfl;rfl;rfl;rfl;(intro _ h;cases h);rfl;rfl;rfl;decide;decide;(first|omega|(simp only [List.length_nil,List.length_cons]<;>omega)))|(apply Aa.fn;rfl;rfl;exact hf6;intro _;rfl)|(apply Aa.fn;rfl;rfl;exact q1;intro _;rfl)|(apply Aa.fn;rfl;rfl;exact q2;intro _;rfl)|(apply Aa.GL;rfl;rfl;rfl;rfl;rfl;omega)|(apply Aa.AV (l:=rk) (i:=x.rank % rk.length);rfl;rfl;rfl;exact hnl;rfl)|(apply Aa.AV (l:=rk) (i:=(x.rank % rk.length+1) % rk.length);rfl;rfl;rfl;exact hml;rfl)|(apply Aa.assign;rfl)|(apply Aa.move;rfl)|(apply Aa.Bq;rfl;rfl;omega)|(apply Aa.Hr;rfl;rfl;omega)|(apply Aa.OW;rfl;rfl;omega;omega)|(apply Aa.int;rfl;rfl;rfl)|(apply Aa.load;rfl;rfl)|(apply Aa.BH;rfl;rfl)|(apply Aa.AQ;rfl;rfl;rfl)|(apply Aa.DW;rfl;rfl)|(apply Aa.box;rfl;trivial)|(apply Aa.alloc;rfl)|(apply Aa.Bj;rfl;rfl;rfl;trivial;rfl;rfl;exact Aj rfl;exact le_dec rfl)|(apply Aa.build;rfl;rfl;rfl;rfl;rfl)|(apply Aa.buildSlice;rfl;rfl;rfl;decide;rfl;rfl;rfl)|(apply Aa.U6;rfl;rfl;(first|omega|(simp only [List.length_take,List.length_drop,List.length_append,List.length_singleton,List.length_cons,List.length_nil]<;>omega)))|(apply Aa.extract;rfl;rfl)|(apply Aa.Jf;rfl;rfl;rfl;rfl;omega)|(apply Aa.Lc;rfl;rfl;rfl;rfl;omega)|(apply Ad.Ae;rfl)|(apply Ad.AZ;rfl)|(intro _;try (exfalso;omega)))
    all_goals first|(exfalso;omega)|contradiction|(refine Done.ret rfl (.refl _) (by exact PV.Ac rfl) Ah.nil (Nat.zero_le _) (Nat.le_refl _) ⟨?_,rfl,rfl⟩;rfl)
   ·exact LQ _ (by simp) (Jt ⟨by simp only;omega,by simp only;omega,Int.le_refl _⟩ (Ij dSo))
   ·refine sm _ (by simp) (fun j hj=>?_)
    obtain rfl:j=0:=by simp at hj;omega
    show 1<1000000
    decide
  ·refine ⟨⟨MJ 83 i,F,[⟨lo+(x.at_:Int) % (hi-lo+1),hi,[⟨(x.rank:Int) % rk.length,sh-12⟩]⟩]⟩,?_,rfl,?_,?_,_,h6,hF.symm⟩
   ·refine AY.enter (AB (by decide)) Tryz.func56 rfl (by kernel_rfl) (by simp [Tryz.ntmps56]) ?_
    repeat' (first|(refine Ad.at 17 ?_;refine Ad.ghost (A8.trans (A8.freeze 15 rfl rfl) (A8.EC 4 3 136 rfl rfl)) ?_;first|apply Ad.AA|apply Ad.BI)|(refine Ad.at 5 ?_;refine Ad.ghost (A8.freeze 13 rfl rfl) ?_;first|apply Ad.AA|apply Ad.BI)|(refine Ad.at 22 ?_;refine Ad.ghost (A8.Dc 4 3 rfl rfl rfl) ?_;first|apply Ad.AA|apply Ad.BI)|apply Ad.assoc|apply Ad.AA|apply Ad.BI|apply Ad.region|apply Ad.Au|apply Ad.Ai|apply AO.normal|apply AL.normal|apply Ad.ret|apply Af.nil|apply Ar.nil|apply Af.one|(apply Ar.bar;decide +kernel)|apply Ar.quiet|(apply Aa.Dv (l:=([]:List Seg)) (a:=⟨lo+(x.at_:Int) % (hi-lo+1),hi,[⟨(x.rank:Int) % rk.length,sh-12⟩]⟩);rfl;rfl;rfl;rfl;rfl;rfl;rfl;rfl;(intro _ h;cases h);rfl;rfl;rfl;decide;decide;(first|omega|(simp only [List.length_nil,List.length_cons]<;>omega)))|(apply Aa.fn;rfl;rfl;exact hf6;intro _;rfl)|(apply Aa.fn;rfl;rfl;exact q1;intro _;rfl)|(apply Aa.GL;rfl;rfl;rfl;rfl;rfl;omega)|(apply Aa.AV (l:=rk) (i:=x.rank % rk.length);rfl;rfl;rfl;exact hnl;rfl)|(apply Aa.assign;rfl)|(apply Aa.move;rfl)|(apply Aa.Bq;rfl;rfl;omega)|(apply Aa.Hr;rfl;rfl;omega)|(apply Aa.OW;rfl;rfl;omega;omega)|(apply Aa.int;rfl;rfl;rfl)|(apply Aa.load;rfl;rfl)|(apply Aa.BH;rfl;rfl)|(apply Aa.AQ;rfl;rfl;rfl)|(apply Aa.DW;rfl;rfl)|(apply Aa.box;rfl;trivial)|(apply Aa.alloc;rfl)|(apply Aa.Bj;rfl;rfl;rfl;trivial;rfl;rfl;exact Aj rfl;exact le_dec rfl)|(apply Aa.build;rfl;rfl;rfl;rfl;rfl)|(apply Aa.buildSlice;rfl;rfl;rfl;decide;rfl;rfl;rfl)|(apply Aa.U6;rfl;rfl;(first|omega|(simp only [List.length_take,List.length_drop,List.length_append,List.length_singleton,List.length_cons,List.length_nil]<;>omega)))|(apply Aa.extract;rfl;rfl)|(apply Aa.Jf;rfl;rfl;rfl;rfl;omega)|(apply Aa.Lc;rfl;rfl;rfl;rfl;omega)|(apply Ad.Ae;rfl)|(apply Ad.AZ;rfl)|(intro _;try (exfalso;omega)))
    all_goals first|(exfalso;omega)|contradiction|(refine Done.ret rfl (.refl _) (by exact PV.Ac rfl) Ah.nil (Nat.zero_le _) (Nat.le_refl _) ⟨?_,rfl,rfl⟩;rfl)
   ·exact LQ _ (by simp) (Jt ⟨by simp only;omega,by simp only;omega,Int.le_refl _⟩ (Ij dTw))
   ·refine sm _ (by simp) (fun j hj=>?_)
    obtain rfl:j=0:=by simp at hj;omega
    show 1<1000000
    decide
 ·by_cases k3:x.kind % 6=3
  ·refine ⟨⟨MJ 83 i,F,[⟨lo,lo+(x.at_:Int) % (hi-lo+1)-1,[⟨(x.rank:Int) % rk.length,sh⟩]⟩,⟨lo+(x.at_:Int) % (hi-lo+1),hi,[⟨((x.rank:Int) % rk.length+1) % rk.length,so⟩]⟩]⟩,?_,rfl,?_,?_,_,h6,hF.symm⟩
   ·refine AY.enter (AB (by decide)) Tryz.func56 rfl (by kernel_rfl) (by simp [Tryz.ntmps56]) ?_
    repeat' (first|(refine Ad.at 17 ?_;refine Ad.ghost (A8.trans (A8.freeze 15 rfl rfl) (A8.EC 4 3 136 rfl rfl)) ?_;first|apply Ad.AA|apply Ad.BI)|(refine Ad.at 5 ?_;refine Ad.ghost (A8.freeze 13 rfl rfl) ?_;first|apply Ad.AA|apply Ad.BI)|(refine Ad.at 22 ?_;refine Ad.ghost (A8.Dc 4 3 rfl rfl rfl) ?_;first|apply Ad.AA|apply Ad.BI)|apply Ad.assoc|apply Ad.AA|apply Ad.BI|apply Ad.region|apply Ad.Au|apply Ad.Ai|apply AO.normal|apply AL.normal|apply Ad.ret|apply Af.nil|apply Ar.nil|apply Af.one|(apply Ar.bar;decide +kernel)|apply Ar.quiet|(apply Aa.Dv (l:=([]:List Seg)) (a:=⟨lo,lo+(x.at_:Int) % (hi-lo+1)-1,[⟨(x.rank:Int) % rk.length,sh⟩]⟩);rfl;rfl;rfl;rfl;rfl;rfl;rfl;rfl;(intro _ h;cases h);rfl;rfl;rfl;decide;decide;(first|omega|(simp only [List.length_nil,List.length_cons]<;>omega)))|(apply Aa.Dv (l:=([⟨lo,lo+(x.at_:Int) % (hi-lo+1)-1,[⟨(x.rank:Int) % rk.length,sh⟩]⟩]:List Seg)) (a:=⟨lo+(x.at_:Int) % (hi-lo+1),hi,[⟨((x.rank:Int) % rk.length+1) % rk.length,so⟩]⟩);rfl;rfl;rfl;rfl;rfl;rfl;rfl;rfl;(intro _ h;cases h);rfl;rfl;rfl;decide;decide;(first|omega|(simp only [List.length_nil,List.length_cons]<;>omega)))|(apply Aa.fn;rfl;rfl;exact hf6;intro _;rfl)|(apply Aa.fn;rfl;rfl;exact q1;intro _;rfl)|(apply Aa.fn;rfl;rfl;exact q2;intro _;rfl)|(apply Aa.GL;rfl;rfl;rfl;rfl;rfl;omega)|(apply Aa.AV (l:=rk) (i:=x.rank % rk.length);rfl;rfl;rfl;exact hnl;rfl)|(apply Aa.AV (l:=rk) (i:=(x.rank % rk.length+1) % rk.length);rfl;rfl;rfl;exact hml;rfl)|(apply Aa.assign;rfl)|(apply Aa.move;rfl)|(apply Aa.Bq;rfl;rfl;omega)|(apply Aa.Hr;rfl;rfl;omega)|(apply Aa.OW;rfl;rfl;omega;omega)|(apply Aa.int;rfl;rfl;rfl)|(apply Aa.load;rfl;rfl)|(apply Aa.BH;rfl;rfl)|(apply Aa.AQ;rfl;rfl;rfl)|(apply Aa.DW;rfl;rfl)|(apply Aa.box;rfl;trivial)|(apply Aa.alloc;rfl)|(apply Aa.Bj;rfl;rfl;rfl;trivial;rfl;rfl;exact Aj rfl;exact le_dec rfl)|(apply Aa.build;rfl;rfl;rfl;rfl;rfl)|(apply Aa.buildSlice;rfl;rfl;rfl;decide;rfl;rfl;rfl)|(apply Aa.U6;rfl;rfl;(first|omega|(simp only [List.length_take,List.length_drop,List.length_append,List.length_singleton,List.length_cons,List.length_nil]<;>omega)))|(apply Aa.extract;rfl;rfl)|(apply Aa.Jf;rfl;rfl;rfl;rfl;omega)|(apply Aa.Lc;rfl;rfl;rfl;rfl;omega)|(apply Ad.Ae;rfl)|(apply Ad.AZ;rfl)|(intro _;try (exfalso;omega)))
    all_goals first|(exfalso;omega)|contradiction|(refine Done.ret rfl (.refl _) (by exact PV.Ac rfl) Ah.nil (Nat.zero_le _) (Nat.le_refl _) ⟨?_,rfl,rfl⟩;rfl)
   ·exact LQ _ (by simp) (Yh ⟨Int.le_refl _,by simp only;omega,by simp only;omega,by simp only;omega,Int.le_refl _⟩ (Ij bQ) (Ij dSo))
   ·refine sm _ (by simp) (fun j hj=>?_)
    have:j=0∨j=1:=by simp at hj;omega
    rcases this with rfl|rfl
    ·show 1<1000000
     decide
    ·show 1<1000000
     decide
  ·refine ⟨⟨MJ 83 i,F,[⟨lo,lo+(x.at_:Int) % (hi-lo+1)-1,[⟨(x.rank:Int) % rk.length,sh⟩]⟩,⟨lo+(x.at_:Int) % (hi-lo+1),hi,[⟨(x.rank:Int) % rk.length,sh-12⟩]⟩]⟩,?_,rfl,?_,?_,_,h6,hF.symm⟩
   ·refine AY.enter (AB (by decide)) Tryz.func56 rfl (by kernel_rfl) (by simp [Tryz.ntmps56]) ?_
    repeat' (first|(refine Ad.at 17 ?_;refine Ad.ghost (A8.trans (A8.freeze 15 rfl rfl) (A8.EC 4 3 136 rfl rfl)) ?_;first|apply Ad.AA|apply Ad.BI)|(refine Ad.at 5 ?_;refine Ad.ghost (A8.freeze 13 rfl rfl) ?_;first|apply Ad.AA|apply Ad.BI)|(refine Ad.at 22 ?_;refine Ad.ghost (A8.Dc 4 3 rfl rfl rfl) ?_;first|apply Ad.AA|apply Ad.BI)|apply Ad.assoc|apply Ad.AA|apply Ad.BI|apply Ad.region|apply Ad.Au|apply Ad.Ai|apply AO.normal|apply AL.normal|apply Ad.ret|apply Af.nil|apply Ar.nil|apply Af.one|(apply Ar.bar;decide +kernel)|apply Ar.quiet|(apply Aa.Dv (l:=([]:List Seg)) (a:=⟨lo,lo+(x.at_:Int) % (hi-lo+1)-1,[⟨(x.rank:Int) % rk.length,sh⟩]⟩);rfl;rfl;rfl;rfl;rfl;rfl;rfl;rfl;(intro _ h;cases h);rfl;rfl;rfl;decide;decide;(first|omega|(simp only [List.length_nil,List.length_cons]<;>omega)))|(apply Aa.Dv (l:=([⟨lo,lo+(x.at_:Int) % (hi-lo+1)-1,[⟨(x.rank:Int) % rk.length,sh⟩]⟩]:List Seg)) (a:=⟨lo+(x.at_:Int) % (hi-lo+1),hi,[⟨(x.rank:Int) % rk.length,sh-12⟩]⟩);rfl;rfl;rfl;rfl;rfl;rfl;rfl;rfl;(intro _ h;cases h);rfl;rfl;rfl;decide;decide;(first|omega|(simp only [List.length_nil,List.length_cons]<;>omega)))|(apply Aa.fn;rfl;rfl;exact hf6;intro _;rfl)|(apply Aa.fn;rfl;rfl;exact q1;intro _;rfl)|(apply Aa.GL;rfl;rfl;rfl;rfl;rfl;omega)|(apply Aa.AV (l:=rk) (i:=x.rank % rk.length);rfl;rfl;rfl;exact hnl;rfl)|(apply Aa.assign;rfl)|(apply Aa.move;rfl)|(apply Aa.Bq;rfl;rfl;omega)|(apply Aa.Hr;rfl;rfl;omega)|(apply Aa.OW;rfl;rfl;omega;omega)|(apply Aa.int;rfl;rfl;rfl)|(apply Aa.load;rfl;rfl)|(apply Aa.BH;rfl;rfl)|(apply Aa.AQ;rfl;rfl;rfl)|(apply Aa.DW;rfl;rfl)|(apply Aa.box;rfl;trivial)|(apply Aa.alloc;rfl)|(apply Aa.Bj;rfl;rfl;rfl;trivial;rfl;rfl;exact Aj rfl;exact le_dec rfl)|(apply Aa.build;rfl;rfl;rfl;rfl;rfl)|(apply Aa.buildSlice;rfl;rfl;rfl;decide;rfl;rfl;rfl)|(apply Aa.U6;rfl;rfl;(first|omega|(simp only [List.length_take,List.length_drop,List.length_append,List.length_singleton,List.length_cons,List.length_nil]<;>omega)))|(apply Aa.extract;rfl;rfl)|(apply Aa.Jf;rfl;rfl;rfl;rfl;omega)|(apply Aa.Lc;rfl;rfl;rfl;rfl;omega)|(apply Ad.Ae;rfl)|(apply Ad.AZ;rfl)|(intro _;try (exfalso;omega)))
    all_goals first|(exfalso;omega)|contradiction|(refine Done.ret rfl (.refl _) (by exact PV.Ac rfl) Ah.nil (Nat.zero_le _) (Nat.le_refl _) ⟨?_,rfl,rfl⟩;rfl)
   ·exact LQ _ (by simp) (Yh ⟨Int.le_refl _,by simp only;omega,by simp only;omega,by simp only;omega,Int.le_refl _⟩ (Ij bQ) (Ij dTw))
   ·refine sm _ (by simp) (fun j hj=>?_)
    have:j=0∨j=1:=by simp at hj;omega
    rcases this with rfl|rfl
    ·show 1<1000000
     decide
    ·show 1<1000000
     decide
end Go.Proofs.YtdabojnmoejilaaGreatDoor
namespace Go.Proofs.YtdabojnmoejilaaGreatDoor
open Go Go.Am Go.Vm
attribute [local irreducible] Aa Af Ar Ad BA AY CG AO AL Aw Vm.Done CW Bl
end Go.Proofs.YtdabojnmoejilaaGreatDoor
namespace Go.Proofs.YtdabojnmoejilaaGreatDoor
open Go Go.Am Go.Vm
attribute [local irreducible] Aa Af Ar Ad BA AY CG AO AL Aw Vm.Done CW Bl
noncomputable instance (a b:JJ):Decidable (a=b):=Classical.propDecidable _
noncomputable instance (a b:FQ):Decidable (a=b):=Classical.propDecidable _
def lnC (i c:Nat):Prop:=bT c∨(i≠0∧(c=95∨(48≤c∧c≤57)))
def a5g (r:FQ):Prop:=(r.ES.length≤30∨r.ES.length=129)∧r.name.length≤40∧r.Fq.length≤40
instance (r:FQ):Decidable (a5g r):=by unfold a5g;infer_instance
end Go.Proofs.YtdabojnmoejilaaGreatDoor
namespace Go.Proofs.YtdabojnmoejilaaGreatDoor
open Go Go.Am Go.Vm
attribute [local irreducible] Aa Af Ar Ad BA AY CG AO AL Aw Vm.Done CW Bl
attribute [local irreducible] DR Dw xI BU Vj
noncomputable def b2w (r:FQ) (f p:Int):FV×Int:=if Vj r f≠0 then (JA,Vj r f) else if p<1∨p>r.ES.length-f then (JA,3) else a0o r (r.first+f) ((r.ES.drop f.toNat).take ((f+p).toNat-f.toNat))
noncomputable def b2x (a b:FQ):FV×Int:=if DR a≠0 then (JA,DR a) else if DR b≠0 then (JA,DR b) else if ¬ (a.Fq=b.Fq∧a.Du=b.Du) then (JA,14) else if b.first≠a.first+a.ES.length then (JA,6) else a0o a a.first (a.ES++b.ES)
theorem vX:∀ n,n<3→C9 (gi Nk n)
 |0,_=>qX
 |1,_=>by
  refine ⟨by decide,by decide,by decide,fun i h1 h2=>?_⟩
  have:i=1∨i=2∨i=3∨i=4:=by simp [Nk,gi] at h2;omega
  rcases this with rfl|rfl|rfl|rfl<;>exact .inl (by decide)
 |2,_=>by
  refine ⟨by decide,by decide,by decide,fun i h1 h2=>?_⟩
  have:i=1∨i=2∨i=3:=by simp [Nk,gi] at h2;omega
  rcases this with rfl|rfl|rfl<;>exact .inl (by decide)
theorem yT:∀ n,n<16→pI (gi PE n):=by decide +kernel
theorem fK (x:FW):∀ k i,i<k→gi (H8 x k) i=((gi x.ES (i % 5):Nat):Int)
 |k+1,i,h=>by
  rcases Nat.lt_or_ge i k with h1|h1
  ·have:gi (H8 x (k+1)) i=gi (H8 x k) i:=by simp [H8,gi,List.getElem?_append_left (show i<(H8 x k).length by rw [FH];exact h1)]
   rw [this];exact fK x k i h1
  ·obtain rfl:i=k:=by omega
   simp [H8,gi,List.getElem?_append_right (show (H8 x i).length≤i by rw [FH];exact Nat.le_refl _),FH]
theorem a3u (x:FW) (hx:x.Ok) (i:Int) (hi:0≤i):DR (Tq x i)=0:=by
 obtain ⟨h1,h2,h3,h4,h5⟩:=hx
 refine kG ⟨by simp [Tq],by simp [Tq],(show bT (82:UInt8).toNat by decide),fun j j1 j2=>?_⟩ (vX _ (Nat.mod_lt _ (by decide))) (yT _ (Nat.mod_lt _ (by decide))) ⟨by simp only [Tq];omega,by simp only [Tq];omega⟩ ⟨by simp only [Tq,FH];omega,by simp only [Tq,FH];omega⟩ (fun j hj=>?_)
 ·obtain rfl:j=1:=by simp [Tq] at j2;omega
  have e:(gi (Tq x i).name 1).toNat=(48+i % 10).toNat:=by
   show (UInt8.ofNat (48+i % 10).toNat).toNat=_
   rw [UInt8.toNat_ofNat'];omega
  rw [e]
  right;left;omega
 ·simp only [Tq,FH] at hj ⊢
  rw [fK x _ j hj]
  have:=h5 (j % 5)
  unfold XZ
  omega
theorem a1w {α:Type} [Inhabited α] {l:List α} {P:α→Prop} (h:∀ a∈l,P a) {n:Nat} (hn:n<l.length):P (gi l n):=by
 simp only [gi,List.getElem?_eq_getElem hn,Option.getD_some]
 exact h _ (List.getElem_mem hn)
theorem a1c (x:FW) (i:Int):b0o (Tq x i):=by
 refine ⟨by simp [Tq],?_,by simp only [Tq,FH];omega⟩
 show (gi Nk (x.Fq % 3)).length<_
 exact Nat.lt_of_le_of_lt (a1w (P:=fun l=>l.length≤5) (by decide) (show x.Fq % 3<Nk.length from Nat.mod_lt _ (by decide))) (by decide)
theorem xg (x:FW) (i:Int):(Tq x i).ES.length≤25:=by simp only [Tq,FH];omega
def b1y:FQ:=⟨[],[],⟨0,0⟩,0,[]⟩
end Go.Proofs.YtdabojnmoejilaaGreatDoor
namespace Go.Proofs.YtdabojnmoejilaaGreatDoor
open Go Go.Am Go.Vm
attribute [local irreducible] Aa Af Ar Ad BA AY CG AO AL Aw Vm.Done CW Bl
def RV (x:jW):Prop:=(1≤x.ranks.length∧x.ranks.length≤3)∧(1≤x.Ap.length∧x.Ap.length≤3)∧x.links.length≤3∧∀ i,i<x.Ap.length→(gi x.Ap i).stops.length≤3
noncomputable instance (x:jW):Decidable (RV x):=Classical.propDecidable _
theorem Y9 (x:jW) (hx:x.Ok):AY env 41 [.agg x.enc] (.p (.bool (decide (RV x)))):=by
 have b1:=hx.nr
 have b2:=hx.nd
 have b3:=hx.nl
 refine AY.enter (AB (by decide)) Tryz.func41 rfl (by kernel_rfl) (by simp [Tryz.ntmps41]) ?_
 by_cases h0:(1≤x.ranks.length∧x.ranks.length≤3)∧(1≤x.Ap.length∧x.Ap.length≤3)∧x.links.length≤3
 case neg =>
  rw [decide_eq_false (fun h=>h0 ⟨h.1,h.2.1,h.2.2.1⟩)]
  repeat' (first|apply Ad.assoc|apply Ad.AA|apply Ad.BL|apply Af.nil|apply Af.one|(apply Af.take;rfl;rfl)|(apply Af.drop;rfl;rfl;rfl)|(apply Af.guard;rfl;rfl)|(apply Aa.assign;rfl)|(apply Aa.move;rfl)|(apply Aa.int;rfl;rfl;rfl)|(apply Aa.load;rfl;rfl)|(apply Aa.Bz;rfl;rfl)|(apply Aa.AU;rfl;rfl)|(apply Aa.BH;rfl;rfl)|(apply Aa.AQ;rfl;rfl;rfl)|(apply Aa.box;rfl;trivial)|(apply Ad.Bh;rfl)|(apply Ad.Ae;rfl)|(intro _;try (exfalso;omega)))
  all_goals first|(exfalso;omega)|(refine Done.ret rfl (.refl _) (by exact PV.Ac rfl) Ah.nil (Nat.zero_le _) (Nat.le_refl _) ⟨?_,rfl,rfl⟩;try rfl)
 repeat' (first|apply Ad.assoc|apply Ad.AA|apply Ad.Au|apply Ad.Ai|apply Af.nil|apply Af.one|(apply Af.take;rfl;rfl)|(apply Af.guard;rfl;rfl)|(apply Aa.assign;rfl)|(apply Aa.move;rfl)|(apply Aa.int;rfl;rfl;rfl)|(apply Aa.load;rfl;rfl)|(apply Aa.AU;rfl;rfl)|(apply Aa.BH;rfl;rfl)|(apply Aa.AQ;rfl;rfl;rfl)|(apply Aa.box;rfl;trivial)|(apply Ad.Ae;rfl)|(intro _;try (exfalso;omega)))
 all_goals try (exfalso;omega)
 refine Ad.D8 (fun k:Nat=>[(1,.ref 0 0),(3,.p (.int .i64 (k:Int)))]) (fun _=>[(0,.box 26 (x.enc.map .p))]) 1 (fun k=>k≤x.Ap.length∧∀ i,i<k→(gi x.Ap i).stops.length≤3) (fun k=>x.Ap.length-k) 0 (by omega) ⟨by omega,fun i hi=>by omega⟩ ⟨by omega,?_,?_⟩ ?_
 ·repeat (first|exact Ak.nil|refine Ak.same (by exact PV.Ac rfl) rfl ?_|refine Ak.cons trivial rfl (.of_eq (Aq (by simp<;>omega))) ?_)
 ·repeat (first|exact Ah.nil|(refine Ah.cons (Aj rfl) ?_ rfl ?_ ?_;(first|exact trivial|exact AP.Ag _ _|(simp [HB.under,AP.under,PV.under]));(first|exact Bg.refl _|exact Bg.vec (Bf.refl _) (by simp))))
 rintro k ⟨hk,hok⟩
 by_cases hkl:k<x.Ap.length
 ·have hst:=(hx.Ap k hkl).stops
  by_cases h1:(gi x.Ap k).stops.length≤3
  ·repeat' (first|apply Ad.assoc|apply Ad.AA|apply Ad.region|apply Ad.Au|apply Ad.Ai|apply AO.normal|apply AL.normal|apply Ad.skip|apply Af.nil|apply Af.one|(apply Aa.assign;rfl)|(apply Aa.move;rfl)|(apply Aa.Bq;rfl;rfl;omega)|(apply Aa.int;rfl;rfl;rfl)|(apply Aa.AV;rfl;rfl;rfl;omega;rfl)|(apply Aa.load;rfl;rfl)|(apply Aa.BH;rfl;rfl)|(apply Aa.AQ;rfl;rfl;rfl)|(apply Aa.DW;rfl;rfl)|(apply Ad.Ae;rfl)|(apply Ad.AZ;rfl)|(intro _;try (exfalso;omega)))
   all_goals try (exfalso;omega)
   refine Aw.normal ⟨k+1,⟨by omega,fun i hi=>?_⟩,by omega,⟨by omega,?_,?_⟩⟩
   ·rcases Nat.lt_or_ge i k with h|h
    ·exact hok i h
    ·obtain rfl:i=k:=by omega
     exact h1
   ·repeat (first|exact Ak.nil|refine Ak.same (by exact PV.Ac rfl) rfl ?_|refine Ak.cons trivial rfl (.of_eq (Aq (by simp<;>omega))) ?_)
   ·repeat (first|exact Ah.nil|(refine Ah.cons (Aj rfl) ?_ rfl ?_ ?_;(first|exact trivial|exact AP.Ag _ _|(simp [HB.under,AP.under,PV.under]));(first|exact Bg.refl _|exact Bg.vec (Bf.refl _) (by simp))))
  ·rw [decide_eq_false (fun h=>h1 (h.2.2.2 k hkl))]
   repeat' (first|apply Ad.assoc|apply Ad.AA|apply Ad.Au|apply Ad.Ai|apply AO.ret|apply AL.ret|apply Aw.ret|apply Ad.ret|apply Af.nil|apply Af.one|(apply Aa.assign;rfl)|(apply Aa.move;rfl)|(apply Aa.int;rfl;rfl;rfl)|(apply Aa.AV;rfl;rfl;rfl;omega;rfl)|(apply Aa.load;rfl;rfl)|(apply Aa.BH;rfl;rfl)|(apply Aa.AQ;rfl;rfl;rfl)|(apply Aa.DW;rfl;rfl)|(apply Ad.Ae;rfl)|(apply Ad.AZ;rfl)|(intro _;try (exfalso;omega)))
   all_goals first|(exfalso;omega)|(refine Done.ret rfl (.refl _) (by exact PV.Ac rfl) Ah.nil (Nat.zero_le _) (Nat.le_refl _) ⟨?_,rfl,rfl⟩;try rfl)
 ·rw [decide_eq_true (show RV x from ⟨h0.1,h0.2.1,h0.2.2,fun i hi=>hok i (by omega)⟩)]
  repeat' (first|apply Ad.assoc|apply Ad.AA|apply Ad.AX|apply AO.normal|apply AL.exit|apply Aw.exit|apply Ad.ret|apply Af.nil|apply Af.one|(apply Aa.assign;rfl)|(apply Aa.move;rfl)|(apply Aa.int;rfl;rfl;rfl)|(apply Aa.load;rfl;rfl)|(apply Aa.BH;rfl;rfl)|(apply Aa.AQ;rfl;rfl;rfl)|(apply Ad.Ae;rfl)|(intro _;try (exfalso;omega)))
  all_goals first|(exfalso;omega)|(refine Done.ret rfl (.refl _) (by exact PV.Ac rfl) Ah.nil (Nat.zero_le _) (Nat.le_refl _) ⟨?_,rfl,rfl⟩;try rfl)
def yF (rk:List FQ) (lo hi:Int) (x:mG) (i:Nat) (s:Stp):Prop :=
 AY env 56 [.lst 131 (cells rk) rk.length,.agg [.int .i64 lo,.int .i64 hi],.agg (Enc.enc x),.int .i64 (i:Int)] (.p (.agg (Enc.enc s)))∧s.name=MJ 83 i∧Io rk lo hi s=0∧YK s∧∃ a,a<6∧s.Du=gi EZ a
noncomputable def Ri (rk:List FQ) (lo hi:Int) (x:mG) (i:Nat):Stp:=Classical.epsilon (h:=⟨default⟩) (yF rk lo hi x i)
theorem Wq (rk:List FQ) (lo hi:Int) (x:mG) (i:Nat) (hrk:mD rk) (hc:0≤lo∧lo≤hi∧hi≤127) (hx:x.Ok) (hi9:i≤9):yF rk lo hi x i (Ri rk lo hi x i) :=
 Classical.epsilon_spec (y8 rk lo hi x i hrk hc hx hi9)
def Es (l:List FW):Nat→List FQ
 |0=>[]
 |k+1=>Es l k++[Tq (gi l k) (k:Int)]
noncomputable def Gf (rk:List FQ) (lo hi:Int) (l:List mG):Nat→List Stp
 |0=>[]
 |k+1=>Gf rk lo hi l k++[Ri rk lo hi (gi l k) k]
def Eu (b:ru):Int:=36+(b.low:Int) % 12
def ET (b:ru):Int:=Eu b+(b.keys:Int) % 9
noncomputable def gq (rk:List FQ) (b:ru) (k:Nat):VB:=⟨MJ 68 (k:Int),b.EH,Eu b,ET b,Gf rk (Eu b) (ET b) b.stops b.stops.length⟩
noncomputable def Gm (rk:List FQ) (l:List ru):Nat→List VB
 |0=>[]
 |k+1=>Gm rk l k++[gq rk (gi l k) k]
def U2 (n:Nat) (c:xZ) (k:Nat):Xq:=⟨MJ 67 (k:Int),(c.BG:Int) % n,(c.tgt:Int) % n,if (c.BG:Int) % n=(c.tgt:Int) % n∧c.shift.tmod 25=0 then 12 else c.shift.tmod 25,c.through⟩
def EW (n:Nat) (l:List xZ):Nat→List Xq
 |0=>[]
 |k+1=>EW n l k++[U2 n (gi l k) k]
theorem Iw (l:List FW):∀ k,(Es l k).length=k
 |0=>rfl
 |k+1=>by simp [Es,Iw l k]
theorem G5 (rk:List FQ) (lo hi:Int) (l:List mG):∀ k,(Gf rk lo hi l k).length=k
 |0=>rfl
 |k+1=>by simp [Gf,G5 rk lo hi l k]
theorem Ls (rk:List FQ) (l:List ru):∀ k,(Gm rk l k).length=k
 |0=>rfl
 |k+1=>by simp [Gm,Ls rk l k]
theorem OE (n:Nat) (l:List xZ):∀ k,(EW n l k).length=k
 |0=>rfl
 |k+1=>by simp [EW,OE n l k]
noncomputable def gX (x:jW):EN:=⟨[79,114,103,97,110],Es x.ranks x.ranks.length,Gm (Es x.ranks x.ranks.length) x.Ap x.Ap.length,EW x.Ap.length x.links x.links.length⟩
theorem QN {α:Type} [Inhabited α] {l:List α} {a:α} {i:Nat}:gi (l++[a]) i=if i<l.length then gi l i else if i=l.length then a else default:=by
 by_cases h:i<l.length
 ·rw [if_pos h];simp [gi,List.getElem?_append_left h]
 ·rw [if_neg h]
  by_cases h2:i=l.length
  ·rw [if_pos h2,h2];simp [gi]
  ·rw [if_neg h2];simp [gi,List.getElem?_append_right (show l.length≤i by omega),show ¬ i-l.length=0 by omega]
theorem TM (l:List FW):∀ k i,i<k→gi (Es l k) i=Tq (gi l i) (i:Int)
 |k+1,i,h=>by
  simp only [Es,QN,Iw]
  by_cases h1:i<k
  ·rw [if_pos h1];exact TM l k i h1
  ·obtain rfl:i=k:=by omega
   simp
theorem YW {l:List FW} (h:∀ i,i<l.length→(gi l i).Ok) (hl:0<l.length∧l.length≤3):mD (Es l l.length):=by
 refine ⟨by rw [Iw];exact hl,fun i hi=>?_⟩
 rw [Iw] at hi
 rw [TM l _ i hi]
 exact ⟨a3u _ (h i hi) _ (by omega),(gi l i).Du % 16,Nat.mod_lt _ (by decide),rfl⟩
end Go.Proofs.YtdabojnmoejilaaGreatDoor
namespace Go.Proofs.YtdabojnmoejilaaGreatDoor
open Go Go.Am Go.Vm
attribute [local irreducible] Aa Af Ar Ad BA AY CG AO AL Aw Vm.Done CW Bl
attribute [local irreducible] Tq Ri
def b3s (a b c:PV):Vm.HB:=.box 37 [.p (.str (bs [79,114,103,97,110])),a,b,c]
def b2r:Vm.HB:=.box 37 [.p (.str ⟨#[]⟩),.p (.val (.slice none 0 0)),.p (.val (.slice none 0 0)),.p (.val (.slice none 0 0))]
theorem Uk (x:jW) (hx:x.Ok) (hf:RV x):AY env 34 [.agg x.enc] (.p (.agg (Enc.enc (gX x)))):=by
 obtain ⟨hf1,hf2,hf3,hf4⟩:=hf
 have hR:=YW hx.ranks (by omega)
 refine AY.enter (AB (by decide)) Tryz.func34 rfl (by kernel_rfl) (by simp [Tryz.ntmps34]) ?_
 repeat' (first|apply Ad.assoc|apply Ad.AA|apply Ad.Ai|apply Af.nil|apply Af.one|(apply Aa.assign;rfl)|(apply Aa.box;rfl;trivial)|(apply Aa.alloc;rfl)|(apply Aa.Bj;rfl;rfl;rfl;trivial;rfl;rfl;exact Aj rfl;exact le_dec rfl)|(apply Aa.build;rfl;rfl;rfl;rfl;rfl))
 refine Ad.ghost (A8.EC 2 1 131 rfl rfl) ?_
 refine Ad.D8 (fun k:Nat=>[(1,.ref 0 0),(2,.ref 1 0),(3,.ref 2 0),(4,.p (.int .i64 (k:Int)))]) (fun k=>[(3,.vec 131 (cells (Es x.ranks k)) (Es x.ranks k).length true),(2,.box 37 [.p (.str (bs [79,114,103,97,110])),.vec 3 (Es x.ranks k).length 0 (Es x.ranks k).length,.p (.val (.slice none 0 0)),.p (.val (.slice none 0 0))]),(1,.box 37 [.p (.str ⟨#[]⟩),.p (.val (.slice none 0 0)),.p (.val (.slice none 0 0)),.p (.val (.slice none 0 0))]),(0,.box 26 (x.enc.map .p))]) 4 (fun k=>k≤x.ranks.length) (fun k=>x.ranks.length-k) 0 (by omega) (by omega) ⟨by omega,?_,?_⟩ ?_
 ·repeat (first|exact Ak.nil|refine Ak.same (by exact PV.Ac rfl) rfl ?_|refine Ak.cons trivial rfl (.of_eq (Aq (by simp<;>omega))) ?_)
 ·repeat (first|exact Ah.nil|(refine Ah.cons (Aj rfl) ?_ rfl ?_ ?_;(first|exact trivial|exact AP.Ag _ _|(simp [HB.under,AP.under,PV.under]));(first|exact Bg.refl _|exact Bg.vec (Bf.refl _) (by simp))))
 intro k hk
 have hl:=Iw x.ranks k
 have e1:Es x.ranks (k+1)=Es x.ranks k++[Tq (gi x.ranks k) (k:Int)]:=rfl
 have e2:(Es x.ranks (k+1)).length=(Es x.ranks k).length+1:=by rw [e1];simp
 by_cases hkl:k<x.ranks.length
 ·have hm:=qR (gi x.ranks k) (hx.ranks k hkl) k ⟨by omega,by omega⟩
  repeat' (first|apply Ad.assoc|apply Ad.AA|apply Ad.region|apply Ad.Et|apply Ad.Au|apply Ad.Ai|apply AO.normal|apply AL.normal|apply Af.nil|apply Ar.nil|apply Af.one|(apply Ar.bar;decide +kernel)|apply Ar.quiet|(apply Aa.fn;rfl;rfl;exact hm;intro _;rfl)|(apply Aa.Dv (a:=Tq (gi x.ranks k) (k:Int));rfl;rfl;rfl;rfl;rfl;rfl;rfl;rfl;(intro _ h;cases h);rfl;rfl;rfl;decide;decide;(first|omega|(simp only [List.length_take,List.length_drop,List.length_append,List.length_singleton,List.length_cons,List.length_nil]<;>omega)))|(apply Aa.assign;rfl)|(apply Aa.move;rfl)|(apply Aa.Bq;rfl;rfl;omega)|(apply Aa.int;rfl;rfl;rfl)|(apply Aa.AV;rfl;rfl;rfl;omega;rfl)|(apply Aa.load;rfl;rfl)|(apply Aa.BH;rfl;rfl)|(apply Aa.AQ;rfl;rfl;rfl)|(apply Aa.Bj;rfl;rfl;rfl;trivial;rfl;rfl;exact Aj rfl;exact le_dec rfl)|(apply Aa.buildSlice;rfl;rfl;rfl;decide;rfl;rfl;rfl)|(apply Ad.Ae;rfl)|(intro _;try (exfalso;omega)))
  all_goals try (exfalso;omega)
  refine Aw.normal ⟨k+1,by omega,by omega,⟨by omega,?_,?_⟩⟩
  ·repeat (first|exact Ak.nil|refine Ak.same (by exact PV.Ac rfl) rfl ?_|refine Ak.cons trivial rfl (.of_eq (Aq (by simp<;>omega))) ?_)
  ·rw [e2,e1];repeat (first|exact Ah.nil|(refine Ah.cons (Aj rfl) ?_ rfl ?_ ?_;(first|exact trivial|exact AP.Ag _ _|(simp [HB.under,AP.under,PV.under]));(first|exact Bg.refl _|exact Bg.vec (Bf.refl _) (by simp))))
 obtain rfl:k=x.ranks.length:=by omega
 clear e1 e2 hl hkl hk
 have eO:gX x=⟨[79,114,103,97,110],Es x.ranks x.ranks.length,Gm (Es x.ranks x.ranks.length) x.Ap x.Ap.length,EW x.Ap.length x.links x.links.length⟩:=rfl
 rw [eO]
 generalize Es x.ranks x.ranks.length=R at *
 clear eO
 repeat' (first|(refine Ad.at 6 ?_;refine Ad.ghost (A8.trans (A8.Dc 2 1 rfl rfl rfl) (A8.trans (A8.EC 2 2 97 rfl rfl) (A8.EC 2 3 147 rfl rfl))) ?_;first|apply Ad.AA|apply Ad.BI)|apply Ad.assoc|apply Ad.AA|apply Ad.AX|apply Ad.Ai|apply AO.normal|apply AL.exit|apply Aw.exit|apply Af.nil|apply Af.one|(apply Aa.assign;rfl)|(apply Aa.move;rfl)|(apply Aa.int;rfl;rfl;rfl)|(apply Aa.load;rfl;rfl)|(apply Aa.BH;rfl;rfl)|(apply Aa.AQ;rfl;rfl;rfl)|(apply Ad.Ae;rfl)|(intro _;try (exfalso;omega)))
 all_goals try (exfalso;omega)
 refine Ad.D8 (fun k:Nat=>[(1,.ref 0 0),(2,.ref 1 0),(3,.ref 2 0),(5,.p (.int .i64 (k:Int)))]) (fun k=>[(5,.vec 147 [] 0 true),(4,.vec 97 (cells (Gm R x.Ap k)) (Gm R x.Ap k).length true),(2,.box 37 [.p (.str (bs [79,114,103,97,110])),.p (.lst 131 (cells R) R.length),.vec 4 (Gm R x.Ap k).length 0 (Gm R x.Ap k).length,.vec 5 0 0 0]),(1,.box 37 [.p (.str ⟨#[]⟩),.p (.val (.slice none 0 0)),.p (.val (.slice none 0 0)),.p (.val (.slice none 0 0))]),(0,.box 26 (x.enc.map .p))]) 6 (fun k=>k≤x.Ap.length) (fun k=>x.Ap.length-k) 0 (by omega) (by omega) ⟨by omega,?_,?_⟩ ?_
 ·repeat (first|exact Ak.nil|refine Ak.same (by exact PV.Ac rfl) rfl ?_|refine Ak.cons trivial rfl (.of_eq (Aq (by simp<;>omega))) ?_)
 ·repeat (first|exact Ah.nil|(refine Ah.cons (Aj rfl) ?_ rfl ?_ ?_;(first|exact trivial|exact AP.Ag _ _|(simp [HB.under,AP.under,PV.under]));(first|exact Bg.refl _|exact Bg.vec (Bf.refl _) (by simp))))
 intro k hk
 have hl:=Ls R x.Ap k
 have e1:Gm R x.Ap (k+1)=Gm R x.Ap k++[gq R (gi x.Ap k) k]:=rfl
 have e2:(Gm R x.Ap (k+1)).length=(Gm R x.Ap k).length+1:=by rw [e1];simp
 by_cases hkl:k<x.Ap.length
 ·obtain ⟨q1,q2,q3,q4⟩:=hx.Ap k hkl
  have q5:=hf4 k hkl
  have eD:gq R (gi x.Ap k) k=⟨MJ 68 (k:Int),(gi x.Ap k).EH,Eu (gi x.Ap k),ET (gi x.Ap k),Gf R (Eu (gi x.Ap k)) (ET (gi x.Ap k)) (gi x.Ap k).stops (gi x.Ap k).stops.length⟩:=rfl
  have hlo:0≤Eu (gi x.Ap k)∧Eu (gi x.Ap k)≤ET (gi x.Ap k)∧ET (gi x.Ap k)≤127:=by unfold ET Eu;omega
  have hst:(gi x.Ap k).stops.length≤3:=q5
  repeat' (first|apply Ad.assoc|apply Ad.AA|apply Ad.Au|apply Ad.Ai|apply Af.nil|apply Af.one|(apply Aa.GL;rfl;rfl;rfl;rfl;rfl;omega)|(apply Aa.assign;rfl)|(apply Aa.move;rfl)|(apply Aa.Bq;rfl;rfl;omega)|(apply Aa.OW;rfl;rfl;omega;omega)|(apply Aa.int;rfl;rfl;rfl)|(apply Aa.AV;rfl;rfl;rfl;omega;rfl)|(apply Aa.load;rfl;rfl)|(apply Aa.BH;rfl;rfl)|(apply Aa.AQ;rfl;rfl;rfl)|(apply Aa.alloc;rfl)|(apply Aa.Bj;rfl;rfl;rfl;trivial;rfl;rfl;exact Aj rfl;exact le_dec rfl)|(apply Aa.build;rfl;rfl;rfl;rfl;rfl)|(apply Aa.buildSlice;rfl;rfl;rfl;decide;rfl;rfl;rfl)|(apply Aa.U6;rfl;rfl;(first|omega|(simp only [List.length_take,List.length_drop,List.length_append,List.length_singleton,List.length_cons,List.length_nil]<;>omega)))|(apply Aa.Jf;rfl;rfl;rfl;rfl;omega)|(apply Aa.Lc;rfl;rfl;rfl;rfl;omega)|(apply Ad.Ae;rfl)|(intro _;try (exfalso;omega)))
  all_goals try (exfalso;omega)
  refine Ad.ghost (A8.EC 8 4 122 rfl rfl) ?_
  refine Ad.D8 (fun j:Nat=>[(1,.ref 0 0),(2,.ref 1 0),(3,.ref 2 0),(5,.p (.int .i64 (k:Int))),(6,.ref 6 0),(7,.p (.int .i64 (Eu (gi x.Ap k)))),(8,.ref 8 0),(9,.p (.int .i64 (j:Int)))]) (fun j=>[(9,.vec 122 (cells (Gf R (Eu (gi x.Ap k)) (ET (gi x.Ap k)) (gi x.Ap k).stops j)) (Gf R (Eu (gi x.Ap k)) (ET (gi x.Ap k)) (gi x.Ap k).stops j).length true),(8,.box 97 [.p (.str (bs (MJ 68 (k:Int)))),.p (.bool (gi x.Ap k).EH),.p (.int .i64 (Eu (gi x.Ap k))),.p (.int .i64 (ET (gi x.Ap k))),.vec 9 (Gf R (Eu (gi x.Ap k)) (ET (gi x.Ap k)) (gi x.Ap k).stops j).length 0 (Gf R (Eu (gi x.Ap k)) (ET (gi x.Ap k)) (gi x.Ap k).stops j).length]),(6,.box 75 ((Enc.enc (gi x.Ap k)).map .p)),(5,.vec 147 [] 0 true),(4,.vec 97 (cells (Gm R x.Ap k)) (Gm R x.Ap k).length true),(2,.box 37 [.p (.str (bs [79,114,103,97,110])),.p (.lst 131 (cells R) R.length),.vec 4 (Gm R x.Ap k).length 0 (Gm R x.Ap k).length,.vec 5 0 0 0]),(1,.box 37 [.p (.str ⟨#[]⟩),.p (.val (.slice none 0 0)),.p (.val (.slice none 0 0)),.p (.val (.slice none 0 0))]),(0,.box 26 (x.enc.map .p))]) 10 (fun j=>j≤(gi x.Ap k).stops.length) (fun j=>(gi x.Ap k).stops.length-j) 0 (by omega) (by omega) ⟨by omega,?_,?_⟩ ?_
  ·repeat (first|exact Ak.nil|refine Ak.same (by exact PV.Ac rfl) rfl ?_|refine Ak.cons trivial rfl (.of_eq (Aq (by simp<;>omega))) ?_)
  ·repeat (first|exact Ah.nil|(refine Ah.cons (Aj rfl) ?_ rfl ?_ ?_;(first|exact trivial|exact AP.Ag _ _|(simp [HB.under,AP.under,PV.under]));(first|exact Bg.refl _|exact Bg.vec (Bf.refl _) (by simp))))
  intro j hj
  have jl:=G5 R (Eu (gi x.Ap k)) (ET (gi x.Ap k)) (gi x.Ap k).stops j
  have j1:Gf R (Eu (gi x.Ap k)) (ET (gi x.Ap k)) (gi x.Ap k).stops (j+1)=Gf R (Eu (gi x.Ap k)) (ET (gi x.Ap k)) (gi x.Ap k).stops j++[Ri R (Eu (gi x.Ap k)) (ET (gi x.Ap k)) (gi (gi x.Ap k).stops j) j]:=rfl
  have j2:(Gf R (Eu (gi x.Ap k)) (ET (gi x.Ap k)) (gi x.Ap k).stops (j+1)).length=(Gf R (Eu (gi x.Ap k)) (ET (gi x.Ap k)) (gi x.Ap k).stops j).length+1:=by rw [j1];simp
  by_cases hjl:j<(gi x.Ap k).stops.length
  ·have hp:=(Wq R (Eu (gi x.Ap k)) (ET (gi x.Ap k)) (gi (gi x.Ap k).stops j) j hR hlo (q4 j hjl) (by omega)).1
   repeat' (first|apply Ad.assoc|apply Ad.AA|apply Ad.region|apply Ad.Et|apply Ad.Au|apply Ad.Ai|apply AO.normal|apply AL.normal|apply Af.nil|apply Ar.nil|apply Af.one|(apply Ar.bar;decide +kernel)|apply Ar.quiet|(apply Aa.fn;rfl;rfl;exact hp;intro _;rfl)|(apply Aa.Dv (a:=Ri R (Eu (gi x.Ap k)) (ET (gi x.Ap k)) (gi (gi x.Ap k).stops j) j);rfl;rfl;rfl;rfl;rfl;rfl;rfl;rfl;(intro _ h;cases h);rfl;rfl;rfl;decide;decide;(first|omega|(simp only [List.length_take,List.length_drop,List.length_append,List.length_singleton,List.length_cons,List.length_nil]<;>omega)))|(apply Aa.assign;rfl)|(apply Aa.move;rfl)|(apply Aa.Bq;rfl;rfl;omega)|(apply Aa.int;rfl;rfl;rfl)|(apply Aa.AV;rfl;rfl;rfl;omega;rfl)|(apply Aa.load;rfl;rfl)|(apply Aa.BH;rfl;rfl)|(apply Aa.AQ;rfl;rfl;rfl)|(apply Aa.Bj;rfl;rfl;rfl;trivial;rfl;rfl;exact Aj rfl;exact le_dec rfl)|(apply Aa.buildSlice;rfl;rfl;rfl;decide;rfl;rfl;rfl)|(apply Ad.Ae;rfl)|(intro _;try (exfalso;omega)))
   all_goals try (exfalso;omega)
   refine Aw.normal ⟨j+1,by omega,by omega,⟨by omega,?_,?_⟩⟩
   ·repeat (first|exact Ak.nil|refine Ak.same (by exact PV.Ac rfl) rfl ?_|refine Ak.cons trivial rfl (.of_eq (Aq (by simp<;>omega))) ?_)
   ·rw [j2,j1];repeat (first|exact Ah.nil|(refine Ah.cons (Aj rfl) ?_ rfl ?_ ?_;(first|exact trivial|exact AP.Ag _ _|(simp [HB.under,AP.under,PV.under]));(first|exact Bg.refl _|exact Bg.vec (Bf.refl _) (by simp))))
  obtain rfl:j=(gi x.Ap k).stops.length:=by omega
  repeat' (first|(refine Ad.atEnd 16 ?_;refine Ad.ghost (A8.Dc 8 4 rfl rfl rfl) ?_;first|apply Ad.region|apply Ad.Et)|apply Ad.assoc|apply Ad.AA|apply Ad.region|apply Ad.AX|apply AO.normal|apply AL.normal|apply AL.exit|apply Aw.exit|apply Af.nil|apply Af.one|(apply Aa.Dv (a:=gq R (gi x.Ap k) k);rfl;rfl;rfl;rfl;rfl;rfl;rfl;rfl;(intro _ h;cases h);rfl;rfl;rfl;decide;decide;(first|omega|(simp only [List.length_take,List.length_drop,List.length_append,List.length_singleton,List.length_cons,List.length_nil]<;>omega)))|(apply Aa.assign;rfl)|(apply Aa.move;rfl)|(apply Aa.Bq;rfl;rfl;omega)|(apply Aa.int;rfl;rfl;rfl)|(apply Aa.load;rfl;rfl)|(apply Aa.BH;rfl;rfl)|(apply Aa.AQ;rfl;rfl;rfl)|(apply Aa.Bj;rfl;rfl;rfl;trivial;rfl;rfl;exact Aj rfl;exact le_dec rfl)|(apply Aa.buildSlice;rfl;rfl;rfl;decide;rfl;rfl;rfl)|(apply Ad.Ae;rfl)|(intro _;try (exfalso;omega)))
  all_goals try (exfalso;omega)
  refine Aw.normal ⟨k+1,by omega,by omega,⟨by omega,?_,?_⟩⟩
  ·repeat (first|exact Ak.nil|refine Ak.same (by exact PV.Ac rfl) rfl ?_|refine Ak.cons trivial rfl (.of_eq (Aq (by simp<;>omega))) ?_)
  ·rw [e2,e1];repeat (first|exact Ah.nil|(refine Ah.cons (Aj rfl) ?_ rfl ?_ ?_;(first|exact trivial|exact AP.Ag _ _|(simp [HB.under,AP.under,PV.under]));(first|exact Bg.refl _|exact Bg.vec (Bf.refl _) (by simp))))
 obtain rfl:k=x.Ap.length:=by omega
 clear e1 e2 hl hkl hk
 have hDl:=Ls R x.Ap x.Ap.length
 generalize Gm R x.Ap x.Ap.length=D at *
 repeat' (first|(refine Ad.at 17 ?_;refine Ad.ghost (A8.Dc 2 2 rfl rfl rfl) ?_;first|apply Ad.AA|apply Ad.BI)|apply Ad.assoc|apply Ad.AA|apply Ad.AX|apply Ad.Ai|apply AO.normal|apply AL.exit|apply Aw.exit|apply Af.nil|apply Af.one|(apply Aa.assign;rfl)|(apply Aa.move;rfl)|(apply Aa.int;rfl;rfl;rfl)|(apply Aa.load;rfl;rfl)|(apply Aa.BH;rfl;rfl)|(apply Aa.AQ;rfl;rfl;rfl)|(apply Ad.Ae;rfl)|(intro _;try (exfalso;omega)))
 all_goals try (exfalso;omega)
 refine Ad.D8 (fun k:Nat=>[(1,.ref 0 0),(2,.ref 1 0),(3,.ref 2 0),(10,.p (.int .i64 (x.Ap.length:Int))),(11,.p (.int .i64 (k:Int)))]) (fun k=>[(5,.vec 147 (cells (EW x.Ap.length x.links k)) (EW x.Ap.length x.links k).length true),(2,.box 37 [.p (.str (bs [79,114,103,97,110])),.p (.lst 131 (cells R) R.length),.p (.lst 97 (cells D) D.length),.vec 5 (EW x.Ap.length x.links k).length 0 (EW x.Ap.length x.links k).length]),(1,.box 37 [.p (.str ⟨#[]⟩),.p (.val (.slice none 0 0)),.p (.val (.slice none 0 0)),.p (.val (.slice none 0 0))]),(0,.box 26 (x.enc.map .p))]) 6 (fun k=>k≤x.links.length) (fun k=>x.links.length-k) 0 (by omega) (by omega) ⟨by omega,?_,?_⟩ ?_
 ·repeat (first|exact Ak.nil|refine Ak.same (by exact PV.Ac rfl) rfl ?_|refine Ak.cons trivial rfl (.of_eq (Aq (by simp<;>omega))) ?_)
 ·repeat (first|exact Ah.nil|(refine Ah.cons (Aj rfl) ?_ rfl ?_ ?_;(first|exact trivial|exact AP.Ag _ _|(simp [HB.under,AP.under,PV.under]));(first|exact Bg.refl _|exact Bg.vec (Bf.refl _) (by simp))))
 intro k hk
 have hl:=OE x.Ap.length x.links k
 by_cases hkl:k<x.links.length
 ·obtain ⟨q1,q2,q3⟩:=hx.links k hkl
  have hne:((gi x.links k).BG:Int) % x.Ap.length≥0:=Int.emod_nonneg _ (by omega)
  by_cases c1:((gi x.links k).BG:Int) % x.Ap.length=((gi x.links k).tgt:Int) % x.Ap.length
  ·by_cases c2:(gi x.links k).shift.tmod 25=0
   ·have e1:EW x.Ap.length x.links (k+1)=EW x.Ap.length x.links k++[(⟨MJ 67 (k:Int),((gi x.links k).BG:Int) % x.Ap.length,((gi x.links k).tgt:Int) % x.Ap.length,12,(gi x.links k).through⟩:Xq)]:=by
     show EW x.Ap.length x.links k++[U2 x.Ap.length (gi x.links k) k]=_
     unfold U2
     rw [if_pos ⟨c1,c2⟩]
    have e2:(EW x.Ap.length x.links (k+1)).length=(EW x.Ap.length x.links k).length+1:=by rw [e1];simp
    repeat' (first|apply Ad.assoc|apply Ad.AA|apply Ad.BI|apply Ad.region|apply Ad.Au|apply Ad.Ai|apply AO.normal|apply AL.normal|apply Af.nil|apply Ar.nil|apply Af.one|(apply Ar.bar;decide +kernel)|apply Ar.quiet|(apply Af.take;rfl;rfl)|(apply Af.guard;rfl;rfl)|(apply Aa.GL;rfl;rfl;rfl;rfl;rfl;omega)|(apply Aa.Dv (a:=(⟨MJ 67 (k:Int),((gi x.links k).BG:Int) % x.Ap.length,((gi x.links k).tgt:Int) % x.Ap.length,12,(gi x.links k).through⟩:Xq));rfl;rfl;rfl;rfl;rfl;rfl;rfl;rfl;(intro _ h;cases h);rfl;rfl;rfl;decide;decide;(first|omega|(simp only [List.length_take,List.length_drop,List.length_append,List.length_singleton,List.length_cons,List.length_nil]<;>omega)))|(apply Aa.assign;rfl)|(apply Aa.move;rfl)|(apply Aa.Bq;rfl;rfl;omega)|(apply Aa.OW;rfl;rfl;omega;omega)|(apply Aa.int;rfl;rfl;rfl)|(apply Aa.AV;rfl;rfl;rfl;omega;rfl)|(apply Aa.load;rfl;rfl)|(apply Aa.Bz;rfl;rfl)|(apply Aa.BH;rfl;rfl)|(apply Aa.AQ;rfl;rfl;rfl)|(apply Aa.alloc;rfl)|(apply Aa.Bj;rfl;rfl;rfl;trivial;rfl;rfl;exact Aj rfl;exact le_dec rfl)|(apply Aa.build;rfl;rfl;rfl;rfl;rfl)|(apply Aa.buildSlice;rfl;rfl;rfl;decide;rfl;rfl;rfl)|(apply Aa.U6;rfl;rfl;(first|omega|(simp only [List.length_take,List.length_drop,List.length_append,List.length_singleton,List.length_cons,List.length_nil]<;>omega)))|(apply Aa.Jf;rfl;rfl;rfl;rfl;omega)|(apply Aa.Lc;rfl;rfl;rfl;rfl;omega)|(apply Ad.Ae;rfl)|(intro _;try (exfalso;omega)))
    all_goals try (exfalso;omega)
    refine Aw.normal ⟨k+1,by omega,by omega,⟨by omega,?_,?_⟩⟩
    ·repeat (first|exact Ak.nil|refine Ak.same (by exact PV.Ac rfl) rfl ?_|refine Ak.cons trivial rfl (.of_eq (Aq (by simp<;>omega))) ?_)
    ·rw [e2,e1];repeat (first|exact Ah.nil|(refine Ah.cons (Aj rfl) ?_ rfl ?_ ?_;(first|exact trivial|exact AP.Ag _ _|(simp [HB.under,AP.under,PV.under]));(first|exact Bg.refl _|exact Bg.vec (Bf.refl _) (by simp))))
   ·have e1:EW x.Ap.length x.links (k+1)=EW x.Ap.length x.links k++[(⟨MJ 67 (k:Int),((gi x.links k).BG:Int) % x.Ap.length,((gi x.links k).tgt:Int) % x.Ap.length,(gi x.links k).shift.tmod 25,(gi x.links k).through⟩:Xq)]:=by
     show EW x.Ap.length x.links k++[U2 x.Ap.length (gi x.links k) k]=_
     unfold U2
     rw [if_neg (fun h=>c2 h.2)]
    have e2:(EW x.Ap.length x.links (k+1)).length=(EW x.Ap.length x.links k).length+1:=by rw [e1];simp
    repeat' (first|apply Ad.assoc|apply Ad.AA|apply Ad.BI|apply Ad.region|apply Ad.Au|apply Ad.Ai|apply AO.normal|apply AL.normal|apply Af.nil|apply Ar.nil|apply Af.one|(apply Ar.bar;decide +kernel)|apply Ar.quiet|(apply Af.take;rfl;rfl)|(apply Af.guard;rfl;rfl)|(apply Aa.GL;rfl;rfl;rfl;rfl;rfl;omega)|(apply Aa.Dv (a:=(⟨MJ 67 (k:Int),((gi x.links k).BG:Int) % x.Ap.length,((gi x.links k).tgt:Int) % x.Ap.length,(gi x.links k).shift.tmod 25,(gi x.links k).through⟩:Xq));rfl;rfl;rfl;rfl;rfl;rfl;rfl;rfl;(intro _ h;cases h);rfl;rfl;rfl;decide;decide;(first|omega|(simp only [List.length_take,List.length_drop,List.length_append,List.length_singleton,List.length_cons,List.length_nil]<;>omega)))|(apply Aa.assign;rfl)|(apply Aa.move;rfl)|(apply Aa.Bq;rfl;rfl;omega)|(apply Aa.OW;rfl;rfl;omega;omega)|(apply Aa.int;rfl;rfl;rfl)|(apply Aa.AV;rfl;rfl;rfl;omega;rfl)|(apply Aa.load;rfl;rfl)|(apply Aa.Bz;rfl;rfl)|(apply Aa.BH;rfl;rfl)|(apply Aa.AQ;rfl;rfl;rfl)|(apply Aa.alloc;rfl)|(apply Aa.Bj;rfl;rfl;rfl;trivial;rfl;rfl;exact Aj rfl;exact le_dec rfl)|(apply Aa.build;rfl;rfl;rfl;rfl;rfl)|(apply Aa.buildSlice;rfl;rfl;rfl;decide;rfl;rfl;rfl)|(apply Aa.U6;rfl;rfl;(first|omega|(simp only [List.length_take,List.length_drop,List.length_append,List.length_singleton,List.length_cons,List.length_nil]<;>omega)))|(apply Aa.Jf;rfl;rfl;rfl;rfl;omega)|(apply Aa.Lc;rfl;rfl;rfl;rfl;omega)|(apply Ad.Ae;rfl)|(intro _;try (exfalso;omega)))
    all_goals try (exfalso;omega)
    refine Aw.normal ⟨k+1,by omega,by omega,⟨by omega,?_,?_⟩⟩
    ·repeat (first|exact Ak.nil|refine Ak.same (by exact PV.Ac rfl) rfl ?_|refine Ak.cons trivial rfl (.of_eq (Aq (by simp<;>omega))) ?_)
    ·rw [e2,e1];repeat (first|exact Ah.nil|(refine Ah.cons (Aj rfl) ?_ rfl ?_ ?_;(first|exact trivial|exact AP.Ag _ _|(simp [HB.under,AP.under,PV.under]));(first|exact Bg.refl _|exact Bg.vec (Bf.refl _) (by simp))))
  ·have e1:EW x.Ap.length x.links (k+1)=EW x.Ap.length x.links k++[(⟨MJ 67 (k:Int),((gi x.links k).BG:Int) % x.Ap.length,((gi x.links k).tgt:Int) % x.Ap.length,(gi x.links k).shift.tmod 25,(gi x.links k).through⟩:Xq)]:=by
    show EW x.Ap.length x.links k++[U2 x.Ap.length (gi x.links k) k]=_
    unfold U2
    rw [if_neg (fun h=>c1 h.1)]
   have e2:(EW x.Ap.length x.links (k+1)).length=(EW x.Ap.length x.links k).length+1:=by rw [e1];simp
   repeat' (first|apply Ad.assoc|apply Ad.AA|apply Ad.BI|apply Ad.region|apply Ad.Au|apply Ad.Ai|apply AO.normal|apply AL.normal|apply Af.nil|apply Ar.nil|apply Af.one|(apply Ar.bar;decide +kernel)|apply Ar.quiet|(apply Af.drop;rfl;rfl;rfl)|(apply Af.guard;rfl;rfl)|(apply Aa.GL;rfl;rfl;rfl;rfl;rfl;omega)|(apply Aa.Dv (a:=(⟨MJ 67 (k:Int),((gi x.links k).BG:Int) % x.Ap.length,((gi x.links k).tgt:Int) % x.Ap.length,(gi x.links k).shift.tmod 25,(gi x.links k).through⟩:Xq));rfl;rfl;rfl;rfl;rfl;rfl;rfl;rfl;(intro _ h;cases h);rfl;rfl;rfl;decide;decide;(first|omega|(simp only [List.length_take,List.length_drop,List.length_append,List.length_singleton,List.length_cons,List.length_nil]<;>omega)))|(apply Aa.assign;rfl)|(apply Aa.move;rfl)|(apply Aa.Bq;rfl;rfl;omega)|(apply Aa.OW;rfl;rfl;omega;omega)|(apply Aa.int;rfl;rfl;rfl)|(apply Aa.AV;rfl;rfl;rfl;omega;rfl)|(apply Aa.load;rfl;rfl)|(apply Aa.AU;rfl;rfl)|(apply Aa.BH;rfl;rfl)|(apply Aa.AQ;rfl;rfl;rfl)|(apply Aa.alloc;rfl)|(apply Aa.Bj;rfl;rfl;rfl;trivial;rfl;rfl;exact Aj rfl;exact le_dec rfl)|(apply Aa.build;rfl;rfl;rfl;rfl;rfl)|(apply Aa.buildSlice;rfl;rfl;rfl;decide;rfl;rfl;rfl)|(apply Aa.U6;rfl;rfl;(first|omega|(simp only [List.length_take,List.length_drop,List.length_append,List.length_singleton,List.length_cons,List.length_nil]<;>omega)))|(apply Aa.Jf;rfl;rfl;rfl;rfl;omega)|(apply Aa.Lc;rfl;rfl;rfl;rfl;omega)|(apply Ad.Az;rfl)|(apply Ad.Ae;rfl)|(intro _;try (exfalso;omega)))
   all_goals try (exfalso;omega)
   refine Aw.normal ⟨k+1,by omega,by omega,⟨by omega,?_,?_⟩⟩
   ·repeat (first|exact Ak.nil|refine Ak.same (by exact PV.Ac rfl) rfl ?_|refine Ak.cons trivial rfl (.of_eq (Aq (by simp<;>omega))) ?_)
   ·rw [e2,e1];repeat (first|exact Ah.nil|(refine Ah.cons (Aj rfl) ?_ rfl ?_ ?_;(first|exact trivial|exact AP.Ag _ _|(simp [HB.under,AP.under,PV.under]));(first|exact Bg.refl _|exact Bg.vec (Bf.refl _) (by simp))))
 obtain rfl:k=x.links.length:=by omega
 repeat' (first|(refine Ad.at 26 ?_;refine Ad.ghost (A8.Dc 2 3 rfl rfl rfl) ?_;first|apply Ad.AA|apply Ad.BI)|apply Ad.assoc|apply Ad.AA|apply Ad.AX|apply AO.normal|apply AL.exit|apply Aw.exit|apply Ad.ret|apply Af.nil|apply Af.one|(apply Aa.move;rfl)|(apply Aa.int;rfl;rfl;rfl)|(apply Aa.load;rfl;rfl)|(apply Aa.BH;rfl;rfl)|(apply Aa.AQ;rfl;rfl;rfl)|(apply Aa.Bj;rfl;rfl;rfl;trivial;rfl;rfl;exact Aj rfl;exact le_dec rfl)|(apply Ad.Ae;rfl)|(intro _;try (exfalso;omega)))
 all_goals first|(exfalso;omega)|(refine Done.ret rfl (.refl _) (by exact PV.Ac rfl) Ah.nil (Nat.zero_le _) (Nat.le_refl _) ⟨?_,rfl,rfl⟩;rfl)
end Go.Proofs.YtdabojnmoejilaaGreatDoor
namespace Go.Proofs.YtdabojnmoejilaaGreatDoor
open Go Go.Am Go.Vm
attribute [local irreducible] Aa Af Ar Ad BA AY CG AO AL Aw Vm.Done CW Bl
attribute [local irreducible] Tq Ri DR Dw BU
theorem eF (rk:List FQ) (l:List ru):∀ k i,i<k→gi (Gm rk l k) i=gq rk (gi l i) i
 |k+1,i,h=>by
  simp only [Gm,QN,Ls]
  by_cases h1:i<k
  ·rw [if_pos h1];exact eF rk l k i h1
  ·obtain rfl:i=k:=by omega
   simp
theorem Yt (rk:List FQ) (lo hi:Int) (l:List mG):∀ k i,i<k→gi (Gf rk lo hi l k) i=Ri rk lo hi (gi l i) i
 |k+1,i,h=>by
  simp only [Gf,QN,G5]
  by_cases h1:i<k
  ·rw [if_pos h1];exact Yt rk lo hi l k i h1
  ·obtain rfl:i=k:=by omega
   simp
theorem bC (n:Nat) (l:List xZ):∀ k i,i<k→gi (EW n l k) i=U2 n (gi l i) i
 |k+1,i,h=>by
  simp only [EW,QN,OE]
  by_cases h1:i<k
  ·rw [if_pos h1];exact bC n l k i h1
  ·obtain rfl:i=k:=by omega
   simp
theorem sW (b:ru):0≤Eu b∧Eu b≤ET b∧ET b≤127:=by unfold ET Eu;omega
structure TP (o:EN):Prop where
 sm:Pg o
 ranks:1≤o.ranks.length∧o.ranks.length≤3
 Ap:1≤o.Ap.length∧o.Ap.length≤3
 BF:o.BF.length≤3
 stops:∀ i,i<o.Ap.length→(gi o.Ap i).stops.length≤3
 rk:mD o.ranks
 dv:∀ i,i<o.Ap.length→0≤(gi o.Ap i).lo∧(gi o.Ap i).lo≤(gi o.Ap i).hi∧(gi o.Ap i).hi≤127
 dn:∀ i,i<o.Ap.length→(gi o.Ap i).name=MJ 68 i
 st:∀ i,i<o.Ap.length→∀ j,j<(gi o.Ap i).stops.length→Io o.ranks (gi o.Ap i).lo (gi o.Ap i).hi (gi (gi o.Ap i).stops j)=0∧(gi (gi o.Ap i).stops j).name=MJ 83 j∧∃ a,a<6∧(gi (gi o.Ap i).stops j).Du=gi EZ a
 cp:∀ i,i<o.BF.length→wU o.Ap.length (gi o.BF i)∧(gi o.BF i).name=MJ 67 i
 rn:∀ i,i<o.ranks.length→(gi o.ranks i).name=MJ 82 i
 nm:o.name=[79,114,103,97,110]
theorem y7 (n:Nat) (c:xZ) (k:Nat) (hn:1≤n) (hc:c.Ok) (hk:k<10):wU n (U2 n c k):=by
 obtain ⟨c1,c2,c3⟩:=hc
 have m1:=Int.emod_nonneg (c.BG:Int) (show (n:Int)≠0 by omega)
 have m2:=Int.emod_lt_of_pos (c.BG:Int) (show 0<(n:Int) by omega)
 have m3:=Int.emod_nonneg (c.tgt:Int) (show (n:Int)≠0 by omega)
 have m4:=Int.emod_lt_of_pos (c.tgt:Int) (show 0<(n:Int) by omega)
 refine ⟨VL (by decide) hk,⟨m1,m2⟩,⟨m3,m4⟩,?_,?_⟩
 ·have e:(U2 n c k).shift=if (c.BG:Int) % n=(c.tgt:Int) % n∧c.shift.tmod 25=0 then 12 else c.shift.tmod 25:=rfl
  rw [e]
  split
  ·omega
  ·have:=Int.tmod_lt_of_pos c.shift (show (0:Int)<25 by decide)
   have:=Int.lt_tmod_of_pos c.shift (show (0:Int)<25 by decide)
   omega
 ·show ¬ ((c.BG:Int) % n=(c.tgt:Int) % n∧(if (c.BG:Int) % n=(c.tgt:Int) % n∧c.shift.tmod 25=0 then (12:Int) else c.shift.tmod 25)=0)
  intro h
  obtain ⟨h1,h2⟩:=h
  by_cases h3:c.shift.tmod 25=0
  ·rw [if_pos ⟨h1,h3⟩] at h2;omega
  ·rw [if_neg (fun h=>h3 h.2)] at h2;exact h3 h2
theorem a4f (x:FW) (i:Int):Ws (Tq x i):=by
 have h:=a1c x i
 have w:=xg x i
 unfold Tq at h w ⊢
 refine ⟨by simp,?_,by omega⟩
 have:(gi Nk (x.Fq % 3)).length≤5:=a1w (P:=fun l:List UInt8=>l.length≤5) (by decide) (show x.Fq % 3<Nk.length from Nat.mod_lt _ (by decide))
 show (gi Nk (x.Fq % 3)).length<_
 omega
theorem wO (x:FW) (i:Nat) (hi:i<10):(Tq x i).name=MJ 82 i:=by
 unfold Tq MJ
 show [82,UInt8.ofNat (48+(i:Int) % 10).toNat]=_
 rw [show (i:Int) % 10=i by omega]
theorem oz (x:jW) (hx:x.Ok) (hf:RV x):TP (gX x):=by
 obtain ⟨hf1,hf2,hf3,hf4⟩:=hf
 have hR:=YW hx.ranks (by omega)
 have e1:(gX x).ranks=Es x.ranks x.ranks.length:=rfl
 have e2:(gX x).Ap=Gm (Es x.ranks x.ranks.length) x.Ap x.Ap.length:=rfl
 have e3:(gX x).BF=EW x.Ap.length x.links x.links.length:=rfl
 have e4:(gX x).name=[79,114,103,97,110]:=rfl
 have rn:∀ i,i<x.ranks.length→gi (Es x.ranks x.ranks.length) i=Tq (gi x.ranks i) (i:Int):=TM _ _
 generalize hRR:Es x.ranks x.ranks.length=R at *
 have hRl:R.length=x.ranks.length:=by rw [← hRR,Iw]
 have dl:=Ls R x.Ap x.Ap.length
 have cl:=OE x.Ap.length x.links x.links.length
 have dg:∀ i,i<x.Ap.length→gi (Gm R x.Ap x.Ap.length) i=gq R (gi x.Ap i) i:=eF _ _ _
 have cg:∀ i,i<x.links.length→gi (EW x.Ap.length x.links x.links.length) i=U2 x.Ap.length (gi x.links i) i:=bC _ _ _
 have ds:∀ b k,(gq R b k).stops=Gf R (Eu b) (ET b) b.stops b.stops.length:=fun _ _=>rfl
 have sp:∀ i,i<x.Ap.length→∀ j,j<(gi x.Ap i).stops.length→gi (Gf R (Eu (gi x.Ap i)) (ET (gi x.Ap i)) (gi x.Ap i).stops (gi x.Ap i).stops.length) j=Ri R (Eu (gi x.Ap i)) (ET (gi x.Ap i)) (gi (gi x.Ap i).stops j) j∧yF R (Eu (gi x.Ap i)) (ET (gi x.Ap i)) (gi (gi x.Ap i).stops j) j (Ri R (Eu (gi x.Ap i)) (ET (gi x.Ap i)) (gi (gi x.Ap i).stops j) j):=fun i hi j hj =>
  ⟨Yt _ _ _ _ _ _ hj,Wq R _ _ _ j hR (sW _) ((hx.Ap i hi).all j hj) (by have:=hf4 i hi;omega)⟩
 refine ⟨⟨by rw [e4];simp,by rw [e1];omega,by rw [e2];omega,by rw [e3];omega,fun i hi=>?_,fun i hi=>?_,fun i hi=>?_⟩,by rw [e1];omega,by rw [e2];omega,by rw [e3];omega,fun i hi=>?_,by rw [e1];exact hR,fun i hi=>?_,fun i hi=>?_,fun i hi j hj=>?_,fun i hi=>?_,fun i hi=>?_,e4⟩
 ·rw [e1] at hi ⊢;rw [rn i (by omega)];exact a4f _ _
 ·rw [e2] at hi ⊢;rw [dg i (by omega)]
  refine ⟨by simp [gq,MJ],by rw [ds,G5];have:=hf4 i (by omega);omega,fun j hj=>?_⟩
  rw [ds,G5] at hj
  rw [ds,(sp i (by omega) j hj).1]
  exact (sp i (by omega) j hj).2.2.2.2.1
 ·rw [e3] at hi ⊢;rw [cg i (by omega)];simp [U2,MJ]
 ·rw [e2] at hi ⊢;rw [dg i (by omega),ds,G5];exact hf4 i (by omega)
 ·rw [e2] at hi ⊢;rw [dg i (by omega)];exact sW _
 ·rw [e2] at hi ⊢;rw [dg i (by omega)];rfl
 ·rw [e2] at hi hj ⊢;rw [dg i (by omega),ds,G5] at hj;rw [e1,dg i (by omega),ds,(sp i (by omega) j hj).1]
  exact ⟨(sp i (by omega) j hj).2.2.2.1,(sp i (by omega) j hj).2.2.1,(sp i (by omega) j hj).2.2.2.2.2⟩
 ·rw [e3] at hi ⊢;rw [e2,dl,cg i (by omega)]
  exact ⟨y7 _ _ _ (by omega) (hx.links i (by omega)) (by omega),rfl⟩
 ·rw [e1] at hi ⊢;rw [rn i (by omega)];exact wO _ _ (by omega)
theorem a4j:C9 [79,114,103,97,110]:=by
 refine ⟨by decide,by decide,by decide,fun i h1 h2=>?_⟩
 have:i=1∨i=2∨i=3∨i=4:=by simp at h2;omega
 rcases this with rfl|rfl|rfl|rfl<;>exact .inl (by decide)
theorem TP.ok {o:EN} (h:TP o):KW o=0:=by
 have r1:=h.ranks
 have d1:=h.Ap
 have c1:=h.BF
 unfold KW
 rw [if_neg (fun h'=>h' (h.nm▸a4j)),if_neg (by omega)]
 have hr:N7 o.ranks 0=0:=SN (fun i hi=>⟨(h.rk.ok i hi).1,TS (c:=82) (by omega) h.rn hi⟩) _ 0 rfl
 rw [if_neg (fun h'=>h' hr),if_neg (by omega),if_neg (by omega)]
 have hd:FD o.ranks o.Ap 0=0:=Qb (fun i hi=>by
  have s1:=h.stops i hi
  refine ⟨by rw [h.dn i hi];exact VL (by decide) (by omega),TS (c:=68) (by omega) h.dn hi,?_⟩
  unfold Jd
  rw [La (h.dv i hi),if_neg (fun h=>h rfl),if_neg (by omega)]
  exact PI (fun j hj=>⟨(h.st i hi j hj).1,TS (c:=83) (by omega) (fun a ha=>(h.st i hi a ha).2.1) hj⟩) _ 0 rfl) _ 0 rfl
 rw [if_neg (fun h'=>h' hd)]
 unfold Nh
 rw [if_neg (by simp only [List.length_map];omega)]
 have hc:PZ (o.Ap.map fun d=>⟨d.lo,d.hi⟩) 0=0:=TK (fun i hi=>by
  rw [List.length_map] at hi
  have e:gi (o.Ap.map fun d=>(⟨d.lo,d.hi⟩:aQ)) i=⟨(gi o.Ap i).lo,(gi o.Ap i).hi⟩:=by simp [gi,List.getElem?_eq_getElem hi]
  rw [e]
  exact La (h.dv i hi)) _ 0 rfl
 rw [if_neg (fun h'=>h' hc),List.length_map]
 exact Xx (fun i hi=>⟨(h.cp i hi).1,TS (c:=67) (by omega) (fun a ha=>(h.cp a ha).2) hi⟩) _ 0 rfl
end Go.Proofs.YtdabojnmoejilaaGreatDoor
namespace Go.Proofs.YtdabojnmoejilaaGreatDoor
open Go Go.Am Go.Vm
attribute [local irreducible] DR Dw
theorem SH {rk:List FQ} {l:List VB}:∀ (n k:Nat),l.length-k=n→FD rk l k=0→∀ i,k≤i→i<l.length→Jd rk (gi l i)=0
 |0,k,h,_,i,h1,h2=>by omega
 |n+1,k,h,h0,i,h1,h2=>by
  rw [FD,if_pos (by omega)] at h0
  split at h0
  ·exact absurd h0 (by decide)
  split at h0
  ·exact absurd h0 (by decide)
  split at h0
  ·rename_i h3;exact absurd h0 h3
  rename_i h3
  rcases Nat.lt_or_ge k i with h4|h4
  ·exact SH n (k+1) (by omega) h0 i h4 h2
  ·obtain rfl:k=i:=by omega
   exact Decidable.byContradiction fun h5=>h3 h5
theorem Y3 {m:Nat} {l:List Xq}:∀ (n k:Nat),l.length-k=n→LD m l k=0→∀ i,k≤i→i<l.length→0≤(gi l i).BG∧(gi l i).BG<m∧0≤(gi l i).tgt∧(gi l i).tgt<m
 |0,k,h,_,i,h1,h2=>by omega
 |n+1,k,h,h0,i,h1,h2=>by
  rw [LD,if_pos (by omega)] at h0
  split at h0
  ·exact absurd h0 (by decide)
  split at h0
  ·exact absurd h0 (by decide)
  split at h0
  ·exact absurd h0 (by decide)
  rename_i h3
  split at h0
  ·exact absurd h0 (by decide)
  split at h0
  ·exact absurd h0 (by decide)
  rcases Nat.lt_or_ge k i with h4|h4
  ·exact Y3 n (k+1) (by omega) h0 i h4 h2
  ·obtain rfl:k=i:=by omega
   omega
structure Gi (o:EN):Prop where
 sm:Pg o
 err:KW o=0
 Ap:1≤o.Ap.length∧o.Ap.length≤8
 BF:o.BF.length≤40
 stops:∀ i,i<o.Ap.length→(gi o.Ap i).stops.length≤60
theorem yY {o:EN} (hs:Pg o) (h:KW o=0):Gi o:=by
 have h0:=h
 unfold KW at h0
 split at h0
 ·exact absurd h0 (by decide)
 split at h0
 ·exact absurd h0 (by decide)
 split at h0
 ·rename_i h1;exact absurd h0 h1
 split at h0
 ·exact absurd h0 (by decide)
 rename_i d1
 split at h0
 ·exact absurd h0 (by decide)
 rename_i d2
 split at h0
 ·rename_i h1;exact absurd h0 h1
 rename_i d3
 have d3:FD o.ranks o.Ap 0=0:=Decidable.byContradiction d3
 unfold Nh at h0
 split at h0
 ·exact absurd h0 (by decide)
 rename_i c1
 refine ⟨hs,h,⟨by omega,by omega⟩,by omega,fun i hi=>?_⟩
 have:=SH _ 0 rfl d3 i (Nat.zero_le _) hi
 unfold Jd at this
 split at this
 ·rename_i h1;exact absurd this h1
 split at this
 ·exact absurd this (by decide)
 rename_i h2
 omega
theorem Yr {m:Nat} {l:List bD}:∀ (n k:Nat),l.length-k=n→MZ m l k=0→∀ i,k≤i→i<l.length→0≤(gi l i).rank∧(gi l i).rank<m
 |0,k,h,_,i,h1,h2=>by omega
 |n+1,k,h,h0,i,h1,h2=>by
  rw [MZ,if_pos (by omega)] at h0
  split at h0
  ·exact absurd h0 (by decide)
  rename_i h3
  split at h0
  ·exact absurd h0 (by decide)
  split at h0
  ·exact absurd h0 (by decide)
  rcases Nat.lt_or_ge k i with h4|h4
  ·exact Yr n (k+1) (by omega) h0 i h4 h2
  ·obtain rfl:k=i:=by omega
   omega
theorem Yo {m:Nat} {lo hi:Int} {l:List Seg}:∀ (n k:Nat),l.length-k=n→JF m lo hi l k=0→∀ i,k≤i→i<l.length→PK m (gi l i).draws=0
 |0,k,h,_,i,h1,h2=>by omega
 |n+1,k,h,h0,i,h1,h2=>by
  rw [JF,if_pos (by omega)] at h0
  split at h0
  ·exact absurd h0 (by decide)
  split at h0
  ·exact absurd h0 (by decide)
  split at h0
  ·rename_i h3;exact absurd h0 h3
  rename_i h3
  rcases Nat.lt_or_ge k i with h4|h4
  ·exact Yo n (k+1) (by omega) h0 i h4 h2
  ·obtain rfl:k=i:=by omega
   exact Decidable.byContradiction fun h5=>h3 h5
structure a6l (rk:List FQ) (s:Stp):Prop where
 Fb:s.Fb.length≤12
 draws:∀ i,i<s.Fb.length→(gi s.Fb i).draws.length≤8∧∀ j,j<(gi s.Fb i).draws.length→0≤(gi (gi s.Fb i).draws j).rank∧(gi (gi s.Fb i).draws j).rank<rk.length
theorem a9z {rk:List FQ} {lo hi:Int} {s:Stp} (h:Io rk lo hi s=0):a6l rk s:=by
 unfold Io at h
 split at h
 ·rename_i h1;exact absurd h h1
 unfold xu at h
 split at h
 ·exact absurd h (by decide)
 split at h
 ·rename_i h1;exact absurd h h1
 split at h
 ·exact absurd h (by decide)
 split at h
 ·exact absurd h (by decide)
 rename_i h1
 refine ⟨by omega,fun i hi=>?_⟩
 have h2:=Yo _ 0 rfl h i (Nat.zero_le _) hi
 unfold PK at h2
 split at h2
 ·exact absurd h2 (by decide)
 exact ⟨by omega,fun j hj=>Yr _ 0 rfl h2 j (Nat.zero_le _) hj⟩
def Ub (rk:List FQ) (s:Stp) (n:Nat):Nat→List UInt8
 |0=>[]
 |k+1=>if (gi s.Fb (n-(k+1))).draws.length>0 then (gi rk (gi (gi s.Fb (n-(k+1))).draws 0).rank.toNat).Fq else Ub rk s n k
def mZ (rk:List FQ) (s:Stp):List UInt8:=Ub rk s s.Fb.length s.Fb.length
theorem kD {rk:List FQ} {s:Stp} {n k:Nat} (hk:k<n) (h:(gi s.Fb k).draws.length=0):Ub rk s n (n-k)=Ub rk s n (n-(k+1)):=by
 obtain ⟨j,hj⟩:∃ j,n-k=j+1:=⟨n-k-1,by omega⟩
 rw [hj]
 have e:n-(j+1)=k:=by omega
 show (if (gi s.Fb (n-(j+1))).draws.length>0 then _ else Ub rk s n j)=_
 rw [e,if_neg (by omega)]
 congr 1;omega
theorem o8 {rk:List FQ} {s:Stp} {n k:Nat} (hk:k<n) (h:0<(gi s.Fb k).draws.length):Ub rk s n (n-k)=(gi rk (gi (gi s.Fb k).draws 0).rank.toNat).Fq:=by
 obtain ⟨j,hj⟩:∃ j,n-k=j+1:=⟨n-k-1,by omega⟩
 rw [hj]
 have e:n-(j+1)=k:=by omega
 show (if (gi s.Fb (n-(j+1))).draws.length>0 then _ else Ub rk s n j)=_
 rw [e,if_pos h]
end Go.Proofs.YtdabojnmoejilaaGreatDoor
