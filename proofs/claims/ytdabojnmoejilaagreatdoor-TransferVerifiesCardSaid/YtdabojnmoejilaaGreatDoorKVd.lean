/-
  Texts of a proof, merged (VmG, TraP, EnvO, IntA, IntB, FraA, RkB, RkC, OrA, OrB, RkA, RkD, RkE, RkF, RkG, RkH, RkI, OrF, RkJ, RkK, RkL, OrG, OrH, OrI, TraE). Conditions: in each statement.
-/
import Derived.Shelf.Spec.SlicesGrow
import Derived.Test.YtdabojnmoejilaaGreatDoorKVc
set_option linter.unusedSimpArgs false
set_option linter.unusedVariables false
set_option linter.unusedSectionVars false
set_option maxRecDepth 100000
set_option maxHeartbeats 8000000
namespace Go.Vm
open Go.Am
variable {E:Env} {bn:Nat} {L:Frame} {H:Heap} {nx:Nat} {Q:CO→Frame→Heap→Nat→Prop} {b:Code}
theorem Ad.eq {k i:Nat} {v0:PV} {L0:Frame} (hv:G9 L i=some v0) (hu:v0.under k) (t:Ad k L0 L):Ad k ((i,v0)::L0) L:=⟨⟨hu,v0,hv,.refl _⟩,t⟩
theorem Aj.eq {k i:Nat} {v0:HB} {L0:Heap} (hv:hget H i=some v0) (hi:i<k) (hu:v0.under k) (t:Aj k L0 H):Aj k ((i,v0)::L0) H:=⟨⟨hi,hu,v0,hv,.refl _⟩,t⟩
mutual
def PV.ub (k:Nat):PV→Bool
 | .p _=>true
 | .agg cs=>AV.ub k cs
 | .Fp cs=>AV.ub k cs
 | .vec b _ _ _=>Nat.blt b k
 | .ref b _=>Nat.blt b k
 | .Dx b _ _=>Nat.blt b k
 | .mref b=>Nat.blt b k
 | .clo _ fs cs=>and (AV.ub k fs) (AV.ub k cs)
def AV.ub (k:Nat):List PV→Bool
 |[]=>true
 |c::cs=>and (PV.ub k c) (AV.ub k cs)
end
mutual
theorem PV.Ap {k:Nat}:∀ {x:PV},PV.ub k x=true→x.under k
 | .p _,_=>trivial
 | .agg _,h=>AV.Ap (by simpa [PV.ub] using h)
 | .Fp _,h=>AV.Ap (by simpa [PV.ub] using h)
 | .vec _ _ _ _,h=>Ac h
 | .ref _ _,h=>Ac h
 | .Dx _ _ _,h=>Ac h
 | .mref _,h=>Ac h
 | .clo _ _ _,h=>by
  simp only [PV.ub,Bool.and_eq_true] at h
  exact ⟨AV.Ap h.1,AV.Ap h.2⟩
theorem AV.Ap {k:Nat}:∀ {x:List PV},AV.ub k x=true→AV.under k x
 |[],_=>trivial
 |_::_,h=>by
  simp only [AV.ub,Bool.and_eq_true] at h
  exact ⟨PV.Ap h.1,AV.Ap h.2⟩
end
def HB.ub (k:Nat):HB→Bool
 | .box _ cs=>AV.ub k cs
 | .Fh _ cs _=>AV.ub k cs
 |_=>true
theorem HB.Ap {k:Nat} {x:HB} (h:HB.ub k x=true):x.under k:=by
 cases x with
 |box e cs=>exact AV.Ap h
 |Fh e cs n=>exact AV.Ap h
 |vec=>trivial
 |map=>trivial
theorem Ae.FD (n:Nat) (L0:Frame) (H0:Heap) (Lf:Nat→Frame→Frame) (Hf:Nat→Heap→Heap) (D6:Nat) (hb:bn≤D6) (hn:D6≤nx) (h1:Ad D6 (Lf 0 L0) L) (h2:Aj D6 (Hf 0 H0) H)
 (hs:∀ k,k<n→Ae E bn b (Lf k L0) (Hf k H0) D6 (Az (fun L' H' nx'=>D6≤nx'∧Ad D6 (Lf (k+1) L0) L'∧Aj D6 (Hf (k+1) H0) H') Q))
 (he:Ae E bn b (Lf n L0) (Hf n H0) D6 (Az (fun _ _ _=>False) Q)):Ae E bn (.loop b) L H nx Q :=
 Ae.Ec (fun k=>Lf k L0) (fun k=>Hf k H0) D6 (fun k=>k≤n) (fun k=>n-k) 0 hb (Nat.zero_le _) ⟨hn,h1,h2⟩ fun k hk=>by
  rcases Nat.lt_or_ge k n with h|h
  ·refine (hs k h).mono fun e L' H' nx' q=>?_
   cases e with
   |normal=>exact ⟨k+1,h,by omega,⟨q.1,q.2.1,q.2.2⟩⟩
   |ret=>exact q
   |exit i=>exact q
  ·obtain rfl:k=n:=by omega
   refine he.mono fun e L' H' nx' q=>?_
   cases e with
   |normal=>exact q.elim
   |ret=>exact q
   |exit i=>exact q
theorem Ae.GY (n:Nat) (inv:Nat→Prop) (L0:Frame) (H0:Heap) (Lf:Nat→Frame→Frame) (Hf:Nat→Heap→Heap) (D6:Nat) (hb:bn≤D6) (hn:D6≤nx) (h1:Ad D6 (Lf 0 L0) L) (h2:Aj D6 (Hf 0 H0) H) (h0:inv 0)
 (hs:∀ k,k<n→inv k→Ae E bn b (Lf k L0) (Hf k H0) D6 (Az (fun L' H' nx'=>inv (k+1)∧D6≤nx'∧Ad D6 (Lf (k+1) L0) L'∧Aj D6 (Hf (k+1) H0) H') Q))
 (he:inv n→Ae E bn b (Lf n L0) (Hf n H0) D6 (Az (fun _ _ _=>False) Q)):Ae E bn (.loop b) L H nx Q :=
 Ae.Ec (fun k=>Lf k L0) (fun k=>Hf k H0) D6 (fun k=>k≤n∧inv k) (fun k=>n-k) 0 hb ⟨Nat.zero_le _,h0⟩ ⟨hn,h1,h2⟩ fun k hk=>by
  obtain ⟨hk,hi⟩:=hk
  rcases Nat.lt_or_ge k n with h|h
  ·refine (hs k h hi).mono fun e L' H' nx' q=>?_
   cases e with
   |normal=>exact ⟨k+1,⟨h,q.1⟩,by omega,⟨q.2.1,q.2.2.1,q.2.2.2⟩⟩
   |ret=>exact q
   |exit i=>exact q
  ·obtain rfl:k=n:=by omega
   refine (he hi).mono fun e L' H' nx' q=>?_
   cases e with
   |normal=>exact q.elim
   |ret=>exact q
   |exit i=>exact q
section
variable {Q:PV→Heap→Nat→Prop} {w:Bool} {dst:Option Tmp} {ty:TypeId} {pos:String} {af:Array Edge} {gd:Option (Nat×Bool)}
theorem xA {Γ:Nat→Option (List Value×TypeId)} {m:Mem} {F:Nat→Prop} {σ:Nat→Value} {t:Tr Value} {x:Operand} {e:TypeId} {cs:List FV} {n:Nat} (hx:Ctx Γ m F σ H nx) (hl:RL m F (htag H) σ nx L t) (h:BG Γ L x=some (.p (.lst e cs n))) :
 ∃ a k g,ev t x=.slice a k g∧(0<n→a.isNone=false):=by
 have:=Cm hx hl h
 generalize ev t x=v at this
 cases this with
 |p hr =>
  cases hr with
  |nil=>exact ⟨_,_,_,rfl,fun h=>by omega⟩
  |room=>exact ⟨_,_,_,rfl,fun _=>rfl⟩
  |lst=>exact ⟨_,_,_,rfl,fun _=>rfl⟩
theorem y5 {Γ:Nat→Option (List Value×TypeId)} {m:Mem} {F:Nat→Prop} {σ:Nat→Value} {t:Tr Value} {y:Operand} {v:Value} (hx:Ctx Γ m F σ H nx) (hl:RL m F (htag H) σ nx L t) (h:BG Γ L y=some (.p (.val v))):ev t y=v:=by
 have:=Cm hx hl h
 generalize ev t y=u at this
 cases this with|p hr=>cases hr;rfl
theorem rZ {P:Program} {t e':TypeId} {xo yo:Operand} {a:Option Addr} {k g:Nat} (ht:P.underlying t=some (.slice e')):OQ P .eql t xo yo (.slice a k g) (.slice none 0 0)=some (.bool a.isNone)∧OQ P .neq t xo yo (.slice a k g) (.slice none 0 0)=some (.bool !a.isNone):=by
 simp [OQ,ht,JG]
theorem Aa.eqNil {t t2 e e':TypeId} {x y:Operand} {cs:List FV} {n:Nat} (hx:BG E.Γ L x=some (.p (.lst e cs n))) (hy:BG E.Γ L y=some (.p (.val (.slice none 0 0)))) (ht:E.P.underlying t=some (.slice e')) (q:∀ b,(0<n→b=false)→Q (.p (.bool b)) H nx) :
 Aa E w ⟨dst,.binOp .eql t x y t2,ty,pos,af,gd⟩ L H nx Q:=fun m F σ tt h1 h2=>by
 obtain ⟨a,k,g,h3,h4⟩:=xA h1 h2 hx
 have h5:=y5 h1 h2 hy
 exact Ip.op (v:=.bool a.isNone) (m':=m) (fun _=>by simp only [CZ,FI,h3,h5];rw [(rZ ht).1];rfl) ⟨_,H,nx,F,σ,q a.isNone h4,h1,.p (.bool _),Step.refl _ _ _ _ _,fun _ k hk _=>hk⟩
theorem Aa.a2o {t t2 e e':TypeId} {x y:Operand} {cs:List FV} {n:Nat} (hx:BG E.Γ L x=some (.p (.lst e cs n))) (hy:BG E.Γ L y=some (.p (.val (.slice none 0 0)))) (ht:E.P.underlying t=some (.slice e')) (hn:0<n) (q:Q (.p (.bool false)) H nx) :
 Aa E w ⟨dst,.binOp .eql t x y t2,ty,pos,af,gd⟩ L H nx Q:=Aa.eqNil hx hy ht fun b hb=>by rw [hb hn];exact q
theorem U8 {α:Type} [Inhabited α] {l:List α} {i j:Nat} {a:α}:gi (l.set i a) j=if i=j∧j<l.length then a else gi l j:=by
 unfold gi
 rw [List.getElem?_set]
 by_cases h:i=j
 ·subst h
  by_cases h2:i<l.length
  ·simp [h2]
  ·simp [h2,List.getElem?_eq_none (by omega:l.length≤i)]
 ·simp [h]
theorem Aa.zQ {t t2:TypeId} {x y:Operand} {n:Nat} (hx:BG E.Γ L x=some (.p (.int .u64 ((2 ^ n:Nat):Int)))) (hy:BG E.Γ L y=some (.p (.int .u64 1))) (hn:n<64) (q:Q (.p (.int .u64 ((2 ^ n-1:Nat):Int))) H nx) :
 Aa E w ⟨dst,.binOp .sub t x y t2,ty,pos,af,gd⟩ L H nx Q :=
 Aa.a3l (a:=2 ^ n) (b:=1) hx hy ⟨Nat.one_le_two_pow,Nat.lt_of_le_of_lt (Nat.pow_le_pow_right (by omega) (show n≤63 by omega)) (by decide)⟩ q
end
theorem all_succ {P:Nat→Prop} {k:Nat} (h:∀ i,i<k→P i) (hk:P k):∀ i,i<k+1→P i:=fun i hi=>by
 rcases Nat.lt_or_ge i k with h1|h1
 ·exact h i h1
 ·obtain rfl:i=k:=by omega
  exact hk
def GK {α:Type} (f:Nat→α):Nat→List α
 |0=>[]
 |k+1=>GK f k++[f k]
theorem Jv {α:Type} (f:Nat→α):∀ k,(GK f k).length=k
 |0=>rfl
 |k+1=>by simp [GK,Jv f k]
theorem aH {α:Type} (f:Nat→α):∀ k i,i<k→(GK f k)[i]?=some (f i)
 |0,i,h=>by omega
 |k+1,i,h=>by
  simp only [GK]
  rw [List.getElem?_append]
  rw [Jv]
  by_cases h2:i<k
  ·rw [if_pos h2];exact aH f k i h2
  ·obtain rfl:i=k:=by omega
   rw [if_neg (by omega)];simp
theorem eH {α:Type} [Inhabited α] (f:Nat→α) {k i:Nat} (h:i<k):gi (GK f k) i=f i:=by
 unfold gi;rw [aH f k i h];rfl
def a1p {α:Type} (f:Nat→α) (l:List α):Nat→List α
 |0=>l
 |k+1=>(a1p f l k).set k (f k)
theorem L6 {α:Type} [Inhabited α] {a:α} {n i:Nat} (h:i<n):gi (List.replicate n a) i=a:=by
 unfold gi;rw [List.getElem?_replicate,if_pos h];rfl
def a1g (k:Nat):Heap→Bool
 |[]=>true
 |(i,x)::H=>and (and (Nat.blt i k) (HB.ub k x)) (a1g k H)
theorem Gj {k:Nat}:∀ {H:Heap},a1g k H=true→Oc k H
 |[],_=>trivial
 |(_,_)::_,h=>by
  simp only [a1g,Bool.and_eq_true] at h
  exact ⟨⟨Ac h.1.1,HB.Ap h.1.2⟩,Gj h.2⟩
def aA (E:Env) (g:FuncId) (ac:List PV) (Hc:Heap) (k:Nat) (x:FV):Prop:=BH E g ac Hc k fun r H' nx'=>r=.p x∧H'=Hc∧nx'=k
theorem aA.enter {f:FuncId} {fn:Func} {c:Code} {ac:List PV} {Hc:Heap} {k:Nat} {x:FV} (ho:E.O f=none) (hf:E.P.funcs[f]?=some fn) (hb:fn.body=some c) (hok:H6 E.G fn c=true) (hn:ac.length≤fn.ntmps)
 (h:Ae E k c (CQ 0 ac) Hc k (Done E.P fn.results.toList k fun r' H' nx'=>r'=.p x∧H'=Hc∧nx'=k)):aA E f ac Hc k x:=BH.enter ho hf hb hok hn h
theorem Aa.read {Q:PV→Heap→Nat→Prop} {dst:Option Tmp} {ty:TypeId} {pos:String} {af:Array Edge} {gd:Option (Nat×Bool)} {fo:Operand} {args:Array Operand} {aT:Array TypeId} {g:FuncId} {fs cs Ci ac:List PV} {Hc:Heap} {x:FV} (ns:List Nat) (hc:aA E g ac Hc ns.length x)
 (hf:BG E.Γ L fo=some (.clo g fs cs)) (ha:evs E.Γ L args.toList=some Ci) (hle:P9 (fs++Ci++cs) (AV.rn (rho ns nx) ac)) (hu:AV.under ns.length ac) (zO:Oc ns.length Hc) (hin:HIn (rho ns nx) H Hc) (hnd:ns.Nodup) (hlt:∀ b∈ns,b<nx)
 (hm:news ns.length (rho ns nx) Hc (merge ns (rho ns nx) Hc H)=H) (q:Q (.p x) H nx) :
 Aa E true ⟨dst,.call { callee:=.value fo,args:=args,argTypes:=aT },ty,pos,af,gd⟩ L H nx Q :=
 Aa.qH hf ha hle hu zO hin hnd hlt (fun h=>by cases h) hc fun r H' nx' ⟨h1,h2,h3⟩=>by
  subst h1;subst h2;subst h3
  rw [hm,Nat.sub_self]
  exact q
theorem bD {P:Program} {t e:TypeId} {n:Nat} {z:List Value} {inf:TypeInfo} {ps:Array (Nat×Value)} {out:Array Value} (hz:CB P t=some z) (hu:P.underlying t=some (.array n e)) (hi:P.info? e=some inf)
 (hf:Instr.fill (fun i=>some (i*inf.size,inf.size)) z.toArray ps.toList=some out):EG P (Instr.build t ps)=some (.agg out):=by
 obtain ⟨i,zv,h1,h2,h3,h4⟩:=BN hz
 unfold Instr.build
 simp only [Ba]
 have hzv:EG P (zeroValue t)=some zv:=by
  simp only [zeroValue,Ba,Jr,h1,Option.bind_some,h2]
  rfl
 rw [hzv]
 simp only [Option.bind_some,BQ,hu]
 simp only [Ba,Hl,hi,Option.map_some,Option.bind_some]
 have e:zv.cells=z.toArray:=by rw [h3]
 rw [e,hf]
 rfl
theorem Aa.vF {Q:PV→Heap→Nat→Prop} {w:Bool} {dst:Option Tmp} {ty:TypeId} {pos:String} {af:Array Edge} {gd:Option (Nat×Bool)} {t e:TypeId} {n:Nat} {ps:Array (Nat×Operand)} {z:List Value} {inf:TypeInfo} {parts:List (Nat×PV)} {out:List PV} (hz:CB E.P t=some z) (hu:E.P.underlying t=some (.array n e))
 (hi:E.P.info? e=some inf) (hp:evp E.Γ L ps.toList=some parts) (hf:OU (fun i=>some (i*inf.size,inf.size)) (z.map fun v=>.p (F7 v)) parts=some out) (q:Q (dK out) H nx) :
 Aa E w ⟨dst,.build t ps,ty,pos,af,gd⟩ L H nx Q :=
 Aa.quiet q fun m F σ tt h1 h2=>by
  obtain ⟨_,_,_,_,_,hpz⟩:=BN hz
  obtain ⟨out',e1,e2,e3⟩:=Oh (fun i=>some (i*inf.size,inf.size)) (UL h1 h2 hp) (cs':=z.toArray) (DR.zero hpz) (Dw hpz) hf
  have e4:=bD (ps:=ps.map fun (i,x)=>(i,ev tt x)) hz hu hi (by rw [Array.toList_map];simpa using e1)
  refine ⟨.agg out',fun _=>?_,SE e2 e3⟩
  simp only [CZ,FI,hz,e4,Option.map_some]
end Go.Vm
namespace Go.Vm
open Go.Am
variable {E:Env} {L:Frame} {H:Heap} {nx:Nat} {Q:PV→Heap→Nat→Prop}
variable {dst:Option Tmp} {ty:TypeId} {pos:String} {af:Array Edge} {gd:Option (Nat×Bool)}
theorem Aa.xM {w:Bool} {s d e e2:TypeId} {x:Operand} {b:Nat} {z:Bool} {n k:Int} (hx:BG E.Γ L x=some (.vec b 2 0 2)) (hb:hget H b=some (.vec e2 [.int .u8 n,.int .u8 k] 2 z)) (hs:E.P.underlying s=some (.slice e)) (hd:E.P.underlying d=some .string) (he:E.P.underlying e=some (.int .u8)) (hn:0≤n∧n<256) (hk:0≤k∧k<256)
 (q:Q (st [UInt8.ofNat n.toNat,UInt8.ofNat k.toNat]) H nx):Aa E w ⟨dst,.convert s d x,ty,pos,af,gd⟩ L H nx Q :=
 Aa.quiet q fun m F σ tt c1 c2=>by
  obtain ⟨hl1,vs,hl2,hl3,hl4⟩:=nI.all (sz:=1) hx hb rfl m F σ tt c1 c2
  have hc:cells [UInt8.ofNat n.toNat,UInt8.ofNat k.toNat]=[.int .u8 n,.int .u8 k]:=by
   show [FV.int .u8 (((UInt8.ofNat n.toNat).toNat:Nat):Int),FV.int .u8 (((UInt8.ofNat k.toNat).toNat:Nat):Int)]=_
   rw [UInt8.toNat_ofNat',UInt8.toNat_ofNat']
   congr 2
   ·omega
   ·congr 2
    omega
  rw [← hc] at hl3
  have hvs:=Ns hl3
  subst hvs
  have hsub:=GU c1 c2 hx hb
  have hag:∃ a g,ev tt x=.slice a 2 g:=by
   unfold Ey at hsub
   split at hsub
   ·exact ⟨_,_,hsub⟩
   ·exact absurd hsub.2.2 (by decide)
  obtain ⟨a,g,hag⟩:=hag
  rw [hag] at hl2
  refine ⟨.string (bs [UInt8.ofNat n.toNat,UInt8.ofNat k.toNat]),fun _=>?_,.p (.str _)⟩
  have hsl:(Hy E.P s||Hy E.P d)=true:=by simp only [Hy,hs,hd];rfl
  simp only [CZ,FI,hsl,if_true,TA,hs,hd,hag,he,hl2,Np]
  rfl
end Go.Vm
namespace Go.Tra
open Go Go.Am Go.Vm
structure PN where
 d:Nat
 s:Nat
instance:Enc PN:={ default:=⟨0,0⟩,enc:=fun x=>[.int .i64 (x.d:Int),.int .i64 (x.s:Int)],size:=2,len:=fun _=>rfl }
def KT (ns:List Nat):Nat→List PN
 |0=>[]
 |d+1=>KT ns d++(List.range (gi ns d)).map fun s=>⟨d,s⟩
def KF (ns:List Nat) (d:Nat):Nat:=(KT ns d).length
theorem Jw (ns:List Nat) (d:Nat):KF ns (d+1)=KF ns d+gi ns d:=by simp [KF,KT]
theorem Y2 (ns:List Nat) {d e:Nat} (h:d≤e):KF ns d≤KF ns e:=by
 induction e with
 |zero=>obtain rfl:d=0:=by omega
        exact Nat.le_refl _
 |succ e ih =>
  rcases Nat.lt_or_ge d (e+1) with h1|h1
  ·have:=ih (by omega)
   rw [Jw];omega
  ·obtain rfl:d=e+1:=by omega
   exact Nat.le_refl _
theorem lY (ns:List Nat):∀ (n d s:Nat),d<n→s<gi ns d→gi (KT ns n) (KF ns d+s)=⟨d,s⟩
 |n+1,d,s,h1,h2=>by
  have e0:KT ns (n+1)=KT ns n++(List.range (gi ns n)).map fun s=>⟨n,s⟩:=rfl
  rw [e0]
  unfold gi
  rw [List.getElem?_append]
  rcases Nat.lt_or_ge d n with h|h
  ·have h3:=Y2 ns (d:=d+1) (e:=n) h
   rw [Jw] at h3
   rw [if_pos (by show _<KF ns n;omega)]
   exact lY ns n d s h h2
  ·obtain rfl:d=n:=by omega
   have:(KT ns d).length=KF ns d:=rfl
   unfold gi at h2
   rw [if_neg (by omega),this,Nat.add_sub_cancel_left,List.getElem?_map,List.getElem?_range (by simpa [gi] using h2)]
   rfl
def Vj (x:PN):List Value:=[.agg #[.int .i64 (x.d:Int),.int .i64 (x.s:Int)]]
def FC (ns:List Nat):List (List Value):=(List.range (KF ns ns.length)).map fun k=>Vj (gi (KT ns ns.length) k)
theorem TI (ns:List Nat):(FC ns).length=KF ns ns.length:=by simp [FC]
theorem fV (ns:List Nat) {d s:Nat} (hd:d<ns.length) (hs:s<gi ns d) (h:KF ns d+s<(FC ns).length):(FC ns)[KF ns d+s]=Vj ⟨d,s⟩:=by
 simp only [FC,List.getElem_map,List.getElem_range]
 rw [lY ns _ d s hd hs]
theorem a1i (ns:List Nat) {d s:Nat} (hd:d<ns.length) (hs:s<gi ns d):KF ns d+s<(FC ns).length:=by
 have h3:=Y2 ns (d:=d+1) (e:=ns.length) hd
 rw [Jw] at h3
 rw [TI];omega
def Tm (vs:List Value) (off:Nat):Nat→Option (List Nat)
 |0=>some []
 |n+1=>match Tm vs off n with
  |some l=>match vs[off+n*5]?,vs[off+n*5+1]?,vs[off+n*5+2]?,vs[off+n*5+3]?,vs[off+n*5+4]? with
   |some (.string _),some (.bool _),some (.int .i64 _),some (.int .i64 _),some (.slice _ k _)=>if k<1000000 then some (l++[k]) else none
   |_,_,_,_,_=>none
  |none=>none
theorem LP {vs:List Value} {off:Nat}:∀ {n:Nat} {l:List Nat},Tm vs off n=some l→l.length=n∧∀ d,d<n→∃ x0 x1 x2 x3 a c,vs[off+d*5]?=some (.string x0)∧vs[off+d*5+1]?=some (.bool x1)∧vs[off+d*5+2]?=some (.int .i64 x2)∧vs[off+d*5+3]?=some (.int .i64 x3)∧vs[off+d*5+4]?=some (.slice a (gi l d) c)∧gi l d<1000000
 |0,l,h=>by cases h;exact ⟨rfl,fun d hd=>by omega⟩
 |n+1,l,h=>by
  unfold Tm at h
  split at h
  case h_2=>cases h
  rename_i l0 h0
  split at h
  case h_2=>cases h
  rename_i x0 x1 x2 x3 a k c y0 y1 y2 y3 h1
  split at h
  case isFalse=>cases h
  rename_i hk
  cases h
  obtain ⟨i1,i2⟩:=LP h0
  refine ⟨by simp [i1],fun d hd=>?_⟩
  rcases Nat.lt_or_ge d n with h|h
  ·obtain ⟨z0,z1,z2,z3,a',c',h20,h21,h22,h23,h2⟩:=i2 d h
   refine ⟨z0,z1,z2,z3,a',c',h20,h21,h22,h23,?_⟩
   have:gi (l0++[k]) d=gi l0 d:=by unfold gi;rw [List.getElem?_append_left (by omega)]
   rw [this];exact h2
  ·obtain rfl:d=n:=by omega
   refine ⟨x0,x1,x2,x3,a,c,y0,y1,y2,y3,?_⟩
   have:gi (l0++[k]) d=k:=by unfold gi;rw [← i1];simp
   rw [this];exact ⟨h1,hk⟩
def Pv (sl:Value) (ns:List Nat):Value:=.tuple #[sl,.agg (ns.map fun k:Nat=>Value.int .i64 (k:Int)).toArray]
theorem iJ {a b:Value} {x y:List Nat} (h:Pv a x=Pv b y):a=b∧x=y:=by
 unfold Pv at h
 simp only [Value.tuple.injEq,Array.mk.injEq,List.cons.injEq,Value.agg.injEq,and_true] at h
 refine ⟨h.1,?_⟩
 have h2:=h.2
 refine List.ext_getElem? fun i=>?_
 have h3:=congrArg (fun l:List Value=>l[i]?) h2
 simp only [List.getElem?_map] at h3
 cases hx:x[i]?<;>cases hy:y[i]?<;>rw [hx,hy] at h3<;>simp at h3
 congr 1;omega
def Qx:zU:=fun lb m=>match lb with
 |[.pointer (some ⟨b,0,none⟩)]=>match m.get b with
  | .cells [_,_,.slice (some ⟨c,off,none⟩) n g,_] _ 0 false=>match m.get c with
   | .cells vs _ g' _=>if 0<n∧n<1000000∧g'=g then (Tm vs off n).map fun ns=>(Pv (.slice (some ⟨c,off,none⟩) n g) ns,FC ns) else none
   |_=>none
  |_=>none
 |_=>none
theorem U6 {lb:List Value} {m:Mem} {key:Value} {rows:List (List Value)} (h:Qx lb m=some (key,rows)):∃ b x y c off n g z e vs e' ro ns,lb=[.pointer (some ⟨b,0,none⟩)]∧m.get b=.cells [x,y,.slice (some ⟨c,off,none⟩) n g,z] e 0 false ∧
 m.get c=.cells vs e' g ro∧0<n∧n<1000000∧Tm vs off n=some ns∧key=Pv (.slice (some ⟨c,off,none⟩) n g) ns∧rows=FC ns:=by
 unfold Qx at h
 split at h
 case h_2=>cases h
 rename_i b
 split at h
 case h_2=>cases h
 rename_i x y c off n g z e hb
 split at h
 case h_2=>cases h
 rename_i vs e' g' ro hc
 split at h
 case isFalse=>cases h
 rename_i hn
 obtain ⟨hn,hn9,rfl⟩:=hn
 rw [Option.map_eq_some_iff] at h
 obtain ⟨ns,h1,h2⟩:=h
 cases h2
 exact ⟨b,x,y,c,off,n,g',z,e,vs,e',ro,ns,rfl,hb,hc,hn,hn9,h1,rfl,rfl⟩
end Go.Tra
namespace Go.Proofs.YtdabojnmoejilaaGreatDoor
open Go Go.Am Go.Vm Go.Tra Go.RowKit
structure a7z (B O n c1 o1:Nat) (ns:List Nat) (X:World):Prop where
 box:∃ cap,X.cell? ⟨c1,o1+2,none⟩=some (.slice (some ⟨B,O,none⟩) n cap)
 div:∀ d,d<n→∃ v0 v1 v2 v3 a c,X.cell? ⟨B,O+d*5,none⟩=some (.string v0)∧X.cell? ⟨B,O+d*5+1,none⟩=some (.bool v1)∧X.cell? ⟨B,O+d*5+2,none⟩=some (.int .i64 v2)∧X.cell? ⟨B,O+d*5+3,none⟩=some (.int .i64 v3)∧X.cell? ⟨B,O+d*5+4,none⟩=some (.slice a (gi ns d) c)
abbrev sJ (lb:List Value) (key:Value) (rows:List (List Value)) (ι:Cc) (g:Nat→Nat) (lb':Array Value):World→Prop:=Vd Tryz.prog (BO Tryz.prog 8 EJ) (fun m'=>Qx lb m'=some (key,rows)∧∀ k∈BO Tryz.prog 8 EJ,m'.get k=(CX Tryz.prog 8 EJ).get k) ι g lb lb'
theorem kL {G:List Nat} {ι:Cc} {m:Mem} {w:World} {b:Nat} {p':Value} {vs:List Value} {e:TypeId} (hs:Ef Tryz.prog G ι m w) (h:Bf ι m.gen (.pointer (some ⟨b,0,none⟩)) p') (hm:m.get b=.cells vs e 0 false) :
 ∃ c o,p'=.pointer (some ⟨c,o,none⟩)∧∀ i,i<vs.length→∃ v',w.cell? ⟨c,o+i,none⟩=some v'∧Bf ι m.gen (vs.getD i undef) v':=by
 cases h with
 |ptr a a' h =>
  obtain ⟨ib,h1,h2,h3⟩:=h
  obtain ⟨cs,fr,e',q1,q2,q3,q4,q5⟩:=J7 hs h1 hm
  have e1:=h3 (by simp [Mem.gen,hm,G8.gen,Jo])
  refine ⟨ib.blk,ib.sh,by rw [e1];simp,fun i hi=>?_⟩
  obtain ⟨v',r1,r2⟩:=q4 i hi
  exact ⟨v',by rw [Am.cell_of_row q1];exact r1,r2⟩
theorem oV {ι:Cc} {g:Nat→Nat} {c off n gen:Nat} {v':Value} {ib:IB} (h:Bf ι g (.slice (some ⟨c,off,none⟩) n gen) v') (hn:0<n) (hg:gen=g c) (hi:ι c=some ib):∃ cap,v'=.slice (some ⟨ib.blk,off+ib.sh,none⟩) n cap:=by
 cases h with
 |sl _ _ _ _ a' cap hsr =>
  obtain ⟨ib',h1,h2,h3⟩:=G5 hsr (fun _=>hn) 0
  rw [hi] at h1
  cases h1
  have:=h3 (by simpa [Jo] using hg)
  rw [Addr.add_zero'] at this
  refine ⟨cap,?_⟩
  rw [this]
  simp
theorem yG {G:List Nat} {ι:Cc} {m:Mem} {w:World} {c off n g:Nat} {vs:List Value} {e:TypeId} {ro:Bool} {ib:IB} {ns:List Nat} (hs:Ef Tryz.prog G ι m w) (hi:ι c=some ib) (hc:m.get c=.cells vs e g ro) (hd:Tm vs off n=some ns) {d:Nat} (hlt:d<n) :
 ∃ v0 v1 v2 v3 a k,w.cell? ⟨ib.blk,off+ib.sh+d*5,none⟩=some (.string v0)∧w.cell? ⟨ib.blk,off+ib.sh+d*5+1,none⟩=some (.bool v1)∧w.cell? ⟨ib.blk,off+ib.sh+d*5+2,none⟩=some (.int .i64 v2)∧w.cell? ⟨ib.blk,off+ib.sh+d*5+3,none⟩=some (.int .i64 v3)∧w.cell? ⟨ib.blk,off+ib.sh+d*5+4,none⟩=some (.slice a (gi ns d) k):=by
 obtain ⟨cs,fr,e',q1,q2,q3,q4,q5⟩:=J7 hs hi hc
 obtain ⟨x0,x1,x2,x3,a,k,y0,y1,y2,y3,hv,_⟩:=(LP hd).2 d hlt
 have hl:off+d*5+4<vs.length:=by
  rcases Nat.lt_or_ge (off+d*5+4) vs.length with h|h
  ·exact h
  ·rw [List.getElem?_eq_none h] at hv;cases hv
 have cell:∀ j,j≤4→∃ v',w.cell? ⟨ib.blk,off+ib.sh+d*5+j,none⟩=some v'∧Bf ι m.gen (vs.getD (off+d*5+j) undef) v':=fun j hj=>by
  obtain ⟨v',r1,r2⟩:=q4 (off+d*5+j) (by omega)
  refine ⟨v',?_,r2⟩
  rw [Am.cell_of_row q1,← r1]
  congr 1
  omega
 obtain ⟨v0,h0,r0⟩:=cell 0 (by omega)
 obtain ⟨v1,h1,r1⟩:=cell 1 (by omega)
 obtain ⟨v2,h2,r2⟩:=cell 2 (by omega)
 obtain ⟨v3,h3,r3⟩:=cell 3 (by omega)
 obtain ⟨v4,h4,r4⟩:=cell 4 (by omega)
 rw [List.getD_eq_getElem?_getD,Nat.add_zero,y0,Option.getD_some] at r0
 rw [List.getD_eq_getElem?_getD,y1,Option.getD_some] at r1
 rw [List.getD_eq_getElem?_getD,y2,Option.getD_some] at r2
 rw [List.getD_eq_getElem?_getD,y3,Option.getD_some] at r3
 rw [List.getD_eq_getElem?_getD,hv,Option.getD_some] at r4
 cases r0;cases r1;cases r2;cases r3
 have:∃ a' k',v4=.slice a' (gi ns d) k':=by
  generalize gi ns d=q at *
  cases r4<;>exact ⟨_,_,rfl⟩
 obtain ⟨a',k',rfl⟩:=this
 exact ⟨x0,x1,x2,x3,a',k',h0,h1,h2,h3,h4⟩
theorem nN {lb:List Value} {m:Mem} {key:Value} {rows:List (List Value)} (hq:Qx lb m=some (key,rows)) {ι:Cc} {w:World} {lb':Array Value} (Ei:Ef Tryz.prog (BO Tryz.prog 8 EJ) ι m w) (hl:BP ι m.gen lb lb'.toList) :
 ∃ B O n c1 o1 ns,0<n∧n<1000000∧(∀ d,d<n→gi ns d<1000000)∧ns.length=n∧rows=FC ns∧lb'=#[.pointer (some ⟨c1,o1,none⟩)]∧∀ X,sJ lb key rows ι m.gen lb' X→a7z B O n c1 o1 ns X:=by
 obtain ⟨b,x,y,c,off,n,g,z,e,vs,e',ro,ns,rfl,hb,hc,hn,hn9,hns,rfl,rfl⟩:=U6 hq
 obtain ⟨lb'⟩:=lb'
 obtain ⟨p1,k1,rfl,r1,hl2⟩:=hl.LK
 have hk:k1=[]:=List.length_eq_zero_iff.1 hl2.1.symm
 subst hk
 obtain ⟨c1,o1,rfl,hcell⟩:=kL Ei r1 hb
 have hg:g=m.gen c:=by simp [Mem.gen,hc,G8.gen]
 obtain ⟨v2,_,h2⟩:=hcell 2 (by simp)
 have hib:∃ ib,ι c=some ib:=by
  simp only [List.getD_cons_succ,List.getD_cons_zero] at h2
  cases h2 with
  |sl _ _ _ _ a' cap hsr =>
   obtain ⟨ib,h1,_⟩:=hsr
   exact ⟨ib,h1⟩
 obtain ⟨ib,hib⟩:=hib
 refine ⟨ib.blk,off+ib.sh,n,c1,o1,ns,hn,hn9,fun d hd=>by obtain ⟨_,_,_,_,_,_,_,_,_,_,_,h⟩:=(LP hns).2 d hd;exact h,(LP hns).1,rfl,rfl,?_⟩
 rintro X ⟨ι',m',g1,g2,⟨g3,g4⟩,g5⟩
 obtain ⟨b',x',y',c',off',n',g',z',e1',vs',e2',ro',ns',q0,qb,qc,qn,qn9,qns,qk,qr⟩:=U6 g3
 cases q0
 obtain ⟨k1,rfl⟩:=iJ qk
 cases k1
 obtain ⟨_,ib',i1,i2⟩:=g5 c ib hib
 have:ib'=ib:=i2 (by rw [← hg];simp [Mem.gen,qc,G8.gen])
 subst this
 obtain ⟨p1',k1',x1,x2,_⟩:=g2.LK
 cases x1
 obtain ⟨c1',o1',z1,z2⟩:=kL g1 x2 qb
 cases z1
 refine ⟨?_,fun d hd=>yG g1 i1 qc qns hd⟩
 obtain ⟨v',w1,w2⟩:=z2 2 (by simp)
 simp only [List.getD_cons_succ,List.getD_cons_zero] at w2
 obtain ⟨cap,rfl⟩:=oV w2 hn (by simp [Mem.gen,qc,G8.gen]) i1
 exact ⟨cap,w1⟩
attribute [local go_sem] Oper.semAt_some
def ivS:Value→Int| .int _ q=>q|_=>0
theorem gG (lb:List Value) (m:Mem) (key:Value) (rows:List (List Value)) (hq:Qx lb m=some (key,rows)) (hg:∀ k∈BO Tryz.prog 8 EJ,m.get k=(CX Tryz.prog 8 EJ).get k) (ι:Cc) (w:World) (lb':Array Value) (Ei:Ef Tryz.prog (BO Tryz.prog 8 EJ) ι m w) (hl:BP ι m.gen lb lb'.toList) :
 Vg Tryz.prog 81 lb' rows (sJ lb key rows ι m.gen lb') w:=by
 obtain ⟨B,O,n,c1,o1,ns,hn,hn9,a7c,hlen,rfl,rfl,facts⟩:=nN hq Ei hl
 have later:∀ X Y,sJ lb key (FC ns) ι m.gen #[.pointer (some ⟨c1,o1,none⟩)] X→Below X.heap.size X Y→sJ lb key (FC ns) ι m.gen #[.pointer (some ⟨c1,o1,none⟩)] Y:=by
  rintro X Y ⟨ι',m',g1,g2,g3⟩ hb
  exact ⟨ι',m',RU g1 hb,g2,g3⟩
 generalize sJ lb key (FC ns) ι m.gen #[.pointer (some ⟨c1,o1,none⟩)]=SI at *
 intro l J Jx W hB hJ hx hY hI hj
 refine callsIn_of_wp Tryz.func81 rfl trivial ?_ rfl
 simp only [Tryz.ntmps81,List.size_toArray,List.length_cons,List.length_nil,Nat.reduceAdd,Nat.reduceSub,Array.replicate_succ,Array.replicate_zero,List.push_toArray,List.append_toArray,List.nil_append,List.cons_append]
 obtain ⟨⟨cap,hbox⟩,hdiv⟩:=facts W hI
 gi_wp2
 gi_loopw [9] (fun v wr=>∃ d:Nat,d≤n∧v=.int .i64 (d:Int)∧J (KF ns d) wr∧SI wr) (fun v _=>(n-ivS v).toNat)
 case atStart=>exact ⟨0,Nat.zero_le _,by simp,hj,hI⟩
 case round =>
  obtain ⟨d,hd,rfl,hJd,hId⟩:=hrel
  obtain ⟨_,hdv⟩:=facts _ hId
  by_cases hlt:d<n
  ·obtain ⟨v0,v1,v2,v3,a,k,f0,f1,f2,f3,f4⟩:=hdv d hlt
   have hwd:IntKind.i64.wrap ((d:Int)+1)=((d+1:Nat):Int):=by rw [YI (by omega) (by omega)];omega
   gi_wp2
   have hJ1:∀ o,J (KF ns d) (wr.alloc o):=fun o=>hJ _ _ _ hJd ((Below.refl _ _).alloc (Nat.le_refl _) o)
   have hI1:∀ o,SI (wr.alloc o):=fun o=>later _ _ hId ((Below.refl _ _).alloc (Nat.le_refl _) o)
   gi_loopw [17] (fun v wr2=>∃ s:Nat,s≤gi ns d∧v=.int .i64 (s:Int)∧J (KF ns d+s) wr2∧SI wr2) (fun v _=>(gi ns d-ivS v).toNat)
   case atStart=>exact ⟨0,Nat.zero_le _,by simp,hJ1 _,hI1 _⟩
   case round =>
    obtain ⟨s,hs,rfl,hJs,hIs⟩:=hrel
    have h9:=a7c d hlt
    by_cases hls:s<gi ns d
    ·have hws:IntKind.i64.wrap ((s:Int)+1)=((s+1:Nat):Int):=by rw [YI (by omega) (by omega)];omega
     have hpl:=a1i ns (d:=d) (s:=s) (by omega) hls
     obtain ⟨fn,tmps,LD,body,hy,hR⟩:=hY _ _ hpl hJs
     rw [fV ns (by omega) hls] at hy
     have hy:(Instr.yield l #[.agg #[.int .i64 (d:Int),.int .i64 (s:Int)]]).run Tryz.prog wr=.ok (.round l fn tmps LD body) wr:=hy
     gi_wp2
     refine ⟨rfl,hR.mono ?_⟩
     rintro e W3 (⟨rfl,hJ3,hI3⟩|⟨rfl,hx3⟩)
     ·gi_wp2
      go_roundw
      case rel=>exact ⟨s+1,hls,by first|rfl|simp,hJ3,hI3⟩
      case measure=>simp [ivS];omega
     ·gi_wp2
      refine ⟨rfl,_,results_none rfl _ _ _,⟨_,rfl⟩,.inr ⟨_,hx3⟩⟩
    ·have hss:s=gi ns d:=by omega
     rw [hss,← Jw] at hJs
     gi_wp2
     go_roundw
     case rel=>exact ⟨d+1,hlt,by first|rfl|simp,hJs,hIs⟩
     case measure=>simp [ivS];omega
  ·have hdd:d=n:=by omega
   gi_wp2
   go_end0
   exact ⟨⟨_,rfl⟩,.inl (by rw [TI,hlen,← hdd];exact hJd)⟩
end Go.Proofs.YtdabojnmoejilaaGreatDoor
namespace Go.Vm
open Go Go.Am
section
variable {P:Program} {G:List Nat}
def LY (e:TypeId) (xs:List Value) (m:Mem):Option (Value×Mem):=match xs with
 |[.slice none 0 0,.int .i64 n]=>if n=0 then some (.slice none 0 0,m) else WY e [.slice none 0 0,.int .i64 n] m
 |_=>none
def V4 (fg:FuncId) (e:TypeId) (O:CJ):CJ:=fun f=>if f=fg then some (LY e) else O f
theorem Lc {fg f:FuncId} {e:TypeId} {O:CJ} (h:f≠fg):V4 fg e O f=O f:=if_neg h
theorem YA {fg:FuncId} {e:TypeId} {O:CJ}:V4 fg e O fg=some (LY e):=if_pos rfl
theorem Ug {e:TypeId} {xs:List Value} {m m':Mem} {v:Value} (h:LY e xs m=some (v,m')):(xs=[.slice none 0 0,.int .i64 0]∧v=.slice none 0 0∧m'=m)∨WY e xs m=some (v,m'):=by
 unfold LY at h
 split at h
 ·rename_i n
  split at h
  ·rename_i hn;subst hn;cases h;exact .inl ⟨rfl,rfl,rfl⟩
  ·exact .inr h
 ·cases h
theorem YQ {O:CJ} {fg:FuncId} {e:TypeId} (hO:G6 P G (kS fg e O)) (hc:∀ w:World,Calls P fg #[.slice none 0 0,.int .i64 0] w fun r w'=>r=.returned (.slice none 0 0)∧w'=w):G6 P G (V4 fg e O):=by
 intro f Fo hf
 by_cases h:f=fg
 ·subst h
  rw [YA] at hf
  cases hf
  obtain ⟨o1,o2,o3,o4⟩:=hO f _ bK
  refine ⟨fun xs m v m' hv ι w as' hs hrel=>?_,fun xs m v m' hv=>?_,o3,XR.none fun n lb m=>rfl⟩
  ·rcases Ug hv with ⟨rfl,rfl,rfl⟩|hv
   ·obtain ⟨hlen,hat⟩:=hrel
    have hl2:as'.toList.length=2:=by simpa using hlen.symm
    have e0:as'=#[.slice none 0 0,.int .i64 0]:=by
     obtain ⟨l⟩:=as'
     match l,hl2 with
     |[a,b],_ =>
      have ha:=hat 0 (by simp)
      have hb:=hat 1 (by simp)
      simp only [List.getD_cons_zero,List.getD_cons_succ] at ha hb
      have hb':=hb.CG (v:=.int .i64 0) rfl
      cases ha
      rw [hb']
    subst e0
    refine (hc w).mono ?_
    rintro r w' ⟨rfl,rfl⟩
    exact ⟨_,rfl,Post.same hs (Bf.plain rfl)⟩
   ·exact o1 xs m v m' hv ι w as' hs hrel
  ·rcases Ug hv with ⟨rfl,rfl,rfl⟩|hv
   ·exact Bo.refl _
   ·exact o2 xs m v m' hv
 ·rw [Lc h] at hf
  exact hO f Fo (by rw [dQ h];exact hf)
end
end Go.Vm
namespace Go.Proofs.YtdabojnmoejilaaGreatDoor
open Go Go.Am Go.Vm Go.Tra
theorem a3p:Tryz.prog.follows .mixedOrders=true:=by kernel_rfl
theorem wB:jA 8 EJ:=⟨⟨1,39,by kernel_rfl,by kernel_rfl,of_decide_eq_true (by kernel_rfl)⟩⟩
theorem aS:Am.Enters Tryz.prog 114:=⟨_,Tryz.func114,by kernel_rfl,by kernel_rfl⟩
theorem WO:Am.Enters Tryz.prog 118:=⟨_,Tryz.func118,by kernel_rfl,by kernel_rfl⟩
theorem dW:Am.Enters Tryz.prog 111:=⟨_,Tryz.func111,by kernel_rfl,by kernel_rfl⟩
def yP:List (FuncId×VA):=[(114,kV),(118,QL),(111,textF)]
theorem x9:G6 Tryz.prog (BO Tryz.prog 8 EJ) (Zd (BO Tryz.prog 8 EJ) (CX Tryz.prog 8 EJ) yP):=jK fun x hx=>by
 simp only [yP,List.mem_cons,List.not_mem_nil,or_false] at hx
 rcases hx with rfl|rfl|rfl
 ·exact jq wB aS
 ·exact XB WO
 ·exact gu wB dW
def yZ:Go.Shelf.Ren:=⟨fun|4=>121|n=>n,fun|0=>0|3=>3|4=>4|9=>9|20=>20|22=>52|25=>3|n=>n,fun|n=>n⟩
theorem kQ:Go.Proofs.Lays8.n4 Tryz.prog yZ:={
 mixed:=by kernel_rfl
 f4:=⟨"slices.Grow[[]int,int]",by decide,Tryz.func121.trans (congrArg some (by kernel_rfl))⟩
 t0:=Tryz.underlying0
 a0:=Tryz.isAgg0
 z0:=Tryz.sizeOf0
 v0:=Tryz.zeroValue0
 t3:=Tryz.underlying3
 a3:=Tryz.isAgg3
 z3:=Tryz.sizeOf3
 v3:=Tryz.zeroValue3
 t4:=Tryz.underlying4
 a4:=Tryz.isAgg4
 z4:=Tryz.sizeOf4
 v4:=Tryz.zeroValue4
 t9:=Tryz.underlying9
 a9:=Tryz.isAgg9
 z9:=Tryz.sizeOf9
 v9:=Tryz.zeroValue9
 t20:=Tryz.underlying20
 a20:=Tryz.isAgg20
 z20:=Tryz.sizeOf20
 v20:=Tryz.zeroValue20
 t22:=Tryz.underlying52
 a22:=Tryz.isAgg52
 z22:=Tryz.sizeOf52
 v22:=Tryz.zeroValue52 }
theorem nH:(match Tryz.prog.info? 3 with|some i=>decide (i.size=1)&&decide (i.bytes=8)&&(match i.zero with|some (.int .i64 n)=>decide (n=0)|_=>false)|none=>false)=true:=by kernel_rfl
theorem tC:∃ i0,Tryz.prog.info? 3=some i0∧i0.zero=some (.int .i64 0)∧i0.size=1∧i0.bytes=8:=by
 have h:=nH
 generalize Tryz.prog.info? 3=o at *
 cases o with
 |none=>cases h
 |some i =>
  simp only [Bool.and_eq_true,decide_eq_true_eq] at h
  obtain ⟨⟨h1,h2⟩,h3⟩:=h
  refine ⟨i,rfl,?_,h1,h2⟩
  split at h3
  ·rename_i n hz
   rw [hz,of_decide_eq_true h3]
  ·cases h3
theorem jm (n:Nat) (w:World) (h0:0<n) (hn:n≤1000000):Calls Tryz.prog 121 #[.slice none 0 0,.int .i64 n] w fun r w'=>∃ cap cs,r=.returned (.slice (some ⟨w.heap.size,0,none⟩) 0 cap)∧w'.heap=w.heap.push (.cells cs 3 (0,0))∧w'.tape=w.tape∧w'.os=w.os∧w'.output=w.output∧cap*Tryz.prog.cellsOf 3≤cs.size:=by
 obtain ⟨i0,h1,h2,h3,h4⟩:=tC
 refine (Any8.slices_Grow_grow kQ i0 (.int .i64 0) h1 h2 (by omega) none 0 0 n [] w (Nat.le_refl _) (by omega) (by rw [h4];omega) (by omega) (by simp) (fun _=>rfl) (fun a ha=>by cases ha)).mono ?_
 rintro r w' ⟨rfl,rfl⟩
 refine ⟨_,_,rfl,rfl,rfl,rfl,rfl,?_⟩
 rw [EH h1,h3]
 have e:(Value.int .i64 0).cells.size=1:=rfl
 simp only [Array.size_append,Jz,e]
 omega
theorem aC:Am.Enters Tryz.prog 121:=⟨_,Tryz.func121,by kernel_rfl,by kernel_rfl⟩
noncomputable def sQ:CJ:=V4 121 3 (Zd (BO Tryz.prog 8 EJ) (CX Tryz.prog 8 EJ) yP)
theorem yw:G6 Tryz.prog (BO Tryz.prog 8 EJ) sQ:=YQ (bP x9 aC jm) fun w=>Any8.slices_Grow_room kQ none 0 0 0 w (Nat.le_refl _) (by omega) (by omega) (by omega)
theorem Xv:Am.Enters Tryz.prog 81:=⟨_,Tryz.func81,by kernel_rfl,by kernel_rfl⟩
theorem qo:∀ fn,Tryz.prog.funcs[81]?=some fn→fn.ntmps=28:=fun fn h=>by
 rw [Tryz.func81] at h
 cases h
 exact Tryz.ntmps81
noncomputable def fE:CJ:=yL (BO Tryz.prog 8 EJ) (CX Tryz.prog 8 EJ) 81 28 Qx sQ
theorem a2h:G6 Tryz.prog (BO Tryz.prog 8 EJ) fE:=iL yw Xv qo gG
noncomputable abbrev env:Env:=Jm Tryz.prog 8 EJ fE
theorem QG {f:FuncId} (h:f≠81):fE f=sQ f:=lM h
theorem S9:fE 81=some (TV (BO Tryz.prog 8 EJ) (CX Tryz.prog 8 EJ) 28 Qx):=by unfold fE;exact mg
theorem AB {f:FuncId} (h:f∉81::121::yP.map (·.1)):env.O f=none:=by
 show fE f=none
 rw [QG (fun e=>h (by rw [e];simp))]
 show V4 _ _ _ f=none
 rw [Lc (fun e=>h (by rw [e];simp))]
 refine oG ?_
 rw [List.lookup_eq_none_iff]
 intro p hp
 by_cases e:f=p.1
 ·exact absurd (List.mem_cons_of_mem _ (List.mem_cons_of_mem _ (List.mem_map.2 ⟨p,hp,e.symm⟩))) h
 ·simpa using e
theorem tu (n:Int) (h:-9223372036854775808≤n∧n≤9223372036854775807):AZ env 114 [.int .i64 n] (st (Lib.itoa n)) :=
 Ws ((QG (by decide)).trans (Lc (by decide))) rfl fun m F xs h1=>by
  cases h1 with
  |cons h1 t =>
   cases t;cases h1
   exact ⟨_,by simp only [kV];rw [if_pos h],.str _⟩
theorem TN (a b:List UInt8):AZ env 118 [.str (bs a),.str (bs b)] (.p (.int .i64 (Lib.compareBytes a b))) :=
 Ws ((QG (by decide)).trans (Lc (by decide))) rfl fun m F xs h1=>by
  cases h1 with
  |cons h1 t =>
   cases t with
   |cons h2 t =>
    cases t;cases h1;cases h2
    exact ⟨.int .i64 (Lib.compareBytes a b),by simp only [QL,ZB],.int _ _⟩
theorem aK (l:List Nat) (hl:Num.Xi l) (hn:l.length<1000000000):AZ env 111 [.lst 39 (cells l) l.length] (st (Num.MP l)) :=
 Ws ((QG (by decide)).trans (Lc (by decide))) rfl fun m F xs h1=>oq hl hn h1
theorem Yh:fE 121=some (LY 3):=(QG (by decide)).trans YA
theorem rE (n:Nat) (h0:0<n) (hn:n≤1000000):CW env 121 [.val (.slice none 0 0),.int .i64 (n:Int)] 3 [] 0 false:=by
 intro m F σ xs h1 h2
 have h2':DU m F [.val (.slice none 0 0),.int .i64 (n:Int)] xs:=DU.VN h2
 have e:xs=[.slice none 0 0,.int .i64 (n:Int)]:=by
  cases h2' with
  |cons a t =>
   cases t with
   |cons b t =>
    cases t
    cases a
    cases b
    rfl
 subst e
 obtain ⟨c1,c2,c3,c4⟩:=Ov (e:=3) (cs:=[]) (vs:=[]) 0 h1 .nil rfl
 refine Jb.jO (F:=LY 3) (m':=(BK m 3 [] 0).2) (v:=(BK m 3 [] 0).1) Yh ?_ ⟨_,_,_,F,_,⟨rfl,rfl,rfl⟩,c1,c4,c2⟩
 simp only [LY,WY]
 rw [if_neg (by omega),if_pos (by omega)]
theorem oJ:AZ env 121 [.val (.slice none 0 0),.int .i64 0] (.p (.val (.slice none 0 0))):=by
 intro m F σ xs h1 h2
 have h2':DU m F [.val (.slice none 0 0),.int .i64 0] xs:=DU.VN h2
 have e:xs=[.slice none 0 0,.int .i64 0]:=by
  cases h2' with
  |cons a t =>
   cases t with
   |cons b t =>
    cases t
    cases a
    cases b
    rfl
 subst e
 exact Jb.jO (F:=LY 3) (m':=m) (v:=.slice none 0 0) Yh (by simp only [LY];rfl) ⟨_,[],0,F,σ,⟨rfl,rfl,rfl⟩,h1,.p (.val rfl),Step.refl _ _ _ _ _⟩
end Go.Proofs.YtdabojnmoejilaaGreatDoor
namespace Go.Proofs.YtdabojnmoejilaaGreatDoor
open Go Go.Am Go.Vm
attribute [local irreducible] Aa Ag Ak Ae BH AZ CW AO AL Az Vm.Done Di Bv
theorem X0 (l:List Nat) (hl:l.length<1000000):AZ env 131 [.lst 39 (cells l) l.length] (lst 39 (Num.JY l)):=by
 refine AZ.enter (AB (by decide)) Tryz.func131 rfl (by kernel_rfl) (by simp [Tryz.ntmps131]) ?_
 repeat' (first|apply Ae.AA|apply Ae.Ai|apply Ag.nil|apply Ag.one|(apply Aa.assign;rfl))
 refine Ae.Ec (fun a:List Nat=>[(0,lst 39 a)]) (fun _=>[]) 0 (fun a=>a.length≤l.length∧Num.JY a=Num.JY l) (fun a=>a.length) l (Nat.le_refl _) ⟨by omega,rfl⟩ ⟨Nat.le_refl _,?_,trivial⟩ ?_
 ·repeat (first|exact Ad.nil|refine Ad.same trivial rfl ?_|refine Ad.same (Ac rfl) rfl ?_|refine Ad.same ⟨trivial,Ac rfl,Ac rfl,Ac rfl,trivial⟩ rfl ?_|refine Ad.same ⟨trivial,Ac rfl,Ac rfl,trivial⟩ rfl ?_|refine Ad.same ⟨trivial,trivial⟩ rfl ?_|refine Ad.cons trivial rfl (.of_eq (Au (by simp<;>omega))) ?_)
 rintro a ⟨ha,hr⟩
 have hlast:0<a.length→a=a.take (a.length-1)++[gi a (a.length-1)]:=fun h=>by
  conv=>lhs;rw [← List.take_append_drop (a.length-1) a]
  congr 1
  rw [List.drop_eq_getElem_cons (by omega),List.drop_eq_nil_of_le (by omega)]
  simp [gi,List.getElem?_eq_getElem (show a.length-1<a.length by omega)]
 repeat' (first|apply Ae.assoc|apply Ae.AA|apply Ae.region|apply Ae.Aq|apply Ae.A8|apply AO.normal|apply AL.normal|apply AL.exit|apply Az.exit|apply Ae.ret|apply Ae.IE|apply Ag.nil|apply Ag.one|(apply Ag.take;rfl;rfl)|(apply Ag.drop;rfl;rfl;rfl)|(apply Ag.guard;rfl;rfl)|(apply Aa.assign;rfl)|(apply Aa.move;rfl)|(apply Aa.Ir;rfl;rfl;omega)|(apply Aa.int;rfl;rfl;rfl)|(apply Aa.uw;rfl;rfl;rfl;omega;omega;rfl)|(apply Aa.load;rfl;rfl)|(apply Aa.BJ;rfl;rfl)|(apply Aa.AQ;rfl;rfl)|(apply Aa.BL;rfl;rfl)|(apply Aa.vX;rfl;rfl;rfl;rfl;rfl;rfl;omega)|(apply Ae.Ar;rfl)|(apply Ae.Af;rfl)|(intro _;try (exfalso;omega)))
 ·rename_i h1 h2
  have e1:((a.length:Int)-1).toNat=a.length-1:=by omega
  have hz:gi a (a.length-1)=0:=by omega
  refine Az.normal ⟨a.take (a.length-1),⟨by simp;omega,?_⟩,by simp;omega,⟨Nat.le_refl _,?_,trivial⟩⟩
  ·have:=hlast (by omega)
   rw [hz] at this
   rw [← hr]
   conv=>rhs;rw [this]
   rw [Num.Ro]
  ·rw [e1];repeat (first|exact Ad.nil|refine Ad.same trivial rfl ?_|refine Ad.same (Ac rfl) rfl ?_|refine Ad.same ⟨trivial,Ac rfl,Ac rfl,Ac rfl,trivial⟩ rfl ?_|refine Ad.same ⟨trivial,Ac rfl,Ac rfl,trivial⟩ rfl ?_|refine Ad.same ⟨trivial,trivial⟩ rfl ?_|refine Ad.cons trivial rfl (.of_eq (Au (by simp<;>omega))) ?_)
 ·rename_i h1 h2
  refine Done.ret rfl (.refl _) (by first|exact trivial|exact ⟨trivial,trivial,trivial⟩|exact ⟨trivial,trivial,trivial,trivial⟩) Aj.nil (Nat.zero_le _) (Nat.le_refl _) ⟨?_,rfl,rfl⟩
  have e:Num.JY a=a:=by
   have:=hlast (by omega)
   conv=>lhs;rw [this]
   rw [Num.VG _ (by omega),← this]
  rw [← hr,e]
 ·rename_i h1
  refine Done.ret rfl (.refl _) (by first|exact trivial|exact ⟨trivial,trivial,trivial⟩|exact ⟨trivial,trivial,trivial,trivial⟩) Aj.nil (Nat.zero_le _) (Nat.le_refl _) ⟨?_,rfl,rfl⟩
  have:a=[]:=List.eq_nil_of_length_eq_zero (by omega)
  rw [← hr,this]
  rfl
theorem Pm (m n:List Nat) (hm:Num.Xi m) (hn:Num.Xi n) (hml:m.length<400000) (hnl:n.length<400000) :
 AZ env 112 [.lst 39 (cells m) m.length,.lst 39 (cells n) n.length] (lst 39 (Num.OI (Num.val m*Num.val n))):=by
 refine AZ.enter (AB (by decide)) Tryz.func112 rfl (by kernel_rfl) (by simp [Tryz.ntmps112]) ?_
 obtain ⟨T,hT⟩:∃ T,T=m.length+n.length+1:=⟨_,rfl⟩
 repeat' (first|apply Ae.assoc|apply Ae.AA|apply Ae.Ai|apply Ag.nil|apply Ag.one|(apply Aa.Ep T (0:Nat);rfl;rfl;rfl;rfl;rfl;omega;omega;omega;decide;decide;rfl)|(apply Aa.assign;rfl)|(apply Aa.move;rfl)|(apply Aa.Bz;rfl;rfl;omega)|(apply Aa.BL;rfl;rfl))
 refine Ae.Ec (fun a:Nat×List Nat=>[(0,lst 39 m),(1,lst 39 n),(5,.vec 0 T 0 T),(19,lst 39 m),(20,.p (.int .i64 m.length)),(21,.p (.int .i64 (a.1:Int)))]) (fun a=>[(0,.vec 39 (cells a.2) T false)]) 1
  (fun a=>a.1≤m.length∧a.2.length=T∧Num.Xi a.2∧Num.val a.2=Num.val (m.take a.1)*Num.val n∧∀ j,a.1+n.length≤j→gi a.2 j=0) (fun a=>m.length-a.1) (0,List.replicate T 0) (by omega)
  ⟨by simp,by simp,Num.XH _,by simp [Num.XD,Num.val],fun j _=>Num.L6 _ _⟩ ⟨Nat.le_refl _,?_,?_⟩ ?_
 ·repeat (first|exact Ad.nil|refine Ad.same trivial rfl ?_|refine Ad.same (Ac rfl) rfl ?_|refine Ad.same ⟨trivial,Ac rfl,Ac rfl,Ac rfl,trivial⟩ rfl ?_|refine Ad.same ⟨trivial,Ac rfl,Ac rfl,trivial⟩ rfl ?_|refine Ad.same ⟨trivial,trivial⟩ rfl ?_|refine Ad.cons trivial rfl (.of_eq (Au (by simp<;>omega))) ?_)
 ·repeat (first|exact Aj.nil|(refine Aj.cons (Ac rfl) ?_ rfl ?_ ?_;(first|exact trivial|exact AV.Ah _ _|(simp [HB.under,AV.under,PV.under]));(first|exact Bq.refl _|exact Bq.vec (Bl.refl _) (by simp))))
 rintro ⟨i,out⟩ ⟨hi,hol,hlim,hval,hzero⟩
 simp only at hi hol hlim hval hzero
 dsimp only
 by_cases hlt:i<m.length
 ·have ha:=Num.jP hm i
  repeat' (first|apply Ae.assoc|apply Ae.AA|apply Ae.Aq|apply Ae.Ai|apply Ag.nil|apply Ag.one|(apply Aa.assign;rfl)|(apply Aa.move;rfl)|(apply Aa.int;rfl;rfl;rfl)|(apply Aa.AU;rfl;rfl;rfl;omega;rfl)|(apply Aa.load;rfl;rfl)|(apply Aa.BL;rfl;rfl)|(apply Ae.Af;rfl)|(intro _;try (exfalso;omega)))
  refine Ae.Ec (fun a:Nat×Nat×List Nat=>[(0,lst 39 m),(1,lst 39 n),(5,.vec 0 T 0 T),(6,.p (.int .i64 (i:Int))),(7,.p (.int .u64 ((gi m i:Nat):Int))),(8,.p (.int .u64 (a.2.1:Int))),(19,lst 39 m),(20,.p (.int .i64 m.length)),(21,.p (.int .i64 (i:Int))),(26,lst 39 n),(27,.p (.int .i64 n.length)),(28,.p (.int .i64 (a.1:Int)))]) (fun a=>[(0,.vec 39 (cells a.2.2) T false)]) 1
   (fun a=>a.1≤n.length∧a.2.1<1000000000∧a.2.2.length=T∧Num.Xi a.2.2∧Num.val a.2.2+a.2.1*Num.B9 ^ (i+a.1)=Num.val out+gi m i*Num.B9 ^ i*Num.val (n.take a.1)∧∀ j,i+n.length≤j→gi a.2.2 j=0) (fun a=>n.length-a.1) (0,0,out) (by omega)
   ⟨by simp,by simp,hol,hlim,by simp [Num.val],hzero⟩ ⟨Nat.le_refl _,?_,?_⟩ ?_
  ·repeat (first|exact Ad.nil|refine Ad.same trivial rfl ?_|refine Ad.same (Ac rfl) rfl ?_|refine Ad.same ⟨trivial,Ac rfl,Ac rfl,Ac rfl,trivial⟩ rfl ?_|refine Ad.same ⟨trivial,Ac rfl,Ac rfl,trivial⟩ rfl ?_|refine Ad.same ⟨trivial,trivial⟩ rfl ?_|refine Ad.cons trivial rfl (.of_eq (Au (by simp<;>omega))) ?_)
  ·repeat (first|exact Aj.nil|(refine Aj.cons (Ac rfl) ?_ rfl ?_ ?_;(first|exact trivial|exact AV.Ah _ _|(simp [HB.under,AV.under,PV.under]));(first|exact Bq.refl _|exact Bq.vec (Bl.refl _) (by simp))))
  rintro ⟨k,carry,o⟩ ⟨hk,hc,hol',hlim',hval',hzero'⟩
  simp only at hk hc hol' hlim' hval' hzero'
  dsimp only
  by_cases hlk:k<n.length
  ·have hb:=Num.jP hn k
   have ho:=Num.jP hlim' (i+k)
   have hab:gi m i*gi n k≤999999999*999999999:=Nat.mul_le_mul (by omega) (by omega)
   repeat' (first|apply Ae.AA|apply Ae.region|apply Ae.Aq|apply Ae.Ai|apply AO.normal|apply AL.normal|apply Ag.nil|apply Ag.one|(apply Aa.DT (y:=(gi o (i+k)+gi m i*gi n k+carry) % 1000000000);rfl;rfl;rfl;trivial;(first|rfl|(refine congrArg (fun t=>[PV.p (FV.int _ t)]) ?_;first|omega|(simp only [Int.natCast_add,Int.natCast_mul,Int.natCast_ediv,Int.natCast_emod]<;>omega)));rfl;rfl;decide;(first|omega|(simp only [List.length_set]<;>omega)))|(apply Aa.assign;rfl)|(apply Aa.move;rfl)|(apply Aa.Bz;rfl;rfl;omega)|(apply Aa.sK;rfl;rfl;omega)|(apply Aa.zK;rfl;rfl;omega)|(apply Aa.a4m;rfl;rfl;omega)|(apply Aa.a5d;rfl;rfl;omega)|(apply Aa.int;rfl;rfl;rfl)|(apply Aa.AU;rfl;rfl;rfl;omega;rfl)|(apply Aa.Dl;rfl;rfl;omega;rfl)|(apply Aa.load;rfl;rfl)|(apply Aa.Dc;rfl;rfl;rfl;rfl;omega)|(apply Ae.Af;rfl)|(intro _;try (exfalso;omega)))
   refine Az.normal ⟨(k+1,(gi o (i+k)+gi m i*gi n k+carry) / 1000000000,o.set (i+k) ((gi o (i+k)+gi m i*gi n k+carry) % 1000000000)),⟨by simp only;omega,?_,by simp [hol'],?_,?_,?_⟩,by simp only;omega,⟨Nat.le_refl _,?_,?_⟩⟩
   ·simp only
    apply Nat.div_lt_of_lt_mul
    omega
   ·exact Num.mJ hlim' (Nat.mod_lt _ (by decide))
   ·simp only
    rw [Num.OY n k hlk]
    exact Num.rG (by omega) hval'
   ·intro j hj
    simp only
    rw [Num.U8 _ _ _ _ (by omega),if_neg (by omega)]
    exact hzero' j hj
   ·repeat (first|exact Ad.nil|refine Ad.same trivial rfl ?_|refine Ad.same (Ac rfl) rfl ?_|refine Ad.same ⟨trivial,Ac rfl,Ac rfl,Ac rfl,trivial⟩ rfl ?_|refine Ad.same ⟨trivial,Ac rfl,Ac rfl,trivial⟩ rfl ?_|refine Ad.same ⟨trivial,trivial⟩ rfl ?_|refine Ad.cons trivial rfl (.of_eq (Au (by simp<;>omega))) ?_)
   ·repeat (first|exact Aj.nil|(refine Aj.cons (Ac rfl) ?_ rfl ?_ ?_;(first|exact trivial|exact AV.Ah _ _|(simp [HB.under,AV.under,PV.under]));(first|exact Bq.refl _|exact Bq.vec (Bl.refl _) (by simp))))
  ·have hkn:k=n.length:=by omega
   subst hkn
   have hz:=hzero' (i+n.length) (by omega)
   repeat' (first|apply Ae.AA|apply Ae.region|apply Ae.A8|apply AO.normal|apply AL.normal|apply AL.exit|apply Az.exit|apply Ag.nil|apply Ag.one|(apply Aa.DT (y:=gi o (i+n.length)+carry);rfl;rfl;rfl;trivial;(first|rfl|(refine congrArg (fun t=>[PV.p (FV.int _ t)]) ?_;first|omega|(simp only [Int.natCast_add,Int.natCast_mul,Int.natCast_ediv,Int.natCast_emod]<;>omega)));rfl;rfl;decide;(first|omega|(simp only [List.length_set]<;>omega)))|(apply Aa.move;rfl)|(apply Aa.Bz;rfl;rfl;omega)|(apply Aa.sK;rfl;rfl;omega)|(apply Aa.int;rfl;rfl;rfl)|(apply Aa.Dl;rfl;rfl;omega;rfl)|(apply Aa.BL;rfl;rfl)|(apply Aa.Dc;rfl;rfl;rfl;rfl;omega)|(apply Ae.Af;rfl)|(intro _;try (exfalso;omega)))
   refine Az.normal ⟨(i+1,o.set (i+n.length) (gi o (i+n.length)+carry)),⟨by simp only;omega,by simp [hol'],?_,?_,?_⟩,by simp only;omega,⟨Nat.le_refl _,?_,?_⟩⟩
   ·refine Num.mJ hlim' ?_
    rw [hz]
    simp only [Num.B9];omega
   ·simp only
    rw [Num.yU (by omega) hz hval',hval,List.take_length,Num.OY m i hlt,Nat.add_mul]
   ·intro j hj
    simp only at hj
    simp only
    rw [Num.U8 _ _ _ _ (by omega),if_neg (by omega)]
    exact hzero' j (by omega)
   ·repeat (first|exact Ad.nil|refine Ad.same trivial rfl ?_|refine Ad.same (Ac rfl) rfl ?_|refine Ad.same ⟨trivial,Ac rfl,Ac rfl,Ac rfl,trivial⟩ rfl ?_|refine Ad.same ⟨trivial,Ac rfl,Ac rfl,trivial⟩ rfl ?_|refine Ad.same ⟨trivial,trivial⟩ rfl ?_|refine Ad.cons trivial rfl (.of_eq (Au (by simp<;>omega))) ?_)
   ·repeat (first|exact Aj.nil|(refine Aj.cons (Ac rfl) ?_ rfl ?_ ?_;(first|exact trivial|exact AV.Ah _ _|(simp [HB.under,AV.under,PV.under]));(first|exact Bq.refl _|exact Bq.vec (Bl.refl _) (by simp))))
 ·have him:i=m.length:=by omega
  subst him
  have htr:=X0 out (by omega)
  rw [hol] at htr
  repeat' (first|(refine Ae.at 14 ?_;refine Ae.ghost (AX.freeze 5 rfl rfl) ?_;first|apply Ae.AA|apply Ae.BA)|apply Ae.AA|apply Ae.A8|apply AO.normal|apply AL.exit|apply Az.exit|apply Ae.ret|apply Ag.nil|apply Ag.one|(apply Aa.fn;rfl;rfl;exact htr;intro _;rfl)|(apply Aa.assign;rfl)|(apply Aa.move;rfl)|(apply Aa.int;rfl;rfl;rfl)|(apply Ae.Af;rfl)|(intro _;try (exfalso;omega)))
  ·refine Done.ret rfl (.refl _) (by first|exact trivial|exact ⟨trivial,trivial,trivial⟩|exact ⟨trivial,trivial,trivial,trivial⟩) Aj.nil (Nat.zero_le _) (Nat.le_refl _) ⟨?_,rfl,rfl⟩
   rw [Num.ZV hlim,hval,List.take_length]
end Go.Proofs.YtdabojnmoejilaaGreatDoor
namespace Go.Proofs.YtdabojnmoejilaaGreatDoor
open Go Go.Am Go.Vm
attribute [local irreducible] Aa Ag Ak Ae BH AZ CW AO AL Az Vm.Done Di Bv
theorem bH {l:List UInt8} {p:UInt8→Prop} (h:∀ c∈l,p c) (i:Nat) (hi:i<l.length):p (gi l i):=by
 simp only [gi,List.getElem?_eq_getElem hi,Option.getD_some];exact h _ (List.getElem_mem _)
theorem nM (n:Nat) (hn:Lib.nDigits n<900000):AZ env 125 [.str (bs (Lib.decDigits n))] (lst 39 (Num.OI n)):=by
 refine AZ.enter (AB (by decide)) Tryz.func125 rfl (by kernel_rfl) (by simp [Tryz.ntmps125]) ?_
 obtain ⟨d,hd⟩:∃ d,d=Lib.decDigits n:=⟨_,rfl⟩
 obtain ⟨K,hK⟩:∃ K,K=Lib.nDigits n:=⟨_,rfl⟩
 have hdl:d.length=K:=by rw [hd,hK,Lib.decDigits_length]
 have hdD:d=Num.D K n:=by rw [hd,hK,Num.Em]
 rw [← hd]
 repeat' (first|apply Ae.assoc|apply Ae.AA|apply Ae.Ai|apply Ag.nil|apply Ag.one|(apply Aa.assign;rfl)|(apply Aa.move;rfl)|(apply Aa.Kw;rfl;rfl))
 refine Ae.ghost (AX.adopt 3 39 rfl) ?_
 refine Ae.Ec (fun k:Nat=>[(0,st d),(3,.vec 0 (Num.limbs n k).length 0 (Num.limbs n k).length),(4,.p (.int .i64 ((K:Int)-9*(k:Int))))]) (fun k=>[(0,.vec 39 (cells (Num.limbs n k)) (Num.limbs n k).length true)]) 1 (fun k=>9*k<K+9) (fun k=>K+9-9*k) 0 (by omega) (by omega) ⟨Nat.le_refl _,?_,?_⟩ ?_
 ·rw [← hdl];refine Ad.cons trivial rfl (.refl _) ?_;repeat (first|exact Ad.nil|refine Ad.same trivial rfl ?_|refine Ad.same (Ac rfl) rfl ?_|refine Ad.same ⟨trivial,Ac rfl,Ac rfl,Ac rfl,trivial⟩ rfl ?_|refine Ad.same ⟨trivial,Ac rfl,Ac rfl,trivial⟩ rfl ?_|refine Ad.same ⟨trivial,trivial⟩ rfl ?_|refine Ad.cons trivial rfl (.of_eq (Au (by simp<;>omega))) ?_)
 ·exact Aj.cons (by decide) trivial rfl (.refl _) Aj.nil
 intro k hk
 have hll:=Num.KZ n k
 by_cases hlt:9*k<K
 ·obtain ⟨e,he⟩:∃ e,e=K-9*k:=⟨_,rfl⟩
  obtain ⟨c,hc⟩:∃ c,c=min 9 e:=⟨_,rfl⟩
  obtain ⟨p,hp⟩:∃ p,p=Num.D c (n / 10 ^ (9*k)):=⟨_,rfl⟩
  have hpl:p.length=c:=by rw [hp,Num.Ee]
  have hpc:List.drop (max ((K:Int)-9*(k:Int)-9) 0).toNat (List.take ((K:Int)-9*(k:Int)).toNat d)=p:=by
   rw [show ((K:Int)-9*(k:Int)).toNat=e by omega,show (max ((K:Int)-9*(k:Int)-9) 0).toNat=e-c by omega,hdD,Num.Z4 K n e c (by omega) (by omega),hp]
   rw [show K-e=9*k by omega]
  have a1f:Num.parse p=Num.YO n k:=by
   rw [hp,Num.Qp]
   unfold Num.YO
   rw [show Num.B9 ^ k=10 ^ (9*k) by rw [Nat.pow_mul]]
   by_cases h9:c=9
   ·rw [h9]
   ·have hlt2:n / 10 ^ (9*k)<10 ^ c:=by
     apply Nat.div_lt_of_lt_mul
     rw [← Nat.pow_add,show 9*k+c=K by omega,hK]
     exact Lib.lt_pow_nDigits n
    have hle:10 ^ c≤Num.B9:=by
     have:10 ^ c≤10 ^ 9:=Nat.pow_le_pow_right (by decide) (by omega)
     exact this
    rw [Nat.mod_eq_of_lt hlt2,Nat.mod_eq_of_lt (by omega)]
  have hdig:∀ i,i<p.length→48≤(gi p i).toNat∧(gi p i).toNat≤57:=fun i hi=>bH (p:=fun c=>48≤c.toNat∧c.toNat≤57) (by rw [hp];exact Num.Y1 _ _) i hi
  have hpv:∀ j,j≤p.length→Num.parse (p.take j)<1000000000:=fun j hj=>by
   have h1:=Num.dX (p.take j) (fun c hc=>by
    have hm:=List.mem_of_mem_take hc
    rw [hp] at hm
    exact Num.Y1 _ _ c hm)
   rw [List.length_take,Nat.min_eq_left hj] at h1
   have h2:10 ^ j≤10 ^ 9:=Nat.pow_le_pow_right (by decide) (by omega)
   exact Nat.lt_of_lt_of_le h1 h2
  repeat' (first|apply Ae.assoc|apply Ae.AA|apply Ae.Aq|apply Ae.Ai|apply Ag.nil|apply Ag.one|(rw [hpc])|(apply Aa.assign;rfl)|(apply Aa.move;rfl)|(apply Aa.Ir;rfl;rfl;omega)|(apply Aa.int;rfl;rfl;rfl)|(apply Aa.lenV;rfl;rfl;rfl)|(apply Aa.xY;rfl;rfl;rfl;rfl;omega)|(apply Aa.lG;rfl;rfl;rfl;rfl;rfl;rfl;omega)|(apply Aa.Xk;rfl;rfl)|(apply Ae.Af;rfl)|(intro _;try (exfalso;omega)))
  refine Ae.Ec (fun j:Nat=>[(0,st d),(3,.vec 0 (Num.limbs n k).length 0 (Num.limbs n k).length),(4,.p (.int .i64 ((K:Int)-9*(k:Int)))),(5,.p (.int .u64 ((Num.parse (p.take j):Nat):Int))),(20,.vec 1 p.length 0 p.length),(21,.p (.int .i64 p.length)),(22,.p (.int .i64 (j:Int)))])
   (fun _=>[(1,.vec 5 (cells p) p.length false),(0,.vec 39 (cells (Num.limbs n k)) (Num.limbs n k).length true)]) 2 (fun j=>j≤p.length) (fun j=>p.length-j) 0 (by omega) (by omega) ⟨Nat.le_refl _,?_,?_⟩ ?_
  ·repeat (first|exact Ad.nil|refine Ad.same trivial rfl ?_|refine Ad.same (Ac rfl) rfl ?_|refine Ad.same ⟨trivial,Ac rfl,Ac rfl,Ac rfl,trivial⟩ rfl ?_|refine Ad.same ⟨trivial,Ac rfl,Ac rfl,trivial⟩ rfl ?_|refine Ad.same ⟨trivial,trivial⟩ rfl ?_|refine Ad.cons trivial rfl (.of_eq (Au (by simp<;>omega))) ?_)
  ·repeat (first|exact Aj.nil|(refine Aj.cons (Ac rfl) ?_ rfl ?_ ?_;(first|exact trivial|exact AV.Ah _ _|(simp [HB.under,AV.under,PV.under]));(first|exact Bq.refl _|exact Bq.vec (Bl.refl _) (by simp))))
  intro j hj
  have hv:=hpv j hj
  by_cases hlj:j<p.length
  ·have hd2:=hdig j hlj
   repeat' (first|apply Ae.AA|apply Ae.region|apply Ae.Aq|apply Ae.Ai|apply AO.normal|apply AL.normal|apply Ag.nil|apply Ag.one|(apply Aa.assign;rfl)|(apply Aa.move;rfl)|(apply Aa.Bz;rfl;rfl;omega)|(apply Aa.zS (c:=48);rfl;rfl;omega)|(apply Aa.sK;rfl;rfl;omega)|(apply Aa.zK (a:=10);rfl;rfl;omega)|(apply Aa.int;rfl;rfl;rfl)|(apply Aa.Dl;rfl;rfl;omega;rfl)|(apply Aa.Dc;rfl;rfl;rfl;rfl;omega)|(apply Aa.TF;rfl;rfl;rfl;rfl;omega)|(apply Ae.Af;rfl)|(intro _;try (exfalso;omega)))
   refine Az.normal ⟨j+1,by omega,by omega,⟨by omega,?_,?_⟩⟩
   ·rw [Num.parse_snoc' p j hlj];repeat (first|exact Ad.nil|refine Ad.same trivial rfl ?_|refine Ad.same (Ac rfl) rfl ?_|refine Ad.same ⟨trivial,Ac rfl,Ac rfl,Ac rfl,trivial⟩ rfl ?_|refine Ad.same ⟨trivial,Ac rfl,Ac rfl,trivial⟩ rfl ?_|refine Ad.same ⟨trivial,trivial⟩ rfl ?_|refine Ad.cons trivial rfl (.of_eq (Au (by simp<;>omega))) ?_)
   ·repeat (first|exact Aj.nil|(refine Aj.cons (Ac rfl) ?_ rfl ?_ ?_;(first|exact trivial|exact AV.Ah _ _|(simp [HB.under,AV.under,PV.under]));(first|exact Bq.refl _|exact Bq.vec (Bl.refl _) (by simp))))
  ·have hjp:j=p.length:=by omega
   subst hjp
   repeat' (first|apply Ae.AA|apply Ae.region|apply Ae.A8|apply AO.normal|apply AL.normal|apply AL.exit|apply Az.exit|apply Ag.nil|apply Ag.one|(apply Aa.Dp (a:=(Num.parse (p.take p.length)));rfl;rfl;rfl;rfl;rfl;rfl;rfl;rfl;(intro _ h;cases h);rfl;rfl;rfl;decide;decide;(first|omega|(simp only [List.length_take,List.length_drop,List.length_append,List.length_singleton,List.length_cons,List.length_nil]<;>omega)))|(apply Aa.assign;rfl)|(apply Aa.move;rfl)|(apply Aa.Ir;rfl;rfl;omega)|(apply Aa.int;rfl;rfl;rfl)|(apply Aa.buildSlice;rfl;rfl;rfl;decide;rfl;rfl;rfl)|(apply Ae.Af;rfl)|(intro _;try (exfalso;omega)))
   have e1:Num.limbs n k++[Num.parse (p.take p.length)]=Num.limbs n (k+1):=by rw [List.take_length,a1f,Num.limbs]
   have e2:(Num.limbs n (k+1)).length=(Num.limbs n k).length+1:=by rw [Num.KZ,Num.KZ]
   refine Az.normal ⟨k+1,by omega,by omega,⟨by omega,?_,?_⟩⟩
   ·rw [e2,show (K:Int)-9*((k+1:Nat):Int)=(K:Int)-9*(k:Int)-9 by omega];repeat (first|exact Ad.nil|refine Ad.same trivial rfl ?_|refine Ad.same (Ac rfl) rfl ?_|refine Ad.same ⟨trivial,Ac rfl,Ac rfl,Ac rfl,trivial⟩ rfl ?_|refine Ad.same ⟨trivial,Ac rfl,Ac rfl,trivial⟩ rfl ?_|refine Ad.same ⟨trivial,trivial⟩ rfl ?_|refine Ad.cons trivial rfl (.of_eq (Au (by simp<;>omega))) ?_)
   ·rw [e2,← e1];repeat (first|exact Aj.nil|(refine Aj.cons (Ac rfl) ?_ rfl ?_ ?_;(first|exact trivial|exact AV.Ah _ _|(simp [HB.under,AV.under,PV.under]));(first|exact Bq.refl _|exact Bq.vec (Bl.refl _) (by simp))))
 ·have htr:=X0 (Num.limbs n k) (by omega)
  repeat' (first|(refine Ae.at 12 ?_;refine Ae.ghost (AX.freeze 3 rfl rfl) ?_;first|apply Ae.AA|apply Ae.BA)|apply Ae.assoc|apply Ae.AA|apply Ae.A8|apply AO.normal|apply AL.exit|apply Az.exit|apply Ae.ret|apply Ag.nil|apply Ag.one|(apply Aa.fn;rfl;rfl;exact htr;intro _;rfl)|(apply Aa.assign;rfl)|(apply Aa.move;rfl)|(apply Aa.int;rfl;rfl;rfl)|(apply Ae.Af;rfl)|(intro _;try (exfalso;omega)))
  ·refine Done.ret rfl (.refl _) (by first|exact trivial|exact ⟨trivial,trivial,trivial⟩|exact ⟨trivial,trivial,trivial,trivial⟩) Aj.nil (Nat.zero_le _) (Nat.le_refl _) ⟨?_,rfl,rfl⟩
   rw [Num.jD]
   rw [show Num.B9 ^ k=10 ^ (9*k) by rw [Nat.pow_mul]]
   exact Nat.lt_of_lt_of_le (Lib.lt_pow_nDigits n) (Nat.pow_le_pow_right (by decide) (by omega))
end Go.Proofs.YtdabojnmoejilaaGreatDoor
namespace Go.Proofs.YtdabojnmoejilaaGreatDoor
open Go Go.Am Go.Vm
attribute [local irreducible] Aa Ag Ak Ae BH AZ CW AO AL Az Vm.Done Di Bv
theorem vI {L:Vm.Frame} {H:Vm.Heap} {nx:Nat} {Q:PV→Vm.Heap→Nat→Prop} {dst:Option Tmp} {ty:TypeId} {pos:String} {af:Array Edge} {gd:Option (Nat×Bool)} {fo:Operand} {args:Array Operand} {aT:Array TypeId} {fs cs xs:List PV} {c:Code}
 (hf:BG env.Γ L fo=some (.clo 134 fs cs)) (ha:evs env.Γ L args.toList=some xs) (hb:Tryz.f134.body=some c) (hn:(fs++xs++cs).length≤Tryz.f134.ntmps)
 (h:Ae env nx c (CQ 0 (fs++xs++cs)) H nx (Bv env.P Tryz.f134.results.toList Q)):Aa env true ⟨dst,.call { callee:=.value fo,args:=args,argTypes:=aT },ty,pos,af,gd⟩ L H nx Q:=by
 have h0:(match Tryz.f134.body with|some c=>H6 env.G Tryz.f134 c|none=>false)=true:=by kernel_rfl
 rw [hb] at h0
 exact Aa.inline rfl hf ha (AB (by decide)) Tryz.func134 hb h0 hn h
theorem vg {L:Vm.Frame} {H:Vm.Heap} {nx:Nat} {Q:PV→Vm.Heap→Nat→Prop} {dst:Option Tmp} {ty:TypeId} {pos:String} {af:Array Edge} {gd:Option (Nat×Bool)} {fo:Operand} {args:Array Operand} {aT:Array TypeId} {fs cs xs:List PV} {c:Code}
 (hf:BG env.Γ L fo=some (.clo 133 fs cs)) (ha:evs env.Γ L args.toList=some xs) (hb:Tryz.f133.body=some c) (hn:(fs++xs++cs).length≤Tryz.f133.ntmps)
 (h:Ae env nx c (CQ 0 (fs++xs++cs)) H nx (Bv env.P Tryz.f133.results.toList Q)):Aa env true ⟨dst,.call { callee:=.value fo,args:=args,argTypes:=aT },ty,pos,af,gd⟩ L H nx Q:=by
 have h0:(match Tryz.f133.body with|some c=>H6 env.G Tryz.f133 c|none=>false)=true:=by kernel_rfl
 rw [hb] at h0
 exact Aa.inline rfl hf ha (AB (by decide)) Tryz.func133 hb h0 hn h
theorem Z7 {L:Vm.Frame} {H:Vm.Heap} {nx:Nat} {Q:PV→Vm.Heap→Nat→Prop} {dst:Option Tmp} {ty:TypeId} {pos:String} {af:Array Edge} {gd:Option (Nat×Bool)} {fo:Operand} {args:Array Operand} {aT:Array TypeId} {fs cs xs:List PV} {c:Code}
 (hf:BG env.Γ L fo=some (.clo 143 fs cs)) (ha:evs env.Γ L args.toList=some xs) (hb:Tryz.f143.body=some c) (hn:(fs++xs++cs).length≤Tryz.f143.ntmps)
 (h:Ae env nx c (CQ 0 (fs++xs++cs)) H nx (Bv env.P Tryz.f143.results.toList Q)):Aa env true ⟨dst,.call { callee:=.value fo,args:=args,argTypes:=aT },ty,pos,af,gd⟩ L H nx Q:=by
 have h0:(match Tryz.f143.body with|some c=>H6 env.G Tryz.f143 c|none=>false)=true:=by kernel_rfl
 rw [hb] at h0
 exact Aa.inline rfl hf ha (AB (by decide)) Tryz.func143 hb h0 hn h
theorem aQ (n:Nat):¬ (List.take 1 (Lib.decDigits n)=[45]):=fun h=>by
 have h1:=Num.Ja n 45 (List.mem_of_mem_take (by rw [h];simp))
 have:(45:UInt8).toNat=45:=rfl
 omega
theorem l9 (n:Nat):0<(Lib.decDigits n).length:=by rw [Lib.decDigits_length];exact Lib.nDigits_pos n
theorem yY {a b:Nat} (h:Lib.decDigits a=Lib.decDigits b):a=b:=by
 have h1:Lib.nDigits a=Lib.nDigits b:=by rw [← Lib.decDigits_length,← Lib.decDigits_length,h]
 rw [Num.Em,Num.Em,h1] at h
 have:=congrArg Num.parse h
 rw [Num.Qp,Num.Qp,Nat.mod_eq_of_lt (by rw [← h1];exact Lib.lt_pow_nDigits a),Nat.mod_eq_of_lt (Lib.lt_pow_nDigits b)] at this
 exact this
theorem rJ (a:Nat):Lib.decDigits a=[48]↔a=0:=by
 have:Lib.decDigits 0=[48]:=by rw [Lib.decDigits_one (by decide)];rfl
 rw [← this]
 exact ⟨yY,fun h=>by rw [h]⟩
theorem nV (n:Nat):Num.parse (Lib.decDigits n)=n:=by
 rw [Num.Em,Num.Qp,Nat.mod_eq_of_lt (Lib.lt_pow_nDigits n)]
theorem vM (n:Nat):AZ env 117 [.str (bs (Lib.decDigits n)),.str (bs [45])] (.Fp [st (Lib.decDigits n),.p (.bool false)]):=by
 refine AZ.enter (AB (by decide)) Tryz.func117 rfl (by kernel_rfl) (by simp [Tryz.ntmps117]) ?_
 have h1:=aQ n
 have h2:=l9 n
 repeat' (first|apply Ae.assoc|apply Ae.AA|apply Ae.Aq|apply Ae.BU|(apply Bv.ret;rfl)|apply Ae.ret|apply Ag.nil|apply Ag.one|(apply Ag.take;rfl;rfl)|(apply Ag.drop;rfl;rfl;rfl)|(apply Ag.guard;rfl;rfl)|(apply vI;rfl;rfl;rfl;exact le_dec rfl)|(apply Z7;rfl;rfl;rfl;exact le_dec rfl)|(apply Aa.assign;rfl)|(apply Aa.move;rfl)|(apply Aa.int;rfl;rfl;rfl)|(apply Aa.BJ;rfl;rfl)|(apply Aa.AQ;rfl;rfl)|(apply Aa.Kw;rfl;rfl)|(apply Aa.eqS;rfl;rfl)|(apply Aa.fG;rfl;rfl;rfl;omega)|(apply Aa.iG;rfl;rfl;rfl;omega)|(apply Aa.not;rfl)|(apply Aa.extract;rfl;rfl)|(apply Ae.Bg;rfl)|(apply Ae.QC;rfl)|(intro _;try (exfalso;omega)))
 ·refine Done.ret rfl (.refl _) (by first|exact trivial|exact ⟨trivial,trivial,trivial⟩|exact ⟨trivial,trivial,trivial,trivial⟩) Aj.nil (Nat.zero_le _) (Nat.le_refl _) ⟨?_,rfl,rfl⟩
  rfl
 ·exfalso;simp_all
 ·exfalso;simp_all;omega
theorem cut_spec' (n:Nat):AZ env 117 [.str (bs (Lib.decDigits n)),.str ⟨#[45]⟩] (.Fp [st (Lib.decDigits n),.p (.bool false)]):=vM n
theorem PG (n:Nat) (hn:Lib.nDigits n<900000):AZ env 110 [.str (bs (Lib.decDigits n))] (.Fp [lst 39 (Num.OI n),.p (.bool false)]):=by
 refine AZ.enter (AB (by decide)) Tryz.func110 rfl (by kernel_rfl) (by simp [Tryz.ntmps110]) ?_
 repeat' (first|apply Ae.AA|apply Ae.ret|apply Ag.nil|apply Ag.one|(apply Aa.fn;rfl;rfl;exact cut_spec' n;intro _;rfl)|(apply Aa.fn;rfl;rfl;exact nM n hn;intro _;rfl)|(apply Aa.assign;rfl)|(apply Aa.move;rfl)|(apply Aa.extract;rfl;rfl))
 ·refine Done.ret rfl (.refl _) (by first|exact trivial|exact ⟨trivial,trivial,trivial⟩|exact ⟨trivial,trivial,trivial,trivial⟩) Aj.nil (Nat.zero_le _) (Nat.le_refl _) ⟨?_,rfl,rfl⟩
  rfl
theorem Uf (n:Nat) (hn:(Num.OI n).length<1000000):AZ env 113 [.lst 39 (cells (Num.OI n)) (Num.OI n).length,.bool false] (st (Lib.decDigits n)):=by
 refine AZ.enter (AB (by decide)) Tryz.func113 rfl (by kernel_rfl) (by simp [Tryz.ntmps113]) ?_
 have ht:=aK (Num.OI n) (Num.Ku n) (by omega)
 rw [Num.Yj] at ht
 repeat' (first|apply Ae.assoc|apply Ae.AA|apply Ae.Aq|apply Ae.ret|apply Ag.nil|apply Ag.one|(apply Ag.drop;rfl;rfl;rfl)|(apply Aa.fn;rfl;rfl;exact ht;intro _;rfl)|(apply Aa.assign;rfl)|(apply Aa.move;rfl)|(apply Aa.AQ;rfl;rfl)|(apply Ae.Ar;rfl))
 ·refine Done.ret rfl (.refl _) (by first|exact trivial|exact ⟨trivial,trivial,trivial⟩|exact ⟨trivial,trivial,trivial,trivial⟩) Aj.nil (Nat.zero_le _) (Nat.le_refl _) ⟨?_,rfl,rfl⟩
  rfl
theorem YV (n:Int) (h:-9223372036854775808≤n∧n≤9223372036854775807):AZ env 97 [.int .i64 n] (st (Lib.itoa n)):=by
 refine AZ.enter (AB (by decide)) Tryz.func97 rfl (by kernel_rfl) (by simp [Tryz.ntmps97]) ?_
 repeat' (first|apply Ae.AA|apply Ae.ret|apply Ag.nil|apply Ag.one|(apply Aa.fn;rfl;rfl;exact tu n h;intro _;rfl)|(apply Aa.assign;rfl)|(apply Aa.move;rfl))
 ·refine Done.ret rfl (.refl _) (by first|exact trivial|exact ⟨trivial,trivial,trivial⟩|exact ⟨trivial,trivial,trivial,trivial⟩) Aj.nil (Nat.zero_le _) (Nat.le_refl _) ⟨?_,rfl,rfl⟩
  rfl
theorem fC (n:Nat):Lib.itoa (n:Int)=Lib.decDigits n:=by simp [Lib.itoa]
theorem V9 (n g:Nat) (hg:g≤18):AZ env 115 [.str (bs (Lib.decDigits n)),.int .i64 (g:Int)] (.Fp [.p (.int .i64 ((if Lib.nDigits n≤g then n else 0:Nat):Int)),.p (.bool (decide (Lib.nDigits n≤g)))]):=by
 refine AZ.enter (AB (by decide)) Tryz.func115 rfl (by kernel_rfl) (by simp [Tryz.ntmps115]) ?_
 have hl:=Lib.decDigits_length n
 by_cases hng:Lib.nDigits n≤g
 ·rw [if_pos hng,decide_eq_true hng]
  obtain ⟨d,hd⟩:∃ d,d=Lib.decDigits n:=⟨_,rfl⟩
  have hc:=cut_spec' n
  rw [← hd] at hl hc ⊢
  have hdig:∀ i,i<d.length→48≤(gi d i).toNat∧(gi d i).toNat≤57:=fun i hi=>bH (p:=fun c=>48≤c.toNat∧c.toNat≤57) (by rw [hd];exact Num.Ja n) i hi
  have hpv:∀ j,j≤d.length→Num.parse (d.take j)<1000000000000000000:=fun j hj=>by
   have h1:=Num.dX (d.take j) (fun c hc=>by
    have hm:=List.mem_of_mem_take hc
    rw [hd] at hm
    exact Num.Ja n c hm)
   rw [List.length_take,Nat.min_eq_left hj] at h1
   have h2:10 ^ j≤10 ^ 18:=Nat.pow_le_pow_right (by decide) (by omega)
   exact Nat.lt_of_lt_of_le h1 h2
  repeat' (first|apply Ae.assoc|apply Ae.AA|apply Ae.Aq|apply Ae.Ai|apply Ag.nil|apply Ag.one|(apply Aa.fn;rfl;rfl;exact hc;intro _;rfl)|(apply Aa.assign;rfl)|(apply Aa.move;rfl)|(apply Aa.int;rfl;rfl;rfl)|(apply Aa.lenV;rfl;rfl;rfl)|(apply Aa.Kw;rfl;rfl)|(apply Aa.lG;rfl;rfl;rfl;rfl;rfl;rfl;omega)|(apply Aa.extract;rfl;rfl)|(apply Ae.Af;rfl)|(intro _;try (exfalso;omega)))
  refine Ae.Ec (fun j:Nat=>[(7,.p (.bool false)),(8,.p (.int .i64 ((Num.parse (d.take j):Nat):Int))),(21,.vec 0 d.length 0 d.length),(22,.p (.int .i64 d.length)),(23,.p (.int .i64 (j:Int)))])
   (fun _=>[(0,.vec 5 (cells d) d.length false)]) 1 (fun j=>j≤d.length) (fun j=>d.length-j) 0 (by omega) (by omega) ⟨Nat.le_refl _,?_,?_⟩ ?_
  ·repeat (first|exact Ad.nil|refine Ad.same trivial rfl ?_|refine Ad.same (Ac rfl) rfl ?_|refine Ad.same ⟨trivial,Ac rfl,Ac rfl,Ac rfl,trivial⟩ rfl ?_|refine Ad.same ⟨trivial,Ac rfl,Ac rfl,trivial⟩ rfl ?_|refine Ad.same ⟨trivial,trivial⟩ rfl ?_|refine Ad.cons trivial rfl (.of_eq (Au (by simp<;>omega))) ?_)
  ·repeat (first|exact Aj.nil|(refine Aj.cons (Ac rfl) ?_ rfl ?_ ?_;(first|exact trivial|exact AV.Ah _ _|(simp [HB.under,AV.under,PV.under]));(first|exact Bq.refl _|exact Bq.vec (Bl.refl _) (by simp))))
  intro j hj
  have hv:=hpv j hj
  by_cases hlj:j<d.length
  ·have hd2:=hdig j hlj
   have hv2:=hpv (j+1) hlj
   rw [Num.parse_snoc' d j hlj] at hv2
   repeat' (first|apply Ae.AA|apply Ae.region|apply Ae.Aq|apply Ae.Ai|apply AO.normal|apply AL.normal|apply Ag.nil|apply Ag.one|(apply Aa.assign;rfl)|(apply Aa.move;rfl)|(apply Aa.Bz;rfl;rfl;omega)|(apply Aa.Iu;rfl;rfl;omega)|(apply Aa.zS (c:=48);rfl;rfl;omega)|(apply Aa.int;rfl;rfl;rfl)|(apply Aa.Dl;rfl;rfl;omega;rfl)|(apply Aa.Dc;rfl;rfl;rfl;rfl;omega)|(apply Aa.Hr;rfl;rfl;rfl;rfl;omega)|(apply Ae.Af;rfl)|(intro _;try (exfalso;omega)))
   refine Az.normal ⟨j+1,by omega,by omega,⟨by omega,?_,?_⟩⟩
   ·rw [Num.parse_snoc' d j hlj,Int.natCast_add,Int.natCast_mul];repeat (first|exact Ad.nil|refine Ad.same trivial rfl ?_|refine Ad.same (Ac rfl) rfl ?_|refine Ad.same ⟨trivial,Ac rfl,Ac rfl,Ac rfl,trivial⟩ rfl ?_|refine Ad.same ⟨trivial,Ac rfl,Ac rfl,trivial⟩ rfl ?_|refine Ad.same ⟨trivial,trivial⟩ rfl ?_|refine Ad.cons trivial rfl (.of_eq (Au (by simp<;>omega))) ?_)
   ·repeat (first|exact Aj.nil|(refine Aj.cons (Ac rfl) ?_ rfl ?_ ?_;(first|exact trivial|exact AV.Ah _ _|(simp [HB.under,AV.under,PV.under]));(first|exact Bq.refl _|exact Bq.vec (Bl.refl _) (by simp))))
  ·have hjp:j=d.length:=by omega
   subst hjp
   repeat' (first|apply Ae.assoc|apply Ae.AA|apply Ae.Aq|apply Ae.A8|apply AO.normal|apply AL.exit|apply Az.exit|apply Ae.ret|apply Ag.nil|apply Ag.one|(apply Aa.assign;rfl)|(apply Aa.move;rfl)|(apply Aa.int;rfl;rfl;rfl)|(apply Ae.Ar;rfl)|(apply Ae.Af;rfl)|(intro _;try (exfalso;omega)))
   ·refine Done.ret rfl (.refl _) (by first|exact trivial|exact ⟨trivial,trivial,trivial⟩|exact ⟨trivial,trivial,trivial,trivial⟩) Aj.nil (Nat.zero_le _) (Nat.le_refl _) ⟨?_,rfl,rfl⟩
    rw [List.take_length,hd,nV]
 ·rw [if_neg hng,decide_eq_false hng]
  repeat' (first|apply Ae.assoc|apply Ae.AA|apply Ae.BU|apply Ag.nil|apply Ag.one|(apply Aa.fn;rfl;rfl;exact cut_spec' n;intro _;rfl)|(apply Aa.assign;rfl)|(apply Aa.move;rfl)|(apply Aa.int;rfl;rfl;rfl)|(apply Aa.Kw;rfl;rfl)|(apply Aa.extract;rfl;rfl)|(apply Ae.Af;rfl)|(intro _;try (exfalso;omega)))
  ·refine Done.ret rfl (.refl _) (by first|exact trivial|exact ⟨trivial,trivial,trivial⟩|exact ⟨trivial,trivial,trivial,trivial⟩) Aj.nil (Nat.zero_le _) (Nat.le_refl _) ⟨?_,rfl,rfl⟩
   rfl
end Go.Proofs.YtdabojnmoejilaaGreatDoor
namespace Go.Proofs.YtdabojnmoejilaaGreatDoor
open Go Go.Am Go.Vm
attribute [local irreducible] Aa Ag Ak Ae BH AZ CW AO AL Az Vm.Done Di Bv
theorem Lj {x K:Nat} (h:x<10 ^ K) (hK:K<900000):(Num.OI x).length<200000:=by
 have h1:x<Num.B9 ^ (K / 9+1):=by
  refine Nat.lt_of_lt_of_le h ?_
  rw [show Num.B9 ^ (K / 9+1)=10 ^ (9*(K / 9+1)) by rw [Nat.pow_mul]]
  exact Nat.pow_le_pow_right (by decide) (by omega)
 have:=Num.iF x (K / 9+1) h1
 omega
theorem yK (e i:Nat):e &&& 2 ^ i=if e / 2 ^ i % 2=1 then 2 ^ i else 0:=by
 apply Nat.eq_of_testBit_eq
 intro j
 have hi:e.testBit i=decide (e / 2 ^ i % 2=1):=Nat.testBit_eq_decide_div_mod_eq
 rw [Nat.testBit_and,Nat.testBit_two_pow]
 by_cases hij:i=j
 ·subst hij
  rw [hi]
  by_cases h:e / 2 ^ i % 2=1
  ·rw [if_pos h,Nat.testBit_two_pow];simp [h]
  ·rw [if_neg h];simp [h]
 ·by_cases h:e / 2 ^ i % 2=1
  ·rw [if_pos h,Nat.testBit_two_pow];simp [hij]
  ·rw [if_neg h];simp [hij]
theorem VH (n e:Nat) (he:e≤6000) (hne:e*Lib.nDigits n≤24000) (hn:Lib.nDigits n<100000):AZ env 96 [.str (bs (Lib.decDigits n)),.int .i64 (e:Int)] (.Fp [st (Lib.decDigits (n ^ e)),.p (.int .i64 0)]):=by
 refine AZ.enter (AB (by decide)) Tryz.func96 rfl (by kernel_rfl) (by simp [Tryz.ntmps96]) ?_
 have hlt:=Lib.lt_pow_nDigits n
 have hnl:=Lj hlt (by omega)
 obtain ⟨K,hK⟩:∃ K:Nat,K=24000:=⟨_,rfl⟩
 rw [← hK] at hne
 have iZ:∀ k,k≤e→(Num.OI (n ^ k)).length<200000:=fun k hk=>by
  refine Lj (K:=K) ?_ (by omega)
  have h1:n ^ k≤(10 ^ Lib.nDigits n) ^ k:=Nat.pow_le_pow_left (Nat.le_of_lt hlt) k
  rw [← Nat.pow_mul] at h1
  rcases Nat.eq_zero_or_pos k with h0|h0
  ·rw [h0,Nat.pow_zero];exact Nat.one_lt_pow (by omega) (by decide)
  ·have h2:n ^ k<(10 ^ Lib.nDigits n) ^ k:=Nat.pow_lt_pow_left hlt (by omega)
   rw [← Nat.pow_mul] at h2
   refine Nat.lt_of_lt_of_le h2 (Nat.pow_le_pow_right (by decide) ?_)
   have:=Nat.mul_le_mul_left (Lib.nDigits n) hk
   rw [Nat.mul_comm (Lib.nDigits n) e] at this
   omega
 have htx:=aK (Num.OI n) (Num.Ku n) (by omega)
 rw [Num.Yj] at htx
 have hdl:=Lib.decDigits_length n
 have hmul:(e:Int)*((Lib.decDigits n).length:Int)≤24000:=by rw [hK] at hne;rw [hdl];exact_mod_cast hne
 have a9j:(0:Int)≤(e:Int)*((Lib.decDigits n).length:Int):=by rw [hdl,← Int.natCast_mul];omega
 repeat' (first|apply Ae.assoc|apply Ae.AA|apply Ae.Aq|apply Ae.Ai|apply Ag.nil|apply Ag.one|(apply Ag.take;rfl;rfl)|(apply Aa.fn;rfl;rfl;exact PG n (by omega);intro _;rfl)|(apply Aa.fn;rfl;rfl;exact htx;intro _;rfl)|(apply Aa.assign;rfl)|(apply Aa.move;rfl)|(apply Aa.Iu;rfl;rfl;omega)|(apply Aa.int;rfl;rfl;rfl)|(apply Aa.AQ;rfl;rfl)|(apply Aa.buildSlice;rfl;rfl;rfl;decide;rfl;rfl;rfl)|(apply Aa.Kw;rfl;rfl)|(apply Aa.extract;rfl;rfl)|(apply Ae.Af;rfl)|(intro _;try (exfalso;omega)))
 refine Ae.ghost (AX.freeze 8 rfl rfl) ?_
 have one:Num.OI 1=[1]:=by rw [Num.LJ (by decide),show 1 / Num.B9=0 by decide,Num.Ic];rfl
 have e14:e / 2 ^ 14=0:=Nat.div_eq_of_lt (by omega)
 refine Ae.Ec (fun b:Nat=>[(1,.p (.int .i64 (e:Int))),(6,lst 39 (Num.OI n)),(7,.p (.bool false)),(8,lst 39 (Num.OI (n ^ (e / 2 ^ b)))),(9,.p (.int .i64 ((2 ^ b / 2:Nat):Int)))]) (fun _=>[]) 1 (fun b=>b≤14) (fun b=>b) 14 (by omega) (by omega) ⟨Nat.le_refl _,?_,?_⟩ ?_
 ·rw [e14,Nat.pow_zero,one];repeat (first|exact Ad.nil|refine Ad.same trivial rfl ?_|refine Ad.same (Ac rfl) rfl ?_|refine Ad.same ⟨trivial,Ac rfl,Ac rfl,Ac rfl,trivial⟩ rfl ?_|refine Ad.same ⟨trivial,Ac rfl,Ac rfl,trivial⟩ rfl ?_|refine Ad.same ⟨trivial,trivial⟩ rfl ?_|refine Ad.cons trivial rfl (.of_eq (Au (by simp<;>omega))) ?_)
 ·exact Aj.nil
 intro b hb
 rcases Nat.eq_zero_or_pos b with hb0|hb0
 ·subst hb0
  have hlen:=iZ e (Nat.le_refl _)
  have hs:=Uf (n ^ e) (by omega)
  rw [Nat.pow_zero,Nat.div_one]
  repeat' (first|apply Ae.assoc|apply Ae.AA|apply Ae.A8|apply AO.normal|apply AL.exit|apply Az.exit|apply Ae.ret|apply Ag.nil|apply Ag.one|(apply Ag.drop;rfl;rfl;rfl)|(apply Aa.fn;rfl;rfl;exact hs;intro _;rfl)|(apply Aa.assign;rfl)|(apply Aa.move;rfl)|(apply Aa.int;rfl;rfl;rfl)|(apply Aa.AQ;rfl;rfl)|(apply Ae.Ar;rfl))
  ·(refine Done.ret rfl (.refl _) (by first|exact trivial|exact ⟨trivial,trivial,trivial⟩|exact ⟨trivial,trivial,trivial,trivial⟩) Aj.nil (Nat.zero_le _) (Nat.le_refl _) ⟨?_,rfl,rfl⟩;try rfl)
 ·obtain ⟨i,rfl⟩:∃ i,b=i+1:=⟨b-1,by omega⟩
  have hp1:2 ^ (i+1) / 2=2 ^ i:=by rw [Nat.pow_succ,Nat.mul_div_cancel _ (by decide)]
  have hp0:0<2 ^ i:=Nat.pow_pos (by decide)
  have b0m:2 ^ i≤2 ^ 13:=Nat.pow_le_pow_right (by decide) (by omega)
  rw [hp1]
  have hle:e / 2 ^ (i+1)≤e:=Nat.div_le_self _ _
  have h1:=Pm (Num.OI (n ^ (e / 2 ^ (i+1)))) (Num.OI (n ^ (e / 2 ^ (i+1)))) (Num.Ku _) (Num.Ku _) (by have:=iZ _ hle;omega) (by have:=iZ _ hle;omega)
  rw [Num.Qy] at h1
  have hle2:e / 2 ^ (i+1)+e / 2 ^ (i+1)≤e:=by
   have h2:e / 2 ^ (i+1)*2 ^ (i+1)≤e:=Nat.div_mul_le_self _ _
   have h3:e / 2 ^ (i+1)*2≤e / 2 ^ (i+1)*2 ^ (i+1):=Nat.mul_le_mul_left _ (by rw [Nat.pow_succ];omega)
   omega
  have h2:=Pm (Num.OI (n ^ (e / 2 ^ (i+1))*n ^ (e / 2 ^ (i+1)))) (Num.OI n) (Num.Ku _) (Num.Ku _) (by rw [← Nat.pow_add];have:=iZ _ hle2;omega) (by omega)
  rw [Num.Qy,Num.Qy] at h2
  have hbit:=Num.xU n e i
  have hand:=yK e i
  by_cases hb1:e / 2 ^ i % 2=1
  ·rw [if_pos hb1] at hbit hand
   repeat' (first|apply Ae.assoc|apply Ae.AA|apply Ae.region|apply Ae.Aq|apply Ae.Ai|apply AO.normal|apply AL.normal|apply Ag.nil|apply Ag.one|(apply Aa.fn;rfl;rfl;exact h1;intro _;rfl)|(apply Aa.fn;rfl;rfl;exact h2;intro _;rfl)|(apply Aa.assign;rfl)|(apply Aa.move;rfl)|(apply Aa.a3c;rfl;rfl;omega)|(apply Aa.int;rfl;rfl;rfl)|(apply Aa.VI;rfl;rfl;(simp only [IntKind.bits];omega))|(apply Ae.Af;rfl)|(apply Ae.AY;rfl)|(intro _;try (exfalso;omega)))
   all_goals try (exfalso;rename_i hx;rw [hand] at hx;omega)
   refine Az.normal ⟨i,by omega,by omega,⟨by omega,?_,?_⟩⟩
   ·rw [← hbit];repeat (first|exact Ad.nil|refine Ad.same trivial rfl ?_|refine Ad.same (Ac rfl) rfl ?_|refine Ad.same ⟨trivial,Ac rfl,Ac rfl,Ac rfl,trivial⟩ rfl ?_|refine Ad.same ⟨trivial,Ac rfl,Ac rfl,trivial⟩ rfl ?_|refine Ad.same ⟨trivial,trivial⟩ rfl ?_|refine Ad.cons trivial rfl (.of_eq (Au (by simp<;>omega))) ?_)
   ·exact Aj.nil
  ·rw [if_neg hb1,Nat.mul_one] at hbit
   rw [if_neg hb1] at hand
   repeat' (first|apply Ae.assoc|apply Ae.AA|apply Ae.region|apply Ae.Aq|apply Ae.Ai|apply AO.normal|apply AL.normal|apply Ae.skip|apply Ag.nil|apply Ag.one|(apply Aa.fn;rfl;rfl;exact h1;intro _;rfl)|(apply Aa.assign;rfl)|(apply Aa.move;rfl)|(apply Aa.a3c;rfl;rfl;omega)|(apply Aa.int;rfl;rfl;rfl)|(apply Aa.VI;rfl;rfl;(simp only [IntKind.bits];omega))|(apply Ae.Af;rfl)|(apply Ae.AY;rfl)|(intro _;try (exfalso;omega)))
   all_goals try (exfalso;rename_i hx;rw [hand] at hx;omega)
   refine Az.normal ⟨i,by omega,by omega,⟨by omega,?_,?_⟩⟩
   ·rw [← hbit];repeat (first|exact Ad.nil|refine Ad.same trivial rfl ?_|refine Ad.same (Ac rfl) rfl ?_|refine Ad.same ⟨trivial,Ac rfl,Ac rfl,Ac rfl,trivial⟩ rfl ?_|refine Ad.same ⟨trivial,Ac rfl,Ac rfl,trivial⟩ rfl ?_|refine Ad.same ⟨trivial,trivial⟩ rfl ?_|refine Ad.cons trivial rfl (.of_eq (Au (by simp<;>omega))) ?_)
   ·exact Aj.nil
theorem au (a b:Nat) (ha:Lib.nDigits a<400000) (hb:Lib.nDigits b<400000):AZ env 98 [.str (bs (Lib.decDigits a)),.str (bs (Lib.decDigits b))] (st (Lib.decDigits (a*b))):=by
 refine AZ.enter (AB (by decide)) Tryz.func98 rfl (by kernel_rfl) (by simp [Tryz.ntmps98]) ?_
 have qa:=V9 a 9 (by decide)
 have qb:=V9 b 9 (by decide)
 have la:=Lib.lt_pow_nDigits a
 have lb:=Lib.lt_pow_nDigits b
 have hla:=Lj la (by omega)
 have hlb:=Lj lb (by omega)
 have ht:=Pm (Num.OI a) (Num.OI b) (Num.Ku _) (Num.Ku _) (by omega) (by omega)
 rw [Num.Qy,Num.Qy] at ht
 have hlab:(Num.OI (a*b)).length<200000:=Lj (K:=Lib.nDigits a+Lib.nDigits b) (by
  rw [Nat.pow_add]
  exact Nat.mul_lt_mul_of_lt_of_le la (Nat.le_of_lt lb) (Nat.pow_pos (by decide))) (by omega)
 have hs:=Uf (a*b) (by omega)
 by_cases h9:Lib.nDigits a≤9∧Lib.nDigits b≤9
 ·rw [if_pos h9.1,decide_eq_true h9.1] at qa
  rw [if_pos h9.2,decide_eq_true h9.2] at qb
  have ha9:a<1000000000:=Nat.lt_of_lt_of_le la (Nat.pow_le_pow_right (n:=10) (by decide) h9.1)
  have hb9:b<1000000000:=Nat.lt_of_lt_of_le lb (Nat.pow_le_pow_right (n:=10) (by decide) h9.2)
  have hab:a*b≤999999999*999999999:=Nat.mul_le_mul (by omega) (by omega)
  have a0l:(a:Int)*(b:Int)=((a*b:Nat):Int):=(Int.natCast_mul a b).symm
  have ho:=YV ((a:Int)*(b:Int)) (by rw [a0l];omega)
  have h2:-9223372036854775808≤(a:Int)*(b:Int)∧(a:Int)*(b:Int)<9223372036854775808:=by rw [a0l];omega
  repeat' (first|apply Ae.assoc|apply Ae.AA|apply Ae.BU|apply Ag.nil|apply Ag.one|(apply Aa.fn;rfl;rfl;exact qa;intro _;rfl)|(apply Aa.fn;rfl;rfl;exact qb;intro _;rfl)|(apply Aa.fn;rfl;rfl;exact ho;intro _;rfl)|(apply Aa.assign;rfl)|(apply Aa.move;rfl)|(apply Aa.Iu;rfl;rfl;omega)|(apply Aa.extract;rfl;rfl)|(apply Ae.Bg;rfl))
  ·refine Done.ret rfl (.refl _) (by first|exact trivial|exact ⟨trivial,trivial,trivial⟩|exact ⟨trivial,trivial,trivial,trivial⟩) Aj.nil (Nat.zero_le _) (Nat.le_refl _) ⟨?_,rfl,rfl⟩
   rw [a0l,fC]
 ·repeat' (first|apply Ae.assoc|apply Ae.AA|apply Ae.Aq|apply Ae.ret|apply Ag.nil|apply Ag.one|(apply Aa.fn;rfl;rfl;exact qa;intro _;rfl)|(apply Aa.fn;rfl;rfl;exact qb;intro _;rfl)|(apply Aa.fn;rfl;rfl;exact PG a (by omega);intro _;rfl)|(apply Aa.fn;rfl;rfl;exact PG b (by omega);intro _;rfl)|(apply Aa.fn;rfl;rfl;exact ht;intro _;rfl)|(apply Aa.fn;rfl;rfl;exact hs;intro _;rfl)|(apply Aa.assign;rfl)|(apply Aa.move;rfl)|(apply Aa.neB;rfl;rfl;rfl)|(apply Aa.extract;rfl;rfl)|(apply Ae.Af;rfl)|(intro _;try (exfalso;omega)))
  all_goals (refine Done.ret rfl (.refl _) (by first|exact trivial|exact ⟨trivial,trivial,trivial⟩|exact ⟨trivial,trivial,trivial,trivial⟩) Aj.nil (Nat.zero_le _) (Nat.le_refl _) ⟨?_,rfl,rfl⟩;try rfl)
theorem XJ (n:Nat):AZ env 116 [.str (bs (Lib.decDigits n))] (.p (.int .i64 (if n=0 then 0 else 1))):=by
 refine AZ.enter (AB (by decide)) Tryz.func116 rfl (by kernel_rfl) (by simp [Tryz.ntmps116]) ?_
 have h1:=aQ n
 have h2:=l9 n
 have h3:=rJ n
 repeat' (first|apply Ae.AA|apply Ae.Ai|apply AO.normal|apply AO.ret|(apply Bv.ret;rfl)|apply AL.normal|apply AL.ret|apply Ae.ret|apply Ae.skip|apply Ag.nil|apply Ag.one|(apply Ag.take;rfl;rfl)|(apply Ag.drop;rfl;rfl;rfl)|(apply Ag.guard;rfl;rfl)|(apply vg;rfl;rfl;rfl;exact le_dec rfl)|(apply Z7;rfl;rfl;rfl;exact le_dec rfl)|(apply Aa.assign;rfl)|(apply Aa.move;rfl)|(apply Aa.int;rfl;rfl;rfl)|(apply Aa.BJ;rfl;rfl)|(apply Aa.AQ;rfl;rfl)|(apply Aa.Kw;rfl;rfl)|(apply Aa.eqS;rfl;rfl)|(apply Aa.fG;rfl;rfl;rfl;omega)|(apply Ae.cond_false;rfl)|(apply Ae.AY;rfl)|(intro _;try (exfalso;omega)))
 all_goals first
  |(exfalso;simp_all;done)
  |(exfalso;simp_all;omega)
  |((refine Done.ret rfl (.refl _) (by first|exact trivial|exact ⟨trivial,trivial,trivial⟩|exact ⟨trivial,trivial,trivial,trivial⟩) Aj.nil (Nat.zero_le _) (Nat.le_refl _) ⟨?_,rfl,rfl⟩;try rfl);refine PV.int_eq ?_;first|(rw [if_pos (h3.1 (by assumption))];done)|(rw [if_neg (fun e=>by have:=h3.2 e;contradiction)];done))
theorem Vl:∀ (a b:List UInt8),-1≤Lib.compareBytes a b∧Lib.compareBytes a b≤1
 |[],[]=>by simp [Lib.compareBytes]
 |[],_::_=>by simp [Lib.compareBytes]
 |_::_,[]=>by simp [Lib.compareBytes]
 |a::as',b::bs'=>by
  simp only [Lib.compareBytes]
  have:=Vl as' bs'
  split
  ·omega
  ·split
   ·omega
   ·exact this
def XA (a b:Nat):Int:=if a<b then -1 else if b<a then 1 else 0
theorem yg {a b:Nat} (h:Lib.nDigits a=Lib.nDigits b):Lib.compareBytes (Lib.decDigits a) (Lib.decDigits b)=XA a b:=by
 rw [Num.Em,Num.Em,← h]
 exact Num.zA _ _ _ (Lib.lt_pow_nDigits a) (by rw [h];exact Lib.lt_pow_nDigits b)
theorem Y8 (a b:Nat) (ha:Lib.nDigits a<400000) (hb:Lib.nDigits b<400000):AZ env 99 [.str (bs (Lib.decDigits a)),.str (bs (Lib.decDigits b))] (.p (.int .i64 (XA a b))):=by
 refine AZ.enter (AB (by decide)) Tryz.func99 rfl (by kernel_rfl) (by simp [Tryz.ntmps99]) ?_
 have sa:=XJ a
 have sb:=XJ b
 have hla:=Lib.decDigits_length a
 have hlb:=Lib.decDigits_length b
 have hcb:=Vl (Lib.decDigits a) (Lib.decDigits b)
 have z1:Lib.nDigits 0=1:=Lib.nDigits_small (by decide)
 by_cases ha0:a=0<;>by_cases hb0:b=0
 ·rw [if_pos ha0] at sa
  rw [if_pos hb0] at sb
  have heq:Lib.nDigits a=Lib.nDigits b:=by rw [ha0,hb0]
  repeat' (first|apply Ae.AA|apply Ae.Ai|apply AO.normal|apply AL.normal|apply Ae.ret|apply Ae.skip|apply Ag.nil|apply Ag.one|(apply Aa.fn;rfl;rfl;exact sa;intro _;rfl)|(apply Aa.fn;rfl;rfl;exact sb;intro _;rfl)|(apply Aa.fn;rfl;rfl;exact cut_spec' a;intro _;rfl)|(apply Aa.fn;rfl;rfl;exact cut_spec' b;intro _;rfl)|(apply Aa.fn;rfl;rfl;exact TN _ _;intro _;rfl)|(apply Aa.assign;rfl)|(apply Aa.move;rfl)|(apply Aa.Iu;rfl;rfl;omega)|(apply Aa.int;rfl;rfl;rfl)|(apply Aa.Kw;rfl;rfl)|(apply Aa.extract;rfl;rfl)|(apply Ae.cond_false;rfl)|(apply Ae.AY;rfl)|(intro _;try (exfalso;omega)))
  all_goals first
   |(exfalso;omega)
   |((refine Done.ret rfl (.refl _) (by first|exact trivial|exact ⟨trivial,trivial,trivial⟩|exact ⟨trivial,trivial,trivial,trivial⟩) Aj.nil (Nat.zero_le _) (Nat.le_refl _) ⟨?_,rfl,rfl⟩;try rfl);refine PV.int_eq ?_;simp [XA,ha0,hb0];done)
 ·rw [if_pos ha0] at sa
  rw [if_neg hb0] at sb
  repeat' (first|apply Ae.AA|apply Ae.Ai|apply AO.ret|apply AL.ret|apply Ae.ret|apply Ag.nil|apply Ag.one|(apply Aa.fn;rfl;rfl;exact sa;intro _;rfl)|(apply Aa.fn;rfl;rfl;exact sb;intro _;rfl)|(apply Aa.assign;rfl)|(apply Aa.move;rfl)|(apply Aa.int;rfl;rfl;rfl)|(apply Ae.cond_true;rfl))
  all_goals first
   |(exfalso;omega)
   |((refine Done.ret rfl (.refl _) (by first|exact trivial|exact ⟨trivial,trivial,trivial⟩|exact ⟨trivial,trivial,trivial,trivial⟩) Aj.nil (Nat.zero_le _) (Nat.le_refl _) ⟨?_,rfl,rfl⟩;try rfl);refine PV.int_eq ?_;unfold XA;rw [if_pos (by omega)];done)
 ·rw [if_neg ha0] at sa
  rw [if_pos hb0] at sb
  repeat' (first|apply Ae.AA|apply Ae.Ai|apply AO.ret|apply AL.ret|apply Ae.ret|apply Ag.nil|apply Ag.one|(apply Aa.fn;rfl;rfl;exact sa;intro _;rfl)|(apply Aa.fn;rfl;rfl;exact sb;intro _;rfl)|(apply Aa.assign;rfl)|(apply Aa.move;rfl)|(apply Aa.int;rfl;rfl;rfl)|(apply Ae.cond_true;rfl)|(apply Ae.cond_false;rfl))
  all_goals first
   |(exfalso;omega)
   |((refine Done.ret rfl (.refl _) (by first|exact trivial|exact ⟨trivial,trivial,trivial⟩|exact ⟨trivial,trivial,trivial,trivial⟩) Aj.nil (Nat.zero_le _) (Nat.le_refl _) ⟨?_,rfl,rfl⟩;try rfl);refine PV.int_eq ?_;unfold XA;rw [if_neg (by omega),if_pos (by omega)];done)
 ·rw [if_neg ha0] at sa
  rw [if_neg hb0] at sb
  have hm1:Lib.nDigits a<Lib.nDigits b→a<b:=Num.QA
  have hm2:Lib.nDigits b<Lib.nDigits a→b<a:=Num.QA
  repeat' (first|apply Ae.AA|apply Ae.Ai|apply AO.normal|apply AO.ret|apply AL.normal|apply AL.ret|apply Ae.ret|apply Ae.skip|apply Ag.nil|apply Ag.one|(apply Aa.fn;rfl;rfl;exact sa;intro _;rfl)|(apply Aa.fn;rfl;rfl;exact sb;intro _;rfl)|(apply Aa.fn;rfl;rfl;exact cut_spec' a;intro _;rfl)|(apply Aa.fn;rfl;rfl;exact cut_spec' b;intro _;rfl)|(apply Aa.fn;rfl;rfl;exact TN _ _;intro _;rfl)|(apply Aa.assign;rfl)|(apply Aa.move;rfl)|(apply Aa.Iu;rfl;rfl;omega)|(apply Aa.int;rfl;rfl;rfl)|(apply Aa.Kw;rfl;rfl)|(apply Aa.neg;rfl;omega)|(apply Aa.extract;rfl;rfl)|(apply Ae.cond_false;rfl)|(apply Ae.AY;rfl)|(intro _;try (exfalso;omega)))
  ·(refine Done.ret rfl (.refl _) (by first|exact trivial|exact ⟨trivial,trivial,trivial⟩|exact ⟨trivial,trivial,trivial,trivial⟩) Aj.nil (Nat.zero_le _) (Nat.le_refl _) ⟨?_,rfl,rfl⟩;try rfl)
   refine PV.int_eq ?_
   have:=hm1 (by omega)
   unfold XA;rw [if_pos this]
  ·(refine Done.ret rfl (.refl _) (by first|exact trivial|exact ⟨trivial,trivial,trivial⟩|exact ⟨trivial,trivial,trivial,trivial⟩) Aj.nil (Nat.zero_le _) (Nat.le_refl _) ⟨?_,rfl,rfl⟩;try rfl)
   refine PV.int_eq ?_
   have:=hm2 (by omega)
   unfold XA;rw [if_neg (by omega),if_pos this]
  ·(refine Done.ret rfl (.refl _) (by first|exact trivial|exact ⟨trivial,trivial,trivial⟩|exact ⟨trivial,trivial,trivial,trivial⟩) Aj.nil (Nat.zero_le _) (Nat.le_refl _) ⟨?_,rfl,rfl⟩;try rfl)
   refine PV.int_eq ?_
   rw [Int.one_mul,yg (by omega)]
end Go.Proofs.YtdabojnmoejilaaGreatDoor
namespace Go.Vm
open Go.Am
theorem Qq {n:Int} (h0:n<0) (h:-18446744073709551616≤n):IntKind.u64.wrap n=n+18446744073709551616:=by
 have e:IntKind.u64.wrap n=n % 2^64:=by
  simp [IntKind.wrap,IntKind.signed,IntKind.bits]
  try omega
 rw [e]
 omega
section
variable {E:Env} {L:Frame} {H:Heap} {nx:Nat} {Q:PV→Heap→Nat→Prop} {w:Bool}
variable {dst:Option Tmp} {ty:TypeId} {pos:String} {af:Array Edge} {gd:Option (Nat×Bool)}
theorem Aa.a1c {s d:TypeId} {x:Operand} {k':IntKind} {n:Int} {sd:TypeDesc} (hx:BG E.Γ L x=some (.p (.int k' n))) (hs:E.P.underlying s=some sd) (hns:dR sd=true) (hd:E.P.underlying d=some (.int .u64)) (hn:n<0∧-18446744073709551616≤n) (q:Q (.p (.int .u64 (n+18446744073709551616))) H nx) :
 Aa E w ⟨dst,.convert s d x,ty,pos,af,gd⟩ L H nx Q:=Aa.UQ hx hs hns hd (by rw [Qq hn.1 hn.2];exact q)
theorem Aa.a7u {t:TypeId} {x:Operand} {a:Int} (hx:BG E.Γ L x=some (.p (.int .u64 a))) (h:0<a∧a<18446744073709551616) (q:Q (.p (.int .u64 (18446744073709551616-a))) H nx):Aa E w ⟨dst,.unOp .neg t x,ty,pos,af,gd⟩ L H nx Q :=
 Aa.quiet q fun m F σ tt c1 c2=>by
  refine ⟨.int .u64 (18446744073709551616-a),fun _=>?_,.p (.int _ _)⟩
  have hd:EG E.P (Op.unary .neg (.int .u64 a))=some (.int .u64 (18446744073709551616-a)):=by
   simp only [Op.unary,Op.intArith,Int.zero_sub,Qq (n:=-a) (by omega) (by omega)]
   rw [show -a+18446744073709551616=18446744073709551616-a by omega]
   rfl
  simp only [CZ,FI,Df c1 c2 hx]
  rw [show plain (Value.int IntKind.u64 a)=true from rfl]
  simp only [if_true,Ig hd rfl,Option.map_some]
theorem Aa.makeFunc {f:FuncId} {fs cs:Array Operand} {pf pc:List PV} (hf:evs E.Γ L fs.toList=some pf) (hc:evs E.Γ L cs.toList=some pc) (q:Q (.clo f pf pc) H nx):Aa E w ⟨dst,.makeFunc (.func f) fs cs,ty,pos,af,gd⟩ L H nx Q :=
 Aa.quiet q fun m F σ tt c1 c2=>by
  refine ⟨.func (.func f) (fs.toList.map (ev tt)).toArray (cs.toList.map (ev tt)).toArray,fun _=>?_,.clo (QN c1 c2 hf) (QN c1 c2 hc)⟩
  simp only [CZ,FI,Option.map_some,← Array.toList_map,Array.toArray_toList]
end
end Go.Vm
namespace Go.Proofs.YtdabojnmoejilaaGreatDoor
open Go Go.Am Go.Vm
attribute [local irreducible] Aa Ag Ak Ae BH AZ CW AO AL Az Vm.Done Di Bv
structure JB where
 num:Int
 den:Int
instance:Enc JB:={ default:=⟨0,0⟩,enc:=fun x=>[.int .i64 x.num,.int .i64 x.den],size:=2,len:=fun _=>rfl }
theorem WE (n:Int) (h:-9223372036854775808≤n∧n<9223372036854775808):AZ env 123 [.int .i64 n] (.p (.int .u64 ((n.natAbs:Nat):Int))):=by
 refine AZ.enter (AB (by decide)) Tryz.func123 rfl (by kernel_rfl) (by simp [Tryz.ntmps123]) ?_
 repeat' (first|apply Ae.assoc|apply Ae.AA|apply Ae.Aq|apply Ae.BU|apply Ae.ret|apply Ag.nil|apply Ag.one|(apply Aa.a1c;rfl;rfl;rfl;rfl;omega)|(apply Aa.a7u;rfl;omega)|(apply Aa.assign;rfl)|(apply Aa.move;rfl)|(apply Aa.int;rfl;rfl;rfl)|(apply Aa.TF;rfl;rfl;rfl;rfl;omega)|(apply Ae.Af;rfl)|(intro _;try (exfalso;omega)))
 all_goals (refine Done.ret rfl (.refl _) (by first|exact trivial|exact ⟨trivial,trivial,trivial⟩|exact ⟨trivial,trivial,trivial,trivial⟩) Aj.nil (Nat.zero_le _) (Nat.le_refl _) ⟨?_,rfl,rfl⟩;refine PV.int_eq ?_;omega)
theorem rQ (a b:Nat) (ha:a<18446744073709551616) (hb:b<18446744073709551616):AZ env 122 [.int .u64 (a:Int),.int .u64 (b:Int)] (.p (.int .u64 ((Nat.gcd a b:Nat):Int))):=by
 refine AZ.enter (AB (by decide)) Tryz.func122 rfl (by kernel_rfl) (by simp [Tryz.ntmps122]) ?_
 repeat' (first|apply Ae.AA|apply Ae.Ai|apply Ag.nil|apply Ag.one|(apply Aa.assign;rfl))
 refine Ae.Ec (fun s:Nat×Nat=>[(0,.p (.int .u64 (s.1:Int))),(1,.p (.int .u64 (s.2:Int)))]) (fun _=>[]) 0 (fun s=>s.1<18446744073709551616∧s.2<18446744073709551616∧Nat.gcd s.1 s.2=Nat.gcd a b) (fun s=>s.2) (a,b) (Nat.le_refl _) ⟨ha,hb,rfl⟩ ⟨Nat.le_refl _,?_,trivial⟩ ?_
 ·repeat (first|exact Ad.nil|refine Ad.same trivial rfl ?_|refine Ad.same (Ac rfl) rfl ?_|refine Ad.same ⟨trivial,Ac rfl,Ac rfl,Ac rfl,trivial⟩ rfl ?_|refine Ad.same ⟨trivial,Ac rfl,Ac rfl,trivial⟩ rfl ?_|refine Ad.same ⟨trivial,trivial⟩ rfl ?_|refine Ad.cons trivial rfl (.of_eq (Au (by simp<;>omega))) ?_)
 rintro ⟨x,y⟩ ⟨hx,hy,hg⟩
 simp only at hx hy hg
 have hmod:0<y→x % y<y:=fun h=>Nat.mod_lt _ h
 repeat' (first|apply Ae.assoc|apply Ae.AA|apply Ae.EZ|apply Ae.Aq|apply Ae.A8|apply AO.normal|apply AL.normal|apply AL.exit|apply Az.exit|apply Ae.ret|apply Ae.IE|apply Ag.nil|apply Ak.nil|apply Ag.one|(apply Ak.bar;decide +kernel)|(apply Aa.assign;rfl)|(apply Aa.move;rfl)|(apply Aa.zI;rfl;rfl;omega)|(apply Aa.int;rfl;rfl;rfl)|(apply Ae.Af;rfl)|(intro _;try (exfalso;omega)))
 ·rename_i h1
  have hy0:0<y:=by omega
  refine Az.normal ⟨(y,x % y),⟨hy,by have:=hmod hy0;omega,?_⟩,hmod hy0,⟨Nat.le_refl _,?_,trivial⟩⟩
  ·rw [← hg,Nat.gcd_comm x y,Nat.gcd_rec y x,Nat.gcd_comm]
  ·repeat (first|exact Ad.nil|refine Ad.same trivial rfl ?_|refine Ad.same (Ac rfl) rfl ?_|refine Ad.same ⟨trivial,Ac rfl,Ac rfl,Ac rfl,trivial⟩ rfl ?_|refine Ad.same ⟨trivial,Ac rfl,Ac rfl,trivial⟩ rfl ?_|refine Ad.same ⟨trivial,trivial⟩ rfl ?_|refine Ad.cons trivial rfl (.of_eq (Au (by simp<;>omega))) ?_)
 ·rename_i h1
  refine Done.ret rfl (.refl _) (by first|exact trivial|exact ⟨trivial,trivial,trivial⟩|exact ⟨trivial,trivial,trivial,trivial⟩) Aj.nil (Nat.zero_le _) (Nat.le_refl _) ⟨?_,rfl,rfl⟩
  have hy0:y=0:=by omega
  subst hy0
  rw [← hg,Nat.gcd_zero_right]
def qU (x:JB):Prop:=0<x.den∧x.den≤1000000∧-1000000≤x.num∧x.num≤1000000∧Nat.gcd x.num.natAbs x.den.toNat=1
instance (x:JB):Decidable (qU x):=by unfold qU;infer_instance
def yQ (x:JB):Int:=if qU x then 0 else 2
theorem dh (x:JB):AZ env 106 [.agg (Enc.enc x)] (.p (.int .i64 (yQ x))):=by
 refine AZ.enter (AB (by decide)) Tryz.func106 rfl (by kernel_rfl) (by simp [Tryz.ntmps106]) ?_
 have hd:0<x.den→((x.den.toNat:Nat):Int)=x.den:=fun h=>Int.toNat_of_nonneg (Int.le_of_lt h)
 have hg:0<x.den→x.den≤1000000→-1000000≤x.num→x.num≤1000000→AZ env 122 [.int .u64 ((x.num.natAbs:Nat):Int),.int .u64 x.den] (.p (.int .u64 ((Nat.gcd x.num.natAbs x.den.toNat:Nat):Int))):=fun h1 h2 h3 h4=>by
  have:=rQ x.num.natAbs x.den.toNat (by omega) (by omega)
  rwa [hd h1] at this
 repeat' (first|apply Ae.assoc|apply Ae.AA|apply Ae.BA|apply Ae.Aq|apply Ae.BU|apply Ae.ret|apply Ag.nil|apply Ak.nil|apply Ag.one|(apply Ak.bar;decide +kernel)|(apply Ak.Yz;rfl;rfl)|(apply Ak.drop;rfl;rfl;rfl)|(apply Ak.guard;rfl;rfl)|(apply Aa.fn;rfl;rfl;exact WE _ (by omega);intro _;rfl)|(apply Aa.fn;rfl;rfl;exact hg (by omega) (by omega) (by omega) (by omega);intro _;rfl)|(apply Aa.assign;rfl)|(apply Aa.move;rfl)|(apply Aa.int;rfl;rfl;rfl)|(apply Aa.load;rfl;rfl)|(apply Aa.BJ;rfl;rfl)|(apply Aa.AQ;rfl;rfl)|(apply Aa.AP;rfl;rfl;rfl)|(apply Aa.box;rfl;trivial)|(apply Aa.TF;rfl;rfl;rfl;rfl;omega)|(apply Ae.Bg;rfl)|(apply Ae.Af;rfl)|(intro _;try (exfalso;omega)))
 all_goals (refine Done.ret rfl (.refl _) (by first|exact trivial|exact ⟨trivial,trivial,trivial⟩|exact ⟨trivial,trivial,trivial,trivial⟩) Aj.nil (Nat.zero_le _) (Nat.le_refl _) ⟨?_,rfl,rfl⟩;refine PV.int_eq ?_;unfold yQ;first|(rw [if_neg (show ¬ qU x from fun h=>by unfold qU at h;omega)];done)|(rw [if_pos (show qU x from by unfold qU;omega)];done))
end Go.Proofs.YtdabojnmoejilaaGreatDoor
namespace Go.Proofs.YtdabojnmoejilaaGreatDoor
open Go Go.Am Go.Vm
attribute [local irreducible] Aa Ag Ak Ae BH AZ CW AO AL Az Vm.Done Di Bv
def oh (x:JB):Prop:=qU x∧0<x.num∧x.num≤128*x.den∧x.den≤128
instance (x:JB):Decidable (oh x):=by unfold oh;infer_instance
def OJ (x:JB):Int:=if ¬ qU x then 2 else if x.num≤0∨x.num>128*x.den then 3 else if x.den>128 then 4 else 0
theorem Ot {x:JB}:OJ x=0↔oh x:=by
 unfold OJ oh
 by_cases h1:qU x
 ·rw [if_neg (Classical.not_not.2 h1)]
  split
  ·constructor
   ·intro h;cases h
   ·rintro ⟨_,_,_,_⟩;omega
  ·split
   ·constructor
    ·intro h;cases h
    ·rintro ⟨_,_,_,_⟩;omega
   ·exact ⟨fun _=>⟨h1,by omega,by omega,by omega⟩,fun _=>rfl⟩
 ·rw [if_pos h1]
  exact ⟨fun h=>(by cases h),fun h=>absurd h.1 h1⟩
theorem Kt (x:JB):AZ env 86 [.agg (Enc.enc x)] (.p (.int .i64 (OJ x))):=by
 have hc:=dh x
 refine AZ.enter (AB (by decide)) Tryz.func86 rfl (by kernel_rfl) (by simp [Tryz.ntmps86]) ?_
 by_cases h1:qU x
 ·rw [show yQ x=0 from if_pos h1] at hc
  have h1':=h1
  obtain ⟨h2,h3,h4,h5,-⟩:=h1'
  have e:OJ x=if x.num≤0∨x.num>128*x.den then 3 else if x.den>128 then 4 else 0:=by unfold OJ;rw [if_neg (Classical.not_not.2 h1)]
  rw [e]
  repeat' (first|apply Ae.AA|apply Ae.Ai|apply AO.normal|apply AO.ret|apply AL.normal|apply AL.ret|apply Ae.ret|apply Ae.skip|apply Ag.nil|apply Ag.one|(apply Ag.take;rfl;rfl)|(apply Ag.drop;rfl;rfl;rfl)|(apply Ag.guard;rfl;rfl)|(apply Aa.fn;rfl;rfl;exact hc;intro _;rfl)|(apply Aa.assign;rfl)|(apply Aa.move;rfl)|(apply Aa.Iu;rfl;rfl;omega)|(apply Aa.int;rfl;rfl;rfl)|(apply Aa.load;rfl;rfl)|(apply Aa.BJ;rfl;rfl)|(apply Aa.AQ;rfl;rfl)|(apply Aa.AP;rfl;rfl;rfl)|(apply Aa.box;rfl;trivial)|(apply Ae.cond_true;rfl)|(apply Ae.cond_false;rfl)|(apply Ae.AY;rfl)|(intro _;try (exfalso;omega)))
  all_goals first|(exfalso;omega)|(rw [if_pos (by omega)];(refine Done.ret rfl (.refl _) (by first|exact trivial|exact ⟨trivial,trivial,trivial⟩|exact ⟨trivial,trivial,trivial,trivial⟩) Aj.nil (Nat.zero_le _) (Nat.le_refl _) ⟨?_,rfl,rfl⟩;try rfl);done)|(rw [if_neg (by omega),if_pos (by omega)];(refine Done.ret rfl (.refl _) (by first|exact trivial|exact ⟨trivial,trivial,trivial⟩|exact ⟨trivial,trivial,trivial,trivial⟩) Aj.nil (Nat.zero_le _) (Nat.le_refl _) ⟨?_,rfl,rfl⟩;try rfl);done)|(rw [if_neg (by omega),if_neg (by omega)];(refine Done.ret rfl (.refl _) (by first|exact trivial|exact ⟨trivial,trivial,trivial⟩|exact ⟨trivial,trivial,trivial,trivial⟩) Aj.nil (Nat.zero_le _) (Nat.le_refl _) ⟨?_,rfl,rfl⟩;try rfl);done)
 ·rw [show yQ x=2 from if_neg h1] at hc
  rw [show OJ x=2 from if_pos h1]
  repeat' (first|apply Ae.AA|apply Ae.Ai|apply AO.ret|apply AL.ret|apply Ae.ret|apply Ag.nil|apply Ag.one|(apply Aa.fn;rfl;rfl;exact hc;intro _;rfl)|(apply Aa.assign;rfl)|(apply Aa.int;rfl;rfl;rfl)|(apply Aa.load;rfl;rfl)|(apply Aa.box;rfl;trivial)|(apply Ae.cond_true;rfl))
  all_goals (refine Done.ret rfl (.refl _) (by first|exact trivial|exact ⟨trivial,trivial,trivial⟩|exact ⟨trivial,trivial,trivial,trivial⟩) Aj.nil (Nat.zero_le _) (Nat.le_refl _) ⟨?_,rfl,rfl⟩;try rfl)
def bothR (x y:JB):Int:=if OJ x≠0 then OJ x else OJ y
theorem jT (x y:JB):AZ env 67 [.agg (Enc.enc x),.agg (Enc.enc y)] (.p (.int .i64 (bothR x y))):=by
 have h1:=Kt x
 have h2:=Kt y
 unfold bothR
 refine AZ.enter (AB (by decide)) Tryz.func67 rfl (by kernel_rfl) (by simp [Tryz.ntmps67]) ?_
 repeat' (first|apply Ae.assoc|apply Ae.AA|apply Ae.Aq|apply Ae.BU|apply Ae.ret|apply Ag.nil|apply Ag.one|(apply Aa.fn;rfl;rfl;exact h1;intro _;rfl)|(apply Aa.fn;rfl;rfl;exact h2;intro _;rfl)|(apply Aa.assign;rfl)|(apply Aa.move;rfl)|(apply Aa.int;rfl;rfl;rfl)|(apply Aa.load;rfl;rfl)|(apply Aa.box;rfl;trivial)|(apply Ae.Af;rfl)|(intro _;try (exfalso;omega)))
 all_goals first|(rw [if_pos (by assumption)];(refine Done.ret rfl (.refl _) (by first|exact trivial|exact ⟨trivial,trivial,trivial⟩|exact ⟨trivial,trivial,trivial,trivial⟩) Aj.nil (Nat.zero_le _) (Nat.le_refl _) ⟨?_,rfl,rfl⟩;try rfl);done)|(rw [if_neg (by assumption)];(refine Done.ret rfl (.refl _) (by first|exact trivial|exact ⟨trivial,trivial,trivial⟩|exact ⟨trivial,trivial,trivial,trivial⟩) Aj.nil (Nat.zero_le _) (Nat.le_refl _) ⟨?_,rfl,rfl⟩;try rfl);done)
def sh1 (den:Nat):Nat→Nat→Int→Nat×Int
 |0,num,n=>(num,n)
 |f+1,num,n=>if num<den then sh1 den f (num*2) (n-12) else (num,n)
def sh2 (num:Nat):Nat→Nat→Int→Nat×Int
 |0,den,n=>(den,n)
 |f+1,den,n=>if 2*den≤num then sh2 num f (den*2) (n+12) else (den,n)
def zu (p:Nat):Nat→Nat→Int→Int
 |0,l,n=>n
 |f+1,l,n=>if l<p then zu p f (l*4) (n+1) else n
def shN (num den:Nat):Int :=
 let a:=sh1 den 30 num 0
 let b:=sh2 a.1 30 den a.2
 zu (a.1 ^ 24) 30 (b.1 ^ 24*2) b.2
def sV (x y:JB):Int:=shN (y.num*x.den).toNat (y.den*x.num).toNat
theorem wU (a b:Nat):XA a b>0↔b<a:=by
 unfold XA
 split
 ·omega
 ·split<;>omega
theorem lQ {n k:Nat} (hk:0<k) (h:n<10 ^ k):Lib.nDigits n≤k:=by
 rcases Nat.eq_zero_or_pos n with h0|h0
 ·subst h0;rw [Lib.nDigits_small (by decide)];exact hk
 ·have h1:=Num.FQ n (by omega)
  have h2:10 ^ (Lib.nDigits n-1)<10 ^ k:=Nat.lt_of_le_of_lt h1 h
  have h3:=(Nat.pow_lt_pow_iff_right (a:=10) (by decide)).1 h2
  omega
theorem jf {n k e:Nat} (hk:0<k) (h:n<10 ^ k) (he:e≤100):Lib.nDigits (n ^ e)≤k*100:=by
 rcases Nat.eq_zero_or_pos e with h0|h0
 ·subst h0;rw [Nat.pow_zero,Lib.nDigits_small (by decide)];omega
 ·refine lQ (by omega) ?_
  have h1:n ^ e<(10 ^ k) ^ e:=Nat.pow_lt_pow_left h (by omega)
  rw [← Nat.pow_mul] at h1
  exact Nat.lt_of_lt_of_le h1 (Nat.pow_le_pow_right (by decide) (Nat.mul_le_mul_left _ he))
theorem uQ {a b j k:Nat} (ha:Lib.nDigits a≤j) (hb:Lib.nDigits b≤k):Lib.nDigits (a*b)≤j+k:=by
 have h1:=Lib.lt_pow_nDigits a
 have h2:=Lib.lt_pow_nDigits b
 have hp:=Lib.nDigits_pos a
 refine lQ (by omega) ?_
 rw [Nat.pow_add]
 have h3:a<10 ^ j:=Nat.lt_of_lt_of_le h1 (Nat.pow_le_pow_right (by decide) ha)
 have h4:b<10 ^ k:=Nat.lt_of_lt_of_le h2 (Nat.pow_le_pow_right (by decide) hb)
 exact Nat.mul_lt_mul_of_lt_of_le h3 (Nat.le_of_lt h4) (Nat.pow_pos (by decide))
theorem JF (x y:JB) (hx:oh x) (hy:oh y):AZ env 68 [.agg (Enc.enc x),.agg (Enc.enc y)] (.p (.int .i64 (sV x y))):=by
 obtain ⟨⟨f1,-⟩,f2,f3,f4⟩:=hx
 obtain ⟨⟨g1,-⟩,g2,g3,g4⟩:=hy
 obtain ⟨xn,hxn⟩:∃ k:Nat,x.num=k:=⟨x.num.toNat,by omega⟩
 obtain ⟨xd,hxd⟩:∃ k:Nat,x.den=k:=⟨x.den.toNat,by omega⟩
 obtain ⟨yn,hyn⟩:∃ k:Nat,y.num=k:=⟨y.num.toNat,by omega⟩
 obtain ⟨yd,hyd⟩:∃ k:Nat,y.den=k:=⟨y.den.toNat,by omega⟩
 have b1:yn*xd≤16384*128:=Nat.mul_le_mul (by omega) (by omega)
 have b2:yd*xn≤128*16384:=Nat.mul_le_mul (by omega) (by omega)
 have p1:0<yn*xd:=Nat.mul_pos (by omega) (by omega)
 have p2:0<yd*xn:=Nat.mul_pos (by omega) (by omega)
 have c1:y.num*x.den=((yn*xd:Nat):Int):=by rw [hyn,hxd,Int.natCast_mul]
 have c2:y.den*x.num=((yd*xn:Nat):Int):=by rw [hyd,hxn,Int.natCast_mul]
 have e:sV x y=shN (yn*xd) (yd*xn):=by unfold sV;rw [c1,c2];rfl
 rw [e]
 generalize yn*xd=num at *
 generalize yd*xn=den at *
 have z1:-9223372036854775808≤y.num*x.den∧y.num*x.den<9223372036854775808:=by omega
 have z2:-9223372036854775808≤y.den*x.num∧y.den*x.num<9223372036854775808:=by omega
 refine AZ.enter (AB (by decide)) Tryz.func68 rfl (by kernel_rfl) (by simp [Tryz.ntmps68]) ?_
 repeat' (first|apply Ae.AA|apply Ae.BA|apply Ae.Ai|apply Ag.nil|apply Ak.nil|apply Ag.one|(apply Ak.bar;decide +kernel)|apply Ak.quiet|(apply Aa.assign;rfl)|(apply Aa.Iu;rfl;rfl;omega)|(apply Aa.load;rfl;rfl)|(apply Aa.AP;rfl;rfl;rfl)|(apply Aa.box;rfl;trivial))
 refine Ae.Ec (fun s:Nat×Nat=>[(5,.p (.int .i64 (s.2:Int))),(6,.p (.int .i64 (den:Int))),(7,.p (.int .i64 (-(12*(s.1:Int)))))]) (fun _=>[]) 0 (fun s=>s.1≤22∧s.2=num*2 ^ s.1∧s.2≤4194304∧sh1 den (30-s.1) s.2 (-(12*(s.1:Int)))=sh1 den 30 num 0) (fun s=>30-s.1) (0,num) (by omega) ⟨by omega,by simp,by simp only;omega,by simp⟩ ⟨by omega,?_,?_⟩ ?_
 ·simp only [c1,c2];repeat (first|exact Ad.nil|refine Ad.same trivial rfl ?_|refine Ad.same (Ac rfl) rfl ?_|refine Ad.same ⟨trivial,Ac rfl,Ac rfl,Ac rfl,trivial⟩ rfl ?_|refine Ad.same ⟨trivial,Ac rfl,Ac rfl,trivial⟩ rfl ?_|refine Ad.same ⟨trivial,trivial⟩ rfl ?_|refine Ad.cons trivial rfl (.of_eq (Au (by simp<;>omega))) ?_)
 ·exact Aj.nil
 rintro ⟨i,m⟩ ⟨hi,hm,hm2,hs⟩
 simp only at hi hm hm2 hs
 have iZ:∀ a b c:Nat,0<a→a*2 ^ b≤c→2 ^ b≤c:=fun a b c ha h=>Nat.le_trans (Nat.le_mul_of_pos_left _ ha) h
 have h21:∀ b:Nat,2 ^ b≤2 ^ 21→b≤21:=fun b h=>(Nat.pow_le_pow_iff_right (by decide)).1 h
 have a8t:0<m:=by rw [hm];exact Nat.mul_pos p1 (Nat.pow_pos (by decide))
 repeat' (first|apply Ae.assoc|apply Ae.AA|apply Ae.region|apply Ae.Aq|apply Ae.A8|apply Ae.Ai|apply AO.normal|apply AL.normal|apply AL.exit|apply Az.exit|apply Ag.nil|apply Ag.one|(apply Aa.assign;rfl)|(apply Aa.move;rfl)|(apply Aa.Ir;rfl;rfl;omega)|(apply Aa.Iu;rfl;rfl;omega)|(apply Aa.int;rfl;rfl;rfl)|(apply Ae.Af;rfl)|(intro _;try (exfalso;omega)))
 ·rename_i a1
  simp only at a1
  have hi2:i≤20:=by
   have h1:num*2 ^ i<den:=by rw [← hm];omega
   have h2:2 ^ i<2 ^ 21:=Nat.lt_of_le_of_lt (iZ _ _ _ p1 (Nat.le_refl _)) (by omega)
   have:=(Nat.pow_lt_pow_iff_right (a:=2) (by decide)).1 h2
   omega
  have e7:-(12*((i+1:Nat):Int))=-(12*(i:Int))-12:=by omega
  refine Az.normal ⟨(i+1,m*2),⟨by simp only;omega,by simp only;rw [hm,Nat.pow_succ,Nat.mul_assoc],by simp only;omega,?_⟩,by simp only;omega,⟨by omega,?_,?_⟩⟩
  ·simp only
   rw [← hs,show 30-i=(30-(i+1))+1 by omega,e7]
   conv=>rhs;rw [sh1]
   rw [if_pos (by omega)]
  ·simp only [e7];repeat (first|exact Ad.nil|refine Ad.same trivial rfl ?_|refine Ad.same (Ac rfl) rfl ?_|refine Ad.same ⟨trivial,Ac rfl,Ac rfl,Ac rfl,trivial⟩ rfl ?_|refine Ad.same ⟨trivial,Ac rfl,Ac rfl,trivial⟩ rfl ?_|refine Ad.same ⟨trivial,trivial⟩ rfl ?_|refine Ad.cons trivial rfl (.of_eq (Au (by simp<;>omega))) ?_)
  ·exact Aj.nil
 ·rename_i a1
  simp only at a1
  have hs1:sh1 den 30 num 0=(m,-(12*(i:Int))):=by
   rw [← hs]
   cases 30-i with
   |zero=>rfl
   |succ f=>rw [sh1,if_neg (by omega)]
  refine Ae.Ec (fun s:Nat×Nat=>[(5,.p (.int .i64 (m:Int))),(6,.p (.int .i64 (s.2:Int))),(7,.p (.int .i64 (-(12*(i:Int))+12*(s.1:Int))))]) (fun _=>[]) 0 (fun s=>s.1≤22∧s.2=den*2 ^ s.1∧s.2≤4194304∧sh2 m (30-s.1) s.2 (-(12*(i:Int))+12*(s.1:Int))=sh2 m 30 den (-(12*(i:Int)))) (fun s=>30-s.1) (0,den) (by omega) ⟨by omega,by simp,by simp only;omega,by simp⟩ ⟨by omega,?_,?_⟩ ?_
  ·have e7:-(12*(i:Int))+12*((0:Nat):Int)=-(12*(i:Int)):=by omega
   simp only [e7];repeat (first|exact Ad.nil|refine Ad.same trivial rfl ?_|refine Ad.same (Ac rfl) rfl ?_|refine Ad.same ⟨trivial,Ac rfl,Ac rfl,Ac rfl,trivial⟩ rfl ?_|refine Ad.same ⟨trivial,Ac rfl,Ac rfl,trivial⟩ rfl ?_|refine Ad.same ⟨trivial,trivial⟩ rfl ?_|refine Ad.cons trivial rfl (.of_eq (Au (by simp<;>omega))) ?_)
  ·exact Aj.nil
  rintro ⟨j,d⟩ ⟨hj,hd,hd2,ht⟩
  simp only at hj hd hd2 ht
  have a3g:0<d:=by rw [hd];exact Nat.mul_pos p2 (Nat.pow_pos (by decide))
  by_cases hdm:2*d≤m
  ·repeat' (first|apply Ae.assoc|apply Ae.AA|apply Ae.region|apply Ae.Aq|apply Ae.Ai|apply AO.normal|apply AL.normal|apply Ag.nil|apply Ag.one|(apply Aa.assign;rfl)|(apply Aa.move;rfl)|(apply Aa.Bz;rfl;rfl;omega)|(apply Aa.Iu;rfl;rfl;omega)|(apply Aa.int;rfl;rfl;rfl)|(apply Ae.Af;rfl)|(intro _;try (exfalso;omega)))
   all_goals try (exfalso;omega)
   have hj2:j≤21:=by
    have h1:den*2 ^ j≤2 ^ 21:=by rw [← hd];omega
    exact h21 _ (iZ _ _ _ p2 h1)
   have e7:-(12*(i:Int))+12*((j+1:Nat):Int)=-(12*(i:Int))+12*(j:Int)+12:=by omega
   refine Az.normal ⟨(j+1,d*2),⟨by simp only;omega,by simp only;rw [hd,Nat.pow_succ,Nat.mul_assoc],by simp only;omega,?_⟩,by simp only;omega,⟨by omega,?_,?_⟩⟩
   ·simp only
    rw [← ht,show 30-j=(30-(j+1))+1 by omega,e7]
    conv=>rhs;rw [sh2]
    rw [if_pos hdm]
   ·simp only [e7];repeat (first|exact Ad.nil|refine Ad.same trivial rfl ?_|refine Ad.same (Ac rfl) rfl ?_|refine Ad.same ⟨trivial,Ac rfl,Ac rfl,Ac rfl,trivial⟩ rfl ?_|refine Ad.same ⟨trivial,Ac rfl,Ac rfl,trivial⟩ rfl ?_|refine Ad.same ⟨trivial,trivial⟩ rfl ?_|refine Ad.cons trivial rfl (.of_eq (Au (by simp<;>omega))) ?_)
   ·exact Aj.nil
  ·have hs2:sh2 m 30 den (-(12*(i:Int)))=(d,-(12*(i:Int))+12*(j:Int)):=by
    rw [← ht]
    cases 30-j with
    |zero=>rfl
    |succ f=>rw [sh2,if_neg hdm]
   have hR:shN num den=zu (m ^ 24) 30 (d ^ 24*2) (-(12*(i:Int))+12*(j:Int)):=by
    unfold shN;rw [hs1];simp only;rw [hs2]
   rw [hR]
   have om:=YV (m:Int) (by omega)
   have od:=YV (d:Int) (by omega)
   rw [fC] at om od
   have nm:Lib.nDigits m≤7:=lQ (by decide) (by omega)
   have nd:Lib.nDigits d≤7:=lQ (by decide) (by omega)
   have pm:=VH m 24 (by decide) (by omega) (by omega)
   have pd:=VH d 24 (by decide) (by omega) (by omega)
   have np:Lib.nDigits (m ^ 24)≤700:=jf (k:=7) (by decide) (by omega) (by decide)
   have nq:Lib.nDigits (d ^ 24)≤700:=jf (k:=7) (by decide) (by omega) (by decide)
   have n2:Lib.nDigits 2=1:=Lib.nDigits_small (by decide)
   have n4:Lib.nDigits 4=1:=Lib.nDigits_small (by decide)
   have q2:=au (d ^ 24) 2 (by omega) (by omega)
   rw [show Lib.decDigits 2=[50] by decide +kernel] at q2
   have hpq:m ^ 24<2 ^ 24*d ^ 24:=by
    rw [← Nat.mul_pow]
    exact Nat.pow_lt_pow_left (by omega) (by decide)
   have a8z:0<d ^ 24:=Nat.pow_pos a3g
   generalize m ^ 24=p at *
   generalize d ^ 24=q at *
   repeat' (first|apply Ae.assoc|apply Ae.AA|apply Ae.A8|apply Ae.Ai|apply AO.normal|apply AL.exit|apply Az.exit|apply Ag.nil|apply Ag.one|(apply Aa.fn;rfl;rfl;exact om;intro _;rfl)|(apply Aa.fn;rfl;rfl;exact od;intro _;rfl)|(apply Aa.fn;rfl;rfl;exact pm;intro _;rfl)|(apply Aa.fn;rfl;rfl;exact pd;intro _;rfl)|(apply Aa.fn;rfl;rfl;exact q2;intro _;rfl)|(apply Aa.assign;rfl)|(apply Aa.move;rfl)|(apply Aa.Iu;rfl;rfl;omega)|(apply Aa.int;rfl;rfl;rfl)|(apply Aa.extract;rfl;rfl)|(apply Ae.Af;rfl)|(intro _;try (exfalso;omega)))
   all_goals try (exfalso;omega)
   generalize hn0:-(12*(i:Int))+12*(j:Int)=n0 at *
   have b0v:-1000≤n0∧n0≤1000:=by omega
   refine Ae.Ec (fun k:Nat=>[(8,st (Lib.decDigits p)),(12,st (Lib.decDigits (q*2*4 ^ k))),(7,.p (.int .i64 (n0+(k:Int))))]) (fun _=>[]) 0 (fun k=>k≤20∧zu p (30-k) (q*2*4 ^ k) (n0+(k:Int))=zu p 30 (q*2) n0) (fun k=>30-k) 0 (by omega) ⟨by omega,by simp⟩ ⟨by omega,?_,?_⟩ ?_
   ·have e7:n0+((0:Nat):Int)=n0:=by omega
    rw [e7,Nat.pow_zero,Nat.mul_one];repeat (first|exact Ad.nil|refine Ad.same trivial rfl ?_|refine Ad.same (Ac rfl) rfl ?_|refine Ad.same ⟨trivial,Ac rfl,Ac rfl,Ac rfl,trivial⟩ rfl ?_|refine Ad.same ⟨trivial,Ac rfl,Ac rfl,trivial⟩ rfl ?_|refine Ad.same ⟨trivial,trivial⟩ rfl ?_|refine Ad.cons trivial rfl (.of_eq (Au (by simp<;>omega))) ?_)
   ·exact Aj.nil
   rintro k ⟨hk,hs⟩
   have nl:Lib.nDigits (q*2*4 ^ k)≤1000:=by
    have h1:=uQ (a:=q) (b:=2) (j:=700) (k:=1) (by omega) (by omega)
    have h2:Lib.nDigits (4 ^ k)≤100:=jf (n:=4) (k:=1) (by decide) (by decide) (by omega)
    have h3:=uQ h1 h2
    omega
   have cc:=Y8 p (q*2*4 ^ k) (by omega) (by omega)
   have q4:=au (q*2*4 ^ k) 4 (by omega) (by omega)
   rw [show Lib.decDigits 4=[52] by decide +kernel] at q4
   have hcp:=wU p (q*2*4 ^ k)
   by_cases hlt:q*2*4 ^ k<p
   ·have hc:=hcp.2 hlt
    have hk2:k≤12:=by
     have h1:q*(2*4 ^ k)<q*2 ^ 24:=by rw [← Nat.mul_assoc,Nat.mul_comm q (2 ^ 24)];omega
     have h2:=Nat.lt_of_mul_lt_mul_left h1
     have h3:2*4 ^ k=2 ^ (1+2*k):=by rw [Nat.pow_add,Nat.pow_mul,Nat.pow_one]
     rw [h3] at h2
     have:=(Nat.pow_lt_pow_iff_right (a:=2) (by decide)).1 h2
     omega
    have e7:n0+((k+1:Nat):Int)=n0+(k:Int)+1:=by omega
    repeat' (first|apply Ae.assoc|apply Ae.AA|apply Ae.region|apply Ae.Aq|apply Ae.Ai|apply AO.normal|apply AL.normal|apply Ag.nil|apply Ag.one|(apply Aa.fn;rfl;rfl;exact cc;intro _;rfl)|(apply Aa.fn;rfl;rfl;exact q4;intro _;rfl)|(apply Aa.assign;rfl)|(apply Aa.move;rfl)|(apply Aa.Bz;rfl;rfl;omega)|(apply Aa.int;rfl;rfl;rfl)|(apply Ae.Af;rfl)|(intro _;try (exfalso;omega)))
    all_goals try (exfalso;omega)
    refine Az.normal ⟨k+1,⟨by omega,?_⟩,by omega,⟨by omega,?_,?_⟩⟩
    ·rw [← hs,show 30-k=(30-(k+1))+1 by omega,e7]
     conv=>rhs;rw [zu]
     rw [if_pos hlt,Nat.pow_succ,Nat.mul_assoc (q*2)]
    ·rw [e7,Nat.pow_succ,← Nat.mul_assoc];repeat (first|exact Ad.nil|refine Ad.same trivial rfl ?_|refine Ad.same (Ac rfl) rfl ?_|refine Ad.same ⟨trivial,Ac rfl,Ac rfl,Ac rfl,trivial⟩ rfl ?_|refine Ad.same ⟨trivial,Ac rfl,Ac rfl,trivial⟩ rfl ?_|refine Ad.same ⟨trivial,trivial⟩ rfl ?_|refine Ad.cons trivial rfl (.of_eq (Au (by simp<;>omega))) ?_)
    ·exact Aj.nil
   ·have hc:¬ XA p (q*2*4 ^ k)>0:=fun h=>hlt (hcp.1 h)
    have hR3:zu p 30 (q*2) n0=n0+(k:Int):=by
     rw [← hs]
     cases 30-k with
     |zero=>rfl
     |succ f=>rw [zu,if_neg hlt]
    rw [hR3]
    repeat' (first|apply Ae.assoc|apply Ae.AA|apply Ae.A8|apply AO.normal|apply AL.exit|apply Az.exit|apply Ae.ret|apply Ag.nil|apply Ag.one|(apply Aa.fn;rfl;rfl;exact cc;intro _;rfl)|(apply Aa.assign;rfl)|(apply Aa.move;rfl)|(apply Aa.int;rfl;rfl;rfl)|(apply Ae.Af;rfl)|(intro _;try (exfalso;omega)))
    all_goals first|(exfalso;omega)|(refine Done.ret rfl (.refl _) (by first|exact trivial|exact ⟨trivial,trivial,trivial⟩|exact ⟨trivial,trivial,trivial,trivial⟩) Aj.nil (Nat.zero_le _) (Nat.le_refl _) ⟨?_,rfl,rfl⟩;try rfl)
def Cb (x y:JB):Int×Int:=if bothR x y≠0 then (0,bothR x y) else (sV x y,0)
theorem xk {x y:JB}:bothR x y=0↔oh x∧oh y:=by
 unfold bothR
 rw [← Ot,← Ot]
 split
 ·rename_i h;exact ⟨fun h'=>absurd h' h,fun h'=>absurd h'.1 h⟩
 ·rename_i h;exact ⟨fun h'=>⟨Classical.not_not.1 h,h'⟩,fun h'=>h'.2⟩
theorem Kr (x y:JB):AZ env 44 [.agg (Enc.enc x),.agg (Enc.enc y)] (.Fp [.p (.int .i64 (Cb x y).1),.p (.int .i64 (Cb x y).2)]):=by
 have hb:=jT x y
 by_cases h:bothR x y=0
 ·rw [h] at hb
  have ok:=xk.1 h
  have hs:=JF x y ok.1 ok.2
  rw [show Cb x y=(sV x y,0) from if_neg (fun h'=>h' h)]
  refine AZ.enter (AB (by decide)) Tryz.func44 rfl (by kernel_rfl) (by simp [Tryz.ntmps44]) ?_
  repeat' (first|apply Ae.assoc|apply Ae.AA|apply Ae.Aq|apply Ae.ret|apply Ag.nil|apply Ag.one|(apply Aa.fn;rfl;rfl;exact hb;intro _;rfl)|(apply Aa.fn;rfl;rfl;exact hs;intro _;rfl)|(apply Aa.assign;rfl)|(apply Aa.move;rfl)|(apply Aa.int;rfl;rfl;rfl)|(apply Aa.load;rfl;rfl)|(apply Aa.box;rfl;trivial)|(apply Ae.Ar;rfl))
  all_goals first|(exfalso;omega)|(refine Done.ret rfl (.refl _) (by first|exact trivial|exact ⟨trivial,trivial,trivial⟩|exact ⟨trivial,trivial,trivial,trivial⟩) Aj.nil (Nat.zero_le _) (Nat.le_refl _) ⟨?_,rfl,rfl⟩;try rfl)
 ·rw [show Cb x y=(0,bothR x y) from if_pos h]
  refine AZ.enter (AB (by decide)) Tryz.func44 rfl (by kernel_rfl) (by simp [Tryz.ntmps44]) ?_
  repeat' (first|apply Ae.assoc|apply Ae.AA|apply Ae.BU|apply Ag.nil|apply Ag.one|(apply Aa.fn;rfl;rfl;exact hb;intro _;rfl)|(apply Aa.assign;rfl)|(apply Aa.move;rfl)|(apply Aa.int;rfl;rfl;rfl)|(apply Aa.load;rfl;rfl)|(apply Aa.box;rfl;trivial)|(apply Ae.Af;rfl)|(intro _;try (exfalso;omega)))
  all_goals first|(exfalso;omega)|(refine Done.ret rfl (.refl _) (by first|exact trivial|exact ⟨trivial,trivial,trivial⟩|exact ⟨trivial,trivial,trivial,trivial⟩) Aj.nil (Nat.zero_le _) (Nat.le_refl _) ⟨?_,rfl,rfl⟩;try rfl)
end Go.Proofs.YtdabojnmoejilaaGreatDoor
namespace Go.Proofs.YtdabojnmoejilaaGreatDoor
open Go Go.Am Go.Vm
attribute [local irreducible] Aa Ag Ak Ae BH AZ CW AO AL Az Vm.Done Di Bv
structure FT where
 name:List UInt8
 EC:List UInt8
 Du:JB
 first:Int
 ES:List Int
instance:Enc FT:={ default:=⟨[],[],⟨0,0⟩,0,[]⟩,enc:=fun r=>[.str (bs r.name),.str (bs r.EC),.int .i64 r.Du.num,.int .i64 r.Du.den,.int .i64 r.first,.lst 3 (cells r.ES) r.ES.length],size:=6,len:=fun _=>rfl }
theorem PV.Gp {a b:Bool} (h:a=b):PV.p (.bool a)=PV.p (.bool b):=by rw [h]
def Xz (x:Int):Prop:=x<0∨x>1000000
instance (x:Int):Decidable (Xz x):=by unfold Xz;infer_instance
theorem yN (x:Int):AZ env 107 [.int .i64 x] (.p (.bool (decide (Xz x)))):=by
 refine AZ.enter (AB (by decide)) Tryz.func107 rfl (by kernel_rfl) (by simp [Tryz.ntmps107]) ?_
 repeat' (first|apply Ae.AA|apply Ae.ret|apply Ag.nil|apply Ag.one|(apply Ag.take;rfl;rfl)|(apply Ag.drop;rfl;rfl;rfl)|(apply Ag.guard;rfl;rfl)|(apply Aa.assign;rfl)|(apply Aa.move;rfl)|(apply Aa.int;rfl;rfl;rfl)|(apply Aa.BJ;rfl;rfl)|(apply Aa.AQ;rfl;rfl)|(intro _;try (exfalso;omega)))
 all_goals (refine Done.ret rfl (.refl _) (by first|exact trivial|exact ⟨trivial,trivial,trivial⟩|exact ⟨trivial,trivial,trivial,trivial⟩) Aj.nil (Nat.zero_le _) (Nat.le_refl _) ⟨?_,rfl,rfl⟩;refine PV.Gp ?_;first|(refine decide_eq_decide.2 ⟨fun h=>by unfold Xz;omega,fun h=>by unfold Xz at h;omega⟩)|(symm;apply decide_eq_true;unfold Xz;omega))
def okW (l:List Int):Prop:=∀ i,i<l.length→¬ Xz (gi l i)
noncomputable instance (l:List Int):Decidable (okW l):=Classical.propDecidable _
noncomputable def DW (l:List Int):Int:=if okW l then 0 else 3
theorem zX {L:Vm.Frame} {H:Vm.Heap} {nx:Nat} {Q:PV→Vm.Heap→Nat→Prop} {dst:Option Tmp} {ty:TypeId} {pos:String} {af:Array Edge} {gd:Option (Nat×Bool)} {fo:Operand} {args:Array Operand} {aT:Array TypeId} {fs cs xs:List PV} {c:Code}
 (hf:BG env.Γ L fo=some (.clo 75 fs cs)) (ha:evs env.Γ L args.toList=some xs) (hb:Tryz.f75.body=some c) (hn:(fs++xs++cs).length≤Tryz.f75.ntmps)
 (h:Ae env nx c (CQ 0 (fs++xs++cs)) H nx (Bv env.P Tryz.f75.results.toList Q)):Aa env true ⟨dst,.call { callee:=.value fo,args:=args,argTypes:=aT },ty,pos,af,gd⟩ L H nx Q:=by
 have h0:(match Tryz.f75.body with|some c=>H6 env.G Tryz.f75 c|none=>false)=true:=by kernel_rfl
 rw [hb] at h0
 exact Aa.inline rfl hf ha (AB (by decide)) Tryz.func75 hb h0 hn h
theorem a1n {L:Vm.Frame} {H:Vm.Heap} {nx:Nat} {Q:PV→Vm.Heap→Nat→Prop} {dst:Option Tmp} {ty:TypeId} {pos:String} {af:Array Edge} {gd:Option (Nat×Bool)} {fo:Operand} {args:Array Operand} {aT:Array TypeId} {fs cs xs:List PV} {c:Code}
 (hf:BG env.Γ L fo=some (.clo 104 fs cs)) (ha:evs env.Γ L args.toList=some xs) (hb:Tryz.f104.body=some c) (hn:(fs++xs++cs).length≤Tryz.f104.ntmps)
 (h:Ae env nx c (CQ 0 (fs++xs++cs)) H nx (Bv env.P Tryz.f104.results.toList Q)):Aa env true ⟨dst,.call { callee:=.value fo,args:=args,argTypes:=aT },ty,pos,af,gd⟩ L H nx Q:=by
 have h0:(match Tryz.f104.body with|some c=>H6 env.G Tryz.f104 c|none=>false)=true:=by kernel_rfl
 rw [hb] at h0
 exact Aa.inline rfl hf ha (AB (by decide)) Tryz.func104 hb h0 hn h
theorem jM (l:List Int) (hl:l.length<9223372036854775808):AZ env 88 [.lst 3 (cells l) l.length] (.p (.int .i64 (DW l))):=by
 refine AZ.enter (AB (by decide)) Tryz.func88 rfl (by kernel_rfl) (by simp [Tryz.ntmps88]) ?_
 repeat' (first|apply Ae.assoc|apply Ae.AA|apply Ae.Ai|apply Ag.nil|apply Ag.one|(apply zX;rfl;rfl;rfl;exact le_dec rfl)|(apply a1n;rfl;rfl;rfl;exact le_dec rfl)|(apply Aa.assign;rfl)|(apply Aa.move;rfl)|(apply Aa.BL;rfl;rfl))
 refine Ae.Ec (fun k:Nat=>[(0,lst 3 l),(1,.clo 107 [] []),(7,.p (.int .i64 (l.length:Int))),(8,.p (.int .i64 (k:Int)))]) (fun _=>[]) 0 (fun k=>k≤l.length∧∀ i,i<k→¬ Xz (gi l i)) (fun k=>l.length-k) 0 (by omega) ⟨by omega,fun i hi=>by omega⟩ ⟨by omega,?_,?_⟩ ?_
 ·repeat (first|exact Ad.nil|refine Ad.same trivial rfl ?_|refine Ad.same (Ac rfl) rfl ?_|refine Ad.same ⟨trivial,Ac rfl,Ac rfl,Ac rfl,trivial⟩ rfl ?_|refine Ad.same ⟨trivial,Ac rfl,Ac rfl,trivial⟩ rfl ?_|refine Ad.same ⟨trivial,trivial⟩ rfl ?_|refine Ad.cons trivial rfl (.of_eq (Au (by simp<;>omega))) ?_)
 ·exact Aj.nil
 rintro k ⟨hk,hok⟩
 have hw:=yN (gi l k)
 repeat' (first|apply Ae.assoc|apply Ae.AA|apply Ae.region|apply Ae.Aq|apply Ae.BU|apply Ae.A8|apply Ae.Ai|apply AO.normal|apply AO.ret|(apply Bv.ret;rfl)|apply AL.normal|apply AL.ret|apply AL.exit|apply Az.ret|apply Az.exit|apply Ae.ret|apply Ae.skip|apply Ag.nil|apply Ag.one|(apply Aa.fn;rfl;rfl;exact hw;intro _;rfl)|(apply Aa.assign;rfl)|(apply Aa.move;rfl)|(apply Aa.Bz;rfl;rfl;omega)|(apply Aa.int;rfl;rfl;rfl)|(apply Aa.AU;rfl;rfl;rfl;omega;rfl)|(apply Aa.load;rfl;rfl)|(apply Ae.Bg;rfl)|(apply Ae.Ar;rfl)|(apply Ae.Af;rfl)|(apply Ae.AY;rfl)|(intro _;try (exfalso;omega)))
 ·rename_i a1 a2
  rw [show DW l=3 from if_neg (fun h=>h k (by omega) a2)]
  (refine Done.ret rfl (.refl _) (by first|exact trivial|exact ⟨trivial,trivial,trivial⟩|exact ⟨trivial,trivial,trivial,trivial⟩) Aj.nil (Nat.zero_le _) (Nat.le_refl _) ⟨?_,rfl,rfl⟩;try rfl)
 ·rename_i a1 a2
  refine Az.normal ⟨k+1,⟨by omega,fun i hi=>?_⟩,by omega,⟨by omega,?_,?_⟩⟩
  ·rcases Nat.lt_or_ge i k with h|h
   ·exact hok i h
   ·obtain rfl:i=k:=by omega
    exact a2
  ·repeat (first|exact Ad.nil|refine Ad.same trivial rfl ?_|refine Ad.same (Ac rfl) rfl ?_|refine Ad.same ⟨trivial,Ac rfl,Ac rfl,Ac rfl,trivial⟩ rfl ?_|refine Ad.same ⟨trivial,Ac rfl,Ac rfl,trivial⟩ rfl ?_|refine Ad.same ⟨trivial,trivial⟩ rfl ?_|refine Ad.cons trivial rfl (.of_eq (Au (by simp<;>omega))) ?_)
  ·exact Aj.nil
 ·rename_i a1
  rw [show DW l=0 from if_pos (fun i hi=>hok i (by omega))]
  (refine Done.ret rfl (.refl _) (by first|exact trivial|exact ⟨trivial,trivial,trivial⟩|exact ⟨trivial,trivial,trivial,trivial⟩) Aj.nil (Nat.zero_le _) (Nat.le_refl _) ⟨?_,rfl,rfl⟩;try rfl)
def eP (c:Nat):Prop:=(65≤c∧c≤90)∨(97≤c∧c≤122)
instance (c:Nat):Decidable (eP c):=by unfold eP;infer_instance
def nmC (c:Nat):Prop:=eP c∨(48≤c∧c≤57)∨c=95
theorem TW (c:Nat) (hc:c<256):AZ env 85 [.int .u8 (c:Int)] (.p (.bool (decide (eP c)))):=by
 refine AZ.enter (AB (by decide)) Tryz.func85 rfl (by kernel_rfl) (by simp [Tryz.ntmps85]) ?_
 repeat' (first|apply Ae.AA|apply Ae.ret|apply Ag.nil|apply Ag.one|(apply Ag.take;rfl;rfl)|(apply Ag.drop;rfl;rfl;rfl)|(apply Ag.guard;rfl;rfl)|(apply Ag.lI;rfl;rfl)|(apply Aa.assign;rfl)|(apply Aa.move;rfl)|(apply Aa.int;rfl;rfl;rfl)|(apply Aa.BJ;rfl;rfl)|(apply Aa.AQ;rfl;rfl)|(intro _;try (exfalso;omega)))
 all_goals (refine Done.ret rfl (.refl _) (by first|exact trivial|exact ⟨trivial,trivial,trivial⟩|exact ⟨trivial,trivial,trivial,trivial⟩) Aj.nil (Nat.zero_le _) (Nat.le_refl _) ⟨?_,rfl,rfl⟩;refine PV.Gp ?_;first|(refine decide_eq_decide.2 ⟨fun h=>by unfold eP;omega,fun h=>by unfold eP at h;omega⟩)|(symm;apply decide_eq_true;unfold eP;omega)|(symm;apply decide_eq_false;unfold eP;omega))
def C9 (s:List UInt8):Prop:=0<s.length∧s.length≤32∧eP (gi s 0).toNat∧∀ i,1≤i→i<s.length→nmC (gi s i).toNat
noncomputable instance (s:List UInt8):Decidable (C9 s):=Classical.propDecidable _
theorem Hu (s:List UInt8) (hs:s.length<9223372036854775808):AZ env 57 [.str (bs s)] (.p (.bool (decide (C9 s)))):=by
 have hl0:=TW (gi s 0).toNat (gi s 0).toNat_lt
 by_cases hz:s=[]
 ·subst hz
  rw [decide_eq_false (show ¬ C9 [] from fun h=>absurd h.1 (by decide))]
  refine AZ.enter (AB (by decide)) Tryz.func57 rfl (by kernel_rfl) (by simp [Tryz.ntmps57]) ?_
  repeat' (first|apply Ae.assoc|apply Ae.AA|apply Ae.BU|apply Ag.nil|apply Ag.one|(apply Ag.drop;rfl;rfl;rfl)|(apply Aa.assign;rfl)|(apply Aa.move;rfl)|(apply Aa.BJ;rfl;rfl)|(apply Aa.eqS;rfl;rfl)|(apply Ae.Bg;rfl))
  all_goals first|(refine Done.ret rfl (.refl _) (by first|exact trivial|exact ⟨trivial,trivial,trivial⟩|exact ⟨trivial,trivial,trivial,trivial⟩) Aj.nil (Nat.zero_le _) (Nat.le_refl _) ⟨?_,rfl,rfl⟩;try rfl)|contradiction
 ·have hpos:0<s.length:=List.length_pos_iff.2 hz
  refine AZ.enter (AB (by decide)) Tryz.func57 rfl (by kernel_rfl) (by simp [Tryz.ntmps57]) ?_
  by_cases h32:s.length≤32
  ·by_cases hL:eP (gi s 0).toNat
   ·rw [decide_eq_true hL] at hl0
    repeat' (first|apply Ae.assoc|apply Ae.AA|apply Ae.Aq|apply Ae.BU|apply Ae.Ai|apply Ag.nil|apply Ag.one|(apply Ag.take;rfl;rfl)|(apply Ag.drop;rfl;rfl;rfl)|(apply Ag.guard;rfl;rfl)|(apply Aa.fn;rfl;rfl;exact hl0;intro _;rfl)|(apply Aa.QS (i:=0);rfl;rfl;rfl;omega)|(apply Aa.assign;rfl)|(apply Aa.move;rfl)|(apply Aa.int;rfl;rfl;rfl)|(apply Aa.BJ;rfl;rfl)|(apply Aa.AQ;rfl;rfl)|(apply Aa.Kw;rfl;rfl)|(apply Aa.eqS;rfl;rfl)|(apply Aa.not;rfl)|(apply Ae.Bg;rfl)|(apply Ae.Ar;rfl)|(intro _;try (exfalso;omega)))
    all_goals try (exfalso;omega)
    all_goals try contradiction
    refine Ae.Ec (fun k:Nat=>[(0,st s),(3,.p (.int .i64 (k:Int)))]) (fun _=>[]) 0 (fun k=>1≤k∧k≤s.length∧∀ i,1≤i→i<k→nmC (gi s i).toNat) (fun k=>s.length-k) 1 (by omega) ⟨by omega,by omega,fun i h1 h2=>by omega⟩ ⟨by omega,?_,?_⟩ ?_
    ·repeat (first|exact Ad.nil|refine Ad.same trivial rfl ?_|refine Ad.same (Ac rfl) rfl ?_|refine Ad.same ⟨trivial,Ac rfl,Ac rfl,Ac rfl,trivial⟩ rfl ?_|refine Ad.same ⟨trivial,Ac rfl,Ac rfl,trivial⟩ rfl ?_|refine Ad.same ⟨trivial,trivial⟩ rfl ?_|refine Ad.cons trivial rfl (.of_eq (Au (by simp<;>omega))) ?_)
    ·exact Aj.nil
    rintro k ⟨hk1,hk2,hok⟩
    have hlk:=TW (gi s k).toNat (gi s k).toNat_lt
    have hc256:=(gi s k).toNat_lt
    have hnext:nmC (gi s k).toNat→∀ i,1≤i→i<k+1→nmC (gi s i).toNat:=fun h i h1 h2=>by
     rcases Nat.lt_or_ge i k with h3|h3
     ·exact hok i h1 h3
     ·obtain rfl:i=k:=by omega
      exact h
    have hbad:k<s.length→¬ nmC (gi s k).toNat→decide (C9 s)=false:=fun h1 h2=>decide_eq_false fun h=>h2 (h.2.2.2 k hk1 h1)
    by_cases hkl:k<s.length
    ·by_cases hLk:eP (gi s k).toNat
     ·rw [decide_eq_true hLk] at hlk
      repeat' (first|apply Ae.assoc|apply Ae.AA|apply Ae.region|apply Ae.Aq|apply Ae.Ai|apply AO.normal|apply AL.normal|apply Ae.skip|apply Ag.nil|apply Ag.one|(apply Ag.drop;rfl;rfl;rfl)|(apply Ag.lI;rfl;rfl)|(apply Aa.fn;rfl;rfl;exact hlk;intro _;rfl)|(apply Aa.assign;rfl)|(apply Aa.move;rfl)|(apply Aa.Bz;rfl;rfl;omega)|(apply Aa.int;rfl;rfl;rfl)|(apply Aa.AQ;rfl;rfl)|(apply Aa.Kw;rfl;rfl)|(apply Aa.QS;rfl;rfl;rfl;omega)|(apply Aa.not;rfl)|(apply Ae.Af;rfl)|(apply Ae.cond_false;rfl)|(intro _;try (exfalso;omega)))
      all_goals try (exfalso;omega)
      refine Az.normal ⟨k+1,⟨by omega,by omega,hnext (.inl hLk)⟩,by omega,⟨by omega,?_,?_⟩⟩
      ·repeat (first|exact Ad.nil|refine Ad.same trivial rfl ?_|refine Ad.same (Ac rfl) rfl ?_|refine Ad.same ⟨trivial,Ac rfl,Ac rfl,Ac rfl,trivial⟩ rfl ?_|refine Ad.same ⟨trivial,Ac rfl,Ac rfl,trivial⟩ rfl ?_|refine Ad.same ⟨trivial,trivial⟩ rfl ?_|refine Ad.cons trivial rfl (.of_eq (Au (by simp<;>omega))) ?_)
      ·exact Aj.nil
     ·rw [decide_eq_false hLk] at hlk
      have hn1:nmC (gi s k).toNat↔(48≤(gi s k).toNat∧(gi s k).toNat≤57)∨(gi s k).toNat=95:=⟨fun h=>h.resolve_left hLk,fun h=>.inr h⟩
      repeat' (first|apply Ae.assoc|apply Ae.AA|apply Ae.region|apply Ae.Aq|apply Ae.Ai|apply AO.normal|apply AO.ret|apply AL.normal|apply AL.ret|apply Az.ret|apply Ae.ret|apply Ae.skip|apply Ag.nil|apply Ag.one|(apply Ag.take;rfl;rfl)|(apply Ag.drop;rfl;rfl;rfl)|(apply Ag.guard;rfl;rfl)|(apply Aa.fn;rfl;rfl;exact hlk;intro _;rfl)|(apply Aa.assign;rfl)|(apply Aa.move;rfl)|(apply Aa.Bz;rfl;rfl;omega)|(apply Aa.int;rfl;rfl;rfl)|(apply Aa.BJ;rfl;rfl)|(apply Aa.AQ;rfl;rfl)|(apply Aa.Kw;rfl;rfl)|(apply Aa.QS;rfl;rfl;rfl;omega)|(apply Aa.not;rfl)|(apply Ae.Af;rfl)|(apply Ae.cond_false;rfl)|(apply Ae.AY;rfl)|(intro _;try (exfalso;omega)))
      all_goals try (exfalso;omega)
      all_goals first
       |(rw [hbad hkl (fun h=>by have:=hn1.1 h;omega)];(refine Done.ret rfl (.refl _) (by first|exact trivial|exact ⟨trivial,trivial,trivial⟩|exact ⟨trivial,trivial,trivial,trivial⟩) Aj.nil (Nat.zero_le _) (Nat.le_refl _) ⟨?_,rfl,rfl⟩;try rfl);done)
       |(refine Az.normal ⟨k+1,⟨by omega,by omega,hnext (hn1.2 (by omega))⟩,by omega,⟨by omega,?_,Aj.nil⟩⟩;repeat (first|exact Ad.nil|refine Ad.same trivial rfl ?_|refine Ad.same (Ac rfl) rfl ?_|refine Ad.same ⟨trivial,Ac rfl,Ac rfl,Ac rfl,trivial⟩ rfl ?_|refine Ad.same ⟨trivial,Ac rfl,Ac rfl,trivial⟩ rfl ?_|refine Ad.same ⟨trivial,trivial⟩ rfl ?_|refine Ad.cons trivial rfl (.of_eq (Au (by simp<;>omega))) ?_))
    ·obtain rfl:k=s.length:=by omega
     rw [decide_eq_true (show C9 s from ⟨hpos,h32,hL,fun i h1 h2=>hok i h1 h2⟩)]
     repeat' (first|apply Ae.assoc|apply Ae.AA|apply Ae.A8|apply AO.normal|apply AL.exit|apply Az.exit|apply Ae.ret|apply Ag.nil|apply Ag.one|(apply Aa.assign;rfl)|(apply Aa.move;rfl)|(apply Aa.int;rfl;rfl;rfl)|(apply Aa.Kw;rfl;rfl)|(apply Ae.Af;rfl)|(intro _;try (exfalso;omega)))
     all_goals first|(exfalso;omega)|(refine Done.ret rfl (.refl _) (by first|exact trivial|exact ⟨trivial,trivial,trivial⟩|exact ⟨trivial,trivial,trivial,trivial⟩) Aj.nil (Nat.zero_le _) (Nat.le_refl _) ⟨?_,rfl,rfl⟩;try rfl)
   ·rw [decide_eq_false (show ¬ C9 s from fun h=>hL h.2.2.1)]
    rw [decide_eq_false hL] at hl0
    repeat' (first|apply Ae.assoc|apply Ae.AA|apply Ae.BU|apply Ag.nil|apply Ag.one|(apply Ag.take;rfl;rfl)|(apply Ag.drop;rfl;rfl;rfl)|(apply Ag.guard;rfl;rfl)|(apply Aa.fn;rfl;rfl;exact hl0;intro _;rfl)|(apply Aa.QS (i:=0);rfl;rfl;rfl;omega)|(apply Aa.assign;rfl)|(apply Aa.move;rfl)|(apply Aa.int;rfl;rfl;rfl)|(apply Aa.BJ;rfl;rfl)|(apply Aa.AQ;rfl;rfl)|(apply Aa.Kw;rfl;rfl)|(apply Aa.eqS;rfl;rfl)|(apply Aa.not;rfl)|(apply Ae.Bg;rfl)|(intro _;try (exfalso;omega)))
    all_goals first|(exfalso;omega)|contradiction|(refine Done.ret rfl (.refl _) (by first|exact trivial|exact ⟨trivial,trivial,trivial⟩|exact ⟨trivial,trivial,trivial,trivial⟩) Aj.nil (Nat.zero_le _) (Nat.le_refl _) ⟨?_,rfl,rfl⟩;try rfl)
  ·rw [decide_eq_false (show ¬ C9 s from fun h=>h32 h.2.1)]
   repeat' (first|apply Ae.assoc|apply Ae.AA|apply Ae.BU|apply Ag.nil|apply Ag.one|(apply Ag.take;rfl;rfl)|(apply Ag.drop;rfl;rfl;rfl)|(apply Ag.guard;rfl;rfl)|(apply Aa.assign;rfl)|(apply Aa.move;rfl)|(apply Aa.int;rfl;rfl;rfl)|(apply Aa.BJ;rfl;rfl)|(apply Aa.AQ;rfl;rfl)|(apply Aa.Kw;rfl;rfl)|(apply Aa.eqS;rfl;rfl)|(apply Ae.Bg;rfl)|(intro _;try (exfalso;omega)))
   all_goals first|(exfalso;omega)|contradiction|(refine Done.ret rfl (.refl _) (by first|exact trivial|exact ⟨trivial,trivial,trivial⟩|exact ⟨trivial,trivial,trivial,trivial⟩) Aj.nil (Nat.zero_le _) (Nat.le_refl _) ⟨?_,rfl,rfl⟩;try rfl)
noncomputable def D8 (r:FT):Int:=if ¬ C9 r.name∨¬ C9 r.EC then 8 else if OJ r.Du≠0 then OJ r.Du else if r.first< -256∨r.first>256 then 3 else if r.ES.length=0 then 13 else if r.ES.length>128 then 4 else DW r.ES
def Nc (n:Int):Prop:=-256≤n∧n≤256
instance (n:Int):Decidable (Nc n):=by unfold Nc;infer_instance
theorem jR (n:Int):AZ env 87 [.int .i64 n] (.p (.bool (decide (Nc n)))):=by
 refine AZ.enter (AB (by decide)) Tryz.func87 rfl (by kernel_rfl) (by simp [Tryz.ntmps87]) ?_
 repeat' (first|apply Ae.AA|apply Ae.ret|apply Ag.nil|apply Ag.one|(apply Ag.take;rfl;rfl)|(apply Ag.drop;rfl;rfl;rfl)|(apply Ag.guard;rfl;rfl)|(apply Aa.assign;rfl)|(apply Aa.move;rfl)|(apply Aa.int;rfl;rfl;rfl)|(apply Aa.BJ;rfl;rfl)|(apply Aa.AQ;rfl;rfl)|(intro _;try (exfalso;omega)))
 all_goals (refine Done.ret rfl (.refl _) (by first|exact trivial|exact ⟨trivial,trivial,trivial⟩|exact ⟨trivial,trivial,trivial,trivial⟩) Aj.nil (Nat.zero_le _) (Nat.le_refl _) ⟨?_,rfl,rfl⟩;refine PV.Gp ?_;first|(refine decide_eq_decide.2 ⟨fun h=>by unfold Nc;omega,fun h=>by unfold Nc at h;omega⟩)|(symm;apply decide_eq_false;unfold Nc;omega))
theorem Ui (r:FT) (h1:r.name.length<9223372036854775808) (h2:r.EC.length<9223372036854775808) (h3:r.ES.length<9223372036854775808):AZ env 58 [.agg (Enc.enc r)] (.p (.int .i64 (D8 r))):=by
 have n1:=Hu r.name h1
 have n2:=Hu r.EC h2
 have p1:=Kt r.Du
 have f1:=jR r.first
 have w1:=jM r.ES h3
 unfold D8
 refine AZ.enter (AB (by decide)) Tryz.func58 rfl (by kernel_rfl) (by simp [Tryz.ntmps58]) ?_
 by_cases a1:C9 r.name
 ·rw [decide_eq_true a1] at n1
  by_cases a2:C9 r.EC
  ·rw [decide_eq_true a2] at n2
   rw [if_neg (fun h=>h.elim (fun h=>h a1) (fun h=>h a2))]
   by_cases a3:Nc r.first
   ·rw [decide_eq_true a3] at f1
    unfold Nc at a3
    repeat' (first|apply Ae.assoc|apply Ae.AA|apply Ae.Aq|apply Ae.BU|apply Ae.Ai|apply AO.normal|apply AO.ret|apply AL.normal|apply AL.ret|apply Ae.ret|apply Ae.skip|apply Ag.nil|apply Ag.one|(apply Ag.take;rfl;rfl)|(apply Aa.fn;rfl;rfl;exact n1;intro _;rfl)|(apply Aa.fn;rfl;rfl;exact n2;intro _;rfl)|(apply Aa.fn;rfl;rfl;exact p1;intro _;rfl)|(apply Aa.fn;rfl;rfl;exact f1;intro _;rfl)|(apply Aa.fn;rfl;rfl;exact w1;intro _;rfl)|(apply Aa.assign;rfl)|(apply Aa.move;rfl)|(apply Aa.int;rfl;rfl;rfl)|(apply Aa.load;rfl;rfl)|(apply Aa.AQ;rfl;rfl)|(apply Aa.BL;rfl;rfl)|(apply Aa.AP;rfl;rfl;rfl)|(apply Aa.box;rfl;trivial)|(apply Aa.not;rfl)|(apply Ae.Ar;rfl)|(apply Ae.Af;rfl)|(apply Ae.cond_false;rfl)|(apply Ae.AY;rfl)|(intro _;try (exfalso;omega)))
    all_goals first
     |(rw [if_pos (by assumption)];(refine Done.ret rfl (.refl _) (by first|exact trivial|exact ⟨trivial,trivial,trivial⟩|exact ⟨trivial,trivial,trivial,trivial⟩) Aj.nil (Nat.zero_le _) (Nat.le_refl _) ⟨?_,rfl,rfl⟩;try rfl);done)
     |(rw [if_neg (by assumption),if_neg (by omega),if_pos (by omega)];(refine Done.ret rfl (.refl _) (by first|exact trivial|exact ⟨trivial,trivial,trivial⟩|exact ⟨trivial,trivial,trivial,trivial⟩) Aj.nil (Nat.zero_le _) (Nat.le_refl _) ⟨?_,rfl,rfl⟩;try rfl);done)
     |(rw [if_neg (by assumption),if_neg (by omega),if_neg (by omega),if_pos (by omega)];(refine Done.ret rfl (.refl _) (by first|exact trivial|exact ⟨trivial,trivial,trivial⟩|exact ⟨trivial,trivial,trivial,trivial⟩) Aj.nil (Nat.zero_le _) (Nat.le_refl _) ⟨?_,rfl,rfl⟩;try rfl);done)
     |(rw [if_neg (by assumption),if_neg (by omega),if_neg (by omega),if_neg (by omega)];(refine Done.ret rfl (.refl _) (by first|exact trivial|exact ⟨trivial,trivial,trivial⟩|exact ⟨trivial,trivial,trivial,trivial⟩) Aj.nil (Nat.zero_le _) (Nat.le_refl _) ⟨?_,rfl,rfl⟩;try rfl);done)
   ·rw [decide_eq_false a3] at f1
    unfold Nc at a3
    repeat' (first|apply Ae.assoc|apply Ae.AA|apply Ae.Aq|apply Ae.BU|apply Ae.Ai|apply AO.ret|apply AL.ret|apply Ae.ret|apply Ag.nil|apply Ag.one|(apply Ag.take;rfl;rfl)|(apply Aa.fn;rfl;rfl;exact n1;intro _;rfl)|(apply Aa.fn;rfl;rfl;exact n2;intro _;rfl)|(apply Aa.fn;rfl;rfl;exact p1;intro _;rfl)|(apply Aa.fn;rfl;rfl;exact f1;intro _;rfl)|(apply Aa.assign;rfl)|(apply Aa.move;rfl)|(apply Aa.int;rfl;rfl;rfl)|(apply Aa.load;rfl;rfl)|(apply Aa.AQ;rfl;rfl)|(apply Aa.AP;rfl;rfl;rfl)|(apply Aa.box;rfl;trivial)|(apply Aa.not;rfl)|(apply Ae.Ar;rfl)|(apply Ae.Af;rfl)|(apply Ae.cond_true;rfl)|(intro _;try (exfalso;omega)))
    all_goals first
     |(rw [if_pos (by assumption)];(refine Done.ret rfl (.refl _) (by first|exact trivial|exact ⟨trivial,trivial,trivial⟩|exact ⟨trivial,trivial,trivial,trivial⟩) Aj.nil (Nat.zero_le _) (Nat.le_refl _) ⟨?_,rfl,rfl⟩;try rfl);done)
     |(rw [if_neg (by assumption),if_pos (by omega)];(refine Done.ret rfl (.refl _) (by first|exact trivial|exact ⟨trivial,trivial,trivial⟩|exact ⟨trivial,trivial,trivial,trivial⟩) Aj.nil (Nat.zero_le _) (Nat.le_refl _) ⟨?_,rfl,rfl⟩;try rfl);done)
  ·rw [decide_eq_false a2] at n2
   rw [if_pos (.inr a2)]
   repeat' (first|apply Ae.assoc|apply Ae.AA|apply Ae.BU|apply Ag.nil|apply Ag.one|(apply Ag.take;rfl;rfl)|(apply Aa.fn;rfl;rfl;exact n1;intro _;rfl)|(apply Aa.fn;rfl;rfl;exact n2;intro _;rfl)|(apply Aa.assign;rfl)|(apply Aa.move;rfl)|(apply Aa.load;rfl;rfl)|(apply Aa.AQ;rfl;rfl)|(apply Aa.AP;rfl;rfl;rfl)|(apply Aa.box;rfl;trivial)|(apply Aa.not;rfl)|(apply Ae.Bg;rfl))
   all_goals (refine Done.ret rfl (.refl _) (by first|exact trivial|exact ⟨trivial,trivial,trivial⟩|exact ⟨trivial,trivial,trivial,trivial⟩) Aj.nil (Nat.zero_le _) (Nat.le_refl _) ⟨?_,rfl,rfl⟩;try rfl)
 ·rw [decide_eq_false a1] at n1
  rw [if_pos (.inl a1)]
  repeat' (first|apply Ae.assoc|apply Ae.AA|apply Ae.BU|apply Ag.nil|apply Ag.one|(apply Ag.drop;rfl;rfl;rfl)|(apply Aa.fn;rfl;rfl;exact n1;intro _;rfl)|(apply Aa.assign;rfl)|(apply Aa.move;rfl)|(apply Aa.load;rfl;rfl)|(apply Aa.BJ;rfl;rfl)|(apply Aa.AP;rfl;rfl;rfl)|(apply Aa.box;rfl;trivial)|(apply Aa.not;rfl)|(apply Ae.Bg;rfl))
  all_goals (refine Done.ret rfl (.refl _) (by first|exact trivial|exact ⟨trivial,trivial,trivial⟩|exact ⟨trivial,trivial,trivial,trivial⟩) Aj.nil (Nat.zero_le _) (Nat.le_refl _) ⟨?_,rfl,rfl⟩;try rfl)
end Go.Proofs.YtdabojnmoejilaaGreatDoor
namespace Go.Proofs.YtdabojnmoejilaaGreatDoor
open Go Go.Am Go.Vm
structure bF where
 rank:Int
 shift:Int
instance:Enc bF:={ default:=⟨0,0⟩,enc:=fun x=>[.int .i64 x.rank,.int .i64 x.shift],size:=2,len:=fun _=>rfl }
structure Seg where
 lo:Int
 hi:Int
 draws:List bF
instance:Enc Seg:={ default:=⟨0,0,[]⟩,enc:=fun x=>[.int .i64 x.lo,.int .i64 x.hi,.lst 133 (cells x.draws) x.draws.length],size:=3,len:=fun _=>rfl }
structure Stp where
 name:List UInt8
 Du:JB
 Ez:List Seg
instance:Enc Stp:={ default:=⟨[],⟨0,0⟩,[]⟩,enc:=fun x=>[.str (bs x.name),.int .i64 x.Du.num,.int .i64 x.Du.den,.lst 136 (cells x.Ez) x.Ez.length],size:=4,len:=fun _=>rfl }
structure Yl where
 name:List UInt8
 Dn:Bool
 lo:Int
 hi:Int
 stops:List Stp
instance:Enc Yl:={ default:=⟨[],false,0,0,[]⟩,enc:=fun x=>[.str (bs x.name),.bool x.Dn,.int .i64 x.lo,.int .i64 x.hi,.lst 122 (cells x.stops) x.stops.length],size:=5,len:=fun _=>rfl }
structure ZR where
 name:List UInt8
 BF:Int
 tgt:Int
 shift:Int
 through:Bool
instance:Enc ZR:={ default:=⟨[],0,0,0,false⟩,enc:=fun x=>[.str (bs x.name),.int .i64 x.BF,.int .i64 x.tgt,.int .i64 x.shift,.bool x.through],size:=5,len:=fun _=>rfl }
structure EY where
 name:List UInt8
 ranks:List FT
 Aw:List Yl
 Gh:List ZR
instance:Enc EY:={ default:=⟨[],[],[],[]⟩,enc:=fun x=>[.str (bs x.name),.lst 131 (cells x.ranks) x.ranks.length,.lst 97 (cells x.Aw) x.Aw.length,.lst 147 (cells x.Gh) x.Gh.length],size:=4,len:=fun _=>rfl }
structure ZT where
 lo:Int
 hi:Int
instance:Enc ZT:={ default:=⟨0,0⟩,enc:=fun x=>[.int .i64 x.lo,.int .i64 x.hi],size:=2,len:=fun _=>rfl }
noncomputable instance (a b:bF):Decidable (a=b):=Classical.propDecidable _
noncomputable instance (a:bF) (l:List bF):Decidable (a∈l):=Classical.propDecidable _
noncomputable instance (a:List UInt8) (l:List (List UInt8)):Decidable (a∈l):=Classical.propDecidable _
def UG (lo hi:Int):Int:=if lo<0∨hi>127 then 3 else if lo>hi then 23 else 0
noncomputable def MR (n:Nat) (l:List bF) (k:Nat):Int :=
 if k<l.length then
  if (gi l k).rank<0∨(gi l k).rank≥n then 10 else if (gi l k).shift< -127∨(gi l k).shift>127 then 3 else if gi l k∈l.take k then 9 else MR n l (k+1)
 else 0
termination_by l.length-k
noncomputable def O9 (n:Nat) (l:List bF):Int:=if l.length>8 then 4 else MR n l 0
noncomputable def JK (n:Nat) (lo hi:Int) (l:List Seg) (k:Nat):Int :=
 if k<l.length then
  if min (gi l k).lo (gi l k).hi<lo∨max (gi l k).lo (gi l k).hi>hi then 23 else if (gi l k).lo>(gi l k).hi∨0<k∧(gi l k).lo≤(gi l (k-1)).hi then 6
  else if O9 n (gi l k).draws≠0 then O9 n (gi l k).draws else JK n lo hi l (k+1)
 else 0
termination_by l.length-k
noncomputable def wL (n:Nat) (lo hi:Int) (s:Stp):Int :=
 if ¬ C9 s.name then 8 else if OJ s.Du≠0 then OJ s.Du else if s.Ez.length=0 then 13 else if s.Ez.length>12 then 4 else JK n lo hi s.Ez 0
noncomputable def VL (l:List FT) (k:Nat):Int :=
 if k<l.length then if D8 (gi l k)≠0 then D8 (gi l k) else VL l (k+1) else 0
termination_by l.length-k
noncomputable def bV (l:List FT) (lo hi:Int):Int:=if l.length>60 then 4 else if VL l 0≠0 then VL l 0 else UG lo hi
noncomputable def Jp (rk:List FT) (lo hi:Int) (s:Stp):Int:=if bV rk lo hi≠0 then bV rk lo hi else wL rk.length lo hi s
noncomputable def NU (l:List FT) (k:Nat):Int :=
 if k<l.length then if D8 (gi l k)≠0 then D8 (gi l k) else if (gi l k).name∈(l.take k).map FT.name then 9 else NU l (k+1) else 0
termination_by l.length-k
noncomputable def MX (rk:List FT) (lo hi:Int) (l:List Stp) (k:Nat):Int :=
 if k<l.length then if Jp rk lo hi (gi l k)≠0 then Jp rk lo hi (gi l k) else if (gi l k).name∈(l.take k).map Stp.name then 9 else MX rk lo hi l (k+1) else 0
termination_by l.length-k
noncomputable def KJ (rk:List FT) (d:Yl):Int:=if UG d.lo d.hi≠0 then UG d.lo d.hi else if d.stops.length>60 then 4 else MX rk d.lo d.hi d.stops 0
noncomputable def F9 (rk:List FT) (l:List Yl) (k:Nat):Int :=
 if k<l.length then if ¬ C9 (gi l k).name then 8 else if (gi l k).name∈(l.take k).map Yl.name then 9 else if KJ rk (gi l k)≠0 then KJ rk (gi l k) else F9 rk l (k+1) else 0
termination_by l.length-k
noncomputable def Nz (n:Nat) (l:List ZR) (k:Nat):Int :=
 if k<l.length then
  if ¬ C9 (gi l k).name then 8 else if (gi l k).name∈(l.take k).map ZR.name then 9
  else if (gi l k).BF<0∨(gi l k).BF≥n∨(gi l k).tgt<0∨(gi l k).tgt≥n then 10
  else if (gi l k).shift< -127∨(gi l k).shift>127 then 3 else if (gi l k).BF=(gi l k).tgt∧(gi l k).shift=0 then 7 else Nz n l (k+1)
 else 0
termination_by l.length-k
noncomputable def P8 (l:List ZT) (k:Nat):Int:=if k<l.length then if UG (gi l k).lo (gi l k).hi≠0 then 23 else P8 l (k+1) else 0
termination_by l.length-k
noncomputable def SV (ks:List ZT) (l:List ZR):Int:=if ks.length>8∨l.length>40 then 4 else if P8 ks 0≠0 then P8 ks 0 else Nz ks.length l 0
noncomputable def KR (o:EY):Int :=
 if ¬ C9 o.name then 8 else if o.ranks.length>60 then 4 else if NU o.ranks 0≠0 then NU o.ranks 0 else if o.Aw.length=0 then 13 else if o.Aw.length>8 then 4
 else if F9 o.ranks o.Aw 0≠0 then F9 o.ranks o.Aw 0 else SV (o.Aw.map fun d=>⟨d.lo,d.hi⟩) o.Gh
structure a4w (x:Seg):Prop where
 draws:x.draws.length<1000000
structure X5 (x:Stp):Prop where
 name:x.name.length<1000000
 Ez:x.Ez.length<1000000
 all:∀ i,i<x.Ez.length→a4w (gi x.Ez i)
structure wC (x:Yl):Prop where
 name:x.name.length<1000000
 stops:x.stops.length<1000000
 all:∀ i,i<x.stops.length→X5 (gi x.stops i)
structure Vk (r:FT):Prop where
 name:r.name.length<1000000
 EC:r.EC.length<1000000
 ES:r.ES.length<1000000
structure OX (o:EY):Prop where
 name:o.name.length<1000000
 ranks:o.ranks.length<1000000
 Aw:o.Aw.length<1000000
 Gh:o.Gh.length<1000000
 rk:∀ i,i<o.ranks.length→Vk (gi o.ranks i)
 dv:∀ i,i<o.Aw.length→wC (gi o.Aw i)
 cp:∀ i,i<o.Gh.length→(gi o.Gh i).name.length<1000000
theorem Vk.len {r:FT} (h:Vk r):r.name.length<9223372036854775808∧r.EC.length<9223372036854775808∧r.ES.length<9223372036854775808:=⟨by have:=h.name;omega,by have:=h.EC;omega,by have:=h.ES;omega⟩
end Go.Proofs.YtdabojnmoejilaaGreatDoor
namespace Go.Proofs.YtdabojnmoejilaaGreatDoor
open Go Go.Am Go.Vm
theorem X3 {l:List FT} (h:∀ i,i<l.length→D8 (gi l i)=0):∀ n k,l.length-k=n→VL l k=0
 |0,k,hk=>by rw [VL,if_neg (by omega)]
 |n+1,k,hk=>by
  rw [VL,if_pos (by omega),if_neg (fun h'=>h' (h k (by omega)))]
  exact X3 h n (k+1) (by omega)
theorem SN {l:List FT} (h:∀ i,i<l.length→D8 (gi l i)=0∧(gi l i).name∉(l.take i).map FT.name):∀ n k,l.length-k=n→NU l k=0
 |0,k,hk=>by rw [NU,if_neg (by omega)]
 |n+1,k,hk=>by
  obtain ⟨h1,h2⟩:=h k (by omega)
  rw [NU,if_pos (by omega),if_neg (fun h'=>h' h1),if_neg h2]
  exact SN h n (k+1) (by omega)
theorem PI {rk:List FT} {lo hi:Int} {l:List Stp} (h:∀ i,i<l.length→Jp rk lo hi (gi l i)=0∧(gi l i).name∉(l.take i).map Stp.name):∀ n k,l.length-k=n→MX rk lo hi l k=0
 |0,k,hk=>by rw [MX,if_neg (by omega)]
 |n+1,k,hk=>by
  obtain ⟨h1,h2⟩:=h k (by omega)
  rw [MX,if_pos (by omega),if_neg (fun h'=>h' h1),if_neg h2]
  exact PI h n (k+1) (by omega)
theorem PU {rk:List FT} {l:List Yl} (h:∀ i,i<l.length→C9 (gi l i).name∧(gi l i).name∉(l.take i).map Yl.name∧KJ rk (gi l i)=0):∀ n k,l.length-k=n→F9 rk l k=0
 |0,k,hk=>by rw [F9,if_neg (by omega)]
 |n+1,k,hk=>by
  obtain ⟨h1,h2,h3⟩:=h k (by omega)
  rw [F9,if_pos (by omega),if_neg (fun h'=>h' h1),if_neg h2,if_neg (fun h'=>h' h3)]
  exact PU h n (k+1) (by omega)
theorem RD {l:List ZT} (h:∀ i,i<l.length→UG (gi l i).lo (gi l i).hi=0):∀ n k,l.length-k=n→P8 l k=0
 |0,k,hk=>by rw [P8,if_neg (by omega)]
 |n+1,k,hk=>by
  rw [P8,if_pos (by omega),if_neg (fun h'=>h' (h k (by omega)))]
  exact RD h n (k+1) (by omega)
structure qY (n:Nat) (c:ZR):Prop where
 name:C9 c.name
 BF:0≤c.BF∧c.BF<n
 tgt:0≤c.tgt∧c.tgt<n
 shift:-127≤c.shift∧c.shift≤127
 form:¬ (c.BF=c.tgt∧c.shift=0)
theorem VU {m:Nat} {l:List ZR} (h:∀ i,i<l.length→qY m (gi l i)∧(gi l i).name∉(l.take i).map ZR.name):∀ n k,l.length-k=n→Nz m l k=0
 |0,k,hk=>by rw [Nz,if_neg (by omega)]
 |n+1,k,hk=>by
  obtain ⟨⟨h1,h2,h3,h4,h5⟩,h6⟩:=h k (by omega)
  rw [Nz,if_pos (by omega),if_neg (fun h'=>h' h1),if_neg h6,if_neg (by omega),if_neg (by omega),if_neg h5]
  exact VU h n (k+1) (by omega)
structure Tv (n:Nat) (d:bF):Prop where
 rank:0≤d.rank∧d.rank<n
 shift:-127≤d.shift∧d.shift≤127
theorem PE {m:Nat} {l:List bF} (h:∀ i,i<l.length→Tv m (gi l i)∧gi l i∉l.take i):∀ n k,l.length-k=n→MR m l k=0
 |0,k,hk=>by rw [MR,if_neg (by omega)]
 |n+1,k,hk=>by
  obtain ⟨⟨h1,h2⟩,h3⟩:=h k (by omega)
  rw [MR,if_pos (by omega),if_neg (by omega),if_neg (by omega),if_neg h3]
  exact PE h n (k+1) (by omega)
theorem H9 {m:Nat} {d:bF} (h:Tv m d):O9 m [d]=0:=by
 unfold O9
 rw [if_neg (by simp)]
 exact PE (fun i hi=>by
  obtain rfl:i=0:=by simp at hi;omega
  exact ⟨h,by simp⟩) _ 0 rfl
theorem rF {m:Nat} {d e:bF} (h:Tv m d) (h':Tv m e) (hn:e≠d):O9 m [d,e]=0:=by
 unfold O9
 rw [if_neg (by simp)]
 refine PE (fun i hi=>?_) _ 0 rfl
 have:i=0∨i=1:=by simp at hi;omega
 rcases this with rfl|rfl
 ·exact ⟨h,by simp⟩
 ·exact ⟨h',by simpa [gi] using hn⟩
theorem Lr {lo hi:Int} (h:0≤lo∧lo≤hi∧hi≤127):UG lo hi=0:=by
 unfold UG
 rw [if_neg (by omega),if_neg (by omega)]
theorem Yq {l:List FT} {lo hi:Int} (h:∀ i,i<l.length→D8 (gi l i)=0) (hl:l.length≤60) (hc:0≤lo∧lo≤hi∧hi≤127):bV l lo hi=0:=by
 unfold bV
 rw [if_neg (by omega),if_neg (fun h'=>h' (X3 h _ 0 rfl)),Lr hc]
structure a4f (n:Nat) (lo hi:Int) (g:Seg):Prop where
 pl:lo≤g.lo∧g.lo≤g.hi∧g.hi≤hi
 draws:O9 n g.draws=0
theorem Qa {m:Nat} {lo hi:Int} {l:List Seg} (h:∀ i,i<l.length→a4f m lo hi (gi l i)∧(0<i→(gi l (i-1)).hi<(gi l i).lo)):∀ n k,l.length-k=n→JK m lo hi l k=0
 |0,k,hk=>by rw [JK,if_neg (by omega)]
 |n+1,k,hk=>by
  obtain ⟨⟨h1,h2⟩,h3⟩:=h k (by omega)
  rw [JK,if_pos (by omega),if_neg (by omega),if_neg (fun h'=>by
   rcases h' with h'|⟨h4,h5⟩
   ·omega
   ·have:=h3 h4;omega),if_neg (fun h'=>h' h2)]
  exact Qa h n (k+1) (by omega)
theorem Jy {n:Nat} {lo hi:Int} {s:Seg} (h1:lo≤s.lo∧s.lo≤s.hi∧s.hi≤hi) (h2:O9 n s.draws=0):JK n lo hi [s] 0=0 :=
 Qa (fun i hi=>by
  obtain rfl:i=0:=by simp at hi;omega
  exact ⟨⟨h1,h2⟩,fun h=>by omega⟩) _ 0 rfl
theorem Yx {n:Nat} {lo hi:Int} {s t:Seg} (h1:lo≤s.lo∧s.lo≤s.hi∧s.hi<t.lo∧t.lo≤t.hi∧t.hi≤hi) (h2:O9 n s.draws=0) (h3:O9 n t.draws=0):JK n lo hi [s,t] 0=0 :=
 Qa (fun i hi=>by
  have:i=0∨i=1:=by simp at hi;omega
  rcases this with rfl|rfl
  ·exact ⟨⟨⟨h1.1,h1.2.1,show s.hi≤_ by omega⟩,h2⟩,fun h=>by omega⟩
  ·exact ⟨⟨⟨show lo≤t.lo by omega,h1.2.2.2⟩,h3⟩,fun _=>h1.2.2.1⟩) _ 0 rfl
def LZ (c:UInt8) (i:Int):List UInt8:=[c,UInt8.ofNat (48+i).toNat]
theorem y9 {c:UInt8} {i j:Nat} (hi:i<10) (hj:j<10) (h:LZ c i=LZ c j):i=j:=by
 simp only [LZ,List.cons.injEq,and_true,true_and] at h
 have:=congrArg UInt8.toNat h
 rw [UInt8.toNat_ofNat',UInt8.toNat_ofNat'] at this
 omega
theorem WG {c:UInt8} (hc:eP c.toNat) {i:Nat} (hi:i<10):C9 (LZ c i):=by
 refine ⟨by simp [LZ],by simp [LZ],hc,fun j h1 h2=>?_⟩
 obtain rfl:j=1:=by simp [LZ] at h2;omega
 have e:(gi (LZ c i) 1).toNat=48+i:=by
  show (UInt8.ofNat (48+(i:Int)).toNat).toNat=_
  rw [UInt8.toNat_ofNat'];omega
 rw [e]
 right;left;omega
theorem Sm {α:Type} [Inhabited α] {f:α→List UInt8} {c:UInt8} {l:List α} (hl:l.length≤10) (h:∀ i,i<l.length→f (gi l i)=LZ c i) {k:Nat} (hk:k<l.length):f (gi l k)∉(l.take k).map f:=by
 intro hm
 rw [List.mem_map] at hm
 obtain ⟨a,ha,he⟩:=hm
 obtain ⟨j,hj,e⟩:=List.getElem_of_mem ha
 rw [List.length_take] at hj
 have e2:a=gi l j:=by
  rw [← e,List.getElem_take]
  simp [gi,List.getElem?_eq_getElem (show j<l.length by omega)]
 rw [e2,h j (by omega),h k hk] at he
 have:=y9 (by omega) (by omega) he
 omega
end Go.Proofs.YtdabojnmoejilaaGreatDoor
namespace Go.Proofs.YtdabojnmoejilaaGreatDoor
open Go Go.Am Go.Vm
attribute [local irreducible] Aa Ag Ak Ae BH AZ CW AO AL Az Vm.Done Di Bv Zu
theorem ZC (a b:List Int) (h0:0<a.length+b.length) (h1:a.length+b.length≤1000) :
 CW env 102 [.lst 52 [.lst 3 (cells a) a.length,.lst 3 (cells b) b.length] 2] 3 (cells (a++b)) (a.length+b.length) false:=by
 have hg:=rE (a.length+b.length) h0 (by omega)
 rw [show ((a.length+b.length:Nat):Int)=0+(a.length:Int)+(b.length:Int) by omega] at hg
 refine CW.enter (AB (by decide)) Tryz.func102 rfl (by kernel_rfl) (by simp [Tryz.ntmps102]) ?_
 repeat' (first|apply Ae.assoc|apply Ae.AA|apply Ae.Ai|apply Ag.nil|apply Ag.one|(apply Aa.assign;rfl)|(apply Aa.move;rfl)|(apply Aa.BL;rfl;rfl))
 refine Ae.mF 2 ?_
 repeat' (first|apply Ae.assoc|apply Ae.AA|apply Ae.region|apply Ae.Aq|apply Ae.A8|apply Ae.Ai|apply AO.normal|apply AL.normal|apply AL.exit|apply Az.exit|apply Ae.skip|apply Ag.nil|apply Ag.one|(apply Aa.fv;rfl;rfl;exact hg)|(apply Zu.zero)|(apply Zu.succ)|(apply Az.again)|(apply Aa.Sv;rfl;rfl;rfl;decide;decide)|(apply Aa.assign;rfl)|(apply Aa.move;rfl)|(apply Aa.Bz;rfl;rfl;omega)|(apply Aa.int;rfl;rfl;rfl)|(apply Aa.load;rfl;rfl)|(apply Aa.BL;rfl;rfl)|(apply Ae.Bg;rfl)|(apply Ae.Ar;rfl)|(apply Ae.cond_false;rfl))
 refine Ae.mF 2 ?_
 repeat' (first|apply Ae.AA|apply Ae.region|apply Ae.Aq|apply Ae.A8|apply Ae.Ai|apply AO.normal|apply AL.normal|apply AL.exit|apply Az.exit|apply Ae.ret|apply Ag.nil|apply Ag.one|(apply Zu.zero)|(apply Zu.succ)|(apply Az.again)|(apply Aa.Sv;rfl;rfl;rfl;decide;decide)|(apply Aa.Qk (l:=a) (r:=b);rfl;rfl;rfl;rfl;rfl;rfl;rfl;(intro _ h;cases h);rfl;rfl;rfl;decide;decide;omega)|(apply Aa.CS (r:=a);rfl;rfl;rfl;rfl;rfl;rfl;(intro _ h;cases h);rfl;rfl;rfl;decide;decide;omega)|(apply Aa.assign;rfl)|(apply Aa.move;rfl)|(apply Aa.Bz;rfl;rfl;omega)|(apply Aa.int;rfl;rfl;rfl)|(apply Aa.load;rfl;rfl)|(apply Ae.Bg;rfl)|(apply Ae.Ar;rfl))
 exact Di.ret rfl rfl rfl rfl
end Go.Proofs.YtdabojnmoejilaaGreatDoor
namespace Go.Proofs.YtdabojnmoejilaaGreatDoor
open Go Go.Am Go.Vm
attribute [local irreducible] Aa Ag Ak Ae BH AZ CW AO AL Az Vm.Done Di Bv
attribute [local irreducible] D8 DW sV Cb
def a6x (r:FT):Prop:=r.name.length<9223372036854775808∧r.EC.length<9223372036854775808∧r.ES.length<9223372036854775808
noncomputable def UF (r:FT) (n:Int):Int:=if D8 r≠0 then D8 r else if n<0∨n≥r.ES.length then 10 else 0
def JL:FV:=.agg [.str ⟨#[]⟩,.str ⟨#[]⟩,.int .i64 0,.int .i64 0,.int .i64 0,.val (.slice none 0 0)]
def yB (r:FT) (n:Int) (w:List Int):FV×Int:=if w.length>128 then (JL,4) else if ¬ Nc n then (JL,3) else (.agg (Enc.enc { r with first:=n,ES:=w }),0)
noncomputable def a5u (r:FT) (k:Int):Int×Bool×Int:=if UF r k≠0 then (0,false,UF r k) else if (Cb r.Du ⟨8,1⟩).2≠0∨r.first+k+(Cb r.Du ⟨8,1⟩).1<0∨r.first+k+(Cb r.Du ⟨8,1⟩).1>127 then (0,false,(Cb r.Du ⟨8,1⟩).2) else (r.first+k+(Cb r.Du ⟨8,1⟩).1,true,0)
end Go.Proofs.YtdabojnmoejilaaGreatDoor
namespace Go.Proofs.YtdabojnmoejilaaGreatDoor
open Go Go.Am Go.Vm
attribute [local irreducible] Aa Ag Ak Ae BH AZ CW AO AL Az Vm.Done Di Bv
attribute [local irreducible] D8 DW sV Cb
noncomputable def a7i (r:FT) (n:Int):Int×Bool×Int:=if D8 r≠0 then (0,false,D8 r) else if n<r.first∨n≥r.first+r.ES.length then (0,false,0) else (n-r.first,true,0)
noncomputable def a7s (r:FT) (w:List Int):FV×Int:=if D8 r≠0 then (JL,D8 r) else if DW w≠0 then (JL,DW w) else yB r (r.first-w.length) (w++r.ES)
noncomputable def a7o (r:FT) (f:JB):FV×Int:=if D8 r≠0 then (JL,D8 r) else if (Cb f r.Du).2≠0 then (JL,(Cb f r.Du).2) else if Nc (r.first-(Cb f r.Du).1) then (.agg (Enc.enc { r with first:=r.first-(Cb f r.Du).1,Du:=f }),0) else (JL,3)
end Go.Proofs.YtdabojnmoejilaaGreatDoor
namespace Go.Proofs.YtdabojnmoejilaaGreatDoor
open Go Go.Am Go.Vm
attribute [local irreducible] Aa Ag Ak Ae BH AZ CW AO AL Az Vm.Done Di Bv
attribute [local irreducible] D8 DW sV Cb UF
noncomputable def a9s (r:FT) (n:Int):Int×Int:=if UF r n≠0 then (0,UF r n) else (r.first+n,0)
noncomputable def b1b (r:FT) (n:Int):Int×Int:=if UF r n≠0 then (0,UF r n) else (gi r.ES n.toNat,0)
noncomputable def a9t (r:FT) (w:List Int):FV×Int:=if D8 r≠0 then (JL,D8 r) else if DW w≠0 then (JL,DW w) else yB r r.first (r.ES++w)
end Go.Proofs.YtdabojnmoejilaaGreatDoor
namespace Go.Proofs.YtdabojnmoejilaaGreatDoor
open Go Go.Am Go.Vm
attribute [local irreducible] Aa Ag Ak Ae BH AZ CW AO AL Az Vm.Done Di Bv
attribute [local irreducible] D8 DW sV Cb UF
def a3x (l:List Int):Nat→Int
 |0=>0
 |k+1=>a3x l k+gi l k
noncomputable def b1g (r:FT):Int×Int:=if D8 r≠0 then (0,D8 r) else (a3x r.ES r.ES.length,0)
def OT:List JB:=[⟨8,1⟩,⟨4,1⟩,⟨16,1⟩,⟨2,1⟩,⟨8,3⟩,⟨8,5⟩,⟨4,3⟩,⟨1,1⟩,⟨32,1⟩,⟨16,3⟩,⟨16,5⟩,⟨32,3⟩,⟨8,7⟩,⟨2,3⟩,⟨1,2⟩,⟨64,1⟩]
theorem mY (n:Nat) (hn:n<256):AZ env 83 [.int .u8 (n:Int)] (.p (.agg (Enc.enc (gi OT (n % 16))))):=by
 refine AZ.enter (AB (by decide)) Tryz.func83 rfl (by kernel_rfl) (by simp [Tryz.ntmps83]) ?_
 have hlt:n % 16<16:=Nat.mod_lt _ (by decide)
 repeat' (first|(refine Ag.I8 22 ?_;refine Ag.ghost (AX.freeze 19 rfl rfl) ?_)|apply Ae.AA|apply Ae.ret|apply Ag.nil|apply Ag.one|(apply Aa.AU (l:=OT) (i:=n % 16);rfl;rfl;rfl;exact hlt;rfl)|(apply Aa.move;rfl)|(apply Aa.Jk;rfl;rfl;omega;omega)|(apply Aa.load;rfl;rfl)|(apply Aa.alloc;rfl)|(apply Aa.Bj;rfl;rfl;rfl;trivial;rfl;rfl;exact Ac rfl;exact le_dec rfl)|(apply Aa.build;rfl;rfl;rfl;rfl;rfl)|(apply Aa.buildSlice;rfl;rfl;rfl;decide;rfl;rfl;rfl))
 all_goals (refine Done.ret rfl (.refl _) (by first|exact trivial|exact ⟨trivial,trivial,trivial⟩|exact ⟨trivial,trivial,trivial,trivial⟩) Aj.nil (Nat.zero_le _) (Nat.le_refl _) ⟨?_,rfl,rfl⟩;try rfl)
end Go.Proofs.YtdabojnmoejilaaGreatDoor
namespace Go.Proofs.YtdabojnmoejilaaGreatDoor
open Go Go.Am Go.Vm
attribute [local irreducible] Aa Ag Ak Ae BH AZ CW AO AL Az Vm.Done Di Bv
theorem fZ {r:FT} (h1:C9 r.name) (h2:C9 r.EC) (h3:oh r.Du) (h4:-256≤r.first∧r.first≤256) (h5:0<r.ES.length∧r.ES.length≤128) (h6:okW r.ES):D8 r=0:=by
 unfold D8
 rw [if_neg (fun h=>h.elim (fun h=>h h1) (fun h=>h h2)),if_neg (fun h=>h (Ot.2 h3)),if_neg (by omega),if_neg (by omega),if_neg (by omega)]
 exact if_pos h6
theorem oD:C9 [79,112,101,110]:=by
 refine ⟨by decide,by decide,by decide,fun i h1 h2=>?_⟩
 have:i=1∨i=2∨i=3:=by simp at h2;omega
 rcases this with rfl|rfl|rfl<;>exact .inl (by decide)
def b0o (f first:Int) (n:Nat):FT:=⟨[82,111,119],[79,112,101,110],⟨f,1⟩,first,List.replicate n 1⟩
def a7w:FT:=⟨[82,111,119],[79,112,101,110],⟨8,1⟩,24,List.replicate 12 0++List.replicate 61 1⟩
attribute [local irreducible] D8 DW sV Cb UF a7i a5u a7s a7o
end Go.Proofs.YtdabojnmoejilaaGreatDoor
namespace Go.Proofs.YtdabojnmoejilaaGreatDoor
open Go Go.Am Go.Vm
attribute [local irreducible] Aa Ag Ak Ae BH AZ CW AO AL Az Vm.Done Di Bv
instance encStr:Enc (List UInt8):={ default:=[],enc:=fun s=>[.str (bs s)],size:=1,len:=fun _=>rfl }
structure Gg where
 EC:Nat
 Du:Nat
 first:Int
 pipes:Nat
 ES:List Nat
def Gg.enc (x:Gg):List FV:=[.int .u8 (x.EC:Int),.int .u8 (x.Du:Int),.int .i8 x.first,.int .u8 (x.pipes:Int),.int .u8 ((gi x.ES 0:Nat):Int),.int .u8 ((gi x.ES 1:Nat):Int),.int .u8 ((gi x.ES 2:Nat):Int),.int .u8 ((gi x.ES 3:Nat):Int),.int .u8 ((gi x.ES 4:Nat):Int)]
structure Gg.Ok (x:Gg):Prop where
 EC:x.EC<256
 Du:x.Du<256
 first:-128≤x.first∧x.first≤127
 pipes:x.pipes<256
 ES:∀ i,gi x.ES i<256
def NZ:List (List UInt8):=[[79,112,101,110],[70,108,117,116,101],[82,101,101,100]]
def Ii (x:Gg):Nat→List Int
 |0=>[]
 |k+1=>Ii x k++[((gi x.ES (k % 5):Nat):Int)]
theorem FK (x:Gg):∀ k,(Ii x k).length=k
 |0=>rfl
 |k+1=>by simp [Ii,FK x k]
def SY (x:Gg) (i:Int):FT:=⟨[82,UInt8.ofNat (48+i % 10).toNat],gi NZ (x.EC % 3),gi OT (x.Du % 16),x.first,Ii x (1+x.pipes % 25)⟩
theorem oI (x:Gg) (hx:x.Ok) (i:Int) (hi:0≤i∧i≤1000):AZ env 55 [.agg x.enc,.int .i64 i] (.p (.agg (Enc.enc (SY x i)))):=by
 obtain ⟨h1,h2,h3,h4,h5⟩:=hx
 have hf:=mY x.Du h2
 have hlt:x.EC % 3<3:=Nat.mod_lt _ (by decide)
 refine AZ.enter (AB (by decide)) Tryz.func55 rfl (by kernel_rfl) (by simp [Tryz.ntmps55]) ?_
 repeat' (first|(refine Ak.I8 18 ?_;refine Ak.ghost (AX.freeze 14 rfl rfl) ?_)|apply Ae.assoc|apply Ae.AA|apply Ae.BA|apply Ae.Ai|apply Ag.nil|apply Ak.nil|apply Ag.one|(apply Ak.bar;decide +kernel)|apply Ak.quiet|(apply Aa.fn;rfl;rfl;exact hf;intro _;rfl)|(apply Aa.GN;rfl;rfl;rfl;rfl;rfl;omega)|(apply Aa.AU (l:=NZ) (i:=x.EC % 3);rfl;rfl;rfl;exact hlt;rfl)|(apply Aa.assign;rfl)|(apply Aa.move;rfl)|(apply Aa.Bz;rfl;rfl;omega)|(apply Aa.Jk;rfl;rfl;omega;omega)|(apply Aa.load;rfl;rfl)|(apply Aa.AP;rfl;rfl;rfl)|(apply Aa.box;rfl;trivial)|(apply Aa.alloc;rfl)|(apply Aa.Bj;rfl;rfl;rfl;trivial;rfl;rfl;exact Ac rfl;exact le_dec rfl)|(apply Aa.build;rfl;rfl;rfl;rfl;rfl)|(apply Aa.buildSlice;rfl;rfl;rfl;decide;rfl;rfl;rfl)|(apply Aa.UD;rfl;rfl;(first|omega|(simp only [List.length_take,List.length_drop,List.length_append,List.length_singleton,List.length_cons,List.length_nil]<;>omega)))|(apply Aa.Hr;rfl;rfl;rfl;rfl;omega)|(apply Aa.KY;rfl;rfl;rfl;rfl;omega))
 refine Ae.ghost (AX.EF 4 5 3 rfl rfl) ?_
 refine Ae.Ec (fun k:Nat=>[(2,.ref 0 0),(4,.ref 1 0),(5,.ref 4 0),(6,.p (.int .i64 (k:Int)))]) (fun k=>[(5,.vec 3 (cells (Ii x k)) (Ii x k).length true),(4,.box 131 [.p (.str (bs [82,UInt8.ofNat (48+i % 10).toNat])),.p (.str (bs (gi NZ (x.EC % 3)))),.p (.int .i64 (gi OT (x.Du % 16)).num),.p (.int .i64 (gi OT (x.Du % 16)).den),.p (.int .i64 x.first),.vec 5 (Ii x k).length 0 (Ii x k).length]),(1,.box 131 [.p (.str ⟨#[]⟩),.p (.str ⟨#[]⟩),.p (.int .i64 0),.p (.int .i64 0),.p (.int .i64 0),.p (.val (.slice none 0 0))]),(0,.box 150 (x.enc.map .p))]) 6 (fun k=>k≤1+x.pipes % 25) (fun k=>1+x.pipes % 25-k) 0 (by omega) (by omega) ⟨by omega,?_,?_⟩ ?_
 ·repeat (first|exact Ad.nil|refine Ad.same trivial rfl ?_|refine Ad.same (Ac rfl) rfl ?_|refine Ad.same ⟨trivial,Ac rfl,Ac rfl,Ac rfl,trivial⟩ rfl ?_|refine Ad.same ⟨trivial,Ac rfl,Ac rfl,trivial⟩ rfl ?_|refine Ad.same ⟨trivial,trivial⟩ rfl ?_|refine Ad.cons trivial rfl (.of_eq (Au (by simp<;>omega))) ?_)
 ·repeat (first|exact Aj.nil|(refine Aj.cons (Ac rfl) ?_ rfl ?_ ?_;(first|exact trivial|exact AV.Ah _ _|(simp [HB.under,AV.under,PV.under]));(first|exact Bq.refl _|exact Bq.vec (Bl.refl _) (by simp))))
 intro k hk
 have hl:=FK x k
 have hw:=h5 (k % 5)
 have e1:Ii x (k+1)=Ii x k++[((gi x.ES (k % 5):Nat):Int)]:=rfl
 have e2:(Ii x (k+1)).length=(Ii x k).length+1:=by rw [e1];simp
 have hr:(x.enc.map PV.p)[4+((k:Int) % 5).toNat*1]?=some (.p (.int .u8 ((gi x.ES (k % 5):Nat):Int))):=by
  have e0:((k:Int) % 5).toNat=k % 5:=by omega
  rw [e0]
  have:k % 5<5:=Nat.mod_lt _ (by decide)
  generalize k % 5=n at this
  match n,this with
  |0,_=>rfl
  |1,_=>rfl
  |2,_=>rfl
  |3,_=>rfl
  |4,_=>rfl
 repeat' (first|(refine Ae.at 6 ?_;refine Ae.ghost (AX.Bh 4 5 rfl rfl rfl) ?_;first|apply Ae.AA|apply Ae.BA)|apply Ae.assoc|apply Ae.AA|apply Ae.region|apply Ae.EZ|apply Ae.Aq|apply Ae.A8|apply Ae.Ai|apply AO.normal|apply AL.normal|apply AL.exit|apply Az.exit|apply Ae.ret|apply Ag.nil|apply Ak.nil|apply Ag.one|(apply Ak.bar;decide +kernel)|apply Ak.quiet|(apply Aa.uO;rfl;rfl;rfl;exact hr)|(apply Aa.UN;rfl;rfl;rfl;rfl;rfl;omega)|(apply Aa.assign;rfl)|(apply Aa.move;rfl)|(apply Aa.Bz;rfl;rfl;omega)|(apply Aa.Jk;rfl;rfl;omega;omega)|(apply Aa.int;rfl;rfl;rfl)|(apply Aa.load;rfl;rfl)|(apply Aa.AP;rfl;rfl;rfl)|(apply Aa.Bj;rfl;rfl;rfl;trivial;rfl;rfl;exact Ac rfl;exact le_dec rfl)|(apply Aa.buildSlice;rfl;rfl;rfl;decide;rfl;rfl;rfl)|(apply Aa.Hr;rfl;rfl;rfl;rfl;omega)|(apply Aa.Dp;rfl;rfl;rfl;rfl;rfl;rfl;rfl;rfl;(intro _ h;cases h);rfl;rfl;rfl;decide;decide;(first|omega|(simp only [List.length_take,List.length_drop,List.length_append,List.length_singleton,List.length_cons,List.length_nil]<;>omega)))|(apply Ae.Af;rfl)|(intro _;try (exfalso;omega)))
 ·refine Az.normal ⟨k+1,by omega,by omega,⟨by omega,?_,?_⟩⟩
  ·repeat (first|exact Ad.nil|refine Ad.same trivial rfl ?_|refine Ad.same (Ac rfl) rfl ?_|refine Ad.same ⟨trivial,Ac rfl,Ac rfl,Ac rfl,trivial⟩ rfl ?_|refine Ad.same ⟨trivial,Ac rfl,Ac rfl,trivial⟩ rfl ?_|refine Ad.same ⟨trivial,trivial⟩ rfl ?_|refine Ad.cons trivial rfl (.of_eq (Au (by simp<;>omega))) ?_)
  ·rw [e2,e1];repeat (first|exact Aj.nil|(refine Aj.cons (Ac rfl) ?_ rfl ?_ ?_;(first|exact trivial|exact AV.Ah _ _|(simp [HB.under,AV.under,PV.under]));(first|exact Bq.refl _|exact Bq.vec (Bl.refl _) (by simp))))
 ·obtain rfl:k=1+x.pipes % 25:=by omega
  refine Done.ret rfl (.refl _) (by first|exact trivial|exact ⟨trivial,trivial,trivial⟩|exact ⟨trivial,trivial,trivial,trivial⟩) Aj.nil (Nat.zero_le _) (Nat.le_refl _) ⟨?_,rfl,rfl⟩
  rfl
end Go.Proofs.YtdabojnmoejilaaGreatDoor
namespace Go.Proofs.YtdabojnmoejilaaGreatDoor
open Go Go.Am Go.Vm
attribute [local irreducible] Aa Ag Ak Ae BH AZ CW AO AL Az Vm.Done Di Bv
structure ni where
 rank:Nat
 Du:Nat
 kind:Nat
 at_:Nat
instance:Enc ni:={ default:=⟨0,0,0,0⟩,enc:=fun x=>[.int .u8 (x.rank:Int),.int .u8 (x.Du:Int),.int .u8 (x.kind:Int),.int .u8 (x.at_:Int)],size:=4,len:=fun _=>rfl }
structure ni.Ok (x:ni):Prop where
 rank:x.rank<256
 Du:x.Du<256
 kind:x.kind<256
 at_:x.at_<256
structure nT where
 low:Nat
 keys:Nat
 Dn:Bool
 stops:List ni
instance:Enc nT:={ default:=⟨0,0,false,[]⟩,enc:=fun x=>[.int .u8 (x.low:Int),.int .u8 (x.keys:Int),.bool x.Dn,.lst 72 (cells x.stops) x.stops.length],size:=4,len:=fun _=>rfl }
structure nT.Ok (x:nT):Prop where
 low:x.low<256
 keys:x.keys<256
 stops:x.stops.length<9223372036854775808
 all:∀ i,i<x.stops.length→(gi x.stops i).Ok
structure sZ where
 BF:Nat
 tgt:Nat
 shift:Int
 through:Bool
instance:Enc sZ:={ default:=⟨0,0,0,false⟩,enc:=fun x=>[.int .u8 (x.BF:Int),.int .u8 (x.tgt:Int),.int .i8 x.shift,.bool x.through],size:=4,len:=fun _=>rfl }
structure sZ.Ok (x:sZ):Prop where
 BF:x.BF<256
 tgt:x.tgt<256
 shift:-128≤x.shift∧x.shift≤127
instance a4o:Enc Gg:={ default:=⟨0,0,0,0,[]⟩,enc:=Gg.enc,size:=9,len:=fun _=>rfl }
structure nO where
 ranks:List Gg
 Aw:List nT
 links:List sZ
def nO.enc (x:nO):List FV:=[.lst 150 (cells x.ranks) x.ranks.length,.lst 75 (cells x.Aw) x.Aw.length,.lst 153 (cells x.links) x.links.length]
structure nO.Ok (x:nO):Prop where
 ranks:∀ i,i<x.ranks.length→(gi x.ranks i).Ok
 Aw:∀ i,i<x.Aw.length→(gi x.Aw i).Ok
 links:∀ i,i<x.links.length→(gi x.links i).Ok
 nr:x.ranks.length<9223372036854775808
 nd:x.Aw.length<9223372036854775808
 nl:x.links.length<9223372036854775808
def Fb:List JB:=[⟨8,1⟩,⟨4,1⟩,⟨16,1⟩,⟨8,3⟩,⟨2,1⟩,⟨8,5⟩]
theorem iq (n:Nat) (hn:n<256):AZ env 84 [.int .u8 (n:Int)] (.p (.agg (Enc.enc (gi Fb (n % 6))))):=by
 refine AZ.enter (AB (by decide)) Tryz.func84 rfl (by kernel_rfl) (by simp [Tryz.ntmps84]) ?_
 have hlt:n % 6<6:=Nat.mod_lt _ (by decide)
 repeat' (first|(refine Ag.I8 12 ?_;refine Ag.ghost (AX.freeze 9 rfl rfl) ?_)|apply Ae.AA|apply Ae.ret|apply Ag.nil|apply Ag.one|(apply Aa.AU (l:=Fb) (i:=n % 6);rfl;rfl;rfl;exact hlt;rfl)|(apply Aa.move;rfl)|(apply Aa.Jk;rfl;rfl;omega;omega)|(apply Aa.load;rfl;rfl)|(apply Aa.alloc;rfl)|(apply Aa.Bj;rfl;rfl;rfl;trivial;rfl;rfl;exact Ac rfl;exact le_dec rfl)|(apply Aa.build;rfl;rfl;rfl;rfl;rfl)|(apply Aa.buildSlice;rfl;rfl;rfl;decide;rfl;rfl;rfl))
 all_goals (refine Done.ret rfl (.refl _) (by first|exact trivial|exact ⟨trivial,trivial,trivial⟩|exact ⟨trivial,trivial,trivial,trivial⟩) Aj.nil (Nat.zero_le _) (Nat.le_refl _) ⟨?_,rfl,rfl⟩;try rfl)
theorem vJ:∀ n,n<6→oh (gi Fb n):=by decide +kernel
theorem tV:∀ a,a<6→∀ b,b<16→(Cb (gi Fb a) (gi OT b)).2=0∧-100≤(Cb (gi Fb a) (gi OT b)).1∧(Cb (gi Fb a) (gi OT b)).1≤100:=by decide +kernel
structure kX (rk:List FT):Prop where
 len:0<rk.length∧rk.length≤3
 ok:∀ i,i<rk.length→D8 (gi rk i)=0∧∃ b,b<16∧(gi rk i).Du=gi OT b
attribute [local irreducible] D8 DW Cb
theorem xX (rk:List FT) (lo hi:Int) (x:ni) (i:Nat) (hrk:kX rk) (hc:0≤lo∧lo≤hi∧hi≤127) (hx:x.Ok) (hi9:i≤9) :
 ∃ s:Stp,AZ env 56 [.lst 131 (cells rk) rk.length,.agg [.int .i64 lo,.int .i64 hi],.agg (Enc.enc x),.int .i64 (i:Int)] (.p (.agg (Enc.enc s)))∧s.name=LZ 83 i∧Jp rk lo hi s=0∧X5 s∧∃ a,a<6∧s.Du=gi Fb a:=by
 obtain ⟨hl,hok⟩:=hrk
 obtain ⟨x1,x2,x3,x4⟩:=hx
 obtain ⟨n,hn⟩:∃ n,n=x.rank % rk.length:=⟨_,rfl⟩
 have hnl:n<rk.length:=by rw [hn];exact Nat.mod_lt _ hl.1
 obtain ⟨m,hm⟩:∃ m,m=(n+1) % rk.length:=⟨_,rfl⟩
 have hml:m<rk.length:=by rw [hm];exact Nat.mod_lt _ hl.1
 have hf6:=iq x.Du x2
 have h6:x.Du % 6<6:=Nat.mod_lt _ (by decide)
 have f6:=vJ _ h6
 obtain ⟨-,b,hb,eb⟩:=hok n hnl
 obtain ⟨-,c,hc2,ec⟩:=hok m hml
 have s1:=tV _ h6 b hb
 have s2:=tV _ h6 c hc2
 rw [← eb] at s1
 rw [← ec] at s2
 generalize hF:gi Fb (x.Du % 6)=F at *
 have q1:=Kr F (gi rk n).Du
 have q2:=Kr F (gi rk m).Du
 rw [s1.1] at q1
 rw [s2.1] at q2
 generalize (Cb F (gi rk n).Du).1=sh at *
 generalize (Cb F (gi rk m).Du).1=so at *
 have a6w:bV rk lo hi=0:=Yq (fun i h=>(hok i h).1) (by omega) hc
 have MN:∀ g:List Seg,(0<g.length∧g.length≤12)→JK rk.length lo hi g 0=0→Jp rk lo hi ⟨LZ 83 i,F,g⟩=0:=fun g h1 h2=>by
  unfold Jp wL
  rw [if_neg (fun h=>h a6w),if_neg (fun h=>h (WG (by decide) (by omega))),if_neg (fun h=>h (Ot.2 f6)),if_neg (by simp only;omega),if_neg (by simp only;omega)]
  exact h2
 have sm:∀ g:List Seg,g.length<1000000→(∀ j,j<g.length→(gi g j).draws.length<1000000)→X5 ⟨LZ 83 i,F,g⟩:=fun g h1 h2=>⟨by simp [LZ],h1,fun j hj=>⟨h2 j hj⟩⟩
 have ZX:Tv rk.length ⟨n,sh⟩:=⟨⟨by simp only;omega,by simp only;omega⟩,⟨by simp only;omega,by simp only;omega⟩⟩
 have hn2:(n:Int)=(x.rank:Int) % rk.length:=by rw [hn];simp
 obtain ⟨d,hd⟩:∃ d:Nat,(d:Int)=(x.at_:Int) % (hi-lo+1):=⟨((x.at_:Int) % (hi-lo+1)).toNat,by have:=Int.emod_nonneg (x.at_:Int) (show hi-lo+1≠0 by omega);omega⟩
 have hd2:(d:Int)≤hi-lo:=by have:=Int.emod_lt_of_pos (x.at_:Int) (show 0<hi-lo+1 by omega);omega
 have hk6:x.kind % 6<6:=Nat.mod_lt _ (by decide)
 rw [hm,hn] at q2 hml
 rw [hn] at q1 hnl
 have hm2:(m:Int)=((x.rank:Int) % rk.length+1) % rk.length:=by rw [hm,hn];simp
 have hAt:lo+(d:Int)=lo+(x.at_:Int) % (hi-lo+1):=by omega
 rw [hn2] at ZX
 have dSo:Tv rk.length ⟨((x.rank:Int) % rk.length+1) % rk.length,so⟩:=by
  rw [← hm2]
  exact ⟨⟨by simp only;omega,by simp only;rw [hm];have:=Nat.mod_lt (n+1) hl.1;omega⟩,⟨by simp only;omega,by simp only;omega⟩⟩
 have dTw:Tv rk.length ⟨(x.rank:Int) % rk.length,sh-12⟩:=⟨ZX.rank,⟨by simp only;omega,by simp only;omega⟩⟩
 have dTh:Tv rk.length ⟨(x.rank:Int) % rk.length,sh+7⟩:=⟨ZX.rank,⟨by simp only;omega,by simp only;omega⟩⟩
 by_cases k2:x.kind % 6=2
 ·refine ⟨⟨LZ 83 i,F,[⟨lo,hi,[⟨(x.rank:Int) % rk.length,sh⟩,⟨(x.rank:Int) % rk.length,sh+7⟩]⟩]⟩,?_,rfl,?_,?_,_,h6,hF.symm⟩
  ·refine AZ.enter (AB (by decide)) Tryz.func56 rfl (by kernel_rfl) (by simp [Tryz.ntmps56]) ?_
   repeat' (first|(refine Ae.at 5 ?_;refine Ae.ghost (AX.freeze 13 rfl rfl) ?_;first|apply Ae.AA|apply Ae.BA)|(refine Ae.at 22 ?_;refine Ae.ghost (AX.Bh 4 3 rfl rfl rfl) ?_;first|apply Ae.AA|apply Ae.BA)|(refine Ag.I8 88 ?_;refine Ag.ghost (AX.freeze 87 rfl rfl) ?_)|apply Ae.assoc|apply Ae.AA|apply Ae.BA|apply Ae.region|apply Ae.Ai|apply AO.normal|apply AL.normal|apply Ae.ret|apply Ag.nil|apply Ak.nil|apply Ag.one|(apply Ak.bar;decide +kernel)|apply Ak.quiet|(apply Aa.fn;rfl;rfl;exact hf6;intro _;rfl)|(apply Aa.fn;rfl;rfl;exact q1;intro _;rfl)|(apply Aa.GN;rfl;rfl;rfl;rfl;rfl;omega)|(apply Aa.AU (l:=rk) (i:=x.rank % rk.length);rfl;rfl;rfl;exact hnl;rfl)|(apply Aa.assign;rfl)|(apply Aa.move;rfl)|(apply Aa.Bz;rfl;rfl;omega)|(apply Aa.Ir;rfl;rfl;omega)|(apply Aa.Jk;rfl;rfl;omega;omega)|(apply Aa.int;rfl;rfl;rfl)|(apply Aa.load;rfl;rfl)|(apply Aa.BL;rfl;rfl)|(apply Aa.AP;rfl;rfl;rfl)|(apply Aa.DC;rfl;rfl)|(apply Aa.box;rfl;trivial)|(apply Aa.alloc;rfl)|(apply Aa.Bj;rfl;rfl;rfl;trivial;rfl;rfl;exact Ac rfl;exact le_dec rfl)|(apply Aa.build;rfl;rfl;rfl;rfl;rfl)|(apply Aa.buildSlice;rfl;rfl;rfl;decide;rfl;rfl;rfl)|(apply Aa.UD;rfl;rfl;(first|omega|(simp only [List.length_take,List.length_drop,List.length_append,List.length_singleton,List.length_cons,List.length_nil]<;>omega)))|(apply Aa.extract;rfl;rfl)|(apply Aa.Hr;rfl;rfl;rfl;rfl;omega)|(apply Aa.KY;rfl;rfl;rfl;rfl;omega)|(apply Ae.AY;rfl)|(intro _;try (exfalso;omega)))
   all_goals first|(exfalso;omega)|contradiction|(refine Done.ret rfl (.refl _) (by first|exact trivial|exact ⟨trivial,trivial,trivial⟩|exact ⟨trivial,trivial,trivial,trivial⟩) Aj.nil (Nat.zero_le _) (Nat.le_refl _) ⟨?_,rfl,rfl⟩;rfl)
  ·exact MN _ (by simp) (Jy ⟨Int.le_refl _,hc.2.1,Int.le_refl _⟩ (rF ZX dTh (fun h=>by have:=congrArg bF.shift h;simp only at this;omega)))
  ·refine sm _ (by simp) (fun j hj=>?_)
   obtain rfl:j=0:=by simp at hj;omega
   show 2<1000000
   decide
 by_cases k5:x.kind % 6=5
 ·refine ⟨⟨LZ 83 i,F,[⟨lo+(x.at_:Int) % (hi-lo+1),hi,[⟨(x.rank:Int) % rk.length,sh⟩]⟩]⟩,?_,rfl,?_,?_,_,h6,hF.symm⟩
  ·refine AZ.enter (AB (by decide)) Tryz.func56 rfl (by kernel_rfl) (by simp [Tryz.ntmps56]) ?_
   repeat' (first|(refine Ae.at 5 ?_;refine Ae.ghost (AX.freeze 13 rfl rfl) ?_;first|apply Ae.AA|apply Ae.BA)|(refine Ae.at 22 ?_;refine Ae.ghost (AX.Bh 4 3 rfl rfl rfl) ?_;first|apply Ae.AA|apply Ae.BA)|apply Ae.assoc|apply Ae.AA|apply Ae.BA|apply Ae.region|apply Ae.Ai|apply AO.normal|apply AL.normal|apply Ae.ret|apply Ag.nil|apply Ak.nil|apply Ag.one|(apply Ak.bar;decide +kernel)|apply Ak.quiet|(apply Aa.fn;rfl;rfl;exact hf6;intro _;rfl)|(apply Aa.fn;rfl;rfl;exact q1;intro _;rfl)|(apply Aa.GN;rfl;rfl;rfl;rfl;rfl;omega)|(apply Aa.AU (l:=rk) (i:=x.rank % rk.length);rfl;rfl;rfl;exact hnl;rfl)|(apply Aa.assign;rfl)|(apply Aa.move;rfl)|(apply Aa.Bz;rfl;rfl;omega)|(apply Aa.Ir;rfl;rfl;omega)|(apply Aa.Jk;rfl;rfl;omega;omega)|(apply Aa.int;rfl;rfl;rfl)|(apply Aa.load;rfl;rfl)|(apply Aa.BL;rfl;rfl)|(apply Aa.AP;rfl;rfl;rfl)|(apply Aa.DC;rfl;rfl)|(apply Aa.box;rfl;trivial)|(apply Aa.alloc;rfl)|(apply Aa.Bj;rfl;rfl;rfl;trivial;rfl;rfl;exact Ac rfl;exact le_dec rfl)|(apply Aa.build;rfl;rfl;rfl;rfl;rfl)|(apply Aa.buildSlice;rfl;rfl;rfl;decide;rfl;rfl;rfl)|(apply Aa.UD;rfl;rfl;(first|omega|(simp only [List.length_take,List.length_drop,List.length_append,List.length_singleton,List.length_cons,List.length_nil]<;>omega)))|(apply Aa.extract;rfl;rfl)|(apply Aa.Hr;rfl;rfl;rfl;rfl;omega)|(apply Aa.KY;rfl;rfl;rfl;rfl;omega)|(apply Ae.Af;rfl)|(apply Ae.AY;rfl)|(intro _;try (exfalso;omega)))
   all_goals first|(exfalso;omega)|contradiction|(refine Done.ret rfl (.refl _) (by first|exact trivial|exact ⟨trivial,trivial,trivial⟩|exact ⟨trivial,trivial,trivial,trivial⟩) Aj.nil (Nat.zero_le _) (Nat.le_refl _) ⟨?_,rfl,rfl⟩;rfl)
  ·exact MN _ (by simp) (Jy ⟨by simp only;omega,by simp only;omega,Int.le_refl _⟩ (H9 ZX))
  ·refine sm _ (by simp) (fun j hj=>?_)
   obtain rfl:j=0:=by simp at hj;omega
   show 1<1000000
   decide
 by_cases k01:x.kind % 6<2
 ·refine ⟨⟨LZ 83 i,F,[⟨lo,hi,[⟨(x.rank:Int) % rk.length,sh⟩]⟩]⟩,?_,rfl,?_,?_,_,h6,hF.symm⟩
  ·refine AZ.enter (AB (by decide)) Tryz.func56 rfl (by kernel_rfl) (by simp [Tryz.ntmps56]) ?_
   repeat' (first|(refine Ae.at 5 ?_;refine Ae.ghost (AX.freeze 13 rfl rfl) ?_;first|apply Ae.AA|apply Ae.BA)|(refine Ae.at 22 ?_;refine Ae.ghost (AX.Bh 4 3 rfl rfl rfl) ?_;first|apply Ae.AA|apply Ae.BA)|apply Ae.assoc|apply Ae.AA|apply Ae.BA|apply Ae.region|apply Ae.Ai|apply AO.normal|apply AL.normal|apply Ae.ret|apply Ag.nil|apply Ak.nil|apply Ag.one|(apply Ak.bar;decide +kernel)|apply Ak.quiet|(apply Aa.fn;rfl;rfl;exact hf6;intro _;rfl)|(apply Aa.fn;rfl;rfl;exact q1;intro _;rfl)|(apply Aa.GN;rfl;rfl;rfl;rfl;rfl;omega)|(apply Aa.AU (l:=rk) (i:=x.rank % rk.length);rfl;rfl;rfl;exact hnl;rfl)|(apply Aa.assign;rfl)|(apply Aa.move;rfl)|(apply Aa.Bz;rfl;rfl;omega)|(apply Aa.Ir;rfl;rfl;omega)|(apply Aa.Jk;rfl;rfl;omega;omega)|(apply Aa.int;rfl;rfl;rfl)|(apply Aa.load;rfl;rfl)|(apply Aa.BL;rfl;rfl)|(apply Aa.AP;rfl;rfl;rfl)|(apply Aa.DC;rfl;rfl)|(apply Aa.box;rfl;trivial)|(apply Aa.alloc;rfl)|(apply Aa.Bj;rfl;rfl;rfl;trivial;rfl;rfl;exact Ac rfl;exact le_dec rfl)|(apply Aa.build;rfl;rfl;rfl;rfl;rfl)|(apply Aa.buildSlice;rfl;rfl;rfl;decide;rfl;rfl;rfl)|(apply Aa.UD;rfl;rfl;(first|omega|(simp only [List.length_take,List.length_drop,List.length_append,List.length_singleton,List.length_cons,List.length_nil]<;>omega)))|(apply Aa.extract;rfl;rfl)|(apply Aa.Hr;rfl;rfl;rfl;rfl;omega)|(apply Aa.KY;rfl;rfl;rfl;rfl;omega)|(apply Ae.Af;rfl)|(apply Ae.AY;rfl)|(intro _;try (exfalso;omega)))
   all_goals first|(exfalso;omega)|contradiction|(refine Done.ret rfl (.refl _) (by first|exact trivial|exact ⟨trivial,trivial,trivial⟩|exact ⟨trivial,trivial,trivial,trivial⟩) Aj.nil (Nat.zero_le _) (Nat.le_refl _) ⟨?_,rfl,rfl⟩;rfl)
  ·exact MN _ (by simp) (Jy ⟨Int.le_refl _,hc.2.1,Int.le_refl _⟩ (H9 ZX))
  ·refine sm _ (by simp) (fun j hj=>?_)
   obtain rfl:j=0:=by simp at hj;omega
   show 1<1000000
   decide
 by_cases hd0:d=0
 ·by_cases k3:x.kind % 6=3
  ·refine ⟨⟨LZ 83 i,F,[⟨lo+(x.at_:Int) % (hi-lo+1),hi,[⟨((x.rank:Int) % rk.length+1) % rk.length,so⟩]⟩]⟩,?_,rfl,?_,?_,_,h6,hF.symm⟩
   ·refine AZ.enter (AB (by decide)) Tryz.func56 rfl (by kernel_rfl) (by simp [Tryz.ntmps56]) ?_
    repeat' (first|(refine Ae.at 17 ?_;refine Ae.ghost (AX.trans (AX.freeze 15 rfl rfl) (AX.EF 4 3 136 rfl rfl)) ?_;first|apply Ae.AA|apply Ae.BA)|(refine Ae.at 5 ?_;refine Ae.ghost (AX.freeze 13 rfl rfl) ?_;first|apply Ae.AA|apply Ae.BA)|(refine Ae.at 22 ?_;refine Ae.ghost (AX.Bh 4 3 rfl rfl rfl) ?_;first|apply Ae.AA|apply Ae.BA)|apply Ae.assoc|apply Ae.AA|apply Ae.BA|apply Ae.region|apply Ae.Aq|apply Ae.Ai|apply AO.normal|apply AL.normal|apply Ae.ret|apply Ag.nil|apply Ak.nil|apply Ag.one|(apply Ak.bar;decide +kernel)|apply Ak.quiet|(apply Aa.Dp (l:=([]:List Seg)) (a:=⟨lo+(x.at_:Int) % (hi-lo+1),hi,[⟨((x.rank:Int) % rk.length+1) % rk.length,so⟩]⟩);rfl;rfl;rfl;rfl;rfl;rfl;rfl;rfl;(intro _ h;cases h);rfl;rfl;rfl;decide;decide;(first|omega|(simp only [List.length_nil,List.length_cons]<;>omega)))|(apply Aa.fn;rfl;rfl;exact hf6;intro _;rfl)|(apply Aa.fn;rfl;rfl;exact q1;intro _;rfl)|(apply Aa.fn;rfl;rfl;exact q2;intro _;rfl)|(apply Aa.GN;rfl;rfl;rfl;rfl;rfl;omega)|(apply Aa.AU (l:=rk) (i:=x.rank % rk.length);rfl;rfl;rfl;exact hnl;rfl)|(apply Aa.AU (l:=rk) (i:=(x.rank % rk.length+1) % rk.length);rfl;rfl;rfl;exact hml;rfl)|(apply Aa.assign;rfl)|(apply Aa.move;rfl)|(apply Aa.Bz;rfl;rfl;omega)|(apply Aa.Ir;rfl;rfl;omega)|(apply Aa.Jk;rfl;rfl;omega;omega)|(apply Aa.int;rfl;rfl;rfl)|(apply Aa.load;rfl;rfl)|(apply Aa.BL;rfl;rfl)|(apply Aa.AP;rfl;rfl;rfl)|(apply Aa.DC;rfl;rfl)|(apply Aa.box;rfl;trivial)|(apply Aa.alloc;rfl)|(apply Aa.Bj;rfl;rfl;rfl;trivial;rfl;rfl;exact Ac rfl;exact le_dec rfl)|(apply Aa.build;rfl;rfl;rfl;rfl;rfl)|(apply Aa.buildSlice;rfl;rfl;rfl;decide;rfl;rfl;rfl)|(apply Aa.UD;rfl;rfl;(first|omega|(simp only [List.length_take,List.length_drop,List.length_append,List.length_singleton,List.length_cons,List.length_nil]<;>omega)))|(apply Aa.extract;rfl;rfl)|(apply Aa.Hr;rfl;rfl;rfl;rfl;omega)|(apply Aa.KY;rfl;rfl;rfl;rfl;omega)|(apply Ae.Af;rfl)|(apply Ae.AY;rfl)|(intro _;try (exfalso;omega)))
    all_goals first|(exfalso;omega)|contradiction|(refine Done.ret rfl (.refl _) (by first|exact trivial|exact ⟨trivial,trivial,trivial⟩|exact ⟨trivial,trivial,trivial,trivial⟩) Aj.nil (Nat.zero_le _) (Nat.le_refl _) ⟨?_,rfl,rfl⟩;rfl)
   ·exact MN _ (by simp) (Jy ⟨by simp only;omega,by simp only;omega,Int.le_refl _⟩ (H9 dSo))
   ·refine sm _ (by simp) (fun j hj=>?_)
    obtain rfl:j=0:=by simp at hj;omega
    show 1<1000000
    decide
  ·refine ⟨⟨LZ 83 i,F,[⟨lo+(x.at_:Int) % (hi-lo+1),hi,[⟨(x.rank:Int) % rk.length,sh-12⟩]⟩]⟩,?_,rfl,?_,?_,_,h6,hF.symm⟩
   ·refine AZ.enter (AB (by decide)) Tryz.func56 rfl (by kernel_rfl) (by simp [Tryz.ntmps56]) ?_
    repeat' (first|(refine Ae.at 17 ?_;refine Ae.ghost (AX.trans (AX.freeze 15 rfl rfl) (AX.EF 4 3 136 rfl rfl)) ?_;first|apply Ae.AA|apply Ae.BA)|(refine Ae.at 5 ?_;refine Ae.ghost (AX.freeze 13 rfl rfl) ?_;first|apply Ae.AA|apply Ae.BA)|(refine Ae.at 22 ?_;refine Ae.ghost (AX.Bh 4 3 rfl rfl rfl) ?_;first|apply Ae.AA|apply Ae.BA)|apply Ae.assoc|apply Ae.AA|apply Ae.BA|apply Ae.region|apply Ae.Aq|apply Ae.Ai|apply AO.normal|apply AL.normal|apply Ae.ret|apply Ag.nil|apply Ak.nil|apply Ag.one|(apply Ak.bar;decide +kernel)|apply Ak.quiet|(apply Aa.Dp (l:=([]:List Seg)) (a:=⟨lo+(x.at_:Int) % (hi-lo+1),hi,[⟨(x.rank:Int) % rk.length,sh-12⟩]⟩);rfl;rfl;rfl;rfl;rfl;rfl;rfl;rfl;(intro _ h;cases h);rfl;rfl;rfl;decide;decide;(first|omega|(simp only [List.length_nil,List.length_cons]<;>omega)))|(apply Aa.fn;rfl;rfl;exact hf6;intro _;rfl)|(apply Aa.fn;rfl;rfl;exact q1;intro _;rfl)|(apply Aa.GN;rfl;rfl;rfl;rfl;rfl;omega)|(apply Aa.AU (l:=rk) (i:=x.rank % rk.length);rfl;rfl;rfl;exact hnl;rfl)|(apply Aa.assign;rfl)|(apply Aa.move;rfl)|(apply Aa.Bz;rfl;rfl;omega)|(apply Aa.Ir;rfl;rfl;omega)|(apply Aa.Jk;rfl;rfl;omega;omega)|(apply Aa.int;rfl;rfl;rfl)|(apply Aa.load;rfl;rfl)|(apply Aa.BL;rfl;rfl)|(apply Aa.AP;rfl;rfl;rfl)|(apply Aa.DC;rfl;rfl)|(apply Aa.box;rfl;trivial)|(apply Aa.alloc;rfl)|(apply Aa.Bj;rfl;rfl;rfl;trivial;rfl;rfl;exact Ac rfl;exact le_dec rfl)|(apply Aa.build;rfl;rfl;rfl;rfl;rfl)|(apply Aa.buildSlice;rfl;rfl;rfl;decide;rfl;rfl;rfl)|(apply Aa.UD;rfl;rfl;(first|omega|(simp only [List.length_take,List.length_drop,List.length_append,List.length_singleton,List.length_cons,List.length_nil]<;>omega)))|(apply Aa.extract;rfl;rfl)|(apply Aa.Hr;rfl;rfl;rfl;rfl;omega)|(apply Aa.KY;rfl;rfl;rfl;rfl;omega)|(apply Ae.Af;rfl)|(apply Ae.AY;rfl)|(intro _;try (exfalso;omega)))
    all_goals first|(exfalso;omega)|contradiction|(refine Done.ret rfl (.refl _) (by first|exact trivial|exact ⟨trivial,trivial,trivial⟩|exact ⟨trivial,trivial,trivial,trivial⟩) Aj.nil (Nat.zero_le _) (Nat.le_refl _) ⟨?_,rfl,rfl⟩;rfl)
   ·exact MN _ (by simp) (Jy ⟨by simp only;omega,by simp only;omega,Int.le_refl _⟩ (H9 dTw))
   ·refine sm _ (by simp) (fun j hj=>?_)
    obtain rfl:j=0:=by simp at hj;omega
    show 1<1000000
    decide
 ·by_cases k3:x.kind % 6=3
  ·refine ⟨⟨LZ 83 i,F,[⟨lo,lo+(x.at_:Int) % (hi-lo+1)-1,[⟨(x.rank:Int) % rk.length,sh⟩]⟩,⟨lo+(x.at_:Int) % (hi-lo+1),hi,[⟨((x.rank:Int) % rk.length+1) % rk.length,so⟩]⟩]⟩,?_,rfl,?_,?_,_,h6,hF.symm⟩
   ·refine AZ.enter (AB (by decide)) Tryz.func56 rfl (by kernel_rfl) (by simp [Tryz.ntmps56]) ?_
    repeat' (first|(refine Ae.at 17 ?_;refine Ae.ghost (AX.trans (AX.freeze 15 rfl rfl) (AX.EF 4 3 136 rfl rfl)) ?_;first|apply Ae.AA|apply Ae.BA)|(refine Ae.at 5 ?_;refine Ae.ghost (AX.freeze 13 rfl rfl) ?_;first|apply Ae.AA|apply Ae.BA)|(refine Ae.at 22 ?_;refine Ae.ghost (AX.Bh 4 3 rfl rfl rfl) ?_;first|apply Ae.AA|apply Ae.BA)|apply Ae.assoc|apply Ae.AA|apply Ae.BA|apply Ae.region|apply Ae.Aq|apply Ae.Ai|apply AO.normal|apply AL.normal|apply Ae.ret|apply Ag.nil|apply Ak.nil|apply Ag.one|(apply Ak.bar;decide +kernel)|apply Ak.quiet|(apply Aa.Dp (l:=([]:List Seg)) (a:=⟨lo,lo+(x.at_:Int) % (hi-lo+1)-1,[⟨(x.rank:Int) % rk.length,sh⟩]⟩);rfl;rfl;rfl;rfl;rfl;rfl;rfl;rfl;(intro _ h;cases h);rfl;rfl;rfl;decide;decide;(first|omega|(simp only [List.length_nil,List.length_cons]<;>omega)))|(apply Aa.Dp (l:=([⟨lo,lo+(x.at_:Int) % (hi-lo+1)-1,[⟨(x.rank:Int) % rk.length,sh⟩]⟩]:List Seg)) (a:=⟨lo+(x.at_:Int) % (hi-lo+1),hi,[⟨((x.rank:Int) % rk.length+1) % rk.length,so⟩]⟩);rfl;rfl;rfl;rfl;rfl;rfl;rfl;rfl;(intro _ h;cases h);rfl;rfl;rfl;decide;decide;(first|omega|(simp only [List.length_nil,List.length_cons]<;>omega)))|(apply Aa.fn;rfl;rfl;exact hf6;intro _;rfl)|(apply Aa.fn;rfl;rfl;exact q1;intro _;rfl)|(apply Aa.fn;rfl;rfl;exact q2;intro _;rfl)|(apply Aa.GN;rfl;rfl;rfl;rfl;rfl;omega)|(apply Aa.AU (l:=rk) (i:=x.rank % rk.length);rfl;rfl;rfl;exact hnl;rfl)|(apply Aa.AU (l:=rk) (i:=(x.rank % rk.length+1) % rk.length);rfl;rfl;rfl;exact hml;rfl)|(apply Aa.assign;rfl)|(apply Aa.move;rfl)|(apply Aa.Bz;rfl;rfl;omega)|(apply Aa.Ir;rfl;rfl;omega)|(apply Aa.Jk;rfl;rfl;omega;omega)|(apply Aa.int;rfl;rfl;rfl)|(apply Aa.load;rfl;rfl)|(apply Aa.BL;rfl;rfl)|(apply Aa.AP;rfl;rfl;rfl)|(apply Aa.DC;rfl;rfl)|(apply Aa.box;rfl;trivial)|(apply Aa.alloc;rfl)|(apply Aa.Bj;rfl;rfl;rfl;trivial;rfl;rfl;exact Ac rfl;exact le_dec rfl)|(apply Aa.build;rfl;rfl;rfl;rfl;rfl)|(apply Aa.buildSlice;rfl;rfl;rfl;decide;rfl;rfl;rfl)|(apply Aa.UD;rfl;rfl;(first|omega|(simp only [List.length_take,List.length_drop,List.length_append,List.length_singleton,List.length_cons,List.length_nil]<;>omega)))|(apply Aa.extract;rfl;rfl)|(apply Aa.Hr;rfl;rfl;rfl;rfl;omega)|(apply Aa.KY;rfl;rfl;rfl;rfl;omega)|(apply Ae.Af;rfl)|(apply Ae.AY;rfl)|(intro _;try (exfalso;omega)))
    all_goals first|(exfalso;omega)|contradiction|(refine Done.ret rfl (.refl _) (by first|exact trivial|exact ⟨trivial,trivial,trivial⟩|exact ⟨trivial,trivial,trivial,trivial⟩) Aj.nil (Nat.zero_le _) (Nat.le_refl _) ⟨?_,rfl,rfl⟩;rfl)
   ·exact MN _ (by simp) (Yx ⟨Int.le_refl _,by simp only;omega,by simp only;omega,by simp only;omega,Int.le_refl _⟩ (H9 ZX) (H9 dSo))
   ·refine sm _ (by simp) (fun j hj=>?_)
    have:j=0∨j=1:=by simp at hj;omega
    rcases this with rfl|rfl
    ·show 1<1000000
     decide
    ·show 1<1000000
     decide
  ·refine ⟨⟨LZ 83 i,F,[⟨lo,lo+(x.at_:Int) % (hi-lo+1)-1,[⟨(x.rank:Int) % rk.length,sh⟩]⟩,⟨lo+(x.at_:Int) % (hi-lo+1),hi,[⟨(x.rank:Int) % rk.length,sh-12⟩]⟩]⟩,?_,rfl,?_,?_,_,h6,hF.symm⟩
   ·refine AZ.enter (AB (by decide)) Tryz.func56 rfl (by kernel_rfl) (by simp [Tryz.ntmps56]) ?_
    repeat' (first|(refine Ae.at 17 ?_;refine Ae.ghost (AX.trans (AX.freeze 15 rfl rfl) (AX.EF 4 3 136 rfl rfl)) ?_;first|apply Ae.AA|apply Ae.BA)|(refine Ae.at 5 ?_;refine Ae.ghost (AX.freeze 13 rfl rfl) ?_;first|apply Ae.AA|apply Ae.BA)|(refine Ae.at 22 ?_;refine Ae.ghost (AX.Bh 4 3 rfl rfl rfl) ?_;first|apply Ae.AA|apply Ae.BA)|apply Ae.assoc|apply Ae.AA|apply Ae.BA|apply Ae.region|apply Ae.Aq|apply Ae.Ai|apply AO.normal|apply AL.normal|apply Ae.ret|apply Ag.nil|apply Ak.nil|apply Ag.one|(apply Ak.bar;decide +kernel)|apply Ak.quiet|(apply Aa.Dp (l:=([]:List Seg)) (a:=⟨lo,lo+(x.at_:Int) % (hi-lo+1)-1,[⟨(x.rank:Int) % rk.length,sh⟩]⟩);rfl;rfl;rfl;rfl;rfl;rfl;rfl;rfl;(intro _ h;cases h);rfl;rfl;rfl;decide;decide;(first|omega|(simp only [List.length_nil,List.length_cons]<;>omega)))|(apply Aa.Dp (l:=([⟨lo,lo+(x.at_:Int) % (hi-lo+1)-1,[⟨(x.rank:Int) % rk.length,sh⟩]⟩]:List Seg)) (a:=⟨lo+(x.at_:Int) % (hi-lo+1),hi,[⟨(x.rank:Int) % rk.length,sh-12⟩]⟩);rfl;rfl;rfl;rfl;rfl;rfl;rfl;rfl;(intro _ h;cases h);rfl;rfl;rfl;decide;decide;(first|omega|(simp only [List.length_nil,List.length_cons]<;>omega)))|(apply Aa.fn;rfl;rfl;exact hf6;intro _;rfl)|(apply Aa.fn;rfl;rfl;exact q1;intro _;rfl)|(apply Aa.GN;rfl;rfl;rfl;rfl;rfl;omega)|(apply Aa.AU (l:=rk) (i:=x.rank % rk.length);rfl;rfl;rfl;exact hnl;rfl)|(apply Aa.assign;rfl)|(apply Aa.move;rfl)|(apply Aa.Bz;rfl;rfl;omega)|(apply Aa.Ir;rfl;rfl;omega)|(apply Aa.Jk;rfl;rfl;omega;omega)|(apply Aa.int;rfl;rfl;rfl)|(apply Aa.load;rfl;rfl)|(apply Aa.BL;rfl;rfl)|(apply Aa.AP;rfl;rfl;rfl)|(apply Aa.DC;rfl;rfl)|(apply Aa.box;rfl;trivial)|(apply Aa.alloc;rfl)|(apply Aa.Bj;rfl;rfl;rfl;trivial;rfl;rfl;exact Ac rfl;exact le_dec rfl)|(apply Aa.build;rfl;rfl;rfl;rfl;rfl)|(apply Aa.buildSlice;rfl;rfl;rfl;decide;rfl;rfl;rfl)|(apply Aa.UD;rfl;rfl;(first|omega|(simp only [List.length_take,List.length_drop,List.length_append,List.length_singleton,List.length_cons,List.length_nil]<;>omega)))|(apply Aa.extract;rfl;rfl)|(apply Aa.Hr;rfl;rfl;rfl;rfl;omega)|(apply Aa.KY;rfl;rfl;rfl;rfl;omega)|(apply Ae.Af;rfl)|(apply Ae.AY;rfl)|(intro _;try (exfalso;omega)))
    all_goals first|(exfalso;omega)|contradiction|(refine Done.ret rfl (.refl _) (by first|exact trivial|exact ⟨trivial,trivial,trivial⟩|exact ⟨trivial,trivial,trivial,trivial⟩) Aj.nil (Nat.zero_le _) (Nat.le_refl _) ⟨?_,rfl,rfl⟩;rfl)
   ·exact MN _ (by simp) (Yx ⟨Int.le_refl _,by simp only;omega,by simp only;omega,by simp only;omega,Int.le_refl _⟩ (H9 ZX) (H9 dTw))
   ·refine sm _ (by simp) (fun j hj=>?_)
    have:j=0∨j=1:=by simp at hj;omega
    rcases this with rfl|rfl
    ·show 1<1000000
     decide
    ·show 1<1000000
     decide
end Go.Proofs.YtdabojnmoejilaaGreatDoor
namespace Go.Proofs.YtdabojnmoejilaaGreatDoor
open Go Go.Am Go.Vm
attribute [local irreducible] Aa Ag Ak Ae BH AZ CW AO AL Az Vm.Done Di Bv
end Go.Proofs.YtdabojnmoejilaaGreatDoor
namespace Go.Proofs.YtdabojnmoejilaaGreatDoor
open Go Go.Am Go.Vm
attribute [local irreducible] Aa Ag Ak Ae BH AZ CW AO AL Az Vm.Done Di Bv
noncomputable instance (a b:JB):Decidable (a=b):=Classical.propDecidable _
noncomputable instance (a b:FT):Decidable (a=b):=Classical.propDecidable _
def lnC (i c:Nat):Prop:=eP c∨(i≠0∧(c=95∨(48≤c∧c≤57)))
def a4e (r:FT):Prop:=(r.ES.length≤30∨r.ES.length=129)∧r.name.length≤40∧r.EC.length≤40
instance (r:FT):Decidable (a4e r):=by unfold a4e;infer_instance
end Go.Proofs.YtdabojnmoejilaaGreatDoor
namespace Go.Proofs.YtdabojnmoejilaaGreatDoor
open Go Go.Am Go.Vm
attribute [local irreducible] Aa Ag Ak Ae BH AZ CW AO AL Az Vm.Done Di Bv
attribute [local irreducible] D8 DW sV Cb UF
noncomputable def b1i (r:FT) (f p:Int):FV×Int:=if UF r f≠0 then (JL,UF r f) else if p<1∨p>r.ES.length-f then (JL,3) else yB r (r.first+f) ((r.ES.drop f.toNat).take ((f+p).toNat-f.toNat))
noncomputable def b0e (a b:FT):FV×Int:=if D8 a≠0 then (JL,D8 a) else if D8 b≠0 then (JL,D8 b) else if ¬ (a.EC=b.EC∧a.Du=b.Du) then (JL,14) else if b.first≠a.first+a.ES.length then (JL,6) else yB a a.first (a.ES++b.ES)
theorem qR:∀ n,n<3→C9 (gi NZ n)
 |0,_=>oD
 |1,_=>by
  refine ⟨by decide,by decide,by decide,fun i h1 h2=>?_⟩
  have:i=1∨i=2∨i=3∨i=4:=by simp [NZ,gi] at h2;omega
  rcases this with rfl|rfl|rfl|rfl<;>exact .inl (by decide)
 |2,_=>by
  refine ⟨by decide,by decide,by decide,fun i h1 h2=>?_⟩
  have:i=1∨i=2∨i=3:=by simp [NZ,gi] at h2;omega
  rcases this with rfl|rfl|rfl<;>exact .inl (by decide)
theorem zi:∀ n,n<16→oh (gi OT n):=by decide +kernel
theorem dP (x:Gg):∀ k i,i<k→gi (Ii x k) i=((gi x.ES (i % 5):Nat):Int)
 |k+1,i,h=>by
  rcases Nat.lt_or_ge i k with h1|h1
  ·have:gi (Ii x (k+1)) i=gi (Ii x k) i:=by simp [Ii,gi,List.getElem?_append_left (show i<(Ii x k).length by rw [FK];exact h1)]
   rw [this];exact dP x k i h1
  ·obtain rfl:i=k:=by omega
   simp [Ii,gi,List.getElem?_append_right (show (Ii x i).length≤i by rw [FK];exact Nat.le_refl _),FK]
theorem a0m (x:Gg) (hx:x.Ok) (i:Int) (hi:0≤i):D8 (SY x i)=0:=by
 obtain ⟨h1,h2,h3,h4,h5⟩:=hx
 refine fZ ⟨by simp [SY],by simp [SY],(show eP (82:UInt8).toNat by decide),fun j j1 j2=>?_⟩ (qR _ (Nat.mod_lt _ (by decide))) (zi _ (Nat.mod_lt _ (by decide))) ⟨by simp only [SY];omega,by simp only [SY];omega⟩ ⟨by simp only [SY,FK];omega,by simp only [SY,FK];omega⟩ (fun j hj=>?_)
 ·obtain rfl:j=1:=by simp [SY] at j2;omega
  have e:(gi (SY x i).name 1).toNat=(48+i % 10).toNat:=by
   show (UInt8.ofNat (48+i % 10).toNat).toNat=_
   rw [UInt8.toNat_ofNat'];omega
  rw [e]
  right;left;omega
 ·simp only [SY,FK] at hj ⊢
  rw [dP x _ j hj]
  have:=h5 (j % 5)
  unfold Xz
  omega
theorem zn {α:Type} [Inhabited α] {l:List α} {P:α→Prop} (h:∀ a∈l,P a) {n:Nat} (hn:n<l.length):P (gi l n):=by
 simp only [gi,List.getElem?_eq_getElem hn,Option.getD_some]
 exact h _ (List.getElem_mem hn)
theorem xw (x:Gg) (i:Int):a6x (SY x i):=by
 refine ⟨by simp [SY],?_,by simp only [SY,FK];omega⟩
 show (gi NZ (x.EC % 3)).length<_
 exact Nat.lt_of_le_of_lt (zn (P:=fun l=>l.length≤5) (by decide) (show x.EC % 3<NZ.length from Nat.mod_lt _ (by decide))) (by decide)
theorem tX (x:Gg) (i:Int):(SY x i).ES.length≤25:=by simp only [SY,FK];omega
def a9b:FT:=⟨[],[],⟨0,0⟩,0,[]⟩
end Go.Proofs.YtdabojnmoejilaaGreatDoor
namespace Go.Proofs.YtdabojnmoejilaaGreatDoor
open Go Go.Am Go.Vm
attribute [local irreducible] Aa Ag Ak Ae BH AZ CW AO AL Az Vm.Done Di Bv
def Ql (x:nO):Prop:=(1≤x.ranks.length∧x.ranks.length≤3)∧(1≤x.Aw.length∧x.Aw.length≤3)∧x.links.length≤3∧∀ i,i<x.Aw.length→(gi x.Aw i).stops.length≤3
noncomputable instance (x:nO):Decidable (Ql x):=Classical.propDecidable _
theorem YG (x:nO) (hx:x.Ok):AZ env 41 [.agg x.enc] (.p (.bool (decide (Ql x)))):=by
 have b1:=hx.nr
 have b2:=hx.nd
 have b3:=hx.nl
 refine AZ.enter (AB (by decide)) Tryz.func41 rfl (by kernel_rfl) (by simp [Tryz.ntmps41]) ?_
 by_cases h0:(1≤x.ranks.length∧x.ranks.length≤3)∧(1≤x.Aw.length∧x.Aw.length≤3)∧x.links.length≤3
 case neg =>
  rw [decide_eq_false (fun h=>h0 ⟨h.1,h.2.1,h.2.2.1⟩)]
  repeat' (first|apply Ae.assoc|apply Ae.AA|apply Ae.BU|apply Ag.nil|apply Ag.one|(apply Ag.take;rfl;rfl)|(apply Ag.drop;rfl;rfl;rfl)|(apply Ag.guard;rfl;rfl)|(apply Aa.assign;rfl)|(apply Aa.move;rfl)|(apply Aa.int;rfl;rfl;rfl)|(apply Aa.load;rfl;rfl)|(apply Aa.BJ;rfl;rfl)|(apply Aa.AQ;rfl;rfl)|(apply Aa.BL;rfl;rfl)|(apply Aa.AP;rfl;rfl;rfl)|(apply Aa.box;rfl;trivial)|(apply Ae.Bg;rfl)|(apply Ae.Af;rfl)|(intro _;try (exfalso;omega)))
  all_goals first|(exfalso;omega)|(refine Done.ret rfl (.refl _) (by first|exact trivial|exact ⟨trivial,trivial,trivial⟩|exact ⟨trivial,trivial,trivial,trivial⟩) Aj.nil (Nat.zero_le _) (Nat.le_refl _) ⟨?_,rfl,rfl⟩;try rfl)
 repeat' (first|apply Ae.assoc|apply Ae.AA|apply Ae.Aq|apply Ae.Ai|apply Ag.nil|apply Ag.one|(apply Ag.take;rfl;rfl)|(apply Ag.guard;rfl;rfl)|(apply Aa.assign;rfl)|(apply Aa.move;rfl)|(apply Aa.int;rfl;rfl;rfl)|(apply Aa.load;rfl;rfl)|(apply Aa.AQ;rfl;rfl)|(apply Aa.BL;rfl;rfl)|(apply Aa.AP;rfl;rfl;rfl)|(apply Aa.box;rfl;trivial)|(apply Ae.Af;rfl)|(intro _;try (exfalso;omega)))
 all_goals try (exfalso;omega)
 refine Ae.Ec (fun k:Nat=>[(1,.ref 0 0),(3,.p (.int .i64 (k:Int)))]) (fun _=>[(0,.box 26 (x.enc.map .p))]) 1 (fun k=>k≤x.Aw.length∧∀ i,i<k→(gi x.Aw i).stops.length≤3) (fun k=>x.Aw.length-k) 0 (by omega) ⟨by omega,fun i hi=>by omega⟩ ⟨by omega,?_,?_⟩ ?_
 ·repeat (first|exact Ad.nil|refine Ad.same trivial rfl ?_|refine Ad.same (Ac rfl) rfl ?_|refine Ad.same ⟨trivial,Ac rfl,Ac rfl,Ac rfl,trivial⟩ rfl ?_|refine Ad.same ⟨trivial,Ac rfl,Ac rfl,trivial⟩ rfl ?_|refine Ad.same ⟨trivial,trivial⟩ rfl ?_|refine Ad.cons trivial rfl (.of_eq (Au (by simp<;>omega))) ?_)
 ·repeat (first|exact Aj.nil|(refine Aj.cons (Ac rfl) ?_ rfl ?_ ?_;(first|exact trivial|exact AV.Ah _ _|(simp [HB.under,AV.under,PV.under]));(first|exact Bq.refl _|exact Bq.vec (Bl.refl _) (by simp))))
 rintro k ⟨hk,hok⟩
 by_cases hkl:k<x.Aw.length
 ·have hst:=(hx.Aw k hkl).stops
  by_cases h1:(gi x.Aw k).stops.length≤3
  ·repeat' (first|apply Ae.assoc|apply Ae.AA|apply Ae.region|apply Ae.Aq|apply Ae.Ai|apply AO.normal|apply AL.normal|apply Ae.skip|apply Ag.nil|apply Ag.one|(apply Aa.assign;rfl)|(apply Aa.move;rfl)|(apply Aa.Bz;rfl;rfl;omega)|(apply Aa.int;rfl;rfl;rfl)|(apply Aa.AU;rfl;rfl;rfl;omega;rfl)|(apply Aa.load;rfl;rfl)|(apply Aa.BL;rfl;rfl)|(apply Aa.AP;rfl;rfl;rfl)|(apply Aa.DC;rfl;rfl)|(apply Ae.Af;rfl)|(apply Ae.AY;rfl)|(intro _;try (exfalso;omega)))
   all_goals try (exfalso;omega)
   refine Az.normal ⟨k+1,⟨by omega,fun i hi=>?_⟩,by omega,⟨by omega,?_,?_⟩⟩
   ·rcases Nat.lt_or_ge i k with h|h
    ·exact hok i h
    ·obtain rfl:i=k:=by omega
     exact h1
   ·repeat (first|exact Ad.nil|refine Ad.same trivial rfl ?_|refine Ad.same (Ac rfl) rfl ?_|refine Ad.same ⟨trivial,Ac rfl,Ac rfl,Ac rfl,trivial⟩ rfl ?_|refine Ad.same ⟨trivial,Ac rfl,Ac rfl,trivial⟩ rfl ?_|refine Ad.same ⟨trivial,trivial⟩ rfl ?_|refine Ad.cons trivial rfl (.of_eq (Au (by simp<;>omega))) ?_)
   ·repeat (first|exact Aj.nil|(refine Aj.cons (Ac rfl) ?_ rfl ?_ ?_;(first|exact trivial|exact AV.Ah _ _|(simp [HB.under,AV.under,PV.under]));(first|exact Bq.refl _|exact Bq.vec (Bl.refl _) (by simp))))
  ·rw [decide_eq_false (fun h=>h1 (h.2.2.2 k hkl))]
   repeat' (first|apply Ae.assoc|apply Ae.AA|apply Ae.Aq|apply Ae.Ai|apply AO.ret|apply AL.ret|apply Az.ret|apply Ae.ret|apply Ag.nil|apply Ag.one|(apply Aa.assign;rfl)|(apply Aa.move;rfl)|(apply Aa.int;rfl;rfl;rfl)|(apply Aa.AU;rfl;rfl;rfl;omega;rfl)|(apply Aa.load;rfl;rfl)|(apply Aa.BL;rfl;rfl)|(apply Aa.AP;rfl;rfl;rfl)|(apply Aa.DC;rfl;rfl)|(apply Ae.Af;rfl)|(apply Ae.AY;rfl)|(intro _;try (exfalso;omega)))
   all_goals first|(exfalso;omega)|(refine Done.ret rfl (.refl _) (by first|exact trivial|exact ⟨trivial,trivial,trivial⟩|exact ⟨trivial,trivial,trivial,trivial⟩) Aj.nil (Nat.zero_le _) (Nat.le_refl _) ⟨?_,rfl,rfl⟩;try rfl)
 ·rw [decide_eq_true (show Ql x from ⟨h0.1,h0.2.1,h0.2.2,fun i hi=>hok i (by omega)⟩)]
  repeat' (first|apply Ae.assoc|apply Ae.AA|apply Ae.A8|apply AO.normal|apply AL.exit|apply Az.exit|apply Ae.ret|apply Ag.nil|apply Ag.one|(apply Aa.assign;rfl)|(apply Aa.move;rfl)|(apply Aa.int;rfl;rfl;rfl)|(apply Aa.load;rfl;rfl)|(apply Aa.BL;rfl;rfl)|(apply Aa.AP;rfl;rfl;rfl)|(apply Ae.Af;rfl)|(intro _;try (exfalso;omega)))
  all_goals first|(exfalso;omega)|(refine Done.ret rfl (.refl _) (by first|exact trivial|exact ⟨trivial,trivial,trivial⟩|exact ⟨trivial,trivial,trivial,trivial⟩) Aj.nil (Nat.zero_le _) (Nat.le_refl _) ⟨?_,rfl,rfl⟩;try rfl)
def tN (rk:List FT) (lo hi:Int) (x:ni) (i:Nat) (s:Stp):Prop :=
 AZ env 56 [.lst 131 (cells rk) rk.length,.agg [.int .i64 lo,.int .i64 hi],.agg (Enc.enc x),.int .i64 (i:Int)] (.p (.agg (Enc.enc s)))∧s.name=LZ 83 i∧Jp rk lo hi s=0∧X5 s∧∃ a,a<6∧s.Du=gi Fb a
noncomputable def QJ (rk:List FT) (lo hi:Int) (x:ni) (i:Nat):Stp:=Classical.epsilon (h:=⟨default⟩) (tN rk lo hi x i)
theorem WW (rk:List FT) (lo hi:Int) (x:ni) (i:Nat) (hrk:kX rk) (hc:0≤lo∧lo≤hi∧hi≤127) (hx:x.Ok) (hi9:i≤9):tN rk lo hi x i (QJ rk lo hi x i) :=
 Classical.epsilon_spec (xX rk lo hi x i hrk hc hx hi9)
def Et (l:List Gg):Nat→List FT
 |0=>[]
 |k+1=>Et l k++[SY (gi l k) (k:Int)]
noncomputable def Gf (rk:List FT) (lo hi:Int) (l:List ni):Nat→List Stp
 |0=>[]
 |k+1=>Gf rk lo hi l k++[QJ rk lo hi (gi l k) k]
def Ew (b:nT):Int:=36+(b.low:Int) % 12
def EX (b:nT):Int:=Ew b+(b.keys:Int) % 9
noncomputable def ZW (rk:List FT) (b:nT) (k:Nat):Yl:=⟨LZ 68 (k:Int),b.Dn,Ew b,EX b,Gf rk (Ew b) (EX b) b.stops b.stops.length⟩
noncomputable def Gq (rk:List FT) (l:List nT):Nat→List Yl
 |0=>[]
 |k+1=>Gq rk l k++[ZW rk (gi l k) k]
def UA (n:Nat) (c:sZ) (k:Nat):ZR:=⟨LZ 67 (k:Int),(c.BF:Int) % n,(c.tgt:Int) % n,if (c.BF:Int) % n=(c.tgt:Int) % n∧c.shift.tmod 25=0 then 12 else c.shift.tmod 25,c.through⟩
def EW (n:Nat) (l:List sZ):Nat→List ZR
 |0=>[]
 |k+1=>EW n l k++[UA n (gi l k) k]
theorem IG (l:List Gg):∀ k,(Et l k).length=k
 |0=>rfl
 |k+1=>by simp [Et,IG l k]
theorem G7 (rk:List FT) (lo hi:Int) (l:List ni):∀ k,(Gf rk lo hi l k).length=k
 |0=>rfl
 |k+1=>by simp [Gf,G7 rk lo hi l k]
theorem Lh (rk:List FT) (l:List nT):∀ k,(Gq rk l k).length=k
 |0=>rfl
 |k+1=>by simp [Gq,Lh rk l k]
theorem Oj (n:Nat) (l:List sZ):∀ k,(EW n l k).length=k
 |0=>rfl
 |k+1=>by simp [EW,Oj n l k]
noncomputable def aW (x:nO):EY:=⟨[79,114,103,97,110],Et x.ranks x.ranks.length,Gq (Et x.ranks x.ranks.length) x.Aw x.Aw.length,EW x.Aw.length x.links x.links.length⟩
theorem U3 {α:Type} [Inhabited α] {l:List α} {a:α} {i:Nat}:gi (l++[a]) i=if i<l.length then gi l i else if i=l.length then a else default:=by
 by_cases h:i<l.length
 ·rw [if_pos h];simp [gi,List.getElem?_append_left h]
 ·rw [if_neg h]
  by_cases h2:i=l.length
  ·rw [if_pos h2,h2];simp [gi]
  ·rw [if_neg h2];simp [gi,List.getElem?_append_right (show l.length≤i by omega),show ¬ i-l.length=0 by omega]
theorem Rz (l:List Gg):∀ k i,i<k→gi (Et l k) i=SY (gi l i) (i:Int)
 |k+1,i,h=>by
  simp only [Et,U3,IG]
  by_cases h1:i<k
  ·rw [if_pos h1];exact Rz l k i h1
  ·obtain rfl:i=k:=by omega
   simp
theorem Yp {l:List Gg} (h:∀ i,i<l.length→(gi l i).Ok) (hl:0<l.length∧l.length≤3):kX (Et l l.length):=by
 refine ⟨by rw [IG];exact hl,fun i hi=>?_⟩
 rw [IG] at hi
 rw [Rz l _ i hi]
 exact ⟨a0m _ (h i hi) _ (by omega),(gi l i).Du % 16,Nat.mod_lt _ (by decide),rfl⟩
end Go.Proofs.YtdabojnmoejilaaGreatDoor
namespace Go.Proofs.YtdabojnmoejilaaGreatDoor
open Go Go.Am Go.Vm
attribute [local irreducible] Aa Ag Ak Ae BH AZ CW AO AL Az Vm.Done Di Bv
attribute [local irreducible] SY QJ
def a9o (a b c:PV):Vm.HB:=.box 37 [.p (.str (bs [79,114,103,97,110])),a,b,c]
def a9p:Vm.HB:=.box 37 [.p (.str ⟨#[]⟩),.p (.val (.slice none 0 0)),.p (.val (.slice none 0 0)),.p (.val (.slice none 0 0))]
theorem Uo (x:nO) (hx:x.Ok) (hf:Ql x):AZ env 34 [.agg x.enc] (.p (.agg (Enc.enc (aW x)))):=by
 obtain ⟨hf1,hf2,hf3,hf4⟩:=hf
 have hR:=Yp hx.ranks (by omega)
 refine AZ.enter (AB (by decide)) Tryz.func34 rfl (by kernel_rfl) (by simp [Tryz.ntmps34]) ?_
 repeat' (first|apply Ae.assoc|apply Ae.AA|apply Ae.Ai|apply Ag.nil|apply Ag.one|(apply Aa.assign;rfl)|(apply Aa.box;rfl;trivial)|(apply Aa.alloc;rfl)|(apply Aa.Bj;rfl;rfl;rfl;trivial;rfl;rfl;exact Ac rfl;exact le_dec rfl)|(apply Aa.build;rfl;rfl;rfl;rfl;rfl))
 refine Ae.ghost (AX.EF 2 1 131 rfl rfl) ?_
 refine Ae.Ec (fun k:Nat=>[(1,.ref 0 0),(2,.ref 1 0),(3,.ref 2 0),(4,.p (.int .i64 (k:Int)))]) (fun k=>[(3,.vec 131 (cells (Et x.ranks k)) (Et x.ranks k).length true),(2,.box 37 [.p (.str (bs [79,114,103,97,110])),.vec 3 (Et x.ranks k).length 0 (Et x.ranks k).length,.p (.val (.slice none 0 0)),.p (.val (.slice none 0 0))]),(1,.box 37 [.p (.str ⟨#[]⟩),.p (.val (.slice none 0 0)),.p (.val (.slice none 0 0)),.p (.val (.slice none 0 0))]),(0,.box 26 (x.enc.map .p))]) 4 (fun k=>k≤x.ranks.length) (fun k=>x.ranks.length-k) 0 (by omega) (by omega) ⟨by omega,?_,?_⟩ ?_
 ·repeat (first|exact Ad.nil|refine Ad.same trivial rfl ?_|refine Ad.same (Ac rfl) rfl ?_|refine Ad.same ⟨trivial,Ac rfl,Ac rfl,Ac rfl,trivial⟩ rfl ?_|refine Ad.same ⟨trivial,Ac rfl,Ac rfl,trivial⟩ rfl ?_|refine Ad.same ⟨trivial,trivial⟩ rfl ?_|refine Ad.cons trivial rfl (.of_eq (Au (by simp<;>omega))) ?_)
 ·repeat (first|exact Aj.nil|(refine Aj.cons (Ac rfl) ?_ rfl ?_ ?_;(first|exact trivial|exact AV.Ah _ _|(simp [HB.under,AV.under,PV.under]));(first|exact Bq.refl _|exact Bq.vec (Bl.refl _) (by simp))))
 intro k hk
 have hl:=IG x.ranks k
 have e1:Et x.ranks (k+1)=Et x.ranks k++[SY (gi x.ranks k) (k:Int)]:=rfl
 have e2:(Et x.ranks (k+1)).length=(Et x.ranks k).length+1:=by rw [e1];simp
 by_cases hkl:k<x.ranks.length
 ·have hm:=oI (gi x.ranks k) (hx.ranks k hkl) k ⟨by omega,by omega⟩
  repeat' (first|apply Ae.assoc|apply Ae.AA|apply Ae.region|apply Ae.EZ|apply Ae.Aq|apply Ae.Ai|apply AO.normal|apply AL.normal|apply Ag.nil|apply Ak.nil|apply Ag.one|(apply Ak.bar;decide +kernel)|apply Ak.quiet|(apply Aa.fn;rfl;rfl;exact hm;intro _;rfl)|(apply Aa.Dp (a:=SY (gi x.ranks k) (k:Int));rfl;rfl;rfl;rfl;rfl;rfl;rfl;rfl;(intro _ h;cases h);rfl;rfl;rfl;decide;decide;(first|omega|(simp only [List.length_take,List.length_drop,List.length_append,List.length_singleton,List.length_cons,List.length_nil]<;>omega)))|(apply Aa.assign;rfl)|(apply Aa.move;rfl)|(apply Aa.Bz;rfl;rfl;omega)|(apply Aa.int;rfl;rfl;rfl)|(apply Aa.AU;rfl;rfl;rfl;omega;rfl)|(apply Aa.load;rfl;rfl)|(apply Aa.BL;rfl;rfl)|(apply Aa.AP;rfl;rfl;rfl)|(apply Aa.Bj;rfl;rfl;rfl;trivial;rfl;rfl;exact Ac rfl;exact le_dec rfl)|(apply Aa.buildSlice;rfl;rfl;rfl;decide;rfl;rfl;rfl)|(apply Ae.Af;rfl)|(intro _;try (exfalso;omega)))
  all_goals try (exfalso;omega)
  refine Az.normal ⟨k+1,by omega,by omega,⟨by omega,?_,?_⟩⟩
  ·repeat (first|exact Ad.nil|refine Ad.same trivial rfl ?_|refine Ad.same (Ac rfl) rfl ?_|refine Ad.same ⟨trivial,Ac rfl,Ac rfl,Ac rfl,trivial⟩ rfl ?_|refine Ad.same ⟨trivial,Ac rfl,Ac rfl,trivial⟩ rfl ?_|refine Ad.same ⟨trivial,trivial⟩ rfl ?_|refine Ad.cons trivial rfl (.of_eq (Au (by simp<;>omega))) ?_)
  ·rw [e2,e1];repeat (first|exact Aj.nil|(refine Aj.cons (Ac rfl) ?_ rfl ?_ ?_;(first|exact trivial|exact AV.Ah _ _|(simp [HB.under,AV.under,PV.under]));(first|exact Bq.refl _|exact Bq.vec (Bl.refl _) (by simp))))
 obtain rfl:k=x.ranks.length:=by omega
 clear e1 e2 hl hkl hk
 have eO:aW x=⟨[79,114,103,97,110],Et x.ranks x.ranks.length,Gq (Et x.ranks x.ranks.length) x.Aw x.Aw.length,EW x.Aw.length x.links x.links.length⟩:=rfl
 rw [eO]
 generalize Et x.ranks x.ranks.length=R at *
 clear eO
 repeat' (first|(refine Ae.at 6 ?_;refine Ae.ghost (AX.trans (AX.Bh 2 1 rfl rfl rfl) (AX.trans (AX.EF 2 2 97 rfl rfl) (AX.EF 2 3 147 rfl rfl))) ?_;first|apply Ae.AA|apply Ae.BA)|apply Ae.assoc|apply Ae.AA|apply Ae.A8|apply Ae.Ai|apply AO.normal|apply AL.exit|apply Az.exit|apply Ag.nil|apply Ag.one|(apply Aa.assign;rfl)|(apply Aa.move;rfl)|(apply Aa.int;rfl;rfl;rfl)|(apply Aa.load;rfl;rfl)|(apply Aa.BL;rfl;rfl)|(apply Aa.AP;rfl;rfl;rfl)|(apply Ae.Af;rfl)|(intro _;try (exfalso;omega)))
 all_goals try (exfalso;omega)
 refine Ae.Ec (fun k:Nat=>[(1,.ref 0 0),(2,.ref 1 0),(3,.ref 2 0),(5,.p (.int .i64 (k:Int)))]) (fun k=>[(5,.vec 147 [] 0 true),(4,.vec 97 (cells (Gq R x.Aw k)) (Gq R x.Aw k).length true),(2,.box 37 [.p (.str (bs [79,114,103,97,110])),.p (.lst 131 (cells R) R.length),.vec 4 (Gq R x.Aw k).length 0 (Gq R x.Aw k).length,.vec 5 0 0 0]),(1,.box 37 [.p (.str ⟨#[]⟩),.p (.val (.slice none 0 0)),.p (.val (.slice none 0 0)),.p (.val (.slice none 0 0))]),(0,.box 26 (x.enc.map .p))]) 6 (fun k=>k≤x.Aw.length) (fun k=>x.Aw.length-k) 0 (by omega) (by omega) ⟨by omega,?_,?_⟩ ?_
 ·repeat (first|exact Ad.nil|refine Ad.same trivial rfl ?_|refine Ad.same (Ac rfl) rfl ?_|refine Ad.same ⟨trivial,Ac rfl,Ac rfl,Ac rfl,trivial⟩ rfl ?_|refine Ad.same ⟨trivial,Ac rfl,Ac rfl,trivial⟩ rfl ?_|refine Ad.same ⟨trivial,trivial⟩ rfl ?_|refine Ad.cons trivial rfl (.of_eq (Au (by simp<;>omega))) ?_)
 ·repeat (first|exact Aj.nil|(refine Aj.cons (Ac rfl) ?_ rfl ?_ ?_;(first|exact trivial|exact AV.Ah _ _|(simp [HB.under,AV.under,PV.under]));(first|exact Bq.refl _|exact Bq.vec (Bl.refl _) (by simp))))
 intro k hk
 have hl:=Lh R x.Aw k
 have e1:Gq R x.Aw (k+1)=Gq R x.Aw k++[ZW R (gi x.Aw k) k]:=rfl
 have e2:(Gq R x.Aw (k+1)).length=(Gq R x.Aw k).length+1:=by rw [e1];simp
 by_cases hkl:k<x.Aw.length
 ·obtain ⟨q1,q2,q3,q4⟩:=hx.Aw k hkl
  have q5:=hf4 k hkl
  have eD:ZW R (gi x.Aw k) k=⟨LZ 68 (k:Int),(gi x.Aw k).Dn,Ew (gi x.Aw k),EX (gi x.Aw k),Gf R (Ew (gi x.Aw k)) (EX (gi x.Aw k)) (gi x.Aw k).stops (gi x.Aw k).stops.length⟩:=rfl
  have hlo:0≤Ew (gi x.Aw k)∧Ew (gi x.Aw k)≤EX (gi x.Aw k)∧EX (gi x.Aw k)≤127:=by unfold EX Ew;omega
  have hst:(gi x.Aw k).stops.length≤3:=q5
  repeat' (first|apply Ae.assoc|apply Ae.AA|apply Ae.Aq|apply Ae.Ai|apply Ag.nil|apply Ag.one|(apply Aa.GN;rfl;rfl;rfl;rfl;rfl;omega)|(apply Aa.assign;rfl)|(apply Aa.move;rfl)|(apply Aa.Bz;rfl;rfl;omega)|(apply Aa.Jk;rfl;rfl;omega;omega)|(apply Aa.int;rfl;rfl;rfl)|(apply Aa.AU;rfl;rfl;rfl;omega;rfl)|(apply Aa.load;rfl;rfl)|(apply Aa.BL;rfl;rfl)|(apply Aa.AP;rfl;rfl;rfl)|(apply Aa.alloc;rfl)|(apply Aa.Bj;rfl;rfl;rfl;trivial;rfl;rfl;exact Ac rfl;exact le_dec rfl)|(apply Aa.build;rfl;rfl;rfl;rfl;rfl)|(apply Aa.buildSlice;rfl;rfl;rfl;decide;rfl;rfl;rfl)|(apply Aa.UD;rfl;rfl;(first|omega|(simp only [List.length_take,List.length_drop,List.length_append,List.length_singleton,List.length_cons,List.length_nil]<;>omega)))|(apply Aa.Hr;rfl;rfl;rfl;rfl;omega)|(apply Aa.KY;rfl;rfl;rfl;rfl;omega)|(apply Ae.Af;rfl)|(intro _;try (exfalso;omega)))
  all_goals try (exfalso;omega)
  refine Ae.ghost (AX.EF 8 4 122 rfl rfl) ?_
  refine Ae.Ec (fun j:Nat=>[(1,.ref 0 0),(2,.ref 1 0),(3,.ref 2 0),(5,.p (.int .i64 (k:Int))),(6,.ref 6 0),(7,.p (.int .i64 (Ew (gi x.Aw k)))),(8,.ref 8 0),(9,.p (.int .i64 (j:Int)))]) (fun j=>[(9,.vec 122 (cells (Gf R (Ew (gi x.Aw k)) (EX (gi x.Aw k)) (gi x.Aw k).stops j)) (Gf R (Ew (gi x.Aw k)) (EX (gi x.Aw k)) (gi x.Aw k).stops j).length true),(8,.box 97 [.p (.str (bs (LZ 68 (k:Int)))),.p (.bool (gi x.Aw k).Dn),.p (.int .i64 (Ew (gi x.Aw k))),.p (.int .i64 (EX (gi x.Aw k))),.vec 9 (Gf R (Ew (gi x.Aw k)) (EX (gi x.Aw k)) (gi x.Aw k).stops j).length 0 (Gf R (Ew (gi x.Aw k)) (EX (gi x.Aw k)) (gi x.Aw k).stops j).length]),(6,.box 75 ((Enc.enc (gi x.Aw k)).map .p)),(5,.vec 147 [] 0 true),(4,.vec 97 (cells (Gq R x.Aw k)) (Gq R x.Aw k).length true),(2,.box 37 [.p (.str (bs [79,114,103,97,110])),.p (.lst 131 (cells R) R.length),.vec 4 (Gq R x.Aw k).length 0 (Gq R x.Aw k).length,.vec 5 0 0 0]),(1,.box 37 [.p (.str ⟨#[]⟩),.p (.val (.slice none 0 0)),.p (.val (.slice none 0 0)),.p (.val (.slice none 0 0))]),(0,.box 26 (x.enc.map .p))]) 10 (fun j=>j≤(gi x.Aw k).stops.length) (fun j=>(gi x.Aw k).stops.length-j) 0 (by omega) (by omega) ⟨by omega,?_,?_⟩ ?_
  ·repeat (first|exact Ad.nil|refine Ad.same trivial rfl ?_|refine Ad.same (Ac rfl) rfl ?_|refine Ad.same ⟨trivial,Ac rfl,Ac rfl,Ac rfl,trivial⟩ rfl ?_|refine Ad.same ⟨trivial,Ac rfl,Ac rfl,trivial⟩ rfl ?_|refine Ad.same ⟨trivial,trivial⟩ rfl ?_|refine Ad.cons trivial rfl (.of_eq (Au (by simp<;>omega))) ?_)
  ·repeat (first|exact Aj.nil|(refine Aj.cons (Ac rfl) ?_ rfl ?_ ?_;(first|exact trivial|exact AV.Ah _ _|(simp [HB.under,AV.under,PV.under]));(first|exact Bq.refl _|exact Bq.vec (Bl.refl _) (by simp))))
  intro j hj
  have jl:=G7 R (Ew (gi x.Aw k)) (EX (gi x.Aw k)) (gi x.Aw k).stops j
  have j1:Gf R (Ew (gi x.Aw k)) (EX (gi x.Aw k)) (gi x.Aw k).stops (j+1)=Gf R (Ew (gi x.Aw k)) (EX (gi x.Aw k)) (gi x.Aw k).stops j++[QJ R (Ew (gi x.Aw k)) (EX (gi x.Aw k)) (gi (gi x.Aw k).stops j) j]:=rfl
  have j2:(Gf R (Ew (gi x.Aw k)) (EX (gi x.Aw k)) (gi x.Aw k).stops (j+1)).length=(Gf R (Ew (gi x.Aw k)) (EX (gi x.Aw k)) (gi x.Aw k).stops j).length+1:=by rw [j1];simp
  by_cases hjl:j<(gi x.Aw k).stops.length
  ·have hp:=(WW R (Ew (gi x.Aw k)) (EX (gi x.Aw k)) (gi (gi x.Aw k).stops j) j hR hlo (q4 j hjl) (by omega)).1
   repeat' (first|apply Ae.assoc|apply Ae.AA|apply Ae.region|apply Ae.EZ|apply Ae.Aq|apply Ae.Ai|apply AO.normal|apply AL.normal|apply Ag.nil|apply Ak.nil|apply Ag.one|(apply Ak.bar;decide +kernel)|apply Ak.quiet|(apply Aa.fn;rfl;rfl;exact hp;intro _;rfl)|(apply Aa.Dp (a:=QJ R (Ew (gi x.Aw k)) (EX (gi x.Aw k)) (gi (gi x.Aw k).stops j) j);rfl;rfl;rfl;rfl;rfl;rfl;rfl;rfl;(intro _ h;cases h);rfl;rfl;rfl;decide;decide;(first|omega|(simp only [List.length_take,List.length_drop,List.length_append,List.length_singleton,List.length_cons,List.length_nil]<;>omega)))|(apply Aa.assign;rfl)|(apply Aa.move;rfl)|(apply Aa.Bz;rfl;rfl;omega)|(apply Aa.int;rfl;rfl;rfl)|(apply Aa.AU;rfl;rfl;rfl;omega;rfl)|(apply Aa.load;rfl;rfl)|(apply Aa.BL;rfl;rfl)|(apply Aa.AP;rfl;rfl;rfl)|(apply Aa.Bj;rfl;rfl;rfl;trivial;rfl;rfl;exact Ac rfl;exact le_dec rfl)|(apply Aa.buildSlice;rfl;rfl;rfl;decide;rfl;rfl;rfl)|(apply Ae.Af;rfl)|(intro _;try (exfalso;omega)))
   all_goals try (exfalso;omega)
   refine Az.normal ⟨j+1,by omega,by omega,⟨by omega,?_,?_⟩⟩
   ·repeat (first|exact Ad.nil|refine Ad.same trivial rfl ?_|refine Ad.same (Ac rfl) rfl ?_|refine Ad.same ⟨trivial,Ac rfl,Ac rfl,Ac rfl,trivial⟩ rfl ?_|refine Ad.same ⟨trivial,Ac rfl,Ac rfl,trivial⟩ rfl ?_|refine Ad.same ⟨trivial,trivial⟩ rfl ?_|refine Ad.cons trivial rfl (.of_eq (Au (by simp<;>omega))) ?_)
   ·rw [j2,j1];repeat (first|exact Aj.nil|(refine Aj.cons (Ac rfl) ?_ rfl ?_ ?_;(first|exact trivial|exact AV.Ah _ _|(simp [HB.under,AV.under,PV.under]));(first|exact Bq.refl _|exact Bq.vec (Bl.refl _) (by simp))))
  obtain rfl:j=(gi x.Aw k).stops.length:=by omega
  repeat' (first|(refine Ae.atEnd 16 ?_;refine Ae.ghost (AX.Bh 8 4 rfl rfl rfl) ?_;first|apply Ae.region|apply Ae.EZ)|apply Ae.assoc|apply Ae.AA|apply Ae.region|apply Ae.A8|apply AO.normal|apply AL.normal|apply AL.exit|apply Az.exit|apply Ag.nil|apply Ag.one|(apply Aa.Dp (a:=ZW R (gi x.Aw k) k);rfl;rfl;rfl;rfl;rfl;rfl;rfl;rfl;(intro _ h;cases h);rfl;rfl;rfl;decide;decide;(first|omega|(simp only [List.length_take,List.length_drop,List.length_append,List.length_singleton,List.length_cons,List.length_nil]<;>omega)))|(apply Aa.assign;rfl)|(apply Aa.move;rfl)|(apply Aa.Bz;rfl;rfl;omega)|(apply Aa.int;rfl;rfl;rfl)|(apply Aa.load;rfl;rfl)|(apply Aa.BL;rfl;rfl)|(apply Aa.AP;rfl;rfl;rfl)|(apply Aa.Bj;rfl;rfl;rfl;trivial;rfl;rfl;exact Ac rfl;exact le_dec rfl)|(apply Aa.buildSlice;rfl;rfl;rfl;decide;rfl;rfl;rfl)|(apply Ae.Af;rfl)|(intro _;try (exfalso;omega)))
  all_goals try (exfalso;omega)
  refine Az.normal ⟨k+1,by omega,by omega,⟨by omega,?_,?_⟩⟩
  ·repeat (first|exact Ad.nil|refine Ad.same trivial rfl ?_|refine Ad.same (Ac rfl) rfl ?_|refine Ad.same ⟨trivial,Ac rfl,Ac rfl,Ac rfl,trivial⟩ rfl ?_|refine Ad.same ⟨trivial,Ac rfl,Ac rfl,trivial⟩ rfl ?_|refine Ad.same ⟨trivial,trivial⟩ rfl ?_|refine Ad.cons trivial rfl (.of_eq (Au (by simp<;>omega))) ?_)
  ·rw [e2,e1];repeat (first|exact Aj.nil|(refine Aj.cons (Ac rfl) ?_ rfl ?_ ?_;(first|exact trivial|exact AV.Ah _ _|(simp [HB.under,AV.under,PV.under]));(first|exact Bq.refl _|exact Bq.vec (Bl.refl _) (by simp))))
 obtain rfl:k=x.Aw.length:=by omega
 clear e1 e2 hl hkl hk
 have hDl:=Lh R x.Aw x.Aw.length
 generalize Gq R x.Aw x.Aw.length=D at *
 repeat' (first|(refine Ae.at 17 ?_;refine Ae.ghost (AX.Bh 2 2 rfl rfl rfl) ?_;first|apply Ae.AA|apply Ae.BA)|apply Ae.assoc|apply Ae.AA|apply Ae.A8|apply Ae.Ai|apply AO.normal|apply AL.exit|apply Az.exit|apply Ag.nil|apply Ag.one|(apply Aa.assign;rfl)|(apply Aa.move;rfl)|(apply Aa.int;rfl;rfl;rfl)|(apply Aa.load;rfl;rfl)|(apply Aa.BL;rfl;rfl)|(apply Aa.AP;rfl;rfl;rfl)|(apply Ae.Af;rfl)|(intro _;try (exfalso;omega)))
 all_goals try (exfalso;omega)
 refine Ae.Ec (fun k:Nat=>[(1,.ref 0 0),(2,.ref 1 0),(3,.ref 2 0),(10,.p (.int .i64 (x.Aw.length:Int))),(11,.p (.int .i64 (k:Int)))]) (fun k=>[(5,.vec 147 (cells (EW x.Aw.length x.links k)) (EW x.Aw.length x.links k).length true),(2,.box 37 [.p (.str (bs [79,114,103,97,110])),.p (.lst 131 (cells R) R.length),.p (.lst 97 (cells D) D.length),.vec 5 (EW x.Aw.length x.links k).length 0 (EW x.Aw.length x.links k).length]),(1,.box 37 [.p (.str ⟨#[]⟩),.p (.val (.slice none 0 0)),.p (.val (.slice none 0 0)),.p (.val (.slice none 0 0))]),(0,.box 26 (x.enc.map .p))]) 6 (fun k=>k≤x.links.length) (fun k=>x.links.length-k) 0 (by omega) (by omega) ⟨by omega,?_,?_⟩ ?_
 ·repeat (first|exact Ad.nil|refine Ad.same trivial rfl ?_|refine Ad.same (Ac rfl) rfl ?_|refine Ad.same ⟨trivial,Ac rfl,Ac rfl,Ac rfl,trivial⟩ rfl ?_|refine Ad.same ⟨trivial,Ac rfl,Ac rfl,trivial⟩ rfl ?_|refine Ad.same ⟨trivial,trivial⟩ rfl ?_|refine Ad.cons trivial rfl (.of_eq (Au (by simp<;>omega))) ?_)
 ·repeat (first|exact Aj.nil|(refine Aj.cons (Ac rfl) ?_ rfl ?_ ?_;(first|exact trivial|exact AV.Ah _ _|(simp [HB.under,AV.under,PV.under]));(first|exact Bq.refl _|exact Bq.vec (Bl.refl _) (by simp))))
 intro k hk
 have hl:=Oj x.Aw.length x.links k
 by_cases hkl:k<x.links.length
 ·obtain ⟨q1,q2,q3⟩:=hx.links k hkl
  have hne:((gi x.links k).BF:Int) % x.Aw.length≥0:=Int.emod_nonneg _ (by omega)
  by_cases c1:((gi x.links k).BF:Int) % x.Aw.length=((gi x.links k).tgt:Int) % x.Aw.length
  ·by_cases c2:(gi x.links k).shift.tmod 25=0
   ·have e1:EW x.Aw.length x.links (k+1)=EW x.Aw.length x.links k++[(⟨LZ 67 (k:Int),((gi x.links k).BF:Int) % x.Aw.length,((gi x.links k).tgt:Int) % x.Aw.length,12,(gi x.links k).through⟩:ZR)]:=by
     show EW x.Aw.length x.links k++[UA x.Aw.length (gi x.links k) k]=_
     unfold UA
     rw [if_pos ⟨c1,c2⟩]
    have e2:(EW x.Aw.length x.links (k+1)).length=(EW x.Aw.length x.links k).length+1:=by rw [e1];simp
    repeat' (first|apply Ae.assoc|apply Ae.AA|apply Ae.BA|apply Ae.region|apply Ae.Aq|apply Ae.Ai|apply AO.normal|apply AL.normal|apply Ag.nil|apply Ak.nil|apply Ag.one|(apply Ak.bar;decide +kernel)|apply Ak.quiet|(apply Ag.take;rfl;rfl)|(apply Ag.guard;rfl;rfl)|(apply Aa.GN;rfl;rfl;rfl;rfl;rfl;omega)|(apply Aa.Dp (a:=(⟨LZ 67 (k:Int),((gi x.links k).BF:Int) % x.Aw.length,((gi x.links k).tgt:Int) % x.Aw.length,12,(gi x.links k).through⟩:ZR));rfl;rfl;rfl;rfl;rfl;rfl;rfl;rfl;(intro _ h;cases h);rfl;rfl;rfl;decide;decide;(first|omega|(simp only [List.length_take,List.length_drop,List.length_append,List.length_singleton,List.length_cons,List.length_nil]<;>omega)))|(apply Aa.assign;rfl)|(apply Aa.move;rfl)|(apply Aa.Bz;rfl;rfl;omega)|(apply Aa.Jk;rfl;rfl;omega;omega)|(apply Aa.int;rfl;rfl;rfl)|(apply Aa.AU;rfl;rfl;rfl;omega;rfl)|(apply Aa.load;rfl;rfl)|(apply Aa.BJ;rfl;rfl)|(apply Aa.BL;rfl;rfl)|(apply Aa.AP;rfl;rfl;rfl)|(apply Aa.alloc;rfl)|(apply Aa.Bj;rfl;rfl;rfl;trivial;rfl;rfl;exact Ac rfl;exact le_dec rfl)|(apply Aa.build;rfl;rfl;rfl;rfl;rfl)|(apply Aa.buildSlice;rfl;rfl;rfl;decide;rfl;rfl;rfl)|(apply Aa.UD;rfl;rfl;(first|omega|(simp only [List.length_take,List.length_drop,List.length_append,List.length_singleton,List.length_cons,List.length_nil]<;>omega)))|(apply Aa.Hr;rfl;rfl;rfl;rfl;omega)|(apply Aa.KY;rfl;rfl;rfl;rfl;omega)|(apply Ae.Af;rfl)|(intro _;try (exfalso;omega)))
    all_goals try (exfalso;omega)
    refine Az.normal ⟨k+1,by omega,by omega,⟨by omega,?_,?_⟩⟩
    ·repeat (first|exact Ad.nil|refine Ad.same trivial rfl ?_|refine Ad.same (Ac rfl) rfl ?_|refine Ad.same ⟨trivial,Ac rfl,Ac rfl,Ac rfl,trivial⟩ rfl ?_|refine Ad.same ⟨trivial,Ac rfl,Ac rfl,trivial⟩ rfl ?_|refine Ad.same ⟨trivial,trivial⟩ rfl ?_|refine Ad.cons trivial rfl (.of_eq (Au (by simp<;>omega))) ?_)
    ·rw [e2,e1];repeat (first|exact Aj.nil|(refine Aj.cons (Ac rfl) ?_ rfl ?_ ?_;(first|exact trivial|exact AV.Ah _ _|(simp [HB.under,AV.under,PV.under]));(first|exact Bq.refl _|exact Bq.vec (Bl.refl _) (by simp))))
   ·have e1:EW x.Aw.length x.links (k+1)=EW x.Aw.length x.links k++[(⟨LZ 67 (k:Int),((gi x.links k).BF:Int) % x.Aw.length,((gi x.links k).tgt:Int) % x.Aw.length,(gi x.links k).shift.tmod 25,(gi x.links k).through⟩:ZR)]:=by
     show EW x.Aw.length x.links k++[UA x.Aw.length (gi x.links k) k]=_
     unfold UA
     rw [if_neg (fun h=>c2 h.2)]
    have e2:(EW x.Aw.length x.links (k+1)).length=(EW x.Aw.length x.links k).length+1:=by rw [e1];simp
    repeat' (first|apply Ae.assoc|apply Ae.AA|apply Ae.BA|apply Ae.region|apply Ae.Aq|apply Ae.Ai|apply AO.normal|apply AL.normal|apply Ag.nil|apply Ak.nil|apply Ag.one|(apply Ak.bar;decide +kernel)|apply Ak.quiet|(apply Ag.take;rfl;rfl)|(apply Ag.guard;rfl;rfl)|(apply Aa.GN;rfl;rfl;rfl;rfl;rfl;omega)|(apply Aa.Dp (a:=(⟨LZ 67 (k:Int),((gi x.links k).BF:Int) % x.Aw.length,((gi x.links k).tgt:Int) % x.Aw.length,(gi x.links k).shift.tmod 25,(gi x.links k).through⟩:ZR));rfl;rfl;rfl;rfl;rfl;rfl;rfl;rfl;(intro _ h;cases h);rfl;rfl;rfl;decide;decide;(first|omega|(simp only [List.length_take,List.length_drop,List.length_append,List.length_singleton,List.length_cons,List.length_nil]<;>omega)))|(apply Aa.assign;rfl)|(apply Aa.move;rfl)|(apply Aa.Bz;rfl;rfl;omega)|(apply Aa.Jk;rfl;rfl;omega;omega)|(apply Aa.int;rfl;rfl;rfl)|(apply Aa.AU;rfl;rfl;rfl;omega;rfl)|(apply Aa.load;rfl;rfl)|(apply Aa.BJ;rfl;rfl)|(apply Aa.BL;rfl;rfl)|(apply Aa.AP;rfl;rfl;rfl)|(apply Aa.alloc;rfl)|(apply Aa.Bj;rfl;rfl;rfl;trivial;rfl;rfl;exact Ac rfl;exact le_dec rfl)|(apply Aa.build;rfl;rfl;rfl;rfl;rfl)|(apply Aa.buildSlice;rfl;rfl;rfl;decide;rfl;rfl;rfl)|(apply Aa.UD;rfl;rfl;(first|omega|(simp only [List.length_take,List.length_drop,List.length_append,List.length_singleton,List.length_cons,List.length_nil]<;>omega)))|(apply Aa.Hr;rfl;rfl;rfl;rfl;omega)|(apply Aa.KY;rfl;rfl;rfl;rfl;omega)|(apply Ae.Af;rfl)|(intro _;try (exfalso;omega)))
    all_goals try (exfalso;omega)
    refine Az.normal ⟨k+1,by omega,by omega,⟨by omega,?_,?_⟩⟩
    ·repeat (first|exact Ad.nil|refine Ad.same trivial rfl ?_|refine Ad.same (Ac rfl) rfl ?_|refine Ad.same ⟨trivial,Ac rfl,Ac rfl,Ac rfl,trivial⟩ rfl ?_|refine Ad.same ⟨trivial,Ac rfl,Ac rfl,trivial⟩ rfl ?_|refine Ad.same ⟨trivial,trivial⟩ rfl ?_|refine Ad.cons trivial rfl (.of_eq (Au (by simp<;>omega))) ?_)
    ·rw [e2,e1];repeat (first|exact Aj.nil|(refine Aj.cons (Ac rfl) ?_ rfl ?_ ?_;(first|exact trivial|exact AV.Ah _ _|(simp [HB.under,AV.under,PV.under]));(first|exact Bq.refl _|exact Bq.vec (Bl.refl _) (by simp))))
  ·have e1:EW x.Aw.length x.links (k+1)=EW x.Aw.length x.links k++[(⟨LZ 67 (k:Int),((gi x.links k).BF:Int) % x.Aw.length,((gi x.links k).tgt:Int) % x.Aw.length,(gi x.links k).shift.tmod 25,(gi x.links k).through⟩:ZR)]:=by
    show EW x.Aw.length x.links k++[UA x.Aw.length (gi x.links k) k]=_
    unfold UA
    rw [if_neg (fun h=>c1 h.1)]
   have e2:(EW x.Aw.length x.links (k+1)).length=(EW x.Aw.length x.links k).length+1:=by rw [e1];simp
   repeat' (first|apply Ae.assoc|apply Ae.AA|apply Ae.BA|apply Ae.region|apply Ae.Aq|apply Ae.Ai|apply AO.normal|apply AL.normal|apply Ag.nil|apply Ak.nil|apply Ag.one|(apply Ak.bar;decide +kernel)|apply Ak.quiet|(apply Ag.drop;rfl;rfl;rfl)|(apply Ag.guard;rfl;rfl)|(apply Aa.GN;rfl;rfl;rfl;rfl;rfl;omega)|(apply Aa.Dp (a:=(⟨LZ 67 (k:Int),((gi x.links k).BF:Int) % x.Aw.length,((gi x.links k).tgt:Int) % x.Aw.length,(gi x.links k).shift.tmod 25,(gi x.links k).through⟩:ZR));rfl;rfl;rfl;rfl;rfl;rfl;rfl;rfl;(intro _ h;cases h);rfl;rfl;rfl;decide;decide;(first|omega|(simp only [List.length_take,List.length_drop,List.length_append,List.length_singleton,List.length_cons,List.length_nil]<;>omega)))|(apply Aa.assign;rfl)|(apply Aa.move;rfl)|(apply Aa.Bz;rfl;rfl;omega)|(apply Aa.Jk;rfl;rfl;omega;omega)|(apply Aa.int;rfl;rfl;rfl)|(apply Aa.AU;rfl;rfl;rfl;omega;rfl)|(apply Aa.load;rfl;rfl)|(apply Aa.AQ;rfl;rfl)|(apply Aa.BL;rfl;rfl)|(apply Aa.AP;rfl;rfl;rfl)|(apply Aa.alloc;rfl)|(apply Aa.Bj;rfl;rfl;rfl;trivial;rfl;rfl;exact Ac rfl;exact le_dec rfl)|(apply Aa.build;rfl;rfl;rfl;rfl;rfl)|(apply Aa.buildSlice;rfl;rfl;rfl;decide;rfl;rfl;rfl)|(apply Aa.UD;rfl;rfl;(first|omega|(simp only [List.length_take,List.length_drop,List.length_append,List.length_singleton,List.length_cons,List.length_nil]<;>omega)))|(apply Aa.Hr;rfl;rfl;rfl;rfl;omega)|(apply Aa.KY;rfl;rfl;rfl;rfl;omega)|(apply Ae.Ar;rfl)|(apply Ae.Af;rfl)|(intro _;try (exfalso;omega)))
   all_goals try (exfalso;omega)
   refine Az.normal ⟨k+1,by omega,by omega,⟨by omega,?_,?_⟩⟩
   ·repeat (first|exact Ad.nil|refine Ad.same trivial rfl ?_|refine Ad.same (Ac rfl) rfl ?_|refine Ad.same ⟨trivial,Ac rfl,Ac rfl,Ac rfl,trivial⟩ rfl ?_|refine Ad.same ⟨trivial,Ac rfl,Ac rfl,trivial⟩ rfl ?_|refine Ad.same ⟨trivial,trivial⟩ rfl ?_|refine Ad.cons trivial rfl (.of_eq (Au (by simp<;>omega))) ?_)
   ·rw [e2,e1];repeat (first|exact Aj.nil|(refine Aj.cons (Ac rfl) ?_ rfl ?_ ?_;(first|exact trivial|exact AV.Ah _ _|(simp [HB.under,AV.under,PV.under]));(first|exact Bq.refl _|exact Bq.vec (Bl.refl _) (by simp))))
 obtain rfl:k=x.links.length:=by omega
 repeat' (first|(refine Ae.at 26 ?_;refine Ae.ghost (AX.Bh 2 3 rfl rfl rfl) ?_;first|apply Ae.AA|apply Ae.BA)|apply Ae.assoc|apply Ae.AA|apply Ae.A8|apply AO.normal|apply AL.exit|apply Az.exit|apply Ae.ret|apply Ag.nil|apply Ag.one|(apply Aa.move;rfl)|(apply Aa.int;rfl;rfl;rfl)|(apply Aa.load;rfl;rfl)|(apply Aa.BL;rfl;rfl)|(apply Aa.AP;rfl;rfl;rfl)|(apply Aa.Bj;rfl;rfl;rfl;trivial;rfl;rfl;exact Ac rfl;exact le_dec rfl)|(apply Ae.Af;rfl)|(intro _;try (exfalso;omega)))
 all_goals first|(exfalso;omega)|(refine Done.ret rfl (.refl _) (by first|exact trivial|exact ⟨trivial,trivial,trivial⟩|exact ⟨trivial,trivial,trivial,trivial⟩) Aj.nil (Nat.zero_le _) (Nat.le_refl _) ⟨?_,rfl,rfl⟩;rfl)
end Go.Proofs.YtdabojnmoejilaaGreatDoor
namespace Go.Proofs.YtdabojnmoejilaaGreatDoor
open Go Go.Am Go.Vm
attribute [local irreducible] Aa Ag Ak Ae BH AZ CW AO AL Az Vm.Done Di Bv
attribute [local irreducible] SY QJ D8 DW Cb
theorem bg (rk:List FT) (l:List nT):∀ k i,i<k→gi (Gq rk l k) i=ZW rk (gi l i) i
 |k+1,i,h=>by
  simp only [Gq,U3,Lh]
  by_cases h1:i<k
  ·rw [if_pos h1];exact bg rk l k i h1
  ·obtain rfl:i=k:=by omega
   simp
theorem XO (rk:List FT) (lo hi:Int) (l:List ni):∀ k i,i<k→gi (Gf rk lo hi l k) i=QJ rk lo hi (gi l i) i
 |k+1,i,h=>by
  simp only [Gf,U3,G7]
  by_cases h1:i<k
  ·rw [if_pos h1];exact XO rk lo hi l k i h1
  ·obtain rfl:i=k:=by omega
   simp
theorem dI (n:Nat) (l:List sZ):∀ k i,i<k→gi (EW n l k) i=UA n (gi l i) i
 |k+1,i,h=>by
  simp only [EW,U3,Oj]
  by_cases h1:i<k
  ·rw [if_pos h1];exact dI n l k i h1
  ·obtain rfl:i=k:=by omega
   simp
theorem wM (b:nT):0≤Ew b∧Ew b≤EX b∧EX b≤127:=by unfold EX Ew;omega
structure Pj (o:EY):Prop where
 sm:OX o
 ranks:1≤o.ranks.length∧o.ranks.length≤3
 Aw:1≤o.Aw.length∧o.Aw.length≤3
 Gh:o.Gh.length≤3
 stops:∀ i,i<o.Aw.length→(gi o.Aw i).stops.length≤3
 rk:kX o.ranks
 dv:∀ i,i<o.Aw.length→0≤(gi o.Aw i).lo∧(gi o.Aw i).lo≤(gi o.Aw i).hi∧(gi o.Aw i).hi≤127
 dn:∀ i,i<o.Aw.length→(gi o.Aw i).name=LZ 68 i
 st:∀ i,i<o.Aw.length→∀ j,j<(gi o.Aw i).stops.length→Jp o.ranks (gi o.Aw i).lo (gi o.Aw i).hi (gi (gi o.Aw i).stops j)=0∧(gi (gi o.Aw i).stops j).name=LZ 83 j∧∃ a,a<6∧(gi (gi o.Aw i).stops j).Du=gi Fb a
 cp:∀ i,i<o.Gh.length→qY o.Aw.length (gi o.Gh i)∧(gi o.Gh i).name=LZ 67 i
 rn:∀ i,i<o.ranks.length→(gi o.ranks i).name=LZ 82 i
 nm:o.name=[79,114,103,97,110]
theorem zl (n:Nat) (c:sZ) (k:Nat) (hn:1≤n) (hc:c.Ok) (hk:k<10):qY n (UA n c k):=by
 obtain ⟨c1,c2,c3⟩:=hc
 have m1:=Int.emod_nonneg (c.BF:Int) (show (n:Int)≠0 by omega)
 have m2:=Int.emod_lt_of_pos (c.BF:Int) (show 0<(n:Int) by omega)
 have m3:=Int.emod_nonneg (c.tgt:Int) (show (n:Int)≠0 by omega)
 have m4:=Int.emod_lt_of_pos (c.tgt:Int) (show 0<(n:Int) by omega)
 refine ⟨WG (by decide) hk,⟨m1,m2⟩,⟨m3,m4⟩,?_,?_⟩
 ·have e:(UA n c k).shift=if (c.BF:Int) % n=(c.tgt:Int) % n∧c.shift.tmod 25=0 then 12 else c.shift.tmod 25:=rfl
  rw [e]
  split
  ·omega
  ·have:=Int.tmod_lt_of_pos c.shift (show (0:Int)<25 by decide)
   have:=Int.lt_tmod_of_pos c.shift (show (0:Int)<25 by decide)
   omega
 ·show ¬ ((c.BF:Int) % n=(c.tgt:Int) % n∧(if (c.BF:Int) % n=(c.tgt:Int) % n∧c.shift.tmod 25=0 then (12:Int) else c.shift.tmod 25)=0)
  intro h
  obtain ⟨h1,h2⟩:=h
  by_cases h3:c.shift.tmod 25=0
  ·rw [if_pos ⟨h1,h3⟩] at h2;omega
  ·rw [if_neg (fun h=>h3 h.2)] at h2;exact h3 h2
theorem a1d (x:Gg) (i:Int):Vk (SY x i):=by
 have h:=xw x i
 have w:=tX x i
 unfold SY at h w ⊢
 refine ⟨by simp,?_,by omega⟩
 have:(gi NZ (x.EC % 3)).length≤5:=zn (P:=fun l:List UInt8=>l.length≤5) (by decide) (show x.EC % 3<NZ.length from Nat.mod_lt _ (by decide))
 show (gi NZ (x.EC % 3)).length<_
 omega
theorem uU (x:Gg) (i:Nat) (hi:i<10):(SY x i).name=LZ 82 i:=by
 unfold SY LZ
 show [82,UInt8.ofNat (48+(i:Int) % 10).toNat]=_
 rw [show (i:Int) % 10=i by omega]
theorem Ym (x:nO) (hx:x.Ok) (hf:Ql x):Pj (aW x):=by
 obtain ⟨hf1,hf2,hf3,hf4⟩:=hf
 have hR:=Yp hx.ranks (by omega)
 have e1:(aW x).ranks=Et x.ranks x.ranks.length:=rfl
 have e2:(aW x).Aw=Gq (Et x.ranks x.ranks.length) x.Aw x.Aw.length:=rfl
 have e3:(aW x).Gh=EW x.Aw.length x.links x.links.length:=rfl
 have e4:(aW x).name=[79,114,103,97,110]:=rfl
 have rn:∀ i,i<x.ranks.length→gi (Et x.ranks x.ranks.length) i=SY (gi x.ranks i) (i:Int):=Rz _ _
 generalize hRR:Et x.ranks x.ranks.length=R at *
 have hRl:R.length=x.ranks.length:=by rw [← hRR,IG]
 have dl:=Lh R x.Aw x.Aw.length
 have cl:=Oj x.Aw.length x.links x.links.length
 have dg:∀ i,i<x.Aw.length→gi (Gq R x.Aw x.Aw.length) i=ZW R (gi x.Aw i) i:=bg _ _ _
 have cg:∀ i,i<x.links.length→gi (EW x.Aw.length x.links x.links.length) i=UA x.Aw.length (gi x.links i) i:=dI _ _ _
 have ds:∀ b k,(ZW R b k).stops=Gf R (Ew b) (EX b) b.stops b.stops.length:=fun _ _=>rfl
 have sp:∀ i,i<x.Aw.length→∀ j,j<(gi x.Aw i).stops.length→gi (Gf R (Ew (gi x.Aw i)) (EX (gi x.Aw i)) (gi x.Aw i).stops (gi x.Aw i).stops.length) j=QJ R (Ew (gi x.Aw i)) (EX (gi x.Aw i)) (gi (gi x.Aw i).stops j) j∧tN R (Ew (gi x.Aw i)) (EX (gi x.Aw i)) (gi (gi x.Aw i).stops j) j (QJ R (Ew (gi x.Aw i)) (EX (gi x.Aw i)) (gi (gi x.Aw i).stops j) j):=fun i hi j hj =>
  ⟨XO _ _ _ _ _ _ hj,WW R _ _ _ j hR (wM _) ((hx.Aw i hi).all j hj) (by have:=hf4 i hi;omega)⟩
 refine ⟨⟨by rw [e4];simp,by rw [e1];omega,by rw [e2];omega,by rw [e3];omega,fun i hi=>?_,fun i hi=>?_,fun i hi=>?_⟩,by rw [e1];omega,by rw [e2];omega,by rw [e3];omega,fun i hi=>?_,by rw [e1];exact hR,fun i hi=>?_,fun i hi=>?_,fun i hi j hj=>?_,fun i hi=>?_,fun i hi=>?_,e4⟩
 ·rw [e1] at hi ⊢;rw [rn i (by omega)];exact a1d _ _
 ·rw [e2] at hi ⊢;rw [dg i (by omega)]
  refine ⟨by simp [ZW,LZ],by rw [ds,G7];have:=hf4 i (by omega);omega,fun j hj=>?_⟩
  rw [ds,G7] at hj
  rw [ds,(sp i (by omega) j hj).1]
  exact (sp i (by omega) j hj).2.2.2.2.1
 ·rw [e3] at hi ⊢;rw [cg i (by omega)];simp [UA,LZ]
 ·rw [e2] at hi ⊢;rw [dg i (by omega),ds,G7];exact hf4 i (by omega)
 ·rw [e2] at hi ⊢;rw [dg i (by omega)];exact wM _
 ·rw [e2] at hi ⊢;rw [dg i (by omega)];rfl
 ·rw [e2] at hi hj ⊢;rw [dg i (by omega),ds,G7] at hj;rw [e1,dg i (by omega),ds,(sp i (by omega) j hj).1]
  exact ⟨(sp i (by omega) j hj).2.2.2.1,(sp i (by omega) j hj).2.2.1,(sp i (by omega) j hj).2.2.2.2.2⟩
 ·rw [e3] at hi ⊢;rw [e2,dl,cg i (by omega)]
  exact ⟨zl _ _ _ (by omega) (hx.links i (by omega)) (by omega),rfl⟩
 ·rw [e1] at hi ⊢;rw [rn i (by omega)];exact uU _ _ (by omega)
theorem a0d:C9 [79,114,103,97,110]:=by
 refine ⟨by decide,by decide,by decide,fun i h1 h2=>?_⟩
 have:i=1∨i=2∨i=3∨i=4:=by simp at h2;omega
 rcases this with rfl|rfl|rfl|rfl<;>exact .inl (by decide)
theorem Pj.ok {o:EY} (h:Pj o):KR o=0:=by
 have r1:=h.ranks
 have d1:=h.Aw
 have c1:=h.Gh
 unfold KR
 rw [if_neg (fun h'=>h' (h.nm▸a0d)),if_neg (by omega)]
 have hr:NU o.ranks 0=0:=SN (fun i hi=>⟨(h.rk.ok i hi).1,Sm (c:=82) (by omega) h.rn hi⟩) _ 0 rfl
 rw [if_neg (fun h'=>h' hr),if_neg (by omega),if_neg (by omega)]
 have hd:F9 o.ranks o.Aw 0=0:=PU (fun i hi=>by
  have s1:=h.stops i hi
  refine ⟨by rw [h.dn i hi];exact WG (by decide) (by omega),Sm (c:=68) (by omega) h.dn hi,?_⟩
  unfold KJ
  rw [Lr (h.dv i hi),if_neg (fun h=>h rfl),if_neg (by omega)]
  exact PI (fun j hj=>⟨(h.st i hi j hj).1,Sm (c:=83) (by omega) (fun a ha=>(h.st i hi a ha).2.1) hj⟩) _ 0 rfl) _ 0 rfl
 rw [if_neg (fun h'=>h' hd)]
 unfold SV
 rw [if_neg (by simp only [List.length_map];omega)]
 have hc:P8 (o.Aw.map fun d=>⟨d.lo,d.hi⟩) 0=0:=RD (fun i hi=>by
  rw [List.length_map] at hi
  have e:gi (o.Aw.map fun d=>(⟨d.lo,d.hi⟩:ZT)) i=⟨(gi o.Aw i).lo,(gi o.Aw i).hi⟩:=by simp [gi,List.getElem?_eq_getElem hi]
  rw [e]
  exact Lr (h.dv i hi)) _ 0 rfl
 rw [if_neg (fun h'=>h' hc),List.length_map]
 exact VU (fun i hi=>⟨(h.cp i hi).1,Sm (c:=67) (by omega) (fun a ha=>(h.cp a ha).2) hi⟩) _ 0 rfl
end Go.Proofs.YtdabojnmoejilaaGreatDoor
namespace Go.Proofs.YtdabojnmoejilaaGreatDoor
open Go Go.Am Go.Vm
attribute [local irreducible] D8 DW
theorem Sl {rk:List FT} {l:List Yl}:∀ (n k:Nat),l.length-k=n→F9 rk l k=0→∀ i,k≤i→i<l.length→KJ rk (gi l i)=0
 |0,k,h,_,i,h1,h2=>by omega
 |n+1,k,h,h0,i,h1,h2=>by
  rw [F9,if_pos (by omega)] at h0
  split at h0
  ·exact absurd h0 (by decide)
  split at h0
  ·exact absurd h0 (by decide)
  split at h0
  ·rename_i h3;exact absurd h0 h3
  rename_i h3
  rcases Nat.lt_or_ge k i with h4|h4
  ·exact Sl n (k+1) (by omega) h0 i h4 h2
  ·obtain rfl:k=i:=by omega
   exact Decidable.byContradiction fun h5=>h3 h5
structure Jl (o:EY):Prop where
 sm:OX o
 err:KR o=0
 Aw:1≤o.Aw.length∧o.Aw.length≤8
 Gh:o.Gh.length≤40
 stops:∀ i,i<o.Aw.length→(gi o.Aw i).stops.length≤60
theorem xI {o:EY} (hs:OX o) (h:KR o=0):Jl o:=by
 have h0:=h
 unfold KR at h0
 split at h0
 ·exact absurd h0 (by decide)
 split at h0
 ·exact absurd h0 (by decide)
 split at h0
 ·rename_i h1;exact absurd h0 h1
 split at h0
 ·exact absurd h0 (by decide)
 rename_i d1
 split at h0
 ·exact absurd h0 (by decide)
 rename_i d2
 split at h0
 ·rename_i h1;exact absurd h0 h1
 rename_i d3
 have d3:F9 o.ranks o.Aw 0=0:=Decidable.byContradiction d3
 unfold SV at h0
 split at h0
 ·exact absurd h0 (by decide)
 rename_i c1
 refine ⟨hs,h,⟨by omega,by omega⟩,by omega,fun i hi=>?_⟩
 have:=Sl _ 0 rfl d3 i (Nat.zero_le _) hi
 unfold KJ at this
 split at this
 ·rename_i h1;exact absurd this h1
 split at this
 ·exact absurd this (by decide)
 rename_i h2
 omega
theorem Yy {m:Nat} {l:List bF}:∀ (n k:Nat),l.length-k=n→MR m l k=0→∀ i,k≤i→i<l.length→0≤(gi l i).rank∧(gi l i).rank<m
 |0,k,h,_,i,h1,h2=>by omega
 |n+1,k,h,h0,i,h1,h2=>by
  rw [MR,if_pos (by omega)] at h0
  split at h0
  ·exact absurd h0 (by decide)
  rename_i h3
  split at h0
  ·exact absurd h0 (by decide)
  split at h0
  ·exact absurd h0 (by decide)
  rcases Nat.lt_or_ge k i with h4|h4
  ·exact Yy n (k+1) (by omega) h0 i h4 h2
  ·obtain rfl:k=i:=by omega
   omega
theorem XY {m:Nat} {lo hi:Int} {l:List Seg}:∀ (n k:Nat),l.length-k=n→JK m lo hi l k=0→∀ i,k≤i→i<l.length→O9 m (gi l i).draws=0
 |0,k,h,_,i,h1,h2=>by omega
 |n+1,k,h,h0,i,h1,h2=>by
  rw [JK,if_pos (by omega)] at h0
  split at h0
  ·exact absurd h0 (by decide)
  split at h0
  ·exact absurd h0 (by decide)
  split at h0
  ·rename_i h3;exact absurd h0 h3
  rename_i h3
  rcases Nat.lt_or_ge k i with h4|h4
  ·exact XY n (k+1) (by omega) h0 i h4 h2
  ·obtain rfl:k=i:=by omega
   exact Decidable.byContradiction fun h5=>h3 h5
structure a3w (rk:List FT) (s:Stp):Prop where
 Ez:s.Ez.length≤12
 draws:∀ i,i<s.Ez.length→(gi s.Ez i).draws.length≤8∧∀ j,j<(gi s.Ez i).draws.length→0≤(gi (gi s.Ez i).draws j).rank∧(gi (gi s.Ez i).draws j).rank<rk.length
theorem a6p {rk:List FT} {lo hi:Int} {s:Stp} (h:Jp rk lo hi s=0):a3w rk s:=by
 unfold Jp at h
 split at h
 ·rename_i h1;exact absurd h h1
 unfold wL at h
 split at h
 ·exact absurd h (by decide)
 split at h
 ·rename_i h1;exact absurd h h1
 split at h
 ·exact absurd h (by decide)
 split at h
 ·exact absurd h (by decide)
 rename_i h1
 refine ⟨by omega,fun i hi=>?_⟩
 have h2:=XY _ 0 rfl h i (Nat.zero_le _) hi
 unfold O9 at h2
 split at h2
 ·exact absurd h2 (by decide)
 exact ⟨by omega,fun j hj=>Yy _ 0 rfl h2 j (Nat.zero_le _) hj⟩
def QT (rk:List FT) (s:Stp) (n:Nat):Nat→List UInt8
 |0=>[]
 |k+1=>if (gi s.Ez (n-(k+1))).draws.length>0 then (gi rk (gi (gi s.Ez (n-(k+1))).draws 0).rank.toNat).EC else QT rk s n k
def Xb (rk:List FT) (s:Stp):List UInt8:=QT rk s s.Ez.length s.Ez.length
theorem Xc {rk:List FT} {s:Stp} {n k:Nat} (hk:k<n) (h:(gi s.Ez k).draws.length=0):QT rk s n (n-k)=QT rk s n (n-(k+1)):=by
 obtain ⟨j,hj⟩:∃ j,n-k=j+1:=⟨n-k-1,by omega⟩
 rw [hj]
 have e:n-(j+1)=k:=by omega
 show (if (gi s.Ez (n-(j+1))).draws.length>0 then _ else QT rk s n j)=_
 rw [e,if_neg (by omega)]
 congr 1;omega
theorem YJ {rk:List FT} {s:Stp} {n k:Nat} (hk:k<n) (h:0<(gi s.Ez k).draws.length):QT rk s n (n-k)=(gi rk (gi (gi s.Ez k).draws 0).rank.toNat).EC:=by
 obtain ⟨j,hj⟩:∃ j,n-k=j+1:=⟨n-k-1,by omega⟩
 rw [hj]
 have e:n-(j+1)=k:=by omega
 show (if (gi s.Ez (n-(j+1))).draws.length>0 then _ else QT rk s n j)=_
 rw [e,if_pos h]
end Go.Proofs.YtdabojnmoejilaaGreatDoor
