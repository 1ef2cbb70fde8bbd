/-
  Texts of a proof, merged (VmG, TraP, EnvO, IntA, IntB, FraA, RkB, RkC, OrA, OrB, RkA, RkD, RkE, RkF, RkG, RkH, RkI, OrF, RkJ, RkK, RkL, OrG, OrH, OrI, TraE, OrC, OrD, OrE, OrN, Vm31, Ori, Vm29, Vm36, Vm32, Vm33). Conditions: in each statement.
-/
import Derived.Shelf.Spec.SlicesGrow
import Derived.Sort.Grow
import Derived.Test.YtdabojnmoejilaaGreatDoorKWc
set_option linter.unusedSimpArgs false
set_option linter.unusedVariables false
set_option linter.unusedSectionVars false
set_option maxRecDepth 100000
set_option maxHeartbeats 8000000
namespace Go.Vm
open Go.Am
variable {E:Env} {bn:Nat} {L:Frame} {H:Heap} {nx:Nat} {Q:AExit→Frame→Heap→Nat→Prop} {b:Code}
theorem LCov.eq {k i:Nat} {v0:PV} {L0:Frame} (hv:lget L i=some v0) (hu:v0.under k) (t:LCov k L0 L):LCov k ((i,v0)::L0) L:=⟨⟨hu,v0,hv,.refl _⟩,t⟩
theorem HCov.eq {k i:Nat} {v0:HB} {L0:Heap} (hv:hget H i=some v0) (hi:i<k) (hu:v0.under k) (t:HCov k L0 H):HCov k ((i,v0)::L0) H:=⟨⟨hi,hu,v0,hv,.refl _⟩,t⟩
mutual
def PV.ub (k:Nat):PV→Bool
 | .p _=>true
 | .agg cs=>PVs.ub k cs
 | .tup cs=>PVs.ub k cs
 | .vec b _ _ _=>Nat.blt b k
 | .ref b _=>Nat.blt b k
 | .eref b _ _=>Nat.blt b k
 | .mref b=>Nat.blt b k
 | .clo _ fs cs=>and (PVs.ub k fs) (PVs.ub k cs)
def PVs.ub (k:Nat):List PV→Bool
 |[]=>true
 |c::cs=>and (PV.ub k c) (PVs.ub k cs)
end
mutual
theorem PV.under_of {k:Nat}:∀ {x:PV},PV.ub k x=true→x.under k
 | .p _,_=>trivial
 | .agg _,h=>PVs.under_of (by simpa [PV.ub] using h)
 | .tup _,h=>PVs.under_of (by simpa [PV.ub] using h)
 | .vec _ _ _ _,h=>lt_dec h
 | .ref _ _,h=>lt_dec h
 | .eref _ _ _,h=>lt_dec h
 | .mref _,h=>lt_dec h
 | .clo _ _ _,h=>by
  simp only [PV.ub,Bool.and_eq_true] at h
  exact ⟨PVs.under_of h.1,PVs.under_of h.2⟩
theorem PVs.under_of {k:Nat}:∀ {x:List PV},PVs.ub k x=true→PVs.under k x
 |[],_=>trivial
 |_::_,h=>by
  simp only [PVs.ub,Bool.and_eq_true] at h
  exact ⟨PV.under_of h.1,PVs.under_of h.2⟩
end
def HB.ub (k:Nat):HB→Bool
 | .box _ cs=>PVs.ub k cs
 | .vecp _ cs _=>PVs.ub k cs
 |_=>true
theorem HB.under_of {k:Nat} {x:HB} (h:HB.ub k x=true):x.under k:=by
 cases x with
 |box e cs=>exact PVs.under_of h
 |vecp e cs n=>exact PVs.under_of h
 |vec=>trivial
 |map=>trivial
theorem VWp.loopR (n:Nat) (L0:Frame) (H0:Heap) (Lf:Nat→Frame→Frame) (Hf:Nat→Heap→Heap) (nx0:Nat) (hb:bn≤nx0) (hn:nx0≤nx) (h1:LCov nx0 (Lf 0 L0) L) (h2:HCov nx0 (Hf 0 H0) H)
 (hs:∀ k,k<n→VWp E bn b (Lf k L0) (Hf k H0) nx0 (QLoop (fun L' H' nx'=>nx0≤nx'∧LCov nx0 (Lf (k+1) L0) L'∧HCov nx0 (Hf (k+1) H0) H') Q))
 (he:VWp E bn b (Lf n L0) (Hf n H0) nx0 (QLoop (fun _ _ _=>False) Q)):VWp E bn (.loop b) L H nx Q :=
 VWp.loopQ (fun k=>Lf k L0) (fun k=>Hf k H0) nx0 (fun k=>k≤n) (fun k=>n-k) 0 hb (Nat.zero_le _) ⟨hn,h1,h2⟩ fun k hk=>by
  rcases Nat.lt_or_ge k n with h|h
  ·refine (hs k h).mono fun e L' H' nx' q=>?_
   cases e with
   |normal=>exact ⟨k+1,h,by omega,⟨q.1,q.2.1,q.2.2⟩⟩
   |ret=>exact q
   |exit i=>exact q
  ·obtain rfl:k=n:=by omega
   refine he.mono fun e L' H' nx' q=>?_
   cases e with
   |normal=>exact q.elim
   |ret=>exact q
   |exit i=>exact q
theorem VWp.loopRI (n:Nat) (inv:Nat→Prop) (L0:Frame) (H0:Heap) (Lf:Nat→Frame→Frame) (Hf:Nat→Heap→Heap) (nx0:Nat) (hb:bn≤nx0) (hn:nx0≤nx) (h1:LCov nx0 (Lf 0 L0) L) (h2:HCov nx0 (Hf 0 H0) H) (h0:inv 0)
 (hs:∀ k,k<n→inv k→VWp E bn b (Lf k L0) (Hf k H0) nx0 (QLoop (fun L' H' nx'=>inv (k+1)∧nx0≤nx'∧LCov nx0 (Lf (k+1) L0) L'∧HCov nx0 (Hf (k+1) H0) H') Q))
 (he:inv n→VWp E bn b (Lf n L0) (Hf n H0) nx0 (QLoop (fun _ _ _=>False) Q)):VWp E bn (.loop b) L H nx Q :=
 VWp.loopQ (fun k=>Lf k L0) (fun k=>Hf k H0) nx0 (fun k=>k≤n∧inv k) (fun k=>n-k) 0 hb ⟨Nat.zero_le _,h0⟩ ⟨hn,h1,h2⟩ fun k hk=>by
  obtain ⟨hk,hi⟩:=hk
  rcases Nat.lt_or_ge k n with h|h
  ·refine (hs k h hi).mono fun e L' H' nx' q=>?_
   cases e with
   |normal=>exact ⟨k+1,⟨h,q.1⟩,by omega,⟨q.2.1,q.2.2.1,q.2.2.2⟩⟩
   |ret=>exact q
   |exit i=>exact q
  ·obtain rfl:k=n:=by omega
   refine (he hi).mono fun e L' H' nx' q=>?_
   cases e with
   |normal=>exact q.elim
   |ret=>exact q
   |exit i=>exact q
section
variable {Q:PV→Heap→Nat→Prop} {w:Bool} {dst:Option Tmp} {ty:TypeId} {pos:String} {af:Array Edge} {gd:Option (Nat×Bool)}
theorem VVal.nilChk {x:Operand} {o off:Nat} {e:TypeId} {cs:List PV} (hx:vev E.Γ L x=some (.ref o off)) (hb:hget H o=some (.box e cs)) (q:Q (.ref o off) H nx):VVal E w ⟨dst,.nilCheck x,ty,pos,af,gd⟩ L H nx Q :=
 VVal.quiet q fun m F σ tt h1 h2=>by
  obtain ⟨c,h3,h4⟩:=vev_ref h1 h2 hx hb
  exact ⟨_,fun _=>by simp only [aval,aop,h3],.ref (h1.hp o _ hb).1 rfl fun _=>⟨c,h4,rfl⟩⟩
theorem vev_lst {Γ:Nat→Option (List Value×TypeId)} {m:Mem} {F:Nat→Prop} {σ:Nat→Value} {t:Tr Value} {x:Operand} {e:TypeId} {cs:List FV} {n:Nat} (hx:Ctx Γ m F σ H nx) (hl:RL m F (htag H) σ nx L t) (h:vev Γ L x=some (.p (.lst e cs n))) :
 ∃ a k g,ev t x=.slice a k g∧(0<n→a.isNone=false):=by
 have:=vev_rel hx hl h
 generalize ev t x=v at this
 cases this with
 |p hr =>
  cases hr with
  |nil=>exact ⟨_,_,_,rfl,fun h=>by omega⟩
  |room=>exact ⟨_,_,_,rfl,fun _=>rfl⟩
  |lst=>exact ⟨_,_,_,rfl,fun _=>rfl⟩
theorem vev_val {Γ:Nat→Option (List Value×TypeId)} {m:Mem} {F:Nat→Prop} {σ:Nat→Value} {t:Tr Value} {y:Operand} {v:Value} (hx:Ctx Γ m F σ H nx) (hl:RL m F (htag H) σ nx L t) (h:vev Γ L y=some (.p (.val v))):ev t y=v:=by
 have:=vev_rel hx hl h
 generalize ev t y=u at this
 cases this with|p hr=>cases hr;rfl
theorem abin_nil {P:Program} {t e':TypeId} {xo yo:Operand} {a:Option Addr} {k g:Nat} (ht:P.underlying t=some (.slice e')):abin P .eql t xo yo (.slice a k g) (.slice none 0 0)=some (.bool a.isNone)∧abin P .neq t xo yo (.slice a k g) (.slice none 0 0)=some (.bool !a.isNone):=by
 simp [abin,ht,aeqNil]
theorem VVal.eqNil {t t2 e e':TypeId} {x y:Operand} {cs:List FV} {n:Nat} (hx:vev E.Γ L x=some (.p (.lst e cs n))) (hy:vev E.Γ L y=some (.p (.val (.slice none 0 0)))) (ht:E.P.underlying t=some (.slice e')) (q:∀ b,(0<n→b=false)→Q (.p (.bool b)) H nx) :
 VVal E w ⟨dst,.binOp .eql t x y t2,ty,pos,af,gd⟩ L H nx Q:=fun m F σ tt h1 h2=>by
 obtain ⟨a,k,g,h3,h4⟩:=vev_lst h1 h2 hx
 have h5:=vev_val h1 h2 hy
 exact AVal.op (v:=.bool a.isNone) (m':=m) (fun _=>by simp only [aval,aop,h3,h5];rw [(abin_nil ht).1];rfl) ⟨_,H,nx,F,σ,q a.isNone h4,h1,.p (.bool _),Step.refl _ _ _ _ _,fun _ k hk _=>hk⟩
theorem VVal.eqNilF {t t2 e e':TypeId} {x y:Operand} {cs:List FV} {n:Nat} (hx:vev E.Γ L x=some (.p (.lst e cs n))) (hy:vev E.Γ L y=some (.p (.val (.slice none 0 0)))) (ht:E.P.underlying t=some (.slice e')) (hn:0<n) (q:Q (.p (.bool false)) H nx) :
 VVal E w ⟨dst,.binOp .eql t x y t2,ty,pos,af,gd⟩ L H nx Q:=VVal.eqNil hx hy ht fun b hb=>by rw [hb hn];exact q
theorem gi_set {α:Type} [Inhabited α] {l:List α} {i j:Nat} {a:α}:gi (l.set i a) j=if i=j∧j<l.length then a else gi l j:=by
 unfold gi
 rw [List.getElem?_set]
 by_cases h:i=j
 ·subst h
  by_cases h2:i<l.length
  ·simp [h2]
  ·simp [h2,List.getElem?_eq_none (by omega:l.length≤i)]
 ·simp [h]
theorem VVal.maskU {t t2:TypeId} {x y:Operand} {n:Nat} (hx:vev E.Γ L x=some (.p (.int .u64 ((2 ^ n:Nat):Int)))) (hy:vev E.Γ L y=some (.p (.int .u64 1))) (hn:n<64) (q:Q (.p (.int .u64 ((2 ^ n-1:Nat):Int))) H nx) :
 VVal E w ⟨dst,.binOp .sub t x y t2,ty,pos,af,gd⟩ L H nx Q :=
 VVal.subUN (a:=2 ^ n) (b:=1) hx hy ⟨Nat.one_le_two_pow,Nat.lt_of_le_of_lt (Nat.pow_le_pow_right (by omega) (show n≤63 by omega)) (by decide)⟩ q
end
theorem all_succ {P:Nat→Prop} {k:Nat} (h:∀ i,i<k→P i) (hk:P k):∀ i,i<k+1→P i:=fun i hi=>by
 rcases Nat.lt_or_ge i k with h1|h1
 ·exact h i h1
 ·obtain rfl:i=k:=by omega
  exact hk
def snocK {α:Type} (f:Nat→α):Nat→List α
 |0=>[]
 |k+1=>snocK f k++[f k]
def setK {α:Type} (f:Nat→α) (l:List α):Nat→List α
 |0=>l
 |k+1=>(setK f l k).set k (f k)
theorem setK_len {α:Type} (f:Nat→α) (l:List α):∀ k,(setK f l k).length=l.length
 |0=>rfl
 |k+1=>by simp [setK,setK_len f l k]
theorem gi_replicate {α:Type} [Inhabited α] {a:α} {n i:Nat} (h:i<n):gi (List.replicate n a) i=a:=by
 unfold gi;rw [List.getElem?_replicate,if_pos h];rfl
def HUnd (k:Nat):Heap→Bool
 |[]=>true
 |(i,x)::H=>and (and (Nat.blt i k) (HB.ub k x)) (HUnd k H)
theorem HUnder_of {k:Nat}:∀ {H:Heap},HUnd k H=true→HUnder k H
 |[],_=>trivial
 |(_,_)::_,h=>by
  simp only [HUnd,Bool.and_eq_true] at h
  exact ⟨⟨lt_dec h.1.1,HB.under_of h.1.2⟩,HUnder_of h.2⟩
def VRead (E:Env) (g:FuncId) (ac:List PV) (Hc:Heap) (k:Nat) (x:FV):Prop:=VCalls E g ac Hc k fun r H' nx'=>r=.p x∧H'=Hc∧nx'=k
theorem VRead.enter {f:FuncId} {fn:Func} {c:Code} {ac:List PV} {Hc:Heap} {k:Nat} {x:FV} (ho:E.O f=none) (hf:E.P.funcs[f]?=some fn) (hb:fn.body=some c) (hok:fnOk E.G fn c=true) (hn:ac.length≤fn.ntmps)
 (h:VWp E k c (argFrame 0 ac) Hc k (Done E.P fn.results.toList k fun r' H' nx'=>r'=.p x∧H'=Hc∧nx'=k)):VRead E f ac Hc k x:=VCalls.enter ho hf hb hok hn h
theorem VVal.read {Q:PV→Heap→Nat→Prop} {dst:Option Tmp} {ty:TypeId} {pos:String} {af:Array Edge} {gd:Option (Nat×Bool)} {fo:Operand} {args:Array Operand} {aT:Array TypeId} {g:FuncId} {fs cs asW ac:List PV} {Hc:Heap} {x:FV} (ns:List Nat) (hc:VRead E g ac Hc ns.length x)
 (hf:vev E.Γ L fo=some (.clo g fs cs)) (ha:evs E.Γ L args.toList=some asW) (hle:PLes (fs++asW++cs) (PVs.rn (rho ns nx) ac)) (hu:PVs.under ns.length ac) (hHu:HUnder ns.length Hc) (hin:HIn (rho ns nx) H Hc) (hnd:ns.Nodup) (hlt:∀ b∈ns,b<nx)
 (hm:news ns.length (rho ns nx) Hc (merge ns (rho ns nx) Hc H)=H) (q:Q (.p x) H nx) :
 VVal E true ⟨dst,.call { callee:=.value fo,args:=args,argTypes:=aT },ty,pos,af,gd⟩ L H nx Q :=
 VVal.callG hf ha hle hu hHu hin hnd hlt (fun h=>by cases h) hc fun r H' nx' ⟨h1,h2,h3⟩=>by
  subst h1;subst h2;subst h3
  rw [hm,Nat.sub_self]
  exact q
theorem build_array {P:Program} {t e:TypeId} {n:Nat} {z:List Value} {inf:TypeInfo} {ps:Array (Nat×Value)} {out:Array Value} (hz:zeroCellsOf P t=some z) (hu:P.underlying t=some (.array n e)) (hi:P.info? e=some inf)
 (hf:Instr.fill (fun i=>some (i*inf.size,inf.size)) z.toArray ps.toList=some out):dry P (Instr.build t ps)=some (.agg out):=by
 obtain ⟨i,zv,h1,h2,h3,h4⟩:=zeroCellsOf_some hz
 unfold Instr.build
 simp only [dry_bind]
 have hzv:dry P (zeroValue t)=some zv:=by
  simp only [zeroValue,dry_bind,dry_typeInfo,h1,Option.bind_some,h2]
  rfl
 rw [hzv]
 simp only [Option.bind_some,dry_underlying,hu]
 simp only [dry_bind,dry_sizeOf,hi,Option.map_some,Option.bind_some]
 have e:zv.cells=z.toArray:=by rw [h3]
 rw [e,hf]
 rfl
theorem VVal.buildA {Q:PV→Heap→Nat→Prop} {w:Bool} {dst:Option Tmp} {ty:TypeId} {pos:String} {af:Array Edge} {gd:Option (Nat×Bool)} {t e:TypeId} {n:Nat} {ps:Array (Nat×Operand)} {z:List Value} {inf:TypeInfo} {parts:List (Nat×PV)} {out:List PV} (hz:zeroCellsOf E.P t=some z) (hu:E.P.underlying t=some (.array n e))
 (hi:E.P.info? e=some inf) (hp:evp E.Γ L ps.toList=some parts) (hf:pfill (fun i=>some (i*inf.size,inf.size)) (z.map fun v=>.p (cellFV v)) parts=some out) (q:Q (mkAgg out) H nx) :
 VVal E w ⟨dst,.build t ps,ty,pos,af,gd⟩ L H nx Q :=
 VVal.quiet q fun m F σ tt h1 h2=>by
  obtain ⟨_,_,_,_,_,hpz⟩:=zeroCellsOf_some hz
  obtain ⟨out',e1,e2,e3⟩:=pfill_rel (fun i=>some (i*inf.size,inf.size)) (evp_rel h1 h2 hp) (cs':=z.toArray) (RPs.zero hpz) (all_plain_isCell hpz) hf
  have e4:=build_array (ps:=ps.map fun (i,x)=>(i,ev tt x)) hz hu hi (by rw [Array.toList_map];simpa using e1)
  refine ⟨.agg out',fun _=>?_,mkAgg_rel e2 e3⟩
  simp only [aval,aop,hz,e4,Option.map_some]
end Go.Vm
namespace Go.Vm
open Go.Am
variable {E:Env} {L:Frame} {H:Heap} {nx:Nat} {Q:PV→Heap→Nat→Prop}
variable {dst:Option Tmp} {ty:TypeId} {pos:String} {af:Array Edge} {gd:Option (Nat×Bool)}
theorem VVal.ofByte2 {w:Bool} {s d e e2:TypeId} {x:Operand} {b:Nat} {z:Bool} {n k:Int} (hx:vev E.Γ L x=some (.vec b 2 0 2)) (hb:hget H b=some (.vec e2 [.int .u8 n,.int .u8 k] 2 z)) (hs:E.P.underlying s=some (.slice e)) (hd:E.P.underlying d=some .string) (he:E.P.underlying e=some (.int .u8)) (hn:0≤n∧n<256) (hk:0≤k∧k<256)
 (q:Q (st [UInt8.ofNat n.toNat,UInt8.ofNat k.toNat]) H nx):VVal E w ⟨dst,.convert s d x,ty,pos,af,gd⟩ L H nx Q :=
 VVal.quiet q fun m F σ tt c1 c2=>by
  obtain ⟨hl1,vs,hl2,hl3,hl4⟩:=SlC.all (sz:=1) hx hb rfl m F σ tt c1 c2
  have hc:cells [UInt8.ofNat n.toNat,UInt8.ofNat k.toNat]=[.int .u8 n,.int .u8 k]:=by
   show [FV.int .u8 (((UInt8.ofNat n.toNat).toNat:Nat):Int),FV.int .u8 (((UInt8.ofNat k.toNat).toNat:Nat):Int)]=_
   rw [UInt8.toNat_ofNat',UInt8.toNat_ofNat']
   congr 2
   ·omega
   ·congr 2
    omega
  rw [← hc] at hl3
  have hvs:=cells_bytes hl3
  subst hvs
  have hsub:=vev_vec c1 c2 hx hb
  have hag:∃ a g,ev tt x=.slice a 2 g:=by
   unfold SubOf at hsub
   split at hsub
   ·exact ⟨_,_,hsub⟩
   ·exact absurd hsub.2.2 (by decide)
  obtain ⟨a,g,hag⟩:=hag
  rw [hag] at hl2
  refine ⟨.string (bs [UInt8.ofNat n.toNat,UInt8.ofNat k.toNat]),fun _=>?_,.p (.str _)⟩
  have hsl:(isSlT E.P s||isSlT E.P d)=true:=by simp only [isSlT,hs,hd];rfl
  simp only [aval,aop,hsl,if_true,aconv,hs,hd,hag,he,hl2,unbyte_some]
  rfl
end Go.Vm
namespace Go.Tra
open Go Go.Am Go.Vm
structure Plc where
 d:Nat
 s:Nat
instance:Enc Plc:={ default:=⟨0,0⟩,enc:=fun x=>[.int .i64 (x.d:Int),.int .i64 (x.s:Int)],size:=2,len:=fun _=>rfl }
def plcL (ns:List Nat):Nat→List Plc
 |0=>[]
 |d+1=>plcL ns d++(List.range (gi ns d)).map fun s=>⟨d,s⟩
def plcO (ns:List Nat) (d:Nat):Nat:=(plcL ns d).length
theorem plcO_succ (ns:List Nat) (d:Nat):plcO ns (d+1)=plcO ns d+gi ns d:=by simp [plcO,plcL]
theorem plcO_le (ns:List Nat) {d e:Nat} (h:d≤e):plcO ns d≤plcO ns e:=by
 induction e with
 |zero=>obtain rfl:d=0:=by omega
        exact Nat.le_refl _
 |succ e ih =>
  rcases Nat.lt_or_ge d (e+1) with h1|h1
  ·have:=ih (by omega)
   rw [plcO_succ];omega
  ·obtain rfl:d=e+1:=by omega
   exact Nat.le_refl _
theorem plcL_at (ns:List Nat):∀ (n d s:Nat),d<n→s<gi ns d→gi (plcL ns n) (plcO ns d+s)=⟨d,s⟩
 |n+1,d,s,h1,h2=>by
  have e0:plcL ns (n+1)=plcL ns n++(List.range (gi ns n)).map fun s=>⟨n,s⟩:=rfl
  rw [e0]
  unfold gi
  rw [List.getElem?_append]
  rcases Nat.lt_or_ge d n with h|h
  ·have h3:=plcO_le ns (d:=d+1) (e:=n) h
   rw [plcO_succ] at h3
   rw [if_pos (by show _<plcO ns n;omega)]
   exact plcL_at ns n d s h h2
  ·obtain rfl:d=n:=by omega
   have:(plcL ns d).length=plcO ns d:=rfl
   unfold gi at h2
   rw [if_neg (by omega),this,Nat.add_sub_cancel_left,List.getElem?_map,List.getElem?_range (by simpa [gi] using h2)]
   rfl
def plcRow (x:Plc):List Value:=[.agg #[.int .i64 (x.d:Int),.int .i64 (x.s:Int)]]
def plcRows (ns:List Nat):List (List Value):=(List.range (plcO ns ns.length)).map fun k=>plcRow (gi (plcL ns ns.length) k)
theorem plcRows_len (ns:List Nat):(plcRows ns).length=plcO ns ns.length:=by simp [plcRows]
theorem plcRows_at (ns:List Nat) {d s:Nat} (hd:d<ns.length) (hs:s<gi ns d) (h:plcO ns d+s<(plcRows ns).length):(plcRows ns)[plcO ns d+s]=plcRow ⟨d,s⟩:=by
 simp only [plcRows,List.getElem_map,List.getElem_range]
 rw [plcL_at ns _ d s hd hs]
theorem plc_lt (ns:List Nat) {d s:Nat} (hd:d<ns.length) (hs:s<gi ns d):plcO ns d+s<(plcRows ns).length:=by
 have h3:=plcO_le ns (d:=d+1) (e:=ns.length) hd
 rw [plcO_succ] at h3
 rw [plcRows_len];omega
def divNs (vs:List Value) (off:Nat):Nat→Option (List Nat)
 |0=>some []
 |n+1=>match divNs vs off n with
  |some l=>match vs[off+n*5]?,vs[off+n*5+1]?,vs[off+n*5+2]?,vs[off+n*5+3]?,vs[off+n*5+4]? with
   |some (.string _),some (.bool _),some (.int .i64 _),some (.int .i64 _),some (.slice _ k _)=>if k<1000000 then some (l++[k]) else none
   |_,_,_,_,_=>none
  |none=>none
theorem divNs_some {vs:List Value} {off:Nat}:∀ {n:Nat} {l:List Nat},divNs vs off n=some l→l.length=n∧∀ d,d<n→∃ x0 x1 x2 x3 a c,vs[off+d*5]?=some (.string x0)∧vs[off+d*5+1]?=some (.bool x1)∧vs[off+d*5+2]?=some (.int .i64 x2)∧vs[off+d*5+3]?=some (.int .i64 x3)∧vs[off+d*5+4]?=some (.slice a (gi l d) c)∧gi l d<1000000
 |0,l,h=>by cases h;exact ⟨rfl,fun d hd=>by omega⟩
 |n+1,l,h=>by
  unfold divNs at h
  split at h
  case h_2=>cases h
  rename_i l0 h0
  split at h
  case h_2=>cases h
  rename_i x0 x1 x2 x3 a k c y0 y1 y2 y3 h1
  split at h
  case isFalse=>cases h
  rename_i hk
  cases h
  obtain ⟨i1,i2⟩:=divNs_some h0
  refine ⟨by simp [i1],fun d hd=>?_⟩
  rcases Nat.lt_or_ge d n with h|h
  ·obtain ⟨z0,z1,z2,z3,a',c',h20,h21,h22,h23,h2⟩:=i2 d h
   refine ⟨z0,z1,z2,z3,a',c',h20,h21,h22,h23,?_⟩
   have:gi (l0++[k]) d=gi l0 d:=by unfold gi;rw [List.getElem?_append_left (by omega)]
   rw [this];exact h2
  ·obtain rfl:d=n:=by omega
   refine ⟨x0,x1,x2,x3,a,c,y0,y1,y2,y3,?_⟩
   have:gi (l0++[k]) d=k:=by unfold gi;rw [← i1];simp
   rw [this];exact ⟨h1,hk⟩
def plcKey (sl:Value) (ns:List Nat):Value:=.tuple #[sl,.agg (ns.map fun k:Nat=>Value.int .i64 (k:Int)).toArray]
theorem plcKey_inj {a b:Value} {x y:List Nat} (h:plcKey a x=plcKey b y):a=b∧x=y:=by
 unfold plcKey at h
 simp only [Value.tuple.injEq,Array.mk.injEq,List.cons.injEq,Value.agg.injEq,and_true] at h
 refine ⟨h.1,?_⟩
 have h2:=h.2
 refine List.ext_getElem? fun i=>?_
 have h3:=congrArg (fun l:List Value=>l[i]?) h2
 simp only [List.getElem?_map] at h3
 cases hx:x[i]?<;>cases hy:y[i]?<;>rw [hx,hy] at h3<;>simp at h3
 congr 1;omega
def plcSq:SqF:=fun lb m=>match lb with
 |[.pointer (some ⟨b,0,none⟩)]=>match m.get b with
  | .cells [_,_,.slice (some ⟨c,off,none⟩) n g,_] _ 0 false=>match m.get c with
   | .cells vs _ g' _=>if 0<n∧n<1000000∧g'=g then (divNs vs off n).map fun ns=>(plcKey (.slice (some ⟨c,off,none⟩) n g) ns,plcRows ns) else none
   |_=>none
  |_=>none
 |_=>none
theorem plcSq_some {lb:List Value} {m:Mem} {key:Value} {rows:List (List Value)} (h:plcSq lb m=some (key,rows)):∃ b x y c off n g z e vs e' ro ns,lb=[.pointer (some ⟨b,0,none⟩)]∧m.get b=.cells [x,y,.slice (some ⟨c,off,none⟩) n g,z] e 0 false ∧
 m.get c=.cells vs e' g ro∧0<n∧n<1000000∧divNs vs off n=some ns∧key=plcKey (.slice (some ⟨c,off,none⟩) n g) ns∧rows=plcRows ns:=by
 unfold plcSq at h
 split at h
 case h_2=>cases h
 rename_i b
 split at h
 case h_2=>cases h
 rename_i x y c off n g z e hb
 split at h
 case h_2=>cases h
 rename_i vs e' g' ro hc
 split at h
 case isFalse=>cases h
 rename_i hn
 obtain ⟨hn,hn9,rfl⟩:=hn
 rw [Option.map_eq_some_iff] at h
 obtain ⟨ns,h1,h2⟩:=h
 cases h2
 exact ⟨b,x,y,c,off,n,g',z,e,vs,e',ro,ns,rfl,hb,hc,hn,hn9,h1,rfl,rfl⟩
end Go.Tra
namespace Go.Proofs.YtdabojnmoejilaaGreatDoor
open Go Go.Am Go.Vm Go.Tra Go.RowKit
structure PlcW (B O n c1 o1:Nat) (ns:List Nat) (X:World):Prop where
 box:∃ cap,X.cell? ⟨c1,o1+2,none⟩=some (.slice (some ⟨B,O,none⟩) n cap)
 div:∀ d,d<n→∃ v0 v1 v2 v3 a c,X.cell? ⟨B,O+d*5,none⟩=some (.string v0)∧X.cell? ⟨B,O+d*5+1,none⟩=some (.bool v1)∧X.cell? ⟨B,O+d*5+2,none⟩=some (.int .i64 v2)∧X.cell? ⟨B,O+d*5+3,none⟩=some (.int .i64 v3)∧X.cell? ⟨B,O+d*5+4,none⟩=some (.slice a (gi ns d) c)
abbrev plcI (lb:List Value) (key:Value) (rows:List (List Value)) (ι:Inj) (g:Nat→Nat) (lb':Array Value):World→Prop:=SeqInv Tryz.prog (globList Tryz.prog 8 laidL) (fun m'=>plcSq lb m'=some (key,rows)∧∀ k∈globList Tryz.prog 8 laidL,m'.get k=(globMem Tryz.prog 8 laidL).get k) ι g lb lb'
theorem box_rel {G:List Nat} {ι:Inj} {m:Mem} {w:World} {b:Nat} {p':Value} {vs:List Value} {e:TypeId} (hs:Sim Tryz.prog G ι m w) (h:VRel ι m.gen (.pointer (some ⟨b,0,none⟩)) p') (hm:m.get b=.cells vs e 0 false) :
 ∃ c o,p'=.pointer (some ⟨c,o,none⟩)∧∀ i,i<vs.length→∃ v',w.cell? ⟨c,o+i,none⟩=some v'∧VRel ι m.gen (vs.getD i undef) v':=by
 cases h with
 |ptr a a' h =>
  obtain ⟨ib,h1,h2,h3⟩:=h
  obtain ⟨cs,fr,e',q1,q2,q3,q4,q5⟩:=cells_of hs h1 hm
  have e1:=h3 (by simp [Mem.gen,hm,ABlk.gen,agen])
  refine ⟨ib.blk,ib.sh,by rw [e1];simp,fun i hi=>?_⟩
  obtain ⟨v',r1,r2⟩:=q4 i hi
  exact ⟨v',by rw [Am.cell_of_row q1];exact r1,r2⟩
theorem slice_rel {ι:Inj} {g:Nat→Nat} {c off n gen:Nat} {v':Value} {ib:IB} (h:VRel ι g (.slice (some ⟨c,off,none⟩) n gen) v') (hn:0<n) (hg:gen=g c) (hi:ι c=some ib):∃ cap,v'=.slice (some ⟨ib.blk,off+ib.sh,none⟩) n cap:=by
 cases h with
 |sl _ _ _ _ a' cap hsr =>
  obtain ⟨ib',h1,h2,h3⟩:=slice_addr hsr (fun _=>hn) 0
  rw [hi] at h1
  cases h1
  have:=h3 (by simpa [agen] using hg)
  rw [Addr.add_zero'] at this
  refine ⟨cap,?_⟩
  rw [this]
  simp
theorem div_rel {G:List Nat} {ι:Inj} {m:Mem} {w:World} {c off n g:Nat} {vs:List Value} {e:TypeId} {ro:Bool} {ib:IB} {ns:List Nat} (hs:Sim Tryz.prog G ι m w) (hi:ι c=some ib) (hc:m.get c=.cells vs e g ro) (hd:divNs vs off n=some ns) {d:Nat} (hlt:d<n) :
 ∃ v0 v1 v2 v3 a k,w.cell? ⟨ib.blk,off+ib.sh+d*5,none⟩=some (.string v0)∧w.cell? ⟨ib.blk,off+ib.sh+d*5+1,none⟩=some (.bool v1)∧w.cell? ⟨ib.blk,off+ib.sh+d*5+2,none⟩=some (.int .i64 v2)∧w.cell? ⟨ib.blk,off+ib.sh+d*5+3,none⟩=some (.int .i64 v3)∧w.cell? ⟨ib.blk,off+ib.sh+d*5+4,none⟩=some (.slice a (gi ns d) k):=by
 obtain ⟨cs,fr,e',q1,q2,q3,q4,q5⟩:=cells_of hs hi hc
 obtain ⟨x0,x1,x2,x3,a,k,y0,y1,y2,y3,hv,_⟩:=(divNs_some hd).2 d hlt
 have hl:off+d*5+4<vs.length:=by
  rcases Nat.lt_or_ge (off+d*5+4) vs.length with h|h
  ·exact h
  ·rw [List.getElem?_eq_none h] at hv;cases hv
 have cell:∀ j,j≤4→∃ v',w.cell? ⟨ib.blk,off+ib.sh+d*5+j,none⟩=some v'∧VRel ι m.gen (vs.getD (off+d*5+j) undef) v':=fun j hj=>by
  obtain ⟨v',r1,r2⟩:=q4 (off+d*5+j) (by omega)
  refine ⟨v',?_,r2⟩
  rw [Am.cell_of_row q1,← r1]
  congr 1
  omega
 obtain ⟨v0,h0,r0⟩:=cell 0 (by omega)
 obtain ⟨v1,h1,r1⟩:=cell 1 (by omega)
 obtain ⟨v2,h2,r2⟩:=cell 2 (by omega)
 obtain ⟨v3,h3,r3⟩:=cell 3 (by omega)
 obtain ⟨v4,h4,r4⟩:=cell 4 (by omega)
 rw [List.getD_eq_getElem?_getD,Nat.add_zero,y0,Option.getD_some] at r0
 rw [List.getD_eq_getElem?_getD,y1,Option.getD_some] at r1
 rw [List.getD_eq_getElem?_getD,y2,Option.getD_some] at r2
 rw [List.getD_eq_getElem?_getD,y3,Option.getD_some] at r3
 rw [List.getD_eq_getElem?_getD,hv,Option.getD_some] at r4
 cases r0;cases r1;cases r2;cases r3
 have:∃ a' k',v4=.slice a' (gi ns d) k':=by
  generalize gi ns d=q at *
  cases r4<;>exact ⟨_,_,rfl⟩
 obtain ⟨a',k',rfl⟩:=this
 exact ⟨x0,x1,x2,x3,a',k',h0,h1,h2,h3,h4⟩
theorem plc_facts {lb:List Value} {m:Mem} {key:Value} {rows:List (List Value)} (hq:plcSq lb m=some (key,rows)) {ι:Inj} {w:World} {lb':Array Value} (hsim:Sim Tryz.prog (globList Tryz.prog 8 laidL) ι m w) (hl:LRel ι m.gen lb lb'.toList) :
 ∃ B O n c1 o1 ns,0<n∧n<1000000∧(∀ d,d<n→gi ns d<1000000)∧ns.length=n∧rows=plcRows ns∧lb'=#[.pointer (some ⟨c1,o1,none⟩)]∧∀ X,plcI lb key rows ι m.gen lb' X→PlcW B O n c1 o1 ns X:=by
 obtain ⟨b,x,y,c,off,n,g,z,e,vs,e',ro,ns,rfl,hb,hc,hn,hn9,hns,rfl,rfl⟩:=plcSq_some hq
 obtain ⟨lb'⟩:=lb'
 obtain ⟨p1,k1,rfl,r1,hl2⟩:=hl.uncons
 have hk:k1=[]:=List.length_eq_zero_iff.1 hl2.1.symm
 subst hk
 obtain ⟨c1,o1,rfl,hcell⟩:=box_rel hsim r1 hb
 have hg:g=m.gen c:=by simp [Mem.gen,hc,ABlk.gen]
 obtain ⟨v2,_,h2⟩:=hcell 2 (by simp)
 have hib:∃ ib,ι c=some ib:=by
  simp only [List.getD_cons_succ,List.getD_cons_zero] at h2
  cases h2 with
  |sl _ _ _ _ a' cap hsr =>
   obtain ⟨ib,h1,_⟩:=hsr
   exact ⟨ib,h1⟩
 obtain ⟨ib,hib⟩:=hib
 refine ⟨ib.blk,off+ib.sh,n,c1,o1,ns,hn,hn9,fun d hd=>by obtain ⟨_,_,_,_,_,_,_,_,_,_,_,h⟩:=(divNs_some hns).2 d hd;exact h,(divNs_some hns).1,rfl,rfl,?_⟩
 rintro X ⟨ι',m',g1,g2,⟨g3,g4⟩,g5⟩
 obtain ⟨b',x',y',c',off',n',g',z',e1',vs',e2',ro',ns',q0,qb,qc,qn,qn9,qns,qk,qr⟩:=plcSq_some g3
 cases q0
 obtain ⟨k1,rfl⟩:=plcKey_inj qk
 cases k1
 obtain ⟨_,ib',i1,i2⟩:=g5 c ib hib
 have:ib'=ib:=i2 (by rw [← hg];simp [Mem.gen,qc,ABlk.gen])
 subst this
 obtain ⟨p1',k1',x1,x2,_⟩:=g2.uncons
 cases x1
 obtain ⟨c1',o1',z1,z2⟩:=box_rel g1 x2 qb
 cases z1
 refine ⟨?_,fun d hd=>div_rel g1 i1 qc qns hd⟩
 obtain ⟨v',w1,w2⟩:=z2 2 (by simp)
 simp only [List.getD_cons_succ,List.getD_cons_zero] at w2
 obtain ⟨cap,rfl⟩:=slice_rel w2 hn (by simp [Mem.gen,qc,ABlk.gen]) i1
 exact ⟨cap,w1⟩
attribute [local go_sem] Oper.semAt_some
def ivS:Value→Int| .int _ q=>q|_=>0
theorem places_seq (lb:List Value) (m:Mem) (key:Value) (rows:List (List Value)) (hq:plcSq lb m=some (key,rows)) (hg:∀ k∈globList Tryz.prog 8 laidL,m.get k=(globMem Tryz.prog 8 laidL).get k) (ι:Inj) (w:World) (lb':Array Value) (hsim:Sim Tryz.prog (globList Tryz.prog 8 laidL) ι m w) (hl:LRel ι m.gen lb lb'.toList) :
 SeqOf Tryz.prog 81 lb' rows (plcI lb key rows ι m.gen lb') w:=by
 obtain ⟨B,O,n,c1,o1,ns,hn,hn9,hns9,hlen,rfl,rfl,facts⟩:=plc_facts hq hsim hl
 have later:∀ X Y,plcI lb key (plcRows ns) ι m.gen #[.pointer (some ⟨c1,o1,none⟩)] X→Below X.heap.size X Y→plcI lb key (plcRows ns) ι m.gen #[.pointer (some ⟨c1,o1,none⟩)] Y:=by
  rintro X Y ⟨ι',m',g1,g2,g3⟩ hb
  exact ⟨ι',m',sim_below g1 hb,g2,g3⟩
 generalize plcI lb key (plcRows ns) ι m.gen #[.pointer (some ⟨c1,o1,none⟩)]=SI at *
 intro l J Jx W hB hJ hx hY hI hj
 refine callsIn_of_wp Tryz.func81 rfl trivial ?_ rfl
 simp only [Tryz.ntmps81,List.size_toArray,List.length_cons,List.length_nil,Nat.reduceAdd,Nat.reduceSub,Array.replicate_succ,Array.replicate_zero,List.push_toArray,List.append_toArray,List.nil_append,List.cons_append]
 obtain ⟨⟨cap,hbox⟩,hdiv⟩:=facts W hI
 gi_wp2
 gi_loopw [9] (fun v wr=>∃ d:Nat,d≤n∧v=.int .i64 (d:Int)∧J (plcO ns d) wr∧SI wr) (fun v _=>(n-ivS v).toNat)
 case atStart=>exact ⟨0,Nat.zero_le _,by simp,hj,hI⟩
 case round =>
  obtain ⟨d,hd,rfl,hJd,hId⟩:=hrel
  obtain ⟨_,hdv⟩:=facts _ hId
  by_cases hlt:d<n
  ·obtain ⟨v0,v1,v2,v3,a,k,f0,f1,f2,f3,f4⟩:=hdv d hlt
   have hwd:IntKind.i64.wrap ((d:Int)+1)=((d+1:Nat):Int):=by rw [wrapB (by omega) (by omega)];omega
   gi_wp2
   have hJ1:∀ o,J (plcO ns d) (wr.alloc o):=fun o=>hJ _ _ _ hJd ((Below.refl _ _).alloc (Nat.le_refl _) o)
   have hI1:∀ o,SI (wr.alloc o):=fun o=>later _ _ hId ((Below.refl _ _).alloc (Nat.le_refl _) o)
   gi_loopw [17] (fun v wr2=>∃ s:Nat,s≤gi ns d∧v=.int .i64 (s:Int)∧J (plcO ns d+s) wr2∧SI wr2) (fun v _=>(gi ns d-ivS v).toNat)
   case atStart=>exact ⟨0,Nat.zero_le _,by simp,hJ1 _,hI1 _⟩
   case round =>
    obtain ⟨s,hs,rfl,hJs,hIs⟩:=hrel
    have h9:=hns9 d hlt
    by_cases hls:s<gi ns d
    ·have hws:IntKind.i64.wrap ((s:Int)+1)=((s+1:Nat):Int):=by rw [wrapB (by omega) (by omega)];omega
     have hpl:=plc_lt ns (d:=d) (s:=s) (by omega) hls
     obtain ⟨fn,tmps,asg,body,hy,hR⟩:=hY _ _ hpl hJs
     rw [plcRows_at ns (by omega) hls] at hy
     have hy:(Instr.yield l #[.agg #[.int .i64 (d:Int),.int .i64 (s:Int)]]).run Tryz.prog wr=.ok (.round l fn tmps asg body) wr:=hy
     gi_wp2
     refine ⟨rfl,hR.mono ?_⟩
     rintro e W3 (⟨rfl,hJ3,hI3⟩|⟨rfl,hx3⟩)
     ·gi_wp2
      go_roundw
      case rel=>exact ⟨s+1,hls,by first|rfl|simp,hJ3,hI3⟩
      case measure=>simp [ivS];omega
     ·gi_wp2
      refine ⟨rfl,_,results_none rfl _ _ _,⟨_,rfl⟩,.inr ⟨_,hx3⟩⟩
    ·have hss:s=gi ns d:=by omega
     rw [hss,← plcO_succ] at hJs
     gi_wp2
     go_roundw
     case rel=>exact ⟨d+1,hlt,by first|rfl|simp,hJs,hIs⟩
     case measure=>simp [ivS];omega
  ·have hdd:d=n:=by omega
   gi_wp2
   go_end0
   exact ⟨⟨_,rfl⟩,.inl (by rw [plcRows_len,hlen,← hdd];exact hJd)⟩
end Go.Proofs.YtdabojnmoejilaaGreatDoor
namespace Go.Vm
open Go Go.Am
section
variable {P:Program} {G:List Nat}
def grow0F (e:TypeId) (xs:List Value) (m:Mem):Option (Value×Mem):=match xs with
 |[.slice none 0 0,.int .i64 n]=>if n=0 then some (.slice none 0 0,m) else growF e [.slice none 0 0,.int .i64 n] m
 |_=>none
def grow0O (fg:FuncId) (e:TypeId) (O:Oracle):Oracle:=fun f=>if f=fg then some (grow0F e) else O f
theorem grow0O_ne {fg f:FuncId} {e:TypeId} {O:Oracle} (h:f≠fg):grow0O fg e O f=O f:=if_neg h
theorem grow0O_at {fg:FuncId} {e:TypeId} {O:Oracle}:grow0O fg e O fg=some (grow0F e):=if_pos rfl
theorem grow0F_some {e:TypeId} {xs:List Value} {m m':Mem} {v:Value} (h:grow0F e xs m=some (v,m')):(xs=[.slice none 0 0,.int .i64 0]∧v=.slice none 0 0∧m'=m)∨growF e xs m=some (v,m'):=by
 unfold grow0F at h
 split at h
 ·rename_i n
  split at h
  ·rename_i hn;subst hn;cases h;exact .inl ⟨rfl,rfl,rfl⟩
  ·exact .inr h
 ·cases h
theorem grow0O_sound {O:Oracle} {fg:FuncId} {e:TypeId} (hO:OSound P G (growO fg e O)) (hc:∀ w:World,Calls P fg #[.slice none 0 0,.int .i64 0] w fun r w'=>r=.returned (.slice none 0 0)∧w'=w):OSound P G (grow0O fg e O):=by
 intro f Fo hf
 by_cases h:f=fg
 ·subst h
  rw [grow0O_at] at hf
  cases hf
  obtain ⟨o1,o2,o3,o4⟩:=hO f _ growO_at
  refine ⟨fun xs m v m' hv ι w as' hs hrel=>?_,fun xs m v m' hv=>?_,o3,SeqFn.none fun n lb m=>rfl⟩
  ·rcases grow0F_some hv with ⟨rfl,rfl,rfl⟩|hv
   ·obtain ⟨hlen,hat⟩:=hrel
    have hl2:as'.toList.length=2:=by simpa using hlen.symm
    have e0:as'=#[.slice none 0 0,.int .i64 0]:=by
     obtain ⟨l⟩:=as'
     match l,hl2 with
     |[a,b],_ =>
      have ha:=hat 0 (by simp)
      have hb:=hat 1 (by simp)
      simp only [List.getD_cons_zero,List.getD_cons_succ] at ha hb
      have hb':=hb.eq_of_plain (v:=.int .i64 0) rfl
      cases ha
      rw [hb']
    subst e0
    refine (hc w).mono ?_
    rintro r w' ⟨rfl,rfl⟩
    exact ⟨_,rfl,Post.same hs (VRel.plain rfl)⟩
   ·exact o1 xs m v m' hv ι w as' hs hrel
  ·rcases grow0F_some hv with ⟨rfl,rfl,rfl⟩|hv
   ·exact MemStep.refl _
   ·exact o2 xs m v m' hv
 ·rw [grow0O_ne h] at hf
  exact hO f Fo (by rw [growO_ne h];exact hf)
end
end Go.Vm
namespace Go.Proofs.YtdabojnmoejilaaGreatDoor
open Go Go.Am Go.Vm Go.Tra
theorem mixOk:Tryz.prog.follows .mixedOrders=true:=by kernel_rfl
theorem hasTab:HasTab 8 laidL:=⟨⟨1,39,by kernel_rfl,by kernel_rfl,of_decide_eq_true (by kernel_rfl)⟩⟩
theorem enters_itoa:Am.Enters Tryz.prog 114:=⟨_,Tryz.func114,by kernel_rfl,by kernel_rfl⟩
theorem enters_compare:Am.Enters Tryz.prog 118:=⟨_,Tryz.func118,by kernel_rfl,by kernel_rfl⟩
theorem enters_text:Am.Enters Tryz.prog 111:=⟨_,Tryz.func111,by kernel_rfl,by kernel_rfl⟩
def libL:List (FuncId×LibF):=[(114,itoaF),(118,compareF),(111,textF)]
theorem osound0:OSound Tryz.prog (globList Tryz.prog 8 laidL) (libO (globList Tryz.prog 8 laidL) (globMem Tryz.prog 8 laidL) libL):=libO_sound fun x hx=>by
 simp only [libL,List.mem_cons,List.not_mem_nil,or_false] at hx
 rcases hx with rfl|rfl|rfl
 ·exact itoa_sound hasTab enters_itoa
 ·exact compare_sound enters_compare
 ·exact text_sound hasTab enters_text
def growRen:Go.Shelf.Ren:=⟨fun|4=>121|n=>n,fun|0=>0|3=>3|4=>4|9=>9|20=>20|22=>52|25=>3|n=>n,fun|n=>n⟩
theorem growLay:Go.Proofs.Lays8.n4 Tryz.prog growRen:={
 mixed:=by kernel_rfl
 f4:=⟨"slices.Grow[[]int,int]",by decide,Tryz.func121.trans (congrArg some (by kernel_rfl))⟩
 t0:=Tryz.underlying0
 a0:=Tryz.isAgg0
 z0:=Tryz.sizeOf0
 v0:=Tryz.zeroValue0
 t3:=Tryz.underlying3
 a3:=Tryz.isAgg3
 z3:=Tryz.sizeOf3
 v3:=Tryz.zeroValue3
 t4:=Tryz.underlying4
 a4:=Tryz.isAgg4
 z4:=Tryz.sizeOf4
 v4:=Tryz.zeroValue4
 t9:=Tryz.underlying9
 a9:=Tryz.isAgg9
 z9:=Tryz.sizeOf9
 v9:=Tryz.zeroValue9
 t20:=Tryz.underlying20
 a20:=Tryz.isAgg20
 z20:=Tryz.sizeOf20
 v20:=Tryz.zeroValue20
 t22:=Tryz.underlying52
 a22:=Tryz.isAgg52
 z22:=Tryz.sizeOf52
 v22:=Tryz.zeroValue52 }
theorem int_info0:(match Tryz.prog.info? 3 with|some i=>decide (i.size=1)&&decide (i.bytes=8)&&(match i.zero with|some (.int .i64 n)=>decide (n=0)|_=>false)|none=>false)=true:=by kernel_rfl
theorem int_info:∃ i0,Tryz.prog.info? 3=some i0∧i0.zero=some (.int .i64 0)∧i0.size=1∧i0.bytes=8:=by
 have h:=int_info0
 generalize Tryz.prog.info? 3=o at *
 cases o with
 |none=>cases h
 |some i =>
  simp only [Bool.and_eq_true,decide_eq_true_eq] at h
  obtain ⟨⟨h1,h2⟩,h3⟩:=h
  refine ⟨i,rfl,?_,h1,h2⟩
  split at h3
  ·rename_i n hz
   rw [hz,of_decide_eq_true h3]
  ·cases h3
theorem grow_calls (n:Nat) (w:World) (h0:0<n) (hn:n≤1000000):Calls Tryz.prog 121 #[.slice none 0 0,.int .i64 n] w fun r w'=>∃ cap cs,r=.returned (.slice (some ⟨w.heap.size,0,none⟩) 0 cap)∧w'.heap=w.heap.push (.cells cs 3 (0,0))∧w'.tape=w.tape∧w'.os=w.os∧w'.output=w.output∧cap*Tryz.prog.cellsOf 3≤cs.size:=by
 obtain ⟨i0,h1,h2,h3,h4⟩:=int_info
 refine (Any8.slices_Grow_grow growLay i0 (.int .i64 0) h1 h2 (by omega) none 0 0 n [] w (Nat.le_refl _) (by omega) (by rw [h4];omega) (by omega) (by simp) (fun _=>rfl) (fun a ha=>by cases ha)).mono ?_
 rintro r w' ⟨rfl,rfl⟩
 refine ⟨_,_,rfl,rfl,rfl,rfl,rfl,?_⟩
 rw [cellsOf_info h1,h3]
 have e:(Value.int .i64 0).cells.size=1:=rfl
 simp only [Array.size_append,zeroCells_size,e]
 omega
theorem enters_grow:Am.Enters Tryz.prog 121:=⟨_,Tryz.func121,by kernel_rfl,by kernel_rfl⟩
noncomputable def allO0:Oracle:=grow0O 121 3 (libO (globList Tryz.prog 8 laidL) (globMem Tryz.prog 8 laidL) libL)
theorem osoundG:OSound Tryz.prog (globList Tryz.prog 8 laidL) allO0:=grow0O_sound (growO_sound osound0 enters_grow grow_calls) fun w=>Any8.slices_Grow_room growLay none 0 0 0 w (Nat.le_refl _) (by omega) (by omega) (by omega)
theorem enters_places:Am.Enters Tryz.prog 81:=⟨_,Tryz.func81,by kernel_rfl,by kernel_rfl⟩
theorem places_nt:∀ fn,Tryz.prog.funcs[81]?=some fn→fn.ntmps=28:=fun fn h=>by
 rw [Tryz.func81] at h
 cases h
 exact Tryz.ntmps81
noncomputable def allO:Oracle:=seqO (globList Tryz.prog 8 laidL) (globMem Tryz.prog 8 laidL) 81 28 plcSq allO0
theorem osound:OSound Tryz.prog (globList Tryz.prog 8 laidL) allO:=seqO_sound osoundG enters_places places_nt places_seq
noncomputable abbrev env:Env:=lawEnvX Tryz.prog 8 laidL allO
theorem allO_ne {f:FuncId} (h:f≠81):allO f=allO0 f:=seqO_ne h
theorem allO_places:allO 81=some (seqFo (globList Tryz.prog 8 laidL) (globMem Tryz.prog 8 laidL) 28 plcSq):=by unfold allO;exact seqO_at
theorem env_none {f:FuncId} (h:f∉81::121::libL.map (·.1)):env.O f=none:=by
 show allO f=none
 rw [allO_ne (fun e=>h (by rw [e];simp))]
 show grow0O _ _ _ f=none
 rw [grow0O_ne (fun e=>h (by rw [e];simp))]
 refine libO_none ?_
 rw [List.lookup_eq_none_iff]
 intro p hp
 by_cases e:f=p.1
 ·exact absurd (List.mem_cons_of_mem _ (List.mem_cons_of_mem _ (List.mem_map.2 ⟨p,hp,e.symm⟩))) h
 ·simpa using e
theorem itoa_fun (n:Int) (h:-9223372036854775808≤n∧n≤9223372036854775807):VFun env 114 [.int .i64 n] (st (Lib.itoa n)) :=
 lib_funX ((allO_ne (by decide)).trans (grow0O_ne (by decide))) rfl fun m F xs h1=>by
  cases h1 with
  |cons h1 t =>
   cases t;cases h1
   exact ⟨_,by simp only [itoaF];rw [if_pos h],.str _⟩
theorem compare_fun (a b:List UInt8):VFun env 118 [.str (bs a),.str (bs b)] (.p (.int .i64 (Lib.compareBytes a b))) :=
 lib_funX ((allO_ne (by decide)).trans (grow0O_ne (by decide))) rfl fun m F xs h1=>by
  cases h1 with
  |cons h1 t =>
   cases t with
   |cons h2 t =>
    cases t;cases h1;cases h2
    exact ⟨.int .i64 (Lib.compareBytes a b),by simp only [compareF,bs_data],.int _ _⟩
theorem text_fun (l:List Nat) (hl:Num.Lim l) (hn:l.length<1000000000):VFun env 111 [.lst 39 (cells l) l.length] (st (Num.textL l)) :=
 lib_funX ((allO_ne (by decide)).trans (grow0O_ne (by decide))) rfl fun m F xs h1=>textF_run hl hn h1
theorem allO_grow:allO 121=some (grow0F 3):=(allO_ne (by decide)).trans grow0O_at
theorem grow_fun (n:Nat) (h0:0<n) (hn:n≤1000000):VFunV env 121 [.val (.slice none 0 0),.int .i64 (n:Int)] 3 [] 0 false:=by
 intro m F σ xs h1 h2
 have h2':RFs m F [.val (.slice none 0 0),.int .i64 (n:Int)] xs:=RFs.ofRPs h2
 have e:xs=[.slice none 0 0,.int .i64 (n:Int)]:=by
  cases h2' with
  |cons a t =>
   cases t with
   |cons b t =>
    cases t
    cases a
    cases b
    rfl
 subst e
 obtain ⟨c1,c2,c3,c4⟩:=slice_new (e:=3) (cs:=[]) (vs:=[]) 0 h1 .nil rfl
 refine ACalls.oracle (F:=grow0F 3) (m':=(newSlice m 3 [] 0).2) (v:=(newSlice m 3 [] 0).1) allO_grow ?_ ⟨_,_,_,F,_,⟨rfl,rfl,rfl⟩,c1,c4,c2⟩
 simp only [grow0F,growF]
 rw [if_neg (by omega),if_pos (by omega)]
theorem grow0_fun:VFun env 121 [.val (.slice none 0 0),.int .i64 0] (.p (.val (.slice none 0 0))):=by
 intro m F σ xs h1 h2
 have h2':RFs m F [.val (.slice none 0 0),.int .i64 0] xs:=RFs.ofRPs h2
 have e:xs=[.slice none 0 0,.int .i64 0]:=by
  cases h2' with
  |cons a t =>
   cases t with
   |cons b t =>
    cases t
    cases a
    cases b
    rfl
 subst e
 exact ACalls.oracle (F:=grow0F 3) (m':=m) (v:=.slice none 0 0) allO_grow (by simp only [grow0F];rfl) ⟨_,[],0,F,σ,⟨rfl,rfl,rfl⟩,h1,.p (.val rfl),Step.refl _ _ _ _ _⟩
end Go.Proofs.YtdabojnmoejilaaGreatDoor
namespace Go.Proofs.YtdabojnmoejilaaGreatDoor
open Go Go.Am Go.Vm
attribute [local irreducible] VVal VOps VOpsD VWp VCalls VFun VFunV QSeq QBlk QLoop Vm.Done DoneV DoneI
theorem trim_spec (l:List Nat) (hl:l.length<1000000):VFun env 131 [.lst 39 (cells l) l.length] (lst 39 (Num.trimL l)):=by
 refine VFun.enter (env_none (by decide)) Tryz.func131 rfl (by kernel_rfl) (by simp [Tryz.ntmps131]) ?_
 repeat' (first|apply VWp.rseq|apply VWp.blockSeq|apply VOps.nil|apply VOps.one|(apply VVal.assign;rfl))
 refine VWp.loopQ (fun a:List Nat=>[(0,lst 39 a)]) (fun _=>[]) 0 (fun a=>a.length≤l.length∧Num.trimL a=Num.trimL l) (fun a=>a.length) l (Nat.le_refl _) ⟨by omega,rfl⟩ ⟨Nat.le_refl _,?_,trivial⟩ ?_
 ·repeat (first|exact LCov.nil|refine LCov.same trivial rfl ?_|refine LCov.same (lt_dec rfl) rfl ?_|refine LCov.same ⟨trivial,lt_dec rfl,lt_dec rfl,lt_dec rfl,trivial⟩ rfl ?_|refine LCov.same ⟨trivial,lt_dec rfl,lt_dec rfl,trivial⟩ rfl ?_|refine LCov.same ⟨trivial,trivial⟩ rfl ?_|refine LCov.cons trivial rfl (.of_eq (lst_len (by simp<;>omega))) ?_)
 rintro a ⟨ha,hr⟩
 have hlast:0<a.length→a=a.take (a.length-1)++[gi a (a.length-1)]:=fun h=>by
  conv=>lhs;rw [← List.take_append_drop (a.length-1) a]
  congr 1
  rw [List.drop_eq_getElem_cons (by omega),List.drop_eq_nil_of_le (by omega)]
  simp [gi,List.getElem?_eq_getElem (show a.length-1<a.length by omega)]
 repeat' (first|apply VWp.assoc|apply VWp.rseq|apply VWp.region|apply VWp.skipSeq|apply VWp.exitSeq|apply QSeq.normal|apply QBlk.normal|apply QBlk.exit|apply QLoop.exit|apply VWp.ret|apply VWp.blockQ|apply VOps.nil|apply VOps.one|(apply VOps.take;rfl;rfl)|(apply VOps.drop;rfl;rfl;rfl)|(apply VOps.guard;rfl;rfl)|(apply VVal.assign;rfl)|(apply VVal.move;rfl)|(apply VVal.sub64;rfl;rfl;omega)|(apply VVal.int;rfl;rfl;rfl)|(apply VVal.indexP;rfl;rfl;rfl;omega;omega;rfl)|(apply VVal.load;rfl;rfl)|(apply VVal.pick_true;rfl;rfl)|(apply VVal.pick_false;rfl;rfl)|(apply VVal.lenF;rfl;rfl)|(apply VVal.sliceToI;rfl;rfl;rfl;rfl;rfl;rfl;omega)|(apply VWp.condSeq_false;rfl)|(apply VWp.condSeq_dec;rfl)|(intro _;try (exfalso;omega)))
 ·rename_i h1 h2
  have e1:((a.length:Int)-1).toNat=a.length-1:=by omega
  have hz:gi a (a.length-1)=0:=by omega
  refine QLoop.normal ⟨a.take (a.length-1),⟨by simp;omega,?_⟩,by simp;omega,⟨Nat.le_refl _,?_,trivial⟩⟩
  ·have:=hlast (by omega)
   rw [hz] at this
   rw [← hr]
   conv=>rhs;rw [this]
   rw [Num.trim_append_zero]
  ·rw [e1];repeat (first|exact LCov.nil|refine LCov.same trivial rfl ?_|refine LCov.same (lt_dec rfl) rfl ?_|refine LCov.same ⟨trivial,lt_dec rfl,lt_dec rfl,lt_dec rfl,trivial⟩ rfl ?_|refine LCov.same ⟨trivial,lt_dec rfl,lt_dec rfl,trivial⟩ rfl ?_|refine LCov.same ⟨trivial,trivial⟩ rfl ?_|refine LCov.cons trivial rfl (.of_eq (lst_len (by simp<;>omega))) ?_)
 ·rename_i h1 h2
  refine Done.ret rfl (.refl _) (by first|exact trivial|exact ⟨trivial,trivial,trivial⟩|exact ⟨trivial,trivial,trivial,trivial⟩) HCov.nil (Nat.zero_le _) (Nat.le_refl _) ⟨?_,rfl,rfl⟩
  have e:Num.trimL a=a:=by
   have:=hlast (by omega)
   conv=>lhs;rw [this]
   rw [Num.trim_append_ne _ (by omega),← this]
  rw [← hr,e]
 ·rename_i h1
  refine Done.ret rfl (.refl _) (by first|exact trivial|exact ⟨trivial,trivial,trivial⟩|exact ⟨trivial,trivial,trivial,trivial⟩) HCov.nil (Nat.zero_le _) (Nat.le_refl _) ⟨?_,rfl,rfl⟩
  have:a=[]:=List.eq_nil_of_length_eq_zero (by omega)
  rw [← hr,this]
  rfl
theorem times_spec (m n:List Nat) (hm:Num.Lim m) (hn:Num.Lim n) (hml:m.length<400000) (hnl:n.length<400000) :
 VFun env 112 [.lst 39 (cells m) m.length,.lst 39 (cells n) n.length] (lst 39 (Num.toL (Num.val m*Num.val n))):=by
 refine VFun.enter (env_none (by decide)) Tryz.func112 rfl (by kernel_rfl) (by simp [Tryz.ntmps112]) ?_
 obtain ⟨T,hT⟩:∃ T,T=m.length+n.length+1:=⟨_,rfl⟩
 repeat' (first|apply VWp.assoc|apply VWp.rseq|apply VWp.blockSeq|apply VOps.nil|apply VOps.one|(apply VVal.makeSliceL T (0:Nat);rfl;rfl;rfl;rfl;rfl;omega;omega;omega;decide;decide;rfl)|(apply VVal.assign;rfl)|(apply VVal.move;rfl)|(apply VVal.add64;rfl;rfl;omega)|(apply VVal.lenF;rfl;rfl))
 refine VWp.loopQ (fun a:Nat×List Nat=>[(0,lst 39 m),(1,lst 39 n),(5,.vec 0 T 0 T),(19,lst 39 m),(20,.p (.int .i64 m.length)),(21,.p (.int .i64 (a.1:Int)))]) (fun a=>[(0,.vec 39 (cells a.2) T false)]) 1
  (fun a=>a.1≤m.length∧a.2.length=T∧Num.Lim a.2∧Num.val a.2=Num.val (m.take a.1)*Num.val n∧∀ j,a.1+n.length≤j→gi a.2 j=0) (fun a=>m.length-a.1) (0,List.replicate T 0) (by omega)
  ⟨by simp,by simp,Num.lim_replicate _,by simp [Num.val_replicate,Num.val],fun j _=>Num.gi_replicate _ _⟩ ⟨Nat.le_refl _,?_,?_⟩ ?_
 ·repeat (first|exact LCov.nil|refine LCov.same trivial rfl ?_|refine LCov.same (lt_dec rfl) rfl ?_|refine LCov.same ⟨trivial,lt_dec rfl,lt_dec rfl,lt_dec rfl,trivial⟩ rfl ?_|refine LCov.same ⟨trivial,lt_dec rfl,lt_dec rfl,trivial⟩ rfl ?_|refine LCov.same ⟨trivial,trivial⟩ rfl ?_|refine LCov.cons trivial rfl (.of_eq (lst_len (by simp<;>omega))) ?_)
 ·repeat (first|exact HCov.nil|(refine HCov.cons (lt_dec rfl) ?_ rfl ?_ ?_;(first|exact trivial|exact PVs.under_pure _ _|(simp [HB.under,PVs.under,PV.under]));(first|exact HLe.refl _|exact HLe.vec (FLes.refl _) (by simp))))
 rintro ⟨i,out⟩ ⟨hi,hol,hlim,hval,hzero⟩
 simp only at hi hol hlim hval hzero
 dsimp only
 by_cases hlt:i<m.length
 ·have ha:=Num.gi_lim hm i
  repeat' (first|apply VWp.assoc|apply VWp.rseq|apply VWp.skipSeq|apply VWp.blockSeq|apply VOps.nil|apply VOps.one|(apply VVal.assign;rfl)|(apply VVal.move;rfl)|(apply VVal.int;rfl;rfl;rfl)|(apply VVal.indexN;rfl;rfl;rfl;omega;rfl)|(apply VVal.load;rfl;rfl)|(apply VVal.lenF;rfl;rfl)|(apply VWp.condSeq_dec;rfl)|(intro _;try (exfalso;omega)))
  refine VWp.loopQ (fun a:Nat×Nat×List Nat=>[(0,lst 39 m),(1,lst 39 n),(5,.vec 0 T 0 T),(6,.p (.int .i64 (i:Int))),(7,.p (.int .u64 ((gi m i:Nat):Int))),(8,.p (.int .u64 (a.2.1:Int))),(19,lst 39 m),(20,.p (.int .i64 m.length)),(21,.p (.int .i64 (i:Int))),(26,lst 39 n),(27,.p (.int .i64 n.length)),(28,.p (.int .i64 (a.1:Int)))]) (fun a=>[(0,.vec 39 (cells a.2.2) T false)]) 1
   (fun a=>a.1≤n.length∧a.2.1<1000000000∧a.2.2.length=T∧Num.Lim a.2.2∧Num.val a.2.2+a.2.1*Num.B9 ^ (i+a.1)=Num.val out+gi m i*Num.B9 ^ i*Num.val (n.take a.1)∧∀ j,i+n.length≤j→gi a.2.2 j=0) (fun a=>n.length-a.1) (0,0,out) (by omega)
   ⟨by simp,by simp,hol,hlim,by simp [Num.val],hzero⟩ ⟨Nat.le_refl _,?_,?_⟩ ?_
  ·repeat (first|exact LCov.nil|refine LCov.same trivial rfl ?_|refine LCov.same (lt_dec rfl) rfl ?_|refine LCov.same ⟨trivial,lt_dec rfl,lt_dec rfl,lt_dec rfl,trivial⟩ rfl ?_|refine LCov.same ⟨trivial,lt_dec rfl,lt_dec rfl,trivial⟩ rfl ?_|refine LCov.same ⟨trivial,trivial⟩ rfl ?_|refine LCov.cons trivial rfl (.of_eq (lst_len (by simp<;>omega))) ?_)
  ·repeat (first|exact HCov.nil|(refine HCov.cons (lt_dec rfl) ?_ rfl ?_ ?_;(first|exact trivial|exact PVs.under_pure _ _|(simp [HB.under,PVs.under,PV.under]));(first|exact HLe.refl _|exact HLe.vec (FLes.refl _) (by simp))))
  rintro ⟨k,carry,o⟩ ⟨hk,hc,hol',hlim',hval',hzero'⟩
  simp only at hk hc hol' hlim' hval' hzero'
  dsimp only
  by_cases hlk:k<n.length
  ·have hb:=Num.gi_lim hn k
   have ho:=Num.gi_lim hlim' (i+k)
   have hab:gi m i*gi n k≤999999999*999999999:=Nat.mul_le_mul (by omega) (by omega)
   repeat' (first|apply VWp.rseq|apply VWp.region|apply VWp.skipSeq|apply VWp.blockSeq|apply QSeq.normal|apply QBlk.normal|apply VOps.nil|apply VOps.one|(apply VVal.storeVL (y:=(gi o (i+k)+gi m i*gi n k+carry) % 1000000000);rfl;rfl;rfl;trivial;(first|rfl|(refine congrArg (fun t=>[PV.p (FV.int _ t)]) ?_;first|omega|(simp only [Int.natCast_add,Int.natCast_mul,Int.natCast_ediv,Int.natCast_emod]<;>omega)));rfl;rfl;decide;(first|omega|(simp only [List.length_set]<;>omega)))|(apply VVal.assign;rfl)|(apply VVal.move;rfl)|(apply VVal.add64;rfl;rfl;omega)|(apply VVal.addUN;rfl;rfl;omega)|(apply VVal.mulUN;rfl;rfl;omega)|(apply VVal.quoUT;rfl;rfl;omega)|(apply VVal.remUT;rfl;rfl;omega)|(apply VVal.int;rfl;rfl;rfl)|(apply VVal.indexN;rfl;rfl;rfl;omega;rfl)|(apply VVal.loadVL;rfl;rfl;omega;rfl)|(apply VVal.load;rfl;rfl)|(apply VVal.indexVN;rfl;rfl;rfl;rfl;omega)|(apply VWp.condSeq_dec;rfl)|(intro _;try (exfalso;omega)))
   refine QLoop.normal ⟨(k+1,(gi o (i+k)+gi m i*gi n k+carry) / 1000000000,o.set (i+k) ((gi o (i+k)+gi m i*gi n k+carry) % 1000000000)),⟨by simp only;omega,?_,by simp [hol'],?_,?_,?_⟩,by simp only;omega,⟨Nat.le_refl _,?_,?_⟩⟩
   ·simp only
    apply Nat.div_lt_of_lt_mul
    omega
   ·exact Num.lim_set hlim' (Nat.mod_lt _ (by decide))
   ·simp only
    rw [Num.val_take_succ n k hlk]
    exact Num.mul_step (by omega) hval'
   ·intro j hj
    simp only
    rw [Num.gi_set _ _ _ _ (by omega),if_neg (by omega)]
    exact hzero' j hj
   ·repeat (first|exact LCov.nil|refine LCov.same trivial rfl ?_|refine LCov.same (lt_dec rfl) rfl ?_|refine LCov.same ⟨trivial,lt_dec rfl,lt_dec rfl,lt_dec rfl,trivial⟩ rfl ?_|refine LCov.same ⟨trivial,lt_dec rfl,lt_dec rfl,trivial⟩ rfl ?_|refine LCov.same ⟨trivial,trivial⟩ rfl ?_|refine LCov.cons trivial rfl (.of_eq (lst_len (by simp<;>omega))) ?_)
   ·repeat (first|exact HCov.nil|(refine HCov.cons (lt_dec rfl) ?_ rfl ?_ ?_;(first|exact trivial|exact PVs.under_pure _ _|(simp [HB.under,PVs.under,PV.under]));(first|exact HLe.refl _|exact HLe.vec (FLes.refl _) (by simp))))
  ·have hkn:k=n.length:=by omega
   subst hkn
   have hz:=hzero' (i+n.length) (by omega)
   repeat' (first|apply VWp.rseq|apply VWp.region|apply VWp.exitSeq|apply QSeq.normal|apply QBlk.normal|apply QBlk.exit|apply QLoop.exit|apply VOps.nil|apply VOps.one|(apply VVal.storeVL (y:=gi o (i+n.length)+carry);rfl;rfl;rfl;trivial;(first|rfl|(refine congrArg (fun t=>[PV.p (FV.int _ t)]) ?_;first|omega|(simp only [Int.natCast_add,Int.natCast_mul,Int.natCast_ediv,Int.natCast_emod]<;>omega)));rfl;rfl;decide;(first|omega|(simp only [List.length_set]<;>omega)))|(apply VVal.move;rfl)|(apply VVal.add64;rfl;rfl;omega)|(apply VVal.addUN;rfl;rfl;omega)|(apply VVal.int;rfl;rfl;rfl)|(apply VVal.loadVL;rfl;rfl;omega;rfl)|(apply VVal.lenF;rfl;rfl)|(apply VVal.indexVN;rfl;rfl;rfl;rfl;omega)|(apply VWp.condSeq_dec;rfl)|(intro _;try (exfalso;omega)))
   refine QLoop.normal ⟨(i+1,o.set (i+n.length) (gi o (i+n.length)+carry)),⟨by simp only;omega,by simp [hol'],?_,?_,?_⟩,by simp only;omega,⟨Nat.le_refl _,?_,?_⟩⟩
   ·refine Num.lim_set hlim' ?_
    rw [hz]
    simp only [Num.B9];omega
   ·simp only
    rw [Num.mul_end (by omega) hz hval',hval,List.take_length,Num.val_take_succ m i hlt,Nat.add_mul]
   ·intro j hj
    simp only at hj
    simp only
    rw [Num.gi_set _ _ _ _ (by omega),if_neg (by omega)]
    exact hzero' j (by omega)
   ·repeat (first|exact LCov.nil|refine LCov.same trivial rfl ?_|refine LCov.same (lt_dec rfl) rfl ?_|refine LCov.same ⟨trivial,lt_dec rfl,lt_dec rfl,lt_dec rfl,trivial⟩ rfl ?_|refine LCov.same ⟨trivial,lt_dec rfl,lt_dec rfl,trivial⟩ rfl ?_|refine LCov.same ⟨trivial,trivial⟩ rfl ?_|refine LCov.cons trivial rfl (.of_eq (lst_len (by simp<;>omega))) ?_)
   ·repeat (first|exact HCov.nil|(refine HCov.cons (lt_dec rfl) ?_ rfl ?_ ?_;(first|exact trivial|exact PVs.under_pure _ _|(simp [HB.under,PVs.under,PV.under]));(first|exact HLe.refl _|exact HLe.vec (FLes.refl _) (by simp))))
 ·have him:i=m.length:=by omega
  subst him
  have htr:=trim_spec out (by omega)
  rw [hol] at htr
  repeat' (first|(refine VWp.at 14 ?_;refine VWp.ghost (Ghost.freeze 5 rfl rfl) ?_;first|apply VWp.rseq|apply VWp.rseqD)|apply VWp.rseq|apply VWp.exitSeq|apply QSeq.normal|apply QBlk.exit|apply QLoop.exit|apply VWp.ret|apply VOps.nil|apply VOps.one|(apply VVal.fn;rfl;rfl;exact htr;intro _;rfl)|(apply VVal.assign;rfl)|(apply VVal.move;rfl)|(apply VVal.int;rfl;rfl;rfl)|(apply VWp.condSeq_dec;rfl)|(intro _;try (exfalso;omega)))
  ·refine Done.ret rfl (.refl _) (by first|exact trivial|exact ⟨trivial,trivial,trivial⟩|exact ⟨trivial,trivial,trivial,trivial⟩) HCov.nil (Nat.zero_le _) (Nat.le_refl _) ⟨?_,rfl,rfl⟩
   rw [Num.trim_toL hlim,hval,List.take_length]
end Go.Proofs.YtdabojnmoejilaaGreatDoor
namespace Go.Proofs.YtdabojnmoejilaaGreatDoor
open Go Go.Am Go.Vm
attribute [local irreducible] VVal VOps VOpsD VWp VCalls VFun VFunV QSeq QBlk QLoop Vm.Done DoneV DoneI
theorem gi_bound {l:List UInt8} {p:UInt8→Prop} (h:∀ c∈l,p c) (i:Nat) (hi:i<l.length):p (gi l i):=by
 simp only [gi,List.getElem?_eq_getElem hi,Option.getD_some];exact h _ (List.getElem_mem _)
theorem long_spec (n:Nat) (hn:Lib.nDigits n<900000):VFun env 125 [.str (bs (Lib.decDigits n))] (lst 39 (Num.toL n)):=by
 refine VFun.enter (env_none (by decide)) Tryz.func125 rfl (by kernel_rfl) (by simp [Tryz.ntmps125]) ?_
 obtain ⟨d,hd⟩:∃ d,d=Lib.decDigits n:=⟨_,rfl⟩
 obtain ⟨K,hK⟩:∃ K,K=Lib.nDigits n:=⟨_,rfl⟩
 have hdl:d.length=K:=by rw [hd,hK,Lib.decDigits_length]
 have hdD:d=Num.D K n:=by rw [hd,hK,Num.decDigits_D]
 rw [← hd]
 repeat' (first|apply VWp.assoc|apply VWp.rseq|apply VWp.blockSeq|apply VOps.nil|apply VOps.one|(apply VVal.assign;rfl)|(apply VVal.move;rfl)|(apply VVal.lenSt;rfl;rfl))
 refine VWp.ghost (Ghost.adopt 3 39 rfl) ?_
 refine VWp.loopQ (fun k:Nat=>[(0,st d),(3,.vec 0 (Num.limbs n k).length 0 (Num.limbs n k).length),(4,.p (.int .i64 ((K:Int)-9*(k:Int))))]) (fun k=>[(0,.vec 39 (cells (Num.limbs n k)) (Num.limbs n k).length true)]) 1 (fun k=>9*k<K+9) (fun k=>K+9-9*k) 0 (by omega) (by omega) ⟨Nat.le_refl _,?_,?_⟩ ?_
 ·rw [← hdl];refine LCov.cons trivial rfl (.refl _) ?_;repeat (first|exact LCov.nil|refine LCov.same trivial rfl ?_|refine LCov.same (lt_dec rfl) rfl ?_|refine LCov.same ⟨trivial,lt_dec rfl,lt_dec rfl,lt_dec rfl,trivial⟩ rfl ?_|refine LCov.same ⟨trivial,lt_dec rfl,lt_dec rfl,trivial⟩ rfl ?_|refine LCov.same ⟨trivial,trivial⟩ rfl ?_|refine LCov.cons trivial rfl (.of_eq (lst_len (by simp<;>omega))) ?_)
 ·exact HCov.cons (by decide) trivial rfl (.refl _) HCov.nil
 intro k hk
 have hll:=Num.limbs_len n k
 by_cases hlt:9*k<K
 ·obtain ⟨e,he⟩:∃ e,e=K-9*k:=⟨_,rfl⟩
  obtain ⟨c,hc⟩:∃ c,c=min 9 e:=⟨_,rfl⟩
  obtain ⟨p,hp⟩:∃ p,p=Num.D c (n / 10 ^ (9*k)):=⟨_,rfl⟩
  have hpl:p.length=c:=by rw [hp,Num.D_length]
  have hpc:List.drop (max ((K:Int)-9*(k:Int)-9) 0).toNat (List.take ((K:Int)-9*(k:Int)).toNat d)=p:=by
   rw [show ((K:Int)-9*(k:Int)).toNat=e by omega,show (max ((K:Int)-9*(k:Int)-9) 0).toNat=e-c by omega,hdD,Num.D_take_drop K n e c (by omega) (by omega),hp]
   rw [show K-e=9*k by omega]
  have hparse:Num.parse p=Num.limbAt n k:=by
   rw [hp,Num.parse_D]
   unfold Num.limbAt
   rw [show Num.B9 ^ k=10 ^ (9*k) by rw [Nat.pow_mul]]
   by_cases h9:c=9
   ·rw [h9]
   ·have hlt2:n / 10 ^ (9*k)<10 ^ c:=by
     apply Nat.div_lt_of_lt_mul
     rw [← Nat.pow_add,show 9*k+c=K by omega,hK]
     exact Lib.lt_pow_nDigits n
    have hle:10 ^ c≤Num.B9:=by
     have:10 ^ c≤10 ^ 9:=Nat.pow_le_pow_right (by decide) (by omega)
     exact this
    rw [Nat.mod_eq_of_lt hlt2,Nat.mod_eq_of_lt (by omega)]
  have hdig:∀ i,i<p.length→48≤(gi p i).toNat∧(gi p i).toNat≤57:=fun i hi=>gi_bound (p:=fun c=>48≤c.toNat∧c.toNat≤57) (by rw [hp];exact Num.D_digit _ _) i hi
  have hpv:∀ j,j≤p.length→Num.parse (p.take j)<1000000000:=fun j hj=>by
   have h1:=Num.parse_lt (p.take j) (fun c hc=>by
    have hm:=List.mem_of_mem_take hc
    rw [hp] at hm
    exact Num.D_digit _ _ c hm)
   rw [List.length_take,Nat.min_eq_left hj] at h1
   have h2:10 ^ j≤10 ^ 9:=Nat.pow_le_pow_right (by decide) (by omega)
   exact Nat.lt_of_lt_of_le h1 h2
  repeat' (first|apply VWp.assoc|apply VWp.rseq|apply VWp.skipSeq|apply VWp.blockSeq|apply VOps.nil|apply VOps.one|(rw [hpc])|(apply VVal.assign;rfl)|(apply VVal.move;rfl)|(apply VVal.sub64;rfl;rfl;omega)|(apply VVal.int;rfl;rfl;rfl)|(apply VVal.lenV;rfl;rfl;rfl)|(apply VVal.sliceSI;rfl;rfl;rfl;rfl;omega)|(apply VVal.toBytes;rfl;rfl;rfl;rfl;rfl;rfl;omega)|(apply VVal.maxI;rfl;rfl)|(apply VWp.condSeq_dec;rfl)|(intro _;try (exfalso;omega)))
  refine VWp.loopQ (fun j:Nat=>[(0,st d),(3,.vec 0 (Num.limbs n k).length 0 (Num.limbs n k).length),(4,.p (.int .i64 ((K:Int)-9*(k:Int)))),(5,.p (.int .u64 ((Num.parse (p.take j):Nat):Int))),(20,.vec 1 p.length 0 p.length),(21,.p (.int .i64 p.length)),(22,.p (.int .i64 (j:Int)))])
   (fun _=>[(1,.vec 5 (cells p) p.length false),(0,.vec 39 (cells (Num.limbs n k)) (Num.limbs n k).length true)]) 2 (fun j=>j≤p.length) (fun j=>p.length-j) 0 (by omega) (by omega) ⟨Nat.le_refl _,?_,?_⟩ ?_
  ·repeat (first|exact LCov.nil|refine LCov.same trivial rfl ?_|refine LCov.same (lt_dec rfl) rfl ?_|refine LCov.same ⟨trivial,lt_dec rfl,lt_dec rfl,lt_dec rfl,trivial⟩ rfl ?_|refine LCov.same ⟨trivial,lt_dec rfl,lt_dec rfl,trivial⟩ rfl ?_|refine LCov.same ⟨trivial,trivial⟩ rfl ?_|refine LCov.cons trivial rfl (.of_eq (lst_len (by simp<;>omega))) ?_)
  ·repeat (first|exact HCov.nil|(refine HCov.cons (lt_dec rfl) ?_ rfl ?_ ?_;(first|exact trivial|exact PVs.under_pure _ _|(simp [HB.under,PVs.under,PV.under]));(first|exact HLe.refl _|exact HLe.vec (FLes.refl _) (by simp))))
  intro j hj
  have hv:=hpv j hj
  by_cases hlj:j<p.length
  ·have hd2:=hdig j hlj
   repeat' (first|apply VWp.rseq|apply VWp.region|apply VWp.skipSeq|apply VWp.blockSeq|apply QSeq.normal|apply QBlk.normal|apply VOps.nil|apply VOps.one|(apply VVal.assign;rfl)|(apply VVal.move;rfl)|(apply VVal.add64;rfl;rfl;omega)|(apply VVal.subBN (c:=48);rfl;rfl;omega)|(apply VVal.addUN;rfl;rfl;omega)|(apply VVal.mulUN (a:=10);rfl;rfl;omega)|(apply VVal.int;rfl;rfl;rfl)|(apply VVal.loadVL;rfl;rfl;omega;rfl)|(apply VVal.indexVN;rfl;rfl;rfl;rfl;omega)|(apply VVal.convU;rfl;rfl;rfl;rfl;omega)|(apply VWp.condSeq_dec;rfl)|(intro _;try (exfalso;omega)))
   refine QLoop.normal ⟨j+1,by omega,by omega,⟨by omega,?_,?_⟩⟩
   ·rw [Num.parse_snoc' p j hlj];repeat (first|exact LCov.nil|refine LCov.same trivial rfl ?_|refine LCov.same (lt_dec rfl) rfl ?_|refine LCov.same ⟨trivial,lt_dec rfl,lt_dec rfl,lt_dec rfl,trivial⟩ rfl ?_|refine LCov.same ⟨trivial,lt_dec rfl,lt_dec rfl,trivial⟩ rfl ?_|refine LCov.same ⟨trivial,trivial⟩ rfl ?_|refine LCov.cons trivial rfl (.of_eq (lst_len (by simp<;>omega))) ?_)
   ·repeat (first|exact HCov.nil|(refine HCov.cons (lt_dec rfl) ?_ rfl ?_ ?_;(first|exact trivial|exact PVs.under_pure _ _|(simp [HB.under,PVs.under,PV.under]));(first|exact HLe.refl _|exact HLe.vec (FLes.refl _) (by simp))))
  ·have hjp:j=p.length:=by omega
   subst hjp
   repeat' (first|apply VWp.rseq|apply VWp.region|apply VWp.exitSeq|apply QSeq.normal|apply QBlk.normal|apply QBlk.exit|apply QLoop.exit|apply VOps.nil|apply VOps.one|(apply VVal.append1 (a:=(Num.parse (p.take p.length)));rfl;rfl;rfl;rfl;rfl;rfl;rfl;rfl;(intro _ h;cases h);rfl;rfl;rfl;decide;decide;(first|omega|(simp only [List.length_take,List.length_drop,List.length_append,List.length_singleton,List.length_cons,List.length_nil]<;>omega)))|(apply VVal.assign;rfl)|(apply VVal.move;rfl)|(apply VVal.sub64;rfl;rfl;omega)|(apply VVal.int;rfl;rfl;rfl)|(apply VVal.buildSlice;rfl;rfl;rfl;decide;rfl;rfl;rfl)|(apply VWp.condSeq_dec;rfl)|(intro _;try (exfalso;omega)))
   have e1:Num.limbs n k++[Num.parse (p.take p.length)]=Num.limbs n (k+1):=by rw [List.take_length,hparse,Num.limbs]
   have e2:(Num.limbs n (k+1)).length=(Num.limbs n k).length+1:=by rw [Num.limbs_len,Num.limbs_len]
   refine QLoop.normal ⟨k+1,by omega,by omega,⟨by omega,?_,?_⟩⟩
   ·rw [e2,show (K:Int)-9*((k+1:Nat):Int)=(K:Int)-9*(k:Int)-9 by omega];repeat (first|exact LCov.nil|refine LCov.same trivial rfl ?_|refine LCov.same (lt_dec rfl) rfl ?_|refine LCov.same ⟨trivial,lt_dec rfl,lt_dec rfl,lt_dec rfl,trivial⟩ rfl ?_|refine LCov.same ⟨trivial,lt_dec rfl,lt_dec rfl,trivial⟩ rfl ?_|refine LCov.same ⟨trivial,trivial⟩ rfl ?_|refine LCov.cons trivial rfl (.of_eq (lst_len (by simp<;>omega))) ?_)
   ·rw [e2,← e1];repeat (first|exact HCov.nil|(refine HCov.cons (lt_dec rfl) ?_ rfl ?_ ?_;(first|exact trivial|exact PVs.under_pure _ _|(simp [HB.under,PVs.under,PV.under]));(first|exact HLe.refl _|exact HLe.vec (FLes.refl _) (by simp))))
 ·have htr:=trim_spec (Num.limbs n k) (by omega)
  repeat' (first|(refine VWp.at 12 ?_;refine VWp.ghost (Ghost.freeze 3 rfl rfl) ?_;first|apply VWp.rseq|apply VWp.rseqD)|apply VWp.assoc|apply VWp.rseq|apply VWp.exitSeq|apply QSeq.normal|apply QBlk.exit|apply QLoop.exit|apply VWp.ret|apply VOps.nil|apply VOps.one|(apply VVal.fn;rfl;rfl;exact htr;intro _;rfl)|(apply VVal.assign;rfl)|(apply VVal.move;rfl)|(apply VVal.int;rfl;rfl;rfl)|(apply VWp.condSeq_dec;rfl)|(intro _;try (exfalso;omega)))
  ·refine Done.ret rfl (.refl _) (by first|exact trivial|exact ⟨trivial,trivial,trivial⟩|exact ⟨trivial,trivial,trivial,trivial⟩) HCov.nil (Nat.zero_le _) (Nat.le_refl _) ⟨?_,rfl,rfl⟩
   rw [Num.limbs_trim]
   rw [show Num.B9 ^ k=10 ^ (9*k) by rw [Nat.pow_mul]]
   exact Nat.lt_of_lt_of_le (Lib.lt_pow_nDigits n) (Nat.pow_le_pow_right (by decide) (by omega))
end Go.Proofs.YtdabojnmoejilaaGreatDoor
namespace Go.Proofs.YtdabojnmoejilaaGreatDoor
open Go Go.Am Go.Vm
attribute [local irreducible] VVal VOps VOpsD VWp VCalls VFun VFunV QSeq QBlk QLoop Vm.Done DoneV DoneI
theorem inl_CutS {L:Vm.Frame} {H:Vm.Heap} {nx:Nat} {Q:PV→Vm.Heap→Nat→Prop} {dst:Option Tmp} {ty:TypeId} {pos:String} {af:Array Edge} {gd:Option (Nat×Bool)} {fo:Operand} {args:Array Operand} {aT:Array TypeId} {fs cs xs:List PV} {c:Code}
 (hf:vev env.Γ L fo=some (.clo 134 fs cs)) (ha:evs env.Γ L args.toList=some xs) (hb:Tryz.f134.body=some c) (hn:(fs++xs++cs).length≤Tryz.f134.ntmps)
 (h:VWp env nx c (argFrame 0 (fs++xs++cs)) H nx (DoneI env.P Tryz.f134.results.toList Q)):VVal env true ⟨dst,.call { callee:=.value fo,args:=args,argTypes:=aT },ty,pos,af,gd⟩ L H nx Q:=by
 have h0:(match Tryz.f134.body with|some c=>fnOk env.G Tryz.f134 c|none=>false)=true:=by kernel_rfl
 rw [hb] at h0
 exact VVal.inline rfl hf ha (env_none (by decide)) Tryz.func134 hb h0 hn h
theorem inl_HasP {L:Vm.Frame} {H:Vm.Heap} {nx:Nat} {Q:PV→Vm.Heap→Nat→Prop} {dst:Option Tmp} {ty:TypeId} {pos:String} {af:Array Edge} {gd:Option (Nat×Bool)} {fo:Operand} {args:Array Operand} {aT:Array TypeId} {fs cs xs:List PV} {c:Code}
 (hf:vev env.Γ L fo=some (.clo 133 fs cs)) (ha:evs env.Γ L args.toList=some xs) (hb:Tryz.f133.body=some c) (hn:(fs++xs++cs).length≤Tryz.f133.ntmps)
 (h:VWp env nx c (argFrame 0 (fs++xs++cs)) H nx (DoneI env.P Tryz.f133.results.toList Q)):VVal env true ⟨dst,.call { callee:=.value fo,args:=args,argTypes:=aT },ty,pos,af,gd⟩ L H nx Q:=by
 have h0:(match Tryz.f133.body with|some c=>fnOk env.G Tryz.f133 c|none=>false)=true:=by kernel_rfl
 rw [hb] at h0
 exact VVal.inline rfl hf ha (env_none (by decide)) Tryz.func133 hb h0 hn h
theorem inl_HasS {L:Vm.Frame} {H:Vm.Heap} {nx:Nat} {Q:PV→Vm.Heap→Nat→Prop} {dst:Option Tmp} {ty:TypeId} {pos:String} {af:Array Edge} {gd:Option (Nat×Bool)} {fo:Operand} {args:Array Operand} {aT:Array TypeId} {fs cs xs:List PV} {c:Code}
 (hf:vev env.Γ L fo=some (.clo 143 fs cs)) (ha:evs env.Γ L args.toList=some xs) (hb:Tryz.f143.body=some c) (hn:(fs++xs++cs).length≤Tryz.f143.ntmps)
 (h:VWp env nx c (argFrame 0 (fs++xs++cs)) H nx (DoneI env.P Tryz.f143.results.toList Q)):VVal env true ⟨dst,.call { callee:=.value fo,args:=args,argTypes:=aT },ty,pos,af,gd⟩ L H nx Q:=by
 have h0:(match Tryz.f143.body with|some c=>fnOk env.G Tryz.f143 c|none=>false)=true:=by kernel_rfl
 rw [hb] at h0
 exact VVal.inline rfl hf ha (env_none (by decide)) Tryz.func143 hb h0 hn h
theorem no_minus (n:Nat):¬ (List.take 1 (Lib.decDigits n)=[45]):=fun h=>by
 have h1:=Num.decDigits_digit n 45 (List.mem_of_mem_take (by rw [h];simp))
 have:(45:UInt8).toNat=45:=rfl
 omega
theorem dec_pos (n:Nat):0<(Lib.decDigits n).length:=by rw [Lib.decDigits_length];exact Lib.nDigits_pos n
theorem dec_inj {a b:Nat} (h:Lib.decDigits a=Lib.decDigits b):a=b:=by
 have h1:Lib.nDigits a=Lib.nDigits b:=by rw [← Lib.decDigits_length,← Lib.decDigits_length,h]
 rw [Num.decDigits_D,Num.decDigits_D,h1] at h
 have:=congrArg Num.parse h
 rw [Num.parse_D,Num.parse_D,Nat.mod_eq_of_lt (by rw [← h1];exact Lib.lt_pow_nDigits a),Nat.mod_eq_of_lt (Lib.lt_pow_nDigits b)] at this
 exact this
theorem dec_zero (a:Nat):Lib.decDigits a=[48]↔a=0:=by
 have:Lib.decDigits 0=[48]:=by rw [Lib.decDigits_one (by decide)];rfl
 rw [← this]
 exact ⟨dec_inj,fun h=>by rw [h]⟩
theorem parse_dec (n:Nat):Num.parse (Lib.decDigits n)=n:=by
 rw [Num.decDigits_D,Num.parse_D,Nat.mod_eq_of_lt (Lib.lt_pow_nDigits n)]
theorem cut_spec (n:Nat):VFun env 117 [.str (bs (Lib.decDigits n)),.str (bs [45])] (.tup [st (Lib.decDigits n),.p (.bool false)]):=by
 refine VFun.enter (env_none (by decide)) Tryz.func117 rfl (by kernel_rfl) (by simp [Tryz.ntmps117]) ?_
 have h1:=no_minus n
 have h2:=dec_pos n
 repeat' (first|apply VWp.assoc|apply VWp.rseq|apply VWp.skipSeq|apply VWp.retSeq|(apply DoneI.ret;rfl)|apply VWp.ret|apply VOps.nil|apply VOps.one|(apply VOps.take;rfl;rfl)|(apply VOps.drop;rfl;rfl;rfl)|(apply VOps.guard;rfl;rfl)|(apply inl_CutS;rfl;rfl;rfl;exact le_dec rfl)|(apply inl_HasS;rfl;rfl;rfl;exact le_dec rfl)|(apply VVal.assign;rfl)|(apply VVal.move;rfl)|(apply VVal.int;rfl;rfl;rfl)|(apply VVal.pick_true;rfl;rfl)|(apply VVal.pick_false;rfl;rfl)|(apply VVal.lenSt;rfl;rfl)|(apply VVal.eqS;rfl;rfl)|(apply VVal.sliceSto;rfl;rfl;rfl;omega)|(apply VVal.sliceSfrom;rfl;rfl;rfl;omega)|(apply VVal.not;rfl)|(apply VVal.extract;rfl;rfl)|(apply VWp.condSeq_true;rfl)|(apply VWp.condSeq;rfl)|(intro _;try (exfalso;omega)))
 ·refine Done.ret rfl (.refl _) (by first|exact trivial|exact ⟨trivial,trivial,trivial⟩|exact ⟨trivial,trivial,trivial,trivial⟩) HCov.nil (Nat.zero_le _) (Nat.le_refl _) ⟨?_,rfl,rfl⟩
  rfl
 ·exfalso;simp_all
 ·exfalso;simp_all;omega
theorem cut_spec' (n:Nat):VFun env 117 [.str (bs (Lib.decDigits n)),.str ⟨#[45]⟩] (.tup [st (Lib.decDigits n),.p (.bool false)]):=cut_spec n
theorem split_spec (n:Nat) (hn:Lib.nDigits n<900000):VFun env 110 [.str (bs (Lib.decDigits n))] (.tup [lst 39 (Num.toL n),.p (.bool false)]):=by
 refine VFun.enter (env_none (by decide)) Tryz.func110 rfl (by kernel_rfl) (by simp [Tryz.ntmps110]) ?_
 repeat' (first|apply VWp.rseq|apply VWp.ret|apply VOps.nil|apply VOps.one|(apply VVal.fn;rfl;rfl;exact cut_spec' n;intro _;rfl)|(apply VVal.fn;rfl;rfl;exact long_spec n hn;intro _;rfl)|(apply VVal.assign;rfl)|(apply VVal.move;rfl)|(apply VVal.extract;rfl;rfl))
 ·refine Done.ret rfl (.refl _) (by first|exact trivial|exact ⟨trivial,trivial,trivial⟩|exact ⟨trivial,trivial,trivial,trivial⟩) HCov.nil (Nat.zero_le _) (Nat.le_refl _) ⟨?_,rfl,rfl⟩
  rfl
theorem signed_spec (n:Nat) (hn:(Num.toL n).length<1000000):VFun env 113 [.lst 39 (cells (Num.toL n)) (Num.toL n).length,.bool false] (st (Lib.decDigits n)):=by
 refine VFun.enter (env_none (by decide)) Tryz.func113 rfl (by kernel_rfl) (by simp [Tryz.ntmps113]) ?_
 have ht:=text_fun (Num.toL n) (Num.lim_toL n) (by omega)
 rw [Num.textL_toL] at ht
 repeat' (first|apply VWp.assoc|apply VWp.rseq|apply VWp.skipSeq|apply VWp.ret|apply VOps.nil|apply VOps.one|(apply VOps.drop;rfl;rfl;rfl)|(apply VVal.fn;rfl;rfl;exact ht;intro _;rfl)|(apply VVal.assign;rfl)|(apply VVal.move;rfl)|(apply VVal.pick_false;rfl;rfl)|(apply VWp.condSeq_false;rfl))
 ·refine Done.ret rfl (.refl _) (by first|exact trivial|exact ⟨trivial,trivial,trivial⟩|exact ⟨trivial,trivial,trivial,trivial⟩) HCov.nil (Nat.zero_le _) (Nat.le_refl _) ⟨?_,rfl,rfl⟩
  rfl
theorem of_spec (n:Int) (h:-9223372036854775808≤n∧n≤9223372036854775807):VFun env 97 [.int .i64 n] (st (Lib.itoa n)):=by
 refine VFun.enter (env_none (by decide)) Tryz.func97 rfl (by kernel_rfl) (by simp [Tryz.ntmps97]) ?_
 repeat' (first|apply VWp.rseq|apply VWp.ret|apply VOps.nil|apply VOps.one|(apply VVal.fn;rfl;rfl;exact itoa_fun n h;intro _;rfl)|(apply VVal.assign;rfl)|(apply VVal.move;rfl))
 ·refine Done.ret rfl (.refl _) (by first|exact trivial|exact ⟨trivial,trivial,trivial⟩|exact ⟨trivial,trivial,trivial,trivial⟩) HCov.nil (Nat.zero_le _) (Nat.le_refl _) ⟨?_,rfl,rfl⟩
  rfl
theorem itoa_nat (n:Nat):Lib.itoa (n:Int)=Lib.decDigits n:=by simp [Lib.itoa]
theorem quick_spec (n g:Nat) (hg:g≤18):VFun env 115 [.str (bs (Lib.decDigits n)),.int .i64 (g:Int)] (.tup [.p (.int .i64 ((if Lib.nDigits n≤g then n else 0:Nat):Int)),.p (.bool (decide (Lib.nDigits n≤g)))]):=by
 refine VFun.enter (env_none (by decide)) Tryz.func115 rfl (by kernel_rfl) (by simp [Tryz.ntmps115]) ?_
 have hl:=Lib.decDigits_length n
 by_cases hng:Lib.nDigits n≤g
 ·rw [if_pos hng,decide_eq_true hng]
  obtain ⟨d,hd⟩:∃ d,d=Lib.decDigits n:=⟨_,rfl⟩
  have hc:=cut_spec' n
  rw [← hd] at hl hc ⊢
  have hdig:∀ i,i<d.length→48≤(gi d i).toNat∧(gi d i).toNat≤57:=fun i hi=>gi_bound (p:=fun c=>48≤c.toNat∧c.toNat≤57) (by rw [hd];exact Num.decDigits_digit n) i hi
  have hpv:∀ j,j≤d.length→Num.parse (d.take j)<1000000000000000000:=fun j hj=>by
   have h1:=Num.parse_lt (d.take j) (fun c hc=>by
    have hm:=List.mem_of_mem_take hc
    rw [hd] at hm
    exact Num.decDigits_digit n c hm)
   rw [List.length_take,Nat.min_eq_left hj] at h1
   have h2:10 ^ j≤10 ^ 18:=Nat.pow_le_pow_right (by decide) (by omega)
   exact Nat.lt_of_lt_of_le h1 h2
  repeat' (first|apply VWp.assoc|apply VWp.rseq|apply VWp.skipSeq|apply VWp.blockSeq|apply VOps.nil|apply VOps.one|(apply VVal.fn;rfl;rfl;exact hc;intro _;rfl)|(apply VVal.assign;rfl)|(apply VVal.move;rfl)|(apply VVal.int;rfl;rfl;rfl)|(apply VVal.lenV;rfl;rfl;rfl)|(apply VVal.lenSt;rfl;rfl)|(apply VVal.toBytes;rfl;rfl;rfl;rfl;rfl;rfl;omega)|(apply VVal.extract;rfl;rfl)|(apply VWp.condSeq_dec;rfl)|(intro _;try (exfalso;omega)))
  refine VWp.loopQ (fun j:Nat=>[(7,.p (.bool false)),(8,.p (.int .i64 ((Num.parse (d.take j):Nat):Int))),(21,.vec 0 d.length 0 d.length),(22,.p (.int .i64 d.length)),(23,.p (.int .i64 (j:Int)))])
   (fun _=>[(0,.vec 5 (cells d) d.length false)]) 1 (fun j=>j≤d.length) (fun j=>d.length-j) 0 (by omega) (by omega) ⟨Nat.le_refl _,?_,?_⟩ ?_
  ·repeat (first|exact LCov.nil|refine LCov.same trivial rfl ?_|refine LCov.same (lt_dec rfl) rfl ?_|refine LCov.same ⟨trivial,lt_dec rfl,lt_dec rfl,lt_dec rfl,trivial⟩ rfl ?_|refine LCov.same ⟨trivial,lt_dec rfl,lt_dec rfl,trivial⟩ rfl ?_|refine LCov.same ⟨trivial,trivial⟩ rfl ?_|refine LCov.cons trivial rfl (.of_eq (lst_len (by simp<;>omega))) ?_)
  ·repeat (first|exact HCov.nil|(refine HCov.cons (lt_dec rfl) ?_ rfl ?_ ?_;(first|exact trivial|exact PVs.under_pure _ _|(simp [HB.under,PVs.under,PV.under]));(first|exact HLe.refl _|exact HLe.vec (FLes.refl _) (by simp))))
  intro j hj
  have hv:=hpv j hj
  by_cases hlj:j<d.length
  ·have hd2:=hdig j hlj
   have hv2:=hpv (j+1) hlj
   rw [Num.parse_snoc' d j hlj] at hv2
   repeat' (first|apply VWp.rseq|apply VWp.region|apply VWp.skipSeq|apply VWp.blockSeq|apply QSeq.normal|apply QBlk.normal|apply VOps.nil|apply VOps.one|(apply VVal.assign;rfl)|(apply VVal.move;rfl)|(apply VVal.add64;rfl;rfl;omega)|(apply VVal.mul64;rfl;rfl;omega)|(apply VVal.subBN (c:=48);rfl;rfl;omega)|(apply VVal.int;rfl;rfl;rfl)|(apply VVal.loadVL;rfl;rfl;omega;rfl)|(apply VVal.indexVN;rfl;rfl;rfl;rfl;omega)|(apply VVal.convI;rfl;rfl;rfl;rfl;omega)|(apply VWp.condSeq_dec;rfl)|(intro _;try (exfalso;omega)))
   refine QLoop.normal ⟨j+1,by omega,by omega,⟨by omega,?_,?_⟩⟩
   ·rw [Num.parse_snoc' d j hlj,Int.natCast_add,Int.natCast_mul];repeat (first|exact LCov.nil|refine LCov.same trivial rfl ?_|refine LCov.same (lt_dec rfl) rfl ?_|refine LCov.same ⟨trivial,lt_dec rfl,lt_dec rfl,lt_dec rfl,trivial⟩ rfl ?_|refine LCov.same ⟨trivial,lt_dec rfl,lt_dec rfl,trivial⟩ rfl ?_|refine LCov.same ⟨trivial,trivial⟩ rfl ?_|refine LCov.cons trivial rfl (.of_eq (lst_len (by simp<;>omega))) ?_)
   ·repeat (first|exact HCov.nil|(refine HCov.cons (lt_dec rfl) ?_ rfl ?_ ?_;(first|exact trivial|exact PVs.under_pure _ _|(simp [HB.under,PVs.under,PV.under]));(first|exact HLe.refl _|exact HLe.vec (FLes.refl _) (by simp))))
  ·have hjp:j=d.length:=by omega
   subst hjp
   repeat' (first|apply VWp.assoc|apply VWp.rseq|apply VWp.skipSeq|apply VWp.exitSeq|apply QSeq.normal|apply QBlk.exit|apply QLoop.exit|apply VWp.ret|apply VOps.nil|apply VOps.one|(apply VVal.assign;rfl)|(apply VVal.move;rfl)|(apply VVal.int;rfl;rfl;rfl)|(apply VWp.condSeq_false;rfl)|(apply VWp.condSeq_dec;rfl)|(intro _;try (exfalso;omega)))
   ·refine Done.ret rfl (.refl _) (by first|exact trivial|exact ⟨trivial,trivial,trivial⟩|exact ⟨trivial,trivial,trivial,trivial⟩) HCov.nil (Nat.zero_le _) (Nat.le_refl _) ⟨?_,rfl,rfl⟩
    rw [List.take_length,hd,parse_dec]
 ·rw [if_neg hng,decide_eq_false hng]
  repeat' (first|apply VWp.assoc|apply VWp.rseq|apply VWp.retSeq|apply VOps.nil|apply VOps.one|(apply VVal.fn;rfl;rfl;exact cut_spec' n;intro _;rfl)|(apply VVal.assign;rfl)|(apply VVal.move;rfl)|(apply VVal.int;rfl;rfl;rfl)|(apply VVal.lenSt;rfl;rfl)|(apply VVal.extract;rfl;rfl)|(apply VWp.condSeq_dec;rfl)|(intro _;try (exfalso;omega)))
  ·refine Done.ret rfl (.refl _) (by first|exact trivial|exact ⟨trivial,trivial,trivial⟩|exact ⟨trivial,trivial,trivial,trivial⟩) HCov.nil (Nat.zero_le _) (Nat.le_refl _) ⟨?_,rfl,rfl⟩
   rfl
end Go.Proofs.YtdabojnmoejilaaGreatDoor
namespace Go.Proofs.YtdabojnmoejilaaGreatDoor
open Go Go.Am Go.Vm
attribute [local irreducible] VVal VOps VOpsD VWp VCalls VFun VFunV QSeq QBlk QLoop Vm.Done DoneV DoneI
theorem toL_short {x K:Nat} (h:x<10 ^ K) (hK:K<900000):(Num.toL x).length<200000:=by
 have h1:x<Num.B9 ^ (K / 9+1):=by
  refine Nat.lt_of_lt_of_le h ?_
  rw [show Num.B9 ^ (K / 9+1)=10 ^ (9*(K / 9+1)) by rw [Nat.pow_mul]]
  exact Nat.pow_le_pow_right (by decide) (by omega)
 have:=Num.toL_len_le x (K / 9+1) h1
 omega
theorem and_bit (e i:Nat):e &&& 2 ^ i=if e / 2 ^ i % 2=1 then 2 ^ i else 0:=by
 apply Nat.eq_of_testBit_eq
 intro j
 have hi:e.testBit i=decide (e / 2 ^ i % 2=1):=Nat.testBit_eq_decide_div_mod_eq
 rw [Nat.testBit_and,Nat.testBit_two_pow]
 by_cases hij:i=j
 ·subst hij
  rw [hi]
  by_cases h:e / 2 ^ i % 2=1
  ·rw [if_pos h,Nat.testBit_two_pow];simp [h]
  ·rw [if_neg h];simp [h]
 ·by_cases h:e / 2 ^ i % 2=1
  ·rw [if_pos h,Nat.testBit_two_pow];simp [hij]
  ·rw [if_neg h];simp [hij]
theorem power_spec (n e:Nat) (he:e≤6000) (hne:e*Lib.nDigits n≤24000) (hn:Lib.nDigits n<100000):VFun env 96 [.str (bs (Lib.decDigits n)),.int .i64 (e:Int)] (.tup [st (Lib.decDigits (n ^ e)),.p (.int .i64 0)]):=by
 refine VFun.enter (env_none (by decide)) Tryz.func96 rfl (by kernel_rfl) (by simp [Tryz.ntmps96]) ?_
 have hlt:=Lib.lt_pow_nDigits n
 have hnl:=toL_short hlt (by omega)
 obtain ⟨K,hK⟩:∃ K:Nat,K=24000:=⟨_,rfl⟩
 rw [← hK] at hne
 have hpow:∀ k,k≤e→(Num.toL (n ^ k)).length<200000:=fun k hk=>by
  refine toL_short (K:=K) ?_ (by omega)
  have h1:n ^ k≤(10 ^ Lib.nDigits n) ^ k:=Nat.pow_le_pow_left (Nat.le_of_lt hlt) k
  rw [← Nat.pow_mul] at h1
  rcases Nat.eq_zero_or_pos k with h0|h0
  ·rw [h0,Nat.pow_zero];exact Nat.one_lt_pow (by omega) (by decide)
  ·have h2:n ^ k<(10 ^ Lib.nDigits n) ^ k:=Nat.pow_lt_pow_left hlt (by omega)
   rw [← Nat.pow_mul] at h2
   refine Nat.lt_of_lt_of_le h2 (Nat.pow_le_pow_right (by decide) ?_)
   have:=Nat.mul_le_mul_left (Lib.nDigits n) hk
   rw [Nat.mul_comm (Lib.nDigits n) e] at this
   omega
 have htx:=text_fun (Num.toL n) (Num.lim_toL n) (by omega)
 rw [Num.textL_toL] at htx
 have hdl:=Lib.decDigits_length n
 have hmul:(e:Int)*((Lib.decDigits n).length:Int)≤24000:=by rw [hK] at hne;rw [hdl];exact_mod_cast hne
 have hmul0:(0:Int)≤(e:Int)*((Lib.decDigits n).length:Int):=by rw [hdl,← Int.natCast_mul];omega
 repeat' (first|apply VWp.assoc|apply VWp.rseq|apply VWp.skipSeq|apply VWp.blockSeq|apply VOps.nil|apply VOps.one|(apply VOps.take;rfl;rfl)|(apply VVal.fn;rfl;rfl;exact split_spec n (by omega);intro _;rfl)|(apply VVal.fn;rfl;rfl;exact htx;intro _;rfl)|(apply VVal.assign;rfl)|(apply VVal.move;rfl)|(apply VVal.mul64;rfl;rfl;omega)|(apply VVal.int;rfl;rfl;rfl)|(apply VVal.pick_false;rfl;rfl)|(apply VVal.buildSlice;rfl;rfl;rfl;decide;rfl;rfl;rfl)|(apply VVal.lenSt;rfl;rfl)|(apply VVal.extract;rfl;rfl)|(apply VWp.condSeq_dec;rfl)|(intro _;try (exfalso;omega)))
 refine VWp.ghost (Ghost.freeze 8 rfl rfl) ?_
 have one:Num.toL 1=[1]:=by rw [Num.toL_pos (by decide),show 1 / Num.B9=0 by decide,Num.toL_zero];rfl
 have e14:e / 2 ^ 14=0:=Nat.div_eq_of_lt (by omega)
 refine VWp.loopQ (fun b:Nat=>[(1,.p (.int .i64 (e:Int))),(6,lst 39 (Num.toL n)),(7,.p (.bool false)),(8,lst 39 (Num.toL (n ^ (e / 2 ^ b)))),(9,.p (.int .i64 ((2 ^ b / 2:Nat):Int)))]) (fun _=>[]) 1 (fun b=>b≤14) (fun b=>b) 14 (by omega) (by omega) ⟨Nat.le_refl _,?_,?_⟩ ?_
 ·rw [e14,Nat.pow_zero,one];repeat (first|exact LCov.nil|refine LCov.same trivial rfl ?_|refine LCov.same (lt_dec rfl) rfl ?_|refine LCov.same ⟨trivial,lt_dec rfl,lt_dec rfl,lt_dec rfl,trivial⟩ rfl ?_|refine LCov.same ⟨trivial,lt_dec rfl,lt_dec rfl,trivial⟩ rfl ?_|refine LCov.same ⟨trivial,trivial⟩ rfl ?_|refine LCov.cons trivial rfl (.of_eq (lst_len (by simp<;>omega))) ?_)
 ·exact HCov.nil
 intro b hb
 rcases Nat.eq_zero_or_pos b with hb0|hb0
 ·subst hb0
  have hlen:=hpow e (Nat.le_refl _)
  have hs:=signed_spec (n ^ e) (by omega)
  rw [Nat.pow_zero,Nat.div_one]
  repeat' (first|apply VWp.assoc|apply VWp.rseq|apply VWp.exitSeq|apply QSeq.normal|apply QBlk.exit|apply QLoop.exit|apply VWp.ret|apply VOps.nil|apply VOps.one|(apply VOps.drop;rfl;rfl;rfl)|(apply VVal.fn;rfl;rfl;exact hs;intro _;rfl)|(apply VVal.assign;rfl)|(apply VVal.move;rfl)|(apply VVal.int;rfl;rfl;rfl)|(apply VVal.pick_false;rfl;rfl)|(apply VWp.condSeq_false;rfl))
  ·(refine Done.ret rfl (.refl _) (by first|exact trivial|exact ⟨trivial,trivial,trivial⟩|exact ⟨trivial,trivial,trivial,trivial⟩) HCov.nil (Nat.zero_le _) (Nat.le_refl _) ⟨?_,rfl,rfl⟩;try rfl)
 ·obtain ⟨i,rfl⟩:∃ i,b=i+1:=⟨b-1,by omega⟩
  have hp1:2 ^ (i+1) / 2=2 ^ i:=by rw [Nat.pow_succ,Nat.mul_div_cancel _ (by decide)]
  have hp0:0<2 ^ i:=Nat.pow_pos (by decide)
  have hp14:2 ^ i≤2 ^ 13:=Nat.pow_le_pow_right (by decide) (by omega)
  rw [hp1]
  have hle:e / 2 ^ (i+1)≤e:=Nat.div_le_self _ _
  have h1:=times_spec (Num.toL (n ^ (e / 2 ^ (i+1)))) (Num.toL (n ^ (e / 2 ^ (i+1)))) (Num.lim_toL _) (Num.lim_toL _) (by have:=hpow _ hle;omega) (by have:=hpow _ hle;omega)
  rw [Num.val_toL] at h1
  have hle2:e / 2 ^ (i+1)+e / 2 ^ (i+1)≤e:=by
   have h2:e / 2 ^ (i+1)*2 ^ (i+1)≤e:=Nat.div_mul_le_self _ _
   have h3:e / 2 ^ (i+1)*2≤e / 2 ^ (i+1)*2 ^ (i+1):=Nat.mul_le_mul_left _ (by rw [Nat.pow_succ];omega)
   omega
  have h2:=times_spec (Num.toL (n ^ (e / 2 ^ (i+1))*n ^ (e / 2 ^ (i+1)))) (Num.toL n) (Num.lim_toL _) (Num.lim_toL _) (by rw [← Nat.pow_add];have:=hpow _ hle2;omega) (by omega)
  rw [Num.val_toL,Num.val_toL] at h2
  have hbit:=Num.pow_bit n e i
  have hand:=and_bit e i
  by_cases hb1:e / 2 ^ i % 2=1
  ·rw [if_pos hb1] at hbit hand
   repeat' (first|apply VWp.assoc|apply VWp.rseq|apply VWp.region|apply VWp.skipSeq|apply VWp.blockSeq|apply QSeq.normal|apply QBlk.normal|apply VOps.nil|apply VOps.one|(apply VVal.fn;rfl;rfl;exact h1;intro _;rfl)|(apply VVal.fn;rfl;rfl;exact h2;intro _;rfl)|(apply VVal.assign;rfl)|(apply VVal.move;rfl)|(apply VVal.andI;rfl;rfl;omega)|(apply VVal.int;rfl;rfl;rfl)|(apply VVal.shrN;rfl;rfl;(simp only [IntKind.bits];omega))|(apply VWp.condSeq_dec;rfl)|(apply VWp.cond_dec;rfl)|(intro _;try (exfalso;omega)))
   all_goals try (exfalso;rename_i hx;rw [hand] at hx;omega)
   refine QLoop.normal ⟨i,by omega,by omega,⟨by omega,?_,?_⟩⟩
   ·rw [← hbit];repeat (first|exact LCov.nil|refine LCov.same trivial rfl ?_|refine LCov.same (lt_dec rfl) rfl ?_|refine LCov.same ⟨trivial,lt_dec rfl,lt_dec rfl,lt_dec rfl,trivial⟩ rfl ?_|refine LCov.same ⟨trivial,lt_dec rfl,lt_dec rfl,trivial⟩ rfl ?_|refine LCov.same ⟨trivial,trivial⟩ rfl ?_|refine LCov.cons trivial rfl (.of_eq (lst_len (by simp<;>omega))) ?_)
   ·exact HCov.nil
  ·rw [if_neg hb1,Nat.mul_one] at hbit
   rw [if_neg hb1] at hand
   repeat' (first|apply VWp.assoc|apply VWp.rseq|apply VWp.region|apply VWp.skipSeq|apply VWp.blockSeq|apply QSeq.normal|apply QBlk.normal|apply VWp.skip|apply VOps.nil|apply VOps.one|(apply VVal.fn;rfl;rfl;exact h1;intro _;rfl)|(apply VVal.assign;rfl)|(apply VVal.move;rfl)|(apply VVal.andI;rfl;rfl;omega)|(apply VVal.int;rfl;rfl;rfl)|(apply VVal.shrN;rfl;rfl;(simp only [IntKind.bits];omega))|(apply VWp.condSeq_dec;rfl)|(apply VWp.cond_dec;rfl)|(intro _;try (exfalso;omega)))
   all_goals try (exfalso;rename_i hx;rw [hand] at hx;omega)
   refine QLoop.normal ⟨i,by omega,by omega,⟨by omega,?_,?_⟩⟩
   ·rw [← hbit];repeat (first|exact LCov.nil|refine LCov.same trivial rfl ?_|refine LCov.same (lt_dec rfl) rfl ?_|refine LCov.same ⟨trivial,lt_dec rfl,lt_dec rfl,lt_dec rfl,trivial⟩ rfl ?_|refine LCov.same ⟨trivial,lt_dec rfl,lt_dec rfl,trivial⟩ rfl ?_|refine LCov.same ⟨trivial,trivial⟩ rfl ?_|refine LCov.cons trivial rfl (.of_eq (lst_len (by simp<;>omega))) ?_)
   ·exact HCov.nil
theorem mul_spec (a b:Nat) (ha:Lib.nDigits a<400000) (hb:Lib.nDigits b<400000):VFun env 98 [.str (bs (Lib.decDigits a)),.str (bs (Lib.decDigits b))] (st (Lib.decDigits (a*b))):=by
 refine VFun.enter (env_none (by decide)) Tryz.func98 rfl (by kernel_rfl) (by simp [Tryz.ntmps98]) ?_
 have qa:=quick_spec a 9 (by decide)
 have qb:=quick_spec b 9 (by decide)
 have la:=Lib.lt_pow_nDigits a
 have lb:=Lib.lt_pow_nDigits b
 have hla:=toL_short la (by omega)
 have hlb:=toL_short lb (by omega)
 have ht:=times_spec (Num.toL a) (Num.toL b) (Num.lim_toL _) (Num.lim_toL _) (by omega) (by omega)
 rw [Num.val_toL,Num.val_toL] at ht
 have hlab:(Num.toL (a*b)).length<200000:=toL_short (K:=Lib.nDigits a+Lib.nDigits b) (by
  rw [Nat.pow_add]
  exact Nat.mul_lt_mul_of_lt_of_le la (Nat.le_of_lt lb) (Nat.pow_pos (by decide))) (by omega)
 have hs:=signed_spec (a*b) (by omega)
 by_cases h9:Lib.nDigits a≤9∧Lib.nDigits b≤9
 ·rw [if_pos h9.1,decide_eq_true h9.1] at qa
  rw [if_pos h9.2,decide_eq_true h9.2] at qb
  have ha9:a<1000000000:=Nat.lt_of_lt_of_le la (Nat.pow_le_pow_right (n:=10) (by decide) h9.1)
  have hb9:b<1000000000:=Nat.lt_of_lt_of_le lb (Nat.pow_le_pow_right (n:=10) (by decide) h9.2)
  have hab:a*b≤999999999*999999999:=Nat.mul_le_mul (by omega) (by omega)
  have habI:(a:Int)*(b:Int)=((a*b:Nat):Int):=(Int.natCast_mul a b).symm
  have ho:=of_spec ((a:Int)*(b:Int)) (by rw [habI];omega)
  have h2:-9223372036854775808≤(a:Int)*(b:Int)∧(a:Int)*(b:Int)<9223372036854775808:=by rw [habI];omega
  repeat' (first|apply VWp.assoc|apply VWp.rseq|apply VWp.retSeq|apply VOps.nil|apply VOps.one|(apply VVal.fn;rfl;rfl;exact qa;intro _;rfl)|(apply VVal.fn;rfl;rfl;exact qb;intro _;rfl)|(apply VVal.fn;rfl;rfl;exact ho;intro _;rfl)|(apply VVal.assign;rfl)|(apply VVal.move;rfl)|(apply VVal.mul64;rfl;rfl;omega)|(apply VVal.extract;rfl;rfl)|(apply VWp.condSeq_true;rfl))
  ·refine Done.ret rfl (.refl _) (by first|exact trivial|exact ⟨trivial,trivial,trivial⟩|exact ⟨trivial,trivial,trivial,trivial⟩) HCov.nil (Nat.zero_le _) (Nat.le_refl _) ⟨?_,rfl,rfl⟩
   rw [habI,itoa_nat]
 ·repeat' (first|apply VWp.assoc|apply VWp.rseq|apply VWp.skipSeq|apply VWp.ret|apply VOps.nil|apply VOps.one|(apply VVal.fn;rfl;rfl;exact qa;intro _;rfl)|(apply VVal.fn;rfl;rfl;exact qb;intro _;rfl)|(apply VVal.fn;rfl;rfl;exact split_spec a (by omega);intro _;rfl)|(apply VVal.fn;rfl;rfl;exact split_spec b (by omega);intro _;rfl)|(apply VVal.fn;rfl;rfl;exact ht;intro _;rfl)|(apply VVal.fn;rfl;rfl;exact hs;intro _;rfl)|(apply VVal.assign;rfl)|(apply VVal.move;rfl)|(apply VVal.neB;rfl;rfl;rfl)|(apply VVal.extract;rfl;rfl)|(apply VWp.condSeq_dec;rfl)|(intro _;try (exfalso;omega)))
  all_goals (refine Done.ret rfl (.refl _) (by first|exact trivial|exact ⟨trivial,trivial,trivial⟩|exact ⟨trivial,trivial,trivial,trivial⟩) HCov.nil (Nat.zero_le _) (Nat.le_refl _) ⟨?_,rfl,rfl⟩;try rfl)
theorem sign_spec (n:Nat):VFun env 116 [.str (bs (Lib.decDigits n))] (.p (.int .i64 (if n=0 then 0 else 1))):=by
 refine VFun.enter (env_none (by decide)) Tryz.func116 rfl (by kernel_rfl) (by simp [Tryz.ntmps116]) ?_
 have h1:=no_minus n
 have h2:=dec_pos n
 have h3:=dec_zero n
 repeat' (first|apply VWp.rseq|apply VWp.blockSeq|apply QSeq.normal|apply QSeq.ret|(apply DoneI.ret;rfl)|apply QBlk.normal|apply QBlk.ret|apply VWp.ret|apply VWp.skip|apply VOps.nil|apply VOps.one|(apply VOps.take;rfl;rfl)|(apply VOps.drop;rfl;rfl;rfl)|(apply VOps.guard;rfl;rfl)|(apply inl_HasP;rfl;rfl;rfl;exact le_dec rfl)|(apply inl_HasS;rfl;rfl;rfl;exact le_dec rfl)|(apply VVal.assign;rfl)|(apply VVal.move;rfl)|(apply VVal.int;rfl;rfl;rfl)|(apply VVal.pick_true;rfl;rfl)|(apply VVal.pick_false;rfl;rfl)|(apply VVal.lenSt;rfl;rfl)|(apply VVal.eqS;rfl;rfl)|(apply VVal.sliceSto;rfl;rfl;rfl;omega)|(apply VWp.cond_false;rfl)|(apply VWp.cond_dec;rfl)|(intro _;try (exfalso;omega)))
 all_goals first
  |(exfalso;simp_all;done)
  |(exfalso;simp_all;omega)
  |((refine Done.ret rfl (.refl _) (by first|exact trivial|exact ⟨trivial,trivial,trivial⟩|exact ⟨trivial,trivial,trivial,trivial⟩) HCov.nil (Nat.zero_le _) (Nat.le_refl _) ⟨?_,rfl,rfl⟩;try rfl);refine PV.int_eq ?_;first|(rw [if_pos (h3.1 (by assumption))];done)|(rw [if_neg (fun e=>by have:=h3.2 e;contradiction)];done))
theorem cmpB_bound:∀ (a b:List UInt8),-1≤Lib.compareBytes a b∧Lib.compareBytes a b≤1
 |[],[]=>by simp [Lib.compareBytes]
 |[],_::_=>by simp [Lib.compareBytes]
 |_::_,[]=>by simp [Lib.compareBytes]
 |a::as',b::bs'=>by
  simp only [Lib.compareBytes]
  have:=cmpB_bound as' bs'
  split
  ·omega
  ·split
   ·omega
   ·exact this
def cmpI (a b:Nat):Int:=if a<b then -1 else if b<a then 1 else 0
theorem cmp_dec {a b:Nat} (h:Lib.nDigits a=Lib.nDigits b):Lib.compareBytes (Lib.decDigits a) (Lib.decDigits b)=cmpI a b:=by
 rw [Num.decDigits_D,Num.decDigits_D,← h]
 exact Num.cmp_D _ _ _ (Lib.lt_pow_nDigits a) (by rw [h];exact Lib.lt_pow_nDigits b)
theorem compare_spec (a b:Nat) (ha:Lib.nDigits a<400000) (hb:Lib.nDigits b<400000):VFun env 99 [.str (bs (Lib.decDigits a)),.str (bs (Lib.decDigits b))] (.p (.int .i64 (cmpI a b))):=by
 refine VFun.enter (env_none (by decide)) Tryz.func99 rfl (by kernel_rfl) (by simp [Tryz.ntmps99]) ?_
 have sa:=sign_spec a
 have sb:=sign_spec b
 have hla:=Lib.decDigits_length a
 have hlb:=Lib.decDigits_length b
 have hcb:=cmpB_bound (Lib.decDigits a) (Lib.decDigits b)
 have z1:Lib.nDigits 0=1:=Lib.nDigits_small (by decide)
 by_cases ha0:a=0<;>by_cases hb0:b=0
 ·rw [if_pos ha0] at sa
  rw [if_pos hb0] at sb
  have heq:Lib.nDigits a=Lib.nDigits b:=by rw [ha0,hb0]
  repeat' (first|apply VWp.rseq|apply VWp.blockSeq|apply QSeq.normal|apply QBlk.normal|apply VWp.ret|apply VWp.skip|apply VOps.nil|apply VOps.one|(apply VVal.fn;rfl;rfl;exact sa;intro _;rfl)|(apply VVal.fn;rfl;rfl;exact sb;intro _;rfl)|(apply VVal.fn;rfl;rfl;exact cut_spec' a;intro _;rfl)|(apply VVal.fn;rfl;rfl;exact cut_spec' b;intro _;rfl)|(apply VVal.fn;rfl;rfl;exact compare_fun _ _;intro _;rfl)|(apply VVal.assign;rfl)|(apply VVal.move;rfl)|(apply VVal.mul64;rfl;rfl;omega)|(apply VVal.int;rfl;rfl;rfl)|(apply VVal.lenSt;rfl;rfl)|(apply VVal.extract;rfl;rfl)|(apply VWp.cond_false;rfl)|(apply VWp.cond_dec;rfl)|(intro _;try (exfalso;omega)))
  all_goals first
   |(exfalso;omega)
   |((refine Done.ret rfl (.refl _) (by first|exact trivial|exact ⟨trivial,trivial,trivial⟩|exact ⟨trivial,trivial,trivial,trivial⟩) HCov.nil (Nat.zero_le _) (Nat.le_refl _) ⟨?_,rfl,rfl⟩;try rfl);refine PV.int_eq ?_;simp [cmpI,ha0,hb0];done)
 ·rw [if_pos ha0] at sa
  rw [if_neg hb0] at sb
  repeat' (first|apply VWp.rseq|apply VWp.blockSeq|apply QSeq.ret|apply QBlk.ret|apply VWp.ret|apply VOps.nil|apply VOps.one|(apply VVal.fn;rfl;rfl;exact sa;intro _;rfl)|(apply VVal.fn;rfl;rfl;exact sb;intro _;rfl)|(apply VVal.assign;rfl)|(apply VVal.move;rfl)|(apply VVal.int;rfl;rfl;rfl)|(apply VWp.cond_true;rfl))
  all_goals first
   |(exfalso;omega)
   |((refine Done.ret rfl (.refl _) (by first|exact trivial|exact ⟨trivial,trivial,trivial⟩|exact ⟨trivial,trivial,trivial,trivial⟩) HCov.nil (Nat.zero_le _) (Nat.le_refl _) ⟨?_,rfl,rfl⟩;try rfl);refine PV.int_eq ?_;unfold cmpI;rw [if_pos (by omega)];done)
 ·rw [if_neg ha0] at sa
  rw [if_pos hb0] at sb
  repeat' (first|apply VWp.rseq|apply VWp.blockSeq|apply QSeq.ret|apply QBlk.ret|apply VWp.ret|apply VOps.nil|apply VOps.one|(apply VVal.fn;rfl;rfl;exact sa;intro _;rfl)|(apply VVal.fn;rfl;rfl;exact sb;intro _;rfl)|(apply VVal.assign;rfl)|(apply VVal.move;rfl)|(apply VVal.int;rfl;rfl;rfl)|(apply VWp.cond_true;rfl)|(apply VWp.cond_false;rfl))
  all_goals first
   |(exfalso;omega)
   |((refine Done.ret rfl (.refl _) (by first|exact trivial|exact ⟨trivial,trivial,trivial⟩|exact ⟨trivial,trivial,trivial,trivial⟩) HCov.nil (Nat.zero_le _) (Nat.le_refl _) ⟨?_,rfl,rfl⟩;try rfl);refine PV.int_eq ?_;unfold cmpI;rw [if_neg (by omega),if_pos (by omega)];done)
 ·rw [if_neg ha0] at sa
  rw [if_neg hb0] at sb
  have hm1:Lib.nDigits a<Lib.nDigits b→a<b:=Num.nDigits_mono
  have hm2:Lib.nDigits b<Lib.nDigits a→b<a:=Num.nDigits_mono
  repeat' (first|apply VWp.rseq|apply VWp.blockSeq|apply QSeq.normal|apply QSeq.ret|apply QBlk.normal|apply QBlk.ret|apply VWp.ret|apply VWp.skip|apply VOps.nil|apply VOps.one|(apply VVal.fn;rfl;rfl;exact sa;intro _;rfl)|(apply VVal.fn;rfl;rfl;exact sb;intro _;rfl)|(apply VVal.fn;rfl;rfl;exact cut_spec' a;intro _;rfl)|(apply VVal.fn;rfl;rfl;exact cut_spec' b;intro _;rfl)|(apply VVal.fn;rfl;rfl;exact compare_fun _ _;intro _;rfl)|(apply VVal.assign;rfl)|(apply VVal.move;rfl)|(apply VVal.mul64;rfl;rfl;omega)|(apply VVal.int;rfl;rfl;rfl)|(apply VVal.lenSt;rfl;rfl)|(apply VVal.neg;rfl;omega)|(apply VVal.extract;rfl;rfl)|(apply VWp.cond_false;rfl)|(apply VWp.cond_dec;rfl)|(intro _;try (exfalso;omega)))
  ·(refine Done.ret rfl (.refl _) (by first|exact trivial|exact ⟨trivial,trivial,trivial⟩|exact ⟨trivial,trivial,trivial,trivial⟩) HCov.nil (Nat.zero_le _) (Nat.le_refl _) ⟨?_,rfl,rfl⟩;try rfl)
   refine PV.int_eq ?_
   have:=hm1 (by omega)
   unfold cmpI;rw [if_pos this]
  ·(refine Done.ret rfl (.refl _) (by first|exact trivial|exact ⟨trivial,trivial,trivial⟩|exact ⟨trivial,trivial,trivial,trivial⟩) HCov.nil (Nat.zero_le _) (Nat.le_refl _) ⟨?_,rfl,rfl⟩;try rfl)
   refine PV.int_eq ?_
   have:=hm2 (by omega)
   unfold cmpI;rw [if_neg (by omega),if_pos this]
  ·(refine Done.ret rfl (.refl _) (by first|exact trivial|exact ⟨trivial,trivial,trivial⟩|exact ⟨trivial,trivial,trivial,trivial⟩) HCov.nil (Nat.zero_le _) (Nat.le_refl _) ⟨?_,rfl,rfl⟩;try rfl)
   refine PV.int_eq ?_
   rw [Int.one_mul,cmp_dec (by omega)]
end Go.Proofs.YtdabojnmoejilaaGreatDoor
namespace Go.Vm
open Go.Am
theorem wrap_u64_neg {n:Int} (h0:n<0) (h:-18446744073709551616≤n):IntKind.u64.wrap n=n+18446744073709551616:=by
 have e:IntKind.u64.wrap n=n % 2^64:=by
  simp [IntKind.wrap,IntKind.signed,IntKind.bits]
  try omega
 rw [e]
 omega
section
variable {E:Env} {L:Frame} {H:Heap} {nx:Nat} {Q:PV→Heap→Nat→Prop} {w:Bool}
variable {dst:Option Tmp} {ty:TypeId} {pos:String} {af:Array Edge} {gd:Option (Nat×Bool)}
theorem VVal.convUM {s d:TypeId} {x:Operand} {k':IntKind} {n:Int} {sd:TypeDesc} (hx:vev E.Γ L x=some (.p (.int k' n))) (hs:E.P.underlying s=some sd) (hns:notSl sd=true) (hd:E.P.underlying d=some (.int .u64)) (hn:n<0∧-18446744073709551616≤n) (q:Q (.p (.int .u64 (n+18446744073709551616))) H nx) :
 VVal E w ⟨dst,.convert s d x,ty,pos,af,gd⟩ L H nx Q:=VVal.convInt hx hs hns hd (by rw [wrap_u64_neg hn.1 hn.2];exact q)
theorem VVal.negU {t:TypeId} {x:Operand} {a:Int} (hx:vev E.Γ L x=some (.p (.int .u64 a))) (h:0<a∧a<18446744073709551616) (q:Q (.p (.int .u64 (18446744073709551616-a))) H nx):VVal E w ⟨dst,.unOp .neg t x,ty,pos,af,gd⟩ L H nx Q :=
 VVal.quiet q fun m F σ tt c1 c2=>by
  refine ⟨.int .u64 (18446744073709551616-a),fun _=>?_,.p (.int _ _)⟩
  have hd:dry E.P (Op.unary .neg (.int .u64 a))=some (.int .u64 (18446744073709551616-a)):=by
   simp only [Op.unary,Op.intArith,Int.zero_sub,wrap_u64_neg (n:=-a) (by omega) (by omega)]
   rw [show -a+18446744073709551616=18446744073709551616-a by omega]
   rfl
  simp only [aval,aop,vev_int c1 c2 hx]
  rw [show plain (Value.int IntKind.u64 a)=true from rfl]
  simp only [if_true,dryV_of hd rfl,Option.map_some]
theorem VVal.makeFunc {f:FuncId} {fs cs:Array Operand} {pf pc:List PV} (hf:evs E.Γ L fs.toList=some pf) (hc:evs E.Γ L cs.toList=some pc) (q:Q (.clo f pf pc) H nx):VVal E w ⟨dst,.makeFunc (.func f) fs cs,ty,pos,af,gd⟩ L H nx Q :=
 VVal.quiet q fun m F σ tt c1 c2=>by
  refine ⟨.func (.func f) (fs.toList.map (ev tt)).toArray (cs.toList.map (ev tt)).toArray,fun _=>?_,.clo (evs_rel c1 c2 hf) (evs_rel c1 c2 hc)⟩
  simp only [aval,aop,Option.map_some,← Array.toList_map,Array.toArray_toList]
end
end Go.Vm
namespace Go.Proofs.YtdabojnmoejilaaGreatDoor
open Go Go.Am Go.Vm
attribute [local irreducible] VVal VOps VOpsD VWp VCalls VFun VFunV QSeq QBlk QLoop Vm.Done DoneV DoneI
structure Frac where
 num:Int
 den:Int
instance:Enc Frac:={ default:=⟨0,0⟩,enc:=fun x=>[.int .i64 x.num,.int .i64 x.den],size:=2,len:=fun _=>rfl }
theorem magnitude_spec (n:Int) (h:-9223372036854775808≤n∧n<9223372036854775808):VFun env 123 [.int .i64 n] (.p (.int .u64 ((n.natAbs:Nat):Int))):=by
 refine VFun.enter (env_none (by decide)) Tryz.func123 rfl (by kernel_rfl) (by simp [Tryz.ntmps123]) ?_
 repeat' (first|apply VWp.assoc|apply VWp.rseq|apply VWp.skipSeq|apply VWp.retSeq|apply VWp.ret|apply VOps.nil|apply VOps.one|(apply VVal.convUM;rfl;rfl;rfl;rfl;omega)|(apply VVal.negU;rfl;omega)|(apply VVal.assign;rfl)|(apply VVal.move;rfl)|(apply VVal.int;rfl;rfl;rfl)|(apply VVal.convU;rfl;rfl;rfl;rfl;omega)|(apply VWp.condSeq_dec;rfl)|(intro _;try (exfalso;omega)))
 all_goals (refine Done.ret rfl (.refl _) (by first|exact trivial|exact ⟨trivial,trivial,trivial⟩|exact ⟨trivial,trivial,trivial,trivial⟩) HCov.nil (Nat.zero_le _) (Nat.le_refl _) ⟨?_,rfl,rfl⟩;refine PV.int_eq ?_;omega)
theorem gcd_spec (a b:Nat) (ha:a<18446744073709551616) (hb:b<18446744073709551616):VFun env 122 [.int .u64 (a:Int),.int .u64 (b:Int)] (.p (.int .u64 ((Nat.gcd a b:Nat):Int))):=by
 refine VFun.enter (env_none (by decide)) Tryz.func122 rfl (by kernel_rfl) (by simp [Tryz.ntmps122]) ?_
 repeat' (first|apply VWp.rseq|apply VWp.blockSeq|apply VOps.nil|apply VOps.one|(apply VVal.assign;rfl))
 refine VWp.loopQ (fun s:Nat×Nat=>[(0,.p (.int .u64 (s.1:Int))),(1,.p (.int .u64 (s.2:Int)))]) (fun _=>[]) 0 (fun s=>s.1<18446744073709551616∧s.2<18446744073709551616∧Nat.gcd s.1 s.2=Nat.gcd a b) (fun s=>s.2) (a,b) (Nat.le_refl _) ⟨ha,hb,rfl⟩ ⟨Nat.le_refl _,?_,trivial⟩ ?_
 ·repeat (first|exact LCov.nil|refine LCov.same trivial rfl ?_|refine LCov.same (lt_dec rfl) rfl ?_|refine LCov.same ⟨trivial,lt_dec rfl,lt_dec rfl,lt_dec rfl,trivial⟩ rfl ?_|refine LCov.same ⟨trivial,lt_dec rfl,lt_dec rfl,trivial⟩ rfl ?_|refine LCov.same ⟨trivial,trivial⟩ rfl ?_|refine LCov.cons trivial rfl (.of_eq (lst_len (by simp<;>omega))) ?_)
 rintro ⟨x,y⟩ ⟨hx,hy,hg⟩
 simp only at hx hy hg
 have hmod:0<y→x % y<y:=fun h=>Nat.mod_lt _ h
 repeat' (first|apply VWp.assoc|apply VWp.rseq|apply VWp.regionD|apply VWp.skipSeq|apply VWp.exitSeq|apply QSeq.normal|apply QBlk.normal|apply QBlk.exit|apply QLoop.exit|apply VWp.ret|apply VWp.blockQ|apply VOps.nil|apply VOpsD.nil|apply VOps.one|(apply VOpsD.bar;decide +kernel)|(apply VVal.assign;rfl)|(apply VVal.move;rfl)|(apply VVal.remUN;rfl;rfl;omega)|(apply VVal.int;rfl;rfl;rfl)|(apply VWp.condSeq_dec;rfl)|(intro _;try (exfalso;omega)))
 ·rename_i h1
  have hy0:0<y:=by omega
  refine QLoop.normal ⟨(y,x % y),⟨hy,by have:=hmod hy0;omega,?_⟩,hmod hy0,⟨Nat.le_refl _,?_,trivial⟩⟩
  ·rw [← hg,Nat.gcd_comm x y,Nat.gcd_rec y x,Nat.gcd_comm]
  ·repeat (first|exact LCov.nil|refine LCov.same trivial rfl ?_|refine LCov.same (lt_dec rfl) rfl ?_|refine LCov.same ⟨trivial,lt_dec rfl,lt_dec rfl,lt_dec rfl,trivial⟩ rfl ?_|refine LCov.same ⟨trivial,lt_dec rfl,lt_dec rfl,trivial⟩ rfl ?_|refine LCov.same ⟨trivial,trivial⟩ rfl ?_|refine LCov.cons trivial rfl (.of_eq (lst_len (by simp<;>omega))) ?_)
 ·rename_i h1
  refine Done.ret rfl (.refl _) (by first|exact trivial|exact ⟨trivial,trivial,trivial⟩|exact ⟨trivial,trivial,trivial,trivial⟩) HCov.nil (Nat.zero_le _) (Nat.le_refl _) ⟨?_,rfl,rfl⟩
  have hy0:y=0:=by omega
  subst hy0
  rw [← hg,Nat.gcd_zero_right]
def fOk (x:Frac):Prop:=0<x.den∧x.den≤1000000∧-1000000≤x.num∧x.num≤1000000∧Nat.gcd x.num.natAbs x.den.toNat=1
instance (x:Frac):Decidable (fOk x):=by unfold fOk;infer_instance
def fchk (x:Frac):Int:=if fOk x then 0 else 2
theorem fcheck_spec (x:Frac):VFun env 106 [.agg (Enc.enc x)] (.p (.int .i64 (fchk x))):=by
 refine VFun.enter (env_none (by decide)) Tryz.func106 rfl (by kernel_rfl) (by simp [Tryz.ntmps106]) ?_
 have hd:0<x.den→((x.den.toNat:Nat):Int)=x.den:=fun h=>Int.toNat_of_nonneg (Int.le_of_lt h)
 have hg:0<x.den→x.den≤1000000→-1000000≤x.num→x.num≤1000000→VFun env 122 [.int .u64 ((x.num.natAbs:Nat):Int),.int .u64 x.den] (.p (.int .u64 ((Nat.gcd x.num.natAbs x.den.toNat:Nat):Int))):=fun h1 h2 h3 h4=>by
  have:=gcd_spec x.num.natAbs x.den.toNat (by omega) (by omega)
  rwa [hd h1] at this
 repeat' (first|apply VWp.assoc|apply VWp.rseq|apply VWp.rseqD|apply VWp.skipSeq|apply VWp.retSeq|apply VWp.ret|apply VOps.nil|apply VOpsD.nil|apply VOps.one|(apply VOpsD.bar;decide +kernel)|(apply VOpsD.quietTake;rfl;rfl)|(apply VOpsD.drop;rfl;rfl;rfl)|(apply VOpsD.guard;rfl;rfl)|(apply VVal.fn;rfl;rfl;exact magnitude_spec _ (by omega);intro _;rfl)|(apply VVal.fn;rfl;rfl;exact hg (by omega) (by omega) (by omega) (by omega);intro _;rfl)|(apply VVal.assign;rfl)|(apply VVal.move;rfl)|(apply VVal.int;rfl;rfl;rfl)|(apply VVal.load;rfl;rfl)|(apply VVal.pick_true;rfl;rfl)|(apply VVal.pick_false;rfl;rfl)|(apply VVal.fieldB;rfl;rfl;rfl)|(apply VVal.box;rfl;trivial)|(apply VVal.convU;rfl;rfl;rfl;rfl;omega)|(apply VWp.condSeq_true;rfl)|(apply VWp.condSeq_dec;rfl)|(intro _;try (exfalso;omega)))
 all_goals (refine Done.ret rfl (.refl _) (by first|exact trivial|exact ⟨trivial,trivial,trivial⟩|exact ⟨trivial,trivial,trivial,trivial⟩) HCov.nil (Nat.zero_le _) (Nat.le_refl _) ⟨?_,rfl,rfl⟩;refine PV.int_eq ?_;unfold fchk;first|(rw [if_neg (show ¬ fOk x from fun h=>by unfold fOk at h;omega)];done)|(rw [if_pos (show fOk x from by unfold fOk;omega)];done))
end Go.Proofs.YtdabojnmoejilaaGreatDoor
namespace Go.Proofs.YtdabojnmoejilaaGreatDoor
open Go Go.Am Go.Vm
attribute [local irreducible] VVal VOps VOpsD VWp VCalls VFun VFunV QSeq QBlk QLoop Vm.Done DoneV DoneI
def pOk (x:Frac):Prop:=fOk x∧0<x.num∧x.num≤128*x.den∧x.den≤128
instance (x:Frac):Decidable (pOk x):=by unfold pOk;infer_instance
def pchk (x:Frac):Int:=if ¬ fOk x then 2 else if x.num≤0∨x.num>128*x.den then 3 else if x.den>128 then 4 else 0
theorem pchk_ok {x:Frac}:pchk x=0↔pOk x:=by
 unfold pchk pOk
 by_cases h1:fOk x
 ·rw [if_neg (Classical.not_not.2 h1)]
  split
  ·constructor
   ·intro h;cases h
   ·rintro ⟨_,_,_,_⟩;omega
  ·split
   ·constructor
    ·intro h;cases h
    ·rintro ⟨_,_,_,_⟩;omega
   ·exact ⟨fun _=>⟨h1,by omega,by omega,by omega⟩,fun _=>rfl⟩
 ·rw [if_pos h1]
  exact ⟨fun h=>(by cases h),fun h=>absurd h.1 h1⟩
theorem pcheck_spec (x:Frac):VFun env 86 [.agg (Enc.enc x)] (.p (.int .i64 (pchk x))):=by
 have hc:=fcheck_spec x
 refine VFun.enter (env_none (by decide)) Tryz.func86 rfl (by kernel_rfl) (by simp [Tryz.ntmps86]) ?_
 by_cases h1:fOk x
 ·rw [show fchk x=0 from if_pos h1] at hc
  have h1':=h1
  obtain ⟨h2,h3,h4,h5,-⟩:=h1'
  have e:pchk x=if x.num≤0∨x.num>128*x.den then 3 else if x.den>128 then 4 else 0:=by unfold pchk;rw [if_neg (Classical.not_not.2 h1)]
  rw [e]
  repeat' (first|apply VWp.rseq|apply VWp.blockSeq|apply QSeq.normal|apply QSeq.ret|apply QBlk.normal|apply QBlk.ret|apply VWp.ret|apply VWp.skip|apply VOps.nil|apply VOps.one|(apply VOps.take;rfl;rfl)|(apply VOps.drop;rfl;rfl;rfl)|(apply VOps.guard;rfl;rfl)|(apply VVal.fn;rfl;rfl;exact hc;intro _;rfl)|(apply VVal.assign;rfl)|(apply VVal.move;rfl)|(apply VVal.mul64;rfl;rfl;omega)|(apply VVal.int;rfl;rfl;rfl)|(apply VVal.load;rfl;rfl)|(apply VVal.pick_true;rfl;rfl)|(apply VVal.pick_false;rfl;rfl)|(apply VVal.fieldB;rfl;rfl;rfl)|(apply VVal.box;rfl;trivial)|(apply VWp.cond_true;rfl)|(apply VWp.cond_false;rfl)|(apply VWp.cond_dec;rfl)|(intro _;try (exfalso;omega)))
  all_goals first|(exfalso;omega)|(rw [if_pos (by omega)];(refine Done.ret rfl (.refl _) (by first|exact trivial|exact ⟨trivial,trivial,trivial⟩|exact ⟨trivial,trivial,trivial,trivial⟩) HCov.nil (Nat.zero_le _) (Nat.le_refl _) ⟨?_,rfl,rfl⟩;try rfl);done)|(rw [if_neg (by omega),if_pos (by omega)];(refine Done.ret rfl (.refl _) (by first|exact trivial|exact ⟨trivial,trivial,trivial⟩|exact ⟨trivial,trivial,trivial,trivial⟩) HCov.nil (Nat.zero_le _) (Nat.le_refl _) ⟨?_,rfl,rfl⟩;try rfl);done)|(rw [if_neg (by omega),if_neg (by omega)];(refine Done.ret rfl (.refl _) (by first|exact trivial|exact ⟨trivial,trivial,trivial⟩|exact ⟨trivial,trivial,trivial,trivial⟩) HCov.nil (Nat.zero_le _) (Nat.le_refl _) ⟨?_,rfl,rfl⟩;try rfl);done)
 ·rw [show fchk x=2 from if_neg h1] at hc
  rw [show pchk x=2 from if_pos h1]
  repeat' (first|apply VWp.rseq|apply VWp.blockSeq|apply QSeq.ret|apply QBlk.ret|apply VWp.ret|apply VOps.nil|apply VOps.one|(apply VVal.fn;rfl;rfl;exact hc;intro _;rfl)|(apply VVal.assign;rfl)|(apply VVal.int;rfl;rfl;rfl)|(apply VVal.load;rfl;rfl)|(apply VVal.box;rfl;trivial)|(apply VWp.cond_true;rfl))
  all_goals (refine Done.ret rfl (.refl _) (by first|exact trivial|exact ⟨trivial,trivial,trivial⟩|exact ⟨trivial,trivial,trivial,trivial⟩) HCov.nil (Nat.zero_le _) (Nat.le_refl _) ⟨?_,rfl,rfl⟩;try rfl)
def bothR (x y:Frac):Int:=if pchk x≠0 then pchk x else pchk y
theorem pboth_spec (x y:Frac):VFun env 67 [.agg (Enc.enc x),.agg (Enc.enc y)] (.p (.int .i64 (bothR x y))):=by
 have h1:=pcheck_spec x
 have h2:=pcheck_spec y
 unfold bothR
 refine VFun.enter (env_none (by decide)) Tryz.func67 rfl (by kernel_rfl) (by simp [Tryz.ntmps67]) ?_
 repeat' (first|apply VWp.assoc|apply VWp.rseq|apply VWp.skipSeq|apply VWp.retSeq|apply VWp.ret|apply VOps.nil|apply VOps.one|(apply VVal.fn;rfl;rfl;exact h1;intro _;rfl)|(apply VVal.fn;rfl;rfl;exact h2;intro _;rfl)|(apply VVal.assign;rfl)|(apply VVal.move;rfl)|(apply VVal.int;rfl;rfl;rfl)|(apply VVal.load;rfl;rfl)|(apply VVal.box;rfl;trivial)|(apply VWp.condSeq_dec;rfl)|(intro _;try (exfalso;omega)))
 all_goals first|(rw [if_pos (by assumption)];(refine Done.ret rfl (.refl _) (by first|exact trivial|exact ⟨trivial,trivial,trivial⟩|exact ⟨trivial,trivial,trivial,trivial⟩) HCov.nil (Nat.zero_le _) (Nat.le_refl _) ⟨?_,rfl,rfl⟩;try rfl);done)|(rw [if_neg (by assumption)];(refine Done.ret rfl (.refl _) (by first|exact trivial|exact ⟨trivial,trivial,trivial⟩|exact ⟨trivial,trivial,trivial,trivial⟩) HCov.nil (Nat.zero_le _) (Nat.le_refl _) ⟨?_,rfl,rfl⟩;try rfl);done)
def sh1 (den:Nat):Nat→Nat→Int→Nat×Int
 |0,num,n=>(num,n)
 |f+1,num,n=>if num<den then sh1 den f (num*2) (n-12) else (num,n)
def sh2 (num:Nat):Nat→Nat→Int→Nat×Int
 |0,den,n=>(den,n)
 |f+1,den,n=>if 2*den≤num then sh2 num f (den*2) (n+12) else (den,n)
def sh3 (p:Nat):Nat→Nat→Int→Int
 |0,l,n=>n
 |f+1,l,n=>if l<p then sh3 p f (l*4) (n+1) else n
def shN (num den:Nat):Int :=
 let a:=sh1 den 30 num 0
 let b:=sh2 a.1 30 den a.2
 sh3 (a.1 ^ 24) 30 (b.1 ^ 24*2) b.2
def shz (x y:Frac):Int:=shN (y.num*x.den).toNat (y.den*x.num).toNat
theorem cmpI_pos (a b:Nat):cmpI a b>0↔b<a:=by
 unfold cmpI
 split
 ·omega
 ·split<;>omega
theorem nd_le {n k:Nat} (hk:0<k) (h:n<10 ^ k):Lib.nDigits n≤k:=by
 rcases Nat.eq_zero_or_pos n with h0|h0
 ·subst h0;rw [Lib.nDigits_small (by decide)];exact hk
 ·have h1:=Num.pow_le_of_nDigits n (by omega)
  have h2:10 ^ (Lib.nDigits n-1)<10 ^ k:=Nat.lt_of_le_of_lt h1 h
  have h3:=(Nat.pow_lt_pow_iff_right (a:=10) (by decide)).1 h2
  omega
theorem nd_pow {n k e:Nat} (hk:0<k) (h:n<10 ^ k) (he:e≤100):Lib.nDigits (n ^ e)≤k*100:=by
 rcases Nat.eq_zero_or_pos e with h0|h0
 ·subst h0;rw [Nat.pow_zero,Lib.nDigits_small (by decide)];omega
 ·refine nd_le (by omega) ?_
  have h1:n ^ e<(10 ^ k) ^ e:=Nat.pow_lt_pow_left h (by omega)
  rw [← Nat.pow_mul] at h1
  exact Nat.lt_of_lt_of_le h1 (Nat.pow_le_pow_right (by decide) (Nat.mul_le_mul_left _ he))
theorem nd_mul {a b j k:Nat} (ha:Lib.nDigits a≤j) (hb:Lib.nDigits b≤k):Lib.nDigits (a*b)≤j+k:=by
 have h1:=Lib.lt_pow_nDigits a
 have h2:=Lib.lt_pow_nDigits b
 have hp:=Lib.nDigits_pos a
 refine nd_le (by omega) ?_
 rw [Nat.pow_add]
 have h3:a<10 ^ j:=Nat.lt_of_lt_of_le h1 (Nat.pow_le_pow_right (by decide) ha)
 have h4:b<10 ^ k:=Nat.lt_of_lt_of_le h2 (Nat.pow_le_pow_right (by decide) hb)
 exact Nat.mul_lt_mul_of_lt_of_le h3 (Nat.le_of_lt h4) (Nat.pow_pos (by decide))
theorem shift_spec (x y:Frac) (hx:pOk x) (hy:pOk y):VFun env 68 [.agg (Enc.enc x),.agg (Enc.enc y)] (.p (.int .i64 (shz x y))):=by
 obtain ⟨⟨f1,-⟩,f2,f3,f4⟩:=hx
 obtain ⟨⟨g1,-⟩,g2,g3,g4⟩:=hy
 obtain ⟨xn,hxn⟩:∃ k:Nat,x.num=k:=⟨x.num.toNat,by omega⟩
 obtain ⟨xd,hxd⟩:∃ k:Nat,x.den=k:=⟨x.den.toNat,by omega⟩
 obtain ⟨yn,hyn⟩:∃ k:Nat,y.num=k:=⟨y.num.toNat,by omega⟩
 obtain ⟨yd,hyd⟩:∃ k:Nat,y.den=k:=⟨y.den.toNat,by omega⟩
 have b1:yn*xd≤16384*128:=Nat.mul_le_mul (by omega) (by omega)
 have b2:yd*xn≤128*16384:=Nat.mul_le_mul (by omega) (by omega)
 have p1:0<yn*xd:=Nat.mul_pos (by omega) (by omega)
 have p2:0<yd*xn:=Nat.mul_pos (by omega) (by omega)
 have c1:y.num*x.den=((yn*xd:Nat):Int):=by rw [hyn,hxd,Int.natCast_mul]
 have c2:y.den*x.num=((yd*xn:Nat):Int):=by rw [hyd,hxn,Int.natCast_mul]
 have e:shz x y=shN (yn*xd) (yd*xn):=by unfold shz;rw [c1,c2];rfl
 rw [e]
 generalize yn*xd=num at *
 generalize yd*xn=den at *
 have z1:-9223372036854775808≤y.num*x.den∧y.num*x.den<9223372036854775808:=by omega
 have z2:-9223372036854775808≤y.den*x.num∧y.den*x.num<9223372036854775808:=by omega
 refine VFun.enter (env_none (by decide)) Tryz.func68 rfl (by kernel_rfl) (by simp [Tryz.ntmps68]) ?_
 repeat' (first|apply VWp.rseq|apply VWp.rseqD|apply VWp.blockSeq|apply VOps.nil|apply VOpsD.nil|apply VOps.one|(apply VOpsD.bar;decide +kernel)|apply VOpsD.quiet|(apply VVal.assign;rfl)|(apply VVal.mul64;rfl;rfl;omega)|(apply VVal.load;rfl;rfl)|(apply VVal.fieldB;rfl;rfl;rfl)|(apply VVal.box;rfl;trivial))
 refine VWp.loopQ (fun s:Nat×Nat=>[(5,.p (.int .i64 (s.2:Int))),(6,.p (.int .i64 (den:Int))),(7,.p (.int .i64 (-(12*(s.1:Int)))))]) (fun _=>[]) 0 (fun s=>s.1≤22∧s.2=num*2 ^ s.1∧s.2≤4194304∧sh1 den (30-s.1) s.2 (-(12*(s.1:Int)))=sh1 den 30 num 0) (fun s=>30-s.1) (0,num) (by omega) ⟨by omega,by simp,by simp only;omega,by simp⟩ ⟨by omega,?_,?_⟩ ?_
 ·simp only [c1,c2];repeat (first|exact LCov.nil|refine LCov.same trivial rfl ?_|refine LCov.same (lt_dec rfl) rfl ?_|refine LCov.same ⟨trivial,lt_dec rfl,lt_dec rfl,lt_dec rfl,trivial⟩ rfl ?_|refine LCov.same ⟨trivial,lt_dec rfl,lt_dec rfl,trivial⟩ rfl ?_|refine LCov.same ⟨trivial,trivial⟩ rfl ?_|refine LCov.cons trivial rfl (.of_eq (lst_len (by simp<;>omega))) ?_)
 ·exact HCov.nil
 rintro ⟨i,m⟩ ⟨hi,hm,hm2,hs⟩
 simp only at hi hm hm2 hs
 have hpow:∀ a b c:Nat,0<a→a*2 ^ b≤c→2 ^ b≤c:=fun a b c ha h=>Nat.le_trans (Nat.le_mul_of_pos_left _ ha) h
 have h21:∀ b:Nat,2 ^ b≤2 ^ 21→b≤21:=fun b h=>(Nat.pow_le_pow_iff_right (by decide)).1 h
 have hmpos:0<m:=by rw [hm];exact Nat.mul_pos p1 (Nat.pow_pos (by decide))
 repeat' (first|apply VWp.assoc|apply VWp.rseq|apply VWp.region|apply VWp.skipSeq|apply VWp.exitSeq|apply VWp.blockSeq|apply QSeq.normal|apply QBlk.normal|apply QBlk.exit|apply QLoop.exit|apply VOps.nil|apply VOps.one|(apply VVal.assign;rfl)|(apply VVal.move;rfl)|(apply VVal.sub64;rfl;rfl;omega)|(apply VVal.mul64;rfl;rfl;omega)|(apply VVal.int;rfl;rfl;rfl)|(apply VWp.condSeq_dec;rfl)|(intro _;try (exfalso;omega)))
 ·rename_i a1
  simp only at a1
  have hi2:i≤20:=by
   have h1:num*2 ^ i<den:=by rw [← hm];omega
   have h2:2 ^ i<2 ^ 21:=Nat.lt_of_le_of_lt (hpow _ _ _ p1 (Nat.le_refl _)) (by omega)
   have:=(Nat.pow_lt_pow_iff_right (a:=2) (by decide)).1 h2
   omega
  have e7:-(12*((i+1:Nat):Int))=-(12*(i:Int))-12:=by omega
  refine QLoop.normal ⟨(i+1,m*2),⟨by simp only;omega,by simp only;rw [hm,Nat.pow_succ,Nat.mul_assoc],by simp only;omega,?_⟩,by simp only;omega,⟨by omega,?_,?_⟩⟩
  ·simp only
   rw [← hs,show 30-i=(30-(i+1))+1 by omega,e7]
   conv=>rhs;rw [sh1]
   rw [if_pos (by omega)]
  ·simp only [e7];repeat (first|exact LCov.nil|refine LCov.same trivial rfl ?_|refine LCov.same (lt_dec rfl) rfl ?_|refine LCov.same ⟨trivial,lt_dec rfl,lt_dec rfl,lt_dec rfl,trivial⟩ rfl ?_|refine LCov.same ⟨trivial,lt_dec rfl,lt_dec rfl,trivial⟩ rfl ?_|refine LCov.same ⟨trivial,trivial⟩ rfl ?_|refine LCov.cons trivial rfl (.of_eq (lst_len (by simp<;>omega))) ?_)
  ·exact HCov.nil
 ·rename_i a1
  simp only at a1
  have hs1:sh1 den 30 num 0=(m,-(12*(i:Int))):=by
   rw [← hs]
   cases 30-i with
   |zero=>rfl
   |succ f=>rw [sh1,if_neg (by omega)]
  refine VWp.loopQ (fun s:Nat×Nat=>[(5,.p (.int .i64 (m:Int))),(6,.p (.int .i64 (s.2:Int))),(7,.p (.int .i64 (-(12*(i:Int))+12*(s.1:Int))))]) (fun _=>[]) 0 (fun s=>s.1≤22∧s.2=den*2 ^ s.1∧s.2≤4194304∧sh2 m (30-s.1) s.2 (-(12*(i:Int))+12*(s.1:Int))=sh2 m 30 den (-(12*(i:Int)))) (fun s=>30-s.1) (0,den) (by omega) ⟨by omega,by simp,by simp only;omega,by simp⟩ ⟨by omega,?_,?_⟩ ?_
  ·have e7:-(12*(i:Int))+12*((0:Nat):Int)=-(12*(i:Int)):=by omega
   simp only [e7];repeat (first|exact LCov.nil|refine LCov.same trivial rfl ?_|refine LCov.same (lt_dec rfl) rfl ?_|refine LCov.same ⟨trivial,lt_dec rfl,lt_dec rfl,lt_dec rfl,trivial⟩ rfl ?_|refine LCov.same ⟨trivial,lt_dec rfl,lt_dec rfl,trivial⟩ rfl ?_|refine LCov.same ⟨trivial,trivial⟩ rfl ?_|refine LCov.cons trivial rfl (.of_eq (lst_len (by simp<;>omega))) ?_)
  ·exact HCov.nil
  rintro ⟨j,d⟩ ⟨hj,hd,hd2,ht⟩
  simp only at hj hd hd2 ht
  have hdpos:0<d:=by rw [hd];exact Nat.mul_pos p2 (Nat.pow_pos (by decide))
  by_cases hdm:2*d≤m
  ·repeat' (first|apply VWp.assoc|apply VWp.rseq|apply VWp.region|apply VWp.skipSeq|apply VWp.blockSeq|apply QSeq.normal|apply QBlk.normal|apply VOps.nil|apply VOps.one|(apply VVal.assign;rfl)|(apply VVal.move;rfl)|(apply VVal.add64;rfl;rfl;omega)|(apply VVal.mul64;rfl;rfl;omega)|(apply VVal.int;rfl;rfl;rfl)|(apply VWp.condSeq_dec;rfl)|(intro _;try (exfalso;omega)))
   all_goals try (exfalso;omega)
   have hj2:j≤21:=by
    have h1:den*2 ^ j≤2 ^ 21:=by rw [← hd];omega
    exact h21 _ (hpow _ _ _ p2 h1)
   have e7:-(12*(i:Int))+12*((j+1:Nat):Int)=-(12*(i:Int))+12*(j:Int)+12:=by omega
   refine QLoop.normal ⟨(j+1,d*2),⟨by simp only;omega,by simp only;rw [hd,Nat.pow_succ,Nat.mul_assoc],by simp only;omega,?_⟩,by simp only;omega,⟨by omega,?_,?_⟩⟩
   ·simp only
    rw [← ht,show 30-j=(30-(j+1))+1 by omega,e7]
    conv=>rhs;rw [sh2]
    rw [if_pos hdm]
   ·simp only [e7];repeat (first|exact LCov.nil|refine LCov.same trivial rfl ?_|refine LCov.same (lt_dec rfl) rfl ?_|refine LCov.same ⟨trivial,lt_dec rfl,lt_dec rfl,lt_dec rfl,trivial⟩ rfl ?_|refine LCov.same ⟨trivial,lt_dec rfl,lt_dec rfl,trivial⟩ rfl ?_|refine LCov.same ⟨trivial,trivial⟩ rfl ?_|refine LCov.cons trivial rfl (.of_eq (lst_len (by simp<;>omega))) ?_)
   ·exact HCov.nil
  ·have hs2:sh2 m 30 den (-(12*(i:Int)))=(d,-(12*(i:Int))+12*(j:Int)):=by
    rw [← ht]
    cases 30-j with
    |zero=>rfl
    |succ f=>rw [sh2,if_neg hdm]
   have hR:shN num den=sh3 (m ^ 24) 30 (d ^ 24*2) (-(12*(i:Int))+12*(j:Int)):=by
    unfold shN;rw [hs1];simp only;rw [hs2]
   rw [hR]
   have om:=of_spec (m:Int) (by omega)
   have od:=of_spec (d:Int) (by omega)
   rw [itoa_nat] at om od
   have nm:Lib.nDigits m≤7:=nd_le (by decide) (by omega)
   have nd:Lib.nDigits d≤7:=nd_le (by decide) (by omega)
   have pm:=power_spec m 24 (by decide) (by omega) (by omega)
   have pd:=power_spec d 24 (by decide) (by omega) (by omega)
   have np:Lib.nDigits (m ^ 24)≤700:=nd_pow (k:=7) (by decide) (by omega) (by decide)
   have nq:Lib.nDigits (d ^ 24)≤700:=nd_pow (k:=7) (by decide) (by omega) (by decide)
   have n2:Lib.nDigits 2=1:=Lib.nDigits_small (by decide)
   have n4:Lib.nDigits 4=1:=Lib.nDigits_small (by decide)
   have q2:=mul_spec (d ^ 24) 2 (by omega) (by omega)
   rw [show Lib.decDigits 2=[50] by decide +kernel] at q2
   have hpq:m ^ 24<2 ^ 24*d ^ 24:=by
    rw [← Nat.mul_pow]
    exact Nat.pow_lt_pow_left (by omega) (by decide)
   have hqpos:0<d ^ 24:=Nat.pow_pos hdpos
   generalize m ^ 24=p at *
   generalize d ^ 24=q at *
   repeat' (first|apply VWp.assoc|apply VWp.rseq|apply VWp.exitSeq|apply VWp.blockSeq|apply QSeq.normal|apply QBlk.exit|apply QLoop.exit|apply VOps.nil|apply VOps.one|(apply VVal.fn;rfl;rfl;exact om;intro _;rfl)|(apply VVal.fn;rfl;rfl;exact od;intro _;rfl)|(apply VVal.fn;rfl;rfl;exact pm;intro _;rfl)|(apply VVal.fn;rfl;rfl;exact pd;intro _;rfl)|(apply VVal.fn;rfl;rfl;exact q2;intro _;rfl)|(apply VVal.assign;rfl)|(apply VVal.move;rfl)|(apply VVal.mul64;rfl;rfl;omega)|(apply VVal.int;rfl;rfl;rfl)|(apply VVal.extract;rfl;rfl)|(apply VWp.condSeq_dec;rfl)|(intro _;try (exfalso;omega)))
   all_goals try (exfalso;omega)
   generalize hn0:-(12*(i:Int))+12*(j:Int)=n0 at *
   have hn0b:-1000≤n0∧n0≤1000:=by omega
   refine VWp.loopQ (fun k:Nat=>[(8,st (Lib.decDigits p)),(12,st (Lib.decDigits (q*2*4 ^ k))),(7,.p (.int .i64 (n0+(k:Int))))]) (fun _=>[]) 0 (fun k=>k≤20∧sh3 p (30-k) (q*2*4 ^ k) (n0+(k:Int))=sh3 p 30 (q*2) n0) (fun k=>30-k) 0 (by omega) ⟨by omega,by simp⟩ ⟨by omega,?_,?_⟩ ?_
   ·have e7:n0+((0:Nat):Int)=n0:=by omega
    rw [e7,Nat.pow_zero,Nat.mul_one];repeat (first|exact LCov.nil|refine LCov.same trivial rfl ?_|refine LCov.same (lt_dec rfl) rfl ?_|refine LCov.same ⟨trivial,lt_dec rfl,lt_dec rfl,lt_dec rfl,trivial⟩ rfl ?_|refine LCov.same ⟨trivial,lt_dec rfl,lt_dec rfl,trivial⟩ rfl ?_|refine LCov.same ⟨trivial,trivial⟩ rfl ?_|refine LCov.cons trivial rfl (.of_eq (lst_len (by simp<;>omega))) ?_)
   ·exact HCov.nil
   rintro k ⟨hk,hs⟩
   have nl:Lib.nDigits (q*2*4 ^ k)≤1000:=by
    have h1:=nd_mul (a:=q) (b:=2) (j:=700) (k:=1) (by omega) (by omega)
    have h2:Lib.nDigits (4 ^ k)≤100:=nd_pow (n:=4) (k:=1) (by decide) (by decide) (by omega)
    have h3:=nd_mul h1 h2
    omega
   have cc:=compare_spec p (q*2*4 ^ k) (by omega) (by omega)
   have q4:=mul_spec (q*2*4 ^ k) 4 (by omega) (by omega)
   rw [show Lib.decDigits 4=[52] by decide +kernel] at q4
   have hcp:=cmpI_pos p (q*2*4 ^ k)
   by_cases hlt:q*2*4 ^ k<p
   ·have hc:=hcp.2 hlt
    have hk2:k≤12:=by
     have h1:q*(2*4 ^ k)<q*2 ^ 24:=by rw [← Nat.mul_assoc,Nat.mul_comm q (2 ^ 24)];omega
     have h2:=Nat.lt_of_mul_lt_mul_left h1
     have h3:2*4 ^ k=2 ^ (1+2*k):=by rw [Nat.pow_add,Nat.pow_mul,Nat.pow_one]
     rw [h3] at h2
     have:=(Nat.pow_lt_pow_iff_right (a:=2) (by decide)).1 h2
     omega
    have e7:n0+((k+1:Nat):Int)=n0+(k:Int)+1:=by omega
    repeat' (first|apply VWp.assoc|apply VWp.rseq|apply VWp.region|apply VWp.skipSeq|apply VWp.blockSeq|apply QSeq.normal|apply QBlk.normal|apply VOps.nil|apply VOps.one|(apply VVal.fn;rfl;rfl;exact cc;intro _;rfl)|(apply VVal.fn;rfl;rfl;exact q4;intro _;rfl)|(apply VVal.assign;rfl)|(apply VVal.move;rfl)|(apply VVal.add64;rfl;rfl;omega)|(apply VVal.int;rfl;rfl;rfl)|(apply VWp.condSeq_dec;rfl)|(intro _;try (exfalso;omega)))
    all_goals try (exfalso;omega)
    refine QLoop.normal ⟨k+1,⟨by omega,?_⟩,by omega,⟨by omega,?_,?_⟩⟩
    ·rw [← hs,show 30-k=(30-(k+1))+1 by omega,e7]
     conv=>rhs;rw [sh3]
     rw [if_pos hlt,Nat.pow_succ,Nat.mul_assoc (q*2)]
    ·rw [e7,Nat.pow_succ,← Nat.mul_assoc];repeat (first|exact LCov.nil|refine LCov.same trivial rfl ?_|refine LCov.same (lt_dec rfl) rfl ?_|refine LCov.same ⟨trivial,lt_dec rfl,lt_dec rfl,lt_dec rfl,trivial⟩ rfl ?_|refine LCov.same ⟨trivial,lt_dec rfl,lt_dec rfl,trivial⟩ rfl ?_|refine LCov.same ⟨trivial,trivial⟩ rfl ?_|refine LCov.cons trivial rfl (.of_eq (lst_len (by simp<;>omega))) ?_)
    ·exact HCov.nil
   ·have hc:¬ cmpI p (q*2*4 ^ k)>0:=fun h=>hlt (hcp.1 h)
    have hR3:sh3 p 30 (q*2) n0=n0+(k:Int):=by
     rw [← hs]
     cases 30-k with
     |zero=>rfl
     |succ f=>rw [sh3,if_neg hlt]
    rw [hR3]
    repeat' (first|apply VWp.assoc|apply VWp.rseq|apply VWp.exitSeq|apply QSeq.normal|apply QBlk.exit|apply QLoop.exit|apply VWp.ret|apply VOps.nil|apply VOps.one|(apply VVal.fn;rfl;rfl;exact cc;intro _;rfl)|(apply VVal.assign;rfl)|(apply VVal.move;rfl)|(apply VVal.int;rfl;rfl;rfl)|(apply VWp.condSeq_dec;rfl)|(intro _;try (exfalso;omega)))
    all_goals first|(exfalso;omega)|(refine Done.ret rfl (.refl _) (by first|exact trivial|exact ⟨trivial,trivial,trivial⟩|exact ⟨trivial,trivial,trivial,trivial⟩) HCov.nil (Nat.zero_le _) (Nat.le_refl _) ⟨?_,rfl,rfl⟩;try rfl)
def shiftR (x y:Frac):Int×Int:=if bothR x y≠0 then (0,bothR x y) else (shz x y,0)
theorem bothR_ok {x y:Frac}:bothR x y=0↔pOk x∧pOk y:=by
 unfold bothR
 rw [← pchk_ok,← pchk_ok]
 split
 ·rename_i h;exact ⟨fun h'=>absurd h' h,fun h'=>absurd h'.1 h⟩
 ·rename_i h;exact ⟨fun h'=>⟨Classical.not_not.1 h,h'⟩,fun h'=>h'.2⟩
theorem pShift_spec (x y:Frac):VFun env 44 [.agg (Enc.enc x),.agg (Enc.enc y)] (.tup [.p (.int .i64 (shiftR x y).1),.p (.int .i64 (shiftR x y).2)]):=by
 have hb:=pboth_spec x y
 by_cases h:bothR x y=0
 ·rw [h] at hb
  have ok:=bothR_ok.1 h
  have hs:=shift_spec x y ok.1 ok.2
  rw [show shiftR x y=(shz x y,0) from if_neg (fun h'=>h' h)]
  refine VFun.enter (env_none (by decide)) Tryz.func44 rfl (by kernel_rfl) (by simp [Tryz.ntmps44]) ?_
  repeat' (first|apply VWp.assoc|apply VWp.rseq|apply VWp.skipSeq|apply VWp.ret|apply VOps.nil|apply VOps.one|(apply VVal.fn;rfl;rfl;exact hb;intro _;rfl)|(apply VVal.fn;rfl;rfl;exact hs;intro _;rfl)|(apply VVal.assign;rfl)|(apply VVal.move;rfl)|(apply VVal.int;rfl;rfl;rfl)|(apply VVal.load;rfl;rfl)|(apply VVal.box;rfl;trivial)|(apply VWp.condSeq_false;rfl))
  all_goals first|(exfalso;omega)|(refine Done.ret rfl (.refl _) (by first|exact trivial|exact ⟨trivial,trivial,trivial⟩|exact ⟨trivial,trivial,trivial,trivial⟩) HCov.nil (Nat.zero_le _) (Nat.le_refl _) ⟨?_,rfl,rfl⟩;try rfl)
 ·rw [show shiftR x y=(0,bothR x y) from if_pos h]
  refine VFun.enter (env_none (by decide)) Tryz.func44 rfl (by kernel_rfl) (by simp [Tryz.ntmps44]) ?_
  repeat' (first|apply VWp.assoc|apply VWp.rseq|apply VWp.retSeq|apply VOps.nil|apply VOps.one|(apply VVal.fn;rfl;rfl;exact hb;intro _;rfl)|(apply VVal.assign;rfl)|(apply VVal.move;rfl)|(apply VVal.int;rfl;rfl;rfl)|(apply VVal.load;rfl;rfl)|(apply VVal.box;rfl;trivial)|(apply VWp.condSeq_dec;rfl)|(intro _;try (exfalso;omega)))
  all_goals first|(exfalso;omega)|(refine Done.ret rfl (.refl _) (by first|exact trivial|exact ⟨trivial,trivial,trivial⟩|exact ⟨trivial,trivial,trivial,trivial⟩) HCov.nil (Nat.zero_le _) (Nat.le_refl _) ⟨?_,rfl,rfl⟩;try rfl)
end Go.Proofs.YtdabojnmoejilaaGreatDoor
namespace Go.Proofs.YtdabojnmoejilaaGreatDoor
open Go Go.Am Go.Vm
attribute [local irreducible] VVal VOps VOpsD VWp VCalls VFun VFunV QSeq QBlk QLoop Vm.Done DoneV DoneI
structure Rnk where
 name:List UInt8
 tone:List UInt8
 feet:Frac
 first:Int
 wind:List Int
instance:Enc Rnk:={ default:=⟨[],[],⟨0,0⟩,0,[]⟩,enc:=fun r=>[.str (bs r.name),.str (bs r.tone),.int .i64 r.feet.num,.int .i64 r.feet.den,.int .i64 r.first,.lst 3 (cells r.wind) r.wind.length],size:=6,len:=fun _=>rfl }
theorem PV.bool_eq {a b:Bool} (h:a=b):PV.p (.bool a)=PV.p (.bool b):=by rw [h]
def badW (x:Int):Prop:=x<0∨x>1000000
instance (x:Int):Decidable (badW x):=by unfold badW;infer_instance
theorem w1_spec (x:Int):VFun env 107 [.int .i64 x] (.p (.bool (decide (badW x)))):=by
 refine VFun.enter (env_none (by decide)) Tryz.func107 rfl (by kernel_rfl) (by simp [Tryz.ntmps107]) ?_
 repeat' (first|apply VWp.rseq|apply VWp.ret|apply VOps.nil|apply VOps.one|(apply VOps.take;rfl;rfl)|(apply VOps.drop;rfl;rfl;rfl)|(apply VOps.guard;rfl;rfl)|(apply VVal.assign;rfl)|(apply VVal.move;rfl)|(apply VVal.int;rfl;rfl;rfl)|(apply VVal.pick_true;rfl;rfl)|(apply VVal.pick_false;rfl;rfl)|(intro _;try (exfalso;omega)))
 all_goals (refine Done.ret rfl (.refl _) (by first|exact trivial|exact ⟨trivial,trivial,trivial⟩|exact ⟨trivial,trivial,trivial,trivial⟩) HCov.nil (Nat.zero_le _) (Nat.le_refl _) ⟨?_,rfl,rfl⟩;refine PV.bool_eq ?_;first|(refine decide_eq_decide.2 ⟨fun h=>by unfold badW;omega,fun h=>by unfold badW at h;omega⟩)|(symm;apply decide_eq_true;unfold badW;omega))
def okW (l:List Int):Prop:=∀ i,i<l.length→¬ badW (gi l i)
noncomputable instance (l:List Int):Decidable (okW l):=Classical.propDecidable _
noncomputable def windsE (l:List Int):Int:=if okW l then 0 else 3
theorem inl_CF {L:Vm.Frame} {H:Vm.Heap} {nx:Nat} {Q:PV→Vm.Heap→Nat→Prop} {dst:Option Tmp} {ty:TypeId} {pos:String} {af:Array Edge} {gd:Option (Nat×Bool)} {fo:Operand} {args:Array Operand} {aT:Array TypeId} {fs cs xs:List PV} {c:Code}
 (hf:vev env.Γ L fo=some (.clo 75 fs cs)) (ha:evs env.Γ L args.toList=some xs) (hb:Tryz.f75.body=some c) (hn:(fs++xs++cs).length≤Tryz.f75.ntmps)
 (h:VWp env nx c (argFrame 0 (fs++xs++cs)) H nx (DoneI env.P Tryz.f75.results.toList Q)):VVal env true ⟨dst,.call { callee:=.value fo,args:=args,argTypes:=aT },ty,pos,af,gd⟩ L H nx Q:=by
 have h0:(match Tryz.f75.body with|some c=>fnOk env.G Tryz.f75 c|none=>false)=true:=by kernel_rfl
 rw [hb] at h0
 exact VVal.inline rfl hf ha (env_none (by decide)) Tryz.func75 hb h0 hn h
theorem inl_IF {L:Vm.Frame} {H:Vm.Heap} {nx:Nat} {Q:PV→Vm.Heap→Nat→Prop} {dst:Option Tmp} {ty:TypeId} {pos:String} {af:Array Edge} {gd:Option (Nat×Bool)} {fo:Operand} {args:Array Operand} {aT:Array TypeId} {fs cs xs:List PV} {c:Code}
 (hf:vev env.Γ L fo=some (.clo 104 fs cs)) (ha:evs env.Γ L args.toList=some xs) (hb:Tryz.f104.body=some c) (hn:(fs++xs++cs).length≤Tryz.f104.ntmps)
 (h:VWp env nx c (argFrame 0 (fs++xs++cs)) H nx (DoneI env.P Tryz.f104.results.toList Q)):VVal env true ⟨dst,.call { callee:=.value fo,args:=args,argTypes:=aT },ty,pos,af,gd⟩ L H nx Q:=by
 have h0:(match Tryz.f104.body with|some c=>fnOk env.G Tryz.f104 c|none=>false)=true:=by kernel_rfl
 rw [hb] at h0
 exact VVal.inline rfl hf ha (env_none (by decide)) Tryz.func104 hb h0 hn h
theorem winds_spec (l:List Int) (hl:l.length<9223372036854775808):VFun env 88 [.lst 3 (cells l) l.length] (.p (.int .i64 (windsE l))):=by
 refine VFun.enter (env_none (by decide)) Tryz.func88 rfl (by kernel_rfl) (by simp [Tryz.ntmps88]) ?_
 repeat' (first|apply VWp.assoc|apply VWp.rseq|apply VWp.blockSeq|apply VOps.nil|apply VOps.one|(apply inl_CF;rfl;rfl;rfl;exact le_dec rfl)|(apply inl_IF;rfl;rfl;rfl;exact le_dec rfl)|(apply VVal.assign;rfl)|(apply VVal.move;rfl)|(apply VVal.lenF;rfl;rfl))
 refine VWp.loopQ (fun k:Nat=>[(0,lst 3 l),(1,.clo 107 [] []),(7,.p (.int .i64 (l.length:Int))),(8,.p (.int .i64 (k:Int)))]) (fun _=>[]) 0 (fun k=>k≤l.length∧∀ i,i<k→¬ badW (gi l i)) (fun k=>l.length-k) 0 (by omega) ⟨by omega,fun i hi=>by omega⟩ ⟨by omega,?_,?_⟩ ?_
 ·repeat (first|exact LCov.nil|refine LCov.same trivial rfl ?_|refine LCov.same (lt_dec rfl) rfl ?_|refine LCov.same ⟨trivial,lt_dec rfl,lt_dec rfl,lt_dec rfl,trivial⟩ rfl ?_|refine LCov.same ⟨trivial,lt_dec rfl,lt_dec rfl,trivial⟩ rfl ?_|refine LCov.same ⟨trivial,trivial⟩ rfl ?_|refine LCov.cons trivial rfl (.of_eq (lst_len (by simp<;>omega))) ?_)
 ·exact HCov.nil
 rintro k ⟨hk,hok⟩
 have hw:=w1_spec (gi l k)
 repeat' (first|apply VWp.assoc|apply VWp.rseq|apply VWp.region|apply VWp.skipSeq|apply VWp.retSeq|apply VWp.exitSeq|apply VWp.blockSeq|apply QSeq.normal|apply QSeq.ret|(apply DoneI.ret;rfl)|apply QBlk.normal|apply QBlk.ret|apply QBlk.exit|apply QLoop.ret|apply QLoop.exit|apply VWp.ret|apply VWp.skip|apply VOps.nil|apply VOps.one|(apply VVal.fn;rfl;rfl;exact hw;intro _;rfl)|(apply VVal.assign;rfl)|(apply VVal.move;rfl)|(apply VVal.add64;rfl;rfl;omega)|(apply VVal.int;rfl;rfl;rfl)|(apply VVal.indexN;rfl;rfl;rfl;omega;rfl)|(apply VVal.load;rfl;rfl)|(apply VWp.condSeq_true;rfl)|(apply VWp.condSeq_false;rfl)|(apply VWp.condSeq_dec;rfl)|(apply VWp.cond_dec;rfl)|(intro _;try (exfalso;omega)))
 ·rename_i a1 a2
  rw [show windsE l=3 from if_neg (fun h=>h k (by omega) a2)]
  (refine Done.ret rfl (.refl _) (by first|exact trivial|exact ⟨trivial,trivial,trivial⟩|exact ⟨trivial,trivial,trivial,trivial⟩) HCov.nil (Nat.zero_le _) (Nat.le_refl _) ⟨?_,rfl,rfl⟩;try rfl)
 ·rename_i a1 a2
  refine QLoop.normal ⟨k+1,⟨by omega,fun i hi=>?_⟩,by omega,⟨by omega,?_,?_⟩⟩
  ·rcases Nat.lt_or_ge i k with h|h
   ·exact hok i h
   ·obtain rfl:i=k:=by omega
    exact a2
  ·repeat (first|exact LCov.nil|refine LCov.same trivial rfl ?_|refine LCov.same (lt_dec rfl) rfl ?_|refine LCov.same ⟨trivial,lt_dec rfl,lt_dec rfl,lt_dec rfl,trivial⟩ rfl ?_|refine LCov.same ⟨trivial,lt_dec rfl,lt_dec rfl,trivial⟩ rfl ?_|refine LCov.same ⟨trivial,trivial⟩ rfl ?_|refine LCov.cons trivial rfl (.of_eq (lst_len (by simp<;>omega))) ?_)
  ·exact HCov.nil
 ·rename_i a1
  rw [show windsE l=0 from if_pos (fun i hi=>hok i (by omega))]
  (refine Done.ret rfl (.refl _) (by first|exact trivial|exact ⟨trivial,trivial,trivial⟩|exact ⟨trivial,trivial,trivial,trivial⟩) HCov.nil (Nat.zero_le _) (Nat.le_refl _) ⟨?_,rfl,rfl⟩;try rfl)
def isL (c:Nat):Prop:=(65≤c∧c≤90)∨(97≤c∧c≤122)
instance (c:Nat):Decidable (isL c):=by unfold isL;infer_instance
def nmC (c:Nat):Prop:=isL c∨(48≤c∧c≤57)∨c=95
theorem letter_spec (c:Nat) (hc:c<256):VFun env 85 [.int .u8 (c:Int)] (.p (.bool (decide (isL c)))):=by
 refine VFun.enter (env_none (by decide)) Tryz.func85 rfl (by kernel_rfl) (by simp [Tryz.ntmps85]) ?_
 repeat' (first|apply VWp.rseq|apply VWp.ret|apply VOps.nil|apply VOps.one|(apply VOps.take;rfl;rfl)|(apply VOps.drop;rfl;rfl;rfl)|(apply VOps.guard;rfl;rfl)|(apply VOps.dropU;rfl;rfl)|(apply VVal.assign;rfl)|(apply VVal.move;rfl)|(apply VVal.int;rfl;rfl;rfl)|(apply VVal.pick_true;rfl;rfl)|(apply VVal.pick_false;rfl;rfl)|(intro _;try (exfalso;omega)))
 all_goals (refine Done.ret rfl (.refl _) (by first|exact trivial|exact ⟨trivial,trivial,trivial⟩|exact ⟨trivial,trivial,trivial,trivial⟩) HCov.nil (Nat.zero_le _) (Nat.le_refl _) ⟨?_,rfl,rfl⟩;refine PV.bool_eq ?_;first|(refine decide_eq_decide.2 ⟨fun h=>by unfold isL;omega,fun h=>by unfold isL at h;omega⟩)|(symm;apply decide_eq_true;unfold isL;omega)|(symm;apply decide_eq_false;unfold isL;omega))
def nameOk (s:List UInt8):Prop:=0<s.length∧s.length≤32∧isL (gi s 0).toNat∧∀ i,1≤i→i<s.length→nmC (gi s i).toNat
noncomputable instance (s:List UInt8):Decidable (nameOk s):=Classical.propDecidable _
theorem isName_spec (s:List UInt8) (hs:s.length<9223372036854775808):VFun env 57 [.str (bs s)] (.p (.bool (decide (nameOk s)))):=by
 have hl0:=letter_spec (gi s 0).toNat (gi s 0).toNat_lt
 by_cases hz:s=[]
 ·subst hz
  rw [decide_eq_false (show ¬ nameOk [] from fun h=>absurd h.1 (by decide))]
  refine VFun.enter (env_none (by decide)) Tryz.func57 rfl (by kernel_rfl) (by simp [Tryz.ntmps57]) ?_
  repeat' (first|apply VWp.assoc|apply VWp.rseq|apply VWp.retSeq|apply VOps.nil|apply VOps.one|(apply VOps.drop;rfl;rfl;rfl)|(apply VVal.assign;rfl)|(apply VVal.move;rfl)|(apply VVal.pick_true;rfl;rfl)|(apply VVal.eqS;rfl;rfl)|(apply VWp.condSeq_true;rfl))
  all_goals first|(refine Done.ret rfl (.refl _) (by first|exact trivial|exact ⟨trivial,trivial,trivial⟩|exact ⟨trivial,trivial,trivial,trivial⟩) HCov.nil (Nat.zero_le _) (Nat.le_refl _) ⟨?_,rfl,rfl⟩;try rfl)|contradiction
 ·have hpos:0<s.length:=List.length_pos_iff.2 hz
  refine VFun.enter (env_none (by decide)) Tryz.func57 rfl (by kernel_rfl) (by simp [Tryz.ntmps57]) ?_
  by_cases h32:s.length≤32
  ·by_cases hL:isL (gi s 0).toNat
   ·rw [decide_eq_true hL] at hl0
    repeat' (first|apply VWp.assoc|apply VWp.rseq|apply VWp.skipSeq|apply VWp.retSeq|apply VWp.blockSeq|apply VOps.nil|apply VOps.one|(apply VOps.take;rfl;rfl)|(apply VOps.drop;rfl;rfl;rfl)|(apply VOps.guard;rfl;rfl)|(apply VVal.fn;rfl;rfl;exact hl0;intro _;rfl)|(apply VVal.indexStN (i:=0);rfl;rfl;rfl;omega)|(apply VVal.assign;rfl)|(apply VVal.move;rfl)|(apply VVal.int;rfl;rfl;rfl)|(apply VVal.pick_true;rfl;rfl)|(apply VVal.pick_false;rfl;rfl)|(apply VVal.lenSt;rfl;rfl)|(apply VVal.eqS;rfl;rfl)|(apply VVal.not;rfl)|(apply VWp.condSeq_true;rfl)|(apply VWp.condSeq_false;rfl)|(intro _;try (exfalso;omega)))
    all_goals try (exfalso;omega)
    all_goals try contradiction
    refine VWp.loopQ (fun k:Nat=>[(0,st s),(3,.p (.int .i64 (k:Int)))]) (fun _=>[]) 0 (fun k=>1≤k∧k≤s.length∧∀ i,1≤i→i<k→nmC (gi s i).toNat) (fun k=>s.length-k) 1 (by omega) ⟨by omega,by omega,fun i h1 h2=>by omega⟩ ⟨by omega,?_,?_⟩ ?_
    ·repeat (first|exact LCov.nil|refine LCov.same trivial rfl ?_|refine LCov.same (lt_dec rfl) rfl ?_|refine LCov.same ⟨trivial,lt_dec rfl,lt_dec rfl,lt_dec rfl,trivial⟩ rfl ?_|refine LCov.same ⟨trivial,lt_dec rfl,lt_dec rfl,trivial⟩ rfl ?_|refine LCov.same ⟨trivial,trivial⟩ rfl ?_|refine LCov.cons trivial rfl (.of_eq (lst_len (by simp<;>omega))) ?_)
    ·exact HCov.nil
    rintro k ⟨hk1,hk2,hok⟩
    have hlk:=letter_spec (gi s k).toNat (gi s k).toNat_lt
    have hc256:=(gi s k).toNat_lt
    have hnext:nmC (gi s k).toNat→∀ i,1≤i→i<k+1→nmC (gi s i).toNat:=fun h i h1 h2=>by
     rcases Nat.lt_or_ge i k with h3|h3
     ·exact hok i h1 h3
     ·obtain rfl:i=k:=by omega
      exact h
    have hbad:k<s.length→¬ nmC (gi s k).toNat→decide (nameOk s)=false:=fun h1 h2=>decide_eq_false fun h=>h2 (h.2.2.2 k hk1 h1)
    by_cases hkl:k<s.length
    ·by_cases hLk:isL (gi s k).toNat
     ·rw [decide_eq_true hLk] at hlk
      repeat' (first|apply VWp.assoc|apply VWp.rseq|apply VWp.region|apply VWp.skipSeq|apply VWp.blockSeq|apply QSeq.normal|apply QBlk.normal|apply VWp.skip|apply VOps.nil|apply VOps.one|(apply VOps.drop;rfl;rfl;rfl)|(apply VOps.dropU;rfl;rfl)|(apply VVal.fn;rfl;rfl;exact hlk;intro _;rfl)|(apply VVal.assign;rfl)|(apply VVal.move;rfl)|(apply VVal.add64;rfl;rfl;omega)|(apply VVal.int;rfl;rfl;rfl)|(apply VVal.pick_false;rfl;rfl)|(apply VVal.lenSt;rfl;rfl)|(apply VVal.indexStN;rfl;rfl;rfl;omega)|(apply VVal.not;rfl)|(apply VWp.condSeq_dec;rfl)|(apply VWp.cond_false;rfl)|(intro _;try (exfalso;omega)))
      all_goals try (exfalso;omega)
      refine QLoop.normal ⟨k+1,⟨by omega,by omega,hnext (.inl hLk)⟩,by omega,⟨by omega,?_,?_⟩⟩
      ·repeat (first|exact LCov.nil|refine LCov.same trivial rfl ?_|refine LCov.same (lt_dec rfl) rfl ?_|refine LCov.same ⟨trivial,lt_dec rfl,lt_dec rfl,lt_dec rfl,trivial⟩ rfl ?_|refine LCov.same ⟨trivial,lt_dec rfl,lt_dec rfl,trivial⟩ rfl ?_|refine LCov.same ⟨trivial,trivial⟩ rfl ?_|refine LCov.cons trivial rfl (.of_eq (lst_len (by simp<;>omega))) ?_)
      ·exact HCov.nil
     ·rw [decide_eq_false hLk] at hlk
      have hn1:nmC (gi s k).toNat↔(48≤(gi s k).toNat∧(gi s k).toNat≤57)∨(gi s k).toNat=95:=⟨fun h=>h.resolve_left hLk,fun h=>.inr h⟩
      repeat' (first|apply VWp.assoc|apply VWp.rseq|apply VWp.region|apply VWp.skipSeq|apply VWp.blockSeq|apply QSeq.normal|apply QSeq.ret|apply QBlk.normal|apply QBlk.ret|apply QLoop.ret|apply VWp.ret|apply VWp.skip|apply VOps.nil|apply VOps.one|(apply VOps.take;rfl;rfl)|(apply VOps.drop;rfl;rfl;rfl)|(apply VOps.guard;rfl;rfl)|(apply VVal.fn;rfl;rfl;exact hlk;intro _;rfl)|(apply VVal.assign;rfl)|(apply VVal.move;rfl)|(apply VVal.add64;rfl;rfl;omega)|(apply VVal.int;rfl;rfl;rfl)|(apply VVal.pick_true;rfl;rfl)|(apply VVal.pick_false;rfl;rfl)|(apply VVal.lenSt;rfl;rfl)|(apply VVal.indexStN;rfl;rfl;rfl;omega)|(apply VVal.not;rfl)|(apply VWp.condSeq_dec;rfl)|(apply VWp.cond_false;rfl)|(apply VWp.cond_dec;rfl)|(intro _;try (exfalso;omega)))
      all_goals try (exfalso;omega)
      all_goals first
       |(rw [hbad hkl (fun h=>by have:=hn1.1 h;omega)];(refine Done.ret rfl (.refl _) (by first|exact trivial|exact ⟨trivial,trivial,trivial⟩|exact ⟨trivial,trivial,trivial,trivial⟩) HCov.nil (Nat.zero_le _) (Nat.le_refl _) ⟨?_,rfl,rfl⟩;try rfl);done)
       |(refine QLoop.normal ⟨k+1,⟨by omega,by omega,hnext (hn1.2 (by omega))⟩,by omega,⟨by omega,?_,HCov.nil⟩⟩;repeat (first|exact LCov.nil|refine LCov.same trivial rfl ?_|refine LCov.same (lt_dec rfl) rfl ?_|refine LCov.same ⟨trivial,lt_dec rfl,lt_dec rfl,lt_dec rfl,trivial⟩ rfl ?_|refine LCov.same ⟨trivial,lt_dec rfl,lt_dec rfl,trivial⟩ rfl ?_|refine LCov.same ⟨trivial,trivial⟩ rfl ?_|refine LCov.cons trivial rfl (.of_eq (lst_len (by simp<;>omega))) ?_))
    ·obtain rfl:k=s.length:=by omega
     rw [decide_eq_true (show nameOk s from ⟨hpos,h32,hL,fun i h1 h2=>hok i h1 h2⟩)]
     repeat' (first|apply VWp.assoc|apply VWp.rseq|apply VWp.exitSeq|apply QSeq.normal|apply QBlk.exit|apply QLoop.exit|apply VWp.ret|apply VOps.nil|apply VOps.one|(apply VVal.assign;rfl)|(apply VVal.move;rfl)|(apply VVal.int;rfl;rfl;rfl)|(apply VVal.lenSt;rfl;rfl)|(apply VWp.condSeq_dec;rfl)|(intro _;try (exfalso;omega)))
     all_goals first|(exfalso;omega)|(refine Done.ret rfl (.refl _) (by first|exact trivial|exact ⟨trivial,trivial,trivial⟩|exact ⟨trivial,trivial,trivial,trivial⟩) HCov.nil (Nat.zero_le _) (Nat.le_refl _) ⟨?_,rfl,rfl⟩;try rfl)
   ·rw [decide_eq_false (show ¬ nameOk s from fun h=>hL h.2.2.1)]
    rw [decide_eq_false hL] at hl0
    repeat' (first|apply VWp.assoc|apply VWp.rseq|apply VWp.retSeq|apply VOps.nil|apply VOps.one|(apply VOps.take;rfl;rfl)|(apply VOps.drop;rfl;rfl;rfl)|(apply VOps.guard;rfl;rfl)|(apply VVal.fn;rfl;rfl;exact hl0;intro _;rfl)|(apply VVal.indexStN (i:=0);rfl;rfl;rfl;omega)|(apply VVal.assign;rfl)|(apply VVal.move;rfl)|(apply VVal.int;rfl;rfl;rfl)|(apply VVal.pick_true;rfl;rfl)|(apply VVal.pick_false;rfl;rfl)|(apply VVal.lenSt;rfl;rfl)|(apply VVal.eqS;rfl;rfl)|(apply VVal.not;rfl)|(apply VWp.condSeq_true;rfl)|(intro _;try (exfalso;omega)))
    all_goals first|(exfalso;omega)|contradiction|(refine Done.ret rfl (.refl _) (by first|exact trivial|exact ⟨trivial,trivial,trivial⟩|exact ⟨trivial,trivial,trivial,trivial⟩) HCov.nil (Nat.zero_le _) (Nat.le_refl _) ⟨?_,rfl,rfl⟩;try rfl)
  ·rw [decide_eq_false (show ¬ nameOk s from fun h=>h32 h.2.1)]
   repeat' (first|apply VWp.assoc|apply VWp.rseq|apply VWp.retSeq|apply VOps.nil|apply VOps.one|(apply VOps.take;rfl;rfl)|(apply VOps.drop;rfl;rfl;rfl)|(apply VOps.guard;rfl;rfl)|(apply VVal.assign;rfl)|(apply VVal.move;rfl)|(apply VVal.int;rfl;rfl;rfl)|(apply VVal.pick_true;rfl;rfl)|(apply VVal.pick_false;rfl;rfl)|(apply VVal.lenSt;rfl;rfl)|(apply VVal.eqS;rfl;rfl)|(apply VWp.condSeq_true;rfl)|(intro _;try (exfalso;omega)))
   all_goals first|(exfalso;omega)|contradiction|(refine Done.ret rfl (.refl _) (by first|exact trivial|exact ⟨trivial,trivial,trivial⟩|exact ⟨trivial,trivial,trivial,trivial⟩) HCov.nil (Nat.zero_le _) (Nat.le_refl _) ⟨?_,rfl,rfl⟩;try rfl)
noncomputable def rchk (r:Rnk):Int:=if ¬ nameOk r.name∨¬ nameOk r.tone then 8 else if pchk r.feet≠0 then pchk r.feet else if r.first< -256∨r.first>256 then 3 else if r.wind.length=0 then 13 else if r.wind.length>128 then 4 else windsE r.wind
def firOk (n:Int):Prop:=-256≤n∧n≤256
instance (n:Int):Decidable (firOk n):=by unfold firOk;infer_instance
theorem first_spec (n:Int):VFun env 87 [.int .i64 n] (.p (.bool (decide (firOk n)))):=by
 refine VFun.enter (env_none (by decide)) Tryz.func87 rfl (by kernel_rfl) (by simp [Tryz.ntmps87]) ?_
 repeat' (first|apply VWp.rseq|apply VWp.ret|apply VOps.nil|apply VOps.one|(apply VOps.take;rfl;rfl)|(apply VOps.drop;rfl;rfl;rfl)|(apply VOps.guard;rfl;rfl)|(apply VVal.assign;rfl)|(apply VVal.move;rfl)|(apply VVal.int;rfl;rfl;rfl)|(apply VVal.pick_true;rfl;rfl)|(apply VVal.pick_false;rfl;rfl)|(intro _;try (exfalso;omega)))
 all_goals (refine Done.ret rfl (.refl _) (by first|exact trivial|exact ⟨trivial,trivial,trivial⟩|exact ⟨trivial,trivial,trivial,trivial⟩) HCov.nil (Nat.zero_le _) (Nat.le_refl _) ⟨?_,rfl,rfl⟩;refine PV.bool_eq ?_;first|(refine decide_eq_decide.2 ⟨fun h=>by unfold firOk;omega,fun h=>by unfold firOk at h;omega⟩)|(symm;apply decide_eq_false;unfold firOk;omega))
theorem rcheck_spec (r:Rnk) (h1:r.name.length<9223372036854775808) (h2:r.tone.length<9223372036854775808) (h3:r.wind.length<9223372036854775808):VFun env 58 [.agg (Enc.enc r)] (.p (.int .i64 (rchk r))):=by
 have n1:=isName_spec r.name h1
 have n2:=isName_spec r.tone h2
 have p1:=pcheck_spec r.feet
 have f1:=first_spec r.first
 have w1:=winds_spec r.wind h3
 unfold rchk
 refine VFun.enter (env_none (by decide)) Tryz.func58 rfl (by kernel_rfl) (by simp [Tryz.ntmps58]) ?_
 by_cases a1:nameOk r.name
 ·rw [decide_eq_true a1] at n1
  by_cases a2:nameOk r.tone
  ·rw [decide_eq_true a2] at n2
   rw [if_neg (fun h=>h.elim (fun h=>h a1) (fun h=>h a2))]
   by_cases a3:firOk r.first
   ·rw [decide_eq_true a3] at f1
    unfold firOk at a3
    repeat' (first|apply VWp.assoc|apply VWp.rseq|apply VWp.skipSeq|apply VWp.retSeq|apply VWp.blockSeq|apply QSeq.normal|apply QSeq.ret|apply QBlk.normal|apply QBlk.ret|apply VWp.ret|apply VWp.skip|apply VOps.nil|apply VOps.one|(apply VOps.take;rfl;rfl)|(apply VVal.fn;rfl;rfl;exact n1;intro _;rfl)|(apply VVal.fn;rfl;rfl;exact n2;intro _;rfl)|(apply VVal.fn;rfl;rfl;exact p1;intro _;rfl)|(apply VVal.fn;rfl;rfl;exact f1;intro _;rfl)|(apply VVal.fn;rfl;rfl;exact w1;intro _;rfl)|(apply VVal.assign;rfl)|(apply VVal.move;rfl)|(apply VVal.int;rfl;rfl;rfl)|(apply VVal.load;rfl;rfl)|(apply VVal.pick_false;rfl;rfl)|(apply VVal.lenF;rfl;rfl)|(apply VVal.fieldB;rfl;rfl;rfl)|(apply VVal.box;rfl;trivial)|(apply VVal.not;rfl)|(apply VWp.condSeq_false;rfl)|(apply VWp.condSeq_dec;rfl)|(apply VWp.cond_false;rfl)|(apply VWp.cond_dec;rfl)|(intro _;try (exfalso;omega)))
    all_goals first
     |(rw [if_pos (by assumption)];(refine Done.ret rfl (.refl _) (by first|exact trivial|exact ⟨trivial,trivial,trivial⟩|exact ⟨trivial,trivial,trivial,trivial⟩) HCov.nil (Nat.zero_le _) (Nat.le_refl _) ⟨?_,rfl,rfl⟩;try rfl);done)
     |(rw [if_neg (by assumption),if_neg (by omega),if_pos (by omega)];(refine Done.ret rfl (.refl _) (by first|exact trivial|exact ⟨trivial,trivial,trivial⟩|exact ⟨trivial,trivial,trivial,trivial⟩) HCov.nil (Nat.zero_le _) (Nat.le_refl _) ⟨?_,rfl,rfl⟩;try rfl);done)
     |(rw [if_neg (by assumption),if_neg (by omega),if_neg (by omega),if_pos (by omega)];(refine Done.ret rfl (.refl _) (by first|exact trivial|exact ⟨trivial,trivial,trivial⟩|exact ⟨trivial,trivial,trivial,trivial⟩) HCov.nil (Nat.zero_le _) (Nat.le_refl _) ⟨?_,rfl,rfl⟩;try rfl);done)
     |(rw [if_neg (by assumption),if_neg (by omega),if_neg (by omega),if_neg (by omega)];(refine Done.ret rfl (.refl _) (by first|exact trivial|exact ⟨trivial,trivial,trivial⟩|exact ⟨trivial,trivial,trivial,trivial⟩) HCov.nil (Nat.zero_le _) (Nat.le_refl _) ⟨?_,rfl,rfl⟩;try rfl);done)
   ·rw [decide_eq_false a3] at f1
    unfold firOk at a3
    repeat' (first|apply VWp.assoc|apply VWp.rseq|apply VWp.skipSeq|apply VWp.retSeq|apply VWp.blockSeq|apply QSeq.ret|apply QBlk.ret|apply VWp.ret|apply VOps.nil|apply VOps.one|(apply VOps.take;rfl;rfl)|(apply VVal.fn;rfl;rfl;exact n1;intro _;rfl)|(apply VVal.fn;rfl;rfl;exact n2;intro _;rfl)|(apply VVal.fn;rfl;rfl;exact p1;intro _;rfl)|(apply VVal.fn;rfl;rfl;exact f1;intro _;rfl)|(apply VVal.assign;rfl)|(apply VVal.move;rfl)|(apply VVal.int;rfl;rfl;rfl)|(apply VVal.load;rfl;rfl)|(apply VVal.pick_false;rfl;rfl)|(apply VVal.fieldB;rfl;rfl;rfl)|(apply VVal.box;rfl;trivial)|(apply VVal.not;rfl)|(apply VWp.condSeq_false;rfl)|(apply VWp.condSeq_dec;rfl)|(apply VWp.cond_true;rfl)|(intro _;try (exfalso;omega)))
    all_goals first
     |(rw [if_pos (by assumption)];(refine Done.ret rfl (.refl _) (by first|exact trivial|exact ⟨trivial,trivial,trivial⟩|exact ⟨trivial,trivial,trivial,trivial⟩) HCov.nil (Nat.zero_le _) (Nat.le_refl _) ⟨?_,rfl,rfl⟩;try rfl);done)
     |(rw [if_neg (by assumption),if_pos (by omega)];(refine Done.ret rfl (.refl _) (by first|exact trivial|exact ⟨trivial,trivial,trivial⟩|exact ⟨trivial,trivial,trivial,trivial⟩) HCov.nil (Nat.zero_le _) (Nat.le_refl _) ⟨?_,rfl,rfl⟩;try rfl);done)
  ·rw [decide_eq_false a2] at n2
   rw [if_pos (.inr a2)]
   repeat' (first|apply VWp.assoc|apply VWp.rseq|apply VWp.retSeq|apply VOps.nil|apply VOps.one|(apply VOps.take;rfl;rfl)|(apply VVal.fn;rfl;rfl;exact n1;intro _;rfl)|(apply VVal.fn;rfl;rfl;exact n2;intro _;rfl)|(apply VVal.assign;rfl)|(apply VVal.move;rfl)|(apply VVal.load;rfl;rfl)|(apply VVal.pick_false;rfl;rfl)|(apply VVal.fieldB;rfl;rfl;rfl)|(apply VVal.box;rfl;trivial)|(apply VVal.not;rfl)|(apply VWp.condSeq_true;rfl))
   all_goals (refine Done.ret rfl (.refl _) (by first|exact trivial|exact ⟨trivial,trivial,trivial⟩|exact ⟨trivial,trivial,trivial,trivial⟩) HCov.nil (Nat.zero_le _) (Nat.le_refl _) ⟨?_,rfl,rfl⟩;try rfl)
 ·rw [decide_eq_false a1] at n1
  rw [if_pos (.inl a1)]
  repeat' (first|apply VWp.assoc|apply VWp.rseq|apply VWp.retSeq|apply VOps.nil|apply VOps.one|(apply VOps.drop;rfl;rfl;rfl)|(apply VVal.fn;rfl;rfl;exact n1;intro _;rfl)|(apply VVal.assign;rfl)|(apply VVal.move;rfl)|(apply VVal.load;rfl;rfl)|(apply VVal.pick_true;rfl;rfl)|(apply VVal.fieldB;rfl;rfl;rfl)|(apply VVal.box;rfl;trivial)|(apply VVal.not;rfl)|(apply VWp.condSeq_true;rfl))
  all_goals (refine Done.ret rfl (.refl _) (by first|exact trivial|exact ⟨trivial,trivial,trivial⟩|exact ⟨trivial,trivial,trivial,trivial⟩) HCov.nil (Nat.zero_le _) (Nat.le_refl _) ⟨?_,rfl,rfl⟩;try rfl)
end Go.Proofs.YtdabojnmoejilaaGreatDoor
namespace Go.Proofs.YtdabojnmoejilaaGreatDoor
open Go Go.Am Go.Vm
structure Drw where
 rank:Int
 shift:Int
instance:Enc Drw:={ default:=⟨0,0⟩,enc:=fun x=>[.int .i64 x.rank,.int .i64 x.shift],size:=2,len:=fun _=>rfl }
structure Seg where
 lo:Int
 hi:Int
 draws:List Drw
instance:Enc Seg:={ default:=⟨0,0,[]⟩,enc:=fun x=>[.int .i64 x.lo,.int .i64 x.hi,.lst 133 (cells x.draws) x.draws.length],size:=3,len:=fun _=>rfl }
structure Stp where
 name:List UInt8
 feet:Frac
 segs:List Seg
instance:Enc Stp:={ default:=⟨[],⟨0,0⟩,[]⟩,enc:=fun x=>[.str (bs x.name),.int .i64 x.feet.num,.int .i64 x.feet.den,.lst 136 (cells x.segs) x.segs.length],size:=4,len:=fun _=>rfl }
structure Dvs where
 name:List UInt8
 pedal:Bool
 lo:Int
 hi:Int
 stops:List Stp
instance:Enc Dvs:={ default:=⟨[],false,0,0,[]⟩,enc:=fun x=>[.str (bs x.name),.bool x.pedal,.int .i64 x.lo,.int .i64 x.hi,.lst 122 (cells x.stops) x.stops.length],size:=5,len:=fun _=>rfl }
structure Cpl where
 name:List UInt8
 frm:Int
 tgt:Int
 shift:Int
 through:Bool
instance:Enc Cpl:={ default:=⟨[],0,0,0,false⟩,enc:=fun x=>[.str (bs x.name),.int .i64 x.frm,.int .i64 x.tgt,.int .i64 x.shift,.bool x.through],size:=5,len:=fun _=>rfl }
structure Org where
 name:List UInt8
 ranks:List Rnk
 divs:List Dvs
 cpls:List Cpl
instance:Enc Org:={ default:=⟨[],[],[],[]⟩,enc:=fun x=>[.str (bs x.name),.lst 131 (cells x.ranks) x.ranks.length,.lst 97 (cells x.divs) x.divs.length,.lst 147 (cells x.cpls) x.cpls.length],size:=4,len:=fun _=>rfl }
structure Cps where
 lo:Int
 hi:Int
instance:Enc Cps:={ default:=⟨0,0⟩,enc:=fun x=>[.int .i64 x.lo,.int .i64 x.hi],size:=2,len:=fun _=>rfl }
noncomputable instance (a b:Drw):Decidable (a=b):=Classical.propDecidable _
noncomputable instance (a:Drw) (l:List Drw):Decidable (a∈l):=Classical.propDecidable _
noncomputable instance (a:List UInt8) (l:List (List UInt8)):Decidable (a∈l):=Classical.propDecidable _
def cmpE (lo hi:Int):Int:=if lo<0∨hi>127 then 3 else if lo>hi then 23 else 0
noncomputable def drwsE (n:Nat) (l:List Drw) (k:Nat):Int :=
 if k<l.length then
  if (gi l k).rank<0∨(gi l k).rank≥n then 10 else if (gi l k).shift< -127∨(gi l k).shift>127 then 3 else if gi l k∈l.take k then 9 else drwsE n l (k+1)
 else 0
termination_by l.length-k
noncomputable def drwE (n:Nat) (l:List Drw):Int:=if l.length>8 then 4 else drwsE n l 0
noncomputable def segsE (n:Nat) (lo hi:Int) (l:List Seg) (k:Nat):Int :=
 if k<l.length then
  if min (gi l k).lo (gi l k).hi<lo∨max (gi l k).lo (gi l k).hi>hi then 23 else if (gi l k).lo>(gi l k).hi∨0<k∧(gi l k).lo≤(gi l (k-1)).hi then 6
  else if drwE n (gi l k).draws≠0 then drwE n (gi l k).draws else segsE n lo hi l (k+1)
 else 0
termination_by l.length-k
noncomputable def stpE (n:Nat) (lo hi:Int) (s:Stp):Int :=
 if ¬ nameOk s.name then 8 else if pchk s.feet≠0 then pchk s.feet else if s.segs.length=0 then 13 else if s.segs.length>12 then 4 else segsE n lo hi s.segs 0
noncomputable def rksE (l:List Rnk) (k:Nat):Int :=
 if k<l.length then if rchk (gi l k)≠0 then rchk (gi l k) else rksE l (k+1) else 0
termination_by l.length-k
noncomputable def plcE (l:List Rnk) (lo hi:Int):Int:=if l.length>60 then 4 else if rksE l 0≠0 then rksE l 0 else cmpE lo hi
noncomputable def stoE (rk:List Rnk) (lo hi:Int) (s:Stp):Int:=if plcE rk lo hi≠0 then plcE rk lo hi else stpE rk.length lo hi s
noncomputable def rnkE (l:List Rnk) (k:Nat):Int :=
 if k<l.length then if rchk (gi l k)≠0 then rchk (gi l k) else if (gi l k).name∈(l.take k).map Rnk.name then 9 else rnkE l (k+1) else 0
termination_by l.length-k
noncomputable def stosE (rk:List Rnk) (lo hi:Int) (l:List Stp) (k:Nat):Int :=
 if k<l.length then if stoE rk lo hi (gi l k)≠0 then stoE rk lo hi (gi l k) else if (gi l k).name∈(l.take k).map Stp.name then 9 else stosE rk lo hi l (k+1) else 0
termination_by l.length-k
noncomputable def dvsE (rk:List Rnk) (d:Dvs):Int:=if cmpE d.lo d.hi≠0 then cmpE d.lo d.hi else if d.stops.length>60 then 4 else stosE rk d.lo d.hi d.stops 0
noncomputable def divsE (rk:List Rnk) (l:List Dvs) (k:Nat):Int :=
 if k<l.length then if ¬ nameOk (gi l k).name then 8 else if (gi l k).name∈(l.take k).map Dvs.name then 9 else if dvsE rk (gi l k)≠0 then dvsE rk (gi l k) else divsE rk l (k+1) else 0
termination_by l.length-k
noncomputable def cplsE (n:Nat) (l:List Cpl) (k:Nat):Int :=
 if k<l.length then
  if ¬ nameOk (gi l k).name then 8 else if (gi l k).name∈(l.take k).map Cpl.name then 9
  else if (gi l k).frm<0∨(gi l k).frm≥n∨(gi l k).tgt<0∨(gi l k).tgt≥n then 10
  else if (gi l k).shift< -127∨(gi l k).shift>127 then 3 else if (gi l k).frm=(gi l k).tgt∧(gi l k).shift=0 then 7 else cplsE n l (k+1)
 else 0
termination_by l.length-k
noncomputable def cpsE (l:List Cps) (k:Nat):Int:=if k<l.length then if cmpE (gi l k).lo (gi l k).hi≠0 then 23 else cpsE l (k+1) else 0
termination_by l.length-k
noncomputable def cplE (ks:List Cps) (l:List Cpl):Int:=if ks.length>8∨l.length>40 then 4 else if cpsE ks 0≠0 then cpsE ks 0 else cplsE ks.length l 0
noncomputable def orgE (o:Org):Int :=
 if ¬ nameOk o.name then 8 else if o.ranks.length>60 then 4 else if rnkE o.ranks 0≠0 then rnkE o.ranks 0 else if o.divs.length=0 then 13 else if o.divs.length>8 then 4
 else if divsE o.ranks o.divs 0≠0 then divsE o.ranks o.divs 0 else cplE (o.divs.map fun d=>⟨d.lo,d.hi⟩) o.cpls
structure SegSm (x:Seg):Prop where
 draws:x.draws.length<1000000
structure StpSm (x:Stp):Prop where
 name:x.name.length<1000000
 segs:x.segs.length<1000000
 all:∀ i,i<x.segs.length→SegSm (gi x.segs i)
structure DvsSm (x:Dvs):Prop where
 name:x.name.length<1000000
 stops:x.stops.length<1000000
 all:∀ i,i<x.stops.length→StpSm (gi x.stops i)
structure RnkSm (r:Rnk):Prop where
 name:r.name.length<1000000
 tone:r.tone.length<1000000
 wind:r.wind.length<1000000
structure OrgSm (o:Org):Prop where
 name:o.name.length<1000000
 ranks:o.ranks.length<1000000
 divs:o.divs.length<1000000
 cpls:o.cpls.length<1000000
 rk:∀ i,i<o.ranks.length→RnkSm (gi o.ranks i)
 dv:∀ i,i<o.divs.length→DvsSm (gi o.divs i)
 cp:∀ i,i<o.cpls.length→(gi o.cpls i).name.length<1000000
theorem RnkSm.len {r:Rnk} (h:RnkSm r):r.name.length<9223372036854775808∧r.tone.length<9223372036854775808∧r.wind.length<9223372036854775808:=⟨by have:=h.name;omega,by have:=h.tone;omega,by have:=h.wind;omega⟩
end Go.Proofs.YtdabojnmoejilaaGreatDoor
namespace Go.Proofs.YtdabojnmoejilaaGreatDoor
open Go Go.Am Go.Vm
theorem rksE_zero {l:List Rnk} (h:∀ i,i<l.length→rchk (gi l i)=0):∀ n k,l.length-k=n→rksE l k=0
 |0,k,hk=>by rw [rksE,if_neg (by omega)]
 |n+1,k,hk=>by
  rw [rksE,if_pos (by omega),if_neg (fun h'=>h' (h k (by omega)))]
  exact rksE_zero h n (k+1) (by omega)
theorem rnkE_zero {l:List Rnk} (h:∀ i,i<l.length→rchk (gi l i)=0∧(gi l i).name∉(l.take i).map Rnk.name):∀ n k,l.length-k=n→rnkE l k=0
 |0,k,hk=>by rw [rnkE,if_neg (by omega)]
 |n+1,k,hk=>by
  obtain ⟨h1,h2⟩:=h k (by omega)
  rw [rnkE,if_pos (by omega),if_neg (fun h'=>h' h1),if_neg h2]
  exact rnkE_zero h n (k+1) (by omega)
theorem stosE_zero {rk:List Rnk} {lo hi:Int} {l:List Stp} (h:∀ i,i<l.length→stoE rk lo hi (gi l i)=0∧(gi l i).name∉(l.take i).map Stp.name):∀ n k,l.length-k=n→stosE rk lo hi l k=0
 |0,k,hk=>by rw [stosE,if_neg (by omega)]
 |n+1,k,hk=>by
  obtain ⟨h1,h2⟩:=h k (by omega)
  rw [stosE,if_pos (by omega),if_neg (fun h'=>h' h1),if_neg h2]
  exact stosE_zero h n (k+1) (by omega)
theorem divsE_zero {rk:List Rnk} {l:List Dvs} (h:∀ i,i<l.length→nameOk (gi l i).name∧(gi l i).name∉(l.take i).map Dvs.name∧dvsE rk (gi l i)=0):∀ n k,l.length-k=n→divsE rk l k=0
 |0,k,hk=>by rw [divsE,if_neg (by omega)]
 |n+1,k,hk=>by
  obtain ⟨h1,h2,h3⟩:=h k (by omega)
  rw [divsE,if_pos (by omega),if_neg (fun h'=>h' h1),if_neg h2,if_neg (fun h'=>h' h3)]
  exact divsE_zero h n (k+1) (by omega)
theorem cpsE_zero {l:List Cps} (h:∀ i,i<l.length→cmpE (gi l i).lo (gi l i).hi=0):∀ n k,l.length-k=n→cpsE l k=0
 |0,k,hk=>by rw [cpsE,if_neg (by omega)]
 |n+1,k,hk=>by
  rw [cpsE,if_pos (by omega),if_neg (fun h'=>h' (h k (by omega)))]
  exact cpsE_zero h n (k+1) (by omega)
structure CplOk (n:Nat) (c:Cpl):Prop where
 name:nameOk c.name
 frm:0≤c.frm∧c.frm<n
 tgt:0≤c.tgt∧c.tgt<n
 shift:-127≤c.shift∧c.shift≤127
 form:¬ (c.frm=c.tgt∧c.shift=0)
structure DrwOk (n:Nat) (d:Drw):Prop where
 rank:0≤d.rank∧d.rank<n
 shift:-127≤d.shift∧d.shift≤127
theorem drwsE_zero {m:Nat} {l:List Drw} (h:∀ i,i<l.length→DrwOk m (gi l i)∧gi l i∉l.take i):∀ n k,l.length-k=n→drwsE m l k=0
 |0,k,hk=>by rw [drwsE,if_neg (by omega)]
 |n+1,k,hk=>by
  obtain ⟨⟨h1,h2⟩,h3⟩:=h k (by omega)
  rw [drwsE,if_pos (by omega),if_neg (by omega),if_neg (by omega),if_neg h3]
  exact drwsE_zero h n (k+1) (by omega)
theorem drwE_one {m:Nat} {d:Drw} (h:DrwOk m d):drwE m [d]=0:=by
 unfold drwE
 rw [if_neg (by simp)]
 exact drwsE_zero (fun i hi=>by
  obtain rfl:i=0:=by simp at hi;omega
  exact ⟨h,by simp⟩) _ 0 rfl
theorem cmpE_zero {lo hi:Int} (h:0≤lo∧lo≤hi∧hi≤127):cmpE lo hi=0:=by
 unfold cmpE
 rw [if_neg (by omega),if_neg (by omega)]
theorem plcE_zero {l:List Rnk} {lo hi:Int} (h:∀ i,i<l.length→rchk (gi l i)=0) (hl:l.length≤60) (hc:0≤lo∧lo≤hi∧hi≤127):plcE l lo hi=0:=by
 unfold plcE
 rw [if_neg (by omega),if_neg (fun h'=>h' (rksE_zero h _ 0 rfl)),cmpE_zero hc]
structure SegOk (n:Nat) (lo hi:Int) (g:Seg):Prop where
 pl:lo≤g.lo∧g.lo≤g.hi∧g.hi≤hi
 draws:drwE n g.draws=0
theorem segsE_zero {m:Nat} {lo hi:Int} {l:List Seg} (h:∀ i,i<l.length→SegOk m lo hi (gi l i)∧(0<i→(gi l (i-1)).hi<(gi l i).lo)):∀ n k,l.length-k=n→segsE m lo hi l k=0
 |0,k,hk=>by rw [segsE,if_neg (by omega)]
 |n+1,k,hk=>by
  obtain ⟨⟨h1,h2⟩,h3⟩:=h k (by omega)
  rw [segsE,if_pos (by omega),if_neg (by omega),if_neg (fun h'=>by
   rcases h' with h'|⟨h4,h5⟩
   ·omega
   ·have:=h3 h4;omega),if_neg (fun h'=>h' h2)]
  exact segsE_zero h n (k+1) (by omega)
theorem segsE_one {n:Nat} {lo hi:Int} {s:Seg} (h1:lo≤s.lo∧s.lo≤s.hi∧s.hi≤hi) (h2:drwE n s.draws=0):segsE n lo hi [s] 0=0 :=
 segsE_zero (fun i hi=>by
  obtain rfl:i=0:=by simp at hi;omega
  exact ⟨⟨h1,h2⟩,fun h=>by omega⟩) _ 0 rfl
def nmI (c:UInt8) (i:Int):List UInt8:=[c,UInt8.ofNat (48+i).toNat]
theorem nmI_inj {c:UInt8} {i j:Nat} (hi:i<10) (hj:j<10) (h:nmI c i=nmI c j):i=j:=by
 simp only [nmI,List.cons.injEq,and_true,true_and] at h
 have:=congrArg UInt8.toNat h
 rw [UInt8.toNat_ofNat',UInt8.toNat_ofNat'] at this
 omega
theorem nmI_ok {c:UInt8} (hc:isL c.toNat) {i:Nat} (hi:i<10):nameOk (nmI c i):=by
 refine ⟨by simp [nmI],by simp [nmI],hc,fun j h1 h2=>?_⟩
 obtain rfl:j=1:=by simp [nmI] at h2;omega
 have e:(gi (nmI c i) 1).toNat=48+i:=by
  show (UInt8.ofNat (48+(i:Int)).toNat).toNat=_
  rw [UInt8.toNat_ofNat'];omega
 rw [e]
 right;left;omega
theorem nm_new {α:Type} [Inhabited α] {f:α→List UInt8} {c:UInt8} {l:List α} (hl:l.length≤10) (h:∀ i,i<l.length→f (gi l i)=nmI c i) {k:Nat} (hk:k<l.length):f (gi l k)∉(l.take k).map f:=by
 intro hm
 rw [List.mem_map] at hm
 obtain ⟨a,ha,he⟩:=hm
 obtain ⟨j,hj,e⟩:=List.getElem_of_mem ha
 rw [List.length_take] at hj
 have e2:a=gi l j:=by
  rw [← e,List.getElem_take]
  simp [gi,List.getElem?_eq_getElem (show j<l.length by omega)]
 rw [e2,h j (by omega),h k hk] at he
 have:=nmI_inj (by omega) (by omega) he
 omega
end Go.Proofs.YtdabojnmoejilaaGreatDoor
namespace Go.Proofs.YtdabojnmoejilaaGreatDoor
open Go Go.Am Go.Vm
attribute [local irreducible] VVal VOps VOpsD VWp VCalls VFun VFunV QSeq QBlk QLoop Vm.Done DoneV DoneI VUn
theorem concat2_spec (a b:List Int) (h0:0<a.length+b.length) (h1:a.length+b.length≤1000) :
 VFunV env 102 [.lst 52 [.lst 3 (cells a) a.length,.lst 3 (cells b) b.length] 2] 3 (cells (a++b)) (a.length+b.length) false:=by
 have hg:=grow_fun (a.length+b.length) h0 (by omega)
 rw [show ((a.length+b.length:Nat):Int)=0+(a.length:Int)+(b.length:Int) by omega] at hg
 refine VFunV.enter (env_none (by decide)) Tryz.func102 rfl (by kernel_rfl) (by simp [Tryz.ntmps102]) ?_
 repeat' (first|apply VWp.assoc|apply VWp.rseq|apply VWp.blockSeq|apply VOps.nil|apply VOps.one|(apply VVal.assign;rfl)|(apply VVal.move;rfl)|(apply VVal.lenF;rfl;rfl))
 refine VWp.loopN 2 ?_
 repeat' (first|apply VWp.assoc|apply VWp.rseq|apply VWp.region|apply VWp.skipSeq|apply VWp.exitSeq|apply VWp.blockSeq|apply QSeq.normal|apply QBlk.normal|apply QBlk.exit|apply QLoop.exit|apply VWp.skip|apply VOps.nil|apply VOps.one|(apply VVal.fv;rfl;rfl;exact hg)|(apply VUn.zero)|(apply VUn.succ)|(apply QLoop.again)|(apply VVal.indexF;rfl;rfl;rfl;decide;decide)|(apply VVal.assign;rfl)|(apply VVal.move;rfl)|(apply VVal.add64;rfl;rfl;omega)|(apply VVal.int;rfl;rfl;rfl)|(apply VVal.load;rfl;rfl)|(apply VVal.lenF;rfl;rfl)|(apply VWp.condSeq_true;rfl)|(apply VWp.condSeq_false;rfl)|(apply VWp.cond_false;rfl))
 refine VWp.loopN 2 ?_
 repeat' (first|apply VWp.rseq|apply VWp.region|apply VWp.skipSeq|apply VWp.exitSeq|apply VWp.blockSeq|apply QSeq.normal|apply QBlk.normal|apply QBlk.exit|apply QLoop.exit|apply VWp.ret|apply VOps.nil|apply VOps.one|(apply VUn.zero)|(apply VUn.succ)|(apply QLoop.again)|(apply VVal.indexF;rfl;rfl;rfl;decide;decide)|(apply VVal.appendL (l:=a) (r:=b);rfl;rfl;rfl;rfl;rfl;rfl;rfl;(intro _ h;cases h);rfl;rfl;rfl;decide;decide;omega)|(apply VVal.appendL0 (r:=a);rfl;rfl;rfl;rfl;rfl;rfl;(intro _ h;cases h);rfl;rfl;rfl;decide;decide;omega)|(apply VVal.assign;rfl)|(apply VVal.move;rfl)|(apply VVal.add64;rfl;rfl;omega)|(apply VVal.int;rfl;rfl;rfl)|(apply VVal.load;rfl;rfl)|(apply VWp.condSeq_true;rfl)|(apply VWp.condSeq_false;rfl))
 exact DoneV.ret rfl rfl rfl rfl
end Go.Proofs.YtdabojnmoejilaaGreatDoor
namespace Go.Proofs.YtdabojnmoejilaaGreatDoor
open Go Go.Am Go.Vm
attribute [local irreducible] VVal VOps VOpsD VWp VCalls VFun VFunV QSeq QBlk QLoop Vm.Done DoneV DoneI
attribute [local irreducible] rchk windsE shz shiftR
def rLen (r:Rnk):Prop:=r.name.length<9223372036854775808∧r.tone.length<9223372036854775808∧r.wind.length<9223372036854775808
noncomputable def pipE (r:Rnk) (n:Int):Int:=if rchk r≠0 then rchk r else if n<0∨n≥r.wind.length then 10 else 0
def zeroF:FV:=.agg [.str ⟨#[]⟩,.str ⟨#[]⟩,.int .i64 0,.int .i64 0,.int .i64 0,.val (.slice none 0 0)]
def rebR (r:Rnk) (n:Int) (w:List Int):FV×Int:=if w.length>128 then (zeroF,4) else if ¬ firOk n then (zeroF,3) else (.agg (Enc.enc { r with first:=n,wind:=w }),0)
noncomputable def sndR (r:Rnk) (k:Int):Int×Bool×Int:=if pipE r k≠0 then (0,false,pipE r k) else if (shiftR r.feet ⟨8,1⟩).2≠0∨r.first+k+(shiftR r.feet ⟨8,1⟩).1<0∨r.first+k+(shiftR r.feet ⟨8,1⟩).1>127 then (0,false,(shiftR r.feet ⟨8,1⟩).2) else (r.first+k+(shiftR r.feet ⟨8,1⟩).1,true,0)
end Go.Proofs.YtdabojnmoejilaaGreatDoor
namespace Go.Proofs.YtdabojnmoejilaaGreatDoor
open Go Go.Am Go.Vm
attribute [local irreducible] VVal VOps VOpsD VWp VCalls VFun VFunV QSeq QBlk QLoop Vm.Done DoneV DoneI
attribute [local irreducible] rchk windsE shz shiftR
noncomputable def numR (r:Rnk) (n:Int):Int×Bool×Int:=if rchk r≠0 then (0,false,rchk r) else if n<r.first∨n≥r.first+r.wind.length then (0,false,0) else (n-r.first,true,0)
noncomputable def belR (r:Rnk) (w:List Int):FV×Int:=if rchk r≠0 then (zeroF,rchk r) else if windsE w≠0 then (zeroF,windsE w) else rebR r (r.first-w.length) (w++r.wind)
noncomputable def repR (r:Rnk) (f:Frac):FV×Int:=if rchk r≠0 then (zeroF,rchk r) else if (shiftR f r.feet).2≠0 then (zeroF,(shiftR f r.feet).2) else if firOk (r.first-(shiftR f r.feet).1) then (.agg (Enc.enc { r with first:=r.first-(shiftR f r.feet).1,feet:=f }),0) else (zeroF,3)
end Go.Proofs.YtdabojnmoejilaaGreatDoor
namespace Go.Proofs.YtdabojnmoejilaaGreatDoor
open Go Go.Am Go.Vm
attribute [local irreducible] VVal VOps VOpsD VWp VCalls VFun VFunV QSeq QBlk QLoop Vm.Done DoneV DoneI
attribute [local irreducible] rchk windsE shz shiftR pipE
noncomputable def notR (r:Rnk) (n:Int):Int×Int:=if pipE r n≠0 then (0,pipE r n) else (r.first+n,0)
noncomputable def wndR (r:Rnk) (n:Int):Int×Int:=if pipE r n≠0 then (0,pipE r n) else (gi r.wind n.toNat,0)
noncomputable def aboR (r:Rnk) (w:List Int):FV×Int:=if rchk r≠0 then (zeroF,rchk r) else if windsE w≠0 then (zeroF,windsE w) else rebR r r.first (r.wind++w)
end Go.Proofs.YtdabojnmoejilaaGreatDoor
namespace Go.Proofs.YtdabojnmoejilaaGreatDoor
open Go Go.Am Go.Vm
attribute [local irreducible] VVal VOps VOpsD VWp VCalls VFun VFunV QSeq QBlk QLoop Vm.Done DoneV DoneI
attribute [local irreducible] rchk windsE shz shiftR pipE
def sumK (l:List Int):Nat→Int
 |0=>0
 |k+1=>sumK l k+gi l k
noncomputable def totR (r:Rnk):Int×Int:=if rchk r≠0 then (0,rchk r) else (sumK r.wind r.wind.length,0)
def feetL:List Frac:=[⟨8,1⟩,⟨4,1⟩,⟨16,1⟩,⟨2,1⟩,⟨8,3⟩,⟨8,5⟩,⟨4,3⟩,⟨1,1⟩,⟨32,1⟩,⟨16,3⟩,⟨16,5⟩,⟨32,3⟩,⟨8,7⟩,⟨2,3⟩,⟨1,2⟩,⟨64,1⟩]
end Go.Proofs.YtdabojnmoejilaaGreatDoor
namespace Go.Proofs.YtdabojnmoejilaaGreatDoor
open Go Go.Am Go.Vm
attribute [local irreducible] VVal VOps VOpsD VWp VCalls VFun VFunV QSeq QBlk QLoop Vm.Done DoneV DoneI
def rowR (f first:Int) (n:Nat):Rnk:=⟨[82,111,119],[79,112,101,110],⟨f,1⟩,first,List.replicate n 1⟩
def belowR:Rnk:=⟨[82,111,119],[79,112,101,110],⟨8,1⟩,24,List.replicate 12 0++List.replicate 61 1⟩
attribute [local irreducible] rchk windsE shz shiftR pipE numR sndR belR repR
end Go.Proofs.YtdabojnmoejilaaGreatDoor
namespace Go.Proofs.YtdabojnmoejilaaGreatDoor
open Go Go.Am Go.Vm
attribute [local irreducible] VVal VOps VOpsD VWp VCalls VFun VFunV QSeq QBlk QLoop Vm.Done DoneV DoneI
instance encStr:Enc (List UInt8):={ default:=[],enc:=fun s=>[.str (bs s)],size:=1,len:=fun _=>rfl }
structure RPlan where
 tone:Nat
 feet:Nat
 first:Int
 pipes:Nat
 wind:List Nat
def RPlan.enc (x:RPlan):List FV:=[.int .u8 (x.tone:Int),.int .u8 (x.feet:Int),.int .i8 x.first,.int .u8 (x.pipes:Int),.int .u8 ((gi x.wind 0:Nat):Int),.int .u8 ((gi x.wind 1:Nat):Int),.int .u8 ((gi x.wind 2:Nat):Int),.int .u8 ((gi x.wind 3:Nat):Int),.int .u8 ((gi x.wind 4:Nat):Int)]
structure RPlan.Ok (x:RPlan):Prop where
 tone:x.tone<256
 feet:x.feet<256
 first:-128≤x.first∧x.first≤127
 pipes:x.pipes<256
 wind:∀ i,gi x.wind i<256
def tones:List (List UInt8):=[[79,112,101,110],[70,108,117,116,101],[82,101,101,100]]
def windK (x:RPlan):Nat→List Int
 |0=>[]
 |k+1=>windK x k++[((gi x.wind (k % 5):Nat):Int)]
def mkR (x:RPlan) (i:Int):Rnk:=⟨[82,UInt8.ofNat (48+i % 10).toNat],gi tones (x.tone % 3),gi feetL (x.feet % 16),x.first,windK x (1+x.pipes % 25)⟩
end Go.Proofs.YtdabojnmoejilaaGreatDoor
namespace Go.Proofs.YtdabojnmoejilaaGreatDoor
open Go Go.Am Go.Vm
attribute [local irreducible] VVal VOps VOpsD VWp VCalls VFun VFunV QSeq QBlk QLoop Vm.Done DoneV DoneI
structure Pul where
 rank:Nat
 feet:Nat
 kind:Nat
 at_:Nat
instance:Enc Pul:={ default:=⟨0,0,0,0⟩,enc:=fun x=>[.int .u8 (x.rank:Int),.int .u8 (x.feet:Int),.int .u8 (x.kind:Int),.int .u8 (x.at_:Int)],size:=4,len:=fun _=>rfl }
structure Pul.Ok (x:Pul):Prop where
 rank:x.rank<256
 feet:x.feet<256
 kind:x.kind<256
 at_:x.at_<256
structure Brd where
 low:Nat
 keys:Nat
 pedal:Bool
 stops:List Pul
instance:Enc Brd:={ default:=⟨0,0,false,[]⟩,enc:=fun x=>[.int .u8 (x.low:Int),.int .u8 (x.keys:Int),.bool x.pedal,.lst 72 (cells x.stops) x.stops.length],size:=4,len:=fun _=>rfl }
structure Brd.Ok (x:Brd):Prop where
 low:x.low<256
 keys:x.keys<256
 stops:x.stops.length<9223372036854775808
 all:∀ i,i<x.stops.length→(gi x.stops i).Ok
structure Lnk where
 frm:Nat
 tgt:Nat
 shift:Int
 through:Bool
instance:Enc Lnk:={ default:=⟨0,0,0,false⟩,enc:=fun x=>[.int .u8 (x.frm:Int),.int .u8 (x.tgt:Int),.int .i8 x.shift,.bool x.through],size:=4,len:=fun _=>rfl }
structure Lnk.Ok (x:Lnk):Prop where
 frm:x.frm<256
 tgt:x.tgt<256
 shift:-128≤x.shift∧x.shift≤127
instance encRPlan:Enc RPlan:={ default:=⟨0,0,0,0,[]⟩,enc:=RPlan.enc,size:=9,len:=fun _=>rfl }
structure OPl where
 ranks:List RPlan
 divs:List Brd
 links:List Lnk
def OPl.enc (x:OPl):List FV:=[.lst 150 (cells x.ranks) x.ranks.length,.lst 75 (cells x.divs) x.divs.length,.lst 153 (cells x.links) x.links.length]
structure OPl.Ok (x:OPl):Prop where
 ranks:∀ i,i<x.ranks.length→(gi x.ranks i).Ok
 divs:∀ i,i<x.divs.length→(gi x.divs i).Ok
 links:∀ i,i<x.links.length→(gi x.links i).Ok
 nr:x.ranks.length<9223372036854775808
 nd:x.divs.length<9223372036854775808
 nl:x.links.length<9223372036854775808
def feet6:List Frac:=[⟨8,1⟩,⟨4,1⟩,⟨16,1⟩,⟨8,3⟩,⟨2,1⟩,⟨8,5⟩]
structure RksOk (rk:List Rnk):Prop where
 len:0<rk.length∧rk.length≤3
 ok:∀ i,i<rk.length→rchk (gi rk i)=0∧∃ b,b<16∧(gi rk i).feet=gi feetL b
attribute [local irreducible] rchk windsE shiftR
end Go.Proofs.YtdabojnmoejilaaGreatDoor
namespace Go.Proofs.YtdabojnmoejilaaGreatDoor
open Go Go.Am Go.Vm
attribute [local irreducible] VVal VOps VOpsD VWp VCalls VFun VFunV QSeq QBlk QLoop Vm.Done DoneV DoneI
end Go.Proofs.YtdabojnmoejilaaGreatDoor
namespace Go.Proofs.YtdabojnmoejilaaGreatDoor
open Go Go.Am Go.Vm
attribute [local irreducible] VVal VOps VOpsD VWp VCalls VFun VFunV QSeq QBlk QLoop Vm.Done DoneV DoneI
noncomputable instance (a b:Frac):Decidable (a=b):=Classical.propDecidable _
noncomputable instance (a b:Rnk):Decidable (a=b):=Classical.propDecidable _
def lnC (i c:Nat):Prop:=isL c∨(i≠0∧(c=95∨(48≤c∧c≤57)))
def fewR (r:Rnk):Prop:=(r.wind.length≤30∨r.wind.length=129)∧r.name.length≤40∧r.tone.length≤40
instance (r:Rnk):Decidable (fewR r):=by unfold fewR;infer_instance
end Go.Proofs.YtdabojnmoejilaaGreatDoor
namespace Go.Proofs.YtdabojnmoejilaaGreatDoor
open Go Go.Am Go.Vm
attribute [local irreducible] VVal VOps VOpsD VWp VCalls VFun VFunV QSeq QBlk QLoop Vm.Done DoneV DoneI
attribute [local irreducible] rchk windsE shz shiftR pipE
noncomputable def sliR (r:Rnk) (f p:Int):FV×Int:=if pipE r f≠0 then (zeroF,pipE r f) else if p<1∨p>r.wind.length-f then (zeroF,3) else rebR r (r.first+f) ((r.wind.drop f.toNat).take ((f+p).toNat-f.toNat))
noncomputable def joiR (a b:Rnk):FV×Int:=if rchk a≠0 then (zeroF,rchk a) else if rchk b≠0 then (zeroF,rchk b) else if ¬ (a.tone=b.tone∧a.feet=b.feet) then (zeroF,14) else if b.first≠a.first+a.wind.length then (zeroF,6) else rebR a a.first (a.wind++b.wind)
def zeroR:Rnk:=⟨[],[],⟨0,0⟩,0,[]⟩
end Go.Proofs.YtdabojnmoejilaaGreatDoor
namespace Go.Proofs.YtdabojnmoejilaaGreatDoor
open Go Go.Am Go.Vm
attribute [local irreducible] VVal VOps VOpsD VWp VCalls VFun VFunV QSeq QBlk QLoop Vm.Done DoneV DoneI
def fitsP (x:OPl):Prop:=(1≤x.ranks.length∧x.ranks.length≤3)∧(1≤x.divs.length∧x.divs.length≤3)∧x.links.length≤3∧∀ i,i<x.divs.length→(gi x.divs i).stops.length≤3
noncomputable instance (x:OPl):Decidable (fitsP x):=Classical.propDecidable _
def pullP (rk:List Rnk) (lo hi:Int) (x:Pul) (i:Nat) (s:Stp):Prop :=
 VFun env 56 [.lst 131 (cells rk) rk.length,.agg [.int .i64 lo,.int .i64 hi],.agg (Enc.enc x),.int .i64 (i:Int)] (.p (.agg (Enc.enc s)))∧s.name=nmI 83 i∧stoE rk lo hi s=0∧StpSm s∧∃ a,a<6∧s.feet=gi feet6 a
noncomputable def pullS (rk:List Rnk) (lo hi:Int) (x:Pul) (i:Nat):Stp:=Classical.epsilon (h:=⟨default⟩) (pullP rk lo hi x i)
def ranksK (l:List RPlan):Nat→List Rnk
 |0=>[]
 |k+1=>ranksK l k++[mkR (gi l k) (k:Int)]
noncomputable def stopsK (rk:List Rnk) (lo hi:Int) (l:List Pul):Nat→List Stp
 |0=>[]
 |k+1=>stopsK rk lo hi l k++[pullS rk lo hi (gi l k) k]
def brdLo (b:Brd):Int:=36+(b.low:Int) % 12
def brdHi (b:Brd):Int:=brdLo b+(b.keys:Int) % 9
noncomputable def divK (rk:List Rnk) (b:Brd) (k:Nat):Dvs:=⟨nmI 68 (k:Int),b.pedal,brdLo b,brdHi b,stopsK rk (brdLo b) (brdHi b) b.stops b.stops.length⟩
noncomputable def divsK (rk:List Rnk) (l:List Brd):Nat→List Dvs
 |0=>[]
 |k+1=>divsK rk l k++[divK rk (gi l k) k]
def lnkC (n:Nat) (c:Lnk) (k:Nat):Cpl:=⟨nmI 67 (k:Int),(c.frm:Int) % n,(c.tgt:Int) % n,if (c.frm:Int) % n=(c.tgt:Int) % n∧c.shift.tmod 25=0 then 12 else c.shift.tmod 25,c.through⟩
def cplsK (n:Nat) (l:List Lnk):Nat→List Cpl
 |0=>[]
 |k+1=>cplsK n l k++[lnkC n (gi l k) k]
noncomputable def mkO (x:OPl):Org:=⟨[79,114,103,97,110],ranksK x.ranks x.ranks.length,divsK (ranksK x.ranks x.ranks.length) x.divs x.divs.length,cplsK x.divs.length x.links x.links.length⟩
end Go.Proofs.YtdabojnmoejilaaGreatDoor
namespace Go.Proofs.YtdabojnmoejilaaGreatDoor
open Go Go.Am Go.Vm
attribute [local irreducible] VVal VOps VOpsD VWp VCalls VFun VFunV QSeq QBlk QLoop Vm.Done DoneV DoneI
attribute [local irreducible] mkR pullS
def orgB (a b c:PV):Vm.HB:=.box 37 [.p (.str (bs [79,114,103,97,110])),a,b,c]
def orgZ:Vm.HB:=.box 37 [.p (.str ⟨#[]⟩),.p (.val (.slice none 0 0)),.p (.val (.slice none 0 0)),.p (.val (.slice none 0 0))]
end Go.Proofs.YtdabojnmoejilaaGreatDoor
namespace Go.Proofs.YtdabojnmoejilaaGreatDoor
open Go Go.Am Go.Vm
attribute [local irreducible] VVal VOps VOpsD VWp VCalls VFun VFunV QSeq QBlk QLoop Vm.Done DoneV DoneI
attribute [local irreducible] mkR pullS rchk windsE shiftR
structure OrgT (o:Org):Prop where
 sm:OrgSm o
 ranks:1≤o.ranks.length∧o.ranks.length≤3
 divs:1≤o.divs.length∧o.divs.length≤3
 cpls:o.cpls.length≤3
 stops:∀ i,i<o.divs.length→(gi o.divs i).stops.length≤3
 rk:RksOk o.ranks
 dv:∀ i,i<o.divs.length→0≤(gi o.divs i).lo∧(gi o.divs i).lo≤(gi o.divs i).hi∧(gi o.divs i).hi≤127
 dn:∀ i,i<o.divs.length→(gi o.divs i).name=nmI 68 i
 st:∀ i,i<o.divs.length→∀ j,j<(gi o.divs i).stops.length→stoE o.ranks (gi o.divs i).lo (gi o.divs i).hi (gi (gi o.divs i).stops j)=0∧(gi (gi o.divs i).stops j).name=nmI 83 j∧∃ a,a<6∧(gi (gi o.divs i).stops j).feet=gi feet6 a
 cp:∀ i,i<o.cpls.length→CplOk o.divs.length (gi o.cpls i)∧(gi o.cpls i).name=nmI 67 i
 rn:∀ i,i<o.ranks.length→(gi o.ranks i).name=nmI 82 i
 nm:o.name=[79,114,103,97,110]
end Go.Proofs.YtdabojnmoejilaaGreatDoor
namespace Go.Proofs.YtdabojnmoejilaaGreatDoor
open Go Go.Am Go.Vm
attribute [local irreducible] rchk windsE
theorem divsE_all {rk:List Rnk} {l:List Dvs}:∀ (n k:Nat),l.length-k=n→divsE rk l k=0→∀ i,k≤i→i<l.length→dvsE rk (gi l i)=0
 |0,k,h,_,i,h1,h2=>by omega
 |n+1,k,h,h0,i,h1,h2=>by
  rw [divsE,if_pos (by omega)] at h0
  split at h0
  ·exact absurd h0 (by decide)
  split at h0
  ·exact absurd h0 (by decide)
  split at h0
  ·rename_i h3;exact absurd h0 h3
  rename_i h3
  rcases Nat.lt_or_ge k i with h4|h4
  ·exact divsE_all n (k+1) (by omega) h0 i h4 h2
  ·obtain rfl:k=i:=by omega
   exact Decidable.byContradiction fun h5=>h3 h5
structure OrgK (o:Org):Prop where
 sm:OrgSm o
 err:orgE o=0
 divs:1≤o.divs.length∧o.divs.length≤8
 cpls:o.cpls.length≤40
 stops:∀ i,i<o.divs.length→(gi o.divs i).stops.length≤60
theorem orgK {o:Org} (hs:OrgSm o) (h:orgE o=0):OrgK o:=by
 have h0:=h
 unfold orgE at h0
 split at h0
 ·exact absurd h0 (by decide)
 split at h0
 ·exact absurd h0 (by decide)
 split at h0
 ·rename_i h1;exact absurd h0 h1
 split at h0
 ·exact absurd h0 (by decide)
 rename_i d1
 split at h0
 ·exact absurd h0 (by decide)
 rename_i d2
 split at h0
 ·rename_i h1;exact absurd h0 h1
 rename_i d3
 have d3:divsE o.ranks o.divs 0=0:=Decidable.byContradiction d3
 unfold cplE at h0
 split at h0
 ·exact absurd h0 (by decide)
 rename_i c1
 refine ⟨hs,h,⟨by omega,by omega⟩,by omega,fun i hi=>?_⟩
 have:=divsE_all _ 0 rfl d3 i (Nat.zero_le _) hi
 unfold dvsE at this
 split at this
 ·rename_i h1;exact absurd this h1
 split at this
 ·exact absurd this (by decide)
 rename_i h2
 omega
theorem drwsE_all {m:Nat} {l:List Drw}:∀ (n k:Nat),l.length-k=n→drwsE m l k=0→∀ i,k≤i→i<l.length→0≤(gi l i).rank∧(gi l i).rank<m
 |0,k,h,_,i,h1,h2=>by omega
 |n+1,k,h,h0,i,h1,h2=>by
  rw [drwsE,if_pos (by omega)] at h0
  split at h0
  ·exact absurd h0 (by decide)
  rename_i h3
  split at h0
  ·exact absurd h0 (by decide)
  split at h0
  ·exact absurd h0 (by decide)
  rcases Nat.lt_or_ge k i with h4|h4
  ·exact drwsE_all n (k+1) (by omega) h0 i h4 h2
  ·obtain rfl:k=i:=by omega
   omega
theorem segsE_all {m:Nat} {lo hi:Int} {l:List Seg}:∀ (n k:Nat),l.length-k=n→segsE m lo hi l k=0→∀ i,k≤i→i<l.length→drwE m (gi l i).draws=0
 |0,k,h,_,i,h1,h2=>by omega
 |n+1,k,h,h0,i,h1,h2=>by
  rw [segsE,if_pos (by omega)] at h0
  split at h0
  ·exact absurd h0 (by decide)
  split at h0
  ·exact absurd h0 (by decide)
  split at h0
  ·rename_i h3;exact absurd h0 h3
  rename_i h3
  rcases Nat.lt_or_ge k i with h4|h4
  ·exact segsE_all n (k+1) (by omega) h0 i h4 h2
  ·obtain rfl:k=i:=by omega
   exact Decidable.byContradiction fun h5=>h3 h5
structure StoK (rk:List Rnk) (s:Stp):Prop where
 segs:s.segs.length≤12
 draws:∀ i,i<s.segs.length→(gi s.segs i).draws.length≤8∧∀ j,j<(gi s.segs i).draws.length→0≤(gi (gi s.segs i).draws j).rank∧(gi (gi s.segs i).draws j).rank<rk.length
theorem stoK {rk:List Rnk} {lo hi:Int} {s:Stp} (h:stoE rk lo hi s=0):StoK rk s:=by
 unfold stoE at h
 split at h
 ·rename_i h1;exact absurd h h1
 unfold stpE at h
 split at h
 ·exact absurd h (by decide)
 split at h
 ·rename_i h1;exact absurd h h1
 split at h
 ·exact absurd h (by decide)
 split at h
 ·exact absurd h (by decide)
 rename_i h1
 refine ⟨by omega,fun i hi=>?_⟩
 have h2:=segsE_all _ 0 rfl h i (Nat.zero_le _) hi
 unfold drwE at h2
 split at h2
 ·exact absurd h2 (by decide)
 exact ⟨by omega,fun j hj=>drwsE_all _ 0 rfl h2 j (Nat.zero_le _) hj⟩
def toneK (rk:List Rnk) (s:Stp) (n:Nat):Nat→List UInt8
 |0=>[]
 |k+1=>if (gi s.segs (n-(k+1))).draws.length>0 then (gi rk (gi (gi s.segs (n-(k+1))).draws 0).rank.toNat).tone else toneK rk s n k
def toneS (rk:List Rnk) (s:Stp):List UInt8:=toneK rk s s.segs.length s.segs.length
theorem toneK_skip {rk:List Rnk} {s:Stp} {n k:Nat} (hk:k<n) (h:(gi s.segs k).draws.length=0):toneK rk s n (n-k)=toneK rk s n (n-(k+1)):=by
 obtain ⟨j,hj⟩:∃ j,n-k=j+1:=⟨n-k-1,by omega⟩
 rw [hj]
 have e:n-(j+1)=k:=by omega
 show (if (gi s.segs (n-(j+1))).draws.length>0 then _ else toneK rk s n j)=_
 rw [e,if_neg (by omega)]
 congr 1;omega
theorem toneK_hit {rk:List Rnk} {s:Stp} {n k:Nat} (hk:k<n) (h:0<(gi s.segs k).draws.length):toneK rk s n (n-k)=(gi rk (gi (gi s.segs k).draws 0).rank.toNat).tone:=by
 obtain ⟨j,hj⟩:∃ j,n-k=j+1:=⟨n-k-1,by omega⟩
 rw [hj]
 have e:n-(j+1)=k:=by omega
 show (if (gi s.segs (n-(j+1))).draws.length>0 then _ else toneK rk s n j)=_
 rw [e,if_pos h]
end Go.Proofs.YtdabojnmoejilaaGreatDoor
namespace Go.Proofs.YtdabojnmoejilaaGreatDoor
open Go Go.Am Go.Vm
attribute [local irreducible] VVal VOps VOpsD VWp VCalls VFun VFunV QSeq QBlk QLoop Vm.Done DoneV DoneI
attribute [local irreducible] rchk windsE
theorem cmp_spec (lo hi:Int):VFun env 89 [.agg [.int .i64 lo,.int .i64 hi]] (.p (.int .i64 (cmpE lo hi))):=by
 unfold cmpE
 refine VFun.enter (env_none (by decide)) Tryz.func89 rfl (by kernel_rfl) (by simp [Tryz.ntmps89]) ?_
 repeat' (first|apply VWp.rseq|apply VWp.blockSeq|apply QSeq.normal|apply QSeq.ret|apply QBlk.normal|apply QBlk.ret|apply VWp.ret|apply VWp.skip|apply VOps.nil|apply VOps.one|(apply VOps.take;rfl;rfl)|(apply VOps.drop;rfl;rfl;rfl)|(apply VOps.guard;rfl;rfl)|(apply VVal.assign;rfl)|(apply VVal.move;rfl)|(apply VVal.int;rfl;rfl;rfl)|(apply VVal.load;rfl;rfl)|(apply VVal.pick_true;rfl;rfl)|(apply VVal.pick_false;rfl;rfl)|(apply VVal.fieldB;rfl;rfl;rfl)|(apply VVal.box;rfl;trivial)|(apply VWp.cond_true;rfl)|(apply VWp.cond_dec;rfl)|(intro _;try (exfalso;omega)))
 all_goals first
  |(rw [if_pos (by omega)];(refine Done.ret rfl (.refl _) (by first|exact trivial|exact ⟨trivial,trivial,trivial⟩|exact ⟨trivial,trivial,trivial,trivial⟩) HCov.nil (Nat.zero_le _) (Nat.le_refl _) ⟨?_,rfl,rfl⟩;try rfl);done)
  |(rw [if_neg (by omega),if_pos (by omega)];(refine Done.ret rfl (.refl _) (by first|exact trivial|exact ⟨trivial,trivial,trivial⟩|exact ⟨trivial,trivial,trivial,trivial⟩) HCov.nil (Nat.zero_le _) (Nat.le_refl _) ⟨?_,rfl,rfl⟩;try rfl);done)
  |(rw [if_neg (by omega),if_neg (by omega)];(refine Done.ret rfl (.refl _) (by first|exact trivial|exact ⟨trivial,trivial,trivial⟩|exact ⟨trivial,trivial,trivial,trivial⟩) HCov.nil (Nat.zero_le _) (Nat.le_refl _) ⟨?_,rfl,rfl⟩;try rfl);done)
theorem freeDraw:eqFree Tryz.prog 133=true:=by kernel_rfl
theorem eqDraw (x y:Drw):Vm.eqSt Tryz.prog 133 (Enc.enc x) (Enc.enc y)=some (decide (x=y)):=by
 show some (decide (x.rank=y.rank)&&(decide (x.shift=y.shift)&&true))=_
 by_cases h:x=y
 ·subst h;simp
 ·rw [decide_eq_false h]
  have:¬ (x.rank=y.rank∧x.shift=y.shift):=fun h'=>h (by cases x;cases y;simp_all)
  by_cases h1:x.rank=y.rank<;>simp_all
theorem mem_gi {α:Type} [Inhabited α] {a:α} {l:List α}:a∈l↔∃ i,i<l.length∧gi l i=a:=by
 constructor
 ·intro h
  obtain ⟨i,hi,e⟩:=List.getElem_of_mem h
  exact ⟨i,hi,by simp [gi,List.getElem?_eq_getElem hi,e]⟩
 ·rintro ⟨i,hi,e⟩
  rw [← e]
  simp only [gi,List.getElem?_eq_getElem hi,Option.getD_some]
  exact List.getElem_mem hi
theorem gi_take {α:Type} [Inhabited α] {l:List α} {i k:Nat} (h:i<k):gi (l.take k) i=gi l i:=by simp [gi,List.getElem?_take,h]
theorem take_succ_gi {α:Type} [Inhabited α] {l:List α} {k:Nat} (hk:k<l.length):l.take (k+1)=l.take k++[gi l k]:=by
 rw [List.take_succ_eq_append_getElem hk];simp [gi,List.getElem?_eq_getElem hk]
theorem inl_IXD {L:Vm.Frame} {H:Vm.Heap} {nx:Nat} {Q:PV→Vm.Heap→Nat→Prop} {dst:Option Tmp} {ty:TypeId} {pos:String} {af:Array Edge} {gd:Option (Nat×Bool)} {fo:Operand} {args:Array Operand} {aT:Array TypeId} {fs cs xs:List PV} {c:Code}
 (hf:vev env.Γ L fo=some (.clo 136 fs cs)) (ha:evs env.Γ L args.toList=some xs) (hb:Tryz.f136.body=some c) (hn:(fs++xs++cs).length≤Tryz.f136.ntmps)
 (h:VWp env nx c (argFrame 0 (fs++xs++cs)) H nx (DoneI env.P Tryz.f136.results.toList Q)):VVal env true ⟨dst,.call { callee:=.value fo,args:=args,argTypes:=aT },ty,pos,af,gd⟩ L H nx Q:=by
 have h0:(match Tryz.f136.body with|some c=>fnOk env.G Tryz.f136 c|none=>false)=true:=by kernel_rfl
 rw [hb] at h0
 exact VVal.inline rfl hf ha (env_none (by decide)) Tryz.func136 hb h0 hn h
theorem contains_spec (l:List Drw) (d:Drw) (hl:l.length<1000000):VFun env 124 [.lst 133 (cells l) l.length,.agg (Enc.enc d)] (.p (.bool (decide (d∈l)))):=by
 refine VFun.enter (env_none (by decide)) Tryz.func124 rfl (by kernel_rfl) (by simp [Tryz.ntmps124]) ?_
 repeat' (first|apply VWp.assoc|apply VWp.rseq|apply VWp.blockSeq|apply VOps.nil|apply VOps.one|(apply inl_IXD;rfl;rfl;rfl;exact le_dec rfl)|(apply VVal.assign;rfl)|(apply VVal.move;rfl)|(apply VVal.load;rfl;rfl)|(apply VVal.lenF;rfl;rfl)|(apply VVal.box;rfl;trivial))
 refine VWp.loopQ (fun k:Nat=>[(0,lst 133 l),(3,.ref 1 0),(7,.p (.int .i64 (l.length:Int))),(8,.p (.int .i64 (k:Int)))]) (fun _=>[(1,.box 133 ((Enc.enc d).map .p)),(0,.box 133 ((Enc.enc d).map .p))]) 2 (fun k=>k≤l.length∧∀ i,i<k→d≠gi l i) (fun k=>l.length-k) 0 (by omega) ⟨by omega,fun i hi=>by omega⟩ ⟨by omega,?_,?_⟩ ?_
 ·repeat (first|exact LCov.nil|refine LCov.same trivial rfl ?_|refine LCov.same (lt_dec rfl) rfl ?_|refine LCov.same ⟨trivial,lt_dec rfl,lt_dec rfl,lt_dec rfl,trivial⟩ rfl ?_|refine LCov.same ⟨trivial,lt_dec rfl,lt_dec rfl,trivial⟩ rfl ?_|refine LCov.same ⟨trivial,trivial⟩ rfl ?_|refine LCov.cons trivial rfl (.of_eq (lst_len (by simp<;>omega))) ?_)
 ·repeat (first|exact HCov.nil|(refine HCov.cons (lt_dec rfl) ?_ rfl ?_ ?_;(first|exact trivial|exact PVs.under_pure _ _|(simp [HB.under,PVs.under,PV.under]));(first|exact HLe.refl _|exact HLe.vec (FLes.refl _) (by simp))))
 rintro k ⟨hk,hok⟩
 have he:=eqDraw d (gi l k)
 by_cases hd:d=gi l k
 ·rw [decide_eq_true hd] at he
  repeat' (first|apply VWp.rseq|apply VWp.rseqD|apply VWp.skipSeq|apply VWp.exitSeq|apply VWp.blockSeq|apply QSeq.normal|apply QSeq.ret|(apply DoneI.ret;rfl)|apply QBlk.ret|apply QBlk.exit|apply QLoop.ret|apply QLoop.exit|apply VWp.ret|apply VOps.nil|apply VOpsD.nil|apply VOps.one|(apply VOpsD.bar;decide +kernel)|apply VOpsD.quiet|(apply VVal.eqSt1;rfl;rfl;exact freeDraw;exact he)|(apply VVal.assign;rfl)|(apply VVal.move;rfl)|(apply VVal.int;rfl;rfl;rfl)|(apply VVal.indexN;rfl;rfl;rfl;omega;rfl)|(apply VVal.load;rfl;rfl)|(apply VWp.condSeq_dec;rfl)|(apply VWp.cond_true;rfl)|(intro _;try (exfalso;omega)))
  ·rename_i a1
   rw [decide_eq_true (mem_gi.2 ⟨k,by omega,hd.symm⟩)]
   refine Done.ret rfl (.refl _) (by first|exact trivial|exact ⟨trivial,trivial,trivial⟩|exact ⟨trivial,trivial,trivial,trivial⟩) HCov.nil (Nat.zero_le _) (Nat.le_refl _) ⟨?_,rfl,rfl⟩
   refine PV.bool_eq ?_
   simp
  ·rename_i a1
   rw [decide_eq_false (fun h=>by obtain ⟨i,h1,h2⟩:=mem_gi.1 h;exact hok i (by omega) h2.symm)]
   (refine Done.ret rfl (.refl _) (by first|exact trivial|exact ⟨trivial,trivial,trivial⟩|exact ⟨trivial,trivial,trivial,trivial⟩) HCov.nil (Nat.zero_le _) (Nat.le_refl _) ⟨?_,rfl,rfl⟩;try rfl)
 ·rw [decide_eq_false hd] at he
  repeat' (first|apply VWp.rseq|apply VWp.rseqD|apply VWp.region|apply VWp.skipSeq|apply VWp.exitSeq|apply VWp.blockSeq|apply QSeq.normal|(apply DoneI.ret;rfl)|apply QBlk.normal|apply QBlk.exit|apply QLoop.exit|apply VWp.ret|apply VWp.skip|apply VOps.nil|apply VOpsD.nil|apply VOps.one|(apply VOpsD.bar;decide +kernel)|apply VOpsD.quiet|(apply VVal.eqSt1;rfl;rfl;exact freeDraw;exact he)|(apply VVal.assign;rfl)|(apply VVal.move;rfl)|(apply VVal.add64;rfl;rfl;omega)|(apply VVal.int;rfl;rfl;rfl)|(apply VVal.indexN;rfl;rfl;rfl;omega;rfl)|(apply VVal.load;rfl;rfl)|(apply VWp.condSeq_dec;rfl)|(apply VWp.cond_false;rfl)|(intro _;try (exfalso;omega)))
  ·rename_i a1
   refine QLoop.normal ⟨k+1,⟨by omega,fun i hi=>?_⟩,by omega,⟨by omega,?_,?_⟩⟩
   ·rcases Nat.lt_or_ge i k with h|h
    ·exact hok i h
    ·obtain rfl:i=k:=by omega
     exact hd
   ·repeat (first|exact LCov.nil|refine LCov.same trivial rfl ?_|refine LCov.same (lt_dec rfl) rfl ?_|refine LCov.same ⟨trivial,lt_dec rfl,lt_dec rfl,lt_dec rfl,trivial⟩ rfl ?_|refine LCov.same ⟨trivial,lt_dec rfl,lt_dec rfl,trivial⟩ rfl ?_|refine LCov.same ⟨trivial,trivial⟩ rfl ?_|refine LCov.cons trivial rfl (.of_eq (lst_len (by simp<;>omega))) ?_)
   ·repeat (first|exact HCov.nil|(refine HCov.cons (lt_dec rfl) ?_ rfl ?_ ?_;(first|exact trivial|exact PVs.under_pure _ _|(simp [HB.under,PVs.under,PV.under]));(first|exact HLe.refl _|exact HLe.vec (FLes.refl _) (by simp))))
  ·rename_i a1
   rw [decide_eq_false (fun h=>by obtain ⟨i,h1,h2⟩:=mem_gi.1 h;exact hok i (by omega) h2.symm)]
   (refine Done.ret rfl (.refl _) (by first|exact trivial|exact ⟨trivial,trivial,trivial⟩|exact ⟨trivial,trivial,trivial,trivial⟩) HCov.nil (Nat.zero_le _) (Nat.le_refl _) ⟨?_,rfl,rfl⟩;try rfl)
def plcF (rk:List Rnk) (lo hi:Int):List FV:=[.lst 131 (cells rk) rk.length,.int .i64 lo,.int .i64 hi]
theorem draws_spec (rk:List Rnk) (lo hi:Int) (l:List Drw) (hl:l.length<1000000) (hr:rk.length<1000000):VFun env 109 [.agg (plcF rk lo hi),.lst 133 (cells l) l.length] (.p (.int .i64 (drwE rk.length l))):=by
 unfold drwE
 refine VFun.enter (env_none (by decide)) Tryz.func109 rfl (by kernel_rfl) (by simp [Tryz.ntmps109]) ?_
 repeat' (first|apply VWp.assoc|apply VWp.rseq|apply VWp.skipSeq|apply VWp.retSeq|apply VWp.blockSeq|apply VOps.nil|apply VOps.one|(apply VVal.assign;rfl)|(apply VVal.move;rfl)|(apply VVal.int;rfl;rfl;rfl)|(apply VVal.lenF;rfl;rfl)|(apply VVal.box;rfl;trivial)|(apply VWp.condSeq_dec;rfl)|(intro _;try (exfalso;omega)))
 ·rw [if_pos (by omega)];(refine Done.ret rfl (.refl _) (by first|exact trivial|exact ⟨trivial,trivial,trivial⟩|exact ⟨trivial,trivial,trivial,trivial⟩) HCov.nil (Nat.zero_le _) (Nat.le_refl _) ⟨?_,rfl,rfl⟩;try rfl)
 rw [if_neg (by omega)]
 refine VWp.loopQ (fun k:Nat=>[(1,lst 133 l),(2,.ref 0 0),(10,lst 133 l),(11,.p (.int .i64 (l.length:Int))),(12,.p (.int .i64 (k:Int)))]) (fun _=>[(0,.box 186 ((plcF rk lo hi).map .p))]) 1 (fun k=>k≤l.length∧drwsE rk.length l k=drwsE rk.length l 0) (fun k=>l.length-k) 0 (by omega) ⟨by omega,rfl⟩ ⟨by omega,?_,?_⟩ ?_
 ·repeat (first|exact LCov.nil|refine LCov.same trivial rfl ?_|refine LCov.same (lt_dec rfl) rfl ?_|refine LCov.same ⟨trivial,lt_dec rfl,lt_dec rfl,lt_dec rfl,trivial⟩ rfl ?_|refine LCov.same ⟨trivial,lt_dec rfl,lt_dec rfl,trivial⟩ rfl ?_|refine LCov.same ⟨trivial,trivial⟩ rfl ?_|refine LCov.cons trivial rfl (.of_eq (lst_len (by simp<;>omega))) ?_)
 ·repeat (first|exact HCov.nil|(refine HCov.cons (lt_dec rfl) ?_ rfl ?_ ?_;(first|exact trivial|exact PVs.under_pure _ _|(simp [HB.under,PVs.under,PV.under]));(first|exact HLe.refl _|exact HLe.vec (FLes.refl _) (by simp))))
 rintro k ⟨hk,hE⟩
 have hc:=contains_spec (l.take k) (gi l k) (by rw [List.length_take];omega)
 rw [List.length_take,Nat.min_eq_left (by omega)] at hc
 rw [← hE]
 by_cases hkl:k<l.length
 ·rw [drwsE,if_pos hkl]
  generalize hg:decide (gi l k∈l.take k)=g at *
  cases g
  all_goals
   repeat' (first|apply VWp.rseq|apply VWp.rseqD|apply VWp.region|apply VWp.skipSeq|apply VWp.blockSeq|apply QSeq.normal|apply QSeq.ret|apply QBlk.normal|apply QBlk.ret|apply QLoop.ret|apply VWp.ret|apply VWp.skip|apply VWp.blockQ|apply VOps.nil|apply VOpsD.nil|apply VOps.one|(apply VOpsD.bar;decide +kernel)|apply VOpsD.quiet|(apply VOps.take;rfl;rfl)|(apply VOps.drop;rfl;rfl;rfl)|(apply VOps.guard;rfl;rfl)|(apply VVal.fn;rfl;rfl;exact hc;intro _;rfl)|(apply VVal.sliceTo;rfl;rfl;rfl;rfl;rfl;rfl;omega)|(apply VVal.assign;rfl)|(apply VVal.move;rfl)|(apply VVal.add64;rfl;rfl;omega)|(apply VVal.int;rfl;rfl;rfl)|(apply VVal.indexN;rfl;rfl;rfl;omega;rfl)|(apply VVal.load;rfl;rfl)|(apply VVal.pick_true;rfl;rfl)|(apply VVal.pick_false;rfl;rfl)|(apply VVal.lenF;rfl;rfl)|(apply VVal.fieldB;rfl;rfl;rfl)|(apply VVal.alloc;rfl)|(apply VVal.storeB;rfl;rfl;rfl;trivial;rfl;rfl;exact lt_dec rfl;exact le_dec rfl)|(apply VWp.condSeq_dec;rfl)|(apply VWp.cond_true;rfl)|(apply VWp.cond_false;rfl)|(apply VWp.cond_dec;rfl)|(intro _;try (exfalso;omega)))
  all_goals try (exfalso;omega)
  all_goals first
   |(rw [if_pos (by omega)];(refine Done.ret rfl (.refl _) (by first|exact trivial|exact ⟨trivial,trivial,trivial⟩|exact ⟨trivial,trivial,trivial,trivial⟩) HCov.nil (Nat.zero_le _) (Nat.le_refl _) ⟨?_,rfl,rfl⟩;try rfl);done)
   |(rw [if_neg (by omega),if_pos (by omega)];(refine Done.ret rfl (.refl _) (by first|exact trivial|exact ⟨trivial,trivial,trivial⟩|exact ⟨trivial,trivial,trivial,trivial⟩) HCov.nil (Nat.zero_le _) (Nat.le_refl _) ⟨?_,rfl,rfl⟩;try rfl);done)
   |(rw [if_neg (by omega),if_neg (by omega),if_pos (of_decide_eq_true hg)];(refine Done.ret rfl (.refl _) (by first|exact trivial|exact ⟨trivial,trivial,trivial⟩|exact ⟨trivial,trivial,trivial,trivial⟩) HCov.nil (Nat.zero_le _) (Nat.le_refl _) ⟨?_,rfl,rfl⟩;try rfl);done)
   |(rw [if_neg (by omega),if_neg (by omega),if_neg (of_decide_eq_false hg)]
     refine QLoop.normal ⟨k+1,⟨by omega,?_⟩,by omega,⟨by omega,?_,?_⟩⟩
     ·first|rfl|(refine Eq.trans ?_ hE;symm;(conv=>lhs;rw [drwsE]);rw [if_pos hkl,if_neg (by omega),if_neg (by omega),if_neg (of_decide_eq_false hg)])
     ·repeat (first|exact LCov.nil|refine LCov.same trivial rfl ?_|refine LCov.same (lt_dec rfl) rfl ?_|refine LCov.same ⟨trivial,lt_dec rfl,lt_dec rfl,lt_dec rfl,trivial⟩ rfl ?_|refine LCov.same ⟨trivial,lt_dec rfl,lt_dec rfl,trivial⟩ rfl ?_|refine LCov.same ⟨trivial,trivial⟩ rfl ?_|refine LCov.cons trivial rfl (.of_eq (lst_len (by simp<;>omega))) ?_)
     ·repeat (first|exact HCov.nil|(refine HCov.cons (lt_dec rfl) ?_ rfl ?_ ?_;(first|exact trivial|exact PVs.under_pure _ _|(simp [HB.under,PVs.under,PV.under]));(first|exact HLe.refl _|exact HLe.vec (FLes.refl _) (by simp)))))
 ·rw [drwsE,if_neg hkl]
  repeat' (first|apply VWp.rseq|apply VWp.exitSeq|apply QSeq.normal|apply QBlk.exit|apply QLoop.exit|apply VWp.ret|apply VOps.nil|apply VOps.one|(apply VVal.assign;rfl)|(apply VVal.int;rfl;rfl;rfl)|(apply VWp.condSeq_dec;rfl)|(intro _;try (exfalso;omega)))
  all_goals first|(exfalso;omega)|(refine Done.ret rfl (.refl _) (by first|exact trivial|exact ⟨trivial,trivial,trivial⟩|exact ⟨trivial,trivial,trivial,trivial⟩) HCov.nil (Nat.zero_le _) (Nat.le_refl _) ⟨?_,rfl,rfl⟩;try rfl)
theorem place_spec (rk:List Rnk) (lo hi:Int) (hr:rk.length<1000000) (hs:∀ i,i<rk.length→RnkSm (gi rk i)):VFun env 108 [.agg (plcF rk lo hi)] (.p (.int .i64 (plcE rk lo hi))):=by
 have hcm:=cmp_spec lo hi
 unfold plcE
 refine VFun.enter (env_none (by decide)) Tryz.func108 rfl (by kernel_rfl) (by simp [Tryz.ntmps108]) ?_
 repeat' (first|apply VWp.assoc|apply VWp.rseq|apply VWp.skipSeq|apply VWp.retSeq|apply VWp.blockSeq|apply VOps.nil|apply VOps.one|(apply VVal.assign;rfl)|(apply VVal.move;rfl)|(apply VVal.int;rfl;rfl;rfl)|(apply VVal.load;rfl;rfl)|(apply VVal.lenF;rfl;rfl)|(apply VVal.fieldB;rfl;rfl;rfl)|(apply VVal.box;rfl;trivial)|(apply VWp.condSeq_dec;rfl)|(intro _;try (exfalso;omega)))
 ·rw [if_pos (by omega)];(refine Done.ret rfl (.refl _) (by first|exact trivial|exact ⟨trivial,trivial,trivial⟩|exact ⟨trivial,trivial,trivial,trivial⟩) HCov.nil (Nat.zero_le _) (Nat.le_refl _) ⟨?_,rfl,rfl⟩;try rfl)
 rw [if_neg (by omega)]
 refine VWp.loopQ (fun k:Nat=>[(1,.ref 0 0),(11,lst 131 rk),(12,.p (.int .i64 (rk.length:Int))),(13,.p (.int .i64 (k:Int)))]) (fun _=>[(0,.box 186 ((plcF rk lo hi).map .p))]) 1 (fun k=>k≤rk.length∧rksE rk k=rksE rk 0) (fun k=>rk.length-k) 0 (by omega) ⟨by omega,rfl⟩ ⟨by omega,?_,?_⟩ ?_
 ·repeat (first|exact LCov.nil|refine LCov.same trivial rfl ?_|refine LCov.same (lt_dec rfl) rfl ?_|refine LCov.same ⟨trivial,lt_dec rfl,lt_dec rfl,lt_dec rfl,trivial⟩ rfl ?_|refine LCov.same ⟨trivial,lt_dec rfl,lt_dec rfl,trivial⟩ rfl ?_|refine LCov.same ⟨trivial,trivial⟩ rfl ?_|refine LCov.cons trivial rfl (.of_eq (lst_len (by simp<;>omega))) ?_)
 ·repeat (first|exact HCov.nil|(refine HCov.cons (lt_dec rfl) ?_ rfl ?_ ?_;(first|exact trivial|exact PVs.under_pure _ _|(simp [HB.under,PVs.under,PV.under]));(first|exact HLe.refl _|exact HLe.vec (FLes.refl _) (by simp))))
 rintro k ⟨hk,hE⟩
 rw [← hE]
 by_cases hkl:k<rk.length
 ·have hsm:=(hs k hkl).len
  have hc:=rcheck_spec (gi rk k) hsm.1 hsm.2.1 hsm.2.2
  rw [rksE,if_pos hkl]
  by_cases h0:rchk (gi rk k)=0
  ·rw [h0] at hc ⊢
   rw [if_neg (by decide)]
   repeat' (first|apply VWp.rseq|apply VWp.region|apply VWp.skipSeq|apply VWp.blockSeq|apply QSeq.normal|apply QBlk.normal|apply VWp.skip|apply VOps.nil|apply VOps.one|(apply VVal.fn;rfl;rfl;exact hc;intro _;rfl)|(apply VVal.assign;rfl)|(apply VVal.move;rfl)|(apply VVal.add64;rfl;rfl;omega)|(apply VVal.int;rfl;rfl;rfl)|(apply VVal.indexN;rfl;rfl;rfl;omega;rfl)|(apply VVal.load;rfl;rfl)|(apply VVal.alloc;rfl)|(apply VVal.storeB;rfl;rfl;rfl;trivial;rfl;rfl;exact lt_dec rfl;exact le_dec rfl)|(apply VWp.condSeq_dec;rfl)|(apply VWp.cond_false;rfl)|(intro _;try (exfalso;omega)))
   all_goals try (exfalso;omega)
   refine QLoop.normal ⟨k+1,⟨by omega,?_⟩,by omega,⟨by omega,?_,?_⟩⟩
   ·first|rfl|(refine Eq.trans ?_ hE;symm;(conv=>lhs;rw [rksE]);rw [if_pos hkl,if_neg (fun h=>h h0)])
   ·repeat (first|exact LCov.nil|refine LCov.same trivial rfl ?_|refine LCov.same (lt_dec rfl) rfl ?_|refine LCov.same ⟨trivial,lt_dec rfl,lt_dec rfl,lt_dec rfl,trivial⟩ rfl ?_|refine LCov.same ⟨trivial,lt_dec rfl,lt_dec rfl,trivial⟩ rfl ?_|refine LCov.same ⟨trivial,trivial⟩ rfl ?_|refine LCov.cons trivial rfl (.of_eq (lst_len (by simp<;>omega))) ?_)
   ·repeat (first|exact HCov.nil|(refine HCov.cons (lt_dec rfl) ?_ rfl ?_ ?_;(first|exact trivial|exact PVs.under_pure _ _|(simp [HB.under,PVs.under,PV.under]));(first|exact HLe.refl _|exact HLe.vec (FLes.refl _) (by simp))))
  ·rw [if_pos h0,if_pos h0]
   repeat' (first|apply VWp.rseq|apply VWp.skipSeq|apply VWp.blockSeq|apply QSeq.ret|apply QBlk.ret|apply QLoop.ret|apply VWp.ret|apply VOps.nil|apply VOps.one|(apply VVal.fn;rfl;rfl;exact hc;intro _;rfl)|(apply VVal.assign;rfl)|(apply VVal.move;rfl)|(apply VVal.int;rfl;rfl;rfl)|(apply VVal.indexN;rfl;rfl;rfl;omega;rfl)|(apply VVal.load;rfl;rfl)|(apply VVal.alloc;rfl)|(apply VVal.storeB;rfl;rfl;rfl;trivial;rfl;rfl;exact lt_dec rfl;exact le_dec rfl)|(apply VWp.condSeq_dec;rfl)|(apply VWp.cond_dec;rfl)|(intro _;try (exfalso;omega)))
   all_goals first|(exfalso;omega)|(refine Done.ret rfl (.refl _) (by first|exact trivial|exact ⟨trivial,trivial,trivial⟩|exact ⟨trivial,trivial,trivial,trivial⟩) HCov.nil (Nat.zero_le _) (Nat.le_refl _) ⟨?_,rfl,rfl⟩;try rfl)
 ·rw [rksE,if_neg hkl,if_neg (by decide)]
  repeat' (first|apply VWp.rseq|apply VWp.exitSeq|apply QSeq.normal|apply QBlk.exit|apply QLoop.exit|apply VWp.ret|apply VOps.nil|apply VOps.one|(apply VVal.fn;rfl;rfl;exact hcm;intro _;rfl)|(apply VVal.assign;rfl)|(apply VVal.int;rfl;rfl;rfl)|(apply VVal.load;rfl;rfl)|(apply VVal.fieldB;rfl;rfl;rfl)|(apply VWp.condSeq_dec;rfl)|(intro _;try (exfalso;omega)))
  all_goals first|(exfalso;omega)|(refine Done.ret rfl (.refl _) (by first|exact trivial|exact ⟨trivial,trivial,trivial⟩|exact ⟨trivial,trivial,trivial,trivial⟩) HCov.nil (Nat.zero_le _) (Nat.le_refl _) ⟨?_,rfl,rfl⟩;try rfl)
theorem stop_spec (rk:List Rnk) (lo hi:Int) (s:Stp) (hr:rk.length<1000000) (hs:∀ i,i<rk.length→RnkSm (gi rk i)) (hS:StpSm s):VFun env 90 [.agg (plcF rk lo hi),.agg (Enc.enc s)] (.p (.int .i64 (stoE rk lo hi s))):=by
 obtain ⟨q1,q2,q3⟩:=hS
 have hp:=place_spec rk lo hi hr hs
 have hn:=isName_spec s.name (by omega)
 have hf:=pcheck_spec s.feet
 unfold stoE stpE
 refine VFun.enter (env_none (by decide)) Tryz.func90 rfl (by kernel_rfl) (by simp [Tryz.ntmps90]) ?_
 by_cases h0:plcE rk lo hi=0
 case neg =>
  rw [if_pos h0]
  repeat' (first|apply VWp.assoc|apply VWp.rseq|apply VWp.retSeq|apply VOps.nil|apply VOps.one|(apply VVal.fn;rfl;rfl;exact hp;intro _;rfl)|(apply VVal.assign;rfl)|(apply VVal.move;rfl)|(apply VVal.int;rfl;rfl;rfl)|(apply VVal.load;rfl;rfl)|(apply VVal.box;rfl;trivial)|(apply VWp.condSeq_dec;rfl)|(intro _;try (exfalso;omega)))
  all_goals first|(exfalso;omega)|(refine Done.ret rfl (.refl _) (by first|exact trivial|exact ⟨trivial,trivial,trivial⟩|exact ⟨trivial,trivial,trivial,trivial⟩) HCov.nil (Nat.zero_le _) (Nat.le_refl _) ⟨?_,rfl,rfl⟩;try rfl)
 rw [h0] at hp ⊢
 rw [if_neg (by decide)]
 by_cases h1:nameOk s.name
 case neg =>
  rw [if_pos h1]
  rw [decide_eq_false h1] at hn
  repeat' (first|apply VWp.assoc|apply VWp.rseq|apply VWp.skipSeq|apply VWp.retSeq|apply VOps.nil|apply VOps.one|(apply VVal.fn;rfl;rfl;exact hp;intro _;rfl)|(apply VVal.fn;rfl;rfl;exact hn;intro _;rfl)|(apply VVal.assign;rfl)|(apply VVal.move;rfl)|(apply VVal.int;rfl;rfl;rfl)|(apply VVal.load;rfl;rfl)|(apply VVal.fieldB;rfl;rfl;rfl)|(apply VVal.box;rfl;trivial)|(apply VVal.not;rfl)|(apply VWp.condSeq_true;rfl)|(apply VWp.condSeq_false;rfl))
  all_goals first|contradiction|(exfalso;omega)|(refine Done.ret rfl (.refl _) (by first|exact trivial|exact ⟨trivial,trivial,trivial⟩|exact ⟨trivial,trivial,trivial,trivial⟩) HCov.nil (Nat.zero_le _) (Nat.le_refl _) ⟨?_,rfl,rfl⟩;try rfl)
 rw [if_neg (fun h=>h h1)]
 rw [decide_eq_true h1] at hn
 by_cases h2:pchk s.feet=0
 case neg =>
  rw [if_pos h2]
  repeat' (first|apply VWp.assoc|apply VWp.rseq|apply VWp.skipSeq|apply VWp.retSeq|apply VOps.nil|apply VOps.one|(apply VVal.fn;rfl;rfl;exact hp;intro _;rfl)|(apply VVal.fn;rfl;rfl;exact hn;intro _;rfl)|(apply VVal.fn;rfl;rfl;exact hf;intro _;rfl)|(apply VVal.assign;rfl)|(apply VVal.move;rfl)|(apply VVal.int;rfl;rfl;rfl)|(apply VVal.load;rfl;rfl)|(apply VVal.fieldB;rfl;rfl;rfl)|(apply VVal.box;rfl;trivial)|(apply VVal.not;rfl)|(apply VWp.condSeq_false;rfl)|(apply VWp.condSeq_dec;rfl)|(intro _;try (exfalso;omega)))
  all_goals first|contradiction|(exfalso;omega)|(refine Done.ret rfl (.refl _) (by first|exact trivial|exact ⟨trivial,trivial,trivial⟩|exact ⟨trivial,trivial,trivial,trivial⟩) HCov.nil (Nat.zero_le _) (Nat.le_refl _) ⟨?_,rfl,rfl⟩;try rfl)
 rw [if_neg (fun h=>h h2)]
 rw [h2] at hf
 repeat' (first|apply VWp.assoc|apply VWp.rseq|apply VWp.skipSeq|apply VWp.blockSeq|apply QSeq.normal|apply QSeq.ret|apply QBlk.normal|apply QBlk.ret|apply VWp.ret|apply VWp.skip|apply VOps.nil|apply VOps.one|(apply VVal.fn;rfl;rfl;exact hp;intro _;rfl)|(apply VVal.fn;rfl;rfl;exact hn;intro _;rfl)|(apply VVal.fn;rfl;rfl;exact hf;intro _;rfl)|(apply VVal.assign;rfl)|(apply VVal.move;rfl)|(apply VVal.int;rfl;rfl;rfl)|(apply VVal.load;rfl;rfl)|(apply VVal.lenF;rfl;rfl)|(apply VVal.fieldB;rfl;rfl;rfl)|(apply VVal.box;rfl;trivial)|(apply VVal.not;rfl)|(apply VWp.condSeq_false;rfl)|(apply VWp.cond_dec;rfl)|(intro _;try (exfalso;omega)))
 all_goals try contradiction
 all_goals try (exfalso;omega)
 ·rw [if_pos (by omega)];(refine Done.ret rfl (.refl _) (by first|exact trivial|exact ⟨trivial,trivial,trivial⟩|exact ⟨trivial,trivial,trivial,trivial⟩) HCov.nil (Nat.zero_le _) (Nat.le_refl _) ⟨?_,rfl,rfl⟩;try rfl)
 ·rw [if_neg (by omega),if_pos (by omega)];(refine Done.ret rfl (.refl _) (by first|exact trivial|exact ⟨trivial,trivial,trivial⟩|exact ⟨trivial,trivial,trivial,trivial⟩) HCov.nil (Nat.zero_le _) (Nat.le_refl _) ⟨?_,rfl,rfl⟩;try rfl)
 rw [if_neg (by omega),if_neg (by omega)]
 refine VWp.loopQ (fun k:Nat=>[(2,.ref 0 0),(3,.ref 1 0),(36,lst 136 s.segs),(37,.p (.int .i64 (s.segs.length:Int))),(38,.p (.int .i64 (k:Int)))]) (fun _=>[(1,.box 122 ((Enc.enc s).map .p)),(0,.box 186 ((plcF rk lo hi).map .p))]) 2 (fun k=>k≤s.segs.length∧segsE rk.length lo hi s.segs k=segsE rk.length lo hi s.segs 0) (fun k=>s.segs.length-k) 0 (by omega) ⟨by omega,rfl⟩ ⟨by omega,?_,?_⟩ ?_
 ·repeat (first|exact LCov.nil|refine LCov.same trivial rfl ?_|refine LCov.same (lt_dec rfl) rfl ?_|refine LCov.same ⟨trivial,lt_dec rfl,lt_dec rfl,lt_dec rfl,trivial⟩ rfl ?_|refine LCov.same ⟨trivial,lt_dec rfl,lt_dec rfl,trivial⟩ rfl ?_|refine LCov.same ⟨trivial,trivial⟩ rfl ?_|refine LCov.cons trivial rfl (.of_eq (lst_len (by simp<;>omega))) ?_)
 ·repeat (first|exact HCov.nil|(refine HCov.cons (lt_dec rfl) ?_ rfl ?_ ?_;(first|exact trivial|exact PVs.under_pure _ _|(simp [HB.under,PVs.under,PV.under]));(first|exact HLe.refl _|exact HLe.vec (FLes.refl _) (by simp))))
 rintro k ⟨hk,hE⟩
 rw [← hE]
 by_cases hkl:k<s.segs.length
 ·have hsm:=(q3 k hkl).draws
  have hd:=draws_spec rk lo hi (gi s.segs k).draws hsm hr
  rw [segsE,if_pos hkl]
  have hk1:((k:Int)-1).toNat=k-1:=by omega
  have hkc:0<k→((k-1:Nat):Int)=(k:Int)-1:=fun h=>by omega
  generalize hD:drwE rk.length (gi s.segs k).draws=D at *
  repeat' (first|apply VWp.rseq|apply VWp.rseqD|apply VWp.region|apply VWp.skipSeq|apply VWp.blockSeq|apply QSeq.normal|apply QSeq.ret|apply QBlk.normal|apply QBlk.ret|apply QLoop.ret|apply VWp.ret|apply VWp.skip|apply VOps.nil|apply VOpsD.nil|apply VOps.one|(apply VOpsD.bar;decide +kernel)|apply VOpsD.quiet|(apply VOps.take;rfl;rfl)|(apply VOpsD.quietTake;rfl;rfl)|(apply VOps.drop;rfl;rfl;rfl)|(apply VOpsD.drop;rfl;rfl;rfl)|(apply VOps.guard;rfl;rfl)|(apply VOpsD.guard;rfl;rfl)|(apply VOpsD.dropU;rfl;rfl)|(apply VVal.fn;rfl;rfl;exact hd;intro _;rfl)|(apply VVal.assign;rfl)|(apply VVal.move;rfl)|(apply VVal.add64;rfl;rfl;omega)|(apply VVal.sub64;rfl;rfl;omega)|(apply VVal.int;rfl;rfl;rfl)|(apply VVal.indexN;rfl;rfl;rfl;omega;rfl)|(apply VVal.indexP;rfl;rfl;rfl;omega;omega;rfl)|(apply VVal.load;rfl;rfl)|(apply VVal.pick_true;rfl;rfl)|(apply VVal.pick_false;rfl;rfl)|(apply VVal.fieldB;rfl;rfl;rfl)|(apply VVal.fieldF;rfl;rfl)|(apply VVal.alloc;rfl)|(apply VVal.storeB;rfl;rfl;rfl;trivial;rfl;rfl;exact lt_dec rfl;exact le_dec rfl)|(apply VVal.maxI;rfl;rfl)|(apply VVal.minI;rfl;rfl)|(apply VWp.condSeq_dec;rfl)|(apply VWp.cond_true;rfl)|(apply VWp.cond_false;rfl)|(apply VWp.cond_dec;rfl)|(intro _;try (exfalso;omega)))
  all_goals try (exfalso;omega)
  all_goals first
   |(rw [if_pos (by omega)];(refine Done.ret rfl (.refl _) (by first|exact trivial|exact ⟨trivial,trivial,trivial⟩|exact ⟨trivial,trivial,trivial,trivial⟩) HCov.nil (Nat.zero_le _) (Nat.le_refl _) ⟨?_,rfl,rfl⟩;try rfl);done)
   |(rw [if_neg (by omega),if_pos (by omega)];(refine Done.ret rfl (.refl _) (by first|exact trivial|exact ⟨trivial,trivial,trivial⟩|exact ⟨trivial,trivial,trivial,trivial⟩) HCov.nil (Nat.zero_le _) (Nat.le_refl _) ⟨?_,rfl,rfl⟩;try rfl);done)
   |(rw [if_neg (by omega),if_neg (by omega),if_pos (by omega)];(refine Done.ret rfl (.refl _) (by first|exact trivial|exact ⟨trivial,trivial,trivial⟩|exact ⟨trivial,trivial,trivial,trivial⟩) HCov.nil (Nat.zero_le _) (Nat.le_refl _) ⟨?_,rfl,rfl⟩;try rfl);done)
   |(rw [if_neg (by omega),if_neg (by omega),if_neg (by omega)]
     refine QLoop.normal ⟨k+1,⟨by omega,?_⟩,by omega,⟨by omega,?_,?_⟩⟩
     ·first|rfl|(refine Eq.trans ?_ hE;symm;(conv=>lhs;rw [segsE]);rw [if_pos hkl,if_neg (by omega),if_neg (by omega),if_neg (by omega)])
     ·repeat (first|exact LCov.nil|refine LCov.same trivial rfl ?_|refine LCov.same (lt_dec rfl) rfl ?_|refine LCov.same ⟨trivial,lt_dec rfl,lt_dec rfl,lt_dec rfl,trivial⟩ rfl ?_|refine LCov.same ⟨trivial,lt_dec rfl,lt_dec rfl,trivial⟩ rfl ?_|refine LCov.same ⟨trivial,trivial⟩ rfl ?_|refine LCov.cons trivial rfl (.of_eq (lst_len (by simp<;>omega))) ?_)
     ·repeat (first|exact HCov.nil|(refine HCov.cons (lt_dec rfl) ?_ rfl ?_ ?_;(first|exact trivial|exact PVs.under_pure _ _|(simp [HB.under,PVs.under,PV.under]));(first|exact HLe.refl _|exact HLe.vec (FLes.refl _) (by simp)))))
 ·rw [segsE,if_neg hkl]
  repeat' (first|apply VWp.rseq|apply VWp.exitSeq|apply QSeq.normal|apply QBlk.exit|apply QLoop.exit|apply VWp.ret|apply VOps.nil|apply VOps.one|(apply VVal.assign;rfl)|(apply VVal.int;rfl;rfl;rfl)|(apply VWp.condSeq_dec;rfl)|(intro _;try (exfalso;omega)))
  all_goals first|(exfalso;omega)|(refine Done.ret rfl (.refl _) (by first|exact trivial|exact ⟨trivial,trivial,trivial⟩|exact ⟨trivial,trivial,trivial,trivial⟩) HCov.nil (Nat.zero_le _) (Nat.le_refl _) ⟨?_,rfl,rfl⟩;try rfl)
end Go.Proofs.YtdabojnmoejilaaGreatDoor
namespace Go.Proofs.YtdabojnmoejilaaGreatDoor
open Go Go.Am Go.Vm
attribute [local irreducible] VVal VOps VOpsD VWp VCalls VFun VFunV QSeq QBlk QLoop Vm.Done DoneV DoneI
attribute [local irreducible] rchk windsE
theorem inl_CFC {L:Vm.Frame} {H:Vm.Heap} {nx:Nat} {Q:PV→Vm.Heap→Nat→Prop} {dst:Option Tmp} {ty:TypeId} {pos:String} {af:Array Edge} {gd:Option (Nat×Bool)} {fo:Operand} {args:Array Operand} {aT:Array TypeId} {fs cs xs:List PV} {c:Code}
 (hf:vev env.Γ L fo=some (.clo 91 fs cs)) (ha:evs env.Γ L args.toList=some xs) (hb:Tryz.f91.body=some c) (hn:(fs++xs++cs).length≤Tryz.f91.ntmps)
 (h:VWp env nx c (argFrame 0 (fs++xs++cs)) H nx (DoneI env.P Tryz.f91.results.toList Q)):VVal env true ⟨dst,.call { callee:=.value fo,args:=args,argTypes:=aT },ty,pos,af,gd⟩ L H nx Q:=by
 have h0:(match Tryz.f91.body with|some c=>fnOk env.G Tryz.f91 c|none=>false)=true:=by kernel_rfl
 rw [hb] at h0
 exact VVal.inline rfl hf ha (env_none (by decide)) Tryz.func91 hb h0 hn h
theorem inl_IFC {L:Vm.Frame} {H:Vm.Heap} {nx:Nat} {Q:PV→Vm.Heap→Nat→Prop} {dst:Option Tmp} {ty:TypeId} {pos:String} {af:Array Edge} {gd:Option (Nat×Bool)} {fo:Operand} {args:Array Operand} {aT:Array TypeId} {fs cs xs:List PV} {c:Code}
 (hf:vev env.Γ L fo=some (.clo 94 fs cs)) (ha:evs env.Γ L args.toList=some xs) (hb:Tryz.f94.body=some c) (hn:(fs++xs++cs).length≤Tryz.f94.ntmps)
 (h:VWp env nx c (argFrame 0 (fs++xs++cs)) H nx (DoneI env.P Tryz.f94.results.toList Q)):VVal env true ⟨dst,.call { callee:=.value fo,args:=args,argTypes:=aT },ty,pos,af,gd⟩ L H nx Q:=by
 have h0:(match Tryz.f94.body with|some c=>fnOk env.G Tryz.f94 c|none=>false)=true:=by kernel_rfl
 rw [hb] at h0
 exact VVal.inline rfl hf ha (env_none (by decide)) Tryz.func94 hb h0 hn h
theorem inl_CC1 {L:Vm.Frame} {H:Vm.Heap} {nx:Nat} {Q:PV→Vm.Heap→Nat→Prop} {dst:Option Tmp} {ty:TypeId} {pos:String} {af:Array Edge} {gd:Option (Nat×Bool)} {fo:Operand} {args:Array Operand} {aT:Array TypeId} {fs cs xs:List PV} {c:Code}
 (hf:vev env.Γ L fo=some (.clo 92 fs cs)) (ha:evs env.Γ L args.toList=some xs) (hb:Tryz.f92.body=some c) (hn:(fs++xs++cs).length≤Tryz.f92.ntmps)
 (h:VWp env nx c (argFrame 0 (fs++xs++cs)) H nx (DoneI env.P Tryz.f92.results.toList Q)):VVal env true ⟨dst,.call { callee:=.value fo,args:=args,argTypes:=aT },ty,pos,af,gd⟩ L H nx Q:=by
 have h0:(match Tryz.f92.body with|some c=>fnOk env.G Tryz.f92 c|none=>false)=true:=by kernel_rfl
 rw [hb] at h0
 exact VVal.inline rfl hf ha (env_none (by decide)) Tryz.func92 hb h0 hn h
theorem coupler_spec (ks:List Cps) (l:List Cpl) (hk0:ks.length<1000000) (hl:l.length<1000000) (hn0:∀ i,i<l.length→(gi l i).name.length<1000000):VFun env 61 [.lst 94 (cells ks) ks.length,.lst 147 (cells l) l.length] (.p (.int .i64 (cplE ks l))):=by
 unfold cplE
 refine VFun.enter (env_none (by decide)) Tryz.func61 rfl (by kernel_rfl) (by simp [Tryz.ntmps61]) ?_
 by_cases h0:ks.length>8∨l.length>40
 ·rw [if_pos h0]
  repeat' (first|apply VWp.assoc|apply VWp.rseq|apply VWp.retSeq|apply VOps.nil|apply VOps.one|(apply VOps.take;rfl;rfl)|(apply VOps.drop;rfl;rfl;rfl)|(apply VOps.guard;rfl;rfl)|(apply VVal.assign;rfl)|(apply VVal.move;rfl)|(apply VVal.int;rfl;rfl;rfl)|(apply VVal.pick_true;rfl;rfl)|(apply VVal.pick_false;rfl;rfl)|(apply VVal.lenF;rfl;rfl)|(apply VWp.condSeq_true;rfl)|(apply VWp.condSeq_dec;rfl)|(intro _;try (exfalso;omega)))
  all_goals first|(exfalso;omega)|(refine Done.ret rfl (.refl _) (by first|exact trivial|exact ⟨trivial,trivial,trivial⟩|exact ⟨trivial,trivial,trivial,trivial⟩) HCov.nil (Nat.zero_le _) (Nat.le_refl _) ⟨?_,rfl,rfl⟩;try rfl)
 rw [if_neg h0]
 repeat' (first|apply VWp.assoc|apply VWp.rseq|apply VWp.skipSeq|apply VWp.blockSeq|apply VOps.nil|apply VOps.one|(apply VOps.take;rfl;rfl)|(apply VOps.guard;rfl;rfl)|(apply VVal.assign;rfl)|(apply VVal.move;rfl)|(apply VVal.int;rfl;rfl;rfl)|(apply VVal.pick_false;rfl;rfl)|(apply VVal.lenF;rfl;rfl)|(apply VWp.condSeq_dec;rfl)|(intro _;try (exfalso;omega)))
 all_goals try (exfalso;omega)
 refine VWp.loopQ (fun k:Nat=>[(0,lst 94 ks),(1,lst 147 l),(17,lst 94 ks),(18,.p (.int .i64 (ks.length:Int))),(19,.p (.int .i64 (k:Int)))]) (fun _=>[]) 0 (fun k=>k≤ks.length∧cpsE ks k=cpsE ks 0) (fun k=>ks.length-k) 0 (by omega) ⟨by omega,rfl⟩ ⟨by omega,?_,HCov.nil⟩ ?_
 ·repeat (first|exact LCov.nil|refine LCov.same trivial rfl ?_|refine LCov.same (lt_dec rfl) rfl ?_|refine LCov.same ⟨trivial,lt_dec rfl,trivial⟩ rfl ?_|refine LCov.same ⟨trivial,lt_dec rfl,lt_dec rfl,trivial⟩ rfl ?_|refine LCov.same ⟨trivial,lt_dec rfl,lt_dec rfl,lt_dec rfl,trivial⟩ rfl ?_|refine LCov.same ⟨trivial,lt_dec rfl,lt_dec rfl,lt_dec rfl,lt_dec rfl,trivial⟩ rfl ?_|refine LCov.same ⟨trivial,trivial⟩ rfl ?_|refine LCov.cons trivial rfl (.of_eq (lst_len (by simp<;>omega))) ?_)
 rintro k ⟨hk,hE⟩
 by_cases hkl:k<ks.length
 ·have hc:=cmp_spec (gi ks k).lo (gi ks k).hi
  by_cases h1:cmpE (gi ks k).lo (gi ks k).hi=0
  ·rw [h1] at hc
   repeat' (first|apply VWp.rseq|apply VWp.region|apply VWp.skipSeq|apply VWp.blockSeq|apply QSeq.normal|apply QBlk.normal|apply VWp.skip|apply VOps.nil|apply VOps.one|(apply VVal.fn;rfl;rfl;exact hc;intro _;rfl)|(apply VVal.move;rfl)|(apply VVal.add64;rfl;rfl;omega)|(apply VVal.int;rfl;rfl;rfl)|(apply VVal.indexN;rfl;rfl;rfl;omega;rfl)|(apply VVal.load;rfl;rfl)|(apply VVal.alloc;rfl)|(apply VVal.storeB;rfl;rfl;rfl;trivial;rfl;rfl;exact lt_dec rfl;exact le_dec rfl)|(apply VWp.condSeq_dec;rfl)|(apply VWp.cond_false;rfl)|(intro _;try (exfalso;omega)))
   all_goals try (exfalso;omega)
   all_goals try contradiction
   refine QLoop.normal ⟨k+1,⟨by omega,?_⟩,by omega,⟨by omega,?_,HCov.nil⟩⟩
   ·first|rfl|(refine Eq.trans ?_ hE;symm;(conv=>lhs;rw [cpsE]);rw [if_pos hkl,if_neg (fun h=>h h1)])
   ·repeat (first|exact LCov.nil|refine LCov.same trivial rfl ?_|refine LCov.same (lt_dec rfl) rfl ?_|refine LCov.same ⟨trivial,lt_dec rfl,trivial⟩ rfl ?_|refine LCov.same ⟨trivial,lt_dec rfl,lt_dec rfl,trivial⟩ rfl ?_|refine LCov.same ⟨trivial,lt_dec rfl,lt_dec rfl,lt_dec rfl,trivial⟩ rfl ?_|refine LCov.same ⟨trivial,lt_dec rfl,lt_dec rfl,lt_dec rfl,lt_dec rfl,trivial⟩ rfl ?_|refine LCov.same ⟨trivial,trivial⟩ rfl ?_|refine LCov.cons trivial rfl (.of_eq (lst_len (by simp<;>omega))) ?_)
  ·have e:cpsE ks 0=23:=by rw [← hE,cpsE,if_pos hkl,if_pos h1]
   rw [if_pos (by rw [e];decide),e]
   repeat' (first|apply VWp.rseq|apply VWp.skipSeq|apply VWp.blockSeq|apply QSeq.ret|apply QBlk.ret|apply QLoop.ret|apply VWp.ret|apply VOps.nil|apply VOps.one|(apply VVal.fn;rfl;rfl;exact hc;intro _;rfl)|(apply VVal.assign;rfl)|(apply VVal.int;rfl;rfl;rfl)|(apply VVal.indexN;rfl;rfl;rfl;omega;rfl)|(apply VVal.load;rfl;rfl)|(apply VVal.alloc;rfl)|(apply VVal.storeB;rfl;rfl;rfl;trivial;rfl;rfl;exact lt_dec rfl;exact le_dec rfl)|(apply VWp.condSeq_dec;rfl)|(apply VWp.cond_dec;rfl)|(intro _;try (exfalso;omega)))
   all_goals first|(exfalso;omega)|contradiction|(refine Done.ret rfl (.refl _) (by first|exact trivial|exact ⟨trivial,trivial,trivial⟩|exact ⟨trivial,trivial,trivial,trivial⟩) HCov.nil (Nat.zero_le _) (Nat.le_refl _) ⟨?_,rfl,rfl⟩;try rfl)
 obtain rfl:k=ks.length:=by omega
 have e:cpsE ks 0=0:=by rw [← hE,cpsE,if_neg (by omega)]
 rw [if_neg (fun h=>h e)]
 repeat' (first|apply VWp.assoc|apply VWp.rseq|apply VWp.exitSeq|apply VWp.blockSeq|apply QSeq.normal|apply QBlk.exit|apply QLoop.exit|apply VOps.nil|apply VOps.one|(apply VVal.move;rfl)|(apply VVal.int;rfl;rfl;rfl)|(apply VVal.lenF;rfl;rfl)|(apply VWp.condSeq_dec;rfl)|(intro _;try (exfalso;omega)))
 all_goals try (exfalso;omega)
 refine VWp.loopQ (fun k:Nat=>[(0,lst 94 ks),(1,lst 147 l),(27,lst 147 l),(28,.p (.int .i64 (l.length:Int))),(29,.p (.int .i64 (k:Int)))]) (fun _=>[]) 0 (fun k=>k≤l.length∧cplsE ks.length l k=cplsE ks.length l 0) (fun k=>l.length-k) 0 (by omega) ⟨by omega,rfl⟩ ⟨by omega,?_,HCov.nil⟩ ?_
 ·repeat (first|exact LCov.nil|refine LCov.same trivial rfl ?_|refine LCov.same (lt_dec rfl) rfl ?_|refine LCov.same ⟨trivial,lt_dec rfl,trivial⟩ rfl ?_|refine LCov.same ⟨trivial,lt_dec rfl,lt_dec rfl,trivial⟩ rfl ?_|refine LCov.same ⟨trivial,lt_dec rfl,lt_dec rfl,lt_dec rfl,trivial⟩ rfl ?_|refine LCov.same ⟨trivial,lt_dec rfl,lt_dec rfl,lt_dec rfl,lt_dec rfl,trivial⟩ rfl ?_|refine LCov.same ⟨trivial,trivial⟩ rfl ?_|refine LCov.cons trivial rfl (.of_eq (lst_len (by simp<;>omega))) ?_)
 rintro k ⟨hk,hE⟩
 rw [← hE]
 by_cases hkl:k<l.length
 case neg =>
  rw [cplsE,if_neg hkl]
  repeat' (first|apply VWp.rseq|apply VWp.exitSeq|apply QSeq.normal|apply QBlk.exit|apply QLoop.exit|apply VWp.ret|apply VOps.nil|apply VOps.one|(apply VVal.assign;rfl)|(apply VVal.int;rfl;rfl;rfl)|(apply VWp.condSeq_dec;rfl)|(intro _;try (exfalso;omega)))
  all_goals first|(exfalso;omega)|(refine Done.ret rfl (.refl _) (by first|exact trivial|exact ⟨trivial,trivial,trivial⟩|exact ⟨trivial,trivial,trivial,trivial⟩) HCov.nil (Nat.zero_le _) (Nat.le_refl _) ⟨?_,rfl,rfl⟩;try rfl)
 rw [cplsE,if_pos hkl]
 have hN:=isName_spec (gi l k).name (by have:=hn0 k hkl;omega)
 by_cases h1:nameOk (gi l k).name
 case neg =>
  rw [if_pos h1]
  rw [decide_eq_false h1] at hN
  repeat' (first|apply VWp.rseq|apply VWp.skipSeq|apply VWp.blockSeq|apply QSeq.ret|apply QBlk.ret|apply QLoop.ret|apply VWp.ret|apply VWp.blockQ|apply VOps.nil|apply VOps.one|(apply VVal.fn;rfl;rfl;exact hN;intro _;rfl)|(apply VVal.assign;rfl)|(apply VVal.move;rfl)|(apply VVal.int;rfl;rfl;rfl)|(apply VVal.indexN;rfl;rfl;rfl;omega;rfl)|(apply VVal.load;rfl;rfl)|(apply VVal.fieldB;rfl;rfl;rfl)|(apply VVal.alloc;rfl)|(apply VVal.storeB;rfl;rfl;rfl;trivial;rfl;rfl;exact lt_dec rfl;exact le_dec rfl)|(apply VVal.not;rfl)|(apply VWp.condSeq_dec;rfl)|(apply VWp.cond_true;rfl)|(intro _;try (exfalso;omega)))
  all_goals first|(exfalso;omega)|contradiction|(refine Done.ret rfl (.refl _) (by first|exact trivial|exact ⟨trivial,trivial,trivial⟩|exact ⟨trivial,trivial,trivial,trivial⟩) HCov.nil (Nat.zero_le _) (Nat.le_refl _) ⟨?_,rfl,rfl⟩;try rfl)
 rw [if_neg (fun h=>h h1)]
 rw [decide_eq_true h1] at hN
 have hT:(gi l k).name∈(l.take k).map Cpl.name↔∃ j,j<k∧(gi l j).name=(gi l k).name:=by
  rw [List.mem_map]
  constructor
  ·rintro ⟨a,ha,e⟩
   obtain ⟨j,h1,h2⟩:=mem_gi.1 ha
   rw [List.length_take] at h1
   rw [gi_take (by omega)] at h2
   exact ⟨j,by omega,by rw [h2,e]⟩
  ·rintro ⟨j,hj,e⟩
   exact ⟨gi l j,mem_gi.2 ⟨j,by rw [List.length_take];omega,gi_take hj⟩,e⟩
 repeat' (first|apply VWp.assoc|apply VWp.rseq|apply VWp.skipSeq|apply VWp.blockSeq|apply VWp.blockQ|apply VOps.nil|apply VOps.one|(apply VVal.fn;rfl;rfl;exact hN;intro _;rfl)|(apply inl_CFC;rfl;rfl;rfl;exact le_dec rfl)|(apply inl_IFC;rfl;rfl;rfl;exact le_dec rfl)|(apply VVal.makeFunc;rfl;rfl)|(apply VVal.sliceTo;rfl;rfl;rfl;rfl;rfl;rfl;omega)|(apply VVal.assign;rfl)|(apply VVal.move;rfl)|(apply VVal.int;rfl;rfl;rfl)|(apply VVal.indexN;rfl;rfl;rfl;omega;rfl)|(apply VVal.load;rfl;rfl)|(apply VVal.lenF;rfl;rfl)|(apply VVal.fieldB;rfl;rfl;rfl)|(apply VVal.alloc;rfl)|(apply VVal.storeB;rfl;rfl;rfl;trivial;rfl;rfl;exact lt_dec rfl;exact le_dec rfl)|(apply VVal.not;rfl)|(apply VWp.condSeq_dec;rfl)|(apply VWp.cond_false;rfl)|(intro _;try (exfalso;omega)))
 all_goals try (exfalso;omega)
 all_goals try contradiction
 refine VWp.loopQ (fun j:Nat=>[(0,.p (.lst 147 (cells (l.take k)) k)),(1,.clo 92 [] [.ref 0 0]),(7,.p (.int .i64 (k:Int))),(8,.p (.int .i64 (j:Int)))]) (fun _=>[(0,.box 147 ((Enc.enc (gi l k)).map .p))]) 1 (fun j=>j≤k∧∀ i,i<j→(gi l i).name≠(gi l k).name) (fun j=>k-j) 0 (by omega) ⟨by omega,fun i hi=>by omega⟩ ⟨by omega,?_,?_⟩ ?_
 ·repeat (first|exact LCov.nil|refine LCov.same trivial rfl ?_|refine LCov.same (lt_dec rfl) rfl ?_|refine LCov.same ⟨trivial,lt_dec rfl,trivial⟩ rfl ?_|refine LCov.same ⟨trivial,lt_dec rfl,lt_dec rfl,trivial⟩ rfl ?_|refine LCov.same ⟨trivial,lt_dec rfl,lt_dec rfl,lt_dec rfl,trivial⟩ rfl ?_|refine LCov.same ⟨trivial,lt_dec rfl,lt_dec rfl,lt_dec rfl,lt_dec rfl,trivial⟩ rfl ?_|refine LCov.same ⟨trivial,trivial⟩ rfl ?_|refine LCov.cons trivial rfl (.of_eq (lst_len (by simp<;>omega))) ?_)
 ·repeat (first|exact HCov.nil|(refine HCov.cons (lt_dec rfl) ?_ rfl ?_ ?_;(first|exact trivial|exact PVs.under_pure _ _|(simp [HB.under,PVs.under,PV.under]));(first|exact HLe.refl _|exact HLe.vec (FLes.refl _) (by simp))))
 rintro j ⟨hj,hok⟩
 by_cases hjk:j<k
 ·have hgt:gi (l.take k) j=gi l j:=gi_take hjk
  have hlt:(l.take k).length=k:=by rw [List.length_take];omega
  generalize hg:decide ((gi l j).name=(gi l k).name)=g at *
  have hg2:decide ((gi (l.take k) j).name=(gi l k).name)=g:=by rw [hgt];exact hg
  cases g
  ·repeat' (first|apply VWp.rseq|apply VWp.region|apply VWp.skipSeq|apply VWp.blockSeq|apply QSeq.normal|(apply DoneI.ret;rfl)|apply QBlk.normal|apply VWp.ret|apply VWp.skip|apply VOps.nil|apply VOps.one|(apply inl_CC1;rfl;rfl;rfl;exact le_dec rfl)|(apply VVal.eqSd;rfl;rfl;exact hg2)|(apply VVal.indexN (l:=l.take k) (i:=j);rfl;rfl;rfl;omega;exact hlt)|(apply VVal.assign;rfl)|(apply VVal.move;rfl)|(apply VVal.add64;rfl;rfl;omega)|(apply VVal.int;rfl;rfl;rfl)|(apply VVal.load;rfl;rfl)|(apply VVal.fieldB;rfl;rfl;rfl)|(apply VVal.box;rfl;trivial)|(apply VWp.condSeq_dec;rfl)|(apply VWp.cond_false;rfl)|(intro _;try (exfalso;omega)))
   all_goals try (exfalso;omega)
   refine QLoop.normal ⟨j+1,⟨by omega,fun i hi=>?_⟩,by omega,⟨by omega,?_,?_⟩⟩
   ·rcases Nat.lt_or_ge i j with h|h
    ·exact hok i h
    ·obtain rfl:i=j:=by omega
     exact of_decide_eq_false hg
   ·repeat (first|exact LCov.nil|refine LCov.same trivial rfl ?_|refine LCov.same (lt_dec rfl) rfl ?_|refine LCov.same ⟨trivial,lt_dec rfl,trivial⟩ rfl ?_|refine LCov.same ⟨trivial,lt_dec rfl,lt_dec rfl,trivial⟩ rfl ?_|refine LCov.same ⟨trivial,lt_dec rfl,lt_dec rfl,lt_dec rfl,trivial⟩ rfl ?_|refine LCov.same ⟨trivial,lt_dec rfl,lt_dec rfl,lt_dec rfl,lt_dec rfl,trivial⟩ rfl ?_|refine LCov.same ⟨trivial,trivial⟩ rfl ?_|refine LCov.cons trivial rfl (.of_eq (lst_len (by simp<;>omega))) ?_)
   ·repeat (first|exact HCov.nil|(refine HCov.cons (lt_dec rfl) ?_ rfl ?_ ?_;(first|exact trivial|exact PVs.under_pure _ _|(simp [HB.under,PVs.under,PV.under]));(first|exact HLe.refl _|exact HLe.vec (FLes.refl _) (by simp))))
  ·rw [if_pos (hT.2 ⟨j,hjk,of_decide_eq_true hg⟩)]
   repeat' (first|apply VWp.rseq|apply VWp.skipSeq|apply VWp.blockSeq|apply QSeq.ret|(apply DoneI.ret;rfl)|apply QBlk.ret|apply QLoop.ret|apply VWp.ret|apply VOps.nil|apply VOps.one|(apply inl_CC1;rfl;rfl;rfl;exact le_dec rfl)|(apply VVal.eqSd;rfl;rfl;exact hg2)|(apply VVal.indexN (l:=l.take k) (i:=j);rfl;rfl;rfl;omega;exact hlt)|(apply VVal.assign;rfl)|(apply VVal.move;rfl)|(apply VVal.int;rfl;rfl;rfl)|(apply VVal.load;rfl;rfl)|(apply VVal.fieldB;rfl;rfl;rfl)|(apply VVal.box;rfl;trivial)|(apply VWp.condSeq_dec;rfl)|(apply VWp.cond_true;rfl)|(intro _;try (exfalso;omega)))
   all_goals first|(exfalso;omega)|contradiction|(refine Done.ret rfl (.refl _) (by first|exact trivial|exact ⟨trivial,trivial,trivial⟩|exact ⟨trivial,trivial,trivial,trivial⟩) HCov.nil (Nat.zero_le _) (Nat.le_refl _) ⟨?_,rfl,rfl⟩;try rfl)
 obtain rfl:j=k:=by omega
 rw [if_neg (fun h=>by obtain ⟨i,h1,h2⟩:=hT.1 h;exact hok i h1 h2)]
 repeat' (first|apply VWp.rseq|apply VWp.region|apply VWp.exitSeq|apply QSeq.normal|apply QSeq.ret|(apply DoneI.ret;rfl)|apply QBlk.normal|apply QBlk.ret|apply QBlk.exit|apply QLoop.ret|apply QLoop.exit|apply VWp.ret|apply VWp.skip|apply VOps.nil|apply VOps.one|(apply VOps.take;rfl;rfl)|(apply VOps.drop;rfl;rfl;rfl)|(apply VOps.guard;rfl;rfl)|(apply VVal.assign;rfl)|(apply VVal.move;rfl)|(apply VVal.add64;rfl;rfl;omega)|(apply VVal.int;rfl;rfl;rfl)|(apply VVal.load;rfl;rfl)|(apply VVal.pick_true;rfl;rfl)|(apply VVal.pick_false;rfl;rfl)|(apply VVal.lenF;rfl;rfl)|(apply VVal.fieldB;rfl;rfl;rfl)|(apply VWp.condSeq_dec;rfl)|(apply VWp.cond_true;rfl)|(apply VWp.cond_false;rfl)|(apply VWp.cond_dec;rfl)|(intro _;try (exfalso;omega)))
 all_goals try (exfalso;omega)
 all_goals try contradiction
 all_goals first
  |(rw [if_pos (by omega)];(refine Done.ret rfl (.refl _) (by first|exact trivial|exact ⟨trivial,trivial,trivial⟩|exact ⟨trivial,trivial,trivial,trivial⟩) HCov.nil (Nat.zero_le _) (Nat.le_refl _) ⟨?_,rfl,rfl⟩;try rfl);done)
  |(rw [if_neg (by omega),if_pos (by omega)];(refine Done.ret rfl (.refl _) (by first|exact trivial|exact ⟨trivial,trivial,trivial⟩|exact ⟨trivial,trivial,trivial,trivial⟩) HCov.nil (Nat.zero_le _) (Nat.le_refl _) ⟨?_,rfl,rfl⟩;try rfl);done)
  |(rw [if_neg (by omega),if_neg (by omega),if_pos (by omega)];(refine Done.ret rfl (.refl _) (by first|exact trivial|exact ⟨trivial,trivial,trivial⟩|exact ⟨trivial,trivial,trivial,trivial⟩) HCov.nil (Nat.zero_le _) (Nat.le_refl _) ⟨?_,rfl,rfl⟩;try rfl);done)
  |(rw [if_neg (by omega),if_neg (by omega),if_neg (by omega)]
    refine QLoop.normal ⟨j+1,⟨by omega,?_⟩,by omega,⟨by omega,?_,HCov.nil⟩⟩
    ·first|rfl|(refine Eq.trans ?_ hE;symm;(conv=>lhs;rw [cplsE]);rw [if_pos hkl,if_neg (fun h=>h h1),if_neg (fun h=>by obtain ⟨i,h1,h2⟩:=hT.1 h;exact hok i h1 h2),if_neg (by omega),if_neg (by omega),if_neg (by omega)])
    ·repeat (first|exact LCov.nil|refine LCov.same trivial rfl ?_|refine LCov.same (lt_dec rfl) rfl ?_|refine LCov.same ⟨trivial,lt_dec rfl,trivial⟩ rfl ?_|refine LCov.same ⟨trivial,lt_dec rfl,lt_dec rfl,trivial⟩ rfl ?_|refine LCov.same ⟨trivial,lt_dec rfl,lt_dec rfl,lt_dec rfl,trivial⟩ rfl ?_|refine LCov.same ⟨trivial,lt_dec rfl,lt_dec rfl,lt_dec rfl,lt_dec rfl,trivial⟩ rfl ?_|refine LCov.same ⟨trivial,trivial⟩ rfl ?_|refine LCov.cons trivial rfl (.of_eq (lst_len (by simp<;>omega))) ?_))
end Go.Proofs.YtdabojnmoejilaaGreatDoor
namespace Go.Proofs.YtdabojnmoejilaaGreatDoor
open Go Go.Am Go.Vm
attribute [local irreducible] VVal VOps VOpsD VWp VCalls VFun VFunV QSeq QBlk QLoop Vm.Done DoneV DoneI
attribute [local irreducible] rchk windsE stoE dvsE cplE
theorem names_snoc {α:Type} [Inhabited α] (f:α→List UInt8) {l:List α} {k:Nat} (hk:k<l.length):(l.take (k+1)).map f=(l.take k).map f++[f (gi l k)]:=by
 rw [take_succ_gi hk,List.map_append];rfl
theorem inl_AG {L:Vm.Frame} {H:Vm.Heap} {nx:Nat} {Q:PV→Vm.Heap→Nat→Prop} {dst:Option Tmp} {ty:TypeId} {pos:String} {af:Array Edge} {gd:Option (Nat×Bool)} {fo:Operand} {args:Array Operand} {aT:Array TypeId} {fs cs xs:List PV} {c:Code}
 (hf:vev env.Γ L fo=some (.clo 59 fs cs)) (ha:evs env.Γ L args.toList=some xs) (hb:Tryz.f59.body=some c) (hn:(fs++xs++cs).length≤Tryz.f59.ntmps)
 (h:VWp env nx c (argFrame 0 (fs++xs++cs)) H nx (DoneI env.P Tryz.f59.results.toList Q)):VVal env true ⟨dst,.call { callee:=.value fo,args:=args,argTypes:=aT },ty,pos,af,gd⟩ L H nx Q:=by
 have h0:(match Tryz.f59.body with|some c=>fnOk env.G Tryz.f59 c|none=>false)=true:=by kernel_rfl
 rw [hb] at h0
 exact VVal.inline rfl hf ha (env_none (by decide)) Tryz.func59 hb h0 hn h
theorem division_spec (o:Org) (d:Dvs) (ho:OrgSm o) (hd:DvsSm d):VFun env 60 [.agg (Enc.enc o),.agg (Enc.enc d)] (.p (.int .i64 (dvsE o.ranks d))):=by
 have hc:=cmp_spec d.lo d.hi
 obtain ⟨d1,d2,d3⟩:=hd
 unfold dvsE
 refine VFun.enter (env_none (by decide)) Tryz.func60 rfl (by kernel_rfl) (by simp [Tryz.ntmps60]) ?_
 by_cases h0:cmpE d.lo d.hi=0
 case neg =>
  rw [if_pos h0]
  repeat' (first|apply VWp.assoc|apply VWp.rseq|apply VWp.retSeq|apply VOps.nil|apply VOps.one|(apply VVal.fn;rfl;rfl;exact hc;intro _;rfl)|(apply VVal.assign;rfl)|(apply VVal.move;rfl)|(apply VVal.int;rfl;rfl;rfl)|(apply VVal.load;rfl;rfl)|(apply VVal.fieldB;rfl;rfl;rfl)|(apply VVal.box;rfl;trivial)|(apply VWp.condSeq_dec;rfl)|(intro _;try (exfalso;omega)))
  all_goals first|(exfalso;omega)|(refine Done.ret rfl (.refl _) (by first|exact trivial|exact ⟨trivial,trivial,trivial⟩|exact ⟨trivial,trivial,trivial,trivial⟩) HCov.nil (Nat.zero_le _) (Nat.le_refl _) ⟨?_,rfl,rfl⟩;try rfl)
 rw [h0] at hc ⊢
 rw [if_neg (by decide)]
 repeat' (first|apply VWp.assoc|apply VWp.rseq|apply VWp.skipSeq|apply VWp.retSeq|apply VWp.blockSeq|apply VOps.nil|apply VOps.one|(apply VVal.fn;rfl;rfl;exact hc;intro _;rfl)|(apply VVal.makeMap)|(apply VVal.assign;rfl)|(apply VVal.move;rfl)|(apply VVal.int;rfl;rfl;rfl)|(apply VVal.load;rfl;rfl)|(apply VVal.lenF;rfl;rfl)|(apply VVal.fieldB;rfl;rfl;rfl)|(apply VVal.box;rfl;trivial)|(apply VWp.condSeq_false;rfl)|(apply VWp.condSeq_dec;rfl)|(intro _;try (exfalso;omega)))
 all_goals try contradiction
 ·rw [if_pos (by omega)];(refine Done.ret rfl (.refl _) (by first|exact trivial|exact ⟨trivial,trivial,trivial⟩|exact ⟨trivial,trivial,trivial,trivial⟩) HCov.nil (Nat.zero_le _) (Nat.le_refl _) ⟨?_,rfl,rfl⟩;try rfl)
 rw [if_neg (by omega)]
 refine VWp.loopQ (fun k:Nat=>[(2,.ref 0 0),(3,.ref 1 0),(6,.mref 2),(23,lst 122 d.stops),(24,.p (.int .i64 (d.stops.length:Int))),(25,.p (.int .i64 (k:Int)))]) (fun k=>[(2,.map (setE ((d.stops.take k).map Stp.name))),(1,.box 97 ((Enc.enc d).map .p)),(0,.box 37 ((Enc.enc o).map .p))]) 3 (fun k=>k≤d.stops.length∧stosE o.ranks d.lo d.hi d.stops k=stosE o.ranks d.lo d.hi d.stops 0) (fun k=>d.stops.length-k) 0 (by omega) ⟨by omega,rfl⟩ ⟨by omega,?_,?_⟩ ?_
 ·repeat (first|exact LCov.nil|refine LCov.same trivial rfl ?_|refine LCov.same (lt_dec rfl) rfl ?_|refine LCov.same ⟨trivial,lt_dec rfl,lt_dec rfl,lt_dec rfl,trivial⟩ rfl ?_|refine LCov.same ⟨trivial,lt_dec rfl,lt_dec rfl,trivial⟩ rfl ?_|refine LCov.same ⟨trivial,trivial⟩ rfl ?_|refine LCov.cons trivial rfl (.of_eq (lst_len (by simp<;>omega))) ?_)
 ·repeat (first|exact HCov.nil|(refine HCov.cons (lt_dec rfl) ?_ rfl ?_ ?_;(first|exact trivial|exact PVs.under_pure _ _|(simp [HB.under,PVs.under,PV.under]));(first|exact HLe.refl _|exact HLe.vec (FLes.refl _) (by simp))))
 rintro k ⟨hk,hE⟩
 rw [← hE]
 by_cases hkl:k<d.stops.length
 case neg =>
  rw [stosE,if_neg hkl]
  repeat' (first|apply VWp.rseq|apply VWp.exitSeq|apply QSeq.normal|apply QBlk.exit|apply QLoop.exit|apply VWp.ret|apply VOps.nil|apply VOps.one|(apply VVal.assign;rfl)|(apply VVal.int;rfl;rfl;rfl)|(apply VWp.condSeq_dec;rfl)|(intro _;try (exfalso;omega)))
  all_goals first|(exfalso;omega)|(refine Done.ret rfl (.refl _) (by first|exact trivial|exact ⟨trivial,trivial,trivial⟩|exact ⟨trivial,trivial,trivial,trivial⟩) HCov.nil (Nat.zero_le _) (Nat.le_refl _) ⟨?_,rfl,rfl⟩;try rfl)
 rw [stosE,if_pos hkl]
 have hst:=stop_spec o.ranks d.lo d.hi (gi d.stops k) ho.ranks ho.rk (d3 k hkl)
 by_cases h1:stoE o.ranks d.lo d.hi (gi d.stops k)=0
 case neg =>
  rw [if_pos h1]
  repeat' (first|apply VWp.assoc|apply VWp.rseq|apply VWp.skipSeq|apply VWp.retSeq|apply VWp.blockSeq|apply QSeq.ret|apply QBlk.ret|apply QLoop.ret|apply VOps.nil|apply VOps.one|(apply VVal.fn;rfl;rfl;exact hst;intro _;rfl)|(apply VVal.assign;rfl)|(apply VVal.move;rfl)|(apply VVal.int;rfl;rfl;rfl)|(apply VVal.indexN;rfl;rfl;rfl;omega;rfl)|(apply VVal.load;rfl;rfl)|(apply VVal.fieldB;rfl;rfl;rfl)|(apply VVal.alloc;rfl)|(apply VVal.storeB;rfl;rfl;rfl;trivial;rfl;rfl;exact lt_dec rfl;exact le_dec rfl)|(apply VVal.build;rfl;rfl;rfl;rfl;rfl)|(apply VWp.condSeq_dec;rfl)|(intro _;try (exfalso;omega)))
  all_goals first|(exfalso;omega)|contradiction|(refine Done.ret rfl (.refl _) (by first|exact trivial|exact ⟨trivial,trivial,trivial⟩|exact ⟨trivial,trivial,trivial,trivial⟩) HCov.nil (Nat.zero_le _) (Nat.le_refl _) ⟨?_,rfl,rfl⟩;try rfl)
 rw [h1] at hst ⊢
 rw [if_neg (by decide)]
 by_cases h2:(gi d.stops k).name∈(d.stops.take k).map Stp.name
 ·rw [if_pos h2]
  repeat' (first|apply VWp.assoc|apply VWp.rseq|apply VWp.skipSeq|apply VWp.retSeq|apply VWp.blockSeq|apply QSeq.ret|(apply DoneI.ret;rfl)|apply QBlk.ret|apply QLoop.ret|apply VWp.ret|apply VOps.nil|apply VOps.one|(apply VVal.fn;rfl;rfl;exact hst;intro _;rfl)|(apply inl_AG;rfl;rfl;rfl;exact le_dec rfl)|(apply VVal.lookupSet;rfl;rfl;rfl;rfl;rfl;rfl)|(apply VVal.assign;rfl)|(apply VVal.move;rfl)|(apply VVal.int;rfl;rfl;rfl)|(apply VVal.indexN;rfl;rfl;rfl;omega;rfl)|(apply VVal.load;rfl;rfl)|(apply VVal.fieldB;rfl;rfl;rfl)|(apply VVal.alloc;rfl)|(apply VVal.storeB;rfl;rfl;rfl;trivial;rfl;rfl;exact lt_dec rfl;exact le_dec rfl)|(apply VVal.build;rfl;rfl;rfl;rfl;rfl)|(apply VWp.condSeq_false;rfl)|(apply VWp.condSeq_dec;rfl)|(apply VWp.cond_true;rfl)|(intro _;try (exfalso;omega)))
  all_goals first|(exfalso;omega)|contradiction|(refine Done.ret rfl (.refl _) (by first|exact trivial|exact ⟨trivial,trivial,trivial⟩|exact ⟨trivial,trivial,trivial,trivial⟩) HCov.nil (Nat.zero_le _) (Nat.le_refl _) ⟨?_,rfl,rfl⟩;try rfl)
 ·rw [if_neg h2]
  repeat' (first|apply VWp.assoc|apply VWp.rseq|apply VWp.region|apply VWp.skipSeq|apply VWp.retSeq|apply VWp.blockSeq|apply QSeq.normal|apply QSeq.ret|(apply DoneI.ret;rfl)|apply QBlk.normal|apply QBlk.ret|apply QLoop.ret|apply VWp.ret|apply VWp.skip|apply VOps.nil|apply VOps.one|(apply VVal.fn;rfl;rfl;exact hst;intro _;rfl)|(apply inl_AG;rfl;rfl;rfl;exact le_dec rfl)|(apply VVal.lookupSet;rfl;rfl;rfl;rfl;rfl;rfl)|(apply VVal.addSet;rfl;rfl;rfl;rfl;rfl;rfl;exact h2)|(apply VVal.assign;rfl)|(apply VVal.move;rfl)|(apply VVal.add64;rfl;rfl;omega)|(apply VVal.int;rfl;rfl;rfl)|(apply VVal.indexN;rfl;rfl;rfl;omega;rfl)|(apply VVal.load;rfl;rfl)|(apply VVal.fieldB;rfl;rfl;rfl)|(apply VVal.alloc;rfl)|(apply VVal.storeB;rfl;rfl;rfl;trivial;rfl;rfl;exact lt_dec rfl;exact le_dec rfl)|(apply VVal.build;rfl;rfl;rfl;rfl;rfl)|(apply VWp.condSeq_false;rfl)|(apply VWp.condSeq_dec;rfl)|(apply VWp.cond_true;rfl)|(apply VWp.cond_false;rfl)|(intro _;try (exfalso;omega)))
  all_goals try (exfalso;omega)
  all_goals try contradiction
  refine QLoop.normal ⟨k+1,⟨by omega,?_⟩,by omega,⟨by omega,?_,?_⟩⟩
  ·first|rfl|(refine Eq.trans ?_ hE;symm;(conv=>lhs;rw [stosE]);rw [if_pos hkl,if_neg (fun h=>h h1),if_neg h2])
  ·repeat (first|exact LCov.nil|refine LCov.same trivial rfl ?_|refine LCov.same (lt_dec rfl) rfl ?_|refine LCov.same ⟨trivial,lt_dec rfl,lt_dec rfl,lt_dec rfl,trivial⟩ rfl ?_|refine LCov.same ⟨trivial,lt_dec rfl,lt_dec rfl,trivial⟩ rfl ?_|refine LCov.same ⟨trivial,trivial⟩ rfl ?_|refine LCov.cons trivial rfl (.of_eq (lst_len (by simp<;>omega))) ?_)
  ·rw [names_snoc Stp.name hkl];repeat (first|exact HCov.nil|(refine HCov.cons (lt_dec rfl) ?_ rfl ?_ ?_;(first|exact trivial|exact PVs.under_pure _ _|(simp [HB.under,PVs.under,PV.under]));(first|exact HLe.refl _|exact HLe.vec (FLes.refl _) (by simp))))
theorem ocheck_spec (o:Org) (ho:OrgSm o):VFun env 35 [.agg (Enc.enc o)] (.p (.int .i64 (orgE o))):=by
 have hn:=isName_spec o.name (by have:=ho.name;omega)
 have b1:=ho.ranks
 have b2:=ho.divs
 unfold orgE
 refine VFun.enter (env_none (by decide)) Tryz.func35 rfl (by kernel_rfl) (by simp [Tryz.ntmps35]) ?_
 by_cases h0:nameOk o.name
 case neg =>
  rw [if_pos h0]
  rw [decide_eq_false h0] at hn
  repeat' (first|apply VWp.rseq|apply VWp.blockSeq|apply QSeq.ret|apply QBlk.ret|apply VWp.ret|apply VOps.nil|apply VOps.one|(apply VVal.fn;rfl;rfl;exact hn;intro _;rfl)|(apply VVal.assign;rfl)|(apply VVal.load;rfl;rfl)|(apply VVal.fieldB;rfl;rfl;rfl)|(apply VVal.box;rfl;trivial)|(apply VVal.not;rfl)|(apply VWp.cond_true;rfl))
  all_goals first|(exfalso;omega)|contradiction|(refine Done.ret rfl (.refl _) (by first|exact trivial|exact ⟨trivial,trivial,trivial⟩|exact ⟨trivial,trivial,trivial,trivial⟩) HCov.nil (Nat.zero_le _) (Nat.le_refl _) ⟨?_,rfl,rfl⟩;try rfl)
 rw [if_neg (fun h=>h h0)]
 rw [decide_eq_true h0] at hn
 repeat' (first|apply VWp.assoc|apply VWp.rseq|apply VWp.blockSeq|apply QSeq.normal|apply QSeq.ret|apply QBlk.normal|apply QBlk.ret|apply VWp.ret|apply VWp.skip|apply VOps.nil|apply VOps.one|(apply VVal.fn;rfl;rfl;exact hn;intro _;rfl)|(apply VVal.makeMap)|(apply VVal.assign;rfl)|(apply VVal.move;rfl)|(apply VVal.int;rfl;rfl;rfl)|(apply VVal.load;rfl;rfl)|(apply VVal.lenF;rfl;rfl)|(apply VVal.fieldB;rfl;rfl;rfl)|(apply VVal.box;rfl;trivial)|(apply VVal.not;rfl)|(apply VWp.cond_false;rfl)|(apply VWp.cond_dec;rfl)|(intro _;try (exfalso;omega)))
 all_goals try contradiction
 ·rw [if_pos (by omega)];(refine Done.ret rfl (.refl _) (by first|exact trivial|exact ⟨trivial,trivial,trivial⟩|exact ⟨trivial,trivial,trivial,trivial⟩) HCov.nil (Nat.zero_le _) (Nat.le_refl _) ⟨?_,rfl,rfl⟩;try rfl)
 rw [if_neg (by omega)]
 refine VWp.loopQ (fun k:Nat=>[(1,.ref 0 0),(3,.mref 1),(25,lst 131 o.ranks),(26,.p (.int .i64 (o.ranks.length:Int))),(27,.p (.int .i64 (k:Int)))]) (fun k=>[(1,.map (setE ((o.ranks.take k).map Rnk.name))),(0,.box 37 ((Enc.enc o).map .p))]) 2 (fun k=>k≤o.ranks.length∧rnkE o.ranks k=rnkE o.ranks 0) (fun k=>o.ranks.length-k) 0 (by omega) ⟨by omega,rfl⟩ ⟨by omega,?_,?_⟩ ?_
 ·repeat (first|exact LCov.nil|refine LCov.same trivial rfl ?_|refine LCov.same (lt_dec rfl) rfl ?_|refine LCov.same ⟨trivial,lt_dec rfl,lt_dec rfl,lt_dec rfl,trivial⟩ rfl ?_|refine LCov.same ⟨trivial,lt_dec rfl,lt_dec rfl,trivial⟩ rfl ?_|refine LCov.same ⟨trivial,trivial⟩ rfl ?_|refine LCov.cons trivial rfl (.of_eq (lst_len (by simp<;>omega))) ?_)
 ·repeat (first|exact HCov.nil|(refine HCov.cons (lt_dec rfl) ?_ rfl ?_ ?_;(first|exact trivial|exact PVs.under_pure _ _|(simp [HB.under,PVs.under,PV.under]));(first|exact HLe.refl _|exact HLe.vec (FLes.refl _) (by simp))))
 rintro k ⟨hk,hE⟩
 by_cases hkl:k<o.ranks.length
 ·have hsm:=(ho.rk k hkl).len
  have hc:=rcheck_spec (gi o.ranks k) hsm.1 hsm.2.1 hsm.2.2
  by_cases h1:rchk (gi o.ranks k)=0
  case neg =>
   have e:rnkE o.ranks 0=rchk (gi o.ranks k):=by rw [← hE,rnkE,if_pos hkl,if_pos h1]
   rw [e,if_pos h1]
   repeat' (first|apply VWp.assoc|apply VWp.rseq|apply VWp.skipSeq|apply VWp.retSeq|apply VWp.blockSeq|apply QSeq.ret|apply QBlk.ret|apply QLoop.ret|apply VOps.nil|apply VOps.one|(apply VVal.fn;rfl;rfl;exact hc;intro _;rfl)|(apply VVal.assign;rfl)|(apply VVal.move;rfl)|(apply VVal.int;rfl;rfl;rfl)|(apply VVal.indexN;rfl;rfl;rfl;omega;rfl)|(apply VVal.load;rfl;rfl)|(apply VVal.alloc;rfl)|(apply VVal.storeB;rfl;rfl;rfl;trivial;rfl;rfl;exact lt_dec rfl;exact le_dec rfl)|(apply VWp.condSeq_dec;rfl)|(intro _;try (exfalso;omega)))
   all_goals first|(exfalso;omega)|contradiction|(refine Done.ret rfl (.refl _) (by first|exact trivial|exact ⟨trivial,trivial,trivial⟩|exact ⟨trivial,trivial,trivial,trivial⟩) HCov.nil (Nat.zero_le _) (Nat.le_refl _) ⟨?_,rfl,rfl⟩;try rfl)
  rw [h1] at hc
  by_cases h2:(gi o.ranks k).name∈(o.ranks.take k).map Rnk.name
  ·have e:rnkE o.ranks 0=9:=by rw [← hE,rnkE,if_pos hkl,if_neg (fun h=>h h1),if_pos h2]
   rw [e,if_pos (by decide)]
   repeat' (first|apply VWp.assoc|apply VWp.rseq|apply VWp.skipSeq|apply VWp.retSeq|apply VWp.blockSeq|apply QSeq.ret|(apply DoneI.ret;rfl)|apply QBlk.ret|apply QLoop.ret|apply VWp.ret|apply VOps.nil|apply VOps.one|(apply VVal.fn;rfl;rfl;exact hc;intro _;rfl)|(apply inl_AG;rfl;rfl;rfl;exact le_dec rfl)|(apply VVal.lookupSet;rfl;rfl;rfl;rfl;rfl;rfl)|(apply VVal.assign;rfl)|(apply VVal.move;rfl)|(apply VVal.int;rfl;rfl;rfl)|(apply VVal.indexN;rfl;rfl;rfl;omega;rfl)|(apply VVal.load;rfl;rfl)|(apply VVal.fieldB;rfl;rfl;rfl)|(apply VVal.alloc;rfl)|(apply VVal.storeB;rfl;rfl;rfl;trivial;rfl;rfl;exact lt_dec rfl;exact le_dec rfl)|(apply VWp.condSeq_false;rfl)|(apply VWp.condSeq_dec;rfl)|(apply VWp.cond_true;rfl)|(intro _;try (exfalso;omega)))
   all_goals first|(exfalso;omega)|contradiction|(refine Done.ret rfl (.refl _) (by first|exact trivial|exact ⟨trivial,trivial,trivial⟩|exact ⟨trivial,trivial,trivial,trivial⟩) HCov.nil (Nat.zero_le _) (Nat.le_refl _) ⟨?_,rfl,rfl⟩;try rfl)
  ·repeat' (first|apply VWp.assoc|apply VWp.rseq|apply VWp.region|apply VWp.skipSeq|apply VWp.retSeq|apply VWp.blockSeq|apply QSeq.normal|apply QSeq.ret|(apply DoneI.ret;rfl)|apply QBlk.normal|apply QBlk.ret|apply QLoop.ret|apply VWp.ret|apply VWp.skip|apply VOps.nil|apply VOps.one|(apply VVal.fn;rfl;rfl;exact hc;intro _;rfl)|(apply inl_AG;rfl;rfl;rfl;exact le_dec rfl)|(apply VVal.lookupSet;rfl;rfl;rfl;rfl;rfl;rfl)|(apply VVal.addSet;rfl;rfl;rfl;rfl;rfl;rfl;exact h2)|(apply VVal.assign;rfl)|(apply VVal.move;rfl)|(apply VVal.add64;rfl;rfl;omega)|(apply VVal.int;rfl;rfl;rfl)|(apply VVal.indexN;rfl;rfl;rfl;omega;rfl)|(apply VVal.load;rfl;rfl)|(apply VVal.fieldB;rfl;rfl;rfl)|(apply VVal.alloc;rfl)|(apply VVal.storeB;rfl;rfl;rfl;trivial;rfl;rfl;exact lt_dec rfl;exact le_dec rfl)|(apply VWp.condSeq_false;rfl)|(apply VWp.condSeq_dec;rfl)|(apply VWp.cond_true;rfl)|(apply VWp.cond_false;rfl)|(intro _;try (exfalso;omega)))
   all_goals try (exfalso;omega)
   all_goals try contradiction
   refine QLoop.normal ⟨k+1,⟨by omega,?_⟩,by omega,⟨by omega,?_,?_⟩⟩
   ·first|rfl|(refine Eq.trans ?_ hE;symm;(conv=>lhs;rw [rnkE]);rw [if_pos hkl,if_neg (fun h=>h h1),if_neg h2])
   ·repeat (first|exact LCov.nil|refine LCov.same trivial rfl ?_|refine LCov.same (lt_dec rfl) rfl ?_|refine LCov.same ⟨trivial,lt_dec rfl,lt_dec rfl,lt_dec rfl,trivial⟩ rfl ?_|refine LCov.same ⟨trivial,lt_dec rfl,lt_dec rfl,trivial⟩ rfl ?_|refine LCov.same ⟨trivial,trivial⟩ rfl ?_|refine LCov.cons trivial rfl (.of_eq (lst_len (by simp<;>omega))) ?_)
   ·rw [names_snoc Rnk.name hkl];repeat (first|exact HCov.nil|(refine HCov.cons (lt_dec rfl) ?_ rfl ?_ ?_;(first|exact trivial|exact PVs.under_pure _ _|(simp [HB.under,PVs.under,PV.under]));(first|exact HLe.refl _|exact HLe.vec (FLes.refl _) (by simp))))
 obtain rfl:k=o.ranks.length:=by omega
 have e:rnkE o.ranks 0=0:=by rw [← hE,rnkE,if_neg (by omega)]
 rw [if_neg (fun h=>h e)]
 repeat' (first|apply VWp.assoc|apply VWp.rseq|apply VWp.exitSeq|apply VWp.blockSeq|apply QSeq.normal|apply QSeq.ret|apply QBlk.normal|apply QBlk.ret|apply QBlk.exit|apply QLoop.exit|apply VWp.ret|apply VWp.skip|apply VOps.nil|apply VOps.one|(apply VVal.makeMap)|(apply VVal.assign;rfl)|(apply VVal.move;rfl)|(apply VVal.int;rfl;rfl;rfl)|(apply VVal.load;rfl;rfl)|(apply VVal.lenF;rfl;rfl)|(apply VVal.fieldB;rfl;rfl;rfl)|(apply VWp.condSeq_dec;rfl)|(apply VWp.cond_dec;rfl)|(intro _;try (exfalso;omega)))
 all_goals try (exfalso;omega)
 ·rw [if_pos (by omega)];(refine Done.ret rfl (.refl _) (by first|exact trivial|exact ⟨trivial,trivial,trivial⟩|exact ⟨trivial,trivial,trivial,trivial⟩) HCov.nil (Nat.zero_le _) (Nat.le_refl _) ⟨?_,rfl,rfl⟩;try rfl)
 ·rw [if_neg (by omega),if_pos (by omega)];(refine Done.ret rfl (.refl _) (by first|exact trivial|exact ⟨trivial,trivial,trivial⟩|exact ⟨trivial,trivial,trivial,trivial⟩) HCov.nil (Nat.zero_le _) (Nat.le_refl _) ⟨?_,rfl,rfl⟩;try rfl)
 rw [if_neg (by omega),if_neg (by omega)]
 refine VWp.ghost (Ghost.adopt 8 94 rfl) ?_
 refine VWp.loopQ (fun k:Nat=>[(1,.ref 0 0),(3,.mref 2),(8,.vec 3 ((o.divs.take k).map fun d=>(⟨d.lo,d.hi⟩:Cps)).length 0 ((o.divs.take k).map fun d=>(⟨d.lo,d.hi⟩:Cps)).length),(56,lst 97 o.divs),(57,.p (.int .i64 (o.divs.length:Int))),(58,.p (.int .i64 (k:Int)))]) (fun k=>[(3,.vec 94 (cells ((o.divs.take k).map fun d=>(⟨d.lo,d.hi⟩:Cps))) ((o.divs.take k).map fun d=>(⟨d.lo,d.hi⟩:Cps)).length true),(2,.map (setE ((o.divs.take k).map Dvs.name))),(0,.box 37 ((Enc.enc o).map .p))]) 4 (fun k=>k≤o.divs.length∧divsE o.ranks o.divs k=divsE o.ranks o.divs 0) (fun k=>o.divs.length-k) 0 (by omega) ⟨by omega,rfl⟩ ⟨by omega,?_,?_⟩ ?_
 ·repeat (first|exact LCov.nil|refine LCov.same trivial rfl ?_|refine LCov.same (lt_dec rfl) rfl ?_|refine LCov.same ⟨trivial,lt_dec rfl,lt_dec rfl,lt_dec rfl,trivial⟩ rfl ?_|refine LCov.same ⟨trivial,lt_dec rfl,lt_dec rfl,trivial⟩ rfl ?_|refine LCov.same ⟨trivial,trivial⟩ rfl ?_|refine LCov.cons trivial rfl (.of_eq (lst_len (by simp<;>omega))) ?_)
 ·repeat (first|exact HCov.nil|(refine HCov.cons (lt_dec rfl) ?_ rfl ?_ ?_;(first|exact trivial|exact PVs.under_pure _ _|(simp [HB.under,PVs.under,PV.under]));(first|exact HLe.refl _|exact HLe.vec (FLes.refl _) (by simp))))
 rintro k ⟨hk,hE⟩
 have hlen:((o.divs.take k).map fun d=>(⟨d.lo,d.hi⟩:Cps)).length=k:=by rw [List.length_map,List.length_take];omega
 by_cases hkl:k<o.divs.length
 ·have hds:=ho.dv k hkl
  have hdn:=isName_spec (gi o.divs k).name (by have:=hds.name;omega)
  have hdv:=division_spec o (gi o.divs k) ho hds
  by_cases h1:nameOk (gi o.divs k).name
  case neg =>
   have e2:divsE o.ranks o.divs 0=8:=by rw [← hE,divsE,if_pos hkl,if_pos h1]
   rw [e2,if_pos (by decide)]
   rw [decide_eq_false h1] at hdn
   repeat' (first|apply VWp.assoc|apply VWp.rseq|apply VWp.skipSeq|apply VWp.retSeq|apply VWp.blockSeq|apply QSeq.ret|apply QBlk.ret|apply QLoop.ret|apply VOps.nil|apply VOps.one|(apply VVal.fn;rfl;rfl;exact hdn;intro _;rfl)|(apply VVal.assign;rfl)|(apply VVal.int;rfl;rfl;rfl)|(apply VVal.indexN;rfl;rfl;rfl;omega;rfl)|(apply VVal.load;rfl;rfl)|(apply VVal.fieldB;rfl;rfl;rfl)|(apply VVal.alloc;rfl)|(apply VVal.storeB;rfl;rfl;rfl;trivial;rfl;rfl;exact lt_dec rfl;exact le_dec rfl)|(apply VVal.not;rfl)|(apply VWp.condSeq_true;rfl)|(apply VWp.condSeq_dec;rfl)|(intro _;try (exfalso;omega)))
   all_goals first|(exfalso;omega)|contradiction|(refine Done.ret rfl (.refl _) (by first|exact trivial|exact ⟨trivial,trivial,trivial⟩|exact ⟨trivial,trivial,trivial,trivial⟩) HCov.nil (Nat.zero_le _) (Nat.le_refl _) ⟨?_,rfl,rfl⟩;try rfl)
  rw [decide_eq_true h1] at hdn
  by_cases h2:(gi o.divs k).name∈(o.divs.take k).map Dvs.name
  ·have e2:divsE o.ranks o.divs 0=9:=by rw [← hE,divsE,if_pos hkl,if_neg (fun h=>h h1),if_pos h2]
   rw [e2,if_pos (by decide)]
   repeat' (first|apply VWp.assoc|apply VWp.rseq|apply VWp.skipSeq|apply VWp.retSeq|apply VWp.blockSeq|apply QSeq.ret|(apply DoneI.ret;rfl)|apply QBlk.ret|apply QLoop.ret|apply VOps.nil|apply VOps.one|(apply VVal.fn;rfl;rfl;exact hdn;intro _;rfl)|(apply inl_AG;rfl;rfl;rfl;exact le_dec rfl)|(apply VVal.lookupSet;rfl;rfl;rfl;rfl;rfl;rfl)|(apply VVal.assign;rfl)|(apply VVal.move;rfl)|(apply VVal.int;rfl;rfl;rfl)|(apply VVal.indexN;rfl;rfl;rfl;omega;rfl)|(apply VVal.load;rfl;rfl)|(apply VVal.fieldB;rfl;rfl;rfl)|(apply VVal.alloc;rfl)|(apply VVal.storeB;rfl;rfl;rfl;trivial;rfl;rfl;exact lt_dec rfl;exact le_dec rfl)|(apply VVal.not;rfl)|(apply VWp.condSeq_true;rfl)|(apply VWp.condSeq_false;rfl)|(apply VWp.condSeq_dec;rfl)|(intro _;try (exfalso;omega)))
   all_goals first|(exfalso;omega)|contradiction|(refine Done.ret rfl (.refl _) (by first|exact trivial|exact ⟨trivial,trivial,trivial⟩|exact ⟨trivial,trivial,trivial,trivial⟩) HCov.nil (Nat.zero_le _) (Nat.le_refl _) ⟨?_,rfl,rfl⟩;try rfl)
  by_cases h3:dvsE o.ranks (gi o.divs k)=0
  case neg =>
   have e2:divsE o.ranks o.divs 0=dvsE o.ranks (gi o.divs k):=by rw [← hE,divsE,if_pos hkl,if_neg (fun h=>h h1),if_neg h2,if_pos h3]
   rw [e2,if_pos h3]
   repeat' (first|apply VWp.assoc|apply VWp.rseq|apply VWp.skipSeq|apply VWp.retSeq|apply VWp.blockSeq|apply QSeq.ret|(apply DoneI.ret;rfl)|apply QBlk.ret|apply QLoop.ret|apply VWp.ret|apply VOps.nil|apply VOps.one|(apply VVal.fn;rfl;rfl;exact hdn;intro _;rfl)|(apply VVal.fn;rfl;rfl;exact hdv;intro _;rfl)|(apply inl_AG;rfl;rfl;rfl;exact le_dec rfl)|(apply VVal.lookupSet;rfl;rfl;rfl;rfl;rfl;rfl)|(apply VVal.addSet;rfl;rfl;rfl;rfl;rfl;rfl;exact h2)|(apply VVal.assign;rfl)|(apply VVal.move;rfl)|(apply VVal.int;rfl;rfl;rfl)|(apply VVal.indexN;rfl;rfl;rfl;omega;rfl)|(apply VVal.load;rfl;rfl)|(apply VVal.fieldB;rfl;rfl;rfl)|(apply VVal.alloc;rfl)|(apply VVal.storeB;rfl;rfl;rfl;trivial;rfl;rfl;exact lt_dec rfl;exact le_dec rfl)|(apply VVal.not;rfl)|(apply VWp.condSeq_true;rfl)|(apply VWp.condSeq_false;rfl)|(apply VWp.condSeq_dec;rfl)|(intro _;try (exfalso;omega)))
   all_goals first|(exfalso;omega)|contradiction|(refine Done.ret rfl (.refl _) (by first|exact trivial|exact ⟨trivial,trivial,trivial⟩|exact ⟨trivial,trivial,trivial,trivial⟩) HCov.nil (Nat.zero_le _) (Nat.le_refl _) ⟨?_,rfl,rfl⟩;try rfl)
  rw [h3] at hdv
  have e5:((o.divs.take (k+1)).map fun d=>(⟨d.lo,d.hi⟩:Cps))=((o.divs.take k).map fun d=>(⟨d.lo,d.hi⟩:Cps))++[⟨(gi o.divs k).lo,(gi o.divs k).hi⟩]:=by rw [take_succ_gi hkl,List.map_append];rfl
  have e6:((o.divs.take (k+1)).map fun d=>(⟨d.lo,d.hi⟩:Cps)).length=((o.divs.take k).map fun d=>(⟨d.lo,d.hi⟩:Cps)).length+1:=by rw [e5,List.length_append];rfl
  repeat' (first|apply VWp.assoc|apply VWp.rseq|apply VWp.region|apply VWp.skipSeq|apply VWp.retSeq|apply VWp.blockSeq|apply QSeq.normal|apply QSeq.ret|(apply DoneI.ret;rfl)|apply QBlk.normal|apply QBlk.ret|apply QLoop.ret|apply VWp.ret|apply VOps.nil|apply VOps.one|(apply VVal.fn;rfl;rfl;exact hdn;intro _;rfl)|(apply VVal.fn;rfl;rfl;exact hdv;intro _;rfl)|(apply VVal.append1 (a:=(⟨(gi o.divs k).lo,(gi o.divs k).hi⟩:Cps));rfl;rfl;rfl;rfl;rfl;rfl;rfl;rfl;(intro _ h;cases h);rfl;rfl;rfl;decide;decide;(first|omega|(simp only [List.length_take,List.length_drop,List.length_append,List.length_singleton,List.length_cons,List.length_nil]<;>omega)))|(apply inl_AG;rfl;rfl;rfl;exact le_dec rfl)|(apply VVal.lookupSet;rfl;rfl;rfl;rfl;rfl;rfl)|(apply VVal.addSet;rfl;rfl;rfl;rfl;rfl;rfl;exact h2)|(apply VVal.assign;rfl)|(apply VVal.move;rfl)|(apply VVal.add64;rfl;rfl;omega)|(apply VVal.int;rfl;rfl;rfl)|(apply VVal.indexN;rfl;rfl;rfl;omega;rfl)|(apply VVal.load;rfl;rfl)|(apply VVal.fieldB;rfl;rfl;rfl)|(apply VVal.alloc;rfl)|(apply VVal.storeB;rfl;rfl;rfl;trivial;rfl;rfl;exact lt_dec rfl;exact le_dec rfl)|(apply VVal.buildSlice;rfl;rfl;rfl;decide;rfl;rfl;rfl)|(apply VVal.not;rfl)|(apply VWp.condSeq_true;rfl)|(apply VWp.condSeq_false;rfl)|(apply VWp.condSeq_dec;rfl)|(intro _;try (exfalso;omega)))
  all_goals try (exfalso;omega)
  all_goals try contradiction
  refine QLoop.normal ⟨k+1,⟨by omega,?_⟩,by omega,⟨by omega,?_,?_⟩⟩
  ·first|rfl|(refine Eq.trans ?_ hE;symm;(conv=>lhs;rw [divsE]);rw [if_pos hkl,if_neg (fun h=>h h1),if_neg h2,if_neg (fun h=>h h3)])
  ·rw [e6];repeat (first|exact LCov.nil|refine LCov.same trivial rfl ?_|refine LCov.same (lt_dec rfl) rfl ?_|refine LCov.same ⟨trivial,lt_dec rfl,lt_dec rfl,lt_dec rfl,trivial⟩ rfl ?_|refine LCov.same ⟨trivial,lt_dec rfl,lt_dec rfl,trivial⟩ rfl ?_|refine LCov.same ⟨trivial,trivial⟩ rfl ?_|refine LCov.cons trivial rfl (.of_eq (lst_len (by simp<;>omega))) ?_)
  ·rw [e6,e5,names_snoc Dvs.name hkl];repeat (first|exact HCov.nil|(refine HCov.cons (lt_dec rfl) ?_ rfl ?_ ?_;(first|exact trivial|exact PVs.under_pure _ _|(simp [HB.under,PVs.under,PV.under]));(first|exact HLe.refl _|exact HLe.vec (FLes.refl _) (by simp))))
 obtain rfl:k=o.divs.length:=by omega
 have e2:divsE o.ranks o.divs 0=0:=by rw [← hE,divsE,if_neg (by omega)]
 rw [if_neg (fun h=>h e2)]
 have et:o.divs.take o.divs.length=o.divs:=List.take_of_length_le (Nat.le_refl _)
 have hcp:=coupler_spec (o.divs.map fun d=>(⟨d.lo,d.hi⟩:Cps)) o.cpls (by rw [List.length_map];exact b2) ho.cpls ho.cp
 rw [et]
 repeat' (first|(refine VWp.at 35 ?_;refine VWp.ghost (Ghost.freeze 8 rfl rfl) ?_;first|apply VWp.rseq|apply VWp.rseqD)|apply VWp.rseq|apply VWp.exitSeq|apply QSeq.normal|apply QBlk.exit|apply QLoop.exit|apply VWp.ret|apply VOps.nil|apply VOps.one|(apply VVal.fn;rfl;rfl;exact hcp;intro _;rfl)|(apply VVal.assign;rfl)|(apply VVal.move;rfl)|(apply VVal.int;rfl;rfl;rfl)|(apply VVal.load;rfl;rfl)|(apply VVal.fieldB;rfl;rfl;rfl)|(apply VWp.condSeq_dec;rfl)|(intro _;try (exfalso;omega)))
 all_goals first|(exfalso;omega)|(refine Done.ret rfl (.refl _) (by first|exact trivial|exact ⟨trivial,trivial,trivial⟩|exact ⟨trivial,trivial,trivial,trivial⟩) HCov.nil (Nat.zero_le _) (Nat.le_refl _) ⟨?_,rfl,rfl⟩;try rfl)
end Go.Proofs.YtdabojnmoejilaaGreatDoor
namespace Go.Proofs.YtdabojnmoejilaaGreatDoor
open Go Go.Am Go.Vm
attribute [local irreducible] VVal VOps VOpsD VWp VCalls VFun VFunV QSeq QBlk QLoop Vm.Done DoneV DoneI
structure Rgs where
 stops:List Nat
 cp:Nat
 off:Nat
instance:Enc Rgs:={ default:=⟨[],0,0⟩,enc:=fun x=>[.lst 39 (cells x.stops) x.stops.length,.int .u64 (x.cp:Int),.int .u64 (x.off:Int)],size:=3,len:=fun _=>rfl }
structure Rgs.Ok (r:Rgs):Prop where
 stops:∀ i,i<r.stops.length→gi r.stops i<18446744073709551616
 cp:r.cp<18446744073709551616
 off:r.off<18446744073709551616
 len:r.stops.length<9223372036854775808
def bitsE (b:Nat→Nat):List FV:=[.int .u8 (b 0:Int),.int .u8 (b 1:Int),.int .u8 (b 2:Int),.int .u8 (b 3:Int),.int .u8 (b 4:Int)]
def drwnF (o:Org) (b:Nat→Nat) (k:Nat):Nat:=b (k % 3) &&& (2 ^ (gi o.divs k).stops.length-1)
def drawnR (o:Org) (b:Nat→Nat):Rgs:=⟨snocK (drwnF o b) o.divs.length,b 3 &&& (2 ^ o.cpls.length-1),b 4 &&& (2 ^ o.divs.length-1)⟩
noncomputable def regE (o:Org) (r:Rgs):Int :=
 open Classical in
 if r.stops.length≠o.divs.length then 5
 else if ∃ i,i<r.stops.length∧gi r.stops i / 2 ^ (gi o.divs i).stops.length≠0 then 3
 else if r.cp / 2 ^ o.cpls.length≠0∨r.off / 2 ^ o.divs.length≠0 then 3 else 0
theorem regE_len {o:Org} {r:Rgs} (h:r.stops.length≠o.divs.length):regE o r=5:=by unfold regE;rw [if_pos h]
theorem regE_bad {o:Org} {r:Rgs} (h:r.stops.length=o.divs.length) {i:Nat} (hi:i<r.stops.length) (h2:gi r.stops i / 2 ^ (gi o.divs i).stops.length≠0):regE o r=3:=by
 unfold regE;rw [if_neg (fun h'=>h' h),if_pos ⟨i,hi,h2⟩]
theorem regE_rest {o:Org} {r:Rgs} (h:r.stops.length=o.divs.length) (h2:∀ i,i<r.stops.length→gi r.stops i / 2 ^ (gi o.divs i).stops.length=0):regE o r=if r.cp / 2 ^ o.cpls.length≠0∨r.off / 2 ^ o.divs.length≠0 then 3 else 0:=by
 unfold regE;rw [if_neg (fun h'=>h' h),if_neg (fun ⟨i,hi,h3⟩=>h3 (h2 i hi))]
end Go.Proofs.YtdabojnmoejilaaGreatDoor
namespace Go.Vm
open Go.Am
section
variable {E:Env} {L:Vm.Frame} {H:Vm.Heap} {nx:Nat} {Q:PV→Vm.Heap→Nat→Prop} {w:Bool} {dst:Option Tmp} {ty:TypeId} {pos:String} {af:Array Edge} {gd:Option (Nat×Bool)}
theorem rfs_get {m:Mem} {F:Nat→Prop}:∀ {cs:List FV} {vs:List Value} {j:Nat} {c:FV},RFs m F cs vs→cs[j]?=some c→∃ v,vs[j]?=some v∧RF m F c v
 |_,_,0,c,.cons h t,e=>by simp at e;subst e;exact ⟨_,rfl,h⟩
 |_,_,j+1,c,.cons h t,e=>by
  simp at e
  obtain ⟨v,h1,h2⟩:=rfs_get t e
  exact ⟨v,by simpa using h1,h2⟩
 |_,_,_,_,.nil,e=>by simp at e
theorem VVal.indexI {t e:TypeId} {x ix:Operand} {n:Nat} {cs:List FV} {k:IntKind} {i:Int} {inf:TypeInfo} {c:FV} (hx:vev E.Γ L x=some (.p (.agg cs))) (hi:vev E.Γ L ix=some (.p (.int k i)))
 (ht:E.P.underlying t=some (.array n e)) (ha:isAggT E.P e=some false) (hs:E.P.info? e=some inf) (h:0≤i∧i<n) (hc:cs[i.toNat*inf.size]?=some c) (q:Q (.p c) H nx) :
 VVal E w ⟨dst,.index t x ix,ty,pos,af,gd⟩ L H nx Q :=
 VVal.quiet q fun m F σ tt h1 h2=>by
  have hr:=vev_rel h1 h2 hx
  generalize hv:ev tt x=v at hr
  cases hr with
  |p hr =>
   cases hr with
   |agg hr hcc =>
    rename_i l
    obtain ⟨u,g1,g2⟩:=rfs_get hr hc
    refine ⟨u,fun _=>?_,.p g2⟩
    have hd:dry E.P (Instr.index t (.agg l.toArray) (.int k i))=some u:=by
     unfold Instr.index
     simp only [dry_bind,dry_underlying,ht]
     show (dry E.P (asIntOf (.int k i))).bind _=_
     rw [show dry E.P (asIntOf (.int k i))=some (k,i) from rfl]
     simp only [Option.bind_some,h,and_self,if_true,dry_bind,dry_sizeOf,hs,Option.map_some]
     unfold part
     simp only [dry_bind,dry_isAgg,ha,Option.bind_some,Bool.false_eq_true,if_false,List.getElem?_toArray,g1]
     rfl
    simp only [aval,aop,hv,vev_int h1 h2 hi,hd,Option.map_some]
    rw [show plain (Value.int k i)=true from rfl,if_pos rfl]
end
end Go.Vm
namespace Go.Vm
open Go.Am
open Go.Sort (putRow putCells mapBlock onCells Holds grow size_putRow size_grow)
section
variable {P:Program} {G:List Nat}
def iV (z:Int):Value:=.int .i64 z
def unints:List Value→Option (List Int)
 |[]=>some []
 | .int .i64 n::l=>(unints l).map (n::·)
 |_::_=>none
abbrev InF:=List Int→List Value→Option (List Int×Option Nat)
def inRun (e:TypeId) (Fn:InF) (asW:List Value) (m:Mem):Option (Value×Mem):=match asW with
 | .slice none 0 0::rest=>match Fn [] rest with
  |some ([],none)=>some (.tuple #[],m)
  |_=>none
 | .slice (some ⟨b,0,none⟩) n g::rest=>match m.get b with
  | .cells vs e' g' false =>
   if g=g'∧e=e'∧vs.length=n∧0<n∧rest.all Am.plainCell=true then
    match unints vs with
    |some zs=>match Fn zs rest with
     |some (zs',none)=>if zs'.length=n then some (.tuple #[],m.put b (.cells (zs'.map iV) e g' false)) else none
     |some (zs',some k)=>if zs'.length=n∧k≤n then some (.slice (some ⟨b,0,none⟩) k (g'+1),m.put b (.cells ((zs'.take k).map iV) e (g'+1) false)) else none
     |none=>none
    |none=>none
   else none
  |_=>none
 |_=>none
inductive InRun (e:TypeId) (Fn:InF) (m:Mem):List Value→Value→Mem→Prop
 |nil {rest:List Value} (h:Fn [] rest=some ([],none)):InRun e Fn m (.slice none 0 0::rest) (.tuple #[]) m
 |put {b n g:Nat} {rest:List Value} {zs zs':List Int} (hm:m.get b=.cells (zs.map iV) e g false) (hn:zs.length=n) (h0:0<n) (hr:rest.all Am.plainCell=true) (h:Fn zs rest=some (zs',none)) (hl:zs'.length=n) :
  InRun e Fn m (.slice (some ⟨b,0,none⟩) n g::rest) (.tuple #[]) (m.put b (.cells (zs'.map iV) e g false))
 |cut {b n g k:Nat} {rest:List Value} {zs zs':List Int} (hm:m.get b=.cells (zs.map iV) e g false) (hn:zs.length=n) (h0:0<n) (hr:rest.all Am.plainCell=true) (h:Fn zs rest=some (zs',some k)) (hl:zs'.length=n) (hk:k≤n) :
  InRun e Fn m (.slice (some ⟨b,0,none⟩) n g::rest) (.slice (some ⟨b,0,none⟩) k (g+1)) (m.put b (.cells ((zs'.take k).map iV) e (g+1) false))
open Classical in
noncomputable def inO (G:List Nat) (M0:Mem) (ff:FuncId) (e:TypeId) (Fn:InF) (O:Oracle):Oracle:=fun f=>if f=ff then some (fun asW m=>if ∀ k∈G,m.get k=M0.get k then inRun e Fn asW m else none) else O f
end
end Go.Vm
namespace Go.Vm
open Go.Am
section
variable {P:Program} {F0:Nat} {laid:List (String×DataW Unit)} {O O0:Oracle} {ff:FuncId} {Fn:InF} {L:Frame} {H:Heap} {nx:Nat} {Q:PV→Heap→Nat→Prop} {w:Bool}
variable {dst:Option Tmp} {ty:TypeId} {pos:String} {af:Array Edge} {gd:Option (Nat×Bool)}
theorem gl_same {m:Mem} {F:Nat→Prop} {σ:Nat→Value} (h1:Ctx (lawEnvX P F0 laid O).Γ m F σ H nx):∀ k∈globList P F0 laid,m.get k=(globMem P F0 laid).get k:=fun k hk=>by
 obtain ⟨hlt,e,l,hgl⟩:=globList_mem hk
 have:=(h1.gl k l e (by simp only [lawEnvX,gam,if_pos hlt,hgl,Option.map_some])).2.1
 rw [this,globMem_get hlt,hgl]
def VReadV (E:Env) (g:FuncId) (ac:List PV) (Hc:Heap) (k:Nat) (e:TypeId) (cs:List FV) (n:Nat) (z:Bool):Prop:=VCalls E g ac Hc k fun r H' nx'=>r=.vec k n 0 n∧H'=(k,.vec e cs n z)::Hc∧nx'=k+1
end
end Go.Vm
namespace Go.Vm
open Go.Am
theorem giveCtx {Γ:Nat→Option (List Value×TypeId)} {m:Mem} {F:Nat→Prop} {σ:Nat→Value} {H:Heap} {nx b:Nat} {y:HB} (h:Ctx Γ m F σ H nx) (hb:hget H b=some y) :
 Ctx Γ m (fun c=>F c∨blkOf (σ b)=some c) σ (hdel H b) nx∧Step m F σ H nx m (fun c=>F c∨blkOf (σ b)=some c) σ (hdel H b) nx:=by
 have hown:∀ c,blkOf (σ b)=some c→own H σ c:=fun c hc=>⟨b,_,hb,hc⟩
 have hfz:∀ c,F c→(F c∨blkOf (σ b)=some c)∧m.get c=m.get c:=fun c hc=>⟨.inl hc,rfl⟩
 have hN:Names nx (htag H) σ (htag (hdel H b)) σ:=fun d _=>by
  rw [htag_hdel]
  split
  ·exact ⟨trivial,fun _ _ _=>rfl⟩
  ·exact ⟨TLe.refl _,fun _ _ _=>rfl⟩
 have hsub:∀ d x,hget (hdel H b) d=some x→d≠b∧hget H d=some x:=fun d x hd=>by
  rw [hget_hdel] at hd
  split at hd
  ·cases hd
  ·rename_i hne;exact ⟨Ne.symm hne,hd⟩
 refine ⟨⟨?_,?_,?_,?_⟩,⟨Nat.le_refl _,fun _ _ _=>rfl,fun _ h=>.inl h,fun c _ hc=>hc.imp id (hown c),?_,Nat.le_refl _,hN,fun _ h _ _=>h⟩⟩
 ·rintro c (hc|hc)
  ·exact h.fr c hc
  ·exact (h.notF (hown c hc)).2
 ·intro d x hd
  obtain ⟨hne,hd⟩:=hsub d x hd
  obtain ⟨h1,h2⟩:=h.hp d x hd
  refine ⟨h1,h2.mono hfz hN (Nat.le_refl _) (Nat.le_refl _) fun c hc=>⟨rfl,?_⟩⟩
  rintro (hf|hf)
  ·exact (h.notF ⟨d,x,hd,hc⟩).1 hf
  ·exact hne (h.sep d b x _ c hd hb hc hf)
 ·intro d d' x x' c hd hd' hc hc'
  exact h.sep d d' x x' c (hsub d x hd).2 (hsub d' x' hd').2 hc hc'
 ·intro g cs' e' hg
  obtain ⟨h1,h2⟩:=h.gl g cs' e' hg
  exact ⟨.inl h1,h2⟩
 ·rintro c _ ⟨d,x,hd,hc⟩
  exact ⟨d,x,(hsub d x hd).2,hc⟩
section
variable {E:Env} {bn:Nat} {L:Vm.Frame} {H:Vm.Heap} {nx:Nat} {Q:AExit→Vm.Frame→Vm.Heap→Nat→Prop}
def VAskB (E:Env) (g:FuncId) (fn:Func) (cs:List FV) (e:TypeId) (rows:List (List Value)):Prop :=
 ∀ Fo,E.O g=some Fo→∀ m F c vs,m.get c=.cells vs e 0 false→RFs m F cs vs→F c→∃ key,∀ m' F' σ' H' nx',(∀ d,F d→m'.get d=m.get d)→Ctx E.Γ m' F' σ' H' nx'→∃ m1,Fo (seqAs fn.ntmps [.pointer (some ⟨c,0,none⟩)]) m'=some (seqVal key rows,m1)
theorem VWp.rangeFuncB {f:Operand} {ps:Array Tmp} {asg body:Code} {g:FuncId} {fn:Func} {b:Nat} {cs:List FV} {ct:TypeId} {rows:List (List Value)} (n:Nat) (rowF:Nat→List FV) (rowV:Nat→List Value) (L0:Vm.Frame) (Hk:Nat→Vm.Heap) (nx0:Nat) (inv:Nat→Prop)
 (hf:vev E.Γ L f=some (.clo g [] [.ref b 0])) (hbx:hget H b=some (.box ct (cs.map .p))) (hfn:E.P.funcs[g]?=some fn) (hfl:(flat asg&&flat body)=true) {Fo:List Value→Mem→Option (Value×Mem)} (ho:E.O g=some Fo) (hr:rows=(List.range n).map rowV) (hlen:∀ k,k<n→(rowV k).length=ps.size) (hpl:∀ k,k<n→(rowV k).all plain=true) (hrel:∀ k,k<n→∀ m F,RFs m F (rowF k) (rowV k))
 (hb:bn≤nx0) (hc:Cov L (hdel H b) nx L0 (Hk 0) nx0) (hL0:LCov nx0 L0 L0) (hask:VAskB E g fn cs ct rows)
 (h0:inv 0) (hround:∀ k,k<n→inv k→VWp E nx0 asg (lputs L0 ps.toList (rowF k)) (Hk k) nx0 fun e L1 H1 nx1=>e=.normal∧VWp E nx0 body L1 H1 nx1 (RQ (inv (k+1)) nx0 L0 (Hk (k+1)) Q))
 (hdone:inv n→Q .normal L0 (Hk n) nx0):VWp E bn (.rangeFunc f ps asg body) L H nx Q:=by
 intro B hB m F σ t h1 h2 h3
 have hv:=vev_rel h1 h2 hf
 have hlb:∃ c vs,ev t f=.func (.func g) #[] #[.pointer (some ⟨c,0,none⟩)]∧m.get c=.cells vs ct 0 false∧RFs m F cs vs∧blkOf (σ b)=some c:=by
  obtain ⟨_,c,vs,r1,r2,r3,r4,r5,r6⟩:=h1.hp b _ hbx
  generalize ev t f=u at hv
  cases hv with
  |clo p1 p2 =>
   cases p1
   cases p2 with
   |cons p2 p3 =>
    cases p3
    cases p2 with
    |ref q1 q2 q3 =>
     obtain ⟨c',s1,s2⟩:=q3 (by simp [htag,hbx,HB.tag])
     rw [r1] at s1
     cases s1
     exact ⟨c,vs,by rw [s2],r4,RFs.ofRPs r5,by rw [r1];rfl⟩
 obtain ⟨c,vs,hev,hgc,hrc,hblk⟩:=hlb
 obtain ⟨g1,g2⟩:=giveCtx h1 hbx
 obtain ⟨F0,hF0⟩:∃ F0:Nat→Prop,F0=fun d=>F d∨blkOf (σ b)=some d:=⟨_,rfl⟩
 rw [← hF0] at g1 g2
 have hcF:F0 c:=by rw [hF0];exact .inr hblk
 obtain ⟨key,hkey⟩:=hask Fo ho m F0 c vs hgc (hrc.mono fun d hd=>⟨by rw [hF0];exact .inl hd,rfl⟩) hcF
 have l1:RL m F0 (htag (hdel H b)) σ nx L t:=RL.step g2 h1 h2
 have rounds:∀ j k,k+j=n→inv k→∀ m1 F1 σ1,Ctx E.Γ m1 F1 σ1 (Hk k) nx0→RL m1 F1 (htag (Hk k)) σ1 nx0 L0 t→B.to m1 F1 σ1 (Hk k) nx0→(∀ d,F0 d→F1 d∧m1.get d=m.get d) →
  ARounds E.P E.O E.G asg body ps.size (fun m'=>∃ m1,Fo (seqAs fn.ntmps [.pointer (some ⟨c,0,none⟩)]) m'=some (seqVal key rows,m1)) t ps.toList (rows.drop k) m1 fun e m'=>∃ L' H' nx' F' σ',Q e L' H' nx'∧Ctx E.Γ m' F' σ' H' nx'∧RL m' F' (htag H') σ' nx' L' t∧B.to m' F' σ' H' nx':=by
  intro j
  induction j with
  |zero =>
   intro k hk hik m1 F1 σ1 c1 l b fz
   obtain rfl:k=n:=by omega
   rw [hr,List.drop_of_length_le (by simp)]
   exact ⟨L0,_,nx0,F1,σ1,hdone hik,c1,l,b⟩
  |succ j ih =>
   intro k hk hik m1 F1 σ1 c1 l b fz
   have e0:rows.drop k=rowV k::rows.drop (k+1):=by
    rw [hr,List.drop_eq_getElem_cons (by simp;omega)]
    simp
   rw [e0]
   refine ⟨hlen k (by omega),hpl k (by omega),?_⟩
   refine (hround k (by omega) hik ⟨m1.at m1.size,F1,σ1,Hk k,nx0⟩ rfl _ F1 σ1 _ (c1.at _) (RL.putAll (RL.at (Γ:=E.Γ) _ l) (hrel k (by omega) _ _)) (Step.refl _ _ _ _ _)).mono ?_
   rintro e1 s1 ⟨L1,H1,nx1,F2,σ2,⟨he,hbody⟩,d1,d2,d3⟩
   refine ⟨he,(hbody ⟨m1.at m1.size,F1,σ1,Hk k,nx0⟩ rfl s1.m F2 σ2 s1.t d1 d2 d3).mono ?_⟩
   rintro e2 s2 ⟨L2,H2,nx2,F3,σ3,q,k1,k2,k3⟩
   have st:Step m1 F1 σ1 (Hk k) nx0 (s2.m.at (min m1.low s2.m.low)) F3 σ3 H2 nx2:=Step.at k3
   have k1':=k1.at (min m1.low s2.m.low)
   have l':=RL.step st c1 l
   have b':=Step.trans b st
   have fz':∀ d,F0 d→F3 d∧(s2.m.at (min m1.low s2.m.low)).get d=m.get d:=fun d hd=>by
    obtain ⟨x1,x2⟩:=fz d hd
    obtain ⟨y1,y2⟩:=st.frozen c1 d x1
    exact ⟨y1,y2.trans x2⟩
   cases e2 with
   |normal =>
    have cov:Cov L0 H2 nx2 L0 (Hk (k+1)) nx0:=⟨q.2.1,hL0,q.2.2⟩
    have c2:=cov.ctx k1'
    exact ⟨hkey _ _ _ _ _ (fun d hd=>(fz' d hd).2) c2,ih (k+1) (by omega) q.1 _ _ _ c2 (cov.rl l') (cov.step (by omega) b') fz'⟩
   |ret =>
    obtain ⟨q1,H3,q2,q3⟩:=q
    have cov:Cov L0 H2 nx2 L0 H3 nx0:=⟨q1,hL0,q2⟩
    exact ⟨L0,H3,nx0,F3,σ3,q3,cov.ctx k1',cov.rl l',cov.step (by omega) b'⟩
   |exit id =>
    obtain ⟨q1,H3,q2,q3⟩:=q
    have cov:Cov L0 H2 nx2 L0 H3 nx0:=⟨q1,hL0,q2⟩
    exact ⟨L0,H3,nx0,F3,σ3,q3,cov.ctx k1',cov.rl l',cov.step (by omega) b'⟩
 refine AWp.rangeFunc (fn:=fn) (Fo:=Fo) (rows:=rows) hev hfn hfl ho (hkey _ _ _ _ _ (fun _ _=>rfl) g1) ?_
 have:=rounds n 0 (by omega) h0 m F0 σ (hc.ctx g1) (hc.rl l1) (hc.step (by omega) (h3.trans g2)) fun d hd=>⟨hd,rfl⟩
 rw [List.drop_zero] at this
 exact this
end
end Go.Vm
namespace Go.Vm
open Go.Am
def mapI (e:TypeId) (ks:List Int) (f:Int→List Int):List (FV×FV):=ks.map fun k=>(.int .i64 k,.lst e (cells (f k)) (f k).length)
section
variable {E:Env} {L:Frame} {H:Heap} {nx:Nat} {Q:PV→Heap→Nat→Prop} {w:Bool}
variable {dst:Option Tmp} {ty:TypeId} {pos:String} {af:Array Edge} {gd:Option (Nat×Bool)}
end
section
variable {E:Env} {bn i:Nat} {ops:Array Oper} {l:List Oper} {L:Frame} {H:Heap} {nx:Nat} {R:Frame→Heap→Nat→Prop}
end
def swp (a b i:Nat):Nat:=if i=a then b else if i=b then a else i
def Hrn (ρ:Nat→Nat):Heap→Heap
 |[]=>[]
 |(i,x)::H=>(ρ i,x.rn ρ)::Hrn ρ H
end Go.Vm
namespace Go.Vm
open Go.Am
mutual
def FV.flat:FV→Bool
 | .int ..| .bool _| .str _| .val _=>true
 | .agg cs=>FVs.flat cs
 | .lst ..| .cptr _=>false
def FVs.flat:List FV→Bool
 |[]=>true
 |c::cs=>FV.flat c&&FVs.flat cs
end
mutual
def PV.flat:PV→Bool
 | .p x=>x.flat
 | .agg cs=>PVs.flat cs
 | .tup cs=>PVs.flat cs
 | .vec ..| .ref ..| .eref ..| .mref _=>true
 | .clo _ fs cs=>PVs.flat fs&&PVs.flat cs
def PVs.flat:List PV→Bool
 |[]=>true
 |c::cs=>PV.flat c&&PVs.flat cs
end
def HB.flat:HB→Bool
 | .box _ cs=>PVs.flat cs
 | .vec _ cs _ _=>FVs.flat cs
 | .map _=>false
 | .vecp ..=>false
def Hflat:Heap→Bool
 |[]=>true
 |(_,x)::H=>x.flat&&Hflat H
section
variable {m m':Mem} {F F':Nat→Prop} {T:Nat→Option Tg} {σ:Nat→Value} {n:Nat}
end
section
variable {E:Env} {L:Frame} {H:Heap} {nx:Nat} {Q:PV→Heap→Nat→Prop} {w:Bool}
variable {dst:Option Tmp} {ty:TypeId} {pos:String} {af:Array Edge} {gd:Option (Nat×Bool)}
end
end Go.Vm
