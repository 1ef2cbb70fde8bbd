/-
  The values' layer: loops whose constant slots and objects are found by unification. No condition. Nothing of one program stands here.
-/
import Derived.Test.YtmfnchgkffhpfaaDoorVmE
set_option linter.unusedSimpArgs false
set_option linter.unusedVariables false
set_option linter.unusedSectionVars false
namespace Go.Vm
open Go.Am
variable {E:Env} {bn:Nat} {L:Frame} {H:Heap} {nx:Nat} {Q:AExit→Frame→Heap→Nat→Prop} {b:Code}
theorem LCov.eq {k i:Nat} {v0:PV} {L0:Frame} (hv:lget L i=some v0) (hu:v0.under k) (t:LCov k L0 L):LCov k ((i,v0)::L0) L:=⟨⟨hu,v0,hv,.refl _⟩,t⟩
theorem HCov.eq {k i:Nat} {v0:HB} {L0:Heap} (hv:hget H i=some v0) (hi:i<k) (hu:v0.under k) (t:HCov k L0 H):HCov k ((i,v0)::L0) H:=⟨⟨hi,hu,v0,hv,.refl _⟩,t⟩
mutual
def PV.ub (k:Nat):PV→Bool
 | .p _=>true
 | .agg cs=>PVs.ub k cs
 | .tup cs=>PVs.ub k cs
 | .vec b _ _ _=>Nat.blt b k
 | .ref b _=>Nat.blt b k
 | .eref b _ _=>Nat.blt b k
 | .mref b=>Nat.blt b k
 | .clo _ fs cs=>and (PVs.ub k fs) (PVs.ub k cs)
def PVs.ub (k:Nat):List PV→Bool
 |[]=>true
 |c::cs=>and (PV.ub k c) (PVs.ub k cs)
end
mutual
theorem PV.under_of {k:Nat}:∀ {x:PV},PV.ub k x=true→x.under k
 | .p _,_=>trivial
 | .agg _,h=>PVs.under_of (by simpa [PV.ub] using h)
 | .tup _,h=>PVs.under_of (by simpa [PV.ub] using h)
 | .vec _ _ _ _,h=>lt_dec h
 | .ref _ _,h=>lt_dec h
 | .eref _ _ _,h=>lt_dec h
 | .mref _,h=>lt_dec h
 | .clo _ _ _,h=>by
  simp only [PV.ub,Bool.and_eq_true] at h
  exact ⟨PVs.under_of h.1,PVs.under_of h.2⟩
theorem PVs.under_of {k:Nat}:∀ {x:List PV},PVs.ub k x=true→PVs.under k x
 |[],_=>trivial
 |_::_,h=>by
  simp only [PVs.ub,Bool.and_eq_true] at h
  exact ⟨PV.under_of h.1,PVs.under_of h.2⟩
end
def HB.ub (k:Nat):HB→Bool
 | .box _ cs=>PVs.ub k cs
 | .vecp _ cs _=>PVs.ub k cs
 |_=>true
theorem HB.under_of {k:Nat} {x:HB} (h:HB.ub k x=true):x.under k:=by
 cases x with
 |box e cs=>exact PVs.under_of h
 |vecp e cs n=>exact PVs.under_of h
 |vec=>trivial
 |map=>trivial
theorem VWp.loopK {α:Type} (L0:Frame) (H0:Heap) (Lf:α→Frame→Frame) (Hf:α→Heap→Heap) (nx0:Nat) (inv:α→Prop) (μ:α→Nat) (a0:α) (hb:bn≤nx0) (hn:nx0≤nx) (h1:LCov nx0 (Lf a0 L0) L) (h2:HCov nx0 (Hf a0 H0) H) (h0:inv a0)
 (hs:∀ s,inv s→VWp E bn b (Lf s L0) (Hf s H0) nx0 (QLoop (fun L' H' nx'=>∃ s',inv s'∧μ s'<μ s∧Cov L' H' nx' (Lf s' L0) (Hf s' H0) nx0) Q)):VWp E bn (.loop b) L H nx Q :=
 VWp.loopQ (fun s=>Lf s L0) (fun s=>Hf s H0) nx0 inv μ a0 hb h0 ⟨hn,h1,h2⟩ hs
theorem VWp.loopR (n:Nat) (L0:Frame) (H0:Heap) (Lf:Nat→Frame→Frame) (Hf:Nat→Heap→Heap) (nx0:Nat) (hb:bn≤nx0) (hn:nx0≤nx) (h1:LCov nx0 (Lf 0 L0) L) (h2:HCov nx0 (Hf 0 H0) H)
 (hs:∀ k,k<n→VWp E bn b (Lf k L0) (Hf k H0) nx0 (QLoop (fun L' H' nx'=>nx0≤nx'∧LCov nx0 (Lf (k+1) L0) L'∧HCov nx0 (Hf (k+1) H0) H') Q))
 (he:VWp E bn b (Lf n L0) (Hf n H0) nx0 (QLoop (fun _ _ _=>False) Q)):VWp E bn (.loop b) L H nx Q :=
 VWp.loopQ (fun k=>Lf k L0) (fun k=>Hf k H0) nx0 (fun k=>k≤n) (fun k=>n-k) 0 hb (Nat.zero_le _) ⟨hn,h1,h2⟩ fun k hk=>by
  rcases Nat.lt_or_ge k n with h|h
  ·refine (hs k h).mono fun e L' H' nx' q=>?_
   cases e with
   |normal=>exact ⟨k+1,h,by omega,⟨q.1,q.2.1,q.2.2⟩⟩
   |ret=>exact q
   |exit i=>exact q
  ·obtain rfl:k=n:=by omega
   refine he.mono fun e L' H' nx' q=>?_
   cases e with
   |normal=>exact q.elim
   |ret=>exact q
   |exit i=>exact q
theorem VWp.loopRI (n:Nat) (inv:Nat→Prop) (L0:Frame) (H0:Heap) (Lf:Nat→Frame→Frame) (Hf:Nat→Heap→Heap) (nx0:Nat) (hb:bn≤nx0) (hn:nx0≤nx) (h1:LCov nx0 (Lf 0 L0) L) (h2:HCov nx0 (Hf 0 H0) H) (h0:inv 0)
 (hs:∀ k,k<n→inv k→VWp E bn b (Lf k L0) (Hf k H0) nx0 (QLoop (fun L' H' nx'=>inv (k+1)∧nx0≤nx'∧LCov nx0 (Lf (k+1) L0) L'∧HCov nx0 (Hf (k+1) H0) H') Q))
 (he:inv n→VWp E bn b (Lf n L0) (Hf n H0) nx0 (QLoop (fun _ _ _=>False) Q)):VWp E bn (.loop b) L H nx Q :=
 VWp.loopQ (fun k=>Lf k L0) (fun k=>Hf k H0) nx0 (fun k=>k≤n∧inv k) (fun k=>n-k) 0 hb ⟨Nat.zero_le _,h0⟩ ⟨hn,h1,h2⟩ fun k hk=>by
  obtain ⟨hk,hi⟩:=hk
  rcases Nat.lt_or_ge k n with h|h
  ·refine (hs k h hi).mono fun e L' H' nx' q=>?_
   cases e with
   |normal=>exact ⟨k+1,⟨h,q.1⟩,by omega,⟨q.2.1,q.2.2.1,q.2.2.2⟩⟩
   |ret=>exact q
   |exit i=>exact q
  ·obtain rfl:k=n:=by omega
   refine (he hi).mono fun e L' H' nx' q=>?_
   cases e with
   |normal=>exact q.elim
   |ret=>exact q
   |exit i=>exact q
section
variable {Q:PV→Heap→Nat→Prop} {w:Bool} {dst:Option Tmp} {ty:TypeId} {pos:String} {af:Array Edge} {gd:Option (Nat×Bool)}
theorem VVal.nilChk {x:Operand} {o off:Nat} {e:TypeId} {cs:List PV} (hx:vev E.Γ L x=some (.ref o off)) (hb:hget H o=some (.box e cs)) (q:Q (.ref o off) H nx):VVal E w ⟨dst,.nilCheck x,ty,pos,af,gd⟩ L H nx Q :=
 VVal.quiet q fun m F σ tt h1 h2=>by
  obtain ⟨c,h3,h4⟩:=vev_ref h1 h2 hx hb
  exact ⟨_,fun _=>by simp only [aval,aop,h3],.ref (h1.hp o _ hb).1 rfl fun _=>⟨c,h4,rfl⟩⟩
theorem vev_lst {Γ:Nat→Option (List Value×TypeId)} {m:Mem} {F:Nat→Prop} {σ:Nat→Value} {t:Tr Value} {x:Operand} {e:TypeId} {cs:List FV} {n:Nat} (hx:Ctx Γ m F σ H nx) (hl:RL m F (htag H) σ nx L t) (h:vev Γ L x=some (.p (.lst e cs n))) :
 ∃ a k g,ev t x=.slice a k g∧(0<n→a.isNone=false):=by
 have:=vev_rel hx hl h
 generalize ev t x=v at this
 cases this with
 |p hr =>
  cases hr with
  |nil=>exact ⟨_,_,_,rfl,fun h=>by omega⟩
  |room=>exact ⟨_,_,_,rfl,fun _=>rfl⟩
  |lst=>exact ⟨_,_,_,rfl,fun _=>rfl⟩
theorem vev_val {Γ:Nat→Option (List Value×TypeId)} {m:Mem} {F:Nat→Prop} {σ:Nat→Value} {t:Tr Value} {y:Operand} {v:Value} (hx:Ctx Γ m F σ H nx) (hl:RL m F (htag H) σ nx L t) (h:vev Γ L y=some (.p (.val v))):ev t y=v:=by
 have:=vev_rel hx hl h
 generalize ev t y=u at this
 cases this with|p hr=>cases hr;rfl
theorem vev_vecNil {Γ:Nat→Option (List Value×TypeId)} {m:Mem} {F:Nat→Prop} {σ:Nat→Value} {t:Tr Value} {x:Operand} {o n:Nat} {e:TypeId} {cs:List FV} {z:Bool} (hx:Ctx Γ m F σ H nx) (hl:RL m F (htag H) σ nx L t) (h:vev Γ L x=some (.vec o n 0 n)) (hb:hget H o=some (.vec e cs n z)) :
 ∃ a k g,ev t x=.slice a k g∧a.isNone=(decide (n=0)&&z):=by
 have hsub:=vev_vec hx hl h hb
 obtain ⟨_,hr⟩:=hx.hp o _ hb
 rcases hr with ⟨r1,r2,r3⟩|⟨c,g,vs,r1,r2,r3,r4,r5,r6,r7⟩
 ·rcases r3 with ⟨r3,rz⟩|⟨b',o',g',r3,rz⟩<;>rw [r3] at hsub<;>simp only [SubOf,nilSlice] at hsub<;>exact ⟨_,_,_,hsub.1,by subst rz;simp [r2]⟩
 ·rw [r1] at hsub;simp only [SubOf] at hsub
  refine ⟨_,_,_,hsub,?_⟩
  by_cases h0:n=0
  ·simp [r7 h0]
  ·simp [h0]
theorem abin_nil {P:Program} {t e':TypeId} {xo yo:Operand} {a:Option Addr} {k g:Nat} (ht:P.underlying t=some (.slice e')):abin P .eql t xo yo (.slice a k g) (.slice none 0 0)=some (.bool a.isNone)∧abin P .neq t xo yo (.slice a k g) (.slice none 0 0)=some (.bool !a.isNone):=by
 simp [abin,ht,aeqNil]
theorem VVal.eqNil {t t2 e e':TypeId} {x y:Operand} {cs:List FV} {n:Nat} (hx:vev E.Γ L x=some (.p (.lst e cs n))) (hy:vev E.Γ L y=some (.p (.val (.slice none 0 0)))) (ht:E.P.underlying t=some (.slice e')) (q:∀ b,(0<n→b=false)→Q (.p (.bool b)) H nx) :
 VVal E w ⟨dst,.binOp .eql t x y t2,ty,pos,af,gd⟩ L H nx Q:=fun m F σ tt h1 h2=>by
 obtain ⟨a,k,g,h3,h4⟩:=vev_lst h1 h2 hx
 have h5:=vev_val h1 h2 hy
 exact AVal.op (v:=.bool a.isNone) (m':=m) (fun _=>by simp only [aval,aop,h3,h5];rw [(abin_nil ht).1];rfl) ⟨_,H,nx,F,σ,q a.isNone h4,h1,.p (.bool _),Step.refl _ _ _ _ _,fun _ k hk _=>hk⟩
theorem VVal.eqNilF {t t2 e e':TypeId} {x y:Operand} {cs:List FV} {n:Nat} (hx:vev E.Γ L x=some (.p (.lst e cs n))) (hy:vev E.Γ L y=some (.p (.val (.slice none 0 0)))) (ht:E.P.underlying t=some (.slice e')) (hn:0<n) (q:Q (.p (.bool false)) H nx) :
 VVal E w ⟨dst,.binOp .eql t x y t2,ty,pos,af,gd⟩ L H nx Q:=VVal.eqNil hx hy ht fun b hb=>by rw [hb hn];exact q
theorem VVal.eqNilV {t t2 e e':TypeId} {x y:Operand} {o n:Nat} {cs:List FV} {z:Bool} (hx:vev E.Γ L x=some (.vec o n 0 n)) (hb:hget H o=some (.vec e cs n z)) (hy:vev E.Γ L y=some (.p (.val (.slice none 0 0)))) (ht:E.P.underlying t=some (.slice e')) (q:Q (.p (.bool (decide (n=0)&&z))) H nx) :
 VVal E w ⟨dst,.binOp .eql t x y t2,ty,pos,af,gd⟩ L H nx Q:=VVal.quiet q fun m F σ tt h1 h2=>by
 obtain ⟨a,k,g,h3,h4⟩:=vev_vecNil h1 h2 hx hb
 have h5:=vev_val h1 h2 hy
 exact ⟨.bool a.isNone,fun _=>by simp only [aval,aop,h3,h5];rw [(abin_nil ht).1];rfl,by rw [h4];exact .p (.bool _)⟩
theorem VVal.neNilV {t t2 e e':TypeId} {x y:Operand} {o n:Nat} {cs:List FV} {z:Bool} (hx:vev E.Γ L x=some (.vec o n 0 n)) (hb:hget H o=some (.vec e cs n z)) (hy:vev E.Γ L y=some (.p (.val (.slice none 0 0)))) (ht:E.P.underlying t=some (.slice e')) (q:Q (.p (.bool (!(decide (n=0)&&z)))) H nx) :
 VVal E w ⟨dst,.binOp .neq t x y t2,ty,pos,af,gd⟩ L H nx Q:=VVal.quiet q fun m F σ tt h1 h2=>by
 obtain ⟨a,k,g,h3,h4⟩:=vev_vecNil h1 h2 hx hb
 have h5:=vev_val h1 h2 hy
 exact ⟨.bool (!a.isNone),fun _=>by simp only [aval,aop,h3,h5];rw [(abin_nil ht).2];rfl,by rw [h4];exact .p (.bool _)⟩
theorem gi_set {α:Type} [Inhabited α] {l:List α} {i j:Nat} {a:α}:gi (l.set i a) j=if i=j∧j<l.length then a else gi l j:=by
 unfold gi
 rw [List.getElem?_set]
 by_cases h:i=j
 ·subst h
  by_cases h2:i<l.length
  ·simp [h2]
  ·simp [h2,List.getElem?_eq_none (by omega:l.length≤i)]
 ·simp [h]
theorem VVal.maskU {t t2:TypeId} {x y:Operand} {n:Nat} (hx:vev E.Γ L x=some (.p (.int .u64 ((2 ^ n:Nat):Int)))) (hy:vev E.Γ L y=some (.p (.int .u64 1))) (hn:n<64) (q:Q (.p (.int .u64 ((2 ^ n-1:Nat):Int))) H nx) :
 VVal E w ⟨dst,.binOp .sub t x y t2,ty,pos,af,gd⟩ L H nx Q :=
 VVal.subUN (a:=2 ^ n) (b:=1) hx hy ⟨Nat.one_le_two_pow,Nat.lt_of_le_of_lt (Nat.pow_le_pow_right (by omega) (show n≤63 by omega)) (by decide)⟩ q
end
theorem all_succ {P:Nat→Prop} {k:Nat} (h:∀ i,i<k→P i) (hk:P k):∀ i,i<k+1→P i:=fun i hi=>by
 rcases Nat.lt_or_ge i k with h1|h1
 ·exact h i h1
 ·obtain rfl:i=k:=by omega
  exact hk
def snocK {α:Type} (f:Nat→α):Nat→List α
 |0=>[]
 |k+1=>snocK f k++[f k]
theorem snocK_len {α:Type} (f:Nat→α):∀ k,(snocK f k).length=k
 |0=>rfl
 |k+1=>by simp [snocK,snocK_len f k]
theorem snocK_at {α:Type} (f:Nat→α):∀ k i,i<k→(snocK f k)[i]?=some (f i)
 |0,i,h=>by omega
 |k+1,i,h=>by
  simp only [snocK]
  rw [List.getElem?_append]
  rw [snocK_len]
  by_cases h2:i<k
  ·rw [if_pos h2];exact snocK_at f k i h2
  ·obtain rfl:i=k:=by omega
   rw [if_neg (by omega)];simp
theorem snocK_gi {α:Type} [Inhabited α] (f:Nat→α) {k i:Nat} (h:i<k):gi (snocK f k) i=f i:=by
 unfold gi;rw [snocK_at f k i h];rfl
theorem snocK_congr {α:Type} {f g:Nat→α}:∀ {k:Nat},(∀ i,i<k→f i=g i)→snocK f k=snocK g k
 |0,_=>rfl
 |k+1,h=>by rw [snocK,snocK,snocK_congr (fun i hi=>h i (by omega)),h k (by omega)]
def setK {α:Type} (f:Nat→α) (l:List α):Nat→List α
 |0=>l
 |k+1=>(setK f l k).set k (f k)
theorem setK_len {α:Type} (f:Nat→α) (l:List α):∀ k,(setK f l k).length=l.length
 |0=>rfl
 |k+1=>by simp [setK,setK_len f l k]
theorem setK_gi {α:Type} [Inhabited α] (f:Nat→α) (l:List α):∀ k i,gi (setK f l k) i=if i<k∧i<l.length then f i else gi l i
 |0,i=>by rw [if_neg (by omega)];rfl
 |k+1,i=>by
  simp only [setK]
  rw [gi_set,setK_len,setK_gi f l k i]
  by_cases h:i<l.length
  ·by_cases h2:k=i
   ·subst h2;rw [if_pos ⟨rfl,h⟩,if_pos ⟨by omega,h⟩]
   ·rw [if_neg (fun e=>h2 e.1)]
    by_cases h3:i<k
    ·rw [if_pos ⟨h3,h⟩,if_pos ⟨by omega,h⟩]
    ·rw [if_neg (fun e=>h3 e.1),if_neg (fun e=>h3 (by omega))]
  ·rw [if_neg (fun e=>h e.2),if_neg (fun e=>h e.2),if_neg (fun e=>h e.2)]
theorem list_gi {α:Type} [Inhabited α] {l r:List α} (h:l.length=r.length) (hg:∀ i,i<l.length→gi l i=gi r i):l=r:=by
 refine List.ext_getElem h fun i h1 h2=>?_
 have:=hg i h1
 unfold gi at this
 rw [List.getElem?_eq_getElem h1,List.getElem?_eq_getElem h2] at this
 exact this
theorem gi_replicate {α:Type} [Inhabited α] {a:α} {n i:Nat} (h:i<n):gi (List.replicate n a) i=a:=by
 unfold gi;rw [List.getElem?_replicate,if_pos h];rfl
def HUnd (k:Nat):Heap→Bool
 |[]=>true
 |(i,x)::H=>and (and (Nat.blt i k) (HB.ub k x)) (HUnd k H)
theorem HUnder_of {k:Nat}:∀ {H:Heap},HUnd k H=true→HUnder k H
 |[],_=>trivial
 |(_,_)::_,h=>by
  simp only [HUnd,Bool.and_eq_true] at h
  exact ⟨⟨lt_dec h.1.1,HB.under_of h.1.2⟩,HUnder_of h.2⟩
def VRead (E:Env) (g:FuncId) (ac:List PV) (Hc:Heap) (k:Nat) (x:FV):Prop:=VCalls E g ac Hc k fun r H' nx'=>r=.p x∧H'=Hc∧nx'=k
theorem VRead.enter {f:FuncId} {fn:Func} {c:Code} {ac:List PV} {Hc:Heap} {k:Nat} {x:FV} (ho:E.O f=none) (hf:E.P.funcs[f]?=some fn) (hb:fn.body=some c) (hok:fnOk E.G fn c=true) (hn:ac.length≤fn.ntmps)
 (h:VWp E k c (argFrame 0 ac) Hc k (Done E.P fn.results.toList k fun r' H' nx'=>r'=.p x∧H'=Hc∧nx'=k)):VRead E f ac Hc k x:=VCalls.enter ho hf hb hok hn h
theorem VVal.read {Q:PV→Heap→Nat→Prop} {dst:Option Tmp} {ty:TypeId} {pos:String} {af:Array Edge} {gd:Option (Nat×Bool)} {fo:Operand} {args:Array Operand} {aT:Array TypeId} {g:FuncId} {fs cs as ac:List PV} {Hc:Heap} {x:FV} (ns:List Nat) (hc:VRead E g ac Hc ns.length x)
 (hf:vev E.Γ L fo=some (.clo g fs cs)) (ha:evs E.Γ L args.toList=some as) (hle:PLes (fs++as++cs) (PVs.rn (rho ns nx) ac)) (hu:PVs.under ns.length ac) (hHu:HUnder ns.length Hc) (hin:HIn (rho ns nx) H Hc) (hnd:ns.Nodup) (hlt:∀ b∈ns,b<nx)
 (hm:news ns.length (rho ns nx) Hc (merge ns (rho ns nx) Hc H)=H) (q:Q (.p x) H nx) :
 VVal E true ⟨dst,.call { callee:=.value fo,args:=args,argTypes:=aT },ty,pos,af,gd⟩ L H nx Q :=
 VVal.callG hf ha hle hu hHu hin hnd hlt (fun h=>by cases h) hc fun r H' nx' ⟨h1,h2,h3⟩=>by
  subst h1;subst h2;subst h3
  rw [hm,Nat.sub_self]
  exact q
theorem build_array {P:Program} {t e:TypeId} {n:Nat} {z:List Value} {inf:TypeInfo} {ps:Array (Nat×Value)} {out:Array Value} (hz:zeroCellsOf P t=some z) (hu:P.underlying t=some (.array n e)) (hi:P.info? e=some inf)
 (hf:Instr.fill (fun i=>some (i*inf.size,inf.size)) z.toArray ps.toList=some out):dry P (Instr.build t ps)=some (.agg out):=by
 obtain ⟨i,zv,h1,h2,h3,h4⟩:=zeroCellsOf_some hz
 unfold Instr.build
 simp only [dry_bind]
 have hzv:dry P (zeroValue t)=some zv:=by
  simp only [zeroValue,dry_bind,dry_typeInfo,h1,Option.bind_some,h2]
  rfl
 rw [hzv]
 simp only [Option.bind_some,dry_underlying,hu]
 simp only [dry_bind,dry_sizeOf,hi,Option.map_some,Option.bind_some]
 have e:zv.cells=z.toArray:=by rw [h3]
 rw [e,hf]
 rfl
theorem VVal.buildA {Q:PV→Heap→Nat→Prop} {w:Bool} {dst:Option Tmp} {ty:TypeId} {pos:String} {af:Array Edge} {gd:Option (Nat×Bool)} {t e:TypeId} {n:Nat} {ps:Array (Nat×Operand)} {z:List Value} {inf:TypeInfo} {parts:List (Nat×PV)} {out:List PV} (hz:zeroCellsOf E.P t=some z) (hu:E.P.underlying t=some (.array n e))
 (hi:E.P.info? e=some inf) (hp:evp E.Γ L ps.toList=some parts) (hf:pfill (fun i=>some (i*inf.size,inf.size)) (z.map fun v=>.p (cellFV v)) parts=some out) (q:Q (mkAgg out) H nx) :
 VVal E w ⟨dst,.build t ps,ty,pos,af,gd⟩ L H nx Q :=
 VVal.quiet q fun m F σ tt h1 h2=>by
  obtain ⟨_,_,_,_,_,hpz⟩:=zeroCellsOf_some hz
  obtain ⟨out',e1,e2,e3⟩:=pfill_rel (fun i=>some (i*inf.size,inf.size)) (evp_rel h1 h2 hp) (cs':=z.toArray) (RPs.zero hpz) (all_plain_isCell hpz) hf
  have e4:=build_array (ps:=ps.map fun (i,x)=>(i,ev tt x)) hz hu hi (by rw [Array.toList_map];simpa using e1)
  refine ⟨.agg out',fun _=>?_,mkAgg_rel e2 e3⟩
  simp only [aval,aop,hz,e4,Option.map_some]
end Go.Vm
set_option linter.unusedSimpArgs false
set_option linter.unusedVariables false
namespace Go.Vm
open Go.Am
variable {E:Env} {L:Frame} {H:Heap} {nx:Nat} {Q:PV→Heap→Nat→Prop}
variable {dst:Option Tmp} {ty:TypeId} {pos:String} {af:Array Edge} {gd:Option (Nat×Bool)}
theorem FLes.appR (C:List FV):∀ {p q:List FV},FLes p q→FLes (p++C) (q++C)
 |_,_,.refl _=>.refl _
 |_,_,.cons h t=>.cons h (FLes.appR C t)
theorem FLes.appL:∀ (A:List FV) {p q:List FV},FLes p q→FLes (A++p) (A++q)
 |[],_,_,h=>h
 |a::A,_,_,h=>.cons (.refl a) (FLes.appL A h)
theorem psplice_left {α:Type}:∀ (z p c:List α) (o:Nat),o+z.length≤p.length→psplice (p++c) o z=psplice p o z++c
 |[],_,_,_,_=>rfl
 |x::z,p,c,o,h=>by
  simp only [List.length_cons] at h
  simp only [psplice]
  rw [List.set_append_left _ _ (by omega),psplice_left z (p.set o x) c (o+1) (by rw [List.length_set];omega)]
theorem psplice_field {α:Type} [Enc α] (l:List α) (i f:Nat) (y:α) (fs:List FV) (h:i<l.length) (hf:f+fs.length≤Enc.size α) (hy:FLes (psplice (Enc.enc (gi l i)) f fs) (Enc.enc y)):FLes (psplice (cells l) (i*Enc.size α+f) fs) (cells (l.set i y)):=by
 have h1:l=l.take i++(gi l i::l.drop (i+1)):=by
  have hd:l.drop i=gi l i::l.drop (i+1):=by
   rw [List.drop_eq_getElem_cons h];simp [gi,List.getElem?_eq_getElem h]
  conv=>lhs;rw [← List.take_append_drop i l]
  rw [hd]
 have h2:l.set i y=l.take i++(y::l.drop (i+1)):=by
  conv=>lhs;rw [h1]
  rw [List.set_append_right _ _ (by simp;omega)]
  rw [List.length_take,Nat.min_eq_left (by omega),Nat.sub_self,List.set_cons_zero]
 have h4:cells l=cells (l.take i)++(Enc.enc (gi l i)++cells (l.drop (i+1))):=by
  conv=>lhs;rw [h1,cells_append]
  rfl
 have h3:i*Enc.size α+f=(cells (l.take i)).length+f:=by rw [cells_length,List.length_take,Nat.min_eq_left (by omega)]
 rw [h2,cells_append,h4,h3,psplice_app,psplice_left _ _ _ _ (by rw [Enc.len];exact hf)]
 exact FLes.appL _ (FLes.appR _ hy)
theorem VVal.storeVW {t:TypeId} {a x:Operand} {b tag off:Nat} {e:TypeId} {cs cs' fs:List FV} {z:Bool} {r:PV} {i:TypeInfo} (ha:vev E.Γ L a=some (.eref b tag off)) (hx:vev E.Γ L x=some r) (hb:hget H b=some (.vec e cs tag z)) (hn:notTup r)
 (hf:pcells r=fs.map .p) (hi:E.P.info? t=some i) (hl:fs.length=i.size) (h0:0<i.size) (hle:off+i.size≤cs.length) (hw:FLes (psplice cs off fs) cs') (q:Q (.tup []) (hput H b (.vec e cs' tag z)) nx):VVal E true ⟨dst,.store t a x,ty,pos,af,gd⟩ L H nx Q:=by
 intro m F σ tt h1 h2
 obtain ⟨c,k,g,h3,h4⟩:=vev_eref h1 h2 ha hb
 obtain ⟨h5,h6⟩:=pcells_rel hn (vev_rel h1 h2 hx)
 rw [hf] at h5
 obtain ⟨hlt,hr⟩:=h1.hp b _ hb
 rcases hr with ⟨r1,r2,r3⟩|⟨c',g',vs,r1,r2,r3,r4,r5,r6,r7⟩
 ·rcases r3 with ⟨r3,_⟩|⟨b',o',g',r3,_⟩<;>rw [r3] at h4<;>cases h4
 rw [h4] at r1
 cases r1
 have hlen:=h5.length
 rw [List.length_map] at hlen
 have hlen2:=r5.length
 have hst:astore E.P t ⟨c,off,some g⟩ (ev tt x) m=some (m.put c (.cells (splice vs off (ev tt x).cells.toList) e g false)):=by
  unfold astore storeRow
  rw [hi]
  simp only [r4]
  rw [if_pos (by simpa using hlen.symm.trans hl),if_pos]
  simp only [agen,Option.getD_some,beq_self_eq_true,Bool.true_and,Bool.and_eq_true,decide_eq_true_eq]
  refine ⟨⟨?_,?_⟩,h6⟩
  ·rw [← hlen,hl,← hlen2];exact ⟨trivial,hle⟩
  ·rw [← hlen,hl];exact h0
 have hput':∀ d,c≠d→(m.put c (.cells (splice vs off (ev tt x).cells.toList) e g false)).get d=m.get d:=fun d hd=>by rw [Mem.get_put,if_neg hd]
 obtain ⟨c1,c2⟩:=h1.change (m':=m.put c (.cells (splice vs off (ev tt x).cells.toList) e g false)) (x':=.vec e cs' tag z) (s':=σ b) hb (Nat.le_refl _) (fun _=>rfl) (Nat.le_refl _)
  (fun d _ hd=>hput' d fun e=>hd (by rw [h4,e];rfl)) (fun k k1 k2 k3=>by
   have:=k3 c (by rw [h4];rfl)
   simp only [Mem.put];omega) (fun d hd=>.inl hd) (by
   refine .inr ⟨c,g,splice vs off (ev tt x).cells.toList,h4,r2,r3,by rw [Mem.get_put,if_pos rfl],?_,all_splice _ r6 h6,r7⟩
   exact RFs.le hw ((RFs.splice off r5 (RFs.ofRPs h5)).mono (fun d hd=>⟨hd,hput' d fun e=>r3 (e▸hd)⟩)))
 refine AVal.op (v:=undef) (fun _=>?_) ⟨_,_,_,F,_,q,c1,.tup .nil,c2,fun h=>by cases h⟩
 simp only [aval,aop,h3,hst,Option.map_some]
theorem VVal.storeVF {α:Type} {_:Enc α} {t:TypeId} {a x:Operand} {b n i f:Nat} {e:TypeId} {l:List α} {z:Bool} {r:PV} {fs:List FV} {inf:TypeInfo} (y:α) (ha:vev E.Γ L a=some (.eref b n (i*Enc.size α+f))) (hx:vev E.Γ L x=some r) (hb:hget H b=some (.vec e (cells l) n z)) (hn:notTup r)
 (hf:pcells r=fs.map .p) (hinf:E.P.info? t=some inf) (hl:fs.length=inf.size) (h0:0<inf.size) (hi:i<l.length) (hsz:f+inf.size≤Enc.size α) (hy:FLes (psplice (Enc.enc (gi l i)) f fs) (Enc.enc y)) (q:Q (.tup []) (hput H b (.vec e (cells (l.set i y)) n z)) nx):VVal E true ⟨dst,.store t a x,ty,pos,af,gd⟩ L H nx Q :=
 VVal.storeVW ha hx hb hn hf hinf hl h0 (by
  rw [cells_length]
  have:=Nat.mul_le_mul_right (Enc.size α) hi
  rw [Nat.succ_mul] at this
  omega) (psplice_field l i f y fs hi (by rw [hl];exact hsz) hy) q
theorem VVal.ofByte2 {w:Bool} {s d e e2:TypeId} {x:Operand} {b:Nat} {z:Bool} {n k:Int} (hx:vev E.Γ L x=some (.vec b 2 0 2)) (hb:hget H b=some (.vec e2 [.int .u8 n,.int .u8 k] 2 z)) (hs:E.P.underlying s=some (.slice e)) (hd:E.P.underlying d=some .string) (he:E.P.underlying e=some (.int .u8)) (hn:0≤n∧n<256) (hk:0≤k∧k<256)
 (q:Q (st [UInt8.ofNat n.toNat,UInt8.ofNat k.toNat]) H nx):VVal E w ⟨dst,.convert s d x,ty,pos,af,gd⟩ L H nx Q :=
 VVal.quiet q fun m F σ tt c1 c2=>by
  obtain ⟨hl1,vs,hl2,hl3,hl4⟩:=SlC.all (sz:=1) hx hb rfl m F σ tt c1 c2
  have hc:cells [UInt8.ofNat n.toNat,UInt8.ofNat k.toNat]=[.int .u8 n,.int .u8 k]:=by
   show [FV.int .u8 (((UInt8.ofNat n.toNat).toNat:Nat):Int),FV.int .u8 (((UInt8.ofNat k.toNat).toNat:Nat):Int)]=_
   rw [UInt8.toNat_ofNat',UInt8.toNat_ofNat']
   congr 2
   ·omega
   ·congr 2
    omega
  rw [← hc] at hl3
  have hvs:=cells_bytes hl3
  subst hvs
  have hsub:=vev_vec c1 c2 hx hb
  have hag:∃ a g,ev tt x=.slice a 2 g:=by
   unfold SubOf at hsub
   split at hsub
   ·exact ⟨_,_,hsub⟩
   ·exact absurd hsub.2.2 (by decide)
  obtain ⟨a,g,hag⟩:=hag
  rw [hag] at hl2
  refine ⟨.string (bs [UInt8.ofNat n.toNat,UInt8.ofNat k.toNat]),fun _=>?_,.p (.str _)⟩
  have hsl:(isSlT E.P s||isSlT E.P d)=true:=by simp only [isSlT,hs,hd];rfl
  simp only [aval,aop,hsl,if_true,aconv,hs,hd,hag,he,hl2,unbyte_some]
  rfl
end Go.Vm
