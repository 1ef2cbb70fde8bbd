/-
  Texts of a proof, merged (VmG, TraP, EnvO, IntA, IntB, FraA, RkB, RkC, OrA, OrB, RkA, RkD, RkE, RkF, RkG, RkH, RkI, OrF, RkJ, RkK, RkL, OrG, OrH, OrI, TraE). Conditions: in each statement.
-/
import Derived.Shelf.Spec.SlicesGrow
import Derived.Test.YtdabojnmoejilaaGreatDoorKKc
set_option linter.unusedSimpArgs false
set_option linter.unusedVariables false
set_option linter.unusedSectionVars false
set_option maxRecDepth 100000
set_option maxHeartbeats 8000000
namespace Go.Vm
open Go.Am
variable {E:Env} {bn:Nat} {L:Frame} {H:Heap} {nx:Nat} {Q:CO→Frame→Heap→Nat→Prop} {b:Code}
theorem Ap.eq {k i:Nat} {v0:PV} {L0:Frame} (hv:GV L i=some v0) (hu:v0.under k) (t:Ap k L0 L):Ap k ((i,v0)::L0) L:=⟨⟨hu,v0,hv,.refl _⟩,t⟩
theorem Ak.eq {k i:Nat} {v0:HB} {L0:Heap} (hv:hget H i=some v0) (hi:i<k) (hu:v0.under k) (t:Ak k L0 H):Ak k ((i,v0)::L0) H:=⟨⟨hi,hu,v0,hv,.refl _⟩,t⟩
mutual
def PV.ub (k:Nat):PV→Bool
 | .p _=>true
 | .agg cs=>AZ.ub k cs
 | .EW cs=>AZ.ub k cs
 | .vec b _ _ _=>Nat.blt b k
 | .ref b _=>Nat.blt b k
 | .Ec b _ _=>Nat.blt b k
 | .mref b=>Nat.blt b k
 | .clo _ fs cs=>and (AZ.ub k fs) (AZ.ub k cs)
def AZ.ub (k:Nat):List PV→Bool
 |[]=>true
 |c::cs=>and (PV.ub k c) (AZ.ub k cs)
end
mutual
theorem PV.Ac {k:Nat}:∀ {x:PV},PV.ub k x=true→x.under k
 | .p _,_=>trivial
 | .agg _,h=>AZ.Ac (by simpa [PV.ub] using h)
 | .EW _,h=>AZ.Ac (by simpa [PV.ub] using h)
 | .vec _ _ _ _,h=>Aj h
 | .ref _ _,h=>Aj h
 | .Ec _ _ _,h=>Aj h
 | .mref _,h=>Aj h
 | .clo _ _ _,h=>by
  simp only [PV.ub,Bool.and_eq_true] at h
  exact ⟨AZ.Ac h.1,AZ.Ac h.2⟩
theorem AZ.Ac {k:Nat}:∀ {x:List PV},AZ.ub k x=true→AZ.under k x
 |[],_=>trivial
 |_::_,h=>by
  simp only [AZ.ub,Bool.and_eq_true] at h
  exact ⟨PV.Ac h.1,AZ.Ac h.2⟩
end
def HB.ub (k:Nat):HB→Bool
 | .box _ cs=>AZ.ub k cs
 | .Fj _ cs _=>AZ.ub k cs
 |_=>true
theorem HB.Ac {k:Nat} {x:HB} (h:HB.ub k x=true):x.under k:=by
 cases x with
 |box e cs=>exact AZ.Ac h
 |Fj e cs n=>exact AZ.Ac h
 |vec=>trivial
 |map=>trivial
theorem Ad.EF (n:Nat) (L0:Frame) (H0:Heap) (Lf:Nat→Frame→Frame) (Hf:Nat→Heap→Heap) (D6:Nat) (hb:bn≤D6) (hn:D6≤nx) (h1:Ap D6 (Lf 0 L0) L) (h2:Ak D6 (Hf 0 H0) H)
 (hs:∀ k,k<n→Ad E bn b (Lf k L0) (Hf k H0) D6 (Aw (fun L' H' nx'=>D6≤nx'∧Ap D6 (Lf (k+1) L0) L'∧Ak D6 (Hf (k+1) H0) H') Q))
 (he:Ad E bn b (Lf n L0) (Hf n H0) D6 (Aw (fun _ _ _=>False) Q)):Ad E bn (.loop b) L H nx Q :=
 Ad.Ee (fun k=>Lf k L0) (fun k=>Hf k H0) D6 (fun k=>k≤n) (fun k=>n-k) 0 hb (Nat.zero_le _) ⟨hn,h1,h2⟩ fun k hk=>by
  rcases Nat.lt_or_ge k n with h|h
  ·refine (hs k h).mono fun e L' H' nx' q=>?_
   cases e with
   |normal=>exact ⟨k+1,h,by omega,⟨q.1,q.2.1,q.2.2⟩⟩
   |ret=>exact q
   |exit i=>exact q
  ·obtain rfl:k=n:=by omega
   refine he.mono fun e L' H' nx' q=>?_
   cases e with
   |normal=>exact q.elim
   |ret=>exact q
   |exit i=>exact q
theorem Ad.H8 (n:Nat) (inv:Nat→Prop) (L0:Frame) (H0:Heap) (Lf:Nat→Frame→Frame) (Hf:Nat→Heap→Heap) (D6:Nat) (hb:bn≤D6) (hn:D6≤nx) (h1:Ap D6 (Lf 0 L0) L) (h2:Ak D6 (Hf 0 H0) H) (h0:inv 0)
 (hs:∀ k,k<n→inv k→Ad E bn b (Lf k L0) (Hf k H0) D6 (Aw (fun L' H' nx'=>inv (k+1)∧D6≤nx'∧Ap D6 (Lf (k+1) L0) L'∧Ak D6 (Hf (k+1) H0) H') Q))
 (he:inv n→Ad E bn b (Lf n L0) (Hf n H0) D6 (Aw (fun _ _ _=>False) Q)):Ad E bn (.loop b) L H nx Q :=
 Ad.Ee (fun k=>Lf k L0) (fun k=>Hf k H0) D6 (fun k=>k≤n∧inv k) (fun k=>n-k) 0 hb ⟨Nat.zero_le _,h0⟩ ⟨hn,h1,h2⟩ fun k hk=>by
  obtain ⟨hk,hi⟩:=hk
  rcases Nat.lt_or_ge k n with h|h
  ·refine (hs k h hi).mono fun e L' H' nx' q=>?_
   cases e with
   |normal=>exact ⟨k+1,⟨h,q.1⟩,by omega,⟨q.2.1,q.2.2.1,q.2.2.2⟩⟩
   |ret=>exact q
   |exit i=>exact q
  ·obtain rfl:k=n:=by omega
   refine (he hi).mono fun e L' H' nx' q=>?_
   cases e with
   |normal=>exact q.elim
   |ret=>exact q
   |exit i=>exact q
section
variable {Q:PV→Heap→Nat→Prop} {w:Bool} {dst:Option Tmp} {ty:TypeId} {pos:String} {af:Array Edge} {gd:Option (Nat×Bool)}
theorem yU {Γ:Nat→Option (List Value×TypeId)} {m:Mem} {F:Nat→Prop} {σ:Nat→Value} {t:Tr Value} {x:Operand} {e:TypeId} {cs:List FV} {n:Nat} (hx:Ctx Γ m F σ H nx) (hl:RL m F (htag H) σ nx L t) (h:BG Γ L x=some (.p (.lst e cs n))) :
 ∃ a k g,ev t x=.slice a k g∧(0<n→a.isNone=false):=by
 have:=BX hx hl h
 generalize ev t x=v at this
 cases this with
 |p hr =>
  cases hr with
  |nil=>exact ⟨_,_,_,rfl,fun h=>by omega⟩
  |room=>exact ⟨_,_,_,rfl,fun _=>rfl⟩
  |lst=>exact ⟨_,_,_,rfl,fun _=>rfl⟩
theorem xJ {Γ:Nat→Option (List Value×TypeId)} {m:Mem} {F:Nat→Prop} {σ:Nat→Value} {t:Tr Value} {y:Operand} {v:Value} (hx:Ctx Γ m F σ H nx) (hl:RL m F (htag H) σ nx L t) (h:BG Γ L y=some (.p (.val v))):ev t y=v:=by
 have:=BX hx hl h
 generalize ev t y=u at this
 cases this with|p hr=>cases hr;rfl
theorem tY {P:Program} {t e':TypeId} {xo yo:Operand} {a:Option Addr} {k g:Nat} (ht:P.underlying t=some (.slice e')):OM P .eql t xo yo (.slice a k g) (.slice none 0 0)=some (.bool a.isNone)∧OM P .neq t xo yo (.slice a k g) (.slice none 0 0)=some (.bool !a.isNone):=by
 simp [OM,ht,J9]
theorem Aa.eqNil {t t2 e e':TypeId} {x y:Operand} {cs:List FV} {n:Nat} (hx:BG E.Γ L x=some (.p (.lst e cs n))) (hy:BG E.Γ L y=some (.p (.val (.slice none 0 0)))) (ht:E.P.underlying t=some (.slice e')) (q:∀ b,(0<n→b=false)→Q (.p (.bool b)) H nx) :
 Aa E w ⟨dst,.binOp .eql t x y t2,ty,pos,af,gd⟩ L H nx Q:=fun m F σ tt h1 h2=>by
 obtain ⟨a,k,g,h3,h4⟩:=yU h1 h2 hx
 have h5:=xJ h1 h2 hy
 exact Ik.op (v:=.bool a.isNone) (m':=m) (fun _=>by simp only [CX,FH,h3,h5];rw [(tY ht).1];rfl) ⟨_,H,nx,F,σ,q a.isNone h4,h1,.p (.bool _),Step.refl _ _ _ _ _,fun _ k hk _=>hk⟩
theorem Aa.a2y {t t2 e e':TypeId} {x y:Operand} {cs:List FV} {n:Nat} (hx:BG E.Γ L x=some (.p (.lst e cs n))) (hy:BG E.Γ L y=some (.p (.val (.slice none 0 0)))) (ht:E.P.underlying t=some (.slice e')) (hn:0<n) (q:Q (.p (.bool false)) H nx) :
 Aa E w ⟨dst,.binOp .eql t x y t2,ty,pos,af,gd⟩ L H nx Q:=Aa.eqNil hx hy ht fun b hb=>by rw [hb hn];exact q
theorem SH {α:Type} [Inhabited α] {l:List α} {i j:Nat} {a:α}:gi (l.set i a) j=if i=j∧j<l.length then a else gi l j:=by
 unfold gi
 rw [List.getElem?_set]
 by_cases h:i=j
 ·subst h
  by_cases h2:i<l.length
  ·simp [h2]
  ·simp [h2,List.getElem?_eq_none (by omega:l.length≤i)]
 ·simp [h]
end
theorem all_succ {P:Nat→Prop} {k:Nat} (h:∀ i,i<k→P i) (hk:P k):∀ i,i<k+1→P i:=fun i hi=>by
 rcases Nat.lt_or_ge i k with h1|h1
 ·exact h i h1
 ·obtain rfl:i=k:=by omega
  exact hk
def zT {α:Type} (f:Nat→α):Nat→List α
 |0=>[]
 |k+1=>zT f k++[f k]
def a1i {α:Type} (f:Nat→α) (l:List α):Nat→List α
 |0=>l
 |k+1=>(a1i f l k).set k (f k)
theorem MV {α:Type} [Inhabited α] {a:α} {n i:Nat} (h:i<n):gi (List.replicate n a) i=a:=by
 unfold gi;rw [List.getElem?_replicate,if_pos h];rfl
def a2f (k:Nat):Heap→Bool
 |[]=>true
 |(i,x)::H=>and (and (Nat.blt i k) (HB.ub k x)) (a2f k H)
theorem Gl {k:Nat}:∀ {H:Heap},a2f k H=true→NI k H
 |[],_=>trivial
 |(_,_)::_,h=>by
  simp only [a2f,Bool.and_eq_true] at h
  exact ⟨⟨Aj h.1.1,HB.Ac h.1.2⟩,Gl h.2⟩
def dX (E:Env) (g:FuncId) (ac:List PV) (Hc:Heap) (k:Nat) (x:FV):Prop:=BF E g ac Hc k fun r H' nx'=>r=.p x∧H'=Hc∧nx'=k
theorem dX.enter {f:FuncId} {fn:Func} {c:Code} {ac:List PV} {Hc:Heap} {k:Nat} {x:FV} (ho:E.O f=none) (hf:E.P.funcs[f]?=some fn) (hb:fn.body=some c) (hok:H6 E.G fn c=true) (hn:ac.length≤fn.ntmps)
 (h:Ad E k c (CQ 0 ac) Hc k (Done E.P fn.results.toList k fun r' H' nx'=>r'=.p x∧H'=Hc∧nx'=k)):dX E f ac Hc k x:=BF.enter ho hf hb hok hn h
theorem Aa.read {Q:PV→Heap→Nat→Prop} {dst:Option Tmp} {ty:TypeId} {pos:String} {af:Array Edge} {gd:Option (Nat×Bool)} {fo:Operand} {args:Array Operand} {aT:Array TypeId} {g:FuncId} {fs cs CG ac:List PV} {Hc:Heap} {x:FV} (ns:List Nat) (hc:dX E g ac Hc ns.length x)
 (hf:BG E.Γ L fo=some (.clo g fs cs)) (ha:evs E.Γ L args.toList=some CG) (hle:PE (fs++CG++cs) (AZ.rn (rho ns nx) ac)) (hu:AZ.under ns.length ac) (zJ:NI ns.length Hc) (hin:HIn (rho ns nx) H Hc) (hnd:ns.Nodup) (hlt:∀ b∈ns,b<nx)
 (hm:news ns.length (rho ns nx) Hc (merge ns (rho ns nx) Hc H)=H) (q:Q (.p x) H nx) :
 Aa E true ⟨dst,.call { callee:=.value fo,args:=args,argTypes:=aT },ty,pos,af,gd⟩ L H nx Q :=
 Aa.wX hf ha hle hu zJ hin hnd hlt (fun h=>by cases h) hc fun r H' nx' ⟨h1,h2,h3⟩=>by
  subst h1;subst h2;subst h3
  rw [hm,Nat.sub_self]
  exact q
theorem fC {P:Program} {t e:TypeId} {n:Nat} {z:List Value} {inf:TypeInfo} {ps:Array (Nat×Value)} {out:Array Value} (hz:Cm P t=some z) (hu:P.underlying t=some (.array n e)) (hi:P.info? e=some inf)
 (hf:Instr.fill (fun i=>some (i*inf.size,inf.size)) z.toArray ps.toList=some out):EM P (Instr.build t ps)=some (.agg out):=by
 obtain ⟨i,zv,h1,h2,h3,h4⟩:=BN hz
 unfold Instr.build
 simp only [Bf]
 have hzv:EM P (zeroValue t)=some zv:=by
  simp only [zeroValue,Bf,Jw,h1,Option.bind_some,h2]
  rfl
 rw [hzv]
 simp only [Option.bind_some,BR,hu]
 simp only [Bf,G8,hi,Option.map_some,Option.bind_some]
 have e:zv.cells=z.toArray:=by rw [h3]
 rw [e,hf]
 rfl
theorem Aa.uo {Q:PV→Heap→Nat→Prop} {w:Bool} {dst:Option Tmp} {ty:TypeId} {pos:String} {af:Array Edge} {gd:Option (Nat×Bool)} {t e:TypeId} {n:Nat} {ps:Array (Nat×Operand)} {z:List Value} {inf:TypeInfo} {parts:List (Nat×PV)} {out:List PV} (hz:Cm E.P t=some z) (hu:E.P.underlying t=some (.array n e))
 (hi:E.P.info? e=some inf) (hp:evp E.Γ L ps.toList=some parts) (hf:Ph (fun i=>some (i*inf.size,inf.size)) (z.map fun v=>.p (F9 v)) parts=some out) (q:Q (eP out) H nx) :
 Aa E w ⟨dst,.build t ps,ty,pos,af,gd⟩ L H nx Q :=
 Aa.quiet q fun m F σ tt h1 h2=>by
  obtain ⟨_,_,_,_,_,hpz⟩:=BN hz
  obtain ⟨out',e1,e2,e3⟩:=Oo (fun i=>some (i*inf.size,inf.size)) (U0 h1 h2 hp) (cs':=z.toArray) (DU.zero hpz) (Dw hpz) hf
  have e4:=fC (ps:=ps.map fun (i,x)=>(i,ev tt x)) hz hu hi (by rw [Array.toList_map];simpa using e1)
  refine ⟨.agg out',fun _=>?_,Ry e2 e3⟩
  simp only [CX,FH,hz,e4,Option.map_some]
end Go.Vm
namespace Go.Vm
open Go.Am
variable {E:Env} {L:Frame} {H:Heap} {nx:Nat} {Q:PV→Heap→Nat→Prop}
variable {dst:Option Tmp} {ty:TypeId} {pos:String} {af:Array Edge} {gd:Option (Nat×Bool)}
theorem Bl.a4d (C:List FV):∀ {p q:List FV},Bl p q→Bl (p++C) (q++C)
 |_,_,.refl _=>.refl _
 |_,_,.cons h t=>.cons h (Bl.a4d C t)
theorem Bl.a4n:∀ (A:List FV) {p q:List FV},Bl p q→Bl (A++p) (A++q)
 |[],_,_,h=>h
 |a::A,_,_,h=>.cons (.refl a) (Bl.a4n A h)
theorem Qo {α:Type}:∀ (z p c:List α) (o:Nat),o+z.length≤p.length→BJ (p++c) o z=BJ p o z++c
 |[],_,_,_,_=>rfl
 |x::z,p,c,o,h=>by
  simp only [List.length_cons] at h
  simp only [BJ]
  rw [List.set_append_left _ _ (by omega),Qo z (p.set o x) c (o+1) (by rw [List.length_set];omega)]
theorem Xt {α:Type} [Enc α] (l:List α) (i f:Nat) (y:α) (fs:List FV) (h:i<l.length) (hf:f+fs.length≤Enc.size α) (hy:Bl (BJ (Enc.enc (gi l i)) f fs) (Enc.enc y)):Bl (BJ (cells l) (i*Enc.size α+f) fs) (cells (l.set i y)):=by
 have h1:l=l.take i++(gi l i::l.drop (i+1)):=by
  have hd:l.drop i=gi l i::l.drop (i+1):=by
   rw [List.drop_eq_getElem_cons h];simp [gi,List.getElem?_eq_getElem h]
  conv=>lhs;rw [← List.take_append_drop i l]
  rw [hd]
 have h2:l.set i y=l.take i++(y::l.drop (i+1)):=by
  conv=>lhs;rw [h1]
  rw [List.set_append_right _ _ (by simp;omega)]
  rw [List.length_take,Nat.min_eq_left (by omega),Nat.sub_self,List.set_cons_zero]
 have h4:cells l=cells (l.take i)++(Enc.enc (gi l i)++cells (l.drop (i+1))):=by
  conv=>lhs;rw [h1,En]
  rfl
 have h3:i*Enc.size α+f=(cells (l.take i)).length+f:=by rw [BK,List.length_take,Nat.min_eq_left (by omega)]
 rw [h2,En,h4,h3,KL,Qo _ _ _ _ (by rw [Enc.len];exact hf)]
 exact Bl.a4n _ (Bl.a4d _ hy)
theorem Aa.yN {t:TypeId} {a x:Operand} {b tag off:Nat} {e:TypeId} {cs cs' fs:List FV} {z:Bool} {r:PV} {i:TypeInfo} (ha:BG E.Γ L a=some (.Ec b tag off)) (hx:BG E.Γ L x=some r) (hb:hget H b=some (.vec e cs tag z)) (hn:MK r)
 (hf:FQ r=fs.map .p) (hi:E.P.info? t=some i) (hl:fs.length=i.size) (h0:0<i.size) (hle:off+i.size≤cs.length) (hw:Bl (BJ cs off fs) cs') (q:Q (.EW []) (hput H b (.vec e cs' tag z)) nx):Aa E true ⟨dst,.store t a x,ty,pos,af,gd⟩ L H nx Q:=by
 intro m F σ tt h1 h2
 obtain ⟨c,k,g,h3,h4⟩:=Q9 h1 h2 ha hb
 obtain ⟨h5,h6⟩:=IU hn (BX h1 h2 hx)
 rw [hf] at h5
 obtain ⟨hlt,hr⟩:=h1.hp b _ hb
 rcases hr with ⟨r1,r2,r3⟩|⟨c',g',vs,r1,r2,r3,r4,r5,r6,r7⟩
 ·rcases r3 with ⟨r3,_⟩|⟨b',o',g',r3,_⟩<;>rw [r3] at h4<;>cases h4
 rw [h4] at r1
 cases r1
 have hlen:=h5.length
 rw [List.length_map] at hlen
 have hlen2:=r5.length
 have hst:IW E.P t ⟨c,off,some g⟩ (ev tt x) m=some (m.put c (.cells (splice vs off (ev tt x).cells.toList) e g false)):=by
  unfold IW EP
  rw [hi]
  simp only [r4]
  rw [if_pos (by simpa using hlen.symm.trans hl),if_pos]
  simp only [Jk,Option.getD_some,beq_self_eq_true,Bool.true_and,Bool.and_eq_true,decide_eq_true_eq]
  refine ⟨⟨?_,?_⟩,h6⟩
  ·rw [← hlen,hl,← hlen2];exact ⟨trivial,hle⟩
  ·rw [← hlen,hl];exact h0
 have hput':∀ d,c≠d→(m.put c (.cells (splice vs off (ev tt x).cells.toList) e g false)).get d=m.get d:=fun d hd=>by rw [Mem.get_put,if_neg hd]
 obtain ⟨c1,c2⟩:=h1.change (m':=m.put c (.cells (splice vs off (ev tt x).cells.toList) e g false)) (x':=.vec e cs' tag z) (s':=σ b) hb (Nat.le_refl _) (fun _=>rfl) (Nat.le_refl _)
  (fun d _ hd=>hput' d fun e=>hd (by rw [h4,e];rfl)) (fun k k1 k2 k3=>by
   have:=k3 c (by rw [h4];rfl)
   simp only [Mem.put];omega) (fun d hd=>.inl hd) (by
   refine .inr ⟨c,g,splice vs off (ev tt x).cells.toList,h4,r2,r3,by rw [Mem.get_put,if_pos rfl],?_,G6 _ r6 h6,r7⟩
   exact DT.le hw ((DT.splice off r5 (DT.Ue h5)).mono (fun d hd=>⟨hd,hput' d fun e=>r3 (e▸hd)⟩)))
 refine Ik.op (v:=undef) (fun _=>?_) ⟨_,_,_,F,_,q,c1,.EW .nil,c2,fun h=>by cases h⟩
 simp only [CX,FH,h3,hst,Option.map_some]
theorem Aa.lq {α:Type} {_:Enc α} {t:TypeId} {a x:Operand} {b n i f:Nat} {e:TypeId} {l:List α} {z:Bool} {r:PV} {fs:List FV} {inf:TypeInfo} (y:α) (ha:BG E.Γ L a=some (.Ec b n (i*Enc.size α+f))) (hx:BG E.Γ L x=some r) (hb:hget H b=some (.vec e (cells l) n z)) (hn:MK r)
 (hf:FQ r=fs.map .p) (a2o:E.P.info? t=some inf) (hl:fs.length=inf.size) (h0:0<inf.size) (hi:i<l.length) (hsz:f+inf.size≤Enc.size α) (hy:Bl (BJ (Enc.enc (gi l i)) f fs) (Enc.enc y)) (q:Q (.EW []) (hput H b (.vec e (cells (l.set i y)) n z)) nx):Aa E true ⟨dst,.store t a x,ty,pos,af,gd⟩ L H nx Q :=
 Aa.yN ha hx hb hn hf a2o hl h0 (by
  rw [BK]
  have:=Nat.mul_le_mul_right (Enc.size α) hi
  rw [Nat.succ_mul] at this
  omega) (Xt l i f y fs hi (by rw [hl];exact hsz) hy) q
theorem Aa.Zo {w:Bool} {s d e e2:TypeId} {x:Operand} {b:Nat} {z:Bool} {n k:Int} (hx:BG E.Γ L x=some (.vec b 2 0 2)) (hb:hget H b=some (.vec e2 [.int .u8 n,.int .u8 k] 2 z)) (hs:E.P.underlying s=some (.slice e)) (hd:E.P.underlying d=some .string) (he:E.P.underlying e=some (.int .u8)) (hn:0≤n∧n<256) (hk:0≤k∧k<256)
 (q:Q (st [UInt8.ofNat n.toNat,UInt8.ofNat k.toNat]) H nx):Aa E w ⟨dst,.convert s d x,ty,pos,af,gd⟩ L H nx Q :=
 Aa.quiet q fun m F σ tt c1 c2=>by
  obtain ⟨hl1,vs,hl2,hl3,hl4⟩:=o8.all (sz:=1) hx hb rfl m F σ tt c1 c2
  have hc:cells [UInt8.ofNat n.toNat,UInt8.ofNat k.toNat]=[.int .u8 n,.int .u8 k]:=by
   show [FV.int .u8 (((UInt8.ofNat n.toNat).toNat:Nat):Int),FV.int .u8 (((UInt8.ofNat k.toNat).toNat:Nat):Int)]=_
   rw [UInt8.toNat_ofNat',UInt8.toNat_ofNat']
   congr 2
   ·omega
   ·congr 2
    omega
  rw [← hc] at hl3
  have hvs:=NP hl3
  subst hvs
  have hsub:=GX c1 c2 hx hb
  have hag:∃ a g,ev tt x=.slice a 2 g:=by
   unfold EH at hsub
   split at hsub
   ·exact ⟨_,_,hsub⟩
   ·exact absurd hsub.2.2 (by decide)
  obtain ⟨a,g,hag⟩:=hag
  rw [hag] at hl2
  refine ⟨.string (bs [UInt8.ofNat n.toNat,UInt8.ofNat k.toNat]),fun _=>?_,.p (.str _)⟩
  have hsl:(Hy E.P s||Hy E.P d)=true:=by simp only [Hy,hs,hd];rfl
  simp only [CX,FH,hsl,if_true,TI,hs,hd,hag,he,hl2,NY]
  rfl
end Go.Vm
namespace Go.Tra
open Go Go.Am Go.Vm
structure Q8 where
 d:Nat
 s:Nat
instance:Enc Q8:={ default:=⟨0,0⟩,enc:=fun x=>[.int .i64 (x.d:Int),.int .i64 (x.s:Int)],size:=2,len:=fun _=>rfl }
def Lj (ns:List Nat):Nat→List Q8
 |0=>[]
 |d+1=>Lj ns d++(List.range (gi ns d)).map fun s=>⟨d,s⟩
def La (ns:List Nat) (d:Nat):Nat:=(Lj ns d).length
theorem JC (ns:List Nat) (d:Nat):La ns (d+1)=La ns d+gi ns d:=by simp [La,Lj]
theorem Y7 (ns:List Nat) {d e:Nat} (h:d≤e):La ns d≤La ns e:=by
 induction e with
 |zero=>obtain rfl:d=0:=by omega
        exact Nat.le_refl _
 |succ e ih =>
  rcases Nat.lt_or_ge d (e+1) with h1|h1
  ·have:=ih (by omega)
   rw [JC];omega
  ·obtain rfl:d=e+1:=by omega
   exact Nat.le_refl _
theorem nC (ns:List Nat):∀ (n d s:Nat),d<n→s<gi ns d→gi (Lj ns n) (La ns d+s)=⟨d,s⟩
 |n+1,d,s,h1,h2=>by
  have e0:Lj ns (n+1)=Lj ns n++(List.range (gi ns n)).map fun s=>⟨n,s⟩:=rfl
  rw [e0]
  unfold gi
  rw [List.getElem?_append]
  rcases Nat.lt_or_ge d n with h|h
  ·have h3:=Y7 ns (d:=d+1) (e:=n) h
   rw [JC] at h3
   rw [if_pos (by show _<La ns n;omega)]
   exact nC ns n d s h h2
  ·obtain rfl:d=n:=by omega
   have:(Lj ns d).length=La ns d:=rfl
   unfold gi at h2
   rw [if_neg (by omega),this,Nat.add_sub_cancel_left,List.getElem?_map,List.getElem?_range (by simpa [gi] using h2)]
   rfl
def VB (x:Q8):List Value:=[.agg #[.int .i64 (x.d:Int),.int .i64 (x.s:Int)]]
def FB (ns:List Nat):List (List Value):=(List.range (La ns ns.length)).map fun k=>VB (gi (Lj ns ns.length) k)
theorem TK (ns:List Nat):(FB ns).length=La ns ns.length:=by simp [FB]
theorem gu (ns:List Nat) {d s:Nat} (hd:d<ns.length) (hs:s<gi ns d) (h:La ns d+s<(FB ns).length):(FB ns)[La ns d+s]=VB ⟨d,s⟩:=by
 simp only [FB,List.getElem_map,List.getElem_range]
 rw [nC ns _ d s hd hs]
theorem a0v (ns:List Nat) {d s:Nat} (hd:d<ns.length) (hs:s<gi ns d):La ns d+s<(FB ns).length:=by
 have h3:=Y7 ns (d:=d+1) (e:=ns.length) hd
 rw [JC] at h3
 rw [TK];omega
def TF (vs:List Value) (off:Nat):Nat→Option (List Nat)
 |0=>some []
 |n+1=>match TF vs off n with
  |some l=>match vs[off+n*5]?,vs[off+n*5+1]?,vs[off+n*5+2]?,vs[off+n*5+3]?,vs[off+n*5+4]? with
   |some (.string _),some (.bool _),some (.int .i64 _),some (.int .i64 _),some (.slice _ k _)=>if k<1000000 then some (l++[k]) else none
   |_,_,_,_,_=>none
  |none=>none
theorem MP {vs:List Value} {off:Nat}:∀ {n:Nat} {l:List Nat},TF vs off n=some l→l.length=n∧∀ d,d<n→∃ x0 x1 x2 x3 a c,vs[off+d*5]?=some (.string x0)∧vs[off+d*5+1]?=some (.bool x1)∧vs[off+d*5+2]?=some (.int .i64 x2)∧vs[off+d*5+3]?=some (.int .i64 x3)∧vs[off+d*5+4]?=some (.slice a (gi l d) c)∧gi l d<1000000
 |0,l,h=>by cases h;exact ⟨rfl,fun d hd=>by omega⟩
 |n+1,l,h=>by
  unfold TF at h
  split at h
  case h_2=>cases h
  rename_i l0 h0
  split at h
  case h_2=>cases h
  rename_i x0 x1 x2 x3 a k c y0 y1 y2 y3 h1
  split at h
  case isFalse=>cases h
  rename_i hk
  cases h
  obtain ⟨i1,i2⟩:=MP h0
  refine ⟨by simp [i1],fun d hd=>?_⟩
  rcases Nat.lt_or_ge d n with h|h
  ·obtain ⟨z0,z1,z2,z3,a',c',h20,h21,h22,h23,h2⟩:=i2 d h
   refine ⟨z0,z1,z2,z3,a',c',h20,h21,h22,h23,?_⟩
   have:gi (l0++[k]) d=gi l0 d:=by unfold gi;rw [List.getElem?_append_left (by omega)]
   rw [this];exact h2
  ·obtain rfl:d=n:=by omega
   refine ⟨x0,x1,x2,x3,a,c,y0,y1,y2,y3,?_⟩
   have:gi (l0++[k]) d=k:=by unfold gi;rw [← i1];simp
   rw [this];exact ⟨h1,hk⟩
def PO (sl:Value) (ns:List Nat):Value:=.tuple #[sl,.agg (ns.map fun k:Nat=>Value.int .i64 (k:Int)).toArray]
theorem jw {a b:Value} {x y:List Nat} (h:PO a x=PO b y):a=b∧x=y:=by
 unfold PO at h
 simp only [Value.tuple.injEq,Array.mk.injEq,List.cons.injEq,Value.agg.injEq,and_true] at h
 refine ⟨h.1,?_⟩
 have h2:=h.2
 refine List.ext_getElem? fun i=>?_
 have h3:=congrArg (fun l:List Value=>l[i]?) h2
 simp only [List.getElem?_map] at h3
 cases hx:x[i]?<;>cases hy:y[i]?<;>rw [hx,hy] at h3<;>simp at h3
 congr 1;omega
def QG:zX:=fun lb m=>match lb with
 |[.pointer (some ⟨b,0,none⟩)]=>match m.get b with
  | .cells [_,_,.slice (some ⟨c,off,none⟩) n g,_] _ 0 false=>match m.get c with
   | .cells vs _ g' _=>if 0<n∧n<1000000∧g'=g then (TF vs off n).map fun ns=>(PO (.slice (some ⟨c,off,none⟩) n g) ns,FB ns) else none
   |_=>none
  |_=>none
 |_=>none
theorem Vp {lb:List Value} {m:Mem} {key:Value} {rows:List (List Value)} (h:QG lb m=some (key,rows)):∃ b x y c off n g z e vs e' ro ns,lb=[.pointer (some ⟨b,0,none⟩)]∧m.get b=.cells [x,y,.slice (some ⟨c,off,none⟩) n g,z] e 0 false ∧
 m.get c=.cells vs e' g ro∧0<n∧n<1000000∧TF vs off n=some ns∧key=PO (.slice (some ⟨c,off,none⟩) n g) ns∧rows=FB ns:=by
 unfold QG at h
 split at h
 case h_2=>cases h
 rename_i b
 split at h
 case h_2=>cases h
 rename_i x y c off n g z e hb
 split at h
 case h_2=>cases h
 rename_i vs e' g' ro hc
 split at h
 case isFalse=>cases h
 rename_i hn
 obtain ⟨hn,hn9,rfl⟩:=hn
 rw [Option.map_eq_some_iff] at h
 obtain ⟨ns,h1,h2⟩:=h
 cases h2
 exact ⟨b,x,y,c,off,n,g',z,e,vs,e',ro,ns,rfl,hb,hc,hn,hn9,h1,rfl,rfl⟩
end Go.Tra
namespace Go.Proofs.YtdabojnmoejilaaGreatDoor
open Go Go.Am Go.Vm Go.Tra Go.RowKit
structure a8x (B O n c1 o1:Nat) (ns:List Nat) (X:World):Prop where
 box:∃ cap,X.cell? ⟨c1,o1+2,none⟩=some (.slice (some ⟨B,O,none⟩) n cap)
 div:∀ d,d<n→∃ v0 v1 v2 v3 a c,X.cell? ⟨B,O+d*5,none⟩=some (.string v0)∧X.cell? ⟨B,O+d*5+1,none⟩=some (.bool v1)∧X.cell? ⟨B,O+d*5+2,none⟩=some (.int .i64 v2)∧X.cell? ⟨B,O+d*5+3,none⟩=some (.int .i64 v3)∧X.cell? ⟨B,O+d*5+4,none⟩=some (.slice a (gi ns d) c)
abbrev vV (lb:List Value) (key:Value) (rows:List (List Value)) (ι:Cc) (g:Nat→Nat) (lb':Array Value):World→Prop:=VA Tryz.prog (BP Tryz.prog 8 EN) (fun m'=>QG lb m'=some (key,rows)∧∀ k∈BP Tryz.prog 8 EN,m'.get k=(CY Tryz.prog 8 EN).get k) ι g lb lb'
theorem kH {G:List Nat} {ι:Cc} {m:Mem} {w:World} {b:Nat} {p':Value} {vs:List Value} {e:TypeId} (hs:Em Tryz.prog G ι m w) (h:Bh ι m.gen (.pointer (some ⟨b,0,none⟩)) p') (hm:m.get b=.cells vs e 0 false) :
 ∃ c o,p'=.pointer (some ⟨c,o,none⟩)∧∀ i,i<vs.length→∃ v',w.cell? ⟨c,o+i,none⟩=some v'∧Bh ι m.gen (vs.getD i undef) v':=by
 cases h with
 |ptr a a' h =>
  obtain ⟨ib,h1,h2,h3⟩:=h
  obtain ⟨cs,fr,e',q1,q2,q3,q4,q5⟩:=Ky hs h1 hm
  have e1:=h3 (by simp [Mem.gen,hm,G7.gen,Jk])
  refine ⟨ib.blk,ib.sh,by rw [e1];simp,fun i hi=>?_⟩
  obtain ⟨v',r1,r2⟩:=q4 i hi
  exact ⟨v',by rw [Am.cell_of_row q1];exact r1,r2⟩
theorem nY {ι:Cc} {g:Nat→Nat} {c off n gen:Nat} {v':Value} {ib:IB} (h:Bh ι g (.slice (some ⟨c,off,none⟩) n gen) v') (hn:0<n) (hg:gen=g c) (hi:ι c=some ib):∃ cap,v'=.slice (some ⟨ib.blk,off+ib.sh,none⟩) n cap:=by
 cases h with
 |sl _ _ _ _ a' cap hsr =>
  obtain ⟨ib',h1,h2,h3⟩:=Hq hsr (fun _=>hn) 0
  rw [hi] at h1
  cases h1
  have:=h3 (by simpa [Jk] using hg)
  rw [Addr.add_zero'] at this
  refine ⟨cap,?_⟩
  rw [this]
  simp
theorem yT {G:List Nat} {ι:Cc} {m:Mem} {w:World} {c off n g:Nat} {vs:List Value} {e:TypeId} {ro:Bool} {ib:IB} {ns:List Nat} (hs:Em Tryz.prog G ι m w) (hi:ι c=some ib) (hc:m.get c=.cells vs e g ro) (hd:TF vs off n=some ns) {d:Nat} (hlt:d<n) :
 ∃ v0 v1 v2 v3 a k,w.cell? ⟨ib.blk,off+ib.sh+d*5,none⟩=some (.string v0)∧w.cell? ⟨ib.blk,off+ib.sh+d*5+1,none⟩=some (.bool v1)∧w.cell? ⟨ib.blk,off+ib.sh+d*5+2,none⟩=some (.int .i64 v2)∧w.cell? ⟨ib.blk,off+ib.sh+d*5+3,none⟩=some (.int .i64 v3)∧w.cell? ⟨ib.blk,off+ib.sh+d*5+4,none⟩=some (.slice a (gi ns d) k):=by
 obtain ⟨cs,fr,e',q1,q2,q3,q4,q5⟩:=Ky hs hi hc
 obtain ⟨x0,x1,x2,x3,a,k,y0,y1,y2,y3,hv,_⟩:=(MP hd).2 d hlt
 have hl:off+d*5+4<vs.length:=by
  rcases Nat.lt_or_ge (off+d*5+4) vs.length with h|h
  ·exact h
  ·rw [List.getElem?_eq_none h] at hv;cases hv
 have cell:∀ j,j≤4→∃ v',w.cell? ⟨ib.blk,off+ib.sh+d*5+j,none⟩=some v'∧Bh ι m.gen (vs.getD (off+d*5+j) undef) v':=fun j hj=>by
  obtain ⟨v',r1,r2⟩:=q4 (off+d*5+j) (by omega)
  refine ⟨v',?_,r2⟩
  rw [Am.cell_of_row q1,← r1]
  congr 1
  omega
 obtain ⟨v0,h0,r0⟩:=cell 0 (by omega)
 obtain ⟨v1,h1,r1⟩:=cell 1 (by omega)
 obtain ⟨v2,h2,r2⟩:=cell 2 (by omega)
 obtain ⟨v3,h3,r3⟩:=cell 3 (by omega)
 obtain ⟨v4,h4,r4⟩:=cell 4 (by omega)
 rw [List.getD_eq_getElem?_getD,Nat.add_zero,y0,Option.getD_some] at r0
 rw [List.getD_eq_getElem?_getD,y1,Option.getD_some] at r1
 rw [List.getD_eq_getElem?_getD,y2,Option.getD_some] at r2
 rw [List.getD_eq_getElem?_getD,y3,Option.getD_some] at r3
 rw [List.getD_eq_getElem?_getD,hv,Option.getD_some] at r4
 cases r0;cases r1;cases r2;cases r3
 have:∃ a' k',v4=.slice a' (gi ns d) k':=by
  generalize gi ns d=q at *
  cases r4<;>exact ⟨_,_,rfl⟩
 obtain ⟨a',k',rfl⟩:=this
 exact ⟨x0,x1,x2,x3,a',k',h0,h1,h2,h3,h4⟩
theorem nM {lb:List Value} {m:Mem} {key:Value} {rows:List (List Value)} (hq:QG lb m=some (key,rows)) {ι:Cc} {w:World} {lb':Array Value} (Eo:Em Tryz.prog (BP Tryz.prog 8 EN) ι m w) (hl:BO ι m.gen lb lb'.toList) :
 ∃ B O n c1 o1 ns,0<n∧n<1000000∧(∀ d,d<n→gi ns d<1000000)∧ns.length=n∧rows=FB ns∧lb'=#[.pointer (some ⟨c1,o1,none⟩)]∧∀ X,vV lb key rows ι m.gen lb' X→a8x B O n c1 o1 ns X:=by
 obtain ⟨b,x,y,c,off,n,g,z,e,vs,e',ro,ns,rfl,hb,hc,hn,hn9,hns,rfl,rfl⟩:=Vp hq
 obtain ⟨lb'⟩:=lb'
 obtain ⟨p1,k1,rfl,r1,hl2⟩:=hl.LW
 have hk:k1=[]:=List.length_eq_zero_iff.1 hl2.1.symm
 subst hk
 obtain ⟨c1,o1,rfl,hcell⟩:=kH Eo r1 hb
 have hg:g=m.gen c:=by simp [Mem.gen,hc,G7.gen]
 obtain ⟨v2,_,h2⟩:=hcell 2 (by simp)
 have hib:∃ ib,ι c=some ib:=by
  simp only [List.getD_cons_succ,List.getD_cons_zero] at h2
  cases h2 with
  |sl _ _ _ _ a' cap hsr =>
   obtain ⟨ib,h1,_⟩:=hsr
   exact ⟨ib,h1⟩
 obtain ⟨ib,hib⟩:=hib
 refine ⟨ib.blk,off+ib.sh,n,c1,o1,ns,hn,hn9,fun d hd=>by obtain ⟨_,_,_,_,_,_,_,_,_,_,_,h⟩:=(MP hns).2 d hd;exact h,(MP hns).1,rfl,rfl,?_⟩
 rintro X ⟨ι',m',g1,g2,⟨g3,g4⟩,g5⟩
 obtain ⟨b',x',y',c',off',n',g',z',e1',vs',e2',ro',ns',q0,qb,qc,qn,qn9,qns,qk,qr⟩:=Vp g3
 cases q0
 obtain ⟨k1,rfl⟩:=jw qk
 cases k1
 obtain ⟨_,ib',i1,i2⟩:=g5 c ib hib
 have:ib'=ib:=i2 (by rw [← hg];simp [Mem.gen,qc,G7.gen])
 subst this
 obtain ⟨p1',k1',x1,x2,_⟩:=g2.LW
 cases x1
 obtain ⟨c1',o1',z1,z2⟩:=kH g1 x2 qb
 cases z1
 refine ⟨?_,fun d hd=>yT g1 i1 qc qns hd⟩
 obtain ⟨v',w1,w2⟩:=z2 2 (by simp)
 simp only [List.getD_cons_succ,List.getD_cons_zero] at w2
 obtain ⟨cap,rfl⟩:=nY w2 hn (by simp [Mem.gen,qc,G7.gen]) i1
 exact ⟨cap,w1⟩
attribute [local go_sem] Oper.semAt_some
def ivS:Value→Int| .int _ q=>q|_=>0
theorem iQ (lb:List Value) (m:Mem) (key:Value) (rows:List (List Value)) (hq:QG lb m=some (key,rows)) (hg:∀ k∈BP Tryz.prog 8 EN,m.get k=(CY Tryz.prog 8 EN).get k) (ι:Cc) (w:World) (lb':Array Value) (Eo:Em Tryz.prog (BP Tryz.prog 8 EN) ι m w) (hl:BO ι m.gen lb lb'.toList) :
 WW Tryz.prog 81 lb' rows (vV lb key rows ι m.gen lb') w:=by
 obtain ⟨B,O,n,c1,o1,ns,hn,hn9,a7k,hlen,rfl,rfl,facts⟩:=nM hq Eo hl
 have later:∀ X Y,vV lb key (FB ns) ι m.gen #[.pointer (some ⟨c1,o1,none⟩)] X→Below X.heap.size X Y→vV lb key (FB ns) ι m.gen #[.pointer (some ⟨c1,o1,none⟩)] Y:=by
  rintro X Y ⟨ι',m',g1,g2,g3⟩ hb
  exact ⟨ι',m',RU g1 hb,g2,g3⟩
 generalize vV lb key (FB ns) ι m.gen #[.pointer (some ⟨c1,o1,none⟩)]=SI at *
 intro l J Jx W hB hJ hx hY hI hj
 refine callsIn_of_wp Tryz.func81 rfl trivial ?_ rfl
 simp only [Tryz.ntmps81,List.size_toArray,List.length_cons,List.length_nil,Nat.reduceAdd,Nat.reduceSub,Array.replicate_succ,Array.replicate_zero,List.push_toArray,List.append_toArray,List.nil_append,List.cons_append]
 obtain ⟨⟨cap,hbox⟩,hdiv⟩:=facts W hI
 gi_wp2
 gi_loopw [9] (fun v wr=>∃ d:Nat,d≤n∧v=.int .i64 (d:Int)∧J (La ns d) wr∧SI wr) (fun v _=>(n-ivS v).toNat)
 case atStart=>exact ⟨0,Nat.zero_le _,by simp,hj,hI⟩
 case round =>
  obtain ⟨d,hd,rfl,hJd,hId⟩:=hrel
  obtain ⟨_,hdv⟩:=facts _ hId
  by_cases hlt:d<n
  ·obtain ⟨v0,v1,v2,v3,a,k,f0,f1,f2,f3,f4⟩:=hdv d hlt
   have hwd:IntKind.i64.wrap ((d:Int)+1)=((d+1:Nat):Int):=by rw [XK (by omega) (by omega)];omega
   gi_wp2
   have hJ1:∀ o,J (La ns d) (wr.alloc o):=fun o=>hJ _ _ _ hJd ((Below.refl _ _).alloc (Nat.le_refl _) o)
   have hI1:∀ o,SI (wr.alloc o):=fun o=>later _ _ hId ((Below.refl _ _).alloc (Nat.le_refl _) o)
   gi_loopw [17] (fun v wr2=>∃ s:Nat,s≤gi ns d∧v=.int .i64 (s:Int)∧J (La ns d+s) wr2∧SI wr2) (fun v _=>(gi ns d-ivS v).toNat)
   case atStart=>exact ⟨0,Nat.zero_le _,by simp,hJ1 _,hI1 _⟩
   case round =>
    obtain ⟨s,hs,rfl,hJs,hIs⟩:=hrel
    have h9:=a7k d hlt
    by_cases hls:s<gi ns d
    ·have hws:IntKind.i64.wrap ((s:Int)+1)=((s+1:Nat):Int):=by rw [XK (by omega) (by omega)];omega
     have hpl:=a0v ns (d:=d) (s:=s) (by omega) hls
     obtain ⟨fn,tmps,LU,body,hy,hR⟩:=hY _ _ hpl hJs
     rw [gu ns (by omega) hls] at hy
     have hy:(Instr.yield l #[.agg #[.int .i64 (d:Int),.int .i64 (s:Int)]]).run Tryz.prog wr=.ok (.round l fn tmps LU body) wr:=hy
     gi_wp2
     refine ⟨rfl,hR.mono ?_⟩
     rintro e W3 (⟨rfl,hJ3,hI3⟩|⟨rfl,hx3⟩)
     ·gi_wp2
      go_roundw
      case rel=>exact ⟨s+1,hls,by first|rfl|simp,hJ3,hI3⟩
      case measure=>simp [ivS];omega
     ·gi_wp2
      refine ⟨rfl,_,results_none rfl _ _ _,⟨_,rfl⟩,.inr ⟨_,hx3⟩⟩
    ·have hss:s=gi ns d:=by omega
     rw [hss,← JC] at hJs
     gi_wp2
     go_roundw
     case rel=>exact ⟨d+1,hlt,by first|rfl|simp,hJs,hIs⟩
     case measure=>simp [ivS];omega
  ·have hdd:d=n:=by omega
   gi_wp2
   go_end0
   exact ⟨⟨_,rfl⟩,.inl (by rw [TK,hlen,← hdd];exact hJd)⟩
end Go.Proofs.YtdabojnmoejilaaGreatDoor
namespace Go.Vm
open Go Go.Am
section
variable {P:Program} {G:List Nat}
def Md (e:TypeId) (xs:List Value) (m:Mem):Option (Value×Mem):=match xs with
 |[.slice none 0 0,.int .i64 n]=>if n=0 then some (.slice none 0 0,m) else Wv e [.slice none 0 0,.int .i64 n] m
 |_=>none
def V5 (fg:FuncId) (e:TypeId) (O:CJ):CJ:=fun f=>if f=fg then some (Md e) else O f
theorem LC {fg f:FuncId} {e:TypeId} {O:CJ} (h:f≠fg):V5 fg e O f=O f:=if_neg h
theorem Yd {fg:FuncId} {e:TypeId} {O:CJ}:V5 fg e O fg=some (Md e):=if_pos rfl
theorem Ul {e:TypeId} {xs:List Value} {m m':Mem} {v:Value} (h:Md e xs m=some (v,m')):(xs=[.slice none 0 0,.int .i64 0]∧v=.slice none 0 0∧m'=m)∨Wv e xs m=some (v,m'):=by
 unfold Md at h
 split at h
 ·rename_i n
  split at h
  ·rename_i hn;subst hn;cases h;exact .inl ⟨rfl,rfl,rfl⟩
  ·exact .inr h
 ·cases h
theorem ZF {O:CJ} {fg:FuncId} {e:TypeId} (hO:Hg P G (mM fg e O)) (hc:∀ w:World,Calls P fg #[.slice none 0 0,.int .i64 0] w fun r w'=>r=.returned (.slice none 0 0)∧w'=w):Hg P G (V5 fg e O):=by
 intro f Fo hf
 by_cases h:f=fg
 ·subst h
  rw [Yd] at hf
  cases hf
  obtain ⟨o1,o2,o3,o4⟩:=hO f _ bD
  refine ⟨fun xs m v m' hv ι w as' hs hrel=>?_,fun xs m v m' hv=>?_,o3,Yx.none fun n lb m=>rfl⟩
  ·rcases Ul hv with ⟨rfl,rfl,rfl⟩|hv
   ·obtain ⟨hlen,hat⟩:=hrel
    have hl2:as'.toList.length=2:=by simpa using hlen.symm
    have e0:as'=#[.slice none 0 0,.int .i64 0]:=by
     obtain ⟨l⟩:=as'
     match l,hl2 with
     |[a,b],_ =>
      have ha:=hat 0 (by simp)
      have hb:=hat 1 (by simp)
      simp only [List.getD_cons_zero,List.getD_cons_succ] at ha hb
      have hb':=hb.CB (v:=.int .i64 0) rfl
      cases ha
      rw [hb']
    subst e0
    refine (hc w).mono ?_
    rintro r w' ⟨rfl,rfl⟩
    exact ⟨_,rfl,Post.same hs (Bh.plain rfl)⟩
   ·exact o1 xs m v m' hv ι w as' hs hrel
  ·rcases Ul hv with ⟨rfl,rfl,rfl⟩|hv
   ·exact BA.refl _
   ·exact o2 xs m v m' hv
 ·rw [LC h] at hf
  exact hO f Fo (by rw [aH h];exact hf)
end
end Go.Vm
namespace Go.Proofs.YtdabojnmoejilaaGreatDoor
open Go Go.Am Go.Vm Go.Tra
theorem a5d:Tryz.prog.follows .mixedOrders=true:=by kernel_rfl
theorem rM:jk 8 EN:=⟨⟨1,39,by kernel_rfl,by kernel_rfl,of_decide_eq_true (by kernel_rfl)⟩⟩
theorem aW:Am.Enters Tryz.prog 114:=⟨_,Tryz.func114,by kernel_rfl,by kernel_rfl⟩
theorem WL:Am.Enters Tryz.prog 118:=⟨_,Tryz.func118,by kernel_rfl,by kernel_rfl⟩
theorem dO:Am.Enters Tryz.prog 111:=⟨_,Tryz.func111,by kernel_rfl,by kernel_rfl⟩
def yI:List (FuncId×Vk):=[(114,mO),(118,Rl),(111,textF)]
theorem xI:Hg Tryz.prog (BP Tryz.prog 8 EN) (YW (BP Tryz.prog 8 EN) (CY Tryz.prog 8 EN) yI):=jG fun x hx=>by
 simp only [yI,List.mem_cons,List.not_mem_nil,or_false] at hx
 rcases hx with rfl|rfl|rfl
 ·exact kF rM aW
 ·exact XG WL
 ·exact iM rM dO
def zh:Go.Shelf.Ren:=⟨fun|4=>121|n=>n,fun|0=>0|3=>3|4=>4|9=>9|20=>20|22=>52|25=>3|n=>n,fun|n=>n⟩
theorem ng:Go.Proofs.Lays8.n4 Tryz.prog zh:={
 mixed:=by kernel_rfl
 f4:=⟨"slices.Grow[[]int,int]",by decide,Tryz.func121.trans (congrArg some (by kernel_rfl))⟩
 t0:=Tryz.underlying0
 a0:=Tryz.isAgg0
 z0:=Tryz.sizeOf0
 v0:=Tryz.zeroValue0
 t3:=Tryz.underlying3
 a3:=Tryz.isAgg3
 z3:=Tryz.sizeOf3
 v3:=Tryz.zeroValue3
 t4:=Tryz.underlying4
 a4:=Tryz.isAgg4
 z4:=Tryz.sizeOf4
 v4:=Tryz.zeroValue4
 t9:=Tryz.underlying9
 a9:=Tryz.isAgg9
 z9:=Tryz.sizeOf9
 v9:=Tryz.zeroValue9
 t20:=Tryz.underlying20
 a20:=Tryz.isAgg20
 z20:=Tryz.sizeOf20
 v20:=Tryz.zeroValue20
 t22:=Tryz.underlying52
 a22:=Tryz.isAgg52
 z22:=Tryz.sizeOf52
 v22:=Tryz.zeroValue52 }
theorem pq:(match Tryz.prog.info? 3 with|some i=>decide (i.size=1)&&decide (i.bytes=8)&&(match i.zero with|some (.int .i64 n)=>decide (n=0)|_=>false)|none=>false)=true:=by kernel_rfl
theorem vN:∃ i0,Tryz.prog.info? 3=some i0∧i0.zero=some (.int .i64 0)∧i0.size=1∧i0.bytes=8:=by
 have h:=pq
 generalize Tryz.prog.info? 3=o at *
 cases o with
 |none=>cases h
 |some i =>
  simp only [Bool.and_eq_true,decide_eq_true_eq] at h
  obtain ⟨⟨h1,h2⟩,h3⟩:=h
  refine ⟨i,rfl,?_,h1,h2⟩
  split at h3
  ·rename_i n hz
   rw [hz,of_decide_eq_true h3]
  ·cases h3
theorem jL (n:Nat) (w:World) (h0:0<n) (hn:n≤1000000):Calls Tryz.prog 121 #[.slice none 0 0,.int .i64 n] w fun r w'=>∃ cap cs,r=.returned (.slice (some ⟨w.heap.size,0,none⟩) 0 cap)∧w'.heap=w.heap.push (.cells cs 3 (0,0))∧w'.tape=w.tape∧w'.os=w.os∧w'.output=w.output∧cap*Tryz.prog.cellsOf 3≤cs.size:=by
 obtain ⟨i0,h1,h2,h3,h4⟩:=vN
 refine (Any8.slices_Grow_grow ng i0 (.int .i64 0) h1 h2 (by omega) none 0 0 n [] w (Nat.le_refl _) (by omega) (by rw [h4];omega) (by omega) (by simp) (fun _=>rfl) (fun a ha=>by cases ha)).mono ?_
 rintro r w' ⟨rfl,rfl⟩
 refine ⟨_,_,rfl,rfl,rfl,rfl,rfl,?_⟩
 rw [ET h1,h3]
 have e:(Value.int .i64 0).cells.size=1:=rfl
 simp only [Array.size_append,JR,e]
 omega
theorem aN:Am.Enters Tryz.prog 121:=⟨_,Tryz.func121,by kernel_rfl,by kernel_rfl⟩
noncomputable def sJ:CJ:=V5 121 3 (YW (BP Tryz.prog 8 EN) (CY Tryz.prog 8 EN) yI)
theorem xR:Hg Tryz.prog (BP Tryz.prog 8 EN) sJ:=ZF (bK xI aN jL) fun w=>Any8.slices_Grow_room ng none 0 0 0 w (Nat.le_refl _) (by omega) (by omega) (by omega)
theorem Xr:Am.Enters Tryz.prog 81:=⟨_,Tryz.func81,by kernel_rfl,by kernel_rfl⟩
theorem qw:∀ fn,Tryz.prog.funcs[81]?=some fn→fn.ntmps=28:=fun fn h=>by
 rw [Tryz.func81] at h
 cases h
 exact Tryz.ntmps81
noncomputable def aQ:CJ:=zC (BP Tryz.prog 8 EN) (CY Tryz.prog 8 EN) 81 28 QG sJ
theorem a0t:Hg Tryz.prog (BP Tryz.prog 8 EN) aQ:=gQ xR Xr qw iQ
noncomputable abbrev env:Env:=Jv Tryz.prog 8 EN aQ
theorem QH {f:FuncId} (h:f≠81):aQ f=sJ f:=kS h
theorem Ug:aQ 81=some (Tm (BP Tryz.prog 8 EN) (CY Tryz.prog 8 EN) 28 QG):=by unfold aQ;exact lX
theorem AB {f:FuncId} (h:f∉81::121::yI.map (·.1)):env.O f=none:=by
 show aQ f=none
 rw [QH (fun e=>h (by rw [e];simp))]
 show V5 _ _ _ f=none
 rw [LC (fun e=>h (by rw [e];simp))]
 refine oW ?_
 rw [List.lookup_eq_none_iff]
 intro p hp
 by_cases e:f=p.1
 ·exact absurd (List.mem_cons_of_mem _ (List.mem_cons_of_mem _ (List.mem_map.2 ⟨p,hp,e.symm⟩))) h
 ·simpa using e
theorem uM (n:Int) (h:-9223372036854775808≤n∧n≤9223372036854775807):AX env 114 [.int .i64 n] (st (Lib.itoa n)) :=
 WX ((QH (by decide)).trans (LC (by decide))) rfl fun m F xs h1=>by
  cases h1 with
  |cons h1 t =>
   cases t;cases h1
   exact ⟨_,by simp only [mO];rw [if_pos h],.str _⟩
theorem Um (a b:List UInt8):AX env 118 [.str (bs a),.str (bs b)] (.p (.int .i64 (Lib.compareBytes a b))) :=
 WX ((QH (by decide)).trans (LC (by decide))) rfl fun m F xs h1=>by
  cases h1 with
  |cons h1 t =>
   cases t with
   |cons h2 t =>
    cases t;cases h1;cases h2
    exact ⟨.int .i64 (Lib.compareBytes a b),by simp only [Rl,ZL],.int _ _⟩
theorem eX (l:List Nat) (hl:Num.Xi l) (hn:l.length<1000000000):AX env 111 [.lst 39 (cells l) l.length] (st (Num.Na l)) :=
 WX ((QH (by decide)).trans (LC (by decide))) rfl fun m F xs h1=>qg hl hn h1
theorem Yr:aQ 121=some (Md 3):=(QH (by decide)).trans Yd
theorem xu (n:Nat) (h0:0<n) (hn:n≤1000000):Ci env 121 [.val (.slice none 0 0),.int .i64 (n:Int)] 3 [] 0 false:=by
 intro m F σ xs h1 h2
 have h2':DT m F [.val (.slice none 0 0),.int .i64 (n:Int)] xs:=DT.Ue h2
 have e:xs=[.slice none 0 0,.int .i64 (n:Int)]:=by
  cases h2' with
  |cons a t =>
   cases t with
   |cons b t =>
    cases t
    cases a
    cases b
    rfl
 subst e
 obtain ⟨c1,c2,c3,c4⟩:=Ou (e:=3) (cs:=[]) (vs:=[]) 0 h1 .nil rfl
 refine Jm.gI (F:=Md 3) (m':=(BL m 3 [] 0).2) (v:=(BL m 3 [] 0).1) Yr ?_ ⟨_,_,_,F,_,⟨rfl,rfl,rfl⟩,c1,c4,c2⟩
 simp only [Md,Wv]
 rw [if_neg (by omega),if_pos (by omega)]
theorem pX:AX env 121 [.val (.slice none 0 0),.int .i64 0] (.p (.val (.slice none 0 0))):=by
 intro m F σ xs h1 h2
 have h2':DT m F [.val (.slice none 0 0),.int .i64 0] xs:=DT.Ue h2
 have e:xs=[.slice none 0 0,.int .i64 0]:=by
  cases h2' with
  |cons a t =>
   cases t with
   |cons b t =>
    cases t
    cases a
    cases b
    rfl
 subst e
 exact Jm.gI (F:=Md 3) (m':=m) (v:=.slice none 0 0) Yr (by simp only [Md];rfl) ⟨_,[],0,F,σ,⟨rfl,rfl,rfl⟩,h1,.p (.val rfl),Step.refl _ _ _ _ _⟩
end Go.Proofs.YtdabojnmoejilaaGreatDoor
namespace Go.Proofs.YtdabojnmoejilaaGreatDoor
open Go Go.Am Go.Vm
attribute [local irreducible] Aa Af Aq Ad BF AX Ci AU AO Aw Vm.Done CS Bq
theorem YD (l:List Nat) (hl:l.length<1000000):AX env 131 [.lst 39 (cells l) l.length] (lst 39 (Num.Kq l)):=by
 refine AX.enter (AB (by decide)) Tryz.func131 rfl (by kernel_rfl) (by simp [Tryz.ntmps131]) ?_
 repeat' (first|apply Ad.AA|apply Ad.Ai|apply Af.nil|apply Af.one|(apply Aa.assign;rfl))
 refine Ad.Ee (fun a:List Nat=>[(0,lst 39 a)]) (fun _=>[]) 0 (fun a=>a.length≤l.length∧Num.Kq a=Num.Kq l) (fun a=>a.length) l (Nat.le_refl _) ⟨by omega,rfl⟩ ⟨Nat.le_refl _,?_,trivial⟩ ?_
 ·repeat (first|exact Ap.nil|refine Ap.same (by exact PV.Ac rfl) rfl ?_|refine Ap.cons trivial rfl (.of_eq (Au (by simp<;>omega))) ?_)
 rintro a ⟨ha,hr⟩
 have hlast:0<a.length→a=a.take (a.length-1)++[gi a (a.length-1)]:=fun h=>by
  conv=>lhs;rw [← List.take_append_drop (a.length-1) a]
  congr 1
  rw [List.drop_eq_getElem_cons (by omega),List.drop_eq_nil_of_le (by omega)]
  simp [gi,List.getElem?_eq_getElem (show a.length-1<a.length by omega)]
 repeat' (first|apply Ad.assoc|apply Ad.AA|apply Ad.region|apply Ad.Ar|apply Ad.A8|apply AU.normal|apply AO.normal|apply AO.exit|apply Aw.exit|apply Ad.ret|apply Ad.Fv|apply Af.nil|apply Af.one|(apply Af.take;rfl;rfl)|(apply Af.drop;rfl;rfl;rfl)|(apply Af.guard;rfl;rfl)|(apply Aa.assign;rfl)|(apply Aa.move;rfl)|(apply Aa.IC;rfl;rfl;omega)|(apply Aa.int;rfl;rfl;rfl)|(apply Aa.uH;rfl;rfl;rfl;omega;omega;rfl)|(apply Aa.load;rfl;rfl)|(apply Aa.Bo;rfl;rfl)|(apply Aa.AQ;rfl;rfl)|(apply Aa.BQ;rfl;rfl)|(apply Aa.wF;rfl;rfl;rfl;rfl;rfl;rfl;omega)|(apply Ad.Az;rfl)|(apply Ad.Ae;rfl)|(intro _;try (exfalso;omega)))
 ·rename_i h1 h2
  have e1:((a.length:Int)-1).toNat=a.length-1:=by omega
  have hz:gi a (a.length-1)=0:=by omega
  refine Aw.normal ⟨a.take (a.length-1),⟨by simp;omega,?_⟩,by simp;omega,⟨Nat.le_refl _,?_,trivial⟩⟩
  ·have:=hlast (by omega)
   rw [hz] at this
   rw [← hr]
   conv=>rhs;rw [this]
   rw [Num.SE]
  ·rw [e1];repeat (first|exact Ap.nil|refine Ap.same (by exact PV.Ac rfl) rfl ?_|refine Ap.cons trivial rfl (.of_eq (Au (by simp<;>omega))) ?_)
 ·rename_i h1 h2
  refine Done.ret rfl (.refl _) (by exact PV.Ac rfl) Ak.nil (Nat.zero_le _) (Nat.le_refl _) ⟨?_,rfl,rfl⟩
  have e:Num.Kq a=a:=by
   have:=hlast (by omega)
   conv=>lhs;rw [this]
   rw [Num.WG _ (by omega),← this]
  rw [← hr,e]
 ·rename_i h1
  refine Done.ret rfl (.refl _) (by exact PV.Ac rfl) Ak.nil (Nat.zero_le _) (Nat.le_refl _) ⟨?_,rfl,rfl⟩
  have:a=[]:=List.eq_nil_of_length_eq_zero (by omega)
  rw [← hr,this]
  rfl
theorem Po (m n:List Nat) (hm:Num.Xi m) (hn:Num.Xi n) (hml:m.length<400000) (hnl:n.length<400000) :
 AX env 112 [.lst 39 (cells m) m.length,.lst 39 (cells n) n.length] (lst 39 (Num.OH (Num.val m*Num.val n))):=by
 refine AX.enter (AB (by decide)) Tryz.func112 rfl (by kernel_rfl) (by simp [Tryz.ntmps112]) ?_
 obtain ⟨T,hT⟩:∃ T,T=m.length+n.length+1:=⟨_,rfl⟩
 repeat' (first|apply Ad.assoc|apply Ad.AA|apply Ad.Ai|apply Af.nil|apply Af.one|(apply Aa.ED T (0:Nat);rfl;rfl;rfl;rfl;rfl;omega;omega;omega;decide;decide;rfl)|(apply Aa.assign;rfl)|(apply Aa.move;rfl)|(apply Aa.Bz;rfl;rfl;omega)|(apply Aa.BQ;rfl;rfl))
 refine Ad.Ee (fun a:Nat×List Nat=>[(0,lst 39 m),(1,lst 39 n),(5,.vec 0 T 0 T),(19,lst 39 m),(20,.p (.int .i64 m.length)),(21,.p (.int .i64 (a.1:Int)))]) (fun a=>[(0,.vec 39 (cells a.2) T false)]) 1
  (fun a=>a.1≤m.length∧a.2.length=T∧Num.Xi a.2∧Num.val a.2=Num.val (m.take a.1)*Num.val n∧∀ j,a.1+n.length≤j→gi a.2 j=0) (fun a=>m.length-a.1) (0,List.replicate T 0) (by omega)
  ⟨by simp,by simp,Num.Xu _,by simp [Num.XA,Num.val],fun j _=>Num.MV _ _⟩ ⟨Nat.le_refl _,?_,?_⟩ ?_
 ·repeat (first|exact Ap.nil|refine Ap.same (by exact PV.Ac rfl) rfl ?_|refine Ap.cons trivial rfl (.of_eq (Au (by simp<;>omega))) ?_)
 ·repeat (first|exact Ak.nil|(refine Ak.cons (Aj rfl) ?_ rfl ?_ ?_;(first|exact trivial|exact AZ.Ag _ _|(simp [HB.under,AZ.under,PV.under]));(first|exact Bv.refl _|exact Bv.vec (Bl.refl _) (by simp))))
 rintro ⟨i,out⟩ ⟨hi,hol,hlim,hval,hzero⟩
 simp only at hi hol hlim hval hzero
 dsimp only
 by_cases hlt:i<m.length
 ·have ha:=Num.jf hm i
  repeat' (first|apply Ad.assoc|apply Ad.AA|apply Ad.Ar|apply Ad.Ai|apply Af.nil|apply Af.one|(apply Aa.assign;rfl)|(apply Aa.move;rfl)|(apply Aa.int;rfl;rfl;rfl)|(apply Aa.Ba;rfl;rfl;rfl;omega;rfl)|(apply Aa.load;rfl;rfl)|(apply Aa.BQ;rfl;rfl)|(apply Ad.Ae;rfl)|(intro _;try (exfalso;omega)))
  refine Ad.Ee (fun a:Nat×Nat×List Nat=>[(0,lst 39 m),(1,lst 39 n),(5,.vec 0 T 0 T),(6,.p (.int .i64 (i:Int))),(7,.p (.int .u64 ((gi m i:Nat):Int))),(8,.p (.int .u64 (a.2.1:Int))),(19,lst 39 m),(20,.p (.int .i64 m.length)),(21,.p (.int .i64 (i:Int))),(26,lst 39 n),(27,.p (.int .i64 n.length)),(28,.p (.int .i64 (a.1:Int)))]) (fun a=>[(0,.vec 39 (cells a.2.2) T false)]) 1
   (fun a=>a.1≤n.length∧a.2.1<1000000000∧a.2.2.length=T∧Num.Xi a.2.2∧Num.val a.2.2+a.2.1*Num.B9 ^ (i+a.1)=Num.val out+gi m i*Num.B9 ^ i*Num.val (n.take a.1)∧∀ j,i+n.length≤j→gi a.2.2 j=0) (fun a=>n.length-a.1) (0,0,out) (by omega)
   ⟨by simp,by simp,hol,hlim,by simp [Num.val],hzero⟩ ⟨Nat.le_refl _,?_,?_⟩ ?_
  ·repeat (first|exact Ap.nil|refine Ap.same (by exact PV.Ac rfl) rfl ?_|refine Ap.cons trivial rfl (.of_eq (Au (by simp<;>omega))) ?_)
  ·repeat (first|exact Ak.nil|(refine Ak.cons (Aj rfl) ?_ rfl ?_ ?_;(first|exact trivial|exact AZ.Ag _ _|(simp [HB.under,AZ.under,PV.under]));(first|exact Bv.refl _|exact Bv.vec (Bl.refl _) (by simp))))
  rintro ⟨k,carry,o⟩ ⟨hk,hc,hol',hlim',hval',hzero'⟩
  simp only at hk hc hol' hlim' hval' hzero'
  dsimp only
  by_cases hlk:k<n.length
  ·have hb:=Num.jf hn k
   have ho:=Num.jf hlim' (i+k)
   have hab:gi m i*gi n k≤999999999*999999999:=Nat.mul_le_mul (by omega) (by omega)
   repeat' (first|apply Ad.AA|apply Ad.region|apply Ad.Ar|apply Ad.Ai|apply AU.normal|apply AO.normal|apply Af.nil|apply Af.one|(apply Aa.CU (y:=(gi o (i+k)+gi m i*gi n k+carry) % 1000000000);rfl;rfl;rfl;trivial;(first|rfl|(refine congrArg (fun t=>[PV.p (FV.int _ t)]) ?_;first|omega|(simp only [Int.natCast_add,Int.natCast_mul,Int.natCast_ediv,Int.natCast_emod]<;>omega)));rfl;rfl;decide;(first|omega|(simp only [List.length_set]<;>omega)))|(apply Aa.assign;rfl)|(apply Aa.move;rfl)|(apply Aa.Bz;rfl;rfl;omega)|(apply Aa.wU;rfl;rfl;omega)|(apply Aa.a0b;rfl;rfl;omega)|(apply Aa.a5g;rfl;rfl;omega)|(apply Aa.a5a;rfl;rfl;omega)|(apply Aa.int;rfl;rfl;rfl)|(apply Aa.Ba;rfl;rfl;rfl;omega;rfl)|(apply Aa.BH;rfl;rfl;omega;rfl)|(apply Aa.load;rfl;rfl)|(apply Aa.BD;rfl;rfl;rfl;rfl;omega)|(apply Ad.Ae;rfl)|(intro _;try (exfalso;omega)))
   refine Aw.normal ⟨(k+1,(gi o (i+k)+gi m i*gi n k+carry) / 1000000000,o.set (i+k) ((gi o (i+k)+gi m i*gi n k+carry) % 1000000000)),⟨by simp only;omega,?_,by simp [hol'],?_,?_,?_⟩,by simp only;omega,⟨Nat.le_refl _,?_,?_⟩⟩
   ·simp only
    apply Nat.div_lt_of_lt_mul
    omega
   ·exact Num.mV hlim' (Nat.mod_lt _ (by decide))
   ·simp only
    rw [Num.Pm n k hlk]
    exact Num.uK (by omega) hval'
   ·intro j hj
    simp only
    rw [Num.SH _ _ _ _ (by omega),if_neg (by omega)]
    exact hzero' j hj
   ·repeat (first|exact Ap.nil|refine Ap.same (by exact PV.Ac rfl) rfl ?_|refine Ap.cons trivial rfl (.of_eq (Au (by simp<;>omega))) ?_)
   ·repeat (first|exact Ak.nil|(refine Ak.cons (Aj rfl) ?_ rfl ?_ ?_;(first|exact trivial|exact AZ.Ag _ _|(simp [HB.under,AZ.under,PV.under]));(first|exact Bv.refl _|exact Bv.vec (Bl.refl _) (by simp))))
  ·have hkn:k=n.length:=by omega
   subst hkn
   have hz:=hzero' (i+n.length) (by omega)
   repeat' (first|apply Ad.AA|apply Ad.region|apply Ad.A8|apply AU.normal|apply AO.normal|apply AO.exit|apply Aw.exit|apply Af.nil|apply Af.one|(apply Aa.CU (y:=gi o (i+n.length)+carry);rfl;rfl;rfl;trivial;(first|rfl|(refine congrArg (fun t=>[PV.p (FV.int _ t)]) ?_;first|omega|(simp only [Int.natCast_add,Int.natCast_mul,Int.natCast_ediv,Int.natCast_emod]<;>omega)));rfl;rfl;decide;(first|omega|(simp only [List.length_set]<;>omega)))|(apply Aa.move;rfl)|(apply Aa.Bz;rfl;rfl;omega)|(apply Aa.wU;rfl;rfl;omega)|(apply Aa.int;rfl;rfl;rfl)|(apply Aa.BH;rfl;rfl;omega;rfl)|(apply Aa.BQ;rfl;rfl)|(apply Aa.BD;rfl;rfl;rfl;rfl;omega)|(apply Ad.Ae;rfl)|(intro _;try (exfalso;omega)))
   refine Aw.normal ⟨(i+1,o.set (i+n.length) (gi o (i+n.length)+carry)),⟨by simp only;omega,by simp [hol'],?_,?_,?_⟩,by simp only;omega,⟨Nat.le_refl _,?_,?_⟩⟩
   ·refine Num.mV hlim' ?_
    rw [hz]
    simp only [Num.B9];omega
   ·simp only
    rw [Num.zl (by omega) hz hval',hval,List.take_length,Num.Pm m i hlt,Nat.add_mul]
   ·intro j hj
    simp only at hj
    simp only
    rw [Num.SH _ _ _ _ (by omega),if_neg (by omega)]
    exact hzero' j (by omega)
   ·repeat (first|exact Ap.nil|refine Ap.same (by exact PV.Ac rfl) rfl ?_|refine Ap.cons trivial rfl (.of_eq (Au (by simp<;>omega))) ?_)
   ·repeat (first|exact Ak.nil|(refine Ak.cons (Aj rfl) ?_ rfl ?_ ?_;(first|exact trivial|exact AZ.Ag _ _|(simp [HB.under,AZ.under,PV.under]));(first|exact Bv.refl _|exact Bv.vec (Bl.refl _) (by simp))))
 ·have him:i=m.length:=by omega
  subst him
  have htr:=YD out (by omega)
  rw [hol] at htr
  repeat' (first|(refine Ad.at 14 ?_;refine Ad.ghost (AL.freeze 5 rfl rfl) ?_;first|apply Ad.AA|apply Ad.Bj)|apply Ad.AA|apply Ad.A8|apply AU.normal|apply AO.exit|apply Aw.exit|apply Ad.ret|apply Af.nil|apply Af.one|(apply Aa.fn;rfl;rfl;exact htr;intro _;rfl)|(apply Aa.assign;rfl)|(apply Aa.move;rfl)|(apply Aa.int;rfl;rfl;rfl)|(apply Ad.Ae;rfl)|(intro _;try (exfalso;omega)))
  ·refine Done.ret rfl (.refl _) (by exact PV.Ac rfl) Ak.nil (Nat.zero_le _) (Nat.le_refl _) ⟨?_,rfl,rfl⟩
   rw [Num.dI hlim,hval,List.take_length]
end Go.Proofs.YtdabojnmoejilaaGreatDoor
namespace Go.Proofs.YtdabojnmoejilaaGreatDoor
open Go Go.Am Go.Vm
attribute [local irreducible] Aa Af Aq Ad BF AX Ci AU AO Aw Vm.Done CS Bq
theorem dY {l:List UInt8} {p:UInt8→Prop} (h:∀ c∈l,p c) (i:Nat) (hi:i<l.length):p (gi l i):=by
 simp only [gi,List.getElem?_eq_getElem hi,Option.getD_some];exact h _ (List.getElem_mem _)
theorem o9 (n:Nat) (hn:Lib.nDigits n<900000):AX env 125 [.str (bs (Lib.decDigits n))] (lst 39 (Num.OH n)):=by
 refine AX.enter (AB (by decide)) Tryz.func125 rfl (by kernel_rfl) (by simp [Tryz.ntmps125]) ?_
 obtain ⟨d,hd⟩:∃ d,d=Lib.decDigits n:=⟨_,rfl⟩
 obtain ⟨K,hK⟩:∃ K,K=Lib.nDigits n:=⟨_,rfl⟩
 have hdl:d.length=K:=by rw [hd,hK,Lib.decDigits_length]
 have hdD:d=Num.D K n:=by rw [hd,hK,Num.Eu]
 rw [← hd]
 repeat' (first|apply Ad.assoc|apply Ad.AA|apply Ad.Ai|apply Af.nil|apply Af.one|(apply Aa.assign;rfl)|(apply Aa.move;rfl)|(apply Aa.KJ;rfl;rfl))
 refine Ad.ghost (AL.adopt 3 39 rfl) ?_
 refine Ad.Ee (fun k:Nat=>[(0,st d),(3,.vec 0 (Num.limbs n k).length 0 (Num.limbs n k).length),(4,.p (.int .i64 ((K:Int)-9*(k:Int))))]) (fun k=>[(0,.vec 39 (cells (Num.limbs n k)) (Num.limbs n k).length true)]) 1 (fun k=>9*k<K+9) (fun k=>K+9-9*k) 0 (by omega) (by omega) ⟨Nat.le_refl _,?_,?_⟩ ?_
 ·rw [← hdl];refine Ap.cons trivial rfl (.refl _) ?_;repeat (first|exact Ap.nil|refine Ap.same (by exact PV.Ac rfl) rfl ?_|refine Ap.cons trivial rfl (.of_eq (Au (by simp<;>omega))) ?_)
 ·exact Ak.cons (by decide) trivial rfl (.refl _) Ak.nil
 intro k hk
 have hll:=Num.Lr n k
 by_cases hlt:9*k<K
 ·obtain ⟨e,he⟩:∃ e,e=K-9*k:=⟨_,rfl⟩
  obtain ⟨c,hc⟩:∃ c,c=min 9 e:=⟨_,rfl⟩
  obtain ⟨p,hp⟩:∃ p,p=Num.D c (n / 10 ^ (9*k)):=⟨_,rfl⟩
  have hpl:p.length=c:=by rw [hp,Num.Ei]
  have hpc:List.drop (max ((K:Int)-9*(k:Int)-9) 0).toNat (List.take ((K:Int)-9*(k:Int)).toNat d)=p:=by
   rw [show ((K:Int)-9*(k:Int)).toNat=e by omega,show (max ((K:Int)-9*(k:Int)-9) 0).toNat=e-c by omega,hdD,Num.aP K n e c (by omega) (by omega),hp]
   rw [show K-e=9*k by omega]
  have a2t:Num.parse p=Num.Zw n k:=by
   rw [hp,Num.Qw]
   unfold Num.Zw
   rw [show Num.B9 ^ k=10 ^ (9*k) by rw [Nat.pow_mul]]
   by_cases h9:c=9
   ·rw [h9]
   ·have hlt2:n / 10 ^ (9*k)<10 ^ c:=by
     apply Nat.div_lt_of_lt_mul
     rw [← Nat.pow_add,show 9*k+c=K by omega,hK]
     exact Lib.lt_pow_nDigits n
    have hle:10 ^ c≤Num.B9:=by
     have:10 ^ c≤10 ^ 9:=Nat.pow_le_pow_right (by decide) (by omega)
     exact this
    rw [Nat.mod_eq_of_lt hlt2,Nat.mod_eq_of_lt (by omega)]
  have hdig:∀ i,i<p.length→48≤(gi p i).toNat∧(gi p i).toNat≤57:=fun i hi=>dY (p:=fun c=>48≤c.toNat∧c.toNat≤57) (by rw [hp];exact Num.ZU _ _) i hi
  have hpv:∀ j,j≤p.length→Num.parse (p.take j)<1000000000:=fun j hj=>by
   have h1:=Num.fQ (p.take j) (fun c hc=>by
    have hm:=List.mem_of_mem_take hc
    rw [hp] at hm
    exact Num.ZU _ _ c hm)
   rw [List.length_take,Nat.min_eq_left hj] at h1
   have h2:10 ^ j≤10 ^ 9:=Nat.pow_le_pow_right (by decide) (by omega)
   exact Nat.lt_of_lt_of_le h1 h2
  repeat' (first|apply Ad.assoc|apply Ad.AA|apply Ad.Ar|apply Ad.Ai|apply Af.nil|apply Af.one|(rw [hpc])|(apply Aa.assign;rfl)|(apply Aa.move;rfl)|(apply Aa.IC;rfl;rfl;omega)|(apply Aa.int;rfl;rfl;rfl)|(apply Aa.lenV;rfl;rfl;rfl)|(apply Aa.xY;rfl;rfl;rfl;rfl;omega)|(apply Aa.mW;rfl;rfl;rfl;rfl;rfl;rfl;omega)|(apply Aa.qA;rfl;rfl)|(apply Ad.Ae;rfl)|(intro _;try (exfalso;omega)))
  refine Ad.Ee (fun j:Nat=>[(0,st d),(3,.vec 0 (Num.limbs n k).length 0 (Num.limbs n k).length),(4,.p (.int .i64 ((K:Int)-9*(k:Int)))),(5,.p (.int .u64 ((Num.parse (p.take j):Nat):Int))),(20,.vec 1 p.length 0 p.length),(21,.p (.int .i64 p.length)),(22,.p (.int .i64 (j:Int)))])
   (fun _=>[(1,.vec 5 (cells p) p.length false),(0,.vec 39 (cells (Num.limbs n k)) (Num.limbs n k).length true)]) 2 (fun j=>j≤p.length) (fun j=>p.length-j) 0 (by omega) (by omega) ⟨Nat.le_refl _,?_,?_⟩ ?_
  ·repeat (first|exact Ap.nil|refine Ap.same (by exact PV.Ac rfl) rfl ?_|refine Ap.cons trivial rfl (.of_eq (Au (by simp<;>omega))) ?_)
  ·repeat (first|exact Ak.nil|(refine Ak.cons (Aj rfl) ?_ rfl ?_ ?_;(first|exact trivial|exact AZ.Ag _ _|(simp [HB.under,AZ.under,PV.under]));(first|exact Bv.refl _|exact Bv.vec (Bl.refl _) (by simp))))
  intro j hj
  have hv:=hpv j hj
  by_cases hlj:j<p.length
  ·have hd2:=hdig j hlj
   repeat' (first|apply Ad.AA|apply Ad.region|apply Ad.Ar|apply Ad.Ai|apply AU.normal|apply AO.normal|apply Af.nil|apply Af.one|(apply Aa.assign;rfl)|(apply Aa.move;rfl)|(apply Aa.Bz;rfl;rfl;omega)|(apply Aa.a0c (c:=48);rfl;rfl;omega)|(apply Aa.wU;rfl;rfl;omega)|(apply Aa.a0b (a:=10);rfl;rfl;omega)|(apply Aa.int;rfl;rfl;rfl)|(apply Aa.BH;rfl;rfl;omega;rfl)|(apply Aa.BD;rfl;rfl;rfl;rfl;omega)|(apply Aa.XO;rfl;rfl;rfl;rfl;omega)|(apply Ad.Ae;rfl)|(intro _;try (exfalso;omega)))
   refine Aw.normal ⟨j+1,by omega,by omega,⟨by omega,?_,?_⟩⟩
   ·rw [Num.parse_snoc' p j hlj];repeat (first|exact Ap.nil|refine Ap.same (by exact PV.Ac rfl) rfl ?_|refine Ap.cons trivial rfl (.of_eq (Au (by simp<;>omega))) ?_)
   ·repeat (first|exact Ak.nil|(refine Ak.cons (Aj rfl) ?_ rfl ?_ ?_;(first|exact trivial|exact AZ.Ag _ _|(simp [HB.under,AZ.under,PV.under]));(first|exact Bv.refl _|exact Bv.vec (Bl.refl _) (by simp))))
  ·have hjp:j=p.length:=by omega
   subst hjp
   repeat' (first|apply Ad.AA|apply Ad.region|apply Ad.A8|apply AU.normal|apply AO.normal|apply AO.exit|apply Aw.exit|apply Af.nil|apply Af.one|(apply Aa.Dv (a:=(Num.parse (p.take p.length)));rfl;rfl;rfl;rfl;rfl;rfl;rfl;rfl;(intro _ h;cases h);rfl;rfl;rfl;decide;decide;(first|omega|(simp only [List.length_take,List.length_drop,List.length_append,List.length_singleton,List.length_cons,List.length_nil]<;>omega)))|(apply Aa.assign;rfl)|(apply Aa.move;rfl)|(apply Aa.IC;rfl;rfl;omega)|(apply Aa.int;rfl;rfl;rfl)|(apply Aa.buildSlice;rfl;rfl;rfl;decide;rfl;rfl;rfl)|(apply Ad.Ae;rfl)|(intro _;try (exfalso;omega)))
   have e1:Num.limbs n k++[Num.parse (p.take p.length)]=Num.limbs n (k+1):=by rw [List.take_length,a2t,Num.limbs]
   have e2:(Num.limbs n (k+1)).length=(Num.limbs n k).length+1:=by rw [Num.Lr,Num.Lr]
   refine Aw.normal ⟨k+1,by omega,by omega,⟨by omega,?_,?_⟩⟩
   ·rw [e2,show (K:Int)-9*((k+1:Nat):Int)=(K:Int)-9*(k:Int)-9 by omega];repeat (first|exact Ap.nil|refine Ap.same (by exact PV.Ac rfl) rfl ?_|refine Ap.cons trivial rfl (.of_eq (Au (by simp<;>omega))) ?_)
   ·rw [e2,← e1];repeat (first|exact Ak.nil|(refine Ak.cons (Aj rfl) ?_ rfl ?_ ?_;(first|exact trivial|exact AZ.Ag _ _|(simp [HB.under,AZ.under,PV.under]));(first|exact Bv.refl _|exact Bv.vec (Bl.refl _) (by simp))))
 ·have htr:=YD (Num.limbs n k) (by omega)
  repeat' (first|(refine Ad.at 12 ?_;refine Ad.ghost (AL.freeze 3 rfl rfl) ?_;first|apply Ad.AA|apply Ad.Bj)|apply Ad.assoc|apply Ad.AA|apply Ad.A8|apply AU.normal|apply AO.exit|apply Aw.exit|apply Ad.ret|apply Af.nil|apply Af.one|(apply Aa.fn;rfl;rfl;exact htr;intro _;rfl)|(apply Aa.assign;rfl)|(apply Aa.move;rfl)|(apply Aa.int;rfl;rfl;rfl)|(apply Ad.Ae;rfl)|(intro _;try (exfalso;omega)))
  ·refine Done.ret rfl (.refl _) (by exact PV.Ac rfl) Ak.nil (Nat.zero_le _) (Nat.le_refl _) ⟨?_,rfl,rfl⟩
   rw [Num.iq]
   rw [show Num.B9 ^ k=10 ^ (9*k) by rw [Nat.pow_mul]]
   exact Nat.lt_of_lt_of_le (Lib.lt_pow_nDigits n) (Nat.pow_le_pow_right (by decide) (by omega))
end Go.Proofs.YtdabojnmoejilaaGreatDoor
namespace Go.Proofs.YtdabojnmoejilaaGreatDoor
open Go Go.Am Go.Vm
attribute [local irreducible] Aa Af Aq Ad BF AX Ci AU AO Aw Vm.Done CS Bq
theorem vK {L:Vm.Frame} {H:Vm.Heap} {nx:Nat} {Q:PV→Vm.Heap→Nat→Prop} {dst:Option Tmp} {ty:TypeId} {pos:String} {af:Array Edge} {gd:Option (Nat×Bool)} {fo:Operand} {args:Array Operand} {aT:Array TypeId} {fs cs xs:List PV} {c:Code}
 (hf:BG env.Γ L fo=some (.clo 134 fs cs)) (ha:evs env.Γ L args.toList=some xs) (hb:Tryz.f134.body=some c) (hn:(fs++xs++cs).length≤Tryz.f134.ntmps)
 (h:Ad env nx c (CQ 0 (fs++xs++cs)) H nx (Bq env.P Tryz.f134.results.toList Q)):Aa env true ⟨dst,.call { callee:=.value fo,args:=args,argTypes:=aT },ty,pos,af,gd⟩ L H nx Q:=by
 have h0:(match Tryz.f134.body with|some c=>H6 env.G Tryz.f134 c|none=>false)=true:=by kernel_rfl
 rw [hb] at h0
 exact Aa.inline rfl hf ha (AB (by decide)) Tryz.func134 hb h0 hn h
theorem qO {L:Vm.Frame} {H:Vm.Heap} {nx:Nat} {Q:PV→Vm.Heap→Nat→Prop} {dst:Option Tmp} {ty:TypeId} {pos:String} {af:Array Edge} {gd:Option (Nat×Bool)} {fo:Operand} {args:Array Operand} {aT:Array TypeId} {fs cs xs:List PV} {c:Code}
 (hf:BG env.Γ L fo=some (.clo 133 fs cs)) (ha:evs env.Γ L args.toList=some xs) (hb:Tryz.f133.body=some c) (hn:(fs++xs++cs).length≤Tryz.f133.ntmps)
 (h:Ad env nx c (CQ 0 (fs++xs++cs)) H nx (Bq env.P Tryz.f133.results.toList Q)):Aa env true ⟨dst,.call { callee:=.value fo,args:=args,argTypes:=aT },ty,pos,af,gd⟩ L H nx Q:=by
 have h0:(match Tryz.f133.body with|some c=>H6 env.G Tryz.f133 c|none=>false)=true:=by kernel_rfl
 rw [hb] at h0
 exact Aa.inline rfl hf ha (AB (by decide)) Tryz.func133 hb h0 hn h
theorem bJ {L:Vm.Frame} {H:Vm.Heap} {nx:Nat} {Q:PV→Vm.Heap→Nat→Prop} {dst:Option Tmp} {ty:TypeId} {pos:String} {af:Array Edge} {gd:Option (Nat×Bool)} {fo:Operand} {args:Array Operand} {aT:Array TypeId} {fs cs xs:List PV} {c:Code}
 (hf:BG env.Γ L fo=some (.clo 143 fs cs)) (ha:evs env.Γ L args.toList=some xs) (hb:Tryz.f143.body=some c) (hn:(fs++xs++cs).length≤Tryz.f143.ntmps)
 (h:Ad env nx c (CQ 0 (fs++xs++cs)) H nx (Bq env.P Tryz.f143.results.toList Q)):Aa env true ⟨dst,.call { callee:=.value fo,args:=args,argTypes:=aT },ty,pos,af,gd⟩ L H nx Q:=by
 have h0:(match Tryz.f143.body with|some c=>H6 env.G Tryz.f143 c|none=>false)=true:=by kernel_rfl
 rw [hb] at h0
 exact Aa.inline rfl hf ha (AB (by decide)) Tryz.func143 hb h0 hn h
theorem aF (n:Nat):¬ (List.take 1 (Lib.decDigits n)=[45]):=fun h=>by
 have h1:=Num.Jl n 45 (List.mem_of_mem_take (by rw [h];simp))
 have:(45:UInt8).toNat=45:=rfl
 omega
theorem kY (n:Nat):0<(Lib.decDigits n).length:=by rw [Lib.decDigits_length];exact Lib.nDigits_pos n
theorem yF {a b:Nat} (h:Lib.decDigits a=Lib.decDigits b):a=b:=by
 have h1:Lib.nDigits a=Lib.nDigits b:=by rw [← Lib.decDigits_length,← Lib.decDigits_length,h]
 rw [Num.Eu,Num.Eu,h1] at h
 have:=congrArg Num.parse h
 rw [Num.Qw,Num.Qw,Nat.mod_eq_of_lt (by rw [← h1];exact Lib.lt_pow_nDigits a),Nat.mod_eq_of_lt (Lib.lt_pow_nDigits b)] at this
 exact this
theorem wJ (a:Nat):Lib.decDigits a=[48]↔a=0:=by
 have:Lib.decDigits 0=[48]:=by rw [Lib.decDigits_one (by decide)];rfl
 rw [← this]
 exact ⟨yF,fun h=>by rw [h]⟩
theorem og (n:Nat):Num.parse (Lib.decDigits n)=n:=by
 rw [Num.Eu,Num.Qw,Nat.mod_eq_of_lt (Lib.lt_pow_nDigits n)]
theorem uZ (n:Nat):AX env 117 [.str (bs (Lib.decDigits n)),.str (bs [45])] (.EW [st (Lib.decDigits n),.p (.bool false)]):=by
 refine AX.enter (AB (by decide)) Tryz.func117 rfl (by kernel_rfl) (by simp [Tryz.ntmps117]) ?_
 have h1:=aF n
 have h2:=kY n
 repeat' (first|apply Ad.assoc|apply Ad.AA|apply Ad.Ar|apply Ad.BI|(apply Bq.ret;rfl)|apply Ad.ret|apply Af.nil|apply Af.one|(apply Af.take;rfl;rfl)|(apply Af.drop;rfl;rfl;rfl)|(apply Af.guard;rfl;rfl)|(apply vK;rfl;rfl;rfl;exact le_dec rfl)|(apply bJ;rfl;rfl;rfl;exact le_dec rfl)|(apply Aa.assign;rfl)|(apply Aa.move;rfl)|(apply Aa.int;rfl;rfl;rfl)|(apply Aa.Bo;rfl;rfl)|(apply Aa.AQ;rfl;rfl)|(apply Aa.KJ;rfl;rfl)|(apply Aa.eqS;rfl;rfl)|(apply Aa.dM;rfl;rfl;rfl;omega)|(apply Aa.kC;rfl;rfl;rfl;omega)|(apply Aa.not;rfl)|(apply Aa.extract;rfl;rfl)|(apply Ad.Bc;rfl)|(apply Ad.QV;rfl)|(intro _;try (exfalso;omega)))
 ·refine Done.ret rfl (.refl _) (by exact PV.Ac rfl) Ak.nil (Nat.zero_le _) (Nat.le_refl _) ⟨?_,rfl,rfl⟩
  rfl
 ·exfalso;simp_all
 ·exfalso;simp_all;omega
theorem cut_spec' (n:Nat):AX env 117 [.str (bs (Lib.decDigits n)),.str ⟨#[45]⟩] (.EW [st (Lib.decDigits n),.p (.bool false)]):=uZ n
theorem PG (n:Nat) (hn:Lib.nDigits n<900000):AX env 110 [.str (bs (Lib.decDigits n))] (.EW [lst 39 (Num.OH n),.p (.bool false)]):=by
 refine AX.enter (AB (by decide)) Tryz.func110 rfl (by kernel_rfl) (by simp [Tryz.ntmps110]) ?_
 repeat' (first|apply Ad.AA|apply Ad.ret|apply Af.nil|apply Af.one|(apply Aa.fn;rfl;rfl;exact cut_spec' n;intro _;rfl)|(apply Aa.fn;rfl;rfl;exact o9 n hn;intro _;rfl)|(apply Aa.assign;rfl)|(apply Aa.move;rfl)|(apply Aa.extract;rfl;rfl))
 ·refine Done.ret rfl (.refl _) (by exact PV.Ac rfl) Ak.nil (Nat.zero_le _) (Nat.le_refl _) ⟨?_,rfl,rfl⟩
  rfl
theorem Ui (n:Nat) (hn:(Num.OH n).length<1000000):AX env 113 [.lst 39 (cells (Num.OH n)) (Num.OH n).length,.bool false] (st (Lib.decDigits n)):=by
 refine AX.enter (AB (by decide)) Tryz.func113 rfl (by kernel_rfl) (by simp [Tryz.ntmps113]) ?_
 have ht:=eX (Num.OH n) (Num.KC n) (by omega)
 rw [Num.XU] at ht
 repeat' (first|apply Ad.assoc|apply Ad.AA|apply Ad.Ar|apply Ad.ret|apply Af.nil|apply Af.one|(apply Af.drop;rfl;rfl;rfl)|(apply Aa.fn;rfl;rfl;exact ht;intro _;rfl)|(apply Aa.assign;rfl)|(apply Aa.move;rfl)|(apply Aa.AQ;rfl;rfl)|(apply Ad.Az;rfl))
 ·refine Done.ret rfl (.refl _) (by exact PV.Ac rfl) Ak.nil (Nat.zero_le _) (Nat.le_refl _) ⟨?_,rfl,rfl⟩
  rfl
theorem ZK (n:Int) (h:-9223372036854775808≤n∧n≤9223372036854775807):AX env 97 [.int .i64 n] (st (Lib.itoa n)):=by
 refine AX.enter (AB (by decide)) Tryz.func97 rfl (by kernel_rfl) (by simp [Tryz.ntmps97]) ?_
 repeat' (first|apply Ad.AA|apply Ad.ret|apply Af.nil|apply Af.one|(apply Aa.fn;rfl;rfl;exact uM n h;intro _;rfl)|(apply Aa.assign;rfl)|(apply Aa.move;rfl))
 ·refine Done.ret rfl (.refl _) (by exact PV.Ac rfl) Ak.nil (Nat.zero_le _) (Nat.le_refl _) ⟨?_,rfl,rfl⟩
  rfl
theorem aX (n:Nat):Lib.itoa (n:Int)=Lib.decDigits n:=by simp [Lib.itoa]
theorem Wx (n g:Nat) (hg:g≤18):AX env 115 [.str (bs (Lib.decDigits n)),.int .i64 (g:Int)] (.EW [.p (.int .i64 ((if Lib.nDigits n≤g then n else 0:Nat):Int)),.p (.bool (decide (Lib.nDigits n≤g)))]):=by
 refine AX.enter (AB (by decide)) Tryz.func115 rfl (by kernel_rfl) (by simp [Tryz.ntmps115]) ?_
 have hl:=Lib.decDigits_length n
 by_cases hng:Lib.nDigits n≤g
 ·rw [if_pos hng,decide_eq_true hng]
  obtain ⟨d,hd⟩:∃ d,d=Lib.decDigits n:=⟨_,rfl⟩
  have hc:=cut_spec' n
  rw [← hd] at hl hc ⊢
  have hdig:∀ i,i<d.length→48≤(gi d i).toNat∧(gi d i).toNat≤57:=fun i hi=>dY (p:=fun c=>48≤c.toNat∧c.toNat≤57) (by rw [hd];exact Num.Jl n) i hi
  have hpv:∀ j,j≤d.length→Num.parse (d.take j)<1000000000000000000:=fun j hj=>by
   have h1:=Num.fQ (d.take j) (fun c hc=>by
    have hm:=List.mem_of_mem_take hc
    rw [hd] at hm
    exact Num.Jl n c hm)
   rw [List.length_take,Nat.min_eq_left hj] at h1
   have h2:10 ^ j≤10 ^ 18:=Nat.pow_le_pow_right (by decide) (by omega)
   exact Nat.lt_of_lt_of_le h1 h2
  repeat' (first|apply Ad.assoc|apply Ad.AA|apply Ad.Ar|apply Ad.Ai|apply Af.nil|apply Af.one|(apply Aa.fn;rfl;rfl;exact hc;intro _;rfl)|(apply Aa.assign;rfl)|(apply Aa.move;rfl)|(apply Aa.int;rfl;rfl;rfl)|(apply Aa.lenV;rfl;rfl;rfl)|(apply Aa.KJ;rfl;rfl)|(apply Aa.mW;rfl;rfl;rfl;rfl;rfl;rfl;omega)|(apply Aa.extract;rfl;rfl)|(apply Ad.Ae;rfl)|(intro _;try (exfalso;omega)))
  refine Ad.Ee (fun j:Nat=>[(7,.p (.bool false)),(8,.p (.int .i64 ((Num.parse (d.take j):Nat):Int))),(21,.vec 0 d.length 0 d.length),(22,.p (.int .i64 d.length)),(23,.p (.int .i64 (j:Int)))])
   (fun _=>[(0,.vec 5 (cells d) d.length false)]) 1 (fun j=>j≤d.length) (fun j=>d.length-j) 0 (by omega) (by omega) ⟨Nat.le_refl _,?_,?_⟩ ?_
  ·repeat (first|exact Ap.nil|refine Ap.same (by exact PV.Ac rfl) rfl ?_|refine Ap.cons trivial rfl (.of_eq (Au (by simp<;>omega))) ?_)
  ·repeat (first|exact Ak.nil|(refine Ak.cons (Aj rfl) ?_ rfl ?_ ?_;(first|exact trivial|exact AZ.Ag _ _|(simp [HB.under,AZ.under,PV.under]));(first|exact Bv.refl _|exact Bv.vec (Bl.refl _) (by simp))))
  intro j hj
  have hv:=hpv j hj
  by_cases hlj:j<d.length
  ·have hd2:=hdig j hlj
   have hv2:=hpv (j+1) hlj
   rw [Num.parse_snoc' d j hlj] at hv2
   repeat' (first|apply Ad.AA|apply Ad.region|apply Ad.Ar|apply Ad.Ai|apply AU.normal|apply AO.normal|apply Af.nil|apply Af.one|(apply Aa.assign;rfl)|(apply Aa.move;rfl)|(apply Aa.Bz;rfl;rfl;omega)|(apply Aa.KA;rfl;rfl;omega)|(apply Aa.a0c (c:=48);rfl;rfl;omega)|(apply Aa.int;rfl;rfl;rfl)|(apply Aa.BH;rfl;rfl;omega;rfl)|(apply Aa.BD;rfl;rfl;rfl;rfl;omega)|(apply Aa.DZ;rfl;rfl;rfl;rfl;omega)|(apply Ad.Ae;rfl)|(intro _;try (exfalso;omega)))
   refine Aw.normal ⟨j+1,by omega,by omega,⟨by omega,?_,?_⟩⟩
   ·rw [Num.parse_snoc' d j hlj,Int.natCast_add,Int.natCast_mul];repeat (first|exact Ap.nil|refine Ap.same (by exact PV.Ac rfl) rfl ?_|refine Ap.cons trivial rfl (.of_eq (Au (by simp<;>omega))) ?_)
   ·repeat (first|exact Ak.nil|(refine Ak.cons (Aj rfl) ?_ rfl ?_ ?_;(first|exact trivial|exact AZ.Ag _ _|(simp [HB.under,AZ.under,PV.under]));(first|exact Bv.refl _|exact Bv.vec (Bl.refl _) (by simp))))
  ·have hjp:j=d.length:=by omega
   subst hjp
   repeat' (first|apply Ad.assoc|apply Ad.AA|apply Ad.Ar|apply Ad.A8|apply AU.normal|apply AO.exit|apply Aw.exit|apply Ad.ret|apply Af.nil|apply Af.one|(apply Aa.assign;rfl)|(apply Aa.move;rfl)|(apply Aa.int;rfl;rfl;rfl)|(apply Ad.Az;rfl)|(apply Ad.Ae;rfl)|(intro _;try (exfalso;omega)))
   ·refine Done.ret rfl (.refl _) (by exact PV.Ac rfl) Ak.nil (Nat.zero_le _) (Nat.le_refl _) ⟨?_,rfl,rfl⟩
    rw [List.take_length,hd,og]
 ·rw [if_neg hng,decide_eq_false hng]
  repeat' (first|apply Ad.assoc|apply Ad.AA|apply Ad.BI|apply Af.nil|apply Af.one|(apply Aa.fn;rfl;rfl;exact cut_spec' n;intro _;rfl)|(apply Aa.assign;rfl)|(apply Aa.move;rfl)|(apply Aa.int;rfl;rfl;rfl)|(apply Aa.KJ;rfl;rfl)|(apply Aa.extract;rfl;rfl)|(apply Ad.Ae;rfl)|(intro _;try (exfalso;omega)))
  ·refine Done.ret rfl (.refl _) (by exact PV.Ac rfl) Ak.nil (Nat.zero_le _) (Nat.le_refl _) ⟨?_,rfl,rfl⟩
   rfl
end Go.Proofs.YtdabojnmoejilaaGreatDoor
namespace Go.Proofs.YtdabojnmoejilaaGreatDoor
open Go Go.Am Go.Vm
attribute [local irreducible] Aa Af Aq Ad BF AX Ci AU AO Aw Vm.Done CS Bq
theorem LJ {x K:Nat} (h:x<10 ^ K) (hK:K<900000):(Num.OH x).length<200000:=by
 have h1:x<Num.B9 ^ (K / 9+1):=by
  refine Nat.lt_of_lt_of_le h ?_
  rw [show Num.B9 ^ (K / 9+1)=10 ^ (9*(K / 9+1)) by rw [Nat.pow_mul]]
  exact Nat.pow_le_pow_right (by decide) (by omega)
 have:=Num.jy x (K / 9+1) h1
 omega
theorem zy (e i:Nat):e &&& 2 ^ i=if e / 2 ^ i % 2=1 then 2 ^ i else 0:=by
 apply Nat.eq_of_testBit_eq
 intro j
 have hi:e.testBit i=decide (e / 2 ^ i % 2=1):=Nat.testBit_eq_decide_div_mod_eq
 rw [Nat.testBit_and,Nat.testBit_two_pow]
 by_cases hij:i=j
 ·subst hij
  rw [hi]
  by_cases h:e / 2 ^ i % 2=1
  ·rw [if_pos h,Nat.testBit_two_pow];simp [h]
  ·rw [if_neg h];simp [h]
 ·by_cases h:e / 2 ^ i % 2=1
  ·rw [if_pos h,Nat.testBit_two_pow];simp [hij]
  ·rw [if_neg h];simp [hij]
theorem VI (n e:Nat) (he:e≤6000) (hne:e*Lib.nDigits n≤24000) (hn:Lib.nDigits n<100000):AX env 96 [.str (bs (Lib.decDigits n)),.int .i64 (e:Int)] (.EW [st (Lib.decDigits (n ^ e)),.p (.int .i64 0)]):=by
 refine AX.enter (AB (by decide)) Tryz.func96 rfl (by kernel_rfl) (by simp [Tryz.ntmps96]) ?_
 have hlt:=Lib.lt_pow_nDigits n
 have hnl:=LJ hlt (by omega)
 obtain ⟨K,hK⟩:∃ K:Nat,K=24000:=⟨_,rfl⟩
 rw [← hK] at hne
 have iP:∀ k,k≤e→(Num.OH (n ^ k)).length<200000:=fun k hk=>by
  refine LJ (K:=K) ?_ (by omega)
  have h1:n ^ k≤(10 ^ Lib.nDigits n) ^ k:=Nat.pow_le_pow_left (Nat.le_of_lt hlt) k
  rw [← Nat.pow_mul] at h1
  rcases Nat.eq_zero_or_pos k with h0|h0
  ·rw [h0,Nat.pow_zero];exact Nat.one_lt_pow (by omega) (by decide)
  ·have h2:n ^ k<(10 ^ Lib.nDigits n) ^ k:=Nat.pow_lt_pow_left hlt (by omega)
   rw [← Nat.pow_mul] at h2
   refine Nat.lt_of_lt_of_le h2 (Nat.pow_le_pow_right (by decide) ?_)
   have:=Nat.mul_le_mul_left (Lib.nDigits n) hk
   rw [Nat.mul_comm (Lib.nDigits n) e] at this
   omega
 have htx:=eX (Num.OH n) (Num.KC n) (by omega)
 rw [Num.XU] at htx
 have hdl:=Lib.decDigits_length n
 have hmul:(e:Int)*((Lib.decDigits n).length:Int)≤24000:=by rw [hK] at hne;rw [hdl];exact_mod_cast hne
 have a9h:(0:Int)≤(e:Int)*((Lib.decDigits n).length:Int):=by rw [hdl,← Int.natCast_mul];omega
 repeat' (first|apply Ad.assoc|apply Ad.AA|apply Ad.Ar|apply Ad.Ai|apply Af.nil|apply Af.one|(apply Af.take;rfl;rfl)|(apply Aa.fn;rfl;rfl;exact PG n (by omega);intro _;rfl)|(apply Aa.fn;rfl;rfl;exact htx;intro _;rfl)|(apply Aa.assign;rfl)|(apply Aa.move;rfl)|(apply Aa.KA;rfl;rfl;omega)|(apply Aa.int;rfl;rfl;rfl)|(apply Aa.AQ;rfl;rfl)|(apply Aa.buildSlice;rfl;rfl;rfl;decide;rfl;rfl;rfl)|(apply Aa.KJ;rfl;rfl)|(apply Aa.extract;rfl;rfl)|(apply Ad.Ae;rfl)|(intro _;try (exfalso;omega)))
 refine Ad.ghost (AL.freeze 8 rfl rfl) ?_
 have one:Num.OH 1=[1]:=by rw [Num.MO (by decide),show 1 / Num.B9=0 by decide,Num.Ig];rfl
 have e14:e / 2 ^ 14=0:=Nat.div_eq_of_lt (by omega)
 refine Ad.Ee (fun b:Nat=>[(1,.p (.int .i64 (e:Int))),(6,lst 39 (Num.OH n)),(7,.p (.bool false)),(8,lst 39 (Num.OH (n ^ (e / 2 ^ b)))),(9,.p (.int .i64 ((2 ^ b / 2:Nat):Int)))]) (fun _=>[]) 1 (fun b=>b≤14) (fun b=>b) 14 (by omega) (by omega) ⟨Nat.le_refl _,?_,?_⟩ ?_
 ·rw [e14,Nat.pow_zero,one];repeat (first|exact Ap.nil|refine Ap.same (by exact PV.Ac rfl) rfl ?_|refine Ap.cons trivial rfl (.of_eq (Au (by simp<;>omega))) ?_)
 ·exact Ak.nil
 intro b hb
 rcases Nat.eq_zero_or_pos b with hb0|hb0
 ·subst hb0
  have hlen:=iP e (Nat.le_refl _)
  have hs:=Ui (n ^ e) (by omega)
  rw [Nat.pow_zero,Nat.div_one]
  repeat' (first|apply Ad.assoc|apply Ad.AA|apply Ad.A8|apply AU.normal|apply AO.exit|apply Aw.exit|apply Ad.ret|apply Af.nil|apply Af.one|(apply Af.drop;rfl;rfl;rfl)|(apply Aa.fn;rfl;rfl;exact hs;intro _;rfl)|(apply Aa.assign;rfl)|(apply Aa.move;rfl)|(apply Aa.int;rfl;rfl;rfl)|(apply Aa.AQ;rfl;rfl)|(apply Ad.Az;rfl))
  ·(refine Done.ret rfl (.refl _) (by exact PV.Ac rfl) Ak.nil (Nat.zero_le _) (Nat.le_refl _) ⟨?_,rfl,rfl⟩;try rfl)
 ·obtain ⟨i,rfl⟩:∃ i,b=i+1:=⟨b-1,by omega⟩
  have hp1:2 ^ (i+1) / 2=2 ^ i:=by rw [Nat.pow_succ,Nat.mul_div_cancel _ (by decide)]
  have hp0:0<2 ^ i:=Nat.pow_pos (by decide)
  have b1d:2 ^ i≤2 ^ 13:=Nat.pow_le_pow_right (by decide) (by omega)
  rw [hp1]
  have hle:e / 2 ^ (i+1)≤e:=Nat.div_le_self _ _
  have h1:=Po (Num.OH (n ^ (e / 2 ^ (i+1)))) (Num.OH (n ^ (e / 2 ^ (i+1)))) (Num.KC _) (Num.KC _) (by have:=iP _ hle;omega) (by have:=iP _ hle;omega)
  rw [Num.Ri] at h1
  have hle2:e / 2 ^ (i+1)+e / 2 ^ (i+1)≤e:=by
   have h2:e / 2 ^ (i+1)*2 ^ (i+1)≤e:=Nat.div_mul_le_self _ _
   have h3:e / 2 ^ (i+1)*2≤e / 2 ^ (i+1)*2 ^ (i+1):=Nat.mul_le_mul_left _ (by rw [Nat.pow_succ];omega)
   omega
  have h2:=Po (Num.OH (n ^ (e / 2 ^ (i+1))*n ^ (e / 2 ^ (i+1)))) (Num.OH n) (Num.KC _) (Num.KC _) (by rw [← Nat.pow_add];have:=iP _ hle2;omega) (by omega)
  rw [Num.Ri,Num.Ri] at h2
  have hbit:=Num.yK n e i
  have hand:=zy e i
  by_cases hb1:e / 2 ^ i % 2=1
  ·rw [if_pos hb1] at hbit hand
   repeat' (first|apply Ad.assoc|apply Ad.AA|apply Ad.region|apply Ad.Ar|apply Ad.Ai|apply AU.normal|apply AO.normal|apply Af.nil|apply Af.one|(apply Aa.fn;rfl;rfl;exact h1;intro _;rfl)|(apply Aa.fn;rfl;rfl;exact h2;intro _;rfl)|(apply Aa.assign;rfl)|(apply Aa.move;rfl)|(apply Aa.a4c;rfl;rfl;omega)|(apply Aa.int;rfl;rfl;rfl)|(apply Aa.WM;rfl;rfl;(simp only [IntKind.bits];omega))|(apply Ad.Ae;rfl)|(apply Ad.AY;rfl)|(intro _;try (exfalso;omega)))
   all_goals try (exfalso;rename_i hx;rw [hand] at hx;omega)
   refine Aw.normal ⟨i,by omega,by omega,⟨by omega,?_,?_⟩⟩
   ·rw [← hbit];repeat (first|exact Ap.nil|refine Ap.same (by exact PV.Ac rfl) rfl ?_|refine Ap.cons trivial rfl (.of_eq (Au (by simp<;>omega))) ?_)
   ·exact Ak.nil
  ·rw [if_neg hb1,Nat.mul_one] at hbit
   rw [if_neg hb1] at hand
   repeat' (first|apply Ad.assoc|apply Ad.AA|apply Ad.region|apply Ad.Ar|apply Ad.Ai|apply AU.normal|apply AO.normal|apply Ad.skip|apply Af.nil|apply Af.one|(apply Aa.fn;rfl;rfl;exact h1;intro _;rfl)|(apply Aa.assign;rfl)|(apply Aa.move;rfl)|(apply Aa.a4c;rfl;rfl;omega)|(apply Aa.int;rfl;rfl;rfl)|(apply Aa.WM;rfl;rfl;(simp only [IntKind.bits];omega))|(apply Ad.Ae;rfl)|(apply Ad.AY;rfl)|(intro _;try (exfalso;omega)))
   all_goals try (exfalso;rename_i hx;rw [hand] at hx;omega)
   refine Aw.normal ⟨i,by omega,by omega,⟨by omega,?_,?_⟩⟩
   ·rw [← hbit];repeat (first|exact Ap.nil|refine Ap.same (by exact PV.Ac rfl) rfl ?_|refine Ap.cons trivial rfl (.of_eq (Au (by simp<;>omega))) ?_)
   ·exact Ak.nil
theorem dD (a b:Nat) (ha:Lib.nDigits a<400000) (hb:Lib.nDigits b<400000):AX env 98 [.str (bs (Lib.decDigits a)),.str (bs (Lib.decDigits b))] (st (Lib.decDigits (a*b))):=by
 refine AX.enter (AB (by decide)) Tryz.func98 rfl (by kernel_rfl) (by simp [Tryz.ntmps98]) ?_
 have qa:=Wx a 9 (by decide)
 have qb:=Wx b 9 (by decide)
 have la:=Lib.lt_pow_nDigits a
 have lb:=Lib.lt_pow_nDigits b
 have hla:=LJ la (by omega)
 have hlb:=LJ lb (by omega)
 have ht:=Po (Num.OH a) (Num.OH b) (Num.KC _) (Num.KC _) (by omega) (by omega)
 rw [Num.Ri,Num.Ri] at ht
 have hlab:(Num.OH (a*b)).length<200000:=LJ (K:=Lib.nDigits a+Lib.nDigits b) (by
  rw [Nat.pow_add]
  exact Nat.mul_lt_mul_of_lt_of_le la (Nat.le_of_lt lb) (Nat.pow_pos (by decide))) (by omega)
 have hs:=Ui (a*b) (by omega)
 by_cases h9:Lib.nDigits a≤9∧Lib.nDigits b≤9
 ·rw [if_pos h9.1,decide_eq_true h9.1] at qa
  rw [if_pos h9.2,decide_eq_true h9.2] at qb
  have ha9:a<1000000000:=Nat.lt_of_lt_of_le la (Nat.pow_le_pow_right (n:=10) (by decide) h9.1)
  have hb9:b<1000000000:=Nat.lt_of_lt_of_le lb (Nat.pow_le_pow_right (n:=10) (by decide) h9.2)
  have hab:a*b≤999999999*999999999:=Nat.mul_le_mul (by omega) (by omega)
  have a3c:(a:Int)*(b:Int)=((a*b:Nat):Int):=(Int.natCast_mul a b).symm
  have ho:=ZK ((a:Int)*(b:Int)) (by rw [a3c];omega)
  have h2:-9223372036854775808≤(a:Int)*(b:Int)∧(a:Int)*(b:Int)<9223372036854775808:=by rw [a3c];omega
  repeat' (first|apply Ad.assoc|apply Ad.AA|apply Ad.BI|apply Af.nil|apply Af.one|(apply Aa.fn;rfl;rfl;exact qa;intro _;rfl)|(apply Aa.fn;rfl;rfl;exact qb;intro _;rfl)|(apply Aa.fn;rfl;rfl;exact ho;intro _;rfl)|(apply Aa.assign;rfl)|(apply Aa.move;rfl)|(apply Aa.KA;rfl;rfl;omega)|(apply Aa.extract;rfl;rfl)|(apply Ad.Bc;rfl))
  ·refine Done.ret rfl (.refl _) (by exact PV.Ac rfl) Ak.nil (Nat.zero_le _) (Nat.le_refl _) ⟨?_,rfl,rfl⟩
   rw [a3c,aX]
 ·repeat' (first|apply Ad.assoc|apply Ad.AA|apply Ad.Ar|apply Ad.ret|apply Af.nil|apply Af.one|(apply Aa.fn;rfl;rfl;exact qa;intro _;rfl)|(apply Aa.fn;rfl;rfl;exact qb;intro _;rfl)|(apply Aa.fn;rfl;rfl;exact PG a (by omega);intro _;rfl)|(apply Aa.fn;rfl;rfl;exact PG b (by omega);intro _;rfl)|(apply Aa.fn;rfl;rfl;exact ht;intro _;rfl)|(apply Aa.fn;rfl;rfl;exact hs;intro _;rfl)|(apply Aa.assign;rfl)|(apply Aa.move;rfl)|(apply Aa.neB;rfl;rfl;rfl)|(apply Aa.extract;rfl;rfl)|(apply Ad.Ae;rfl)|(intro _;try (exfalso;omega)))
  all_goals (refine Done.ret rfl (.refl _) (by exact PV.Ac rfl) Ak.nil (Nat.zero_le _) (Nat.le_refl _) ⟨?_,rfl,rfl⟩;try rfl)
theorem Yk (n:Nat):AX env 116 [.str (bs (Lib.decDigits n))] (.p (.int .i64 (if n=0 then 0 else 1))):=by
 refine AX.enter (AB (by decide)) Tryz.func116 rfl (by kernel_rfl) (by simp [Tryz.ntmps116]) ?_
 have h1:=aF n
 have h2:=kY n
 have h3:=wJ n
 repeat' (first|apply Ad.AA|apply Ad.Ai|apply AU.normal|apply AU.ret|(apply Bq.ret;rfl)|apply AO.normal|apply AO.ret|apply Ad.ret|apply Ad.skip|apply Af.nil|apply Af.one|(apply Af.take;rfl;rfl)|(apply Af.drop;rfl;rfl;rfl)|(apply Af.guard;rfl;rfl)|(apply qO;rfl;rfl;rfl;exact le_dec rfl)|(apply bJ;rfl;rfl;rfl;exact le_dec rfl)|(apply Aa.assign;rfl)|(apply Aa.move;rfl)|(apply Aa.int;rfl;rfl;rfl)|(apply Aa.Bo;rfl;rfl)|(apply Aa.AQ;rfl;rfl)|(apply Aa.KJ;rfl;rfl)|(apply Aa.eqS;rfl;rfl)|(apply Aa.dM;rfl;rfl;rfl;omega)|(apply Ad.cond_false;rfl)|(apply Ad.AY;rfl)|(intro _;try (exfalso;omega)))
 all_goals first
  |(exfalso;simp_all;done)
  |(exfalso;simp_all;omega)
  |((refine Done.ret rfl (.refl _) (by exact PV.Ac rfl) Ak.nil (Nat.zero_le _) (Nat.le_refl _) ⟨?_,rfl,rfl⟩;try rfl);refine PV.int_eq ?_;first|(rw [if_pos (h3.1 (by assumption))];done)|(rw [if_neg (fun e=>by have:=h3.2 e;contradiction)];done))
theorem VU:∀ (a b:List UInt8),-1≤Lib.compareBytes a b∧Lib.compareBytes a b≤1
 |[],[]=>by simp [Lib.compareBytes]
 |[],_::_=>by simp [Lib.compareBytes]
 |_::_,[]=>by simp [Lib.compareBytes]
 |a::as',b::bs'=>by
  simp only [Lib.compareBytes]
  have:=VU as' bs'
  split
  ·omega
  ·split
   ·omega
   ·exact this
def Xv (a b:Nat):Int:=if a<b then -1 else if b<a then 1 else 0
theorem zH {a b:Nat} (h:Lib.nDigits a=Lib.nDigits b):Lib.compareBytes (Lib.decDigits a) (Lib.decDigits b)=Xv a b:=by
 rw [Num.Eu,Num.Eu,← h]
 exact Num.a0i _ _ _ (Lib.lt_pow_nDigits a) (by rw [h];exact Lib.lt_pow_nDigits b)
theorem Zz (a b:Nat) (ha:Lib.nDigits a<400000) (hb:Lib.nDigits b<400000):AX env 99 [.str (bs (Lib.decDigits a)),.str (bs (Lib.decDigits b))] (.p (.int .i64 (Xv a b))):=by
 refine AX.enter (AB (by decide)) Tryz.func99 rfl (by kernel_rfl) (by simp [Tryz.ntmps99]) ?_
 have sa:=Yk a
 have sb:=Yk b
 have hla:=Lib.decDigits_length a
 have hlb:=Lib.decDigits_length b
 have hcb:=VU (Lib.decDigits a) (Lib.decDigits b)
 have z1:Lib.nDigits 0=1:=Lib.nDigits_small (by decide)
 by_cases ha0:a=0<;>by_cases hb0:b=0
 ·rw [if_pos ha0] at sa
  rw [if_pos hb0] at sb
  have heq:Lib.nDigits a=Lib.nDigits b:=by rw [ha0,hb0]
  repeat' (first|apply Ad.AA|apply Ad.Ai|apply AU.normal|apply AO.normal|apply Ad.ret|apply Ad.skip|apply Af.nil|apply Af.one|(apply Aa.fn;rfl;rfl;exact sa;intro _;rfl)|(apply Aa.fn;rfl;rfl;exact sb;intro _;rfl)|(apply Aa.fn;rfl;rfl;exact cut_spec' a;intro _;rfl)|(apply Aa.fn;rfl;rfl;exact cut_spec' b;intro _;rfl)|(apply Aa.fn;rfl;rfl;exact Um _ _;intro _;rfl)|(apply Aa.assign;rfl)|(apply Aa.move;rfl)|(apply Aa.KA;rfl;rfl;omega)|(apply Aa.int;rfl;rfl;rfl)|(apply Aa.KJ;rfl;rfl)|(apply Aa.extract;rfl;rfl)|(apply Ad.cond_false;rfl)|(apply Ad.AY;rfl)|(intro _;try (exfalso;omega)))
  all_goals first
   |(exfalso;omega)
   |((refine Done.ret rfl (.refl _) (by exact PV.Ac rfl) Ak.nil (Nat.zero_le _) (Nat.le_refl _) ⟨?_,rfl,rfl⟩;try rfl);refine PV.int_eq ?_;simp [Xv,ha0,hb0];done)
 ·rw [if_pos ha0] at sa
  rw [if_neg hb0] at sb
  repeat' (first|apply Ad.AA|apply Ad.Ai|apply AU.ret|apply AO.ret|apply Ad.ret|apply Af.nil|apply Af.one|(apply Aa.fn;rfl;rfl;exact sa;intro _;rfl)|(apply Aa.fn;rfl;rfl;exact sb;intro _;rfl)|(apply Aa.assign;rfl)|(apply Aa.move;rfl)|(apply Aa.int;rfl;rfl;rfl)|(apply Ad.cond_true;rfl))
  all_goals first
   |(exfalso;omega)
   |((refine Done.ret rfl (.refl _) (by exact PV.Ac rfl) Ak.nil (Nat.zero_le _) (Nat.le_refl _) ⟨?_,rfl,rfl⟩;try rfl);refine PV.int_eq ?_;unfold Xv;rw [if_pos (by omega)];done)
 ·rw [if_neg ha0] at sa
  rw [if_pos hb0] at sb
  repeat' (first|apply Ad.AA|apply Ad.Ai|apply AU.ret|apply AO.ret|apply Ad.ret|apply Af.nil|apply Af.one|(apply Aa.fn;rfl;rfl;exact sa;intro _;rfl)|(apply Aa.fn;rfl;rfl;exact sb;intro _;rfl)|(apply Aa.assign;rfl)|(apply Aa.move;rfl)|(apply Aa.int;rfl;rfl;rfl)|(apply Ad.cond_true;rfl)|(apply Ad.cond_false;rfl))
  all_goals first
   |(exfalso;omega)
   |((refine Done.ret rfl (.refl _) (by exact PV.Ac rfl) Ak.nil (Nat.zero_le _) (Nat.le_refl _) ⟨?_,rfl,rfl⟩;try rfl);refine PV.int_eq ?_;unfold Xv;rw [if_neg (by omega),if_pos (by omega)];done)
 ·rw [if_neg ha0] at sa
  rw [if_neg hb0] at sb
  have hm1:Lib.nDigits a<Lib.nDigits b→a<b:=Num.Qv
  have hm2:Lib.nDigits b<Lib.nDigits a→b<a:=Num.Qv
  repeat' (first|apply Ad.AA|apply Ad.Ai|apply AU.normal|apply AU.ret|apply AO.normal|apply AO.ret|apply Ad.ret|apply Ad.skip|apply Af.nil|apply Af.one|(apply Aa.fn;rfl;rfl;exact sa;intro _;rfl)|(apply Aa.fn;rfl;rfl;exact sb;intro _;rfl)|(apply Aa.fn;rfl;rfl;exact cut_spec' a;intro _;rfl)|(apply Aa.fn;rfl;rfl;exact cut_spec' b;intro _;rfl)|(apply Aa.fn;rfl;rfl;exact Um _ _;intro _;rfl)|(apply Aa.assign;rfl)|(apply Aa.move;rfl)|(apply Aa.KA;rfl;rfl;omega)|(apply Aa.int;rfl;rfl;rfl)|(apply Aa.KJ;rfl;rfl)|(apply Aa.neg;rfl;omega)|(apply Aa.extract;rfl;rfl)|(apply Ad.cond_false;rfl)|(apply Ad.AY;rfl)|(intro _;try (exfalso;omega)))
  ·(refine Done.ret rfl (.refl _) (by exact PV.Ac rfl) Ak.nil (Nat.zero_le _) (Nat.le_refl _) ⟨?_,rfl,rfl⟩;try rfl)
   refine PV.int_eq ?_
   have:=hm1 (by omega)
   unfold Xv;rw [if_pos this]
  ·(refine Done.ret rfl (.refl _) (by exact PV.Ac rfl) Ak.nil (Nat.zero_le _) (Nat.le_refl _) ⟨?_,rfl,rfl⟩;try rfl)
   refine PV.int_eq ?_
   have:=hm2 (by omega)
   unfold Xv;rw [if_neg (by omega),if_pos this]
  ·(refine Done.ret rfl (.refl _) (by exact PV.Ac rfl) Ak.nil (Nat.zero_le _) (Nat.le_refl _) ⟨?_,rfl,rfl⟩;try rfl)
   refine PV.int_eq ?_
   rw [Int.one_mul,zH (by omega)]
end Go.Proofs.YtdabojnmoejilaaGreatDoor
namespace Go.Vm
open Go.Am
theorem Qp {n:Int} (h0:n<0) (h:-18446744073709551616≤n):IntKind.u64.wrap n=n+18446744073709551616:=by
 have e:IntKind.u64.wrap n=n % 2^64:=by
  simp [IntKind.wrap,IntKind.signed,IntKind.bits]
  try omega
 rw [e]
 omega
section
variable {E:Env} {L:Frame} {H:Heap} {nx:Nat} {Q:PV→Heap→Nat→Prop} {w:Bool}
variable {dst:Option Tmp} {ty:TypeId} {pos:String} {af:Array Edge} {gd:Option (Nat×Bool)}
theorem Aa.a1p {s d:TypeId} {x:Operand} {k':IntKind} {n:Int} {sd:TypeDesc} (hx:BG E.Γ L x=some (.p (.int k' n))) (hs:E.P.underlying s=some sd) (hns:dJ sd=true) (hd:E.P.underlying d=some (.int .u64)) (hn:n<0∧-18446744073709551616≤n) (q:Q (.p (.int .u64 (n+18446744073709551616))) H nx) :
 Aa E w ⟨dst,.convert s d x,ty,pos,af,gd⟩ L H nx Q:=Aa.U8 hx hs hns hd (by rw [Qp hn.1 hn.2];exact q)
theorem Aa.a8j {t:TypeId} {x:Operand} {a:Int} (hx:BG E.Γ L x=some (.p (.int .u64 a))) (h:0<a∧a<18446744073709551616) (q:Q (.p (.int .u64 (18446744073709551616-a))) H nx):Aa E w ⟨dst,.unOp .neg t x,ty,pos,af,gd⟩ L H nx Q :=
 Aa.quiet q fun m F σ tt c1 c2=>by
  refine ⟨.int .u64 (18446744073709551616-a),fun _=>?_,.p (.int _ _)⟩
  have hd:EM E.P (Op.unary .neg (.int .u64 a))=some (.int .u64 (18446744073709551616-a)):=by
   simp only [Op.unary,Op.intArith,Int.zero_sub,Qp (n:=-a) (by omega) (by omega)]
   rw [show -a+18446744073709551616=18446744073709551616-a by omega]
   rfl
  simp only [CX,FH,Dh c1 c2 hx]
  rw [show plain (Value.int IntKind.u64 a)=true from rfl]
  simp only [if_true,Ib hd rfl,Option.map_some]
theorem Aa.makeFunc {f:FuncId} {fs cs:Array Operand} {pf pc:List PV} (hf:evs E.Γ L fs.toList=some pf) (hc:evs E.Γ L cs.toList=some pc) (q:Q (.clo f pf pc) H nx):Aa E w ⟨dst,.makeFunc (.func f) fs cs,ty,pos,af,gd⟩ L H nx Q :=
 Aa.quiet q fun m F σ tt c1 c2=>by
  refine ⟨.func (.func f) (fs.toList.map (ev tt)).toArray (cs.toList.map (ev tt)).toArray,fun _=>?_,.clo (QY c1 c2 hf) (QY c1 c2 hc)⟩
  simp only [CX,FH,Option.map_some,← Array.toList_map,Array.toArray_toList]
end
end Go.Vm
namespace Go.Proofs.YtdabojnmoejilaaGreatDoor
open Go Go.Am Go.Vm
attribute [local irreducible] Aa Af Aq Ad BF AX Ci AU AO Aw Vm.Done CS Bq
structure JV where
 num:Int
 den:Int
instance:Enc JV:={ default:=⟨0,0⟩,enc:=fun x=>[.int .i64 x.num,.int .i64 x.den],size:=2,len:=fun _=>rfl }
theorem Wy (n:Int) (h:-9223372036854775808≤n∧n<9223372036854775808):AX env 123 [.int .i64 n] (.p (.int .u64 ((n.natAbs:Nat):Int))):=by
 refine AX.enter (AB (by decide)) Tryz.func123 rfl (by kernel_rfl) (by simp [Tryz.ntmps123]) ?_
 repeat' (first|apply Ad.assoc|apply Ad.AA|apply Ad.Ar|apply Ad.BI|apply Ad.ret|apply Af.nil|apply Af.one|(apply Aa.a1p;rfl;rfl;rfl;rfl;omega)|(apply Aa.a8j;rfl;omega)|(apply Aa.assign;rfl)|(apply Aa.move;rfl)|(apply Aa.int;rfl;rfl;rfl)|(apply Aa.XO;rfl;rfl;rfl;rfl;omega)|(apply Ad.Ae;rfl)|(intro _;try (exfalso;omega)))
 all_goals (refine Done.ret rfl (.refl _) (by exact PV.Ac rfl) Ak.nil (Nat.zero_le _) (Nat.le_refl _) ⟨?_,rfl,rfl⟩;refine PV.int_eq ?_;omega)
theorem wE (a b:Nat) (ha:a<18446744073709551616) (hb:b<18446744073709551616):AX env 122 [.int .u64 (a:Int),.int .u64 (b:Int)] (.p (.int .u64 ((Nat.gcd a b:Nat):Int))):=by
 refine AX.enter (AB (by decide)) Tryz.func122 rfl (by kernel_rfl) (by simp [Tryz.ntmps122]) ?_
 repeat' (first|apply Ad.AA|apply Ad.Ai|apply Af.nil|apply Af.one|(apply Aa.assign;rfl))
 refine Ad.Ee (fun s:Nat×Nat=>[(0,.p (.int .u64 (s.1:Int))),(1,.p (.int .u64 (s.2:Int)))]) (fun _=>[]) 0 (fun s=>s.1<18446744073709551616∧s.2<18446744073709551616∧Nat.gcd s.1 s.2=Nat.gcd a b) (fun s=>s.2) (a,b) (Nat.le_refl _) ⟨ha,hb,rfl⟩ ⟨Nat.le_refl _,?_,trivial⟩ ?_
 ·repeat (first|exact Ap.nil|refine Ap.same (by exact PV.Ac rfl) rfl ?_|refine Ap.cons trivial rfl (.of_eq (Au (by simp<;>omega))) ?_)
 rintro ⟨x,y⟩ ⟨hx,hy,hg⟩
 simp only at hx hy hg
 have hmod:0<y→x % y<y:=fun h=>Nat.mod_lt _ h
 repeat' (first|apply Ad.assoc|apply Ad.AA|apply Ad.Fq|apply Ad.Ar|apply Ad.A8|apply AU.normal|apply AO.normal|apply AO.exit|apply Aw.exit|apply Ad.ret|apply Ad.Fv|apply Af.nil|apply Aq.nil|apply Af.one|(apply Aq.bar;decide +kernel)|(apply Aa.assign;rfl)|(apply Aa.move;rfl)|(apply Aa.a0f;rfl;rfl;omega)|(apply Aa.int;rfl;rfl;rfl)|(apply Ad.Ae;rfl)|(intro _;try (exfalso;omega)))
 ·rename_i h1
  have hy0:0<y:=by omega
  refine Aw.normal ⟨(y,x % y),⟨hy,by have:=hmod hy0;omega,?_⟩,hmod hy0,⟨Nat.le_refl _,?_,trivial⟩⟩
  ·rw [← hg,Nat.gcd_comm x y,Nat.gcd_rec y x,Nat.gcd_comm]
  ·repeat (first|exact Ap.nil|refine Ap.same (by exact PV.Ac rfl) rfl ?_|refine Ap.cons trivial rfl (.of_eq (Au (by simp<;>omega))) ?_)
 ·rename_i h1
  refine Done.ret rfl (.refl _) (by exact PV.Ac rfl) Ak.nil (Nat.zero_le _) (Nat.le_refl _) ⟨?_,rfl,rfl⟩
  have hy0:y=0:=by omega
  subst hy0
  rw [← hg,Nat.gcd_zero_right]
def vP (x:JV):Prop:=0<x.den∧x.den≤1000000∧-1000000≤x.num∧x.num≤1000000∧Nat.gcd x.num.natAbs x.den.toNat=1
instance (x:JV):Decidable (vP x):=by unfold vP;infer_instance
def xW (x:JV):Int:=if vP x then 0 else 2
theorem dU (x:JV):AX env 106 [.agg (Enc.enc x)] (.p (.int .i64 (xW x))):=by
 refine AX.enter (AB (by decide)) Tryz.func106 rfl (by kernel_rfl) (by simp [Tryz.ntmps106]) ?_
 have hd:0<x.den→((x.den.toNat:Nat):Int)=x.den:=fun h=>Int.toNat_of_nonneg (Int.le_of_lt h)
 have hg:0<x.den→x.den≤1000000→-1000000≤x.num→x.num≤1000000→AX env 122 [.int .u64 ((x.num.natAbs:Nat):Int),.int .u64 x.den] (.p (.int .u64 ((Nat.gcd x.num.natAbs x.den.toNat:Nat):Int))):=fun h1 h2 h3 h4=>by
  have:=wE x.num.natAbs x.den.toNat (by omega) (by omega)
  rwa [hd h1] at this
 repeat' (first|apply Ad.assoc|apply Ad.AA|apply Ad.Bj|apply Ad.Ar|apply Ad.BI|apply Ad.ret|apply Af.nil|apply Aq.nil|apply Af.one|(apply Aq.bar;decide +kernel)|(apply Aq.XL;rfl;rfl)|(apply Aq.drop;rfl;rfl;rfl)|(apply Aq.guard;rfl;rfl)|(apply Aa.fn;rfl;rfl;exact Wy _ (by omega);intro _;rfl)|(apply Aa.fn;rfl;rfl;exact hg (by omega) (by omega) (by omega) (by omega);intro _;rfl)|(apply Aa.assign;rfl)|(apply Aa.move;rfl)|(apply Aa.int;rfl;rfl;rfl)|(apply Aa.load;rfl;rfl)|(apply Aa.Bo;rfl;rfl)|(apply Aa.AQ;rfl;rfl)|(apply Aa.AV;rfl;rfl;rfl)|(apply Aa.box;rfl;trivial)|(apply Aa.XO;rfl;rfl;rfl;rfl;omega)|(apply Ad.Bc;rfl)|(apply Ad.Ae;rfl)|(intro _;try (exfalso;omega)))
 all_goals (refine Done.ret rfl (.refl _) (by exact PV.Ac rfl) Ak.nil (Nat.zero_le _) (Nat.le_refl _) ⟨?_,rfl,rfl⟩;refine PV.int_eq ?_;unfold xW;first|(rw [if_neg (show ¬ vP x from fun h=>by unfold vP at h;omega)];done)|(rw [if_pos (show vP x from by unfold vP;omega)];done))
end Go.Proofs.YtdabojnmoejilaaGreatDoor
namespace Go.Proofs.YtdabojnmoejilaaGreatDoor
open Go Go.Am Go.Vm
attribute [local irreducible] Aa Af Aq Ad BF AX Ci AU AO Aw Vm.Done CS Bq
def qo (x:JV):Prop:=vP x∧0<x.num∧x.num≤128*x.den∧x.den≤128
instance (x:JV):Decidable (qo x):=by unfold qo;infer_instance
def OL (x:JV):Int:=if ¬ vP x then 2 else if x.num≤0∨x.num>128*x.den then 3 else if x.den>128 then 4 else 0
theorem Om {x:JV}:OL x=0↔qo x:=by
 unfold OL qo
 by_cases h1:vP x
 ·rw [if_neg (Classical.not_not.2 h1)]
  split
  ·constructor
   ·intro h;cases h
   ·rintro ⟨_,_,_,_⟩;omega
  ·split
   ·constructor
    ·intro h;cases h
    ·rintro ⟨_,_,_,_⟩;omega
   ·exact ⟨fun _=>⟨h1,by omega,by omega,by omega⟩,fun _=>rfl⟩
 ·rw [if_pos h1]
  exact ⟨fun h=>(by cases h),fun h=>absurd h.1 h1⟩
theorem KN (x:JV):AX env 86 [.agg (Enc.enc x)] (.p (.int .i64 (OL x))):=by
 have hc:=dU x
 refine AX.enter (AB (by decide)) Tryz.func86 rfl (by kernel_rfl) (by simp [Tryz.ntmps86]) ?_
 by_cases h1:vP x
 ·rw [show xW x=0 from if_pos h1] at hc
  have h1':=h1
  obtain ⟨h2,h3,h4,h5,-⟩:=h1'
  have e:OL x=if x.num≤0∨x.num>128*x.den then 3 else if x.den>128 then 4 else 0:=by unfold OL;rw [if_neg (Classical.not_not.2 h1)]
  rw [e]
  repeat' (first|apply Ad.AA|apply Ad.Ai|apply AU.normal|apply AU.ret|apply AO.normal|apply AO.ret|apply Ad.ret|apply Ad.skip|apply Af.nil|apply Af.one|(apply Af.take;rfl;rfl)|(apply Af.drop;rfl;rfl;rfl)|(apply Af.guard;rfl;rfl)|(apply Aa.fn;rfl;rfl;exact hc;intro _;rfl)|(apply Aa.assign;rfl)|(apply Aa.move;rfl)|(apply Aa.KA;rfl;rfl;omega)|(apply Aa.int;rfl;rfl;rfl)|(apply Aa.load;rfl;rfl)|(apply Aa.Bo;rfl;rfl)|(apply Aa.AQ;rfl;rfl)|(apply Aa.AV;rfl;rfl;rfl)|(apply Aa.box;rfl;trivial)|(apply Ad.cond_true;rfl)|(apply Ad.cond_false;rfl)|(apply Ad.AY;rfl)|(intro _;try (exfalso;omega)))
  all_goals first|(exfalso;omega)|(rw [if_pos (by omega)];(refine Done.ret rfl (.refl _) (by exact PV.Ac rfl) Ak.nil (Nat.zero_le _) (Nat.le_refl _) ⟨?_,rfl,rfl⟩;try rfl);done)|(rw [if_neg (by omega),if_pos (by omega)];(refine Done.ret rfl (.refl _) (by exact PV.Ac rfl) Ak.nil (Nat.zero_le _) (Nat.le_refl _) ⟨?_,rfl,rfl⟩;try rfl);done)|(rw [if_neg (by omega),if_neg (by omega)];(refine Done.ret rfl (.refl _) (by exact PV.Ac rfl) Ak.nil (Nat.zero_le _) (Nat.le_refl _) ⟨?_,rfl,rfl⟩;try rfl);done)
 ·rw [show xW x=2 from if_neg h1] at hc
  rw [show OL x=2 from if_pos h1]
  repeat' (first|apply Ad.AA|apply Ad.Ai|apply AU.ret|apply AO.ret|apply Ad.ret|apply Af.nil|apply Af.one|(apply Aa.fn;rfl;rfl;exact hc;intro _;rfl)|(apply Aa.assign;rfl)|(apply Aa.int;rfl;rfl;rfl)|(apply Aa.load;rfl;rfl)|(apply Aa.box;rfl;trivial)|(apply Ad.cond_true;rfl))
  all_goals (refine Done.ret rfl (.refl _) (by exact PV.Ac rfl) Ak.nil (Nat.zero_le _) (Nat.le_refl _) ⟨?_,rfl,rfl⟩;try rfl)
def bothR (x y:JV):Int:=if OL x≠0 then OL x else OL y
theorem iF (x y:JV):AX env 67 [.agg (Enc.enc x),.agg (Enc.enc y)] (.p (.int .i64 (bothR x y))):=by
 have h1:=KN x
 have h2:=KN y
 unfold bothR
 refine AX.enter (AB (by decide)) Tryz.func67 rfl (by kernel_rfl) (by simp [Tryz.ntmps67]) ?_
 repeat' (first|apply Ad.assoc|apply Ad.AA|apply Ad.Ar|apply Ad.BI|apply Ad.ret|apply Af.nil|apply Af.one|(apply Aa.fn;rfl;rfl;exact h1;intro _;rfl)|(apply Aa.fn;rfl;rfl;exact h2;intro _;rfl)|(apply Aa.assign;rfl)|(apply Aa.move;rfl)|(apply Aa.int;rfl;rfl;rfl)|(apply Aa.load;rfl;rfl)|(apply Aa.box;rfl;trivial)|(apply Ad.Ae;rfl)|(intro _;try (exfalso;omega)))
 all_goals first|(rw [if_pos (by assumption)];(refine Done.ret rfl (.refl _) (by exact PV.Ac rfl) Ak.nil (Nat.zero_le _) (Nat.le_refl _) ⟨?_,rfl,rfl⟩;try rfl);done)|(rw [if_neg (by assumption)];(refine Done.ret rfl (.refl _) (by exact PV.Ac rfl) Ak.nil (Nat.zero_le _) (Nat.le_refl _) ⟨?_,rfl,rfl⟩;try rfl);done)
def sh1 (den:Nat):Nat→Nat→Int→Nat×Int
 |0,num,n=>(num,n)
 |f+1,num,n=>if num<den then sh1 den f (num*2) (n-12) else (num,n)
def sh2 (num:Nat):Nat→Nat→Int→Nat×Int
 |0,den,n=>(den,n)
 |f+1,den,n=>if 2*den≤num then sh2 num f (den*2) (n+12) else (den,n)
def sh3 (p:Nat):Nat→Nat→Int→Int
 |0,l,n=>n
 |f+1,l,n=>if l<p then sh3 p f (l*4) (n+1) else n
def shN (num den:Nat):Int :=
 let a:=sh1 den 30 num 0
 let b:=sh2 a.1 30 den a.2
 sh3 (a.1 ^ 24) 30 (b.1 ^ 24*2) b.2
def uf (x y:JV):Int:=shN (y.num*x.den).toNat (y.den*x.num).toNat
theorem qV (a b:Nat):Xv a b>0↔b<a:=by
 unfold Xv
 split
 ·omega
 ·split<;>omega
theorem mX {n k:Nat} (hk:0<k) (h:n<10 ^ k):Lib.nDigits n≤k:=by
 rcases Nat.eq_zero_or_pos n with h0|h0
 ·subst h0;rw [Lib.nDigits_small (by decide)];exact hk
 ·have h1:=Num.FU n (by omega)
  have h2:10 ^ (Lib.nDigits n-1)<10 ^ k:=Nat.lt_of_le_of_lt h1 h
  have h3:=(Nat.pow_lt_pow_iff_right (a:=10) (by decide)).1 h2
  omega
theorem jQ {n k e:Nat} (hk:0<k) (h:n<10 ^ k) (he:e≤100):Lib.nDigits (n ^ e)≤k*100:=by
 rcases Nat.eq_zero_or_pos e with h0|h0
 ·subst h0;rw [Nat.pow_zero,Lib.nDigits_small (by decide)];omega
 ·refine mX (by omega) ?_
  have h1:n ^ e<(10 ^ k) ^ e:=Nat.pow_lt_pow_left h (by omega)
  rw [← Nat.pow_mul] at h1
  exact Nat.lt_of_lt_of_le h1 (Nat.pow_le_pow_right (by decide) (Nat.mul_le_mul_left _ he))
theorem sD {a b j k:Nat} (ha:Lib.nDigits a≤j) (hb:Lib.nDigits b≤k):Lib.nDigits (a*b)≤j+k:=by
 have h1:=Lib.lt_pow_nDigits a
 have h2:=Lib.lt_pow_nDigits b
 have hp:=Lib.nDigits_pos a
 refine mX (by omega) ?_
 rw [Nat.pow_add]
 have h3:a<10 ^ j:=Nat.lt_of_lt_of_le h1 (Nat.pow_le_pow_right (by decide) ha)
 have h4:b<10 ^ k:=Nat.lt_of_lt_of_le h2 (Nat.pow_le_pow_right (by decide) hb)
 exact Nat.mul_lt_mul_of_lt_of_le h3 (Nat.le_of_lt h4) (Nat.pow_pos (by decide))
theorem JO (x y:JV) (hx:qo x) (hy:qo y):AX env 68 [.agg (Enc.enc x),.agg (Enc.enc y)] (.p (.int .i64 (uf x y))):=by
 obtain ⟨⟨f1,-⟩,f2,f3,f4⟩:=hx
 obtain ⟨⟨g1,-⟩,g2,g3,g4⟩:=hy
 obtain ⟨xn,hxn⟩:∃ k:Nat,x.num=k:=⟨x.num.toNat,by omega⟩
 obtain ⟨xd,hxd⟩:∃ k:Nat,x.den=k:=⟨x.den.toNat,by omega⟩
 obtain ⟨yn,hyn⟩:∃ k:Nat,y.num=k:=⟨y.num.toNat,by omega⟩
 obtain ⟨yd,hyd⟩:∃ k:Nat,y.den=k:=⟨y.den.toNat,by omega⟩
 have b1:yn*xd≤16384*128:=Nat.mul_le_mul (by omega) (by omega)
 have b2:yd*xn≤128*16384:=Nat.mul_le_mul (by omega) (by omega)
 have p1:0<yn*xd:=Nat.mul_pos (by omega) (by omega)
 have p2:0<yd*xn:=Nat.mul_pos (by omega) (by omega)
 have c1:y.num*x.den=((yn*xd:Nat):Int):=by rw [hyn,hxd,Int.natCast_mul]
 have c2:y.den*x.num=((yd*xn:Nat):Int):=by rw [hyd,hxn,Int.natCast_mul]
 have e:uf x y=shN (yn*xd) (yd*xn):=by unfold uf;rw [c1,c2];rfl
 rw [e]
 generalize yn*xd=num at *
 generalize yd*xn=den at *
 have z1:-9223372036854775808≤y.num*x.den∧y.num*x.den<9223372036854775808:=by omega
 have z2:-9223372036854775808≤y.den*x.num∧y.den*x.num<9223372036854775808:=by omega
 refine AX.enter (AB (by decide)) Tryz.func68 rfl (by kernel_rfl) (by simp [Tryz.ntmps68]) ?_
 repeat' (first|apply Ad.AA|apply Ad.Bj|apply Ad.Ai|apply Af.nil|apply Aq.nil|apply Af.one|(apply Aq.bar;decide +kernel)|apply Aq.quiet|(apply Aa.assign;rfl)|(apply Aa.KA;rfl;rfl;omega)|(apply Aa.load;rfl;rfl)|(apply Aa.AV;rfl;rfl;rfl)|(apply Aa.box;rfl;trivial))
 refine Ad.Ee (fun s:Nat×Nat=>[(5,.p (.int .i64 (s.2:Int))),(6,.p (.int .i64 (den:Int))),(7,.p (.int .i64 (-(12*(s.1:Int)))))]) (fun _=>[]) 0 (fun s=>s.1≤22∧s.2=num*2 ^ s.1∧s.2≤4194304∧sh1 den (30-s.1) s.2 (-(12*(s.1:Int)))=sh1 den 30 num 0) (fun s=>30-s.1) (0,num) (by omega) ⟨by omega,by simp,by simp only;omega,by simp⟩ ⟨by omega,?_,?_⟩ ?_
 ·simp only [c1,c2];repeat (first|exact Ap.nil|refine Ap.same (by exact PV.Ac rfl) rfl ?_|refine Ap.cons trivial rfl (.of_eq (Au (by simp<;>omega))) ?_)
 ·exact Ak.nil
 rintro ⟨i,m⟩ ⟨hi,hm,hm2,hs⟩
 simp only at hi hm hm2 hs
 have iP:∀ a b c:Nat,0<a→a*2 ^ b≤c→2 ^ b≤c:=fun a b c ha h=>Nat.le_trans (Nat.le_mul_of_pos_left _ ha) h
 have h21:∀ b:Nat,2 ^ b≤2 ^ 21→b≤21:=fun b h=>(Nat.pow_le_pow_iff_right (by decide)).1 h
 have b0k:0<m:=by rw [hm];exact Nat.mul_pos p1 (Nat.pow_pos (by decide))
 repeat' (first|apply Ad.assoc|apply Ad.AA|apply Ad.region|apply Ad.Ar|apply Ad.A8|apply Ad.Ai|apply AU.normal|apply AO.normal|apply AO.exit|apply Aw.exit|apply Af.nil|apply Af.one|(apply Aa.assign;rfl)|(apply Aa.move;rfl)|(apply Aa.IC;rfl;rfl;omega)|(apply Aa.KA;rfl;rfl;omega)|(apply Aa.int;rfl;rfl;rfl)|(apply Ad.Ae;rfl)|(intro _;try (exfalso;omega)))
 ·rename_i a1
  simp only at a1
  have hi2:i≤20:=by
   have h1:num*2 ^ i<den:=by rw [← hm];omega
   have h2:2 ^ i<2 ^ 21:=Nat.lt_of_le_of_lt (iP _ _ _ p1 (Nat.le_refl _)) (by omega)
   have:=(Nat.pow_lt_pow_iff_right (a:=2) (by decide)).1 h2
   omega
  have e7:-(12*((i+1:Nat):Int))=-(12*(i:Int))-12:=by omega
  refine Aw.normal ⟨(i+1,m*2),⟨by simp only;omega,by simp only;rw [hm,Nat.pow_succ,Nat.mul_assoc],by simp only;omega,?_⟩,by simp only;omega,⟨by omega,?_,?_⟩⟩
  ·simp only
   rw [← hs,show 30-i=(30-(i+1))+1 by omega,e7]
   conv=>rhs;rw [sh1]
   rw [if_pos (by omega)]
  ·simp only [e7];repeat (first|exact Ap.nil|refine Ap.same (by exact PV.Ac rfl) rfl ?_|refine Ap.cons trivial rfl (.of_eq (Au (by simp<;>omega))) ?_)
  ·exact Ak.nil
 ·rename_i a1
  simp only at a1
  have hs1:sh1 den 30 num 0=(m,-(12*(i:Int))):=by
   rw [← hs]
   cases 30-i with
   |zero=>rfl
   |succ f=>rw [sh1,if_neg (by omega)]
  refine Ad.Ee (fun s:Nat×Nat=>[(5,.p (.int .i64 (m:Int))),(6,.p (.int .i64 (s.2:Int))),(7,.p (.int .i64 (-(12*(i:Int))+12*(s.1:Int))))]) (fun _=>[]) 0 (fun s=>s.1≤22∧s.2=den*2 ^ s.1∧s.2≤4194304∧sh2 m (30-s.1) s.2 (-(12*(i:Int))+12*(s.1:Int))=sh2 m 30 den (-(12*(i:Int)))) (fun s=>30-s.1) (0,den) (by omega) ⟨by omega,by simp,by simp only;omega,by simp⟩ ⟨by omega,?_,?_⟩ ?_
  ·have e7:-(12*(i:Int))+12*((0:Nat):Int)=-(12*(i:Int)):=by omega
   simp only [e7];repeat (first|exact Ap.nil|refine Ap.same (by exact PV.Ac rfl) rfl ?_|refine Ap.cons trivial rfl (.of_eq (Au (by simp<;>omega))) ?_)
  ·exact Ak.nil
  rintro ⟨j,d⟩ ⟨hj,hd,hd2,ht⟩
  simp only at hj hd hd2 ht
  have a5s:0<d:=by rw [hd];exact Nat.mul_pos p2 (Nat.pow_pos (by decide))
  by_cases hdm:2*d≤m
  ·repeat' (first|apply Ad.assoc|apply Ad.AA|apply Ad.region|apply Ad.Ar|apply Ad.Ai|apply AU.normal|apply AO.normal|apply Af.nil|apply Af.one|(apply Aa.assign;rfl)|(apply Aa.move;rfl)|(apply Aa.Bz;rfl;rfl;omega)|(apply Aa.KA;rfl;rfl;omega)|(apply Aa.int;rfl;rfl;rfl)|(apply Ad.Ae;rfl)|(intro _;try (exfalso;omega)))
   all_goals try (exfalso;omega)
   have hj2:j≤21:=by
    have h1:den*2 ^ j≤2 ^ 21:=by rw [← hd];omega
    exact h21 _ (iP _ _ _ p2 h1)
   have e7:-(12*(i:Int))+12*((j+1:Nat):Int)=-(12*(i:Int))+12*(j:Int)+12:=by omega
   refine Aw.normal ⟨(j+1,d*2),⟨by simp only;omega,by simp only;rw [hd,Nat.pow_succ,Nat.mul_assoc],by simp only;omega,?_⟩,by simp only;omega,⟨by omega,?_,?_⟩⟩
   ·simp only
    rw [← ht,show 30-j=(30-(j+1))+1 by omega,e7]
    conv=>rhs;rw [sh2]
    rw [if_pos hdm]
   ·simp only [e7];repeat (first|exact Ap.nil|refine Ap.same (by exact PV.Ac rfl) rfl ?_|refine Ap.cons trivial rfl (.of_eq (Au (by simp<;>omega))) ?_)
   ·exact Ak.nil
  ·have hs2:sh2 m 30 den (-(12*(i:Int)))=(d,-(12*(i:Int))+12*(j:Int)):=by
    rw [← ht]
    cases 30-j with
    |zero=>rfl
    |succ f=>rw [sh2,if_neg hdm]
   have hR:shN num den=sh3 (m ^ 24) 30 (d ^ 24*2) (-(12*(i:Int))+12*(j:Int)):=by
    unfold shN;rw [hs1];simp only;rw [hs2]
   rw [hR]
   have om:=ZK (m:Int) (by omega)
   have od:=ZK (d:Int) (by omega)
   rw [aX] at om od
   have nm:Lib.nDigits m≤7:=mX (by decide) (by omega)
   have nd:Lib.nDigits d≤7:=mX (by decide) (by omega)
   have pm:=VI m 24 (by decide) (by omega) (by omega)
   have pd:=VI d 24 (by decide) (by omega) (by omega)
   have np:Lib.nDigits (m ^ 24)≤700:=jQ (k:=7) (by decide) (by omega) (by decide)
   have nq:Lib.nDigits (d ^ 24)≤700:=jQ (k:=7) (by decide) (by omega) (by decide)
   have n2:Lib.nDigits 2=1:=Lib.nDigits_small (by decide)
   have n4:Lib.nDigits 4=1:=Lib.nDigits_small (by decide)
   have q2:=dD (d ^ 24) 2 (by omega) (by omega)
   rw [show Lib.decDigits 2=[50] by decide +kernel] at q2
   have hpq:m ^ 24<2 ^ 24*d ^ 24:=by
    rw [← Nat.mul_pow]
    exact Nat.pow_lt_pow_left (by omega) (by decide)
   have b0d:0<d ^ 24:=Nat.pow_pos a5s
   generalize m ^ 24=p at *
   generalize d ^ 24=q at *
   repeat' (first|apply Ad.assoc|apply Ad.AA|apply Ad.A8|apply Ad.Ai|apply AU.normal|apply AO.exit|apply Aw.exit|apply Af.nil|apply Af.one|(apply Aa.fn;rfl;rfl;exact om;intro _;rfl)|(apply Aa.fn;rfl;rfl;exact od;intro _;rfl)|(apply Aa.fn;rfl;rfl;exact pm;intro _;rfl)|(apply Aa.fn;rfl;rfl;exact pd;intro _;rfl)|(apply Aa.fn;rfl;rfl;exact q2;intro _;rfl)|(apply Aa.assign;rfl)|(apply Aa.move;rfl)|(apply Aa.KA;rfl;rfl;omega)|(apply Aa.int;rfl;rfl;rfl)|(apply Aa.extract;rfl;rfl)|(apply Ad.Ae;rfl)|(intro _;try (exfalso;omega)))
   all_goals try (exfalso;omega)
   generalize hn0:-(12*(i:Int))+12*(j:Int)=n0 at *
   have b2d:-1000≤n0∧n0≤1000:=by omega
   refine Ad.Ee (fun k:Nat=>[(8,st (Lib.decDigits p)),(12,st (Lib.decDigits (q*2*4 ^ k))),(7,.p (.int .i64 (n0+(k:Int))))]) (fun _=>[]) 0 (fun k=>k≤20∧sh3 p (30-k) (q*2*4 ^ k) (n0+(k:Int))=sh3 p 30 (q*2) n0) (fun k=>30-k) 0 (by omega) ⟨by omega,by simp⟩ ⟨by omega,?_,?_⟩ ?_
   ·have e7:n0+((0:Nat):Int)=n0:=by omega
    rw [e7,Nat.pow_zero,Nat.mul_one];repeat (first|exact Ap.nil|refine Ap.same (by exact PV.Ac rfl) rfl ?_|refine Ap.cons trivial rfl (.of_eq (Au (by simp<;>omega))) ?_)
   ·exact Ak.nil
   rintro k ⟨hk,hs⟩
   have nl:Lib.nDigits (q*2*4 ^ k)≤1000:=by
    have h1:=sD (a:=q) (b:=2) (j:=700) (k:=1) (by omega) (by omega)
    have h2:Lib.nDigits (4 ^ k)≤100:=jQ (n:=4) (k:=1) (by decide) (by decide) (by omega)
    have h3:=sD h1 h2
    omega
   have cc:=Zz p (q*2*4 ^ k) (by omega) (by omega)
   have q4:=dD (q*2*4 ^ k) 4 (by omega) (by omega)
   rw [show Lib.decDigits 4=[52] by decide +kernel] at q4
   have hcp:=qV p (q*2*4 ^ k)
   by_cases hlt:q*2*4 ^ k<p
   ·have hc:=hcp.2 hlt
    have hk2:k≤12:=by
     have h1:q*(2*4 ^ k)<q*2 ^ 24:=by rw [← Nat.mul_assoc,Nat.mul_comm q (2 ^ 24)];omega
     have h2:=Nat.lt_of_mul_lt_mul_left h1
     have h3:2*4 ^ k=2 ^ (1+2*k):=by rw [Nat.pow_add,Nat.pow_mul,Nat.pow_one]
     rw [h3] at h2
     have:=(Nat.pow_lt_pow_iff_right (a:=2) (by decide)).1 h2
     omega
    have e7:n0+((k+1:Nat):Int)=n0+(k:Int)+1:=by omega
    repeat' (first|apply Ad.assoc|apply Ad.AA|apply Ad.region|apply Ad.Ar|apply Ad.Ai|apply AU.normal|apply AO.normal|apply Af.nil|apply Af.one|(apply Aa.fn;rfl;rfl;exact cc;intro _;rfl)|(apply Aa.fn;rfl;rfl;exact q4;intro _;rfl)|(apply Aa.assign;rfl)|(apply Aa.move;rfl)|(apply Aa.Bz;rfl;rfl;omega)|(apply Aa.int;rfl;rfl;rfl)|(apply Ad.Ae;rfl)|(intro _;try (exfalso;omega)))
    all_goals try (exfalso;omega)
    refine Aw.normal ⟨k+1,⟨by omega,?_⟩,by omega,⟨by omega,?_,?_⟩⟩
    ·rw [← hs,show 30-k=(30-(k+1))+1 by omega,e7]
     conv=>rhs;rw [sh3]
     rw [if_pos hlt,Nat.pow_succ,Nat.mul_assoc (q*2)]
    ·rw [e7,Nat.pow_succ,← Nat.mul_assoc];repeat (first|exact Ap.nil|refine Ap.same (by exact PV.Ac rfl) rfl ?_|refine Ap.cons trivial rfl (.of_eq (Au (by simp<;>omega))) ?_)
    ·exact Ak.nil
   ·have hc:¬ Xv p (q*2*4 ^ k)>0:=fun h=>hlt (hcp.1 h)
    have hR3:sh3 p 30 (q*2) n0=n0+(k:Int):=by
     rw [← hs]
     cases 30-k with
     |zero=>rfl
     |succ f=>rw [sh3,if_neg hlt]
    rw [hR3]
    repeat' (first|apply Ad.assoc|apply Ad.AA|apply Ad.A8|apply AU.normal|apply AO.exit|apply Aw.exit|apply Ad.ret|apply Af.nil|apply Af.one|(apply Aa.fn;rfl;rfl;exact cc;intro _;rfl)|(apply Aa.assign;rfl)|(apply Aa.move;rfl)|(apply Aa.int;rfl;rfl;rfl)|(apply Ad.Ae;rfl)|(intro _;try (exfalso;omega)))
    all_goals first|(exfalso;omega)|(refine Done.ret rfl (.refl _) (by exact PV.Ac rfl) Ak.nil (Nat.zero_le _) (Nat.le_refl _) ⟨?_,rfl,rfl⟩;try rfl)
def Dc (x y:JV):Int×Int:=if bothR x y≠0 then (0,bothR x y) else (uf x y,0)
theorem qM {x y:JV}:bothR x y=0↔qo x∧qo y:=by
 unfold bothR
 rw [← Om,← Om]
 split
 ·rename_i h;exact ⟨fun h'=>absurd h' h,fun h'=>absurd h'.1 h⟩
 ·rename_i h;exact ⟨fun h'=>⟨Classical.not_not.1 h,h'⟩,fun h'=>h'.2⟩
theorem Nw (x y:JV):AX env 44 [.agg (Enc.enc x),.agg (Enc.enc y)] (.EW [.p (.int .i64 (Dc x y).1),.p (.int .i64 (Dc x y).2)]):=by
 have hb:=iF x y
 by_cases h:bothR x y=0
 ·rw [h] at hb
  have ok:=qM.1 h
  have hs:=JO x y ok.1 ok.2
  rw [show Dc x y=(uf x y,0) from if_neg (fun h'=>h' h)]
  refine AX.enter (AB (by decide)) Tryz.func44 rfl (by kernel_rfl) (by simp [Tryz.ntmps44]) ?_
  repeat' (first|apply Ad.assoc|apply Ad.AA|apply Ad.Ar|apply Ad.ret|apply Af.nil|apply Af.one|(apply Aa.fn;rfl;rfl;exact hb;intro _;rfl)|(apply Aa.fn;rfl;rfl;exact hs;intro _;rfl)|(apply Aa.assign;rfl)|(apply Aa.move;rfl)|(apply Aa.int;rfl;rfl;rfl)|(apply Aa.load;rfl;rfl)|(apply Aa.box;rfl;trivial)|(apply Ad.Az;rfl))
  all_goals first|(exfalso;omega)|(refine Done.ret rfl (.refl _) (by exact PV.Ac rfl) Ak.nil (Nat.zero_le _) (Nat.le_refl _) ⟨?_,rfl,rfl⟩;try rfl)
 ·rw [show Dc x y=(0,bothR x y) from if_pos h]
  refine AX.enter (AB (by decide)) Tryz.func44 rfl (by kernel_rfl) (by simp [Tryz.ntmps44]) ?_
  repeat' (first|apply Ad.assoc|apply Ad.AA|apply Ad.BI|apply Af.nil|apply Af.one|(apply Aa.fn;rfl;rfl;exact hb;intro _;rfl)|(apply Aa.assign;rfl)|(apply Aa.move;rfl)|(apply Aa.int;rfl;rfl;rfl)|(apply Aa.load;rfl;rfl)|(apply Aa.box;rfl;trivial)|(apply Ad.Ae;rfl)|(intro _;try (exfalso;omega)))
  all_goals first|(exfalso;omega)|(refine Done.ret rfl (.refl _) (by exact PV.Ac rfl) Ak.nil (Nat.zero_le _) (Nat.le_refl _) ⟨?_,rfl,rfl⟩;try rfl)
end Go.Proofs.YtdabojnmoejilaaGreatDoor
namespace Go.Proofs.YtdabojnmoejilaaGreatDoor
open Go Go.Am Go.Vm
attribute [local irreducible] Aa Af Aq Ad BF AX Ci AU AO Aw Vm.Done CS Bq
structure Fh where
 name:List UInt8
 Ep:List UInt8
 Dp:JV
 first:Int
 Ez:List Int
instance:Enc Fh:={ default:=⟨[],[],⟨0,0⟩,0,[]⟩,enc:=fun r=>[.str (bs r.name),.str (bs r.Ep),.int .i64 r.Dp.num,.int .i64 r.Dp.den,.int .i64 r.first,.lst 3 (cells r.Ez) r.Ez.length],size:=6,len:=fun _=>rfl }
theorem PV.Ir {a b:Bool} (h:a=b):PV.p (.bool a)=PV.p (.bool b):=by rw [h]
def Xn (x:Int):Prop:=x<0∨x>1000000
instance (x:Int):Decidable (Xn x):=by unfold Xn;infer_instance
theorem yJ (x:Int):AX env 107 [.int .i64 x] (.p (.bool (decide (Xn x)))):=by
 refine AX.enter (AB (by decide)) Tryz.func107 rfl (by kernel_rfl) (by simp [Tryz.ntmps107]) ?_
 repeat' (first|apply Ad.AA|apply Ad.ret|apply Af.nil|apply Af.one|(apply Af.take;rfl;rfl)|(apply Af.drop;rfl;rfl;rfl)|(apply Af.guard;rfl;rfl)|(apply Aa.assign;rfl)|(apply Aa.move;rfl)|(apply Aa.int;rfl;rfl;rfl)|(apply Aa.Bo;rfl;rfl)|(apply Aa.AQ;rfl;rfl)|(intro _;try (exfalso;omega)))
 all_goals (refine Done.ret rfl (.refl _) (by exact PV.Ac rfl) Ak.nil (Nat.zero_le _) (Nat.le_refl _) ⟨?_,rfl,rfl⟩;refine PV.Ir ?_;first|(refine decide_eq_decide.2 ⟨fun h=>by unfold Xn;omega,fun h=>by unfold Xn at h;omega⟩)|(symm;apply decide_eq_true;unfold Xn;omega))
def okW (l:List Int):Prop:=∀ i,i<l.length→¬ Xn (gi l i)
noncomputable instance (l:List Int):Decidable (okW l):=Classical.propDecidable _
noncomputable def DN (l:List Int):Int:=if okW l then 0 else 3
theorem a1d {L:Vm.Frame} {H:Vm.Heap} {nx:Nat} {Q:PV→Vm.Heap→Nat→Prop} {dst:Option Tmp} {ty:TypeId} {pos:String} {af:Array Edge} {gd:Option (Nat×Bool)} {fo:Operand} {args:Array Operand} {aT:Array TypeId} {fs cs xs:List PV} {c:Code}
 (hf:BG env.Γ L fo=some (.clo 75 fs cs)) (ha:evs env.Γ L args.toList=some xs) (hb:Tryz.f75.body=some c) (hn:(fs++xs++cs).length≤Tryz.f75.ntmps)
 (h:Ad env nx c (CQ 0 (fs++xs++cs)) H nx (Bq env.P Tryz.f75.results.toList Q)):Aa env true ⟨dst,.call { callee:=.value fo,args:=args,argTypes:=aT },ty,pos,af,gd⟩ L H nx Q:=by
 have h0:(match Tryz.f75.body with|some c=>H6 env.G Tryz.f75 c|none=>false)=true:=by kernel_rfl
 rw [hb] at h0
 exact Aa.inline rfl hf ha (AB (by decide)) Tryz.func75 hb h0 hn h
theorem a2j {L:Vm.Frame} {H:Vm.Heap} {nx:Nat} {Q:PV→Vm.Heap→Nat→Prop} {dst:Option Tmp} {ty:TypeId} {pos:String} {af:Array Edge} {gd:Option (Nat×Bool)} {fo:Operand} {args:Array Operand} {aT:Array TypeId} {fs cs xs:List PV} {c:Code}
 (hf:BG env.Γ L fo=some (.clo 104 fs cs)) (ha:evs env.Γ L args.toList=some xs) (hb:Tryz.f104.body=some c) (hn:(fs++xs++cs).length≤Tryz.f104.ntmps)
 (h:Ad env nx c (CQ 0 (fs++xs++cs)) H nx (Bq env.P Tryz.f104.results.toList Q)):Aa env true ⟨dst,.call { callee:=.value fo,args:=args,argTypes:=aT },ty,pos,af,gd⟩ L H nx Q:=by
 have h0:(match Tryz.f104.body with|some c=>H6 env.G Tryz.f104 c|none=>false)=true:=by kernel_rfl
 rw [hb] at h0
 exact Aa.inline rfl hf ha (AB (by decide)) Tryz.func104 hb h0 hn h
theorem jK (l:List Int) (hl:l.length<9223372036854775808):AX env 88 [.lst 3 (cells l) l.length] (.p (.int .i64 (DN l))):=by
 refine AX.enter (AB (by decide)) Tryz.func88 rfl (by kernel_rfl) (by simp [Tryz.ntmps88]) ?_
 repeat' (first|apply Ad.assoc|apply Ad.AA|apply Ad.Ai|apply Af.nil|apply Af.one|(apply a1d;rfl;rfl;rfl;exact le_dec rfl)|(apply a2j;rfl;rfl;rfl;exact le_dec rfl)|(apply Aa.assign;rfl)|(apply Aa.move;rfl)|(apply Aa.BQ;rfl;rfl))
 refine Ad.Ee (fun k:Nat=>[(0,lst 3 l),(1,.clo 107 [] []),(7,.p (.int .i64 (l.length:Int))),(8,.p (.int .i64 (k:Int)))]) (fun _=>[]) 0 (fun k=>k≤l.length∧∀ i,i<k→¬ Xn (gi l i)) (fun k=>l.length-k) 0 (by omega) ⟨by omega,fun i hi=>by omega⟩ ⟨by omega,?_,?_⟩ ?_
 ·repeat (first|exact Ap.nil|refine Ap.same (by exact PV.Ac rfl) rfl ?_|refine Ap.cons trivial rfl (.of_eq (Au (by simp<;>omega))) ?_)
 ·exact Ak.nil
 rintro k ⟨hk,hok⟩
 have hw:=yJ (gi l k)
 repeat' (first|apply Ad.assoc|apply Ad.AA|apply Ad.region|apply Ad.Ar|apply Ad.BI|apply Ad.A8|apply Ad.Ai|apply AU.normal|apply AU.ret|(apply Bq.ret;rfl)|apply AO.normal|apply AO.ret|apply AO.exit|apply Aw.ret|apply Aw.exit|apply Ad.ret|apply Ad.skip|apply Af.nil|apply Af.one|(apply Aa.fn;rfl;rfl;exact hw;intro _;rfl)|(apply Aa.assign;rfl)|(apply Aa.move;rfl)|(apply Aa.Bz;rfl;rfl;omega)|(apply Aa.int;rfl;rfl;rfl)|(apply Aa.Ba;rfl;rfl;rfl;omega;rfl)|(apply Aa.load;rfl;rfl)|(apply Ad.Bc;rfl)|(apply Ad.Az;rfl)|(apply Ad.Ae;rfl)|(apply Ad.AY;rfl)|(intro _;try (exfalso;omega)))
 ·rename_i a1 a2
  rw [show DN l=3 from if_neg (fun h=>h k (by omega) a2)]
  (refine Done.ret rfl (.refl _) (by exact PV.Ac rfl) Ak.nil (Nat.zero_le _) (Nat.le_refl _) ⟨?_,rfl,rfl⟩;try rfl)
 ·rename_i a1 a2
  refine Aw.normal ⟨k+1,⟨by omega,fun i hi=>?_⟩,by omega,⟨by omega,?_,?_⟩⟩
  ·rcases Nat.lt_or_ge i k with h|h
   ·exact hok i h
   ·obtain rfl:i=k:=by omega
    exact a2
  ·repeat (first|exact Ap.nil|refine Ap.same (by exact PV.Ac rfl) rfl ?_|refine Ap.cons trivial rfl (.of_eq (Au (by simp<;>omega))) ?_)
  ·exact Ak.nil
 ·rename_i a1
  rw [show DN l=0 from if_pos (fun i hi=>hok i (by omega))]
  (refine Done.ret rfl (.refl _) (by exact PV.Ac rfl) Ak.nil (Nat.zero_le _) (Nat.le_refl _) ⟨?_,rfl,rfl⟩;try rfl)
def aj (c:Nat):Prop:=(65≤c∧c≤90)∨(97≤c∧c≤122)
instance (c:Nat):Decidable (aj c):=by unfold aj;infer_instance
def nmC (c:Nat):Prop:=aj c∨(48≤c∧c≤57)∨c=95
theorem TS (c:Nat) (hc:c<256):AX env 85 [.int .u8 (c:Int)] (.p (.bool (decide (aj c)))):=by
 refine AX.enter (AB (by decide)) Tryz.func85 rfl (by kernel_rfl) (by simp [Tryz.ntmps85]) ?_
 repeat' (first|apply Ad.AA|apply Ad.ret|apply Af.nil|apply Af.one|(apply Af.take;rfl;rfl)|(apply Af.drop;rfl;rfl;rfl)|(apply Af.guard;rfl;rfl)|(apply Af.KF;rfl;rfl)|(apply Aa.assign;rfl)|(apply Aa.move;rfl)|(apply Aa.int;rfl;rfl;rfl)|(apply Aa.Bo;rfl;rfl)|(apply Aa.AQ;rfl;rfl)|(intro _;try (exfalso;omega)))
 all_goals (refine Done.ret rfl (.refl _) (by exact PV.Ac rfl) Ak.nil (Nat.zero_le _) (Nat.le_refl _) ⟨?_,rfl,rfl⟩;refine PV.Ir ?_;first|(refine decide_eq_decide.2 ⟨fun h=>by unfold aj;omega,fun h=>by unfold aj at h;omega⟩)|(symm;apply decide_eq_true;unfold aj;omega)|(symm;apply decide_eq_false;unfold aj;omega))
def Di (s:List UInt8):Prop:=0<s.length∧s.length≤32∧aj (gi s 0).toNat∧∀ i,1≤i→i<s.length→nmC (gi s i).toNat
noncomputable instance (s:List UInt8):Decidable (Di s):=Classical.propDecidable _
theorem Hw (s:List UInt8) (hs:s.length<9223372036854775808):AX env 57 [.str (bs s)] (.p (.bool (decide (Di s)))):=by
 have hl0:=TS (gi s 0).toNat (gi s 0).toNat_lt
 by_cases hz:s=[]
 ·subst hz
  rw [decide_eq_false (show ¬ Di [] from fun h=>absurd h.1 (by decide))]
  refine AX.enter (AB (by decide)) Tryz.func57 rfl (by kernel_rfl) (by simp [Tryz.ntmps57]) ?_
  repeat' (first|apply Ad.assoc|apply Ad.AA|apply Ad.BI|apply Af.nil|apply Af.one|(apply Af.drop;rfl;rfl;rfl)|(apply Aa.assign;rfl)|(apply Aa.move;rfl)|(apply Aa.Bo;rfl;rfl)|(apply Aa.eqS;rfl;rfl)|(apply Ad.Bc;rfl))
  all_goals first|(refine Done.ret rfl (.refl _) (by exact PV.Ac rfl) Ak.nil (Nat.zero_le _) (Nat.le_refl _) ⟨?_,rfl,rfl⟩;try rfl)|contradiction
 ·have hpos:0<s.length:=List.length_pos_iff.2 hz
  refine AX.enter (AB (by decide)) Tryz.func57 rfl (by kernel_rfl) (by simp [Tryz.ntmps57]) ?_
  by_cases h32:s.length≤32
  ·by_cases hL:aj (gi s 0).toNat
   ·rw [decide_eq_true hL] at hl0
    repeat' (first|apply Ad.assoc|apply Ad.AA|apply Ad.Ar|apply Ad.BI|apply Ad.Ai|apply Af.nil|apply Af.one|(apply Af.take;rfl;rfl)|(apply Af.drop;rfl;rfl;rfl)|(apply Af.guard;rfl;rfl)|(apply Aa.fn;rfl;rfl;exact hl0;intro _;rfl)|(apply Aa.Qz (i:=0);rfl;rfl;rfl;omega)|(apply Aa.assign;rfl)|(apply Aa.move;rfl)|(apply Aa.int;rfl;rfl;rfl)|(apply Aa.Bo;rfl;rfl)|(apply Aa.AQ;rfl;rfl)|(apply Aa.KJ;rfl;rfl)|(apply Aa.eqS;rfl;rfl)|(apply Aa.not;rfl)|(apply Ad.Bc;rfl)|(apply Ad.Az;rfl)|(intro _;try (exfalso;omega)))
    all_goals try (exfalso;omega)
    all_goals try contradiction
    refine Ad.Ee (fun k:Nat=>[(0,st s),(3,.p (.int .i64 (k:Int)))]) (fun _=>[]) 0 (fun k=>1≤k∧k≤s.length∧∀ i,1≤i→i<k→nmC (gi s i).toNat) (fun k=>s.length-k) 1 (by omega) ⟨by omega,by omega,fun i h1 h2=>by omega⟩ ⟨by omega,?_,?_⟩ ?_
    ·repeat (first|exact Ap.nil|refine Ap.same (by exact PV.Ac rfl) rfl ?_|refine Ap.cons trivial rfl (.of_eq (Au (by simp<;>omega))) ?_)
    ·exact Ak.nil
    rintro k ⟨hk1,hk2,hok⟩
    have hlk:=TS (gi s k).toNat (gi s k).toNat_lt
    have hc256:=(gi s k).toNat_lt
    have hnext:nmC (gi s k).toNat→∀ i,1≤i→i<k+1→nmC (gi s i).toNat:=fun h i h1 h2=>by
     rcases Nat.lt_or_ge i k with h3|h3
     ·exact hok i h1 h3
     ·obtain rfl:i=k:=by omega
      exact h
    have hbad:k<s.length→¬ nmC (gi s k).toNat→decide (Di s)=false:=fun h1 h2=>decide_eq_false fun h=>h2 (h.2.2.2 k hk1 h1)
    by_cases hkl:k<s.length
    ·by_cases hLk:aj (gi s k).toNat
     ·rw [decide_eq_true hLk] at hlk
      repeat' (first|apply Ad.assoc|apply Ad.AA|apply Ad.region|apply Ad.Ar|apply Ad.Ai|apply AU.normal|apply AO.normal|apply Ad.skip|apply Af.nil|apply Af.one|(apply Af.drop;rfl;rfl;rfl)|(apply Af.KF;rfl;rfl)|(apply Aa.fn;rfl;rfl;exact hlk;intro _;rfl)|(apply Aa.assign;rfl)|(apply Aa.move;rfl)|(apply Aa.Bz;rfl;rfl;omega)|(apply Aa.int;rfl;rfl;rfl)|(apply Aa.AQ;rfl;rfl)|(apply Aa.KJ;rfl;rfl)|(apply Aa.Qz;rfl;rfl;rfl;omega)|(apply Aa.not;rfl)|(apply Ad.Ae;rfl)|(apply Ad.cond_false;rfl)|(intro _;try (exfalso;omega)))
      all_goals try (exfalso;omega)
      refine Aw.normal ⟨k+1,⟨by omega,by omega,hnext (.inl hLk)⟩,by omega,⟨by omega,?_,?_⟩⟩
      ·repeat (first|exact Ap.nil|refine Ap.same (by exact PV.Ac rfl) rfl ?_|refine Ap.cons trivial rfl (.of_eq (Au (by simp<;>omega))) ?_)
      ·exact Ak.nil
     ·rw [decide_eq_false hLk] at hlk
      have hn1:nmC (gi s k).toNat↔(48≤(gi s k).toNat∧(gi s k).toNat≤57)∨(gi s k).toNat=95:=⟨fun h=>h.resolve_left hLk,fun h=>.inr h⟩
      repeat' (first|apply Ad.assoc|apply Ad.AA|apply Ad.region|apply Ad.Ar|apply Ad.Ai|apply AU.normal|apply AU.ret|apply AO.normal|apply AO.ret|apply Aw.ret|apply Ad.ret|apply Ad.skip|apply Af.nil|apply Af.one|(apply Af.take;rfl;rfl)|(apply Af.drop;rfl;rfl;rfl)|(apply Af.guard;rfl;rfl)|(apply Aa.fn;rfl;rfl;exact hlk;intro _;rfl)|(apply Aa.assign;rfl)|(apply Aa.move;rfl)|(apply Aa.Bz;rfl;rfl;omega)|(apply Aa.int;rfl;rfl;rfl)|(apply Aa.Bo;rfl;rfl)|(apply Aa.AQ;rfl;rfl)|(apply Aa.KJ;rfl;rfl)|(apply Aa.Qz;rfl;rfl;rfl;omega)|(apply Aa.not;rfl)|(apply Ad.Ae;rfl)|(apply Ad.cond_false;rfl)|(apply Ad.AY;rfl)|(intro _;try (exfalso;omega)))
      all_goals try (exfalso;omega)
      all_goals first
       |(rw [hbad hkl (fun h=>by have:=hn1.1 h;omega)];(refine Done.ret rfl (.refl _) (by exact PV.Ac rfl) Ak.nil (Nat.zero_le _) (Nat.le_refl _) ⟨?_,rfl,rfl⟩;try rfl);done)
       |(refine Aw.normal ⟨k+1,⟨by omega,by omega,hnext (hn1.2 (by omega))⟩,by omega,⟨by omega,?_,Ak.nil⟩⟩;repeat (first|exact Ap.nil|refine Ap.same (by exact PV.Ac rfl) rfl ?_|refine Ap.cons trivial rfl (.of_eq (Au (by simp<;>omega))) ?_))
    ·obtain rfl:k=s.length:=by omega
     rw [decide_eq_true (show Di s from ⟨hpos,h32,hL,fun i h1 h2=>hok i h1 h2⟩)]
     repeat' (first|apply Ad.assoc|apply Ad.AA|apply Ad.A8|apply AU.normal|apply AO.exit|apply Aw.exit|apply Ad.ret|apply Af.nil|apply Af.one|(apply Aa.assign;rfl)|(apply Aa.move;rfl)|(apply Aa.int;rfl;rfl;rfl)|(apply Aa.KJ;rfl;rfl)|(apply Ad.Ae;rfl)|(intro _;try (exfalso;omega)))
     all_goals first|(exfalso;omega)|(refine Done.ret rfl (.refl _) (by exact PV.Ac rfl) Ak.nil (Nat.zero_le _) (Nat.le_refl _) ⟨?_,rfl,rfl⟩;try rfl)
   ·rw [decide_eq_false (show ¬ Di s from fun h=>hL h.2.2.1)]
    rw [decide_eq_false hL] at hl0
    repeat' (first|apply Ad.assoc|apply Ad.AA|apply Ad.BI|apply Af.nil|apply Af.one|(apply Af.take;rfl;rfl)|(apply Af.drop;rfl;rfl;rfl)|(apply Af.guard;rfl;rfl)|(apply Aa.fn;rfl;rfl;exact hl0;intro _;rfl)|(apply Aa.Qz (i:=0);rfl;rfl;rfl;omega)|(apply Aa.assign;rfl)|(apply Aa.move;rfl)|(apply Aa.int;rfl;rfl;rfl)|(apply Aa.Bo;rfl;rfl)|(apply Aa.AQ;rfl;rfl)|(apply Aa.KJ;rfl;rfl)|(apply Aa.eqS;rfl;rfl)|(apply Aa.not;rfl)|(apply Ad.Bc;rfl)|(intro _;try (exfalso;omega)))
    all_goals first|(exfalso;omega)|contradiction|(refine Done.ret rfl (.refl _) (by exact PV.Ac rfl) Ak.nil (Nat.zero_le _) (Nat.le_refl _) ⟨?_,rfl,rfl⟩;try rfl)
  ·rw [decide_eq_false (show ¬ Di s from fun h=>h32 h.2.1)]
   repeat' (first|apply Ad.assoc|apply Ad.AA|apply Ad.BI|apply Af.nil|apply Af.one|(apply Af.take;rfl;rfl)|(apply Af.drop;rfl;rfl;rfl)|(apply Af.guard;rfl;rfl)|(apply Aa.assign;rfl)|(apply Aa.move;rfl)|(apply Aa.int;rfl;rfl;rfl)|(apply Aa.Bo;rfl;rfl)|(apply Aa.AQ;rfl;rfl)|(apply Aa.KJ;rfl;rfl)|(apply Aa.eqS;rfl;rfl)|(apply Ad.Bc;rfl)|(intro _;try (exfalso;omega)))
   all_goals first|(exfalso;omega)|contradiction|(refine Done.ret rfl (.refl _) (by exact PV.Ac rfl) Ak.nil (Nat.zero_le _) (Nat.le_refl _) ⟨?_,rfl,rfl⟩;try rfl)
noncomputable def DW (r:Fh):Int:=if ¬ Di r.name∨¬ Di r.Ep then 8 else if OL r.Dp≠0 then OL r.Dp else if r.first< -256∨r.first>256 then 3 else if r.Ez.length=0 then 13 else if r.Ez.length>128 then 4 else DN r.Ez
def Oh (n:Int):Prop:=-256≤n∧n≤256
instance (n:Int):Decidable (Oh n):=by unfold Oh;infer_instance
theorem iJ (n:Int):AX env 87 [.int .i64 n] (.p (.bool (decide (Oh n)))):=by
 refine AX.enter (AB (by decide)) Tryz.func87 rfl (by kernel_rfl) (by simp [Tryz.ntmps87]) ?_
 repeat' (first|apply Ad.AA|apply Ad.ret|apply Af.nil|apply Af.one|(apply Af.take;rfl;rfl)|(apply Af.drop;rfl;rfl;rfl)|(apply Af.guard;rfl;rfl)|(apply Aa.assign;rfl)|(apply Aa.move;rfl)|(apply Aa.int;rfl;rfl;rfl)|(apply Aa.Bo;rfl;rfl)|(apply Aa.AQ;rfl;rfl)|(intro _;try (exfalso;omega)))
 all_goals (refine Done.ret rfl (.refl _) (by exact PV.Ac rfl) Ak.nil (Nat.zero_le _) (Nat.le_refl _) ⟨?_,rfl,rfl⟩;refine PV.Ir ?_;first|(refine decide_eq_decide.2 ⟨fun h=>by unfold Oh;omega,fun h=>by unfold Oh at h;omega⟩)|(symm;apply decide_eq_false;unfold Oh;omega))
theorem Us (r:Fh) (h1:r.name.length<9223372036854775808) (h2:r.Ep.length<9223372036854775808) (h3:r.Ez.length<9223372036854775808):AX env 58 [.agg (Enc.enc r)] (.p (.int .i64 (DW r))):=by
 have n1:=Hw r.name h1
 have n2:=Hw r.Ep h2
 have p1:=KN r.Dp
 have f1:=iJ r.first
 have w1:=jK r.Ez h3
 unfold DW
 refine AX.enter (AB (by decide)) Tryz.func58 rfl (by kernel_rfl) (by simp [Tryz.ntmps58]) ?_
 by_cases a1:Di r.name
 ·rw [decide_eq_true a1] at n1
  by_cases a2:Di r.Ep
  ·rw [decide_eq_true a2] at n2
   rw [if_neg (fun h=>h.elim (fun h=>h a1) (fun h=>h a2))]
   by_cases a3:Oh r.first
   ·rw [decide_eq_true a3] at f1
    unfold Oh at a3
    repeat' (first|apply Ad.assoc|apply Ad.AA|apply Ad.Ar|apply Ad.BI|apply Ad.Ai|apply AU.normal|apply AU.ret|apply AO.normal|apply AO.ret|apply Ad.ret|apply Ad.skip|apply Af.nil|apply Af.one|(apply Af.take;rfl;rfl)|(apply Aa.fn;rfl;rfl;exact n1;intro _;rfl)|(apply Aa.fn;rfl;rfl;exact n2;intro _;rfl)|(apply Aa.fn;rfl;rfl;exact p1;intro _;rfl)|(apply Aa.fn;rfl;rfl;exact f1;intro _;rfl)|(apply Aa.fn;rfl;rfl;exact w1;intro _;rfl)|(apply Aa.assign;rfl)|(apply Aa.move;rfl)|(apply Aa.int;rfl;rfl;rfl)|(apply Aa.load;rfl;rfl)|(apply Aa.AQ;rfl;rfl)|(apply Aa.BQ;rfl;rfl)|(apply Aa.AV;rfl;rfl;rfl)|(apply Aa.box;rfl;trivial)|(apply Aa.not;rfl)|(apply Ad.Az;rfl)|(apply Ad.Ae;rfl)|(apply Ad.cond_false;rfl)|(apply Ad.AY;rfl)|(intro _;try (exfalso;omega)))
    all_goals first
     |(rw [if_pos (by assumption)];(refine Done.ret rfl (.refl _) (by exact PV.Ac rfl) Ak.nil (Nat.zero_le _) (Nat.le_refl _) ⟨?_,rfl,rfl⟩;try rfl);done)
     |(rw [if_neg (by assumption),if_neg (by omega),if_pos (by omega)];(refine Done.ret rfl (.refl _) (by exact PV.Ac rfl) Ak.nil (Nat.zero_le _) (Nat.le_refl _) ⟨?_,rfl,rfl⟩;try rfl);done)
     |(rw [if_neg (by assumption),if_neg (by omega),if_neg (by omega),if_pos (by omega)];(refine Done.ret rfl (.refl _) (by exact PV.Ac rfl) Ak.nil (Nat.zero_le _) (Nat.le_refl _) ⟨?_,rfl,rfl⟩;try rfl);done)
     |(rw [if_neg (by assumption),if_neg (by omega),if_neg (by omega),if_neg (by omega)];(refine Done.ret rfl (.refl _) (by exact PV.Ac rfl) Ak.nil (Nat.zero_le _) (Nat.le_refl _) ⟨?_,rfl,rfl⟩;try rfl);done)
   ·rw [decide_eq_false a3] at f1
    unfold Oh at a3
    repeat' (first|apply Ad.assoc|apply Ad.AA|apply Ad.Ar|apply Ad.BI|apply Ad.Ai|apply AU.ret|apply AO.ret|apply Ad.ret|apply Af.nil|apply Af.one|(apply Af.take;rfl;rfl)|(apply Aa.fn;rfl;rfl;exact n1;intro _;rfl)|(apply Aa.fn;rfl;rfl;exact n2;intro _;rfl)|(apply Aa.fn;rfl;rfl;exact p1;intro _;rfl)|(apply Aa.fn;rfl;rfl;exact f1;intro _;rfl)|(apply Aa.assign;rfl)|(apply Aa.move;rfl)|(apply Aa.int;rfl;rfl;rfl)|(apply Aa.load;rfl;rfl)|(apply Aa.AQ;rfl;rfl)|(apply Aa.AV;rfl;rfl;rfl)|(apply Aa.box;rfl;trivial)|(apply Aa.not;rfl)|(apply Ad.Az;rfl)|(apply Ad.Ae;rfl)|(apply Ad.cond_true;rfl)|(intro _;try (exfalso;omega)))
    all_goals first
     |(rw [if_pos (by assumption)];(refine Done.ret rfl (.refl _) (by exact PV.Ac rfl) Ak.nil (Nat.zero_le _) (Nat.le_refl _) ⟨?_,rfl,rfl⟩;try rfl);done)
     |(rw [if_neg (by assumption),if_pos (by omega)];(refine Done.ret rfl (.refl _) (by exact PV.Ac rfl) Ak.nil (Nat.zero_le _) (Nat.le_refl _) ⟨?_,rfl,rfl⟩;try rfl);done)
  ·rw [decide_eq_false a2] at n2
   rw [if_pos (.inr a2)]
   repeat' (first|apply Ad.assoc|apply Ad.AA|apply Ad.BI|apply Af.nil|apply Af.one|(apply Af.take;rfl;rfl)|(apply Aa.fn;rfl;rfl;exact n1;intro _;rfl)|(apply Aa.fn;rfl;rfl;exact n2;intro _;rfl)|(apply Aa.assign;rfl)|(apply Aa.move;rfl)|(apply Aa.load;rfl;rfl)|(apply Aa.AQ;rfl;rfl)|(apply Aa.AV;rfl;rfl;rfl)|(apply Aa.box;rfl;trivial)|(apply Aa.not;rfl)|(apply Ad.Bc;rfl))
   all_goals (refine Done.ret rfl (.refl _) (by exact PV.Ac rfl) Ak.nil (Nat.zero_le _) (Nat.le_refl _) ⟨?_,rfl,rfl⟩;try rfl)
 ·rw [decide_eq_false a1] at n1
  rw [if_pos (.inl a1)]
  repeat' (first|apply Ad.assoc|apply Ad.AA|apply Ad.BI|apply Af.nil|apply Af.one|(apply Af.drop;rfl;rfl;rfl)|(apply Aa.fn;rfl;rfl;exact n1;intro _;rfl)|(apply Aa.assign;rfl)|(apply Aa.move;rfl)|(apply Aa.load;rfl;rfl)|(apply Aa.Bo;rfl;rfl)|(apply Aa.AV;rfl;rfl;rfl)|(apply Aa.box;rfl;trivial)|(apply Aa.not;rfl)|(apply Ad.Bc;rfl))
  all_goals (refine Done.ret rfl (.refl _) (by exact PV.Ac rfl) Ak.nil (Nat.zero_le _) (Nat.le_refl _) ⟨?_,rfl,rfl⟩;try rfl)
end Go.Proofs.YtdabojnmoejilaaGreatDoor
namespace Go.Proofs.YtdabojnmoejilaaGreatDoor
open Go Go.Am Go.Vm
structure dV where
 rank:Int
 shift:Int
instance:Enc dV:={ default:=⟨0,0⟩,enc:=fun x=>[.int .i64 x.rank,.int .i64 x.shift],size:=2,len:=fun _=>rfl }
structure Seg where
 lo:Int
 hi:Int
 draws:List dV
instance:Enc Seg:={ default:=⟨0,0,[]⟩,enc:=fun x=>[.int .i64 x.lo,.int .i64 x.hi,.lst 133 (cells x.draws) x.draws.length],size:=3,len:=fun _=>rfl }
structure Stp where
 name:List UInt8
 Dp:JV
 Ej:List Seg
instance:Enc Stp:={ default:=⟨[],⟨0,0⟩,[]⟩,enc:=fun x=>[.str (bs x.name),.int .i64 x.Dp.num,.int .i64 x.Dp.den,.lst 136 (cells x.Ej) x.Ej.length],size:=4,len:=fun _=>rfl }
structure Ld where
 name:List UInt8
 Dx:Bool
 lo:Int
 hi:Int
 stops:List Stp
instance:Enc Ld:={ default:=⟨[],false,0,0,[]⟩,enc:=fun x=>[.str (bs x.name),.bool x.Dx,.int .i64 x.lo,.int .i64 x.hi,.lst 122 (cells x.stops) x.stops.length],size:=5,len:=fun _=>rfl }
structure Rt where
 name:List UInt8
 Df:Int
 tgt:Int
 shift:Int
 through:Bool
instance:Enc Rt:={ default:=⟨[],0,0,0,false⟩,enc:=fun x=>[.str (bs x.name),.int .i64 x.Df,.int .i64 x.tgt,.int .i64 x.shift,.bool x.through],size:=5,len:=fun _=>rfl }
structure D7 where
 name:List UInt8
 ranks:List Fh
 Ah:List Ld
 CZ:List Rt
instance:Enc D7:={ default:=⟨[],[],[],[]⟩,enc:=fun x=>[.str (bs x.name),.lst 131 (cells x.ranks) x.ranks.length,.lst 97 (cells x.Ah) x.Ah.length,.lst 147 (cells x.CZ) x.CZ.length],size:=4,len:=fun _=>rfl }
structure ZW where
 lo:Int
 hi:Int
instance:Enc ZW:={ default:=⟨0,0⟩,enc:=fun x=>[.int .i64 x.lo,.int .i64 x.hi],size:=2,len:=fun _=>rfl }
noncomputable instance (a b:dV):Decidable (a=b):=Classical.propDecidable _
noncomputable instance (a:dV) (l:List dV):Decidable (a∈l):=Classical.propDecidable _
noncomputable instance (a:List UInt8) (l:List (List UInt8)):Decidable (a∈l):=Classical.propDecidable _
def UH (lo hi:Int):Int:=if lo<0∨hi>127 then 3 else if lo>hi then 23 else 0
noncomputable def Nc (n:Nat) (l:List dV) (k:Nat):Int :=
 if k<l.length then
  if (gi l k).rank<0∨(gi l k).rank≥n then 10 else if (gi l k).shift< -127∨(gi l k).shift>127 then 3 else if gi l k∈l.take k then 9 else Nc n l (k+1)
 else 0
termination_by l.length-k
noncomputable def PI (n:Nat) (l:List dV):Int:=if l.length>8 then 4 else Nc n l 0
noncomputable def JH (n:Nat) (lo hi:Int) (l:List Seg) (k:Nat):Int :=
 if k<l.length then
  if min (gi l k).lo (gi l k).hi<lo∨max (gi l k).lo (gi l k).hi>hi then 23 else if (gi l k).lo>(gi l k).hi∨0<k∧(gi l k).lo≤(gi l (k-1)).hi then 6
  else if PI n (gi l k).draws≠0 then PI n (gi l k).draws else JH n lo hi l (k+1)
 else 0
termination_by l.length-k
noncomputable def uS (n:Nat) (lo hi:Int) (s:Stp):Int :=
 if ¬ Di s.name then 8 else if OL s.Dp≠0 then OL s.Dp else if s.Ej.length=0 then 13 else if s.Ej.length>12 then 4 else JH n lo hi s.Ej 0
noncomputable def Xa (l:List Fh) (k:Nat):Int :=
 if k<l.length then if DW (gi l k)≠0 then DW (gi l k) else Xa l (k+1) else 0
termination_by l.length-k
noncomputable def dW (l:List Fh) (lo hi:Int):Int:=if l.length>60 then 4 else if Xa l 0≠0 then Xa l 0 else UH lo hi
noncomputable def Je (rk:List Fh) (lo hi:Int) (s:Stp):Int:=if dW rk lo hi≠0 then dW rk lo hi else uS rk.length lo hi s
noncomputable def OT (l:List Fh) (k:Nat):Int :=
 if k<l.length then if DW (gi l k)≠0 then DW (gi l k) else if (gi l k).name∈(l.take k).map Fh.name then 9 else OT l (k+1) else 0
termination_by l.length-k
noncomputable def Nj (rk:List Fh) (lo hi:Int) (l:List Stp) (k:Nat):Int :=
 if k<l.length then if Je rk lo hi (gi l k)≠0 then Je rk lo hi (gi l k) else if (gi l k).name∈(l.take k).map Stp.name then 9 else Nj rk lo hi l (k+1) else 0
termination_by l.length-k
noncomputable def Kz (rk:List Fh) (d:Ld):Int:=if UH d.lo d.hi≠0 then UH d.lo d.hi else if d.stops.length>60 then 4 else Nj rk d.lo d.hi d.stops 0
noncomputable def Gt (rk:List Fh) (l:List Ld) (k:Nat):Int :=
 if k<l.length then if ¬ Di (gi l k).name then 8 else if (gi l k).name∈(l.take k).map Ld.name then 9 else if Kz rk (gi l k)≠0 then Kz rk (gi l k) else Gt rk l (k+1) else 0
termination_by l.length-k
noncomputable def Uu (n:Nat) (l:List Rt) (k:Nat):Int :=
 if k<l.length then
  if ¬ Di (gi l k).name then 8 else if (gi l k).name∈(l.take k).map Rt.name then 9
  else if (gi l k).Df<0∨(gi l k).Df≥n∨(gi l k).tgt<0∨(gi l k).tgt≥n then 10
  else if (gi l k).shift< -127∨(gi l k).shift>127 then 3 else if (gi l k).Df=(gi l k).tgt∧(gi l k).shift=0 then 7 else Uu n l (k+1)
 else 0
termination_by l.length-k
noncomputable def Qx (l:List ZW) (k:Nat):Int:=if k<l.length then if UH (gi l k).lo (gi l k).hi≠0 then 23 else Qx l (k+1) else 0
termination_by l.length-k
noncomputable def QO (ks:List ZW) (l:List Rt):Int:=if ks.length>8∨l.length>40 then 4 else if Qx ks 0≠0 then Qx ks 0 else Uu ks.length l 0
noncomputable def Jy (o:D7):Int :=
 if ¬ Di o.name then 8 else if o.ranks.length>60 then 4 else if OT o.ranks 0≠0 then OT o.ranks 0 else if o.Ah.length=0 then 13 else if o.Ah.length>8 then 4
 else if Gt o.ranks o.Ah 0≠0 then Gt o.ranks o.Ah 0 else QO (o.Ah.map fun d=>⟨d.lo,d.hi⟩) o.CZ
structure a4l (x:Seg):Prop where
 draws:x.draws.length<1000000
structure Yu (x:Stp):Prop where
 name:x.name.length<1000000
 Ej:x.Ej.length<1000000
 all:∀ i,i<x.Ej.length→a4l (gi x.Ej i)
structure LM (x:Ld):Prop where
 name:x.name.length<1000000
 stops:x.stops.length<1000000
 all:∀ i,i<x.stops.length→Yu (gi x.stops i)
structure Qe (r:Fh):Prop where
 name:r.name.length<1000000
 Ep:r.Ep.length<1000000
 Ez:r.Ez.length<1000000
structure GR (o:D7):Prop where
 name:o.name.length<1000000
 ranks:o.ranks.length<1000000
 Ah:o.Ah.length<1000000
 CZ:o.CZ.length<1000000
 rk:∀ i,i<o.ranks.length→Qe (gi o.ranks i)
 dv:∀ i,i<o.Ah.length→LM (gi o.Ah i)
 cp:∀ i,i<o.CZ.length→(gi o.CZ i).name.length<1000000
theorem Qe.len {r:Fh} (h:Qe r):r.name.length<9223372036854775808∧r.Ep.length<9223372036854775808∧r.Ez.length<9223372036854775808:=⟨by have:=h.name;omega,by have:=h.Ep;omega,by have:=h.Ez;omega⟩
end Go.Proofs.YtdabojnmoejilaaGreatDoor
namespace Go.Proofs.YtdabojnmoejilaaGreatDoor
open Go Go.Am Go.Vm
theorem XQ {l:List Fh} (h:∀ i,i<l.length→DW (gi l i)=0):∀ n k,l.length-k=n→Xa l k=0
 |0,k,hk=>by rw [Xa,if_neg (by omega)]
 |n+1,k,hk=>by
  rw [Xa,if_pos (by omega),if_neg (fun h'=>h' (h k (by omega)))]
  exact XQ h n (k+1) (by omega)
theorem Ya {l:List Fh} (h:∀ i,i<l.length→DW (gi l i)=0∧(gi l i).name∉(l.take i).map Fh.name):∀ n k,l.length-k=n→OT l k=0
 |0,k,hk=>by rw [OT,if_neg (by omega)]
 |n+1,k,hk=>by
  obtain ⟨h1,h2⟩:=h k (by omega)
  rw [OT,if_pos (by omega),if_neg (fun h'=>h' h1),if_neg h2]
  exact Ya h n (k+1) (by omega)
theorem VN {rk:List Fh} {lo hi:Int} {l:List Stp} (h:∀ i,i<l.length→Je rk lo hi (gi l i)=0∧(gi l i).name∉(l.take i).map Stp.name):∀ n k,l.length-k=n→Nj rk lo hi l k=0
 |0,k,hk=>by rw [Nj,if_neg (by omega)]
 |n+1,k,hk=>by
  obtain ⟨h1,h2⟩:=h k (by omega)
  rw [Nj,if_pos (by omega),if_neg (fun h'=>h' h1),if_neg h2]
  exact VN h n (k+1) (by omega)
theorem Xf {rk:List Fh} {l:List Ld} (h:∀ i,i<l.length→Di (gi l i).name∧(gi l i).name∉(l.take i).map Ld.name∧Kz rk (gi l i)=0):∀ n k,l.length-k=n→Gt rk l k=0
 |0,k,hk=>by rw [Gt,if_neg (by omega)]
 |n+1,k,hk=>by
  obtain ⟨h1,h2,h3⟩:=h k (by omega)
  rw [Gt,if_pos (by omega),if_neg (fun h'=>h' h1),if_neg h2,if_neg (fun h'=>h' h3)]
  exact Xf h n (k+1) (by omega)
theorem YA {l:List ZW} (h:∀ i,i<l.length→UH (gi l i).lo (gi l i).hi=0):∀ n k,l.length-k=n→Qx l k=0
 |0,k,hk=>by rw [Qx,if_neg (by omega)]
 |n+1,k,hk=>by
  rw [Qx,if_pos (by omega),if_neg (fun h'=>h' (h k (by omega)))]
  exact YA h n (k+1) (by omega)
structure a0l (n:Nat) (c:Rt):Prop where
 name:Di c.name
 Df:0≤c.Df∧c.Df<n
 tgt:0≤c.tgt∧c.tgt<n
 shift:-127≤c.shift∧c.shift≤127
 form:¬ (c.Df=c.tgt∧c.shift=0)
structure Ud (n:Nat) (d:dV):Prop where
 rank:0≤d.rank∧d.rank<n
 shift:-127≤d.shift∧d.shift≤127
theorem Pz {m:Nat} {l:List dV} (h:∀ i,i<l.length→Ud m (gi l i)∧gi l i∉l.take i):∀ n k,l.length-k=n→Nc m l k=0
 |0,k,hk=>by rw [Nc,if_neg (by omega)]
 |n+1,k,hk=>by
  obtain ⟨⟨h1,h2⟩,h3⟩:=h k (by omega)
  rw [Nc,if_pos (by omega),if_neg (by omega),if_neg (by omega),if_neg h3]
  exact Pz h n (k+1) (by omega)
theorem Ie {m:Nat} {d:dV} (h:Ud m d):PI m [d]=0:=by
 unfold PI
 rw [if_neg (by simp)]
 exact Pz (fun i hi=>by
  obtain rfl:i=0:=by simp at hi;omega
  exact ⟨h,by simp⟩) _ 0 rfl
theorem wI {m:Nat} {d e:dV} (h:Ud m d) (h':Ud m e) (hn:e≠d):PI m [d,e]=0:=by
 unfold PI
 rw [if_neg (by simp)]
 refine Pz (fun i hi=>?_) _ 0 rfl
 have:i=0∨i=1:=by simp at hi;omega
 rcases this with rfl|rfl
 ·exact ⟨h,by simp⟩
 ·exact ⟨h',by simpa [gi] using hn⟩
theorem Tc {lo hi:Int} (h:0≤lo∧lo≤hi∧hi≤127):UH lo hi=0:=by
 unfold UH
 rw [if_neg (by omega),if_neg (by omega)]
theorem YG {l:List Fh} {lo hi:Int} (h:∀ i,i<l.length→DW (gi l i)=0) (hl:l.length≤60) (hc:0≤lo∧lo≤hi∧hi≤127):dW l lo hi=0:=by
 unfold dW
 rw [if_neg (by omega),if_neg (fun h'=>h' (XQ h _ 0 rfl)),Tc hc]
structure a4v (n:Nat) (lo hi:Int) (g:Seg):Prop where
 pl:lo≤g.lo∧g.lo≤g.hi∧g.hi≤hi
 draws:PI n g.draws=0
theorem Qa {m:Nat} {lo hi:Int} {l:List Seg} (h:∀ i,i<l.length→a4v m lo hi (gi l i)∧(0<i→(gi l (i-1)).hi<(gi l i).lo)):∀ n k,l.length-k=n→JH m lo hi l k=0
 |0,k,hk=>by rw [JH,if_neg (by omega)]
 |n+1,k,hk=>by
  obtain ⟨⟨h1,h2⟩,h3⟩:=h k (by omega)
  rw [JH,if_pos (by omega),if_neg (by omega),if_neg (fun h'=>by
   rcases h' with h'|⟨h4,h5⟩
   ·omega
   ·have:=h3 h4;omega),if_neg (fun h'=>h' h2)]
  exact Qa h n (k+1) (by omega)
theorem JG {n:Nat} {lo hi:Int} {s:Seg} (h1:lo≤s.lo∧s.lo≤s.hi∧s.hi≤hi) (h2:PI n s.draws=0):JH n lo hi [s] 0=0 :=
 Qa (fun i hi=>by
  obtain rfl:i=0:=by simp at hi;omega
  exact ⟨⟨h1,h2⟩,fun h=>by omega⟩) _ 0 rfl
theorem Yo {n:Nat} {lo hi:Int} {s t:Seg} (h1:lo≤s.lo∧s.lo≤s.hi∧s.hi<t.lo∧t.lo≤t.hi∧t.hi≤hi) (h2:PI n s.draws=0) (h3:PI n t.draws=0):JH n lo hi [s,t] 0=0 :=
 Qa (fun i hi=>by
  have:i=0∨i=1:=by simp at hi;omega
  rcases this with rfl|rfl
  ·exact ⟨⟨⟨h1.1,h1.2.1,show s.hi≤_ by omega⟩,h2⟩,fun h=>by omega⟩
  ·exact ⟨⟨⟨show lo≤t.lo by omega,h1.2.2.2⟩,h3⟩,fun _=>h1.2.2.1⟩) _ 0 rfl
def Mc (c:UInt8) (i:Int):List UInt8:=[c,UInt8.ofNat (48+i).toNat]
theorem yc {c:UInt8} {i j:Nat} (hi:i<10) (hj:j<10) (h:Mc c i=Mc c j):i=j:=by
 simp only [Mc,List.cons.injEq,and_true,true_and] at h
 have:=congrArg UInt8.toNat h
 rw [UInt8.toNat_ofNat',UInt8.toNat_ofNat'] at this
 omega
theorem YO {c:UInt8} (hc:aj c.toNat) {i:Nat} (hi:i<10):Di (Mc c i):=by
 refine ⟨by simp [Mc],by simp [Mc],hc,fun j h1 h2=>?_⟩
 obtain rfl:j=1:=by simp [Mc] at h2;omega
 have e:(gi (Mc c i) 1).toNat=48+i:=by
  show (UInt8.ofNat (48+(i:Int)).toNat).toNat=_
  rw [UInt8.toNat_ofNat'];omega
 rw [e]
 right;left;omega
theorem wR {α:Type} [Inhabited α] {f:α→List UInt8} {c:UInt8} {l:List α} (hl:l.length≤10) (h:∀ i,i<l.length→f (gi l i)=Mc c i) {k:Nat} (hk:k<l.length):f (gi l k)∉(l.take k).map f:=by
 intro hm
 rw [List.mem_map] at hm
 obtain ⟨a,ha,he⟩:=hm
 obtain ⟨j,hj,e⟩:=List.getElem_of_mem ha
 rw [List.length_take] at hj
 have e2:a=gi l j:=by
  rw [← e,List.getElem_take]
  simp [gi,List.getElem?_eq_getElem (show j<l.length by omega)]
 rw [e2,h j (by omega),h k hk] at he
 have:=yc (by omega) (by omega) he
 omega
end Go.Proofs.YtdabojnmoejilaaGreatDoor
namespace Go.Proofs.YtdabojnmoejilaaGreatDoor
open Go Go.Am Go.Vm
attribute [local irreducible] Aa Af Aq Ad BF AX Ci AU AO Aw Vm.Done CS Bq YP
theorem Y2 (a b:List Int) (h0:0<a.length+b.length) (h1:a.length+b.length≤1000) :
 Ci env 102 [.lst 52 [.lst 3 (cells a) a.length,.lst 3 (cells b) b.length] 2] 3 (cells (a++b)) (a.length+b.length) false:=by
 have hg:=xu (a.length+b.length) h0 (by omega)
 rw [show ((a.length+b.length:Nat):Int)=0+(a.length:Int)+(b.length:Int) by omega] at hg
 refine Ci.enter (AB (by decide)) Tryz.func102 rfl (by kernel_rfl) (by simp [Tryz.ntmps102]) ?_
 repeat' (first|apply Ad.assoc|apply Ad.AA|apply Ad.Ai|apply Af.nil|apply Af.one|(apply Aa.assign;rfl)|(apply Aa.move;rfl)|(apply Aa.BQ;rfl;rfl))
 refine Ad.kZ 2 ?_
 repeat' (first|apply Ad.assoc|apply Ad.AA|apply Ad.region|apply Ad.Ar|apply Ad.A8|apply Ad.Ai|apply AU.normal|apply AO.normal|apply AO.exit|apply Aw.exit|apply Ad.skip|apply Af.nil|apply Af.one|(apply Aa.fv;rfl;rfl;exact hg)|(apply YP.zero)|(apply YP.succ)|(apply Aw.again)|(apply Aa.Sj;rfl;rfl;rfl;decide;decide)|(apply Aa.assign;rfl)|(apply Aa.move;rfl)|(apply Aa.Bz;rfl;rfl;omega)|(apply Aa.int;rfl;rfl;rfl)|(apply Aa.load;rfl;rfl)|(apply Aa.BQ;rfl;rfl)|(apply Ad.Bc;rfl)|(apply Ad.Az;rfl)|(apply Ad.cond_false;rfl))
 refine Ad.kZ 2 ?_
 repeat' (first|apply Ad.AA|apply Ad.region|apply Ad.Ar|apply Ad.A8|apply Ad.Ai|apply AU.normal|apply AO.normal|apply AO.exit|apply Aw.exit|apply Ad.ret|apply Af.nil|apply Af.one|(apply YP.zero)|(apply YP.succ)|(apply Aw.again)|(apply Aa.Sj;rfl;rfl;rfl;decide;decide)|(apply Aa.QZ (l:=a) (r:=b);rfl;rfl;rfl;rfl;rfl;rfl;rfl;(intro _ h;cases h);rfl;rfl;rfl;decide;decide;omega)|(apply Aa.DC (r:=a);rfl;rfl;rfl;rfl;rfl;rfl;(intro _ h;cases h);rfl;rfl;rfl;decide;decide;omega)|(apply Aa.assign;rfl)|(apply Aa.move;rfl)|(apply Aa.Bz;rfl;rfl;omega)|(apply Aa.int;rfl;rfl;rfl)|(apply Aa.load;rfl;rfl)|(apply Ad.Bc;rfl)|(apply Ad.Az;rfl))
 exact CS.ret rfl rfl rfl rfl
end Go.Proofs.YtdabojnmoejilaaGreatDoor
namespace Go.Proofs.YtdabojnmoejilaaGreatDoor
open Go Go.Am Go.Vm
attribute [local irreducible] Aa Af Aq Ad BF AX Ci AU AO Aw Vm.Done CS Bq
attribute [local irreducible] DW DN uf Dc
def a9c (r:Fh):Prop:=r.name.length<9223372036854775808∧r.Ep.length<9223372036854775808∧r.Ez.length<9223372036854775808
noncomputable def UM (r:Fh) (n:Int):Int:=if DW r≠0 then DW r else if n<0∨n≥r.Ez.length then 10 else 0
def JI:FV:=.agg [.str ⟨#[]⟩,.str ⟨#[]⟩,.int .i64 0,.int .i64 0,.int .i64 0,.val (.slice none 0 0)]
def yE (r:Fh) (n:Int) (w:List Int):FV×Int:=if w.length>128 then (JI,4) else if ¬ Oh n then (JI,3) else (.agg (Enc.enc { r with first:=n,Ez:=w }),0)
noncomputable def a8u (r:Fh) (k:Int):Int×Bool×Int:=if UM r k≠0 then (0,false,UM r k) else if (Dc r.Dp ⟨8,1⟩).2≠0∨r.first+k+(Dc r.Dp ⟨8,1⟩).1<0∨r.first+k+(Dc r.Dp ⟨8,1⟩).1>127 then (0,false,(Dc r.Dp ⟨8,1⟩).2) else (r.first+k+(Dc r.Dp ⟨8,1⟩).1,true,0)
end Go.Proofs.YtdabojnmoejilaaGreatDoor
namespace Go.Proofs.YtdabojnmoejilaaGreatDoor
open Go Go.Am Go.Vm
attribute [local irreducible] Aa Af Aq Ad BF AX Ci AU AO Aw Vm.Done CS Bq
attribute [local irreducible] DW DN uf Dc
noncomputable def a8l (r:Fh) (n:Int):Int×Bool×Int:=if DW r≠0 then (0,false,DW r) else if n<r.first∨n≥r.first+r.Ez.length then (0,false,0) else (n-r.first,true,0)
noncomputable def a7c (r:Fh) (w:List Int):FV×Int:=if DW r≠0 then (JI,DW r) else if DN w≠0 then (JI,DN w) else yE r (r.first-w.length) (w++r.Ez)
noncomputable def a6k (r:Fh) (f:JV):FV×Int:=if DW r≠0 then (JI,DW r) else if (Dc f r.Dp).2≠0 then (JI,(Dc f r.Dp).2) else if Oh (r.first-(Dc f r.Dp).1) then (.agg (Enc.enc { r with first:=r.first-(Dc f r.Dp).1,Dp:=f }),0) else (JI,3)
end Go.Proofs.YtdabojnmoejilaaGreatDoor
namespace Go.Proofs.YtdabojnmoejilaaGreatDoor
open Go Go.Am Go.Vm
attribute [local irreducible] Aa Af Aq Ad BF AX Ci AU AO Aw Vm.Done CS Bq
attribute [local irreducible] DW DN uf Dc UM
noncomputable def b1l (r:Fh) (n:Int):Int×Int:=if UM r n≠0 then (0,UM r n) else (r.first+n,0)
noncomputable def b1x (r:Fh) (n:Int):Int×Int:=if UM r n≠0 then (0,UM r n) else (gi r.Ez n.toNat,0)
noncomputable def b0l (r:Fh) (w:List Int):FV×Int:=if DW r≠0 then (JI,DW r) else if DN w≠0 then (JI,DN w) else yE r r.first (r.Ez++w)
end Go.Proofs.YtdabojnmoejilaaGreatDoor
namespace Go.Proofs.YtdabojnmoejilaaGreatDoor
open Go Go.Am Go.Vm
attribute [local irreducible] Aa Af Aq Ad BF AX Ci AU AO Aw Vm.Done CS Bq
attribute [local irreducible] DW DN uf Dc UM
def a3v (l:List Int):Nat→Int
 |0=>0
 |k+1=>a3v l k+gi l k
noncomputable def b2i (r:Fh):Int×Int:=if DW r≠0 then (0,DW r) else (a3v r.Ez r.Ez.length,0)
def Pg:List JV:=[⟨8,1⟩,⟨4,1⟩,⟨16,1⟩,⟨2,1⟩,⟨8,3⟩,⟨8,5⟩,⟨4,3⟩,⟨1,1⟩,⟨32,1⟩,⟨16,3⟩,⟨16,5⟩,⟨32,3⟩,⟨8,7⟩,⟨2,3⟩,⟨1,2⟩,⟨64,1⟩]
theorem ql (n:Nat) (hn:n<256):AX env 83 [.int .u8 (n:Int)] (.p (.agg (Enc.enc (gi Pg (n % 16))))):=by
 refine AX.enter (AB (by decide)) Tryz.func83 rfl (by kernel_rfl) (by simp [Tryz.ntmps83]) ?_
 have hlt:n % 16<16:=Nat.mod_lt _ (by decide)
 repeat' (first|(refine Af.He 22 ?_;refine Af.ghost (AL.freeze 19 rfl rfl) ?_)|apply Ad.AA|apply Ad.ret|apply Af.nil|apply Af.one|(apply Aa.Ba (l:=Pg) (i:=n % 16);rfl;rfl;rfl;exact hlt;rfl)|(apply Aa.move;rfl)|(apply Aa.FX;rfl;rfl;omega;omega)|(apply Aa.load;rfl;rfl)|(apply Aa.alloc;rfl)|(apply Aa.Bd;rfl;rfl;rfl;trivial;rfl;rfl;exact Aj rfl;exact le_dec rfl)|(apply Aa.build;rfl;rfl;rfl;rfl;rfl)|(apply Aa.buildSlice;rfl;rfl;rfl;decide;rfl;rfl;rfl))
 all_goals (refine Done.ret rfl (.refl _) (by exact PV.Ac rfl) Ak.nil (Nat.zero_le _) (Nat.le_refl _) ⟨?_,rfl,rfl⟩;try rfl)
end Go.Proofs.YtdabojnmoejilaaGreatDoor
namespace Go.Proofs.YtdabojnmoejilaaGreatDoor
open Go Go.Am Go.Vm
attribute [local irreducible] Aa Af Aq Ad BF AX Ci AU AO Aw Vm.Done CS Bq
theorem fZ {r:Fh} (h1:Di r.name) (h2:Di r.Ep) (h3:qo r.Dp) (h4:-256≤r.first∧r.first≤256) (h5:0<r.Ez.length∧r.Ez.length≤128) (h6:okW r.Ez):DW r=0:=by
 unfold DW
 rw [if_neg (fun h=>h.elim (fun h=>h h1) (fun h=>h h2)),if_neg (fun h=>h (Om.2 h3)),if_neg (by omega),if_neg (by omega),if_neg (by omega)]
 exact if_pos h6
theorem nV:Di [79,112,101,110]:=by
 refine ⟨by decide,by decide,by decide,fun i h1 h2=>?_⟩
 have:i=1∨i=2∨i=3:=by simp at h2;omega
 rcases this with rfl|rfl|rfl<;>exact .inl (by decide)
def b0n (f first:Int) (n:Nat):Fh:=⟨[82,111,119],[79,112,101,110],⟨f,1⟩,first,List.replicate n 1⟩
def a6n:Fh:=⟨[82,111,119],[79,112,101,110],⟨8,1⟩,24,List.replicate 12 0++List.replicate 61 1⟩
attribute [local irreducible] DW DN uf Dc UM a8l a8u a7c a6k
end Go.Proofs.YtdabojnmoejilaaGreatDoor
namespace Go.Proofs.YtdabojnmoejilaaGreatDoor
open Go Go.Am Go.Vm
attribute [local irreducible] Aa Af Aq Ad BF AX Ci AU AO Aw Vm.Done CS Bq
instance encStr:Enc (List UInt8):={ default:=[],enc:=fun s=>[.str (bs s)],size:=1,len:=fun _=>rfl }
structure F7 where
 Ep:Nat
 Dp:Nat
 first:Int
 pipes:Nat
 Ez:List Nat
def F7.enc (x:F7):List FV:=[.int .u8 (x.Ep:Int),.int .u8 (x.Dp:Int),.int .i8 x.first,.int .u8 (x.pipes:Int),.int .u8 ((gi x.Ez 0:Nat):Int),.int .u8 ((gi x.Ez 1:Nat):Int),.int .u8 ((gi x.Ez 2:Nat):Int),.int .u8 ((gi x.Ez 3:Nat):Int),.int .u8 ((gi x.Ez 4:Nat):Int)]
structure F7.Ok (x:F7):Prop where
 Ep:x.Ep<256
 Dp:x.Dp<256
 first:-128≤x.first∧x.first≤127
 pipes:x.pipes<256
 Ez:∀ i,gi x.Ez i<256
def N7:List (List UInt8):=[[79,112,101,110],[70,108,117,116,101],[82,101,101,100]]
def Ic (x:F7):Nat→List Int
 |0=>[]
 |k+1=>Ic x k++[((gi x.Ez (k % 5):Nat):Int)]
theorem FM (x:F7):∀ k,(Ic x k).length=k
 |0=>rfl
 |k+1=>by simp [Ic,FM x k]
def Sv (x:F7) (i:Int):Fh:=⟨[82,UInt8.ofNat (48+i % 10).toNat],gi N7 (x.Ep % 3),gi Pg (x.Dp % 16),x.first,Ic x (1+x.pipes % 25)⟩
theorem pJ (x:F7) (hx:x.Ok) (i:Int) (hi:0≤i∧i≤1000):AX env 55 [.agg x.enc,.int .i64 i] (.p (.agg (Enc.enc (Sv x i)))):=by
 obtain ⟨h1,h2,h3,h4,h5⟩:=hx
 have hf:=ql x.Dp h2
 have hlt:x.Ep % 3<3:=Nat.mod_lt _ (by decide)
 refine AX.enter (AB (by decide)) Tryz.func55 rfl (by kernel_rfl) (by simp [Tryz.ntmps55]) ?_
 repeat' (first|(refine Aq.He 18 ?_;refine Aq.ghost (AL.freeze 14 rfl rfl) ?_)|apply Ad.assoc|apply Ad.AA|apply Ad.Bj|apply Ad.Ai|apply Af.nil|apply Aq.nil|apply Af.one|(apply Aq.bar;decide +kernel)|apply Aq.quiet|(apply Aa.fn;rfl;rfl;exact hf;intro _;rfl)|(apply Aa.Gq;rfl;rfl;rfl;rfl;rfl;omega)|(apply Aa.Ba (l:=N7) (i:=x.Ep % 3);rfl;rfl;rfl;exact hlt;rfl)|(apply Aa.assign;rfl)|(apply Aa.move;rfl)|(apply Aa.Bz;rfl;rfl;omega)|(apply Aa.FX;rfl;rfl;omega;omega)|(apply Aa.load;rfl;rfl)|(apply Aa.AV;rfl;rfl;rfl)|(apply Aa.box;rfl;trivial)|(apply Aa.alloc;rfl)|(apply Aa.Bd;rfl;rfl;rfl;trivial;rfl;rfl;exact Aj rfl;exact le_dec rfl)|(apply Aa.build;rfl;rfl;rfl;rfl;rfl)|(apply Aa.buildSlice;rfl;rfl;rfl;decide;rfl;rfl;rfl)|(apply Aa.PN;rfl;rfl;(first|omega|(simp only [List.length_take,List.length_drop,List.length_append,List.length_singleton,List.length_cons,List.length_nil]<;>omega)))|(apply Aa.DZ;rfl;rfl;rfl;rfl;omega)|(apply Aa.Jt;rfl;rfl;rfl;rfl;omega))
 refine Ad.ghost (AL.EL 4 5 3 rfl rfl) ?_
 refine Ad.Ee (fun k:Nat=>[(2,.ref 0 0),(4,.ref 1 0),(5,.ref 4 0),(6,.p (.int .i64 (k:Int)))]) (fun k=>[(5,.vec 3 (cells (Ic x k)) (Ic x k).length true),(4,.box 131 [.p (.str (bs [82,UInt8.ofNat (48+i % 10).toNat])),.p (.str (bs (gi N7 (x.Ep % 3)))),.p (.int .i64 (gi Pg (x.Dp % 16)).num),.p (.int .i64 (gi Pg (x.Dp % 16)).den),.p (.int .i64 x.first),.vec 5 (Ic x k).length 0 (Ic x k).length]),(1,.box 131 [.p (.str ⟨#[]⟩),.p (.str ⟨#[]⟩),.p (.int .i64 0),.p (.int .i64 0),.p (.int .i64 0),.p (.val (.slice none 0 0))]),(0,.box 150 (x.enc.map .p))]) 6 (fun k=>k≤1+x.pipes % 25) (fun k=>1+x.pipes % 25-k) 0 (by omega) (by omega) ⟨by omega,?_,?_⟩ ?_
 ·repeat (first|exact Ap.nil|refine Ap.same (by exact PV.Ac rfl) rfl ?_|refine Ap.cons trivial rfl (.of_eq (Au (by simp<;>omega))) ?_)
 ·repeat (first|exact Ak.nil|(refine Ak.cons (Aj rfl) ?_ rfl ?_ ?_;(first|exact trivial|exact AZ.Ag _ _|(simp [HB.under,AZ.under,PV.under]));(first|exact Bv.refl _|exact Bv.vec (Bl.refl _) (by simp))))
 intro k hk
 have hl:=FM x k
 have hw:=h5 (k % 5)
 have e1:Ic x (k+1)=Ic x k++[((gi x.Ez (k % 5):Nat):Int)]:=rfl
 have e2:(Ic x (k+1)).length=(Ic x k).length+1:=by rw [e1];simp
 have hr:(x.enc.map PV.p)[4+((k:Int) % 5).toNat*1]?=some (.p (.int .u8 ((gi x.Ez (k % 5):Nat):Int))):=by
  have e0:((k:Int) % 5).toNat=k % 5:=by omega
  rw [e0]
  have:k % 5<5:=Nat.mod_lt _ (by decide)
  generalize k % 5=n at this
  match n,this with
  |0,_=>rfl
  |1,_=>rfl
  |2,_=>rfl
  |3,_=>rfl
  |4,_=>rfl
 repeat' (first|(refine Ad.at 6 ?_;refine Ad.ghost (AL.AP 4 5 rfl rfl rfl) ?_;first|apply Ad.AA|apply Ad.Bj)|apply Ad.assoc|apply Ad.AA|apply Ad.region|apply Ad.Fq|apply Ad.Ar|apply Ad.A8|apply Ad.Ai|apply AU.normal|apply AO.normal|apply AO.exit|apply Aw.exit|apply Ad.ret|apply Af.nil|apply Aq.nil|apply Af.one|(apply Aq.bar;decide +kernel)|apply Aq.quiet|(apply Aa.a0w;rfl;rfl;rfl;exact hr)|(apply Aa.MW;rfl;rfl;rfl;rfl;rfl;omega)|(apply Aa.assign;rfl)|(apply Aa.move;rfl)|(apply Aa.Bz;rfl;rfl;omega)|(apply Aa.FX;rfl;rfl;omega;omega)|(apply Aa.int;rfl;rfl;rfl)|(apply Aa.load;rfl;rfl)|(apply Aa.AV;rfl;rfl;rfl)|(apply Aa.Bd;rfl;rfl;rfl;trivial;rfl;rfl;exact Aj rfl;exact le_dec rfl)|(apply Aa.buildSlice;rfl;rfl;rfl;decide;rfl;rfl;rfl)|(apply Aa.DZ;rfl;rfl;rfl;rfl;omega)|(apply Aa.Dv;rfl;rfl;rfl;rfl;rfl;rfl;rfl;rfl;(intro _ h;cases h);rfl;rfl;rfl;decide;decide;(first|omega|(simp only [List.length_take,List.length_drop,List.length_append,List.length_singleton,List.length_cons,List.length_nil]<;>omega)))|(apply Ad.Ae;rfl)|(intro _;try (exfalso;omega)))
 ·refine Aw.normal ⟨k+1,by omega,by omega,⟨by omega,?_,?_⟩⟩
  ·repeat (first|exact Ap.nil|refine Ap.same (by exact PV.Ac rfl) rfl ?_|refine Ap.cons trivial rfl (.of_eq (Au (by simp<;>omega))) ?_)
  ·rw [e2,e1];repeat (first|exact Ak.nil|(refine Ak.cons (Aj rfl) ?_ rfl ?_ ?_;(first|exact trivial|exact AZ.Ag _ _|(simp [HB.under,AZ.under,PV.under]));(first|exact Bv.refl _|exact Bv.vec (Bl.refl _) (by simp))))
 ·obtain rfl:k=1+x.pipes % 25:=by omega
  refine Done.ret rfl (.refl _) (by exact PV.Ac rfl) Ak.nil (Nat.zero_le _) (Nat.le_refl _) ⟨?_,rfl,rfl⟩
  rfl
end Go.Proofs.YtdabojnmoejilaaGreatDoor
namespace Go.Proofs.YtdabojnmoejilaaGreatDoor
open Go Go.Am Go.Vm
attribute [local irreducible] Aa Af Aq Ad BF AX Ci AU AO Aw Vm.Done CS Bq
structure nJ where
 rank:Nat
 Dp:Nat
 kind:Nat
 at_:Nat
instance:Enc nJ:={ default:=⟨0,0,0,0⟩,enc:=fun x=>[.int .u8 (x.rank:Int),.int .u8 (x.Dp:Int),.int .u8 (x.kind:Int),.int .u8 (x.at_:Int)],size:=4,len:=fun _=>rfl }
structure nJ.Ok (x:nJ):Prop where
 rank:x.rank<256
 Dp:x.Dp<256
 kind:x.kind<256
 at_:x.at_<256
structure qj where
 low:Nat
 keys:Nat
 Dx:Bool
 stops:List nJ
instance:Enc qj:={ default:=⟨0,0,false,[]⟩,enc:=fun x=>[.int .u8 (x.low:Int),.int .u8 (x.keys:Int),.bool x.Dx,.lst 72 (cells x.stops) x.stops.length],size:=4,len:=fun _=>rfl }
structure qj.Ok (x:qj):Prop where
 low:x.low<256
 keys:x.keys<256
 stops:x.stops.length<9223372036854775808
 all:∀ i,i<x.stops.length→(gi x.stops i).Ok
structure wM where
 Df:Nat
 tgt:Nat
 shift:Int
 through:Bool
instance:Enc wM:={ default:=⟨0,0,0,false⟩,enc:=fun x=>[.int .u8 (x.Df:Int),.int .u8 (x.tgt:Int),.int .i8 x.shift,.bool x.through],size:=4,len:=fun _=>rfl }
structure wM.Ok (x:wM):Prop where
 Df:x.Df<256
 tgt:x.tgt<256
 shift:-128≤x.shift∧x.shift≤127
instance a3o:Enc F7:={ default:=⟨0,0,0,0,[]⟩,enc:=F7.enc,size:=9,len:=fun _=>rfl }
structure oJ where
 ranks:List F7
 Ah:List qj
 links:List wM
def oJ.enc (x:oJ):List FV:=[.lst 150 (cells x.ranks) x.ranks.length,.lst 75 (cells x.Ah) x.Ah.length,.lst 153 (cells x.links) x.links.length]
structure oJ.Ok (x:oJ):Prop where
 ranks:∀ i,i<x.ranks.length→(gi x.ranks i).Ok
 Ah:∀ i,i<x.Ah.length→(gi x.Ah i).Ok
 links:∀ i,i<x.links.length→(gi x.links i).Ok
 nr:x.ranks.length<9223372036854775808
 nd:x.Ah.length<9223372036854775808
 nl:x.links.length<9223372036854775808
def O8:List JV:=[⟨8,1⟩,⟨4,1⟩,⟨16,1⟩,⟨8,3⟩,⟨2,1⟩,⟨8,5⟩]
theorem gU (n:Nat) (hn:n<256):AX env 84 [.int .u8 (n:Int)] (.p (.agg (Enc.enc (gi O8 (n % 6))))):=by
 refine AX.enter (AB (by decide)) Tryz.func84 rfl (by kernel_rfl) (by simp [Tryz.ntmps84]) ?_
 have hlt:n % 6<6:=Nat.mod_lt _ (by decide)
 repeat' (first|(refine Af.He 12 ?_;refine Af.ghost (AL.freeze 9 rfl rfl) ?_)|apply Ad.AA|apply Ad.ret|apply Af.nil|apply Af.one|(apply Aa.Ba (l:=O8) (i:=n % 6);rfl;rfl;rfl;exact hlt;rfl)|(apply Aa.move;rfl)|(apply Aa.FX;rfl;rfl;omega;omega)|(apply Aa.load;rfl;rfl)|(apply Aa.alloc;rfl)|(apply Aa.Bd;rfl;rfl;rfl;trivial;rfl;rfl;exact Aj rfl;exact le_dec rfl)|(apply Aa.build;rfl;rfl;rfl;rfl;rfl)|(apply Aa.buildSlice;rfl;rfl;rfl;decide;rfl;rfl;rfl))
 all_goals (refine Done.ret rfl (.refl _) (by exact PV.Ac rfl) Ak.nil (Nat.zero_le _) (Nat.le_refl _) ⟨?_,rfl,rfl⟩;try rfl)
theorem wY:∀ n,n<6→qo (gi O8 n):=by decide +kernel
theorem tK:∀ a,a<6→∀ b,b<16→(Dc (gi O8 a) (gi Pg b)).2=0∧-100≤(Dc (gi O8 a) (gi Pg b)).1∧(Dc (gi O8 a) (gi Pg b)).1≤100:=by decide +kernel
structure kR (rk:List Fh):Prop where
 len:0<rk.length∧rk.length≤3
 ok:∀ i,i<rk.length→DW (gi rk i)=0∧∃ b,b<16∧(gi rk i).Dp=gi Pg b
attribute [local irreducible] DW DN Dc
theorem zk (rk:List Fh) (lo hi:Int) (x:nJ) (i:Nat) (hrk:kR rk) (hc:0≤lo∧lo≤hi∧hi≤127) (hx:x.Ok) (hi9:i≤9) :
 ∃ s:Stp,AX env 56 [.lst 131 (cells rk) rk.length,.agg [.int .i64 lo,.int .i64 hi],.agg (Enc.enc x),.int .i64 (i:Int)] (.p (.agg (Enc.enc s)))∧s.name=Mc 83 i∧Je rk lo hi s=0∧Yu s∧∃ a,a<6∧s.Dp=gi O8 a:=by
 obtain ⟨hl,hok⟩:=hrk
 obtain ⟨x1,x2,x3,x4⟩:=hx
 obtain ⟨n,hn⟩:∃ n,n=x.rank % rk.length:=⟨_,rfl⟩
 have hnl:n<rk.length:=by rw [hn];exact Nat.mod_lt _ hl.1
 obtain ⟨m,hm⟩:∃ m,m=(n+1) % rk.length:=⟨_,rfl⟩
 have hml:m<rk.length:=by rw [hm];exact Nat.mod_lt _ hl.1
 have hf6:=gU x.Dp x2
 have h6:x.Dp % 6<6:=Nat.mod_lt _ (by decide)
 have f6:=wY _ h6
 obtain ⟨-,b,hb,eb⟩:=hok n hnl
 obtain ⟨-,c,hc2,ec⟩:=hok m hml
 have s1:=tK _ h6 b hb
 have s2:=tK _ h6 c hc2
 rw [← eb] at s1
 rw [← ec] at s2
 generalize hF:gi O8 (x.Dp % 6)=F at *
 have q1:=Nw F (gi rk n).Dp
 have q2:=Nw F (gi rk m).Dp
 rw [s1.1] at q1
 rw [s2.1] at q2
 generalize (Dc F (gi rk n).Dp).1=sh at *
 generalize (Dc F (gi rk m).Dp).1=so at *
 have a7j:dW rk lo hi=0:=YG (fun i h=>(hok i h).1) (by omega) hc
 have LZ:∀ g:List Seg,(0<g.length∧g.length≤12)→JH rk.length lo hi g 0=0→Je rk lo hi ⟨Mc 83 i,F,g⟩=0:=fun g h1 h2=>by
  unfold Je uS
  rw [if_neg (fun h=>h a7j),if_neg (fun h=>h (YO (by decide) (by omega))),if_neg (fun h=>h (Om.2 f6)),if_neg (by simp only;omega),if_neg (by simp only;omega)]
  exact h2
 have sm:∀ g:List Seg,g.length<1000000→(∀ j,j<g.length→(gi g j).draws.length<1000000)→Yu ⟨Mc 83 i,F,g⟩:=fun g h1 h2=>⟨by simp [Mc],h1,fun j hj=>⟨h2 j hj⟩⟩
 have cu:Ud rk.length ⟨n,sh⟩:=⟨⟨by simp only;omega,by simp only;omega⟩,⟨by simp only;omega,by simp only;omega⟩⟩
 have hn2:(n:Int)=(x.rank:Int) % rk.length:=by rw [hn];simp
 obtain ⟨d,hd⟩:∃ d:Nat,(d:Int)=(x.at_:Int) % (hi-lo+1):=⟨((x.at_:Int) % (hi-lo+1)).toNat,by have:=Int.emod_nonneg (x.at_:Int) (show hi-lo+1≠0 by omega);omega⟩
 have hd2:(d:Int)≤hi-lo:=by have:=Int.emod_lt_of_pos (x.at_:Int) (show 0<hi-lo+1 by omega);omega
 have hk6:x.kind % 6<6:=Nat.mod_lt _ (by decide)
 rw [hm,hn] at q2 hml
 rw [hn] at q1 hnl
 have hm2:(m:Int)=((x.rank:Int) % rk.length+1) % rk.length:=by rw [hm,hn];simp
 have hAt:lo+(d:Int)=lo+(x.at_:Int) % (hi-lo+1):=by omega
 rw [hn2] at cu
 have dSo:Ud rk.length ⟨((x.rank:Int) % rk.length+1) % rk.length,so⟩:=by
  rw [← hm2]
  exact ⟨⟨by simp only;omega,by simp only;rw [hm];have:=Nat.mod_lt (n+1) hl.1;omega⟩,⟨by simp only;omega,by simp only;omega⟩⟩
 have dTw:Ud rk.length ⟨(x.rank:Int) % rk.length,sh-12⟩:=⟨cu.rank,⟨by simp only;omega,by simp only;omega⟩⟩
 have dTh:Ud rk.length ⟨(x.rank:Int) % rk.length,sh+7⟩:=⟨cu.rank,⟨by simp only;omega,by simp only;omega⟩⟩
 by_cases k2:x.kind % 6=2
 ·refine ⟨⟨Mc 83 i,F,[⟨lo,hi,[⟨(x.rank:Int) % rk.length,sh⟩,⟨(x.rank:Int) % rk.length,sh+7⟩]⟩]⟩,?_,rfl,?_,?_,_,h6,hF.symm⟩
  ·refine AX.enter (AB (by decide)) Tryz.func56 rfl (by kernel_rfl) (by simp [Tryz.ntmps56]) ?_
   repeat' (first|(refine Ad.at 5 ?_;refine Ad.ghost (AL.freeze 13 rfl rfl) ?_;first|apply Ad.AA|apply Ad.Bj)|(refine Ad.at 22 ?_;refine Ad.ghost (AL.AP 4 3 rfl rfl rfl) ?_;first|apply Ad.AA|apply Ad.Bj)|(refine Af.He 88 ?_;refine Af.ghost (AL.freeze 87 rfl rfl) ?_)|apply Ad.assoc|apply Ad.AA|apply Ad.Bj|apply Ad.region|apply Ad.Ai|apply AU.normal|apply AO.normal|apply Ad.ret|apply Af.nil|apply Aq.nil|apply Af.one|(apply Aq.bar;decide +kernel)|apply Aq.quiet|(apply Aa.fn;rfl;rfl;exact hf6;intro _;rfl)|(apply Aa.fn;rfl;rfl;exact q1;intro _;rfl)|(apply Aa.Gq;rfl;rfl;rfl;rfl;rfl;omega)|(apply Aa.Ba (l:=rk) (i:=x.rank % rk.length);rfl;rfl;rfl;exact hnl;rfl)|(apply Aa.assign;rfl)|(apply Aa.move;rfl)|(apply Aa.Bz;rfl;rfl;omega)|(apply Aa.IC;rfl;rfl;omega)|(apply Aa.FX;rfl;rfl;omega;omega)|(apply Aa.int;rfl;rfl;rfl)|(apply Aa.load;rfl;rfl)|(apply Aa.BQ;rfl;rfl)|(apply Aa.AV;rfl;rfl;rfl)|(apply Aa.Fa;rfl;rfl)|(apply Aa.box;rfl;trivial)|(apply Aa.alloc;rfl)|(apply Aa.Bd;rfl;rfl;rfl;trivial;rfl;rfl;exact Aj rfl;exact le_dec rfl)|(apply Aa.build;rfl;rfl;rfl;rfl;rfl)|(apply Aa.buildSlice;rfl;rfl;rfl;decide;rfl;rfl;rfl)|(apply Aa.PN;rfl;rfl;(first|omega|(simp only [List.length_take,List.length_drop,List.length_append,List.length_singleton,List.length_cons,List.length_nil]<;>omega)))|(apply Aa.extract;rfl;rfl)|(apply Aa.DZ;rfl;rfl;rfl;rfl;omega)|(apply Aa.Jt;rfl;rfl;rfl;rfl;omega)|(apply Ad.AY;rfl)|(intro _;try (exfalso;omega)))
   all_goals first|(exfalso;omega)|contradiction|(refine Done.ret rfl (.refl _) (by exact PV.Ac rfl) Ak.nil (Nat.zero_le _) (Nat.le_refl _) ⟨?_,rfl,rfl⟩;rfl)
  ·exact LZ _ (by simp) (JG ⟨Int.le_refl _,hc.2.1,Int.le_refl _⟩ (wI cu dTh (fun h=>by have:=congrArg dV.shift h;simp only at this;omega)))
  ·refine sm _ (by simp) (fun j hj=>?_)
   obtain rfl:j=0:=by simp at hj;omega
   show 2<1000000
   decide
 by_cases k5:x.kind % 6=5
 ·refine ⟨⟨Mc 83 i,F,[⟨lo+(x.at_:Int) % (hi-lo+1),hi,[⟨(x.rank:Int) % rk.length,sh⟩]⟩]⟩,?_,rfl,?_,?_,_,h6,hF.symm⟩
  ·refine AX.enter (AB (by decide)) Tryz.func56 rfl (by kernel_rfl) (by simp [Tryz.ntmps56]) ?_
   repeat' (first|(refine Ad.at 5 ?_;refine Ad.ghost (AL.freeze 13 rfl rfl) ?_;first|apply Ad.AA|apply Ad.Bj)|(refine Ad.at 22 ?_;refine Ad.ghost (AL.AP 4 3 rfl rfl rfl) ?_;first|apply Ad.AA|apply Ad.Bj)|apply Ad.assoc|apply Ad.AA|apply Ad.Bj|apply Ad.region|apply Ad.Ai|apply AU.normal|apply AO.normal|apply Ad.ret|apply Af.nil|apply Aq.nil|apply Af.one|(apply Aq.bar;decide +kernel)|apply Aq.quiet|(apply Aa.fn;rfl;rfl;exact hf6;intro _;rfl)|(apply Aa.fn;rfl;rfl;exact q1;intro _;rfl)|(apply Aa.Gq;rfl;rfl;rfl;rfl;rfl;omega)|(apply Aa.Ba (l:=rk) (i:=x.rank % rk.length);rfl;rfl;rfl;exact hnl;rfl)|(apply Aa.assign;rfl)|(apply Aa.move;rfl)|(apply Aa.Bz;rfl;rfl;omega)|(apply Aa.IC;rfl;rfl;omega)|(apply Aa.FX;rfl;rfl;omega;omega)|(apply Aa.int;rfl;rfl;rfl)|(apply Aa.load;rfl;rfl)|(apply Aa.BQ;rfl;rfl)|(apply Aa.AV;rfl;rfl;rfl)|(apply Aa.Fa;rfl;rfl)|(apply Aa.box;rfl;trivial)|(apply Aa.alloc;rfl)|(apply Aa.Bd;rfl;rfl;rfl;trivial;rfl;rfl;exact Aj rfl;exact le_dec rfl)|(apply Aa.build;rfl;rfl;rfl;rfl;rfl)|(apply Aa.buildSlice;rfl;rfl;rfl;decide;rfl;rfl;rfl)|(apply Aa.PN;rfl;rfl;(first|omega|(simp only [List.length_take,List.length_drop,List.length_append,List.length_singleton,List.length_cons,List.length_nil]<;>omega)))|(apply Aa.extract;rfl;rfl)|(apply Aa.DZ;rfl;rfl;rfl;rfl;omega)|(apply Aa.Jt;rfl;rfl;rfl;rfl;omega)|(apply Ad.Ae;rfl)|(apply Ad.AY;rfl)|(intro _;try (exfalso;omega)))
   all_goals first|(exfalso;omega)|contradiction|(refine Done.ret rfl (.refl _) (by exact PV.Ac rfl) Ak.nil (Nat.zero_le _) (Nat.le_refl _) ⟨?_,rfl,rfl⟩;rfl)
  ·exact LZ _ (by simp) (JG ⟨by simp only;omega,by simp only;omega,Int.le_refl _⟩ (Ie cu))
  ·refine sm _ (by simp) (fun j hj=>?_)
   obtain rfl:j=0:=by simp at hj;omega
   show 1<1000000
   decide
 by_cases k01:x.kind % 6<2
 ·refine ⟨⟨Mc 83 i,F,[⟨lo,hi,[⟨(x.rank:Int) % rk.length,sh⟩]⟩]⟩,?_,rfl,?_,?_,_,h6,hF.symm⟩
  ·refine AX.enter (AB (by decide)) Tryz.func56 rfl (by kernel_rfl) (by simp [Tryz.ntmps56]) ?_
   repeat' (first|(refine Ad.at 5 ?_;refine Ad.ghost (AL.freeze 13 rfl rfl) ?_;first|apply Ad.AA|apply Ad.Bj)|(refine Ad.at 22 ?_;refine Ad.ghost (AL.AP 4 3 rfl rfl rfl) ?_;first|apply Ad.AA|apply Ad.Bj)|apply Ad.assoc|apply Ad.AA|apply Ad.Bj|apply Ad.region|apply Ad.Ai|apply AU.normal|apply AO.normal|apply Ad.ret|apply Af.nil|apply Aq.nil|apply Af.one|(apply Aq.bar;decide +kernel)|apply Aq.quiet|(apply Aa.fn;rfl;rfl;exact hf6;intro _;rfl)|(apply Aa.fn;rfl;rfl;exact q1;intro _;rfl)|(apply Aa.Gq;rfl;rfl;rfl;rfl;rfl;omega)|(apply Aa.Ba (l:=rk) (i:=x.rank % rk.length);rfl;rfl;rfl;exact hnl;rfl)|(apply Aa.assign;rfl)|(apply Aa.move;rfl)|(apply Aa.Bz;rfl;rfl;omega)|(apply Aa.IC;rfl;rfl;omega)|(apply Aa.FX;rfl;rfl;omega;omega)|(apply Aa.int;rfl;rfl;rfl)|(apply Aa.load;rfl;rfl)|(apply Aa.BQ;rfl;rfl)|(apply Aa.AV;rfl;rfl;rfl)|(apply Aa.Fa;rfl;rfl)|(apply Aa.box;rfl;trivial)|(apply Aa.alloc;rfl)|(apply Aa.Bd;rfl;rfl;rfl;trivial;rfl;rfl;exact Aj rfl;exact le_dec rfl)|(apply Aa.build;rfl;rfl;rfl;rfl;rfl)|(apply Aa.buildSlice;rfl;rfl;rfl;decide;rfl;rfl;rfl)|(apply Aa.PN;rfl;rfl;(first|omega|(simp only [List.length_take,List.length_drop,List.length_append,List.length_singleton,List.length_cons,List.length_nil]<;>omega)))|(apply Aa.extract;rfl;rfl)|(apply Aa.DZ;rfl;rfl;rfl;rfl;omega)|(apply Aa.Jt;rfl;rfl;rfl;rfl;omega)|(apply Ad.Ae;rfl)|(apply Ad.AY;rfl)|(intro _;try (exfalso;omega)))
   all_goals first|(exfalso;omega)|contradiction|(refine Done.ret rfl (.refl _) (by exact PV.Ac rfl) Ak.nil (Nat.zero_le _) (Nat.le_refl _) ⟨?_,rfl,rfl⟩;rfl)
  ·exact LZ _ (by simp) (JG ⟨Int.le_refl _,hc.2.1,Int.le_refl _⟩ (Ie cu))
  ·refine sm _ (by simp) (fun j hj=>?_)
   obtain rfl:j=0:=by simp at hj;omega
   show 1<1000000
   decide
 by_cases hd0:d=0
 ·by_cases k3:x.kind % 6=3
  ·refine ⟨⟨Mc 83 i,F,[⟨lo+(x.at_:Int) % (hi-lo+1),hi,[⟨((x.rank:Int) % rk.length+1) % rk.length,so⟩]⟩]⟩,?_,rfl,?_,?_,_,h6,hF.symm⟩
   ·refine AX.enter (AB (by decide)) Tryz.func56 rfl (by kernel_rfl) (by simp [Tryz.ntmps56]) ?_
    repeat' (first|(refine Ad.at 17 ?_;refine Ad.ghost (AL.trans (AL.freeze 15 rfl rfl) (AL.EL 4 3 136 rfl rfl)) ?_;first|apply Ad.AA|apply Ad.Bj)|(refine Ad.at 5 ?_;refine Ad.ghost (AL.freeze 13 rfl rfl) ?_;first|apply Ad.AA|apply Ad.Bj)|(refine Ad.at 22 ?_;refine Ad.ghost (AL.AP 4 3 rfl rfl rfl) ?_;first|apply Ad.AA|apply Ad.Bj)|apply Ad.assoc|apply Ad.AA|apply Ad.Bj|apply Ad.region|apply Ad.Ar|apply Ad.Ai|apply AU.normal|apply AO.normal|apply Ad.ret|apply Af.nil|apply Aq.nil|apply Af.one|(apply Aq.bar;decide +kernel)|apply Aq.quiet|(apply Aa.Dv (l:=([]:List Seg)) (a:=⟨lo+(x.at_:Int) % (hi-lo+1),hi,[⟨((x.rank:Int) % rk.length+1) % rk.length,so⟩]⟩);rfl;rfl;rfl;rfl;rfl;rfl;rfl;rfl;(intro _ h;cases h);rfl;rfl;rfl;decide;decide;(first|omega|(simp only [List.length_nil,List.length_cons]<;>omega)))|(apply Aa.fn;rfl;rfl;exact hf6;intro _;rfl)|(apply Aa.fn;rfl;rfl;exact q1;intro _;rfl)|(apply Aa.fn;rfl;rfl;exact q2;intro _;rfl)|(apply Aa.Gq;rfl;rfl;rfl;rfl;rfl;omega)|(apply Aa.Ba (l:=rk) (i:=x.rank % rk.length);rfl;rfl;rfl;exact hnl;rfl)|(apply Aa.Ba (l:=rk) (i:=(x.rank % rk.length+1) % rk.length);rfl;rfl;rfl;exact hml;rfl)|(apply Aa.assign;rfl)|(apply Aa.move;rfl)|(apply Aa.Bz;rfl;rfl;omega)|(apply Aa.IC;rfl;rfl;omega)|(apply Aa.FX;rfl;rfl;omega;omega)|(apply Aa.int;rfl;rfl;rfl)|(apply Aa.load;rfl;rfl)|(apply Aa.BQ;rfl;rfl)|(apply Aa.AV;rfl;rfl;rfl)|(apply Aa.Fa;rfl;rfl)|(apply Aa.box;rfl;trivial)|(apply Aa.alloc;rfl)|(apply Aa.Bd;rfl;rfl;rfl;trivial;rfl;rfl;exact Aj rfl;exact le_dec rfl)|(apply Aa.build;rfl;rfl;rfl;rfl;rfl)|(apply Aa.buildSlice;rfl;rfl;rfl;decide;rfl;rfl;rfl)|(apply Aa.PN;rfl;rfl;(first|omega|(simp only [List.length_take,List.length_drop,List.length_append,List.length_singleton,List.length_cons,List.length_nil]<;>omega)))|(apply Aa.extract;rfl;rfl)|(apply Aa.DZ;rfl;rfl;rfl;rfl;omega)|(apply Aa.Jt;rfl;rfl;rfl;rfl;omega)|(apply Ad.Ae;rfl)|(apply Ad.AY;rfl)|(intro _;try (exfalso;omega)))
    all_goals first|(exfalso;omega)|contradiction|(refine Done.ret rfl (.refl _) (by exact PV.Ac rfl) Ak.nil (Nat.zero_le _) (Nat.le_refl _) ⟨?_,rfl,rfl⟩;rfl)
   ·exact LZ _ (by simp) (JG ⟨by simp only;omega,by simp only;omega,Int.le_refl _⟩ (Ie dSo))
   ·refine sm _ (by simp) (fun j hj=>?_)
    obtain rfl:j=0:=by simp at hj;omega
    show 1<1000000
    decide
  ·refine ⟨⟨Mc 83 i,F,[⟨lo+(x.at_:Int) % (hi-lo+1),hi,[⟨(x.rank:Int) % rk.length,sh-12⟩]⟩]⟩,?_,rfl,?_,?_,_,h6,hF.symm⟩
   ·refine AX.enter (AB (by decide)) Tryz.func56 rfl (by kernel_rfl) (by simp [Tryz.ntmps56]) ?_
    repeat' (first|(refine Ad.at 17 ?_;refine Ad.ghost (AL.trans (AL.freeze 15 rfl rfl) (AL.EL 4 3 136 rfl rfl)) ?_;first|apply Ad.AA|apply Ad.Bj)|(refine Ad.at 5 ?_;refine Ad.ghost (AL.freeze 13 rfl rfl) ?_;first|apply Ad.AA|apply Ad.Bj)|(refine Ad.at 22 ?_;refine Ad.ghost (AL.AP 4 3 rfl rfl rfl) ?_;first|apply Ad.AA|apply Ad.Bj)|apply Ad.assoc|apply Ad.AA|apply Ad.Bj|apply Ad.region|apply Ad.Ar|apply Ad.Ai|apply AU.normal|apply AO.normal|apply Ad.ret|apply Af.nil|apply Aq.nil|apply Af.one|(apply Aq.bar;decide +kernel)|apply Aq.quiet|(apply Aa.Dv (l:=([]:List Seg)) (a:=⟨lo+(x.at_:Int) % (hi-lo+1),hi,[⟨(x.rank:Int) % rk.length,sh-12⟩]⟩);rfl;rfl;rfl;rfl;rfl;rfl;rfl;rfl;(intro _ h;cases h);rfl;rfl;rfl;decide;decide;(first|omega|(simp only [List.length_nil,List.length_cons]<;>omega)))|(apply Aa.fn;rfl;rfl;exact hf6;intro _;rfl)|(apply Aa.fn;rfl;rfl;exact q1;intro _;rfl)|(apply Aa.Gq;rfl;rfl;rfl;rfl;rfl;omega)|(apply Aa.Ba (l:=rk) (i:=x.rank % rk.length);rfl;rfl;rfl;exact hnl;rfl)|(apply Aa.assign;rfl)|(apply Aa.move;rfl)|(apply Aa.Bz;rfl;rfl;omega)|(apply Aa.IC;rfl;rfl;omega)|(apply Aa.FX;rfl;rfl;omega;omega)|(apply Aa.int;rfl;rfl;rfl)|(apply Aa.load;rfl;rfl)|(apply Aa.BQ;rfl;rfl)|(apply Aa.AV;rfl;rfl;rfl)|(apply Aa.Fa;rfl;rfl)|(apply Aa.box;rfl;trivial)|(apply Aa.alloc;rfl)|(apply Aa.Bd;rfl;rfl;rfl;trivial;rfl;rfl;exact Aj rfl;exact le_dec rfl)|(apply Aa.build;rfl;rfl;rfl;rfl;rfl)|(apply Aa.buildSlice;rfl;rfl;rfl;decide;rfl;rfl;rfl)|(apply Aa.PN;rfl;rfl;(first|omega|(simp only [List.length_take,List.length_drop,List.length_append,List.length_singleton,List.length_cons,List.length_nil]<;>omega)))|(apply Aa.extract;rfl;rfl)|(apply Aa.DZ;rfl;rfl;rfl;rfl;omega)|(apply Aa.Jt;rfl;rfl;rfl;rfl;omega)|(apply Ad.Ae;rfl)|(apply Ad.AY;rfl)|(intro _;try (exfalso;omega)))
    all_goals first|(exfalso;omega)|contradiction|(refine Done.ret rfl (.refl _) (by exact PV.Ac rfl) Ak.nil (Nat.zero_le _) (Nat.le_refl _) ⟨?_,rfl,rfl⟩;rfl)
   ·exact LZ _ (by simp) (JG ⟨by simp only;omega,by simp only;omega,Int.le_refl _⟩ (Ie dTw))
   ·refine sm _ (by simp) (fun j hj=>?_)
    obtain rfl:j=0:=by simp at hj;omega
    show 1<1000000
    decide
 ·by_cases k3:x.kind % 6=3
  ·refine ⟨⟨Mc 83 i,F,[⟨lo,lo+(x.at_:Int) % (hi-lo+1)-1,[⟨(x.rank:Int) % rk.length,sh⟩]⟩,⟨lo+(x.at_:Int) % (hi-lo+1),hi,[⟨((x.rank:Int) % rk.length+1) % rk.length,so⟩]⟩]⟩,?_,rfl,?_,?_,_,h6,hF.symm⟩
   ·refine AX.enter (AB (by decide)) Tryz.func56 rfl (by kernel_rfl) (by simp [Tryz.ntmps56]) ?_
    repeat' (first|(refine Ad.at 17 ?_;refine Ad.ghost (AL.trans (AL.freeze 15 rfl rfl) (AL.EL 4 3 136 rfl rfl)) ?_;first|apply Ad.AA|apply Ad.Bj)|(refine Ad.at 5 ?_;refine Ad.ghost (AL.freeze 13 rfl rfl) ?_;first|apply Ad.AA|apply Ad.Bj)|(refine Ad.at 22 ?_;refine Ad.ghost (AL.AP 4 3 rfl rfl rfl) ?_;first|apply Ad.AA|apply Ad.Bj)|apply Ad.assoc|apply Ad.AA|apply Ad.Bj|apply Ad.region|apply Ad.Ar|apply Ad.Ai|apply AU.normal|apply AO.normal|apply Ad.ret|apply Af.nil|apply Aq.nil|apply Af.one|(apply Aq.bar;decide +kernel)|apply Aq.quiet|(apply Aa.Dv (l:=([]:List Seg)) (a:=⟨lo,lo+(x.at_:Int) % (hi-lo+1)-1,[⟨(x.rank:Int) % rk.length,sh⟩]⟩);rfl;rfl;rfl;rfl;rfl;rfl;rfl;rfl;(intro _ h;cases h);rfl;rfl;rfl;decide;decide;(first|omega|(simp only [List.length_nil,List.length_cons]<;>omega)))|(apply Aa.Dv (l:=([⟨lo,lo+(x.at_:Int) % (hi-lo+1)-1,[⟨(x.rank:Int) % rk.length,sh⟩]⟩]:List Seg)) (a:=⟨lo+(x.at_:Int) % (hi-lo+1),hi,[⟨((x.rank:Int) % rk.length+1) % rk.length,so⟩]⟩);rfl;rfl;rfl;rfl;rfl;rfl;rfl;rfl;(intro _ h;cases h);rfl;rfl;rfl;decide;decide;(first|omega|(simp only [List.length_nil,List.length_cons]<;>omega)))|(apply Aa.fn;rfl;rfl;exact hf6;intro _;rfl)|(apply Aa.fn;rfl;rfl;exact q1;intro _;rfl)|(apply Aa.fn;rfl;rfl;exact q2;intro _;rfl)|(apply Aa.Gq;rfl;rfl;rfl;rfl;rfl;omega)|(apply Aa.Ba (l:=rk) (i:=x.rank % rk.length);rfl;rfl;rfl;exact hnl;rfl)|(apply Aa.Ba (l:=rk) (i:=(x.rank % rk.length+1) % rk.length);rfl;rfl;rfl;exact hml;rfl)|(apply Aa.assign;rfl)|(apply Aa.move;rfl)|(apply Aa.Bz;rfl;rfl;omega)|(apply Aa.IC;rfl;rfl;omega)|(apply Aa.FX;rfl;rfl;omega;omega)|(apply Aa.int;rfl;rfl;rfl)|(apply Aa.load;rfl;rfl)|(apply Aa.BQ;rfl;rfl)|(apply Aa.AV;rfl;rfl;rfl)|(apply Aa.Fa;rfl;rfl)|(apply Aa.box;rfl;trivial)|(apply Aa.alloc;rfl)|(apply Aa.Bd;rfl;rfl;rfl;trivial;rfl;rfl;exact Aj rfl;exact le_dec rfl)|(apply Aa.build;rfl;rfl;rfl;rfl;rfl)|(apply Aa.buildSlice;rfl;rfl;rfl;decide;rfl;rfl;rfl)|(apply Aa.PN;rfl;rfl;(first|omega|(simp only [List.length_take,List.length_drop,List.length_append,List.length_singleton,List.length_cons,List.length_nil]<;>omega)))|(apply Aa.extract;rfl;rfl)|(apply Aa.DZ;rfl;rfl;rfl;rfl;omega)|(apply Aa.Jt;rfl;rfl;rfl;rfl;omega)|(apply Ad.Ae;rfl)|(apply Ad.AY;rfl)|(intro _;try (exfalso;omega)))
    all_goals first|(exfalso;omega)|contradiction|(refine Done.ret rfl (.refl _) (by exact PV.Ac rfl) Ak.nil (Nat.zero_le _) (Nat.le_refl _) ⟨?_,rfl,rfl⟩;rfl)
   ·exact LZ _ (by simp) (Yo ⟨Int.le_refl _,by simp only;omega,by simp only;omega,by simp only;omega,Int.le_refl _⟩ (Ie cu) (Ie dSo))
   ·refine sm _ (by simp) (fun j hj=>?_)
    have:j=0∨j=1:=by simp at hj;omega
    rcases this with rfl|rfl
    ·show 1<1000000
     decide
    ·show 1<1000000
     decide
  ·refine ⟨⟨Mc 83 i,F,[⟨lo,lo+(x.at_:Int) % (hi-lo+1)-1,[⟨(x.rank:Int) % rk.length,sh⟩]⟩,⟨lo+(x.at_:Int) % (hi-lo+1),hi,[⟨(x.rank:Int) % rk.length,sh-12⟩]⟩]⟩,?_,rfl,?_,?_,_,h6,hF.symm⟩
   ·refine AX.enter (AB (by decide)) Tryz.func56 rfl (by kernel_rfl) (by simp [Tryz.ntmps56]) ?_
    repeat' (first|(refine Ad.at 17 ?_;refine Ad.ghost (AL.trans (AL.freeze 15 rfl rfl) (AL.EL 4 3 136 rfl rfl)) ?_;first|apply Ad.AA|apply Ad.Bj)|(refine Ad.at 5 ?_;refine Ad.ghost (AL.freeze 13 rfl rfl) ?_;first|apply Ad.AA|apply Ad.Bj)|(refine Ad.at 22 ?_;refine Ad.ghost (AL.AP 4 3 rfl rfl rfl) ?_;first|apply Ad.AA|apply Ad.Bj)|apply Ad.assoc|apply Ad.AA|apply Ad.Bj|apply Ad.region|apply Ad.Ar|apply Ad.Ai|apply AU.normal|apply AO.normal|apply Ad.ret|apply Af.nil|apply Aq.nil|apply Af.one|(apply Aq.bar;decide +kernel)|apply Aq.quiet|(apply Aa.Dv (l:=([]:List Seg)) (a:=⟨lo,lo+(x.at_:Int) % (hi-lo+1)-1,[⟨(x.rank:Int) % rk.length,sh⟩]⟩);rfl;rfl;rfl;rfl;rfl;rfl;rfl;rfl;(intro _ h;cases h);rfl;rfl;rfl;decide;decide;(first|omega|(simp only [List.length_nil,List.length_cons]<;>omega)))|(apply Aa.Dv (l:=([⟨lo,lo+(x.at_:Int) % (hi-lo+1)-1,[⟨(x.rank:Int) % rk.length,sh⟩]⟩]:List Seg)) (a:=⟨lo+(x.at_:Int) % (hi-lo+1),hi,[⟨(x.rank:Int) % rk.length,sh-12⟩]⟩);rfl;rfl;rfl;rfl;rfl;rfl;rfl;rfl;(intro _ h;cases h);rfl;rfl;rfl;decide;decide;(first|omega|(simp only [List.length_nil,List.length_cons]<;>omega)))|(apply Aa.fn;rfl;rfl;exact hf6;intro _;rfl)|(apply Aa.fn;rfl;rfl;exact q1;intro _;rfl)|(apply Aa.Gq;rfl;rfl;rfl;rfl;rfl;omega)|(apply Aa.Ba (l:=rk) (i:=x.rank % rk.length);rfl;rfl;rfl;exact hnl;rfl)|(apply Aa.assign;rfl)|(apply Aa.move;rfl)|(apply Aa.Bz;rfl;rfl;omega)|(apply Aa.IC;rfl;rfl;omega)|(apply Aa.FX;rfl;rfl;omega;omega)|(apply Aa.int;rfl;rfl;rfl)|(apply Aa.load;rfl;rfl)|(apply Aa.BQ;rfl;rfl)|(apply Aa.AV;rfl;rfl;rfl)|(apply Aa.Fa;rfl;rfl)|(apply Aa.box;rfl;trivial)|(apply Aa.alloc;rfl)|(apply Aa.Bd;rfl;rfl;rfl;trivial;rfl;rfl;exact Aj rfl;exact le_dec rfl)|(apply Aa.build;rfl;rfl;rfl;rfl;rfl)|(apply Aa.buildSlice;rfl;rfl;rfl;decide;rfl;rfl;rfl)|(apply Aa.PN;rfl;rfl;(first|omega|(simp only [List.length_take,List.length_drop,List.length_append,List.length_singleton,List.length_cons,List.length_nil]<;>omega)))|(apply Aa.extract;rfl;rfl)|(apply Aa.DZ;rfl;rfl;rfl;rfl;omega)|(apply Aa.Jt;rfl;rfl;rfl;rfl;omega)|(apply Ad.Ae;rfl)|(apply Ad.AY;rfl)|(intro _;try (exfalso;omega)))
    all_goals first|(exfalso;omega)|contradiction|(refine Done.ret rfl (.refl _) (by exact PV.Ac rfl) Ak.nil (Nat.zero_le _) (Nat.le_refl _) ⟨?_,rfl,rfl⟩;rfl)
   ·exact LZ _ (by simp) (Yo ⟨Int.le_refl _,by simp only;omega,by simp only;omega,by simp only;omega,Int.le_refl _⟩ (Ie cu) (Ie dTw))
   ·refine sm _ (by simp) (fun j hj=>?_)
    have:j=0∨j=1:=by simp at hj;omega
    rcases this with rfl|rfl
    ·show 1<1000000
     decide
    ·show 1<1000000
     decide
end Go.Proofs.YtdabojnmoejilaaGreatDoor
namespace Go.Proofs.YtdabojnmoejilaaGreatDoor
open Go Go.Am Go.Vm
attribute [local irreducible] Aa Af Aq Ad BF AX Ci AU AO Aw Vm.Done CS Bq
end Go.Proofs.YtdabojnmoejilaaGreatDoor
namespace Go.Proofs.YtdabojnmoejilaaGreatDoor
open Go Go.Am Go.Vm
attribute [local irreducible] Aa Af Aq Ad BF AX Ci AU AO Aw Vm.Done CS Bq
noncomputable instance (a b:JV):Decidable (a=b):=Classical.propDecidable _
noncomputable instance (a b:Fh):Decidable (a=b):=Classical.propDecidable _
def lnC (i c:Nat):Prop:=aj c∨(i≠0∧(c=95∨(48≤c∧c≤57)))
def a5r (r:Fh):Prop:=(r.Ez.length≤30∨r.Ez.length=129)∧r.name.length≤40∧r.Ep.length≤40
instance (r:Fh):Decidable (a5r r):=by unfold a5r;infer_instance
end Go.Proofs.YtdabojnmoejilaaGreatDoor
namespace Go.Proofs.YtdabojnmoejilaaGreatDoor
open Go Go.Am Go.Vm
attribute [local irreducible] Aa Af Aq Ad BF AX Ci AU AO Aw Vm.Done CS Bq
attribute [local irreducible] DW DN uf Dc UM
noncomputable def b0p (r:Fh) (f p:Int):FV×Int:=if UM r f≠0 then (JI,UM r f) else if p<1∨p>r.Ez.length-f then (JI,3) else yE r (r.first+f) ((r.Ez.drop f.toNat).take ((f+p).toNat-f.toNat))
noncomputable def b0q (a b:Fh):FV×Int:=if DW a≠0 then (JI,DW a) else if DW b≠0 then (JI,DW b) else if ¬ (a.Ep=b.Ep∧a.Dp=b.Dp) then (JI,14) else if b.first≠a.first+a.Ez.length then (JI,6) else yE a a.first (a.Ez++b.Ez)
theorem uq:∀ n,n<3→Di (gi N7 n)
 |0,_=>nV
 |1,_=>by
  refine ⟨by decide,by decide,by decide,fun i h1 h2=>?_⟩
  have:i=1∨i=2∨i=3∨i=4:=by simp [N7,gi] at h2;omega
  rcases this with rfl|rfl|rfl|rfl<;>exact .inl (by decide)
 |2,_=>by
  refine ⟨by decide,by decide,by decide,fun i h1 h2=>?_⟩
  have:i=1∨i=2∨i=3:=by simp [N7,gi] at h2;omega
  rcases this with rfl|rfl|rfl<;>exact .inl (by decide)
theorem yD:∀ n,n<16→qo (gi Pg n):=by decide +kernel
theorem fD (x:F7):∀ k i,i<k→gi (Ic x k) i=((gi x.Ez (i % 5):Nat):Int)
 |k+1,i,h=>by
  rcases Nat.lt_or_ge i k with h1|h1
  ·have:gi (Ic x (k+1)) i=gi (Ic x k) i:=by simp [Ic,gi,List.getElem?_append_left (show i<(Ic x k).length by rw [FM];exact h1)]
   rw [this];exact fD x k i h1
  ·obtain rfl:i=k:=by omega
   simp [Ic,gi,List.getElem?_append_right (show (Ic x i).length≤i by rw [FM];exact Nat.le_refl _),FM]
theorem a1j (x:F7) (hx:x.Ok) (i:Int) (hi:0≤i):DW (Sv x i)=0:=by
 obtain ⟨h1,h2,h3,h4,h5⟩:=hx
 refine fZ ⟨by simp [Sv],by simp [Sv],(show aj (82:UInt8).toNat by decide),fun j j1 j2=>?_⟩ (uq _ (Nat.mod_lt _ (by decide))) (yD _ (Nat.mod_lt _ (by decide))) ⟨by simp only [Sv];omega,by simp only [Sv];omega⟩ ⟨by simp only [Sv,FM];omega,by simp only [Sv,FM];omega⟩ (fun j hj=>?_)
 ·obtain rfl:j=1:=by simp [Sv] at j2;omega
  have e:(gi (Sv x i).name 1).toNat=(48+i % 10).toNat:=by
   show (UInt8.ofNat (48+i % 10).toNat).toNat=_
   rw [UInt8.toNat_ofNat'];omega
  rw [e]
  right;left;omega
 ·simp only [Sv,FM] at hj ⊢
  rw [fD x _ j hj]
  have:=h5 (j % 5)
  unfold Xn
  omega
theorem zV {α:Type} [Inhabited α] {l:List α} {P:α→Prop} (h:∀ a∈l,P a) {n:Nat} (hn:n<l.length):P (gi l n):=by
 simp only [gi,List.getElem?_eq_getElem hn,Option.getD_some]
 exact h _ (List.getElem_mem hn)
theorem zF (x:F7) (i:Int):a9c (Sv x i):=by
 refine ⟨by simp [Sv],?_,by simp only [Sv,FM];omega⟩
 show (gi N7 (x.Ep % 3)).length<_
 exact Nat.lt_of_le_of_lt (zV (P:=fun l=>l.length≤5) (by decide) (show x.Ep % 3<N7.length from Nat.mod_lt _ (by decide))) (by decide)
theorem ug (x:F7) (i:Int):(Sv x i).Ez.length≤25:=by simp only [Sv,FM];omega
def b0b:Fh:=⟨[],[],⟨0,0⟩,0,[]⟩
end Go.Proofs.YtdabojnmoejilaaGreatDoor
namespace Go.Proofs.YtdabojnmoejilaaGreatDoor
open Go Go.Am Go.Vm
attribute [local irreducible] Aa Af Aq Ad BF AX Ci AU AO Aw Vm.Done CS Bq
def QE (x:oJ):Prop:=(1≤x.ranks.length∧x.ranks.length≤3)∧(1≤x.Ah.length∧x.Ah.length≤3)∧x.links.length≤3∧∀ i,i<x.Ah.length→(gi x.Ah i).stops.length≤3
noncomputable instance (x:oJ):Decidable (QE x):=Classical.propDecidable _
theorem XW (x:oJ) (hx:x.Ok):AX env 41 [.agg x.enc] (.p (.bool (decide (QE x)))):=by
 have b1:=hx.nr
 have b2:=hx.nd
 have b3:=hx.nl
 refine AX.enter (AB (by decide)) Tryz.func41 rfl (by kernel_rfl) (by simp [Tryz.ntmps41]) ?_
 by_cases h0:(1≤x.ranks.length∧x.ranks.length≤3)∧(1≤x.Ah.length∧x.Ah.length≤3)∧x.links.length≤3
 case neg =>
  rw [decide_eq_false (fun h=>h0 ⟨h.1,h.2.1,h.2.2.1⟩)]
  repeat' (first|apply Ad.assoc|apply Ad.AA|apply Ad.BI|apply Af.nil|apply Af.one|(apply Af.take;rfl;rfl)|(apply Af.drop;rfl;rfl;rfl)|(apply Af.guard;rfl;rfl)|(apply Aa.assign;rfl)|(apply Aa.move;rfl)|(apply Aa.int;rfl;rfl;rfl)|(apply Aa.load;rfl;rfl)|(apply Aa.Bo;rfl;rfl)|(apply Aa.AQ;rfl;rfl)|(apply Aa.BQ;rfl;rfl)|(apply Aa.AV;rfl;rfl;rfl)|(apply Aa.box;rfl;trivial)|(apply Ad.Bc;rfl)|(apply Ad.Ae;rfl)|(intro _;try (exfalso;omega)))
  all_goals first|(exfalso;omega)|(refine Done.ret rfl (.refl _) (by exact PV.Ac rfl) Ak.nil (Nat.zero_le _) (Nat.le_refl _) ⟨?_,rfl,rfl⟩;try rfl)
 repeat' (first|apply Ad.assoc|apply Ad.AA|apply Ad.Ar|apply Ad.Ai|apply Af.nil|apply Af.one|(apply Af.take;rfl;rfl)|(apply Af.guard;rfl;rfl)|(apply Aa.assign;rfl)|(apply Aa.move;rfl)|(apply Aa.int;rfl;rfl;rfl)|(apply Aa.load;rfl;rfl)|(apply Aa.AQ;rfl;rfl)|(apply Aa.BQ;rfl;rfl)|(apply Aa.AV;rfl;rfl;rfl)|(apply Aa.box;rfl;trivial)|(apply Ad.Ae;rfl)|(intro _;try (exfalso;omega)))
 all_goals try (exfalso;omega)
 refine Ad.Ee (fun k:Nat=>[(1,.ref 0 0),(3,.p (.int .i64 (k:Int)))]) (fun _=>[(0,.box 26 (x.enc.map .p))]) 1 (fun k=>k≤x.Ah.length∧∀ i,i<k→(gi x.Ah i).stops.length≤3) (fun k=>x.Ah.length-k) 0 (by omega) ⟨by omega,fun i hi=>by omega⟩ ⟨by omega,?_,?_⟩ ?_
 ·repeat (first|exact Ap.nil|refine Ap.same (by exact PV.Ac rfl) rfl ?_|refine Ap.cons trivial rfl (.of_eq (Au (by simp<;>omega))) ?_)
 ·repeat (first|exact Ak.nil|(refine Ak.cons (Aj rfl) ?_ rfl ?_ ?_;(first|exact trivial|exact AZ.Ag _ _|(simp [HB.under,AZ.under,PV.under]));(first|exact Bv.refl _|exact Bv.vec (Bl.refl _) (by simp))))
 rintro k ⟨hk,hok⟩
 by_cases hkl:k<x.Ah.length
 ·have hst:=(hx.Ah k hkl).stops
  by_cases h1:(gi x.Ah k).stops.length≤3
  ·repeat' (first|apply Ad.assoc|apply Ad.AA|apply Ad.region|apply Ad.Ar|apply Ad.Ai|apply AU.normal|apply AO.normal|apply Ad.skip|apply Af.nil|apply Af.one|(apply Aa.assign;rfl)|(apply Aa.move;rfl)|(apply Aa.Bz;rfl;rfl;omega)|(apply Aa.int;rfl;rfl;rfl)|(apply Aa.Ba;rfl;rfl;rfl;omega;rfl)|(apply Aa.load;rfl;rfl)|(apply Aa.BQ;rfl;rfl)|(apply Aa.AV;rfl;rfl;rfl)|(apply Aa.Fa;rfl;rfl)|(apply Ad.Ae;rfl)|(apply Ad.AY;rfl)|(intro _;try (exfalso;omega)))
   all_goals try (exfalso;omega)
   refine Aw.normal ⟨k+1,⟨by omega,fun i hi=>?_⟩,by omega,⟨by omega,?_,?_⟩⟩
   ·rcases Nat.lt_or_ge i k with h|h
    ·exact hok i h
    ·obtain rfl:i=k:=by omega
     exact h1
   ·repeat (first|exact Ap.nil|refine Ap.same (by exact PV.Ac rfl) rfl ?_|refine Ap.cons trivial rfl (.of_eq (Au (by simp<;>omega))) ?_)
   ·repeat (first|exact Ak.nil|(refine Ak.cons (Aj rfl) ?_ rfl ?_ ?_;(first|exact trivial|exact AZ.Ag _ _|(simp [HB.under,AZ.under,PV.under]));(first|exact Bv.refl _|exact Bv.vec (Bl.refl _) (by simp))))
  ·rw [decide_eq_false (fun h=>h1 (h.2.2.2 k hkl))]
   repeat' (first|apply Ad.assoc|apply Ad.AA|apply Ad.Ar|apply Ad.Ai|apply AU.ret|apply AO.ret|apply Aw.ret|apply Ad.ret|apply Af.nil|apply Af.one|(apply Aa.assign;rfl)|(apply Aa.move;rfl)|(apply Aa.int;rfl;rfl;rfl)|(apply Aa.Ba;rfl;rfl;rfl;omega;rfl)|(apply Aa.load;rfl;rfl)|(apply Aa.BQ;rfl;rfl)|(apply Aa.AV;rfl;rfl;rfl)|(apply Aa.Fa;rfl;rfl)|(apply Ad.Ae;rfl)|(apply Ad.AY;rfl)|(intro _;try (exfalso;omega)))
   all_goals first|(exfalso;omega)|(refine Done.ret rfl (.refl _) (by exact PV.Ac rfl) Ak.nil (Nat.zero_le _) (Nat.le_refl _) ⟨?_,rfl,rfl⟩;try rfl)
 ·rw [decide_eq_true (show QE x from ⟨h0.1,h0.2.1,h0.2.2,fun i hi=>hok i (by omega)⟩)]
  repeat' (first|apply Ad.assoc|apply Ad.AA|apply Ad.A8|apply AU.normal|apply AO.exit|apply Aw.exit|apply Ad.ret|apply Af.nil|apply Af.one|(apply Aa.assign;rfl)|(apply Aa.move;rfl)|(apply Aa.int;rfl;rfl;rfl)|(apply Aa.load;rfl;rfl)|(apply Aa.BQ;rfl;rfl)|(apply Aa.AV;rfl;rfl;rfl)|(apply Ad.Ae;rfl)|(intro _;try (exfalso;omega)))
  all_goals first|(exfalso;omega)|(refine Done.ret rfl (.refl _) (by exact PV.Ac rfl) Ak.nil (Nat.zero_le _) (Nat.le_refl _) ⟨?_,rfl,rfl⟩;try rfl)
def sU (rk:List Fh) (lo hi:Int) (x:nJ) (i:Nat) (s:Stp):Prop :=
 AX env 56 [.lst 131 (cells rk) rk.length,.agg [.int .i64 lo,.int .i64 hi],.agg (Enc.enc x),.int .i64 (i:Int)] (.p (.agg (Enc.enc s)))∧s.name=Mc 83 i∧Je rk lo hi s=0∧Yu s∧∃ a,a<6∧s.Dp=gi O8 a
noncomputable def Qs (rk:List Fh) (lo hi:Int) (x:nJ) (i:Nat):Stp:=Classical.epsilon (h:=⟨default⟩) (sU rk lo hi x i)
theorem Vj (rk:List Fh) (lo hi:Int) (x:nJ) (i:Nat) (hrk:kR rk) (hc:0≤lo∧lo≤hi∧hi≤127) (hx:x.Ok) (hi9:i≤9):sU rk lo hi x i (Qs rk lo hi x i) :=
 Classical.epsilon_spec (zk rk lo hi x i hrk hc hx hi9)
def EC (l:List F7):Nat→List Fh
 |0=>[]
 |k+1=>EC l k++[Sv (gi l k) (k:Int)]
noncomputable def Gg (rk:List Fh) (lo hi:Int) (l:List nJ):Nat→List Stp
 |0=>[]
 |k+1=>Gg rk lo hi l k++[Qs rk lo hi (gi l k) k]
def EI (b:qj):Int:=36+(b.low:Int) % 12
def E5 (b:qj):Int:=EI b+(b.keys:Int) % 9
noncomputable def ZY (rk:List Fh) (b:qj) (k:Nat):Ld:=⟨Mc 68 (k:Int),b.Dx,EI b,E5 b,Gg rk (EI b) (E5 b) b.stops b.stops.length⟩
noncomputable def Gs (rk:List Fh) (l:List qj):Nat→List Ld
 |0=>[]
 |k+1=>Gs rk l k++[ZY rk (gi l k) k]
def UW (n:Nat) (c:wM) (k:Nat):Rt:=⟨Mc 67 (k:Int),(c.Df:Int) % n,(c.tgt:Int) % n,if (c.Df:Int) % n=(c.tgt:Int) % n∧c.shift.tmod 25=0 then 12 else c.shift.tmod 25,c.through⟩
def E8 (n:Nat) (l:List wM):Nat→List Rt
 |0=>[]
 |k+1=>E8 n l k++[UW n (gi l k) k]
theorem IG (l:List F7):∀ k,(EC l k).length=k
 |0=>rfl
 |k+1=>by simp [EC,IG l k]
theorem Ht (rk:List Fh) (lo hi:Int) (l:List nJ):∀ k,(Gg rk lo hi l k).length=k
 |0=>rfl
 |k+1=>by simp [Gg,Ht rk lo hi l k]
theorem Lp (rk:List Fh) (l:List qj):∀ k,(Gs rk l k).length=k
 |0=>rfl
 |k+1=>by simp [Gs,Lp rk l k]
theorem OE (n:Nat) (l:List wM):∀ k,(E8 n l k).length=k
 |0=>rfl
 |k+1=>by simp [E8,OE n l k]
noncomputable def kU (x:oJ):D7:=⟨[79,114,103,97,110],EC x.ranks x.ranks.length,Gs (EC x.ranks x.ranks.length) x.Ah x.Ah.length,E8 x.Ah.length x.links x.links.length⟩
theorem U9 {α:Type} [Inhabited α] {l:List α} {a:α} {i:Nat}:gi (l++[a]) i=if i<l.length then gi l i else if i=l.length then a else default:=by
 by_cases h:i<l.length
 ·rw [if_pos h];simp [gi,List.getElem?_append_left h]
 ·rw [if_neg h]
  by_cases h2:i=l.length
  ·rw [if_pos h2,h2];simp [gi]
  ·rw [if_neg h2];simp [gi,List.getElem?_append_right (show l.length≤i by omega),show ¬ i-l.length=0 by omega]
theorem RS (l:List F7):∀ k i,i<k→gi (EC l k) i=Sv (gi l i) (i:Int)
 |k+1,i,h=>by
  simp only [EC,U9,IG]
  by_cases h1:i<k
  ·rw [if_pos h1];exact RS l k i h1
  ·obtain rfl:i=k:=by omega
   simp
theorem YL {l:List F7} (h:∀ i,i<l.length→(gi l i).Ok) (hl:0<l.length∧l.length≤3):kR (EC l l.length):=by
 refine ⟨by rw [IG];exact hl,fun i hi=>?_⟩
 rw [IG] at hi
 rw [RS l _ i hi]
 exact ⟨a1j _ (h i hi) _ (by omega),(gi l i).Dp % 16,Nat.mod_lt _ (by decide),rfl⟩
end Go.Proofs.YtdabojnmoejilaaGreatDoor
namespace Go.Proofs.YtdabojnmoejilaaGreatDoor
open Go Go.Am Go.Vm
attribute [local irreducible] Aa Af Aq Ad BF AX Ci AU AO Aw Vm.Done CS Bq
attribute [local irreducible] Sv Qs
def b2k (a b c:PV):Vm.HB:=.box 37 [.p (.str (bs [79,114,103,97,110])),a,b,c]
def b1g:Vm.HB:=.box 37 [.p (.str ⟨#[]⟩),.p (.val (.slice none 0 0)),.p (.val (.slice none 0 0)),.p (.val (.slice none 0 0))]
theorem TA (x:oJ) (hx:x.Ok) (hf:QE x):AX env 34 [.agg x.enc] (.p (.agg (Enc.enc (kU x)))):=by
 obtain ⟨hf1,hf2,hf3,hf4⟩:=hf
 have hR:=YL hx.ranks (by omega)
 refine AX.enter (AB (by decide)) Tryz.func34 rfl (by kernel_rfl) (by simp [Tryz.ntmps34]) ?_
 repeat' (first|apply Ad.assoc|apply Ad.AA|apply Ad.Ai|apply Af.nil|apply Af.one|(apply Aa.assign;rfl)|(apply Aa.box;rfl;trivial)|(apply Aa.alloc;rfl)|(apply Aa.Bd;rfl;rfl;rfl;trivial;rfl;rfl;exact Aj rfl;exact le_dec rfl)|(apply Aa.build;rfl;rfl;rfl;rfl;rfl))
 refine Ad.ghost (AL.EL 2 1 131 rfl rfl) ?_
 refine Ad.Ee (fun k:Nat=>[(1,.ref 0 0),(2,.ref 1 0),(3,.ref 2 0),(4,.p (.int .i64 (k:Int)))]) (fun k=>[(3,.vec 131 (cells (EC x.ranks k)) (EC x.ranks k).length true),(2,.box 37 [.p (.str (bs [79,114,103,97,110])),.vec 3 (EC x.ranks k).length 0 (EC x.ranks k).length,.p (.val (.slice none 0 0)),.p (.val (.slice none 0 0))]),(1,.box 37 [.p (.str ⟨#[]⟩),.p (.val (.slice none 0 0)),.p (.val (.slice none 0 0)),.p (.val (.slice none 0 0))]),(0,.box 26 (x.enc.map .p))]) 4 (fun k=>k≤x.ranks.length) (fun k=>x.ranks.length-k) 0 (by omega) (by omega) ⟨by omega,?_,?_⟩ ?_
 ·repeat (first|exact Ap.nil|refine Ap.same (by exact PV.Ac rfl) rfl ?_|refine Ap.cons trivial rfl (.of_eq (Au (by simp<;>omega))) ?_)
 ·repeat (first|exact Ak.nil|(refine Ak.cons (Aj rfl) ?_ rfl ?_ ?_;(first|exact trivial|exact AZ.Ag _ _|(simp [HB.under,AZ.under,PV.under]));(first|exact Bv.refl _|exact Bv.vec (Bl.refl _) (by simp))))
 intro k hk
 have hl:=IG x.ranks k
 have e1:EC x.ranks (k+1)=EC x.ranks k++[Sv (gi x.ranks k) (k:Int)]:=rfl
 have e2:(EC x.ranks (k+1)).length=(EC x.ranks k).length+1:=by rw [e1];simp
 by_cases hkl:k<x.ranks.length
 ·have hm:=pJ (gi x.ranks k) (hx.ranks k hkl) k ⟨by omega,by omega⟩
  repeat' (first|apply Ad.assoc|apply Ad.AA|apply Ad.region|apply Ad.Fq|apply Ad.Ar|apply Ad.Ai|apply AU.normal|apply AO.normal|apply Af.nil|apply Aq.nil|apply Af.one|(apply Aq.bar;decide +kernel)|apply Aq.quiet|(apply Aa.fn;rfl;rfl;exact hm;intro _;rfl)|(apply Aa.Dv (a:=Sv (gi x.ranks k) (k:Int));rfl;rfl;rfl;rfl;rfl;rfl;rfl;rfl;(intro _ h;cases h);rfl;rfl;rfl;decide;decide;(first|omega|(simp only [List.length_take,List.length_drop,List.length_append,List.length_singleton,List.length_cons,List.length_nil]<;>omega)))|(apply Aa.assign;rfl)|(apply Aa.move;rfl)|(apply Aa.Bz;rfl;rfl;omega)|(apply Aa.int;rfl;rfl;rfl)|(apply Aa.Ba;rfl;rfl;rfl;omega;rfl)|(apply Aa.load;rfl;rfl)|(apply Aa.BQ;rfl;rfl)|(apply Aa.AV;rfl;rfl;rfl)|(apply Aa.Bd;rfl;rfl;rfl;trivial;rfl;rfl;exact Aj rfl;exact le_dec rfl)|(apply Aa.buildSlice;rfl;rfl;rfl;decide;rfl;rfl;rfl)|(apply Ad.Ae;rfl)|(intro _;try (exfalso;omega)))
  all_goals try (exfalso;omega)
  refine Aw.normal ⟨k+1,by omega,by omega,⟨by omega,?_,?_⟩⟩
  ·repeat (first|exact Ap.nil|refine Ap.same (by exact PV.Ac rfl) rfl ?_|refine Ap.cons trivial rfl (.of_eq (Au (by simp<;>omega))) ?_)
  ·rw [e2,e1];repeat (first|exact Ak.nil|(refine Ak.cons (Aj rfl) ?_ rfl ?_ ?_;(first|exact trivial|exact AZ.Ag _ _|(simp [HB.under,AZ.under,PV.under]));(first|exact Bv.refl _|exact Bv.vec (Bl.refl _) (by simp))))
 obtain rfl:k=x.ranks.length:=by omega
 clear e1 e2 hl hkl hk
 have eO:kU x=⟨[79,114,103,97,110],EC x.ranks x.ranks.length,Gs (EC x.ranks x.ranks.length) x.Ah x.Ah.length,E8 x.Ah.length x.links x.links.length⟩:=rfl
 rw [eO]
 generalize EC x.ranks x.ranks.length=R at *
 clear eO
 repeat' (first|(refine Ad.at 6 ?_;refine Ad.ghost (AL.trans (AL.AP 2 1 rfl rfl rfl) (AL.trans (AL.EL 2 2 97 rfl rfl) (AL.EL 2 3 147 rfl rfl))) ?_;first|apply Ad.AA|apply Ad.Bj)|apply Ad.assoc|apply Ad.AA|apply Ad.A8|apply Ad.Ai|apply AU.normal|apply AO.exit|apply Aw.exit|apply Af.nil|apply Af.one|(apply Aa.assign;rfl)|(apply Aa.move;rfl)|(apply Aa.int;rfl;rfl;rfl)|(apply Aa.load;rfl;rfl)|(apply Aa.BQ;rfl;rfl)|(apply Aa.AV;rfl;rfl;rfl)|(apply Ad.Ae;rfl)|(intro _;try (exfalso;omega)))
 all_goals try (exfalso;omega)
 refine Ad.Ee (fun k:Nat=>[(1,.ref 0 0),(2,.ref 1 0),(3,.ref 2 0),(5,.p (.int .i64 (k:Int)))]) (fun k=>[(5,.vec 147 [] 0 true),(4,.vec 97 (cells (Gs R x.Ah k)) (Gs R x.Ah k).length true),(2,.box 37 [.p (.str (bs [79,114,103,97,110])),.p (.lst 131 (cells R) R.length),.vec 4 (Gs R x.Ah k).length 0 (Gs R x.Ah k).length,.vec 5 0 0 0]),(1,.box 37 [.p (.str ⟨#[]⟩),.p (.val (.slice none 0 0)),.p (.val (.slice none 0 0)),.p (.val (.slice none 0 0))]),(0,.box 26 (x.enc.map .p))]) 6 (fun k=>k≤x.Ah.length) (fun k=>x.Ah.length-k) 0 (by omega) (by omega) ⟨by omega,?_,?_⟩ ?_
 ·repeat (first|exact Ap.nil|refine Ap.same (by exact PV.Ac rfl) rfl ?_|refine Ap.cons trivial rfl (.of_eq (Au (by simp<;>omega))) ?_)
 ·repeat (first|exact Ak.nil|(refine Ak.cons (Aj rfl) ?_ rfl ?_ ?_;(first|exact trivial|exact AZ.Ag _ _|(simp [HB.under,AZ.under,PV.under]));(first|exact Bv.refl _|exact Bv.vec (Bl.refl _) (by simp))))
 intro k hk
 have hl:=Lp R x.Ah k
 have e1:Gs R x.Ah (k+1)=Gs R x.Ah k++[ZY R (gi x.Ah k) k]:=rfl
 have e2:(Gs R x.Ah (k+1)).length=(Gs R x.Ah k).length+1:=by rw [e1];simp
 by_cases hkl:k<x.Ah.length
 ·obtain ⟨q1,q2,q3,q4⟩:=hx.Ah k hkl
  have q5:=hf4 k hkl
  have eD:ZY R (gi x.Ah k) k=⟨Mc 68 (k:Int),(gi x.Ah k).Dx,EI (gi x.Ah k),E5 (gi x.Ah k),Gg R (EI (gi x.Ah k)) (E5 (gi x.Ah k)) (gi x.Ah k).stops (gi x.Ah k).stops.length⟩:=rfl
  have hlo:0≤EI (gi x.Ah k)∧EI (gi x.Ah k)≤E5 (gi x.Ah k)∧E5 (gi x.Ah k)≤127:=by unfold E5 EI;omega
  have hst:(gi x.Ah k).stops.length≤3:=q5
  repeat' (first|apply Ad.assoc|apply Ad.AA|apply Ad.Ar|apply Ad.Ai|apply Af.nil|apply Af.one|(apply Aa.Gq;rfl;rfl;rfl;rfl;rfl;omega)|(apply Aa.assign;rfl)|(apply Aa.move;rfl)|(apply Aa.Bz;rfl;rfl;omega)|(apply Aa.FX;rfl;rfl;omega;omega)|(apply Aa.int;rfl;rfl;rfl)|(apply Aa.Ba;rfl;rfl;rfl;omega;rfl)|(apply Aa.load;rfl;rfl)|(apply Aa.BQ;rfl;rfl)|(apply Aa.AV;rfl;rfl;rfl)|(apply Aa.alloc;rfl)|(apply Aa.Bd;rfl;rfl;rfl;trivial;rfl;rfl;exact Aj rfl;exact le_dec rfl)|(apply Aa.build;rfl;rfl;rfl;rfl;rfl)|(apply Aa.buildSlice;rfl;rfl;rfl;decide;rfl;rfl;rfl)|(apply Aa.PN;rfl;rfl;(first|omega|(simp only [List.length_take,List.length_drop,List.length_append,List.length_singleton,List.length_cons,List.length_nil]<;>omega)))|(apply Aa.DZ;rfl;rfl;rfl;rfl;omega)|(apply Aa.Jt;rfl;rfl;rfl;rfl;omega)|(apply Ad.Ae;rfl)|(intro _;try (exfalso;omega)))
  all_goals try (exfalso;omega)
  refine Ad.ghost (AL.EL 8 4 122 rfl rfl) ?_
  refine Ad.Ee (fun j:Nat=>[(1,.ref 0 0),(2,.ref 1 0),(3,.ref 2 0),(5,.p (.int .i64 (k:Int))),(6,.ref 6 0),(7,.p (.int .i64 (EI (gi x.Ah k)))),(8,.ref 8 0),(9,.p (.int .i64 (j:Int)))]) (fun j=>[(9,.vec 122 (cells (Gg R (EI (gi x.Ah k)) (E5 (gi x.Ah k)) (gi x.Ah k).stops j)) (Gg R (EI (gi x.Ah k)) (E5 (gi x.Ah k)) (gi x.Ah k).stops j).length true),(8,.box 97 [.p (.str (bs (Mc 68 (k:Int)))),.p (.bool (gi x.Ah k).Dx),.p (.int .i64 (EI (gi x.Ah k))),.p (.int .i64 (E5 (gi x.Ah k))),.vec 9 (Gg R (EI (gi x.Ah k)) (E5 (gi x.Ah k)) (gi x.Ah k).stops j).length 0 (Gg R (EI (gi x.Ah k)) (E5 (gi x.Ah k)) (gi x.Ah k).stops j).length]),(6,.box 75 ((Enc.enc (gi x.Ah k)).map .p)),(5,.vec 147 [] 0 true),(4,.vec 97 (cells (Gs R x.Ah k)) (Gs R x.Ah k).length true),(2,.box 37 [.p (.str (bs [79,114,103,97,110])),.p (.lst 131 (cells R) R.length),.vec 4 (Gs R x.Ah k).length 0 (Gs R x.Ah k).length,.vec 5 0 0 0]),(1,.box 37 [.p (.str ⟨#[]⟩),.p (.val (.slice none 0 0)),.p (.val (.slice none 0 0)),.p (.val (.slice none 0 0))]),(0,.box 26 (x.enc.map .p))]) 10 (fun j=>j≤(gi x.Ah k).stops.length) (fun j=>(gi x.Ah k).stops.length-j) 0 (by omega) (by omega) ⟨by omega,?_,?_⟩ ?_
  ·repeat (first|exact Ap.nil|refine Ap.same (by exact PV.Ac rfl) rfl ?_|refine Ap.cons trivial rfl (.of_eq (Au (by simp<;>omega))) ?_)
  ·repeat (first|exact Ak.nil|(refine Ak.cons (Aj rfl) ?_ rfl ?_ ?_;(first|exact trivial|exact AZ.Ag _ _|(simp [HB.under,AZ.under,PV.under]));(first|exact Bv.refl _|exact Bv.vec (Bl.refl _) (by simp))))
  intro j hj
  have jl:=Ht R (EI (gi x.Ah k)) (E5 (gi x.Ah k)) (gi x.Ah k).stops j
  have j1:Gg R (EI (gi x.Ah k)) (E5 (gi x.Ah k)) (gi x.Ah k).stops (j+1)=Gg R (EI (gi x.Ah k)) (E5 (gi x.Ah k)) (gi x.Ah k).stops j++[Qs R (EI (gi x.Ah k)) (E5 (gi x.Ah k)) (gi (gi x.Ah k).stops j) j]:=rfl
  have j2:(Gg R (EI (gi x.Ah k)) (E5 (gi x.Ah k)) (gi x.Ah k).stops (j+1)).length=(Gg R (EI (gi x.Ah k)) (E5 (gi x.Ah k)) (gi x.Ah k).stops j).length+1:=by rw [j1];simp
  by_cases hjl:j<(gi x.Ah k).stops.length
  ·have hp:=(Vj R (EI (gi x.Ah k)) (E5 (gi x.Ah k)) (gi (gi x.Ah k).stops j) j hR hlo (q4 j hjl) (by omega)).1
   repeat' (first|apply Ad.assoc|apply Ad.AA|apply Ad.region|apply Ad.Fq|apply Ad.Ar|apply Ad.Ai|apply AU.normal|apply AO.normal|apply Af.nil|apply Aq.nil|apply Af.one|(apply Aq.bar;decide +kernel)|apply Aq.quiet|(apply Aa.fn;rfl;rfl;exact hp;intro _;rfl)|(apply Aa.Dv (a:=Qs R (EI (gi x.Ah k)) (E5 (gi x.Ah k)) (gi (gi x.Ah k).stops j) j);rfl;rfl;rfl;rfl;rfl;rfl;rfl;rfl;(intro _ h;cases h);rfl;rfl;rfl;decide;decide;(first|omega|(simp only [List.length_take,List.length_drop,List.length_append,List.length_singleton,List.length_cons,List.length_nil]<;>omega)))|(apply Aa.assign;rfl)|(apply Aa.move;rfl)|(apply Aa.Bz;rfl;rfl;omega)|(apply Aa.int;rfl;rfl;rfl)|(apply Aa.Ba;rfl;rfl;rfl;omega;rfl)|(apply Aa.load;rfl;rfl)|(apply Aa.BQ;rfl;rfl)|(apply Aa.AV;rfl;rfl;rfl)|(apply Aa.Bd;rfl;rfl;rfl;trivial;rfl;rfl;exact Aj rfl;exact le_dec rfl)|(apply Aa.buildSlice;rfl;rfl;rfl;decide;rfl;rfl;rfl)|(apply Ad.Ae;rfl)|(intro _;try (exfalso;omega)))
   all_goals try (exfalso;omega)
   refine Aw.normal ⟨j+1,by omega,by omega,⟨by omega,?_,?_⟩⟩
   ·repeat (first|exact Ap.nil|refine Ap.same (by exact PV.Ac rfl) rfl ?_|refine Ap.cons trivial rfl (.of_eq (Au (by simp<;>omega))) ?_)
   ·rw [j2,j1];repeat (first|exact Ak.nil|(refine Ak.cons (Aj rfl) ?_ rfl ?_ ?_;(first|exact trivial|exact AZ.Ag _ _|(simp [HB.under,AZ.under,PV.under]));(first|exact Bv.refl _|exact Bv.vec (Bl.refl _) (by simp))))
  obtain rfl:j=(gi x.Ah k).stops.length:=by omega
  repeat' (first|(refine Ad.atEnd 16 ?_;refine Ad.ghost (AL.AP 8 4 rfl rfl rfl) ?_;first|apply Ad.region|apply Ad.Fq)|apply Ad.assoc|apply Ad.AA|apply Ad.region|apply Ad.A8|apply AU.normal|apply AO.normal|apply AO.exit|apply Aw.exit|apply Af.nil|apply Af.one|(apply Aa.Dv (a:=ZY R (gi x.Ah k) k);rfl;rfl;rfl;rfl;rfl;rfl;rfl;rfl;(intro _ h;cases h);rfl;rfl;rfl;decide;decide;(first|omega|(simp only [List.length_take,List.length_drop,List.length_append,List.length_singleton,List.length_cons,List.length_nil]<;>omega)))|(apply Aa.assign;rfl)|(apply Aa.move;rfl)|(apply Aa.Bz;rfl;rfl;omega)|(apply Aa.int;rfl;rfl;rfl)|(apply Aa.load;rfl;rfl)|(apply Aa.BQ;rfl;rfl)|(apply Aa.AV;rfl;rfl;rfl)|(apply Aa.Bd;rfl;rfl;rfl;trivial;rfl;rfl;exact Aj rfl;exact le_dec rfl)|(apply Aa.buildSlice;rfl;rfl;rfl;decide;rfl;rfl;rfl)|(apply Ad.Ae;rfl)|(intro _;try (exfalso;omega)))
  all_goals try (exfalso;omega)
  refine Aw.normal ⟨k+1,by omega,by omega,⟨by omega,?_,?_⟩⟩
  ·repeat (first|exact Ap.nil|refine Ap.same (by exact PV.Ac rfl) rfl ?_|refine Ap.cons trivial rfl (.of_eq (Au (by simp<;>omega))) ?_)
  ·rw [e2,e1];repeat (first|exact Ak.nil|(refine Ak.cons (Aj rfl) ?_ rfl ?_ ?_;(first|exact trivial|exact AZ.Ag _ _|(simp [HB.under,AZ.under,PV.under]));(first|exact Bv.refl _|exact Bv.vec (Bl.refl _) (by simp))))
 obtain rfl:k=x.Ah.length:=by omega
 clear e1 e2 hl hkl hk
 have hDl:=Lp R x.Ah x.Ah.length
 generalize Gs R x.Ah x.Ah.length=D at *
 repeat' (first|(refine Ad.at 17 ?_;refine Ad.ghost (AL.AP 2 2 rfl rfl rfl) ?_;first|apply Ad.AA|apply Ad.Bj)|apply Ad.assoc|apply Ad.AA|apply Ad.A8|apply Ad.Ai|apply AU.normal|apply AO.exit|apply Aw.exit|apply Af.nil|apply Af.one|(apply Aa.assign;rfl)|(apply Aa.move;rfl)|(apply Aa.int;rfl;rfl;rfl)|(apply Aa.load;rfl;rfl)|(apply Aa.BQ;rfl;rfl)|(apply Aa.AV;rfl;rfl;rfl)|(apply Ad.Ae;rfl)|(intro _;try (exfalso;omega)))
 all_goals try (exfalso;omega)
 refine Ad.Ee (fun k:Nat=>[(1,.ref 0 0),(2,.ref 1 0),(3,.ref 2 0),(10,.p (.int .i64 (x.Ah.length:Int))),(11,.p (.int .i64 (k:Int)))]) (fun k=>[(5,.vec 147 (cells (E8 x.Ah.length x.links k)) (E8 x.Ah.length x.links k).length true),(2,.box 37 [.p (.str (bs [79,114,103,97,110])),.p (.lst 131 (cells R) R.length),.p (.lst 97 (cells D) D.length),.vec 5 (E8 x.Ah.length x.links k).length 0 (E8 x.Ah.length x.links k).length]),(1,.box 37 [.p (.str ⟨#[]⟩),.p (.val (.slice none 0 0)),.p (.val (.slice none 0 0)),.p (.val (.slice none 0 0))]),(0,.box 26 (x.enc.map .p))]) 6 (fun k=>k≤x.links.length) (fun k=>x.links.length-k) 0 (by omega) (by omega) ⟨by omega,?_,?_⟩ ?_
 ·repeat (first|exact Ap.nil|refine Ap.same (by exact PV.Ac rfl) rfl ?_|refine Ap.cons trivial rfl (.of_eq (Au (by simp<;>omega))) ?_)
 ·repeat (first|exact Ak.nil|(refine Ak.cons (Aj rfl) ?_ rfl ?_ ?_;(first|exact trivial|exact AZ.Ag _ _|(simp [HB.under,AZ.under,PV.under]));(first|exact Bv.refl _|exact Bv.vec (Bl.refl _) (by simp))))
 intro k hk
 have hl:=OE x.Ah.length x.links k
 by_cases hkl:k<x.links.length
 ·obtain ⟨q1,q2,q3⟩:=hx.links k hkl
  have hne:((gi x.links k).Df:Int) % x.Ah.length≥0:=Int.emod_nonneg _ (by omega)
  by_cases c1:((gi x.links k).Df:Int) % x.Ah.length=((gi x.links k).tgt:Int) % x.Ah.length
  ·by_cases c2:(gi x.links k).shift.tmod 25=0
   ·have e1:E8 x.Ah.length x.links (k+1)=E8 x.Ah.length x.links k++[(⟨Mc 67 (k:Int),((gi x.links k).Df:Int) % x.Ah.length,((gi x.links k).tgt:Int) % x.Ah.length,12,(gi x.links k).through⟩:Rt)]:=by
     show E8 x.Ah.length x.links k++[UW x.Ah.length (gi x.links k) k]=_
     unfold UW
     rw [if_pos ⟨c1,c2⟩]
    have e2:(E8 x.Ah.length x.links (k+1)).length=(E8 x.Ah.length x.links k).length+1:=by rw [e1];simp
    repeat' (first|apply Ad.assoc|apply Ad.AA|apply Ad.Bj|apply Ad.region|apply Ad.Ar|apply Ad.Ai|apply AU.normal|apply AO.normal|apply Af.nil|apply Aq.nil|apply Af.one|(apply Aq.bar;decide +kernel)|apply Aq.quiet|(apply Af.take;rfl;rfl)|(apply Af.guard;rfl;rfl)|(apply Aa.Gq;rfl;rfl;rfl;rfl;rfl;omega)|(apply Aa.Dv (a:=(⟨Mc 67 (k:Int),((gi x.links k).Df:Int) % x.Ah.length,((gi x.links k).tgt:Int) % x.Ah.length,12,(gi x.links k).through⟩:Rt));rfl;rfl;rfl;rfl;rfl;rfl;rfl;rfl;(intro _ h;cases h);rfl;rfl;rfl;decide;decide;(first|omega|(simp only [List.length_take,List.length_drop,List.length_append,List.length_singleton,List.length_cons,List.length_nil]<;>omega)))|(apply Aa.assign;rfl)|(apply Aa.move;rfl)|(apply Aa.Bz;rfl;rfl;omega)|(apply Aa.FX;rfl;rfl;omega;omega)|(apply Aa.int;rfl;rfl;rfl)|(apply Aa.Ba;rfl;rfl;rfl;omega;rfl)|(apply Aa.load;rfl;rfl)|(apply Aa.Bo;rfl;rfl)|(apply Aa.BQ;rfl;rfl)|(apply Aa.AV;rfl;rfl;rfl)|(apply Aa.alloc;rfl)|(apply Aa.Bd;rfl;rfl;rfl;trivial;rfl;rfl;exact Aj rfl;exact le_dec rfl)|(apply Aa.build;rfl;rfl;rfl;rfl;rfl)|(apply Aa.buildSlice;rfl;rfl;rfl;decide;rfl;rfl;rfl)|(apply Aa.PN;rfl;rfl;(first|omega|(simp only [List.length_take,List.length_drop,List.length_append,List.length_singleton,List.length_cons,List.length_nil]<;>omega)))|(apply Aa.DZ;rfl;rfl;rfl;rfl;omega)|(apply Aa.Jt;rfl;rfl;rfl;rfl;omega)|(apply Ad.Ae;rfl)|(intro _;try (exfalso;omega)))
    all_goals try (exfalso;omega)
    refine Aw.normal ⟨k+1,by omega,by omega,⟨by omega,?_,?_⟩⟩
    ·repeat (first|exact Ap.nil|refine Ap.same (by exact PV.Ac rfl) rfl ?_|refine Ap.cons trivial rfl (.of_eq (Au (by simp<;>omega))) ?_)
    ·rw [e2,e1];repeat (first|exact Ak.nil|(refine Ak.cons (Aj rfl) ?_ rfl ?_ ?_;(first|exact trivial|exact AZ.Ag _ _|(simp [HB.under,AZ.under,PV.under]));(first|exact Bv.refl _|exact Bv.vec (Bl.refl _) (by simp))))
   ·have e1:E8 x.Ah.length x.links (k+1)=E8 x.Ah.length x.links k++[(⟨Mc 67 (k:Int),((gi x.links k).Df:Int) % x.Ah.length,((gi x.links k).tgt:Int) % x.Ah.length,(gi x.links k).shift.tmod 25,(gi x.links k).through⟩:Rt)]:=by
     show E8 x.Ah.length x.links k++[UW x.Ah.length (gi x.links k) k]=_
     unfold UW
     rw [if_neg (fun h=>c2 h.2)]
    have e2:(E8 x.Ah.length x.links (k+1)).length=(E8 x.Ah.length x.links k).length+1:=by rw [e1];simp
    repeat' (first|apply Ad.assoc|apply Ad.AA|apply Ad.Bj|apply Ad.region|apply Ad.Ar|apply Ad.Ai|apply AU.normal|apply AO.normal|apply Af.nil|apply Aq.nil|apply Af.one|(apply Aq.bar;decide +kernel)|apply Aq.quiet|(apply Af.take;rfl;rfl)|(apply Af.guard;rfl;rfl)|(apply Aa.Gq;rfl;rfl;rfl;rfl;rfl;omega)|(apply Aa.Dv (a:=(⟨Mc 67 (k:Int),((gi x.links k).Df:Int) % x.Ah.length,((gi x.links k).tgt:Int) % x.Ah.length,(gi x.links k).shift.tmod 25,(gi x.links k).through⟩:Rt));rfl;rfl;rfl;rfl;rfl;rfl;rfl;rfl;(intro _ h;cases h);rfl;rfl;rfl;decide;decide;(first|omega|(simp only [List.length_take,List.length_drop,List.length_append,List.length_singleton,List.length_cons,List.length_nil]<;>omega)))|(apply Aa.assign;rfl)|(apply Aa.move;rfl)|(apply Aa.Bz;rfl;rfl;omega)|(apply Aa.FX;rfl;rfl;omega;omega)|(apply Aa.int;rfl;rfl;rfl)|(apply Aa.Ba;rfl;rfl;rfl;omega;rfl)|(apply Aa.load;rfl;rfl)|(apply Aa.Bo;rfl;rfl)|(apply Aa.BQ;rfl;rfl)|(apply Aa.AV;rfl;rfl;rfl)|(apply Aa.alloc;rfl)|(apply Aa.Bd;rfl;rfl;rfl;trivial;rfl;rfl;exact Aj rfl;exact le_dec rfl)|(apply Aa.build;rfl;rfl;rfl;rfl;rfl)|(apply Aa.buildSlice;rfl;rfl;rfl;decide;rfl;rfl;rfl)|(apply Aa.PN;rfl;rfl;(first|omega|(simp only [List.length_take,List.length_drop,List.length_append,List.length_singleton,List.length_cons,List.length_nil]<;>omega)))|(apply Aa.DZ;rfl;rfl;rfl;rfl;omega)|(apply Aa.Jt;rfl;rfl;rfl;rfl;omega)|(apply Ad.Ae;rfl)|(intro _;try (exfalso;omega)))
    all_goals try (exfalso;omega)
    refine Aw.normal ⟨k+1,by omega,by omega,⟨by omega,?_,?_⟩⟩
    ·repeat (first|exact Ap.nil|refine Ap.same (by exact PV.Ac rfl) rfl ?_|refine Ap.cons trivial rfl (.of_eq (Au (by simp<;>omega))) ?_)
    ·rw [e2,e1];repeat (first|exact Ak.nil|(refine Ak.cons (Aj rfl) ?_ rfl ?_ ?_;(first|exact trivial|exact AZ.Ag _ _|(simp [HB.under,AZ.under,PV.under]));(first|exact Bv.refl _|exact Bv.vec (Bl.refl _) (by simp))))
  ·have e1:E8 x.Ah.length x.links (k+1)=E8 x.Ah.length x.links k++[(⟨Mc 67 (k:Int),((gi x.links k).Df:Int) % x.Ah.length,((gi x.links k).tgt:Int) % x.Ah.length,(gi x.links k).shift.tmod 25,(gi x.links k).through⟩:Rt)]:=by
    show E8 x.Ah.length x.links k++[UW x.Ah.length (gi x.links k) k]=_
    unfold UW
    rw [if_neg (fun h=>c1 h.1)]
   have e2:(E8 x.Ah.length x.links (k+1)).length=(E8 x.Ah.length x.links k).length+1:=by rw [e1];simp
   repeat' (first|apply Ad.assoc|apply Ad.AA|apply Ad.Bj|apply Ad.region|apply Ad.Ar|apply Ad.Ai|apply AU.normal|apply AO.normal|apply Af.nil|apply Aq.nil|apply Af.one|(apply Aq.bar;decide +kernel)|apply Aq.quiet|(apply Af.drop;rfl;rfl;rfl)|(apply Af.guard;rfl;rfl)|(apply Aa.Gq;rfl;rfl;rfl;rfl;rfl;omega)|(apply Aa.Dv (a:=(⟨Mc 67 (k:Int),((gi x.links k).Df:Int) % x.Ah.length,((gi x.links k).tgt:Int) % x.Ah.length,(gi x.links k).shift.tmod 25,(gi x.links k).through⟩:Rt));rfl;rfl;rfl;rfl;rfl;rfl;rfl;rfl;(intro _ h;cases h);rfl;rfl;rfl;decide;decide;(first|omega|(simp only [List.length_take,List.length_drop,List.length_append,List.length_singleton,List.length_cons,List.length_nil]<;>omega)))|(apply Aa.assign;rfl)|(apply Aa.move;rfl)|(apply Aa.Bz;rfl;rfl;omega)|(apply Aa.FX;rfl;rfl;omega;omega)|(apply Aa.int;rfl;rfl;rfl)|(apply Aa.Ba;rfl;rfl;rfl;omega;rfl)|(apply Aa.load;rfl;rfl)|(apply Aa.AQ;rfl;rfl)|(apply Aa.BQ;rfl;rfl)|(apply Aa.AV;rfl;rfl;rfl)|(apply Aa.alloc;rfl)|(apply Aa.Bd;rfl;rfl;rfl;trivial;rfl;rfl;exact Aj rfl;exact le_dec rfl)|(apply Aa.build;rfl;rfl;rfl;rfl;rfl)|(apply Aa.buildSlice;rfl;rfl;rfl;decide;rfl;rfl;rfl)|(apply Aa.PN;rfl;rfl;(first|omega|(simp only [List.length_take,List.length_drop,List.length_append,List.length_singleton,List.length_cons,List.length_nil]<;>omega)))|(apply Aa.DZ;rfl;rfl;rfl;rfl;omega)|(apply Aa.Jt;rfl;rfl;rfl;rfl;omega)|(apply Ad.Az;rfl)|(apply Ad.Ae;rfl)|(intro _;try (exfalso;omega)))
   all_goals try (exfalso;omega)
   refine Aw.normal ⟨k+1,by omega,by omega,⟨by omega,?_,?_⟩⟩
   ·repeat (first|exact Ap.nil|refine Ap.same (by exact PV.Ac rfl) rfl ?_|refine Ap.cons trivial rfl (.of_eq (Au (by simp<;>omega))) ?_)
   ·rw [e2,e1];repeat (first|exact Ak.nil|(refine Ak.cons (Aj rfl) ?_ rfl ?_ ?_;(first|exact trivial|exact AZ.Ag _ _|(simp [HB.under,AZ.under,PV.under]));(first|exact Bv.refl _|exact Bv.vec (Bl.refl _) (by simp))))
 obtain rfl:k=x.links.length:=by omega
 repeat' (first|(refine Ad.at 26 ?_;refine Ad.ghost (AL.AP 2 3 rfl rfl rfl) ?_;first|apply Ad.AA|apply Ad.Bj)|apply Ad.assoc|apply Ad.AA|apply Ad.A8|apply AU.normal|apply AO.exit|apply Aw.exit|apply Ad.ret|apply Af.nil|apply Af.one|(apply Aa.move;rfl)|(apply Aa.int;rfl;rfl;rfl)|(apply Aa.load;rfl;rfl)|(apply Aa.BQ;rfl;rfl)|(apply Aa.AV;rfl;rfl;rfl)|(apply Aa.Bd;rfl;rfl;rfl;trivial;rfl;rfl;exact Aj rfl;exact le_dec rfl)|(apply Ad.Ae;rfl)|(intro _;try (exfalso;omega)))
 all_goals first|(exfalso;omega)|(refine Done.ret rfl (.refl _) (by exact PV.Ac rfl) Ak.nil (Nat.zero_le _) (Nat.le_refl _) ⟨?_,rfl,rfl⟩;rfl)
end Go.Proofs.YtdabojnmoejilaaGreatDoor
namespace Go.Proofs.YtdabojnmoejilaaGreatDoor
open Go Go.Am Go.Vm
attribute [local irreducible] Aa Af Aq Ad BF AX Ci AU AO Aw Vm.Done CS Bq
attribute [local irreducible] Sv Qs DW DN Dc
theorem Z5 (rk:List Fh) (l:List qj):∀ k i,i<k→gi (Gs rk l k) i=ZY rk (gi l i) i
 |k+1,i,h=>by
  simp only [Gs,U9,Lp]
  by_cases h1:i<k
  ·rw [if_pos h1];exact Z5 rk l k i h1
  ·obtain rfl:i=k:=by omega
   simp
theorem X3 (rk:List Fh) (lo hi:Int) (l:List nJ):∀ k i,i<k→gi (Gg rk lo hi l k) i=Qs rk lo hi (gi l i) i
 |k+1,i,h=>by
  simp only [Gg,U9,Ht]
  by_cases h1:i<k
  ·rw [if_pos h1];exact X3 rk lo hi l k i h1
  ·obtain rfl:i=k:=by omega
   simp
theorem bF (n:Nat) (l:List wM):∀ k i,i<k→gi (E8 n l k) i=UW n (gi l i) i
 |k+1,i,h=>by
  simp only [E8,U9,OE]
  by_cases h1:i<k
  ·rw [if_pos h1];exact bF n l k i h1
  ·obtain rfl:i=k:=by omega
   simp
theorem qU (b:qj):0≤EI b∧EI b≤E5 b∧E5 b≤127:=by unfold E5 EI;omega
structure a2i (o:D7):Prop where
 sm:GR o
 ranks:1≤o.ranks.length∧o.ranks.length≤3
 Ah:1≤o.Ah.length∧o.Ah.length≤3
 CZ:o.CZ.length≤3
 stops:∀ i,i<o.Ah.length→(gi o.Ah i).stops.length≤3
 rk:kR o.ranks
 dv:∀ i,i<o.Ah.length→0≤(gi o.Ah i).lo∧(gi o.Ah i).lo≤(gi o.Ah i).hi∧(gi o.Ah i).hi≤127
 dn:∀ i,i<o.Ah.length→(gi o.Ah i).name=Mc 68 i
 st:∀ i,i<o.Ah.length→∀ j,j<(gi o.Ah i).stops.length→Je o.ranks (gi o.Ah i).lo (gi o.Ah i).hi (gi (gi o.Ah i).stops j)=0∧(gi (gi o.Ah i).stops j).name=Mc 83 j∧∃ a,a<6∧(gi (gi o.Ah i).stops j).Dp=gi O8 a
 cp:∀ i,i<o.CZ.length→a0l o.Ah.length (gi o.CZ i)∧(gi o.CZ i).name=Mc 67 i
 rn:∀ i,i<o.ranks.length→(gi o.ranks i).name=Mc 82 i
 nm:o.name=[79,114,103,97,110]
theorem xZ (n:Nat) (c:wM) (k:Nat) (hn:1≤n) (hc:c.Ok) (hk:k<10):a0l n (UW n c k):=by
 obtain ⟨c1,c2,c3⟩:=hc
 have m1:=Int.emod_nonneg (c.Df:Int) (show (n:Int)≠0 by omega)
 have m2:=Int.emod_lt_of_pos (c.Df:Int) (show 0<(n:Int) by omega)
 have m3:=Int.emod_nonneg (c.tgt:Int) (show (n:Int)≠0 by omega)
 have m4:=Int.emod_lt_of_pos (c.tgt:Int) (show 0<(n:Int) by omega)
 refine ⟨YO (by decide) hk,⟨m1,m2⟩,⟨m3,m4⟩,?_,?_⟩
 ·have e:(UW n c k).shift=if (c.Df:Int) % n=(c.tgt:Int) % n∧c.shift.tmod 25=0 then 12 else c.shift.tmod 25:=rfl
  rw [e]
  split
  ·omega
  ·have:=Int.tmod_lt_of_pos c.shift (show (0:Int)<25 by decide)
   have:=Int.lt_tmod_of_pos c.shift (show (0:Int)<25 by decide)
   omega
 ·show ¬ ((c.Df:Int) % n=(c.tgt:Int) % n∧(if (c.Df:Int) % n=(c.tgt:Int) % n∧c.shift.tmod 25=0 then (12:Int) else c.shift.tmod 25)=0)
  intro h
  obtain ⟨h1,h2⟩:=h
  by_cases h3:c.shift.tmod 25=0
  ·rw [if_pos ⟨h1,h3⟩] at h2;omega
  ·rw [if_neg (fun h=>h3 h.2)] at h2;exact h3 h2
theorem a1t (x:F7) (i:Int):Qe (Sv x i):=by
 have h:=zF x i
 have w:=ug x i
 unfold Sv at h w ⊢
 refine ⟨by simp,?_,by omega⟩
 have:(gi N7 (x.Ep % 3)).length≤5:=zV (P:=fun l:List UInt8=>l.length≤5) (by decide) (show x.Ep % 3<N7.length from Nat.mod_lt _ (by decide))
 show (gi N7 (x.Ep % 3)).length<_
 omega
theorem uV (x:F7) (i:Nat) (hi:i<10):(Sv x i).name=Mc 82 i:=by
 unfold Sv Mc
 show [82,UInt8.ofNat (48+(i:Int) % 10).toNat]=_
 rw [show (i:Int) % 10=i by omega]
theorem a0g (x:oJ) (hx:x.Ok) (hf:QE x):a2i (kU x):=by
 obtain ⟨hf1,hf2,hf3,hf4⟩:=hf
 have hR:=YL hx.ranks (by omega)
 have e1:(kU x).ranks=EC x.ranks x.ranks.length:=rfl
 have e2:(kU x).Ah=Gs (EC x.ranks x.ranks.length) x.Ah x.Ah.length:=rfl
 have e3:(kU x).CZ=E8 x.Ah.length x.links x.links.length:=rfl
 have e4:(kU x).name=[79,114,103,97,110]:=rfl
 have rn:∀ i,i<x.ranks.length→gi (EC x.ranks x.ranks.length) i=Sv (gi x.ranks i) (i:Int):=RS _ _
 generalize hRR:EC x.ranks x.ranks.length=R at *
 have hRl:R.length=x.ranks.length:=by rw [← hRR,IG]
 have dl:=Lp R x.Ah x.Ah.length
 have cl:=OE x.Ah.length x.links x.links.length
 have dg:∀ i,i<x.Ah.length→gi (Gs R x.Ah x.Ah.length) i=ZY R (gi x.Ah i) i:=Z5 _ _ _
 have cg:∀ i,i<x.links.length→gi (E8 x.Ah.length x.links x.links.length) i=UW x.Ah.length (gi x.links i) i:=bF _ _ _
 have ds:∀ b k,(ZY R b k).stops=Gg R (EI b) (E5 b) b.stops b.stops.length:=fun _ _=>rfl
 have sp:∀ i,i<x.Ah.length→∀ j,j<(gi x.Ah i).stops.length→gi (Gg R (EI (gi x.Ah i)) (E5 (gi x.Ah i)) (gi x.Ah i).stops (gi x.Ah i).stops.length) j=Qs R (EI (gi x.Ah i)) (E5 (gi x.Ah i)) (gi (gi x.Ah i).stops j) j∧sU R (EI (gi x.Ah i)) (E5 (gi x.Ah i)) (gi (gi x.Ah i).stops j) j (Qs R (EI (gi x.Ah i)) (E5 (gi x.Ah i)) (gi (gi x.Ah i).stops j) j):=fun i hi j hj =>
  ⟨X3 _ _ _ _ _ _ hj,Vj R _ _ _ j hR (qU _) ((hx.Ah i hi).all j hj) (by have:=hf4 i hi;omega)⟩
 refine ⟨⟨by rw [e4];simp,by rw [e1];omega,by rw [e2];omega,by rw [e3];omega,fun i hi=>?_,fun i hi=>?_,fun i hi=>?_⟩,by rw [e1];omega,by rw [e2];omega,by rw [e3];omega,fun i hi=>?_,by rw [e1];exact hR,fun i hi=>?_,fun i hi=>?_,fun i hi j hj=>?_,fun i hi=>?_,fun i hi=>?_,e4⟩
 ·rw [e1] at hi ⊢;rw [rn i (by omega)];exact a1t _ _
 ·rw [e2] at hi ⊢;rw [dg i (by omega)]
  refine ⟨by simp [ZY,Mc],by rw [ds,Ht];have:=hf4 i (by omega);omega,fun j hj=>?_⟩
  rw [ds,Ht] at hj
  rw [ds,(sp i (by omega) j hj).1]
  exact (sp i (by omega) j hj).2.2.2.2.1
 ·rw [e3] at hi ⊢;rw [cg i (by omega)];simp [UW,Mc]
 ·rw [e2] at hi ⊢;rw [dg i (by omega),ds,Ht];exact hf4 i (by omega)
 ·rw [e2] at hi ⊢;rw [dg i (by omega)];exact qU _
 ·rw [e2] at hi ⊢;rw [dg i (by omega)];rfl
 ·rw [e2] at hi hj ⊢;rw [dg i (by omega),ds,Ht] at hj;rw [e1,dg i (by omega),ds,(sp i (by omega) j hj).1]
  exact ⟨(sp i (by omega) j hj).2.2.2.1,(sp i (by omega) j hj).2.2.1,(sp i (by omega) j hj).2.2.2.2.2⟩
 ·rw [e3] at hi ⊢;rw [e2,dl,cg i (by omega)]
  exact ⟨xZ _ _ _ (by omega) (hx.links i (by omega)) (by omega),rfl⟩
 ·rw [e1] at hi ⊢;rw [rn i (by omega)];exact uV _ _ (by omega)
end Go.Proofs.YtdabojnmoejilaaGreatDoor
namespace Go.Proofs.YtdabojnmoejilaaGreatDoor
open Go Go.Am Go.Vm
attribute [local irreducible] DW DN
theorem SV {rk:List Fh} {l:List Ld}:∀ (n k:Nat),l.length-k=n→Gt rk l k=0→∀ i,k≤i→i<l.length→Kz rk (gi l i)=0
 |0,k,h,_,i,h1,h2=>by omega
 |n+1,k,h,h0,i,h1,h2=>by
  rw [Gt,if_pos (by omega)] at h0
  split at h0
  ·exact absurd h0 (by decide)
  split at h0
  ·exact absurd h0 (by decide)
  split at h0
  ·rename_i h3;exact absurd h0 h3
  rename_i h3
  rcases Nat.lt_or_ge k i with h4|h4
  ·exact SV n (k+1) (by omega) h0 i h4 h2
  ·obtain rfl:k=i:=by omega
   exact Decidable.byContradiction fun h5=>h3 h5
structure KU (o:D7):Prop where
 sm:GR o
 err:Jy o=0
 Ah:1≤o.Ah.length∧o.Ah.length≤8
 CZ:o.CZ.length≤40
 stops:∀ i,i<o.Ah.length→(gi o.Ah i).stops.length≤60
theorem oD {o:D7} (hs:GR o) (h:Jy o=0):KU o:=by
 have h0:=h
 unfold Jy at h0
 split at h0
 ·exact absurd h0 (by decide)
 split at h0
 ·exact absurd h0 (by decide)
 split at h0
 ·rename_i h1;exact absurd h0 h1
 split at h0
 ·exact absurd h0 (by decide)
 rename_i d1
 split at h0
 ·exact absurd h0 (by decide)
 rename_i d2
 split at h0
 ·rename_i h1;exact absurd h0 h1
 rename_i d3
 have d3:Gt o.ranks o.Ah 0=0:=Decidable.byContradiction d3
 unfold QO at h0
 split at h0
 ·exact absurd h0 (by decide)
 rename_i c1
 refine ⟨hs,h,⟨by omega,by omega⟩,by omega,fun i hi=>?_⟩
 have:=SV _ 0 rfl d3 i (Nat.zero_le _) hi
 unfold Kz at this
 split at this
 ·rename_i h1;exact absurd this h1
 split at this
 ·exact absurd this (by decide)
 rename_i h2
 omega
theorem YE {m:Nat} {l:List dV}:∀ (n k:Nat),l.length-k=n→Nc m l k=0→∀ i,k≤i→i<l.length→0≤(gi l i).rank∧(gi l i).rank<m
 |0,k,h,_,i,h1,h2=>by omega
 |n+1,k,h,h0,i,h1,h2=>by
  rw [Nc,if_pos (by omega)] at h0
  split at h0
  ·exact absurd h0 (by decide)
  rename_i h3
  split at h0
  ·exact absurd h0 (by decide)
  split at h0
  ·exact absurd h0 (by decide)
  rcases Nat.lt_or_ge k i with h4|h4
  ·exact YE n (k+1) (by omega) h0 i h4 h2
  ·obtain rfl:k=i:=by omega
   omega
theorem Yj {m:Nat} {lo hi:Int} {l:List Seg}:∀ (n k:Nat),l.length-k=n→JH m lo hi l k=0→∀ i,k≤i→i<l.length→PI m (gi l i).draws=0
 |0,k,h,_,i,h1,h2=>by omega
 |n+1,k,h,h0,i,h1,h2=>by
  rw [JH,if_pos (by omega)] at h0
  split at h0
  ·exact absurd h0 (by decide)
  split at h0
  ·exact absurd h0 (by decide)
  split at h0
  ·rename_i h3;exact absurd h0 h3
  rename_i h3
  rcases Nat.lt_or_ge k i with h4|h4
  ·exact Yj n (k+1) (by omega) h0 i h4 h2
  ·obtain rfl:k=i:=by omega
   exact Decidable.byContradiction fun h5=>h3 h5
structure a4q (rk:List Fh) (s:Stp):Prop where
 Ej:s.Ej.length≤12
 draws:∀ i,i<s.Ej.length→(gi s.Ej i).draws.length≤8∧∀ j,j<(gi s.Ej i).draws.length→0≤(gi (gi s.Ej i).draws j).rank∧(gi (gi s.Ej i).draws j).rank<rk.length
theorem a7i {rk:List Fh} {lo hi:Int} {s:Stp} (h:Je rk lo hi s=0):a4q rk s:=by
 unfold Je at h
 split at h
 ·rename_i h1;exact absurd h h1
 unfold uS at h
 split at h
 ·exact absurd h (by decide)
 split at h
 ·rename_i h1;exact absurd h h1
 split at h
 ·exact absurd h (by decide)
 split at h
 ·exact absurd h (by decide)
 rename_i h1
 refine ⟨by omega,fun i hi=>?_⟩
 have h2:=Yj _ 0 rfl h i (Nat.zero_le _) hi
 unfold PI at h2
 split at h2
 ·exact absurd h2 (by decide)
 exact ⟨by omega,fun j hj=>YE _ 0 rfl h2 j (Nat.zero_le _) hj⟩
def TU (rk:List Fh) (s:Stp) (n:Nat):Nat→List UInt8
 |0=>[]
 |k+1=>if (gi s.Ej (n-(k+1))).draws.length>0 then (gi rk (gi (gi s.Ej (n-(k+1))).draws 0).rank.toNat).Ep else TU rk s n k
def mg (rk:List Fh) (s:Stp):List UInt8:=TU rk s s.Ej.length s.Ej.length
theorem jF {rk:List Fh} {s:Stp} {n k:Nat} (hk:k<n) (h:(gi s.Ej k).draws.length=0):TU rk s n (n-k)=TU rk s n (n-(k+1)):=by
 obtain ⟨j,hj⟩:∃ j,n-k=j+1:=⟨n-k-1,by omega⟩
 rw [hj]
 have e:n-(j+1)=k:=by omega
 show (if (gi s.Ej (n-(j+1))).draws.length>0 then _ else TU rk s n j)=_
 rw [e,if_neg (by omega)]
 congr 1;omega
theorem oU {rk:List Fh} {s:Stp} {n k:Nat} (hk:k<n) (h:0<(gi s.Ej k).draws.length):TU rk s n (n-k)=(gi rk (gi (gi s.Ej k).draws 0).rank.toNat).Ep:=by
 obtain ⟨j,hj⟩:∃ j,n-k=j+1:=⟨n-k-1,by omega⟩
 rw [hj]
 have e:n-(j+1)=k:=by omega
 show (if (gi s.Ej (n-(j+1))).draws.length>0 then _ else TU rk s n j)=_
 rw [e,if_pos h]
end Go.Proofs.YtdabojnmoejilaaGreatDoor
