/-
  Texts of a proof, merged (VmB, VmC). Conditions: in each statement.
-/
import Derived.Test.YthlffjlbidibdaaGreatDoorKHe
set_option linter.unusedSimpArgs false
set_option autoImplicit true
set_option relaxedAutoImplicit true
set_option linter.unusedVariables false
set_option linter.unusedSectionVars false
set_option maxRecDepth 100000
set_option maxHeartbeats 8000000
abbrev aD:=@Nat.pow_le_pow_right
abbrev bc:=@Nat.not_lt_zero
abbrev cy:=@List.nodup_nil
abbrev cJ:=@List.drop_zero
abbrev cK:=@Nat.lt_of_le_of_lt
abbrev di:=@Nat.mul_le_mul
abbrev dz:=@List.take_of_length_le
abbrev ee:=@Nat.add_zero
abbrev eI:=@List.nil_append
abbrev eJ:=@List.all_append
abbrev fw:=@List.drop_eq_nil_of_le
abbrev fL:=@Nat.le_add_right
abbrev fX:=@List.mem_of_getElem?
abbrev fY:=@List.getElem?_of_mem
abbrev gc:=@Array.eq_empty_of_size_eq_zero
abbrev ge:=@Nat.and_le_left
abbrev gw:=@List.take_zero
abbrev gT:=@List.drop_append
namespace Go.Vm
section
open Go.Am
variable {E:Env}{L:Frame}{H:Heap}{nx:Nat}{Q:PV→Heap→Nat→Prop}{w:Bool}
variable {dst:Option Tmp}{ty:TypeId}{pos:String}{af:Array Edge}{gd:Option (Nat×Bool)}
def gi{α:Type}[Inhabited α](l:List α)(k:Nat):α:=(l[k]?).getD default
def encs{α:Type}(enc:α→List FV):List α→List FV
 |[]=>[]
 |a::l=>enc a++encs enc l
class Enc(α:Type) extends Inhabited α where
 enc:α→List FV
 size:Nat
 len:∀a,(enc a).length=size
section
variable {α:Type}[Enc α]
abbrev cells(l:List α):List FV:=encs Enc.enc l
theorem BD(l:List α):(cells l).length=l.length*Enc.size α:=by
 induction l with
 |nil=>simp[cells,encs]
 |cons a l d=>simp only[cells,encs,List.length_append,Enc.len,List.length_cons,Nat.succ_mul] at d ⊢;omega
theorem sW(a:α)(l:List α)(k:Nat):gi (a::l) (k+1)=gi l k:=rfl
theorem Vy:∀(l:List α) (k:Nat),k<l.length→(cells l).drop (k*Enc.size α)=Enc.enc (gi l k)++cells (l.drop (k+1))
 |a::l,0,_=>by simp[cells,encs,gi]
 |a::l,k+1,h=>by
  have d:=Vy l k (by grind);simp only[cells,encs,List.drop_succ_cons,sW] at d ⊢;rw[← d,gT,Enc.len,fw (by rw[Enc.len,fW];omega)];grind
 |[],_,h=>by grind
theorem ET:∀(l r:List α),cells (l++r)=cells l++cells r
 |[],_=>rfl
 |a::l,r=>by simp only[cells,encs,List.cons_append,List.append_assoc];rw[← ET l r]
end
instance:Enc Int:={ default:=0,enc:=fun n=>[.int .i64 n],size:=1,len:=fun _=>rfl }
theorem lj{α:Type}{_:Enc α}{t:TypeId}{x d:Operand}{e:TypeId}{l:List α}{n:Nat}{k:IntKind}{i:Int}(f:AY E.Γ L x=some (.p (.lst e (cells l) n)))(h:AY E.Γ L d=some (.p (.int k i)))
 (g:elemSize E.P t=some (Enc.size α)) (j:0≤i) (r:i<l.length) (o:l.length=n) (q:Q (.p (.FI (Enc.enc (gi l i.toNat)++cells (l.drop (i.toNat+1))))) H nx):Aa E w ⟨dst,.indexAddr t x d,ty,pos,af,gd⟩ L H nx Q :=
 mh f h g j (by omega) (by rw[Vy l i.toNat (by omega)];exact q)
theorem dl{α:Type}{_:Enc α}{t:TypeId}{x d:Operand}{e:TypeId}{l:List α}{n:Nat}{k:IntKind}{i:Nat}(f:AY E.Γ L x=some (.p (.lst e (cells l) n)))(j:AY E.Γ L d=some (.p (.int k (i:Int))))
 (g:elemSize E.P t=some (Enc.size α)) (o:i<l.length) (h:l.length=n) (q:Q (.p (.FI (Enc.enc (gi l i)++cells (l.drop (i+1))))) H nx):Aa E w ⟨dst,.indexAddr t x d,ty,pos,af,gd⟩ L H nx Q :=
 lj f j g (by omega) (by omega) h q
theorem b9{α:Type}{_:Enc α}{t:TypeId}{x d:Operand}{e:TypeId}{l:List α}{n:Nat}{k:IntKind}{i:Nat}(q:Q (.p (.FI (Enc.enc (gi l i)++cells (l.drop (i+1))))) H nx)(f:AY E.Γ L x=some (.p (.lst e (cells l) n)):=by rfl)(j:AY E.Γ L d=some (.p (.int k (i:Int))):=by rfl)(g:elemSize E.P t=some (Enc.size α):=by rfl)(o:i<l.length:=by omega)(h:l.length=n:=by rfl):Aa E w ⟨dst,.indexAddr t x d,ty,pos,af,gd⟩ L H nx Q:=dl f j g o h q
theorem pg{α:Type}{_:Enc α}{t:TypeId}{x d:Operand}{e:TypeId}{l:List α}{n:Nat}{k:IntKind}{i:Nat}(f:AY E.Γ L x=some (.p (.lst e (cells l) n)))(j:AY E.Γ L d=some (.p (.int k ((i:Int)-1))))
 (g:elemSize E.P t=some (Enc.size α)) (r:0<i) (o:i-1<l.length) (h:l.length=n) (q:Q (.p (.FI (Enc.enc (gi l (i-1))++cells (l.drop (i-1+1))))) H nx):Aa E w ⟨dst,.indexAddr t x d,ty,pos,af,gd⟩ L H nx Q :=
 lj f j g (by omega) (by omega) h (by grind)
abbrev lst{α:Type}[Enc α](e:TypeId)(l:List α):PV:=.p (.lst e (cells l) l.length)
section
variable {bn:Nat}{ops:Array Oper}{op:Op}{l:List Oper}{i:Nat}{R:Frame→Heap→Nat→Prop}
theorem c9(h:Aa E true ⟨dst,op,ty,pos,af,none⟩ L H nx fun r H' nx'=>Ah E bn ops l (IJ L dst r) H' nx' R):Ah E bn ops (⟨dst,op,ty,pos,af,none⟩::l) L H nx R:=Ah.cons rfl h
theorem Ah.take{j d:Nat}(f:(ops[j]?).bind (·.dst)=some d)(g:Gf L d=some (.p (.bool e)))(h:Aa E true ⟨dst,op,ty,pos,af,some (j,e)⟩ L H nx fun r H' nx'=>Ah E bn ops l (IJ L dst r) H' nx' R) :
 Ah E bn ops (⟨dst,op,ty,pos,af,some (j,e)⟩::l) L H nx R:=Ah.cons ⟨e,d,f,g,by cases e<;>rfl⟩ h
theorem Ah.drop{j d:Nat}(g:(ops[j]?).bind (·.dst)=some d)(o:Gf L d=some (.p (.bool b)))(f:(b==e)=false)(h:Ah E bn ops l (IJ L dst (.DK [])) H nx R) :
 Ah E bn ops (⟨dst,op,ty,pos,af,some (j,e)⟩::l) L H nx R:=Ah.skip ⟨b,d,g,o,f.symm⟩ h
theorem Ai.drop{j d:Nat}(g:(ops[j]?).bind (·.dst)=some d)(o:Gf L d=some (.p (.bool b)))(f:(b==e)=false)(h:Ai E bn ops (i+1) l (IJ L dst (.DK [])) H nx R) :
 Ai E bn ops i (⟨dst,op,ty,pos,af,some (j,e)⟩::l) L H nx R:=Ai.skip ⟨b,d,g,o,f.symm⟩ h
theorem Ah.guard{j d:Nat}{e:Bool}{p:Prop}{_:Decidable p}(h:(ops[j]?).bind (·.dst)=some d)(o:Gf L d=some (.p (.bool (decide p))))
 (f:p→Ah E bn ops (⟨dst,op,ty,pos,af,some (j,e)⟩::l) ((d,.p (.bool true))::L) H nx R) (g:¬ p→Ah E bn ops (⟨dst,op,ty,pos,af,some (j,e)⟩::l) ((d,.p (.bool false))::L) H nx R) :
 Ah E bn ops (⟨dst,op,ty,pos,af,some (j,e)⟩::l) L H nx R:=oy rfl h o f g
theorem Ai.guard{j d:Nat}{e:Bool}{p:Prop}{_:Decidable p}(h:(ops[j]?).bind (·.dst)=some d)(o:Gf L d=some (.p (.bool (decide p))))
 (f:p→Ai E bn ops i (⟨dst,op,ty,pos,af,some (j,e)⟩::l) ((d,.p (.bool true))::L) H nx R) (g:¬ p→Ai E bn ops i (⟨dst,op,ty,pos,af,some (j,e)⟩::l) ((d,.p (.bool false))::L) H nx R) :
 Ai E bn ops i (⟨dst,op,ty,pos,af,some (j,e)⟩::l) L H nx R:=ov rfl h o f g
def BK(E:Env)(bn:Nat)(k:Code)(Q:BP→Frame→Heap→Nat→Prop)(e:BP)(L:Frame)(H:Heap)(nx:Nat):Prop :=
 match e with
 | .normal=>Ad E bn k L H nx Q
 | .ret=>Q .ret L H nx
 | .exit i=>Q (.exit i) L H nx
def Bj(id:Nat)(Q:BP→Frame→Heap→Nat→Prop)(e:BP)(L:Frame)(H:Heap)(nx:Nat):Prop :=
 match e with
 | .normal=>Q .normal L H nx
 | .ret=>Q .ret L H nx
 | .exit i=>if i=id then Q .normal L H nx else Q (.exit i) L H nx
def Aj(I:Frame→Heap→Nat→Prop)(Q:BP→Frame→Heap→Nat→Prop)(e:BP)(L:Frame)(H:Heap)(nx:Nat):Prop :=
 match e with
 | .normal=>I L H nx
 | .ret=>Q .ret L H nx
 | .exit i=>Q (.exit i) L H nx
variable {Q:BP→Frame→Heap→Nat→Prop}{I:Frame→Heap→Nat→Prop}{a b c k:Code}{id:Nat}{x:Operand}
theorem BK.normal(h:Ad E bn k L H nx Q):BK E bn k Q .normal L H nx:=h
theorem BK.ret(h:Q .ret L H nx):BK E bn k Q .ret L H nx:=h
theorem Bj.normal(h:Q .normal L H nx):Bj id Q .normal L H nx:=h
theorem Bj.ret(h:Q .ret L H nx):Bj id Q .ret L H nx:=h
theorem Bj.exit(h:Q .normal L H nx):Bj id Q (.exit id) L H nx:=by simp only[Bj,if_true];exact h
theorem Aj.normal(h:I L H nx):Aj I Q .normal L H nx:=h
theorem Aj.ret(h:Q .ret L H nx):Aj I Q .ret L H nx:=h
theorem Aj.exit(h:Q (.exit i) L H nx):Aj I Q (.exit i) L H nx:=h
theorem Ad.to(h:Ad E bn a L H nx (BK E bn k Q)):Ad E bn (.seq a k) L H nx Q :=
 Ad.seq (h.mono fun e _ _ _ q=>by cases e<;>exact q)
theorem ce(h:Ah E bn ops ops.toList L H nx fun L' H' nx'=>Ad E bn k L' H' nx' Q):Ad E bn (.seq (.region id ops false) k) L H nx Q:=Ad.seq (Ad.region h)
theorem da(h:Ai E bn ops 0 ops.toList L H nx fun L' H' nx'=>Ad E bn k L' H' nx' Q):Ad E bn (.seq (.region id ops true) k) L H nx Q:=Ad.seq (ka h)
theorem Ad.assoc(h:Ad E bn (.seq a (.seq b c)) L H nx Q):Ad E bn (.seq (.seq a b) c) L H nx Q:=by
 intro B j m F σ t r p o;obtain⟨e,s,⟨K,d⟩,q⟩:=h B j m F σ t r p o;refine⟨e,s,⟨K,fun N D f g=>?_⟩,q⟩;have:=d N D f g;simp only[BO] at this ⊢;grind
theorem f9(h:Ad E bn k L H nx Q):Ad E bn (.seq .skip k) L H nx Q:=Ad.seq (Ad.skip h)
theorem kj(h:Q .ret L H nx):Ad E bn (.seq .ret k) L H nx Q:=Ad.seq (Ad.ret h)
theorem jx(h:Q (.exit i) L H nx):Ad E bn (.seq (.exit i) k) L H nx Q:=Ad.seq (Ad.exit h)
theorem jt(h:Ad E bn a L H nx (Bj id (BK E bn k Q))):Ad E bn (.seq (.block id a) k) L H nx Q :=
 Ad.to (Ad.block (h.mono fun e _ _ _ q=>by cases e<;>exact q))
theorem j6(h:Ad E bn a L H nx (Bj id Q)):Ad E bn (.block id a) L H nx Q :=
 Ad.block (h.mono fun e _ _ _ q=>by cases e<;>exact q)
theorem Ad.Ub(t:Bool)(C:AY E.Γ L x=some (.p (.bool t)))(z:t=true→Ad E bn (.seq a k) L H nx Q)(A:t=false→Ad E bn (.seq b k) L H nx Q):Ad E bn (.seq (.cond x a b) k) L H nx Q:=by
 intro B r m F σ u h g y;have o:=IU h g C;cases t with
 |true =>
  obtain⟨j,s,⟨K,d⟩,q⟩:=z rfl B r m F σ u h g y;exact⟨j,s,⟨K,fun N D e f=>by have:=d N D e f;simp only[BO,o] at this ⊢;omega⟩,q⟩
 |false =>
  obtain⟨j,s,⟨K,d⟩,q⟩:=A rfl B r m F σ u h g y;exact⟨j,s,⟨K,fun N D e f=>by have:=d N D e f;simp only[BO,o] at this ⊢;omega⟩,q⟩
theorem ei(e:AY E.Γ L x=some (.p (.bool true)))(d:Ad E bn (.seq a k) L H nx Q):Ad E bn (.seq (.cond x a b) k) L H nx Q:=Ad.Ub true e (fun _=>d) (fun h=>by cases h)
theorem cn(e:AY E.Γ L x=some (.p (.bool false)))(d:Ad E bn (.seq b k) L H nx Q):Ad E bn (.seq (.cond x a b) k) L H nx Q:=Ad.Ub false e (fun h=>by cases h) (fun _=>d)
theorem a8{p:Prop}{_:Decidable p}(f:AY E.Γ L x=some (.p (.bool (decide p))))(d:p→Ad E bn (.seq a k) L H nx Q)(e:¬ p→Ad E bn (.seq b k) L H nx Q):Ad E bn (.seq (.cond x a b) k) L H nx Q :=
 Ad.Ub (decide p) f (fun h=>d (of_decide_eq_true h)) (fun h=>e (of_decide_eq_false h))
theorem eD{α:Type}(g:α→Frame)(h:α→Heap)(C9:Nat)(d:α→Prop)(μ:α→Nat)(f:α)(r:bn≤C9)(u:d f)(p:Xz L H nx (g f) (h f) C9)
 (j:∀s,d s→Ad E bn a (g s) (h s) C9 (Aj (fun L' H' nx'=>∃s',d s'∧μ s'<μ s∧Xz L' H' nx' (g s') (h s') C9) Q)):Ad E bn (.loop a) L H nx Q :=
 Ad.loop g h C9 d μ f r u p fun s o=>(j s o).mono fun e _ _ _ q=>by cases e<;>exact q
theorem GZ.nil{k:Nat}:GZ k [] L:=trivial
theorem GZ.cons{k i:Nat}(f:v0.under k)(e:Gf L i=some v)(d:PLe v v0)(t:GZ k L0 L):GZ k ((i,v0)::L0) L:=⟨⟨f,v,e,d⟩,t⟩
theorem GZ.same{k i:Nat}(e:v0.under k)(d:Gf L i=some v0)(t:GZ k L0 L):GZ k ((i,v0)::L0) L:=⟨⟨e,v0,d,.refl _⟩,t⟩
theorem BN.nil{k:Nat}:BN k [] H:=trivial
theorem BN.cons{k i:Nat}(g:i<k)(f:v0.under k)(e:hget H i=some v)(d:KX v v0)(t:BN k L0 H):BN k ((i,v0)::L0) H:=⟨⟨g,f,v,e,d⟩,t⟩
theorem Done.ret{Q:PV→Heap→Nat→Prop}(h:EJ P rs L H=some d)(e:PLe d r)(f:r.under C9)(o:BN C9 H0 H)(g:C9≤nx)(j:bn≤C9)(q:Q r H0 C9):Done P rs bn Q .ret L H nx :=
 ⟨d,h,r,H0,C9,e,f,o,g,j,q⟩
end
end
section
open Go.Am
variable {E:Env}{L:Frame}{H:Heap}{nx:Nat}{Q:PV→Heap→Nat→Prop}{w:Bool}
variable {dst:Option Tmp}{ty:TypeId}{pos:String}{af:Array Edge}{gd:Option (Nat×Bool)}
mutual
def PV.rn(ρ:Nat→Nat):PV→PV
 | .p x=>.p x
 | .agg cs=>.agg (CZ.rn ρ cs)
 | .DK cs=>.DK (CZ.rn ρ cs)
 | .vec b tag off len=>.vec (ρ b) tag off len
 | .ref b off=>.ref (ρ b) off
 | .Fb b tag off=>.Fb (ρ b) tag off
 | .mref b=>.mref (ρ b)
 | .clo f fs cs=>.clo f (CZ.rn ρ fs) (CZ.rn ρ cs)
def CZ.rn(ρ:Nat→Nat):List PV→List PV
 |[]=>[]
 |c::cs=>PV.rn ρ c::CZ.rn ρ cs
end
def HB.rn(ρ:Nat→Nat):HB→HB
 | .box e cs=>.box e (CZ.rn ρ cs)
 | .vec e cs n z=>.vec e cs n z
 | .map es=>.map es
 | .Fq e cs n=>.Fq e (CZ.rn ρ cs) n
 | .KF ks cs=>.KF ks (CZ.rn ρ cs)
theorem mA(ρ:Nat→Nat)(x:HB):(x.rn ρ).tag=x.tag:=by cases x<;>rfl
section
variable {m:Mem}{F:Nat→Prop}{T T':Nat→Option Tg}{σ σ':Nat→Value}{n n':Nat}{ρ:Nat→Nat}
mutual
theorem RP.rn(h:∀b,b<n→ρ b<n'∧T' (ρ b)=T b∧σ' (ρ b)=σ b):∀{x:PV} {v:Value},RP m F T σ n x v→RP m F T' σ' n' (x.rn ρ) v
 |_,_,.p r=>.p r
 |_,_,.agg r hc=>.agg (Dw.rn h r) hc
 |_,_,.DK r=>.DK (Dw.rn h r)
 |_,_,.vec hb hc r=>.vec (h _ hb).1 hc (by rw[(h _ hb).2.1,(h _ hb).2.2];exact r)
 |_,_,.ref hb hc r=>.ref (h _ hb).1 hc (by rw[(h _ hb).2.1,(h _ hb).2.2];exact r)
 |_,_,.Fb hb hc r=>.Fb (h _ hb).1 hc (by rw[(h _ hb).2.1,(h _ hb).2.2];exact r)
 |_,_,.mref hb hc r=>.mref (h _ hb).1 hc (by rw[(h _ hb).2.1,(h _ hb).2.2];exact r)
 |_,_,.clo r1 r2=>.clo (Dw.rn h r1) (Dw.rn h r2)
theorem Dw.rn(h:∀b,b<n→ρ b<n'∧T' (ρ b)=T b∧σ' (ρ b)=σ b):∀{x:List PV} {v:List Value},Dw m F T σ n x v→Dw m F T' σ' n' (CZ.rn ρ x) v
 |_,_,.nil=>.nil
 |_,_,.cons r t=>.cons (RP.rn h r) (Dw.rn h t)
end
mutual
theorem se(h:∀b,b<n→(∀t,T b=some t→T' (ρ b)=some t)∧σ' (ρ b)=σ b):∀{x:PV} {v:Value},x.under n→RP m F T' σ' n' (x.rn ρ) v→RP m F T σ n x v
 | .p _,_,_,r=>by cases r with|p r=>exact .p r
 | .agg cs,_,hu,r=>by
  simp only[PV.rn] at r;cases r with|agg r d=>exact .agg (kO h hu r) d
 | .DK cs,_,hu,r=>by
  simp only[PV.rn] at r;cases r with|DK r=>exact .DK (kO h hu r)
 | .vec b tag off len,_,hu,r=>by
  simp only[PV.rn] at r;cases r with
  |vec g d r =>
   refine .vec hu d fun k e=>?_
   have:=r k ((h b hu).1 _ e);rw[(h b hu).2] at this;exact this
 | .ref b off,_,hu,r=>by
  simp only[PV.rn] at r;cases r with
  |ref g d r =>
   refine .ref hu d fun e=>?_
   have:=r ((h b hu).1 _ e);rw[(h b hu).2] at this;exact this
 | .Fb b tag off,_,hu,r=>by
  simp only[PV.rn] at r;cases r with
  |Fb g d r =>
   refine .Fb hu d fun k e=>?_
   have:=r k ((h b hu).1 _ e);rw[(h b hu).2] at this;exact this
 | .mref b,_,hu,r=>by
  simp only[PV.rn] at r;cases r with
  |mref g d r =>
   refine .mref hu d fun e=>?_
   have:=r ((h b hu).1 _ e);rw[(h b hu).2] at this;exact this
 | .clo f fs cs,_,hu,r=>by
  simp only[PV.rn] at r;cases r with|clo o j=>exact .clo (kO h hu.1 o) (kO h hu.2 j)
theorem kO(h:∀b,b<n→(∀t,T b=some t→T' (ρ b)=some t)∧σ' (ρ b)=σ b):∀{x:List PV} {v:List Value},CZ.under n x→Dw m F T' σ' n' (CZ.rn ρ x) v→Dw m F T σ n x v
 |[],_,_,r=>by cases r;exact .nil
 |c::cs,_,hu,r=>by cases r with|cons r t=>exact .cons (se h hu.1 r) (kO h hu.2 t)
end
end
def idx:List Nat→Nat→Option Nat
 |[],_=>none
 |a::l,b=>match Nat.decEq a b with
  | .isTrue _=>some 0
  | .isFalse _=>(idx l b).map (·+1)
theorem iQ:∀{l:List Nat} {b i:Nat},idx l b=some i→l[i]?=some b
 |a::l,b,i,h=>by
  simp only[idx] at h;split at h
  ·grind
  ·simp only[Option.map_eq_some_iff] at h
   obtain⟨j,d,rfl⟩:=h;simpa using iQ d
theorem b4s:∀{l:List Nat} {b i:Nat},l.Nodup→l[i]?=some b→idx l b=some i
 |[],_,_,_,h=>by grind
 |a::l,b,i,hn,h=>by
  simp only[List.nodup_cons] at hn;cases i with
  |zero =>
   simp only[List.getElem?_cons_zero,Option.some.injEq] at h;subst h;simp only[idx];cases hd:Nat.decEq a a with
   |isTrue _=>rfl
   |isFalse e=>omega
  |succ i =>
   have d:a≠b:=fun e=>hn.1 (e▸fX h)
   simp only[idx];cases hd:Nat.decEq a b with
   |isTrue e=>omega
   |isFalse _=>simp only[b4s hn.2 h,Option.map_some]
def rho(ns:List Nat)(nx:Nat)(i:Nat):Nat :=
 match ns[i]? with
 |some b=>b
 |none=>nx+(i-ns.length)
def merge(ns:List Nat)(ρ:Nat→Nat)(H':Heap):Heap→Heap
 |[]=>[]
 |(b,x)::H=>match idx ns b with
  |none=>(b,x)::merge ns ρ H' H
  |some i=>match hget H' i with
   |some y=>(b,y.rn ρ)::merge ns ρ H' H
   |none=>merge ns ρ H' H
def news(k:Nat)(ρ:Nat→Nat):Heap→Heap→Heap
 |[],H=>H
 |(i,x)::H',H=>match Nat.decLt i k with
  | .isTrue _=>news k ρ H' H
  | .isFalse _=>(ρ i,x.rn ρ)::news k ρ H' H
theorem GR{ns:List Nat}{ρ:Nat→Nat}{H':Heap}:∀{H:Heap} {b:Nat},idx ns b=none→hget (merge ns ρ H' H) b=hget H b
 |[],_,_=>rfl
 |(a,x)::H,b,h=>by
  have f:=GR (ns:=ns) (ρ:=ρ) (H':=H') (H:=H) h;simp only[merge];cases hi:idx ns a with
  |none=>simp only[BA,f]
  |some i =>
   have d:a≠b:=fun e=>by grind
   simp only[BA,if_neg d];cases hget H' i with
   |none=>omega
   |some y=>simp only[BA,if_neg d];omega
theorem Ls{ns:List Nat}{ρ:Nat→Nat}{H':Heap}:∀{H:Heap} {b i:Nat},idx ns b=some i→hget (merge ns ρ H' H) b=if(hget H b).isSome then(hget H' i).map (HB.rn ρ) else none
 |[],_,_,_=>by rfl
 |(a,x)::H,b,i,h=>by
  have d:=Ls (ns:=ns) (ρ:=ρ) (H':=H') (H:=H) h;simp only[merge];by_cases e:a=b
  ·subst e
   rw[h];simp only[BA,if_true,Option.isSome_some];cases hi:hget H' i with
   |none =>
    grind
   |some y=>simp only[BA,if_true,Option.map_some]
  ·simp only[BA,if_neg e]
   cases hj:idx ns a with
   |none=>simp only[BA,if_neg e];omega
   |some j =>
    simp only;cases hget H' j with
    |none=>omega
    |some y=>simp only[BA,if_neg e];omega
theorem MB{k:Nat}{ρ:Nat→Nat}{H:Heap}:∀{H':Heap} {b:Nat},(∀i j,ρ i=ρ j→k≤i→k≤j→i=j) →
 (∃i,k≤i∧ρ i=b∧(hget H' i).isSome∧hget (news k ρ H' H) b=(hget H' i).map (HB.rn ρ))∨((∀i,k≤i→ρ i=b→hget H' i=none)∧hget (news k ρ H' H) b=hget H b)
 |[],b,_=>.inr ⟨fun _ _ _=>rfl,rfl⟩
 |(i,x)::H',b,hinj=>by
  have f:=MB (k:=k) (ρ:=ρ) (H:=H) (H':=H') (b:=b) hinj;simp only[news];cases hd:Nat.decLt i k with
  |isTrue g =>
   rcases f with⟨j,e,d,r,q⟩|⟨e,d⟩
   ·refine .inl ⟨j,e,d,?_⟩
    rw[BA,if_neg (by omega)];grind
   ·refine .inr ⟨fun j o p=>?_,d⟩
    rw[BA,if_neg (by omega)];grind
  |isFalse h =>
   simp only[BA];grind
def HIn(ρ:Nat→Nat)(H:Heap):Heap→Prop
 |[]=>True
 |(i,x)::Hc=>(∃y,hget H (ρ i)=some y∧KX y (x.rn ρ))∧HIn ρ H Hc
theorem HIn.get:∀{Hc:Heap},HIn ρ H Hc→∀i x,hget Hc i=some x→∃y,hget H (ρ i)=some y∧KX y (x.rn ρ)
 |[],_,_,_,h=>by cases h
 |(j,y)::Hc,⟨h1,h2⟩,i,x,h=>by
  rw[BA] at h;by_cases e:j=i
  ·grind
  ·rw[if_neg e] at h;exact HIn.get h2 i x h
def Nk(k:Nat):Heap→Prop
 |[]=>True
 |(i,x)::H=>(i<k∧x.under k)∧Nk k H
theorem Nk.get:∀{H:Heap},Nk k H→∀i x,hget H i=some x→i<k∧x.under k
 |[],_,_,_,h=>by cases h
 |(j,y)::Hc,⟨h1,h2⟩,i,x,h=>by
  rw[BA] at h;by_cases e:j=i
  ·grind
  ·rw[if_neg e] at h;exact Nk.get h2 i x h
theorem RB.le(h:KX x y)(r:RB m F T σ n s x):RB m F T σ n s y:=by
 cases h with
 |refl=>exact r
 |box h=>obtain⟨c,j,f,e,d,q,p,o⟩:=r;exact⟨c,j,f,e,d,q,Dw.le h p,o⟩
 |vec h u =>
  subst u;rcases r with⟨f,e,d⟩|⟨c,g,j,f,e,d,q,p,o⟩
  ·subst f
   cases h with|refl=>exact .inl ⟨rfl,e,d⟩
  ·exact .inr ⟨c,g,j,f,e,d,q,Du.le h p,o⟩
theorem RB.rn(h:∀b,b<n→ρ b<n'∧T' (ρ b)=T b∧σ' (ρ b)=σ b)(r:RB m F T σ n s x):RB m F T' σ' n' s (x.rn ρ):=by
 cases x with
 |box e A=>obtain⟨c,y,u,q,p,o,j,f⟩:=r;exact⟨c,y,u,q,p,o,Dw.rn h j,f⟩
 |vec e A k z=>exact r
 |map G=>exact r
 |Fq e A k=>obtain⟨c,g,y,u,q,p,o,j,f⟩:=r;exact⟨c,g,y,u,q,p,o,Dw.rn h j,f⟩
 |KF C A=>obtain⟨r,l,d,u,q,p,o,j,f,B⟩:=r;exact⟨r,l,d,u,q,p,o,j,Dw.rn h f,B⟩
theorem sg(h:∀b,b<n→(∀t,T b=some t→T' (ρ b)=some t)∧σ' (ρ b)=σ b)(A:x.under n)(r:RB m F T' σ' n' s (x.rn ρ)):RB m F T σ n s x:=by
 cases x with
 |box e B=>obtain⟨c,y,u,q,p,o,j,f⟩:=r;exact⟨c,y,u,q,p,o,kO h A j,f⟩
 |vec e B k z=>exact r
 |map J=>exact r
 |Fq e B k=>obtain⟨c,g,y,u,q,p,o,j,f⟩:=r;exact⟨c,g,y,u,q,p,o,kO h A j,f⟩
 |KF G B=>obtain⟨r,l,d,u,q,p,o,j,f,C⟩:=r;exact⟨r,l,d,u,q,p,o,j,kO h A f,C⟩
end
section
open Go.Am
variable {E:Env}{L:Frame}{H:Heap}{nx:Nat}{Q:PV→Heap→Nat→Prop}{w:Bool}
variable {dst:Option Tmp}{ty:TypeId}{pos:String}{af:Array Edge}{gd:Option (Nat×Bool)}
def evs(Γ:Nat→Option (List Value×TypeId))(L:Frame):List Operand→Option (List PV)
 |[]=>some []
 |o::l=>match AY Γ L o with
  |some x=>match evs Γ L l with
   |some r=>some (x::r)
   |none=>none
  |none=>none
theorem TN(d:Ctx Γ m F σ H nx)(e:RL m F (htag H) σ nx L t):∀{os:List Operand} {xs:List PV},evs Γ L os=some xs→Dw m F (htag H) σ nx xs (os.map (ev t))
 |[],_,h=>by cases h;exact .nil
 |o::os,xs,h=>by
  simp only[evs] at h;cases h1:AY Γ L o with
  |none=>grind
  |some x =>
   rw[h1] at h;cases h2:evs Γ L os with
   |none=>grind
   |some r=>rw[h2] at h;cases h;exact .cons (Bz d e h1) (TN d e h2)
theorem Dw.append:∀{cs ds:List PV} {vs ws:List Value},Dw m F T σ n cs vs→Dw m F T σ n ds ws→Dw m F T σ n (cs++ds) (vs++ws)
 |_,_,_,_,.nil,h=>h
 |_,_,_,_,.cons h t,h'=>.cons h (Dw.append t h')
theorem b4h(h:ns[i]?=some b):rho ns nx i=b:=by simp only[rho,h]
theorem b3i(h:ns.length≤i):rho ns nx i=nx+(i-ns.length):=by simp only[rho,List.getElem?_eq_none h]
theorem yj{args:Array Operand}(hf:AY E.Γ L fo=some (.clo g fs cs))(ha:evs E.Γ L args.toList=some Bo)
 (Z:OE (fs++Bo++cs) (CZ.rn (rho ns nx) ac)) (hu:CZ.under ns.length ac) (hHu:Nk ns.length Hc) (hin:HIn (rho ns nx) H Hc) (hnd:ns.Nodup) (hlt:∀b∈ns,b<nx) (hw:w=false→Hc=[])
     (O:Ctx E.Γ m F σ H nx) (h2:RL m F (htag H) σ nx L t) :
 ∃(vf vc:List Value) (σc:Nat→Value),ev t fo=.func (.func g) vf.toArray vc.toArray∧Ctx E.Γ m F σc Hc ns.length∧Dw m F (htag Hc) σc ns.length ac (vf++args.toList.map (ev t)++vc) ∧
  ∀v m' r H' nx' F' σ',Ctx E.Γ m' F' σ' H' nx'→RP m' F' (htag H') σ' nx' r v→Step m F σc Hc ns.length m' F' σ' H' nx' →
   ∃C,Ctx E.Γ m' F' C (news ns.length (rho ns nx) H' (merge ns (rho ns nx) H' H)) (nx+(nx'-ns.length)) ∧
    RP m' F' (htag (news ns.length (rho ns nx) H' (merge ns (rho ns nx) H' H))) C (nx+(nx'-ns.length)) (r.rn (rho ns nx)) v ∧
    Step m F σ H nx m' F' C (news ns.length (rho ns nx) H' (merge ns (rho ns nx) H' H)) (nx+(nx'-ns.length))∧(w=false→Quiet m m'):=by
 generalize hρ:rho ns nx=ρ at *;generalize hk:ns.length=k at *;have Kr:∀i,i<k→∃b,ns[i]?=some b∧ρ i=b∧b<nx:=fun i d=>by
  have:i<ns.length:=by omega
  refine⟨ns[i],ai this,?_,hlt _ (cR this)⟩;rw[← hρ];exact b4h (ai this)
 have M:∀i,k≤i→ρ i=nx+(i-k):=fun i d=>by rw[← hρ,← hk];exact b3i (by omega)
 have J:∀i,i<k→idx ns (ρ i)=some i:=fun i d=>by
  obtain⟨b,hb,e,_⟩:=Kr i d;rw[e];exact b4s hnd hb
 have z:∀b i,idx ns b=some i→i<k∧b=ρ i:=fun b i d=>by
  have h0:=iQ d;grind
 have hTc:∀b t,htag Hc b=some t→htag H (ρ b)=some t:=fun b t hb=>by
  unfold htag at hb ⊢;cases h0:hget Hc b with
  |none=>grind
  |some x =>
   rw[h0] at hb;obtain⟨y,q,Z⟩:=hin.get b x h0;rw[q,Option.map_some,Z.tag,mA];grind
 have hun:∀b,b<k→(∀t,htag Hc b=some t→htag H (ρ b)=some t)∧σ (ρ b)=(fun i=>σ (ρ i)) b:=fun b _=>⟨hTc b,rfl⟩
 have Y:∀c,own Hc (fun i=>σ (ρ i)) c→∃i x y,i<k∧hget Hc i=some x∧hget H (ρ i)=some y∧Dv (σ (ρ i))=some c:=by
  rintro c ⟨i,x,d,hb⟩;obtain⟨y,q,_⟩:=hin.get i x d;exact⟨i,x,y,(hHu.get i x d).1,d,q,hb⟩
 have u:∀c,own Hc (fun i=>σ (ρ i)) c→own H σ c:=fun c ho=>by
  obtain⟨i,_,y,_,_,q,hb⟩:=Y c ho;exact⟨ρ i,y,q,hb⟩
 have Uk:Ctx E.Γ m F (fun i=>σ (ρ i)) Hc k:=by
  refine⟨O.fr,fun i x d=>?_,fun i i' x x' c d K hb hb'=>?_,O.gl⟩
  ·obtain⟨y,q,Z⟩:=hin.get i x d
   obtain⟨s,hux⟩:=hHu.get i x d;exact⟨s,sg hun hux (RB.le Z (O.hp _ y q).2)⟩
  ·obtain⟨y,q,_⟩:=hin.get i x d
   obtain⟨y',hy',_⟩:=hin.get i' x' K;have e:=O.sep _ _ y y' c q hy' hb hb';have e1:=J i (hHu.get i x d).1;have e2:=J i' (hHu.get i' x' K).1;rw[e,e2] at e1;cases e1;rfl
 have hfv:=Bz O h2 hf;generalize hfe:ev t fo=fv at hfv;cases hfv with
 |clo r1 r2 =>
  rename_i vf vc;have hargs:Dw m F (htag Hc) (fun i=>σ (ρ i)) k ac (vf++args.toList.map (ev t)++vc):=kO hun hu (Dw.le Z ((r1.append (TN O h2 ha)).append r2));refine⟨vf,vc,_,rfl,Uk,hargs,?_⟩;intro v m' r H' nx' F' σ' c1 c2 N;have hkn:k≤nx':=N.Ym;have c9d:∀i,i<k→hget H (ρ i)=none→hget H' i=none:=fun i d hn=>by
   have h0:=(N.names i d).1;cases hh:hget H' i with
   |none=>rfl
   |some y =>
    have hty:htag H' i=some y.tag:=by simp[htag,hh]
    rw[hty] at h0;cases hc':htag Hc i with
    |none=>rw[hc'] at h0;exact h0.elim
    |some t =>
     have:=hTc i t hc';simp[htag,hn] at this
  have G:∀i j,ρ i=ρ j→k≤i→k≤j→i=j:=fun i j e d hj=>by
   rw[M i d,M j hj] at e;omega
  let C:Nat→Value:=fun b=>if b<nx then(match idx ns b with|some i=>σ' i|none=>σ b) else σ' (b-nx+k)
  have c5g:∀j,j<nx'→hget (news k ρ H' (merge ns ρ H' H)) (ρ j)=(hget H' j).map (HB.rn ρ):=fun j hj=>by
   rcases aq j k with hjk|hjk
   ·obtain⟨b,hb,e,hbn⟩:=Kr j hjk
    rcases MB (k:=k) (ρ:=ρ) (H:=merge ns ρ H' H) (H':=H') (b:=ρ j) G with⟨i,d,B,_⟩|⟨_,B⟩
    ·rw[M i d,e] at B;omega
    ·rw[B,Ls (J j hjk)]
     cases hH:hget H (ρ j) with
     |none=>rw[c9d j hjk hH];rfl
     |some y=>rfl
   ·rcases MB (k:=k) (ρ:=ρ) (H:=merge ns ρ H' H) (H':=H') (b:=ρ j) G with⟨i,d,B,_,e''⟩|⟨B,e''⟩
    ·rw[G i j B d hjk] at e'';exact e''
    ·have S:idx ns (ρ j)=none:=by
      cases d:idx ns (ρ j) with
      |none=>rfl
      |some i =>
       obtain⟨s,e3⟩:=z _ i d;obtain⟨b,_,e4,hbn⟩:=Kr i s;rw[M j hjk] at e3;omega
     rw[e'',GR S,O.a6c (by rw[M j hjk];omega),B j hjk rfl];rfl
  have hA:∀j,j<nx'→ρ j<nx+(nx'-k)∧htag (news k ρ H' (merge ns ρ H' H)) (ρ j)=htag H' j∧C (ρ j)=σ' j:=fun j hj=>by
   refine⟨?_,?_,?_⟩
   ·rcases aq j k with hjk|hjk
    ·obtain⟨b,_,e,hbn⟩:=Kr j hjk;omega
    ·rw[M j hjk];omega
   ·unfold htag
    rw[c5g j hj];cases hget H' j with
    |none=>rfl
    |some y=>simp[mA]
   ·show(if ρ j<nx then _ else _)=_
    rcases aq j k with hjk|hjk
    ·obtain⟨b,_,e,hbn⟩:=Kr j hjk
     rw[if_pos (by omega),J j hjk]
    ·rw[M j hjk,if_neg (by omega)]
     congr 1;omega
  have hB:∀b,b<nx→idx ns b=none→hget (news k ρ H' (merge ns ρ H' H)) b=hget H b∧C b=σ b:=fun b hb d=>by
   refine⟨?_,?_⟩
   ·rcases MB (k:=k) (ρ:=ρ) (H:=merge ns ρ H' H) (H':=H') (b:=b) G with⟨i,K,B,_⟩|⟨_,B⟩
    ·rw[M i K] at B;omega
    ·rw[B,GR d]
   ·show(if b<nx then _ else _)=_
    rw[if_pos hb,d]
  have hC:∀b x,hget (news k ρ H' (merge ns ρ H' H)) b=some x→(∃j y,j<nx'∧b=ρ j∧hget H' j=some y∧x=y.rn ρ)∨(b<nx∧idx ns b=none∧hget H b=some x):=fun b x A=>by
   rcases aq b nx with hb|hb
   ·cases d:idx ns b with
    |none=>exact .inr ⟨hb,rfl,by rw[← (hB b hb d).1];exact A⟩
    |some i =>
     obtain⟨s,e⟩:=z b i d;rw[e,c5g i (by omega)] at A;simp only[Option.map_eq_some_iff] at A;obtain⟨y,q,B⟩:=A;exact .inl ⟨i,y,by omega,e,q,B.symm⟩
   ·rcases MB (k:=k) (ρ:=ρ) (H:=merge ns ρ H' H) (H':=H') (b:=b) G with⟨i,d,B,e1,e2⟩|⟨_,B⟩
    ·rw[e2] at A
     simp only[Option.map_eq_some_iff] at A;obtain⟨y,q,B⟩:=A;exact .inl ⟨i,y,(c1.hp i y q).1,by rw[← ‹ρ i=b›],q,B.symm⟩
    ·have S:idx ns b=none:=by
      cases d:idx ns b with
      |none=>rfl
      |some i =>
       obtain⟨s,e3⟩:=z _ i d;obtain⟨b',_,e4,hbn⟩:=Kr i s;omega
     rw[B,GR S,O.a6c hb] at A;cases A
  have hD:Names nx (htag H) σ (htag (news k ρ H' (merge ns ρ H' H))) C:=fun b hb=>by
   cases d:idx ns b with
   |none =>
    obtain⟨e1,e2⟩:=hB b hb d;rw[e2];unfold htag;rw[e1];exact⟨XW.refl _,fun _ _ _=>rfl⟩
   |some i =>
    obtain⟨s,e⟩:=z b i d;obtain⟨_,a2,a3⟩:=hA i (by omega);rw[e,a2,a3];obtain⟨n1,n2⟩:=N.names i s;cases ht':htag H' i with
    |none=>exact⟨trivial,fun _ _ e=>by cases e⟩
    |some t' =>
     rw[ht'] at n1 n2;cases htc:htag Hc i with
     |none=>rw[htc] at n1;exact n1.elim
     |some tc =>
      rw[htc] at n1 n2;rw[hTc i tc htc];exact⟨n1,fun t e1 e2=>n2 t e1 e2⟩
  have hfz:=N.frozen Uk;have hblk:∀b x c,idx ns b=none→hget H b=some x→Dv (σ b)=some c→¬ own Hc (fun i=>σ (ρ i)) c:=fun b x c d hb hc ho=>by
   obtain⟨i,_,y,s,_,q,f⟩:=Y c ho;have e:=O.sep b (ρ i) x y c hb q hc f;rw[e,J i s] at d;cases d
  refine⟨C,⟨c1.fr,?_,?_,c1.gl⟩,RP.rn hA c2,⟨N.size,fun c hc ho=>N.keep c hc fun o=>ho (u c o),N.LK,fun c hc hf=>?_,?_,fL _ _,hD,fun j j1 j2 j3=>N.low j j1 j2 fun c ho=>j3 c (u c ho)⟩,?_⟩
  ·intro b x A
   rcases hC b x A with⟨j,y,hj,rfl,q,rfl⟩|⟨hb,d,X⟩
   ·obtain⟨a1,a2,a3⟩:=hA j hj
    rw[a3];exact⟨a1,RB.rn hA (c1.hp j y q).2⟩
   ·rw[(hB b hb d).2]
    refine⟨by omega,(O.hp b x X).2.mono hfz hD (fL _ _) N.size fun c hc=>?_⟩;have S:=hblk b x c d X hc;obtain⟨hnf,hcs⟩:=O.Nr ⟨b,x,X,hc⟩;exact⟨N.keep c hcs S,fun hf=>(N.LD c hcs hf).elim hnf S⟩
  ·intro b b' x x' c A X f p
   rcases hC b x A with⟨j,y,hj,rfl,q,rfl⟩|⟨hb,d,V⟩<;>rcases hC b' x' X with⟨j',y',hj',rfl,hy',rfl⟩|⟨hb',K,U⟩
   ·rw[(hA j hj).2.2] at f
    rw[(hA j' hj').2.2] at p;rw[c1.sep j j' y y' c q hy' f p]
   ·rw[(hA j hj).2.2] at f
    rw[(hB b' hb' K).2] at p;exact absurd (N.J3 c (O.Nr ⟨b',x',U,p⟩).2 ⟨j,y,q,f⟩) (hblk b' x' c K U p)
   ·rw[(hA j' hj').2.2] at p
    rw[(hB b hb d).2] at f;exact absurd (N.J3 c (O.Nr ⟨b,x,V,f⟩).2 ⟨j',y',hy',p⟩) (hblk b x c d V f)
   ·rw[(hB b hb d).2] at f
    rw[(hB b' hb' K).2] at p;exact O.sep b b' x x' c V U f p
  ·rcases N.LD c hc hf with h|h
   ·exact .inl h
   ·exact .inr (u c h)
  ·rintro c hc ⟨b,x,A,f⟩
   rcases hC b x A with⟨j,y,hj,rfl,q,rfl⟩|⟨hb,d,V⟩
   ·rw[(hA j hj).2.2] at f
    exact u c (N.J3 c hc ⟨j,y,q,f⟩)
   ·rw[(hB b hb d).2] at f
    exact⟨b,x,V,f⟩
  ·intro hwf j j1 j2
   refine N.low j j1 j2 fun c ho=>?_
   obtain⟨i,x,_,_,A,_⟩:=Y c ho;rw[hw hwf] at A;cases A
theorem nj{s cs Bo ac:List PV}(J:AY E.Γ L u=some (.clo g s cs))(M:evs E.Γ L args.toList=some Bo)
 (j:OE (s++Bo++cs) (CZ.rn (rho ns nx) ac)) (G:CZ.under ns.length ac) (q:Nk ns.length Hc) (hin:HIn (rho ns nx) H Hc) (e:ns.Nodup) (h:∀b∈ns,b<nx) (C:w=false→Hc=[]) (K:AL E g ac Hc ns.length y)
 (V:∀r H' nx',y r H' nx'→Q (r.rn (rho ns nx)) (news ns.length (rho ns nx) H' (merge ns (rho ns nx) H' H)) (nx+(nx'-ns.length))) :
 Aa E w ⟨dst,.call { callee:=.value u,args:=args,argTypes:=S },ty,pos,af,gd⟩ L H nx Q:=by
 intro m F σ t O N;obtain⟨A,B,z,o,U,d,p⟩:=yj (w:=w) J M j G q hin e h C O N;refine GX.call (f:=g) (Bo:=A++args.toList.map (ev t)++B) (fun call=>by simp only[BX,o]) ((K m F _ _ U d).mono ?_);grind
end
section
open Go.Am
variable {E:Env}{L:Frame}{H:Heap}{nx:Nat}{Q:PV→Heap→Nat→Prop}{w:Bool}
variable {dst:Option Tmp}{ty:TypeId}{pos:String}{af:Array Edge}{gd:Option (Nat×Bool)}
def Ak(E:Env)(g:FuncId)(xs:List FV)(r:PV):Prop:=AL E g (xs.map .p) [] 0 fun r' H' nx'=>r'=r∧H'=[]∧nx'=0
def Bf(E:Env)(g:FuncId)(xs:List FV)(e:TypeId)(cs:List FV)(n:Nat)(z:Bool):Prop :=
 AL E g (xs.map .p) [] 0 fun r' H' nx'=>r'=.vec 0 n 0 n∧H'=[(0,.vec e cs n z)]∧nx'=1
theorem n7(ρ:Nat→Nat):∀xs:List FV,CZ.rn ρ (xs.map .p)=xs.map .p
 |[]=>rfl
 |x::xs=>by simp only[List.map_cons,CZ.rn,PV.rn,n7 ρ xs]
theorem TV(ρ:Nat→Nat)(H':Heap):∀H:Heap,merge [] ρ H' H=H
 |[]=>rfl
 |(b,x)::H=>by simp only[merge,idx,TV ρ H' H]
theorem pv{xs:List FV}(h:AY E.Γ L e=some (.clo g [] []))(o:evs E.Γ L args.toList=some Bo)
 (d:OE Bo (xs.map .p)) (j:AL E g (xs.map .p) [] 0 f) (u:∀r H' nx',f r H' nx'→Q (r.rn (rho [] nx)) (news 0 (rho [] nx) H' H) (nx+nx')) :
 Aa E w ⟨dst,.call { callee:=.value e,args:=args,argTypes:=s },ty,pos,af,gd⟩ L H nx Q :=
 nj (ns:=[]) (Hc:=[]) h o (ac:=xs.map .p) (by simpa[n7] using d) (eL _ _) trivial trivial cy (by simp) (fun _=>rfl) j
  (fun r H' nx' q=>by rw[TV];grind)
theorem rj(h:AY E.Γ L e=some (.clo g [] []))(o:evs E.Γ L args.toList=some Bo)
 (d:OE Bo (xs.map .p)) (j:Ak E g xs r) (f:∀ρ,r.rn ρ=r) (q:Q r H nx):Aa E w ⟨dst,.call { callee:=.value e,args:=args,argTypes:=s },ty,pos,af,gd⟩ L H nx Q :=
 pv h o d j fun r' H' nx' ⟨h1,h2,h3⟩=>by subst h1;subst h2;subst h3;rw[f];exact q
theorem ri(h:AY E.Γ L f=some (.clo g [] []))(o:evs E.Γ L args.toList=some Bo)
 (d:OE Bo (xs.map .p)) (j:Bf E g xs e cs n z) (q:Q (.vec nx n 0 n) ((nx,.vec e cs n z)::H) (nx+1)):Aa E w ⟨dst,.call { callee:=.value f,args:=args,argTypes:=r },ty,pos,af,gd⟩ L H nx Q :=
 pv h o d j fun r' H' nx' ⟨h1,h2,h3⟩=>by
  subst h1;subst h2;subst h3;assumption
def Ap(E:Env)(L:Frame)(H:Heap)(nx:Nat)(L':Frame)(H':Heap)(nx':Nat):Prop :=
 ∀(B:Base) m F σ t,Ctx E.Γ m F σ H nx→RL m F (htag H) σ nx L t→B.to m F σ H nx→∃F' σ',Ctx E.Γ m F' σ' H' nx'∧RL m F' (htag H') σ' nx' L' t∧B.to m F' σ' H' nx'
section
variable {bn:Nat}{ops:Array Oper}{l:List Oper}{i:Nat}{R:Frame→Heap→Nat→Prop}{L':Frame}{H':Heap}{nx':Nat}
theorem cb{Q:BP→Frame→Heap→Nat→Prop}(g:Ap E L H nx L' H' nx')(h:Ad E bn c L' H' nx' Q):Ad E bn c L H nx Q:=fun B d m F σ t j f e=>by
 obtain⟨r,σ',q,p,o⟩:=g B m F σ t j f e;exact h B d m r σ' t q p o
theorem c7(g:Ap E L H nx L' H' nx')(h:Ah E bn ops l L' H' nx' R):Ah E bn ops l L H nx R:=fun B d m F σ t j f e=>by
 obtain⟨r,σ',q,p,o⟩:=g B m F σ t j f e;exact h B d m r σ' t q p o
theorem i6(g:Ap E L H nx L' H' nx')(h:Ai E bn ops i l L' H' nx' R):Ai E bn ops i l L H nx R:=fun B d m F σ t j f e=>by
 obtain⟨r,σ',q,p,o⟩:=g B m F σ t j f e;exact h B d m r σ' t q p o
theorem Ap.trans(g:Ap E L H nx L' H' nx')(p:Ap E L' H' nx' e f d):Ap E L H nx e f d:=fun B m F σ t o j h=>by
 obtain⟨u,σ',s,r,q⟩:=g B m F σ t o j h;exact p B m u σ' t s r q
end
theorem W9(e:TypeId)(h:Ctx Γ m F σ H nx) :
 Ctx Γ m F (upd σ nx Dn) ((nx,.vec e [] 0 true)::H) (nx+1)∧Step m F σ H nx m F (upd σ nx Dn) ((nx,.vec e [] 0 true)::H) (nx+1):=by
 have:=h.new (m':=m) (x:=.vec e [] 0 true) (s:=Dn) (ab _) (fun _ _=>rfl) (co _ _) (fun c d=>by contradiction) (.inl ⟨rfl,rfl,.inl ⟨rfl,rfl⟩⟩);grind
theorem tN(e:TypeId)(H:Heap)(nx:Nat):RP m F (htag ((nx,.vec e [] 0 true)::H)) (upd σ nx Dn) (nx+1) (.vec nx 0 0 0) Dn:=by
 refine .vec (bN _) rfl fun n d=>?_
 rw[J8,if_pos rfl] at d;simp only[HB.tag,Option.some.injEq,Tg.vec.injEq] at d;subst d;refine⟨ab _,fun _=>?_⟩;rw[upd_same];exact⟨rfl,rfl,rfl⟩
theorem iD(d:Nat)(e:TypeId)(r:Gf L d=some (.p (.val (.slice none 0 0)))):Ap E L H nx ((d,.vec nx 0 0 0)::L) ((nx,.vec e [] 0 true)::H) (nx+1):=fun B m F σ t o j s=>by
 obtain⟨y,q⟩:=W9 e o;refine⟨F,_,y,fun i v f=>?_,s.trans q⟩;rw[Ew] at f;by_cases g:d=i
 ·rw[if_pos g] at f;cases f
  have:=j d _ r;subst g;generalize CO t d=u at this;cases this with|p h=>cases h;exact tN e H nx
 ·rw[if_neg g] at f
  exact(j i v f).step q o
def hdel:Heap→Nat→Heap
 |[],_=>[]
 |(a,x)::H,b=>match Nat.decEq a b with
  | .isTrue _=>hdel H b
  | .isFalse _=>(a,x)::hdel H b
theorem Jg(H:Heap)(b c:Nat):hget (hdel H b) c=if b=c then none else hget H c:=by
 induction H with
 |nil=>simp[hdel,hget]
 |cons a H d =>
  obtain⟨a,x⟩:=a;simp only[hdel];cases hd:Nat.decEq a b with
  |isTrue h =>
   subst h;simp only[BA,d];by_cases e:a=c<;>simp[e]
  |isFalse h =>
   simp only[BA,d];grind
theorem YD(H:Heap)(b c:Nat):htag (hdel H b) c=if b=c then none else htag H c:=by
 unfold htag;rw[Jg];split<;>rfl
theorem Tn(h:Ctx Γ m F σ H nx)(B:hget H b=some (.vec e cs n z)) :
 Ctx Γ m (fun c=>F c∨Dv (σ b)=some c) σ (hdel H b) nx∧Step m F σ H nx m (fun c=>F c∨Dv (σ b)=some c) σ (hdel H b) nx ∧
 (∀v,Gi (σ b) 0 n v→RF m (fun c=>F c∨Dv (σ b)=some c) (.lst e cs n) v):=by
 have o:∀c,Dv (σ b)=some c→own H σ c:=fun c hc=>⟨b,_,B,hc⟩
 have r:∀c,F c→(F c∨Dv (σ b)=some c)∧m.get c=m.get c:=fun c hc=>⟨.inl hc,rfl⟩
 have M:Names nx (htag H) σ (htag (hdel H b)) σ:=fun d _=>by
  rw[YD];split
  ·exact⟨trivial,fun _ _ _=>rfl⟩
  ·exact⟨XW.refl _,fun _ _ _=>rfl⟩
 have f:∀d x,hget (hdel H b) d=some x→d≠b∧hget H d=some x:=fun d x j=>by
  rw[Jg] at j;grind
 refine⟨⟨?_,?_,?_,?_⟩,⟨ab _,fun _ _ _=>rfl,fun _ h=>.inl h,fun c _ hc=>hc.imp id (o c),?_,ab _,M,fun _ h _ _=>h⟩,?_⟩
 ·rintro c (hc|hc)
  ·exact h.fr c hc
  ·exact(h.Nr (o c hc)).2
 ·intro d x j
  obtain⟨u,j⟩:=f d x j;obtain⟨O,N⟩:=h.hp d x j;refine⟨O,N.mono r M (ab _) (ab _) fun c hc=>⟨rfl,?_⟩⟩;rintro(hf|hf)
  ·exact(h.Nr ⟨d,x,j,hc⟩).1 hf
  ·exact u (h.sep d b x _ c j B hc hf)
 ·intro d S x G c j y hc A
  exact h.sep d S x G c (f d x j).2 (f S G y).2 hc A
 ·intro g C Z Y
  obtain⟨O,N⟩:=h.gl g C Z Y;grind
 ·rintro c _ ⟨d,x,j,hc⟩
  exact⟨d,x,(f d x j).2,hc⟩
 ·intro v p
  obtain⟨_,X⟩:=h.hp b _ B;rcases X with⟨s,K,q⟩|⟨c,g,vs,s,K,q,V,J,U,r7⟩
  ·subst s;subst K
   rcases q with⟨q,_⟩|⟨b',o',g',q,_⟩
   ·rw[q] at p;obtain⟨rfl,_,_⟩:=p;exact .nil _
   ·rw[q] at p;simp only[Gi] at p;rw[p.1];exact .room _ _ _ _
  ·rw[s] at p
   subst p;refine .lst (.inr (by rw[s];rfl)) V ?_ (J.mono r) U;rw[cJ,J.length];simp[takeN]
theorem b6(d:Nat)(s:Gf L d=some (.vec b n 0 n))(j:hget H b=some (.vec e cs n z)):Ap E L H nx ((d,.p (.lst e cs n))::L) (hdel H b) nx:=fun B m F σ t q o y=>by
 obtain⟨C,r,A⟩:=Tn q j;refine⟨_,σ,C,fun i v f=>?_,y.trans r⟩;rw[Ew] at f;by_cases g:d=i
 ·rw[if_pos g] at f;cases f
  have:=o d _ s;subst g;cases this with
  |vec u G h=>exact .p (A _ ((h n (by simp[htag,j,HB.tag])).2 rfl))
 ·rw[if_neg g] at f
  exact(o i v f).step r q
theorem e9(a k:Nat)(ha:hget H a=some (.box e' ds))(hk:ds[k]?=some (.vec b n 0 n))(M:hget H b=some (.vec e cs n z)) :
 Ap E L H nx L (hput (hdel H b) a (.box e' (ds.set k (.p (.lst e cs n))))) nx:=fun B m F σ t s h2 h3=>by
 obtain⟨A,O,c3⟩:=Tn s M;have r:b≠a:=fun e=>by grind
 have g:hget (hdel H b) a=some (.box e' ds):=by rw[Jg,if_neg r];omega
 obtain⟨_,c,j,J,r2,Y,G,X,r6⟩:=A.hp a _ g;obtain⟨_,c',S,s1,s2,s3,C,V,U⟩:=s.hp a _ ha;rw[s1] at J;cases J;rw[C] at G;cases G;obtain⟨u,Z,q⟩:=V.get hk;have f:RP m (fun c=>F c∨Dv (σ b)=some c) (htag (hdel H b)) σ nx (.p (.lst e cs n)) u:=by
  cases q with
  |vec hb' K h=>exact .p (c3 _ ((h n (by simp[htag,M,HB.tag])).2 rfl))
 obtain⟨N,y⟩:=A.change (m':=m) (b0:=a) (x':=.box e' (ds.set k (.p (.lst e cs n)))) (s':=σ a) g trivial (fun _=>rfl) (ab _) (fun _ _ _=>rfl) (fun _ h _ _=>h) (fun c K=>.inl K) (by
  refine⟨_,j,s1,s2,Y,C,?_,U⟩;have:j=j.set k u:=by
   apply bo;grind
  rw[this];exact(X.set k f).mono (fun d hd=>⟨hd,rfl⟩) (EU (x':=.box e' (ds.set k (.p (.lst e cs n)))) g trivial fun _=>rfl) (ab _))
 have o:upd σ a (σ a)=σ:=by funext x;simp only[upd];split<;>simp_all
 rw[o] at N y;exact⟨_,σ,N,(h2.step O s).step y A,(h3.trans O).trans y⟩
theorem jw(a k:Nat)(e:TypeId)(U:hget H a=some (.box e' ds))(N:ds[k]?=some (.p (.val (.slice none 0 0)))) :
 Ap E L H nx L (hput ((nx,.vec e [] 0 true)::H) a (.box e' (ds.set k (.vec nx 0 0 0)))) (nx+1):=fun B m F σ t o X V=>by
 obtain⟨q,y⟩:=W9 e o;have M:=(o.hp a _ U).1;have f:hget ((nx,HB.vec e [] 0 true)::H) a=some (.box e' ds):=by rw[BA,if_neg (by omega)];omega
 obtain⟨_,c,g,J,G,C,A,r,z⟩:=q.hp a _ f;obtain⟨u,K,j⟩:=r.get N;have Z:u=Dn:=by cases j with|p h=>cases h;rfl
 obtain⟨Y,s⟩:=q.change (m':=m) (b0:=a) (x':=.box e' (ds.set k (.vec nx 0 0 0))) (s':=upd σ nx Dn a) f trivial (fun _=>rfl) (ab _) (fun _ _ _=>rfl) (fun _ h _ _=>h) (fun c S=>.inl S) (by
  refine⟨c,g,J,G,C,A,?_,z⟩;have:g=g.set k Dn:=by
   apply bo;grind
  rw[this];exact(r.set k (tN e H nx)).mono (fun d O=>⟨O,rfl⟩) (EU (x':=.box e' (ds.set k (.vec nx 0 0 0))) f trivial fun _=>rfl) (ab _))
 exact⟨_,_,Y,(X.step y o).step s q,(V.trans y).trans s⟩
end
section
open Go.Am
variable {E:Env}{L:Frame}{H:Heap}{nx:Nat}{Q:PV→Heap→Nat→Prop}{w:Bool}
variable {dst:Option Tmp}{ty:TypeId}{pos:String}{af:Array Edge}{gd:Option (Nat×Bool)}
def evp(Γ:Nat→Option (List Value×TypeId))(L:Frame):List (Nat×Operand)→Option (List (Nat×PV))
 |[]=>some []
 |(i,o)::l=>match AY Γ L o with
  |some x=>match evp Γ L l with
   |some r=>some ((i,x)::r)
   |none=>none
  |none=>none
def c5h:PV→Bool
 | .DK _=>true
 |_=>false
def UR(place:Nat→Option (Nat×Nat))(cs:List PV):List (Nat×PV)→Option (List PV)
 |[]=>some cs
 |(i,v)::rest=>match c5h v with
  |true=>none
  |false=>match place i with
   |none=>none
   |some (off,size)=>if(Jv v).length=size∧off+size≤cs.length then UR place (CG cs off (Jv v)) rest else none
theorem Pg(off:Nat):∀(l:List Value) (k:Nat) (cs:Array Value),((l.zipIdx k).foldl (fun cs (c,j)=>cs.setIfInBounds (off+j) c) cs).toList=splice cs.toList (off+k) l
 |[],_,_=>rfl
 |a::l,k,cs=>by
  simp only[List.zipIdx_cons,List.foldl_cons];rw[Pg off l (k+1)];simp only[splice,Array.toList_setIfInBounds];congr 1
theorem Rn(l:List α):∀(cs:List α) (o:Nat),(CG cs o l).length=cs.length:=by
 induction l with
 |nil=>intro cs o;rfl
 |cons a l d=>intro cs o;simp only[CG,d,List.length_set]
section
variable {m:Mem}{F:Nat→Prop}{T:Nat→Option Tg}{σ:Nat→Value}{n:Nat}
inductive RPp(m:Mem)(F:Nat→Prop)(T:Nat→Option Tg)(σ:Nat→Value)(n:Nat):List (Nat×PV)→List (Nat×Value)→Prop
 |nil:RPp m F T σ n [] []
 |cons {i:Nat} {x:PV} {v:Value} {l:List (Nat×PV)} {r:List (Nat×Value)} (h:RP m F T σ n x v) (t:RPp m F T σ n l r):RPp m F T σ n ((i,x)::l) ((i,v)::r)
theorem Td(d:Nat→Option (Nat×Nat)):∀{ps:List (Nat×PV)} {ps':List (Nat×Value)} {cs out:List PV} {cs':Array Value},RPp m F T σ n ps ps'→Dw m F T σ n cs cs'.toList→cs'.toList.all BQ=true →
 UR d cs ps=some out→∃e,Instr.fill d cs' ps'=some e∧Dw m F T σ n out e.toList∧e.toList.all BQ=true
 |[],_,cs,out,cs',.nil,hc,ha,h=>by
  simp only[UR,Option.some.injEq] at h;subst h;exact⟨cs',rfl,hc,ha⟩
 |(i,x)::ps,_,cs,out,cs',.cons (v:=v) hx ht,hc,ha,h=>by
  simp only[UR] at h;have j:UW x∧c5h x=false:=by cases x<;>first|exact⟨trivial,rfl⟩|contradiction
  rw[j.2] at h;obtain⟨p,s⟩:=MQ j.1 hx;simp only[Instr.fill];cases hp:d i with
  |none=>grind
  |some q =>
   obtain⟨f,g⟩:=q;rw[hp] at h;simp only at h ⊢;split at h
   ·rename_i o
    obtain⟨o,r⟩:=o;have y:=p.length;have u:=hc.length;rw[if_neg (by grind)];refine Td d ht ?_ ?_ h
    ·rw[← cI,ew,Pg,ee]
     exact kw f hc p
    ·rw[← cI,ew,Pg,ee]
     exact Ky _ ha s
   grind
end
theorem ay(d:Ctx Γ m F σ H nx)(e:RL m F (htag H) σ nx L t):∀{ps:List (Nat×Operand)} {xs:List (Nat×PV)},evp Γ L ps=some xs→RPp m F (htag H) σ nx xs (ps.map fun(i,x)=>(i,ev t x))
 |[],_,h=>by cases h;exact .nil
 |(i,o)::os,xs,h=>by
  simp only[evp] at h;cases h1:AY Γ L o with
  |none=>grind
  |some x =>
   rw[h1] at h;cases h2:evp Γ L os with
   |none=>grind
   |some r=>rw[h2] at h;cases h;exact .cons (Bz d e h1) (ay d e h2)
theorem qm(q:Ci P t=some z)(r:P.underlying t=some (.struct g))
 (o:DL P (Array.mapM (fun f=>do pure (f.offset,← sizeOf f.type)) g)=some d) (s:Instr.fill (fun x=>d[x]?) z.toArray ps.toList=some h):DL P (Instr.build t ps)=some (.agg h):=by
 obtain⟨i,p,A,y,u,B⟩:=BM q;unfold Instr.build;simp only[Aw];have j:DL P (zeroValue t)=some p:=by
  simp only[zeroValue,Aw,LY,A,Option.bind_some,y];rfl
 rw[j];simp only[Option.bind_some,Bd,r];simp only[Aw,o,Option.bind_some];have e:p.cells=z.toArray:=by rw[u]
 rw[e,s];rfl
def TI(P:Program):List Field→Option (List (Nat×Nat))
 |[]=>some []
 |f::l=>match P.info? f.type with
  |some i=>match TI P l with
   |some r=>some ((f.offset,i.size)::r)
   |none=>none
  |none=>none
theorem Za:∀(l:List Field),DL P (l.mapM fun f=>(do pure (f.offset,← sizeOf f.type):Sem (Nat×Nat)))=TI P l
 |[]=>rfl
 |f::l=>by
  rw[List.mapM_cons];simp only[Aw,Gy,TI,Za l];cases P.info? f.type with
  |none=>rfl
  |some i =>
   cases TI P l<;>rfl
theorem a3z(h:TI P d.toList=some pl):DL P (Array.mapM (fun f=>(do pure (f.offset,← sizeOf f.type):Sem (Nat×Nat))) d)=some pl.toArray:=by
 rw[gL,map_eq_pure_bind,Aw,Za,h];rfl
theorem Aa.build{ps:Array (Nat×Operand)}(o:Ci E.P t=some z)(u:E.P.underlying t=some (.struct e))
 (r:TI E.P e.toList=some d) (y:evp E.Γ L ps.toList=some f) (A:UR (fun x=>d[x]?) (z.map fun v=>.p (Iw v)) f=some h) (q:Q (yQ h) H nx) :
 Aa E w ⟨dst,.build t ps,ty,pos,af,gd⟩ L H nx Q :=
 Aa.quiet q fun m F σ s C B=>by
  obtain⟨_,_,_,_,_,j⟩:=BM o;obtain⟨g,M,K,J⟩:=Td (fun x=>d[x]?) (ay C B y) (cs':=z.toArray) (Dw.zero j) (Dq j) A;have G:=qm (ps:=ps.map fun(i,x)=>(i,ev s x)) o u (a3z r) (by simpa using M);refine⟨.agg g,fun _=>?_,XZ K J⟩;simp only[BX,F5,o,G,Option.map_some]
theorem b7{ps:Array (Nat×Operand)}{e:Array Field}{d:List (Nat×Nat)}{f:List (Nat×PV)}(q:Q (yQ h) H nx)(o:Ci E.P t=some z:=by rfl)(u:E.P.underlying t=some (.struct e):=by rfl)(r:TI E.P e.toList=some d:=by rfl)(y:evp E.Γ L ps.toList=some f:=by rfl)(A:UR (fun x=>d[x]?) (z.map fun v=>.p (Iw v)) f=some h:=by rfl):Aa E w ⟨dst,.build t ps,ty,pos,af,gd⟩ L H nx Q:=Aa.build o u r y A q
theorem OU(n:Nat)(h:Ctx Γ m F σ H nx)(j:Du m F cs vs)(f:vs.all BQ=true) :
 Ctx Γ (m.alloc (.cells vs e 0 false)) F (upd σ nx (.slice (some ⟨m.size,0,none⟩) n 0)) ((nx,.vec e cs n false)::H) (nx+1) ∧
 Step m F σ H nx (m.alloc (.cells vs e 0 false)) F (upd σ nx (.slice (some ⟨m.size,0,none⟩) n 0)) ((nx,.vec e cs n false)::H) (nx+1)∧Quiet m (m.alloc (.cells vs e 0 false)) ∧
 RP (m.alloc (.cells vs e 0 false)) F (htag ((nx,.vec e cs n false)::H)) (upd σ nx (.slice (some ⟨m.size,0,none⟩) n 0)) (nx+1) (.vec nx n 0 n) (.slice (some ⟨m.size,0,none⟩) n 0):=by
 obtain⟨q,p,o⟩:=h.new (m':=m.alloc (.cells vs e 0 false)) (x:=.vec e cs n false) (s:=.slice (some ⟨m.size,0,none⟩) n 0) (by simp[Mem.alloc]) (fun c f=>by rw[dZ,if_neg (by omega)]) (by simp only[Mem.alloc];omega)
  (fun c f=>by simp only[Dv,Option.some.injEq] at f;omega) (.inr ⟨m.size,0,vs,rfl,by simp[Mem.alloc],fun d=>cH _ (h.fr _ d),by rw[dZ,if_pos rfl],
   j.mono (fun c d=>⟨d,by rw[dZ,if_neg (by have:=h.fr c d;omega)]⟩),f,fun _=>rfl⟩)
 refine⟨q,p,o,.vec (bN _) rfl fun k g=>?_⟩;rw[J8,if_pos rfl] at g;simp only[HB.tag,Option.some.injEq,Tg.vec.injEq] at g;refine⟨by omega,fun _=>?_⟩;rw[upd_same];rfl
theorem mJ(d:Nat→Option (Nat×Nat)):∀(ps:List (Nat×PV)) {cs out:List PV},UR d cs ps=some out→out.length=cs.length
 |[],cs,out,h=>by
  simp only[UR,Option.some.injEq] at h;rw[h]
 |(i,v)::rest,cs,out,h=>by
  simp only[UR] at h
  repeat' split at h
  all_goals first|(cases h)|(have:=mJ d rest h;rw[this,Rn])
theorem c1j(e:TypeId)(h:Ctx Γ m F σ H nx) :
 Ctx Γ m F (upd σ nx (.slice emptyAt 0 0)) ((nx,.vec e [] 0 false)::H) (nx+1)∧Step m F σ H nx m F (upd σ nx (.slice emptyAt 0 0)) ((nx,.vec e [] 0 false)::H) (nx+1)∧Quiet m m:=by
 exact h.new (m':=m) (x:=.vec e [] 0 false) (s:=.slice emptyAt 0 0) (ab _) (fun _ _=>rfl) (co _ _) (fun c d=>by contradiction) (.inl ⟨rfl,rfl,.inr ⟨0,0,0,rfl,rfl⟩⟩)
theorem b7l(e:TypeId)(H:Heap)(nx:Nat):RP m F (htag ((nx,.vec e [] 0 false)::H)) (upd σ nx (.slice emptyAt 0 0)) (nx+1) (.vec nx 0 0 0) (.slice emptyAt 0 0):=by
 refine .vec (bN _) rfl fun n d=>?_
 rw[J8,if_pos rfl] at d;simp only[HB.tag,Option.some.injEq,Tg.vec.injEq] at d;subst d;refine⟨ab _,fun _=>?_⟩;rw[upd_same];exact⟨rfl,rfl,rfl⟩
theorem Aa.buildSlice{t e:TypeId}(K:E.P.underlying t=some (.slice e))(N:E.P.info? e=some i)
 (s:Ci E.P e=some z) (M:len*i.size≤2^24∧z.length=i.size∧0<i.size) (X:evp E.Γ L ps.toList=some d) (O:UR (fun j=>some (j*i.size,i.size)) ((AO z len).map fun v=>.p (Iw v)) d=some f)
 (S:b6e f=some r) (q:Q (.vec nx len 0 len) ((nx,.vec e r len false)::H) (nx+1)):Aa E w ⟨dst,.buildSlice t len ps,ty,pos,af,gd⟩ L H nx Q:=by
 intro m F σ V A Z;obtain⟨_,_,_,_,_,u⟩:=BM s;have h:=J7 u len;obtain⟨g,e1,e2,B⟩:=Td (fun j=>some (j*i.size,i.size)) (ay A Z X) (cs':=(AO z len).toArray) (Dw.zero h) (Dq h) O;have o:Instr.fill (fun j=>some (j*i.size,i.size)) (AO z len).toArray (ps.map fun(i,x)=>(i,ev V x)).toList=some g:=by simp_all
 by_cases U:len=0
 ·subst U
  have Y:f=[]:=aw.1 (by rw[mJ _ _ O];rfl);subst Y;have y:r=[]:=by
   have:some ([]:List FV)=some r:=S;grind
  subst y;obtain⟨J,G,C⟩:=c1j e A;refine GX.op (v:=.slice emptyAt 0 0) (fun _=>?_) ⟨_,_,_,F,_,q,J,b7l e H nx,G,fun _=>C⟩;simp only[BX,F5,K,N,s,M,and_self,if_true,o,B]
 obtain⟨J,G,C,c4⟩:=OU (e:=e) len A (jq S e2) B;refine GX.op (v:=.slice (some ⟨m.size,0,none⟩) len 0) (fun _=>?_) ⟨_,_,_,F,_,q,J,c4,G,fun _=>C⟩;simp only[BX,F5,K,N,s,M,and_self,if_true,o,B,AU,U,if_false]
theorem bi{ps:Array (Nat×Operand)}{z:List Value}{i:TypeInfo}{d:List (Nat×PV)}{f:List PV}(q:Q (.vec nx len 0 len) ((nx,.vec e r len false)::H) (nx+1))(K:E.P.underlying t=some (.slice e):=by rfl)(N:E.P.info? e=some i:=by rfl)(s:Ci E.P e=some z:=by rfl)(M:len*i.size≤2^24∧z.length=i.size∧0<i.size:=by decide)(X:evp E.Γ L ps.toList=some d:=by rfl)(O:UR (fun j=>some (j*i.size,i.size)) ((AO z len).map fun v=>.p (Iw v)) d=some f:=by rfl)(S:b6e f=some r:=by rfl):Aa E w ⟨dst,.buildSlice t len ps,ty,pos,af,gd⟩ L H nx Q:=Aa.buildSlice K N s M X O S q
theorem Aa.makeSlice{t e:TypeId}{n:Nat}(r:E.P.underlying t=some (.slice e))(y:E.P.info? e=some i)(h:Ci E.P e=some z)(u:AY E.Γ L l=some (.p (.int k1 n)))(A:AY E.Γ L c=some (.p (.int o n)))
 (N:n*(i.bytes+1)≤room∧n≤2^40) (s:z.length=i.size∧0<i.size) (q:Q (.vec nx n 0 n) ((nx,.vec e ((AO z n).map Iw) n false)::H) (nx+1)):Aa E w ⟨dst,.makeSlice t l c,ty,pos,af,gd⟩ L H nx Q:=by
 intro m F σ M g j;obtain⟨_,_,_,_,_,f⟩:=BM h;have d:=J7 f n;obtain⟨K,J,G,C⟩:=OU (e:=e) n g (Jl (F:=F) d) (Dq d);refine GX.op (v:=.slice (some ⟨m.size,0,none⟩) n 0) (fun _=>?_) ⟨_,_,_,F,_,q,K,C,J,fun _=>G⟩;have B:(0:Int)≤(n:Int)∧(n:Int)≤(n:Int)∧(n:Int).toNat*(i.bytes+1)≤room∧(n:Int)≤2^40∧z.length=i.size∧0<i.size:=⟨by omega,by omega,by grind,by omega,s⟩
 simp only[BX,F5,r,CV g j u,CV g j A,y,h];rw[if_pos B];rfl
def uG(Γ:Nat→Option (List Value×TypeId))(L:Frame)(H:Heap)(nx:Nat)(x:Operand)(sz:Nat)(xs:List FV)(k:Nat):Prop :=
 ∀m F σ t,Ctx Γ m F σ H nx→RL m F (htag H) σ nx L t→lenOf (ev t x)=some k∧∃l,BH m sz k (ev t x)=some l∧Du m F xs l∧l.all BQ=true
theorem uG.lst(h:AY Γ L x=some (.p (.lst e xs k)))(z:xs.length=k*sz):uG Γ L H nx x sz xs k:=fun m F σ t s r=>by
 have:=Bz s r h;generalize ev t x=v at this;cases this with
 |p h =>
  cases h with
  |nil=>exact⟨rfl,[],rfl,.nil,rfl⟩
  |room=>exact⟨rfl,[],rfl,.nil,rfl⟩
  |lst A j y f q =>
   rename_i b o g u d ro;refine⟨rfl,d,?_,f,q⟩;simp only[BH,Nat.le_refl,if_true,Mem.Es,j];simp only[MK,Option.getD_some,if_true];grind
theorem uG.vec(h:AY Γ L x=some (.vec b n off len))(y:hget H b=some (.vec e cs n z))(Z:off+len*sz≤cs.length) :
 uG Γ L H nx x sz ((cs.drop off).take (len*sz)) len:=fun m F σ t A O=>by
 have d:=IY A O h y;obtain⟨_,M⟩:=A.hp b _ y;rcases M with⟨s,G,j⟩|⟨c,g,f,s,G,j,C,r,B,S⟩
 ·have K:(∃a,ev t x=.slice a 0 0∧(a=none∨∃b o g,a=some ⟨b,o,some g⟩))∧len=0:=by
   rcases j with⟨j,_⟩|⟨b',Y,g',j,_⟩
   ·rw[j] at d;obtain⟨X,V,U⟩:=d;grind
   ·simp only[Gi] at d;grind
  obtain⟨⟨a,N,q⟩,rfl⟩:=K;rw[N];refine⟨rfl,[],?_,by rw[ed,gw];exact .nil,rfl⟩;rcases q with rfl|⟨_,_,_,rfl⟩<;>rfl
 ·rw[s] at d
  rw[d];have u:=r.length;have p:len*sz≤(f.drop off).length:=by grind
  refine⟨rfl,(f.drop off).take (len*sz),?_,?_,OL (JQ B _) _⟩
  ·simp only[BH,Nat.le_refl,if_true,Mem.Es,C]
   simp only[MK,Option.getD_some,if_true,takeN,if_pos p]
  ·have:∀{cs:List FV} {f:List Value} (k:Nat),Du m F cs f→Du m F (cs.take k) (f.take k):=by
    intro cs f k h
    induction k generalizing cs f with
    |zero=>exact .nil
    |succ k J=>cases h with|nil=>exact .nil|cons h t=>exact .cons h (J t)
   exact this _ (Du.drop off r)
theorem uG.all{b n sz:Nat}(h:AY Γ L x=some (.vec b n 0 n))(d:hget H b=some (.vec e cs n z))(f:cs.length=n*sz):uG Γ L H nx x sz cs n:=by
 have:=uG.vec (sz:=sz) (nx:=nx) h d (by omega);grind
theorem Aa.append(hs:AY E.Γ L s=some (.vec b n 0 n))(hb:hget H b=some (.vec e cs n z))(hx:uG E.Γ L H nx x i.size xs k)
 (hsT:E.P.underlying sT=some (.slice e)) (hxT:E.P.underlying xT=some xd) (y:∀k,xd≠.int k) (hi:E.P.info? e=some i) (hzs:EO i=true) (h0:0<k) (K:(n+k)*(i.bytes+1)≤room) (hl:cs.length=n*i.size) (hsz:0<i.size)
 (q:Q (.vec b (n+k) 0 (n+k)) (hput H b (.vec e (cs++xs) (n+k) z)) nx):Aa E true ⟨dst,.call { callee:=.builtin .append,args:=#[s,x],argTypes:=#[sT,xT] },ty,pos,af,gd⟩ L H nx Q:=by
 intro m F σ t S h2;have f:=IY S h2 hs hb;obtain⟨hx1,l,hx2,Y,C⟩:=hx m F σ t S h2;obtain⟨hlt,hr⟩:=S.hp b _ hb;have M:lenOf (ev t s)=some n:=by
  rcases hr with⟨A,X,p⟩|⟨c,g,U,A,_⟩
  ·rcases p with⟨p,_⟩|⟨b',o',g',p,_⟩<;>rw[p] at f<;>simp only[Gi,Dn] at f<;>rw[f.1,X]<;>rfl
  ·rw[A] at f;simp only[Gi] at f;rw[f];rfl
 have happ:∀v m',BR m e i.size l k (ev t s)=some (v,m')→Jq E.P #[sT,xT] #[ev t s,ev t x] m=some (v,m'):=by
  intro v m' N;simp only[Jq,List.getElem?_toArray,List.getElem?_cons_zero,List.getElem?_cons_succ,hsT,hxT,M,hi,hzs,Bool.not_true,Bool.false_eq_true,if_false];cases xd<;>first|exact absurd rfl (y _)|(simp only[hx1,hx2,C,Bool.and_true,decide_eq_true_eq];rw[if_pos K];exact N)
 have B:∀v m' V,BR m e i.size l k (ev t s)=some (v,m')→V=v→(Ctx E.Γ m' F (upd σ b V) (hput H b (.vec e (cs++xs) (n+k) z)) nx∧Step m F σ H nx m' F (upd σ b V) (hput H b (.vec e (cs++xs) (n+k) z)) nx)→(∃c g,v=.slice (some ⟨c,0,none⟩) (n+k) g) →
  GX E.P E.O E.G ⟨dst,.call { callee:=.builtin .append,args:=#[s,x],argTypes:=#[sT,xT] },ty,pos,af,gd⟩ ⟨t,m⟩ fun v m'=>∃r H' nx' F' σ',Q r H' nx'∧Ctx E.Γ m' F' σ' H' nx'∧RP m' F' (htag H') σ' nx' r v∧Step m F σ H nx m' F' σ' H' nx'∧(true=false→Quiet m m'):=by
  rintro v m' V N rfl ⟨c1,c2⟩ ⟨c,g,J⟩;refine GX.op (v:=V) (m':=m') (fun _=>?_) ⟨_,_,_,F,_,q,c1,?_,c2,fun h=>by cases h⟩
  ·have:=happ _ _ N
   simp only[BX,F5];grind
  ·refine .vec hlt (by rw[J];rfl) fun j hj=>?_
   rw[SX,if_pos rfl,htag,hb] at hj;simp only[Option.map_some,HB.tag,Option.some.injEq,Tg.vec.injEq] at hj;refine⟨by omega,fun _=>?_⟩;rw[upd_same,J];rfl
 have b6r:XW (some (HB.vec e cs n z).tag) (some (HB.vec e (cs++xs) (n+k) z).tag):=fL _ _;have hne:(HB.vec e cs n z).tag=(HB.vec e (cs++xs) (n+k) z).tag→False:=by simp only[HB.tag,Tg.vec.injEq];omega
 rcases hr with⟨A,X,p⟩|⟨c,g,U,A,X,p,r4,r5,r6,r7⟩
 ·have J:Dv (σ b)=none∧(ev t s=.slice none 0 0∨∃b o g,ev t s=.slice (some ⟨b,o,some g⟩) 0 0):=by
   rcases p with⟨p,_⟩|⟨b',o',g',p,_⟩
   ·rw[p] at f ⊢;exact⟨rfl,.inl f.1⟩
   ·rw[p] at f ⊢;simp only[Gi] at f;exact⟨rfl,.inr ⟨_,_,_,f.1⟩⟩
  have N:BR m e i.size l k (ev t s)=some (AU m e l k):=by
   rcases J.2 with J|⟨_,_,_,J⟩<;>rw[J]<;>simp only[BR]<;>rw[if_neg (by omega)]
  subst A;subst X;refine B _ _ _ N rfl ?_ ⟨m.size,0,by rw[cG]⟩;refine S.change (x0:=.vec e [] 0 z) (x':=.vec e ([]++xs) (0+k) z) hb b6r (fun e=>(hne e).elim) (by simp[AU,Mem.alloc]) (fun c hc _=>by(try simp only[AU]);rw[dZ,if_neg (by omega)])
   (fun k' k1 k2 _=>by simp only[AU,Mem.alloc];omega) (fun c hc=>by simp only[AU,Dv,Option.some.injEq] at hc;right;omega) ?_
  refine .inr ⟨m.size,0,l,by simp[AU],by simp[AU,Mem.alloc],fun hf=>cH _ (S.fr _ hf),by(try simp only[AU]);rw[dZ,if_pos rfl],?_,C,fun h=>by omega⟩;rw[eI];exact Y.mono (fun c hf=>⟨hf,by(try simp only[AU]);rw[dZ,if_neg (by have:=S.fr c hf;omega)]⟩)
 ·rw[A] at f
  simp only[Gi] at f;have hlen:=r5.length;have Z:takeN (n*i.size) (U.drop 0)=some U:=by
   rw[cJ,← hl,hlen];simp[takeN]
  have N:BR m e i.size l k (ev t s)=some (.slice (some ⟨c,0,none⟩) (n+k) (g+1),m.put c (.cells (U++l) e (g+1) false)):=by
   rw[f];simp only[BR,r4,beq_self_eq_true,decide_eq_true hsz,Bool.and_self,if_true,Z];simp
  have u:∀d,c≠d→(m.put c (.cells (U++l) e (g+1) false)).get d=m.get d:=fun d y=>by rw[cg,if_neg y]
  refine B _ _ _ N rfl ?_ ⟨c,g+1,rfl⟩;refine S.change (x':=.vec e (cs++xs) (n+k) z) hb b6r (fun e=>(hne e).elim) (ab _) (fun d _ y=>u d fun e=>y (by rw[A,e];rfl)) (fun k' k1 k2 k3=>by
   have:=k3 c (by rw[A];rfl);simp only[Mem.put];omega) (fun d y=>.inl (by rw[A];exact y)) ?_
  refine .inr ⟨c,g+1,U++l,rfl,X,p,by rw[cg,if_pos rfl],?_,by rw[eJ,r6,C];rfl,fun h=>by omega⟩;exact(r5.append Y).mono (fun d y=>⟨y,u d fun e=>p (e▸y)⟩)
end
section
open Go.Am
variable {P:Program}
inductive Io{α β:Type}(R:α→β→Prop):List α→List β→Prop
 |nil:Io R [] []
 |cons {a:α} {b:β} {l:List α} {r:List β} (h:R a b) (t:Io R l r):Io R (a::l) (b::r)
def Gs(P:Program):Nat→TypeId→List FV→Prop
 |0,_,_=>False
 |f+1,t,fs=>match P.underlying t with
  |some .bool=>∃b,fs=[.bool b]
  |some (.int k)=>∃n,fs=[.int k n]∧(Lit.int k n).wf=true
  |some .string=>∃s:ByteArray,fs=[.str s]∧s.size≤maxLen
  |some (.slice e)=>∃L:List (List FV),fs=[.lst e L.flatten L.length]∧L.length≤maxLen∧∀x∈L,Gs P f e x
  |some (.struct sf)=>∃parts:List (List FV),fs=parts.flatten∧Io (fun(fd:Field) x=>Gs P f fd.type x) sf.toList parts
  |some (.array n e)=>∃L:List (List FV),fs=L.flatten∧L.length=n∧∀x∈L,Gs P f e x
  |_=>False
def XQ(P:Program):Nat→TypeId→Bool
 |0,_=>false
 |f+1,t=>match P.underlying t with
  |some .bool|some (.int _)|some .string=>true
  |some (.slice e)=>P.cellsOf e != 0&&XQ P f e
  |some (.struct fs)=>decide ((fs.toList.map fun fd=>((List.range (P.cellsOf t)).drop fd.offset).take (P.cellsOf fd.type)).flatten=List.range (P.cellsOf t))&&fs.toList.all fun fd=>XQ P f fd.type
  |some (.array n e)=>decide (((List.range n).map fun i=>((List.range (P.cellsOf t)).drop (i*P.cellsOf e)).take (P.cellsOf e)).flatten=List.range (P.cellsOf t))&&XQ P f e
  |_=>false
structure Laid(m m':Mem)(fs:List FV)(l:List Value):Prop where
 rel:Du m' (fun c=>c<m'.size) fs l
 cell:l.all BQ=true
 size:m.size≤m'.size
 get:∀c,c<m.size→m'.get c=m.get c
theorem Laid.refl(m:Mem)(h:Du m (fun c=>c<m.size) d l)(e:l.all BQ=true):Laid m m d l:=⟨h,e,ab _,fun _ _=>rfl⟩
theorem a6v{m m':Mem}(d:m.size≤m'.size)(e:∀c,c<m.size→m'.get c=m.get c):∀c,c<m.size→c<m'.size∧m'.get c=m.get c :=by grind
section
variable {H:Type}{enc:TypeId×Value→H}{W:World}{held:Bool}
def fC(P:Program)(f:Nat)(t:TypeId)(d:DataW H):Prop:=∀m,∃l m' fs,Uh P f t d m=some (l,m')∧Gs P f t fs∧Laid m m' fs l
theorem WH(f:Nat):∀(xs:List (TypeId×DataW H)),(∀x∈xs,fC P f x.1 x.2)→∀m,∃l m' L,Yr (Uh P f) xs m=some (l,m')∧Io (fun(x:TypeId×DataW H) fs=>Gs P f x.1 fs) xs L∧Laid m m' L.flatten l
 |[],_,m=>⟨[],m,[],rfl,.nil,Laid.refl m .nil rfl⟩
 |(t,d)::xs,h,m=>by
  obtain⟨o,m1,fs,u,s,g⟩:=h (t,d) (by simp) m;obtain⟨j,m2,L,r,q,e⟩:=WH f xs (fun x y=>h x (by grind)) m1;refine⟨o++j,m2,fs::L,by simp only[Yr,u,r],.cons s q,?_⟩;exact⟨(g.rel.mono (a6v e.size e.get)).append e.rel,by rw[eJ,g.cell,e.cell];rfl,an g.size e.size,fun c p=>(e.get c (by have:=g.size;omega)).trans (g.get c p)⟩
theorem mU{g:α→β}:∀{l:List α} {r:List γ},Io R (l.map g) r→Io (fun a c=>R (g a) c) l r
 |[],_,.nil=>.nil
 |_::_,_,.cons h t=>.cons h (mU t)
theorem Io.const{R:γ→Prop}:∀{l:List α} {r:List γ},Io (fun _ c=>R c) l r→l.length=r.length∧∀x∈r,R x
 |_,_,.nil=>⟨rfl,by simp⟩
 |_,_,.cons h t=>by
  obtain⟨e,d⟩:=Io.const t;grind
theorem Io.zip:∀{l:List α} {ds:List β} {r:List γ},l.length=ds.length→Io (fun(x:α×β) c=>R x.1 c) (l.zip ds) r→Io R l r
 |[],[],_,_,h=>by cases h;exact .nil
 |a::l,d::ds,r,hl,h=>by
  cases h with|cons h t=>exact .cons h (Io.zip (by grind) t)
 |[],_::_,_,hl,_=>by grind
 |_::_,[],_,hl,_=>by grind
theorem a5x:∀(f:Nat) (t:TypeId) (cs:List Value) (d:DataW H) (ps:List MemPlace),XQ P f t=true→DataW.trod enc P W 0 (fun _=>true) held f t cs=some (d,ps)→fC P f t d
 |0,_,_,_,_,h,_=>by cases h
 |f+1,t,cs,d,ps,hok,h=>by
  have ih:=a5x f;intro m;unfold DataW.trod at h;unfold Uh;unfold XQ at hok;unfold Gs;cases hu:P.underlying t with
  |none=>rw[hu] at hok;cases hok
  |some u =>
   rw[hu] at h hok;cases u with
   |bool =>
    match cs,h with
    |[.bool b],h =>
     simp only[Option.some.injEq,Prod.mk.injEq] at h;obtain⟨rfl,rfl⟩:=h;exact⟨_,_,_,rfl,⟨b,rfl⟩,Laid.refl m (.cons (.bool b) .nil) rfl⟩
   |int k =>
    match cs,h with
    |[.int k' n],h =>
     simp only at h;split at h
     ·rename_i M
      simp only[Option.some.injEq,Prod.mk.injEq] at h;obtain⟨rfl,rfl⟩:=h;exact⟨_,_,_,rfl,⟨n,rfl,M.2⟩,Laid.refl m (.cons (.int k n) .nil) rfl⟩
     ·cases h
   |string =>
    match cs,h with
    |[.string s],h =>
     simp only at h;split at h
     ·rename_i M
      simp only[Option.some.injEq,Prod.mk.injEq] at h;obtain⟨rfl,rfl⟩:=h;exact⟨_,_,_,rfl,⟨s,rfl,M⟩,Laid.refl m (.cons (.str s) .nil) rfl⟩
     ·cases h
   |slice e =>
    simp only[Bool.and_eq_true,bne_iff_ne,ne_eq] at hok
    match cs,h with
    |[.slice none 0 0],h =>
     simp only[Option.some.injEq,Prod.mk.injEq] at h;obtain⟨rfl,rfl⟩:=h;exact⟨_,_,_,rfl,⟨[],rfl,ao _,by simp⟩,Laid.refl m (.cons (.nil e) .nil) rfl⟩
    |[.slice (some a) len cap],h =>
     simp only at h;split at h
     ·rename_i M
      simp only[Option.bind_eq_some_iff,Option.map_eq_some_iff] at h;obtain⟨j,h1,rest,h2,h3⟩:=h;simp only[Prod.mk.injEq] at h3;obtain⟨rfl,rfl⟩:=h3;obtain⟨hl,Y⟩:=mapM_some h1;simp only[hok.1,if_false];split
      ·rename_i he
       simp only[Bool.and_eq_true,List.isEmpty_iff] at he;exact⟨_,_,_,rfl,⟨[],rfl,ao _,by simp⟩,Laid.refl m (.cons (.room e 0 0 0) .nil) rfl⟩
      ·have o:∀x∈(j.map (·.1)).map fun x=>(e,x),fC P f x.1 x.2:=by
        intro x O;simp only[List.mem_map] at O;obtain⟨y,⟨z,hz,rfl⟩,rfl⟩:=O;obtain⟨i,G⟩:=fY hz;have U:i<(List.range len).length:=by
         have:i<j.length:=by
          rcases aq i j.length with h|h
          ·exact h
          ·rw[aR h] at G;cases G
         omega
        obtain⟨b,p,q⟩:=Y i _ (ai U);rw[G] at p;cases p;simp only[Option.bind_eq_some_iff] at q;obtain⟨cs',_,hb3⟩:=q;exact ih e cs' z.1 z.2 hok.2 hb3
       obtain⟨l,K,L,e1,e2,J⟩:=WH f _ o m;obtain⟨e4,e5⟩:=Io.const (R:=fun C=>Gs P f e C) (mU (R:=fun(x:TypeId×DataW H) C=>Gs P f x.1 C) (g:=fun x=>(e,x)) e2);rw[e1];simp only[List.length_map,List.length_range] at e4 hl ⊢;have hg:∀c,c<K.size→(K.alloc (.cells l e 0 true)).get c=K.get c:=fun c M=>by rw[dZ,if_neg (by omega)]
       have S:(K.alloc (.cells l e 0 true)).size=K.size+1:=rfl;refine⟨_,_,_,rfl,⟨L,rfl,by omega,e5⟩,⟨?_,rfl,by rw[S];have:=J.size;omega,fun c M=>(hg c (by have:=J.size;omega)).trans (J.get c M)⟩⟩;rw[show j.length=L.length by omega];refine .cons (.lst (by rw[S];omega) (by rw[dZ,if_pos rfl]) (ws:=l) ?_ (J.rel.mono fun c M=>⟨by rw[S];omega,hg c M⟩) J.cell) .nil;rw[cJ,J.rel.length];simp[takeN]
     ·cases h
   |struct sf =>
    simp only[Bool.and_eq_true,decide_eq_true_eq] at hok;obtain⟨B,A⟩:=hok;have N:(if cs.length=P.cellsOf t then(sf.toList.mapM fun V=>DataW.trod enc P W 0 (fun _=>true) held f V.type ((cs.drop V.offset).take (P.cellsOf V.type))).map fun r=>((.agg (r.map (·.1)):DataW H),r.flatMap (·.2)) else none)=some (d,ps):=by
     revert h;cases cs with
     |nil=>exact id
     |cons c cs=>cases c<;>cases cs<;>exact id
    split at N
    ·simp only[Option.map_eq_some_iff,Prod.mk.injEq] at N
     obtain⟨r,h1,rfl,rfl⟩:=N;obtain⟨hl,Y⟩:=mapM_some h1;simp only[B,if_true];have o:∀x∈(sf.toList.map (·.type)).zip (r.map (·.1)),fC P f x.1 x.2:=by
      intro x O;obtain⟨i,G⟩:=fY O;rw[gM,ax,ax,ae,ae] at G;obtain⟨⟨X,Z,hx1⟩,⟨y,hy,hx2⟩⟩:=G;obtain⟨b,p,q⟩:=Y i X Z;rw[hy] at p;cases p;have hx':x=(X.type,y.1):=by rw[hx1,hx2]
      rw[hx'];exact ih X.type _ y.1 y.2 (aE.1 A X (fX Z)) q
     obtain⟨l,K,L,e1,e2,J⟩:=WH f _ o m;refine⟨l,K,L.flatten,e1,⟨L,rfl,?_⟩,J⟩;exact mU (R:=fun t C=>Gs P f t C) (g:=fun(X:Field)=>X.type) (Io.zip (R:=fun t C=>Gs P f t C) (by simp only[List.length_map];omega) e2)
    ·cases N
   |array n e =>
    simp only[Bool.and_eq_true,decide_eq_true_eq] at hok;obtain⟨B,A⟩:=hok;have N:(if cs.length=P.cellsOf t then((List.range n).mapM fun i=>DataW.trod enc P W 0 (fun _=>true) held f e ((cs.drop (i*P.cellsOf e)).take (P.cellsOf e))).map fun r=>((.agg (r.map (·.1)):DataW H),r.flatMap (·.2)) else none)=some (d,ps):=by
     revert h;cases cs with
     |nil=>exact id
     |cons c cs=>cases c<;>cases cs<;>exact id
    split at N
    ·simp only[Option.map_eq_some_iff,Prod.mk.injEq] at N
     obtain⟨r,h1,rfl,rfl⟩:=N;obtain⟨hl,Y⟩:=mapM_some h1;simp only[B,if_true];have o:∀x∈(r.map (·.1)).map fun x=>(e,x),fC P f x.1 x.2:=by
      intro x O;simp only[List.mem_map] at O;obtain⟨y,⟨z,hz,rfl⟩,rfl⟩:=O;obtain⟨i,G⟩:=fY hz;have U:i<(List.range n).length:=by
       have:i<r.length:=by
        rcases aq i r.length with h|h
        ·exact h
        ·rw[aR h] at G;cases G
       omega
      obtain⟨b,p,q⟩:=Y i _ (ai U);rw[G] at p;cases p;exact ih e _ z.1 z.2 A q
     obtain⟨l,K,L,e1,e2,J⟩:=WH f _ o m;obtain⟨e4,e5⟩:=Io.const (R:=fun C=>Gs P f e C) (mU (R:=fun(x:TypeId×DataW H) C=>Gs P f x.1 C) (g:=fun x=>(e,x)) e2);simp only[List.length_map,List.length_range] at e4 hl;exact⟨l,K,L.flatten,e1,⟨L,rfl,by omega,e5⟩,J⟩
    ·cases N
   |_=>cases hok
end
end
section
open Go.Am
variable {P:Program}
def noO:BG:=fun _=>none
open Classical in
noncomputable def Wx(G:List Nat)(M0:Mem)(fs:List FuncId):BG:=fun f =>
 if f∈fs then some fun Bo m=>if Bo=[]∧∀k∈G,m.get k=M0.get k then some (.bool true,m) else none else none
theorem DJ(d:k<P.globals.size):(AX P F laid).get k=match IC P F laid k with|some (e,l)=>.cells l e 0 true|none=>.cells [] 0 0 true:=by
 rw[AX,Vp,if_neg (by simp[Am.empty])];simp only[Am.empty,Nat.sub_zero,List.getElem?_map];grind
theorem Pv:(AX P F laid).size=P.globals.size:=by rw[AX,Si];simp[Am.empty]
theorem Ec(h:k∈Au P F laid):k<P.globals.size∧∃e l,IC P F laid k=some (e,l):=by
 simp only[Au,List.mem_filter,List.mem_range] at h;obtain⟨f,d⟩:=h;cases hg:IC P F laid k with
 |none=>grind
 |some x=>grind
theorem PO(h:IC P F laid k=some (e,l)):l.all Am.plainCell=true:=by
 unfold IC at h;split at h
 ·rename_i x g _ _
  simp only[Option.map_eq_some_iff,Prod.mk.injEq] at h;obtain⟨r,d,_,rfl⟩:=h;unfold absP at d;grind
 grind
theorem zo{F N D:Nat}(kH:P.follows .mixedOrders=true)
 (h:∀f∈fs,∃m',Ei P noO (Au P F laid) N D f [] (AX P F laid)=some (.bool true,m')):EI P (Au P F laid) (Wx (Au P F laid) (AX P F laid) fs):=by
 intro f Fo X;unfold Wx at X;split at X
 ·rename_i B
  cases X;obtain⟨m0,h0⟩:=h f B;have hO:EI P (Au P F laid) noO:=fun _ _ h=>by cases h
  have y:=Ib (N:=N) hO kH D f;refine⟨fun Bo m v m' u ι w as' S z=>?_,fun Bo m v m' u=>?_,y.2 _ _ _ h0,UD.none fun n lb m=>if_neg fun h=>by cases h.1⟩<;>simp only at u
  ·split at u
   ·rename_i J
    obtain⟨rfl,hg⟩:=J;cases u;have Z:DR P (Au P F laid) (fun b=>if b∈Au P F laid then ι b else none) (AX P F laid) w:=by
     refine⟨fun b r j=>?_,fun b r j=>?_,fun b b' r q j K _=>?_,fun k O=>?_⟩
     ·split at j
      ·rename_i p
       exact⟨by rw[Pv];exact(Ec p).1,(S.dom b r j).2⟩
      grind
     ·split at j
      ·rename_i p
       obtain⟨g,e,l,d⟩:=Ec p;have M:=S.blk b r j;rw[hg b p] at M;have Y:(AX P F laid).get b=.cells l e 0 true:=by rw[DJ g,d]
       rw[Y] at M ⊢;have hp:=PO d
       revert M
       cases w.heap[r.blk]? with
       |none=>exact fun h=>h
       |some o =>
        cases o with
        |cells cs e' fr =>
         rintro⟨a1,a2,a3,a4,a5⟩;refine⟨a1,a2,a3,fun i V=>?_,a5⟩;obtain⟨v',b1,b2⟩:=a4 i V;have A:plain (l.getD i undef)=true:=by
          rw[bB,ai V];have:=aE.1 hp _ (cR V);generalize l[i]=x at this;cases x<;>first|exact this|cases this
         rw[b2.BL A] at b1;exact⟨_,b1,Az.plain A⟩
        |map es clock=>exact fun h=>h
        |_=>exact fun h=>h
      grind
     ·split at j
      ·rename_i p
       split at K
       ·rename_i U
        obtain⟨g,e,l,d⟩:=Ec p;obtain⟨C,e',l',G⟩:=Ec U;right
        exact⟨by simp only[Mem.ro,DJ g,d,G8.ro],by simp only[Mem.ro,DJ C,G,G8.ro]⟩
       ·cases K
      ·cases j
     ·obtain⟨r,M,Y,h3,h4,h5⟩:=S.glob k O
      obtain⟨g,e,l,d⟩:=Ec O;refine⟨r,by rw[if_pos O];exact M,Y,⟨h3.1,by rw[← hg k O];exact h3.2⟩,?_,?_⟩
      ·simp only[Mem.gen,DJ g,d,G8.gen]
      ·simp only[Mem.ro,DJ g,d,G8.ro]
    have has:as'=#[]:=by
     have:=z.1;exact gc this.symm
    subst has;refine(y.1 [] _ _ _ h0 _ w #[] Z BF.nil).mono ?_;rintro e w' ⟨v',he,ι',s,hs',hv⟩;refine⟨v',he,ι,?_,?_,?_⟩
    ·refine⟨ab _,ab _,fun _ _ _=>rfl,fun _ _ _=>rfl,fun _ _=>rfl,Le.refl _ _,fun b q j=>.inl ⟨q,j,rfl⟩,fun b q j=>.inl ⟨q,j⟩,s.heap,fun c J _=>?_,s.tape,s.os,s.output⟩
     refine s.frame c J fun b r j _=>.inl ?_
     split at j
     ·rename_i p
      obtain⟨g,e,l,d⟩:=Ec p;simp only[Mem.ro,DJ g,d,G8.ro]
     ·cases j
    ·refine S.world s.heap fun c J=>s.frame c J fun b r j _=>.inl ?_
     split at j
     ·rename_i p
      obtain⟨g,e,l,d⟩:=Ec p;simp only[Mem.ro,DJ g,d,G8.ro]
     ·cases j
    ·rw[hv.BL (v:=.bool true) rfl]
     exact Az.plain (v:=.bool true) rfl
   grind
  ·split at u
   ·cases u;exact AQ.refl _
   ·cases u
 grind
def gam(P:Program)(F:Nat)(laid:List (String×DataW Unit)):Nat→Option (List Value×TypeId):=fun k=>if k<P.globals.size then(IC P F laid k).map fun x=>(x.2,x.1) else none
noncomputable def a0h(P:Program)(F:Nat)(laid:List (String×DataW Unit))(fs:List FuncId):Env :=
 ⟨P,Wx (Au P F laid) (AX P F laid) fs,Au P F laid,gam P F laid⟩
theorem Gs.array(h:Gs P (f+1) t d)(g:P.underlying t=some (.array n e)):∃L:List (List FV),d=L.flatten∧L.length=n∧∀x∈L,Gs P f e x:=by
 unfold Gs at h;grind
def b5y(P:Program)(F:Nat):List TypeId→List (List FV)→Prop:=Io (fun t fs=>Gs P F t fs)
def dA(P:Program)(t:TypeId)(fs:List FV):Option FV :=
 match P.underlying t,fs with
 |some (.struct _),fs=>some (.agg fs)
 |some (.array _ _),fs=>some (.agg fs)
 |some .bool,[v]|some (.int _),[v]|some .string,[v]|some (.slice _),[v]=>some v
 |_,_=>none
theorem a9p(h:Du m F j l)(o:l.all BQ=true)(d:Gs P n t j):∃x v,dA P t j=some x∧yC P t l=some v∧RF m F x v:=by
 cases n with
 |zero=>exact d.elim
 |succ n =>
  unfold Gs at d;unfold dA yC;cases hu:P.underlying t with
  |none=>grind
  |some u =>
   rw[hu] at d;cases u with
   |bool=>obtain⟨b,rfl⟩:=d;cases h with|cons g f=>cases f;grind
   |int k=>obtain⟨b,rfl,_⟩:=d;cases h with|cons g f=>cases f;grind
   |string=>obtain⟨b,rfl,_⟩:=d;cases h with|cons g f=>cases f;grind
   |slice e=>obtain⟨b,rfl,_⟩:=d;cases h with|cons g f=>cases f;grind
   |struct p=>exact⟨_,_,rfl,rfl,.agg h o⟩
   |array k e=>exact⟨_,_,rfl,rfl,.agg h o⟩
   |_=>exact d.elim
theorem nI:∀(f:Nat) (t:TypeId),XQ P f t=true→XQ P (f+1) t=true
 |0,_,h=>by cases h
 |f+1,t,h=>by
  have d:=nI f;unfold XQ at h ⊢;grind
theorem a6k(d:f≤g)(h:XQ P f t=true):XQ P g t=true:=by
 induction d with
 |refl=>exact h
 |step _ e=>exact nI _ _ e
section
variable {H:Type}{enc:TypeId×Value→H}{W:World}{held:Bool}
def b9s(enc:TypeId×Value→H)(P:Program)(W:World)(held:Bool)(n:Nat):List TypeId→List Value→List (DataW H)→Prop
 |[],[],[]=>True
 |t::ts,v::vs,d::ds=>(∃p,DataW.trod enc P W 0 (fun _=>true) held n t v.cells.toList=some (d,p))∧b9s enc P W held n ts vs ds
 |_,_,_=>False
theorem b9c:∀(e:List TypeId) (vs:List Value) (ds:List (DataW H)) (ps:List MemPlace),DataW.TrodAll enc P W 0 (fun _=>true) held e vs ds ps→∃N,∀n,N≤n→b9s enc P W held n e vs ds
 |[],[],[],_,_=>⟨0,fun _ _=>trivial⟩
 |t::e,v::vs,d::ds,ps,⟨p,q,⟨f,h1⟩,h2,_⟩=>by
  obtain⟨N,g⟩:=b9c e vs ds q h2;exact⟨max f N,fun n j=>⟨⟨p,DataW.trod_le (by omega) h1⟩,g n (by omega)⟩⟩
 |[],[],_::_,_,h=>h.elim
 |[],_::_,_,_,h=>h.elim
 |_::_,[],_,_,h=>h.elim
 |_::_,_::_,[],_,h=>h.elim
theorem YE:∀(f:List TypeId) (vs:List Value) (ds:List (DataW H)),(∀t∈f,XQ P n t=true)→b9s enc P W held n f vs ds→∀m,∃Bo m' e xs,Xm P n f ds m=some (Bo,m') ∧
 b5y P n f e∧Io (fun(tf:TypeId×List FV) x=>dA P tf.1 tf.2=some x) (f.zip e) xs∧Du m' (fun c=>c<m'.size) xs Bo∧m.size≤m'.size∧∀c,c<m.size→m'.get c=m.get c
 |[],[],[],_,_,m=>⟨[],m,[],[],rfl,.nil,.nil,.nil,ab _,fun _ _=>rfl⟩
 |t::f,v::vs,d::ds,hok,⟨⟨p,h1⟩,h2⟩,m=>by
  obtain⟨l,m1,J,K,q,g⟩:=a5x n t _ d p (hok t (by simp)) h1 m;obtain⟨x,u,C,B,A⟩:=a9p g.rel g.cell q;obtain⟨Bo,m2,e,xs,z,y,s,r,o,j⟩:=YE f vs ds (fun t M=>hok t (by grind)) h2 m1;refine⟨u::Bo,m2,J::e,x::xs,by simp only[Xm,K,B,z],.cons q y,.cons C s,.cons (A.mono (a6v o j)) r,an g.size o,fun c G=>(j c (by have:=g.size;omega)).trans (g.get c G)⟩
 |[],[],_::_,_,h,_=>h.elim
 |[],_::_,_,_,h,_=>h.elim
 |_::_,[],_,_,h,_=>h.elim
 |_::_,_::_,[],_,h,_=>h.elim
theorem law{b0 F:Nat}
 (hL:laidMet P laid W) (V:DataW.TrodAll enc P W 0 (fun _=>true) held o args.toList ds ps) (hv:∀(j:Nat) t v,o[j]?=some t→args.toList[j]?=some v→Value.okWide P W r b0 t v)
 (kH:P.follows .mixedOrders=true) (A:o.all (XQ P F)=true)
 (hO:EI P (Au P F laid) (Wx (Au P F laid) (AX P F laid) M))
 (hp:∀j d xs,b5y P (j+F) o d→Io (fun(tf:TypeId×List FV) x=>dA P tf.1 tf.2=some x) (o.zip d) xs→Ak (a0h P F laid M) f xs (.p (.bool true))) :
 Calls P f args W fun e Y=>e=.returned (.bool true)∧Go.RowKit.Below W.heap.size W Y:=by
 obtain⟨N,hN⟩:=b9c o _ ds ps V;obtain⟨j,hj⟩:∃j,max N F=j+F:=⟨max N F-F,by omega⟩
 obtain⟨O,m1,d,xs,q1,S,q3,q4,q5,Z⟩:=YE o _ ds (fun t ht=>a6k (by omega) (aE.1 A t ht)) (hN (max N F) (by omega)) (AX P F laid);rw[hj] at S;have Uk:Ctx (a0h P F laid M).Γ m1 (fun c=>c<m1.size) (fun _=>undef) [] 0:=by
  refine⟨fun _ h=>h,fun b x s=>(by cases s),fun b b' x x' c s=>(by cases s),fun g vs e u=>?_⟩;simp only[a0h,gam] at u;split at u
  ·rename_i G
   simp only[Option.map_eq_some_iff,Prod.mk.injEq] at u;obtain⟨⟨e',l⟩,X,rfl,rfl⟩:=u;have q:g<(AX P F laid).size:=by rw[Pv];omega
   exact⟨by omega,by rw[Z g q,DJ G,X],PO X⟩
  grind
 obtain⟨v,m',⟨K,hK⟩,r0,H',nx',F',σ',⟨rfl,_,_⟩,_,B,_⟩:=hp j d xs S q3 m1 _ _ O Uk (ma q4);have z:v=.bool true:=by cases B with|p h=>cases h;rfl
 subst z;obtain⟨ι,hs,C⟩:=oC (F:=F) hL;obtain⟨y,U,o2,o3,o4⟩:=Ye o _ ds ps V hv ι _ m1 O hs C q1;refine((Ib hO kH K f).1 O m1 _ m' (hK K K (ab _) (ab _)) y W args U o4).mono fun e Y ⟨v',he,ι2,hx,hs2,QS⟩=>?_
 have:=QS.BL (v:=.bool true) rfl;subst this;exact⟨he,⟨hx.os,hx.tape,hx.output,hx.heap,fun c J=>hx.frame c J fun b ib s _=>.inl (o3 b (U.dom b ib s).1)⟩⟩
end
end
section
open Go.Am
variable {E:Env}{L:Frame}{H:Heap}{nx:Nat}{Q:PV→Heap→Nat→Prop}{w:Bool}
variable {dst:Option Tmp}{ty:TypeId}{pos:String}{af:Array Edge}{gd:Option (Nat×Bool)}
def evF(Γ:Nat→Option (List Value×TypeId))(L:Frame):List Operand→Option (List FV)
 |[]=>some []
 |o::l=>match AY Γ L o with
  |some (.p x)=>match evF Γ L l with
   |some r=>some (x::r)
   |none=>none
  |_=>none
theorem aG:∀{os:List Operand} {xs:List FV},evF Γ L os=some xs→evs Γ L os=some (xs.map .p)
 |[],_,h=>by cases h;rfl
 |o::os,xs,h=>by
  simp only[evF] at h;split at h
  ·rename_i x d
   split at h
   ·rename_i r e
    cases h;simp only[evs,d,aG e,List.map_cons]
   grind
  grind
theorem Aa.fn(f:AY E.Γ L d=some (.clo g [] []))(j:evF E.Γ L args.toList=some xs)
 (h:Ak E g xs r) (e:∀ρ,r.rn ρ=r) (q:Q r H nx):Aa E w ⟨dst,.call { callee:=.value d,args:=args,argTypes:=o },ty,pos,af,gd⟩ L H nx Q :=
 rj f (aG j) (.refl _) h e q
theorem a6{args:Array Operand}{o:Array TypeId}(h:Ak E g xs r)(q:Q r H nx)(f:AY E.Γ L d=some (.clo g [] []):=by rfl)(j:evF E.Γ L args.toList=some xs:=by rfl)(e:∀ρ,r.rn ρ=r:=by(intro _;rfl)):Aa E w ⟨dst,.call { callee:=.value d,args:=args,argTypes:=o },ty,pos,af,gd⟩ L H nx Q:=Aa.fn f j h e q
theorem jz(f:AY E.Γ L d=some (.clo g [] []))(j:evF E.Γ L args.toList=some xs)
 (h:Bf E g xs e cs n z) (q:Q (.vec nx n 0 n) ((nx,.vec e cs n z)::H) (nx+1)):Aa E w ⟨dst,.call { callee:=.value d,args:=args,argTypes:=o },ty,pos,af,gd⟩ L H nx Q :=
 ri f (aG j) (.refl _) h q
theorem Ak.enter(g:E.O f=none)(j:E.P.funcs[f]?=some fn)(o:fn.body=some c)(d:IV E.G fn c=true)(q:xs.length≤fn.ntmps)
 (h:Ad E 0 c (CS 0 (xs.map .p)) [] 0 (Done E.P fn.results.toList 0 fun e H' nx'=>e=r∧H'=[]∧nx'=0)):Ak E f xs r:=AL.enter g j o d (by grind) h
def Bv(P:Program)(rs:List ResultVar)(e:TypeId)(cs:List FV)(n:Nat)(z:Bool)(x:BP)(L:Frame)(H:Heap)(_:Nat):Prop :=
 match x with
 | .exit _=>False
 | .normal=>∃b,EJ P rs L H=some (.vec b n 0 n)∧hget H b=some (.vec e cs n z)
 | .ret=>∃b,EJ P rs L H=some (.vec b n 0 n)∧hget H b=some (.vec e cs n z)
theorem Bv.ret(h:EJ P rs L H=some (.vec b n' 0 n'))(g:hget H b=some (.vec e cs' n' z))(f:n'=n)(d:cs'=cs):Bv P rs e cs n z .ret L H nx:=by
 subst f;subst d;exact⟨b,h,g⟩
theorem Bf.enter(M:E.O f=none)(hf:E.P.funcs[f]?=some fn)(d:fn.body=some c)(K:IV E.G fn c=true)(hn:xs.length≤fn.ntmps)
 (h:Ad E 0 c (CS 0 (xs.map .p)) [] 0 (Bv E.P fn.results.toList e cs n z)):Bf E f xs e cs n z:=by
 intro m F σ Bo h1 X;refine Gq.enter M hf d K (by rw[← X.length];grind) ((h ⟨m,F,σ,[],0⟩ rfl m F σ _ h1 ?_ (Step.refl _ _ _ _ _)).mono ?_)
 ·intro i v hi
  obtain⟨_,U⟩:=Jz _ 0 i v hi;obtain⟨u,V,h5⟩:=X.get U;have:=Hq Bo 0 .leaf i;grind
 ·rintro x s ⟨L',H',nx',B,σ',q,C,c2,j⟩
  have y:(∃b,EJ E.P fn.results.toList L' H'=some (.vec b n 0 n)∧hget H' b=some (.vec e cs n z))→∃v,FM E.P fn s=some v∧∃r H' nx' B σ',(r=.vec 0 n 0 n∧H'=[(0,.vec e cs n z)]∧nx'=1)∧Ctx E.Γ s.m B σ' H' nx'∧RP s.m B (htag H') σ' nx' r v∧Step m F σ [] 0 s.m B σ' H' nx':=by
   rintro⟨b,hr,d⟩;obtain⟨v,U,V⟩:=LZ C c2 hr;obtain⟨_,J⟩:=C.hp b _ d;have A:∀o x,hget [(0,HB.vec e cs n z)] o=some x→o=0∧x=.vec e cs n z:=fun o x g=>by
    rw[BA] at g;split at g
    ·grind
    ·cases g
   refine⟨v,U,_,_,_,B,fun _=>σ' b,⟨rfl,rfl,rfl⟩,⟨C.fr,fun o x g=>?_,fun b1 b2 x1 x2 c Z Y _ _=>?_,C.gl⟩,?_,⟨j.size,j.keep,j.LK,j.LD,fun c S M=>?_,ao _,fun b d=>absurd d (bc _),j.low⟩⟩
   ·obtain⟨rfl,rfl⟩:=A o x g
    exact⟨by omega,J⟩
   ·grind
   ·cases V with
    |vec hb' S h =>
     refine .vec (by omega) S fun k hk=>?_
     cases hk;exact⟨ab _,fun _=>(h n (by simp[htag,d,HB.tag])).2 rfl⟩
   ·obtain⟨o,x,g,N⟩:=M
    exact j.J3 c S ⟨b,_,d,N⟩
  cases x with
  |exit i=>exact q.elim
  |normal=>exact y q
  |ret=>exact y q
theorem nQ:∀{l l':List FV},IK l l'→OE (l.map .p) (l'.map .p)
 |_,_,.refl _=>.refl _
 |_,_,.cons h t=>.cons (.p h) (nQ t)
theorem Ak.le(h:IK xs ys)(d:Ak E g ys r):Ak E g xs r:=fun m F σ j f e=>d m F σ j f (Dw.le (nQ h) e)
theorem nv{α:Type}{_:Enc α}{l:List α}{a:α}{s x:Operand}{y u e e2:TypeId}{r:TypeDesc}{i:TypeInfo}{b b2 n:Nat}{xs:List FV}{z B:Bool}(G:AY E.Γ L s=some (.vec b n 0 n))(O:hget H b=some (.vec e (cells l) n z))
 (C:AY E.Γ L x=some (.vec b2 1 0 1)) (p:hget H b2=some (.vec e2 xs 1 B)) (f:xs=Enc.enc a) (J:l.length=n) (o:E.P.underlying y=some (.slice e)) (j:E.P.underlying u=some r) (M:∀k,r≠.int k) (K:E.P.info? e=some i)
 (g:Enc.size α=i.size) (h:EO i=true) (S:0<i.size) (N:i.bytes<1000000) (A:l.length<1000000) (q:Q (.vec b (l.length+1) 0 (l.length+1)) (hput H b (.vec e (cells (l++[a])) (l.length+1) z)) nx) :
 Aa E true ⟨dst,.call { callee:=.builtin .append,args:=#[s,x],argTypes:=#[y,u] },ty,pos,af,gd⟩ L H nx Q:=by
 subst J;have d:(l.length+1)*(i.bytes+1)≤room:=an (di (by omega:l.length+1≤1000000) (by omega:i.bytes+1≤1000000)) (by decide);refine Aa.append (i:=i) G O (uG.all C p (by rw[f,Enc.len,← g];omega)) o j M K h (by omega) d (by rw[BD,g]) S ?_;have:cells (l++[a])=cells l++xs:=by rw[ET,f];simp[cells,encs]
 grind
theorem d7{α:Type}{_:Enc α}{l:List α}{a:α}{s x:Operand}{y u e e2:TypeId}{r:TypeDesc}{i:TypeInfo}{b b2 n:Nat}{xs:List FV}{z B:Bool}(q:Q (.vec b (l.length+1) 0 (l.length+1)) (hput H b (.vec e (cells (l++[a])) (l.length+1) z)) nx)(G:AY E.Γ L s=some (.vec b n 0 n):=by rfl)(O:hget H b=some (.vec e (cells l) n z):=by rfl)(C:AY E.Γ L x=some (.vec b2 1 0 1):=by rfl)(p:hget H b2=some (.vec e2 xs 1 B):=by rfl)(f:xs=Enc.enc a:=by rfl)(J:l.length=n:=by rfl)(o:E.P.underlying y=some (.slice e):=by rfl)(j:E.P.underlying u=some r:=by rfl)(M:∀k,r≠.int k:=by(intro _ h;cases h))(K:E.P.info? e=some i:=by rfl)(g:Enc.size α=i.size:=by rfl)(h:EO i=true:=by rfl)(S:0<i.size:=by decide)(N:i.bytes<1000000:=by decide)(A:l.length<1000000:=by(first|omega|(simp only[List.length_take,List.length_drop,List.length_append,List.length_singleton,List.length_cons,List.length_nil]<;>omega))):Aa E true ⟨dst,.call { callee:=.builtin .append,args:=#[s,x],argTypes:=#[y,u] },ty,pos,af,gd⟩ L H nx Q:=nv G O C p f J o j M K g h S N A q
theorem Aa.not(d:AY E.Γ L x=some (.p (.bool b)))(q:Q (.p (.bool (!b))) H nx):Aa E w ⟨dst,.unOp .not t x,ty,pos,af,gd⟩ L H nx Q :=
 Aa.quiet q fun m F σ h g f=>by
  refine⟨.bool (!b),fun _=>?_,.p (.bool _)⟩;have e:=IU g f d;simp only[BX,F5,e];cases b<;>rfl
theorem hZ(h:a=b):(PV.p (.int k a))=.p (.int k b) :=by grind
theorem kx(h:a=b):(PV.p (.bool a))=.p (.bool b) :=by grind
end
section
open Go.Am
variable {E:Env}{L:Frame}{H:Heap}{nx:Nat}{Q:PV→Heap→Nat→Prop}{w:Bool}
variable {dst:Option Tmp}{ty:TypeId}{pos:String}{af:Array Edge}{gd:Option (Nat×Bool)}
section
variable {bn:Nat}{ops:Array Oper}{op:Op}{l:List Oper}{i:Nat}{R:Frame→Heap→Nat→Prop}
theorem Ai.quiet(h:Aa E false ⟨dst,op,ty,pos,af,none⟩ L H nx fun r H' nx'=>Ai E bn ops (i+1) l (IJ L dst r) H' nx' R):Ai E bn ops i (⟨dst,op,ty,pos,af,none⟩::l) L H nx R:=by
 intro B g m F σ t e d j;refine JG.cons (JA.wanted (L:=L) e d rfl) ((h (m.at m.size) F σ t (e.at _) (RL.at (Γ:=E.Γ) _ d)).mono ?_);rintro v y ⟨r,H',nx',u,σ',q,s,p,f,o⟩;refine⟨.inr (.inl (o rfl m.size (ab _) (ab _))),?_⟩;exact q B g _ u σ' _ (s.at _) (RL.at (Γ:=E.Γ) _ (((RL.at (Γ:=E.Γ) _ d).step f (e.at _)).put p)) (j.trans f.at)
theorem ox{j d:Nat}(s:(ops[j]?).bind (·.dst)=some d)(u:Gf L d=some (.p (.bool e)))(h:Aa E false ⟨dst,op,ty,pos,af,some (j,e)⟩ L H nx fun r H' nx'=>Ai E bn ops (i+1) l (IJ L dst r) H' nx' R) :
 Ai E bn ops i (⟨dst,op,ty,pos,af,some (j,e)⟩::l) L H nx R:=by
 intro B y m F σ t g f z;refine JG.cons (JA.wanted (L:=L) (w:=true) g f ⟨e,d,s,u,by cases e<;>rfl⟩) ((h (m.at m.size) F σ t (g.at _) (RL.at (Γ:=E.Γ) _ f)).mono ?_);rintro v K ⟨r,H',nx',J,σ',q,G,C,o,A⟩;refine⟨.inr (.inl (A rfl m.size (ab _) (ab _))),?_⟩;exact q B y _ J σ' _ (G.at _) (RL.at (Γ:=E.Γ) _ (((RL.at (Γ:=E.Γ) _ f).step o (g.at _)).put C)) (z.trans o.at)
theorem Ai.bar(d:barrier E.P ops i=true)(h:Aa E true ⟨dst,op,ty,pos,af,none⟩ L H nx fun r H' nx'=>Ai E bn ops (i+1) l (IJ L dst r) H' nx' R):Ai E bn ops i (⟨dst,op,ty,pos,af,none⟩::l) L H nx R:=Ai.cons rfl d h
end
theorem Ap.le(d:Nat)(j:Gf L d=some v)(g:PLe v v0):Ap E L H nx ((d,v0)::L) H nx:=fun B m F σ t p h o=>by
 refine⟨F,σ,p,fun i x f=>?_,o⟩;rw[Ew] at f;by_cases e:d=i
 ·rw[if_pos e] at f;cases f;subst e;exact RP.le g (h d v j)
 ·rw[if_neg e] at f;exact h i x f
theorem Ctx.move(h:Ctx Γ m F σ H nx)(K:hget H b0=some x0)
 (u:m.size≤m'.size) (f:∀c,c<m.size→Dv (σ b0)≠some c→m'.get c=m.get c) (U:∀k,k≤m.low→k≤m.size→(∀c,Dv (σ b0)=some c→k≤c)→k≤m'.low)
 (r:∀c,Dv s'=some c→Dv (σ b0)=some c∨m.size≤c) (hr:RB m' F (htag ((nx,x')::hdel H b0)) (upd σ nx s') (nx+1) s' x') :
 Ctx Γ m' F (upd σ nx s') ((nx,x')::hdel H b0) (nx+1)∧Step m F σ H nx m' F (upd σ nx s') ((nx,x')::hdel H b0) (nx+1):=by
 have q:∀c,Dv (σ b0)=some c→own H σ c:=fun c o=>⟨b0,x0,K,o⟩
 have S:∀c,F c→F c∧m'.get c=m.get c:=fun c o=>⟨o,f c (h.fr c o) fun e=>(h.Nr (q c e)).1 o⟩
 have V:Names nx (htag H) σ (htag ((nx,x')::hdel H b0)) (upd σ nx s'):=fun b hbn=>by
  rw[J8,if_neg (by omega),YD,Df _ _ (by omega)];split
  ·exact⟨trivial,fun _ _ _=>rfl⟩
  ·exact⟨XW.refl _,fun _ _ _=>rfl⟩
 have O:hget ((nx,x')::hdel H b0) nx=some x':=by rw[BA,if_pos rfl]
 have j:∀b y,hget ((nx,x')::hdel H b0) b=some y→b≠nx→b≠b0∧hget H b=some y:=fun b y d e=>by
  rw[BA,if_neg (Ne.symm e),Jg] at d;grind
 refine⟨⟨fun c o=>ag (h.fr c o) u,?_,?_,?_⟩,⟨u,fun c o Y=>f c o fun e=>Y (q c e),fun _ h=>h,fun _ _ h=>.inl h,?_,cT _,V,?_⟩⟩
 ·intro b y d
  by_cases e:b=nx
  ·subst e
   rw[O] at d;cases d;rw[upd_same];grind
  ·obtain⟨p,d⟩:=j b y d e
   obtain⟨M,J⟩:=h.hp b y d;rw[Df _ _ e];refine⟨by omega,J.mono S V (cT _) u fun c o=>?_⟩;have:=h.Nr ⟨b,y,d,o⟩;exact⟨f c this.2 fun B=>p (h.sep b b0 y x0 c d K o B),this.1⟩
 ·intro b C y G c M J s A
  by_cases e:b=nx<;>by_cases B:C=nx
  ·omega
  ·subst e
   obtain⟨p,d⟩:=j C G J B;rw[upd_same] at s;rw[Df _ _ B] at A;rcases r c s with h5|h5
   ·exact absurd (h.sep b0 C x0 G c K d h5 A).symm p
   ·have:=(h.Nr ⟨C,G,d,A⟩).2;omega
  ·subst B
   obtain⟨p,d⟩:=j b y M e;rw[upd_same] at A;rw[Df _ _ e] at s;rcases r c A with h5|h5
   ·exact absurd (h.sep b b0 y x0 c d K s h5) p
   ·have:=(h.Nr ⟨b,y,d,s⟩).2;omega
  ·obtain⟨_,d⟩:=j b y M e
   obtain⟨_,N⟩:=j C G J B;rw[Df _ _ e] at s;rw[Df _ _ B] at A;exact h.sep b C y G c d N s A
 ·intro g X e Z
  obtain⟨M,J,s⟩:=h.gl g X e Z;grind
 ·rintro c o ⟨b,y,d,z⟩
  by_cases e:b=nx
  ·subst e
   rw[upd_same] at z;grind
  ·obtain⟨_,d⟩:=j b y d e
   rw[Df _ _ e] at z;exact⟨b,y,d,z⟩
 grind
theorem appendMove'(hs:AY E.Γ L s=some (.vec b n 0 n))(hb:hget H b=some (.vec e cs n z))(hx:uG E.Γ L H nx x i.size xs k)
 (hsT:E.P.underlying sT=some (.slice e)) (hxT:E.P.underlying xT=some xd) (B:∀k,xd≠.int k) (hi:E.P.info? e=some i) (hzs:EO i=true) (U:(n+k)*(i.bytes+1)≤room) (hl:cs.length=n*i.size) (hsz:0<i.size)
 (q:Q (.vec nx (n+k) 0 (n+k)) ((nx,.vec e (cs++xs) (n+k) z)::hdel H b) (nx+1)):Aa E true ⟨dst,.call { callee:=.builtin .append,args:=#[s,x],argTypes:=#[sT,xT] },ty,pos,af,gd⟩ L H nx Q:=by
 intro m F σ t M h2;have f:=IY M h2 hs hb;obtain⟨hx1,l,hx2,J,S⟩:=hx m F σ t M h2;obtain⟨hlt,hr⟩:=M.hp b _ hb;have V:lenOf (ev t s)=some n:=by
  rcases hr with⟨C,Z,u⟩|⟨c,g,X,C,_⟩
  ·rcases u with⟨u,_⟩|⟨b',o',g',u,_⟩<;>rw[u] at f<;>simp only[Gi,Dn] at f<;>rw[f.1,Z]<;>rfl
  ·rw[C] at f;simp only[Gi] at f;rw[f];rfl
 have happ:∀v m',BR m e i.size l k (ev t s)=some (v,m')→Jq E.P #[sT,xT] #[ev t s,ev t x] m=some (v,m'):=by
  intro v m' K;simp only[Jq,List.getElem?_toArray,List.getElem?_cons_zero,List.getElem?_cons_succ,hsT,hxT,V,hi,hzs,Bool.not_true,Bool.false_eq_true,if_false];cases xd<;>first|exact absurd rfl (B _)|(simp only[hx1,hx2,S,Bool.and_true,decide_eq_true_eq];rw[if_pos U];exact K)
 have A:∀v m' Y,BR m e i.size l k (ev t s)=some (v,m')→Y=v→(Ctx E.Γ m' F (upd σ nx Y) ((nx,.vec e (cs++xs) (n+k) z)::hdel H b) (nx+1)∧Step m F σ H nx m' F (upd σ nx Y) ((nx,.vec e (cs++xs) (n+k) z)::hdel H b) (nx+1)) →
  (BQ v=true∧Gi v 0 (n+k) v)→GX E.P E.O E.G ⟨dst,.call { callee:=.builtin .append,args:=#[s,x],argTypes:=#[sT,xT] },ty,pos,af,gd⟩ ⟨t,m⟩ fun v m'=>∃r H' nx' F' σ',Q r H' nx'∧Ctx E.Γ m' F' σ' H' nx'∧RP m' F' (htag H') σ' nx' r v∧Step m F σ H nx m' F' σ' H' nx'∧(true=false→Quiet m m'):=by
  rintro v m' Y K rfl ⟨c1,c2⟩ ⟨hv1,hv2⟩;refine GX.op (v:=Y) (m':=m') (fun _=>?_) ⟨_,_,_,F,_,q,c1,?_,c2,fun h=>by cases h⟩
  ·have:=happ _ _ K
   simp only[BX,F5];grind
  ·refine .vec (bN _) hv1 fun j hj=>?_
   rw[J8,if_pos rfl] at hj;simp only[HB.tag,Option.some.injEq,Tg.vec.injEq] at hj;refine⟨by omega,fun _=>?_⟩;rw[upd_same];omega
 rcases hr with⟨C,Z,u⟩|⟨c,g,X,C,Z,u,r4,r5,r6,r7⟩
 ·have p:Dv (σ b)=none∧(ev t s=.slice none 0 0∧z=true∨(∃b o g,ev t s=.slice (some ⟨b,o,some g⟩) 0 0)∧z=false):=by
   rcases u with⟨u,N⟩|⟨b',o',g',u,N⟩
   ·rw[u] at f ⊢;exact⟨rfl,.inl ⟨f.1,N⟩⟩
   ·rw[u] at f ⊢;simp only[Gi] at f;exact⟨rfl,.inr ⟨⟨_,_,_,f.1⟩,N⟩⟩
  subst C;subst Z;rcases bq k with h0|h0
  ·subst h0
   have hxs:xs=[]:=by
    have hl0:l.length=0:=by rw[Eb hx2];omega
    rw[br hl0] at J;cases J;rfl
   subst hxs;have K:BR m e i.size l 0 (ev t s)=some (ev t s,m):=by
    rcases p.2 with⟨p,_⟩|⟨⟨_,_,_,p⟩,_⟩<;>rw[p]<;>simp[BR]
   refine A _ _ _ K rfl ?_ (by rcases p.2 with⟨p,_⟩|⟨⟨_,_,_,p⟩,_⟩<;>rw[p]<;>refine⟨rfl,?_⟩<;>simp[Gi]);refine M.move hb (ab _) (fun _ _ _=>rfl) (fun _ h _ _=>h) (fun c hc=>by rcases p.2 with⟨p,_⟩|⟨⟨_,_,_,p⟩,_⟩<;>rw[p] at hc<;>simp[Dv] at hc) ?_;refine .inl ⟨rfl,rfl,?_⟩;rcases p.2 with⟨p,N⟩|⟨⟨b',o',g',p⟩,N⟩
   ·exact .inl ⟨p,N⟩
   ·exact .inr ⟨b',o',g',p,N⟩
  ·have K:BR m e i.size l k (ev t s)=some (AU m e l k):=by
    rcases p.2 with⟨p,_⟩|⟨⟨_,_,_,p⟩,_⟩<;>rw[p]<;>simp only[BR]<;>rw[if_neg (by omega)]
   refine A _ _ _ K rfl ?_ ⟨rfl,by rw[cG];rfl⟩;refine M.move (x0:=.vec e [] 0 z) (x':=.vec e ([]++xs) (0+k) z) hb (by simp[AU,Mem.alloc]) (fun c hc _=>by(try simp only[AU]);rw[dZ,if_neg (by omega)])
    (fun k' k1 k2 _=>by simp only[AU,Mem.alloc];omega) (fun c hc=>by simp only[AU,Dv,Option.some.injEq] at hc;right;omega) ?_
   refine .inr ⟨m.size,0,l,by simp[AU],by simp[AU,Mem.alloc],fun hf=>cH _ (M.fr _ hf),by(try simp only[AU]);rw[dZ,if_pos rfl],?_,S,fun h=>by omega⟩;rw[eI];exact J.mono (fun c hf=>⟨hf,by(try simp only[AU]);rw[dZ,if_neg (by have:=M.fr c hf;omega)]⟩)
 ·rw[C] at f
  simp only[Gi] at f;have hlen:=r5.length;have hold:takeN (n*i.size) (X.drop 0)=some X:=by
   rw[cJ,← hl,hlen];simp[takeN]
  have K:BR m e i.size l k (ev t s)=some (.slice (some ⟨c,0,none⟩) (n+k) (g+1),m.put c (.cells (X++l) e (g+1) false)):=by
   rw[f];simp only[BR,r4,beq_self_eq_true,decide_eq_true hsz,Bool.and_self,if_true,hold];simp
  have y:∀d,c≠d→(m.put c (.cells (X++l) e (g+1) false)).get d=m.get d:=fun d B=>by rw[cg,if_neg B]
  refine A _ _ _ K rfl ?_ ⟨rfl,rfl⟩;refine M.move (x':=.vec e (cs++xs) (n+k) z) hb (ab _) (fun d _ B=>y d fun e=>B (by rw[C,e];rfl)) (fun k' k1 k2 k3=>by
   have:=k3 c (by rw[C];rfl);simp only[Mem.put];omega) (fun d B=>.inl (by rw[C];exact B)) ?_
  refine .inr ⟨c,g+1,X++l,rfl,Z,u,by rw[cg,if_pos rfl],?_,by rw[eJ,r6,S];rfl,fun h=>r7 (by omega)⟩;exact(r5.append J).mono (fun d B=>⟨B,y d fun e=>u (e▸B)⟩)
theorem jv(h:takeN n l=some ws):takeN (min k n) l=some (ws.take k):=by
 obtain⟨rfl,d⟩:=F9 h;unfold takeN;grind
theorem Du.take:∀{cs:List FV} {vs:List Value} (k:Nat),Du m F cs vs→Du m F (cs.take k) (vs.take k)
 |_,_,0,_=>by exact .nil
 |_,_,_+1,.nil=>.nil
 |_,_,k+1,.cons h t=>.cons h (Du.take k t)
theorem pf(hx:AY E.Γ L x=some (.p (.lst e cs n)))(G:E.P.underlying t=some (.slice e))(d:E.P.info? e=some r)(J:r.size=sz)
 (s:match B with|none=>a=0|some o=>∃k,AY E.Γ L o=some (.p (.int k (a:Int)))) (y:match u with|none=>b=n|some o=>∃k,AY E.Γ L o=some (.p (.int k (b:Int)))) (O:a≤b) (N:b≤n) (hl:cs.length=n*sz)
 (q:Q (.p (.lst e ((cs.drop (a*sz)).take ((b-a)*sz)) (b-a))) H nx):Aa E w ⟨dst,.slice t x B u none,ty,pos,af,gd⟩ L H nx Q :=
 Aa.quiet q fun m F σ A C S=>by
  have j:bnd 0 (B.map (ev A))=some a:=by
   cases B with
   |none=>rw[s];rfl
   |some o =>
    obtain⟨k,M⟩:=s;simp only[Option.map_some,CV C S M,bnd];rfl
  have U:bnd n (u.map (ev A))=some b:=by
   cases u with
   |none=>rw[y];rfl
   |some o =>
    obtain⟨k,M⟩:=y;simp only[Option.map_some,CV C S M,bnd];rfl
  have z:n=0→bnd 0 (u.map (ev A))=some 0:=fun h0=>by grind
  have:=Bz C S hx;generalize hv:ev A x=v at this;cases this with
  |p K =>
   cases K with
   |nil =>
    have f:b=0:=by omega
    have h:a=0:=by omega
    subst f;subst h;refine⟨.slice none 0 0,fun _=>?_,.p (by simpa using RF.nil e)⟩;simp only[BX,F5,hv,aslice,Option.isSome_none,Option.map_none,Bool.false_and,Bool.false_eq_true,if_false,G,d,j,z rfl];rfl
   |room e' V Z g' =>
    have f:b=0:=by omega
    have h:a=0:=by omega
    subst f;subst h;refine⟨_,fun _=>?_,.p (by simpa using RF.room e V Z g')⟩;simp only[BX,F5,hv,aslice,Option.isSome_none,Option.map_none,Bool.false_and,Bool.false_eq_true,if_false,G,d,j,z rfl];rfl
   |lst Y X hw K hc =>
    rename_i V o g vs ws ro;refine⟨.slice (some ⟨V,o+a*sz,none⟩) (b-a) g,fun _=>?_,.p (.lst Y X (ws:=(ws.drop (a*sz)).take ((b-a)*sz)) ?_ (Du.take _ (Du.drop _ K)) (OL (JQ hc _) _))⟩
    ·simp only[BX,F5,hv,aslice,Option.isSome_none,Option.map_none,Bool.false_and,Bool.false_eq_true,if_false,G,d,j,U,X,O,N,C.fr _ Y,and_self,if_true,Option.map_some,J]
    ·have h3:=jv (k:=(b-a)*sz) (Qq (k:=a*sz) hw)
     simp_all
theorem I8{α:Type}[Enc α]:∀(l:List α) (k:Nat),(cells l).take (k*Enc.size α)=cells (l.take k)
 |_,0=>by simp[cells,encs]
 |[],k+1=>by simp[cells,encs]
 |a::l,k+1=>by
  have d:=I8 l k;simp only[cells,encs,List.take_succ_cons] at d ⊢;rw[List.take_append,Enc.len,fW,← d,dz (by rw[Enc.len];omega)];simp
theorem cells_drop'{α:Type}[Enc α]:∀(l:List α) (k:Nat),(cells l).drop (k*Enc.size α)=cells (l.drop k)
 |_,0=>by simp
 |[],k+1=>by simp[cells,encs]
 |a::l,k+1=>by
  have d:=cells_drop' l k;simp only[cells,encs,List.drop_succ_cons] at d ⊢;rw[gT,Enc.len,fW,← d,fw (by rw[Enc.len];omega),eI];simp
theorem kh{α:Type}{_:Enc α}{l:List α}{t:TypeId}{x o:Operand}{e:TypeId}{n b:Nat}{d:TypeInfo}{k:IntKind}(r:AY E.Γ L x=some (.p (.lst e (cells l) n)))(h:AY E.Γ L o=some (.p (.int k (b:Int))))(s:E.P.underlying t=some (.slice e))(g:E.P.info? e=some d)
 (f:d.size=Enc.size α) (u:l.length=n) (j:b≤n) (q:Q (.p (.lst e (cells (l.take b)) b)) H nx):Aa E w ⟨dst,.slice t x none (some o) none,ty,pos,af,gd⟩ L H nx Q :=
 pf (a:=0) (b:=b) r s g f rfl ⟨k,h⟩ (ao _) j (by rw[BD,u]) (by
  rw[ed,cJ,Nat.sub_zero,I8];exact q)
theorem ld{m n:Nat}(f:AY E.Γ L x=some (.p (.int k (m:Int))))(e:AY E.Γ L y=some (.p (.int k' (n:Int))))(g:n≤k.bits)(q:Q (.p (.int k ((m / 2^n:Nat):Int))) H nx) :
 Aa E w ⟨dst,.binOp .shr t x y d,ty,pos,af,gd⟩ L H nx Q:=by
 refine Aa.shr f e (by omega) ?_;grind
end
section
open Go.Am
variable {E:Env}{L:Frame}{H:Heap}{nx:Nat}{Q:PV→Heap→Nat→Prop}{w:Bool}
variable {dst:Option Tmp}{ty:TypeId}{pos:String}{af:Array Edge}{gd:Option (Nat×Bool)}
theorem wrap_u64(d:0≤n)(h:n<18446744073709551616):IntKind.u64.wrap n=n:=by
 have e:IntKind.u64.wrap n=n%2^64:=by
  rfl
 omega
theorem xw{m n:Nat}(f:k=.i64∧m<2^63∨k=.u64∧m<2^64)(g:n<2^64):Lc .and k m n=some (.int k ((m &&& n:Nat):Int)):=by
 have e:(BitVec.ofInt 64 (m:Int) &&& BitVec.ofInt 64 (n:Int)).toNat=m &&& n:=by grind
 have d:m &&& n≤m:=ge;rcases f with⟨rfl,h⟩|⟨rfl,h⟩
 ·show some (FV.int .i64 (IntKind.i64.wrap ((BitVec.ofInt 64 (m:Int) &&& BitVec.ofInt 64 (n:Int)).toNat:Int)))=_
  rw[e,wrap_i64 ⟨by omega,by omega⟩]
 ·show some (FV.int .u64 (IntKind.u64.wrap ((BitVec.ofInt 64 (m:Int) &&& BitVec.ofInt 64 (n:Int)).toNat:Int)))=_
  rw[e,wrap_u64 (by omega) (by omega)]
theorem c4l{m n:Nat}(f:m<2^64)(d:n<2^64):Lc .or .u64 m n=some (.int .u64 ((m ||| n:Nat):Int)):=by
 have e:(BitVec.ofInt 64 (m:Int) ||| BitVec.ofInt 64 (n:Int)).toNat=m ||| n:=by grind
 show some (FV.int .u64 (IntKind.u64.wrap ((BitVec.ofInt 64 (m:Int) ||| BitVec.ofInt 64 (n:Int)).toNat:Int)))=_;rw[e,wrap_u64 (by omega) (by omega)]
theorem vg{m n:Nat}(g:m<2^64)(f:n<2^64):Lc .andNot .u64 m n=some (.int .u64 ((m ^^^ (m &&& n):Nat):Int)):=by
 have e:(BitVec.ofInt 64 (m:Int) &&& ~~~ BitVec.ofInt 64 (n:Int)).toNat=m ^^^ (m &&& n):=by
  have d:BitVec.ofInt 64 (m:Int) &&& ~~~ BitVec.ofInt 64 (n:Int)=BitVec.ofInt 64 (m:Int) ^^^ (BitVec.ofInt 64 (m:Int) &&& BitVec.ofInt 64 (n:Int)):=by
   grind
  grind
 show some (FV.int .u64 (IntKind.u64.wrap ((BitVec.ofInt 64 (m:Int) &&& ~~~ BitVec.ofInt 64 (n:Int)).toNat:Int)))=_;rw[e,wrap_u64 (by omega) (by omega)]
theorem oX{m n:Nat}(f:AY E.Γ L x=some (.p (.int .u64 (m:Int))))(e:AY E.Γ L y=some (.p (.int .u64 (n:Int))))(h:m<2^64)(g:n<2^64)(q:Q (.p (.int .u64 ((m &&& n:Nat):Int))) H nx) :
 Aa E w ⟨dst,.binOp .and t x y d,ty,pos,af,gd⟩ L H nx Q:=Aa.int f e (xw (.inr ⟨rfl,h⟩) g) q
theorem oF{m n:Nat}(f:AY E.Γ L x=some (.p (.int .u64 (m:Int))))(e:AY E.Γ L y=some (.p (.int .u64 (n:Int))))(h:m<2^64)(g:n<2^64)(q:Q (.p (.int .u64 ((m ||| n:Nat):Int))) H nx) :
 Aa E w ⟨dst,.binOp .or t x y d,ty,pos,af,gd⟩ L H nx Q:=Aa.int f e (c4l h g) q
theorem rL{m n:Nat}(f:AY E.Γ L x=some (.p (.int .u64 (m:Int))))(e:AY E.Γ L y=some (.p (.int .u64 (n:Int))))(h:m<2^64)(g:n<2^64)(q:Q (.p (.int .u64 ((m ^^^ (m &&& n):Nat):Int))) H nx) :
 Aa E w ⟨dst,.binOp .andNot t x y d,ty,pos,af,gd⟩ L H nx Q:=Aa.int f e (vg h g) q
theorem oE{n:Nat}(f:AY E.Γ L x=some (.p (.int .u64 1)))(e:AY E.Γ L y=some (.p (.int k' (n:Int))))(r:n<64)(q:Q (.p (.int .u64 ((2^n:Nat):Int))) H nx) :
 Aa E w ⟨dst,.binOp .shl t x y d,ty,pos,af,gd⟩ L H nx Q:=by
 refine Aa.shl f e (by omega) ?_;have o:(min (n:Int).toNat IntKind.u64.bits)=n:=by simp only[Int.toNat_natCast,IntKind.bits];omega
 have j:(2:Nat)^n≤2^63:=aD (by omega) (by omega);have h:(1:Int)*2^n=((2^n:Nat):Int):=by simp
 have g:((2^n:Nat):Int)<18446744073709551616:=Int.ofNat_lt.2 (cK j (by decide));rw[o,h,wrap_u64 (Int.natCast_nonneg _) g];exact q
theorem qz{m n:Nat}(f:AY E.Γ L x=some (.p (.int k (m:Int))))(e:AY E.Γ L y=some (.p (.int k (n:Int))))(g:0<n)(q:Q (.p (.int k ((m%n:Nat):Int))) H nx) :
 Aa E w ⟨dst,.binOp .rem t x y d,ty,pos,af,gd⟩ L H nx Q:=Aa.int f e (r:=.int k ((m%n:Nat):Int)) (by
  simp only[Lc];grind) q
theorem kA(f:AY E.Γ L x=some (.p (.int k a)))(e:AY E.Γ L y=some (.p (.int k c)))(h:0≤a)(g:0<c)(q:Q (.p (.int k (a%c))) H nx) :
 Aa E w ⟨dst,.binOp .rem t x y d,ty,pos,af,gd⟩ L H nx Q:=Aa.int f e (r:=.int k (a%c)) (by
  simp only[Lc];grind) q
theorem sr(g:AY E.Γ L x=some (.p (.int k' n)))(h:E.P.underlying s=some f)(e:zi f=true)(o:E.P.underlying d=some (.int .i64))(j:-9223372036854775808≤n∧n<9223372036854775808)(q:Q (.p (.int .i64 n)) H nx) :
 Aa E w ⟨dst,.convert s d x,ty,pos,af,gd⟩ L H nx Q:=nk g h e o (by rw[wrap_i64 j];exact q)
theorem eR{s d:TypeId}{f:TypeDesc}(q:Q (.p (.int .i64 n)) H nx)(g:AY E.Γ L x=some (.p (.int k' n)):=by rfl)(h:E.P.underlying s=some f:=by rfl)(e:zi f=true:=by rfl)(o:E.P.underlying d=some (.int .i64):=by rfl)(j:-9223372036854775808≤n∧n<9223372036854775808:=by omega):Aa E w ⟨dst,.convert s d x,ty,pos,af,gd⟩ L H nx Q:=sr g h e o j q
section
variable {bn:Nat}{ops:Array Oper}{op:Op}{l:List Oper}{i:Nat}{R:Frame→Heap→Nat→Prop}
end
theorem V9{Γ:Nat→Option (List Value×TypeId)}{ops:Array Oper}{j d:Nat}(f:RL m F T σ nx L t)(g:o.guard=some (j,e))(p:(ops[j]?).bind (·.dst)=some d)(q:Gf L d=some (.DK [])) :
 Region.wanted o (EM ops t)=false:=by
 have h:=f d _ q;generalize hv:CO t d=v at h;cases h with
 |DK h =>
  cases h;unfold Region.wanted;rw[g];simp only[EM,p,hv];rfl
section
variable {bn:Nat}{ops:Array Oper}{op:Op}{l:List Oper}{i:Nat}{R:Frame→Heap→Nat→Prop}
theorem nc{j d:Nat}(g:(ops[j]?).bind (·.dst)=some d)(o:Gf L d=some (.DK []))(h:Ah E bn ops l (IJ L dst (.DK [])) H nx R):Ah E bn ops (⟨dst,op,ty,pos,af,some (j,e)⟩::l) L H nx R:=by
 intro B p m F σ t r f q;exact VR.skip (V9 (Γ:=E.Γ) f rfl g o) (h B p m F σ _ r (f.put (.DK .nil)) q)
theorem na{j d:Nat}(g:(ops[j]?).bind (·.dst)=some d)(o:Gf L d=some (.DK []))(h:Ai E bn ops (i+1) l (IJ L dst (.DK [])) H nx R):Ai E bn ops i (⟨dst,op,ty,pos,af,some (j,e)⟩::l) L H nx R:=by
 intro B p m F σ t r f q;exact JG.skip (V9 (Γ:=E.Γ) f rfl g o) (h B p _ F σ _ (r.at _) (RL.at (Γ:=E.Γ) _ (f.put (.DK .nil))) (q.trans (mw _ _ _ _ _ _ (ab _))))
end
theorem qM(e:n+k<1000000)(d:b<1000000):(n+k)*(b+1)≤room:=an (di (by omega:n+k≤1000000) (by omega:b+1≤1000000)) (by decide)
theorem pu{α:Type}{_:Enc α}{l r:List α}{s x:Operand}{A y e e2:TypeId}{u:TypeDesc}{i:TypeInfo}{b n k:Nat}{z:Bool}(C:AY E.Γ L s=some (.vec b n 0 n))(N:hget H b=some (.vec e (cells l) n z))(B:AY E.Γ L x=some (.p (.lst e2 (cells r) k)))(G:l.length=n)(J:r.length=k)
 (j:E.P.underlying A=some (.slice e)) (h:E.P.underlying y=some u) (M:∀k,u≠.int k) (K:E.P.info? e=some i) (d:Enc.size α=i.size) (g:EO i=true) (O:0<i.size) (o:i.bytes<1000000) (f:l.length+r.length<1000000)
 (q:Q (.vec nx (l.length+r.length) 0 (l.length+r.length)) ((nx,.vec e (cells (l++r)) (l.length+r.length) z)::hdel H b) (nx+1)):Aa E true ⟨dst,.call { callee:=.builtin .append,args:=#[s,x],argTypes:=#[A,y] },ty,pos,af,gd⟩ L H nx Q:=by
 subst G;subst J;refine appendMove' (i:=i) C N (uG.lst B (by rw[BD,d])) j h M K g (qM f o) (by rw[BD,d]) O ?_;rw[← ET];exact q
theorem pw{α:Type}{_:Enc α}{r:List α}{s x:Operand}{y u e e2:TypeId}{o:TypeDesc}{i:TypeInfo}{b k:Nat}{z:Bool}(C:AY E.Γ L s=some (.vec b 0 0 0))(M:hget H b=some (.vec e [] 0 z))(B:AY E.Γ L x=some (.p (.lst e2 (cells r) k)))(G:r.length=k)
 (h:E.P.underlying y=some (.slice e)) (f:E.P.underlying u=some o) (K:∀k,o≠.int k) (J:E.P.info? e=some i) (g:Enc.size α=i.size) (d:EO i=true) (N:0<i.size) (j:i.bytes<1000000) (A:r.length<1000000)
 (q:Q (.vec nx r.length 0 r.length) ((nx,.vec e (cells r) r.length z)::hdel H b) (nx+1)):Aa E true ⟨dst,.call { callee:=.builtin .append,args:=#[s,x],argTypes:=#[y,u] },ty,pos,af,gd⟩ L H nx Q:=by
 refine pu (l:=([]:List α)) C M B rfl G h f K J g d N j (by grind) ?_;grind
theorem lP{α:Type}{_:Enc α}{r:List α}{s x:Operand}{y u e e2:TypeId}{o:TypeDesc}{i:TypeInfo}{b k:Nat}{z:Bool}(q:Q (.vec nx r.length 0 r.length) ((nx,.vec e (cells r) r.length z)::hdel H b) (nx+1))(C:AY E.Γ L s=some (.vec b 0 0 0):=by rfl)(M:hget H b=some (.vec e [] 0 z):=by rfl)(B:AY E.Γ L x=some (.p (.lst e2 (cells r) k)):=by rfl)(G:r.length=k:=by(first|rfl|omega|(simp only[List.length_take,List.length_drop,List.length_append,List.length_singleton,List.length_cons,List.length_nil]<;>omega)))(h:E.P.underlying y=some (.slice e):=by rfl)(f:E.P.underlying u=some o:=by rfl)(K:∀k,o≠.int k:=by(intro _ h;cases h))(J:E.P.info? e=some i:=by rfl)(g:Enc.size α=i.size:=by rfl)(d:EO i=true:=by rfl)(N:0<i.size:=by decide)(j:i.bytes<1000000:=by decide)(A:r.length<1000000:=by(first|omega|(simp only[List.length_take,List.length_drop,List.length_append,List.length_singleton,List.length_cons,List.length_nil]<;>omega))):Aa E true ⟨dst,.call { callee:=.builtin .append,args:=#[s,x],argTypes:=#[y,u] },ty,pos,af,gd⟩ L H nx Q:=pw C M B G h f K J g d N j A q
theorem eB(d:Nat)(h:Ah E bn ops (⟨some d,op,ty,pos,af,gd⟩::l) L H nx R):Ah E bn ops (⟨some d,op,ty,pos,af,gd⟩::l) L H nx R:=h
theorem mc(d:Nat)(h:Ai E bn ops i (⟨some d,op,ty,pos,af,gd⟩::l) L H nx R):Ai E bn ops i (⟨some d,op,ty,pos,af,gd⟩::l) L H nx R:=h
theorem Ad.at(n:Nat){Q:BP→Frame→Heap→Nat→Prop}(h:Ad E bn (.seq (.region n ops b) k) L H nx Q):Ad E bn (.seq (.region n ops b) k) L H nx Q:=h
theorem oA(n:Nat){Q:BP→Frame→Heap→Nat→Prop}(h:Ad E bn (.region n ops b) L H nx Q):Ad E bn (.region n ops b) L H nx Q:=h
theorem a5i{α:Type}{_:Enc α}{e:TypeId}{l:List α}{n:Nat}(h:n=l.length):(PV.p (.lst e (cells l) n))=lst e l :=by grind
theorem le_dec{a b:Nat}(h:Nat.ble a b=true):a≤b :=by simp_all
theorem AZ(h:Nat.blt a b=true):a<b :=by simp_all
section
variable {L:Frame}{H:Heap}
theorem GZ.eq(d:Gf L i=some v0)(e:v0.under k)(t:GZ k L0 L):GZ k ((i,v0)::L0) L:=⟨⟨e,v0,d,.refl _⟩,t⟩
theorem BN.eq(d:hget H i=some v0)(f:i<k)(e:v0.under k)(t:BN k L0 H):BN k ((i,v0)::L0) H:=⟨⟨f,e,v0,d,.refl _⟩,t⟩
mutual
def PV.ub(k:Nat):PV→Bool
 | .p _=>true
 | .agg cs=>CZ.ub k cs
 | .DK cs=>CZ.ub k cs
 | .vec b _ _ _=>Nat.blt b k
 | .ref b _=>Nat.blt b k
 | .Fb b _ _=>Nat.blt b k
 | .mref b=>Nat.blt b k
 | .clo _ fs cs=>and (CZ.ub k fs) (CZ.ub k cs)
def CZ.ub(k:Nat):List PV→Bool
 |[]=>true
 |c::cs=>and (PV.ub k c) (CZ.ub k cs)
end
mutual
theorem my{k:Nat}:∀{x:PV},PV.ub k x=true→x.under k
 | .p _,_=>trivial
 | .agg _,h=>eA (by simpa[PV.ub] using h)
 | .DK _,h=>eA (by simpa[PV.ub] using h)
 | .vec _ _ _ _,h=>AZ h
 | .ref _ _,h=>AZ h
 | .Fb _ _ _,h=>AZ h
 | .mref _,h=>AZ h
 | .clo _ _ _,h=>by
  simp only[PV.ub,Bool.and_eq_true] at h;exact⟨eA h.1,eA h.2⟩
theorem eA{k:Nat}:∀{x:List PV},CZ.ub k x=true→CZ.under k x
 |[],_=>trivial
 |_::_,h=>by
  simp only[CZ.ub,Bool.and_eq_true] at h;exact⟨my h.1,eA h.2⟩
end
def HB.ub(k:Nat):HB→Bool
 | .box _ cs=>CZ.ub k cs
 | .Fq _ cs _=>CZ.ub k cs
 | .KF _ cs=>CZ.ub k cs
 |_=>true
theorem hQ(h:HB.ub k x=true):x.under k:=by
 cases x with
 |box e d=>exact eA h
 |Fq e d n=>exact eA h
 |KF f d=>exact eA h
 |vec=>trivial
 |map=>trivial
end
theorem Dh(h:GZ k a b:=by repeat(first|exact GZ.nil|refine GZ.same (by exact my rfl) rfl ?_|refine GZ.same ⟨eL _ [_],trivial⟩ rfl ?_|refine GZ.cons trivial rfl (.of_eq (a5i (by simp<;>omega))) ?_)):GZ k a b:=h
theorem Ns(h:GZ k a b:=by repeat(first|exact GZ.nil|refine GZ.same (by exact my rfl) rfl ?_|refine GZ.same ⟨eL _ [_],trivial⟩ rfl ?_|(refine GZ.eq rfl ?_ ?_;(first|exact my rfl|(simp[PV.under,CZ.under];done)))|refine GZ.cons trivial rfl (.of_eq (a5i (by simp<;>omega))) ?_)):GZ k a b:=h
theorem DT(h:BN k a b:=by repeat(first|exact BN.nil|(refine BN.cons (AZ rfl) ?_ rfl ?_ ?_;(first|exact hQ rfl|exact eL _ _|(simp[HB.under,CZ.under,PV.under]));(first|exact KX.refl _|exact KX.vec (IK.refl _) (by simp))))):BN k a b:=h
theorem O9(h:BN k a b:=by repeat(first|exact BN.nil|(refine BN.eq rfl (AZ rfl) ?_ ?_;(first|exact hQ rfl|exact eL _ _|(simp[HB.under,CZ.under,PV.under];done)))|(refine BN.cons (AZ rfl) ?_ rfl ?_ ?_;(first|exact hQ rfl|exact eL _ _|(simp[HB.under,CZ.under,PV.under]));(first|exact KX.refl _|exact KX.vec (IK.refl _) (by simp))))):BN k a b:=h
theorem py(h:EJ P rs L H=some r)(d:PV.ub 0 r=true)(q:Q r [] 0):Done P rs 0 Q .ret L H nx:=Done.ret h (.refl _) (my d) BN.nil (ao _) (ab _) q
theorem aa(e:r=R)(h:EJ P rs L H=some r:=by exact rfl)(u:PV.ub 0 r=true:=by exact rfl):Done P rs 0 (fun d H' nx'=>d=R∧H'=[]∧nx'=0) .ret L H nx:=py h u ⟨e,rfl,rfl⟩
end
end Go.Vm
