/-
  Texts of a proof, merged (VmB, VmC). Conditions: in each statement.
-/
import Derived.Test.YtnjkoebfgcbbdaaGreatDoorKPe
set_option linter.unusedSimpArgs false
set_option linter.unusedVariables false
set_option linter.unusedSectionVars false
set_option maxRecDepth 100000
set_option maxHeartbeats 8000000
abbrev ax:=@Nat.pow_le_pow_right
abbrev bd:=@Nat.not_lt_zero
abbrev co:=@List.nodup_nil
abbrev cw:=@List.drop_zero
abbrev cx:=@Nat.lt_of_le_of_lt
abbrev cT:=@Nat.mul_le_mul
abbrev di:=@List.take_of_length_le
abbrev dq:=@Nat.add_zero
abbrev ej:=@List.all_append
abbrev fe:=@Nat.le_add_right
abbrev fq:=@List.mem_of_getElem?
abbrev ft:=@List.getElem?_of_mem
abbrev fu:=@Nat.and_le_left
abbrev gE:=@List.nil_append
abbrev gM:=@List.drop_eq_nil_of_le
namespace Go.Vm
section
open Go.Am
variable {E:Env}{L:Frame}{H:Heap}{nx:Nat}{Q:PV→Heap→Nat→Prop}{w:Bool}
variable {dst:Option Tmp}{ty:TypeId}{pos:String}{af:Array Edge}{gd:Option (Nat×Bool)}
def gi{α:Type}[Inhabited α](l:List α)(k:Nat):α:=(l[k]?).getD default
def encs{α:Type}(enc:α→List FV):List α→List FV
 |[]=>[]
 |a::l=>enc a++encs enc l
class Enc(α:Type) extends Inhabited α where
 enc:α→List FV
 size:Nat
 len:∀a,(enc a).length=size
section
variable {α:Type}[Enc α]
abbrev cells(l:List α):List FV:=encs Enc.enc l
theorem C9(l:List α):(cells l).length=l.length*Enc.size α:=by
 induction l with
 |nil=>simp[cells,encs]
 |cons a l d=>simp only[cells,encs,List.length_append,Enc.len,List.length_cons,Nat.succ_mul] at d ⊢;omega
theorem lJ(a:α)(l:List α)(k:Nat):gi (a::l) (k+1)=gi l k:=rfl
theorem Ut:∀(l:List α) (k:Nat),k<l.length→(cells l).drop (k*Enc.size α)=Enc.enc (gi l k)++cells (l.drop (k+1))
 |a::l,0,_=>by simp[cells,encs,gi]
 |a::l,k+1,h=>by
  have d:=Ut l k (by grind);simp only[cells,encs,List.drop_succ_cons,lJ] at d ⊢;rw[← d,List.drop_append,Enc.len,gM (by rw[Enc.len,gr];omega)];grind
 |[],_,h=>by grind
theorem Gg:∀(l r:List α),cells (l++r)=cells l++cells r
 |[],_=>rfl
 |a::l,r=>by simp only[cells,encs,List.cons_append,List.append_assoc];rw[← Gg l r]
end
instance:Enc Int:={ default:=0,enc:=fun n=>[.int .i64 n],size:=1,len:=fun _=>rfl }
theorem Aa.Ph{α:Type}{_:Enc α}{t:TypeId}{x d:Operand}{e:TypeId}{l:List α}{n:Nat}{k:IntKind}{i:Int}(f:AU E.Γ L x=some (.p (.lst e (cells l) n)))(h:AU E.Γ L d=some (.p (.int k i)))
 (g:elemSize E.P t=some (Enc.size α)) (j:0≤i) (r:i<l.length) (o:l.length=n) (q:Q (.p (.Fb (Enc.enc (gi l i.toNat)++cells (l.drop (i.toNat+1))))) H nx):Aa E w ⟨dst,.indexAddr t x d,ty,pos,af,gd⟩ L H nx Q :=
 Aa.b9x f h g j (by omega) (by rw[Ut l i.toNat (by omega)];exact q)
theorem Aa.Ap{α:Type}{_:Enc α}{t:TypeId}{x d:Operand}{e:TypeId}{l:List α}{n:Nat}{k:IntKind}{i:Nat}(f:AU E.Γ L x=some (.p (.lst e (cells l) n)))(j:AU E.Γ L d=some (.p (.int k (i:Int))))
 (g:elemSize E.P t=some (Enc.size α)) (o:i<l.length) (h:l.length=n) (q:Q (.p (.Fb (Enc.enc (gi l i)++cells (l.drop (i+1))))) H nx):Aa E w ⟨dst,.indexAddr t x d,ty,pos,af,gd⟩ L H nx Q :=
 Aa.Ph f j g (by omega) (by omega) h q
theorem Aa.b2a{α:Type}{_:Enc α}{t:TypeId}{x d:Operand}{e:TypeId}{l:List α}{n:Nat}{k:IntKind}{i:Nat}(f:AU E.Γ L x=some (.p (.lst e (cells l) n)))(j:AU E.Γ L d=some (.p (.int k ((i:Int)-1))))
 (g:elemSize E.P t=some (Enc.size α)) (r:0<i) (o:i-1<l.length) (h:l.length=n) (q:Q (.p (.Fb (Enc.enc (gi l (i-1))++cells (l.drop (i-1+1))))) H nx):Aa E w ⟨dst,.indexAddr t x d,ty,pos,af,gd⟩ L H nx Q :=
 Aa.Ph f j g (by omega) (by omega) h (by grind)
abbrev lst{α:Type}[Enc α](e:TypeId)(l:List α):PV:=.p (.lst e (cells l) l.length)
section
variable {bn:Nat}{ops:Array Oper}{op:Op}{l:List Oper}{i:Nat}{R:Frame→Heap→Nat→Prop}
theorem Aj.one(h:Aa E true ⟨dst,op,ty,pos,af,none⟩ L H nx fun r H' nx'=>Aj E bn ops l (Ig L dst r) H' nx' R):Aj E bn ops (⟨dst,op,ty,pos,af,none⟩::l) L H nx R:=Aj.cons rfl h
theorem Aj.take{j d:Nat}{e:Bool}(f:(ops[j]?).bind (·.dst)=some d)(g:Fv L d=some (.p (.bool e)))(h:Aa E true ⟨dst,op,ty,pos,af,some (j,e)⟩ L H nx fun r H' nx'=>Aj E bn ops l (Ig L dst r) H' nx' R) :
 Aj E bn ops (⟨dst,op,ty,pos,af,some (j,e)⟩::l) L H nx R:=Aj.cons ⟨e,d,f,g,by cases e<;>rfl⟩ h
theorem Aj.drop{j d:Nat}{e b:Bool}(g:(ops[j]?).bind (·.dst)=some d)(o:Fv L d=some (.p (.bool b)))(f:(b==e)=false)(h:Aj E bn ops l (Ig L dst (.D5 [])) H nx R) :
 Aj E bn ops (⟨dst,op,ty,pos,af,some (j,e)⟩::l) L H nx R:=Aj.skip ⟨b,d,g,o,f.symm⟩ h
theorem Ag.drop{j d:Nat}{e b:Bool}(g:(ops[j]?).bind (·.dst)=some d)(o:Fv L d=some (.p (.bool b)))(f:(b==e)=false)(h:Ag E bn ops (i+1) l (Ig L dst (.D5 [])) H nx R) :
 Ag E bn ops i (⟨dst,op,ty,pos,af,some (j,e)⟩::l) L H nx R:=Ag.skip ⟨b,d,g,o,f.symm⟩ h
theorem Aj.guard{j d:Nat}{e:Bool}{p:Prop}{_:Decidable p}(h:(ops[j]?).bind (·.dst)=some d)(o:Fv L d=some (.p (.bool (decide p))))
 (f:p→Aj E bn ops (⟨dst,op,ty,pos,af,some (j,e)⟩::l) ((d,.p (.bool true))::L) H nx R) (g:¬ p→Aj E bn ops (⟨dst,op,ty,pos,af,some (j,e)⟩::l) ((d,.p (.bool false))::L) H nx R) :
 Aj E bn ops (⟨dst,op,ty,pos,af,some (j,e)⟩::l) L H nx R:=Aj.split rfl h o f g
theorem Ag.guard{j d:Nat}{e:Bool}{p:Prop}{_:Decidable p}(h:(ops[j]?).bind (·.dst)=some d)(o:Fv L d=some (.p (.bool (decide p))))
 (f:p→Ag E bn ops i (⟨dst,op,ty,pos,af,some (j,e)⟩::l) ((d,.p (.bool true))::L) H nx R) (g:¬ p→Ag E bn ops i (⟨dst,op,ty,pos,af,some (j,e)⟩::l) ((d,.p (.bool false))::L) H nx R) :
 Ag E bn ops i (⟨dst,op,ty,pos,af,some (j,e)⟩::l) L H nx R:=Ag.split rfl h o f g
def BL(E:Env)(bn:Nat)(k:Code)(Q:BH→Frame→Heap→Nat→Prop)(e:BH)(L:Frame)(H:Heap)(nx:Nat):Prop :=
 match e with
 | .normal=>Ad E bn k L H nx Q
 | .ret=>Q .ret L H nx
 | .exit i=>Q (.exit i) L H nx
def Bl(id:Nat)(Q:BH→Frame→Heap→Nat→Prop)(e:BH)(L:Frame)(H:Heap)(nx:Nat):Prop :=
 match e with
 | .normal=>Q .normal L H nx
 | .ret=>Q .ret L H nx
 | .exit i=>if i=id then Q .normal L H nx else Q (.exit i) L H nx
def Ai(I:Frame→Heap→Nat→Prop)(Q:BH→Frame→Heap→Nat→Prop)(e:BH)(L:Frame)(H:Heap)(nx:Nat):Prop :=
 match e with
 | .normal=>I L H nx
 | .ret=>Q .ret L H nx
 | .exit i=>Q (.exit i) L H nx
variable {Q:BH→Frame→Heap→Nat→Prop}{I:Frame→Heap→Nat→Prop}{a b c k:Code}{id:Nat}{x:Operand}
theorem BL.normal(h:Ad E bn k L H nx Q):BL E bn k Q .normal L H nx:=h
theorem BL.ret(h:Q .ret L H nx):BL E bn k Q .ret L H nx:=h
theorem Bl.normal(h:Q .normal L H nx):Bl id Q .normal L H nx:=h
theorem Bl.ret(h:Q .ret L H nx):Bl id Q .ret L H nx:=h
theorem Bl.exit(h:Q .normal L H nx):Bl id Q (.exit id) L H nx:=by simp only[Bl,if_true];exact h
theorem Ai.normal(h:I L H nx):Ai I Q .normal L H nx:=h
theorem Ai.ret(h:Q .ret L H nx):Ai I Q .ret L H nx:=h
theorem Ai.exit(h:Q (.exit i) L H nx):Ai I Q (.exit i) L H nx:=h
theorem Ad.to(h:Ad E bn a L H nx (BL E bn k Q)):Ad E bn (.seq a k) L H nx Q :=
 Ad.seq (h.mono fun e _ _ _ q=>by cases e<;>exact q)
theorem Ad.Bo(h:Aj E bn ops ops.toList L H nx fun L' H' nx'=>Ad E bn k L' H' nx' Q):Ad E bn (.seq (.region id ops false) k) L H nx Q:=Ad.seq (Ad.region h)
theorem Ad.Ce(h:Ag E bn ops 0 ops.toList L H nx fun L' H' nx'=>Ad E bn k L' H' nx' Q):Ad E bn (.seq (.region id ops true) k) L H nx Q:=Ad.seq (Ad.E5 h)
theorem Ad.assoc(h:Ad E bn (.seq a (.seq b c)) L H nx Q):Ad E bn (.seq (.seq a b) c) L H nx Q:=by
 intro B j m F σ t r p o;obtain⟨e,s,⟨K,d⟩,q⟩:=h B j m F σ t r p o;refine⟨e,s,⟨K,fun N D f g=>?_⟩,q⟩;have:=d N D f g;simp only[BJ] at this ⊢;grind
theorem Ad.FH(h:Ad E bn k L H nx Q):Ad E bn (.seq .skip k) L H nx Q:=Ad.seq (Ad.skip h)
theorem Ad.Oy(h:Q .ret L H nx):Ad E bn (.seq .ret k) L H nx Q:=Ad.seq (Ad.ret h)
theorem Ad.FT(h:Q (.exit i) L H nx):Ad E bn (.seq (.exit i) k) L H nx Q:=Ad.seq (Ad.exit h)
theorem Ad.EG(h:Ad E bn a L H nx (Bl id (BL E bn k Q))):Ad E bn (.seq (.block id a) k) L H nx Q :=
 Ad.to (Ad.block (h.mono fun e _ _ _ q=>by cases e<;>exact q))
theorem Ad.Jh(h:Ad E bn a L H nx (Bl id Q)):Ad E bn (.block id a) L H nx Q :=
 Ad.block (h.mono fun e _ _ _ q=>by cases e<;>exact q)
theorem Ad.Rw(t:Bool)(C:AU E.Γ L x=some (.p (.bool t)))(z:t=true→Ad E bn (.seq a k) L H nx Q)(A:t=false→Ad E bn (.seq b k) L H nx Q):Ad E bn (.seq (.cond x a b) k) L H nx Q:=by
 intro B r m F σ u h g y;have o:=Iq h g C;cases t with
 |true =>
  obtain⟨j,s,⟨K,d⟩,q⟩:=z rfl B r m F σ u h g y;exact⟨j,s,⟨K,fun N D e f=>by have:=d N D e f;simp only[BJ,o] at this ⊢;omega⟩,q⟩
 |false =>
  obtain⟨j,s,⟨K,d⟩,q⟩:=A rfl B r m F σ u h g y;exact⟨j,s,⟨K,fun N D e f=>by have:=d N D e f;simp only[BJ,o] at this ⊢;omega⟩,q⟩
theorem Ad.AV(e:AU E.Γ L x=some (.p (.bool true)))(d:Ad E bn (.seq a k) L H nx Q):Ad E bn (.seq (.cond x a b) k) L H nx Q:=Ad.Rw true e (fun _=>d) (fun h=>by cases h)
theorem Ad.Ah(e:AU E.Γ L x=some (.p (.bool false)))(d:Ad E bn (.seq b k) L H nx Q):Ad E bn (.seq (.cond x a b) k) L H nx Q:=Ad.Rw false e (fun h=>by cases h) (fun _=>d)
theorem Ad.Ac{p:Prop}{_:Decidable p}(f:AU E.Γ L x=some (.p (.bool (decide p))))(d:p→Ad E bn (.seq a k) L H nx Q)(e:¬ p→Ad E bn (.seq b k) L H nx Q):Ad E bn (.seq (.cond x a b) k) L H nx Q :=
 Ad.Rw (decide p) f (fun h=>d (of_decide_eq_true h)) (fun h=>e (of_decide_eq_false h))
theorem Ad.DR{α:Type}(g:α→Frame)(h:α→Heap)(CP:Nat)(d:α→Prop)(μ:α→Nat)(f:α)(r:bn≤CP)(u:d f)(p:V8 L H nx (g f) (h f) CP)
 (j:∀s,d s→Ad E bn a (g s) (h s) CP (Ai (fun L' H' nx'=>∃s',d s'∧μ s'<μ s∧V8 L' H' nx' (g s') (h s') CP) Q)):Ad E bn (.loop a) L H nx Q :=
 Ad.loop g h CP d μ f r u p fun s o=>(j s o).mono fun e _ _ _ q=>by cases e<;>exact q
theorem F5.nil{k:Nat}:F5 k [] L:=trivial
theorem F5.cons{k i:Nat}{v v0:PV}{L0:Frame}(f:v0.under k)(e:Fv L i=some v)(d:PLe v v0)(t:F5 k L0 L):F5 k ((i,v0)::L0) L:=⟨⟨f,v,e,d⟩,t⟩
theorem F5.same{k i:Nat}{v0:PV}{L0:Frame}(e:v0.under k)(d:Fv L i=some v0)(t:F5 k L0 L):F5 k ((i,v0)::L0) L:=⟨⟨e,v0,d,.refl _⟩,t⟩
theorem BF.nil{k:Nat}:BF k [] H:=trivial
theorem BF.cons{k i:Nat}{v v0:HB}{L0:Heap}(g:i<k)(f:v0.under k)(e:hget H i=some v)(d:Kw v v0)(t:BF k L0 H):BF k ((i,v0)::L0) H:=⟨⟨g,f,v,e,d⟩,t⟩
theorem Done.ret{P:Program}{rs:List ResultVar}{Q:PV→Heap→Nat→Prop}{r d:PV}{H0:Heap}{CP:Nat}(h:EI P rs L H=some d)(e:PLe d r)(f:r.under CP)(o:BF CP H0 H)(g:CP≤nx)(j:bn≤CP)(q:Q r H0 CP):Done P rs bn Q .ret L H nx :=
 ⟨d,h,r,H0,CP,e,f,o,g,j,q⟩
end
end
section
open Go.Am
variable {E:Env}{L:Frame}{H:Heap}{nx:Nat}{Q:PV→Heap→Nat→Prop}{w:Bool}
variable {dst:Option Tmp}{ty:TypeId}{pos:String}{af:Array Edge}{gd:Option (Nat×Bool)}
mutual
def PV.rn(ρ:Nat→Nat):PV→PV
 | .p x=>.p x
 | .agg cs=>.agg (CV.rn ρ cs)
 | .D5 cs=>.D5 (CV.rn ρ cs)
 | .vec b tag off len=>.vec (ρ b) tag off len
 | .ref b off=>.ref (ρ b) off
 | .E8 b tag off=>.E8 (ρ b) tag off
 | .mref b=>.mref (ρ b)
 | .clo f fs cs=>.clo f (CV.rn ρ fs) (CV.rn ρ cs)
def CV.rn(ρ:Nat→Nat):List PV→List PV
 |[]=>[]
 |c::cs=>PV.rn ρ c::CV.rn ρ cs
end
def HB.rn(ρ:Nat→Nat):HB→HB
 | .box e cs=>.box e (CV.rn ρ cs)
 | .vec e cs n z=>.vec e cs n z
 | .map es=>.map es
 | .EX e cs n=>.EX e (CV.rn ρ cs) n
 | .JZ ks cs=>.JZ ks (CV.rn ρ cs)
theorem HB.xR(ρ:Nat→Nat)(x:HB):(x.rn ρ).tag=x.tag:=by cases x<;>rfl
section
variable {m:Mem}{F:Nat→Prop}{T T':Nat→Option Tg}{σ σ':Nat→Value}{n n':Nat}{ρ:Nat→Nat}
mutual
theorem RP.rn(h:∀b,b<n→ρ b<n'∧T' (ρ b)=T b∧σ' (ρ b)=σ b):∀{x:PV} {v:Value},RP m F T σ n x v→RP m F T' σ' n' (x.rn ρ) v
 |_,_,.p r=>.p r
 |_,_,.agg r hc=>.agg (Dv.rn h r) hc
 |_,_,.D5 r=>.D5 (Dv.rn h r)
 |_,_,.vec hb hc r=>.vec (h _ hb).1 hc (by rw[(h _ hb).2.1,(h _ hb).2.2];exact r)
 |_,_,.ref hb hc r=>.ref (h _ hb).1 hc (by rw[(h _ hb).2.1,(h _ hb).2.2];exact r)
 |_,_,.E8 hb hc r=>.E8 (h _ hb).1 hc (by rw[(h _ hb).2.1,(h _ hb).2.2];exact r)
 |_,_,.mref hb hc r=>.mref (h _ hb).1 hc (by rw[(h _ hb).2.1,(h _ hb).2.2];exact r)
 |_,_,.clo r1 r2=>.clo (Dv.rn h r1) (Dv.rn h r2)
theorem Dv.rn(h:∀b,b<n→ρ b<n'∧T' (ρ b)=T b∧σ' (ρ b)=σ b):∀{x:List PV} {v:List Value},Dv m F T σ n x v→Dv m F T' σ' n' (CV.rn ρ x) v
 |_,_,.nil=>.nil
 |_,_,.cons r t=>.cons (RP.rn h r) (Dv.rn h t)
end
mutual
theorem RP.Xk(h:∀b,b<n→(∀t,T b=some t→T' (ρ b)=some t)∧σ' (ρ b)=σ b):∀{x:PV} {v:Value},x.under n→RP m F T' σ' n' (x.rn ρ) v→RP m F T σ n x v
 | .p _,_,_,r=>by cases r with|p r=>exact .p r
 | .agg cs,_,hu,r=>by
  simp only[PV.rn] at r;cases r with|agg r d=>exact .agg (Dv.Xk h hu r) d
 | .D5 cs,_,hu,r=>by
  simp only[PV.rn] at r;cases r with|D5 r=>exact .D5 (Dv.Xk h hu r)
 | .vec b tag off len,_,hu,r=>by
  simp only[PV.rn] at r;cases r with
  |vec g d r =>
   refine .vec hu d fun k e=>?_
   have:=r k ((h b hu).1 _ e);rw[(h b hu).2] at this;exact this
 | .ref b off,_,hu,r=>by
  simp only[PV.rn] at r;cases r with
  |ref g d r =>
   refine .ref hu d fun e=>?_
   have:=r ((h b hu).1 _ e);rw[(h b hu).2] at this;exact this
 | .E8 b tag off,_,hu,r=>by
  simp only[PV.rn] at r;cases r with
  |E8 g d r =>
   refine .E8 hu d fun k e=>?_
   have:=r k ((h b hu).1 _ e);rw[(h b hu).2] at this;exact this
 | .mref b,_,hu,r=>by
  simp only[PV.rn] at r;cases r with
  |mref g d r =>
   refine .mref hu d fun e=>?_
   have:=r ((h b hu).1 _ e);rw[(h b hu).2] at this;exact this
 | .clo f fs cs,_,hu,r=>by
  simp only[PV.rn] at r;cases r with|clo o j=>exact .clo (Dv.Xk h hu.1 o) (Dv.Xk h hu.2 j)
theorem Dv.Xk(h:∀b,b<n→(∀t,T b=some t→T' (ρ b)=some t)∧σ' (ρ b)=σ b):∀{x:List PV} {v:List Value},CV.under n x→Dv m F T' σ' n' (CV.rn ρ x) v→Dv m F T σ n x v
 |[],_,_,r=>by cases r;exact .nil
 |c::cs,_,hu,r=>by cases r with|cons r t=>exact .cons (RP.Xk h hu.1 r) (Dv.Xk h hu.2 t)
end
end
def idx:List Nat→Nat→Option Nat
 |[],_=>none
 |a::l,b=>match Nat.decEq a b with
  | .isTrue _=>some 0
  | .isFalse _=>(idx l b).map (·+1)
theorem bH:∀{l:List Nat} {b i:Nat},idx l b=some i→l[i]?=some b
 |a::l,b,i,h=>by
  simp only[idx] at h;split at h
  ·grind
  ·simp only[Option.map_eq_some_iff] at h
   obtain⟨j,d,rfl⟩:=h;simpa using bH d
theorem b0f:∀{l:List Nat} {b i:Nat},l.Nodup→l[i]?=some b→idx l b=some i
 |[],_,_,_,h=>by grind
 |a::l,b,i,hn,h=>by
  simp only[List.nodup_cons] at hn;cases i with
  |zero =>
   simp only[List.getElem?_cons_zero,Option.some.injEq] at h;subst h;simp only[idx];cases hd:Nat.decEq a a with
   |isTrue _=>rfl
   |isFalse e=>omega
  |succ i =>
   have d:a≠b:=fun e=>hn.1 (e▸fq h)
   simp only[idx];cases hd:Nat.decEq a b with
   |isTrue e=>omega
   |isFalse _=>simp only[b0f hn.2 h,Option.map_some]
def rho(ns:List Nat)(nx:Nat)(i:Nat):Nat :=
 match ns[i]? with
 |some b=>b
 |none=>nx+(i-ns.length)
def merge(ns:List Nat)(ρ:Nat→Nat)(H':Heap):Heap→Heap
 |[]=>[]
 |(b,x)::H=>match idx ns b with
  |none=>(b,x)::merge ns ρ H' H
  |some i=>match hget H' i with
   |some y=>(b,y.rn ρ)::merge ns ρ H' H
   |none=>merge ns ρ H' H
def news(k:Nat)(ρ:Nat→Nat):Heap→Heap→Heap
 |[],H=>H
 |(i,x)::H',H=>match Nat.decLt i k with
  | .isTrue _=>news k ρ H' H
  | .isFalse _=>(ρ i,x.rn ρ)::news k ρ H' H
theorem Gs{ns:List Nat}{ρ:Nat→Nat}{H':Heap}:∀{H:Heap} {b:Nat},idx ns b=none→hget (merge ns ρ H' H) b=hget H b
 |[],_,_=>rfl
 |(a,x)::H,b,h=>by
  have f:=Gs (ns:=ns) (ρ:=ρ) (H':=H') (H:=H) h;simp only[merge];cases hi:idx ns a with
  |none=>simp only[Bv,f]
  |some i =>
   have d:a≠b:=fun e=>by grind
   simp only[Bv,if_neg d];cases hget H' i with
   |none=>omega
   |some y=>simp only[Bv,if_neg d];omega
theorem KL{ns:List Nat}{ρ:Nat→Nat}{H':Heap}:∀{H:Heap} {b i:Nat},idx ns b=some i→hget (merge ns ρ H' H) b=if(hget H b).isSome then(hget H' i).map (HB.rn ρ) else none
 |[],_,_,_=>by rfl
 |(a,x)::H,b,i,h=>by
  have d:=KL (ns:=ns) (ρ:=ρ) (H':=H') (H:=H) h;simp only[merge];by_cases e:a=b
  ·subst e
   rw[h];simp only[Bv,if_true,Option.isSome_some];cases hi:hget H' i with
   |none =>
    grind
   |some y=>simp only[Bv,if_true,Option.map_some]
  ·simp only[Bv,if_neg e]
   cases hj:idx ns a with
   |none=>simp only[Bv,if_neg e];omega
   |some j =>
    simp only;cases hget H' j with
    |none=>omega
    |some y=>simp only[Bv,if_neg e];omega
theorem Lp{k:Nat}{ρ:Nat→Nat}{H:Heap}:∀{H':Heap} {b:Nat},(∀i j,ρ i=ρ j→k≤i→k≤j→i=j) →
 (∃i,k≤i∧ρ i=b∧(hget H' i).isSome∧hget (news k ρ H' H) b=(hget H' i).map (HB.rn ρ))∨((∀i,k≤i→ρ i=b→hget H' i=none)∧hget (news k ρ H' H) b=hget H b)
 |[],b,_=>.inr ⟨fun _ _ _=>rfl,rfl⟩
 |(i,x)::H',b,hinj=>by
  have f:=Lp (k:=k) (ρ:=ρ) (H:=H) (H':=H') (b:=b) hinj;simp only[news];cases hd:Nat.decLt i k with
  |isTrue g =>
   rcases f with⟨j,e,d,r,q⟩|⟨e,d⟩
   ·refine .inl ⟨j,e,d,?_⟩
    rw[Bv,if_neg (by omega)];grind
   ·refine .inr ⟨fun j o p=>?_,d⟩
    rw[Bv,if_neg (by omega)];grind
  |isFalse h =>
   simp only[Bv];grind
def HIn(ρ:Nat→Nat)(H:Heap):Heap→Prop
 |[]=>True
 |(i,x)::Hc=>(∃y,hget H (ρ i)=some y∧Kw y (x.rn ρ))∧HIn ρ H Hc
theorem HIn.get{ρ:Nat→Nat}{H:Heap}:∀{Hc:Heap},HIn ρ H Hc→∀i x,hget Hc i=some x→∃y,hget H (ρ i)=some y∧Kw y (x.rn ρ)
 |[],_,_,_,h=>by cases h
 |(j,y)::Hc,⟨h1,h2⟩,i,x,h=>by
  rw[Bv] at h;by_cases e:j=i
  ·grind
  ·rw[if_neg e] at h;exact HIn.get h2 i x h
def LK(k:Nat):Heap→Prop
 |[]=>True
 |(i,x)::H=>(i<k∧x.under k)∧LK k H
theorem LK.get{k:Nat}:∀{H:Heap},LK k H→∀i x,hget H i=some x→i<k∧x.under k
 |[],_,_,_,h=>by cases h
 |(j,y)::Hc,⟨h1,h2⟩,i,x,h=>by
  rw[Bv] at h;by_cases e:j=i
  ·grind
  ·rw[if_neg e] at h;exact LK.get h2 i x h
theorem RB.le{m:Mem}{F:Nat→Prop}{T:Nat→Option Tg}{σ:Nat→Value}{n:Nat}{s:Value}{x y:HB}(h:Kw x y)(r:RB m F T σ n s x):RB m F T σ n s y:=by
 cases h with
 |refl=>exact r
 |box h=>obtain⟨c,j,f,e,d,q,p,o⟩:=r;exact⟨c,j,f,e,d,q,Dv.le h p,o⟩
 |vec h u =>
  subst u;rcases r with⟨f,e,d⟩|⟨c,g,j,f,e,d,q,p,o⟩
  ·subst f
   cases h with|refl=>exact .inl ⟨rfl,e,d⟩
  ·exact .inr ⟨c,g,j,f,e,d,q,Dt.le h p,o⟩
theorem RB.rn{m:Mem}{F:Nat→Prop}{T T':Nat→Option Tg}{σ σ':Nat→Value}{n n':Nat}{ρ:Nat→Nat}{s:Value}{x:HB}(h:∀b,b<n→ρ b<n'∧T' (ρ b)=T b∧σ' (ρ b)=σ b)(r:RB m F T σ n s x):RB m F T' σ' n' s (x.rn ρ):=by
 cases x with
 |box e A=>obtain⟨c,y,u,q,p,o,j,f⟩:=r;exact⟨c,y,u,q,p,o,Dv.rn h j,f⟩
 |vec e A k z=>exact r
 |map G=>exact r
 |EX e A k=>obtain⟨c,g,y,u,q,p,o,j,f⟩:=r;exact⟨c,g,y,u,q,p,o,Dv.rn h j,f⟩
 |JZ C A=>obtain⟨r,l,d,u,q,p,o,j,f,B⟩:=r;exact⟨r,l,d,u,q,p,o,j,Dv.rn h f,B⟩
theorem RB.Xk{m:Mem}{F:Nat→Prop}{T T':Nat→Option Tg}{σ σ':Nat→Value}{n n':Nat}{ρ:Nat→Nat}{s:Value}{x:HB}(h:∀b,b<n→(∀t,T b=some t→T' (ρ b)=some t)∧σ' (ρ b)=σ b)(A:x.under n)(r:RB m F T' σ' n' s (x.rn ρ)):RB m F T σ n s x:=by
 cases x with
 |box e B=>obtain⟨c,y,u,q,p,o,j,f⟩:=r;exact⟨c,y,u,q,p,o,Dv.Xk h A j,f⟩
 |vec e B k z=>exact r
 |map J=>exact r
 |EX e B k=>obtain⟨c,g,y,u,q,p,o,j,f⟩:=r;exact⟨c,g,y,u,q,p,o,Dv.Xk h A j,f⟩
 |JZ G B=>obtain⟨r,l,d,u,q,p,o,j,f,C⟩:=r;exact⟨r,l,d,u,q,p,o,j,Dv.Xk h A f,C⟩
end
section
open Go.Am
variable {E:Env}{L:Frame}{H:Heap}{nx:Nat}{Q:PV→Heap→Nat→Prop}{w:Bool}
variable {dst:Option Tmp}{ty:TypeId}{pos:String}{af:Array Edge}{gd:Option (Nat×Bool)}
def evs(Γ:Nat→Option (List Value×TypeId))(L:Frame):List Operand→Option (List PV)
 |[]=>some []
 |o::l=>match AU Γ L o with
  |some x=>match evs Γ L l with
   |some r=>some (x::r)
   |none=>none
  |none=>none
theorem RX{Γ:Nat→Option (List Value×TypeId)}{m:Mem}{F:Nat→Prop}{σ:Nat→Value}{t:Tr Value}(d:Ctx Γ m F σ H nx)(e:RL m F (htag H) σ nx L t):∀{os:List Operand} {xs:List PV},evs Γ L os=some xs→Dv m F (htag H) σ nx xs (os.map (ev t))
 |[],_,h=>by cases h;exact .nil
 |o::os,xs,h=>by
  simp only[evs] at h;cases h1:AU Γ L o with
  |none=>grind
  |some x =>
   rw[h1] at h;cases h2:evs Γ L os with
   |none=>grind
   |some r=>rw[h2] at h;cases h;exact .cons (Bz d e h1) (RX d e h2)
theorem Dv.append{m:Mem}{F:Nat→Prop}{T:Nat→Option Tg}{σ:Nat→Value}{n:Nat}:∀{cs ds:List PV} {vs ws:List Value},Dv m F T σ n cs vs→Dv m F T σ n ds ws→Dv m F T σ n (cs++ds) (vs++ws)
 |_,_,_,_,.nil,h=>h
 |_,_,_,_,.cons h t,h'=>.cons h (Dv.append t h')
theorem b3o{ns:List Nat}{i b:Nat}(h:ns[i]?=some b):rho ns nx i=b:=by simp only[rho,h]
theorem a7k{ns:List Nat}{i:Nat}(h:ns.length≤i):rho ns nx i=nx+(i-ns.length):=by simp only[rho,List.getElem?_eq_none h]
theorem vS{fo:Operand}{args:Array Operand}{g:FuncId}{fs cs Bh ac:List PV}{ns:List Nat}{Hc:Heap}(hf:AU E.Γ L fo=some (.clo g fs cs))(ha:evs E.Γ L args.toList=some Bh)
 (Z:PE (fs++Bh++cs) (CV.rn (rho ns nx) ac)) (hu:CV.under ns.length ac) (zU:LK ns.length Hc) (hin:HIn (rho ns nx) H Hc) (hnd:ns.Nodup) (hlt:∀b∈ns,b<nx) (hw:w=false→Hc=[])
 {m:Mem} {F:Nat→Prop} {σ:Nat→Value} {t:Tr Value} (O:Ctx E.Γ m F σ H nx) (h2:RL m F (htag H) σ nx L t) :
 ∃(vf vc:List Value) (σc:Nat→Value),ev t fo=.func (.func g) vf.toArray vc.toArray∧Ctx E.Γ m F σc Hc ns.length∧Dv m F (htag Hc) σc ns.length ac (vf++args.toList.map (ev t)++vc) ∧
  ∀v m' r H' nx' F' σ',Ctx E.Γ m' F' σ' H' nx'→RP m' F' (htag H') σ' nx' r v→Step m F σc Hc ns.length m' F' σ' H' nx' →
   ∃C,Ctx E.Γ m' F' C (news ns.length (rho ns nx) H' (merge ns (rho ns nx) H' H)) (nx+(nx'-ns.length)) ∧
    RP m' F' (htag (news ns.length (rho ns nx) H' (merge ns (rho ns nx) H' H))) C (nx+(nx'-ns.length)) (r.rn (rho ns nx)) v ∧
    Step m F σ H nx m' F' C (news ns.length (rho ns nx) H' (merge ns (rho ns nx) H' H)) (nx+(nx'-ns.length))∧(w=false→Quiet m m'):=by
 generalize hρ:rho ns nx=ρ at *;generalize hk:ns.length=k at *;have JY:∀i,i<k→∃b,ns[i]?=some b∧ρ i=b∧b<nx:=fun i d=>by
  have:i<ns.length:=by omega
  refine⟨ns[i],ai this,?_,hlt _ (cV this)⟩;rw[← hρ];exact b3o (ai this)
 have M:∀i,k≤i→ρ i=nx+(i-k):=fun i d=>by rw[← hρ,← hk];exact a7k (by omega)
 have J:∀i,i<k→idx ns (ρ i)=some i:=fun i d=>by
  obtain⟨b,hb,e,_⟩:=JY i d;rw[e];exact b0f hnd hb
 have z:∀b i,idx ns b=some i→i<k∧b=ρ i:=fun b i d=>by
  have h0:=bH d;grind
 have hTc:∀b t,htag Hc b=some t→htag H (ρ b)=some t:=fun b t hb=>by
  unfold htag at hb ⊢;cases h0:hget Hc b with
  |none=>grind
  |some x =>
   rw[h0] at hb;obtain⟨y,q,Z⟩:=hin.get b x h0;rw[q,Option.map_some,Z.tag,HB.xR];grind
 have hun:∀b,b<k→(∀t,htag Hc b=some t→htag H (ρ b)=some t)∧σ (ρ b)=(fun i=>σ (ρ i)) b:=fun b _=>⟨hTc b,rfl⟩
 have Y:∀c,own Hc (fun i=>σ (ρ i)) c→∃i x y,i<k∧hget Hc i=some x∧hget H (ρ i)=some y∧Dp (σ (ρ i))=some c:=by
  rintro c ⟨i,x,d,hb⟩;obtain⟨y,q,_⟩:=hin.get i x d;exact⟨i,x,y,(zU.get i x d).1,d,q,hb⟩
 have u:∀c,own Hc (fun i=>σ (ρ i)) c→own H σ c:=fun c ho=>by
  obtain⟨i,_,y,_,_,q,hb⟩:=Y c ho;exact⟨ρ i,y,q,hb⟩
 have SC:Ctx E.Γ m F (fun i=>σ (ρ i)) Hc k:=by
  refine⟨O.fr,fun i x d=>?_,fun i i' x x' c d K hb hb'=>?_,O.gl⟩
  ·obtain⟨y,q,Z⟩:=hin.get i x d
   obtain⟨s,hux⟩:=zU.get i x d;exact⟨s,RB.Xk hun hux (RB.le Z (O.hp _ y q).2)⟩
  ·obtain⟨y,q,_⟩:=hin.get i x d
   obtain⟨y',hy',_⟩:=hin.get i' x' K;have e:=O.sep _ _ y y' c q hy' hb hb';have e1:=J i (zU.get i x d).1;have e2:=J i' (zU.get i' x' K).1;rw[e,e2] at e1;cases e1;rfl
 have hfv:=Bz O h2 hf;generalize hfe:ev t fo=fv at hfv;cases hfv with
 |clo r1 r2 =>
  rename_i vf vc;have hargs:Dv m F (htag Hc) (fun i=>σ (ρ i)) k ac (vf++args.toList.map (ev t)++vc):=Dv.Xk hun hu (Dv.le Z ((r1.append (RX O h2 ha)).append r2));refine⟨vf,vc,_,rfl,SC,hargs,?_⟩;intro v m' r H' nx' F' σ' c1 c2 N;have hkn:k≤nx':=N.Xd;have c0s:∀i,i<k→hget H (ρ i)=none→hget H' i=none:=fun i d hn=>by
   have h0:=(N.names i d).1;cases hh:hget H' i with
   |none=>rfl
   |some y =>
    have hty:htag H' i=some y.tag:=by simp[htag,hh]
    rw[hty] at h0;cases hc':htag Hc i with
    |none=>rw[hc'] at h0;exact h0.elim
    |some t =>
     have:=hTc i t hc';simp[htag,hn] at this
  have G:∀i j,ρ i=ρ j→k≤i→k≤j→i=j:=fun i j e d hj=>by
   rw[M i d,M j hj] at e;omega
  let C:Nat→Value:=fun b=>if b<nx then(match idx ns b with|some i=>σ' i|none=>σ b) else σ' (b-nx+k)
  have b8g:∀j,j<nx'→hget (news k ρ H' (merge ns ρ H' H)) (ρ j)=(hget H' j).map (HB.rn ρ):=fun j hj=>by
   rcases aq j k with hjk|hjk
   ·obtain⟨b,hb,e,hbn⟩:=JY j hjk
    rcases Lp (k:=k) (ρ:=ρ) (H:=merge ns ρ H' H) (H':=H') (b:=ρ j) G with⟨i,d,B,_⟩|⟨_,B⟩
    ·rw[M i d,e] at B;omega
    ·rw[B,KL (J j hjk)]
     cases hH:hget H (ρ j) with
     |none=>rw[c0s j hjk hH];rfl
     |some y=>rfl
   ·rcases Lp (k:=k) (ρ:=ρ) (H:=merge ns ρ H' H) (H':=H') (b:=ρ j) G with⟨i,d,B,_,e''⟩|⟨B,e''⟩
    ·rw[G i j B d hjk] at e'';exact e''
    ·have S:idx ns (ρ j)=none:=by
      cases d:idx ns (ρ j) with
      |none=>rfl
      |some i =>
       obtain⟨s,e3⟩:=z _ i d;obtain⟨b,_,e4,hbn⟩:=JY i s;rw[M j hjk] at e3;omega
     rw[e'',Gs S,O.a1e (by rw[M j hjk];omega),B j hjk rfl];rfl
  have hA:∀j,j<nx'→ρ j<nx+(nx'-k)∧htag (news k ρ H' (merge ns ρ H' H)) (ρ j)=htag H' j∧C (ρ j)=σ' j:=fun j hj=>by
   refine⟨?_,?_,?_⟩
   ·rcases aq j k with hjk|hjk
    ·obtain⟨b,_,e,hbn⟩:=JY j hjk;omega
    ·rw[M j hjk];omega
   ·unfold htag
    rw[b8g j hj];cases hget H' j with
    |none=>rfl
    |some y=>simp[HB.xR]
   ·show(if ρ j<nx then _ else _)=_
    rcases aq j k with hjk|hjk
    ·obtain⟨b,_,e,hbn⟩:=JY j hjk
     rw[if_pos (by omega),J j hjk]
    ·rw[M j hjk,if_neg (by omega)]
     congr 1;omega
  have hB:∀b,b<nx→idx ns b=none→hget (news k ρ H' (merge ns ρ H' H)) b=hget H b∧C b=σ b:=fun b hb d=>by
   refine⟨?_,?_⟩
   ·rcases Lp (k:=k) (ρ:=ρ) (H:=merge ns ρ H' H) (H':=H') (b:=b) G with⟨i,K,B,_⟩|⟨_,B⟩
    ·rw[M i K] at B;omega
    ·rw[B,Gs d]
   ·show(if b<nx then _ else _)=_
    rw[if_pos hb,d]
  have hC:∀b x,hget (news k ρ H' (merge ns ρ H' H)) b=some x→(∃j y,j<nx'∧b=ρ j∧hget H' j=some y∧x=y.rn ρ)∨(b<nx∧idx ns b=none∧hget H b=some x):=fun b x A=>by
   rcases aq b nx with hb|hb
   ·cases d:idx ns b with
    |none=>exact .inr ⟨hb,rfl,by rw[← (hB b hb d).1];exact A⟩
    |some i =>
     obtain⟨s,e⟩:=z b i d;rw[e,b8g i (by omega)] at A;simp only[Option.map_eq_some_iff] at A;obtain⟨y,q,B⟩:=A;exact .inl ⟨i,y,by omega,e,q,B.symm⟩
   ·rcases Lp (k:=k) (ρ:=ρ) (H:=merge ns ρ H' H) (H':=H') (b:=b) G with⟨i,d,B,e1,e2⟩|⟨_,B⟩
    ·rw[e2] at A
     simp only[Option.map_eq_some_iff] at A;obtain⟨y,q,B⟩:=A;exact .inl ⟨i,y,(c1.hp i y q).1,by rw[← ‹ρ i=b›],q,B.symm⟩
    ·have S:idx ns b=none:=by
      cases d:idx ns b with
      |none=>rfl
      |some i =>
       obtain⟨s,e3⟩:=z _ i d;obtain⟨b',_,e4,hbn⟩:=JY i s;omega
     rw[B,Gs S,O.a1e hb] at A;cases A
  have hD:Names nx (htag H) σ (htag (news k ρ H' (merge ns ρ H' H))) C:=fun b hb=>by
   cases d:idx ns b with
   |none =>
    obtain⟨e1,e2⟩:=hB b hb d;rw[e2];unfold htag;rw[e1];exact⟨Xq.refl _,fun _ _ _=>rfl⟩
   |some i =>
    obtain⟨s,e⟩:=z b i d;obtain⟨_,a2,a3⟩:=hA i (by omega);rw[e,a2,a3];obtain⟨n1,n2⟩:=N.names i s;cases ht':htag H' i with
    |none=>exact⟨trivial,fun _ _ e=>by cases e⟩
    |some t' =>
     rw[ht'] at n1 n2;cases htc:htag Hc i with
     |none=>rw[htc] at n1;exact n1.elim
     |some tc =>
      rw[htc] at n1 n2;rw[hTc i tc htc];exact⟨n1,fun t e1 e2=>n2 t e1 e2⟩
  have hfz:=N.frozen SC;have hblk:∀b x c,idx ns b=none→hget H b=some x→Dp (σ b)=some c→¬ own Hc (fun i=>σ (ρ i)) c:=fun b x c d hb hc ho=>by
   obtain⟨i,_,y,s,_,q,f⟩:=Y c ho;have e:=O.sep b (ρ i) x y c hb q hc f;rw[e,J i s] at d;cases d
  refine⟨C,⟨c1.fr,?_,?_,c1.gl⟩,RP.rn hA c2,⟨N.size,fun c hc ho=>N.keep c hc fun o=>ho (u c o),N.KP,fun c hc hf=>?_,?_,fe _ _,hD,fun j j1 j2 j3=>N.low j j1 j2 fun c ho=>j3 c (u c ho)⟩,?_⟩
  ·intro b x A
   rcases hC b x A with⟨j,y,hj,rfl,q,rfl⟩|⟨hb,d,X⟩
   ·obtain⟨a1,a2,a3⟩:=hA j hj
    rw[a3];exact⟨a1,RB.rn hA (c1.hp j y q).2⟩
   ·rw[(hB b hb d).2]
    refine⟨by omega,(O.hp b x X).2.mono hfz hD (fe _ _) N.size fun c hc=>?_⟩;have S:=hblk b x c d X hc;obtain⟨hnf,hcs⟩:=O.MB ⟨b,x,X,hc⟩;exact⟨N.keep c hcs S,fun hf=>(N.KO c hcs hf).elim hnf S⟩
  ·intro b b' x x' c A X f p
   rcases hC b x A with⟨j,y,hj,rfl,q,rfl⟩|⟨hb,d,V⟩<;>rcases hC b' x' X with⟨j',y',hj',rfl,hy',rfl⟩|⟨hb',K,U⟩
   ·rw[(hA j hj).2.2] at f
    rw[(hA j' hj').2.2] at p;rw[c1.sep j j' y y' c q hy' f p]
   ·rw[(hA j hj).2.2] at f
    rw[(hB b' hb' K).2] at p;exact absurd (N.JF c (O.MB ⟨b',x',U,p⟩).2 ⟨j,y,q,f⟩) (hblk b' x' c K U p)
   ·rw[(hA j' hj').2.2] at p
    rw[(hB b hb d).2] at f;exact absurd (N.JF c (O.MB ⟨b,x,V,f⟩).2 ⟨j',y',hy',p⟩) (hblk b x c d V f)
   ·rw[(hB b hb d).2] at f
    rw[(hB b' hb' K).2] at p;exact O.sep b b' x x' c V U f p
  ·rcases N.KO c hc hf with h|h
   ·exact .inl h
   ·exact .inr (u c h)
  ·rintro c hc ⟨b,x,A,f⟩
   rcases hC b x A with⟨j,y,hj,rfl,q,rfl⟩|⟨hb,d,V⟩
   ·rw[(hA j hj).2.2] at f
    exact u c (N.JF c hc ⟨j,y,q,f⟩)
   ·rw[(hB b hb d).2] at f
    exact⟨b,x,V,f⟩
  ·intro hwf j j1 j2
   refine N.low j j1 j2 fun c ho=>?_
   obtain⟨i,x,_,_,A,_⟩:=Y c ho;rw[hw hwf] at A;cases A
theorem Aa.ZJ{s:Operand}{args:Array Operand}{S:Array TypeId}{g:FuncId}{q cs Bh ac:List PV}{ns:List Nat}{Hc:Heap}{u:PV→Heap→Nat→Prop}(J:AU E.Γ L s=some (.clo g q cs))(M:evs E.Γ L args.toList=some Bh)
 (j:PE (q++Bh++cs) (CV.rn (rho ns nx) ac)) (G:CV.under ns.length ac) (z:LK ns.length Hc) (hin:HIn (rho ns nx) H Hc) (e:ns.Nodup) (h:∀b∈ns,b<nx) (C:w=false→Hc=[]) (K:AL E g ac Hc ns.length u)
 (V:∀r H' nx',u r H' nx'→Q (r.rn (rho ns nx)) (news ns.length (rho ns nx) H' (merge ns (rho ns nx) H' H)) (nx+(nx'-ns.length))) :
 Aa E w ⟨dst,.call { callee:=.value s,args:=args,argTypes:=S },ty,pos,af,gd⟩ L H nx Q:=by
 intro m F σ t O N;obtain⟨A,B,y,o,U,d,p⟩:=vS (w:=w) J M j G z hin e h C O N;refine Gy.call (f:=g) (Bh:=A++args.toList.map (ev t)++B) (fun call=>by simp only[BO,o]) ((K m F _ _ U d).mono ?_);grind
end
section
open Go.Am
variable {E:Env}{L:Frame}{H:Heap}{nx:Nat}{Q:PV→Heap→Nat→Prop}{w:Bool}
variable {dst:Option Tmp}{ty:TypeId}{pos:String}{af:Array Edge}{gd:Option (Nat×Bool)}
def Ak(E:Env)(g:FuncId)(xs:List FV)(r:PV):Prop:=AL E g (xs.map .p) [] 0 fun r' H' nx'=>r'=r∧H'=[]∧nx'=0
def Bd(E:Env)(g:FuncId)(xs:List FV)(e:TypeId)(cs:List FV)(n:Nat)(z:Bool):Prop :=
 AL E g (xs.map .p) [] 0 fun r' H' nx'=>r'=.vec 0 n 0 n∧H'=[(0,.vec e cs n z)]∧nx'=1
theorem CV.ni(ρ:Nat→Nat):∀xs:List FV,CV.rn ρ (xs.map .p)=xs.map .p
 |[]=>rfl
 |x::xs=>by simp only[List.map_cons,CV.rn,PV.rn,CV.ni ρ xs]
theorem RZ(ρ:Nat→Nat)(H':Heap):∀H:Heap,merge [] ρ H' H=H
 |[]=>rfl
 |(b,x)::H=>by simp only[merge,idx,RZ ρ H' H]
theorem Aa.a2l{e:Operand}{args:Array Operand}{s:Array TypeId}{g:FuncId}{Bh:List PV}{xs:List FV}{f:PV→Heap→Nat→Prop}(h:AU E.Γ L e=some (.clo g [] []))(o:evs E.Γ L args.toList=some Bh)
 (d:PE Bh (xs.map .p)) (j:AL E g (xs.map .p) [] 0 f) (u:∀r H' nx',f r H' nx'→Q (r.rn (rho [] nx)) (news 0 (rho [] nx) H' H) (nx+nx')) :
 Aa E w ⟨dst,.call { callee:=.value e,args:=args,argTypes:=s },ty,pos,af,gd⟩ L H nx Q :=
 Aa.ZJ (ns:=[]) (Hc:=[]) h o (ac:=xs.map .p) (by simpa[CV.ni] using d) (CV.Bg _ _) trivial trivial co (by simp) (fun _=>rfl) j
  (fun r H' nx' q=>by rw[RZ];grind)
theorem Aa.c3l{e:Operand}{args:Array Operand}{s:Array TypeId}{g:FuncId}{Bh:List PV}{xs:List FV}{r:PV}(h:AU E.Γ L e=some (.clo g [] []))(o:evs E.Γ L args.toList=some Bh)
 (d:PE Bh (xs.map .p)) (j:Ak E g xs r) (f:∀ρ,r.rn ρ=r) (q:Q r H nx):Aa E w ⟨dst,.call { callee:=.value e,args:=args,argTypes:=s },ty,pos,af,gd⟩ L H nx Q :=
 Aa.a2l h o d j fun r' H' nx' ⟨h1,h2,h3⟩=>by subst h1;subst h2;subst h3;rw[f];exact q
theorem Aa.c6j{f:Operand}{args:Array Operand}{r:Array TypeId}{g:FuncId}{Bh:List PV}{xs cs:List FV}{e:TypeId}{n:Nat}{z:Bool}(h:AU E.Γ L f=some (.clo g [] []))(o:evs E.Γ L args.toList=some Bh)
 (d:PE Bh (xs.map .p)) (j:Bd E g xs e cs n z) (q:Q (.vec nx n 0 n) ((nx,.vec e cs n z)::H) (nx+1)):Aa E w ⟨dst,.call { callee:=.value f,args:=args,argTypes:=r },ty,pos,af,gd⟩ L H nx Q :=
 Aa.a2l h o d j fun r' H' nx' ⟨h1,h2,h3⟩=>by
  subst h1;subst h2;subst h3;assumption
def Aq(E:Env)(L:Frame)(H:Heap)(nx:Nat)(L':Frame)(H':Heap)(nx':Nat):Prop :=
 ∀(B:Base) m F σ t,Ctx E.Γ m F σ H nx→RL m F (htag H) σ nx L t→B.to m F σ H nx→∃F' σ',Ctx E.Γ m F' σ' H' nx'∧RL m F' (htag H') σ' nx' L' t∧B.to m F' σ' H' nx'
section
variable {bn:Nat}{ops:Array Oper}{l:List Oper}{i:Nat}{R:Frame→Heap→Nat→Prop}{L':Frame}{H':Heap}{nx':Nat}
theorem Ad.ghost{c:Code}{Q:BH→Frame→Heap→Nat→Prop}(g:Aq E L H nx L' H' nx')(h:Ad E bn c L' H' nx' Q):Ad E bn c L H nx Q:=fun B d m F σ t j f e=>by
 obtain⟨r,σ',q,p,o⟩:=g B m F σ t j f e;exact h B d m r σ' t q p o
theorem Aj.ghost(g:Aq E L H nx L' H' nx')(h:Aj E bn ops l L' H' nx' R):Aj E bn ops l L H nx R:=fun B d m F σ t j f e=>by
 obtain⟨r,σ',q,p,o⟩:=g B m F σ t j f e;exact h B d m r σ' t q p o
theorem Ag.ghost(g:Aq E L H nx L' H' nx')(h:Ag E bn ops i l L' H' nx' R):Ag E bn ops i l L H nx R:=fun B d m F σ t j f e=>by
 obtain⟨r,σ',q,p,o⟩:=g B m F σ t j f e;exact h B d m r σ' t q p o
theorem Aq.trans{e:Frame}{f:Heap}{d:Nat}(g:Aq E L H nx L' H' nx')(p:Aq E L' H' nx' e f d):Aq E L H nx e f d:=fun B m F σ t o j h=>by
 obtain⟨u,σ',s,r,q⟩:=g B m F σ t o j h;exact p B m u σ' t s r q
end
theorem U0{Γ:Nat→Option (List Value×TypeId)}{m:Mem}{F:Nat→Prop}{σ:Nat→Value}(e:TypeId)(h:Ctx Γ m F σ H nx) :
 Ctx Γ m F (upd σ nx Df) ((nx,.vec e [] 0 true)::H) (nx+1)∧Step m F σ H nx m F (upd σ nx Df) ((nx,.vec e [] 0 true)::H) (nx+1):=by
 have:=h.new (m':=m) (x:=.vec e [] 0 true) (s:=Df) (ab _) (fun _ _=>rfl) (cd _ _) (fun c d=>by contradiction) (.inl ⟨rfl,rfl,.inl ⟨rfl,rfl⟩⟩);grind
theorem mO{m:Mem}{F:Nat→Prop}{σ:Nat→Value}(e:TypeId)(H:Heap)(nx:Nat):RP m F (htag ((nx,.vec e [] 0 true)::H)) (upd σ nx Df) (nx+1) (.vec nx 0 0 0) Df:=by
 refine .vec (bL _) rfl fun n d=>?_
 rw[JK,if_pos rfl] at d;simp only[HB.tag,Option.some.injEq,Tg.vec.injEq] at d;subst d;refine⟨ab _,fun _=>?_⟩;rw[upd_same];exact⟨rfl,rfl,rfl⟩
theorem Aq.adopt(d:Nat)(e:TypeId)(r:Fv L d=some (.p (.val (.slice none 0 0)))):Aq E L H nx ((d,.vec nx 0 0 0)::L) ((nx,.vec e [] 0 true)::H) (nx+1):=fun B m F σ t o j s=>by
 obtain⟨y,q⟩:=U0 e o;refine⟨F,_,y,fun i v f=>?_,s.trans q⟩;rw[Ed] at f;by_cases g:d=i
 ·rw[if_pos g] at f;cases f
  have:=j d _ r;subst g;generalize Cm t d=u at this;cases this with|p h=>cases h;exact mO e H nx
 ·rw[if_neg g] at f
  exact(j i v f).step q o
def hdel:Heap→Nat→Heap
 |[],_=>[]
 |(a,x)::H,b=>match Nat.decEq a b with
  | .isTrue _=>hdel H b
  | .isFalse _=>(a,x)::hdel H b
theorem IX(H:Heap)(b c:Nat):hget (hdel H b) c=if b=c then none else hget H c:=by
 induction H with
 |nil=>simp[hdel,hget]
 |cons a H d =>
  obtain⟨a,x⟩:=a;simp only[hdel];cases hd:Nat.decEq a b with
  |isTrue h =>
   subst h;simp only[Bv,d];by_cases e:a=c<;>simp[e]
  |isFalse h =>
   simp only[Bv,d];grind
theorem Xf(H:Heap)(b c:Nat):htag (hdel H b) c=if b=c then none else htag H c:=by
 unfold htag;rw[IX];split<;>rfl
theorem Rj{Γ:Nat→Option (List Value×TypeId)}{m:Mem}{F:Nat→Prop}{σ:Nat→Value}{b:Nat}{e:TypeId}{cs:List FV}{n:Nat}{z:Bool}(h:Ctx Γ m F σ H nx)(B:hget H b=some (.vec e cs n z)) :
 Ctx Γ m (fun c=>F c∨Dp (σ b)=some c) σ (hdel H b) nx∧Step m F σ H nx m (fun c=>F c∨Dp (σ b)=some c) σ (hdel H b) nx ∧
 (∀v,FU (σ b) 0 n v→RF m (fun c=>F c∨Dp (σ b)=some c) (.lst e cs n) v):=by
 have o:∀c,Dp (σ b)=some c→own H σ c:=fun c hc=>⟨b,_,B,hc⟩
 have r:∀c,F c→(F c∨Dp (σ b)=some c)∧m.get c=m.get c:=fun c hc=>⟨.inl hc,rfl⟩
 have M:Names nx (htag H) σ (htag (hdel H b)) σ:=fun d _=>by
  rw[Xf];split
  ·exact⟨trivial,fun _ _ _=>rfl⟩
  ·exact⟨Xq.refl _,fun _ _ _=>rfl⟩
 have f:∀d x,hget (hdel H b) d=some x→d≠b∧hget H d=some x:=fun d x j=>by
  rw[IX] at j;grind
 refine⟨⟨?_,?_,?_,?_⟩,⟨ab _,fun _ _ _=>rfl,fun _ h=>.inl h,fun c _ hc=>hc.imp id (o c),?_,ab _,M,fun _ h _ _=>h⟩,?_⟩
 ·rintro c (hc|hc)
  ·exact h.fr c hc
  ·exact(h.MB (o c hc)).2
 ·intro d x j
  obtain⟨u,j⟩:=f d x j;obtain⟨O,N⟩:=h.hp d x j;refine⟨O,N.mono r M (ab _) (ab _) fun c hc=>⟨rfl,?_⟩⟩;rintro(hf|hf)
  ·exact(h.MB ⟨d,x,j,hc⟩).1 hf
  ·exact u (h.sep d b x _ c j B hc hf)
 ·intro d S x G c j y hc A
  exact h.sep d S x G c (f d x j).2 (f S G y).2 hc A
 ·intro g C Z Y
  obtain⟨O,N⟩:=h.gl g C Z Y;grind
 ·rintro c _ ⟨d,x,j,hc⟩
  exact⟨d,x,(f d x j).2,hc⟩
 ·intro v p
  obtain⟨_,X⟩:=h.hp b _ B;rcases X with⟨s,K,q⟩|⟨c,g,vs,s,K,q,V,J,U,r7⟩
  ·subst s;subst K
   rcases q with⟨q,_⟩|⟨b',o',g',q,_⟩
   ·rw[q] at p;obtain⟨rfl,_,_⟩:=p;exact .nil _
   ·rw[q] at p;simp only[FU] at p;rw[p.1];exact .room _ _ _ _
  ·rw[s] at p
   subst p;refine .lst (.inr (by rw[s];rfl)) V ?_ (J.mono r) U;rw[cw,J.length];simp[takeN]
theorem Aq.freeze(d:Nat){b n:Nat}{e:TypeId}{cs:List FV}{z:Bool}(s:Fv L d=some (.vec b n 0 n))(j:hget H b=some (.vec e cs n z)):Aq E L H nx ((d,.p (.lst e cs n))::L) (hdel H b) nx:=fun B m F σ t q o y=>by
 obtain⟨C,r,A⟩:=Rj q j;refine⟨_,σ,C,fun i v f=>?_,y.trans r⟩;rw[Ed] at f;by_cases g:d=i
 ·rw[if_pos g] at f;cases f
  have:=o d _ s;subst g;cases this with
  |vec u G h=>exact .p (A _ ((h n (by simp[htag,j,HB.tag])).2 rfl))
 ·rw[if_neg g] at f
  exact(o i v f).step r q
theorem Aq.Dx(a k:Nat){b n:Nat}{e e':TypeId}{cs:List FV}{ds:List PV}{z:Bool}(ha:hget H a=some (.box e' ds))(hk:ds[k]?=some (.vec b n 0 n))(M:hget H b=some (.vec e cs n z)) :
 Aq E L H nx L (hput (hdel H b) a (.box e' (ds.set k (.p (.lst e cs n))))) nx:=fun B m F σ t s h2 h3=>by
 obtain⟨A,O,c3⟩:=Rj s M;have r:b≠a:=fun e=>by grind
 have g:hget (hdel H b) a=some (.box e' ds):=by rw[IX,if_neg r];omega
 obtain⟨_,c,j,J,r2,Y,G,X,r6⟩:=A.hp a _ g;obtain⟨_,c',S,s1,s2,s3,C,V,U⟩:=s.hp a _ ha;rw[s1] at J;cases J;rw[C] at G;cases G;obtain⟨u,Z,q⟩:=V.get hk;have f:RP m (fun c=>F c∨Dp (σ b)=some c) (htag (hdel H b)) σ nx (.p (.lst e cs n)) u:=by
  cases q with
  |vec hb' K h=>exact .p (c3 _ ((h n (by simp[htag,M,HB.tag])).2 rfl))
 obtain⟨N,y⟩:=A.change (m':=m) (b0:=a) (x':=.box e' (ds.set k (.p (.lst e cs n)))) (s':=σ a) g trivial (fun _=>rfl) (ab _) (fun _ _ _=>rfl) (fun _ h _ _=>h) (fun c K=>.inl K) (by
  refine⟨_,j,s1,s2,Y,C,?_,U⟩;have:j=j.set k u:=by
   apply bj;grind
  rw[this];exact(X.set k f).mono (fun d hd=>⟨hd,rfl⟩) (EJ (x':=.box e' (ds.set k (.p (.lst e cs n)))) g trivial fun _=>rfl) (ab _))
 have o:upd σ a (σ a)=σ:=by funext x;simp only[upd];split<;>simp_all
 rw[o] at N y;exact⟨_,σ,N,(h2.step O s).step y A,(h3.trans O).trans y⟩
theorem Aq.Fg(a k:Nat)(e:TypeId){e':TypeId}{ds:List PV}(U:hget H a=some (.box e' ds))(N:ds[k]?=some (.p (.val (.slice none 0 0)))) :
 Aq E L H nx L (hput ((nx,.vec e [] 0 true)::H) a (.box e' (ds.set k (.vec nx 0 0 0)))) (nx+1):=fun B m F σ t o X V=>by
 obtain⟨q,y⟩:=U0 e o;have M:=(o.hp a _ U).1;have f:hget ((nx,HB.vec e [] 0 true)::H) a=some (.box e' ds):=by rw[Bv,if_neg (by omega)];omega
 obtain⟨_,c,g,J,G,C,A,r,z⟩:=q.hp a _ f;obtain⟨u,K,j⟩:=r.get N;have Z:u=Df:=by cases j with|p h=>cases h;rfl
 obtain⟨Y,s⟩:=q.change (m':=m) (b0:=a) (x':=.box e' (ds.set k (.vec nx 0 0 0))) (s':=upd σ nx Df a) f trivial (fun _=>rfl) (ab _) (fun _ _ _=>rfl) (fun _ h _ _=>h) (fun c S=>.inl S) (by
  refine⟨c,g,J,G,C,A,?_,z⟩;have:g=g.set k Df:=by
   apply bj;grind
  rw[this];exact(r.set k (mO e H nx)).mono (fun d O=>⟨O,rfl⟩) (EJ (x':=.box e' (ds.set k (.vec nx 0 0 0))) f trivial fun _=>rfl) (ab _))
 exact⟨_,_,Y,(X.step y o).step s q,(V.trans y).trans s⟩
end
section
open Go.Am
variable {E:Env}{L:Frame}{H:Heap}{nx:Nat}{Q:PV→Heap→Nat→Prop}{w:Bool}
variable {dst:Option Tmp}{ty:TypeId}{pos:String}{af:Array Edge}{gd:Option (Nat×Bool)}
def evp(Γ:Nat→Option (List Value×TypeId))(L:Frame):List (Nat×Operand)→Option (List (Nat×PV))
 |[]=>some []
 |(i,o)::l=>match AU Γ L o with
  |some x=>match evp Γ L l with
   |some r=>some ((i,x)::r)
   |none=>none
  |none=>none
def b8i:PV→Bool
 | .D5 _=>true
 |_=>false
def Tj(place:Nat→Option (Nat×Nat))(cs:List PV):List (Nat×PV)→Option (List PV)
 |[]=>some cs
 |(i,v)::rest=>match b8i v with
  |true=>none
  |false=>match place i with
   |none=>none
   |some (off,size)=>if(Jt v).length=size∧off+size≤cs.length then Tj place (Dh cs off (Jt v)) rest else none
theorem O6(off:Nat):∀(l:List Value) (k:Nat) (cs:Array Value),((l.zipIdx k).foldl (fun cs (c,j)=>cs.setIfInBounds (off+j) c) cs).toList=splice cs.toList (off+k) l
 |[],_,_=>rfl
 |a::l,k,cs=>by
  simp only[List.zipIdx_cons,List.foldl_cons];rw[O6 off l (k+1)];simp only[splice,Array.toList_setIfInBounds];congr 1
theorem Qo{α:Type}(l:List α):∀(cs:List α) (o:Nat),(Dh cs o l).length=cs.length:=by
 induction l with
 |nil=>intro cs o;rfl
 |cons a l d=>intro cs o;simp only[Dh,d,List.length_set]
section
variable {m:Mem}{F:Nat→Prop}{T:Nat→Option Tg}{σ:Nat→Value}{n:Nat}
inductive RPp(m:Mem)(F:Nat→Prop)(T:Nat→Option Tg)(σ:Nat→Value)(n:Nat):List (Nat×PV)→List (Nat×Value)→Prop
 |nil:RPp m F T σ n [] []
 |cons {i:Nat} {x:PV} {v:Value} {l:List (Nat×PV)} {r:List (Nat×Value)} (h:RP m F T σ n x v) (t:RPp m F T σ n l r):RPp m F T σ n ((i,x)::l) ((i,v)::r)
theorem Ry(d:Nat→Option (Nat×Nat)):∀{ps:List (Nat×PV)} {ps':List (Nat×Value)} {cs out:List PV} {cs':Array Value},RPp m F T σ n ps ps'→Dv m F T σ n cs cs'.toList→cs'.toList.all BK=true →
 Tj d cs ps=some out→∃e,Instr.fill d cs' ps'=some e∧Dv m F T σ n out e.toList∧e.toList.all BK=true
 |[],_,cs,out,cs',.nil,hc,ha,h=>by
  simp only[Tj,Option.some.injEq] at h;subst h;exact⟨cs',rfl,hc,ha⟩
 |(i,x)::ps,_,cs,out,cs',.cons (v:=v) hx ht,hc,ha,h=>by
  simp only[Tj] at h;have j:Uh x∧b8i x=false:=by cases x<;>first|exact⟨trivial,rfl⟩|contradiction
  rw[j.2] at h;obtain⟨p,s⟩:=LW j.1 hx;simp only[Instr.fill];cases hp:d i with
  |none=>grind
  |some q =>
   obtain⟨f,g⟩:=q;rw[hp] at h;simp only at h ⊢;split at h
   ·rename_i o
    obtain⟨o,r⟩:=o;have y:=p.length;have u:=hc.length;rw[if_neg (by grind)];refine Ry d ht ?_ ?_ h
    ·rw[← cv,ee,O6,dq]
     exact Dv.splice f hc p
    ·rw[← cv,ee,O6,dq]
     exact J4 _ ha s
   grind
end
theorem Zu{Γ:Nat→Option (List Value×TypeId)}{m:Mem}{F:Nat→Prop}{σ:Nat→Value}{t:Tr Value}(d:Ctx Γ m F σ H nx)(e:RL m F (htag H) σ nx L t):∀{ps:List (Nat×Operand)} {xs:List (Nat×PV)},evp Γ L ps=some xs→RPp m F (htag H) σ nx xs (ps.map fun(i,x)=>(i,ev t x))
 |[],_,h=>by cases h;exact .nil
 |(i,o)::os,xs,h=>by
  simp only[evp] at h;cases h1:AU Γ L o with
  |none=>grind
  |some x =>
   rw[h1] at h;cases h2:evp Γ L os with
   |none=>grind
   |some r=>rw[h2] at h;cases h;exact .cons (Bz d e h1) (Zu d e h2)
theorem pF{P:Program}{t:TypeId}{z:List Value}{g:Array Field}{d:Array (Nat×Nat)}{ps:Array (Nat×Value)}{h:Array Value}(q:Cb P t=some z)(r:P.underlying t=some (.struct g))
 (o:Dz P (Array.mapM (fun f=>do pure (f.offset,← sizeOf f.type)) g)=some d) (s:Instr.fill (fun x=>d[x]?) z.toArray ps.toList=some h):Dz P (Instr.build t ps)=some (.agg h):=by
 obtain⟨i,p,A,y,u,B⟩:=BI q;unfold Instr.build;simp only[Ar];have j:Dz P (zeroValue t)=some p:=by
  simp only[zeroValue,Ar,Lc,A,Option.bind_some,y];rfl
 rw[j];simp only[Option.bind_some,AX,r];simp only[Ar,o,Option.bind_some];have e:p.cells=z.toArray:=by rw[u]
 rw[e,s];rfl
def Si(P:Program):List Field→Option (List (Nat×Nat))
 |[]=>some []
 |f::l=>match P.info? f.type with
  |some i=>match Si P l with
   |some r=>some ((f.offset,i.size)::r)
   |none=>none
  |none=>none
theorem YE{P:Program}:∀(l:List Field),Dz P (l.mapM fun f=>(do pure (f.offset,← sizeOf f.type):Sem (Nat×Nat)))=Si P l
 |[]=>rfl
 |f::l=>by
  rw[List.mapM_cons];simp only[Ar,Gf,Si,YE l];cases P.info? f.type with
  |none=>rfl
  |some i =>
   cases Si P l<;>rfl
theorem yS{P:Program}{d:Array Field}{pl:List (Nat×Nat)}(h:Si P d.toList=some pl):Dz P (Array.mapM (fun f=>(do pure (f.offset,← sizeOf f.type):Sem (Nat×Nat))) d)=some pl.toArray:=by
 rw[gj,map_eq_pure_bind,Ar,YE,h];rfl
theorem Aa.build{t:TypeId}{ps:Array (Nat×Operand)}{z:List Value}{e:Array Field}{d:List (Nat×Nat)}{f:List (Nat×PV)}{h:List PV}(o:Cb E.P t=some z)(u:E.P.underlying t=some (.struct e))
 (r:Si E.P e.toList=some d) (y:evp E.Γ L ps.toList=some f) (A:Tj (fun x=>d[x]?) (z.map fun v=>.p (Ij v)) f=some h) (q:Q (uq h) H nx) :
 Aa E w ⟨dst,.build t ps,ty,pos,af,gd⟩ L H nx Q :=
 Aa.quiet q fun m F σ s C B=>by
  obtain⟨_,_,_,_,_,j⟩:=BI o;obtain⟨g,M,K,J⟩:=Ry (fun x=>d[x]?) (Zu C B y) (cs':=z.toArray) (Dv.zero j) (Dl j) A;have G:=pF (ps:=ps.map fun(i,x)=>(i,ev s x)) o u (yS r) (by simpa using M);refine⟨.agg g,fun _=>?_,Xn K J⟩;simp only[BO,FI,o,G,Option.map_some]
theorem SA{Γ:Nat→Option (List Value×TypeId)}{m:Mem}{F:Nat→Prop}{σ:Nat→Value}{e:TypeId}{cs:List FV}{vs:List Value}(n:Nat)(h:Ctx Γ m F σ H nx)(j:Dt m F cs vs)(f:vs.all BK=true) :
 Ctx Γ (m.alloc (.cells vs e 0 false)) F (upd σ nx (.slice (some ⟨m.size,0,none⟩) n 0)) ((nx,.vec e cs n false)::H) (nx+1) ∧
 Step m F σ H nx (m.alloc (.cells vs e 0 false)) F (upd σ nx (.slice (some ⟨m.size,0,none⟩) n 0)) ((nx,.vec e cs n false)::H) (nx+1)∧Quiet m (m.alloc (.cells vs e 0 false)) ∧
 RP (m.alloc (.cells vs e 0 false)) F (htag ((nx,.vec e cs n false)::H)) (upd σ nx (.slice (some ⟨m.size,0,none⟩) n 0)) (nx+1) (.vec nx n 0 n) (.slice (some ⟨m.size,0,none⟩) n 0):=by
 obtain⟨q,p,o⟩:=h.new (m':=m.alloc (.cells vs e 0 false)) (x:=.vec e cs n false) (s:=.slice (some ⟨m.size,0,none⟩) n 0) (by simp[Mem.alloc]) (fun c f=>by rw[Mem.Bj,if_neg (by omega)]) (by simp only[Mem.alloc];omega)
  (fun c f=>by simp only[Dp,Option.some.injEq] at f;omega) (.inr ⟨m.size,0,vs,rfl,by simp[Mem.alloc],fun d=>cr _ (h.fr _ d),by rw[Mem.Bj,if_pos rfl],
   j.mono (fun c d=>⟨d,by rw[Mem.Bj,if_neg (by have:=h.fr c d;omega)]⟩),f,fun _=>rfl⟩)
 refine⟨q,p,o,.vec (bL _) rfl fun k g=>?_⟩;rw[JK,if_pos rfl] at g;simp only[HB.tag,Option.some.injEq,Tg.vec.injEq] at g;refine⟨by omega,fun _=>?_⟩;rw[upd_same];rfl
theorem kG(d:Nat→Option (Nat×Nat)):∀(ps:List (Nat×PV)) {cs out:List PV},Tj d cs ps=some out→out.length=cs.length
 |[],cs,out,h=>by
  simp only[Tj,Option.some.injEq] at h;rw[h]
 |(i,v)::rest,cs,out,h=>by
  simp only[Tj] at h
  repeat' split at h
  all_goals first|(cases h)|(have:=kG d rest h;rw[this,Qo])
theorem b6c{Γ:Nat→Option (List Value×TypeId)}{m:Mem}{F:Nat→Prop}{σ:Nat→Value}(e:TypeId)(h:Ctx Γ m F σ H nx) :
 Ctx Γ m F (upd σ nx (.slice emptyAt 0 0)) ((nx,.vec e [] 0 false)::H) (nx+1)∧Step m F σ H nx m F (upd σ nx (.slice emptyAt 0 0)) ((nx,.vec e [] 0 false)::H) (nx+1)∧Quiet m m:=by
 exact h.new (m':=m) (x:=.vec e [] 0 false) (s:=.slice emptyAt 0 0) (ab _) (fun _ _=>rfl) (cd _ _) (fun c d=>by contradiction) (.inl ⟨rfl,rfl,.inr ⟨0,0,0,rfl,rfl⟩⟩)
theorem a8z{m:Mem}{F:Nat→Prop}{σ:Nat→Value}(e:TypeId)(H:Heap)(nx:Nat):RP m F (htag ((nx,.vec e [] 0 false)::H)) (upd σ nx (.slice emptyAt 0 0)) (nx+1) (.vec nx 0 0 0) (.slice emptyAt 0 0):=by
 refine .vec (bL _) rfl fun n d=>?_
 rw[JK,if_pos rfl] at d;simp only[HB.tag,Option.some.injEq,Tg.vec.injEq] at d;subst d;refine⟨ab _,fun _=>?_⟩;rw[upd_same];exact⟨rfl,rfl,rfl⟩
theorem Aa.buildSlice{t e:TypeId}{len:Nat}{ps:Array (Nat×Operand)}{z:List Value}{i:TypeInfo}{d:List (Nat×PV)}{f:List PV}{r:List FV}(K:E.P.underlying t=some (.slice e))(N:E.P.info? e=some i)
 (s:Cb E.P e=some z) (M:len*i.size≤2^24∧z.length=i.size∧0<i.size) (X:evp E.Γ L ps.toList=some d) (O:Tj (fun j=>some (j*i.size,i.size)) ((AB z len).map fun v=>.p (Ij v)) d=some f)
 (S:b2t f=some r) (q:Q (.vec nx len 0 len) ((nx,.vec e r len false)::H) (nx+1)):Aa E w ⟨dst,.buildSlice t len ps,ty,pos,af,gd⟩ L H nx Q:=by
 intro m F σ V A Z;obtain⟨_,_,_,_,_,u⟩:=BI s;have h:=JJ u len;obtain⟨g,e1,e2,B⟩:=Ry (fun j=>some (j*i.size,i.size)) (Zu A Z X) (cs':=(AB z len).toArray) (Dv.zero h) (Dl h) O;have o:Instr.fill (fun j=>some (j*i.size,i.size)) (AB z len).toArray (ps.map fun(i,x)=>(i,ev V x)).toList=some g:=by simp_all
 by_cases U:len=0
 ·subst U
  have Y:f=[]:=av.1 (by rw[kG _ _ O];rfl);subst Y;have y:r=[]:=by
   have:some ([]:List FV)=some r:=S;grind
  subst y;obtain⟨J,G,C⟩:=b6c e A;refine Gy.op (v:=.slice emptyAt 0 0) (fun _=>?_) ⟨_,_,_,F,_,q,J,a8z e H nx,G,fun _=>C⟩;simp only[BO,FI,K,N,s,M,and_self,if_true,o,B]
 obtain⟨J,G,C,c4⟩:=SA (e:=e) len A (Z8 S e2) B;refine Gy.op (v:=.slice (some ⟨m.size,0,none⟩) len 0) (fun _=>?_) ⟨_,_,_,F,_,q,J,c4,G,fun _=>C⟩;simp only[BO,FI,K,N,s,M,and_self,if_true,o,B,AQ,U,if_false]
theorem Aa.makeSlice{t e:TypeId}{l c:Operand}{k1 o:IntKind}{n:Nat}{z:List Value}{i:TypeInfo}(r:E.P.underlying t=some (.slice e))(y:E.P.info? e=some i)(h:Cb E.P e=some z)(u:AU E.Γ L l=some (.p (.int k1 n)))(A:AU E.Γ L c=some (.p (.int o n)))
 (N:n*(i.bytes+1)≤room∧n≤2^40) (s:z.length=i.size∧0<i.size) (q:Q (.vec nx n 0 n) ((nx,.vec e ((AB z n).map Ij) n false)::H) (nx+1)):Aa E w ⟨dst,.makeSlice t l c,ty,pos,af,gd⟩ L H nx Q:=by
 intro m F σ M g j;obtain⟨_,_,_,_,_,f⟩:=BI h;have d:=JJ f n;obtain⟨K,J,G,C⟩:=SA (e:=e) n g (IQ (F:=F) d) (Dl d);refine Gy.op (v:=.slice (some ⟨m.size,0,none⟩) n 0) (fun _=>?_) ⟨_,_,_,F,_,q,K,C,J,fun _=>G⟩;have B:(0:Int)≤(n:Int)∧(n:Int)≤(n:Int)∧(n:Int).toNat*(i.bytes+1)≤room∧(n:Int)≤2^40∧z.length=i.size∧0<i.size:=⟨by omega,by omega,by grind,by omega,s⟩
 simp only[BO,FI,r,CQ g j u,CQ g j A,y,h];rw[if_pos B];rfl
def qU(Γ:Nat→Option (List Value×TypeId))(L:Frame)(H:Heap)(nx:Nat)(x:Operand)(sz:Nat)(xs:List FV)(k:Nat):Prop :=
 ∀m F σ t,Ctx Γ m F σ H nx→RL m F (htag H) σ nx L t→lenOf (ev t x)=some k∧∃l,BM m sz k (ev t x)=some l∧Dt m F xs l∧l.all BK=true
theorem qU.lst{Γ:Nat→Option (List Value×TypeId)}{x:Operand}{e:TypeId}{sz k:Nat}{xs:List FV}(h:AU Γ L x=some (.p (.lst e xs k)))(z:xs.length=k*sz):qU Γ L H nx x sz xs k:=fun m F σ t s r=>by
 have:=Bz s r h;generalize ev t x=v at this;cases this with
 |p h =>
  cases h with
  |nil=>exact⟨rfl,[],rfl,.nil,rfl⟩
  |room=>exact⟨rfl,[],rfl,.nil,rfl⟩
  |lst A j y f q =>
   rename_i b o g u d ro;refine⟨rfl,d,?_,f,q⟩;simp only[BM,Nat.le_refl,if_true,Mem.EC,j];simp only[NK,Option.getD_some,if_true];grind
theorem qU.vec{Γ:Nat→Option (List Value×TypeId)}{x:Operand}{b n off len sz:Nat}{e:TypeId}{cs:List FV}{z:Bool}(h:AU Γ L x=some (.vec b n off len))(y:hget H b=some (.vec e cs n z))(Z:off+len*sz≤cs.length) :
 qU Γ L H nx x sz ((cs.drop off).take (len*sz)) len:=fun m F σ t A O=>by
 have d:=Ko A O h y;obtain⟨_,M⟩:=A.hp b _ y;rcases M with⟨s,G,j⟩|⟨c,g,f,s,G,j,C,r,B,S⟩
 ·have K:(∃a,ev t x=.slice a 0 0∧(a=none∨∃b o g,a=some ⟨b,o,some g⟩))∧len=0:=by
   rcases j with⟨j,_⟩|⟨b',Y,g',j,_⟩
   ·rw[j] at d;obtain⟨X,V,U⟩:=d;grind
   ·simp only[FU] at d;grind
  obtain⟨⟨a,N,q⟩,rfl⟩:=K;rw[N];refine⟨rfl,[],?_,by rw[gt,List.take_zero];exact .nil,rfl⟩;rcases q with rfl|⟨_,_,_,rfl⟩<;>rfl
 ·rw[s] at d
  rw[d];have u:=r.length;have p:len*sz≤(f.drop off).length:=by grind
  refine⟨rfl,(f.drop off).take (len*sz),?_,?_,Vw (KA B _) _⟩
  ·simp only[BM,Nat.le_refl,if_true,Mem.EC,C]
   simp only[NK,Option.getD_some,if_true,takeN,if_pos p]
  ·have:∀{cs:List FV} {f:List Value} (k:Nat),Dt m F cs f→Dt m F (cs.take k) (f.take k):=by
    intro cs f k h
    induction k generalizing cs f with
    |zero=>exact .nil
    |succ k J=>cases h with|nil=>exact .nil|cons h t=>exact .cons h (J t)
   exact this _ (Dt.drop off r)
theorem qU.all{Γ:Nat→Option (List Value×TypeId)}{x:Operand}{b n sz:Nat}{e:TypeId}{cs:List FV}{z:Bool}(h:AU Γ L x=some (.vec b n 0 n))(d:hget H b=some (.vec e cs n z))(f:cs.length=n*sz):qU Γ L H nx x sz cs n:=by
 have:=qU.vec (sz:=sz) (nx:=nx) h d (by omega);grind
theorem Aa.append{s x:Operand}{sT xT e:TypeId}{xd:TypeDesc}{i:TypeInfo}{b n k:Nat}{cs xs:List FV}{z:Bool}(hs:AU E.Γ L s=some (.vec b n 0 n))(hb:hget H b=some (.vec e cs n z))(hx:qU E.Γ L H nx x i.size xs k)
 (xH:E.P.underlying sT=some (.slice e)) (hxT:E.P.underlying xT=some xd) (y:∀k,xd≠.int k) (hi:E.P.info? e=some i) (hzs:Ey i=true) (h0:0<k) (K:(n+k)*(i.bytes+1)≤room) (hl:cs.length=n*i.size) (hsz:0<i.size)
 (q:Q (.vec b (n+k) 0 (n+k)) (hput H b (.vec e (cs++xs) (n+k) z)) nx):Aa E true ⟨dst,.call { callee:=.builtin .append,args:=#[s,x],argTypes:=#[sT,xT] },ty,pos,af,gd⟩ L H nx Q:=by
 intro m F σ t S h2;have f:=Ko S h2 hs hb;obtain⟨hx1,l,hx2,Y,C⟩:=hx m F σ t S h2;obtain⟨hlt,hr⟩:=S.hp b _ hb;have M:lenOf (ev t s)=some n:=by
  rcases hr with⟨A,X,p⟩|⟨c,g,U,A,_⟩
  ·rcases p with⟨p,_⟩|⟨b',o',g',p,_⟩<;>rw[p] at f<;>simp only[FU,Df] at f<;>rw[f.1,X]<;>rfl
  ·rw[A] at f;simp only[FU] at f;rw[f];rfl
 have happ:∀v m',BN m e i.size l k (ev t s)=some (v,m')→Jm E.P #[sT,xT] #[ev t s,ev t x] m=some (v,m'):=by
  intro v m' N;simp only[Jm,List.getElem?_toArray,List.getElem?_cons_zero,List.getElem?_cons_succ,xH,hxT,M,hi,hzs,Bool.not_true,Bool.false_eq_true,if_false];cases xd<;>first|exact absurd rfl (y _)|(simp only[hx1,hx2,C,Bool.and_true,decide_eq_true_eq];rw[if_pos K];exact N)
 have B:∀v m' V,BN m e i.size l k (ev t s)=some (v,m')→V=v→(Ctx E.Γ m' F (upd σ b V) (hput H b (.vec e (cs++xs) (n+k) z)) nx∧Step m F σ H nx m' F (upd σ b V) (hput H b (.vec e (cs++xs) (n+k) z)) nx)→(∃c g,v=.slice (some ⟨c,0,none⟩) (n+k) g) →
  Gy E.P E.O E.G ⟨dst,.call { callee:=.builtin .append,args:=#[s,x],argTypes:=#[sT,xT] },ty,pos,af,gd⟩ ⟨t,m⟩ fun v m'=>∃r H' nx' F' σ',Q r H' nx'∧Ctx E.Γ m' F' σ' H' nx'∧RP m' F' (htag H') σ' nx' r v∧Step m F σ H nx m' F' σ' H' nx'∧(true=false→Quiet m m'):=by
  rintro v m' V N rfl ⟨c1,c2⟩ ⟨c,g,J⟩;refine Gy.op (v:=V) (m':=m') (fun _=>?_) ⟨_,_,_,F,_,q,c1,?_,c2,fun h=>by cases h⟩
  ·have:=happ _ _ N
   simp only[BO,FI];grind
  ·refine .vec hlt (by rw[J];rfl) fun j hj=>?_
   rw[Rz,if_pos rfl,htag,hb] at hj;simp only[Option.map_some,HB.tag,Option.some.injEq,Tg.vec.injEq] at hj;refine⟨by omega,fun _=>?_⟩;rw[upd_same,J];rfl
 have b2v:Xq (some (HB.vec e cs n z).tag) (some (HB.vec e (cs++xs) (n+k) z).tag):=fe _ _;have hne:(HB.vec e cs n z).tag=(HB.vec e (cs++xs) (n+k) z).tag→False:=by simp only[HB.tag,Tg.vec.injEq];omega
 rcases hr with⟨A,X,p⟩|⟨c,g,U,A,X,p,r4,r5,r6,r7⟩
 ·have J:Dp (σ b)=none∧(ev t s=.slice none 0 0∨∃b o g,ev t s=.slice (some ⟨b,o,some g⟩) 0 0):=by
   rcases p with⟨p,_⟩|⟨b',o',g',p,_⟩
   ·rw[p] at f ⊢;exact⟨rfl,.inl f.1⟩
   ·rw[p] at f ⊢;simp only[FU] at f;exact⟨rfl,.inr ⟨_,_,_,f.1⟩⟩
  have N:BN m e i.size l k (ev t s)=some (AQ m e l k):=by
   rcases J.2 with J|⟨_,_,_,J⟩<;>rw[J]<;>simp only[BN]<;>rw[if_neg (by omega)]
  subst A;subst X;refine B _ _ _ N rfl ?_ ⟨m.size,0,by rw[cz]⟩;refine S.change (x0:=.vec e [] 0 z) (x':=.vec e ([]++xs) (0+k) z) hb b2v (fun e=>(hne e).elim) (by simp[AQ,Mem.alloc]) (fun c hc _=>by(try simp only[AQ]);rw[Mem.Bj,if_neg (by omega)])
   (fun k' k1 k2 _=>by simp only[AQ,Mem.alloc];omega) (fun c hc=>by simp only[AQ,Dp,Option.some.injEq] at hc;right;omega) ?_
  refine .inr ⟨m.size,0,l,by simp[AQ],by simp[AQ,Mem.alloc],fun hf=>cr _ (S.fr _ hf),by(try simp only[AQ]);rw[Mem.Bj,if_pos rfl],?_,C,fun h=>by omega⟩;rw[gE];exact Y.mono (fun c hf=>⟨hf,by(try simp only[AQ]);rw[Mem.Bj,if_neg (by have:=S.fr c hf;omega)]⟩)
 ·rw[A] at f
  simp only[FU] at f;have hlen:=r5.length;have Z:takeN (n*i.size) (U.drop 0)=some U:=by
   rw[cw,← hl,hlen];simp[takeN]
  have N:BN m e i.size l k (ev t s)=some (.slice (some ⟨c,0,none⟩) (n+k) (g+1),m.put c (.cells (U++l) e (g+1) false)):=by
   rw[f];simp only[BN,r4,beq_self_eq_true,decide_eq_true hsz,Bool.and_self,if_true,Z];simp
  have u:∀d,c≠d→(m.put c (.cells (U++l) e (g+1) false)).get d=m.get d:=fun d y=>by rw[Mem.get_put,if_neg y]
  refine B _ _ _ N rfl ?_ ⟨c,g+1,rfl⟩;refine S.change (x':=.vec e (cs++xs) (n+k) z) hb b2v (fun e=>(hne e).elim) (ab _) (fun d _ y=>u d fun e=>y (by rw[A,e];rfl)) (fun k' k1 k2 k3=>by
   have:=k3 c (by rw[A];rfl);simp only[Mem.put];omega) (fun d y=>.inl (by rw[A];exact y)) ?_
  refine .inr ⟨c,g+1,U++l,rfl,X,p,by rw[Mem.get_put,if_pos rfl],?_,by rw[ej,r6,C];rfl,fun h=>by omega⟩;exact(r5.append Y).mono (fun d y=>⟨y,u d fun e=>p (e▸y)⟩)
end
section
open Go.Am
variable {P:Program}
inductive Ht{α β:Type}(R:α→β→Prop):List α→List β→Prop
 |nil:Ht R [] []
 |cons {a:α} {b:β} {l:List α} {r:List β} (h:R a b) (t:Ht R l r):Ht R (a::l) (b::r)
def FX(P:Program):Nat→TypeId→List FV→Prop
 |0,_,_=>False
 |f+1,t,fs=>match P.underlying t with
  |some .bool=>∃b,fs=[.bool b]
  |some (.int k)=>∃n,fs=[.int k n]∧(Lit.int k n).wf=true
  |some .string=>∃s:ByteArray,fs=[.str s]∧s.size≤maxLen
  |some (.slice e)=>∃L:List (List FV),fs=[.lst e L.flatten L.length]∧L.length≤maxLen∧∀x∈L,FX P f e x
  |some (.struct sf)=>∃parts:List (List FV),fs=parts.flatten∧Ht (fun(fd:Field) x=>FX P f fd.type x) sf.toList parts
  |some (.array n e)=>∃L:List (List FV),fs=L.flatten∧L.length=n∧∀x∈L,FX P f e x
  |_=>False
def Xj(P:Program):Nat→TypeId→Bool
 |0,_=>false
 |f+1,t=>match P.underlying t with
  |some .bool|some (.int _)|some .string=>true
  |some (.slice e)=>P.cellsOf e != 0&&Xj P f e
  |some (.struct fs)=>decide ((fs.toList.map fun fd=>((List.range (P.cellsOf t)).drop fd.offset).take (P.cellsOf fd.type)).flatten=List.range (P.cellsOf t))&&fs.toList.all fun fd=>Xj P f fd.type
  |some (.array n e)=>decide (((List.range n).map fun i=>((List.range (P.cellsOf t)).drop (i*P.cellsOf e)).take (P.cellsOf e)).flatten=List.range (P.cellsOf t))&&Xj P f e
  |_=>false
structure Laid(m m':Mem)(fs:List FV)(l:List Value):Prop where
 rel:Dt m' (fun c=>c<m'.size) fs l
 cell:l.all BK=true
 size:m.size≤m'.size
 get:∀c,c<m.size→m'.get c=m.get c
theorem Laid.refl(m:Mem){d:List FV}{l:List Value}(h:Dt m (fun c=>c<m.size) d l)(e:l.all BK=true):Laid m m d l:=⟨h,e,ab _,fun _ _=>rfl⟩
theorem a1p{m m':Mem}(d:m.size≤m'.size)(e:∀c,c<m.size→m'.get c=m.get c):∀c,c<m.size→c<m'.size∧m'.get c=m.get c :=by grind
section
variable {H:Type}{enc:TypeId×Value→H}{W:World}{held:Bool}
def bT(P:Program)(f:Nat)(t:TypeId)(d:DataW H):Prop:=∀m,∃l m' fs,SK P f t d m=some (l,m')∧FX P f t fs∧Laid m m' fs l
theorem UY(f:Nat):∀(xs:List (TypeId×DataW H)),(∀x∈xs,bT P f x.1 x.2)→∀m,∃l m' L,Xl (SK P f) xs m=some (l,m')∧Ht (fun(x:TypeId×DataW H) fs=>FX P f x.1 fs) xs L∧Laid m m' L.flatten l
 |[],_,m=>⟨[],m,[],rfl,.nil,Laid.refl m .nil rfl⟩
 |(t,d)::xs,h,m=>by
  obtain⟨o,m1,fs,u,s,g⟩:=h (t,d) (by simp) m;obtain⟨j,m2,L,r,q,e⟩:=UY f xs (fun x y=>h x (by grind)) m1;refine⟨o++j,m2,fs::L,by simp only[Xl,u,r],.cons s q,?_⟩;exact⟨(g.rel.mono (a1p e.size e.get)).append e.rel,by rw[ej,g.cell,e.cell];rfl,am g.size e.size,fun c p=>(e.get c (by have:=g.size;omega)).trans (g.get c p)⟩
theorem Ht.Vh{α β γ:Type}{R:β→γ→Prop}{g:α→β}:∀{l:List α} {r:List γ},Ht R (l.map g) r→Ht (fun a c=>R (g a) c) l r
 |[],_,.nil=>.nil
 |_::_,_,.cons h t=>.cons h (Ht.Vh t)
theorem Ht.const{α γ:Type}{R:γ→Prop}:∀{l:List α} {r:List γ},Ht (fun _ c=>R c) l r→l.length=r.length∧∀x∈r,R x
 |_,_,.nil=>⟨rfl,by simp⟩
 |_,_,.cons h t=>by
  obtain⟨e,d⟩:=Ht.const t;grind
theorem Ht.zip{α β γ:Type}{R:α→γ→Prop}:∀{l:List α} {ds:List β} {r:List γ},l.length=ds.length→Ht (fun(x:α×β) c=>R x.1 c) (l.zip ds) r→Ht R l r
 |[],[],_,_,h=>by cases h;exact .nil
 |a::l,d::ds,r,hl,h=>by
  cases h with|cons h t=>exact .cons h (Ht.zip (by grind) t)
 |[],_::_,_,hl,_=>by grind
 |_::_,[],_,hl,_=>by grind
theorem a1w:∀(f:Nat) (t:TypeId) (cs:List Value) (d:DataW H) (ps:List MemPlace),Xj P f t=true→DataW.trod enc P W 0 (fun _=>true) held f t cs=some (d,ps)→bT P f t d
 |0,_,_,_,_,h,_=>by cases h
 |f+1,t,cs,d,ps,hok,h=>by
  have ih:=a1w f;intro m;unfold DataW.trod at h;unfold SK;unfold Xj at hok;unfold FX;cases hu:P.underlying t with
  |none=>rw[hu] at hok;cases hok
  |some u =>
   rw[hu] at h hok;cases u with
   |bool =>
    match cs,h with
    |[.bool b],h =>
     simp only[Option.some.injEq,Prod.mk.injEq] at h;obtain⟨rfl,rfl⟩:=h;exact⟨_,_,_,rfl,⟨b,rfl⟩,Laid.refl m (.cons (.bool b) .nil) rfl⟩
   |int k =>
    match cs,h with
    |[.int k' n],h =>
     simp only at h;split at h
     ·rename_i M
      simp only[Option.some.injEq,Prod.mk.injEq] at h;obtain⟨rfl,rfl⟩:=h;exact⟨_,_,_,rfl,⟨n,rfl,M.2⟩,Laid.refl m (.cons (.int k n) .nil) rfl⟩
     ·cases h
   |string =>
    match cs,h with
    |[.string s],h =>
     simp only at h;split at h
     ·rename_i M
      simp only[Option.some.injEq,Prod.mk.injEq] at h;obtain⟨rfl,rfl⟩:=h;exact⟨_,_,_,rfl,⟨s,rfl,M⟩,Laid.refl m (.cons (.str s) .nil) rfl⟩
     ·cases h
   |slice e =>
    simp only[Bool.and_eq_true,bne_iff_ne,ne_eq] at hok
    match cs,h with
    |[.slice none 0 0],h =>
     simp only[Option.some.injEq,Prod.mk.injEq] at h;obtain⟨rfl,rfl⟩:=h;exact⟨_,_,_,rfl,⟨[],rfl,an _,by simp⟩,Laid.refl m (.cons (.nil e) .nil) rfl⟩
    |[.slice (some a) len cap],h =>
     simp only at h;split at h
     ·rename_i M
      simp only[Option.bind_eq_some_iff,Option.map_eq_some_iff] at h;obtain⟨j,h1,rest,h2,h3⟩:=h;simp only[Prod.mk.injEq] at h3;obtain⟨rfl,rfl⟩:=h3;obtain⟨hl,Y⟩:=mapM_some h1;simp only[hok.1,if_false];split
      ·rename_i he
       simp only[Bool.and_eq_true,List.isEmpty_iff] at he;exact⟨_,_,_,rfl,⟨[],rfl,an _,by simp⟩,Laid.refl m (.cons (.room e 0 0 0) .nil) rfl⟩
      ·have o:∀x∈(j.map (·.1)).map fun x=>(e,x),bT P f x.1 x.2:=by
        intro x O;simp only[List.mem_map] at O;obtain⟨y,⟨z,hz,rfl⟩,rfl⟩:=O;obtain⟨i,G⟩:=ft hz;have U:i<(List.range len).length:=by
         have:i<j.length:=by
          rcases aq i j.length with h|h
          ·exact h
          ·rw[aL h] at G;cases G
         omega
        obtain⟨b,p,q⟩:=Y i _ (ai U);rw[G] at p;cases p;simp only[Option.bind_eq_some_iff] at q;obtain⟨cs',_,hb3⟩:=q;exact ih e cs' z.1 z.2 hok.2 hb3
       obtain⟨l,K,L,e1,e2,J⟩:=UY f _ o m;obtain⟨e4,e5⟩:=Ht.const (R:=fun C=>FX P f e C) (Ht.Vh (R:=fun(x:TypeId×DataW H) C=>FX P f x.1 C) (g:=fun x=>(e,x)) e2);rw[e1];simp only[List.length_map,List.length_range] at e4 hl ⊢;have hg:∀c,c<K.size→(K.alloc (.cells l e 0 true)).get c=K.get c:=fun c M=>by rw[Mem.Bj,if_neg (by omega)]
       have S:(K.alloc (.cells l e 0 true)).size=K.size+1:=rfl;refine⟨_,_,_,rfl,⟨L,rfl,by omega,e5⟩,⟨?_,rfl,by rw[S];have:=J.size;omega,fun c M=>(hg c (by have:=J.size;omega)).trans (J.get c M)⟩⟩;rw[show j.length=L.length by omega];refine .cons (.lst (by rw[S];omega) (by rw[Mem.Bj,if_pos rfl]) (ws:=l) ?_ (J.rel.mono fun c M=>⟨by rw[S];omega,hg c M⟩) J.cell) .nil;rw[cw,J.rel.length];simp[takeN]
     ·cases h
   |struct sf =>
    simp only[Bool.and_eq_true,decide_eq_true_eq] at hok;obtain⟨B,A⟩:=hok;have N:(if cs.length=P.cellsOf t then(sf.toList.mapM fun V=>DataW.trod enc P W 0 (fun _=>true) held f V.type ((cs.drop V.offset).take (P.cellsOf V.type))).map fun r=>((.agg (r.map (·.1)):DataW H),r.flatMap (·.2)) else none)=some (d,ps):=by
     revert h;cases cs with
     |nil=>exact id
     |cons c cs=>cases c<;>cases cs<;>exact id
    split at N
    ·simp only[Option.map_eq_some_iff,Prod.mk.injEq] at N
     obtain⟨r,h1,rfl,rfl⟩:=N;obtain⟨hl,Y⟩:=mapM_some h1;simp only[B,if_true];have o:∀x∈(sf.toList.map (·.type)).zip (r.map (·.1)),bT P f x.1 x.2:=by
      intro x O;obtain⟨i,G⟩:=ft O;rw[gk,aw,aw,ae,ae] at G;obtain⟨⟨X,Z,hx1⟩,⟨y,hy,hx2⟩⟩:=G;obtain⟨b,p,q⟩:=Y i X Z;rw[hy] at p;cases p;have hx':x=(X.type,y.1):=by rw[hx1,hx2]
      rw[hx'];exact ih X.type _ y.1 y.2 (az.1 A X (fq Z)) q
     obtain⟨l,K,L,e1,e2,J⟩:=UY f _ o m;refine⟨l,K,L.flatten,e1,⟨L,rfl,?_⟩,J⟩;exact Ht.Vh (R:=fun t C=>FX P f t C) (g:=fun(X:Field)=>X.type) (Ht.zip (R:=fun t C=>FX P f t C) (by simp only[List.length_map];omega) e2)
    ·cases N
   |array n e =>
    simp only[Bool.and_eq_true,decide_eq_true_eq] at hok;obtain⟨B,A⟩:=hok;have N:(if cs.length=P.cellsOf t then((List.range n).mapM fun i=>DataW.trod enc P W 0 (fun _=>true) held f e ((cs.drop (i*P.cellsOf e)).take (P.cellsOf e))).map fun r=>((.agg (r.map (·.1)):DataW H),r.flatMap (·.2)) else none)=some (d,ps):=by
     revert h;cases cs with
     |nil=>exact id
     |cons c cs=>cases c<;>cases cs<;>exact id
    split at N
    ·simp only[Option.map_eq_some_iff,Prod.mk.injEq] at N
     obtain⟨r,h1,rfl,rfl⟩:=N;obtain⟨hl,Y⟩:=mapM_some h1;simp only[B,if_true];have o:∀x∈(r.map (·.1)).map fun x=>(e,x),bT P f x.1 x.2:=by
      intro x O;simp only[List.mem_map] at O;obtain⟨y,⟨z,hz,rfl⟩,rfl⟩:=O;obtain⟨i,G⟩:=ft hz;have U:i<(List.range n).length:=by
       have:i<r.length:=by
        rcases aq i r.length with h|h
        ·exact h
        ·rw[aL h] at G;cases G
       omega
      obtain⟨b,p,q⟩:=Y i _ (ai U);rw[G] at p;cases p;exact ih e _ z.1 z.2 A q
     obtain⟨l,K,L,e1,e2,J⟩:=UY f _ o m;obtain⟨e4,e5⟩:=Ht.const (R:=fun C=>FX P f e C) (Ht.Vh (R:=fun(x:TypeId×DataW H) C=>FX P f x.1 C) (g:=fun x=>(e,x)) e2);simp only[List.length_map,List.length_range] at e4 hl;exact⟨l,K,L.flatten,e1,⟨L,rfl,by omega,e5⟩,J⟩
    ·cases N
   |_=>cases hok
end
end
section
open Go.Am
variable {P:Program}
def noO:BP:=fun _=>none
open Classical in
noncomputable def b1w(G:List Nat)(M0:Mem)(fs:List FuncId):BP:=fun f =>
 if f∈fs then some fun Bh m=>if Bh=[]∧∀k∈G,m.get k=M0.get k then some (.bool true,m) else none else none
theorem IW{F:Nat}{laid:List (String×DataW Unit)}{k:Nat}(d:k<P.globals.size):(AZ P F laid).get k=match Ib P F laid k with|some (e,l)=>.cells l e 0 true|none=>.cells [] 0 0 true:=by
 rw[AZ,Uf,if_neg (by simp[Am.empty])];simp only[Am.empty,Nat.sub_zero,List.getElem?_map];grind
theorem Vq{F:Nat}{laid:List (String×DataW Unit)}:(AZ P F laid).size=P.globals.size:=by rw[AZ,QE];simp[Am.empty]
theorem Oz{F:Nat}{laid:List (String×DataW Unit)}{k:Nat}(h:k∈Az P F laid):k<P.globals.size∧∃e l,Ib P F laid k=some (e,l):=by
 simp only[Az,List.mem_filter,List.mem_range] at h;obtain⟨f,d⟩:=h;cases hg:Ib P F laid k with
 |none=>grind
 |some x=>grind
theorem Vd{F:Nat}{laid:List (String×DataW Unit)}{k:Nat}{e:TypeId}{l:List Value}(h:Ib P F laid k=some (e,l)):l.all Am.plainCell=true:=by
 unfold Ib at h;split at h
 ·rename_i x g _ _
  simp only[Option.map_eq_some_iff,Prod.mk.injEq] at h;obtain⟨r,d,_,rfl⟩:=h;unfold absP at d;grind
 grind
def gam(P:Program)(F:Nat)(laid:List (String×DataW Unit)):Nat→Option (List Value×TypeId):=fun k=>if k<P.globals.size then(Ib P F laid k).map fun x=>(x.2,x.1) else none
noncomputable def yT(P:Program)(F:Nat)(laid:List (String×DataW Unit))(fs:List FuncId):Env :=
 ⟨P,b1w (Az P F laid) (AZ P F laid) fs,Az P F laid,gam P F laid⟩
theorem FX.array{f n:Nat}{t e:TypeId}{d:List FV}(h:FX P (f+1) t d)(g:P.underlying t=some (.array n e)):∃L:List (List FV),d=L.flatten∧L.length=n∧∀x∈L,FX P f e x:=by
 unfold FX at h;grind
def b1l(P:Program)(F:Nat):List TypeId→List (List FV)→Prop:=Ht (fun t fs=>FX P F t fs)
def dY(P:Program)(t:TypeId)(fs:List FV):Option FV :=
 match P.underlying t,fs with
 |some (.struct _),fs=>some (.agg fs)
 |some (.array _ _),fs=>some (.agg fs)
 |some .bool,[v]|some (.int _),[v]|some .string,[v]|some (.slice _),[v]=>some v
 |_,_=>none
theorem a5x{m:Mem}{F:Nat→Prop}{n:Nat}{t:TypeId}{j:List FV}{l:List Value}(h:Dt m F j l)(o:l.all BK=true)(d:FX P n t j):∃x v,dY P t j=some x∧sH P t l=some v∧RF m F x v:=by
 cases n with
 |zero=>exact d.elim
 |succ n =>
  unfold FX at d;unfold dY sH;cases hu:P.underlying t with
  |none=>grind
  |some u =>
   rw[hu] at d;cases u with
   |bool=>obtain⟨b,rfl⟩:=d;cases h with|cons g f=>cases f;grind
   |int k=>obtain⟨b,rfl,_⟩:=d;cases h with|cons g f=>cases f;grind
   |string=>obtain⟨b,rfl,_⟩:=d;cases h with|cons g f=>cases f;grind
   |slice e=>obtain⟨b,rfl,_⟩:=d;cases h with|cons g f=>cases f;grind
   |struct p=>exact⟨_,_,rfl,rfl,.agg h o⟩
   |array k e=>exact⟨_,_,rfl,rfl,.agg h o⟩
   |_=>exact d.elim
theorem jU:∀(f:Nat) (t:TypeId),Xj P f t=true→Xj P (f+1) t=true
 |0,_,h=>by cases h
 |f+1,t,h=>by
  have d:=jU f;unfold Xj at h ⊢;grind
theorem a2q{f g:Nat}{t:TypeId}(d:f≤g)(h:Xj P f t=true):Xj P g t=true:=by
 induction d with
 |refl=>exact h
 |step _ e=>exact jU _ _ e
section
variable {H:Type}{enc:TypeId×Value→H}{W:World}{held:Bool}
def a9b(enc:TypeId×Value→H)(P:Program)(W:World)(held:Bool)(n:Nat):List TypeId→List Value→List (DataW H)→Prop
 |[],[],[]=>True
 |t::ts,v::vs,d::ds=>(∃p,DataW.trod enc P W 0 (fun _=>true) held n t v.cells.toList=some (d,p))∧a9b enc P W held n ts vs ds
 |_,_,_=>False
theorem b3h:∀(e:List TypeId) (vs:List Value) (ds:List (DataW H)) (ps:List MemPlace),DataW.TrodAll enc P W 0 (fun _=>true) held e vs ds ps→∃N,∀n,N≤n→a9b enc P W held n e vs ds
 |[],[],[],_,_=>⟨0,fun _ _=>trivial⟩
 |t::e,v::vs,d::ds,ps,⟨p,q,⟨f,h1⟩,h2,_⟩=>by
  obtain⟨N,g⟩:=b3h e vs ds q h2;exact⟨max f N,fun n j=>⟨⟨p,DataW.trod_le (by omega) h1⟩,g n (by omega)⟩⟩
 |[],[],_::_,_,h=>h.elim
 |[],_::_,_,_,h=>h.elim
 |_::_,[],_,_,h=>h.elim
 |_::_,_::_,[],_,h=>h.elim
theorem WV{n:Nat}:∀(e:List TypeId) (vs:List Value) (ds:List (DataW H)),(∀t∈e,Xj P n t=true)→a9b enc P W held n e vs ds→∀m,∃Bh m' g xs,Vx P n e ds m=some (Bh,m') ∧
 b1l P n e g∧Ht (fun(tf:TypeId×List FV) x=>dY P tf.1 tf.2=some x) (e.zip g) xs∧Dt m' (fun c=>c<m'.size) xs Bh∧m.size≤m'.size∧∀c,c<m.size→m'.get c=m.get c
 |[],[],[],_,_,m=>⟨[],m,[],[],rfl,.nil,.nil,.nil,ab _,fun _ _=>rfl⟩
 |t::e,v::vs,d::ds,hok,⟨⟨p,h1⟩,h2⟩,m=>by
  obtain⟨l,m1,J,K,q,f⟩:=a1w n t _ d p (hok t (by simp)) h1 m;obtain⟨x,u,C,B,A⟩:=a5x f.rel f.cell q;obtain⟨Bh,m2,g,xs,z,y,s,r,o,j⟩:=WV e vs ds (fun t M=>hok t (by grind)) h2 m1;refine⟨u::Bh,m2,J::g,x::xs,by simp only[Vx,K,B,z],.cons q y,.cons C s,.cons (A.mono (a1p o j)) r,am f.size o,fun c G=>(j c (by have:=f.size;omega)).trans (f.get c G)⟩
 |[],[],_::_,_,h,_=>h.elim
 |[],_::_,_,_,h,_=>h.elim
 |_::_,[],_,_,h,_=>h.elim
 |_::_,_::_,[],_,h,_=>h.elim
theorem law{r:Go.Reach}{b0 F:Nat}{laid:List (String×DataW Unit)}{M:List FuncId}{f:FuncId}{d:List TypeId}{args:Array Value}{ds:List (DataW H)}{ps:List MemPlace}
 (hL:laidMet P laid W) (V:DataW.TrodAll enc P W 0 (fun _=>true) held d args.toList ds ps) (hv:∀(j:Nat) t v,d[j]?=some t→args.toList[j]?=some v→Value.okWide P W r b0 t v)
 (Z:P.follows .mixedOrders=true) (A:d.all (Xj P F)=true)
 (hO:Gh P (Az P F laid) (b1w (Az P F laid) (AZ P F laid) M))
 (hp:∀j s xs,b1l P (j+F) d s→Ht (fun(tf:TypeId×List FV) x=>dY P tf.1 tf.2=some x) (d.zip s) xs→Ak (yT P F laid M) f xs (.p (.bool true))) :
 Calls P f args W fun e Y=>e=.returned (.bool true)∧Go.RowKit.Below W.heap.size W Y:=by
 obtain⟨N,hN⟩:=b3h d _ ds ps V;obtain⟨j,hj⟩:∃j,max N F=j+F:=⟨max N F-F,by omega⟩
 obtain⟨O,m1,s,xs,q1,S,q3,q4,q5,q6⟩:=WV d _ ds (fun t ht=>a2q (by omega) (az.1 A t ht)) (hN (max N F) (by omega)) (AZ P F laid);rw[hj] at S;have SC:Ctx (yT P F laid M).Γ m1 (fun c=>c<m1.size) (fun _=>undef) [] 0:=by
  refine⟨fun _ h=>h,fun b x q=>(by cases q),fun b b' x x' c q=>(by cases q),fun g vs e u=>?_⟩;simp only[yT,gam] at u;split at u
  ·rename_i G
   simp only[Option.map_eq_some_iff,Prod.mk.injEq] at u;obtain⟨⟨e',l⟩,X,rfl,rfl⟩:=u;have o:g<(AZ P F laid).size:=by rw[Vq];omega
   exact⟨by omega,by rw[q6 g o,IW G,X],Vd X⟩
  grind
 obtain⟨v,m',⟨K,hK⟩,r0,H',nx',F',σ',⟨rfl,_,_⟩,_,B,_⟩:=hp j s xs S q3 m1 _ _ O SC (Dv.lC q4);have z:v=.bool true:=by cases B with|p h=>cases h;rfl
 subst z;obtain⟨ι,hs,C⟩:=jI (F:=F) hL;obtain⟨y,U,o2,o3,o4⟩:=Xm d _ ds ps V hv ι _ m1 O hs C q1;refine((IU hO Z K f).1 O m1 _ m' (hK K K (ab _) (ab _)) y W args U o4).mono fun e Y ⟨v',he,ι2,hx,hs2,Qg⟩=>?_
 have:=Qg.BQ (v:=.bool true) rfl;subst this;exact⟨he,⟨hx.os,hx.tape,hx.output,hx.heap,fun c J=>hx.frame c J fun b ib q _=>.inl (o3 b (U.dom b ib q).1)⟩⟩
end
end
section
open Go.Am
variable {E:Env}{L:Frame}{H:Heap}{nx:Nat}{Q:PV→Heap→Nat→Prop}{w:Bool}
variable {dst:Option Tmp}{ty:TypeId}{pos:String}{af:Array Edge}{gd:Option (Nat×Bool)}
def evF(Γ:Nat→Option (List Value×TypeId))(L:Frame):List Operand→Option (List FV)
 |[]=>some []
 |o::l=>match AU Γ L o with
  |some (.p x)=>match evF Γ L l with
   |some r=>some (x::r)
   |none=>none
  |_=>none
theorem Zf{Γ:Nat→Option (List Value×TypeId)}:∀{os:List Operand} {xs:List FV},evF Γ L os=some xs→evs Γ L os=some (xs.map .p)
 |[],_,h=>by cases h;rfl
 |o::os,xs,h=>by
  simp only[evF] at h;split at h
  ·rename_i x d
   split at h
   ·rename_i r e
    cases h;simp only[evs,d,Zf e,List.map_cons]
   grind
  grind
theorem Aa.fn{d:Operand}{args:Array Operand}{o:Array TypeId}{g:FuncId}{xs:List FV}{r:PV}(f:AU E.Γ L d=some (.clo g [] []))(j:evF E.Γ L args.toList=some xs)
 (h:Ak E g xs r) (e:∀ρ,r.rn ρ=r) (q:Q r H nx):Aa E w ⟨dst,.call { callee:=.value d,args:=args,argTypes:=o },ty,pos,af,gd⟩ L H nx Q :=
 Aa.c3l f (Zf j) (.refl _) h e q
theorem Aa.fv{d:Operand}{args:Array Operand}{o:Array TypeId}{g:FuncId}{xs cs:List FV}{e:TypeId}{n:Nat}{z:Bool}(f:AU E.Γ L d=some (.clo g [] []))(j:evF E.Γ L args.toList=some xs)
 (h:Bd E g xs e cs n z) (q:Q (.vec nx n 0 n) ((nx,.vec e cs n z)::H) (nx+1)):Aa E w ⟨dst,.call { callee:=.value d,args:=args,argTypes:=o },ty,pos,af,gd⟩ L H nx Q :=
 Aa.c6j f (Zf j) (.refl _) h q
theorem Ak.enter{f:FuncId}{fn:Func}{c:Code}{xs:List FV}{r:PV}(g:E.O f=none)(j:E.P.funcs[f]?=some fn)(o:fn.body=some c)(d:Ir E.G fn c=true)(q:xs.length≤fn.ntmps)
 (h:Ad E 0 c (CG 0 (xs.map .p)) [] 0 (Done E.P fn.results.toList 0 fun e H' nx'=>e=r∧H'=[]∧nx'=0)):Ak E f xs r:=AL.enter g j o d (by grind) h
def BD(P:Program)(rs:List ResultVar)(e:TypeId)(cs:List FV)(n:Nat)(z:Bool)(x:BH)(L:Frame)(H:Heap)(_:Nat):Prop :=
 match x with
 | .exit _=>False
 | .normal=>∃b,EI P rs L H=some (.vec b n 0 n)∧hget H b=some (.vec e cs n z)
 | .ret=>∃b,EI P rs L H=some (.vec b n 0 n)∧hget H b=some (.vec e cs n z)
theorem BD.ret{P:Program}{rs:List ResultVar}{e:TypeId}{cs cs':List FV}{n n':Nat}{z:Bool}{b:Nat}(h:EI P rs L H=some (.vec b n' 0 n'))(g:hget H b=some (.vec e cs' n' z))(f:n'=n)(d:cs'=cs):BD P rs e cs n z .ret L H nx:=by
 subst f;subst d;exact⟨b,h,g⟩
theorem Bd.enter{f:FuncId}{fn:Func}{c:Code}{xs cs:List FV}{e:TypeId}{n:Nat}{z:Bool}(M:E.O f=none)(hf:E.P.funcs[f]?=some fn)(d:fn.body=some c)(K:Ir E.G fn c=true)(hn:xs.length≤fn.ntmps)
 (h:Ad E 0 c (CG 0 (xs.map .p)) [] 0 (BD E.P fn.results.toList e cs n z)):Bd E f xs e cs n z:=by
 intro m F σ Bh h1 X;refine GH.enter M hf d K (by rw[← X.length];grind) ((h ⟨m,F,σ,[],0⟩ rfl m F σ _ h1 ?_ (Step.refl _ _ _ _ _)).mono ?_)
 ·intro i v hi
  obtain⟨_,U⟩:=Jk _ 0 i v hi;obtain⟨u,V,h5⟩:=X.get U;have:=Ho Bh 0 .leaf i;grind
 ·rintro x s ⟨L',H',nx',B,σ',q,C,c2,j⟩
  have y:(∃b,EI E.P fn.results.toList L' H'=some (.vec b n 0 n)∧hget H' b=some (.vec e cs n z))→∃v,Fj E.P fn s=some v∧∃r H' nx' B σ',(r=.vec 0 n 0 n∧H'=[(0,.vec e cs n z)]∧nx'=1)∧Ctx E.Γ s.m B σ' H' nx'∧RP s.m B (htag H') σ' nx' r v∧Step m F σ [] 0 s.m B σ' H' nx':=by
   rintro⟨b,hr,d⟩;obtain⟨v,U,V⟩:=KZ C c2 hr;obtain⟨_,J⟩:=C.hp b _ d;have A:∀o x,hget [(0,HB.vec e cs n z)] o=some x→o=0∧x=.vec e cs n z:=fun o x g=>by
    rw[Bv] at g;split at g
    ·grind
    ·cases g
   refine⟨v,U,_,_,_,B,fun _=>σ' b,⟨rfl,rfl,rfl⟩,⟨C.fr,fun o x g=>?_,fun b1 b2 x1 x2 c Z Y _ _=>?_,C.gl⟩,?_,⟨j.size,j.keep,j.KP,j.KO,fun c S M=>?_,an _,fun b d=>absurd d (bd _),j.low⟩⟩
   ·obtain⟨rfl,rfl⟩:=A o x g
    exact⟨by omega,J⟩
   ·grind
   ·cases V with
    |vec hb' S h =>
     refine .vec (by omega) S fun k hk=>?_
     cases hk;exact⟨ab _,fun _=>(h n (by simp[htag,d,HB.tag])).2 rfl⟩
   ·obtain⟨o,x,g,N⟩:=M
    exact j.JF c S ⟨b,_,d,N⟩
  cases x with
  |exit i=>exact q.elim
  |normal=>exact y q
  |ret=>exact y q
theorem Aa.Dn{α:Type}{_:Enc α}{l:List α}{a:α}{s x:Operand}{u r e e2:TypeId}{p:TypeDesc}{i:TypeInfo}{b b2 n:Nat}{xs:List FV}{z A:Bool}(G:AU E.Γ L s=some (.vec b n 0 n))(O:hget H b=some (.vec e (cells l) n z))
 (C:AU E.Γ L x=some (.vec b2 1 0 1)) (o:hget H b2=some (.vec e2 xs 1 A)) (f:xs=Enc.enc a) (J:l.length=n) (B:E.P.underlying u=some (.slice e)) (j:E.P.underlying r=some p) (M:∀k,p≠.int k) (K:E.P.info? e=some i)
 (g:Enc.size α=i.size) (h:Ey i=true) (S:0<i.size) (N:i.bytes<1000000) (y:l.length<1000000) (q:Q (.vec b (l.length+1) 0 (l.length+1)) (hput H b (.vec e (cells (l++[a])) (l.length+1) z)) nx) :
 Aa E true ⟨dst,.call { callee:=.builtin .append,args:=#[s,x],argTypes:=#[u,r] },ty,pos,af,gd⟩ L H nx Q:=by
 subst J;have d:(l.length+1)*(i.bytes+1)≤room:=am (cT (by omega:l.length+1≤1000000) (by omega:i.bytes+1≤1000000)) (by decide);refine Aa.append (i:=i) G O (qU.all C o (by rw[f,Enc.len,← g];omega)) B j M K h (by omega) d (by rw[C9,g]) S ?_;have:cells (l++[a])=cells l++xs:=by rw[Gg,f];simp[cells,encs]
 grind
theorem Aa.not{t:TypeId}{x:Operand}{b:Bool}(d:AU E.Γ L x=some (.p (.bool b)))(q:Q (.p (.bool (!b))) H nx):Aa E w ⟨dst,.unOp .not t x,ty,pos,af,gd⟩ L H nx Q :=
 Aa.quiet q fun m F σ h g f=>by
  refine⟨.bool (!b),fun _=>?_,.p (.bool _)⟩;have e:=Iq g f d;simp only[BO,FI,e];cases b<;>rfl
theorem PV.int_eq{k:IntKind}{a b:Int}(h:a=b):(PV.p (.int k a))=.p (.int k b) :=by grind
theorem PV.Iy{a b:Bool}(h:a=b):(PV.p (.bool a))=.p (.bool b) :=by grind
end
section
open Go.Am
variable {E:Env}{L:Frame}{H:Heap}{nx:Nat}{Q:PV→Heap→Nat→Prop}{w:Bool}
variable {dst:Option Tmp}{ty:TypeId}{pos:String}{af:Array Edge}{gd:Option (Nat×Bool)}
section
variable {bn:Nat}{ops:Array Oper}{op:Op}{l:List Oper}{i:Nat}{R:Frame→Heap→Nat→Prop}
theorem Ag.quiet(h:Aa E false ⟨dst,op,ty,pos,af,none⟩ L H nx fun r H' nx'=>Ag E bn ops (i+1) l (Ig L dst r) H' nx' R):Ag E bn ops i (⟨dst,op,ty,pos,af,none⟩::l) L H nx R:=by
 intro B g m F σ t e d j;refine Jd.cons (Jz.wanted (L:=L) e d rfl) ((h (m.at m.size) F σ t (e.at _) (RL.at (Γ:=E.Γ) _ d)).mono ?_);rintro v y ⟨r,H',nx',u,σ',q,s,p,f,o⟩;refine⟨.inr (.inl (o rfl m.size (ab _) (ab _))),?_⟩;exact q B g _ u σ' _ (s.at _) (RL.at (Γ:=E.Γ) _ (((RL.at (Γ:=E.Γ) _ d).step f (e.at _)).put p)) (j.trans f.at)
theorem Ag.Wi{j d:Nat}{e:Bool}(s:(ops[j]?).bind (·.dst)=some d)(u:Fv L d=some (.p (.bool e)))(h:Aa E false ⟨dst,op,ty,pos,af,some (j,e)⟩ L H nx fun r H' nx'=>Ag E bn ops (i+1) l (Ig L dst r) H' nx' R) :
 Ag E bn ops i (⟨dst,op,ty,pos,af,some (j,e)⟩::l) L H nx R:=by
 intro B y m F σ t g f z;refine Jd.cons (Jz.wanted (L:=L) (w:=true) g f ⟨e,d,s,u,by cases e<;>rfl⟩) ((h (m.at m.size) F σ t (g.at _) (RL.at (Γ:=E.Γ) _ f)).mono ?_);rintro v K ⟨r,H',nx',J,σ',q,G,C,o,A⟩;refine⟨.inr (.inl (A rfl m.size (ab _) (ab _))),?_⟩;exact q B y _ J σ' _ (G.at _) (RL.at (Γ:=E.Γ) _ (((RL.at (Γ:=E.Γ) _ f).step o (g.at _)).put C)) (z.trans o.at)
theorem Ag.bar(d:barrier E.P ops i=true)(h:Aa E true ⟨dst,op,ty,pos,af,none⟩ L H nx fun r H' nx'=>Ag E bn ops (i+1) l (Ig L dst r) H' nx' R):Ag E bn ops i (⟨dst,op,ty,pos,af,none⟩::l) L H nx R:=Ag.cons rfl d h
end
theorem Aq.le(d:Nat){v v0:PV}(j:Fv L d=some v)(g:PLe v v0):Aq E L H nx ((d,v0)::L) H nx:=fun B m F σ t p h o=>by
 refine⟨F,σ,p,fun i x f=>?_,o⟩;rw[Ed] at f;by_cases e:d=i
 ·rw[if_pos e] at f;cases f;subst e;exact RP.le g (h d v j)
 ·rw[if_neg e] at f;exact h i x f
theorem Ctx.move{Γ:Nat→Option (List Value×TypeId)}{m m':Mem}{F:Nat→Prop}{σ:Nat→Value}{b0:Nat}{x0 x':HB}{s':Value}(h:Ctx Γ m F σ H nx)(K:hget H b0=some x0)
 (u:m.size≤m'.size) (f:∀c,c<m.size→Dp (σ b0)≠some c→m'.get c=m.get c) (U:∀k,k≤m.low→k≤m.size→(∀c,Dp (σ b0)=some c→k≤c)→k≤m'.low)
 (r:∀c,Dp s'=some c→Dp (σ b0)=some c∨m.size≤c) (hr:RB m' F (htag ((nx,x')::hdel H b0)) (upd σ nx s') (nx+1) s' x') :
 Ctx Γ m' F (upd σ nx s') ((nx,x')::hdel H b0) (nx+1)∧Step m F σ H nx m' F (upd σ nx s') ((nx,x')::hdel H b0) (nx+1):=by
 have q:∀c,Dp (σ b0)=some c→own H σ c:=fun c o=>⟨b0,x0,K,o⟩
 have S:∀c,F c→F c∧m'.get c=m.get c:=fun c o=>⟨o,f c (h.fr c o) fun e=>(h.MB (q c e)).1 o⟩
 have V:Names nx (htag H) σ (htag ((nx,x')::hdel H b0)) (upd σ nx s'):=fun b hbn=>by
  rw[JK,if_neg (by omega),Xf,CY _ _ (by omega)];split
  ·exact⟨trivial,fun _ _ _=>rfl⟩
  ·exact⟨Xq.refl _,fun _ _ _=>rfl⟩
 have O:hget ((nx,x')::hdel H b0) nx=some x':=by rw[Bv,if_pos rfl]
 have j:∀b y,hget ((nx,x')::hdel H b0) b=some y→b≠nx→b≠b0∧hget H b=some y:=fun b y d e=>by
  rw[Bv,if_neg (Ne.symm e),IX] at d;grind
 refine⟨⟨fun c o=>ag (h.fr c o) u,?_,?_,?_⟩,⟨u,fun c o Y=>f c o fun e=>Y (q c e),fun _ h=>h,fun _ _ h=>.inl h,?_,cL _,V,?_⟩⟩
 ·intro b y d
  by_cases e:b=nx
  ·subst e
   rw[O] at d;cases d;rw[upd_same];grind
  ·obtain⟨p,d⟩:=j b y d e
   obtain⟨M,J⟩:=h.hp b y d;rw[CY _ _ e];refine⟨by omega,J.mono S V (cL _) u fun c o=>?_⟩;have:=h.MB ⟨b,y,d,o⟩;exact⟨f c this.2 fun B=>p (h.sep b b0 y x0 c d K o B),this.1⟩
 ·intro b C y G c M J s A
  by_cases e:b=nx<;>by_cases B:C=nx
  ·omega
  ·subst e
   obtain⟨p,d⟩:=j C G J B;rw[upd_same] at s;rw[CY _ _ B] at A;rcases r c s with h5|h5
   ·exact absurd (h.sep b0 C x0 G c K d h5 A).symm p
   ·have:=(h.MB ⟨C,G,d,A⟩).2;omega
  ·subst B
   obtain⟨p,d⟩:=j b y M e;rw[upd_same] at A;rw[CY _ _ e] at s;rcases r c A with h5|h5
   ·exact absurd (h.sep b b0 y x0 c d K s h5) p
   ·have:=(h.MB ⟨b,y,d,s⟩).2;omega
  ·obtain⟨_,d⟩:=j b y M e
   obtain⟨_,N⟩:=j C G J B;rw[CY _ _ e] at s;rw[CY _ _ B] at A;exact h.sep b C y G c d N s A
 ·intro g X e Z
  obtain⟨M,J,s⟩:=h.gl g X e Z;grind
 ·rintro c o ⟨b,y,d,z⟩
  by_cases e:b=nx
  ·subst e
   rw[upd_same] at z;grind
  ·obtain⟨_,d⟩:=j b y d e
   rw[CY _ _ e] at z;exact⟨b,y,d,z⟩
 grind
theorem appendMove'{s x:Operand}{sT xT e:TypeId}{xd:TypeDesc}{i:TypeInfo}{b n k:Nat}{cs xs:List FV}{z:Bool}(hs:AU E.Γ L s=some (.vec b n 0 n))(hb:hget H b=some (.vec e cs n z))(hx:qU E.Γ L H nx x i.size xs k)
 (xH:E.P.underlying sT=some (.slice e)) (hxT:E.P.underlying xT=some xd) (B:∀k,xd≠.int k) (hi:E.P.info? e=some i) (hzs:Ey i=true) (U:(n+k)*(i.bytes+1)≤room) (hl:cs.length=n*i.size) (hsz:0<i.size)
 (q:Q (.vec nx (n+k) 0 (n+k)) ((nx,.vec e (cs++xs) (n+k) z)::hdel H b) (nx+1)):Aa E true ⟨dst,.call { callee:=.builtin .append,args:=#[s,x],argTypes:=#[sT,xT] },ty,pos,af,gd⟩ L H nx Q:=by
 intro m F σ t M h2;have f:=Ko M h2 hs hb;obtain⟨hx1,l,hx2,J,S⟩:=hx m F σ t M h2;obtain⟨hlt,hr⟩:=M.hp b _ hb;have V:lenOf (ev t s)=some n:=by
  rcases hr with⟨C,Z,u⟩|⟨c,g,X,C,_⟩
  ·rcases u with⟨u,_⟩|⟨b',o',g',u,_⟩<;>rw[u] at f<;>simp only[FU,Df] at f<;>rw[f.1,Z]<;>rfl
  ·rw[C] at f;simp only[FU] at f;rw[f];rfl
 have happ:∀v m',BN m e i.size l k (ev t s)=some (v,m')→Jm E.P #[sT,xT] #[ev t s,ev t x] m=some (v,m'):=by
  intro v m' K;simp only[Jm,List.getElem?_toArray,List.getElem?_cons_zero,List.getElem?_cons_succ,xH,hxT,V,hi,hzs,Bool.not_true,Bool.false_eq_true,if_false];cases xd<;>first|exact absurd rfl (B _)|(simp only[hx1,hx2,S,Bool.and_true,decide_eq_true_eq];rw[if_pos U];exact K)
 have A:∀v m' Y,BN m e i.size l k (ev t s)=some (v,m')→Y=v→(Ctx E.Γ m' F (upd σ nx Y) ((nx,.vec e (cs++xs) (n+k) z)::hdel H b) (nx+1)∧Step m F σ H nx m' F (upd σ nx Y) ((nx,.vec e (cs++xs) (n+k) z)::hdel H b) (nx+1)) →
  (BK v=true∧FU v 0 (n+k) v)→Gy E.P E.O E.G ⟨dst,.call { callee:=.builtin .append,args:=#[s,x],argTypes:=#[sT,xT] },ty,pos,af,gd⟩ ⟨t,m⟩ fun v m'=>∃r H' nx' F' σ',Q r H' nx'∧Ctx E.Γ m' F' σ' H' nx'∧RP m' F' (htag H') σ' nx' r v∧Step m F σ H nx m' F' σ' H' nx'∧(true=false→Quiet m m'):=by
  rintro v m' Y K rfl ⟨c1,c2⟩ ⟨hv1,hv2⟩;refine Gy.op (v:=Y) (m':=m') (fun _=>?_) ⟨_,_,_,F,_,q,c1,?_,c2,fun h=>by cases h⟩
  ·have:=happ _ _ K
   simp only[BO,FI];grind
  ·refine .vec (bL _) hv1 fun j hj=>?_
   rw[JK,if_pos rfl] at hj;simp only[HB.tag,Option.some.injEq,Tg.vec.injEq] at hj;refine⟨by omega,fun _=>?_⟩;rw[upd_same];omega
 rcases hr with⟨C,Z,u⟩|⟨c,g,X,C,Z,u,r4,r5,r6,r7⟩
 ·have p:Dp (σ b)=none∧(ev t s=.slice none 0 0∧z=true∨(∃b o g,ev t s=.slice (some ⟨b,o,some g⟩) 0 0)∧z=false):=by
   rcases u with⟨u,N⟩|⟨b',o',g',u,N⟩
   ·rw[u] at f ⊢;exact⟨rfl,.inl ⟨f.1,N⟩⟩
   ·rw[u] at f ⊢;simp only[FU] at f;exact⟨rfl,.inr ⟨⟨_,_,_,f.1⟩,N⟩⟩
  subst C;subst Z;rcases bp k with h0|h0
  ·subst h0
   have hxs:xs=[]:=by
    have hl0:l.length=0:=by rw[DU hx2];omega
    rw[bu hl0] at J;cases J;rfl
   subst hxs;have K:BN m e i.size l 0 (ev t s)=some (ev t s,m):=by
    rcases p.2 with⟨p,_⟩|⟨⟨_,_,_,p⟩,_⟩<;>rw[p]<;>simp[BN]
   refine A _ _ _ K rfl ?_ (by rcases p.2 with⟨p,_⟩|⟨⟨_,_,_,p⟩,_⟩<;>rw[p]<;>refine⟨rfl,?_⟩<;>simp[FU]);refine M.move hb (ab _) (fun _ _ _=>rfl) (fun _ h _ _=>h) (fun c hc=>by rcases p.2 with⟨p,_⟩|⟨⟨_,_,_,p⟩,_⟩<;>rw[p] at hc<;>simp[Dp] at hc) ?_;refine .inl ⟨rfl,rfl,?_⟩;rcases p.2 with⟨p,N⟩|⟨⟨b',o',g',p⟩,N⟩
   ·exact .inl ⟨p,N⟩
   ·exact .inr ⟨b',o',g',p,N⟩
  ·have K:BN m e i.size l k (ev t s)=some (AQ m e l k):=by
    rcases p.2 with⟨p,_⟩|⟨⟨_,_,_,p⟩,_⟩<;>rw[p]<;>simp only[BN]<;>rw[if_neg (by omega)]
   refine A _ _ _ K rfl ?_ ⟨rfl,by rw[cz];rfl⟩;refine M.move (x0:=.vec e [] 0 z) (x':=.vec e ([]++xs) (0+k) z) hb (by simp[AQ,Mem.alloc]) (fun c hc _=>by(try simp only[AQ]);rw[Mem.Bj,if_neg (by omega)])
    (fun k' k1 k2 _=>by simp only[AQ,Mem.alloc];omega) (fun c hc=>by simp only[AQ,Dp,Option.some.injEq] at hc;right;omega) ?_
   refine .inr ⟨m.size,0,l,by simp[AQ],by simp[AQ,Mem.alloc],fun hf=>cr _ (M.fr _ hf),by(try simp only[AQ]);rw[Mem.Bj,if_pos rfl],?_,S,fun h=>by omega⟩;rw[gE];exact J.mono (fun c hf=>⟨hf,by(try simp only[AQ]);rw[Mem.Bj,if_neg (by have:=M.fr c hf;omega)]⟩)
 ·rw[C] at f
  simp only[FU] at f;have hlen:=r5.length;have hold:takeN (n*i.size) (X.drop 0)=some X:=by
   rw[cw,← hl,hlen];simp[takeN]
  have K:BN m e i.size l k (ev t s)=some (.slice (some ⟨c,0,none⟩) (n+k) (g+1),m.put c (.cells (X++l) e (g+1) false)):=by
   rw[f];simp only[BN,r4,beq_self_eq_true,decide_eq_true hsz,Bool.and_self,if_true,hold];simp
  have y:∀d,c≠d→(m.put c (.cells (X++l) e (g+1) false)).get d=m.get d:=fun d B=>by rw[Mem.get_put,if_neg B]
  refine A _ _ _ K rfl ?_ ⟨rfl,rfl⟩;refine M.move (x':=.vec e (cs++xs) (n+k) z) hb (ab _) (fun d _ B=>y d fun e=>B (by rw[C,e];rfl)) (fun k' k1 k2 k3=>by
   have:=k3 c (by rw[C];rfl);simp only[Mem.put];omega) (fun d B=>.inl (by rw[C];exact B)) ?_
  refine .inr ⟨c,g+1,X++l,rfl,Z,u,by rw[Mem.get_put,if_pos rfl],?_,by rw[ej,r6,S];rfl,fun h=>r7 (by omega)⟩;exact(r5.append J).mono (fun d B=>⟨B,y d fun e=>u (e▸B)⟩)
theorem xw{n k:Nat}{l ws:List Value}(h:takeN n l=some ws):takeN (min k n) l=some (ws.take k):=by
 obtain⟨rfl,d⟩:=FK h;unfold takeN;grind
theorem Dt.take{m:Mem}{F:Nat→Prop}:∀{cs:List FV} {vs:List Value} (k:Nat),Dt m F cs vs→Dt m F (cs.take k) (vs.take k)
 |_,_,0,_=>by exact .nil
 |_,_,_+1,.nil=>.nil
 |_,_,k+1,.cons h t=>.cons h (Dt.take k t)
theorem Aa.c0l{t:TypeId}{x:Operand}{B u:Option Operand}{e:TypeId}{cs:List FV}{n a b sz:Nat}{r:TypeInfo}(hx:AU E.Γ L x=some (.p (.lst e cs n)))(G:E.P.underlying t=some (.slice e))(d:E.P.info? e=some r)(J:r.size=sz)
 (s:match B with|none=>a=0|some o=>∃k,AU E.Γ L o=some (.p (.int k (a:Int)))) (y:match u with|none=>b=n|some o=>∃k,AU E.Γ L o=some (.p (.int k (b:Int)))) (O:a≤b) (N:b≤n) (hl:cs.length=n*sz)
 (q:Q (.p (.lst e ((cs.drop (a*sz)).take ((b-a)*sz)) (b-a))) H nx):Aa E w ⟨dst,.slice t x B u none,ty,pos,af,gd⟩ L H nx Q :=
 Aa.quiet q fun m F σ A C S=>by
  have j:bnd 0 (B.map (ev A))=some a:=by
   cases B with
   |none=>rw[s];rfl
   |some o =>
    obtain⟨k,M⟩:=s;simp only[Option.map_some,CQ C S M,bnd];rfl
  have U:bnd n (u.map (ev A))=some b:=by
   cases u with
   |none=>rw[y];rfl
   |some o =>
    obtain⟨k,M⟩:=y;simp only[Option.map_some,CQ C S M,bnd];rfl
  have z:n=0→bnd 0 (u.map (ev A))=some 0:=fun h0=>by grind
  have:=Bz C S hx;generalize hv:ev A x=v at this;cases this with
  |p K =>
   cases K with
   |nil =>
    have f:b=0:=by omega
    have h:a=0:=by omega
    subst f;subst h;refine⟨.slice none 0 0,fun _=>?_,.p (by simpa using RF.nil e)⟩;simp only[BO,FI,hv,aslice,Option.isSome_none,Option.map_none,Bool.false_and,Bool.false_eq_true,if_false,G,d,j,z rfl];rfl
   |room e' V Z g' =>
    have f:b=0:=by omega
    have h:a=0:=by omega
    subst f;subst h;refine⟨_,fun _=>?_,.p (by simpa using RF.room e V Z g')⟩;simp only[BO,FI,hv,aslice,Option.isSome_none,Option.map_none,Bool.false_and,Bool.false_eq_true,if_false,G,d,j,z rfl];rfl
   |lst Y X hw K hc =>
    rename_i V o g vs ws ro;refine⟨.slice (some ⟨V,o+a*sz,none⟩) (b-a) g,fun _=>?_,.p (.lst Y X (ws:=(ws.drop (a*sz)).take ((b-a)*sz)) ?_ (Dt.take _ (Dt.drop _ K)) (Vw (KA hc _) _))⟩
    ·simp only[BO,FI,hv,aslice,Option.isSome_none,Option.map_none,Bool.false_and,Bool.false_eq_true,if_false,G,d,j,U,X,O,N,C.fr _ Y,and_self,if_true,Option.map_some,J]
    ·have h3:=xw (k:=(b-a)*sz) (OU (k:=a*sz) hw)
     simp_all
theorem O5{α:Type}[Enc α]:∀(l:List α) (k:Nat),(cells l).take (k*Enc.size α)=cells (l.take k)
 |_,0=>by simp[cells,encs]
 |[],k+1=>by simp[cells,encs]
 |a::l,k+1=>by
  have d:=O5 l k;simp only[cells,encs,List.take_succ_cons] at d ⊢;rw[List.take_append,Enc.len,gr,← d,di (by rw[Enc.len];omega)];simp
theorem Aa.sliceTo{α:Type}{_:Enc α}{l:List α}{t:TypeId}{x o:Operand}{e:TypeId}{n b:Nat}{d:TypeInfo}{k:IntKind}(r:AU E.Γ L x=some (.p (.lst e (cells l) n)))(h:AU E.Γ L o=some (.p (.int k (b:Int))))(s:E.P.underlying t=some (.slice e))(g:E.P.info? e=some d)
 (f:d.size=Enc.size α) (u:l.length=n) (j:b≤n) (q:Q (.p (.lst e (cells (l.take b)) b)) H nx):Aa E w ⟨dst,.slice t x none (some o) none,ty,pos,af,gd⟩ L H nx Q :=
 Aa.c0l (a:=0) (b:=b) r s g f rfl ⟨k,h⟩ (an _) j (by rw[C9,u]) (by
  rw[gt,cw,Nat.sub_zero,O5];exact q)
theorem Aa.oU{t d:TypeId}{x y:Operand}{k k':IntKind}{m n:Nat}(f:AU E.Γ L x=some (.p (.int k (m:Int))))(e:AU E.Γ L y=some (.p (.int k' (n:Int))))(g:n≤k.bits)(q:Q (.p (.int k ((m / 2^n:Nat):Int))) H nx) :
 Aa E w ⟨dst,.binOp .shr t x y d,ty,pos,af,gd⟩ L H nx Q:=by
 refine Aa.shr f e (by omega) ?_;grind
end
section
open Go.Am
variable {E:Env}{L:Frame}{H:Heap}{nx:Nat}{Q:PV→Heap→Nat→Prop}{w:Bool}
variable {dst:Option Tmp}{ty:TypeId}{pos:String}{af:Array Edge}{gd:Option (Nat×Bool)}
theorem wrap_u64{n:Int}(d:0≤n)(h:n<18446744073709551616):IntKind.u64.wrap n=n:=by
 have e:IntKind.u64.wrap n=n%2^64:=by
  rfl
 omega
theorem wK{k:IntKind}{m n:Nat}(f:k=.i64∧m<2^63∨k=.u64∧m<2^64)(g:n<2^64):SE .and k m n=some (.int k ((m &&& n:Nat):Int)):=by
 have e:(BitVec.ofInt 64 (m:Int) &&& BitVec.ofInt 64 (n:Int)).toNat=m &&& n:=by grind
 have d:m &&& n≤m:=fu;rcases f with⟨rfl,h⟩|⟨rfl,h⟩
 ·show some (FV.int .i64 (IntKind.i64.wrap ((BitVec.ofInt 64 (m:Int) &&& BitVec.ofInt 64 (n:Int)).toNat:Int)))=_
  rw[e,wrap_i64 ⟨by omega,by omega⟩]
 ·show some (FV.int .u64 (IntKind.u64.wrap ((BitVec.ofInt 64 (m:Int) &&& BitVec.ofInt 64 (n:Int)).toNat:Int)))=_
  rw[e,wrap_u64 (by omega) (by omega)]
theorem b6i{m n:Nat}(f:m<2^64)(d:n<2^64):SE .or .u64 m n=some (.int .u64 ((m ||| n:Nat):Int)):=by
 have e:(BitVec.ofInt 64 (m:Int) ||| BitVec.ofInt 64 (n:Int)).toNat=m ||| n:=by grind
 show some (FV.int .u64 (IntKind.u64.wrap ((BitVec.ofInt 64 (m:Int) ||| BitVec.ofInt 64 (n:Int)).toNat:Int)))=_;rw[e,wrap_u64 (by omega) (by omega)]
theorem wH{m n:Nat}(g:m<2^64)(f:n<2^64):SE .andNot .u64 m n=some (.int .u64 ((m ^^^ (m &&& n):Nat):Int)):=by
 have e:(BitVec.ofInt 64 (m:Int) &&& ~~~ BitVec.ofInt 64 (n:Int)).toNat=m ^^^ (m &&& n):=by
  have d:BitVec.ofInt 64 (m:Int) &&& ~~~ BitVec.ofInt 64 (n:Int)=BitVec.ofInt 64 (m:Int) ^^^ (BitVec.ofInt 64 (m:Int) &&& BitVec.ofInt 64 (n:Int)):=by
   grind
  grind
 show some (FV.int .u64 (IntKind.u64.wrap ((BitVec.ofInt 64 (m:Int) &&& ~~~ BitVec.ofInt 64 (n:Int)).toNat:Int)))=_;rw[e,wrap_u64 (by omega) (by omega)]
theorem Aa.c5e{t d:TypeId}{x y:Operand}{m n:Nat}(f:AU E.Γ L x=some (.p (.int .u64 (m:Int))))(e:AU E.Γ L y=some (.p (.int .u64 (n:Int))))(h:m<2^64)(g:n<2^64)(q:Q (.p (.int .u64 ((m &&& n:Nat):Int))) H nx) :
 Aa E w ⟨dst,.binOp .and t x y d,ty,pos,af,gd⟩ L H nx Q:=Aa.int f e (wK (.inr ⟨rfl,h⟩) g) q
theorem Aa.orU{t d:TypeId}{x y:Operand}{m n:Nat}(f:AU E.Γ L x=some (.p (.int .u64 (m:Int))))(e:AU E.Γ L y=some (.p (.int .u64 (n:Int))))(h:m<2^64)(g:n<2^64)(q:Q (.p (.int .u64 ((m ||| n:Nat):Int))) H nx) :
 Aa E w ⟨dst,.binOp .or t x y d,ty,pos,af,gd⟩ L H nx Q:=Aa.int f e (b6i h g) q
theorem Aa.b6f{t d:TypeId}{x y:Operand}{m n:Nat}(f:AU E.Γ L x=some (.p (.int .u64 (m:Int))))(e:AU E.Γ L y=some (.p (.int .u64 (n:Int))))(h:m<2^64)(g:n<2^64)(q:Q (.p (.int .u64 ((m ^^^ (m &&& n):Nat):Int))) H nx) :
 Aa E w ⟨dst,.binOp .andNot t x y d,ty,pos,af,gd⟩ L H nx Q:=Aa.int f e (wH h g) q
theorem Aa.lY{t d:TypeId}{x y:Operand}{k':IntKind}{n:Nat}(f:AU E.Γ L x=some (.p (.int .u64 1)))(e:AU E.Γ L y=some (.p (.int k' (n:Int))))(r:n<64)(q:Q (.p (.int .u64 ((2^n:Nat):Int))) H nx) :
 Aa E w ⟨dst,.binOp .shl t x y d,ty,pos,af,gd⟩ L H nx Q:=by
 refine Aa.shl f e (by omega) ?_;have o:(min (n:Int).toNat IntKind.u64.bits)=n:=by simp only[Int.toNat_natCast,IntKind.bits];omega
 have j:(2:Nat)^n≤2^63:=ax (by omega) (by omega);have h:(1:Int)*2^n=((2^n:Nat):Int):=by simp
 have g:((2^n:Nat):Int)<18446744073709551616:=Int.ofNat_lt.2 (cx j (by decide));rw[o,h,wrap_u64 (Int.natCast_nonneg _) g];exact q
theorem Aa.c9s{t d:TypeId}{x y:Operand}{k:IntKind}{m n:Nat}(f:AU E.Γ L x=some (.p (.int k (m:Int))))(e:AU E.Γ L y=some (.p (.int k (n:Int))))(g:0<n)(q:Q (.p (.int k ((m%n:Nat):Int))) H nx) :
 Aa E w ⟨dst,.binOp .rem t x y d,ty,pos,af,gd⟩ L H nx Q:=Aa.int f e (r:=.int k ((m%n:Nat):Int)) (by
  simp only[SE];grind) q
theorem Aa.yj{t d:TypeId}{x y:Operand}{k:IntKind}{a c:Int}(f:AU E.Γ L x=some (.p (.int k a)))(e:AU E.Γ L y=some (.p (.int k c)))(h:0≤a)(g:0<c)(q:Q (.p (.int k (a%c))) H nx) :
 Aa E w ⟨dst,.binOp .rem t x y d,ty,pos,af,gd⟩ L H nx Q:=Aa.int f e (r:=.int k (a%c)) (by
  simp only[SE];grind) q
theorem Aa.Io{s d:TypeId}{x:Operand}{k':IntKind}{n:Int}{f:TypeDesc}(g:AU E.Γ L x=some (.p (.int k' n)))(h:E.P.underlying s=some f)(e:sF f=true)(o:E.P.underlying d=some (.int .i64))(j:-9223372036854775808≤n∧n<9223372036854775808)(q:Q (.p (.int .i64 n)) H nx) :
 Aa E w ⟨dst,.convert s d x,ty,pos,af,gd⟩ L H nx Q:=Aa.Zv g h e o (by rw[wrap_i64 j];exact q)
section
variable {bn:Nat}{ops:Array Oper}{op:Op}{l:List Oper}{i:Nat}{R:Frame→Heap→Nat→Prop}
theorem Aj.b9r{j d:Nat}{e:Bool}(b:Bool)(o:(ops[j]?).bind (·.dst)=some d)(q:Fv L d=some (.p (.bool b)))
 (f:b=true→Aj E bn ops (⟨dst,op,ty,pos,af,some (j,e)⟩::l) ((d,.p (.bool true))::L) H nx R) (g:b=false→Aj E bn ops (⟨dst,op,ty,pos,af,some (j,e)⟩::l) ((d,.p (.bool false))::L) H nx R) :
 Aj E bn ops (⟨dst,op,ty,pos,af,some (j,e)⟩::l) L H nx R :=
 Aj.guard (p:=b=true) o (by rw[q];cases b<;>rfl) f (fun h=>g (by grind))
end
theorem VZ{Γ:Nat→Option (List Value×TypeId)}{m:Mem}{F:Nat→Prop}{T:Nat→Option Tg}{σ:Nat→Value}{t:Tr Value}{ops:Array Oper}{o:Oper}{j d:Nat}{e:Bool}(f:RL m F T σ nx L t)(g:o.guard=some (j,e))(p:(ops[j]?).bind (·.dst)=some d)(q:Fv L d=some (.D5 [])) :
 Region.wanted o (Eo ops t)=false:=by
 have h:=f d _ q;generalize hv:Cm t d=v at h;cases h with
 |D5 h =>
  cases h;unfold Region.wanted;rw[g];simp only[Eo,p,hv];rfl
section
variable {bn:Nat}{ops:Array Oper}{op:Op}{l:List Oper}{i:Nat}{R:Frame→Heap→Nat→Prop}
theorem Aj.dB{j d:Nat}{e:Bool}(g:(ops[j]?).bind (·.dst)=some d)(o:Fv L d=some (.D5 []))(h:Aj E bn ops l (Ig L dst (.D5 [])) H nx R):Aj E bn ops (⟨dst,op,ty,pos,af,some (j,e)⟩::l) L H nx R:=by
 intro B p m F σ t r f q;exact Vf.skip (VZ (Γ:=E.Γ) f rfl g o) (h B p m F σ _ r (f.put (.D5 .nil)) q)
theorem Ag.dB{j d:Nat}{e:Bool}(g:(ops[j]?).bind (·.dst)=some d)(o:Fv L d=some (.D5 []))(h:Ag E bn ops (i+1) l (Ig L dst (.D5 [])) H nx R):Ag E bn ops i (⟨dst,op,ty,pos,af,some (j,e)⟩::l) L H nx R:=by
 intro B p m F σ t r f q;exact Jd.skip (VZ (Γ:=E.Γ) f rfl g o) (h B p _ F σ _ (r.at _) (RL.at (Γ:=E.Γ) _ (f.put (.D5 .nil))) (q.trans (Step.at0 _ _ _ _ _ _ (ab _))))
end
theorem mJ{n k b:Nat}(e:n+k<1000000)(d:b<1000000):(n+k)*(b+1)≤room:=am (cT (by omega:n+k≤1000000) (by omega:b+1≤1000000)) (by decide)
theorem Aa.b7f{α:Type}{_:Enc α}{l r:List α}{s x:Operand}{y u e e2:TypeId}{o:TypeDesc}{i:TypeInfo}{b n k:Nat}{z:Bool}(C:AU E.Γ L s=some (.vec b n 0 n))(N:hget H b=some (.vec e (cells l) n z))(B:AU E.Γ L x=some (.p (.lst e2 (cells r) k)))(G:l.length=n)(J:r.length=k)
 (A:E.P.underlying y=some (.slice e)) (h:E.P.underlying u=some o) (M:∀k,o≠.int k) (K:E.P.info? e=some i) (d:Enc.size α=i.size) (g:Ey i=true) (O:0<i.size) (j:i.bytes<1000000) (f:l.length+r.length<1000000)
 (q:Q (.vec nx (l.length+r.length) 0 (l.length+r.length)) ((nx,.vec e (cells (l++r)) (l.length+r.length) z)::hdel H b) (nx+1)):Aa E true ⟨dst,.call { callee:=.builtin .append,args:=#[s,x],argTypes:=#[y,u] },ty,pos,af,gd⟩ L H nx Q:=by
 subst G;subst J;refine appendMove' (i:=i) C N (qU.lst B (by rw[C9,d])) A h M K g (mJ f j) (by rw[C9,d]) O ?_;rw[← Gg];exact q
theorem Aa.U1{α:Type}{_:Enc α}{r:List α}{s x:Operand}{u o e e2:TypeId}{j:TypeDesc}{i:TypeInfo}{b k:Nat}{z:Bool}(C:AU E.Γ L s=some (.vec b 0 0 0))(M:hget H b=some (.vec e [] 0 z))(B:AU E.Γ L x=some (.p (.lst e2 (cells r) k)))(G:r.length=k)
 (A:E.P.underlying u=some (.slice e)) (f:E.P.underlying o=some j) (K:∀k,j≠.int k) (J:E.P.info? e=some i) (g:Enc.size α=i.size) (d:Ey i=true) (N:0<i.size) (h:i.bytes<1000000) (y:r.length<1000000)
 (q:Q (.vec nx r.length 0 r.length) ((nx,.vec e (cells r) r.length z)::hdel H b) (nx+1)):Aa E true ⟨dst,.call { callee:=.builtin .append,args:=#[s,x],argTypes:=#[u,o] },ty,pos,af,gd⟩ L H nx Q:=by
 refine Aa.b7f (l:=([]:List α)) C M B rfl G A f K J g d N h (by grind) ?_;grind
theorem Aj.Il(d:Nat){bn:Nat}{ops:Array Oper}{op:Op}{l:List Oper}{R:Frame→Heap→Nat→Prop}(h:Aj E bn ops (⟨some d,op,ty,pos,af,gd⟩::l) L H nx R):Aj E bn ops (⟨some d,op,ty,pos,af,gd⟩::l) L H nx R:=h
theorem Ag.Il(d:Nat){bn i:Nat}{ops:Array Oper}{op:Op}{l:List Oper}{R:Frame→Heap→Nat→Prop}(h:Ag E bn ops i (⟨some d,op,ty,pos,af,gd⟩::l) L H nx R):Ag E bn ops i (⟨some d,op,ty,pos,af,gd⟩::l) L H nx R:=h
theorem Ad.at(n:Nat){bn:Nat}{ops:Array Oper}{b:Bool}{k:Code}{Q:BH→Frame→Heap→Nat→Prop}(h:Ad E bn (.seq (.region n ops b) k) L H nx Q):Ad E bn (.seq (.region n ops b) k) L H nx Q:=h
theorem Ad.atEnd(n:Nat){bn:Nat}{ops:Array Oper}{b:Bool}{Q:BH→Frame→Heap→Nat→Prop}(h:Ad E bn (.region n ops b) L H nx Q):Ad E bn (.region n ops b) L H nx Q:=h
theorem a0v{α:Type}{_:Enc α}{e:TypeId}{l:List α}{n:Nat}(h:n=l.length):(PV.p (.lst e (cells l) n))=lst e l :=by grind
theorem le_dec{a b:Nat}(h:Nat.ble a b=true):a≤b :=by simp_all
theorem Ba{a b:Nat}(h:Nat.blt a b=true):a<b :=by simp_all
section
variable {L:Frame}{H:Heap}
theorem F5.eq{k i:Nat}{v0:PV}{L0:Frame}(d:Fv L i=some v0)(e:v0.under k)(t:F5 k L0 L):F5 k ((i,v0)::L0) L:=⟨⟨e,v0,d,.refl _⟩,t⟩
theorem BF.eq{k i:Nat}{v0:HB}{L0:Heap}(d:hget H i=some v0)(f:i<k)(e:v0.under k)(t:BF k L0 H):BF k ((i,v0)::L0) H:=⟨⟨f,e,v0,d,.refl _⟩,t⟩
mutual
def PV.ub(k:Nat):PV→Bool
 | .p _=>true
 | .agg cs=>CV.ub k cs
 | .D5 cs=>CV.ub k cs
 | .vec b _ _ _=>Nat.blt b k
 | .ref b _=>Nat.blt b k
 | .E8 b _ _=>Nat.blt b k
 | .mref b=>Nat.blt b k
 | .clo _ fs cs=>and (CV.ub k fs) (CV.ub k cs)
def CV.ub(k:Nat):List PV→Bool
 |[]=>true
 |c::cs=>and (PV.ub k c) (CV.ub k cs)
end
mutual
theorem PV.AA{k:Nat}:∀{x:PV},PV.ub k x=true→x.under k
 | .p _,_=>trivial
 | .agg _,h=>CV.AA (by simpa[PV.ub] using h)
 | .D5 _,h=>CV.AA (by simpa[PV.ub] using h)
 | .vec _ _ _ _,h=>Ba h
 | .ref _ _,h=>Ba h
 | .E8 _ _ _,h=>Ba h
 | .mref _,h=>Ba h
 | .clo _ _ _,h=>by
  simp only[PV.ub,Bool.and_eq_true] at h;exact⟨CV.AA h.1,CV.AA h.2⟩
theorem CV.AA{k:Nat}:∀{x:List PV},CV.ub k x=true→CV.under k x
 |[],_=>trivial
 |_::_,h=>by
  simp only[CV.ub,Bool.and_eq_true] at h;exact⟨PV.AA h.1,CV.AA h.2⟩
end
def HB.ub(k:Nat):HB→Bool
 | .box _ cs=>CV.ub k cs
 | .EX _ cs _=>CV.ub k cs
 | .JZ _ cs=>CV.ub k cs
 |_=>true
theorem HB.AA{k:Nat}{x:HB}(h:HB.ub k x=true):x.under k:=by
 cases x with
 |box e d=>exact CV.AA h
 |EX e d n=>exact CV.AA h
 |JZ f d=>exact CV.AA h
 |vec=>trivial
 |map=>trivial
end
theorem Du{k:Nat}{a b:Frame}(h:F5 k a b:=by repeat(first|exact F5.nil|refine F5.same (by exact PV.AA rfl) rfl ?_|refine F5.same ⟨CV.Bg _ [_],trivial⟩ rfl ?_|refine F5.cons trivial rfl (.of_eq (a0v (by simp<;>omega))) ?_)):F5 k a b:=h
theorem Qb{k:Nat}{a b:Frame}(h:F5 k a b:=by repeat(first|exact F5.nil|refine F5.same (by exact PV.AA rfl) rfl ?_|refine F5.same ⟨CV.Bg _ [_],trivial⟩ rfl ?_|(refine F5.eq rfl ?_ ?_;(first|exact PV.AA rfl|(simp[PV.under,CV.under];done)))|refine F5.cons trivial rfl (.of_eq (a0v (by simp<;>omega))) ?_)):F5 k a b:=h
theorem Ec{k:Nat}{a b:Heap}(h:BF k a b:=by repeat(first|exact BF.nil|(refine BF.cons (Ba rfl) ?_ rfl ?_ ?_;(first|exact HB.AA rfl|exact CV.Bg _ _|(simp[HB.under,CV.under,PV.under]));(first|exact Kw.refl _|exact Kw.vec (JB.refl _) (by simp))))):BF k a b:=h
theorem Tt{k:Nat}{a b:Heap}(h:BF k a b:=by repeat(first|exact BF.nil|(refine BF.eq rfl (Ba rfl) ?_ ?_;(first|exact HB.AA rfl|exact CV.Bg _ _|(simp[HB.under,CV.under,PV.under];done)))|(refine BF.cons (Ba rfl) ?_ rfl ?_ ?_;(first|exact HB.AA rfl|exact CV.Bg _ _|(simp[HB.under,CV.under,PV.under]));(first|exact Kw.refl _|exact Kw.vec (JB.refl _) (by simp))))):BF k a b:=h
theorem Done.rt{P:Program}{rs:List ResultVar}{L:Frame}{H:Heap}{nx:Nat}{Q:PV→Heap→Nat→Prop}{r:PV}(h:EI P rs L H=some r)(d:PV.ub 0 r=true)(q:Q r [] 0):Done P rs 0 Q .ret L H nx:=Done.ret h (.refl _) (PV.AA d) BF.nil (an _) (ab _) q
end
end Go.Vm
