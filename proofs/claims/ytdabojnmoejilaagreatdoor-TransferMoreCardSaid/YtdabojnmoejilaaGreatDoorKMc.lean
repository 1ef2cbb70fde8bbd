/-
  Texts of a proof, merged (VmB, VmC, VmD, Shelf, NumA, WA, Lib1, OraA, Shell, Am23, VmE, Vm30, Orq). Conditions: in each statement.
-/
import Derived.Laws.Strings
import Derived.Laws.Strings2
import Derived.Laws.Concat
import Derived.Shelf.Strings.Builder1
import Derived.Shelf.Strings.Builder2
import Derived.Shelf.Small.Strs
import Derived.Shelf.Strings.BuilderF
import Derived.Shelf.Strings.BuilderK
import Derived.Shelf.Strconv.Itoa0
import Derived.Shelf.Strconv.Itoa1
import Derived.Shelf.LaysM
import Derived.Shelf.Strconv.Itoa2
import Derived.Shelf.Strconv.Itoa3
import Derived.Shelf.Strings.Prefix
import Derived.Shelf.Bits.Mul64
import Derived.Shelf.Strings.Repeat
import Derived.Test.YtdabojnmoejilaaGreatDoorProg
import Derived.Lib.ItoaNum
import Derived.Lib.Bytealg
import Derived.Lib.AppendIntMem
import Derived.Lib.OthersKept
import Derived.Lib.Walk
import Derived.WalkKit
import Derived.BigCall
import Derived.BigGuard
import Derived.RangeFuncBox
import Derived.RangeFuncLeaves
import Derived.RangeFuncBound
import Derived.RangeFuncCalls
import Derived.Shelf.Abstract
import Derived.OwnWalkIn
import Derived.TacticsInMore
import Derived.LoopNIn
import Derived.LoopIn
import Derived.Laws.AppendOwn
import Derived.Test.YtdabojnmoejilaaGreatDoorTie
import Derived.ProofKit
import Derived.LaidMore
import Derived.OpenShut
import Derived.Below
import Derived.MakeChecks
import Derived.Stop.Joined
import Derived.Test.YtdabojnmoejilaaGreatDoorKMb
set_option linter.unusedSimpArgs false
set_option linter.unusedVariables false
set_option linter.unusedSectionVars false
set_option maxRecDepth 100000
set_option maxHeartbeats 8000000
namespace Go.Vm
open Go.Am
variable {E:Env} {L:Frame} {H:Heap} {nx:Nat} {Q:PV→Heap→Nat→Prop} {w:Bool}
variable {dst:Option Tmp} {ty:TypeId} {pos:String} {af:Array Edge} {gd:Option (Nat×Bool)}
def gi {α:Type} [Inhabited α] (l:List α) (k:Nat):α:=(l[k]?).getD default
def encs {α:Type} (enc:α→List FV):List α→List FV
 |[]=>[]
 |a::l=>enc a++encs enc l
class Enc (α:Type) extends Inhabited α where
 enc:α→List FV
 size:Nat
 len:∀ a,(enc a).length=size
section
variable {α:Type} [Enc α]
abbrev cells (l:List α):List FV:=encs Enc.enc l
theorem BF (l:List α):(cells l).length=l.length*Enc.size α:=by
 induction l with
 |nil=>simp [cells,encs]
 |cons a l ih=>simp only [cells,encs,List.length_append,Enc.len,List.length_cons,Nat.succ_mul] at ih ⊢;omega
theorem ZF (a:α) (l:List α) (k:Nat):gi (a::l) (k+1)=gi l k:=rfl
theorem Ju:∀ (l:List α) (k:Nat),k<l.length→(cells l).drop (k*Enc.size α)=Enc.enc (gi l k)++cells (l.drop (k+1))
 |a::l,0,_=>by simp [cells,encs,gi]
 |a::l,k+1,h=>by
  have ih:=Ju l k (by simpa using h)
  simp only [cells,encs,List.drop_succ_cons,ZF] at ih ⊢
  rw [← ih,List.drop_append,Enc.len,List.drop_eq_nil_of_le (by rw [Enc.len,Nat.succ_mul];omega)]
  simp [Nat.succ_mul]
 |[],_,h=>by simp at h
theorem Ee:∀ (l r:List α),cells (l++r)=cells l++cells r
 |[],_=>rfl
 |a::l,r=>by simp only [cells,encs,List.cons_append,List.append_assoc];rw [← Ee l r]
end
instance:Enc Int:={ default:=0,enc:=fun n=>[.int .i64 n],size:=1,len:=fun _=>rfl }
theorem Aa.ZC {α:Type} {_:Enc α} {t:TypeId} {x ix:Operand} {e:TypeId} {l:List α} {n:Nat} {k:IntKind} {i:Int} (hx:Bq E.Γ L x=some (.p (.lst e (cells l) n))) (hi:Bq E.Γ L ix=some (.p (.int k i)))
 (hs:elemSize E.P t=some (Enc.size α)) (h0:0≤i) (h1:i<l.length) (hn:l.length=n) (q:Q (.p (.Gp (Enc.enc (gi l i.toNat)++cells (l.drop (i.toNat+1))))) H nx):Aa E w ⟨dst,.indexAddr t x ix,ty,pos,af,gd⟩ L H nx Q :=
 Aa.SS hx hi hs h0 (by rw [← hn];exact h1) (by rw [Ju l i.toNat (by omega)];exact q)
theorem Aa.A8 {α:Type} {_:Enc α} {t:TypeId} {x ix:Operand} {e:TypeId} {l:List α} {n:Nat} {k:IntKind} {i:Nat} (hx:Bq E.Γ L x=some (.p (.lst e (cells l) n))) (hi:Bq E.Γ L ix=some (.p (.int k (i:Int))))
 (hs:elemSize E.P t=some (Enc.size α)) (h1:i<l.length) (hn:l.length=n) (q:Q (.p (.Gp (Enc.enc (gi l i)++cells (l.drop (i+1))))) H nx):Aa E w ⟨dst,.indexAddr t x ix,ty,pos,af,gd⟩ L H nx Q :=
 Aa.ZC hx hi hs (by omega) (by omega) hn q
theorem Aa.wJ {α:Type} {_:Enc α} {t:TypeId} {x ix:Operand} {e:TypeId} {l:List α} {n:Nat} {k:IntKind} {i:Nat} (hx:Bq E.Γ L x=some (.p (.lst e (cells l) n))) (hi:Bq E.Γ L ix=some (.p (.int k ((i:Int)-1))))
 (hs:elemSize E.P t=some (Enc.size α)) (h0:0<i) (h1:i-1<l.length) (hn:l.length=n) (q:Q (.p (.Gp (Enc.enc (gi l (i-1))++cells (l.drop (i-1+1))))) H nx):Aa E w ⟨dst,.indexAddr t x ix,ty,pos,af,gd⟩ L H nx Q :=
 Aa.ZC hx hi hs (by omega) (by omega) hn (by rw [show ((i:Int)-1).toNat=i-1 by omega];exact q)
abbrev lst {α:Type} [Enc α] (e:TypeId) (l:List α):PV:=.p (.lst e (cells l) l.length)
section
variable {bn:Nat} {ops:Array Oper} {op:Op} {l:List Oper} {i:Nat} {R:Frame→Heap→Nat→Prop}
theorem Ag.one (h:Aa E true ⟨dst,op,ty,pos,af,none⟩ L H nx fun r H' nx'=>Ag E bn ops l (LQ L dst r) H' nx' R):Ag E bn ops (⟨dst,op,ty,pos,af,none⟩::l) L H nx R:=Ag.cons rfl h
theorem Ag.take {j d:Nat} {want:Bool} (hd:(ops[j]?).bind (·.dst)=some d) (hb:G7 L d=some (.p (.bool want))) (h:Aa E true ⟨dst,op,ty,pos,af,some (j,want)⟩ L H nx fun r H' nx'=>Ag E bn ops l (LQ L dst r) H' nx' R) :
 Ag E bn ops (⟨dst,op,ty,pos,af,some (j,want)⟩::l) L H nx R:=Ag.cons ⟨want,d,hd,hb,by cases want<;>rfl⟩ h
theorem Ag.drop {j d:Nat} {want b:Bool} (hd:(ops[j]?).bind (·.dst)=some d) (hb:G7 L d=some (.p (.bool b))) (hne:(b==want)=false) (h:Ag E bn ops l (LQ L dst (.ET [])) H nx R) :
 Ag E bn ops (⟨dst,op,ty,pos,af,some (j,want)⟩::l) L H nx R:=Ag.skip ⟨b,d,hd,hb,hne.symm⟩ h
theorem Ar.drop {j d:Nat} {want b:Bool} (hd:(ops[j]?).bind (·.dst)=some d) (hb:G7 L d=some (.p (.bool b))) (hne:(b==want)=false) (h:Ar E bn ops (i+1) l (LQ L dst (.ET [])) H nx R) :
 Ar E bn ops i (⟨dst,op,ty,pos,af,some (j,want)⟩::l) L H nx R:=Ar.skip ⟨b,d,hd,hb,hne.symm⟩ h
theorem Ag.guard {j d:Nat} {want:Bool} {p:Prop} {_:Decidable p} (hd:(ops[j]?).bind (·.dst)=some d) (hb:G7 L d=some (.p (.bool (decide p))))
 (ht:p→Ag E bn ops (⟨dst,op,ty,pos,af,some (j,want)⟩::l) ((d,.p (.bool true))::L) H nx R) (hf:¬ p→Ag E bn ops (⟨dst,op,ty,pos,af,some (j,want)⟩::l) ((d,.p (.bool false))::L) H nx R) :
 Ag E bn ops (⟨dst,op,ty,pos,af,some (j,want)⟩::l) L H nx R:=Ag.split rfl hd hb ht hf
theorem Ar.guard {j d:Nat} {want:Bool} {p:Prop} {_:Decidable p} (hd:(ops[j]?).bind (·.dst)=some d) (hb:G7 L d=some (.p (.bool (decide p))))
 (ht:p→Ar E bn ops i (⟨dst,op,ty,pos,af,some (j,want)⟩::l) ((d,.p (.bool true))::L) H nx R) (hf:¬ p→Ar E bn ops i (⟨dst,op,ty,pos,af,some (j,want)⟩::l) ((d,.p (.bool false))::L) H nx R) :
 Ar E bn ops i (⟨dst,op,ty,pos,af,some (j,want)⟩::l) L H nx R:=Ar.split rfl hd hb ht hf
def AO (E:Env) (bn:Nat) (k:Code) (Q:CG→Frame→Heap→Nat→Prop) (e:CG) (L:Frame) (H:Heap) (nx:Nat):Prop :=
 match e with
 | .normal=>Ae E bn k L H nx Q
 | .ret=>Q .ret L H nx
 | .exit i=>Q (.exit i) L H nx
def AL (id:Nat) (Q:CG→Frame→Heap→Nat→Prop) (e:CG) (L:Frame) (H:Heap) (nx:Nat):Prop :=
 match e with
 | .normal=>Q .normal L H nx
 | .ret=>Q .ret L H nx
 | .exit i=>if i=id then Q .normal L H nx else Q (.exit i) L H nx
def Az (I:Frame→Heap→Nat→Prop) (Q:CG→Frame→Heap→Nat→Prop) (e:CG) (L:Frame) (H:Heap) (nx:Nat):Prop :=
 match e with
 | .normal=>I L H nx
 | .ret=>Q .ret L H nx
 | .exit i=>Q (.exit i) L H nx
variable {Q:CG→Frame→Heap→Nat→Prop} {I:Frame→Heap→Nat→Prop} {a b c k:Code} {id:Nat} {x:Operand}
theorem AO.normal (h:Ae E bn k L H nx Q):AO E bn k Q .normal L H nx:=h
theorem AO.ret (h:Q .ret L H nx):AO E bn k Q .ret L H nx:=h
theorem AO.exit (h:Q (.exit i) L H nx):AO E bn k Q (.exit i) L H nx:=h
theorem AL.normal (h:Q .normal L H nx):AL id Q .normal L H nx:=h
theorem AL.ret (h:Q .ret L H nx):AL id Q .ret L H nx:=h
theorem AL.exit (h:Q .normal L H nx):AL id Q (.exit id) L H nx:=by simp only [AL,if_true];exact h
theorem AL.out (hi:i≠id) (h:Q (.exit i) L H nx):AL id Q (.exit i) L H nx:=by simp only [AL,if_neg hi];exact h
theorem Az.normal (h:I L H nx):Az I Q .normal L H nx:=h
theorem Az.ret (h:Q .ret L H nx):Az I Q .ret L H nx:=h
theorem Az.exit (h:Q (.exit i) L H nx):Az I Q (.exit i) L H nx:=h
theorem Ae.to (h:Ae E bn a L H nx (AO E bn k Q)):Ae E bn (.seq a k) L H nx Q :=
 Ae.seq (h.mono fun e _ _ _ q=>by cases e<;>exact q)
theorem Ae.AA (h:Ag E bn ops ops.toList L H nx fun L' H' nx'=>Ae E bn k L' H' nx' Q):Ae E bn (.seq (.region id ops false) k) L H nx Q:=Ae.seq (Ae.region h)
theorem Ae.BM (h:Ar E bn ops 0 ops.toList L H nx fun L' H' nx'=>Ae E bn k L' H' nx' Q):Ae E bn (.seq (.region id ops true) k) L H nx Q:=Ae.seq (Ae.F9 h)
theorem Ae.assoc (h:Ae E bn (.seq a (.seq b c)) L H nx Q):Ae E bn (.seq (.seq a b) c) L H nx Q:=by
 intro B hB m F σ t h1 h2 h3
 obtain ⟨e,s,⟨K,hk⟩,q⟩:=h B hB m F σ t h1 h2 h3
 refine ⟨e,s,⟨K,fun N D hN hD=>?_⟩,q⟩
 have:=hk N D hN hD
 simp only [CU] at this ⊢
 cases ha:CU E.P (EH E.P E.O E.G N D) N a ⟨t,m⟩ with
 |none=>rw [ha] at this;cases this
 |some r =>
  rw [ha] at this
  obtain ⟨e1,s1⟩:=r
  cases e1<;>simpa using this
theorem Ae.Aq (h:Ae E bn k L H nx Q):Ae E bn (.seq .skip k) L H nx Q:=Ae.seq (Ae.skip h)
theorem Ae.BO (h:Q .ret L H nx):Ae E bn (.seq .ret k) L H nx Q:=Ae.seq (Ae.ret h)
theorem Ae.Ba (h:Q (.exit i) L H nx):Ae E bn (.seq (.exit i) k) L H nx Q:=Ae.seq (Ae.exit h)
theorem Ae.Ai (h:Ae E bn a L H nx (AL id (AO E bn k Q))):Ae E bn (.seq (.block id a) k) L H nx Q :=
 Ae.to (Ae.block (h.mono fun e _ _ _ q=>by cases e<;>exact q))
theorem Ae.I8 (h:Ae E bn a L H nx (AL id Q)):Ae E bn (.block id a) L H nx Q :=
 Ae.block (h.mono fun e _ _ _ q=>by cases e<;>exact q)
theorem Ae.Q7 (t:Bool) (hc:Bq E.Γ L x=some (.p (.bool t))) (ht:t=true→Ae E bn (.seq a k) L H nx Q) (hf:t=false→Ae E bn (.seq b k) L H nx Q):Ae E bn (.seq (.cond x a b) k) L H nx Q:=by
 intro B hB m F σ u h1 h2 h3
 have hx:=Ib h1 h2 hc
 cases t with
 |true =>
  obtain ⟨e',s,⟨K,hk⟩,q⟩:=ht rfl B hB m F σ u h1 h2 h3
  exact ⟨e',s,⟨K,fun N D hN hD=>by have:=hk N D hN hD;simp only [CU,hx] at this ⊢;exact this⟩,q⟩
 |false =>
  obtain ⟨e',s,⟨K,hk⟩,q⟩:=hf rfl B hB m F σ u h1 h2 h3
  exact ⟨e',s,⟨K,fun N D hN hD=>by have:=hk N D hN hD;simp only [CU,hx] at this ⊢;exact this⟩,q⟩
theorem Ae.Bf (hc:Bq E.Γ L x=some (.p (.bool true))) (ht:Ae E bn (.seq a k) L H nx Q):Ae E bn (.seq (.cond x a b) k) L H nx Q:=Ae.Q7 true hc (fun _=>ht) (fun h=>by cases h)
theorem Ae.Au (hc:Bq E.Γ L x=some (.p (.bool false))) (hf:Ae E bn (.seq b k) L H nx Q):Ae E bn (.seq (.cond x a b) k) L H nx Q:=Ae.Q7 false hc (fun h=>by cases h) (fun _=>hf)
theorem Ae.Af {p:Prop} {_:Decidable p} (hc:Bq E.Γ L x=some (.p (.bool (decide p)))) (ht:p→Ae E bn (.seq a k) L H nx Q) (hf:¬ p→Ae E bn (.seq b k) L H nx Q):Ae E bn (.seq (.cond x a b) k) L H nx Q :=
 Ae.Q7 (decide p) hc (fun h=>ht (of_decide_eq_true h)) (fun h=>hf (of_decide_eq_false h))
theorem Ae.D6 {α:Type} (Lf:α→Frame) (Hf:α→Heap) (DR:Nat) (inv:α→Prop) (μ:α→Nat) (a0:α) (hb:bn≤DR) (h0:inv a0) (hc:VW L H nx (Lf a0) (Hf a0) DR)
 (hs:∀ s,inv s→Ae E bn a (Lf s) (Hf s) DR (Az (fun L' H' nx'=>∃ s',inv s'∧μ s'<μ s∧VW L' H' nx' (Lf s') (Hf s') DR) Q)):Ae E bn (.loop a) L H nx Q :=
 Ae.loop Lf Hf DR inv μ a0 hb h0 hc fun s hi=>(hs s hi).mono fun e _ _ _ q=>by cases e<;>exact q
theorem Ad.nil {k:Nat}:Ad k [] L:=trivial
theorem Ad.cons {k i:Nat} {v v0:PV} {L0:Frame} (hu:v0.under k) (hv:G7 L i=some v) (hle:pG v v0) (t:Ad k L0 L):Ad k ((i,v0)::L0) L:=⟨⟨hu,v,hv,hle⟩,t⟩
theorem Ad.same {k i:Nat} {v0:PV} {L0:Frame} (hu:v0.under k) (hv:G7 L i=some v0) (t:Ad k L0 L):Ad k ((i,v0)::L0) L:=⟨⟨hu,v0,hv,.refl _⟩,t⟩
theorem Aj.nil {k:Nat}:Aj k [] H:=trivial
theorem Aj.cons {k i:Nat} {v v0:HB} {L0:Heap} (hi:i<k) (hu:v0.under k) (hv:hget H i=some v) (hle:Bo v v0) (t:Aj k L0 H):Aj k ((i,v0)::L0) H:=⟨⟨hi,hu,v,hv,hle⟩,t⟩
theorem Done.ret {P:Program} {rs:List ResultVar} {Q:PV→Heap→Nat→Prop} {r r0:PV} {H0:Heap} {DR:Nat} (h:EF P rs L H=some r0) (hle:pG r0 r) (hu:r.under DR) (hH:Aj DR H0 H) (hn:DR≤nx) (hb:bn≤DR) (q:Q r H0 DR):Done P rs bn Q .ret L H nx :=
 ⟨r0,h,r,H0,DR,hle,hu,hH,hn,hb,q⟩
end
end Go.Vm
namespace Go.Vm
open Go.Am
variable {E:Env} {L:Frame} {H:Heap} {nx:Nat} {Q:PV→Heap→Nat→Prop} {w:Bool}
variable {dst:Option Tmp} {ty:TypeId} {pos:String} {af:Array Edge} {gd:Option (Nat×Bool)}
mutual
def PV.rn (ρ:Nat→Nat):PV→PV
 | .p x=>.p x
 | .agg cs=>.agg (AU.rn ρ cs)
 | .ET cs=>.ET (AU.rn ρ cs)
 | .vec b tag off len=>.vec (ρ b) tag off len
 | .ref b off=>.ref (ρ b) off
 | .DU b tag off=>.DU (ρ b) tag off
 | .mref b=>.mref (ρ b)
 | .clo f fs cs=>.clo f (AU.rn ρ fs) (AU.rn ρ cs)
def AU.rn (ρ:Nat→Nat):List PV→List PV
 |[]=>[]
 |c::cs=>PV.rn ρ c::AU.rn ρ cs
end
def HB.rn (ρ:Nat→Nat):HB→HB
 | .box e cs=>.box e (AU.rn ρ cs)
 | .vec e cs n z=>.vec e cs n z
 | .map es=>.map es
 | .EX e cs n=>.EX e (AU.rn ρ cs) n
theorem HB.wK (ρ:Nat→Nat) (x:HB):(x.rn ρ).tag=x.tag:=by cases x<;>rfl
section
variable {m:Mem} {F:Nat→Prop} {T T':Nat→Option Tg} {σ σ':Nat→Value} {n n':Nat} {ρ:Nat→Nat}
mutual
theorem RP.rn (h:∀ b,b<n→ρ b<n'∧T' (ρ b)=T b∧σ' (ρ b)=σ b):∀ {x:PV} {v:Value},RP m F T σ n x v→RP m F T' σ' n' (x.rn ρ) v
 |_,_,.p r=>.p r
 |_,_,.agg r hc=>.agg (Dz.rn h r) hc
 |_,_,.ET r=>.ET (Dz.rn h r)
 |_,_,.vec hb hc r=>.vec (h _ hb).1 hc (by rw [(h _ hb).2.1,(h _ hb).2.2];exact r)
 |_,_,.ref hb hc r=>.ref (h _ hb).1 hc (by rw [(h _ hb).2.1,(h _ hb).2.2];exact r)
 |_,_,.DU hb hc r=>.DU (h _ hb).1 hc (by rw [(h _ hb).2.1,(h _ hb).2.2];exact r)
 |_,_,.mref hb hc r=>.mref (h _ hb).1 hc (by rw [(h _ hb).2.1,(h _ hb).2.2];exact r)
 |_,_,.clo r1 r2=>.clo (Dz.rn h r1) (Dz.rn h r2)
theorem Dz.rn (h:∀ b,b<n→ρ b<n'∧T' (ρ b)=T b∧σ' (ρ b)=σ b):∀ {x:List PV} {v:List Value},Dz m F T σ n x v→Dz m F T' σ' n' (AU.rn ρ x) v
 |_,_,.nil=>.nil
 |_,_,.cons r t=>.cons (RP.rn h r) (Dz.rn h t)
end
mutual
theorem RP.Uy (h:∀ b,b<n→(∀ t,T b=some t→T' (ρ b)=some t)∧σ' (ρ b)=σ b):∀ {x:PV} {v:Value},x.under n→RP m F T' σ' n' (x.rn ρ) v→RP m F T σ n x v
 | .p _,_,_,r=>by cases r with|p r=>exact .p r
 | .agg cs,_,hu,r=>by
  simp only [PV.rn] at r
  cases r with|agg r hc=>exact .agg (Dz.Uy h hu r) hc
 | .ET cs,_,hu,r=>by
  simp only [PV.rn] at r
  cases r with|ET r=>exact .ET (Dz.Uy h hu r)
 | .vec b tag off len,_,hu,r=>by
  simp only [PV.rn] at r
  cases r with
  |vec hb hc r =>
   refine .vec hu hc fun k hk=>?_
   have:=r k ((h b hu).1 _ hk)
   rw [(h b hu).2] at this
   exact this
 | .ref b off,_,hu,r=>by
  simp only [PV.rn] at r
  cases r with
  |ref hb hc r =>
   refine .ref hu hc fun hk=>?_
   have:=r ((h b hu).1 _ hk)
   rw [(h b hu).2] at this
   exact this
 | .DU b tag off,_,hu,r=>by
  simp only [PV.rn] at r
  cases r with
  |DU hb hc r =>
   refine .DU hu hc fun k hk=>?_
   have:=r k ((h b hu).1 _ hk)
   rw [(h b hu).2] at this
   exact this
 | .mref b,_,hu,r=>by
  simp only [PV.rn] at r
  cases r with
  |mref hb hc r =>
   refine .mref hu hc fun hk=>?_
   have:=r ((h b hu).1 _ hk)
   rw [(h b hu).2] at this
   exact this
 | .clo f fs cs,_,hu,r=>by
  simp only [PV.rn] at r
  cases r with|clo r1 r2=>exact .clo (Dz.Uy h hu.1 r1) (Dz.Uy h hu.2 r2)
theorem Dz.Uy (h:∀ b,b<n→(∀ t,T b=some t→T' (ρ b)=some t)∧σ' (ρ b)=σ b):∀ {x:List PV} {v:List Value},AU.under n x→Dz m F T' σ' n' (AU.rn ρ x) v→Dz m F T σ n x v
 |[],_,_,r=>by cases r;exact .nil
 |c::cs,_,hu,r=>by cases r with|cons r t=>exact .cons (RP.Uy h hu.1 r) (Dz.Uy h hu.2 t)
end
end
def idx:List Nat→Nat→Option Nat
 |[],_=>none
 |a::l,b=>match Nat.decEq a b with
  | .isTrue _=>some 0
  | .isFalse _=>(idx l b).map (·+1)
theorem ZW:∀ {l:List Nat} {b i:Nat},idx l b=some i→l[i]?=some b
 |a::l,b,i,h=>by
  simp only [idx] at h
  split at h
  ·rename_i e _;cases h;subst e;rfl
  ·simp only [Option.map_eq_some_iff] at h
   obtain ⟨j,h1,rfl⟩:=h
   simpa using ZW h1
theorem wR:∀ {l:List Nat} {b i:Nat},l.Nodup→l[i]?=some b→idx l b=some i
 |[],_,_,_,h=>by simp at h
 |a::l,b,i,hn,h=>by
  simp only [List.nodup_cons] at hn
  cases i with
  |zero =>
   simp only [List.getElem?_cons_zero,Option.some.injEq] at h
   subst h
   simp only [idx]
   cases hd:Nat.decEq a a with
   |isTrue _=>rfl
   |isFalse e=>exact absurd rfl e
  |succ i =>
   simp only [List.getElem?_cons_succ] at h
   have hne:a≠b:=fun e=>hn.1 (e▸List.mem_of_getElem? h)
   simp only [idx]
   cases hd:Nat.decEq a b with
   |isTrue e=>exact absurd e hne
   |isFalse _=>simp only [wR hn.2 h,Option.map_some]
def rho (ns:List Nat) (nx:Nat) (i:Nat):Nat :=
 match ns[i]? with
 |some b=>b
 |none=>nx+(i-ns.length)
def merge (ns:List Nat) (ρ:Nat→Nat) (H':Heap):Heap→Heap
 |[]=>[]
 |(b,x)::H=>match idx ns b with
  |none=>(b,x)::merge ns ρ H' H
  |some i=>match hget H' i with
   |some y=>(b,y.rn ρ)::merge ns ρ H' H
   |none=>merge ns ρ H' H
def news (k:Nat) (ρ:Nat→Nat):Heap→Heap→Heap
 |[],H=>H
 |(i,x)::H',H=>match Nat.decLt i k with
  | .isTrue _=>news k ρ H' H
  | .isFalse _=>(ρ i,x.rn ρ)::news k ρ H' H
theorem GH {ns:List Nat} {ρ:Nat→Nat} {H':Heap}:∀ {H:Heap} {b:Nat},idx ns b=none→hget (merge ns ρ H' H) b=hget H b
 |[],_,_=>rfl
 |(a,x)::H,b,h=>by
  have ih:=GH (ns:=ns) (ρ:=ρ) (H':=H') (H:=H) h
  simp only [merge]
  cases hi:idx ns a with
  |none=>simp only [BZ,ih]
  |some i =>
   have hne:a≠b:=fun e=>by rw [e,h] at hi;cases hi
   simp only [BZ,if_neg hne]
   cases hget H' i with
   |none=>exact ih
   |some y=>simp only [BZ,if_neg hne];exact ih
theorem MQ {ns:List Nat} {ρ:Nat→Nat} {H':Heap}:∀ {H:Heap} {b i:Nat},idx ns b=some i→hget (merge ns ρ H' H) b=if (hget H b).isSome then (hget H' i).map (HB.rn ρ) else none
 |[],_,_,_=>by simp [merge,hget]
 |(a,x)::H,b,i,h=>by
  have ih:=MQ (ns:=ns) (ρ:=ρ) (H':=H') (H:=H) h
  simp only [merge]
  by_cases e:a=b
  ·subst e
   rw [h]
   simp only [BZ,if_true,Option.isSome_some]
   cases hi:hget H' i with
   |none =>
    simp only [Option.map_none]
    rw [ih]
    split
    ·rw [hi];rfl
    ·rfl
   |some y=>simp only [BZ,if_true,Option.map_some]
  ·simp only [BZ,if_neg e]
   cases hj:idx ns a with
   |none=>simp only [BZ,if_neg e];exact ih
   |some j =>
    simp only
    cases hget H' j with
    |none=>exact ih
    |some y=>simp only [BZ,if_neg e];exact ih
theorem KR {k:Nat} {ρ:Nat→Nat} {H:Heap}:∀ {H':Heap} {b:Nat},(∀ i j,ρ i=ρ j→k≤i→k≤j→i=j) →
 (∃ i,k≤i∧ρ i=b∧(hget H' i).isSome∧hget (news k ρ H' H) b=(hget H' i).map (HB.rn ρ))∨((∀ i,k≤i→ρ i=b→hget H' i=none)∧hget (news k ρ H' H) b=hget H b)
 |[],b,_=>.inr ⟨fun _ _ _=>rfl,rfl⟩
 |(i,x)::H',b,hinj=>by
  have ih:=KR (k:=k) (ρ:=ρ) (H:=H) (H':=H') (b:=b) hinj
  simp only [news]
  cases hd:Nat.decLt i k with
  |isTrue hlt =>
   simp only
   rcases ih with ⟨j,h1,h2,h3,h4⟩|⟨h1,h2⟩
   ·refine .inl ⟨j,h1,h2,?_⟩
    rw [BZ,if_neg (by omega)]
    exact ⟨h3,h4⟩
   ·refine .inr ⟨fun j hj hb=>?_,h2⟩
    rw [BZ,if_neg (by omega)]
    exact h1 j hj hb
  |isFalse hge =>
   simp only [BZ]
   by_cases e:ρ i=b
   ·refine .inl ⟨i,by omega,e,?_⟩
    rw [if_pos rfl,if_pos e]
    exact ⟨rfl,rfl⟩
   ·rw [if_neg e]
    rcases ih with ⟨j,h1,h2,h3,h4⟩|⟨h1,h2⟩
    ·refine .inl ⟨j,h1,h2,?_⟩
     rw [if_neg (fun e':i=j=>e (by rw [e'];exact h2))]
     exact ⟨h3,h4⟩
    ·refine .inr ⟨fun j hj hb=>?_,h2⟩
     rw [if_neg (fun e':i=j=>e (by rw [e'];exact hb))]
     exact h1 j hj hb
def HIn (ρ:Nat→Nat) (H:Heap):Heap→Prop
 |[]=>True
 |(i,x)::Hc=>(∃ y,hget H (ρ i)=some y∧Bo y (x.rn ρ))∧HIn ρ H Hc
theorem HIn.get {ρ:Nat→Nat} {H:Heap}:∀ {Hc:Heap},HIn ρ H Hc→∀ i x,hget Hc i=some x→∃ y,hget H (ρ i)=some y∧Bo y (x.rn ρ)
 |[],_,_,_,h=>by cases h
 |(j,y)::Hc,⟨h1,h2⟩,i,x,h=>by
  rw [BZ] at h
  by_cases e:j=i
  ·rw [if_pos e] at h;cases h;subst e;exact h1
  ·rw [if_neg e] at h;exact HIn.get h2 i x h
def Nr (k:Nat):Heap→Prop
 |[]=>True
 |(i,x)::H=>(i<k∧x.under k)∧Nr k H
theorem Nr.get {k:Nat}:∀ {H:Heap},Nr k H→∀ i x,hget H i=some x→i<k∧x.under k
 |[],_,_,_,h=>by cases h
 |(j,y)::Hc,⟨h1,h2⟩,i,x,h=>by
  rw [BZ] at h
  by_cases e:j=i
  ·rw [if_pos e] at h;cases h;subst e;exact h1
  ·rw [if_neg e] at h;exact Nr.get h2 i x h
theorem RB.le {m:Mem} {F:Nat→Prop} {T:Nat→Option Tg} {σ:Nat→Value} {n:Nat} {s:Value} {x y:HB} (h:Bo x y) (r:RB m F T σ n s x):RB m F T σ n s y:=by
 cases h with
 |refl=>exact r
 |box h=>obtain ⟨c,vs,r1,r2,r3,r4,r5,r6⟩:=r;exact ⟨c,vs,r1,r2,r3,r4,Dz.le h r5,r6⟩
 |vec h hn =>
  subst hn
  rcases r with ⟨r1,r2,r3⟩|⟨c,g,vs,r1,r2,r3,r4,r5,r6⟩
  ·subst r1
   cases h with|refl=>exact .inl ⟨rfl,r2,r3⟩
  ·exact .inr ⟨c,g,vs,r1,r2,r3,r4,DC.le h r5,r6⟩
theorem RB.rn {m:Mem} {F:Nat→Prop} {T T':Nat→Option Tg} {σ σ':Nat→Value} {n n':Nat} {ρ:Nat→Nat} {s:Value} {x:HB} (h:∀ b,b<n→ρ b<n'∧T' (ρ b)=T b∧σ' (ρ b)=σ b) (r:RB m F T σ n s x):RB m F T' σ' n' s (x.rn ρ):=by
 cases x with
 |box e cs=>obtain ⟨c,vs,r1,r2,r3,r4,r5,r6⟩:=r;exact ⟨c,vs,r1,r2,r3,r4,Dz.rn h r5,r6⟩
 |vec e cs k z=>exact r
 |map es=>exact r
 |EX e cs k=>obtain ⟨c,g,vs,r1,r2,r3,r4,r5,r6⟩:=r;exact ⟨c,g,vs,r1,r2,r3,r4,Dz.rn h r5,r6⟩
theorem RB.Uy {m:Mem} {F:Nat→Prop} {T T':Nat→Option Tg} {σ σ':Nat→Value} {n n':Nat} {ρ:Nat→Nat} {s:Value} {x:HB} (h:∀ b,b<n→(∀ t,T b=some t→T' (ρ b)=some t)∧σ' (ρ b)=σ b) (hu:x.under n) (r:RB m F T' σ' n' s (x.rn ρ)):RB m F T σ n s x:=by
 cases x with
 |box e cs=>obtain ⟨c,vs,r1,r2,r3,r4,r5,r6⟩:=r;exact ⟨c,vs,r1,r2,r3,r4,Dz.Uy h hu r5,r6⟩
 |vec e cs k z=>exact r
 |map es=>exact r
 |EX e cs k=>obtain ⟨c,g,vs,r1,r2,r3,r4,r5,r6⟩:=r;exact ⟨c,g,vs,r1,r2,r3,r4,Dz.Uy h hu r5,r6⟩
end Go.Vm
namespace Go.Vm
open Go.Am
variable {E:Env} {L:Frame} {H:Heap} {nx:Nat} {Q:PV→Heap→Nat→Prop} {w:Bool}
variable {dst:Option Tmp} {ty:TypeId} {pos:String} {af:Array Edge} {gd:Option (Nat×Bool)}
def evs (Γ:Nat→Option (List Value×TypeId)) (L:Frame):List Operand→Option (List PV)
 |[]=>some []
 |o::l=>match Bq Γ L o with
  |some x=>match evs Γ L l with
   |some r=>some (x::r)
   |none=>none
  |none=>none
theorem Qm {Γ:Nat→Option (List Value×TypeId)} {m:Mem} {F:Nat→Prop} {σ:Nat→Value} {t:Tr Value} (hx:Ctx Γ m F σ H nx) (hl:RL m F (htag H) σ nx L t):∀ {os:List Operand} {xs:List PV},evs Γ L os=some xs→Dz m F (htag H) σ nx xs (os.map (ev t))
 |[],_,h=>by cases h;exact .nil
 |o::os,xs,h=>by
  simp only [evs] at h
  cases h1:Bq Γ L o with
  |none=>rw [h1] at h;cases h
  |some x =>
   rw [h1] at h
   cases h2:evs Γ L os with
   |none=>rw [h2] at h;cases h
   |some r=>rw [h2] at h;cases h;exact .cons (Cc hx hl h1) (Qm hx hl h2)
theorem Dz.append {m:Mem} {F:Nat→Prop} {T:Nat→Option Tg} {σ:Nat→Value} {n:Nat}:∀ {cs ds:List PV} {vs ws:List Value},Dz m F T σ n cs vs→Dz m F T σ n ds ws→Dz m F T σ n (cs++ds) (vs++ws)
 |_,_,_,_,.nil,h=>h
 |_,_,_,_,.cons h t,h'=>.cons h (Dz.append t h')
theorem a2q {ns:List Nat} {i b:Nat} (h:ns[i]?=some b):rho ns nx i=b:=by simp only [rho,h]
theorem a1y {ns:List Nat} {i:Nat} (h:ns.length≤i):rho ns nx i=nx+(i-ns.length):=by simp only [rho,List.getElem?_eq_none h]
theorem Aa.uD {fo:Operand} {args:Array Operand} {aT:Array TypeId} {g:FuncId} {fs cs Cb ac:List PV} {ns:List Nat} {Hc:Heap} {Qc:PV→Heap→Nat→Prop} (hf:Bq E.Γ L fo=some (.clo g fs cs)) (ha:evs E.Γ L args.toList=some Cb)
 (hle:PX (fs++Cb++cs) (AU.rn (rho ns nx) ac)) (hu:AU.under ns.length ac) (zD:Nr ns.length Hc) (hin:HIn (rho ns nx) H Hc) (hnd:ns.Nodup) (hlt:∀ b∈ns,b<nx) (hw:w=false→Hc=[]) (hc:Bz E g ac Hc ns.length Qc)
 (hq:∀ r H' nx',Qc r H' nx'→Q (r.rn (rho ns nx)) (news ns.length (rho ns nx) H' (merge ns (rho ns nx) H' H)) (nx+(nx'-ns.length))) :
 Aa E w ⟨dst,.call { callee:=.value fo,args:=args,argTypes:=aT },ty,pos,af,gd⟩ L H nx Q:=by
 intro m F σ t h1 h2
 generalize hρ:rho ns nx=ρ at *
 generalize hk:ns.length=k at *
 have GZ:∀ i,i<k→∃ b,ns[i]?=some b∧ρ i=b∧b<nx:=fun i hi=>by
  have:i<ns.length:=by omega
  refine ⟨ns[i],List.getElem?_eq_getElem this,?_,hlt _ (List.getElem_mem this)⟩
  rw [← hρ];exact a2q (List.getElem?_eq_getElem this)
 have hge:∀ i,k≤i→ρ i=nx+(i-k):=fun i hi=>by rw [← hρ,← hk];exact a1y (by omega)
 have hidx:∀ i,i<k→idx ns (ρ i)=some i:=fun i hi=>by
  obtain ⟨b,hb,e,_⟩:=GZ i hi
  rw [e];exact wR hnd hb
 have hidx':∀ b i,idx ns b=some i→i<k∧b=ρ i:=fun b i hi=>by
  have h0:=ZW hi
  have hlt':i<k:=by
   rcases Nat.lt_or_ge i ns.length with h|h
   ·omega
   ·rw [List.getElem?_eq_none h] at h0;cases h0
  obtain ⟨b',hb',e,_⟩:=GZ i hlt'
  rw [h0] at hb';cases hb'
  exact ⟨hlt',e.symm⟩
 have hTc:∀ b t,htag Hc b=some t→htag H (ρ b)=some t:=fun b t hb=>by
  unfold htag at hb ⊢
  cases h0:hget Hc b with
  |none=>rw [h0] at hb;cases hb
  |some x =>
   rw [h0] at hb
   obtain ⟨y,hy,hle⟩:=hin.get b x h0
   rw [hy,Option.map_some,hle.tag,HB.wK]
   exact hb
 have hun:∀ b,b<k→(∀ t,htag Hc b=some t→htag H (ρ b)=some t)∧σ (ρ b)=(fun i=>σ (ρ i)) b:=fun b _=>⟨hTc b,rfl⟩
 have hown:∀ c,own Hc (fun i=>σ (ρ i)) c→∃ i x y,i<k∧hget Hc i=some x∧hget H (ρ i)=some y∧Dn (σ (ρ i))=some c:=by
  rintro c ⟨i,x,hi,hb⟩
  obtain ⟨y,hy,_⟩:=hin.get i x hi
  exact ⟨i,x,y,(zD.get i x hi).1,hi,hy,hb⟩
 have hown':∀ c,own Hc (fun i=>σ (ρ i)) c→own H σ c:=fun c ho=>by
  obtain ⟨i,_,y,_,_,hy,hb⟩:=hown c ho
  exact ⟨ρ i,y,hy,hb⟩
 have bF:Ctx E.Γ m F (fun i=>σ (ρ i)) Hc k:=by
  refine ⟨h1.fr,fun i x hi=>?_,fun i i' x x' c hi hi' hb hb'=>?_,h1.gl⟩
  ·obtain ⟨y,hy,hle⟩:=hin.get i x hi
   obtain ⟨hik,hux⟩:=zD.get i x hi
   exact ⟨hik,RB.Uy hun hux (RB.le hle (h1.hp _ y hy).2)⟩
  ·obtain ⟨y,hy,_⟩:=hin.get i x hi
   obtain ⟨y',hy',_⟩:=hin.get i' x' hi'
   have e:=h1.sep _ _ y y' c hy hy' hb hb'
   have e1:=hidx i (zD.get i x hi).1
   have e2:=hidx i' (zD.get i' x' hi').1
   rw [e,e2] at e1
   cases e1;rfl
 have hfv:=Cc h1 h2 hf
 generalize hfe:ev t fo=fv at hfv
 cases hfv with
 |clo r1 r2 =>
  rename_i vf vc
  have hargs:Dz m F (htag Hc) (fun i=>σ (ρ i)) k ac (vf++args.toList.map (ev t)++vc):=Dz.Uy hun hu (Dz.le hle ((r1.append (Qm h1 h2 ha)).append r2))
  refine Hu.call (f:=g) (Cb:=vf++args.toList.map (ev t)++vc) (fun call=>by simp only [CQ,hfe]) ((hc m F _ _ bF hargs).mono ?_)
  rintro v m' ⟨r,H',nx',F',σ',q,c1,c2,c3⟩
  have hkn:k≤nx':=c3.Xp
  have a1o:∀ i,i<k→hget H (ρ i)=none→hget H' i=none:=fun i hi hn=>by
   have h0:=(c3.names i hi).1
   cases hh:hget H' i with
   |none=>rfl
   |some y =>
    have hty:htag H' i=some y.tag:=by simp [htag,hh]
    rw [hty] at h0
    cases hc':htag Hc i with
    |none=>rw [hc'] at h0;exact h0.elim
    |some t =>
     have:=hTc i t hc'
     simp [htag,hn] at this
  have hinj:∀ i j,ρ i=ρ j→k≤i→k≤j→i=j:=fun i j e hi hj=>by
   rw [hge i hi,hge j hj] at e;omega
  let σn:Nat→Value:=fun b=>if b<nx then (match idx ns b with|some i=>σ' i|none=>σ b) else σ' (b-nx+k)
  have zW:∀ j,j<nx'→hget (news k ρ H' (merge ns ρ H' H)) (ρ j)=(hget H' j).map (HB.rn ρ):=fun j hj=>by
   rcases Nat.lt_or_ge j k with hjk|hjk
   ·obtain ⟨b,hb,e,hbn⟩:=GZ j hjk
    rcases KR (k:=k) (ρ:=ρ) (H:=merge ns ρ H' H) (H':=H') (b:=ρ j) hinj with ⟨i,hi,e',_⟩|⟨_,e'⟩
    ·rw [hge i hi,e] at e';omega
    ·rw [e',MQ (hidx j hjk)]
     cases hH:hget H (ρ j) with
     |none=>rw [a1o j hjk hH];rfl
     |some y=>rfl
   ·rcases KR (k:=k) (ρ:=ρ) (H:=merge ns ρ H' H) (H':=H') (b:=ρ j) hinj with ⟨i,hi,e',_,e''⟩|⟨e',e''⟩
    ·rw [hinj i j e' hi hjk] at e'';exact e''
    ·have hno:idx ns (ρ j)=none:=by
      cases hi:idx ns (ρ j) with
      |none=>rfl
      |some i =>
       obtain ⟨hik,e3⟩:=hidx' _ i hi
       obtain ⟨b,_,e4,hbn⟩:=GZ i hik
       rw [hge j hjk] at e3
       omega
     rw [e'',GH hno,h1.kR (by rw [hge j hjk];omega),e' j hjk rfl]
     rfl
  have hA:∀ j,j<nx'→ρ j<nx+(nx'-k)∧htag (news k ρ H' (merge ns ρ H' H)) (ρ j)=htag H' j∧σn (ρ j)=σ' j:=fun j hj=>by
   refine ⟨?_,?_,?_⟩
   ·rcases Nat.lt_or_ge j k with hjk|hjk
    ·obtain ⟨b,_,e,hbn⟩:=GZ j hjk;omega
    ·rw [hge j hjk];omega
   ·unfold htag
    rw [zW j hj]
    cases hget H' j with
    |none=>rfl
    |some y=>simp [HB.wK]
   ·show (if ρ j<nx then _ else _)=_
    rcases Nat.lt_or_ge j k with hjk|hjk
    ·obtain ⟨b,_,e,hbn⟩:=GZ j hjk
     rw [if_pos (by omega),hidx j hjk]
    ·rw [hge j hjk,if_neg (by omega)]
     congr 1;omega
  have hB:∀ b,b<nx→idx ns b=none→hget (news k ρ H' (merge ns ρ H' H)) b=hget H b∧σn b=σ b:=fun b hb hi=>by
   refine ⟨?_,?_⟩
   ·rcases KR (k:=k) (ρ:=ρ) (H:=merge ns ρ H' H) (H':=H') (b:=b) hinj with ⟨i,hi',e',_⟩|⟨_,e'⟩
    ·rw [hge i hi'] at e';omega
    ·rw [e',GH hi]
   ·show (if b<nx then _ else _)=_
    rw [if_pos hb,hi]
  have hC:∀ b x,hget (news k ρ H' (merge ns ρ H' H)) b=some x→(∃ j y,j<nx'∧b=ρ j∧hget H' j=some y∧x=y.rn ρ)∨(b<nx∧idx ns b=none∧hget H b=some x):=fun b x hx=>by
   rcases Nat.lt_or_ge b nx with hb|hb
   ·cases hi:idx ns b with
    |none=>exact .inr ⟨hb,rfl,by rw [← (hB b hb hi).1];exact hx⟩
    |some i =>
     obtain ⟨hik,e⟩:=hidx' b i hi
     rw [e,zW i (by omega)] at hx
     simp only [Option.map_eq_some_iff] at hx
     obtain ⟨y,hy,e'⟩:=hx
     exact .inl ⟨i,y,by omega,e,hy,e'.symm⟩
   ·rcases KR (k:=k) (ρ:=ρ) (H:=merge ns ρ H' H) (H':=H') (b:=b) hinj with ⟨i,hi,e',e1,e2⟩|⟨_,e'⟩
    ·rw [e2] at hx
     simp only [Option.map_eq_some_iff] at hx
     obtain ⟨y,hy,e'⟩:=hx
     exact .inl ⟨i,y,(c1.hp i y hy).1,by rw [← ‹ρ i=b›],hy,e'.symm⟩
    ·have hno:idx ns b=none:=by
      cases hi:idx ns b with
      |none=>rfl
      |some i =>
       obtain ⟨hik,e3⟩:=hidx' _ i hi
       obtain ⟨b',_,e4,hbn⟩:=GZ i hik
       omega
     rw [e',GH hno,h1.kR hb] at hx
     cases hx
  have hD:Names nx (htag H) σ (htag (news k ρ H' (merge ns ρ H' H))) σn:=fun b hb=>by
   cases hi:idx ns b with
   |none =>
    obtain ⟨e1,e2⟩:=hB b hb hi
    rw [e2]
    unfold htag
    rw [e1]
    exact ⟨Ut.refl _,fun _ _ _=>rfl⟩
   |some i =>
    obtain ⟨hik,e⟩:=hidx' b i hi
    obtain ⟨_,a2,a3⟩:=hA i (by omega)
    rw [e,a2,a3]
    obtain ⟨n1,n2⟩:=c3.names i hik
    cases ht':htag H' i with
    |none=>exact ⟨trivial,fun _ _ e=>by cases e⟩
    |some t' =>
     rw [ht'] at n1 n2
     cases htc:htag Hc i with
     |none=>rw [htc] at n1;exact n1.elim
     |some tc =>
      rw [htc] at n1 n2
      rw [hTc i tc htc]
      exact ⟨n1,fun t e1 e2=>n2 t e1 e2⟩
  have hfz:=c3.frozen bF
  have hblk:∀ b x c,idx ns b=none→hget H b=some x→Dn (σ b)=some c→¬ own Hc (fun i=>σ (ρ i)) c:=fun b x c hi hb hc ho=>by
   obtain ⟨i,_,y,hik,_,hy,hbc⟩:=hown c ho
   have e:=h1.sep b (ρ i) x y c hb hy hc hbc
   rw [e,hidx i hik] at hi
   cases hi
  refine ⟨_,_,_,F',σn,hq r H' nx' q,⟨c1.fr,?_,?_,c1.gl⟩,RP.rn hA c2,⟨c3.size,fun c hc ho=>c3.keep c hc fun o=>ho (hown' c o),c3.NR,fun c hc hf=>?_,?_,Nat.le_add_right _ _,hD,fun j j1 j2 j3=>c3.low j j1 j2 fun c ho=>j3 c (hown' c ho)⟩,?_⟩
  ·intro b x hx
   rcases hC b x hx with ⟨j,y,hj,rfl,hy,rfl⟩|⟨hb,hi,hx'⟩
   ·obtain ⟨a1,a2,a3⟩:=hA j hj
    rw [a3]
    exact ⟨a1,RB.rn hA (c1.hp j y hy).2⟩
   ·rw [(hB b hb hi).2]
    refine ⟨by omega,(h1.hp b x hx').2.mono hfz hD (Nat.le_add_right _ _) c3.size fun c hc=>?_⟩
    have hno:=hblk b x c hi hx' hc
    obtain ⟨hnf,hcs⟩:=h1.KQ ⟨b,x,hx',hc⟩
    exact ⟨c3.keep c hcs hno,fun hf=>(c3.NM c hcs hf).elim hnf hno⟩
  ·intro b b' x x' c hx hx' hbc hbc'
   rcases hC b x hx with ⟨j,y,hj,rfl,hy,rfl⟩|⟨hb,hi,hx1⟩<;>rcases hC b' x' hx' with ⟨j',y',hj',rfl,hy',rfl⟩|⟨hb',hi',hx1'⟩
   ·rw [(hA j hj).2.2] at hbc
    rw [(hA j' hj').2.2] at hbc'
    rw [c1.sep j j' y y' c hy hy' hbc hbc']
   ·rw [(hA j hj).2.2] at hbc
    rw [(hB b' hb' hi').2] at hbc'
    exact absurd (c3.Jv c (h1.KQ ⟨b',x',hx1',hbc'⟩).2 ⟨j,y,hy,hbc⟩) (hblk b' x' c hi' hx1' hbc')
   ·rw [(hA j' hj').2.2] at hbc'
    rw [(hB b hb hi).2] at hbc
    exact absurd (c3.Jv c (h1.KQ ⟨b,x,hx1,hbc⟩).2 ⟨j',y',hy',hbc'⟩) (hblk b x c hi hx1 hbc)
   ·rw [(hB b hb hi).2] at hbc
    rw [(hB b' hb' hi').2] at hbc'
    exact h1.sep b b' x x' c hx1 hx1' hbc hbc'
  ·rcases c3.NM c hc hf with h|h
   ·exact .inl h
   ·exact .inr (hown' c h)
  ·rintro c hc ⟨b,x,hx,hbc⟩
   rcases hC b x hx with ⟨j,y,hj,rfl,hy,rfl⟩|⟨hb,hi,hx1⟩
   ·rw [(hA j hj).2.2] at hbc
    exact hown' c (c3.Jv c hc ⟨j,y,hy,hbc⟩)
   ·rw [(hB b hb hi).2] at hbc
    exact ⟨b,x,hx1,hbc⟩
  ·intro hwf j j1 j2
   refine c3.low j j1 j2 fun c ho=>?_
   obtain ⟨i,x,_,_,hx,_⟩:=hown c ho
   rw [hw hwf] at hx
   cases hx
end Go.Vm
namespace Go.Vm
open Go.Am
variable {E:Env} {L:Frame} {H:Heap} {nx:Nat} {Q:PV→Heap→Nat→Prop} {w:Bool}
variable {dst:Option Tmp} {ty:TypeId} {pos:String} {af:Array Edge} {gd:Option (Nat×Bool)}
def AV (E:Env) (g:FuncId) (xs:List FV) (r:PV):Prop:=Bz E g (xs.map .p) [] 0 fun r' H' nx'=>r'=r∧H'=[]∧nx'=0
def CS (E:Env) (g:FuncId) (xs:List FV) (e:TypeId) (cs:List FV) (n:Nat) (z:Bool):Prop :=
 Bz E g (xs.map .p) [] 0 fun r' H' nx'=>r'=.vec 0 n 0 n∧H'=[(0,.vec e cs n z)]∧nx'=1
theorem AU.lT (ρ:Nat→Nat):∀ xs:List FV,AU.rn ρ (xs.map .p)=xs.map .p
 |[]=>rfl
 |x::xs=>by simp only [List.map_cons,AU.rn,PV.rn,AU.lT ρ xs]
theorem XQ (ρ:Nat→Nat) (H':Heap):∀ H:Heap,merge [] ρ H' H=H
 |[]=>rfl
 |(b,x)::H=>by simp only [merge,idx,XQ ρ H' H]
theorem Aa.zx {fo:Operand} {args:Array Operand} {aT:Array TypeId} {g:FuncId} {Cb:List PV} {xs:List FV} {Qc:PV→Heap→Nat→Prop} (hf:Bq E.Γ L fo=some (.clo g [] [])) (ha:evs E.Γ L args.toList=some Cb)
 (hle:PX Cb (xs.map .p)) (hc:Bz E g (xs.map .p) [] 0 Qc) (hq:∀ r H' nx',Qc r H' nx'→Q (r.rn (rho [] nx)) (news 0 (rho [] nx) H' H) (nx+nx')) :
 Aa E w ⟨dst,.call { callee:=.value fo,args:=args,argTypes:=aT },ty,pos,af,gd⟩ L H nx Q :=
 Aa.uD (ns:=[]) (Hc:=[]) hf ha (ac:=xs.map .p) (by simpa [AU.lT] using hle) (AU.Ah _ _) trivial trivial List.nodup_nil (by simp) (fun _=>rfl) hc
  (fun r H' nx' q=>by rw [XQ];exact hq r H' nx' q)
theorem Aa.a4o {fo:Operand} {args:Array Operand} {aT:Array TypeId} {g:FuncId} {Cb:List PV} {xs:List FV} {r:PV} (hf:Bq E.Γ L fo=some (.clo g [] [])) (ha:evs E.Γ L args.toList=some Cb)
 (hle:PX Cb (xs.map .p)) (hc:AV E g xs r) (hr:∀ ρ,r.rn ρ=r) (q:Q r H nx):Aa E w ⟨dst,.call { callee:=.value fo,args:=args,argTypes:=aT },ty,pos,af,gd⟩ L H nx Q :=
 Aa.zx hf ha hle hc fun r' H' nx' ⟨h1,h2,h3⟩=>by subst h1;subst h2;subst h3;rw [hr];exact q
theorem Aa.a3j {fo:Operand} {args:Array Operand} {aT:Array TypeId} {g:FuncId} {Cb:List PV} {xs cs:List FV} {e:TypeId} {n:Nat} {z:Bool} (hf:Bq E.Γ L fo=some (.clo g [] [])) (ha:evs E.Γ L args.toList=some Cb)
 (hle:PX Cb (xs.map .p)) (hc:CS E g xs e cs n z) (q:Q (.vec nx n 0 n) ((nx,.vec e cs n z)::H) (nx+1)):Aa E w ⟨dst,.call { callee:=.value fo,args:=args,argTypes:=aT },ty,pos,af,gd⟩ L H nx Q :=
 Aa.zx hf ha hle hc fun r' H' nx' ⟨h1,h2,h3⟩=>by
  subst h1;subst h2;subst h3
  have e:news 0 (rho [] nx) [(0,HB.vec e cs n z)] H=(nx,.vec e cs n z)::H:=rfl
  rw [e]
  exact q
def Bc (E:Env) (L:Frame) (H:Heap) (nx:Nat) (L':Frame) (H':Heap) (nx':Nat):Prop :=
 ∀ (B:Base) m F σ t,Ctx E.Γ m F σ H nx→RL m F (htag H) σ nx L t→B.to m F σ H nx→∃ F' σ',Ctx E.Γ m F' σ' H' nx'∧RL m F' (htag H') σ' nx' L' t∧B.to m F' σ' H' nx'
section
variable {bn:Nat} {ops:Array Oper} {l:List Oper} {i:Nat} {R:Frame→Heap→Nat→Prop} {L':Frame} {H':Heap} {nx':Nat}
theorem Ae.ghost {c:Code} {Q:CG→Frame→Heap→Nat→Prop} (g:Bc E L H nx L' H' nx') (h:Ae E bn c L' H' nx' Q):Ae E bn c L H nx Q:=fun B hB m F σ t h1 h2 h3=>by
 obtain ⟨F',σ',c1,c2,c3⟩:=g B m F σ t h1 h2 h3
 exact h B hB m F' σ' t c1 c2 c3
theorem Ag.ghost (g:Bc E L H nx L' H' nx') (h:Ag E bn ops l L' H' nx' R):Ag E bn ops l L H nx R:=fun B hB m F σ t h1 h2 h3=>by
 obtain ⟨F',σ',c1,c2,c3⟩:=g B m F σ t h1 h2 h3
 exact h B hB m F' σ' t c1 c2 c3
theorem Ar.ghost (g:Bc E L H nx L' H' nx') (h:Ar E bn ops i l L' H' nx' R):Ar E bn ops i l L H nx R:=fun B hB m F σ t h1 h2 h3=>by
 obtain ⟨F',σ',c1,c2,c3⟩:=g B m F σ t h1 h2 h3
 exact h B hB m F' σ' t c1 c2 c3
theorem Bc.trans {L'':Frame} {H'':Heap} {nx'':Nat} (g:Bc E L H nx L' H' nx') (g':Bc E L' H' nx' L'' H'' nx''):Bc E L H nx L'' H'' nx'':=fun B m F σ t h1 h2 h3=>by
 obtain ⟨F',σ',c1,c2,c3⟩:=g B m F σ t h1 h2 h3
 exact g' B m F' σ' t c1 c2 c3
end
theorem Xe {Γ:Nat→Option (List Value×TypeId)} {m:Mem} {F:Nat→Prop} {σ:Nat→Value} (e:TypeId) (h:Ctx Γ m F σ H nx) :
 Ctx Γ m F (upd σ nx Di) ((nx,.vec e [] 0 true)::H) (nx+1)∧Step m F σ H nx m F (upd σ nx Di) ((nx,.vec e [] 0 true)::H) (nx+1):=by
 have:=h.new (m':=m) (x:=.vec e [] 0 true) (s:=Di) (Nat.le_refl _) (fun _ _=>rfl) (Nat.min_le_left _ _) (fun c hc=>by simp [Dn,Di] at hc) (.inl ⟨rfl,rfl,.inl ⟨rfl,rfl⟩⟩)
 exact ⟨this.1,this.2.1⟩
theorem Zb {m:Mem} {F:Nat→Prop} {σ:Nat→Value} (e:TypeId) (H:Heap) (nx:Nat):RP m F (htag ((nx,.vec e [] 0 true)::H)) (upd σ nx Di) (nx+1) (.vec nx 0 0 0) Di:=by
 refine .vec (Nat.lt_succ_self _) rfl fun n hn=>?_
 rw [Iq,if_pos rfl] at hn
 simp only [HB.tag,Option.some.injEq,Tg.vec.injEq] at hn
 subst hn
 refine ⟨Nat.le_refl _,fun _=>?_⟩
 rw [upd_same]
 exact ⟨rfl,rfl,rfl⟩
theorem Bc.adopt (d:Nat) (e:TypeId) (hd:G7 L d=some (.p (.val (.slice none 0 0)))):Bc E L H nx ((d,.vec nx 0 0 0)::L) ((nx,.vec e [] 0 true)::H) (nx+1):=fun B m F σ t h1 h2 h3=>by
 obtain ⟨c1,c2⟩:=Xe e h1
 refine ⟨F,_,c1,fun i v hi=>?_,h3.trans c2⟩
 rw [Hl] at hi
 by_cases ei:d=i
 ·rw [if_pos ei] at hi;cases hi
  have:=h2 d _ hd
  subst ei
  generalize DJ t d=u at this
  cases this with|p h=>cases h;exact Zb e H nx
 ·rw [if_neg ei] at hi
  exact (h2 i v hi).step c2 h1
def hdel:Heap→Nat→Heap
 |[],_=>[]
 |(a,x)::H,b=>match Nat.decEq a b with
  | .isTrue _=>hdel H b
  | .isFalse _=>(a,x)::hdel H b
theorem Jr (H:Heap) (b c:Nat):hget (hdel H b) c=if b=c then none else hget H c:=by
 induction H with
 |nil=>simp [hdel,hget]
 |cons a H ih =>
  obtain ⟨a,x⟩:=a
  simp only [hdel]
  cases hd:Nat.decEq a b with
  |isTrue h =>
   subst h
   simp only [BZ,ih]
   by_cases e:a=c<;>simp [e]
  |isFalse h =>
   simp only [BZ,ih]
   by_cases e:b=c
   ·subst e;simp [h]
   ·simp [e]
theorem Sz (H:Heap) (b c:Nat):htag (hdel H b) c=if b=c then none else htag H c:=by
 unfold htag
 rw [Jr]
 split<;>rfl
theorem Sl {Γ:Nat→Option (List Value×TypeId)} {m:Mem} {F:Nat→Prop} {σ:Nat→Value} {b:Nat} {e:TypeId} {cs:List FV} {n:Nat} {z:Bool} (h:Ctx Γ m F σ H nx) (hb:hget H b=some (.vec e cs n z)) :
 Ctx Γ m (fun c=>F c∨Dn (σ b)=some c) σ (hdel H b) nx∧Step m F σ H nx m (fun c=>F c∨Dn (σ b)=some c) σ (hdel H b) nx ∧
 (∀ v,Et (σ b) 0 n v→RF m (fun c=>F c∨Dn (σ b)=some c) (.lst e cs n) v):=by
 have hown:∀ c,Dn (σ b)=some c→own H σ c:=fun c hc=>⟨b,_,hb,hc⟩
 have hfz:∀ c,F c→(F c∨Dn (σ b)=some c)∧m.get c=m.get c:=fun c hc=>⟨.inl hc,rfl⟩
 have hN:Names nx (htag H) σ (htag (hdel H b)) σ:=fun d _=>by
  rw [Sz]
  split
  ·exact ⟨trivial,fun _ _ _=>rfl⟩
  ·exact ⟨Ut.refl _,fun _ _ _=>rfl⟩
 have hsub:∀ d x,hget (hdel H b) d=some x→d≠b∧hget H d=some x:=fun d x hd=>by
  rw [Jr] at hd
  split at hd
  ·cases hd
  ·rename_i hne;exact ⟨Ne.symm hne,hd⟩
 refine ⟨⟨?_,?_,?_,?_⟩,⟨Nat.le_refl _,fun _ _ _=>rfl,fun _ h=>.inl h,fun c _ hc=>hc.imp id (hown c),?_,Nat.le_refl _,hN,fun _ h _ _=>h⟩,?_⟩
 ·rintro c (hc|hc)
  ·exact h.fr c hc
  ·exact (h.KQ (hown c hc)).2
 ·intro d x hd
  obtain ⟨hne,hd⟩:=hsub d x hd
  obtain ⟨h1,h2⟩:=h.hp d x hd
  refine ⟨h1,h2.mono hfz hN (Nat.le_refl _) (Nat.le_refl _) fun c hc=>⟨rfl,?_⟩⟩
  rintro (hf|hf)
  ·exact (h.KQ ⟨d,x,hd,hc⟩).1 hf
  ·exact hne (h.sep d b x _ c hd hb hc hf)
 ·intro d d' x x' c hd hd' hc hc'
  exact h.sep d d' x x' c (hsub d x hd).2 (hsub d' x' hd').2 hc hc'
 ·intro g cs' e' hg
  obtain ⟨h1,h2⟩:=h.gl g cs' e' hg
  exact ⟨.inl h1,h2⟩
 ·rintro c _ ⟨d,x,hd,hc⟩
  exact ⟨d,x,(hsub d x hd).2,hc⟩
 ·intro v hv
  obtain ⟨_,hr⟩:=h.hp b _ hb
  rcases hr with ⟨r1,r2,r3⟩|⟨c,g,vs,r1,r2,r3,r4,r5,r6,r7⟩
  ·subst r1;subst r2
   rcases r3 with ⟨r3,_⟩|⟨b',o',g',r3,_⟩
   ·rw [r3] at hv;obtain ⟨rfl,_,_⟩:=hv;exact .nil _
   ·rw [r3] at hv;simp only [Et] at hv;rw [hv.1];exact .room _ _ _ _
  ·rw [r1] at hv
   simp only [Et] at hv
   subst hv
   refine .lst (.inr (by rw [r1];rfl)) r4 ?_ (r5.mono hfz) r6
   rw [List.drop_zero,r5.length];simp [takeN]
theorem Bc.freeze (d:Nat) {b n:Nat} {e:TypeId} {cs:List FV} {z:Bool} (hd:G7 L d=some (.vec b n 0 n)) (hb:hget H b=some (.vec e cs n z)):Bc E L H nx ((d,.p (.lst e cs n))::L) (hdel H b) nx:=fun B m F σ t h1 h2 h3=>by
 obtain ⟨c1,c2,c3⟩:=Sl h1 hb
 refine ⟨_,σ,c1,fun i v hi=>?_,h3.trans c2⟩
 rw [Hl] at hi
 by_cases ei:d=i
 ·rw [if_pos ei] at hi;cases hi
  have:=h2 d _ hd
  subst ei
  generalize DJ t d=u at this
  cases this with
  |vec hb' hc h=>exact .p (c3 _ ((h n (by simp [htag,hb,HB.tag])).2 rfl))
 ·rw [if_neg ei] at hi
  exact (h2 i v hi).step c2 h1
theorem Bc.CZ (a k:Nat) {b n:Nat} {e e':TypeId} {cs:List FV} {ds:List PV} {z:Bool} (ha:hget H a=some (.box e' ds)) (hk:ds[k]?=some (.vec b n 0 n)) (hb:hget H b=some (.vec e cs n z)) :
 Bc E L H nx L (hput (hdel H b) a (.box e' (ds.set k (.p (.lst e cs n))))) nx:=fun B m F σ t h1 h2 h3=>by
 obtain ⟨c1,c2,c3⟩:=Sl h1 hb
 have hne:b≠a:=fun e=>by subst e;rw [ha] at hb;cases hb
 have ha':hget (hdel H b) a=some (.box e' ds):=by rw [Jr,if_neg hne];exact ha
 obtain ⟨_,c,vs,r1,r2,r3,r4,r5,r6⟩:=c1.hp a _ ha'
 obtain ⟨_,c',vs',s1,s2,s3,s4,s5,s6⟩:=h1.hp a _ ha
 rw [s1] at r1;cases r1
 rw [s4] at r4;cases r4
 obtain ⟨u,hu1,hu2⟩:=s5.get hk
 have hcell:RP m (fun c=>F c∨Dn (σ b)=some c) (htag (hdel H b)) σ nx (.p (.lst e cs n)) u:=by
  cases hu2 with
  |vec hb' hc h=>exact .p (c3 _ ((h n (by simp [htag,hb,HB.tag])).2 rfl))
 obtain ⟨d1,d2⟩:=c1.change (m':=m) (b0:=a) (x':=.box e' (ds.set k (.p (.lst e cs n)))) (s':=σ a) ha' trivial (fun _=>rfl) (Nat.le_refl _) (fun _ _ _=>rfl) (fun _ h _ _=>h) (fun c hc=>.inl hc) (by
  refine ⟨_,vs,s1,s2,r3,s4,?_,s6⟩
  have:vs=vs.set k u:=by
   apply List.ext_getElem?
   intro j
   rw [List.getElem?_set]
   by_cases e:k=j
   ·subst e
    rw [if_pos rfl,hu1]
    have:k<vs.length:=by
     rcases Nat.lt_or_ge k vs.length with h|h
     ·exact h
     ·rw [List.getElem?_eq_none h] at hu1;cases hu1
    rw [if_pos this]
   ·rw [if_neg e]
  rw [this]
  exact (r5.set k hcell).mono (fun d hd=>⟨hd,rfl⟩) (E8 (x':=.box e' (ds.set k (.p (.lst e cs n)))) ha' trivial fun _=>rfl) (Nat.le_refl _))
 have hσ:upd σ a (σ a)=σ:=by funext x;simp only [upd];split<;>simp_all
 rw [hσ] at d1 d2
 exact ⟨_,σ,d1,(h2.step c2 h1).step d2 c1,(h3.trans c2).trans d2⟩
theorem Bc.Ew (a k:Nat) (e:TypeId) {e':TypeId} {ds:List PV} (ha:hget H a=some (.box e' ds)) (hk:ds[k]?=some (.p (.val (.slice none 0 0)))) :
 Bc E L H nx L (hput ((nx,.vec e [] 0 true)::H) a (.box e' (ds.set k (.vec nx 0 0 0)))) (nx+1):=fun B m F σ t h1 h2 h3=>by
 obtain ⟨c1,c2⟩:=Xe e h1
 have hlt:=(h1.hp a _ ha).1
 have ha':hget ((nx,HB.vec e [] 0 true)::H) a=some (.box e' ds):=by rw [BZ,if_neg (by omega)];exact ha
 obtain ⟨_,c,vs,r1,r2,r3,r4,r5,r6⟩:=c1.hp a _ ha'
 obtain ⟨u,hu1,hu2⟩:=r5.get hk
 have hu:u=Di:=by cases hu2 with|p h=>cases h;rfl
 subst hu
 obtain ⟨d1,d2⟩:=c1.change (m':=m) (b0:=a) (x':=.box e' (ds.set k (.vec nx 0 0 0))) (s':=upd σ nx Di a) ha' trivial (fun _=>rfl) (Nat.le_refl _) (fun _ _ _=>rfl) (fun _ h _ _=>h) (fun c hc=>.inl hc) (by
  refine ⟨c,vs,r1,r2,r3,r4,?_,r6⟩
  have:vs=vs.set k Di:=by
   apply List.ext_getElem?
   intro j
   rw [List.getElem?_set]
   by_cases e:k=j
   ·subst e
    rw [if_pos rfl,hu1]
    have:k<vs.length:=by
     rcases Nat.lt_or_ge k vs.length with h|h
     ·exact h
     ·rw [List.getElem?_eq_none h] at hu1;cases hu1
    rw [if_pos this]
   ·rw [if_neg e]
  rw [this]
  exact (r5.set k (Zb e H nx)).mono (fun d hd=>⟨hd,rfl⟩) (E8 (x':=.box e' (ds.set k (.vec nx 0 0 0))) ha' trivial fun _=>rfl) (Nat.le_refl _))
 have hσ:upd (upd σ nx Di) a (upd σ nx Di a)=upd σ nx Di:=by
  funext x
  by_cases e:x=a
  ·rw [e,upd_same]
  ·rw [CW _ _ e]
 rw [hσ] at d1 d2
 exact ⟨_,_,d1,(h2.step c2 h1).step d2 c1,(h3.trans c2).trans d2⟩
end Go.Vm
namespace Go.Vm
open Go.Am
variable {E:Env} {L:Frame} {H:Heap} {nx:Nat} {Q:PV→Heap→Nat→Prop} {w:Bool}
variable {dst:Option Tmp} {ty:TypeId} {pos:String} {af:Array Edge} {gd:Option (Nat×Bool)}
def evp (Γ:Nat→Option (List Value×TypeId)) (L:Frame):List (Nat×Operand)→Option (List (Nat×PV))
 |[]=>some []
 |(i,o)::l=>match Bq Γ L o with
  |some x=>match evp Γ L l with
   |some r=>some ((i,x)::r)
   |none=>none
  |none=>none
def wz:PV→Bool
 | .ET _=>true
 |_=>false
def OU (place:Nat→Option (Nat×Nat)) (cs:List PV):List (Nat×PV)→Option (List PV)
 |[]=>some cs
 |(i,v)::rest=>match wz v with
  |true=>none
  |false=>match place i with
   |none=>none
   |some (off,size)=>if (Fv v).length=size∧off+size≤cs.length then OU place (BG cs off (Fv v)) rest else none
theorem LU (off:Nat):∀ (l:List Value) (k:Nat) (cs:Array Value),((l.zipIdx k).foldl (fun cs (c,j)=>cs.setIfInBounds (off+j) c) cs).toList=splice cs.toList (off+k) l
 |[],_,_=>rfl
 |a::l,k,cs=>by
  simp only [List.zipIdx_cons,List.foldl_cons]
  rw [LU off l (k+1)]
  simp only [splice,Array.toList_setIfInBounds]
  congr 1
theorem TL {α:Type} (l:List α):∀ (cs:List α) (o:Nat),(BG cs o l).length=cs.length:=by
 induction l with
 |nil=>intro cs o;rfl
 |cons a l ih=>intro cs o;simp only [BG,ih,List.length_set]
section
variable {m:Mem} {F:Nat→Prop} {T:Nat→Option Tg} {σ:Nat→Value} {n:Nat}
inductive RPp (m:Mem) (F:Nat→Prop) (T:Nat→Option Tg) (σ:Nat→Value) (n:Nat):List (Nat×PV)→List (Nat×Value)→Prop
 |nil:RPp m F T σ n [] []
 |cons {i:Nat} {x:PV} {v:Value} {l:List (Nat×PV)} {r:List (Nat×Value)} (h:RP m F T σ n x v) (t:RPp m F T σ n l r):RPp m F T σ n ((i,x)::l) ((i,v)::r)
theorem Ov (place:Nat→Option (Nat×Nat)):∀ {ps:List (Nat×PV)} {ps':List (Nat×Value)} {cs out:List PV} {cs':Array Value},RPp m F T σ n ps ps'→Dz m F T σ n cs cs'.toList→cs'.toList.all BP=true →
 OU place cs ps=some out→∃ out',Instr.fill place cs' ps'=some out'∧Dz m F T σ n out out'.toList∧out'.toList.all BP=true
 |[],_,cs,out,cs',.nil,hc,ha,h=>by
  simp only [OU,Option.some.injEq] at h
  subst h
  exact ⟨cs',rfl,hc,ha⟩
 |(i,x)::ps,_,cs,out,cs',.cons (v:=v) hx ht,hc,ha,h=>by
  simp only [OU] at h
  have hn:LP x∧wz x=false:=by cases x<;>first|exact ⟨trivial,rfl⟩|(simp only [wz] at h;cases h)
  rw [hn.2] at h
  simp only at h
  obtain ⟨h1,h2⟩:=Io hn.1 hx
  simp only [Instr.fill]
  cases hp:place i with
  |none=>rw [hp] at h;cases h
  |some q =>
   obtain ⟨off,size⟩:=q
   rw [hp] at h
   simp only at h ⊢
   split at h
   ·rename_i hl
    obtain ⟨hl,hle⟩:=hl
    have e1:=h1.length
    have e2:=hc.length
    simp only [Array.length_toList] at e1 e2
    rw [if_neg (by simp only [ne_eq,gt_iff_lt,Bool.or_eq_true,decide_eq_true_eq,not_or];omega)]
    refine Ov place ht ?_ ?_ h
    ·rw [← Array.foldl_toList,Array.toList_zipIdx,LU,Nat.add_zero]
     exact Dz.splice off hc h1
    ·rw [← Array.foldl_toList,Array.toList_zipIdx,LU,Nat.add_zero]
     exact GN _ ha h2
   ·cases h
end
theorem UU {Γ:Nat→Option (List Value×TypeId)} {m:Mem} {F:Nat→Prop} {σ:Nat→Value} {t:Tr Value} (hx:Ctx Γ m F σ H nx) (hl:RL m F (htag H) σ nx L t):∀ {ps:List (Nat×Operand)} {xs:List (Nat×PV)},evp Γ L ps=some xs→RPp m F (htag H) σ nx xs (ps.map fun (i,x)=>(i,ev t x))
 |[],_,h=>by cases h;exact .nil
 |(i,o)::os,xs,h=>by
  simp only [evp] at h
  cases h1:Bq Γ L o with
  |none=>rw [h1] at h;cases h
  |some x =>
   rw [h1] at h
   cases h2:evp Γ L os with
   |none=>rw [h2] at h;cases h
   |some r=>rw [h2] at h;cases h;exact .cons (Cc hx hl h1) (UU hx hl h2)
theorem Zp {P:Program} {t:TypeId} {z:List Value} {fields:Array Field} {places:Array (Nat×Nat)} {ps:Array (Nat×Value)} {out:Array Value} (hz:BR P t=some z) (hu:P.underlying t=some (.struct fields))
 (hpl:Ey P (Array.mapM (fun f=>do pure (f.offset,← sizeOf f.type)) fields)=some places) (hf:Instr.fill (fun x=>places[x]?) z.toArray ps.toList=some out):Ey P (Instr.build t ps)=some (.agg out):=by
 obtain ⟨i,zv,h1,h2,h3,h4⟩:=BI hz
 unfold Instr.build
 simp only [AX]
 have hzv:Ey P (zeroValue t)=some zv:=by
  simp only [zeroValue,AX,Jj,h1,Option.bind_some,h2]
  rfl
 rw [hzv]
 simp only [Option.bind_some,BL,hu]
 simp only [AX,hpl,Option.bind_some]
 have e:zv.cells=z.toArray:=by rw [h3]
 rw [e,hf]
 rfl
def Og (P:Program):List Field→Option (List (Nat×Nat))
 |[]=>some []
 |f::l=>match P.info? f.type with
  |some i=>match Og P l with
   |some r=>some ((f.offset,i.size)::r)
   |none=>none
  |none=>none
theorem Tf {P:Program}:∀ (l:List Field),Ey P (l.mapM fun f=>(do pure (f.offset,← sizeOf f.type):Sem (Nat×Nat)))=Og P l
 |[]=>rfl
 |f::l=>by
  rw [List.mapM_cons]
  simp only [AX,GL,Og,Tf l]
  cases P.info? f.type with
  |none=>rfl
  |some i =>
   simp only [Option.map_some,Option.bind_some]
   cases Og P l<;>rfl
theorem iI {P:Program} {fields:Array Field} {pl:List (Nat×Nat)} (h:Og P fields.toList=some pl):Ey P (Array.mapM (fun f=>(do pure (f.offset,← sizeOf f.type):Sem (Nat×Nat))) fields)=some pl.toArray:=by
 rw [Array.mapM_eq_mapM_toList,map_eq_pure_bind,AX,Tf,h]
 rfl
theorem Aa.build {t:TypeId} {ps:Array (Nat×Operand)} {z:List Value} {fields:Array Field} {places:List (Nat×Nat)} {parts:List (Nat×PV)} {out:List PV} (hz:BR E.P t=some z) (hu:E.P.underlying t=some (.struct fields))
 (hpl:Og E.P fields.toList=some places) (hp:evp E.Γ L ps.toList=some parts) (hf:OU (fun x=>places[x]?) (z.map fun v=>.p (F5 v)) parts=some out) (q:Q (Z8 out) H nx) :
 Aa E w ⟨dst,.build t ps,ty,pos,af,gd⟩ L H nx Q :=
 Aa.quiet q fun m F σ tt h1 h2=>by
  obtain ⟨_,_,_,_,_,hpz⟩:=BI hz
  obtain ⟨out',e1,e2,e3⟩:=Ov (fun x=>places[x]?) (UU h1 h2 hp) (cs':=z.toArray) (Dz.zero hpz) (Dp hpz) hf
  have e4:=Zp (ps:=ps.map fun (i,x)=>(i,ev tt x)) hz hu (iI hpl) (by rw [Array.toList_map];simpa using e1)
  refine ⟨.agg out',fun _=>?_,SE e2 e3⟩
  simp only [CQ,Fg,hz,e4,Option.map_some]
theorem Oz {Γ:Nat→Option (List Value×TypeId)} {m:Mem} {F:Nat→Prop} {σ:Nat→Value} {e:TypeId} {cs:List FV} {vs:List Value} (n:Nat) (h:Ctx Γ m F σ H nx) (hr:DC m F cs vs) (hc:vs.all BP=true) :
 Ctx Γ (m.alloc (.cells vs e 0 false)) F (upd σ nx (.slice (some ⟨m.size,0,none⟩) n 0)) ((nx,.vec e cs n false)::H) (nx+1) ∧
 Step m F σ H nx (m.alloc (.cells vs e 0 false)) F (upd σ nx (.slice (some ⟨m.size,0,none⟩) n 0)) ((nx,.vec e cs n false)::H) (nx+1)∧Quiet m (m.alloc (.cells vs e 0 false)) ∧
 RP (m.alloc (.cells vs e 0 false)) F (htag ((nx,.vec e cs n false)::H)) (upd σ nx (.slice (some ⟨m.size,0,none⟩) n 0)) (nx+1) (.vec nx n 0 n) (.slice (some ⟨m.size,0,none⟩) n 0):=by
 obtain ⟨c1,c2,c3⟩:=h.new (m':=m.alloc (.cells vs e 0 false)) (x:=.vec e cs n false) (s:=.slice (some ⟨m.size,0,none⟩) n 0) (by simp [Mem.alloc]) (fun c hc=>by rw [Mem.CP,if_neg (by omega)]) (by simp only [Mem.alloc];omega)
  (fun c hc=>by simp only [Dn,Option.some.injEq] at hc;omega) (.inr ⟨m.size,0,vs,rfl,by simp [Mem.alloc],fun hf=>Nat.lt_irrefl _ (h.fr _ hf),by rw [Mem.CP,if_pos rfl],
   hr.mono (fun c hf=>⟨hf,by rw [Mem.CP,if_neg (by have:=h.fr c hf;omega)]⟩),hc,fun _=>rfl⟩)
 refine ⟨c1,c2,c3,.vec (Nat.lt_succ_self _) rfl fun k hk=>?_⟩
 rw [Iq,if_pos rfl] at hk
 simp only [HB.tag,Option.some.injEq,Tg.vec.injEq] at hk
 refine ⟨by omega,fun _=>?_⟩
 rw [upd_same]
 rfl
theorem X3 (place:Nat→Option (Nat×Nat)):∀ (ps:List (Nat×PV)) {cs out:List PV},OU place cs ps=some out→out.length=cs.length
 |[],cs,out,h=>by
  simp only [OU,Option.some.injEq] at h
  rw [h]
 |(i,v)::rest,cs,out,h=>by
  simp only [OU] at h
  repeat' split at h
  all_goals first|(cases h;done)|(have:=X3 place rest h;rw [this,TL])
theorem lq {Γ:Nat→Option (List Value×TypeId)} {m:Mem} {F:Nat→Prop} {σ:Nat→Value} (e:TypeId) (h:Ctx Γ m F σ H nx) :
 Ctx Γ m F (upd σ nx (.slice emptyAt 0 0)) ((nx,.vec e [] 0 false)::H) (nx+1)∧Step m F σ H nx m F (upd σ nx (.slice emptyAt 0 0)) ((nx,.vec e [] 0 false)::H) (nx+1)∧Quiet m m:=by
 exact h.new (m':=m) (x:=.vec e [] 0 false) (s:=.slice emptyAt 0 0) (Nat.le_refl _) (fun _ _=>rfl) (Nat.min_le_left _ _) (fun c hc=>by simp [Dn,emptyAt] at hc) (.inl ⟨rfl,rfl,.inr ⟨0,0,0,rfl,rfl⟩⟩)
theorem dX {m:Mem} {F:Nat→Prop} {σ:Nat→Value} (e:TypeId) (H:Heap) (nx:Nat):RP m F (htag ((nx,.vec e [] 0 false)::H)) (upd σ nx (.slice emptyAt 0 0)) (nx+1) (.vec nx 0 0 0) (.slice emptyAt 0 0):=by
 refine .vec (Nat.lt_succ_self _) rfl fun n hn=>?_
 rw [Iq,if_pos rfl] at hn
 simp only [HB.tag,Option.some.injEq,Tg.vec.injEq] at hn
 subst hn
 refine ⟨Nat.le_refl _,fun _=>?_⟩
 rw [upd_same]
 exact ⟨rfl,rfl,rfl⟩
theorem Aa.buildSlice {t e:TypeId} {len:Nat} {ps:Array (Nat×Operand)} {z:List Value} {i:TypeInfo} {parts:List (Nat×PV)} {out:List PV} {fs:List FV} (hu:E.P.underlying t=some (.slice e)) (hi:E.P.info? e=some i)
 (hz:BR E.P e=some z) (hl:len*i.size≤2 ^ 24∧z.length=i.size∧0<i.size) (hp:evp E.Γ L ps.toList=some parts) (hf:OU (fun j=>some (j*i.size,i.size)) ((AY z len).map fun v=>.p (F5 v)) parts=some out)
 (ha:sO out=some fs) (q:Q (.vec nx len 0 len) ((nx,.vec e fs len false)::H) (nx+1)):Aa E w ⟨dst,.buildSlice t len ps,ty,pos,af,gd⟩ L H nx Q:=by
 intro m F σ tt h1 h2
 obtain ⟨_,_,_,_,_,hpz⟩:=BI hz
 have hpr:=Iz hpz len
 obtain ⟨out',e1,e2,e3⟩:=Ov (fun j=>some (j*i.size,i.size)) (UU h1 h2 hp) (cs':=(AY z len).toArray) (Dz.zero hpr) (Dp hpr) hf
 have e1':Instr.fill (fun j=>some (j*i.size,i.size)) (AY z len).toArray (ps.map fun (i,x)=>(i,ev tt x)).toList=some out':=by rw [Array.toList_map];exact e1
 by_cases h0:len=0
 ·subst h0
  have ho:out=[]:=List.length_eq_zero_iff.1 (by rw [X3 _ _ hf];rfl)
  subst ho
  have hfs:fs=[]:=by
   have:some ([]:List FV)=some fs:=ha
   exact (Option.some.inj this).symm
  subst hfs
  obtain ⟨c1,c2,c3⟩:=lq e h1
  refine Hu.op (v:=.slice emptyAt 0 0) (fun _=>?_) ⟨_,_,_,F,_,q,c1,dX e H nx,c2,fun _=>c3⟩
  simp only [CQ,Fg,hu,hi,hz,hl,and_self,if_true,e1',e3]
 obtain ⟨c1,c2,c3,c4⟩:=Oz (e:=e) len h1 (VZ ha e2) e3
 refine Hu.op (v:=.slice (some ⟨m.size,0,none⟩) len 0) (fun _=>?_) ⟨_,_,_,F,_,q,c1,c4,c2,fun _=>c3⟩
 simp only [CQ,Fg,hu,hi,hz,hl,and_self,if_true,e1',e3,BH,h0,if_false]
theorem Aa.makeSlice {t e:TypeId} {l c:Operand} {n:Nat} {z:List Value} {i:TypeInfo} (hu:E.P.underlying t=some (.slice e)) (hi:E.P.info? e=some i) (hz:BR E.P e=some z) (hl:Bq E.Γ L l=some (.p (.int .i64 n))) (hc:Bq E.Γ L c=some (.p (.int .i64 n)))
 (hb:n*(i.bytes+1)≤room∧n≤2 ^ 40) (hs:z.length=i.size∧0<i.size) (q:Q (.vec nx n 0 n) ((nx,.vec e ((AY z n).map F5) n false)::H) (nx+1)):Aa E w ⟨dst,.makeSlice t l c,ty,pos,af,gd⟩ L H nx Q:=by
 intro m F σ tt h1 h2
 obtain ⟨_,_,_,_,_,hpz⟩:=BI hz
 have hpr:=Iz hpz n
 obtain ⟨c1,c2,c3,c4⟩:=Oz (e:=e) n h1 (He (F:=F) hpr) (Dp hpr)
 refine Hu.op (v:=.slice (some ⟨m.size,0,none⟩) n 0) (fun _=>?_) ⟨_,_,_,F,_,q,c1,c4,c2,fun _=>c3⟩
 have h0:(0:Int)≤(n:Int)∧(n:Int)≤(n:Int)∧(n:Int).toNat*(i.bytes+1)≤room∧(n:Int)≤2 ^ 40∧z.length=i.size∧0<i.size:=⟨by omega,by omega,by rw [Int.toNat_natCast];exact hb.1,by have:=hb.2;omega,hs⟩
 simp only [CQ,Fg,hu,CY h1 h2 hl,CY h1 h2 hc,hi,hz]
 rw [if_pos h0]
 simp only [BH,Int.toNat_natCast]
def mX (Γ:Nat→Option (List Value×TypeId)) (L:Frame) (H:Heap) (nx:Nat) (x:Operand) (sz:Nat) (xs:List FV) (k:Nat):Prop :=
 ∀ m F σ t,Ctx Γ m F σ H nx→RL m F (htag H) σ nx L t→lenOf (ev t x)=some k∧∃ l,Ce m sz k (ev t x)=some l∧DC m F xs l∧l.all BP=true
theorem mX.lst {Γ:Nat→Option (List Value×TypeId)} {x:Operand} {e:TypeId} {sz k:Nat} {xs:List FV} (h:Bq Γ L x=some (.p (.lst e xs k))) (hl:xs.length=k*sz):mX Γ L H nx x sz xs k:=fun m F σ t h1 h2=>by
 have:=Cc h1 h2 h
 generalize ev t x=v at this
 cases this with
 |p h =>
  cases h with
  |nil=>exact ⟨rfl,[],rfl,.nil,rfl⟩
  |room=>exact ⟨rfl,[],rfl,.nil,rfl⟩
  |lst hF hm hw hr hc =>
   rename_i b o g vs ws ro
   refine ⟨rfl,ws,?_,hr,hc⟩
   simp only [Ce,Nat.le_refl,if_true,Mem.DV,hm]
   simp only [Jd,Option.getD_some,if_true]
   rw [← hl];exact hw
theorem mX.vec {Γ:Nat→Option (List Value×TypeId)} {x:Operand} {b n off len sz:Nat} {e:TypeId} {cs:List FV} {z:Bool} (h:Bq Γ L x=some (.vec b n off len)) (hb:hget H b=some (.vec e cs n z)) (hl:off+len*sz≤cs.length) :
 mX Γ L H nx x sz ((cs.drop off).take (len*sz)) len:=fun m F σ t h1 h2=>by
 have hsub:=GK h1 h2 h hb
 obtain ⟨_,hr⟩:=h1.hp b _ hb
 rcases hr with ⟨r1,r2,r3⟩|⟨c,g,vs,r1,r2,r3,r4,r5,r6,r7⟩
 ·have hv:(∃ a,ev t x=.slice a 0 0∧(a=none∨∃ b o g,a=some ⟨b,o,some g⟩))∧len=0:=by
   rcases r3 with ⟨r3,_⟩|⟨b',o',g',r3,_⟩
   ·rw [r3] at hsub;obtain ⟨q1,q2,q3⟩:=hsub;exact ⟨⟨none,q1,.inl rfl⟩,q3⟩
   ·rw [r3] at hsub;simp only [Et] at hsub;obtain ⟨q1,q2,q3⟩:=hsub;exact ⟨⟨_,q1,.inr ⟨_,_,_,rfl⟩⟩,q3⟩
  obtain ⟨⟨a,ha,hb'⟩,rfl⟩:=hv
  rw [ha]
  refine ⟨rfl,[],?_,by rw [Nat.zero_mul,List.take_zero];exact .nil,rfl⟩
  rcases hb' with rfl|⟨_,_,_,rfl⟩<;>rfl
 ·rw [r1] at hsub
  simp only [Et] at hsub
  rw [hsub]
  have hlen:=r5.length
  have hle:len*sz≤(vs.drop off).length:=by rw [List.length_drop];omega
  refine ⟨rfl,(vs.drop off).take (len*sz),?_,?_,IZ (H9 r6 _) _⟩
  ·simp only [Ce,Nat.le_refl,if_true,Mem.DV,r4]
   simp only [Jd,Option.getD_some,if_true,takeN,if_pos hle]
  ·have:∀ {cs:List FV} {vs:List Value} (k:Nat),DC m F cs vs→DC m F (cs.take k) (vs.take k):=by
    intro cs vs k h
    induction k generalizing cs vs with
    |zero=>exact .nil
    |succ k ih=>cases h with|nil=>exact .nil|cons h t=>exact .cons h (ih t)
   exact this _ (DC.drop off r5)
theorem mX.all {Γ:Nat→Option (List Value×TypeId)} {x:Operand} {b n sz:Nat} {e:TypeId} {cs:List FV} {z:Bool} (h:Bq Γ L x=some (.vec b n 0 n)) (hb:hget H b=some (.vec e cs n z)) (hl:cs.length=n*sz):mX Γ L H nx x sz cs n:=by
 have:=mX.vec (sz:=sz) (nx:=nx) h hb (by omega)
 rw [List.drop_zero,← hl,List.take_length] at this
 exact this
theorem Aa.append {s x:Operand} {sT xT e:TypeId} {xd:TypeDesc} {i:TypeInfo} {b n k:Nat} {cs xs:List FV} {z:Bool} (hs:Bq E.Γ L s=some (.vec b n 0 n)) (hb:hget H b=some (.vec e cs n z)) (hx:mX E.Γ L H nx x i.size xs k)
 (y9:E.P.underlying sT=some (.slice e)) (hxT:E.P.underlying xT=some xd) (hd:∀ k,xd≠.int k) (hi:E.P.info? e=some i) (hzs:Fq i=true) (h0:0<k) (hroom:(n+k)*(i.bytes+1)≤room) (hl:cs.length=n*i.size) (hsz:0<i.size)
 (q:Q (.vec b (n+k) 0 (n+k)) (hput H b (.vec e (cs++xs) (n+k) z)) nx):Aa E true ⟨dst,.call { callee:=.builtin .append,args:=#[s,x],argTypes:=#[sT,xT] },ty,pos,af,gd⟩ L H nx Q:=by
 intro m F σ t h1 h2
 have hsub:=GK h1 h2 hs hb
 obtain ⟨hx1,l,hx2,hx3,hx4⟩:=hx m F σ t h1 h2
 obtain ⟨hlt,hr⟩:=h1.hp b _ hb
 have hlenS:lenOf (ev t s)=some n:=by
  rcases hr with ⟨r1,r2,r3⟩|⟨c,g,vs,r1,_⟩
  ·rcases r3 with ⟨r3,_⟩|⟨b',o',g',r3,_⟩<;>rw [r3] at hsub<;>simp only [Et,Di] at hsub<;>rw [hsub.1,r2]<;>rfl
  ·rw [r1] at hsub;simp only [Et] at hsub;rw [hsub];rfl
 have happ:∀ v m',BD m e i.size l k (ev t s)=some (v,m')→F7 E.P #[sT,xT] #[ev t s,ev t x] m=some (v,m'):=by
  intro v m' ha
  have hxd:∀ a:Option (Value×Mem),a=some (v,m')→(match xd with| .int _=>none|_=>a)=some (v,m'):=by
   intro a ha;cases xd<;>first|exact ha|exact absurd rfl (hd _)
  simp only [F7,List.getElem?_toArray,List.getElem?_cons_zero,List.getElem?_cons_succ,y9,hxT,hlenS,hi,hzs,Bool.not_true,Bool.false_eq_true,if_false]
  cases xd<;>first|exact absurd rfl (hd _)|(simp only [hx1,hx2,hx4,Bool.and_true,decide_eq_true_eq];rw [if_pos hroom];exact ha)
 have hfin:∀ v m' s',BD m e i.size l k (ev t s)=some (v,m')→s'=v→(Ctx E.Γ m' F (upd σ b s') (hput H b (.vec e (cs++xs) (n+k) z)) nx∧Step m F σ H nx m' F (upd σ b s') (hput H b (.vec e (cs++xs) (n+k) z)) nx)→(∃ c g,v=.slice (some ⟨c,0,none⟩) (n+k) g) →
  Hu E.P E.O E.G ⟨dst,.call { callee:=.builtin .append,args:=#[s,x],argTypes:=#[sT,xT] },ty,pos,af,gd⟩ ⟨t,m⟩ fun v m'=>∃ r H' nx' F' σ',Q r H' nx'∧Ctx E.Γ m' F' σ' H' nx'∧RP m' F' (htag H') σ' nx' r v∧Step m F σ H nx m' F' σ' H' nx'∧(true=false→Quiet m m'):=by
  rintro v m' s' ha rfl ⟨c1,c2⟩ ⟨c,g,hv⟩
  refine Hu.op (v:=s') (m':=m') (fun _=>?_) ⟨_,_,_,F,_,q,c1,?_,c2,fun h=>by cases h⟩
  ·have:=happ _ _ ha
   simp only [CQ,Fg]
   simpa using this
  ·refine .vec hlt (by rw [hv];rfl) fun j hj=>?_
   rw [RX,if_pos rfl,htag,hb] at hj
   simp only [Option.map_some,HB.tag,Option.some.injEq,Tg.vec.injEq] at hj
   refine ⟨by omega,fun _=>?_⟩
   rw [upd_same,hv]
   rfl
 have a4i:Ut (some (HB.vec e cs n z).tag) (some (HB.vec e (cs++xs) (n+k) z).tag):=Nat.le_add_right _ _
 have hne:(HB.vec e cs n z).tag=(HB.vec e (cs++xs) (n+k) z).tag→False:=by simp only [HB.tag,Tg.vec.injEq];omega
 rcases hr with ⟨r1,r2,r3⟩|⟨c,g,vs,r1,r2,r3,r4,r5,r6,r7⟩
 ·have hv:Dn (σ b)=none∧(ev t s=.slice none 0 0∨∃ b o g,ev t s=.slice (some ⟨b,o,some g⟩) 0 0):=by
   rcases r3 with ⟨r3,_⟩|⟨b',o',g',r3,_⟩
   ·rw [r3] at hsub ⊢;exact ⟨rfl,.inl hsub.1⟩
   ·rw [r3] at hsub ⊢;simp only [Et] at hsub;exact ⟨rfl,.inr ⟨_,_,_,hsub.1⟩⟩
  have ha:BD m e i.size l k (ev t s)=some (BH m e l k):=by
   rcases hv.2 with hv|⟨_,_,_,hv⟩<;>rw [hv]<;>simp only [BD]<;>rw [if_neg (by omega)]
  subst r1;subst r2
  refine hfin _ _ _ ha rfl ?_ ⟨m.size,0,by rw [Nat.zero_add]⟩
  refine h1.change (x0:=.vec e [] 0 z) (x':=.vec e ([]++xs) (0+k) z) hb a4i (fun e=>(hne e).elim) (by simp [BH,Mem.alloc]) (fun c hc _=>by (try simp only [BH]);rw [Mem.CP,if_neg (by omega)])
   (fun k' k1 k2 _=>by simp only [BH,Mem.alloc];omega) (fun c hc=>by simp only [BH,Dn,Option.some.injEq] at hc;right;omega) ?_
  refine .inr ⟨m.size,0,l,by simp [BH],by simp [BH,Mem.alloc],fun hf=>Nat.lt_irrefl _ (h1.fr _ hf),by (try simp only [BH]);rw [Mem.CP,if_pos rfl],?_,hx4,fun h=>by omega⟩
  rw [List.nil_append]
  exact hx3.mono (fun c hf=>⟨hf,by (try simp only [BH]);rw [Mem.CP,if_neg (by have:=h1.fr c hf;omega)]⟩)
 ·rw [r1] at hsub
  simp only [Et] at hsub
  have hlen:=r5.length
  have hold:takeN (n*i.size) (vs.drop 0)=some vs:=by
   rw [List.drop_zero,← hl,hlen];simp [takeN]
  have ha:BD m e i.size l k (ev t s)=some (.slice (some ⟨c,0,none⟩) (n+k) (g+1),m.put c (.cells (vs++l) e (g+1) false)):=by
   rw [hsub]
   simp only [BD,r4,beq_self_eq_true,decide_eq_true hsz,Bool.and_self,if_true,hold]
   simp
  have hput':∀ d,c≠d→(m.put c (.cells (vs++l) e (g+1) false)).get d=m.get d:=fun d hd=>by rw [Mem.get_put,if_neg hd]
  refine hfin _ _ _ ha rfl ?_ ⟨c,g+1,rfl⟩
  refine h1.change (x':=.vec e (cs++xs) (n+k) z) hb a4i (fun e=>(hne e).elim) (Nat.le_refl _) (fun d _ hd=>hput' d fun e=>hd (by rw [r1,e];rfl)) (fun k' k1 k2 k3=>by
   have:=k3 c (by rw [r1];rfl)
   simp only [Mem.put];omega) (fun d hd=>.inl (by rw [r1];exact hd)) ?_
  refine .inr ⟨c,g+1,vs++l,rfl,r2,r3,by rw [Mem.get_put,if_pos rfl],?_,by rw [List.all_append,r6,hx4];rfl,fun h=>by omega⟩
  exact (r5.append hx3).mono (fun d hd=>⟨hd,hput' d fun e=>r3 (e▸hd)⟩)
end Go.Vm
namespace Go.Vm
open Go.Am
variable {P:Program}
inductive Gh {α β:Type} (R:α→β→Prop):List α→List β→Prop
 |nil:Gh R [] []
 |cons {a:α} {b:β} {l:List α} {r:List β} (h:R a b) (t:Gh R l r):Gh R (a::l) (b::r)
def EN (P:Program):Nat→TypeId→List FV→Prop
 |0,_,_=>False
 |f+1,t,fs=>match P.underlying t with
  |some .bool=>∃ b,fs=[.bool b]
  |some (.int k)=>∃ n,fs=[.int k n]∧(Lit.int k n).wf=true
  |some .string=>∃ s:ByteArray,fs=[.str s]∧s.size≤maxLen
  |some (.slice e)=>∃ L:List (List FV),fs=[.lst e L.flatten L.length]∧L.length≤maxLen∧∀ x∈L,EN P f e x
  |some (.struct sf)=>∃ parts:List (List FV),fs=parts.flatten∧Gh (fun (fd:Field) x=>EN P f fd.type x) sf.toList parts
  |some (.array n e)=>∃ L:List (List FV),fs=L.flatten∧L.length=n∧∀ x∈L,EN P f e x
  |_=>False
def Rx (P:Program):Nat→TypeId→Bool
 |0,_=>false
 |f+1,t=>match P.underlying t with
  |some .bool|some (.int _)|some .string=>true
  |some (.slice e)=>P.cellsOf e != 0&&Rx P f e
  |some (.struct fs)=>decide ((fs.toList.map fun fd=>((List.range (P.cellsOf t)).drop fd.offset).take (P.cellsOf fd.type)).flatten=List.range (P.cellsOf t))&&fs.toList.all fun fd=>Rx P f fd.type
  |some (.array n e)=>decide (((List.range n).map fun i=>((List.range (P.cellsOf t)).drop (i*P.cellsOf e)).take (P.cellsOf e)).flatten=List.range (P.cellsOf t))&&Rx P f e
  |_=>false
structure Laid (m m':Mem) (fs:List FV) (l:List Value):Prop where
 rel:DC m' (fun c=>c<m'.size) fs l
 cell:l.all BP=true
 size:m.size≤m'.size
 get:∀ c,c<m.size→m'.get c=m.get c
theorem Laid.refl (m:Mem) {fs:List FV} {l:List Value} (h:DC m (fun c=>c<m.size) fs l) (hc:l.all BP=true):Laid m m fs l:=⟨h,hc,Nat.le_refl _,fun _ _=>rfl⟩
theorem lH {m m':Mem} (hs:m.size≤m'.size) (hg:∀ c,c<m.size→m'.get c=m.get c):∀ c,c<m.size→c<m'.size∧m'.get c=m.get c:=fun c hc=>⟨by omega,hg c hc⟩
section
variable {H:Type} {enc:TypeId×Value→H} {W:World} {held:Bool}
def Ws (P:Program) (f:Nat) (t:TypeId) (d:DataW H):Prop:=∀ m,∃ l m' fs,OO P f t d m=some (l,m')∧EN P f t fs∧Laid m m' fs l
theorem QT (f:Nat):∀ (xs:List (TypeId×DataW H)),(∀ x∈xs,Ws P f x.1 x.2)→∀ m,∃ l m' L,Rl (OO P f) xs m=some (l,m')∧Gh (fun (x:TypeId×DataW H) fs=>EN P f x.1 fs) xs L∧Laid m m' L.flatten l
 |[],_,m=>⟨[],m,[],rfl,.nil,Laid.refl m .nil rfl⟩
 |(t,d)::xs,h,m=>by
  obtain ⟨l1,m1,fs,h1,h2,h3⟩:=h (t,d) (by simp) m
  obtain ⟨l2,m2,L,h4,h5,h6⟩:=QT f xs (fun x hx=>h x (by simp [hx])) m1
  refine ⟨l1++l2,m2,fs::L,by simp only [Rl,h1,h4],.cons h2 h5,?_⟩
  rw [List.flatten_cons]
  exact ⟨(h3.rel.mono (lH h6.size h6.get)).append h6.rel,by rw [List.all_append,h3.cell,h6.cell];rfl,Nat.le_trans h3.size h6.size,fun c hc=>(h6.get c (by have:=h3.size;omega)).trans (h3.get c hc)⟩
theorem Gh.Qx {α β γ:Type} {R:β→γ→Prop} {g:α→β}:∀ {l:List α} {r:List γ},Gh R (l.map g) r→Gh (fun a c=>R (g a) c) l r
 |[],_,.nil=>.nil
 |_::_,_,.cons h t=>.cons h (Gh.Qx t)
theorem Gh.const {α γ:Type} {R:γ→Prop}:∀ {l:List α} {r:List γ},Gh (fun _ c=>R c) l r→l.length=r.length∧∀ x∈r,R x
 |_,_,.nil=>⟨rfl,by simp⟩
 |_,_,.cons h t=>by
  obtain ⟨h1,h2⟩:=Gh.const t
  exact ⟨by simp [h1],fun x hx=>(List.mem_cons.1 hx).elim (fun e=>e▸h) (h2 x)⟩
theorem Gh.zip {α β γ:Type} {R:α→γ→Prop}:∀ {l:List α} {ds:List β} {r:List γ},l.length=ds.length→Gh (fun (x:α×β) c=>R x.1 c) (l.zip ds) r→Gh R l r
 |[],[],_,_,h=>by cases h;exact .nil
 |a::l,d::ds,r,hl,h=>by
  rw [List.zip_cons_cons] at h
  cases h with|cons h t=>exact .cons h (Gh.zip (by simpa using hl) t)
 |[],_::_,_,hl,_=>by simp at hl
 |_::_,[],_,hl,_=>by simp at hl
theorem l9:∀ (f:Nat) (t:TypeId) (cs:List Value) (d:DataW H) (ps:List MemPlace),Rx P f t=true→DataW.trod enc P W 0 (fun _=>true) held f t cs=some (d,ps)→Ws P f t d
 |0,_,_,_,_,h,_=>by cases h
 |f+1,t,cs,d,ps,hok,h=>by
  have ih:=l9 f
  intro m
  unfold DataW.trod at h
  unfold OO
  unfold Rx at hok
  unfold EN
  cases hu:P.underlying t with
  |none=>rw [hu] at hok;cases hok
  |some u =>
   rw [hu] at h hok
   cases u with
   |bool =>
    match cs,h with
    |[.bool b],h =>
     simp only [Option.some.injEq,Prod.mk.injEq] at h
     obtain ⟨rfl,rfl⟩:=h
     exact ⟨_,_,_,rfl,⟨b,rfl⟩,Laid.refl m (.cons (.bool b) .nil) rfl⟩
   |int k =>
    match cs,h with
    |[.int k' n],h =>
     simp only at h
     split at h
     ·rename_i hc
      simp only [Option.some.injEq,Prod.mk.injEq] at h
      obtain ⟨rfl,rfl⟩:=h
      exact ⟨_,_,_,rfl,⟨n,rfl,hc.2⟩,Laid.refl m (.cons (.int k n) .nil) rfl⟩
     ·cases h
   |string =>
    match cs,h with
    |[.string s],h =>
     simp only at h
     split at h
     ·rename_i hc
      simp only [Option.some.injEq,Prod.mk.injEq] at h
      obtain ⟨rfl,rfl⟩:=h
      exact ⟨_,_,_,rfl,⟨s,rfl,hc⟩,Laid.refl m (.cons (.str s) .nil) rfl⟩
     ·cases h
   |slice e =>
    simp only [Bool.and_eq_true,bne_iff_ne,ne_eq] at hok
    match cs,h with
    |[.slice none 0 0],h =>
     simp only [Option.some.injEq,Prod.mk.injEq] at h
     obtain ⟨rfl,rfl⟩:=h
     exact ⟨_,_,_,rfl,⟨[],rfl,Nat.zero_le _,by simp⟩,Laid.refl m (.cons (.nil e) .nil) rfl⟩
    |[.slice (some a) len cap],h =>
     simp only at h
     split at h
     ·rename_i hc
      simp only [Option.bind_eq_some_iff,Option.map_eq_some_iff] at h
      obtain ⟨elems,h1,rest,h2,h3⟩:=h
      simp only [Prod.mk.injEq] at h3
      obtain ⟨rfl,rfl⟩:=h3
      obtain ⟨hl,hm⟩:=mapM_some h1
      simp only [hok.1,if_false]
      split
      ·rename_i he
       simp only [Bool.and_eq_true,List.isEmpty_iff] at he
       exact ⟨_,_,_,rfl,⟨[],rfl,Nat.zero_le _,by simp⟩,Laid.refl m (.cons (.room e 0 0 0) .nil) rfl⟩
      ·have hcan:∀ x∈(elems.map (·.1)).map fun x=>(e,x),Ws P f x.1 x.2:=by
        intro x hx
        simp only [List.mem_map] at hx
        obtain ⟨y,⟨z,hz,rfl⟩,rfl⟩:=hx
        obtain ⟨i,hi⟩:=List.getElem?_of_mem hz
        have hlt:i<(List.range len).length:=by
         have:i<elems.length:=by
          rcases Nat.lt_or_ge i elems.length with h|h
          ·exact h
          ·rw [List.getElem?_eq_none h] at hi;cases hi
         omega
        obtain ⟨b,hb1,hb2⟩:=hm i _ (List.getElem?_eq_getElem hlt)
        rw [hi] at hb1;cases hb1
        simp only [Option.bind_eq_some_iff] at hb2
        obtain ⟨cs',_,hb3⟩:=hb2
        exact ih e cs' z.1 z.2 hok.2 hb3
       obtain ⟨l,m',L,e1,e2,e3⟩:=QT f _ hcan m
       obtain ⟨e4,e5⟩:=Gh.const (R:=fun fs=>EN P f e fs) (Gh.Qx (R:=fun (x:TypeId×DataW H) fs=>EN P f x.1 fs) (g:=fun x=>(e,x)) e2)
       rw [e1]
       simp only [List.length_map,List.length_range] at e4 hl ⊢
       have hg:∀ c,c<m'.size→(m'.alloc (.cells l e 0 true)).get c=m'.get c:=fun c hc=>by rw [Mem.CP,if_neg (by omega)]
       have hsz:(m'.alloc (.cells l e 0 true)).size=m'.size+1:=rfl
       refine ⟨_,_,_,rfl,⟨L,rfl,by omega,e5⟩,⟨?_,rfl,by rw [hsz];have:=e3.size;omega,fun c hc=>(hg c (by have:=e3.size;omega)).trans (e3.get c hc)⟩⟩
       rw [show elems.length=L.length by omega]
       refine .cons (.lst (by rw [hsz];omega) (by rw [Mem.CP,if_pos rfl]) (ws:=l) ?_ (e3.rel.mono fun c hc=>⟨by rw [hsz];omega,hg c hc⟩) e3.cell) .nil
       rw [List.drop_zero,e3.rel.length];simp [takeN]
     ·cases h
   |struct sf =>
    simp only [Bool.and_eq_true,decide_eq_true_eq] at hok
    obtain ⟨hok1,hok2⟩:=hok
    have h':(if cs.length=P.cellsOf t then (sf.toList.mapM fun f_1=>DataW.trod enc P W 0 (fun _=>true) held f f_1.type ((cs.drop f_1.offset).take (P.cellsOf f_1.type))).map fun xs=>((.agg (xs.map (·.1)):DataW H),xs.flatMap (·.2)) else none)=some (d,ps):=by
     revert h;cases cs with
     |nil=>exact id
     |cons c cs=>cases c<;>cases cs<;>exact id
    split at h'
    ·simp only [Option.map_eq_some_iff,Prod.mk.injEq] at h'
     obtain ⟨xs,h1,rfl,rfl⟩:=h'
     obtain ⟨hl,hm⟩:=mapM_some h1
     simp only [hok1,if_true]
     have hcan:∀ x∈(sf.toList.map (·.type)).zip (xs.map (·.1)),Ws P f x.1 x.2:=by
      intro x hx
      obtain ⟨i,hi⟩:=List.getElem?_of_mem hx
      rw [List.getElem?_zip_eq_some,List.getElem?_map,List.getElem?_map,Option.map_eq_some_iff,Option.map_eq_some_iff] at hi
      obtain ⟨⟨fd,hfd,hx1⟩,⟨y,hy,hx2⟩⟩:=hi
      obtain ⟨b,hb1,hb2⟩:=hm i fd hfd
      rw [hy] at hb1;cases hb1
      have hx':x=(fd.type,y.1):=by rw [hx1,hx2]
      rw [hx']
      exact ih fd.type _ y.1 y.2 (List.all_eq_true.1 hok2 fd (List.mem_of_getElem? hfd)) hb2
     obtain ⟨l,m',L,e1,e2,e3⟩:=QT f _ hcan m
     refine ⟨l,m',L.flatten,e1,⟨L,rfl,?_⟩,e3⟩
     exact Gh.Qx (R:=fun t fs=>EN P f t fs) (g:=fun (fd:Field)=>fd.type) (Gh.zip (R:=fun t fs=>EN P f t fs) (by simp only [List.length_map];omega) e2)
    ·cases h'
   |array n e =>
    simp only [Bool.and_eq_true,decide_eq_true_eq] at hok
    obtain ⟨hok1,hok2⟩:=hok
    have h':(if cs.length=P.cellsOf t then ((List.range n).mapM fun i=>DataW.trod enc P W 0 (fun _=>true) held f e ((cs.drop (i*P.cellsOf e)).take (P.cellsOf e))).map fun xs=>((.agg (xs.map (·.1)):DataW H),xs.flatMap (·.2)) else none)=some (d,ps):=by
     revert h;cases cs with
     |nil=>exact id
     |cons c cs=>cases c<;>cases cs<;>exact id
    split at h'
    ·simp only [Option.map_eq_some_iff,Prod.mk.injEq] at h'
     obtain ⟨xs,h1,rfl,rfl⟩:=h'
     obtain ⟨hl,hm⟩:=mapM_some h1
     simp only [hok1,if_true]
     have hcan:∀ x∈(xs.map (·.1)).map fun x=>(e,x),Ws P f x.1 x.2:=by
      intro x hx
      simp only [List.mem_map] at hx
      obtain ⟨y,⟨z,hz,rfl⟩,rfl⟩:=hx
      obtain ⟨i,hi⟩:=List.getElem?_of_mem hz
      have hlt:i<(List.range n).length:=by
       have:i<xs.length:=by
        rcases Nat.lt_or_ge i xs.length with h|h
        ·exact h
        ·rw [List.getElem?_eq_none h] at hi;cases hi
       omega
      obtain ⟨b,hb1,hb2⟩:=hm i _ (List.getElem?_eq_getElem hlt)
      rw [hi] at hb1;cases hb1
      exact ih e _ z.1 z.2 hok2 hb2
     obtain ⟨l,m',L,e1,e2,e3⟩:=QT f _ hcan m
     obtain ⟨e4,e5⟩:=Gh.const (R:=fun fs=>EN P f e fs) (Gh.Qx (R:=fun (x:TypeId×DataW H) fs=>EN P f x.1 fs) (g:=fun x=>(e,x)) e2)
     simp only [List.length_map,List.length_range] at e4 hl
     exact ⟨l,m',L.flatten,e1,⟨L,rfl,by omega,e5⟩,e3⟩
    ·cases h'
   |_=>cases hok
end
end Go.Vm
namespace Go.Vm
open Go.Am
variable {P:Program}
def noO:CB:=fun _=>none
open Classical in
noncomputable def uf (G:List Nat) (M0:Mem) (fs:List FuncId):CB:=fun f =>
 if f∈fs then some fun Cb m=>if Cb=[]∧∀ k∈G,m.get k=M0.get k then some (.bool true,m) else none else none
theorem IW {F:Nat} {laid:List (String×DataW Unit)} {k:Nat} (hk:k<P.globals.size):(CV P F laid).get k=match Gn P F laid k with|some (e,l)=>.cells l e 0 true|none=>.cells [] 0 0 true:=by
 rw [CV,Pq,if_neg (by simp [Am.empty])]
 simp only [Am.empty,Nat.sub_zero,List.getElem?_map]
 rw [List.getElem?_eq_getElem (by simpa using hk)]
 simp only [List.getElem_range,Option.map_some]
 cases Gn P F laid k<;>rfl
theorem Qn {F:Nat} {laid:List (String×DataW Unit)}:(CV P F laid).size=P.globals.size:=by rw [CV,Nk];simp [Am.empty]
theorem Qb {F:Nat} {laid:List (String×DataW Unit)} {k:Nat} (h:k∈BK P F laid):k<P.globals.size∧∃ e l,Gn P F laid k=some (e,l):=by
 simp only [BK,List.mem_filter,List.mem_range] at h
 obtain ⟨h1,h2⟩:=h
 cases hg:Gn P F laid k with
 |none=>rw [hg] at h2;cases h2
 |some x=>exact ⟨h1,x.1,x.2,rfl⟩
theorem QY {F:Nat} {laid:List (String×DataW Unit)} {k:Nat} {e:TypeId} {l:List Value} (h:Gn P F laid k=some (e,l)):l.all Am.plainCell=true:=by
 unfold Gn at h
 split at h
 ·rename_i x g _ _
  simp only [Option.map_eq_some_iff,Prod.mk.injEq] at h
  obtain ⟨r,h1,_,rfl⟩:=h
  unfold absP at h1
  split at h1
  ·rename_i l' m' _
   split at h1
   ·rename_i hp;cases h1;exact hp
   ·cases h1
  ·cases h1
 ·cases h
def gam (P:Program) (F:Nat) (laid:List (String×DataW Unit)):Nat→Option (List Value×TypeId):=fun k=>if k<P.globals.size then (Gn P F laid k).map fun x=>(x.2,x.1) else none
noncomputable def jZ (P:Program) (F:Nat) (laid:List (String×DataW Unit)) (fs:List FuncId):Env :=
 ⟨P,uf (BK P F laid) (CV P F laid) fs,BK P F laid,gam P F laid⟩
theorem EN.array {f n:Nat} {t e:TypeId} {fs:List FV} (h:EN P (f+1) t fs) (hu:P.underlying t=some (.array n e)):∃ L:List (List FV),fs=L.flatten∧L.length=n∧∀ x∈L,EN P f e x:=by
 unfold EN at h;rw [hu] at h;exact h
def uq (P:Program) (F:Nat):List TypeId→List (List FV)→Prop:=Gh (fun t fs=>EN P F t fs)
def Uc (P:Program) (t:TypeId) (fs:List FV):Option FV :=
 match P.underlying t,fs with
 |some (.struct _),fs=>some (.agg fs)
 |some (.array _ _),fs=>some (.agg fs)
 |some .bool,[v]|some (.int _),[v]|some .string,[v]|some (.slice _),[v]=>some v
 |_,_=>none
theorem nY {m:Mem} {F:Nat→Prop} {n:Nat} {t:TypeId} {fs:List FV} {l:List Value} (h:DC m F fs l) (hc:l.all BP=true) (ht:EN P n t fs):∃ x v,Uc P t fs=some x∧dH P t l=some v∧RF m F x v:=by
 cases n with
 |zero=>exact ht.elim
 |succ n =>
  unfold EN at ht
  unfold Uc dH
  cases hu:P.underlying t with
  |none=>rw [hu] at ht;exact ht.elim
  |some u =>
   rw [hu] at ht
   cases u with
   |bool=>obtain ⟨b,rfl⟩:=ht;cases h with|cons h1 t1=>cases t1;exact ⟨_,_,rfl,rfl,h1⟩
   |int k=>obtain ⟨b,rfl,_⟩:=ht;cases h with|cons h1 t1=>cases t1;exact ⟨_,_,rfl,rfl,h1⟩
   |string=>obtain ⟨b,rfl,_⟩:=ht;cases h with|cons h1 t1=>cases t1;exact ⟨_,_,rfl,rfl,h1⟩
   |slice e=>obtain ⟨b,rfl,_⟩:=ht;cases h with|cons h1 t1=>cases t1;exact ⟨_,_,rfl,rfl,h1⟩
   |struct sf=>exact ⟨_,_,rfl,rfl,.agg h hc⟩
   |array k e=>exact ⟨_,_,rfl,rfl,.agg h hc⟩
   |_=>exact ht.elim
theorem X7:∀ (f:Nat) (t:TypeId),Rx P f t=true→Rx P (f+1) t=true
 |0,_,h=>by cases h
 |f+1,t,h=>by
  have ih:=X7 f
  unfold Rx at h ⊢
  cases hu:P.underlying t with
  |none=>rw [hu] at h;cases h
  |some u =>
   rw [hu] at h
   cases u with
   |bool=>rfl
   |int k=>rfl
   |string=>rfl
   |slice e =>
    simp only [Bool.and_eq_true] at h ⊢
    exact ⟨h.1,ih e h.2⟩
   |struct fs =>
    simp only [Bool.and_eq_true,List.all_eq_true] at h ⊢
    exact ⟨h.1,fun fd hfd=>ih _ (h.2 fd hfd)⟩
   |array n e =>
    simp only [Bool.and_eq_true] at h ⊢
    exact ⟨h.1,ih e h.2⟩
   |_=>cases h
theorem mg {f g:Nat} {t:TypeId} (hfg:f≤g) (h:Rx P f t=true):Rx P g t=true:=by
 induction hfg with
 |refl=>exact h
 |step _ ih=>exact X7 _ _ ih
section
variable {H:Type} {enc:TypeId×Value→H} {W:World} {held:Bool}
def uO (enc:TypeId×Value→H) (P:Program) (W:World) (held:Bool) (n:Nat):List TypeId→List Value→List (DataW H)→Prop
 |[],[],[]=>True
 |t::ts,v::vs,d::ds=>(∃ p,DataW.trod enc P W 0 (fun _=>true) held n t v.cells.toList=some (d,p))∧uO enc P W held n ts vs ds
 |_,_,_=>False
theorem vS:∀ (ts:List TypeId) (vs:List Value) (ds:List (DataW H)) (ps:List MemPlace),DataW.TrodAll enc P W 0 (fun _=>true) held ts vs ds ps→∃ N,∀ n,N≤n→uO enc P W held n ts vs ds
 |[],[],[],_,_=>⟨0,fun _ _=>trivial⟩
 |t::ts,v::vs,d::ds,ps,⟨p,q,⟨f,h1⟩,h2,_⟩=>by
  obtain ⟨N,hN⟩:=vS ts vs ds q h2
  exact ⟨max f N,fun n hn=>⟨⟨p,DataW.trod_le (by omega) h1⟩,hN n (by omega)⟩⟩
 |[],[],_::_,_,h=>h.elim
 |[],_::_,_,_,h=>h.elim
 |_::_,[],_,_,h=>h.elim
 |_::_,_::_,[],_,h=>h.elim
theorem RZ {n:Nat}:∀ (ts:List TypeId) (vs:List Value) (ds:List (DataW H)),(∀ t∈ts,Rx P n t=true)→uO enc P W held n ts vs ds→∀ m,∃ Cb m' iq xs,Qu P n ts ds m=some (Cb,m') ∧
 uq P n ts iq∧Gh (fun (tf:TypeId×List FV) x=>Uc P tf.1 tf.2=some x) (ts.zip iq) xs∧DC m' (fun c=>c<m'.size) xs Cb∧m.size≤m'.size∧∀ c,c<m.size→m'.get c=m.get c
 |[],[],[],_,_,m=>⟨[],m,[],[],rfl,.nil,.nil,.nil,Nat.le_refl _,fun _ _=>rfl⟩
 |t::ts,v::vs,d::ds,hok,⟨⟨p,h1⟩,h2⟩,m=>by
  obtain ⟨l,m1,fs,e1,e2,e3⟩:=l9 n t _ d p (hok t (by simp)) h1 m
  obtain ⟨x,u,p1,p2,p3⟩:=nY e3.rel e3.cell e2
  obtain ⟨Cb,m2,iq,xs,q1,q2,q3,q4,q5,q6⟩:=RZ ts vs ds (fun t ht=>hok t (by simp [ht])) h2 m1
  refine ⟨u::Cb,m2,fs::iq,x::xs,by simp only [Qu,e1,p2,q1],.cons e2 q2,.cons p1 q3,.cons (p3.mono (lH q5 q6)) q4,Nat.le_trans e3.size q5,fun c hc=>(q6 c (by have:=e3.size;omega)).trans (e3.get c hc)⟩
 |[],[],_::_,_,h,_=>h.elim
 |[],_::_,_,_,h,_=>h.elim
 |_::_,[],_,_,h,_=>h.elim
 |_::_,_::_,[],_,h,_=>h.elim
theorem law {r:Go.Reach} {b0 F:Nat} {laid:List (String×DataW Unit)} {fs:List FuncId} {f:FuncId} {ts:List TypeId} {args:Array Value} {ds:List (DataW H)} {ps:List MemPlace}
 (hL:laidMet P laid W) (hA:DataW.TrodAll enc P W 0 (fun _=>true) held ts args.toList ds ps) (hv:∀ (j:Nat) t v,ts[j]?=some t→args.toList[j]?=some v→Value.okWide P W r b0 t v)
 (bG:P.follows .mixedOrders=true) (hty:ts.all (Rx P F)=true)
 (hO:GV P (BK P F laid) (uf (BK P F laid) (CV P F laid) fs))
 (hp:∀ j iq xs,uq P (j+F) ts iq→Gh (fun (tf:TypeId×List FV) x=>Uc P tf.1 tf.2=some x) (ts.zip iq) xs→AV (jZ P F laid fs) f xs (.p (.bool true))) :
 Calls P f args W fun e W'=>e=.returned (.bool true)∧Go.RowKit.Below W.heap.size W W':=by
 obtain ⟨N,hN⟩:=vS ts _ ds ps hA
 obtain ⟨j,hj⟩:∃ j,max N F=j+F:=⟨max N F-F,by omega⟩
 obtain ⟨Cb,m1,iq,xs,q1,q2,q3,q4,q5,q6⟩:=RZ ts _ ds (fun t ht=>mg (by omega) (List.all_eq_true.1 hty t ht)) (hN (max N F) (by omega)) (CV P F laid)
 rw [hj] at q2
 have bF:Ctx (jZ P F laid fs).Γ m1 (fun c=>c<m1.size) (fun _=>undef) [] 0:=by
  refine ⟨fun _ h=>h,fun b x hb=>(by cases hb),fun b b' x x' c hb=>(by cases hb),fun g vs e hg=>?_⟩
  simp only [jZ,gam] at hg
  split at hg
  ·rename_i hlt
   simp only [Option.map_eq_some_iff,Prod.mk.injEq] at hg
   obtain ⟨⟨e',l⟩,h1,rfl,rfl⟩:=hg
   have hlt':g<(CV P F laid).size:=by rw [Qn];exact hlt
   exact ⟨by omega,by rw [q6 g hlt',IW hlt,h1],QY h1⟩
  ·cases hg
 obtain ⟨v,m',⟨K,hK⟩,r0,H',nx',F',σ',⟨rfl,_,_⟩,_,hrv,_⟩:=hp j iq xs q2 q3 m1 _ _ Cb bF (Dz.YE q4)
 have hv1:v=.bool true:=by cases hrv with|p h=>cases h;rfl
 subst hv1
 obtain ⟨ι,hs,hro⟩:=Yj (F:=F) hL
 obtain ⟨ι1,o1,o2,o3,o4⟩:=RI ts _ ds ps hA hv ι _ m1 Cb hs hro q1
 refine ((NW hO bG K f).1 Cb m1 _ m' (hK K K (Nat.le_refl _) (Nat.le_refl _)) ι1 W args o1 o4).mono fun e W' ⟨v',he,ι2,hx,hs2,Qp⟩=>?_
 have:=Qp.Cj (v:=.bool true) rfl
 subst this
 exact ⟨he,⟨hx.os,hx.tape,hx.output,hx.heap,fun c hcl=>hx.frame c hcl fun b ib hb _=>.inl (o3 b (o1.dom b ib hb).1)⟩⟩
end
end Go.Vm
namespace Go.Vm
open Go.Am
variable {E:Env} {L:Frame} {H:Heap} {nx:Nat} {Q:PV→Heap→Nat→Prop} {w:Bool}
variable {dst:Option Tmp} {ty:TypeId} {pos:String} {af:Array Edge} {gd:Option (Nat×Bool)}
def evF (Γ:Nat→Option (List Value×TypeId)) (L:Frame):List Operand→Option (List FV)
 |[]=>some []
 |o::l=>match Bq Γ L o with
  |some (.p x)=>match evF Γ L l with
   |some r=>some (x::r)
   |none=>none
  |_=>none
theorem ZE {Γ:Nat→Option (List Value×TypeId)}:∀ {os:List Operand} {xs:List FV},evF Γ L os=some xs→evs Γ L os=some (xs.map .p)
 |[],_,h=>by cases h;rfl
 |o::os,xs,h=>by
  simp only [evF] at h
  split at h
  ·rename_i x hx
   split at h
   ·rename_i r hr
    cases h
    simp only [evs,hx,ZE hr,List.map_cons]
   ·cases h
  ·cases h
theorem Aa.fn {fo:Operand} {args:Array Operand} {aT:Array TypeId} {g:FuncId} {xs:List FV} {r:PV} (hf:Bq E.Γ L fo=some (.clo g [] [])) (ha:evF E.Γ L args.toList=some xs)
 (hc:AV E g xs r) (hr:∀ ρ,r.rn ρ=r) (q:Q r H nx):Aa E w ⟨dst,.call { callee:=.value fo,args:=args,argTypes:=aT },ty,pos,af,gd⟩ L H nx Q :=
 Aa.a4o hf (ZE ha) (.refl _) hc hr q
theorem Aa.fv {fo:Operand} {args:Array Operand} {aT:Array TypeId} {g:FuncId} {xs cs:List FV} {e:TypeId} {n:Nat} {z:Bool} (hf:Bq E.Γ L fo=some (.clo g [] [])) (ha:evF E.Γ L args.toList=some xs)
 (hc:CS E g xs e cs n z) (q:Q (.vec nx n 0 n) ((nx,.vec e cs n z)::H) (nx+1)):Aa E w ⟨dst,.call { callee:=.value fo,args:=args,argTypes:=aT },ty,pos,af,gd⟩ L H nx Q :=
 Aa.a3j hf (ZE ha) (.refl _) hc q
theorem AV.enter {f:FuncId} {fn:Func} {c:Code} {xs:List FV} {r:PV} (ho:E.O f=none) (hf:E.P.funcs[f]?=some fn) (hb:fn.body=some c) (hok:Ht E.G fn c=true) (hn:xs.length≤fn.ntmps)
 (h:Ae E 0 c (CO 0 (xs.map .p)) [] 0 (Done E.P fn.results.toList 0 fun r' H' nx'=>r'=r∧H'=[]∧nx'=0)):AV E f xs r:=Bz.enter ho hf hb hok (by simpa using hn) h
def Df (P:Program) (rs:List ResultVar) (e:TypeId) (cs:List FV) (n:Nat) (z:Bool) (x:CG) (L:Frame) (H:Heap) (_:Nat):Prop :=
 match x with
 | .exit _=>False
 | .normal=>∃ b,EF P rs L H=some (.vec b n 0 n)∧hget H b=some (.vec e cs n z)
 | .ret=>∃ b,EF P rs L H=some (.vec b n 0 n)∧hget H b=some (.vec e cs n z)
theorem Df.ret {P:Program} {rs:List ResultVar} {e:TypeId} {cs cs':List FV} {n n':Nat} {z:Bool} {b:Nat} (h:EF P rs L H=some (.vec b n' 0 n')) (hb:hget H b=some (.vec e cs' n' z)) (hn:n'=n) (hcs:cs'=cs):Df P rs e cs n z .ret L H nx:=by
 subst hn;subst hcs;exact ⟨b,h,hb⟩
theorem CS.enter {f:FuncId} {fn:Func} {c:Code} {xs cs:List FV} {e:TypeId} {n:Nat} {z:Bool} (ho:E.O f=none) (hf:E.P.funcs[f]?=some fn) (hb:fn.body=some c) (hok:Ht E.G fn c=true) (hn:xs.length≤fn.ntmps)
 (h:Ae E 0 c (CO 0 (xs.map .p)) [] 0 (Df E.P fn.results.toList e cs n z)):CS E f xs e cs n z:=by
 intro m F σ Cb h1 h2
 refine I7.enter ho hf hb hok (by rw [← h2.length];simpa using hn) ((h ⟨m,F,σ,[],0⟩ rfl m F σ _ h1 ?_ (Step.refl _ _ _ _ _)).mono ?_)
 ·intro i v hi
  obtain ⟨_,h3⟩:=Jk _ 0 i v hi
  obtain ⟨u,h4,h5⟩:=h2.get h3
  have:=IL Cb 0 .leaf i
  simp only [Nat.sub_zero] at h4
  have hlt:i<Cb.length:=by
   rcases Nat.lt_or_ge i Cb.length with h|h
   ·exact h
   ·rw [List.getElem?_eq_none h] at h4;cases h4
  rw [this,if_pos ⟨Nat.zero_le _,by omega⟩,Nat.sub_zero,List.getD_eq_getElem?_getD,h4]
  exact h5
 ·rintro x s ⟨L',H',nx',F',σ',q,c1,c2,c3⟩
  have key:(∃ b,EF E.P fn.results.toList L' H'=some (.vec b n 0 n)∧hget H' b=some (.vec e cs n z))→∃ v,Eu E.P fn s=some v∧∃ r H' nx' F' σ',(r=.vec 0 n 0 n∧H'=[(0,.vec e cs n z)]∧nx'=1)∧Ctx E.Γ s.m F' σ' H' nx'∧RP s.m F' (htag H') σ' nx' r v∧Step m F σ [] 0 s.m F' σ' H' nx':=by
   rintro ⟨b,hr,hb⟩
   obtain ⟨v,h3,h4⟩:=LD c1 c2 hr
   obtain ⟨_,hrb⟩:=c1.hp b _ hb
   have hone:∀ b' x,hget [(0,HB.vec e cs n z)] b'=some x→b'=0∧x=.vec e cs n z:=fun b' x hx=>by
    rw [BZ] at hx
    split at hx
    ·rename_i e';cases hx;exact ⟨e'.symm,rfl⟩
    ·cases hx
   refine ⟨v,h3,_,_,_,F',fun _=>σ' b,⟨rfl,rfl,rfl⟩,⟨c1.fr,fun b' x hx=>?_,fun b1 b2 x1 x2 c hx1 hx2 _ _=>?_,c1.gl⟩,?_,⟨c3.size,c3.keep,c3.NR,c3.NM,fun c hc ho=>?_,Nat.zero_le _,fun b hb=>absurd hb (Nat.not_lt_zero _),c3.low⟩⟩
   ·obtain ⟨rfl,rfl⟩:=hone b' x hx
    exact ⟨by omega,hrb⟩
   ·rw [(hone b1 x1 hx1).1,(hone b2 x2 hx2).1]
   ·cases h4 with
    |vec hb' hc h =>
     refine .vec (by omega) hc fun k hk=>?_
     have hk':htag [(0,HB.vec e cs n z)] 0=some (.vec n):=rfl
     rw [hk'] at hk
     cases hk
     exact ⟨Nat.le_refl _,fun _=>(h n (by simp [htag,hb,HB.tag])).2 rfl⟩
   ·obtain ⟨b',x,hx,hc'⟩:=ho
    exact c3.Jv c hc ⟨b,_,hb,hc'⟩
  cases x with
  |exit i=>exact q.elim
  |normal=>exact key q
  |ret=>exact key q
theorem Aa.DF {α:Type} {_:Enc α} {l:List α} {a:α} {s x:Operand} {sT xT e e2:TypeId} {xd:TypeDesc} {i:TypeInfo} {b b2 n:Nat} {xs:List FV} {z z2:Bool} (hs:Bq E.Γ L s=some (.vec b n 0 n)) (hb:hget H b=some (.vec e (cells l) n z))
 (hx:Bq E.Γ L x=some (.vec b2 1 0 1)) (hb2:hget H b2=some (.vec e2 xs 1 z2)) (hxs:xs=Enc.enc a) (hn:l.length=n) (y9:E.P.underlying sT=some (.slice e)) (hxT:E.P.underlying xT=some xd) (hd:∀ k,xd≠.int k) (hi:E.P.info? e=some i)
 (hsz:Enc.size α=i.size) (hzs:Fq i=true) (h0:0<i.size) (hby:i.bytes<1000000) (hlen:l.length<1000000) (q:Q (.vec b (l.length+1) 0 (l.length+1)) (hput H b (.vec e (cells (l++[a])) (l.length+1) z)) nx) :
 Aa E true ⟨dst,.call { callee:=.builtin .append,args:=#[s,x],argTypes:=#[sT,xT] },ty,pos,af,gd⟩ L H nx Q:=by
 subst hn
 have hroom:(l.length+1)*(i.bytes+1)≤room:=Nat.le_trans (Nat.mul_le_mul (by omega:l.length+1≤1000000) (by omega:i.bytes+1≤1000000)) (by decide)
 refine Aa.append (i:=i) hs hb (mX.all hx hb2 (by rw [hxs,Enc.len,← hsz];omega)) y9 hxT hd hi hzs (by omega) hroom (by rw [BF,hsz]) h0 ?_
 have:cells (l++[a])=cells l++xs:=by rw [Ee,hxs];simp [cells,encs]
 rw [← this]
 exact q
theorem Aa.not {t:TypeId} {x:Operand} {b:Bool} (hx:Bq E.Γ L x=some (.p (.bool b))) (q:Q (.p (.bool (!b))) H nx):Aa E w ⟨dst,.unOp .not t x,ty,pos,af,gd⟩ L H nx Q :=
 Aa.quiet q fun m F σ tt h1 h2=>by
  refine ⟨.bool (!b),fun _=>?_,.p (.bool _)⟩
  have hb:=Ib h1 h2 hx
  simp only [CQ,Fg,hb]
  cases b<;>rfl
theorem PV.int_eq {k:IntKind} {a b:Int} (h:a=b):(PV.p (.int k a))=.p (.int k b):=by rw [h]
theorem PV.Oo {a b:Bool} (h:a=b):(PV.p (.bool a))=.p (.bool b):=by rw [h]
end Go.Vm
namespace Go.Vm
open Go.Am
variable {E:Env} {L:Frame} {H:Heap} {nx:Nat} {Q:PV→Heap→Nat→Prop} {w:Bool}
variable {dst:Option Tmp} {ty:TypeId} {pos:String} {af:Array Edge} {gd:Option (Nat×Bool)}
section
variable {bn:Nat} {ops:Array Oper} {op:Op} {l:List Oper} {i:Nat} {R:Frame→Heap→Nat→Prop}
theorem Ar.quiet (h:Aa E false ⟨dst,op,ty,pos,af,none⟩ L H nx fun r H' nx'=>Ar E bn ops (i+1) l (LQ L dst r) H' nx' R):Ar E bn ops i (⟨dst,op,ty,pos,af,none⟩::l) L H nx R:=by
 intro B hB m F σ t h1 h2 h3
 refine Gz.cons (F6.wanted (L:=L) h1 h2 rfl) ((h (m.at m.size) F σ t (h1.at _) (RL.at (Γ:=E.Γ) _ h2)).mono ?_)
 rintro v m' ⟨r,H',nx',F',σ',q,c1,c2,c3,c4⟩
 refine ⟨.inr (.inl (c4 rfl m.size (Nat.le_refl _) (Nat.le_refl _))),?_⟩
 exact q B hB _ F' σ' _ (c1.at _) (RL.at (Γ:=E.Γ) _ (((RL.at (Γ:=E.Γ) _ h2).step c3 (h1.at _)).put c2)) (h3.trans c3.at)
theorem Ar.YH {j d:Nat} {want:Bool} (hd:(ops[j]?).bind (·.dst)=some d) (hb:G7 L d=some (.p (.bool want))) (h:Aa E false ⟨dst,op,ty,pos,af,some (j,want)⟩ L H nx fun r H' nx'=>Ar E bn ops (i+1) l (LQ L dst r) H' nx' R) :
 Ar E bn ops i (⟨dst,op,ty,pos,af,some (j,want)⟩::l) L H nx R:=by
 intro B hB m F σ t h1 h2 h3
 refine Gz.cons (F6.wanted (L:=L) (w:=true) h1 h2 ⟨want,d,hd,hb,by cases want<;>rfl⟩) ((h (m.at m.size) F σ t (h1.at _) (RL.at (Γ:=E.Γ) _ h2)).mono ?_)
 rintro v m' ⟨r,H',nx',F',σ',q,c1,c2,c3,c4⟩
 refine ⟨.inr (.inl (c4 rfl m.size (Nat.le_refl _) (Nat.le_refl _))),?_⟩
 exact q B hB _ F' σ' _ (c1.at _) (RL.at (Γ:=E.Γ) _ (((RL.at (Γ:=E.Γ) _ h2).step c3 (h1.at _)).put c2)) (h3.trans c3.at)
theorem Ar.bar (hw:barrier E.P ops i=true) (h:Aa E true ⟨dst,op,ty,pos,af,none⟩ L H nx fun r H' nx'=>Ar E bn ops (i+1) l (LQ L dst r) H' nx' R):Ar E bn ops i (⟨dst,op,ty,pos,af,none⟩::l) L H nx R:=Ar.cons rfl hw h
end
theorem Ctx.move {Γ:Nat→Option (List Value×TypeId)} {m m':Mem} {F:Nat→Prop} {σ:Nat→Value} {b0:Nat} {x0 x':HB} {s':Value} (h:Ctx Γ m F σ H nx) (hb:hget H b0=some x0)
 (hsz:m.size≤m'.size) (hget':∀ c,c<m.size→Dn (σ b0)≠some c→m'.get c=m.get c) (hlow:∀ k,k≤m.low→k≤m.size→(∀ c,Dn (σ b0)=some c→k≤c)→k≤m'.low)
 (hblk:∀ c,Dn s'=some c→Dn (σ b0)=some c∨m.size≤c) (hr:RB m' F (htag ((nx,x')::hdel H b0)) (upd σ nx s') (nx+1) s' x') :
 Ctx Γ m' F (upd σ nx s') ((nx,x')::hdel H b0) (nx+1)∧Step m F σ H nx m' F (upd σ nx s') ((nx,x')::hdel H b0) (nx+1):=by
 have hown:∀ c,Dn (σ b0)=some c→own H σ c:=fun c hc=>⟨b0,x0,hb,hc⟩
 have hfz:∀ c,F c→F c∧m'.get c=m.get c:=fun c hc=>⟨hc,hget' c (h.fr c hc) fun e=>(h.KQ (hown c e)).1 hc⟩
 have hN:Names nx (htag H) σ (htag ((nx,x')::hdel H b0)) (upd σ nx s'):=fun b hbn=>by
  rw [Iq,if_neg (by omega),Sz,CW _ _ (by omega)]
  split
  ·exact ⟨trivial,fun _ _ _=>rfl⟩
  ·exact ⟨Ut.refl _,fun _ _ _=>rfl⟩
 have hg0:hget ((nx,x')::hdel H b0) nx=some x':=by rw [BZ,if_pos rfl]
 have hgo:∀ b y,hget ((nx,x')::hdel H b0) b=some y→b≠nx→b≠b0∧hget H b=some y:=fun b y hy e=>by
  rw [BZ,if_neg (Ne.symm e),Jr] at hy
  split at hy
  ·cases hy
  ·rename_i hne;exact ⟨Ne.symm hne,hy⟩
 refine ⟨⟨fun c hc=>Nat.lt_of_lt_of_le (h.fr c hc) hsz,?_,?_,?_⟩,⟨hsz,fun c hc ho=>hget' c hc fun e=>ho (hown c e),fun _ h=>h,fun _ _ h=>.inl h,?_,Nat.le_succ _,hN,?_⟩⟩
 ·intro b y hy
  by_cases e:b=nx
  ·subst e
   rw [hg0] at hy;cases hy
   rw [upd_same]
   exact ⟨Nat.lt_succ_self _,hr⟩
  ·obtain ⟨hne,hy⟩:=hgo b y hy e
   obtain ⟨h1,h2⟩:=h.hp b y hy
   rw [CW _ _ e]
   refine ⟨by omega,h2.mono hfz hN (Nat.le_succ _) hsz fun c hc=>?_⟩
   have:=h.KQ ⟨b,y,hy,hc⟩
   exact ⟨hget' c this.2 fun e'=>hne (h.sep b b0 y x0 c hy hb hc e'),this.1⟩
 ·intro b b' y y' c h1 h2 h3 h4
  by_cases e:b=nx<;>by_cases e':b'=nx
  ·omega
  ·subst e
   obtain ⟨hne,hy⟩:=hgo b' y' h2 e'
   rw [upd_same] at h3
   rw [CW _ _ e'] at h4
   rcases hblk c h3 with h5|h5
   ·exact absurd (h.sep b0 b' x0 y' c hb hy h5 h4).symm hne
   ·have:=(h.KQ ⟨b',y',hy,h4⟩).2;omega
  ·subst e'
   obtain ⟨hne,hy⟩:=hgo b y h1 e
   rw [upd_same] at h4
   rw [CW _ _ e] at h3
   rcases hblk c h4 with h5|h5
   ·exact absurd (h.sep b b0 y x0 c hy hb h3 h5) hne
   ·have:=(h.KQ ⟨b,y,hy,h3⟩).2;omega
  ·obtain ⟨_,hy⟩:=hgo b y h1 e
   obtain ⟨_,hy'⟩:=hgo b' y' h2 e'
   rw [CW _ _ e] at h3
   rw [CW _ _ e'] at h4
   exact h.sep b b' y y' c hy hy' h3 h4
 ·intro g vs e hg
  obtain ⟨h1,h2,h3⟩:=h.gl g vs e hg
  exact ⟨h1,(hfz g h1).2.trans h2,h3⟩
 ·rintro c hc ⟨b,y,hy,hbc⟩
  by_cases e:b=nx
  ·subst e
   rw [upd_same] at hbc
   rcases hblk c hbc with h5|h5
   ·exact hown c h5
   ·omega
  ·obtain ⟨_,hy⟩:=hgo b y hy e
   rw [CW _ _ e] at hbc
   exact ⟨b,y,hy,hbc⟩
 ·intro k h1 h2 h3
  exact hlow k h1 h2 fun c hc=>h3 c (hown c hc)
theorem appendMove' {s x:Operand} {sT xT e:TypeId} {xd:TypeDesc} {i:TypeInfo} {b n k:Nat} {cs xs:List FV} {z:Bool} (hs:Bq E.Γ L s=some (.vec b n 0 n)) (hb:hget H b=some (.vec e cs n z)) (hx:mX E.Γ L H nx x i.size xs k)
 (y9:E.P.underlying sT=some (.slice e)) (hxT:E.P.underlying xT=some xd) (hd:∀ k,xd≠.int k) (hi:E.P.info? e=some i) (hzs:Fq i=true) (hroom:(n+k)*(i.bytes+1)≤room) (hl:cs.length=n*i.size) (hsz:0<i.size)
 (q:Q (.vec nx (n+k) 0 (n+k)) ((nx,.vec e (cs++xs) (n+k) z)::hdel H b) (nx+1)):Aa E true ⟨dst,.call { callee:=.builtin .append,args:=#[s,x],argTypes:=#[sT,xT] },ty,pos,af,gd⟩ L H nx Q:=by
 intro m F σ t h1 h2
 have hsub:=GK h1 h2 hs hb
 obtain ⟨hx1,l,hx2,hx3,hx4⟩:=hx m F σ t h1 h2
 obtain ⟨hlt,hr⟩:=h1.hp b _ hb
 have hlenS:lenOf (ev t s)=some n:=by
  rcases hr with ⟨r1,r2,r3⟩|⟨c,g,vs,r1,_⟩
  ·rcases r3 with ⟨r3,_⟩|⟨b',o',g',r3,_⟩<;>rw [r3] at hsub<;>simp only [Et,Di] at hsub<;>rw [hsub.1,r2]<;>rfl
  ·rw [r1] at hsub;simp only [Et] at hsub;rw [hsub];rfl
 have happ:∀ v m',BD m e i.size l k (ev t s)=some (v,m')→F7 E.P #[sT,xT] #[ev t s,ev t x] m=some (v,m'):=by
  intro v m' ha
  simp only [F7,List.getElem?_toArray,List.getElem?_cons_zero,List.getElem?_cons_succ,y9,hxT,hlenS,hi,hzs,Bool.not_true,Bool.false_eq_true,if_false]
  cases xd<;>first|exact absurd rfl (hd _)|(simp only [hx1,hx2,hx4,Bool.and_true,decide_eq_true_eq];rw [if_pos hroom];exact ha)
 have hfin:∀ v m' s',BD m e i.size l k (ev t s)=some (v,m')→s'=v→(Ctx E.Γ m' F (upd σ nx s') ((nx,.vec e (cs++xs) (n+k) z)::hdel H b) (nx+1)∧Step m F σ H nx m' F (upd σ nx s') ((nx,.vec e (cs++xs) (n+k) z)::hdel H b) (nx+1)) →
  (BP v=true∧Et v 0 (n+k) v)→Hu E.P E.O E.G ⟨dst,.call { callee:=.builtin .append,args:=#[s,x],argTypes:=#[sT,xT] },ty,pos,af,gd⟩ ⟨t,m⟩ fun v m'=>∃ r H' nx' F' σ',Q r H' nx'∧Ctx E.Γ m' F' σ' H' nx'∧RP m' F' (htag H') σ' nx' r v∧Step m F σ H nx m' F' σ' H' nx'∧(true=false→Quiet m m'):=by
  rintro v m' s' ha rfl ⟨c1,c2⟩ ⟨hv1,hv2⟩
  refine Hu.op (v:=s') (m':=m') (fun _=>?_) ⟨_,_,_,F,_,q,c1,?_,c2,fun h=>by cases h⟩
  ·have:=happ _ _ ha
   simp only [CQ,Fg]
   simpa using this
  ·refine .vec (Nat.lt_succ_self _) hv1 fun j hj=>?_
   rw [Iq,if_pos rfl] at hj
   simp only [HB.tag,Option.some.injEq,Tg.vec.injEq] at hj
   refine ⟨by omega,fun _=>?_⟩
   rw [upd_same]
   exact hv2
 rcases hr with ⟨r1,r2,r3⟩|⟨c,g,vs,r1,r2,r3,r4,r5,r6,r7⟩
 ·have hv:Dn (σ b)=none∧(ev t s=.slice none 0 0∧z=true∨(∃ b o g,ev t s=.slice (some ⟨b,o,some g⟩) 0 0)∧z=false):=by
   rcases r3 with ⟨r3,hz⟩|⟨b',o',g',r3,hz⟩
   ·rw [r3] at hsub ⊢;exact ⟨rfl,.inl ⟨hsub.1,hz⟩⟩
   ·rw [r3] at hsub ⊢;simp only [Et] at hsub;exact ⟨rfl,.inr ⟨⟨_,_,_,hsub.1⟩,hz⟩⟩
  subst r1;subst r2
  rcases Nat.eq_zero_or_pos k with h0|h0
  ·subst h0
   have hxs:xs=[]:=by
    have hl0:l.length=0:=by rw [FC hx2];omega
    rw [List.eq_nil_of_length_eq_zero hl0] at hx3
    cases hx3;rfl
   subst hxs
   have ha:BD m e i.size l 0 (ev t s)=some (ev t s,m):=by
    rcases hv.2 with ⟨hv,_⟩|⟨⟨_,_,_,hv⟩,_⟩<;>rw [hv]<;>simp [BD]
   refine hfin _ _ _ ha rfl ?_ (by rcases hv.2 with ⟨hv,_⟩|⟨⟨_,_,_,hv⟩,_⟩<;>rw [hv]<;>refine ⟨rfl,?_⟩<;>simp [Et])
   refine h1.move hb (Nat.le_refl _) (fun _ _ _=>rfl) (fun _ h _ _=>h) (fun c hc=>by rcases hv.2 with ⟨hv,_⟩|⟨⟨_,_,_,hv⟩,_⟩<;>rw [hv] at hc<;>simp [Dn] at hc) ?_
   refine .inl ⟨rfl,rfl,?_⟩
   rcases hv.2 with ⟨hv,hz⟩|⟨⟨b',o',g',hv⟩,hz⟩
   ·exact .inl ⟨hv,hz⟩
   ·exact .inr ⟨b',o',g',hv,hz⟩
  ·have ha:BD m e i.size l k (ev t s)=some (BH m e l k):=by
    rcases hv.2 with ⟨hv,_⟩|⟨⟨_,_,_,hv⟩,_⟩<;>rw [hv]<;>simp only [BD]<;>rw [if_neg (by omega)]
   refine hfin _ _ _ ha rfl ?_ ⟨rfl,by rw [Nat.zero_add];rfl⟩
   refine h1.move (x0:=.vec e [] 0 z) (x':=.vec e ([]++xs) (0+k) z) hb (by simp [BH,Mem.alloc]) (fun c hc _=>by (try simp only [BH]);rw [Mem.CP,if_neg (by omega)])
    (fun k' k1 k2 _=>by simp only [BH,Mem.alloc];omega) (fun c hc=>by simp only [BH,Dn,Option.some.injEq] at hc;right;omega) ?_
   refine .inr ⟨m.size,0,l,by simp [BH],by simp [BH,Mem.alloc],fun hf=>Nat.lt_irrefl _ (h1.fr _ hf),by (try simp only [BH]);rw [Mem.CP,if_pos rfl],?_,hx4,fun h=>by omega⟩
   rw [List.nil_append]
   exact hx3.mono (fun c hf=>⟨hf,by (try simp only [BH]);rw [Mem.CP,if_neg (by have:=h1.fr c hf;omega)]⟩)
 ·rw [r1] at hsub
  simp only [Et] at hsub
  have hlen:=r5.length
  have hold:takeN (n*i.size) (vs.drop 0)=some vs:=by
   rw [List.drop_zero,← hl,hlen];simp [takeN]
  have ha:BD m e i.size l k (ev t s)=some (.slice (some ⟨c,0,none⟩) (n+k) (g+1),m.put c (.cells (vs++l) e (g+1) false)):=by
   rw [hsub]
   simp only [BD,r4,beq_self_eq_true,decide_eq_true hsz,Bool.and_self,if_true,hold]
   simp
  have hput':∀ d,c≠d→(m.put c (.cells (vs++l) e (g+1) false)).get d=m.get d:=fun d hd=>by rw [Mem.get_put,if_neg hd]
  refine hfin _ _ _ ha rfl ?_ ⟨rfl,rfl⟩
  refine h1.move (x':=.vec e (cs++xs) (n+k) z) hb (Nat.le_refl _) (fun d _ hd=>hput' d fun e=>hd (by rw [r1,e];rfl)) (fun k' k1 k2 k3=>by
   have:=k3 c (by rw [r1];rfl)
   simp only [Mem.put];omega) (fun d hd=>.inl (by rw [r1];exact hd)) ?_
  refine .inr ⟨c,g+1,vs++l,rfl,r2,r3,by rw [Mem.get_put,if_pos rfl],?_,by rw [List.all_append,r6,hx4];rfl,fun h=>r7 (by omega)⟩
  exact (r5.append hx3).mono (fun d hd=>⟨hd,hput' d fun e=>r3 (e▸hd)⟩)
theorem Xf {n k:Nat} {l ws:List Value} (h:takeN n l=some ws):takeN (min k n) l=some (ws.take k):=by
 obtain ⟨rfl,hn⟩:=Fe h
 unfold takeN
 rw [if_pos (by omega),List.take_take]
theorem DC.take {m:Mem} {F:Nat→Prop}:∀ {cs:List FV} {vs:List Value} (k:Nat),DC m F cs vs→DC m F (cs.take k) (vs.take k)
 |_,_,0,_=>by simp only [List.take_zero];exact .nil
 |_,_,_+1,.nil=>.nil
 |_,_,k+1,.cons h t=>.cons h (DC.take k t)
theorem Aa.uH {t:TypeId} {x:Operand} {lo hi:Option Operand} {e:TypeId} {cs:List FV} {n a b sz:Nat} {inf:TypeInfo} (hx:Bq E.Γ L x=some (.p (.lst e cs n))) (ht:E.P.underlying t=some (.slice e)) (hi':E.P.info? e=some inf) (hsz:inf.size=sz)
 (hlo:match lo with|none=>a=0|some o=>∃ k,Bq E.Γ L o=some (.p (.int k (a:Int)))) (hhi:match hi with|none=>b=n|some o=>∃ k,Bq E.Γ L o=some (.p (.int k (b:Int)))) (hab:a≤b) (hbn:b≤n) (hl:cs.length=n*sz)
 (q:Q (.p (.lst e ((cs.drop (a*sz)).take ((b-a)*sz)) (b-a))) H nx):Aa E w ⟨dst,.slice t x lo hi none,ty,pos,af,gd⟩ L H nx Q :=
 Aa.quiet q fun m F σ tt h1 h2=>by
  have rE:bnd 0 (lo.map (ev tt))=some a:=by
   cases lo with
   |none=>simp only at hlo;rw [hlo];rfl
   |some o =>
    obtain ⟨k,hk⟩:=hlo
    simp only [Option.map_some,CY h1 h2 hk,bnd]
    rw [if_pos (by omega)];simp
  have vM:bnd n (hi.map (ev tt))=some b:=by
   cases hi with
   |none=>simp only at hhi;rw [hhi];rfl
   |some o =>
    obtain ⟨k,hk⟩:=hhi
    simp only [Option.map_some,CY h1 h2 hk,bnd]
    rw [if_pos (by omega)];simp
  have zS:n=0→bnd 0 (hi.map (ev tt))=some 0:=fun h0=>by rw [h0] at vM;rw [vM];congr 1;omega
  have:=Cc h1 h2 hx
  generalize hv:ev tt x=v at this
  cases this with
  |p hr =>
   cases hr with
   |nil =>
    have hb0:b=0:=by omega
    have ha0:a=0:=by omega
    subst hb0;subst ha0
    refine ⟨.slice none 0 0,fun _=>?_,.p (by simpa using RF.nil e)⟩
    simp only [CQ,Fg,hv,aslice,Option.isSome_none,Option.map_none,Bool.false_and,Bool.false_eq_true,if_false,ht,hi',rE,zS rfl]
    rfl
   |room e' b' o' g' =>
    have hb0:b=0:=by omega
    have ha0:a=0:=by omega
    subst hb0;subst ha0
    refine ⟨_,fun _=>?_,.p (by simpa using RF.room e b' o' g')⟩
    simp only [CQ,Fg,hv,aslice,Option.isSome_none,Option.map_none,Bool.false_and,Bool.false_eq_true,if_false,ht,hi',rE,zS rfl]
    rfl
   |lst hF hm hw hr hc =>
    rename_i b' o g vs ws ro
    refine ⟨.slice (some ⟨b',o+a*sz,none⟩) (b-a) g,fun _=>?_,.p (.lst hF hm (ws:=(ws.drop (a*sz)).take ((b-a)*sz)) ?_ (DC.take _ (DC.drop _ hr)) (IZ (H9 hc _) _))⟩
    ·simp only [CQ,Fg,hv,aslice,Option.isSome_none,Option.map_none,Bool.false_and,Bool.false_eq_true,if_false,ht,hi',rE,vM,hm,hab,hbn,h1.fr _ hF,and_self,if_true,Option.map_some,hsz]
    ·have h3:=Xf (k:=(b-a)*sz) (PU (k:=a*sz) hw)
     rw [List.drop_drop] at h3
     rw [List.length_take,List.length_drop]
     exact h3
theorem JF {α:Type} [Enc α]:∀ (l:List α) (k:Nat),(cells l).take (k*Enc.size α)=cells (l.take k)
 |_,0=>by simp [cells,encs]
 |[],k+1=>by simp [cells,encs]
 |a::l,k+1=>by
  have ih:=JF l k
  simp only [cells,encs,List.take_succ_cons] at ih ⊢
  rw [List.take_append,Enc.len,Nat.succ_mul,← ih,List.take_of_length_le (by rw [Enc.len];omega)]
  congr 2;omega
theorem cells_drop' {α:Type} [Enc α]:∀ (l:List α) (k:Nat),(cells l).drop (k*Enc.size α)=cells (l.drop k)
 |_,0=>by simp [cells,encs]
 |[],k+1=>by simp [cells,encs]
 |a::l,k+1=>by
  have ih:=cells_drop' l k
  simp only [cells,encs,List.drop_succ_cons] at ih ⊢
  rw [List.drop_append,Enc.len,Nat.succ_mul,← ih,List.drop_eq_nil_of_le (by rw [Enc.len];omega),List.nil_append]
  congr 1;omega
theorem Aa.sliceTo {α:Type} {_:Enc α} {l:List α} {t:TypeId} {x o:Operand} {e:TypeId} {n b:Nat} {inf:TypeInfo} {k:IntKind} (hx:Bq E.Γ L x=some (.p (.lst e (cells l) n))) (hhi:Bq E.Γ L o=some (.p (.int k (b:Int)))) (ht:E.P.underlying t=some (.slice e)) (hi':E.P.info? e=some inf)
 (hsz:inf.size=Enc.size α) (hn:l.length=n) (hbn:b≤n) (q:Q (.p (.lst e (cells (l.take b)) b)) H nx):Aa E w ⟨dst,.slice t x none (some o) none,ty,pos,af,gd⟩ L H nx Q :=
 Aa.uH (a:=0) (b:=b) hx ht hi' hsz rfl ⟨k,hhi⟩ (Nat.zero_le _) hbn (by rw [BF,hn]) (by
  rw [Nat.zero_mul,List.drop_zero,Nat.sub_zero,JF];exact q)
theorem Aa.sliceFrom {α:Type} {_:Enc α} {l:List α} {t:TypeId} {x o:Operand} {e:TypeId} {n a:Nat} {inf:TypeInfo} {k:IntKind} (hx:Bq E.Γ L x=some (.p (.lst e (cells l) n))) (hlo:Bq E.Γ L o=some (.p (.int k (a:Int)))) (ht:E.P.underlying t=some (.slice e)) (hi':E.P.info? e=some inf)
 (hsz:inf.size=Enc.size α) (hn:l.length=n) (han:a≤n) (q:Q (.p (.lst e (cells (l.drop a)) (n-a))) H nx):Aa E w ⟨dst,.slice t x (some o) none none,ty,pos,af,gd⟩ L H nx Q :=
 Aa.uH (a:=a) (b:=n) hx ht hi' hsz ⟨k,hlo⟩ rfl han (Nat.le_refl _) (by rw [BF,hn]) (by
  rw [cells_drop',List.take_of_length_le (by rw [BF,List.length_drop,hn];exact Nat.le_refl _)];exact q)
theorem Aa.ZK {t t2:TypeId} {x y:Operand} {k k':IntKind} {m n:Nat} (hx:Bq E.Γ L x=some (.p (.int k (m:Int)))) (hy:Bq E.Γ L y=some (.p (.int k' (n:Int)))) (hn:n≤k.bits) (q:Q (.p (.int k ((m / 2 ^ n:Nat):Int))) H nx) :
 Aa E w ⟨dst,.binOp .shr t x y t2,ty,pos,af,gd⟩ L H nx Q:=by
 refine Aa.shr hx hy (by omega) ?_
 have h1:(min (n:Int).toNat k.bits)=n:=by simp only [Int.toNat_natCast];omega
 have h3:((m:Int).fdiv (2 ^ n))=((m / 2 ^ n:Nat):Int):=by
  rw [Int.fdiv_eq_ediv_of_nonneg _ (by exact Int.le_of_lt (Int.pow_pos (by omega)))]
  rw [Int.natCast_ediv,Int.natCast_pow];rfl
 rw [h1,h3]
 exact q
end Go.Vm
namespace Go.Vm
open Go.Am
variable {E:Env} {L:Frame} {H:Heap} {nx:Nat} {Q:PV→Heap→Nat→Prop} {w:Bool}
variable {dst:Option Tmp} {ty:TypeId} {pos:String} {af:Array Edge} {gd:Option (Nat×Bool)}
theorem Yf (m:Nat) (h:m<2 ^ 64):(BitVec.ofInt 64 (m:Int)).toNat=m:=by
 rw [BitVec.toNat_ofInt,Int.emod_eq_of_lt (by omega) (Int.ofNat_lt.2 h)]
 simp
theorem wrap_u64 {n:Int} (h0:0≤n) (h:n<18446744073709551616):IntKind.u64.wrap n=n:=by
 have e:IntKind.u64.wrap n=n % 2^64:=by
  simp [IntKind.wrap,IntKind.signed,IntKind.bits]
  try omega
 rw [e]
 omega
theorem Xi {k:IntKind} {m n:Nat} (hk:k=.i64∧m<2 ^ 63∨k=.u64∧m<2 ^ 64) (hn:n<2 ^ 64):EO .and k m n=some (.int k ((m &&& n:Nat):Int)):=by
 have hm:m<2 ^ 64:=by rcases hk with ⟨_,h⟩|⟨_,h⟩<;>omega
 have e:(BitVec.ofInt 64 (m:Int) &&& BitVec.ofInt 64 (n:Int)).toNat=m &&& n:=by rw [BitVec.toNat_and,Yf m hm,Yf n hn]
 have hle:m &&& n≤m:=Nat.and_le_left
 rcases hk with ⟨rfl,h⟩|⟨rfl,h⟩
 ·show some (FV.int .i64 (IntKind.i64.wrap ((BitVec.ofInt 64 (m:Int) &&& BitVec.ofInt 64 (n:Int)).toNat:Int)))=_
  rw [e,wrap_i64 ⟨by omega,by omega⟩]
 ·show some (FV.int .u64 (IntKind.u64.wrap ((BitVec.ofInt 64 (m:Int) &&& BitVec.ofInt 64 (n:Int)).toNat:Int)))=_
  rw [e,wrap_u64 (by omega) (by omega)]
theorem Aa.a4k {t t2:TypeId} {x y:Operand} {m:Nat} (hx:Bq E.Γ L x=some (.p (.int .u64 (m:Int)))) (hy:Bq E.Γ L y=some (.p (.int .u64 1))) (hm:m<2 ^ 64) (q:Q (.p (.int .u64 ((m % 2:Nat):Int))) H nx) :
 Aa E w ⟨dst,.binOp .and t x y t2,ty,pos,af,gd⟩ L H nx Q:=Aa.int hx hy (r:=.int .u64 ((m % 2:Nat):Int)) (by
  have:=Xi (k:=.u64) (m:=m) (n:=1) (.inr ⟨rfl,hm⟩) (by decide)
  rw [Nat.and_one_is_mod] at this
  exact this) q
theorem Aa.a5h {t t2:TypeId} {x y:Operand} {m n:Nat} (hx:Bq E.Γ L x=some (.p (.int .u64 (m:Int)))) (hy:Bq E.Γ L y=some (.p (.int .u64 (n:Int)))) (hm:m<2 ^ 64) (hn:n<2 ^ 64) (q:Q (.p (.int .u64 ((m &&& n:Nat):Int))) H nx) :
 Aa E w ⟨dst,.binOp .and t x y t2,ty,pos,af,gd⟩ L H nx Q:=Aa.int hx hy (Xi (.inr ⟨rfl,hm⟩) hn) q
theorem Aa.mW {t t2:TypeId} {x y:Operand} {k':IntKind} {n:Nat} (hx:Bq E.Γ L x=some (.p (.int .u64 1))) (hy:Bq E.Γ L y=some (.p (.int k' (n:Int)))) (hn:n<64) (q:Q (.p (.int .u64 ((2 ^ n:Nat):Int))) H nx) :
 Aa E w ⟨dst,.binOp .shl t x y t2,ty,pos,af,gd⟩ L H nx Q:=by
 refine Aa.shl hx hy (by omega) ?_
 have h1:(min (n:Int).toNat IntKind.u64.bits)=n:=by simp only [Int.toNat_natCast,IntKind.bits];omega
 have h2:(2:Nat) ^ n≤2 ^ 63:=Nat.pow_le_pow_right (by omega) (by omega)
 have h3:(1:Int)*2 ^ n=((2 ^ n:Nat):Int):=by rw [Int.one_mul];exact (Int.natCast_pow 2 n).symm
 have h4:((2 ^ n:Nat):Int)<18446744073709551616:=Int.ofNat_lt.2 (Nat.lt_of_le_of_lt h2 (by decide))
 rw [h1,h3,wrap_u64 (Int.natCast_nonneg _) h4]
 exact q
theorem Aa.a1h {t t2:TypeId} {x y:Operand} {k:IntKind} {m n:Nat} (hx:Bq E.Γ L x=some (.p (.int k (m:Int)))) (hy:Bq E.Γ L y=some (.p (.int k (n:Int)))) (hn:0<n) (q:Q (.p (.int k ((m % n:Nat):Int))) H nx) :
 Aa E w ⟨dst,.binOp .rem t x y t2,ty,pos,af,gd⟩ L H nx Q:=Aa.int hx hy (r:=.int k ((m % n:Nat):Int)) (by
  simp only [EO]
  rw [if_neg (by omega),Int.tmod_eq_emod_of_nonneg (by omega),Int.natCast_emod]) q
theorem Aa.OD {t t2:TypeId} {x y:Operand} {k:IntKind} {a c:Int} (hx:Bq E.Γ L x=some (.p (.int k a))) (hy:Bq E.Γ L y=some (.p (.int k c))) (ha:0≤a) (hc:0<c) (q:Q (.p (.int k (a % c))) H nx) :
 Aa E w ⟨dst,.binOp .rem t x y t2,ty,pos,af,gd⟩ L H nx Q:=Aa.int hx hy (r:=.int k (a % c)) (by
  simp only [EO]
  rw [if_neg (by omega),Int.tmod_eq_emod_of_nonneg ha]) q
theorem Aa.Ih {s d:TypeId} {x:Operand} {k':IntKind} {n:Int} {sd:TypeDesc} (hx:Bq E.Γ L x=some (.p (.int k' n))) (hs:E.P.underlying s=some sd) (hns:aB sd=true) (hd:E.P.underlying d=some (.int .i64)) (hn:-9223372036854775808≤n∧n<9223372036854775808) (q:Q (.p (.int .i64 n)) H nx) :
 Aa E w ⟨dst,.convert s d x,ty,pos,af,gd⟩ L H nx Q:=Aa.U6 hx hs hns hd (by rw [wrap_i64 hn];exact q)
section
variable {bn:Nat} {ops:Array Oper} {op:Op} {l:List Oper} {i:Nat} {R:Frame→Heap→Nat→Prop}
end
theorem P7 {Γ:Nat→Option (List Value×TypeId)} {m:Mem} {F:Nat→Prop} {T:Nat→Option Tg} {σ:Nat→Value} {t:Tr Value} {ops:Array Oper} {o:Oper} {j d:Nat} {want:Bool} (hl:RL m F T σ nx L t) (hg:o.guard=some (j,want)) (hd:(ops[j]?).bind (·.dst)=some d) (hb:G7 L d=some (.ET [])) :
 Region.wanted o (D5 ops t)=false:=by
 have h:=hl d _ hb
 generalize hv:DJ t d=v at h
 cases h with
 |ET h =>
  cases h
  unfold Region.wanted
  rw [hg]
  simp only [D5,hd,hv]
  rfl
section
variable {bn:Nat} {ops:Array Oper} {op:Op} {l:List Oper} {i:Nat} {R:Frame→Heap→Nat→Prop}
theorem Ag.lF {j d:Nat} {want:Bool} (hd:(ops[j]?).bind (·.dst)=some d) (hb:G7 L d=some (.ET [])) (h:Ag E bn ops l (LQ L dst (.ET [])) H nx R):Ag E bn ops (⟨dst,op,ty,pos,af,some (j,want)⟩::l) L H nx R:=by
 intro B hB m F σ t h1 h2 h3
 exact Qo.skip (P7 (Γ:=E.Γ) h2 rfl hd hb) (h B hB m F σ _ h1 (h2.put (.ET .nil)) h3)
theorem Ar.lF {j d:Nat} {want:Bool} (hd:(ops[j]?).bind (·.dst)=some d) (hb:G7 L d=some (.ET [])) (h:Ar E bn ops (i+1) l (LQ L dst (.ET [])) H nx R):Ar E bn ops i (⟨dst,op,ty,pos,af,some (j,want)⟩::l) L H nx R:=by
 intro B hB m F σ t h1 h2 h3
 exact Gz.skip (P7 (Γ:=E.Γ) h2 rfl hd hb) (h B hB _ F σ _ (h1.at _) (RL.at (Γ:=E.Γ) _ (h2.put (.ET .nil))) (h3.trans (Step.at0 _ _ _ _ _ _ (Nat.le_refl _))))
end
theorem Zo {n k b:Nat} (h1:n+k<1000000) (h2:b<1000000):(n+k)*(b+1)≤room:=Nat.le_trans (Nat.mul_le_mul (by omega:n+k≤1000000) (by omega:b+1≤1000000)) (by decide)
theorem Aa.P8 {α:Type} {_:Enc α} {l r:List α} {s x:Operand} {sT xT e e2:TypeId} {xd:TypeDesc} {i:TypeInfo} {b n k:Nat} {z:Bool} (hs:Bq E.Γ L s=some (.vec b n 0 n)) (hb:hget H b=some (.vec e (cells l) n z)) (hx:Bq E.Γ L x=some (.p (.lst e2 (cells r) k))) (hn:l.length=n) (hk:r.length=k)
 (y9:E.P.underlying sT=some (.slice e)) (hxT:E.P.underlying xT=some xd) (hd:∀ k,xd≠.int k) (hi:E.P.info? e=some i) (hsz:Enc.size α=i.size) (hzs:Fq i=true) (h0:0<i.size) (hby:i.bytes<1000000) (hlen:l.length+r.length<1000000)
 (q:Q (.vec nx (l.length+r.length) 0 (l.length+r.length)) ((nx,.vec e (cells (l++r)) (l.length+r.length) z)::hdel H b) (nx+1)):Aa E true ⟨dst,.call { callee:=.builtin .append,args:=#[s,x],argTypes:=#[sT,xT] },ty,pos,af,gd⟩ L H nx Q:=by
 subst hn;subst hk
 refine appendMove' (i:=i) hs hb (mX.lst hx (by rw [BF,hsz])) y9 hxT hd hi hzs (Zo hlen hby) (by rw [BF,hsz]) h0 ?_
 rw [← Ee]
 exact q
theorem Aa.I4 {α:Type} {_:Enc α} {r:List α} {s x:Operand} {sT xT e e2:TypeId} {xd:TypeDesc} {i:TypeInfo} {b k:Nat} {z:Bool} (hs:Bq E.Γ L s=some (.vec b 0 0 0)) (hb:hget H b=some (.vec e [] 0 z)) (hx:Bq E.Γ L x=some (.p (.lst e2 (cells r) k))) (hk:r.length=k)
 (y9:E.P.underlying sT=some (.slice e)) (hxT:E.P.underlying xT=some xd) (hd:∀ k,xd≠.int k) (hi:E.P.info? e=some i) (hsz:Enc.size α=i.size) (hzs:Fq i=true) (h0:0<i.size) (hby:i.bytes<1000000) (hlen:r.length<1000000)
 (q:Q (.vec nx r.length 0 r.length) ((nx,.vec e (cells r) r.length z)::hdel H b) (nx+1)):Aa E true ⟨dst,.call { callee:=.builtin .append,args:=#[s,x],argTypes:=#[sT,xT] },ty,pos,af,gd⟩ L H nx Q:=by
 refine Aa.P8 (l:=([]:List α)) hs hb hx rfl hk y9 hxT hd hi hsz hzs h0 hby (by simpa using hlen) ?_
 simpa using q
theorem Ag.J4 (d:Nat) {bn:Nat} {ops:Array Oper} {op:Op} {l:List Oper} {R:Frame→Heap→Nat→Prop} (h:Ag E bn ops (⟨some d,op,ty,pos,af,gd⟩::l) L H nx R):Ag E bn ops (⟨some d,op,ty,pos,af,gd⟩::l) L H nx R:=h
theorem Ar.J4 (d:Nat) {bn i:Nat} {ops:Array Oper} {op:Op} {l:List Oper} {R:Frame→Heap→Nat→Prop} (h:Ar E bn ops i (⟨some d,op,ty,pos,af,gd⟩::l) L H nx R):Ar E bn ops i (⟨some d,op,ty,pos,af,gd⟩::l) L H nx R:=h
theorem Ae.at (n:Nat) {bn:Nat} {ops:Array Oper} {b:Bool} {k:Code} {Q:CG→Frame→Heap→Nat→Prop} (h:Ae E bn (.seq (.region n ops b) k) L H nx Q):Ae E bn (.seq (.region n ops b) k) L H nx Q:=h
theorem Ae.atEnd (n:Nat) {bn:Nat} {ops:Array Oper} {b:Bool} {Q:CG→Frame→Heap→Nat→Prop} (h:Ae E bn (.region n ops b) L H nx Q):Ae E bn (.region n ops b) L H nx Q:=h
theorem Aw {α:Type} {_:Enc α} {e:TypeId} {l:List α} {n:Nat} (h:n=l.length):(PV.p (.lst e (cells l) n))=lst e l:=by rw [h]
theorem le_dec {a b:Nat} (h:Nat.ble a b=true):a≤b:=by simpa using h
theorem Ac {a b:Nat} (h:Nat.blt a b=true):a<b:=by simpa using h
end Go.Vm
namespace Go.Vm
open Go.Am
variable {E:Env} {L:Frame} {H:Heap} {nx:Nat} {Q:PV→Heap→Nat→Prop} {w:Bool}
variable {dst:Option Tmp} {ty:TypeId} {pos:String} {af:Array Edge} {gd:Option (Nat×Bool)}
def Bj (P:Program) (rs:List ResultVar) (Q:PV→Heap→Nat→Prop) (e:CG) (L:Frame) (H:Heap) (nx:Nat):Prop :=
 match e with
 | .exit _=>False
 | .normal=>∃ r,EF P rs L H=some r∧Q r H nx
 | .ret=>∃ r,EF P rs L H=some r∧Q r H nx
theorem Bj.ret {P:Program} {rs:List ResultVar} {r:PV} (h:EF P rs L H=some r) (q:Q r H nx):Bj P rs Q .ret L H nx:=⟨r,h,q⟩
theorem Bz.a0k {f:FuncId} {fn:Func} {c:Code} {args:List PV} (ho:E.O f=none) (hf:E.P.funcs[f]?=some fn) (hb:fn.body=some c) (hok:Ht E.G fn c=true) (hn:args.length≤fn.ntmps)
 (h:Ae E nx c (CO 0 args) H nx (Bj E.P fn.results.toList Q)):Bz E f args H nx Q:=by
 intro m F σ Cb h1 h2
 refine I7.enter ho hf hb hok (by rw [← h2.length];exact hn) ((h ⟨m,F,σ,H,nx⟩ rfl m F σ _ h1 ?_ (Step.refl _ _ _ _ _)).mono ?_)
 ·intro i v hi
  obtain ⟨_,h3⟩:=Jk args 0 i v hi
  obtain ⟨u,h4,h5⟩:=h2.get h3
  have:=IL Cb 0 .leaf i
  simp only [Nat.sub_zero] at h4
  have hlt:i<Cb.length:=by
   rcases Nat.lt_or_ge i Cb.length with h|h
   ·exact h
   ·rw [List.getElem?_eq_none h] at h4;cases h4
  rw [this,if_pos ⟨Nat.zero_le _,by omega⟩,Nat.sub_zero,List.getD_eq_getElem?_getD,h4]
  exact h5
 ·rintro e s ⟨L',H',nx',F',σ',q,c1,c2,c3⟩
  have key:(∃ r,EF E.P fn.results.toList L' H'=some r∧Q r H' nx')→∃ v,Eu E.P fn s=some v∧∃ r H' nx' F' σ',Q r H' nx'∧Ctx E.Γ s.m F' σ' H' nx'∧RP s.m F' (htag H') σ' nx' r v∧Step m F σ H nx s.m F' σ' H' nx':=by
   rintro ⟨r0,hr,q⟩
   obtain ⟨v,h3,h4⟩:=LD c1 c2 hr
   exact ⟨v,h3,r0,H',nx',F',σ',q,c1,h4,c3⟩
  cases e with
  |exit i=>exact q.elim
  |normal=>exact key q
  |ret=>exact key q
theorem Aa.inl {fo:Operand} {args:Array Operand} {aT:Array TypeId} {g:FuncId} {fs cs Cb:List PV} (hf:Bq E.Γ L fo=some (.clo g fs cs)) (ha:evs E.Γ L args.toList=some Cb)
 (hc:Bz E g (fs++Cb++cs) H nx Q):Aa E true ⟨dst,.call { callee:=.value fo,args:=args,argTypes:=aT },ty,pos,af,gd⟩ L H nx Q:=by
 intro m F σ t h1 h2
 have hfv:=Cc h1 h2 hf
 generalize hfe:ev t fo=fv at hfv
 cases hfv with
 |clo r1 r2 =>
  rename_i vf vc
  refine Hu.call (f:=g) (Cb:=vf++args.toList.map (ev t)++vc) (fun call=>by simp only [CQ,hfe]) ((hc m F σ _ h1 ((r1.append (Qm h1 h2 ha)).append r2)).mono ?_)
  rintro v m' ⟨r,H',nx',F',σ',q,c1,c2,c3⟩
  exact ⟨r,H',nx',F',σ',q,c1,c2,c3,fun h=>by cases h⟩
theorem Aa.inline {fo:Operand} {args:Array Operand} {aT:Array TypeId} {g:FuncId} {fs cs Cb:List PV} {fn:Func} {c:Code} (hg:g=g) (hf:Bq E.Γ L fo=some (.clo g fs cs)) (ha:evs E.Γ L args.toList=some Cb)
 (ho:E.O g=none) (hfn:E.P.funcs[g]?=some fn) (hb:fn.body=some c) (hok:Ht E.G fn c=true) (hn:(fs++Cb++cs).length≤fn.ntmps)
 (h:Ae E nx c (CO 0 (fs++Cb++cs)) H nx (Bj E.P fn.results.toList Q)):Aa E true ⟨dst,.call { callee:=.value fo,args:=args,argTypes:=aT },ty,pos,af,gd⟩ L H nx Q :=
 Aa.inl hf ha (Bz.a0k ho hfn hb hok hn h)
end Go.Vm
namespace Go.Vm
open Go.Am
variable {E:Env} {L:Frame} {H:Heap} {nx:Nat} {Q:PV→Heap→Nat→Prop} {w:Bool}
variable {dst:Option Tmp} {ty:TypeId} {pos:String} {af:Array Edge} {gd:Option (Nat×Bool)}
def bs (l:List UInt8):ByteArray:=⟨l.toArray⟩
theorem Jl (l:List UInt8):(bs l).size=l.length:=by simp [bs,ByteArray.size]
theorem Oy (l:List UInt8):(bs l).toList=l:=ByteArray.toList_mk l
theorem ZN (l:List UInt8):(bs l).data.toList=l:=by simp [bs]
abbrev st (l:List UInt8):PV:=.p (.str (bs l))
instance:Enc UInt8:={ default:=0,enc:=fun n=>[.int .u8 (n.toNat:Int)],size:=1,len:=fun _=>rfl }
instance a6d:Enc Nat:={ default:=0,enc:=fun n=>[.int .u64 (n:Int)],size:=1,len:=fun _=>rfl }
theorem Aa.Kq {x:Operand} {t:TypeId} {l:List UInt8} (hx:Bq E.Γ L x=some (st l)) (ht:E.P.underlying t=some .string) (q:Q (.p (.int .i64 l.length)) H nx) :
 Aa E w ⟨dst,.call { callee:=.builtin .len,args:=#[x],argTypes:=#[t] },ty,pos,af,gd⟩ L H nx Q :=
 Aa.a6r hx ht (by rw [Jl];exact q)
theorem Aa.a2o {op:BinOp} {t t2:TypeId} {x y:Operand} {a b:List UInt8} {r:FV} (hx:Bq E.Γ L x=some (st a)) (hy:Bq E.Γ L y=some (st b))
 (h:∀ m F,∃ v,UM E.P (do eqGuard op t x y (.string (bs a)) (.string (bs b));binOp op t (.string (bs a)) (.string (bs b)))=some v∧RF m F r v) (q:Q (.p r) H nx) :
 Aa E w ⟨dst,.binOp op t x y t2,ty,pos,af,gd⟩ L H nx Q :=
 Aa.quiet q fun m F σ tt c1 c2=>by
  obtain ⟨v,h1,h2⟩:=h m F
  refine ⟨v,fun _=>?_,.p h2⟩
  simp only [CQ,Fg,Ku c1 c2 hx,Ku c1 c2 hy,OJ]
  rw [show (plain (Value.string (bs a))&&plain (Value.string (bs b)))=true from rfl]
  simp only [if_true,h1,Option.map_some]
theorem Aa.eqS {t t2:TypeId} {x y:Operand} {a b:List UInt8} (hx:Bq E.Γ L x=some (st a)) (hy:Bq E.Γ L y=some (st b)) (q:Q (.p (.bool (decide (a=b)))) H nx) :
 Aa E w ⟨dst,.binOp .eql t x y t2,ty,pos,af,gd⟩ L H nx Q :=
 Aa.a2o hx hy (fun m F=>⟨.bool (decide (a=b)),by
  have:Ey E.P (do eqGuard .eql t x y (.string (bs a)) (.string (bs b));binOp .eql t (.string (bs a)) (.string (bs b)))=some (.bool (decide (a=b))):=by
   rw [binOp_string_eql,Oy,Oy]
   simp only [AX,eqGuard]
   rw [show ((a==b):Bool)=decide (a=b) by by_cases h:a=b<;>simp [h]]
   rfl
  exact Ia this rfl,.bool _⟩) q
theorem Aa.neS {t t2:TypeId} {x y:Operand} {a b:List UInt8} (hx:Bq E.Γ L x=some (st a)) (hy:Bq E.Γ L y=some (st b)) (q:Q (.p (.bool (!decide (a=b)))) H nx) :
 Aa E w ⟨dst,.binOp .neq t x y t2,ty,pos,af,gd⟩ L H nx Q :=
 Aa.a2o hx hy (fun m F=>⟨.bool (!decide (a=b)),by
  have:Ey E.P (do eqGuard .neq t x y (.string (bs a)) (.string (bs b));binOp .neq t (.string (bs a)) (.string (bs b)))=some (.bool (!decide (a=b))):=by
   rw [binOp_string_neq,Oy,Oy]
   simp only [AX,eqGuard]
   rw [show ((a==b):Bool)=decide (a=b) by by_cases h:a=b<;>simp [h]]
   rfl
  exact Ia this rfl,.bool _⟩) q
theorem Aa.Uz {t t2:TypeId} {x y:Operand} {a b:List UInt8} (hx:Bq E.Γ L x=some (st a)) (hy:Bq E.Γ L y=some (st b)) (hl:a.length+b.length<4611686018427387904) (q:Q (st (a++b)) H nx) :
 Aa E w ⟨dst,.binOp .add t x y t2,ty,pos,af,gd⟩ L H nx Q :=
 Aa.a2o hx hy (fun m F=>⟨.string (bs (a++b)),by
  have:Ey E.P (do eqGuard .add t x y (.string (bs a)) (.string (bs b));binOp .add t (.string (bs a)) (.string (bs b)))=some (.string (bs (a++b))):=by
   rw [binOp_string_add]
   simp only [AX,eqGuard,Op.stringOp,Jl]
   have hc:¬ (((a.length+b.length:Nat):Int)>IntKind.i64.max):=by
    have:IntKind.i64.max=9223372036854775807:=by decide
    omega
   rw [if_neg hc]
   have:bs a++bs b=bs (a++b):=by
    apply ByteArray.ext
    simp [bs,ByteArray.data_append]
   rw [this]
   rfl
  exact Ia this rfl,.str _⟩) q
theorem Aa.yU {t:TypeId} {x ix:Operand} {l:List UInt8} {k:IntKind} {i:Int} (hx:Bq E.Γ L x=some (st l)) (hi:Bq E.Γ L ix=some (.p (.int k i))) (ht:E.P.underlying t=some .string) (h0:0≤i) (h1:i<l.length)
 (q:Q (.p (.int .u8 ((gi l i.toNat).toNat:Int))) H nx):Aa E w ⟨dst,.index t x ix,ty,pos,af,gd⟩ L H nx Q :=
 Aa.quiet q fun m F σ tt c1 c2=>by
  refine ⟨.int .u8 ((gi l i.toNat).toNat:Int),fun _=>?_,.p (.int _ _)⟩
  have hlt:i.toNat<l.length:=by omega
  have hg:(bs l)[i.toNat]?=some (gi l i.toNat):=by
   have h2:i.toNat<(bs l).size:=by rw [Jl];exact hlt
   rw [getElem?_pos (bs l) i.toNat h2]
   congr 1
   simp only [gi,List.getElem?_eq_getElem hlt,Option.getD_some]
   show (bs l).data[i.toNat]=_
   simp [bs]
  have hd:Ey E.P (Instr.index t (.string (bs l)) (.int k i))=some (.int .u8 ((gi l i.toNat).toNat:Int)):=by
   simp only [Instr.index,asIntOf,AX,Dc,Option.bind_some,BL,ht,h0,if_true,hg]
  simp only [CQ,Fg,Ku c1 c2 hx,CY c1 c2 hi]
  rw [show plain (Value.int k i)=true from rfl]
  simp only [if_true,hd,Option.map_some]
theorem Aa.QD {t:TypeId} {x ix:Operand} {l:List UInt8} {k:IntKind} {i:Nat} (hx:Bq E.Γ L x=some (st l)) (hi:Bq E.Γ L ix=some (.p (.int k (i:Int)))) (ht:E.P.underlying t=some .string) (h1:i<l.length)
 (q:Q (.p (.int .u8 ((gi l i).toNat:Int))) H nx):Aa E w ⟨dst,.index t x ix,ty,pos,af,gd⟩ L H nx Q :=
 Aa.yU hx hi ht (by omega) (by omega) q
theorem Ot {P:Program} {k:IntKind} {i:Int} {y:Nat} {c:BoundsCode} (h0:0≤i) (h1:i≤y):Ey P (Instr.sliceBound (.int k i) y c)=some i.toNat:=by
 simp only [Instr.sliceBound,asIntOf,AX,Dc,Option.bind_some,h0,h1,and_self,if_true]
theorem Aa.Zy {t:TypeId} {x:Operand} {lo hi:Option Operand} {l:List UInt8} {a b:Nat} (hx:Bq E.Γ L x=some (st l)) (ht:E.P.underlying t=some .string)
 (hlo:match lo with|none=>a=0|some o=>∃ k,Bq E.Γ L o=some (.p (.int k (a:Int)))) (hhi:match hi with|none=>b=l.length|some o=>∃ k,Bq E.Γ L o=some (.p (.int k (b:Int))))
 (h1:a≤b) (h2:b≤l.length) (q:Q (st ((l.take b).drop a)) H nx):Aa E w ⟨dst,.slice t x lo hi none,ty,pos,af,gd⟩ L H nx Q :=
 Aa.quiet q fun m F σ tt c1 c2=>by
  refine ⟨.string (bs ((l.take b).drop a)),fun _=>?_,.p (.str _)⟩
  have hex:(bs l).extract a b=bs ((l.take b).drop a):=by
   unfold bs
   rw [ByteArray.extract_mk]
   congr 2
   rw [List.drop_take]
  have hd:UM E.P (Instr.sliceAt t (.string (bs l)) (lo.map (ev tt)) (hi.map (ev tt)) none)=some (.string (bs ((l.take b).drop a))):=by
   refine Ia ?_ rfl
   have key:Ey E.P (Instr.sliceBounds false (bs l).size (bs l).size (lo.map (ev tt)) (hi.map (ev tt)) none)=some (a,b,l.length):=by
    cases hi with
    |none =>
     simp only at hhi
     subst hhi
     cases lo with
     |none =>
      simp only at hlo
      subst hlo
      simp only [Instr.sliceBounds,Option.map_none,AX,Dc,Option.bind_some,Jl]
     |some o =>
      obtain ⟨k,hk⟩:=hlo
      simp only [Instr.sliceBounds,Option.map_none,Option.map_some,AX,Dc,Option.bind_some,Jl,CY c1 c2 hk,Option.isSome_none,Bool.false_eq_true,if_false,Int.toNat_natCast,Ot (show (0:Int)≤(a:Int) by omega) (show (a:Int)≤((l.length:Nat):Int) by omega)]
    |some o2 =>
     obtain ⟨k2,hk2⟩:=hhi
     cases lo with
     |none =>
      simp only at hlo
      subst hlo
      simp only [Instr.sliceBounds,Option.map_none,Option.map_some,AX,Dc,Option.bind_some,Jl,CY c1 c2 hk2,Bool.false_eq_true,if_false,Int.toNat_natCast,Ot (show (0:Int)≤(b:Int) by omega) (show (b:Int)≤((l.length:Nat):Int) by omega)]
     |some o =>
      obtain ⟨k,hk⟩:=hlo
      simp only [Instr.sliceBounds,Option.map_none,Option.map_some,AX,Dc,Option.bind_some,Jl,CY c1 c2 hk,CY c1 c2 hk2,Option.isSome_none,Bool.false_eq_true,if_false,Int.toNat_natCast,
       Ot (show (0:Int)≤(b:Int) by omega) (show (b:Int)≤((l.length:Nat):Int) by omega),Ot (show (0:Int)≤(a:Int) by omega) (show (a:Int)≤((b:Nat):Int) by omega)]
   simp only [Instr.sliceAt,Instr.slice,AX,BL,ht,Option.bind_some,Option.isSome_none,Bool.false_eq_true,if_false,key,Dc,hex]
  have hp:((lo.map (ev tt)).all plain&&(hi.map (ev tt)).all plain&&(none:Option Value).isNone)=true:=by
   have e1:(lo.map (ev tt)).all plain=true:=by
    cases lo with
    |none=>rfl
    |some o=>obtain ⟨k,hk⟩:=hlo;simp only [Option.map_some,Option.all_some,CY c1 c2 hk];rfl
   have e2:(hi.map (ev tt)).all plain=true:=by
    cases hi with
    |none=>rfl
    |some o=>obtain ⟨k,hk⟩:=hhi;simp only [Option.map_some,Option.all_some,CY c1 c2 hk];rfl
   rw [e1,e2];rfl
  simp only [CQ,Fg,aslice,Ku c1 c2 hx,ht,Option.isSome_none,Bool.false_and,Bool.false_eq_true,if_false,Option.map_none]
  rw [if_pos hp,hd]
  rfl
theorem Aa.fC {t:TypeId} {x o:Operand} {l:List UInt8} {k:IntKind} {b:Nat} (hx:Bq E.Γ L x=some (st l)) (ho:Bq E.Γ L o=some (.p (.int k (b:Int)))) (ht:E.P.underlying t=some .string) (h2:b≤l.length) (q:Q (st (l.take b)) H nx) :
 Aa E w ⟨dst,.slice t x none (some o) none,ty,pos,af,gd⟩ L H nx Q:=Aa.Zy (a:=0) hx ht rfl ⟨k,ho⟩ (by omega) h2 (by rw [List.drop_zero];exact q)
theorem Aa.jC {t:TypeId} {x o:Operand} {l:List UInt8} {k:IntKind} {a:Nat} (hx:Bq E.Γ L x=some (st l)) (ho:Bq E.Γ L o=some (.p (.int k (a:Int)))) (ht:E.P.underlying t=some .string) (h2:a≤l.length) (q:Q (st (l.drop a)) H nx) :
 Aa E w ⟨dst,.slice t x (some o) none none,ty,pos,af,gd⟩ L H nx Q:=Aa.Zy (b:=l.length) hx ht ⟨k,ho⟩ rfl h2 (Nat.le_refl _) (by rw [List.take_length];exact q)
theorem Tq {m:Mem} {F:Nat→Prop}:∀ (l:List UInt8),DC m F (cells l) (l.map fun c=>Value.int .u8 c.toNat)
 |[]=>.nil
 |c::l=>.cons (.int _ _) (Tq l)
theorem Aa.ku {s d e:TypeId} {i:TypeInfo} {x:Operand} {l:List UInt8} (hx:Bq E.Γ L x=some (st l)) (hs:E.P.underlying s=some .string) (hd:E.P.underlying d=some (.slice e)) (he:E.P.underlying e=some (.int .u8)) (hi:E.P.info? e=some i) (h1:i.size=1)
 (hl:l.length≤1000000) (q:Q (.vec nx l.length 0 l.length) ((nx,.vec e (cells l) l.length false)::H) (nx+1)):Aa E w ⟨dst,.convert s d x,ty,pos,af,gd⟩ L H nx Q:=by
 intro m F σ t c1 c2
 have hb:H8 (bs l)=l.map fun c=>Value.int .u8 c.toNat:=by unfold H8;rw [ZN]
 obtain ⟨d1,d2,d3,_⟩:=Oz (e:=e) (cs:=cells l) (vs:=l.map fun (c:UInt8)=>Value.int .u8 (c.toNat:Int)) l.length c1 (Tq l) (by simp [BP])
 refine Hu.op (v:=(BH m e (l.map fun (c:UInt8)=>Value.int .u8 (c.toNat:Int)) l.length).1) (m':=(BH m e (l.map fun (c:UInt8)=>Value.int .u8 (c.toNat:Int)) l.length).2) (fun _=>?_) ⟨_,_,_,F,_,q,d1,?_,d2,fun _=>d3⟩
 ·have hsl:(Hg E.P s||Hg E.P d)=true:=by simp only [Hg,hs,hd];rfl
  simp only [CQ,Fg,hsl,if_true,Tt,hs,hd,Ku c1 c2 hx,he,hi]
  rw [if_pos ⟨h1,by rw [Jl];omega⟩,hb,Jl]
 ·refine .vec (Nat.lt_succ_self _) rfl fun n hn=>?_
  rw [Iq,if_pos rfl] at hn
  simp only [HB.tag,Option.some.injEq,Tg.vec.injEq] at hn
  exact ⟨by omega,fun _=>by rw [upd_same];rfl⟩
theorem Nu:∀ (l:List UInt8),SN (l.map fun c=>Value.int .u8 c.toNat)=some l
 |[]=>rfl
 |c::l=>by
  have h:=c.toNat_lt
  simp only [List.map_cons,SN]
  rw [if_pos ⟨by omega,by omega⟩,Nu l]
  simp
theorem Np {m:Mem} {F:Nat→Prop}:∀ {l:List UInt8} {vs:List Value},DC m F (cells l) vs→vs=l.map fun c=>Value.int .u8 c.toNat
 |[],_,.nil=>rfl
 |c::l,_,.cons h t=>by
  cases h
  rw [Np t];rfl
end Go.Vm
namespace Go.Vm
open Go.Am
variable {E:Env} {L:Frame} {H:Heap} {nx:Nat} {Q:PV→Heap→Nat→Prop} {w:Bool}
variable {dst:Option Tmp} {ty:TypeId} {pos:String} {af:Array Edge} {gd:Option (Nat×Bool)}
theorem Kv {α:Type}:∀ (z p c:List α) (o:Nat),BG (p++c) (p.length+o) z=p++BG c o z
 |[],_,_,_=>rfl
 |x::z,p,c,o=>by
  simp only [BG]
  rw [List.set_append_right _ _ (by omega),Nat.add_sub_cancel_left,Nat.add_assoc,Kv z p (c.set o x) (o+1)]
theorem Qv {α:Type}:∀ (z xs ys:List α),z.length=xs.length→BG (xs++ys) 0 z=z++ys
 |[],xs,ys,h=>by rw [List.eq_nil_of_length_eq_zero h.symm];rfl
 |x::z,[],ys,h=>by simp at h
 |x::z,y::xs,ys,h=>by
  simp only [BG,List.cons_append,List.set_cons_zero]
  have:=Kv z [x] (xs++ys) 0
  simp only [List.length_singleton,List.singleton_append] at this
  rw [this,Qv z xs ys (by simpa using h)]
theorem XI {α:Type} [Enc α] (l:List α) (i:Nat) (a:α) (h:i<l.length):BG (cells l) (i*Enc.size α) (Enc.enc a)=cells (l.set i a):=by
 have h1:l=l.take i++(gi l i::l.drop (i+1)):=by
  have hd:l.drop i=gi l i::l.drop (i+1):=by
   rw [List.drop_eq_getElem_cons h];simp [gi,List.getElem?_eq_getElem h]
  conv=>lhs;rw [← List.take_append_drop i l]
  rw [hd]
 have h2:l.set i a=l.take i++(a::l.drop (i+1)):=by
  conv=>lhs;rw [h1]
  rw [List.set_append_right _ _ (by simp;omega)]
  rw [List.length_take,Nat.min_eq_left (by omega),Nat.sub_self,List.set_cons_zero]
 rw [h2,Ee]
 conv=>lhs;rw [h1,Ee]
 have h3:i*Enc.size α=(cells (l.take i)).length+0:=by rw [BF,List.length_take,Nat.min_eq_left (by omega),Nat.add_zero]
 rw [h3,Kv]
 congr 1
 show BG (Enc.enc (gi l i)++cells (l.drop (i+1))) 0 (Enc.enc a)=Enc.enc a++cells (l.drop (i+1))
 exact Qv _ _ _ (by rw [Enc.len,Enc.len])
theorem Aa.kL {α:Type} {_:Enc α} {t:TypeId} {x ix:Operand} {e:TypeId} {l:List α} {b n:Nat} {z:Bool} {k:IntKind} {i:Int} (hx:Bq E.Γ L x=some (.vec b n 0 n)) (hb:hget H b=some (.vec e (cells l) n z)) (hi:Bq E.Γ L ix=some (.p (.int k i)))
 (hs:elemSize E.P t=some (Enc.size α)) (h0:0≤i) (h1:i<n) (q:Q (.DU b n (i.toNat*Enc.size α)) H nx):Aa E w ⟨dst,.indexAddr t x ix,ty,pos,af,gd⟩ L H nx Q :=
 Aa.a1f hx hb hi hs h0 h1 (by rw [Nat.zero_add];exact q)
theorem Aa.Dh {α:Type} {_:Enc α} {t:TypeId} {x ix:Operand} {e:TypeId} {l:List α} {b n:Nat} {z:Bool} {k:IntKind} {i:Nat} (hx:Bq E.Γ L x=some (.vec b n 0 n)) (hb:hget H b=some (.vec e (cells l) n z)) (hi:Bq E.Γ L ix=some (.p (.int k (i:Int))))
 (hs:elemSize E.P t=some (Enc.size α)) (h1:i<n) (q:Q (.DU b n (i*Enc.size α)) H nx):Aa E w ⟨dst,.indexAddr t x ix,ty,pos,af,gd⟩ L H nx Q :=
 Aa.kL hx hb hi hs (by omega) (by omega) q
theorem Aa.Dq {α:Type} {_:Enc α} {t:TypeId} {a:Operand} {b n i:Nat} {e:TypeId} {l:List α} {z:Bool} {r:FV} (ha:Bq E.Γ L a=some (.DU b n (i*Enc.size α))) (hb:hget H b=some (.vec e (cells l) n z)) (hi:i<l.length)
 (h:QH E.P t (Enc.enc (gi l i)++cells (l.drop (i+1)))=some r) (q:Q (.p r) H nx):Aa E w ⟨dst,.load t a,ty,pos,af,gd⟩ L H nx Q :=
 Aa.zG ha hb (by rw [Ju l i hi];exact h) q
theorem Aa.Ef {α:Type} {_:Enc α} {t:TypeId} {a x:Operand} {b n i:Nat} {e:TypeId} {l:List α} {z:Bool} {r:PV} {inf:TypeInfo} (y:α) (ha:Bq E.Γ L a=some (.DU b n (i*Enc.size α))) (hx:Bq E.Γ L x=some r) (hb:hget H b=some (.vec e (cells l) n z)) (hn:LP r)
 (hf:Fv r=(Enc.enc y).map .p) (a1p:E.P.info? t=some inf) (hl:Enc.size α=inf.size) (h0:0<inf.size) (hi:i<l.length) (q:Q (.ET []) (hput H b (.vec e (cells (l.set i y)) n z)) nx):Aa E true ⟨dst,.store t a x,ty,pos,af,gd⟩ L H nx Q :=
 Aa.a2t ha hx hb hn hf a1p (by rw [Enc.len,hl]) h0 (by
  rw [BF,← hl]
  have:=Nat.mul_le_mul_right (Enc.size α) hi
  rw [Nat.succ_mul] at this
  exact this) (by rw [XI l i y hi];exact q)
theorem YL {α:Type} [Enc α] {z:List Value} {a:α} (h:z.map F5=Enc.enc a) (n:Nat):(AY z n).map F5=cells (List.replicate n a):=by
 induction n with
 |zero=>rfl
 |succ n ih=>simp only [AY,List.map_append,h,ih,List.replicate_succ,cells,encs]
theorem Aa.Eo {α:Type} {_:Enc α} {t e:TypeId} {l c:Operand} (n:Nat) (a:α) {v v':Int} {z:List Value} {i:TypeInfo} (hu:E.P.underlying t=some (.slice e)) (hi:E.P.info? e=some i) (hz:BR E.P e=some z) (hl:Bq E.Γ L l=some (.p (.int .i64 v))) (hc:Bq E.Γ L c=some (.p (.int .i64 v')))
 (hv:v=n) (hv':v'=n) (hb:n<1000000) (hb2:i.bytes<1000000) (hs:z.length=i.size∧0<i.size) (ha:z.map F5=Enc.enc a) (q:Q (.vec nx n 0 n) ((nx,.vec e (cells (List.replicate n a)) n false)::H) (nx+1)):Aa E w ⟨dst,.makeSlice t l c,ty,pos,af,gd⟩ L H nx Q :=
 Aa.makeSlice (n:=n) hu hi hz (by rw [hl,hv]) (by rw [hc,hv']) ⟨by have:=Zo (n:=n) (k:=0) (b:=i.bytes) (by omega) hb2;simpa using this,by omega⟩ hs (by rw [YL ha];exact q)
theorem Aa.a6o {t t2:TypeId} {x y:Operand} {a b:Int} (hx:Bq E.Γ L x=some (.p (.int .u64 a))) (hy:Bq E.Γ L y=some (.p (.int .u64 b))) (h:0≤a+b∧a+b<18446744073709551616) (q:Q (.p (.int .u64 (a+b))) H nx) :
 Aa E w ⟨dst,.binOp .add t x y t2,ty,pos,af,gd⟩ L H nx Q:=Aa.int hx hy (r:=.int .u64 (a+b)) (by simp only [EO,wrap_u64 h.1 h.2]) q
theorem Aa.a7h {t t2:TypeId} {x y:Operand} {a b:Int} (hx:Bq E.Γ L x=some (.p (.int .u64 a))) (hy:Bq E.Γ L y=some (.p (.int .u64 b))) (h:0≤a-b∧a-b<18446744073709551616) (q:Q (.p (.int .u64 (a-b))) H nx) :
 Aa E w ⟨dst,.binOp .sub t x y t2,ty,pos,af,gd⟩ L H nx Q:=Aa.int hx hy (r:=.int .u64 (a-b)) (by simp only [EO,wrap_u64 h.1 h.2]) q
theorem Aa.a8p {t t2:TypeId} {x y:Operand} {a b:Int} (hx:Bq E.Γ L x=some (.p (.int .u64 a))) (hy:Bq E.Γ L y=some (.p (.int .u64 b))) (h:0≤a*b∧a*b<18446744073709551616) (q:Q (.p (.int .u64 (a*b))) H nx) :
 Aa E w ⟨dst,.binOp .mul t x y t2,ty,pos,af,gd⟩ L H nx Q:=Aa.int hx hy (r:=.int .u64 (a*b)) (by simp only [EO,wrap_u64 h.1 h.2]) q
theorem Aa.a6p {t t2:TypeId} {x y:Operand} {a c:Int} (hx:Bq E.Γ L x=some (.p (.int .u64 a))) (hy:Bq E.Γ L y=some (.p (.int .u64 c))) (ha:0≤a∧a<18446744073709551616) (hc:0<c) (q:Q (.p (.int .u64 (a / c))) H nx) :
 Aa E w ⟨dst,.binOp .quo t x y t2,ty,pos,af,gd⟩ L H nx Q:=by
 refine Aa.int hx hy (r:=.int .u64 (a / c)) ?_ q
 simp only [EO]
 rw [if_neg (by omega),Int.tdiv_eq_ediv_of_nonneg ha.1]
 have h1:0≤a / c:=Int.ediv_nonneg ha.1 (by omega)
 have h2:a / c≤a:=Int.ediv_le_self c ha.1
 rw [wrap_u64 h1 (by omega)]
theorem wrap_u8 {n:Int} (h0:0≤n) (h:n<256):IntKind.u8.wrap n=n:=by
 simp only [IntKind.wrap,IntKind.bits,IntKind.signed,Bool.false_and,Bool.false_eq_true,if_false]
 omega
theorem Aa.a6a {t t2:TypeId} {x y:Operand} {a b:Int} (hx:Bq E.Γ L x=some (.p (.int .u8 a))) (hy:Bq E.Γ L y=some (.p (.int .u8 b))) (h:0≤a-b∧a-b<256) (q:Q (.p (.int .u8 (a-b))) H nx) :
 Aa E w ⟨dst,.binOp .sub t x y t2,ty,pos,af,gd⟩ L H nx Q:=Aa.int hx hy (r:=.int .u8 (a-b)) (by simp only [EO,wrap_u8 h.1 h.2]) q
theorem Aa.a7i {t t2:TypeId} {x y:Operand} {a b:Int} (hx:Bq E.Γ L x=some (.p (.int .u8 a))) (hy:Bq E.Γ L y=some (.p (.int .u8 b))) (h:0≤a+b∧a+b<256) (q:Q (.p (.int .u8 (a+b))) H nx) :
 Aa E w ⟨dst,.binOp .add t x y t2,ty,pos,af,gd⟩ L H nx Q:=Aa.int hx hy (r:=.int .u8 (a+b)) (by simp only [EO,wrap_u8 h.1 h.2]) q
theorem Aa.XR {s d:TypeId} {x:Operand} {k':IntKind} {n:Int} {sd:TypeDesc} (hx:Bq E.Γ L x=some (.p (.int k' n))) (hs:E.P.underlying s=some sd) (hns:aB sd=true) (hd:E.P.underlying d=some (.int .u64)) (hn:0≤n∧n<18446744073709551616) (q:Q (.p (.int .u64 n)) H nx) :
 Aa E w ⟨dst,.convert s d x,ty,pos,af,gd⟩ L H nx Q:=Aa.U6 hx hs hns hd (by rw [wrap_u64 hn.1 hn.2];exact q)
theorem Aa.KU {s d:TypeId} {x:Operand} {k':IntKind} {n:Int} {sd:TypeDesc} (hx:Bq E.Γ L x=some (.p (.int k' n))) (hs:E.P.underlying s=some sd) (hns:aB sd=true) (hd:E.P.underlying d=some (.int .u8)) (hn:0≤n∧n<256) (q:Q (.p (.int .u8 n)) H nx) :
 Aa E w ⟨dst,.convert s d x,ty,pos,af,gd⟩ L H nx Q:=Aa.U6 hx hs hns hd (by rw [wrap_u8 hn.1 hn.2];exact q)
theorem Aa.neg {t:TypeId} {x:Operand} {a:Int} (hx:Bq E.Γ L x=some (.p (.int .i64 a))) (h:-9223372036854775808≤-a∧-a<9223372036854775808) (q:Q (.p (.int .i64 (-a))) H nx):Aa E w ⟨dst,.unOp .neg t x,ty,pos,af,gd⟩ L H nx Q :=
 Aa.quiet q fun m F σ tt c1 c2=>by
  refine ⟨.int .i64 (-a),fun _=>?_,.p (.int _ _)⟩
  have hd:Ey E.P (Op.unary .neg (.int .i64 a))=some (.int .i64 (-a)):=by
   simp only [Op.unary,Op.intArith,Int.zero_sub,wrap_i64 h]
   rfl
  simp only [CQ,Fg,CY c1 c2 hx]
  rw [show plain (Value.int IntKind.i64 a)=true from rfl]
  simp only [if_true,Ia hd rfl,Option.map_some]
theorem Aa.a6c {op:BinOp} {t t2:TypeId} {x y:Operand} {a b r:Bool} (hx:Bq E.Γ L x=some (.p (.bool a))) (hy:Bq E.Γ L y=some (.p (.bool b))) (ht:E.P.underlying t=some .bool) (hr:op=.eql∧r=(a==b)∨op=.neq∧r=(a != b)) (q:Q (.p (.bool r)) H nx) :
 Aa E w ⟨dst,.binOp op t x y t2,ty,pos,af,gd⟩ L H nx Q :=
 Aa.quiet q fun m F σ tt c1 c2=>by
  refine ⟨.bool r,fun _=>?_,.p (.bool _)⟩
  have hd:Ey E.P (do eqGuard op t x y (.bool a) (.bool b);binOp op t (.bool a) (.bool b))=some (.bool r):=by
   have h2:∀ d,Ey E.P (Op.equalIn (d+1) t (.bool a) (.bool b))=some (a==b):=fun d=>by
    simp only [Op.equalIn,AX,BL,ht,Option.bind_some];rfl
   have h3:Ey E.P (Op.equal t (.bool a) (.bool b))=some (a==b):=h2 (Op.maxDepth-1)
   rcases hr with ⟨rfl,rfl⟩|⟨rfl,rfl⟩
   ·show Ey E.P (do eqGuard .eql t x y (.bool a) (.bool b);(do pure (.bool (← Op.equal t (.bool a) (.bool b))):Sem Value))=_
    simp only [eqGuard,AX,h3,Option.bind_some,Dc]
    rfl
   ·show Ey E.P (do eqGuard .neq t x y (.bool a) (.bool b);(do pure (.bool (!(← Op.equal t (.bool a) (.bool b)))):Sem Value))=_
    simp only [eqGuard,AX,h3,Option.bind_some,Dc]
    rfl
  simp only [CQ,Fg,Ib c1 c2 hx,Ib c1 c2 hy,OJ]
  rw [show (plain (Value.bool a)&&plain (Value.bool b))=true from rfl]
  simp only [if_true,Ia hd rfl,Option.map_some]
theorem Aa.neB {t t2:TypeId} {x y:Operand} {a b:Bool} (hx:Bq E.Γ L x=some (.p (.bool a))) (hy:Bq E.Γ L y=some (.p (.bool b))) (ht:E.P.underlying t=some .bool) (q:Q (.p (.bool (a != b))) H nx) :
 Aa E w ⟨dst,.binOp .neq t x y t2,ty,pos,af,gd⟩ L H nx Q:=Aa.a6c hx hy ht (.inr ⟨rfl,rfl⟩) q
theorem Aa.qh {x y:Operand} {aT:Array TypeId} {a b:Int} (hx:Bq E.Γ L x=some (.p (.int .i64 a))) (hy:Bq E.Γ L y=some (.p (.int .i64 b))) (q:Q (.p (.int .i64 (max a b))) H nx) :
 Aa E w ⟨dst,.call { callee:=.builtin .max,args:=#[x,y],argTypes:=aT },ty,pos,af,gd⟩ L H nx Q :=
 Aa.quiet q fun m F σ tt c1 c2=>by
  refine ⟨.int .i64 (max a b),fun _=>?_,.p (.int _ _)⟩
  have he:(#[x,y]:Array Operand).map (ev tt)=#[.int .i64 a,.int .i64 b]:=by simp [CY c1 c2 hx,CY c1 c2 hy]
  have hp:((#[x,y]:Array Operand).map (ev tt)).toList.all plain=true:=by rw [he];rfl
  have hd:Ey E.P (Builtin.max_ aT ty #[.int .i64 a,.int .i64 b])=some (.int .i64 (max a b)):=by
   simp only [Builtin.max_,List.foldlM_cons,List.foldlM_nil,Builtin.max2,AX,Dc,Option.bind_some]
   congr 2
   split<;>omega
  simp only [CQ,Fg,hp,if_true]
  rw [he,Ia hd rfl]
  rfl
theorem Aa.a6s {x y:Operand} {aT:Array TypeId} {a b:Int} (hx:Bq E.Γ L x=some (.p (.int .i64 a))) (hy:Bq E.Γ L y=some (.p (.int .i64 b))) (q:Q (.p (.int .i64 (min a b))) H nx) :
 Aa E w ⟨dst,.call { callee:=.builtin .min,args:=#[x,y],argTypes:=aT },ty,pos,af,gd⟩ L H nx Q :=
 Aa.quiet q fun m F σ tt c1 c2=>by
  refine ⟨.int .i64 (min a b),fun _=>?_,.p (.int _ _)⟩
  have he:(#[x,y]:Array Operand).map (ev tt)=#[.int .i64 a,.int .i64 b]:=by simp [CY c1 c2 hx,CY c1 c2 hy]
  have hp:((#[x,y]:Array Operand).map (ev tt)).toList.all plain=true:=by rw [he];rfl
  have hd:Ey E.P (Builtin.min_ aT ty #[.int .i64 a,.int .i64 b])=some (.int .i64 (min a b)):=by
   simp only [Builtin.min_,List.foldlM_cons,List.foldlM_nil,Builtin.min2,AX,Dc,Option.bind_some]
   congr 2
   split<;>omega
  simp only [CQ,Fg,hp,if_true]
  rw [he,Ia hd rfl]
  rfl
end Go.Vm
namespace Go.Vm
open Go.Am
section
variable {P:Program} {G:List Nat}
theorem Eb.below {ι:BU} {m:Mem} {w w':World} (hs:Eb P G ι m w) (hb:Go.RowKit.Below w.heap.size w w'):Eb P G ι m w':=by
 refine ⟨fun b ib h=>?_,fun b ib h=>?_,hs.inj,hs.glob⟩
 ·have:=hs.dom b ib h
  have:=hb.size
  omega
 ·rw [hb.block _ (hs.dom b ib h).2];exact hs.blk b ib h
theorem Post.below {ι:BU} {m:Mem} {w w':World} {v:Value} (hs:Eb P G ι m w) (hb:Go.RowKit.Below w.heap.size w w') (hp:plain v=true):Post P G ι m w v m v w':=by
 refine ⟨ι,⟨Nat.le_refl _,Nat.le_refl _,fun _ _ _=>rfl,fun _ _ _=>rfl,fun _ _=>rfl,Le.refl _ _,fun b ib h=>.inl ⟨ib,h,rfl⟩,fun b ib h=>.inl ⟨ib,h⟩,hb.size,fun c hc _=>hb.block c hc,hb.tape,hb.os,hb.output⟩,Eb.below hs hb,AZ.plain hp⟩
abbrev VJ:=List Value→Mem→Option Value
open Classical in
noncomputable def Y3 (G:List Nat) (M0:Mem) (ls:List (FuncId×VJ)):CB:=fun f =>
 match ls.lookup f with
 |some F=>some fun Cb m=>if ∀ k∈G,m.get k=M0.get k then (F Cb m).map fun v=>(v,m) else none
 |none=>none
structure Qg (P:Program) (G:List Nat) (M0:Mem) (f:FuncId) (F:VJ):Prop where
 a3v:∀ n lb m,F (D9 n lb) m=none
 enters:Enters P f
 calls:∀ ι m w (Cb:List Value) (as':Array Value) v,Eb P G ι m w→(∀ k∈G,m.get k=M0.get k)→BJ ι m.gen Cb as'.toList→F Cb m=some v→plain v=true∧Calls P f as' w fun e w'=>e=.returned v∧Go.RowKit.Below w.heap.size w w'
theorem Xd {α:Type} {f:FuncId} {a:α}:∀ {ls:List (FuncId×α)},ls.lookup f=some a→(f,a)∈ls
 |[],h=>by simp at h
 |(g,b)::ls,h=>by
  rw [List.lookup_cons] at h
  cases hg:f==g with
  |true =>
   rw [hg] at h
   cases h
   rw [eq_of_beq hg];simp
  |false=>rw [hg] at h;exact List.mem_cons_of_mem _ (Xd h)
theorem gB {M0:Mem} {ls:List (FuncId×VJ)} (h:∀ x∈ls,Qg P G M0 x.1 x.2):GV P G (Y3 G M0 ls):=by
 intro f Fo hf
 unfold Y3 at hf
 split at hf
 ·rename_i F hl
  cases hf
  have hs:=h _ (Xd hl)
  refine ⟨fun Cb m v m' hv ι w as' Ed hrel=>?_,fun Cb m v m' hv=>?_,hs.enters,Yq.none fun n lb m=>by
   have h0:F (D9 n lb) m=none:=hs.a3v n lb m
   simp only [h0];split<;>rfl⟩
  ·simp only at hv
   split at hv
   ·rename_i hg
    rw [Option.map_eq_some_iff] at hv
    obtain ⟨u,h1,h2⟩:=hv
    cases h2
    obtain ⟨h3,h4⟩:=hs.calls ι m w Cb as' v Ed hg hrel h1
    exact h4.mono fun e w' ⟨he,hb⟩=>⟨v,he,Post.below Ed hb h3⟩
   ·cases hv
  ·simp only at hv
   split at hv
   ·rw [Option.map_eq_some_iff] at hv
    obtain ⟨u,h1,h2⟩:=hv
    cases h2
    exact Bg.refl _
   ·cases hv
 ·cases hf
end
section
variable {P:Program}
noncomputable def a5s (P:Program) (F:Nat) (laid:List (String×DataW Unit)) (ls:List (FuncId×VJ)):Env :=
 ⟨P,Y3 (BK P F laid) (CV P F laid) ls,BK P F laid,gam P F laid⟩
theorem oM {G:List Nat} {M0:Mem} {ls:List (FuncId×VJ)} {f:FuncId} (h:ls.lookup f=none):Y3 G M0 ls f=none:=by
 unfold Y3;rw [h]
variable {H:Type} {enc:TypeId×Value→H} {W:World} {held:Bool}
end
theorem RF.cellsOf {m:Mem} {F:Nat→Prop} {e:TypeId} {cs:List FV} {n sz:Nat} {v:Value} (h:RF m F (.lst e cs n) v) (hl:cs.length=n*sz):∃ vs,Ce m sz n v=some vs∧DC m F cs vs∧lenOf v=some n:=by
 cases h with
 |nil e=>exact ⟨[],rfl,.nil,rfl⟩
 |room e b o g=>exact ⟨[],rfl,.nil,rfl⟩
 |lst hF hm hw hr hc =>
  rename_i b o g vs ws ro
  refine ⟨ws,?_,hr,rfl⟩
  have:m.DV ⟨b,o,some g⟩ (n*sz)=some ws:=by
   unfold Mem.DV
   simp only [hm,Jd,Option.getD_some,if_true,← hl,hw]
  cases n with
  |zero=>simp only [Ce,Nat.le_refl,if_true,this]
  |succ n=>simp only [Ce,Nat.le_refl,if_true,this]
theorem RU {P:Program} {G:List Nat} {ι:BU} {m:Mem} {w:World} {n:Nat} {s s':Value} {l:List Value} (hs:Eb P G ι m w) (hv:AZ ι m.gen s s') (hn:lenOf s=some n) (hns:∀ b,s≠.string b) (h:Ce m 1 n s=some l) :
 ∃ a cap,s'=.slice a n cap∧l.length=n∧(a=none∧n=0∨∃ A,a=some A∧A.spot=none∨n=0)∧∀ A,a=some A→∀ j v,l[j]?=some v→plain v=true→w.cell? (A.add j)=some v:=by
 have hlen:=FC h
 cases hv with
 |yG=>cases hn;exact ⟨none,0,rfl,by omega,.inl ⟨rfl,rfl⟩,fun A hA=>by cases hA⟩
 |gX b o s a' =>
  cases hn
  refine ⟨some a',0,rfl,by omega,.inr ⟨a',.inr rfl⟩,fun A hA j v hj=>?_⟩
  have:l=[]:=List.eq_nil_of_length_eq_zero (by omega)
  rw [this] at hj;simp at hj
 |sl b off len gen a' cap hr =>
  cases hn
  refine ⟨some a',cap,rfl,by omega,?_,fun A hA j v hj hp=>?_⟩
  ·rcases Nat.eq_zero_or_pos n with h0|h0
   ·exact .inr ⟨a',.inr h0⟩
   ·refine .inr ⟨a',.inl ⟨rfl,?_⟩⟩
    have hl':m.DV ⟨b,off,some gen⟩ n=some l:=by unfold Ce at h;simpa using h
    obtain ⟨vs,e,g,ro,hg,hag,hgen,_,_⟩:=Hw hl'
    obtain ⟨ib,_,_,_,hcur⟩:=hr
    have hag':gen=g:=hag
    exact (hcur (by rw [hag'];exact hgen.symm)).2.1
  ·cases hA
   have hj2:=(List.getElem?_eq_some_iff.1 hj).1
   have hpos:0<n:=by omega
   have ha:=GR hr (fun _=>hpos) 0
   rw [Addr.add_zero'] at ha
   have hl':m.DV ⟨b,off,some gen⟩ n=some l:=by unfold Ce at h;simpa using h
   obtain ⟨l',h1,h2,h3⟩:=IV hs (by simpa using ha) hl'
   obtain ⟨v',h4,h5⟩:=h1.get hj
   have e2:v'=v:=h5.Cj hp
   rw [e2] at h4
   exact h3 j _ h4
 |str b=>exact absurd rfl (hns b)
 |_=>cases hn
end Go.Vm
namespace Go.Vm
open Go.Am
variable {E:Env} {L:Frame} {H:Heap} {nx:Nat} {Q:PV→Heap→Nat→Prop} {w:Bool}
variable {dst:Option Tmp} {ty:TypeId} {pos:String} {af:Array Edge} {gd:Option (Nat×Bool)}
theorem Aa.qN {t t2:TypeId} {x y:Operand} {a b:Nat} (hx:Bq E.Γ L x=some (.p (.int .u64 (a:Int)))) (hy:Bq E.Γ L y=some (.p (.int .u64 (b:Int)))) (h:a+b<18446744073709551616) (q:Q (.p (.int .u64 ((a+b:Nat):Int))) H nx) :
 Aa E w ⟨dst,.binOp .add t x y t2,ty,pos,af,gd⟩ L H nx Q:=Aa.a6o hx hy (by omega) (by rw [← Int.natCast_add];exact q)
theorem Aa.zM {t t2:TypeId} {x y:Operand} {a b:Nat} (hx:Bq E.Γ L x=some (.p (.int .u64 (a:Int)))) (hy:Bq E.Γ L y=some (.p (.int .u64 (b:Int)))) (h:a*b<18446744073709551616) (q:Q (.p (.int .u64 ((a*b:Nat):Int))) H nx) :
 Aa E w ⟨dst,.binOp .mul t x y t2,ty,pos,af,gd⟩ L H nx Q:=Aa.a8p hx hy (by rw [← Int.natCast_mul];omega) (by rw [← Int.natCast_mul];exact q)
theorem Aa.a4v {t t2:TypeId} {x y:Operand} {a b:Nat} (hx:Bq E.Γ L x=some (.p (.int .u64 (a:Int)))) (hy:Bq E.Γ L y=some (.p (.int .u64 (b:Int)))) (h:b≤a∧a<18446744073709551616) (q:Q (.p (.int .u64 ((a-b:Nat):Int))) H nx) :
 Aa E w ⟨dst,.binOp .sub t x y t2,ty,pos,af,gd⟩ L H nx Q:=Aa.a7h hx hy (by omega) (by rw [← Int.ofNat_sub h.1];exact q)
theorem Aa.a3h {t t2:TypeId} {x y:Operand} {a c:Nat} (hx:Bq E.Γ L x=some (.p (.int .u64 (a:Int)))) (hy:Bq E.Γ L y=some (.p (.int .u64 (c:Int)))) (h:a<18446744073709551616∧0<c) (q:Q (.p (.int .u64 ((a / c:Nat):Int))) H nx) :
 Aa E w ⟨dst,.binOp .quo t x y t2,ty,pos,af,gd⟩ L H nx Q:=Aa.a6p hx hy (by omega) (by omega) (by rw [← Int.natCast_ediv];exact q)
theorem Aa.zV {t t2:TypeId} {x y:Operand} {a c:Nat} (hx:Bq E.Γ L x=some (.p (.int .u64 (a:Int)))) (hy:Bq E.Γ L y=some (.p (.int .u64 (c:Int)))) (h:0<c) (q:Q (.p (.int .u64 ((a % c:Nat):Int))) H nx) :
 Aa E w ⟨dst,.binOp .rem t x y t2,ty,pos,af,gd⟩ L H nx Q:=Aa.a1h hx hy h q
theorem Aa.a5d {t t2:TypeId} {x y:Operand} {a:Nat} {c:Int} (hx:Bq E.Γ L x=some (.p (.int .u64 (a:Int)))) (hy:Bq E.Γ L y=some (.p (.int .u64 c))) (h:a<18446744073709551616∧0<c) (q:Q (.p (.int .u64 ((a / c.toNat:Nat):Int))) H nx) :
 Aa E w ⟨dst,.binOp .quo t x y t2,ty,pos,af,gd⟩ L H nx Q:=Aa.a3h (c:=c.toNat) hx (by rw [hy,Int.toNat_of_nonneg (by omega)]) (by omega) q
theorem Aa.a3g {t t2:TypeId} {x y:Operand} {a:Nat} {c:Int} (hx:Bq E.Γ L x=some (.p (.int .u64 (a:Int)))) (hy:Bq E.Γ L y=some (.p (.int .u64 c))) (h:0<c) (q:Q (.p (.int .u64 ((a % c.toNat:Nat):Int))) H nx) :
 Aa E w ⟨dst,.binOp .rem t x y t2,ty,pos,af,gd⟩ L H nx Q:=Aa.zV (c:=c.toNat) hx (by rw [hy,Int.toNat_of_nonneg (by omega)]) (by omega) q
theorem Aa.a4b {t t2:TypeId} {x y:Operand} {m n:Nat} (hx:Bq E.Γ L x=some (.p (.int .i64 (m:Int)))) (hy:Bq E.Γ L y=some (.p (.int .i64 (n:Int)))) (h:m<9223372036854775808∧n<9223372036854775808) (q:Q (.p (.int .i64 ((m &&& n:Nat):Int))) H nx) :
 Aa E w ⟨dst,.binOp .and t x y t2,ty,pos,af,gd⟩ L H nx Q:=Aa.int hx hy (Xi (.inl ⟨rfl,h.1⟩) (by omega)) q
theorem Aa.zL {t t2:TypeId} {x y:Operand} {a c:Nat} (hx:Bq E.Γ L x=some (.p (.int .u8 (a:Int)))) (hy:Bq E.Γ L y=some (.p (.int .u8 (c:Int)))) (h:c≤a∧a<256) (q:Q (.p (.int .u8 ((a-c:Nat):Int))) H nx) :
 Aa E w ⟨dst,.binOp .sub t x y t2,ty,pos,af,gd⟩ L H nx Q:=Aa.a6a hx hy (by omega) (by rw [← Int.ofNat_sub h.1];exact q)
theorem Aa.yZ {t:TypeId} {x lo hi:Operand} {l:List UInt8} {k k':IntKind} {a b:Int} (hx:Bq E.Γ L x=some (st l)) (hlo:Bq E.Γ L lo=some (.p (.int k a))) (hhi:Bq E.Γ L hi=some (.p (.int k' b))) (ht:E.P.underlying t=some .string) (h:0≤a∧a≤b∧b≤l.length)
 (q:Q (st ((l.take b.toNat).drop a.toNat)) H nx):Aa E w ⟨dst,.slice t x (some lo) (some hi) none,ty,pos,af,gd⟩ L H nx Q :=
 Aa.Zy (a:=a.toNat) (b:=b.toNat) hx ht ⟨k,by rw [hlo];congr 3;omega⟩ ⟨k',by rw [hhi];congr 3;omega⟩ (by omega) (by omega) q
theorem Aa.uM {α:Type} {_:Enc α} {l:List α} {t:TypeId} {x o:Operand} {e:TypeId} {n:Nat} {inf:TypeInfo} {k:IntKind} {b:Int} (hx:Bq E.Γ L x=some (.p (.lst e (cells l) n))) (hhi:Bq E.Γ L o=some (.p (.int k b))) (ht:E.P.underlying t=some (.slice e)) (hi':E.P.info? e=some inf)
 (hsz:inf.size=Enc.size α) (hn:l.length=n) (hb:0≤b∧b≤l.length) (q:Q (.p (.lst e (cells (l.take b.toNat)) b.toNat)) H nx):Aa E w ⟨dst,.slice t x none (some o) none,ty,pos,af,gd⟩ L H nx Q :=
 Aa.sliceTo (b:=b.toNat) hx (by rw [hhi];congr 3;omega) ht hi' hsz hn (by omega) q
end Go.Vm
namespace Go.Proofs
open Go.Shelf
def Tryz.lays170_ren:Go.Shelf.Ren:=⟨fun|170=>141|n=>n,fun|70=>226|3=>3|0=>0|72=>228|37=>129|5=>5|n=>n,fun|n=>n⟩
def Tryz.lays169_ren:Go.Shelf.Ren:=⟨fun|169=>130|n=>n,fun|70=>226|9=>9|0=>0|72=>228|37=>129|127=>244|3=>3|5=>5|n=>n,fun|n=>n⟩
theorem Tryz.lays169:Go.Proofs.Lays.n169 Tryz.prog Tryz.lays169_ren:={
 mixed:=by kernel_rfl
 f169:=Tryz.func130.trans (congrArg some (by kernel_rfl))
 t0:=Tryz.underlying0
 a0:=Tryz.isAgg0
 z0:=Tryz.sizeOf0
 v0:=Tryz.zeroValue0
 t3:=Tryz.underlying3
 a3:=Tryz.isAgg3
 z3:=Tryz.sizeOf3
 v3:=Tryz.zeroValue3
 t9:=Tryz.underlying9
 a9:=Tryz.isAgg9
 z9:=Tryz.sizeOf9
 v9:=Tryz.zeroValue9
 t37:=Tryz.underlying129
 a37:=Tryz.isAgg129
 z37:=Tryz.sizeOf129
 v37:=Tryz.zeroValue129
 t70:=Tryz.underlying226
 a70:=Tryz.isAgg226
 z70:=Tryz.sizeOf226
 v70:=Tryz.zeroValue226
 t72:=Tryz.underlying228
 a72:=Tryz.isAgg228
 z72:=Tryz.sizeOf228
 v72:=Tryz.zeroValue228
 t127:=Tryz.underlying244
 a127:=Tryz.isAgg244
 z127:=Tryz.sizeOf244
 v127:=Tryz.zeroValue244 }
theorem Tryz.Builder_Extra_169:Builder.Extra Tryz.prog Tryz.lays169_ren:={
 sizeBuilder:=by kernel_rfl
 liesBuilder:=by kernel_rfl
 t5:=Tryz.underlying5
 a5:=Tryz.isAgg5
 z5:=Tryz.sizeOf5
 v5:=Tryz.zeroValue5
 infoByte:=by kernel_rfl
 cellsByte:=by kernel_rfl
 sizeByte:=by kernel_rfl
 neB5:=by decide }
def Tryz.lays241_ren:Go.Shelf.Ren:=⟨fun|241=>150|277=>156|n=>n,fun|70=>226|3=>3|0=>0|72=>228|37=>129|5=>5|n=>n,fun|n=>n⟩
def Tryz.lays165_ren:Go.Shelf.Ren:=⟨fun|165=>140|240=>139|241=>150|276=>149|277=>156|n=>n,fun|70=>226|3=>3|0=>0|4=>4|9=>9|20=>20|72=>228|37=>129|164=>251|5=>5|n=>n,fun|n=>n⟩
def Tryz.lays213_ren:Go.Shelf.Ren:=⟨fun|213=>135|265=>144|n=>n,fun|9=>9|3=>3|n=>n,fun|n=>n⟩
def Tryz.lays106_ren:Go.Shelf.Ren:=⟨fun|106=>118|213=>135|265=>144|n=>n,fun|9=>9|3=>3|n=>n,fun|n=>n⟩
theorem Tryz.lays106:Go.Proofs.Lays.n106 Tryz.prog Tryz.lays106_ren:={
 mixed:=by kernel_rfl
 f106:=Tryz.func118.trans (congrArg some (by kernel_rfl))
 f213:=Tryz.func135.trans (congrArg some (by kernel_rfl))
 f265:=Tryz.func144.trans (congrArg some (by kernel_rfl))
 t3:=Tryz.underlying3
 a3:=Tryz.isAgg3
 z3:=Tryz.sizeOf3
 v3:=Tryz.zeroValue3
 t9:=Tryz.underlying9
 a9:=Tryz.isAgg9
 z9:=Tryz.sizeOf9
 v9:=Tryz.zeroValue9 }
open Go.RowKit in
theorem Tryz.strings_Compare (a b:ByteArray) (w:World) :
 Calls Tryz.prog 118 #[.string a,.string b] w fun e w'=>e=.returned (.int .i64 (Lib.compareBytes a.data.toList b.data.toList))∧w'=w:=Any.strings_Compare Tryz.lays106 a b w
open Go.RowKit in
theorem Tryz.Builder_String_any_k (B b:Nat) (l:List UInt8) (w:World) (h:Lib.IsBuilderF 228 5 B b (Lib.byteCells l) w) (hBw:B≤w.heap.size) :
 Calls Tryz.prog 130 #[.pointer (some ⟨b,0,none⟩)] w fun e w'=>e=.returned (.string ⟨l.toArray⟩)∧(Lib.IsBuilderF 228 5 B b (Lib.byteCells l) w'∧Below B w w'∧Lib.OthersKept 5 (some b) w w'):=Any.Builder_String_any_k Tryz.lays169 Tryz.Builder_Extra_169 B b l w h hBw
def Tryz.lays129_ren:Go.Shelf.Ren:=⟨fun|129=>152|n=>n,fun|53=>39|3=>3|4=>4|46=>112|5=>5|9=>9|n=>n,fun|n=>n⟩
def Tryz.lays317_ren:Go.Shelf.Ren:=⟨fun|317=>151|n=>n,fun|3=>3|46=>112|n=>n,fun|n=>n⟩
def Tryz.lays318_ren:Go.Shelf.Ren:=⟨fun|318=>153|n=>n,fun|3=>3|4=>4|n=>n,fun|n=>n⟩
def Tryz.lays283_ren:Go.Shelf.Ren:=⟨fun|283=>145|n=>n,fun|3=>3|9=>9|4=>4|n=>n,fun|n=>n⟩
theorem Tryz.lays283:Go.Proofs.Lays.n283 Tryz.prog Tryz.lays283_ren:={
 mixed:=by kernel_rfl
 f283:=Tryz.func145.trans (congrArg some (by kernel_rfl))
 t3:=Tryz.underlying3
 a3:=Tryz.isAgg3
 z3:=Tryz.sizeOf3
 v3:=Tryz.zeroValue3
 t4:=Tryz.underlying4
 a4:=Tryz.isAgg4
 z4:=Tryz.sizeOf4
 v4:=Tryz.zeroValue4
 t9:=Tryz.underlying9
 a9:=Tryz.isAgg9
 z9:=Tryz.sizeOf9
 v9:=Tryz.zeroValue9 }
open Go.Lib in
theorem Tryz.internal_strconv_small (i:Nat) (h:i<100) (w:World) :
 Calls Tryz.prog 145 #[.int .i64 i] w fun e w'=>e=.returned (.string ⟨(Lib.decDigits i).toArray⟩)∧w'=w:=Any.internal_strconv_small Tryz.lays283 i h w
def Tryz.laysM284_ren:Go.Shelf.Ren:=⟨fun|284=>146|129=>152|317=>151|318=>153|n=>n,fun|53=>39|3=>3|212=>255|0=>0|4=>4|46=>112|5=>5|9=>9|n=>n,fun|17=>1|n=>n⟩
theorem Tryz.laysM284:Go.Proofs.LaysM.n284 Tryz.prog Tryz.laysM284_ren:={
 mixed:=by kernel_rfl
 f129:=Tryz.func152.trans (congrArg some (by kernel_rfl))
 f284:=Tryz.func146.trans (congrArg some (by kernel_rfl))
 f317:=Tryz.func151.trans (congrArg some (by kernel_rfl))
 f318:=Tryz.func153.trans (congrArg some (by kernel_rfl))
 t0:=Tryz.underlying0
 a0:=Tryz.isAgg0
 z0:=Tryz.sizeOf0
 v0:=Tryz.zeroValue0
 t3:=Tryz.underlying3
 a3:=Tryz.isAgg3
 z3:=Tryz.sizeOf3
 v3:=Tryz.zeroValue3
 t4:=Tryz.underlying4
 a4:=Tryz.isAgg4
 z4:=Tryz.sizeOf4
 v4:=Tryz.zeroValue4
 t5:=Tryz.underlying5
 a5:=Tryz.isAgg5
 z5:=Tryz.sizeOf5
 v5:=Tryz.zeroValue5
 t9:=Tryz.underlying9
 a9:=Tryz.isAgg9
 z9:=Tryz.sizeOf9
 v9:=Tryz.zeroValue9
 t46:=Tryz.underlying112
 a46:=Tryz.isAgg112
 z46:=Tryz.sizeOf112
 v46:=Tryz.zeroValue112
 t53:=Tryz.underlying39
 a53:=Tryz.isAgg39
 z53:=Tryz.sizeOf39
 v53:=Tryz.zeroValue39
 t212:=Tryz.underlying255
 a212:=Tryz.isAgg255
 z212:=Tryz.sizeOf255
 v212:=Tryz.zeroValue255
 g17:=by kernel_rfl
 i0:=by kernel_rfl
 i3:=by kernel_rfl
 i4:=by kernel_rfl
 i5:=by kernel_rfl
 i9:=by kernel_rfl
 i46:=by kernel_rfl
 i53:=by kernel_rfl
 i212:=by kernel_rfl
 m17:=by kernel_rfl }
open Go.Lib in
theorem Tryz.internal_strconv_numDigits (u:Nat) (h1:1≤u) (h2:u<18446744073709551616) (w:World) (htab:Lib.TabIs Tryz.prog w "internal/strconv.uint64pow10" .u64 Lib.pow10Tab) :
 Calls Tryz.prog 146 #[.int .u64 u] w fun e w'=>e=.returned (.int .i64 (Lib.nDigits u))∧w'=w:=Any.internal_strconv_numDigits Tryz.laysM284 u h1 h2 w htab
def Tryz.lays285_ren:Go.Shelf.Ren:=⟨fun|285=>147|n=>n,fun|37=>129|53=>39|3=>3|4=>4|51=>217|9=>9|5=>5|0=>0|n=>n,fun|n=>n⟩
theorem Tryz.lays285:Go.Proofs.Lays.n285 Tryz.prog Tryz.lays285_ren:={
 mixed:=by kernel_rfl
 f285:=Tryz.func147.trans (congrArg some (by kernel_rfl))
 t0:=Tryz.underlying0
 a0:=Tryz.isAgg0
 z0:=Tryz.sizeOf0
 v0:=Tryz.zeroValue0
 t3:=Tryz.underlying3
 a3:=Tryz.isAgg3
 z3:=Tryz.sizeOf3
 v3:=Tryz.zeroValue3
 t4:=Tryz.underlying4
 a4:=Tryz.isAgg4
 z4:=Tryz.sizeOf4
 v4:=Tryz.zeroValue4
 t5:=Tryz.underlying5
 a5:=Tryz.isAgg5
 z5:=Tryz.sizeOf5
 v5:=Tryz.zeroValue5
 t9:=Tryz.underlying9
 a9:=Tryz.isAgg9
 z9:=Tryz.sizeOf9
 v9:=Tryz.zeroValue9
 t37:=Tryz.underlying129
 a37:=Tryz.isAgg129
 z37:=Tryz.sizeOf129
 v37:=Tryz.zeroValue129
 t51:=Tryz.underlying217
 a51:=Tryz.isAgg217
 z51:=Tryz.sizeOf217
 v51:=Tryz.zeroValue217
 t53:=Tryz.underlying39
 a53:=Tryz.isAgg39
 z53:=Tryz.sizeOf39
 v53:=Tryz.zeroValue39 }
open Go.RowKit Go.Sort Go.Lib in
theorem Tryz.internal_strconv_formatBase10 (blk off cap:Nat) (u:Nat) (d:Array UInt8) (w:World) (hH:Holds (fun (b:UInt8)=>Value.int .u8 (b.toNat:Int)) w blk off d) (hu:u<10 ^ d.size) (hu64:u<18446744073709551616) (hsz:d.size<4611686018427387904) :
 Calls Tryz.prog 147 #[.slice (some ⟨blk,off,none⟩) d.size cap,.int .u64 u] w fun e w' =>
  e=.returned (.tuple #[])∧∃ (n v':Nat) (dk:Array UInt8),w'=(putRow (fun (b:UInt8)=>Value.int .u8 (b.toNat:Int)) w blk off dk).drewN n∧FmtInv d.size u 0 v' dk:=Any.internal_strconv_formatBase10 Tryz.lays285 blk off cap u d w hH hu hu64 hsz
def Tryz.laysM246_ren:Go.Shelf.Ren:=⟨fun|246=>142|283=>145|284=>146|285=>147|286=>148|129=>152|317=>151|318=>153|319=>154|320=>155|337=>157|338=>158|n=>n,fun|2=>2|3=>3|9=>9|4=>4|171=>246|0=>0|53=>39|37=>129|5=>5|173=>249|212=>255|51=>217|20=>20|213=>256|46=>112|232=>260|233=>261|n=>n,fun|17=>1|18=>2|19=>3|n=>n⟩
def Tryz.lays246_ren:Go.Shelf.Ren:=⟨fun|246=>142|283=>145|284=>146|285=>147|286=>148|129=>152|317=>151|318=>153|319=>154|320=>155|337=>157|338=>158|n=>n,fun|2=>2|3=>3|9=>9|4=>4|171=>246|0=>0|53=>39|37=>129|5=>5|173=>249|212=>255|51=>217|20=>20|213=>256|46=>112|232=>260|233=>261|n=>n,fun|17=>1|18=>2|19=>3|n=>n⟩
def Tryz.laysM243_ren:Go.Shelf.Ren:=⟨fun|243=>132|246=>142|283=>145|284=>146|285=>147|286=>148|129=>152|317=>151|318=>153|319=>154|320=>155|337=>157|338=>158|n=>n,fun|3=>3|9=>9|2=>2|4=>4|171=>246|0=>0|53=>39|37=>129|5=>5|173=>249|212=>255|51=>217|20=>20|213=>256|46=>112|232=>260|233=>261|n=>n,fun|17=>1|18=>2|19=>3|n=>n⟩
def Tryz.lays243_ren:Go.Shelf.Ren:=⟨fun|243=>132|246=>142|283=>145|284=>146|285=>147|286=>148|129=>152|317=>151|318=>153|319=>154|320=>155|337=>157|338=>158|n=>n,fun|3=>3|9=>9|2=>2|4=>4|171=>246|0=>0|53=>39|37=>129|5=>5|173=>249|212=>255|51=>217|20=>20|213=>256|46=>112|232=>260|233=>261|n=>n,fun|17=>1|18=>2|19=>3|n=>n⟩
def Tryz.laysM171_ren:Go.Shelf.Ren:=⟨fun|171=>114|243=>132|246=>142|283=>145|284=>146|285=>147|286=>148|129=>152|317=>151|318=>153|319=>154|320=>155|337=>157|338=>158|n=>n,fun|3=>3|9=>9|2=>2|4=>4|171=>246|0=>0|53=>39|37=>129|5=>5|173=>249|212=>255|51=>217|20=>20|213=>256|46=>112|232=>260|233=>261|n=>n,fun|17=>1|18=>2|19=>3|n=>n⟩
theorem Tryz.laysM171:Go.Proofs.LaysM.n171 Tryz.prog Tryz.laysM171_ren:={
 mixed:=by kernel_rfl
 f129:=Tryz.func152.trans (congrArg some (by kernel_rfl))
 f171:=Tryz.func114.trans (congrArg some (by kernel_rfl))
 f243:=Tryz.func132.trans (congrArg some (by kernel_rfl))
 f246:=Tryz.func142.trans (congrArg some (by kernel_rfl))
 f283:=Tryz.func145.trans (congrArg some (by kernel_rfl))
 f284:=Tryz.func146.trans (congrArg some (by kernel_rfl))
 f285:=Tryz.func147.trans (congrArg some (by kernel_rfl))
 f286:=Tryz.func148.trans (congrArg some (by kernel_rfl))
 f317:=Tryz.func151.trans (congrArg some (by kernel_rfl))
 f318:=Tryz.func153.trans (congrArg some (by kernel_rfl))
 f319:=Tryz.func154.trans (congrArg some (by kernel_rfl))
 f320:=Tryz.func155.trans (congrArg some (by kernel_rfl))
 f337:=Tryz.func157.trans (congrArg some (by kernel_rfl))
 f338:=Tryz.func158.trans (congrArg some (by kernel_rfl))
 t0:=Tryz.underlying0
 a0:=Tryz.isAgg0
 z0:=Tryz.sizeOf0
 v0:=Tryz.zeroValue0
 t2:=Tryz.underlying2
 a2:=Tryz.isAgg2
 z2:=Tryz.sizeOf2
 v2:=Tryz.zeroValue2
 t3:=Tryz.underlying3
 a3:=Tryz.isAgg3
 z3:=Tryz.sizeOf3
 v3:=Tryz.zeroValue3
 t4:=Tryz.underlying4
 a4:=Tryz.isAgg4
 z4:=Tryz.sizeOf4
 v4:=Tryz.zeroValue4
 t5:=Tryz.underlying5
 a5:=Tryz.isAgg5
 z5:=Tryz.sizeOf5
 v5:=Tryz.zeroValue5
 t9:=Tryz.underlying9
 a9:=Tryz.isAgg9
 z9:=Tryz.sizeOf9
 v9:=Tryz.zeroValue9
 t20:=Tryz.underlying20
 a20:=Tryz.isAgg20
 z20:=Tryz.sizeOf20
 v20:=Tryz.zeroValue20
 t37:=Tryz.underlying129
 a37:=Tryz.isAgg129
 z37:=Tryz.sizeOf129
 v37:=Tryz.zeroValue129
 t46:=Tryz.underlying112
 a46:=Tryz.isAgg112
 z46:=Tryz.sizeOf112
 v46:=Tryz.zeroValue112
 t51:=Tryz.underlying217
 a51:=Tryz.isAgg217
 z51:=Tryz.sizeOf217
 v51:=Tryz.zeroValue217
 t53:=Tryz.underlying39
 a53:=Tryz.isAgg39
 z53:=Tryz.sizeOf39
 v53:=Tryz.zeroValue39
 t171:=Tryz.underlying246
 a171:=Tryz.isAgg246
 z171:=Tryz.sizeOf246
 v171:=Tryz.zeroValue246
 t173:=Tryz.underlying249
 a173:=Tryz.isAgg249
 z173:=Tryz.sizeOf249
 v173:=Tryz.zeroValue249
 t212:=Tryz.underlying255
 a212:=Tryz.isAgg255
 z212:=Tryz.sizeOf255
 v212:=Tryz.zeroValue255
 t213:=Tryz.underlying256
 a213:=Tryz.isAgg256
 z213:=Tryz.sizeOf256
 t232:=Tryz.underlying260
 a232:=Tryz.isAgg260
 z232:=Tryz.sizeOf260
 v232:=Tryz.zeroValue260
 t233:=Tryz.underlying261
 a233:=Tryz.isAgg261
 z233:=Tryz.sizeOf261
 v233:=Tryz.zeroValue261
 g17:=by kernel_rfl
 g18:=by kernel_rfl
 g19:=by kernel_rfl
 i0:=by kernel_rfl
 i2:=by kernel_rfl
 i3:=by kernel_rfl
 i4:=by kernel_rfl
 i5:=by kernel_rfl
 i9:=by kernel_rfl
 i20:=by kernel_rfl
 i37:=by kernel_rfl
 i46:=by kernel_rfl
 i51:=by kernel_rfl
 i53:=by kernel_rfl
 i171:=by kernel_rfl
 i173:=by kernel_rfl
 i212:=by kernel_rfl
 i232:=by kernel_rfl
 i233:=by kernel_rfl
 m17:=by kernel_rfl
 m18:=by kernel_rfl
 m19:=by kernel_rfl }
open Go.RowKit Go.Sort Go.Lib in
theorem Tryz.strconv_Itoa (n:Int) (h0:-9223372036854775808≤n) (h1:n≤9223372036854775807) (w:World) (htab:Lib.TabIs Tryz.prog w "internal/strconv.uint64pow10" .u64 Lib.pow10Tab) :
 Calls Tryz.prog 114 #[.int .i64 n] w fun e w'=>e=.returned (.string ⟨(Lib.itoa n).toArray⟩)∧∃ k os,w'=grow (w.drewN k) os:=Any.strconv_Itoa Tryz.laysM171 n h0 h1 w htab
def Tryz.lays171_ren:Go.Shelf.Ren:=⟨fun|171=>114|243=>132|246=>142|283=>145|284=>146|285=>147|286=>148|129=>152|317=>151|318=>153|319=>154|320=>155|337=>157|338=>158|n=>n,fun|3=>3|9=>9|2=>2|4=>4|171=>246|0=>0|53=>39|37=>129|5=>5|173=>249|212=>255|51=>217|20=>20|213=>256|46=>112|232=>260|233=>261|n=>n,fun|17=>1|18=>2|19=>3|n=>n⟩
def Tryz.lays206_ren:Go.Shelf.Ren:=⟨fun|206=>143|n=>n,fun|9=>9|4=>4|3=>3|n=>n,fun|n=>n⟩
def Tryz.lays99_ren:Go.Shelf.Ren:=⟨fun|99=>133|206=>143|n=>n,fun|9=>9|4=>4|3=>3|n=>n,fun|n=>n⟩
def Tryz.lays264_ren:Go.Shelf.Ren:=⟨fun|264=>120|n=>n,fun|53=>39|46=>112|n=>n,fun|n=>n⟩
def Tryz.lays212_ren:Go.Shelf.Ren:=⟨fun|212=>100|263=>119|264=>120|n=>n,fun|46=>112|51=>217|146=>218|53=>39|148=>220|n=>n,fun|n=>n⟩
def Tryz.lays105_ren:Go.Shelf.Ren:=⟨fun|105=>129|212=>100|99=>133|165=>140|166=>128|170=>141|169=>130|263=>119|264=>120|206=>143|240=>139|241=>150|276=>149|277=>156|n=>n,fun|9=>9|3=>3|4=>4|20=>20|0=>0|46=>112|109=>197|5=>5|72=>228|76=>235|51=>217|146=>218|53=>39|148=>220|70=>226|37=>129|75=>234|127=>244|164=>251|80=>208|n=>n,fun|n=>n⟩
theorem Tryz.lays105:Go.Proofs.Lays.n105 Tryz.prog Tryz.lays105_ren:={
 mixed:=by kernel_rfl
 f99:=Tryz.func133.trans (congrArg some (by kernel_rfl))
 f105:=Tryz.func129.trans (congrArg some (by kernel_rfl))
 f165:=Tryz.func140.trans (congrArg some (by kernel_rfl))
 f166:=Tryz.func128.trans (congrArg some (by kernel_rfl))
 f169:=Tryz.func130.trans (congrArg some (by kernel_rfl))
 f170:=Tryz.func141.trans (congrArg some (by kernel_rfl))
 f206:=Tryz.func143.trans (congrArg some (by kernel_rfl))
 f212:=Tryz.func100.trans (congrArg some (by kernel_rfl))
 f240:=Tryz.func139.trans (congrArg some (by kernel_rfl))
 f241:=Tryz.func150.trans (congrArg some (by kernel_rfl))
 f263:=Tryz.func119.trans (congrArg some (by kernel_rfl))
 f264:=Tryz.func120.trans (congrArg some (by kernel_rfl))
 f276:=Tryz.func149.trans (congrArg some (by kernel_rfl))
 f277:=Tryz.func156.trans (congrArg some (by kernel_rfl))
 t0:=Tryz.underlying0
 a0:=Tryz.isAgg0
 z0:=Tryz.sizeOf0
 v0:=Tryz.zeroValue0
 t3:=Tryz.underlying3
 a3:=Tryz.isAgg3
 z3:=Tryz.sizeOf3
 v3:=Tryz.zeroValue3
 t4:=Tryz.underlying4
 a4:=Tryz.isAgg4
 z4:=Tryz.sizeOf4
 v4:=Tryz.zeroValue4
 t5:=Tryz.underlying5
 a5:=Tryz.isAgg5
 z5:=Tryz.sizeOf5
 v5:=Tryz.zeroValue5
 t9:=Tryz.underlying9
 a9:=Tryz.isAgg9
 z9:=Tryz.sizeOf9
 v9:=Tryz.zeroValue9
 t20:=Tryz.underlying20
 a20:=Tryz.isAgg20
 z20:=Tryz.sizeOf20
 v20:=Tryz.zeroValue20
 t37:=Tryz.underlying129
 a37:=Tryz.isAgg129
 z37:=Tryz.sizeOf129
 v37:=Tryz.zeroValue129
 t46:=Tryz.underlying112
 a46:=Tryz.isAgg112
 z46:=Tryz.sizeOf112
 v46:=Tryz.zeroValue112
 t51:=Tryz.underlying217
 a51:=Tryz.isAgg217
 z51:=Tryz.sizeOf217
 v51:=Tryz.zeroValue217
 t53:=Tryz.underlying39
 a53:=Tryz.isAgg39
 z53:=Tryz.sizeOf39
 v53:=Tryz.zeroValue39
 t70:=Tryz.underlying226
 a70:=Tryz.isAgg226
 z70:=Tryz.sizeOf226
 v70:=Tryz.zeroValue226
 t72:=Tryz.underlying228
 a72:=Tryz.isAgg228
 z72:=Tryz.sizeOf228
 v72:=Tryz.zeroValue228
 t75:=Tryz.underlying234
 a75:=Tryz.isAgg234
 z75:=Tryz.sizeOf234
 v75:=Tryz.zeroValue234
 t76:=Tryz.underlying235
 a76:=Tryz.isAgg235
 z76:=Tryz.sizeOf235
 v76:=Tryz.zeroValue235
 t109:=Tryz.underlying197
 a109:=Tryz.isAgg197
 z109:=Tryz.sizeOf197
 v109:=Tryz.zeroValue197
 t127:=Tryz.underlying244
 a127:=Tryz.isAgg244
 z127:=Tryz.sizeOf244
 v127:=Tryz.zeroValue244
 t146:=Tryz.underlying218
 a146:=Tryz.isAgg218
 z146:=Tryz.sizeOf218
 v146:=Tryz.zeroValue218
 t148:=Tryz.underlying220
 a148:=Tryz.isAgg220
 z148:=Tryz.sizeOf220
 v148:=Tryz.zeroValue220
 t164:=Tryz.underlying251
 a164:=Tryz.isAgg251
 z164:=Tryz.sizeOf251
 v164:=Tryz.zeroValue251 }
theorem Tryz.Builder_Extra_105:Builder.Extra Tryz.prog Tryz.lays105_ren:={
 sizeBuilder:=by kernel_rfl
 liesBuilder:=by kernel_rfl
 t5:=Tryz.underlying5
 a5:=Tryz.isAgg5
 z5:=Tryz.sizeOf5
 v5:=Tryz.zeroValue5
 infoByte:=by kernel_rfl
 cellsByte:=by kernel_rfl
 sizeByte:=by kernel_rfl
 neB5:=by decide }
open Go.RowKit Go.Lib in
theorem Tryz.strings_Repeat (s:ByteArray) (c:Nat) (w:World) (hc:c≤9223372036854775807) (hlen:s.size*c≤140737488355328) :
 Calls Tryz.prog 129 #[.string s,.int .i64 c] w fun e w'=>e=.returned (.string ⟨(Lib.repeatL s.data.toList c).toArray⟩)∧Below w.heap.size w w':=Any.strings_Repeat Tryz.lays105 Tryz.Builder_Extra_105 s c w hc hlen
end Go.Proofs
namespace Go.Num
open Go.Lib
abbrev B9:Nat:=1000000000
def val:List Nat→Nat
 |[]=>0
 |a::l=>a+B9*val l
def OQ (n:Nat):List Nat:=if h:n=0 then [] else (n % B9)::OQ (n / B9)
termination_by n
decreasing_by exact Nat.div_lt_self (by omega) (by decide)
theorem Ig:OQ 0=[]:=by rw [OQ];simp
theorem MI {n:Nat} (h:n≠0):OQ n=(n % B9)::OQ (n / B9):=by rw [OQ,dif_neg h]
theorem Y6 {n:Nat}:OQ n=[]↔n=0:=by
 constructor
 ·intro h
  by_cases h0:n=0
  ·exact h0
  ·rw [MI h0] at h;cases h
 ·intro h;rw [h,Ig]
def Xj (l:List Nat):Prop:=∀ a∈l,a<B9
theorem QC (n:Nat):val (OQ n)=n:=by
 induction n using Nat.strongRecOn with
 |ind n ih =>
  by_cases h:n=0
  ·rw [h,Ig];rfl
  ·rw [MI h,val,ih _ (Nat.div_lt_self (by omega) (by decide))]
   exact Nat.mod_add_div n B9
theorem J8 (n:Nat):Xj (OQ n):=by
 induction n using Nat.strongRecOn with
 |ind n ih =>
  by_cases h:n=0
  ·rw [h,Ig];intro a ha;cases ha
  ·rw [MI h]
   intro a ha
   rcases List.mem_cons.1 ha with rfl|ha
   ·exact Nat.mod_lt _ (by decide)
   ·exact ih _ (Nat.div_lt_self (by omega) (by decide)) a ha
def JG:List Nat→List Nat
 |[]=>[]
 |a::t=>if JG t=[]∧a=0 then [] else a::JG t
theorem aZ {l:List Nat} (h:Xj l):JG l=OQ (val l):=by
 induction l with
 |nil=>rw [val,Ig];rfl
 |cons a t ih =>
  have ha:a<B9:=h a (by simp)
  have ih:=ih (fun x hx=>h x (by simp [hx]))
  simp only [JG,val]
  rw [ih]
  by_cases h0:val t=0∧a=0
  ·rw [if_pos ⟨Y6.2 h0.1,h0.2⟩,h0.1,h0.2];simp [Ig]
  ·rw [if_neg (fun h1=>h0 ⟨Y6.1 h1.1,h1.2⟩)]
   have hne:a+B9*val t≠0:=fun e=>h0 ⟨by
    rcases Nat.eq_zero_or_pos (val t) with h1|h1
    ·exact h1
    ·have:=Nat.mul_le_mul_left B9 h1;simp only [B9] at *;omega,by omega⟩
   rw [MI hne,Nat.add_mul_mod_self_left,Nat.mod_eq_of_lt ha,Nat.add_mul_div_left _ _ (by decide),Nat.div_eq_of_lt ha,Nat.zero_add]
theorem Rw (l:List Nat):JG (l++[0])=JG l:=by
 induction l with
 |nil=>rfl
 |cons a t ih=>simp only [List.cons_append,JG,ih]
theorem Xg (l:List Nat) {x:Nat} (hx:x≠0):JG (l++[x])=l++[x]:=by
 induction l with
 |nil=>simp [JG,hx]
 |cons a t ih=>simp only [List.cons_append,JG,ih];rw [if_neg];intro h;simp at h
theorem val_append (l r:List Nat):val (l++r)=val l+B9 ^ l.length*val r:=by
 induction l with
 |nil=>simp [val]
 |cons a t ih=>simp only [List.cons_append,val,ih,List.length_cons,Nat.pow_succ];rw [Nat.mul_add,← Nat.mul_assoc,Nat.mul_comm B9 (B9 ^ _),Nat.add_assoc]
theorem XE (n:Nat):val (List.replicate n 0)=0:=by
 induction n with
 |zero=>rfl
 |succ n ih=>simp [List.replicate_succ,val,ih]
theorem lZ (l:List Nat):∀ (i x:Nat),i<l.length→val (l.set i x)+(l[i]?.getD 0)*B9 ^ i=val l+x*B9 ^ i:=by
 induction l with
 |nil=>intro i x h;simp at h
 |cons a t ih =>
  intro i x h
  cases i with
  |zero=>simp [val];omega
  |succ i =>
   have:=ih i x (by simpa using h)
   simp only [List.set_cons_succ,val,List.getElem?_cons_succ,Nat.pow_succ]
   rw [← Nat.mul_assoc,← Nat.mul_assoc,Nat.mul_comm _ B9,Nat.mul_comm (x*B9 ^ i) B9,Nat.add_assoc,← Nat.mul_add,this,Nat.mul_add,Nat.add_assoc]
theorem kV {l:List Nat} (h:Xj l) {i x:Nat} (hx:x<B9):Xj (l.set i x):=fun a ha=>by
 rcases List.mem_or_eq_of_mem_set ha with h1|h1
 ·exact h a h1
 ·exact h1▸hx
theorem ZM {l:List Nat} (h:Xj l) (i:Nat):l[i]?.getD 0<B9:=by
 cases hi:l[i]? with
 |none=>decide
 |some a=>exact h a (List.mem_of_getElem? hi)
def D (k u:Nat):List UInt8:=(List.range k).map fun t=>dg u (k-1-t)
theorem Ea (k u:Nat):(D k u).length=k:=by simp [D]
theorem JK (k u t:Nat) (h:t<k):(D k u)[t]?=some (dg u (k-1-t)):=by
 unfold D
 rw [List.getElem?_map,List.getElem?_range h]
 rfl
theorem Ej (u:Nat):decDigits u=D (nDigits u) u:=decDigits_eq u
theorem a2d {a m j:Nat} (hj:j<9):dg (a+B9*m) j=dg a j:=by
 unfold dg
 congr 2
 have hB:B9=10 ^ j*10 ^ (9-j):=by rw [← Nat.pow_add,show j+(9-j)=9 by omega]
 rw [hB,Nat.mul_assoc,Nat.add_mul_div_left _ _ (Nat.pow_pos (by decide))]
 rw [show 9-j=(8-j)+1 by omega,Nat.pow_succ,Nat.mul_comm (10 ^ (8-j)) 10,Nat.mul_assoc,Nat.add_mul_mod_self_left]
theorem xH {a m j:Nat} (ha:a<B9):dg (a+B9*m) (j+9)=dg m j:=by
 unfold dg
 congr 2
 rw [Nat.pow_add,Nat.mul_comm (10 ^ j),← Nat.div_div_eq_div_mul,show (10:Nat) ^ 9=B9 from rfl,Nat.add_mul_div_left _ _ (by decide),Nat.div_eq_of_lt ha,Nat.zero_add]
theorem wY {a m p:Nat} (ha:a<B9):D (p+9) (a+B9*m)=D p m++D 9 a:=by
 apply List.ext_getElem?
 intro t
 by_cases h1:t<p
 ·rw [JK _ _ _ (by omega),List.getElem?_append_left (by rw [Ea];exact h1),JK _ _ _ h1]
  rw [show p+9-1-t=(p-1-t)+9 by omega,xH ha]
 ·rw [List.getElem?_append_right (by rw [Ea];omega),Ea]
  by_cases h2:t<p+9
  ·rw [JK _ _ _ h2,JK _ _ _ (by omega)]
   rw [show p+9-1-t=9-1-(t-p) by omega,a2d (by omega)]
  ·rw [List.getElem?_eq_none (by rw [Ea];omega),List.getElem?_eq_none (by rw [Ea];omega)]
theorem FB:∀ (u:Nat),u≠0→10 ^ (nDigits u-1)≤u:=by
 intro u
 induction u using Nat.strongRecOn with
 |ind u ih =>
  intro h0
  by_cases h:u<10
  ·rw [nDigits_small h];simp;omega
  ·rw [nDigits_big h]
   have:=ih (u / 10) (by omega) (by omega)
   have h1:=nDigits_pos (u / 10)
   rw [show nDigits (u / 10)+1-1=(nDigits (u / 10)-1)+1 by omega,Nat.pow_succ]
   omega
theorem Xt {a m:Nat} (ha:a<B9) (hm:m≠0):nDigits (a+B9*m)=nDigits m+9:=by
 have h1:=FB m hm
 have h2:=lt_pow_nDigits m
 have h3:=nDigits_pos m
 rw [show nDigits m+9=(nDigits m+8)+1 by omega]
 apply nDigits_unique
 ·rw [show nDigits m+8=9+(nDigits m-1) by omega,Nat.pow_add,show (10:Nat) ^ 9=B9 from rfl]
  have:=Nat.mul_le_mul_left B9 h1
  omega
 ·rw [show nDigits m+8+1=9+nDigits m by omega,Nat.pow_add,show (10:Nat) ^ 9=B9 from rfl]
  have:=Nat.mul_le_mul_left B9 h2
  rw [Nat.mul_succ] at this
  omega
theorem ny {a m:Nat} (ha:a<B9) (hm:m≠0):decDigits (a+B9*m)=decDigits m++D 9 a:=by
 rw [Ej,Ej,Xt ha hm,wY ha]
theorem yg {u j:Nat} (h:u<10 ^ j):dg u j=48:=by
 unfold dg
 rw [Nat.div_eq_of_lt h];rfl
theorem pad (k u:Nat) (h:nDigits u≤k):List.replicate (k-nDigits u) 48++decDigits u=D k u:=by
 rw [Ej]
 apply List.ext_getElem?
 intro t
 by_cases h1:t<k-nDigits u
 ·rw [List.getElem?_append_left (by simpa using h1),JK _ _ _ (by omega),List.getElem?_replicate,if_pos h1]
  rw [yg (Nat.lt_of_lt_of_le (lt_pow_nDigits u) (Nat.pow_le_pow_right (by decide) (by omega)))]
 ·rw [List.getElem?_append_right (by simp;omega),List.length_replicate]
  by_cases h2:t<k
  ·rw [JK _ _ _ h2,JK _ _ _ (by omega)]
   congr 2;omega
  ·rw [List.getElem?_eq_none (by rw [Ea];omega),List.getElem?_eq_none (by rw [Ea];omega)]
theorem Nh {a:Nat} (h:a<B9):nDigits a≤9:=by
 rcases Nat.eq_zero_or_pos a with h0|h0
 ·rw [h0,nDigits_small (by decide)];decide
 ·have:=FB a (by omega)
  rcases Nat.lt_or_ge 9 (nDigits a) with h1|h1
  ·have:10 ^ 9≤10 ^ (nDigits a-1):=Nat.pow_le_pow_right (by decide) (by omega)
   simp only [B9] at h;omega
  ·exact h1
def MP:List Nat→List UInt8
 |[]=>decDigits 0
 |[a]=>decDigits a
 |a::t=>MP t++D 9 a
theorem Wj {a:Nat} {t:List Nat} (h:t≠[]):MP (a::t)=MP t++D 9 a:=by
 cases t with
 |nil=>exact absurd rfl h
 |cons b t=>rfl
theorem X4 (n:Nat):MP (OQ n)=decDigits n:=by
 induction n using Nat.strongRecOn with
 |ind n ih =>
  by_cases h:n=0
  ·rw [h,Ig];rfl
  ·rw [MI h]
   by_cases h1:n / B9=0
   ·rw [h1,Ig]
    show decDigits (n % B9)=_
    congr 1
    have:=Nat.mod_add_div n B9
    rw [h1] at this;omega
   ·rw [Wj (by rw [Ne,Y6];exact h1),ih _ (Nat.div_lt_self (by omega) (by decide)),← ny (Nat.mod_lt _ (by decide)) h1,Nat.mod_add_div]
def parse (l:List UInt8):Nat:=l.foldl (fun v c=>10*v+(c.toNat-48)) 0
theorem WQ (l:List UInt8) (c:UInt8):parse (l++[c])=10*parse l+(c.toNat-48):=by simp [parse]
theorem Qz (u j:Nat):(dg u j).toNat=48+u / 10 ^ j % 10:=by
 unfold dg
 have:u / 10 ^ j % 10<10:=Nat.mod_lt _ (by decide)
 simp
 omega
theorem a1j (k u:Nat):D (k+1) u=D k (u / 10)++[dg u 0]:=by
 apply List.ext_getElem?
 intro t
 by_cases h1:t<k
 ·rw [JK _ _ _ (by omega),List.getElem?_append_left (by rw [Ea];exact h1),JK _ _ _ h1]
  rw [show k+1-1-t=(k-1-t)+1 by omega,dg_succ]
 ·rw [List.getElem?_append_right (by rw [Ea];omega),Ea]
  by_cases h2:t<k+1
  ·have:t=k:=by omega
   subst this
   rw [JK _ _ _ (by omega),Nat.sub_self,show t+1-1-t=0 by omega];rfl
  ·rw [List.getElem?_eq_none (by rw [Ea];omega),List.getElem?_eq_none (by simp;omega)]
theorem Qd:∀ (k u:Nat),parse (D k u)=u % 10 ^ k
 |0,u=>by simp [D,parse,Nat.mod_one]
 |k+1,u=>by
  rw [a1j,WQ,Qd k,Qz,Nat.pow_zero,Nat.div_one,Nat.add_sub_cancel_left,Nat.pow_succ,Nat.mul_comm (10 ^ k) 10,Nat.mod_mul,Nat.add_comm]
theorem dP (L u e c:Nat) (he:e≤L) (hc:c≤e):((D L u).take e).drop (e-c)=D c (u / 10 ^ (L-e)):=by
 apply List.ext_getElem?
 intro t
 rw [List.getElem?_drop]
 by_cases h:t<c
 ·rw [List.getElem?_take_of_lt (by omega),JK _ _ _ (by omega),JK _ _ _ h]
  unfold dg
  rw [Nat.div_div_eq_div_mul,← Nat.pow_add]
  rw [show L-e+(c-1-t)=L-1-(e-c+t) by omega]
 ·rw [List.getElem?_eq_none (by simp [Ea];omega),List.getElem?_eq_none (by rw [Ea];omega)]
end Go.Num
namespace Go.Num
open Go.Lib Go.Vm
theorem iH {l:List Nat} (h:Xj l) (i:Nat):gi l i<1000000000:=ZM h i
theorem OW (l:List Nat) (k:Nat) (h:k<l.length):val (l.take (k+1))=val (l.take k)+gi l k*B9 ^ k:=by
 have:l.take (k+1)=l.take k++[gi l k]:=by
  rw [List.take_succ_eq_append_getElem h];simp [gi,List.getElem?_eq_getElem h]
 rw [this,val_append,List.length_take,Nat.min_eq_left (by omega),val,val,Nat.mul_zero,Nat.add_zero,Nat.mul_comm]
theorem qF {out:List Nat} {i k a b carry V W:Nat} (hik:i+k<out.length) (h:val out+carry*B9 ^ (i+k)=V+a*B9 ^ i*W) :
 val (out.set (i+k) ((gi out (i+k)+a*b+carry) % B9))+(gi out (i+k)+a*b+carry) / B9*B9 ^ (i+(k+1))=V+a*B9 ^ i*(W+b*B9 ^ k):=by
 generalize hx:gi out (i+k)+a*b+carry=x
 have h1:=lZ out (i+k) (x % B9) hik
 have h2:x % B9+B9*(x / B9)=x:=Nat.mod_add_div x B9
 have h3:out[i+k]?.getD 0=gi out (i+k):=rfl
 rw [h3] at h1
 have e1:x / B9*B9 ^ (i+(k+1))=B9*(x / B9)*B9 ^ (i+k):=by
  rw [← Nat.add_assoc,Nat.pow_succ,Nat.mul_comm (B9 ^ (i+k)) B9,← Nat.mul_assoc,Nat.mul_comm (x / B9) B9]
 have e2:a*B9 ^ i*(W+b*B9 ^ k)=a*B9 ^ i*W+a*b*B9 ^ (i+k):=by
  rw [Nat.mul_add,Nat.pow_add]
  congr 1
  rw [Nat.mul_assoc,Nat.mul_assoc,← Nat.mul_assoc (B9 ^ i),Nat.mul_comm (B9 ^ i) b,Nat.mul_assoc]
 have e3:x*B9 ^ (i+k)=gi out (i+k)*B9 ^ (i+k)+a*b*B9 ^ (i+k)+carry*B9 ^ (i+k):=by
  rw [← hx,Nat.add_mul,Nat.add_mul]
 have e4:x % B9*B9 ^ (i+k)+B9*(x / B9)*B9 ^ (i+k)=x*B9 ^ (i+k):=by rw [← Nat.add_mul,h2]
 rw [e1,e2]
 omega
theorem yD {out:List Nat} {i n a carry V W:Nat} (hin:i+n<out.length) (h0:gi out (i+n)=0) (h:val out+carry*B9 ^ (i+n)=V+a*B9 ^ i*W) :
 val (out.set (i+n) (gi out (i+n)+carry))=V+a*B9 ^ i*W:=by
 have h1:=lZ out (i+n) (gi out (i+n)+carry) hin
 have h3:out[i+n]?.getD 0=gi out (i+n):=rfl
 rw [h3,h0,Nat.zero_mul,Nat.zero_add] at h1
 rw [h0,Nat.zero_add]
 omega
theorem Rn (l:List Nat) (i j x:Nat) (hi:i<l.length):gi (l.set i x) j=if i=j then x else gi l j:=by
 simp only [gi,List.getElem?_set]
 split
 ·rename_i h;subst h;simp [hi]
 ·rfl
theorem LV (n j:Nat):gi (List.replicate n (0:Nat)) j=0:=by
 simp only [gi,List.getElem?_replicate]
 split<;>rfl
theorem Xm (n:Nat):Xj (List.replicate n 0):=fun a ha=>by
 rw [List.eq_of_mem_replicate ha];decide
theorem parse_snoc' (l:List UInt8) (k:Nat) (h:k<l.length):parse (l.take (k+1))=10*parse (l.take k)+((gi l k).toNat-48):=by
 have:l.take (k+1)=l.take k++[gi l k]:=by
  rw [List.take_succ_eq_append_getElem h];simp [gi,List.getElem?_eq_getElem h]
 rw [this,WQ]
theorem fH:∀ (l:List UInt8),(∀ c∈l,48≤c.toNat∧c.toNat≤57)→parse l<10 ^ l.length:=by
 intro l h
 have key:∀ k,k≤l.length→parse (l.take k)<10 ^ k:=by
  intro k
  induction k with
  |zero=>intro _;simp [parse]
  |succ k ih =>
   intro hk
   have hm:gi l k∈l:=by simp only [gi,List.getElem?_eq_getElem (show k<l.length by omega),Option.getD_some];exact List.getElem_mem _
   have:=h _ hm
   have:=ih (by omega)
   rw [parse_snoc' l k (by omega),Nat.pow_succ]
   omega
 have:=key l.length (Nat.le_refl _)
 rwa [List.take_length] at this
theorem ZL (k u:Nat):∀ c∈D k u,48≤c.toNat∧c.toNat≤57:=fun c hc=>by
 unfold D at hc
 obtain ⟨t,_,rfl⟩:=List.mem_map.1 hc
 rw [Qz]
 have:=Nat.mod_lt (u / 10 ^ (k-1-t)) (show 0<10 by decide)
 omega
theorem Jc (u:Nat):∀ c∈decDigits u,48≤c.toNat∧c.toNat≤57:=by rw [Ej];exact ZL _ _
def ZH (n j:Nat):Nat:=n / B9 ^ j % B9
def limbs (n:Nat):Nat→List Nat
 |0=>[]
 |k+1=>limbs n k++[ZH n k]
theorem KP (n:Nat):∀ k,(limbs n k).length=k
 |0=>rfl
 |k+1=>by simp [limbs,KP n k]
theorem Yg (n:Nat):∀ k,Xj (limbs n k)
 |0=>fun a h=>by cases h
 |k+1=>fun a h=>by
  rcases List.mem_append.1 h with h|h
  ·exact Yg n k a h
  ·rw [List.mem_singleton.1 h];exact Nat.mod_lt _ (by decide)
theorem Yp (n:Nat):∀ k,val (limbs n k)=n % B9 ^ k
 |0=>by simp [limbs,val,Nat.mod_one]
 |k+1=>by
  rw [limbs,val_append,KP,Yp n k,val,val,Nat.mul_zero,Nat.add_zero,ZH,Nat.pow_succ,Nat.mod_mul]
theorem ig {n k:Nat} (h:n<B9 ^ k):JG (limbs n k)=OQ n:=by
 rw [aZ (Yg n k),Yp,Nat.mod_eq_of_lt h]
theorem iY (n:Nat):∀ k,n<B9 ^ k→(OQ n).length≤k:=by
 induction n using Nat.strongRecOn with
 |ind n ih =>
  intro k hk
  by_cases h:n=0
  ·rw [h,Ig];exact Nat.zero_le _
  ·rw [MI h]
   cases k with
   |zero=>simp at hk;omega
   |succ k =>
    have:=ih (n / B9) (Nat.div_lt_self (by omega) (by decide)) k (by rw [Nat.pow_succ] at hk;exact Nat.div_lt_of_lt_mul (by rw [Nat.mul_comm];exact hk))
    simp;omega
theorem zA:∀ (k a b:Nat),a<10 ^ k→b<10 ^ k→compareBytes (D k a) (D k b)=if a<b then -1 else if b<a then 1 else 0
 |0,a,b,ha,hb=>by
  simp at ha hb;subst ha;subst hb;rfl
 |k+1,a,b,ha,hb=>by
  have hD:∀ u,D (k+1) u=dg u k::D k (u % 10 ^ k):=fun u=>by
   apply List.ext_getElem?
   intro t
   cases t with
   |zero=>rw [JK _ _ _ (by omega)];rfl
   |succ t =>
    rw [List.getElem?_cons_succ]
    by_cases ht:t<k
    ·rw [JK _ _ _ (by omega),JK _ _ _ ht]
     congr 1
     rw [show k+1-1-(t+1)=k-1-t by omega]
     unfold dg
     congr 2
     have hk:(10:Nat) ^ k=10 ^ (k-1-t)*(10*10 ^ t):=by rw [← Nat.pow_succ',← Nat.pow_add];congr 1;omega
     rw [hk,Nat.mod_mul_right_div_self,Nat.mod_mul_right_mod]
    ·rw [List.getElem?_eq_none (by rw [Ea];omega),List.getElem?_eq_none (by rw [Ea];omega)]
  have hp:0<10 ^ k:=Nat.pow_pos (by decide)
  have ih:=zA k (a % 10 ^ k) (b % 10 ^ k) (Nat.mod_lt _ hp) (Nat.mod_lt _ hp)
  rw [Nat.pow_succ] at ha hb
  have ea:=Nat.mod_add_div a (10 ^ k)
  have eb:=Nat.mod_add_div b (10 ^ k)
  have ha9:a / 10 ^ k<10:=Nat.div_lt_of_lt_mul ha
  have hb9:b / 10 ^ k<10:=Nat.div_lt_of_lt_mul hb
  have da:(dg a k).toNat=48+a / 10 ^ k:=by rw [Qz,Nat.mod_eq_of_lt ha9]
  have db:(dg b k).toNat=48+b / 10 ^ k:=by rw [Qz,Nat.mod_eq_of_lt hb9]
  have la:a % 10 ^ k<10 ^ k:=Nat.mod_lt _ hp
  have lb:b % 10 ^ k<10 ^ k:=Nat.mod_lt _ hp
  rw [hD a,hD b]
  simp only [compareBytes,UInt8.lt_iff_toNat_lt,da,db]
  rcases Nat.lt_trichotomy (a / 10 ^ k) (b / 10 ^ k) with h|h|h
  ·rw [if_pos (by omega)]
   have:=Nat.mul_le_mul_left (10 ^ k) (show a / 10 ^ k+1≤b / 10 ^ k from h)
   rw [Nat.mul_succ] at this
   rw [if_pos (by omega)]
  ·rw [if_neg (by omega),if_neg (by omega),ih]
   rw [h] at ea
   have e1:(a % 10 ^ k<b % 10 ^ k)=(a<b):=propext (by omega)
   have e2:(b % 10 ^ k<a % 10 ^ k)=(b<a):=propext (by omega)
   simp only [e1,e2]
  ·have:=Nat.mul_le_mul_left (10 ^ k) (show b / 10 ^ k+1≤a / 10 ^ k from h)
   rw [Nat.mul_succ] at this
   rw [if_neg (by omega),if_pos (by omega),if_neg (by omega),if_pos (by omega)]
theorem QU {a b:Nat} (h:nDigits a<nDigits b):a<b:=by
 have h1:=lt_pow_nDigits a
 have hb0:b≠0:=fun e=>by
  have e0:nDigits 0=1:=nDigits_small (by decide)
  rw [e,e0] at h;have:=nDigits_pos a;omega
 have h2:=FB b hb0
 have:10 ^ nDigits a≤10 ^ (nDigits b-1):=Nat.pow_le_pow_right (by decide) (by omega)
 omega
theorem zi (a n k:Nat):(a ^ (n / 2 ^ (k+1)))*(a ^ (n / 2 ^ (k+1)))*(if n / 2 ^ k % 2=1 then a else 1)=a ^ (n / 2 ^ k):=by
 have h:n / 2 ^ (k+1)=n / 2 ^ k / 2:=by rw [Nat.pow_succ,Nat.div_div_eq_div_mul]
 rw [h,← Nat.pow_add]
 generalize n / 2 ^ k=m
 split
 ·rw [← Nat.pow_succ];congr 1;omega
 ·rw [Nat.mul_one];congr 1;omega
end Go.Num
namespace Go.Proofs.YtdabojnmoejilaaGreatDoor
open Go Go.Proofs Go.Shelf Go.RowKit Go.Sort Go.Lib
theorem Xv (u:Nat) (hu64:u<18446744073709551616) (w:World) (htab:Lib.TabIs Tryz.prog w "internal/strconv.uint64pow10" .u64 Lib.pow10Tab) :
 Calls Tryz.prog 138 #[.int .u64 u,.int .i64 10] w fun e w'=>e=.returned (.string ⟨(Lib.decDigits u).toArray⟩)∧Below w.heap.size w w':=by
 by_cases hs:u<100
 ·have hw:IntKind.i64.wrap (u:Int)=(u:Int):=by rw [IntKind.wrap_i64];omega
  go_enter Tryz.func138,Tryz.ntmps138
  go_wp2_with (go_at_call 145;refine (Tryz.internal_strconv_small u hs _).mono ?_;rintro e w' ⟨rfl,rfl⟩)
  go_ret
  exact ⟨rfl,Below.refl _ _⟩
 ·have hu1:1≤u:=by omega
  have hnd20:Lib.nDigits u≤20:=by have:=Lib.numDigits_eq u hu1 hu64;split at this<;>omega
  have hal:Tryz.prog.arrayLen 246=24:=by kernel_rfl
  have hsl:∀ W,(Instr.sliceAt 246 (.pointer (some ⟨w.heap.size,0,none⟩)) none (some (.int .i64 (Lib.nDigits u:Int))) none).run Tryz.prog W=.ok (.slice (some ⟨w.heap.size,0,none⟩) (Lib.nDigits u) 24) W:=fun W=>by
   rw [run_sliceAt_array_h W 246 ⟨w.heap.size,0,none⟩ (by simp [Program.arrayLen,Program.elem,Tryz.underlying246]) .i64 (Lib.nDigits u:Int) (by omega) (by rw [hal];omega)]
   go_simp
  have hH0:=Lib.holds_zero0 w 246 (Lib.nDigits u) (by omega)
  have hfmt:=Tryz.internal_strconv_formatBase10 w.heap.size 0 24 u (Array.replicate (Lib.nDigits u) 0) (w.alloc (.cells Lib.zeros24 246)) hH0 (by rw [Array.size_replicate];exact Lib.lt_pow_nDigits u) hu64 (by rw [Array.size_replicate];omega)
  rw [Array.size_replicate] at hfmt
  have HH0:=Lib.hid hH0
  clear hH0 hal
  go_enter Tryz.func138,Tryz.ntmps138
  go_wp2_with (go_at_call 146;refine (Tryz.internal_strconv_numDigits u hu1 hu64 _ (Lib.tabIs_alloc htab _)).mono ?_;rintro e w' ⟨rfl,rfl⟩)
  go_at_call 147
  refine hfmt.mono ?_
  rintro e w' ⟨rfl,k,v',dk,rfl,hF⟩
  have hcv:(convert 129 9 (.slice (some ⟨w.heap.size,0,none⟩) (Lib.nDigits u) 24)).run Tryz.prog ((putRow (fun (b:UInt8)=>Value.int .u8 (b.toNat:Int)) (w.alloc (.cells Lib.zeros24 246)) w.heap.size 0 dk).drewN k)=.ok (.string ⟨(Lib.decDigits u).toArray⟩) ((putRow (fun (b:UInt8)=>Value.int .u8 (b.toNat:Int)) (w.alloc (.cells Lib.zeros24 246)) w.heap.size 0 dk).drewN k):=by
   have h:=run_convert_bytes_back (P:=Tryz.prog) ((putRow (fun (b:UInt8)=>Value.int .u8 (b.toNat:Int)) (w.alloc (.cells Lib.zeros24 246)) w.heap.size 0 dk).drewN k) 129 9 5 ⟨w.heap.size,0,none⟩ 24 (Lib.decDigits u) Tryz.underlying129 Tryz.underlying5 Tryz.underlying9 (fun j hj=>by
    rw [Lib.row_is_numeral hF j hj,Lib.add_plain,World.cell?_drewN]
    exact cell?_putRow (fun (b:UInt8)=>Value.int .u8 (b.toNat:Int)) _ w.heap.size 0 _ dk HH0.out (by rw [hF.size,Array.size_replicate]) j (by rw [hF.size];rw [Lib.decDigits_length] at hj;exact hj))
   rw [Lib.decDigits_length] at h
   exact h
  go_wp2
  go_ret
  obtain ⟨os,eo⟩:=Lib.fin_at w (.cells Lib.zeros24 246) dk k 0
  refine ⟨rfl,?_⟩
  rw [eo]
  exact Lib.below_grow _ w (Nat.le_refl _) _ _
theorem Vd (u:Nat) (hu64:u<18446744073709551616) (w:World) (htab:Lib.TabIs Tryz.prog w "internal/strconv.uint64pow10" .u64 Lib.pow10Tab) :
 Calls Tryz.prog 127 #[.int .u64 u,.int .i64 10] w fun e w'=>e=.returned (.string ⟨(Lib.decDigits u).toArray⟩)∧Below w.heap.size w w':=by
 go_enter Tryz.func127,Tryz.ntmps127
 go_wp2_with (go_at_call 138;refine (Xv u hu64 _ htab).mono ?_;rintro e w' ⟨rfl,hb⟩)
 go_ret
 exact ⟨rfl,hb⟩
theorem JJ (B b:Nat) (bs:List Value) (s:ByteArray) (w:World) (h:Lib.IsBuilderF 228 5 B b bs w) (hlen:bs.length+s.size≤140737488355328) (hBw:B≤w.heap.size) :
 Calls Tryz.prog 128 #[.pointer (some ⟨b,0,none⟩),.string s] w fun e w'=>e=.returned (.tuple #[.int .i64 s.size,.nilIface])∧(Lib.BuilderAtF 228 5 B b (.pointer (some ⟨b,0,none⟩)) (bs++Lib.strCells s) w'∧Below B w w'∧Lib.OthersKept 5 (some b) w w') :=
 Any.Builder_WriteString_k (P:=Tryz.prog) (ρ:=Tryz.lays105_ren) { Tryz.lays105 with } Tryz.Builder_Extra_105 B b bs s w h hlen hBw
end Go.Proofs.YtdabojnmoejilaaGreatDoor
namespace Go.Proofs.YtdabojnmoejilaaGreatDoor
open Go Go.Proofs Go.Shelf Go.RowKit
attribute [local go_sem] Oper.semAt_some
def Kt {α:Type} (f:Nat→α) (k:Nat):List α:=(List.range k).map f
theorem JA {α:Type} (f:Nat→α) (k:Nat):Kt f (k+1)=Kt f k++[f k]:=by simp [Kt,List.range_succ]
theorem Zd {α:Type} (f:Nat→α) (k:Nat):(Kt f k).length=k:=by simp [Kt]
abbrev PL:Type:={ x:Nat×Nat // x.2<Num.B9 }
def Je (zs:List Nat) (j:Nat):PL:=⟨(zs.length-1-j,zs.getD (zs.length-1-j) 0 % Num.B9),Nat.mod_lt _ (by decide)⟩
theorem Yo {n:Int} (h:-9223372036854775808≤n) (h2:n<9223372036854775808):IntKind.i64.wrap n=n:=by rw [IntKind.wrap_i64];omega
def MJ (n₀ Bs:Nat) (W W':World):Prop:=Below n₀ W W'∧W'.heap[Bs]?=W.heap[Bs]?
theorem MJ.refl (n₀ Bs:Nat) (W:World):MJ n₀ Bs W W:=⟨Below.refl _ _,rfl⟩
theorem MJ.trans {n₀ Bs:Nat} {A B C:World} (h:MJ n₀ Bs A B) (k:MJ n₀ Bs B C):MJ n₀ Bs A C:=⟨h.1.trans k.1,k.2.trans h.2⟩
theorem Zj (F:Fence) (n:Nat) (h8:F.fn 137) (hro:F.round=none) (hn:1≤n) (l Bs n₀ b off cap:Nat) (zs:List Nat) (hreach:zs.length*8≤140737488351232) (hlim:Num.Xj zs) (hb:b<n₀) (J Jx:List PL→World→Prop)
 (hY:∀ pre (x:PL) W,J pre W→pre.length<zs.length→YieldAt F (n-1) Tryz.prog l #[.int .i64 (x.1.1:Int),.int .u64 (x.1.2:Int)] W fun e W' =>
  (e=.returned (.bool true)∧J (pre++[x]) W'∧MJ n₀ Bs W W')∨(e=.returned (.bool false)∧Jx (pre++[x]) W'))
 (W:World) (hBs:W.cell? ⟨Bs,0,none⟩=some (.slice (some ⟨b,off,none⟩) zs.length cap)) (hc:∀ j,j<zs.length→W.cell? ⟨b,off+j,none⟩=some (.int .u64 (zs.getD j 0:Int))) (h0:J [] W) :
 CallsIn F n Tryz.prog 137 #[.func (.yield l) #[] #[],.pointer (some ⟨Bs,0,none⟩)] W fun e W'=>(∃ v,e=.returned v) ∧
  ((∃ ys,ys=Kt (Je zs) zs.length∧J ys W')∨(∃ pre,(∃ k,k≤zs.length∧pre=Kt (Je zs) k)∧Jx pre W')):=by
 have hget:∀ j,zs.getD j 0 % Num.B9=zs.getD j 0:=fun j=>Nat.mod_eq_of_lt (by rw [List.getD_eq_getElem?_getD];exact Num.ZM hlim j)
 obtain ⟨len,hlen⟩:∃ len,zs.length=len:=⟨_,rfl⟩
 rw [hlen] at hreach hY hBs hc ⊢
 have hw0:IntKind.i64.wrap ((len:Int)-1)=(len:Int)-1:=Yo (by omega) (by omega)
 refine callsIn_of_wp Tryz.func137 rfl h8 ?_ hro
 simp only [Tryz.ntmps137,List.size_toArray,List.length_cons,List.length_nil,Nat.reduceAdd,Nat.reduceSub,Array.replicate_succ,Array.replicate_zero,List.push_toArray,List.append_toArray,List.nil_append,List.cons_append]
 gi_wp2
 gi_loopw [3] (fun i wr=>∃ k:Nat,k≤len∧i=.int .i64 ((len:Int)-1-k)∧J (Kt (Je zs) k) wr∧MJ n₀ Bs W wr)
  (fun i _=>(intOf i+1).toNat)
 case atStart=>exact ⟨0,Nat.zero_le _,by simp,h0,MJ.refl _ _ _⟩
 case round =>
  obtain ⟨k,hk,rfl,hJs,hnx⟩:=hrel
  have hBx:wr.cell? ⟨Bs,0,none⟩=some (.slice (some ⟨b,off,none⟩) len cap):=(World.cell?_of_block (a:=⟨Bs,0,none⟩) hnx.2).trans hBs
  by_cases hlt:k<len
  ·have hge:(0:Int)≤(len:Int)-1-k:=by omega
   have hcx:wr.cell? ⟨b,off+(len-1-k),none⟩=some (.int .u64 ((Je zs k).1.2:Int)):=by
    have:=(hnx.1.cell (p:=⟨b,off+(len-1-k),none⟩) hb).trans (hc (len-1-k) (by omega))
    rw [this];unfold Je;simp only [hlen,hget]
   obtain ⟨fn,tmps,assign,body,hy,hR⟩:=hY _ (Je zs k) wr hJs (by rw [Zd];exact hlt)
   have e1:((Je zs k).1.1:Int)=(len:Int)-1-k:=by show ((zs.length-1-k:Nat):Int)=_;omega
   rw [e1] at hy
   have hi1:((len:Int)-1-k)<len:=by omega
   have hi2:((len:Int)-1-k).toNat=len-1-k:=by omega
   have hw1:IntKind.i64.wrap ((len:Int)-1-k-1)=(len:Int)-1-((k+1:Nat):Int):=by rw [Yo (by omega) (by omega)];omega
   gi_wp2
   refine hR.mono ?_
   rintro e W3 (⟨rfl,hJ3,hk3⟩|⟨rfl,hJx3⟩)
   ·gi_wp2
    go_roundw
    case rel=>exact ⟨k+1,by omega,by first|rfl|simp [hw1]|(congr 1),by rw [JA];exact hJ3,hnx.trans hk3⟩
    case measure=>simp [intOf];omega
   ·gi_wp2
    refine bodyPost_ret (results_none rfl _ _ _) rfl ?_
    exact ⟨⟨_,rfl⟩,.inr ⟨_,⟨k+1,by omega,(JA _ _).symm⟩,hJx3⟩⟩
  ·obtain rfl:k=len:=by omega
   have hneg:¬ ((0:Int)≤(k:Int)-1-k):=by omega
   gi_wp2
   go_end0
   exact ⟨⟨_,rfl⟩,by first|exact .inl hJs|exact .inl ⟨_,rfl,hJs⟩⟩
theorem Z4 (F:Fence) (n:Nat) (h6:F.fn 126) (hro:F.round=none) (a:Option Addr) (len cap:Nat) (w:World) :
 CallsIn F n Tryz.prog 126 #[.slice a len cap] w fun e w'=>e=.returned (.func (.func 137) #[] #[.pointer (some ⟨w.heap.size,0,none⟩)])∧w'=w.alloc (.cells #[.slice a len cap] 205):=by
 refine callsIn_of_wp Tryz.func126 rfl h6 ?_ hro
 simp only [Tryz.ntmps126,List.size_toArray,List.length_cons,List.length_nil,Nat.reduceAdd,Nat.reduceSub,Array.replicate_succ,Array.replicate_zero,List.push_toArray,List.append_toArray,List.nil_append,List.cons_append]
 gi_wp2
 go_ret
 exact ⟨rfl,rfl⟩
theorem jw (F:Fence) (n:Nat) (h8:F.fn 137) (hro:F.round=none) (hn:1≤n) (Bs n₀ b off cap:Nat) (zs:List Nat) (hreach:zs.length*8≤140737488351232) (hlim:Num.Xj zs) (hb:b<n₀) (w:World) (hBs:Bs<w.heap.size) (hn₀:n₀≤w.heap.size)
 (hcB:w.cell? ⟨Bs,0,none⟩=some (.slice (some ⟨b,off,none⟩) zs.length cap)) (hc:∀ j,j<zs.length→w.cell? ⟨b,off+j,none⟩=some (.int .u64 (zs.getD j 0:Int))) :
 SeqStopsK F n Tryz.prog 137 #[.pointer (some ⟨Bs,0,none⟩)] (fun x:PL=>#[Value.int .i64 (x.1.1:Int),Value.int .u64 (x.1.2:Int)]) (MJ n₀ Bs) (fun ys=>ys=Kt (Je zs) zs.length)
  (fun pre=>∃ k,k≤zs.length∧pre=Kt (Je zs) k) zs.length w:=fun l J Jx W hW _ _ hY h0 =>
 Zj F n h8 hro hn l Bs n₀ b off cap zs hreach hlim hb J Jx hY W ((hW.cell (p:=⟨Bs,0,none⟩) hBs).trans hcB) (fun j hj=>(hW.cell (p:=⟨b,off+j,none⟩) (by show b<w.heap.size;omega)).trans (hc j hj)) h0
end Go.Proofs.YtdabojnmoejilaaGreatDoor
namespace Go.Proofs.YtdabojnmoejilaaGreatDoor
open Go Go.Proofs Go.Shelf Go.RowKit
attribute [local go_sem] Oper.semAt_some
def NZ (len:Nat) (x:PL):List UInt8:=if (x.1.1:Int)<(len:Int)-1 then Lib.repeatL [48] (9-Lib.nDigits x.1.2)++Lib.decDigits x.1.2 else Lib.decDigits x.1.2
def Pg (len:Nat) (pre:List PL):List UInt8:=pre.flatMap (NZ len)
theorem KH (len:Nat) (pre:List PL) (x:PL):Pg len (pre++[x])=Pg len pre++NZ len x:=by simp [Pg]
theorem TQ (n:Nat):(Lib.repeatL [48] n).length=n:=by
 induction n with
 |zero=>simp [Lib.repeatL]
 |succ n ih=>simp_all [Lib.repeatL]
theorem jB (len:Nat) (x:PL):(NZ len x).length≤9:=by
 have:=Num.Nh x.2
 unfold NZ
 split
 ·rw [List.length_append,TQ,Lib.decDigits_length];omega
 ·rw [Lib.decDigits_length];omega
theorem rV (len:Nat) (pre:List PL):(Pg len pre).length≤9*pre.length:=by
 induction pre with
 |nil=>simp [Pg]
 |cons x pre ih =>
  have:=jB len x
  simp only [Pg,List.flatMap_cons,List.length_append,List.length_cons] at ih ⊢
  omega
def PZ (N:Nat) (sv:Value) (bs:List UInt8) (W:World):Prop :=
 Lib.IsBuilderF 228 5 (N+1) (N+1) (Lib.byteCells bs) W∧W.heap[N]?=some (.cells #[sv] 205 (0,0))∧W.heap[N+2]?=some (.cells #[sv] 205 (0,0))
theorem JB {T e:TypeId} {B b:Nat} {p:Value} {bs:List Value} {w w':World} (h:Lib.BuilderAtF T e B b p bs w) (hk:∀ (k:Nat) (o:Obj),w.heap[k]?=some o→o.isCells=true→w'.heap[k]?=some o):Lib.BuilderAtF T e B b p bs w':=by
 obtain ⟨hB,v,hb,hown,hne⟩:=h
 refine ⟨hB,v,hk _ _ hb rfl,⟨hown.1,?_⟩,hne⟩
 rcases hown.2 with h0|⟨g,cap,cur,fz,hv,hbg,hg,r⟩
 ·exact .inl h0
 ·exact .inr ⟨g,cap,cur,fz,hv,hbg,hk _ _ hg rfl,r⟩
theorem JQ {T e:TypeId} {B b:Nat} {bs:List Value} {w w':World} (h:Lib.IsBuilderF T e B b bs w) (hk:∀ (k:Nat) (o:Obj),w.heap[k]?=some o→o.isCells=true→w'.heap[k]?=some o):Lib.IsBuilderF T e B b bs w' :=
 h.elim (fun x=>.inl (JB x hk)) (fun x=>.inr (JB x hk))
theorem gZ {β:Type} (N:Nat) (sv:Value) (f:β→List UInt8):Own (fun (pre:β) W=>PZ N sv (f pre) W):=fun s W W' row hs hg hr=>by
 have hk:∀ (k:Nat) (o:Obj),W.heap[k]?=some o→o.isCells=true→W'.heap[k]?=some o:=fun k o ho hc=>(grownBy_keeps_cells hg hr ho hc).trans ho
 exact ⟨JQ hs.1 hk,hk _ _ hs.2.1 rfl,hk _ _ hs.2.2 rfl⟩
theorem NG {W W':World} (h:Below W.heap.size W W') (B:Nat):KeepsFrom B W W':=⟨h.size,fun k o _ hk _=>(h.block k (by
 rcases Nat.lt_or_ge k W.heap.size with h1|h1
 ·exact h1
 ·rw [Array.getElem?_eq_none h1] at hk;cases hk)).trans hk⟩
theorem lt_of_heap {W:World} {k:Nat} {o:Obj} (h:W.heap[k]?=some o):k<W.heap.size:=by
 rcases Nat.lt_or_ge k W.heap.size with h1|h1
 ·exact h1
 ·rw [Array.getElem?_eq_none h1] at h;cases h
theorem Qq {N:Nat} {sv:Value} {bs:List UInt8} {W W':World} (h:PZ N sv bs W) (hb:Below W.heap.size W W'):PZ N sv bs W':=by
 have hk:∀ (k:Nat) (o:Obj),W.heap[k]?=some o→o.isCells=true→W'.heap[k]?=some o:=fun k o ho _=>(hb.block k (lt_of_heap ho)).trans ho
 exact ⟨JQ h.1 hk,hk _ _ h.2.1 rfl,hk _ _ h.2.2 rfl⟩
theorem NC {n₀ Bs:Nat} {W W':World} (h:Below W.heap.size W W') (hn:n₀≤W.heap.size) (hB:Bs<W.heap.size):MJ n₀ Bs W W':=⟨h.mono hn,h.block Bs hB⟩
theorem MF {N:Nat} {sv:Value} {bs:List UInt8} {s:ByteArray} {W W':World} (h:PZ N sv bs W) (h1:Lib.BuilderAtF 228 5 (N+1) (N+1) (.pointer (some ⟨N+1,0,none⟩)) (Lib.byteCells bs++Lib.strCells s) W') (h2:Below (N+1) W W') (h3:Lib.OthersKept 5 (some (N+1)) W W') :
 PZ N sv (bs++s.data.toList) W'∧KeepsFrom (N+3) W W'∧MJ N (N+2) W W':=by
 have hb:∃ c t f,W.heap[N+1]?=some (.cells c t f):=by
  rcases h.1 with ⟨_,v,hb,_⟩|⟨_,v,hb,_⟩<;>exact ⟨_,_,_,hb⟩
 have k2:W'.heap[N+2]?=some (.cells #[sv] 205 (0,0)):=h3 _ _ h.2.2 (by simp) (fun c fz e=>by
  have:=(Obj.cells.inj e).2.1
  exact absurd this (by decide))
 refine ⟨⟨.inr ?_,?_,k2⟩,⟨h2.size,fun k o _ hk ho=>h3 k o hk (fun e=>?_) (fun c fz e=>by rw [e] at ho;cases ho)⟩,⟨h2.mono (by omega),by rw [k2,h.2.2]⟩⟩
 ·have e:Lib.byteCells bs++Lib.strCells s=Lib.byteCells (bs++s.data.toList):=by simp [Lib.byteCells,Lib.strCells]
  rw [← e];exact h1
 ·rw [h2.block N (by omega)];exact h.2.1
 ·cases e
  obtain ⟨c,t,f,hc⟩:=hb
  rw [hc] at hk;cases hk;cases ho
theorem tab_below {P:Program} {w w':World} {name:String} {k:IntKind} {zs:List Int} (h:Lib.TabIs P w name k zs) (hb:Below w.heap.size w w'):Lib.TabIs P w' name k zs:=(Lib.tabBelow_of_tabIs h) w' hb
theorem jK (n:Nat):Lib.repeatL [48] n=List.replicate n 48:=by
 induction n with
 |zero=>rfl
 |succ n ih=>simp [Lib.repeatL,ih,List.replicate_succ]
theorem Wy (zs:List Nat) (hl:Num.Xj zs) (j:Nat) (hj:j<zs.length):NZ zs.length (Je zs j)=if 0<j then Num.D 9 (zs.getD (zs.length-1-j) 0) else Lib.decDigits (zs.getD (zs.length-1-j) 0):=by
 have hb:zs.getD (zs.length-1-j) 0<Num.B9:=by rw [List.getD_eq_getElem?_getD];exact Num.ZM hl _
 have e2:(Je zs j).1.2=zs.getD (zs.length-1-j) 0:=Nat.mod_eq_of_lt hb
 have e1:(Je zs j).1.1=zs.length-1-j:=rfl
 unfold NZ
 rw [e1,e2]
 by_cases h:0<j
 ·rw [if_pos (by omega),if_pos h,jK,Num.pad 9 _ (Num.Nh hb)]
 ·rw [if_neg (by omega),if_neg h]
theorem bI:∀ (zs:List Nat),Num.Xj zs→zs≠[]→Pg zs.length (Kt (Je zs) zs.length)=Num.MP zs
 |[],_,h=>absurd rfl h
 |a::t,hl,_=>by
  have hlt:Num.Xj t:=fun x hx=>hl x (by simp [hx])
  have hrec:∀ k,k≤t.length→Pg (a::t).length (Kt (Je (a::t)) k)=Pg t.length (Kt (Je t) k):=by
   intro k
   induction k with
   |zero=>intro _;rfl
   |succ k ih =>
    intro hk
    rw [JA,JA,KH,KH,ih (by omega),Wy _ hl k (by simp;omega),Wy t hlt k (by omega)]
    have:(a::t).length-1-k=(t.length-1-k)+1:=by simp;omega
    rw [this]
    simp only [List.getD_cons_succ]
  show Pg (a::t).length (Kt (Je (a::t)) (t.length+1))=_
  rw [JA,KH,hrec t.length (Nat.le_refl _),Wy _ hl t.length (by simp)]
  have e0:(a::t).length-1-t.length=0:=by simp
  rw [e0,List.getD_cons_zero]
  cases t with
  |nil=>rfl
  |cons b t =>
   rw [bI (b::t) hlt (by simp),if_pos (by simp)]
   exact (Num.Wj (by simp)).symm
theorem yB (b off cap:Nat) (zs:List Nat) (hlim:Num.Xj zs) (h0:zs≠[]) (hreach:zs.length*9≤140737488351232) (w:World) (hb:b<w.heap.size) (hc:∀ j,j<zs.length→w.cell? ⟨b,off+j,none⟩=some (.int .u64 (zs.getD j 0:Int)))
 (htab:Lib.TabIs Tryz.prog w "internal/strconv.uint64pow10" .u64 Lib.pow10Tab) :
 Calls Tryz.prog 111 #[.slice (some ⟨b,off,none⟩) zs.length cap] w fun e w'=>e=.returned (.string ⟨(Num.MP zs).toArray⟩)∧Below w.heap.size w w':=by
 have hpos:0<zs.length:=List.length_pos_iff.2 h0
 have hne0:¬ ((zs.length:Int)=0):=by omega
 have hall:=bI zs hlim h0
 obtain ⟨len,hlen⟩:∃ len,zs.length=len:=⟨_,rfl⟩
 rw [hlen] at hne0 hall
 refine (callsIn_wide (n:=6)).1 ?_
 refine callsIn_of_wp_marks Tryz.func111 rfl trivial ?_ rfl
 simp only [Tryz.ntmps111,List.size_toArray,List.length_cons,List.length_nil,Nat.reduceAdd,Nat.reduceSub,Array.replicate_succ,Array.replicate_zero,List.push_toArray,List.append_toArray,List.nil_append,List.cons_append]
 rw [hlen]
 gi_wp2_with (refine ⟨trivial,?_⟩;gi_at_call 126;refine (Z4 Fence.wide _ trivial rfl _ _ _ _).mono ?_;rintro e w' ⟨rfl,rfl⟩)
 obtain ⟨W0,hW0⟩:∃ W0,((w.alloc (.cells #[.slice (some ⟨b,off,none⟩) len cap] 205)).alloc (.cells #[.pointer none,.slice none 0 0] 228)).alloc (.cells #[.slice (some ⟨b,off,none⟩) len cap] 205)=W0:=⟨_,rfl⟩
 have hB0:Below w.heap.size w W0:=by
  rw [← hW0]
  exact (((Below.refl _ w).alloc (Nat.le_refl _) _).alloc (by simp) _).alloc (by simp;omega) _
 have hs0:W0.heap.size=w.heap.size+3:=by rw [← hW0];simp
 have g0:W0.heap[w.heap.size]?=some (.cells #[.slice (some ⟨b,off,none⟩) len cap] 205 (0,0)):=by
  rw [← hW0];exact (Below.heap_alloc _ _ _ (by simp;omega)).trans ((Below.heap_alloc _ _ _ (by simp)).trans (World.alloc_heap_new w _))
 have g1:W0.heap[w.heap.size+1]?=some (.cells #[.pointer none,.slice none 0 0] 228 (0,0)):=by
  rw [← hW0];exact (Below.heap_alloc _ _ _ (by simp)).trans (by have:=World.alloc_heap_new (w.alloc (.cells #[.slice (some ⟨b,off,none⟩) len cap] 205)) (.cells #[.pointer none,.slice none 0 0] 228);rwa [World.size_alloc] at this)
 have g2:W0.heap[w.heap.size+2]?=some (.cells #[.slice (some ⟨b,off,none⟩) len cap] 205 (0,0)):=by
  rw [← hW0]
  have:=World.alloc_heap_new ((w.alloc (.cells #[.slice (some ⟨b,off,none⟩) len cap] 205)).alloc (.cells #[.pointer none,.slice none 0 0] 228)) (.cells #[.slice (some ⟨b,off,none⟩) len cap] 205)
  rwa [World.size_alloc,World.size_alloc] at this
 rw [hW0]
 have hI0:PZ w.heap.size (.slice (some ⟨b,off,none⟩) len cap) (Pg len []) W0 :=
  ⟨.inl ⟨Nat.le_refl _,_,g1,⟨rfl,.inl ⟨rfl,rfl⟩⟩,by simp [Value.ownBlock]⟩,g0,g2⟩
 have hcB:W0.cell? ⟨w.heap.size+2,0,none⟩=some (.slice (some ⟨b,off,none⟩) zs.length cap):=by rw [hlen];simp [World.cell?,g2]
 refine wpIn_rangeFunc_ownG rfl (by omega) (gf:=137) (lb:=#[.pointer (some ⟨w.heap.size+1+1,0,none⟩)]) rfl trivial (enters_of Tryz.func137 (by kernel_rfl) rfl)
  (jw Fence.wide _ trivial rfl (by omega) (w.heap.size+2) w.heap.size b off cap zs (by omega) hlim hb W0 (by omega) (by omega) hcB (fun j hj=>(hB0.cell (p:=⟨b,off+j,none⟩) hb).trans (hc j hj)))
  (fun h k=>h.trans k) (fun W l o o' hl _ _ _=>⟨⟨rfl,rfl,rfl,by simp,fun k hk=>World.putObj_heap_other (by omega)⟩,World.putObj_heap_other (by omega)⟩) (Below.refl _ _) (fun _=>rfl)
  (fun pre W=>PZ w.heap.size (.slice (some ⟨b,off,none⟩) len cap) (Pg len pre) W∧Below w.heap.size w W)
  (fun _ _ _=>False)
  (OwnFrom.and (Own.from (gZ w.heap.size _ (fun pre=>Pg len pre)) _) (ownFrom_below (Nat.le_refl _) (by omega)))
  (fun _ _ _ _ _ hs _ _=>hs)
  ⟨hI0,hB0⟩
  (fun x=>{ tmps:=#[.slice (some ⟨b,off,none⟩) len cap,.pointer (some ⟨w.heap.size,0,none⟩),.string ⟨#[]⟩,.pointer (some ⟨w.heap.size+1,0,none⟩),.int .i64 (x.1.1:Int),.int .u64 (x.1.2:Int),undef,.slice (some ⟨b,off,none⟩) len cap,.int .i64 len,.bool false,
   .slice (some ⟨b,off,none⟩) len cap,.func (.func 137) #[] #[.pointer (some ⟨w.heap.size+1+1,0,none⟩)],.int .i64 (x.1.1:Int),.int .u64 (x.1.2:Int),undef,undef,undef,undef,undef,undef,undef,undef,undef,undef,undef,undef,undef,undef,undef],defers:=[] }) ?assign ?body ?done ?stop
 case assign =>
  intro l x W K hK
  gi_wp2
  exact hK
 case body =>
  rintro l pre x W ⟨hT,hB⟩ hlt
  have a7v:x.1.2<18446744073709551616:=Nat.lt_trans x.2 (by decide)
  have hd9:=Num.Nh x.2
  have hsz:(ByteArray.mk (Lib.decDigits x.1.2).toArray).size=Lib.nDigits x.1.2:=by simp [ByteArray.size,Lib.decDigits_length]
  have hwl:IntKind.i64.wrap ((len:Int)-1)=(len:Int)-1:=Yo (by omega) (by omega)
  have hw9:IntKind.i64.wrap (9-(Lib.nDigits x.1.2:Int))=((9-Lib.nDigits x.1.2:Nat):Int):=by rw [Yo (by omega) (by omega)];omega
  have a7p:Lib.TabIs Tryz.prog W "internal/strconv.uint64pow10" .u64 Lib.pow10Tab:=tab_below htab hB
  have hal:=rV len pre
  have hcl:(Lib.byteCells (Pg len pre)).length≤9*pre.length:=by rw [Lib.byteCells_length];exact hal
  gi_wp2_with (refine ⟨trivial,?_⟩;gi_at_call 127;refine (CallsIn.inRound l (callsIn_wide.2 (Vd x.1.2 a7v _ a7p))).mono ?_;rintro e W1 ⟨rfl,hb1⟩;have hT1:=Qq hT hb1;have c1:W1.cell? ⟨w.heap.size,0,none⟩=some (.slice (some ⟨b,off,none⟩) len cap):=by simp [World.cell?,hT1.2.1])
  ·have hx:(x.1.1:Int)<(len:Int)-1:=by assumption
   refine ⟨trivial,(CallsIn.inRound l (callsIn_wide.2 (Tryz.strings_Repeat ⟨#[48]⟩ (9-Lib.nDigits x.1.2) W1 (by omega) (by
    have e1:(ByteArray.mk #[48]).size=1:=rfl
    rw [e1];omega)))).mono ?_⟩
   rintro e W2 ⟨rfl,hb2⟩
   have hT2:=Qq hT1 hb2
   have l2:=lt_of_heap hT2.2.2
   have hr1:(ByteArray.mk (Lib.repeatL [48] (9-Lib.nDigits x.1.2)).toArray).size=9-Lib.nDigits x.1.2:=by simp [ByteArray.size,TQ]
   gi_wp2_with fail
   refine ⟨trivial,(CallsIn.inRound l (callsIn_wide.2 (JJ (w.heap.size+1) (w.heap.size+1) _ ⟨(Lib.repeatL [48] (9-Lib.nDigits x.1.2)).toArray⟩ W2 hT2.1 (by rw [hr1];omega) (by omega)))).mono ?_⟩
   rintro e W3 ⟨rfl,h31,h32,h33⟩
   obtain ⟨hT3,kf3,kb3⟩:=MF hT2 h31 h32 h33
   have l3:=lt_of_heap hT3.2.2
   have hl3:(Lib.byteCells (Pg len pre++(ByteArray.mk (Lib.repeatL [48] (9-Lib.nDigits x.1.2)).toArray).data.toList)).length≤9*pre.length+(9-Lib.nDigits x.1.2):=by
    rw [Lib.byteCells_length,List.length_append]
    have:(ByteArray.mk (Lib.repeatL [48] (9-Lib.nDigits x.1.2)).toArray).data.toList.length=9-Lib.nDigits x.1.2:=hr1
    omega
   gi_wp2_with fail
   refine ⟨trivial,(CallsIn.inRound l (callsIn_wide.2 (JJ (w.heap.size+1) (w.heap.size+1) _ ⟨(Lib.decDigits x.1.2).toArray⟩ W3 hT3.1 (by rw [hsz];omega) (by omega)))).mono ?_⟩
   rintro e W4 ⟨rfl,h41,h42,h43⟩
   obtain ⟨hT4,kf4,kb4⟩:=MF hT3 h41 h42 h43
   gi_wp2
   have hpc:NZ len x=Lib.repeatL [48] (9-Lib.nDigits x.1.2)++Lib.decDigits x.1.2:=if_pos hx
   have hbs:=hB.size
   have b1c:=hb1.size
   refine ⟨by rw [hs0];exact (NG hb1 _).trans ((NG hb2 _).trans (kf3.trans kf4)),(NC hb1 hbs (lt_of_heap hT.2.2)).trans ((NC hb2 (by omega) (lt_of_heap hT1.2.2)).trans (kb3.trans kb4)),?_,
    hB.trans ((hb1.mono hbs).trans ((hb2.mono (by omega)).trans (kb3.1.trans kb4.1)))⟩
   rw [KH,hpc,← List.append_assoc]
   simpa using hT4
  ·have hx:¬ (x.1.1:Int)<(len:Int)-1:=by omega
   have l1:=lt_of_heap hT1.2.2
   refine ⟨trivial,(CallsIn.inRound l (callsIn_wide.2 (JJ (w.heap.size+1) (w.heap.size+1) _ ⟨(Lib.decDigits x.1.2).toArray⟩ W1 hT1.1 (by rw [hsz];omega) (by omega)))).mono ?_⟩
   rintro e W4 ⟨rfl,h41,h42,h43⟩
   obtain ⟨hT4,kf4,kb4⟩:=MF hT1 h41 h42 h43
   gi_wp2
   have hpc:NZ len x=Lib.decDigits x.1.2:=if_neg (by omega)
   have hbs:=hB.size
   refine ⟨by rw [hs0];exact (NG hb1 _).trans kf4,(NC hb1 hbs (lt_of_heap hT.2.2)).trans kb4,?_,hB.trans ((hb1.mono hbs).trans kb4.1)⟩
   rw [KH,hpc]
   simpa using hT4
 case done =>
  rintro D ys W hD rfl ⟨hT,hB⟩ hK
  have l1:=lt_of_heap hT.2.2
  rw [hlen,hall] at hT
  gi_wp2_with fail
  refine ⟨trivial,(callsIn_wide.2 (Tryz.Builder_String_any_k (w.heap.size+1) (w.heap.size+1) (Num.MP zs) W hT.1 (by omega))).mono ?_⟩
  rintro e W1 ⟨rfl,h1,h2,h3⟩
  gi_wp2
  have hK1:W1.heap[D]?=some (.deferred (some [])):=h3 D _ hK (by simp;omega) (fun c fz e=>by cases e)
  refine ⟨by simp,.inl ⟨_,_,rfl,run_takeDeferred hK1,?_⟩⟩
  exact ⟨_,results_tmp rfl _ _ _,rfl,(hB.trans (h2.mono (by omega))).trans (belowK_b (w:=w) (Nat.le_refl _) W1 D _ _ (by omega) hK1 rfl rfl)⟩
 case stop =>
  rintro D c pre W _ _ h _
  exact h.elim
end Go.Proofs.YtdabojnmoejilaaGreatDoor
namespace Go.Proofs.YtdabojnmoejilaaGreatDoor
open Go Go.Am Go.Vm
def kP:VJ:=fun xs _=>match xs with
 |[.int .i64 n]=>if -9223372036854775808≤n∧n≤9223372036854775807 then some (.string (bs (Lib.itoa n))) else none
 |_=>none
def Q5:VJ:=fun xs _=>match xs with
 |[.string a,.string b]=>some (.int .i64 (Lib.compareBytes a.data.toList b.data.toList))
 |_=>none
def RJ:List Value→Option (List Nat)
 |[]=>some []
 | .int .u64 n::l=>if 0≤n∧n<1000000000 then (RJ l).map (n.toNat::·) else none
 |_::_=>none
def textF:VJ:=fun xs m=>match xs with
 |[.slice a n g]=>match Ce m 1 n (.slice a n g) with
  |some l=>match RJ l with
   |some zs=>if n*9≤140737488351232 then some (.string (bs (Num.MP zs))) else none
   |none=>none
  |none=>none
 |_=>none
theorem Xa:∀ {l:List Value} {zs:List Nat},RJ l=some zs→l=zs.map (fun (n:Nat)=>Value.int .u64 (n:Int))∧Num.Xj zs
 |[],_,h=>by cases h;exact ⟨rfl,fun a ha=>by cases ha⟩
 |v::l,zs,h=>by
  unfold RJ at h
  split at h
  ·rename_i he;cases he
  ·rename_i n l' he
   cases he
   split at h
   ·rename_i hn
    rw [Option.map_eq_some_iff] at h
    obtain ⟨zs',h1,rfl⟩:=h
    obtain ⟨h2,h3⟩:=Xa h1
    refine ⟨?_,fun a ha=>?_⟩
    ·rw [h2,List.map_cons];congr 2;omega
    ·rcases List.mem_cons.1 ha with rfl|ha
     ·simp only [Num.B9];omega
     ·exact h3 a ha
   ·cases h
  ·cases h
theorem Un:∀ {zs:List Nat},Num.Xj zs→RJ (zs.map fun (n:Nat)=>Value.int .u64 (n:Int))=some zs
 |[],_=>rfl
 |n::zs,h=>by
  have hn:n<1000000000:=h n (by simp)
  simp only [List.map_cons,RJ]
  rw [if_pos ⟨by omega,by omega⟩,Un (fun a ha=>h a (by simp [ha]))]
  simp
theorem mJ {P:Program} {F:Nat} {laid:List (String×DataW Unit)} {ι:BU} {m:Mem} {w:World} (hs:Eb P (BK P F laid) ι m w) (hg:∀ k∈BK P F laid,m.get k=(CV P F laid).get k) {name:String} {g:Nat} {e:TypeId} {k:IntKind} {zs:List Int}
 (hn:P.globalNamed name=some g) (hat:Gn P F laid g=some (e,zs.map fun z=>Value.int k z)) (hlt:g<P.globals.size):Lib.TabIs P w name k zs:=by
 have hm:g∈BK P F laid:=by
  simp only [BK,List.mem_filter,List.mem_range]
  exact ⟨hlt,by rw [hat];rfl⟩
 obtain ⟨ib,h1,h2,⟨h3,h6⟩,h4,h5⟩:=hs.glob g hm
 have hmg:m.get g=.cells (zs.map fun z=>Value.int k z) e 0 true:=by rw [hg g hm,IW hlt,hat]
 obtain ⟨cs,fr,e',hrow,hlim,_,hrel,_⟩:=JU hs h1 hmg
 have hl:=h6 _ _ _ _ hmg
 rw [List.length_map] at hl
 rw [h2] at hrow
 have hcs:cs=(zs.map fun z=>Value.int k z).toArray:=by
  apply Array.ext
  ·rw [← hlim,hl];simp
  ·intro i hi1 hi2
   have hi:i<(zs.map fun z=>Value.int k z).length:=by simpa using hi2
   obtain ⟨v',q1,q2⟩:=hrel i hi
   rw [h3,Nat.zero_add,Array.getElem?_eq_getElem hi1] at q1
   cases q1
   rw [getD_lt hi] at q2
   have hp:plain ((zs.map fun z=>Value.int k z)[i])=true:=by rw [List.getElem_map];rfl
   rw [q2.Cj hp]
   simp
 unfold Lib.TabIs World.var?
 simp only [hn,Option.bind_some,hrow,hcs]
theorem BJ.one {ι:BU} {g:Nat→Nat} {v:Value} {ys:Array Value} (h:BJ ι g [v] ys.toList):∃ v',ys=#[v']∧AZ ι g v v':=by
 obtain ⟨v',k',e,h1,h2⟩:=h.Ls
 have:k'=[]:=List.eq_nil_of_length_eq_zero h2.1.symm
 subst this
 exact ⟨v',by cases ys;simp_all,h1⟩
theorem BJ.two {ι:BU} {g:Nat→Nat} {u v:Value} {ys:Array Value} (h:BJ ι g [u,v] ys.toList):∃ u' v',ys=#[u',v']∧AZ ι g u u'∧AZ ι g v v':=by
 obtain ⟨u',k',e,h1,h2⟩:=h.Ls
 obtain ⟨v',k'',e',h3,h4⟩:=h2.Ls
 have:k''=[]:=List.eq_nil_of_length_eq_zero h4.1.symm
 subst this;subst e'
 exact ⟨u',v',by cases ys;simp_all,h1,h3⟩
theorem iR {w:World} {k:Nat} {os:Array Obj}:Go.RowKit.Below w.heap.size w (Go.Sort.grow (w.drewN k) os):=Lib.below_grow _ w (Nat.le_refl _) k os
theorem pz (a:Option Addr) (cap:Nat) (w:World):Calls Tryz.prog 111 #[.slice a 0 cap] w fun e w'=>e=.returned (.string ⟨#[48]⟩)∧Go.RowKit.Below w.heap.size w w':=by
 go_enter Tryz.func111,Tryz.ntmps111
 go_wp2
 go_ret
 exact ⟨rfl,(Go.RowKit.Below.refl _ w).alloc (Nat.le_refl _) _⟩
section
variable {F:Nat} {laid:List (String×DataW Unit)}
structure jd (F:Nat) (laid:List (String×DataW Unit)):Prop where
 tab:∃ g e,Tryz.prog.globalNamed "internal/strconv.uint64pow10"=some g∧Gn Tryz.prog F laid g=some (e,Lib.pow10Tab.map fun z=>Value.int .u64 z)∧g<Tryz.prog.globals.size
theorem jE (ht:jd F laid) (he:Am.Enters Tryz.prog 114):Qg Tryz.prog (BK Tryz.prog F laid) (CV Tryz.prog F laid) 114 kP:=by
 refine ⟨fun _ _ _=>rfl,he,fun ι m w xs ys v hs hg hl h=>?_⟩
 obtain ⟨g,e,t1,t2,t3⟩:=ht.tab
 have htab:=mJ hs hg t1 t2 t3
 unfold kP at h
 split at h
 ·rename_i n
  split at h
  ·rename_i hn
   cases h
   obtain ⟨v',rfl,hv⟩:=BJ.one hl
   have:v'=.int .i64 n:=by cases hv;rfl
   subst this
   refine ⟨rfl,(Tryz.strconv_Itoa n hn.1 hn.2 w htab).mono ?_⟩
   rintro e w' ⟨rfl,k,os,rfl⟩
   exact ⟨rfl,iR⟩
  ·cases h
 ·cases h
theorem XB (he:Am.Enters Tryz.prog 118):Qg Tryz.prog (BK Tryz.prog F laid) (CV Tryz.prog F laid) 118 Q5:=by
 refine ⟨fun _ _ _=>rfl,he,fun ι m w xs ys v hs hg hl h=>?_⟩
 unfold Q5 at h
 split at h
 ·rename_i a b
  cases h
  obtain ⟨u',v',rfl,h1,h2⟩:=BJ.two hl
  have e1:u'=.string a:=by cases h1;rfl
  have e2:v'=.string b:=by cases h2;rfl
  subst e1;subst e2
  refine ⟨rfl,(Tryz.strings_Compare a b w).mono ?_⟩
  rintro e w' ⟨rfl,rfl⟩
  exact ⟨rfl,Go.RowKit.Below.refl _ _⟩
 ·cases h
theorem jD (ht:jd F laid) (he:Am.Enters Tryz.prog 111):Qg Tryz.prog (BK Tryz.prog F laid) (CV Tryz.prog F laid) 111 textF:=by
 refine ⟨fun _ _ _=>rfl,he,fun ι m w xs ys v hs hg hl h=>?_⟩
 obtain ⟨g,e,t1,t2,t3⟩:=ht.tab
 have htab:=mJ hs hg t1 t2 t3
 unfold textF at h
 split at h
 ·rename_i a n gen
  split at h
  ·rename_i l hl1
   split at h
   ·rename_i zs hzs
    split at h
    ·rename_i hb
     cases h
     obtain ⟨v',rfl,hv⟩:=BJ.one hl
     obtain ⟨hmap,hlim⟩:=Xa hzs
     obtain ⟨a',cap,rfl,hlen,hsp,hcell⟩:=RU hs hv rfl (fun b e=>by cases e) hl1
     have hzl:zs.length=n:=by rw [← hlen,hmap,List.length_map]
     refine ⟨rfl,?_⟩
     rcases Nat.eq_zero_or_pos n with h0|h0
     ·subst h0
      have:zs=[]:=List.eq_nil_of_length_eq_zero hzl
      subst this
      have e0:bs (Num.MP [])=⟨#[48]⟩:=by
       show bs (Lib.decDigits 0)=_
       rw [Lib.decDigits_one (by decide)]
       rfl
      exact (pz a' cap w).mono fun e w' ⟨h1,h2⟩=>⟨by rw [e0];exact h1,h2⟩
     ·rcases hsp with ⟨_,h1⟩|⟨A,h1|h1⟩
      ·omega
      ·obtain ⟨rfl,hspot⟩:=h1
       obtain ⟨b,off,spot⟩:=A
       simp only at hspot
       subst hspot
       have hc:∀ j,j<zs.length→w.cell? ⟨b,off+j,none⟩=some (.int .u64 (zs.getD j 0:Int)):=fun j hj=>by
        have:=hcell _ rfl j (.int .u64 (zs.getD j 0:Int)) (by rw [hmap,List.getElem?_map,List.getElem?_eq_getElem hj];simp [List.getD,hj]) rfl
        rwa [addr_add] at this
       have hbl:b<w.heap.size:=by
        have:=hc 0 (by omega)
        unfold World.cell? at this
        rcases Nat.lt_or_ge b w.heap.size with h|h
        ·exact h
        ·simp [Array.getElem?_eq_none h] at this
       have ht:=yB b off cap zs hlim (fun e=>by rw [e] at hzl;simp at hzl;omega) (by rw [hzl];exact hb) w hbl hc htab
       rw [hzl] at ht
       exact ht
      ·omega
    ·cases h
   ·cases h
  ·cases h
 ·cases h
end
theorem Td {m:Mem} {F:Nat→Prop}:∀ {l:List Nat} {vs:List Value},DC m F (cells l) vs→vs=l.map fun (n:Nat)=>Value.int .u64 (n:Int)
 |[],_,.nil=>rfl
 |c::l,_,.cons h t=>by
  cases h
  rw [Td t];rfl
theorem ni {m:Mem} {F:Nat→Prop} {e:TypeId} {l:List Nat} {xs:List Value} (hl:Num.Xj l) (hn:l.length<1000000000) (h:DC m F [.lst e (cells l) l.length] xs):∃ v,textF xs m=some v∧RF m F (.str (bs (Num.MP l))) v:=by
 cases h with
 |cons h t =>
  cases t
  obtain ⟨vs,h1,h2,h3⟩:=RF.cellsOf (sz:=1) h (by rw [BF];rfl)
  refine ⟨.string (bs (Num.MP l)),?_,.str _⟩
  have hvs:=Td h2
  subst hvs
  have hsl:∀ {v:Value},RF m F (.lst e (cells l) l.length) v→∃ a g,v=Value.slice a l.length g:=by
   intro v hv
   generalize l.length=n at hv
   generalize cells l=cs at hv
   cases hv with
   |nil=>exact ⟨_,_,rfl⟩
   |room=>exact ⟨_,_,rfl⟩
   |lst=>exact ⟨_,_,rfl⟩
  obtain ⟨a,g,rfl⟩:=hsl h
  unfold textF
  simp only [h1,Un hl]
  rw [if_pos (by omega)]
end Go.Proofs.YtdabojnmoejilaaGreatDoor
namespace Go.Vm
open Go.Am
section
variable {P:Program}
noncomputable def Jm (P:Program) (F:Nat) (laid:List (String×DataW Unit)) (O:CB):Env:=⟨P,O,BK P F laid,gam P F laid⟩
theorem VY {O:CB} {F:Nat} {laid:List (String×DataW Unit)} {ls:List (FuncId×VJ)} {f:FuncId} {Fn:VJ} {xs:List FV} {r:FV} (hO:O f=Y3 (BK P F laid) (CV P F laid) ls f) (hf:ls.lookup f=some Fn)
 (h:∀ m F' Cb,DC m F' xs Cb→∃ v,Fn Cb m=some v∧RF m F' r v):AV (Jm P F laid O) f xs (.p r):=by
 intro m F' σ Cb h1 h2
 have h2':DC m F' xs Cb:=DC.Uj h2
 obtain ⟨v,h3,h4⟩:=h m F' Cb h2'
 have hg:∀ k∈BK P F laid,m.get k=(CV P F laid).get k:=fun k hk=>by
  obtain ⟨hlt,e,l,hgl⟩:=Qb hk
  have:=(h1.gl k l e (by simp only [Jm,gam,if_pos hlt,hgl,Option.map_some])).2.1
  rw [this,IW hlt,hgl]
 refine I7.fM (F:=fun Cb m=>open Classical in if ∀ k∈BK P F laid,m.get k=(CV P F laid).get k then (Fn Cb m).map fun v=>(v,m) else none) (m':=m) (v:=v) (by simp only [Jm,hO,Y3,hf]) ?_
  ⟨_,_,_,F',σ,⟨rfl,rfl,rfl⟩,h1,.p h4,Step.refl _ _ _ _ _⟩
 rw [if_pos hg,h3];rfl
variable {H:Type} {enc:TypeId×Value→H} {W:World} {held:Bool}
theorem a6b {r:Go.Reach} {b0 F:Nat} {laid:List (String×DataW Unit)} {O:CB} {f:FuncId} {ts:List TypeId} {args:Array Value} {ds:List (DataW H)} {ps:List MemPlace}
 (hL:laidMet P laid W) (hA:DataW.TrodAll enc P W 0 (fun _=>true) held ts args.toList ds ps) (hv:∀ (j:Nat) t v,ts[j]?=some t→args.toList[j]?=some v→Value.okWide P W r b0 t v)
 (bG:P.follows .mixedOrders=true) (hty:ts.all (Rx P F)=true)
 (hO:GV P (BK P F laid) O)
 (hp:∀ j iq xs,uq P (j+F) ts iq→Gh (fun (tf:TypeId×List FV) x=>Uc P tf.1 tf.2=some x) (ts.zip iq) xs→AV (Jm P F laid O) f xs (.p (.bool true))) :
 Calls P f args W fun e W'=>e=.returned (.bool true)∧Go.RowKit.Below W.heap.size W W':=by
 obtain ⟨N,hN⟩:=vS ts _ ds ps hA
 obtain ⟨j,hj⟩:∃ j,max N F=j+F:=⟨max N F-F,by omega⟩
 obtain ⟨Cb,m1,iq,xs,q1,q2,q3,q4,q5,q6⟩:=RZ ts _ ds (fun t ht=>mg (by omega) (List.all_eq_true.1 hty t ht)) (hN (max N F) (by omega)) (CV P F laid)
 rw [hj] at q2
 have bF:Ctx (Jm P F laid O).Γ m1 (fun c=>c<m1.size) (fun _=>undef) [] 0:=by
  refine ⟨fun _ h=>h,fun b x hb=>(by cases hb),fun b b' x x' c hb=>(by cases hb),fun g vs e hg=>?_⟩
  simp only [Jm,gam] at hg
  split at hg
  ·rename_i hlt
   simp only [Option.map_eq_some_iff,Prod.mk.injEq] at hg
   obtain ⟨⟨e',l⟩,h1,rfl,rfl⟩:=hg
   have hlt':g<(CV P F laid).size:=by rw [Qn];exact hlt
   exact ⟨by omega,by rw [q6 g hlt',IW hlt,h1],QY h1⟩
  ·cases hg
 obtain ⟨v,m',⟨K,hK⟩,r0,H',nx',F',σ',⟨rfl,_,_⟩,_,hrv,_⟩:=hp j iq xs q2 q3 m1 _ _ Cb bF (Dz.YE q4)
 have hv1:v=.bool true:=by cases hrv with|p h=>cases h;rfl
 subst hv1
 obtain ⟨ι,hs,hro⟩:=Yj (F:=F) hL
 obtain ⟨ι1,o1,o2,o3,o4⟩:=RI ts _ ds ps hA hv ι _ m1 Cb hs hro q1
 refine ((NW hO bG K f).1 Cb m1 _ m' (hK K K (Nat.le_refl _) (Nat.le_refl _)) ι1 W args o1 o4).mono fun e W' ⟨v',he,ι2,hx,hs2,Qp⟩=>?_
 have:=Qp.Cj (v:=.bool true) rfl
 subst this
 exact ⟨he,⟨hx.os,hx.tape,hx.output,hx.heap,fun c hcl=>hx.frame c hcl fun b ib hb _=>.inl (o3 b (o1.dom b ib hb).1)⟩⟩
def V9 (e:TypeId) (xs:List Value) (m:Mem):Option (Value×Mem):=match xs with
 |[.slice none 0 0,.int .i64 n]=>if 0<n∧n≤1000000 then some (BH m e [] 0) else none
 |_=>none
def kC (fg:FuncId) (e:TypeId) (O:CB):CB:=fun f=>if f=fg then some (V9 e) else O f
theorem bV {fg f:FuncId} {e:TypeId} {O:CB} (h:f≠fg):kC fg e O f=O f:=if_neg h
theorem aS {fg:FuncId} {e:TypeId} {O:CB}:kC fg e O fg=some (V9 e):=if_pos rfl
theorem WG {e:TypeId} {xs:List Value} {m m':Mem} {v:Value} (h:V9 e xs m=some (v,m')):∃ n:Int,xs=[.slice none 0 0,.int .i64 n]∧0<n∧n≤1000000∧(v,m')=BH m e [] 0:=by
 unfold V9 at h
 split at h
 ·rename_i n
  split at h
  ·rename_i hn;cases h;exact ⟨n,rfl,hn.1,hn.2,rfl⟩
  ·cases h
 ·cases h
theorem cZ {G:List Nat} {O:CB} {fg:FuncId} {e:TypeId} (hO:GV P G O) (he:Am.Enters P fg)
 (hc:∀ (n:Nat) (w:World),0<n→n≤1000000→Calls P fg #[.slice none 0 0,.int .i64 n] w fun r w'=>∃ cap cs,r=.returned (.slice (some ⟨w.heap.size,0,none⟩) 0 cap)∧w'.heap=w.heap.push (.cells cs e (0,0))∧w'.tape=w.tape∧w'.os=w.os∧w'.output=w.output∧cap*P.cellsOf e≤cs.size) :
 GV P G (kC fg e O):=by
 intro f Fo hf
 by_cases h:f=fg
 ·subst h
  rw [aS] at hf
  cases hf
  refine ⟨fun xs m v m' hv ι w as' hs hrel=>?_,fun xs m v m' hv=>?_,he,Yq.none fun n lb m=>rfl⟩
  ·obtain ⟨n,rfl,h1,h2,h3⟩:=WG hv
   cases h3
   obtain ⟨hlen,hat⟩:=hrel
   have hl2:as'.toList.length=2:=by simpa using hlen.symm
   have e0:as'=#[.slice none 0 0,.int .i64 n]:=by
    obtain ⟨l⟩:=as'
    match l,hl2 with
    |[a,b],_ =>
     have ha:=hat 0 (by simp)
     have hb:=hat 1 (by simp)
     simp only [List.getD_cons_zero,List.getD_cons_succ] at ha hb
     have hb':=hb.Cj (v:=.int .i64 n) rfl
     cases ha
     rw [hb']
   subst e0
   have:=hc n.toNat w (by omega) (by omega)
   rw [Int.toNat_of_nonneg (by omega)] at this
   refine this.mono ?_
   rintro r w' ⟨cap,cs,rfl,q1,q2,q3,q4,q5⟩
   exact ⟨_,rfl,Hy (e:=e) (l:=[]) (n:=0) hs q1 q2 q3 q4 (fun i hi=>by simp at hi) (Nat.zero_le _) (.inr q5)⟩
  ·obtain ⟨n,rfl,h1,h2,h3⟩:=WG hv
   cases h3
   exact Bg.alloc _ _
 ·rw [bV h] at hf
  exact hO f Fo hf
end
end Go.Vm
namespace Go.Vm
open Go.Am
section
variable {P:Program}
noncomputable def knO (G:List Nat) (M0:Mem) (fs:List FuncId) (O:CB):CB:=fun f=>if f∈fs then uf G M0 fs f else O f
end
end Go.Vm
namespace Go.Vm
open Go.Am
section
variable {P:Program} {G:List Nat}
abbrev FrF:=List Value→Option (List Value)
def a3u (e:TypeId) (Fn:FrF) (Cb:List Value) (m:Mem):Option (Value×Mem):=match Fn Cb with
 |some []=>some (.slice none 0 0,m)
 |some (v::l)=>some (BH m e (v::l) (l.length+1))
 |none=>none
open Classical in
noncomputable def frO (G:List Nat) (M0:Mem) (ff:FuncId) (e:TypeId) (Fn:FrF) (O:CB):CB:=fun f =>
 if f=ff then some fun Cb m=>if ∀ k∈G,m.get k=M0.get k then a3u e Fn Cb m else none else O f
end
end Go.Vm
namespace Go.Proofs.YtdabojnmoejilaaGreatDoor
open Go Go.ChangeShapes Go.WideShapes Go.ChangeAt Go.WideMaps Go.WideElems Go.RowKit
def ED:List (String×DataW Unit):=[("math/bits.deBruijn32tab",Rows.laid_math_bits_deBruijn32tab),("math/bits.deBruijn64tab",Rows.laid_math_bits_deBruijn64tab),("internal/strconv.uint64pow10",Rows.laid_internal_strconv_uint64pow10)]
theorem own:ownKnob Tryz.prog.godebug=none:=by kernel_rfl
theorem laidOut:laidOutB Tryz.prog=true:=by kernel_rfl
theorem door_met (os:Os) (args:Array Value):laidMetH Tryz.prog ED ((World.doorLaid Tryz.prog 400 os).forCall (fun _ _=>0) ⟨#[],args,[]⟩).memory :=
 laidMetH_of_parts3 (fuel:=8) (laidMet_of_run' 8 (by kernel_rfl) (by kernel_rfl)) (by kernel_rfl) (by kernel_rfl)
theorem qU {W:World} (h:laidMetH Tryz.prog ED W):laidMet Tryz.prog ED W:=by
 rw [MakeChecks.laidMetH_plain _ _ _ (by kernel_rfl)] at h
 exact h
end Go.Proofs.YtdabojnmoejilaaGreatDoor
namespace Go.Am
section
variable {P:Program} {c0 c1:EM} (h:∀ f Cb m r,c0 f Cb m=some r→c1 f Cb m=some r)
include h
end
structure OLe (P:Program) (O0 O1:CB):Prop where
 same:∀ f Cb m r,(O0 f).bind (fun F=>F Cb m)=some r→(O1 f).bind (fun F=>F Cb m)=some r
 more:∀ f Cb m r,(O1 f).bind (fun F=>F Cb m)=some r→(O0 f).bind (fun F=>F Cb m)=none→∀ fn,P.funcs[f]?=some fn→fn.ntmps<Cb.length
end Go.Am
namespace Go.Vm
open Go.Am
section
variable {P:Program}
def uF (d:TypeDesc) (x y:Value):Option Bool :=
 match d,x,y with
 | .int _,.int k a,.int k' b=>if k=k' then some (decide (a=b)) else none
 | .bool,.bool a,.bool b=>some (a==b)
 | .string,.string a,.string b=>some (decide (a.data.toList=b.data.toList))
 |_,_,_=>none
def ZV (P:Program):List Field→Array Value→Array Value→Option Bool
 |[],_,_=>some true
 |f::fs,xs,ys=>if f.name="_" then none else
  match FK P f.type,P.underlying f.type,xs[f.offset]?,ys[f.offset]?,ZV P fs xs ys with
  |some false,some d,some x,some y,some r=>(uF d x y).map (·&&r)
  |_,_,_,_,_=>none
theorem Ym (a b:ByteArray):(a==b)=decide (a.data.toList=b.data.toList):=by
 rw [beq_toListBytes,ByteArray.toList_eq,ByteArray.toList_eq]
 by_cases h:a.data.toList=b.data.toList
 ·simp [h]
 ·rw [decide_eq_false h]
  simpa using fun h2:a.data=b.data=>h (by rw [h2])
theorem o7 {d:Nat} {t:TypeId} {td:TypeDesc} {x y:Value} {r:Bool} (ht:P.underlying t=some td) (h:uF td x y=some r):Ey P (Op.equalIn (d+1) t x y)=some r:=by
 unfold uF at h
 split at h
 ·split at h
  ·rename_i hk
   subst hk
   cases h
   rename_i a b
   simp only [Op.equalIn,AX,BL,ht,Option.bind_some,if_true]
   rw [show (decide (a=b))=(a==b) from Bool.eq_iff_iff.2 (by simp)]
   rfl
  ·cases h
 ·cases h
  simp only [Op.equalIn,AX,BL,ht,Option.bind_some]
  rfl
 ·cases h
  simp only [Op.equalIn,AX,BL,ht,Option.bind_some,Ym]
  rfl
 ·cases h
theorem cO {t:TypeId} {cs:Array Value} {o:Nat} {v:Value} (ha:FK P t=some false) (hv:cs[o]?=some v):Ey P (part t cs o)=some v:=by
 simp only [part,AX,OA,ha,Option.bind_some,Bool.false_eq_true,if_false,hv]
 rfl
theorem XU {d:Nat} (xs ys:Array Value) {g:Option Bool×Unit→Sem Bool} (g0:g (none,())=pure true) (g1:∀ b,g (some b,())=pure b):∀ (fs:List Field) (r:Bool),ZV P fs xs ys=some r →
 Ey P ((forIn fs ((none,()):Option Bool×Unit) fun f _=>(do
     if f.name≠"_" then
      if (!(← Op.equalIn (d+1) f.type (← part f.type xs f.offset) (← part f.type ys f.offset)))=true then pure (ForInStep.done (some false,())) else pure (ForInStep.yield (none,()))
     else pure (ForInStep.yield (none,())):Sem (ForInStep (Option Bool×Unit)))) >>= g)=some r
 |[],r,h=>by
  cases h
  simp only [List.forIn_nil,AX,Dc,Option.bind_some,g0]
 |f::fs,r,h=>by
  unfold ZV at h
  split at h
  ·cases h
  rename_i hn
  split at h
  ·rename_i td x y r' h1 h2 h3 h4 h5
   simp only [Option.map_eq_some_iff] at h
   obtain ⟨b,h6,rfl⟩:=h
   have ih:=XU (d:=d) xs ys g0 g1 fs r' h5
   rw [List.forIn_cons]
   simp only [AX,ne_eq,hn,not_false_eq_true,if_true,cO h1 h3,cO h1 h4,Option.bind_some,o7 h2 h6]
   cases b with
   |false=>simp [Dc,g1]
   |true =>
    simp only [Bool.not_true,Bool.false_eq_true,if_false,Dc,Option.bind_some,Bool.true_and]
    rw [AX] at ih
    exact ih
  ·cases h
theorem ZB {d:Nat} {t:TypeId} {fs:Array Field} {xs ys:Array Value} {r:Bool} (ht:P.underlying t=some (.struct fs)) (hp:P.stoodInHeld t=false) (h:ZV P fs.toList xs ys=some r) :
 Ey P (Op.equalIn (d+2) t (.agg xs) (.agg ys))=some r:=by
 rw [Op.equalIn]
 simp only [AX,BL,ht,Option.bind_some,program,Ey,hp,Bool.false_eq_true,if_false]
 rw [← Array.forIn_toList,← AX]
 exact XU (d:=d) xs ys rfl (fun b=>rfl) fs.toList r h
def qQ:FV→Option Value
 | .int k n=>some (.int k n)
 | .bool b=>some (.bool b)
 | .str s=>some (.string s)
 |_=>none
def Jz:List FV→Option (List Value)
 |[]=>some []
 |x::l=>match qQ x,Jz l with
  |some v,some r=>some (v::r)
  |_,_=>none
theorem nU {m:Mem} {F:Nat→Prop} {x:FV} {u v:Value} (h:RF m F x u) (hv:qQ x=some v):u=v∧Am.plainCell v=true:=by
 cases h<;>simp only [qQ,Option.some.injEq,reduceCtorEq] at hv
 all_goals (subst hv;exact ⟨rfl,rfl⟩)
theorem PK {m:Mem} {F:Nat→Prop}:∀ {l:List FV} {us vs:List Value},DC m F l us→Jz l=some vs→us=vs∧vs.all Am.plainCell=true
 |[],_,_,.nil,h=>by cases h;exact ⟨rfl,rfl⟩
 |x::l,_,_,.cons h t,hv=>by
  simp only [Jz] at hv
  split at hv
  ·rename_i v r h1 h2
   cases hv
   obtain ⟨rfl,p1⟩:=nU h h1
   obtain ⟨rfl,p2⟩:=PK t h2
   exact ⟨rfl,by simp [p1,p2]⟩
  ·cases hv
def Zt (P:Program) (t:TypeId) (xs ys:List FV):Option Bool :=
 match P.underlying t,Jz xs,Jz ys with
 |some (.struct fs),some vs,some ws=>ZV P fs.toList vs.toArray ws.toArray
 |_,_,_=>none
def Vo (P:Program) (t:TypeId):Bool:=!(P.stoodInHeld t)&&!(P.eqGuardType P.depth t)
theorem uN {t:TypeId} {xs ys:List FV} {vs ws:List Value} {r:Bool} {op:BinOp} {x y:Operand} (hf:Vo P t=true) (h:Zt P t xs ys=some r) (hv:Jz xs=some vs) (hw:Jz ys=some ws) (hop:op=.eql∨op=.neq) :
 Ey P (do eqGuard op t x y (.agg vs.toArray) (.agg ws.toArray);binOp op t (.agg vs.toArray) (.agg ws.toArray))=some (.bool (if op=.eql then r else !r)):=by
 simp only [Vo,Bool.and_eq_true,Bool.not_eq_true'] at hf
 unfold Zt at h
 rw [hv,hw] at h
 split at h
 ·rename_i fs vs' ws' h1 h2 h3
  cases h2;cases h3
  have h4:Ey P (Op.equal t (.agg vs.toArray) (.agg ws.toArray))=some r:=ZB (d:=9998) h1 hf.1 h
  have h5:Ey P (eqGuard op t x y (.agg vs.toArray) (.agg ws.toArray))=some ():=by
   rcases hop with rfl|rfl<;>simp [eqGuard,AX,program,Ey,hf.2,Dc]
  rcases hop with rfl|rfl
  ·rw [AX,h5,Option.bind_some]
   show Ey P (do pure (.bool (← Op.equal t (.agg vs.toArray) (.agg ws.toArray))):Sem Value)=_
   simp only [AX,h4,Option.bind_some,Dc]
   rfl
  ·rw [AX,h5,Option.bind_some]
   show Ey P (do pure (.bool (!(← Op.equal t (.agg vs.toArray) (.agg ws.toArray)))):Sem Value)=_
   simp only [AX,h4,Option.bind_some,Dc]
   rfl
 ·cases h
end
section
variable {E:Env} {L:Frame} {H:Heap} {nx:Nat} {Q:PV→Heap→Nat→Prop} {w:Bool}
variable {dst:Option Tmp} {ty:TypeId} {pos:String} {af:Array Edge} {gd:Option (Nat×Bool)}
theorem Aa.Zt {op:BinOp} {t t2:TypeId} {x y:Operand} {xs ys:List FV} {r:Bool} (hx:Bq E.Γ L x=some (.p (.agg xs))) (hy:Bq E.Γ L y=some (.p (.agg ys))) (hop:op=.eql∨op=.neq) (hf:Vo E.P t=true) (h:Vm.Zt E.P t xs ys=some r)
 (q:Q (.p (.bool (if op=.eql then r else !r))) H nx):Aa E w ⟨dst,.binOp op t x y t2,ty,pos,af,gd⟩ L H nx Q :=
 Aa.quiet q fun m F σ tt c1 c2=>by
  obtain ⟨vs,hv⟩:∃ vs,Jz xs=some vs:=by
   cases hv:Jz xs with
   |some vs=>exact ⟨vs,rfl⟩
   |none=>unfold Vm.Zt at h;rw [hv] at h;split at h<;>simp_all
  obtain ⟨ws,hw⟩:∃ vs,Jz ys=some vs:=by
   cases hw:Jz ys with
   |some vs=>exact ⟨vs,rfl⟩
   |none=>unfold Vm.Zt at h;rw [hw] at h;split at h<;>simp_all
  have e1:ev tt x=.agg vs.toArray∧vs.all Am.plainCell=true:=by
   have:=Cc c1 c2 hx
   generalize ev tt x=u at this
   cases this with
   |p h1=>cases h1 with
    |agg h1 hc=>obtain ⟨rfl,hp⟩:=PK h1 hv;exact ⟨rfl,hp⟩
  have e2:ev tt y=.agg ws.toArray∧ws.all Am.plainCell=true:=by
   have:=Cc c1 c2 hy
   generalize ev tt y=u at this
   cases this with
   |p h1=>cases h1 with
    |agg h1 hc=>obtain ⟨rfl,hp⟩:=PK h1 hw;exact ⟨rfl,hp⟩
  have hd:=uN (x:=x) (y:=y) hf h hv hw hop
  refine ⟨_,fun _=>?_,.p (.bool _)⟩
  simp only [CQ,Fg,e1.1,e2.1]
  have hpl:(plain (.agg vs.toArray)&&plain (.agg ws.toArray))=true:=by
   simp only [plain,Gx,Bool.and_eq_true]
   exact ⟨e1.2,e2.2⟩
  have:OJ E.P op t x y (.agg vs.toArray) (.agg ws.toArray)=some (.bool (if op=.eql then r else !r)):=by
   simp only [OJ,hpl,if_true]
   exact Ia hd rfl
  rw [this,Option.map_some]
theorem Aa.zN {t t2:TypeId} {x y:Operand} {xs ys:List FV} {r:Bool} (hx:Bq E.Γ L x=some (.p (.agg xs))) (hy:Bq E.Γ L y=some (.p (.agg ys))) (hf:Vo E.P t=true) (h:Vm.Zt E.P t xs ys=some r)
 (q:Q (.p (.bool r)) H nx):Aa E w ⟨dst,.binOp .eql t x y t2,ty,pos,af,gd⟩ L H nx Q:=Aa.Zt hx hy (.inl rfl) hf h q
theorem Aa.UQ {t e e':TypeId} {x ix:Operand} {n b off:Nat} {cs:List PV} {k:IntKind} {i:Int} {inf:TypeInfo} (hx:Bq E.Γ L x=some (.ref b off)) (hb:hget H b=some (.box e' cs)) (hi:Bq E.Γ L ix=some (.p (.int k i)))
 (ht:E.P.underlying t=some (.array n e)) (hs:E.P.info? e=some inf) (h:0≤i∧i<n) (q:Q (.ref b (off+i.toNat*inf.size)) H nx):Aa E w ⟨dst,.indexAddr t x ix,ty,pos,af,gd⟩ L H nx Q :=
 Aa.quiet q fun m F σ tt h1 h2=>by
  obtain ⟨c,h3,h4⟩:=UZ h1 h2 hx hb
  refine ⟨.pointer (some ⟨c,off+i.toNat*inf.size,none⟩),fun _=>?_,.ref (h1.hp b _ hb).1 rfl fun _=>⟨c,h4,rfl⟩⟩
  simp only [CQ,Fg,ht,h3,CY h1 h2 hi,hs,h,and_self,if_true]
theorem Aa.wE {t:TypeId} {a:Operand} {b o:Nat} {e:TypeId} {cs:List PV} {r:PV} (ha:Bq E.Γ L a=some (.ref b o)) (hb:hget H b=some (.box e cs)) (ht:FK E.P t=some false) (hr:cs[o]?=some r) (q:Q r H nx) :
 Aa E w ⟨dst,.load t a,ty,pos,af,gd⟩ L H nx Q:=by
 refine Aa.load ha ?_ q
 simp only [X8,hb,dM,ht]
 rw [List.head?_drop]
 exact hr
theorem Aa.GI {s d e e2:TypeId} {x:Operand} {b:Nat} {z:Bool} {n:Int} (hx:Bq E.Γ L x=some (.vec b 1 0 1)) (hb:hget H b=some (.vec e2 [.int .u8 n] 1 z)) (hs:E.P.underlying s=some (.slice e)) (hd:E.P.underlying d=some .string) (he:E.P.underlying e=some (.int .u8)) (hn:0≤n∧n<256)
 (q:Q (st [UInt8.ofNat n.toNat]) H nx):Aa E w ⟨dst,.convert s d x,ty,pos,af,gd⟩ L H nx Q :=
 Aa.quiet q fun m F σ tt c1 c2=>by
  obtain ⟨hl1,vs,hl2,hl3,hl4⟩:=mX.all (sz:=1) hx hb rfl m F σ tt c1 c2
  have hc:cells [UInt8.ofNat n.toNat]=[.int .u8 n]:=by
   show [FV.int .u8 (((UInt8.ofNat n.toNat).toNat:Nat):Int)]=_
   rw [UInt8.toNat_ofNat']
   congr 2
   omega
  rw [← hc] at hl3
  have hvs:=Np hl3
  subst hvs
  have hsub:=GK c1 c2 hx hb
  have hag:∃ a g,ev tt x=.slice a 1 g:=by
   unfold Et at hsub
   split at hsub
   ·exact ⟨_,_,hsub⟩
   ·exact absurd hsub.2.2 (by decide)
  obtain ⟨a,g,hag⟩:=hag
  rw [hag] at hl2
  refine ⟨.string (bs [UInt8.ofNat n.toNat]),fun _=>?_,.p (.str _)⟩
  have hsl:(Hg E.P s||Hg E.P d)=true:=by simp only [Hg,hs,hd];rfl
  simp only [CQ,Fg,hsl,if_true,Tt,hs,hd,hag,he,hl2,Nu]
  rfl
theorem Aa.a5l {t t2:TypeId} {x y:Operand} {a b:List UInt8} {r:Bool} (hx:Bq E.Γ L x=some (st a)) (hy:Bq E.Γ L y=some (st b)) (hr:decide (a=b)=r) (q:Q (.p (.bool r)) H nx) :
 Aa E w ⟨dst,.binOp .eql t x y t2,ty,pos,af,gd⟩ L H nx Q:=Aa.eqS hx hy (by rw [hr];exact q)
theorem Aa.yJ {t t2:TypeId} {x y:Operand} {a b:List UInt8} {r:Bool} (hx:Bq E.Γ L x=some (st a)) (hy:Bq E.Γ L y=some (st b)) (hr:decide (a=b)=r) (q:Q (.p (.bool (!r))) H nx) :
 Aa E w ⟨dst,.binOp .neq t x y t2,ty,pos,af,gd⟩ L H nx Q:=Aa.neS hx hy (by rw [hr];exact q)
end
end Go.Vm
namespace Go.Vm
open Go.Am
def a0w (H:Heap):PV→Option Nat
 | .ref b _=>match hget H b with
  |some (.box _ _)=>some b
  |_=>none
 | .vec b n _ _=>match hget H b with
  |some (.vec _ _ k _)=>match Nat.decEq n k with
   | .isTrue _=>some b
   | .isFalse _=>none
  |_=>none
 | .DU b n _=>match hget H b with
  |some (.vec _ _ k _)=>match Nat.decEq n k with
   | .isTrue _=>some b
   | .isFalse _=>none
  |_=>none
 |_=>none
def xA:PV→Bool
 | .p (.Gp _)=>true
 | .p (.lst _ _ _)=>true
 | .p (.val (.slice none _ _))=>true
 |_=>false
inductive Qk (H:Heap):PV→Nat→Prop
 |ref {b off:Nat} {e:TypeId} {cs:List PV} (h:hget H b=some (.box e cs)):Qk H (.ref b off) b
 |vec {b n off len:Nat} {e:TypeId} {cs:List FV} {z:Bool} (h:hget H b=some (.vec e cs n z)):Qk H (.vec b n off len) b
 |DU {b n off:Nat} {e:TypeId} {cs:List FV} {z:Bool} (h:hget H b=some (.vec e cs n z)):Qk H (.DU b n off) b
def xO (H:Heap) (b:Nat) (y:PV):Bool:=match a0w H y with
 |some c=>match Nat.decEq b c with
  | .isTrue _=>false
  | .isFalse _=>true
 |none=>xA y
section
variable {Γ:Nat→Option (List Value×TypeId)} {m:Mem} {F:Nat→Prop} {σ:Nat→Value} {H:Heap} {nx:Nat} {L:Frame} {t:Tr Value}
theorem Qk.blk (hx:Ctx Γ m F σ H nx) (hl:RL m F (htag H) σ nx L t) {o:Operand} {x:PV} {b:Nat} (h:Bq Γ L o=some x) (ho:Qk H x b):∃ y,hget H b=some y∧∀ c,Gu (ev t o)=some c→Dn (σ b)=some c:=by
 cases ho with
 |ref hb =>
  obtain ⟨c,h1,h2⟩:=UZ hx hl h hb
  refine ⟨_,hb,fun d hd=>?_⟩
  rw [h1] at hd
  rw [h2]
  exact hd
 |vec hb =>
  have hsub:=GK hx hl h hb
  refine ⟨_,hb,fun d hd=>?_⟩
  unfold Et at hsub
  split at hsub
  ·rename_i c k' g hs
   rw [hsub] at hd
   rw [hs]
   exact hd
  ·rename_i hne
   obtain ⟨h1,_,_⟩:=hsub
   rcases (hx.hp b _ hb).2 with ⟨_,_,r3⟩|⟨c,g,vs,r1,_⟩
   ·rcases r3 with ⟨r3,_⟩|⟨b2,o2,g2,r3,_⟩
    ·rw [h1,r3] at hd;cases hd
    ·rw [h1,r3] at hd;cases hd
   ·exact absurd r1 (hne _ _ _)
 |DU hb =>
  obtain ⟨c,k',g,h1,h2⟩:=QE hx hl h hb
  refine ⟨_,hb,fun d hd=>?_⟩
  rw [h1] at hd
  rw [h2]
  exact hd
theorem vY {x:PV} {b:Nat} (ho:a0w H x=some b):Qk H x b:=by
 unfold a0w at ho
 split at ho
 ·split at ho
  ·rename_i hb;cases ho;exact .ref hb
  ·cases ho
 ·split at ho
  ·rename_i hb
   split at ho
   ·rename_i hn _;cases ho;subst hn;exact .vec hb
   ·cases ho
  ·cases ho
 ·split at ho
  ·rename_i hb
   split at ho
   ·rename_i hn _;cases ho;subst hn;exact .DU hb
   ·cases ho
  ·cases ho
 ·cases ho
theorem uJ (hx:Ctx Γ m F σ H nx) (hl:RL m F (htag H) σ nx L t) {o:Operand} {x:PV} (h:Bq Γ L o=some x) (ho:xA x=true):∀ c,Gu (ev t o)=some c→F c:=by
 have hr:=Cc hx hl h
 generalize ev t o=v at *
 intro c hc
 unfold xA at ho
 split at ho
 ·cases hr with
  |p hr=>cases hr with|Gp hF=>simp only [Gu,Option.some.injEq] at hc;subst hc;exact hF
 ·cases hr with
  |p hr =>
   cases hr with
   |nil=>cases hc
   |room=>cases hc
   |lst hF=>simp only [Gu,Option.some.injEq] at hc;subst hc;exact hF
 ·cases hr with
  |p hr=>cases hr with|val=>cases hc
 ·cases ho
theorem yM (hx:Ctx Γ m F σ H nx) (hl:RL m F (htag H) σ nx L t) {o r:Operand} {x y:PV} {b:Nat} (h:Bq Γ L o=some x) (hb:Qk H x b) (h2:Bq Γ L r=some y) (hs:xO H b y=true):kN (Gu (ev t r)) (Gu (ev t o))=true:=by
 obtain ⟨u,hu,hub⟩:=hb.blk hx hl h
 cases hd:Gu (ev t o) with
 |none=>cases Gu (ev t r)<;>rfl
 |some d =>
  have hbd:=hub d hd
  cases he:Gu (ev t r) with
  |none=>rfl
  |some e =>
   simp only [kN,bne_iff_ne,ne_eq]
   intro hde
   subst hde
   unfold xO at hs
   split at hs
   ·rename_i c hc
    obtain ⟨u',hu',hub'⟩:=(vY hc).blk hx hl h2
    have hce:=hub' e he
    have:=hx.sep b c u u' e hu hu' hbd hce
    subst this
    split at hs
    ·cases hs
    ·rename_i hne _;exact hne rfl
   ·exact (hx.KQ ⟨b,u,hu,hbd⟩).1 (uJ hx hl h2 hs e he)
end
def a2n:Operand→Operand→Bool
 | .tmp a,.tmp b=>a==b
 | .global a,.global b=>a==b
 |_,_=>false
def kG:List (Option Operand)→List Operand→Bool
 |[],[]=>true
 |some a::l,b::r=>a2n a b&&kG l r
 |_,_=>false
theorem yX {a b:Operand} (h:a2n a b=true):a=b:=by
 cases a<;>cases b<;>simp only [a2n,beq_iff_eq,Bool.false_eq_true] at h<;>rw [h]
theorem ay:∀ {l:List (Option Operand)} {r:List Operand},kG l r=true→l=r.map some
 |[],[],_=>rfl
 |some a::l,b::r,h=>by
  simp only [kG,Bool.and_eq_true] at h
  rw [List.map_cons,yX h.1,ay h.2]
def kZ (Γ:Nat→Option (List Value×TypeId)) (L:Frame) (H:Heap) (x:Nat):List Operand→Bool
 |[]=>true
 |r::l=>(match Bq Γ L r with
  |some y=>xO H x y
  |none=>false)&&kZ Γ L H x l
def a5g (Γ:Nat→Option (List Value×TypeId)) (L:Frame):List Operand→Bool
 |[]=>true
 |r::l=>(match Bq Γ L r with
  |some y=>xA y
  |none=>false)&&a5g Γ L l
section
variable {E:Env} {L:Frame} {H:Heap} {nx:Nat}
variable {dst:Option Tmp} {ty:TypeId} {pos:String} {af:Array Edge} {gd:Option (Nat×Bool)}
variable {bn:Nat} {ops:Array Oper} {op:Op} {l:List Oper} {i:Nat} {R:Frame→Heap→Nat→Prop}
theorem Ar.atIdx (n:Nat) (h:Ar E bn ops n l L H nx R):Ar E bn ops n l L H nx R:=h
theorem Ar.weak {wo:Operand} {x:PV} {b:Nat} (rs:List Operand) (hw:aP E.P ops i=true) (hi:(ops[i]?).bind (fun o=>vO o.op)=some wo) (hx:Bq E.Γ L wo=some x) (hb:Qk H x b) (hr:kG (Il ops i) rs=true) (hs:kZ E.Γ L H b rs=true)
 (h:Aa E true ⟨dst,op,ty,pos,af,none⟩ L H nx fun r H' nx'=>Ar E bn ops (i+1) l (LQ L dst r) H' nx' R):Ar E bn ops i (⟨dst,op,ty,pos,af,none⟩::l) L H nx R:=by
 intro B hB m F σ t h1 h2 h3
 have hfree:MX ops i t=true:=by
  unfold MX
  rw [hi]
  simp only
  rw [ay hr,List.all_eq_true]
  intro r hmem
  rw [List.mem_map] at hmem
  obtain ⟨r0,hr0,rfl⟩:=hmem
  simp only
  have key:∀ rs:List Operand,kZ E.Γ L H b rs=true→r0∈rs→∃ y,Bq E.Γ L r0=some y∧xO H b y=true:=by
   intro rs
   induction rs with
   |nil=>intro _ h;cases h
   |cons a rs ih =>
    intro h hm
    simp only [kZ,Bool.and_eq_true] at h
    rcases List.mem_cons.1 hm with rfl|hm
    ·cases hv:Bq E.Γ L r0 with
     |none=>rw [hv] at h;cases h.1
     |some y=>rw [hv] at h;exact ⟨y,rfl,h.1⟩
    ·exact ih h.2 hm
  obtain ⟨y,hy,hys⟩:=key rs hs hr0
  exact yM h1 h2 hx hb hy hys
 refine Gz.cons (F6.wanted (L:=L) h1 h2 rfl) ((h (m.at m.size) F σ t (h1.at _) (RL.at (Γ:=E.Γ) _ h2)).mono ?_)
 rintro v m' ⟨r,H',nx',F',σ',q,c1,c2,c3,c4⟩
 refine ⟨.inr (.inr (.inl ⟨hw,hfree⟩)),?_⟩
 exact q B hB _ F' σ' _ (c1.at _) (RL.at (Γ:=E.Γ) _ (((RL.at (Γ:=E.Γ) _ h2).step c3 (h1.at _)).put c2)) (h3.trans c3.at)
end
end Go.Vm
namespace Go.Vm
open Go.Am
section
variable {E:Env} {bn:Nat} {b:Code} {L:Frame} {H:Heap} {nx:Nat} {Q:CG→Frame→Heap→Nat→Prop}
def Y0 (E:Env) (bn:Nat) (b:Code) (Q:CG→Frame→Heap→Nat→Prop):Nat→Frame→Heap→Nat→Prop
 |0,L,H,nx=>Ae E bn b L H nx (Az (fun _ _ _=>False) Q)
 |n+1,L,H,nx=>Ae E bn b L H nx (Az (Y0 E bn b Q n) Q)
theorem Ae.kE (n:Nat) (h:Y0 E bn b Q n L H nx):Ae E bn (.loop b) L H nx Q:=by
 intro B hB m F σ t h1 h2 h3
 refine Ld.loop (fun k s=>∃ L H nx F σ,Y0 E bn b Q k L H nx∧Ctx E.Γ s.m F σ H nx∧RL s.m F (htag H) σ nx L s.t∧B.to s.m F σ H nx) n ⟨L,H,nx,F,σ,h,h1,h2,h3⟩ ?_
 rintro k s ⟨L1,H1,nx1,F1,σ1,u,c1,c2,c3⟩
 cases k with
 |zero =>
  refine (u B hB s.m F1 σ1 s.t c1 c2 c3).mono ?_
  rintro e s' ⟨L',H',nx',F',σ',q,d1,d2,d3⟩
  cases e with
  |normal=>exact q.elim
  |ret=>exact ⟨L',H',nx',F',σ',q,d1,d2,d3⟩
  |exit i=>exact ⟨L',H',nx',F',σ',q,d1,d2,d3⟩
 |succ k =>
  refine (u B hB s.m F1 σ1 s.t c1 c2 c3).mono ?_
  rintro e s' ⟨L',H',nx',F',σ',q,d1,d2,d3⟩
  cases e with
  |normal=>exact ⟨k,Nat.lt_succ_self _,L',H',nx',F',σ',q,d1,d2,d3⟩
  |ret=>exact ⟨L',H',nx',F',σ',q,d1,d2,d3⟩
  |exit i=>exact ⟨L',H',nx',F',σ',q,d1,d2,d3⟩
theorem Y0.zero (h:Ae E bn b L H nx (Az (fun _ _ _=>False) Q)):Y0 E bn b Q 0 L H nx:=h
theorem Y0.succ {n:Nat} (h:Ae E bn b L H nx (Az (Y0 E bn b Q n) Q)):Y0 E bn b Q (n+1) L H nx:=h
theorem Az.again {I:Frame→Heap→Nat→Prop} (h:I L H nx):Az I Q .normal L H nx:=h
end
end Go.Vm
namespace Go.Vm
open Go.Am
def XG (names:List (List UInt8)):List (FV×FV):=names.map fun s=>(.str (bs s),.bool true)
theorem a2v (a b:List UInt8):(bs a==bs b)=decide (a=b):=by rw [Ym];simp only [ZN]
theorem Vs {m:Mem} {F:Nat→Prop}:∀ {names:List (List UInt8)} {l:List MapEntry},YW m F (XG names) l→l.map (·.key)=names.map (fun s=>Value.string (bs s))∧l.map (·.val)=names.map (fun _=>Value.bool true)
 |[],[],_=>⟨rfl,rfl⟩
 |[],e::l,h=>by cases h.1
 |s::names,[],h=>by cases h.1
 |s::names,e::l,h=>by
  obtain ⟨h1,h2⟩:=h
  simp only [XG,List.map_cons] at h1 h2
  cases h1 with
  |cons k1 t1 =>
   cases h2 with
   |cons k2 t2 =>
    obtain ⟨e1,e2⟩:=Vs (names:=names) (l:=l) ⟨t1,t2⟩
    rw [List.map_cons,List.map_cons,List.map_cons,List.map_cons,e1,e2]
    constructor
    ·congr 1
     generalize e.key=k at k1
     cases k1;rfl
    ·congr 1
     generalize e.val=k at k2
     cases k2;rfl
theorem VN:∀ {names:List (List UInt8)} {l:List MapEntry},l.map (·.key)=names.map (fun s=>Value.string (bs s))→l.map (·.val)=names.map (fun _=>Value.bool true)→∀ (s:List UInt8) (i:Nat),
 (s∈names→∃ j,Instr.findNow .string (.string (bs s)) l i=some (some (j,.bool true)))∧(s∉names→Instr.findNow .string (.string (bs s)) l i=some none)
 |[],[],_,_,s,i=>⟨fun h=>(by cases h),fun _=>rfl⟩
 |[],e::l,h,_,_,_=>by cases h
 |n::names,[],h,_,_,_=>by cases h
 |n::names,e::l,h1,h2,s,i=>by
  simp only [List.map_cons,List.cons.injEq] at h1 h2
  obtain ⟨i1,i2⟩:=VN h1.2 h2.2 s (i+1)
  have hs:Instr.sameNow .string (.string (bs s)) (.string (bs n))=some (bs s==bs n):=rfl
  rw [a2v] at hs
  unfold Instr.findNow
  rw [h1.1,hs]
  by_cases hn:s=n
  ·rw [decide_eq_true hn]
   simp only [h2.1]
   exact ⟨fun _=>⟨i,rfl⟩,fun h=>absurd (by rw [hn];simp) h⟩
  ·rw [decide_eq_false hn]
   simp only
   refine ⟨fun h=>?_,fun h=>?_⟩
   ·rcases List.mem_cons.1 h with h|h
    ·exact absurd h hn
    ·exact i1 h
   ·exact i2 (fun h'=>h (List.mem_cons_of_mem _ h'))
section
variable {E:Env} {L:Frame} {H:Heap} {nx:Nat} {Q:PV→Heap→Nat→Prop} {w:Bool}
variable {dst:Option Tmp} {ty:TypeId} {pos:String} {af:Array Edge} {gd:Option (Nat×Bool)}
theorem lK {Γ:Nat→Option (List Value×TypeId)} {m:Mem} {F:Nat→Prop} {σ:Nat→Value} {t:Tr Value} {b:Nat} {o:Operand} {es:List (FV×FV)} (hx:Ctx Γ m F σ H nx) (hl:RL m F (htag H) σ nx L t) (h:Bq Γ L o=some (.mref b)) (hb:hget H b=some (.map es)):ev t o=σ b:=by
 have:=Cc hx hl h
 generalize ev t o=v at this
 cases this with
 |mref _ _ h3=>exact h3 (by simp [htag,hb,HB.tag])
theorem Aa.makeMap {t:TypeId} (q:Q (.mref nx) ((nx,.map [])::H) (nx+1)):Aa E w ⟨dst,.makeMap t none,ty,pos,af,gd⟩ L H nx Q:=by
 intro m F σ tt h1 h2
 obtain ⟨c1,c2,c3⟩:=h1.new (m':=m.alloc (.map [] 0)) (x:=.map []) (s:=.map (some m.size)) (by simp [Mem.alloc]) (fun c hc=>by rw [Mem.CP,if_neg (by omega)]) (by simp only [Mem.alloc];omega) (fun c hc=>by simp only [Dn,Option.some.injEq] at hc;omega)
  ⟨m.size,[],0,rfl,by simp [Mem.alloc],fun hf=>Nat.lt_irrefl _ (h1.fr _ hf),by rw [Mem.CP,if_pos rfl],⟨.nil,.nil⟩⟩
 exact Hu.op (v:=.map (some m.size)) (fun _=>rfl) ⟨_,_,_,F,_,q,c1,.mref (Nat.lt_succ_self _) rfl fun _=>(upd_same _ _ _).symm,c2,fun _=>c3⟩
theorem Aa.Ir {t kt et:TypeId} {x k:Operand} {b:Nat} {names:List (List UInt8)} {s:List UInt8} (hx:Bq E.Γ L x=some (.mref b)) (hb:hget H b=some (.map (XG names))) (hk:Bq E.Γ L k=some (st s))
 (ht:E.P.underlying t=some (.map kt et)) (hkk:HY E.P kt=some .string) (hz:zeroOf E.P et=some (.bool false)) (q:Q (.p (.bool (decide (s∈names)))) H nx):Aa E w ⟨dst,.lookup t x k false,ty,pos,af,gd⟩ L H nx Q :=
 Aa.quiet q fun m F σ tt c1 c2=>by
  obtain ⟨_,r,l,clock,r1,r2,r3,r4,r5⟩:=c1.hp b _ hb
  obtain ⟨e1,e2⟩:=Vs r5
  obtain ⟨f1,f2⟩:=VN e1 e2 s 0
  refine ⟨.bool (decide (s∈names)),fun _=>?_,.p (.bool _)⟩
  simp only [CQ,Fg,U1,QL,ht,hkk,hz,lK c1 c2 hx hb,Ku c1 c2 hk,r1,r4]
  rw [show (plain (Value.bool false)&&plain (Value.string (bs s)))=true from rfl]
  by_cases h:s∈names
  ·obtain ⟨j,hj⟩:=f1 h
   simp only [if_true,hj,Bool.false_eq_true,if_false,Option.map_some,decide_eq_true h]
  ·simp only [if_true,f2 h,Bool.false_eq_true,if_false,Option.map_some,decide_eq_false h]
theorem DC.snoc {m:Mem} {F:Nat→Prop}:∀ {cs:List FV} {vs:List Value} {c:FV} {v:Value},DC m F cs vs→RF m F c v→DC m F (cs++[c]) (vs++[v])
 |_,_,_,_,.nil,h=>.cons h .nil
 |_,_,_,_,.cons a t,h=>.cons a (DC.snoc t h)
theorem Aa.ZJ {t kt et:TypeId} {x k y:Operand} {b:Nat} {names:List (List UInt8)} {s:List UInt8} (hx:Bq E.Γ L x=some (.mref b)) (hb:hget H b=some (.map (XG names))) (hk:Bq E.Γ L k=some (st s)) (hy:Bq E.Γ L y=some (.p (.bool true)))
 (ht:E.P.underlying t=some (.map kt et)) (hkk:HY E.P kt=some .string) (hn:s∉names) (q:Q (.ET []) (hput H b (.map (XG (names++[s])))) nx):Aa E true ⟨dst,.mapUpdate t x k y,ty,pos,af,gd⟩ L H nx Q:=by
 intro m F σ tt c1 c2
 obtain ⟨_,r,l,clock,r1,r2,r3,r4,r5⟩:=c1.hp b _ hb
 obtain ⟨e1,e2⟩:=Vs r5
 have f2:=(VN e1 e2 s 0).2 hn
 have hput':∀ d x,r≠d→(m.put r x).get d=m.get d:=fun d x hd=>by rw [Mem.get_put,if_neg hd]
 obtain ⟨d1,d2⟩:=c1.change (m':=m.put r (.map (l++[{ key:=.string (bs s),val:=.bool true,born:=clock }]) (clock+1))) (x':=.map (XG (names++[s]))) (s':=σ b) hb trivial (fun _=>rfl) (Nat.le_refl _)
  (fun d _ hd=>hput' d _ fun e=>hd (by rw [r1,e];rfl)) (fun k k1 k2 k3=>by
   have:=k3 r (by rw [r1];rfl)
   simp only [Mem.put];omega) (fun d hd=>.inl hd) (by
   refine ⟨r,_,clock+1,r1,r2,r3,by rw [Mem.get_put,if_pos rfl],?_⟩
   have hF:∀ d,F d→F d∧(m.put r (.map (l++[{ key:=.string (bs s),val:=.bool true,born:=clock }]) (clock+1))).get d=m.get d:=fun d hd=>⟨hd,hput' d _ fun e=>r3 (e▸hd)⟩
   unfold YW XG
   simp only [List.map_append,List.map_cons,List.map_nil]
   exact ⟨DC.snoc (r5.1.mono hF) (.str _),DC.snoc (r5.2.mono hF) (.bool _)⟩)
 refine Hu.op (v:=undef) (fun _=>?_) ⟨_,_,_,F,_,q,d1,.ET .nil,d2,fun h=>by cases h⟩
 have hv:ev tt y=.bool true:=Ib c1 c2 hy
 simp only [CQ,Fg,LC,QL,ht,hkk,lK c1 c2 hx hb,Ku c1 c2 hk,hv,r1,r4]
 rw [show plain (Value.string (bs s))=true from rfl]
 simp only [if_true,f2,Option.map_some]
end
end Go.Vm
namespace Go.Vm
open Go.Am
end Go.Vm
namespace Go.Am
section
variable {P:Program} {O:CB} {G:List Nat}
def IG (key:Value) (rows:List (List Value)):Value:=.tuple #[key,.tuple (rows.map fun r=>Value.tuple r.toArray).toArray]
theorem Us:∀ rows:List (List Value),UR (rows.map fun r=>Value.tuple r.toArray)=some rows
 |[]=>rfl
 |r::rows=>by simp only [List.map_cons,UR,qX,Us rows]
theorem J7 (key:Value) (rows:List (List Value)):Oe (IG key rows)=some rows:=Us rows
def L9 (P:Program) (O:CB) (G:List Nat) (Lj body:Code) (n:Nat) (ask:Mem→Prop) (t:Tr Value) (ps:List Tmp):List (List Value)→Mem→(CG→Mem→Prop)→Prop
 |[],m,Q=>Q .normal m
 |vs::rest,m,Q=>vs.length=n∧vs.all plain=true∧Ld P O G Lj { t:=JD t ps vs,m:=H6 m m.size } fun e s1=>e=.normal∧Ld P O G body s1 fun e s2=>match e with
  | .normal=>ask (H6 s2.m (min m.low s2.m.low))∧L9 P O G Lj body n ask t ps rest (H6 s2.m (min m.low s2.m.low)) Q
  |e=>Q e (H6 s2.m (min m.low s2.m.low))
theorem L9.run {Lj body:Code} {n:Nat} {ask:Mem→Prop} {a1e:Nat→Nat→Mem→Prop} (hk:∀ N D m,1≤D→(a1e N D m↔ask m)) {t:Tr Value} {ps:List Tmp}:∀ {rows:List (List Value)} {m:Mem} {Q:CG→Mem→Prop},L9 P O G Lj body n ask t ps rows m Q →
 ∃ e m',(∃ K,∀ N D,K≤N→K≤D→D7 n (CU P (EH P O G N D) N Lj) (CU P (EH P O G N D) N body) (a1e N D) t ps rows m=some (e,m'))∧Q e m'
 |[],m,Q,h=>⟨.normal,m,⟨0,fun N D _ _=>rfl⟩,h⟩
 |vs::rest,m,Q,⟨h1,h2,e1,s1,hk1,he,e2,s2,hk2,q⟩=>by
  subst he
  obtain ⟨K1,k1⟩:=hk1
  obtain ⟨K2,k2⟩:=hk2
  have k1:∀ N D,K1≤N→K1≤D→CU P (EH P O G N D) N Lj { t:=JD t ps vs,m:=H6 m m.size }=some (.normal,s1):=k1
  have k2:∀ N D,K2≤N→K2≤D→CU P (EH P O G N D) N body s1=some (e2,s2):=k2
  cases e2 with
  |normal =>
   obtain ⟨qa,qr⟩:=q
   obtain ⟨e,m',⟨K3,k3⟩,qe⟩:=L9.run hk qr
   refine ⟨e,m',⟨max (max K1 K2) (max K3 1),fun N D hN hD=>?_⟩,qe⟩
   have ha:=(hk N D (H6 s2.m (min m.low s2.m.low)) (by omega)).2 qa
   simp only [D7]
   rw [if_pos ⟨h1,h2⟩,k1 N D (by omega) (by omega)]
   simp only
   rw [k2 N D (by omega) (by omega)]
   simp only
   rw [if_pos ha]
   exact k3 N D (by omega) (by omega)
  |ret =>
   refine ⟨.ret,_,⟨max K1 K2,fun N D hN hD=>?_⟩,q⟩
   simp only [D7]
   rw [if_pos ⟨h1,h2⟩,k1 N D (by omega) (by omega)]
   simp only
   rw [k2 N D (by omega) (by omega)]
  |exit id =>
   refine ⟨.exit id,_,⟨max K1 K2,fun N D hN hD=>?_⟩,q⟩
   simp only [D7]
   rw [if_pos ⟨h1,h2⟩,k1 N D (by omega) (by omega)]
   simp only
   rw [k2 N D (by omega) (by omega)]
theorem Ld.rangeFunc {f:Operand} {ps:Array Tmp} {Lj body:Code} {s:St} {g:FuncId} {lb:Array Value} {fn:Func} {Fo:List Value→Mem→Option (Value×Mem)} {key:Value} {rows:List (List Value)} {Q:CG→St→Prop} (hev:ev s.t f=.func (.func g) #[] lb) (hfn:P.funcs[g]?=some fn)
 (hfl:(flat Lj&&flat body)=true) (ho:O g=some Fo) (hc:∃ m1,Fo (D9 fn.ntmps lb.toList) s.m=some (IG key rows,m1))
 (h:L9 P O G Lj body ps.size (fun m'=>∃ m1,Fo (D9 fn.ntmps lb.toList) m'=some (IG key rows,m1)) s.t ps.toList rows s.m fun e m'=>Q e { t:=s.t,m:=m' }):Ld P O G (.rangeFunc f ps Lj body) s Q:=by
 simp only [Bool.and_eq_true] at hfl
 have e1:∀ N D m',1≤D→EH P O G N D g (D9 fn.ntmps lb.toList) m'=Fo (D9 fn.ntmps lb.toList) m':=fun N D m' hD=>by
  obtain ⟨D,rfl⟩:∃ j,D=j+1:=⟨D-1,by omega⟩
  have hl:=Qi fn.ntmps lb.toList
  cases h0:Fo (D9 fn.ntmps lb.toList) m' with
  |some r=>simp only [EH,ho,Option.bind_some,h0]
  |none =>
   simp only [EH,ho,Option.bind_some,h0,hfn]
   split
   ·rfl
   ·rw [if_neg (by simp only [Bool.and_eq_true,decide_eq_true_eq];omega)]
 obtain ⟨e,m',⟨K,hK⟩,q⟩:=L9.run (a1e:=fun N D m'=>∃ m1,EH P O G N D g (D9 fn.ntmps lb.toList) m'=some (IG key rows,m1)) (fun N D m' hD=>by rw [e1 N D m' hD]) h
 obtain ⟨m1,hc⟩:=hc
 refine ⟨e,_,⟨max K 1,fun N D hN hD=>?_⟩,q⟩
 have hr:=hK N D (by omega) (by omega)
 simp only [CU,hev,hfn]
 rw [if_pos ⟨rfl,hfl.1,hfl.2⟩,e1 N D s.m (by omega),hc]
 simp only [J7]
 rw [hr];rfl
end
end Go.Am
namespace Go.Vm
open Go.Am
section
variable {E:Env} {bn:Nat} {L:Vm.Frame} {H:Vm.Heap} {nx:Nat} {Q:CG→Vm.Frame→Vm.Heap→Nat→Prop}
def sJ (L:Vm.Frame):List Tmp→List FV→Vm.Frame
 |p::ps,f::fs=>sJ (LQ L (some p) (.p f)) ps fs
 |_,_=>L
theorem RL.JD {m:Mem} {F:Nat→Prop} {T:Nat→Option Tg} {σ:Nat→Value} {nx:Nat}:∀ {ps:List Tmp} {fs:List FV} {vs:List Value} {L:Vm.Frame} {t:Tr Value},RL m F T σ nx L t→DC m F fs vs→RL m F T σ nx (sJ L ps fs) (JD t ps vs)
 |[],fs,vs,L,t,h,hr=>by cases hr<;>exact h
 |p::ps,_,_,L,t,h,.nil=>h
 |p::ps,_,_,L,t,h,.cons (v:=v) (vs:=vs) h1 h2=>RL.JD (ps:=ps) (t:=Vl t p v) (h.put (d:=some p) (.p h1)) h2
def b1b (E:Env) (g:FuncId) (fn:Func) (cs:List PV) (H:Vm.Heap) (nx:Nat) (key:Value) (rows:List (List Value)):Prop :=
 ∀ Fo,E.O g=some Fo→∀ m F σ lb,Ctx E.Γ m F σ H nx→Dz m F (htag H) σ nx cs lb→∃ m1,Fo (D9 fn.ntmps lb) m=some (IG key rows,m1)
def RQ (iv:Prop) (DR:Nat) (L0:Vm.Frame) (H1:Vm.Heap) (Q:CG→Vm.Frame→Vm.Heap→Nat→Prop):CG→Vm.Frame→Vm.Heap→Nat→Prop
 | .normal,_,H',nx'=>iv∧DR≤nx'∧Aj DR H1 H'
 |e,_,H',nx'=>DR≤nx'∧∃ H2,Aj DR H2 H'∧Q e L0 H2 DR
end
end Go.Vm
namespace Go.Vm
open Go.Am
section
variable {P:Program} {G:List Nat}
theorem Jw (n:Nat) (lb:List Value):(D9 n lb).drop (n+1)=lb:=by
 unfold D9
 rw [List.drop_append_of_le_length (by simp),List.drop_of_length_le (by simp)];rfl
theorem jr {k k':Value} {a b:List (List Value)} (h:IG k a=IG k' b):k=k'∧a=b:=by
 have:=congrArg Oe h
 rw [J7,J7] at this
 refine ⟨?_,Option.some.inj this⟩
 unfold IG at h
 simp only [Value.tuple.injEq] at h
 have h2:=congrArg (fun x=>x.toList) h
 simp only [List.cons.injEq] at h2
 exact h2.1
abbrev zT:=List Value→Mem→Option (Value×List (List Value))
open Classical in
noncomputable def Uo (G:List Nat) (M0:Mem) (nt:Nat) (Sq:zT) (Cb:List Value) (m:Mem):Option (Value×Mem) :=
 if Cb=D9 nt (Cb.drop (nt+1))∧∀ k∈G,m.get k=M0.get k then (Sq (Cb.drop (nt+1)) m).map fun kr=>(IG kr.1 kr.2,m) else none
noncomputable def yY (G:List Nat) (M0:Mem) (gf:FuncId) (nt:Nat) (Sq:zT) (O:CB):CB:=fun f=>if f=gf then some (Uo G M0 nt Sq) else O f
theorem lQ {M0:Mem} {gf f:FuncId} {nt:Nat} {Sq:zT} {O:CB} (h:f≠gf):yY G M0 gf nt Sq O f=O f:=if_neg h
theorem lM {M0:Mem} {gf:FuncId} {nt:Nat} {Sq:zT} {O:CB}:yY G M0 gf nt Sq O gf=some (Uo G M0 nt Sq):=if_pos rfl
theorem Ll {M0:Mem} {nt:Nat} {Sq:zT} {Cb:List Value} {m:Mem} {r:Value×Mem} (h:Uo G M0 nt Sq Cb m=some r):∃ lb kr,Cb=D9 nt lb∧(∀ k∈G,m.get k=M0.get k)∧Sq lb m=some kr∧r=(IG kr.1 kr.2,m):=by
 unfold Uo at h
 split at h
 case isFalse=>cases h
 rename_i hc
 rw [Option.map_eq_some_iff] at h
 obtain ⟨rows,h1,h2⟩:=h
 exact ⟨_,rows,hc.1,hc.2,h1,h2.symm⟩
theorem uT {M0:Mem} {nt:Nat} {Sq:zT} {lb:List Value} {m:Mem} {kr:Value×List (List Value)} (hg:∀ k∈G,m.get k=M0.get k) (h:Sq lb m=some kr):Uo G M0 nt Sq (D9 nt lb) m=some (IG kr.1 kr.2,m):=by
 unfold Uo
 rw [Jw,if_pos ⟨rfl,hg⟩,h];rfl
theorem dK {ι:BU} {g:Nat→Nat} {v:Value} (h:AZ ι g U3 v):False:=by cases h
theorem Zf {gf:Nat} {lb:Array Value} {rows:List (List Value)} {I1 I2:World→Prop} {w:World} (h:WX P gf lb rows I2 w) (hi:∀ W,I1 W→I2 W):WX P gf lb rows I1 w :=
 fun l J Jx W hb hJ hx hy h0 hj=>h l J Jx W hb hJ hx (fun i W1 hi' hj'=>by
  obtain ⟨fn,tmps,Lj,body,e1,e2⟩:=hy i W1 hi' hj'
  refine ⟨fn,tmps,Lj,body,e1,e2.mono ?_⟩
  rintro e W' (⟨q1,q2,q3⟩|q)
  ·exact .inl ⟨q1,q2,hi _ q3⟩
  ·exact .inr q) (hi _ h0) hj
theorem jW {M0:Mem} {gf:FuncId} {nt:Nat} {Sq:zT} {O:CB} (hO:GV P G O) (he:Am.Enters P gf) (hnt:∀ fn,P.funcs[gf]?=some fn→fn.ntmps=nt)
 (hs:∀ (lb:List Value) (m:Mem) (key:Value) (rows:List (List Value)),Sq lb m=some (key,rows)→(∀ k∈G,m.get k=M0.get k)→∀ (ι:BU) (w:World) (lb':Array Value),Eb P G ι m w→BJ ι m.gen lb lb'.toList →
  WX P gf lb' rows (V5 P G (fun m'=>Sq lb m'=some (key,rows)∧∀ k∈G,m'.get k=M0.get k) ι m.gen lb lb') w):GV P G (yY G M0 gf nt Sq O):=by
 intro f Fo hf
 by_cases h:f=gf
 ·subst h
  rw [lM] at hf
  cases hf
  refine ⟨fun Cb m v m' hv ι w as' hs' hrel=>?_,fun Cb m v m' hv=>?_,he,fun fn lb m m1 v rows hfn hv hr ι w lb' Ed hl=>?_⟩
  ·obtain ⟨lb,rows,rfl,_⟩:=Ll hv
   rw [jO] at hrel
   obtain ⟨v',k',_,h2,_⟩:=hrel.Ls
   exact (dK h2).elim
  ·obtain ⟨lb,rows,_,_,_,e⟩:=Ll hv
   cases e;exact Bg.refl _
  ·rw [hnt fn hfn] at hv ⊢
   obtain ⟨lb2,zH,e1,e2,e3,e4⟩:=Ll hv
   have e5:lb=lb2:=by
    have:=congrArg (List.drop (nt+1)) e1
    rwa [Jw,Jw] at this
   subst e5
   obtain ⟨key2,zH⟩:=zH
   cases e4
   rw [J7] at hr
   cases hr
   refine Zf (hs lb m _ _ e3 e2 ι w lb' Ed hl) ?_
   rintro W ⟨ι',m',q1,q2,⟨m2,q3⟩,q4⟩
   obtain ⟨lb3,zu,p1,p2,p3,p4⟩:=Ll q3
   have e6:lb=lb3:=by
    have:=congrArg (List.drop (nt+1)) p1
    rwa [Jw,Jw] at this
   subst e6
   simp only [Prod.mk.injEq] at p4
   obtain ⟨r1,r2⟩:=jr p4.1
   obtain ⟨b1k,zu⟩:=zu
   simp only at r1 r2
   subst r1;subst r2
   exact ⟨ι',m',q1,q2,⟨p3,p2⟩,q4⟩
 ·rw [lQ h] at hf
  exact hO f Fo hf
end
end Go.Vm
