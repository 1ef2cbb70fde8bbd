/-
  Texts of a proof, merged (VmB, VmC, VmD, Shelf, NumA, WA, Lib1, OraA, Shell, Am23, VmE, Vm30, Orq). Conditions: in each statement.
-/
import Derived.Laws.Strings
import Derived.Laws.Strings2
import Derived.Laws.Concat
import Derived.Shelf.Strings.Builder1
import Derived.Shelf.Strings.Builder2
import Derived.Shelf.Small.Strs
import Derived.Shelf.Strings.BuilderF
import Derived.Shelf.Strings.BuilderK
import Derived.Shelf.Strconv.Itoa0
import Derived.Shelf.Strconv.Itoa1
import Derived.Shelf.LaysM
import Derived.Shelf.Strconv.Itoa2
import Derived.Shelf.Strconv.Itoa3
import Derived.Shelf.Strings.Prefix
import Derived.Shelf.Bits.Mul64
import Derived.Shelf.Strings.Repeat
import Derived.Test.YtdabojnmoejilaaGreatDoorProg
import Derived.Lib.ItoaNum
import Derived.Lib.Bytealg
import Derived.Lib.AppendIntMem
import Derived.Lib.OthersKept
import Derived.Lib.Walk
import Derived.WalkKit
import Derived.BigCall
import Derived.BigGuard
import Derived.RangeFuncBox
import Derived.RangeFuncLeaves
import Derived.RangeFuncBound
import Derived.RangeFuncCalls
import Derived.Shelf.Abstract
import Derived.OwnWalkIn
import Derived.TacticsInMore
import Derived.LoopNIn
import Derived.LoopIn
import Derived.Laws.AppendOwn
import Derived.Test.YtdabojnmoejilaaGreatDoorTie
import Derived.ProofKit
import Derived.LaidMore
import Derived.OpenShut
import Derived.Below
import Derived.MakeChecks
import Derived.Stop.Joined
import Derived.Test.YtdabojnmoejilaaGreatDoorKKb
set_option linter.unusedSimpArgs false
set_option linter.unusedVariables false
set_option linter.unusedSectionVars false
set_option maxRecDepth 100000
set_option maxHeartbeats 8000000
namespace Go.Vm
open Go.Am
variable {E:Env} {L:Frame} {H:Heap} {nx:Nat} {Q:PV→Heap→Nat→Prop} {w:Bool}
variable {dst:Option Tmp} {ty:TypeId} {pos:String} {af:Array Edge} {gd:Option (Nat×Bool)}
def gi {α:Type} [Inhabited α] (l:List α) (k:Nat):α:=(l[k]?).getD default
def encs {α:Type} (enc:α→List FV):List α→List FV
 |[]=>[]
 |a::l=>enc a++encs enc l
class Enc (α:Type) extends Inhabited α where
 enc:α→List FV
 size:Nat
 len:∀ a,(enc a).length=size
section
variable {α:Type} [Enc α]
abbrev cells (l:List α):List FV:=encs Enc.enc l
theorem BK (l:List α):(cells l).length=l.length*Enc.size α:=by
 induction l with
 |nil=>simp [cells,encs]
 |cons a l ih=>simp only [cells,encs,List.length_append,Enc.len,List.length_cons,Nat.succ_mul] at ih ⊢;omega
theorem ZP (a:α) (l:List α) (k:Nat):gi (a::l) (k+1)=gi l k:=rfl
theorem Me:∀ (l:List α) (k:Nat),k<l.length→(cells l).drop (k*Enc.size α)=Enc.enc (gi l k)++cells (l.drop (k+1))
 |a::l,0,_=>by simp [cells,encs,gi]
 |a::l,k+1,h=>by
  have ih:=Me l k (by simpa using h)
  simp only [cells,encs,List.drop_succ_cons,ZP] at ih ⊢
  rw [← ih,List.drop_append,Enc.len,List.drop_eq_nil_of_le (by rw [Enc.len,Nat.succ_mul];omega)]
  simp [Nat.succ_mul]
 |[],_,h=>by simp at h
theorem En:∀ (l r:List α),cells (l++r)=cells l++cells r
 |[],_=>rfl
 |a::l,r=>by simp only [cells,encs,List.cons_append,List.append_assoc];rw [← En l r]
end
instance:Enc Int:={ default:=0,enc:=fun n=>[.int .i64 n],size:=1,len:=fun _=>rfl }
theorem Aa.Ze {α:Type} {_:Enc α} {t:TypeId} {x ix:Operand} {e:TypeId} {l:List α} {n:Nat} {k:IntKind} {i:Int} (hx:BG E.Γ L x=some (.p (.lst e (cells l) n))) (hi:BG E.Γ L ix=some (.p (.int k i)))
 (hs:elemSize E.P t=some (Enc.size α)) (h0:0≤i) (h1:i<l.length) (hn:l.length=n) (q:Q (.p (.Gu (Enc.enc (gi l i.toNat)++cells (l.drop (i.toNat+1))))) H nx):Aa E w ⟨dst,.indexAddr t x ix,ty,pos,af,gd⟩ L H nx Q :=
 Aa.Sj hx hi hs h0 (by rw [← hn];exact h1) (by rw [Me l i.toNat (by omega)];exact q)
theorem Aa.Ba {α:Type} {_:Enc α} {t:TypeId} {x ix:Operand} {e:TypeId} {l:List α} {n:Nat} {k:IntKind} {i:Nat} (hx:BG E.Γ L x=some (.p (.lst e (cells l) n))) (hi:BG E.Γ L ix=some (.p (.int k (i:Int))))
 (hs:elemSize E.P t=some (Enc.size α)) (h1:i<l.length) (hn:l.length=n) (q:Q (.p (.Gu (Enc.enc (gi l i)++cells (l.drop (i+1))))) H nx):Aa E w ⟨dst,.indexAddr t x ix,ty,pos,af,gd⟩ L H nx Q :=
 Aa.Ze hx hi hs (by omega) (by omega) hn q
theorem Aa.uH {α:Type} {_:Enc α} {t:TypeId} {x ix:Operand} {e:TypeId} {l:List α} {n:Nat} {k:IntKind} {i:Nat} (hx:BG E.Γ L x=some (.p (.lst e (cells l) n))) (hi:BG E.Γ L ix=some (.p (.int k ((i:Int)-1))))
 (hs:elemSize E.P t=some (Enc.size α)) (h0:0<i) (h1:i-1<l.length) (hn:l.length=n) (q:Q (.p (.Gu (Enc.enc (gi l (i-1))++cells (l.drop (i-1+1))))) H nx):Aa E w ⟨dst,.indexAddr t x ix,ty,pos,af,gd⟩ L H nx Q :=
 Aa.Ze hx hi hs (by omega) (by omega) hn (by rw [show ((i:Int)-1).toNat=i-1 by omega];exact q)
abbrev lst {α:Type} [Enc α] (e:TypeId) (l:List α):PV:=.p (.lst e (cells l) l.length)
section
variable {bn:Nat} {ops:Array Oper} {op:Op} {l:List Oper} {i:Nat} {R:Frame→Heap→Nat→Prop}
theorem Af.one (h:Aa E true ⟨dst,op,ty,pos,af,none⟩ L H nx fun r H' nx'=>Af E bn ops l (OV L dst r) H' nx' R):Af E bn ops (⟨dst,op,ty,pos,af,none⟩::l) L H nx R:=Af.cons rfl h
theorem Af.take {j d:Nat} {want:Bool} (hd:(ops[j]?).bind (·.dst)=some d) (hb:GV L d=some (.p (.bool want))) (h:Aa E true ⟨dst,op,ty,pos,af,some (j,want)⟩ L H nx fun r H' nx'=>Af E bn ops l (OV L dst r) H' nx' R) :
 Af E bn ops (⟨dst,op,ty,pos,af,some (j,want)⟩::l) L H nx R:=Af.cons ⟨want,d,hd,hb,by cases want<;>rfl⟩ h
theorem Af.drop {j d:Nat} {want b:Bool} (hd:(ops[j]?).bind (·.dst)=some d) (hb:GV L d=some (.p (.bool b))) (hne:(b==want)=false) (h:Af E bn ops l (OV L dst (.EW [])) H nx R) :
 Af E bn ops (⟨dst,op,ty,pos,af,some (j,want)⟩::l) L H nx R:=Af.skip ⟨b,d,hd,hb,hne.symm⟩ h
theorem Aq.drop {j d:Nat} {want b:Bool} (hd:(ops[j]?).bind (·.dst)=some d) (hb:GV L d=some (.p (.bool b))) (hne:(b==want)=false) (h:Aq E bn ops (i+1) l (OV L dst (.EW [])) H nx R) :
 Aq E bn ops i (⟨dst,op,ty,pos,af,some (j,want)⟩::l) L H nx R:=Aq.skip ⟨b,d,hd,hb,hne.symm⟩ h
theorem Af.guard {j d:Nat} {want:Bool} {p:Prop} {_:Decidable p} (hd:(ops[j]?).bind (·.dst)=some d) (hb:GV L d=some (.p (.bool (decide p))))
 (ht:p→Af E bn ops (⟨dst,op,ty,pos,af,some (j,want)⟩::l) ((d,.p (.bool true))::L) H nx R) (hf:¬ p→Af E bn ops (⟨dst,op,ty,pos,af,some (j,want)⟩::l) ((d,.p (.bool false))::L) H nx R) :
 Af E bn ops (⟨dst,op,ty,pos,af,some (j,want)⟩::l) L H nx R:=Af.split rfl hd hb ht hf
theorem Aq.guard {j d:Nat} {want:Bool} {p:Prop} {_:Decidable p} (hd:(ops[j]?).bind (·.dst)=some d) (hb:GV L d=some (.p (.bool (decide p))))
 (ht:p→Aq E bn ops i (⟨dst,op,ty,pos,af,some (j,want)⟩::l) ((d,.p (.bool true))::L) H nx R) (hf:¬ p→Aq E bn ops i (⟨dst,op,ty,pos,af,some (j,want)⟩::l) ((d,.p (.bool false))::L) H nx R) :
 Aq E bn ops i (⟨dst,op,ty,pos,af,some (j,want)⟩::l) L H nx R:=Aq.split rfl hd hb ht hf
def AU (E:Env) (bn:Nat) (k:Code) (Q:CO→Frame→Heap→Nat→Prop) (e:CO) (L:Frame) (H:Heap) (nx:Nat):Prop :=
 match e with
 | .normal=>Ad E bn k L H nx Q
 | .ret=>Q .ret L H nx
 | .exit i=>Q (.exit i) L H nx
def AO (id:Nat) (Q:CO→Frame→Heap→Nat→Prop) (e:CO) (L:Frame) (H:Heap) (nx:Nat):Prop :=
 match e with
 | .normal=>Q .normal L H nx
 | .ret=>Q .ret L H nx
 | .exit i=>if i=id then Q .normal L H nx else Q (.exit i) L H nx
def Aw (I:Frame→Heap→Nat→Prop) (Q:CO→Frame→Heap→Nat→Prop) (e:CO) (L:Frame) (H:Heap) (nx:Nat):Prop :=
 match e with
 | .normal=>I L H nx
 | .ret=>Q .ret L H nx
 | .exit i=>Q (.exit i) L H nx
variable {Q:CO→Frame→Heap→Nat→Prop} {I:Frame→Heap→Nat→Prop} {a b c k:Code} {id:Nat} {x:Operand}
theorem AU.normal (h:Ad E bn k L H nx Q):AU E bn k Q .normal L H nx:=h
theorem AU.ret (h:Q .ret L H nx):AU E bn k Q .ret L H nx:=h
theorem AU.exit (h:Q (.exit i) L H nx):AU E bn k Q (.exit i) L H nx:=h
theorem AO.normal (h:Q .normal L H nx):AO id Q .normal L H nx:=h
theorem AO.ret (h:Q .ret L H nx):AO id Q .ret L H nx:=h
theorem AO.exit (h:Q .normal L H nx):AO id Q (.exit id) L H nx:=by simp only [AO,if_true];exact h
theorem AO.out (hi:i≠id) (h:Q (.exit i) L H nx):AO id Q (.exit i) L H nx:=by simp only [AO,if_neg hi];exact h
theorem Aw.normal (h:I L H nx):Aw I Q .normal L H nx:=h
theorem Aw.ret (h:Q .ret L H nx):Aw I Q .ret L H nx:=h
theorem Aw.exit (h:Q (.exit i) L H nx):Aw I Q (.exit i) L H nx:=h
theorem Ad.to (h:Ad E bn a L H nx (AU E bn k Q)):Ad E bn (.seq a k) L H nx Q :=
 Ad.seq (h.mono fun e _ _ _ q=>by cases e<;>exact q)
theorem Ad.AA (h:Af E bn ops ops.toList L H nx fun L' H' nx'=>Ad E bn k L' H' nx' Q):Ad E bn (.seq (.region id ops false) k) L H nx Q:=Ad.seq (Ad.region h)
theorem Ad.Bj (h:Aq E bn ops 0 ops.toList L H nx fun L' H' nx'=>Ad E bn k L' H' nx' Q):Ad E bn (.seq (.region id ops true) k) L H nx Q:=Ad.seq (Ad.Fq h)
theorem Ad.assoc (h:Ad E bn (.seq a (.seq b c)) L H nx Q):Ad E bn (.seq (.seq a b) c) L H nx Q:=by
 intro B hB m F σ t h1 h2 h3
 obtain ⟨e,s,⟨K,hk⟩,q⟩:=h B hB m F σ t h1 h2 h3
 refine ⟨e,s,⟨K,fun N D hN hD=>?_⟩,q⟩
 have:=hk N D hN hD
 simp only [CW] at this ⊢
 cases ha:CW E.P (ER E.P E.O E.G N D) N a ⟨t,m⟩ with
 |none=>rw [ha] at this;cases this
 |some r =>
  rw [ha] at this
  obtain ⟨e1,s1⟩:=r
  cases e1<;>simpa using this
theorem Ad.Ar (h:Ad E bn k L H nx Q):Ad E bn (.seq .skip k) L H nx Q:=Ad.seq (Ad.skip h)
theorem Ad.BI (h:Q .ret L H nx):Ad E bn (.seq .ret k) L H nx Q:=Ad.seq (Ad.ret h)
theorem Ad.A8 (h:Q (.exit i) L H nx):Ad E bn (.seq (.exit i) k) L H nx Q:=Ad.seq (Ad.exit h)
theorem Ad.Ai (h:Ad E bn a L H nx (AO id (AU E bn k Q))):Ad E bn (.seq (.block id a) k) L H nx Q :=
 Ad.to (Ad.block (h.mono fun e _ _ _ q=>by cases e<;>exact q))
theorem Ad.Fv (h:Ad E bn a L H nx (AO id Q)):Ad E bn (.block id a) L H nx Q :=
 Ad.block (h.mono fun e _ _ _ q=>by cases e<;>exact q)
theorem Ad.QV (t:Bool) (hc:BG E.Γ L x=some (.p (.bool t))) (ht:t=true→Ad E bn (.seq a k) L H nx Q) (hf:t=false→Ad E bn (.seq b k) L H nx Q):Ad E bn (.seq (.cond x a b) k) L H nx Q:=by
 intro B hB m F σ u h1 h2 h3
 have hx:=Io h1 h2 hc
 cases t with
 |true =>
  obtain ⟨e',s,⟨K,hk⟩,q⟩:=ht rfl B hB m F σ u h1 h2 h3
  exact ⟨e',s,⟨K,fun N D hN hD=>by have:=hk N D hN hD;simp only [CW,hx] at this ⊢;exact this⟩,q⟩
 |false =>
  obtain ⟨e',s,⟨K,hk⟩,q⟩:=hf rfl B hB m F σ u h1 h2 h3
  exact ⟨e',s,⟨K,fun N D hN hD=>by have:=hk N D hN hD;simp only [CW,hx] at this ⊢;exact this⟩,q⟩
theorem Ad.Bc (hc:BG E.Γ L x=some (.p (.bool true))) (ht:Ad E bn (.seq a k) L H nx Q):Ad E bn (.seq (.cond x a b) k) L H nx Q:=Ad.QV true hc (fun _=>ht) (fun h=>by cases h)
theorem Ad.Az (hc:BG E.Γ L x=some (.p (.bool false))) (hf:Ad E bn (.seq b k) L H nx Q):Ad E bn (.seq (.cond x a b) k) L H nx Q:=Ad.QV false hc (fun h=>by cases h) (fun _=>hf)
theorem Ad.Ae {p:Prop} {_:Decidable p} (hc:BG E.Γ L x=some (.p (.bool (decide p)))) (ht:p→Ad E bn (.seq a k) L H nx Q) (hf:¬ p→Ad E bn (.seq b k) L H nx Q):Ad E bn (.seq (.cond x a b) k) L H nx Q :=
 Ad.QV (decide p) hc (fun h=>ht (of_decide_eq_true h)) (fun h=>hf (of_decide_eq_false h))
theorem Ad.Ee {α:Type} (Lf:α→Frame) (Hf:α→Heap) (D6:Nat) (inv:α→Prop) (μ:α→Nat) (a0:α) (hb:bn≤D6) (h0:inv a0) (hc:WS L H nx (Lf a0) (Hf a0) D6)
 (hs:∀ s,inv s→Ad E bn a (Lf s) (Hf s) D6 (Aw (fun L' H' nx'=>∃ s',inv s'∧μ s'<μ s∧WS L' H' nx' (Lf s') (Hf s') D6) Q)):Ad E bn (.loop a) L H nx Q :=
 Ad.loop Lf Hf D6 inv μ a0 hb h0 hc fun s hi=>(hs s hi).mono fun e _ _ _ q=>by cases e<;>exact q
theorem Ap.nil {k:Nat}:Ap k [] L:=trivial
theorem Ap.cons {k i:Nat} {v v0:PV} {L0:Frame} (hu:v0.under k) (hv:GV L i=some v) (hle:kV v v0) (t:Ap k L0 L):Ap k ((i,v0)::L0) L:=⟨⟨hu,v,hv,hle⟩,t⟩
theorem Ap.same {k i:Nat} {v0:PV} {L0:Frame} (hu:v0.under k) (hv:GV L i=some v0) (t:Ap k L0 L):Ap k ((i,v0)::L0) L:=⟨⟨hu,v0,hv,.refl _⟩,t⟩
theorem Ak.nil {k:Nat}:Ak k [] H:=trivial
theorem Ak.cons {k i:Nat} {v v0:HB} {L0:Heap} (hi:i<k) (hu:v0.under k) (hv:hget H i=some v) (hle:Bv v v0) (t:Ak k L0 H):Ak k ((i,v0)::L0) H:=⟨⟨hi,hu,v,hv,hle⟩,t⟩
theorem Done.ret {P:Program} {rs:List ResultVar} {Q:PV→Heap→Nat→Prop} {r r0:PV} {H0:Heap} {D6:Nat} (h:EO P rs L H=some r0) (hle:kV r0 r) (hu:r.under D6) (hH:Ak D6 H0 H) (hn:D6≤nx) (hb:bn≤D6) (q:Q r H0 D6):Done P rs bn Q .ret L H nx :=
 ⟨r0,h,r,H0,D6,hle,hu,hH,hn,hb,q⟩
end
end Go.Vm
namespace Go.Vm
open Go.Am
variable {E:Env} {L:Frame} {H:Heap} {nx:Nat} {Q:PV→Heap→Nat→Prop} {w:Bool}
variable {dst:Option Tmp} {ty:TypeId} {pos:String} {af:Array Edge} {gd:Option (Nat×Bool)}
mutual
def PV.rn (ρ:Nat→Nat):PV→PV
 | .p x=>.p x
 | .agg cs=>.agg (AZ.rn ρ cs)
 | .EW cs=>.EW (AZ.rn ρ cs)
 | .vec b tag off len=>.vec (ρ b) tag off len
 | .ref b off=>.ref (ρ b) off
 | .Ec b tag off=>.Ec (ρ b) tag off
 | .mref b=>.mref (ρ b)
 | .clo f fs cs=>.clo f (AZ.rn ρ fs) (AZ.rn ρ cs)
def AZ.rn (ρ:Nat→Nat):List PV→List PV
 |[]=>[]
 |c::cs=>PV.rn ρ c::AZ.rn ρ cs
end
def HB.rn (ρ:Nat→Nat):HB→HB
 | .box e cs=>.box e (AZ.rn ρ cs)
 | .vec e cs n z=>.vec e cs n z
 | .map es=>.map es
 | .Fj e cs n=>.Fj e (AZ.rn ρ cs) n
theorem HB.uY (ρ:Nat→Nat) (x:HB):(x.rn ρ).tag=x.tag:=by cases x<;>rfl
section
variable {m:Mem} {F:Nat→Prop} {T T':Nat→Option Tg} {σ σ':Nat→Value} {n n':Nat} {ρ:Nat→Nat}
mutual
theorem RP.rn (h:∀ b,b<n→ρ b<n'∧T' (ρ b)=T b∧σ' (ρ b)=σ b):∀ {x:PV} {v:Value},RP m F T σ n x v→RP m F T' σ' n' (x.rn ρ) v
 |_,_,.p r=>.p r
 |_,_,.agg r hc=>.agg (DU.rn h r) hc
 |_,_,.EW r=>.EW (DU.rn h r)
 |_,_,.vec hb hc r=>.vec (h _ hb).1 hc (by rw [(h _ hb).2.1,(h _ hb).2.2];exact r)
 |_,_,.ref hb hc r=>.ref (h _ hb).1 hc (by rw [(h _ hb).2.1,(h _ hb).2.2];exact r)
 |_,_,.Ec hb hc r=>.Ec (h _ hb).1 hc (by rw [(h _ hb).2.1,(h _ hb).2.2];exact r)
 |_,_,.mref hb hc r=>.mref (h _ hb).1 hc (by rw [(h _ hb).2.1,(h _ hb).2.2];exact r)
 |_,_,.clo r1 r2=>.clo (DU.rn h r1) (DU.rn h r2)
theorem DU.rn (h:∀ b,b<n→ρ b<n'∧T' (ρ b)=T b∧σ' (ρ b)=σ b):∀ {x:List PV} {v:List Value},DU m F T σ n x v→DU m F T' σ' n' (AZ.rn ρ x) v
 |_,_,.nil=>.nil
 |_,_,.cons r t=>.cons (RP.rn h r) (DU.rn h t)
end
mutual
theorem RP.UR (h:∀ b,b<n→(∀ t,T b=some t→T' (ρ b)=some t)∧σ' (ρ b)=σ b):∀ {x:PV} {v:Value},x.under n→RP m F T' σ' n' (x.rn ρ) v→RP m F T σ n x v
 | .p _,_,_,r=>by cases r with|p r=>exact .p r
 | .agg cs,_,hu,r=>by
  simp only [PV.rn] at r
  cases r with|agg r hc=>exact .agg (DU.UR h hu r) hc
 | .EW cs,_,hu,r=>by
  simp only [PV.rn] at r
  cases r with|EW r=>exact .EW (DU.UR h hu r)
 | .vec b tag off len,_,hu,r=>by
  simp only [PV.rn] at r
  cases r with
  |vec hb hc r =>
   refine .vec hu hc fun k hk=>?_
   have:=r k ((h b hu).1 _ hk)
   rw [(h b hu).2] at this
   exact this
 | .ref b off,_,hu,r=>by
  simp only [PV.rn] at r
  cases r with
  |ref hb hc r =>
   refine .ref hu hc fun hk=>?_
   have:=r ((h b hu).1 _ hk)
   rw [(h b hu).2] at this
   exact this
 | .Ec b tag off,_,hu,r=>by
  simp only [PV.rn] at r
  cases r with
  |Ec hb hc r =>
   refine .Ec hu hc fun k hk=>?_
   have:=r k ((h b hu).1 _ hk)
   rw [(h b hu).2] at this
   exact this
 | .mref b,_,hu,r=>by
  simp only [PV.rn] at r
  cases r with
  |mref hb hc r =>
   refine .mref hu hc fun hk=>?_
   have:=r ((h b hu).1 _ hk)
   rw [(h b hu).2] at this
   exact this
 | .clo f fs cs,_,hu,r=>by
  simp only [PV.rn] at r
  cases r with|clo r1 r2=>exact .clo (DU.UR h hu.1 r1) (DU.UR h hu.2 r2)
theorem DU.UR (h:∀ b,b<n→(∀ t,T b=some t→T' (ρ b)=some t)∧σ' (ρ b)=σ b):∀ {x:List PV} {v:List Value},AZ.under n x→DU m F T' σ' n' (AZ.rn ρ x) v→DU m F T σ n x v
 |[],_,_,r=>by cases r;exact .nil
 |c::cs,_,hu,r=>by cases r with|cons r t=>exact .cons (RP.UR h hu.1 r) (DU.UR h hu.2 t)
end
end
def idx:List Nat→Nat→Option Nat
 |[],_=>none
 |a::l,b=>match Nat.decEq a b with
  | .isTrue _=>some 0
  | .isFalse _=>(idx l b).map (·+1)
theorem dh:∀ {l:List Nat} {b i:Nat},idx l b=some i→l[i]?=some b
 |a::l,b,i,h=>by
  simp only [idx] at h
  split at h
  ·rename_i e _;cases h;subst e;rfl
  ·simp only [Option.map_eq_some_iff] at h
   obtain ⟨j,h1,rfl⟩:=h
   simpa using dh h1
theorem rD:∀ {l:List Nat} {b i:Nat},l.Nodup→l[i]?=some b→idx l b=some i
 |[],_,_,_,h=>by simp at h
 |a::l,b,i,hn,h=>by
  simp only [List.nodup_cons] at hn
  cases i with
  |zero =>
   simp only [List.getElem?_cons_zero,Option.some.injEq] at h
   subst h
   simp only [idx]
   cases hd:Nat.decEq a a with
   |isTrue _=>rfl
   |isFalse e=>exact absurd rfl e
  |succ i =>
   simp only [List.getElem?_cons_succ] at h
   have hne:a≠b:=fun e=>hn.1 (e▸List.mem_of_getElem? h)
   simp only [idx]
   cases hd:Nat.decEq a b with
   |isTrue e=>exact absurd e hne
   |isFalse _=>simp only [rD hn.2 h,Option.map_some]
def rho (ns:List Nat) (nx:Nat) (i:Nat):Nat :=
 match ns[i]? with
 |some b=>b
 |none=>nx+(i-ns.length)
def merge (ns:List Nat) (ρ:Nat→Nat) (H':Heap):Heap→Heap
 |[]=>[]
 |(b,x)::H=>match idx ns b with
  |none=>(b,x)::merge ns ρ H' H
  |some i=>match hget H' i with
   |some y=>(b,y.rn ρ)::merge ns ρ H' H
   |none=>merge ns ρ H' H
def news (k:Nat) (ρ:Nat→Nat):Heap→Heap→Heap
 |[],H=>H
 |(i,x)::H',H=>match Nat.decLt i k with
  | .isTrue _=>news k ρ H' H
  | .isFalse _=>(ρ i,x.rn ρ)::news k ρ H' H
theorem GY {ns:List Nat} {ρ:Nat→Nat} {H':Heap}:∀ {H:Heap} {b:Nat},idx ns b=none→hget (merge ns ρ H' H) b=hget H b
 |[],_,_=>rfl
 |(a,x)::H,b,h=>by
  have ih:=GY (ns:=ns) (ρ:=ρ) (H':=H') (H:=H) h
  simp only [merge]
  cases hi:idx ns a with
  |none=>simp only [Cb,ih]
  |some i =>
   have hne:a≠b:=fun e=>by rw [e,h] at hi;cases hi
   simp only [Cb,if_neg hne]
   cases hget H' i with
   |none=>exact ih
   |some y=>simp only [Cb,if_neg hne];exact ih
theorem MZ {ns:List Nat} {ρ:Nat→Nat} {H':Heap}:∀ {H:Heap} {b i:Nat},idx ns b=some i→hget (merge ns ρ H' H) b=if (hget H b).isSome then (hget H' i).map (HB.rn ρ) else none
 |[],_,_,_=>by simp [merge,hget]
 |(a,x)::H,b,i,h=>by
  have ih:=MZ (ns:=ns) (ρ:=ρ) (H':=H') (H:=H) h
  simp only [merge]
  by_cases e:a=b
  ·subst e
   rw [h]
   simp only [Cb,if_true,Option.isSome_some]
   cases hi:hget H' i with
   |none =>
    simp only [Option.map_none]
    rw [ih]
    split
    ·rw [hi];rfl
    ·rfl
   |some y=>simp only [Cb,if_true,Option.map_some]
  ·simp only [Cb,if_neg e]
   cases hj:idx ns a with
   |none=>simp only [Cb,if_neg e];exact ih
   |some j =>
    simp only
    cases hget H' j with
    |none=>exact ih
    |some y=>simp only [Cb,if_neg e];exact ih
theorem LP {k:Nat} {ρ:Nat→Nat} {H:Heap}:∀ {H':Heap} {b:Nat},(∀ i j,ρ i=ρ j→k≤i→k≤j→i=j) →
 (∃ i,k≤i∧ρ i=b∧(hget H' i).isSome∧hget (news k ρ H' H) b=(hget H' i).map (HB.rn ρ))∨((∀ i,k≤i→ρ i=b→hget H' i=none)∧hget (news k ρ H' H) b=hget H b)
 |[],b,_=>.inr ⟨fun _ _ _=>rfl,rfl⟩
 |(i,x)::H',b,hinj=>by
  have ih:=LP (k:=k) (ρ:=ρ) (H:=H) (H':=H') (b:=b) hinj
  simp only [news]
  cases hd:Nat.decLt i k with
  |isTrue hlt =>
   simp only
   rcases ih with ⟨j,h1,h2,h3,h4⟩|⟨h1,h2⟩
   ·refine .inl ⟨j,h1,h2,?_⟩
    rw [Cb,if_neg (by omega)]
    exact ⟨h3,h4⟩
   ·refine .inr ⟨fun j hj hb=>?_,h2⟩
    rw [Cb,if_neg (by omega)]
    exact h1 j hj hb
  |isFalse hge =>
   simp only [Cb]
   by_cases e:ρ i=b
   ·refine .inl ⟨i,by omega,e,?_⟩
    rw [if_pos rfl,if_pos e]
    exact ⟨rfl,rfl⟩
   ·rw [if_neg e]
    rcases ih with ⟨j,h1,h2,h3,h4⟩|⟨h1,h2⟩
    ·refine .inl ⟨j,h1,h2,?_⟩
     rw [if_neg (fun e':i=j=>e (by rw [e'];exact h2))]
     exact ⟨h3,h4⟩
    ·refine .inr ⟨fun j hj hb=>?_,h2⟩
     rw [if_neg (fun e':i=j=>e (by rw [e'];exact hb))]
     exact h1 j hj hb
def HIn (ρ:Nat→Nat) (H:Heap):Heap→Prop
 |[]=>True
 |(i,x)::Hc=>(∃ y,hget H (ρ i)=some y∧Bv y (x.rn ρ))∧HIn ρ H Hc
theorem HIn.get {ρ:Nat→Nat} {H:Heap}:∀ {Hc:Heap},HIn ρ H Hc→∀ i x,hget Hc i=some x→∃ y,hget H (ρ i)=some y∧Bv y (x.rn ρ)
 |[],_,_,_,h=>by cases h
 |(j,y)::Hc,⟨h1,h2⟩,i,x,h=>by
  rw [Cb] at h
  by_cases e:j=i
  ·rw [if_pos e] at h;cases h;subst e;exact h1
  ·rw [if_neg e] at h;exact HIn.get h2 i x h
def NI (k:Nat):Heap→Prop
 |[]=>True
 |(i,x)::H=>(i<k∧x.under k)∧NI k H
theorem NI.get {k:Nat}:∀ {H:Heap},NI k H→∀ i x,hget H i=some x→i<k∧x.under k
 |[],_,_,_,h=>by cases h
 |(j,y)::Hc,⟨h1,h2⟩,i,x,h=>by
  rw [Cb] at h
  by_cases e:j=i
  ·rw [if_pos e] at h;cases h;subst e;exact h1
  ·rw [if_neg e] at h;exact NI.get h2 i x h
theorem RB.le {m:Mem} {F:Nat→Prop} {T:Nat→Option Tg} {σ:Nat→Value} {n:Nat} {s:Value} {x y:HB} (h:Bv x y) (r:RB m F T σ n s x):RB m F T σ n s y:=by
 cases h with
 |refl=>exact r
 |box h=>obtain ⟨c,vs,r1,r2,r3,r4,r5,r6⟩:=r;exact ⟨c,vs,r1,r2,r3,r4,DU.le h r5,r6⟩
 |vec h hn =>
  subst hn
  rcases r with ⟨r1,r2,r3⟩|⟨c,g,vs,r1,r2,r3,r4,r5,r6⟩
  ·subst r1
   cases h with|refl=>exact .inl ⟨rfl,r2,r3⟩
  ·exact .inr ⟨c,g,vs,r1,r2,r3,r4,DT.le h r5,r6⟩
theorem RB.rn {m:Mem} {F:Nat→Prop} {T T':Nat→Option Tg} {σ σ':Nat→Value} {n n':Nat} {ρ:Nat→Nat} {s:Value} {x:HB} (h:∀ b,b<n→ρ b<n'∧T' (ρ b)=T b∧σ' (ρ b)=σ b) (r:RB m F T σ n s x):RB m F T' σ' n' s (x.rn ρ):=by
 cases x with
 |box e cs=>obtain ⟨c,vs,r1,r2,r3,r4,r5,r6⟩:=r;exact ⟨c,vs,r1,r2,r3,r4,DU.rn h r5,r6⟩
 |vec e cs k z=>exact r
 |map es=>exact r
 |Fj e cs k=>obtain ⟨c,g,vs,r1,r2,r3,r4,r5,r6⟩:=r;exact ⟨c,g,vs,r1,r2,r3,r4,DU.rn h r5,r6⟩
theorem RB.UR {m:Mem} {F:Nat→Prop} {T T':Nat→Option Tg} {σ σ':Nat→Value} {n n':Nat} {ρ:Nat→Nat} {s:Value} {x:HB} (h:∀ b,b<n→(∀ t,T b=some t→T' (ρ b)=some t)∧σ' (ρ b)=σ b) (hu:x.under n) (r:RB m F T' σ' n' s (x.rn ρ)):RB m F T σ n s x:=by
 cases x with
 |box e cs=>obtain ⟨c,vs,r1,r2,r3,r4,r5,r6⟩:=r;exact ⟨c,vs,r1,r2,r3,r4,DU.UR h hu r5,r6⟩
 |vec e cs k z=>exact r
 |map es=>exact r
 |Fj e cs k=>obtain ⟨c,g,vs,r1,r2,r3,r4,r5,r6⟩:=r;exact ⟨c,g,vs,r1,r2,r3,r4,DU.UR h hu r5,r6⟩
end Go.Vm
namespace Go.Vm
open Go.Am
variable {E:Env} {L:Frame} {H:Heap} {nx:Nat} {Q:PV→Heap→Nat→Prop} {w:Bool}
variable {dst:Option Tmp} {ty:TypeId} {pos:String} {af:Array Edge} {gd:Option (Nat×Bool)}
def evs (Γ:Nat→Option (List Value×TypeId)) (L:Frame):List Operand→Option (List PV)
 |[]=>some []
 |o::l=>match BG Γ L o with
  |some x=>match evs Γ L l with
   |some r=>some (x::r)
   |none=>none
  |none=>none
theorem QY {Γ:Nat→Option (List Value×TypeId)} {m:Mem} {F:Nat→Prop} {σ:Nat→Value} {t:Tr Value} (hx:Ctx Γ m F σ H nx) (hl:RL m F (htag H) σ nx L t):∀ {os:List Operand} {xs:List PV},evs Γ L os=some xs→DU m F (htag H) σ nx xs (os.map (ev t))
 |[],_,h=>by cases h;exact .nil
 |o::os,xs,h=>by
  simp only [evs] at h
  cases h1:BG Γ L o with
  |none=>rw [h1] at h;cases h
  |some x =>
   rw [h1] at h
   cases h2:evs Γ L os with
   |none=>rw [h2] at h;cases h
   |some r=>rw [h2] at h;cases h;exact .cons (BX hx hl h1) (QY hx hl h2)
theorem DU.append {m:Mem} {F:Nat→Prop} {T:Nat→Option Tg} {σ:Nat→Value} {n:Nat}:∀ {cs ds:List PV} {vs ws:List Value},DU m F T σ n cs vs→DU m F T σ n ds ws→DU m F T σ n (cs++ds) (vs++ws)
 |_,_,_,_,.nil,h=>h
 |_,_,_,_,.cons h t,h'=>.cons h (DU.append t h')
theorem a0n {ns:List Nat} {i b:Nat} (h:ns[i]?=some b):rho ns nx i=b:=by simp only [rho,h]
theorem a2p {ns:List Nat} {i:Nat} (h:ns.length≤i):rho ns nx i=nx+(i-ns.length):=by simp only [rho,List.getElem?_eq_none h]
theorem Aa.wX {fo:Operand} {args:Array Operand} {aT:Array TypeId} {g:FuncId} {fs cs CG ac:List PV} {ns:List Nat} {Hc:Heap} {Qc:PV→Heap→Nat→Prop} (hf:BG E.Γ L fo=some (.clo g fs cs)) (ha:evs E.Γ L args.toList=some CG)
 (hle:PE (fs++CG++cs) (AZ.rn (rho ns nx) ac)) (hu:AZ.under ns.length ac) (zJ:NI ns.length Hc) (hin:HIn (rho ns nx) H Hc) (hnd:ns.Nodup) (hlt:∀ b∈ns,b<nx) (hw:w=false→Hc=[]) (hc:BF E g ac Hc ns.length Qc)
 (hq:∀ r H' nx',Qc r H' nx'→Q (r.rn (rho ns nx)) (news ns.length (rho ns nx) H' (merge ns (rho ns nx) H' H)) (nx+(nx'-ns.length))) :
 Aa E w ⟨dst,.call { callee:=.value fo,args:=args,argTypes:=aT },ty,pos,af,gd⟩ L H nx Q:=by
 intro m F σ t h1 h2
 generalize hρ:rho ns nx=ρ at *
 generalize hk:ns.length=k at *
 have Hl:∀ i,i<k→∃ b,ns[i]?=some b∧ρ i=b∧b<nx:=fun i hi=>by
  have:i<ns.length:=by omega
  refine ⟨ns[i],List.getElem?_eq_getElem this,?_,hlt _ (List.getElem_mem this)⟩
  rw [← hρ];exact a0n (List.getElem?_eq_getElem this)
 have hge:∀ i,k≤i→ρ i=nx+(i-k):=fun i hi=>by rw [← hρ,← hk];exact a2p (by omega)
 have hidx:∀ i,i<k→idx ns (ρ i)=some i:=fun i hi=>by
  obtain ⟨b,hb,e,_⟩:=Hl i hi
  rw [e];exact rD hnd hb
 have hidx':∀ b i,idx ns b=some i→i<k∧b=ρ i:=fun b i hi=>by
  have h0:=dh hi
  have hlt':i<k:=by
   rcases Nat.lt_or_ge i ns.length with h|h
   ·omega
   ·rw [List.getElem?_eq_none h] at h0;cases h0
  obtain ⟨b',hb',e,_⟩:=Hl i hlt'
  rw [h0] at hb';cases hb'
  exact ⟨hlt',e.symm⟩
 have hTc:∀ b t,htag Hc b=some t→htag H (ρ b)=some t:=fun b t hb=>by
  unfold htag at hb ⊢
  cases h0:hget Hc b with
  |none=>rw [h0] at hb;cases hb
  |some x =>
   rw [h0] at hb
   obtain ⟨y,hy,hle⟩:=hin.get b x h0
   rw [hy,Option.map_some,hle.tag,HB.uY]
   exact hb
 have hun:∀ b,b<k→(∀ t,htag Hc b=some t→htag H (ρ b)=some t)∧σ (ρ b)=(fun i=>σ (ρ i)) b:=fun b _=>⟨hTc b,rfl⟩
 have hown:∀ c,own Hc (fun i=>σ (ρ i)) c→∃ i x y,i<k∧hget Hc i=some x∧hget H (ρ i)=some y∧Du (σ (ρ i))=some c:=by
  rintro c ⟨i,x,hi,hb⟩
  obtain ⟨y,hy,_⟩:=hin.get i x hi
  exact ⟨i,x,y,(zJ.get i x hi).1,hi,hy,hb⟩
 have hown':∀ c,own Hc (fun i=>σ (ρ i)) c→own H σ c:=fun c ho=>by
  obtain ⟨i,_,y,_,_,hy,hb⟩:=hown c ho
  exact ⟨ρ i,y,hy,hb⟩
 have bQ:Ctx E.Γ m F (fun i=>σ (ρ i)) Hc k:=by
  refine ⟨h1.fr,fun i x hi=>?_,fun i i' x x' c hi hi' hb hb'=>?_,h1.gl⟩
  ·obtain ⟨y,hy,hle⟩:=hin.get i x hi
   obtain ⟨hik,hux⟩:=zJ.get i x hi
   exact ⟨hik,RB.UR hun hux (RB.le hle (h1.hp _ y hy).2)⟩
  ·obtain ⟨y,hy,_⟩:=hin.get i x hi
   obtain ⟨y',hy',_⟩:=hin.get i' x' hi'
   have e:=h1.sep _ _ y y' c hy hy' hb hb'
   have e1:=hidx i (zJ.get i x hi).1
   have e2:=hidx i' (zJ.get i' x' hi').1
   rw [e,e2] at e1
   cases e1;rfl
 have hfv:=BX h1 h2 hf
 generalize hfe:ev t fo=fv at hfv
 cases hfv with
 |clo r1 r2 =>
  rename_i vf vc
  have hargs:DU m F (htag Hc) (fun i=>σ (ρ i)) k ac (vf++args.toList.map (ev t)++vc):=DU.UR hun hu (DU.le hle ((r1.append (QY h1 h2 ha)).append r2))
  refine Ik.call (f:=g) (CG:=vf++args.toList.map (ev t)++vc) (fun call=>by simp only [CX,hfe]) ((hc m F _ _ bQ hargs).mono ?_)
  rintro v m' ⟨r,H',nx',F',σ',q,c1,c2,c3⟩
  have hkn:k≤nx':=c3.Xx
  have a0y:∀ i,i<k→hget H (ρ i)=none→hget H' i=none:=fun i hi hn=>by
   have h0:=(c3.names i hi).1
   cases hh:hget H' i with
   |none=>rfl
   |some y =>
    have hty:htag H' i=some y.tag:=by simp [htag,hh]
    rw [hty] at h0
    cases hc':htag Hc i with
    |none=>rw [hc'] at h0;exact h0.elim
    |some t =>
     have:=hTc i t hc'
     simp [htag,hn] at this
  have hinj:∀ i j,ρ i=ρ j→k≤i→k≤j→i=j:=fun i j e hi hj=>by
   rw [hge i hi,hge j hj] at e;omega
  let σn:Nat→Value:=fun b=>if b<nx then (match idx ns b with|some i=>σ' i|none=>σ b) else σ' (b-nx+k)
  have zW:∀ j,j<nx'→hget (news k ρ H' (merge ns ρ H' H)) (ρ j)=(hget H' j).map (HB.rn ρ):=fun j hj=>by
   rcases Nat.lt_or_ge j k with hjk|hjk
   ·obtain ⟨b,hb,e,hbn⟩:=Hl j hjk
    rcases LP (k:=k) (ρ:=ρ) (H:=merge ns ρ H' H) (H':=H') (b:=ρ j) hinj with ⟨i,hi,e',_⟩|⟨_,e'⟩
    ·rw [hge i hi,e] at e';omega
    ·rw [e',MZ (hidx j hjk)]
     cases hH:hget H (ρ j) with
     |none=>rw [a0y j hjk hH];rfl
     |some y=>rfl
   ·rcases LP (k:=k) (ρ:=ρ) (H:=merge ns ρ H' H) (H':=H') (b:=ρ j) hinj with ⟨i,hi,e',_,e''⟩|⟨e',e''⟩
    ·rw [hinj i j e' hi hjk] at e'';exact e''
    ·have hno:idx ns (ρ j)=none:=by
      cases hi:idx ns (ρ j) with
      |none=>rfl
      |some i =>
       obtain ⟨hik,e3⟩:=hidx' _ i hi
       obtain ⟨b,_,e4,hbn⟩:=Hl i hik
       rw [hge j hjk] at e3
       omega
     rw [e'',GY hno,h1.lI (by rw [hge j hjk];omega),e' j hjk rfl]
     rfl
  have hA:∀ j,j<nx'→ρ j<nx+(nx'-k)∧htag (news k ρ H' (merge ns ρ H' H)) (ρ j)=htag H' j∧σn (ρ j)=σ' j:=fun j hj=>by
   refine ⟨?_,?_,?_⟩
   ·rcases Nat.lt_or_ge j k with hjk|hjk
    ·obtain ⟨b,_,e,hbn⟩:=Hl j hjk;omega
    ·rw [hge j hjk];omega
   ·unfold htag
    rw [zW j hj]
    cases hget H' j with
    |none=>rfl
    |some y=>simp [HB.uY]
   ·show (if ρ j<nx then _ else _)=_
    rcases Nat.lt_or_ge j k with hjk|hjk
    ·obtain ⟨b,_,e,hbn⟩:=Hl j hjk
     rw [if_pos (by omega),hidx j hjk]
    ·rw [hge j hjk,if_neg (by omega)]
     congr 1;omega
  have hB:∀ b,b<nx→idx ns b=none→hget (news k ρ H' (merge ns ρ H' H)) b=hget H b∧σn b=σ b:=fun b hb hi=>by
   refine ⟨?_,?_⟩
   ·rcases LP (k:=k) (ρ:=ρ) (H:=merge ns ρ H' H) (H':=H') (b:=b) hinj with ⟨i,hi',e',_⟩|⟨_,e'⟩
    ·rw [hge i hi'] at e';omega
    ·rw [e',GY hi]
   ·show (if b<nx then _ else _)=_
    rw [if_pos hb,hi]
  have hC:∀ b x,hget (news k ρ H' (merge ns ρ H' H)) b=some x→(∃ j y,j<nx'∧b=ρ j∧hget H' j=some y∧x=y.rn ρ)∨(b<nx∧idx ns b=none∧hget H b=some x):=fun b x hx=>by
   rcases Nat.lt_or_ge b nx with hb|hb
   ·cases hi:idx ns b with
    |none=>exact .inr ⟨hb,rfl,by rw [← (hB b hb hi).1];exact hx⟩
    |some i =>
     obtain ⟨hik,e⟩:=hidx' b i hi
     rw [e,zW i (by omega)] at hx
     simp only [Option.map_eq_some_iff] at hx
     obtain ⟨y,hy,e'⟩:=hx
     exact .inl ⟨i,y,by omega,e,hy,e'.symm⟩
   ·rcases LP (k:=k) (ρ:=ρ) (H:=merge ns ρ H' H) (H':=H') (b:=b) hinj with ⟨i,hi,e',e1,e2⟩|⟨_,e'⟩
    ·rw [e2] at hx
     simp only [Option.map_eq_some_iff] at hx
     obtain ⟨y,hy,e'⟩:=hx
     exact .inl ⟨i,y,(c1.hp i y hy).1,by rw [← ‹ρ i=b›],hy,e'.symm⟩
    ·have hno:idx ns b=none:=by
      cases hi:idx ns b with
      |none=>rfl
      |some i =>
       obtain ⟨hik,e3⟩:=hidx' _ i hi
       obtain ⟨b',_,e4,hbn⟩:=Hl i hik
       omega
     rw [e',GY hno,h1.lI hb] at hx
     cases hx
  have hD:Names nx (htag H) σ (htag (news k ρ H' (merge ns ρ H' H))) σn:=fun b hb=>by
   cases hi:idx ns b with
   |none =>
    obtain ⟨e1,e2⟩:=hB b hb hi
    rw [e2]
    unfold htag
    rw [e1]
    exact ⟨UU.refl _,fun _ _ _=>rfl⟩
   |some i =>
    obtain ⟨hik,e⟩:=hidx' b i hi
    obtain ⟨_,a2,a3⟩:=hA i (by omega)
    rw [e,a2,a3]
    obtain ⟨n1,n2⟩:=c3.names i hik
    cases ht':htag H' i with
    |none=>exact ⟨trivial,fun _ _ e=>by cases e⟩
    |some t' =>
     rw [ht'] at n1 n2
     cases htc:htag Hc i with
     |none=>rw [htc] at n1;exact n1.elim
     |some tc =>
      rw [htc] at n1 n2
      rw [hTc i tc htc]
      exact ⟨n1,fun t e1 e2=>n2 t e1 e2⟩
  have hfz:=c3.frozen bQ
  have hblk:∀ b x c,idx ns b=none→hget H b=some x→Du (σ b)=some c→¬ own Hc (fun i=>σ (ρ i)) c:=fun b x c hi hb hc ho=>by
   obtain ⟨i,_,y,hik,_,hy,hbc⟩:=hown c ho
   have e:=h1.sep b (ρ i) x y c hb hy hc hbc
   rw [e,hidx i hik] at hi
   cases hi
  refine ⟨_,_,_,F',σn,hq r H' nx' q,⟨c1.fr,?_,?_,c1.gl⟩,RP.rn hA c2,⟨c3.size,fun c hc ho=>c3.keep c hc fun o=>ho (hown' c o),c3.NT,fun c hc hf=>?_,?_,Nat.le_add_right _ _,hD,fun j j1 j2 j3=>c3.low j j1 j2 fun c ho=>j3 c (hown' c ho)⟩,?_⟩
  ·intro b x hx
   rcases hC b x hx with ⟨j,y,hj,rfl,hy,rfl⟩|⟨hb,hi,hx'⟩
   ·obtain ⟨a1,a2,a3⟩:=hA j hj
    rw [a3]
    exact ⟨a1,RB.rn hA (c1.hp j y hy).2⟩
   ·rw [(hB b hb hi).2]
    refine ⟨by omega,(h1.hp b x hx').2.mono hfz hD (Nat.le_add_right _ _) c3.size fun c hc=>?_⟩
    have hno:=hblk b x c hi hx' hc
    obtain ⟨hnf,hcs⟩:=h1.LQ ⟨b,x,hx',hc⟩
    exact ⟨c3.keep c hcs hno,fun hf=>(c3.Ny c hcs hf).elim hnf hno⟩
  ·intro b b' x x' c hx hx' hbc hbc'
   rcases hC b x hx with ⟨j,y,hj,rfl,hy,rfl⟩|⟨hb,hi,hx1⟩<;>rcases hC b' x' hx' with ⟨j',y',hj',rfl,hy',rfl⟩|⟨hb',hi',hx1'⟩
   ·rw [(hA j hj).2.2] at hbc
    rw [(hA j' hj').2.2] at hbc'
    rw [c1.sep j j' y y' c hy hy' hbc hbc']
   ·rw [(hA j hj).2.2] at hbc
    rw [(hB b' hb' hi').2] at hbc'
    exact absurd (c3.JW c (h1.LQ ⟨b',x',hx1',hbc'⟩).2 ⟨j,y,hy,hbc⟩) (hblk b' x' c hi' hx1' hbc')
   ·rw [(hA j' hj').2.2] at hbc'
    rw [(hB b hb hi).2] at hbc
    exact absurd (c3.JW c (h1.LQ ⟨b,x,hx1,hbc⟩).2 ⟨j',y',hy',hbc'⟩) (hblk b x c hi hx1 hbc)
   ·rw [(hB b hb hi).2] at hbc
    rw [(hB b' hb' hi').2] at hbc'
    exact h1.sep b b' x x' c hx1 hx1' hbc hbc'
  ·rcases c3.Ny c hc hf with h|h
   ·exact .inl h
   ·exact .inr (hown' c h)
  ·rintro c hc ⟨b,x,hx,hbc⟩
   rcases hC b x hx with ⟨j,y,hj,rfl,hy,rfl⟩|⟨hb,hi,hx1⟩
   ·rw [(hA j hj).2.2] at hbc
    exact hown' c (c3.JW c hc ⟨j,y,hy,hbc⟩)
   ·rw [(hB b hb hi).2] at hbc
    exact ⟨b,x,hx1,hbc⟩
  ·intro hwf j j1 j2
   refine c3.low j j1 j2 fun c ho=>?_
   obtain ⟨i,x,_,_,hx,_⟩:=hown c ho
   rw [hw hwf] at hx
   cases hx
end Go.Vm
namespace Go.Vm
open Go.Am
variable {E:Env} {L:Frame} {H:Heap} {nx:Nat} {Q:PV→Heap→Nat→Prop} {w:Bool}
variable {dst:Option Tmp} {ty:TypeId} {pos:String} {af:Array Edge} {gd:Option (Nat×Bool)}
def AX (E:Env) (g:FuncId) (xs:List FV) (r:PV):Prop:=BF E g (xs.map .p) [] 0 fun r' H' nx'=>r'=r∧H'=[]∧nx'=0
def Ci (E:Env) (g:FuncId) (xs:List FV) (e:TypeId) (cs:List FV) (n:Nat) (z:Bool):Prop :=
 BF E g (xs.map .p) [] 0 fun r' H' nx'=>r'=.vec 0 n 0 n∧H'=[(0,.vec e cs n z)]∧nx'=1
theorem AZ.ny (ρ:Nat→Nat):∀ xs:List FV,AZ.rn ρ (xs.map .p)=xs.map .p
 |[]=>rfl
 |x::xs=>by simp only [List.map_cons,AZ.rn,PV.rn,AZ.ny ρ xs]
theorem XV (ρ:Nat→Nat) (H':Heap):∀ H:Heap,merge [] ρ H' H=H
 |[]=>rfl
 |(b,x)::H=>by simp only [merge,idx,XV ρ H' H]
theorem Aa.a0d {fo:Operand} {args:Array Operand} {aT:Array TypeId} {g:FuncId} {CG:List PV} {xs:List FV} {Qc:PV→Heap→Nat→Prop} (hf:BG E.Γ L fo=some (.clo g [] [])) (ha:evs E.Γ L args.toList=some CG)
 (hle:PE CG (xs.map .p)) (hc:BF E g (xs.map .p) [] 0 Qc) (hq:∀ r H' nx',Qc r H' nx'→Q (r.rn (rho [] nx)) (news 0 (rho [] nx) H' H) (nx+nx')) :
 Aa E w ⟨dst,.call { callee:=.value fo,args:=args,argTypes:=aT },ty,pos,af,gd⟩ L H nx Q :=
 Aa.wX (ns:=[]) (Hc:=[]) hf ha (ac:=xs.map .p) (by simpa [AZ.ny] using hle) (AZ.Ag _ _) trivial trivial List.nodup_nil (by simp) (fun _=>rfl) hc
  (fun r H' nx' q=>by rw [XV];exact hq r H' nx' q)
theorem Aa.a4h {fo:Operand} {args:Array Operand} {aT:Array TypeId} {g:FuncId} {CG:List PV} {xs:List FV} {r:PV} (hf:BG E.Γ L fo=some (.clo g [] [])) (ha:evs E.Γ L args.toList=some CG)
 (hle:PE CG (xs.map .p)) (hc:AX E g xs r) (hr:∀ ρ,r.rn ρ=r) (q:Q r H nx):Aa E w ⟨dst,.call { callee:=.value fo,args:=args,argTypes:=aT },ty,pos,af,gd⟩ L H nx Q :=
 Aa.a0d hf ha hle hc fun r' H' nx' ⟨h1,h2,h3⟩=>by subst h1;subst h2;subst h3;rw [hr];exact q
theorem Aa.a5p {fo:Operand} {args:Array Operand} {aT:Array TypeId} {g:FuncId} {CG:List PV} {xs cs:List FV} {e:TypeId} {n:Nat} {z:Bool} (hf:BG E.Γ L fo=some (.clo g [] [])) (ha:evs E.Γ L args.toList=some CG)
 (hle:PE CG (xs.map .p)) (hc:Ci E g xs e cs n z) (q:Q (.vec nx n 0 n) ((nx,.vec e cs n z)::H) (nx+1)):Aa E w ⟨dst,.call { callee:=.value fo,args:=args,argTypes:=aT },ty,pos,af,gd⟩ L H nx Q :=
 Aa.a0d hf ha hle hc fun r' H' nx' ⟨h1,h2,h3⟩=>by
  subst h1;subst h2;subst h3
  have e:news 0 (rho [] nx) [(0,HB.vec e cs n z)] H=(nx,.vec e cs n z)::H:=rfl
  rw [e]
  exact q
def AL (E:Env) (L:Frame) (H:Heap) (nx:Nat) (L':Frame) (H':Heap) (nx':Nat):Prop :=
 ∀ (B:Base) m F σ t,Ctx E.Γ m F σ H nx→RL m F (htag H) σ nx L t→B.to m F σ H nx→∃ F' σ',Ctx E.Γ m F' σ' H' nx'∧RL m F' (htag H') σ' nx' L' t∧B.to m F' σ' H' nx'
section
variable {bn:Nat} {ops:Array Oper} {l:List Oper} {i:Nat} {R:Frame→Heap→Nat→Prop} {L':Frame} {H':Heap} {nx':Nat}
theorem Ad.ghost {c:Code} {Q:CO→Frame→Heap→Nat→Prop} (g:AL E L H nx L' H' nx') (h:Ad E bn c L' H' nx' Q):Ad E bn c L H nx Q:=fun B hB m F σ t h1 h2 h3=>by
 obtain ⟨F',σ',c1,c2,c3⟩:=g B m F σ t h1 h2 h3
 exact h B hB m F' σ' t c1 c2 c3
theorem Af.ghost (g:AL E L H nx L' H' nx') (h:Af E bn ops l L' H' nx' R):Af E bn ops l L H nx R:=fun B hB m F σ t h1 h2 h3=>by
 obtain ⟨F',σ',c1,c2,c3⟩:=g B m F σ t h1 h2 h3
 exact h B hB m F' σ' t c1 c2 c3
theorem Aq.ghost (g:AL E L H nx L' H' nx') (h:Aq E bn ops i l L' H' nx' R):Aq E bn ops i l L H nx R:=fun B hB m F σ t h1 h2 h3=>by
 obtain ⟨F',σ',c1,c2,c3⟩:=g B m F σ t h1 h2 h3
 exact h B hB m F' σ' t c1 c2 c3
theorem AL.trans {L'':Frame} {H'':Heap} {nx'':Nat} (g:AL E L H nx L' H' nx') (g':AL E L' H' nx' L'' H'' nx''):AL E L H nx L'' H'' nx'':=fun B m F σ t h1 h2 h3=>by
 obtain ⟨F',σ',c1,c2,c3⟩:=g B m F σ t h1 h2 h3
 exact g' B m F' σ' t c1 c2 c3
end
theorem VP {Γ:Nat→Option (List Value×TypeId)} {m:Mem} {F:Nat→Prop} {σ:Nat→Value} (e:TypeId) (h:Ctx Γ m F σ H nx) :
 Ctx Γ m F (upd σ nx Dn) ((nx,.vec e [] 0 true)::H) (nx+1)∧Step m F σ H nx m F (upd σ nx Dn) ((nx,.vec e [] 0 true)::H) (nx+1):=by
 have:=h.new (m':=m) (x:=.vec e [] 0 true) (s:=Dn) (Nat.le_refl _) (fun _ _=>rfl) (Nat.min_le_left _ _) (fun c hc=>by simp [Du,Dn] at hc) (.inl ⟨rfl,rfl,.inl ⟨rfl,rfl⟩⟩)
 exact ⟨this.1,this.2.1⟩
theorem YU {m:Mem} {F:Nat→Prop} {σ:Nat→Value} (e:TypeId) (H:Heap) (nx:Nat):RP m F (htag ((nx,.vec e [] 0 true)::H)) (upd σ nx Dn) (nx+1) (.vec nx 0 0 0) Dn:=by
 refine .vec (Nat.lt_succ_self _) rfl fun n hn=>?_
 rw [IV,if_pos rfl] at hn
 simp only [HB.tag,Option.some.injEq,Tg.vec.injEq] at hn
 subst hn
 refine ⟨Nat.le_refl _,fun _=>?_⟩
 rw [upd_same]
 exact ⟨rfl,rfl,rfl⟩
theorem AL.adopt (d:Nat) (e:TypeId) (hd:GV L d=some (.p (.val (.slice none 0 0)))):AL E L H nx ((d,.vec nx 0 0 0)::L) ((nx,.vec e [] 0 true)::H) (nx+1):=fun B m F σ t h1 h2 h3=>by
 obtain ⟨c1,c2⟩:=VP e h1
 refine ⟨F,_,c1,fun i v hi=>?_,h3.trans c2⟩
 rw [Gm] at hi
 by_cases ei:d=i
 ·rw [if_pos ei] at hi;cases hi
  have:=h2 d _ hd
  subst ei
  generalize Ea t d=u at this
  cases this with|p h=>cases h;exact YU e H nx
 ·rw [if_neg ei] at hi
  exact (h2 i v hi).step c2 h1
def hdel:Heap→Nat→Heap
 |[],_=>[]
 |(a,x)::H,b=>match Nat.decEq a b with
  | .isTrue _=>hdel H b
  | .isFalse _=>(a,x)::hdel H b
theorem JE (H:Heap) (b c:Nat):hget (hdel H b) c=if b=c then none else hget H c:=by
 induction H with
 |nil=>simp [hdel,hget]
 |cons a H ih =>
  obtain ⟨a,x⟩:=a
  simp only [hdel]
  cases hd:Nat.decEq a b with
  |isTrue h =>
   subst h
   simp only [Cb,ih]
   by_cases e:a=c<;>simp [e]
  |isFalse h =>
   simp only [Cb,ih]
   by_cases e:b=c
   ·subst e;simp [h]
   ·simp [e]
theorem Tf (H:Heap) (b c:Nat):htag (hdel H b) c=if b=c then none else htag H c:=by
 unfold htag
 rw [JE]
 split<;>rfl
theorem RD {Γ:Nat→Option (List Value×TypeId)} {m:Mem} {F:Nat→Prop} {σ:Nat→Value} {b:Nat} {e:TypeId} {cs:List FV} {n:Nat} {z:Bool} (h:Ctx Γ m F σ H nx) (hb:hget H b=some (.vec e cs n z)) :
 Ctx Γ m (fun c=>F c∨Du (σ b)=some c) σ (hdel H b) nx∧Step m F σ H nx m (fun c=>F c∨Du (σ b)=some c) σ (hdel H b) nx ∧
 (∀ v,EH (σ b) 0 n v→RF m (fun c=>F c∨Du (σ b)=some c) (.lst e cs n) v):=by
 have hown:∀ c,Du (σ b)=some c→own H σ c:=fun c hc=>⟨b,_,hb,hc⟩
 have hfz:∀ c,F c→(F c∨Du (σ b)=some c)∧m.get c=m.get c:=fun c hc=>⟨.inl hc,rfl⟩
 have hN:Names nx (htag H) σ (htag (hdel H b)) σ:=fun d _=>by
  rw [Tf]
  split
  ·exact ⟨trivial,fun _ _ _=>rfl⟩
  ·exact ⟨UU.refl _,fun _ _ _=>rfl⟩
 have hsub:∀ d x,hget (hdel H b) d=some x→d≠b∧hget H d=some x:=fun d x hd=>by
  rw [JE] at hd
  split at hd
  ·cases hd
  ·rename_i hne;exact ⟨Ne.symm hne,hd⟩
 refine ⟨⟨?_,?_,?_,?_⟩,⟨Nat.le_refl _,fun _ _ _=>rfl,fun _ h=>.inl h,fun c _ hc=>hc.imp id (hown c),?_,Nat.le_refl _,hN,fun _ h _ _=>h⟩,?_⟩
 ·rintro c (hc|hc)
  ·exact h.fr c hc
  ·exact (h.LQ (hown c hc)).2
 ·intro d x hd
  obtain ⟨hne,hd⟩:=hsub d x hd
  obtain ⟨h1,h2⟩:=h.hp d x hd
  refine ⟨h1,h2.mono hfz hN (Nat.le_refl _) (Nat.le_refl _) fun c hc=>⟨rfl,?_⟩⟩
  rintro (hf|hf)
  ·exact (h.LQ ⟨d,x,hd,hc⟩).1 hf
  ·exact hne (h.sep d b x _ c hd hb hc hf)
 ·intro d d' x x' c hd hd' hc hc'
  exact h.sep d d' x x' c (hsub d x hd).2 (hsub d' x' hd').2 hc hc'
 ·intro g cs' e' hg
  obtain ⟨h1,h2⟩:=h.gl g cs' e' hg
  exact ⟨.inl h1,h2⟩
 ·rintro c _ ⟨d,x,hd,hc⟩
  exact ⟨d,x,(hsub d x hd).2,hc⟩
 ·intro v hv
  obtain ⟨_,hr⟩:=h.hp b _ hb
  rcases hr with ⟨r1,r2,r3⟩|⟨c,g,vs,r1,r2,r3,r4,r5,r6,r7⟩
  ·subst r1;subst r2
   rcases r3 with ⟨r3,_⟩|⟨b',o',g',r3,_⟩
   ·rw [r3] at hv;obtain ⟨rfl,_,_⟩:=hv;exact .nil _
   ·rw [r3] at hv;simp only [EH] at hv;rw [hv.1];exact .room _ _ _ _
  ·rw [r1] at hv
   simp only [EH] at hv
   subst hv
   refine .lst (.inr (by rw [r1];rfl)) r4 ?_ (r5.mono hfz) r6
   rw [List.drop_zero,r5.length];simp [takeN]
theorem AL.freeze (d:Nat) {b n:Nat} {e:TypeId} {cs:List FV} {z:Bool} (hd:GV L d=some (.vec b n 0 n)) (hb:hget H b=some (.vec e cs n z)):AL E L H nx ((d,.p (.lst e cs n))::L) (hdel H b) nx:=fun B m F σ t h1 h2 h3=>by
 obtain ⟨c1,c2,c3⟩:=RD h1 hb
 refine ⟨_,σ,c1,fun i v hi=>?_,h3.trans c2⟩
 rw [Gm] at hi
 by_cases ei:d=i
 ·rw [if_pos ei] at hi;cases hi
  have:=h2 d _ hd
  subst ei
  generalize Ea t d=u at this
  cases this with
  |vec hb' hc h=>exact .p (c3 _ ((h n (by simp [htag,hb,HB.tag])).2 rfl))
 ·rw [if_neg ei] at hi
  exact (h2 i v hi).step c2 h1
theorem AL.AP (a k:Nat) {b n:Nat} {e e':TypeId} {cs:List FV} {ds:List PV} {z:Bool} (ha:hget H a=some (.box e' ds)) (hk:ds[k]?=some (.vec b n 0 n)) (hb:hget H b=some (.vec e cs n z)) :
 AL E L H nx L (hput (hdel H b) a (.box e' (ds.set k (.p (.lst e cs n))))) nx:=fun B m F σ t h1 h2 h3=>by
 obtain ⟨c1,c2,c3⟩:=RD h1 hb
 have hne:b≠a:=fun e=>by subst e;rw [ha] at hb;cases hb
 have ha':hget (hdel H b) a=some (.box e' ds):=by rw [JE,if_neg hne];exact ha
 obtain ⟨_,c,vs,r1,r2,r3,r4,r5,r6⟩:=c1.hp a _ ha'
 obtain ⟨_,c',vs',s1,s2,s3,s4,s5,s6⟩:=h1.hp a _ ha
 rw [s1] at r1;cases r1
 rw [s4] at r4;cases r4
 obtain ⟨u,hu1,hu2⟩:=s5.get hk
 have hcell:RP m (fun c=>F c∨Du (σ b)=some c) (htag (hdel H b)) σ nx (.p (.lst e cs n)) u:=by
  cases hu2 with
  |vec hb' hc h=>exact .p (c3 _ ((h n (by simp [htag,hb,HB.tag])).2 rfl))
 obtain ⟨d1,d2⟩:=c1.change (m':=m) (b0:=a) (x':=.box e' (ds.set k (.p (.lst e cs n)))) (s':=σ a) ha' trivial (fun _=>rfl) (Nat.le_refl _) (fun _ _ _=>rfl) (fun _ h _ _=>h) (fun c hc=>.inl hc) (by
  refine ⟨_,vs,s1,s2,r3,s4,?_,s6⟩
  have:vs=vs.set k u:=by
   apply List.ext_getElem?
   intro j
   rw [List.getElem?_set]
   by_cases e:k=j
   ·subst e
    rw [if_pos rfl,hu1]
    have:k<vs.length:=by
     rcases Nat.lt_or_ge k vs.length with h|h
     ·exact h
     ·rw [List.getElem?_eq_none h] at hu1;cases hu1
    rw [if_pos this]
   ·rw [if_neg e]
  rw [this]
  exact (r5.set k hcell).mono (fun d hd=>⟨hd,rfl⟩) (FD (x':=.box e' (ds.set k (.p (.lst e cs n)))) ha' trivial fun _=>rfl) (Nat.le_refl _))
 have hσ:upd σ a (σ a)=σ:=by funext x;simp only [upd];split<;>simp_all
 rw [hσ] at d1 d2
 exact ⟨_,σ,d1,(h2.step c2 h1).step d2 c1,(h3.trans c2).trans d2⟩
theorem AL.EL (a k:Nat) (e:TypeId) {e':TypeId} {ds:List PV} (ha:hget H a=some (.box e' ds)) (hk:ds[k]?=some (.p (.val (.slice none 0 0)))) :
 AL E L H nx L (hput ((nx,.vec e [] 0 true)::H) a (.box e' (ds.set k (.vec nx 0 0 0)))) (nx+1):=fun B m F σ t h1 h2 h3=>by
 obtain ⟨c1,c2⟩:=VP e h1
 have hlt:=(h1.hp a _ ha).1
 have ha':hget ((nx,HB.vec e [] 0 true)::H) a=some (.box e' ds):=by rw [Cb,if_neg (by omega)];exact ha
 obtain ⟨_,c,vs,r1,r2,r3,r4,r5,r6⟩:=c1.hp a _ ha'
 obtain ⟨u,hu1,hu2⟩:=r5.get hk
 have hu:u=Dn:=by cases hu2 with|p h=>cases h;rfl
 subst hu
 obtain ⟨d1,d2⟩:=c1.change (m':=m) (b0:=a) (x':=.box e' (ds.set k (.vec nx 0 0 0))) (s':=upd σ nx Dn a) ha' trivial (fun _=>rfl) (Nat.le_refl _) (fun _ _ _=>rfl) (fun _ h _ _=>h) (fun c hc=>.inl hc) (by
  refine ⟨c,vs,r1,r2,r3,r4,?_,r6⟩
  have:vs=vs.set k Dn:=by
   apply List.ext_getElem?
   intro j
   rw [List.getElem?_set]
   by_cases e:k=j
   ·subst e
    rw [if_pos rfl,hu1]
    have:k<vs.length:=by
     rcases Nat.lt_or_ge k vs.length with h|h
     ·exact h
     ·rw [List.getElem?_eq_none h] at hu1;cases hu1
    rw [if_pos this]
   ·rw [if_neg e]
  rw [this]
  exact (r5.set k (YU e H nx)).mono (fun d hd=>⟨hd,rfl⟩) (FD (x':=.box e' (ds.set k (.vec nx 0 0 0))) ha' trivial fun _=>rfl) (Nat.le_refl _))
 have hσ:upd (upd σ nx Dn) a (upd σ nx Dn a)=upd σ nx Dn:=by
  funext x
  by_cases e:x=a
  ·rw [e,upd_same]
  ·rw [C9 _ _ e]
 rw [hσ] at d1 d2
 exact ⟨_,_,d1,(h2.step c2 h1).step d2 c1,(h3.trans c2).trans d2⟩
end Go.Vm
namespace Go.Vm
open Go.Am
variable {E:Env} {L:Frame} {H:Heap} {nx:Nat} {Q:PV→Heap→Nat→Prop} {w:Bool}
variable {dst:Option Tmp} {ty:TypeId} {pos:String} {af:Array Edge} {gd:Option (Nat×Bool)}
def evp (Γ:Nat→Option (List Value×TypeId)) (L:Frame):List (Nat×Operand)→Option (List (Nat×PV))
 |[]=>some []
 |(i,o)::l=>match BG Γ L o with
  |some x=>match evp Γ L l with
   |some r=>some ((i,x)::r)
   |none=>none
  |none=>none
def sG:PV→Bool
 | .EW _=>true
 |_=>false
def Ph (place:Nat→Option (Nat×Nat)) (cs:List PV):List (Nat×PV)→Option (List PV)
 |[]=>some cs
 |(i,v)::rest=>match sG v with
  |true=>none
  |false=>match place i with
   |none=>none
   |some (off,size)=>if (FQ v).length=size∧off+size≤cs.length then Ph place (BJ cs off (FQ v)) rest else none
theorem MR (off:Nat):∀ (l:List Value) (k:Nat) (cs:Array Value),((l.zipIdx k).foldl (fun cs (c,j)=>cs.setIfInBounds (off+j) c) cs).toList=splice cs.toList (off+k) l
 |[],_,_=>rfl
 |a::l,k,cs=>by
  simp only [List.zipIdx_cons,List.foldl_cons]
  rw [MR off l (k+1)]
  simp only [splice,Array.toList_setIfInBounds]
  congr 1
theorem Ub {α:Type} (l:List α):∀ (cs:List α) (o:Nat),(BJ cs o l).length=cs.length:=by
 induction l with
 |nil=>intro cs o;rfl
 |cons a l ih=>intro cs o;simp only [BJ,ih,List.length_set]
section
variable {m:Mem} {F:Nat→Prop} {T:Nat→Option Tg} {σ:Nat→Value} {n:Nat}
inductive RPp (m:Mem) (F:Nat→Prop) (T:Nat→Option Tg) (σ:Nat→Value) (n:Nat):List (Nat×PV)→List (Nat×Value)→Prop
 |nil:RPp m F T σ n [] []
 |cons {i:Nat} {x:PV} {v:Value} {l:List (Nat×PV)} {r:List (Nat×Value)} (h:RP m F T σ n x v) (t:RPp m F T σ n l r):RPp m F T σ n ((i,x)::l) ((i,v)::r)
theorem Oo (place:Nat→Option (Nat×Nat)):∀ {ps:List (Nat×PV)} {ps':List (Nat×Value)} {cs out:List PV} {cs':Array Value},RPp m F T σ n ps ps'→DU m F T σ n cs cs'.toList→cs'.toList.all BU=true →
 Ph place cs ps=some out→∃ out',Instr.fill place cs' ps'=some out'∧DU m F T σ n out out'.toList∧out'.toList.all BU=true
 |[],_,cs,out,cs',.nil,hc,ha,h=>by
  simp only [Ph,Option.some.injEq] at h
  subst h
  exact ⟨cs',rfl,hc,ha⟩
 |(i,x)::ps,_,cs,out,cs',.cons (v:=v) hx ht,hc,ha,h=>by
  simp only [Ph] at h
  have hn:MK x∧sG x=false:=by cases x<;>first|exact ⟨trivial,rfl⟩|(simp only [sG] at h;cases h)
  rw [hn.2] at h
  simp only at h
  obtain ⟨h1,h2⟩:=IU hn.1 hx
  simp only [Instr.fill]
  cases hp:place i with
  |none=>rw [hp] at h;cases h
  |some q =>
   obtain ⟨off,size⟩:=q
   rw [hp] at h
   simp only at h ⊢
   split at h
   ·rename_i hl
    obtain ⟨hl,hle⟩:=hl
    have e1:=h1.length
    have e2:=hc.length
    simp only [Array.length_toList] at e1 e2
    rw [if_neg (by simp only [ne_eq,gt_iff_lt,Bool.or_eq_true,decide_eq_true_eq,not_or];omega)]
    refine Oo place ht ?_ ?_ h
    ·rw [← Array.foldl_toList,Array.toList_zipIdx,MR,Nat.add_zero]
     exact DU.splice off hc h1
    ·rw [← Array.foldl_toList,Array.toList_zipIdx,MR,Nat.add_zero]
     exact G6 _ ha h2
   ·cases h
end
theorem U0 {Γ:Nat→Option (List Value×TypeId)} {m:Mem} {F:Nat→Prop} {σ:Nat→Value} {t:Tr Value} (hx:Ctx Γ m F σ H nx) (hl:RL m F (htag H) σ nx L t):∀ {ps:List (Nat×Operand)} {xs:List (Nat×PV)},evp Γ L ps=some xs→RPp m F (htag H) σ nx xs (ps.map fun (i,x)=>(i,ev t x))
 |[],_,h=>by cases h;exact .nil
 |(i,o)::os,xs,h=>by
  simp only [evp] at h
  cases h1:BG Γ L o with
  |none=>rw [h1] at h;cases h
  |some x =>
   rw [h1] at h
   cases h2:evp Γ L os with
   |none=>rw [h2] at h;cases h
   |some r=>rw [h2] at h;cases h;exact .cons (BX hx hl h1) (U0 hx hl h2)
theorem ZG {P:Program} {t:TypeId} {z:List Value} {fields:Array Field} {places:Array (Nat×Nat)} {ps:Array (Nat×Value)} {out:Array Value} (hz:Cm P t=some z) (hu:P.underlying t=some (.struct fields))
 (hpl:EM P (Array.mapM (fun f=>do pure (f.offset,← sizeOf f.type)) fields)=some places) (hf:Instr.fill (fun x=>places[x]?) z.toArray ps.toList=some out):EM P (Instr.build t ps)=some (.agg out):=by
 obtain ⟨i,zv,h1,h2,h3,h4⟩:=BN hz
 unfold Instr.build
 simp only [Bf]
 have hzv:EM P (zeroValue t)=some zv:=by
  simp only [zeroValue,Bf,Jw,h1,Option.bind_some,h2]
  rfl
 rw [hzv]
 simp only [Option.bind_some,BR,hu]
 simp only [Bf,hpl,Option.bind_some]
 have e:zv.cells=z.toArray:=by rw [h3]
 rw [e,hf]
 rfl
def OG (P:Program):List Field→Option (List (Nat×Nat))
 |[]=>some []
 |f::l=>match P.info? f.type with
  |some i=>match OG P l with
   |some r=>some ((f.offset,i.size)::r)
   |none=>none
  |none=>none
theorem Uk {P:Program}:∀ (l:List Field),EM P (l.mapM fun f=>(do pure (f.offset,← sizeOf f.type):Sem (Nat×Nat)))=OG P l
 |[]=>rfl
 |f::l=>by
  rw [List.mapM_cons]
  simp only [Bf,G8,OG,Uk l]
  cases P.info? f.type with
  |none=>rfl
  |some i =>
   simp only [Option.map_some,Option.bind_some]
   cases OG P l<;>rfl
theorem jc {P:Program} {fields:Array Field} {pl:List (Nat×Nat)} (h:OG P fields.toList=some pl):EM P (Array.mapM (fun f=>(do pure (f.offset,← sizeOf f.type):Sem (Nat×Nat))) fields)=some pl.toArray:=by
 rw [Array.mapM_eq_mapM_toList,map_eq_pure_bind,Bf,Uk,h]
 rfl
theorem Aa.build {t:TypeId} {ps:Array (Nat×Operand)} {z:List Value} {fields:Array Field} {places:List (Nat×Nat)} {parts:List (Nat×PV)} {out:List PV} (hz:Cm E.P t=some z) (hu:E.P.underlying t=some (.struct fields))
 (hpl:OG E.P fields.toList=some places) (hp:evp E.Γ L ps.toList=some parts) (hf:Ph (fun x=>places[x]?) (z.map fun v=>.p (F9 v)) parts=some out) (q:Q (eP out) H nx) :
 Aa E w ⟨dst,.build t ps,ty,pos,af,gd⟩ L H nx Q :=
 Aa.quiet q fun m F σ tt h1 h2=>by
  obtain ⟨_,_,_,_,_,hpz⟩:=BN hz
  obtain ⟨out',e1,e2,e3⟩:=Oo (fun x=>places[x]?) (U0 h1 h2 hp) (cs':=z.toArray) (DU.zero hpz) (Dw hpz) hf
  have e4:=ZG (ps:=ps.map fun (i,x)=>(i,ev tt x)) hz hu (jc hpl) (by rw [Array.toList_map];simpa using e1)
  refine ⟨.agg out',fun _=>?_,Ry e2 e3⟩
  simp only [CX,FH,hz,e4,Option.map_some]
theorem Ou {Γ:Nat→Option (List Value×TypeId)} {m:Mem} {F:Nat→Prop} {σ:Nat→Value} {e:TypeId} {cs:List FV} {vs:List Value} (n:Nat) (h:Ctx Γ m F σ H nx) (hr:DT m F cs vs) (hc:vs.all BU=true) :
 Ctx Γ (m.alloc (.cells vs e 0 false)) F (upd σ nx (.slice (some ⟨m.size,0,none⟩) n 0)) ((nx,.vec e cs n false)::H) (nx+1) ∧
 Step m F σ H nx (m.alloc (.cells vs e 0 false)) F (upd σ nx (.slice (some ⟨m.size,0,none⟩) n 0)) ((nx,.vec e cs n false)::H) (nx+1)∧Quiet m (m.alloc (.cells vs e 0 false)) ∧
 RP (m.alloc (.cells vs e 0 false)) F (htag ((nx,.vec e cs n false)::H)) (upd σ nx (.slice (some ⟨m.size,0,none⟩) n 0)) (nx+1) (.vec nx n 0 n) (.slice (some ⟨m.size,0,none⟩) n 0):=by
 obtain ⟨c1,c2,c3⟩:=h.new (m':=m.alloc (.cells vs e 0 false)) (x:=.vec e cs n false) (s:=.slice (some ⟨m.size,0,none⟩) n 0) (by simp [Mem.alloc]) (fun c hc=>by rw [Mem.CV,if_neg (by omega)]) (by simp only [Mem.alloc];omega)
  (fun c hc=>by simp only [Du,Option.some.injEq] at hc;omega) (.inr ⟨m.size,0,vs,rfl,by simp [Mem.alloc],fun hf=>Nat.lt_irrefl _ (h.fr _ hf),by rw [Mem.CV,if_pos rfl],
   hr.mono (fun c hf=>⟨hf,by rw [Mem.CV,if_neg (by have:=h.fr c hf;omega)]⟩),hc,fun _=>rfl⟩)
 refine ⟨c1,c2,c3,.vec (Nat.lt_succ_self _) rfl fun k hk=>?_⟩
 rw [IV,if_pos rfl] at hk
 simp only [HB.tag,Option.some.injEq,Tg.vec.injEq] at hk
 refine ⟨by omega,fun _=>?_⟩
 rw [upd_same]
 rfl
theorem XI (place:Nat→Option (Nat×Nat)):∀ (ps:List (Nat×PV)) {cs out:List PV},Ph place cs ps=some out→out.length=cs.length
 |[],cs,out,h=>by
  simp only [Ph,Option.some.injEq] at h
  rw [h]
 |(i,v)::rest,cs,out,h=>by
  simp only [Ph] at h
  repeat' split at h
  all_goals first|(cases h;done)|(have:=XI place rest h;rw [this,Ub])
theorem yO {Γ:Nat→Option (List Value×TypeId)} {m:Mem} {F:Nat→Prop} {σ:Nat→Value} (e:TypeId) (h:Ctx Γ m F σ H nx) :
 Ctx Γ m F (upd σ nx (.slice emptyAt 0 0)) ((nx,.vec e [] 0 false)::H) (nx+1)∧Step m F σ H nx m F (upd σ nx (.slice emptyAt 0 0)) ((nx,.vec e [] 0 false)::H) (nx+1)∧Quiet m m:=by
 exact h.new (m':=m) (x:=.vec e [] 0 false) (s:=.slice emptyAt 0 0) (Nat.le_refl _) (fun _ _=>rfl) (Nat.min_le_left _ _) (fun c hc=>by simp [Du,emptyAt] at hc) (.inl ⟨rfl,rfl,.inr ⟨0,0,0,rfl,rfl⟩⟩)
theorem rH {m:Mem} {F:Nat→Prop} {σ:Nat→Value} (e:TypeId) (H:Heap) (nx:Nat):RP m F (htag ((nx,.vec e [] 0 false)::H)) (upd σ nx (.slice emptyAt 0 0)) (nx+1) (.vec nx 0 0 0) (.slice emptyAt 0 0):=by
 refine .vec (Nat.lt_succ_self _) rfl fun n hn=>?_
 rw [IV,if_pos rfl] at hn
 simp only [HB.tag,Option.some.injEq,Tg.vec.injEq] at hn
 subst hn
 refine ⟨Nat.le_refl _,fun _=>?_⟩
 rw [upd_same]
 exact ⟨rfl,rfl,rfl⟩
theorem Aa.buildSlice {t e:TypeId} {len:Nat} {ps:Array (Nat×Operand)} {z:List Value} {i:TypeInfo} {parts:List (Nat×PV)} {out:List PV} {fs:List FV} (hu:E.P.underlying t=some (.slice e)) (hi:E.P.info? e=some i)
 (hz:Cm E.P e=some z) (hl:len*i.size≤2 ^ 24∧z.length=i.size∧0<i.size) (hp:evp E.Γ L ps.toList=some parts) (hf:Ph (fun j=>some (j*i.size,i.size)) ((Bg z len).map fun v=>.p (F9 v)) parts=some out)
 (ha:vO out=some fs) (q:Q (.vec nx len 0 len) ((nx,.vec e fs len false)::H) (nx+1)):Aa E w ⟨dst,.buildSlice t len ps,ty,pos,af,gd⟩ L H nx Q:=by
 intro m F σ tt h1 h2
 obtain ⟨_,_,_,_,_,hpz⟩:=BN hz
 have hpr:=IQ hpz len
 obtain ⟨out',e1,e2,e3⟩:=Oo (fun j=>some (j*i.size,i.size)) (U0 h1 h2 hp) (cs':=(Bg z len).toArray) (DU.zero hpr) (Dw hpr) hf
 have e1':Instr.fill (fun j=>some (j*i.size,i.size)) (Bg z len).toArray (ps.map fun (i,x)=>(i,ev tt x)).toList=some out':=by rw [Array.toList_map];exact e1
 by_cases h0:len=0
 ·subst h0
  have ho:out=[]:=List.length_eq_zero_iff.1 (by rw [XI _ _ hf];rfl)
  subst ho
  have hfs:fs=[]:=by
   have:some ([]:List FV)=some fs:=ha
   exact (Option.some.inj this).symm
  subst hfs
  obtain ⟨c1,c2,c3⟩:=yO e h1
  refine Ik.op (v:=.slice emptyAt 0 0) (fun _=>?_) ⟨_,_,_,F,_,q,c1,rH e H nx,c2,fun _=>c3⟩
  simp only [CX,FH,hu,hi,hz,hl,and_self,if_true,e1',e3]
 obtain ⟨c1,c2,c3,c4⟩:=Ou (e:=e) len h1 (VT ha e2) e3
 refine Ik.op (v:=.slice (some ⟨m.size,0,none⟩) len 0) (fun _=>?_) ⟨_,_,_,F,_,q,c1,c4,c2,fun _=>c3⟩
 simp only [CX,FH,hu,hi,hz,hl,and_self,if_true,e1',e3,BL,h0,if_false]
theorem Aa.makeSlice {t e:TypeId} {l c:Operand} {n:Nat} {z:List Value} {i:TypeInfo} (hu:E.P.underlying t=some (.slice e)) (hi:E.P.info? e=some i) (hz:Cm E.P e=some z) (hl:BG E.Γ L l=some (.p (.int .i64 n))) (hc:BG E.Γ L c=some (.p (.int .i64 n)))
 (hb:n*(i.bytes+1)≤room∧n≤2 ^ 40) (hs:z.length=i.size∧0<i.size) (q:Q (.vec nx n 0 n) ((nx,.vec e ((Bg z n).map F9) n false)::H) (nx+1)):Aa E w ⟨dst,.makeSlice t l c,ty,pos,af,gd⟩ L H nx Q:=by
 intro m F σ tt h1 h2
 obtain ⟨_,_,_,_,_,hpz⟩:=BN hz
 have hpr:=IQ hpz n
 obtain ⟨c1,c2,c3,c4⟩:=Ou (e:=e) n h1 (Hz (F:=F) hpr) (Dw hpr)
 refine Ik.op (v:=.slice (some ⟨m.size,0,none⟩) n 0) (fun _=>?_) ⟨_,_,_,F,_,q,c1,c4,c2,fun _=>c3⟩
 have h0:(0:Int)≤(n:Int)∧(n:Int)≤(n:Int)∧(n:Int).toNat*(i.bytes+1)≤room∧(n:Int)≤2 ^ 40∧z.length=i.size∧0<i.size:=⟨by omega,by omega,by rw [Int.toNat_natCast];exact hb.1,by have:=hb.2;omega,hs⟩
 simp only [CX,FH,hu,Dh h1 h2 hl,Dh h1 h2 hc,hi,hz]
 rw [if_pos h0]
 simp only [BL,Int.toNat_natCast]
def o8 (Γ:Nat→Option (List Value×TypeId)) (L:Frame) (H:Heap) (nx:Nat) (x:Operand) (sz:Nat) (xs:List FV) (k:Nat):Prop :=
 ∀ m F σ t,Ctx Γ m F σ H nx→RL m F (htag H) σ nx L t→lenOf (ev t x)=some k∧∃ l,Cj m sz k (ev t x)=some l∧DT m F xs l∧l.all BU=true
theorem o8.lst {Γ:Nat→Option (List Value×TypeId)} {x:Operand} {e:TypeId} {sz k:Nat} {xs:List FV} (h:BG Γ L x=some (.p (.lst e xs k))) (hl:xs.length=k*sz):o8 Γ L H nx x sz xs k:=fun m F σ t h1 h2=>by
 have:=BX h1 h2 h
 generalize ev t x=v at this
 cases this with
 |p h =>
  cases h with
  |nil=>exact ⟨rfl,[],rfl,.nil,rfl⟩
  |room=>exact ⟨rfl,[],rfl,.nil,rfl⟩
  |lst hF hm hw hr hc =>
   rename_i b o g vs ws ro
   refine ⟨rfl,ws,?_,hr,hc⟩
   simp only [Cj,Nat.le_refl,if_true,Mem.D8,hm]
   simp only [Jk,Option.getD_some,if_true]
   rw [← hl];exact hw
theorem o8.vec {Γ:Nat→Option (List Value×TypeId)} {x:Operand} {b n off len sz:Nat} {e:TypeId} {cs:List FV} {z:Bool} (h:BG Γ L x=some (.vec b n off len)) (hb:hget H b=some (.vec e cs n z)) (hl:off+len*sz≤cs.length) :
 o8 Γ L H nx x sz ((cs.drop off).take (len*sz)) len:=fun m F σ t h1 h2=>by
 have hsub:=GX h1 h2 h hb
 obtain ⟨_,hr⟩:=h1.hp b _ hb
 rcases hr with ⟨r1,r2,r3⟩|⟨c,g,vs,r1,r2,r3,r4,r5,r6,r7⟩
 ·have hv:(∃ a,ev t x=.slice a 0 0∧(a=none∨∃ b o g,a=some ⟨b,o,some g⟩))∧len=0:=by
   rcases r3 with ⟨r3,_⟩|⟨b',o',g',r3,_⟩
   ·rw [r3] at hsub;obtain ⟨q1,q2,q3⟩:=hsub;exact ⟨⟨none,q1,.inl rfl⟩,q3⟩
   ·rw [r3] at hsub;simp only [EH] at hsub;obtain ⟨q1,q2,q3⟩:=hsub;exact ⟨⟨_,q1,.inr ⟨_,_,_,rfl⟩⟩,q3⟩
  obtain ⟨⟨a,ha,hb'⟩,rfl⟩:=hv
  rw [ha]
  refine ⟨rfl,[],?_,by rw [Nat.zero_mul,List.take_zero];exact .nil,rfl⟩
  rcases hb' with rfl|⟨_,_,_,rfl⟩<;>rfl
 ·rw [r1] at hsub
  simp only [EH] at hsub
  rw [hsub]
  have hlen:=r5.length
  have hle:len*sz≤(vs.drop off).length:=by rw [List.length_drop];omega
  refine ⟨rfl,(vs.drop off).take (len*sz),?_,?_,I7 (H7 r6 _) _⟩
  ·simp only [Cj,Nat.le_refl,if_true,Mem.D8,r4]
   simp only [Jk,Option.getD_some,if_true,takeN,if_pos hle]
  ·have:∀ {cs:List FV} {vs:List Value} (k:Nat),DT m F cs vs→DT m F (cs.take k) (vs.take k):=by
    intro cs vs k h
    induction k generalizing cs vs with
    |zero=>exact .nil
    |succ k ih=>cases h with|nil=>exact .nil|cons h t=>exact .cons h (ih t)
   exact this _ (DT.drop off r5)
theorem o8.all {Γ:Nat→Option (List Value×TypeId)} {x:Operand} {b n sz:Nat} {e:TypeId} {cs:List FV} {z:Bool} (h:BG Γ L x=some (.vec b n 0 n)) (hb:hget H b=some (.vec e cs n z)) (hl:cs.length=n*sz):o8 Γ L H nx x sz cs n:=by
 have:=o8.vec (sz:=sz) (nx:=nx) h hb (by omega)
 rw [List.drop_zero,← hl,List.take_length] at this
 exact this
theorem Aa.append {s x:Operand} {sT xT e:TypeId} {xd:TypeDesc} {i:TypeInfo} {b n k:Nat} {cs xs:List FV} {z:Bool} (hs:BG E.Γ L s=some (.vec b n 0 n)) (hb:hget H b=some (.vec e cs n z)) (hx:o8 E.Γ L H nx x i.size xs k)
 (y5:E.P.underlying sT=some (.slice e)) (hxT:E.P.underlying xT=some xd) (hd:∀ k,xd≠.int k) (hi:E.P.info? e=some i) (hzs:FN i=true) (h0:0<k) (hroom:(n+k)*(i.bytes+1)≤room) (hl:cs.length=n*i.size) (hsz:0<i.size)
 (q:Q (.vec b (n+k) 0 (n+k)) (hput H b (.vec e (cs++xs) (n+k) z)) nx):Aa E true ⟨dst,.call { callee:=.builtin .append,args:=#[s,x],argTypes:=#[sT,xT] },ty,pos,af,gd⟩ L H nx Q:=by
 intro m F σ t h1 h2
 have hsub:=GX h1 h2 hs hb
 obtain ⟨hx1,l,hx2,hx3,hx4⟩:=hx m F σ t h1 h2
 obtain ⟨hlt,hr⟩:=h1.hp b _ hb
 have hlenS:lenOf (ev t s)=some n:=by
  rcases hr with ⟨r1,r2,r3⟩|⟨c,g,vs,r1,_⟩
  ·rcases r3 with ⟨r3,_⟩|⟨b',o',g',r3,_⟩<;>rw [r3] at hsub<;>simp only [EH,Dn] at hsub<;>rw [hsub.1,r2]<;>rfl
  ·rw [r1] at hsub;simp only [EH] at hsub;rw [hsub];rfl
 have happ:∀ v m',BM m e i.size l k (ev t s)=some (v,m')→Ip E.P #[sT,xT] #[ev t s,ev t x] m=some (v,m'):=by
  intro v m' ha
  have hxd:∀ a:Option (Value×Mem),a=some (v,m')→(match xd with| .int _=>none|_=>a)=some (v,m'):=by
   intro a ha;cases xd<;>first|exact ha|exact absurd rfl (hd _)
  simp only [Ip,List.getElem?_toArray,List.getElem?_cons_zero,List.getElem?_cons_succ,y5,hxT,hlenS,hi,hzs,Bool.not_true,Bool.false_eq_true,if_false]
  cases xd<;>first|exact absurd rfl (hd _)|(simp only [hx1,hx2,hx4,Bool.and_true,decide_eq_true_eq];rw [if_pos hroom];exact ha)
 have hfin:∀ v m' s',BM m e i.size l k (ev t s)=some (v,m')→s'=v→(Ctx E.Γ m' F (upd σ b s') (hput H b (.vec e (cs++xs) (n+k) z)) nx∧Step m F σ H nx m' F (upd σ b s') (hput H b (.vec e (cs++xs) (n+k) z)) nx)→(∃ c g,v=.slice (some ⟨c,0,none⟩) (n+k) g) →
  Ik E.P E.O E.G ⟨dst,.call { callee:=.builtin .append,args:=#[s,x],argTypes:=#[sT,xT] },ty,pos,af,gd⟩ ⟨t,m⟩ fun v m'=>∃ r H' nx' F' σ',Q r H' nx'∧Ctx E.Γ m' F' σ' H' nx'∧RP m' F' (htag H') σ' nx' r v∧Step m F σ H nx m' F' σ' H' nx'∧(true=false→Quiet m m'):=by
  rintro v m' s' ha rfl ⟨c1,c2⟩ ⟨c,g,hv⟩
  refine Ik.op (v:=s') (m':=m') (fun _=>?_) ⟨_,_,_,F,_,q,c1,?_,c2,fun h=>by cases h⟩
  ·have:=happ _ _ ha
   simp only [CX,FH]
   simpa using this
  ·refine .vec hlt (by rw [hv];rfl) fun j hj=>?_
   rw [SK,if_pos rfl,htag,hb] at hj
   simp only [Option.map_some,HB.tag,Option.some.injEq,Tg.vec.injEq] at hj
   refine ⟨by omega,fun _=>?_⟩
   rw [upd_same,hv]
   rfl
 have a4y:UU (some (HB.vec e cs n z).tag) (some (HB.vec e (cs++xs) (n+k) z).tag):=Nat.le_add_right _ _
 have hne:(HB.vec e cs n z).tag=(HB.vec e (cs++xs) (n+k) z).tag→False:=by simp only [HB.tag,Tg.vec.injEq];omega
 rcases hr with ⟨r1,r2,r3⟩|⟨c,g,vs,r1,r2,r3,r4,r5,r6,r7⟩
 ·have hv:Du (σ b)=none∧(ev t s=.slice none 0 0∨∃ b o g,ev t s=.slice (some ⟨b,o,some g⟩) 0 0):=by
   rcases r3 with ⟨r3,_⟩|⟨b',o',g',r3,_⟩
   ·rw [r3] at hsub ⊢;exact ⟨rfl,.inl hsub.1⟩
   ·rw [r3] at hsub ⊢;simp only [EH] at hsub;exact ⟨rfl,.inr ⟨_,_,_,hsub.1⟩⟩
  have ha:BM m e i.size l k (ev t s)=some (BL m e l k):=by
   rcases hv.2 with hv|⟨_,_,_,hv⟩<;>rw [hv]<;>simp only [BM]<;>rw [if_neg (by omega)]
  subst r1;subst r2
  refine hfin _ _ _ ha rfl ?_ ⟨m.size,0,by rw [Nat.zero_add]⟩
  refine h1.change (x0:=.vec e [] 0 z) (x':=.vec e ([]++xs) (0+k) z) hb a4y (fun e=>(hne e).elim) (by simp [BL,Mem.alloc]) (fun c hc _=>by (try simp only [BL]);rw [Mem.CV,if_neg (by omega)])
   (fun k' k1 k2 _=>by simp only [BL,Mem.alloc];omega) (fun c hc=>by simp only [BL,Du,Option.some.injEq] at hc;right;omega) ?_
  refine .inr ⟨m.size,0,l,by simp [BL],by simp [BL,Mem.alloc],fun hf=>Nat.lt_irrefl _ (h1.fr _ hf),by (try simp only [BL]);rw [Mem.CV,if_pos rfl],?_,hx4,fun h=>by omega⟩
  rw [List.nil_append]
  exact hx3.mono (fun c hf=>⟨hf,by (try simp only [BL]);rw [Mem.CV,if_neg (by have:=h1.fr c hf;omega)]⟩)
 ·rw [r1] at hsub
  simp only [EH] at hsub
  have hlen:=r5.length
  have hold:takeN (n*i.size) (vs.drop 0)=some vs:=by
   rw [List.drop_zero,← hl,hlen];simp [takeN]
  have ha:BM m e i.size l k (ev t s)=some (.slice (some ⟨c,0,none⟩) (n+k) (g+1),m.put c (.cells (vs++l) e (g+1) false)):=by
   rw [hsub]
   simp only [BM,r4,beq_self_eq_true,decide_eq_true hsz,Bool.and_self,if_true,hold]
   simp
  have hput':∀ d,c≠d→(m.put c (.cells (vs++l) e (g+1) false)).get d=m.get d:=fun d hd=>by rw [Mem.get_put,if_neg hd]
  refine hfin _ _ _ ha rfl ?_ ⟨c,g+1,rfl⟩
  refine h1.change (x':=.vec e (cs++xs) (n+k) z) hb a4y (fun e=>(hne e).elim) (Nat.le_refl _) (fun d _ hd=>hput' d fun e=>hd (by rw [r1,e];rfl)) (fun k' k1 k2 k3=>by
   have:=k3 c (by rw [r1];rfl)
   simp only [Mem.put];omega) (fun d hd=>.inl (by rw [r1];exact hd)) ?_
  refine .inr ⟨c,g+1,vs++l,rfl,r2,r3,by rw [Mem.get_put,if_pos rfl],?_,by rw [List.all_append,r6,hx4];rfl,fun h=>by omega⟩
  exact (r5.append hx3).mono (fun d hd=>⟨hd,hput' d fun e=>r3 (e▸hd)⟩)
end Go.Vm
namespace Go.Vm
open Go.Am
variable {P:Program}
inductive Gj {α β:Type} (R:α→β→Prop):List α→List β→Prop
 |nil:Gj R [] []
 |cons {a:α} {b:β} {l:List α} {r:List β} (h:R a b) (t:Gj R l r):Gj R (a::l) (b::r)
def Dz (P:Program):Nat→TypeId→List FV→Prop
 |0,_,_=>False
 |f+1,t,fs=>match P.underlying t with
  |some .bool=>∃ b,fs=[.bool b]
  |some (.int k)=>∃ n,fs=[.int k n]∧(Lit.int k n).wf=true
  |some .string=>∃ s:ByteArray,fs=[.str s]∧s.size≤maxLen
  |some (.slice e)=>∃ L:List (List FV),fs=[.lst e L.flatten L.length]∧L.length≤maxLen∧∀ x∈L,Dz P f e x
  |some (.struct sf)=>∃ parts:List (List FV),fs=parts.flatten∧Gj (fun (fd:Field) x=>Dz P f fd.type x) sf.toList parts
  |some (.array n e)=>∃ L:List (List FV),fs=L.flatten∧L.length=n∧∀ x∈L,Dz P f e x
  |_=>False
def SN (P:Program):Nat→TypeId→Bool
 |0,_=>false
 |f+1,t=>match P.underlying t with
  |some .bool|some (.int _)|some .string=>true
  |some (.slice e)=>P.cellsOf e != 0&&SN P f e
  |some (.struct fs)=>decide ((fs.toList.map fun fd=>((List.range (P.cellsOf t)).drop fd.offset).take (P.cellsOf fd.type)).flatten=List.range (P.cellsOf t))&&fs.toList.all fun fd=>SN P f fd.type
  |some (.array n e)=>decide (((List.range n).map fun i=>((List.range (P.cellsOf t)).drop (i*P.cellsOf e)).take (P.cellsOf e)).flatten=List.range (P.cellsOf t))&&SN P f e
  |_=>false
structure Laid (m m':Mem) (fs:List FV) (l:List Value):Prop where
 rel:DT m' (fun c=>c<m'.size) fs l
 cell:l.all BU=true
 size:m.size≤m'.size
 get:∀ c,c<m.size→m'.get c=m.get c
theorem Laid.refl (m:Mem) {fs:List FV} {l:List Value} (h:DT m (fun c=>c<m.size) fs l) (hc:l.all BU=true):Laid m m fs l:=⟨h,hc,Nat.le_refl _,fun _ _=>rfl⟩
theorem ni {m m':Mem} (hs:m.size≤m'.size) (hg:∀ c,c<m.size→m'.get c=m.get c):∀ c,c<m.size→c<m'.size∧m'.get c=m.get c:=fun c hc=>⟨by omega,hg c hc⟩
section
variable {H:Type} {enc:TypeId×Value→H} {W:World} {held:Bool}
def VX (P:Program) (f:Nat) (t:TypeId) (d:DataW H):Prop:=∀ m,∃ l m' fs,OU P f t d m=some (l,m')∧Dz P f t fs∧Laid m m' fs l
theorem Qy (f:Nat):∀ (xs:List (TypeId×DataW H)),(∀ x∈xs,VX P f x.1 x.2)→∀ m,∃ l m' L,RH (OU P f) xs m=some (l,m')∧Gj (fun (x:TypeId×DataW H) fs=>Dz P f x.1 fs) xs L∧Laid m m' L.flatten l
 |[],_,m=>⟨[],m,[],rfl,.nil,Laid.refl m .nil rfl⟩
 |(t,d)::xs,h,m=>by
  obtain ⟨l1,m1,fs,h1,h2,h3⟩:=h (t,d) (by simp) m
  obtain ⟨l2,m2,L,h4,h5,h6⟩:=Qy f xs (fun x hx=>h x (by simp [hx])) m1
  refine ⟨l1++l2,m2,fs::L,by simp only [RH,h1,h4],.cons h2 h5,?_⟩
  rw [List.flatten_cons]
  exact ⟨(h3.rel.mono (ni h6.size h6.get)).append h6.rel,by rw [List.all_append,h3.cell,h6.cell];rfl,Nat.le_trans h3.size h6.size,fun c hc=>(h6.get c (by have:=h3.size;omega)).trans (h3.get c hc)⟩
theorem Gj.QU {α β γ:Type} {R:β→γ→Prop} {g:α→β}:∀ {l:List α} {r:List γ},Gj R (l.map g) r→Gj (fun a c=>R (g a) c) l r
 |[],_,.nil=>.nil
 |_::_,_,.cons h t=>.cons h (Gj.QU t)
theorem Gj.const {α γ:Type} {R:γ→Prop}:∀ {l:List α} {r:List γ},Gj (fun _ c=>R c) l r→l.length=r.length∧∀ x∈r,R x
 |_,_,.nil=>⟨rfl,by simp⟩
 |_,_,.cons h t=>by
  obtain ⟨h1,h2⟩:=Gj.const t
  exact ⟨by simp [h1],fun x hx=>(List.mem_cons.1 hx).elim (fun e=>e▸h) (h2 x)⟩
theorem Gj.zip {α β γ:Type} {R:α→γ→Prop}:∀ {l:List α} {ds:List β} {r:List γ},l.length=ds.length→Gj (fun (x:α×β) c=>R x.1 c) (l.zip ds) r→Gj R l r
 |[],[],_,_,h=>by cases h;exact .nil
 |a::l,d::ds,r,hl,h=>by
  rw [List.zip_cons_cons] at h
  cases h with|cons h t=>exact .cons h (Gj.zip (by simpa using hl) t)
 |[],_::_,_,hl,_=>by simp at hl
 |_::_,[],_,hl,_=>by simp at hl
theorem kQ:∀ (f:Nat) (t:TypeId) (cs:List Value) (d:DataW H) (ps:List MemPlace),SN P f t=true→DataW.trod enc P W 0 (fun _=>true) held f t cs=some (d,ps)→VX P f t d
 |0,_,_,_,_,h,_=>by cases h
 |f+1,t,cs,d,ps,hok,h=>by
  have ih:=kQ f
  intro m
  unfold DataW.trod at h
  unfold OU
  unfold SN at hok
  unfold Dz
  cases hu:P.underlying t with
  |none=>rw [hu] at hok;cases hok
  |some u =>
   rw [hu] at h hok
   cases u with
   |bool =>
    match cs,h with
    |[.bool b],h =>
     simp only [Option.some.injEq,Prod.mk.injEq] at h
     obtain ⟨rfl,rfl⟩:=h
     exact ⟨_,_,_,rfl,⟨b,rfl⟩,Laid.refl m (.cons (.bool b) .nil) rfl⟩
   |int k =>
    match cs,h with
    |[.int k' n],h =>
     simp only at h
     split at h
     ·rename_i hc
      simp only [Option.some.injEq,Prod.mk.injEq] at h
      obtain ⟨rfl,rfl⟩:=h
      exact ⟨_,_,_,rfl,⟨n,rfl,hc.2⟩,Laid.refl m (.cons (.int k n) .nil) rfl⟩
     ·cases h
   |string =>
    match cs,h with
    |[.string s],h =>
     simp only at h
     split at h
     ·rename_i hc
      simp only [Option.some.injEq,Prod.mk.injEq] at h
      obtain ⟨rfl,rfl⟩:=h
      exact ⟨_,_,_,rfl,⟨s,rfl,hc⟩,Laid.refl m (.cons (.str s) .nil) rfl⟩
     ·cases h
   |slice e =>
    simp only [Bool.and_eq_true,bne_iff_ne,ne_eq] at hok
    match cs,h with
    |[.slice none 0 0],h =>
     simp only [Option.some.injEq,Prod.mk.injEq] at h
     obtain ⟨rfl,rfl⟩:=h
     exact ⟨_,_,_,rfl,⟨[],rfl,Nat.zero_le _,by simp⟩,Laid.refl m (.cons (.nil e) .nil) rfl⟩
    |[.slice (some a) len cap],h =>
     simp only at h
     split at h
     ·rename_i hc
      simp only [Option.bind_eq_some_iff,Option.map_eq_some_iff] at h
      obtain ⟨elems,h1,rest,h2,h3⟩:=h
      simp only [Prod.mk.injEq] at h3
      obtain ⟨rfl,rfl⟩:=h3
      obtain ⟨hl,hm⟩:=mapM_some h1
      simp only [hok.1,if_false]
      split
      ·rename_i he
       simp only [Bool.and_eq_true,List.isEmpty_iff] at he
       exact ⟨_,_,_,rfl,⟨[],rfl,Nat.zero_le _,by simp⟩,Laid.refl m (.cons (.room e 0 0 0) .nil) rfl⟩
      ·have hcan:∀ x∈(elems.map (·.1)).map fun x=>(e,x),VX P f x.1 x.2:=by
        intro x hx
        simp only [List.mem_map] at hx
        obtain ⟨y,⟨z,hz,rfl⟩,rfl⟩:=hx
        obtain ⟨i,hi⟩:=List.getElem?_of_mem hz
        have hlt:i<(List.range len).length:=by
         have:i<elems.length:=by
          rcases Nat.lt_or_ge i elems.length with h|h
          ·exact h
          ·rw [List.getElem?_eq_none h] at hi;cases hi
         omega
        obtain ⟨b,hb1,hb2⟩:=hm i _ (List.getElem?_eq_getElem hlt)
        rw [hi] at hb1;cases hb1
        simp only [Option.bind_eq_some_iff] at hb2
        obtain ⟨cs',_,hb3⟩:=hb2
        exact ih e cs' z.1 z.2 hok.2 hb3
       obtain ⟨l,m',L,e1,e2,e3⟩:=Qy f _ hcan m
       obtain ⟨e4,e5⟩:=Gj.const (R:=fun fs=>Dz P f e fs) (Gj.QU (R:=fun (x:TypeId×DataW H) fs=>Dz P f x.1 fs) (g:=fun x=>(e,x)) e2)
       rw [e1]
       simp only [List.length_map,List.length_range] at e4 hl ⊢
       have hg:∀ c,c<m'.size→(m'.alloc (.cells l e 0 true)).get c=m'.get c:=fun c hc=>by rw [Mem.CV,if_neg (by omega)]
       have hsz:(m'.alloc (.cells l e 0 true)).size=m'.size+1:=rfl
       refine ⟨_,_,_,rfl,⟨L,rfl,by omega,e5⟩,⟨?_,rfl,by rw [hsz];have:=e3.size;omega,fun c hc=>(hg c (by have:=e3.size;omega)).trans (e3.get c hc)⟩⟩
       rw [show elems.length=L.length by omega]
       refine .cons (.lst (by rw [hsz];omega) (by rw [Mem.CV,if_pos rfl]) (ws:=l) ?_ (e3.rel.mono fun c hc=>⟨by rw [hsz];omega,hg c hc⟩) e3.cell) .nil
       rw [List.drop_zero,e3.rel.length];simp [takeN]
     ·cases h
   |struct sf =>
    simp only [Bool.and_eq_true,decide_eq_true_eq] at hok
    obtain ⟨hok1,hok2⟩:=hok
    have h':(if cs.length=P.cellsOf t then (sf.toList.mapM fun f_1=>DataW.trod enc P W 0 (fun _=>true) held f f_1.type ((cs.drop f_1.offset).take (P.cellsOf f_1.type))).map fun xs=>((.agg (xs.map (·.1)):DataW H),xs.flatMap (·.2)) else none)=some (d,ps):=by
     revert h;cases cs with
     |nil=>exact id
     |cons c cs=>cases c<;>cases cs<;>exact id
    split at h'
    ·simp only [Option.map_eq_some_iff,Prod.mk.injEq] at h'
     obtain ⟨xs,h1,rfl,rfl⟩:=h'
     obtain ⟨hl,hm⟩:=mapM_some h1
     simp only [hok1,if_true]
     have hcan:∀ x∈(sf.toList.map (·.type)).zip (xs.map (·.1)),VX P f x.1 x.2:=by
      intro x hx
      obtain ⟨i,hi⟩:=List.getElem?_of_mem hx
      rw [List.getElem?_zip_eq_some,List.getElem?_map,List.getElem?_map,Option.map_eq_some_iff,Option.map_eq_some_iff] at hi
      obtain ⟨⟨fd,hfd,hx1⟩,⟨y,hy,hx2⟩⟩:=hi
      obtain ⟨b,hb1,hb2⟩:=hm i fd hfd
      rw [hy] at hb1;cases hb1
      have hx':x=(fd.type,y.1):=by rw [hx1,hx2]
      rw [hx']
      exact ih fd.type _ y.1 y.2 (List.all_eq_true.1 hok2 fd (List.mem_of_getElem? hfd)) hb2
     obtain ⟨l,m',L,e1,e2,e3⟩:=Qy f _ hcan m
     refine ⟨l,m',L.flatten,e1,⟨L,rfl,?_⟩,e3⟩
     exact Gj.QU (R:=fun t fs=>Dz P f t fs) (g:=fun (fd:Field)=>fd.type) (Gj.zip (R:=fun t fs=>Dz P f t fs) (by simp only [List.length_map];omega) e2)
    ·cases h'
   |array n e =>
    simp only [Bool.and_eq_true,decide_eq_true_eq] at hok
    obtain ⟨hok1,hok2⟩:=hok
    have h':(if cs.length=P.cellsOf t then ((List.range n).mapM fun i=>DataW.trod enc P W 0 (fun _=>true) held f e ((cs.drop (i*P.cellsOf e)).take (P.cellsOf e))).map fun xs=>((.agg (xs.map (·.1)):DataW H),xs.flatMap (·.2)) else none)=some (d,ps):=by
     revert h;cases cs with
     |nil=>exact id
     |cons c cs=>cases c<;>cases cs<;>exact id
    split at h'
    ·simp only [Option.map_eq_some_iff,Prod.mk.injEq] at h'
     obtain ⟨xs,h1,rfl,rfl⟩:=h'
     obtain ⟨hl,hm⟩:=mapM_some h1
     simp only [hok1,if_true]
     have hcan:∀ x∈(xs.map (·.1)).map fun x=>(e,x),VX P f x.1 x.2:=by
      intro x hx
      simp only [List.mem_map] at hx
      obtain ⟨y,⟨z,hz,rfl⟩,rfl⟩:=hx
      obtain ⟨i,hi⟩:=List.getElem?_of_mem hz
      have hlt:i<(List.range n).length:=by
       have:i<xs.length:=by
        rcases Nat.lt_or_ge i xs.length with h|h
        ·exact h
        ·rw [List.getElem?_eq_none h] at hi;cases hi
       omega
      obtain ⟨b,hb1,hb2⟩:=hm i _ (List.getElem?_eq_getElem hlt)
      rw [hi] at hb1;cases hb1
      exact ih e _ z.1 z.2 hok2 hb2
     obtain ⟨l,m',L,e1,e2,e3⟩:=Qy f _ hcan m
     obtain ⟨e4,e5⟩:=Gj.const (R:=fun fs=>Dz P f e fs) (Gj.QU (R:=fun (x:TypeId×DataW H) fs=>Dz P f x.1 fs) (g:=fun x=>(e,x)) e2)
     simp only [List.length_map,List.length_range] at e4 hl
     exact ⟨l,m',L.flatten,e1,⟨L,rfl,by omega,e5⟩,e3⟩
    ·cases h'
   |_=>cases hok
end
end Go.Vm
namespace Go.Vm
open Go.Am
variable {P:Program}
def noO:CJ:=fun _=>none
open Classical in
noncomputable def xk (G:List Nat) (M0:Mem) (fs:List FuncId):CJ:=fun f =>
 if f∈fs then some fun CG m=>if CG=[]∧∀ k∈G,m.get k=M0.get k then some (.bool true,m) else none else none
theorem Ji {F:Nat} {laid:List (String×DataW Unit)} {k:Nat} (hk:k<P.globals.size):(CY P F laid).get k=match Gv P F laid k with|some (e,l)=>.cells l e 0 true|none=>.cells [] 0 0 true:=by
 rw [CY,Px,if_neg (by simp [Am.empty])]
 simp only [Am.empty,Nat.sub_zero,List.getElem?_map]
 rw [List.getElem?_eq_getElem (by simpa using hk)]
 simp only [List.getElem_range,Option.map_some]
 cases Gv P F laid k<;>rfl
theorem QS {F:Nat} {laid:List (String×DataW Unit)}:(CY P F laid).size=P.globals.size:=by rw [CY,NU];simp [Am.empty]
theorem Rj {F:Nat} {laid:List (String×DataW Unit)} {k:Nat} (h:k∈BP P F laid):k<P.globals.size∧∃ e l,Gv P F laid k=some (e,l):=by
 simp only [BP,List.mem_filter,List.mem_range] at h
 obtain ⟨h1,h2⟩:=h
 cases hg:Gv P F laid k with
 |none=>rw [hg] at h2;cases h2
 |some x=>exact ⟨h1,x.1,x.2,rfl⟩
theorem Qq {F:Nat} {laid:List (String×DataW Unit)} {k:Nat} {e:TypeId} {l:List Value} (h:Gv P F laid k=some (e,l)):l.all Am.plainCell=true:=by
 unfold Gv at h
 split at h
 ·rename_i x g _ _
  simp only [Option.map_eq_some_iff,Prod.mk.injEq] at h
  obtain ⟨r,h1,_,rfl⟩:=h
  unfold absP at h1
  split at h1
  ·rename_i l' m' _
   split at h1
   ·rename_i hp;cases h1;exact hp
   ·cases h1
  ·cases h1
 ·cases h
def gam (P:Program) (F:Nat) (laid:List (String×DataW Unit)):Nat→Option (List Value×TypeId):=fun k=>if k<P.globals.size then (Gv P F laid k).map fun x=>(x.2,x.1) else none
noncomputable def gY (P:Program) (F:Nat) (laid:List (String×DataW Unit)) (fs:List FuncId):Env :=
 ⟨P,xk (BP P F laid) (CY P F laid) fs,BP P F laid,gam P F laid⟩
theorem Dz.array {f n:Nat} {t e:TypeId} {fs:List FV} (h:Dz P (f+1) t fs) (hu:P.underlying t=some (.array n e)):∃ L:List (List FV),fs=L.flatten∧L.length=n∧∀ x∈L,Dz P f e x:=by
 unfold Dz at h;rw [hu] at h;exact h
theorem Dz.int {f:Nat} {t:TypeId} {fs:List FV} {k:IntKind} (h:Dz P (f+1) t fs) (hu:P.underlying t=some (.int k)):∃ n,fs=[.int k n]∧(Lit.int k n).wf=true:=by
 unfold Dz at h;rw [hu] at h;exact h
theorem Dz.str {f:Nat} {t:TypeId} {fs:List FV} (h:Dz P (f+1) t fs) (hu:P.underlying t=some .string):∃ s:ByteArray,fs=[.str s]∧s.size≤maxLen:=by
 unfold Dz at h;rw [hu] at h;exact h
def uw (P:Program) (F:Nat):List TypeId→List (List FV)→Prop:=Gj (fun t fs=>Dz P F t fs)
def Ua (P:Program) (t:TypeId) (fs:List FV):Option FV :=
 match P.underlying t,fs with
 |some (.struct _),fs=>some (.agg fs)
 |some (.array _ _),fs=>some (.agg fs)
 |some .bool,[v]|some (.int _),[v]|some .string,[v]|some (.slice _),[v]=>some v
 |_,_=>none
theorem qp {m:Mem} {F:Nat→Prop} {n:Nat} {t:TypeId} {fs:List FV} {l:List Value} (h:DT m F fs l) (hc:l.all BU=true) (ht:Dz P n t fs):∃ x v,Ua P t fs=some x∧ak P t l=some v∧RF m F x v:=by
 cases n with
 |zero=>exact ht.elim
 |succ n =>
  unfold Dz at ht
  unfold Ua ak
  cases hu:P.underlying t with
  |none=>rw [hu] at ht;exact ht.elim
  |some u =>
   rw [hu] at ht
   cases u with
   |bool=>obtain ⟨b,rfl⟩:=ht;cases h with|cons h1 t1=>cases t1;exact ⟨_,_,rfl,rfl,h1⟩
   |int k=>obtain ⟨b,rfl,_⟩:=ht;cases h with|cons h1 t1=>cases t1;exact ⟨_,_,rfl,rfl,h1⟩
   |string=>obtain ⟨b,rfl,_⟩:=ht;cases h with|cons h1 t1=>cases t1;exact ⟨_,_,rfl,rfl,h1⟩
   |slice e=>obtain ⟨b,rfl,_⟩:=ht;cases h with|cons h1 t1=>cases t1;exact ⟨_,_,rfl,rfl,h1⟩
   |struct sf=>exact ⟨_,_,rfl,rfl,.agg h hc⟩
   |array k e=>exact ⟨_,_,rfl,rfl,.agg h hc⟩
   |_=>exact ht.elim
theorem XP:∀ (f:Nat) (t:TypeId),SN P f t=true→SN P (f+1) t=true
 |0,_,h=>by cases h
 |f+1,t,h=>by
  have ih:=XP f
  unfold SN at h ⊢
  cases hu:P.underlying t with
  |none=>rw [hu] at h;cases h
  |some u =>
   rw [hu] at h
   cases u with
   |bool=>rfl
   |int k=>rfl
   |string=>rfl
   |slice e =>
    simp only [Bool.and_eq_true] at h ⊢
    exact ⟨h.1,ih e h.2⟩
   |struct fs =>
    simp only [Bool.and_eq_true,List.all_eq_true] at h ⊢
    exact ⟨h.1,fun fd hfd=>ih _ (h.2 fd hfd)⟩
   |array n e =>
    simp only [Bool.and_eq_true] at h ⊢
    exact ⟨h.1,ih e h.2⟩
   |_=>cases h
theorem kX {f g:Nat} {t:TypeId} (hfg:f≤g) (h:SN P f t=true):SN P g t=true:=by
 induction hfg with
 |refl=>exact h
 |step _ ih=>exact XP _ _ ih
section
variable {H:Type} {enc:TypeId×Value→H} {W:World} {held:Bool}
def vk (enc:TypeId×Value→H) (P:Program) (W:World) (held:Bool) (n:Nat):List TypeId→List Value→List (DataW H)→Prop
 |[],[],[]=>True
 |t::ts,v::vs,d::ds=>(∃ p,DataW.trod enc P W 0 (fun _=>true) held n t v.cells.toList=some (d,p))∧vk enc P W held n ts vs ds
 |_,_,_=>False
theorem uj:∀ (ts:List TypeId) (vs:List Value) (ds:List (DataW H)) (ps:List MemPlace),DataW.TrodAll enc P W 0 (fun _=>true) held ts vs ds ps→∃ N,∀ n,N≤n→vk enc P W held n ts vs ds
 |[],[],[],_,_=>⟨0,fun _ _=>trivial⟩
 |t::ts,v::vs,d::ds,ps,⟨p,q,⟨f,h1⟩,h2,_⟩=>by
  obtain ⟨N,hN⟩:=uj ts vs ds q h2
  exact ⟨max f N,fun n hn=>⟨⟨p,DataW.trod_le (by omega) h1⟩,hN n (by omega)⟩⟩
 |[],[],_::_,_,h=>h.elim
 |[],_::_,_,_,h=>h.elim
 |_::_,[],_,_,h=>h.elim
 |_::_,_::_,[],_,h=>h.elim
theorem Sz {n:Nat}:∀ (ts:List TypeId) (vs:List Value) (ds:List (DataW H)),(∀ t∈ts,SN P n t=true)→vk enc P W held n ts vs ds→∀ m,∃ CG m' iW xs,QL P n ts ds m=some (CG,m') ∧
 uw P n ts iW∧Gj (fun (tf:TypeId×List FV) x=>Ua P tf.1 tf.2=some x) (ts.zip iW) xs∧DT m' (fun c=>c<m'.size) xs CG∧m.size≤m'.size∧∀ c,c<m.size→m'.get c=m.get c
 |[],[],[],_,_,m=>⟨[],m,[],[],rfl,.nil,.nil,.nil,Nat.le_refl _,fun _ _=>rfl⟩
 |t::ts,v::vs,d::ds,hok,⟨⟨p,h1⟩,h2⟩,m=>by
  obtain ⟨l,m1,fs,e1,e2,e3⟩:=kQ n t _ d p (hok t (by simp)) h1 m
  obtain ⟨x,u,p1,p2,p3⟩:=qp e3.rel e3.cell e2
  obtain ⟨CG,m2,iW,xs,q1,q2,q3,q4,q5,q6⟩:=Sz ts vs ds (fun t ht=>hok t (by simp [ht])) h2 m1
  refine ⟨u::CG,m2,fs::iW,x::xs,by simp only [QL,e1,p2,q1],.cons e2 q2,.cons p1 q3,.cons (p3.mono (ni q5 q6)) q4,Nat.le_trans e3.size q5,fun c hc=>(q6 c (by have:=e3.size;omega)).trans (e3.get c hc)⟩
 |[],[],_::_,_,h,_=>h.elim
 |[],_::_,_,_,h,_=>h.elim
 |_::_,[],_,_,h,_=>h.elim
 |_::_,_::_,[],_,h,_=>h.elim
theorem law {r:Go.Reach} {b0 F:Nat} {laid:List (String×DataW Unit)} {fs:List FuncId} {f:FuncId} {ts:List TypeId} {args:Array Value} {ds:List (DataW H)} {ps:List MemPlace}
 (hL:laidMet P laid W) (hA:DataW.TrodAll enc P W 0 (fun _=>true) held ts args.toList ds ps) (hv:∀ (j:Nat) t v,ts[j]?=some t→args.toList[j]?=some v→Value.okWide P W r b0 t v)
 (aY:P.follows .mixedOrders=true) (hty:ts.all (SN P F)=true)
 (hO:Hg P (BP P F laid) (xk (BP P F laid) (CY P F laid) fs))
 (hp:∀ j iW xs,uw P (j+F) ts iW→Gj (fun (tf:TypeId×List FV) x=>Ua P tf.1 tf.2=some x) (ts.zip iW) xs→AX (gY P F laid fs) f xs (.p (.bool true))) :
 Calls P f args W fun e W'=>e=.returned (.bool true)∧Go.RowKit.Below W.heap.size W W':=by
 obtain ⟨N,hN⟩:=uj ts _ ds ps hA
 obtain ⟨j,hj⟩:∃ j,max N F=j+F:=⟨max N F-F,by omega⟩
 obtain ⟨CG,m1,iW,xs,q1,q2,q3,q4,q5,q6⟩:=Sz ts _ ds (fun t ht=>kX (by omega) (List.all_eq_true.1 hty t ht)) (hN (max N F) (by omega)) (CY P F laid)
 rw [hj] at q2
 have bQ:Ctx (gY P F laid fs).Γ m1 (fun c=>c<m1.size) (fun _=>undef) [] 0:=by
  refine ⟨fun _ h=>h,fun b x hb=>(by cases hb),fun b b' x x' c hb=>(by cases hb),fun g vs e hg=>?_⟩
  simp only [gY,gam] at hg
  split at hg
  ·rename_i hlt
   simp only [Option.map_eq_some_iff,Prod.mk.injEq] at hg
   obtain ⟨⟨e',l⟩,h1,rfl,rfl⟩:=hg
   have hlt':g<(CY P F laid).size:=by rw [QS];exact hlt
   exact ⟨by omega,by rw [q6 g hlt',Ji hlt,h1],Qq h1⟩
  ·cases hg
 obtain ⟨v,m',⟨K,hK⟩,r0,H',nx',F',σ',⟨rfl,_,_⟩,_,hrv,_⟩:=hp j iW xs q2 q3 m1 _ _ CG bQ (DU.XY q4)
 have hv1:v=.bool true:=by cases hrv with|p h=>cases h;rfl
 subst hv1
 obtain ⟨ι,hs,hro⟩:=X6 (F:=F) hL
 obtain ⟨ι1,o1,o2,o3,o4⟩:=Rz ts _ ds ps hA hv ι _ m1 CG hs hro q1
 refine ((Np hO aY K f).1 CG m1 _ m' (hK K K (Nat.le_refl _) (Nat.le_refl _)) ι1 W args o1 o4).mono fun e W' ⟨v',he,ι2,hx,hs2,QN⟩=>?_
 have:=QN.CB (v:=.bool true) rfl
 subst this
 exact ⟨he,⟨hx.os,hx.tape,hx.output,hx.heap,fun c hcl=>hx.frame c hcl fun b ib hb _=>.inl (o3 b (o1.dom b ib hb).1)⟩⟩
end
end Go.Vm
namespace Go.Vm
open Go.Am
variable {E:Env} {L:Frame} {H:Heap} {nx:Nat} {Q:PV→Heap→Nat→Prop} {w:Bool}
variable {dst:Option Tmp} {ty:TypeId} {pos:String} {af:Array Edge} {gd:Option (Nat×Bool)}
def evF (Γ:Nat→Option (List Value×TypeId)) (L:Frame):List Operand→Option (List FV)
 |[]=>some []
 |o::l=>match BG Γ L o with
  |some (.p x)=>match evF Γ L l with
   |some r=>some (x::r)
   |none=>none
  |_=>none
theorem Zi {Γ:Nat→Option (List Value×TypeId)}:∀ {os:List Operand} {xs:List FV},evF Γ L os=some xs→evs Γ L os=some (xs.map .p)
 |[],_,h=>by cases h;rfl
 |o::os,xs,h=>by
  simp only [evF] at h
  split at h
  ·rename_i x hx
   split at h
   ·rename_i r hr
    cases h
    simp only [evs,hx,Zi hr,List.map_cons]
   ·cases h
  ·cases h
theorem Aa.fn {fo:Operand} {args:Array Operand} {aT:Array TypeId} {g:FuncId} {xs:List FV} {r:PV} (hf:BG E.Γ L fo=some (.clo g [] [])) (ha:evF E.Γ L args.toList=some xs)
 (hc:AX E g xs r) (hr:∀ ρ,r.rn ρ=r) (q:Q r H nx):Aa E w ⟨dst,.call { callee:=.value fo,args:=args,argTypes:=aT },ty,pos,af,gd⟩ L H nx Q :=
 Aa.a4h hf (Zi ha) (.refl _) hc hr q
theorem Aa.fv {fo:Operand} {args:Array Operand} {aT:Array TypeId} {g:FuncId} {xs cs:List FV} {e:TypeId} {n:Nat} {z:Bool} (hf:BG E.Γ L fo=some (.clo g [] [])) (ha:evF E.Γ L args.toList=some xs)
 (hc:Ci E g xs e cs n z) (q:Q (.vec nx n 0 n) ((nx,.vec e cs n z)::H) (nx+1)):Aa E w ⟨dst,.call { callee:=.value fo,args:=args,argTypes:=aT },ty,pos,af,gd⟩ L H nx Q :=
 Aa.a5p hf (Zi ha) (.refl _) hc q
theorem AX.enter {f:FuncId} {fn:Func} {c:Code} {xs:List FV} {r:PV} (ho:E.O f=none) (hf:E.P.funcs[f]?=some fn) (hb:fn.body=some c) (hok:H6 E.G fn c=true) (hn:xs.length≤fn.ntmps)
 (h:Ad E 0 c (CQ 0 (xs.map .p)) [] 0 (Done E.P fn.results.toList 0 fun r' H' nx'=>r'=r∧H'=[]∧nx'=0)):AX E f xs r:=BF.enter ho hf hb hok (by simpa using hn) h
def CS (P:Program) (rs:List ResultVar) (e:TypeId) (cs:List FV) (n:Nat) (z:Bool) (x:CO) (L:Frame) (H:Heap) (_:Nat):Prop :=
 match x with
 | .exit _=>False
 | .normal=>∃ b,EO P rs L H=some (.vec b n 0 n)∧hget H b=some (.vec e cs n z)
 | .ret=>∃ b,EO P rs L H=some (.vec b n 0 n)∧hget H b=some (.vec e cs n z)
theorem CS.ret {P:Program} {rs:List ResultVar} {e:TypeId} {cs cs':List FV} {n n':Nat} {z:Bool} {b:Nat} (h:EO P rs L H=some (.vec b n' 0 n')) (hb:hget H b=some (.vec e cs' n' z)) (hn:n'=n) (hcs:cs'=cs):CS P rs e cs n z .ret L H nx:=by
 subst hn;subst hcs;exact ⟨b,h,hb⟩
theorem Ci.enter {f:FuncId} {fn:Func} {c:Code} {xs cs:List FV} {e:TypeId} {n:Nat} {z:Bool} (ho:E.O f=none) (hf:E.P.funcs[f]?=some fn) (hb:fn.body=some c) (hok:H6 E.G fn c=true) (hn:xs.length≤fn.ntmps)
 (h:Ad E 0 c (CQ 0 (xs.map .p)) [] 0 (CS E.P fn.results.toList e cs n z)):Ci E f xs e cs n z:=by
 intro m F σ CG h1 h2
 refine Jm.enter ho hf hb hok (by rw [← h2.length];simpa using hn) ((h ⟨m,F,σ,[],0⟩ rfl m F σ _ h1 ?_ (Step.refl _ _ _ _ _)).mono ?_)
 ·intro i v hi
  obtain ⟨_,h3⟩:=JB _ 0 i v hi
  obtain ⟨u,h4,h5⟩:=h2.get h3
  have:=I8 CG 0 .leaf i
  simp only [Nat.sub_zero] at h4
  have hlt:i<CG.length:=by
   rcases Nat.lt_or_ge i CG.length with h|h
   ·exact h
   ·rw [List.getElem?_eq_none h] at h4;cases h4
  rw [this,if_pos ⟨Nat.zero_le _,by omega⟩,Nat.sub_zero,List.getD_eq_getElem?_getD,h4]
  exact h5
 ·rintro x s ⟨L',H',nx',F',σ',q,c1,c2,c3⟩
  have key:(∃ b,EO E.P fn.results.toList L' H'=some (.vec b n 0 n)∧hget H' b=some (.vec e cs n z))→∃ v,EK E.P fn s=some v∧∃ r H' nx' F' σ',(r=.vec 0 n 0 n∧H'=[(0,.vec e cs n z)]∧nx'=1)∧Ctx E.Γ s.m F' σ' H' nx'∧RP s.m F' (htag H') σ' nx' r v∧Step m F σ [] 0 s.m F' σ' H' nx':=by
   rintro ⟨b,hr,hb⟩
   obtain ⟨v,h3,h4⟩:=LX c1 c2 hr
   obtain ⟨_,hrb⟩:=c1.hp b _ hb
   have hone:∀ b' x,hget [(0,HB.vec e cs n z)] b'=some x→b'=0∧x=.vec e cs n z:=fun b' x hx=>by
    rw [Cb] at hx
    split at hx
    ·rename_i e';cases hx;exact ⟨e'.symm,rfl⟩
    ·cases hx
   refine ⟨v,h3,_,_,_,F',fun _=>σ' b,⟨rfl,rfl,rfl⟩,⟨c1.fr,fun b' x hx=>?_,fun b1 b2 x1 x2 c hx1 hx2 _ _=>?_,c1.gl⟩,?_,⟨c3.size,c3.keep,c3.NT,c3.Ny,fun c hc ho=>?_,Nat.zero_le _,fun b hb=>absurd hb (Nat.not_lt_zero _),c3.low⟩⟩
   ·obtain ⟨rfl,rfl⟩:=hone b' x hx
    exact ⟨by omega,hrb⟩
   ·rw [(hone b1 x1 hx1).1,(hone b2 x2 hx2).1]
   ·cases h4 with
    |vec hb' hc h =>
     refine .vec (by omega) hc fun k hk=>?_
     have hk':htag [(0,HB.vec e cs n z)] 0=some (.vec n):=rfl
     rw [hk'] at hk
     cases hk
     exact ⟨Nat.le_refl _,fun _=>(h n (by simp [htag,hb,HB.tag])).2 rfl⟩
   ·obtain ⟨b',x,hx,hc'⟩:=ho
    exact c3.JW c hc ⟨b,_,hb,hc'⟩
  cases x with
  |exit i=>exact q.elim
  |normal=>exact key q
  |ret=>exact key q
theorem Aa.Dv {α:Type} {_:Enc α} {l:List α} {a:α} {s x:Operand} {sT xT e e2:TypeId} {xd:TypeDesc} {i:TypeInfo} {b b2 n:Nat} {xs:List FV} {z z2:Bool} (hs:BG E.Γ L s=some (.vec b n 0 n)) (hb:hget H b=some (.vec e (cells l) n z))
 (hx:BG E.Γ L x=some (.vec b2 1 0 1)) (hb2:hget H b2=some (.vec e2 xs 1 z2)) (hxs:xs=Enc.enc a) (hn:l.length=n) (y5:E.P.underlying sT=some (.slice e)) (hxT:E.P.underlying xT=some xd) (hd:∀ k,xd≠.int k) (hi:E.P.info? e=some i)
 (hsz:Enc.size α=i.size) (hzs:FN i=true) (h0:0<i.size) (hby:i.bytes<1000000) (hlen:l.length<1000000) (q:Q (.vec b (l.length+1) 0 (l.length+1)) (hput H b (.vec e (cells (l++[a])) (l.length+1) z)) nx) :
 Aa E true ⟨dst,.call { callee:=.builtin .append,args:=#[s,x],argTypes:=#[sT,xT] },ty,pos,af,gd⟩ L H nx Q:=by
 subst hn
 have hroom:(l.length+1)*(i.bytes+1)≤room:=Nat.le_trans (Nat.mul_le_mul (by omega:l.length+1≤1000000) (by omega:i.bytes+1≤1000000)) (by decide)
 refine Aa.append (i:=i) hs hb (o8.all hx hb2 (by rw [hxs,Enc.len,← hsz];omega)) y5 hxT hd hi hzs (by omega) hroom (by rw [BK,hsz]) h0 ?_
 have:cells (l++[a])=cells l++xs:=by rw [En,hxs];simp [cells,encs]
 rw [← this]
 exact q
theorem Aa.not {t:TypeId} {x:Operand} {b:Bool} (hx:BG E.Γ L x=some (.p (.bool b))) (q:Q (.p (.bool (!b))) H nx):Aa E w ⟨dst,.unOp .not t x,ty,pos,af,gd⟩ L H nx Q :=
 Aa.quiet q fun m F σ tt h1 h2=>by
  refine ⟨.bool (!b),fun _=>?_,.p (.bool _)⟩
  have hb:=Io h1 h2 hx
  simp only [CX,FH,hb]
  cases b<;>rfl
theorem PV.int_eq {k:IntKind} {a b:Int} (h:a=b):(PV.p (.int k a))=.p (.int k b):=by rw [h]
theorem PV.Ir {a b:Bool} (h:a=b):(PV.p (.bool a))=.p (.bool b):=by rw [h]
end Go.Vm
namespace Go.Vm
open Go.Am
variable {E:Env} {L:Frame} {H:Heap} {nx:Nat} {Q:PV→Heap→Nat→Prop} {w:Bool}
variable {dst:Option Tmp} {ty:TypeId} {pos:String} {af:Array Edge} {gd:Option (Nat×Bool)}
section
variable {bn:Nat} {ops:Array Oper} {op:Op} {l:List Oper} {i:Nat} {R:Frame→Heap→Nat→Prop}
theorem Aq.quiet (h:Aa E false ⟨dst,op,ty,pos,af,none⟩ L H nx fun r H' nx'=>Aq E bn ops (i+1) l (OV L dst r) H' nx' R):Aq E bn ops i (⟨dst,op,ty,pos,af,none⟩::l) L H nx R:=by
 intro B hB m F σ t h1 h2 h3
 refine I9.cons (IY.wanted (L:=L) h1 h2 rfl) ((h (m.at m.size) F σ t (h1.at _) (RL.at (Γ:=E.Γ) _ h2)).mono ?_)
 rintro v m' ⟨r,H',nx',F',σ',q,c1,c2,c3,c4⟩
 refine ⟨.inr (.inl (c4 rfl m.size (Nat.le_refl _) (Nat.le_refl _))),?_⟩
 exact q B hB _ F' σ' _ (c1.at _) (RL.at (Γ:=E.Γ) _ (((RL.at (Γ:=E.Γ) _ h2).step c3 (h1.at _)).put c2)) (h3.trans c3.at)
theorem Aq.XL {j d:Nat} {want:Bool} (hd:(ops[j]?).bind (·.dst)=some d) (hb:GV L d=some (.p (.bool want))) (h:Aa E false ⟨dst,op,ty,pos,af,some (j,want)⟩ L H nx fun r H' nx'=>Aq E bn ops (i+1) l (OV L dst r) H' nx' R) :
 Aq E bn ops i (⟨dst,op,ty,pos,af,some (j,want)⟩::l) L H nx R:=by
 intro B hB m F σ t h1 h2 h3
 refine I9.cons (IY.wanted (L:=L) (w:=true) h1 h2 ⟨want,d,hd,hb,by cases want<;>rfl⟩) ((h (m.at m.size) F σ t (h1.at _) (RL.at (Γ:=E.Γ) _ h2)).mono ?_)
 rintro v m' ⟨r,H',nx',F',σ',q,c1,c2,c3,c4⟩
 refine ⟨.inr (.inl (c4 rfl m.size (Nat.le_refl _) (Nat.le_refl _))),?_⟩
 exact q B hB _ F' σ' _ (c1.at _) (RL.at (Γ:=E.Γ) _ (((RL.at (Γ:=E.Γ) _ h2).step c3 (h1.at _)).put c2)) (h3.trans c3.at)
theorem Aq.bar (hw:barrier E.P ops i=true) (h:Aa E true ⟨dst,op,ty,pos,af,none⟩ L H nx fun r H' nx'=>Aq E bn ops (i+1) l (OV L dst r) H' nx' R):Aq E bn ops i (⟨dst,op,ty,pos,af,none⟩::l) L H nx R:=Aq.cons rfl hw h
end
theorem AL.le (d:Nat) {v v0:PV} (hd:GV L d=some v) (hle:kV v v0):AL E L H nx ((d,v0)::L) H nx:=fun B m F σ t h1 h2 h3=>by
 refine ⟨F,σ,h1,fun i x hi=>?_,h3⟩
 rw [Gm] at hi
 by_cases e:d=i
 ·rw [if_pos e] at hi;cases hi;subst e;exact RP.le hle (h2 d v hd)
 ·rw [if_neg e] at hi;exact h2 i x hi
theorem Ctx.move {Γ:Nat→Option (List Value×TypeId)} {m m':Mem} {F:Nat→Prop} {σ:Nat→Value} {b0:Nat} {x0 x':HB} {s':Value} (h:Ctx Γ m F σ H nx) (hb:hget H b0=some x0)
 (hsz:m.size≤m'.size) (hget':∀ c,c<m.size→Du (σ b0)≠some c→m'.get c=m.get c) (hlow:∀ k,k≤m.low→k≤m.size→(∀ c,Du (σ b0)=some c→k≤c)→k≤m'.low)
 (hblk:∀ c,Du s'=some c→Du (σ b0)=some c∨m.size≤c) (hr:RB m' F (htag ((nx,x')::hdel H b0)) (upd σ nx s') (nx+1) s' x') :
 Ctx Γ m' F (upd σ nx s') ((nx,x')::hdel H b0) (nx+1)∧Step m F σ H nx m' F (upd σ nx s') ((nx,x')::hdel H b0) (nx+1):=by
 have hown:∀ c,Du (σ b0)=some c→own H σ c:=fun c hc=>⟨b0,x0,hb,hc⟩
 have hfz:∀ c,F c→F c∧m'.get c=m.get c:=fun c hc=>⟨hc,hget' c (h.fr c hc) fun e=>(h.LQ (hown c e)).1 hc⟩
 have hN:Names nx (htag H) σ (htag ((nx,x')::hdel H b0)) (upd σ nx s'):=fun b hbn=>by
  rw [IV,if_neg (by omega),Tf,C9 _ _ (by omega)]
  split
  ·exact ⟨trivial,fun _ _ _=>rfl⟩
  ·exact ⟨UU.refl _,fun _ _ _=>rfl⟩
 have hg0:hget ((nx,x')::hdel H b0) nx=some x':=by rw [Cb,if_pos rfl]
 have hgo:∀ b y,hget ((nx,x')::hdel H b0) b=some y→b≠nx→b≠b0∧hget H b=some y:=fun b y hy e=>by
  rw [Cb,if_neg (Ne.symm e),JE] at hy
  split at hy
  ·cases hy
  ·rename_i hne;exact ⟨Ne.symm hne,hy⟩
 refine ⟨⟨fun c hc=>Nat.lt_of_lt_of_le (h.fr c hc) hsz,?_,?_,?_⟩,⟨hsz,fun c hc ho=>hget' c hc fun e=>ho (hown c e),fun _ h=>h,fun _ _ h=>.inl h,?_,Nat.le_succ _,hN,?_⟩⟩
 ·intro b y hy
  by_cases e:b=nx
  ·subst e
   rw [hg0] at hy;cases hy
   rw [upd_same]
   exact ⟨Nat.lt_succ_self _,hr⟩
  ·obtain ⟨hne,hy⟩:=hgo b y hy e
   obtain ⟨h1,h2⟩:=h.hp b y hy
   rw [C9 _ _ e]
   refine ⟨by omega,h2.mono hfz hN (Nat.le_succ _) hsz fun c hc=>?_⟩
   have:=h.LQ ⟨b,y,hy,hc⟩
   exact ⟨hget' c this.2 fun e'=>hne (h.sep b b0 y x0 c hy hb hc e'),this.1⟩
 ·intro b b' y y' c h1 h2 h3 h4
  by_cases e:b=nx<;>by_cases e':b'=nx
  ·omega
  ·subst e
   obtain ⟨hne,hy⟩:=hgo b' y' h2 e'
   rw [upd_same] at h3
   rw [C9 _ _ e'] at h4
   rcases hblk c h3 with h5|h5
   ·exact absurd (h.sep b0 b' x0 y' c hb hy h5 h4).symm hne
   ·have:=(h.LQ ⟨b',y',hy,h4⟩).2;omega
  ·subst e'
   obtain ⟨hne,hy⟩:=hgo b y h1 e
   rw [upd_same] at h4
   rw [C9 _ _ e] at h3
   rcases hblk c h4 with h5|h5
   ·exact absurd (h.sep b b0 y x0 c hy hb h3 h5) hne
   ·have:=(h.LQ ⟨b,y,hy,h3⟩).2;omega
  ·obtain ⟨_,hy⟩:=hgo b y h1 e
   obtain ⟨_,hy'⟩:=hgo b' y' h2 e'
   rw [C9 _ _ e] at h3
   rw [C9 _ _ e'] at h4
   exact h.sep b b' y y' c hy hy' h3 h4
 ·intro g vs e hg
  obtain ⟨h1,h2,h3⟩:=h.gl g vs e hg
  exact ⟨h1,(hfz g h1).2.trans h2,h3⟩
 ·rintro c hc ⟨b,y,hy,hbc⟩
  by_cases e:b=nx
  ·subst e
   rw [upd_same] at hbc
   rcases hblk c hbc with h5|h5
   ·exact hown c h5
   ·omega
  ·obtain ⟨_,hy⟩:=hgo b y hy e
   rw [C9 _ _ e] at hbc
   exact ⟨b,y,hy,hbc⟩
 ·intro k h1 h2 h3
  exact hlow k h1 h2 fun c hc=>h3 c (hown c hc)
theorem appendMove' {s x:Operand} {sT xT e:TypeId} {xd:TypeDesc} {i:TypeInfo} {b n k:Nat} {cs xs:List FV} {z:Bool} (hs:BG E.Γ L s=some (.vec b n 0 n)) (hb:hget H b=some (.vec e cs n z)) (hx:o8 E.Γ L H nx x i.size xs k)
 (y5:E.P.underlying sT=some (.slice e)) (hxT:E.P.underlying xT=some xd) (hd:∀ k,xd≠.int k) (hi:E.P.info? e=some i) (hzs:FN i=true) (hroom:(n+k)*(i.bytes+1)≤room) (hl:cs.length=n*i.size) (hsz:0<i.size)
 (q:Q (.vec nx (n+k) 0 (n+k)) ((nx,.vec e (cs++xs) (n+k) z)::hdel H b) (nx+1)):Aa E true ⟨dst,.call { callee:=.builtin .append,args:=#[s,x],argTypes:=#[sT,xT] },ty,pos,af,gd⟩ L H nx Q:=by
 intro m F σ t h1 h2
 have hsub:=GX h1 h2 hs hb
 obtain ⟨hx1,l,hx2,hx3,hx4⟩:=hx m F σ t h1 h2
 obtain ⟨hlt,hr⟩:=h1.hp b _ hb
 have hlenS:lenOf (ev t s)=some n:=by
  rcases hr with ⟨r1,r2,r3⟩|⟨c,g,vs,r1,_⟩
  ·rcases r3 with ⟨r3,_⟩|⟨b',o',g',r3,_⟩<;>rw [r3] at hsub<;>simp only [EH,Dn] at hsub<;>rw [hsub.1,r2]<;>rfl
  ·rw [r1] at hsub;simp only [EH] at hsub;rw [hsub];rfl
 have happ:∀ v m',BM m e i.size l k (ev t s)=some (v,m')→Ip E.P #[sT,xT] #[ev t s,ev t x] m=some (v,m'):=by
  intro v m' ha
  simp only [Ip,List.getElem?_toArray,List.getElem?_cons_zero,List.getElem?_cons_succ,y5,hxT,hlenS,hi,hzs,Bool.not_true,Bool.false_eq_true,if_false]
  cases xd<;>first|exact absurd rfl (hd _)|(simp only [hx1,hx2,hx4,Bool.and_true,decide_eq_true_eq];rw [if_pos hroom];exact ha)
 have hfin:∀ v m' s',BM m e i.size l k (ev t s)=some (v,m')→s'=v→(Ctx E.Γ m' F (upd σ nx s') ((nx,.vec e (cs++xs) (n+k) z)::hdel H b) (nx+1)∧Step m F σ H nx m' F (upd σ nx s') ((nx,.vec e (cs++xs) (n+k) z)::hdel H b) (nx+1)) →
  (BU v=true∧EH v 0 (n+k) v)→Ik E.P E.O E.G ⟨dst,.call { callee:=.builtin .append,args:=#[s,x],argTypes:=#[sT,xT] },ty,pos,af,gd⟩ ⟨t,m⟩ fun v m'=>∃ r H' nx' F' σ',Q r H' nx'∧Ctx E.Γ m' F' σ' H' nx'∧RP m' F' (htag H') σ' nx' r v∧Step m F σ H nx m' F' σ' H' nx'∧(true=false→Quiet m m'):=by
  rintro v m' s' ha rfl ⟨c1,c2⟩ ⟨hv1,hv2⟩
  refine Ik.op (v:=s') (m':=m') (fun _=>?_) ⟨_,_,_,F,_,q,c1,?_,c2,fun h=>by cases h⟩
  ·have:=happ _ _ ha
   simp only [CX,FH]
   simpa using this
  ·refine .vec (Nat.lt_succ_self _) hv1 fun j hj=>?_
   rw [IV,if_pos rfl] at hj
   simp only [HB.tag,Option.some.injEq,Tg.vec.injEq] at hj
   refine ⟨by omega,fun _=>?_⟩
   rw [upd_same]
   exact hv2
 rcases hr with ⟨r1,r2,r3⟩|⟨c,g,vs,r1,r2,r3,r4,r5,r6,r7⟩
 ·have hv:Du (σ b)=none∧(ev t s=.slice none 0 0∧z=true∨(∃ b o g,ev t s=.slice (some ⟨b,o,some g⟩) 0 0)∧z=false):=by
   rcases r3 with ⟨r3,hz⟩|⟨b',o',g',r3,hz⟩
   ·rw [r3] at hsub ⊢;exact ⟨rfl,.inl ⟨hsub.1,hz⟩⟩
   ·rw [r3] at hsub ⊢;simp only [EH] at hsub;exact ⟨rfl,.inr ⟨⟨_,_,_,hsub.1⟩,hz⟩⟩
  subst r1;subst r2
  rcases Nat.eq_zero_or_pos k with h0|h0
  ·subst h0
   have hxs:xs=[]:=by
    have hl0:l.length=0:=by rw [FW hx2];omega
    rw [List.eq_nil_of_length_eq_zero hl0] at hx3
    cases hx3;rfl
   subst hxs
   have ha:BM m e i.size l 0 (ev t s)=some (ev t s,m):=by
    rcases hv.2 with ⟨hv,_⟩|⟨⟨_,_,_,hv⟩,_⟩<;>rw [hv]<;>simp [BM]
   refine hfin _ _ _ ha rfl ?_ (by rcases hv.2 with ⟨hv,_⟩|⟨⟨_,_,_,hv⟩,_⟩<;>rw [hv]<;>refine ⟨rfl,?_⟩<;>simp [EH])
   refine h1.move hb (Nat.le_refl _) (fun _ _ _=>rfl) (fun _ h _ _=>h) (fun c hc=>by rcases hv.2 with ⟨hv,_⟩|⟨⟨_,_,_,hv⟩,_⟩<;>rw [hv] at hc<;>simp [Du] at hc) ?_
   refine .inl ⟨rfl,rfl,?_⟩
   rcases hv.2 with ⟨hv,hz⟩|⟨⟨b',o',g',hv⟩,hz⟩
   ·exact .inl ⟨hv,hz⟩
   ·exact .inr ⟨b',o',g',hv,hz⟩
  ·have ha:BM m e i.size l k (ev t s)=some (BL m e l k):=by
    rcases hv.2 with ⟨hv,_⟩|⟨⟨_,_,_,hv⟩,_⟩<;>rw [hv]<;>simp only [BM]<;>rw [if_neg (by omega)]
   refine hfin _ _ _ ha rfl ?_ ⟨rfl,by rw [Nat.zero_add];rfl⟩
   refine h1.move (x0:=.vec e [] 0 z) (x':=.vec e ([]++xs) (0+k) z) hb (by simp [BL,Mem.alloc]) (fun c hc _=>by (try simp only [BL]);rw [Mem.CV,if_neg (by omega)])
    (fun k' k1 k2 _=>by simp only [BL,Mem.alloc];omega) (fun c hc=>by simp only [BL,Du,Option.some.injEq] at hc;right;omega) ?_
   refine .inr ⟨m.size,0,l,by simp [BL],by simp [BL,Mem.alloc],fun hf=>Nat.lt_irrefl _ (h1.fr _ hf),by (try simp only [BL]);rw [Mem.CV,if_pos rfl],?_,hx4,fun h=>by omega⟩
   rw [List.nil_append]
   exact hx3.mono (fun c hf=>⟨hf,by (try simp only [BL]);rw [Mem.CV,if_neg (by have:=h1.fr c hf;omega)]⟩)
 ·rw [r1] at hsub
  simp only [EH] at hsub
  have hlen:=r5.length
  have hold:takeN (n*i.size) (vs.drop 0)=some vs:=by
   rw [List.drop_zero,← hl,hlen];simp [takeN]
  have ha:BM m e i.size l k (ev t s)=some (.slice (some ⟨c,0,none⟩) (n+k) (g+1),m.put c (.cells (vs++l) e (g+1) false)):=by
   rw [hsub]
   simp only [BM,r4,beq_self_eq_true,decide_eq_true hsz,Bool.and_self,if_true,hold]
   simp
  have hput':∀ d,c≠d→(m.put c (.cells (vs++l) e (g+1) false)).get d=m.get d:=fun d hd=>by rw [Mem.get_put,if_neg hd]
  refine hfin _ _ _ ha rfl ?_ ⟨rfl,rfl⟩
  refine h1.move (x':=.vec e (cs++xs) (n+k) z) hb (Nat.le_refl _) (fun d _ hd=>hput' d fun e=>hd (by rw [r1,e];rfl)) (fun k' k1 k2 k3=>by
   have:=k3 c (by rw [r1];rfl)
   simp only [Mem.put];omega) (fun d hd=>.inl (by rw [r1];exact hd)) ?_
  refine .inr ⟨c,g+1,vs++l,rfl,r2,r3,by rw [Mem.get_put,if_pos rfl],?_,by rw [List.all_append,r6,hx4];rfl,fun h=>r7 (by omega)⟩
  exact (r5.append hx3).mono (fun d hd=>⟨hd,hput' d fun e=>r3 (e▸hd)⟩)
theorem WI {n k:Nat} {l ws:List Value} (h:takeN n l=some ws):takeN (min k n) l=some (ws.take k):=by
 obtain ⟨rfl,hn⟩:=FC h
 unfold takeN
 rw [if_pos (by omega),List.take_take]
theorem DT.take {m:Mem} {F:Nat→Prop}:∀ {cs:List FV} {vs:List Value} (k:Nat),DT m F cs vs→DT m F (cs.take k) (vs.take k)
 |_,_,0,_=>by simp only [List.take_zero];exact .nil
 |_,_,_+1,.nil=>.nil
 |_,_,k+1,.cons h t=>.cons h (DT.take k t)
theorem Aa.vw {t:TypeId} {x:Operand} {lo hi:Option Operand} {e:TypeId} {cs:List FV} {n a b sz:Nat} {inf:TypeInfo} (hx:BG E.Γ L x=some (.p (.lst e cs n))) (ht:E.P.underlying t=some (.slice e)) (hi':E.P.info? e=some inf) (hsz:inf.size=sz)
 (hlo:match lo with|none=>a=0|some o=>∃ k,BG E.Γ L o=some (.p (.int k (a:Int)))) (hhi:match hi with|none=>b=n|some o=>∃ k,BG E.Γ L o=some (.p (.int k (b:Int)))) (hab:a≤b) (hbn:b≤n) (hl:cs.length=n*sz)
 (q:Q (.p (.lst e ((cs.drop (a*sz)).take ((b-a)*sz)) (b-a))) H nx):Aa E w ⟨dst,.slice t x lo hi none,ty,pos,af,gd⟩ L H nx Q :=
 Aa.quiet q fun m F σ tt h1 h2=>by
  have uD:bnd 0 (lo.map (ev tt))=some a:=by
   cases lo with
   |none=>simp only at hlo;rw [hlo];rfl
   |some o =>
    obtain ⟨k,hk⟩:=hlo
    simp only [Option.map_some,Dh h1 h2 hk,bnd]
    rw [if_pos (by omega)];simp
  have uy:bnd n (hi.map (ev tt))=some b:=by
   cases hi with
   |none=>simp only at hhi;rw [hhi];rfl
   |some o =>
    obtain ⟨k,hk⟩:=hhi
    simp only [Option.map_some,Dh h1 h2 hk,bnd]
    rw [if_pos (by omega)];simp
  have zM:n=0→bnd 0 (hi.map (ev tt))=some 0:=fun h0=>by rw [h0] at uy;rw [uy];congr 1;omega
  have:=BX h1 h2 hx
  generalize hv:ev tt x=v at this
  cases this with
  |p hr =>
   cases hr with
   |nil =>
    have hb0:b=0:=by omega
    have ha0:a=0:=by omega
    subst hb0;subst ha0
    refine ⟨.slice none 0 0,fun _=>?_,.p (by simpa using RF.nil e)⟩
    simp only [CX,FH,hv,aslice,Option.isSome_none,Option.map_none,Bool.false_and,Bool.false_eq_true,if_false,ht,hi',uD,zM rfl]
    rfl
   |room e' b' o' g' =>
    have hb0:b=0:=by omega
    have ha0:a=0:=by omega
    subst hb0;subst ha0
    refine ⟨_,fun _=>?_,.p (by simpa using RF.room e b' o' g')⟩
    simp only [CX,FH,hv,aslice,Option.isSome_none,Option.map_none,Bool.false_and,Bool.false_eq_true,if_false,ht,hi',uD,zM rfl]
    rfl
   |lst hF hm hw hr hc =>
    rename_i b' o g vs ws ro
    refine ⟨.slice (some ⟨b',o+a*sz,none⟩) (b-a) g,fun _=>?_,.p (.lst hF hm (ws:=(ws.drop (a*sz)).take ((b-a)*sz)) ?_ (DT.take _ (DT.drop _ hr)) (I7 (H7 hc _) _))⟩
    ·simp only [CX,FH,hv,aslice,Option.isSome_none,Option.map_none,Bool.false_and,Bool.false_eq_true,if_false,ht,hi',uD,uy,hm,hab,hbn,h1.fr _ hF,and_self,if_true,Option.map_some,hsz]
    ·have h3:=WI (k:=(b-a)*sz) (PX (k:=a*sz) hw)
     rw [List.drop_drop] at h3
     rw [List.length_take,List.length_drop]
     exact h3
theorem Ku {α:Type} [Enc α]:∀ (l:List α) (k:Nat),(cells l).take (k*Enc.size α)=cells (l.take k)
 |_,0=>by simp [cells,encs]
 |[],k+1=>by simp [cells,encs]
 |a::l,k+1=>by
  have ih:=Ku l k
  simp only [cells,encs,List.take_succ_cons] at ih ⊢
  rw [List.take_append,Enc.len,Nat.succ_mul,← ih,List.take_of_length_le (by rw [Enc.len];omega)]
  congr 2;omega
theorem cells_drop' {α:Type} [Enc α]:∀ (l:List α) (k:Nat),(cells l).drop (k*Enc.size α)=cells (l.drop k)
 |_,0=>by simp [cells,encs]
 |[],k+1=>by simp [cells,encs]
 |a::l,k+1=>by
  have ih:=cells_drop' l k
  simp only [cells,encs,List.drop_succ_cons] at ih ⊢
  rw [List.drop_append,Enc.len,Nat.succ_mul,← ih,List.drop_eq_nil_of_le (by rw [Enc.len];omega),List.nil_append]
  congr 1;omega
theorem Aa.sliceTo {α:Type} {_:Enc α} {l:List α} {t:TypeId} {x o:Operand} {e:TypeId} {n b:Nat} {inf:TypeInfo} {k:IntKind} (hx:BG E.Γ L x=some (.p (.lst e (cells l) n))) (hhi:BG E.Γ L o=some (.p (.int k (b:Int)))) (ht:E.P.underlying t=some (.slice e)) (hi':E.P.info? e=some inf)
 (hsz:inf.size=Enc.size α) (hn:l.length=n) (hbn:b≤n) (q:Q (.p (.lst e (cells (l.take b)) b)) H nx):Aa E w ⟨dst,.slice t x none (some o) none,ty,pos,af,gd⟩ L H nx Q :=
 Aa.vw (a:=0) (b:=b) hx ht hi' hsz rfl ⟨k,hhi⟩ (Nat.zero_le _) hbn (by rw [BK,hn]) (by
  rw [Nat.zero_mul,List.drop_zero,Nat.sub_zero,Ku];exact q)
theorem Aa.sliceFrom {α:Type} {_:Enc α} {l:List α} {t:TypeId} {x o:Operand} {e:TypeId} {n a:Nat} {inf:TypeInfo} {k:IntKind} (hx:BG E.Γ L x=some (.p (.lst e (cells l) n))) (hlo:BG E.Γ L o=some (.p (.int k (a:Int)))) (ht:E.P.underlying t=some (.slice e)) (hi':E.P.info? e=some inf)
 (hsz:inf.size=Enc.size α) (hn:l.length=n) (han:a≤n) (q:Q (.p (.lst e (cells (l.drop a)) (n-a))) H nx):Aa E w ⟨dst,.slice t x (some o) none none,ty,pos,af,gd⟩ L H nx Q :=
 Aa.vw (a:=a) (b:=n) hx ht hi' hsz ⟨k,hlo⟩ rfl han (Nat.le_refl _) (by rw [BK,hn]) (by
  rw [cells_drop',List.take_of_length_le (by rw [BK,List.length_drop,hn];exact Nat.le_refl _)];exact q)
theorem Aa.WM {t t2:TypeId} {x y:Operand} {k k':IntKind} {m n:Nat} (hx:BG E.Γ L x=some (.p (.int k (m:Int)))) (hy:BG E.Γ L y=some (.p (.int k' (n:Int)))) (hn:n≤k.bits) (q:Q (.p (.int k ((m / 2 ^ n:Nat):Int))) H nx) :
 Aa E w ⟨dst,.binOp .shr t x y t2,ty,pos,af,gd⟩ L H nx Q:=by
 refine Aa.shr hx hy (by omega) ?_
 have h1:(min (n:Int).toNat k.bits)=n:=by simp only [Int.toNat_natCast];omega
 have h3:((m:Int).fdiv (2 ^ n))=((m / 2 ^ n:Nat):Int):=by
  rw [Int.fdiv_eq_ediv_of_nonneg _ (by exact Int.le_of_lt (Int.pow_pos (by omega)))]
  rw [Int.natCast_ediv,Int.natCast_pow];rfl
 rw [h1,h3]
 exact q
end Go.Vm
namespace Go.Vm
open Go.Am
variable {E:Env} {L:Frame} {H:Heap} {nx:Nat} {Q:PV→Heap→Nat→Prop} {w:Bool}
variable {dst:Option Tmp} {ty:TypeId} {pos:String} {af:Array Edge} {gd:Option (Nat×Bool)}
theorem XR (m:Nat) (h:m<2 ^ 64):(BitVec.ofInt 64 (m:Int)).toNat=m:=by
 rw [BitVec.toNat_ofInt,Int.emod_eq_of_lt (by omega) (Int.ofNat_lt.2 h)]
 simp
theorem wrap_u64 {n:Int} (h0:0≤n) (h:n<18446744073709551616):IntKind.u64.wrap n=n:=by
 have e:IntKind.u64.wrap n=n % 2^64:=by
  simp [IntKind.wrap,IntKind.signed,IntKind.bits]
  try omega
 rw [e]
 omega
theorem bW {k:IntKind} {m n:Nat} (hk:k=.i64∧m<2 ^ 63∨k=.u64∧m<2 ^ 64) (hn:n<2 ^ 64):FP .and k m n=some (.int k ((m &&& n:Nat):Int)):=by
 have hm:m<2 ^ 64:=by rcases hk with ⟨_,h⟩|⟨_,h⟩<;>omega
 have e:(BitVec.ofInt 64 (m:Int) &&& BitVec.ofInt 64 (n:Int)).toNat=m &&& n:=by rw [BitVec.toNat_and,XR m hm,XR n hn]
 have hle:m &&& n≤m:=Nat.and_le_left
 rcases hk with ⟨rfl,h⟩|⟨rfl,h⟩
 ·show some (FV.int .i64 (IntKind.i64.wrap ((BitVec.ofInt 64 (m:Int) &&& BitVec.ofInt 64 (n:Int)).toNat:Int)))=_
  rw [e,wrap_i64 ⟨by omega,by omega⟩]
 ·show some (FV.int .u64 (IntKind.u64.wrap ((BitVec.ofInt 64 (m:Int) &&& BitVec.ofInt 64 (n:Int)).toNat:Int)))=_
  rw [e,wrap_u64 (by omega) (by omega)]
theorem Aa.rV {t t2:TypeId} {x y:Operand} {m:Nat} (hx:BG E.Γ L x=some (.p (.int .u64 (m:Int)))) (hy:BG E.Γ L y=some (.p (.int .u64 1))) (hm:m<2 ^ 64) (q:Q (.p (.int .u64 ((m % 2:Nat):Int))) H nx) :
 Aa E w ⟨dst,.binOp .and t x y t2,ty,pos,af,gd⟩ L H nx Q:=Aa.int hx hy (r:=.int .u64 ((m % 2:Nat):Int)) (by
  have:=bW (k:=.u64) (m:=m) (n:=1) (.inr ⟨rfl,hm⟩) (by decide)
  rw [Nat.and_one_is_mod] at this
  exact this) q
theorem Aa.OI {t t2:TypeId} {x y:Operand} {k:IntKind} {m n:Nat} (hx:BG E.Γ L x=some (.p (.int k (m:Int)))) (hy:BG E.Γ L y=some (.p (.int k (n:Int)))) (hn:0<n) (q:Q (.p (.int k ((m % n:Nat):Int))) H nx) :
 Aa E w ⟨dst,.binOp .rem t x y t2,ty,pos,af,gd⟩ L H nx Q:=Aa.int hx hy (r:=.int k ((m % n:Nat):Int)) (by
  simp only [FP]
  rw [if_neg (by omega),Int.tmod_eq_emod_of_nonneg (by omega),Int.natCast_emod]) q
theorem Aa.FX {t t2:TypeId} {x y:Operand} {k:IntKind} {a c:Int} (hx:BG E.Γ L x=some (.p (.int k a))) (hy:BG E.Γ L y=some (.p (.int k c))) (ha:0≤a) (hc:0<c) (q:Q (.p (.int k (a % c))) H nx) :
 Aa E w ⟨dst,.binOp .rem t x y t2,ty,pos,af,gd⟩ L H nx Q:=Aa.int hx hy (r:=.int k (a % c)) (by
  simp only [FP]
  rw [if_neg (by omega),Int.tmod_eq_emod_of_nonneg ha]) q
theorem Aa.a4g {t t2:TypeId} {x y:Operand} {a c:Int} (hx:BG E.Γ L x=some (.p (.int .i64 a))) (hy:BG E.Γ L y=some (.p (.int .i64 c))) (ha:0≤a∧a<9223372036854775808) (hc:0<c) (q:Q (.p (.int .i64 (a / c))) H nx) :
 Aa E w ⟨dst,.binOp .quo t x y t2,ty,pos,af,gd⟩ L H nx Q:=Aa.int hx hy (r:=.int .i64 (a / c)) (by
  simp only [FP]
  have h1:0≤a / c:=Int.ediv_nonneg ha.1 (by omega)
  have h2:a / c≤a:=Int.ediv_le_self c ha.1
  rw [if_neg (by omega),Int.tdiv_eq_ediv_of_nonneg ha.1,wrap_i64 ⟨by omega,by omega⟩]) q
theorem Aa.DZ {s d:TypeId} {x:Operand} {k':IntKind} {n:Int} {sd:TypeDesc} (hx:BG E.Γ L x=some (.p (.int k' n))) (hs:E.P.underlying s=some sd) (hns:dJ sd=true) (hd:E.P.underlying d=some (.int .i64)) (hn:-9223372036854775808≤n∧n<9223372036854775808) (q:Q (.p (.int .i64 n)) H nx) :
 Aa E w ⟨dst,.convert s d x,ty,pos,af,gd⟩ L H nx Q:=Aa.U8 hx hs hns hd (by rw [wrap_i64 hn];exact q)
section
variable {bn:Nat} {ops:Array Oper} {op:Op} {l:List Oper} {i:Nat} {R:Frame→Heap→Nat→Prop}
end
theorem QA {Γ:Nat→Option (List Value×TypeId)} {m:Mem} {F:Nat→Prop} {T:Nat→Option Tg} {σ:Nat→Value} {t:Tr Value} {ops:Array Oper} {o:Oper} {j d:Nat} {want:Bool} (hl:RL m F T σ nx L t) (hg:o.guard=some (j,want)) (hd:(ops[j]?).bind (·.dst)=some d) (hb:GV L d=some (.EW [])) :
 Region.wanted o (Eb ops t)=false:=by
 have h:=hl d _ hb
 generalize hv:Ea t d=v at h
 cases h with
 |EW h =>
  cases h
  unfold Region.wanted
  rw [hg]
  simp only [Eb,hd,hv]
  rfl
section
variable {bn:Nat} {ops:Array Oper} {op:Op} {l:List Oper} {i:Nat} {R:Frame→Heap→Nat→Prop}
theorem Af.KF {j d:Nat} {want:Bool} (hd:(ops[j]?).bind (·.dst)=some d) (hb:GV L d=some (.EW [])) (h:Af E bn ops l (OV L dst (.EW [])) H nx R):Af E bn ops (⟨dst,op,ty,pos,af,some (j,want)⟩::l) L H nx R:=by
 intro B hB m F σ t h1 h2 h3
 exact QD.skip (QA (Γ:=E.Γ) h2 rfl hd hb) (h B hB m F σ _ h1 (h2.put (.EW .nil)) h3)
theorem Aq.KF {j d:Nat} {want:Bool} (hd:(ops[j]?).bind (·.dst)=some d) (hb:GV L d=some (.EW [])) (h:Aq E bn ops (i+1) l (OV L dst (.EW [])) H nx R):Aq E bn ops i (⟨dst,op,ty,pos,af,some (j,want)⟩::l) L H nx R:=by
 intro B hB m F σ t h1 h2 h3
 exact I9.skip (QA (Γ:=E.Γ) h2 rfl hd hb) (h B hB _ F σ _ (h1.at _) (RL.at (Γ:=E.Γ) _ (h2.put (.EW .nil))) (h3.trans (Step.at0 _ _ _ _ _ _ (Nat.le_refl _))))
end
theorem Zy {n k b:Nat} (h1:n+k<1000000) (h2:b<1000000):(n+k)*(b+1)≤room:=Nat.le_trans (Nat.mul_le_mul (by omega:n+k≤1000000) (by omega:b+1≤1000000)) (by decide)
theorem Aa.QZ {α:Type} {_:Enc α} {l r:List α} {s x:Operand} {sT xT e e2:TypeId} {xd:TypeDesc} {i:TypeInfo} {b n k:Nat} {z:Bool} (hs:BG E.Γ L s=some (.vec b n 0 n)) (hb:hget H b=some (.vec e (cells l) n z)) (hx:BG E.Γ L x=some (.p (.lst e2 (cells r) k))) (hn:l.length=n) (hk:r.length=k)
 (y5:E.P.underlying sT=some (.slice e)) (hxT:E.P.underlying xT=some xd) (hd:∀ k,xd≠.int k) (hi:E.P.info? e=some i) (hsz:Enc.size α=i.size) (hzs:FN i=true) (h0:0<i.size) (hby:i.bytes<1000000) (hlen:l.length+r.length<1000000)
 (q:Q (.vec nx (l.length+r.length) 0 (l.length+r.length)) ((nx,.vec e (cells (l++r)) (l.length+r.length) z)::hdel H b) (nx+1)):Aa E true ⟨dst,.call { callee:=.builtin .append,args:=#[s,x],argTypes:=#[sT,xT] },ty,pos,af,gd⟩ L H nx Q:=by
 subst hn;subst hk
 refine appendMove' (i:=i) hs hb (o8.lst hx (by rw [BK,hsz])) y5 hxT hd hi hzs (Zy hlen hby) (by rw [BK,hsz]) h0 ?_
 rw [← En]
 exact q
theorem Aa.DC {α:Type} {_:Enc α} {r:List α} {s x:Operand} {sT xT e e2:TypeId} {xd:TypeDesc} {i:TypeInfo} {b k:Nat} {z:Bool} (hs:BG E.Γ L s=some (.vec b 0 0 0)) (hb:hget H b=some (.vec e [] 0 z)) (hx:BG E.Γ L x=some (.p (.lst e2 (cells r) k))) (hk:r.length=k)
 (y5:E.P.underlying sT=some (.slice e)) (hxT:E.P.underlying xT=some xd) (hd:∀ k,xd≠.int k) (hi:E.P.info? e=some i) (hsz:Enc.size α=i.size) (hzs:FN i=true) (h0:0<i.size) (hby:i.bytes<1000000) (hlen:r.length<1000000)
 (q:Q (.vec nx r.length 0 r.length) ((nx,.vec e (cells r) r.length z)::hdel H b) (nx+1)):Aa E true ⟨dst,.call { callee:=.builtin .append,args:=#[s,x],argTypes:=#[sT,xT] },ty,pos,af,gd⟩ L H nx Q:=by
 refine Aa.QZ (l:=([]:List α)) hs hb hx rfl hk y5 hxT hd hi hsz hzs h0 hby (by simpa using hlen) ?_
 simpa using q
theorem Aa.RZ {x:Operand} {t e':TypeId} (hx:BG E.Γ L x=some (.p (.val (.slice none 0 0)))) (ht:E.P.underlying t=some (.slice e')) (q:Q (.p (.int .i64 0)) H nx) :
 Aa E w ⟨dst,.call { callee:=.builtin .len,args:=#[x],argTypes:=#[t] },ty,pos,af,gd⟩ L H nx Q :=
 Aa.quiet q fun m F σ tt c1 c2=>by
  have:=BX c1 c2 hx
  generalize hv:ev tt x=v at this
  refine ⟨.int .i64 0,fun _=>?_,.p (.int _ _)⟩
  cases this with|p h=>cases h;simp [CX,FH,UC,ht,hv]
theorem Af.He (d:Nat) {bn:Nat} {ops:Array Oper} {op:Op} {l:List Oper} {R:Frame→Heap→Nat→Prop} (h:Af E bn ops (⟨some d,op,ty,pos,af,gd⟩::l) L H nx R):Af E bn ops (⟨some d,op,ty,pos,af,gd⟩::l) L H nx R:=h
theorem Aq.He (d:Nat) {bn i:Nat} {ops:Array Oper} {op:Op} {l:List Oper} {R:Frame→Heap→Nat→Prop} (h:Aq E bn ops i (⟨some d,op,ty,pos,af,gd⟩::l) L H nx R):Aq E bn ops i (⟨some d,op,ty,pos,af,gd⟩::l) L H nx R:=h
theorem Ad.at (n:Nat) {bn:Nat} {ops:Array Oper} {b:Bool} {k:Code} {Q:CO→Frame→Heap→Nat→Prop} (h:Ad E bn (.seq (.region n ops b) k) L H nx Q):Ad E bn (.seq (.region n ops b) k) L H nx Q:=h
theorem Ad.atEnd (n:Nat) {bn:Nat} {ops:Array Oper} {b:Bool} {Q:CO→Frame→Heap→Nat→Prop} (h:Ad E bn (.region n ops b) L H nx Q):Ad E bn (.region n ops b) L H nx Q:=h
theorem Au {α:Type} {_:Enc α} {e:TypeId} {l:List α} {n:Nat} (h:n=l.length):(PV.p (.lst e (cells l) n))=lst e l:=by rw [h]
theorem le_dec {a b:Nat} (h:Nat.ble a b=true):a≤b:=by simpa using h
theorem Aj {a b:Nat} (h:Nat.blt a b=true):a<b:=by simpa using h
end Go.Vm
namespace Go.Vm
open Go.Am
variable {E:Env} {L:Frame} {H:Heap} {nx:Nat} {Q:PV→Heap→Nat→Prop} {w:Bool}
variable {dst:Option Tmp} {ty:TypeId} {pos:String} {af:Array Edge} {gd:Option (Nat×Bool)}
def Bq (P:Program) (rs:List ResultVar) (Q:PV→Heap→Nat→Prop) (e:CO) (L:Frame) (H:Heap) (nx:Nat):Prop :=
 match e with
 | .exit _=>False
 | .normal=>∃ r,EO P rs L H=some r∧Q r H nx
 | .ret=>∃ r,EO P rs L H=some r∧Q r H nx
theorem Bq.ret {P:Program} {rs:List ResultVar} {r:PV} (h:EO P rs L H=some r) (q:Q r H nx):Bq P rs Q .ret L H nx:=⟨r,h,q⟩
theorem BF.a2h {f:FuncId} {fn:Func} {c:Code} {args:List PV} (ho:E.O f=none) (hf:E.P.funcs[f]?=some fn) (hb:fn.body=some c) (hok:H6 E.G fn c=true) (hn:args.length≤fn.ntmps)
 (h:Ad E nx c (CQ 0 args) H nx (Bq E.P fn.results.toList Q)):BF E f args H nx Q:=by
 intro m F σ CG h1 h2
 refine Jm.enter ho hf hb hok (by rw [← h2.length];exact hn) ((h ⟨m,F,σ,H,nx⟩ rfl m F σ _ h1 ?_ (Step.refl _ _ _ _ _)).mono ?_)
 ·intro i v hi
  obtain ⟨_,h3⟩:=JB args 0 i v hi
  obtain ⟨u,h4,h5⟩:=h2.get h3
  have:=I8 CG 0 .leaf i
  simp only [Nat.sub_zero] at h4
  have hlt:i<CG.length:=by
   rcases Nat.lt_or_ge i CG.length with h|h
   ·exact h
   ·rw [List.getElem?_eq_none h] at h4;cases h4
  rw [this,if_pos ⟨Nat.zero_le _,by omega⟩,Nat.sub_zero,List.getD_eq_getElem?_getD,h4]
  exact h5
 ·rintro e s ⟨L',H',nx',F',σ',q,c1,c2,c3⟩
  have key:(∃ r,EO E.P fn.results.toList L' H'=some r∧Q r H' nx')→∃ v,EK E.P fn s=some v∧∃ r H' nx' F' σ',Q r H' nx'∧Ctx E.Γ s.m F' σ' H' nx'∧RP s.m F' (htag H') σ' nx' r v∧Step m F σ H nx s.m F' σ' H' nx':=by
   rintro ⟨r0,hr,q⟩
   obtain ⟨v,h3,h4⟩:=LX c1 c2 hr
   exact ⟨v,h3,r0,H',nx',F',σ',q,c1,h4,c3⟩
  cases e with
  |exit i=>exact q.elim
  |normal=>exact key q
  |ret=>exact key q
theorem Aa.inl {fo:Operand} {args:Array Operand} {aT:Array TypeId} {g:FuncId} {fs cs CG:List PV} (hf:BG E.Γ L fo=some (.clo g fs cs)) (ha:evs E.Γ L args.toList=some CG)
 (hc:BF E g (fs++CG++cs) H nx Q):Aa E true ⟨dst,.call { callee:=.value fo,args:=args,argTypes:=aT },ty,pos,af,gd⟩ L H nx Q:=by
 intro m F σ t h1 h2
 have hfv:=BX h1 h2 hf
 generalize hfe:ev t fo=fv at hfv
 cases hfv with
 |clo r1 r2 =>
  rename_i vf vc
  refine Ik.call (f:=g) (CG:=vf++args.toList.map (ev t)++vc) (fun call=>by simp only [CX,hfe]) ((hc m F σ _ h1 ((r1.append (QY h1 h2 ha)).append r2)).mono ?_)
  rintro v m' ⟨r,H',nx',F',σ',q,c1,c2,c3⟩
  exact ⟨r,H',nx',F',σ',q,c1,c2,c3,fun h=>by cases h⟩
theorem Aa.inline {fo:Operand} {args:Array Operand} {aT:Array TypeId} {g:FuncId} {fs cs CG:List PV} {fn:Func} {c:Code} (hg:g=g) (hf:BG E.Γ L fo=some (.clo g fs cs)) (ha:evs E.Γ L args.toList=some CG)
 (ho:E.O g=none) (hfn:E.P.funcs[g]?=some fn) (hb:fn.body=some c) (hok:H6 E.G fn c=true) (hn:(fs++CG++cs).length≤fn.ntmps)
 (h:Ad E nx c (CQ 0 (fs++CG++cs)) H nx (Bq E.P fn.results.toList Q)):Aa E true ⟨dst,.call { callee:=.value fo,args:=args,argTypes:=aT },ty,pos,af,gd⟩ L H nx Q :=
 Aa.inl hf ha (BF.a2h ho hfn hb hok hn h)
end Go.Vm
namespace Go.Vm
open Go.Am
variable {E:Env} {L:Frame} {H:Heap} {nx:Nat} {Q:PV→Heap→Nat→Prop} {w:Bool}
variable {dst:Option Tmp} {ty:TypeId} {pos:String} {af:Array Edge} {gd:Option (Nat×Bool)}
def bs (l:List UInt8):ByteArray:=⟨l.toArray⟩
theorem Ju (l:List UInt8):(bs l).size=l.length:=by simp [bs,ByteArray.size]
theorem Oz (l:List UInt8):(bs l).toList=l:=ByteArray.toList_mk l
theorem ZL (l:List UInt8):(bs l).data.toList=l:=by simp [bs]
theorem a5b (s:ByteArray):s=bs s.data.toList:=by cases s;simp [bs]
abbrev st (l:List UInt8):PV:=.p (.str (bs l))
instance:Enc UInt8:={ default:=0,enc:=fun n=>[.int .u8 (n.toNat:Int)],size:=1,len:=fun _=>rfl }
instance a8h:Enc Nat:={ default:=0,enc:=fun n=>[.int .u64 (n:Int)],size:=1,len:=fun _=>rfl }
theorem Aa.KJ {x:Operand} {t:TypeId} {l:List UInt8} (hx:BG E.Γ L x=some (st l)) (ht:E.P.underlying t=some .string) (q:Q (.p (.int .i64 l.length)) H nx) :
 Aa E w ⟨dst,.call { callee:=.builtin .len,args:=#[x],argTypes:=#[t] },ty,pos,af,gd⟩ L H nx Q :=
 Aa.a7h hx ht (by rw [Ju];exact q)
theorem Aa.a1b {op:BinOp} {t t2:TypeId} {x y:Operand} {a b:List UInt8} {r:FV} (hx:BG E.Γ L x=some (st a)) (hy:BG E.Γ L y=some (st b))
 (h:∀ m F,∃ v,UN E.P (do eqGuard op t x y (.string (bs a)) (.string (bs b));binOp op t (.string (bs a)) (.string (bs b)))=some v∧RF m F r v) (q:Q (.p r) H nx) :
 Aa E w ⟨dst,.binOp op t x y t2,ty,pos,af,gd⟩ L H nx Q :=
 Aa.quiet q fun m F σ tt c1 c2=>by
  obtain ⟨v,h1,h2⟩:=h m F
  refine ⟨v,fun _=>?_,.p h2⟩
  simp only [CX,FH,KP c1 c2 hx,KP c1 c2 hy,OM]
  rw [show (plain (Value.string (bs a))&&plain (Value.string (bs b)))=true from rfl]
  simp only [if_true,h1,Option.map_some]
theorem Aa.eqS {t t2:TypeId} {x y:Operand} {a b:List UInt8} (hx:BG E.Γ L x=some (st a)) (hy:BG E.Γ L y=some (st b)) (q:Q (.p (.bool (decide (a=b)))) H nx) :
 Aa E w ⟨dst,.binOp .eql t x y t2,ty,pos,af,gd⟩ L H nx Q :=
 Aa.a1b hx hy (fun m F=>⟨.bool (decide (a=b)),by
  have:EM E.P (do eqGuard .eql t x y (.string (bs a)) (.string (bs b));binOp .eql t (.string (bs a)) (.string (bs b)))=some (.bool (decide (a=b))):=by
   rw [binOp_string_eql,Oz,Oz]
   simp only [Bf,eqGuard]
   rw [show ((a==b):Bool)=decide (a=b) by by_cases h:a=b<;>simp [h]]
   rfl
  exact Ib this rfl,.bool _⟩) q
theorem Aa.neS {t t2:TypeId} {x y:Operand} {a b:List UInt8} (hx:BG E.Γ L x=some (st a)) (hy:BG E.Γ L y=some (st b)) (q:Q (.p (.bool (!decide (a=b)))) H nx) :
 Aa E w ⟨dst,.binOp .neq t x y t2,ty,pos,af,gd⟩ L H nx Q :=
 Aa.a1b hx hy (fun m F=>⟨.bool (!decide (a=b)),by
  have:EM E.P (do eqGuard .neq t x y (.string (bs a)) (.string (bs b));binOp .neq t (.string (bs a)) (.string (bs b)))=some (.bool (!decide (a=b))):=by
   rw [binOp_string_neq,Oz,Oz]
   simp only [Bf,eqGuard]
   rw [show ((a==b):Bool)=decide (a=b) by by_cases h:a=b<;>simp [h]]
   rfl
  exact Ib this rfl,.bool _⟩) q
theorem Aa.PN {t t2:TypeId} {x y:Operand} {a b:List UInt8} (hx:BG E.Γ L x=some (st a)) (hy:BG E.Γ L y=some (st b)) (hl:a.length+b.length<4611686018427387904) (q:Q (st (a++b)) H nx) :
 Aa E w ⟨dst,.binOp .add t x y t2,ty,pos,af,gd⟩ L H nx Q :=
 Aa.a1b hx hy (fun m F=>⟨.string (bs (a++b)),by
  have:EM E.P (do eqGuard .add t x y (.string (bs a)) (.string (bs b));binOp .add t (.string (bs a)) (.string (bs b)))=some (.string (bs (a++b))):=by
   rw [binOp_string_add]
   simp only [Bf,eqGuard,Op.stringOp,Ju]
   have hc:¬ (((a.length+b.length:Nat):Int)>IntKind.i64.max):=by
    have:IntKind.i64.max=9223372036854775807:=by decide
    omega
   rw [if_neg hc]
   have:bs a++bs b=bs (a++b):=by
    apply ByteArray.ext
    simp [bs,ByteArray.data_append]
   rw [this]
   rfl
  exact Ib this rfl,.str _⟩) q
theorem Aa.yR {t:TypeId} {x ix:Operand} {l:List UInt8} {k:IntKind} {i:Int} (hx:BG E.Γ L x=some (st l)) (hi:BG E.Γ L ix=some (.p (.int k i))) (ht:E.P.underlying t=some .string) (h0:0≤i) (h1:i<l.length)
 (q:Q (.p (.int .u8 ((gi l i.toNat).toNat:Int))) H nx):Aa E w ⟨dst,.index t x ix,ty,pos,af,gd⟩ L H nx Q :=
 Aa.quiet q fun m F σ tt c1 c2=>by
  refine ⟨.int .u8 ((gi l i.toNat).toNat:Int),fun _=>?_,.p (.int _ _)⟩
  have hlt:i.toNat<l.length:=by omega
  have hg:(bs l)[i.toNat]?=some (gi l i.toNat):=by
   have h2:i.toNat<(bs l).size:=by rw [Ju];exact hlt
   rw [getElem?_pos (bs l) i.toNat h2]
   congr 1
   simp only [gi,List.getElem?_eq_getElem hlt,Option.getD_some]
   show (bs l).data[i.toNat]=_
   simp [bs]
  have hd:EM E.P (Instr.index t (.string (bs l)) (.int k i))=some (.int .u8 ((gi l i.toNat).toNat:Int)):=by
   simp only [Instr.index,asIntOf,Bf,Dl,Option.bind_some,BR,ht,h0,if_true,hg]
  simp only [CX,FH,KP c1 c2 hx,Dh c1 c2 hi]
  rw [show plain (Value.int k i)=true from rfl]
  simp only [if_true,hd,Option.map_some]
theorem Aa.Qz {t:TypeId} {x ix:Operand} {l:List UInt8} {k:IntKind} {i:Nat} (hx:BG E.Γ L x=some (st l)) (hi:BG E.Γ L ix=some (.p (.int k (i:Int)))) (ht:E.P.underlying t=some .string) (h1:i<l.length)
 (q:Q (.p (.int .u8 ((gi l i).toNat:Int))) H nx):Aa E w ⟨dst,.index t x ix,ty,pos,af,gd⟩ L H nx Q :=
 Aa.yR hx hi ht (by omega) (by omega) q
theorem Oj {P:Program} {k:IntKind} {i:Int} {y:Nat} {c:BoundsCode} (h0:0≤i) (h1:i≤y):EM P (Instr.sliceBound (.int k i) y c)=some i.toNat:=by
 simp only [Instr.sliceBound,asIntOf,Bf,Dl,Option.bind_some,h0,h1,and_self,if_true]
theorem Aa.ZI {t:TypeId} {x:Operand} {lo hi:Option Operand} {l:List UInt8} {a b:Nat} (hx:BG E.Γ L x=some (st l)) (ht:E.P.underlying t=some .string)
 (hlo:match lo with|none=>a=0|some o=>∃ k,BG E.Γ L o=some (.p (.int k (a:Int)))) (hhi:match hi with|none=>b=l.length|some o=>∃ k,BG E.Γ L o=some (.p (.int k (b:Int))))
 (h1:a≤b) (h2:b≤l.length) (q:Q (st ((l.take b).drop a)) H nx):Aa E w ⟨dst,.slice t x lo hi none,ty,pos,af,gd⟩ L H nx Q :=
 Aa.quiet q fun m F σ tt c1 c2=>by
  refine ⟨.string (bs ((l.take b).drop a)),fun _=>?_,.p (.str _)⟩
  have hex:(bs l).extract a b=bs ((l.take b).drop a):=by
   unfold bs
   rw [ByteArray.extract_mk]
   congr 2
   rw [List.drop_take]
  have hd:UN E.P (Instr.sliceAt t (.string (bs l)) (lo.map (ev tt)) (hi.map (ev tt)) none)=some (.string (bs ((l.take b).drop a))):=by
   refine Ib ?_ rfl
   have key:EM E.P (Instr.sliceBounds false (bs l).size (bs l).size (lo.map (ev tt)) (hi.map (ev tt)) none)=some (a,b,l.length):=by
    cases hi with
    |none =>
     simp only at hhi
     subst hhi
     cases lo with
     |none =>
      simp only at hlo
      subst hlo
      simp only [Instr.sliceBounds,Option.map_none,Bf,Dl,Option.bind_some,Ju]
     |some o =>
      obtain ⟨k,hk⟩:=hlo
      simp only [Instr.sliceBounds,Option.map_none,Option.map_some,Bf,Dl,Option.bind_some,Ju,Dh c1 c2 hk,Option.isSome_none,Bool.false_eq_true,if_false,Int.toNat_natCast,Oj (show (0:Int)≤(a:Int) by omega) (show (a:Int)≤((l.length:Nat):Int) by omega)]
    |some o2 =>
     obtain ⟨k2,hk2⟩:=hhi
     cases lo with
     |none =>
      simp only at hlo
      subst hlo
      simp only [Instr.sliceBounds,Option.map_none,Option.map_some,Bf,Dl,Option.bind_some,Ju,Dh c1 c2 hk2,Bool.false_eq_true,if_false,Int.toNat_natCast,Oj (show (0:Int)≤(b:Int) by omega) (show (b:Int)≤((l.length:Nat):Int) by omega)]
     |some o =>
      obtain ⟨k,hk⟩:=hlo
      simp only [Instr.sliceBounds,Option.map_none,Option.map_some,Bf,Dl,Option.bind_some,Ju,Dh c1 c2 hk,Dh c1 c2 hk2,Option.isSome_none,Bool.false_eq_true,if_false,Int.toNat_natCast,
       Oj (show (0:Int)≤(b:Int) by omega) (show (b:Int)≤((l.length:Nat):Int) by omega),Oj (show (0:Int)≤(a:Int) by omega) (show (a:Int)≤((b:Nat):Int) by omega)]
   simp only [Instr.sliceAt,Instr.slice,Bf,BR,ht,Option.bind_some,Option.isSome_none,Bool.false_eq_true,if_false,key,Dl,hex]
  have hp:((lo.map (ev tt)).all plain&&(hi.map (ev tt)).all plain&&(none:Option Value).isNone)=true:=by
   have e1:(lo.map (ev tt)).all plain=true:=by
    cases lo with
    |none=>rfl
    |some o=>obtain ⟨k,hk⟩:=hlo;simp only [Option.map_some,Option.all_some,Dh c1 c2 hk];rfl
   have e2:(hi.map (ev tt)).all plain=true:=by
    cases hi with
    |none=>rfl
    |some o=>obtain ⟨k,hk⟩:=hhi;simp only [Option.map_some,Option.all_some,Dh c1 c2 hk];rfl
   rw [e1,e2];rfl
  simp only [CX,FH,aslice,KP c1 c2 hx,ht,Option.isSome_none,Bool.false_and,Bool.false_eq_true,if_false,Option.map_none]
  rw [if_pos hp,hd]
  rfl
theorem Aa.dM {t:TypeId} {x o:Operand} {l:List UInt8} {k:IntKind} {b:Nat} (hx:BG E.Γ L x=some (st l)) (ho:BG E.Γ L o=some (.p (.int k (b:Int)))) (ht:E.P.underlying t=some .string) (h2:b≤l.length) (q:Q (st (l.take b)) H nx) :
 Aa E w ⟨dst,.slice t x none (some o) none,ty,pos,af,gd⟩ L H nx Q:=Aa.ZI (a:=0) hx ht rfl ⟨k,ho⟩ (by omega) h2 (by rw [List.drop_zero];exact q)
theorem Aa.kC {t:TypeId} {x o:Operand} {l:List UInt8} {k:IntKind} {a:Nat} (hx:BG E.Γ L x=some (st l)) (ho:BG E.Γ L o=some (.p (.int k (a:Int)))) (ht:E.P.underlying t=some .string) (h2:a≤l.length) (q:Q (st (l.drop a)) H nx) :
 Aa E w ⟨dst,.slice t x (some o) none none,ty,pos,af,gd⟩ L H nx Q:=Aa.ZI (b:=l.length) hx ht ⟨k,ho⟩ rfl h2 (Nat.le_refl _) (by rw [List.take_length];exact q)
theorem TM {m:Mem} {F:Nat→Prop}:∀ (l:List UInt8),DT m F (cells l) (l.map fun c=>Value.int .u8 c.toNat)
 |[]=>.nil
 |c::l=>.cons (.int _ _) (TM l)
theorem Aa.mW {s d e:TypeId} {i:TypeInfo} {x:Operand} {l:List UInt8} (hx:BG E.Γ L x=some (st l)) (hs:E.P.underlying s=some .string) (hd:E.P.underlying d=some (.slice e)) (he:E.P.underlying e=some (.int .u8)) (hi:E.P.info? e=some i) (h1:i.size=1)
 (hl:l.length≤1000000) (q:Q (.vec nx l.length 0 l.length) ((nx,.vec e (cells l) l.length false)::H) (nx+1)):Aa E w ⟨dst,.convert s d x,ty,pos,af,gd⟩ L H nx Q:=by
 intro m F σ t c1 c2
 have hb:Iu (bs l)=l.map fun c=>Value.int .u8 c.toNat:=by unfold Iu;rw [ZL]
 obtain ⟨d1,d2,d3,_⟩:=Ou (e:=e) (cs:=cells l) (vs:=l.map fun (c:UInt8)=>Value.int .u8 (c.toNat:Int)) l.length c1 (TM l) (by simp [BU])
 refine Ik.op (v:=(BL m e (l.map fun (c:UInt8)=>Value.int .u8 (c.toNat:Int)) l.length).1) (m':=(BL m e (l.map fun (c:UInt8)=>Value.int .u8 (c.toNat:Int)) l.length).2) (fun _=>?_) ⟨_,_,_,F,_,q,d1,?_,d2,fun _=>d3⟩
 ·have hsl:(Hy E.P s||Hy E.P d)=true:=by simp only [Hy,hs,hd];rfl
  simp only [CX,FH,hsl,if_true,TI,hs,hd,KP c1 c2 hx,he,hi]
  rw [if_pos ⟨h1,by rw [Ju];omega⟩,hb,Ju]
 ·refine .vec (Nat.lt_succ_self _) rfl fun n hn=>?_
  rw [IV,if_pos rfl] at hn
  simp only [HB.tag,Option.some.injEq,Tg.vec.injEq] at hn
  exact ⟨by omega,fun _=>by rw [upd_same];rfl⟩
theorem NY:∀ (l:List UInt8),RY (l.map fun c=>Value.int .u8 c.toNat)=some l
 |[]=>rfl
 |c::l=>by
  have h:=c.toNat_lt
  simp only [List.map_cons,RY]
  rw [if_pos ⟨by omega,by omega⟩,NY l]
  simp
theorem NP {m:Mem} {F:Nat→Prop}:∀ {l:List UInt8} {vs:List Value},DT m F (cells l) vs→vs=l.map fun c=>Value.int .u8 c.toNat
 |[],_,.nil=>rfl
 |c::l,_,.cons h t=>by
  cases h
  rw [NP t];rfl
end Go.Vm
namespace Go.Vm
open Go.Am
variable {E:Env} {L:Frame} {H:Heap} {nx:Nat} {Q:PV→Heap→Nat→Prop} {w:Bool}
variable {dst:Option Tmp} {ty:TypeId} {pos:String} {af:Array Edge} {gd:Option (Nat×Bool)}
theorem KL {α:Type}:∀ (z p c:List α) (o:Nat),BJ (p++c) (p.length+o) z=p++BJ c o z
 |[],_,_,_=>rfl
 |x::z,p,c,o=>by
  simp only [BJ]
  rw [List.set_append_right _ _ (by omega),Nat.add_sub_cancel_left,Nat.add_assoc,KL z p (c.set o x) (o+1)]
theorem Qk {α:Type}:∀ (z xs ys:List α),z.length=xs.length→BJ (xs++ys) 0 z=z++ys
 |[],xs,ys,h=>by rw [List.eq_nil_of_length_eq_zero h.symm];rfl
 |x::z,[],ys,h=>by simp at h
 |x::z,y::xs,ys,h=>by
  simp only [BJ,List.cons_append,List.set_cons_zero]
  have:=KL z [x] (xs++ys) 0
  simp only [List.length_singleton,List.singleton_append] at this
  rw [this,Qk z xs ys (by simpa using h)]
theorem Xl {α:Type} [Enc α] (l:List α) (i:Nat) (a:α) (h:i<l.length):BJ (cells l) (i*Enc.size α) (Enc.enc a)=cells (l.set i a):=by
 have h1:l=l.take i++(gi l i::l.drop (i+1)):=by
  have hd:l.drop i=gi l i::l.drop (i+1):=by
   rw [List.drop_eq_getElem_cons h];simp [gi,List.getElem?_eq_getElem h]
  conv=>lhs;rw [← List.take_append_drop i l]
  rw [hd]
 have h2:l.set i a=l.take i++(a::l.drop (i+1)):=by
  conv=>lhs;rw [h1]
  rw [List.set_append_right _ _ (by simp;omega)]
  rw [List.length_take,Nat.min_eq_left (by omega),Nat.sub_self,List.set_cons_zero]
 rw [h2,En]
 conv=>lhs;rw [h1,En]
 have h3:i*Enc.size α=(cells (l.take i)).length+0:=by rw [BK,List.length_take,Nat.min_eq_left (by omega),Nat.add_zero]
 rw [h3,KL]
 congr 1
 show BJ (Enc.enc (gi l i)++cells (l.drop (i+1))) 0 (Enc.enc a)=Enc.enc a++cells (l.drop (i+1))
 exact Qk _ _ _ (by rw [Enc.len,Enc.len])
theorem Aa.kJ {α:Type} {_:Enc α} {t:TypeId} {x ix:Operand} {e:TypeId} {l:List α} {b n:Nat} {z:Bool} {k:IntKind} {i:Int} (hx:BG E.Γ L x=some (.vec b n 0 n)) (hb:hget H b=some (.vec e (cells l) n z)) (hi:BG E.Γ L ix=some (.p (.int k i)))
 (hs:elemSize E.P t=some (Enc.size α)) (h0:0≤i) (h1:i<n) (q:Q (.Ec b n (i.toNat*Enc.size α)) H nx):Aa E w ⟨dst,.indexAddr t x ix,ty,pos,af,gd⟩ L H nx Q :=
 Aa.a2a hx hb hi hs h0 h1 (by rw [Nat.zero_add];exact q)
theorem Aa.BD {α:Type} {_:Enc α} {t:TypeId} {x ix:Operand} {e:TypeId} {l:List α} {b n:Nat} {z:Bool} {k:IntKind} {i:Nat} (hx:BG E.Γ L x=some (.vec b n 0 n)) (hb:hget H b=some (.vec e (cells l) n z)) (hi:BG E.Γ L ix=some (.p (.int k (i:Int))))
 (hs:elemSize E.P t=some (Enc.size α)) (h1:i<n) (q:Q (.Ec b n (i*Enc.size α)) H nx):Aa E w ⟨dst,.indexAddr t x ix,ty,pos,af,gd⟩ L H nx Q :=
 Aa.kJ hx hb hi hs (by omega) (by omega) q
theorem Aa.BH {α:Type} {_:Enc α} {t:TypeId} {a:Operand} {b n i:Nat} {e:TypeId} {l:List α} {z:Bool} {r:FV} (ha:BG E.Γ L a=some (.Ec b n (i*Enc.size α))) (hb:hget H b=some (.vec e (cells l) n z)) (hi:i<l.length)
 (h:TQ E.P t (Enc.enc (gi l i)++cells (l.drop (i+1)))=some r) (q:Q (.p r) H nx):Aa E w ⟨dst,.load t a,ty,pos,af,gd⟩ L H nx Q :=
 Aa.a3s ha hb (by rw [Me l i hi];exact h) q
theorem Aa.CU {α:Type} {_:Enc α} {t:TypeId} {a x:Operand} {b n i:Nat} {e:TypeId} {l:List α} {z:Bool} {r:PV} {inf:TypeInfo} (y:α) (ha:BG E.Γ L a=some (.Ec b n (i*Enc.size α))) (hx:BG E.Γ L x=some r) (hb:hget H b=some (.vec e (cells l) n z)) (hn:MK r)
 (hf:FQ r=(Enc.enc y).map .p) (a2o:E.P.info? t=some inf) (hl:Enc.size α=inf.size) (h0:0<inf.size) (hi:i<l.length) (q:Q (.EW []) (hput H b (.vec e (cells (l.set i y)) n z)) nx):Aa E true ⟨dst,.store t a x,ty,pos,af,gd⟩ L H nx Q :=
 Aa.a0z ha hx hb hn hf a2o (by rw [Enc.len,hl]) h0 (by
  rw [BK,← hl]
  have:=Nat.mul_le_mul_right (Enc.size α) hi
  rw [Nat.succ_mul] at this
  exact this) (by rw [Xl l i y hi];exact q)
theorem ZR {α:Type} [Enc α] {z:List Value} {a:α} (h:z.map F9=Enc.enc a) (n:Nat):(Bg z n).map F9=cells (List.replicate n a):=by
 induction n with
 |zero=>rfl
 |succ n ih=>simp only [Bg,List.map_append,h,ih,List.replicate_succ,cells,encs]
theorem Aa.ED {α:Type} {_:Enc α} {t e:TypeId} {l c:Operand} (n:Nat) (a:α) {v v':Int} {z:List Value} {i:TypeInfo} (hu:E.P.underlying t=some (.slice e)) (hi:E.P.info? e=some i) (hz:Cm E.P e=some z) (hl:BG E.Γ L l=some (.p (.int .i64 v))) (hc:BG E.Γ L c=some (.p (.int .i64 v')))
 (hv:v=n) (hv':v'=n) (hb:n<1000000) (hb2:i.bytes<1000000) (hs:z.length=i.size∧0<i.size) (ha:z.map F9=Enc.enc a) (q:Q (.vec nx n 0 n) ((nx,.vec e (cells (List.replicate n a)) n false)::H) (nx+1)):Aa E w ⟨dst,.makeSlice t l c,ty,pos,af,gd⟩ L H nx Q :=
 Aa.makeSlice (n:=n) hu hi hz (by rw [hl,hv]) (by rw [hc,hv']) ⟨by have:=Zy (n:=n) (k:=0) (b:=i.bytes) (by omega) hb2;simpa using this,by omega⟩ hs (by rw [ZR ha];exact q)
theorem Aa.a8d {t t2:TypeId} {x y:Operand} {a b:Int} (hx:BG E.Γ L x=some (.p (.int .u64 a))) (hy:BG E.Γ L y=some (.p (.int .u64 b))) (h:0≤a+b∧a+b<18446744073709551616) (q:Q (.p (.int .u64 (a+b))) H nx) :
 Aa E w ⟨dst,.binOp .add t x y t2,ty,pos,af,gd⟩ L H nx Q:=Aa.int hx hy (r:=.int .u64 (a+b)) (by simp only [FP,wrap_u64 h.1 h.2]) q
theorem Aa.a6x {t t2:TypeId} {x y:Operand} {a b:Int} (hx:BG E.Γ L x=some (.p (.int .u64 a))) (hy:BG E.Γ L y=some (.p (.int .u64 b))) (h:0≤a*b∧a*b<18446744073709551616) (q:Q (.p (.int .u64 (a*b))) H nx) :
 Aa E w ⟨dst,.binOp .mul t x y t2,ty,pos,af,gd⟩ L H nx Q:=Aa.int hx hy (r:=.int .u64 (a*b)) (by simp only [FP,wrap_u64 h.1 h.2]) q
theorem Aa.a7z {t t2:TypeId} {x y:Operand} {a c:Int} (hx:BG E.Γ L x=some (.p (.int .u64 a))) (hy:BG E.Γ L y=some (.p (.int .u64 c))) (ha:0≤a∧a<18446744073709551616) (hc:0<c) (q:Q (.p (.int .u64 (a / c))) H nx) :
 Aa E w ⟨dst,.binOp .quo t x y t2,ty,pos,af,gd⟩ L H nx Q:=by
 refine Aa.int hx hy (r:=.int .u64 (a / c)) ?_ q
 simp only [FP]
 rw [if_neg (by omega),Int.tdiv_eq_ediv_of_nonneg ha.1]
 have h1:0≤a / c:=Int.ediv_nonneg ha.1 (by omega)
 have h2:a / c≤a:=Int.ediv_le_self c ha.1
 rw [wrap_u64 h1 (by omega)]
theorem wrap_u8 {n:Int} (h0:0≤n) (h:n<256):IntKind.u8.wrap n=n:=by
 simp only [IntKind.wrap,IntKind.bits,IntKind.signed,Bool.false_and,Bool.false_eq_true,if_false]
 omega
theorem Aa.a8i {t t2:TypeId} {x y:Operand} {a b:Int} (hx:BG E.Γ L x=some (.p (.int .u8 a))) (hy:BG E.Γ L y=some (.p (.int .u8 b))) (h:0≤a-b∧a-b<256) (q:Q (.p (.int .u8 (a-b))) H nx) :
 Aa E w ⟨dst,.binOp .sub t x y t2,ty,pos,af,gd⟩ L H nx Q:=Aa.int hx hy (r:=.int .u8 (a-b)) (by simp only [FP,wrap_u8 h.1 h.2]) q
theorem Aa.a6z {t t2:TypeId} {x y:Operand} {a b:Int} (hx:BG E.Γ L x=some (.p (.int .u8 a))) (hy:BG E.Γ L y=some (.p (.int .u8 b))) (h:0≤a+b∧a+b<256) (q:Q (.p (.int .u8 (a+b))) H nx) :
 Aa E w ⟨dst,.binOp .add t x y t2,ty,pos,af,gd⟩ L H nx Q:=Aa.int hx hy (r:=.int .u8 (a+b)) (by simp only [FP,wrap_u8 h.1 h.2]) q
theorem Aa.XO {s d:TypeId} {x:Operand} {k':IntKind} {n:Int} {sd:TypeDesc} (hx:BG E.Γ L x=some (.p (.int k' n))) (hs:E.P.underlying s=some sd) (hns:dJ sd=true) (hd:E.P.underlying d=some (.int .u64)) (hn:0≤n∧n<18446744073709551616) (q:Q (.p (.int .u64 n)) H nx) :
 Aa E w ⟨dst,.convert s d x,ty,pos,af,gd⟩ L H nx Q:=Aa.U8 hx hs hns hd (by rw [wrap_u64 hn.1 hn.2];exact q)
theorem Aa.Jt {s d:TypeId} {x:Operand} {k':IntKind} {n:Int} {sd:TypeDesc} (hx:BG E.Γ L x=some (.p (.int k' n))) (hs:E.P.underlying s=some sd) (hns:dJ sd=true) (hd:E.P.underlying d=some (.int .u8)) (hn:0≤n∧n<256) (q:Q (.p (.int .u8 n)) H nx) :
 Aa E w ⟨dst,.convert s d x,ty,pos,af,gd⟩ L H nx Q:=Aa.U8 hx hs hns hd (by rw [wrap_u8 hn.1 hn.2];exact q)
theorem Aa.neg {t:TypeId} {x:Operand} {a:Int} (hx:BG E.Γ L x=some (.p (.int .i64 a))) (h:-9223372036854775808≤-a∧-a<9223372036854775808) (q:Q (.p (.int .i64 (-a))) H nx):Aa E w ⟨dst,.unOp .neg t x,ty,pos,af,gd⟩ L H nx Q :=
 Aa.quiet q fun m F σ tt c1 c2=>by
  refine ⟨.int .i64 (-a),fun _=>?_,.p (.int _ _)⟩
  have hd:EM E.P (Op.unary .neg (.int .i64 a))=some (.int .i64 (-a)):=by
   simp only [Op.unary,Op.intArith,Int.zero_sub,wrap_i64 h]
   rfl
  simp only [CX,FH,Dh c1 c2 hx]
  rw [show plain (Value.int IntKind.i64 a)=true from rfl]
  simp only [if_true,Ib hd rfl,Option.map_some]
theorem Aa.a7l {op:BinOp} {t t2:TypeId} {x y:Operand} {a b r:Bool} (hx:BG E.Γ L x=some (.p (.bool a))) (hy:BG E.Γ L y=some (.p (.bool b))) (ht:E.P.underlying t=some .bool) (hr:op=.eql∧r=(a==b)∨op=.neq∧r=(a != b)) (q:Q (.p (.bool r)) H nx) :
 Aa E w ⟨dst,.binOp op t x y t2,ty,pos,af,gd⟩ L H nx Q :=
 Aa.quiet q fun m F σ tt c1 c2=>by
  refine ⟨.bool r,fun _=>?_,.p (.bool _)⟩
  have hd:EM E.P (do eqGuard op t x y (.bool a) (.bool b);binOp op t (.bool a) (.bool b))=some (.bool r):=by
   have h2:∀ d,EM E.P (Op.equalIn (d+1) t (.bool a) (.bool b))=some (a==b):=fun d=>by
    simp only [Op.equalIn,Bf,BR,ht,Option.bind_some];rfl
   have h3:EM E.P (Op.equal t (.bool a) (.bool b))=some (a==b):=h2 (Op.maxDepth-1)
   rcases hr with ⟨rfl,rfl⟩|⟨rfl,rfl⟩
   ·show EM E.P (do eqGuard .eql t x y (.bool a) (.bool b);(do pure (.bool (← Op.equal t (.bool a) (.bool b))):Sem Value))=_
    simp only [eqGuard,Bf,h3,Option.bind_some,Dl]
    rfl
   ·show EM E.P (do eqGuard .neq t x y (.bool a) (.bool b);(do pure (.bool (!(← Op.equal t (.bool a) (.bool b)))):Sem Value))=_
    simp only [eqGuard,Bf,h3,Option.bind_some,Dl]
    rfl
  simp only [CX,FH,Io c1 c2 hx,Io c1 c2 hy,OM]
  rw [show (plain (Value.bool a)&&plain (Value.bool b))=true from rfl]
  simp only [if_true,Ib hd rfl,Option.map_some]
theorem Aa.neB {t t2:TypeId} {x y:Operand} {a b:Bool} (hx:BG E.Γ L x=some (.p (.bool a))) (hy:BG E.Γ L y=some (.p (.bool b))) (ht:E.P.underlying t=some .bool) (q:Q (.p (.bool (a != b))) H nx) :
 Aa E w ⟨dst,.binOp .neq t x y t2,ty,pos,af,gd⟩ L H nx Q:=Aa.a7l hx hy ht (.inr ⟨rfl,rfl⟩) q
theorem Aa.qA {x y:Operand} {aT:Array TypeId} {a b:Int} (hx:BG E.Γ L x=some (.p (.int .i64 a))) (hy:BG E.Γ L y=some (.p (.int .i64 b))) (q:Q (.p (.int .i64 (max a b))) H nx) :
 Aa E w ⟨dst,.call { callee:=.builtin .max,args:=#[x,y],argTypes:=aT },ty,pos,af,gd⟩ L H nx Q :=
 Aa.quiet q fun m F σ tt c1 c2=>by
  refine ⟨.int .i64 (max a b),fun _=>?_,.p (.int _ _)⟩
  have he:(#[x,y]:Array Operand).map (ev tt)=#[.int .i64 a,.int .i64 b]:=by simp [Dh c1 c2 hx,Dh c1 c2 hy]
  have hp:((#[x,y]:Array Operand).map (ev tt)).toList.all plain=true:=by rw [he];rfl
  have hd:EM E.P (Builtin.max_ aT ty #[.int .i64 a,.int .i64 b])=some (.int .i64 (max a b)):=by
   simp only [Builtin.max_,List.foldlM_cons,List.foldlM_nil,Builtin.max2,Bf,Dl,Option.bind_some]
   congr 2
   split<;>omega
  simp only [CX,FH,hp,if_true]
  rw [he,Ib hd rfl]
  rfl
theorem Aa.a8m {x y:Operand} {aT:Array TypeId} {a b:Int} (hx:BG E.Γ L x=some (.p (.int .i64 a))) (hy:BG E.Γ L y=some (.p (.int .i64 b))) (q:Q (.p (.int .i64 (min a b))) H nx) :
 Aa E w ⟨dst,.call { callee:=.builtin .min,args:=#[x,y],argTypes:=aT },ty,pos,af,gd⟩ L H nx Q :=
 Aa.quiet q fun m F σ tt c1 c2=>by
  refine ⟨.int .i64 (min a b),fun _=>?_,.p (.int _ _)⟩
  have he:(#[x,y]:Array Operand).map (ev tt)=#[.int .i64 a,.int .i64 b]:=by simp [Dh c1 c2 hx,Dh c1 c2 hy]
  have hp:((#[x,y]:Array Operand).map (ev tt)).toList.all plain=true:=by rw [he];rfl
  have hd:EM E.P (Builtin.min_ aT ty #[.int .i64 a,.int .i64 b])=some (.int .i64 (min a b)):=by
   simp only [Builtin.min_,List.foldlM_cons,List.foldlM_nil,Builtin.min2,Bf,Dl,Option.bind_some]
   congr 2
   split<;>omega
  simp only [CX,FH,hp,if_true]
  rw [he,Ib hd rfl]
  rfl
end Go.Vm
namespace Go.Vm
open Go.Am
section
variable {P:Program} {G:List Nat}
theorem Em.below {ι:Cc} {m:Mem} {w w':World} (hs:Em P G ι m w) (hb:Go.RowKit.Below w.heap.size w w'):Em P G ι m w':=by
 refine ⟨fun b ib h=>?_,fun b ib h=>?_,hs.inj,hs.glob⟩
 ·have:=hs.dom b ib h
  have:=hb.size
  omega
 ·rw [hb.block _ (hs.dom b ib h).2];exact hs.blk b ib h
theorem Post.below {ι:Cc} {m:Mem} {w w':World} {v:Value} (hs:Em P G ι m w) (hb:Go.RowKit.Below w.heap.size w w') (hp:plain v=true):Post P G ι m w v m v w':=by
 refine ⟨ι,⟨Nat.le_refl _,Nat.le_refl _,fun _ _ _=>rfl,fun _ _ _=>rfl,fun _ _=>rfl,Le.refl _ _,fun b ib h=>.inl ⟨ib,h,rfl⟩,fun b ib h=>.inl ⟨ib,h⟩,hb.size,fun c hc _=>hb.block c hc,hb.tape,hb.os,hb.output⟩,Em.below hs hb,Bh.plain hp⟩
abbrev Vk:=List Value→Mem→Option Value
open Classical in
noncomputable def YW (G:List Nat) (M0:Mem) (ls:List (FuncId×Vk)):CJ:=fun f =>
 match ls.lookup f with
 |some F=>some fun CG m=>if ∀ k∈G,m.get k=M0.get k then (F CG m).map fun v=>(v,m) else none
 |none=>none
structure Qr (P:Program) (G:List Nat) (M0:Mem) (f:FuncId) (F:Vk):Prop where
 a5n:∀ n lb m,F (Ef n lb) m=none
 enters:Enters P f
 calls:∀ ι m w (CG:List Value) (as':Array Value) v,Em P G ι m w→(∀ k∈G,m.get k=M0.get k)→BO ι m.gen CG as'.toList→F CG m=some v→plain v=true∧Calls P f as' w fun e w'=>e=.returned v∧Go.RowKit.Below w.heap.size w w'
theorem VO {α:Type} {f:FuncId} {a:α}:∀ {ls:List (FuncId×α)},ls.lookup f=some a→(f,a)∈ls
 |[],h=>by simp at h
 |(g,b)::ls,h=>by
  rw [List.lookup_cons] at h
  cases hg:f==g with
  |true =>
   rw [hg] at h
   cases h
   rw [eq_of_beq hg];simp
  |false=>rw [hg] at h;exact List.mem_cons_of_mem _ (VO h)
theorem jG {M0:Mem} {ls:List (FuncId×Vk)} (h:∀ x∈ls,Qr P G M0 x.1 x.2):Hg P G (YW G M0 ls):=by
 intro f Fo hf
 unfold YW at hf
 split at hf
 ·rename_i F hl
  cases hf
  have hs:=h _ (VO hl)
  refine ⟨fun CG m v m' hv ι w as' Eo hrel=>?_,fun CG m v m' hv=>?_,hs.enters,Yx.none fun n lb m=>by
   have h0:F (Ef n lb) m=none:=hs.a5n n lb m
   simp only [h0];split<;>rfl⟩
  ·simp only at hv
   split at hv
   ·rename_i hg
    rw [Option.map_eq_some_iff] at hv
    obtain ⟨u,h1,h2⟩:=hv
    cases h2
    obtain ⟨h3,h4⟩:=hs.calls ι m w CG as' v Eo hg hrel h1
    exact h4.mono fun e w' ⟨he,hb⟩=>⟨v,he,Post.below Eo hb h3⟩
   ·cases hv
  ·simp only at hv
   split at hv
   ·rw [Option.map_eq_some_iff] at hv
    obtain ⟨u,h1,h2⟩:=hv
    cases h2
    exact BA.refl _
   ·cases hv
 ·cases hf
end
section
variable {P:Program}
noncomputable def a6j (P:Program) (F:Nat) (laid:List (String×DataW Unit)) (ls:List (FuncId×Vk)):Env :=
 ⟨P,YW (BP P F laid) (CY P F laid) ls,BP P F laid,gam P F laid⟩
theorem oW {G:List Nat} {M0:Mem} {ls:List (FuncId×Vk)} {f:FuncId} (h:ls.lookup f=none):YW G M0 ls f=none:=by
 unfold YW;rw [h]
variable {H:Type} {enc:TypeId×Value→H} {W:World} {held:Bool}
end
theorem RF.cellsOf {m:Mem} {F:Nat→Prop} {e:TypeId} {cs:List FV} {n sz:Nat} {v:Value} (h:RF m F (.lst e cs n) v) (hl:cs.length=n*sz):∃ vs,Cj m sz n v=some vs∧DT m F cs vs∧lenOf v=some n:=by
 cases h with
 |nil e=>exact ⟨[],rfl,.nil,rfl⟩
 |room e b o g=>exact ⟨[],rfl,.nil,rfl⟩
 |lst hF hm hw hr hc =>
  rename_i b o g vs ws ro
  refine ⟨ws,?_,hr,rfl⟩
  have:m.D8 ⟨b,o,some g⟩ (n*sz)=some ws:=by
   unfold Mem.D8
   simp only [hm,Jk,Option.getD_some,if_true,← hl,hw]
  cases n with
  |zero=>simp only [Cj,Nat.le_refl,if_true,this]
  |succ n=>simp only [Cj,Nat.le_refl,if_true,this]
theorem Ti {P:Program} {G:List Nat} {ι:Cc} {m:Mem} {w:World} {n:Nat} {s s':Value} {l:List Value} (hs:Em P G ι m w) (hv:Bh ι m.gen s s') (hn:lenOf s=some n) (hns:∀ b,s≠.string b) (h:Cj m 1 n s=some l) :
 ∃ a cap,s'=.slice a n cap∧l.length=n∧(a=none∧n=0∨∃ A,a=some A∧A.spot=none∨n=0)∧∀ A,a=some A→∀ j v,l[j]?=some v→plain v=true→w.cell? (A.add j)=some v:=by
 have hlen:=FW h
 cases hv with
 |yM=>cases hn;exact ⟨none,0,rfl,by omega,.inl ⟨rfl,rfl⟩,fun A hA=>by cases hA⟩
 |iI b o s a' =>
  cases hn
  refine ⟨some a',0,rfl,by omega,.inr ⟨a',.inr rfl⟩,fun A hA j v hj=>?_⟩
  have:l=[]:=List.eq_nil_of_length_eq_zero (by omega)
  rw [this] at hj;simp at hj
 |sl b off len gen a' cap hr =>
  cases hn
  refine ⟨some a',cap,rfl,by omega,?_,fun A hA j v hj hp=>?_⟩
  ·rcases Nat.eq_zero_or_pos n with h0|h0
   ·exact .inr ⟨a',.inr h0⟩
   ·refine .inr ⟨a',.inl ⟨rfl,?_⟩⟩
    have hl':m.D8 ⟨b,off,some gen⟩ n=some l:=by unfold Cj at h;simpa using h
    obtain ⟨vs,e,g,ro,hg,hag,hgen,_,_⟩:=Iy hl'
    obtain ⟨ib,_,_,_,hcur⟩:=hr
    have hag':gen=g:=hag
    exact (hcur (by rw [hag'];exact hgen.symm)).2.1
  ·cases hA
   have hj2:=(List.getElem?_eq_some_iff.1 hj).1
   have hpos:0<n:=by omega
   have ha:=Hq hr (fun _=>hpos) 0
   rw [Addr.add_zero'] at ha
   have hl':m.D8 ⟨b,off,some gen⟩ n=some l:=by unfold Cj at h;simpa using h
   obtain ⟨l',h1,h2,h3⟩:=Jg hs (by simpa using ha) hl'
   obtain ⟨v',h4,h5⟩:=h1.get hj
   have e2:v'=v:=h5.CB hp
   rw [e2] at h4
   exact h3 j _ h4
 |str b=>exact absurd rfl (hns b)
 |_=>cases hn
end Go.Vm
namespace Go.Vm
open Go.Am
variable {E:Env} {L:Frame} {H:Heap} {nx:Nat} {Q:PV→Heap→Nat→Prop} {w:Bool}
variable {dst:Option Tmp} {ty:TypeId} {pos:String} {af:Array Edge} {gd:Option (Nat×Bool)}
theorem Aa.wU {t t2:TypeId} {x y:Operand} {a b:Nat} (hx:BG E.Γ L x=some (.p (.int .u64 (a:Int)))) (hy:BG E.Γ L y=some (.p (.int .u64 (b:Int)))) (h:a+b<18446744073709551616) (q:Q (.p (.int .u64 ((a+b:Nat):Int))) H nx) :
 Aa E w ⟨dst,.binOp .add t x y t2,ty,pos,af,gd⟩ L H nx Q:=Aa.a8d hx hy (by omega) (by rw [← Int.natCast_add];exact q)
theorem Aa.a0b {t t2:TypeId} {x y:Operand} {a b:Nat} (hx:BG E.Γ L x=some (.p (.int .u64 (a:Int)))) (hy:BG E.Γ L y=some (.p (.int .u64 (b:Int)))) (h:a*b<18446744073709551616) (q:Q (.p (.int .u64 ((a*b:Nat):Int))) H nx) :
 Aa E w ⟨dst,.binOp .mul t x y t2,ty,pos,af,gd⟩ L H nx Q:=Aa.a6x hx hy (by rw [← Int.natCast_mul];omega) (by rw [← Int.natCast_mul];exact q)
theorem Aa.a5v {t t2:TypeId} {x y:Operand} {a c:Nat} (hx:BG E.Γ L x=some (.p (.int .u64 (a:Int)))) (hy:BG E.Γ L y=some (.p (.int .u64 (c:Int)))) (h:a<18446744073709551616∧0<c) (q:Q (.p (.int .u64 ((a / c:Nat):Int))) H nx) :
 Aa E w ⟨dst,.binOp .quo t x y t2,ty,pos,af,gd⟩ L H nx Q:=Aa.a7z hx hy (by omega) (by omega) (by rw [← Int.natCast_ediv];exact q)
theorem Aa.a0f {t t2:TypeId} {x y:Operand} {a c:Nat} (hx:BG E.Γ L x=some (.p (.int .u64 (a:Int)))) (hy:BG E.Γ L y=some (.p (.int .u64 (c:Int)))) (h:0<c) (q:Q (.p (.int .u64 ((a % c:Nat):Int))) H nx) :
 Aa E w ⟨dst,.binOp .rem t x y t2,ty,pos,af,gd⟩ L H nx Q:=Aa.OI hx hy h q
theorem Aa.a5g {t t2:TypeId} {x y:Operand} {a:Nat} {c:Int} (hx:BG E.Γ L x=some (.p (.int .u64 (a:Int)))) (hy:BG E.Γ L y=some (.p (.int .u64 c))) (h:a<18446744073709551616∧0<c) (q:Q (.p (.int .u64 ((a / c.toNat:Nat):Int))) H nx) :
 Aa E w ⟨dst,.binOp .quo t x y t2,ty,pos,af,gd⟩ L H nx Q:=Aa.a5v (c:=c.toNat) hx (by rw [hy,Int.toNat_of_nonneg (by omega)]) (by omega) q
theorem Aa.a5a {t t2:TypeId} {x y:Operand} {a:Nat} {c:Int} (hx:BG E.Γ L x=some (.p (.int .u64 (a:Int)))) (hy:BG E.Γ L y=some (.p (.int .u64 c))) (h:0<c) (q:Q (.p (.int .u64 ((a % c.toNat:Nat):Int))) H nx) :
 Aa E w ⟨dst,.binOp .rem t x y t2,ty,pos,af,gd⟩ L H nx Q:=Aa.a0f (c:=c.toNat) hx (by rw [hy,Int.toNat_of_nonneg (by omega)]) (by omega) q
theorem Aa.a4c {t t2:TypeId} {x y:Operand} {m n:Nat} (hx:BG E.Γ L x=some (.p (.int .i64 (m:Int)))) (hy:BG E.Γ L y=some (.p (.int .i64 (n:Int)))) (h:m<9223372036854775808∧n<9223372036854775808) (q:Q (.p (.int .i64 ((m &&& n:Nat):Int))) H nx) :
 Aa E w ⟨dst,.binOp .and t x y t2,ty,pos,af,gd⟩ L H nx Q:=Aa.int hx hy (bW (.inl ⟨rfl,h.1⟩) (by omega)) q
theorem Aa.a0c {t t2:TypeId} {x y:Operand} {a c:Nat} (hx:BG E.Γ L x=some (.p (.int .u8 (a:Int)))) (hy:BG E.Γ L y=some (.p (.int .u8 (c:Int)))) (h:c≤a∧a<256) (q:Q (.p (.int .u8 ((a-c:Nat):Int))) H nx) :
 Aa E w ⟨dst,.binOp .sub t x y t2,ty,pos,af,gd⟩ L H nx Q:=Aa.a8i hx hy (by omega) (by rw [← Int.ofNat_sub h.1];exact q)
theorem Aa.xY {t:TypeId} {x lo hi:Operand} {l:List UInt8} {k k':IntKind} {a b:Int} (hx:BG E.Γ L x=some (st l)) (hlo:BG E.Γ L lo=some (.p (.int k a))) (hhi:BG E.Γ L hi=some (.p (.int k' b))) (ht:E.P.underlying t=some .string) (h:0≤a∧a≤b∧b≤l.length)
 (q:Q (st ((l.take b.toNat).drop a.toNat)) H nx):Aa E w ⟨dst,.slice t x (some lo) (some hi) none,ty,pos,af,gd⟩ L H nx Q :=
 Aa.ZI (a:=a.toNat) (b:=b.toNat) hx ht ⟨k,by rw [hlo];congr 3;omega⟩ ⟨k',by rw [hhi];congr 3;omega⟩ (by omega) (by omega) q
theorem Aa.wF {α:Type} {_:Enc α} {l:List α} {t:TypeId} {x o:Operand} {e:TypeId} {n:Nat} {inf:TypeInfo} {k:IntKind} {b:Int} (hx:BG E.Γ L x=some (.p (.lst e (cells l) n))) (hhi:BG E.Γ L o=some (.p (.int k b))) (ht:E.P.underlying t=some (.slice e)) (hi':E.P.info? e=some inf)
 (hsz:inf.size=Enc.size α) (hn:l.length=n) (hb:0≤b∧b≤l.length) (q:Q (.p (.lst e (cells (l.take b.toNat)) b.toNat)) H nx):Aa E w ⟨dst,.slice t x none (some o) none,ty,pos,af,gd⟩ L H nx Q :=
 Aa.sliceTo (b:=b.toNat) hx (by rw [hhi];congr 3;omega) ht hi' hsz hn (by omega) q
end Go.Vm
namespace Go.Proofs
open Go.Shelf
def Tryz.lays170_ren:Go.Shelf.Ren:=⟨fun|170=>141|n=>n,fun|70=>226|3=>3|0=>0|72=>228|37=>129|5=>5|n=>n,fun|n=>n⟩
def Tryz.lays169_ren:Go.Shelf.Ren:=⟨fun|169=>130|n=>n,fun|70=>226|9=>9|0=>0|72=>228|37=>129|127=>244|3=>3|5=>5|n=>n,fun|n=>n⟩
theorem Tryz.lays169:Go.Proofs.Lays.n169 Tryz.prog Tryz.lays169_ren:={
 mixed:=by kernel_rfl
 f169:=Tryz.func130.trans (congrArg some (by kernel_rfl))
 t0:=Tryz.underlying0
 a0:=Tryz.isAgg0
 z0:=Tryz.sizeOf0
 v0:=Tryz.zeroValue0
 t3:=Tryz.underlying3
 a3:=Tryz.isAgg3
 z3:=Tryz.sizeOf3
 v3:=Tryz.zeroValue3
 t9:=Tryz.underlying9
 a9:=Tryz.isAgg9
 z9:=Tryz.sizeOf9
 v9:=Tryz.zeroValue9
 t37:=Tryz.underlying129
 a37:=Tryz.isAgg129
 z37:=Tryz.sizeOf129
 v37:=Tryz.zeroValue129
 t70:=Tryz.underlying226
 a70:=Tryz.isAgg226
 z70:=Tryz.sizeOf226
 v70:=Tryz.zeroValue226
 t72:=Tryz.underlying228
 a72:=Tryz.isAgg228
 z72:=Tryz.sizeOf228
 v72:=Tryz.zeroValue228
 t127:=Tryz.underlying244
 a127:=Tryz.isAgg244
 z127:=Tryz.sizeOf244
 v127:=Tryz.zeroValue244 }
theorem Tryz.Builder_Extra_169:Builder.Extra Tryz.prog Tryz.lays169_ren:={
 sizeBuilder:=by kernel_rfl
 liesBuilder:=by kernel_rfl
 t5:=Tryz.underlying5
 a5:=Tryz.isAgg5
 z5:=Tryz.sizeOf5
 v5:=Tryz.zeroValue5
 infoByte:=by kernel_rfl
 cellsByte:=by kernel_rfl
 sizeByte:=by kernel_rfl
 neB5:=by decide }
def Tryz.lays241_ren:Go.Shelf.Ren:=⟨fun|241=>150|277=>156|n=>n,fun|70=>226|3=>3|0=>0|72=>228|37=>129|5=>5|n=>n,fun|n=>n⟩
def Tryz.lays165_ren:Go.Shelf.Ren:=⟨fun|165=>140|240=>139|241=>150|276=>149|277=>156|n=>n,fun|70=>226|3=>3|0=>0|4=>4|9=>9|20=>20|72=>228|37=>129|164=>251|5=>5|n=>n,fun|n=>n⟩
def Tryz.lays213_ren:Go.Shelf.Ren:=⟨fun|213=>135|265=>144|n=>n,fun|9=>9|3=>3|n=>n,fun|n=>n⟩
def Tryz.lays106_ren:Go.Shelf.Ren:=⟨fun|106=>118|213=>135|265=>144|n=>n,fun|9=>9|3=>3|n=>n,fun|n=>n⟩
theorem Tryz.lays106:Go.Proofs.Lays.n106 Tryz.prog Tryz.lays106_ren:={
 mixed:=by kernel_rfl
 f106:=Tryz.func118.trans (congrArg some (by kernel_rfl))
 f213:=Tryz.func135.trans (congrArg some (by kernel_rfl))
 f265:=Tryz.func144.trans (congrArg some (by kernel_rfl))
 t3:=Tryz.underlying3
 a3:=Tryz.isAgg3
 z3:=Tryz.sizeOf3
 v3:=Tryz.zeroValue3
 t9:=Tryz.underlying9
 a9:=Tryz.isAgg9
 z9:=Tryz.sizeOf9
 v9:=Tryz.zeroValue9 }
open Go.RowKit in
theorem Tryz.strings_Compare (a b:ByteArray) (w:World) :
 Calls Tryz.prog 118 #[.string a,.string b] w fun e w'=>e=.returned (.int .i64 (Lib.compareBytes a.data.toList b.data.toList))∧w'=w:=Any.strings_Compare Tryz.lays106 a b w
open Go.RowKit in
theorem Tryz.Builder_String_any_k (B b:Nat) (l:List UInt8) (w:World) (h:Lib.IsBuilderF 228 5 B b (Lib.byteCells l) w) (hBw:B≤w.heap.size) :
 Calls Tryz.prog 130 #[.pointer (some ⟨b,0,none⟩)] w fun e w'=>e=.returned (.string ⟨l.toArray⟩)∧(Lib.IsBuilderF 228 5 B b (Lib.byteCells l) w'∧Below B w w'∧Lib.OthersKept 5 (some b) w w'):=Any.Builder_String_any_k Tryz.lays169 Tryz.Builder_Extra_169 B b l w h hBw
def Tryz.lays129_ren:Go.Shelf.Ren:=⟨fun|129=>152|n=>n,fun|53=>39|3=>3|4=>4|46=>112|5=>5|9=>9|n=>n,fun|n=>n⟩
def Tryz.lays317_ren:Go.Shelf.Ren:=⟨fun|317=>151|n=>n,fun|3=>3|46=>112|n=>n,fun|n=>n⟩
def Tryz.lays318_ren:Go.Shelf.Ren:=⟨fun|318=>153|n=>n,fun|3=>3|4=>4|n=>n,fun|n=>n⟩
def Tryz.lays283_ren:Go.Shelf.Ren:=⟨fun|283=>145|n=>n,fun|3=>3|9=>9|4=>4|n=>n,fun|n=>n⟩
theorem Tryz.lays283:Go.Proofs.Lays.n283 Tryz.prog Tryz.lays283_ren:={
 mixed:=by kernel_rfl
 f283:=Tryz.func145.trans (congrArg some (by kernel_rfl))
 t3:=Tryz.underlying3
 a3:=Tryz.isAgg3
 z3:=Tryz.sizeOf3
 v3:=Tryz.zeroValue3
 t4:=Tryz.underlying4
 a4:=Tryz.isAgg4
 z4:=Tryz.sizeOf4
 v4:=Tryz.zeroValue4
 t9:=Tryz.underlying9
 a9:=Tryz.isAgg9
 z9:=Tryz.sizeOf9
 v9:=Tryz.zeroValue9 }
open Go.Lib in
theorem Tryz.internal_strconv_small (i:Nat) (h:i<100) (w:World) :
 Calls Tryz.prog 145 #[.int .i64 i] w fun e w'=>e=.returned (.string ⟨(Lib.decDigits i).toArray⟩)∧w'=w:=Any.internal_strconv_small Tryz.lays283 i h w
def Tryz.laysM284_ren:Go.Shelf.Ren:=⟨fun|284=>146|129=>152|317=>151|318=>153|n=>n,fun|53=>39|3=>3|212=>255|0=>0|4=>4|46=>112|5=>5|9=>9|n=>n,fun|17=>1|n=>n⟩
theorem Tryz.laysM284:Go.Proofs.LaysM.n284 Tryz.prog Tryz.laysM284_ren:={
 mixed:=by kernel_rfl
 f129:=Tryz.func152.trans (congrArg some (by kernel_rfl))
 f284:=Tryz.func146.trans (congrArg some (by kernel_rfl))
 f317:=Tryz.func151.trans (congrArg some (by kernel_rfl))
 f318:=Tryz.func153.trans (congrArg some (by kernel_rfl))
 t0:=Tryz.underlying0
 a0:=Tryz.isAgg0
 z0:=Tryz.sizeOf0
 v0:=Tryz.zeroValue0
 t3:=Tryz.underlying3
 a3:=Tryz.isAgg3
 z3:=Tryz.sizeOf3
 v3:=Tryz.zeroValue3
 t4:=Tryz.underlying4
 a4:=Tryz.isAgg4
 z4:=Tryz.sizeOf4
 v4:=Tryz.zeroValue4
 t5:=Tryz.underlying5
 a5:=Tryz.isAgg5
 z5:=Tryz.sizeOf5
 v5:=Tryz.zeroValue5
 t9:=Tryz.underlying9
 a9:=Tryz.isAgg9
 z9:=Tryz.sizeOf9
 v9:=Tryz.zeroValue9
 t46:=Tryz.underlying112
 a46:=Tryz.isAgg112
 z46:=Tryz.sizeOf112
 v46:=Tryz.zeroValue112
 t53:=Tryz.underlying39
 a53:=Tryz.isAgg39
 z53:=Tryz.sizeOf39
 v53:=Tryz.zeroValue39
 t212:=Tryz.underlying255
 a212:=Tryz.isAgg255
 z212:=Tryz.sizeOf255
 v212:=Tryz.zeroValue255
 g17:=by kernel_rfl
 i0:=by kernel_rfl
 i3:=by kernel_rfl
 i4:=by kernel_rfl
 i5:=by kernel_rfl
 i9:=by kernel_rfl
 i46:=by kernel_rfl
 i53:=by kernel_rfl
 i212:=by kernel_rfl
 m17:=by kernel_rfl }
open Go.Lib in
theorem Tryz.internal_strconv_numDigits (u:Nat) (h1:1≤u) (h2:u<18446744073709551616) (w:World) (htab:Lib.TabIs Tryz.prog w "internal/strconv.uint64pow10" .u64 Lib.pow10Tab) :
 Calls Tryz.prog 146 #[.int .u64 u] w fun e w'=>e=.returned (.int .i64 (Lib.nDigits u))∧w'=w:=Any.internal_strconv_numDigits Tryz.laysM284 u h1 h2 w htab
def Tryz.lays285_ren:Go.Shelf.Ren:=⟨fun|285=>147|n=>n,fun|37=>129|53=>39|3=>3|4=>4|51=>217|9=>9|5=>5|0=>0|n=>n,fun|n=>n⟩
theorem Tryz.lays285:Go.Proofs.Lays.n285 Tryz.prog Tryz.lays285_ren:={
 mixed:=by kernel_rfl
 f285:=Tryz.func147.trans (congrArg some (by kernel_rfl))
 t0:=Tryz.underlying0
 a0:=Tryz.isAgg0
 z0:=Tryz.sizeOf0
 v0:=Tryz.zeroValue0
 t3:=Tryz.underlying3
 a3:=Tryz.isAgg3
 z3:=Tryz.sizeOf3
 v3:=Tryz.zeroValue3
 t4:=Tryz.underlying4
 a4:=Tryz.isAgg4
 z4:=Tryz.sizeOf4
 v4:=Tryz.zeroValue4
 t5:=Tryz.underlying5
 a5:=Tryz.isAgg5
 z5:=Tryz.sizeOf5
 v5:=Tryz.zeroValue5
 t9:=Tryz.underlying9
 a9:=Tryz.isAgg9
 z9:=Tryz.sizeOf9
 v9:=Tryz.zeroValue9
 t37:=Tryz.underlying129
 a37:=Tryz.isAgg129
 z37:=Tryz.sizeOf129
 v37:=Tryz.zeroValue129
 t51:=Tryz.underlying217
 a51:=Tryz.isAgg217
 z51:=Tryz.sizeOf217
 v51:=Tryz.zeroValue217
 t53:=Tryz.underlying39
 a53:=Tryz.isAgg39
 z53:=Tryz.sizeOf39
 v53:=Tryz.zeroValue39 }
open Go.RowKit Go.Sort Go.Lib in
theorem Tryz.internal_strconv_formatBase10 (blk off cap:Nat) (u:Nat) (d:Array UInt8) (w:World) (hH:Holds (fun (b:UInt8)=>Value.int .u8 (b.toNat:Int)) w blk off d) (hu:u<10 ^ d.size) (hu64:u<18446744073709551616) (hsz:d.size<4611686018427387904) :
 Calls Tryz.prog 147 #[.slice (some ⟨blk,off,none⟩) d.size cap,.int .u64 u] w fun e w' =>
  e=.returned (.tuple #[])∧∃ (n v':Nat) (dk:Array UInt8),w'=(putRow (fun (b:UInt8)=>Value.int .u8 (b.toNat:Int)) w blk off dk).drewN n∧FmtInv d.size u 0 v' dk:=Any.internal_strconv_formatBase10 Tryz.lays285 blk off cap u d w hH hu hu64 hsz
def Tryz.laysM246_ren:Go.Shelf.Ren:=⟨fun|246=>142|283=>145|284=>146|285=>147|286=>148|129=>152|317=>151|318=>153|319=>154|320=>155|337=>157|338=>158|n=>n,fun|2=>2|3=>3|9=>9|4=>4|171=>246|0=>0|53=>39|37=>129|5=>5|173=>249|212=>255|51=>217|20=>20|213=>256|46=>112|232=>260|233=>261|n=>n,fun|17=>1|18=>2|19=>3|n=>n⟩
def Tryz.lays246_ren:Go.Shelf.Ren:=⟨fun|246=>142|283=>145|284=>146|285=>147|286=>148|129=>152|317=>151|318=>153|319=>154|320=>155|337=>157|338=>158|n=>n,fun|2=>2|3=>3|9=>9|4=>4|171=>246|0=>0|53=>39|37=>129|5=>5|173=>249|212=>255|51=>217|20=>20|213=>256|46=>112|232=>260|233=>261|n=>n,fun|17=>1|18=>2|19=>3|n=>n⟩
def Tryz.laysM243_ren:Go.Shelf.Ren:=⟨fun|243=>132|246=>142|283=>145|284=>146|285=>147|286=>148|129=>152|317=>151|318=>153|319=>154|320=>155|337=>157|338=>158|n=>n,fun|3=>3|9=>9|2=>2|4=>4|171=>246|0=>0|53=>39|37=>129|5=>5|173=>249|212=>255|51=>217|20=>20|213=>256|46=>112|232=>260|233=>261|n=>n,fun|17=>1|18=>2|19=>3|n=>n⟩
def Tryz.lays243_ren:Go.Shelf.Ren:=⟨fun|243=>132|246=>142|283=>145|284=>146|285=>147|286=>148|129=>152|317=>151|318=>153|319=>154|320=>155|337=>157|338=>158|n=>n,fun|3=>3|9=>9|2=>2|4=>4|171=>246|0=>0|53=>39|37=>129|5=>5|173=>249|212=>255|51=>217|20=>20|213=>256|46=>112|232=>260|233=>261|n=>n,fun|17=>1|18=>2|19=>3|n=>n⟩
def Tryz.laysM171_ren:Go.Shelf.Ren:=⟨fun|171=>114|243=>132|246=>142|283=>145|284=>146|285=>147|286=>148|129=>152|317=>151|318=>153|319=>154|320=>155|337=>157|338=>158|n=>n,fun|3=>3|9=>9|2=>2|4=>4|171=>246|0=>0|53=>39|37=>129|5=>5|173=>249|212=>255|51=>217|20=>20|213=>256|46=>112|232=>260|233=>261|n=>n,fun|17=>1|18=>2|19=>3|n=>n⟩
theorem Tryz.laysM171:Go.Proofs.LaysM.n171 Tryz.prog Tryz.laysM171_ren:={
 mixed:=by kernel_rfl
 f129:=Tryz.func152.trans (congrArg some (by kernel_rfl))
 f171:=Tryz.func114.trans (congrArg some (by kernel_rfl))
 f243:=Tryz.func132.trans (congrArg some (by kernel_rfl))
 f246:=Tryz.func142.trans (congrArg some (by kernel_rfl))
 f283:=Tryz.func145.trans (congrArg some (by kernel_rfl))
 f284:=Tryz.func146.trans (congrArg some (by kernel_rfl))
 f285:=Tryz.func147.trans (congrArg some (by kernel_rfl))
 f286:=Tryz.func148.trans (congrArg some (by kernel_rfl))
 f317:=Tryz.func151.trans (congrArg some (by kernel_rfl))
 f318:=Tryz.func153.trans (congrArg some (by kernel_rfl))
 f319:=Tryz.func154.trans (congrArg some (by kernel_rfl))
 f320:=Tryz.func155.trans (congrArg some (by kernel_rfl))
 f337:=Tryz.func157.trans (congrArg some (by kernel_rfl))
 f338:=Tryz.func158.trans (congrArg some (by kernel_rfl))
 t0:=Tryz.underlying0
 a0:=Tryz.isAgg0
 z0:=Tryz.sizeOf0
 v0:=Tryz.zeroValue0
 t2:=Tryz.underlying2
 a2:=Tryz.isAgg2
 z2:=Tryz.sizeOf2
 v2:=Tryz.zeroValue2
 t3:=Tryz.underlying3
 a3:=Tryz.isAgg3
 z3:=Tryz.sizeOf3
 v3:=Tryz.zeroValue3
 t4:=Tryz.underlying4
 a4:=Tryz.isAgg4
 z4:=Tryz.sizeOf4
 v4:=Tryz.zeroValue4
 t5:=Tryz.underlying5
 a5:=Tryz.isAgg5
 z5:=Tryz.sizeOf5
 v5:=Tryz.zeroValue5
 t9:=Tryz.underlying9
 a9:=Tryz.isAgg9
 z9:=Tryz.sizeOf9
 v9:=Tryz.zeroValue9
 t20:=Tryz.underlying20
 a20:=Tryz.isAgg20
 z20:=Tryz.sizeOf20
 v20:=Tryz.zeroValue20
 t37:=Tryz.underlying129
 a37:=Tryz.isAgg129
 z37:=Tryz.sizeOf129
 v37:=Tryz.zeroValue129
 t46:=Tryz.underlying112
 a46:=Tryz.isAgg112
 z46:=Tryz.sizeOf112
 v46:=Tryz.zeroValue112
 t51:=Tryz.underlying217
 a51:=Tryz.isAgg217
 z51:=Tryz.sizeOf217
 v51:=Tryz.zeroValue217
 t53:=Tryz.underlying39
 a53:=Tryz.isAgg39
 z53:=Tryz.sizeOf39
 v53:=Tryz.zeroValue39
 t171:=Tryz.underlying246
 a171:=Tryz.isAgg246
 z171:=Tryz.sizeOf246
 v171:=Tryz.zeroValue246
 t173:=Tryz.underlying249
 a173:=Tryz.isAgg249
 z173:=Tryz.sizeOf249
 v173:=Tryz.zeroValue249
 t212:=Tryz.underlying255
 a212:=Tryz.isAgg255
 z212:=Tryz.sizeOf255
 v212:=Tryz.zeroValue255
 t213:=Tryz.underlying256
 a213:=Tryz.isAgg256
 z213:=Tryz.sizeOf256
 t232:=Tryz.underlying260
 a232:=Tryz.isAgg260
 z232:=Tryz.sizeOf260
 v232:=Tryz.zeroValue260
 t233:=Tryz.underlying261
 a233:=Tryz.isAgg261
 z233:=Tryz.sizeOf261
 v233:=Tryz.zeroValue261
 g17:=by kernel_rfl
 g18:=by kernel_rfl
 g19:=by kernel_rfl
 i0:=by kernel_rfl
 i2:=by kernel_rfl
 i3:=by kernel_rfl
 i4:=by kernel_rfl
 i5:=by kernel_rfl
 i9:=by kernel_rfl
 i20:=by kernel_rfl
 i37:=by kernel_rfl
 i46:=by kernel_rfl
 i51:=by kernel_rfl
 i53:=by kernel_rfl
 i171:=by kernel_rfl
 i173:=by kernel_rfl
 i212:=by kernel_rfl
 i232:=by kernel_rfl
 i233:=by kernel_rfl
 m17:=by kernel_rfl
 m18:=by kernel_rfl
 m19:=by kernel_rfl }
open Go.RowKit Go.Sort Go.Lib in
theorem Tryz.strconv_Itoa (n:Int) (h0:-9223372036854775808≤n) (h1:n≤9223372036854775807) (w:World) (htab:Lib.TabIs Tryz.prog w "internal/strconv.uint64pow10" .u64 Lib.pow10Tab) :
 Calls Tryz.prog 114 #[.int .i64 n] w fun e w'=>e=.returned (.string ⟨(Lib.itoa n).toArray⟩)∧∃ k os,w'=grow (w.drewN k) os:=Any.strconv_Itoa Tryz.laysM171 n h0 h1 w htab
def Tryz.lays171_ren:Go.Shelf.Ren:=⟨fun|171=>114|243=>132|246=>142|283=>145|284=>146|285=>147|286=>148|129=>152|317=>151|318=>153|319=>154|320=>155|337=>157|338=>158|n=>n,fun|3=>3|9=>9|2=>2|4=>4|171=>246|0=>0|53=>39|37=>129|5=>5|173=>249|212=>255|51=>217|20=>20|213=>256|46=>112|232=>260|233=>261|n=>n,fun|17=>1|18=>2|19=>3|n=>n⟩
def Tryz.lays206_ren:Go.Shelf.Ren:=⟨fun|206=>143|n=>n,fun|9=>9|4=>4|3=>3|n=>n,fun|n=>n⟩
def Tryz.lays99_ren:Go.Shelf.Ren:=⟨fun|99=>133|206=>143|n=>n,fun|9=>9|4=>4|3=>3|n=>n,fun|n=>n⟩
def Tryz.lays264_ren:Go.Shelf.Ren:=⟨fun|264=>120|n=>n,fun|53=>39|46=>112|n=>n,fun|n=>n⟩
def Tryz.lays212_ren:Go.Shelf.Ren:=⟨fun|212=>100|263=>119|264=>120|n=>n,fun|46=>112|51=>217|146=>218|53=>39|148=>220|n=>n,fun|n=>n⟩
def Tryz.lays105_ren:Go.Shelf.Ren:=⟨fun|105=>129|212=>100|99=>133|165=>140|166=>128|170=>141|169=>130|263=>119|264=>120|206=>143|240=>139|241=>150|276=>149|277=>156|n=>n,fun|9=>9|3=>3|4=>4|20=>20|0=>0|46=>112|109=>197|5=>5|72=>228|76=>235|51=>217|146=>218|53=>39|148=>220|70=>226|37=>129|75=>234|127=>244|164=>251|80=>208|n=>n,fun|n=>n⟩
theorem Tryz.lays105:Go.Proofs.Lays.n105 Tryz.prog Tryz.lays105_ren:={
 mixed:=by kernel_rfl
 f99:=Tryz.func133.trans (congrArg some (by kernel_rfl))
 f105:=Tryz.func129.trans (congrArg some (by kernel_rfl))
 f165:=Tryz.func140.trans (congrArg some (by kernel_rfl))
 f166:=Tryz.func128.trans (congrArg some (by kernel_rfl))
 f169:=Tryz.func130.trans (congrArg some (by kernel_rfl))
 f170:=Tryz.func141.trans (congrArg some (by kernel_rfl))
 f206:=Tryz.func143.trans (congrArg some (by kernel_rfl))
 f212:=Tryz.func100.trans (congrArg some (by kernel_rfl))
 f240:=Tryz.func139.trans (congrArg some (by kernel_rfl))
 f241:=Tryz.func150.trans (congrArg some (by kernel_rfl))
 f263:=Tryz.func119.trans (congrArg some (by kernel_rfl))
 f264:=Tryz.func120.trans (congrArg some (by kernel_rfl))
 f276:=Tryz.func149.trans (congrArg some (by kernel_rfl))
 f277:=Tryz.func156.trans (congrArg some (by kernel_rfl))
 t0:=Tryz.underlying0
 a0:=Tryz.isAgg0
 z0:=Tryz.sizeOf0
 v0:=Tryz.zeroValue0
 t3:=Tryz.underlying3
 a3:=Tryz.isAgg3
 z3:=Tryz.sizeOf3
 v3:=Tryz.zeroValue3
 t4:=Tryz.underlying4
 a4:=Tryz.isAgg4
 z4:=Tryz.sizeOf4
 v4:=Tryz.zeroValue4
 t5:=Tryz.underlying5
 a5:=Tryz.isAgg5
 z5:=Tryz.sizeOf5
 v5:=Tryz.zeroValue5
 t9:=Tryz.underlying9
 a9:=Tryz.isAgg9
 z9:=Tryz.sizeOf9
 v9:=Tryz.zeroValue9
 t20:=Tryz.underlying20
 a20:=Tryz.isAgg20
 z20:=Tryz.sizeOf20
 v20:=Tryz.zeroValue20
 t37:=Tryz.underlying129
 a37:=Tryz.isAgg129
 z37:=Tryz.sizeOf129
 v37:=Tryz.zeroValue129
 t46:=Tryz.underlying112
 a46:=Tryz.isAgg112
 z46:=Tryz.sizeOf112
 v46:=Tryz.zeroValue112
 t51:=Tryz.underlying217
 a51:=Tryz.isAgg217
 z51:=Tryz.sizeOf217
 v51:=Tryz.zeroValue217
 t53:=Tryz.underlying39
 a53:=Tryz.isAgg39
 z53:=Tryz.sizeOf39
 v53:=Tryz.zeroValue39
 t70:=Tryz.underlying226
 a70:=Tryz.isAgg226
 z70:=Tryz.sizeOf226
 v70:=Tryz.zeroValue226
 t72:=Tryz.underlying228
 a72:=Tryz.isAgg228
 z72:=Tryz.sizeOf228
 v72:=Tryz.zeroValue228
 t75:=Tryz.underlying234
 a75:=Tryz.isAgg234
 z75:=Tryz.sizeOf234
 v75:=Tryz.zeroValue234
 t76:=Tryz.underlying235
 a76:=Tryz.isAgg235
 z76:=Tryz.sizeOf235
 v76:=Tryz.zeroValue235
 t109:=Tryz.underlying197
 a109:=Tryz.isAgg197
 z109:=Tryz.sizeOf197
 v109:=Tryz.zeroValue197
 t127:=Tryz.underlying244
 a127:=Tryz.isAgg244
 z127:=Tryz.sizeOf244
 v127:=Tryz.zeroValue244
 t146:=Tryz.underlying218
 a146:=Tryz.isAgg218
 z146:=Tryz.sizeOf218
 v146:=Tryz.zeroValue218
 t148:=Tryz.underlying220
 a148:=Tryz.isAgg220
 z148:=Tryz.sizeOf220
 v148:=Tryz.zeroValue220
 t164:=Tryz.underlying251
 a164:=Tryz.isAgg251
 z164:=Tryz.sizeOf251
 v164:=Tryz.zeroValue251 }
theorem Tryz.Builder_Extra_105:Builder.Extra Tryz.prog Tryz.lays105_ren:={
 sizeBuilder:=by kernel_rfl
 liesBuilder:=by kernel_rfl
 t5:=Tryz.underlying5
 a5:=Tryz.isAgg5
 z5:=Tryz.sizeOf5
 v5:=Tryz.zeroValue5
 infoByte:=by kernel_rfl
 cellsByte:=by kernel_rfl
 sizeByte:=by kernel_rfl
 neB5:=by decide }
open Go.RowKit Go.Lib in
theorem Tryz.strings_Repeat (s:ByteArray) (c:Nat) (w:World) (hc:c≤9223372036854775807) (hlen:s.size*c≤140737488355328) :
 Calls Tryz.prog 129 #[.string s,.int .i64 c] w fun e w'=>e=.returned (.string ⟨(Lib.repeatL s.data.toList c).toArray⟩)∧Below w.heap.size w w':=Any.strings_Repeat Tryz.lays105 Tryz.Builder_Extra_105 s c w hc hlen
end Go.Proofs
namespace Go.Num
open Go.Lib
abbrev B9:Nat:=1000000000
def val:List Nat→Nat
 |[]=>0
 |a::l=>a+B9*val l
def OH (n:Nat):List Nat:=if h:n=0 then [] else (n % B9)::OH (n / B9)
termination_by n
decreasing_by exact Nat.div_lt_self (by omega) (by decide)
theorem Ig:OH 0=[]:=by rw [OH];simp
theorem MO {n:Nat} (h:n≠0):OH n=(n % B9)::OH (n / B9):=by rw [OH,dif_neg h]
theorem ZT {n:Nat}:OH n=[]↔n=0:=by
 constructor
 ·intro h
  by_cases h0:n=0
  ·exact h0
  ·rw [MO h0] at h;cases h
 ·intro h;rw [h,Ig]
def Xi (l:List Nat):Prop:=∀ a∈l,a<B9
theorem Ri (n:Nat):val (OH n)=n:=by
 induction n using Nat.strongRecOn with
 |ind n ih =>
  by_cases h:n=0
  ·rw [h,Ig];rfl
  ·rw [MO h,val,ih _ (Nat.div_lt_self (by omega) (by decide))]
   exact Nat.mod_add_div n B9
theorem KC (n:Nat):Xi (OH n):=by
 induction n using Nat.strongRecOn with
 |ind n ih =>
  by_cases h:n=0
  ·rw [h,Ig];intro a ha;cases ha
  ·rw [MO h]
   intro a ha
   rcases List.mem_cons.1 ha with rfl|ha
   ·exact Nat.mod_lt _ (by decide)
   ·exact ih _ (Nat.div_lt_self (by omega) (by decide)) a ha
def Kq:List Nat→List Nat
 |[]=>[]
 |a::t=>if Kq t=[]∧a=0 then [] else a::Kq t
theorem dI {l:List Nat} (h:Xi l):Kq l=OH (val l):=by
 induction l with
 |nil=>rw [val,Ig];rfl
 |cons a t ih =>
  have ha:a<B9:=h a (by simp)
  have ih:=ih (fun x hx=>h x (by simp [hx]))
  simp only [Kq,val]
  rw [ih]
  by_cases h0:val t=0∧a=0
  ·rw [if_pos ⟨ZT.2 h0.1,h0.2⟩,h0.1,h0.2];simp [Ig]
  ·rw [if_neg (fun h1=>h0 ⟨ZT.1 h1.1,h1.2⟩)]
   have hne:a+B9*val t≠0:=fun e=>h0 ⟨by
    rcases Nat.eq_zero_or_pos (val t) with h1|h1
    ·exact h1
    ·have:=Nat.mul_le_mul_left B9 h1;simp only [B9] at *;omega,by omega⟩
   rw [MO hne,Nat.add_mul_mod_self_left,Nat.mod_eq_of_lt ha,Nat.add_mul_div_left _ _ (by decide),Nat.div_eq_of_lt ha,Nat.zero_add]
theorem SE (l:List Nat):Kq (l++[0])=Kq l:=by
 induction l with
 |nil=>rfl
 |cons a t ih=>simp only [List.cons_append,Kq,ih]
theorem WG (l:List Nat) {x:Nat} (hx:x≠0):Kq (l++[x])=l++[x]:=by
 induction l with
 |nil=>simp [Kq,hx]
 |cons a t ih=>simp only [List.cons_append,Kq,ih];rw [if_neg];intro h;simp at h
theorem val_append (l r:List Nat):val (l++r)=val l+B9 ^ l.length*val r:=by
 induction l with
 |nil=>simp [val]
 |cons a t ih=>simp only [List.cons_append,val,ih,List.length_cons,Nat.pow_succ];rw [Nat.mul_add,← Nat.mul_assoc,Nat.mul_comm B9 (B9 ^ _),Nat.add_assoc]
theorem XA (n:Nat):val (List.replicate n 0)=0:=by
 induction n with
 |zero=>rfl
 |succ n ih=>simp [List.replicate_succ,val,ih]
theorem kG (l:List Nat):∀ (i x:Nat),i<l.length→val (l.set i x)+(l[i]?.getD 0)*B9 ^ i=val l+x*B9 ^ i:=by
 induction l with
 |nil=>intro i x h;simp at h
 |cons a t ih =>
  intro i x h
  cases i with
  |zero=>simp [val];omega
  |succ i =>
   have:=ih i x (by simpa using h)
   simp only [List.set_cons_succ,val,List.getElem?_cons_succ,Nat.pow_succ]
   rw [← Nat.mul_assoc,← Nat.mul_assoc,Nat.mul_comm _ B9,Nat.mul_comm (x*B9 ^ i) B9,Nat.add_assoc,← Nat.mul_add,this,Nat.mul_add,Nat.add_assoc]
theorem mV {l:List Nat} (h:Xi l) {i x:Nat} (hx:x<B9):Xi (l.set i x):=fun a ha=>by
 rcases List.mem_or_eq_of_mem_set ha with h1|h1
 ·exact h a h1
 ·exact h1▸hx
theorem ZO {l:List Nat} (h:Xi l) (i:Nat):l[i]?.getD 0<B9:=by
 cases hi:l[i]? with
 |none=>decide
 |some a=>exact h a (List.mem_of_getElem? hi)
def D (k u:Nat):List UInt8:=(List.range k).map fun t=>dg u (k-1-t)
theorem Ei (k u:Nat):(D k u).length=k:=by simp [D]
theorem J4 (k u t:Nat) (h:t<k):(D k u)[t]?=some (dg u (k-1-t)):=by
 unfold D
 rw [List.getElem?_map,List.getElem?_range h]
 rfl
theorem Eu (u:Nat):decDigits u=D (nDigits u) u:=decDigits_eq u
theorem a2l {a m j:Nat} (hj:j<9):dg (a+B9*m) j=dg a j:=by
 unfold dg
 congr 2
 have hB:B9=10 ^ j*10 ^ (9-j):=by rw [← Nat.pow_add,show j+(9-j)=9 by omega]
 rw [hB,Nat.mul_assoc,Nat.add_mul_div_left _ _ (Nat.pow_pos (by decide))]
 rw [show 9-j=(8-j)+1 by omega,Nat.pow_succ,Nat.mul_comm (10 ^ (8-j)) 10,Nat.mul_assoc,Nat.add_mul_mod_self_left]
theorem yL {a m j:Nat} (ha:a<B9):dg (a+B9*m) (j+9)=dg m j:=by
 unfold dg
 congr 2
 rw [Nat.pow_add,Nat.mul_comm (10 ^ j),← Nat.div_div_eq_div_mul,show (10:Nat) ^ 9=B9 from rfl,Nat.add_mul_div_left _ _ (by decide),Nat.div_eq_of_lt ha,Nat.zero_add]
theorem yY {a m p:Nat} (ha:a<B9):D (p+9) (a+B9*m)=D p m++D 9 a:=by
 apply List.ext_getElem?
 intro t
 by_cases h1:t<p
 ·rw [J4 _ _ _ (by omega),List.getElem?_append_left (by rw [Ei];exact h1),J4 _ _ _ h1]
  rw [show p+9-1-t=(p-1-t)+9 by omega,yL ha]
 ·rw [List.getElem?_append_right (by rw [Ei];omega),Ei]
  by_cases h2:t<p+9
  ·rw [J4 _ _ _ h2,J4 _ _ _ (by omega)]
   rw [show p+9-1-t=9-1-(t-p) by omega,a2l (by omega)]
  ·rw [List.getElem?_eq_none (by rw [Ei];omega),List.getElem?_eq_none (by rw [Ei];omega)]
theorem FU:∀ (u:Nat),u≠0→10 ^ (nDigits u-1)≤u:=by
 intro u
 induction u using Nat.strongRecOn with
 |ind u ih =>
  intro h0
  by_cases h:u<10
  ·rw [nDigits_small h];simp;omega
  ·rw [nDigits_big h]
   have:=ih (u / 10) (by omega) (by omega)
   have h1:=nDigits_pos (u / 10)
   rw [show nDigits (u / 10)+1-1=(nDigits (u / 10)-1)+1 by omega,Nat.pow_succ]
   omega
theorem Xw {a m:Nat} (ha:a<B9) (hm:m≠0):nDigits (a+B9*m)=nDigits m+9:=by
 have h1:=FU m hm
 have h2:=lt_pow_nDigits m
 have h3:=nDigits_pos m
 rw [show nDigits m+9=(nDigits m+8)+1 by omega]
 apply nDigits_unique
 ·rw [show nDigits m+8=9+(nDigits m-1) by omega,Nat.pow_add,show (10:Nat) ^ 9=B9 from rfl]
  have:=Nat.mul_le_mul_left B9 h1
  omega
 ·rw [show nDigits m+8+1=9+nDigits m by omega,Nat.pow_add,show (10:Nat) ^ 9=B9 from rfl]
  have:=Nat.mul_le_mul_left B9 h2
  rw [Nat.mul_succ] at this
  omega
theorem oV {a m:Nat} (ha:a<B9) (hm:m≠0):decDigits (a+B9*m)=decDigits m++D 9 a:=by
 rw [Eu,Eu,Xw ha hm,yY ha]
theorem xK {u j:Nat} (h:u<10 ^ j):dg u j=48:=by
 unfold dg
 rw [Nat.div_eq_of_lt h];rfl
theorem pad (k u:Nat) (h:nDigits u≤k):List.replicate (k-nDigits u) 48++decDigits u=D k u:=by
 rw [Eu]
 apply List.ext_getElem?
 intro t
 by_cases h1:t<k-nDigits u
 ·rw [List.getElem?_append_left (by simpa using h1),J4 _ _ _ (by omega),List.getElem?_replicate,if_pos h1]
  rw [xK (Nat.lt_of_lt_of_le (lt_pow_nDigits u) (Nat.pow_le_pow_right (by decide) (by omega)))]
 ·rw [List.getElem?_append_right (by simp;omega),List.length_replicate]
  by_cases h2:t<k
  ·rw [J4 _ _ _ h2,J4 _ _ _ (by omega)]
   congr 2;omega
  ·rw [List.getElem?_eq_none (by rw [Ei];omega),List.getElem?_eq_none (by rw [Ei];omega)]
theorem NG {a:Nat} (h:a<B9):nDigits a≤9:=by
 rcases Nat.eq_zero_or_pos a with h0|h0
 ·rw [h0,nDigits_small (by decide)];decide
 ·have:=FU a (by omega)
  rcases Nat.lt_or_ge 9 (nDigits a) with h1|h1
  ·have:10 ^ 9≤10 ^ (nDigits a-1):=Nat.pow_le_pow_right (by decide) (by omega)
   simp only [B9] at h;omega
  ·exact h1
def Na:List Nat→List UInt8
 |[]=>decDigits 0
 |[a]=>decDigits a
 |a::t=>Na t++D 9 a
theorem VK {a:Nat} {t:List Nat} (h:t≠[]):Na (a::t)=Na t++D 9 a:=by
 cases t with
 |nil=>exact absurd rfl h
 |cons b t=>rfl
theorem XU (n:Nat):Na (OH n)=decDigits n:=by
 induction n using Nat.strongRecOn with
 |ind n ih =>
  by_cases h:n=0
  ·rw [h,Ig];rfl
  ·rw [MO h]
   by_cases h1:n / B9=0
   ·rw [h1,Ig]
    show decDigits (n % B9)=_
    congr 1
    have:=Nat.mod_add_div n B9
    rw [h1] at this;omega
   ·rw [VK (by rw [Ne,ZT];exact h1),ih _ (Nat.div_lt_self (by omega) (by decide)),← oV (Nat.mod_lt _ (by decide)) h1,Nat.mod_add_div]
def parse (l:List UInt8):Nat:=l.foldl (fun v c=>10*v+(c.toNat-48)) 0
theorem VR (l:List UInt8) (c:UInt8):parse (l++[c])=10*parse l+(c.toNat-48):=by simp [parse]
theorem Rf (u j:Nat):(dg u j).toNat=48+u / 10 ^ j % 10:=by
 unfold dg
 have:u / 10 ^ j % 10<10:=Nat.mod_lt _ (by decide)
 simp
 omega
theorem a1h (k u:Nat):D (k+1) u=D k (u / 10)++[dg u 0]:=by
 apply List.ext_getElem?
 intro t
 by_cases h1:t<k
 ·rw [J4 _ _ _ (by omega),List.getElem?_append_left (by rw [Ei];exact h1),J4 _ _ _ h1]
  rw [show k+1-1-t=(k-1-t)+1 by omega,dg_succ]
 ·rw [List.getElem?_append_right (by rw [Ei];omega),Ei]
  by_cases h2:t<k+1
  ·have:t=k:=by omega
   subst this
   rw [J4 _ _ _ (by omega),Nat.sub_self,show t+1-1-t=0 by omega];rfl
  ·rw [List.getElem?_eq_none (by rw [Ei];omega),List.getElem?_eq_none (by simp;omega)]
theorem Qw:∀ (k u:Nat),parse (D k u)=u % 10 ^ k
 |0,u=>by simp [D,parse,Nat.mod_one]
 |k+1,u=>by
  rw [a1h,VR,Qw k,Rf,Nat.pow_zero,Nat.div_one,Nat.add_sub_cancel_left,Nat.pow_succ,Nat.mul_comm (10 ^ k) 10,Nat.mod_mul,Nat.add_comm]
theorem aP (L u e c:Nat) (he:e≤L) (hc:c≤e):((D L u).take e).drop (e-c)=D c (u / 10 ^ (L-e)):=by
 apply List.ext_getElem?
 intro t
 rw [List.getElem?_drop]
 by_cases h:t<c
 ·rw [List.getElem?_take_of_lt (by omega),J4 _ _ _ (by omega),J4 _ _ _ h]
  unfold dg
  rw [Nat.div_div_eq_div_mul,← Nat.pow_add]
  rw [show L-e+(c-1-t)=L-1-(e-c+t) by omega]
 ·rw [List.getElem?_eq_none (by simp [Ei];omega),List.getElem?_eq_none (by rw [Ei];omega)]
end Go.Num
namespace Go.Num
open Go.Lib Go.Vm
theorem jf {l:List Nat} (h:Xi l) (i:Nat):gi l i<1000000000:=ZO h i
theorem Pm (l:List Nat) (k:Nat) (h:k<l.length):val (l.take (k+1))=val (l.take k)+gi l k*B9 ^ k:=by
 have:l.take (k+1)=l.take k++[gi l k]:=by
  rw [List.take_succ_eq_append_getElem h];simp [gi,List.getElem?_eq_getElem h]
 rw [this,val_append,List.length_take,Nat.min_eq_left (by omega),val,val,Nat.mul_zero,Nat.add_zero,Nat.mul_comm]
theorem uK {out:List Nat} {i k a b carry V W:Nat} (hik:i+k<out.length) (h:val out+carry*B9 ^ (i+k)=V+a*B9 ^ i*W) :
 val (out.set (i+k) ((gi out (i+k)+a*b+carry) % B9))+(gi out (i+k)+a*b+carry) / B9*B9 ^ (i+(k+1))=V+a*B9 ^ i*(W+b*B9 ^ k):=by
 generalize hx:gi out (i+k)+a*b+carry=x
 have h1:=kG out (i+k) (x % B9) hik
 have h2:x % B9+B9*(x / B9)=x:=Nat.mod_add_div x B9
 have h3:out[i+k]?.getD 0=gi out (i+k):=rfl
 rw [h3] at h1
 have e1:x / B9*B9 ^ (i+(k+1))=B9*(x / B9)*B9 ^ (i+k):=by
  rw [← Nat.add_assoc,Nat.pow_succ,Nat.mul_comm (B9 ^ (i+k)) B9,← Nat.mul_assoc,Nat.mul_comm (x / B9) B9]
 have e2:a*B9 ^ i*(W+b*B9 ^ k)=a*B9 ^ i*W+a*b*B9 ^ (i+k):=by
  rw [Nat.mul_add,Nat.pow_add]
  congr 1
  rw [Nat.mul_assoc,Nat.mul_assoc,← Nat.mul_assoc (B9 ^ i),Nat.mul_comm (B9 ^ i) b,Nat.mul_assoc]
 have e3:x*B9 ^ (i+k)=gi out (i+k)*B9 ^ (i+k)+a*b*B9 ^ (i+k)+carry*B9 ^ (i+k):=by
  rw [← hx,Nat.add_mul,Nat.add_mul]
 have e4:x % B9*B9 ^ (i+k)+B9*(x / B9)*B9 ^ (i+k)=x*B9 ^ (i+k):=by rw [← Nat.add_mul,h2]
 rw [e1,e2]
 omega
theorem zl {out:List Nat} {i n a carry V W:Nat} (hin:i+n<out.length) (h0:gi out (i+n)=0) (h:val out+carry*B9 ^ (i+n)=V+a*B9 ^ i*W) :
 val (out.set (i+n) (gi out (i+n)+carry))=V+a*B9 ^ i*W:=by
 have h1:=kG out (i+n) (gi out (i+n)+carry) hin
 have h3:out[i+n]?.getD 0=gi out (i+n):=rfl
 rw [h3,h0,Nat.zero_mul,Nat.zero_add] at h1
 rw [h0,Nat.zero_add]
 omega
theorem SH (l:List Nat) (i j x:Nat) (hi:i<l.length):gi (l.set i x) j=if i=j then x else gi l j:=by
 simp only [gi,List.getElem?_set]
 split
 ·rename_i h;subst h;simp [hi]
 ·rfl
theorem MV (n j:Nat):gi (List.replicate n (0:Nat)) j=0:=by
 simp only [gi,List.getElem?_replicate]
 split<;>rfl
theorem Xu (n:Nat):Xi (List.replicate n 0):=fun a ha=>by
 rw [List.eq_of_mem_replicate ha];decide
theorem parse_snoc' (l:List UInt8) (k:Nat) (h:k<l.length):parse (l.take (k+1))=10*parse (l.take k)+((gi l k).toNat-48):=by
 have:l.take (k+1)=l.take k++[gi l k]:=by
  rw [List.take_succ_eq_append_getElem h];simp [gi,List.getElem?_eq_getElem h]
 rw [this,VR]
theorem fQ:∀ (l:List UInt8),(∀ c∈l,48≤c.toNat∧c.toNat≤57)→parse l<10 ^ l.length:=by
 intro l h
 have key:∀ k,k≤l.length→parse (l.take k)<10 ^ k:=by
  intro k
  induction k with
  |zero=>intro _;simp [parse]
  |succ k ih =>
   intro hk
   have hm:gi l k∈l:=by simp only [gi,List.getElem?_eq_getElem (show k<l.length by omega),Option.getD_some];exact List.getElem_mem _
   have:=h _ hm
   have:=ih (by omega)
   rw [parse_snoc' l k (by omega),Nat.pow_succ]
   omega
 have:=key l.length (Nat.le_refl _)
 rwa [List.take_length] at this
theorem ZU (k u:Nat):∀ c∈D k u,48≤c.toNat∧c.toNat≤57:=fun c hc=>by
 unfold D at hc
 obtain ⟨t,_,rfl⟩:=List.mem_map.1 hc
 rw [Rf]
 have:=Nat.mod_lt (u / 10 ^ (k-1-t)) (show 0<10 by decide)
 omega
theorem Jl (u:Nat):∀ c∈decDigits u,48≤c.toNat∧c.toNat≤57:=by rw [Eu];exact ZU _ _
def Zw (n j:Nat):Nat:=n / B9 ^ j % B9
def limbs (n:Nat):Nat→List Nat
 |0=>[]
 |k+1=>limbs n k++[Zw n k]
theorem Lr (n:Nat):∀ k,(limbs n k).length=k
 |0=>rfl
 |k+1=>by simp [limbs,Lr n k]
theorem YI (n:Nat):∀ k,Xi (limbs n k)
 |0=>fun a h=>by cases h
 |k+1=>fun a h=>by
  rcases List.mem_append.1 h with h|h
  ·exact YI n k a h
  ·rw [List.mem_singleton.1 h];exact Nat.mod_lt _ (by decide)
theorem YF (n:Nat):∀ k,val (limbs n k)=n % B9 ^ k
 |0=>by simp [limbs,val,Nat.mod_one]
 |k+1=>by
  rw [limbs,val_append,Lr,YF n k,val,val,Nat.mul_zero,Nat.add_zero,Zw,Nat.pow_succ,Nat.mod_mul]
theorem iq {n k:Nat} (h:n<B9 ^ k):Kq (limbs n k)=OH n:=by
 rw [dI (YI n k),YF,Nat.mod_eq_of_lt h]
theorem jy (n:Nat):∀ k,n<B9 ^ k→(OH n).length≤k:=by
 induction n using Nat.strongRecOn with
 |ind n ih =>
  intro k hk
  by_cases h:n=0
  ·rw [h,Ig];exact Nat.zero_le _
  ·rw [MO h]
   cases k with
   |zero=>simp at hk;omega
   |succ k =>
    have:=ih (n / B9) (Nat.div_lt_self (by omega) (by decide)) k (by rw [Nat.pow_succ] at hk;exact Nat.div_lt_of_lt_mul (by rw [Nat.mul_comm];exact hk))
    simp;omega
theorem a0i:∀ (k a b:Nat),a<10 ^ k→b<10 ^ k→compareBytes (D k a) (D k b)=if a<b then -1 else if b<a then 1 else 0
 |0,a,b,ha,hb=>by
  simp at ha hb;subst ha;subst hb;rfl
 |k+1,a,b,ha,hb=>by
  have hD:∀ u,D (k+1) u=dg u k::D k (u % 10 ^ k):=fun u=>by
   apply List.ext_getElem?
   intro t
   cases t with
   |zero=>rw [J4 _ _ _ (by omega)];rfl
   |succ t =>
    rw [List.getElem?_cons_succ]
    by_cases ht:t<k
    ·rw [J4 _ _ _ (by omega),J4 _ _ _ ht]
     congr 1
     rw [show k+1-1-(t+1)=k-1-t by omega]
     unfold dg
     congr 2
     have hk:(10:Nat) ^ k=10 ^ (k-1-t)*(10*10 ^ t):=by rw [← Nat.pow_succ',← Nat.pow_add];congr 1;omega
     rw [hk,Nat.mod_mul_right_div_self,Nat.mod_mul_right_mod]
    ·rw [List.getElem?_eq_none (by rw [Ei];omega),List.getElem?_eq_none (by rw [Ei];omega)]
  have hp:0<10 ^ k:=Nat.pow_pos (by decide)
  have ih:=a0i k (a % 10 ^ k) (b % 10 ^ k) (Nat.mod_lt _ hp) (Nat.mod_lt _ hp)
  rw [Nat.pow_succ] at ha hb
  have ea:=Nat.mod_add_div a (10 ^ k)
  have eb:=Nat.mod_add_div b (10 ^ k)
  have ha9:a / 10 ^ k<10:=Nat.div_lt_of_lt_mul ha
  have hb9:b / 10 ^ k<10:=Nat.div_lt_of_lt_mul hb
  have da:(dg a k).toNat=48+a / 10 ^ k:=by rw [Rf,Nat.mod_eq_of_lt ha9]
  have db:(dg b k).toNat=48+b / 10 ^ k:=by rw [Rf,Nat.mod_eq_of_lt hb9]
  have la:a % 10 ^ k<10 ^ k:=Nat.mod_lt _ hp
  have lb:b % 10 ^ k<10 ^ k:=Nat.mod_lt _ hp
  rw [hD a,hD b]
  simp only [compareBytes,UInt8.lt_iff_toNat_lt,da,db]
  rcases Nat.lt_trichotomy (a / 10 ^ k) (b / 10 ^ k) with h|h|h
  ·rw [if_pos (by omega)]
   have:=Nat.mul_le_mul_left (10 ^ k) (show a / 10 ^ k+1≤b / 10 ^ k from h)
   rw [Nat.mul_succ] at this
   rw [if_pos (by omega)]
  ·rw [if_neg (by omega),if_neg (by omega),ih]
   rw [h] at ea
   have e1:(a % 10 ^ k<b % 10 ^ k)=(a<b):=propext (by omega)
   have e2:(b % 10 ^ k<a % 10 ^ k)=(b<a):=propext (by omega)
   simp only [e1,e2]
  ·have:=Nat.mul_le_mul_left (10 ^ k) (show b / 10 ^ k+1≤a / 10 ^ k from h)
   rw [Nat.mul_succ] at this
   rw [if_neg (by omega),if_pos (by omega),if_neg (by omega),if_pos (by omega)]
theorem Qv {a b:Nat} (h:nDigits a<nDigits b):a<b:=by
 have h1:=lt_pow_nDigits a
 have hb0:b≠0:=fun e=>by
  have e0:nDigits 0=1:=nDigits_small (by decide)
  rw [e,e0] at h;have:=nDigits_pos a;omega
 have h2:=FU b hb0
 have:10 ^ nDigits a≤10 ^ (nDigits b-1):=Nat.pow_le_pow_right (by decide) (by omega)
 omega
theorem yK (a n k:Nat):(a ^ (n / 2 ^ (k+1)))*(a ^ (n / 2 ^ (k+1)))*(if n / 2 ^ k % 2=1 then a else 1)=a ^ (n / 2 ^ k):=by
 have h:n / 2 ^ (k+1)=n / 2 ^ k / 2:=by rw [Nat.pow_succ,Nat.div_div_eq_div_mul]
 rw [h,← Nat.pow_add]
 generalize n / 2 ^ k=m
 split
 ·rw [← Nat.pow_succ];congr 1;omega
 ·rw [Nat.mul_one];congr 1;omega
end Go.Num
namespace Go.Proofs.YtdabojnmoejilaaGreatDoor
open Go Go.Proofs Go.Shelf Go.RowKit Go.Sort Go.Lib
theorem Xq (u:Nat) (hu64:u<18446744073709551616) (w:World) (htab:Lib.TabIs Tryz.prog w "internal/strconv.uint64pow10" .u64 Lib.pow10Tab) :
 Calls Tryz.prog 138 #[.int .u64 u,.int .i64 10] w fun e w'=>e=.returned (.string ⟨(Lib.decDigits u).toArray⟩)∧Below w.heap.size w w':=by
 by_cases hs:u<100
 ·have hw:IntKind.i64.wrap (u:Int)=(u:Int):=by rw [IntKind.wrap_i64];omega
  go_enter Tryz.func138,Tryz.ntmps138
  go_wp2_with (go_at_call 145;refine (Tryz.internal_strconv_small u hs _).mono ?_;rintro e w' ⟨rfl,rfl⟩)
  go_ret
  exact ⟨rfl,Below.refl _ _⟩
 ·have hu1:1≤u:=by omega
  have hnd20:Lib.nDigits u≤20:=by have:=Lib.numDigits_eq u hu1 hu64;split at this<;>omega
  have hal:Tryz.prog.arrayLen 246=24:=by kernel_rfl
  have hsl:∀ W,(Instr.sliceAt 246 (.pointer (some ⟨w.heap.size,0,none⟩)) none (some (.int .i64 (Lib.nDigits u:Int))) none).run Tryz.prog W=.ok (.slice (some ⟨w.heap.size,0,none⟩) (Lib.nDigits u) 24) W:=fun W=>by
   rw [run_sliceAt_array_h W 246 ⟨w.heap.size,0,none⟩ (by simp [Program.arrayLen,Program.elem,Tryz.underlying246]) .i64 (Lib.nDigits u:Int) (by omega) (by rw [hal];omega)]
   go_simp
  have hH0:=Lib.holds_zero0 w 246 (Lib.nDigits u) (by omega)
  have hfmt:=Tryz.internal_strconv_formatBase10 w.heap.size 0 24 u (Array.replicate (Lib.nDigits u) 0) (w.alloc (.cells Lib.zeros24 246)) hH0 (by rw [Array.size_replicate];exact Lib.lt_pow_nDigits u) hu64 (by rw [Array.size_replicate];omega)
  rw [Array.size_replicate] at hfmt
  have HH0:=Lib.hid hH0
  clear hH0 hal
  go_enter Tryz.func138,Tryz.ntmps138
  go_wp2_with (go_at_call 146;refine (Tryz.internal_strconv_numDigits u hu1 hu64 _ (Lib.tabIs_alloc htab _)).mono ?_;rintro e w' ⟨rfl,rfl⟩)
  go_at_call 147
  refine hfmt.mono ?_
  rintro e w' ⟨rfl,k,v',dk,rfl,hF⟩
  have hcv:(convert 129 9 (.slice (some ⟨w.heap.size,0,none⟩) (Lib.nDigits u) 24)).run Tryz.prog ((putRow (fun (b:UInt8)=>Value.int .u8 (b.toNat:Int)) (w.alloc (.cells Lib.zeros24 246)) w.heap.size 0 dk).drewN k)=.ok (.string ⟨(Lib.decDigits u).toArray⟩) ((putRow (fun (b:UInt8)=>Value.int .u8 (b.toNat:Int)) (w.alloc (.cells Lib.zeros24 246)) w.heap.size 0 dk).drewN k):=by
   have h:=run_convert_bytes_back (P:=Tryz.prog) ((putRow (fun (b:UInt8)=>Value.int .u8 (b.toNat:Int)) (w.alloc (.cells Lib.zeros24 246)) w.heap.size 0 dk).drewN k) 129 9 5 ⟨w.heap.size,0,none⟩ 24 (Lib.decDigits u) Tryz.underlying129 Tryz.underlying5 Tryz.underlying9 (fun j hj=>by
    rw [Lib.row_is_numeral hF j hj,Lib.add_plain,World.cell?_drewN]
    exact cell?_putRow (fun (b:UInt8)=>Value.int .u8 (b.toNat:Int)) _ w.heap.size 0 _ dk HH0.out (by rw [hF.size,Array.size_replicate]) j (by rw [hF.size];rw [Lib.decDigits_length] at hj;exact hj))
   rw [Lib.decDigits_length] at h
   exact h
  go_wp2
  go_ret
  obtain ⟨os,eo⟩:=Lib.fin_at w (.cells Lib.zeros24 246) dk k 0
  refine ⟨rfl,?_⟩
  rw [eo]
  exact Lib.below_grow _ w (Nat.le_refl _) _ _
theorem Xe (u:Nat) (hu64:u<18446744073709551616) (w:World) (htab:Lib.TabIs Tryz.prog w "internal/strconv.uint64pow10" .u64 Lib.pow10Tab) :
 Calls Tryz.prog 127 #[.int .u64 u,.int .i64 10] w fun e w'=>e=.returned (.string ⟨(Lib.decDigits u).toArray⟩)∧Below w.heap.size w w':=by
 go_enter Tryz.func127,Tryz.ntmps127
 go_wp2_with (go_at_call 138;refine (Xq u hu64 _ htab).mono ?_;rintro e w' ⟨rfl,hb⟩)
 go_ret
 exact ⟨rfl,hb⟩
theorem JJ (B b:Nat) (bs:List Value) (s:ByteArray) (w:World) (h:Lib.IsBuilderF 228 5 B b bs w) (hlen:bs.length+s.size≤140737488355328) (hBw:B≤w.heap.size) :
 Calls Tryz.prog 128 #[.pointer (some ⟨b,0,none⟩),.string s] w fun e w'=>e=.returned (.tuple #[.int .i64 s.size,.nilIface])∧(Lib.BuilderAtF 228 5 B b (.pointer (some ⟨b,0,none⟩)) (bs++Lib.strCells s) w'∧Below B w w'∧Lib.OthersKept 5 (some b) w w') :=
 Any.Builder_WriteString_k (P:=Tryz.prog) (ρ:=Tryz.lays105_ren) { Tryz.lays105 with } Tryz.Builder_Extra_105 B b bs s w h hlen hBw
end Go.Proofs.YtdabojnmoejilaaGreatDoor
namespace Go.Proofs.YtdabojnmoejilaaGreatDoor
open Go Go.Proofs Go.Shelf Go.RowKit
attribute [local go_sem] Oper.semAt_some
def KG {α:Type} (f:Nat→α) (k:Nat):List α:=(List.range k).map f
theorem J3 {α:Type} (f:Nat→α) (k:Nat):KG f (k+1)=KG f k++[f k]:=by simp [KG,List.range_succ]
theorem ZM {α:Type} (f:Nat→α) (k:Nat):(KG f k).length=k:=by simp [KG]
abbrev PL:Type:={ x:Nat×Nat // x.2<Num.B9 }
def Js (zs:List Nat) (j:Nat):PL:=⟨(zs.length-1-j,zs.getD (zs.length-1-j) 0 % Num.B9),Nat.mod_lt _ (by decide)⟩
theorem XK {n:Int} (h:-9223372036854775808≤n) (h2:n<9223372036854775808):IntKind.i64.wrap n=n:=by rw [IntKind.wrap_i64];omega
def Nk (n₀ Bs:Nat) (W W':World):Prop:=Below n₀ W W'∧W'.heap[Bs]?=W.heap[Bs]?
theorem Nk.refl (n₀ Bs:Nat) (W:World):Nk n₀ Bs W W:=⟨Below.refl _ _,rfl⟩
theorem Nk.trans {n₀ Bs:Nat} {A B C:World} (h:Nk n₀ Bs A B) (k:Nk n₀ Bs B C):Nk n₀ Bs A C:=⟨h.1.trans k.1,k.2.trans h.2⟩
theorem ZE (F:Fence) (n:Nat) (h8:F.fn 137) (hro:F.round=none) (hn:1≤n) (l Bs n₀ b off cap:Nat) (zs:List Nat) (hreach:zs.length*8≤140737488351232) (hlim:Num.Xi zs) (hb:b<n₀) (J Jx:List PL→World→Prop)
 (hY:∀ pre (x:PL) W,J pre W→pre.length<zs.length→YieldAt F (n-1) Tryz.prog l #[.int .i64 (x.1.1:Int),.int .u64 (x.1.2:Int)] W fun e W' =>
  (e=.returned (.bool true)∧J (pre++[x]) W'∧Nk n₀ Bs W W')∨(e=.returned (.bool false)∧Jx (pre++[x]) W'))
 (W:World) (hBs:W.cell? ⟨Bs,0,none⟩=some (.slice (some ⟨b,off,none⟩) zs.length cap)) (hc:∀ j,j<zs.length→W.cell? ⟨b,off+j,none⟩=some (.int .u64 (zs.getD j 0:Int))) (h0:J [] W) :
 CallsIn F n Tryz.prog 137 #[.func (.yield l) #[] #[],.pointer (some ⟨Bs,0,none⟩)] W fun e W'=>(∃ v,e=.returned v) ∧
  ((∃ ys,ys=KG (Js zs) zs.length∧J ys W')∨(∃ pre,(∃ k,k≤zs.length∧pre=KG (Js zs) k)∧Jx pre W')):=by
 have hget:∀ j,zs.getD j 0 % Num.B9=zs.getD j 0:=fun j=>Nat.mod_eq_of_lt (by rw [List.getD_eq_getElem?_getD];exact Num.ZO hlim j)
 obtain ⟨len,hlen⟩:∃ len,zs.length=len:=⟨_,rfl⟩
 rw [hlen] at hreach hY hBs hc ⊢
 have hw0:IntKind.i64.wrap ((len:Int)-1)=(len:Int)-1:=XK (by omega) (by omega)
 refine callsIn_of_wp Tryz.func137 rfl h8 ?_ hro
 simp only [Tryz.ntmps137,List.size_toArray,List.length_cons,List.length_nil,Nat.reduceAdd,Nat.reduceSub,Array.replicate_succ,Array.replicate_zero,List.push_toArray,List.append_toArray,List.nil_append,List.cons_append]
 gi_wp2
 gi_loopw [3] (fun i wr=>∃ k:Nat,k≤len∧i=.int .i64 ((len:Int)-1-k)∧J (KG (Js zs) k) wr∧Nk n₀ Bs W wr)
  (fun i _=>(intOf i+1).toNat)
 case atStart=>exact ⟨0,Nat.zero_le _,by simp,h0,Nk.refl _ _ _⟩
 case round =>
  obtain ⟨k,hk,rfl,hJs,hnx⟩:=hrel
  have hBx:wr.cell? ⟨Bs,0,none⟩=some (.slice (some ⟨b,off,none⟩) len cap):=(World.cell?_of_block (a:=⟨Bs,0,none⟩) hnx.2).trans hBs
  by_cases hlt:k<len
  ·have hge:(0:Int)≤(len:Int)-1-k:=by omega
   have hcx:wr.cell? ⟨b,off+(len-1-k),none⟩=some (.int .u64 ((Js zs k).1.2:Int)):=by
    have:=(hnx.1.cell (p:=⟨b,off+(len-1-k),none⟩) hb).trans (hc (len-1-k) (by omega))
    rw [this];unfold Js;simp only [hlen,hget]
   obtain ⟨fn,tmps,assign,body,hy,hR⟩:=hY _ (Js zs k) wr hJs (by rw [ZM];exact hlt)
   have e1:((Js zs k).1.1:Int)=(len:Int)-1-k:=by show ((zs.length-1-k:Nat):Int)=_;omega
   rw [e1] at hy
   have hi1:((len:Int)-1-k)<len:=by omega
   have hi2:((len:Int)-1-k).toNat=len-1-k:=by omega
   have hw1:IntKind.i64.wrap ((len:Int)-1-k-1)=(len:Int)-1-((k+1:Nat):Int):=by rw [XK (by omega) (by omega)];omega
   gi_wp2
   refine hR.mono ?_
   rintro e W3 (⟨rfl,hJ3,hk3⟩|⟨rfl,hJx3⟩)
   ·gi_wp2
    go_roundw
    case rel=>exact ⟨k+1,by omega,by first|rfl|simp [hw1]|(congr 1),by rw [J3];exact hJ3,hnx.trans hk3⟩
    case measure=>simp [intOf];omega
   ·gi_wp2
    refine bodyPost_ret (results_none rfl _ _ _) rfl ?_
    exact ⟨⟨_,rfl⟩,.inr ⟨_,⟨k+1,by omega,(J3 _ _).symm⟩,hJx3⟩⟩
  ·obtain rfl:k=len:=by omega
   have hneg:¬ ((0:Int)≤(k:Int)-1-k):=by omega
   gi_wp2
   go_end0
   exact ⟨⟨_,rfl⟩,by first|exact .inl hJs|exact .inl ⟨_,rfl,hJs⟩⟩
theorem eH (F:Fence) (n:Nat) (h6:F.fn 126) (hro:F.round=none) (a:Option Addr) (len cap:Nat) (w:World) :
 CallsIn F n Tryz.prog 126 #[.slice a len cap] w fun e w'=>e=.returned (.func (.func 137) #[] #[.pointer (some ⟨w.heap.size,0,none⟩)])∧w'=w.alloc (.cells #[.slice a len cap] 205):=by
 refine callsIn_of_wp Tryz.func126 rfl h6 ?_ hro
 simp only [Tryz.ntmps126,List.size_toArray,List.length_cons,List.length_nil,Nat.reduceAdd,Nat.reduceSub,Array.replicate_succ,Array.replicate_zero,List.push_toArray,List.append_toArray,List.nil_append,List.cons_append]
 gi_wp2
 go_ret
 exact ⟨rfl,rfl⟩
theorem jm (F:Fence) (n:Nat) (h8:F.fn 137) (hro:F.round=none) (hn:1≤n) (Bs n₀ b off cap:Nat) (zs:List Nat) (hreach:zs.length*8≤140737488351232) (hlim:Num.Xi zs) (hb:b<n₀) (w:World) (hBs:Bs<w.heap.size) (hn₀:n₀≤w.heap.size)
 (hcB:w.cell? ⟨Bs,0,none⟩=some (.slice (some ⟨b,off,none⟩) zs.length cap)) (hc:∀ j,j<zs.length→w.cell? ⟨b,off+j,none⟩=some (.int .u64 (zs.getD j 0:Int))) :
 SeqStopsK F n Tryz.prog 137 #[.pointer (some ⟨Bs,0,none⟩)] (fun x:PL=>#[Value.int .i64 (x.1.1:Int),Value.int .u64 (x.1.2:Int)]) (Nk n₀ Bs) (fun ys=>ys=KG (Js zs) zs.length)
  (fun pre=>∃ k,k≤zs.length∧pre=KG (Js zs) k) zs.length w:=fun l J Jx W hW _ _ hY h0 =>
 ZE F n h8 hro hn l Bs n₀ b off cap zs hreach hlim hb J Jx hY W ((hW.cell (p:=⟨Bs,0,none⟩) hBs).trans hcB) (fun j hj=>(hW.cell (p:=⟨b,off+j,none⟩) (by show b<w.heap.size;omega)).trans (hc j hj)) h0
end Go.Proofs.YtdabojnmoejilaaGreatDoor
namespace Go.Proofs.YtdabojnmoejilaaGreatDoor
open Go Go.Proofs Go.Shelf Go.RowKit
attribute [local go_sem] Oper.semAt_some
def Oe (len:Nat) (x:PL):List UInt8:=if (x.1.1:Int)<(len:Int)-1 then Lib.repeatL [48] (9-Lib.nDigits x.1.2)++Lib.decDigits x.1.2 else Lib.decDigits x.1.2
def Pv (len:Nat) (pre:List PL):List UInt8:=pre.flatMap (Oe len)
theorem Ll (len:Nat) (pre:List PL) (x:PL):Pv len (pre++[x])=Pv len pre++Oe len x:=by simp [Pv]
theorem Ux (n:Nat):(Lib.repeatL [48] n).length=n:=by
 induction n with
 |zero=>simp [Lib.repeatL]
 |succ n ih=>simp_all [Lib.repeatL]
theorem gX (len:Nat) (x:PL):(Oe len x).length≤9:=by
 have:=Num.NG x.2
 unfold Oe
 split
 ·rw [List.length_append,Ux,Lib.decDigits_length];omega
 ·rw [Lib.decDigits_length];omega
theorem rW (len:Nat) (pre:List PL):(Pv len pre).length≤9*pre.length:=by
 induction pre with
 |nil=>simp [Pv]
 |cons x pre ih =>
  have:=gX len x
  simp only [Pv,List.flatMap_cons,List.length_append,List.length_cons] at ih ⊢
  omega
def P7 (N:Nat) (sv:Value) (bs:List UInt8) (W:World):Prop :=
 Lib.IsBuilderF 228 5 (N+1) (N+1) (Lib.byteCells bs) W∧W.heap[N]?=some (.cells #[sv] 205 (0,0))∧W.heap[N+2]?=some (.cells #[sv] 205 (0,0))
theorem JM {T e:TypeId} {B b:Nat} {p:Value} {bs:List Value} {w w':World} (h:Lib.BuilderAtF T e B b p bs w) (hk:∀ (k:Nat) (o:Obj),w.heap[k]?=some o→o.isCells=true→w'.heap[k]?=some o):Lib.BuilderAtF T e B b p bs w':=by
 obtain ⟨hB,v,hb,hown,hne⟩:=h
 refine ⟨hB,v,hk _ _ hb rfl,⟨hown.1,?_⟩,hne⟩
 rcases hown.2 with h0|⟨g,cap,cur,fz,hv,hbg,hg,r⟩
 ·exact .inl h0
 ·exact .inr ⟨g,cap,cur,fz,hv,hbg,hk _ _ hg rfl,r⟩
theorem JQ {T e:TypeId} {B b:Nat} {bs:List Value} {w w':World} (h:Lib.IsBuilderF T e B b bs w) (hk:∀ (k:Nat) (o:Obj),w.heap[k]?=some o→o.isCells=true→w'.heap[k]?=some o):Lib.IsBuilderF T e B b bs w' :=
 h.elim (fun x=>.inl (JM x hk)) (fun x=>.inr (JM x hk))
theorem jD {β:Type} (N:Nat) (sv:Value) (f:β→List UInt8):Own (fun (pre:β) W=>P7 N sv (f pre) W):=fun s W W' row hs hg hr=>by
 have hk:∀ (k:Nat) (o:Obj),W.heap[k]?=some o→o.isCells=true→W'.heap[k]?=some o:=fun k o ho hc=>(grownBy_keeps_cells hg hr ho hc).trans ho
 exact ⟨JQ hs.1 hk,hk _ _ hs.2.1 rfl,hk _ _ hs.2.2 rfl⟩
theorem NM {W W':World} (h:Below W.heap.size W W') (B:Nat):KeepsFrom B W W':=⟨h.size,fun k o _ hk _=>(h.block k (by
 rcases Nat.lt_or_ge k W.heap.size with h1|h1
 ·exact h1
 ·rw [Array.getElem?_eq_none h1] at hk;cases hk)).trans hk⟩
theorem lt_of_heap {W:World} {k:Nat} {o:Obj} (h:W.heap[k]?=some o):k<W.heap.size:=by
 rcases Nat.lt_or_ge k W.heap.size with h1|h1
 ·exact h1
 ·rw [Array.getElem?_eq_none h1] at h;cases h
theorem QT {N:Nat} {sv:Value} {bs:List UInt8} {W W':World} (h:P7 N sv bs W) (hb:Below W.heap.size W W'):P7 N sv bs W':=by
 have hk:∀ (k:Nat) (o:Obj),W.heap[k]?=some o→o.isCells=true→W'.heap[k]?=some o:=fun k o ho _=>(hb.block k (lt_of_heap ho)).trans ho
 exact ⟨JQ h.1 hk,hk _ _ h.2.1 rfl,hk _ _ h.2.2 rfl⟩
theorem NQ {n₀ Bs:Nat} {W W':World} (h:Below W.heap.size W W') (hn:n₀≤W.heap.size) (hB:Bs<W.heap.size):Nk n₀ Bs W W':=⟨h.mono hn,h.block Bs hB⟩
theorem MX {N:Nat} {sv:Value} {bs:List UInt8} {s:ByteArray} {W W':World} (h:P7 N sv bs W) (h1:Lib.BuilderAtF 228 5 (N+1) (N+1) (.pointer (some ⟨N+1,0,none⟩)) (Lib.byteCells bs++Lib.strCells s) W') (h2:Below (N+1) W W') (h3:Lib.OthersKept 5 (some (N+1)) W W') :
 P7 N sv (bs++s.data.toList) W'∧KeepsFrom (N+3) W W'∧Nk N (N+2) W W':=by
 have hb:∃ c t f,W.heap[N+1]?=some (.cells c t f):=by
  rcases h.1 with ⟨_,v,hb,_⟩|⟨_,v,hb,_⟩<;>exact ⟨_,_,_,hb⟩
 have k2:W'.heap[N+2]?=some (.cells #[sv] 205 (0,0)):=h3 _ _ h.2.2 (by simp) (fun c fz e=>by
  have:=(Obj.cells.inj e).2.1
  exact absurd this (by decide))
 refine ⟨⟨.inr ?_,?_,k2⟩,⟨h2.size,fun k o _ hk ho=>h3 k o hk (fun e=>?_) (fun c fz e=>by rw [e] at ho;cases ho)⟩,⟨h2.mono (by omega),by rw [k2,h.2.2]⟩⟩
 ·have e:Lib.byteCells bs++Lib.strCells s=Lib.byteCells (bs++s.data.toList):=by simp [Lib.byteCells,Lib.strCells]
  rw [← e];exact h1
 ·rw [h2.block N (by omega)];exact h.2.1
 ·cases e
  obtain ⟨c,t,f,hc⟩:=hb
  rw [hc] at hk;cases hk;cases ho
theorem tab_below {P:Program} {w w':World} {name:String} {k:IntKind} {zs:List Int} (h:Lib.TabIs P w name k zs) (hb:Below w.heap.size w w'):Lib.TabIs P w' name k zs:=(Lib.tabBelow_of_tabIs h) w' hb
theorem jB (n:Nat):Lib.repeatL [48] n=List.replicate n 48:=by
 induction n with
 |zero=>rfl
 |succ n ih=>simp [Lib.repeatL,ih,List.replicate_succ]
theorem Vh (zs:List Nat) (hl:Num.Xi zs) (j:Nat) (hj:j<zs.length):Oe zs.length (Js zs j)=if 0<j then Num.D 9 (zs.getD (zs.length-1-j) 0) else Lib.decDigits (zs.getD (zs.length-1-j) 0):=by
 have hb:zs.getD (zs.length-1-j) 0<Num.B9:=by rw [List.getD_eq_getElem?_getD];exact Num.ZO hl _
 have e2:(Js zs j).1.2=zs.getD (zs.length-1-j) 0:=Nat.mod_eq_of_lt hb
 have e1:(Js zs j).1.1=zs.length-1-j:=rfl
 unfold Oe
 rw [e1,e2]
 by_cases h:0<j
 ·rw [if_pos (by omega),if_pos h,jB,Num.pad 9 _ (Num.NG hb)]
 ·rw [if_neg (by omega),if_neg h]
theorem dF:∀ (zs:List Nat),Num.Xi zs→zs≠[]→Pv zs.length (KG (Js zs) zs.length)=Num.Na zs
 |[],_,h=>absurd rfl h
 |a::t,hl,_=>by
  have hlt:Num.Xi t:=fun x hx=>hl x (by simp [hx])
  have hrec:∀ k,k≤t.length→Pv (a::t).length (KG (Js (a::t)) k)=Pv t.length (KG (Js t) k):=by
   intro k
   induction k with
   |zero=>intro _;rfl
   |succ k ih =>
    intro hk
    rw [J3,J3,Ll,Ll,ih (by omega),Vh _ hl k (by simp;omega),Vh t hlt k (by omega)]
    have:(a::t).length-1-k=(t.length-1-k)+1:=by simp;omega
    rw [this]
    simp only [List.getD_cons_succ]
  show Pv (a::t).length (KG (Js (a::t)) (t.length+1))=_
  rw [J3,Ll,hrec t.length (Nat.le_refl _),Vh _ hl t.length (by simp)]
  have e0:(a::t).length-1-t.length=0:=by simp
  rw [e0,List.getD_cons_zero]
  cases t with
  |nil=>rfl
  |cons b t =>
   rw [dF (b::t) hlt (by simp),if_pos (by simp)]
   exact (Num.VK (by simp)).symm
theorem y8 (b off cap:Nat) (zs:List Nat) (hlim:Num.Xi zs) (h0:zs≠[]) (hreach:zs.length*9≤140737488351232) (w:World) (hb:b<w.heap.size) (hc:∀ j,j<zs.length→w.cell? ⟨b,off+j,none⟩=some (.int .u64 (zs.getD j 0:Int)))
 (htab:Lib.TabIs Tryz.prog w "internal/strconv.uint64pow10" .u64 Lib.pow10Tab) :
 Calls Tryz.prog 111 #[.slice (some ⟨b,off,none⟩) zs.length cap] w fun e w'=>e=.returned (.string ⟨(Num.Na zs).toArray⟩)∧Below w.heap.size w w':=by
 have hpos:0<zs.length:=List.length_pos_iff.2 h0
 have hne0:¬ ((zs.length:Int)=0):=by omega
 have hall:=dF zs hlim h0
 obtain ⟨len,hlen⟩:∃ len,zs.length=len:=⟨_,rfl⟩
 rw [hlen] at hne0 hall
 refine (callsIn_wide (n:=6)).1 ?_
 refine callsIn_of_wp_marks Tryz.func111 rfl trivial ?_ rfl
 simp only [Tryz.ntmps111,List.size_toArray,List.length_cons,List.length_nil,Nat.reduceAdd,Nat.reduceSub,Array.replicate_succ,Array.replicate_zero,List.push_toArray,List.append_toArray,List.nil_append,List.cons_append]
 rw [hlen]
 gi_wp2_with (refine ⟨trivial,?_⟩;gi_at_call 126;refine (eH Fence.wide _ trivial rfl _ _ _ _).mono ?_;rintro e w' ⟨rfl,rfl⟩)
 obtain ⟨W0,hW0⟩:∃ W0,((w.alloc (.cells #[.slice (some ⟨b,off,none⟩) len cap] 205)).alloc (.cells #[.pointer none,.slice none 0 0] 228)).alloc (.cells #[.slice (some ⟨b,off,none⟩) len cap] 205)=W0:=⟨_,rfl⟩
 have hB0:Below w.heap.size w W0:=by
  rw [← hW0]
  exact (((Below.refl _ w).alloc (Nat.le_refl _) _).alloc (by simp) _).alloc (by simp;omega) _
 have hs0:W0.heap.size=w.heap.size+3:=by rw [← hW0];simp
 have g0:W0.heap[w.heap.size]?=some (.cells #[.slice (some ⟨b,off,none⟩) len cap] 205 (0,0)):=by
  rw [← hW0];exact (Below.heap_alloc _ _ _ (by simp;omega)).trans ((Below.heap_alloc _ _ _ (by simp)).trans (World.alloc_heap_new w _))
 have g1:W0.heap[w.heap.size+1]?=some (.cells #[.pointer none,.slice none 0 0] 228 (0,0)):=by
  rw [← hW0];exact (Below.heap_alloc _ _ _ (by simp)).trans (by have:=World.alloc_heap_new (w.alloc (.cells #[.slice (some ⟨b,off,none⟩) len cap] 205)) (.cells #[.pointer none,.slice none 0 0] 228);rwa [World.size_alloc] at this)
 have g2:W0.heap[w.heap.size+2]?=some (.cells #[.slice (some ⟨b,off,none⟩) len cap] 205 (0,0)):=by
  rw [← hW0]
  have:=World.alloc_heap_new ((w.alloc (.cells #[.slice (some ⟨b,off,none⟩) len cap] 205)).alloc (.cells #[.pointer none,.slice none 0 0] 228)) (.cells #[.slice (some ⟨b,off,none⟩) len cap] 205)
  rwa [World.size_alloc,World.size_alloc] at this
 rw [hW0]
 have hI0:P7 w.heap.size (.slice (some ⟨b,off,none⟩) len cap) (Pv len []) W0 :=
  ⟨.inl ⟨Nat.le_refl _,_,g1,⟨rfl,.inl ⟨rfl,rfl⟩⟩,by simp [Value.ownBlock]⟩,g0,g2⟩
 have hcB:W0.cell? ⟨w.heap.size+2,0,none⟩=some (.slice (some ⟨b,off,none⟩) zs.length cap):=by rw [hlen];simp [World.cell?,g2]
 refine wpIn_rangeFunc_ownG rfl (by omega) (gf:=137) (lb:=#[.pointer (some ⟨w.heap.size+1+1,0,none⟩)]) rfl trivial (enters_of Tryz.func137 (by kernel_rfl) rfl)
  (jm Fence.wide _ trivial rfl (by omega) (w.heap.size+2) w.heap.size b off cap zs (by omega) hlim hb W0 (by omega) (by omega) hcB (fun j hj=>(hB0.cell (p:=⟨b,off+j,none⟩) hb).trans (hc j hj)))
  (fun h k=>h.trans k) (fun W l o o' hl _ _ _=>⟨⟨rfl,rfl,rfl,by simp,fun k hk=>World.putObj_heap_other (by omega)⟩,World.putObj_heap_other (by omega)⟩) (Below.refl _ _) (fun _=>rfl)
  (fun pre W=>P7 w.heap.size (.slice (some ⟨b,off,none⟩) len cap) (Pv len pre) W∧Below w.heap.size w W)
  (fun _ _ _=>False)
  (OwnFrom.and (Own.from (jD w.heap.size _ (fun pre=>Pv len pre)) _) (ownFrom_below (Nat.le_refl _) (by omega)))
  (fun _ _ _ _ _ hs _ _=>hs)
  ⟨hI0,hB0⟩
  (fun x=>{ tmps:=#[.slice (some ⟨b,off,none⟩) len cap,.pointer (some ⟨w.heap.size,0,none⟩),.string ⟨#[]⟩,.pointer (some ⟨w.heap.size+1,0,none⟩),.int .i64 (x.1.1:Int),.int .u64 (x.1.2:Int),undef,.slice (some ⟨b,off,none⟩) len cap,.int .i64 len,.bool false,
   .slice (some ⟨b,off,none⟩) len cap,.func (.func 137) #[] #[.pointer (some ⟨w.heap.size+1+1,0,none⟩)],.int .i64 (x.1.1:Int),.int .u64 (x.1.2:Int),undef,undef,undef,undef,undef,undef,undef,undef,undef,undef,undef,undef,undef,undef,undef],defers:=[] }) ?assign ?body ?done ?stop
 case assign =>
  intro l x W K hK
  gi_wp2
  exact hK
 case body =>
  rintro l pre x W ⟨hT,hB⟩ hlt
  have a8g:x.1.2<18446744073709551616:=Nat.lt_trans x.2 (by decide)
  have hd9:=Num.NG x.2
  have hsz:(ByteArray.mk (Lib.decDigits x.1.2).toArray).size=Lib.nDigits x.1.2:=by simp [ByteArray.size,Lib.decDigits_length]
  have hwl:IntKind.i64.wrap ((len:Int)-1)=(len:Int)-1:=XK (by omega) (by omega)
  have hw9:IntKind.i64.wrap (9-(Lib.nDigits x.1.2:Int))=((9-Lib.nDigits x.1.2:Nat):Int):=by rw [XK (by omega) (by omega)];omega
  have a6y:Lib.TabIs Tryz.prog W "internal/strconv.uint64pow10" .u64 Lib.pow10Tab:=tab_below htab hB
  have hal:=rW len pre
  have hcl:(Lib.byteCells (Pv len pre)).length≤9*pre.length:=by rw [Lib.byteCells_length];exact hal
  gi_wp2_with (refine ⟨trivial,?_⟩;gi_at_call 127;refine (CallsIn.inRound l (callsIn_wide.2 (Xe x.1.2 a8g _ a6y))).mono ?_;rintro e W1 ⟨rfl,hb1⟩;have hT1:=QT hT hb1;have c1:W1.cell? ⟨w.heap.size,0,none⟩=some (.slice (some ⟨b,off,none⟩) len cap):=by simp [World.cell?,hT1.2.1])
  ·have hx:(x.1.1:Int)<(len:Int)-1:=by assumption
   refine ⟨trivial,(CallsIn.inRound l (callsIn_wide.2 (Tryz.strings_Repeat ⟨#[48]⟩ (9-Lib.nDigits x.1.2) W1 (by omega) (by
    have e1:(ByteArray.mk #[48]).size=1:=rfl
    rw [e1];omega)))).mono ?_⟩
   rintro e W2 ⟨rfl,hb2⟩
   have hT2:=QT hT1 hb2
   have l2:=lt_of_heap hT2.2.2
   have hr1:(ByteArray.mk (Lib.repeatL [48] (9-Lib.nDigits x.1.2)).toArray).size=9-Lib.nDigits x.1.2:=by simp [ByteArray.size,Ux]
   gi_wp2_with fail
   refine ⟨trivial,(CallsIn.inRound l (callsIn_wide.2 (JJ (w.heap.size+1) (w.heap.size+1) _ ⟨(Lib.repeatL [48] (9-Lib.nDigits x.1.2)).toArray⟩ W2 hT2.1 (by rw [hr1];omega) (by omega)))).mono ?_⟩
   rintro e W3 ⟨rfl,h31,h32,h33⟩
   obtain ⟨hT3,kf3,kb3⟩:=MX hT2 h31 h32 h33
   have l3:=lt_of_heap hT3.2.2
   have hl3:(Lib.byteCells (Pv len pre++(ByteArray.mk (Lib.repeatL [48] (9-Lib.nDigits x.1.2)).toArray).data.toList)).length≤9*pre.length+(9-Lib.nDigits x.1.2):=by
    rw [Lib.byteCells_length,List.length_append]
    have:(ByteArray.mk (Lib.repeatL [48] (9-Lib.nDigits x.1.2)).toArray).data.toList.length=9-Lib.nDigits x.1.2:=hr1
    omega
   gi_wp2_with fail
   refine ⟨trivial,(CallsIn.inRound l (callsIn_wide.2 (JJ (w.heap.size+1) (w.heap.size+1) _ ⟨(Lib.decDigits x.1.2).toArray⟩ W3 hT3.1 (by rw [hsz];omega) (by omega)))).mono ?_⟩
   rintro e W4 ⟨rfl,h41,h42,h43⟩
   obtain ⟨hT4,kf4,kb4⟩:=MX hT3 h41 h42 h43
   gi_wp2
   have hpc:Oe len x=Lib.repeatL [48] (9-Lib.nDigits x.1.2)++Lib.decDigits x.1.2:=if_pos hx
   have hbs:=hB.size
   have b1t:=hb1.size
   refine ⟨by rw [hs0];exact (NM hb1 _).trans ((NM hb2 _).trans (kf3.trans kf4)),(NQ hb1 hbs (lt_of_heap hT.2.2)).trans ((NQ hb2 (by omega) (lt_of_heap hT1.2.2)).trans (kb3.trans kb4)),?_,
    hB.trans ((hb1.mono hbs).trans ((hb2.mono (by omega)).trans (kb3.1.trans kb4.1)))⟩
   rw [Ll,hpc,← List.append_assoc]
   simpa using hT4
  ·have hx:¬ (x.1.1:Int)<(len:Int)-1:=by omega
   have l1:=lt_of_heap hT1.2.2
   refine ⟨trivial,(CallsIn.inRound l (callsIn_wide.2 (JJ (w.heap.size+1) (w.heap.size+1) _ ⟨(Lib.decDigits x.1.2).toArray⟩ W1 hT1.1 (by rw [hsz];omega) (by omega)))).mono ?_⟩
   rintro e W4 ⟨rfl,h41,h42,h43⟩
   obtain ⟨hT4,kf4,kb4⟩:=MX hT1 h41 h42 h43
   gi_wp2
   have hpc:Oe len x=Lib.decDigits x.1.2:=if_neg (by omega)
   have hbs:=hB.size
   refine ⟨by rw [hs0];exact (NM hb1 _).trans kf4,(NQ hb1 hbs (lt_of_heap hT.2.2)).trans kb4,?_,hB.trans ((hb1.mono hbs).trans kb4.1)⟩
   rw [Ll,hpc]
   simpa using hT4
 case done =>
  rintro D ys W hD rfl ⟨hT,hB⟩ hK
  have l1:=lt_of_heap hT.2.2
  rw [hlen,hall] at hT
  gi_wp2_with fail
  refine ⟨trivial,(callsIn_wide.2 (Tryz.Builder_String_any_k (w.heap.size+1) (w.heap.size+1) (Num.Na zs) W hT.1 (by omega))).mono ?_⟩
  rintro e W1 ⟨rfl,h1,h2,h3⟩
  gi_wp2
  have hK1:W1.heap[D]?=some (.deferred (some [])):=h3 D _ hK (by simp;omega) (fun c fz e=>by cases e)
  refine ⟨by simp,.inl ⟨_,_,rfl,run_takeDeferred hK1,?_⟩⟩
  exact ⟨_,results_tmp rfl _ _ _,rfl,(hB.trans (h2.mono (by omega))).trans (belowK_b (w:=w) (Nat.le_refl _) W1 D _ _ (by omega) hK1 rfl rfl)⟩
 case stop =>
  rintro D c pre W _ _ h _
  exact h.elim
end Go.Proofs.YtdabojnmoejilaaGreatDoor
namespace Go.Proofs.YtdabojnmoejilaaGreatDoor
open Go Go.Am Go.Vm
def mO:Vk:=fun xs _=>match xs with
 |[.int .i64 n]=>if -9223372036854775808≤n∧n≤9223372036854775807 then some (.string (bs (Lib.itoa n))) else none
 |_=>none
def Rl:Vk:=fun xs _=>match xs with
 |[.string a,.string b]=>some (.int .i64 (Lib.compareBytes a.data.toList b.data.toList))
 |_=>none
def RX:List Value→Option (List Nat)
 |[]=>some []
 | .int .u64 n::l=>if 0≤n∧n<1000000000 then (RX l).map (n.toNat::·) else none
 |_::_=>none
def textF:Vk:=fun xs m=>match xs with
 |[.slice a n g]=>match Cj m 1 n (.slice a n g) with
  |some l=>match RX l with
   |some zs=>if n*9≤140737488351232 then some (.string (bs (Num.Na zs))) else none
   |none=>none
  |none=>none
 |_=>none
theorem WB:∀ {l:List Value} {zs:List Nat},RX l=some zs→l=zs.map (fun (n:Nat)=>Value.int .u64 (n:Int))∧Num.Xi zs
 |[],_,h=>by cases h;exact ⟨rfl,fun a ha=>by cases ha⟩
 |v::l,zs,h=>by
  unfold RX at h
  split at h
  ·rename_i he;cases he
  ·rename_i n l' he
   cases he
   split at h
   ·rename_i hn
    rw [Option.map_eq_some_iff] at h
    obtain ⟨zs',h1,rfl⟩:=h
    obtain ⟨h2,h3⟩:=WB h1
    refine ⟨?_,fun a ha=>?_⟩
    ·rw [h2,List.map_cons];congr 2;omega
    ·rcases List.mem_cons.1 ha with rfl|ha
     ·simp only [Num.B9];omega
     ·exact h3 a ha
   ·cases h
  ·cases h
theorem Uy:∀ {zs:List Nat},Num.Xi zs→RX (zs.map fun (n:Nat)=>Value.int .u64 (n:Int))=some zs
 |[],_=>rfl
 |n::zs,h=>by
  have hn:n<1000000000:=h n (by simp)
  simp only [List.map_cons,RX]
  rw [if_pos ⟨by omega,by omega⟩,Uy (fun a ha=>h a (by simp [ha]))]
  simp
theorem lK {P:Program} {F:Nat} {laid:List (String×DataW Unit)} {ι:Cc} {m:Mem} {w:World} (hs:Em P (BP P F laid) ι m w) (hg:∀ k∈BP P F laid,m.get k=(CY P F laid).get k) {name:String} {g:Nat} {e:TypeId} {k:IntKind} {zs:List Int}
 (hn:P.globalNamed name=some g) (hat:Gv P F laid g=some (e,zs.map fun z=>Value.int k z)) (hlt:g<P.globals.size):Lib.TabIs P w name k zs:=by
 have hm:g∈BP P F laid:=by
  simp only [BP,List.mem_filter,List.mem_range]
  exact ⟨hlt,by rw [hat];rfl⟩
 obtain ⟨ib,h1,h2,⟨h3,h6⟩,h4,h5⟩:=hs.glob g hm
 have hmg:m.get g=.cells (zs.map fun z=>Value.int k z) e 0 true:=by rw [hg g hm,Ji hlt,hat]
 obtain ⟨cs,fr,e',hrow,hlim,_,hrel,_⟩:=Ky hs h1 hmg
 have hl:=h6 _ _ _ _ hmg
 rw [List.length_map] at hl
 rw [h2] at hrow
 have hcs:cs=(zs.map fun z=>Value.int k z).toArray:=by
  apply Array.ext
  ·rw [← hlim,hl];simp
  ·intro i hi1 hi2
   have hi:i<(zs.map fun z=>Value.int k z).length:=by simpa using hi2
   obtain ⟨v',q1,q2⟩:=hrel i hi
   rw [h3,Nat.zero_add,Array.getElem?_eq_getElem hi1] at q1
   cases q1
   rw [getD_lt hi] at q2
   have hp:plain ((zs.map fun z=>Value.int k z)[i])=true:=by rw [List.getElem_map];rfl
   rw [q2.CB hp]
   simp
 unfold Lib.TabIs World.var?
 simp only [hn,Option.bind_some,hrow,hcs]
theorem BO.one {ι:Cc} {g:Nat→Nat} {v:Value} {ys:Array Value} (h:BO ι g [v] ys.toList):∃ v',ys=#[v']∧Bh ι g v v':=by
 obtain ⟨v',k',e,h1,h2⟩:=h.LW
 have:k'=[]:=List.eq_nil_of_length_eq_zero h2.1.symm
 subst this
 exact ⟨v',by cases ys;simp_all,h1⟩
theorem BO.two {ι:Cc} {g:Nat→Nat} {u v:Value} {ys:Array Value} (h:BO ι g [u,v] ys.toList):∃ u' v',ys=#[u',v']∧Bh ι g u u'∧Bh ι g v v':=by
 obtain ⟨u',k',e,h1,h2⟩:=h.LW
 obtain ⟨v',k'',e',h3,h4⟩:=h2.LW
 have:k''=[]:=List.eq_nil_of_length_eq_zero h4.1.symm
 subst this;subst e'
 exact ⟨u',v',by cases ys;simp_all,h1,h3⟩
theorem jM {w:World} {k:Nat} {os:Array Obj}:Go.RowKit.Below w.heap.size w (Go.Sort.grow (w.drewN k) os):=Lib.below_grow _ w (Nat.le_refl _) k os
theorem qx (a:Option Addr) (cap:Nat) (w:World):Calls Tryz.prog 111 #[.slice a 0 cap] w fun e w'=>e=.returned (.string ⟨#[48]⟩)∧Go.RowKit.Below w.heap.size w w':=by
 go_enter Tryz.func111,Tryz.ntmps111
 go_wp2
 go_ret
 exact ⟨rfl,(Go.RowKit.Below.refl _ w).alloc (Nat.le_refl _) _⟩
section
variable {F:Nat} {laid:List (String×DataW Unit)}
structure jk (F:Nat) (laid:List (String×DataW Unit)):Prop where
 tab:∃ g e,Tryz.prog.globalNamed "internal/strconv.uint64pow10"=some g∧Gv Tryz.prog F laid g=some (e,Lib.pow10Tab.map fun z=>Value.int .u64 z)∧g<Tryz.prog.globals.size
theorem kF (ht:jk F laid) (he:Am.Enters Tryz.prog 114):Qr Tryz.prog (BP Tryz.prog F laid) (CY Tryz.prog F laid) 114 mO:=by
 refine ⟨fun _ _ _=>rfl,he,fun ι m w xs ys v hs hg hl h=>?_⟩
 obtain ⟨g,e,t1,t2,t3⟩:=ht.tab
 have htab:=lK hs hg t1 t2 t3
 unfold mO at h
 split at h
 ·rename_i n
  split at h
  ·rename_i hn
   cases h
   obtain ⟨v',rfl,hv⟩:=BO.one hl
   have:v'=.int .i64 n:=by cases hv;rfl
   subst this
   refine ⟨rfl,(Tryz.strconv_Itoa n hn.1 hn.2 w htab).mono ?_⟩
   rintro e w' ⟨rfl,k,os,rfl⟩
   exact ⟨rfl,jM⟩
  ·cases h
 ·cases h
theorem XG (he:Am.Enters Tryz.prog 118):Qr Tryz.prog (BP Tryz.prog F laid) (CY Tryz.prog F laid) 118 Rl:=by
 refine ⟨fun _ _ _=>rfl,he,fun ι m w xs ys v hs hg hl h=>?_⟩
 unfold Rl at h
 split at h
 ·rename_i a b
  cases h
  obtain ⟨u',v',rfl,h1,h2⟩:=BO.two hl
  have e1:u'=.string a:=by cases h1;rfl
  have e2:v'=.string b:=by cases h2;rfl
  subst e1;subst e2
  refine ⟨rfl,(Tryz.strings_Compare a b w).mono ?_⟩
  rintro e w' ⟨rfl,rfl⟩
  exact ⟨rfl,Go.RowKit.Below.refl _ _⟩
 ·cases h
theorem iM (ht:jk F laid) (he:Am.Enters Tryz.prog 111):Qr Tryz.prog (BP Tryz.prog F laid) (CY Tryz.prog F laid) 111 textF:=by
 refine ⟨fun _ _ _=>rfl,he,fun ι m w xs ys v hs hg hl h=>?_⟩
 obtain ⟨g,e,t1,t2,t3⟩:=ht.tab
 have htab:=lK hs hg t1 t2 t3
 unfold textF at h
 split at h
 ·rename_i a n gen
  split at h
  ·rename_i l hl1
   split at h
   ·rename_i zs hzs
    split at h
    ·rename_i hb
     cases h
     obtain ⟨v',rfl,hv⟩:=BO.one hl
     obtain ⟨hmap,hlim⟩:=WB hzs
     obtain ⟨a',cap,rfl,hlen,hsp,hcell⟩:=Ti hs hv rfl (fun b e=>by cases e) hl1
     have hzl:zs.length=n:=by rw [← hlen,hmap,List.length_map]
     refine ⟨rfl,?_⟩
     rcases Nat.eq_zero_or_pos n with h0|h0
     ·subst h0
      have:zs=[]:=List.eq_nil_of_length_eq_zero hzl
      subst this
      have e0:bs (Num.Na [])=⟨#[48]⟩:=by
       show bs (Lib.decDigits 0)=_
       rw [Lib.decDigits_one (by decide)]
       rfl
      exact (qx a' cap w).mono fun e w' ⟨h1,h2⟩=>⟨by rw [e0];exact h1,h2⟩
     ·rcases hsp with ⟨_,h1⟩|⟨A,h1|h1⟩
      ·omega
      ·obtain ⟨rfl,hspot⟩:=h1
       obtain ⟨b,off,spot⟩:=A
       simp only at hspot
       subst hspot
       have hc:∀ j,j<zs.length→w.cell? ⟨b,off+j,none⟩=some (.int .u64 (zs.getD j 0:Int)):=fun j hj=>by
        have:=hcell _ rfl j (.int .u64 (zs.getD j 0:Int)) (by rw [hmap,List.getElem?_map,List.getElem?_eq_getElem hj];simp [List.getD,hj]) rfl
        rwa [addr_add] at this
       have hbl:b<w.heap.size:=by
        have:=hc 0 (by omega)
        unfold World.cell? at this
        rcases Nat.lt_or_ge b w.heap.size with h|h
        ·exact h
        ·simp [Array.getElem?_eq_none h] at this
       have ht:=y8 b off cap zs hlim (fun e=>by rw [e] at hzl;simp at hzl;omega) (by rw [hzl];exact hb) w hbl hc htab
       rw [hzl] at ht
       exact ht
      ·omega
    ·cases h
   ·cases h
  ·cases h
 ·cases h
end
theorem TD {m:Mem} {F:Nat→Prop}:∀ {l:List Nat} {vs:List Value},DT m F (cells l) vs→vs=l.map fun (n:Nat)=>Value.int .u64 (n:Int)
 |[],_,.nil=>rfl
 |c::l,_,.cons h t=>by
  cases h
  rw [TD t];rfl
theorem qg {m:Mem} {F:Nat→Prop} {e:TypeId} {l:List Nat} {xs:List Value} (hl:Num.Xi l) (hn:l.length<1000000000) (h:DT m F [.lst e (cells l) l.length] xs):∃ v,textF xs m=some v∧RF m F (.str (bs (Num.Na l))) v:=by
 cases h with
 |cons h t =>
  cases t
  obtain ⟨vs,h1,h2,h3⟩:=RF.cellsOf (sz:=1) h (by rw [BK];rfl)
  refine ⟨.string (bs (Num.Na l)),?_,.str _⟩
  have hvs:=TD h2
  subst hvs
  have hsl:∀ {v:Value},RF m F (.lst e (cells l) l.length) v→∃ a g,v=Value.slice a l.length g:=by
   intro v hv
   generalize l.length=n at hv
   generalize cells l=cs at hv
   cases hv with
   |nil=>exact ⟨_,_,rfl⟩
   |room=>exact ⟨_,_,rfl⟩
   |lst=>exact ⟨_,_,rfl⟩
  obtain ⟨a,g,rfl⟩:=hsl h
  unfold textF
  simp only [h1,Uy hl]
  rw [if_pos (by omega)]
end Go.Proofs.YtdabojnmoejilaaGreatDoor
namespace Go.Vm
open Go.Am
section
variable {P:Program}
noncomputable def Jv (P:Program) (F:Nat) (laid:List (String×DataW Unit)) (O:CJ):Env:=⟨P,O,BP P F laid,gam P F laid⟩
theorem WX {O:CJ} {F:Nat} {laid:List (String×DataW Unit)} {ls:List (FuncId×Vk)} {f:FuncId} {Fn:Vk} {xs:List FV} {r:FV} (hO:O f=YW (BP P F laid) (CY P F laid) ls f) (hf:ls.lookup f=some Fn)
 (h:∀ m F' CG,DT m F' xs CG→∃ v,Fn CG m=some v∧RF m F' r v):AX (Jv P F laid O) f xs (.p r):=by
 intro m F' σ CG h1 h2
 have h2':DT m F' xs CG:=DT.Ue h2
 obtain ⟨v,h3,h4⟩:=h m F' CG h2'
 have hg:∀ k∈BP P F laid,m.get k=(CY P F laid).get k:=fun k hk=>by
  obtain ⟨hlt,e,l,hgl⟩:=Rj hk
  have:=(h1.gl k l e (by simp only [Jv,gam,if_pos hlt,hgl,Option.map_some])).2.1
  rw [this,Ji hlt,hgl]
 refine Jm.gI (F:=fun CG m=>open Classical in if ∀ k∈BP P F laid,m.get k=(CY P F laid).get k then (Fn CG m).map fun v=>(v,m) else none) (m':=m) (v:=v) (by simp only [Jv,hO,YW,hf]) ?_
  ⟨_,_,_,F',σ,⟨rfl,rfl,rfl⟩,h1,.p h4,Step.refl _ _ _ _ _⟩
 rw [if_pos hg,h3];rfl
variable {H:Type} {enc:TypeId×Value→H} {W:World} {held:Bool}
def Wv (e:TypeId) (xs:List Value) (m:Mem):Option (Value×Mem):=match xs with
 |[.slice none 0 0,.int .i64 n]=>if 0<n∧n≤1000000 then some (BL m e [] 0) else none
 |_=>none
def mM (fg:FuncId) (e:TypeId) (O:CJ):CJ:=fun f=>if f=fg then some (Wv e) else O f
theorem aH {fg f:FuncId} {e:TypeId} {O:CJ} (h:f≠fg):mM fg e O f=O f:=if_neg h
theorem bD {fg:FuncId} {e:TypeId} {O:CJ}:mM fg e O fg=some (Wv e):=if_pos rfl
theorem Wh {e:TypeId} {xs:List Value} {m m':Mem} {v:Value} (h:Wv e xs m=some (v,m')):∃ n:Int,xs=[.slice none 0 0,.int .i64 n]∧0<n∧n≤1000000∧(v,m')=BL m e [] 0:=by
 unfold Wv at h
 split at h
 ·rename_i n
  split at h
  ·rename_i hn;cases h;exact ⟨n,rfl,hn.1,hn.2,rfl⟩
  ·cases h
 ·cases h
theorem bK {G:List Nat} {O:CJ} {fg:FuncId} {e:TypeId} (hO:Hg P G O) (he:Am.Enters P fg)
 (hc:∀ (n:Nat) (w:World),0<n→n≤1000000→Calls P fg #[.slice none 0 0,.int .i64 n] w fun r w'=>∃ cap cs,r=.returned (.slice (some ⟨w.heap.size,0,none⟩) 0 cap)∧w'.heap=w.heap.push (.cells cs e (0,0))∧w'.tape=w.tape∧w'.os=w.os∧w'.output=w.output∧cap*P.cellsOf e≤cs.size) :
 Hg P G (mM fg e O):=by
 intro f Fo hf
 by_cases h:f=fg
 ·subst h
  rw [bD] at hf
  cases hf
  refine ⟨fun xs m v m' hv ι w as' hs hrel=>?_,fun xs m v m' hv=>?_,he,Yx.none fun n lb m=>rfl⟩
  ·obtain ⟨n,rfl,h1,h2,h3⟩:=Wh hv
   cases h3
   obtain ⟨hlen,hat⟩:=hrel
   have hl2:as'.toList.length=2:=by simpa using hlen.symm
   have e0:as'=#[.slice none 0 0,.int .i64 n]:=by
    obtain ⟨l⟩:=as'
    match l,hl2 with
    |[a,b],_ =>
     have ha:=hat 0 (by simp)
     have hb:=hat 1 (by simp)
     simp only [List.getD_cons_zero,List.getD_cons_succ] at ha hb
     have hb':=hb.CB (v:=.int .i64 n) rfl
     cases ha
     rw [hb']
   subst e0
   have:=hc n.toNat w (by omega) (by omega)
   rw [Int.toNat_of_nonneg (by omega)] at this
   refine this.mono ?_
   rintro r w' ⟨cap,cs,rfl,q1,q2,q3,q4,q5⟩
   exact ⟨_,rfl,Il (e:=e) (l:=[]) (n:=0) hs q1 q2 q3 q4 (fun i hi=>by simp at hi) (Nat.zero_le _) (.inr q5)⟩
  ·obtain ⟨n,rfl,h1,h2,h3⟩:=Wh hv
   cases h3
   exact BA.alloc _ _
 ·rw [aH h] at hf
  exact hO f Fo hf
end
end Go.Vm
namespace Go.Vm
open Go.Am
section
variable {P:Program}
noncomputable def knO (G:List Nat) (M0:Mem) (fs:List FuncId) (O:CJ):CJ:=fun f=>if f∈fs then xk G M0 fs f else O f
end
end Go.Vm
namespace Go.Vm
open Go.Am
section
variable {P:Program} {G:List Nat}
abbrev FrF:=List Value→Option (List Value)
def a4s (e:TypeId) (Fn:FrF) (CG:List Value) (m:Mem):Option (Value×Mem):=match Fn CG with
 |some []=>some (.slice none 0 0,m)
 |some (v::l)=>some (BL m e (v::l) (l.length+1))
 |none=>none
open Classical in
noncomputable def frO (G:List Nat) (M0:Mem) (ff:FuncId) (e:TypeId) (Fn:FrF) (O:CJ):CJ:=fun f =>
 if f=ff then some fun CG m=>if ∀ k∈G,m.get k=M0.get k then a4s e Fn CG m else none else O f
end
end Go.Vm
namespace Go.Proofs.YtdabojnmoejilaaGreatDoor
open Go Go.ChangeShapes Go.WideShapes Go.ChangeAt Go.WideMaps Go.WideElems Go.RowKit
def EN:List (String×DataW Unit):=[("math/bits.deBruijn32tab",Rows.laid_math_bits_deBruijn32tab),("math/bits.deBruijn64tab",Rows.laid_math_bits_deBruijn64tab),("internal/strconv.uint64pow10",Rows.laid_internal_strconv_uint64pow10)]
theorem own:ownKnob Tryz.prog.godebug=none:=by kernel_rfl
theorem laidOut:laidOutB Tryz.prog=true:=by kernel_rfl
theorem door_met (os:Os) (args:Array Value):laidMetH Tryz.prog EN ((World.doorLaid Tryz.prog 400 os).forCall (fun _ _=>0) ⟨#[],args,[]⟩).memory :=
 laidMetH_of_parts3 (fuel:=8) (laidMet_of_run' 8 (by kernel_rfl) (by kernel_rfl)) (by kernel_rfl) (by kernel_rfl)
theorem tH {W:World} (h:laidMetH Tryz.prog EN W):laidMet Tryz.prog EN W:=by
 rw [MakeChecks.laidMetH_plain _ _ _ (by kernel_rfl)] at h
 exact h
end Go.Proofs.YtdabojnmoejilaaGreatDoor
namespace Go.Am
section
variable {P:Program} {c0 c1:EZ} (h:∀ f CG m r,c0 f CG m=some r→c1 f CG m=some r)
include h
end
structure OLe (P:Program) (O0 O1:CJ):Prop where
 same:∀ f CG m r,(O0 f).bind (fun F=>F CG m)=some r→(O1 f).bind (fun F=>F CG m)=some r
 more:∀ f CG m r,(O1 f).bind (fun F=>F CG m)=some r→(O0 f).bind (fun F=>F CG m)=none→∀ fn,P.funcs[f]?=some fn→fn.ntmps<CG.length
end Go.Am
namespace Go.Vm
open Go.Am
section
variable {P:Program}
def sS (d:TypeDesc) (x y:Value):Option Bool :=
 match d,x,y with
 | .int _,.int k a,.int k' b=>if k=k' then some (decide (a=b)) else none
 | .bool,.bool a,.bool b=>some (a==b)
 | .string,.string a,.string b=>some (decide (a.data.toList=b.data.toList))
 |_,_,_=>none
def dK (P:Program):List Field→Array Value→Array Value→Option Bool
 |[],_,_=>some true
 |f::fs,xs,ys=>if f.name="_" then none else
  match Gw P f.type,P.underlying f.type,xs[f.offset]?,ys[f.offset]?,dK P fs xs ys with
  |some false,some d,some x,some y,some r=>(sS d x y).map (·&&r)
  |_,_,_,_,_=>none
theorem Yi (a b:ByteArray):(a==b)=decide (a.data.toList=b.data.toList):=by
 rw [beq_toListBytes,ByteArray.toList_eq,ByteArray.toList_eq]
 by_cases h:a.data.toList=b.data.toList
 ·simp [h]
 ·rw [decide_eq_false h]
  simpa using fun h2:a.data=b.data=>h (by rw [h2])
theorem nP {d:Nat} {t:TypeId} {td:TypeDesc} {x y:Value} {r:Bool} (ht:P.underlying t=some td) (h:sS td x y=some r):EM P (Op.equalIn (d+1) t x y)=some r:=by
 unfold sS at h
 split at h
 ·split at h
  ·rename_i hk
   subst hk
   cases h
   rename_i a b
   simp only [Op.equalIn,Bf,BR,ht,Option.bind_some,if_true]
   rw [show (decide (a=b))=(a==b) from Bool.eq_iff_iff.2 (by simp)]
   rfl
  ·cases h
 ·cases h
  simp only [Op.equalIn,Bf,BR,ht,Option.bind_some]
  rfl
 ·cases h
  simp only [Op.equalIn,Bf,BR,ht,Option.bind_some,Yi]
  rfl
 ·cases h
theorem fU {t:TypeId} {cs:Array Value} {o:Nat} {v:Value} (ha:Gw P t=some false) (hv:cs[o]?=some v):EM P (part t cs o)=some v:=by
 simp only [part,Bf,Oy,ha,Option.bind_some,Bool.false_eq_true,if_false,hv]
 rfl
theorem X5 {d:Nat} (xs ys:Array Value) {g:Option Bool×Unit→Sem Bool} (g0:g (none,())=pure true) (g1:∀ b,g (some b,())=pure b):∀ (fs:List Field) (r:Bool),dK P fs xs ys=some r →
 EM P ((forIn fs ((none,()):Option Bool×Unit) fun f _=>(do
     if f.name≠"_" then
      if (!(← Op.equalIn (d+1) f.type (← part f.type xs f.offset) (← part f.type ys f.offset)))=true then pure (ForInStep.done (some false,())) else pure (ForInStep.yield (none,()))
     else pure (ForInStep.yield (none,())):Sem (ForInStep (Option Bool×Unit)))) >>= g)=some r
 |[],r,h=>by
  cases h
  simp only [List.forIn_nil,Bf,Dl,Option.bind_some,g0]
 |f::fs,r,h=>by
  unfold dK at h
  split at h
  ·cases h
  rename_i hn
  split at h
  ·rename_i td x y r' h1 h2 h3 h4 h5
   simp only [Option.map_eq_some_iff] at h
   obtain ⟨b,h6,rfl⟩:=h
   have ih:=X5 (d:=d) xs ys g0 g1 fs r' h5
   rw [List.forIn_cons]
   simp only [Bf,ne_eq,hn,not_false_eq_true,if_true,fU h1 h3,fU h1 h4,Option.bind_some,nP h2 h6]
   cases b with
   |false=>simp [Dl,g1]
   |true =>
    simp only [Bool.not_true,Bool.false_eq_true,if_false,Dl,Option.bind_some,Bool.true_and]
    rw [Bf] at ih
    exact ih
  ·cases h
theorem ZH {d:Nat} {t:TypeId} {fs:Array Field} {xs ys:Array Value} {r:Bool} (ht:P.underlying t=some (.struct fs)) (hp:P.stoodInHeld t=false) (h:dK P fs.toList xs ys=some r) :
 EM P (Op.equalIn (d+2) t (.agg xs) (.agg ys))=some r:=by
 rw [Op.equalIn]
 simp only [Bf,BR,ht,Option.bind_some,program,EM,hp,Bool.false_eq_true,if_false]
 rw [← Array.forIn_toList,← Bf]
 exact X5 (d:=d) xs ys rfl (fun b=>rfl) fs.toList r h
def su:FV→Option Value
 | .int k n=>some (.int k n)
 | .bool b=>some (.bool b)
 | .str s=>some (.string s)
 |_=>none
def JZ:List FV→Option (List Value)
 |[]=>some []
 |x::l=>match su x,JZ l with
  |some v,some r=>some (v::r)
  |_,_=>none
theorem qh {m:Mem} {F:Nat→Prop} {x:FV} {u v:Value} (h:RF m F x u) (hv:su x=some v):u=v∧Am.plainCell v=true:=by
 cases h<;>simp only [su,Option.some.injEq,reduceCtorEq] at hv
 all_goals (subst hv;exact ⟨rfl,rfl⟩)
theorem PK {m:Mem} {F:Nat→Prop}:∀ {l:List FV} {us vs:List Value},DT m F l us→JZ l=some vs→us=vs∧vs.all Am.plainCell=true
 |[],_,_,.nil,h=>by cases h;exact ⟨rfl,rfl⟩
 |x::l,_,_,.cons h t,hv=>by
  simp only [JZ] at hv
  split at hv
  ·rename_i v r h1 h2
   cases hv
   obtain ⟨rfl,p1⟩:=qh h h1
   obtain ⟨rfl,p2⟩:=PK t h2
   exact ⟨rfl,by simp [p1,p2]⟩
  ·cases hv
def Zn (P:Program) (t:TypeId) (xs ys:List FV):Option Bool :=
 match P.underlying t,JZ xs,JZ ys with
 |some (.struct fs),some vs,some ws=>dK P fs.toList vs.toArray ws.toArray
 |_,_,_=>none
def WV (P:Program) (t:TypeId):Bool:=!(P.stoodInHeld t)&&!(P.eqGuardType P.depth t)
theorem vY {t:TypeId} {xs ys:List FV} {vs ws:List Value} {r:Bool} {op:BinOp} {x y:Operand} (hf:WV P t=true) (h:Zn P t xs ys=some r) (hv:JZ xs=some vs) (hw:JZ ys=some ws) (hop:op=.eql∨op=.neq) :
 EM P (do eqGuard op t x y (.agg vs.toArray) (.agg ws.toArray);binOp op t (.agg vs.toArray) (.agg ws.toArray))=some (.bool (if op=.eql then r else !r)):=by
 simp only [WV,Bool.and_eq_true,Bool.not_eq_true'] at hf
 unfold Zn at h
 rw [hv,hw] at h
 split at h
 ·rename_i fs vs' ws' h1 h2 h3
  cases h2;cases h3
  have h4:EM P (Op.equal t (.agg vs.toArray) (.agg ws.toArray))=some r:=ZH (d:=9998) h1 hf.1 h
  have h5:EM P (eqGuard op t x y (.agg vs.toArray) (.agg ws.toArray))=some ():=by
   rcases hop with rfl|rfl<;>simp [eqGuard,Bf,program,EM,hf.2,Dl]
  rcases hop with rfl|rfl
  ·rw [Bf,h5,Option.bind_some]
   show EM P (do pure (.bool (← Op.equal t (.agg vs.toArray) (.agg ws.toArray))):Sem Value)=_
   simp only [Bf,h4,Option.bind_some,Dl]
   rfl
  ·rw [Bf,h5,Option.bind_some]
   show EM P (do pure (.bool (!(← Op.equal t (.agg vs.toArray) (.agg ws.toArray)))):Sem Value)=_
   simp only [Bf,h4,Option.bind_some,Dl]
   rfl
 ·cases h
end
section
variable {E:Env} {L:Frame} {H:Heap} {nx:Nat} {Q:PV→Heap→Nat→Prop} {w:Bool}
variable {dst:Option Tmp} {ty:TypeId} {pos:String} {af:Array Edge} {gd:Option (Nat×Bool)}
theorem Aa.Zn {op:BinOp} {t t2:TypeId} {x y:Operand} {xs ys:List FV} {r:Bool} (hx:BG E.Γ L x=some (.p (.agg xs))) (hy:BG E.Γ L y=some (.p (.agg ys))) (hop:op=.eql∨op=.neq) (hf:WV E.P t=true) (h:Vm.Zn E.P t xs ys=some r)
 (q:Q (.p (.bool (if op=.eql then r else !r))) H nx):Aa E w ⟨dst,.binOp op t x y t2,ty,pos,af,gd⟩ L H nx Q :=
 Aa.quiet q fun m F σ tt c1 c2=>by
  obtain ⟨vs,hv⟩:∃ vs,JZ xs=some vs:=by
   cases hv:JZ xs with
   |some vs=>exact ⟨vs,rfl⟩
   |none=>unfold Vm.Zn at h;rw [hv] at h;split at h<;>simp_all
  obtain ⟨ws,hw⟩:∃ vs,JZ ys=some vs:=by
   cases hw:JZ ys with
   |some vs=>exact ⟨vs,rfl⟩
   |none=>unfold Vm.Zn at h;rw [hw] at h;split at h<;>simp_all
  have e1:ev tt x=.agg vs.toArray∧vs.all Am.plainCell=true:=by
   have:=BX c1 c2 hx
   generalize ev tt x=u at this
   cases this with
   |p h1=>cases h1 with
    |agg h1 hc=>obtain ⟨rfl,hp⟩:=PK h1 hv;exact ⟨rfl,hp⟩
  have e2:ev tt y=.agg ws.toArray∧ws.all Am.plainCell=true:=by
   have:=BX c1 c2 hy
   generalize ev tt y=u at this
   cases this with
   |p h1=>cases h1 with
    |agg h1 hc=>obtain ⟨rfl,hp⟩:=PK h1 hw;exact ⟨rfl,hp⟩
  have hd:=vY (x:=x) (y:=y) hf h hv hw hop
  refine ⟨_,fun _=>?_,.p (.bool _)⟩
  simp only [CX,FH,e1.1,e2.1]
  have hpl:(plain (.agg vs.toArray)&&plain (.agg ws.toArray))=true:=by
   simp only [plain,GU,Bool.and_eq_true]
   exact ⟨e1.2,e2.2⟩
  have:OM E.P op t x y (.agg vs.toArray) (.agg ws.toArray)=some (.bool (if op=.eql then r else !r)):=by
   simp only [OM,hpl,if_true]
   exact Ib hd rfl
  rw [this,Option.map_some]
theorem Aa.zO {t t2:TypeId} {x y:Operand} {xs ys:List FV} {r:Bool} (hx:BG E.Γ L x=some (.p (.agg xs))) (hy:BG E.Γ L y=some (.p (.agg ys))) (hf:WV E.P t=true) (h:Vm.Zn E.P t xs ys=some r)
 (q:Q (.p (.bool r)) H nx):Aa E w ⟨dst,.binOp .eql t x y t2,ty,pos,af,gd⟩ L H nx Q:=Aa.Zn hx hy (.inl rfl) hf h q
theorem Aa.MW {t e e':TypeId} {x ix:Operand} {n b off:Nat} {cs:List PV} {k:IntKind} {i:Int} {inf:TypeInfo} (hx:BG E.Γ L x=some (.ref b off)) (hb:hget H b=some (.box e' cs)) (hi:BG E.Γ L ix=some (.p (.int k i)))
 (ht:E.P.underlying t=some (.array n e)) (hs:E.P.info? e=some inf) (h:0≤i∧i<n) (q:Q (.ref b (off+i.toNat*inf.size)) H nx):Aa E w ⟨dst,.indexAddr t x ix,ty,pos,af,gd⟩ L H nx Q :=
 Aa.quiet q fun m F σ tt h1 h2=>by
  obtain ⟨c,h3,h4⟩:=UY h1 h2 hx hb
  refine ⟨.pointer (some ⟨c,off+i.toNat*inf.size,none⟩),fun _=>?_,.ref (h1.hp b _ hb).1 rfl fun _=>⟨c,h4,rfl⟩⟩
  simp only [CX,FH,ht,h3,Dh h1 h2 hi,hs,h,and_self,if_true]
theorem Aa.a0w {t:TypeId} {a:Operand} {b o:Nat} {e:TypeId} {cs:List PV} {r:PV} (ha:BG E.Γ L a=some (.ref b o)) (hb:hget H b=some (.box e cs)) (ht:Gw E.P t=some false) (hr:cs[o]?=some r) (q:Q r H nx) :
 Aa E w ⟨dst,.load t a,ty,pos,af,gd⟩ L H nx Q:=by
 refine Aa.load ha ?_ q
 simp only [XT,hb,bf,ht]
 rw [List.head?_drop]
 exact hr
theorem Aa.Gq {s d e e2:TypeId} {x:Operand} {b:Nat} {z:Bool} {n:Int} (hx:BG E.Γ L x=some (.vec b 1 0 1)) (hb:hget H b=some (.vec e2 [.int .u8 n] 1 z)) (hs:E.P.underlying s=some (.slice e)) (hd:E.P.underlying d=some .string) (he:E.P.underlying e=some (.int .u8)) (hn:0≤n∧n<256)
 (q:Q (st [UInt8.ofNat n.toNat]) H nx):Aa E w ⟨dst,.convert s d x,ty,pos,af,gd⟩ L H nx Q :=
 Aa.quiet q fun m F σ tt c1 c2=>by
  obtain ⟨hl1,vs,hl2,hl3,hl4⟩:=o8.all (sz:=1) hx hb rfl m F σ tt c1 c2
  have hc:cells [UInt8.ofNat n.toNat]=[.int .u8 n]:=by
   show [FV.int .u8 (((UInt8.ofNat n.toNat).toNat:Nat):Int)]=_
   rw [UInt8.toNat_ofNat']
   congr 2
   omega
  rw [← hc] at hl3
  have hvs:=NP hl3
  subst hvs
  have hsub:=GX c1 c2 hx hb
  have hag:∃ a g,ev tt x=.slice a 1 g:=by
   unfold EH at hsub
   split at hsub
   ·exact ⟨_,_,hsub⟩
   ·exact absurd hsub.2.2 (by decide)
  obtain ⟨a,g,hag⟩:=hag
  rw [hag] at hl2
  refine ⟨.string (bs [UInt8.ofNat n.toNat]),fun _=>?_,.p (.str _)⟩
  have hsl:(Hy E.P s||Hy E.P d)=true:=by simp only [Hy,hs,hd];rfl
  simp only [CX,FH,hsl,if_true,TI,hs,hd,hag,he,hl2,NY]
  rfl
theorem Aa.a4j {t t2:TypeId} {x y:Operand} {a b:List UInt8} {r:Bool} (hx:BG E.Γ L x=some (st a)) (hy:BG E.Γ L y=some (st b)) (hr:decide (a=b)=r) (q:Q (.p (.bool r)) H nx) :
 Aa E w ⟨dst,.binOp .eql t x y t2,ty,pos,af,gd⟩ L H nx Q:=Aa.eqS hx hy (by rw [hr];exact q)
theorem Aa.zu {t t2:TypeId} {x y:Operand} {a b:List UInt8} {r:Bool} (hx:BG E.Γ L x=some (st a)) (hy:BG E.Γ L y=some (st b)) (hr:decide (a=b)=r) (q:Q (.p (.bool (!r))) H nx) :
 Aa E w ⟨dst,.binOp .neq t x y t2,ty,pos,af,gd⟩ L H nx Q:=Aa.neS hx hy (by rw [hr];exact q)
end
end Go.Vm
namespace Go.Vm
open Go.Am
def a0x (H:Heap):PV→Option Nat
 | .ref b _=>match hget H b with
  |some (.box _ _)=>some b
  |_=>none
 | .vec b n _ _=>match hget H b with
  |some (.vec _ _ k _)=>match Nat.decEq n k with
   | .isTrue _=>some b
   | .isFalse _=>none
  |_=>none
 | .Ec b n _=>match hget H b with
  |some (.vec _ _ k _)=>match Nat.decEq n k with
   | .isTrue _=>some b
   | .isFalse _=>none
  |_=>none
 |_=>none
def yX:PV→Bool
 | .p (.Gu _)=>true
 | .p (.lst _ _ _)=>true
 | .p (.val (.slice none _ _))=>true
 |_=>false
inductive WC (H:Heap):PV→Nat→Prop
 |ref {b off:Nat} {e:TypeId} {cs:List PV} (h:hget H b=some (.box e cs)):WC H (.ref b off) b
 |vec {b n off len:Nat} {e:TypeId} {cs:List FV} {z:Bool} (h:hget H b=some (.vec e cs n z)):WC H (.vec b n off len) b
 |Ec {b n off:Nat} {e:TypeId} {cs:List FV} {z:Bool} (h:hget H b=some (.vec e cs n z)):WC H (.Ec b n off) b
def zB (H:Heap) (b:Nat) (y:PV):Bool:=match a0x H y with
 |some c=>match Nat.decEq b c with
  | .isTrue _=>false
  | .isFalse _=>true
 |none=>yX y
section
variable {Γ:Nat→Option (List Value×TypeId)} {m:Mem} {F:Nat→Prop} {σ:Nat→Value} {H:Heap} {nx:Nat} {L:Frame} {t:Tr Value}
theorem WC.blk (hx:Ctx Γ m F σ H nx) (hl:RL m F (htag H) σ nx L t) {o:Operand} {x:PV} {b:Nat} (h:BG Γ L o=some x) (ho:WC H x b):∃ y,hget H b=some y∧∀ c,GL (ev t o)=some c→Du (σ b)=some c:=by
 cases ho with
 |ref hb =>
  obtain ⟨c,h1,h2⟩:=UY hx hl h hb
  refine ⟨_,hb,fun d hd=>?_⟩
  rw [h1] at hd
  rw [h2]
  exact hd
 |vec hb =>
  have hsub:=GX hx hl h hb
  refine ⟨_,hb,fun d hd=>?_⟩
  unfold EH at hsub
  split at hsub
  ·rename_i c k' g hs
   rw [hsub] at hd
   rw [hs]
   exact hd
  ·rename_i hne
   obtain ⟨h1,_,_⟩:=hsub
   rcases (hx.hp b _ hb).2 with ⟨_,_,r3⟩|⟨c,g,vs,r1,_⟩
   ·rcases r3 with ⟨r3,_⟩|⟨b2,o2,g2,r3,_⟩
    ·rw [h1,r3] at hd;cases hd
    ·rw [h1,r3] at hd;cases hd
   ·exact absurd r1 (hne _ _ _)
 |Ec hb =>
  obtain ⟨c,k',g,h1,h2⟩:=Q9 hx hl h hb
  refine ⟨_,hb,fun d hd=>?_⟩
  rw [h1] at hd
  rw [h2]
  exact hd
theorem vg {x:PV} {b:Nat} (ho:a0x H x=some b):WC H x b:=by
 unfold a0x at ho
 split at ho
 ·split at ho
  ·rename_i hb;cases ho;exact .ref hb
  ·cases ho
 ·split at ho
  ·rename_i hb
   split at ho
   ·rename_i hn _;cases ho;subst hn;exact .vec hb
   ·cases ho
  ·cases ho
 ·split at ho
  ·rename_i hb
   split at ho
   ·rename_i hn _;cases ho;subst hn;exact .Ec hb
   ·cases ho
  ·cases ho
 ·cases ho
theorem rC (hx:Ctx Γ m F σ H nx) (hl:RL m F (htag H) σ nx L t) {o:Operand} {x:PV} (h:BG Γ L o=some x) (ho:yX x=true):∀ c,GL (ev t o)=some c→F c:=by
 have hr:=BX hx hl h
 generalize ev t o=v at *
 intro c hc
 unfold yX at ho
 split at ho
 ·cases hr with
  |p hr=>cases hr with|Gu hF=>simp only [GL,Option.some.injEq] at hc;subst hc;exact hF
 ·cases hr with
  |p hr =>
   cases hr with
   |nil=>cases hc
   |room=>cases hc
   |lst hF=>simp only [GL,Option.some.injEq] at hc;subst hc;exact hF
 ·cases hr with
  |p hr=>cases hr with|val=>cases hc
 ·cases ho
theorem xP (hx:Ctx Γ m F σ H nx) (hl:RL m F (htag H) σ nx L t) {o r:Operand} {x y:PV} {b:Nat} (h:BG Γ L o=some x) (hb:WC H x b) (h2:BG Γ L r=some y) (hs:zB H b y=true):mZ (GL (ev t r)) (GL (ev t o))=true:=by
 obtain ⟨u,hu,hub⟩:=hb.blk hx hl h
 cases hd:GL (ev t o) with
 |none=>cases GL (ev t r)<;>rfl
 |some d =>
  have hbd:=hub d hd
  cases he:GL (ev t r) with
  |none=>rfl
  |some e =>
   simp only [mZ,bne_iff_ne,ne_eq]
   intro hde
   subst hde
   unfold zB at hs
   split at hs
   ·rename_i c hc
    obtain ⟨u',hu',hub'⟩:=(vg hc).blk hx hl h2
    have hce:=hub' e he
    have:=hx.sep b c u u' e hu hu' hbd hce
    subst this
    split at hs
    ·cases hs
    ·rename_i hne _;exact hne rfl
   ·exact (hx.LQ ⟨b,u,hu,hbd⟩).1 (rC hx hl h2 hs e he)
end
def a2s:Operand→Operand→Bool
 | .tmp a,.tmp b=>a==b
 | .global a,.global b=>a==b
 |_,_=>false
def lN:List (Option Operand)→List Operand→Bool
 |[],[]=>true
 |some a::l,b::r=>a2s a b&&lN l r
 |_,_=>false
theorem yG {a b:Operand} (h:a2s a b=true):a=b:=by
 cases a<;>cases b<;>simp only [a2s,beq_iff_eq,Bool.false_eq_true] at h<;>rw [h]
theorem bU:∀ {l:List (Option Operand)} {r:List Operand},lN l r=true→l=r.map some
 |[],[],_=>rfl
 |some a::l,b::r,h=>by
  simp only [lN,Bool.and_eq_true] at h
  rw [List.map_cons,yG h.1,bU h.2]
def l7 (Γ:Nat→Option (List Value×TypeId)) (L:Frame) (H:Heap) (x:Nat):List Operand→Bool
 |[]=>true
 |r::l=>(match BG Γ L r with
  |some y=>zB H x y
  |none=>false)&&l7 Γ L H x l
def a5l (Γ:Nat→Option (List Value×TypeId)) (L:Frame):List Operand→Bool
 |[]=>true
 |r::l=>(match BG Γ L r with
  |some y=>yX y
  |none=>false)&&a5l Γ L l
section
variable {E:Env} {L:Frame} {H:Heap} {nx:Nat}
variable {dst:Option Tmp} {ty:TypeId} {pos:String} {af:Array Edge} {gd:Option (Nat×Bool)}
variable {bn:Nat} {ops:Array Oper} {op:Op} {l:List Oper} {i:Nat} {R:Frame→Heap→Nat→Prop}
theorem Aq.atIdx (n:Nat) (h:Aq E bn ops n l L H nx R):Aq E bn ops n l L H nx R:=h
theorem Aq.weak {wo:Operand} {x:PV} {b:Nat} (rs:List Operand) (hw:fO E.P ops i=true) (hi:(ops[i]?).bind (fun o=>sV o.op)=some wo) (hx:BG E.Γ L wo=some x) (hb:WC H x b) (hr:lN (IL ops i) rs=true) (hs:l7 E.Γ L H b rs=true)
 (h:Aa E true ⟨dst,op,ty,pos,af,none⟩ L H nx fun r H' nx'=>Aq E bn ops (i+1) l (OV L dst r) H' nx' R):Aq E bn ops i (⟨dst,op,ty,pos,af,none⟩::l) L H nx R:=by
 intro B hB m F σ t h1 h2 h3
 have hfree:Oa ops i t=true:=by
  unfold Oa
  rw [hi]
  simp only
  rw [bU hr,List.all_eq_true]
  intro r hmem
  rw [List.mem_map] at hmem
  obtain ⟨r0,hr0,rfl⟩:=hmem
  simp only
  have key:∀ rs:List Operand,l7 E.Γ L H b rs=true→r0∈rs→∃ y,BG E.Γ L r0=some y∧zB H b y=true:=by
   intro rs
   induction rs with
   |nil=>intro _ h;cases h
   |cons a rs ih =>
    intro h hm
    simp only [l7,Bool.and_eq_true] at h
    rcases List.mem_cons.1 hm with rfl|hm
    ·cases hv:BG E.Γ L r0 with
     |none=>rw [hv] at h;cases h.1
     |some y=>rw [hv] at h;exact ⟨y,rfl,h.1⟩
    ·exact ih h.2 hm
  obtain ⟨y,hy,hys⟩:=key rs hs hr0
  exact xP h1 h2 hx hb hy hys
 refine I9.cons (IY.wanted (L:=L) h1 h2 rfl) ((h (m.at m.size) F σ t (h1.at _) (RL.at (Γ:=E.Γ) _ h2)).mono ?_)
 rintro v m' ⟨r,H',nx',F',σ',q,c1,c2,c3,c4⟩
 refine ⟨.inr (.inr (.inl ⟨hw,hfree⟩)),?_⟩
 exact q B hB _ F' σ' _ (c1.at _) (RL.at (Γ:=E.Γ) _ (((RL.at (Γ:=E.Γ) _ h2).step c3 (h1.at _)).put c2)) (h3.trans c3.at)
end
end Go.Vm
namespace Go.Vm
open Go.Am
section
variable {E:Env} {bn:Nat} {b:Code} {L:Frame} {H:Heap} {nx:Nat} {Q:CO→Frame→Heap→Nat→Prop}
def YP (E:Env) (bn:Nat) (b:Code) (Q:CO→Frame→Heap→Nat→Prop):Nat→Frame→Heap→Nat→Prop
 |0,L,H,nx=>Ad E bn b L H nx (Aw (fun _ _ _=>False) Q)
 |n+1,L,H,nx=>Ad E bn b L H nx (Aw (YP E bn b Q n) Q)
theorem Ad.kZ (n:Nat) (h:YP E bn b Q n L H nx):Ad E bn (.loop b) L H nx Q:=by
 intro B hB m F σ t h1 h2 h3
 refine Ls.loop (fun k s=>∃ L H nx F σ,YP E bn b Q k L H nx∧Ctx E.Γ s.m F σ H nx∧RL s.m F (htag H) σ nx L s.t∧B.to s.m F σ H nx) n ⟨L,H,nx,F,σ,h,h1,h2,h3⟩ ?_
 rintro k s ⟨L1,H1,nx1,F1,σ1,u,c1,c2,c3⟩
 cases k with
 |zero =>
  refine (u B hB s.m F1 σ1 s.t c1 c2 c3).mono ?_
  rintro e s' ⟨L',H',nx',F',σ',q,d1,d2,d3⟩
  cases e with
  |normal=>exact q.elim
  |ret=>exact ⟨L',H',nx',F',σ',q,d1,d2,d3⟩
  |exit i=>exact ⟨L',H',nx',F',σ',q,d1,d2,d3⟩
 |succ k =>
  refine (u B hB s.m F1 σ1 s.t c1 c2 c3).mono ?_
  rintro e s' ⟨L',H',nx',F',σ',q,d1,d2,d3⟩
  cases e with
  |normal=>exact ⟨k,Nat.lt_succ_self _,L',H',nx',F',σ',q,d1,d2,d3⟩
  |ret=>exact ⟨L',H',nx',F',σ',q,d1,d2,d3⟩
  |exit i=>exact ⟨L',H',nx',F',σ',q,d1,d2,d3⟩
theorem YP.zero (h:Ad E bn b L H nx (Aw (fun _ _ _=>False) Q)):YP E bn b Q 0 L H nx:=h
theorem YP.succ {n:Nat} (h:Ad E bn b L H nx (Aw (YP E bn b Q n) Q)):YP E bn b Q (n+1) L H nx:=h
theorem Aw.again {I:Frame→Heap→Nat→Prop} (h:I L H nx):Aw I Q .normal L H nx:=h
end
end Go.Vm
namespace Go.Vm
open Go.Am
def Xk (names:List (List UInt8)):List (FV×FV):=names.map fun s=>(.str (bs s),.bool true)
theorem a2q (a b:List UInt8):(bs a==bs b)=decide (a=b):=by rw [Yi];simp only [ZL]
theorem Wj {m:Mem} {F:Nat→Prop}:∀ {names:List (List UInt8)} {l:List MapEntry},Za m F (Xk names) l→l.map (·.key)=names.map (fun s=>Value.string (bs s))∧l.map (·.val)=names.map (fun _=>Value.bool true)
 |[],[],_=>⟨rfl,rfl⟩
 |[],e::l,h=>by cases h.1
 |s::names,[],h=>by cases h.1
 |s::names,e::l,h=>by
  obtain ⟨h1,h2⟩:=h
  simp only [Xk,List.map_cons] at h1 h2
  cases h1 with
  |cons k1 t1 =>
   cases h2 with
   |cons k2 t2 =>
    obtain ⟨e1,e2⟩:=Wj (names:=names) (l:=l) ⟨t1,t2⟩
    rw [List.map_cons,List.map_cons,List.map_cons,List.map_cons,e1,e2]
    constructor
    ·congr 1
     generalize e.key=k at k1
     cases k1;rfl
    ·congr 1
     generalize e.val=k at k2
     cases k2;rfl
theorem VY:∀ {names:List (List UInt8)} {l:List MapEntry},l.map (·.key)=names.map (fun s=>Value.string (bs s))→l.map (·.val)=names.map (fun _=>Value.bool true)→∀ (s:List UInt8) (i:Nat),
 (s∈names→∃ j,Instr.findNow .string (.string (bs s)) l i=some (some (j,.bool true)))∧(s∉names→Instr.findNow .string (.string (bs s)) l i=some none)
 |[],[],_,_,s,i=>⟨fun h=>(by cases h),fun _=>rfl⟩
 |[],e::l,h,_,_,_=>by cases h
 |n::names,[],h,_,_,_=>by cases h
 |n::names,e::l,h1,h2,s,i=>by
  simp only [List.map_cons,List.cons.injEq] at h1 h2
  obtain ⟨i1,i2⟩:=VY h1.2 h2.2 s (i+1)
  have hs:Instr.sameNow .string (.string (bs s)) (.string (bs n))=some (bs s==bs n):=rfl
  rw [a2q] at hs
  unfold Instr.findNow
  rw [h1.1,hs]
  by_cases hn:s=n
  ·rw [decide_eq_true hn]
   simp only [h2.1]
   exact ⟨fun _=>⟨i,rfl⟩,fun h=>absurd (by rw [hn];simp) h⟩
  ·rw [decide_eq_false hn]
   simp only
   refine ⟨fun h=>?_,fun h=>?_⟩
   ·rcases List.mem_cons.1 h with h|h
    ·exact absurd h hn
    ·exact i1 h
   ·exact i2 (fun h'=>h (List.mem_cons_of_mem _ h'))
section
variable {E:Env} {L:Frame} {H:Heap} {nx:Nat} {Q:PV→Heap→Nat→Prop} {w:Bool}
variable {dst:Option Tmp} {ty:TypeId} {pos:String} {af:Array Edge} {gd:Option (Nat×Bool)}
theorem kP {Γ:Nat→Option (List Value×TypeId)} {m:Mem} {F:Nat→Prop} {σ:Nat→Value} {t:Tr Value} {b:Nat} {o:Operand} {es:List (FV×FV)} (hx:Ctx Γ m F σ H nx) (hl:RL m F (htag H) σ nx L t) (h:BG Γ L o=some (.mref b)) (hb:hget H b=some (.map es)):ev t o=σ b:=by
 have:=BX hx hl h
 generalize ev t o=v at this
 cases this with
 |mref _ _ h3=>exact h3 (by simp [htag,hb,HB.tag])
theorem Aa.makeMap {t:TypeId} (q:Q (.mref nx) ((nx,.map [])::H) (nx+1)):Aa E w ⟨dst,.makeMap t none,ty,pos,af,gd⟩ L H nx Q:=by
 intro m F σ tt h1 h2
 obtain ⟨c1,c2,c3⟩:=h1.new (m':=m.alloc (.map [] 0)) (x:=.map []) (s:=.map (some m.size)) (by simp [Mem.alloc]) (fun c hc=>by rw [Mem.CV,if_neg (by omega)]) (by simp only [Mem.alloc];omega) (fun c hc=>by simp only [Du,Option.some.injEq] at hc;omega)
  ⟨m.size,[],0,rfl,by simp [Mem.alloc],fun hf=>Nat.lt_irrefl _ (h1.fr _ hf),by rw [Mem.CV,if_pos rfl],⟨.nil,.nil⟩⟩
 exact Ik.op (v:=.map (some m.size)) (fun _=>rfl) ⟨_,_,_,F,_,q,c1,.mref (Nat.lt_succ_self _) rfl fun _=>(upd_same _ _ _).symm,c2,fun _=>c3⟩
theorem Aa.IK {t kt et:TypeId} {x k:Operand} {b:Nat} {names:List (List UInt8)} {s:List UInt8} (hx:BG E.Γ L x=some (.mref b)) (hb:hget H b=some (.map (Xk names))) (hk:BG E.Γ L k=some (st s))
 (ht:E.P.underlying t=some (.map kt et)) (hkk:H9 E.P kt=some .string) (hz:zeroOf E.P et=some (.bool false)) (q:Q (.p (.bool (decide (s∈names)))) H nx):Aa E w ⟨dst,.lookup t x k false,ty,pos,af,gd⟩ L H nx Q :=
 Aa.quiet q fun m F σ tt c1 c2=>by
  obtain ⟨_,r,l,clock,r1,r2,r3,r4,r5⟩:=c1.hp b _ hb
  obtain ⟨e1,e2⟩:=Wj r5
  obtain ⟨f1,f2⟩:=VY e1 e2 s 0
  refine ⟨.bool (decide (s∈names)),fun _=>?_,.p (.bool _)⟩
  simp only [CX,FH,UZ,Rk,ht,hkk,hz,kP c1 c2 hx hb,KP c1 c2 hk,r1,r4]
  rw [show (plain (Value.bool false)&&plain (Value.string (bs s)))=true from rfl]
  by_cases h:s∈names
  ·obtain ⟨j,hj⟩:=f1 h
   simp only [if_true,hj,Bool.false_eq_true,if_false,Option.map_some,decide_eq_true h]
  ·simp only [if_true,f2 h,Bool.false_eq_true,if_false,Option.map_some,decide_eq_false h]
theorem DT.snoc {m:Mem} {F:Nat→Prop}:∀ {cs:List FV} {vs:List Value} {c:FV} {v:Value},DT m F cs vs→RF m F c v→DT m F (cs++[c]) (vs++[v])
 |_,_,_,_,.nil,h=>.cons h .nil
 |_,_,_,_,.cons a t,h=>.cons a (DT.snoc t h)
theorem Aa.ZN {t kt et:TypeId} {x k y:Operand} {b:Nat} {names:List (List UInt8)} {s:List UInt8} (hx:BG E.Γ L x=some (.mref b)) (hb:hget H b=some (.map (Xk names))) (hk:BG E.Γ L k=some (st s)) (hy:BG E.Γ L y=some (.p (.bool true)))
 (ht:E.P.underlying t=some (.map kt et)) (hkk:H9 E.P kt=some .string) (hn:s∉names) (q:Q (.EW []) (hput H b (.map (Xk (names++[s])))) nx):Aa E true ⟨dst,.mapUpdate t x k y,ty,pos,af,gd⟩ L H nx Q:=by
 intro m F σ tt c1 c2
 obtain ⟨_,r,l,clock,r1,r2,r3,r4,r5⟩:=c1.hp b _ hb
 obtain ⟨e1,e2⟩:=Wj r5
 have f2:=(VY e1 e2 s 0).2 hn
 have hput':∀ d x,r≠d→(m.put r x).get d=m.get d:=fun d x hd=>by rw [Mem.get_put,if_neg hd]
 obtain ⟨d1,d2⟩:=c1.change (m':=m.put r (.map (l++[{ key:=.string (bs s),val:=.bool true,born:=clock }]) (clock+1))) (x':=.map (Xk (names++[s]))) (s':=σ b) hb trivial (fun _=>rfl) (Nat.le_refl _)
  (fun d _ hd=>hput' d _ fun e=>hd (by rw [r1,e];rfl)) (fun k k1 k2 k3=>by
   have:=k3 r (by rw [r1];rfl)
   simp only [Mem.put];omega) (fun d hd=>.inl hd) (by
   refine ⟨r,_,clock+1,r1,r2,r3,by rw [Mem.get_put,if_pos rfl],?_⟩
   have hF:∀ d,F d→F d∧(m.put r (.map (l++[{ key:=.string (bs s),val:=.bool true,born:=clock }]) (clock+1))).get d=m.get d:=fun d hd=>⟨hd,hput' d _ fun e=>r3 (e▸hd)⟩
   unfold Za Xk
   simp only [List.map_append,List.map_cons,List.map_nil]
   exact ⟨DT.snoc (r5.1.mono hF) (.str _),DT.snoc (r5.2.mono hF) (.bool _)⟩)
 refine Ik.op (v:=undef) (fun _=>?_) ⟨_,_,_,F,_,q,d1,.EW .nil,d2,fun h=>by cases h⟩
 have hv:ev tt y=.bool true:=Io c1 c2 hy
 simp only [CX,FH,MC,Rk,ht,hkk,kP c1 c2 hx hb,KP c1 c2 hk,hv,r1,r4]
 rw [show plain (Value.string (bs s))=true from rfl]
 simp only [if_true,f2,Option.map_some]
end
end Go.Vm
namespace Go.Vm
open Go.Am
end Go.Vm
namespace Go.Am
section
variable {P:Program} {O:CJ} {G:List Nat}
def II (key:Value) (rows:List (List Value)):Value:=.tuple #[key,.tuple (rows.map fun r=>Value.tuple r.toArray).toArray]
theorem TY:∀ rows:List (List Value),U7 (rows.map fun r=>Value.tuple r.toArray)=some rows
 |[]=>rfl
 |r::rows=>by simp only [List.map_cons,U7,vT,TY rows]
theorem KE (key:Value) (rows:List (List Value)):OA (II key rows)=some rows:=TY rows
def LV (P:Program) (O:CJ) (G:List Nat) (LU body:Code) (n:Nat) (ask:Mem→Prop) (t:Tr Value) (ps:List Tmp):List (List Value)→Mem→(CO→Mem→Prop)→Prop
 |[],m,Q=>Q .normal m
 |vs::rest,m,Q=>vs.length=n∧vs.all plain=true∧Ls P O G LU { t:=J8 t ps vs,m:=Ij m m.size } fun e s1=>e=.normal∧Ls P O G body s1 fun e s2=>match e with
  | .normal=>ask (Ij s2.m (min m.low s2.m.low))∧LV P O G LU body n ask t ps rest (Ij s2.m (min m.low s2.m.low)) Q
  |e=>Q e (Ij s2.m (min m.low s2.m.low))
theorem LV.run {LU body:Code} {n:Nat} {ask:Mem→Prop} {a3a:Nat→Nat→Mem→Prop} (hk:∀ N D m,1≤D→(a3a N D m↔ask m)) {t:Tr Value} {ps:List Tmp}:∀ {rows:List (List Value)} {m:Mem} {Q:CO→Mem→Prop},LV P O G LU body n ask t ps rows m Q →
 ∃ e m',(∃ K,∀ N D,K≤N→K≤D→Ed n (CW P (ER P O G N D) N LU) (CW P (ER P O G N D) N body) (a3a N D) t ps rows m=some (e,m'))∧Q e m'
 |[],m,Q,h=>⟨.normal,m,⟨0,fun N D _ _=>rfl⟩,h⟩
 |vs::rest,m,Q,⟨h1,h2,e1,s1,hk1,he,e2,s2,hk2,q⟩=>by
  subst he
  obtain ⟨K1,k1⟩:=hk1
  obtain ⟨K2,k2⟩:=hk2
  have k1:∀ N D,K1≤N→K1≤D→CW P (ER P O G N D) N LU { t:=J8 t ps vs,m:=Ij m m.size }=some (.normal,s1):=k1
  have k2:∀ N D,K2≤N→K2≤D→CW P (ER P O G N D) N body s1=some (e2,s2):=k2
  cases e2 with
  |normal =>
   obtain ⟨qa,qr⟩:=q
   obtain ⟨e,m',⟨K3,k3⟩,qe⟩:=LV.run hk qr
   refine ⟨e,m',⟨max (max K1 K2) (max K3 1),fun N D hN hD=>?_⟩,qe⟩
   have ha:=(hk N D (Ij s2.m (min m.low s2.m.low)) (by omega)).2 qa
   simp only [Ed]
   rw [if_pos ⟨h1,h2⟩,k1 N D (by omega) (by omega)]
   simp only
   rw [k2 N D (by omega) (by omega)]
   simp only
   rw [if_pos ha]
   exact k3 N D (by omega) (by omega)
  |ret =>
   refine ⟨.ret,_,⟨max K1 K2,fun N D hN hD=>?_⟩,q⟩
   simp only [Ed]
   rw [if_pos ⟨h1,h2⟩,k1 N D (by omega) (by omega)]
   simp only
   rw [k2 N D (by omega) (by omega)]
  |exit id =>
   refine ⟨.exit id,_,⟨max K1 K2,fun N D hN hD=>?_⟩,q⟩
   simp only [Ed]
   rw [if_pos ⟨h1,h2⟩,k1 N D (by omega) (by omega)]
   simp only
   rw [k2 N D (by omega) (by omega)]
theorem Ls.rangeFunc {f:Operand} {ps:Array Tmp} {LU body:Code} {s:St} {g:FuncId} {lb:Array Value} {fn:Func} {Fo:List Value→Mem→Option (Value×Mem)} {key:Value} {rows:List (List Value)} {Q:CO→St→Prop} (hev:ev s.t f=.func (.func g) #[] lb) (hfn:P.funcs[g]?=some fn)
 (hfl:(flat LU&&flat body)=true) (ho:O g=some Fo) (hc:∃ m1,Fo (Ef fn.ntmps lb.toList) s.m=some (II key rows,m1))
 (h:LV P O G LU body ps.size (fun m'=>∃ m1,Fo (Ef fn.ntmps lb.toList) m'=some (II key rows,m1)) s.t ps.toList rows s.m fun e m'=>Q e { t:=s.t,m:=m' }):Ls P O G (.rangeFunc f ps LU body) s Q:=by
 simp only [Bool.and_eq_true] at hfl
 have e1:∀ N D m',1≤D→ER P O G N D g (Ef fn.ntmps lb.toList) m'=Fo (Ef fn.ntmps lb.toList) m':=fun N D m' hD=>by
  obtain ⟨D,rfl⟩:∃ j,D=j+1:=⟨D-1,by omega⟩
  have hl:=Q7 fn.ntmps lb.toList
  cases h0:Fo (Ef fn.ntmps lb.toList) m' with
  |some r=>simp only [ER,ho,Option.bind_some,h0]
  |none =>
   simp only [ER,ho,Option.bind_some,h0,hfn]
   split
   ·rfl
   ·rw [if_neg (by simp only [Bool.and_eq_true,decide_eq_true_eq];omega)]
 obtain ⟨e,m',⟨K,hK⟩,q⟩:=LV.run (a3a:=fun N D m'=>∃ m1,ER P O G N D g (Ef fn.ntmps lb.toList) m'=some (II key rows,m1)) (fun N D m' hD=>by rw [e1 N D m' hD]) h
 obtain ⟨m1,hc⟩:=hc
 refine ⟨e,_,⟨max K 1,fun N D hN hD=>?_⟩,q⟩
 have hr:=hK N D (by omega) (by omega)
 simp only [CW,hev,hfn]
 rw [if_pos ⟨rfl,hfl.1,hfl.2⟩,e1 N D s.m (by omega),hc]
 simp only [KE]
 rw [hr];rfl
end
end Go.Am
namespace Go.Vm
open Go.Am
section
variable {E:Env} {bn:Nat} {L:Vm.Frame} {H:Vm.Heap} {nx:Nat} {Q:CO→Vm.Frame→Vm.Heap→Nat→Prop}
def um (L:Vm.Frame):List Tmp→List FV→Vm.Frame
 |p::ps,f::fs=>um (OV L (some p) (.p f)) ps fs
 |_,_=>L
theorem RL.J8 {m:Mem} {F:Nat→Prop} {T:Nat→Option Tg} {σ:Nat→Value} {nx:Nat}:∀ {ps:List Tmp} {fs:List FV} {vs:List Value} {L:Vm.Frame} {t:Tr Value},RL m F T σ nx L t→DT m F fs vs→RL m F T σ nx (um L ps fs) (J8 t ps vs)
 |[],fs,vs,L,t,h,hr=>by cases hr<;>exact h
 |p::ps,_,_,L,t,h,.nil=>h
 |p::ps,_,_,L,t,h,.cons (v:=v) (vs:=vs) h1 h2=>RL.J8 (ps:=ps) (t:=Y5 t p v) (h.put (d:=some p) (.p h1)) h2
def b0x (E:Env) (g:FuncId) (fn:Func) (cs:List PV) (H:Vm.Heap) (nx:Nat) (key:Value) (rows:List (List Value)):Prop :=
 ∀ Fo,E.O g=some Fo→∀ m F σ lb,Ctx E.Γ m F σ H nx→DU m F (htag H) σ nx cs lb→∃ m1,Fo (Ef fn.ntmps lb) m=some (II key rows,m1)
def RQ (iv:Prop) (D6:Nat) (L0:Vm.Frame) (H1:Vm.Heap) (Q:CO→Vm.Frame→Vm.Heap→Nat→Prop):CO→Vm.Frame→Vm.Heap→Nat→Prop
 | .normal,_,H',nx'=>iv∧D6≤nx'∧Ak D6 H1 H'
 |e,_,H',nx'=>D6≤nx'∧∃ H2,Ak D6 H2 H'∧Q e L0 H2 D6
end
end Go.Vm
namespace Go.Vm
open Go.Am
section
variable {P:Program} {G:List Nat}
theorem J6 (n:Nat) (lb:List Value):(Ef n lb).drop (n+1)=lb:=by
 unfold Ef
 rw [List.drop_append_of_le_length (by simp),List.drop_of_length_le (by simp)];rfl
theorem jV {k k':Value} {a b:List (List Value)} (h:II k a=II k' b):k=k'∧a=b:=by
 have:=congrArg OA h
 rw [KE,KE] at this
 refine ⟨?_,Option.some.inj this⟩
 unfold II at h
 simp only [Value.tuple.injEq] at h
 have h2:=congrArg (fun x=>x.toList) h
 simp only [List.cons.injEq] at h2
 exact h2.1
abbrev zX:=List Value→Mem→Option (Value×List (List Value))
open Classical in
noncomputable def Tm (G:List Nat) (M0:Mem) (nt:Nat) (Sq:zX) (CG:List Value) (m:Mem):Option (Value×Mem) :=
 if CG=Ef nt (CG.drop (nt+1))∧∀ k∈G,m.get k=M0.get k then (Sq (CG.drop (nt+1)) m).map fun kr=>(II kr.1 kr.2,m) else none
noncomputable def zC (G:List Nat) (M0:Mem) (gf:FuncId) (nt:Nat) (Sq:zX) (O:CJ):CJ:=fun f=>if f=gf then some (Tm G M0 nt Sq) else O f
theorem kS {M0:Mem} {gf f:FuncId} {nt:Nat} {Sq:zX} {O:CJ} (h:f≠gf):zC G M0 gf nt Sq O f=O f:=if_neg h
theorem lX {M0:Mem} {gf:FuncId} {nt:Nat} {Sq:zX} {O:CJ}:zC G M0 gf nt Sq O gf=some (Tm G M0 nt Sq):=if_pos rfl
theorem LY {M0:Mem} {nt:Nat} {Sq:zX} {CG:List Value} {m:Mem} {r:Value×Mem} (h:Tm G M0 nt Sq CG m=some r):∃ lb kr,CG=Ef nt lb∧(∀ k∈G,m.get k=M0.get k)∧Sq lb m=some kr∧r=(II kr.1 kr.2,m):=by
 unfold Tm at h
 split at h
 case isFalse=>cases h
 rename_i hc
 rw [Option.map_eq_some_iff] at h
 obtain ⟨rows,h1,h2⟩:=h
 exact ⟨_,rows,hc.1,hc.2,h1,h2.symm⟩
theorem uG {M0:Mem} {nt:Nat} {Sq:zX} {lb:List Value} {m:Mem} {kr:Value×List (List Value)} (hg:∀ k∈G,m.get k=M0.get k) (h:Sq lb m=some kr):Tm G M0 nt Sq (Ef nt lb) m=some (II kr.1 kr.2,m):=by
 unfold Tm
 rw [J6,if_pos ⟨rfl,hg⟩,h];rfl
theorem dP {ι:Cc} {g:Nat→Nat} {v:Value} (h:Bh ι g U4 v):False:=by cases h
theorem ZA {gf:Nat} {lb:Array Value} {rows:List (List Value)} {I1 I2:World→Prop} {w:World} (h:WW P gf lb rows I2 w) (hi:∀ W,I1 W→I2 W):WW P gf lb rows I1 w :=
 fun l J Jx W hb hJ hx hy h0 hj=>h l J Jx W hb hJ hx (fun i W1 hi' hj'=>by
  obtain ⟨fn,tmps,LU,body,e1,e2⟩:=hy i W1 hi' hj'
  refine ⟨fn,tmps,LU,body,e1,e2.mono ?_⟩
  rintro e W' (⟨q1,q2,q3⟩|q)
  ·exact .inl ⟨q1,q2,hi _ q3⟩
  ·exact .inr q) (hi _ h0) hj
theorem gQ {M0:Mem} {gf:FuncId} {nt:Nat} {Sq:zX} {O:CJ} (hO:Hg P G O) (he:Am.Enters P gf) (hnt:∀ fn,P.funcs[gf]?=some fn→fn.ntmps=nt)
 (hs:∀ (lb:List Value) (m:Mem) (key:Value) (rows:List (List Value)),Sq lb m=some (key,rows)→(∀ k∈G,m.get k=M0.get k)→∀ (ι:Cc) (w:World) (lb':Array Value),Em P G ι m w→BO ι m.gen lb lb'.toList →
  WW P gf lb' rows (VA P G (fun m'=>Sq lb m'=some (key,rows)∧∀ k∈G,m'.get k=M0.get k) ι m.gen lb lb') w):Hg P G (zC G M0 gf nt Sq O):=by
 intro f Fo hf
 by_cases h:f=gf
 ·subst h
  rw [lX] at hf
  cases hf
  refine ⟨fun CG m v m' hv ι w as' hs' hrel=>?_,fun CG m v m' hv=>?_,he,fun fn lb m m1 v rows hfn hv hr ι w lb' Eo hl=>?_⟩
  ·obtain ⟨lb,rows,rfl,_⟩:=LY hv
   rw [iT] at hrel
   obtain ⟨v',k',_,h2,_⟩:=hrel.LW
   exact (dP h2).elim
  ·obtain ⟨lb,rows,_,_,_,e⟩:=LY hv
   cases e;exact BA.refl _
  ·rw [hnt fn hfn] at hv ⊢
   obtain ⟨lb2,zK,e1,e2,e3,e4⟩:=LY hv
   have e5:lb=lb2:=by
    have:=congrArg (List.drop (nt+1)) e1
    rwa [J6,J6] at this
   subst e5
   obtain ⟨key2,zK⟩:=zK
   cases e4
   rw [KE] at hr
   cases hr
   refine ZA (hs lb m _ _ e3 e2 ι w lb' Eo hl) ?_
   rintro W ⟨ι',m',q1,q2,⟨m2,q3⟩,q4⟩
   obtain ⟨lb3,zS,p1,p2,p3,p4⟩:=LY q3
   have e6:lb=lb3:=by
    have:=congrArg (List.drop (nt+1)) p1
    rwa [J6,J6] at this
   subst e6
   simp only [Prod.mk.injEq] at p4
   obtain ⟨r1,r2⟩:=jV p4.1
   obtain ⟨b0m,zS⟩:=zS
   simp only at r1 r2
   subst r1;subst r2
   exact ⟨ι',m',q1,q2,⟨p3,p2⟩,q4⟩
 ·rw [kS h] at hf
  exact hO f Fo hf
end
end Go.Vm
