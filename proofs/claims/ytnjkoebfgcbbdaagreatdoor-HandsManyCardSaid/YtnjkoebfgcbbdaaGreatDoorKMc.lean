/-
  Texts of a proof, merged (VmB, VmC, VmD, Shelf, NumA, WA, Lib1, OraA, Ori, Vm29, Shell, WB, Am23). Conditions: in each statement.
-/
import Derived.Laws.Strings
import Derived.Laws.Strings2
import Derived.Laws.Concat
import Derived.Shelf.Strings.Builder1
import Derived.Shelf.Strings.Builder2
import Derived.Shelf.Small.Strs
import Derived.Shelf.Strings.BuilderF
import Derived.Shelf.Strings.BuilderK
import Derived.Shelf.Strconv.Itoa0
import Derived.Shelf.Strconv.Itoa1
import Derived.Shelf.LaysM
import Derived.Shelf.Strconv.Itoa2
import Derived.Shelf.Strconv.Itoa3
import Derived.Shelf.Sort.Plain
import Derived.Shelf.Strings.Prefix
import Derived.Shelf.Bits.Mul64
import Derived.Shelf.Strings.Repeat
import Derived.Ground.Names2Prog
import Derived.Shelf.Slices.CompactI
import Derived.Shelf.Slices.In.SortNone
import Derived.Test.YtnjkoebfgcbbdaaGreatDoorProg
import Derived.Lib.ItoaNum
import Derived.Lib.Bytealg
import Derived.Lib.AppendIntMem
import Derived.Lib.OthersKept
import Derived.Lib.Walk
import Derived.WalkKit
import Derived.BigCall
import Derived.BigGuard
import Derived.RangeFuncBox
import Derived.RangeFuncLeaves
import Derived.RangeFuncBound
import Derived.RangeFuncCalls
import Derived.Shelf.Abstract
import Derived.OwnWalkIn
import Derived.TacticsInMore
import Derived.LoopNIn
import Derived.LoopIn
import Derived.Laws.AppendOwn
import Derived.Sort.Grow
import Derived.Test.YtnjkoebfgcbbdaaGreatDoorTie
import Derived.ProofKit
import Derived.LaidMore
import Derived.OpenShut
import Derived.Below
import Derived.MakeChecks
import Derived.Stop.Joined
import Derived.Shelf.SlIterI.Collect
import Derived.Shelf.Spec.TrailingZeros
import Derived.Test.YtnjkoebfgcbbdaaGreatDoorKMb
set_option linter.unusedSimpArgs false
set_option linter.unusedVariables false
set_option linter.unusedSectionVars false
set_option maxRecDepth 100000
set_option maxHeartbeats 8000000
namespace Go.Vm
section
open Go.Am
variable {E:Env} {L:Frame} {H:Heap} {nx:Nat} {Q:PV→Heap→Nat→Prop} {w:Bool}
variable {dst:Option Tmp} {ty:TypeId} {pos:String} {af:Array Edge} {gd:Option (Nat×Bool)}
def gi {α:Type} [Inhabited α] (l:List α) (k:Nat):α:=(l[k]?).getD default
def encs {α:Type} (enc:α→List FV):List α→List FV
 |[]=>[]
 |a::l=>enc a++encs enc l
class Enc (α:Type) extends Inhabited α where
 enc:α→List FV
 size:Nat
 len:∀ a,(enc a).length=size
section
variable {α:Type} [Enc α]
abbrev cells (l:List α):List FV:=encs Enc.enc l
theorem Dw (l:List α):(cells l).length=l.length*Enc.size α:=by
 induction l with
 |nil=>simp [cells,encs]
 |cons a l ih=>simp only [cells,encs,List.length_append,Enc.len,List.length_cons,Nat.succ_mul] at ih ⊢;omega
theorem gB (a:α) (l:List α) (k:Nat):gi (a::l) (k+1)=gi l k:=rfl
theorem Q5:∀ (l:List α) (k:Nat),k<l.length→(cells l).drop (k*Enc.size α)=Enc.enc (gi l k)++cells (l.drop (k+1))
 |a::l,0,_=>by simp [cells,encs,gi]
 |a::l,k+1,h=>by
  have ih:=Q5 l k (by simpa using h)
  simp only [cells,encs,List.drop_succ_cons,gB] at ih ⊢
  rw [← ih,List.drop_append,Enc.len,List.drop_eq_nil_of_le (by rw [Enc.len,Nat.succ_mul];omega)]
  simp [Nat.succ_mul]
 |[],_,h=>by simp at h
theorem Fh:∀ (l r:List α),cells (l++r)=cells l++cells r
 |[],_=>rfl
 |a::l,r=>by simp only [cells,encs,List.cons_append,List.append_assoc];rw [← Fh l r]
end
instance:Enc Int:={ default:=0,enc:=fun n=>[.int .i64 n],size:=1,len:=fun _=>rfl }
theorem Aa.QF {α:Type} {_:Enc α} {t:TypeId} {x ix:Operand} {e:TypeId} {l:List α} {n:Nat} {k:IntKind} {i:Int} (hx:Bh E.Γ L x=some (.p (.lst e (cells l) n))) (hi:Bh E.Γ L ix=some (.p (.int k i)))
 (hs:elemSize E.P t=some (Enc.size α)) (h0:0≤i) (h1:i<l.length) (hn:l.length=n) (q:Q (.p (.EL (Enc.enc (gi l i.toNat)++cells (l.drop (i.toNat+1))))) H nx):Aa E w ⟨dst,.indexAddr t x ix,ty,pos,af,gd⟩ L H nx Q :=
 Aa.a9m hx hi hs h0 (by rw [← hn];exact h1) (by rw [Q5 l i.toNat (by omega)];exact q)
theorem Aa.AP {α:Type} {_:Enc α} {t:TypeId} {x ix:Operand} {e:TypeId} {l:List α} {n:Nat} {k:IntKind} {i:Nat} (hx:Bh E.Γ L x=some (.p (.lst e (cells l) n))) (hi:Bh E.Γ L ix=some (.p (.int k (i:Int))))
 (hs:elemSize E.P t=some (Enc.size α)) (h1:i<l.length) (hn:l.length=n) (q:Q (.p (.EL (Enc.enc (gi l i)++cells (l.drop (i+1))))) H nx):Aa E w ⟨dst,.indexAddr t x ix,ty,pos,af,gd⟩ L H nx Q :=
 Aa.QF hx hi hs (by omega) (by omega) hn q
theorem Aa.a8p {α:Type} {_:Enc α} {t:TypeId} {x ix:Operand} {e:TypeId} {l:List α} {n:Nat} {k:IntKind} {i:Nat} (hx:Bh E.Γ L x=some (.p (.lst e (cells l) n))) (hi:Bh E.Γ L ix=some (.p (.int k ((i:Int)-1))))
 (hs:elemSize E.P t=some (Enc.size α)) (h0:0<i) (h1:i-1<l.length) (hn:l.length=n) (q:Q (.p (.EL (Enc.enc (gi l (i-1))++cells (l.drop (i-1+1))))) H nx):Aa E w ⟨dst,.indexAddr t x ix,ty,pos,af,gd⟩ L H nx Q :=
 Aa.QF hx hi hs (by omega) (by omega) hn (by rw [show ((i:Int)-1).toNat=i-1 by omega];exact q)
abbrev lst {α:Type} [Enc α] (e:TypeId) (l:List α):PV:=.p (.lst e (cells l) l.length)
section
variable {bn:Nat} {ops:Array Oper} {op:Op} {l:List Oper} {i:Nat} {R:Frame→Heap→Nat→Prop}
theorem Ad.one (h:Aa E true ⟨dst,op,ty,pos,af,none⟩ L H nx fun r H' nx'=>Ad E bn ops l (Gy L dst r) H' nx' R):Ad E bn ops (⟨dst,op,ty,pos,af,none⟩::l) L H nx R:=Ad.cons rfl h
theorem Ad.take {j d:Nat} {want:Bool} (hd:(ops[j]?).bind (·.dst)=some d) (hb:ET L d=some (.p (.bool want))) (h:Aa E true ⟨dst,op,ty,pos,af,some (j,want)⟩ L H nx fun r H' nx'=>Ad E bn ops l (Gy L dst r) H' nx' R) :
 Ad E bn ops (⟨dst,op,ty,pos,af,some (j,want)⟩::l) L H nx R:=Ad.cons ⟨want,d,hd,hb,by cases want<;>rfl⟩ h
theorem Ad.drop {j d:Nat} {want b:Bool} (hd:(ops[j]?).bind (·.dst)=some d) (hb:ET L d=some (.p (.bool b))) (hne:(b==want)=false) (h:Ad E bn ops l (Gy L dst (.Ee [])) H nx R) :
 Ad E bn ops (⟨dst,op,ty,pos,af,some (j,want)⟩::l) L H nx R:=Ad.skip ⟨b,d,hd,hb,hne.symm⟩ h
theorem Af.drop {j d:Nat} {want b:Bool} (hd:(ops[j]?).bind (·.dst)=some d) (hb:ET L d=some (.p (.bool b))) (hne:(b==want)=false) (h:Af E bn ops (i+1) l (Gy L dst (.Ee [])) H nx R) :
 Af E bn ops i (⟨dst,op,ty,pos,af,some (j,want)⟩::l) L H nx R:=Af.skip ⟨b,d,hd,hb,hne.symm⟩ h
theorem Ad.guard {j d:Nat} {want:Bool} {p:Prop} {_:Decidable p} (hd:(ops[j]?).bind (·.dst)=some d) (hb:ET L d=some (.p (.bool (decide p))))
 (ht:p→Ad E bn ops (⟨dst,op,ty,pos,af,some (j,want)⟩::l) ((d,.p (.bool true))::L) H nx R) (hf:¬ p→Ad E bn ops (⟨dst,op,ty,pos,af,some (j,want)⟩::l) ((d,.p (.bool false))::L) H nx R) :
 Ad E bn ops (⟨dst,op,ty,pos,af,some (j,want)⟩::l) L H nx R:=Ad.split rfl hd hb ht hf
theorem Af.guard {j d:Nat} {want:Bool} {p:Prop} {_:Decidable p} (hd:(ops[j]?).bind (·.dst)=some d) (hb:ET L d=some (.p (.bool (decide p))))
 (ht:p→Af E bn ops i (⟨dst,op,ty,pos,af,some (j,want)⟩::l) ((d,.p (.bool true))::L) H nx R) (hf:¬ p→Af E bn ops i (⟨dst,op,ty,pos,af,some (j,want)⟩::l) ((d,.p (.bool false))::L) H nx R) :
 Af E bn ops i (⟨dst,op,ty,pos,af,some (j,want)⟩::l) L H nx R:=Af.split rfl hd hb ht hf
def Au (E:Env) (bn:Nat) (k:Code) (Q:BZ→Frame→Heap→Nat→Prop) (e:BZ) (L:Frame) (H:Heap) (nx:Nat):Prop :=
 match e with
 | .normal=>Ac E bn k L H nx Q
 | .ret=>Q .ret L H nx
 | .exit i=>Q (.exit i) L H nx
def Ap (id:Nat) (Q:BZ→Frame→Heap→Nat→Prop) (e:BZ) (L:Frame) (H:Heap) (nx:Nat):Prop :=
 match e with
 | .normal=>Q .normal L H nx
 | .ret=>Q .ret L H nx
 | .exit i=>if i=id then Q .normal L H nx else Q (.exit i) L H nx
def Ah (I:Frame→Heap→Nat→Prop) (Q:BZ→Frame→Heap→Nat→Prop) (e:BZ) (L:Frame) (H:Heap) (nx:Nat):Prop :=
 match e with
 | .normal=>I L H nx
 | .ret=>Q .ret L H nx
 | .exit i=>Q (.exit i) L H nx
variable {Q:BZ→Frame→Heap→Nat→Prop} {I:Frame→Heap→Nat→Prop} {a b c k:Code} {id:Nat} {x:Operand}
theorem Au.normal (h:Ac E bn k L H nx Q):Au E bn k Q .normal L H nx:=h
theorem Au.ret (h:Q .ret L H nx):Au E bn k Q .ret L H nx:=h
theorem Ap.normal (h:Q .normal L H nx):Ap id Q .normal L H nx:=h
theorem Ap.ret (h:Q .ret L H nx):Ap id Q .ret L H nx:=h
theorem Ap.exit (h:Q .normal L H nx):Ap id Q (.exit id) L H nx:=by simp only [Ap,if_true];exact h
theorem Ah.normal (h:I L H nx):Ah I Q .normal L H nx:=h
theorem Ah.ret (h:Q .ret L H nx):Ah I Q .ret L H nx:=h
theorem Ah.exit (h:Q (.exit i) L H nx):Ah I Q (.exit i) L H nx:=h
theorem Ac.to (h:Ac E bn a L H nx (Au E bn k Q)):Ac E bn (.seq a k) L H nx Q :=
 Ac.seq (h.mono fun e _ _ _ q=>by cases e<;>exact q)
theorem Ac.Ak (h:Ad E bn ops ops.toList L H nx fun L' H' nx'=>Ac E bn k L' H' nx' Q):Ac E bn (.seq (.region id ops false) k) L H nx Q:=Ac.seq (Ac.region h)
theorem Ac.Dq (h:Af E bn ops 0 ops.toList L H nx fun L' H' nx'=>Ac E bn k L' H' nx' Q):Ac E bn (.seq (.region id ops true) k) L H nx Q:=Ac.seq (Ac.Gv h)
theorem Ac.assoc (h:Ac E bn (.seq a (.seq b c)) L H nx Q):Ac E bn (.seq (.seq a b) c) L H nx Q:=by
 intro B hB m F σ t h1 h2 h3
 obtain ⟨e,s,⟨K,hk⟩,q⟩:=h B hB m F σ t h1 h2 h3
 refine ⟨e,s,⟨K,fun N D hN hD=>?_⟩,q⟩
 have:=hk N D hN hD
 simp only [BX] at this ⊢
 cases ha:BX E.P (EP E.P E.O E.G N D) N a ⟨t,m⟩ with
 |none=>rw [ha] at this;cases this
 |some r =>
  rw [ha] at this
  obtain ⟨e1,s1⟩:=r
  cases e1<;>simpa using this
theorem Ac.Ai (h:Ac E bn k L H nx Q):Ac E bn (.seq .skip k) L H nx Q:=Ac.seq (Ac.skip h)
theorem Ac.BL (h:Q .ret L H nx):Ac E bn (.seq .ret k) L H nx Q:=Ac.seq (Ac.ret h)
theorem Ac.Bl (h:Q (.exit i) L H nx):Ac E bn (.seq (.exit i) k) L H nx Q:=Ac.seq (Ac.exit h)
theorem Ac.Ag (h:Ac E bn a L H nx (Ap id (Au E bn k Q))):Ac E bn (.seq (.block id a) k) L H nx Q :=
 Ac.to (Ac.block (h.mono fun e _ _ _ q=>by cases e<;>exact q))
theorem Ac.NI (h:Ac E bn a L H nx (Ap id Q)):Ac E bn (.block id a) L H nx Q :=
 Ac.block (h.mono fun e _ _ _ q=>by cases e<;>exact q)
theorem Ac.Pm (t:Bool) (hc:Bh E.Γ L x=some (.p (.bool t))) (ht:t=true→Ac E bn (.seq a k) L H nx Q) (hf:t=false→Ac E bn (.seq b k) L H nx Q):Ac E bn (.seq (.cond x a b) k) L H nx Q:=by
 intro B hB m F σ u h1 h2 h3
 have hx:=GX h1 h2 hc
 cases t with
 |true =>
  obtain ⟨e',s,⟨K,hk⟩,q⟩:=ht rfl B hB m F σ u h1 h2 h3
  exact ⟨e',s,⟨K,fun N D hN hD=>by have:=hk N D hN hD;simp only [BX,hx] at this ⊢;exact this⟩,q⟩
 |false =>
  obtain ⟨e',s,⟨K,hk⟩,q⟩:=hf rfl B hB m F σ u h1 h2 h3
  exact ⟨e',s,⟨K,fun N D hN hD=>by have:=hk N D hN hD;simp only [BX,hx] at this ⊢;exact this⟩,q⟩
theorem Ac.Bf (hc:Bh E.Γ L x=some (.p (.bool true))) (ht:Ac E bn (.seq a k) L H nx Q):Ac E bn (.seq (.cond x a b) k) L H nx Q:=Ac.Pm true hc (fun _=>ht) (fun h=>by cases h)
theorem Ac.Aq (hc:Bh E.Γ L x=some (.p (.bool false))) (hf:Ac E bn (.seq b k) L H nx Q):Ac E bn (.seq (.cond x a b) k) L H nx Q:=Ac.Pm false hc (fun h=>by cases h) (fun _=>hf)
theorem Ac.Ae {p:Prop} {_:Decidable p} (hc:Bh E.Γ L x=some (.p (.bool (decide p)))) (ht:p→Ac E bn (.seq a k) L H nx Q) (hf:¬ p→Ac E bn (.seq b k) L H nx Q):Ac E bn (.seq (.cond x a b) k) L H nx Q :=
 Ac.Pm (decide p) hc (fun h=>ht (of_decide_eq_true h)) (fun h=>hf (of_decide_eq_false h))
theorem Ac.Gp {α:Type} (Lf:α→Frame) (Hf:α→Heap) (DC:Nat) (inv:α→Prop) (μ:α→Nat) (a0:α) (hb:bn≤DC) (h0:inv a0) (hc:Yi L H nx (Lf a0) (Hf a0) DC)
 (hs:∀ s,inv s→Ac E bn a (Lf s) (Hf s) DC (Ah (fun L' H' nx'=>∃ s',inv s'∧μ s'<μ s∧Yi L' H' nx' (Lf s') (Hf s') DC) Q)):Ac E bn (.loop a) L H nx Q :=
 Ac.loop Lf Hf DC inv μ a0 hb h0 hc fun s hi=>(hs s hi).mono fun e _ _ _ q=>by cases e<;>exact q
theorem FY.nil {k:Nat}:FY k [] L:=trivial
theorem FY.cons {k i:Nat} {v v0:PV} {L0:Frame} (hu:v0.under k) (hv:ET L i=some v) (hle:xM v v0) (t:FY k L0 L):FY k ((i,v0)::L0) L:=⟨⟨hu,v,hv,hle⟩,t⟩
theorem FY.same {k i:Nat} {v0:PV} {L0:Frame} (hu:v0.under k) (hv:ET L i=some v0) (t:FY k L0 L):FY k ((i,v0)::L0) L:=⟨⟨hu,v0,hv,.refl _⟩,t⟩
theorem Ci.nil {k:Nat}:Ci k [] H:=trivial
theorem Ci.cons {k i:Nat} {v v0:HB} {L0:Heap} (hi:i<k) (hu:v0.under k) (hv:hget H i=some v) (hle:Jj v v0) (t:Ci k L0 H):Ci k ((i,v0)::L0) H:=⟨⟨hi,hu,v,hv,hle⟩,t⟩
theorem Done.ret {P:Program} {rs:List ResultVar} {Q:PV→Heap→Nat→Prop} {r r0:PV} {H0:Heap} {DC:Nat} (h:Ei P rs L H=some r0) (hle:xM r0 r) (hu:r.under DC) (hH:Ci DC H0 H) (hn:DC≤nx) (hb:bn≤DC) (q:Q r H0 DC):Done P rs bn Q .ret L H nx :=
 ⟨r0,h,r,H0,DC,hle,hu,hH,hn,hb,q⟩
end
end
section
open Go.Am
variable {E:Env} {L:Frame} {H:Heap} {nx:Nat} {Q:PV→Heap→Nat→Prop} {w:Bool}
variable {dst:Option Tmp} {ty:TypeId} {pos:String} {af:Array Edge} {gd:Option (Nat×Bool)}
mutual
def PV.rn (ρ:Nat→Nat):PV→PV
 | .p x=>.p x
 | .agg cs=>.agg (CZ.rn ρ cs)
 | .Ee cs=>.Ee (CZ.rn ρ cs)
 | .vec b tag off len=>.vec (ρ b) tag off len
 | .ref b off=>.ref (ρ b) off
 | .Fq b tag off=>.Fq (ρ b) tag off
 | .mref b=>.mref (ρ b)
 | .clo f fs cs=>.clo f (CZ.rn ρ fs) (CZ.rn ρ cs)
def CZ.rn (ρ:Nat→Nat):List PV→List PV
 |[]=>[]
 |c::cs=>PV.rn ρ c::CZ.rn ρ cs
end
def HB.rn (ρ:Nat→Nat):HB→HB
 | .box e cs=>.box e (CZ.rn ρ cs)
 | .vec e cs n z=>.vec e cs n z
 | .map es=>.map es
 | .OY e cs n=>.OY e (CZ.rn ρ cs) n
 | .IU ks cs=>.IU ks (CZ.rn ρ cs)
theorem HB.qg (ρ:Nat→Nat) (x:HB):(x.rn ρ).tag=x.tag:=by cases x<;>rfl
section
variable {m:Mem} {F:Nat→Prop} {T T':Nat→Option Tg} {σ σ':Nat→Value} {n n':Nat} {ρ:Nat→Nat}
mutual
theorem RP.rn (h:∀ b,b<n→ρ b<n'∧T' (ρ b)=T b∧σ' (ρ b)=σ b):∀ {x:PV} {v:Value},RP m F T σ n x v→RP m F T' σ' n' (x.rn ρ) v
 |_,_,.p r=>.p r
 |_,_,.agg r hc=>.agg (Dx.rn h r) hc
 |_,_,.Ee r=>.Ee (Dx.rn h r)
 |_,_,.vec hb hc r=>.vec (h _ hb).1 hc (by rw [(h _ hb).2.1,(h _ hb).2.2];exact r)
 |_,_,.ref hb hc r=>.ref (h _ hb).1 hc (by rw [(h _ hb).2.1,(h _ hb).2.2];exact r)
 |_,_,.Fq hb hc r=>.Fq (h _ hb).1 hc (by rw [(h _ hb).2.1,(h _ hb).2.2];exact r)
 |_,_,.mref hb hc r=>.mref (h _ hb).1 hc (by rw [(h _ hb).2.1,(h _ hb).2.2];exact r)
 |_,_,.clo r1 r2=>.clo (Dx.rn h r1) (Dx.rn h r2)
theorem Dx.rn (h:∀ b,b<n→ρ b<n'∧T' (ρ b)=T b∧σ' (ρ b)=σ b):∀ {x:List PV} {v:List Value},Dx m F T σ n x v→Dx m F T' σ' n' (CZ.rn ρ x) v
 |_,_,.nil=>.nil
 |_,_,.cons r t=>.cons (RP.rn h r) (Dx.rn h t)
end
mutual
theorem RP.Ux (h:∀ b,b<n→(∀ t,T b=some t→T' (ρ b)=some t)∧σ' (ρ b)=σ b):∀ {x:PV} {v:Value},x.under n→RP m F T' σ' n' (x.rn ρ) v→RP m F T σ n x v
 | .p _,_,_,r=>by cases r with|p r=>exact .p r
 | .agg cs,_,hu,r=>by
  simp only [PV.rn] at r
  cases r with|agg r hc=>exact .agg (Dx.Ux h hu r) hc
 | .Ee cs,_,hu,r=>by
  simp only [PV.rn] at r
  cases r with|Ee r=>exact .Ee (Dx.Ux h hu r)
 | .vec b tag off len,_,hu,r=>by
  simp only [PV.rn] at r
  cases r with
  |vec hb hc r =>
   refine .vec hu hc fun k hk=>?_
   have:=r k ((h b hu).1 _ hk)
   rw [(h b hu).2] at this
   exact this
 | .ref b off,_,hu,r=>by
  simp only [PV.rn] at r
  cases r with
  |ref hb hc r =>
   refine .ref hu hc fun hk=>?_
   have:=r ((h b hu).1 _ hk)
   rw [(h b hu).2] at this
   exact this
 | .Fq b tag off,_,hu,r=>by
  simp only [PV.rn] at r
  cases r with
  |Fq hb hc r =>
   refine .Fq hu hc fun k hk=>?_
   have:=r k ((h b hu).1 _ hk)
   rw [(h b hu).2] at this
   exact this
 | .mref b,_,hu,r=>by
  simp only [PV.rn] at r
  cases r with
  |mref hb hc r =>
   refine .mref hu hc fun hk=>?_
   have:=r ((h b hu).1 _ hk)
   rw [(h b hu).2] at this
   exact this
 | .clo f fs cs,_,hu,r=>by
  simp only [PV.rn] at r
  cases r with|clo r1 r2=>exact .clo (Dx.Ux h hu.1 r1) (Dx.Ux h hu.2 r2)
theorem Dx.Ux (h:∀ b,b<n→(∀ t,T b=some t→T' (ρ b)=some t)∧σ' (ρ b)=σ b):∀ {x:List PV} {v:List Value},CZ.under n x→Dx m F T' σ' n' (CZ.rn ρ x) v→Dx m F T σ n x v
 |[],_,_,r=>by cases r;exact .nil
 |c::cs,_,hu,r=>by cases r with|cons r t=>exact .cons (RP.Ux h hu.1 r) (Dx.Ux h hu.2 t)
end
end
def idx:List Nat→Nat→Option Nat
 |[],_=>none
 |a::l,b=>match Nat.decEq a b with
  | .isTrue _=>some 0
  | .isFalse _=>(idx l b).map (·+1)
theorem Xa:∀ {l:List Nat} {b i:Nat},idx l b=some i→l[i]?=some b
 |a::l,b,i,h=>by
  simp only [idx] at h
  split at h
  ·rename_i e _;cases h;subst e;rfl
  ·simp only [Option.map_eq_some_iff] at h
   obtain ⟨j,h1,rfl⟩:=h
   simpa using Xa h1
theorem a0f:∀ {l:List Nat} {b i:Nat},l.Nodup→l[i]?=some b→idx l b=some i
 |[],_,_,_,h=>by simp at h
 |a::l,b,i,hn,h=>by
  simp only [List.nodup_cons] at hn
  cases i with
  |zero =>
   simp only [List.getElem?_cons_zero,Option.some.injEq] at h
   subst h
   simp only [idx]
   cases hd:Nat.decEq a a with
   |isTrue _=>rfl
   |isFalse e=>exact absurd rfl e
  |succ i =>
   simp only [List.getElem?_cons_succ] at h
   have hne:a≠b:=fun e=>hn.1 (e▸List.mem_of_getElem? h)
   simp only [idx]
   cases hd:Nat.decEq a b with
   |isTrue e=>exact absurd e hne
   |isFalse _=>simp only [a0f hn.2 h,Option.map_some]
def rho (ns:List Nat) (nx:Nat) (i:Nat):Nat :=
 match ns[i]? with
 |some b=>b
 |none=>nx+(i-ns.length)
def merge (ns:List Nat) (ρ:Nat→Nat) (H':Heap):Heap→Heap
 |[]=>[]
 |(b,x)::H=>match idx ns b with
  |none=>(b,x)::merge ns ρ H' H
  |some i=>match hget H' i with
   |some y=>(b,y.rn ρ)::merge ns ρ H' H
   |none=>merge ns ρ H' H
def news (k:Nat) (ρ:Nat→Nat):Heap→Heap→Heap
 |[],H=>H
 |(i,x)::H',H=>match Nat.decLt i k with
  | .isTrue _=>news k ρ H' H
  | .isFalse _=>(ρ i,x.rn ρ)::news k ρ H' H
theorem FB {ns:List Nat} {ρ:Nat→Nat} {H':Heap}:∀ {H:Heap} {b:Nat},idx ns b=none→hget (merge ns ρ H' H) b=hget H b
 |[],_,_=>rfl
 |(a,x)::H,b,h=>by
  have ih:=FB (ns:=ns) (ρ:=ρ) (H':=H') (H:=H) h
  simp only [merge]
  cases hi:idx ns a with
  |none=>simp only [BA,ih]
  |some i =>
   have hne:a≠b:=fun e=>by rw [e,h] at hi;cases hi
   simp only [BA,if_neg hne]
   cases hget H' i with
   |none=>exact ih
   |some y=>simp only [BA,if_neg hne];exact ih
theorem Ju {ns:List Nat} {ρ:Nat→Nat} {H':Heap}:∀ {H:Heap} {b i:Nat},idx ns b=some i→hget (merge ns ρ H' H) b=if (hget H b).isSome then (hget H' i).map (HB.rn ρ) else none
 |[],_,_,_=>by simp [merge,hget]
 |(a,x)::H,b,i,h=>by
  have ih:=Ju (ns:=ns) (ρ:=ρ) (H':=H') (H:=H) h
  simp only [merge]
  by_cases e:a=b
  ·subst e
   rw [h]
   simp only [BA,if_true,Option.isSome_some]
   cases hi:hget H' i with
   |none =>
    simp only [Option.map_none]
    rw [ih]
    split
    ·rw [hi];rfl
    ·rfl
   |some y=>simp only [BA,if_true,Option.map_some]
  ·simp only [BA,if_neg e]
   cases hj:idx ns a with
   |none=>simp only [BA,if_neg e];exact ih
   |some j =>
    simp only
    cases hget H' j with
    |none=>exact ih
    |some y=>simp only [BA,if_neg e];exact ih
theorem JW {k:Nat} {ρ:Nat→Nat} {H:Heap}:∀ {H':Heap} {b:Nat},(∀ i j,ρ i=ρ j→k≤i→k≤j→i=j) →
 (∃ i,k≤i∧ρ i=b∧(hget H' i).isSome∧hget (news k ρ H' H) b=(hget H' i).map (HB.rn ρ))∨((∀ i,k≤i→ρ i=b→hget H' i=none)∧hget (news k ρ H' H) b=hget H b)
 |[],b,_=>.inr ⟨fun _ _ _=>rfl,rfl⟩
 |(i,x)::H',b,hinj=>by
  have ih:=JW (k:=k) (ρ:=ρ) (H:=H) (H':=H') (b:=b) hinj
  simp only [news]
  cases hd:Nat.decLt i k with
  |isTrue hlt =>
   simp only
   rcases ih with ⟨j,h1,h2,h3,h4⟩|⟨h1,h2⟩
   ·refine .inl ⟨j,h1,h2,?_⟩
    rw [BA,if_neg (by omega)]
    exact ⟨h3,h4⟩
   ·refine .inr ⟨fun j hj hb=>?_,h2⟩
    rw [BA,if_neg (by omega)]
    exact h1 j hj hb
  |isFalse hge =>
   simp only [BA]
   by_cases e:ρ i=b
   ·refine .inl ⟨i,by omega,e,?_⟩
    rw [if_pos rfl,if_pos e]
    exact ⟨rfl,rfl⟩
   ·rw [if_neg e]
    rcases ih with ⟨j,h1,h2,h3,h4⟩|⟨h1,h2⟩
    ·refine .inl ⟨j,h1,h2,?_⟩
     rw [if_neg (fun e':i=j=>e (by rw [e'];exact h2))]
     exact ⟨h3,h4⟩
    ·refine .inr ⟨fun j hj hb=>?_,h2⟩
     rw [if_neg (fun e':i=j=>e (by rw [e'];exact hb))]
     exact h1 j hj hb
def HIn (ρ:Nat→Nat) (H:Heap):Heap→Prop
 |[]=>True
 |(i,x)::Hc=>(∃ y,hget H (ρ i)=some y∧Jj y (x.rn ρ))∧HIn ρ H Hc
theorem HIn.get {ρ:Nat→Nat} {H:Heap}:∀ {Hc:Heap},HIn ρ H Hc→∀ i x,hget Hc i=some x→∃ y,hget H (ρ i)=some y∧Jj y (x.rn ρ)
 |[],_,_,_,h=>by cases h
 |(j,y)::Hc,⟨h1,h2⟩,i,x,h=>by
  rw [BA] at h
  by_cases e:j=i
  ·rw [if_pos e] at h;cases h;subst e;exact h1
  ·rw [if_neg e] at h;exact HIn.get h2 i x h
def JY (k:Nat):Heap→Prop
 |[]=>True
 |(i,x)::H=>(i<k∧x.under k)∧JY k H
theorem JY.get {k:Nat}:∀ {H:Heap},JY k H→∀ i x,hget H i=some x→i<k∧x.under k
 |[],_,_,_,h=>by cases h
 |(j,y)::Hc,⟨h1,h2⟩,i,x,h=>by
  rw [BA] at h
  by_cases e:j=i
  ·rw [if_pos e] at h;cases h;subst e;exact h1
  ·rw [if_neg e] at h;exact JY.get h2 i x h
theorem RB.le {m:Mem} {F:Nat→Prop} {T:Nat→Option Tg} {σ:Nat→Value} {n:Nat} {s:Value} {x y:HB} (h:Jj x y) (r:RB m F T σ n s x):RB m F T σ n s y:=by
 cases h with
 |refl=>exact r
 |box h=>obtain ⟨c,vs,r1,r2,r3,r4,r5,r6⟩:=r;exact ⟨c,vs,r1,r2,r3,r4,Dx.le h r5,r6⟩
 |vec h hn =>
  subst hn
  rcases r with ⟨r1,r2,r3⟩|⟨c,g,vs,r1,r2,r3,r4,r5,r6⟩
  ·subst r1
   cases h with|refl=>exact .inl ⟨rfl,r2,r3⟩
  ·exact .inr ⟨c,g,vs,r1,r2,r3,r4,Dv.le h r5,r6⟩
theorem RB.rn {m:Mem} {F:Nat→Prop} {T T':Nat→Option Tg} {σ σ':Nat→Value} {n n':Nat} {ρ:Nat→Nat} {s:Value} {x:HB} (h:∀ b,b<n→ρ b<n'∧T' (ρ b)=T b∧σ' (ρ b)=σ b) (r:RB m F T σ n s x):RB m F T' σ' n' s (x.rn ρ):=by
 cases x with
 |box e cs=>obtain ⟨c,vs,r1,r2,r3,r4,r5,r6⟩:=r;exact ⟨c,vs,r1,r2,r3,r4,Dx.rn h r5,r6⟩
 |vec e cs k z=>exact r
 |map es=>exact r
 |OY e cs k=>obtain ⟨c,g,vs,r1,r2,r3,r4,r5,r6⟩:=r;exact ⟨c,g,vs,r1,r2,r3,r4,Dx.rn h r5,r6⟩
 |IU ks cs=>obtain ⟨r,l,clock,r1,r2,r3,r4,r5,r6,r7⟩:=r;exact ⟨r,l,clock,r1,r2,r3,r4,r5,Dx.rn h r6,r7⟩
theorem RB.Ux {m:Mem} {F:Nat→Prop} {T T':Nat→Option Tg} {σ σ':Nat→Value} {n n':Nat} {ρ:Nat→Nat} {s:Value} {x:HB} (h:∀ b,b<n→(∀ t,T b=some t→T' (ρ b)=some t)∧σ' (ρ b)=σ b) (hu:x.under n) (r:RB m F T' σ' n' s (x.rn ρ)):RB m F T σ n s x:=by
 cases x with
 |box e cs=>obtain ⟨c,vs,r1,r2,r3,r4,r5,r6⟩:=r;exact ⟨c,vs,r1,r2,r3,r4,Dx.Ux h hu r5,r6⟩
 |vec e cs k z=>exact r
 |map es=>exact r
 |OY e cs k=>obtain ⟨c,g,vs,r1,r2,r3,r4,r5,r6⟩:=r;exact ⟨c,g,vs,r1,r2,r3,r4,Dx.Ux h hu r5,r6⟩
 |IU ks cs=>obtain ⟨r,l,clock,r1,r2,r3,r4,r5,r6,r7⟩:=r;exact ⟨r,l,clock,r1,r2,r3,r4,r5,Dx.Ux h hu r6,r7⟩
end
section
open Go.Am
variable {E:Env} {L:Frame} {H:Heap} {nx:Nat} {Q:PV→Heap→Nat→Prop} {w:Bool}
variable {dst:Option Tmp} {ty:TypeId} {pos:String} {af:Array Edge} {gd:Option (Nat×Bool)}
def evs (Γ:Nat→Option (List Value×TypeId)) (L:Frame):List Operand→Option (List PV)
 |[]=>some []
 |o::l=>match Bh Γ L o with
  |some x=>match evs Γ L l with
   |some r=>some (x::r)
   |none=>none
  |none=>none
theorem PX {Γ:Nat→Option (List Value×TypeId)} {m:Mem} {F:Nat→Prop} {σ:Nat→Value} {t:Tr Value} (hx:Ctx Γ m F σ H nx) (hl:RL m F (htag H) σ nx L t):∀ {os:List Operand} {xs:List PV},evs Γ L os=some xs→Dx m F (htag H) σ nx xs (os.map (ev t))
 |[],_,h=>by cases h;exact .nil
 |o::os,xs,h=>by
  simp only [evs] at h
  cases h1:Bh Γ L o with
  |none=>rw [h1] at h;cases h
  |some x =>
   rw [h1] at h
   cases h2:evs Γ L os with
   |none=>rw [h2] at h;cases h
   |some r=>rw [h2] at h;cases h;exact .cons (BK hx hl h1) (PX hx hl h2)
theorem Dx.append {m:Mem} {F:Nat→Prop} {T:Nat→Option Tg} {σ:Nat→Value} {n:Nat}:∀ {cs ds:List PV} {vs ws:List Value},Dx m F T σ n cs vs→Dx m F T σ n ds ws→Dx m F T σ n (cs++ds) (vs++ws)
 |_,_,_,_,.nil,h=>h
 |_,_,_,_,.cons h t,h'=>.cons h (Dx.append t h')
theorem yV {ns:List Nat} {i b:Nat} (h:ns[i]?=some b):rho ns nx i=b:=by simp only [rho,h]
theorem a0b {ns:List Nat} {i:Nat} (h:ns.length≤i):rho ns nx i=nx+(i-ns.length):=by simp only [rho,List.getElem?_eq_none h]
theorem lu {fo:Operand} {args:Array Operand} {g:FuncId} {fs cs BF ac:List PV} {ns:List Nat} {Hc:Heap} (hf:Bh E.Γ L fo=some (.clo g fs cs)) (ha:evs E.Γ L args.toList=some BF)
 (hle:MF (fs++BF++cs) (CZ.rn (rho ns nx) ac)) (hu:CZ.under ns.length ac) (ql:JY ns.length Hc) (hin:HIn (rho ns nx) H Hc) (hnd:ns.Nodup) (hlt:∀ b∈ns,b<nx) (hw:w=false→Hc=[])
 {m:Mem} {F:Nat→Prop} {σ:Nat→Value} {t:Tr Value} (h1:Ctx E.Γ m F σ H nx) (h2:RL m F (htag H) σ nx L t) :
 ∃ (vf vc:List Value) (σc:Nat→Value),ev t fo=.func (.func g) vf.toArray vc.toArray∧Ctx E.Γ m F σc Hc ns.length∧Dx m F (htag Hc) σc ns.length ac (vf++args.toList.map (ev t)++vc) ∧
  ∀ v m' r H' nx' F' σ',Ctx E.Γ m' F' σ' H' nx'→RP m' F' (htag H') σ' nx' r v→Step m F σc Hc ns.length m' F' σ' H' nx' →
   ∃ σn,Ctx E.Γ m' F' σn (news ns.length (rho ns nx) H' (merge ns (rho ns nx) H' H)) (nx+(nx'-ns.length)) ∧
    RP m' F' (htag (news ns.length (rho ns nx) H' (merge ns (rho ns nx) H' H))) σn (nx+(nx'-ns.length)) (r.rn (rho ns nx)) v ∧
    Step m F σ H nx m' F' σn (news ns.length (rho ns nx) H' (merge ns (rho ns nx) H' H)) (nx+(nx'-ns.length))∧(w=false→Quiet m m'):=by
 generalize hρ:rho ns nx=ρ at *
 generalize hk:ns.length=k at *
 have G7:∀ i,i<k→∃ b,ns[i]?=some b∧ρ i=b∧b<nx:=fun i hi=>by
  have:i<ns.length:=by omega
  refine ⟨ns[i],List.getElem?_eq_getElem this,?_,hlt _ (List.getElem_mem this)⟩
  rw [← hρ];exact yV (List.getElem?_eq_getElem this)
 have hge:∀ i,k≤i→ρ i=nx+(i-k):=fun i hi=>by rw [← hρ,← hk];exact a0b (by omega)
 have hidx:∀ i,i<k→idx ns (ρ i)=some i:=fun i hi=>by
  obtain ⟨b,hb,e,_⟩:=G7 i hi
  rw [e];exact a0f hnd hb
 have hidx':∀ b i,idx ns b=some i→i<k∧b=ρ i:=fun b i hi=>by
  have h0:=Xa hi
  have hlt':i<k:=by
   rcases Nat.lt_or_ge i ns.length with h|h
   ·omega
   ·rw [List.getElem?_eq_none h] at h0;cases h0
  obtain ⟨b',hb',e,_⟩:=G7 i hlt'
  rw [h0] at hb';cases hb'
  exact ⟨hlt',e.symm⟩
 have hTc:∀ b t,htag Hc b=some t→htag H (ρ b)=some t:=fun b t hb=>by
  unfold htag at hb ⊢
  cases h0:hget Hc b with
  |none=>rw [h0] at hb;cases hb
  |some x =>
   rw [h0] at hb
   obtain ⟨y,hy,hle⟩:=hin.get b x h0
   rw [hy,Option.map_some,hle.tag,HB.qg]
   exact hb
 have hun:∀ b,b<k→(∀ t,htag Hc b=some t→htag H (ρ b)=some t)∧σ (ρ b)=(fun i=>σ (ρ i)) b:=fun b _=>⟨hTc b,rfl⟩
 have hown:∀ c,own Hc (fun i=>σ (ρ i)) c→∃ i x y,i<k∧hget Hc i=some x∧hget H (ρ i)=some y∧Dl (σ (ρ i))=some c:=by
  rintro c ⟨i,x,hi,hb⟩
  obtain ⟨y,hy,_⟩:=hin.get i x hi
  exact ⟨i,x,y,(ql.get i x hi).1,hi,hy,hb⟩
 have hown':∀ c,own Hc (fun i=>σ (ρ i)) c→own H σ c:=fun c ho=>by
  obtain ⟨i,_,y,_,_,hy,hb⟩:=hown c ho
  exact ⟨ρ i,y,hy,hb⟩
 have V4:Ctx E.Γ m F (fun i=>σ (ρ i)) Hc k:=by
  refine ⟨h1.fr,fun i x hi=>?_,fun i i' x x' c hi hi' hb hb'=>?_,h1.gl⟩
  ·obtain ⟨y,hy,hle⟩:=hin.get i x hi
   obtain ⟨hik,hux⟩:=ql.get i x hi
   exact ⟨hik,RB.Ux hun hux (RB.le hle (h1.hp _ y hy).2)⟩
  ·obtain ⟨y,hy,_⟩:=hin.get i x hi
   obtain ⟨y',hy',_⟩:=hin.get i' x' hi'
   have e:=h1.sep _ _ y y' c hy hy' hb hb'
   have e1:=hidx i (ql.get i x hi).1
   have e2:=hidx i' (ql.get i' x' hi').1
   rw [e,e2] at e1
   cases e1;rfl
 have hfv:=BK h1 h2 hf
 generalize hfe:ev t fo=fv at hfv
 cases hfv with
 |clo r1 r2 =>
  rename_i vf vc
  have hargs:Dx m F (htag Hc) (fun i=>σ (ρ i)) k ac (vf++args.toList.map (ev t)++vc):=Dx.Ux hun hu (Dx.le hle ((r1.append (PX h1 h2 ha)).append r2))
  refine ⟨vf,vc,_,rfl,V4,hargs,?_⟩
  intro v m' r H' nx' F' σ' c1 c2 c3
  have hkn:k≤nx':=c3.Ud
  have a9a:∀ i,i<k→hget H (ρ i)=none→hget H' i=none:=fun i hi hn=>by
   have h0:=(c3.names i hi).1
   cases hh:hget H' i with
   |none=>rfl
   |some y =>
    have hty:htag H' i=some y.tag:=by simp [htag,hh]
    rw [hty] at h0
    cases hc':htag Hc i with
    |none=>rw [hc'] at h0;exact h0.elim
    |some t =>
     have:=hTc i t hc'
     simp [htag,hn] at this
  have hinj:∀ i j,ρ i=ρ j→k≤i→k≤j→i=j:=fun i j e hi hj=>by
   rw [hge i hi,hge j hj] at e;omega
  let σn:Nat→Value:=fun b=>if b<nx then (match idx ns b with|some i=>σ' i|none=>σ b) else σ' (b-nx+k)
  have a6c:∀ j,j<nx'→hget (news k ρ H' (merge ns ρ H' H)) (ρ j)=(hget H' j).map (HB.rn ρ):=fun j hj=>by
   rcases Nat.lt_or_ge j k with hjk|hjk
   ·obtain ⟨b,hb,e,hbn⟩:=G7 j hjk
    rcases JW (k:=k) (ρ:=ρ) (H:=merge ns ρ H' H) (H':=H') (b:=ρ j) hinj with ⟨i,hi,e',_⟩|⟨_,e'⟩
    ·rw [hge i hi,e] at e';omega
    ·rw [e',Ju (hidx j hjk)]
     cases hH:hget H (ρ j) with
     |none=>rw [a9a j hjk hH];rfl
     |some y=>rfl
   ·rcases JW (k:=k) (ρ:=ρ) (H:=merge ns ρ H' H) (H':=H') (b:=ρ j) hinj with ⟨i,hi,e',_,e''⟩|⟨e',e''⟩
    ·rw [hinj i j e' hi hjk] at e'';exact e''
    ·have hno:idx ns (ρ j)=none:=by
      cases hi:idx ns (ρ j) with
      |none=>rfl
      |some i =>
       obtain ⟨hik,e3⟩:=hidx' _ i hi
       obtain ⟨b,_,e4,hbn⟩:=G7 i hik
       rw [hge j hjk] at e3
       omega
     rw [e'',FB hno,h1.tX (by rw [hge j hjk];omega),e' j hjk rfl]
     rfl
  have hA:∀ j,j<nx'→ρ j<nx+(nx'-k)∧htag (news k ρ H' (merge ns ρ H' H)) (ρ j)=htag H' j∧σn (ρ j)=σ' j:=fun j hj=>by
   refine ⟨?_,?_,?_⟩
   ·rcases Nat.lt_or_ge j k with hjk|hjk
    ·obtain ⟨b,_,e,hbn⟩:=G7 j hjk;omega
    ·rw [hge j hjk];omega
   ·unfold htag
    rw [a6c j hj]
    cases hget H' j with
    |none=>rfl
    |some y=>simp [HB.qg]
   ·show (if ρ j<nx then _ else _)=_
    rcases Nat.lt_or_ge j k with hjk|hjk
    ·obtain ⟨b,_,e,hbn⟩:=G7 j hjk
     rw [if_pos (by omega),hidx j hjk]
    ·rw [hge j hjk,if_neg (by omega)]
     congr 1;omega
  have hB:∀ b,b<nx→idx ns b=none→hget (news k ρ H' (merge ns ρ H' H)) b=hget H b∧σn b=σ b:=fun b hb hi=>by
   refine ⟨?_,?_⟩
   ·rcases JW (k:=k) (ρ:=ρ) (H:=merge ns ρ H' H) (H':=H') (b:=b) hinj with ⟨i,hi',e',_⟩|⟨_,e'⟩
    ·rw [hge i hi'] at e';omega
    ·rw [e',FB hi]
   ·show (if b<nx then _ else _)=_
    rw [if_pos hb,hi]
  have hC:∀ b x,hget (news k ρ H' (merge ns ρ H' H)) b=some x→(∃ j y,j<nx'∧b=ρ j∧hget H' j=some y∧x=y.rn ρ)∨(b<nx∧idx ns b=none∧hget H b=some x):=fun b x hx=>by
   rcases Nat.lt_or_ge b nx with hb|hb
   ·cases hi:idx ns b with
    |none=>exact .inr ⟨hb,rfl,by rw [← (hB b hb hi).1];exact hx⟩
    |some i =>
     obtain ⟨hik,e⟩:=hidx' b i hi
     rw [e,a6c i (by omega)] at hx
     simp only [Option.map_eq_some_iff] at hx
     obtain ⟨y,hy,e'⟩:=hx
     exact .inl ⟨i,y,by omega,e,hy,e'.symm⟩
   ·rcases JW (k:=k) (ρ:=ρ) (H:=merge ns ρ H' H) (H':=H') (b:=b) hinj with ⟨i,hi,e',e1,e2⟩|⟨_,e'⟩
    ·rw [e2] at hx
     simp only [Option.map_eq_some_iff] at hx
     obtain ⟨y,hy,e'⟩:=hx
     exact .inl ⟨i,y,(c1.hp i y hy).1,by rw [← ‹ρ i=b›],hy,e'.symm⟩
    ·have hno:idx ns b=none:=by
      cases hi:idx ns b with
      |none=>rfl
      |some i =>
       obtain ⟨hik,e3⟩:=hidx' _ i hi
       obtain ⟨b',_,e4,hbn⟩:=G7 i hik
       omega
     rw [e',FB hno,h1.tX hb] at hx
     cases hx
  have hD:Names nx (htag H) σ (htag (news k ρ H' (merge ns ρ H' H))) σn:=fun b hb=>by
   cases hi:idx ns b with
   |none =>
    obtain ⟨e1,e2⟩:=hB b hb hi
    rw [e2]
    unfold htag
    rw [e1]
    exact ⟨UC.refl _,fun _ _ _=>rfl⟩
   |some i =>
    obtain ⟨hik,e⟩:=hidx' b i hi
    obtain ⟨_,a2,a3⟩:=hA i (by omega)
    rw [e,a2,a3]
    obtain ⟨n1,n2⟩:=c3.names i hik
    cases ht':htag H' i with
    |none=>exact ⟨trivial,fun _ _ e=>by cases e⟩
    |some t' =>
     rw [ht'] at n1 n2
     cases htc:htag Hc i with
     |none=>rw [htc] at n1;exact n1.elim
     |some tc =>
      rw [htc] at n1 n2
      rw [hTc i tc htc]
      exact ⟨n1,fun t e1 e2=>n2 t e1 e2⟩
  have hfz:=c3.frozen V4
  have hblk:∀ b x c,idx ns b=none→hget H b=some x→Dl (σ b)=some c→¬ own Hc (fun i=>σ (ρ i)) c:=fun b x c hi hb hc ho=>by
   obtain ⟨i,_,y,hik,_,hy,hbc⟩:=hown c ho
   have e:=h1.sep b (ρ i) x y c hb hy hc hbc
   rw [e,hidx i hik] at hi
   cases hi
  refine ⟨σn,⟨c1.fr,?_,?_,c1.gl⟩,RP.rn hA c2,⟨c3.size,fun c hc ho=>c3.keep c hc fun o=>ho (hown' c o),c3.JC,fun c hc hf=>?_,?_,Nat.le_add_right _ _,hD,fun j j1 j2 j3=>c3.low j j1 j2 fun c ho=>j3 c (hown' c ho)⟩,?_⟩
  ·intro b x hx
   rcases hC b x hx with ⟨j,y,hj,rfl,hy,rfl⟩|⟨hb,hi,hx'⟩
   ·obtain ⟨a1,a2,a3⟩:=hA j hj
    rw [a3]
    exact ⟨a1,RB.rn hA (c1.hp j y hy).2⟩
   ·rw [(hB b hb hi).2]
    refine ⟨by omega,(h1.hp b x hx').2.mono hfz hD (Nat.le_add_right _ _) c3.size fun c hc=>?_⟩
    have hno:=hblk b x c hi hx' hc
    obtain ⟨hnf,hcs⟩:=h1.KD ⟨b,x,hx',hc⟩
    exact ⟨c3.keep c hcs hno,fun hf=>(c3.JA c hcs hf).elim hnf hno⟩
  ·intro b b' x x' c hx hx' hbc hbc'
   rcases hC b x hx with ⟨j,y,hj,rfl,hy,rfl⟩|⟨hb,hi,hx1⟩<;>rcases hC b' x' hx' with ⟨j',y',hj',rfl,hy',rfl⟩|⟨hb',hi',hx1'⟩
   ·rw [(hA j hj).2.2] at hbc
    rw [(hA j' hj').2.2] at hbc'
    rw [c1.sep j j' y y' c hy hy' hbc hbc']
   ·rw [(hA j hj).2.2] at hbc
    rw [(hB b' hb' hi').2] at hbc'
    exact absurd (c3.IK c (h1.KD ⟨b',x',hx1',hbc'⟩).2 ⟨j,y,hy,hbc⟩) (hblk b' x' c hi' hx1' hbc')
   ·rw [(hA j' hj').2.2] at hbc'
    rw [(hB b hb hi).2] at hbc
    exact absurd (c3.IK c (h1.KD ⟨b,x,hx1,hbc⟩).2 ⟨j',y',hy',hbc'⟩) (hblk b x c hi hx1 hbc)
   ·rw [(hB b hb hi).2] at hbc
    rw [(hB b' hb' hi').2] at hbc'
    exact h1.sep b b' x x' c hx1 hx1' hbc hbc'
  ·rcases c3.JA c hc hf with h|h
   ·exact .inl h
   ·exact .inr (hown' c h)
  ·rintro c hc ⟨b,x,hx,hbc⟩
   rcases hC b x hx with ⟨j,y,hj,rfl,hy,rfl⟩|⟨hb,hi,hx1⟩
   ·rw [(hA j hj).2.2] at hbc
    exact hown' c (c3.IK c hc ⟨j,y,hy,hbc⟩)
   ·rw [(hB b hb hi).2] at hbc
    exact ⟨b,x,hx1,hbc⟩
  ·intro hwf j j1 j2
   refine c3.low j j1 j2 fun c ho=>?_
   obtain ⟨i,x,_,_,hx,_⟩:=hown c ho
   rw [hw hwf] at hx
   cases hx
theorem Aa.Y1 {fo:Operand} {args:Array Operand} {aT:Array TypeId} {g:FuncId} {fs cs BF ac:List PV} {ns:List Nat} {Hc:Heap} {Qc:PV→Heap→Nat→Prop} (hf:Bh E.Γ L fo=some (.clo g fs cs)) (ha:evs E.Γ L args.toList=some BF)
 (hle:MF (fs++BF++cs) (CZ.rn (rho ns nx) ac)) (hu:CZ.under ns.length ac) (ql:JY ns.length Hc) (hin:HIn (rho ns nx) H Hc) (hnd:ns.Nodup) (hlt:∀ b∈ns,b<nx) (hw:w=false→Hc=[]) (hc:Ba E g ac Hc ns.length Qc)
 (hq:∀ r H' nx',Qc r H' nx'→Q (r.rn (rho ns nx)) (news ns.length (rho ns nx) H' (merge ns (rho ns nx) H' H)) (nx+(nx'-ns.length))) :
 Aa E w ⟨dst,.call { callee:=.value fo,args:=args,argTypes:=aT },ty,pos,af,gd⟩ L H nx Q:=by
 intro m F σ t h1 h2
 obtain ⟨vf,vc,σc,hfe,V4,hargs,hback⟩:=lu (w:=w) hf ha hle hu ql hin hnd hlt hw h1 h2
 refine F5.call (f:=g) (BF:=vf++args.toList.map (ev t)++vc) (fun call=>by simp only [Ce,hfe]) ((hc m F _ _ V4 hargs).mono ?_)
 rintro v m' ⟨r,H',nx',F',σ',q,c1,c2,c3⟩
 obtain ⟨σn,d1,d2,d3,d4⟩:=hback v m' r H' nx' F' σ' c1 c2 c3
 exact ⟨_,_,_,F',σn,hq r H' nx' q,d1,d2,d3,d4⟩
end
section
open Go.Am
variable {E:Env} {L:Frame} {H:Heap} {nx:Nat} {Q:PV→Heap→Nat→Prop} {w:Bool}
variable {dst:Option Tmp} {ty:TypeId} {pos:String} {af:Array Edge} {gd:Option (Nat×Bool)}
def AB (E:Env) (g:FuncId) (xs:List FV) (r:PV):Prop:=Ba E g (xs.map .p) [] 0 fun r' H' nx'=>r'=r∧H'=[]∧nx'=0
def BG (E:Env) (g:FuncId) (xs:List FV) (e:TypeId) (cs:List FV) (n:Nat) (z:Bool):Prop :=
 Ba E g (xs.map .p) [] 0 fun r' H' nx'=>r'=.vec 0 n 0 n∧H'=[(0,.vec e cs n z)]∧nx'=1
theorem CZ.dZ (ρ:Nat→Nat):∀ xs:List FV,CZ.rn ρ (xs.map .p)=xs.map .p
 |[]=>rfl
 |x::xs=>by simp only [List.map_cons,CZ.rn,PV.rn,CZ.dZ ρ xs]
theorem Pv (ρ:Nat→Nat) (H':Heap):∀ H:Heap,merge [] ρ H' H=H
 |[]=>rfl
 |(b,x)::H=>by simp only [merge,idx,Pv ρ H' H]
theorem Aa.uw {fo:Operand} {args:Array Operand} {aT:Array TypeId} {g:FuncId} {BF:List PV} {xs:List FV} {Qc:PV→Heap→Nat→Prop} (hf:Bh E.Γ L fo=some (.clo g [] [])) (ha:evs E.Γ L args.toList=some BF)
 (hle:MF BF (xs.map .p)) (hc:Ba E g (xs.map .p) [] 0 Qc) (hq:∀ r H' nx',Qc r H' nx'→Q (r.rn (rho [] nx)) (news 0 (rho [] nx) H' H) (nx+nx')) :
 Aa E w ⟨dst,.call { callee:=.value fo,args:=args,argTypes:=aT },ty,pos,af,gd⟩ L H nx Q :=
 Aa.Y1 (ns:=[]) (Hc:=[]) hf ha (ac:=xs.map .p) (by simpa [CZ.dZ] using hle) (CZ.Bz _ _) trivial trivial List.nodup_nil (by simp) (fun _=>rfl) hc
  (fun r H' nx' q=>by rw [Pv];exact hq r H' nx' q)
theorem Aa.b3l {fo:Operand} {args:Array Operand} {aT:Array TypeId} {g:FuncId} {BF:List PV} {xs:List FV} {r:PV} (hf:Bh E.Γ L fo=some (.clo g [] [])) (ha:evs E.Γ L args.toList=some BF)
 (hle:MF BF (xs.map .p)) (hc:AB E g xs r) (hr:∀ ρ,r.rn ρ=r) (q:Q r H nx):Aa E w ⟨dst,.call { callee:=.value fo,args:=args,argTypes:=aT },ty,pos,af,gd⟩ L H nx Q :=
 Aa.uw hf ha hle hc fun r' H' nx' ⟨h1,h2,h3⟩=>by subst h1;subst h2;subst h3;rw [hr];exact q
theorem Aa.b2i {fo:Operand} {args:Array Operand} {aT:Array TypeId} {g:FuncId} {BF:List PV} {xs cs:List FV} {e:TypeId} {n:Nat} {z:Bool} (hf:Bh E.Γ L fo=some (.clo g [] [])) (ha:evs E.Γ L args.toList=some BF)
 (hle:MF BF (xs.map .p)) (hc:BG E g xs e cs n z) (q:Q (.vec nx n 0 n) ((nx,.vec e cs n z)::H) (nx+1)):Aa E w ⟨dst,.call { callee:=.value fo,args:=args,argTypes:=aT },ty,pos,af,gd⟩ L H nx Q :=
 Aa.uw hf ha hle hc fun r' H' nx' ⟨h1,h2,h3⟩=>by
  subst h1;subst h2;subst h3
  have e:news 0 (rho [] nx) [(0,HB.vec e cs n z)] H=(nx,.vec e cs n z)::H:=rfl
  rw [e]
  exact q
def Bo (E:Env) (L:Frame) (H:Heap) (nx:Nat) (L':Frame) (H':Heap) (nx':Nat):Prop :=
 ∀ (B:Base) m F σ t,Ctx E.Γ m F σ H nx→RL m F (htag H) σ nx L t→B.to m F σ H nx→∃ F' σ',Ctx E.Γ m F' σ' H' nx'∧RL m F' (htag H') σ' nx' L' t∧B.to m F' σ' H' nx'
section
variable {bn:Nat} {ops:Array Oper} {l:List Oper} {i:Nat} {R:Frame→Heap→Nat→Prop} {L':Frame} {H':Heap} {nx':Nat}
theorem Ac.ghost {c:Code} {Q:BZ→Frame→Heap→Nat→Prop} (g:Bo E L H nx L' H' nx') (h:Ac E bn c L' H' nx' Q):Ac E bn c L H nx Q:=fun B hB m F σ t h1 h2 h3=>by
 obtain ⟨F',σ',c1,c2,c3⟩:=g B m F σ t h1 h2 h3
 exact h B hB m F' σ' t c1 c2 c3
theorem Ad.ghost (g:Bo E L H nx L' H' nx') (h:Ad E bn ops l L' H' nx' R):Ad E bn ops l L H nx R:=fun B hB m F σ t h1 h2 h3=>by
 obtain ⟨F',σ',c1,c2,c3⟩:=g B m F σ t h1 h2 h3
 exact h B hB m F' σ' t c1 c2 c3
theorem Af.ghost (g:Bo E L H nx L' H' nx') (h:Af E bn ops i l L' H' nx' R):Af E bn ops i l L H nx R:=fun B hB m F σ t h1 h2 h3=>by
 obtain ⟨F',σ',c1,c2,c3⟩:=g B m F σ t h1 h2 h3
 exact h B hB m F' σ' t c1 c2 c3
theorem Bo.trans {L'':Frame} {H'':Heap} {nx'':Nat} (g:Bo E L H nx L' H' nx') (g':Bo E L' H' nx' L'' H'' nx''):Bo E L H nx L'' H'' nx'':=fun B m F σ t h1 h2 h3=>by
 obtain ⟨F',σ',c1,c2,c3⟩:=g B m F σ t h1 h2 h3
 exact g' B m F' σ' t c1 c2 c3
end
theorem RY {Γ:Nat→Option (List Value×TypeId)} {m:Mem} {F:Nat→Prop} {σ:Nat→Value} (e:TypeId) (h:Ctx Γ m F σ H nx) :
 Ctx Γ m F (upd σ nx Dh) ((nx,.vec e [] 0 true)::H) (nx+1)∧Step m F σ H nx m F (upd σ nx Dh) ((nx,.vec e [] 0 true)::H) (nx+1):=by
 have:=h.new (m':=m) (x:=.vec e [] 0 true) (s:=Dh) (Nat.le_refl _) (fun _ _=>rfl) (Nat.min_le_left _ _) (fun c hc=>by simp [Dl,Dh] at hc) (.inl ⟨rfl,rfl,.inl ⟨rfl,rfl⟩⟩)
 exact ⟨this.1,this.2.1⟩
theorem dQ {m:Mem} {F:Nat→Prop} {σ:Nat→Value} (e:TypeId) (H:Heap) (nx:Nat):RP m F (htag ((nx,.vec e [] 0 true)::H)) (upd σ nx Dh) (nx+1) (.vec nx 0 0 0) Dh:=by
 refine .vec (Nat.lt_succ_self _) rfl fun n hn=>?_
 rw [He,if_pos rfl] at hn
 simp only [HB.tag,Option.some.injEq,Tg.vec.injEq] at hn
 subst hn
 refine ⟨Nat.le_refl _,fun _=>?_⟩
 rw [upd_same]
 exact ⟨rfl,rfl,rfl⟩
theorem Bo.adopt (d:Nat) (e:TypeId) (hd:ET L d=some (.p (.val (.slice none 0 0)))):Bo E L H nx ((d,.vec nx 0 0 0)::L) ((nx,.vec e [] 0 true)::H) (nx+1):=fun B m F σ t h1 h2 h3=>by
 obtain ⟨c1,c2⟩:=RY e h1
 refine ⟨F,_,c1,fun i v hi=>?_,h3.trans c2⟩
 rw [DW] at hi
 by_cases ei:d=i
 ·rw [if_pos ei] at hi;cases hi
  have:=h2 d _ hd
  subst ei
  generalize CB t d=u at this
  cases this with|p h=>cases h;exact dQ e H nx
 ·rw [if_neg ei] at hi
  exact (h2 i v hi).step c2 h1
def hdel:Heap→Nat→Heap
 |[],_=>[]
 |(a,x)::H,b=>match Nat.decEq a b with
  | .isTrue _=>hdel H b
  | .isFalse _=>(a,x)::hdel H b
theorem LG (H:Heap) (b c:Nat):hget (hdel H b) c=if b=c then none else hget H c:=by
 induction H with
 |nil=>simp [hdel,hget]
 |cons a H ih =>
  obtain ⟨a,x⟩:=a
  simp only [hdel]
  cases hd:Nat.decEq a b with
  |isTrue h =>
   subst h
   simp only [BA,ih]
   by_cases e:a=c<;>simp [e]
  |isFalse h =>
   simp only [BA,ih]
   by_cases e:b=c
   ·subst e;simp [h]
   ·simp [e]
theorem Um (H:Heap) (b c:Nat):htag (hdel H b) c=if b=c then none else htag H c:=by
 unfold htag
 rw [LG]
 split<;>rfl
theorem TV {Γ:Nat→Option (List Value×TypeId)} {m:Mem} {F:Nat→Prop} {σ:Nat→Value} {b:Nat} {e:TypeId} {cs:List FV} {n:Nat} {z:Bool} (h:Ctx Γ m F σ H nx) (hb:hget H b=some (.vec e cs n z)) :
 Ctx Γ m (fun c=>F c∨Dl (σ b)=some c) σ (hdel H b) nx∧Step m F σ H nx m (fun c=>F c∨Dl (σ b)=some c) σ (hdel H b) nx ∧
 (∀ v,EW (σ b) 0 n v→RF m (fun c=>F c∨Dl (σ b)=some c) (.lst e cs n) v):=by
 have hown:∀ c,Dl (σ b)=some c→own H σ c:=fun c hc=>⟨b,_,hb,hc⟩
 have hfz:∀ c,F c→(F c∨Dl (σ b)=some c)∧m.get c=m.get c:=fun c hc=>⟨.inl hc,rfl⟩
 have hN:Names nx (htag H) σ (htag (hdel H b)) σ:=fun d _=>by
  rw [Um]
  split
  ·exact ⟨trivial,fun _ _ _=>rfl⟩
  ·exact ⟨UC.refl _,fun _ _ _=>rfl⟩
 have hsub:∀ d x,hget (hdel H b) d=some x→d≠b∧hget H d=some x:=fun d x hd=>by
  rw [LG] at hd
  split at hd
  ·cases hd
  ·rename_i hne;exact ⟨Ne.symm hne,hd⟩
 refine ⟨⟨?_,?_,?_,?_⟩,⟨Nat.le_refl _,fun _ _ _=>rfl,fun _ h=>.inl h,fun c _ hc=>hc.imp id (hown c),?_,Nat.le_refl _,hN,fun _ h _ _=>h⟩,?_⟩
 ·rintro c (hc|hc)
  ·exact h.fr c hc
  ·exact (h.KD (hown c hc)).2
 ·intro d x hd
  obtain ⟨hne,hd⟩:=hsub d x hd
  obtain ⟨h1,h2⟩:=h.hp d x hd
  refine ⟨h1,h2.mono hfz hN (Nat.le_refl _) (Nat.le_refl _) fun c hc=>⟨rfl,?_⟩⟩
  rintro (hf|hf)
  ·exact (h.KD ⟨d,x,hd,hc⟩).1 hf
  ·exact hne (h.sep d b x _ c hd hb hc hf)
 ·intro d d' x x' c hd hd' hc hc'
  exact h.sep d d' x x' c (hsub d x hd).2 (hsub d' x' hd').2 hc hc'
 ·intro g cs' e' hg
  obtain ⟨h1,h2⟩:=h.gl g cs' e' hg
  exact ⟨.inl h1,h2⟩
 ·rintro c _ ⟨d,x,hd,hc⟩
  exact ⟨d,x,(hsub d x hd).2,hc⟩
 ·intro v hv
  obtain ⟨_,hr⟩:=h.hp b _ hb
  rcases hr with ⟨r1,r2,r3⟩|⟨c,g,vs,r1,r2,r3,r4,r5,r6,r7⟩
  ·subst r1;subst r2
   rcases r3 with ⟨r3,_⟩|⟨b',o',g',r3,_⟩
   ·rw [r3] at hv;obtain ⟨rfl,_,_⟩:=hv;exact .nil _
   ·rw [r3] at hv;simp only [EW] at hv;rw [hv.1];exact .room _ _ _ _
  ·rw [r1] at hv
   simp only [EW] at hv
   subst hv
   refine .lst (.inr (by rw [r1];rfl)) r4 ?_ (r5.mono hfz) r6
   rw [List.drop_zero,r5.length];simp [takeN]
theorem Bo.freeze (d:Nat) {b n:Nat} {e:TypeId} {cs:List FV} {z:Bool} (hd:ET L d=some (.vec b n 0 n)) (hb:hget H b=some (.vec e cs n z)):Bo E L H nx ((d,.p (.lst e cs n))::L) (hdel H b) nx:=fun B m F σ t h1 h2 h3=>by
 obtain ⟨c1,c2,c3⟩:=TV h1 hb
 refine ⟨_,σ,c1,fun i v hi=>?_,h3.trans c2⟩
 rw [DW] at hi
 by_cases ei:d=i
 ·rw [if_pos ei] at hi;cases hi
  have:=h2 d _ hd
  subst ei
  generalize CB t d=u at this
  cases this with
  |vec hb' hc h=>exact .p (c3 _ ((h n (by simp [htag,hb,HB.tag])).2 rfl))
 ·rw [if_neg ei] at hi
  exact (h2 i v hi).step c2 h1
theorem Bo.Xk (a k:Nat) {b n:Nat} {e e':TypeId} {cs:List FV} {ds:List PV} {z:Bool} (ha:hget H a=some (.box e' ds)) (hk:ds[k]?=some (.vec b n 0 n)) (hb:hget H b=some (.vec e cs n z)) :
 Bo E L H nx L (hput (hdel H b) a (.box e' (ds.set k (.p (.lst e cs n))))) nx:=fun B m F σ t h1 h2 h3=>by
 obtain ⟨c1,c2,c3⟩:=TV h1 hb
 have hne:b≠a:=fun e=>by subst e;rw [ha] at hb;cases hb
 have ha':hget (hdel H b) a=some (.box e' ds):=by rw [LG,if_neg hne];exact ha
 obtain ⟨_,c,vs,r1,r2,r3,r4,r5,r6⟩:=c1.hp a _ ha'
 obtain ⟨_,c',vs',s1,s2,s3,s4,s5,s6⟩:=h1.hp a _ ha
 rw [s1] at r1;cases r1
 rw [s4] at r4;cases r4
 obtain ⟨u,hu1,hu2⟩:=s5.get hk
 have hcell:RP m (fun c=>F c∨Dl (σ b)=some c) (htag (hdel H b)) σ nx (.p (.lst e cs n)) u:=by
  cases hu2 with
  |vec hb' hc h=>exact .p (c3 _ ((h n (by simp [htag,hb,HB.tag])).2 rfl))
 obtain ⟨d1,d2⟩:=c1.change (m':=m) (b0:=a) (x':=.box e' (ds.set k (.p (.lst e cs n)))) (s':=σ a) ha' trivial (fun _=>rfl) (Nat.le_refl _) (fun _ _ _=>rfl) (fun _ h _ _=>h) (fun c hc=>.inl hc) (by
  refine ⟨_,vs,s1,s2,r3,s4,?_,s6⟩
  have:vs=vs.set k u:=by
   apply List.ext_getElem?
   intro j
   rw [List.getElem?_set]
   by_cases e:k=j
   ·subst e
    rw [if_pos rfl,hu1]
    have:k<vs.length:=by
     rcases Nat.lt_or_ge k vs.length with h|h
     ·exact h
     ·rw [List.getElem?_eq_none h] at hu1;cases hu1
    rw [if_pos this]
   ·rw [if_neg e]
  rw [this]
  exact (r5.set k hcell).mono (fun d hd=>⟨hd,rfl⟩) (Gt (x':=.box e' (ds.set k (.p (.lst e cs n)))) ha' trivial fun _=>rfl) (Nat.le_refl _))
 have hσ:upd σ a (σ a)=σ:=by funext x;simp only [upd];split<;>simp_all
 rw [hσ] at d1 d2
 exact ⟨_,σ,d1,(h2.step c2 h1).step d2 c1,(h3.trans c2).trans d2⟩
theorem Bo.xH (a k:Nat) (e:TypeId) {e':TypeId} {ds:List PV} (ha:hget H a=some (.box e' ds)) (hk:ds[k]?=some (.p (.val (.slice none 0 0)))) :
 Bo E L H nx L (hput ((nx,.vec e [] 0 true)::H) a (.box e' (ds.set k (.vec nx 0 0 0)))) (nx+1):=fun B m F σ t h1 h2 h3=>by
 obtain ⟨c1,c2⟩:=RY e h1
 have hlt:=(h1.hp a _ ha).1
 have ha':hget ((nx,HB.vec e [] 0 true)::H) a=some (.box e' ds):=by rw [BA,if_neg (by omega)];exact ha
 obtain ⟨_,c,vs,r1,r2,r3,r4,r5,r6⟩:=c1.hp a _ ha'
 obtain ⟨u,hu1,hu2⟩:=r5.get hk
 have hu:u=Dh:=by cases hu2 with|p h=>cases h;rfl
 subst hu
 obtain ⟨d1,d2⟩:=c1.change (m':=m) (b0:=a) (x':=.box e' (ds.set k (.vec nx 0 0 0))) (s':=upd σ nx Dh a) ha' trivial (fun _=>rfl) (Nat.le_refl _) (fun _ _ _=>rfl) (fun _ h _ _=>h) (fun c hc=>.inl hc) (by
  refine ⟨c,vs,r1,r2,r3,r4,?_,r6⟩
  have:vs=vs.set k Dh:=by
   apply List.ext_getElem?
   intro j
   rw [List.getElem?_set]
   by_cases e:k=j
   ·subst e
    rw [if_pos rfl,hu1]
    have:k<vs.length:=by
     rcases Nat.lt_or_ge k vs.length with h|h
     ·exact h
     ·rw [List.getElem?_eq_none h] at hu1;cases hu1
    rw [if_pos this]
   ·rw [if_neg e]
  rw [this]
  exact (r5.set k (dQ e H nx)).mono (fun d hd=>⟨hd,rfl⟩) (Gt (x':=.box e' (ds.set k (.vec nx 0 0 0))) ha' trivial fun _=>rfl) (Nat.le_refl _))
 have hσ:upd (upd σ nx Dh) a (upd σ nx Dh a)=upd σ nx Dh:=by
  funext x
  by_cases e:x=a
  ·rw [e,upd_same]
  ·rw [CQ _ _ e]
 rw [hσ] at d1 d2
 exact ⟨_,_,d1,(h2.step c2 h1).step d2 c1,(h3.trans c2).trans d2⟩
end
section
open Go.Am
variable {E:Env} {L:Frame} {H:Heap} {nx:Nat} {Q:PV→Heap→Nat→Prop} {w:Bool}
variable {dst:Option Tmp} {ty:TypeId} {pos:String} {af:Array Edge} {gd:Option (Nat×Bool)}
def evp (Γ:Nat→Option (List Value×TypeId)) (L:Frame):List (Nat×Operand)→Option (List (Nat×PV))
 |[]=>some []
 |(i,o)::l=>match Bh Γ L o with
  |some x=>match evp Γ L l with
   |some r=>some ((i,x)::r)
   |none=>none
  |none=>none
def zu:PV→Bool
 | .Ee _=>true
 |_=>false
def QB (place:Nat→Option (Nat×Nat)) (cs:List PV):List (Nat×PV)→Option (List PV)
 |[]=>some cs
 |(i,v)::rest=>match zu v with
  |true=>none
  |false=>match place i with
   |none=>none
   |some (off,size)=>if (La v).length=size∧off+size≤cs.length then QB place (Dk cs off (La v)) rest else none
theorem Nq (off:Nat):∀ (l:List Value) (k:Nat) (cs:Array Value),((l.zipIdx k).foldl (fun cs (c,j)=>cs.setIfInBounds (off+j) c) cs).toList=splice cs.toList (off+k) l
 |[],_,_=>rfl
 |a::l,k,cs=>by
  simp only [List.zipIdx_cons,List.foldl_cons]
  rw [Nq off l (k+1)]
  simp only [splice,Array.toList_setIfInBounds]
  congr 1
theorem Ol {α:Type} (l:List α):∀ (cs:List α) (o:Nat),(Dk cs o l).length=cs.length:=by
 induction l with
 |nil=>intro cs o;rfl
 |cons a l ih=>intro cs o;simp only [Dk,ih,List.length_set]
section
variable {m:Mem} {F:Nat→Prop} {T:Nat→Option Tg} {σ:Nat→Value} {n:Nat}
inductive RPp (m:Mem) (F:Nat→Prop) (T:Nat→Option Tg) (σ:Nat→Value) (n:Nat):List (Nat×PV)→List (Nat×Value)→Prop
 |nil:RPp m F T σ n [] []
 |cons {i:Nat} {x:PV} {v:Value} {l:List (Nat×PV)} {r:List (Nat×Value)} (h:RP m F T σ n x v) (t:RPp m F T σ n l r):RPp m F T σ n ((i,x)::l) ((i,v)::r)
theorem Pj (place:Nat→Option (Nat×Nat)):∀ {ps:List (Nat×PV)} {ps':List (Nat×Value)} {cs out:List PV} {cs':Array Value},RPp m F T σ n ps ps'→Dx m F T σ n cs cs'.toList→cs'.toList.all BO=true →
 QB place cs ps=some out→∃ out',Instr.fill place cs' ps'=some out'∧Dx m F T σ n out out'.toList∧out'.toList.all BO=true
 |[],_,cs,out,cs',.nil,hc,ha,h=>by
  simp only [QB,Option.some.injEq] at h
  subst h
  exact ⟨cs',rfl,hc,ha⟩
 |(i,x)::ps,_,cs,out,cs',.cons (v:=v) hx ht,hc,ha,h=>by
  simp only [QB] at h
  have hn:Uz x∧zu x=false:=by cases x<;>first|exact ⟨trivial,rfl⟩|(simp only [zu] at h;cases h)
  rw [hn.2] at h
  simp only at h
  obtain ⟨h1,h2⟩:=MJ hn.1 hx
  simp only [Instr.fill]
  cases hp:place i with
  |none=>rw [hp] at h;cases h
  |some q =>
   obtain ⟨off,size⟩:=q
   rw [hp] at h
   simp only at h ⊢
   split at h
   ·rename_i hl
    obtain ⟨hl,hle⟩:=hl
    have e1:=h1.length
    have e2:=hc.length
    simp only [Array.length_toList] at e1 e2
    rw [if_neg (by simp only [ne_eq,gt_iff_lt,Bool.or_eq_true,decide_eq_true_eq,not_or];omega)]
    refine Pj place ht ?_ ?_ h
    ·rw [← Array.foldl_toList,Array.toList_zipIdx,Nq,Nat.add_zero]
     exact Dx.splice off hc h1
    ·rw [← Array.foldl_toList,Array.toList_zipIdx,Nq,Nat.add_zero]
     exact Kr _ ha h2
   ·cases h
end
theorem WJ {Γ:Nat→Option (List Value×TypeId)} {m:Mem} {F:Nat→Prop} {σ:Nat→Value} {t:Tr Value} (hx:Ctx Γ m F σ H nx) (hl:RL m F (htag H) σ nx L t):∀ {ps:List (Nat×Operand)} {xs:List (Nat×PV)},evp Γ L ps=some xs→RPp m F (htag H) σ nx xs (ps.map fun (i,x)=>(i,ev t x))
 |[],_,h=>by cases h;exact .nil
 |(i,o)::os,xs,h=>by
  simp only [evp] at h
  cases h1:Bh Γ L o with
  |none=>rw [h1] at h;cases h
  |some x =>
   rw [h1] at h
   cases h2:evp Γ L os with
   |none=>rw [h2] at h;cases h
   |some r=>rw [h2] at h;cases h;exact .cons (BK hx hl h1) (WJ hx hl h2)
theorem bQ {P:Program} {t:TypeId} {z:List Value} {fields:Array Field} {places:Array (Nat×Nat)} {ps:Array (Nat×Value)} {out:Array Value} (hz:Cj P t=some z) (hu:P.underlying t=some (.struct fields))
 (hpl:DJ P (Array.mapM (fun f=>do pure (f.offset,← sizeOf f.type)) fields)=some places) (hf:Instr.fill (fun x=>places[x]?) z.toArray ps.toList=some out):DJ P (Instr.build t ps)=some (.agg out):=by
 obtain ⟨i,zv,h1,h2,h3,h4⟩:=BP hz
 unfold Instr.build
 simp only [Ar]
 have hzv:DJ P (zeroValue t)=some zv:=by
  simp only [zeroValue,Ar,JI,h1,Option.bind_some,h2]
  rfl
 rw [hzv]
 simp only [Option.bind_some,Bg,hu]
 simp only [Ar,hpl,Option.bind_some]
 have e:zv.cells=z.toArray:=by rw [h3]
 rw [e,hf]
 rfl
def PW (P:Program):List Field→Option (List (Nat×Nat))
 |[]=>some []
 |f::l=>match P.info? f.type with
  |some i=>match PW P l with
   |some r=>some ((f.offset,i.size)::r)
   |none=>none
  |none=>none
theorem UM {P:Program}:∀ (l:List Field),DJ P (l.mapM fun f=>(do pure (f.offset,← sizeOf f.type):Sem (Nat×Nat)))=PW P l
 |[]=>rfl
 |f::l=>by
  rw [List.mapM_cons]
  simp only [Ar,Fp,PW,UM l]
  cases P.info? f.type with
  |none=>rfl
  |some i =>
   simp only [Option.map_some,Option.bind_some]
   cases PW P l<;>rfl
theorem mG {P:Program} {fields:Array Field} {pl:List (Nat×Nat)} (h:PW P fields.toList=some pl):DJ P (Array.mapM (fun f=>(do pure (f.offset,← sizeOf f.type):Sem (Nat×Nat))) fields)=some pl.toArray:=by
 rw [Array.mapM_eq_mapM_toList,map_eq_pure_bind,Ar,UM,h]
 rfl
theorem Aa.build {t:TypeId} {ps:Array (Nat×Operand)} {z:List Value} {fields:Array Field} {places:List (Nat×Nat)} {parts:List (Nat×PV)} {out:List PV} (hz:Cj E.P t=some z) (hu:E.P.underlying t=some (.struct fields))
 (hpl:PW E.P fields.toList=some places) (hp:evp E.Γ L ps.toList=some parts) (hf:QB (fun x=>places[x]?) (z.map fun v=>.p (GL v)) parts=some out) (q:Q (jg out) H nx) :
 Aa E w ⟨dst,.build t ps,ty,pos,af,gd⟩ L H nx Q :=
 Aa.quiet q fun m F σ tt h1 h2=>by
  obtain ⟨_,_,_,_,_,hpz⟩:=BP hz
  obtain ⟨out',e1,e2,e3⟩:=Pj (fun x=>places[x]?) (WJ h1 h2 hp) (cs':=z.toArray) (Dx.zero hpz) (Dj hpz) hf
  have e4:=bQ (ps:=ps.map fun (i,x)=>(i,ev tt x)) hz hu (mG hpl) (by rw [Array.toList_map];simpa using e1)
  refine ⟨.agg out',fun _=>?_,Uh e2 e3⟩
  simp only [Ce,EX,hz,e4,Option.map_some]
theorem PE {Γ:Nat→Option (List Value×TypeId)} {m:Mem} {F:Nat→Prop} {σ:Nat→Value} {e:TypeId} {cs:List FV} {vs:List Value} (n:Nat) (h:Ctx Γ m F σ H nx) (hr:Dv m F cs vs) (hc:vs.all BO=true) :
 Ctx Γ (m.alloc (.cells vs e 0 false)) F (upd σ nx (.slice (some ⟨m.size,0,none⟩) n 0)) ((nx,.vec e cs n false)::H) (nx+1) ∧
 Step m F σ H nx (m.alloc (.cells vs e 0 false)) F (upd σ nx (.slice (some ⟨m.size,0,none⟩) n 0)) ((nx,.vec e cs n false)::H) (nx+1)∧Quiet m (m.alloc (.cells vs e 0 false)) ∧
 RP (m.alloc (.cells vs e 0 false)) F (htag ((nx,.vec e cs n false)::H)) (upd σ nx (.slice (some ⟨m.size,0,none⟩) n 0)) (nx+1) (.vec nx n 0 n) (.slice (some ⟨m.size,0,none⟩) n 0):=by
 obtain ⟨c1,c2,c3⟩:=h.new (m':=m.alloc (.cells vs e 0 false)) (x:=.vec e cs n false) (s:=.slice (some ⟨m.size,0,none⟩) n 0) (by simp [Mem.alloc]) (fun c hc=>by rw [Mem.Bv,if_neg (by omega)]) (by simp only [Mem.alloc];omega)
  (fun c hc=>by simp only [Dl,Option.some.injEq] at hc;omega) (.inr ⟨m.size,0,vs,rfl,by simp [Mem.alloc],fun hf=>Nat.lt_irrefl _ (h.fr _ hf),by rw [Mem.Bv,if_pos rfl],
   hr.mono (fun c hf=>⟨hf,by rw [Mem.Bv,if_neg (by have:=h.fr c hf;omega)]⟩),hc,fun _=>rfl⟩)
 refine ⟨c1,c2,c3,.vec (Nat.lt_succ_self _) rfl fun k hk=>?_⟩
 rw [He,if_pos rfl] at hk
 simp only [HB.tag,Option.some.injEq,Tg.vec.injEq] at hk
 refine ⟨by omega,fun _=>?_⟩
 rw [upd_same]
 rfl
theorem ZN (place:Nat→Option (Nat×Nat)):∀ (ps:List (Nat×PV)) {cs out:List PV},QB place cs ps=some out→out.length=cs.length
 |[],cs,out,h=>by
  simp only [QB,Option.some.injEq] at h
  rw [h]
 |(i,v)::rest,cs,out,h=>by
  simp only [QB] at h
  repeat' split at h
  all_goals first|(cases h;done)|(have:=ZN place rest h;rw [this,Ol])
theorem a5h {Γ:Nat→Option (List Value×TypeId)} {m:Mem} {F:Nat→Prop} {σ:Nat→Value} (e:TypeId) (h:Ctx Γ m F σ H nx) :
 Ctx Γ m F (upd σ nx (.slice emptyAt 0 0)) ((nx,.vec e [] 0 false)::H) (nx+1)∧Step m F σ H nx m F (upd σ nx (.slice emptyAt 0 0)) ((nx,.vec e [] 0 false)::H) (nx+1)∧Quiet m m:=by
 exact h.new (m':=m) (x:=.vec e [] 0 false) (s:=.slice emptyAt 0 0) (Nat.le_refl _) (fun _ _=>rfl) (Nat.min_le_left _ _) (fun c hc=>by simp [Dl,emptyAt] at hc) (.inl ⟨rfl,rfl,.inr ⟨0,0,0,rfl,rfl⟩⟩)
theorem a0s {m:Mem} {F:Nat→Prop} {σ:Nat→Value} (e:TypeId) (H:Heap) (nx:Nat):RP m F (htag ((nx,.vec e [] 0 false)::H)) (upd σ nx (.slice emptyAt 0 0)) (nx+1) (.vec nx 0 0 0) (.slice emptyAt 0 0):=by
 refine .vec (Nat.lt_succ_self _) rfl fun n hn=>?_
 rw [He,if_pos rfl] at hn
 simp only [HB.tag,Option.some.injEq,Tg.vec.injEq] at hn
 subst hn
 refine ⟨Nat.le_refl _,fun _=>?_⟩
 rw [upd_same]
 exact ⟨rfl,rfl,rfl⟩
theorem Aa.buildSlice {t e:TypeId} {len:Nat} {ps:Array (Nat×Operand)} {z:List Value} {i:TypeInfo} {parts:List (Nat×PV)} {out:List PV} {fs:List FV} (hu:E.P.underlying t=some (.slice e)) (hi:E.P.info? e=some i)
 (hz:Cj E.P e=some z) (hl:len*i.size≤2 ^ 24∧z.length=i.size∧0<i.size) (hp:evp E.Γ L ps.toList=some parts) (hf:QB (fun j=>some (j*i.size,i.size)) ((AQ z len).map fun v=>.p (GL v)) parts=some out)
 (ha:a1e out=some fs) (q:Q (.vec nx len 0 len) ((nx,.vec e fs len false)::H) (nx+1)):Aa E w ⟨dst,.buildSlice t len ps,ty,pos,af,gd⟩ L H nx Q:=by
 intro m F σ tt h1 h2
 obtain ⟨_,_,_,_,_,hpz⟩:=BP hz
 have hpr:=IL hpz len
 obtain ⟨out',e1,e2,e3⟩:=Pj (fun j=>some (j*i.size,i.size)) (WJ h1 h2 hp) (cs':=(AQ z len).toArray) (Dx.zero hpr) (Dj hpr) hf
 have e1':Instr.fill (fun j=>some (j*i.size,i.size)) (AQ z len).toArray (ps.map fun (i,x)=>(i,ev tt x)).toList=some out':=by rw [Array.toList_map];exact e1
 by_cases h0:len=0
 ·subst h0
  have ho:out=[]:=List.length_eq_zero_iff.1 (by rw [ZN _ _ hf];rfl)
  subst ho
  have hfs:fs=[]:=by
   have:some ([]:List FV)=some fs:=ha
   exact (Option.some.inj this).symm
  subst hfs
  obtain ⟨c1,c2,c3⟩:=a5h e h1
  refine F5.op (v:=.slice emptyAt 0 0) (fun _=>?_) ⟨_,_,_,F,_,q,c1,a0s e H nx,c2,fun _=>c3⟩
  simp only [Ce,EX,hu,hi,hz,hl,and_self,if_true,e1',e3]
 obtain ⟨c1,c2,c3,c4⟩:=PE (e:=e) len h1 (Yw ha e2) e3
 refine F5.op (v:=.slice (some ⟨m.size,0,none⟩) len 0) (fun _=>?_) ⟨_,_,_,F,_,q,c1,c4,c2,fun _=>c3⟩
 simp only [Ce,EX,hu,hi,hz,hl,and_self,if_true,e1',e3,A8,h0,if_false]
theorem Aa.makeSlice {t e:TypeId} {l c:Operand} {k1 k2:IntKind} {n:Nat} {z:List Value} {i:TypeInfo} (hu:E.P.underlying t=some (.slice e)) (hi:E.P.info? e=some i) (hz:Cj E.P e=some z) (hl:Bh E.Γ L l=some (.p (.int k1 n))) (hc:Bh E.Γ L c=some (.p (.int k2 n)))
 (hb:n*(i.bytes+1)≤room∧n≤2 ^ 40) (hs:z.length=i.size∧0<i.size) (q:Q (.vec nx n 0 n) ((nx,.vec e ((AQ z n).map GL) n false)::H) (nx+1)):Aa E w ⟨dst,.makeSlice t l c,ty,pos,af,gd⟩ L H nx Q:=by
 intro m F σ tt h1 h2
 obtain ⟨_,_,_,_,_,hpz⟩:=BP hz
 have hpr:=IL hpz n
 obtain ⟨c1,c2,c3,c4⟩:=PE (e:=e) n h1 (Ho (F:=F) hpr) (Dj hpr)
 refine F5.op (v:=.slice (some ⟨m.size,0,none⟩) n 0) (fun _=>?_) ⟨_,_,_,F,_,q,c1,c4,c2,fun _=>c3⟩
 have h0:(0:Int)≤(n:Int)∧(n:Int)≤(n:Int)∧(n:Int).toNat*(i.bytes+1)≤room∧(n:Int)≤2 ^ 40∧z.length=i.size∧0<i.size:=⟨by omega,by omega,by rw [Int.toNat_natCast];exact hb.1,by have:=hb.2;omega,hs⟩
 simp only [Ce,EX,hu,Dc h1 h2 hl,Dc h1 h2 hc,hi,hz]
 rw [if_pos h0]
 simp only [A8,Int.toNat_natCast]
def mD (Γ:Nat→Option (List Value×TypeId)) (L:Frame) (H:Heap) (nx:Nat) (x:Operand) (sz:Nat) (xs:List FV) (k:Nat):Prop :=
 ∀ m F σ t,Ctx Γ m F σ H nx→RL m F (htag H) σ nx L t→lenOf (ev t x)=some k∧∃ l,CO m sz k (ev t x)=some l∧Dv m F xs l∧l.all BO=true
theorem mD.lst {Γ:Nat→Option (List Value×TypeId)} {x:Operand} {e:TypeId} {sz k:Nat} {xs:List FV} (h:Bh Γ L x=some (.p (.lst e xs k))) (hl:xs.length=k*sz):mD Γ L H nx x sz xs k:=fun m F σ t h1 h2=>by
 have:=BK h1 h2 h
 generalize ev t x=v at this
 cases this with
 |p h =>
  cases h with
  |nil=>exact ⟨rfl,[],rfl,.nil,rfl⟩
  |room=>exact ⟨rfl,[],rfl,.nil,rfl⟩
  |lst hF hm hw hr hc =>
   rename_i b o g vs ws ro
   refine ⟨rfl,ws,?_,hr,hc⟩
   simp only [CO,Nat.le_refl,if_true,Mem.EK,hm]
   simp only [LZ,Option.getD_some,if_true]
   rw [← hl];exact hw
theorem mD.vec {Γ:Nat→Option (List Value×TypeId)} {x:Operand} {b n off len sz:Nat} {e:TypeId} {cs:List FV} {z:Bool} (h:Bh Γ L x=some (.vec b n off len)) (hb:hget H b=some (.vec e cs n z)) (hl:off+len*sz≤cs.length) :
 mD Γ L H nx x sz ((cs.drop off).take (len*sz)) len:=fun m F σ t h1 h2=>by
 have hsub:=JK h1 h2 h hb
 obtain ⟨_,hr⟩:=h1.hp b _ hb
 rcases hr with ⟨r1,r2,r3⟩|⟨c,g,vs,r1,r2,r3,r4,r5,r6,r7⟩
 ·have hv:(∃ a,ev t x=.slice a 0 0∧(a=none∨∃ b o g,a=some ⟨b,o,some g⟩))∧len=0:=by
   rcases r3 with ⟨r3,_⟩|⟨b',o',g',r3,_⟩
   ·rw [r3] at hsub;obtain ⟨q1,q2,q3⟩:=hsub;exact ⟨⟨none,q1,.inl rfl⟩,q3⟩
   ·rw [r3] at hsub;simp only [EW] at hsub;obtain ⟨q1,q2,q3⟩:=hsub;exact ⟨⟨_,q1,.inr ⟨_,_,_,rfl⟩⟩,q3⟩
  obtain ⟨⟨a,ha,hb'⟩,rfl⟩:=hv
  rw [ha]
  refine ⟨rfl,[],?_,by rw [Nat.zero_mul,List.take_zero];exact .nil,rfl⟩
  rcases hb' with rfl|⟨_,_,_,rfl⟩<;>rfl
 ·rw [r1] at hsub
  simp only [EW] at hsub
  rw [hsub]
  have hlen:=r5.length
  have hle:len*sz≤(vs.drop off).length:=by rw [List.length_drop];omega
  refine ⟨rfl,(vs.drop off).take (len*sz),?_,?_,Ls (J8 r6 _) _⟩
  ·simp only [CO,Nat.le_refl,if_true,Mem.EK,r4]
   simp only [LZ,Option.getD_some,if_true,takeN,if_pos hle]
  ·have:∀ {cs:List FV} {vs:List Value} (k:Nat),Dv m F cs vs→Dv m F (cs.take k) (vs.take k):=by
    intro cs vs k h
    induction k generalizing cs vs with
    |zero=>exact .nil
    |succ k ih=>cases h with|nil=>exact .nil|cons h t=>exact .cons h (ih t)
   exact this _ (Dv.drop off r5)
theorem mD.all {Γ:Nat→Option (List Value×TypeId)} {x:Operand} {b n sz:Nat} {e:TypeId} {cs:List FV} {z:Bool} (h:Bh Γ L x=some (.vec b n 0 n)) (hb:hget H b=some (.vec e cs n z)) (hl:cs.length=n*sz):mD Γ L H nx x sz cs n:=by
 have:=mD.vec (sz:=sz) (nx:=nx) h hb (by omega)
 rw [List.drop_zero,← hl,List.take_length] at this
 exact this
theorem Aa.append {s x:Operand} {sT xT e:TypeId} {xd:TypeDesc} {i:TypeInfo} {b n k:Nat} {cs xs:List FV} {z:Bool} (hs:Bh E.Γ L s=some (.vec b n 0 n)) (hb:hget H b=some (.vec e cs n z)) (hx:mD E.Γ L H nx x i.size xs k)
 (qQ:E.P.underlying sT=some (.slice e)) (hxT:E.P.underlying xT=some xd) (hd:∀ k,xd≠.int k) (hi:E.P.info? e=some i) (hzs:Eb i=true) (h0:0<k) (hroom:(n+k)*(i.bytes+1)≤room) (hl:cs.length=n*i.size) (hsz:0<i.size)
 (q:Q (.vec b (n+k) 0 (n+k)) (hput H b (.vec e (cs++xs) (n+k) z)) nx):Aa E true ⟨dst,.call { callee:=.builtin .append,args:=#[s,x],argTypes:=#[sT,xT] },ty,pos,af,gd⟩ L H nx Q:=by
 intro m F σ t h1 h2
 have hsub:=JK h1 h2 hs hb
 obtain ⟨hx1,l,hx2,hx3,hx4⟩:=hx m F σ t h1 h2
 obtain ⟨hlt,hr⟩:=h1.hp b _ hb
 have hlenS:lenOf (ev t s)=some n:=by
  rcases hr with ⟨r1,r2,r3⟩|⟨c,g,vs,r1,_⟩
  ·rcases r3 with ⟨r3,_⟩|⟨b',o',g',r3,_⟩<;>rw [r3] at hsub<;>simp only [EW,Dh] at hsub<;>rw [hsub.1,r2]<;>rfl
  ·rw [r1] at hsub;simp only [EW] at hsub;rw [hsub];rfl
 have happ:∀ v m',BM m e i.size l k (ev t s)=some (v,m')→Ip E.P #[sT,xT] #[ev t s,ev t x] m=some (v,m'):=by
  intro v m' ha
  have hxd:∀ a:Option (Value×Mem),a=some (v,m')→(match xd with| .int _=>none|_=>a)=some (v,m'):=by
   intro a ha;cases xd<;>first|exact ha|exact absurd rfl (hd _)
  simp only [Ip,List.getElem?_toArray,List.getElem?_cons_zero,List.getElem?_cons_succ,qQ,hxT,hlenS,hi,hzs,Bool.not_true,Bool.false_eq_true,if_false]
  cases xd<;>first|exact absurd rfl (hd _)|(simp only [hx1,hx2,hx4,Bool.and_true,decide_eq_true_eq];rw [if_pos hroom];exact ha)
 have hfin:∀ v m' s',BM m e i.size l k (ev t s)=some (v,m')→s'=v→(Ctx E.Γ m' F (upd σ b s') (hput H b (.vec e (cs++xs) (n+k) z)) nx∧Step m F σ H nx m' F (upd σ b s') (hput H b (.vec e (cs++xs) (n+k) z)) nx)→(∃ c g,v=.slice (some ⟨c,0,none⟩) (n+k) g) →
  F5 E.P E.O E.G ⟨dst,.call { callee:=.builtin .append,args:=#[s,x],argTypes:=#[sT,xT] },ty,pos,af,gd⟩ ⟨t,m⟩ fun v m'=>∃ r H' nx' F' σ',Q r H' nx'∧Ctx E.Γ m' F' σ' H' nx'∧RP m' F' (htag H') σ' nx' r v∧Step m F σ H nx m' F' σ' H' nx'∧(true=false→Quiet m m'):=by
  rintro v m' s' ha rfl ⟨c1,c2⟩ ⟨c,g,hv⟩
  refine F5.op (v:=s') (m':=m') (fun _=>?_) ⟨_,_,_,F,_,q,c1,?_,c2,fun h=>by cases h⟩
  ·have:=happ _ _ ha
   simp only [Ce,EX]
   simpa using this
  ·refine .vec hlt (by rw [hv];rfl) fun j hj=>?_
   rw [Pn,if_pos rfl,htag,hb] at hj
   simp only [Option.map_some,HB.tag,Option.some.injEq,Tg.vec.injEq] at hj
   refine ⟨by omega,fun _=>?_⟩
   rw [upd_same,hv]
   rfl
 have a2b:UC (some (HB.vec e cs n z).tag) (some (HB.vec e (cs++xs) (n+k) z).tag):=Nat.le_add_right _ _
 have hne:(HB.vec e cs n z).tag=(HB.vec e (cs++xs) (n+k) z).tag→False:=by simp only [HB.tag,Tg.vec.injEq];omega
 rcases hr with ⟨r1,r2,r3⟩|⟨c,g,vs,r1,r2,r3,r4,r5,r6,r7⟩
 ·have hv:Dl (σ b)=none∧(ev t s=.slice none 0 0∨∃ b o g,ev t s=.slice (some ⟨b,o,some g⟩) 0 0):=by
   rcases r3 with ⟨r3,_⟩|⟨b',o',g',r3,_⟩
   ·rw [r3] at hsub ⊢;exact ⟨rfl,.inl hsub.1⟩
   ·rw [r3] at hsub ⊢;simp only [EW] at hsub;exact ⟨rfl,.inr ⟨_,_,_,hsub.1⟩⟩
  have ha:BM m e i.size l k (ev t s)=some (A8 m e l k):=by
   rcases hv.2 with hv|⟨_,_,_,hv⟩<;>rw [hv]<;>simp only [BM]<;>rw [if_neg (by omega)]
  subst r1;subst r2
  refine hfin _ _ _ ha rfl ?_ ⟨m.size,0,by rw [Nat.zero_add]⟩
  refine h1.change (x0:=.vec e [] 0 z) (x':=.vec e ([]++xs) (0+k) z) hb a2b (fun e=>(hne e).elim) (by simp [A8,Mem.alloc]) (fun c hc _=>by (try simp only [A8]);rw [Mem.Bv,if_neg (by omega)])
   (fun k' k1 k2 _=>by simp only [A8,Mem.alloc];omega) (fun c hc=>by simp only [A8,Dl,Option.some.injEq] at hc;right;omega) ?_
  refine .inr ⟨m.size,0,l,by simp [A8],by simp [A8,Mem.alloc],fun hf=>Nat.lt_irrefl _ (h1.fr _ hf),by (try simp only [A8]);rw [Mem.Bv,if_pos rfl],?_,hx4,fun h=>by omega⟩
  rw [List.nil_append]
  exact hx3.mono (fun c hf=>⟨hf,by (try simp only [A8]);rw [Mem.Bv,if_neg (by have:=h1.fr c hf;omega)]⟩)
 ·rw [r1] at hsub
  simp only [EW] at hsub
  have hlen:=r5.length
  have hold:takeN (n*i.size) (vs.drop 0)=some vs:=by
   rw [List.drop_zero,← hl,hlen];simp [takeN]
  have ha:BM m e i.size l k (ev t s)=some (.slice (some ⟨c,0,none⟩) (n+k) (g+1),m.put c (.cells (vs++l) e (g+1) false)):=by
   rw [hsub]
   simp only [BM,r4,beq_self_eq_true,decide_eq_true hsz,Bool.and_self,if_true,hold]
   simp
  have hput':∀ d,c≠d→(m.put c (.cells (vs++l) e (g+1) false)).get d=m.get d:=fun d hd=>by rw [Mem.get_put,if_neg hd]
  refine hfin _ _ _ ha rfl ?_ ⟨c,g+1,rfl⟩
  refine h1.change (x':=.vec e (cs++xs) (n+k) z) hb a2b (fun e=>(hne e).elim) (Nat.le_refl _) (fun d _ hd=>hput' d fun e=>hd (by rw [r1,e];rfl)) (fun k' k1 k2 k3=>by
   have:=k3 c (by rw [r1];rfl)
   simp only [Mem.put];omega) (fun d hd=>.inl (by rw [r1];exact hd)) ?_
  refine .inr ⟨c,g+1,vs++l,rfl,r2,r3,by rw [Mem.get_put,if_pos rfl],?_,by rw [List.all_append,r6,hx4];rfl,fun h=>by omega⟩
  exact (r5.append hx3).mono (fun d hd=>⟨hd,hput' d fun e=>r3 (e▸hd)⟩)
end
section
open Go.Am
variable {P:Program}
inductive IZ {α β:Type} (R:α→β→Prop):List α→List β→Prop
 |nil:IZ R [] []
 |cons {a:α} {b:β} {l:List α} {r:List β} (h:R a b) (t:IZ R l r):IZ R (a::l) (b::r)
def Oo (P:Program):Nat→TypeId→List FV→Prop
 |0,_,_=>False
 |f+1,t,fs=>match P.underlying t with
  |some .bool=>∃ b,fs=[.bool b]
  |some (.int k)=>∃ n,fs=[.int k n]∧(Lit.int k n).wf=true
  |some .string=>∃ s:ByteArray,fs=[.str s]∧s.size≤maxLen
  |some (.slice e)=>∃ L:List (List FV),fs=[.lst e L.flatten L.length]∧L.length≤maxLen∧∀ x∈L,Oo P f e x
  |some (.struct sf)=>∃ parts:List (List FV),fs=parts.flatten∧IZ (fun (fd:Field) x=>Oo P f fd.type x) sf.toList parts
  |some (.array n e)=>∃ L:List (List FV),fs=L.flatten∧L.length=n∧∀ x∈L,Oo P f e x
  |_=>False
def TT (P:Program):Nat→TypeId→Bool
 |0,_=>false
 |f+1,t=>match P.underlying t with
  |some .bool|some (.int _)|some .string=>true
  |some (.slice e)=>P.cellsOf e != 0&&TT P f e
  |some (.struct fs)=>decide ((fs.toList.map fun fd=>((List.range (P.cellsOf t)).drop fd.offset).take (P.cellsOf fd.type)).flatten=List.range (P.cellsOf t))&&fs.toList.all fun fd=>TT P f fd.type
  |some (.array n e)=>decide (((List.range n).map fun i=>((List.range (P.cellsOf t)).drop (i*P.cellsOf e)).take (P.cellsOf e)).flatten=List.range (P.cellsOf t))&&TT P f e
  |_=>false
structure Laid (m m':Mem) (fs:List FV) (l:List Value):Prop where
 rel:Dv m' (fun c=>c<m'.size) fs l
 cell:l.all BO=true
 size:m.size≤m'.size
 get:∀ c,c<m.size→m'.get c=m.get c
theorem Laid.refl (m:Mem) {fs:List FV} {l:List Value} (h:Dv m (fun c=>c<m.size) fs l) (hc:l.all BO=true):Laid m m fs l:=⟨h,hc,Nat.le_refl _,fun _ _=>rfl⟩
theorem sZ {m m':Mem} (hs:m.size≤m'.size) (hg:∀ c,c<m.size→m'.get c=m.get c):∀ c,c<m.size→c<m'.size∧m'.get c=m.get c:=fun c hc=>⟨by omega,hg c hc⟩
section
variable {H:Type} {enc:TypeId×Value→H} {W:World} {held:Bool}
def XW (P:Program) (f:Nat) (t:TypeId) (d:DataW H):Prop:=∀ m,∃ l m' fs,Qd P f t d m=some (l,m')∧Oo P f t fs∧Laid m m' fs l
theorem RN (f:Nat):∀ (xs:List (TypeId×DataW H)),(∀ x∈xs,XW P f x.1 x.2)→∀ m,∃ l m' L,TK (Qd P f) xs m=some (l,m')∧IZ (fun (x:TypeId×DataW H) fs=>Oo P f x.1 fs) xs L∧Laid m m' L.flatten l
 |[],_,m=>⟨[],m,[],rfl,.nil,Laid.refl m .nil rfl⟩
 |(t,d)::xs,h,m=>by
  obtain ⟨l1,m1,fs,h1,h2,h3⟩:=h (t,d) (by simp) m
  obtain ⟨l2,m2,L,h4,h5,h6⟩:=RN f xs (fun x hx=>h x (by simp [hx])) m1
  refine ⟨l1++l2,m2,fs::L,by simp only [TK,h1,h4],.cons h2 h5,?_⟩
  rw [List.flatten_cons]
  exact ⟨(h3.rel.mono (sZ h6.size h6.get)).append h6.rel,by rw [List.all_append,h3.cell,h6.cell];rfl,Nat.le_trans h3.size h6.size,fun c hc=>(h6.get c (by have:=h3.size;omega)).trans (h3.get c hc)⟩
theorem IZ.Td {α β γ:Type} {R:β→γ→Prop} {g:α→β}:∀ {l:List α} {r:List γ},IZ R (l.map g) r→IZ (fun a c=>R (g a) c) l r
 |[],_,.nil=>.nil
 |_::_,_,.cons h t=>.cons h (IZ.Td t)
theorem IZ.const {α γ:Type} {R:γ→Prop}:∀ {l:List α} {r:List γ},IZ (fun _ c=>R c) l r→l.length=r.length∧∀ x∈r,R x
 |_,_,.nil=>⟨rfl,by simp⟩
 |_,_,.cons h t=>by
  obtain ⟨h1,h2⟩:=IZ.const t
  exact ⟨by simp [h1],fun x hx=>(List.mem_cons.1 hx).elim (fun e=>e▸h) (h2 x)⟩
theorem IZ.zip {α β γ:Type} {R:α→γ→Prop}:∀ {l:List α} {ds:List β} {r:List γ},l.length=ds.length→IZ (fun (x:α×β) c=>R x.1 c) (l.zip ds) r→IZ R l r
 |[],[],_,_,h=>by cases h;exact .nil
 |a::l,d::ds,r,hl,h=>by
  rw [List.zip_cons_cons] at h
  cases h with|cons h t=>exact .cons h (IZ.zip (by simpa using hl) t)
 |[],_::_,_,hl,_=>by simp at hl
 |_::_,[],_,hl,_=>by simp at hl
theorem rH:∀ (f:Nat) (t:TypeId) (cs:List Value) (d:DataW H) (ps:List MemPlace),TT P f t=true→DataW.trod enc P W 0 (fun _=>true) held f t cs=some (d,ps)→XW P f t d
 |0,_,_,_,_,h,_=>by cases h
 |f+1,t,cs,d,ps,hok,h=>by
  have ih:=rH f
  intro m
  unfold DataW.trod at h
  unfold Qd
  unfold TT at hok
  unfold Oo
  cases hu:P.underlying t with
  |none=>rw [hu] at hok;cases hok
  |some u =>
   rw [hu] at h hok
   cases u with
   |bool =>
    match cs,h with
    |[.bool b],h =>
     simp only [Option.some.injEq,Prod.mk.injEq] at h
     obtain ⟨rfl,rfl⟩:=h
     exact ⟨_,_,_,rfl,⟨b,rfl⟩,Laid.refl m (.cons (.bool b) .nil) rfl⟩
   |int k =>
    match cs,h with
    |[.int k' n],h =>
     simp only at h
     split at h
     ·rename_i hc
      simp only [Option.some.injEq,Prod.mk.injEq] at h
      obtain ⟨rfl,rfl⟩:=h
      exact ⟨_,_,_,rfl,⟨n,rfl,hc.2⟩,Laid.refl m (.cons (.int k n) .nil) rfl⟩
     ·cases h
   |string =>
    match cs,h with
    |[.string s],h =>
     simp only at h
     split at h
     ·rename_i hc
      simp only [Option.some.injEq,Prod.mk.injEq] at h
      obtain ⟨rfl,rfl⟩:=h
      exact ⟨_,_,_,rfl,⟨s,rfl,hc⟩,Laid.refl m (.cons (.str s) .nil) rfl⟩
     ·cases h
   |slice e =>
    simp only [Bool.and_eq_true,bne_iff_ne,ne_eq] at hok
    match cs,h with
    |[.slice none 0 0],h =>
     simp only [Option.some.injEq,Prod.mk.injEq] at h
     obtain ⟨rfl,rfl⟩:=h
     exact ⟨_,_,_,rfl,⟨[],rfl,Nat.zero_le _,by simp⟩,Laid.refl m (.cons (.nil e) .nil) rfl⟩
    |[.slice (some a) len cap],h =>
     simp only at h
     split at h
     ·rename_i hc
      simp only [Option.bind_eq_some_iff,Option.map_eq_some_iff] at h
      obtain ⟨elems,h1,rest,h2,h3⟩:=h
      simp only [Prod.mk.injEq] at h3
      obtain ⟨rfl,rfl⟩:=h3
      obtain ⟨hl,hm⟩:=mapM_some h1
      simp only [hok.1,if_false]
      split
      ·rename_i he
       simp only [Bool.and_eq_true,List.isEmpty_iff] at he
       exact ⟨_,_,_,rfl,⟨[],rfl,Nat.zero_le _,by simp⟩,Laid.refl m (.cons (.room e 0 0 0) .nil) rfl⟩
      ·have hcan:∀ x∈(elems.map (·.1)).map fun x=>(e,x),XW P f x.1 x.2:=by
        intro x hx
        simp only [List.mem_map] at hx
        obtain ⟨y,⟨z,hz,rfl⟩,rfl⟩:=hx
        obtain ⟨i,hi⟩:=List.getElem?_of_mem hz
        have hlt:i<(List.range len).length:=by
         have:i<elems.length:=by
          rcases Nat.lt_or_ge i elems.length with h|h
          ·exact h
          ·rw [List.getElem?_eq_none h] at hi;cases hi
         omega
        obtain ⟨b,hb1,hb2⟩:=hm i _ (List.getElem?_eq_getElem hlt)
        rw [hi] at hb1;cases hb1
        simp only [Option.bind_eq_some_iff] at hb2
        obtain ⟨cs',_,hb3⟩:=hb2
        exact ih e cs' z.1 z.2 hok.2 hb3
       obtain ⟨l,m',L,e1,e2,e3⟩:=RN f _ hcan m
       obtain ⟨e4,e5⟩:=IZ.const (R:=fun fs=>Oo P f e fs) (IZ.Td (R:=fun (x:TypeId×DataW H) fs=>Oo P f x.1 fs) (g:=fun x=>(e,x)) e2)
       rw [e1]
       simp only [List.length_map,List.length_range] at e4 hl ⊢
       have hg:∀ c,c<m'.size→(m'.alloc (.cells l e 0 true)).get c=m'.get c:=fun c hc=>by rw [Mem.Bv,if_neg (by omega)]
       have hsz:(m'.alloc (.cells l e 0 true)).size=m'.size+1:=rfl
       refine ⟨_,_,_,rfl,⟨L,rfl,by omega,e5⟩,⟨?_,rfl,by rw [hsz];have:=e3.size;omega,fun c hc=>(hg c (by have:=e3.size;omega)).trans (e3.get c hc)⟩⟩
       rw [show elems.length=L.length by omega]
       refine .cons (.lst (by rw [hsz];omega) (by rw [Mem.Bv,if_pos rfl]) (ws:=l) ?_ (e3.rel.mono fun c hc=>⟨by rw [hsz];omega,hg c hc⟩) e3.cell) .nil
       rw [List.drop_zero,e3.rel.length];simp [takeN]
     ·cases h
   |struct sf =>
    simp only [Bool.and_eq_true,decide_eq_true_eq] at hok
    obtain ⟨hok1,hok2⟩:=hok
    have h':(if cs.length=P.cellsOf t then (sf.toList.mapM fun f_1=>DataW.trod enc P W 0 (fun _=>true) held f f_1.type ((cs.drop f_1.offset).take (P.cellsOf f_1.type))).map fun xs=>((.agg (xs.map (·.1)):DataW H),xs.flatMap (·.2)) else none)=some (d,ps):=by
     revert h;cases cs with
     |nil=>exact id
     |cons c cs=>cases c<;>cases cs<;>exact id
    split at h'
    ·simp only [Option.map_eq_some_iff,Prod.mk.injEq] at h'
     obtain ⟨xs,h1,rfl,rfl⟩:=h'
     obtain ⟨hl,hm⟩:=mapM_some h1
     simp only [hok1,if_true]
     have hcan:∀ x∈(sf.toList.map (·.type)).zip (xs.map (·.1)),XW P f x.1 x.2:=by
      intro x hx
      obtain ⟨i,hi⟩:=List.getElem?_of_mem hx
      rw [List.getElem?_zip_eq_some,List.getElem?_map,List.getElem?_map,Option.map_eq_some_iff,Option.map_eq_some_iff] at hi
      obtain ⟨⟨fd,hfd,hx1⟩,⟨y,hy,hx2⟩⟩:=hi
      obtain ⟨b,hb1,hb2⟩:=hm i fd hfd
      rw [hy] at hb1;cases hb1
      have hx':x=(fd.type,y.1):=by rw [hx1,hx2]
      rw [hx']
      exact ih fd.type _ y.1 y.2 (List.all_eq_true.1 hok2 fd (List.mem_of_getElem? hfd)) hb2
     obtain ⟨l,m',L,e1,e2,e3⟩:=RN f _ hcan m
     refine ⟨l,m',L.flatten,e1,⟨L,rfl,?_⟩,e3⟩
     exact IZ.Td (R:=fun t fs=>Oo P f t fs) (g:=fun (fd:Field)=>fd.type) (IZ.zip (R:=fun t fs=>Oo P f t fs) (by simp only [List.length_map];omega) e2)
    ·cases h'
   |array n e =>
    simp only [Bool.and_eq_true,decide_eq_true_eq] at hok
    obtain ⟨hok1,hok2⟩:=hok
    have h':(if cs.length=P.cellsOf t then ((List.range n).mapM fun i=>DataW.trod enc P W 0 (fun _=>true) held f e ((cs.drop (i*P.cellsOf e)).take (P.cellsOf e))).map fun xs=>((.agg (xs.map (·.1)):DataW H),xs.flatMap (·.2)) else none)=some (d,ps):=by
     revert h;cases cs with
     |nil=>exact id
     |cons c cs=>cases c<;>cases cs<;>exact id
    split at h'
    ·simp only [Option.map_eq_some_iff,Prod.mk.injEq] at h'
     obtain ⟨xs,h1,rfl,rfl⟩:=h'
     obtain ⟨hl,hm⟩:=mapM_some h1
     simp only [hok1,if_true]
     have hcan:∀ x∈(xs.map (·.1)).map fun x=>(e,x),XW P f x.1 x.2:=by
      intro x hx
      simp only [List.mem_map] at hx
      obtain ⟨y,⟨z,hz,rfl⟩,rfl⟩:=hx
      obtain ⟨i,hi⟩:=List.getElem?_of_mem hz
      have hlt:i<(List.range n).length:=by
       have:i<xs.length:=by
        rcases Nat.lt_or_ge i xs.length with h|h
        ·exact h
        ·rw [List.getElem?_eq_none h] at hi;cases hi
       omega
      obtain ⟨b,hb1,hb2⟩:=hm i _ (List.getElem?_eq_getElem hlt)
      rw [hi] at hb1;cases hb1
      exact ih e _ z.1 z.2 hok2 hb2
     obtain ⟨l,m',L,e1,e2,e3⟩:=RN f _ hcan m
     obtain ⟨e4,e5⟩:=IZ.const (R:=fun fs=>Oo P f e fs) (IZ.Td (R:=fun (x:TypeId×DataW H) fs=>Oo P f x.1 fs) (g:=fun x=>(e,x)) e2)
     simp only [List.length_map,List.length_range] at e4 hl
     exact ⟨l,m',L.flatten,e1,⟨L,rfl,by omega,e5⟩,e3⟩
    ·cases h'
   |_=>cases hok
end
end
section
open Go.Am
variable {P:Program}
def noO:CJ:=fun _=>none
open Classical in
noncomputable def a1q (G:List Nat) (M0:Mem) (fs:List FuncId):CJ:=fun f =>
 if f∈fs then some fun BF m=>if BF=[]∧∀ k∈G,m.get k=M0.get k then some (.bool true,m) else none else none
theorem Hz {F:Nat} {laid:List (String×DataW Unit)} {k:Nat} (hk:k<P.globals.size):(BD P F laid).get k=match Gg P F laid k with|some (e,l)=>.cells l e 0 true|none=>.cells [] 0 0 true:=by
 rw [BD,QV,if_neg (by simp [Am.empty])]
 simp only [Am.empty,Nat.sub_zero,List.getElem?_map]
 rw [List.getElem?_eq_getElem (by simpa using hk)]
 simp only [List.getElem_range,Option.map_some]
 cases Gg P F laid k<;>rfl
theorem S9 {F:Nat} {laid:List (String×DataW Unit)}:(BD P F laid).size=P.globals.size:=by rw [BD,Oy];simp [Am.empty]
theorem MQ {F:Nat} {laid:List (String×DataW Unit)} {k:Nat} (h:k∈AX P F laid):k<P.globals.size∧∃ e l,Gg P F laid k=some (e,l):=by
 simp only [AX,List.mem_filter,List.mem_range] at h
 obtain ⟨h1,h2⟩:=h
 cases hg:Gg P F laid k with
 |none=>rw [hg] at h2;cases h2
 |some x=>exact ⟨h1,x.1,x.2,rfl⟩
theorem Ro {F:Nat} {laid:List (String×DataW Unit)} {k:Nat} {e:TypeId} {l:List Value} (h:Gg P F laid k=some (e,l)):l.all Am.plainCell=true:=by
 unfold Gg at h
 split at h
 ·rename_i x g _ _
  simp only [Option.map_eq_some_iff,Prod.mk.injEq] at h
  obtain ⟨r,h1,_,rfl⟩:=h
  unfold absP at h1
  split at h1
  ·rename_i l' m' _
   split at h1
   ·rename_i hp;cases h1;exact hp
   ·cases h1
  ·cases h1
 ·cases h
def gam (P:Program) (F:Nat) (laid:List (String×DataW Unit)):Nat→Option (List Value×TypeId):=fun k=>if k<P.globals.size then (Gg P F laid k).map fun x=>(x.2,x.1) else none
noncomputable def nH (P:Program) (F:Nat) (laid:List (String×DataW Unit)) (fs:List FuncId):Env :=
 ⟨P,a1q (AX P F laid) (BD P F laid) fs,AX P F laid,gam P F laid⟩
def zy (P:Program) (F:Nat):List TypeId→List (List FV)→Prop:=IZ (fun t fs=>Oo P F t fs)
def ZG (P:Program) (t:TypeId) (fs:List FV):Option FV :=
 match P.underlying t,fs with
 |some (.struct _),fs=>some (.agg fs)
 |some (.array _ _),fs=>some (.agg fs)
 |some .bool,[v]|some (.int _),[v]|some .string,[v]|some (.slice _),[v]=>some v
 |_,_=>none
theorem wG {m:Mem} {F:Nat→Prop} {n:Nat} {t:TypeId} {fs:List FV} {l:List Value} (h:Dv m F fs l) (hc:l.all BO=true) (ht:Oo P n t fs):∃ x v,ZG P t fs=some x∧iE P t l=some v∧RF m F x v:=by
 cases n with
 |zero=>exact ht.elim
 |succ n =>
  unfold Oo at ht
  unfold ZG iE
  cases hu:P.underlying t with
  |none=>rw [hu] at ht;exact ht.elim
  |some u =>
   rw [hu] at ht
   cases u with
   |bool=>obtain ⟨b,rfl⟩:=ht;cases h with|cons h1 t1=>cases t1;exact ⟨_,_,rfl,rfl,h1⟩
   |int k=>obtain ⟨b,rfl,_⟩:=ht;cases h with|cons h1 t1=>cases t1;exact ⟨_,_,rfl,rfl,h1⟩
   |string=>obtain ⟨b,rfl,_⟩:=ht;cases h with|cons h1 t1=>cases t1;exact ⟨_,_,rfl,rfl,h1⟩
   |slice e=>obtain ⟨b,rfl,_⟩:=ht;cases h with|cons h1 t1=>cases t1;exact ⟨_,_,rfl,rfl,h1⟩
   |struct sf=>exact ⟨_,_,rfl,rfl,.agg h hc⟩
   |array k e=>exact ⟨_,_,rfl,rfl,.agg h hc⟩
   |_=>exact ht.elim
theorem ZR:∀ (f:Nat) (t:TypeId),TT P f t=true→TT P (f+1) t=true
 |0,_,h=>by cases h
 |f+1,t,h=>by
  have ih:=ZR f
  unfold TT at h ⊢
  cases hu:P.underlying t with
  |none=>rw [hu] at h;cases h
  |some u =>
   rw [hu] at h
   cases u with
   |bool=>rfl
   |int k=>rfl
   |string=>rfl
   |slice e =>
    simp only [Bool.and_eq_true] at h ⊢
    exact ⟨h.1,ih e h.2⟩
   |struct fs =>
    simp only [Bool.and_eq_true,List.all_eq_true] at h ⊢
    exact ⟨h.1,fun fd hfd=>ih _ (h.2 fd hfd)⟩
   |array n e =>
    simp only [Bool.and_eq_true] at h ⊢
    exact ⟨h.1,ih e h.2⟩
   |_=>cases h
theorem uD {f g:Nat} {t:TypeId} (hfg:f≤g) (h:TT P f t=true):TT P g t=true:=by
 induction hfg with
 |refl=>exact h
 |step _ ih=>exact ZR _ _ ih
section
variable {H:Type} {enc:TypeId×Value→H} {W:World} {held:Bool}
def zi (enc:TypeId×Value→H) (P:Program) (W:World) (held:Bool) (n:Nat):List TypeId→List Value→List (DataW H)→Prop
 |[],[],[]=>True
 |t::ts,v::vs,d::ds=>(∃ p,DataW.trod enc P W 0 (fun _=>true) held n t v.cells.toList=some (d,p))∧zi enc P W held n ts vs ds
 |_,_,_=>False
theorem zS:∀ (ts:List TypeId) (vs:List Value) (ds:List (DataW H)) (ps:List MemPlace),DataW.TrodAll enc P W 0 (fun _=>true) held ts vs ds ps→∃ N,∀ n,N≤n→zi enc P W held n ts vs ds
 |[],[],[],_,_=>⟨0,fun _ _=>trivial⟩
 |t::ts,v::vs,d::ds,ps,⟨p,q,⟨f,h1⟩,h2,_⟩=>by
  obtain ⟨N,hN⟩:=zS ts vs ds q h2
  exact ⟨max f N,fun n hn=>⟨⟨p,DataW.trod_le (by omega) h1⟩,hN n (by omega)⟩⟩
 |[],[],_::_,_,h=>h.elim
 |[],_::_,_,_,h=>h.elim
 |_::_,[],_,_,h=>h.elim
 |_::_,_::_,[],_,h=>h.elim
theorem UD {n:Nat}:∀ (ts:List TypeId) (vs:List Value) (ds:List (DataW H)),(∀ t∈ts,TT P n t=true)→zi enc P W held n ts vs ds→∀ m,∃ BF m' nX xs,Rq P n ts ds m=some (BF,m') ∧
 zy P n ts nX∧IZ (fun (tf:TypeId×List FV) x=>ZG P tf.1 tf.2=some x) (ts.zip nX) xs∧Dv m' (fun c=>c<m'.size) xs BF∧m.size≤m'.size∧∀ c,c<m.size→m'.get c=m.get c
 |[],[],[],_,_,m=>⟨[],m,[],[],rfl,.nil,.nil,.nil,Nat.le_refl _,fun _ _=>rfl⟩
 |t::ts,v::vs,d::ds,hok,⟨⟨p,h1⟩,h2⟩,m=>by
  obtain ⟨l,m1,fs,e1,e2,e3⟩:=rH n t _ d p (hok t (by simp)) h1 m
  obtain ⟨x,u,p1,p2,p3⟩:=wG e3.rel e3.cell e2
  obtain ⟨BF,m2,nX,xs,q1,q2,q3,q4,q5,q6⟩:=UD ts vs ds (fun t ht=>hok t (by simp [ht])) h2 m1
  refine ⟨u::BF,m2,fs::nX,x::xs,by simp only [Rq,e1,p2,q1],.cons e2 q2,.cons p1 q3,.cons (p3.mono (sZ q5 q6)) q4,Nat.le_trans e3.size q5,fun c hc=>(q6 c (by have:=e3.size;omega)).trans (e3.get c hc)⟩
 |[],[],_::_,_,h,_=>h.elim
 |[],_::_,_,_,h,_=>h.elim
 |_::_,[],_,_,h,_=>h.elim
 |_::_,_::_,[],_,h,_=>h.elim
theorem law {r:Go.Reach} {b0 F:Nat} {laid:List (String×DataW Unit)} {fs:List FuncId} {f:FuncId} {ts:List TypeId} {args:Array Value} {ds:List (DataW H)} {ps:List MemPlace}
 (hL:laidMet P laid W) (hA:DataW.TrodAll enc P W 0 (fun _=>true) held ts args.toList ds ps) (hv:∀ (j:Nat) t v,ts[j]?=some t→args.toList[j]?=some v→Value.okWide P W r b0 t v)
 (jq:P.follows .mixedOrders=true) (hty:ts.all (TT P F)=true)
 (hO:FT P (AX P F laid) (a1q (AX P F laid) (BD P F laid) fs))
 (hp:∀ j nX xs,zy P (j+F) ts nX→IZ (fun (tf:TypeId×List FV) x=>ZG P tf.1 tf.2=some x) (ts.zip nX) xs→AB (nH P F laid fs) f xs (.p (.bool true))) :
 Calls P f args W fun e W'=>e=.returned (.bool true)∧Go.RowKit.Below W.heap.size W W':=by
 obtain ⟨N,hN⟩:=zS ts _ ds ps hA
 obtain ⟨j,hj⟩:∃ j,max N F=j+F:=⟨max N F-F,by omega⟩
 obtain ⟨BF,m1,nX,xs,q1,q2,q3,q4,q5,q6⟩:=UD ts _ ds (fun t ht=>uD (by omega) (List.all_eq_true.1 hty t ht)) (hN (max N F) (by omega)) (BD P F laid)
 rw [hj] at q2
 have V4:Ctx (nH P F laid fs).Γ m1 (fun c=>c<m1.size) (fun _=>undef) [] 0:=by
  refine ⟨fun _ h=>h,fun b x hb=>(by cases hb),fun b b' x x' c hb=>(by cases hb),fun g vs e hg=>?_⟩
  simp only [nH,gam] at hg
  split at hg
  ·rename_i hlt
   simp only [Option.map_eq_some_iff,Prod.mk.injEq] at hg
   obtain ⟨⟨e',l⟩,h1,rfl,rfl⟩:=hg
   have hlt':g<(BD P F laid).size:=by rw [S9];exact hlt
   exact ⟨by omega,by rw [q6 g hlt',Hz hlt,h1],Ro h1⟩
  ·cases hg
 obtain ⟨v,m',⟨K,hK⟩,r0,H',nx',F',σ',⟨rfl,_,_⟩,_,hrv,_⟩:=hp j nX xs q2 q3 m1 _ _ BF V4 (Dx.jZ q4)
 have hv1:v=.bool true:=by cases hrv with|p h=>cases h;rfl
 subst hv1
 obtain ⟨ι,hs,hro⟩:=Z5 (F:=F) hL
 obtain ⟨ι1,o1,o2,o3,o4⟩:=Un ts _ ds ps hA hv ι _ m1 BF hs hro q1
 refine ((Hr hO jq K f).1 BF m1 _ m' (hK K K (Nat.le_refl _) (Nat.le_refl _)) ι1 W args o1 o4).mono fun e W' ⟨v',he,ι2,hx,hs2,NZ⟩=>?_
 have:=NZ.Cc (v:=.bool true) rfl
 subst this
 exact ⟨he,⟨hx.os,hx.tape,hx.output,hx.heap,fun c hcl=>hx.frame c hcl fun b ib hb _=>.inl (o3 b (o1.dom b ib hb).1)⟩⟩
end
end
section
open Go.Am
variable {E:Env} {L:Frame} {H:Heap} {nx:Nat} {Q:PV→Heap→Nat→Prop} {w:Bool}
variable {dst:Option Tmp} {ty:TypeId} {pos:String} {af:Array Edge} {gd:Option (Nat×Bool)}
def evF (Γ:Nat→Option (List Value×TypeId)) (L:Frame):List Operand→Option (List FV)
 |[]=>some []
 |o::l=>match Bh Γ L o with
  |some (.p x)=>match evF Γ L l with
   |some r=>some (x::r)
   |none=>none
  |_=>none
theorem WV {Γ:Nat→Option (List Value×TypeId)}:∀ {os:List Operand} {xs:List FV},evF Γ L os=some xs→evs Γ L os=some (xs.map .p)
 |[],_,h=>by cases h;rfl
 |o::os,xs,h=>by
  simp only [evF] at h
  split at h
  ·rename_i x hx
   split at h
   ·rename_i r hr
    cases h
    simp only [evs,hx,WV hr,List.map_cons]
   ·cases h
  ·cases h
theorem Aa.fn {fo:Operand} {args:Array Operand} {aT:Array TypeId} {g:FuncId} {xs:List FV} {r:PV} (hf:Bh E.Γ L fo=some (.clo g [] [])) (ha:evF E.Γ L args.toList=some xs)
 (hc:AB E g xs r) (hr:∀ ρ,r.rn ρ=r) (q:Q r H nx):Aa E w ⟨dst,.call { callee:=.value fo,args:=args,argTypes:=aT },ty,pos,af,gd⟩ L H nx Q :=
 Aa.b3l hf (WV ha) (.refl _) hc hr q
theorem Aa.fv {fo:Operand} {args:Array Operand} {aT:Array TypeId} {g:FuncId} {xs cs:List FV} {e:TypeId} {n:Nat} {z:Bool} (hf:Bh E.Γ L fo=some (.clo g [] [])) (ha:evF E.Γ L args.toList=some xs)
 (hc:BG E g xs e cs n z) (q:Q (.vec nx n 0 n) ((nx,.vec e cs n z)::H) (nx+1)):Aa E w ⟨dst,.call { callee:=.value fo,args:=args,argTypes:=aT },ty,pos,af,gd⟩ L H nx Q :=
 Aa.b2i hf (WV ha) (.refl _) hc q
theorem AB.enter {f:FuncId} {fn:Func} {c:Code} {xs:List FV} {r:PV} (ho:E.O f=none) (hf:E.P.funcs[f]?=some fn) (hb:fn.body=some c) (hok:Ij E.G fn c=true) (hn:xs.length≤fn.ntmps)
 (h:Ac E 0 c (CP 0 (xs.map .p)) [] 0 (Done E.P fn.results.toList 0 fun r' H' nx'=>r'=r∧H'=[]∧nx'=0)):AB E f xs r:=Ba.enter ho hf hb hok (by simpa using hn) h
def BQ (P:Program) (rs:List ResultVar) (e:TypeId) (cs:List FV) (n:Nat) (z:Bool) (x:BZ) (L:Frame) (H:Heap) (_:Nat):Prop :=
 match x with
 | .exit _=>False
 | .normal=>∃ b,Ei P rs L H=some (.vec b n 0 n)∧hget H b=some (.vec e cs n z)
 | .ret=>∃ b,Ei P rs L H=some (.vec b n 0 n)∧hget H b=some (.vec e cs n z)
theorem BQ.ret {P:Program} {rs:List ResultVar} {e:TypeId} {cs cs':List FV} {n n':Nat} {z:Bool} {b:Nat} (h:Ei P rs L H=some (.vec b n' 0 n')) (hb:hget H b=some (.vec e cs' n' z)) (hn:n'=n) (hcs:cs'=cs):BQ P rs e cs n z .ret L H nx:=by
 subst hn;subst hcs;exact ⟨b,h,hb⟩
theorem BG.enter {f:FuncId} {fn:Func} {c:Code} {xs cs:List FV} {e:TypeId} {n:Nat} {z:Bool} (ho:E.O f=none) (hf:E.P.funcs[f]?=some fn) (hb:fn.body=some c) (hok:Ij E.G fn c=true) (hn:xs.length≤fn.ntmps)
 (h:Ac E 0 c (CP 0 (xs.map .p)) [] 0 (BQ E.P fn.results.toList e cs n z)):BG E f xs e cs n z:=by
 intro m F σ BF h1 h2
 refine H8.enter ho hf hb hok (by rw [← h2.length];simpa using hn) ((h ⟨m,F,σ,[],0⟩ rfl m F σ _ h1 ?_ (Step.refl _ _ _ _ _)).mono ?_)
 ·intro i v hi
  obtain ⟨_,h3⟩:=Ik _ 0 i v hi
  obtain ⟨u,h4,h5⟩:=h2.get h3
  have:=F9 BF 0 .leaf i
  simp only [Nat.sub_zero] at h4
  have hlt:i<BF.length:=by
   rcases Nat.lt_or_ge i BF.length with h|h
   ·exact h
   ·rw [List.getElem?_eq_none h] at h4;cases h4
  rw [this,if_pos ⟨Nat.zero_le _,by omega⟩,Nat.sub_zero,List.getD_eq_getElem?_getD,h4]
  exact h5
 ·rintro x s ⟨L',H',nx',F',σ',q,c1,c2,c3⟩
  have key:(∃ b,Ei E.P fn.results.toList L' H'=some (.vec b n 0 n)∧hget H' b=some (.vec e cs n z))→∃ v,EN E.P fn s=some v∧∃ r H' nx' F' σ',(r=.vec 0 n 0 n∧H'=[(0,.vec e cs n z)]∧nx'=1)∧Ctx E.Γ s.m F' σ' H' nx'∧RP s.m F' (htag H') σ' nx' r v∧Step m F σ [] 0 s.m F' σ' H' nx':=by
   rintro ⟨b,hr,hb⟩
   obtain ⟨v,h3,h4⟩:=JG c1 c2 hr
   obtain ⟨_,hrb⟩:=c1.hp b _ hb
   have hone:∀ b' x,hget [(0,HB.vec e cs n z)] b'=some x→b'=0∧x=.vec e cs n z:=fun b' x hx=>by
    rw [BA] at hx
    split at hx
    ·rename_i e';cases hx;exact ⟨e'.symm,rfl⟩
    ·cases hx
   refine ⟨v,h3,_,_,_,F',fun _=>σ' b,⟨rfl,rfl,rfl⟩,⟨c1.fr,fun b' x hx=>?_,fun b1 b2 x1 x2 c hx1 hx2 _ _=>?_,c1.gl⟩,?_,⟨c3.size,c3.keep,c3.JC,c3.JA,fun c hc ho=>?_,Nat.zero_le _,fun b hb=>absurd hb (Nat.not_lt_zero _),c3.low⟩⟩
   ·obtain ⟨rfl,rfl⟩:=hone b' x hx
    exact ⟨by omega,hrb⟩
   ·rw [(hone b1 x1 hx1).1,(hone b2 x2 hx2).1]
   ·cases h4 with
    |vec hb' hc h =>
     refine .vec (by omega) hc fun k hk=>?_
     have hk':htag [(0,HB.vec e cs n z)] 0=some (.vec n):=rfl
     rw [hk'] at hk
     cases hk
     exact ⟨Nat.le_refl _,fun _=>(h n (by simp [htag,hb,HB.tag])).2 rfl⟩
   ·obtain ⟨b',x,hx,hc'⟩:=ho
    exact c3.IK c hc ⟨b,_,hb,hc'⟩
  cases x with
  |exit i=>exact q.elim
  |normal=>exact key q
  |ret=>exact key q
theorem Aa.MO {α:Type} {_:Enc α} {l:List α} {a:α} {s x:Operand} {sT xT e e2:TypeId} {xd:TypeDesc} {i:TypeInfo} {b b2 n:Nat} {xs:List FV} {z z2:Bool} (hs:Bh E.Γ L s=some (.vec b n 0 n)) (hb:hget H b=some (.vec e (cells l) n z))
 (hx:Bh E.Γ L x=some (.vec b2 1 0 1)) (hb2:hget H b2=some (.vec e2 xs 1 z2)) (hxs:xs=Enc.enc a) (hn:l.length=n) (qQ:E.P.underlying sT=some (.slice e)) (hxT:E.P.underlying xT=some xd) (hd:∀ k,xd≠.int k) (hi:E.P.info? e=some i)
 (hsz:Enc.size α=i.size) (hzs:Eb i=true) (h0:0<i.size) (hby:i.bytes<1000000) (hlen:l.length<1000000) (q:Q (.vec b (l.length+1) 0 (l.length+1)) (hput H b (.vec e (cells (l++[a])) (l.length+1) z)) nx) :
 Aa E true ⟨dst,.call { callee:=.builtin .append,args:=#[s,x],argTypes:=#[sT,xT] },ty,pos,af,gd⟩ L H nx Q:=by
 subst hn
 have hroom:(l.length+1)*(i.bytes+1)≤room:=Nat.le_trans (Nat.mul_le_mul (by omega:l.length+1≤1000000) (by omega:i.bytes+1≤1000000)) (by decide)
 refine Aa.append (i:=i) hs hb (mD.all hx hb2 (by rw [hxs,Enc.len,← hsz];omega)) qQ hxT hd hi hzs (by omega) hroom (by rw [Dw,hsz]) h0 ?_
 have:cells (l++[a])=cells l++xs:=by rw [Fh,hxs];simp [cells,encs]
 rw [← this]
 exact q
theorem Aa.not {t:TypeId} {x:Operand} {b:Bool} (hx:Bh E.Γ L x=some (.p (.bool b))) (q:Q (.p (.bool (!b))) H nx):Aa E w ⟨dst,.unOp .not t x,ty,pos,af,gd⟩ L H nx Q :=
 Aa.quiet q fun m F σ tt h1 h2=>by
  refine ⟨.bool (!b),fun _=>?_,.p (.bool _)⟩
  have hb:=GX h1 h2 hx
  simp only [Ce,EX,hb]
  cases b<;>rfl
theorem PV.int_eq {k:IntKind} {a b:Int} (h:a=b):(PV.p (.int k a))=.p (.int k b):=by rw [h]
theorem PV.H9 {a b:Bool} (h:a=b):(PV.p (.bool a))=.p (.bool b):=by rw [h]
end
section
open Go.Am
variable {E:Env} {L:Frame} {H:Heap} {nx:Nat} {Q:PV→Heap→Nat→Prop} {w:Bool}
variable {dst:Option Tmp} {ty:TypeId} {pos:String} {af:Array Edge} {gd:Option (Nat×Bool)}
section
variable {bn:Nat} {ops:Array Oper} {op:Op} {l:List Oper} {i:Nat} {R:Frame→Heap→Nat→Prop}
theorem Af.quiet (h:Aa E false ⟨dst,op,ty,pos,af,none⟩ L H nx fun r H' nx'=>Af E bn ops (i+1) l (Gy L dst r) H' nx' R):Af E bn ops i (⟨dst,op,ty,pos,af,none⟩::l) L H nx R:=by
 intro B hB m F σ t h1 h2 h3
 refine Ig.cons (Iw.wanted (L:=L) h1 h2 rfl) ((h (m.at m.size) F σ t (h1.at _) (RL.at (Γ:=E.Γ) _ h2)).mono ?_)
 rintro v m' ⟨r,H',nx',F',σ',q,c1,c2,c3,c4⟩
 refine ⟨.inr (.inl (c4 rfl m.size (Nat.le_refl _) (Nat.le_refl _))),?_⟩
 exact q B hB _ F' σ' _ (c1.at _) (RL.at (Γ:=E.Γ) _ (((RL.at (Γ:=E.Γ) _ h2).step c3 (h1.at _)).put c2)) (h3.trans c3.at)
theorem Af.FK {j d:Nat} {want:Bool} (hd:(ops[j]?).bind (·.dst)=some d) (hb:ET L d=some (.p (.bool want))) (h:Aa E false ⟨dst,op,ty,pos,af,some (j,want)⟩ L H nx fun r H' nx'=>Af E bn ops (i+1) l (Gy L dst r) H' nx' R) :
 Af E bn ops i (⟨dst,op,ty,pos,af,some (j,want)⟩::l) L H nx R:=by
 intro B hB m F σ t h1 h2 h3
 refine Ig.cons (Iw.wanted (L:=L) (w:=true) h1 h2 ⟨want,d,hd,hb,by cases want<;>rfl⟩) ((h (m.at m.size) F σ t (h1.at _) (RL.at (Γ:=E.Γ) _ h2)).mono ?_)
 rintro v m' ⟨r,H',nx',F',σ',q,c1,c2,c3,c4⟩
 refine ⟨.inr (.inl (c4 rfl m.size (Nat.le_refl _) (Nat.le_refl _))),?_⟩
 exact q B hB _ F' σ' _ (c1.at _) (RL.at (Γ:=E.Γ) _ (((RL.at (Γ:=E.Γ) _ h2).step c3 (h1.at _)).put c2)) (h3.trans c3.at)
theorem Af.bar (hw:barrier E.P ops i=true) (h:Aa E true ⟨dst,op,ty,pos,af,none⟩ L H nx fun r H' nx'=>Af E bn ops (i+1) l (Gy L dst r) H' nx' R):Af E bn ops i (⟨dst,op,ty,pos,af,none⟩::l) L H nx R:=Af.cons rfl hw h
end
theorem Bo.le (d:Nat) {v v0:PV} (hd:ET L d=some v) (hle:xM v v0):Bo E L H nx ((d,v0)::L) H nx:=fun B m F σ t h1 h2 h3=>by
 refine ⟨F,σ,h1,fun i x hi=>?_,h3⟩
 rw [DW] at hi
 by_cases e:d=i
 ·rw [if_pos e] at hi;cases hi;subst e;exact RP.le hle (h2 d v hd)
 ·rw [if_neg e] at hi;exact h2 i x hi
theorem Ctx.move {Γ:Nat→Option (List Value×TypeId)} {m m':Mem} {F:Nat→Prop} {σ:Nat→Value} {b0:Nat} {x0 x':HB} {s':Value} (h:Ctx Γ m F σ H nx) (hb:hget H b0=some x0)
 (hsz:m.size≤m'.size) (hget':∀ c,c<m.size→Dl (σ b0)≠some c→m'.get c=m.get c) (hlow:∀ k,k≤m.low→k≤m.size→(∀ c,Dl (σ b0)=some c→k≤c)→k≤m'.low)
 (hblk:∀ c,Dl s'=some c→Dl (σ b0)=some c∨m.size≤c) (hr:RB m' F (htag ((nx,x')::hdel H b0)) (upd σ nx s') (nx+1) s' x') :
 Ctx Γ m' F (upd σ nx s') ((nx,x')::hdel H b0) (nx+1)∧Step m F σ H nx m' F (upd σ nx s') ((nx,x')::hdel H b0) (nx+1):=by
 have hown:∀ c,Dl (σ b0)=some c→own H σ c:=fun c hc=>⟨b0,x0,hb,hc⟩
 have hfz:∀ c,F c→F c∧m'.get c=m.get c:=fun c hc=>⟨hc,hget' c (h.fr c hc) fun e=>(h.KD (hown c e)).1 hc⟩
 have hN:Names nx (htag H) σ (htag ((nx,x')::hdel H b0)) (upd σ nx s'):=fun b hbn=>by
  rw [He,if_neg (by omega),Um,CQ _ _ (by omega)]
  split
  ·exact ⟨trivial,fun _ _ _=>rfl⟩
  ·exact ⟨UC.refl _,fun _ _ _=>rfl⟩
 have hg0:hget ((nx,x')::hdel H b0) nx=some x':=by rw [BA,if_pos rfl]
 have hgo:∀ b y,hget ((nx,x')::hdel H b0) b=some y→b≠nx→b≠b0∧hget H b=some y:=fun b y hy e=>by
  rw [BA,if_neg (Ne.symm e),LG] at hy
  split at hy
  ·cases hy
  ·rename_i hne;exact ⟨Ne.symm hne,hy⟩
 refine ⟨⟨fun c hc=>Nat.lt_of_lt_of_le (h.fr c hc) hsz,?_,?_,?_⟩,⟨hsz,fun c hc ho=>hget' c hc fun e=>ho (hown c e),fun _ h=>h,fun _ _ h=>.inl h,?_,Nat.le_succ _,hN,?_⟩⟩
 ·intro b y hy
  by_cases e:b=nx
  ·subst e
   rw [hg0] at hy;cases hy
   rw [upd_same]
   exact ⟨Nat.lt_succ_self _,hr⟩
  ·obtain ⟨hne,hy⟩:=hgo b y hy e
   obtain ⟨h1,h2⟩:=h.hp b y hy
   rw [CQ _ _ e]
   refine ⟨by omega,h2.mono hfz hN (Nat.le_succ _) hsz fun c hc=>?_⟩
   have:=h.KD ⟨b,y,hy,hc⟩
   exact ⟨hget' c this.2 fun e'=>hne (h.sep b b0 y x0 c hy hb hc e'),this.1⟩
 ·intro b b' y y' c h1 h2 h3 h4
  by_cases e:b=nx<;>by_cases e':b'=nx
  ·omega
  ·subst e
   obtain ⟨hne,hy⟩:=hgo b' y' h2 e'
   rw [upd_same] at h3
   rw [CQ _ _ e'] at h4
   rcases hblk c h3 with h5|h5
   ·exact absurd (h.sep b0 b' x0 y' c hb hy h5 h4).symm hne
   ·have:=(h.KD ⟨b',y',hy,h4⟩).2;omega
  ·subst e'
   obtain ⟨hne,hy⟩:=hgo b y h1 e
   rw [upd_same] at h4
   rw [CQ _ _ e] at h3
   rcases hblk c h4 with h5|h5
   ·exact absurd (h.sep b b0 y x0 c hy hb h3 h5) hne
   ·have:=(h.KD ⟨b,y,hy,h3⟩).2;omega
  ·obtain ⟨_,hy⟩:=hgo b y h1 e
   obtain ⟨_,hy'⟩:=hgo b' y' h2 e'
   rw [CQ _ _ e] at h3
   rw [CQ _ _ e'] at h4
   exact h.sep b b' y y' c hy hy' h3 h4
 ·intro g vs e hg
  obtain ⟨h1,h2,h3⟩:=h.gl g vs e hg
  exact ⟨h1,(hfz g h1).2.trans h2,h3⟩
 ·rintro c hc ⟨b,y,hy,hbc⟩
  by_cases e:b=nx
  ·subst e
   rw [upd_same] at hbc
   rcases hblk c hbc with h5|h5
   ·exact hown c h5
   ·omega
  ·obtain ⟨_,hy⟩:=hgo b y hy e
   rw [CQ _ _ e] at hbc
   exact ⟨b,y,hy,hbc⟩
 ·intro k h1 h2 h3
  exact hlow k h1 h2 fun c hc=>h3 c (hown c hc)
theorem appendMove' {s x:Operand} {sT xT e:TypeId} {xd:TypeDesc} {i:TypeInfo} {b n k:Nat} {cs xs:List FV} {z:Bool} (hs:Bh E.Γ L s=some (.vec b n 0 n)) (hb:hget H b=some (.vec e cs n z)) (hx:mD E.Γ L H nx x i.size xs k)
 (qQ:E.P.underlying sT=some (.slice e)) (hxT:E.P.underlying xT=some xd) (hd:∀ k,xd≠.int k) (hi:E.P.info? e=some i) (hzs:Eb i=true) (hroom:(n+k)*(i.bytes+1)≤room) (hl:cs.length=n*i.size) (hsz:0<i.size)
 (q:Q (.vec nx (n+k) 0 (n+k)) ((nx,.vec e (cs++xs) (n+k) z)::hdel H b) (nx+1)):Aa E true ⟨dst,.call { callee:=.builtin .append,args:=#[s,x],argTypes:=#[sT,xT] },ty,pos,af,gd⟩ L H nx Q:=by
 intro m F σ t h1 h2
 have hsub:=JK h1 h2 hs hb
 obtain ⟨hx1,l,hx2,hx3,hx4⟩:=hx m F σ t h1 h2
 obtain ⟨hlt,hr⟩:=h1.hp b _ hb
 have hlenS:lenOf (ev t s)=some n:=by
  rcases hr with ⟨r1,r2,r3⟩|⟨c,g,vs,r1,_⟩
  ·rcases r3 with ⟨r3,_⟩|⟨b',o',g',r3,_⟩<;>rw [r3] at hsub<;>simp only [EW,Dh] at hsub<;>rw [hsub.1,r2]<;>rfl
  ·rw [r1] at hsub;simp only [EW] at hsub;rw [hsub];rfl
 have happ:∀ v m',BM m e i.size l k (ev t s)=some (v,m')→Ip E.P #[sT,xT] #[ev t s,ev t x] m=some (v,m'):=by
  intro v m' ha
  simp only [Ip,List.getElem?_toArray,List.getElem?_cons_zero,List.getElem?_cons_succ,qQ,hxT,hlenS,hi,hzs,Bool.not_true,Bool.false_eq_true,if_false]
  cases xd<;>first|exact absurd rfl (hd _)|(simp only [hx1,hx2,hx4,Bool.and_true,decide_eq_true_eq];rw [if_pos hroom];exact ha)
 have hfin:∀ v m' s',BM m e i.size l k (ev t s)=some (v,m')→s'=v→(Ctx E.Γ m' F (upd σ nx s') ((nx,.vec e (cs++xs) (n+k) z)::hdel H b) (nx+1)∧Step m F σ H nx m' F (upd σ nx s') ((nx,.vec e (cs++xs) (n+k) z)::hdel H b) (nx+1)) →
  (BO v=true∧EW v 0 (n+k) v)→F5 E.P E.O E.G ⟨dst,.call { callee:=.builtin .append,args:=#[s,x],argTypes:=#[sT,xT] },ty,pos,af,gd⟩ ⟨t,m⟩ fun v m'=>∃ r H' nx' F' σ',Q r H' nx'∧Ctx E.Γ m' F' σ' H' nx'∧RP m' F' (htag H') σ' nx' r v∧Step m F σ H nx m' F' σ' H' nx'∧(true=false→Quiet m m'):=by
  rintro v m' s' ha rfl ⟨c1,c2⟩ ⟨hv1,hv2⟩
  refine F5.op (v:=s') (m':=m') (fun _=>?_) ⟨_,_,_,F,_,q,c1,?_,c2,fun h=>by cases h⟩
  ·have:=happ _ _ ha
   simp only [Ce,EX]
   simpa using this
  ·refine .vec (Nat.lt_succ_self _) hv1 fun j hj=>?_
   rw [He,if_pos rfl] at hj
   simp only [HB.tag,Option.some.injEq,Tg.vec.injEq] at hj
   refine ⟨by omega,fun _=>?_⟩
   rw [upd_same]
   exact hv2
 rcases hr with ⟨r1,r2,r3⟩|⟨c,g,vs,r1,r2,r3,r4,r5,r6,r7⟩
 ·have hv:Dl (σ b)=none∧(ev t s=.slice none 0 0∧z=true∨(∃ b o g,ev t s=.slice (some ⟨b,o,some g⟩) 0 0)∧z=false):=by
   rcases r3 with ⟨r3,hz⟩|⟨b',o',g',r3,hz⟩
   ·rw [r3] at hsub ⊢;exact ⟨rfl,.inl ⟨hsub.1,hz⟩⟩
   ·rw [r3] at hsub ⊢;simp only [EW] at hsub;exact ⟨rfl,.inr ⟨⟨_,_,_,hsub.1⟩,hz⟩⟩
  subst r1;subst r2
  rcases Nat.eq_zero_or_pos k with h0|h0
  ·subst h0
   have hxs:xs=[]:=by
    have hl0:l.length=0:=by rw [ES hx2];omega
    rw [List.eq_nil_of_length_eq_zero hl0] at hx3
    cases hx3;rfl
   subst hxs
   have ha:BM m e i.size l 0 (ev t s)=some (ev t s,m):=by
    rcases hv.2 with ⟨hv,_⟩|⟨⟨_,_,_,hv⟩,_⟩<;>rw [hv]<;>simp [BM]
   refine hfin _ _ _ ha rfl ?_ (by rcases hv.2 with ⟨hv,_⟩|⟨⟨_,_,_,hv⟩,_⟩<;>rw [hv]<;>refine ⟨rfl,?_⟩<;>simp [EW])
   refine h1.move hb (Nat.le_refl _) (fun _ _ _=>rfl) (fun _ h _ _=>h) (fun c hc=>by rcases hv.2 with ⟨hv,_⟩|⟨⟨_,_,_,hv⟩,_⟩<;>rw [hv] at hc<;>simp [Dl] at hc) ?_
   refine .inl ⟨rfl,rfl,?_⟩
   rcases hv.2 with ⟨hv,hz⟩|⟨⟨b',o',g',hv⟩,hz⟩
   ·exact .inl ⟨hv,hz⟩
   ·exact .inr ⟨b',o',g',hv,hz⟩
  ·have ha:BM m e i.size l k (ev t s)=some (A8 m e l k):=by
    rcases hv.2 with ⟨hv,_⟩|⟨⟨_,_,_,hv⟩,_⟩<;>rw [hv]<;>simp only [BM]<;>rw [if_neg (by omega)]
   refine hfin _ _ _ ha rfl ?_ ⟨rfl,by rw [Nat.zero_add];rfl⟩
   refine h1.move (x0:=.vec e [] 0 z) (x':=.vec e ([]++xs) (0+k) z) hb (by simp [A8,Mem.alloc]) (fun c hc _=>by (try simp only [A8]);rw [Mem.Bv,if_neg (by omega)])
    (fun k' k1 k2 _=>by simp only [A8,Mem.alloc];omega) (fun c hc=>by simp only [A8,Dl,Option.some.injEq] at hc;right;omega) ?_
   refine .inr ⟨m.size,0,l,by simp [A8],by simp [A8,Mem.alloc],fun hf=>Nat.lt_irrefl _ (h1.fr _ hf),by (try simp only [A8]);rw [Mem.Bv,if_pos rfl],?_,hx4,fun h=>by omega⟩
   rw [List.nil_append]
   exact hx3.mono (fun c hf=>⟨hf,by (try simp only [A8]);rw [Mem.Bv,if_neg (by have:=h1.fr c hf;omega)]⟩)
 ·rw [r1] at hsub
  simp only [EW] at hsub
  have hlen:=r5.length
  have hold:takeN (n*i.size) (vs.drop 0)=some vs:=by
   rw [List.drop_zero,← hl,hlen];simp [takeN]
  have ha:BM m e i.size l k (ev t s)=some (.slice (some ⟨c,0,none⟩) (n+k) (g+1),m.put c (.cells (vs++l) e (g+1) false)):=by
   rw [hsub]
   simp only [BM,r4,beq_self_eq_true,decide_eq_true hsz,Bool.and_self,if_true,hold]
   simp
  have hput':∀ d,c≠d→(m.put c (.cells (vs++l) e (g+1) false)).get d=m.get d:=fun d hd=>by rw [Mem.get_put,if_neg hd]
  refine hfin _ _ _ ha rfl ?_ ⟨rfl,rfl⟩
  refine h1.move (x':=.vec e (cs++xs) (n+k) z) hb (Nat.le_refl _) (fun d _ hd=>hput' d fun e=>hd (by rw [r1,e];rfl)) (fun k' k1 k2 k3=>by
   have:=k3 c (by rw [r1];rfl)
   simp only [Mem.put];omega) (fun d hd=>.inl (by rw [r1];exact hd)) ?_
  refine .inr ⟨c,g+1,vs++l,rfl,r2,r3,by rw [Mem.get_put,if_pos rfl],?_,by rw [List.all_append,r6,hx4];rfl,fun h=>r7 (by omega)⟩
  exact (r5.append hx3).mono (fun d hd=>⟨hd,hput' d fun e=>r3 (e▸hd)⟩)
theorem qF {n k:Nat} {l ws:List Value} (h:takeN n l=some ws):takeN (min k n) l=some (ws.take k):=by
 obtain ⟨rfl,hn⟩:=EU h
 unfold takeN
 rw [if_pos (by omega),List.take_take]
theorem Dv.take {m:Mem} {F:Nat→Prop}:∀ {cs:List FV} {vs:List Value} (k:Nat),Dv m F cs vs→Dv m F (cs.take k) (vs.take k)
 |_,_,0,_=>by simp only [List.take_zero];exact .nil
 |_,_,_+1,.nil=>.nil
 |_,_,k+1,.cons h t=>.cons h (Dv.take k t)
theorem Aa.a9r {t:TypeId} {x:Operand} {lo hi:Option Operand} {e:TypeId} {cs:List FV} {n a b sz:Nat} {inf:TypeInfo} (hx:Bh E.Γ L x=some (.p (.lst e cs n))) (ht:E.P.underlying t=some (.slice e)) (hi':E.P.info? e=some inf) (hsz:inf.size=sz)
 (hlo:match lo with|none=>a=0|some o=>∃ k,Bh E.Γ L o=some (.p (.int k (a:Int)))) (hhi:match hi with|none=>b=n|some o=>∃ k,Bh E.Γ L o=some (.p (.int k (b:Int)))) (hab:a≤b) (hbn:b≤n) (hl:cs.length=n*sz)
 (q:Q (.p (.lst e ((cs.drop (a*sz)).take ((b-a)*sz)) (b-a))) H nx):Aa E w ⟨dst,.slice t x lo hi none,ty,pos,af,gd⟩ L H nx Q :=
 Aa.quiet q fun m F σ tt h1 h2=>by
  have zA:bnd 0 (lo.map (ev tt))=some a:=by
   cases lo with
   |none=>simp only at hlo;rw [hlo];rfl
   |some o =>
    obtain ⟨k,hk⟩:=hlo
    simp only [Option.map_some,Dc h1 h2 hk,bnd]
    rw [if_pos (by omega)];simp
  have yx:bnd n (hi.map (ev tt))=some b:=by
   cases hi with
   |none=>simp only at hhi;rw [hhi];rfl
   |some o =>
    obtain ⟨k,hk⟩:=hhi
    simp only [Option.map_some,Dc h1 h2 hk,bnd]
    rw [if_pos (by omega)];simp
  have a6x:n=0→bnd 0 (hi.map (ev tt))=some 0:=fun h0=>by rw [h0] at yx;rw [yx];congr 1;omega
  have:=BK h1 h2 hx
  generalize hv:ev tt x=v at this
  cases this with
  |p hr =>
   cases hr with
   |nil =>
    have hb0:b=0:=by omega
    have ha0:a=0:=by omega
    subst hb0;subst ha0
    refine ⟨.slice none 0 0,fun _=>?_,.p (by simpa using RF.nil e)⟩
    simp only [Ce,EX,hv,aslice,Option.isSome_none,Option.map_none,Bool.false_and,Bool.false_eq_true,if_false,ht,hi',zA,a6x rfl]
    rfl
   |room e' b' o' g' =>
    have hb0:b=0:=by omega
    have ha0:a=0:=by omega
    subst hb0;subst ha0
    refine ⟨_,fun _=>?_,.p (by simpa using RF.room e b' o' g')⟩
    simp only [Ce,EX,hv,aslice,Option.isSome_none,Option.map_none,Bool.false_and,Bool.false_eq_true,if_false,ht,hi',zA,a6x rfl]
    rfl
   |lst hF hm hw hr hc =>
    rename_i b' o g vs ws ro
    refine ⟨.slice (some ⟨b',o+a*sz,none⟩) (b-a) g,fun _=>?_,.p (.lst hF hm (ws:=(ws.drop (a*sz)).take ((b-a)*sz)) ?_ (Dv.take _ (Dv.drop _ hr)) (Ls (J8 hc _) _))⟩
    ·simp only [Ce,EX,hv,aslice,Option.isSome_none,Option.map_none,Bool.false_and,Bool.false_eq_true,if_false,ht,hi',zA,yx,hm,hab,hbn,h1.fr _ hF,and_self,if_true,Option.map_some,hsz]
    ·have h3:=qF (k:=(b-a)*sz) (MR (k:=a*sz) hw)
     rw [List.drop_drop] at h3
     rw [List.length_take,List.length_drop]
     exact h3
theorem MG {α:Type} [Enc α]:∀ (l:List α) (k:Nat),(cells l).take (k*Enc.size α)=cells (l.take k)
 |_,0=>by simp [cells,encs]
 |[],k+1=>by simp [cells,encs]
 |a::l,k+1=>by
  have ih:=MG l k
  simp only [cells,encs,List.take_succ_cons] at ih ⊢
  rw [List.take_append,Enc.len,Nat.succ_mul,← ih,List.take_of_length_le (by rw [Enc.len];omega)]
  congr 2;omega
theorem Aa.sliceTo {α:Type} {_:Enc α} {l:List α} {t:TypeId} {x o:Operand} {e:TypeId} {n b:Nat} {inf:TypeInfo} {k:IntKind} (hx:Bh E.Γ L x=some (.p (.lst e (cells l) n))) (hhi:Bh E.Γ L o=some (.p (.int k (b:Int)))) (ht:E.P.underlying t=some (.slice e)) (hi':E.P.info? e=some inf)
 (hsz:inf.size=Enc.size α) (hn:l.length=n) (hbn:b≤n) (q:Q (.p (.lst e (cells (l.take b)) b)) H nx):Aa E w ⟨dst,.slice t x none (some o) none,ty,pos,af,gd⟩ L H nx Q :=
 Aa.a9r (a:=0) (b:=b) hx ht hi' hsz rfl ⟨k,hhi⟩ (Nat.zero_le _) hbn (by rw [Dw,hn]) (by
  rw [Nat.zero_mul,List.drop_zero,Nat.sub_zero,MG];exact q)
theorem Aa.qJ {t t2:TypeId} {x y:Operand} {k k':IntKind} {m n:Nat} (hx:Bh E.Γ L x=some (.p (.int k (m:Int)))) (hy:Bh E.Γ L y=some (.p (.int k' (n:Int)))) (hn:n≤k.bits) (q:Q (.p (.int k ((m / 2 ^ n:Nat):Int))) H nx) :
 Aa E w ⟨dst,.binOp .shr t x y t2,ty,pos,af,gd⟩ L H nx Q:=by
 refine Aa.shr hx hy (by omega) ?_
 have h1:(min (n:Int).toNat k.bits)=n:=by simp only [Int.toNat_natCast];omega
 have h3:((m:Int).fdiv (2 ^ n))=((m / 2 ^ n:Nat):Int):=by
  rw [Int.fdiv_eq_ediv_of_nonneg _ (by exact Int.le_of_lt (Int.pow_pos (by omega)))]
  rw [Int.natCast_ediv,Int.natCast_pow];rfl
 rw [h1,h3]
 exact q
end
section
open Go.Am
variable {E:Env} {L:Frame} {H:Heap} {nx:Nat} {Q:PV→Heap→Nat→Prop} {w:Bool}
variable {dst:Option Tmp} {ty:TypeId} {pos:String} {af:Array Edge} {gd:Option (Nat×Bool)}
theorem O9 (m:Nat) (h:m<2 ^ 64):(BitVec.ofInt 64 (m:Int)).toNat=m:=by
 rw [BitVec.toNat_ofInt,Int.emod_eq_of_lt (by omega) (Int.ofNat_lt.2 h)]
 simp
theorem wrap_u64 {n:Int} (h0:0≤n) (h:n<18446744073709551616):IntKind.u64.wrap n=n:=by
 have e:IntKind.u64.wrap n=n % 2^64:=by
  simp [IntKind.wrap,IntKind.signed,IntKind.bits]
  try omega
 rw [e]
 omega
theorem jR {k:IntKind} {m n:Nat} (hk:k=.i64∧m<2 ^ 63∨k=.u64∧m<2 ^ 64) (hn:n<2 ^ 64):VK .and k m n=some (.int k ((m &&& n:Nat):Int)):=by
 have hm:m<2 ^ 64:=by rcases hk with ⟨_,h⟩|⟨_,h⟩<;>omega
 have e:(BitVec.ofInt 64 (m:Int) &&& BitVec.ofInt 64 (n:Int)).toNat=m &&& n:=by rw [BitVec.toNat_and,O9 m hm,O9 n hn]
 have hle:m &&& n≤m:=Nat.and_le_left
 rcases hk with ⟨rfl,h⟩|⟨rfl,h⟩
 ·show some (FV.int .i64 (IntKind.i64.wrap ((BitVec.ofInt 64 (m:Int) &&& BitVec.ofInt 64 (n:Int)).toNat:Int)))=_
  rw [e,wrap_i64 ⟨by omega,by omega⟩]
 ·show some (FV.int .u64 (IntKind.u64.wrap ((BitVec.ofInt 64 (m:Int) &&& BitVec.ofInt 64 (n:Int)).toNat:Int)))=_
  rw [e,wrap_u64 (by omega) (by omega)]
theorem a4i {m n:Nat} (hm:m<2 ^ 64) (hn:n<2 ^ 64):VK .or .u64 m n=some (.int .u64 ((m ||| n:Nat):Int)):=by
 have e:(BitVec.ofInt 64 (m:Int) ||| BitVec.ofInt 64 (n:Int)).toNat=m ||| n:=by rw [BitVec.toNat_or,O9 m hm,O9 n hn]
 have hlt:m ||| n<2 ^ 64:=Nat.or_lt_two_pow hm hn
 show some (FV.int .u64 (IntKind.u64.wrap ((BitVec.ofInt 64 (m:Int) ||| BitVec.ofInt 64 (n:Int)).toNat:Int)))=_
 rw [e,wrap_u64 (by omega) (by omega)]
theorem Aa.b7j {t t2:TypeId} {x y:Operand} {m n:Nat} (hx:Bh E.Γ L x=some (.p (.int .u64 (m:Int)))) (hy:Bh E.Γ L y=some (.p (.int .u64 (n:Int)))) (hm:m<2 ^ 64) (hn:n<2 ^ 64) (q:Q (.p (.int .u64 ((m &&& n:Nat):Int))) H nx) :
 Aa E w ⟨dst,.binOp .and t x y t2,ty,pos,af,gd⟩ L H nx Q:=Aa.int hx hy (jR (.inr ⟨rfl,hm⟩) hn) q
theorem Aa.orU {t t2:TypeId} {x y:Operand} {m n:Nat} (hx:Bh E.Γ L x=some (.p (.int .u64 (m:Int)))) (hy:Bh E.Γ L y=some (.p (.int .u64 (n:Int)))) (hm:m<2 ^ 64) (hn:n<2 ^ 64) (q:Q (.p (.int .u64 ((m ||| n:Nat):Int))) H nx) :
 Aa E w ⟨dst,.binOp .or t x y t2,ty,pos,af,gd⟩ L H nx Q:=Aa.int hx hy (a4i hm hn) q
theorem Aa.a5b {t t2:TypeId} {x y:Operand} {k':IntKind} {n:Nat} (hx:Bh E.Γ L x=some (.p (.int .u64 1))) (hy:Bh E.Γ L y=some (.p (.int k' (n:Int)))) (hn:n<64) (q:Q (.p (.int .u64 ((2 ^ n:Nat):Int))) H nx) :
 Aa E w ⟨dst,.binOp .shl t x y t2,ty,pos,af,gd⟩ L H nx Q:=by
 refine Aa.shl hx hy (by omega) ?_
 have h1:(min (n:Int).toNat IntKind.u64.bits)=n:=by simp only [Int.toNat_natCast,IntKind.bits];omega
 have h2:(2:Nat) ^ n≤2 ^ 63:=Nat.pow_le_pow_right (by omega) (by omega)
 have h3:(1:Int)*2 ^ n=((2 ^ n:Nat):Int):=by rw [Int.one_mul];exact (Int.natCast_pow 2 n).symm
 have h4:((2 ^ n:Nat):Int)<18446744073709551616:=Int.ofNat_lt.2 (Nat.lt_of_le_of_lt h2 (by decide))
 rw [h1,h3,wrap_u64 (Int.natCast_nonneg _) h4]
 exact q
theorem Aa.b5n {t t2:TypeId} {x y:Operand} {k:IntKind} {m n:Nat} (hx:Bh E.Γ L x=some (.p (.int k (m:Int)))) (hy:Bh E.Γ L y=some (.p (.int k (n:Int)))) (hn:0<n) (q:Q (.p (.int k ((m % n:Nat):Int))) H nx) :
 Aa E w ⟨dst,.binOp .rem t x y t2,ty,pos,af,gd⟩ L H nx Q:=Aa.int hx hy (r:=.int k ((m % n:Nat):Int)) (by
  simp only [VK]
  rw [if_neg (by omega),Int.tmod_eq_emod_of_nonneg (by omega),Int.natCast_emod]) q
theorem Aa.b4v {t t2:TypeId} {x y:Operand} {k:IntKind} {a c:Int} (hx:Bh E.Γ L x=some (.p (.int k a))) (hy:Bh E.Γ L y=some (.p (.int k c))) (ha:0≤a) (hc:0<c) (q:Q (.p (.int k (a % c))) H nx) :
 Aa E w ⟨dst,.binOp .rem t x y t2,ty,pos,af,gd⟩ L H nx Q:=Aa.int hx hy (r:=.int k (a % c)) (by
  simp only [VK]
  rw [if_neg (by omega),Int.tmod_eq_emod_of_nonneg ha]) q
theorem Aa.a2a {s d:TypeId} {x:Operand} {k':IntKind} {n:Int} {sd:TypeDesc} (hx:Bh E.Γ L x=some (.p (.int k' n))) (hs:E.P.underlying s=some sd) (hns:jf sd=true) (hd:E.P.underlying d=some (.int .i64)) (hn:-9223372036854775808≤n∧n<9223372036854775808) (q:Q (.p (.int .i64 n)) H nx) :
 Aa E w ⟨dst,.convert s d x,ty,pos,af,gd⟩ L H nx Q:=Aa.Wn hx hs hns hd (by rw [wrap_i64 hn];exact q)
section
variable {bn:Nat} {ops:Array Oper} {op:Op} {l:List Oper} {i:Nat} {R:Frame→Heap→Nat→Prop}
end
theorem RH {Γ:Nat→Option (List Value×TypeId)} {m:Mem} {F:Nat→Prop} {T:Nat→Option Tg} {σ:Nat→Value} {t:Tr Value} {ops:Array Oper} {o:Oper} {j d:Nat} {want:Bool} (hl:RL m F T σ nx L t) (hg:o.guard=some (j,want)) (hd:(ops[j]?).bind (·.dst)=some d) (hb:ET L d=some (.Ee [])) :
 Region.wanted o (D6 ops t)=false:=by
 have h:=hl d _ hb
 generalize hv:CB t d=v at h
 cases h with
 |Ee h =>
  cases h
  unfold Region.wanted
  rw [hg]
  simp only [D6,hd,hv]
  rfl
section
variable {bn:Nat} {ops:Array Oper} {op:Op} {l:List Oper} {i:Nat} {R:Frame→Heap→Nat→Prop}
theorem Ad.Sz {j d:Nat} {want:Bool} (hd:(ops[j]?).bind (·.dst)=some d) (hb:ET L d=some (.Ee [])) (h:Ad E bn ops l (Gy L dst (.Ee [])) H nx R):Ad E bn ops (⟨dst,op,ty,pos,af,some (j,want)⟩::l) L H nx R:=by
 intro B hB m F σ t h1 h2 h3
 exact Rn.skip (RH (Γ:=E.Γ) h2 rfl hd hb) (h B hB m F σ _ h1 (h2.put (.Ee .nil)) h3)
theorem Af.Sz {j d:Nat} {want:Bool} (hd:(ops[j]?).bind (·.dst)=some d) (hb:ET L d=some (.Ee [])) (h:Af E bn ops (i+1) l (Gy L dst (.Ee [])) H nx R):Af E bn ops i (⟨dst,op,ty,pos,af,some (j,want)⟩::l) L H nx R:=by
 intro B hB m F σ t h1 h2 h3
 exact Ig.skip (RH (Γ:=E.Γ) h2 rfl hd hb) (h B hB _ F σ _ (h1.at _) (RL.at (Γ:=E.Γ) _ (h2.put (.Ee .nil))) (h3.trans (Step.at0 _ _ _ _ _ _ (Nat.le_refl _))))
end
theorem eG {n k b:Nat} (h1:n+k<1000000) (h2:b<1000000):(n+k)*(b+1)≤room:=Nat.le_trans (Nat.mul_le_mul (by omega:n+k≤1000000) (by omega:b+1≤1000000)) (by decide)
theorem Aa.a2l {α:Type} {_:Enc α} {l r:List α} {s x:Operand} {sT xT e e2:TypeId} {xd:TypeDesc} {i:TypeInfo} {b n k:Nat} {z:Bool} (hs:Bh E.Γ L s=some (.vec b n 0 n)) (hb:hget H b=some (.vec e (cells l) n z)) (hx:Bh E.Γ L x=some (.p (.lst e2 (cells r) k))) (hn:l.length=n) (hk:r.length=k)
 (qQ:E.P.underlying sT=some (.slice e)) (hxT:E.P.underlying xT=some xd) (hd:∀ k,xd≠.int k) (hi:E.P.info? e=some i) (hsz:Enc.size α=i.size) (hzs:Eb i=true) (h0:0<i.size) (hby:i.bytes<1000000) (hlen:l.length+r.length<1000000)
 (q:Q (.vec nx (l.length+r.length) 0 (l.length+r.length)) ((nx,.vec e (cells (l++r)) (l.length+r.length) z)::hdel H b) (nx+1)):Aa E true ⟨dst,.call { callee:=.builtin .append,args:=#[s,x],argTypes:=#[sT,xT] },ty,pos,af,gd⟩ L H nx Q:=by
 subst hn;subst hk
 refine appendMove' (i:=i) hs hb (mD.lst hx (by rw [Dw,hsz])) qQ hxT hd hi hzs (eG hlen hby) (by rw [Dw,hsz]) h0 ?_
 rw [← Fh]
 exact q
theorem Aa.Rl {α:Type} {_:Enc α} {r:List α} {s x:Operand} {sT xT e e2:TypeId} {xd:TypeDesc} {i:TypeInfo} {b k:Nat} {z:Bool} (hs:Bh E.Γ L s=some (.vec b 0 0 0)) (hb:hget H b=some (.vec e [] 0 z)) (hx:Bh E.Γ L x=some (.p (.lst e2 (cells r) k))) (hk:r.length=k)
 (qQ:E.P.underlying sT=some (.slice e)) (hxT:E.P.underlying xT=some xd) (hd:∀ k,xd≠.int k) (hi:E.P.info? e=some i) (hsz:Enc.size α=i.size) (hzs:Eb i=true) (h0:0<i.size) (hby:i.bytes<1000000) (hlen:r.length<1000000)
 (q:Q (.vec nx r.length 0 r.length) ((nx,.vec e (cells r) r.length z)::hdel H b) (nx+1)):Aa E true ⟨dst,.call { callee:=.builtin .append,args:=#[s,x],argTypes:=#[sT,xT] },ty,pos,af,gd⟩ L H nx Q:=by
 refine Aa.a2l (l:=([]:List α)) hs hb hx rfl hk qQ hxT hd hi hsz hzs h0 hby (by simpa using hlen) ?_
 simpa using q
theorem Aa.a7u {x:Operand} {t e':TypeId} (hx:Bh E.Γ L x=some (.p (.val (.slice none 0 0)))) (ht:E.P.underlying t=some (.slice e')) (q:Q (.p (.int .i64 0)) H nx) :
 Aa E w ⟨dst,.call { callee:=.builtin .len,args:=#[x],argTypes:=#[t] },ty,pos,af,gd⟩ L H nx Q :=
 Aa.quiet q fun m F σ tt c1 c2=>by
  have:=BK c1 c2 hx
  generalize hv:ev tt x=v at this
  refine ⟨.int .i64 0,fun _=>?_,.p (.int _ _)⟩
  cases this with|p h=>cases h;simp [Ce,EX,VX,ht,hv]
theorem Ad.JE (d:Nat) {bn:Nat} {ops:Array Oper} {op:Op} {l:List Oper} {R:Frame→Heap→Nat→Prop} (h:Ad E bn ops (⟨some d,op,ty,pos,af,gd⟩::l) L H nx R):Ad E bn ops (⟨some d,op,ty,pos,af,gd⟩::l) L H nx R:=h
theorem Af.JE (d:Nat) {bn i:Nat} {ops:Array Oper} {op:Op} {l:List Oper} {R:Frame→Heap→Nat→Prop} (h:Af E bn ops i (⟨some d,op,ty,pos,af,gd⟩::l) L H nx R):Af E bn ops i (⟨some d,op,ty,pos,af,gd⟩::l) L H nx R:=h
theorem Ac.at (n:Nat) {bn:Nat} {ops:Array Oper} {b:Bool} {k:Code} {Q:BZ→Frame→Heap→Nat→Prop} (h:Ac E bn (.seq (.region n ops b) k) L H nx Q):Ac E bn (.seq (.region n ops b) k) L H nx Q:=h
theorem rX {α:Type} {_:Enc α} {e:TypeId} {l:List α} {n:Nat} (h:n=l.length):(PV.p (.lst e (cells l) n))=lst e l:=by rw [h]
theorem le_dec {a b:Nat} (h:Nat.ble a b=true):a≤b:=by simpa using h
theorem Az {a b:Nat} (h:Nat.blt a b=true):a<b:=by simpa using h
section
variable {L:Frame} {H:Heap}
theorem FY.eq {k i:Nat} {v0:PV} {L0:Frame} (hv:ET L i=some v0) (hu:v0.under k) (t:FY k L0 L):FY k ((i,v0)::L0) L:=⟨⟨hu,v0,hv,.refl _⟩,t⟩
theorem Ci.eq {k i:Nat} {v0:HB} {L0:Heap} (hv:hget H i=some v0) (hi:i<k) (hu:v0.under k) (t:Ci k L0 H):Ci k ((i,v0)::L0) H:=⟨⟨hi,hu,v0,hv,.refl _⟩,t⟩
mutual
def PV.ub (k:Nat):PV→Bool
 | .p _=>true
 | .agg cs=>CZ.ub k cs
 | .Ee cs=>CZ.ub k cs
 | .vec b _ _ _=>Nat.blt b k
 | .ref b _=>Nat.blt b k
 | .Fq b _ _=>Nat.blt b k
 | .mref b=>Nat.blt b k
 | .clo _ fs cs=>and (CZ.ub k fs) (CZ.ub k cs)
def CZ.ub (k:Nat):List PV→Bool
 |[]=>true
 |c::cs=>and (PV.ub k c) (CZ.ub k cs)
end
mutual
theorem PV.AO {k:Nat}:∀ {x:PV},PV.ub k x=true→x.under k
 | .p _,_=>trivial
 | .agg _,h=>CZ.AO (by simpa [PV.ub] using h)
 | .Ee _,h=>CZ.AO (by simpa [PV.ub] using h)
 | .vec _ _ _ _,h=>Az h
 | .ref _ _,h=>Az h
 | .Fq _ _ _,h=>Az h
 | .mref _,h=>Az h
 | .clo _ _ _,h=>by
  simp only [PV.ub,Bool.and_eq_true] at h
  exact ⟨CZ.AO h.1,CZ.AO h.2⟩
theorem CZ.AO {k:Nat}:∀ {x:List PV},CZ.ub k x=true→CZ.under k x
 |[],_=>trivial
 |_::_,h=>by
  simp only [CZ.ub,Bool.and_eq_true] at h
  exact ⟨PV.AO h.1,CZ.AO h.2⟩
end
def HB.ub (k:Nat):HB→Bool
 | .box _ cs=>CZ.ub k cs
 | .OY _ cs _=>CZ.ub k cs
 | .IU _ cs=>CZ.ub k cs
 |_=>true
theorem HB.AO {k:Nat} {x:HB} (h:HB.ub k x=true):x.under k:=by
 cases x with
 |box e cs=>exact CZ.AO h
 |OY e cs n=>exact CZ.AO h
 |IU ks cs=>exact CZ.AO h
 |vec=>trivial
 |map=>trivial
end
theorem EJ {k:Nat} {a b:Frame} (h:FY k a b:=by repeat (first|exact FY.nil|refine FY.same (by exact PV.AO rfl) rfl ?_|refine FY.same ⟨CZ.Bz _ [_],trivial⟩ rfl ?_|refine FY.cons trivial rfl (.of_eq (rX (by simp<;>omega))) ?_)):FY k a b:=h
theorem Rz {k:Nat} {a b:Frame} (h:FY k a b:=by repeat (first|exact FY.nil|refine FY.same (by exact PV.AO rfl) rfl ?_|refine FY.same ⟨CZ.Bz _ [_],trivial⟩ rfl ?_|(refine FY.eq rfl ?_ ?_;(first|exact PV.AO rfl|(simp [PV.under,CZ.under];done)))|refine FY.cons trivial rfl (.of_eq (rX (by simp<;>omega))) ?_)):FY k a b:=h
theorem FM {k:Nat} {a b:Heap} (h:Ci k a b:=by repeat (first|exact Ci.nil|(refine Ci.cons (Az rfl) ?_ rfl ?_ ?_;(first|exact HB.AO rfl|exact CZ.Bz _ _|(simp [HB.under,CZ.under,PV.under]));(first|exact Jj.refl _|exact Jj.vec (IG.refl _) (by simp))))):Ci k a b:=h
theorem VZ {k:Nat} {a b:Heap} (h:Ci k a b:=by repeat (first|exact Ci.nil|(refine Ci.eq rfl (Az rfl) ?_ ?_;(first|exact HB.AO rfl|exact CZ.Bz _ _|(simp [HB.under,CZ.under,PV.under];done)))|(refine Ci.cons (Az rfl) ?_ rfl ?_ ?_;(first|exact HB.AO rfl|exact CZ.Bz _ _|(simp [HB.under,CZ.under,PV.under]));(first|exact Jj.refl _|exact Jj.vec (IG.refl _) (by simp))))):Ci k a b:=h
theorem Done.rt {P:Program} {rs:List ResultVar} {L:Frame} {H:Heap} {nx:Nat} {Q:PV→Heap→Nat→Prop} {r:PV} (h:Ei P rs L H=some r) (hu:PV.ub 0 r=true) (q:Q r [] 0):Done P rs 0 Q .ret L H nx:=Done.ret h (.refl _) (PV.AO hu) Ci.nil (Nat.zero_le _) (Nat.le_refl _) q
end
section
open Go.Am
variable {E:Env} {L:Frame} {H:Heap} {nx:Nat} {Q:PV→Heap→Nat→Prop} {w:Bool}
variable {dst:Option Tmp} {ty:TypeId} {pos:String} {af:Array Edge} {gd:Option (Nat×Bool)}
def AY (P:Program) (rs:List ResultVar) (Q:PV→Heap→Nat→Prop) (e:BZ) (L:Frame) (H:Heap) (nx:Nat):Prop :=
 match e with
 | .exit _=>False
 | .normal=>∃ r,Ei P rs L H=some r∧Q r H nx
 | .ret=>∃ r,Ei P rs L H=some r∧Q r H nx
theorem AY.ret {P:Program} {rs:List ResultVar} {r:PV} (h:Ei P rs L H=some r) (q:Q r H nx):AY P rs Q .ret L H nx:=⟨r,h,q⟩
theorem Ba.a7v {f:FuncId} {fn:Func} {c:Code} {args:List PV} (ho:E.O f=none) (hf:E.P.funcs[f]?=some fn) (hb:fn.body=some c) (hok:Ij E.G fn c=true) (hn:args.length≤fn.ntmps)
 (h:Ac E nx c (CP 0 args) H nx (AY E.P fn.results.toList Q)):Ba E f args H nx Q:=by
 intro m F σ BF h1 h2
 refine H8.enter ho hf hb hok (by rw [← h2.length];exact hn) ((h ⟨m,F,σ,H,nx⟩ rfl m F σ _ h1 ?_ (Step.refl _ _ _ _ _)).mono ?_)
 ·intro i v hi
  obtain ⟨_,h3⟩:=Ik args 0 i v hi
  obtain ⟨u,h4,h5⟩:=h2.get h3
  have:=F9 BF 0 .leaf i
  simp only [Nat.sub_zero] at h4
  have hlt:i<BF.length:=by
   rcases Nat.lt_or_ge i BF.length with h|h
   ·exact h
   ·rw [List.getElem?_eq_none h] at h4;cases h4
  rw [this,if_pos ⟨Nat.zero_le _,by omega⟩,Nat.sub_zero,List.getD_eq_getElem?_getD,h4]
  exact h5
 ·rintro e s ⟨L',H',nx',F',σ',q,c1,c2,c3⟩
  have key:(∃ r,Ei E.P fn.results.toList L' H'=some r∧Q r H' nx')→∃ v,EN E.P fn s=some v∧∃ r H' nx' F' σ',Q r H' nx'∧Ctx E.Γ s.m F' σ' H' nx'∧RP s.m F' (htag H') σ' nx' r v∧Step m F σ H nx s.m F' σ' H' nx':=by
   rintro ⟨r0,hr,q⟩
   obtain ⟨v,h3,h4⟩:=JG c1 c2 hr
   exact ⟨v,h3,r0,H',nx',F',σ',q,c1,h4,c3⟩
  cases e with
  |exit i=>exact q.elim
  |normal=>exact key q
  |ret=>exact key q
theorem Aa.inl {fo:Operand} {args:Array Operand} {aT:Array TypeId} {g:FuncId} {fs cs BF:List PV} (hf:Bh E.Γ L fo=some (.clo g fs cs)) (ha:evs E.Γ L args.toList=some BF)
 (hc:Ba E g (fs++BF++cs) H nx Q):Aa E true ⟨dst,.call { callee:=.value fo,args:=args,argTypes:=aT },ty,pos,af,gd⟩ L H nx Q:=by
 intro m F σ t h1 h2
 have hfv:=BK h1 h2 hf
 generalize hfe:ev t fo=fv at hfv
 cases hfv with
 |clo r1 r2 =>
  rename_i vf vc
  refine F5.call (f:=g) (BF:=vf++args.toList.map (ev t)++vc) (fun call=>by simp only [Ce,hfe]) ((hc m F σ _ h1 ((r1.append (PX h1 h2 ha)).append r2)).mono ?_)
  rintro v m' ⟨r,H',nx',F',σ',q,c1,c2,c3⟩
  exact ⟨r,H',nx',F',σ',q,c1,c2,c3,fun h=>by cases h⟩
theorem Aa.inline {fo:Operand} {args:Array Operand} {aT:Array TypeId} {g:FuncId} {fs cs BF:List PV} {fn:Func} {c:Code} (hg:g=g) (hf:Bh E.Γ L fo=some (.clo g fs cs)) (ha:evs E.Γ L args.toList=some BF)
 (ho:E.O g=none) (hfn:E.P.funcs[g]?=some fn) (hb:fn.body=some c) (hok:Ij E.G fn c=true) (hn:(fs++BF++cs).length≤fn.ntmps)
 (h:Ac E nx c (CP 0 (fs++BF++cs)) H nx (AY E.P fn.results.toList Q)):Aa E true ⟨dst,.call { callee:=.value fo,args:=args,argTypes:=aT },ty,pos,af,gd⟩ L H nx Q :=
 Aa.inl hf ha (Ba.a7v ho hfn hb hok hn h)
end
section
open Go.Am
variable {E:Env} {L:Frame} {H:Heap} {nx:Nat} {Q:PV→Heap→Nat→Prop} {w:Bool}
variable {dst:Option Tmp} {ty:TypeId} {pos:String} {af:Array Edge} {gd:Option (Nat×Bool)}
def bs (l:List UInt8):ByteArray:=⟨l.toArray⟩
theorem KU (l:List UInt8):(bs l).size=l.length:=by simp [bs,ByteArray.size]
theorem ah (l:List UInt8):(bs l).toList=l:=ByteArray.toList_mk l
theorem fP (l:List UInt8):(bs l).data.toList=l:=by simp [bs]
theorem a1y {a b:List UInt8} (h:bs a=bs b):a=b:=by
 have:=congrArg (fun s:ByteArray=>s.data.toList) h
 simpa [fP] using this
abbrev st (l:List UInt8):PV:=.p (.str (bs l))
instance:Enc UInt8:={ default:=0,enc:=fun n=>[.int .u8 (n.toNat:Int)],size:=1,len:=fun _=>rfl }
instance b7d:Enc Nat:={ default:=0,enc:=fun n=>[.int .u64 (n:Int)],size:=1,len:=fun _=>rfl }
theorem Aa.SV {x:Operand} {t:TypeId} {l:List UInt8} (hx:Bh E.Γ L x=some (st l)) (ht:E.P.underlying t=some .string) (q:Q (.p (.int .i64 l.length)) H nx) :
 Aa E w ⟨dst,.call { callee:=.builtin .len,args:=#[x],argTypes:=#[t] },ty,pos,af,gd⟩ L H nx Q :=
 Aa.b6q hx ht (by rw [KU];exact q)
theorem Aa.b7l {op:BinOp} {t t2:TypeId} {x y:Operand} {a b:List UInt8} {r:FV} (hx:Bh E.Γ L x=some (st a)) (hy:Bh E.Γ L y=some (st b))
 (h:∀ m F,∃ v,VR E.P (do eqGuard op t x y (.string (bs a)) (.string (bs b));binOp op t (.string (bs a)) (.string (bs b)))=some v∧RF m F r v) (q:Q (.p r) H nx) :
 Aa E w ⟨dst,.binOp op t x y t2,ty,pos,af,gd⟩ L H nx Q :=
 Aa.quiet q fun m F σ tt c1 c2=>by
  obtain ⟨v,h1,h2⟩:=h m F
  refine ⟨v,fun _=>?_,.p h2⟩
  simp only [Ce,EX,KL c1 c2 hx,KL c1 c2 hy,NY]
  rw [show (plain (Value.string (bs a))&&plain (Value.string (bs b)))=true from rfl]
  simp only [if_true,h1,Option.map_some]
theorem Aa.eqS {t t2:TypeId} {x y:Operand} {a b:List UInt8} (hx:Bh E.Γ L x=some (st a)) (hy:Bh E.Γ L y=some (st b)) (q:Q (.p (.bool (decide (a=b)))) H nx) :
 Aa E w ⟨dst,.binOp .eql t x y t2,ty,pos,af,gd⟩ L H nx Q :=
 Aa.b7l hx hy (fun m F=>⟨.bool (decide (a=b)),by
  have:DJ E.P (do eqGuard .eql t x y (.string (bs a)) (.string (bs b));binOp .eql t (.string (bs a)) (.string (bs b)))=some (.bool (decide (a=b))):=by
   rw [binOp_string_eql,ah,ah]
   simp only [Ar,eqGuard]
   rw [show ((a==b):Bool)=decide (a=b) by by_cases h:a=b<;>simp [h]]
   rfl
  exact KJ this rfl,.bool _⟩) q
theorem Aa.a4r {t:TypeId} {x ix:Operand} {l:List UInt8} {k:IntKind} {i:Int} (hx:Bh E.Γ L x=some (st l)) (hi:Bh E.Γ L ix=some (.p (.int k i))) (ht:E.P.underlying t=some .string) (h0:0≤i) (h1:i<l.length)
 (q:Q (.p (.int .u8 ((gi l i.toNat).toNat:Int))) H nx):Aa E w ⟨dst,.index t x ix,ty,pos,af,gd⟩ L H nx Q :=
 Aa.quiet q fun m F σ tt c1 c2=>by
  refine ⟨.int .u8 ((gi l i.toNat).toNat:Int),fun _=>?_,.p (.int _ _)⟩
  have hlt:i.toNat<l.length:=by omega
  have hg:(bs l)[i.toNat]?=some (gi l i.toNat):=by
   have h2:i.toNat<(bs l).size:=by rw [KU];exact hlt
   rw [getElem?_pos (bs l) i.toNat h2]
   congr 1
   simp only [gi,List.getElem?_eq_getElem hlt,Option.getD_some]
   show (bs l).data[i.toNat]=_
   simp [bs]
  have hd:DJ E.P (Instr.index t (.string (bs l)) (.int k i))=some (.int .u8 ((gi l i.toNat).toNat:Int)):=by
   simp only [Instr.index,asIntOf,Ar,BR,Option.bind_some,Bg,ht,h0,if_true,hg]
  simp only [Ce,EX,KL c1 c2 hx,Dc c1 c2 hi]
  rw [show plain (Value.int k i)=true from rfl]
  simp only [if_true,hd,Option.map_some]
theorem Aa.Tc {t:TypeId} {x ix:Operand} {l:List UInt8} {k:IntKind} {i:Nat} (hx:Bh E.Γ L x=some (st l)) (hi:Bh E.Γ L ix=some (.p (.int k (i:Int)))) (ht:E.P.underlying t=some .string) (h1:i<l.length)
 (q:Q (.p (.int .u8 ((gi l i).toNat:Int))) H nx):Aa E w ⟨dst,.index t x ix,ty,pos,af,gd⟩ L H nx Q :=
 Aa.a4r hx hi ht (by omega) (by omega) q
theorem PZ {P:Program} {k:IntKind} {i:Int} {y:Nat} {c:BoundsCode} (h0:0≤i) (h1:i≤y):DJ P (Instr.sliceBound (.int k i) y c)=some i.toNat:=by
 simp only [Instr.sliceBound,asIntOf,Ar,BR,Option.bind_some,h0,h1,and_self,if_true]
theorem Aa.tY {t:TypeId} {x:Operand} {lo hi:Option Operand} {l:List UInt8} {a b:Nat} (hx:Bh E.Γ L x=some (st l)) (ht:E.P.underlying t=some .string)
 (hlo:match lo with|none=>a=0|some o=>∃ k,Bh E.Γ L o=some (.p (.int k (a:Int)))) (hhi:match hi with|none=>b=l.length|some o=>∃ k,Bh E.Γ L o=some (.p (.int k (b:Int))))
 (h1:a≤b) (h2:b≤l.length) (q:Q (st ((l.take b).drop a)) H nx):Aa E w ⟨dst,.slice t x lo hi none,ty,pos,af,gd⟩ L H nx Q :=
 Aa.quiet q fun m F σ tt c1 c2=>by
  refine ⟨.string (bs ((l.take b).drop a)),fun _=>?_,.p (.str _)⟩
  have hex:(bs l).extract a b=bs ((l.take b).drop a):=by
   unfold bs
   rw [ByteArray.extract_mk]
   congr 2
   rw [List.drop_take]
  have hd:VR E.P (Instr.sliceAt t (.string (bs l)) (lo.map (ev tt)) (hi.map (ev tt)) none)=some (.string (bs ((l.take b).drop a))):=by
   refine KJ ?_ rfl
   have key:DJ E.P (Instr.sliceBounds false (bs l).size (bs l).size (lo.map (ev tt)) (hi.map (ev tt)) none)=some (a,b,l.length):=by
    cases hi with
    |none =>
     simp only at hhi
     subst hhi
     cases lo with
     |none =>
      simp only at hlo
      subst hlo
      simp only [Instr.sliceBounds,Option.map_none,Ar,BR,Option.bind_some,KU]
     |some o =>
      obtain ⟨k,hk⟩:=hlo
      simp only [Instr.sliceBounds,Option.map_none,Option.map_some,Ar,BR,Option.bind_some,KU,Dc c1 c2 hk,Option.isSome_none,Bool.false_eq_true,if_false,Int.toNat_natCast,PZ (show (0:Int)≤(a:Int) by omega) (show (a:Int)≤((l.length:Nat):Int) by omega)]
    |some o2 =>
     obtain ⟨k2,hk2⟩:=hhi
     cases lo with
     |none =>
      simp only at hlo
      subst hlo
      simp only [Instr.sliceBounds,Option.map_none,Option.map_some,Ar,BR,Option.bind_some,KU,Dc c1 c2 hk2,Bool.false_eq_true,if_false,Int.toNat_natCast,PZ (show (0:Int)≤(b:Int) by omega) (show (b:Int)≤((l.length:Nat):Int) by omega)]
     |some o =>
      obtain ⟨k,hk⟩:=hlo
      simp only [Instr.sliceBounds,Option.map_none,Option.map_some,Ar,BR,Option.bind_some,KU,Dc c1 c2 hk,Dc c1 c2 hk2,Option.isSome_none,Bool.false_eq_true,if_false,Int.toNat_natCast,
       PZ (show (0:Int)≤(b:Int) by omega) (show (b:Int)≤((l.length:Nat):Int) by omega),PZ (show (0:Int)≤(a:Int) by omega) (show (a:Int)≤((b:Nat):Int) by omega)]
   simp only [Instr.sliceAt,Instr.slice,Ar,Bg,ht,Option.bind_some,Option.isSome_none,Bool.false_eq_true,if_false,key,BR,hex]
  have hp:((lo.map (ev tt)).all plain&&(hi.map (ev tt)).all plain&&(none:Option Value).isNone)=true:=by
   have e1:(lo.map (ev tt)).all plain=true:=by
    cases lo with
    |none=>rfl
    |some o=>obtain ⟨k,hk⟩:=hlo;simp only [Option.map_some,Option.all_some,Dc c1 c2 hk];rfl
   have e2:(hi.map (ev tt)).all plain=true:=by
    cases hi with
    |none=>rfl
    |some o=>obtain ⟨k,hk⟩:=hhi;simp only [Option.map_some,Option.all_some,Dc c1 c2 hk];rfl
   rw [e1,e2];rfl
  simp only [Ce,EX,aslice,KL c1 c2 hx,ht,Option.isSome_none,Bool.false_and,Bool.false_eq_true,if_false,Option.map_none]
  rw [if_pos hp,hd]
  rfl
theorem Aa.yj {t:TypeId} {x o:Operand} {l:List UInt8} {k:IntKind} {b:Nat} (hx:Bh E.Γ L x=some (st l)) (ho:Bh E.Γ L o=some (.p (.int k (b:Int)))) (ht:E.P.underlying t=some .string) (h2:b≤l.length) (q:Q (st (l.take b)) H nx) :
 Aa E w ⟨dst,.slice t x none (some o) none,ty,pos,af,gd⟩ L H nx Q:=Aa.tY (a:=0) hx ht rfl ⟨k,ho⟩ (by omega) h2 (by rw [List.drop_zero];exact q)
theorem Aa.oq {t:TypeId} {x o:Operand} {l:List UInt8} {k:IntKind} {a:Nat} (hx:Bh E.Γ L x=some (st l)) (ho:Bh E.Γ L o=some (.p (.int k (a:Int)))) (ht:E.P.underlying t=some .string) (h2:a≤l.length) (q:Q (st (l.drop a)) H nx) :
 Aa E w ⟨dst,.slice t x (some o) none none,ty,pos,af,gd⟩ L H nx Q:=Aa.tY (b:=l.length) hx ht ⟨k,ho⟩ rfl h2 (Nat.le_refl _) (by rw [List.take_length];exact q)
theorem Vb {m:Mem} {F:Nat→Prop}:∀ (l:List UInt8),Dv m F (cells l) (l.map fun c=>Value.int .u8 c.toNat)
 |[]=>.nil
 |c::l=>.cons (.int _ _) (Vb l)
theorem Aa.a2z {s d e:TypeId} {i:TypeInfo} {x:Operand} {l:List UInt8} (hx:Bh E.Γ L x=some (st l)) (hs:E.P.underlying s=some .string) (hd:E.P.underlying d=some (.slice e)) (he:E.P.underlying e=some (.int .u8)) (hi:E.P.info? e=some i) (h1:i.size=1)
 (hl:l.length≤1000000) (q:Q (.vec nx l.length 0 l.length) ((nx,.vec e (cells l) l.length false)::H) (nx+1)):Aa E w ⟨dst,.convert s d x,ty,pos,af,gd⟩ L H nx Q:=by
 intro m F σ t c1 c2
 have hb:Ir (bs l)=l.map fun c=>Value.int .u8 c.toNat:=by unfold Ir;rw [fP]
 obtain ⟨d1,d2,d3,_⟩:=PE (e:=e) (cs:=cells l) (vs:=l.map fun (c:UInt8)=>Value.int .u8 (c.toNat:Int)) l.length c1 (Vb l) (by simp [BO])
 refine F5.op (v:=(A8 m e (l.map fun (c:UInt8)=>Value.int .u8 (c.toNat:Int)) l.length).1) (m':=(A8 m e (l.map fun (c:UInt8)=>Value.int .u8 (c.toNat:Int)) l.length).2) (fun _=>?_) ⟨_,_,_,F,_,q,d1,?_,d2,fun _=>d3⟩
 ·have hsl:(Jf E.P s||Jf E.P d)=true:=by simp only [Jf,hs,hd];rfl
  simp only [Ce,EX,hsl,if_true,YA,hs,hd,KL c1 c2 hx,he,hi]
  rw [if_pos ⟨h1,by rw [KU];omega⟩,hb,KU]
 ·refine .vec (Nat.lt_succ_self _) rfl fun n hn=>?_
  rw [He,if_pos rfl] at hn
  simp only [HB.tag,Option.some.injEq,Tg.vec.injEq] at hn
  exact ⟨by omega,fun _=>by rw [upd_same];rfl⟩
theorem Vx:∀ (l:List UInt8),Uo (l.map fun c=>Value.int .u8 c.toNat)=some l
 |[]=>rfl
 |c::l=>by
  have h:=c.toNat_lt
  simp only [List.map_cons,Uo]
  rw [if_pos ⟨by omega,by omega⟩,Vx l]
  simp
theorem Va {m:Mem} {F:Nat→Prop}:∀ {l:List UInt8} {vs:List Value},Dv m F (cells l) vs→vs=l.map fun c=>Value.int .u8 c.toNat
 |[],_,.nil=>rfl
 |c::l,_,.cons h t=>by
  cases h
  rw [Va t];rfl
theorem Aa.ofBytes {s d e:TypeId} {x:Operand} {l:List UInt8} {k:Nat} (hx:mD E.Γ L H nx x 1 (cells l) k) (hv:∃ y,Bh E.Γ L x=some y∧(∀ m F σ v,RP m F (htag H) σ nx y v→∃ a g,v=.slice a k g)) (hs:E.P.underlying s=some (.slice e)) (hd:E.P.underlying d=some .string) (he:E.P.underlying e=some (.int .u8))
 (q:Q (st l) H nx):Aa E true ⟨dst,.convert s d x,ty,pos,af,gd⟩ L H nx Q :=
 Aa.quiet q fun m F σ tt c1 c2=>by
  obtain ⟨hl1,vs,hl2,hl3,hl4⟩:=hx m F σ tt c1 c2
  obtain ⟨y,hy,hyv⟩:=hv
  obtain ⟨a,g,hag⟩:=hyv m F σ _ (BK c1 c2 hy)
  have hvs:=Va hl3
  subst hvs
  rw [hag] at hl2
  refine ⟨.string (bs l),fun _=>?_,.p (.str _)⟩
  have hsl:(Jf E.P s||Jf E.P d)=true:=by simp only [Jf,hs,hd];rfl
  simp only [Ce,EX,hsl,if_true,YA,hs,hd,hag,he,hl2,Vx]
  rfl
end
section
open Go.Am
variable {E:Env} {L:Frame} {H:Heap} {nx:Nat} {Q:PV→Heap→Nat→Prop} {w:Bool}
variable {dst:Option Tmp} {ty:TypeId} {pos:String} {af:Array Edge} {gd:Option (Nat×Bool)}
theorem OJ {α:Type}:∀ (z p c:List α) (o:Nat),Dk (p++c) (p.length+o) z=p++Dk c o z
 |[],_,_,_=>rfl
 |x::z,p,c,o=>by
  simp only [Dk]
  rw [List.set_append_right _ _ (by omega),Nat.add_sub_cancel_left,Nat.add_assoc,OJ z p (c.set o x) (o+1)]
theorem RD {α:Type}:∀ (z xs ys:List α),z.length=xs.length→Dk (xs++ys) 0 z=z++ys
 |[],xs,ys,h=>by rw [List.eq_nil_of_length_eq_zero h.symm];rfl
 |x::z,[],ys,h=>by simp at h
 |x::z,y::xs,ys,h=>by
  simp only [Dk,List.cons_append,List.set_cons_zero]
  have:=OJ z [x] (xs++ys) 0
  simp only [List.length_singleton,List.singleton_append] at this
  rw [this,RD z xs ys (by simpa using h)]
theorem Y9 {α:Type} [Enc α] (l:List α) (i:Nat) (a:α) (h:i<l.length):Dk (cells l) (i*Enc.size α) (Enc.enc a)=cells (l.set i a):=by
 have h1:l=l.take i++(gi l i::l.drop (i+1)):=by
  have hd:l.drop i=gi l i::l.drop (i+1):=by
   rw [List.drop_eq_getElem_cons h];simp [gi,List.getElem?_eq_getElem h]
  conv=>lhs;rw [← List.take_append_drop i l]
  rw [hd]
 have h2:l.set i a=l.take i++(a::l.drop (i+1)):=by
  conv=>lhs;rw [h1]
  rw [List.set_append_right _ _ (by simp;omega)]
  rw [List.length_take,Nat.min_eq_left (by omega),Nat.sub_self,List.set_cons_zero]
 rw [h2,Fh]
 conv=>lhs;rw [h1,Fh]
 have h3:i*Enc.size α=(cells (l.take i)).length+0:=by rw [Dw,List.length_take,Nat.min_eq_left (by omega),Nat.add_zero]
 rw [h3,OJ]
 congr 1
 show Dk (Enc.enc (gi l i)++cells (l.drop (i+1))) 0 (Enc.enc a)=Enc.enc a++cells (l.drop (i+1))
 exact RD _ _ _ (by rw [Enc.len,Enc.len])
theorem Aa.a2i {α:Type} {_:Enc α} {t:TypeId} {x ix:Operand} {e:TypeId} {l:List α} {b n:Nat} {z:Bool} {k:IntKind} {i:Int} (hx:Bh E.Γ L x=some (.vec b n 0 n)) (hb:hget H b=some (.vec e (cells l) n z)) (hi:Bh E.Γ L ix=some (.p (.int k i)))
 (hs:elemSize E.P t=some (Enc.size α)) (h0:0≤i) (h1:i<n) (q:Q (.Fq b n (i.toNat*Enc.size α)) H nx):Aa E w ⟨dst,.indexAddr t x ix,ty,pos,af,gd⟩ L H nx Q :=
 Aa.a1c hx hb hi hs h0 h1 (by rw [Nat.zero_add];exact q)
theorem Aa.EY {α:Type} {_:Enc α} {t:TypeId} {x ix:Operand} {e:TypeId} {l:List α} {b n:Nat} {z:Bool} {k:IntKind} {i:Nat} (hx:Bh E.Γ L x=some (.vec b n 0 n)) (hb:hget H b=some (.vec e (cells l) n z)) (hi:Bh E.Γ L ix=some (.p (.int k (i:Int))))
 (hs:elemSize E.P t=some (Enc.size α)) (h1:i<n) (q:Q (.Fq b n (i*Enc.size α)) H nx):Aa E w ⟨dst,.indexAddr t x ix,ty,pos,af,gd⟩ L H nx Q :=
 Aa.a2i hx hb hi hs (by omega) (by omega) q
theorem Aa.Io {α:Type} {_:Enc α} {t:TypeId} {a:Operand} {b n i:Nat} {e:TypeId} {l:List α} {z:Bool} {r:FV} (ha:Bh E.Γ L a=some (.Fq b n (i*Enc.size α))) (hb:hget H b=some (.vec e (cells l) n z)) (hi:i<l.length)
 (h:Z4 E.P t (Enc.enc (gi l i)++cells (l.drop (i+1)))=some r) (q:Q (.p r) H nx):Aa E w ⟨dst,.load t a,ty,pos,af,gd⟩ L H nx Q :=
 Aa.b3d ha hb (by rw [Q5 l i hi];exact h) q
theorem Aa.Nh {α:Type} {_:Enc α} {t:TypeId} {a x:Operand} {b n i:Nat} {e:TypeId} {l:List α} {z:Bool} {r:PV} {inf:TypeInfo} (y:α) (ha:Bh E.Γ L a=some (.Fq b n (i*Enc.size α))) (hx:Bh E.Γ L x=some r) (hb:hget H b=some (.vec e (cells l) n z)) (hn:Uz r)
 (hf:La r=(Enc.enc y).map .p) (a8r:E.P.info? t=some inf) (hl:Enc.size α=inf.size) (h0:0<inf.size) (hi:i<l.length) (q:Q (.Ee []) (hput H b (.vec e (cells (l.set i y)) n z)) nx):Aa E true ⟨dst,.store t a x,ty,pos,af,gd⟩ L H nx Q :=
 Aa.a7q ha hx hb hn hf a8r (by rw [Enc.len,hl]) h0 (by
  rw [Dw,← hl]
  have:=Nat.mul_le_mul_right (Enc.size α) hi
  rw [Nat.succ_mul] at this
  exact this) (by rw [Y9 l i y hi];exact q)
theorem eu {α:Type} [Enc α] {z:List Value} {a:α} (h:z.map GL=Enc.enc a) (n:Nat):(AQ z n).map GL=cells (List.replicate n a):=by
 induction n with
 |zero=>rfl
 |succ n ih=>simp only [AQ,List.map_append,h,ih,List.replicate_succ,cells,encs]
theorem Aa.QO {α:Type} {_:Enc α} {t e:TypeId} {l c:Operand} (n:Nat) (a:α) {k1 k2:IntKind} {v v':Int} {z:List Value} {i:TypeInfo} (hu:E.P.underlying t=some (.slice e)) (hi:E.P.info? e=some i) (hz:Cj E.P e=some z) (hl:Bh E.Γ L l=some (.p (.int k1 v))) (hc:Bh E.Γ L c=some (.p (.int k2 v')))
 (hv:v=n) (hv':v'=n) (hb:n<1000000) (hb2:i.bytes<1000000) (hs:z.length=i.size∧0<i.size) (ha:z.map GL=Enc.enc a) (q:Q (.vec nx n 0 n) ((nx,.vec e (cells (List.replicate n a)) n false)::H) (nx+1)):Aa E w ⟨dst,.makeSlice t l c,ty,pos,af,gd⟩ L H nx Q :=
 Aa.makeSlice (n:=n) hu hi hz (by rw [hl,hv]) (by rw [hc,hv']) ⟨by have:=eG (n:=n) (k:=0) (b:=i.bytes) (by omega) hb2;simpa using this,by omega⟩ hs (by rw [eu ha];exact q)
theorem Aa.b6f {t t2:TypeId} {x y:Operand} {a b:Int} (hx:Bh E.Γ L x=some (.p (.int .u64 a))) (hy:Bh E.Γ L y=some (.p (.int .u64 b))) (h:0≤a+b∧a+b<18446744073709551616) (q:Q (.p (.int .u64 (a+b))) H nx) :
 Aa E w ⟨dst,.binOp .add t x y t2,ty,pos,af,gd⟩ L H nx Q:=Aa.int hx hy (r:=.int .u64 (a+b)) (by simp only [VK,wrap_u64 h.1 h.2]) q
theorem wrap_u8 {n:Int} (h0:0≤n) (h:n<256):IntKind.u8.wrap n=n:=by
 simp only [IntKind.wrap,IntKind.bits,IntKind.signed,Bool.false_and,Bool.false_eq_true,if_false]
 omega
theorem Aa.b5g {t t2:TypeId} {x y:Operand} {a b:Int} (hx:Bh E.Γ L x=some (.p (.int .u8 a))) (hy:Bh E.Γ L y=some (.p (.int .u8 b))) (h:0≤a-b∧a-b<256) (q:Q (.p (.int .u8 (a-b))) H nx) :
 Aa E w ⟨dst,.binOp .sub t x y t2,ty,pos,af,gd⟩ L H nx Q:=Aa.int hx hy (r:=.int .u8 (a-b)) (by simp only [VK,wrap_u8 h.1 h.2]) q
theorem Aa.a7e {s d:TypeId} {x:Operand} {k':IntKind} {n:Int} {sd:TypeDesc} (hx:Bh E.Γ L x=some (.p (.int k' n))) (hs:E.P.underlying s=some sd) (hns:jf sd=true) (hd:E.P.underlying d=some (.int .u64)) (hn:0≤n∧n<18446744073709551616) (q:Q (.p (.int .u64 n)) H nx) :
 Aa E w ⟨dst,.convert s d x,ty,pos,af,gd⟩ L H nx Q:=Aa.Wn hx hs hns hd (by rw [wrap_u64 hn.1 hn.2];exact q)
theorem Aa.b2o {s d:TypeId} {x:Operand} {k':IntKind} {n:Int} {sd:TypeDesc} (hx:Bh E.Γ L x=some (.p (.int k' n))) (hs:E.P.underlying s=some sd) (hns:jf sd=true) (hd:E.P.underlying d=some (.int .u8)) (hn:0≤n∧n<256) (q:Q (.p (.int .u8 n)) H nx) :
 Aa E w ⟨dst,.convert s d x,ty,pos,af,gd⟩ L H nx Q:=Aa.Wn hx hs hns hd (by rw [wrap_u8 hn.1 hn.2];exact q)
theorem Aa.b7r {op:BinOp} {t t2:TypeId} {x y:Operand} {a b r:Bool} (hx:Bh E.Γ L x=some (.p (.bool a))) (hy:Bh E.Γ L y=some (.p (.bool b))) (ht:E.P.underlying t=some .bool) (hr:op=.eql∧r=(a==b)∨op=.neq∧r=(a != b)) (q:Q (.p (.bool r)) H nx) :
 Aa E w ⟨dst,.binOp op t x y t2,ty,pos,af,gd⟩ L H nx Q :=
 Aa.quiet q fun m F σ tt c1 c2=>by
  refine ⟨.bool r,fun _=>?_,.p (.bool _)⟩
  have hd:DJ E.P (do eqGuard op t x y (.bool a) (.bool b);binOp op t (.bool a) (.bool b))=some (.bool r):=by
   have h2:∀ d,DJ E.P (Op.equalIn (d+1) t (.bool a) (.bool b))=some (a==b):=fun d=>by
    simp only [Op.equalIn,Ar,Bg,ht,Option.bind_some];rfl
   have h3:DJ E.P (Op.equal t (.bool a) (.bool b))=some (a==b):=h2 (Op.maxDepth-1)
   rcases hr with ⟨rfl,rfl⟩|⟨rfl,rfl⟩
   ·show DJ E.P (do eqGuard .eql t x y (.bool a) (.bool b);(do pure (.bool (← Op.equal t (.bool a) (.bool b))):Sem Value))=_
    simp only [eqGuard,Ar,h3,Option.bind_some,BR]
    rfl
   ·show DJ E.P (do eqGuard .neq t x y (.bool a) (.bool b);(do pure (.bool (!(← Op.equal t (.bool a) (.bool b)))):Sem Value))=_
    simp only [eqGuard,Ar,h3,Option.bind_some,BR]
    rfl
  simp only [Ce,EX,GX c1 c2 hx,GX c1 c2 hy,NY]
  rw [show (plain (Value.bool a)&&plain (Value.bool b))=true from rfl]
  simp only [if_true,KJ hd rfl,Option.map_some]
theorem Aa.neB {t t2:TypeId} {x y:Operand} {a b:Bool} (hx:Bh E.Γ L x=some (.p (.bool a))) (hy:Bh E.Γ L y=some (.p (.bool b))) (ht:E.P.underlying t=some .bool) (q:Q (.p (.bool (a != b))) H nx) :
 Aa E w ⟨dst,.binOp .neq t x y t2,ty,pos,af,gd⟩ L H nx Q:=Aa.b7r hx hy ht (.inr ⟨rfl,rfl⟩) q
theorem Aa.a8w {x y:Operand} {aT:Array TypeId} {a b:Int} (hx:Bh E.Γ L x=some (.p (.int .i64 a))) (hy:Bh E.Γ L y=some (.p (.int .i64 b))) (q:Q (.p (.int .i64 (max a b))) H nx) :
 Aa E w ⟨dst,.call { callee:=.builtin .max,args:=#[x,y],argTypes:=aT },ty,pos,af,gd⟩ L H nx Q :=
 Aa.quiet q fun m F σ tt c1 c2=>by
  refine ⟨.int .i64 (max a b),fun _=>?_,.p (.int _ _)⟩
  have he:(#[x,y]:Array Operand).map (ev tt)=#[.int .i64 a,.int .i64 b]:=by simp [Dc c1 c2 hx,Dc c1 c2 hy]
  have hp:((#[x,y]:Array Operand).map (ev tt)).toList.all plain=true:=by rw [he];rfl
  have hd:DJ E.P (Builtin.max_ aT ty #[.int .i64 a,.int .i64 b])=some (.int .i64 (max a b)):=by
   simp only [Builtin.max_,List.foldlM_cons,List.foldlM_nil,Builtin.max2,Ar,BR,Option.bind_some]
   congr 2
   split<;>omega
  simp only [Ce,EX,hp,if_true]
  rw [he,KJ hd rfl]
  rfl
theorem Aa.b7f {x y:Operand} {aT:Array TypeId} {a b:Int} (hx:Bh E.Γ L x=some (.p (.int .i64 a))) (hy:Bh E.Γ L y=some (.p (.int .i64 b))) (q:Q (.p (.int .i64 (min a b))) H nx) :
 Aa E w ⟨dst,.call { callee:=.builtin .min,args:=#[x,y],argTypes:=aT },ty,pos,af,gd⟩ L H nx Q :=
 Aa.quiet q fun m F σ tt c1 c2=>by
  refine ⟨.int .i64 (min a b),fun _=>?_,.p (.int _ _)⟩
  have he:(#[x,y]:Array Operand).map (ev tt)=#[.int .i64 a,.int .i64 b]:=by simp [Dc c1 c2 hx,Dc c1 c2 hy]
  have hp:((#[x,y]:Array Operand).map (ev tt)).toList.all plain=true:=by rw [he];rfl
  have hd:DJ E.P (Builtin.min_ aT ty #[.int .i64 a,.int .i64 b])=some (.int .i64 (min a b)):=by
   simp only [Builtin.min_,List.foldlM_cons,List.foldlM_nil,Builtin.min2,Ar,BR,Option.bind_some]
   congr 2
   split<;>omega
  simp only [Ce,EX,hp,if_true]
  rw [he,KJ hd rfl]
  rfl
end
section
open Go.Am
section
variable {P:Program} {G:List Nat}
theorem DL.below {ι:BN} {m:Mem} {w w':World} (hs:DL P G ι m w) (hb:Go.RowKit.Below w.heap.size w w'):DL P G ι m w':=by
 refine ⟨fun b ib h=>?_,fun b ib h=>?_,hs.inj,hs.glob⟩
 ·have:=hs.dom b ib h
  have:=hb.size
  omega
 ·rw [hb.block _ (hs.dom b ib h).2];exact hs.blk b ib h
theorem Post.below {ι:BN} {m:Mem} {w w':World} {v:Value} (hs:DL P G ι m w) (hb:Go.RowKit.Below w.heap.size w w') (hp:plain v=true):Post P G ι m w v m v w':=by
 refine ⟨ι,⟨Nat.le_refl _,Nat.le_refl _,fun _ _ _=>rfl,fun _ _ _=>rfl,fun _ _=>rfl,Le.refl _ _,fun b ib h=>.inl ⟨ib,h,rfl⟩,fun b ib h=>.inl ⟨ib,h⟩,hb.size,fun c hc _=>hb.block c hc,hb.tape,hb.os,hb.output⟩,DL.below hs hb,AA.plain hp⟩
abbrev XB:=List Value→Mem→Option Value
open Classical in
noncomputable def bG (G:List Nat) (M0:Mem) (ls:List (FuncId×XB)):CJ:=fun f =>
 match ls.lookup f with
 |some F=>some fun BF m=>if ∀ k∈G,m.get k=M0.get k then (F BF m).map fun v=>(v,m) else none
 |none=>none
structure Si (P:Program) (G:List Nat) (M0:Mem) (f:FuncId) (F:XB):Prop where
 b1d:∀ n lb m,F (Ed n lb) m=none
 enters:Enters P f
 calls:∀ ι m w (BF:List Value) (as':Array Value) v,DL P G ι m w→(∀ k∈G,m.get k=M0.get k)→BI ι m.gen BF as'.toList→F BF m=some v→plain v=true∧Calls P f as' w fun e w'=>e=.returned v∧Go.RowKit.Below w.heap.size w w'
theorem YT {α:Type} {f:FuncId} {a:α}:∀ {ls:List (FuncId×α)},ls.lookup f=some a→(f,a)∈ls
 |[],h=>by simp at h
 |(g,b)::ls,h=>by
  rw [List.lookup_cons] at h
  cases hg:f==g with
  |true =>
   rw [hg] at h
   cases h
   rw [eq_of_beq hg];simp
  |false=>rw [hg] at h;exact List.mem_cons_of_mem _ (YT h)
theorem oU {M0:Mem} {ls:List (FuncId×XB)} (h:∀ x∈ls,Si P G M0 x.1 x.2):FT P G (bG G M0 ls):=by
 intro f Fo hf
 unfold bG at hf
 split at hf
 ·rename_i F hl
  cases hf
  have hs:=h _ (YT hl)
  refine ⟨fun BF m v m' hv ι w as' Dp hrel=>?_,fun BF m v m' hv=>?_,hs.enters,Vy.none fun n lb m=>by
   have h0:F (Ed n lb) m=none:=hs.b1d n lb m
   simp only [h0];split<;>rfl⟩
  ·simp only at hv
   split at hv
   ·rename_i hg
    rw [Option.map_eq_some_iff] at hv
    obtain ⟨u,h1,h2⟩:=hv
    cases h2
    obtain ⟨h3,h4⟩:=hs.calls ι m w BF as' v Dp hg hrel h1
    exact h4.mono fun e w' ⟨he,hb⟩=>⟨v,he,Post.below Dp hb h3⟩
   ·cases hv
  ·simp only at hv
   split at hv
   ·rw [Option.map_eq_some_iff] at hv
    obtain ⟨u,h1,h2⟩:=hv
    cases h2
    exact AV.refl _
   ·cases hv
 ·cases hf
end
section
variable {P:Program}
noncomputable def b4a (P:Program) (F:Nat) (laid:List (String×DataW Unit)) (ls:List (FuncId×XB)):Env :=
 ⟨P,bG (AX P F laid) (BD P F laid) ls,AX P F laid,gam P F laid⟩
theorem wV {G:List Nat} {M0:Mem} {ls:List (FuncId×XB)} {f:FuncId} (h:ls.lookup f=none):bG G M0 ls f=none:=by
 unfold bG;rw [h]
variable {H:Type} {enc:TypeId×Value→H} {W:World} {held:Bool}
end
theorem UF {P:Program} {G:List Nat} {ι:BN} {m:Mem} {w:World} {n:Nat} {s s':Value} {l:List Value} (hs:DL P G ι m w) (hv:AA ι m.gen s s') (hn:lenOf s=some n) (hns:∀ b,s≠.string b) (h:CO m 1 n s=some l) :
 ∃ a cap,s'=.slice a n cap∧l.length=n∧(a=none∧n=0∨∃ A,a=some A∧A.spot=none∨n=0)∧∀ A,a=some A→∀ j v,l[j]?=some v→plain v=true→w.cell? (A.add j)=some v:=by
 have hlen:=ES h
 cases hv with
 |Hy=>cases hn;exact ⟨none,0,rfl,by omega,.inl ⟨rfl,rfl⟩,fun A hA=>by cases hA⟩
 |mM b o s a' =>
  cases hn
  refine ⟨some a',0,rfl,by omega,.inr ⟨a',.inr rfl⟩,fun A hA j v hj=>?_⟩
  have:l=[]:=List.eq_nil_of_length_eq_zero (by omega)
  rw [this] at hj;simp at hj
 |sl b off len gen a' cap hr =>
  cases hn
  refine ⟨some a',cap,rfl,by omega,?_,fun A hA j v hj hp=>?_⟩
  ·rcases Nat.eq_zero_or_pos n with h0|h0
   ·exact .inr ⟨a',.inr h0⟩
   ·refine .inr ⟨a',.inl ⟨rfl,?_⟩⟩
    have hl':m.EK ⟨b,off,some gen⟩ n=some l:=by unfold CO at h;simpa using h
    obtain ⟨vs,e,g,ro,hg,hag,hgen,_,_⟩:=Iu hl'
    obtain ⟨ib,_,_,_,hcur⟩:=hr
    have hag':gen=g:=hag
    exact (hcur (by rw [hag'];exact hgen.symm)).2.1
  ·cases hA
   have hj2:=(List.getElem?_eq_some_iff.1 hj).1
   have hpos:0<n:=by omega
   have ha:=IQ hr (fun _=>hpos) 0
   rw [Addr.add_zero'] at ha
   have hl':m.EK ⟨b,off,some gen⟩ n=some l:=by unfold CO at h;simpa using h
   obtain ⟨l',h1,h2,h3⟩:=Jg hs (by simpa using ha) hl'
   obtain ⟨v',h4,h5⟩:=h1.get hj
   have e2:v'=v:=h5.Cc hp
   rw [e2] at h4
   exact h3 j _ h4
 |str b=>exact absurd rfl (hns b)
 |_=>cases hn
end
section
open Go.Am
variable {E:Env} {L:Frame} {H:Heap} {nx:Nat} {Q:PV→Heap→Nat→Prop} {w:Bool}
variable {dst:Option Tmp} {ty:TypeId} {pos:String} {af:Array Edge} {gd:Option (Nat×Bool)}
theorem Aa.b0u {t t2:TypeId} {x y:Operand} {a b:Nat} (hx:Bh E.Γ L x=some (.p (.int .u64 (a:Int)))) (hy:Bh E.Γ L y=some (.p (.int .u64 (b:Int)))) (h:a+b<18446744073709551616) (q:Q (.p (.int .u64 ((a+b:Nat):Int))) H nx) :
 Aa E w ⟨dst,.binOp .add t x y t2,ty,pos,af,gd⟩ L H nx Q:=Aa.b6f hx hy (by omega) (by rw [← Int.natCast_add];exact q)
theorem Aa.b2x {t t2:TypeId} {x y:Operand} {a c:Nat} (hx:Bh E.Γ L x=some (.p (.int .u64 (a:Int)))) (hy:Bh E.Γ L y=some (.p (.int .u64 (c:Int)))) (h:0<c) (q:Q (.p (.int .u64 ((a % c:Nat):Int))) H nx) :
 Aa E w ⟨dst,.binOp .rem t x y t2,ty,pos,af,gd⟩ L H nx Q:=Aa.b5n hx hy h q
theorem Aa.b7v {t t2:TypeId} {x y:Operand} {m n:Nat} (hx:Bh E.Γ L x=some (.p (.int .i64 (m:Int)))) (hy:Bh E.Γ L y=some (.p (.int .i64 (n:Int)))) (h:m<9223372036854775808∧n<9223372036854775808) (q:Q (.p (.int .i64 ((m &&& n:Nat):Int))) H nx) :
 Aa E w ⟨dst,.binOp .and t x y t2,ty,pos,af,gd⟩ L H nx Q:=Aa.int hx hy (jR (.inl ⟨rfl,h.1⟩) (by omega)) q
theorem Aa.b3b {t t2:TypeId} {x y:Operand} {a c:Nat} (hx:Bh E.Γ L x=some (.p (.int .u8 (a:Int)))) (hy:Bh E.Γ L y=some (.p (.int .u8 (c:Int)))) (h:c≤a∧a<256) (q:Q (.p (.int .u8 ((a-c:Nat):Int))) H nx) :
 Aa E w ⟨dst,.binOp .sub t x y t2,ty,pos,af,gd⟩ L H nx Q:=Aa.b5g hx hy (by omega) (by rw [← Int.ofNat_sub h.1];exact q)
end
end Go.Vm
namespace Go.Proofs
open Go.Shelf
def Tryz.lays170_ren:Go.Shelf.Ren:=⟨fun|170=>189|n=>n,fun|70=>282|3=>3|0=>0|72=>284|37=>55|5=>5|n=>n,fun|n=>n⟩
def Tryz.lays169_ren:Go.Shelf.Ren:=⟨fun|169=>166|n=>n,fun|70=>282|9=>9|0=>0|72=>284|37=>55|127=>317|3=>3|5=>5|n=>n,fun|n=>n⟩
theorem Tryz.lays169:Go.Proofs.Lays.n169 Tryz.prog Tryz.lays169_ren:={
 mixed:=by kernel_rfl
 f169:=Tryz.func166.trans (congrArg some (by kernel_rfl))
 t0:=Tryz.underlying0
 a0:=Tryz.isAgg0
 z0:=Tryz.sizeOf0
 v0:=Tryz.zeroValue0
 t3:=Tryz.underlying3
 a3:=Tryz.isAgg3
 z3:=Tryz.sizeOf3
 v3:=Tryz.zeroValue3
 t9:=Tryz.underlying9
 a9:=Tryz.isAgg9
 z9:=Tryz.sizeOf9
 v9:=Tryz.zeroValue9
 t37:=Tryz.underlying55
 a37:=Tryz.isAgg55
 z37:=Tryz.sizeOf55
 v37:=Tryz.zeroValue55
 t70:=Tryz.underlying282
 a70:=Tryz.isAgg282
 z70:=Tryz.sizeOf282
 v70:=Tryz.zeroValue282
 t72:=Tryz.underlying284
 a72:=Tryz.isAgg284
 z72:=Tryz.sizeOf284
 v72:=Tryz.zeroValue284
 t127:=Tryz.underlying317
 a127:=Tryz.isAgg317
 z127:=Tryz.sizeOf317
 v127:=Tryz.zeroValue317 }
theorem Tryz.Builder_Extra_169:Builder.Extra Tryz.prog Tryz.lays169_ren:={
 sizeBuilder:=by kernel_rfl
 liesBuilder:=by kernel_rfl
 t5:=Tryz.underlying5
 a5:=Tryz.isAgg5
 z5:=Tryz.sizeOf5
 v5:=Tryz.zeroValue5
 infoByte:=by kernel_rfl
 cellsByte:=by kernel_rfl
 sizeByte:=by kernel_rfl
 neB5:=by decide }
def Tryz.lays241_ren:Go.Shelf.Ren:=⟨fun|241=>203|277=>207|n=>n,fun|70=>282|3=>3|0=>0|72=>284|37=>55|5=>5|n=>n,fun|n=>n⟩
def Tryz.lays165_ren:Go.Shelf.Ren:=⟨fun|165=>188|240=>186|241=>203|276=>200|277=>207|n=>n,fun|70=>282|3=>3|0=>0|4=>4|9=>9|20=>20|72=>284|37=>55|164=>328|5=>5|n=>n,fun|n=>n⟩
def Tryz.lays213_ren:Go.Shelf.Ren:=⟨fun|213=>105|265=>145|n=>n,fun|9=>9|3=>3|n=>n,fun|n=>n⟩
def Tryz.lays106_ren:Go.Shelf.Ren:=⟨fun|106=>55|213=>105|265=>145|n=>n,fun|9=>9|3=>3|n=>n,fun|n=>n⟩
theorem Tryz.lays106:Go.Proofs.Lays.n106 Tryz.prog Tryz.lays106_ren:={
 mixed:=by kernel_rfl
 f106:=Tryz.func55.trans (congrArg some (by kernel_rfl))
 f213:=Tryz.func105.trans (congrArg some (by kernel_rfl))
 f265:=Tryz.func145.trans (congrArg some (by kernel_rfl))
 t3:=Tryz.underlying3
 a3:=Tryz.isAgg3
 z3:=Tryz.sizeOf3
 v3:=Tryz.zeroValue3
 t9:=Tryz.underlying9
 a9:=Tryz.isAgg9
 z9:=Tryz.sizeOf9
 v9:=Tryz.zeroValue9 }
open Go.RowKit in
theorem Tryz.strings_Compare (a b:ByteArray) (w:World) :
 Calls Tryz.prog 55 #[.string a,.string b] w fun e w'=>e=.returned (.int .i64 (Lib.compareBytes a.data.toList b.data.toList))∧w'=w:=Any.strings_Compare Tryz.lays106 a b w
open Go.RowKit in
theorem Tryz.Builder_String_any_k (B b:Nat) (l:List UInt8) (w:World) (h:Lib.IsBuilderF 284 5 B b (Lib.byteCells l) w) (hBw:B≤w.heap.size) :
 Calls Tryz.prog 166 #[.pointer (some ⟨b,0,none⟩)] w fun e w'=>e=.returned (.string ⟨l.toArray⟩)∧(Lib.IsBuilderF 284 5 B b (Lib.byteCells l) w'∧Below B w w'∧Lib.OthersKept 5 (some b) w w'):=Any.Builder_String_any_k Tryz.lays169 Tryz.Builder_Extra_169 B b l w h hBw
def Tryz.lays129_ren:Go.Shelf.Ren:=⟨fun|129=>142|n=>n,fun|53=>82|3=>3|4=>4|46=>214|5=>5|9=>9|n=>n,fun|n=>n⟩
def Tryz.lays317_ren:Go.Shelf.Ren:=⟨fun|317=>191|n=>n,fun|3=>3|46=>214|n=>n,fun|n=>n⟩
def Tryz.lays318_ren:Go.Shelf.Ren:=⟨fun|318=>192|n=>n,fun|3=>3|4=>4|n=>n,fun|n=>n⟩
def Tryz.lays283_ren:Go.Shelf.Ren:=⟨fun|283=>172|n=>n,fun|3=>3|9=>9|4=>4|n=>n,fun|n=>n⟩
theorem Tryz.lays283:Go.Proofs.Lays.n283 Tryz.prog Tryz.lays283_ren:={
 mixed:=by kernel_rfl
 f283:=Tryz.func172.trans (congrArg some (by kernel_rfl))
 t3:=Tryz.underlying3
 a3:=Tryz.isAgg3
 z3:=Tryz.sizeOf3
 v3:=Tryz.zeroValue3
 t4:=Tryz.underlying4
 a4:=Tryz.isAgg4
 z4:=Tryz.sizeOf4
 v4:=Tryz.zeroValue4
 t9:=Tryz.underlying9
 a9:=Tryz.isAgg9
 z9:=Tryz.sizeOf9
 v9:=Tryz.zeroValue9 }
open Go.Lib in
theorem Tryz.internal_strconv_small (i:Nat) (h:i<100) (w:World) :
 Calls Tryz.prog 172 #[.int .i64 i] w fun e w'=>e=.returned (.string ⟨(Lib.decDigits i).toArray⟩)∧w'=w:=Any.internal_strconv_small Tryz.lays283 i h w
def Tryz.laysM284_ren:Go.Shelf.Ren:=⟨fun|284=>173|129=>142|317=>191|318=>192|n=>n,fun|53=>82|3=>3|212=>322|0=>0|4=>4|46=>214|5=>5|9=>9|n=>n,fun|17=>2|n=>n⟩
theorem Tryz.laysM284:Go.Proofs.LaysM.n284 Tryz.prog Tryz.laysM284_ren:={
 mixed:=by kernel_rfl
 f129:=Tryz.func142.trans (congrArg some (by kernel_rfl))
 f284:=Tryz.func173.trans (congrArg some (by kernel_rfl))
 f317:=Tryz.func191.trans (congrArg some (by kernel_rfl))
 f318:=Tryz.func192.trans (congrArg some (by kernel_rfl))
 t0:=Tryz.underlying0
 a0:=Tryz.isAgg0
 z0:=Tryz.sizeOf0
 v0:=Tryz.zeroValue0
 t3:=Tryz.underlying3
 a3:=Tryz.isAgg3
 z3:=Tryz.sizeOf3
 v3:=Tryz.zeroValue3
 t4:=Tryz.underlying4
 a4:=Tryz.isAgg4
 z4:=Tryz.sizeOf4
 v4:=Tryz.zeroValue4
 t5:=Tryz.underlying5
 a5:=Tryz.isAgg5
 z5:=Tryz.sizeOf5
 v5:=Tryz.zeroValue5
 t9:=Tryz.underlying9
 a9:=Tryz.isAgg9
 z9:=Tryz.sizeOf9
 v9:=Tryz.zeroValue9
 t46:=Tryz.underlying214
 a46:=Tryz.isAgg214
 z46:=Tryz.sizeOf214
 v46:=Tryz.zeroValue214
 t53:=Tryz.underlying82
 a53:=Tryz.isAgg82
 z53:=Tryz.sizeOf82
 v53:=Tryz.zeroValue82
 t212:=Tryz.underlying322
 a212:=Tryz.isAgg322
 z212:=Tryz.sizeOf322
 v212:=Tryz.zeroValue322
 g17:=by kernel_rfl
 i0:=by kernel_rfl
 i3:=by kernel_rfl
 i4:=by kernel_rfl
 i5:=by kernel_rfl
 i9:=by kernel_rfl
 i46:=by kernel_rfl
 i53:=by kernel_rfl
 i212:=by kernel_rfl
 m17:=by kernel_rfl }
open Go.Lib in
theorem Tryz.internal_strconv_numDigits (u:Nat) (h1:1≤u) (h2:u<18446744073709551616) (w:World) (htab:Lib.TabIs Tryz.prog w "internal/strconv.uint64pow10" .u64 Lib.pow10Tab) :
 Calls Tryz.prog 173 #[.int .u64 u] w fun e w'=>e=.returned (.int .i64 (Lib.nDigits u))∧w'=w:=Any.internal_strconv_numDigits Tryz.laysM284 u h1 h2 w htab
def Tryz.lays285_ren:Go.Shelf.Ren:=⟨fun|285=>174|n=>n,fun|37=>55|53=>82|3=>3|4=>4|51=>261|9=>9|5=>5|0=>0|n=>n,fun|n=>n⟩
theorem Tryz.lays285:Go.Proofs.Lays.n285 Tryz.prog Tryz.lays285_ren:={
 mixed:=by kernel_rfl
 f285:=Tryz.func174.trans (congrArg some (by kernel_rfl))
 t0:=Tryz.underlying0
 a0:=Tryz.isAgg0
 z0:=Tryz.sizeOf0
 v0:=Tryz.zeroValue0
 t3:=Tryz.underlying3
 a3:=Tryz.isAgg3
 z3:=Tryz.sizeOf3
 v3:=Tryz.zeroValue3
 t4:=Tryz.underlying4
 a4:=Tryz.isAgg4
 z4:=Tryz.sizeOf4
 v4:=Tryz.zeroValue4
 t5:=Tryz.underlying5
 a5:=Tryz.isAgg5
 z5:=Tryz.sizeOf5
 v5:=Tryz.zeroValue5
 t9:=Tryz.underlying9
 a9:=Tryz.isAgg9
 z9:=Tryz.sizeOf9
 v9:=Tryz.zeroValue9
 t37:=Tryz.underlying55
 a37:=Tryz.isAgg55
 z37:=Tryz.sizeOf55
 v37:=Tryz.zeroValue55
 t51:=Tryz.underlying261
 a51:=Tryz.isAgg261
 z51:=Tryz.sizeOf261
 v51:=Tryz.zeroValue261
 t53:=Tryz.underlying82
 a53:=Tryz.isAgg82
 z53:=Tryz.sizeOf82
 v53:=Tryz.zeroValue82 }
open Go.RowKit Go.Sort Go.Lib in
theorem Tryz.internal_strconv_formatBase10 (blk off cap:Nat) (u:Nat) (d:Array UInt8) (w:World) (hH:Holds (fun (b:UInt8)=>Value.int .u8 (b.toNat:Int)) w blk off d) (hu:u<10 ^ d.size) (hu64:u<18446744073709551616) (hsz:d.size<4611686018427387904) :
 Calls Tryz.prog 174 #[.slice (some ⟨blk,off,none⟩) d.size cap,.int .u64 u] w fun e w' =>
  e=.returned (.tuple #[])∧∃ (n v':Nat) (dk:Array UInt8),w'=(putRow (fun (b:UInt8)=>Value.int .u8 (b.toNat:Int)) w blk off dk).drewN n∧FmtInv d.size u 0 v' dk:=Any.internal_strconv_formatBase10 Tryz.lays285 blk off cap u d w hH hu hu64 hsz
def Tryz.laysM246_ren:Go.Shelf.Ren:=⟨fun|246=>143|283=>172|284=>173|285=>174|286=>175|129=>142|317=>191|318=>192|319=>193|320=>194|337=>204|338=>148|n=>n,fun|2=>2|3=>3|9=>9|4=>4|171=>300|0=>0|53=>82|37=>55|5=>5|173=>302|212=>322|51=>261|20=>20|213=>323|46=>214|232=>336|233=>304|n=>n,fun|17=>2|18=>3|19=>1|n=>n⟩
def Tryz.lays246_ren:Go.Shelf.Ren:=⟨fun|246=>143|283=>172|284=>173|285=>174|286=>175|129=>142|317=>191|318=>192|319=>193|320=>194|337=>204|338=>148|n=>n,fun|2=>2|3=>3|9=>9|4=>4|171=>300|0=>0|53=>82|37=>55|5=>5|173=>302|212=>322|51=>261|20=>20|213=>323|46=>214|232=>336|233=>304|n=>n,fun|17=>2|18=>3|19=>1|n=>n⟩
def Tryz.laysM243_ren:Go.Shelf.Ren:=⟨fun|243=>102|246=>143|283=>172|284=>173|285=>174|286=>175|129=>142|317=>191|318=>192|319=>193|320=>194|337=>204|338=>148|n=>n,fun|3=>3|9=>9|2=>2|4=>4|171=>300|0=>0|53=>82|37=>55|5=>5|173=>302|212=>322|51=>261|20=>20|213=>323|46=>214|232=>336|233=>304|n=>n,fun|17=>2|18=>3|19=>1|n=>n⟩
def Tryz.lays243_ren:Go.Shelf.Ren:=⟨fun|243=>102|246=>143|283=>172|284=>173|285=>174|286=>175|129=>142|317=>191|318=>192|319=>193|320=>194|337=>204|338=>148|n=>n,fun|3=>3|9=>9|2=>2|4=>4|171=>300|0=>0|53=>82|37=>55|5=>5|173=>302|212=>322|51=>261|20=>20|213=>323|46=>214|232=>336|233=>304|n=>n,fun|17=>2|18=>3|19=>1|n=>n⟩
def Tryz.laysM171_ren:Go.Shelf.Ren:=⟨fun|171=>52|243=>102|246=>143|283=>172|284=>173|285=>174|286=>175|129=>142|317=>191|318=>192|319=>193|320=>194|337=>204|338=>148|n=>n,fun|3=>3|9=>9|2=>2|4=>4|171=>300|0=>0|53=>82|37=>55|5=>5|173=>302|212=>322|51=>261|20=>20|213=>323|46=>214|232=>336|233=>304|n=>n,fun|17=>2|18=>3|19=>1|n=>n⟩
theorem Tryz.laysM171:Go.Proofs.LaysM.n171 Tryz.prog Tryz.laysM171_ren:={
 mixed:=by kernel_rfl
 f129:=Tryz.func142.trans (congrArg some (by kernel_rfl))
 f171:=Tryz.func52.trans (congrArg some (by kernel_rfl))
 f243:=Tryz.func102.trans (congrArg some (by kernel_rfl))
 f246:=Tryz.func143.trans (congrArg some (by kernel_rfl))
 f283:=Tryz.func172.trans (congrArg some (by kernel_rfl))
 f284:=Tryz.func173.trans (congrArg some (by kernel_rfl))
 f285:=Tryz.func174.trans (congrArg some (by kernel_rfl))
 f286:=Tryz.func175.trans (congrArg some (by kernel_rfl))
 f317:=Tryz.func191.trans (congrArg some (by kernel_rfl))
 f318:=Tryz.func192.trans (congrArg some (by kernel_rfl))
 f319:=Tryz.func193.trans (congrArg some (by kernel_rfl))
 f320:=Tryz.func194.trans (congrArg some (by kernel_rfl))
 f337:=Tryz.func204.trans (congrArg some (by kernel_rfl))
 f338:=Tryz.func148.trans (congrArg some (by kernel_rfl))
 t0:=Tryz.underlying0
 a0:=Tryz.isAgg0
 z0:=Tryz.sizeOf0
 v0:=Tryz.zeroValue0
 t2:=Tryz.underlying2
 a2:=Tryz.isAgg2
 z2:=Tryz.sizeOf2
 v2:=Tryz.zeroValue2
 t3:=Tryz.underlying3
 a3:=Tryz.isAgg3
 z3:=Tryz.sizeOf3
 v3:=Tryz.zeroValue3
 t4:=Tryz.underlying4
 a4:=Tryz.isAgg4
 z4:=Tryz.sizeOf4
 v4:=Tryz.zeroValue4
 t5:=Tryz.underlying5
 a5:=Tryz.isAgg5
 z5:=Tryz.sizeOf5
 v5:=Tryz.zeroValue5
 t9:=Tryz.underlying9
 a9:=Tryz.isAgg9
 z9:=Tryz.sizeOf9
 v9:=Tryz.zeroValue9
 t20:=Tryz.underlying20
 a20:=Tryz.isAgg20
 z20:=Tryz.sizeOf20
 v20:=Tryz.zeroValue20
 t37:=Tryz.underlying55
 a37:=Tryz.isAgg55
 z37:=Tryz.sizeOf55
 v37:=Tryz.zeroValue55
 t46:=Tryz.underlying214
 a46:=Tryz.isAgg214
 z46:=Tryz.sizeOf214
 v46:=Tryz.zeroValue214
 t51:=Tryz.underlying261
 a51:=Tryz.isAgg261
 z51:=Tryz.sizeOf261
 v51:=Tryz.zeroValue261
 t53:=Tryz.underlying82
 a53:=Tryz.isAgg82
 z53:=Tryz.sizeOf82
 v53:=Tryz.zeroValue82
 t171:=Tryz.underlying300
 a171:=Tryz.isAgg300
 z171:=Tryz.sizeOf300
 v171:=Tryz.zeroValue300
 t173:=Tryz.underlying302
 a173:=Tryz.isAgg302
 z173:=Tryz.sizeOf302
 v173:=Tryz.zeroValue302
 t212:=Tryz.underlying322
 a212:=Tryz.isAgg322
 z212:=Tryz.sizeOf322
 v212:=Tryz.zeroValue322
 t213:=Tryz.underlying323
 a213:=Tryz.isAgg323
 z213:=Tryz.sizeOf323
 t232:=Tryz.underlying336
 a232:=Tryz.isAgg336
 z232:=Tryz.sizeOf336
 v232:=Tryz.zeroValue336
 t233:=Tryz.underlying304
 a233:=Tryz.isAgg304
 z233:=Tryz.sizeOf304
 v233:=Tryz.zeroValue304
 g17:=by kernel_rfl
 g18:=by kernel_rfl
 g19:=by kernel_rfl
 i0:=by kernel_rfl
 i2:=by kernel_rfl
 i3:=by kernel_rfl
 i4:=by kernel_rfl
 i5:=by kernel_rfl
 i9:=by kernel_rfl
 i20:=by kernel_rfl
 i37:=by kernel_rfl
 i46:=by kernel_rfl
 i51:=by kernel_rfl
 i53:=by kernel_rfl
 i171:=by kernel_rfl
 i173:=by kernel_rfl
 i212:=by kernel_rfl
 i232:=by kernel_rfl
 i233:=by kernel_rfl
 m17:=by kernel_rfl
 m18:=by kernel_rfl
 m19:=by kernel_rfl }
open Go.RowKit Go.Sort Go.Lib in
theorem Tryz.strconv_Itoa (n:Int) (h0:-9223372036854775808≤n) (h1:n≤9223372036854775807) (w:World) (htab:Lib.TabIs Tryz.prog w "internal/strconv.uint64pow10" .u64 Lib.pow10Tab) :
 Calls Tryz.prog 52 #[.int .i64 n] w fun e w'=>e=.returned (.string ⟨(Lib.itoa n).toArray⟩)∧∃ k os,w'=grow (w.drewN k) os:=Any.strconv_Itoa Tryz.laysM171 n h0 h1 w htab
def Tryz.lays171_ren:Go.Shelf.Ren:=⟨fun|171=>52|243=>102|246=>143|283=>172|284=>173|285=>174|286=>175|129=>142|317=>191|318=>192|319=>193|320=>194|337=>204|338=>148|n=>n,fun|3=>3|9=>9|2=>2|4=>4|171=>300|0=>0|53=>82|37=>55|5=>5|173=>302|212=>322|51=>261|20=>20|213=>323|46=>214|232=>336|233=>304|n=>n,fun|17=>2|18=>3|19=>1|n=>n⟩
def Tryz.lays189_ren:Go.Shelf.Ren:=⟨fun|189=>48|125=>100|257=>99|128=>141|129=>142|294=>132|295=>133|296=>134|297=>135|298=>136|299=>137|216=>138|300=>139|301=>140|328=>167|329=>168|330=>169|331=>170|332=>171|215=>126|343=>190|n=>n,fun|28=>28|3=>3|46=>214|0=>0|51=>261|53=>82|4=>4|183=>254|182=>253|131=>200|5=>5|9=>9|218=>294|222=>298|228=>318|229=>143|n=>n,fun|n=>n⟩
theorem Tryz.lays189:Go.Proofs.Lays.n189 Tryz.prog Tryz.lays189_ren:={
 mixed:=by kernel_rfl
 f125:=Tryz.func100.trans (congrArg some (by kernel_rfl))
 f128:=Tryz.func141.trans (congrArg some (by kernel_rfl))
 f129:=Tryz.func142.trans (congrArg some (by kernel_rfl))
 f189:=Tryz.func48.trans (congrArg some (by kernel_rfl))
 f215:=Tryz.func126.trans (congrArg some (by kernel_rfl))
 f216:=Tryz.func138.trans (congrArg some (by kernel_rfl))
 f257:=Tryz.func99.trans (congrArg some (by kernel_rfl))
 f294:=Tryz.func132.trans (congrArg some (by kernel_rfl))
 f295:=Tryz.func133.trans (congrArg some (by kernel_rfl))
 f296:=Tryz.func134.trans (congrArg some (by kernel_rfl))
 f297:=Tryz.func135.trans (congrArg some (by kernel_rfl))
 f298:=Tryz.func136.trans (congrArg some (by kernel_rfl))
 f299:=Tryz.func137.trans (congrArg some (by kernel_rfl))
 f300:=Tryz.func139.trans (congrArg some (by kernel_rfl))
 f301:=Tryz.func140.trans (congrArg some (by kernel_rfl))
 f328:=Tryz.func167.trans (congrArg some (by kernel_rfl))
 f329:=Tryz.func168.trans (congrArg some (by kernel_rfl))
 f330:=Tryz.func169.trans (congrArg some (by kernel_rfl))
 f331:=Tryz.func170.trans (congrArg some (by kernel_rfl))
 f332:=Tryz.func171.trans (congrArg some (by kernel_rfl))
 f343:=Tryz.func190.trans (congrArg some (by kernel_rfl))
 t0:=Tryz.underlying0
 a0:=Tryz.isAgg0
 z0:=Tryz.sizeOf0
 v0:=Tryz.zeroValue0
 t3:=Tryz.underlying3
 a3:=Tryz.isAgg3
 z3:=Tryz.sizeOf3
 v3:=Tryz.zeroValue3
 t4:=Tryz.underlying4
 a4:=Tryz.isAgg4
 z4:=Tryz.sizeOf4
 v4:=Tryz.zeroValue4
 t5:=Tryz.underlying5
 a5:=Tryz.isAgg5
 z5:=Tryz.sizeOf5
 v5:=Tryz.zeroValue5
 t9:=Tryz.underlying9
 a9:=Tryz.isAgg9
 z9:=Tryz.sizeOf9
 v9:=Tryz.zeroValue9
 t28:=Tryz.underlying28
 a28:=Tryz.isAgg28
 z28:=Tryz.sizeOf28
 v28:=Tryz.zeroValue28
 t46:=Tryz.underlying214
 a46:=Tryz.isAgg214
 z46:=Tryz.sizeOf214
 v46:=Tryz.zeroValue214
 t51:=Tryz.underlying261
 a51:=Tryz.isAgg261
 z51:=Tryz.sizeOf261
 v51:=Tryz.zeroValue261
 t53:=Tryz.underlying82
 a53:=Tryz.isAgg82
 z53:=Tryz.sizeOf82
 v53:=Tryz.zeroValue82
 t131:=Tryz.underlying200
 a131:=Tryz.isAgg200
 z131:=Tryz.sizeOf200
 v131:=Tryz.zeroValue200
 t182:=Tryz.underlying253
 a182:=Tryz.isAgg253
 z182:=Tryz.sizeOf253
 v182:=Tryz.zeroValue253
 t183:=Tryz.underlying254
 a183:=Tryz.isAgg254
 z183:=Tryz.sizeOf254
 v183:=Tryz.zeroValue254
 t218:=Tryz.underlying294
 a218:=Tryz.isAgg294
 z218:=Tryz.sizeOf294
 v218:=Tryz.zeroValue294
 t222:=Tryz.underlying298
 a222:=Tryz.isAgg298
 z222:=Tryz.sizeOf298
 v222:=Tryz.zeroValue298
 t228:=Tryz.underlying318
 a228:=Tryz.isAgg318
 z228:=Tryz.sizeOf318
 v228:=Tryz.zeroValue318
 t229:=Tryz.underlying143
 a229:=Tryz.isAgg143
 z229:=Tryz.sizeOf143
 v229:=Tryz.zeroValue143 }
open Go.Sort Go.RowKit in
theorem Tryz.slices_Sort_int (blk off cap:Nat) (zs:List Int) (w:World) (hH:Holds (Value.int .i64) w blk off zs.toArray) (hblk:blk<w.heap.size) (hsz:zs.length<4611686018427387904) :
 Calls Tryz.prog 48 #[.slice (some ⟨blk,off,none⟩) zs.length cap] w fun e w' =>
  e=.returned (.tuple #[])∧∃ n os,w'=grow (putRow (Value.int .i64) (Sort.ahead w n) blk off (zs.mergeSort fun x y=>decide (x≤y)).toArray) os:=Any.slices_Sort_int Tryz.lays189 blk off cap zs w hH hblk hsz
def Tryz.lays206_ren:Go.Shelf.Ren:=⟨fun|206=>144|n=>n,fun|9=>9|4=>4|3=>3|n=>n,fun|n=>n⟩
def Tryz.lays99_ren:Go.Shelf.Ren:=⟨fun|99=>103|206=>144|n=>n,fun|9=>9|4=>4|3=>3|n=>n,fun|n=>n⟩
def Tryz.lays264_ren:Go.Shelf.Ren:=⟨fun|264=>202|n=>n,fun|53=>82|46=>214|n=>n,fun|n=>n⟩
def Tryz.lays212_ren:Go.Shelf.Ren:=⟨fun|212=>187|263=>201|264=>202|n=>n,fun|46=>214|51=>261|146=>330|53=>82|148=>332|n=>n,fun|n=>n⟩
def Tryz.lays105_ren:Go.Shelf.Ren:=⟨fun|105=>165|212=>187|99=>103|165=>188|166=>164|170=>189|169=>166|263=>201|264=>202|206=>144|240=>186|241=>203|276=>200|277=>207|n=>n,fun|9=>9|3=>3|4=>4|20=>20|0=>0|46=>214|109=>313|5=>5|72=>284|76=>291|51=>261|146=>330|53=>82|148=>332|70=>282|37=>55|75=>290|127=>317|164=>328|80=>250|n=>n,fun|n=>n⟩
theorem Tryz.lays105:Go.Proofs.Lays.n105 Tryz.prog Tryz.lays105_ren:={
 mixed:=by kernel_rfl
 f99:=Tryz.func103.trans (congrArg some (by kernel_rfl))
 f105:=Tryz.func165.trans (congrArg some (by kernel_rfl))
 f165:=Tryz.func188.trans (congrArg some (by kernel_rfl))
 f166:=Tryz.func164.trans (congrArg some (by kernel_rfl))
 f169:=Tryz.func166.trans (congrArg some (by kernel_rfl))
 f170:=Tryz.func189.trans (congrArg some (by kernel_rfl))
 f206:=Tryz.func144.trans (congrArg some (by kernel_rfl))
 f212:=Tryz.func187.trans (congrArg some (by kernel_rfl))
 f240:=Tryz.func186.trans (congrArg some (by kernel_rfl))
 f241:=Tryz.func203.trans (congrArg some (by kernel_rfl))
 f263:=Tryz.func201.trans (congrArg some (by kernel_rfl))
 f264:=Tryz.func202.trans (congrArg some (by kernel_rfl))
 f276:=Tryz.func200.trans (congrArg some (by kernel_rfl))
 f277:=Tryz.func207.trans (congrArg some (by kernel_rfl))
 t0:=Tryz.underlying0
 a0:=Tryz.isAgg0
 z0:=Tryz.sizeOf0
 v0:=Tryz.zeroValue0
 t3:=Tryz.underlying3
 a3:=Tryz.isAgg3
 z3:=Tryz.sizeOf3
 v3:=Tryz.zeroValue3
 t4:=Tryz.underlying4
 a4:=Tryz.isAgg4
 z4:=Tryz.sizeOf4
 v4:=Tryz.zeroValue4
 t5:=Tryz.underlying5
 a5:=Tryz.isAgg5
 z5:=Tryz.sizeOf5
 v5:=Tryz.zeroValue5
 t9:=Tryz.underlying9
 a9:=Tryz.isAgg9
 z9:=Tryz.sizeOf9
 v9:=Tryz.zeroValue9
 t20:=Tryz.underlying20
 a20:=Tryz.isAgg20
 z20:=Tryz.sizeOf20
 v20:=Tryz.zeroValue20
 t37:=Tryz.underlying55
 a37:=Tryz.isAgg55
 z37:=Tryz.sizeOf55
 v37:=Tryz.zeroValue55
 t46:=Tryz.underlying214
 a46:=Tryz.isAgg214
 z46:=Tryz.sizeOf214
 v46:=Tryz.zeroValue214
 t51:=Tryz.underlying261
 a51:=Tryz.isAgg261
 z51:=Tryz.sizeOf261
 v51:=Tryz.zeroValue261
 t53:=Tryz.underlying82
 a53:=Tryz.isAgg82
 z53:=Tryz.sizeOf82
 v53:=Tryz.zeroValue82
 t70:=Tryz.underlying282
 a70:=Tryz.isAgg282
 z70:=Tryz.sizeOf282
 v70:=Tryz.zeroValue282
 t72:=Tryz.underlying284
 a72:=Tryz.isAgg284
 z72:=Tryz.sizeOf284
 v72:=Tryz.zeroValue284
 t75:=Tryz.underlying290
 a75:=Tryz.isAgg290
 z75:=Tryz.sizeOf290
 v75:=Tryz.zeroValue290
 t76:=Tryz.underlying291
 a76:=Tryz.isAgg291
 z76:=Tryz.sizeOf291
 v76:=Tryz.zeroValue291
 t109:=Tryz.underlying313
 a109:=Tryz.isAgg313
 z109:=Tryz.sizeOf313
 v109:=Tryz.zeroValue313
 t127:=Tryz.underlying317
 a127:=Tryz.isAgg317
 z127:=Tryz.sizeOf317
 v127:=Tryz.zeroValue317
 t146:=Tryz.underlying330
 a146:=Tryz.isAgg330
 z146:=Tryz.sizeOf330
 v146:=Tryz.zeroValue330
 t148:=Tryz.underlying332
 a148:=Tryz.isAgg332
 z148:=Tryz.sizeOf332
 v148:=Tryz.zeroValue332
 t164:=Tryz.underlying328
 a164:=Tryz.isAgg328
 z164:=Tryz.sizeOf328
 v164:=Tryz.zeroValue328 }
theorem Tryz.Builder_Extra_105:Builder.Extra Tryz.prog Tryz.lays105_ren:={
 sizeBuilder:=by kernel_rfl
 liesBuilder:=by kernel_rfl
 t5:=Tryz.underlying5
 a5:=Tryz.isAgg5
 z5:=Tryz.sizeOf5
 v5:=Tryz.zeroValue5
 infoByte:=by kernel_rfl
 cellsByte:=by kernel_rfl
 sizeByte:=by kernel_rfl
 neB5:=by decide }
open Go.RowKit Go.Lib in
theorem Tryz.strings_Repeat (s:ByteArray) (c:Nat) (w:World) (hc:c≤9223372036854775807) (hlen:s.size*c≤140737488355328) :
 Calls Tryz.prog 165 #[.string s,.int .i64 c] w fun e w'=>e=.returned (.string ⟨(Lib.repeatL s.data.toList c).toArray⟩)∧Below w.heap.size w w':=Any.strings_Repeat Tryz.lays105 Tryz.Builder_Extra_105 s c w hc hlen
def Tryz.laysNm220_ren:Go.Shelf.Ren:=⟨fun|20=>49|n=>n,fun|22=>28|3=>3|4=>4|0=>0|n=>n,fun|n=>n⟩
theorem Tryz.laysNm220:Go.Proofs.Lays2.n20 Tryz.prog Tryz.laysNm220_ren:={
 mixed:=by kernel_rfl
 f20:=Tryz.func49.trans (congrArg some (by kernel_rfl))
 t0:=Tryz.underlying0
 a0:=Tryz.isAgg0
 z0:=Tryz.sizeOf0
 v0:=Tryz.zeroValue0
 t3:=Tryz.underlying3
 a3:=Tryz.isAgg3
 z3:=Tryz.sizeOf3
 v3:=Tryz.zeroValue3
 t4:=Tryz.underlying4
 a4:=Tryz.isAgg4
 z4:=Tryz.sizeOf4
 v4:=Tryz.zeroValue4
 t22:=Tryz.underlying28
 a22:=Tryz.isAgg28
 z22:=Tryz.sizeOf28
 v22:=Tryz.zeroValue28
 i3:=by kernel_rfl }
open Go.RowKit Go.Lib Go.Sort in
theorem Tryz.slices_Compact_int (blk off cap:Nat) (zs:List Int) (w:World) (hH:Holds (Value.int .i64) w blk off zs.toArray) (hsz:zs.length≤9223372036854775807) (hcap:zs.length≤cap) :
 Calls Tryz.prog 49 #[.slice (some ⟨blk,off,none⟩) zs.length cap] w fun e w'=>e=.returned (.slice (some ⟨blk,off,none⟩) (Lib.compact zs).length cap)∧∃ q,w'=putRow (Value.int .i64) (Sort.ahead w q) blk off (Lib.compact zs++List.replicate (zs.length-(Lib.compact zs).length) 0).toArray:=Any.slices_Compact_int Tryz.laysNm220 blk off cap zs w hH hsz hcap
open Go.RowKit Go.Sort in
theorem Tryz.slices_Sort_int_none (p:Option Addr) (cap:Nat) (w:World) :
 Calls Tryz.prog 48 #[.slice p 0 cap] w fun e w'=>e=.returned (.tuple #[])∧w'=w:=Any.slices_Sort_int_none Tryz.lays189 p cap w
end Go.Proofs
namespace Go.Num
section
open Go.Lib
abbrev B9:Nat:=1000000000
def val:List Nat→Nat
 |[]=>0
 |a::l=>a+B9*val l
def toL (n:Nat):List Nat:=if h:n=0 then [] else (n % B9)::toL (n / B9)
termination_by n
decreasing_by exact Nat.div_lt_self (by omega) (by decide)
def Lim (l:List Nat):Prop:=∀ a∈l,a<B9
def a5v:List Nat→List Nat
 |[]=>[]
 |a::t=>if a5v t=[]∧a=0 then [] else a::a5v t
theorem qX {l:List Nat} (h:Lim l) (i:Nat):l[i]?.getD 0<B9:=by
 cases hi:l[i]? with
 |none=>decide
 |some a=>exact h a (List.mem_of_getElem? hi)
def D (k u:Nat):List UInt8:=(List.range k).map fun t=>dg u (k-1-t)
theorem LX (k u:Nat):(D k u).length=k:=by simp [D]
theorem aJ (k u t:Nat) (h:t<k):(D k u)[t]?=some (dg u (k-1-t)):=by
 unfold D
 rw [List.getElem?_map,List.getElem?_range h]
 rfl
theorem OU (u:Nat):decDigits u=D (nDigits u) u:=decDigits_eq u
theorem KT:∀ (u:Nat),u≠0→10 ^ (nDigits u-1)≤u:=by
 intro u
 induction u using Nat.strongRecOn with
 |ind u ih =>
  intro h0
  by_cases h:u<10
  ·rw [nDigits_small h];simp;omega
  ·rw [nDigits_big h]
   have:=ih (u / 10) (by omega) (by omega)
   have h1:=nDigits_pos (u / 10)
   rw [show nDigits (u / 10)+1-1=(nDigits (u / 10)-1)+1 by omega,Nat.pow_succ]
   omega
theorem a4f {u j:Nat} (h:u<10 ^ j):dg u j=48:=by
 unfold dg
 rw [Nat.div_eq_of_lt h];rfl
theorem pad (k u:Nat) (h:nDigits u≤k):List.replicate (k-nDigits u) 48++decDigits u=D k u:=by
 rw [OU]
 apply List.ext_getElem?
 intro t
 by_cases h1:t<k-nDigits u
 ·rw [List.getElem?_append_left (by simpa using h1),aJ _ _ _ (by omega),List.getElem?_replicate,if_pos h1]
  rw [a4f (Nat.lt_of_lt_of_le (lt_pow_nDigits u) (Nat.pow_le_pow_right (by decide) (by omega)))]
 ·rw [List.getElem?_append_right (by simp;omega),List.length_replicate]
  by_cases h2:t<k
  ·rw [aJ _ _ _ h2,aJ _ _ _ (by omega)]
   congr 2;omega
  ·rw [List.getElem?_eq_none (by rw [LX];omega),List.getElem?_eq_none (by rw [LX];omega)]
theorem Oh {a:Nat} (h:a<B9):nDigits a≤9:=by
 rcases Nat.eq_zero_or_pos a with h0|h0
 ·rw [h0,nDigits_small (by decide)];decide
 ·have:=KT a (by omega)
  rcases Nat.lt_or_ge 9 (nDigits a) with h1|h1
  ·have:10 ^ 9≤10 ^ (nDigits a-1):=Nat.pow_le_pow_right (by decide) (by omega)
   simp only [B9] at h;omega
  ·exact h1
def U7:List Nat→List UInt8
 |[]=>decDigits 0
 |[a]=>decDigits a
 |a::t=>U7 t++D 9 a
theorem oJ {a:Nat} {t:List Nat} (h:t≠[]):U7 (a::t)=U7 t++D 9 a:=by
 cases t with
 |nil=>exact absurd rfl h
 |cons b t=>rfl
def parse (l:List UInt8):Nat:=l.foldl (fun v c=>10*v+(c.toNat-48)) 0
theorem Xo (l:List UInt8) (c:UInt8):parse (l++[c])=10*parse l+(c.toNat-48):=by simp [parse]
theorem gW (u j:Nat):(dg u j).toNat=48+u / 10 ^ j % 10:=by
 unfold dg
 have:u / 10 ^ j % 10<10:=Nat.mod_lt _ (by decide)
 simp
 omega
theorem b0h (k u:Nat):D (k+1) u=D k (u / 10)++[dg u 0]:=by
 apply List.ext_getElem?
 intro t
 by_cases h1:t<k
 ·rw [aJ _ _ _ (by omega),List.getElem?_append_left (by rw [LX];exact h1),aJ _ _ _ h1]
  rw [show k+1-1-t=(k-1-t)+1 by omega,dg_succ]
 ·rw [List.getElem?_append_right (by rw [LX];omega),LX]
  by_cases h2:t<k+1
  ·have:t=k:=by omega
   subst this
   rw [aJ _ _ _ (by omega),Nat.sub_self,show t+1-1-t=0 by omega];rfl
  ·rw [List.getElem?_eq_none (by rw [LX];omega),List.getElem?_eq_none (by simp;omega)]
theorem sG:∀ (k u:Nat),parse (D k u)=u % 10 ^ k
 |0,u=>by simp [D,parse,Nat.mod_one]
 |k+1,u=>by
  rw [b0h,Xo,sG k,gW,Nat.pow_zero,Nat.div_one,Nat.add_sub_cancel_left,Nat.pow_succ,Nat.mul_comm (10 ^ k) 10,Nat.mod_mul,Nat.add_comm]
end
section
open Go.Lib Go.Vm
theorem GZ (l:List Nat) (i j x:Nat) (hi:i<l.length):gi (l.set i x) j=if i=j then x else gi l j:=by
 simp only [gi,List.getElem?_set]
 split
 ·rename_i h;subst h;simp [hi]
 ·rfl
theorem parse_snoc' (l:List UInt8) (k:Nat) (h:k<l.length):parse (l.take (k+1))=10*parse (l.take k)+((gi l k).toNat-48):=by
 have:l.take (k+1)=l.take k++[gi l k]:=by
  rw [List.take_succ_eq_append_getElem h];simp [gi,List.getElem?_eq_getElem h]
 rw [this,Xo]
theorem a1r:∀ (l:List UInt8),(∀ c∈l,48≤c.toNat∧c.toNat≤57)→parse l<10 ^ l.length:=by
 intro l h
 have key:∀ k,k≤l.length→parse (l.take k)<10 ^ k:=by
  intro k
  induction k with
  |zero=>intro _;simp [parse]
  |succ k ih =>
   intro hk
   have hm:gi l k∈l:=by simp only [gi,List.getElem?_eq_getElem (show k<l.length by omega),Option.getD_some];exact List.getElem_mem _
   have:=h _ hm
   have:=ih (by omega)
   rw [parse_snoc' l k (by omega),Nat.pow_succ]
   omega
 have:=key l.length (Nat.le_refl _)
 rwa [List.take_length] at this
theorem a2r (k u:Nat):∀ c∈D k u,48≤c.toNat∧c.toNat≤57:=fun c hc=>by
 unfold D at hc
 obtain ⟨t,_,rfl⟩:=List.mem_map.1 hc
 rw [gW]
 have:=Nat.mod_lt (u / 10 ^ (k-1-t)) (show 0<10 by decide)
 omega
theorem Jo (u:Nat):∀ c∈decDigits u,48≤c.toNat∧c.toNat≤57:=by rw [OU];exact a2r _ _
def a8s (n j:Nat):Nat:=n / B9 ^ j % B9
def limbs (n:Nat):Nat→List Nat
 |0=>[]
 |k+1=>limbs n k++[a8s n k]
theorem dA {a b:Nat} (h:nDigits a<nDigits b):a<b:=by
 have h1:=lt_pow_nDigits a
 have hb0:b≠0:=fun e=>by
  have e0:nDigits 0=1:=nDigits_small (by decide)
  rw [e,e0] at h;have:=nDigits_pos a;omega
 have h2:=KT b hb0
 have:10 ^ nDigits a≤10 ^ (nDigits b-1):=Nat.pow_le_pow_right (by decide) (by omega)
 omega
end
end Go.Num
namespace Go.Proofs.YtnjkoebfgcbbdaaGreatDoor
section
open Go Go.Proofs Go.Shelf Go.RowKit Go.Sort Go.Lib
theorem Zi (u:Nat) (hu64:u<18446744073709551616) (w:World) (htab:Lib.TabIs Tryz.prog w "internal/strconv.uint64pow10" .u64 Lib.pow10Tab) :
 Calls Tryz.prog 185 #[.int .u64 u,.int .i64 10] w fun e w'=>e=.returned (.string ⟨(Lib.decDigits u).toArray⟩)∧Below w.heap.size w w':=by
 by_cases hs:u<100
 ·have hw:IntKind.i64.wrap (u:Int)=(u:Int):=by rw [IntKind.wrap_i64];omega
  go_enter Tryz.func185,Tryz.ntmps185
  go_wp2_with (go_at_call 172;refine (Tryz.internal_strconv_small u hs _).mono ?_;rintro e w' ⟨rfl,rfl⟩)
  go_ret
  exact ⟨rfl,Below.refl _ _⟩
 ·have hu1:1≤u:=by omega
  have hnd20:Lib.nDigits u≤20:=by have:=Lib.numDigits_eq u hu1 hu64;split at this<;>omega
  have hal:Tryz.prog.arrayLen 300=24:=by kernel_rfl
  have hsl:∀ W,(Instr.sliceAt 300 (.pointer (some ⟨w.heap.size,0,none⟩)) none (some (.int .i64 (Lib.nDigits u:Int))) none).run Tryz.prog W=.ok (.slice (some ⟨w.heap.size,0,none⟩) (Lib.nDigits u) 24) W:=fun W=>by
   rw [run_sliceAt_array_h W 300 ⟨w.heap.size,0,none⟩ (by simp [Program.arrayLen,Program.elem,Tryz.underlying300]) .i64 (Lib.nDigits u:Int) (by omega) (by rw [hal];omega)]
   go_simp
  have hH0:=Lib.holds_zero0 w 300 (Lib.nDigits u) (by omega)
  have hfmt:=Tryz.internal_strconv_formatBase10 w.heap.size 0 24 u (Array.replicate (Lib.nDigits u) 0) (w.alloc (.cells Lib.zeros24 300)) hH0 (by rw [Array.size_replicate];exact Lib.lt_pow_nDigits u) hu64 (by rw [Array.size_replicate];omega)
  rw [Array.size_replicate] at hfmt
  have HH0:=Lib.hid hH0
  clear hH0 hal
  go_enter Tryz.func185,Tryz.ntmps185
  go_wp2_with (go_at_call 173;refine (Tryz.internal_strconv_numDigits u hu1 hu64 _ (Lib.tabIs_alloc htab _)).mono ?_;rintro e w' ⟨rfl,rfl⟩)
  go_at_call 174
  refine hfmt.mono ?_
  rintro e w' ⟨rfl,k,v',dk,rfl,hF⟩
  have hcv:(convert 55 9 (.slice (some ⟨w.heap.size,0,none⟩) (Lib.nDigits u) 24)).run Tryz.prog ((putRow (fun (b:UInt8)=>Value.int .u8 (b.toNat:Int)) (w.alloc (.cells Lib.zeros24 300)) w.heap.size 0 dk).drewN k)=.ok (.string ⟨(Lib.decDigits u).toArray⟩) ((putRow (fun (b:UInt8)=>Value.int .u8 (b.toNat:Int)) (w.alloc (.cells Lib.zeros24 300)) w.heap.size 0 dk).drewN k):=by
   have h:=run_convert_bytes_back (P:=Tryz.prog) ((putRow (fun (b:UInt8)=>Value.int .u8 (b.toNat:Int)) (w.alloc (.cells Lib.zeros24 300)) w.heap.size 0 dk).drewN k) 55 9 5 ⟨w.heap.size,0,none⟩ 24 (Lib.decDigits u) Tryz.underlying55 Tryz.underlying5 Tryz.underlying9 (fun j hj=>by
    rw [Lib.row_is_numeral hF j hj,Lib.add_plain,World.cell?_drewN]
    exact cell?_putRow (fun (b:UInt8)=>Value.int .u8 (b.toNat:Int)) _ w.heap.size 0 _ dk HH0.out (by rw [hF.size,Array.size_replicate]) j (by rw [hF.size];rw [Lib.decDigits_length] at hj;exact hj))
   rw [Lib.decDigits_length] at h
   exact h
  go_wp2
  go_ret
  obtain ⟨os,eo⟩:=Lib.fin_at w (.cells Lib.zeros24 300) dk k 0
  refine ⟨rfl,?_⟩
  rw [eo]
  exact Lib.below_grow _ w (Nat.le_refl _) _ _
theorem Xb (u:Nat) (hu64:u<18446744073709551616) (w:World) (htab:Lib.TabIs Tryz.prog w "internal/strconv.uint64pow10" .u64 Lib.pow10Tab) :
 Calls Tryz.prog 163 #[.int .u64 u,.int .i64 10] w fun e w'=>e=.returned (.string ⟨(Lib.decDigits u).toArray⟩)∧Below w.heap.size w w':=by
 go_enter Tryz.func163,Tryz.ntmps163
 go_wp2_with (go_at_call 185;refine (Zi u hu64 _ htab).mono ?_;rintro e w' ⟨rfl,hb⟩)
 go_ret
 exact ⟨rfl,hb⟩
theorem Kz (B b:Nat) (bs:List Value) (s:ByteArray) (w:World) (h:Lib.IsBuilderF 284 5 B b bs w) (hlen:bs.length+s.size≤140737488355328) (hBw:B≤w.heap.size) :
 Calls Tryz.prog 164 #[.pointer (some ⟨b,0,none⟩),.string s] w fun e w'=>e=.returned (.tuple #[.int .i64 s.size,.nilIface])∧(Lib.BuilderAtF 284 5 B b (.pointer (some ⟨b,0,none⟩)) (bs++Lib.strCells s) w'∧Below B w w'∧Lib.OthersKept 5 (some b) w w') :=
 Any.Builder_WriteString_k (P:=Tryz.prog) (ρ:=Tryz.lays105_ren) { Tryz.lays105 with } Tryz.Builder_Extra_105 B b bs s w h hlen hBw
end
section
open Go Go.Proofs Go.Shelf Go.RowKit
attribute [local go_sem] Oper.semAt_some
def KX {α:Type} (f:Nat→α) (k:Nat):List α:=(List.range k).map f
theorem Kq {α:Type} (f:Nat→α) (k:Nat):KX f (k+1)=KX f k++[f k]:=by simp [KX,List.range_succ]
theorem bW {α:Type} (f:Nat→α) (k:Nat):(KX f k).length=k:=by simp [KX]
abbrev PL:Type:={ x:Nat×Nat // x.2<Num.B9 }
def JB (zs:List Nat) (j:Nat):PL:=⟨(zs.length-1-j,zs.getD (zs.length-1-j) 0 % Num.B9),Nat.mod_lt _ (by decide)⟩
theorem Ov {n:Int} (h:-9223372036854775808≤n) (h2:n<9223372036854775808):IntKind.i64.wrap n=n:=by rw [IntKind.wrap_i64];omega
def NP (n₀ Bs:Nat) (W W':World):Prop:=Below n₀ W W'∧W'.heap[Bs]?=W.heap[Bs]?
theorem NP.refl (n₀ Bs:Nat) (W:World):NP n₀ Bs W W:=⟨Below.refl _ _,rfl⟩
theorem NP.trans {n₀ Bs:Nat} {A B C:World} (h:NP n₀ Bs A B) (k:NP n₀ Bs B C):NP n₀ Bs A C:=⟨h.1.trans k.1,k.2.trans h.2⟩
theorem gK (F:Fence) (n:Nat) (h8:F.fn 184) (hro:F.round=none) (hn:1≤n) (l Bs n₀ b off cap:Nat) (zs:List Nat) (hreach:zs.length*8≤140737488351232) (hlim:Num.Lim zs) (hb:b<n₀) (J Jx:List PL→World→Prop)
 (hY:∀ pre (x:PL) W,J pre W→pre.length<zs.length→YieldAt F (n-1) Tryz.prog l #[.int .i64 (x.1.1:Int),.int .u64 (x.1.2:Int)] W fun e W' =>
  (e=.returned (.bool true)∧J (pre++[x]) W'∧NP n₀ Bs W W')∨(e=.returned (.bool false)∧Jx (pre++[x]) W'))
 (W:World) (hBs:W.cell? ⟨Bs,0,none⟩=some (.slice (some ⟨b,off,none⟩) zs.length cap)) (hc:∀ j,j<zs.length→W.cell? ⟨b,off+j,none⟩=some (.int .u64 (zs.getD j 0:Int))) (h0:J [] W) :
 CallsIn F n Tryz.prog 184 #[.func (.yield l) #[] #[],.pointer (some ⟨Bs,0,none⟩)] W fun e W'=>(∃ v,e=.returned v) ∧
  ((∃ ys,ys=KX (JB zs) zs.length∧J ys W')∨(∃ pre,(∃ k,k≤zs.length∧pre=KX (JB zs) k)∧Jx pre W')):=by
 have hget:∀ j,zs.getD j 0 % Num.B9=zs.getD j 0:=fun j=>Nat.mod_eq_of_lt (by rw [List.getD_eq_getElem?_getD];exact Num.qX hlim j)
 obtain ⟨len,hlen⟩:∃ len,zs.length=len:=⟨_,rfl⟩
 rw [hlen] at hreach hY hBs hc ⊢
 have hw0:IntKind.i64.wrap ((len:Int)-1)=(len:Int)-1:=Ov (by omega) (by omega)
 refine callsIn_of_wp Tryz.func184 rfl h8 ?_ hro
 simp only [Tryz.ntmps184,List.size_toArray,List.length_cons,List.length_nil,Nat.reduceAdd,Nat.reduceSub,Array.replicate_succ,Array.replicate_zero,List.push_toArray,List.append_toArray,List.nil_append,List.cons_append]
 gi_wp2
 gi_loopw [3] (fun i wr=>∃ k:Nat,k≤len∧i=.int .i64 ((len:Int)-1-k)∧J (KX (JB zs) k) wr∧NP n₀ Bs W wr)
  (fun i _=>(intOf i+1).toNat)
 case atStart=>exact ⟨0,Nat.zero_le _,by simp,h0,NP.refl _ _ _⟩
 case round =>
  obtain ⟨k,hk,rfl,hJs,hnx⟩:=hrel
  have hBx:wr.cell? ⟨Bs,0,none⟩=some (.slice (some ⟨b,off,none⟩) len cap):=(World.cell?_of_block (a:=⟨Bs,0,none⟩) hnx.2).trans hBs
  by_cases hlt:k<len
  ·have hge:(0:Int)≤(len:Int)-1-k:=by omega
   have hcx:wr.cell? ⟨b,off+(len-1-k),none⟩=some (.int .u64 ((JB zs k).1.2:Int)):=by
    have:=(hnx.1.cell (p:=⟨b,off+(len-1-k),none⟩) hb).trans (hc (len-1-k) (by omega))
    rw [this];unfold JB;simp only [hlen,hget]
   obtain ⟨fn,tmps,assign,body,hy,hR⟩:=hY _ (JB zs k) wr hJs (by rw [bW];exact hlt)
   have e1:((JB zs k).1.1:Int)=(len:Int)-1-k:=by show ((zs.length-1-k:Nat):Int)=_;omega
   rw [e1] at hy
   have hi1:((len:Int)-1-k)<len:=by omega
   have hi2:((len:Int)-1-k).toNat=len-1-k:=by omega
   have hw1:IntKind.i64.wrap ((len:Int)-1-k-1)=(len:Int)-1-((k+1:Nat):Int):=by rw [Ov (by omega) (by omega)];omega
   gi_wp2
   refine hR.mono ?_
   rintro e W3 (⟨rfl,hJ3,hk3⟩|⟨rfl,hJx3⟩)
   ·gi_wp2
    go_roundw
    case rel=>exact ⟨k+1,by omega,by first|rfl|simp [hw1]|(congr 1),by rw [Kq];exact hJ3,hnx.trans hk3⟩
    case measure=>simp [intOf];omega
   ·gi_wp2
    refine bodyPost_ret (results_none rfl _ _ _) rfl ?_
    exact ⟨⟨_,rfl⟩,.inr ⟨_,⟨k+1,by omega,(Kq _ _).symm⟩,hJx3⟩⟩
  ·obtain rfl:k=len:=by omega
   have hneg:¬ ((0:Int)≤(k:Int)-1-k):=by omega
   gi_wp2
   go_end0
   exact ⟨⟨_,rfl⟩,by first|exact .inl hJs|exact .inl ⟨_,rfl,hJs⟩⟩
theorem mg (F:Fence) (n:Nat) (h6:F.fn 162) (hro:F.round=none) (a:Option Addr) (len cap:Nat) (w:World) :
 CallsIn F n Tryz.prog 162 #[.slice a len cap] w fun e w'=>e=.returned (.func (.func 184) #[] #[.pointer (some ⟨w.heap.size,0,none⟩)])∧w'=w.alloc (.cells #[.slice a len cap] 202):=by
 refine callsIn_of_wp Tryz.func162 rfl h6 ?_ hro
 simp only [Tryz.ntmps162,List.size_toArray,List.length_cons,List.length_nil,Nat.reduceAdd,Nat.reduceSub,Array.replicate_succ,Array.replicate_zero,List.push_toArray,List.append_toArray,List.nil_append,List.cons_append]
 gi_wp2
 go_ret
 exact ⟨rfl,rfl⟩
theorem qo (F:Fence) (n:Nat) (h8:F.fn 184) (hro:F.round=none) (hn:1≤n) (Bs n₀ b off cap:Nat) (zs:List Nat) (hreach:zs.length*8≤140737488351232) (hlim:Num.Lim zs) (hb:b<n₀) (w:World) (hBs:Bs<w.heap.size) (hn₀:n₀≤w.heap.size)
 (hcB:w.cell? ⟨Bs,0,none⟩=some (.slice (some ⟨b,off,none⟩) zs.length cap)) (hc:∀ j,j<zs.length→w.cell? ⟨b,off+j,none⟩=some (.int .u64 (zs.getD j 0:Int))) :
 SeqStopsK F n Tryz.prog 184 #[.pointer (some ⟨Bs,0,none⟩)] (fun x:PL=>#[Value.int .i64 (x.1.1:Int),Value.int .u64 (x.1.2:Int)]) (NP n₀ Bs) (fun ys=>ys=KX (JB zs) zs.length)
  (fun pre=>∃ k,k≤zs.length∧pre=KX (JB zs) k) zs.length w:=fun l J Jx W hW _ _ hY h0 =>
 gK F n h8 hro hn l Bs n₀ b off cap zs hreach hlim hb J Jx hY W ((hW.cell (p:=⟨Bs,0,none⟩) hBs).trans hcB) (fun j hj=>(hW.cell (p:=⟨b,off+j,none⟩) (by show b<w.heap.size;omega)).trans (hc j hj)) h0
end
section
open Go Go.Proofs Go.Shelf Go.RowKit
attribute [local go_sem] Oper.semAt_some
def OB (len:Nat) (x:PL):List UInt8:=if (x.1.1:Int)<(len:Int)-1 then Lib.repeatL [48] (9-Lib.nDigits x.1.2)++Lib.decDigits x.1.2 else Lib.decDigits x.1.2
def QW (len:Nat) (pre:List PL):List UInt8:=pre.flatMap (OB len)
theorem LU (len:Nat) (pre:List PL) (x:PL):QW len (pre++[x])=QW len pre++OB len x:=by simp [QW]
theorem U5 (n:Nat):(Lib.repeatL [48] n).length=n:=by
 induction n with
 |zero=>simp [Lib.repeatL]
 |succ n ih=>simp_all [Lib.repeatL]
theorem oH (len:Nat) (x:PL):(OB len x).length≤9:=by
 have:=Num.Oh x.2
 unfold OB
 split
 ·rw [List.length_append,U5,Lib.decDigits_length];omega
 ·rw [Lib.decDigits_length];omega
theorem a0y (len:Nat) (pre:List PL):(QW len pre).length≤9*pre.length:=by
 induction pre with
 |nil=>simp [QW]
 |cons x pre ih =>
  have:=oH len x
  simp only [QW,List.flatMap_cons,List.length_append,List.length_cons] at ih ⊢
  omega
def Ri (N:Nat) (sv:Value) (bs:List UInt8) (W:World):Prop :=
 Lib.IsBuilderF 284 5 (N+1) (N+1) (Lib.byteCells bs) W∧W.heap[N]?=some (.cells #[sv] 202 (0,0))∧W.heap[N+2]?=some (.cells #[sv] 202 (0,0))
theorem J9 {T e:TypeId} {B b:Nat} {p:Value} {bs:List Value} {w w':World} (h:Lib.BuilderAtF T e B b p bs w) (hk:∀ (k:Nat) (o:Obj),w.heap[k]?=some o→o.isCells=true→w'.heap[k]?=some o):Lib.BuilderAtF T e B b p bs w':=by
 obtain ⟨hB,v,hb,hown,hne⟩:=h
 refine ⟨hB,v,hk _ _ hb rfl,⟨hown.1,?_⟩,hne⟩
 rcases hown.2 with h0|⟨g,cap,cur,fz,hv,hbg,hg,r⟩
 ·exact .inl h0
 ·exact .inr ⟨g,cap,cur,fz,hv,hbg,hk _ _ hg rfl,r⟩
theorem J7 {T e:TypeId} {B b:Nat} {bs:List Value} {w w':World} (h:Lib.IsBuilderF T e B b bs w) (hk:∀ (k:Nat) (o:Obj),w.heap[k]?=some o→o.isCells=true→w'.heap[k]?=some o):Lib.IsBuilderF T e B b bs w' :=
 h.elim (fun x=>.inl (J9 x hk)) (fun x=>.inr (J9 x hk))
theorem mY {β:Type} (N:Nat) (sv:Value) (f:β→List UInt8):Own (fun (pre:β) W=>Ri N sv (f pre) W):=fun s W W' row hs hg hr=>by
 have hk:∀ (k:Nat) (o:Obj),W.heap[k]?=some o→o.isCells=true→W'.heap[k]?=some o:=fun k o ho hc=>(grownBy_keeps_cells hg hr ho hc).trans ho
 exact ⟨J7 hs.1 hk,hk _ _ hs.2.1 rfl,hk _ _ hs.2.2 rfl⟩
theorem OG {W W':World} (h:Below W.heap.size W W') (B:Nat):KeepsFrom B W W':=⟨h.size,fun k o _ hk _=>(h.block k (by
 rcases Nat.lt_or_ge k W.heap.size with h1|h1
 ·exact h1
 ·rw [Array.getElem?_eq_none h1] at hk;cases hk)).trans hk⟩
theorem lt_of_heap {W:World} {k:Nat} {o:Obj} (h:W.heap[k]?=some o):k<W.heap.size:=by
 rcases Nat.lt_or_ge k W.heap.size with h1|h1
 ·exact h1
 ·rw [Array.getElem?_eq_none h1] at h;cases h
theorem Sr {N:Nat} {sv:Value} {bs:List UInt8} {W W':World} (h:Ri N sv bs W) (hb:Below W.heap.size W W'):Ri N sv bs W':=by
 have hk:∀ (k:Nat) (o:Obj),W.heap[k]?=some o→o.isCells=true→W'.heap[k]?=some o:=fun k o ho _=>(hb.block k (lt_of_heap ho)).trans ho
 exact ⟨J7 h.1 hk,hk _ _ h.2.1 rfl,hk _ _ h.2.2 rfl⟩
theorem O6 {n₀ Bs:Nat} {W W':World} (h:Below W.heap.size W W') (hn:n₀≤W.heap.size) (hB:Bs<W.heap.size):NP n₀ Bs W W':=⟨h.mono hn,h.block Bs hB⟩
theorem Nl {N:Nat} {sv:Value} {bs:List UInt8} {s:ByteArray} {W W':World} (h:Ri N sv bs W) (h1:Lib.BuilderAtF 284 5 (N+1) (N+1) (.pointer (some ⟨N+1,0,none⟩)) (Lib.byteCells bs++Lib.strCells s) W') (h2:Below (N+1) W W') (h3:Lib.OthersKept 5 (some (N+1)) W W') :
 Ri N sv (bs++s.data.toList) W'∧KeepsFrom (N+3) W W'∧NP N (N+2) W W':=by
 have hb:∃ c t f,W.heap[N+1]?=some (.cells c t f):=by
  rcases h.1 with ⟨_,v,hb,_⟩|⟨_,v,hb,_⟩<;>exact ⟨_,_,_,hb⟩
 have k2:W'.heap[N+2]?=some (.cells #[sv] 202 (0,0)):=h3 _ _ h.2.2 (by simp) (fun c fz e=>by
  have:=(Obj.cells.inj e).2.1
  exact absurd this (by decide))
 refine ⟨⟨.inr ?_,?_,k2⟩,⟨h2.size,fun k o _ hk ho=>h3 k o hk (fun e=>?_) (fun c fz e=>by rw [e] at ho;cases ho)⟩,⟨h2.mono (by omega),by rw [k2,h.2.2]⟩⟩
 ·have e:Lib.byteCells bs++Lib.strCells s=Lib.byteCells (bs++s.data.toList):=by simp [Lib.byteCells,Lib.strCells]
  rw [← e];exact h1
 ·rw [h2.block N (by omega)];exact h.2.1
 ·cases e
  obtain ⟨c,t,f,hc⟩:=hb
  rw [hc] at hk;cases hk;cases ho
theorem tab_below {P:Program} {w w':World} {name:String} {k:IntKind} {zs:List Int} (h:Lib.TabIs P w name k zs) (hb:Below w.heap.size w w'):Lib.TabIs P w' name k zs:=(Lib.tabBelow_of_tabIs h) w' hb
theorem qw (n:Nat):Lib.repeatL [48] n=List.replicate n 48:=by
 induction n with
 |zero=>rfl
 |succ n ih=>simp [Lib.repeatL,ih,List.replicate_succ]
theorem Yc (zs:List Nat) (hl:Num.Lim zs) (j:Nat) (hj:j<zs.length):OB zs.length (JB zs j)=if 0<j then Num.D 9 (zs.getD (zs.length-1-j) 0) else Lib.decDigits (zs.getD (zs.length-1-j) 0):=by
 have hb:zs.getD (zs.length-1-j) 0<Num.B9:=by rw [List.getD_eq_getElem?_getD];exact Num.qX hl _
 have e2:(JB zs j).1.2=zs.getD (zs.length-1-j) 0:=Nat.mod_eq_of_lt hb
 have e1:(JB zs j).1.1=zs.length-1-j:=rfl
 unfold OB
 rw [e1,e2]
 by_cases h:0<j
 ·rw [if_pos (by omega),if_pos h,qw,Num.pad 9 _ (Num.Oh hb)]
 ·rw [if_neg (by omega),if_neg h]
theorem iC:∀ (zs:List Nat),Num.Lim zs→zs≠[]→QW zs.length (KX (JB zs) zs.length)=Num.U7 zs
 |[],_,h=>absurd rfl h
 |a::t,hl,_=>by
  have hlt:Num.Lim t:=fun x hx=>hl x (by simp [hx])
  have hrec:∀ k,k≤t.length→QW (a::t).length (KX (JB (a::t)) k)=QW t.length (KX (JB t) k):=by
   intro k
   induction k with
   |zero=>intro _;rfl
   |succ k ih =>
    intro hk
    rw [Kq,Kq,LU,LU,ih (by omega),Yc _ hl k (by simp;omega),Yc t hlt k (by omega)]
    have:(a::t).length-1-k=(t.length-1-k)+1:=by simp;omega
    rw [this]
    simp only [List.getD_cons_succ]
  show QW (a::t).length (KX (JB (a::t)) (t.length+1))=_
  rw [Kq,LU,hrec t.length (Nat.le_refl _),Yc _ hl t.length (by simp)]
  have e0:(a::t).length-1-t.length=0:=by simp
  rw [e0,List.getD_cons_zero]
  cases t with
  |nil=>rfl
  |cons b t =>
   rw [iC (b::t) hlt (by simp),if_pos (by simp)]
   exact (Num.oJ (by simp)).symm
theorem a2q (b off cap:Nat) (zs:List Nat) (hlim:Num.Lim zs) (h0:zs≠[]) (hreach:zs.length*9≤140737488351232) (w:World) (hb:b<w.heap.size) (hc:∀ j,j<zs.length→w.cell? ⟨b,off+j,none⟩=some (.int .u64 (zs.getD j 0:Int)))
 (htab:Lib.TabIs Tryz.prog w "internal/strconv.uint64pow10" .u64 Lib.pow10Tab) :
 Calls Tryz.prog 130 #[.slice (some ⟨b,off,none⟩) zs.length cap] w fun e w'=>e=.returned (.string ⟨(Num.U7 zs).toArray⟩)∧Below w.heap.size w w':=by
 have hpos:0<zs.length:=List.length_pos_iff.2 h0
 have hne0:¬ ((zs.length:Int)=0):=by omega
 have hall:=iC zs hlim h0
 obtain ⟨len,hlen⟩:∃ len,zs.length=len:=⟨_,rfl⟩
 rw [hlen] at hne0 hall
 refine (callsIn_wide (n:=6)).1 ?_
 refine callsIn_of_wp_marks Tryz.func130 rfl trivial ?_ rfl
 simp only [Tryz.ntmps130,List.size_toArray,List.length_cons,List.length_nil,Nat.reduceAdd,Nat.reduceSub,Array.replicate_succ,Array.replicate_zero,List.push_toArray,List.append_toArray,List.nil_append,List.cons_append]
 rw [hlen]
 gi_wp2_with (refine ⟨trivial,?_⟩;gi_at_call 162;refine (mg Fence.wide _ trivial rfl _ _ _ _).mono ?_;rintro e w' ⟨rfl,rfl⟩)
 obtain ⟨W0,hW0⟩:∃ W0,((w.alloc (.cells #[.slice (some ⟨b,off,none⟩) len cap] 202)).alloc (.cells #[.pointer none,.slice none 0 0] 284)).alloc (.cells #[.slice (some ⟨b,off,none⟩) len cap] 202)=W0:=⟨_,rfl⟩
 have hB0:Below w.heap.size w W0:=by
  rw [← hW0]
  exact (((Below.refl _ w).alloc (Nat.le_refl _) _).alloc (by simp) _).alloc (by simp;omega) _
 have hs0:W0.heap.size=w.heap.size+3:=by rw [← hW0];simp
 have g0:W0.heap[w.heap.size]?=some (.cells #[.slice (some ⟨b,off,none⟩) len cap] 202 (0,0)):=by
  rw [← hW0];exact (Below.heap_alloc _ _ _ (by simp;omega)).trans ((Below.heap_alloc _ _ _ (by simp)).trans (World.alloc_heap_new w _))
 have g1:W0.heap[w.heap.size+1]?=some (.cells #[.pointer none,.slice none 0 0] 284 (0,0)):=by
  rw [← hW0];exact (Below.heap_alloc _ _ _ (by simp)).trans (by have:=World.alloc_heap_new (w.alloc (.cells #[.slice (some ⟨b,off,none⟩) len cap] 202)) (.cells #[.pointer none,.slice none 0 0] 284);rwa [World.size_alloc] at this)
 have g2:W0.heap[w.heap.size+2]?=some (.cells #[.slice (some ⟨b,off,none⟩) len cap] 202 (0,0)):=by
  rw [← hW0]
  have:=World.alloc_heap_new ((w.alloc (.cells #[.slice (some ⟨b,off,none⟩) len cap] 202)).alloc (.cells #[.pointer none,.slice none 0 0] 284)) (.cells #[.slice (some ⟨b,off,none⟩) len cap] 202)
  rwa [World.size_alloc,World.size_alloc] at this
 rw [hW0]
 have hI0:Ri w.heap.size (.slice (some ⟨b,off,none⟩) len cap) (QW len []) W0 :=
  ⟨.inl ⟨Nat.le_refl _,_,g1,⟨rfl,.inl ⟨rfl,rfl⟩⟩,by simp [Value.ownBlock]⟩,g0,g2⟩
 have hcB:W0.cell? ⟨w.heap.size+2,0,none⟩=some (.slice (some ⟨b,off,none⟩) zs.length cap):=by rw [hlen];simp [World.cell?,g2]
 refine wpIn_rangeFunc_ownG rfl (by omega) (gf:=184) (lb:=#[.pointer (some ⟨w.heap.size+1+1,0,none⟩)]) rfl trivial (enters_of Tryz.func184 (by kernel_rfl) rfl)
  (qo Fence.wide _ trivial rfl (by omega) (w.heap.size+2) w.heap.size b off cap zs (by omega) hlim hb W0 (by omega) (by omega) hcB (fun j hj=>(hB0.cell (p:=⟨b,off+j,none⟩) hb).trans (hc j hj)))
  (fun h k=>h.trans k) (fun W l o o' hl _ _ _=>⟨⟨rfl,rfl,rfl,by simp,fun k hk=>World.putObj_heap_other (by omega)⟩,World.putObj_heap_other (by omega)⟩) (Below.refl _ _) (fun _=>rfl)
  (fun pre W=>Ri w.heap.size (.slice (some ⟨b,off,none⟩) len cap) (QW len pre) W∧Below w.heap.size w W)
  (fun _ _ _=>False)
  (OwnFrom.and (Own.from (mY w.heap.size _ (fun pre=>QW len pre)) _) (ownFrom_below (Nat.le_refl _) (by omega)))
  (fun _ _ _ _ _ hs _ _=>hs)
  ⟨hI0,hB0⟩
  (fun x=>{ tmps:=#[.slice (some ⟨b,off,none⟩) len cap,.pointer (some ⟨w.heap.size,0,none⟩),.string ⟨#[]⟩,.pointer (some ⟨w.heap.size+1,0,none⟩),.int .i64 (x.1.1:Int),.int .u64 (x.1.2:Int),undef,.slice (some ⟨b,off,none⟩) len cap,.int .i64 len,.bool false,
   .slice (some ⟨b,off,none⟩) len cap,.func (.func 184) #[] #[.pointer (some ⟨w.heap.size+1+1,0,none⟩)],.int .i64 (x.1.1:Int),.int .u64 (x.1.2:Int),undef,undef,undef,undef,undef,undef,undef,undef,undef,undef,undef,undef,undef,undef,undef],defers:=[] }) ?assign ?body ?done ?stop
 case assign =>
  intro l x W K hK
  gi_wp2
  exact hK
 case body =>
  rintro l pre x W ⟨hT,hB⟩ hlt
  have b6h:x.1.2<18446744073709551616:=Nat.lt_trans x.2 (by decide)
  have hd9:=Num.Oh x.2
  have hsz:(ByteArray.mk (Lib.decDigits x.1.2).toArray).size=Lib.nDigits x.1.2:=by simp [ByteArray.size,Lib.decDigits_length]
  have hwl:IntKind.i64.wrap ((len:Int)-1)=(len:Int)-1:=Ov (by omega) (by omega)
  have hw9:IntKind.i64.wrap (9-(Lib.nDigits x.1.2:Int))=((9-Lib.nDigits x.1.2:Nat):Int):=by rw [Ov (by omega) (by omega)];omega
  have b7p:Lib.TabIs Tryz.prog W "internal/strconv.uint64pow10" .u64 Lib.pow10Tab:=tab_below htab hB
  have hal:=a0y len pre
  have hcl:(Lib.byteCells (QW len pre)).length≤9*pre.length:=by rw [Lib.byteCells_length];exact hal
  gi_wp2_with (refine ⟨trivial,?_⟩;gi_at_call 163;refine (CallsIn.inRound l (callsIn_wide.2 (Xb x.1.2 b6h _ b7p))).mono ?_;rintro e W1 ⟨rfl,hb1⟩;have hT1:=Sr hT hb1;have c1:W1.cell? ⟨w.heap.size,0,none⟩=some (.slice (some ⟨b,off,none⟩) len cap):=by simp [World.cell?,hT1.2.1])
  ·have hx:(x.1.1:Int)<(len:Int)-1:=by assumption
   refine ⟨trivial,(CallsIn.inRound l (callsIn_wide.2 (Tryz.strings_Repeat ⟨#[48]⟩ (9-Lib.nDigits x.1.2) W1 (by omega) (by
    have e1:(ByteArray.mk #[48]).size=1:=rfl
    rw [e1];omega)))).mono ?_⟩
   rintro e W2 ⟨rfl,hb2⟩
   have hT2:=Sr hT1 hb2
   have l2:=lt_of_heap hT2.2.2
   have hr1:(ByteArray.mk (Lib.repeatL [48] (9-Lib.nDigits x.1.2)).toArray).size=9-Lib.nDigits x.1.2:=by simp [ByteArray.size,U5]
   gi_wp2_with fail
   refine ⟨trivial,(CallsIn.inRound l (callsIn_wide.2 (Kz (w.heap.size+1) (w.heap.size+1) _ ⟨(Lib.repeatL [48] (9-Lib.nDigits x.1.2)).toArray⟩ W2 hT2.1 (by rw [hr1];omega) (by omega)))).mono ?_⟩
   rintro e W3 ⟨rfl,h31,h32,h33⟩
   obtain ⟨hT3,kf3,kb3⟩:=Nl hT2 h31 h32 h33
   have l3:=lt_of_heap hT3.2.2
   have hl3:(Lib.byteCells (QW len pre++(ByteArray.mk (Lib.repeatL [48] (9-Lib.nDigits x.1.2)).toArray).data.toList)).length≤9*pre.length+(9-Lib.nDigits x.1.2):=by
    rw [Lib.byteCells_length,List.length_append]
    have:(ByteArray.mk (Lib.repeatL [48] (9-Lib.nDigits x.1.2)).toArray).data.toList.length=9-Lib.nDigits x.1.2:=hr1
    omega
   gi_wp2_with fail
   refine ⟨trivial,(CallsIn.inRound l (callsIn_wide.2 (Kz (w.heap.size+1) (w.heap.size+1) _ ⟨(Lib.decDigits x.1.2).toArray⟩ W3 hT3.1 (by rw [hsz];omega) (by omega)))).mono ?_⟩
   rintro e W4 ⟨rfl,h41,h42,h43⟩
   obtain ⟨hT4,kf4,kb4⟩:=Nl hT3 h41 h42 h43
   gi_wp2
   have hpc:OB len x=Lib.repeatL [48] (9-Lib.nDigits x.1.2)++Lib.decDigits x.1.2:=if_pos hx
   have hbs:=hB.size
   have c1o:=hb1.size
   refine ⟨by rw [hs0];exact (OG hb1 _).trans ((OG hb2 _).trans (kf3.trans kf4)),(O6 hb1 hbs (lt_of_heap hT.2.2)).trans ((O6 hb2 (by omega) (lt_of_heap hT1.2.2)).trans (kb3.trans kb4)),?_,
    hB.trans ((hb1.mono hbs).trans ((hb2.mono (by omega)).trans (kb3.1.trans kb4.1)))⟩
   rw [LU,hpc,← List.append_assoc]
   simpa using hT4
  ·have hx:¬ (x.1.1:Int)<(len:Int)-1:=by omega
   have l1:=lt_of_heap hT1.2.2
   refine ⟨trivial,(CallsIn.inRound l (callsIn_wide.2 (Kz (w.heap.size+1) (w.heap.size+1) _ ⟨(Lib.decDigits x.1.2).toArray⟩ W1 hT1.1 (by rw [hsz];omega) (by omega)))).mono ?_⟩
   rintro e W4 ⟨rfl,h41,h42,h43⟩
   obtain ⟨hT4,kf4,kb4⟩:=Nl hT1 h41 h42 h43
   gi_wp2
   have hpc:OB len x=Lib.decDigits x.1.2:=if_neg (by omega)
   have hbs:=hB.size
   refine ⟨by rw [hs0];exact (OG hb1 _).trans kf4,(O6 hb1 hbs (lt_of_heap hT.2.2)).trans kb4,?_,hB.trans ((hb1.mono hbs).trans kb4.1)⟩
   rw [LU,hpc]
   simpa using hT4
 case done =>
  rintro D ys W hD rfl ⟨hT,hB⟩ hK
  have l1:=lt_of_heap hT.2.2
  rw [hlen,hall] at hT
  gi_wp2_with fail
  refine ⟨trivial,(callsIn_wide.2 (Tryz.Builder_String_any_k (w.heap.size+1) (w.heap.size+1) (Num.U7 zs) W hT.1 (by omega))).mono ?_⟩
  rintro e W1 ⟨rfl,h1,h2,h3⟩
  gi_wp2
  have hK1:W1.heap[D]?=some (.deferred (some [])):=h3 D _ hK (by simp;omega) (fun c fz e=>by cases e)
  refine ⟨by simp,.inl ⟨_,_,rfl,run_takeDeferred hK1,?_⟩⟩
  exact ⟨_,results_tmp rfl _ _ _,rfl,(hB.trans (h2.mono (by omega))).trans (belowK_b (w:=w) (Nat.le_refl _) W1 D _ _ (by omega) hK1 rfl rfl)⟩
 case stop =>
  rintro D c pre W _ _ h _
  exact h.elim
end
section
open Go Go.Am Go.Vm
def rY:XB:=fun xs _=>match xs with
 |[.int .i64 n]=>if -9223372036854775808≤n∧n≤9223372036854775807 then some (.string (bs (Lib.itoa n))) else none
 |_=>none
def Xz:XB:=fun xs _=>match xs with
 |[.string a,.string b]=>some (.int .i64 (Lib.compareBytes a.data.toList b.data.toList))
 |_=>none
def bF:List Value→Option (List Nat)
 |[]=>some []
 | .int .u64 n::l=>if 0≤n∧n<1000000000 then (bF l).map (n.toNat::·) else none
 |_::_=>none
def textF:XB:=fun xs m=>match xs with
 |[.slice a n g]=>match CO m 1 n (.slice a n g) with
  |some l=>match bF l with
   |some zs=>if n*9≤140737488351232 then some (.string (bs (Num.U7 zs))) else none
   |none=>none
  |none=>none
 |_=>none
theorem Yf:∀ {l:List Value} {zs:List Nat},bF l=some zs→l=zs.map (fun (n:Nat)=>Value.int .u64 (n:Int))∧Num.Lim zs
 |[],_,h=>by cases h;exact ⟨rfl,fun a ha=>by cases ha⟩
 |v::l,zs,h=>by
  unfold bF at h
  split at h
  ·rename_i he;cases he
  ·rename_i n l' he
   cases he
   split at h
   ·rename_i hn
    rw [Option.map_eq_some_iff] at h
    obtain ⟨zs',h1,rfl⟩:=h
    obtain ⟨h2,h3⟩:=Yf h1
    refine ⟨?_,fun a ha=>?_⟩
    ·rw [h2,List.map_cons];congr 2;omega
    ·rcases List.mem_cons.1 ha with rfl|ha
     ·simp only [Num.B9];omega
     ·exact h3 a ha
   ·cases h
  ·cases h
theorem WT {P:Program} {F:Nat} {laid:List (String×DataW Unit)} {ι:BN} {m:Mem} {w:World} (hs:DL P (AX P F laid) ι m w) (hg:∀ k∈AX P F laid,m.get k=(BD P F laid).get k) {name:String} {g:Nat} {e:TypeId} {k:IntKind} {zs:List Int}
 (hn:P.globalNamed name=some g) (hat:Gg P F laid g=some (e,zs.map fun z=>Value.int k z)) (hlt:g<P.globals.size):Lib.TabIs P w name k zs:=by
 have hm:g∈AX P F laid:=by
  simp only [AX,List.mem_filter,List.mem_range]
  exact ⟨hlt,by rw [hat];rfl⟩
 obtain ⟨ib,h1,h2,⟨h3,h6⟩,h4,h5⟩:=hs.glob g hm
 have hmg:m.get g=.cells (zs.map fun z=>Value.int k z) e 0 true:=by rw [hg g hm,Hz hlt,hat]
 obtain ⟨cs,fr,e',hrow,hlim,_,hrel,_⟩:=GV hs h1 hmg
 have hl:=h6 _ _ _ _ hmg
 rw [List.length_map] at hl
 rw [h2] at hrow
 have hcs:cs=(zs.map fun z=>Value.int k z).toArray:=by
  apply Array.ext
  ·rw [← hlim,hl];simp
  ·intro i hi1 hi2
   have hi:i<(zs.map fun z=>Value.int k z).length:=by simpa using hi2
   obtain ⟨v',q1,q2⟩:=hrel i hi
   rw [h3,Nat.zero_add,Array.getElem?_eq_getElem hi1] at q1
   cases q1
   rw [getD_lt hi] at q2
   have hp:plain ((zs.map fun z=>Value.int k z)[i])=true:=by rw [List.getElem_map];rfl
   rw [q2.Cc hp]
   simp
 unfold Lib.TabIs World.var?
 simp only [hn,Option.bind_some,hrow,hcs]
theorem BI.one {ι:BN} {g:Nat→Nat} {v:Value} {ys:Array Value} (h:BI ι g [v] ys.toList):∃ v',ys=#[v']∧AA ι g v v':=by
 obtain ⟨v',k',e,h1,h2⟩:=h.Jt
 have:k'=[]:=List.eq_nil_of_length_eq_zero h2.1.symm
 subst this
 exact ⟨v',by cases ys;simp_all,h1⟩
theorem BI.two {ι:BN} {g:Nat→Nat} {u v:Value} {ys:Array Value} (h:BI ι g [u,v] ys.toList):∃ u' v',ys=#[u',v']∧AA ι g u u'∧AA ι g v v':=by
 obtain ⟨u',k',e,h1,h2⟩:=h.Jt
 obtain ⟨v',k'',e',h3,h4⟩:=h2.Jt
 have:k''=[]:=List.eq_nil_of_length_eq_zero h4.1.symm
 subst this;subst e'
 exact ⟨u',v',by cases ys;simp_all,h1,h3⟩
theorem mO {w:World} {k:Nat} {os:Array Obj}:Go.RowKit.Below w.heap.size w (Go.Sort.grow (w.drewN k) os):=Lib.below_grow _ w (Nat.le_refl _) k os
theorem xE (a:Option Addr) (cap:Nat) (w:World):Calls Tryz.prog 130 #[.slice a 0 cap] w fun e w'=>e=.returned (.string ⟨#[48]⟩)∧Go.RowKit.Below w.heap.size w w':=by
 go_enter Tryz.func130,Tryz.ntmps130
 go_wp2
 go_ret
 exact ⟨rfl,(Go.RowKit.Below.refl _ w).alloc (Nat.le_refl _) _⟩
section
variable {F:Nat} {laid:List (String×DataW Unit)}
structure oM (F:Nat) (laid:List (String×DataW Unit)):Prop where
 tab:∃ g e,Tryz.prog.globalNamed "internal/strconv.uint64pow10"=some g∧Gg Tryz.prog F laid g=some (e,Lib.pow10Tab.map fun z=>Value.int .u64 z)∧g<Tryz.prog.globals.size
theorem qR (ht:oM F laid) (he:Am.Enters Tryz.prog 52):Si Tryz.prog (AX Tryz.prog F laid) (BD Tryz.prog F laid) 52 rY:=by
 refine ⟨fun _ _ _=>rfl,he,fun ι m w xs ys v hs hg hl h=>?_⟩
 obtain ⟨g,e,t1,t2,t3⟩:=ht.tab
 have htab:=WT hs hg t1 t2 t3
 unfold rY at h
 split at h
 ·rename_i n
  split at h
  ·rename_i hn
   cases h
   obtain ⟨v',rfl,hv⟩:=BI.one hl
   have:v'=.int .i64 n:=by cases hv;rfl
   subst this
   refine ⟨rfl,(Tryz.strconv_Itoa n hn.1 hn.2 w htab).mono ?_⟩
   rintro e w' ⟨rfl,k,os,rfl⟩
   exact ⟨rfl,mO⟩
  ·cases h
 ·cases h
theorem Zl (he:Am.Enters Tryz.prog 55):Si Tryz.prog (AX Tryz.prog F laid) (BD Tryz.prog F laid) 55 Xz:=by
 refine ⟨fun _ _ _=>rfl,he,fun ι m w xs ys v hs hg hl h=>?_⟩
 unfold Xz at h
 split at h
 ·rename_i a b
  cases h
  obtain ⟨u',v',rfl,h1,h2⟩:=BI.two hl
  have e1:u'=.string a:=by cases h1;rfl
  have e2:v'=.string b:=by cases h2;rfl
  subst e1;subst e2
  refine ⟨rfl,(Tryz.strings_Compare a b w).mono ?_⟩
  rintro e w' ⟨rfl,rfl⟩
  exact ⟨rfl,Go.RowKit.Below.refl _ _⟩
 ·cases h
theorem nY (ht:oM F laid) (he:Am.Enters Tryz.prog 130):Si Tryz.prog (AX Tryz.prog F laid) (BD Tryz.prog F laid) 130 textF:=by
 refine ⟨fun _ _ _=>rfl,he,fun ι m w xs ys v hs hg hl h=>?_⟩
 obtain ⟨g,e,t1,t2,t3⟩:=ht.tab
 have htab:=WT hs hg t1 t2 t3
 unfold textF at h
 split at h
 ·rename_i a n gen
  split at h
  ·rename_i l hl1
   split at h
   ·rename_i zs hzs
    split at h
    ·rename_i hb
     cases h
     obtain ⟨v',rfl,hv⟩:=BI.one hl
     obtain ⟨hmap,hlim⟩:=Yf hzs
     obtain ⟨a',cap,rfl,hlen,hsp,hcell⟩:=UF hs hv rfl (fun b e=>by cases e) hl1
     have hzl:zs.length=n:=by rw [← hlen,hmap,List.length_map]
     refine ⟨rfl,?_⟩
     rcases Nat.eq_zero_or_pos n with h0|h0
     ·subst h0
      have:zs=[]:=List.eq_nil_of_length_eq_zero hzl
      subst this
      have e0:bs (Num.U7 [])=⟨#[48]⟩:=by
       show bs (Lib.decDigits 0)=_
       rw [Lib.decDigits_one (by decide)]
       rfl
      exact (xE a' cap w).mono fun e w' ⟨h1,h2⟩=>⟨by rw [e0];exact h1,h2⟩
     ·rcases hsp with ⟨_,h1⟩|⟨A,h1|h1⟩
      ·omega
      ·obtain ⟨rfl,hspot⟩:=h1
       obtain ⟨b,off,spot⟩:=A
       simp only at hspot
       subst hspot
       have hc:∀ j,j<zs.length→w.cell? ⟨b,off+j,none⟩=some (.int .u64 (zs.getD j 0:Int)):=fun j hj=>by
        have:=hcell _ rfl j (.int .u64 (zs.getD j 0:Int)) (by rw [hmap,List.getElem?_map,List.getElem?_eq_getElem hj];simp [List.getD,hj]) rfl
        rwa [addr_add] at this
       have hbl:b<w.heap.size:=by
        have:=hc 0 (by omega)
        unfold World.cell? at this
        rcases Nat.lt_or_ge b w.heap.size with h|h
        ·exact h
        ·simp [Array.getElem?_eq_none h] at this
       have ht:=a2q b off cap zs hlim (fun e=>by rw [e] at hzl;simp at hzl;omega) (by rw [hzl];exact hb) w hbl hc htab
       rw [hzl] at ht
       exact ht
      ·omega
    ·cases h
   ·cases h
  ·cases h
 ·cases h
end
end
end Go.Proofs.YtnjkoebfgcbbdaaGreatDoor
namespace Go.Vm
section
open Go.Am
section
variable {P:Program}
noncomputable def EH (P:Program) (F:Nat) (laid:List (String×DataW Unit)) (O:CJ):Env:=⟨P,O,AX P F laid,gam P F laid⟩
theorem a0g {O:CJ} {F:Nat} {laid:List (String×DataW Unit)} {ls:List (FuncId×XB)} {f:FuncId} {Fn:XB} {xs:List FV} {r:FV} (hO:O f=bG (AX P F laid) (BD P F laid) ls f) (hf:ls.lookup f=some Fn)
 (h:∀ m F' BF,Dv m F' xs BF→∃ v,Fn BF m=some v∧RF m F' r v):AB (EH P F laid O) f xs (.p r):=by
 intro m F' σ BF h1 h2
 have h2':Dv m F' xs BF:=Dv.YI h2
 obtain ⟨v,h3,h4⟩:=h m F' BF h2'
 have hg:∀ k∈AX P F laid,m.get k=(BD P F laid).get k:=fun k hk=>by
  obtain ⟨hlt,e,l,hgl⟩:=MQ hk
  have:=(h1.gl k l e (by simp only [EH,gam,if_pos hlt,hgl,Option.map_some])).2.1
  rw [this,Hz hlt,hgl]
 refine H8.Xv (F:=fun BF m=>open Classical in if ∀ k∈AX P F laid,m.get k=(BD P F laid).get k then (Fn BF m).map fun v=>(v,m) else none) (m':=m) (v:=v) (by simp only [EH,hO,bG,hf]) ?_
  ⟨_,_,_,F',σ,⟨rfl,rfl,rfl⟩,h1,.p h4,Step.refl _ _ _ _ _⟩
 rw [if_pos hg,h3];rfl
variable {H:Type} {enc:TypeId×Value→H} {W:World} {held:Bool}
def b1y (e:TypeId) (xs:List Value) (m:Mem):Option (Value×Mem):=match xs with
 |[.slice none 0 0,.int .i64 n]=>if 0<n∧n≤1000000 then some (A8 m e [] 0) else none
 |_=>none
def b8y (fg:FuncId) (e:TypeId) (O:CJ):CJ:=fun f=>if f=fg then some (b1y e) else O f
end
end
section
open Go.Am
section
variable {P:Program}
noncomputable def knO (G:List Nat) (M0:Mem) (fs:List FuncId) (O:CJ):CJ:=fun f=>if f∈fs then a1q G M0 fs f else O f
end
end
section
open Go.Am
section
variable {P:Program} {G:List Nat}
theorem wZ {ι:BN} {m:Mem} {w w':World} {x:HY} {obj:Obj} {ib:IB} (hs:DL P G ι m w) (hb:Go.RowKit.Below w.heap.size w w') (hB:w.heap.size≤ib.blk) (XH:w'.heap[ib.blk]?=some obj) (hx:QC P ι m.gen ib x (some obj))
 (hr:x.ro=false):∃ ι',Ext ι m w ι' (m.alloc x) w'∧DL P G ι' (m.alloc x) w'∧ι' m.size=some ib:=by
 have hget:∀ b,b<m.size→(m.alloc x).get b=m.get b:=fun b hb=>by rw [Mem.Bv,if_neg (by omega)]
 have hgen:∀ b,b<m.size→(m.alloc x).gen b=m.gen b:=fun b hb=>CS (hget b hb)
 have hro:∀ b,b<m.size→(m.alloc x).ro b=m.ro b:=fun b hb=>EM (hget b hb)
 have hheap:∀ c,c<w.heap.size→w'.heap[c]?=w.heap[c]?:=fun c hc=>hb.block c hc
 have hsz:=hb.size
 have hBlt:ib.blk<w'.heap.size:=by
  rcases Nat.lt_or_ge ib.blk w'.heap.size with h|h
  ·exact h
  ·rw [Array.getElem?_eq_none h] at XH;cases XH
 let ι':BN:=fun b=>if b=m.size then some ib else ι b
 have hle:Le ι m.gen ι' (m.alloc x).gen:=fun b Jc hb=>by
  have hlt:=(hs.dom b Jc hb).1
  refine ⟨by rw [hgen b hlt];exact Nat.le_refl _,Jc,?_,fun _=>rfl⟩
  show (if b=m.size then some ib else ι b)=some Jc
  rw [if_neg (by omega)];exact hb
 refine ⟨ι',⟨by simp [Mem.alloc],Nat.le_refl _,fun b hb _=>hget b hb,fun b hb _=>hget b hb,fun b hb=>hro b hb,hle,fun b Jc hb=>?_,fun b Jc hb=>?_,by omega,
  fun c hc _=>hheap c hc,hb.tape,hb.os,hb.output⟩,⟨fun b Jc hb=>?_,fun b Jc hb=>?_,fun b b' Jc ibb' hb hb' he=>?_,fun k hk=>?_⟩,if_pos rfl⟩
 ·change (if b=m.size then some ib else ι b)=some Jc at hb
  split at hb
  ·cases hb;exact .inr (by omega)
  ·exact .inl ⟨Jc,hb,rfl⟩
 ·change (if b=m.size then some ib else ι b)=some Jc at hb
  split at hb
  ·exact .inr (by omega)
  ·exact .inl ⟨Jc,hb⟩
 ·change (if b=m.size then some ib else ι b)=some Jc at hb
  split at hb
  ·cases hb;exact ⟨by simp [Mem.alloc];omega,by omega⟩
  ·have:=hs.dom b Jc hb
   exact ⟨by simp only [Mem.alloc];omega,by omega⟩
 ·change (if b=m.size then some ib else ι b)=some Jc at hb
  split at hb
  ·rename_i e;cases hb
   rw [Mem.Bv,if_pos e.symm]
   rw [XH]
   exact hx.mono hle
  ·have:=hs.dom b Jc hb
   rw [hget b this.1,hheap _ this.2]
   exact (hs.blk b Jc hb).mono hle
 ·change (if b=m.size then some ib else ι b)=some Jc at hb
  change (if b'=m.size then some ib else ι b')=some ibb' at hb'
  split at hb<;>split at hb'
  ·exact .inl (by omega)
  ·cases hb;have:=hs.dom b' ibb' hb';omega
  ·cases hb';have:=hs.dom b Jc hb;omega
  ·rcases hs.inj b b' Jc ibb' hb hb' he with h|⟨h1,h2⟩
   ·exact .inl h
   ·exact .inr ⟨by rw [hro b (hs.dom b Jc hb).1];exact h1,by rw [hro b' (hs.dom b' ibb' hb').1];exact h2⟩
 ·obtain ⟨Jc,h1,h2,h3,h4,h5⟩:=hs.glob k hk
  have hlt:=(hs.dom k Jc h1).1
  refine ⟨Jc,?_,h2,⟨h3.1,by rw [hget k hlt];exact h3.2⟩,by rw [hgen k hlt];exact h4,by rw [hro k hlt];exact h5⟩
  show (if k=m.size then some ib else ι k)=some Jc
  rw [if_neg (by omega)];exact h1
theorem bT {ι:BN} {m:Mem} {w w':World} {e:TypeId} {l:List Value} {v:Value} (hs:DL P G ι m w) (hb:Go.RowKit.Below w.heap.size w w') (hl:l≠[]) (hp:l.all Am.plainCell=true) (h1:P.cellsOf e=1) (ho:w'.ownsRow w.heap.size e 1 v l.length l) :
 Post P G ι m w (A8 m e l l.length).1 (A8 m e l l.length).2 v w':=by
 obtain ⟨-,h⟩:=ho
 rcases h with ⟨_,h⟩|⟨g,cap,cur,rfl,q1,q2,q3,q4,q5,q6⟩
 ·exact absurd (List.eq_nil_of_length_eq_zero h) hl
 rw [Nat.mul_one] at q5 q6
 obtain ⟨ι',hext,Dp,hbk⟩:=wZ (x:=.cells l e 0 false) (ib:=⟨g,0,cur.size,P.cellsOf e⟩) hs hb q1 q2
  ⟨fun _=>rfl,rfl,rfl,fun i hi=>by
   have hpi:Am.plainCell (l.getD i undef)=true:=by
    rw [List.getD_eq_getElem?_getD,List.getElem?_eq_getElem hi]
    exact List.all_eq_true.1 hp _ (List.getElem_mem hi)
   refine ⟨l.getD i undef,?_,AA.plainCell hpi⟩
   have e1:cur.toList[i]?=some (l.getD i undef):=by
    have:(cur.toList.take l.length)[i]?=cur.toList[i]?:=by rw [List.getElem?_take,if_pos hi]
    rw [← this,q6,List.getD_eq_getElem?_getD,List.getElem?_eq_getElem hi];rfl
   simpa using e1,fun _ j _=>by simp⟩ rfl
 refine ⟨ι',hext,Dp,.sl _ _ _ _ _ _ ⟨_,hbk,Nat.zero_le _,q3,fun _=>⟨rfl,rfl,.inr ⟨rfl,?_⟩⟩⟩⟩
 show 0+cap*P.cellsOf e≤cur.size
 rw [h1,q5];omega
abbrev FrF:=List Value→Option (List Value)
def XJ (e:TypeId) (Fn:FrF) (BF:List Value) (m:Mem):Option (Value×Mem):=match Fn BF with
 |some []=>some (.slice none 0 0,m)
 |some (v::l)=>some (A8 m e (v::l) (l.length+1))
 |none=>none
open Classical in
noncomputable def frO (G:List Nat) (M0:Mem) (ff:FuncId) (e:TypeId) (Fn:FrF) (O:CJ):CJ:=fun f =>
 if f=ff then some fun BF m=>if ∀ k∈G,m.get k=M0.get k then XJ e Fn BF m else none else O f
theorem a1a {M0:Mem} {ff f:FuncId} {e:TypeId} {Fn:FrF} {O:CJ} (h:f≠ff):frO G M0 ff e Fn O f=O f:=if_neg h
theorem vU {M0:Mem} {ff:FuncId} {e:TypeId} {Fn:FrF} {O:CJ} (hO:FT P G O) (he:Am.Enters P ff) (h1:P.cellsOf e=1)
 (hc:∀ ι m w BF (as':Array Value) l,DL P G ι m w→(∀ k∈G,m.get k=M0.get k)→BI ι m.gen BF as'.toList→Fn BF=some l→l.all Am.plainCell=true ∧
  Calls P ff as' w fun r w'=>∃ v,r=.returned v∧w'.ownsRow w.heap.size e 1 v l.length l∧(l=[]→v=.slice none 0 0)∧Go.RowKit.Below w.heap.size w w'):FT P G (frO G M0 ff e Fn O):=by
 intro f Fo hf
 by_cases h:f=ff
 ·subst h
  unfold frO at hf
  rw [if_pos rfl] at hf
  cases hf
  refine ⟨fun BF m v m' hv ι w as' hs hrel=>?_,fun BF m v m' hv=>?_,he,Vy.a3f fun BF m v m' hv=>by
   try simp only at hv
   split at hv
   ·unfold XJ at hv
    split at hv
    ·cases hv;rfl
    ·cases hv;rfl
    ·cases hv
   ·cases hv⟩
  ·simp only at hv
   split at hv
   ·rename_i hg
    unfold XJ at hv
    cases hl:Fn BF with
    |none=>rw [hl] at hv;cases hv
    |some l =>
     obtain ⟨hp,hcall⟩:=hc ι m w BF as' l hs hg hrel hl
     rw [hl] at hv
     cases l with
     |nil =>
      cases hv
      refine hcall.mono ?_
      rintro r w' ⟨v,rfl,_,h3,h4⟩
      have:=h3 rfl
      subst this
      exact ⟨_,rfl,Post.below hs h4 rfl⟩
     |cons a l =>
      cases hv
      refine hcall.mono ?_
      rintro r w' ⟨v,rfl,h2,_,h4⟩
      exact ⟨v,rfl,bT hs h4 (by simp) hp h1 h2⟩
   ·cases hv
  ·simp only at hv
   split at hv
   ·unfold XJ at hv
    split at hv
    ·cases hv;exact AV.refl _
    ·cases hv;exact AV.alloc _ _
    ·cases hv
   ·cases hv
 ·rw [a1a h] at hf
  exact hO f Fo hf
theorem a9j {F:Nat} {laid:List (String×DataW Unit)} {O O0:CJ} {ff:FuncId} {e:TypeId} {Fn:FrF} {xs cs:List FV} {l:List Value} (hO:O ff=frO (AX P F laid) (BD P F laid) ff e Fn O0 ff) (h:∀ m F' BF,Dv m F' xs BF→Fn BF=some l)
 (hr:∀ m F',Dv m F' cs l) (hc:l.all BO=true):BG (EH P F laid O) ff xs e cs l.length l.isEmpty:=by
 intro m F' σ BF h1 h2
 have h2':Dv m F' xs BF:=Dv.YI h2
 have h3:=h m F' BF h2'
 have hg:∀ k∈AX P F laid,m.get k=(BD P F laid).get k:=fun k hk=>by
  obtain ⟨hlt,e,l,hgl⟩:=MQ hk
  have:=(h1.gl k l e (by simp only [EH,gam,if_pos hlt,hgl,Option.map_some])).2.1
  rw [this,Hz hlt,hgl]
 have hO':(EH P F laid O).O ff=some (fun BF m=>open Classical in if ∀ k∈AX P F laid,m.get k=(BD P F laid).get k then XJ e Fn BF m else none):=by
  show O ff=_
  rw [hO];unfold frO;rw [if_pos rfl]
 cases l with
 |nil =>
  have hcs:cs=[]:=by cases hr m F';rfl
  subst hcs
  obtain ⟨c1,c2⟩:=RY e h1
  refine H8.Xv (m':=m) (v:=.slice none 0 0) hO' ?_ ⟨.vec 0 0 0 0,[(0,.vec e [] 0 true)],1,F',_,⟨rfl,rfl,rfl⟩,c1,dQ e [] 0,c2⟩
  rw [if_pos hg];unfold XJ;rw [h3]
 |cons a l =>
  obtain ⟨c1,c2,_,c4⟩:=PE (e:=e) (l.length+1) h1 (hr m F') hc
  refine H8.Xv (m':=(A8 m e (a::l) (l.length+1)).2) (v:=(A8 m e (a::l) (l.length+1)).1) hO' ?_ ⟨_,_,_,F',_,⟨rfl,rfl,rfl⟩,c1,c4,c2⟩
  rw [if_pos hg];unfold XJ;rw [h3]
end
end
section
open Go.Am
open Go.Sort (putRow putCells mapBlock onCells Holds grow size_putRow size_grow)
section
variable {P:Program} {G:List Nat}
def iV (z:Int):Value:=.int .i64 z
def TP:List Value→Option (List Int)
 |[]=>some []
 | .int .i64 n::l=>(TP l).map (n::·)
 |_::_=>none
theorem Ut:∀ zs:List Int,TP (zs.map iV)=some zs
 |[]=>rfl
 |z::zs=>by simp only [List.map_cons,iV,TP];rw [Ut zs];rfl
theorem Zr:∀ {l:List Value} {zs:List Int},TP l=some zs→l=zs.map iV
 |[],zs,h=>by cases h;rfl
 |v::l,zs,h=>by
  unfold TP at h
  split at h
  ·rename_i he;cases he
  ·rename_i n l' he
   cases he
   rw [Option.map_eq_some_iff] at h
   obtain ⟨zs',h1,rfl⟩:=h
   rw [Zr h1];rfl
  ·cases h
abbrev InF:=List Int→List Value→Option (List Int×Option Nat)
def Z8 (e:TypeId) (Fn:InF) (BF:List Value) (m:Mem):Option (Value×Mem):=match BF with
 | .slice none 0 0::rest=>match Fn [] rest with
  |some ([],none)=>some (.tuple #[],m)
  |_=>none
 | .slice (some ⟨b,0,none⟩) n g::rest=>match m.get b with
  | .cells vs e' g' false =>
   if g=g'∧e=e'∧vs.length=n∧0<n∧rest.all Am.plainCell=true then
    match TP vs with
    |some zs=>match Fn zs rest with
     |some (zs',none)=>if zs'.length=n then some (.tuple #[],m.put b (.cells (zs'.map iV) e g' false)) else none
     |some (zs',some k)=>if zs'.length=n∧k≤n then some (.slice (some ⟨b,0,none⟩) k (g'+1),m.put b (.cells ((zs'.take k).map iV) e (g'+1) false)) else none
     |none=>none
    |none=>none
   else none
  |_=>none
 |_=>none
inductive sV (e:TypeId) (Fn:InF) (m:Mem):List Value→Value→Mem→Prop
 |nil {rest:List Value} (h:Fn [] rest=some ([],none)):sV e Fn m (.slice none 0 0::rest) (.tuple #[]) m
 |put {b n g:Nat} {rest:List Value} {zs zs':List Int} (hm:m.get b=.cells (zs.map iV) e g false) (hn:zs.length=n) (h0:0<n) (hr:rest.all Am.plainCell=true) (h:Fn zs rest=some (zs',none)) (hl:zs'.length=n) :
  sV e Fn m (.slice (some ⟨b,0,none⟩) n g::rest) (.tuple #[]) (m.put b (.cells (zs'.map iV) e g false))
 |cut {b n g k:Nat} {rest:List Value} {zs zs':List Int} (hm:m.get b=.cells (zs.map iV) e g false) (hn:zs.length=n) (h0:0<n) (hr:rest.all Am.plainCell=true) (h:Fn zs rest=some (zs',some k)) (hl:zs'.length=n) (hk:k≤n) :
  sV e Fn m (.slice (some ⟨b,0,none⟩) n g::rest) (.slice (some ⟨b,0,none⟩) k (g+1)) (m.put b (.cells ((zs'.take k).map iV) e (g+1) false))
theorem YH {e:TypeId} {Fn:InF} {BF:List Value} {m m':Mem} {v:Value} (h:Z8 e Fn BF m=some (v,m')):sV e Fn m BF v m':=by
 unfold Z8 at h
 split at h
 ·split at h
  ·rename_i h1;cases h;exact .nil h1
  ·cases h
 ·rename_i b n g rest
  split at h
  ·rename_i vs e' g' hm
   split at h
   ·rename_i hc
    obtain ⟨rfl,rfl,h1,h2,h3⟩:=hc
    split at h
    ·rename_i zs hz
     have hv:=Zr hz
     subst hv
     rw [List.length_map] at h1
     split at h
     ·rename_i zs' hf
      split at h
      ·rename_i hl;cases h;exact .put hm h1 h2 h3 hf hl
      ·cases h
     ·rename_i zs' k hf
      split at h
      ·rename_i hl;cases h;exact .cut hm h1 h2 h3 hf hl.1 hl.2
      ·cases h
     ·cases h
    ·cases h
   ·cases h
  ·cases h
 ·cases h
open Classical in
noncomputable def xO (G:List Nat) (M0:Mem) (ff:FuncId) (e:TypeId) (Fn:InF) (O:CJ):CJ:=fun f=>if f=ff then some (fun BF m=>if ∀ k∈G,m.get k=M0.get k then Z8 e Fn BF m else none) else O f
theorem fH {M0:Mem} {ff f:FuncId} {e:TypeId} {Fn:InF} {O:CJ} (h:f≠ff):xO G M0 ff e Fn O f=O f:=if_neg h
theorem getElem!_toArray (zs:List Int) (j:Nat):zs.toArray[j]! =(zs[j]?).getD 0:=by
 rw [getElem!_def]
 by_cases h:j<zs.length
 ·simp [h]
 ·simp [h]
theorem Ql {ι:BN} {m:Mem} {w:World} {b g g2 q:Nat} {ib:IB} {e:TypeId} {zs zs' ys:List Int} {os:Array Obj} (hs:DL P G ι m w) (hb:ι b=some ib) (hm:m.get b=.cells (zs.map iV) e g false) (hl:zs'.length=zs.length) (hy:∃ k,ys=zs'.take k) (hg:g≤g2) :
 ∃ ι',Ext ι m w ι' (m.put b (.cells (ys.map iV) e g2 false)) (grow (putRow iV (Sort.ahead w q) ib.blk ib.sh zs'.toArray) os)∧DL P G ι' (m.put b (.cells (ys.map iV) e g2 false)) (grow (putRow iV (Sort.ahead w q) ib.blk ib.sh zs'.toArray) os)∧ι' b=some ib:=by
 obtain ⟨cs,fr,e',hrow,hlim,QL,hrel,hfr0⟩:=GV hs hb hm
 obtain ⟨rfl,hfr⟩:=hfr0 rfl
 have hlt:ib.blk<w.heap.size:=(hs.dom b ib hb).2
 have XH:(grow (putRow iV (Sort.ahead w q) ib.blk ib.sh zs'.toArray) os).heap[ib.blk]?=some (.cells (putCells iV ib.sh zs'.toArray cs) e' fr):=by
  show ((putRow iV (Sort.ahead w q) ib.blk ib.sh zs'.toArray).heap++os)[ib.blk]?=_
  rw [Array.getElem?_append_left (by rw [size_putRow];exact hlt)]
  simp only [putRow,mapBlock,Sort.heap_ahead,Array.getElem?_modify,hrow]
  simp [onCells]
 refine Iq (x:=.cells (ys.map iV) e' g2 false) (ib':=ib) hs hb (Mem.NQ hm) rfl ⟨by rw [Mem.F8 hm];exact hg,fun _=>rfl⟩ (.inl rfl) XH (fun c hc hne=>?_) ?_ rfl rfl rfl (fun ι' g' _=>?_)
 ·show ((putRow iV (Sort.ahead w q) ib.blk ib.sh zs'.toArray).heap++os)[c]?=_
  rw [Array.getElem?_append_left (by rw [size_putRow];exact hc)]
  simp only [putRow,mapBlock,Sort.heap_ahead,Array.getElem?_modify]
  rw [if_neg (fun e=>hne e.symm)]
 ·rw [size_grow,size_putRow];exact Nat.le_add_right _ _
 ·obtain ⟨k,rfl⟩:=hy
  refine ⟨fun _=>rfl,by rw [hlim];simp [putCells],QL,fun i hi=>?_,fun _ j hj=>hfr j (by simpa [putCells] using hj)⟩
  rw [List.length_map,List.length_take] at hi
  have hi':i<zs'.length:=by omega
  obtain ⟨v',h2,_⟩:=hrel i (by rw [List.length_map];omega)
  refine ⟨iV zs'[i],?_,?_⟩
  ·simp only [putCells,Array.getElem?_mapIdx,h2,Option.map_some]
   rw [if_pos ⟨by omega,by simp;omega⟩,show ib.sh+i-ib.sh=i by omega,getElem!_toArray,List.getElem?_eq_getElem hi']
   rfl
  ·have e1:((zs'.take k).map iV).getD i undef=iV zs'[i]:=by
    rw [List.getD_eq_getElem?_getD,List.getElem?_map,List.getElem?_take,if_pos (by omega),List.getElem?_eq_getElem hi'];rfl
   rw [e1];exact .int _ _
theorem holds_of {ι:BN} {m:Mem} {w:World} {b g:Nat} {ib:IB} {e:TypeId} {zs:List Int} (hs:DL P G ι m w) (hb:ι b=some ib) (hm:m.get b=.cells (zs.map iV) e g false):Holds iV w ib.blk ib.sh zs.toArray:=by
 obtain ⟨cs,fr,e',hrow,hlim,QL,hrel,hfr0⟩:=GV hs hb hm
 obtain ⟨rfl,hfr⟩:=hfr0 rfl
 intro j hj
 have hj':j<zs.length:=by simpa using hj
 obtain ⟨v',h2,h3⟩:=hrel j (by rw [List.length_map];exact hj')
 have e1:(zs.map iV).getD j undef=iV zs[j]:=by
  rw [List.getD_eq_getElem?_getD,List.getElem?_map,List.getElem?_eq_getElem hj'];rfl
 rw [e1] at h3
 have e2:=h3.DT (v:=iV zs[j]) rfl
 subst e2
 refine ⟨?_,?_⟩
 ·rw [Am.cell_of_row hrow,getElem!_toArray,List.getElem?_eq_getElem hj'];exact h2
 ·rw [Am.frozen_of_row hrow]
  have:=hfr (ib.sh+j) (Array.getElem?_eq_some_iff.1 h2).1
  by_cases h4:fr.1≤ib.sh+j
  ·have h5:¬ (ib.sh+j<fr.2):=fun h5=>this ⟨h4,h5⟩
   simp [h5]
  ·simp [h4]
theorem Yu (x:Value) (l:List Value):(⟨x::l⟩:Array Value)=#[x]++l.toArray:=by simp
theorem aY {M0:Mem} {ff:FuncId} {e:TypeId} {Fn:InF} {O:CJ} (hO:FT P G O) (he:Am.Enters P ff) (h1:P.cellsOf e=1)
 (hc:∀ (blk off cap:Nat) (zs zs':List Int) (r:Option Nat) (rest:List Value) (w:World),Fn zs rest=some (zs',r)→zs'.length=zs.length→(∀ k,r=some k→k≤zs.length)→Holds iV w blk off zs.toArray→blk<w.heap.size→zs.length≤cap→0<zs.length →
  Calls P ff (#[.slice (some ⟨blk,off,none⟩) zs.length cap]++rest.toArray) w fun x w'=>x=.returned (match r with|none=>.tuple #[]|some k=>.slice (some ⟨blk,off,none⟩) k cap)∧∃ q os,w'=grow (putRow iV (Sort.ahead w q) blk off zs'.toArray) os)
 (hn:∀ (rest:List Value) (rest':Array Value) (w:World),Fn [] rest=some ([],none)→rest'.size=rest.length→Calls P ff (#[.slice none 0 0]++rest') w fun x w'=>x=.returned (.tuple #[])∧w'=w):FT P G (xO G M0 ff e Fn O):=by
 intro f Fo hf
 by_cases h:f=ff
 ·subst h
  unfold xO at hf
  rw [if_pos rfl] at hf
  cases hf
  refine ⟨fun BF m v m' hv ι w as' hs hrel=>?_,fun BF m v m' hv=>?_,he,Vy.none fun n lb m=>by simp only [Yn,SL,Z8];split<;>rfl⟩
  ·simp only at hv
   split at hv
   case isFalse=>cases hv
   have hr:=YH hv
   obtain ⟨as'⟩:=as'
   cases hr with
   |nil h =>
    obtain ⟨v',k',rfl,h2,h3⟩:=hrel.Jt
    cases h2
    rw [Yu]
    refine (hn _ k'.toArray w h (by simpa using h3.1.symm)).mono ?_
    rintro x w' ⟨rfl,rfl⟩
    exact ⟨_,rfl,Post.same hs (.tuple [] [] rfl fun i hi=>absurd hi (by simp))⟩
   |put hm hn2 h0 hp h hl =>
    rename_i b n g rest zs zs'
    subst hn2
    obtain ⟨v',k',rfl,h2,h3⟩:=hrel.Jt
    have e3:k'=rest:=by
     refine (SG h3.1 fun i hi=>?_).symm
     exact ((h3.2 i hi).DT (List.all_eq_true.1 hp _ (getD_mem hi))).symm
    subst e3
    cases h2 with
    |sl _ _ _ _ a' cap hsr =>
     obtain ⟨ib,hb,_,hcap,hcur⟩:=hsr
     obtain ⟨c1,c2,c3⟩:=hcur (Mem.F8 hm).symm
     replace c3:a'.off=0+ib.sh∧a'.off+cap*ib.pF≤ib.lim:=c3.resolve_left (by omega)
     obtain ⟨blk,off,sp⟩:=a'
     simp only at c1 c2 c3
     subst c1;subst c2
     have c4:off=ib.sh:=by omega
     subst c4
     rw [Yu]
     refine (hc ib.blk ib.sh cap zs zs' none k' w h hl (fun k hk=>by cases hk) (holds_of hs hb hm) (hs.dom b ib hb).2 hcap h0).mono ?_
     rintro x w' ⟨rfl,q,os,rfl⟩
     obtain ⟨ι',q1,q2,q3⟩:=Ql (q:=q) (os:=os) hs hb hm hl ⟨zs'.length,(List.take_length).symm⟩ (Nat.le_refl g)
     exact ⟨_,rfl,ι',q1,q2,.tuple [] [] rfl fun i hi=>absurd hi (by simp)⟩
   |cut hm hn2 h0 hp h hl hk =>
    rename_i b n g k rest zs zs'
    subst hn2
    obtain ⟨v',k',rfl,h2,h3⟩:=hrel.Jt
    have e3:k'=rest:=by
     refine (SG h3.1 fun i hi=>?_).symm
     exact ((h3.2 i hi).DT (List.all_eq_true.1 hp _ (getD_mem hi))).symm
    subst e3
    cases h2 with
    |sl _ _ _ _ a' cap hsr =>
     obtain ⟨ib,hb,_,hcap,hcur⟩:=hsr
     obtain ⟨c1,c2,c3⟩:=hcur (Mem.F8 hm).symm
     replace c3:a'.off=0+ib.sh∧a'.off+cap*ib.pF≤ib.lim:=c3.resolve_left (by omega)
     obtain ⟨blk,off,sp⟩:=a'
     simp only at c1 c2 c3
     subst c1;subst c2
     obtain ⟨c3,c4⟩:=c3
     have c5:off=ib.sh:=by omega
     subst c5
     rw [Yu]
     refine (hc ib.blk ib.sh cap zs zs' (some k) k' w h hl (fun j hj=>by cases hj;exact hk) (holds_of hs hb hm) (hs.dom b ib hb).2 hcap h0).mono ?_
     rintro x w' ⟨rfl,q,os,rfl⟩
     obtain ⟨ι',q1,q2,q3⟩:=Ql (q:=q) (os:=os) hs hb hm hl ⟨k,rfl⟩ (Nat.le_succ g)
     exact ⟨_,rfl,ι',q1,q2,.sl _ _ _ _ _ _ ⟨ib,q3,by rw [Mem.gen,Mem.get_put,if_pos rfl];exact Nat.le_refl _,by omega,fun _=>⟨rfl,rfl,.inr ⟨(Nat.zero_add _).symm,c4⟩⟩⟩⟩
  ·simp only at hv
   split at hv
   case isFalse=>cases hv
   have hr:=YH hv
   cases hr with
   |nil=>exact AV.refl _
   |put hm=>exact AV.put (Mem.NQ hm) rfl
   |cut hm=>exact AV.put (Mem.NQ hm) rfl
 ·rw [fH h] at hf
  exact hO f Fo hf
end
end
section
open Go.Am
section
variable {P:Program} {F0:Nat} {laid:List (String×DataW Unit)} {O O0:CJ} {ff:FuncId} {Fn:InF} {L:Frame} {H:Heap} {nx:Nat} {Q:PV→Heap→Nat→Prop} {w:Bool}
variable {dst:Option Tmp} {ty:TypeId} {pos:String} {af:Array Edge} {gd:Option (Nat×Bool)}
theorem Dv.ints {m:Mem} {F:Nat→Prop}:∀ {zs:List Int} {vs:List Value},Dv m F (cells zs) vs→vs=zs.map iV
 |[],_,h=>by cases h;rfl
 |z::zs,_,h=>by
  cases h with
  |cons h t=>cases h;rw [Dv.ints t];rfl
theorem Dv.ofInts (m:Mem) (F:Nat→Prop):∀ zs:List Int,Dv m F (cells zs) (zs.map iV)
 |[]=>.nil
 |z::zs=>.cons (.int .i64 z) (Dv.ofInts m F zs)
theorem jh (zs:List Int):(zs.map iV).all BO=true:=by
 rw [List.all_eq_true]
 intro x hx
 obtain ⟨z,_,rfl⟩:=List.mem_map.1 hx
 rfl
theorem gJ {m:Mem} {F:Nat→Prop} {σ:Nat→Value} (h1:Ctx (EH P F0 laid O).Γ m F σ H nx):∀ k∈AX P F0 laid,m.get k=(BD P F0 laid).get k:=fun k hk=>by
 obtain ⟨hlt,e,l,hgl⟩:=MQ hk
 have:=(h1.gl k l e (by simp only [EH,gam,if_pos hlt,hgl,Option.map_some])).2.1
 rw [this,Hz hlt,hgl]
theorem sS {E:Env} {m:Mem} {F:Nat→Prop} {σ:Nat→Value} {t:Tr Value} {b n:Nat} {e:TypeId} {zs:List Int} {z:Bool} {args:List Operand} {rest:List FV} (h1:Ctx E.Γ m F σ H nx) (h2:RL m F (htag H) σ nx L t)
 (ha:evs E.Γ L args=some (.vec b n 0 n::rest.map .p)) (hb:hget H b=some (.vec e (cells zs) n z)) (h0:0<n) :
 ∃ c g us,args.map (ev t)=.slice (some ⟨c,0,none⟩) n g::us∧Dv m F rest us∧σ b=.slice (some ⟨c,0,none⟩) n g∧c<m.size∧¬ F c∧m.get c=.cells (zs.map iV) e g false:=by
 have hr:=PX h1 h2 ha
 obtain ⟨_,hrb⟩:=h1.hp b _ hb
 rcases hrb with ⟨_,r2,_⟩|⟨c,g,vs,r1,r2,r3,r4,r5,r6,r7⟩
 ·omega
 have hv:=Dv.ints r5
 subst hv
 generalize args.map (ev t)=BF at hr
 cases hr with
 |cons h3 h4 =>
  rename_i v us
  refine ⟨c,g,us,?_,Dv.YI h4,r1,r2,r3,r4⟩
  cases h3 with
  |vec hb' hc h =>
   have:=(h n (by simp [htag,hb,HB.tag])).2 rfl
   rw [r1] at this
   simp only [EW] at this
   rw [this]
theorem Aa.b0t {fo:Operand} {args:Array Operand} {aT:Array TypeId} {b n k:Nat} {e:TypeId} {zs zs':List Int} {z:Bool} {rest:List FV} {rv:List Value} (hO:O ff=xO (AX P F0 laid) (BD P F0 laid) ff e Fn O0 ff)
 (hf:Bh (EH P F0 laid O).Γ L fo=some (.clo ff [] [])) (ha:evs (EH P F0 laid O).Γ L args.toList=some (.vec b n 0 n::rest.map .p)) (hb:hget H b=some (.vec e (cells zs) n z)) (hrv:∀ m F us,Dv m F rest us→us=rv) (hpl:rv.all Am.plainCell=true)
 (hn:zs.length=n) (h0:0<n) (hF:Fn zs rv=some (zs',some k)) (hl:zs'.length=n) (hk:k≤n)
 (q:Q (.vec nx k 0 k) ((nx,.vec e (cells (zs'.take k)) k false)::hdel H b) (nx+1)):Aa (EH P F0 laid O) true ⟨dst,.call { callee:=.value fo,args:=args,argTypes:=aT },ty,pos,af,gd⟩ L H nx Q:=by
 intro m F σ t h1 h2
 obtain ⟨c,g,us,e1,e2,e3,e4,e5,e6⟩:=sS h1 h2 ha hb h0
 have e7:=hrv m F us e2
 subst e7
 have hfv:=BK h1 h2 hf
 generalize hfe:ev t fo=fv at hfv
 cases hfv with
 |clo r1 r2 =>
  cases r1;cases r2
  have hput':∀ d,c≠d→(m.put c (.cells ((zs'.take k).map iV) e (g+1) false)).get d=m.get d:=fun d hd=>by rw [Mem.get_put,if_neg hd]
  obtain ⟨c1,c2⟩:=h1.move (m':=m.put c (.cells ((zs'.take k).map iV) e (g+1) false)) (s':=.slice (some ⟨c,0,none⟩) k (g+1)) (x':=.vec e (cells (zs'.take k)) k false) hb (Nat.le_refl _) (fun d _ hd=>hput' d fun e'=>hd (by rw [e3,e'];rfl)) (fun k' k1 k2 k3=>by
   have:=k3 c (by rw [e3];rfl)
   simp only [Mem.put];omega) (fun d hd=>.inl (by rw [e3];exact hd)) (.inr ⟨c,g+1,_,rfl,e4,e5,by rw [Mem.get_put,if_pos rfl],Dv.ofInts _ _ _,jh _,fun _=>rfl⟩)
  refine F5.call (f:=ff) (BF:=args.toList.map (ev t)) (fun call=>by simp only [Ce,hfe];simp) (H8.Xv (v:=.slice (some ⟨c,0,none⟩) k (g+1)) (m':=m.put c (.cells ((zs'.take k).map iV) e (g+1) false)) (show O ff=_ by rw [hO];exact if_pos rfl) ?_ ⟨_,_,_,F,_,q,c1,?_,c2,fun h=>by cases h⟩)
  ·rw [if_pos (gJ h1),e1]
   simp only [Z8,e6]
   rw [if_pos ⟨trivial,trivial,by rw [List.length_map];exact hn,h0,hpl⟩,Ut]
   simp only [hF]
   rw [if_pos ⟨hl,hk⟩]
  ·refine .vec (Nat.lt_succ_self _) rfl fun j hj=>?_
   rw [He,if_pos rfl] at hj
   simp only [HB.tag,Option.some.injEq,Tg.vec.injEq] at hj
   refine ⟨by omega,fun _=>?_⟩
   rw [upd_same]
   exact rfl
theorem Aa.b2r {fo:Operand} {args:Array Operand} {aT:Array TypeId} {b n:Nat} {e:TypeId} {zs zs':List Int} {z:Bool} {rest:List FV} {rv:List Value} (hO:O ff=xO (AX P F0 laid) (BD P F0 laid) ff e Fn O0 ff)
 (hf:Bh (EH P F0 laid O).Γ L fo=some (.clo ff [] [])) (ha:evs (EH P F0 laid O).Γ L args.toList=some (.vec b n 0 n::rest.map .p)) (hb:hget H b=some (.vec e (cells zs) n z)) (hrv:∀ m F us,Dv m F rest us→us=rv) (hpl:rv.all Am.plainCell=true)
 (hn:zs.length=n) (h0:0<n) (hF:Fn zs rv=some (zs',none)) (hl:zs'.length=n)
 (q:Q (.Ee []) (hput H b (.vec e (cells zs') n z)) nx):Aa (EH P F0 laid O) true ⟨dst,.call { callee:=.value fo,args:=args,argTypes:=aT },ty,pos,af,gd⟩ L H nx Q:=by
 intro m F σ t h1 h2
 obtain ⟨c,g,us,e1,e2,e3,e4,e5,e6⟩:=sS h1 h2 ha hb h0
 have e7:=hrv m F us e2
 subst e7
 have hz:n=0→z=false:=fun h=>by omega
 have hfv:=BK h1 h2 hf
 generalize hfe:ev t fo=fv at hfv
 cases hfv with
 |clo r1 r2 =>
  cases r1;cases r2
  have hput':∀ d,c≠d→(m.put c (.cells (zs'.map iV) e g false)).get d=m.get d:=fun d hd=>by rw [Mem.get_put,if_neg hd]
  obtain ⟨c1,c2⟩:=h1.change (m':=m.put c (.cells (zs'.map iV) e g false)) (s':=σ b) (x':=.vec e (cells zs') n z) hb (UC.refl _) (fun _=>rfl) (Nat.le_refl _) (fun d _ hd=>hput' d fun e'=>hd (by rw [e3,e'];rfl)) (fun k' k1 k2 k3=>by
   have:=k3 c (by rw [e3];rfl)
   simp only [Mem.put];omega) (fun d hd=>.inl hd) (.inr ⟨c,g,_,e3,e4,e5,by rw [Mem.get_put,if_pos rfl],Dv.ofInts _ _ _,jh _,hz⟩)
  refine F5.call (f:=ff) (BF:=args.toList.map (ev t)) (fun call=>by simp only [Ce,hfe];simp) (H8.Xv (v:=.tuple #[]) (m':=m.put c (.cells (zs'.map iV) e g false)) (show O ff=_ by rw [hO];exact if_pos rfl) ?_ ⟨_,_,_,F,_,q,c1,.Ee .nil,c2,fun h=>by cases h⟩)
  rw [if_pos (gJ h1),e1]
  simp only [Z8,e6]
  rw [if_pos ⟨trivial,trivial,by rw [List.length_map];exact hn,h0,hpl⟩,Ut]
  simp only [hF]
  rw [if_pos hl]
def b6a (E:Env) (g:FuncId) (ac:List PV) (Hc:Heap) (k:Nat) (e:TypeId) (cs:List FV) (n:Nat) (z:Bool):Prop:=Ba E g ac Hc k fun r H' nx'=>r=.vec k n 0 n∧H'=(k,.vec e cs n z)::Hc∧nx'=k+1
end
end
end Go.Vm
namespace Go.Proofs.YtnjkoebfgcbbdaaGreatDoor
section
open Go Go.ChangeShapes Go.WideShapes Go.ChangeAt Go.WideMaps Go.WideElems Go.RowKit
def DX:List (String×DataW Unit):=[("math/bits.deBruijn32tab",Rows.laid_math_bits_deBruijn32tab),("math/bits.deBruijn64tab",Rows.laid_math_bits_deBruijn64tab),("internal/strconv.uint64pow10",Rows.laid_internal_strconv_uint64pow10)]
theorem own:ownKnob Tryz.prog.godebug=none:=by kernel_rfl
theorem laidOut:laidOutB Tryz.prog=true:=by kernel_rfl
theorem door_met (os:Os) (args:Array Value):laidMetH Tryz.prog DX ((World.doorLaid Tryz.prog 400 os).forCall (fun _ _=>0) ⟨#[],args,[]⟩).memory :=
 laidMetH_of_parts3 (fuel:=8) (laidMet_of_run' 8 (by kernel_rfl) (by kernel_rfl)) (by kernel_rfl) (by kernel_rfl)
theorem zL {W:World} (h:laidMetH Tryz.prog DX W):laidMet Tryz.prog DX W:=by
 rw [MakeChecks.laidMetH_plain _ _ _ (by kernel_rfl)] at h
 exact h
end
section
open Go Go.Proofs Go.Shelf Go.RowKit
attribute [local go_sem] Oper.semAt_some
def FX (p:Nat):List Nat:=(List.range 64).filter p.testBit
def D7 (lo hi:Nat):List Int:=(FX lo).map (fun n:Nat=>(n:Int))++(FX hi).map (fun n:Nat=>((64+n:Nat):Int))
theorem MP:FX 0=[]:=by simp [FX]
theorem pY {p t:Nat} (hp:p<18446744073709551616) (ht:t<64) (h1:p.testBit t=true) (h2:∀ i,i<t→p.testBit i=false) (h3:∀ i,i<64→(p &&& (p-1)).testBit i=(p.testBit i&&decide (i≠t))):FX p=t::FX (p &&& (p-1)):=by
 have split:∀ (f:Nat→Bool) (n:Nat),t<n→(∀ i,i<t→f i=false)→f t=true→(List.range n).filter f=t::(List.range n).filter (fun i=>f i&&decide (i≠t)):=by
  intro f n
  induction n with
  |zero=>intro h;omega
  |succ n ih =>
   intro hn hf ht1
   rw [List.range_succ,List.filter_append,List.filter_append]
   by_cases hnt:t=n
   ·subst hnt
    have e1:(List.range t).filter f=[]:=by
     rw [List.filter_eq_nil_iff];intro a ha;rw [hf a (List.mem_range.1 ha)];simp
    have e2:(List.range t).filter (fun i=>f i&&decide (i≠t))=[]:=by
     rw [List.filter_eq_nil_iff];intro a ha;rw [hf a (List.mem_range.1 ha)];simp
    rw [e1,e2]
    simp [ht1]
   ·rw [ih (by omega) hf ht1]
    have hne:¬ n=t:=fun e=>hnt e.symm
    simp [List.filter_cons,hne]
 unfold FX
 rw [split p.testBit 64 ht h2 h1]
 congr 1
 refine List.filter_congr fun i hi=>?_
 rw [h3 i (List.mem_range.1 hi)]
theorem JU (p:Nat):(FX p).length≤64:=by
 have:=List.length_filter_le p.testBit (List.range 64)
 rw [List.length_range] at this
 exact this
theorem RG {p:Nat} (h0:p≠0) (hp:p<18446744073709551616):FX p=Lib.ctz 64 p::FX (p &&& (p-1))∧Lib.ctz 64 p<64∧(p &&& (p-1))<p:=by
 obtain ⟨m,hm,ht⟩:=Lib.ctzFrom_spec 64 p (by omega) (by omega)
 have e:Lib.ctz 64 p=Lib.ctzFrom 64 p:=by simp [Lib.ctz,h0]
 rw [e]
 generalize Lib.ctzFrom 64 p=t at *
 have h2:∀ i,p.testBit i=(decide (t≤i)&&(2*m+1).testBit (i-t)):=fun i=>by rw [hm,Nat.testBit_two_pow_mul]
 have h1:p.testBit t=true:=by rw [h2];simp
 have hlow:∀ i,i<t→p.testBit i=false:=fun i hi=>by rw [h2];simp;omega
 have hle:p &&& (p-1)≤p-1:=Nat.and_le_right
 have hpm:p-1=2 ^ t*(2*m)+(2 ^ t-1):=by
  have:0<2 ^ t:=Nat.two_pow_pos t
  rw [hm,Nat.mul_add,Nat.mul_one];omega
 have h3:∀ i,i<64→(p &&& (p-1)).testBit i=(p.testBit i&&decide (i≠t)):=fun i hi=>by
  rw [Nat.testBit_and]
  by_cases h4:i<t
  ·rw [hlow i h4];simp
  ·have e2:(p-1).testBit i=(2*m).testBit (i-t):=by
    rw [hpm,Nat.testBit_two_pow_mul_add _ (by have:0<2 ^ t:=Nat.two_pow_pos t;omega),if_neg h4]
   rw [e2,h2 i]
   by_cases h5:i=t
   ·subst h5;simp
   ·have h6:decide (i≠t)=true:=by simp [h5]
    obtain ⟨j,hj⟩:∃ j,i-t=j+1:=⟨i-t-1,by omega⟩
    rw [h6,hj,Nat.testBit_succ,Nat.testBit_succ]
    have a1:(2*m+1) / 2=m:=by omega
    have a2:2*m / 2=m:=by omega
    rw [a1,a2];simp
 exact ⟨pY hp ht h1 hlow h3,ht,by omega⟩
def a6l:Go.Shelf.Ren:=⟨fun|29=>148|n=>n,fun|0=>0|3=>3|4=>4|5=>5|22=>82|25=>214|54=>304|n=>n,fun|1=>1|n=>n⟩
theorem b2s:Go.Proofs.Lays7.n29 Tryz.prog a6l:={
 mixed:=by kernel_rfl
 f29:=Tryz.func148.trans (congrArg some (by kernel_rfl))
 t0:=Tryz.underlying0
 a0:=Tryz.isAgg0
 z0:=Tryz.sizeOf0
 v0:=Tryz.zeroValue0
 i0:=by kernel_rfl
 t3:=Tryz.underlying3
 a3:=Tryz.isAgg3
 z3:=Tryz.sizeOf3
 v3:=Tryz.zeroValue3
 i3:=by kernel_rfl
 t4:=Tryz.underlying4
 a4:=Tryz.isAgg4
 z4:=Tryz.sizeOf4
 v4:=Tryz.zeroValue4
 i4:=by kernel_rfl
 t5:=Tryz.underlying5
 a5:=Tryz.isAgg5
 z5:=Tryz.sizeOf5
 v5:=Tryz.zeroValue5
 i5:=by kernel_rfl
 t22:=Tryz.underlying82
 a22:=Tryz.isAgg82
 z22:=Tryz.sizeOf82
 v22:=Tryz.zeroValue82
 i22:=by kernel_rfl
 t25:=Tryz.underlying214
 a25:=Tryz.isAgg214
 z25:=Tryz.sizeOf214
 v25:=Tryz.zeroValue214
 i25:=by kernel_rfl
 t54:=Tryz.underlying304
 a54:=Tryz.isAgg304
 z54:=Tryz.sizeOf304
 g1:=by kernel_rfl }
def b2m:Go.Shelf.Ren:=⟨fun|8=>107|11=>146|n=>n,fun|0=>0|24=>28|26=>3|28=>263|33=>158|n=>n,fun|n=>n⟩
theorem b1s:Go.Proofs.SlLaysZI.n8 Tryz.prog b2m:={
 mixed:=by kernel_rfl
 f8:=⟨"slices.Collect[int]",by decide,Tryz.func107.trans (congrArg some (by kernel_rfl))⟩
 f11:=⟨"slices.AppendSeq[[]int,int]",by decide,Tryz.func146.trans (congrArg some (by kernel_rfl))⟩
 t0:=Tryz.underlying0
 a0:=Tryz.isAgg0
 z0:=Tryz.sizeOf0
 v0:=Tryz.zeroValue0
 t24:=Tryz.underlying28
 a24:=Tryz.isAgg28
 z24:=Tryz.sizeOf28
 v24:=Tryz.zeroValue28
 t26:=Tryz.underlying3
 a26:=Tryz.isAgg3
 z26:=Tryz.sizeOf3
 v26:=Tryz.zeroValue3
 t28:=Tryz.underlying263
 a28:=Tryz.isAgg263
 z28:=Tryz.sizeOf263
 v28:=Tryz.zeroValue263
 i26:=by kernel_rfl }
def Nc (w:World):Prop:=TabAt 1 Lib.deBruijn64tab w
theorem Lh {n:Nat} {w w':World} (h:Nc w) (hn:1<n) (hb:Below n w w'):Nc w':=fun j hj=>by
 rw [← h j hj]
 exact World.cell?_of_block (a:=⟨1,j,none⟩) (hb.block _ hn)
theorem rD (x:Nat) (hx:x<18446744073709551616) (w:World) (hT:Nc w):Calls Tryz.prog 148 #[.int .u64 x] w fun e w'=>e=.returned (.int .i64 (Lib.ctz 64 x))∧w'=w :=
 Any7.bits_TrailingZeros64 (P:=Tryz.prog) (ρ:=a6l) b2s x hx w (fun _=>hT)
end
section
open Go Go.Proofs Go.Shelf Go.RowKit
attribute [local go_sem] Oper.semAt_some
def tZ:Value→Int| .int _ q=>q|_=>0
def qE (F:Fence) (n:Nat) (P:Program) (g:Nat) (lb:Array Value) (S:List Int→Prop) (N:Nat) (w:World):Prop :=
 ∀ (l:Nat) (J:List Int→World→Prop) (W:World),(∀ s X,J s X→Below w.heap.size w X)→AbidesFrom W.heap.size J →
  (∀ pre x W1,J pre W1→pre.length<N→YieldAt F (n-1) P l #[encZ x] W1 fun e W'=>e=.returned (.bool true)∧J (pre++[x]) W'∧KeepsWalks W1 W') →
  J [] W →
  CallsIn F n P g (#[.func (.yield l) #[] #[]]++lb) W fun e W'=>(∃ v,e=.returned v)∧∃ xs,S xs∧J xs W'
def Jm (lo hi:Nat):Nat→List Int
 |0=>[]
 |1=>(FX lo).map (fun n:Nat=>(n:Int))
 |_=>D7 lo hi
theorem a0m (lo hi k:Nat):(Jm lo hi k).length≤128:=by
 have h1:=JU lo
 have h2:=JU hi
 match k with
 |0=>simp [Jm]
 |1=>simp [Jm];omega
 |k+2=>simp [Jm,D7];omega
theorem uh {done rest:List Int} {lo hi k:Nat} {x:Int} (h:done++(x::rest)=Jm lo hi k):done.length<128:=by
 have:=a0m lo hi k
 rw [← h] at this
 simp at this
 omega
theorem P6 {p:Nat} (hp:p<18446744073709551616):bits .and .u64 (p:Int) ((p-1:Nat):Int)=((p &&& (p-1):Nat):Int):=bits_and_u64_nat p (p-1) hp (by omega)
theorem PU {p:Nat} (h0:p≠0) (hp:p<18446744073709551616):IntKind.u64.wrap ((p:Int)-1)=((p-1:Nat):Int):=by rw [IntKind.wrap_u64];omega
theorem a6u:Tryz.prog.underlying 265=some (.array 2 82):=by rfl
theorem uF (w:World) (a b:Int):(Instr.index 265 (.agg #[.int .u64 a,.int .u64 b]) (.int .i64 0)).run Tryz.prog w=.ok (.int .u64 a) w:=by
 simp [Instr.index,run_underlying a6u,asIntOf,go_sem]
theorem tq (w:World) (a b:Int):(Instr.index 265 (.agg #[.int .u64 a,.int .u64 b]) (.int .i64 1)).run Tryz.prog w=.ok (.int .u64 b) w:=by
 simp [Instr.index,run_underlying a6u,asIntOf,go_sem]
attribute [local go_sem] uF tq
theorem iT (n:Nat) (hn:2≤n) (Bs lo hi:Nat) (hlo:lo<18446744073709551616) (hhi:hi<18446744073709551616) (w:World) (hT:Nc w) (hg:1<w.heap.size) (hB:Bs<w.heap.size)
 (c0:w.cell? ⟨Bs,0,none⟩=some (.int .u64 (lo:Int))) (c1:w.cell? ⟨Bs,1,none⟩=some (.int .u64 (hi:Int))) :
 qE Fence.wide n Tryz.prog 147 #[.pointer (some ⟨Bs,0,none⟩)] (fun xs=>xs=D7 lo hi) 128 w:=fun l J W hJb hJ hY h0=>by
 have hb0:=hJb _ _ h0
 have d0:W.cell? ⟨Bs,0,none⟩=some (.int .u64 (lo:Int)):=(hb0.cell (p:=⟨Bs,0,none⟩) hB).trans c0
 have d1:W.cell? ⟨Bs,1,none⟩=some (.int .u64 (hi:Int)):=(hb0.cell (p:=⟨Bs,1,none⟩) hB).trans c1
 refine callsIn_of_wp Tryz.func147 rfl trivial ?_ rfl
 simp only [Tryz.ntmps147,List.size_toArray,List.length_cons,List.length_nil,Nat.reduceAdd,Nat.reduceSub,Array.replicate_succ,Array.replicate_zero,List.push_toArray,List.append_toArray,List.nil_append,List.cons_append]
 gi_wp2
 gi_loopw [10] (fun i wr=>(i=.int .i64 0∧J (Jm lo hi 0) wr)∨(i=.int .i64 1∧J (Jm lo hi 1) wr)∨(i=.int .i64 2∧J (Jm lo hi 2) wr)) (fun i _=>(2-tZ i).toNat)
 case atStart=>exact Or.inl ⟨rfl,h0⟩
 case round =>
  rcases hrel with ⟨rfl,hJs⟩|⟨rfl,hJs⟩|⟨rfl,hJs⟩
  ·gi_wp2
   gi_loopw [4] (fun v wr=>∃ p:Nat,p<18446744073709551616∧v=.int .u64 (p:Int)∧∃ done,J done wr∧done++(FX p).map (fun n:Nat=>((64*0+n:Nat):Int))=Jm lo hi (0+1)) (fun v _=>(tZ v).toNat)
   case atStart=>exact ⟨_,hlo,rfl,_,hJs,by simp [Jm,D7]⟩
   case round =>
    obtain ⟨p,hp,rfl,done,hJd,hdone⟩:=hrel
    by_cases hp0:p=0
    ·subst hp0
     have hz:((0:Nat):Int)=0:=rfl
     rw [MP,List.map_nil,List.append_nil] at hdone
     gi_wp2
     go_roundw
     case rel=>exact Or.inr (Or.inl ⟨by first|rfl|simp,by rw [← hdone];exact hJd⟩)
     case measure=>simp [tZ]
    ·obtain ⟨e1,e2,e3⟩:=RG hp0 hp
     rw [e1,List.map_cons] at hdone
     have hTb:=Lh hT hg (hJb _ _ hJd)
     have htz:=rD p hp _ hTb
     have hne:¬ ((p:Int)=0):=by omega
     have hw1:=PU hp0 hp
     have hw2:=P6 hp
     have hlt:=uh hdone
     obtain ⟨x0,hx0⟩:∃ x0:Int,((64*0+Lib.ctz 64 p:Nat):Int)=x0:=⟨_,rfl⟩
     rw [hx0] at hdone
     generalize Lib.ctz 64 p=t at *
     have hw4:IntKind.i64.wrap (0+(t:Int))=x0:=by rw [Ov (by omega) (by omega)];omega
     have hw5:IntKind.i64.wrap (t:Int)=x0:=by rw [Ov (by omega) (by omega)];omega
     obtain ⟨fn,tmps,assign,body,hy,hR⟩:=hY done x0 _ hJd hlt
     gi_wp2
     refine ⟨trivial,fun _=>by omega,(callsIn_wide.2 htz).mono ?_⟩
     rintro _ _ ⟨rfl,rfl⟩
     gi_wp2
     refine ⟨fun _=>by omega,hR.mono ?_⟩
     rintro e W3 ⟨rfl,hJ3,hk3⟩
     gi_wp2
     go_roundw
     case rel=>exact ⟨p &&& (p-1),by omega,by first|rfl|simp,done++[x0],hJ3,by rw [List.append_assoc];exact hdone⟩
     case measure=>simp [tZ];omega
  ·gi_wp2
   gi_loopw [4] (fun v wr=>∃ p:Nat,p<18446744073709551616∧v=.int .u64 (p:Int)∧∃ done,J done wr∧done++(FX p).map (fun n:Nat=>((64*1+n:Nat):Int))=Jm lo hi (1+1)) (fun v _=>(tZ v).toNat)
   case atStart=>exact ⟨_,hhi,rfl,_,hJs,by simp [Jm,D7]⟩
   case round =>
    obtain ⟨p,hp,rfl,done,hJd,hdone⟩:=hrel
    by_cases hp0:p=0
    ·subst hp0
     have hz:((0:Nat):Int)=0:=rfl
     rw [MP,List.map_nil,List.append_nil] at hdone
     gi_wp2
     go_roundw
     case rel=>exact Or.inr (Or.inr ⟨by first|rfl|simp,by rw [← hdone];exact hJd⟩)
     case measure=>simp [tZ]
    ·obtain ⟨e1,e2,e3⟩:=RG hp0 hp
     rw [e1,List.map_cons] at hdone
     have hTb:=Lh hT hg (hJb _ _ hJd)
     have htz:=rD p hp _ hTb
     have hne:¬ ((p:Int)=0):=by omega
     have hw1:=PU hp0 hp
     have hw2:=P6 hp
     have hlt:=uh hdone
     obtain ⟨x0,hx0⟩:∃ x0:Int,((64*1+Lib.ctz 64 p:Nat):Int)=x0:=⟨_,rfl⟩
     rw [hx0] at hdone
     generalize Lib.ctz 64 p=t at *
     have hw4:IntKind.i64.wrap (64+(t:Int))=x0:=by rw [Ov (by omega) (by omega)];omega
     obtain ⟨fn,tmps,assign,body,hy,hR⟩:=hY done x0 _ hJd hlt
     gi_wp2
     refine ⟨trivial,fun _=>by omega,(callsIn_wide.2 htz).mono ?_⟩
     rintro _ _ ⟨rfl,rfl⟩
     gi_wp2
     refine ⟨fun _=>by omega,hR.mono ?_⟩
     rintro e W3 ⟨rfl,hJ3,hk3⟩
     gi_wp2
     go_roundw
     case rel=>exact ⟨p &&& (p-1),by omega,by first|rfl|simp,done++[x0],hJ3,by rw [List.append_assoc];exact hdone⟩
     case measure=>simp [tZ];omega
  ·gi_wp2
   go_end0
   exact ⟨⟨_,rfl⟩,_,rfl,hJs⟩
end
section
open Go Go.Proofs Go.Shelf Go.RowKit
attribute [local go_sem] Oper.semAt_some
section
variable {P:Program} {ρ:Ren}
theorem qm (L:SlLaysZI.n11 P ρ) (F:Fence) (n:Nat) (h11:F.fn (ρ.f 11)) (hro:F.round=none) (hn:2≤n) (g:Nat) (lb:Array Value) (hFg:F.fn g) (eg:∀ args w,(callFunc g args).run P w=.ok (.enter g args) w)
 (S:List Int→Prop) (N:Nat) (hN:N≤maxLen) (hNb:N*8≤140737488355328) (w:World) (hseq:qE F (n-1) P g lb S N w) :
 CallsIn F n P (ρ.f 11) #[.slice none 0 0,.func (.func g) #[] lb] w fun e w'=>∃ (v:Value) (ss:List Int),e=.returned v∧S ss∧w'.ownsRow w.heap.size (ρ.t 26) 1 v ss.length (ss.map encZ)∧(v=.slice none 0 0↔ss=[])∧Below w.heap.size w w':=by
 have h1:1≤n:=by omega
 have mixed:=L.mixed;have t0:=L.t0;have a0:=L.a0;have z0:=L.z0;have v0:=L.v0;have t24:=L.t24;have a24:=L.a24;have z24:=L.z24;have v24:=L.v24;have t26:=L.t26;have a26:=L.a26;have z26:=L.z26;have v26:=L.v26;have t28:=L.t28;have a28:=L.a28;have z28:=L.z28;have v28:=L.v28
 have hne:ρ.t 24≠ρ.t 26:=fun e=>by have h:=L.t24;rw [e,L.t26] at h;cases h
 have u0:=run_underlying L.t0;have u24:=run_underlying L.t24;have u26:=run_underlying L.t26;have u28:=run_underlying L.t28
 obtain ⟨_,_,FG⟩:=L.f11
 refine callsIn_of_wp_marks FG rfl h11 ?_ hro
 simp only [SlBodyZ.n11_ntmps ρ,List.size_toArray,List.length_cons,List.length_nil,Nat.reduceAdd,Nat.reduceSub,Array.replicate_succ,Array.replicate_zero,List.push_toArray,List.append_toArray,List.nil_append,List.cons_append]
 gi_wp2
 refine wpIn_rangeFunc ?_
 intro fn hfn
 rw [hro]
 obtain ⟨W0,hW0⟩:∃ W0,w.alloc (.cells #[.slice none 0 0] (ρ.t 24))=W0:=⟨_,rfl⟩
 have hs0:W0.heap.size=w.heap.size+1:=by rw [← hW0];simp
 have hv0:W0.heap[w.heap.size]?=some (.cells #[.slice none 0 0] (ρ.t 24) (0,0)):=by rw [← hW0];exact World.alloc_heap_new w _
 have hb0:Below w.heap.size w W0:=by rw [← hW0];exact (Below.refl _ w).alloc (Nat.le_refl _) _
 rw [hW0]
 obtain ⟨W1,hW1⟩:∃ W1,(W0.alloc (.deferred (some []))).alloc (.loop (AnyZI.apRec ρ fn (.func (.func g) #[] lb) w.heap.size W0.heap.size .ready none))=W1:=⟨_,rfl⟩
 have hold:∀ k,k<W0.heap.size→W1.heap[k]?=W0.heap[k]?:=fun k hk=>by
  rw [← hW1];exact (Below.heap_alloc _ _ k (by simp;omega)).trans (Below.heap_alloc _ _ k hk)
 have hb1:Below w.heap.size w W1:=by rw [← hW1];exact (hb0.alloc hb0.size _).alloc (by have:=hb0.size;simp;omega) _
 have hs1:W1.heap.size=W0.heap.size+2:=by rw [← hW1];simp
 have hM:AnyZI.ApAt ρ w fn (.func (.func g) #[] lb) w.heap.size (W0.heap.size+1) W0.heap.size [] W1 :=
  ⟨⟨_,(hold w.heap.size (by omega)).trans hv0,⟨rfl,.inl ⟨rfl,rfl⟩⟩,by simp⟩,
   by rw [← hW1];have:=World.alloc_heap_new (W0.alloc (.deferred (some []))) (.loop (AnyZI.apRec ρ fn (.func (.func g) #[] lb) w.heap.size W0.heap.size .ready none));rwa [World.size_alloc] at this,
   by rw [← hW1];exact (Below.heap_alloc _ _ _ (by simp)).trans (World.alloc_heap_new W0 _),hb1⟩
 refine ⟨W0.heap.size+1,[{ target:=.collected W0.heap.size,args:=#[] }],W1,{ target:=.fn (.func g) lb,args:=#[.func (.yield (W0.heap.size+1)) #[] #[]] },W1,g,
  #[.func (.yield (W0.heap.size+1)) #[] #[]]++lb,W1,?_,?_,?_,?_,fun _=>h1,?_⟩
 ·rw [← hW1];exact run_enterLoop_outer _ _ _ _ _
 ·simp [resolve,go_sem]
 ·intro f' hf';simp [Target.leads] at hf';subst hf';exact hFg
 ·simp [invoke,go_sem,eg]
 ·refine (hseq (W0.heap.size+1) (AnyZI.ApAt ρ w fn (.func (.func g) #[] lb) w.heap.size (W0.heap.size+1) W0.heap.size) W1 (fun _ _ h=>h.below) (AnyZI.ap_abides ρ _ _ _ _ _ _ _ hb1.size)
   (fun pre x W hJ hl=>AnyZI.apYield { L with } F (n-1-1) w fn hfn _ w.heap.size (W0.heap.size+1) W0.heap.size (by omega) (by omega) (by omega) (Nat.le_refl _) (by omega) N hN hNb pre x W hJ hl) hM).mono ?_
  rintro e W2 ⟨⟨v0,rfl⟩,ss,hS,h2⟩
  obtain ⟨v,hv,hrow,hnil⟩:=h2.box
  have hend:=run_endLoop (P:=P) h2.L (by simp [AnyZI.apRec])
  obtain ⟨W3,hW3⟩:∃ W3,W2.putObj (W0.heap.size+1) (.loop { AnyZI.apRec ρ fn (.func (.func g) #[] lb) w.heap.size W0.heap.size .ready none with state:=.exhausted })=W3:=⟨_,rfl⟩
  rw [hW3] at hend
  have hg3:W2.grownBy W3 (some (W0.heap.size+1)):=by rw [← hW3];exact grownBy_putObj_a _ _ _
  have hv3:W3.heap[w.heap.size]?=some (.cells #[v] (ρ.t 24) (0,0)):=by rw [← hW3];exact (World.putObj_heap_other (by omega)).trans hv
  have hK3:W3.heap[W0.heap.size]?=some (.deferred (some [])):=by rw [← hW3];exact (World.putObj_heap_other (by omega)).trans h2.K
  have hrow3:=hrow.kept hg3 (ownsRow_ne_a hrow h2.L (fun cur e=>by first|cases e|exact hne (Obj.cells.inj e).2.1))
  have hb3:Below w.heap.size w W3:=h2.below.grown hg3 h2.below.size (fun k e=>by cases e;omega)
  obtain ⟨hc3,hf3⟩:=cell_of_box_a hv3
  clear hW3
  refine ⟨none,W3,hend,?_⟩
  gi_wp2
  rw [← hs0]
  refine ⟨by simp,.inl ⟨_,_,rfl,run_takeDeferred hK3,?_⟩⟩
  exact ⟨_,results_tmp rfl _ _ _,v,ss,rfl,hS,hrow3.kept (grownBy_putObj_a _ _ _) (ownsRow_ne_a hrow3 hK3 (fun cur e=>by first|cases e|exact hne (Obj.cells.inj e).2.1)),hnil,hb3.grown (grownBy_putObj_a _ _ _) hb3.size (fun k e=>by cases e;omega)⟩
theorem jG (L:SlLaysZI.n8 P ρ) (F:Fence) (n:Nat) (h8:F.fn (ρ.f 8)) (h11:F.fn (ρ.f 11)) (hro:F.round=none) (hn:3≤n) (g:Nat) (lb:Array Value) (hFg:F.fn g) (eg:∀ args w,(callFunc g args).run P w=.ok (.enter g args) w)
 (S:List Int→Prop) (N:Nat) (hN:N≤maxLen) (hNb:N*8≤140737488355328) (w:World) (hseq:qE F (n-1-1) P g lb S N w) :
 CallsIn F n P (ρ.f 8) #[.func (.func g) #[] lb] w fun e w'=>∃ (v:Value) (ss:List Int),e=.returned v∧S ss∧w'.ownsRow w.heap.size (ρ.t 26) 1 v ss.length (ss.map encZ)∧(v=.slice none 0 0↔ss=[])∧Below w.heap.size w w':=by
 have h1:1≤n:=by omega
 have e11:∀ args w,(callFunc (ρ.f 11) args).run P w=.ok (.enter (ρ.f 11) args) w:=L.f11.enters rfl
 have mixed:=L.mixed;have t0:=L.t0;have a0:=L.a0;have z0:=L.z0;have v0:=L.v0;have t24:=L.t24;have a24:=L.a24;have z24:=L.z24;have v24:=L.v24;have t26:=L.t26;have a26:=L.a26;have z26:=L.z26;have v26:=L.v26;have t28:=L.t28;have a28:=L.a28;have z28:=L.z28;have v28:=L.v28
 have u0:=run_underlying L.t0;have u24:=run_underlying L.t24;have u26:=run_underlying L.t26;have u28:=run_underlying L.t28
 obtain ⟨_,_,FG⟩:=L.f8
 refine callsIn_of_wp FG rfl h8 ?_ hro
 simp only [SlBodyZ.n8_ntmps ρ,List.size_toArray,List.length_cons,List.length_nil,Nat.reduceAdd,Nat.reduceSub,Array.replicate_succ,Array.replicate_zero,List.push_toArray,List.append_toArray,List.nil_append,List.cons_append]
 gi_wp2_with (gi_at_fn (ρ.f 11);refine (qm { L with } F (n-1) h11 hro (by omega) g lb hFg eg S N hN hNb _ hseq).mono ?_;rintro e w' ⟨v,ss,rfl,hS,hrow,hnil,hb⟩)
 go_ret
 exact ⟨v,ss,rfl,hS,hrow,hnil,hb⟩
end
end
section
open Go Go.Proofs Go.Shelf Go.RowKit
attribute [local go_sem] Oper.semAt_some
theorem ownsRow_base {w:World} {b b':Nat} {e:TypeId} {s:Nat} {v:Value} {n:Nat} {xs:List Value} (h:w.ownsRow b e s v n xs) (hb:b'≤b):w.ownsRow b' e s v n xs:=by
 obtain ⟨h1,h2⟩:=h
 refine ⟨h1,?_⟩
 rcases h2 with h|⟨g,cap,cur,e1,e2,r⟩
 ·exact .inl h
 ·exact .inr ⟨g,cap,cur,e1,Nat.le_trans hb e2,r⟩
theorem all_in (lo hi:Int) (w:World):Calls Tryz.prog 108 #[.agg #[.int .u64 lo,.int .u64 hi]] w fun e w'=>e=.returned (.func (.func 147) #[] #[.pointer (some ⟨w.heap.size,0,none⟩)])∧w'=w.alloc (.cells #[.int .u64 lo,.int .u64 hi] 84):=by
 refine (callsIn_wide (n:=1)).1 ?_
 refine callsIn_of_wp Tryz.func108 rfl trivial ?_ rfl
 simp only [Tryz.ntmps108,List.size_toArray,List.length_cons,List.length_nil,Nat.reduceAdd,Nat.reduceSub,Array.replicate_succ,Array.replicate_zero,List.push_toArray,List.append_toArray,List.nil_append,List.cons_append]
 gi_wp2
 go_ret
 exact ⟨rfl,rfl⟩
theorem xR (args:Array Value) (w:World):(callFunc 147 args).run Tryz.prog w=.ok (.enter 147 args) w:=enters_of Tryz.func147 rfl rfl args w
theorem pO (lo hi:Nat) (hlo:lo<18446744073709551616) (hhi:hi<18446744073709551616) (w:World) (hT:Nc w) (hg:1<w.heap.size) :
 Calls Tryz.prog 61 #[.agg #[.int .u64 (lo:Int),.int .u64 (hi:Int)]] w fun e w'=>∃ v,e=.returned v∧w'.ownsRow w.heap.size 3 1 v (D7 lo hi).length ((D7 lo hi).map encZ)∧(D7 lo hi=[]→v=.slice none 0 0)∧Below w.heap.size w w':=by
 refine (callsIn_wide (n:=9)).1 ?_
 refine callsIn_of_wp Tryz.func61 rfl trivial ?_ rfl
 simp only [Tryz.ntmps61,List.size_toArray,List.length_cons,List.length_nil,Nat.reduceAdd,Nat.reduceSub,Array.replicate_succ,Array.replicate_zero,List.push_toArray,List.append_toArray,List.nil_append,List.cons_append]
 gi_wp2
 refine ⟨trivial,(callsIn_wide.2 (all_in _ _ _)).mono ?_⟩
 rintro _ _ ⟨rfl,rfl⟩
 gi_wp2
 obtain ⟨w1,hw1⟩:∃ w1,(w.alloc (.cells #[.int .u64 (lo:Int),.int .u64 (hi:Int)] 84)).alloc (.cells #[.int .u64 (lo:Int),.int .u64 (hi:Int)] 84)=w1:=⟨_,rfl⟩
 rw [hw1]
 have hb1:Below w.heap.size w w1:=by rw [← hw1];exact ((Below.refl _ w).alloc (Nat.le_refl _) _).alloc (by simp) _
 have hs1:w1.heap.size=w.heap.size+2:=by rw [← hw1];simp
 have c0:w1.cell? ⟨w.heap.size+1,0,none⟩=some (.int .u64 (lo:Int)):=by rw [← hw1];simp [go_sem]
 have c1:w1.cell? ⟨w.heap.size+1,1,none⟩=some (.int .u64 (hi:Int)):=by rw [← hw1];simp [go_sem]
 refine ⟨trivial,(jG b1s Fence.wide 8 trivial trivial rfl (by omega) 147 #[.pointer (some ⟨w.heap.size+1,0,none⟩)] trivial xR (fun xs=>xs=D7 lo hi) 128 (by decide) (by decide) w1
  (iT 6 (by omega) _ lo hi hlo hhi w1 (Lh hT hg hb1) (by omega) (by omega) c0 c1)).mono ?_⟩
 rintro e w' ⟨v,ss,rfl,rfl,hrow,hnil,hb⟩
 gi_wp2
 go_ret
 exact ⟨v,rfl,ownsRow_base hrow (by omega),fun h=>hnil.2 h,hb1.trans (hb.mono (by omega))⟩
end
section
open Go Go.Am Go.Vm
structure QM (F:Nat) (laid:List (String×DataW Unit)):Prop where
 nm:Tryz.prog.globalNamed "math/bits.deBruijn64tab"=some 1
 tab:∃ e,Gg Tryz.prog F laid 1=some (e,(Lib.deBruijn64tab.map (fun n:Nat=>(n:Int))).map fun z=>Value.int .u8 z)
 lt:1<Tryz.prog.globals.size
theorem YK {w:World} (hn:Tryz.prog.globalNamed "math/bits.deBruijn64tab"=some 1) (h:Lib.TabIs Tryz.prog w "math/bits.deBruijn64tab" .u8 (Lib.deBruijn64tab.map (fun n:Nat=>(n:Int)))):Nc w∧1<w.heap.size:=by
 unfold Lib.TabIs World.var? at h
 rw [hn,Option.bind_some] at h
 split at h
 ·rename_i cs t f hc
  cases h
  refine ⟨fun j hj=>?_,?_⟩
  ·unfold World.cell?
   rw [hc]
   simp [hj]
  ·rcases Nat.lt_or_ge 1 w.heap.size with h1|h1
   ·exact h1
   ·rw [Array.getElem?_eq_none h1] at hc;cases hc
 ·cases h
def uy:List Value→Option (List Value)
 |[.int .u64 lo,.int .u64 hi]=>if (0≤lo∧lo<18446744073709551616)∧(0≤hi∧hi<18446744073709551616) then some ((D7 lo.toNat hi.toNat).map Go.encZ) else none
 |_=>none
def yu:FrF
 |[.agg cs]=>uy cs.toList
 |_=>none
theorem nN {l r:List Value} (h:uy l=some r):∃ lo hi:Int,l=[.int .u64 lo,.int .u64 hi]∧(0≤lo∧lo<18446744073709551616)∧(0≤hi∧hi<18446744073709551616)∧r=(D7 lo.toNat hi.toNat).map Go.encZ:=by
 unfold uy at h
 split at h
 ·rename_i lo hi
  split at h
  ·rename_i hb;cases h;exact ⟨lo,hi,rfl,hb.1,hb.2,rfl⟩
  ·cases h
 ·cases h
theorem vO {F:Nat} {laid:List (String×DataW Unit)} (ht:QM F laid):∀ ι m w us (us':Array Value) l,DL Tryz.prog (AX Tryz.prog F laid) ι m w→(∀ k∈AX Tryz.prog F laid,m.get k=(BD Tryz.prog F laid).get k)→BI ι m.gen us us'.toList→yu us=some l →
 l.all Am.plainCell=true∧Calls Tryz.prog 61 us' w fun r w'=>∃ v,r=.returned v∧w'.ownsRow w.heap.size 3 1 v l.length l∧(l=[]→v=.slice none 0 0)∧Go.RowKit.Below w.heap.size w w':=by
 intro ι m w us us' l hs hg hl h
 unfold yu at h
 split at h
 ·rename_i cs
  obtain ⟨lo,hi,e0,hb1,hb2,rfl⟩:=nN h
  ·have e3:cs=#[.int .u64 lo,.int .u64 hi]:=Array.ext' e0
   subst e3
   obtain ⟨v',rfl,hv⟩:=BI.one hl
   have hv':=hv.Cc rfl
   subst hv'
   obtain ⟨e,t1⟩:=ht.tab
   obtain ⟨h1,h2⟩:=YK ht.nm (WT hs hg ht.nm t1 ht.lt)
   have e1:((lo.toNat:Nat):Int)=lo:=by omega
   have e2:((hi.toNat:Nat):Int)=hi:=by omega
   refine ⟨?_,?_⟩
   ·rw [List.all_eq_true]
    intro x hx
    obtain ⟨z,_,rfl⟩:=List.mem_map.1 hx
    rfl
   ·have:=pO lo.toNat hi.toNat (by omega) (by omega) w h1 h2
    rw [e1,e2] at this
    refine this.mono ?_
    rintro e w' ⟨v,rfl,q1,q2,q3⟩
    exact ⟨v,rfl,by rw [List.length_map];exact q1,fun h0=>q2 (List.map_eq_nil_iff.1 h0),q3⟩
 ·cases h
end
end Go.Proofs.YtnjkoebfgcbbdaaGreatDoor
namespace Go.Am
section
variable {P:Program} {c0 c1:Ep} (h:∀ f BF m r,c0 f BF m=some r→c1 f BF m=some r)
include h
end
structure OLe (P:Program) (O0 O1:CJ):Prop where
 same:∀ f BF m r,(O0 f).bind (fun F=>F BF m)=some r→(O1 f).bind (fun F=>F BF m)=some r
 more:∀ f BF m r,(O1 f).bind (fun F=>F BF m)=some r→(O0 f).bind (fun F=>F BF m)=none→∀ fn,P.funcs[f]?=some fn→fn.ntmps<BF.length
end Go.Am
