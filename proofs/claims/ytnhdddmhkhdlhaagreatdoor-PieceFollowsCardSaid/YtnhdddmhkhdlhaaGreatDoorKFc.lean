/-
  Texts of a proof, merged (VmB, VmC, VmD, Shelf, NumA, WA, Lib1, OraA, Ori, Vm29, Shell, EnvO). Conditions: in each statement.
-/
import Derived.Laws.Strings
import Derived.Laws.Strings2
import Derived.Laws.Concat
import Derived.Shelf.Strings.Builder1
import Derived.Shelf.Strings.Builder2
import Derived.Shelf.Small.Strs
import Derived.Shelf.Strings.BuilderF
import Derived.Shelf.Strings.BuilderK
import Derived.Shelf.Strconv.Itoa0
import Derived.Shelf.Strconv.Itoa1
import Derived.Shelf.LaysM
import Derived.Shelf.Strconv.Itoa2
import Derived.Shelf.Strconv.Itoa3
import Derived.Shelf.Sort.Plain
import Derived.Shelf.Strings.Prefix
import Derived.Shelf.Bits.Mul64
import Derived.Shelf.Strings.Repeat
import Derived.Ground.Names2Prog
import Derived.Shelf.Slices.CompactI
import Derived.Shelf.Slices.In.SortNone
import Derived.Test.YtnhdddmhkhdlhaaGreatDoorProg
import Derived.Lib.ItoaNum
import Derived.Lib.Bytealg
import Derived.Lib.AppendIntMem
import Derived.Lib.OthersKept
import Derived.Lib.Walk
import Derived.WalkKit
import Derived.BigCall
import Derived.BigGuard
import Derived.RangeFuncBox
import Derived.RangeFuncLeaves
import Derived.RangeFuncBound
import Derived.RangeFuncCalls
import Derived.Shelf.Abstract
import Derived.OwnWalkIn
import Derived.TacticsInMore
import Derived.LoopNIn
import Derived.LoopIn
import Derived.Laws.AppendOwn
import Derived.Sort.Grow
import Derived.Test.YtnhdddmhkhdlhaaGreatDoorTie
import Derived.ProofKit
import Derived.LaidMore
import Derived.OpenShut
import Derived.Below
import Derived.MakeChecks
import Derived.Stop.Joined
import Derived.Test.YtnhdddmhkhdlhaaGreatDoorKFb
set_option linter.unusedSimpArgs false
set_option linter.unusedVariables false
set_option linter.unusedSectionVars false
set_option maxRecDepth 100000
set_option maxHeartbeats 8000000
namespace Go.Vm
open Go.Am
variable {E:Env} {L:Frame} {H:Heap} {nx:Nat} {Q:PV→Heap→Nat→Prop} {w:Bool}
variable {dst:Option Tmp} {ty:TypeId} {pos:String} {af:Array Edge} {gd:Option (Nat×Bool)}
def gi {α:Type} [Inhabited α] (l:List α) (k:Nat):α:=(l[k]?).getD default
def encs {α:Type} (enc:α→List FV):List α→List FV
 |[]=>[]
 |a::l=>enc a++encs enc l
class Enc (α:Type) extends Inhabited α where
 enc:α→List FV
 size:Nat
 len:∀ a,(enc a).length=size
section
variable {α:Type} [Enc α]
abbrev cells (l:List α):List FV:=encs Enc.enc l
theorem cells_length (l:List α):(cells l).length=l.length*Enc.size α:=by
 induction l with
 |nil=>simp [cells,encs]
 |cons a l ih=>simp only [cells,encs,List.length_append,Enc.len,List.length_cons,Nat.succ_mul] at ih ⊢;omega
theorem gi_cons_succ (a:α) (l:List α) (k:Nat):gi (a::l) (k+1)=gi l k:=rfl
theorem cells_drop:∀ (l:List α) (k:Nat),k<l.length→(cells l).drop (k*Enc.size α)=Enc.enc (gi l k)++cells (l.drop (k+1))
 |a::l,0,_=>by simp [cells,encs,gi]
 |a::l,k+1,h=>by
  have ih:=cells_drop l k (by simpa using h)
  simp only [cells,encs,List.drop_succ_cons,gi_cons_succ] at ih ⊢
  rw [← ih,List.drop_append,Enc.len,List.drop_eq_nil_of_le (by rw [Enc.len,Nat.succ_mul];omega)]
  simp [Nat.succ_mul]
 |[],_,h=>by simp at h
theorem cells_append:∀ (l r:List α),cells (l++r)=cells l++cells r
 |[],_=>rfl
 |a::l,r=>by simp only [cells,encs,List.cons_append,List.append_assoc];rw [← cells_append l r]
end
instance:Enc Int:={ default:=0,enc:=fun n=>[.int .i64 n],size:=1,len:=fun _=>rfl }
theorem VVal.indexE {α:Type} {_:Enc α} {t:TypeId} {x ix:Operand} {e:TypeId} {l:List α} {n:Nat} {k:IntKind} {i:Int} (hx:vev E.Γ L x=some (.p (.lst e (cells l) n))) (hi:vev E.Γ L ix=some (.p (.int k i)))
 (hs:elemSize E.P t=some (Enc.size α)) (h0:0≤i) (h1:i<l.length) (hn:l.length=n) (q:Q (.p (.cptr (Enc.enc (gi l i.toNat)++cells (l.drop (i.toNat+1))))) H nx):VVal E w ⟨dst,.indexAddr t x ix,ty,pos,af,gd⟩ L H nx Q :=
 VVal.indexF hx hi hs h0 (by rw [← hn];exact h1) (by rw [cells_drop l i.toNat (by omega)];exact q)
theorem VVal.indexN {α:Type} {_:Enc α} {t:TypeId} {x ix:Operand} {e:TypeId} {l:List α} {n:Nat} {k:IntKind} {i:Nat} (hx:vev E.Γ L x=some (.p (.lst e (cells l) n))) (hi:vev E.Γ L ix=some (.p (.int k (i:Int))))
 (hs:elemSize E.P t=some (Enc.size α)) (h1:i<l.length) (hn:l.length=n) (q:Q (.p (.cptr (Enc.enc (gi l i)++cells (l.drop (i+1))))) H nx):VVal E w ⟨dst,.indexAddr t x ix,ty,pos,af,gd⟩ L H nx Q :=
 VVal.indexE hx hi hs (by omega) (by omega) hn q
theorem VVal.indexP {α:Type} {_:Enc α} {t:TypeId} {x ix:Operand} {e:TypeId} {l:List α} {n:Nat} {k:IntKind} {i:Nat} (hx:vev E.Γ L x=some (.p (.lst e (cells l) n))) (hi:vev E.Γ L ix=some (.p (.int k ((i:Int)-1))))
 (hs:elemSize E.P t=some (Enc.size α)) (h0:0<i) (h1:i-1<l.length) (hn:l.length=n) (q:Q (.p (.cptr (Enc.enc (gi l (i-1))++cells (l.drop (i-1+1))))) H nx):VVal E w ⟨dst,.indexAddr t x ix,ty,pos,af,gd⟩ L H nx Q :=
 VVal.indexE hx hi hs (by omega) (by omega) hn (by rw [show ((i:Int)-1).toNat=i-1 by omega];exact q)
abbrev lst {α:Type} [Enc α] (e:TypeId) (l:List α):PV:=.p (.lst e (cells l) l.length)
section
variable {bn:Nat} {ops:Array Oper} {op:Op} {l:List Oper} {i:Nat} {R:Frame→Heap→Nat→Prop}
theorem VOps.one (h:VVal E true ⟨dst,op,ty,pos,af,none⟩ L H nx fun r H' nx'=>VOps E bn ops l (lput L dst r) H' nx' R):VOps E bn ops (⟨dst,op,ty,pos,af,none⟩::l) L H nx R:=VOps.cons rfl h
theorem VOps.take {j d:Nat} {want:Bool} (hd:(ops[j]?).bind (·.dst)=some d) (hb:lget L d=some (.p (.bool want))) (h:VVal E true ⟨dst,op,ty,pos,af,some (j,want)⟩ L H nx fun r H' nx'=>VOps E bn ops l (lput L dst r) H' nx' R) :
 VOps E bn ops (⟨dst,op,ty,pos,af,some (j,want)⟩::l) L H nx R:=VOps.cons ⟨want,d,hd,hb,by cases want<;>rfl⟩ h
theorem VOps.drop {j d:Nat} {want b:Bool} (hd:(ops[j]?).bind (·.dst)=some d) (hb:lget L d=some (.p (.bool b))) (hne:(b==want)=false) (h:VOps E bn ops l (lput L dst (.tup [])) H nx R) :
 VOps E bn ops (⟨dst,op,ty,pos,af,some (j,want)⟩::l) L H nx R:=VOps.skip ⟨b,d,hd,hb,hne.symm⟩ h
theorem VOpsD.drop {j d:Nat} {want b:Bool} (hd:(ops[j]?).bind (·.dst)=some d) (hb:lget L d=some (.p (.bool b))) (hne:(b==want)=false) (h:VOpsD E bn ops (i+1) l (lput L dst (.tup [])) H nx R) :
 VOpsD E bn ops i (⟨dst,op,ty,pos,af,some (j,want)⟩::l) L H nx R:=VOpsD.skip ⟨b,d,hd,hb,hne.symm⟩ h
theorem VOps.guard {j d:Nat} {want:Bool} {p:Prop} {_:Decidable p} (hd:(ops[j]?).bind (·.dst)=some d) (hb:lget L d=some (.p (.bool (decide p))))
 (ht:p→VOps E bn ops (⟨dst,op,ty,pos,af,some (j,want)⟩::l) ((d,.p (.bool true))::L) H nx R) (hf:¬ p→VOps E bn ops (⟨dst,op,ty,pos,af,some (j,want)⟩::l) ((d,.p (.bool false))::L) H nx R) :
 VOps E bn ops (⟨dst,op,ty,pos,af,some (j,want)⟩::l) L H nx R:=VOps.split rfl hd hb ht hf
theorem VOpsD.guard {j d:Nat} {want:Bool} {p:Prop} {_:Decidable p} (hd:(ops[j]?).bind (·.dst)=some d) (hb:lget L d=some (.p (.bool (decide p))))
 (ht:p→VOpsD E bn ops i (⟨dst,op,ty,pos,af,some (j,want)⟩::l) ((d,.p (.bool true))::L) H nx R) (hf:¬ p→VOpsD E bn ops i (⟨dst,op,ty,pos,af,some (j,want)⟩::l) ((d,.p (.bool false))::L) H nx R) :
 VOpsD E bn ops i (⟨dst,op,ty,pos,af,some (j,want)⟩::l) L H nx R:=VOpsD.split rfl hd hb ht hf
def QSeq (E:Env) (bn:Nat) (k:Code) (Q:AExit→Frame→Heap→Nat→Prop) (e:AExit) (L:Frame) (H:Heap) (nx:Nat):Prop :=
 match e with
 | .normal=>VWp E bn k L H nx Q
 | .ret=>Q .ret L H nx
 | .exit i=>Q (.exit i) L H nx
def QBlk (id:Nat) (Q:AExit→Frame→Heap→Nat→Prop) (e:AExit) (L:Frame) (H:Heap) (nx:Nat):Prop :=
 match e with
 | .normal=>Q .normal L H nx
 | .ret=>Q .ret L H nx
 | .exit i=>if i=id then Q .normal L H nx else Q (.exit i) L H nx
def QLoop (I:Frame→Heap→Nat→Prop) (Q:AExit→Frame→Heap→Nat→Prop) (e:AExit) (L:Frame) (H:Heap) (nx:Nat):Prop :=
 match e with
 | .normal=>I L H nx
 | .ret=>Q .ret L H nx
 | .exit i=>Q (.exit i) L H nx
variable {Q:AExit→Frame→Heap→Nat→Prop} {I:Frame→Heap→Nat→Prop} {a b c k:Code} {id:Nat} {x:Operand}
theorem QSeq.normal (h:VWp E bn k L H nx Q):QSeq E bn k Q .normal L H nx:=h
theorem QSeq.ret (h:Q .ret L H nx):QSeq E bn k Q .ret L H nx:=h
theorem QBlk.normal (h:Q .normal L H nx):QBlk id Q .normal L H nx:=h
theorem QBlk.ret (h:Q .ret L H nx):QBlk id Q .ret L H nx:=h
theorem QBlk.exit (h:Q .normal L H nx):QBlk id Q (.exit id) L H nx:=by simp only [QBlk,if_true];exact h
theorem QLoop.normal (h:I L H nx):QLoop I Q .normal L H nx:=h
theorem QLoop.ret (h:Q .ret L H nx):QLoop I Q .ret L H nx:=h
theorem QLoop.exit (h:Q (.exit i) L H nx):QLoop I Q (.exit i) L H nx:=h
theorem VWp.to (h:VWp E bn a L H nx (QSeq E bn k Q)):VWp E bn (.seq a k) L H nx Q :=
 VWp.seq (h.mono fun e _ _ _ q=>by cases e<;>exact q)
theorem VWp.rseq (h:VOps E bn ops ops.toList L H nx fun L' H' nx'=>VWp E bn k L' H' nx' Q):VWp E bn (.seq (.region id ops false) k) L H nx Q:=VWp.seq (VWp.region h)
theorem VWp.rseqD (h:VOpsD E bn ops 0 ops.toList L H nx fun L' H' nx'=>VWp E bn k L' H' nx' Q):VWp E bn (.seq (.region id ops true) k) L H nx Q:=VWp.seq (VWp.regionD h)
theorem VWp.assoc (h:VWp E bn (.seq a (.seq b c)) L H nx Q):VWp E bn (.seq (.seq a b) c) L H nx Q:=by
 intro B hB m F σ t h1 h2 h3
 obtain ⟨e,s,⟨K,hk⟩,q⟩:=h B hB m F σ t h1 h2 h3
 refine ⟨e,s,⟨K,fun N D hN hD=>?_⟩,q⟩
 have:=hk N D hN hD
 simp only [aexec] at this ⊢
 cases ha:aexec E.P (acall E.P E.O E.G N D) N a ⟨t,m⟩ with
 |none=>rw [ha] at this;cases this
 |some r =>
  rw [ha] at this
  obtain ⟨e1,s1⟩:=r
  cases e1<;>simpa using this
theorem VWp.skipSeq (h:VWp E bn k L H nx Q):VWp E bn (.seq .skip k) L H nx Q:=VWp.seq (VWp.skip h)
theorem VWp.retSeq (h:Q .ret L H nx):VWp E bn (.seq .ret k) L H nx Q:=VWp.seq (VWp.ret h)
theorem VWp.exitSeq (h:Q (.exit i) L H nx):VWp E bn (.seq (.exit i) k) L H nx Q:=VWp.seq (VWp.exit h)
theorem VWp.blockSeq (h:VWp E bn a L H nx (QBlk id (QSeq E bn k Q))):VWp E bn (.seq (.block id a) k) L H nx Q :=
 VWp.to (VWp.block (h.mono fun e _ _ _ q=>by cases e<;>exact q))
theorem VWp.blockQ (h:VWp E bn a L H nx (QBlk id Q)):VWp E bn (.block id a) L H nx Q :=
 VWp.block (h.mono fun e _ _ _ q=>by cases e<;>exact q)
theorem VWp.condSeq (t:Bool) (hc:vev E.Γ L x=some (.p (.bool t))) (ht:t=true→VWp E bn (.seq a k) L H nx Q) (hf:t=false→VWp E bn (.seq b k) L H nx Q):VWp E bn (.seq (.cond x a b) k) L H nx Q:=by
 intro B hB m F σ u h1 h2 h3
 have hx:=vev_bool h1 h2 hc
 cases t with
 |true =>
  obtain ⟨e',s,⟨K,hk⟩,q⟩:=ht rfl B hB m F σ u h1 h2 h3
  exact ⟨e',s,⟨K,fun N D hN hD=>by have:=hk N D hN hD;simp only [aexec,hx] at this ⊢;exact this⟩,q⟩
 |false =>
  obtain ⟨e',s,⟨K,hk⟩,q⟩:=hf rfl B hB m F σ u h1 h2 h3
  exact ⟨e',s,⟨K,fun N D hN hD=>by have:=hk N D hN hD;simp only [aexec,hx] at this ⊢;exact this⟩,q⟩
theorem VWp.condSeq_true (hc:vev E.Γ L x=some (.p (.bool true))) (ht:VWp E bn (.seq a k) L H nx Q):VWp E bn (.seq (.cond x a b) k) L H nx Q:=VWp.condSeq true hc (fun _=>ht) (fun h=>by cases h)
theorem VWp.condSeq_false (hc:vev E.Γ L x=some (.p (.bool false))) (hf:VWp E bn (.seq b k) L H nx Q):VWp E bn (.seq (.cond x a b) k) L H nx Q:=VWp.condSeq false hc (fun h=>by cases h) (fun _=>hf)
theorem VWp.condSeq_dec {p:Prop} {_:Decidable p} (hc:vev E.Γ L x=some (.p (.bool (decide p)))) (ht:p→VWp E bn (.seq a k) L H nx Q) (hf:¬ p→VWp E bn (.seq b k) L H nx Q):VWp E bn (.seq (.cond x a b) k) L H nx Q :=
 VWp.condSeq (decide p) hc (fun h=>ht (of_decide_eq_true h)) (fun h=>hf (of_decide_eq_false h))
theorem VWp.loopQ {α:Type} (Lf:α→Frame) (Hf:α→Heap) (nx0:Nat) (inv:α→Prop) (μ:α→Nat) (a0:α) (hb:bn≤nx0) (h0:inv a0) (hc:Cov L H nx (Lf a0) (Hf a0) nx0)
 (hs:∀ s,inv s→VWp E bn a (Lf s) (Hf s) nx0 (QLoop (fun L' H' nx'=>∃ s',inv s'∧μ s'<μ s∧Cov L' H' nx' (Lf s') (Hf s') nx0) Q)):VWp E bn (.loop a) L H nx Q :=
 VWp.loop Lf Hf nx0 inv μ a0 hb h0 hc fun s hi=>(hs s hi).mono fun e _ _ _ q=>by cases e<;>exact q
theorem LCov.nil {k:Nat}:LCov k [] L:=trivial
theorem LCov.cons {k i:Nat} {v v0:PV} {L0:Frame} (hu:v0.under k) (hv:lget L i=some v) (hle:PLe v v0) (t:LCov k L0 L):LCov k ((i,v0)::L0) L:=⟨⟨hu,v,hv,hle⟩,t⟩
theorem LCov.same {k i:Nat} {v0:PV} {L0:Frame} (hu:v0.under k) (hv:lget L i=some v0) (t:LCov k L0 L):LCov k ((i,v0)::L0) L:=⟨⟨hu,v0,hv,.refl _⟩,t⟩
theorem HCov.nil {k:Nat}:HCov k [] H:=trivial
theorem HCov.cons {k i:Nat} {v v0:HB} {L0:Heap} (hi:i<k) (hu:v0.under k) (hv:hget H i=some v) (hle:HLe v v0) (t:HCov k L0 H):HCov k ((i,v0)::L0) H:=⟨⟨hi,hu,v,hv,hle⟩,t⟩
theorem Done.ret {P:Program} {rs:List ResultVar} {Q:PV→Heap→Nat→Prop} {r r0:PV} {H0:Heap} {nx0:Nat} (h:vresults P rs L H=some r0) (hle:PLe r0 r) (hu:r.under nx0) (hH:HCov nx0 H0 H) (hn:nx0≤nx) (hb:bn≤nx0) (q:Q r H0 nx0):Done P rs bn Q .ret L H nx :=
 ⟨r0,h,r,H0,nx0,hle,hu,hH,hn,hb,q⟩
end
end Go.Vm
namespace Go.Vm
open Go.Am
variable {E:Env} {L:Frame} {H:Heap} {nx:Nat} {Q:PV→Heap→Nat→Prop} {w:Bool}
variable {dst:Option Tmp} {ty:TypeId} {pos:String} {af:Array Edge} {gd:Option (Nat×Bool)}
mutual
def PV.rn (ρ:Nat→Nat):PV→PV
 | .p x=>.p x
 | .agg cs=>.agg (PVs.rn ρ cs)
 | .tup cs=>.tup (PVs.rn ρ cs)
 | .vec b tag off len=>.vec (ρ b) tag off len
 | .ref b off=>.ref (ρ b) off
 | .eref b tag off=>.eref (ρ b) tag off
 | .mref b=>.mref (ρ b)
 | .clo f fs cs=>.clo f (PVs.rn ρ fs) (PVs.rn ρ cs)
def PVs.rn (ρ:Nat→Nat):List PV→List PV
 |[]=>[]
 |c::cs=>PV.rn ρ c::PVs.rn ρ cs
end
def HB.rn (ρ:Nat→Nat):HB→HB
 | .box e cs=>.box e (PVs.rn ρ cs)
 | .vec e cs n z=>.vec e cs n z
 | .map es=>.map es
 | .vecp e cs n=>.vecp e (PVs.rn ρ cs) n
 | .mapp ks cs=>.mapp ks (PVs.rn ρ cs)
theorem HB.rn_tag (ρ:Nat→Nat) (x:HB):(x.rn ρ).tag=x.tag:=by cases x<;>rfl
section
variable {m:Mem} {F:Nat→Prop} {T T':Nat→Option Tg} {σ σ':Nat→Value} {n n':Nat} {ρ:Nat→Nat}
mutual
theorem RP.rn (h:∀ b,b<n→ρ b<n'∧T' (ρ b)=T b∧σ' (ρ b)=σ b):∀ {x:PV} {v:Value},RP m F T σ n x v→RP m F T' σ' n' (x.rn ρ) v
 |_,_,.p r=>.p r
 |_,_,.agg r hc=>.agg (RPs.rn h r) hc
 |_,_,.tup r=>.tup (RPs.rn h r)
 |_,_,.vec hb hc r=>.vec (h _ hb).1 hc (by rw [(h _ hb).2.1,(h _ hb).2.2];exact r)
 |_,_,.ref hb hc r=>.ref (h _ hb).1 hc (by rw [(h _ hb).2.1,(h _ hb).2.2];exact r)
 |_,_,.eref hb hc r=>.eref (h _ hb).1 hc (by rw [(h _ hb).2.1,(h _ hb).2.2];exact r)
 |_,_,.mref hb hc r=>.mref (h _ hb).1 hc (by rw [(h _ hb).2.1,(h _ hb).2.2];exact r)
 |_,_,.clo r1 r2=>.clo (RPs.rn h r1) (RPs.rn h r2)
theorem RPs.rn (h:∀ b,b<n→ρ b<n'∧T' (ρ b)=T b∧σ' (ρ b)=σ b):∀ {x:List PV} {v:List Value},RPs m F T σ n x v→RPs m F T' σ' n' (PVs.rn ρ x) v
 |_,_,.nil=>.nil
 |_,_,.cons r t=>.cons (RP.rn h r) (RPs.rn h t)
end
mutual
theorem RP.unrn (h:∀ b,b<n→(∀ t,T b=some t→T' (ρ b)=some t)∧σ' (ρ b)=σ b):∀ {x:PV} {v:Value},x.under n→RP m F T' σ' n' (x.rn ρ) v→RP m F T σ n x v
 | .p _,_,_,r=>by cases r with|p r=>exact .p r
 | .agg cs,_,hu,r=>by
  simp only [PV.rn] at r
  cases r with|agg r hc=>exact .agg (RPs.unrn h hu r) hc
 | .tup cs,_,hu,r=>by
  simp only [PV.rn] at r
  cases r with|tup r=>exact .tup (RPs.unrn h hu r)
 | .vec b tag off len,_,hu,r=>by
  simp only [PV.rn] at r
  cases r with
  |vec hb hc r =>
   refine .vec hu hc fun k hk=>?_
   have:=r k ((h b hu).1 _ hk)
   rw [(h b hu).2] at this
   exact this
 | .ref b off,_,hu,r=>by
  simp only [PV.rn] at r
  cases r with
  |ref hb hc r =>
   refine .ref hu hc fun hk=>?_
   have:=r ((h b hu).1 _ hk)
   rw [(h b hu).2] at this
   exact this
 | .eref b tag off,_,hu,r=>by
  simp only [PV.rn] at r
  cases r with
  |eref hb hc r =>
   refine .eref hu hc fun k hk=>?_
   have:=r k ((h b hu).1 _ hk)
   rw [(h b hu).2] at this
   exact this
 | .mref b,_,hu,r=>by
  simp only [PV.rn] at r
  cases r with
  |mref hb hc r =>
   refine .mref hu hc fun hk=>?_
   have:=r ((h b hu).1 _ hk)
   rw [(h b hu).2] at this
   exact this
 | .clo f fs cs,_,hu,r=>by
  simp only [PV.rn] at r
  cases r with|clo r1 r2=>exact .clo (RPs.unrn h hu.1 r1) (RPs.unrn h hu.2 r2)
theorem RPs.unrn (h:∀ b,b<n→(∀ t,T b=some t→T' (ρ b)=some t)∧σ' (ρ b)=σ b):∀ {x:List PV} {v:List Value},PVs.under n x→RPs m F T' σ' n' (PVs.rn ρ x) v→RPs m F T σ n x v
 |[],_,_,r=>by cases r;exact .nil
 |c::cs,_,hu,r=>by cases r with|cons r t=>exact .cons (RP.unrn h hu.1 r) (RPs.unrn h hu.2 t)
end
end
def idx:List Nat→Nat→Option Nat
 |[],_=>none
 |a::l,b=>match Nat.decEq a b with
  | .isTrue _=>some 0
  | .isFalse _=>(idx l b).map (·+1)
theorem idx_some:∀ {l:List Nat} {b i:Nat},idx l b=some i→l[i]?=some b
 |a::l,b,i,h=>by
  simp only [idx] at h
  split at h
  ·rename_i e _;cases h;subst e;rfl
  ·simp only [Option.map_eq_some_iff] at h
   obtain ⟨j,h1,rfl⟩:=h
   simpa using idx_some h1
theorem idx_of:∀ {l:List Nat} {b i:Nat},l.Nodup→l[i]?=some b→idx l b=some i
 |[],_,_,_,h=>by simp at h
 |a::l,b,i,hn,h=>by
  simp only [List.nodup_cons] at hn
  cases i with
  |zero =>
   simp only [List.getElem?_cons_zero,Option.some.injEq] at h
   subst h
   simp only [idx]
   cases hd:Nat.decEq a a with
   |isTrue _=>rfl
   |isFalse e=>exact absurd rfl e
  |succ i =>
   simp only [List.getElem?_cons_succ] at h
   have hne:a≠b:=fun e=>hn.1 (e▸List.mem_of_getElem? h)
   simp only [idx]
   cases hd:Nat.decEq a b with
   |isTrue e=>exact absurd e hne
   |isFalse _=>simp only [idx_of hn.2 h,Option.map_some]
def rho (ns:List Nat) (nx:Nat) (i:Nat):Nat :=
 match ns[i]? with
 |some b=>b
 |none=>nx+(i-ns.length)
def merge (ns:List Nat) (ρ:Nat→Nat) (H':Heap):Heap→Heap
 |[]=>[]
 |(b,x)::H=>match idx ns b with
  |none=>(b,x)::merge ns ρ H' H
  |some i=>match hget H' i with
   |some y=>(b,y.rn ρ)::merge ns ρ H' H
   |none=>merge ns ρ H' H
def news (k:Nat) (ρ:Nat→Nat):Heap→Heap→Heap
 |[],H=>H
 |(i,x)::H',H=>match Nat.decLt i k with
  | .isTrue _=>news k ρ H' H
  | .isFalse _=>(ρ i,x.rn ρ)::news k ρ H' H
theorem hget_merge_none {ns:List Nat} {ρ:Nat→Nat} {H':Heap}:∀ {H:Heap} {b:Nat},idx ns b=none→hget (merge ns ρ H' H) b=hget H b
 |[],_,_=>rfl
 |(a,x)::H,b,h=>by
  have ih:=hget_merge_none (ns:=ns) (ρ:=ρ) (H':=H') (H:=H) h
  simp only [merge]
  cases hi:idx ns a with
  |none=>simp only [hget_cons,ih]
  |some i =>
   have hne:a≠b:=fun e=>by rw [e,h] at hi;cases hi
   simp only [hget_cons,if_neg hne]
   cases hget H' i with
   |none=>exact ih
   |some y=>simp only [hget_cons,if_neg hne];exact ih
theorem hget_merge_some {ns:List Nat} {ρ:Nat→Nat} {H':Heap}:∀ {H:Heap} {b i:Nat},idx ns b=some i→hget (merge ns ρ H' H) b=if (hget H b).isSome then (hget H' i).map (HB.rn ρ) else none
 |[],_,_,_=>by simp [merge,hget]
 |(a,x)::H,b,i,h=>by
  have ih:=hget_merge_some (ns:=ns) (ρ:=ρ) (H':=H') (H:=H) h
  simp only [merge]
  by_cases e:a=b
  ·subst e
   rw [h]
   simp only [hget_cons,if_true,Option.isSome_some]
   cases hi:hget H' i with
   |none =>
    simp only [Option.map_none]
    rw [ih]
    split
    ·rw [hi];rfl
    ·rfl
   |some y=>simp only [hget_cons,if_true,Option.map_some]
  ·simp only [hget_cons,if_neg e]
   cases hj:idx ns a with
   |none=>simp only [hget_cons,if_neg e];exact ih
   |some j =>
    simp only
    cases hget H' j with
    |none=>exact ih
    |some y=>simp only [hget_cons,if_neg e];exact ih
theorem hget_news {k:Nat} {ρ:Nat→Nat} {H:Heap}:∀ {H':Heap} {b:Nat},(∀ i j,ρ i=ρ j→k≤i→k≤j→i=j) →
 (∃ i,k≤i∧ρ i=b∧(hget H' i).isSome∧hget (news k ρ H' H) b=(hget H' i).map (HB.rn ρ))∨((∀ i,k≤i→ρ i=b→hget H' i=none)∧hget (news k ρ H' H) b=hget H b)
 |[],b,_=>.inr ⟨fun _ _ _=>rfl,rfl⟩
 |(i,x)::H',b,hinj=>by
  have ih:=hget_news (k:=k) (ρ:=ρ) (H:=H) (H':=H') (b:=b) hinj
  simp only [news]
  cases hd:Nat.decLt i k with
  |isTrue hlt =>
   simp only
   rcases ih with ⟨j,h1,h2,h3,h4⟩|⟨h1,h2⟩
   ·refine .inl ⟨j,h1,h2,?_⟩
    rw [hget_cons,if_neg (by omega)]
    exact ⟨h3,h4⟩
   ·refine .inr ⟨fun j hj hb=>?_,h2⟩
    rw [hget_cons,if_neg (by omega)]
    exact h1 j hj hb
  |isFalse hge =>
   simp only [hget_cons]
   by_cases e:ρ i=b
   ·refine .inl ⟨i,by omega,e,?_⟩
    rw [if_pos rfl,if_pos e]
    exact ⟨rfl,rfl⟩
   ·rw [if_neg e]
    rcases ih with ⟨j,h1,h2,h3,h4⟩|⟨h1,h2⟩
    ·refine .inl ⟨j,h1,h2,?_⟩
     rw [if_neg (fun e':i=j=>e (by rw [e'];exact h2))]
     exact ⟨h3,h4⟩
    ·refine .inr ⟨fun j hj hb=>?_,h2⟩
     rw [if_neg (fun e':i=j=>e (by rw [e'];exact hb))]
     exact h1 j hj hb
def HIn (ρ:Nat→Nat) (H:Heap):Heap→Prop
 |[]=>True
 |(i,x)::Hc=>(∃ y,hget H (ρ i)=some y∧HLe y (x.rn ρ))∧HIn ρ H Hc
theorem HIn.get {ρ:Nat→Nat} {H:Heap}:∀ {Hc:Heap},HIn ρ H Hc→∀ i x,hget Hc i=some x→∃ y,hget H (ρ i)=some y∧HLe y (x.rn ρ)
 |[],_,_,_,h=>by cases h
 |(j,y)::Hc,⟨h1,h2⟩,i,x,h=>by
  rw [hget_cons] at h
  by_cases e:j=i
  ·rw [if_pos e] at h;cases h;subst e;exact h1
  ·rw [if_neg e] at h;exact HIn.get h2 i x h
def HUnder (k:Nat):Heap→Prop
 |[]=>True
 |(i,x)::H=>(i<k∧x.under k)∧HUnder k H
theorem HUnder.get {k:Nat}:∀ {H:Heap},HUnder k H→∀ i x,hget H i=some x→i<k∧x.under k
 |[],_,_,_,h=>by cases h
 |(j,y)::Hc,⟨h1,h2⟩,i,x,h=>by
  rw [hget_cons] at h
  by_cases e:j=i
  ·rw [if_pos e] at h;cases h;subst e;exact h1
  ·rw [if_neg e] at h;exact HUnder.get h2 i x h
theorem RB.le {m:Mem} {F:Nat→Prop} {T:Nat→Option Tg} {σ:Nat→Value} {n:Nat} {s:Value} {x y:HB} (h:HLe x y) (r:RB m F T σ n s x):RB m F T σ n s y:=by
 cases h with
 |refl=>exact r
 |box h=>obtain ⟨c,vs,r1,r2,r3,r4,r5,r6⟩:=r;exact ⟨c,vs,r1,r2,r3,r4,RPs.le h r5,r6⟩
 |vec h hn =>
  subst hn
  rcases r with ⟨r1,r2,r3⟩|⟨c,g,vs,r1,r2,r3,r4,r5,r6⟩
  ·subst r1
   cases h with|refl=>exact .inl ⟨rfl,r2,r3⟩
  ·exact .inr ⟨c,g,vs,r1,r2,r3,r4,RFs.le h r5,r6⟩
theorem RB.rn {m:Mem} {F:Nat→Prop} {T T':Nat→Option Tg} {σ σ':Nat→Value} {n n':Nat} {ρ:Nat→Nat} {s:Value} {x:HB} (h:∀ b,b<n→ρ b<n'∧T' (ρ b)=T b∧σ' (ρ b)=σ b) (r:RB m F T σ n s x):RB m F T' σ' n' s (x.rn ρ):=by
 cases x with
 |box e cs=>obtain ⟨c,vs,r1,r2,r3,r4,r5,r6⟩:=r;exact ⟨c,vs,r1,r2,r3,r4,RPs.rn h r5,r6⟩
 |vec e cs k z=>exact r
 |map es=>exact r
 |vecp e cs k=>obtain ⟨c,g,vs,r1,r2,r3,r4,r5,r6⟩:=r;exact ⟨c,g,vs,r1,r2,r3,r4,RPs.rn h r5,r6⟩
 |mapp ks cs=>obtain ⟨r,l,clock,r1,r2,r3,r4,r5,r6,r7⟩:=r;exact ⟨r,l,clock,r1,r2,r3,r4,r5,RPs.rn h r6,r7⟩
theorem RB.unrn {m:Mem} {F:Nat→Prop} {T T':Nat→Option Tg} {σ σ':Nat→Value} {n n':Nat} {ρ:Nat→Nat} {s:Value} {x:HB} (h:∀ b,b<n→(∀ t,T b=some t→T' (ρ b)=some t)∧σ' (ρ b)=σ b) (hu:x.under n) (r:RB m F T' σ' n' s (x.rn ρ)):RB m F T σ n s x:=by
 cases x with
 |box e cs=>obtain ⟨c,vs,r1,r2,r3,r4,r5,r6⟩:=r;exact ⟨c,vs,r1,r2,r3,r4,RPs.unrn h hu r5,r6⟩
 |vec e cs k z=>exact r
 |map es=>exact r
 |vecp e cs k=>obtain ⟨c,g,vs,r1,r2,r3,r4,r5,r6⟩:=r;exact ⟨c,g,vs,r1,r2,r3,r4,RPs.unrn h hu r5,r6⟩
 |mapp ks cs=>obtain ⟨r,l,clock,r1,r2,r3,r4,r5,r6,r7⟩:=r;exact ⟨r,l,clock,r1,r2,r3,r4,r5,RPs.unrn h hu r6,r7⟩
end Go.Vm
namespace Go.Vm
open Go.Am
variable {E:Env} {L:Frame} {H:Heap} {nx:Nat} {Q:PV→Heap→Nat→Prop} {w:Bool}
variable {dst:Option Tmp} {ty:TypeId} {pos:String} {af:Array Edge} {gd:Option (Nat×Bool)}
def evs (Γ:Nat→Option (List Value×TypeId)) (L:Frame):List Operand→Option (List PV)
 |[]=>some []
 |o::l=>match vev Γ L o with
  |some x=>match evs Γ L l with
   |some r=>some (x::r)
   |none=>none
  |none=>none
theorem evs_rel {Γ:Nat→Option (List Value×TypeId)} {m:Mem} {F:Nat→Prop} {σ:Nat→Value} {t:Tr Value} (hx:Ctx Γ m F σ H nx) (hl:RL m F (htag H) σ nx L t):∀ {os:List Operand} {xs:List PV},evs Γ L os=some xs→RPs m F (htag H) σ nx xs (os.map (ev t))
 |[],_,h=>by cases h;exact .nil
 |o::os,xs,h=>by
  simp only [evs] at h
  cases h1:vev Γ L o with
  |none=>rw [h1] at h;cases h
  |some x =>
   rw [h1] at h
   cases h2:evs Γ L os with
   |none=>rw [h2] at h;cases h
   |some r=>rw [h2] at h;cases h;exact .cons (vev_rel hx hl h1) (evs_rel hx hl h2)
theorem RPs.append {m:Mem} {F:Nat→Prop} {T:Nat→Option Tg} {σ:Nat→Value} {n:Nat}:∀ {cs ds:List PV} {vs ws:List Value},RPs m F T σ n cs vs→RPs m F T σ n ds ws→RPs m F T σ n (cs++ds) (vs++ws)
 |_,_,_,_,.nil,h=>h
 |_,_,_,_,.cons h t,h'=>.cons h (RPs.append t h')
theorem rho_lt {ns:List Nat} {i b:Nat} (h:ns[i]?=some b):rho ns nx i=b:=by simp only [rho,h]
theorem rho_ge {ns:List Nat} {i:Nat} (h:ns.length≤i):rho ns nx i=nx+(i-ns.length):=by simp only [rho,List.getElem?_eq_none h]
theorem VVal.callG {fo:Operand} {args:Array Operand} {aT:Array TypeId} {g:FuncId} {fs cs asW ac:List PV} {ns:List Nat} {Hc:Heap} {Qc:PV→Heap→Nat→Prop} (hf:vev E.Γ L fo=some (.clo g fs cs)) (ha:evs E.Γ L args.toList=some asW)
 (hle:PLes (fs++asW++cs) (PVs.rn (rho ns nx) ac)) (hu:PVs.under ns.length ac) (hHu:HUnder ns.length Hc) (hin:HIn (rho ns nx) H Hc) (hnd:ns.Nodup) (hlt:∀ b∈ns,b<nx) (hw:w=false→Hc=[]) (hc:VCalls E g ac Hc ns.length Qc)
 (hq:∀ r H' nx',Qc r H' nx'→Q (r.rn (rho ns nx)) (news ns.length (rho ns nx) H' (merge ns (rho ns nx) H' H)) (nx+(nx'-ns.length))) :
 VVal E w ⟨dst,.call { callee:=.value fo,args:=args,argTypes:=aT },ty,pos,af,gd⟩ L H nx Q:=by
 intro m F σ t h1 h2
 generalize hρ:rho ns nx=ρ at *
 generalize hk:ns.length=k at *
 have hget_of_lt:∀ i,i<k→∃ b,ns[i]?=some b∧ρ i=b∧b<nx:=fun i hi=>by
  have:i<ns.length:=by omega
  refine ⟨ns[i],List.getElem?_eq_getElem this,?_,hlt _ (List.getElem_mem this)⟩
  rw [← hρ];exact rho_lt (List.getElem?_eq_getElem this)
 have hge:∀ i,k≤i→ρ i=nx+(i-k):=fun i hi=>by rw [← hρ,← hk];exact rho_ge (by omega)
 have hidx:∀ i,i<k→idx ns (ρ i)=some i:=fun i hi=>by
  obtain ⟨b,hb,e,_⟩:=hget_of_lt i hi
  rw [e];exact idx_of hnd hb
 have hidx':∀ b i,idx ns b=some i→i<k∧b=ρ i:=fun b i hi=>by
  have h0:=idx_some hi
  have hlt':i<k:=by
   rcases Nat.lt_or_ge i ns.length with h|h
   ·omega
   ·rw [List.getElem?_eq_none h] at h0;cases h0
  obtain ⟨b',hb',e,_⟩:=hget_of_lt i hlt'
  rw [h0] at hb';cases hb'
  exact ⟨hlt',e.symm⟩
 have hTc:∀ b t,htag Hc b=some t→htag H (ρ b)=some t:=fun b t hb=>by
  unfold htag at hb ⊢
  cases h0:hget Hc b with
  |none=>rw [h0] at hb;cases hb
  |some x =>
   rw [h0] at hb
   obtain ⟨y,hy,hle⟩:=hin.get b x h0
   rw [hy,Option.map_some,hle.tag,HB.rn_tag]
   exact hb
 have hun:∀ b,b<k→(∀ t,htag Hc b=some t→htag H (ρ b)=some t)∧σ (ρ b)=(fun i=>σ (ρ i)) b:=fun b _=>⟨hTc b,rfl⟩
 have hown:∀ c,own Hc (fun i=>σ (ρ i)) c→∃ i x y,i<k∧hget Hc i=some x∧hget H (ρ i)=some y∧blkOf (σ (ρ i))=some c:=by
  rintro c ⟨i,x,hi,hb⟩
  obtain ⟨y,hy,_⟩:=hin.get i x hi
  exact ⟨i,x,y,(hHu.get i x hi).1,hi,hy,hb⟩
 have hown':∀ c,own Hc (fun i=>σ (ρ i)) c→own H σ c:=fun c ho=>by
  obtain ⟨i,_,y,_,_,hy,hb⟩:=hown c ho
  exact ⟨ρ i,y,hy,hb⟩
 have hctx:Ctx E.Γ m F (fun i=>σ (ρ i)) Hc k:=by
  refine ⟨h1.fr,fun i x hi=>?_,fun i i' x x' c hi hi' hb hb'=>?_,h1.gl⟩
  ·obtain ⟨y,hy,hle⟩:=hin.get i x hi
   obtain ⟨hik,hux⟩:=hHu.get i x hi
   exact ⟨hik,RB.unrn hun hux (RB.le hle (h1.hp _ y hy).2)⟩
  ·obtain ⟨y,hy,_⟩:=hin.get i x hi
   obtain ⟨y',hy',_⟩:=hin.get i' x' hi'
   have e:=h1.sep _ _ y y' c hy hy' hb hb'
   have e1:=hidx i (hHu.get i x hi).1
   have e2:=hidx i' (hHu.get i' x' hi').1
   rw [e,e2] at e1
   cases e1;rfl
 have hfv:=vev_rel h1 h2 hf
 generalize hfe:ev t fo=fv at hfv
 cases hfv with
 |clo r1 r2 =>
  rename_i vf vc
  have hargs:RPs m F (htag Hc) (fun i=>σ (ρ i)) k ac (vf++args.toList.map (ev t)++vc):=RPs.unrn hun hu (RPs.le hle ((r1.append (evs_rel h1 h2 ha)).append r2))
  refine AVal.call (f:=g) (asW:=vf++args.toList.map (ev t)++vc) (fun call=>by simp only [aval,hfe]) ((hc m F _ _ hctx hargs).mono ?_)
  rintro v m' ⟨r,H',nx',F',σ',q,c1,c2,c3⟩
  have hkn:k≤nx':=c3.nxle
  have hHsome:∀ i,i<k→hget H (ρ i)=none→hget H' i=none:=fun i hi hn=>by
   have h0:=(c3.names i hi).1
   cases hh:hget H' i with
   |none=>rfl
   |some y =>
    have hty:htag H' i=some y.tag:=by simp [htag,hh]
    rw [hty] at h0
    cases hc':htag Hc i with
    |none=>rw [hc'] at h0;exact h0.elim
    |some t =>
     have:=hTc i t hc'
     simp [htag,hn] at this
  have hinj:∀ i j,ρ i=ρ j→k≤i→k≤j→i=j:=fun i j e hi hj=>by
   rw [hge i hi,hge j hj] at e;omega
  let σn:Nat→Value:=fun b=>if b<nx then (match idx ns b with|some i=>σ' i|none=>σ b) else σ' (b-nx+k)
  have hAget:∀ j,j<nx'→hget (news k ρ H' (merge ns ρ H' H)) (ρ j)=(hget H' j).map (HB.rn ρ):=fun j hj=>by
   rcases Nat.lt_or_ge j k with hjk|hjk
   ·obtain ⟨b,hb,e,hbn⟩:=hget_of_lt j hjk
    rcases hget_news (k:=k) (ρ:=ρ) (H:=merge ns ρ H' H) (H':=H') (b:=ρ j) hinj with ⟨i,hi,e',_⟩|⟨_,e'⟩
    ·rw [hge i hi,e] at e';omega
    ·rw [e',hget_merge_some (hidx j hjk)]
     cases hH:hget H (ρ j) with
     |none=>rw [hHsome j hjk hH];rfl
     |some y=>rfl
   ·rcases hget_news (k:=k) (ρ:=ρ) (H:=merge ns ρ H' H) (H':=H') (b:=ρ j) hinj with ⟨i,hi,e',_,e''⟩|⟨e',e''⟩
    ·rw [hinj i j e' hi hjk] at e'';exact e''
    ·have hno:idx ns (ρ j)=none:=by
      cases hi:idx ns (ρ j) with
      |none=>rfl
      |some i =>
       obtain ⟨hik,e3⟩:=hidx' _ i hi
       obtain ⟨b,_,e4,hbn⟩:=hget_of_lt i hik
       rw [hge j hjk] at e3
       omega
     rw [e'',hget_merge_none hno,h1.tagNone (by rw [hge j hjk];omega),e' j hjk rfl]
     rfl
  have hA:∀ j,j<nx'→ρ j<nx+(nx'-k)∧htag (news k ρ H' (merge ns ρ H' H)) (ρ j)=htag H' j∧σn (ρ j)=σ' j:=fun j hj=>by
   refine ⟨?_,?_,?_⟩
   ·rcases Nat.lt_or_ge j k with hjk|hjk
    ·obtain ⟨b,_,e,hbn⟩:=hget_of_lt j hjk;omega
    ·rw [hge j hjk];omega
   ·unfold htag
    rw [hAget j hj]
    cases hget H' j with
    |none=>rfl
    |some y=>simp [HB.rn_tag]
   ·show (if ρ j<nx then _ else _)=_
    rcases Nat.lt_or_ge j k with hjk|hjk
    ·obtain ⟨b,_,e,hbn⟩:=hget_of_lt j hjk
     rw [if_pos (by omega),hidx j hjk]
    ·rw [hge j hjk,if_neg (by omega)]
     congr 1;omega
  have hB:∀ b,b<nx→idx ns b=none→hget (news k ρ H' (merge ns ρ H' H)) b=hget H b∧σn b=σ b:=fun b hb hi=>by
   refine ⟨?_,?_⟩
   ·rcases hget_news (k:=k) (ρ:=ρ) (H:=merge ns ρ H' H) (H':=H') (b:=b) hinj with ⟨i,hi',e',_⟩|⟨_,e'⟩
    ·rw [hge i hi'] at e';omega
    ·rw [e',hget_merge_none hi]
   ·show (if b<nx then _ else _)=_
    rw [if_pos hb,hi]
  have hC:∀ b x,hget (news k ρ H' (merge ns ρ H' H)) b=some x→(∃ j y,j<nx'∧b=ρ j∧hget H' j=some y∧x=y.rn ρ)∨(b<nx∧idx ns b=none∧hget H b=some x):=fun b x hx=>by
   rcases Nat.lt_or_ge b nx with hb|hb
   ·cases hi:idx ns b with
    |none=>exact .inr ⟨hb,rfl,by rw [← (hB b hb hi).1];exact hx⟩
    |some i =>
     obtain ⟨hik,e⟩:=hidx' b i hi
     rw [e,hAget i (by omega)] at hx
     simp only [Option.map_eq_some_iff] at hx
     obtain ⟨y,hy,e'⟩:=hx
     exact .inl ⟨i,y,by omega,e,hy,e'.symm⟩
   ·rcases hget_news (k:=k) (ρ:=ρ) (H:=merge ns ρ H' H) (H':=H') (b:=b) hinj with ⟨i,hi,e',e1,e2⟩|⟨_,e'⟩
    ·rw [e2] at hx
     simp only [Option.map_eq_some_iff] at hx
     obtain ⟨y,hy,e'⟩:=hx
     exact .inl ⟨i,y,(c1.hp i y hy).1,by rw [← ‹ρ i=b›],hy,e'.symm⟩
    ·have hno:idx ns b=none:=by
      cases hi:idx ns b with
      |none=>rfl
      |some i =>
       obtain ⟨hik,e3⟩:=hidx' _ i hi
       obtain ⟨b',_,e4,hbn⟩:=hget_of_lt i hik
       omega
     rw [e',hget_merge_none hno,h1.tagNone hb] at hx
     cases hx
  have hD:Names nx (htag H) σ (htag (news k ρ H' (merge ns ρ H' H))) σn:=fun b hb=>by
   cases hi:idx ns b with
   |none =>
    obtain ⟨e1,e2⟩:=hB b hb hi
    rw [e2]
    unfold htag
    rw [e1]
    exact ⟨TLe.refl _,fun _ _ _=>rfl⟩
   |some i =>
    obtain ⟨hik,e⟩:=hidx' b i hi
    obtain ⟨_,a2,a3⟩:=hA i (by omega)
    rw [e,a2,a3]
    obtain ⟨n1,n2⟩:=c3.names i hik
    cases ht':htag H' i with
    |none=>exact ⟨trivial,fun _ _ e=>by cases e⟩
    |some t' =>
     rw [ht'] at n1 n2
     cases htc:htag Hc i with
     |none=>rw [htc] at n1;exact n1.elim
     |some tc =>
      rw [htc] at n1 n2
      rw [hTc i tc htc]
      exact ⟨n1,fun t e1 e2=>n2 t e1 e2⟩
  have hfz:=c3.frozen hctx
  have hblk:∀ b x c,idx ns b=none→hget H b=some x→blkOf (σ b)=some c→¬ own Hc (fun i=>σ (ρ i)) c:=fun b x c hi hb hc ho=>by
   obtain ⟨i,_,y,hik,_,hy,hbc⟩:=hown c ho
   have e:=h1.sep b (ρ i) x y c hb hy hc hbc
   rw [e,hidx i hik] at hi
   cases hi
  refine ⟨_,_,_,F',σn,hq r H' nx' q,⟨c1.fr,?_,?_,c1.gl⟩,RP.rn hA c2,⟨c3.size,fun c hc ho=>c3.keep c hc fun o=>ho (hown' c o),c3.fmono,fun c hc hf=>?_,?_,Nat.le_add_right _ _,hD,fun j j1 j2 j3=>c3.low j j1 j2 fun c ho=>j3 c (hown' c ho)⟩,?_⟩
  ·intro b x hx
   rcases hC b x hx with ⟨j,y,hj,rfl,hy,rfl⟩|⟨hb,hi,hx'⟩
   ·obtain ⟨a1,a2,a3⟩:=hA j hj
    rw [a3]
    exact ⟨a1,RB.rn hA (c1.hp j y hy).2⟩
   ·rw [(hB b hb hi).2]
    refine ⟨by omega,(h1.hp b x hx').2.mono hfz hD (Nat.le_add_right _ _) c3.size fun c hc=>?_⟩
    have hno:=hblk b x c hi hx' hc
    obtain ⟨hnf,hcs⟩:=h1.notF ⟨b,x,hx',hc⟩
    exact ⟨c3.keep c hcs hno,fun hf=>(c3.fback c hcs hf).elim hnf hno⟩
  ·intro b b' x x' c hx hx' hbc hbc'
   rcases hC b x hx with ⟨j,y,hj,rfl,hy,rfl⟩|⟨hb,hi,hx1⟩<;>rcases hC b' x' hx' with ⟨j',y',hj',rfl,hy',rfl⟩|⟨hb',hi',hx1'⟩
   ·rw [(hA j hj).2.2] at hbc
    rw [(hA j' hj').2.2] at hbc'
    rw [c1.sep j j' y y' c hy hy' hbc hbc']
   ·rw [(hA j hj).2.2] at hbc
    rw [(hB b' hb' hi').2] at hbc'
    exact absurd (c3.oback c (h1.notF ⟨b',x',hx1',hbc'⟩).2 ⟨j,y,hy,hbc⟩) (hblk b' x' c hi' hx1' hbc')
   ·rw [(hA j' hj').2.2] at hbc'
    rw [(hB b hb hi).2] at hbc
    exact absurd (c3.oback c (h1.notF ⟨b,x,hx1,hbc⟩).2 ⟨j',y',hy',hbc'⟩) (hblk b x c hi hx1 hbc)
   ·rw [(hB b hb hi).2] at hbc
    rw [(hB b' hb' hi').2] at hbc'
    exact h1.sep b b' x x' c hx1 hx1' hbc hbc'
  ·rcases c3.fback c hc hf with h|h
   ·exact .inl h
   ·exact .inr (hown' c h)
  ·rintro c hc ⟨b,x,hx,hbc⟩
   rcases hC b x hx with ⟨j,y,hj,rfl,hy,rfl⟩|⟨hb,hi,hx1⟩
   ·rw [(hA j hj).2.2] at hbc
    exact hown' c (c3.oback c hc ⟨j,y,hy,hbc⟩)
   ·rw [(hB b hb hi).2] at hbc
    exact ⟨b,x,hx1,hbc⟩
  ·intro hwf j j1 j2
   refine c3.low j j1 j2 fun c ho=>?_
   obtain ⟨i,x,_,_,hx,_⟩:=hown c ho
   rw [hw hwf] at hx
   cases hx
end Go.Vm
namespace Go.Vm
open Go.Am
variable {E:Env} {L:Frame} {H:Heap} {nx:Nat} {Q:PV→Heap→Nat→Prop} {w:Bool}
variable {dst:Option Tmp} {ty:TypeId} {pos:String} {af:Array Edge} {gd:Option (Nat×Bool)}
def VFun (E:Env) (g:FuncId) (xs:List FV) (r:PV):Prop:=VCalls E g (xs.map .p) [] 0 fun r' H' nx'=>r'=r∧H'=[]∧nx'=0
def VFunV (E:Env) (g:FuncId) (xs:List FV) (e:TypeId) (cs:List FV) (n:Nat) (z:Bool):Prop :=
 VCalls E g (xs.map .p) [] 0 fun r' H' nx'=>r'=.vec 0 n 0 n∧H'=[(0,.vec e cs n z)]∧nx'=1
theorem PVs.rn_pure (ρ:Nat→Nat):∀ xs:List FV,PVs.rn ρ (xs.map .p)=xs.map .p
 |[]=>rfl
 |x::xs=>by simp only [List.map_cons,PVs.rn,PV.rn,PVs.rn_pure ρ xs]
theorem merge_nil (ρ:Nat→Nat) (H':Heap):∀ H:Heap,merge [] ρ H' H=H
 |[]=>rfl
 |(b,x)::H=>by simp only [merge,idx,merge_nil ρ H' H]
theorem VVal.call0 {fo:Operand} {args:Array Operand} {aT:Array TypeId} {g:FuncId} {asW:List PV} {xs:List FV} {Qc:PV→Heap→Nat→Prop} (hf:vev E.Γ L fo=some (.clo g [] [])) (ha:evs E.Γ L args.toList=some asW)
 (hle:PLes asW (xs.map .p)) (hc:VCalls E g (xs.map .p) [] 0 Qc) (hq:∀ r H' nx',Qc r H' nx'→Q (r.rn (rho [] nx)) (news 0 (rho [] nx) H' H) (nx+nx')) :
 VVal E w ⟨dst,.call { callee:=.value fo,args:=args,argTypes:=aT },ty,pos,af,gd⟩ L H nx Q :=
 VVal.callG (ns:=[]) (Hc:=[]) hf ha (ac:=xs.map .p) (by simpa [PVs.rn_pure] using hle) (PVs.under_pure _ _) trivial trivial List.nodup_nil (by simp) (fun _=>rfl) hc
  (fun r H' nx' q=>by rw [merge_nil];exact hq r H' nx' q)
theorem VVal.callF {fo:Operand} {args:Array Operand} {aT:Array TypeId} {g:FuncId} {asW:List PV} {xs:List FV} {r:PV} (hf:vev E.Γ L fo=some (.clo g [] [])) (ha:evs E.Γ L args.toList=some asW)
 (hle:PLes asW (xs.map .p)) (hc:VFun E g xs r) (hr:∀ ρ,r.rn ρ=r) (q:Q r H nx):VVal E w ⟨dst,.call { callee:=.value fo,args:=args,argTypes:=aT },ty,pos,af,gd⟩ L H nx Q :=
 VVal.call0 hf ha hle hc fun r' H' nx' ⟨h1,h2,h3⟩=>by subst h1;subst h2;subst h3;rw [hr];exact q
theorem VVal.callV {fo:Operand} {args:Array Operand} {aT:Array TypeId} {g:FuncId} {asW:List PV} {xs cs:List FV} {e:TypeId} {n:Nat} {z:Bool} (hf:vev E.Γ L fo=some (.clo g [] [])) (ha:evs E.Γ L args.toList=some asW)
 (hle:PLes asW (xs.map .p)) (hc:VFunV E g xs e cs n z) (q:Q (.vec nx n 0 n) ((nx,.vec e cs n z)::H) (nx+1)):VVal E w ⟨dst,.call { callee:=.value fo,args:=args,argTypes:=aT },ty,pos,af,gd⟩ L H nx Q :=
 VVal.call0 hf ha hle hc fun r' H' nx' ⟨h1,h2,h3⟩=>by
  subst h1;subst h2;subst h3
  have e:news 0 (rho [] nx) [(0,HB.vec e cs n z)] H=(nx,.vec e cs n z)::H:=rfl
  rw [e]
  exact q
def Ghost (E:Env) (L:Frame) (H:Heap) (nx:Nat) (L':Frame) (H':Heap) (nx':Nat):Prop :=
 ∀ (B:Base) m F σ t,Ctx E.Γ m F σ H nx→RL m F (htag H) σ nx L t→B.to m F σ H nx→∃ F' σ',Ctx E.Γ m F' σ' H' nx'∧RL m F' (htag H') σ' nx' L' t∧B.to m F' σ' H' nx'
section
variable {bn:Nat} {ops:Array Oper} {l:List Oper} {i:Nat} {R:Frame→Heap→Nat→Prop} {L':Frame} {H':Heap} {nx':Nat}
theorem VWp.ghost {c:Code} {Q:AExit→Frame→Heap→Nat→Prop} (g:Ghost E L H nx L' H' nx') (h:VWp E bn c L' H' nx' Q):VWp E bn c L H nx Q:=fun B hB m F σ t h1 h2 h3=>by
 obtain ⟨F',σ',c1,c2,c3⟩:=g B m F σ t h1 h2 h3
 exact h B hB m F' σ' t c1 c2 c3
theorem VOps.ghost (g:Ghost E L H nx L' H' nx') (h:VOps E bn ops l L' H' nx' R):VOps E bn ops l L H nx R:=fun B hB m F σ t h1 h2 h3=>by
 obtain ⟨F',σ',c1,c2,c3⟩:=g B m F σ t h1 h2 h3
 exact h B hB m F' σ' t c1 c2 c3
theorem VOpsD.ghost (g:Ghost E L H nx L' H' nx') (h:VOpsD E bn ops i l L' H' nx' R):VOpsD E bn ops i l L H nx R:=fun B hB m F σ t h1 h2 h3=>by
 obtain ⟨F',σ',c1,c2,c3⟩:=g B m F σ t h1 h2 h3
 exact h B hB m F' σ' t c1 c2 c3
theorem Ghost.trans {L'':Frame} {H'':Heap} {nx'':Nat} (g:Ghost E L H nx L' H' nx') (g':Ghost E L' H' nx' L'' H'' nx''):Ghost E L H nx L'' H'' nx'':=fun B m F σ t h1 h2 h3=>by
 obtain ⟨F',σ',c1,c2,c3⟩:=g B m F σ t h1 h2 h3
 exact g' B m F' σ' t c1 c2 c3
end
theorem adoptCtx {Γ:Nat→Option (List Value×TypeId)} {m:Mem} {F:Nat→Prop} {σ:Nat→Value} (e:TypeId) (h:Ctx Γ m F σ H nx) :
 Ctx Γ m F (upd σ nx nilSlice) ((nx,.vec e [] 0 true)::H) (nx+1)∧Step m F σ H nx m F (upd σ nx nilSlice) ((nx,.vec e [] 0 true)::H) (nx+1):=by
 have:=h.new (m':=m) (x:=.vec e [] 0 true) (s:=nilSlice) (Nat.le_refl _) (fun _ _=>rfl) (Nat.min_le_left _ _) (fun c hc=>by simp [blkOf,nilSlice] at hc) (.inl ⟨rfl,rfl,.inl ⟨rfl,rfl⟩⟩)
 exact ⟨this.1,this.2.1⟩
theorem nil_vec {m:Mem} {F:Nat→Prop} {σ:Nat→Value} (e:TypeId) (H:Heap) (nx:Nat):RP m F (htag ((nx,.vec e [] 0 true)::H)) (upd σ nx nilSlice) (nx+1) (.vec nx 0 0 0) nilSlice:=by
 refine .vec (Nat.lt_succ_self _) rfl fun n hn=>?_
 rw [htag_cons,if_pos rfl] at hn
 simp only [HB.tag,Option.some.injEq,Tg.vec.injEq] at hn
 subst hn
 refine ⟨Nat.le_refl _,fun _=>?_⟩
 rw [upd_same]
 exact ⟨rfl,rfl,rfl⟩
theorem Ghost.adopt (d:Nat) (e:TypeId) (hd:lget L d=some (.p (.val (.slice none 0 0)))):Ghost E L H nx ((d,.vec nx 0 0 0)::L) ((nx,.vec e [] 0 true)::H) (nx+1):=fun B m F σ t h1 h2 h3=>by
 obtain ⟨c1,c2⟩:=adoptCtx e h1
 refine ⟨F,_,c1,fun i v hi=>?_,h3.trans c2⟩
 rw [lget_cons] at hi
 by_cases ei:d=i
 ·rw [if_pos ei] at hi;cases hi
  have:=h2 d _ hd
  subst ei
  generalize tget t d=u at this
  cases this with|p h=>cases h;exact nil_vec e H nx
 ·rw [if_neg ei] at hi
  exact (h2 i v hi).step c2 h1
def hdel:Heap→Nat→Heap
 |[],_=>[]
 |(a,x)::H,b=>match Nat.decEq a b with
  | .isTrue _=>hdel H b
  | .isFalse _=>(a,x)::hdel H b
theorem hget_hdel (H:Heap) (b c:Nat):hget (hdel H b) c=if b=c then none else hget H c:=by
 induction H with
 |nil=>simp [hdel,hget]
 |cons a H ih =>
  obtain ⟨a,x⟩:=a
  simp only [hdel]
  cases hd:Nat.decEq a b with
  |isTrue h =>
   subst h
   simp only [hget_cons,ih]
   by_cases e:a=c<;>simp [e]
  |isFalse h =>
   simp only [hget_cons,ih]
   by_cases e:b=c
   ·subst e;simp [h]
   ·simp [e]
theorem htag_hdel (H:Heap) (b c:Nat):htag (hdel H b) c=if b=c then none else htag H c:=by
 unfold htag
 rw [hget_hdel]
 split<;>rfl
theorem freezeCtx {Γ:Nat→Option (List Value×TypeId)} {m:Mem} {F:Nat→Prop} {σ:Nat→Value} {b:Nat} {e:TypeId} {cs:List FV} {n:Nat} {z:Bool} (h:Ctx Γ m F σ H nx) (hb:hget H b=some (.vec e cs n z)) :
 Ctx Γ m (fun c=>F c∨blkOf (σ b)=some c) σ (hdel H b) nx∧Step m F σ H nx m (fun c=>F c∨blkOf (σ b)=some c) σ (hdel H b) nx ∧
 (∀ v,SubOf (σ b) 0 n v→RF m (fun c=>F c∨blkOf (σ b)=some c) (.lst e cs n) v):=by
 have hown:∀ c,blkOf (σ b)=some c→own H σ c:=fun c hc=>⟨b,_,hb,hc⟩
 have hfz:∀ c,F c→(F c∨blkOf (σ b)=some c)∧m.get c=m.get c:=fun c hc=>⟨.inl hc,rfl⟩
 have hN:Names nx (htag H) σ (htag (hdel H b)) σ:=fun d _=>by
  rw [htag_hdel]
  split
  ·exact ⟨trivial,fun _ _ _=>rfl⟩
  ·exact ⟨TLe.refl _,fun _ _ _=>rfl⟩
 have hsub:∀ d x,hget (hdel H b) d=some x→d≠b∧hget H d=some x:=fun d x hd=>by
  rw [hget_hdel] at hd
  split at hd
  ·cases hd
  ·rename_i hne;exact ⟨Ne.symm hne,hd⟩
 refine ⟨⟨?_,?_,?_,?_⟩,⟨Nat.le_refl _,fun _ _ _=>rfl,fun _ h=>.inl h,fun c _ hc=>hc.imp id (hown c),?_,Nat.le_refl _,hN,fun _ h _ _=>h⟩,?_⟩
 ·rintro c (hc|hc)
  ·exact h.fr c hc
  ·exact (h.notF (hown c hc)).2
 ·intro d x hd
  obtain ⟨hne,hd⟩:=hsub d x hd
  obtain ⟨h1,h2⟩:=h.hp d x hd
  refine ⟨h1,h2.mono hfz hN (Nat.le_refl _) (Nat.le_refl _) fun c hc=>⟨rfl,?_⟩⟩
  rintro (hf|hf)
  ·exact (h.notF ⟨d,x,hd,hc⟩).1 hf
  ·exact hne (h.sep d b x _ c hd hb hc hf)
 ·intro d d' x x' c hd hd' hc hc'
  exact h.sep d d' x x' c (hsub d x hd).2 (hsub d' x' hd').2 hc hc'
 ·intro g cs' e' hg
  obtain ⟨h1,h2⟩:=h.gl g cs' e' hg
  exact ⟨.inl h1,h2⟩
 ·rintro c _ ⟨d,x,hd,hc⟩
  exact ⟨d,x,(hsub d x hd).2,hc⟩
 ·intro v hv
  obtain ⟨_,hr⟩:=h.hp b _ hb
  rcases hr with ⟨r1,r2,r3⟩|⟨c,g,vs,r1,r2,r3,r4,r5,r6,r7⟩
  ·subst r1;subst r2
   rcases r3 with ⟨r3,_⟩|⟨b',o',g',r3,_⟩
   ·rw [r3] at hv;obtain ⟨rfl,_,_⟩:=hv;exact .nil _
   ·rw [r3] at hv;simp only [SubOf] at hv;rw [hv.1];exact .room _ _ _ _
  ·rw [r1] at hv
   simp only [SubOf] at hv
   subst hv
   refine .lst (.inr (by rw [r1];rfl)) r4 ?_ (r5.mono hfz) r6
   rw [List.drop_zero,r5.length];simp [takeN]
theorem Ghost.freeze (d:Nat) {b n:Nat} {e:TypeId} {cs:List FV} {z:Bool} (hd:lget L d=some (.vec b n 0 n)) (hb:hget H b=some (.vec e cs n z)):Ghost E L H nx ((d,.p (.lst e cs n))::L) (hdel H b) nx:=fun B m F σ t h1 h2 h3=>by
 obtain ⟨c1,c2,c3⟩:=freezeCtx h1 hb
 refine ⟨_,σ,c1,fun i v hi=>?_,h3.trans c2⟩
 rw [lget_cons] at hi
 by_cases ei:d=i
 ·rw [if_pos ei] at hi;cases hi
  have:=h2 d _ hd
  subst ei
  generalize tget t d=u at this
  cases this with
  |vec hb' hc h=>exact .p (c3 _ ((h n (by simp [htag,hb,HB.tag])).2 rfl))
 ·rw [if_neg ei] at hi
  exact (h2 i v hi).step c2 h1
theorem Ghost.freezeCell (a k:Nat) {b n:Nat} {e e':TypeId} {cs:List FV} {ds:List PV} {z:Bool} (ha:hget H a=some (.box e' ds)) (hk:ds[k]?=some (.vec b n 0 n)) (hb:hget H b=some (.vec e cs n z)) :
 Ghost E L H nx L (hput (hdel H b) a (.box e' (ds.set k (.p (.lst e cs n))))) nx:=fun B m F σ t h1 h2 h3=>by
 obtain ⟨c1,c2,c3⟩:=freezeCtx h1 hb
 have hne:b≠a:=fun e=>by subst e;rw [ha] at hb;cases hb
 have ha':hget (hdel H b) a=some (.box e' ds):=by rw [hget_hdel,if_neg hne];exact ha
 obtain ⟨_,c,vs,r1,r2,r3,r4,r5,r6⟩:=c1.hp a _ ha'
 obtain ⟨_,c',vs',s1,s2,s3,s4,s5,s6⟩:=h1.hp a _ ha
 rw [s1] at r1;cases r1
 rw [s4] at r4;cases r4
 obtain ⟨u,hu1,hu2⟩:=s5.get hk
 have hcell:RP m (fun c=>F c∨blkOf (σ b)=some c) (htag (hdel H b)) σ nx (.p (.lst e cs n)) u:=by
  cases hu2 with
  |vec hb' hc h=>exact .p (c3 _ ((h n (by simp [htag,hb,HB.tag])).2 rfl))
 obtain ⟨d1,d2⟩:=c1.change (m':=m) (b0:=a) (x':=.box e' (ds.set k (.p (.lst e cs n)))) (s':=σ a) ha' trivial (fun _=>rfl) (Nat.le_refl _) (fun _ _ _=>rfl) (fun _ h _ _=>h) (fun c hc=>.inl hc) (by
  refine ⟨_,vs,s1,s2,r3,s4,?_,s6⟩
  have:vs=vs.set k u:=by
   apply List.ext_getElem?
   intro j
   rw [List.getElem?_set]
   by_cases e:k=j
   ·subst e
    rw [if_pos rfl,hu1]
    have:k<vs.length:=by
     rcases Nat.lt_or_ge k vs.length with h|h
     ·exact h
     ·rw [List.getElem?_eq_none h] at hu1;cases hu1
    rw [if_pos this]
   ·rw [if_neg e]
  rw [this]
  exact (r5.set k hcell).mono (fun d hd=>⟨hd,rfl⟩) (change_names (x':=.box e' (ds.set k (.p (.lst e cs n)))) ha' trivial fun _=>rfl) (Nat.le_refl _))
 have hσ:upd σ a (σ a)=σ:=by funext x;simp only [upd];split<;>simp_all
 rw [hσ] at d1 d2
 exact ⟨_,σ,d1,(h2.step c2 h1).step d2 c1,(h3.trans c2).trans d2⟩
theorem Ghost.adoptCell (a k:Nat) (e:TypeId) {e':TypeId} {ds:List PV} (ha:hget H a=some (.box e' ds)) (hk:ds[k]?=some (.p (.val (.slice none 0 0)))) :
 Ghost E L H nx L (hput ((nx,.vec e [] 0 true)::H) a (.box e' (ds.set k (.vec nx 0 0 0)))) (nx+1):=fun B m F σ t h1 h2 h3=>by
 obtain ⟨c1,c2⟩:=adoptCtx e h1
 have hlt:=(h1.hp a _ ha).1
 have ha':hget ((nx,HB.vec e [] 0 true)::H) a=some (.box e' ds):=by rw [hget_cons,if_neg (by omega)];exact ha
 obtain ⟨_,c,vs,r1,r2,r3,r4,r5,r6⟩:=c1.hp a _ ha'
 obtain ⟨u,hu1,hu2⟩:=r5.get hk
 have hu:u=nilSlice:=by cases hu2 with|p h=>cases h;rfl
 subst hu
 obtain ⟨d1,d2⟩:=c1.change (m':=m) (b0:=a) (x':=.box e' (ds.set k (.vec nx 0 0 0))) (s':=upd σ nx nilSlice a) ha' trivial (fun _=>rfl) (Nat.le_refl _) (fun _ _ _=>rfl) (fun _ h _ _=>h) (fun c hc=>.inl hc) (by
  refine ⟨c,vs,r1,r2,r3,r4,?_,r6⟩
  have:vs=vs.set k nilSlice:=by
   apply List.ext_getElem?
   intro j
   rw [List.getElem?_set]
   by_cases e:k=j
   ·subst e
    rw [if_pos rfl,hu1]
    have:k<vs.length:=by
     rcases Nat.lt_or_ge k vs.length with h|h
     ·exact h
     ·rw [List.getElem?_eq_none h] at hu1;cases hu1
    rw [if_pos this]
   ·rw [if_neg e]
  rw [this]
  exact (r5.set k (nil_vec e H nx)).mono (fun d hd=>⟨hd,rfl⟩) (change_names (x':=.box e' (ds.set k (.vec nx 0 0 0))) ha' trivial fun _=>rfl) (Nat.le_refl _))
 have hσ:upd (upd σ nx nilSlice) a (upd σ nx nilSlice a)=upd σ nx nilSlice:=by
  funext x
  by_cases e:x=a
  ·rw [e,upd_same]
  ·rw [upd_other _ _ e]
 rw [hσ] at d1 d2
 exact ⟨_,_,d1,(h2.step c2 h1).step d2 c1,(h3.trans c2).trans d2⟩
end Go.Vm
namespace Go.Vm
open Go.Am
variable {E:Env} {L:Frame} {H:Heap} {nx:Nat} {Q:PV→Heap→Nat→Prop} {w:Bool}
variable {dst:Option Tmp} {ty:TypeId} {pos:String} {af:Array Edge} {gd:Option (Nat×Bool)}
def evp (Γ:Nat→Option (List Value×TypeId)) (L:Frame):List (Nat×Operand)→Option (List (Nat×PV))
 |[]=>some []
 |(i,o)::l=>match vev Γ L o with
  |some x=>match evp Γ L l with
   |some r=>some ((i,x)::r)
   |none=>none
  |none=>none
def isTup:PV→Bool
 | .tup _=>true
 |_=>false
def pfill (place:Nat→Option (Nat×Nat)) (cs:List PV):List (Nat×PV)→Option (List PV)
 |[]=>some cs
 |(i,v)::rest=>match isTup v with
  |true=>none
  |false=>match place i with
   |none=>none
   |some (off,size)=>if (pcells v).length=size∧off+size≤cs.length then pfill place (psplice cs off (pcells v)) rest else none
theorem foldl_splice (off:Nat):∀ (l:List Value) (k:Nat) (cs:Array Value),((l.zipIdx k).foldl (fun cs (c,j)=>cs.setIfInBounds (off+j) c) cs).toList=splice cs.toList (off+k) l
 |[],_,_=>rfl
 |a::l,k,cs=>by
  simp only [List.zipIdx_cons,List.foldl_cons]
  rw [foldl_splice off l (k+1)]
  simp only [splice,Array.toList_setIfInBounds]
  congr 1
theorem psplice_len {α:Type} (l:List α):∀ (cs:List α) (o:Nat),(psplice cs o l).length=cs.length:=by
 induction l with
 |nil=>intro cs o;rfl
 |cons a l ih=>intro cs o;simp only [psplice,ih,List.length_set]
section
variable {m:Mem} {F:Nat→Prop} {T:Nat→Option Tg} {σ:Nat→Value} {n:Nat}
inductive RPp (m:Mem) (F:Nat→Prop) (T:Nat→Option Tg) (σ:Nat→Value) (n:Nat):List (Nat×PV)→List (Nat×Value)→Prop
 |nil:RPp m F T σ n [] []
 |cons {i:Nat} {x:PV} {v:Value} {l:List (Nat×PV)} {r:List (Nat×Value)} (h:RP m F T σ n x v) (t:RPp m F T σ n l r):RPp m F T σ n ((i,x)::l) ((i,v)::r)
theorem pfill_rel (place:Nat→Option (Nat×Nat)):∀ {ps:List (Nat×PV)} {ps':List (Nat×Value)} {cs out:List PV} {cs':Array Value},RPp m F T σ n ps ps'→RPs m F T σ n cs cs'.toList→cs'.toList.all isCell=true →
 pfill place cs ps=some out→∃ out',Instr.fill place cs' ps'=some out'∧RPs m F T σ n out out'.toList∧out'.toList.all isCell=true
 |[],_,cs,out,cs',.nil,hc,ha,h=>by
  simp only [pfill,Option.some.injEq] at h
  subst h
  exact ⟨cs',rfl,hc,ha⟩
 |(i,x)::ps,_,cs,out,cs',.cons (v:=v) hx ht,hc,ha,h=>by
  simp only [pfill] at h
  have hn:notTup x∧isTup x=false:=by cases x<;>first|exact ⟨trivial,rfl⟩|(simp only [isTup] at h;cases h)
  rw [hn.2] at h
  simp only at h
  obtain ⟨h1,h2⟩:=pcells_rel hn.1 hx
  simp only [Instr.fill]
  cases hp:place i with
  |none=>rw [hp] at h;cases h
  |some q =>
   obtain ⟨off,size⟩:=q
   rw [hp] at h
   simp only at h ⊢
   split at h
   ·rename_i hl
    obtain ⟨hl,hle⟩:=hl
    have e1:=h1.length
    have e2:=hc.length
    simp only [Array.length_toList] at e1 e2
    rw [if_neg (by simp only [ne_eq,gt_iff_lt,Bool.or_eq_true,decide_eq_true_eq,not_or];omega)]
    refine pfill_rel place ht ?_ ?_ h
    ·rw [← Array.foldl_toList,Array.toList_zipIdx,foldl_splice,Nat.add_zero]
     exact RPs.splice off hc h1
    ·rw [← Array.foldl_toList,Array.toList_zipIdx,foldl_splice,Nat.add_zero]
     exact all_splice _ ha h2
   ·cases h
end
theorem evp_rel {Γ:Nat→Option (List Value×TypeId)} {m:Mem} {F:Nat→Prop} {σ:Nat→Value} {t:Tr Value} (hx:Ctx Γ m F σ H nx) (hl:RL m F (htag H) σ nx L t):∀ {ps:List (Nat×Operand)} {xs:List (Nat×PV)},evp Γ L ps=some xs→RPp m F (htag H) σ nx xs (ps.map fun (i,x)=>(i,ev t x))
 |[],_,h=>by cases h;exact .nil
 |(i,o)::os,xs,h=>by
  simp only [evp] at h
  cases h1:vev Γ L o with
  |none=>rw [h1] at h;cases h
  |some x =>
   rw [h1] at h
   cases h2:evp Γ L os with
   |none=>rw [h2] at h;cases h
   |some r=>rw [h2] at h;cases h;exact .cons (vev_rel hx hl h1) (evp_rel hx hl h2)
theorem build_struct {P:Program} {t:TypeId} {z:List Value} {fields:Array Field} {places:Array (Nat×Nat)} {ps:Array (Nat×Value)} {out:Array Value} (hz:zeroCellsOf P t=some z) (hu:P.underlying t=some (.struct fields))
 (hpl:dry P (Array.mapM (fun f=>do pure (f.offset,← sizeOf f.type)) fields)=some places) (hf:Instr.fill (fun x=>places[x]?) z.toArray ps.toList=some out):dry P (Instr.build t ps)=some (.agg out):=by
 obtain ⟨i,zv,h1,h2,h3,h4⟩:=zeroCellsOf_some hz
 unfold Instr.build
 simp only [dry_bind]
 have hzv:dry P (zeroValue t)=some zv:=by
  simp only [zeroValue,dry_bind,dry_typeInfo,h1,Option.bind_some,h2]
  rfl
 rw [hzv]
 simp only [Option.bind_some,dry_underlying,hu]
 simp only [dry_bind,hpl,Option.bind_some]
 have e:zv.cells=z.toArray:=by rw [h3]
 rw [e,hf]
 rfl
def placesL (P:Program):List Field→Option (List (Nat×Nat))
 |[]=>some []
 |f::l=>match P.info? f.type with
  |some i=>match placesL P l with
   |some r=>some ((f.offset,i.size)::r)
   |none=>none
  |none=>none
theorem dry_placesL {P:Program}:∀ (l:List Field),dry P (l.mapM fun f=>(do pure (f.offset,← sizeOf f.type):Sem (Nat×Nat)))=placesL P l
 |[]=>rfl
 |f::l=>by
  rw [List.mapM_cons]
  simp only [dry_bind,dry_sizeOf,placesL,dry_placesL l]
  cases P.info? f.type with
  |none=>rfl
  |some i =>
   simp only [Option.map_some,Option.bind_some]
   cases placesL P l<;>rfl
theorem dry_places {P:Program} {fields:Array Field} {pl:List (Nat×Nat)} (h:placesL P fields.toList=some pl):dry P (Array.mapM (fun f=>(do pure (f.offset,← sizeOf f.type):Sem (Nat×Nat))) fields)=some pl.toArray:=by
 rw [Array.mapM_eq_mapM_toList,map_eq_pure_bind,dry_bind,dry_placesL,h]
 rfl
theorem VVal.build {t:TypeId} {ps:Array (Nat×Operand)} {z:List Value} {fields:Array Field} {places:List (Nat×Nat)} {parts:List (Nat×PV)} {out:List PV} (hz:zeroCellsOf E.P t=some z) (hu:E.P.underlying t=some (.struct fields))
 (hpl:placesL E.P fields.toList=some places) (hp:evp E.Γ L ps.toList=some parts) (hf:pfill (fun x=>places[x]?) (z.map fun v=>.p (cellFV v)) parts=some out) (q:Q (mkAgg out) H nx) :
 VVal E w ⟨dst,.build t ps,ty,pos,af,gd⟩ L H nx Q :=
 VVal.quiet q fun m F σ tt h1 h2=>by
  obtain ⟨_,_,_,_,_,hpz⟩:=zeroCellsOf_some hz
  obtain ⟨out',e1,e2,e3⟩:=pfill_rel (fun x=>places[x]?) (evp_rel h1 h2 hp) (cs':=z.toArray) (RPs.zero hpz) (all_plain_isCell hpz) hf
  have e4:=build_struct (ps:=ps.map fun (i,x)=>(i,ev tt x)) hz hu (dry_places hpl) (by rw [Array.toList_map];simpa using e1)
  refine ⟨.agg out',fun _=>?_,mkAgg_rel e2 e3⟩
  simp only [aval,aop,hz,e4,Option.map_some]
theorem slice_new {Γ:Nat→Option (List Value×TypeId)} {m:Mem} {F:Nat→Prop} {σ:Nat→Value} {e:TypeId} {cs:List FV} {vs:List Value} (n:Nat) (h:Ctx Γ m F σ H nx) (hr:RFs m F cs vs) (hc:vs.all isCell=true) :
 Ctx Γ (m.alloc (.cells vs e 0 false)) F (upd σ nx (.slice (some ⟨m.size,0,none⟩) n 0)) ((nx,.vec e cs n false)::H) (nx+1) ∧
 Step m F σ H nx (m.alloc (.cells vs e 0 false)) F (upd σ nx (.slice (some ⟨m.size,0,none⟩) n 0)) ((nx,.vec e cs n false)::H) (nx+1)∧Quiet m (m.alloc (.cells vs e 0 false)) ∧
 RP (m.alloc (.cells vs e 0 false)) F (htag ((nx,.vec e cs n false)::H)) (upd σ nx (.slice (some ⟨m.size,0,none⟩) n 0)) (nx+1) (.vec nx n 0 n) (.slice (some ⟨m.size,0,none⟩) n 0):=by
 obtain ⟨c1,c2,c3⟩:=h.new (m':=m.alloc (.cells vs e 0 false)) (x:=.vec e cs n false) (s:=.slice (some ⟨m.size,0,none⟩) n 0) (by simp [Mem.alloc]) (fun c hc=>by rw [Mem.get_alloc,if_neg (by omega)]) (by simp only [Mem.alloc];omega)
  (fun c hc=>by simp only [blkOf,Option.some.injEq] at hc;omega) (.inr ⟨m.size,0,vs,rfl,by simp [Mem.alloc],fun hf=>Nat.lt_irrefl _ (h.fr _ hf),by rw [Mem.get_alloc,if_pos rfl],
   hr.mono (fun c hf=>⟨hf,by rw [Mem.get_alloc,if_neg (by have:=h.fr c hf;omega)]⟩),hc,fun _=>rfl⟩)
 refine ⟨c1,c2,c3,.vec (Nat.lt_succ_self _) rfl fun k hk=>?_⟩
 rw [htag_cons,if_pos rfl] at hk
 simp only [HB.tag,Option.some.injEq,Tg.vec.injEq] at hk
 refine ⟨by omega,fun _=>?_⟩
 rw [upd_same]
 rfl
theorem pfill_len (place:Nat→Option (Nat×Nat)):∀ (ps:List (Nat×PV)) {cs out:List PV},pfill place cs ps=some out→out.length=cs.length
 |[],cs,out,h=>by
  simp only [pfill,Option.some.injEq] at h
  rw [h]
 |(i,v)::rest,cs,out,h=>by
  simp only [pfill] at h
  repeat' split at h
  all_goals first|(cases h;done)|(have:=pfill_len place rest h;rw [this,psplice_len])
theorem roomCtx {Γ:Nat→Option (List Value×TypeId)} {m:Mem} {F:Nat→Prop} {σ:Nat→Value} (e:TypeId) (h:Ctx Γ m F σ H nx) :
 Ctx Γ m F (upd σ nx (.slice emptyAt 0 0)) ((nx,.vec e [] 0 false)::H) (nx+1)∧Step m F σ H nx m F (upd σ nx (.slice emptyAt 0 0)) ((nx,.vec e [] 0 false)::H) (nx+1)∧Quiet m m:=by
 exact h.new (m':=m) (x:=.vec e [] 0 false) (s:=.slice emptyAt 0 0) (Nat.le_refl _) (fun _ _=>rfl) (Nat.min_le_left _ _) (fun c hc=>by simp [blkOf,emptyAt] at hc) (.inl ⟨rfl,rfl,.inr ⟨0,0,0,rfl,rfl⟩⟩)
theorem room_vec {m:Mem} {F:Nat→Prop} {σ:Nat→Value} (e:TypeId) (H:Heap) (nx:Nat):RP m F (htag ((nx,.vec e [] 0 false)::H)) (upd σ nx (.slice emptyAt 0 0)) (nx+1) (.vec nx 0 0 0) (.slice emptyAt 0 0):=by
 refine .vec (Nat.lt_succ_self _) rfl fun n hn=>?_
 rw [htag_cons,if_pos rfl] at hn
 simp only [HB.tag,Option.some.injEq,Tg.vec.injEq] at hn
 subst hn
 refine ⟨Nat.le_refl _,fun _=>?_⟩
 rw [upd_same]
 exact ⟨rfl,rfl,rfl⟩
theorem VVal.buildSlice {t e:TypeId} {len:Nat} {ps:Array (Nat×Operand)} {z:List Value} {i:TypeInfo} {parts:List (Nat×PV)} {out:List PV} {fs:List FV} (hu:E.P.underlying t=some (.slice e)) (hi:E.P.info? e=some i)
 (hz:zeroCellsOf E.P e=some z) (hl:len*i.size≤2 ^ 24∧z.length=i.size∧0<i.size) (hp:evp E.Γ L ps.toList=some parts) (hf:pfill (fun j=>some (j*i.size,i.size)) ((repeatCells z len).map fun v=>.p (cellFV v)) parts=some out)
 (ha:allP out=some fs) (q:Q (.vec nx len 0 len) ((nx,.vec e fs len false)::H) (nx+1)):VVal E w ⟨dst,.buildSlice t len ps,ty,pos,af,gd⟩ L H nx Q:=by
 intro m F σ tt h1 h2
 obtain ⟨_,_,_,_,_,hpz⟩:=zeroCellsOf_some hz
 have hpr:=repeat_all hpz len
 obtain ⟨out',e1,e2,e3⟩:=pfill_rel (fun j=>some (j*i.size,i.size)) (evp_rel h1 h2 hp) (cs':=(repeatCells z len).toArray) (RPs.zero hpr) (all_plain_isCell hpr) hf
 have e1':Instr.fill (fun j=>some (j*i.size,i.size)) (repeatCells z len).toArray (ps.map fun (i,x)=>(i,ev tt x)).toList=some out':=by rw [Array.toList_map];exact e1
 by_cases h0:len=0
 ·subst h0
  have ho:out=[]:=List.length_eq_zero_iff.1 (by rw [pfill_len _ _ hf];rfl)
  subst ho
  have hfs:fs=[]:=by
   have:some ([]:List FV)=some fs:=ha
   exact (Option.some.inj this).symm
  subst hfs
  obtain ⟨c1,c2,c3⟩:=roomCtx e h1
  refine AVal.op (v:=.slice emptyAt 0 0) (fun _=>?_) ⟨_,_,_,F,_,q,c1,room_vec e H nx,c2,fun _=>c3⟩
  simp only [aval,aop,hu,hi,hz,hl,and_self,if_true,e1',e3]
 obtain ⟨c1,c2,c3,c4⟩:=slice_new (e:=e) len h1 (allP_rel ha e2) e3
 refine AVal.op (v:=.slice (some ⟨m.size,0,none⟩) len 0) (fun _=>?_) ⟨_,_,_,F,_,q,c1,c4,c2,fun _=>c3⟩
 simp only [aval,aop,hu,hi,hz,hl,and_self,if_true,e1',e3,newSlice,h0,if_false]
theorem VVal.makeSlice {t e:TypeId} {l c:Operand} {k1 k2:IntKind} {n:Nat} {z:List Value} {i:TypeInfo} (hu:E.P.underlying t=some (.slice e)) (hi:E.P.info? e=some i) (hz:zeroCellsOf E.P e=some z) (hl:vev E.Γ L l=some (.p (.int k1 n))) (hc:vev E.Γ L c=some (.p (.int k2 n)))
 (hb:n*(i.bytes+1)≤room∧n≤2 ^ 40) (hs:z.length=i.size∧0<i.size) (q:Q (.vec nx n 0 n) ((nx,.vec e ((repeatCells z n).map cellFV) n false)::H) (nx+1)):VVal E w ⟨dst,.makeSlice t l c,ty,pos,af,gd⟩ L H nx Q:=by
 intro m F σ tt h1 h2
 obtain ⟨_,_,_,_,_,hpz⟩:=zeroCellsOf_some hz
 have hpr:=repeat_all hpz n
 obtain ⟨c1,c2,c3,c4⟩:=slice_new (e:=e) n h1 (cellFVs_rel (F:=F) hpr) (all_plain_isCell hpr)
 refine AVal.op (v:=.slice (some ⟨m.size,0,none⟩) n 0) (fun _=>?_) ⟨_,_,_,F,_,q,c1,c4,c2,fun _=>c3⟩
 have h0:(0:Int)≤(n:Int)∧(n:Int)≤(n:Int)∧(n:Int).toNat*(i.bytes+1)≤room∧(n:Int)≤2 ^ 40∧z.length=i.size∧0<i.size:=⟨by omega,by omega,by rw [Int.toNat_natCast];exact hb.1,by have:=hb.2;omega,hs⟩
 simp only [aval,aop,hu,vev_int h1 h2 hl,vev_int h1 h2 hc,hi,hz]
 rw [if_pos h0]
 simp only [newSlice,Int.toNat_natCast]
def SlC (Γ:Nat→Option (List Value×TypeId)) (L:Frame) (H:Heap) (nx:Nat) (x:Operand) (sz:Nat) (xs:List FV) (k:Nat):Prop :=
 ∀ m F σ t,Ctx Γ m F σ H nx→RL m F (htag H) σ nx L t→lenOf (ev t x)=some k∧∃ l,sliceCells m sz k (ev t x)=some l∧RFs m F xs l∧l.all isCell=true
theorem SlC.lst {Γ:Nat→Option (List Value×TypeId)} {x:Operand} {e:TypeId} {sz k:Nat} {xs:List FV} (h:vev Γ L x=some (.p (.lst e xs k))) (hl:xs.length=k*sz):SlC Γ L H nx x sz xs k:=fun m F σ t h1 h2=>by
 have:=vev_rel h1 h2 h
 generalize ev t x=v at this
 cases this with
 |p h =>
  cases h with
  |nil=>exact ⟨rfl,[],rfl,.nil,rfl⟩
  |room=>exact ⟨rfl,[],rfl,.nil,rfl⟩
  |lst hF hm hw hr hc =>
   rename_i b o g vs ws ro
   refine ⟨rfl,ws,?_,hr,hc⟩
   simp only [sliceCells,Nat.le_refl,if_true,Mem.cellsAt,hm]
   simp only [agen,Option.getD_some,if_true]
   rw [← hl];exact hw
theorem SlC.vec {Γ:Nat→Option (List Value×TypeId)} {x:Operand} {b n off len sz:Nat} {e:TypeId} {cs:List FV} {z:Bool} (h:vev Γ L x=some (.vec b n off len)) (hb:hget H b=some (.vec e cs n z)) (hl:off+len*sz≤cs.length) :
 SlC Γ L H nx x sz ((cs.drop off).take (len*sz)) len:=fun m F σ t h1 h2=>by
 have hsub:=vev_vec h1 h2 h hb
 obtain ⟨_,hr⟩:=h1.hp b _ hb
 rcases hr with ⟨r1,r2,r3⟩|⟨c,g,vs,r1,r2,r3,r4,r5,r6,r7⟩
 ·have hv:(∃ a,ev t x=.slice a 0 0∧(a=none∨∃ b o g,a=some ⟨b,o,some g⟩))∧len=0:=by
   rcases r3 with ⟨r3,_⟩|⟨b',o',g',r3,_⟩
   ·rw [r3] at hsub;obtain ⟨q1,q2,q3⟩:=hsub;exact ⟨⟨none,q1,.inl rfl⟩,q3⟩
   ·rw [r3] at hsub;simp only [SubOf] at hsub;obtain ⟨q1,q2,q3⟩:=hsub;exact ⟨⟨_,q1,.inr ⟨_,_,_,rfl⟩⟩,q3⟩
  obtain ⟨⟨a,ha,hb'⟩,rfl⟩:=hv
  rw [ha]
  refine ⟨rfl,[],?_,by rw [Nat.zero_mul,List.take_zero];exact .nil,rfl⟩
  rcases hb' with rfl|⟨_,_,_,rfl⟩<;>rfl
 ·rw [r1] at hsub
  simp only [SubOf] at hsub
  rw [hsub]
  have hlen:=r5.length
  have hle:len*sz≤(vs.drop off).length:=by rw [List.length_drop];omega
  refine ⟨rfl,(vs.drop off).take (len*sz),?_,?_,all_take (all_drop r6 _) _⟩
  ·simp only [sliceCells,Nat.le_refl,if_true,Mem.cellsAt,r4]
   simp only [agen,Option.getD_some,if_true,takeN,if_pos hle]
  ·have:∀ {cs:List FV} {vs:List Value} (k:Nat),RFs m F cs vs→RFs m F (cs.take k) (vs.take k):=by
    intro cs vs k h
    induction k generalizing cs vs with
    |zero=>exact .nil
    |succ k ih=>cases h with|nil=>exact .nil|cons h t=>exact .cons h (ih t)
   exact this _ (RFs.drop off r5)
theorem SlC.all {Γ:Nat→Option (List Value×TypeId)} {x:Operand} {b n sz:Nat} {e:TypeId} {cs:List FV} {z:Bool} (h:vev Γ L x=some (.vec b n 0 n)) (hb:hget H b=some (.vec e cs n z)) (hl:cs.length=n*sz):SlC Γ L H nx x sz cs n:=by
 have:=SlC.vec (sz:=sz) (nx:=nx) h hb (by omega)
 rw [List.drop_zero,← hl,List.take_length] at this
 exact this
theorem VVal.append {s x:Operand} {sT xT e:TypeId} {xd:TypeDesc} {i:TypeInfo} {b n k:Nat} {cs xs:List FV} {z:Bool} (hs:vev E.Γ L s=some (.vec b n 0 n)) (hb:hget H b=some (.vec e cs n z)) (hx:SlC E.Γ L H nx x i.size xs k)
 (hsT:E.P.underlying sT=some (.slice e)) (hxT:E.P.underlying xT=some xd) (hd:∀ k,xd≠.int k) (hi:E.P.info? e=some i) (hzs:zeroSized i=true) (h0:0<k) (hroom:(n+k)*(i.bytes+1)≤room) (hl:cs.length=n*i.size) (hsz:0<i.size)
 (q:Q (.vec b (n+k) 0 (n+k)) (hput H b (.vec e (cs++xs) (n+k) z)) nx):VVal E true ⟨dst,.call { callee:=.builtin .append,args:=#[s,x],argTypes:=#[sT,xT] },ty,pos,af,gd⟩ L H nx Q:=by
 intro m F σ t h1 h2
 have hsub:=vev_vec h1 h2 hs hb
 obtain ⟨hx1,l,hx2,hx3,hx4⟩:=hx m F σ t h1 h2
 obtain ⟨hlt,hr⟩:=h1.hp b _ hb
 have hlenS:lenOf (ev t s)=some n:=by
  rcases hr with ⟨r1,r2,r3⟩|⟨c,g,vs,r1,_⟩
  ·rcases r3 with ⟨r3,_⟩|⟨b',o',g',r3,_⟩<;>rw [r3] at hsub<;>simp only [SubOf,nilSlice] at hsub<;>rw [hsub.1,r2]<;>rfl
  ·rw [r1] at hsub;simp only [SubOf] at hsub;rw [hsub];rfl
 have happ:∀ v m',appendCells m e i.size l k (ev t s)=some (v,m')→aappend E.P #[sT,xT] #[ev t s,ev t x] m=some (v,m'):=by
  intro v m' ha
  have hxd:∀ a:Option (Value×Mem),a=some (v,m')→(match xd with| .int _=>none|_=>a)=some (v,m'):=by
   intro a ha;cases xd<;>first|exact ha|exact absurd rfl (hd _)
  simp only [aappend,List.getElem?_toArray,List.getElem?_cons_zero,List.getElem?_cons_succ,hsT,hxT,hlenS,hi,hzs,Bool.not_true,Bool.false_eq_true,if_false]
  cases xd<;>first|exact absurd rfl (hd _)|(simp only [hx1,hx2,hx4,Bool.and_true,decide_eq_true_eq];rw [if_pos hroom];exact ha)
 have hfin:∀ v m' s',appendCells m e i.size l k (ev t s)=some (v,m')→s'=v→(Ctx E.Γ m' F (upd σ b s') (hput H b (.vec e (cs++xs) (n+k) z)) nx∧Step m F σ H nx m' F (upd σ b s') (hput H b (.vec e (cs++xs) (n+k) z)) nx)→(∃ c g,v=.slice (some ⟨c,0,none⟩) (n+k) g) →
  AVal E.P E.O E.G ⟨dst,.call { callee:=.builtin .append,args:=#[s,x],argTypes:=#[sT,xT] },ty,pos,af,gd⟩ ⟨t,m⟩ fun v m'=>∃ r H' nx' F' σ',Q r H' nx'∧Ctx E.Γ m' F' σ' H' nx'∧RP m' F' (htag H') σ' nx' r v∧Step m F σ H nx m' F' σ' H' nx'∧(true=false→Quiet m m'):=by
  rintro v m' s' ha rfl ⟨c1,c2⟩ ⟨c,g,hv⟩
  refine AVal.op (v:=s') (m':=m') (fun _=>?_) ⟨_,_,_,F,_,q,c1,?_,c2,fun h=>by cases h⟩
  ·have:=happ _ _ ha
   simp only [aval,aop]
   simpa using this
  ·refine .vec hlt (by rw [hv];rfl) fun j hj=>?_
   rw [htag_hput,if_pos rfl,htag,hb] at hj
   simp only [Option.map_some,HB.tag,Option.some.injEq,Tg.vec.injEq] at hj
   refine ⟨by omega,fun _=>?_⟩
   rw [upd_same,hv]
   rfl
 have htle:TLe (some (HB.vec e cs n z).tag) (some (HB.vec e (cs++xs) (n+k) z).tag):=Nat.le_add_right _ _
 have hne:(HB.vec e cs n z).tag=(HB.vec e (cs++xs) (n+k) z).tag→False:=by simp only [HB.tag,Tg.vec.injEq];omega
 rcases hr with ⟨r1,r2,r3⟩|⟨c,g,vs,r1,r2,r3,r4,r5,r6,r7⟩
 ·have hv:blkOf (σ b)=none∧(ev t s=.slice none 0 0∨∃ b o g,ev t s=.slice (some ⟨b,o,some g⟩) 0 0):=by
   rcases r3 with ⟨r3,_⟩|⟨b',o',g',r3,_⟩
   ·rw [r3] at hsub ⊢;exact ⟨rfl,.inl hsub.1⟩
   ·rw [r3] at hsub ⊢;simp only [SubOf] at hsub;exact ⟨rfl,.inr ⟨_,_,_,hsub.1⟩⟩
  have ha:appendCells m e i.size l k (ev t s)=some (newSlice m e l k):=by
   rcases hv.2 with hv|⟨_,_,_,hv⟩<;>rw [hv]<;>simp only [appendCells]<;>rw [if_neg (by omega)]
  subst r1;subst r2
  refine hfin _ _ _ ha rfl ?_ ⟨m.size,0,by rw [Nat.zero_add]⟩
  refine h1.change (x0:=.vec e [] 0 z) (x':=.vec e ([]++xs) (0+k) z) hb htle (fun e=>(hne e).elim) (by simp [newSlice,Mem.alloc]) (fun c hc _=>by (try simp only [newSlice]);rw [Mem.get_alloc,if_neg (by omega)])
   (fun k' k1 k2 _=>by simp only [newSlice,Mem.alloc];omega) (fun c hc=>by simp only [newSlice,blkOf,Option.some.injEq] at hc;right;omega) ?_
  refine .inr ⟨m.size,0,l,by simp [newSlice],by simp [newSlice,Mem.alloc],fun hf=>Nat.lt_irrefl _ (h1.fr _ hf),by (try simp only [newSlice]);rw [Mem.get_alloc,if_pos rfl],?_,hx4,fun h=>by omega⟩
  rw [List.nil_append]
  exact hx3.mono (fun c hf=>⟨hf,by (try simp only [newSlice]);rw [Mem.get_alloc,if_neg (by have:=h1.fr c hf;omega)]⟩)
 ·rw [r1] at hsub
  simp only [SubOf] at hsub
  have hlen:=r5.length
  have hold:takeN (n*i.size) (vs.drop 0)=some vs:=by
   rw [List.drop_zero,← hl,hlen];simp [takeN]
  have ha:appendCells m e i.size l k (ev t s)=some (.slice (some ⟨c,0,none⟩) (n+k) (g+1),m.put c (.cells (vs++l) e (g+1) false)):=by
   rw [hsub]
   simp only [appendCells,r4,beq_self_eq_true,decide_eq_true hsz,Bool.and_self,if_true,hold]
   simp
  have hput':∀ d,c≠d→(m.put c (.cells (vs++l) e (g+1) false)).get d=m.get d:=fun d hd=>by rw [Mem.get_put,if_neg hd]
  refine hfin _ _ _ ha rfl ?_ ⟨c,g+1,rfl⟩
  refine h1.change (x':=.vec e (cs++xs) (n+k) z) hb htle (fun e=>(hne e).elim) (Nat.le_refl _) (fun d _ hd=>hput' d fun e=>hd (by rw [r1,e];rfl)) (fun k' k1 k2 k3=>by
   have:=k3 c (by rw [r1];rfl)
   simp only [Mem.put];omega) (fun d hd=>.inl (by rw [r1];exact hd)) ?_
  refine .inr ⟨c,g+1,vs++l,rfl,r2,r3,by rw [Mem.get_put,if_pos rfl],?_,by rw [List.all_append,r6,hx4];rfl,fun h=>by omega⟩
  exact (r5.append hx3).mono (fun d hd=>⟨hd,hput' d fun e=>r3 (e▸hd)⟩)
end Go.Vm
namespace Go.Vm
open Go.Am
variable {P:Program}
inductive All2 {α β:Type} (R:α→β→Prop):List α→List β→Prop
 |nil:All2 R [] []
 |cons {a:α} {b:β} {l:List α} {r:List β} (h:R a b) (t:All2 R l r):All2 R (a::l) (b::r)
def HasT (P:Program):Nat→TypeId→List FV→Prop
 |0,_,_=>False
 |f+1,t,fs=>match P.underlying t with
  |some .bool=>∃ b,fs=[.bool b]
  |some (.int k)=>∃ n,fs=[.int k n]∧(Lit.int k n).wf=true
  |some .string=>∃ s:ByteArray,fs=[.str s]∧s.size≤maxLen
  |some (.slice e)=>∃ L:List (List FV),fs=[.lst e L.flatten L.length]∧L.length≤maxLen∧∀ x∈L,HasT P f e x
  |some (.struct sf)=>∃ parts:List (List FV),fs=parts.flatten∧All2 (fun (fd:Field) x=>HasT P f fd.type x) sf.toList parts
  |some (.array n e)=>∃ L:List (List FV),fs=L.flatten∧L.length=n∧∀ x∈L,HasT P f e x
  |_=>False
def tyOk (P:Program):Nat→TypeId→Bool
 |0,_=>false
 |f+1,t=>match P.underlying t with
  |some .bool|some (.int _)|some .string=>true
  |some (.slice e)=>P.cellsOf e != 0&&tyOk P f e
  |some (.struct fs)=>decide ((fs.toList.map fun fd=>((List.range (P.cellsOf t)).drop fd.offset).take (P.cellsOf fd.type)).flatten=List.range (P.cellsOf t))&&fs.toList.all fun fd=>tyOk P f fd.type
  |some (.array n e)=>decide (((List.range n).map fun i=>((List.range (P.cellsOf t)).drop (i*P.cellsOf e)).take (P.cellsOf e)).flatten=List.range (P.cellsOf t))&&tyOk P f e
  |_=>false
structure Laid (m m':Mem) (fs:List FV) (l:List Value):Prop where
 rel:RFs m' (fun c=>c<m'.size) fs l
 cell:l.all isCell=true
 size:m.size≤m'.size
 get:∀ c,c<m.size→m'.get c=m.get c
theorem Laid.refl (m:Mem) {fs:List FV} {l:List Value} (h:RFs m (fun c=>c<m.size) fs l) (hc:l.all isCell=true):Laid m m fs l:=⟨h,hc,Nat.le_refl _,fun _ _=>rfl⟩
theorem grow_fz {m m':Mem} (hs:m.size≤m'.size) (hg:∀ c,c<m.size→m'.get c=m.get c):∀ c,c<m.size→c<m'.size∧m'.get c=m.get c:=fun c hc=>⟨by omega,hg c hc⟩
section
variable {H:Type} {enc:TypeId×Value→H} {W:World} {held:Bool}
def CanLay (P:Program) (f:Nat) (t:TypeId) (d:DataW H):Prop:=∀ m,∃ l m' fs,absD P f t d m=some (l,m')∧HasT P f t fs∧Laid m m' fs l
theorem lay_list (f:Nat):∀ (xs:List (TypeId×DataW H)),(∀ x∈xs,CanLay P f x.1 x.2)→∀ m,∃ l m' L,absL (absD P f) xs m=some (l,m')∧All2 (fun (x:TypeId×DataW H) fs=>HasT P f x.1 fs) xs L∧Laid m m' L.flatten l
 |[],_,m=>⟨[],m,[],rfl,.nil,Laid.refl m .nil rfl⟩
 |(t,d)::xs,h,m=>by
  obtain ⟨l1,m1,fs,h1,h2,h3⟩:=h (t,d) (by simp) m
  obtain ⟨l2,m2,L,h4,h5,h6⟩:=lay_list f xs (fun x hx=>h x (by simp [hx])) m1
  refine ⟨l1++l2,m2,fs::L,by simp only [absL,h1,h4],.cons h2 h5,?_⟩
  rw [List.flatten_cons]
  exact ⟨(h3.rel.mono (grow_fz h6.size h6.get)).append h6.rel,by rw [List.all_append,h3.cell,h6.cell];rfl,Nat.le_trans h3.size h6.size,fun c hc=>(h6.get c (by have:=h3.size;omega)).trans (h3.get c hc)⟩
theorem All2.map_left {α β γ:Type} {R:β→γ→Prop} {g:α→β}:∀ {l:List α} {r:List γ},All2 R (l.map g) r→All2 (fun a c=>R (g a) c) l r
 |[],_,.nil=>.nil
 |_::_,_,.cons h t=>.cons h (All2.map_left t)
theorem All2.const {α γ:Type} {R:γ→Prop}:∀ {l:List α} {r:List γ},All2 (fun _ c=>R c) l r→l.length=r.length∧∀ x∈r,R x
 |_,_,.nil=>⟨rfl,by simp⟩
 |_,_,.cons h t=>by
  obtain ⟨h1,h2⟩:=All2.const t
  exact ⟨by simp [h1],fun x hx=>(List.mem_cons.1 hx).elim (fun e=>e▸h) (h2 x)⟩
theorem All2.zip {α β γ:Type} {R:α→γ→Prop}:∀ {l:List α} {ds:List β} {r:List γ},l.length=ds.length→All2 (fun (x:α×β) c=>R x.1 c) (l.zip ds) r→All2 R l r
 |[],[],_,_,h=>by cases h;exact .nil
 |a::l,d::ds,r,hl,h=>by
  rw [List.zip_cons_cons] at h
  cases h with|cons h t=>exact .cons h (All2.zip (by simpa using hl) t)
 |[],_::_,_,hl,_=>by simp at hl
 |_::_,[],_,hl,_=>by simp at hl
theorem can_lay:∀ (f:Nat) (t:TypeId) (cs:List Value) (d:DataW H) (ps:List MemPlace),tyOk P f t=true→DataW.trod enc P W 0 (fun _=>true) held f t cs=some (d,ps)→CanLay P f t d
 |0,_,_,_,_,h,_=>by cases h
 |f+1,t,cs,d,ps,hok,h=>by
  have ih:=can_lay f
  intro m
  unfold DataW.trod at h
  unfold absD
  unfold tyOk at hok
  unfold HasT
  cases hu:P.underlying t with
  |none=>rw [hu] at hok;cases hok
  |some u =>
   rw [hu] at h hok
   cases u with
   |bool =>
    match cs,h with
    |[.bool b],h =>
     simp only [Option.some.injEq,Prod.mk.injEq] at h
     obtain ⟨rfl,rfl⟩:=h
     exact ⟨_,_,_,rfl,⟨b,rfl⟩,Laid.refl m (.cons (.bool b) .nil) rfl⟩
   |int k =>
    match cs,h with
    |[.int k' n],h =>
     simp only at h
     split at h
     ·rename_i hc
      simp only [Option.some.injEq,Prod.mk.injEq] at h
      obtain ⟨rfl,rfl⟩:=h
      exact ⟨_,_,_,rfl,⟨n,rfl,hc.2⟩,Laid.refl m (.cons (.int k n) .nil) rfl⟩
     ·cases h
   |string =>
    match cs,h with
    |[.string s],h =>
     simp only at h
     split at h
     ·rename_i hc
      simp only [Option.some.injEq,Prod.mk.injEq] at h
      obtain ⟨rfl,rfl⟩:=h
      exact ⟨_,_,_,rfl,⟨s,rfl,hc⟩,Laid.refl m (.cons (.str s) .nil) rfl⟩
     ·cases h
   |slice e =>
    simp only [Bool.and_eq_true,bne_iff_ne,ne_eq] at hok
    match cs,h with
    |[.slice none 0 0],h =>
     simp only [Option.some.injEq,Prod.mk.injEq] at h
     obtain ⟨rfl,rfl⟩:=h
     exact ⟨_,_,_,rfl,⟨[],rfl,Nat.zero_le _,by simp⟩,Laid.refl m (.cons (.nil e) .nil) rfl⟩
    |[.slice (some a) len cap],h =>
     simp only at h
     split at h
     ·rename_i hc
      simp only [Option.bind_eq_some_iff,Option.map_eq_some_iff] at h
      obtain ⟨elems,h1,rest,h2,h3⟩:=h
      simp only [Prod.mk.injEq] at h3
      obtain ⟨rfl,rfl⟩:=h3
      obtain ⟨hl,hm⟩:=mapM_some h1
      simp only [hok.1,if_false]
      split
      ·rename_i he
       simp only [Bool.and_eq_true,List.isEmpty_iff] at he
       exact ⟨_,_,_,rfl,⟨[],rfl,Nat.zero_le _,by simp⟩,Laid.refl m (.cons (.room e 0 0 0) .nil) rfl⟩
      ·have hcan:∀ x∈(elems.map (·.1)).map fun x=>(e,x),CanLay P f x.1 x.2:=by
        intro x hx
        simp only [List.mem_map] at hx
        obtain ⟨y,⟨z,hz,rfl⟩,rfl⟩:=hx
        obtain ⟨i,hi⟩:=List.getElem?_of_mem hz
        have hlt:i<(List.range len).length:=by
         have:i<elems.length:=by
          rcases Nat.lt_or_ge i elems.length with h|h
          ·exact h
          ·rw [List.getElem?_eq_none h] at hi;cases hi
         omega
        obtain ⟨b,hb1,hb2⟩:=hm i _ (List.getElem?_eq_getElem hlt)
        rw [hi] at hb1;cases hb1
        simp only [Option.bind_eq_some_iff] at hb2
        obtain ⟨cs',_,hb3⟩:=hb2
        exact ih e cs' z.1 z.2 hok.2 hb3
       obtain ⟨l,m',L,e1,e2,e3⟩:=lay_list f _ hcan m
       obtain ⟨e4,e5⟩:=All2.const (R:=fun fs=>HasT P f e fs) (All2.map_left (R:=fun (x:TypeId×DataW H) fs=>HasT P f x.1 fs) (g:=fun x=>(e,x)) e2)
       rw [e1]
       simp only [List.length_map,List.length_range] at e4 hl ⊢
       have hg:∀ c,c<m'.size→(m'.alloc (.cells l e 0 true)).get c=m'.get c:=fun c hc=>by rw [Mem.get_alloc,if_neg (by omega)]
       have hsz:(m'.alloc (.cells l e 0 true)).size=m'.size+1:=rfl
       refine ⟨_,_,_,rfl,⟨L,rfl,by omega,e5⟩,⟨?_,rfl,by rw [hsz];have:=e3.size;omega,fun c hc=>(hg c (by have:=e3.size;omega)).trans (e3.get c hc)⟩⟩
       rw [show elems.length=L.length by omega]
       refine .cons (.lst (by rw [hsz];omega) (by rw [Mem.get_alloc,if_pos rfl]) (ws:=l) ?_ (e3.rel.mono fun c hc=>⟨by rw [hsz];omega,hg c hc⟩) e3.cell) .nil
       rw [List.drop_zero,e3.rel.length];simp [takeN]
     ·cases h
   |struct sf =>
    simp only [Bool.and_eq_true,decide_eq_true_eq] at hok
    obtain ⟨hok1,hok2⟩:=hok
    have h':(if cs.length=P.cellsOf t then (sf.toList.mapM fun f_1=>DataW.trod enc P W 0 (fun _=>true) held f f_1.type ((cs.drop f_1.offset).take (P.cellsOf f_1.type))).map fun xs=>((.agg (xs.map (·.1)):DataW H),xs.flatMap (·.2)) else none)=some (d,ps):=by
     revert h;cases cs with
     |nil=>exact id
     |cons c cs=>cases c<;>cases cs<;>exact id
    split at h'
    ·simp only [Option.map_eq_some_iff,Prod.mk.injEq] at h'
     obtain ⟨xs,h1,rfl,rfl⟩:=h'
     obtain ⟨hl,hm⟩:=mapM_some h1
     simp only [hok1,if_true]
     have hcan:∀ x∈(sf.toList.map (·.type)).zip (xs.map (·.1)),CanLay P f x.1 x.2:=by
      intro x hx
      obtain ⟨i,hi⟩:=List.getElem?_of_mem hx
      rw [List.getElem?_zip_eq_some,List.getElem?_map,List.getElem?_map,Option.map_eq_some_iff,Option.map_eq_some_iff] at hi
      obtain ⟨⟨fd,hfd,hx1⟩,⟨y,hy,hx2⟩⟩:=hi
      obtain ⟨b,hb1,hb2⟩:=hm i fd hfd
      rw [hy] at hb1;cases hb1
      have hx':x=(fd.type,y.1):=by rw [hx1,hx2]
      rw [hx']
      exact ih fd.type _ y.1 y.2 (List.all_eq_true.1 hok2 fd (List.mem_of_getElem? hfd)) hb2
     obtain ⟨l,m',L,e1,e2,e3⟩:=lay_list f _ hcan m
     refine ⟨l,m',L.flatten,e1,⟨L,rfl,?_⟩,e3⟩
     exact All2.map_left (R:=fun t fs=>HasT P f t fs) (g:=fun (fd:Field)=>fd.type) (All2.zip (R:=fun t fs=>HasT P f t fs) (by simp only [List.length_map];omega) e2)
    ·cases h'
   |array n e =>
    simp only [Bool.and_eq_true,decide_eq_true_eq] at hok
    obtain ⟨hok1,hok2⟩:=hok
    have h':(if cs.length=P.cellsOf t then ((List.range n).mapM fun i=>DataW.trod enc P W 0 (fun _=>true) held f e ((cs.drop (i*P.cellsOf e)).take (P.cellsOf e))).map fun xs=>((.agg (xs.map (·.1)):DataW H),xs.flatMap (·.2)) else none)=some (d,ps):=by
     revert h;cases cs with
     |nil=>exact id
     |cons c cs=>cases c<;>cases cs<;>exact id
    split at h'
    ·simp only [Option.map_eq_some_iff,Prod.mk.injEq] at h'
     obtain ⟨xs,h1,rfl,rfl⟩:=h'
     obtain ⟨hl,hm⟩:=mapM_some h1
     simp only [hok1,if_true]
     have hcan:∀ x∈(xs.map (·.1)).map fun x=>(e,x),CanLay P f x.1 x.2:=by
      intro x hx
      simp only [List.mem_map] at hx
      obtain ⟨y,⟨z,hz,rfl⟩,rfl⟩:=hx
      obtain ⟨i,hi⟩:=List.getElem?_of_mem hz
      have hlt:i<(List.range n).length:=by
       have:i<xs.length:=by
        rcases Nat.lt_or_ge i xs.length with h|h
        ·exact h
        ·rw [List.getElem?_eq_none h] at hi;cases hi
       omega
      obtain ⟨b,hb1,hb2⟩:=hm i _ (List.getElem?_eq_getElem hlt)
      rw [hi] at hb1;cases hb1
      exact ih e _ z.1 z.2 hok2 hb2
     obtain ⟨l,m',L,e1,e2,e3⟩:=lay_list f _ hcan m
     obtain ⟨e4,e5⟩:=All2.const (R:=fun fs=>HasT P f e fs) (All2.map_left (R:=fun (x:TypeId×DataW H) fs=>HasT P f x.1 fs) (g:=fun x=>(e,x)) e2)
     simp only [List.length_map,List.length_range] at e4 hl
     exact ⟨l,m',L.flatten,e1,⟨L,rfl,by omega,e5⟩,e3⟩
    ·cases h'
   |_=>cases hok
end
end Go.Vm
namespace Go.Vm
open Go.Am
variable {P:Program}
def noO:Oracle:=fun _=>none
open Classical in
noncomputable def trueO (G:List Nat) (M0:Mem) (fs:List FuncId):Oracle:=fun f =>
 if f∈fs then some fun asW m=>if asW=[]∧∀ k∈G,m.get k=M0.get k then some (.bool true,m) else none else none
theorem globMem_get {F:Nat} {laid:List (String×DataW Unit)} {k:Nat} (hk:k<P.globals.size):(globMem P F laid).get k=match globAt P F laid k with|some (e,l)=>.cells l e 0 true|none=>.cells [] 0 0 true:=by
 rw [globMem,get_allocs,if_neg (by simp [Am.empty])]
 simp only [Am.empty,Nat.sub_zero,List.getElem?_map]
 rw [List.getElem?_eq_getElem (by simpa using hk)]
 simp only [List.getElem_range,Option.map_some]
 cases globAt P F laid k<;>rfl
theorem globMem_size {F:Nat} {laid:List (String×DataW Unit)}:(globMem P F laid).size=P.globals.size:=by rw [globMem,size_allocs];simp [Am.empty]
theorem globList_mem {F:Nat} {laid:List (String×DataW Unit)} {k:Nat} (h:k∈globList P F laid):k<P.globals.size∧∃ e l,globAt P F laid k=some (e,l):=by
 simp only [globList,List.mem_filter,List.mem_range] at h
 obtain ⟨h1,h2⟩:=h
 cases hg:globAt P F laid k with
 |none=>rw [hg] at h2;cases h2
 |some x=>exact ⟨h1,x.1,x.2,rfl⟩
theorem globAt_plain {F:Nat} {laid:List (String×DataW Unit)} {k:Nat} {e:TypeId} {l:List Value} (h:globAt P F laid k=some (e,l)):l.all Am.plainCell=true:=by
 unfold globAt at h
 split at h
 ·rename_i x g _ _
  simp only [Option.map_eq_some_iff,Prod.mk.injEq] at h
  obtain ⟨r,h1,_,rfl⟩:=h
  unfold absP at h1
  split at h1
  ·rename_i l' m' _
   split at h1
   ·rename_i hp;cases h1;exact hp
   ·cases h1
  ·cases h1
 ·cases h
def gam (P:Program) (F:Nat) (laid:List (String×DataW Unit)):Nat→Option (List Value×TypeId):=fun k=>if k<P.globals.size then (globAt P F laid k).map fun x=>(x.2,x.1) else none
noncomputable def lawEnv (P:Program) (F:Nat) (laid:List (String×DataW Unit)) (fs:List FuncId):Env :=
 ⟨P,trueO (globList P F laid) (globMem P F laid) fs,globList P F laid,gam P F laid⟩
theorem HasT.array {f n:Nat} {t e:TypeId} {fs:List FV} (h:HasT P (f+1) t fs) (hu:P.underlying t=some (.array n e)):∃ L:List (List FV),fs=L.flatten∧L.length=n∧∀ x∈L,HasT P f e x:=by
 unfold HasT at h;rw [hu] at h;exact h
def HasTs (P:Program) (F:Nat):List TypeId→List (List FV)→Prop:=All2 (fun t fs=>HasT P F t fs)
def packF (P:Program) (t:TypeId) (fs:List FV):Option FV :=
 match P.underlying t,fs with
 |some (.struct _),fs=>some (.agg fs)
 |some (.array _ _),fs=>some (.agg fs)
 |some .bool,[v]|some (.int _),[v]|some .string,[v]|some (.slice _),[v]=>some v
 |_,_=>none
theorem pack_both {m:Mem} {F:Nat→Prop} {n:Nat} {t:TypeId} {fs:List FV} {l:List Value} (h:RFs m F fs l) (hc:l.all isCell=true) (ht:HasT P n t fs):∃ x v,packF P t fs=some x∧packT P t l=some v∧RF m F x v:=by
 cases n with
 |zero=>exact ht.elim
 |succ n =>
  unfold HasT at ht
  unfold packF packT
  cases hu:P.underlying t with
  |none=>rw [hu] at ht;exact ht.elim
  |some u =>
   rw [hu] at ht
   cases u with
   |bool=>obtain ⟨b,rfl⟩:=ht;cases h with|cons h1 t1=>cases t1;exact ⟨_,_,rfl,rfl,h1⟩
   |int k=>obtain ⟨b,rfl,_⟩:=ht;cases h with|cons h1 t1=>cases t1;exact ⟨_,_,rfl,rfl,h1⟩
   |string=>obtain ⟨b,rfl,_⟩:=ht;cases h with|cons h1 t1=>cases t1;exact ⟨_,_,rfl,rfl,h1⟩
   |slice e=>obtain ⟨b,rfl,_⟩:=ht;cases h with|cons h1 t1=>cases t1;exact ⟨_,_,rfl,rfl,h1⟩
   |struct sf=>exact ⟨_,_,rfl,rfl,.agg h hc⟩
   |array k e=>exact ⟨_,_,rfl,rfl,.agg h hc⟩
   |_=>exact ht.elim
theorem tyOk_succ:∀ (f:Nat) (t:TypeId),tyOk P f t=true→tyOk P (f+1) t=true
 |0,_,h=>by cases h
 |f+1,t,h=>by
  have ih:=tyOk_succ f
  unfold tyOk at h ⊢
  cases hu:P.underlying t with
  |none=>rw [hu] at h;cases h
  |some u =>
   rw [hu] at h
   cases u with
   |bool=>rfl
   |int k=>rfl
   |string=>rfl
   |slice e =>
    simp only [Bool.and_eq_true] at h ⊢
    exact ⟨h.1,ih e h.2⟩
   |struct fs =>
    simp only [Bool.and_eq_true,List.all_eq_true] at h ⊢
    exact ⟨h.1,fun fd hfd=>ih _ (h.2 fd hfd)⟩
   |array n e =>
    simp only [Bool.and_eq_true] at h ⊢
    exact ⟨h.1,ih e h.2⟩
   |_=>cases h
theorem tyOk_le {f g:Nat} {t:TypeId} (hfg:f≤g) (h:tyOk P f t=true):tyOk P g t=true:=by
 induction hfg with
 |refl=>exact h
 |step _ ih=>exact tyOk_succ _ _ ih
section
variable {H:Type} {enc:TypeId×Value→H} {W:World} {held:Bool}
def TrodN (enc:TypeId×Value→H) (P:Program) (W:World) (held:Bool) (n:Nat):List TypeId→List Value→List (DataW H)→Prop
 |[],[],[]=>True
 |t::ts,v::vs,d::ds=>(∃ p,DataW.trod enc P W 0 (fun _=>true) held n t v.cells.toList=some (d,p))∧TrodN enc P W held n ts vs ds
 |_,_,_=>False
theorem trodN:∀ (ts:List TypeId) (vs:List Value) (ds:List (DataW H)) (ps:List MemPlace),DataW.TrodAll enc P W 0 (fun _=>true) held ts vs ds ps→∃ N,∀ n,N≤n→TrodN enc P W held n ts vs ds
 |[],[],[],_,_=>⟨0,fun _ _=>trivial⟩
 |t::ts,v::vs,d::ds,ps,⟨p,q,⟨f,h1⟩,h2,_⟩=>by
  obtain ⟨N,hN⟩:=trodN ts vs ds q h2
  exact ⟨max f N,fun n hn=>⟨⟨p,DataW.trod_le (by omega) h1⟩,hN n (by omega)⟩⟩
 |[],[],_::_,_,h=>h.elim
 |[],_::_,_,_,h=>h.elim
 |_::_,[],_,_,h=>h.elim
 |_::_,_::_,[],_,h=>h.elim
theorem args_layN {n:Nat}:∀ (ts:List TypeId) (vs:List Value) (ds:List (DataW H)),(∀ t∈ts,tyOk P n t=true)→TrodN enc P W held n ts vs ds→∀ m,∃ asW m' fss xs,absArgs P n ts ds m=some (asW,m') ∧
 HasTs P n ts fss∧All2 (fun (tf:TypeId×List FV) x=>packF P tf.1 tf.2=some x) (ts.zip fss) xs∧RFs m' (fun c=>c<m'.size) xs asW∧m.size≤m'.size∧∀ c,c<m.size→m'.get c=m.get c
 |[],[],[],_,_,m=>⟨[],m,[],[],rfl,.nil,.nil,.nil,Nat.le_refl _,fun _ _=>rfl⟩
 |t::ts,v::vs,d::ds,hok,⟨⟨p,h1⟩,h2⟩,m=>by
  obtain ⟨l,m1,fs,e1,e2,e3⟩:=can_lay n t _ d p (hok t (by simp)) h1 m
  obtain ⟨x,u,p1,p2,p3⟩:=pack_both e3.rel e3.cell e2
  obtain ⟨asW,m2,fss,xs,q1,q2,q3,q4,q5,q6⟩:=args_layN ts vs ds (fun t ht=>hok t (by simp [ht])) h2 m1
  refine ⟨u::asW,m2,fs::fss,x::xs,by simp only [absArgs,e1,p2,q1],.cons e2 q2,.cons p1 q3,.cons (p3.mono (grow_fz q5 q6)) q4,Nat.le_trans e3.size q5,fun c hc=>(q6 c (by have:=e3.size;omega)).trans (e3.get c hc)⟩
 |[],[],_::_,_,h,_=>h.elim
 |[],_::_,_,_,h,_=>h.elim
 |_::_,[],_,_,h,_=>h.elim
 |_::_,_::_,[],_,h,_=>h.elim
theorem law {r:Go.Reach} {b0 F:Nat} {laid:List (String×DataW Unit)} {fs:List FuncId} {f:FuncId} {ts:List TypeId} {args:Array Value} {ds:List (DataW H)} {ps:List MemPlace}
 (hL:laidMet P laid W) (hA:DataW.TrodAll enc P W 0 (fun _=>true) held ts args.toList ds ps) (hv:∀ (j:Nat) t v,ts[j]?=some t→args.toList[j]?=some v→Value.okWide P W r b0 t v)
 (hmix:P.follows .mixedOrders=true) (hty:ts.all (tyOk P F)=true)
 (hO:OSound P (globList P F laid) (trueO (globList P F laid) (globMem P F laid) fs))
 (hp:∀ j fss xs,HasTs P (j+F) ts fss→All2 (fun (tf:TypeId×List FV) x=>packF P tf.1 tf.2=some x) (ts.zip fss) xs→VFun (lawEnv P F laid fs) f xs (.p (.bool true))) :
 Calls P f args W fun e W'=>e=.returned (.bool true)∧Go.RowKit.Below W.heap.size W W':=by
 obtain ⟨N,hN⟩:=trodN ts _ ds ps hA
 obtain ⟨j,hj⟩:∃ j,max N F=j+F:=⟨max N F-F,by omega⟩
 obtain ⟨asW,m1,fss,xs,q1,q2,q3,q4,q5,q6⟩:=args_layN ts _ ds (fun t ht=>tyOk_le (by omega) (List.all_eq_true.1 hty t ht)) (hN (max N F) (by omega)) (globMem P F laid)
 rw [hj] at q2
 have hctx:Ctx (lawEnv P F laid fs).Γ m1 (fun c=>c<m1.size) (fun _=>undef) [] 0:=by
  refine ⟨fun _ h=>h,fun b x hb=>(by cases hb),fun b b' x x' c hb=>(by cases hb),fun g vs e hg=>?_⟩
  simp only [lawEnv,gam] at hg
  split at hg
  ·rename_i hlt
   simp only [Option.map_eq_some_iff,Prod.mk.injEq] at hg
   obtain ⟨⟨e',l⟩,h1,rfl,rfl⟩:=hg
   have hlt':g<(globMem P F laid).size:=by rw [globMem_size];exact hlt
   exact ⟨by omega,by rw [q6 g hlt',globMem_get hlt,h1],globAt_plain h1⟩
  ·cases hg
 obtain ⟨v,m',⟨K,hK⟩,r0,H',nx',F',σ',⟨rfl,_,_⟩,_,hrv,_⟩:=hp j fss xs q2 q3 m1 _ _ asW hctx (RPs.ofRFs q4)
 have hv1:v=.bool true:=by cases hrv with|p h=>cases h;rfl
 subst hv1
 obtain ⟨ι,hs,hro⟩:=glob_open (F:=F) hL
 obtain ⟨ι1,o1,o2,o3,o4⟩:=args_open ts _ ds ps hA hv ι _ m1 asW hs hro q1
 refine ((acall_sound hO hmix K f).1 asW m1 _ m' (hK K K (Nat.le_refl _) (Nat.le_refl _)) ι1 W args o1 o4).mono fun e W' ⟨v',he,ι2,hx,hs2,hvr⟩=>?_
 have:=hvr.eq_of_plain (v:=.bool true) rfl
 subst this
 exact ⟨he,⟨hx.os,hx.tape,hx.output,hx.heap,fun c hcl=>hx.frame c hcl fun b ib hb _=>.inl (o3 b (o1.dom b ib hb).1)⟩⟩
end
end Go.Vm
namespace Go.Vm
open Go.Am
variable {E:Env} {L:Frame} {H:Heap} {nx:Nat} {Q:PV→Heap→Nat→Prop} {w:Bool}
variable {dst:Option Tmp} {ty:TypeId} {pos:String} {af:Array Edge} {gd:Option (Nat×Bool)}
def evF (Γ:Nat→Option (List Value×TypeId)) (L:Frame):List Operand→Option (List FV)
 |[]=>some []
 |o::l=>match vev Γ L o with
  |some (.p x)=>match evF Γ L l with
   |some r=>some (x::r)
   |none=>none
  |_=>none
theorem evF_evs {Γ:Nat→Option (List Value×TypeId)}:∀ {os:List Operand} {xs:List FV},evF Γ L os=some xs→evs Γ L os=some (xs.map .p)
 |[],_,h=>by cases h;rfl
 |o::os,xs,h=>by
  simp only [evF] at h
  split at h
  ·rename_i x hx
   split at h
   ·rename_i r hr
    cases h
    simp only [evs,hx,evF_evs hr,List.map_cons]
   ·cases h
  ·cases h
theorem VVal.fn {fo:Operand} {args:Array Operand} {aT:Array TypeId} {g:FuncId} {xs:List FV} {r:PV} (hf:vev E.Γ L fo=some (.clo g [] [])) (ha:evF E.Γ L args.toList=some xs)
 (hc:VFun E g xs r) (hr:∀ ρ,r.rn ρ=r) (q:Q r H nx):VVal E w ⟨dst,.call { callee:=.value fo,args:=args,argTypes:=aT },ty,pos,af,gd⟩ L H nx Q :=
 VVal.callF hf (evF_evs ha) (.refl _) hc hr q
theorem VVal.fv {fo:Operand} {args:Array Operand} {aT:Array TypeId} {g:FuncId} {xs cs:List FV} {e:TypeId} {n:Nat} {z:Bool} (hf:vev E.Γ L fo=some (.clo g [] [])) (ha:evF E.Γ L args.toList=some xs)
 (hc:VFunV E g xs e cs n z) (q:Q (.vec nx n 0 n) ((nx,.vec e cs n z)::H) (nx+1)):VVal E w ⟨dst,.call { callee:=.value fo,args:=args,argTypes:=aT },ty,pos,af,gd⟩ L H nx Q :=
 VVal.callV hf (evF_evs ha) (.refl _) hc q
theorem VFun.enter {f:FuncId} {fn:Func} {c:Code} {xs:List FV} {r:PV} (ho:E.O f=none) (hf:E.P.funcs[f]?=some fn) (hb:fn.body=some c) (hok:fnOk E.G fn c=true) (hn:xs.length≤fn.ntmps)
 (h:VWp E 0 c (argFrame 0 (xs.map .p)) [] 0 (Done E.P fn.results.toList 0 fun r' H' nx'=>r'=r∧H'=[]∧nx'=0)):VFun E f xs r:=VCalls.enter ho hf hb hok (by simpa using hn) h
def DoneV (P:Program) (rs:List ResultVar) (e:TypeId) (cs:List FV) (n:Nat) (z:Bool) (x:AExit) (L:Frame) (H:Heap) (_:Nat):Prop :=
 match x with
 | .exit _=>False
 | .normal=>∃ b,vresults P rs L H=some (.vec b n 0 n)∧hget H b=some (.vec e cs n z)
 | .ret=>∃ b,vresults P rs L H=some (.vec b n 0 n)∧hget H b=some (.vec e cs n z)
theorem DoneV.ret {P:Program} {rs:List ResultVar} {e:TypeId} {cs cs':List FV} {n n':Nat} {z:Bool} {b:Nat} (h:vresults P rs L H=some (.vec b n' 0 n')) (hb:hget H b=some (.vec e cs' n' z)) (hn:n'=n) (hcs:cs'=cs):DoneV P rs e cs n z .ret L H nx:=by
 subst hn;subst hcs;exact ⟨b,h,hb⟩
theorem VFunV.enter {f:FuncId} {fn:Func} {c:Code} {xs cs:List FV} {e:TypeId} {n:Nat} {z:Bool} (ho:E.O f=none) (hf:E.P.funcs[f]?=some fn) (hb:fn.body=some c) (hok:fnOk E.G fn c=true) (hn:xs.length≤fn.ntmps)
 (h:VWp E 0 c (argFrame 0 (xs.map .p)) [] 0 (DoneV E.P fn.results.toList e cs n z)):VFunV E f xs e cs n z:=by
 intro m F σ asW h1 h2
 refine ACalls.enter ho hf hb hok (by rw [← h2.length];simpa using hn) ((h ⟨m,F,σ,[],0⟩ rfl m F σ _ h1 ?_ (Step.refl _ _ _ _ _)).mono ?_)
 ·intro i v hi
  obtain ⟨_,h3⟩:=argFrame_get _ 0 i v hi
  obtain ⟨u,h4,h5⟩:=h2.get h3
  have:=tget_tmpsOf asW 0 .leaf i
  simp only [Nat.sub_zero] at h4
  have hlt:i<asW.length:=by
   rcases Nat.lt_or_ge i asW.length with h|h
   ·exact h
   ·rw [List.getElem?_eq_none h] at h4;cases h4
  rw [this,if_pos ⟨Nat.zero_le _,by omega⟩,Nat.sub_zero,List.getD_eq_getElem?_getD,h4]
  exact h5
 ·rintro x s ⟨L',H',nx',F',σ',q,c1,c2,c3⟩
  have key:(∃ b,vresults E.P fn.results.toList L' H'=some (.vec b n 0 n)∧hget H' b=some (.vec e cs n z))→∃ v,resultsOf E.P fn s=some v∧∃ r H' nx' F' σ',(r=.vec 0 n 0 n∧H'=[(0,.vec e cs n z)]∧nx'=1)∧Ctx E.Γ s.m F' σ' H' nx'∧RP s.m F' (htag H') σ' nx' r v∧Step m F σ [] 0 s.m F' σ' H' nx':=by
   rintro ⟨b,hr,hb⟩
   obtain ⟨v,h3,h4⟩:=vresults_rel c1 c2 hr
   obtain ⟨_,hrb⟩:=c1.hp b _ hb
   have hone:∀ b' x,hget [(0,HB.vec e cs n z)] b'=some x→b'=0∧x=.vec e cs n z:=fun b' x hx=>by
    rw [hget_cons] at hx
    split at hx
    ·rename_i e';cases hx;exact ⟨e'.symm,rfl⟩
    ·cases hx
   refine ⟨v,h3,_,_,_,F',fun _=>σ' b,⟨rfl,rfl,rfl⟩,⟨c1.fr,fun b' x hx=>?_,fun b1 b2 x1 x2 c hx1 hx2 _ _=>?_,c1.gl⟩,?_,⟨c3.size,c3.keep,c3.fmono,c3.fback,fun c hc ho=>?_,Nat.zero_le _,fun b hb=>absurd hb (Nat.not_lt_zero _),c3.low⟩⟩
   ·obtain ⟨rfl,rfl⟩:=hone b' x hx
    exact ⟨by omega,hrb⟩
   ·rw [(hone b1 x1 hx1).1,(hone b2 x2 hx2).1]
   ·cases h4 with
    |vec hb' hc h =>
     refine .vec (by omega) hc fun k hk=>?_
     have hk':htag [(0,HB.vec e cs n z)] 0=some (.vec n):=rfl
     rw [hk'] at hk
     cases hk
     exact ⟨Nat.le_refl _,fun _=>(h n (by simp [htag,hb,HB.tag])).2 rfl⟩
   ·obtain ⟨b',x,hx,hc'⟩:=ho
    exact c3.oback c hc ⟨b,_,hb,hc'⟩
  cases x with
  |exit i=>exact q.elim
  |normal=>exact key q
  |ret=>exact key q
theorem FLes.toP:∀ {l l':List FV},FLes l l'→PLes (l.map .p) (l'.map .p)
 |_,_,.refl _=>.refl _
 |_,_,.cons h t=>.cons (.p h) (FLes.toP t)
theorem VFun.le {g:FuncId} {xs ys:List FV} {r:PV} (h:FLes xs ys) (hc:VFun E g ys r):VFun E g xs r:=fun m F σ asW h1 h2=>hc m F σ asW h1 (RPs.le (FLes.toP h) h2)
theorem VVal.append1 {α:Type} {_:Enc α} {l:List α} {a:α} {s x:Operand} {sT xT e e2:TypeId} {xd:TypeDesc} {i:TypeInfo} {b b2 n:Nat} {xs:List FV} {z z2:Bool} (hs:vev E.Γ L s=some (.vec b n 0 n)) (hb:hget H b=some (.vec e (cells l) n z))
 (hx:vev E.Γ L x=some (.vec b2 1 0 1)) (hb2:hget H b2=some (.vec e2 xs 1 z2)) (hxs:xs=Enc.enc a) (hn:l.length=n) (hsT:E.P.underlying sT=some (.slice e)) (hxT:E.P.underlying xT=some xd) (hd:∀ k,xd≠.int k) (hi:E.P.info? e=some i)
 (hsz:Enc.size α=i.size) (hzs:zeroSized i=true) (h0:0<i.size) (hby:i.bytes<1000000) (hlen:l.length<1000000) (q:Q (.vec b (l.length+1) 0 (l.length+1)) (hput H b (.vec e (cells (l++[a])) (l.length+1) z)) nx) :
 VVal E true ⟨dst,.call { callee:=.builtin .append,args:=#[s,x],argTypes:=#[sT,xT] },ty,pos,af,gd⟩ L H nx Q:=by
 subst hn
 have hroom:(l.length+1)*(i.bytes+1)≤room:=Nat.le_trans (Nat.mul_le_mul (by omega:l.length+1≤1000000) (by omega:i.bytes+1≤1000000)) (by decide)
 refine VVal.append (i:=i) hs hb (SlC.all hx hb2 (by rw [hxs,Enc.len,← hsz];omega)) hsT hxT hd hi hzs (by omega) hroom (by rw [cells_length,hsz]) h0 ?_
 have:cells (l++[a])=cells l++xs:=by rw [cells_append,hxs];simp [cells,encs]
 rw [← this]
 exact q
theorem VVal.not {t:TypeId} {x:Operand} {b:Bool} (hx:vev E.Γ L x=some (.p (.bool b))) (q:Q (.p (.bool (!b))) H nx):VVal E w ⟨dst,.unOp .not t x,ty,pos,af,gd⟩ L H nx Q :=
 VVal.quiet q fun m F σ tt h1 h2=>by
  refine ⟨.bool (!b),fun _=>?_,.p (.bool _)⟩
  have hb:=vev_bool h1 h2 hx
  simp only [aval,aop,hb]
  cases b<;>rfl
theorem PV.int_eq {k:IntKind} {a b:Int} (h:a=b):(PV.p (.int k a))=.p (.int k b):=by rw [h]
theorem PV.bool_eq {a b:Bool} (h:a=b):(PV.p (.bool a))=.p (.bool b):=by rw [h]
end Go.Vm
namespace Go.Vm
open Go.Am
variable {E:Env} {L:Frame} {H:Heap} {nx:Nat} {Q:PV→Heap→Nat→Prop} {w:Bool}
variable {dst:Option Tmp} {ty:TypeId} {pos:String} {af:Array Edge} {gd:Option (Nat×Bool)}
section
variable {bn:Nat} {ops:Array Oper} {op:Op} {l:List Oper} {i:Nat} {R:Frame→Heap→Nat→Prop}
theorem VOpsD.quiet (h:VVal E false ⟨dst,op,ty,pos,af,none⟩ L H nx fun r H' nx'=>VOpsD E bn ops (i+1) l (lput L dst r) H' nx' R):VOpsD E bn ops i (⟨dst,op,ty,pos,af,none⟩::l) L H nx R:=by
 intro B hB m F σ t h1 h2 h3
 refine AOpsD.cons (guardIs.wanted (L:=L) h1 h2 rfl) ((h (m.at m.size) F σ t (h1.at _) (RL.at (Γ:=E.Γ) _ h2)).mono ?_)
 rintro v m' ⟨r,H',nx',F',σ',q,c1,c2,c3,c4⟩
 refine ⟨.inr (.inl (c4 rfl m.size (Nat.le_refl _) (Nat.le_refl _))),?_⟩
 exact q B hB _ F' σ' _ (c1.at _) (RL.at (Γ:=E.Γ) _ (((RL.at (Γ:=E.Γ) _ h2).step c3 (h1.at _)).put c2)) (h3.trans c3.at)
theorem VOpsD.quietTake {j d:Nat} {want:Bool} (hd:(ops[j]?).bind (·.dst)=some d) (hb:lget L d=some (.p (.bool want))) (h:VVal E false ⟨dst,op,ty,pos,af,some (j,want)⟩ L H nx fun r H' nx'=>VOpsD E bn ops (i+1) l (lput L dst r) H' nx' R) :
 VOpsD E bn ops i (⟨dst,op,ty,pos,af,some (j,want)⟩::l) L H nx R:=by
 intro B hB m F σ t h1 h2 h3
 refine AOpsD.cons (guardIs.wanted (L:=L) (w:=true) h1 h2 ⟨want,d,hd,hb,by cases want<;>rfl⟩) ((h (m.at m.size) F σ t (h1.at _) (RL.at (Γ:=E.Γ) _ h2)).mono ?_)
 rintro v m' ⟨r,H',nx',F',σ',q,c1,c2,c3,c4⟩
 refine ⟨.inr (.inl (c4 rfl m.size (Nat.le_refl _) (Nat.le_refl _))),?_⟩
 exact q B hB _ F' σ' _ (c1.at _) (RL.at (Γ:=E.Γ) _ (((RL.at (Γ:=E.Γ) _ h2).step c3 (h1.at _)).put c2)) (h3.trans c3.at)
theorem VOpsD.bar (hw:barrier E.P ops i=true) (h:VVal E true ⟨dst,op,ty,pos,af,none⟩ L H nx fun r H' nx'=>VOpsD E bn ops (i+1) l (lput L dst r) H' nx' R):VOpsD E bn ops i (⟨dst,op,ty,pos,af,none⟩::l) L H nx R:=VOpsD.cons rfl hw h
end
theorem Ctx.move {Γ:Nat→Option (List Value×TypeId)} {m m':Mem} {F:Nat→Prop} {σ:Nat→Value} {b0:Nat} {x0 x':HB} {s':Value} (h:Ctx Γ m F σ H nx) (hb:hget H b0=some x0)
 (hsz:m.size≤m'.size) (hget':∀ c,c<m.size→blkOf (σ b0)≠some c→m'.get c=m.get c) (hlow:∀ k,k≤m.low→k≤m.size→(∀ c,blkOf (σ b0)=some c→k≤c)→k≤m'.low)
 (hblk:∀ c,blkOf s'=some c→blkOf (σ b0)=some c∨m.size≤c) (hr:RB m' F (htag ((nx,x')::hdel H b0)) (upd σ nx s') (nx+1) s' x') :
 Ctx Γ m' F (upd σ nx s') ((nx,x')::hdel H b0) (nx+1)∧Step m F σ H nx m' F (upd σ nx s') ((nx,x')::hdel H b0) (nx+1):=by
 have hown:∀ c,blkOf (σ b0)=some c→own H σ c:=fun c hc=>⟨b0,x0,hb,hc⟩
 have hfz:∀ c,F c→F c∧m'.get c=m.get c:=fun c hc=>⟨hc,hget' c (h.fr c hc) fun e=>(h.notF (hown c e)).1 hc⟩
 have hN:Names nx (htag H) σ (htag ((nx,x')::hdel H b0)) (upd σ nx s'):=fun b hbn=>by
  rw [htag_cons,if_neg (by omega),htag_hdel,upd_other _ _ (by omega)]
  split
  ·exact ⟨trivial,fun _ _ _=>rfl⟩
  ·exact ⟨TLe.refl _,fun _ _ _=>rfl⟩
 have hg0:hget ((nx,x')::hdel H b0) nx=some x':=by rw [hget_cons,if_pos rfl]
 have hgo:∀ b y,hget ((nx,x')::hdel H b0) b=some y→b≠nx→b≠b0∧hget H b=some y:=fun b y hy e=>by
  rw [hget_cons,if_neg (Ne.symm e),hget_hdel] at hy
  split at hy
  ·cases hy
  ·rename_i hne;exact ⟨Ne.symm hne,hy⟩
 refine ⟨⟨fun c hc=>Nat.lt_of_lt_of_le (h.fr c hc) hsz,?_,?_,?_⟩,⟨hsz,fun c hc ho=>hget' c hc fun e=>ho (hown c e),fun _ h=>h,fun _ _ h=>.inl h,?_,Nat.le_succ _,hN,?_⟩⟩
 ·intro b y hy
  by_cases e:b=nx
  ·subst e
   rw [hg0] at hy;cases hy
   rw [upd_same]
   exact ⟨Nat.lt_succ_self _,hr⟩
  ·obtain ⟨hne,hy⟩:=hgo b y hy e
   obtain ⟨h1,h2⟩:=h.hp b y hy
   rw [upd_other _ _ e]
   refine ⟨by omega,h2.mono hfz hN (Nat.le_succ _) hsz fun c hc=>?_⟩
   have:=h.notF ⟨b,y,hy,hc⟩
   exact ⟨hget' c this.2 fun e'=>hne (h.sep b b0 y x0 c hy hb hc e'),this.1⟩
 ·intro b b' y y' c h1 h2 h3 h4
  by_cases e:b=nx<;>by_cases e':b'=nx
  ·omega
  ·subst e
   obtain ⟨hne,hy⟩:=hgo b' y' h2 e'
   rw [upd_same] at h3
   rw [upd_other _ _ e'] at h4
   rcases hblk c h3 with h5|h5
   ·exact absurd (h.sep b0 b' x0 y' c hb hy h5 h4).symm hne
   ·have:=(h.notF ⟨b',y',hy,h4⟩).2;omega
  ·subst e'
   obtain ⟨hne,hy⟩:=hgo b y h1 e
   rw [upd_same] at h4
   rw [upd_other _ _ e] at h3
   rcases hblk c h4 with h5|h5
   ·exact absurd (h.sep b b0 y x0 c hy hb h3 h5) hne
   ·have:=(h.notF ⟨b,y,hy,h3⟩).2;omega
  ·obtain ⟨_,hy⟩:=hgo b y h1 e
   obtain ⟨_,hy'⟩:=hgo b' y' h2 e'
   rw [upd_other _ _ e] at h3
   rw [upd_other _ _ e'] at h4
   exact h.sep b b' y y' c hy hy' h3 h4
 ·intro g vs e hg
  obtain ⟨h1,h2,h3⟩:=h.gl g vs e hg
  exact ⟨h1,(hfz g h1).2.trans h2,h3⟩
 ·rintro c hc ⟨b,y,hy,hbc⟩
  by_cases e:b=nx
  ·subst e
   rw [upd_same] at hbc
   rcases hblk c hbc with h5|h5
   ·exact hown c h5
   ·omega
  ·obtain ⟨_,hy⟩:=hgo b y hy e
   rw [upd_other _ _ e] at hbc
   exact ⟨b,y,hy,hbc⟩
 ·intro k h1 h2 h3
  exact hlow k h1 h2 fun c hc=>h3 c (hown c hc)
theorem appendMove' {s x:Operand} {sT xT e:TypeId} {xd:TypeDesc} {i:TypeInfo} {b n k:Nat} {cs xs:List FV} {z:Bool} (hs:vev E.Γ L s=some (.vec b n 0 n)) (hb:hget H b=some (.vec e cs n z)) (hx:SlC E.Γ L H nx x i.size xs k)
 (hsT:E.P.underlying sT=some (.slice e)) (hxT:E.P.underlying xT=some xd) (hd:∀ k,xd≠.int k) (hi:E.P.info? e=some i) (hzs:zeroSized i=true) (hroom:(n+k)*(i.bytes+1)≤room) (hl:cs.length=n*i.size) (hsz:0<i.size)
 (q:Q (.vec nx (n+k) 0 (n+k)) ((nx,.vec e (cs++xs) (n+k) z)::hdel H b) (nx+1)):VVal E true ⟨dst,.call { callee:=.builtin .append,args:=#[s,x],argTypes:=#[sT,xT] },ty,pos,af,gd⟩ L H nx Q:=by
 intro m F σ t h1 h2
 have hsub:=vev_vec h1 h2 hs hb
 obtain ⟨hx1,l,hx2,hx3,hx4⟩:=hx m F σ t h1 h2
 obtain ⟨hlt,hr⟩:=h1.hp b _ hb
 have hlenS:lenOf (ev t s)=some n:=by
  rcases hr with ⟨r1,r2,r3⟩|⟨c,g,vs,r1,_⟩
  ·rcases r3 with ⟨r3,_⟩|⟨b',o',g',r3,_⟩<;>rw [r3] at hsub<;>simp only [SubOf,nilSlice] at hsub<;>rw [hsub.1,r2]<;>rfl
  ·rw [r1] at hsub;simp only [SubOf] at hsub;rw [hsub];rfl
 have happ:∀ v m',appendCells m e i.size l k (ev t s)=some (v,m')→aappend E.P #[sT,xT] #[ev t s,ev t x] m=some (v,m'):=by
  intro v m' ha
  simp only [aappend,List.getElem?_toArray,List.getElem?_cons_zero,List.getElem?_cons_succ,hsT,hxT,hlenS,hi,hzs,Bool.not_true,Bool.false_eq_true,if_false]
  cases xd<;>first|exact absurd rfl (hd _)|(simp only [hx1,hx2,hx4,Bool.and_true,decide_eq_true_eq];rw [if_pos hroom];exact ha)
 have hfin:∀ v m' s',appendCells m e i.size l k (ev t s)=some (v,m')→s'=v→(Ctx E.Γ m' F (upd σ nx s') ((nx,.vec e (cs++xs) (n+k) z)::hdel H b) (nx+1)∧Step m F σ H nx m' F (upd σ nx s') ((nx,.vec e (cs++xs) (n+k) z)::hdel H b) (nx+1)) →
  (isCell v=true∧SubOf v 0 (n+k) v)→AVal E.P E.O E.G ⟨dst,.call { callee:=.builtin .append,args:=#[s,x],argTypes:=#[sT,xT] },ty,pos,af,gd⟩ ⟨t,m⟩ fun v m'=>∃ r H' nx' F' σ',Q r H' nx'∧Ctx E.Γ m' F' σ' H' nx'∧RP m' F' (htag H') σ' nx' r v∧Step m F σ H nx m' F' σ' H' nx'∧(true=false→Quiet m m'):=by
  rintro v m' s' ha rfl ⟨c1,c2⟩ ⟨hv1,hv2⟩
  refine AVal.op (v:=s') (m':=m') (fun _=>?_) ⟨_,_,_,F,_,q,c1,?_,c2,fun h=>by cases h⟩
  ·have:=happ _ _ ha
   simp only [aval,aop]
   simpa using this
  ·refine .vec (Nat.lt_succ_self _) hv1 fun j hj=>?_
   rw [htag_cons,if_pos rfl] at hj
   simp only [HB.tag,Option.some.injEq,Tg.vec.injEq] at hj
   refine ⟨by omega,fun _=>?_⟩
   rw [upd_same]
   exact hv2
 rcases hr with ⟨r1,r2,r3⟩|⟨c,g,vs,r1,r2,r3,r4,r5,r6,r7⟩
 ·have hv:blkOf (σ b)=none∧(ev t s=.slice none 0 0∧z=true∨(∃ b o g,ev t s=.slice (some ⟨b,o,some g⟩) 0 0)∧z=false):=by
   rcases r3 with ⟨r3,hz⟩|⟨b',o',g',r3,hz⟩
   ·rw [r3] at hsub ⊢;exact ⟨rfl,.inl ⟨hsub.1,hz⟩⟩
   ·rw [r3] at hsub ⊢;simp only [SubOf] at hsub;exact ⟨rfl,.inr ⟨⟨_,_,_,hsub.1⟩,hz⟩⟩
  subst r1;subst r2
  rcases Nat.eq_zero_or_pos k with h0|h0
  ·subst h0
   have hxs:xs=[]:=by
    have hl0:l.length=0:=by rw [sliceCells_length hx2];omega
    rw [List.eq_nil_of_length_eq_zero hl0] at hx3
    cases hx3;rfl
   subst hxs
   have ha:appendCells m e i.size l 0 (ev t s)=some (ev t s,m):=by
    rcases hv.2 with ⟨hv,_⟩|⟨⟨_,_,_,hv⟩,_⟩<;>rw [hv]<;>simp [appendCells]
   refine hfin _ _ _ ha rfl ?_ (by rcases hv.2 with ⟨hv,_⟩|⟨⟨_,_,_,hv⟩,_⟩<;>rw [hv]<;>refine ⟨rfl,?_⟩<;>simp [SubOf])
   refine h1.move hb (Nat.le_refl _) (fun _ _ _=>rfl) (fun _ h _ _=>h) (fun c hc=>by rcases hv.2 with ⟨hv,_⟩|⟨⟨_,_,_,hv⟩,_⟩<;>rw [hv] at hc<;>simp [blkOf] at hc) ?_
   refine .inl ⟨rfl,rfl,?_⟩
   rcases hv.2 with ⟨hv,hz⟩|⟨⟨b',o',g',hv⟩,hz⟩
   ·exact .inl ⟨hv,hz⟩
   ·exact .inr ⟨b',o',g',hv,hz⟩
  ·have ha:appendCells m e i.size l k (ev t s)=some (newSlice m e l k):=by
    rcases hv.2 with ⟨hv,_⟩|⟨⟨_,_,_,hv⟩,_⟩<;>rw [hv]<;>simp only [appendCells]<;>rw [if_neg (by omega)]
   refine hfin _ _ _ ha rfl ?_ ⟨rfl,by rw [Nat.zero_add];rfl⟩
   refine h1.move (x0:=.vec e [] 0 z) (x':=.vec e ([]++xs) (0+k) z) hb (by simp [newSlice,Mem.alloc]) (fun c hc _=>by (try simp only [newSlice]);rw [Mem.get_alloc,if_neg (by omega)])
    (fun k' k1 k2 _=>by simp only [newSlice,Mem.alloc];omega) (fun c hc=>by simp only [newSlice,blkOf,Option.some.injEq] at hc;right;omega) ?_
   refine .inr ⟨m.size,0,l,by simp [newSlice],by simp [newSlice,Mem.alloc],fun hf=>Nat.lt_irrefl _ (h1.fr _ hf),by (try simp only [newSlice]);rw [Mem.get_alloc,if_pos rfl],?_,hx4,fun h=>by omega⟩
   rw [List.nil_append]
   exact hx3.mono (fun c hf=>⟨hf,by (try simp only [newSlice]);rw [Mem.get_alloc,if_neg (by have:=h1.fr c hf;omega)]⟩)
 ·rw [r1] at hsub
  simp only [SubOf] at hsub
  have hlen:=r5.length
  have hold:takeN (n*i.size) (vs.drop 0)=some vs:=by
   rw [List.drop_zero,← hl,hlen];simp [takeN]
  have ha:appendCells m e i.size l k (ev t s)=some (.slice (some ⟨c,0,none⟩) (n+k) (g+1),m.put c (.cells (vs++l) e (g+1) false)):=by
   rw [hsub]
   simp only [appendCells,r4,beq_self_eq_true,decide_eq_true hsz,Bool.and_self,if_true,hold]
   simp
  have hput':∀ d,c≠d→(m.put c (.cells (vs++l) e (g+1) false)).get d=m.get d:=fun d hd=>by rw [Mem.get_put,if_neg hd]
  refine hfin _ _ _ ha rfl ?_ ⟨rfl,rfl⟩
  refine h1.move (x':=.vec e (cs++xs) (n+k) z) hb (Nat.le_refl _) (fun d _ hd=>hput' d fun e=>hd (by rw [r1,e];rfl)) (fun k' k1 k2 k3=>by
   have:=k3 c (by rw [r1];rfl)
   simp only [Mem.put];omega) (fun d hd=>.inl (by rw [r1];exact hd)) ?_
  refine .inr ⟨c,g+1,vs++l,rfl,r2,r3,by rw [Mem.get_put,if_pos rfl],?_,by rw [List.all_append,r6,hx4];rfl,fun h=>r7 (by omega)⟩
  exact (r5.append hx3).mono (fun d hd=>⟨hd,hput' d fun e=>r3 (e▸hd)⟩)
theorem takeN_take {n k:Nat} {l ws:List Value} (h:takeN n l=some ws):takeN (min k n) l=some (ws.take k):=by
 obtain ⟨rfl,hn⟩:=takeN_some h
 unfold takeN
 rw [if_pos (by omega),List.take_take]
theorem RFs.take {m:Mem} {F:Nat→Prop}:∀ {cs:List FV} {vs:List Value} (k:Nat),RFs m F cs vs→RFs m F (cs.take k) (vs.take k)
 |_,_,0,_=>by simp only [List.take_zero];exact .nil
 |_,_,_+1,.nil=>.nil
 |_,_,k+1,.cons h t=>.cons h (RFs.take k t)
theorem VVal.sliceF {t:TypeId} {x:Operand} {lo hi:Option Operand} {e:TypeId} {cs:List FV} {n a b sz:Nat} {inf:TypeInfo} (hx:vev E.Γ L x=some (.p (.lst e cs n))) (ht:E.P.underlying t=some (.slice e)) (hi':E.P.info? e=some inf) (hsz:inf.size=sz)
 (hlo:match lo with|none=>a=0|some o=>∃ k,vev E.Γ L o=some (.p (.int k (a:Int)))) (hhi:match hi with|none=>b=n|some o=>∃ k,vev E.Γ L o=some (.p (.int k (b:Int)))) (hab:a≤b) (hbn:b≤n) (hl:cs.length=n*sz)
 (q:Q (.p (.lst e ((cs.drop (a*sz)).take ((b-a)*sz)) (b-a))) H nx):VVal E w ⟨dst,.slice t x lo hi none,ty,pos,af,gd⟩ L H nx Q :=
 VVal.quiet q fun m F σ tt h1 h2=>by
  have hblo:bnd 0 (lo.map (ev tt))=some a:=by
   cases lo with
   |none=>simp only at hlo;rw [hlo];rfl
   |some o =>
    obtain ⟨k,hk⟩:=hlo
    simp only [Option.map_some,vev_int h1 h2 hk,bnd]
    rw [if_pos (by omega)];simp
  have hbhi:bnd n (hi.map (ev tt))=some b:=by
   cases hi with
   |none=>simp only at hhi;rw [hhi];rfl
   |some o =>
    obtain ⟨k,hk⟩:=hhi
    simp only [Option.map_some,vev_int h1 h2 hk,bnd]
    rw [if_pos (by omega)];simp
  have hbhi0:n=0→bnd 0 (hi.map (ev tt))=some 0:=fun h0=>by rw [h0] at hbhi;rw [hbhi];congr 1;omega
  have:=vev_rel h1 h2 hx
  generalize hv:ev tt x=v at this
  cases this with
  |p hr =>
   cases hr with
   |nil =>
    have hb0:b=0:=by omega
    have ha0:a=0:=by omega
    subst hb0;subst ha0
    refine ⟨.slice none 0 0,fun _=>?_,.p (by simpa using RF.nil e)⟩
    simp only [aval,aop,hv,aslice,Option.isSome_none,Option.map_none,Bool.false_and,Bool.false_eq_true,if_false,ht,hi',hblo,hbhi0 rfl]
    rfl
   |room e' b' o' g' =>
    have hb0:b=0:=by omega
    have ha0:a=0:=by omega
    subst hb0;subst ha0
    refine ⟨_,fun _=>?_,.p (by simpa using RF.room e b' o' g')⟩
    simp only [aval,aop,hv,aslice,Option.isSome_none,Option.map_none,Bool.false_and,Bool.false_eq_true,if_false,ht,hi',hblo,hbhi0 rfl]
    rfl
   |lst hF hm hw hr hc =>
    rename_i b' o g vs ws ro
    refine ⟨.slice (some ⟨b',o+a*sz,none⟩) (b-a) g,fun _=>?_,.p (.lst hF hm (ws:=(ws.drop (a*sz)).take ((b-a)*sz)) ?_ (RFs.take _ (RFs.drop _ hr)) (all_take (all_drop hc _) _))⟩
    ·simp only [aval,aop,hv,aslice,Option.isSome_none,Option.map_none,Bool.false_and,Bool.false_eq_true,if_false,ht,hi',hblo,hbhi,hm,hab,hbn,h1.fr _ hF,and_self,if_true,Option.map_some,hsz]
    ·have h3:=takeN_take (k:=(b-a)*sz) (takeN_drop (k:=a*sz) hw)
     rw [List.drop_drop] at h3
     rw [List.length_take,List.length_drop]
     exact h3
theorem cells_take {α:Type} [Enc α]:∀ (l:List α) (k:Nat),(cells l).take (k*Enc.size α)=cells (l.take k)
 |_,0=>by simp [cells,encs]
 |[],k+1=>by simp [cells,encs]
 |a::l,k+1=>by
  have ih:=cells_take l k
  simp only [cells,encs,List.take_succ_cons] at ih ⊢
  rw [List.take_append,Enc.len,Nat.succ_mul,← ih,List.take_of_length_le (by rw [Enc.len];omega)]
  congr 2;omega
theorem cells_drop' {α:Type} [Enc α]:∀ (l:List α) (k:Nat),(cells l).drop (k*Enc.size α)=cells (l.drop k)
 |_,0=>by simp [cells,encs]
 |[],k+1=>by simp [cells,encs]
 |a::l,k+1=>by
  have ih:=cells_drop' l k
  simp only [cells,encs,List.drop_succ_cons] at ih ⊢
  rw [List.drop_append,Enc.len,Nat.succ_mul,← ih,List.drop_eq_nil_of_le (by rw [Enc.len];omega),List.nil_append]
  congr 1;omega
theorem VVal.sliceTo {α:Type} {_:Enc α} {l:List α} {t:TypeId} {x o:Operand} {e:TypeId} {n b:Nat} {inf:TypeInfo} {k:IntKind} (hx:vev E.Γ L x=some (.p (.lst e (cells l) n))) (hhi:vev E.Γ L o=some (.p (.int k (b:Int)))) (ht:E.P.underlying t=some (.slice e)) (hi':E.P.info? e=some inf)
 (hsz:inf.size=Enc.size α) (hn:l.length=n) (hbn:b≤n) (q:Q (.p (.lst e (cells (l.take b)) b)) H nx):VVal E w ⟨dst,.slice t x none (some o) none,ty,pos,af,gd⟩ L H nx Q :=
 VVal.sliceF (a:=0) (b:=b) hx ht hi' hsz rfl ⟨k,hhi⟩ (Nat.zero_le _) hbn (by rw [cells_length,hn]) (by
  rw [Nat.zero_mul,List.drop_zero,Nat.sub_zero,cells_take];exact q)
theorem VVal.shrN {t t2:TypeId} {x y:Operand} {k k':IntKind} {m n:Nat} (hx:vev E.Γ L x=some (.p (.int k (m:Int)))) (hy:vev E.Γ L y=some (.p (.int k' (n:Int)))) (hn:n≤k.bits) (q:Q (.p (.int k ((m / 2 ^ n:Nat):Int))) H nx) :
 VVal E w ⟨dst,.binOp .shr t x y t2,ty,pos,af,gd⟩ L H nx Q:=by
 refine VVal.shr hx hy (by omega) ?_
 have h1:(min (n:Int).toNat k.bits)=n:=by simp only [Int.toNat_natCast];omega
 have h3:((m:Int).fdiv (2 ^ n))=((m / 2 ^ n:Nat):Int):=by
  rw [Int.fdiv_eq_ediv_of_nonneg _ (by exact Int.le_of_lt (Int.pow_pos (by omega)))]
  rw [Int.natCast_ediv,Int.natCast_pow];rfl
 rw [h1,h3]
 exact q
end Go.Vm
namespace Go.Vm
open Go.Am
variable {E:Env} {L:Frame} {H:Heap} {nx:Nat} {Q:PV→Heap→Nat→Prop} {w:Bool}
variable {dst:Option Tmp} {ty:TypeId} {pos:String} {af:Array Edge} {gd:Option (Nat×Bool)}
theorem ofInt_nat (m:Nat) (h:m<2 ^ 64):(BitVec.ofInt 64 (m:Int)).toNat=m:=by
 rw [BitVec.toNat_ofInt,Int.emod_eq_of_lt (by omega) (Int.ofNat_lt.2 h)]
 simp
theorem wrap_u64 {n:Int} (h0:0≤n) (h:n<18446744073709551616):IntKind.u64.wrap n=n:=by
 have e:IntKind.u64.wrap n=n % 2^64:=by
  simp [IntKind.wrap,IntKind.signed,IntKind.bits]
  try omega
 rw [e]
 omega
theorem vint_and {k:IntKind} {m n:Nat} (hk:k=.i64∧m<2 ^ 63∨k=.u64∧m<2 ^ 64) (hn:n<2 ^ 64):vint .and k m n=some (.int k ((m &&& n:Nat):Int)):=by
 have hm:m<2 ^ 64:=by rcases hk with ⟨_,h⟩|⟨_,h⟩<;>omega
 have e:(BitVec.ofInt 64 (m:Int) &&& BitVec.ofInt 64 (n:Int)).toNat=m &&& n:=by rw [BitVec.toNat_and,ofInt_nat m hm,ofInt_nat n hn]
 have hle:m &&& n≤m:=Nat.and_le_left
 rcases hk with ⟨rfl,h⟩|⟨rfl,h⟩
 ·show some (FV.int .i64 (IntKind.i64.wrap ((BitVec.ofInt 64 (m:Int) &&& BitVec.ofInt 64 (n:Int)).toNat:Int)))=_
  rw [e,wrap_i64 ⟨by omega,by omega⟩]
 ·show some (FV.int .u64 (IntKind.u64.wrap ((BitVec.ofInt 64 (m:Int) &&& BitVec.ofInt 64 (n:Int)).toNat:Int)))=_
  rw [e,wrap_u64 (by omega) (by omega)]
theorem vint_or {m n:Nat} (hm:m<2 ^ 64) (hn:n<2 ^ 64):vint .or .u64 m n=some (.int .u64 ((m ||| n:Nat):Int)):=by
 have e:(BitVec.ofInt 64 (m:Int) ||| BitVec.ofInt 64 (n:Int)).toNat=m ||| n:=by rw [BitVec.toNat_or,ofInt_nat m hm,ofInt_nat n hn]
 have hlt:m ||| n<2 ^ 64:=Nat.or_lt_two_pow hm hn
 show some (FV.int .u64 (IntKind.u64.wrap ((BitVec.ofInt 64 (m:Int) ||| BitVec.ofInt 64 (n:Int)).toNat:Int)))=_
 rw [e,wrap_u64 (by omega) (by omega)]
theorem VVal.andU {t t2:TypeId} {x y:Operand} {m n:Nat} (hx:vev E.Γ L x=some (.p (.int .u64 (m:Int)))) (hy:vev E.Γ L y=some (.p (.int .u64 (n:Int)))) (hm:m<2 ^ 64) (hn:n<2 ^ 64) (q:Q (.p (.int .u64 ((m &&& n:Nat):Int))) H nx) :
 VVal E w ⟨dst,.binOp .and t x y t2,ty,pos,af,gd⟩ L H nx Q:=VVal.int hx hy (vint_and (.inr ⟨rfl,hm⟩) hn) q
theorem VVal.orU {t t2:TypeId} {x y:Operand} {m n:Nat} (hx:vev E.Γ L x=some (.p (.int .u64 (m:Int)))) (hy:vev E.Γ L y=some (.p (.int .u64 (n:Int)))) (hm:m<2 ^ 64) (hn:n<2 ^ 64) (q:Q (.p (.int .u64 ((m ||| n:Nat):Int))) H nx) :
 VVal E w ⟨dst,.binOp .or t x y t2,ty,pos,af,gd⟩ L H nx Q:=VVal.int hx hy (vint_or hm hn) q
theorem VVal.shlOneU {t t2:TypeId} {x y:Operand} {k':IntKind} {n:Nat} (hx:vev E.Γ L x=some (.p (.int .u64 1))) (hy:vev E.Γ L y=some (.p (.int k' (n:Int)))) (hn:n<64) (q:Q (.p (.int .u64 ((2 ^ n:Nat):Int))) H nx) :
 VVal E w ⟨dst,.binOp .shl t x y t2,ty,pos,af,gd⟩ L H nx Q:=by
 refine VVal.shl hx hy (by omega) ?_
 have h1:(min (n:Int).toNat IntKind.u64.bits)=n:=by simp only [Int.toNat_natCast,IntKind.bits];omega
 have h2:(2:Nat) ^ n≤2 ^ 63:=Nat.pow_le_pow_right (by omega) (by omega)
 have h3:(1:Int)*2 ^ n=((2 ^ n:Nat):Int):=by rw [Int.one_mul];exact (Int.natCast_pow 2 n).symm
 have h4:((2 ^ n:Nat):Int)<18446744073709551616:=Int.ofNat_lt.2 (Nat.lt_of_le_of_lt h2 (by decide))
 rw [h1,h3,wrap_u64 (Int.natCast_nonneg _) h4]
 exact q
theorem VVal.remN {t t2:TypeId} {x y:Operand} {k:IntKind} {m n:Nat} (hx:vev E.Γ L x=some (.p (.int k (m:Int)))) (hy:vev E.Γ L y=some (.p (.int k (n:Int)))) (hn:0<n) (q:Q (.p (.int k ((m % n:Nat):Int))) H nx) :
 VVal E w ⟨dst,.binOp .rem t x y t2,ty,pos,af,gd⟩ L H nx Q:=VVal.int hx hy (r:=.int k ((m % n:Nat):Int)) (by
  simp only [vint]
  rw [if_neg (by omega),Int.tmod_eq_emod_of_nonneg (by omega),Int.natCast_emod]) q
theorem VVal.remI {t t2:TypeId} {x y:Operand} {k:IntKind} {a c:Int} (hx:vev E.Γ L x=some (.p (.int k a))) (hy:vev E.Γ L y=some (.p (.int k c))) (ha:0≤a) (hc:0<c) (q:Q (.p (.int k (a % c))) H nx) :
 VVal E w ⟨dst,.binOp .rem t x y t2,ty,pos,af,gd⟩ L H nx Q:=VVal.int hx hy (r:=.int k (a % c)) (by
  simp only [vint]
  rw [if_neg (by omega),Int.tmod_eq_emod_of_nonneg ha]) q
theorem VVal.convI {s d:TypeId} {x:Operand} {k':IntKind} {n:Int} {sd:TypeDesc} (hx:vev E.Γ L x=some (.p (.int k' n))) (hs:E.P.underlying s=some sd) (hns:notSl sd=true) (hd:E.P.underlying d=some (.int .i64)) (hn:-9223372036854775808≤n∧n<9223372036854775808) (q:Q (.p (.int .i64 n)) H nx) :
 VVal E w ⟨dst,.convert s d x,ty,pos,af,gd⟩ L H nx Q:=VVal.convInt hx hs hns hd (by rw [wrap_i64 hn];exact q)
section
variable {bn:Nat} {ops:Array Oper} {op:Op} {l:List Oper} {i:Nat} {R:Frame→Heap→Nat→Prop}
end
theorem undef_wanted {Γ:Nat→Option (List Value×TypeId)} {m:Mem} {F:Nat→Prop} {T:Nat→Option Tg} {σ:Nat→Value} {t:Tr Value} {ops:Array Oper} {o:Oper} {j d:Nat} {want:Bool} (hl:RL m F T σ nx L t) (hg:o.guard=some (j,want)) (hd:(ops[j]?).bind (·.dst)=some d) (hb:lget L d=some (.tup [])) :
 Region.wanted o (ayielded ops t)=false:=by
 have h:=hl d _ hb
 generalize hv:tget t d=v at h
 cases h with
 |tup h =>
  cases h
  unfold Region.wanted
  rw [hg]
  simp only [ayielded,hd,hv]
  rfl
section
variable {bn:Nat} {ops:Array Oper} {op:Op} {l:List Oper} {i:Nat} {R:Frame→Heap→Nat→Prop}
theorem VOps.dropU {j d:Nat} {want:Bool} (hd:(ops[j]?).bind (·.dst)=some d) (hb:lget L d=some (.tup [])) (h:VOps E bn ops l (lput L dst (.tup [])) H nx R):VOps E bn ops (⟨dst,op,ty,pos,af,some (j,want)⟩::l) L H nx R:=by
 intro B hB m F σ t h1 h2 h3
 exact AOps.skip (undef_wanted (Γ:=E.Γ) h2 rfl hd hb) (h B hB m F σ _ h1 (h2.put (.tup .nil)) h3)
theorem VOpsD.dropU {j d:Nat} {want:Bool} (hd:(ops[j]?).bind (·.dst)=some d) (hb:lget L d=some (.tup [])) (h:VOpsD E bn ops (i+1) l (lput L dst (.tup [])) H nx R):VOpsD E bn ops i (⟨dst,op,ty,pos,af,some (j,want)⟩::l) L H nx R:=by
 intro B hB m F σ t h1 h2 h3
 exact AOpsD.skip (undef_wanted (Γ:=E.Γ) h2 rfl hd hb) (h B hB _ F σ _ (h1.at _) (RL.at (Γ:=E.Γ) _ (h2.put (.tup .nil))) (h3.trans (Step.at0 _ _ _ _ _ _ (Nat.le_refl _))))
end
theorem room_ok {n k b:Nat} (h1:n+k<1000000) (h2:b<1000000):(n+k)*(b+1)≤room:=Nat.le_trans (Nat.mul_le_mul (by omega:n+k≤1000000) (by omega:b+1≤1000000)) (by decide)
theorem VVal.appendL {α:Type} {_:Enc α} {l r:List α} {s x:Operand} {sT xT e e2:TypeId} {xd:TypeDesc} {i:TypeInfo} {b n k:Nat} {z:Bool} (hs:vev E.Γ L s=some (.vec b n 0 n)) (hb:hget H b=some (.vec e (cells l) n z)) (hx:vev E.Γ L x=some (.p (.lst e2 (cells r) k))) (hn:l.length=n) (hk:r.length=k)
 (hsT:E.P.underlying sT=some (.slice e)) (hxT:E.P.underlying xT=some xd) (hd:∀ k,xd≠.int k) (hi:E.P.info? e=some i) (hsz:Enc.size α=i.size) (hzs:zeroSized i=true) (h0:0<i.size) (hby:i.bytes<1000000) (hlen:l.length+r.length<1000000)
 (q:Q (.vec nx (l.length+r.length) 0 (l.length+r.length)) ((nx,.vec e (cells (l++r)) (l.length+r.length) z)::hdel H b) (nx+1)):VVal E true ⟨dst,.call { callee:=.builtin .append,args:=#[s,x],argTypes:=#[sT,xT] },ty,pos,af,gd⟩ L H nx Q:=by
 subst hn;subst hk
 refine appendMove' (i:=i) hs hb (SlC.lst hx (by rw [cells_length,hsz])) hsT hxT hd hi hzs (room_ok hlen hby) (by rw [cells_length,hsz]) h0 ?_
 rw [← cells_append]
 exact q
theorem VVal.appendL0 {α:Type} {_:Enc α} {r:List α} {s x:Operand} {sT xT e e2:TypeId} {xd:TypeDesc} {i:TypeInfo} {b k:Nat} {z:Bool} (hs:vev E.Γ L s=some (.vec b 0 0 0)) (hb:hget H b=some (.vec e [] 0 z)) (hx:vev E.Γ L x=some (.p (.lst e2 (cells r) k))) (hk:r.length=k)
 (hsT:E.P.underlying sT=some (.slice e)) (hxT:E.P.underlying xT=some xd) (hd:∀ k,xd≠.int k) (hi:E.P.info? e=some i) (hsz:Enc.size α=i.size) (hzs:zeroSized i=true) (h0:0<i.size) (hby:i.bytes<1000000) (hlen:r.length<1000000)
 (q:Q (.vec nx r.length 0 r.length) ((nx,.vec e (cells r) r.length z)::hdel H b) (nx+1)):VVal E true ⟨dst,.call { callee:=.builtin .append,args:=#[s,x],argTypes:=#[sT,xT] },ty,pos,af,gd⟩ L H nx Q:=by
 refine VVal.appendL (l:=([]:List α)) hs hb hx rfl hk hsT hxT hd hi hsz hzs h0 hby (by simpa using hlen) ?_
 simpa using q
theorem VOps.atOp (d:Nat) {bn:Nat} {ops:Array Oper} {op:Op} {l:List Oper} {R:Frame→Heap→Nat→Prop} (h:VOps E bn ops (⟨some d,op,ty,pos,af,gd⟩::l) L H nx R):VOps E bn ops (⟨some d,op,ty,pos,af,gd⟩::l) L H nx R:=h
theorem VOpsD.atOp (d:Nat) {bn i:Nat} {ops:Array Oper} {op:Op} {l:List Oper} {R:Frame→Heap→Nat→Prop} (h:VOpsD E bn ops i (⟨some d,op,ty,pos,af,gd⟩::l) L H nx R):VOpsD E bn ops i (⟨some d,op,ty,pos,af,gd⟩::l) L H nx R:=h
theorem VWp.at (n:Nat) {bn:Nat} {ops:Array Oper} {b:Bool} {k:Code} {Q:AExit→Frame→Heap→Nat→Prop} (h:VWp E bn (.seq (.region n ops b) k) L H nx Q):VWp E bn (.seq (.region n ops b) k) L H nx Q:=h
theorem VWp.atEnd (n:Nat) {bn:Nat} {ops:Array Oper} {b:Bool} {Q:AExit→Frame→Heap→Nat→Prop} (h:VWp E bn (.region n ops b) L H nx Q):VWp E bn (.region n ops b) L H nx Q:=h
theorem lst_len {α:Type} {_:Enc α} {e:TypeId} {l:List α} {n:Nat} (h:n=l.length):(PV.p (.lst e (cells l) n))=lst e l:=by rw [h]
theorem le_dec {a b:Nat} (h:Nat.ble a b=true):a≤b:=by simpa using h
theorem lt_dec {a b:Nat} (h:Nat.blt a b=true):a<b:=by simpa using h
end Go.Vm
namespace Go.Vm
open Go.Am
variable {E:Env} {L:Frame} {H:Heap} {nx:Nat} {Q:PV→Heap→Nat→Prop} {w:Bool}
variable {dst:Option Tmp} {ty:TypeId} {pos:String} {af:Array Edge} {gd:Option (Nat×Bool)}
def DoneI (P:Program) (rs:List ResultVar) (Q:PV→Heap→Nat→Prop) (e:AExit) (L:Frame) (H:Heap) (nx:Nat):Prop :=
 match e with
 | .exit _=>False
 | .normal=>∃ r,vresults P rs L H=some r∧Q r H nx
 | .ret=>∃ r,vresults P rs L H=some r∧Q r H nx
theorem DoneI.ret {P:Program} {rs:List ResultVar} {r:PV} (h:vresults P rs L H=some r) (q:Q r H nx):DoneI P rs Q .ret L H nx:=⟨r,h,q⟩
theorem VCalls.enterI {f:FuncId} {fn:Func} {c:Code} {args:List PV} (ho:E.O f=none) (hf:E.P.funcs[f]?=some fn) (hb:fn.body=some c) (hok:fnOk E.G fn c=true) (hn:args.length≤fn.ntmps)
 (h:VWp E nx c (argFrame 0 args) H nx (DoneI E.P fn.results.toList Q)):VCalls E f args H nx Q:=by
 intro m F σ asW h1 h2
 refine ACalls.enter ho hf hb hok (by rw [← h2.length];exact hn) ((h ⟨m,F,σ,H,nx⟩ rfl m F σ _ h1 ?_ (Step.refl _ _ _ _ _)).mono ?_)
 ·intro i v hi
  obtain ⟨_,h3⟩:=argFrame_get args 0 i v hi
  obtain ⟨u,h4,h5⟩:=h2.get h3
  have:=tget_tmpsOf asW 0 .leaf i
  simp only [Nat.sub_zero] at h4
  have hlt:i<asW.length:=by
   rcases Nat.lt_or_ge i asW.length with h|h
   ·exact h
   ·rw [List.getElem?_eq_none h] at h4;cases h4
  rw [this,if_pos ⟨Nat.zero_le _,by omega⟩,Nat.sub_zero,List.getD_eq_getElem?_getD,h4]
  exact h5
 ·rintro e s ⟨L',H',nx',F',σ',q,c1,c2,c3⟩
  have key:(∃ r,vresults E.P fn.results.toList L' H'=some r∧Q r H' nx')→∃ v,resultsOf E.P fn s=some v∧∃ r H' nx' F' σ',Q r H' nx'∧Ctx E.Γ s.m F' σ' H' nx'∧RP s.m F' (htag H') σ' nx' r v∧Step m F σ H nx s.m F' σ' H' nx':=by
   rintro ⟨r0,hr,q⟩
   obtain ⟨v,h3,h4⟩:=vresults_rel c1 c2 hr
   exact ⟨v,h3,r0,H',nx',F',σ',q,c1,h4,c3⟩
  cases e with
  |exit i=>exact q.elim
  |normal=>exact key q
  |ret=>exact key q
theorem VVal.inl {fo:Operand} {args:Array Operand} {aT:Array TypeId} {g:FuncId} {fs cs asW:List PV} (hf:vev E.Γ L fo=some (.clo g fs cs)) (ha:evs E.Γ L args.toList=some asW)
 (hc:VCalls E g (fs++asW++cs) H nx Q):VVal E true ⟨dst,.call { callee:=.value fo,args:=args,argTypes:=aT },ty,pos,af,gd⟩ L H nx Q:=by
 intro m F σ t h1 h2
 have hfv:=vev_rel h1 h2 hf
 generalize hfe:ev t fo=fv at hfv
 cases hfv with
 |clo r1 r2 =>
  rename_i vf vc
  refine AVal.call (f:=g) (asW:=vf++args.toList.map (ev t)++vc) (fun call=>by simp only [aval,hfe]) ((hc m F σ _ h1 ((r1.append (evs_rel h1 h2 ha)).append r2)).mono ?_)
  rintro v m' ⟨r,H',nx',F',σ',q,c1,c2,c3⟩
  exact ⟨r,H',nx',F',σ',q,c1,c2,c3,fun h=>by cases h⟩
theorem VVal.inline {fo:Operand} {args:Array Operand} {aT:Array TypeId} {g:FuncId} {fs cs asW:List PV} {fn:Func} {c:Code} (hg:g=g) (hf:vev E.Γ L fo=some (.clo g fs cs)) (ha:evs E.Γ L args.toList=some asW)
 (ho:E.O g=none) (hfn:E.P.funcs[g]?=some fn) (hb:fn.body=some c) (hok:fnOk E.G fn c=true) (hn:(fs++asW++cs).length≤fn.ntmps)
 (h:VWp E nx c (argFrame 0 (fs++asW++cs)) H nx (DoneI E.P fn.results.toList Q)):VVal E true ⟨dst,.call { callee:=.value fo,args:=args,argTypes:=aT },ty,pos,af,gd⟩ L H nx Q :=
 VVal.inl hf ha (VCalls.enterI ho hfn hb hok hn h)
end Go.Vm
namespace Go.Vm
open Go.Am
variable {E:Env} {L:Frame} {H:Heap} {nx:Nat} {Q:PV→Heap→Nat→Prop} {w:Bool}
variable {dst:Option Tmp} {ty:TypeId} {pos:String} {af:Array Edge} {gd:Option (Nat×Bool)}
def bs (l:List UInt8):ByteArray:=⟨l.toArray⟩
theorem bs_size (l:List UInt8):(bs l).size=l.length:=by simp [bs,ByteArray.size]
theorem bs_toList (l:List UInt8):(bs l).toList=l:=ByteArray.toList_mk l
theorem bs_data (l:List UInt8):(bs l).data.toList=l:=by simp [bs]
abbrev st (l:List UInt8):PV:=.p (.str (bs l))
instance:Enc UInt8:={ default:=0,enc:=fun n=>[.int .u8 (n.toNat:Int)],size:=1,len:=fun _=>rfl }
instance encNat:Enc Nat:={ default:=0,enc:=fun n=>[.int .u64 (n:Int)],size:=1,len:=fun _=>rfl }
theorem VVal.lenSt {x:Operand} {t:TypeId} {l:List UInt8} (hx:vev E.Γ L x=some (st l)) (ht:E.P.underlying t=some .string) (q:Q (.p (.int .i64 l.length)) H nx) :
 VVal E w ⟨dst,.call { callee:=.builtin .len,args:=#[x],argTypes:=#[t] },ty,pos,af,gd⟩ L H nx Q :=
 VVal.lenS hx ht (by rw [bs_size];exact q)
theorem VVal.binS {op:BinOp} {t t2:TypeId} {x y:Operand} {a b:List UInt8} {r:FV} (hx:vev E.Γ L x=some (st a)) (hy:vev E.Γ L y=some (st b))
 (h:∀ m F,∃ v,dryV E.P (do eqGuard op t x y (.string (bs a)) (.string (bs b));binOp op t (.string (bs a)) (.string (bs b)))=some v∧RF m F r v) (q:Q (.p r) H nx) :
 VVal E w ⟨dst,.binOp op t x y t2,ty,pos,af,gd⟩ L H nx Q :=
 VVal.quiet q fun m F σ tt c1 c2=>by
  obtain ⟨v,h1,h2⟩:=h m F
  refine ⟨v,fun _=>?_,.p h2⟩
  simp only [aval,aop,vev_str c1 c2 hx,vev_str c1 c2 hy,abin]
  rw [show (plain (Value.string (bs a))&&plain (Value.string (bs b)))=true from rfl]
  simp only [if_true,h1,Option.map_some]
theorem VVal.eqS {t t2:TypeId} {x y:Operand} {a b:List UInt8} (hx:vev E.Γ L x=some (st a)) (hy:vev E.Γ L y=some (st b)) (q:Q (.p (.bool (decide (a=b)))) H nx) :
 VVal E w ⟨dst,.binOp .eql t x y t2,ty,pos,af,gd⟩ L H nx Q :=
 VVal.binS hx hy (fun m F=>⟨.bool (decide (a=b)),by
  have:dry E.P (do eqGuard .eql t x y (.string (bs a)) (.string (bs b));binOp .eql t (.string (bs a)) (.string (bs b)))=some (.bool (decide (a=b))):=by
   rw [binOp_string_eql,bs_toList,bs_toList]
   simp only [dry_bind,eqGuard]
   rw [show ((a==b):Bool)=decide (a=b) by by_cases h:a=b<;>simp [h]]
   rfl
  exact dryV_of this rfl,.bool _⟩) q
theorem VVal.addS {t t2:TypeId} {x y:Operand} {a b:List UInt8} (hx:vev E.Γ L x=some (st a)) (hy:vev E.Γ L y=some (st b)) (hl:a.length+b.length<4611686018427387904) (q:Q (st (a++b)) H nx) :
 VVal E w ⟨dst,.binOp .add t x y t2,ty,pos,af,gd⟩ L H nx Q :=
 VVal.binS hx hy (fun m F=>⟨.string (bs (a++b)),by
  have:dry E.P (do eqGuard .add t x y (.string (bs a)) (.string (bs b));binOp .add t (.string (bs a)) (.string (bs b)))=some (.string (bs (a++b))):=by
   rw [binOp_string_add]
   simp only [dry_bind,eqGuard,Op.stringOp,bs_size]
   have hc:¬ (((a.length+b.length:Nat):Int)>IntKind.i64.max):=by
    have:IntKind.i64.max=9223372036854775807:=by decide
    omega
   rw [if_neg hc]
   have:bs a++bs b=bs (a++b):=by
    apply ByteArray.ext
    simp [bs,ByteArray.data_append]
   rw [this]
   rfl
  exact dryV_of this rfl,.str _⟩) q
theorem VVal.indexSt {t:TypeId} {x ix:Operand} {l:List UInt8} {k:IntKind} {i:Int} (hx:vev E.Γ L x=some (st l)) (hi:vev E.Γ L ix=some (.p (.int k i))) (ht:E.P.underlying t=some .string) (h0:0≤i) (h1:i<l.length)
 (q:Q (.p (.int .u8 ((gi l i.toNat).toNat:Int))) H nx):VVal E w ⟨dst,.index t x ix,ty,pos,af,gd⟩ L H nx Q :=
 VVal.quiet q fun m F σ tt c1 c2=>by
  refine ⟨.int .u8 ((gi l i.toNat).toNat:Int),fun _=>?_,.p (.int _ _)⟩
  have hlt:i.toNat<l.length:=by omega
  have hg:(bs l)[i.toNat]?=some (gi l i.toNat):=by
   have h2:i.toNat<(bs l).size:=by rw [bs_size];exact hlt
   rw [getElem?_pos (bs l) i.toNat h2]
   congr 1
   simp only [gi,List.getElem?_eq_getElem hlt,Option.getD_some]
   show (bs l).data[i.toNat]=_
   simp [bs]
  have hd:dry E.P (Instr.index t (.string (bs l)) (.int k i))=some (.int .u8 ((gi l i.toNat).toNat:Int)):=by
   simp only [Instr.index,asIntOf,dry_bind,dry_pure,Option.bind_some,dry_underlying,ht,h0,if_true,hg]
  simp only [aval,aop,vev_str c1 c2 hx,vev_int c1 c2 hi]
  rw [show plain (Value.int k i)=true from rfl]
  simp only [if_true,hd,Option.map_some]
theorem VVal.indexStN {t:TypeId} {x ix:Operand} {l:List UInt8} {k:IntKind} {i:Nat} (hx:vev E.Γ L x=some (st l)) (hi:vev E.Γ L ix=some (.p (.int k (i:Int)))) (ht:E.P.underlying t=some .string) (h1:i<l.length)
 (q:Q (.p (.int .u8 ((gi l i).toNat:Int))) H nx):VVal E w ⟨dst,.index t x ix,ty,pos,af,gd⟩ L H nx Q :=
 VVal.indexSt hx hi ht (by omega) (by omega) q
theorem dry_bound {P:Program} {k:IntKind} {i:Int} {y:Nat} {c:BoundsCode} (h0:0≤i) (h1:i≤y):dry P (Instr.sliceBound (.int k i) y c)=some i.toNat:=by
 simp only [Instr.sliceBound,asIntOf,dry_bind,dry_pure,Option.bind_some,h0,h1,and_self,if_true]
theorem VVal.sliceSt {t:TypeId} {x:Operand} {lo hi:Option Operand} {l:List UInt8} {a b:Nat} (hx:vev E.Γ L x=some (st l)) (ht:E.P.underlying t=some .string)
 (hlo:match lo with|none=>a=0|some o=>∃ k,vev E.Γ L o=some (.p (.int k (a:Int)))) (hhi:match hi with|none=>b=l.length|some o=>∃ k,vev E.Γ L o=some (.p (.int k (b:Int))))
 (h1:a≤b) (h2:b≤l.length) (q:Q (st ((l.take b).drop a)) H nx):VVal E w ⟨dst,.slice t x lo hi none,ty,pos,af,gd⟩ L H nx Q :=
 VVal.quiet q fun m F σ tt c1 c2=>by
  refine ⟨.string (bs ((l.take b).drop a)),fun _=>?_,.p (.str _)⟩
  have hex:(bs l).extract a b=bs ((l.take b).drop a):=by
   unfold bs
   rw [ByteArray.extract_mk]
   congr 2
   rw [List.drop_take]
  have hd:dryV E.P (Instr.sliceAt t (.string (bs l)) (lo.map (ev tt)) (hi.map (ev tt)) none)=some (.string (bs ((l.take b).drop a))):=by
   refine dryV_of ?_ rfl
   have key:dry E.P (Instr.sliceBounds false (bs l).size (bs l).size (lo.map (ev tt)) (hi.map (ev tt)) none)=some (a,b,l.length):=by
    cases hi with
    |none =>
     simp only at hhi
     subst hhi
     cases lo with
     |none =>
      simp only at hlo
      subst hlo
      simp only [Instr.sliceBounds,Option.map_none,dry_bind,dry_pure,Option.bind_some,bs_size]
     |some o =>
      obtain ⟨k,hk⟩:=hlo
      simp only [Instr.sliceBounds,Option.map_none,Option.map_some,dry_bind,dry_pure,Option.bind_some,bs_size,vev_int c1 c2 hk,Option.isSome_none,Bool.false_eq_true,if_false,Int.toNat_natCast,dry_bound (show (0:Int)≤(a:Int) by omega) (show (a:Int)≤((l.length:Nat):Int) by omega)]
    |some o2 =>
     obtain ⟨k2,hk2⟩:=hhi
     cases lo with
     |none =>
      simp only at hlo
      subst hlo
      simp only [Instr.sliceBounds,Option.map_none,Option.map_some,dry_bind,dry_pure,Option.bind_some,bs_size,vev_int c1 c2 hk2,Bool.false_eq_true,if_false,Int.toNat_natCast,dry_bound (show (0:Int)≤(b:Int) by omega) (show (b:Int)≤((l.length:Nat):Int) by omega)]
     |some o =>
      obtain ⟨k,hk⟩:=hlo
      simp only [Instr.sliceBounds,Option.map_none,Option.map_some,dry_bind,dry_pure,Option.bind_some,bs_size,vev_int c1 c2 hk,vev_int c1 c2 hk2,Option.isSome_none,Bool.false_eq_true,if_false,Int.toNat_natCast,
       dry_bound (show (0:Int)≤(b:Int) by omega) (show (b:Int)≤((l.length:Nat):Int) by omega),dry_bound (show (0:Int)≤(a:Int) by omega) (show (a:Int)≤((b:Nat):Int) by omega)]
   simp only [Instr.sliceAt,Instr.slice,dry_bind,dry_underlying,ht,Option.bind_some,Option.isSome_none,Bool.false_eq_true,if_false,key,dry_pure,hex]
  have hp:((lo.map (ev tt)).all plain&&(hi.map (ev tt)).all plain&&(none:Option Value).isNone)=true:=by
   have e1:(lo.map (ev tt)).all plain=true:=by
    cases lo with
    |none=>rfl
    |some o=>obtain ⟨k,hk⟩:=hlo;simp only [Option.map_some,Option.all_some,vev_int c1 c2 hk];rfl
   have e2:(hi.map (ev tt)).all plain=true:=by
    cases hi with
    |none=>rfl
    |some o=>obtain ⟨k,hk⟩:=hhi;simp only [Option.map_some,Option.all_some,vev_int c1 c2 hk];rfl
   rw [e1,e2];rfl
  simp only [aval,aop,aslice,vev_str c1 c2 hx,ht,Option.isSome_none,Bool.false_and,Bool.false_eq_true,if_false,Option.map_none]
  rw [if_pos hp,hd]
  rfl
theorem VVal.sliceSto {t:TypeId} {x o:Operand} {l:List UInt8} {k:IntKind} {b:Nat} (hx:vev E.Γ L x=some (st l)) (ho:vev E.Γ L o=some (.p (.int k (b:Int)))) (ht:E.P.underlying t=some .string) (h2:b≤l.length) (q:Q (st (l.take b)) H nx) :
 VVal E w ⟨dst,.slice t x none (some o) none,ty,pos,af,gd⟩ L H nx Q:=VVal.sliceSt (a:=0) hx ht rfl ⟨k,ho⟩ (by omega) h2 (by rw [List.drop_zero];exact q)
theorem VVal.sliceSfrom {t:TypeId} {x o:Operand} {l:List UInt8} {k:IntKind} {a:Nat} (hx:vev E.Γ L x=some (st l)) (ho:vev E.Γ L o=some (.p (.int k (a:Int)))) (ht:E.P.underlying t=some .string) (h2:a≤l.length) (q:Q (st (l.drop a)) H nx) :
 VVal E w ⟨dst,.slice t x (some o) none none,ty,pos,af,gd⟩ L H nx Q:=VVal.sliceSt (b:=l.length) hx ht ⟨k,ho⟩ rfl h2 (Nat.le_refl _) (by rw [List.take_length];exact q)
theorem bytes_cells {m:Mem} {F:Nat→Prop}:∀ (l:List UInt8),RFs m F (cells l) (l.map fun c=>Value.int .u8 c.toNat)
 |[]=>.nil
 |c::l=>.cons (.int _ _) (bytes_cells l)
theorem VVal.toBytes {s d e:TypeId} {i:TypeInfo} {x:Operand} {l:List UInt8} (hx:vev E.Γ L x=some (st l)) (hs:E.P.underlying s=some .string) (hd:E.P.underlying d=some (.slice e)) (he:E.P.underlying e=some (.int .u8)) (hi:E.P.info? e=some i) (h1:i.size=1)
 (hl:l.length≤1000000) (q:Q (.vec nx l.length 0 l.length) ((nx,.vec e (cells l) l.length false)::H) (nx+1)):VVal E w ⟨dst,.convert s d x,ty,pos,af,gd⟩ L H nx Q:=by
 intro m F σ t c1 c2
 have hb:byteVals (bs l)=l.map fun c=>Value.int .u8 c.toNat:=by unfold byteVals;rw [bs_data]
 obtain ⟨d1,d2,d3,_⟩:=slice_new (e:=e) (cs:=cells l) (vs:=l.map fun (c:UInt8)=>Value.int .u8 (c.toNat:Int)) l.length c1 (bytes_cells l) (by simp [isCell])
 refine AVal.op (v:=(newSlice m e (l.map fun (c:UInt8)=>Value.int .u8 (c.toNat:Int)) l.length).1) (m':=(newSlice m e (l.map fun (c:UInt8)=>Value.int .u8 (c.toNat:Int)) l.length).2) (fun _=>?_) ⟨_,_,_,F,_,q,d1,?_,d2,fun _=>d3⟩
 ·have hsl:(isSlT E.P s||isSlT E.P d)=true:=by simp only [isSlT,hs,hd];rfl
  simp only [aval,aop,hsl,if_true,aconv,hs,hd,vev_str c1 c2 hx,he,hi]
  rw [if_pos ⟨h1,by rw [bs_size];omega⟩,hb,bs_size]
 ·refine .vec (Nat.lt_succ_self _) rfl fun n hn=>?_
  rw [htag_cons,if_pos rfl] at hn
  simp only [HB.tag,Option.some.injEq,Tg.vec.injEq] at hn
  exact ⟨by omega,fun _=>by rw [upd_same];rfl⟩
theorem unbyte_some:∀ (l:List UInt8),unbyte (l.map fun c=>Value.int .u8 c.toNat)=some l
 |[]=>rfl
 |c::l=>by
  have h:=c.toNat_lt
  simp only [List.map_cons,unbyte]
  rw [if_pos ⟨by omega,by omega⟩,unbyte_some l]
  simp
theorem cells_bytes {m:Mem} {F:Nat→Prop}:∀ {l:List UInt8} {vs:List Value},RFs m F (cells l) vs→vs=l.map fun c=>Value.int .u8 c.toNat
 |[],_,.nil=>rfl
 |c::l,_,.cons h t=>by
  cases h
  rw [cells_bytes t];rfl
end Go.Vm
namespace Go.Vm
open Go.Am
variable {E:Env} {L:Frame} {H:Heap} {nx:Nat} {Q:PV→Heap→Nat→Prop} {w:Bool}
variable {dst:Option Tmp} {ty:TypeId} {pos:String} {af:Array Edge} {gd:Option (Nat×Bool)}
theorem psplice_app {α:Type}:∀ (z p c:List α) (o:Nat),psplice (p++c) (p.length+o) z=p++psplice c o z
 |[],_,_,_=>rfl
 |x::z,p,c,o=>by
  simp only [psplice]
  rw [List.set_append_right _ _ (by omega),Nat.add_sub_cancel_left,Nat.add_assoc,psplice_app z p (c.set o x) (o+1)]
theorem psplice_zero {α:Type}:∀ (z xs ys:List α),z.length=xs.length→psplice (xs++ys) 0 z=z++ys
 |[],xs,ys,h=>by rw [List.eq_nil_of_length_eq_zero h.symm];rfl
 |x::z,[],ys,h=>by simp at h
 |x::z,y::xs,ys,h=>by
  simp only [psplice,List.cons_append,List.set_cons_zero]
  have:=psplice_app z [x] (xs++ys) 0
  simp only [List.length_singleton,List.singleton_append] at this
  rw [this,psplice_zero z xs ys (by simpa using h)]
theorem psplice_cells {α:Type} [Enc α] (l:List α) (i:Nat) (a:α) (h:i<l.length):psplice (cells l) (i*Enc.size α) (Enc.enc a)=cells (l.set i a):=by
 have h1:l=l.take i++(gi l i::l.drop (i+1)):=by
  have hd:l.drop i=gi l i::l.drop (i+1):=by
   rw [List.drop_eq_getElem_cons h];simp [gi,List.getElem?_eq_getElem h]
  conv=>lhs;rw [← List.take_append_drop i l]
  rw [hd]
 have h2:l.set i a=l.take i++(a::l.drop (i+1)):=by
  conv=>lhs;rw [h1]
  rw [List.set_append_right _ _ (by simp;omega)]
  rw [List.length_take,Nat.min_eq_left (by omega),Nat.sub_self,List.set_cons_zero]
 rw [h2,cells_append]
 conv=>lhs;rw [h1,cells_append]
 have h3:i*Enc.size α=(cells (l.take i)).length+0:=by rw [cells_length,List.length_take,Nat.min_eq_left (by omega),Nat.add_zero]
 rw [h3,psplice_app]
 congr 1
 show psplice (Enc.enc (gi l i)++cells (l.drop (i+1))) 0 (Enc.enc a)=Enc.enc a++cells (l.drop (i+1))
 exact psplice_zero _ _ _ (by rw [Enc.len,Enc.len])
theorem VVal.indexVE {α:Type} {_:Enc α} {t:TypeId} {x ix:Operand} {e:TypeId} {l:List α} {b n:Nat} {z:Bool} {k:IntKind} {i:Int} (hx:vev E.Γ L x=some (.vec b n 0 n)) (hb:hget H b=some (.vec e (cells l) n z)) (hi:vev E.Γ L ix=some (.p (.int k i)))
 (hs:elemSize E.P t=some (Enc.size α)) (h0:0≤i) (h1:i<n) (q:Q (.eref b n (i.toNat*Enc.size α)) H nx):VVal E w ⟨dst,.indexAddr t x ix,ty,pos,af,gd⟩ L H nx Q :=
 VVal.indexV hx hb hi hs h0 h1 (by rw [Nat.zero_add];exact q)
theorem VVal.indexVN {α:Type} {_:Enc α} {t:TypeId} {x ix:Operand} {e:TypeId} {l:List α} {b n:Nat} {z:Bool} {k:IntKind} {i:Nat} (hx:vev E.Γ L x=some (.vec b n 0 n)) (hb:hget H b=some (.vec e (cells l) n z)) (hi:vev E.Γ L ix=some (.p (.int k (i:Int))))
 (hs:elemSize E.P t=some (Enc.size α)) (h1:i<n) (q:Q (.eref b n (i*Enc.size α)) H nx):VVal E w ⟨dst,.indexAddr t x ix,ty,pos,af,gd⟩ L H nx Q :=
 VVal.indexVE hx hb hi hs (by omega) (by omega) q
theorem VVal.loadVL {α:Type} {_:Enc α} {t:TypeId} {a:Operand} {b n i:Nat} {e:TypeId} {l:List α} {z:Bool} {r:FV} (ha:vev E.Γ L a=some (.eref b n (i*Enc.size α))) (hb:hget H b=some (.vec e (cells l) n z)) (hi:i<l.length)
 (h:loadF E.P t (Enc.enc (gi l i)++cells (l.drop (i+1)))=some r) (q:Q (.p r) H nx):VVal E w ⟨dst,.load t a,ty,pos,af,gd⟩ L H nx Q :=
 VVal.loadV ha hb (by rw [cells_drop l i hi];exact h) q
theorem VVal.storeVL {α:Type} {_:Enc α} {t:TypeId} {a x:Operand} {b n i:Nat} {e:TypeId} {l:List α} {z:Bool} {r:PV} {inf:TypeInfo} (y:α) (ha:vev E.Γ L a=some (.eref b n (i*Enc.size α))) (hx:vev E.Γ L x=some r) (hb:hget H b=some (.vec e (cells l) n z)) (hn:notTup r)
 (hf:pcells r=(Enc.enc y).map .p) (hinf:E.P.info? t=some inf) (hl:Enc.size α=inf.size) (h0:0<inf.size) (hi:i<l.length) (q:Q (.tup []) (hput H b (.vec e (cells (l.set i y)) n z)) nx):VVal E true ⟨dst,.store t a x,ty,pos,af,gd⟩ L H nx Q :=
 VVal.storeV ha hx hb hn hf hinf (by rw [Enc.len,hl]) h0 (by
  rw [cells_length,← hl]
  have:=Nat.mul_le_mul_right (Enc.size α) hi
  rw [Nat.succ_mul] at this
  exact this) (by rw [psplice_cells l i y hi];exact q)
theorem repeat_cells {α:Type} [Enc α] {z:List Value} {a:α} (h:z.map cellFV=Enc.enc a) (n:Nat):(repeatCells z n).map cellFV=cells (List.replicate n a):=by
 induction n with
 |zero=>rfl
 |succ n ih=>simp only [repeatCells,List.map_append,h,ih,List.replicate_succ,cells,encs]
theorem VVal.makeSliceL {α:Type} {_:Enc α} {t e:TypeId} {l c:Operand} (n:Nat) (a:α) {k1 k2:IntKind} {v v':Int} {z:List Value} {i:TypeInfo} (hu:E.P.underlying t=some (.slice e)) (hi:E.P.info? e=some i) (hz:zeroCellsOf E.P e=some z) (hl:vev E.Γ L l=some (.p (.int k1 v))) (hc:vev E.Γ L c=some (.p (.int k2 v')))
 (hv:v=n) (hv':v'=n) (hb:n<1000000) (hb2:i.bytes<1000000) (hs:z.length=i.size∧0<i.size) (ha:z.map cellFV=Enc.enc a) (q:Q (.vec nx n 0 n) ((nx,.vec e (cells (List.replicate n a)) n false)::H) (nx+1)):VVal E w ⟨dst,.makeSlice t l c,ty,pos,af,gd⟩ L H nx Q :=
 VVal.makeSlice (n:=n) hu hi hz (by rw [hl,hv]) (by rw [hc,hv']) ⟨by have:=room_ok (n:=n) (k:=0) (b:=i.bytes) (by omega) hb2;simpa using this,by omega⟩ hs (by rw [repeat_cells ha];exact q)
theorem VVal.addU {t t2:TypeId} {x y:Operand} {a b:Int} (hx:vev E.Γ L x=some (.p (.int .u64 a))) (hy:vev E.Γ L y=some (.p (.int .u64 b))) (h:0≤a+b∧a+b<18446744073709551616) (q:Q (.p (.int .u64 (a+b))) H nx) :
 VVal E w ⟨dst,.binOp .add t x y t2,ty,pos,af,gd⟩ L H nx Q:=VVal.int hx hy (r:=.int .u64 (a+b)) (by simp only [vint,wrap_u64 h.1 h.2]) q
theorem VVal.subU {t t2:TypeId} {x y:Operand} {a b:Int} (hx:vev E.Γ L x=some (.p (.int .u64 a))) (hy:vev E.Γ L y=some (.p (.int .u64 b))) (h:0≤a-b∧a-b<18446744073709551616) (q:Q (.p (.int .u64 (a-b))) H nx) :
 VVal E w ⟨dst,.binOp .sub t x y t2,ty,pos,af,gd⟩ L H nx Q:=VVal.int hx hy (r:=.int .u64 (a-b)) (by simp only [vint,wrap_u64 h.1 h.2]) q
theorem VVal.mulU {t t2:TypeId} {x y:Operand} {a b:Int} (hx:vev E.Γ L x=some (.p (.int .u64 a))) (hy:vev E.Γ L y=some (.p (.int .u64 b))) (h:0≤a*b∧a*b<18446744073709551616) (q:Q (.p (.int .u64 (a*b))) H nx) :
 VVal E w ⟨dst,.binOp .mul t x y t2,ty,pos,af,gd⟩ L H nx Q:=VVal.int hx hy (r:=.int .u64 (a*b)) (by simp only [vint,wrap_u64 h.1 h.2]) q
theorem VVal.quoU {t t2:TypeId} {x y:Operand} {a c:Int} (hx:vev E.Γ L x=some (.p (.int .u64 a))) (hy:vev E.Γ L y=some (.p (.int .u64 c))) (ha:0≤a∧a<18446744073709551616) (hc:0<c) (q:Q (.p (.int .u64 (a / c))) H nx) :
 VVal E w ⟨dst,.binOp .quo t x y t2,ty,pos,af,gd⟩ L H nx Q:=by
 refine VVal.int hx hy (r:=.int .u64 (a / c)) ?_ q
 simp only [vint]
 rw [if_neg (by omega),Int.tdiv_eq_ediv_of_nonneg ha.1]
 have h1:0≤a / c:=Int.ediv_nonneg ha.1 (by omega)
 have h2:a / c≤a:=Int.ediv_le_self c ha.1
 rw [wrap_u64 h1 (by omega)]
theorem wrap_u8 {n:Int} (h0:0≤n) (h:n<256):IntKind.u8.wrap n=n:=by
 simp only [IntKind.wrap,IntKind.bits,IntKind.signed,Bool.false_and,Bool.false_eq_true,if_false]
 omega
theorem VVal.subB {t t2:TypeId} {x y:Operand} {a b:Int} (hx:vev E.Γ L x=some (.p (.int .u8 a))) (hy:vev E.Γ L y=some (.p (.int .u8 b))) (h:0≤a-b∧a-b<256) (q:Q (.p (.int .u8 (a-b))) H nx) :
 VVal E w ⟨dst,.binOp .sub t x y t2,ty,pos,af,gd⟩ L H nx Q:=VVal.int hx hy (r:=.int .u8 (a-b)) (by simp only [vint,wrap_u8 h.1 h.2]) q
theorem VVal.convU {s d:TypeId} {x:Operand} {k':IntKind} {n:Int} {sd:TypeDesc} (hx:vev E.Γ L x=some (.p (.int k' n))) (hs:E.P.underlying s=some sd) (hns:notSl sd=true) (hd:E.P.underlying d=some (.int .u64)) (hn:0≤n∧n<18446744073709551616) (q:Q (.p (.int .u64 n)) H nx) :
 VVal E w ⟨dst,.convert s d x,ty,pos,af,gd⟩ L H nx Q:=VVal.convInt hx hs hns hd (by rw [wrap_u64 hn.1 hn.2];exact q)
theorem VVal.convB {s d:TypeId} {x:Operand} {k':IntKind} {n:Int} {sd:TypeDesc} (hx:vev E.Γ L x=some (.p (.int k' n))) (hs:E.P.underlying s=some sd) (hns:notSl sd=true) (hd:E.P.underlying d=some (.int .u8)) (hn:0≤n∧n<256) (q:Q (.p (.int .u8 n)) H nx) :
 VVal E w ⟨dst,.convert s d x,ty,pos,af,gd⟩ L H nx Q:=VVal.convInt hx hs hns hd (by rw [wrap_u8 hn.1 hn.2];exact q)
theorem VVal.neg {t:TypeId} {x:Operand} {a:Int} (hx:vev E.Γ L x=some (.p (.int .i64 a))) (h:-9223372036854775808≤-a∧-a<9223372036854775808) (q:Q (.p (.int .i64 (-a))) H nx):VVal E w ⟨dst,.unOp .neg t x,ty,pos,af,gd⟩ L H nx Q :=
 VVal.quiet q fun m F σ tt c1 c2=>by
  refine ⟨.int .i64 (-a),fun _=>?_,.p (.int _ _)⟩
  have hd:dry E.P (Op.unary .neg (.int .i64 a))=some (.int .i64 (-a)):=by
   simp only [Op.unary,Op.intArith,Int.zero_sub,wrap_i64 h]
   rfl
  simp only [aval,aop,vev_int c1 c2 hx]
  rw [show plain (Value.int IntKind.i64 a)=true from rfl]
  simp only [if_true,dryV_of hd rfl,Option.map_some]
theorem VVal.binB {op:BinOp} {t t2:TypeId} {x y:Operand} {a b r:Bool} (hx:vev E.Γ L x=some (.p (.bool a))) (hy:vev E.Γ L y=some (.p (.bool b))) (ht:E.P.underlying t=some .bool) (hr:op=.eql∧r=(a==b)∨op=.neq∧r=(a != b)) (q:Q (.p (.bool r)) H nx) :
 VVal E w ⟨dst,.binOp op t x y t2,ty,pos,af,gd⟩ L H nx Q :=
 VVal.quiet q fun m F σ tt c1 c2=>by
  refine ⟨.bool r,fun _=>?_,.p (.bool _)⟩
  have hd:dry E.P (do eqGuard op t x y (.bool a) (.bool b);binOp op t (.bool a) (.bool b))=some (.bool r):=by
   have h2:∀ d,dry E.P (Op.equalIn (d+1) t (.bool a) (.bool b))=some (a==b):=fun d=>by
    simp only [Op.equalIn,dry_bind,dry_underlying,ht,Option.bind_some];rfl
   have h3:dry E.P (Op.equal t (.bool a) (.bool b))=some (a==b):=h2 (Op.maxDepth-1)
   rcases hr with ⟨rfl,rfl⟩|⟨rfl,rfl⟩
   ·show dry E.P (do eqGuard .eql t x y (.bool a) (.bool b);(do pure (.bool (← Op.equal t (.bool a) (.bool b))):Sem Value))=_
    simp only [eqGuard,dry_bind,h3,Option.bind_some,dry_pure]
    rfl
   ·show dry E.P (do eqGuard .neq t x y (.bool a) (.bool b);(do pure (.bool (!(← Op.equal t (.bool a) (.bool b)))):Sem Value))=_
    simp only [eqGuard,dry_bind,h3,Option.bind_some,dry_pure]
    rfl
  simp only [aval,aop,vev_bool c1 c2 hx,vev_bool c1 c2 hy,abin]
  rw [show (plain (Value.bool a)&&plain (Value.bool b))=true from rfl]
  simp only [if_true,dryV_of hd rfl,Option.map_some]
theorem VVal.neB {t t2:TypeId} {x y:Operand} {a b:Bool} (hx:vev E.Γ L x=some (.p (.bool a))) (hy:vev E.Γ L y=some (.p (.bool b))) (ht:E.P.underlying t=some .bool) (q:Q (.p (.bool (a != b))) H nx) :
 VVal E w ⟨dst,.binOp .neq t x y t2,ty,pos,af,gd⟩ L H nx Q:=VVal.binB hx hy ht (.inr ⟨rfl,rfl⟩) q
theorem VVal.maxI {x y:Operand} {aT:Array TypeId} {a b:Int} (hx:vev E.Γ L x=some (.p (.int .i64 a))) (hy:vev E.Γ L y=some (.p (.int .i64 b))) (q:Q (.p (.int .i64 (max a b))) H nx) :
 VVal E w ⟨dst,.call { callee:=.builtin .max,args:=#[x,y],argTypes:=aT },ty,pos,af,gd⟩ L H nx Q :=
 VVal.quiet q fun m F σ tt c1 c2=>by
  refine ⟨.int .i64 (max a b),fun _=>?_,.p (.int _ _)⟩
  have he:(#[x,y]:Array Operand).map (ev tt)=#[.int .i64 a,.int .i64 b]:=by simp [vev_int c1 c2 hx,vev_int c1 c2 hy]
  have hp:((#[x,y]:Array Operand).map (ev tt)).toList.all plain=true:=by rw [he];rfl
  have hd:dry E.P (Builtin.max_ aT ty #[.int .i64 a,.int .i64 b])=some (.int .i64 (max a b)):=by
   simp only [Builtin.max_,List.foldlM_cons,List.foldlM_nil,Builtin.max2,dry_bind,dry_pure,Option.bind_some]
   congr 2
   split<;>omega
  simp only [aval,aop,hp,if_true]
  rw [he,dryV_of hd rfl]
  rfl
theorem VVal.minI {x y:Operand} {aT:Array TypeId} {a b:Int} (hx:vev E.Γ L x=some (.p (.int .i64 a))) (hy:vev E.Γ L y=some (.p (.int .i64 b))) (q:Q (.p (.int .i64 (min a b))) H nx) :
 VVal E w ⟨dst,.call { callee:=.builtin .min,args:=#[x,y],argTypes:=aT },ty,pos,af,gd⟩ L H nx Q :=
 VVal.quiet q fun m F σ tt c1 c2=>by
  refine ⟨.int .i64 (min a b),fun _=>?_,.p (.int _ _)⟩
  have he:(#[x,y]:Array Operand).map (ev tt)=#[.int .i64 a,.int .i64 b]:=by simp [vev_int c1 c2 hx,vev_int c1 c2 hy]
  have hp:((#[x,y]:Array Operand).map (ev tt)).toList.all plain=true:=by rw [he];rfl
  have hd:dry E.P (Builtin.min_ aT ty #[.int .i64 a,.int .i64 b])=some (.int .i64 (min a b)):=by
   simp only [Builtin.min_,List.foldlM_cons,List.foldlM_nil,Builtin.min2,dry_bind,dry_pure,Option.bind_some]
   congr 2
   split<;>omega
  simp only [aval,aop,hp,if_true]
  rw [he,dryV_of hd rfl]
  rfl
end Go.Vm
namespace Go.Vm
open Go.Am
section
variable {P:Program} {G:List Nat}
theorem Sim.below {ι:Inj} {m:Mem} {w w':World} (hs:Sim P G ι m w) (hb:Go.RowKit.Below w.heap.size w w'):Sim P G ι m w':=by
 refine ⟨fun b ib h=>?_,fun b ib h=>?_,hs.inj,hs.glob⟩
 ·have:=hs.dom b ib h
  have:=hb.size
  omega
 ·rw [hb.block _ (hs.dom b ib h).2];exact hs.blk b ib h
theorem Post.below {ι:Inj} {m:Mem} {w w':World} {v:Value} (hs:Sim P G ι m w) (hb:Go.RowKit.Below w.heap.size w w') (hp:plain v=true):Post P G ι m w v m v w':=by
 refine ⟨ι,⟨Nat.le_refl _,Nat.le_refl _,fun _ _ _=>rfl,fun _ _ _=>rfl,fun _ _=>rfl,Le.refl _ _,fun b ib h=>.inl ⟨ib,h,rfl⟩,fun b ib h=>.inl ⟨ib,h⟩,hb.size,fun c hc _=>hb.block c hc,hb.tape,hb.os,hb.output⟩,Sim.below hs hb,VRel.plain hp⟩
abbrev LibF:=List Value→Mem→Option Value
open Classical in
noncomputable def libO (G:List Nat) (M0:Mem) (ls:List (FuncId×LibF)):Oracle:=fun f =>
 match ls.lookup f with
 |some F=>some fun asW m=>if ∀ k∈G,m.get k=M0.get k then (F asW m).map fun v=>(v,m) else none
 |none=>none
structure LibSound (P:Program) (G:List Nat) (M0:Mem) (f:FuncId) (F:LibF):Prop where
 noSeq:∀ n lb m,F (seqAs n lb) m=none
 enters:Enters P f
 calls:∀ ι m w (asW:List Value) (as':Array Value) v,Sim P G ι m w→(∀ k∈G,m.get k=M0.get k)→LRel ι m.gen asW as'.toList→F asW m=some v→plain v=true∧Calls P f as' w fun e w'=>e=.returned v∧Go.RowKit.Below w.heap.size w w'
theorem lookup_mem {α:Type} {f:FuncId} {a:α}:∀ {ls:List (FuncId×α)},ls.lookup f=some a→(f,a)∈ls
 |[],h=>by simp at h
 |(g,b)::ls,h=>by
  rw [List.lookup_cons] at h
  cases hg:f==g with
  |true =>
   rw [hg] at h
   cases h
   rw [eq_of_beq hg];simp
  |false=>rw [hg] at h;exact List.mem_cons_of_mem _ (lookup_mem h)
theorem libO_sound {M0:Mem} {ls:List (FuncId×LibF)} (h:∀ x∈ls,LibSound P G M0 x.1 x.2):OSound P G (libO G M0 ls):=by
 intro f Fo hf
 unfold libO at hf
 split at hf
 ·rename_i F hl
  cases hf
  have hs:=h _ (lookup_mem hl)
  refine ⟨fun asW m v m' hv ι w as' hsim hrel=>?_,fun asW m v m' hv=>?_,hs.enters,SeqFn.none fun n lb m=>by
   have h0:F (seqAs n lb) m=none:=hs.noSeq n lb m
   simp only [h0];split<;>rfl⟩
  ·simp only at hv
   split at hv
   ·rename_i hg
    rw [Option.map_eq_some_iff] at hv
    obtain ⟨u,h1,h2⟩:=hv
    cases h2
    obtain ⟨h3,h4⟩:=hs.calls ι m w asW as' v hsim hg hrel h1
    exact h4.mono fun e w' ⟨he,hb⟩=>⟨v,he,Post.below hsim hb h3⟩
   ·cases hv
  ·simp only at hv
   split at hv
   ·rw [Option.map_eq_some_iff] at hv
    obtain ⟨u,h1,h2⟩:=hv
    cases h2
    exact MemStep.refl _
   ·cases hv
 ·cases hf
end
section
variable {P:Program}
noncomputable def lawEnvO (P:Program) (F:Nat) (laid:List (String×DataW Unit)) (ls:List (FuncId×LibF)):Env :=
 ⟨P,libO (globList P F laid) (globMem P F laid) ls,globList P F laid,gam P F laid⟩
theorem libO_none {G:List Nat} {M0:Mem} {ls:List (FuncId×LibF)} {f:FuncId} (h:ls.lookup f=none):libO G M0 ls f=none:=by
 unfold libO;rw [h]
variable {H:Type} {enc:TypeId×Value→H} {W:World} {held:Bool}
end
theorem RF.cellsOf {m:Mem} {F:Nat→Prop} {e:TypeId} {cs:List FV} {n sz:Nat} {v:Value} (h:RF m F (.lst e cs n) v) (hl:cs.length=n*sz):∃ vs,sliceCells m sz n v=some vs∧RFs m F cs vs∧lenOf v=some n:=by
 cases h with
 |nil e=>exact ⟨[],rfl,.nil,rfl⟩
 |room e b o g=>exact ⟨[],rfl,.nil,rfl⟩
 |lst hF hm hw hr hc =>
  rename_i b o g vs ws ro
  refine ⟨ws,?_,hr,rfl⟩
  have:m.cellsAt ⟨b,o,some g⟩ (n*sz)=some ws:=by
   unfold Mem.cellsAt
   simp only [hm,agen,Option.getD_some,if_true,← hl,hw]
  cases n with
  |zero=>simp only [sliceCells,Nat.le_refl,if_true,this]
  |succ n=>simp only [sliceCells,Nat.le_refl,if_true,this]
theorem sliceCells_world {P:Program} {G:List Nat} {ι:Inj} {m:Mem} {w:World} {n:Nat} {s s':Value} {l:List Value} (hs:Sim P G ι m w) (hv:VRel ι m.gen s s') (hn:lenOf s=some n) (hns:∀ b,s≠.string b) (h:sliceCells m 1 n s=some l) :
 ∃ a cap,s'=.slice a n cap∧l.length=n∧(a=none∧n=0∨∃ A,a=some A∧A.spot=none∨n=0)∧∀ A,a=some A→∀ j v,l[j]?=some v→plain v=true→w.cell? (A.add j)=some v:=by
 have hlen:=sliceCells_length h
 cases hv with
 |slN=>cases hn;exact ⟨none,0,rfl,by omega,.inl ⟨rfl,rfl⟩,fun A hA=>by cases hA⟩
 |slE b o s a' =>
  cases hn
  refine ⟨some a',0,rfl,by omega,.inr ⟨a',.inr rfl⟩,fun A hA j v hj=>?_⟩
  have:l=[]:=List.eq_nil_of_length_eq_zero (by omega)
  rw [this] at hj;simp at hj
 |sl b off len gen a' cap hr =>
  cases hn
  refine ⟨some a',cap,rfl,by omega,?_,fun A hA j v hj hp=>?_⟩
  ·rcases Nat.eq_zero_or_pos n with h0|h0
   ·exact .inr ⟨a',.inr h0⟩
   ·refine .inr ⟨a',.inl ⟨rfl,?_⟩⟩
    have hl':m.cellsAt ⟨b,off,some gen⟩ n=some l:=by unfold sliceCells at h;simpa using h
    obtain ⟨vs,e,g,ro,hg,hag,hgen,_,_⟩:=cellsAt_some hl'
    obtain ⟨ib,_,_,_,hcur⟩:=hr
    have hag':gen=g:=hag
    exact (hcur (by rw [hag'];exact hgen.symm)).2.1
  ·cases hA
   have hj2:=(List.getElem?_eq_some_iff.1 hj).1
   have hpos:0<n:=by omega
   have ha:=slice_addr hr (fun _=>hpos) 0
   rw [Addr.add_zero'] at ha
   have hl':m.cellsAt ⟨b,off,some gen⟩ n=some l:=by unfold sliceCells at h;simpa using h
   obtain ⟨l',h1,h2,h3⟩:=cellsAt_run hs (by simpa using ha) hl'
   obtain ⟨v',h4,h5⟩:=h1.get hj
   have e2:v'=v:=h5.eq_of_plain hp
   rw [e2] at h4
   exact h3 j _ h4
 |str b=>exact absurd rfl (hns b)
 |_=>cases hn
end Go.Vm
namespace Go.Vm
open Go.Am
variable {E:Env} {L:Frame} {H:Heap} {nx:Nat} {Q:PV→Heap→Nat→Prop} {w:Bool}
variable {dst:Option Tmp} {ty:TypeId} {pos:String} {af:Array Edge} {gd:Option (Nat×Bool)}
theorem VVal.addUN {t t2:TypeId} {x y:Operand} {a b:Nat} (hx:vev E.Γ L x=some (.p (.int .u64 (a:Int)))) (hy:vev E.Γ L y=some (.p (.int .u64 (b:Int)))) (h:a+b<18446744073709551616) (q:Q (.p (.int .u64 ((a+b:Nat):Int))) H nx) :
 VVal E w ⟨dst,.binOp .add t x y t2,ty,pos,af,gd⟩ L H nx Q:=VVal.addU hx hy (by omega) (by rw [← Int.natCast_add];exact q)
theorem VVal.mulUN {t t2:TypeId} {x y:Operand} {a b:Nat} (hx:vev E.Γ L x=some (.p (.int .u64 (a:Int)))) (hy:vev E.Γ L y=some (.p (.int .u64 (b:Int)))) (h:a*b<18446744073709551616) (q:Q (.p (.int .u64 ((a*b:Nat):Int))) H nx) :
 VVal E w ⟨dst,.binOp .mul t x y t2,ty,pos,af,gd⟩ L H nx Q:=VVal.mulU hx hy (by rw [← Int.natCast_mul];omega) (by rw [← Int.natCast_mul];exact q)
theorem VVal.subUN {t t2:TypeId} {x y:Operand} {a b:Nat} (hx:vev E.Γ L x=some (.p (.int .u64 (a:Int)))) (hy:vev E.Γ L y=some (.p (.int .u64 (b:Int)))) (h:b≤a∧a<18446744073709551616) (q:Q (.p (.int .u64 ((a-b:Nat):Int))) H nx) :
 VVal E w ⟨dst,.binOp .sub t x y t2,ty,pos,af,gd⟩ L H nx Q:=VVal.subU hx hy (by omega) (by rw [← Int.ofNat_sub h.1];exact q)
theorem VVal.quoUN {t t2:TypeId} {x y:Operand} {a c:Nat} (hx:vev E.Γ L x=some (.p (.int .u64 (a:Int)))) (hy:vev E.Γ L y=some (.p (.int .u64 (c:Int)))) (h:a<18446744073709551616∧0<c) (q:Q (.p (.int .u64 ((a / c:Nat):Int))) H nx) :
 VVal E w ⟨dst,.binOp .quo t x y t2,ty,pos,af,gd⟩ L H nx Q:=VVal.quoU hx hy (by omega) (by omega) (by rw [← Int.natCast_ediv];exact q)
theorem VVal.remUN {t t2:TypeId} {x y:Operand} {a c:Nat} (hx:vev E.Γ L x=some (.p (.int .u64 (a:Int)))) (hy:vev E.Γ L y=some (.p (.int .u64 (c:Int)))) (h:0<c) (q:Q (.p (.int .u64 ((a % c:Nat):Int))) H nx) :
 VVal E w ⟨dst,.binOp .rem t x y t2,ty,pos,af,gd⟩ L H nx Q:=VVal.remN hx hy h q
theorem VVal.quoUT {t t2:TypeId} {x y:Operand} {a:Nat} {c:Int} (hx:vev E.Γ L x=some (.p (.int .u64 (a:Int)))) (hy:vev E.Γ L y=some (.p (.int .u64 c))) (h:a<18446744073709551616∧0<c) (q:Q (.p (.int .u64 ((a / c.toNat:Nat):Int))) H nx) :
 VVal E w ⟨dst,.binOp .quo t x y t2,ty,pos,af,gd⟩ L H nx Q:=VVal.quoUN (c:=c.toNat) hx (by rw [hy,Int.toNat_of_nonneg (by omega)]) (by omega) q
theorem VVal.remUT {t t2:TypeId} {x y:Operand} {a:Nat} {c:Int} (hx:vev E.Γ L x=some (.p (.int .u64 (a:Int)))) (hy:vev E.Γ L y=some (.p (.int .u64 c))) (h:0<c) (q:Q (.p (.int .u64 ((a % c.toNat:Nat):Int))) H nx) :
 VVal E w ⟨dst,.binOp .rem t x y t2,ty,pos,af,gd⟩ L H nx Q:=VVal.remUN (c:=c.toNat) hx (by rw [hy,Int.toNat_of_nonneg (by omega)]) (by omega) q
theorem VVal.andI {t t2:TypeId} {x y:Operand} {m n:Nat} (hx:vev E.Γ L x=some (.p (.int .i64 (m:Int)))) (hy:vev E.Γ L y=some (.p (.int .i64 (n:Int)))) (h:m<9223372036854775808∧n<9223372036854775808) (q:Q (.p (.int .i64 ((m &&& n:Nat):Int))) H nx) :
 VVal E w ⟨dst,.binOp .and t x y t2,ty,pos,af,gd⟩ L H nx Q:=VVal.int hx hy (vint_and (.inl ⟨rfl,h.1⟩) (by omega)) q
theorem VVal.subBN {t t2:TypeId} {x y:Operand} {a c:Nat} (hx:vev E.Γ L x=some (.p (.int .u8 (a:Int)))) (hy:vev E.Γ L y=some (.p (.int .u8 (c:Int)))) (h:c≤a∧a<256) (q:Q (.p (.int .u8 ((a-c:Nat):Int))) H nx) :
 VVal E w ⟨dst,.binOp .sub t x y t2,ty,pos,af,gd⟩ L H nx Q:=VVal.subB hx hy (by omega) (by rw [← Int.ofNat_sub h.1];exact q)
theorem VVal.sliceSI {t:TypeId} {x lo hi:Operand} {l:List UInt8} {k k':IntKind} {a b:Int} (hx:vev E.Γ L x=some (st l)) (hlo:vev E.Γ L lo=some (.p (.int k a))) (hhi:vev E.Γ L hi=some (.p (.int k' b))) (ht:E.P.underlying t=some .string) (h:0≤a∧a≤b∧b≤l.length)
 (q:Q (st ((l.take b.toNat).drop a.toNat)) H nx):VVal E w ⟨dst,.slice t x (some lo) (some hi) none,ty,pos,af,gd⟩ L H nx Q :=
 VVal.sliceSt (a:=a.toNat) (b:=b.toNat) hx ht ⟨k,by rw [hlo];congr 3;omega⟩ ⟨k',by rw [hhi];congr 3;omega⟩ (by omega) (by omega) q
theorem VVal.sliceToI {α:Type} {_:Enc α} {l:List α} {t:TypeId} {x o:Operand} {e:TypeId} {n:Nat} {inf:TypeInfo} {k:IntKind} {b:Int} (hx:vev E.Γ L x=some (.p (.lst e (cells l) n))) (hhi:vev E.Γ L o=some (.p (.int k b))) (ht:E.P.underlying t=some (.slice e)) (hi':E.P.info? e=some inf)
 (hsz:inf.size=Enc.size α) (hn:l.length=n) (hb:0≤b∧b≤l.length) (q:Q (.p (.lst e (cells (l.take b.toNat)) b.toNat)) H nx):VVal E w ⟨dst,.slice t x none (some o) none,ty,pos,af,gd⟩ L H nx Q :=
 VVal.sliceTo (b:=b.toNat) hx (by rw [hhi];congr 3;omega) ht hi' hsz hn (by omega) q
end Go.Vm
namespace Go.Proofs
open Go.Shelf
def Tryz.lays170_ren:Go.Shelf.Ren:=⟨fun|170=>161|n=>n,fun|70=>257|3=>3|0=>0|72=>259|37=>27|5=>5|n=>n,fun|n=>n⟩
def Tryz.lays169_ren:Go.Shelf.Ren:=⟨fun|169=>151|n=>n,fun|70=>257|9=>9|0=>0|72=>259|37=>27|127=>274|3=>3|5=>5|n=>n,fun|n=>n⟩
theorem Tryz.lays169:Go.Proofs.Lays.n169 Tryz.prog Tryz.lays169_ren:={
 mixed:=by kernel_rfl
 f169:=Tryz.func151.trans (congrArg some (by kernel_rfl))
 t0:=Tryz.underlying0
 a0:=Tryz.isAgg0
 z0:=Tryz.sizeOf0
 v0:=Tryz.zeroValue0
 t3:=Tryz.underlying3
 a3:=Tryz.isAgg3
 z3:=Tryz.sizeOf3
 v3:=Tryz.zeroValue3
 t9:=Tryz.underlying9
 a9:=Tryz.isAgg9
 z9:=Tryz.sizeOf9
 v9:=Tryz.zeroValue9
 t37:=Tryz.underlying27
 a37:=Tryz.isAgg27
 z37:=Tryz.sizeOf27
 v37:=Tryz.zeroValue27
 t70:=Tryz.underlying257
 a70:=Tryz.isAgg257
 z70:=Tryz.sizeOf257
 v70:=Tryz.zeroValue257
 t72:=Tryz.underlying259
 a72:=Tryz.isAgg259
 z72:=Tryz.sizeOf259
 v72:=Tryz.zeroValue259
 t127:=Tryz.underlying274
 a127:=Tryz.isAgg274
 z127:=Tryz.sizeOf274
 v127:=Tryz.zeroValue274 }
theorem Tryz.Builder_Extra_169:Builder.Extra Tryz.prog Tryz.lays169_ren:={
 sizeBuilder:=by kernel_rfl
 liesBuilder:=by kernel_rfl
 t5:=Tryz.underlying5
 a5:=Tryz.isAgg5
 z5:=Tryz.sizeOf5
 v5:=Tryz.zeroValue5
 infoByte:=by kernel_rfl
 cellsByte:=by kernel_rfl
 sizeByte:=by kernel_rfl
 neB5:=by decide }
def Tryz.lays241_ren:Go.Shelf.Ren:=⟨fun|241=>170|277=>175|n=>n,fun|70=>257|3=>3|0=>0|72=>259|37=>27|5=>5|n=>n,fun|n=>n⟩
def Tryz.lays165_ren:Go.Shelf.Ren:=⟨fun|165=>160|240=>159|241=>170|276=>169|277=>175|n=>n,fun|70=>257|3=>3|0=>0|4=>4|9=>9|20=>20|72=>259|37=>27|164=>280|5=>5|n=>n,fun|n=>n⟩
def Tryz.lays213_ren:Go.Shelf.Ren:=⟨fun|213=>156|265=>164|n=>n,fun|9=>9|3=>3|n=>n,fun|n=>n⟩
def Tryz.lays106_ren:Go.Shelf.Ren:=⟨fun|106=>145|213=>156|265=>164|n=>n,fun|9=>9|3=>3|n=>n,fun|n=>n⟩
theorem Tryz.lays106:Go.Proofs.Lays.n106 Tryz.prog Tryz.lays106_ren:={
 mixed:=by kernel_rfl
 f106:=Tryz.func145.trans (congrArg some (by kernel_rfl))
 f213:=Tryz.func156.trans (congrArg some (by kernel_rfl))
 f265:=Tryz.func164.trans (congrArg some (by kernel_rfl))
 t3:=Tryz.underlying3
 a3:=Tryz.isAgg3
 z3:=Tryz.sizeOf3
 v3:=Tryz.zeroValue3
 t9:=Tryz.underlying9
 a9:=Tryz.isAgg9
 z9:=Tryz.sizeOf9
 v9:=Tryz.zeroValue9 }
open Go.RowKit in
theorem Tryz.strings_Compare (a b:ByteArray) (w:World) :
 Calls Tryz.prog 145 #[.string a,.string b] w fun e w'=>e=.returned (.int .i64 (Lib.compareBytes a.data.toList b.data.toList))∧w'=w:=Any.strings_Compare Tryz.lays106 a b w
open Go.RowKit in
theorem Tryz.Builder_String_any_k (B b:Nat) (l:List UInt8) (w:World) (h:Lib.IsBuilderF 259 5 B b (Lib.byteCells l) w) (hBw:B≤w.heap.size) :
 Calls Tryz.prog 151 #[.pointer (some ⟨b,0,none⟩)] w fun e w'=>e=.returned (.string ⟨l.toArray⟩)∧(Lib.IsBuilderF 259 5 B b (Lib.byteCells l) w'∧Below B w w'∧Lib.OthersKept 5 (some b) w w'):=Any.Builder_String_any_k Tryz.lays169 Tryz.Builder_Extra_169 B b l w h hBw
def Tryz.lays129_ren:Go.Shelf.Ren:=⟨fun|129=>113|n=>n,fun|53=>68|3=>3|4=>4|46=>159|5=>5|9=>9|n=>n,fun|n=>n⟩
def Tryz.lays317_ren:Go.Shelf.Ren:=⟨fun|317=>171|n=>n,fun|3=>3|46=>159|n=>n,fun|n=>n⟩
def Tryz.lays318_ren:Go.Shelf.Ren:=⟨fun|318=>172|n=>n,fun|3=>3|4=>4|n=>n,fun|n=>n⟩
def Tryz.lays283_ren:Go.Shelf.Ren:=⟨fun|283=>165|n=>n,fun|3=>3|9=>9|4=>4|n=>n,fun|n=>n⟩
theorem Tryz.lays283:Go.Proofs.Lays.n283 Tryz.prog Tryz.lays283_ren:={
 mixed:=by kernel_rfl
 f283:=Tryz.func165.trans (congrArg some (by kernel_rfl))
 t3:=Tryz.underlying3
 a3:=Tryz.isAgg3
 z3:=Tryz.sizeOf3
 v3:=Tryz.zeroValue3
 t4:=Tryz.underlying4
 a4:=Tryz.isAgg4
 z4:=Tryz.sizeOf4
 v4:=Tryz.zeroValue4
 t9:=Tryz.underlying9
 a9:=Tryz.isAgg9
 z9:=Tryz.sizeOf9
 v9:=Tryz.zeroValue9 }
open Go.Lib in
theorem Tryz.internal_strconv_small (i:Nat) (h:i<100) (w:World) :
 Calls Tryz.prog 165 #[.int .i64 i] w fun e w'=>e=.returned (.string ⟨(Lib.decDigits i).toArray⟩)∧w'=w:=Any.internal_strconv_small Tryz.lays283 i h w
def Tryz.laysM284_ren:Go.Shelf.Ren:=⟨fun|284=>166|129=>113|317=>171|318=>172|n=>n,fun|53=>68|3=>3|212=>284|0=>0|4=>4|46=>159|5=>5|9=>9|n=>n,fun|17=>1|n=>n⟩
theorem Tryz.laysM284:Go.Proofs.LaysM.n284 Tryz.prog Tryz.laysM284_ren:={
 mixed:=by kernel_rfl
 f129:=Tryz.func113.trans (congrArg some (by kernel_rfl))
 f284:=Tryz.func166.trans (congrArg some (by kernel_rfl))
 f317:=Tryz.func171.trans (congrArg some (by kernel_rfl))
 f318:=Tryz.func172.trans (congrArg some (by kernel_rfl))
 t0:=Tryz.underlying0
 a0:=Tryz.isAgg0
 z0:=Tryz.sizeOf0
 v0:=Tryz.zeroValue0
 t3:=Tryz.underlying3
 a3:=Tryz.isAgg3
 z3:=Tryz.sizeOf3
 v3:=Tryz.zeroValue3
 t4:=Tryz.underlying4
 a4:=Tryz.isAgg4
 z4:=Tryz.sizeOf4
 v4:=Tryz.zeroValue4
 t5:=Tryz.underlying5
 a5:=Tryz.isAgg5
 z5:=Tryz.sizeOf5
 v5:=Tryz.zeroValue5
 t9:=Tryz.underlying9
 a9:=Tryz.isAgg9
 z9:=Tryz.sizeOf9
 v9:=Tryz.zeroValue9
 t46:=Tryz.underlying159
 a46:=Tryz.isAgg159
 z46:=Tryz.sizeOf159
 v46:=Tryz.zeroValue159
 t53:=Tryz.underlying68
 a53:=Tryz.isAgg68
 z53:=Tryz.sizeOf68
 v53:=Tryz.zeroValue68
 t212:=Tryz.underlying284
 a212:=Tryz.isAgg284
 z212:=Tryz.sizeOf284
 v212:=Tryz.zeroValue284
 g17:=by kernel_rfl
 i0:=by kernel_rfl
 i3:=by kernel_rfl
 i4:=by kernel_rfl
 i5:=by kernel_rfl
 i9:=by kernel_rfl
 i46:=by kernel_rfl
 i53:=by kernel_rfl
 i212:=by kernel_rfl
 m17:=by kernel_rfl }
open Go.Lib in
theorem Tryz.internal_strconv_numDigits (u:Nat) (h1:1≤u) (h2:u<18446744073709551616) (w:World) (htab:Lib.TabIs Tryz.prog w "internal/strconv.uint64pow10" .u64 Lib.pow10Tab) :
 Calls Tryz.prog 166 #[.int .u64 u] w fun e w'=>e=.returned (.int .i64 (Lib.nDigits u))∧w'=w:=Any.internal_strconv_numDigits Tryz.laysM284 u h1 h2 w htab
def Tryz.lays285_ren:Go.Shelf.Ren:=⟨fun|285=>167|n=>n,fun|37=>27|53=>68|3=>3|4=>4|51=>213|9=>9|5=>5|0=>0|n=>n,fun|n=>n⟩
theorem Tryz.lays285:Go.Proofs.Lays.n285 Tryz.prog Tryz.lays285_ren:={
 mixed:=by kernel_rfl
 f285:=Tryz.func167.trans (congrArg some (by kernel_rfl))
 t0:=Tryz.underlying0
 a0:=Tryz.isAgg0
 z0:=Tryz.sizeOf0
 v0:=Tryz.zeroValue0
 t3:=Tryz.underlying3
 a3:=Tryz.isAgg3
 z3:=Tryz.sizeOf3
 v3:=Tryz.zeroValue3
 t4:=Tryz.underlying4
 a4:=Tryz.isAgg4
 z4:=Tryz.sizeOf4
 v4:=Tryz.zeroValue4
 t5:=Tryz.underlying5
 a5:=Tryz.isAgg5
 z5:=Tryz.sizeOf5
 v5:=Tryz.zeroValue5
 t9:=Tryz.underlying9
 a9:=Tryz.isAgg9
 z9:=Tryz.sizeOf9
 v9:=Tryz.zeroValue9
 t37:=Tryz.underlying27
 a37:=Tryz.isAgg27
 z37:=Tryz.sizeOf27
 v37:=Tryz.zeroValue27
 t51:=Tryz.underlying213
 a51:=Tryz.isAgg213
 z51:=Tryz.sizeOf213
 v51:=Tryz.zeroValue213
 t53:=Tryz.underlying68
 a53:=Tryz.isAgg68
 z53:=Tryz.sizeOf68
 v53:=Tryz.zeroValue68 }
open Go.RowKit Go.Sort Go.Lib in
theorem Tryz.internal_strconv_formatBase10 (blk off cap:Nat) (u:Nat) (d:Array UInt8) (w:World) (hH:Holds (fun (b:UInt8)=>Value.int .u8 (b.toNat:Int)) w blk off d) (hu:u<10 ^ d.size) (hu64:u<18446744073709551616) (hsz:d.size<4611686018427387904) :
 Calls Tryz.prog 167 #[.slice (some ⟨blk,off,none⟩) d.size cap,.int .u64 u] w fun e w' =>
  e=.returned (.tuple #[])∧∃ (n v':Nat) (dk:Array UInt8),w'=(putRow (fun (b:UInt8)=>Value.int .u8 (b.toNat:Int)) w blk off dk).drewN n∧FmtInv d.size u 0 v' dk:=Any.internal_strconv_formatBase10 Tryz.lays285 blk off cap u d w hH hu hu64 hsz
def Tryz.laysM246_ren:Go.Shelf.Ren:=⟨fun|246=>162|283=>165|284=>166|285=>167|286=>168|129=>113|317=>171|318=>172|319=>173|320=>174|337=>176|338=>177|n=>n,fun|2=>2|3=>3|9=>9|4=>4|171=>276|0=>0|53=>68|37=>27|5=>5|173=>278|212=>284|51=>213|20=>20|213=>285|46=>159|232=>287|233=>288|n=>n,fun|17=>1|18=>2|19=>3|n=>n⟩
def Tryz.lays246_ren:Go.Shelf.Ren:=⟨fun|246=>162|283=>165|284=>166|285=>167|286=>168|129=>113|317=>171|318=>172|319=>173|320=>174|337=>176|338=>177|n=>n,fun|2=>2|3=>3|9=>9|4=>4|171=>276|0=>0|53=>68|37=>27|5=>5|173=>278|212=>284|51=>213|20=>20|213=>285|46=>159|232=>287|233=>288|n=>n,fun|17=>1|18=>2|19=>3|n=>n⟩
def Tryz.laysM243_ren:Go.Shelf.Ren:=⟨fun|243=>153|246=>162|283=>165|284=>166|285=>167|286=>168|129=>113|317=>171|318=>172|319=>173|320=>174|337=>176|338=>177|n=>n,fun|3=>3|9=>9|2=>2|4=>4|171=>276|0=>0|53=>68|37=>27|5=>5|173=>278|212=>284|51=>213|20=>20|213=>285|46=>159|232=>287|233=>288|n=>n,fun|17=>1|18=>2|19=>3|n=>n⟩
def Tryz.lays243_ren:Go.Shelf.Ren:=⟨fun|243=>153|246=>162|283=>165|284=>166|285=>167|286=>168|129=>113|317=>171|318=>172|319=>173|320=>174|337=>176|338=>177|n=>n,fun|3=>3|9=>9|2=>2|4=>4|171=>276|0=>0|53=>68|37=>27|5=>5|173=>278|212=>284|51=>213|20=>20|213=>285|46=>159|232=>287|233=>288|n=>n,fun|17=>1|18=>2|19=>3|n=>n⟩
def Tryz.laysM171_ren:Go.Shelf.Ren:=⟨fun|171=>141|243=>153|246=>162|283=>165|284=>166|285=>167|286=>168|129=>113|317=>171|318=>172|319=>173|320=>174|337=>176|338=>177|n=>n,fun|3=>3|9=>9|2=>2|4=>4|171=>276|0=>0|53=>68|37=>27|5=>5|173=>278|212=>284|51=>213|20=>20|213=>285|46=>159|232=>287|233=>288|n=>n,fun|17=>1|18=>2|19=>3|n=>n⟩
theorem Tryz.laysM171:Go.Proofs.LaysM.n171 Tryz.prog Tryz.laysM171_ren:={
 mixed:=by kernel_rfl
 f129:=Tryz.func113.trans (congrArg some (by kernel_rfl))
 f171:=Tryz.func141.trans (congrArg some (by kernel_rfl))
 f243:=Tryz.func153.trans (congrArg some (by kernel_rfl))
 f246:=Tryz.func162.trans (congrArg some (by kernel_rfl))
 f283:=Tryz.func165.trans (congrArg some (by kernel_rfl))
 f284:=Tryz.func166.trans (congrArg some (by kernel_rfl))
 f285:=Tryz.func167.trans (congrArg some (by kernel_rfl))
 f286:=Tryz.func168.trans (congrArg some (by kernel_rfl))
 f317:=Tryz.func171.trans (congrArg some (by kernel_rfl))
 f318:=Tryz.func172.trans (congrArg some (by kernel_rfl))
 f319:=Tryz.func173.trans (congrArg some (by kernel_rfl))
 f320:=Tryz.func174.trans (congrArg some (by kernel_rfl))
 f337:=Tryz.func176.trans (congrArg some (by kernel_rfl))
 f338:=Tryz.func177.trans (congrArg some (by kernel_rfl))
 t0:=Tryz.underlying0
 a0:=Tryz.isAgg0
 z0:=Tryz.sizeOf0
 v0:=Tryz.zeroValue0
 t2:=Tryz.underlying2
 a2:=Tryz.isAgg2
 z2:=Tryz.sizeOf2
 v2:=Tryz.zeroValue2
 t3:=Tryz.underlying3
 a3:=Tryz.isAgg3
 z3:=Tryz.sizeOf3
 v3:=Tryz.zeroValue3
 t4:=Tryz.underlying4
 a4:=Tryz.isAgg4
 z4:=Tryz.sizeOf4
 v4:=Tryz.zeroValue4
 t5:=Tryz.underlying5
 a5:=Tryz.isAgg5
 z5:=Tryz.sizeOf5
 v5:=Tryz.zeroValue5
 t9:=Tryz.underlying9
 a9:=Tryz.isAgg9
 z9:=Tryz.sizeOf9
 v9:=Tryz.zeroValue9
 t20:=Tryz.underlying20
 a20:=Tryz.isAgg20
 z20:=Tryz.sizeOf20
 v20:=Tryz.zeroValue20
 t37:=Tryz.underlying27
 a37:=Tryz.isAgg27
 z37:=Tryz.sizeOf27
 v37:=Tryz.zeroValue27
 t46:=Tryz.underlying159
 a46:=Tryz.isAgg159
 z46:=Tryz.sizeOf159
 v46:=Tryz.zeroValue159
 t51:=Tryz.underlying213
 a51:=Tryz.isAgg213
 z51:=Tryz.sizeOf213
 v51:=Tryz.zeroValue213
 t53:=Tryz.underlying68
 a53:=Tryz.isAgg68
 z53:=Tryz.sizeOf68
 v53:=Tryz.zeroValue68
 t171:=Tryz.underlying276
 a171:=Tryz.isAgg276
 z171:=Tryz.sizeOf276
 v171:=Tryz.zeroValue276
 t173:=Tryz.underlying278
 a173:=Tryz.isAgg278
 z173:=Tryz.sizeOf278
 v173:=Tryz.zeroValue278
 t212:=Tryz.underlying284
 a212:=Tryz.isAgg284
 z212:=Tryz.sizeOf284
 v212:=Tryz.zeroValue284
 t213:=Tryz.underlying285
 a213:=Tryz.isAgg285
 z213:=Tryz.sizeOf285
 t232:=Tryz.underlying287
 a232:=Tryz.isAgg287
 z232:=Tryz.sizeOf287
 v232:=Tryz.zeroValue287
 t233:=Tryz.underlying288
 a233:=Tryz.isAgg288
 z233:=Tryz.sizeOf288
 v233:=Tryz.zeroValue288
 g17:=by kernel_rfl
 g18:=by kernel_rfl
 g19:=by kernel_rfl
 i0:=by kernel_rfl
 i2:=by kernel_rfl
 i3:=by kernel_rfl
 i4:=by kernel_rfl
 i5:=by kernel_rfl
 i9:=by kernel_rfl
 i20:=by kernel_rfl
 i37:=by kernel_rfl
 i46:=by kernel_rfl
 i51:=by kernel_rfl
 i53:=by kernel_rfl
 i171:=by kernel_rfl
 i173:=by kernel_rfl
 i212:=by kernel_rfl
 i232:=by kernel_rfl
 i233:=by kernel_rfl
 m17:=by kernel_rfl
 m18:=by kernel_rfl
 m19:=by kernel_rfl }
open Go.RowKit Go.Sort Go.Lib in
theorem Tryz.strconv_Itoa (n:Int) (h0:-9223372036854775808≤n) (h1:n≤9223372036854775807) (w:World) (htab:Lib.TabIs Tryz.prog w "internal/strconv.uint64pow10" .u64 Lib.pow10Tab) :
 Calls Tryz.prog 141 #[.int .i64 n] w fun e w'=>e=.returned (.string ⟨(Lib.itoa n).toArray⟩)∧∃ k os,w'=grow (w.drewN k) os:=Any.strconv_Itoa Tryz.laysM171 n h0 h1 w htab
def Tryz.lays171_ren:Go.Shelf.Ren:=⟨fun|171=>141|243=>153|246=>162|283=>165|284=>166|285=>167|286=>168|129=>113|317=>171|318=>172|319=>173|320=>174|337=>176|338=>177|n=>n,fun|3=>3|9=>9|2=>2|4=>4|171=>276|0=>0|53=>68|37=>27|5=>5|173=>278|212=>284|51=>213|20=>20|213=>285|46=>159|232=>287|233=>288|n=>n,fun|17=>1|18=>2|19=>3|n=>n⟩
def Tryz.lays189_ren:Go.Shelf.Ren:=⟨fun|189=>54|125=>86|257=>85|128=>112|129=>113|294=>103|295=>104|296=>105|297=>106|298=>107|299=>108|216=>109|300=>110|301=>111|328=>122|329=>123|330=>124|331=>125|332=>126|215=>127|343=>134|n=>n,fun|28=>41|3=>3|46=>159|0=>0|51=>213|53=>68|4=>4|183=>206|182=>205|131=>189|5=>5|9=>9|218=>223|222=>227|228=>238|229=>138|n=>n,fun|n=>n⟩
theorem Tryz.lays189:Go.Proofs.Lays.n189 Tryz.prog Tryz.lays189_ren:={
 mixed:=by kernel_rfl
 f125:=Tryz.func86.trans (congrArg some (by kernel_rfl))
 f128:=Tryz.func112.trans (congrArg some (by kernel_rfl))
 f129:=Tryz.func113.trans (congrArg some (by kernel_rfl))
 f189:=Tryz.func54.trans (congrArg some (by kernel_rfl))
 f215:=Tryz.func127.trans (congrArg some (by kernel_rfl))
 f216:=Tryz.func109.trans (congrArg some (by kernel_rfl))
 f257:=Tryz.func85.trans (congrArg some (by kernel_rfl))
 f294:=Tryz.func103.trans (congrArg some (by kernel_rfl))
 f295:=Tryz.func104.trans (congrArg some (by kernel_rfl))
 f296:=Tryz.func105.trans (congrArg some (by kernel_rfl))
 f297:=Tryz.func106.trans (congrArg some (by kernel_rfl))
 f298:=Tryz.func107.trans (congrArg some (by kernel_rfl))
 f299:=Tryz.func108.trans (congrArg some (by kernel_rfl))
 f300:=Tryz.func110.trans (congrArg some (by kernel_rfl))
 f301:=Tryz.func111.trans (congrArg some (by kernel_rfl))
 f328:=Tryz.func122.trans (congrArg some (by kernel_rfl))
 f329:=Tryz.func123.trans (congrArg some (by kernel_rfl))
 f330:=Tryz.func124.trans (congrArg some (by kernel_rfl))
 f331:=Tryz.func125.trans (congrArg some (by kernel_rfl))
 f332:=Tryz.func126.trans (congrArg some (by kernel_rfl))
 f343:=Tryz.func134.trans (congrArg some (by kernel_rfl))
 t0:=Tryz.underlying0
 a0:=Tryz.isAgg0
 z0:=Tryz.sizeOf0
 v0:=Tryz.zeroValue0
 t3:=Tryz.underlying3
 a3:=Tryz.isAgg3
 z3:=Tryz.sizeOf3
 v3:=Tryz.zeroValue3
 t4:=Tryz.underlying4
 a4:=Tryz.isAgg4
 z4:=Tryz.sizeOf4
 v4:=Tryz.zeroValue4
 t5:=Tryz.underlying5
 a5:=Tryz.isAgg5
 z5:=Tryz.sizeOf5
 v5:=Tryz.zeroValue5
 t9:=Tryz.underlying9
 a9:=Tryz.isAgg9
 z9:=Tryz.sizeOf9
 v9:=Tryz.zeroValue9
 t28:=Tryz.underlying41
 a28:=Tryz.isAgg41
 z28:=Tryz.sizeOf41
 v28:=Tryz.zeroValue41
 t46:=Tryz.underlying159
 a46:=Tryz.isAgg159
 z46:=Tryz.sizeOf159
 v46:=Tryz.zeroValue159
 t51:=Tryz.underlying213
 a51:=Tryz.isAgg213
 z51:=Tryz.sizeOf213
 v51:=Tryz.zeroValue213
 t53:=Tryz.underlying68
 a53:=Tryz.isAgg68
 z53:=Tryz.sizeOf68
 v53:=Tryz.zeroValue68
 t131:=Tryz.underlying189
 a131:=Tryz.isAgg189
 z131:=Tryz.sizeOf189
 v131:=Tryz.zeroValue189
 t182:=Tryz.underlying205
 a182:=Tryz.isAgg205
 z182:=Tryz.sizeOf205
 v182:=Tryz.zeroValue205
 t183:=Tryz.underlying206
 a183:=Tryz.isAgg206
 z183:=Tryz.sizeOf206
 v183:=Tryz.zeroValue206
 t218:=Tryz.underlying223
 a218:=Tryz.isAgg223
 z218:=Tryz.sizeOf223
 v218:=Tryz.zeroValue223
 t222:=Tryz.underlying227
 a222:=Tryz.isAgg227
 z222:=Tryz.sizeOf227
 v222:=Tryz.zeroValue227
 t228:=Tryz.underlying238
 a228:=Tryz.isAgg238
 z228:=Tryz.sizeOf238
 v228:=Tryz.zeroValue238
 t229:=Tryz.underlying138
 a229:=Tryz.isAgg138
 z229:=Tryz.sizeOf138
 v229:=Tryz.zeroValue138 }
open Go.Sort Go.RowKit in
theorem Tryz.slices_Sort_int (blk off cap:Nat) (zs:List Int) (w:World) (hH:Holds (Value.int .i64) w blk off zs.toArray) (hblk:blk<w.heap.size) (hsz:zs.length<4611686018427387904) :
 Calls Tryz.prog 54 #[.slice (some ⟨blk,off,none⟩) zs.length cap] w fun e w' =>
  e=.returned (.tuple #[])∧∃ n os,w'=grow (putRow (Value.int .i64) (Sort.ahead w n) blk off (zs.mergeSort fun x y=>decide (x≤y)).toArray) os:=Any.slices_Sort_int Tryz.lays189 blk off cap zs w hH hblk hsz
def Tryz.lays206_ren:Go.Shelf.Ren:=⟨fun|206=>163|n=>n,fun|9=>9|4=>4|3=>3|n=>n,fun|n=>n⟩
def Tryz.lays99_ren:Go.Shelf.Ren:=⟨fun|99=>154|206=>163|n=>n,fun|9=>9|4=>4|3=>3|n=>n,fun|n=>n⟩
def Tryz.lays264_ren:Go.Shelf.Ren:=⟨fun|264=>136|n=>n,fun|53=>68|46=>159|n=>n,fun|n=>n⟩
def Tryz.lays212_ren:Go.Shelf.Ren:=⟨fun|212=>128|263=>135|264=>136|n=>n,fun|46=>159|51=>213|146=>240|53=>68|148=>242|n=>n,fun|n=>n⟩
def Tryz.lays105_ren:Go.Shelf.Ren:=⟨fun|105=>150|212=>128|99=>154|165=>160|166=>149|170=>161|169=>151|263=>135|264=>136|206=>163|240=>159|241=>170|276=>169|277=>175|n=>n,fun|9=>9|3=>3|4=>4|20=>20|0=>0|46=>159|109=>229|5=>5|72=>259|76=>266|51=>213|146=>240|53=>68|148=>242|70=>257|37=>27|75=>265|127=>274|164=>280|80=>247|n=>n,fun|n=>n⟩
theorem Tryz.lays105:Go.Proofs.Lays.n105 Tryz.prog Tryz.lays105_ren:={
 mixed:=by kernel_rfl
 f99:=Tryz.func154.trans (congrArg some (by kernel_rfl))
 f105:=Tryz.func150.trans (congrArg some (by kernel_rfl))
 f165:=Tryz.func160.trans (congrArg some (by kernel_rfl))
 f166:=Tryz.func149.trans (congrArg some (by kernel_rfl))
 f169:=Tryz.func151.trans (congrArg some (by kernel_rfl))
 f170:=Tryz.func161.trans (congrArg some (by kernel_rfl))
 f206:=Tryz.func163.trans (congrArg some (by kernel_rfl))
 f212:=Tryz.func128.trans (congrArg some (by kernel_rfl))
 f240:=Tryz.func159.trans (congrArg some (by kernel_rfl))
 f241:=Tryz.func170.trans (congrArg some (by kernel_rfl))
 f263:=Tryz.func135.trans (congrArg some (by kernel_rfl))
 f264:=Tryz.func136.trans (congrArg some (by kernel_rfl))
 f276:=Tryz.func169.trans (congrArg some (by kernel_rfl))
 f277:=Tryz.func175.trans (congrArg some (by kernel_rfl))
 t0:=Tryz.underlying0
 a0:=Tryz.isAgg0
 z0:=Tryz.sizeOf0
 v0:=Tryz.zeroValue0
 t3:=Tryz.underlying3
 a3:=Tryz.isAgg3
 z3:=Tryz.sizeOf3
 v3:=Tryz.zeroValue3
 t4:=Tryz.underlying4
 a4:=Tryz.isAgg4
 z4:=Tryz.sizeOf4
 v4:=Tryz.zeroValue4
 t5:=Tryz.underlying5
 a5:=Tryz.isAgg5
 z5:=Tryz.sizeOf5
 v5:=Tryz.zeroValue5
 t9:=Tryz.underlying9
 a9:=Tryz.isAgg9
 z9:=Tryz.sizeOf9
 v9:=Tryz.zeroValue9
 t20:=Tryz.underlying20
 a20:=Tryz.isAgg20
 z20:=Tryz.sizeOf20
 v20:=Tryz.zeroValue20
 t37:=Tryz.underlying27
 a37:=Tryz.isAgg27
 z37:=Tryz.sizeOf27
 v37:=Tryz.zeroValue27
 t46:=Tryz.underlying159
 a46:=Tryz.isAgg159
 z46:=Tryz.sizeOf159
 v46:=Tryz.zeroValue159
 t51:=Tryz.underlying213
 a51:=Tryz.isAgg213
 z51:=Tryz.sizeOf213
 v51:=Tryz.zeroValue213
 t53:=Tryz.underlying68
 a53:=Tryz.isAgg68
 z53:=Tryz.sizeOf68
 v53:=Tryz.zeroValue68
 t70:=Tryz.underlying257
 a70:=Tryz.isAgg257
 z70:=Tryz.sizeOf257
 v70:=Tryz.zeroValue257
 t72:=Tryz.underlying259
 a72:=Tryz.isAgg259
 z72:=Tryz.sizeOf259
 v72:=Tryz.zeroValue259
 t75:=Tryz.underlying265
 a75:=Tryz.isAgg265
 z75:=Tryz.sizeOf265
 v75:=Tryz.zeroValue265
 t76:=Tryz.underlying266
 a76:=Tryz.isAgg266
 z76:=Tryz.sizeOf266
 v76:=Tryz.zeroValue266
 t109:=Tryz.underlying229
 a109:=Tryz.isAgg229
 z109:=Tryz.sizeOf229
 v109:=Tryz.zeroValue229
 t127:=Tryz.underlying274
 a127:=Tryz.isAgg274
 z127:=Tryz.sizeOf274
 v127:=Tryz.zeroValue274
 t146:=Tryz.underlying240
 a146:=Tryz.isAgg240
 z146:=Tryz.sizeOf240
 v146:=Tryz.zeroValue240
 t148:=Tryz.underlying242
 a148:=Tryz.isAgg242
 z148:=Tryz.sizeOf242
 v148:=Tryz.zeroValue242
 t164:=Tryz.underlying280
 a164:=Tryz.isAgg280
 z164:=Tryz.sizeOf280
 v164:=Tryz.zeroValue280 }
theorem Tryz.Builder_Extra_105:Builder.Extra Tryz.prog Tryz.lays105_ren:={
 sizeBuilder:=by kernel_rfl
 liesBuilder:=by kernel_rfl
 t5:=Tryz.underlying5
 a5:=Tryz.isAgg5
 z5:=Tryz.sizeOf5
 v5:=Tryz.zeroValue5
 infoByte:=by kernel_rfl
 cellsByte:=by kernel_rfl
 sizeByte:=by kernel_rfl
 neB5:=by decide }
open Go.RowKit Go.Lib in
theorem Tryz.strings_Repeat (s:ByteArray) (c:Nat) (w:World) (hc:c≤9223372036854775807) (hlen:s.size*c≤140737488355328) :
 Calls Tryz.prog 150 #[.string s,.int .i64 c] w fun e w'=>e=.returned (.string ⟨(Lib.repeatL s.data.toList c).toArray⟩)∧Below w.heap.size w w':=Any.strings_Repeat Tryz.lays105 Tryz.Builder_Extra_105 s c w hc hlen
def Tryz.laysNm220_ren:Go.Shelf.Ren:=⟨fun|20=>55|n=>n,fun|22=>41|3=>3|4=>4|0=>0|n=>n,fun|n=>n⟩
theorem Tryz.laysNm220:Go.Proofs.Lays2.n20 Tryz.prog Tryz.laysNm220_ren:={
 mixed:=by kernel_rfl
 f20:=Tryz.func55.trans (congrArg some (by kernel_rfl))
 t0:=Tryz.underlying0
 a0:=Tryz.isAgg0
 z0:=Tryz.sizeOf0
 v0:=Tryz.zeroValue0
 t3:=Tryz.underlying3
 a3:=Tryz.isAgg3
 z3:=Tryz.sizeOf3
 v3:=Tryz.zeroValue3
 t4:=Tryz.underlying4
 a4:=Tryz.isAgg4
 z4:=Tryz.sizeOf4
 v4:=Tryz.zeroValue4
 t22:=Tryz.underlying41
 a22:=Tryz.isAgg41
 z22:=Tryz.sizeOf41
 v22:=Tryz.zeroValue41
 i3:=by kernel_rfl }
open Go.RowKit Go.Lib Go.Sort in
theorem Tryz.slices_Compact_int (blk off cap:Nat) (zs:List Int) (w:World) (hH:Holds (Value.int .i64) w blk off zs.toArray) (hsz:zs.length≤9223372036854775807) (hcap:zs.length≤cap) :
 Calls Tryz.prog 55 #[.slice (some ⟨blk,off,none⟩) zs.length cap] w fun e w'=>e=.returned (.slice (some ⟨blk,off,none⟩) (Lib.compact zs).length cap)∧∃ q,w'=putRow (Value.int .i64) (Sort.ahead w q) blk off (Lib.compact zs++List.replicate (zs.length-(Lib.compact zs).length) 0).toArray:=Any.slices_Compact_int Tryz.laysNm220 blk off cap zs w hH hsz hcap
open Go.RowKit Go.Sort in
theorem Tryz.slices_Sort_int_none (p:Option Addr) (cap:Nat) (w:World) :
 Calls Tryz.prog 54 #[.slice p 0 cap] w fun e w'=>e=.returned (.tuple #[])∧w'=w:=Any.slices_Sort_int_none Tryz.lays189 p cap w
end Go.Proofs
namespace Go.Num
open Go.Lib
abbrev B9:Nat:=1000000000
def val:List Nat→Nat
 |[]=>0
 |a::l=>a+B9*val l
def toL (n:Nat):List Nat:=if h:n=0 then [] else (n % B9)::toL (n / B9)
termination_by n
decreasing_by exact Nat.div_lt_self (by omega) (by decide)
theorem toL_zero:toL 0=[]:=by rw [toL];simp
theorem toL_pos {n:Nat} (h:n≠0):toL n=(n % B9)::toL (n / B9):=by rw [toL,dif_neg h]
theorem toL_nil {n:Nat}:toL n=[]↔n=0:=by
 constructor
 ·intro h
  by_cases h0:n=0
  ·exact h0
  ·rw [toL_pos h0] at h;cases h
 ·intro h;rw [h,toL_zero]
def Lim (l:List Nat):Prop:=∀ a∈l,a<B9
theorem val_toL (n:Nat):val (toL n)=n:=by
 induction n using Nat.strongRecOn with
 |ind n ih =>
  by_cases h:n=0
  ·rw [h,toL_zero];rfl
  ·rw [toL_pos h,val,ih _ (Nat.div_lt_self (by omega) (by decide))]
   exact Nat.mod_add_div n B9
theorem lim_toL (n:Nat):Lim (toL n):=by
 induction n using Nat.strongRecOn with
 |ind n ih =>
  by_cases h:n=0
  ·rw [h,toL_zero];intro a ha;cases ha
  ·rw [toL_pos h]
   intro a ha
   rcases List.mem_cons.1 ha with rfl|ha
   ·exact Nat.mod_lt _ (by decide)
   ·exact ih _ (Nat.div_lt_self (by omega) (by decide)) a ha
def trimL:List Nat→List Nat
 |[]=>[]
 |a::t=>if trimL t=[]∧a=0 then [] else a::trimL t
theorem trim_toL {l:List Nat} (h:Lim l):trimL l=toL (val l):=by
 induction l with
 |nil=>rw [val,toL_zero];rfl
 |cons a t ih =>
  have ha:a<B9:=h a (by simp)
  have ih:=ih (fun x hx=>h x (by simp [hx]))
  simp only [trimL,val]
  rw [ih]
  by_cases h0:val t=0∧a=0
  ·rw [if_pos ⟨toL_nil.2 h0.1,h0.2⟩,h0.1,h0.2];simp [toL_zero]
  ·rw [if_neg (fun h1=>h0 ⟨toL_nil.1 h1.1,h1.2⟩)]
   have hne:a+B9*val t≠0:=fun e=>h0 ⟨by
    rcases Nat.eq_zero_or_pos (val t) with h1|h1
    ·exact h1
    ·have:=Nat.mul_le_mul_left B9 h1;simp only [B9] at *;omega,by omega⟩
   rw [toL_pos hne,Nat.add_mul_mod_self_left,Nat.mod_eq_of_lt ha,Nat.add_mul_div_left _ _ (by decide),Nat.div_eq_of_lt ha,Nat.zero_add]
theorem trim_append_zero (l:List Nat):trimL (l++[0])=trimL l:=by
 induction l with
 |nil=>rfl
 |cons a t ih=>simp only [List.cons_append,trimL,ih]
theorem trim_append_ne (l:List Nat) {x:Nat} (hx:x≠0):trimL (l++[x])=l++[x]:=by
 induction l with
 |nil=>simp [trimL,hx]
 |cons a t ih=>simp only [List.cons_append,trimL,ih];rw [if_neg];intro h;simp at h
theorem val_append (l r:List Nat):val (l++r)=val l+B9 ^ l.length*val r:=by
 induction l with
 |nil=>simp [val]
 |cons a t ih=>simp only [List.cons_append,val,ih,List.length_cons,Nat.pow_succ];rw [Nat.mul_add,← Nat.mul_assoc,Nat.mul_comm B9 (B9 ^ _),Nat.add_assoc]
theorem val_replicate (n:Nat):val (List.replicate n 0)=0:=by
 induction n with
 |zero=>rfl
 |succ n ih=>simp [List.replicate_succ,val,ih]
theorem val_set (l:List Nat):∀ (i x:Nat),i<l.length→val (l.set i x)+(l[i]?.getD 0)*B9 ^ i=val l+x*B9 ^ i:=by
 induction l with
 |nil=>intro i x h;simp at h
 |cons a t ih =>
  intro i x h
  cases i with
  |zero=>simp [val];omega
  |succ i =>
   have:=ih i x (by simpa using h)
   simp only [List.set_cons_succ,val,List.getElem?_cons_succ,Nat.pow_succ]
   rw [← Nat.mul_assoc,← Nat.mul_assoc,Nat.mul_comm _ B9,Nat.mul_comm (x*B9 ^ i) B9,Nat.add_assoc,← Nat.mul_add,this,Nat.mul_add,Nat.add_assoc]
theorem lim_set {l:List Nat} (h:Lim l) {i x:Nat} (hx:x<B9):Lim (l.set i x):=fun a ha=>by
 rcases List.mem_or_eq_of_mem_set ha with h1|h1
 ·exact h a h1
 ·exact h1▸hx
theorem lim_get {l:List Nat} (h:Lim l) (i:Nat):l[i]?.getD 0<B9:=by
 cases hi:l[i]? with
 |none=>decide
 |some a=>exact h a (List.mem_of_getElem? hi)
def D (k u:Nat):List UInt8:=(List.range k).map fun t=>dg u (k-1-t)
theorem D_length (k u:Nat):(D k u).length=k:=by simp [D]
theorem D_get (k u t:Nat) (h:t<k):(D k u)[t]?=some (dg u (k-1-t)):=by
 unfold D
 rw [List.getElem?_map,List.getElem?_range h]
 rfl
theorem decDigits_D (u:Nat):decDigits u=D (nDigits u) u:=decDigits_eq u
theorem dg_low {a m j:Nat} (hj:j<9):dg (a+B9*m) j=dg a j:=by
 unfold dg
 congr 2
 have hB:B9=10 ^ j*10 ^ (9-j):=by rw [← Nat.pow_add,show j+(9-j)=9 by omega]
 rw [hB,Nat.mul_assoc,Nat.add_mul_div_left _ _ (Nat.pow_pos (by decide))]
 rw [show 9-j=(8-j)+1 by omega,Nat.pow_succ,Nat.mul_comm (10 ^ (8-j)) 10,Nat.mul_assoc,Nat.add_mul_mod_self_left]
theorem dg_high {a m j:Nat} (ha:a<B9):dg (a+B9*m) (j+9)=dg m j:=by
 unfold dg
 congr 2
 rw [Nat.pow_add,Nat.mul_comm (10 ^ j),← Nat.div_div_eq_div_mul,show (10:Nat) ^ 9=B9 from rfl,Nat.add_mul_div_left _ _ (by decide),Nat.div_eq_of_lt ha,Nat.zero_add]
theorem D_split {a m p:Nat} (ha:a<B9):D (p+9) (a+B9*m)=D p m++D 9 a:=by
 apply List.ext_getElem?
 intro t
 by_cases h1:t<p
 ·rw [D_get _ _ _ (by omega),List.getElem?_append_left (by rw [D_length];exact h1),D_get _ _ _ h1]
  rw [show p+9-1-t=(p-1-t)+9 by omega,dg_high ha]
 ·rw [List.getElem?_append_right (by rw [D_length];omega),D_length]
  by_cases h2:t<p+9
  ·rw [D_get _ _ _ h2,D_get _ _ _ (by omega)]
   rw [show p+9-1-t=9-1-(t-p) by omega,dg_low (by omega)]
  ·rw [List.getElem?_eq_none (by rw [D_length];omega),List.getElem?_eq_none (by rw [D_length];omega)]
theorem pow_le_of_nDigits:∀ (u:Nat),u≠0→10 ^ (nDigits u-1)≤u:=by
 intro u
 induction u using Nat.strongRecOn with
 |ind u ih =>
  intro h0
  by_cases h:u<10
  ·rw [nDigits_small h];simp;omega
  ·rw [nDigits_big h]
   have:=ih (u / 10) (by omega) (by omega)
   have h1:=nDigits_pos (u / 10)
   rw [show nDigits (u / 10)+1-1=(nDigits (u / 10)-1)+1 by omega,Nat.pow_succ]
   omega
theorem nDigits_split {a m:Nat} (ha:a<B9) (hm:m≠0):nDigits (a+B9*m)=nDigits m+9:=by
 have h1:=pow_le_of_nDigits m hm
 have h2:=lt_pow_nDigits m
 have h3:=nDigits_pos m
 rw [show nDigits m+9=(nDigits m+8)+1 by omega]
 apply nDigits_unique
 ·rw [show nDigits m+8=9+(nDigits m-1) by omega,Nat.pow_add,show (10:Nat) ^ 9=B9 from rfl]
  have:=Nat.mul_le_mul_left B9 h1
  omega
 ·rw [show nDigits m+8+1=9+nDigits m by omega,Nat.pow_add,show (10:Nat) ^ 9=B9 from rfl]
  have:=Nat.mul_le_mul_left B9 h2
  rw [Nat.mul_succ] at this
  omega
theorem dec_split {a m:Nat} (ha:a<B9) (hm:m≠0):decDigits (a+B9*m)=decDigits m++D 9 a:=by
 rw [decDigits_D,decDigits_D,nDigits_split ha hm,D_split ha]
theorem dg_zero {u j:Nat} (h:u<10 ^ j):dg u j=48:=by
 unfold dg
 rw [Nat.div_eq_of_lt h];rfl
theorem pad (k u:Nat) (h:nDigits u≤k):List.replicate (k-nDigits u) 48++decDigits u=D k u:=by
 rw [decDigits_D]
 apply List.ext_getElem?
 intro t
 by_cases h1:t<k-nDigits u
 ·rw [List.getElem?_append_left (by simpa using h1),D_get _ _ _ (by omega),List.getElem?_replicate,if_pos h1]
  rw [dg_zero (Nat.lt_of_lt_of_le (lt_pow_nDigits u) (Nat.pow_le_pow_right (by decide) (by omega)))]
 ·rw [List.getElem?_append_right (by simp;omega),List.length_replicate]
  by_cases h2:t<k
  ·rw [D_get _ _ _ h2,D_get _ _ _ (by omega)]
   congr 2;omega
  ·rw [List.getElem?_eq_none (by rw [D_length];omega),List.getElem?_eq_none (by rw [D_length];omega)]
theorem nDigits_le9 {a:Nat} (h:a<B9):nDigits a≤9:=by
 rcases Nat.eq_zero_or_pos a with h0|h0
 ·rw [h0,nDigits_small (by decide)];decide
 ·have:=pow_le_of_nDigits a (by omega)
  rcases Nat.lt_or_ge 9 (nDigits a) with h1|h1
  ·have:10 ^ 9≤10 ^ (nDigits a-1):=Nat.pow_le_pow_right (by decide) (by omega)
   simp only [B9] at h;omega
  ·exact h1
def textL:List Nat→List UInt8
 |[]=>decDigits 0
 |[a]=>decDigits a
 |a::t=>textL t++D 9 a
theorem textL_cons {a:Nat} {t:List Nat} (h:t≠[]):textL (a::t)=textL t++D 9 a:=by
 cases t with
 |nil=>exact absurd rfl h
 |cons b t=>rfl
theorem textL_toL (n:Nat):textL (toL n)=decDigits n:=by
 induction n using Nat.strongRecOn with
 |ind n ih =>
  by_cases h:n=0
  ·rw [h,toL_zero];rfl
  ·rw [toL_pos h]
   by_cases h1:n / B9=0
   ·rw [h1,toL_zero]
    show decDigits (n % B9)=_
    congr 1
    have:=Nat.mod_add_div n B9
    rw [h1] at this;omega
   ·rw [textL_cons (by rw [Ne,toL_nil];exact h1),ih _ (Nat.div_lt_self (by omega) (by decide)),← dec_split (Nat.mod_lt _ (by decide)) h1,Nat.mod_add_div]
def parse (l:List UInt8):Nat:=l.foldl (fun v c=>10*v+(c.toNat-48)) 0
theorem parse_snoc (l:List UInt8) (c:UInt8):parse (l++[c])=10*parse l+(c.toNat-48):=by simp [parse]
theorem dg_toNat (u j:Nat):(dg u j).toNat=48+u / 10 ^ j % 10:=by
 unfold dg
 have:u / 10 ^ j % 10<10:=Nat.mod_lt _ (by decide)
 simp
 omega
theorem D_succ (k u:Nat):D (k+1) u=D k (u / 10)++[dg u 0]:=by
 apply List.ext_getElem?
 intro t
 by_cases h1:t<k
 ·rw [D_get _ _ _ (by omega),List.getElem?_append_left (by rw [D_length];exact h1),D_get _ _ _ h1]
  rw [show k+1-1-t=(k-1-t)+1 by omega,dg_succ]
 ·rw [List.getElem?_append_right (by rw [D_length];omega),D_length]
  by_cases h2:t<k+1
  ·have:t=k:=by omega
   subst this
   rw [D_get _ _ _ (by omega),Nat.sub_self,show t+1-1-t=0 by omega];rfl
  ·rw [List.getElem?_eq_none (by rw [D_length];omega),List.getElem?_eq_none (by simp;omega)]
theorem parse_D:∀ (k u:Nat),parse (D k u)=u % 10 ^ k
 |0,u=>by simp [D,parse,Nat.mod_one]
 |k+1,u=>by
  rw [D_succ,parse_snoc,parse_D k,dg_toNat,Nat.pow_zero,Nat.div_one,Nat.add_sub_cancel_left,Nat.pow_succ,Nat.mul_comm (10 ^ k) 10,Nat.mod_mul,Nat.add_comm]
theorem D_take_drop (L u e c:Nat) (he:e≤L) (hc:c≤e):((D L u).take e).drop (e-c)=D c (u / 10 ^ (L-e)):=by
 apply List.ext_getElem?
 intro t
 rw [List.getElem?_drop]
 by_cases h:t<c
 ·rw [List.getElem?_take_of_lt (by omega),D_get _ _ _ (by omega),D_get _ _ _ h]
  unfold dg
  rw [Nat.div_div_eq_div_mul,← Nat.pow_add]
  rw [show L-e+(c-1-t)=L-1-(e-c+t) by omega]
 ·rw [List.getElem?_eq_none (by simp [D_length];omega),List.getElem?_eq_none (by rw [D_length];omega)]
end Go.Num
namespace Go.Num
open Go.Lib Go.Vm
theorem gi_lim {l:List Nat} (h:Lim l) (i:Nat):gi l i<1000000000:=lim_get h i
theorem val_take_succ (l:List Nat) (k:Nat) (h:k<l.length):val (l.take (k+1))=val (l.take k)+gi l k*B9 ^ k:=by
 have:l.take (k+1)=l.take k++[gi l k]:=by
  rw [List.take_succ_eq_append_getElem h];simp [gi,List.getElem?_eq_getElem h]
 rw [this,val_append,List.length_take,Nat.min_eq_left (by omega),val,val,Nat.mul_zero,Nat.add_zero,Nat.mul_comm]
theorem mul_step {out:List Nat} {i k a b carry V W:Nat} (hik:i+k<out.length) (h:val out+carry*B9 ^ (i+k)=V+a*B9 ^ i*W) :
 val (out.set (i+k) ((gi out (i+k)+a*b+carry) % B9))+(gi out (i+k)+a*b+carry) / B9*B9 ^ (i+(k+1))=V+a*B9 ^ i*(W+b*B9 ^ k):=by
 generalize hx:gi out (i+k)+a*b+carry=x
 have h1:=val_set out (i+k) (x % B9) hik
 have h2:x % B9+B9*(x / B9)=x:=Nat.mod_add_div x B9
 have h3:out[i+k]?.getD 0=gi out (i+k):=rfl
 rw [h3] at h1
 have e1:x / B9*B9 ^ (i+(k+1))=B9*(x / B9)*B9 ^ (i+k):=by
  rw [← Nat.add_assoc,Nat.pow_succ,Nat.mul_comm (B9 ^ (i+k)) B9,← Nat.mul_assoc,Nat.mul_comm (x / B9) B9]
 have e2:a*B9 ^ i*(W+b*B9 ^ k)=a*B9 ^ i*W+a*b*B9 ^ (i+k):=by
  rw [Nat.mul_add,Nat.pow_add]
  congr 1
  rw [Nat.mul_assoc,Nat.mul_assoc,← Nat.mul_assoc (B9 ^ i),Nat.mul_comm (B9 ^ i) b,Nat.mul_assoc]
 have e3:x*B9 ^ (i+k)=gi out (i+k)*B9 ^ (i+k)+a*b*B9 ^ (i+k)+carry*B9 ^ (i+k):=by
  rw [← hx,Nat.add_mul,Nat.add_mul]
 have e4:x % B9*B9 ^ (i+k)+B9*(x / B9)*B9 ^ (i+k)=x*B9 ^ (i+k):=by rw [← Nat.add_mul,h2]
 rw [e1,e2]
 omega
theorem mul_end {out:List Nat} {i n a carry V W:Nat} (hin:i+n<out.length) (h0:gi out (i+n)=0) (h:val out+carry*B9 ^ (i+n)=V+a*B9 ^ i*W) :
 val (out.set (i+n) (gi out (i+n)+carry))=V+a*B9 ^ i*W:=by
 have h1:=val_set out (i+n) (gi out (i+n)+carry) hin
 have h3:out[i+n]?.getD 0=gi out (i+n):=rfl
 rw [h3,h0,Nat.zero_mul,Nat.zero_add] at h1
 rw [h0,Nat.zero_add]
 omega
theorem gi_set (l:List Nat) (i j x:Nat) (hi:i<l.length):gi (l.set i x) j=if i=j then x else gi l j:=by
 simp only [gi,List.getElem?_set]
 split
 ·rename_i h;subst h;simp [hi]
 ·rfl
theorem gi_replicate (n j:Nat):gi (List.replicate n (0:Nat)) j=0:=by
 simp only [gi,List.getElem?_replicate]
 split<;>rfl
theorem lim_replicate (n:Nat):Lim (List.replicate n 0):=fun a ha=>by
 rw [List.eq_of_mem_replicate ha];decide
theorem parse_snoc' (l:List UInt8) (k:Nat) (h:k<l.length):parse (l.take (k+1))=10*parse (l.take k)+((gi l k).toNat-48):=by
 have:l.take (k+1)=l.take k++[gi l k]:=by
  rw [List.take_succ_eq_append_getElem h];simp [gi,List.getElem?_eq_getElem h]
 rw [this,parse_snoc]
theorem parse_lt:∀ (l:List UInt8),(∀ c∈l,48≤c.toNat∧c.toNat≤57)→parse l<10 ^ l.length:=by
 intro l h
 have key:∀ k,k≤l.length→parse (l.take k)<10 ^ k:=by
  intro k
  induction k with
  |zero=>intro _;simp [parse]
  |succ k ih =>
   intro hk
   have hm:gi l k∈l:=by simp only [gi,List.getElem?_eq_getElem (show k<l.length by omega),Option.getD_some];exact List.getElem_mem _
   have:=h _ hm
   have:=ih (by omega)
   rw [parse_snoc' l k (by omega),Nat.pow_succ]
   omega
 have:=key l.length (Nat.le_refl _)
 rwa [List.take_length] at this
theorem D_digit (k u:Nat):∀ c∈D k u,48≤c.toNat∧c.toNat≤57:=fun c hc=>by
 unfold D at hc
 obtain ⟨t,_,rfl⟩:=List.mem_map.1 hc
 rw [dg_toNat]
 have:=Nat.mod_lt (u / 10 ^ (k-1-t)) (show 0<10 by decide)
 omega
theorem decDigits_digit (u:Nat):∀ c∈decDigits u,48≤c.toNat∧c.toNat≤57:=by rw [decDigits_D];exact D_digit _ _
def limbAt (n j:Nat):Nat:=n / B9 ^ j % B9
def limbs (n:Nat):Nat→List Nat
 |0=>[]
 |k+1=>limbs n k++[limbAt n k]
theorem limbs_len (n:Nat):∀ k,(limbs n k).length=k
 |0=>rfl
 |k+1=>by simp [limbs,limbs_len n k]
theorem limbs_lim (n:Nat):∀ k,Lim (limbs n k)
 |0=>fun a h=>by cases h
 |k+1=>fun a h=>by
  rcases List.mem_append.1 h with h|h
  ·exact limbs_lim n k a h
  ·rw [List.mem_singleton.1 h];exact Nat.mod_lt _ (by decide)
theorem val_limbs (n:Nat):∀ k,val (limbs n k)=n % B9 ^ k
 |0=>by simp [limbs,val,Nat.mod_one]
 |k+1=>by
  rw [limbs,val_append,limbs_len,val_limbs n k,val,val,Nat.mul_zero,Nat.add_zero,limbAt,Nat.pow_succ,Nat.mod_mul]
theorem limbs_trim {n k:Nat} (h:n<B9 ^ k):trimL (limbs n k)=toL n:=by
 rw [trim_toL (limbs_lim n k),val_limbs,Nat.mod_eq_of_lt h]
theorem toL_len_le (n:Nat):∀ k,n<B9 ^ k→(toL n).length≤k:=by
 induction n using Nat.strongRecOn with
 |ind n ih =>
  intro k hk
  by_cases h:n=0
  ·rw [h,toL_zero];exact Nat.zero_le _
  ·rw [toL_pos h]
   cases k with
   |zero=>simp at hk;omega
   |succ k =>
    have:=ih (n / B9) (Nat.div_lt_self (by omega) (by decide)) k (by rw [Nat.pow_succ] at hk;exact Nat.div_lt_of_lt_mul (by rw [Nat.mul_comm];exact hk))
    simp;omega
theorem cmp_D:∀ (k a b:Nat),a<10 ^ k→b<10 ^ k→compareBytes (D k a) (D k b)=if a<b then -1 else if b<a then 1 else 0
 |0,a,b,ha,hb=>by
  simp at ha hb;subst ha;subst hb;rfl
 |k+1,a,b,ha,hb=>by
  have hD:∀ u,D (k+1) u=dg u k::D k (u % 10 ^ k):=fun u=>by
   apply List.ext_getElem?
   intro t
   cases t with
   |zero=>rw [D_get _ _ _ (by omega)];rfl
   |succ t =>
    rw [List.getElem?_cons_succ]
    by_cases ht:t<k
    ·rw [D_get _ _ _ (by omega),D_get _ _ _ ht]
     congr 1
     rw [show k+1-1-(t+1)=k-1-t by omega]
     unfold dg
     congr 2
     have hk:(10:Nat) ^ k=10 ^ (k-1-t)*(10*10 ^ t):=by rw [← Nat.pow_succ',← Nat.pow_add];congr 1;omega
     rw [hk,Nat.mod_mul_right_div_self,Nat.mod_mul_right_mod]
    ·rw [List.getElem?_eq_none (by rw [D_length];omega),List.getElem?_eq_none (by rw [D_length];omega)]
  have hp:0<10 ^ k:=Nat.pow_pos (by decide)
  have ih:=cmp_D k (a % 10 ^ k) (b % 10 ^ k) (Nat.mod_lt _ hp) (Nat.mod_lt _ hp)
  rw [Nat.pow_succ] at ha hb
  have ea:=Nat.mod_add_div a (10 ^ k)
  have eb:=Nat.mod_add_div b (10 ^ k)
  have ha9:a / 10 ^ k<10:=Nat.div_lt_of_lt_mul ha
  have hb9:b / 10 ^ k<10:=Nat.div_lt_of_lt_mul hb
  have da:(dg a k).toNat=48+a / 10 ^ k:=by rw [dg_toNat,Nat.mod_eq_of_lt ha9]
  have db:(dg b k).toNat=48+b / 10 ^ k:=by rw [dg_toNat,Nat.mod_eq_of_lt hb9]
  have la:a % 10 ^ k<10 ^ k:=Nat.mod_lt _ hp
  have lb:b % 10 ^ k<10 ^ k:=Nat.mod_lt _ hp
  rw [hD a,hD b]
  simp only [compareBytes,UInt8.lt_iff_toNat_lt,da,db]
  rcases Nat.lt_trichotomy (a / 10 ^ k) (b / 10 ^ k) with h|h|h
  ·rw [if_pos (by omega)]
   have:=Nat.mul_le_mul_left (10 ^ k) (show a / 10 ^ k+1≤b / 10 ^ k from h)
   rw [Nat.mul_succ] at this
   rw [if_pos (by omega)]
  ·rw [if_neg (by omega),if_neg (by omega),ih]
   rw [h] at ea
   have e1:(a % 10 ^ k<b % 10 ^ k)=(a<b):=propext (by omega)
   have e2:(b % 10 ^ k<a % 10 ^ k)=(b<a):=propext (by omega)
   simp only [e1,e2]
  ·have:=Nat.mul_le_mul_left (10 ^ k) (show b / 10 ^ k+1≤a / 10 ^ k from h)
   rw [Nat.mul_succ] at this
   rw [if_neg (by omega),if_pos (by omega),if_neg (by omega),if_pos (by omega)]
theorem nDigits_mono {a b:Nat} (h:nDigits a<nDigits b):a<b:=by
 have h1:=lt_pow_nDigits a
 have hb0:b≠0:=fun e=>by
  have e0:nDigits 0=1:=nDigits_small (by decide)
  rw [e,e0] at h;have:=nDigits_pos a;omega
 have h2:=pow_le_of_nDigits b hb0
 have:10 ^ nDigits a≤10 ^ (nDigits b-1):=Nat.pow_le_pow_right (by decide) (by omega)
 omega
theorem pow_bit (a n k:Nat):(a ^ (n / 2 ^ (k+1)))*(a ^ (n / 2 ^ (k+1)))*(if n / 2 ^ k % 2=1 then a else 1)=a ^ (n / 2 ^ k):=by
 have h:n / 2 ^ (k+1)=n / 2 ^ k / 2:=by rw [Nat.pow_succ,Nat.div_div_eq_div_mul]
 rw [h,← Nat.pow_add]
 generalize n / 2 ^ k=m
 split
 ·rw [← Nat.pow_succ];congr 1;omega
 ·rw [Nat.mul_one];congr 1;omega
end Go.Num
namespace Go.Proofs.YtnhdddmhkhdlhaaGreatDoor
open Go Go.Proofs Go.Shelf Go.RowKit Go.Sort Go.Lib
theorem formatUint_in (u:Nat) (hu64:u<18446744073709551616) (w:World) (htab:Lib.TabIs Tryz.prog w "internal/strconv.uint64pow10" .u64 Lib.pow10Tab) :
 Calls Tryz.prog 158 #[.int .u64 u,.int .i64 10] w fun e w'=>e=.returned (.string ⟨(Lib.decDigits u).toArray⟩)∧Below w.heap.size w w':=by
 by_cases hs:u<100
 ·have hw:IntKind.i64.wrap (u:Int)=(u:Int):=by rw [IntKind.wrap_i64];omega
  go_enter Tryz.func158,Tryz.ntmps158
  go_wp2_with (go_at_call 165;refine (Tryz.internal_strconv_small u hs _).mono ?_;rintro e w' ⟨rfl,rfl⟩)
  go_ret
  exact ⟨rfl,Below.refl _ _⟩
 ·have hu1:1≤u:=by omega
  have hnd20:Lib.nDigits u≤20:=by have:=Lib.numDigits_eq u hu1 hu64;split at this<;>omega
  have hal:Tryz.prog.arrayLen 276=24:=by kernel_rfl
  have hsl:∀ W,(Instr.sliceAt 276 (.pointer (some ⟨w.heap.size,0,none⟩)) none (some (.int .i64 (Lib.nDigits u:Int))) none).run Tryz.prog W=.ok (.slice (some ⟨w.heap.size,0,none⟩) (Lib.nDigits u) 24) W:=fun W=>by
   rw [run_sliceAt_array_h W 276 ⟨w.heap.size,0,none⟩ (by simp [Program.arrayLen,Program.elem,Tryz.underlying276]) .i64 (Lib.nDigits u:Int) (by omega) (by rw [hal];omega)]
   go_simp
  have hH0:=Lib.holds_zero0 w 276 (Lib.nDigits u) (by omega)
  have hfmt:=Tryz.internal_strconv_formatBase10 w.heap.size 0 24 u (Array.replicate (Lib.nDigits u) 0) (w.alloc (.cells Lib.zeros24 276)) hH0 (by rw [Array.size_replicate];exact Lib.lt_pow_nDigits u) hu64 (by rw [Array.size_replicate];omega)
  rw [Array.size_replicate] at hfmt
  have HH0:=Lib.hid hH0
  clear hH0 hal
  go_enter Tryz.func158,Tryz.ntmps158
  go_wp2_with (go_at_call 166;refine (Tryz.internal_strconv_numDigits u hu1 hu64 _ (Lib.tabIs_alloc htab _)).mono ?_;rintro e w' ⟨rfl,rfl⟩)
  go_at_call 167
  refine hfmt.mono ?_
  rintro e w' ⟨rfl,k,v',dk,rfl,hF⟩
  have hcv:(convert 27 9 (.slice (some ⟨w.heap.size,0,none⟩) (Lib.nDigits u) 24)).run Tryz.prog ((putRow (fun (b:UInt8)=>Value.int .u8 (b.toNat:Int)) (w.alloc (.cells Lib.zeros24 276)) w.heap.size 0 dk).drewN k)=.ok (.string ⟨(Lib.decDigits u).toArray⟩) ((putRow (fun (b:UInt8)=>Value.int .u8 (b.toNat:Int)) (w.alloc (.cells Lib.zeros24 276)) w.heap.size 0 dk).drewN k):=by
   have h:=run_convert_bytes_back (P:=Tryz.prog) ((putRow (fun (b:UInt8)=>Value.int .u8 (b.toNat:Int)) (w.alloc (.cells Lib.zeros24 276)) w.heap.size 0 dk).drewN k) 27 9 5 ⟨w.heap.size,0,none⟩ 24 (Lib.decDigits u) Tryz.underlying27 Tryz.underlying5 Tryz.underlying9 (fun j hj=>by
    rw [Lib.row_is_numeral hF j hj,Lib.add_plain,World.cell?_drewN]
    exact cell?_putRow (fun (b:UInt8)=>Value.int .u8 (b.toNat:Int)) _ w.heap.size 0 _ dk HH0.out (by rw [hF.size,Array.size_replicate]) j (by rw [hF.size];rw [Lib.decDigits_length] at hj;exact hj))
   rw [Lib.decDigits_length] at h
   exact h
  go_wp2
  go_ret
  obtain ⟨os,eo⟩:=Lib.fin_at w (.cells Lib.zeros24 276) dk k 0
  refine ⟨rfl,?_⟩
  rw [eo]
  exact Lib.below_grow _ w (Nat.le_refl _) _ _
theorem formatUint_out (u:Nat) (hu64:u<18446744073709551616) (w:World) (htab:Lib.TabIs Tryz.prog w "internal/strconv.uint64pow10" .u64 Lib.pow10Tab) :
 Calls Tryz.prog 148 #[.int .u64 u,.int .i64 10] w fun e w'=>e=.returned (.string ⟨(Lib.decDigits u).toArray⟩)∧Below w.heap.size w w':=by
 go_enter Tryz.func148,Tryz.ntmps148
 go_wp2_with (go_at_call 158;refine (formatUint_in u hu64 _ htab).mono ?_;rintro e w' ⟨rfl,hb⟩)
 go_ret
 exact ⟨rfl,hb⟩
theorem writeString_in (B b:Nat) (bs:List Value) (s:ByteArray) (w:World) (h:Lib.IsBuilderF 259 5 B b bs w) (hlen:bs.length+s.size≤140737488355328) (hBw:B≤w.heap.size) :
 Calls Tryz.prog 149 #[.pointer (some ⟨b,0,none⟩),.string s] w fun e w'=>e=.returned (.tuple #[.int .i64 s.size,.nilIface])∧(Lib.BuilderAtF 259 5 B b (.pointer (some ⟨b,0,none⟩)) (bs++Lib.strCells s) w'∧Below B w w'∧Lib.OthersKept 5 (some b) w w') :=
 Any.Builder_WriteString_k (P:=Tryz.prog) (ρ:=Tryz.lays105_ren) { Tryz.lays105 with } Tryz.Builder_Extra_105 B b bs s w h hlen hBw
end Go.Proofs.YtnhdddmhkhdlhaaGreatDoor
namespace Go.Proofs.YtnhdddmhkhdlhaaGreatDoor
open Go Go.Proofs Go.Shelf Go.RowKit
attribute [local go_sem] Oper.semAt_some
def uptoB {α:Type} (f:Nat→α) (k:Nat):List α:=(List.range k).map f
theorem uptoB_succ {α:Type} (f:Nat→α) (k:Nat):uptoB f (k+1)=uptoB f k++[f k]:=by simp [uptoB,List.range_succ]
theorem uptoB_length {α:Type} (f:Nat→α) (k:Nat):(uptoB f k).length=k:=by simp [uptoB]
abbrev PL:Type:={ x:Nat×Nat // x.2<Num.B9 }
def backF (zs:List Nat) (j:Nat):PL:=⟨(zs.length-1-j,zs.getD (zs.length-1-j) 0 % Num.B9),Nat.mod_lt _ (by decide)⟩
theorem wrapB {n:Int} (h:-9223372036854775808≤n) (h2:n<9223372036854775808):IntKind.i64.wrap n=n:=by rw [IntKind.wrap_i64];omega
def KeepB (n₀ Bs:Nat) (W W':World):Prop:=Below n₀ W W'∧W'.heap[Bs]?=W.heap[Bs]?
theorem KeepB.refl (n₀ Bs:Nat) (W:World):KeepB n₀ Bs W W:=⟨Below.refl _ _,rfl⟩
theorem KeepB.trans {n₀ Bs:Nat} {A B C:World} (h:KeepB n₀ Bs A B) (k:KeepB n₀ Bs B C):KeepB n₀ Bs A C:=⟨h.1.trans k.1,k.2.trans h.2⟩
theorem backward1_in (F:Fence) (n:Nat) (h8:F.fn 157) (hro:F.round=none) (hn:1≤n) (l Bs n₀ b off cap:Nat) (zs:List Nat) (hreach:zs.length*8≤140737488351232) (hlim:Num.Lim zs) (hb:b<n₀) (J Jx:List PL→World→Prop)
 (hY:∀ pre (x:PL) W,J pre W→pre.length<zs.length→YieldAt F (n-1) Tryz.prog l #[.int .i64 (x.1.1:Int),.int .u64 (x.1.2:Int)] W fun e W' =>
  (e=.returned (.bool true)∧J (pre++[x]) W'∧KeepB n₀ Bs W W')∨(e=.returned (.bool false)∧Jx (pre++[x]) W'))
 (W:World) (hBs:W.cell? ⟨Bs,0,none⟩=some (.slice (some ⟨b,off,none⟩) zs.length cap)) (hc:∀ j,j<zs.length→W.cell? ⟨b,off+j,none⟩=some (.int .u64 (zs.getD j 0:Int))) (h0:J [] W) :
 CallsIn F n Tryz.prog 157 #[.func (.yield l) #[] #[],.pointer (some ⟨Bs,0,none⟩)] W fun e W'=>(∃ v,e=.returned v) ∧
  ((∃ ys,ys=uptoB (backF zs) zs.length∧J ys W')∨(∃ pre,(∃ k,k≤zs.length∧pre=uptoB (backF zs) k)∧Jx pre W')):=by
 have hget:∀ j,zs.getD j 0 % Num.B9=zs.getD j 0:=fun j=>Nat.mod_eq_of_lt (by rw [List.getD_eq_getElem?_getD];exact Num.lim_get hlim j)
 obtain ⟨len,hlen⟩:∃ len,zs.length=len:=⟨_,rfl⟩
 rw [hlen] at hreach hY hBs hc ⊢
 have hw0:IntKind.i64.wrap ((len:Int)-1)=(len:Int)-1:=wrapB (by omega) (by omega)
 refine callsIn_of_wp Tryz.func157 rfl h8 ?_ hro
 simp only [Tryz.ntmps157,List.size_toArray,List.length_cons,List.length_nil,Nat.reduceAdd,Nat.reduceSub,Array.replicate_succ,Array.replicate_zero,List.push_toArray,List.append_toArray,List.nil_append,List.cons_append]
 gi_wp2
 gi_loopw [3] (fun i wr=>∃ k:Nat,k≤len∧i=.int .i64 ((len:Int)-1-k)∧J (uptoB (backF zs) k) wr∧KeepB n₀ Bs W wr)
  (fun i _=>(intOf i+1).toNat)
 case atStart=>exact ⟨0,Nat.zero_le _,by simp,h0,KeepB.refl _ _ _⟩
 case round =>
  obtain ⟨k,hk,rfl,hJs,hnx⟩:=hrel
  have hBx:wr.cell? ⟨Bs,0,none⟩=some (.slice (some ⟨b,off,none⟩) len cap):=(World.cell?_of_block (a:=⟨Bs,0,none⟩) hnx.2).trans hBs
  by_cases hlt:k<len
  ·have hge:(0:Int)≤(len:Int)-1-k:=by omega
   have hcx:wr.cell? ⟨b,off+(len-1-k),none⟩=some (.int .u64 ((backF zs k).1.2:Int)):=by
    have:=(hnx.1.cell (p:=⟨b,off+(len-1-k),none⟩) hb).trans (hc (len-1-k) (by omega))
    rw [this];unfold backF;simp only [hlen,hget]
   obtain ⟨fn,tmps,assign,body,hy,hR⟩:=hY _ (backF zs k) wr hJs (by rw [uptoB_length];exact hlt)
   have e1:((backF zs k).1.1:Int)=(len:Int)-1-k:=by show ((zs.length-1-k:Nat):Int)=_;omega
   rw [e1] at hy
   have hi1:((len:Int)-1-k)<len:=by omega
   have hi2:((len:Int)-1-k).toNat=len-1-k:=by omega
   have hw1:IntKind.i64.wrap ((len:Int)-1-k-1)=(len:Int)-1-((k+1:Nat):Int):=by rw [wrapB (by omega) (by omega)];omega
   gi_wp2
   refine hR.mono ?_
   rintro e W3 (⟨rfl,hJ3,hk3⟩|⟨rfl,hJx3⟩)
   ·gi_wp2
    go_roundw
    case rel=>exact ⟨k+1,by omega,by first|rfl|simp [hw1]|(congr 1),by rw [uptoB_succ];exact hJ3,hnx.trans hk3⟩
    case measure=>simp [intOf];omega
   ·gi_wp2
    refine bodyPost_ret (results_none rfl _ _ _) rfl ?_
    exact ⟨⟨_,rfl⟩,.inr ⟨_,⟨k+1,by omega,(uptoB_succ _ _).symm⟩,hJx3⟩⟩
  ·obtain rfl:k=len:=by omega
   have hneg:¬ ((0:Int)≤(k:Int)-1-k):=by omega
   gi_wp2
   go_end0
   exact ⟨⟨_,rfl⟩,by first|exact .inl hJs|exact .inl ⟨_,rfl,hJs⟩⟩
theorem backward_in (F:Fence) (n:Nat) (h6:F.fn 147) (hro:F.round=none) (a:Option Addr) (len cap:Nat) (w:World) :
 CallsIn F n Tryz.prog 147 #[.slice a len cap] w fun e w'=>e=.returned (.func (.func 157) #[] #[.pointer (some ⟨w.heap.size,0,none⟩)])∧w'=w.alloc (.cells #[.slice a len cap] 244):=by
 refine callsIn_of_wp Tryz.func147 rfl h6 ?_ hro
 simp only [Tryz.ntmps147,List.size_toArray,List.length_cons,List.length_nil,Nat.reduceAdd,Nat.reduceSub,Array.replicate_succ,Array.replicate_zero,List.push_toArray,List.append_toArray,List.nil_append,List.cons_append]
 gi_wp2
 go_ret
 exact ⟨rfl,rfl⟩
theorem back_stops (F:Fence) (n:Nat) (h8:F.fn 157) (hro:F.round=none) (hn:1≤n) (Bs n₀ b off cap:Nat) (zs:List Nat) (hreach:zs.length*8≤140737488351232) (hlim:Num.Lim zs) (hb:b<n₀) (w:World) (hBs:Bs<w.heap.size) (hn₀:n₀≤w.heap.size)
 (hcB:w.cell? ⟨Bs,0,none⟩=some (.slice (some ⟨b,off,none⟩) zs.length cap)) (hc:∀ j,j<zs.length→w.cell? ⟨b,off+j,none⟩=some (.int .u64 (zs.getD j 0:Int))) :
 SeqStopsK F n Tryz.prog 157 #[.pointer (some ⟨Bs,0,none⟩)] (fun x:PL=>#[Value.int .i64 (x.1.1:Int),Value.int .u64 (x.1.2:Int)]) (KeepB n₀ Bs) (fun ys=>ys=uptoB (backF zs) zs.length)
  (fun pre=>∃ k,k≤zs.length∧pre=uptoB (backF zs) k) zs.length w:=fun l J Jx W hW _ _ hY h0 =>
 backward1_in F n h8 hro hn l Bs n₀ b off cap zs hreach hlim hb J Jx hY W ((hW.cell (p:=⟨Bs,0,none⟩) hBs).trans hcB) (fun j hj=>(hW.cell (p:=⟨b,off+j,none⟩) (by show b<w.heap.size;omega)).trans (hc j hj)) h0
end Go.Proofs.YtnhdddmhkhdlhaaGreatDoor
namespace Go.Proofs.YtnhdddmhkhdlhaaGreatDoor
open Go Go.Proofs Go.Shelf Go.RowKit
attribute [local go_sem] Oper.semAt_some
def pieceB (len:Nat) (x:PL):List UInt8:=if (x.1.1:Int)<(len:Int)-1 then Lib.repeatL [48] (9-Lib.nDigits x.1.2)++Lib.decDigits x.1.2 else Lib.decDigits x.1.2
def accB (len:Nat) (pre:List PL):List UInt8:=pre.flatMap (pieceB len)
theorem accB_snoc (len:Nat) (pre:List PL) (x:PL):accB len (pre++[x])=accB len pre++pieceB len x:=by simp [accB]
theorem repeatL_len (n:Nat):(Lib.repeatL [48] n).length=n:=by
 induction n with
 |zero=>simp [Lib.repeatL]
 |succ n ih=>simp_all [Lib.repeatL]
theorem pieceB_len (len:Nat) (x:PL):(pieceB len x).length≤9:=by
 have:=Num.nDigits_le9 x.2
 unfold pieceB
 split
 ·rw [List.length_append,repeatL_len,Lib.decDigits_length];omega
 ·rw [Lib.decDigits_length];omega
theorem accB_len (len:Nat) (pre:List PL):(accB len pre).length≤9*pre.length:=by
 induction pre with
 |nil=>simp [accB]
 |cons x pre ih =>
  have:=pieceB_len len x
  simp only [accB,List.flatMap_cons,List.length_append,List.length_cons] at ih ⊢
  omega
def holdsT (N:Nat) (sv:Value) (bs:List UInt8) (W:World):Prop :=
 Lib.IsBuilderF 259 5 (N+1) (N+1) (Lib.byteCells bs) W∧W.heap[N]?=some (.cells #[sv] 244 (0,0))∧W.heap[N+2]?=some (.cells #[sv] 244 (0,0))
theorem builderAtF_of_keep {T e:TypeId} {B b:Nat} {p:Value} {bs:List Value} {w w':World} (h:Lib.BuilderAtF T e B b p bs w) (hk:∀ (k:Nat) (o:Obj),w.heap[k]?=some o→o.isCells=true→w'.heap[k]?=some o):Lib.BuilderAtF T e B b p bs w':=by
 obtain ⟨hB,v,hb,hown,hne⟩:=h
 refine ⟨hB,v,hk _ _ hb rfl,⟨hown.1,?_⟩,hne⟩
 rcases hown.2 with h0|⟨g,cap,cur,fz,hv,hbg,hg,r⟩
 ·exact .inl h0
 ·exact .inr ⟨g,cap,cur,fz,hv,hbg,hk _ _ hg rfl,r⟩
theorem isBuilderF_of_keep {T e:TypeId} {B b:Nat} {bs:List Value} {w w':World} (h:Lib.IsBuilderF T e B b bs w) (hk:∀ (k:Nat) (o:Obj),w.heap[k]?=some o→o.isCells=true→w'.heap[k]?=some o):Lib.IsBuilderF T e B b bs w' :=
 h.elim (fun x=>.inl (builderAtF_of_keep x hk)) (fun x=>.inr (builderAtF_of_keep x hk))
theorem holdsT_own {β:Type} (N:Nat) (sv:Value) (f:β→List UInt8):Own (fun (pre:β) W=>holdsT N sv (f pre) W):=fun s W W' row hs hg hr=>by
 have hk:∀ (k:Nat) (o:Obj),W.heap[k]?=some o→o.isCells=true→W'.heap[k]?=some o:=fun k o ho hc=>(grownBy_keeps_cells hg hr ho hc).trans ho
 exact ⟨isBuilderF_of_keep hs.1 hk,hk _ _ hs.2.1 rfl,hk _ _ hs.2.2 rfl⟩
theorem keeps_below {W W':World} (h:Below W.heap.size W W') (B:Nat):KeepsFrom B W W':=⟨h.size,fun k o _ hk _=>(h.block k (by
 rcases Nat.lt_or_ge k W.heap.size with h1|h1
 ·exact h1
 ·rw [Array.getElem?_eq_none h1] at hk;cases hk)).trans hk⟩
theorem lt_of_heap {W:World} {k:Nat} {o:Obj} (h:W.heap[k]?=some o):k<W.heap.size:=by
 rcases Nat.lt_or_ge k W.heap.size with h1|h1
 ·exact h1
 ·rw [Array.getElem?_eq_none h1] at h;cases h
theorem holdsT_below {N:Nat} {sv:Value} {bs:List UInt8} {W W':World} (h:holdsT N sv bs W) (hb:Below W.heap.size W W'):holdsT N sv bs W':=by
 have hk:∀ (k:Nat) (o:Obj),W.heap[k]?=some o→o.isCells=true→W'.heap[k]?=some o:=fun k o ho _=>(hb.block k (lt_of_heap ho)).trans ho
 exact ⟨isBuilderF_of_keep h.1 hk,hk _ _ h.2.1 rfl,hk _ _ h.2.2 rfl⟩
theorem keepB_below {n₀ Bs:Nat} {W W':World} (h:Below W.heap.size W W') (hn:n₀≤W.heap.size) (hB:Bs<W.heap.size):KeepB n₀ Bs W W':=⟨h.mono hn,h.block Bs hB⟩
theorem holdsT_write {N:Nat} {sv:Value} {bs:List UInt8} {s:ByteArray} {W W':World} (h:holdsT N sv bs W) (h1:Lib.BuilderAtF 259 5 (N+1) (N+1) (.pointer (some ⟨N+1,0,none⟩)) (Lib.byteCells bs++Lib.strCells s) W') (h2:Below (N+1) W W') (h3:Lib.OthersKept 5 (some (N+1)) W W') :
 holdsT N sv (bs++s.data.toList) W'∧KeepsFrom (N+3) W W'∧KeepB N (N+2) W W':=by
 have hb:∃ c t f,W.heap[N+1]?=some (.cells c t f):=by
  rcases h.1 with ⟨_,v,hb,_⟩|⟨_,v,hb,_⟩<;>exact ⟨_,_,_,hb⟩
 have k2:W'.heap[N+2]?=some (.cells #[sv] 244 (0,0)):=h3 _ _ h.2.2 (by simp) (fun c fz e=>by
  have:=(Obj.cells.inj e).2.1
  exact absurd this (by decide))
 refine ⟨⟨.inr ?_,?_,k2⟩,⟨h2.size,fun k o _ hk ho=>h3 k o hk (fun e=>?_) (fun c fz e=>by rw [e] at ho;cases ho)⟩,⟨h2.mono (by omega),by rw [k2,h.2.2]⟩⟩
 ·have e:Lib.byteCells bs++Lib.strCells s=Lib.byteCells (bs++s.data.toList):=by simp [Lib.byteCells,Lib.strCells]
  rw [← e];exact h1
 ·rw [h2.block N (by omega)];exact h.2.1
 ·cases e
  obtain ⟨c,t,f,hc⟩:=hb
  rw [hc] at hk;cases hk;cases ho
theorem tab_below {P:Program} {w w':World} {name:String} {k:IntKind} {zs:List Int} (h:Lib.TabIs P w name k zs) (hb:Below w.heap.size w w'):Lib.TabIs P w' name k zs:=(Lib.tabBelow_of_tabIs h) w' hb
theorem repeatL_eq (n:Nat):Lib.repeatL [48] n=List.replicate n 48:=by
 induction n with
 |zero=>rfl
 |succ n ih=>simp [Lib.repeatL,ih,List.replicate_succ]
theorem piece_eq (zs:List Nat) (hl:Num.Lim zs) (j:Nat) (hj:j<zs.length):pieceB zs.length (backF zs j)=if 0<j then Num.D 9 (zs.getD (zs.length-1-j) 0) else Lib.decDigits (zs.getD (zs.length-1-j) 0):=by
 have hb:zs.getD (zs.length-1-j) 0<Num.B9:=by rw [List.getD_eq_getElem?_getD];exact Num.lim_get hl _
 have e2:(backF zs j).1.2=zs.getD (zs.length-1-j) 0:=Nat.mod_eq_of_lt hb
 have e1:(backF zs j).1.1=zs.length-1-j:=rfl
 unfold pieceB
 rw [e1,e2]
 by_cases h:0<j
 ·rw [if_pos (by omega),if_pos h,repeatL_eq,Num.pad 9 _ (Num.nDigits_le9 hb)]
 ·rw [if_neg (by omega),if_neg h]
theorem accB_all:∀ (zs:List Nat),Num.Lim zs→zs≠[]→accB zs.length (uptoB (backF zs) zs.length)=Num.textL zs
 |[],_,h=>absurd rfl h
 |a::t,hl,_=>by
  have hlt:Num.Lim t:=fun x hx=>hl x (by simp [hx])
  have hrec:∀ k,k≤t.length→accB (a::t).length (uptoB (backF (a::t)) k)=accB t.length (uptoB (backF t) k):=by
   intro k
   induction k with
   |zero=>intro _;rfl
   |succ k ih =>
    intro hk
    rw [uptoB_succ,uptoB_succ,accB_snoc,accB_snoc,ih (by omega),piece_eq _ hl k (by simp;omega),piece_eq t hlt k (by omega)]
    have:(a::t).length-1-k=(t.length-1-k)+1:=by simp;omega
    rw [this]
    simp only [List.getD_cons_succ]
  show accB (a::t).length (uptoB (backF (a::t)) (t.length+1))=_
  rw [uptoB_succ,accB_snoc,hrec t.length (Nat.le_refl _),piece_eq _ hl t.length (by simp)]
  have e0:(a::t).length-1-t.length=0:=by simp
  rw [e0,List.getD_cons_zero]
  cases t with
  |nil=>rfl
  |cons b t =>
   rw [accB_all (b::t) hlt (by simp),if_pos (by simp)]
   exact (Num.textL_cons (by simp)).symm
theorem text_in (b off cap:Nat) (zs:List Nat) (hlim:Num.Lim zs) (h0:zs≠[]) (hreach:zs.length*9≤140737488351232) (w:World) (hb:b<w.heap.size) (hc:∀ j,j<zs.length→w.cell? ⟨b,off+j,none⟩=some (.int .u64 (zs.getD j 0:Int)))
 (htab:Lib.TabIs Tryz.prog w "internal/strconv.uint64pow10" .u64 Lib.pow10Tab) :
 Calls Tryz.prog 138 #[.slice (some ⟨b,off,none⟩) zs.length cap] w fun e w'=>e=.returned (.string ⟨(Num.textL zs).toArray⟩)∧Below w.heap.size w w':=by
 have hpos:0<zs.length:=List.length_pos_iff.2 h0
 have hne0:¬ ((zs.length:Int)=0):=by omega
 have hall:=accB_all zs hlim h0
 obtain ⟨len,hlen⟩:∃ len,zs.length=len:=⟨_,rfl⟩
 rw [hlen] at hne0 hall
 refine (callsIn_wide (n:=6)).1 ?_
 refine callsIn_of_wp_marks Tryz.func138 rfl trivial ?_ rfl
 simp only [Tryz.ntmps138,List.size_toArray,List.length_cons,List.length_nil,Nat.reduceAdd,Nat.reduceSub,Array.replicate_succ,Array.replicate_zero,List.push_toArray,List.append_toArray,List.nil_append,List.cons_append]
 rw [hlen]
 gi_wp2_with (refine ⟨trivial,?_⟩;gi_at_call 147;refine (backward_in Fence.wide _ trivial rfl _ _ _ _).mono ?_;rintro e w' ⟨rfl,rfl⟩)
 obtain ⟨W0,hW0⟩:∃ W0,((w.alloc (.cells #[.slice (some ⟨b,off,none⟩) len cap] 244)).alloc (.cells #[.pointer none,.slice none 0 0] 259)).alloc (.cells #[.slice (some ⟨b,off,none⟩) len cap] 244)=W0:=⟨_,rfl⟩
 have hB0:Below w.heap.size w W0:=by
  rw [← hW0]
  exact (((Below.refl _ w).alloc (Nat.le_refl _) _).alloc (by simp) _).alloc (by simp;omega) _
 have hs0:W0.heap.size=w.heap.size+3:=by rw [← hW0];simp
 have g0:W0.heap[w.heap.size]?=some (.cells #[.slice (some ⟨b,off,none⟩) len cap] 244 (0,0)):=by
  rw [← hW0];exact (Below.heap_alloc _ _ _ (by simp;omega)).trans ((Below.heap_alloc _ _ _ (by simp)).trans (World.alloc_heap_new w _))
 have g1:W0.heap[w.heap.size+1]?=some (.cells #[.pointer none,.slice none 0 0] 259 (0,0)):=by
  rw [← hW0];exact (Below.heap_alloc _ _ _ (by simp)).trans (by have:=World.alloc_heap_new (w.alloc (.cells #[.slice (some ⟨b,off,none⟩) len cap] 244)) (.cells #[.pointer none,.slice none 0 0] 259);rwa [World.size_alloc] at this)
 have g2:W0.heap[w.heap.size+2]?=some (.cells #[.slice (some ⟨b,off,none⟩) len cap] 244 (0,0)):=by
  rw [← hW0]
  have:=World.alloc_heap_new ((w.alloc (.cells #[.slice (some ⟨b,off,none⟩) len cap] 244)).alloc (.cells #[.pointer none,.slice none 0 0] 259)) (.cells #[.slice (some ⟨b,off,none⟩) len cap] 244)
  rwa [World.size_alloc,World.size_alloc] at this
 rw [hW0]
 have hI0:holdsT w.heap.size (.slice (some ⟨b,off,none⟩) len cap) (accB len []) W0 :=
  ⟨.inl ⟨Nat.le_refl _,_,g1,⟨rfl,.inl ⟨rfl,rfl⟩⟩,by simp [Value.ownBlock]⟩,g0,g2⟩
 have hcB:W0.cell? ⟨w.heap.size+2,0,none⟩=some (.slice (some ⟨b,off,none⟩) zs.length cap):=by rw [hlen];simp [World.cell?,g2]
 refine wpIn_rangeFunc_ownG rfl (by omega) (gf:=157) (lb:=#[.pointer (some ⟨w.heap.size+1+1,0,none⟩)]) rfl trivial (enters_of Tryz.func157 (by kernel_rfl) rfl)
  (back_stops Fence.wide _ trivial rfl (by omega) (w.heap.size+2) w.heap.size b off cap zs (by omega) hlim hb W0 (by omega) (by omega) hcB (fun j hj=>(hB0.cell (p:=⟨b,off+j,none⟩) hb).trans (hc j hj)))
  (fun h k=>h.trans k) (fun W l o o' hl _ _ _=>⟨⟨rfl,rfl,rfl,by simp,fun k hk=>World.putObj_heap_other (by omega)⟩,World.putObj_heap_other (by omega)⟩) (Below.refl _ _) (fun _=>rfl)
  (fun pre W=>holdsT w.heap.size (.slice (some ⟨b,off,none⟩) len cap) (accB len pre) W∧Below w.heap.size w W)
  (fun _ _ _=>False)
  (OwnFrom.and (Own.from (holdsT_own w.heap.size _ (fun pre=>accB len pre)) _) (ownFrom_below (Nat.le_refl _) (by omega)))
  (fun _ _ _ _ _ hs _ _=>hs)
  ⟨hI0,hB0⟩
  (fun x=>{ tmps:=#[.slice (some ⟨b,off,none⟩) len cap,.pointer (some ⟨w.heap.size,0,none⟩),.string ⟨#[]⟩,.pointer (some ⟨w.heap.size+1,0,none⟩),.int .i64 (x.1.1:Int),.int .u64 (x.1.2:Int),undef,.slice (some ⟨b,off,none⟩) len cap,.int .i64 len,.bool false,
   .slice (some ⟨b,off,none⟩) len cap,.func (.func 157) #[] #[.pointer (some ⟨w.heap.size+1+1,0,none⟩)],.int .i64 (x.1.1:Int),.int .u64 (x.1.2:Int),undef,undef,undef,undef,undef,undef,undef,undef,undef,undef,undef,undef,undef,undef,undef],defers:=[] }) ?assign ?body ?done ?stop
 case assign =>
  intro l x W K hK
  gi_wp2
  exact hK
 case body =>
  rintro l pre x W ⟨hT,hB⟩ hlt
  have hx64:x.1.2<18446744073709551616:=Nat.lt_trans x.2 (by decide)
  have hd9:=Num.nDigits_le9 x.2
  have hsz:(ByteArray.mk (Lib.decDigits x.1.2).toArray).size=Lib.nDigits x.1.2:=by simp [ByteArray.size,Lib.decDigits_length]
  have hwl:IntKind.i64.wrap ((len:Int)-1)=(len:Int)-1:=wrapB (by omega) (by omega)
  have hw9:IntKind.i64.wrap (9-(Lib.nDigits x.1.2:Int))=((9-Lib.nDigits x.1.2:Nat):Int):=by rw [wrapB (by omega) (by omega)];omega
  have tabW:Lib.TabIs Tryz.prog W "internal/strconv.uint64pow10" .u64 Lib.pow10Tab:=tab_below htab hB
  have hal:=accB_len len pre
  have hcl:(Lib.byteCells (accB len pre)).length≤9*pre.length:=by rw [Lib.byteCells_length];exact hal
  gi_wp2_with (refine ⟨trivial,?_⟩;gi_at_call 148;refine (CallsIn.inRound l (callsIn_wide.2 (formatUint_out x.1.2 hx64 _ tabW))).mono ?_;rintro e W1 ⟨rfl,hb1⟩;have hT1:=holdsT_below hT hb1;have c1:W1.cell? ⟨w.heap.size,0,none⟩=some (.slice (some ⟨b,off,none⟩) len cap):=by simp [World.cell?,hT1.2.1])
  ·have hx:(x.1.1:Int)<(len:Int)-1:=by assumption
   refine ⟨trivial,(CallsIn.inRound l (callsIn_wide.2 (Tryz.strings_Repeat ⟨#[48]⟩ (9-Lib.nDigits x.1.2) W1 (by omega) (by
    have e1:(ByteArray.mk #[48]).size=1:=rfl
    rw [e1];omega)))).mono ?_⟩
   rintro e W2 ⟨rfl,hb2⟩
   have hT2:=holdsT_below hT1 hb2
   have l2:=lt_of_heap hT2.2.2
   have hr1:(ByteArray.mk (Lib.repeatL [48] (9-Lib.nDigits x.1.2)).toArray).size=9-Lib.nDigits x.1.2:=by simp [ByteArray.size,repeatL_len]
   gi_wp2_with fail
   refine ⟨trivial,(CallsIn.inRound l (callsIn_wide.2 (writeString_in (w.heap.size+1) (w.heap.size+1) _ ⟨(Lib.repeatL [48] (9-Lib.nDigits x.1.2)).toArray⟩ W2 hT2.1 (by rw [hr1];omega) (by omega)))).mono ?_⟩
   rintro e W3 ⟨rfl,h31,h32,h33⟩
   obtain ⟨hT3,kf3,kb3⟩:=holdsT_write hT2 h31 h32 h33
   have l3:=lt_of_heap hT3.2.2
   have hl3:(Lib.byteCells (accB len pre++(ByteArray.mk (Lib.repeatL [48] (9-Lib.nDigits x.1.2)).toArray).data.toList)).length≤9*pre.length+(9-Lib.nDigits x.1.2):=by
    rw [Lib.byteCells_length,List.length_append]
    have:(ByteArray.mk (Lib.repeatL [48] (9-Lib.nDigits x.1.2)).toArray).data.toList.length=9-Lib.nDigits x.1.2:=hr1
    omega
   gi_wp2_with fail
   refine ⟨trivial,(CallsIn.inRound l (callsIn_wide.2 (writeString_in (w.heap.size+1) (w.heap.size+1) _ ⟨(Lib.decDigits x.1.2).toArray⟩ W3 hT3.1 (by rw [hsz];omega) (by omega)))).mono ?_⟩
   rintro e W4 ⟨rfl,h41,h42,h43⟩
   obtain ⟨hT4,kf4,kb4⟩:=holdsT_write hT3 h41 h42 h43
   gi_wp2
   have hpc:pieceB len x=Lib.repeatL [48] (9-Lib.nDigits x.1.2)++Lib.decDigits x.1.2:=if_pos hx
   have hbs:=hB.size
   have hb1s:=hb1.size
   refine ⟨by rw [hs0];exact (keeps_below hb1 _).trans ((keeps_below hb2 _).trans (kf3.trans kf4)),(keepB_below hb1 hbs (lt_of_heap hT.2.2)).trans ((keepB_below hb2 (by omega) (lt_of_heap hT1.2.2)).trans (kb3.trans kb4)),?_,
    hB.trans ((hb1.mono hbs).trans ((hb2.mono (by omega)).trans (kb3.1.trans kb4.1)))⟩
   rw [accB_snoc,hpc,← List.append_assoc]
   simpa using hT4
  ·have hx:¬ (x.1.1:Int)<(len:Int)-1:=by omega
   have l1:=lt_of_heap hT1.2.2
   refine ⟨trivial,(CallsIn.inRound l (callsIn_wide.2 (writeString_in (w.heap.size+1) (w.heap.size+1) _ ⟨(Lib.decDigits x.1.2).toArray⟩ W1 hT1.1 (by rw [hsz];omega) (by omega)))).mono ?_⟩
   rintro e W4 ⟨rfl,h41,h42,h43⟩
   obtain ⟨hT4,kf4,kb4⟩:=holdsT_write hT1 h41 h42 h43
   gi_wp2
   have hpc:pieceB len x=Lib.decDigits x.1.2:=if_neg (by omega)
   have hbs:=hB.size
   refine ⟨by rw [hs0];exact (keeps_below hb1 _).trans kf4,(keepB_below hb1 hbs (lt_of_heap hT.2.2)).trans kb4,?_,hB.trans ((hb1.mono hbs).trans kb4.1)⟩
   rw [accB_snoc,hpc]
   simpa using hT4
 case done =>
  rintro D ys W hD rfl ⟨hT,hB⟩ hK
  have l1:=lt_of_heap hT.2.2
  rw [hlen,hall] at hT
  gi_wp2_with fail
  refine ⟨trivial,(callsIn_wide.2 (Tryz.Builder_String_any_k (w.heap.size+1) (w.heap.size+1) (Num.textL zs) W hT.1 (by omega))).mono ?_⟩
  rintro e W1 ⟨rfl,h1,h2,h3⟩
  gi_wp2
  have hK1:W1.heap[D]?=some (.deferred (some [])):=h3 D _ hK (by simp;omega) (fun c fz e=>by cases e)
  refine ⟨by simp,.inl ⟨_,_,rfl,run_takeDeferred hK1,?_⟩⟩
  exact ⟨_,results_tmp rfl _ _ _,rfl,(hB.trans (h2.mono (by omega))).trans (belowK_b (w:=w) (Nat.le_refl _) W1 D _ _ (by omega) hK1 rfl rfl)⟩
 case stop =>
  rintro D c pre W _ _ h _
  exact h.elim
end Go.Proofs.YtnhdddmhkhdlhaaGreatDoor
namespace Go.Proofs.YtnhdddmhkhdlhaaGreatDoor
open Go Go.Am Go.Vm
def itoaF:LibF:=fun xs _=>match xs with
 |[.int .i64 n]=>if -9223372036854775808≤n∧n≤9223372036854775807 then some (.string (bs (Lib.itoa n))) else none
 |_=>none
def compareF:LibF:=fun xs _=>match xs with
 |[.string a,.string b]=>some (.int .i64 (Lib.compareBytes a.data.toList b.data.toList))
 |_=>none
def unlimb:List Value→Option (List Nat)
 |[]=>some []
 | .int .u64 n::l=>if 0≤n∧n<1000000000 then (unlimb l).map (n.toNat::·) else none
 |_::_=>none
def textF:LibF:=fun xs m=>match xs with
 |[.slice a n g]=>match sliceCells m 1 n (.slice a n g) with
  |some l=>match unlimb l with
   |some zs=>if n*9≤140737488351232 then some (.string (bs (Num.textL zs))) else none
   |none=>none
  |none=>none
 |_=>none
theorem unlimb_map:∀ {l:List Value} {zs:List Nat},unlimb l=some zs→l=zs.map (fun (n:Nat)=>Value.int .u64 (n:Int))∧Num.Lim zs
 |[],_,h=>by cases h;exact ⟨rfl,fun a ha=>by cases ha⟩
 |v::l,zs,h=>by
  unfold unlimb at h
  split at h
  ·rename_i he;cases he
  ·rename_i n l' he
   cases he
   split at h
   ·rename_i hn
    rw [Option.map_eq_some_iff] at h
    obtain ⟨zs',h1,rfl⟩:=h
    obtain ⟨h2,h3⟩:=unlimb_map h1
    refine ⟨?_,fun a ha=>?_⟩
    ·rw [h2,List.map_cons];congr 2;omega
    ·rcases List.mem_cons.1 ha with rfl|ha
     ·simp only [Num.B9];omega
     ·exact h3 a ha
   ·cases h
  ·cases h
theorem unlimb_some:∀ {zs:List Nat},Num.Lim zs→unlimb (zs.map fun (n:Nat)=>Value.int .u64 (n:Int))=some zs
 |[],_=>rfl
 |n::zs,h=>by
  have hn:n<1000000000:=h n (by simp)
  simp only [List.map_cons,unlimb]
  rw [if_pos ⟨by omega,by omega⟩,unlimb_some (fun a ha=>h a (by simp [ha]))]
  simp
theorem sim_tab {P:Program} {F:Nat} {laid:List (String×DataW Unit)} {ι:Inj} {m:Mem} {w:World} (hs:Sim P (globList P F laid) ι m w) (hg:∀ k∈globList P F laid,m.get k=(globMem P F laid).get k) {name:String} {g:Nat} {e:TypeId} {k:IntKind} {zs:List Int}
 (hn:P.globalNamed name=some g) (hat:globAt P F laid g=some (e,zs.map fun z=>Value.int k z)) (hlt:g<P.globals.size):Lib.TabIs P w name k zs:=by
 have hm:g∈globList P F laid:=by
  simp only [globList,List.mem_filter,List.mem_range]
  exact ⟨hlt,by rw [hat];rfl⟩
 obtain ⟨ib,h1,h2,⟨h3,h6⟩,h4,h5⟩:=hs.glob g hm
 have hmg:m.get g=.cells (zs.map fun z=>Value.int k z) e 0 true:=by rw [hg g hm,globMem_get hlt,hat]
 obtain ⟨cs,fr,e',hrow,hlim,_,hrel,_⟩:=cells_of hs h1 hmg
 have hl:=h6 _ _ _ _ hmg
 rw [List.length_map] at hl
 rw [h2] at hrow
 have hcs:cs=(zs.map fun z=>Value.int k z).toArray:=by
  apply Array.ext
  ·rw [← hlim,hl];simp
  ·intro i hi1 hi2
   have hi:i<(zs.map fun z=>Value.int k z).length:=by simpa using hi2
   obtain ⟨v',q1,q2⟩:=hrel i hi
   rw [h3,Nat.zero_add,Array.getElem?_eq_getElem hi1] at q1
   cases q1
   rw [getD_lt hi] at q2
   have hp:plain ((zs.map fun z=>Value.int k z)[i])=true:=by rw [List.getElem_map];rfl
   rw [q2.eq_of_plain hp]
   simp
 unfold Lib.TabIs World.var?
 simp only [hn,Option.bind_some,hrow,hcs]
theorem LRel.one {ι:Inj} {g:Nat→Nat} {v:Value} {ys:Array Value} (h:LRel ι g [v] ys.toList):∃ v',ys=#[v']∧VRel ι g v v':=by
 obtain ⟨v',k',e,h1,h2⟩:=h.uncons
 have:k'=[]:=List.eq_nil_of_length_eq_zero h2.1.symm
 subst this
 exact ⟨v',by cases ys;simp_all,h1⟩
theorem LRel.two {ι:Inj} {g:Nat→Nat} {u v:Value} {ys:Array Value} (h:LRel ι g [u,v] ys.toList):∃ u' v',ys=#[u',v']∧VRel ι g u u'∧VRel ι g v v':=by
 obtain ⟨u',k',e,h1,h2⟩:=h.uncons
 obtain ⟨v',k'',e',h3,h4⟩:=h2.uncons
 have:k''=[]:=List.eq_nil_of_length_eq_zero h4.1.symm
 subst this;subst e'
 exact ⟨u',v',by cases ys;simp_all,h1,h3⟩
theorem grow_below {w:World} {k:Nat} {os:Array Obj}:Go.RowKit.Below w.heap.size w (Go.Sort.grow (w.drewN k) os):=Lib.below_grow _ w (Nat.le_refl _) k os
theorem text_zero (a:Option Addr) (cap:Nat) (w:World):Calls Tryz.prog 138 #[.slice a 0 cap] w fun e w'=>e=.returned (.string ⟨#[48]⟩)∧Go.RowKit.Below w.heap.size w w':=by
 go_enter Tryz.func138,Tryz.ntmps138
 go_wp2
 go_ret
 exact ⟨rfl,(Go.RowKit.Below.refl _ w).alloc (Nat.le_refl _) _⟩
section
variable {F:Nat} {laid:List (String×DataW Unit)}
structure HasTab (F:Nat) (laid:List (String×DataW Unit)):Prop where
 tab:∃ g e,Tryz.prog.globalNamed "internal/strconv.uint64pow10"=some g∧globAt Tryz.prog F laid g=some (e,Lib.pow10Tab.map fun z=>Value.int .u64 z)∧g<Tryz.prog.globals.size
theorem itoa_sound (ht:HasTab F laid) (he:Am.Enters Tryz.prog 141):LibSound Tryz.prog (globList Tryz.prog F laid) (globMem Tryz.prog F laid) 141 itoaF:=by
 refine ⟨fun _ _ _=>rfl,he,fun ι m w xs ys v hs hg hl h=>?_⟩
 obtain ⟨g,e,t1,t2,t3⟩:=ht.tab
 have htab:=sim_tab hs hg t1 t2 t3
 unfold itoaF at h
 split at h
 ·rename_i n
  split at h
  ·rename_i hn
   cases h
   obtain ⟨v',rfl,hv⟩:=LRel.one hl
   have:v'=.int .i64 n:=by cases hv;rfl
   subst this
   refine ⟨rfl,(Tryz.strconv_Itoa n hn.1 hn.2 w htab).mono ?_⟩
   rintro e w' ⟨rfl,k,os,rfl⟩
   exact ⟨rfl,grow_below⟩
  ·cases h
 ·cases h
theorem compare_sound (he:Am.Enters Tryz.prog 145):LibSound Tryz.prog (globList Tryz.prog F laid) (globMem Tryz.prog F laid) 145 compareF:=by
 refine ⟨fun _ _ _=>rfl,he,fun ι m w xs ys v hs hg hl h=>?_⟩
 unfold compareF at h
 split at h
 ·rename_i a b
  cases h
  obtain ⟨u',v',rfl,h1,h2⟩:=LRel.two hl
  have e1:u'=.string a:=by cases h1;rfl
  have e2:v'=.string b:=by cases h2;rfl
  subst e1;subst e2
  refine ⟨rfl,(Tryz.strings_Compare a b w).mono ?_⟩
  rintro e w' ⟨rfl,rfl⟩
  exact ⟨rfl,Go.RowKit.Below.refl _ _⟩
 ·cases h
theorem text_sound (ht:HasTab F laid) (he:Am.Enters Tryz.prog 138):LibSound Tryz.prog (globList Tryz.prog F laid) (globMem Tryz.prog F laid) 138 textF:=by
 refine ⟨fun _ _ _=>rfl,he,fun ι m w xs ys v hs hg hl h=>?_⟩
 obtain ⟨g,e,t1,t2,t3⟩:=ht.tab
 have htab:=sim_tab hs hg t1 t2 t3
 unfold textF at h
 split at h
 ·rename_i a n gen
  split at h
  ·rename_i l hl1
   split at h
   ·rename_i zs hzs
    split at h
    ·rename_i hb
     cases h
     obtain ⟨v',rfl,hv⟩:=LRel.one hl
     obtain ⟨hmap,hlim⟩:=unlimb_map hzs
     obtain ⟨a',cap,rfl,hlen,hsp,hcell⟩:=sliceCells_world hs hv rfl (fun b e=>by cases e) hl1
     have hzl:zs.length=n:=by rw [← hlen,hmap,List.length_map]
     refine ⟨rfl,?_⟩
     rcases Nat.eq_zero_or_pos n with h0|h0
     ·subst h0
      have:zs=[]:=List.eq_nil_of_length_eq_zero hzl
      subst this
      have e0:bs (Num.textL [])=⟨#[48]⟩:=by
       show bs (Lib.decDigits 0)=_
       rw [Lib.decDigits_one (by decide)]
       rfl
      exact (text_zero a' cap w).mono fun e w' ⟨h1,h2⟩=>⟨by rw [e0];exact h1,h2⟩
     ·rcases hsp with ⟨_,h1⟩|⟨A,h1|h1⟩
      ·omega
      ·obtain ⟨rfl,hspot⟩:=h1
       obtain ⟨b,off,spot⟩:=A
       simp only at hspot
       subst hspot
       have hc:∀ j,j<zs.length→w.cell? ⟨b,off+j,none⟩=some (.int .u64 (zs.getD j 0:Int)):=fun j hj=>by
        have:=hcell _ rfl j (.int .u64 (zs.getD j 0:Int)) (by rw [hmap,List.getElem?_map,List.getElem?_eq_getElem hj];simp [List.getD,hj]) rfl
        rwa [addr_add] at this
       have hbl:b<w.heap.size:=by
        have:=hc 0 (by omega)
        unfold World.cell? at this
        rcases Nat.lt_or_ge b w.heap.size with h|h
        ·exact h
        ·simp [Array.getElem?_eq_none h] at this
       have ht:=text_in b off cap zs hlim (fun e=>by rw [e] at hzl;simp at hzl;omega) (by rw [hzl];exact hb) w hbl hc htab
       rw [hzl] at ht
       exact ht
      ·omega
    ·cases h
   ·cases h
  ·cases h
 ·cases h
end
theorem limbs_cells {m:Mem} {F:Nat→Prop}:∀ {l:List Nat} {vs:List Value},RFs m F (cells l) vs→vs=l.map fun (n:Nat)=>Value.int .u64 (n:Int)
 |[],_,.nil=>rfl
 |c::l,_,.cons h t=>by
  cases h
  rw [limbs_cells t];rfl
theorem textF_run {m:Mem} {F:Nat→Prop} {e:TypeId} {l:List Nat} {xs:List Value} (hl:Num.Lim l) (hn:l.length<1000000000) (h:RFs m F [.lst e (cells l) l.length] xs):∃ v,textF xs m=some v∧RF m F (.str (bs (Num.textL l))) v:=by
 cases h with
 |cons h t =>
  cases t
  obtain ⟨vs,h1,h2,h3⟩:=RF.cellsOf (sz:=1) h (by rw [cells_length];rfl)
  refine ⟨.string (bs (Num.textL l)),?_,.str _⟩
  have hvs:=limbs_cells h2
  subst hvs
  have hsl:∀ {v:Value},RF m F (.lst e (cells l) l.length) v→∃ a g,v=Value.slice a l.length g:=by
   intro v hv
   generalize l.length=n at hv
   generalize cells l=cs at hv
   cases hv with
   |nil=>exact ⟨_,_,rfl⟩
   |room=>exact ⟨_,_,rfl⟩
   |lst=>exact ⟨_,_,rfl⟩
  obtain ⟨a,g,rfl⟩:=hsl h
  unfold textF
  simp only [h1,unlimb_some hl]
  rw [if_pos (by omega)]
end Go.Proofs.YtnhdddmhkhdlhaaGreatDoor
namespace Go.Vm
open Go.Am
section
variable {P:Program}
noncomputable def lawEnvX (P:Program) (F:Nat) (laid:List (String×DataW Unit)) (O:Oracle):Env:=⟨P,O,globList P F laid,gam P F laid⟩
theorem lib_funX {O:Oracle} {F:Nat} {laid:List (String×DataW Unit)} {ls:List (FuncId×LibF)} {f:FuncId} {Fn:LibF} {xs:List FV} {r:FV} (hO:O f=libO (globList P F laid) (globMem P F laid) ls f) (hf:ls.lookup f=some Fn)
 (h:∀ m F' asW,RFs m F' xs asW→∃ v,Fn asW m=some v∧RF m F' r v):VFun (lawEnvX P F laid O) f xs (.p r):=by
 intro m F' σ asW h1 h2
 have h2':RFs m F' xs asW:=RFs.ofRPs h2
 obtain ⟨v,h3,h4⟩:=h m F' asW h2'
 have hg:∀ k∈globList P F laid,m.get k=(globMem P F laid).get k:=fun k hk=>by
  obtain ⟨hlt,e,l,hgl⟩:=globList_mem hk
  have:=(h1.gl k l e (by simp only [lawEnvX,gam,if_pos hlt,hgl,Option.map_some])).2.1
  rw [this,globMem_get hlt,hgl]
 refine ACalls.oracle (F:=fun asW m=>open Classical in if ∀ k∈globList P F laid,m.get k=(globMem P F laid).get k then (Fn asW m).map fun v=>(v,m) else none) (m':=m) (v:=v) (by simp only [lawEnvX,hO,libO,hf]) ?_
  ⟨_,_,_,F',σ,⟨rfl,rfl,rfl⟩,h1,.p h4,Step.refl _ _ _ _ _⟩
 rw [if_pos hg,h3];rfl
variable {H:Type} {enc:TypeId×Value→H} {W:World} {held:Bool}
theorem lawX {r:Go.Reach} {b0 F:Nat} {laid:List (String×DataW Unit)} {O:Oracle} {f:FuncId} {ts:List TypeId} {args:Array Value} {ds:List (DataW H)} {ps:List MemPlace}
 (hL:laidMet P laid W) (hA:DataW.TrodAll enc P W 0 (fun _=>true) held ts args.toList ds ps) (hv:∀ (j:Nat) t v,ts[j]?=some t→args.toList[j]?=some v→Value.okWide P W r b0 t v)
 (hmix:P.follows .mixedOrders=true) (hty:ts.all (tyOk P F)=true)
 (hO:OSound P (globList P F laid) O)
 (hp:∀ j fss xs,HasTs P (j+F) ts fss→All2 (fun (tf:TypeId×List FV) x=>packF P tf.1 tf.2=some x) (ts.zip fss) xs→VFun (lawEnvX P F laid O) f xs (.p (.bool true))) :
 Calls P f args W fun e W'=>e=.returned (.bool true)∧Go.RowKit.Below W.heap.size W W':=by
 obtain ⟨N,hN⟩:=trodN ts _ ds ps hA
 obtain ⟨j,hj⟩:∃ j,max N F=j+F:=⟨max N F-F,by omega⟩
 obtain ⟨asW,m1,fss,xs,q1,q2,q3,q4,q5,q6⟩:=args_layN ts _ ds (fun t ht=>tyOk_le (by omega) (List.all_eq_true.1 hty t ht)) (hN (max N F) (by omega)) (globMem P F laid)
 rw [hj] at q2
 have hctx:Ctx (lawEnvX P F laid O).Γ m1 (fun c=>c<m1.size) (fun _=>undef) [] 0:=by
  refine ⟨fun _ h=>h,fun b x hb=>(by cases hb),fun b b' x x' c hb=>(by cases hb),fun g vs e hg=>?_⟩
  simp only [lawEnvX,gam] at hg
  split at hg
  ·rename_i hlt
   simp only [Option.map_eq_some_iff,Prod.mk.injEq] at hg
   obtain ⟨⟨e',l⟩,h1,rfl,rfl⟩:=hg
   have hlt':g<(globMem P F laid).size:=by rw [globMem_size];exact hlt
   exact ⟨by omega,by rw [q6 g hlt',globMem_get hlt,h1],globAt_plain h1⟩
  ·cases hg
 obtain ⟨v,m',⟨K,hK⟩,r0,H',nx',F',σ',⟨rfl,_,_⟩,_,hrv,_⟩:=hp j fss xs q2 q3 m1 _ _ asW hctx (RPs.ofRFs q4)
 have hv1:v=.bool true:=by cases hrv with|p h=>cases h;rfl
 subst hv1
 obtain ⟨ι,hs,hro⟩:=glob_open (F:=F) hL
 obtain ⟨ι1,o1,o2,o3,o4⟩:=args_open ts _ ds ps hA hv ι _ m1 asW hs hro q1
 refine ((acall_sound hO hmix K f).1 asW m1 _ m' (hK K K (Nat.le_refl _) (Nat.le_refl _)) ι1 W args o1 o4).mono fun e W' ⟨v',he,ι2,hx,hs2,hvr⟩=>?_
 have:=hvr.eq_of_plain (v:=.bool true) rfl
 subst this
 exact ⟨he,⟨hx.os,hx.tape,hx.output,hx.heap,fun c hcl=>hx.frame c hcl fun b ib hb _=>.inl (o3 b (o1.dom b ib hb).1)⟩⟩
def growF (e:TypeId) (xs:List Value) (m:Mem):Option (Value×Mem):=match xs with
 |[.slice none 0 0,.int .i64 n]=>if 0<n∧n≤1000000 then some (newSlice m e [] 0) else none
 |_=>none
def growO (fg:FuncId) (e:TypeId) (O:Oracle):Oracle:=fun f=>if f=fg then some (growF e) else O f
end
end Go.Vm
namespace Go.Vm
open Go.Am
section
variable {P:Program}
noncomputable def knO (G:List Nat) (M0:Mem) (fs:List FuncId) (O:Oracle):Oracle:=fun f=>if f∈fs then trueO G M0 fs f else O f
end
end Go.Vm
namespace Go.Vm
open Go.Am
section
variable {P:Program} {G:List Nat}
abbrev FrF:=List Value→Option (List Value)
def frRun (e:TypeId) (Fn:FrF) (asW:List Value) (m:Mem):Option (Value×Mem):=match Fn asW with
 |some []=>some (.slice none 0 0,m)
 |some (v::l)=>some (newSlice m e (v::l) (l.length+1))
 |none=>none
open Classical in
noncomputable def frO (G:List Nat) (M0:Mem) (ff:FuncId) (e:TypeId) (Fn:FrF) (O:Oracle):Oracle:=fun f =>
 if f=ff then some fun asW m=>if ∀ k∈G,m.get k=M0.get k then frRun e Fn asW m else none else O f
end
end Go.Vm
namespace Go.Vm
open Go.Am
open Go.Sort (putRow putCells mapBlock onCells Holds grow size_putRow size_grow)
section
variable {P:Program} {G:List Nat}
def iV (z:Int):Value:=.int .i64 z
def unints:List Value→Option (List Int)
 |[]=>some []
 | .int .i64 n::l=>(unints l).map (n::·)
 |_::_=>none
theorem unints_iV:∀ zs:List Int,unints (zs.map iV)=some zs
 |[]=>rfl
 |z::zs=>by simp only [List.map_cons,iV,unints];rw [unints_iV zs];rfl
theorem unints_eq:∀ {l:List Value} {zs:List Int},unints l=some zs→l=zs.map iV
 |[],zs,h=>by cases h;rfl
 |v::l,zs,h=>by
  unfold unints at h
  split at h
  ·rename_i he;cases he
  ·rename_i n l' he
   cases he
   rw [Option.map_eq_some_iff] at h
   obtain ⟨zs',h1,rfl⟩:=h
   rw [unints_eq h1];rfl
  ·cases h
abbrev InF:=List Int→List Value→Option (List Int×Option Nat)
def inRun (e:TypeId) (Fn:InF) (asW:List Value) (m:Mem):Option (Value×Mem):=match asW with
 | .slice none 0 0::rest=>match Fn [] rest with
  |some ([],none)=>some (.tuple #[],m)
  |_=>none
 | .slice (some ⟨b,0,none⟩) n g::rest=>match m.get b with
  | .cells vs e' g' false =>
   if g=g'∧e=e'∧vs.length=n∧0<n∧rest.all Am.plainCell=true then
    match unints vs with
    |some zs=>match Fn zs rest with
     |some (zs',none)=>if zs'.length=n then some (.tuple #[],m.put b (.cells (zs'.map iV) e g' false)) else none
     |some (zs',some k)=>if zs'.length=n∧k≤n then some (.slice (some ⟨b,0,none⟩) k (g'+1),m.put b (.cells ((zs'.take k).map iV) e (g'+1) false)) else none
     |none=>none
    |none=>none
   else none
  |_=>none
 |_=>none
inductive InRun (e:TypeId) (Fn:InF) (m:Mem):List Value→Value→Mem→Prop
 |nil {rest:List Value} (h:Fn [] rest=some ([],none)):InRun e Fn m (.slice none 0 0::rest) (.tuple #[]) m
 |put {b n g:Nat} {rest:List Value} {zs zs':List Int} (hm:m.get b=.cells (zs.map iV) e g false) (hn:zs.length=n) (h0:0<n) (hr:rest.all Am.plainCell=true) (h:Fn zs rest=some (zs',none)) (hl:zs'.length=n) :
  InRun e Fn m (.slice (some ⟨b,0,none⟩) n g::rest) (.tuple #[]) (m.put b (.cells (zs'.map iV) e g false))
 |cut {b n g k:Nat} {rest:List Value} {zs zs':List Int} (hm:m.get b=.cells (zs.map iV) e g false) (hn:zs.length=n) (h0:0<n) (hr:rest.all Am.plainCell=true) (h:Fn zs rest=some (zs',some k)) (hl:zs'.length=n) (hk:k≤n) :
  InRun e Fn m (.slice (some ⟨b,0,none⟩) n g::rest) (.slice (some ⟨b,0,none⟩) k (g+1)) (m.put b (.cells ((zs'.take k).map iV) e (g+1) false))
theorem inRun_some {e:TypeId} {Fn:InF} {asW:List Value} {m m':Mem} {v:Value} (h:inRun e Fn asW m=some (v,m')):InRun e Fn m asW v m':=by
 unfold inRun at h
 split at h
 ·split at h
  ·rename_i h1;cases h;exact .nil h1
  ·cases h
 ·rename_i b n g rest
  split at h
  ·rename_i vs e' g' hm
   split at h
   ·rename_i hc
    obtain ⟨rfl,rfl,h1,h2,h3⟩:=hc
    split at h
    ·rename_i zs hz
     have hv:=unints_eq hz
     subst hv
     rw [List.length_map] at h1
     split at h
     ·rename_i zs' hf
      split at h
      ·rename_i hl;cases h;exact .put hm h1 h2 h3 hf hl
      ·cases h
     ·rename_i zs' k hf
      split at h
      ·rename_i hl;cases h;exact .cut hm h1 h2 h3 hf hl.1 hl.2
      ·cases h
     ·cases h
    ·cases h
   ·cases h
  ·cases h
 ·cases h
open Classical in
noncomputable def inO (G:List Nat) (M0:Mem) (ff:FuncId) (e:TypeId) (Fn:InF) (O:Oracle):Oracle:=fun f=>if f=ff then some (fun asW m=>if ∀ k∈G,m.get k=M0.get k then inRun e Fn asW m else none) else O f
theorem inO_ne {M0:Mem} {ff f:FuncId} {e:TypeId} {Fn:InF} {O:Oracle} (h:f≠ff):inO G M0 ff e Fn O f=O f:=if_neg h
theorem getElem!_toArray (zs:List Int) (j:Nat):zs.toArray[j]! =(zs[j]?).getD 0:=by
 rw [getElem!_def]
 by_cases h:j<zs.length
 ·simp [h]
 ·simp [h]
theorem inplace_world {ι:Inj} {m:Mem} {w:World} {b g g2 q:Nat} {ib:IB} {e:TypeId} {zs zs' ys:List Int} {os:Array Obj} (hs:Sim P G ι m w) (hb:ι b=some ib) (hm:m.get b=.cells (zs.map iV) e g false) (hl:zs'.length=zs.length) (hy:∃ k,ys=zs'.take k) (hg:g≤g2) :
 ∃ ι',Ext ι m w ι' (m.put b (.cells (ys.map iV) e g2 false)) (grow (putRow iV (Sort.ahead w q) ib.blk ib.sh zs'.toArray) os)∧Sim P G ι' (m.put b (.cells (ys.map iV) e g2 false)) (grow (putRow iV (Sort.ahead w q) ib.blk ib.sh zs'.toArray) os)∧ι' b=some ib:=by
 obtain ⟨cs,fr,e',hrow,hlim,hesz,hrel,hfr0⟩:=cells_of hs hb hm
 obtain ⟨rfl,hfr⟩:=hfr0 rfl
 have hlt:ib.blk<w.heap.size:=(hs.dom b ib hb).2
 have hobj:(grow (putRow iV (Sort.ahead w q) ib.blk ib.sh zs'.toArray) os).heap[ib.blk]?=some (.cells (putCells iV ib.sh zs'.toArray cs) e' fr):=by
  show ((putRow iV (Sort.ahead w q) ib.blk ib.sh zs'.toArray).heap++os)[ib.blk]?=_
  rw [Array.getElem?_append_left (by rw [size_putRow];exact hlt)]
  simp only [putRow,mapBlock,Sort.heap_ahead,Array.getElem?_modify,hrow]
  simp [onCells]
 refine upd_core (x:=.cells (ys.map iV) e' g2 false) (ib':=ib) hs hb (Mem.ro_eq hm) rfl ⟨by rw [Mem.gen_eq hm];exact hg,fun _=>rfl⟩ (.inl rfl) hobj (fun c hc hne=>?_) ?_ rfl rfl rfl (fun ι' g' _=>?_)
 ·show ((putRow iV (Sort.ahead w q) ib.blk ib.sh zs'.toArray).heap++os)[c]?=_
  rw [Array.getElem?_append_left (by rw [size_putRow];exact hc)]
  simp only [putRow,mapBlock,Sort.heap_ahead,Array.getElem?_modify]
  rw [if_neg (fun e=>hne e.symm)]
 ·rw [size_grow,size_putRow];exact Nat.le_add_right _ _
 ·obtain ⟨k,rfl⟩:=hy
  refine ⟨fun _=>rfl,by rw [hlim];simp [putCells],hesz,fun i hi=>?_,fun _ j hj=>hfr j (by simpa [putCells] using hj)⟩
  rw [List.length_map,List.length_take] at hi
  have hi':i<zs'.length:=by omega
  obtain ⟨v',h2,_⟩:=hrel i (by rw [List.length_map];omega)
  refine ⟨iV zs'[i],?_,?_⟩
  ·simp only [putCells,Array.getElem?_mapIdx,h2,Option.map_some]
   rw [if_pos ⟨by omega,by simp;omega⟩,show ib.sh+i-ib.sh=i by omega,getElem!_toArray,List.getElem?_eq_getElem hi']
   rfl
  ·have e1:((zs'.take k).map iV).getD i undef=iV zs'[i]:=by
    rw [List.getD_eq_getElem?_getD,List.getElem?_map,List.getElem?_take,if_pos (by omega),List.getElem?_eq_getElem hi'];rfl
   rw [e1];exact .int _ _
theorem holds_of {ι:Inj} {m:Mem} {w:World} {b g:Nat} {ib:IB} {e:TypeId} {zs:List Int} (hs:Sim P G ι m w) (hb:ι b=some ib) (hm:m.get b=.cells (zs.map iV) e g false):Holds iV w ib.blk ib.sh zs.toArray:=by
 obtain ⟨cs,fr,e',hrow,hlim,hesz,hrel,hfr0⟩:=cells_of hs hb hm
 obtain ⟨rfl,hfr⟩:=hfr0 rfl
 intro j hj
 have hj':j<zs.length:=by simpa using hj
 obtain ⟨v',h2,h3⟩:=hrel j (by rw [List.length_map];exact hj')
 have e1:(zs.map iV).getD j undef=iV zs[j]:=by
  rw [List.getD_eq_getElem?_getD,List.getElem?_map,List.getElem?_eq_getElem hj'];rfl
 rw [e1] at h3
 have e2:=h3.eq_of_plainCell (v:=iV zs[j]) rfl
 subst e2
 refine ⟨?_,?_⟩
 ·rw [Am.cell_of_row hrow,getElem!_toArray,List.getElem?_eq_getElem hj'];exact h2
 ·rw [Am.frozen_of_row hrow]
  have:=hfr (ib.sh+j) (Array.getElem?_eq_some_iff.1 h2).1
  by_cases h4:fr.1≤ib.sh+j
  ·have h5:¬ (ib.sh+j<fr.2):=fun h5=>this ⟨h4,h5⟩
   simp [h5]
  ·simp [h4]
theorem arr_cons (x:Value) (l:List Value):(⟨x::l⟩:Array Value)=#[x]++l.toArray:=by simp
theorem inO_sound {M0:Mem} {ff:FuncId} {e:TypeId} {Fn:InF} {O:Oracle} (hO:OSound P G O) (he:Am.Enters P ff) (h1:P.cellsOf e=1)
 (hc:∀ (blk off cap:Nat) (zs zs':List Int) (r:Option Nat) (rest:List Value) (w:World),Fn zs rest=some (zs',r)→zs'.length=zs.length→(∀ k,r=some k→k≤zs.length)→Holds iV w blk off zs.toArray→blk<w.heap.size→zs.length≤cap→0<zs.length →
  Calls P ff (#[.slice (some ⟨blk,off,none⟩) zs.length cap]++rest.toArray) w fun x w'=>x=.returned (match r with|none=>.tuple #[]|some k=>.slice (some ⟨blk,off,none⟩) k cap)∧∃ q os,w'=grow (putRow iV (Sort.ahead w q) blk off zs'.toArray) os)
 (hn:∀ (rest:List Value) (rest':Array Value) (w:World),Fn [] rest=some ([],none)→rest'.size=rest.length→Calls P ff (#[.slice none 0 0]++rest') w fun x w'=>x=.returned (.tuple #[])∧w'=w):OSound P G (inO G M0 ff e Fn O):=by
 intro f Fo hf
 by_cases h:f=ff
 ·subst h
  unfold inO at hf
  rw [if_pos rfl] at hf
  cases hf
  refine ⟨fun asW m v m' hv ι w as' hs hrel=>?_,fun asW m v m' hv=>?_,he,SeqFn.none fun n lb m=>by simp only [seqAs_cons,seqMark,inRun];split<;>rfl⟩
  ·simp only at hv
   split at hv
   case isFalse=>cases hv
   have hr:=inRun_some hv
   obtain ⟨as'⟩:=as'
   cases hr with
   |nil h =>
    obtain ⟨v',k',rfl,h2,h3⟩:=hrel.uncons
    cases h2
    rw [arr_cons]
    refine (hn _ k'.toArray w h (by simpa using h3.1.symm)).mono ?_
    rintro x w' ⟨rfl,rfl⟩
    exact ⟨_,rfl,Post.same hs (.tuple [] [] rfl fun i hi=>absurd hi (by simp))⟩
   |put hm hn2 h0 hp h hl =>
    rename_i b n g rest zs zs'
    subst hn2
    obtain ⟨v',k',rfl,h2,h3⟩:=hrel.uncons
    have e3:k'=rest:=by
     refine (ext_getD h3.1 fun i hi=>?_).symm
     exact ((h3.2 i hi).eq_of_plainCell (List.all_eq_true.1 hp _ (getD_mem hi))).symm
    subst e3
    cases h2 with
    |sl _ _ _ _ a' cap hsr =>
     obtain ⟨ib,hb,_,hcap,hcur⟩:=hsr
     obtain ⟨c1,c2,c3⟩:=hcur (Mem.gen_eq hm).symm
     replace c3:a'.off=0+ib.sh∧a'.off+cap*ib.esz≤ib.lim:=c3.resolve_left (by omega)
     obtain ⟨blk,off,sp⟩:=a'
     simp only at c1 c2 c3
     subst c1;subst c2
     have c4:off=ib.sh:=by omega
     subst c4
     rw [arr_cons]
     refine (hc ib.blk ib.sh cap zs zs' none k' w h hl (fun k hk=>by cases hk) (holds_of hs hb hm) (hs.dom b ib hb).2 hcap h0).mono ?_
     rintro x w' ⟨rfl,q,os,rfl⟩
     obtain ⟨ι',q1,q2,q3⟩:=inplace_world (q:=q) (os:=os) hs hb hm hl ⟨zs'.length,(List.take_length).symm⟩ (Nat.le_refl g)
     exact ⟨_,rfl,ι',q1,q2,.tuple [] [] rfl fun i hi=>absurd hi (by simp)⟩
   |cut hm hn2 h0 hp h hl hk =>
    rename_i b n g k rest zs zs'
    subst hn2
    obtain ⟨v',k',rfl,h2,h3⟩:=hrel.uncons
    have e3:k'=rest:=by
     refine (ext_getD h3.1 fun i hi=>?_).symm
     exact ((h3.2 i hi).eq_of_plainCell (List.all_eq_true.1 hp _ (getD_mem hi))).symm
    subst e3
    cases h2 with
    |sl _ _ _ _ a' cap hsr =>
     obtain ⟨ib,hb,_,hcap,hcur⟩:=hsr
     obtain ⟨c1,c2,c3⟩:=hcur (Mem.gen_eq hm).symm
     replace c3:a'.off=0+ib.sh∧a'.off+cap*ib.esz≤ib.lim:=c3.resolve_left (by omega)
     obtain ⟨blk,off,sp⟩:=a'
     simp only at c1 c2 c3
     subst c1;subst c2
     obtain ⟨c3,c4⟩:=c3
     have c5:off=ib.sh:=by omega
     subst c5
     rw [arr_cons]
     refine (hc ib.blk ib.sh cap zs zs' (some k) k' w h hl (fun j hj=>by cases hj;exact hk) (holds_of hs hb hm) (hs.dom b ib hb).2 hcap h0).mono ?_
     rintro x w' ⟨rfl,q,os,rfl⟩
     obtain ⟨ι',q1,q2,q3⟩:=inplace_world (q:=q) (os:=os) hs hb hm hl ⟨k,rfl⟩ (Nat.le_succ g)
     exact ⟨_,rfl,ι',q1,q2,.sl _ _ _ _ _ _ ⟨ib,q3,by rw [Mem.gen,Mem.get_put,if_pos rfl];exact Nat.le_refl _,by omega,fun _=>⟨rfl,rfl,.inr ⟨(Nat.zero_add _).symm,c4⟩⟩⟩⟩
  ·simp only at hv
   split at hv
   case isFalse=>cases hv
   have hr:=inRun_some hv
   cases hr with
   |nil=>exact MemStep.refl _
   |put hm=>exact MemStep.put (Mem.ro_eq hm) rfl
   |cut hm=>exact MemStep.put (Mem.ro_eq hm) rfl
 ·rw [inO_ne h] at hf
  exact hO f Fo hf
end
end Go.Vm
namespace Go.Vm
open Go.Am
section
variable {P:Program} {F0:Nat} {laid:List (String×DataW Unit)} {O O0:Oracle} {ff:FuncId} {Fn:InF} {L:Frame} {H:Heap} {nx:Nat} {Q:PV→Heap→Nat→Prop} {w:Bool}
variable {dst:Option Tmp} {ty:TypeId} {pos:String} {af:Array Edge} {gd:Option (Nat×Bool)}
theorem RFs.ints {m:Mem} {F:Nat→Prop}:∀ {zs:List Int} {vs:List Value},RFs m F (cells zs) vs→vs=zs.map iV
 |[],_,h=>by cases h;rfl
 |z::zs,_,h=>by
  cases h with
  |cons h t=>cases h;rw [RFs.ints t];rfl
theorem RFs.ofInts (m:Mem) (F:Nat→Prop):∀ zs:List Int,RFs m F (cells zs) (zs.map iV)
 |[]=>.nil
 |z::zs=>.cons (.int .i64 z) (RFs.ofInts m F zs)
theorem iV_cells (zs:List Int):(zs.map iV).all isCell=true:=by
 rw [List.all_eq_true]
 intro x hx
 obtain ⟨z,_,rfl⟩:=List.mem_map.1 hx
 rfl
theorem gl_same {m:Mem} {F:Nat→Prop} {σ:Nat→Value} (h1:Ctx (lawEnvX P F0 laid O).Γ m F σ H nx):∀ k∈globList P F0 laid,m.get k=(globMem P F0 laid).get k:=fun k hk=>by
 obtain ⟨hlt,e,l,hgl⟩:=globList_mem hk
 have:=(h1.gl k l e (by simp only [lawEnvX,gam,if_pos hlt,hgl,Option.map_some])).2.1
 rw [this,globMem_get hlt,hgl]
theorem in_args {E:Env} {m:Mem} {F:Nat→Prop} {σ:Nat→Value} {t:Tr Value} {b n:Nat} {e:TypeId} {zs:List Int} {z:Bool} {args:List Operand} {rest:List FV} (h1:Ctx E.Γ m F σ H nx) (h2:RL m F (htag H) σ nx L t)
 (ha:evs E.Γ L args=some (.vec b n 0 n::rest.map .p)) (hb:hget H b=some (.vec e (cells zs) n z)) (h0:0<n) :
 ∃ c g us,args.map (ev t)=.slice (some ⟨c,0,none⟩) n g::us∧RFs m F rest us∧σ b=.slice (some ⟨c,0,none⟩) n g∧c<m.size∧¬ F c∧m.get c=.cells (zs.map iV) e g false:=by
 have hr:=evs_rel h1 h2 ha
 obtain ⟨_,hrb⟩:=h1.hp b _ hb
 rcases hrb with ⟨_,r2,_⟩|⟨c,g,vs,r1,r2,r3,r4,r5,r6,r7⟩
 ·omega
 have hv:=RFs.ints r5
 subst hv
 generalize args.map (ev t)=asW at hr
 cases hr with
 |cons h3 h4 =>
  rename_i v us
  refine ⟨c,g,us,?_,RFs.ofRPs h4,r1,r2,r3,r4⟩
  cases h3 with
  |vec hb' hc h =>
   have:=(h n (by simp [htag,hb,HB.tag])).2 rfl
   rw [r1] at this
   simp only [SubOf] at this
   rw [this]
theorem VVal.inCut {fo:Operand} {args:Array Operand} {aT:Array TypeId} {b n k:Nat} {e:TypeId} {zs zs':List Int} {z:Bool} {rest:List FV} {rv:List Value} (hO:O ff=inO (globList P F0 laid) (globMem P F0 laid) ff e Fn O0 ff)
 (hf:vev (lawEnvX P F0 laid O).Γ L fo=some (.clo ff [] [])) (ha:evs (lawEnvX P F0 laid O).Γ L args.toList=some (.vec b n 0 n::rest.map .p)) (hb:hget H b=some (.vec e (cells zs) n z)) (hrv:∀ m F us,RFs m F rest us→us=rv) (hpl:rv.all Am.plainCell=true)
 (hn:zs.length=n) (h0:0<n) (hF:Fn zs rv=some (zs',some k)) (hl:zs'.length=n) (hk:k≤n)
 (q:Q (.vec nx k 0 k) ((nx,.vec e (cells (zs'.take k)) k false)::hdel H b) (nx+1)):VVal (lawEnvX P F0 laid O) true ⟨dst,.call { callee:=.value fo,args:=args,argTypes:=aT },ty,pos,af,gd⟩ L H nx Q:=by
 intro m F σ t h1 h2
 obtain ⟨c,g,us,e1,e2,e3,e4,e5,e6⟩:=in_args h1 h2 ha hb h0
 have e7:=hrv m F us e2
 subst e7
 have hfv:=vev_rel h1 h2 hf
 generalize hfe:ev t fo=fv at hfv
 cases hfv with
 |clo r1 r2 =>
  cases r1;cases r2
  have hput':∀ d,c≠d→(m.put c (.cells ((zs'.take k).map iV) e (g+1) false)).get d=m.get d:=fun d hd=>by rw [Mem.get_put,if_neg hd]
  obtain ⟨c1,c2⟩:=h1.move (m':=m.put c (.cells ((zs'.take k).map iV) e (g+1) false)) (s':=.slice (some ⟨c,0,none⟩) k (g+1)) (x':=.vec e (cells (zs'.take k)) k false) hb (Nat.le_refl _) (fun d _ hd=>hput' d fun e'=>hd (by rw [e3,e'];rfl)) (fun k' k1 k2 k3=>by
   have:=k3 c (by rw [e3];rfl)
   simp only [Mem.put];omega) (fun d hd=>.inl (by rw [e3];exact hd)) (.inr ⟨c,g+1,_,rfl,e4,e5,by rw [Mem.get_put,if_pos rfl],RFs.ofInts _ _ _,iV_cells _,fun _=>rfl⟩)
  refine AVal.call (f:=ff) (asW:=args.toList.map (ev t)) (fun call=>by simp only [aval,hfe];simp) (ACalls.oracle (v:=.slice (some ⟨c,0,none⟩) k (g+1)) (m':=m.put c (.cells ((zs'.take k).map iV) e (g+1) false)) (show O ff=_ by rw [hO];exact if_pos rfl) ?_ ⟨_,_,_,F,_,q,c1,?_,c2,fun h=>by cases h⟩)
  ·rw [if_pos (gl_same h1),e1]
   simp only [inRun,e6]
   rw [if_pos ⟨trivial,trivial,by rw [List.length_map];exact hn,h0,hpl⟩,unints_iV]
   simp only [hF]
   rw [if_pos ⟨hl,hk⟩]
  ·refine .vec (Nat.lt_succ_self _) rfl fun j hj=>?_
   rw [htag_cons,if_pos rfl] at hj
   simp only [HB.tag,Option.some.injEq,Tg.vec.injEq] at hj
   refine ⟨by omega,fun _=>?_⟩
   rw [upd_same]
   exact rfl
theorem VVal.inPut {fo:Operand} {args:Array Operand} {aT:Array TypeId} {b n:Nat} {e:TypeId} {zs zs':List Int} {z:Bool} {rest:List FV} {rv:List Value} (hO:O ff=inO (globList P F0 laid) (globMem P F0 laid) ff e Fn O0 ff)
 (hf:vev (lawEnvX P F0 laid O).Γ L fo=some (.clo ff [] [])) (ha:evs (lawEnvX P F0 laid O).Γ L args.toList=some (.vec b n 0 n::rest.map .p)) (hb:hget H b=some (.vec e (cells zs) n z)) (hrv:∀ m F us,RFs m F rest us→us=rv) (hpl:rv.all Am.plainCell=true)
 (hn:zs.length=n) (h0:0<n) (hF:Fn zs rv=some (zs',none)) (hl:zs'.length=n)
 (q:Q (.tup []) (hput H b (.vec e (cells zs') n z)) nx):VVal (lawEnvX P F0 laid O) true ⟨dst,.call { callee:=.value fo,args:=args,argTypes:=aT },ty,pos,af,gd⟩ L H nx Q:=by
 intro m F σ t h1 h2
 obtain ⟨c,g,us,e1,e2,e3,e4,e5,e6⟩:=in_args h1 h2 ha hb h0
 have e7:=hrv m F us e2
 subst e7
 have hz:n=0→z=false:=fun h=>by omega
 have hfv:=vev_rel h1 h2 hf
 generalize hfe:ev t fo=fv at hfv
 cases hfv with
 |clo r1 r2 =>
  cases r1;cases r2
  have hput':∀ d,c≠d→(m.put c (.cells (zs'.map iV) e g false)).get d=m.get d:=fun d hd=>by rw [Mem.get_put,if_neg hd]
  obtain ⟨c1,c2⟩:=h1.change (m':=m.put c (.cells (zs'.map iV) e g false)) (s':=σ b) (x':=.vec e (cells zs') n z) hb (TLe.refl _) (fun _=>rfl) (Nat.le_refl _) (fun d _ hd=>hput' d fun e'=>hd (by rw [e3,e'];rfl)) (fun k' k1 k2 k3=>by
   have:=k3 c (by rw [e3];rfl)
   simp only [Mem.put];omega) (fun d hd=>.inl hd) (.inr ⟨c,g,_,e3,e4,e5,by rw [Mem.get_put,if_pos rfl],RFs.ofInts _ _ _,iV_cells _,hz⟩)
  refine AVal.call (f:=ff) (asW:=args.toList.map (ev t)) (fun call=>by simp only [aval,hfe];simp) (ACalls.oracle (v:=.tuple #[]) (m':=m.put c (.cells (zs'.map iV) e g false)) (show O ff=_ by rw [hO];exact if_pos rfl) ?_ ⟨_,_,_,F,_,q,c1,.tup .nil,c2,fun h=>by cases h⟩)
  rw [if_pos (gl_same h1),e1]
  simp only [inRun,e6]
  rw [if_pos ⟨trivial,trivial,by rw [List.length_map];exact hn,h0,hpl⟩,unints_iV]
  simp only [hF]
  rw [if_pos hl]
def VReadV (E:Env) (g:FuncId) (ac:List PV) (Hc:Heap) (k:Nat) (e:TypeId) (cs:List FV) (n:Nat) (z:Bool):Prop:=VCalls E g ac Hc k fun r H' nx'=>r=.vec k n 0 n∧H'=(k,.vec e cs n z)::Hc∧nx'=k+1
end
end Go.Vm
namespace Go.Proofs.YtnhdddmhkhdlhaaGreatDoor
open Go Go.ChangeShapes Go.WideShapes Go.ChangeAt Go.WideMaps Go.WideElems Go.RowKit
def laidL:List (String×DataW Unit):=[("math/bits.deBruijn32tab",Rows.laid_math_bits_deBruijn32tab),("math/bits.deBruijn64tab",Rows.laid_math_bits_deBruijn64tab),("internal/strconv.uint64pow10",Rows.laid_internal_strconv_uint64pow10)]
theorem own:ownKnob Tryz.prog.godebug=none:=by kernel_rfl
theorem laidOut:laidOutB Tryz.prog=true:=by kernel_rfl
theorem door_met (os:Os) (args:Array Value):laidMetH Tryz.prog laidL ((World.doorLaid Tryz.prog 400 os).forCall (fun _ _=>0) ⟨#[],args,[]⟩).memory :=
 laidMetH_of_parts3 (fuel:=8) (laidMet_of_run' 8 (by kernel_rfl) (by kernel_rfl)) (by kernel_rfl) (by kernel_rfl)
theorem plainMet {W:World} (h:laidMetH Tryz.prog laidL W):laidMet Tryz.prog laidL W:=by
 rw [MakeChecks.laidMetH_plain _ _ _ (by kernel_rfl)] at h
 exact h
end Go.Proofs.YtnhdddmhkhdlhaaGreatDoor
namespace Go.Proofs.YtnhdddmhkhdlhaaGreatDoor
open Go Go.Am Go.Vm
theorem mixOk:Tryz.prog.follows .mixedOrders=true:=by kernel_rfl
theorem hasTab:HasTab 8 laidL:=⟨⟨1,68,by kernel_rfl,by kernel_rfl,of_decide_eq_true (by kernel_rfl)⟩⟩
theorem enters_itoa:Am.Enters Tryz.prog 141:=⟨_,Tryz.func141,by kernel_rfl,by kernel_rfl⟩
theorem enters_compare:Am.Enters Tryz.prog 145:=⟨_,Tryz.func145,by kernel_rfl,by kernel_rfl⟩
theorem enters_text:Am.Enters Tryz.prog 138:=⟨_,Tryz.func138,by kernel_rfl,by kernel_rfl⟩
def libL:List (FuncId×LibF):=[(141,itoaF),(145,compareF),(138,textF)]
theorem osound0:OSound Tryz.prog (globList Tryz.prog 8 laidL) (libO (globList Tryz.prog 8 laidL) (globMem Tryz.prog 8 laidL) libL):=libO_sound fun x hx=>by
 simp only [libL,List.mem_cons,List.not_mem_nil,or_false] at hx
 rcases hx with rfl|rfl|rfl
 ·exact itoa_sound hasTab enters_itoa
 ·exact compare_sound enters_compare
 ·exact text_sound hasTab enters_text
def sortF:InF:=fun zs rest=>match rest with
 |[]=>if zs.length<1000000 then some (zs.mergeSort fun x y=>decide (x≤y),none) else none
 |_=>none
theorem sortF_some {zs zs':List Int} {rest:List Value} {r:Option Nat} (h:sortF zs rest=some (zs',r)):rest=[]∧zs.length<1000000∧zs'=zs.mergeSort (fun x y=>decide (x≤y))∧r=none:=by
 unfold sortF at h
 split at h
 ·split at h
  ·rename_i hc;cases h;exact ⟨rfl,hc,rfl,rfl⟩
  ·cases h
 ·cases h
def compF:InF:=fun zs rest=>match rest with
 |[]=>if zs.length<1000000 then some (Lib.compact zs++List.replicate (zs.length-(Lib.compact zs).length) 0,some (Lib.compact zs).length) else none
 |_=>none
theorem compF_some {zs zs':List Int} {rest:List Value} {r:Option Nat} (h:compF zs rest=some (zs',r)):rest=[]∧zs.length<1000000∧zs'=Lib.compact zs++List.replicate (zs.length-(Lib.compact zs).length) 0∧r=some (Lib.compact zs).length:=by
 unfold compF at h
 split at h
 ·split at h
  ·rename_i hc;cases h;exact ⟨rfl,hc,rfl,rfl⟩
  ·cases h
 ·cases h
theorem enters_sort:Am.Enters Tryz.prog 54:=⟨_,Tryz.func54,by kernel_rfl,by kernel_rfl⟩
theorem enters_comp:Am.Enters Tryz.prog 55:=⟨_,Tryz.func55,by kernel_rfl,by kernel_rfl⟩
noncomputable abbrev allO0:Oracle:=libO (globList Tryz.prog 8 laidL) (globMem Tryz.prog 8 laidL) libL
noncomputable abbrev allO1:Oracle:=inO (globList Tryz.prog 8 laidL) (globMem Tryz.prog 8 laidL) 54 3 sortF allO0
noncomputable def allO:Oracle:=inO (globList Tryz.prog 8 laidL) (globMem Tryz.prog 8 laidL) 55 3 compF allO1
theorem osound1:OSound Tryz.prog (globList Tryz.prog 8 laidL) allO1:=inO_sound osound0 enters_sort (by kernel_rfl)
 (fun blk off cap zs zs' r rest w h hl hr hH hb hc h0=>by
  obtain ⟨rfl,h1,rfl,rfl⟩:=sortF_some h
  refine (show Calls Tryz.prog 54 _ w _ from Tryz.slices_Sort_int blk off cap zs w hH hb (by omega)).mono ?_
  rintro x w' ⟨rfl,n,os,rfl⟩
  exact ⟨rfl,n,os,rfl⟩)
 (fun rest rest' w h hs=>by
  obtain ⟨rfl,_⟩:=sortF_some h
  have e:rest'=#[]:=Array.eq_empty_of_size_eq_zero hs
  subst e
  exact Tryz.slices_Sort_int_none none 0 w)
theorem osound:OSound Tryz.prog (globList Tryz.prog 8 laidL) allO:=inO_sound osound1 enters_comp (by kernel_rfl)
 (fun blk off cap zs zs' r rest w h hl hr hH hb hc h0=>by
  obtain ⟨rfl,h1,rfl,rfl⟩:=compF_some h
  refine (show Calls Tryz.prog 55 _ w _ from Tryz.slices_Compact_int blk off cap zs w hH (by omega) hc).mono ?_
  rintro x w' ⟨rfl,q,rfl⟩
  refine ⟨rfl,q,#[],?_⟩
  rw [Go.Sort.grow_empty];rfl)
 (fun rest rest' w h _=>by
  obtain ⟨_,_,_,h1⟩:=compF_some h
  cases h1)
noncomputable abbrev env:Env:=lawEnvX Tryz.prog 8 laidL allO
theorem allO_ne {f:FuncId} (h1:f≠55) (h2:f≠54):allO f=allO0 f:=by
 show inO _ _ _ _ _ _ f=_
 rw [inO_ne h1]
 show inO _ _ _ _ _ _ f=_
 rw [inO_ne h2]
theorem env_none {f:FuncId} (h:f∉55::54::libL.map (·.1)):env.O f=none:=by
 show allO f=none
 rw [allO_ne (fun e=>h (by rw [e];simp)) (fun e=>h (by rw [e];simp))]
 refine libO_none ?_
 rw [List.lookup_eq_none_iff]
 intro p hp
 by_cases e:f=p.1
 ·exact absurd (List.mem_cons_of_mem _ (List.mem_cons_of_mem _ (List.mem_map.2 ⟨p,hp,e.symm⟩))) h
 ·simpa using e
theorem comp_at:allO 55=inO (globList Tryz.prog 8 laidL) (globMem Tryz.prog 8 laidL) 55 3 compF allO1 55:=rfl
theorem sort_at:allO 54=inO (globList Tryz.prog 8 laidL) (globMem Tryz.prog 8 laidL) 54 3 sortF allO0 54:=by
 show inO _ _ _ _ _ _ _=_
 rw [inO_ne (by decide)]
theorem itoa_fun (n:Int) (h:-9223372036854775808≤n∧n≤9223372036854775807):VFun env 141 [.int .i64 n] (st (Lib.itoa n)) :=
 lib_funX (allO_ne (by decide) (by decide)) rfl fun m F xs h1=>by
  cases h1 with
  |cons h1 t =>
   cases t;cases h1
   exact ⟨_,by simp only [itoaF];rw [if_pos h],.str _⟩
theorem compare_fun (a b:List UInt8):VFun env 145 [.str (bs a),.str (bs b)] (.p (.int .i64 (Lib.compareBytes a b))) :=
 lib_funX (allO_ne (by decide) (by decide)) rfl fun m F xs h1=>by
  cases h1 with
  |cons h1 t =>
   cases t with
   |cons h2 t =>
    cases t;cases h1;cases h2
    exact ⟨.int .i64 (Lib.compareBytes a b),by simp only [compareF,bs_data],.int _ _⟩
theorem text_fun (l:List Nat) (hl:Num.Lim l) (hn:l.length<1000000000):VFun env 138 [.lst 68 (cells l) l.length] (st (Num.textL l)) :=
 lib_funX (allO_ne (by decide) (by decide)) rfl fun m F xs h1=>textF_run hl hn h1
end Go.Proofs.YtnhdddmhkhdlhaaGreatDoor
