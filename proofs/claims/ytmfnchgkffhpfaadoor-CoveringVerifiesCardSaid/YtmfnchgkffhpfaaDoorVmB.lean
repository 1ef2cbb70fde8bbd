/-
  The values' layer: lists of data as cells. No condition. Nothing of one program stands here.
-/
import Derived.Test.YtmfnchgkffhpfaaDoorVmA
set_option linter.unusedSimpArgs false
set_option linter.unusedVariables false
set_option linter.unusedSectionVars false
namespace Go.Vm
open Go.Am
variable {E:Env} {L:Frame} {H:Heap} {nx:Nat} {Q:PV→Heap→Nat→Prop} {w:Bool}
variable {dst:Option Tmp} {ty:TypeId} {pos:String} {af:Array Edge} {gd:Option (Nat×Bool)}
def gi {α:Type} [Inhabited α] (l:List α) (k:Nat):α:=(l[k]?).getD default
def encs {α:Type} (enc:α→List FV):List α→List FV
 |[]=>[]
 |a::l=>enc a++encs enc l
class Enc (α:Type) extends Inhabited α where
 enc:α→List FV
 size:Nat
 len:∀ a,(enc a).length=size
section
variable {α:Type} [Enc α]
abbrev cells (l:List α):List FV:=encs Enc.enc l
theorem cells_length (l:List α):(cells l).length=l.length*Enc.size α:=by
 induction l with
 |nil=>simp [cells,encs]
 |cons a l ih=>simp only [cells,encs,List.length_append,Enc.len,List.length_cons,Nat.succ_mul] at ih ⊢;omega
theorem gi_cons_zero (a:α) (l:List α):gi (a::l) 0=a:=rfl
theorem gi_cons_succ (a:α) (l:List α) (k:Nat):gi (a::l) (k+1)=gi l k:=rfl
theorem cells_drop:∀ (l:List α) (k:Nat),k<l.length→(cells l).drop (k*Enc.size α)=Enc.enc (gi l k)++cells (l.drop (k+1))
 |a::l,0,_=>by simp [cells,encs,gi]
 |a::l,k+1,h=>by
  have ih:=cells_drop l k (by simpa using h)
  simp only [cells,encs,List.drop_succ_cons,gi_cons_succ] at ih ⊢
  rw [← ih,List.drop_append,Enc.len,List.drop_eq_nil_of_le (by rw [Enc.len,Nat.succ_mul];omega)]
  simp [Nat.succ_mul]
 |[],_,h=>by simp at h
theorem cells_append:∀ (l r:List α),cells (l++r)=cells l++cells r
 |[],_=>rfl
 |a::l,r=>by simp only [cells,encs,List.cons_append,List.append_assoc];rw [← cells_append l r]
end
instance:Enc Int:={ default:=0,enc:=fun n=>[.int .i64 n],size:=1,len:=fun _=>rfl }
theorem VVal.indexE {α:Type} {_:Enc α} {t:TypeId} {x ix:Operand} {e:TypeId} {l:List α} {n:Nat} {k:IntKind} {i:Int} (hx:vev E.Γ L x=some (.p (.lst e (cells l) n))) (hi:vev E.Γ L ix=some (.p (.int k i)))
 (hs:elemSize E.P t=some (Enc.size α)) (h0:0≤i) (h1:i<l.length) (hn:l.length=n) (q:Q (.p (.cptr (Enc.enc (gi l i.toNat)++cells (l.drop (i.toNat+1))))) H nx):VVal E w ⟨dst,.indexAddr t x ix,ty,pos,af,gd⟩ L H nx Q :=
 VVal.indexF hx hi hs h0 (by rw [← hn];exact h1) (by rw [cells_drop l i.toNat (by omega)];exact q)
theorem VVal.indexN {α:Type} {_:Enc α} {t:TypeId} {x ix:Operand} {e:TypeId} {l:List α} {n:Nat} {k:IntKind} {i:Nat} (hx:vev E.Γ L x=some (.p (.lst e (cells l) n))) (hi:vev E.Γ L ix=some (.p (.int k (i:Int))))
 (hs:elemSize E.P t=some (Enc.size α)) (h1:i<l.length) (hn:l.length=n) (q:Q (.p (.cptr (Enc.enc (gi l i)++cells (l.drop (i+1))))) H nx):VVal E w ⟨dst,.indexAddr t x ix,ty,pos,af,gd⟩ L H nx Q :=
 VVal.indexE hx hi hs (by omega) (by omega) hn q
theorem VVal.indexP {α:Type} {_:Enc α} {t:TypeId} {x ix:Operand} {e:TypeId} {l:List α} {n:Nat} {k:IntKind} {i:Nat} (hx:vev E.Γ L x=some (.p (.lst e (cells l) n))) (hi:vev E.Γ L ix=some (.p (.int k ((i:Int)-1))))
 (hs:elemSize E.P t=some (Enc.size α)) (h0:0<i) (h1:i-1<l.length) (hn:l.length=n) (q:Q (.p (.cptr (Enc.enc (gi l (i-1))++cells (l.drop (i-1+1))))) H nx):VVal E w ⟨dst,.indexAddr t x ix,ty,pos,af,gd⟩ L H nx Q :=
 VVal.indexE hx hi hs (by omega) (by omega) hn (by rw [show ((i:Int)-1).toNat=i-1 by omega];exact q)
abbrev lst {α:Type} [Enc α] (e:TypeId) (l:List α):PV:=.p (.lst e (cells l) l.length)
section
variable {bn:Nat} {ops:Array Oper} {op:Op} {l:List Oper} {i:Nat} {R:Frame→Heap→Nat→Prop}
theorem VOps.one (h:VVal E true ⟨dst,op,ty,pos,af,none⟩ L H nx fun r H' nx'=>VOps E bn ops l (lput L dst r) H' nx' R):VOps E bn ops (⟨dst,op,ty,pos,af,none⟩::l) L H nx R:=VOps.cons rfl h
theorem VOpsD.one {w:Bool} (hw:barrier E.P ops i=w) (h:VVal E w ⟨dst,op,ty,pos,af,none⟩ L H nx fun r H' nx'=>VOpsD E bn ops (i+1) l (lput L dst r) H' nx' R):VOpsD E bn ops i (⟨dst,op,ty,pos,af,none⟩::l) L H nx R:=VOpsD.cons rfl hw h
theorem VOps.take {j d:Nat} {want:Bool} (hd:(ops[j]?).bind (·.dst)=some d) (hb:lget L d=some (.p (.bool want))) (h:VVal E true ⟨dst,op,ty,pos,af,some (j,want)⟩ L H nx fun r H' nx'=>VOps E bn ops l (lput L dst r) H' nx' R) :
 VOps E bn ops (⟨dst,op,ty,pos,af,some (j,want)⟩::l) L H nx R:=VOps.cons ⟨want,d,hd,hb,by cases want<;>rfl⟩ h
theorem VOps.drop {j d:Nat} {want b:Bool} (hd:(ops[j]?).bind (·.dst)=some d) (hb:lget L d=some (.p (.bool b))) (hne:(b==want)=false) (h:VOps E bn ops l (lput L dst (.tup [])) H nx R) :
 VOps E bn ops (⟨dst,op,ty,pos,af,some (j,want)⟩::l) L H nx R:=VOps.skip ⟨b,d,hd,hb,hne.symm⟩ h
theorem VOpsD.take {w:Bool} {j d:Nat} {want:Bool} (hd:(ops[j]?).bind (·.dst)=some d) (hb:lget L d=some (.p (.bool want))) (hw:barrier E.P ops i=w) (h:VVal E w ⟨dst,op,ty,pos,af,some (j,want)⟩ L H nx fun r H' nx'=>VOpsD E bn ops (i+1) l (lput L dst r) H' nx' R) :
 VOpsD E bn ops i (⟨dst,op,ty,pos,af,some (j,want)⟩::l) L H nx R:=VOpsD.cons ⟨want,d,hd,hb,by cases want<;>rfl⟩ hw h
theorem VOpsD.drop {j d:Nat} {want b:Bool} (hd:(ops[j]?).bind (·.dst)=some d) (hb:lget L d=some (.p (.bool b))) (hne:(b==want)=false) (h:VOpsD E bn ops (i+1) l (lput L dst (.tup [])) H nx R) :
 VOpsD E bn ops i (⟨dst,op,ty,pos,af,some (j,want)⟩::l) L H nx R:=VOpsD.skip ⟨b,d,hd,hb,hne.symm⟩ h
theorem VOps.guard {j d:Nat} {want:Bool} {p:Prop} {_:Decidable p} (hd:(ops[j]?).bind (·.dst)=some d) (hb:lget L d=some (.p (.bool (decide p))))
 (ht:p→VOps E bn ops (⟨dst,op,ty,pos,af,some (j,want)⟩::l) ((d,.p (.bool true))::L) H nx R) (hf:¬ p→VOps E bn ops (⟨dst,op,ty,pos,af,some (j,want)⟩::l) ((d,.p (.bool false))::L) H nx R) :
 VOps E bn ops (⟨dst,op,ty,pos,af,some (j,want)⟩::l) L H nx R:=VOps.split rfl hd hb ht hf
theorem VOpsD.guard {j d:Nat} {want:Bool} {p:Prop} {_:Decidable p} (hd:(ops[j]?).bind (·.dst)=some d) (hb:lget L d=some (.p (.bool (decide p))))
 (ht:p→VOpsD E bn ops i (⟨dst,op,ty,pos,af,some (j,want)⟩::l) ((d,.p (.bool true))::L) H nx R) (hf:¬ p→VOpsD E bn ops i (⟨dst,op,ty,pos,af,some (j,want)⟩::l) ((d,.p (.bool false))::L) H nx R) :
 VOpsD E bn ops i (⟨dst,op,ty,pos,af,some (j,want)⟩::l) L H nx R:=VOpsD.split rfl hd hb ht hf
def QSeq (E:Env) (bn:Nat) (k:Code) (Q:AExit→Frame→Heap→Nat→Prop) (e:AExit) (L:Frame) (H:Heap) (nx:Nat):Prop :=
 match e with
 | .normal=>VWp E bn k L H nx Q
 | .ret=>Q .ret L H nx
 | .exit i=>Q (.exit i) L H nx
def QBlk (id:Nat) (Q:AExit→Frame→Heap→Nat→Prop) (e:AExit) (L:Frame) (H:Heap) (nx:Nat):Prop :=
 match e with
 | .normal=>Q .normal L H nx
 | .ret=>Q .ret L H nx
 | .exit i=>if i=id then Q .normal L H nx else Q (.exit i) L H nx
def QLoop (I:Frame→Heap→Nat→Prop) (Q:AExit→Frame→Heap→Nat→Prop) (e:AExit) (L:Frame) (H:Heap) (nx:Nat):Prop :=
 match e with
 | .normal=>I L H nx
 | .ret=>Q .ret L H nx
 | .exit i=>Q (.exit i) L H nx
variable {Q:AExit→Frame→Heap→Nat→Prop} {I:Frame→Heap→Nat→Prop} {a b c k:Code} {id:Nat} {x:Operand}
theorem QSeq.normal (h:VWp E bn k L H nx Q):QSeq E bn k Q .normal L H nx:=h
theorem QSeq.ret (h:Q .ret L H nx):QSeq E bn k Q .ret L H nx:=h
theorem QSeq.exit (h:Q (.exit i) L H nx):QSeq E bn k Q (.exit i) L H nx:=h
theorem QBlk.normal (h:Q .normal L H nx):QBlk id Q .normal L H nx:=h
theorem QBlk.ret (h:Q .ret L H nx):QBlk id Q .ret L H nx:=h
theorem QBlk.exit (h:Q .normal L H nx):QBlk id Q (.exit id) L H nx:=by simp only [QBlk,if_true];exact h
theorem QBlk.out (hi:i≠id) (h:Q (.exit i) L H nx):QBlk id Q (.exit i) L H nx:=by simp only [QBlk,if_neg hi];exact h
theorem QLoop.normal (h:I L H nx):QLoop I Q .normal L H nx:=h
theorem QLoop.ret (h:Q .ret L H nx):QLoop I Q .ret L H nx:=h
theorem QLoop.exit (h:Q (.exit i) L H nx):QLoop I Q (.exit i) L H nx:=h
theorem VWp.to (h:VWp E bn a L H nx (QSeq E bn k Q)):VWp E bn (.seq a k) L H nx Q :=
 VWp.seq (h.mono fun e _ _ _ q=>by cases e<;>exact q)
theorem VWp.rseq (h:VOps E bn ops ops.toList L H nx fun L' H' nx'=>VWp E bn k L' H' nx' Q):VWp E bn (.seq (.region id ops false) k) L H nx Q:=VWp.seq (VWp.region h)
theorem VWp.rseqD (h:VOpsD E bn ops 0 ops.toList L H nx fun L' H' nx'=>VWp E bn k L' H' nx' Q):VWp E bn (.seq (.region id ops true) k) L H nx Q:=VWp.seq (VWp.regionD h)
theorem VWp.assoc (h:VWp E bn (.seq a (.seq b c)) L H nx Q):VWp E bn (.seq (.seq a b) c) L H nx Q:=by
 intro B hB m F σ t h1 h2 h3
 obtain ⟨e,s,⟨K,hk⟩,q⟩:=h B hB m F σ t h1 h2 h3
 refine ⟨e,s,⟨K,fun N D hN hD=>?_⟩,q⟩
 have:=hk N D hN hD
 simp only [aexec] at this ⊢
 cases ha:aexec E.P (acall E.P E.O E.G N D) N a ⟨t,m⟩ with
 |none=>rw [ha] at this;cases this
 |some r =>
  rw [ha] at this
  obtain ⟨e1,s1⟩:=r
  cases e1<;>simpa using this
theorem VWp.skipSeq (h:VWp E bn k L H nx Q):VWp E bn (.seq .skip k) L H nx Q:=VWp.seq (VWp.skip h)
theorem VWp.labelSeq {n:Nat} (h:VWp E bn k L H nx Q):VWp E bn (.seq (.label n) k) L H nx Q:=VWp.seq (VWp.label h)
theorem VWp.retSeq (h:Q .ret L H nx):VWp E bn (.seq .ret k) L H nx Q:=VWp.seq (VWp.ret h)
theorem VWp.exitSeq (h:Q (.exit i) L H nx):VWp E bn (.seq (.exit i) k) L H nx Q:=VWp.seq (VWp.exit h)
theorem VWp.blockSeq (h:VWp E bn a L H nx (QBlk id (QSeq E bn k Q))):VWp E bn (.seq (.block id a) k) L H nx Q :=
 VWp.to (VWp.block (h.mono fun e _ _ _ q=>by cases e<;>exact q))
theorem VWp.blockQ (h:VWp E bn a L H nx (QBlk id Q)):VWp E bn (.block id a) L H nx Q :=
 VWp.block (h.mono fun e _ _ _ q=>by cases e<;>exact q)
theorem VWp.condSeq (t:Bool) (hc:vev E.Γ L x=some (.p (.bool t))) (ht:t=true→VWp E bn (.seq a k) L H nx Q) (hf:t=false→VWp E bn (.seq b k) L H nx Q):VWp E bn (.seq (.cond x a b) k) L H nx Q:=by
 intro B hB m F σ u h1 h2 h3
 have hx:=vev_bool h1 h2 hc
 cases t with
 |true =>
  obtain ⟨e',s,⟨K,hk⟩,q⟩:=ht rfl B hB m F σ u h1 h2 h3
  exact ⟨e',s,⟨K,fun N D hN hD=>by have:=hk N D hN hD;simp only [aexec,hx] at this ⊢;exact this⟩,q⟩
 |false =>
  obtain ⟨e',s,⟨K,hk⟩,q⟩:=hf rfl B hB m F σ u h1 h2 h3
  exact ⟨e',s,⟨K,fun N D hN hD=>by have:=hk N D hN hD;simp only [aexec,hx] at this ⊢;exact this⟩,q⟩
theorem VWp.condSeq_true (hc:vev E.Γ L x=some (.p (.bool true))) (ht:VWp E bn (.seq a k) L H nx Q):VWp E bn (.seq (.cond x a b) k) L H nx Q:=VWp.condSeq true hc (fun _=>ht) (fun h=>by cases h)
theorem VWp.condSeq_false (hc:vev E.Γ L x=some (.p (.bool false))) (hf:VWp E bn (.seq b k) L H nx Q):VWp E bn (.seq (.cond x a b) k) L H nx Q:=VWp.condSeq false hc (fun h=>by cases h) (fun _=>hf)
theorem VWp.condSeq_dec {p:Prop} {_:Decidable p} (hc:vev E.Γ L x=some (.p (.bool (decide p)))) (ht:p→VWp E bn (.seq a k) L H nx Q) (hf:¬ p→VWp E bn (.seq b k) L H nx Q):VWp E bn (.seq (.cond x a b) k) L H nx Q :=
 VWp.condSeq (decide p) hc (fun h=>ht (of_decide_eq_true h)) (fun h=>hf (of_decide_eq_false h))
theorem VWp.loopQ {α:Type} (Lf:α→Frame) (Hf:α→Heap) (nx0:Nat) (inv:α→Prop) (μ:α→Nat) (a0:α) (hb:bn≤nx0) (h0:inv a0) (hc:Cov L H nx (Lf a0) (Hf a0) nx0)
 (hs:∀ s,inv s→VWp E bn a (Lf s) (Hf s) nx0 (QLoop (fun L' H' nx'=>∃ s',inv s'∧μ s'<μ s∧Cov L' H' nx' (Lf s') (Hf s') nx0) Q)):VWp E bn (.loop a) L H nx Q :=
 VWp.loop Lf Hf nx0 inv μ a0 hb h0 hc fun s hi=>(hs s hi).mono fun e _ _ _ q=>by cases e<;>exact q
theorem LCov.nil {k:Nat}:LCov k [] L:=trivial
theorem LCov.cons {k i:Nat} {v v0:PV} {L0:Frame} (hu:v0.under k) (hv:lget L i=some v) (hle:PLe v v0) (t:LCov k L0 L):LCov k ((i,v0)::L0) L:=⟨⟨hu,v,hv,hle⟩,t⟩
theorem LCov.same {k i:Nat} {v0:PV} {L0:Frame} (hu:v0.under k) (hv:lget L i=some v0) (t:LCov k L0 L):LCov k ((i,v0)::L0) L:=⟨⟨hu,v0,hv,.refl _⟩,t⟩
theorem HCov.nil {k:Nat}:HCov k [] H:=trivial
theorem HCov.cons {k i:Nat} {v v0:HB} {L0:Heap} (hi:i<k) (hu:v0.under k) (hv:hget H i=some v) (hle:HLe v v0) (t:HCov k L0 H):HCov k ((i,v0)::L0) H:=⟨⟨hi,hu,v,hv,hle⟩,t⟩
theorem Done.ret {P:Program} {rs:List ResultVar} {Q:PV→Heap→Nat→Prop} {r r0:PV} {H0:Heap} {nx0:Nat} (h:vresults P rs L H=some r0) (hle:PLe r0 r) (hu:r.under nx0) (hH:HCov nx0 H0 H) (hn:nx0≤nx) (hb:bn≤nx0) (q:Q r H0 nx0):Done P rs bn Q .ret L H nx :=
 ⟨r0,h,r,H0,nx0,hle,hu,hH,hn,hb,q⟩
theorem Done.normal {P:Program} {rs:List ResultVar} {Q:PV→Heap→Nat→Prop} {r r0:PV} {H0:Heap} {nx0:Nat} (h:vresults P rs L H=some r0) (hle:PLe r0 r) (hu:r.under nx0) (hH:HCov nx0 H0 H) (hn:nx0≤nx) (hb:bn≤nx0) (q:Q r H0 nx0):Done P rs bn Q .normal L H nx :=
 ⟨r0,h,r,H0,nx0,hle,hu,hH,hn,hb,q⟩
end
end Go.Vm
set_option linter.unusedSimpArgs false
set_option linter.unusedVariables false
namespace Go.Vm
open Go.Am
variable {E:Env} {L:Frame} {H:Heap} {nx:Nat} {Q:PV→Heap→Nat→Prop} {w:Bool}
variable {dst:Option Tmp} {ty:TypeId} {pos:String} {af:Array Edge} {gd:Option (Nat×Bool)}
mutual
def PV.rn (ρ:Nat→Nat):PV→PV
 | .p x=>.p x
 | .agg cs=>.agg (PVs.rn ρ cs)
 | .tup cs=>.tup (PVs.rn ρ cs)
 | .vec b tag off len=>.vec (ρ b) tag off len
 | .ref b off=>.ref (ρ b) off
 | .eref b tag off=>.eref (ρ b) tag off
 | .mref b=>.mref (ρ b)
 | .clo f fs cs=>.clo f (PVs.rn ρ fs) (PVs.rn ρ cs)
def PVs.rn (ρ:Nat→Nat):List PV→List PV
 |[]=>[]
 |c::cs=>PV.rn ρ c::PVs.rn ρ cs
end
def HB.rn (ρ:Nat→Nat):HB→HB
 | .box e cs=>.box e (PVs.rn ρ cs)
 | .vec e cs n z=>.vec e cs n z
 | .map es=>.map es
 | .vecp e cs n=>.vecp e (PVs.rn ρ cs) n
theorem HB.rn_tag (ρ:Nat→Nat) (x:HB):(x.rn ρ).tag=x.tag:=by cases x<;>rfl
section
variable {m:Mem} {F:Nat→Prop} {T T':Nat→Option Tg} {σ σ':Nat→Value} {n n':Nat} {ρ:Nat→Nat}
mutual
theorem RP.rn (h:∀ b,b<n→ρ b<n'∧T' (ρ b)=T b∧σ' (ρ b)=σ b):∀ {x:PV} {v:Value},RP m F T σ n x v→RP m F T' σ' n' (x.rn ρ) v
 |_,_,.p r=>.p r
 |_,_,.agg r hc=>.agg (RPs.rn h r) hc
 |_,_,.tup r=>.tup (RPs.rn h r)
 |_,_,.vec hb hc r=>.vec (h _ hb).1 hc (by rw [(h _ hb).2.1,(h _ hb).2.2];exact r)
 |_,_,.ref hb hc r=>.ref (h _ hb).1 hc (by rw [(h _ hb).2.1,(h _ hb).2.2];exact r)
 |_,_,.eref hb hc r=>.eref (h _ hb).1 hc (by rw [(h _ hb).2.1,(h _ hb).2.2];exact r)
 |_,_,.mref hb hc r=>.mref (h _ hb).1 hc (by rw [(h _ hb).2.1,(h _ hb).2.2];exact r)
 |_,_,.clo r1 r2=>.clo (RPs.rn h r1) (RPs.rn h r2)
theorem RPs.rn (h:∀ b,b<n→ρ b<n'∧T' (ρ b)=T b∧σ' (ρ b)=σ b):∀ {x:List PV} {v:List Value},RPs m F T σ n x v→RPs m F T' σ' n' (PVs.rn ρ x) v
 |_,_,.nil=>.nil
 |_,_,.cons r t=>.cons (RP.rn h r) (RPs.rn h t)
end
mutual
theorem RP.unrn (h:∀ b,b<n→(∀ t,T b=some t→T' (ρ b)=some t)∧σ' (ρ b)=σ b):∀ {x:PV} {v:Value},x.under n→RP m F T' σ' n' (x.rn ρ) v→RP m F T σ n x v
 | .p _,_,_,r=>by cases r with|p r=>exact .p r
 | .agg cs,_,hu,r=>by
  simp only [PV.rn] at r
  cases r with|agg r hc=>exact .agg (RPs.unrn h hu r) hc
 | .tup cs,_,hu,r=>by
  simp only [PV.rn] at r
  cases r with|tup r=>exact .tup (RPs.unrn h hu r)
 | .vec b tag off len,_,hu,r=>by
  simp only [PV.rn] at r
  cases r with
  |vec hb hc r =>
   refine .vec hu hc fun k hk=>?_
   have:=r k ((h b hu).1 _ hk)
   rw [(h b hu).2] at this
   exact this
 | .ref b off,_,hu,r=>by
  simp only [PV.rn] at r
  cases r with
  |ref hb hc r =>
   refine .ref hu hc fun hk=>?_
   have:=r ((h b hu).1 _ hk)
   rw [(h b hu).2] at this
   exact this
 | .eref b tag off,_,hu,r=>by
  simp only [PV.rn] at r
  cases r with
  |eref hb hc r =>
   refine .eref hu hc fun k hk=>?_
   have:=r k ((h b hu).1 _ hk)
   rw [(h b hu).2] at this
   exact this
 | .mref b,_,hu,r=>by
  simp only [PV.rn] at r
  cases r with
  |mref hb hc r =>
   refine .mref hu hc fun hk=>?_
   have:=r ((h b hu).1 _ hk)
   rw [(h b hu).2] at this
   exact this
 | .clo f fs cs,_,hu,r=>by
  simp only [PV.rn] at r
  cases r with|clo r1 r2=>exact .clo (RPs.unrn h hu.1 r1) (RPs.unrn h hu.2 r2)
theorem RPs.unrn (h:∀ b,b<n→(∀ t,T b=some t→T' (ρ b)=some t)∧σ' (ρ b)=σ b):∀ {x:List PV} {v:List Value},PVs.under n x→RPs m F T' σ' n' (PVs.rn ρ x) v→RPs m F T σ n x v
 |[],_,_,r=>by cases r;exact .nil
 |c::cs,_,hu,r=>by cases r with|cons r t=>exact .cons (RP.unrn h hu.1 r) (RPs.unrn h hu.2 t)
end
end
def idx:List Nat→Nat→Option Nat
 |[],_=>none
 |a::l,b=>match Nat.decEq a b with
  | .isTrue _=>some 0
  | .isFalse _=>(idx l b).map (·+1)
theorem idx_some:∀ {l:List Nat} {b i:Nat},idx l b=some i→l[i]?=some b
 |a::l,b,i,h=>by
  simp only [idx] at h
  split at h
  ·rename_i e _;cases h;subst e;rfl
  ·simp only [Option.map_eq_some_iff] at h
   obtain ⟨j,h1,rfl⟩:=h
   simpa using idx_some h1
theorem idx_none:∀ {l:List Nat} {b i:Nat},idx l b=none→l[i]?≠some b
 |[],_,_,_=>by simp
 |a::l,b,i,h=>by
  simp only [idx] at h
  split at h
  ·cases h
  ·rename_i e _
   simp only [Option.map_eq_none_iff] at h
   cases i with
   |zero=>simpa using e
   |succ i=>simpa using idx_none h
theorem idx_of:∀ {l:List Nat} {b i:Nat},l.Nodup→l[i]?=some b→idx l b=some i
 |[],_,_,_,h=>by simp at h
 |a::l,b,i,hn,h=>by
  simp only [List.nodup_cons] at hn
  cases i with
  |zero =>
   simp only [List.getElem?_cons_zero,Option.some.injEq] at h
   subst h
   simp only [idx]
   cases hd:Nat.decEq a a with
   |isTrue _=>rfl
   |isFalse e=>exact absurd rfl e
  |succ i =>
   simp only [List.getElem?_cons_succ] at h
   have hne:a≠b:=fun e=>hn.1 (e▸List.mem_of_getElem? h)
   simp only [idx]
   cases hd:Nat.decEq a b with
   |isTrue e=>exact absurd e hne
   |isFalse _=>simp only [idx_of hn.2 h,Option.map_some]
def rho (ns:List Nat) (nx:Nat) (i:Nat):Nat :=
 match ns[i]? with
 |some b=>b
 |none=>nx+(i-ns.length)
def merge (ns:List Nat) (ρ:Nat→Nat) (H':Heap):Heap→Heap
 |[]=>[]
 |(b,x)::H=>match idx ns b with
  |none=>(b,x)::merge ns ρ H' H
  |some i=>match hget H' i with
   |some y=>(b,y.rn ρ)::merge ns ρ H' H
   |none=>merge ns ρ H' H
def news (k:Nat) (ρ:Nat→Nat):Heap→Heap→Heap
 |[],H=>H
 |(i,x)::H',H=>match Nat.decLt i k with
  | .isTrue _=>news k ρ H' H
  | .isFalse _=>(ρ i,x.rn ρ)::news k ρ H' H
theorem hget_merge_none {ns:List Nat} {ρ:Nat→Nat} {H':Heap}:∀ {H:Heap} {b:Nat},idx ns b=none→hget (merge ns ρ H' H) b=hget H b
 |[],_,_=>rfl
 |(a,x)::H,b,h=>by
  have ih:=hget_merge_none (ns:=ns) (ρ:=ρ) (H':=H') (H:=H) h
  simp only [merge]
  cases hi:idx ns a with
  |none=>simp only [hget_cons,ih]
  |some i =>
   have hne:a≠b:=fun e=>by rw [e,h] at hi;cases hi
   simp only [hget_cons,if_neg hne]
   cases hget H' i with
   |none=>exact ih
   |some y=>simp only [hget_cons,if_neg hne];exact ih
theorem hget_merge_some {ns:List Nat} {ρ:Nat→Nat} {H':Heap}:∀ {H:Heap} {b i:Nat},idx ns b=some i→hget (merge ns ρ H' H) b=if (hget H b).isSome then (hget H' i).map (HB.rn ρ) else none
 |[],_,_,_=>by simp [merge,hget]
 |(a,x)::H,b,i,h=>by
  have ih:=hget_merge_some (ns:=ns) (ρ:=ρ) (H':=H') (H:=H) h
  simp only [merge]
  by_cases e:a=b
  ·subst e
   rw [h]
   simp only [hget_cons,if_true,Option.isSome_some]
   cases hi:hget H' i with
   |none =>
    simp only [Option.map_none]
    rw [ih]
    split
    ·rw [hi];rfl
    ·rfl
   |some y=>simp only [hget_cons,if_true,Option.map_some]
  ·simp only [hget_cons,if_neg e]
   cases hj:idx ns a with
   |none=>simp only [hget_cons,if_neg e];exact ih
   |some j =>
    simp only
    cases hget H' j with
    |none=>exact ih
    |some y=>simp only [hget_cons,if_neg e];exact ih
theorem hget_news {k:Nat} {ρ:Nat→Nat} {H:Heap}:∀ {H':Heap} {b:Nat},(∀ i j,ρ i=ρ j→k≤i→k≤j→i=j) →
 (∃ i,k≤i∧ρ i=b∧(hget H' i).isSome∧hget (news k ρ H' H) b=(hget H' i).map (HB.rn ρ))∨((∀ i,k≤i→ρ i=b→hget H' i=none)∧hget (news k ρ H' H) b=hget H b)
 |[],b,_=>.inr ⟨fun _ _ _=>rfl,rfl⟩
 |(i,x)::H',b,hinj=>by
  have ih:=hget_news (k:=k) (ρ:=ρ) (H:=H) (H':=H') (b:=b) hinj
  simp only [news]
  cases hd:Nat.decLt i k with
  |isTrue hlt =>
   simp only
   rcases ih with ⟨j,h1,h2,h3,h4⟩|⟨h1,h2⟩
   ·refine .inl ⟨j,h1,h2,?_⟩
    rw [hget_cons,if_neg (by omega)]
    exact ⟨h3,h4⟩
   ·refine .inr ⟨fun j hj hb=>?_,h2⟩
    rw [hget_cons,if_neg (by omega)]
    exact h1 j hj hb
  |isFalse hge =>
   simp only [hget_cons]
   by_cases e:ρ i=b
   ·refine .inl ⟨i,by omega,e,?_⟩
    rw [if_pos rfl,if_pos e]
    exact ⟨rfl,rfl⟩
   ·rw [if_neg e]
    rcases ih with ⟨j,h1,h2,h3,h4⟩|⟨h1,h2⟩
    ·refine .inl ⟨j,h1,h2,?_⟩
     rw [if_neg (fun e':i=j=>e (by rw [e'];exact h2))]
     exact ⟨h3,h4⟩
    ·refine .inr ⟨fun j hj hb=>?_,h2⟩
     rw [if_neg (fun e':i=j=>e (by rw [e'];exact hb))]
     exact h1 j hj hb
def HIn (ρ:Nat→Nat) (H:Heap):Heap→Prop
 |[]=>True
 |(i,x)::Hc=>(∃ y,hget H (ρ i)=some y∧HLe y (x.rn ρ))∧HIn ρ H Hc
theorem HIn.get {ρ:Nat→Nat} {H:Heap}:∀ {Hc:Heap},HIn ρ H Hc→∀ i x,hget Hc i=some x→∃ y,hget H (ρ i)=some y∧HLe y (x.rn ρ)
 |[],_,_,_,h=>by cases h
 |(j,y)::Hc,⟨h1,h2⟩,i,x,h=>by
  rw [hget_cons] at h
  by_cases e:j=i
  ·rw [if_pos e] at h;cases h;subst e;exact h1
  ·rw [if_neg e] at h;exact HIn.get h2 i x h
def HUnder (k:Nat):Heap→Prop
 |[]=>True
 |(i,x)::H=>(i<k∧x.under k)∧HUnder k H
theorem HUnder.get {k:Nat}:∀ {H:Heap},HUnder k H→∀ i x,hget H i=some x→i<k∧x.under k
 |[],_,_,_,h=>by cases h
 |(j,y)::Hc,⟨h1,h2⟩,i,x,h=>by
  rw [hget_cons] at h
  by_cases e:j=i
  ·rw [if_pos e] at h;cases h;subst e;exact h1
  ·rw [if_neg e] at h;exact HUnder.get h2 i x h
theorem RB.le {m:Mem} {F:Nat→Prop} {T:Nat→Option Tg} {σ:Nat→Value} {n:Nat} {s:Value} {x y:HB} (h:HLe x y) (r:RB m F T σ n s x):RB m F T σ n s y:=by
 cases h with
 |refl=>exact r
 |box h=>obtain ⟨c,vs,r1,r2,r3,r4,r5,r6⟩:=r;exact ⟨c,vs,r1,r2,r3,r4,RPs.le h r5,r6⟩
 |vec h hn =>
  subst hn
  rcases r with ⟨r1,r2,r3⟩|⟨c,g,vs,r1,r2,r3,r4,r5,r6⟩
  ·subst r1
   cases h with|refl=>exact .inl ⟨rfl,r2,r3⟩
  ·exact .inr ⟨c,g,vs,r1,r2,r3,r4,RFs.le h r5,r6⟩
theorem RB.rn {m:Mem} {F:Nat→Prop} {T T':Nat→Option Tg} {σ σ':Nat→Value} {n n':Nat} {ρ:Nat→Nat} {s:Value} {x:HB} (h:∀ b,b<n→ρ b<n'∧T' (ρ b)=T b∧σ' (ρ b)=σ b) (r:RB m F T σ n s x):RB m F T' σ' n' s (x.rn ρ):=by
 cases x with
 |box e cs=>obtain ⟨c,vs,r1,r2,r3,r4,r5,r6⟩:=r;exact ⟨c,vs,r1,r2,r3,r4,RPs.rn h r5,r6⟩
 |vec e cs k z=>exact r
 |map es=>exact r
 |vecp e cs k=>obtain ⟨c,g,vs,r1,r2,r3,r4,r5,r6⟩:=r;exact ⟨c,g,vs,r1,r2,r3,r4,RPs.rn h r5,r6⟩
theorem RB.unrn {m:Mem} {F:Nat→Prop} {T T':Nat→Option Tg} {σ σ':Nat→Value} {n n':Nat} {ρ:Nat→Nat} {s:Value} {x:HB} (h:∀ b,b<n→(∀ t,T b=some t→T' (ρ b)=some t)∧σ' (ρ b)=σ b) (hu:x.under n) (r:RB m F T' σ' n' s (x.rn ρ)):RB m F T σ n s x:=by
 cases x with
 |box e cs=>obtain ⟨c,vs,r1,r2,r3,r4,r5,r6⟩:=r;exact ⟨c,vs,r1,r2,r3,r4,RPs.unrn h hu r5,r6⟩
 |vec e cs k z=>exact r
 |map es=>exact r
 |vecp e cs k=>obtain ⟨c,g,vs,r1,r2,r3,r4,r5,r6⟩:=r;exact ⟨c,g,vs,r1,r2,r3,r4,RPs.unrn h hu r5,r6⟩
end Go.Vm
set_option linter.unusedSimpArgs false
set_option linter.unusedVariables false
namespace Go.Vm
open Go.Am
variable {E:Env} {L:Frame} {H:Heap} {nx:Nat} {Q:PV→Heap→Nat→Prop} {w:Bool}
variable {dst:Option Tmp} {ty:TypeId} {pos:String} {af:Array Edge} {gd:Option (Nat×Bool)}
def evs (Γ:Nat→Option (List Value×TypeId)) (L:Frame):List Operand→Option (List PV)
 |[]=>some []
 |o::l=>match vev Γ L o with
  |some x=>match evs Γ L l with
   |some r=>some (x::r)
   |none=>none
  |none=>none
theorem evs_rel {Γ:Nat→Option (List Value×TypeId)} {m:Mem} {F:Nat→Prop} {σ:Nat→Value} {t:Tr Value} (hx:Ctx Γ m F σ H nx) (hl:RL m F (htag H) σ nx L t):∀ {os:List Operand} {xs:List PV},evs Γ L os=some xs→RPs m F (htag H) σ nx xs (os.map (ev t))
 |[],_,h=>by cases h;exact .nil
 |o::os,xs,h=>by
  simp only [evs] at h
  cases h1:vev Γ L o with
  |none=>rw [h1] at h;cases h
  |some x =>
   rw [h1] at h
   cases h2:evs Γ L os with
   |none=>rw [h2] at h;cases h
   |some r=>rw [h2] at h;cases h;exact .cons (vev_rel hx hl h1) (evs_rel hx hl h2)
theorem RPs.append {m:Mem} {F:Nat→Prop} {T:Nat→Option Tg} {σ:Nat→Value} {n:Nat}:∀ {cs ds:List PV} {vs ws:List Value},RPs m F T σ n cs vs→RPs m F T σ n ds ws→RPs m F T σ n (cs++ds) (vs++ws)
 |_,_,_,_,.nil,h=>h
 |_,_,_,_,.cons h t,h'=>.cons h (RPs.append t h')
theorem rho_lt {ns:List Nat} {i b:Nat} (h:ns[i]?=some b):rho ns nx i=b:=by simp only [rho,h]
theorem rho_ge {ns:List Nat} {i:Nat} (h:ns.length≤i):rho ns nx i=nx+(i-ns.length):=by simp only [rho,List.getElem?_eq_none h]
theorem VVal.callG {fo:Operand} {args:Array Operand} {aT:Array TypeId} {g:FuncId} {fs cs as ac:List PV} {ns:List Nat} {Hc:Heap} {Qc:PV→Heap→Nat→Prop} (hf:vev E.Γ L fo=some (.clo g fs cs)) (ha:evs E.Γ L args.toList=some as)
 (hle:PLes (fs++as++cs) (PVs.rn (rho ns nx) ac)) (hu:PVs.under ns.length ac) (hHu:HUnder ns.length Hc) (hin:HIn (rho ns nx) H Hc) (hnd:ns.Nodup) (hlt:∀ b∈ns,b<nx) (hw:w=false→Hc=[]) (hc:VCalls E g ac Hc ns.length Qc)
 (hq:∀ r H' nx',Qc r H' nx'→Q (r.rn (rho ns nx)) (news ns.length (rho ns nx) H' (merge ns (rho ns nx) H' H)) (nx+(nx'-ns.length))) :
 VVal E w ⟨dst,.call { callee:=.value fo,args:=args,argTypes:=aT },ty,pos,af,gd⟩ L H nx Q:=by
 intro m F σ t h1 h2
 generalize hρ:rho ns nx=ρ at *
 generalize hk:ns.length=k at *
 have hget_of_lt:∀ i,i<k→∃ b,ns[i]?=some b∧ρ i=b∧b<nx:=fun i hi=>by
  have:i<ns.length:=by omega
  refine ⟨ns[i],List.getElem?_eq_getElem this,?_,hlt _ (List.getElem_mem this)⟩
  rw [← hρ];exact rho_lt (List.getElem?_eq_getElem this)
 have hge:∀ i,k≤i→ρ i=nx+(i-k):=fun i hi=>by rw [← hρ,← hk];exact rho_ge (by omega)
 have hidx:∀ i,i<k→idx ns (ρ i)=some i:=fun i hi=>by
  obtain ⟨b,hb,e,_⟩:=hget_of_lt i hi
  rw [e];exact idx_of hnd hb
 have hidx':∀ b i,idx ns b=some i→i<k∧b=ρ i:=fun b i hi=>by
  have h0:=idx_some hi
  have hlt':i<k:=by
   rcases Nat.lt_or_ge i ns.length with h|h
   ·omega
   ·rw [List.getElem?_eq_none h] at h0;cases h0
  obtain ⟨b',hb',e,_⟩:=hget_of_lt i hlt'
  rw [h0] at hb';cases hb'
  exact ⟨hlt',e.symm⟩
 have hTc:∀ b t,htag Hc b=some t→htag H (ρ b)=some t:=fun b t hb=>by
  unfold htag at hb ⊢
  cases h0:hget Hc b with
  |none=>rw [h0] at hb;cases hb
  |some x =>
   rw [h0] at hb
   obtain ⟨y,hy,hle⟩:=hin.get b x h0
   rw [hy,Option.map_some,hle.tag,HB.rn_tag]
   exact hb
 have hun:∀ b,b<k→(∀ t,htag Hc b=some t→htag H (ρ b)=some t)∧σ (ρ b)=(fun i=>σ (ρ i)) b:=fun b _=>⟨hTc b,rfl⟩
 have hown:∀ c,own Hc (fun i=>σ (ρ i)) c→∃ i x y,i<k∧hget Hc i=some x∧hget H (ρ i)=some y∧blkOf (σ (ρ i))=some c:=by
  rintro c ⟨i,x,hi,hb⟩
  obtain ⟨y,hy,_⟩:=hin.get i x hi
  exact ⟨i,x,y,(hHu.get i x hi).1,hi,hy,hb⟩
 have hown':∀ c,own Hc (fun i=>σ (ρ i)) c→own H σ c:=fun c ho=>by
  obtain ⟨i,_,y,_,_,hy,hb⟩:=hown c ho
  exact ⟨ρ i,y,hy,hb⟩
 have hctx:Ctx E.Γ m F (fun i=>σ (ρ i)) Hc k:=by
  refine ⟨h1.fr,fun i x hi=>?_,fun i i' x x' c hi hi' hb hb'=>?_,h1.gl⟩
  ·obtain ⟨y,hy,hle⟩:=hin.get i x hi
   obtain ⟨hik,hux⟩:=hHu.get i x hi
   exact ⟨hik,RB.unrn hun hux (RB.le hle (h1.hp _ y hy).2)⟩
  ·obtain ⟨y,hy,_⟩:=hin.get i x hi
   obtain ⟨y',hy',_⟩:=hin.get i' x' hi'
   have e:=h1.sep _ _ y y' c hy hy' hb hb'
   have e1:=hidx i (hHu.get i x hi).1
   have e2:=hidx i' (hHu.get i' x' hi').1
   rw [e,e2] at e1
   cases e1;rfl
 have hfv:=vev_rel h1 h2 hf
 generalize hfe:ev t fo=fv at hfv
 cases hfv with
 |clo r1 r2 =>
  rename_i vf vc
  have hargs:RPs m F (htag Hc) (fun i=>σ (ρ i)) k ac (vf++args.toList.map (ev t)++vc):=RPs.unrn hun hu (RPs.le hle ((r1.append (evs_rel h1 h2 ha)).append r2))
  refine AVal.call (f:=g) (as:=vf++args.toList.map (ev t)++vc) (fun call=>by simp only [aval,hfe]) ((hc m F _ _ hctx hargs).mono ?_)
  rintro v m' ⟨r,H',nx',F',σ',q,c1,c2,c3⟩
  have hkn:k≤nx':=c3.nxle
  have hHsome:∀ i,i<k→hget H (ρ i)=none→hget H' i=none:=fun i hi hn=>by
   have h0:=(c3.names i hi).1
   cases hh:hget H' i with
   |none=>rfl
   |some y =>
    have hty:htag H' i=some y.tag:=by simp [htag,hh]
    rw [hty] at h0
    cases hc':htag Hc i with
    |none=>rw [hc'] at h0;exact h0.elim
    |some t =>
     have:=hTc i t hc'
     simp [htag,hn] at this
  have hinj:∀ i j,ρ i=ρ j→k≤i→k≤j→i=j:=fun i j e hi hj=>by
   rw [hge i hi,hge j hj] at e;omega
  let σn:Nat→Value:=fun b=>if b<nx then (match idx ns b with|some i=>σ' i|none=>σ b) else σ' (b-nx+k)
  have hAget:∀ j,j<nx'→hget (news k ρ H' (merge ns ρ H' H)) (ρ j)=(hget H' j).map (HB.rn ρ):=fun j hj=>by
   rcases Nat.lt_or_ge j k with hjk|hjk
   ·obtain ⟨b,hb,e,hbn⟩:=hget_of_lt j hjk
    rcases hget_news (k:=k) (ρ:=ρ) (H:=merge ns ρ H' H) (H':=H') (b:=ρ j) hinj with ⟨i,hi,e',_⟩|⟨_,e'⟩
    ·rw [hge i hi,e] at e';omega
    ·rw [e',hget_merge_some (hidx j hjk)]
     cases hH:hget H (ρ j) with
     |none=>rw [hHsome j hjk hH];rfl
     |some y=>rfl
   ·rcases hget_news (k:=k) (ρ:=ρ) (H:=merge ns ρ H' H) (H':=H') (b:=ρ j) hinj with ⟨i,hi,e',_,e''⟩|⟨e',e''⟩
    ·rw [hinj i j e' hi hjk] at e'';exact e''
    ·have hno:idx ns (ρ j)=none:=by
      cases hi:idx ns (ρ j) with
      |none=>rfl
      |some i =>
       obtain ⟨hik,e3⟩:=hidx' _ i hi
       obtain ⟨b,_,e4,hbn⟩:=hget_of_lt i hik
       rw [hge j hjk] at e3
       omega
     rw [e'',hget_merge_none hno,h1.tagNone (by rw [hge j hjk];omega),e' j hjk rfl]
     rfl
  have hA:∀ j,j<nx'→ρ j<nx+(nx'-k)∧htag (news k ρ H' (merge ns ρ H' H)) (ρ j)=htag H' j∧σn (ρ j)=σ' j:=fun j hj=>by
   refine ⟨?_,?_,?_⟩
   ·rcases Nat.lt_or_ge j k with hjk|hjk
    ·obtain ⟨b,_,e,hbn⟩:=hget_of_lt j hjk;omega
    ·rw [hge j hjk];omega
   ·unfold htag
    rw [hAget j hj]
    cases hget H' j with
    |none=>rfl
    |some y=>simp [HB.rn_tag]
   ·show (if ρ j<nx then _ else _)=_
    rcases Nat.lt_or_ge j k with hjk|hjk
    ·obtain ⟨b,_,e,hbn⟩:=hget_of_lt j hjk
     rw [if_pos (by omega),hidx j hjk]
    ·rw [hge j hjk,if_neg (by omega)]
     congr 1;omega
  have hB:∀ b,b<nx→idx ns b=none→hget (news k ρ H' (merge ns ρ H' H)) b=hget H b∧σn b=σ b:=fun b hb hi=>by
   refine ⟨?_,?_⟩
   ·rcases hget_news (k:=k) (ρ:=ρ) (H:=merge ns ρ H' H) (H':=H') (b:=b) hinj with ⟨i,hi',e',_⟩|⟨_,e'⟩
    ·rw [hge i hi'] at e';omega
    ·rw [e',hget_merge_none hi]
   ·show (if b<nx then _ else _)=_
    rw [if_pos hb,hi]
  have hC:∀ b x,hget (news k ρ H' (merge ns ρ H' H)) b=some x→(∃ j y,j<nx'∧b=ρ j∧hget H' j=some y∧x=y.rn ρ)∨(b<nx∧idx ns b=none∧hget H b=some x):=fun b x hx=>by
   rcases Nat.lt_or_ge b nx with hb|hb
   ·cases hi:idx ns b with
    |none=>exact .inr ⟨hb,rfl,by rw [← (hB b hb hi).1];exact hx⟩
    |some i =>
     obtain ⟨hik,e⟩:=hidx' b i hi
     rw [e,hAget i (by omega)] at hx
     simp only [Option.map_eq_some_iff] at hx
     obtain ⟨y,hy,e'⟩:=hx
     exact .inl ⟨i,y,by omega,e,hy,e'.symm⟩
   ·rcases hget_news (k:=k) (ρ:=ρ) (H:=merge ns ρ H' H) (H':=H') (b:=b) hinj with ⟨i,hi,e',e1,e2⟩|⟨_,e'⟩
    ·rw [e2] at hx
     simp only [Option.map_eq_some_iff] at hx
     obtain ⟨y,hy,e'⟩:=hx
     exact .inl ⟨i,y,(c1.hp i y hy).1,by rw [← ‹ρ i=b›],hy,e'.symm⟩
    ·have hno:idx ns b=none:=by
      cases hi:idx ns b with
      |none=>rfl
      |some i =>
       obtain ⟨hik,e3⟩:=hidx' _ i hi
       obtain ⟨b',_,e4,hbn⟩:=hget_of_lt i hik
       omega
     rw [e',hget_merge_none hno,h1.tagNone hb] at hx
     cases hx
  have hD:Names nx (htag H) σ (htag (news k ρ H' (merge ns ρ H' H))) σn:=fun b hb=>by
   cases hi:idx ns b with
   |none =>
    obtain ⟨e1,e2⟩:=hB b hb hi
    rw [e2]
    unfold htag
    rw [e1]
    exact ⟨TLe.refl _,fun _ _ _=>rfl⟩
   |some i =>
    obtain ⟨hik,e⟩:=hidx' b i hi
    obtain ⟨_,a2,a3⟩:=hA i (by omega)
    rw [e,a2,a3]
    obtain ⟨n1,n2⟩:=c3.names i hik
    cases ht':htag H' i with
    |none=>exact ⟨trivial,fun _ _ e=>by cases e⟩
    |some t' =>
     rw [ht'] at n1 n2
     cases htc:htag Hc i with
     |none=>rw [htc] at n1;exact n1.elim
     |some tc =>
      rw [htc] at n1 n2
      rw [hTc i tc htc]
      exact ⟨n1,fun t e1 e2=>n2 t e1 e2⟩
  have hfz:=c3.frozen hctx
  have hblk:∀ b x c,idx ns b=none→hget H b=some x→blkOf (σ b)=some c→¬ own Hc (fun i=>σ (ρ i)) c:=fun b x c hi hb hc ho=>by
   obtain ⟨i,_,y,hik,_,hy,hbc⟩:=hown c ho
   have e:=h1.sep b (ρ i) x y c hb hy hc hbc
   rw [e,hidx i hik] at hi
   cases hi
  refine ⟨_,_,_,F',σn,hq r H' nx' q,⟨c1.fr,?_,?_,c1.gl⟩,RP.rn hA c2,⟨c3.size,fun c hc ho=>c3.keep c hc fun o=>ho (hown' c o),c3.fmono,fun c hc hf=>?_,?_,Nat.le_add_right _ _,hD,fun j j1 j2 j3=>c3.low j j1 j2 fun c ho=>j3 c (hown' c ho)⟩,?_⟩
  ·intro b x hx
   rcases hC b x hx with ⟨j,y,hj,rfl,hy,rfl⟩|⟨hb,hi,hx'⟩
   ·obtain ⟨a1,a2,a3⟩:=hA j hj
    rw [a3]
    exact ⟨a1,RB.rn hA (c1.hp j y hy).2⟩
   ·rw [(hB b hb hi).2]
    refine ⟨by omega,(h1.hp b x hx').2.mono hfz hD (Nat.le_add_right _ _) c3.size fun c hc=>?_⟩
    have hno:=hblk b x c hi hx' hc
    obtain ⟨hnf,hcs⟩:=h1.notF ⟨b,x,hx',hc⟩
    exact ⟨c3.keep c hcs hno,fun hf=>(c3.fback c hcs hf).elim hnf hno⟩
  ·intro b b' x x' c hx hx' hbc hbc'
   rcases hC b x hx with ⟨j,y,hj,rfl,hy,rfl⟩|⟨hb,hi,hx1⟩<;>rcases hC b' x' hx' with ⟨j',y',hj',rfl,hy',rfl⟩|⟨hb',hi',hx1'⟩
   ·rw [(hA j hj).2.2] at hbc
    rw [(hA j' hj').2.2] at hbc'
    rw [c1.sep j j' y y' c hy hy' hbc hbc']
   ·rw [(hA j hj).2.2] at hbc
    rw [(hB b' hb' hi').2] at hbc'
    exact absurd (c3.oback c (h1.notF ⟨b',x',hx1',hbc'⟩).2 ⟨j,y,hy,hbc⟩) (hblk b' x' c hi' hx1' hbc')
   ·rw [(hA j' hj').2.2] at hbc'
    rw [(hB b hb hi).2] at hbc
    exact absurd (c3.oback c (h1.notF ⟨b,x,hx1,hbc⟩).2 ⟨j',y',hy',hbc'⟩) (hblk b x c hi hx1 hbc)
   ·rw [(hB b hb hi).2] at hbc
    rw [(hB b' hb' hi').2] at hbc'
    exact h1.sep b b' x x' c hx1 hx1' hbc hbc'
  ·rcases c3.fback c hc hf with h|h
   ·exact .inl h
   ·exact .inr (hown' c h)
  ·rintro c hc ⟨b,x,hx,hbc⟩
   rcases hC b x hx with ⟨j,y,hj,rfl,hy,rfl⟩|⟨hb,hi,hx1⟩
   ·rw [(hA j hj).2.2] at hbc
    exact hown' c (c3.oback c hc ⟨j,y,hy,hbc⟩)
   ·rw [(hB b hb hi).2] at hbc
    exact ⟨b,x,hx1,hbc⟩
  ·intro hwf j j1 j2
   refine c3.low j j1 j2 fun c ho=>?_
   obtain ⟨i,x,_,_,hx,_⟩:=hown c ho
   rw [hw hwf] at hx
   cases hx
end Go.Vm
set_option linter.unusedSimpArgs false
set_option linter.unusedVariables false
namespace Go.Vm
open Go.Am
variable {E:Env} {L:Frame} {H:Heap} {nx:Nat} {Q:PV→Heap→Nat→Prop} {w:Bool}
variable {dst:Option Tmp} {ty:TypeId} {pos:String} {af:Array Edge} {gd:Option (Nat×Bool)}
def VFun (E:Env) (g:FuncId) (xs:List FV) (r:PV):Prop:=VCalls E g (xs.map .p) [] 0 fun r' H' nx'=>r'=r∧H'=[]∧nx'=0
def VFunV (E:Env) (g:FuncId) (xs:List FV) (e:TypeId) (cs:List FV) (n:Nat) (z:Bool):Prop :=
 VCalls E g (xs.map .p) [] 0 fun r' H' nx'=>r'=.vec 0 n 0 n∧H'=[(0,.vec e cs n z)]∧nx'=1
theorem PVs.rn_pure (ρ:Nat→Nat):∀ xs:List FV,PVs.rn ρ (xs.map .p)=xs.map .p
 |[]=>rfl
 |x::xs=>by simp only [List.map_cons,PVs.rn,PV.rn,PVs.rn_pure ρ xs]
theorem merge_nil (ρ:Nat→Nat) (H':Heap):∀ H:Heap,merge [] ρ H' H=H
 |[]=>rfl
 |(b,x)::H=>by simp only [merge,idx,merge_nil ρ H' H]
theorem rho_nil (nx i:Nat):rho [] nx i=nx+i:=by simp [rho]
theorem VVal.call0 {fo:Operand} {args:Array Operand} {aT:Array TypeId} {g:FuncId} {as:List PV} {xs:List FV} {Qc:PV→Heap→Nat→Prop} (hf:vev E.Γ L fo=some (.clo g [] [])) (ha:evs E.Γ L args.toList=some as)
 (hle:PLes as (xs.map .p)) (hc:VCalls E g (xs.map .p) [] 0 Qc) (hq:∀ r H' nx',Qc r H' nx'→Q (r.rn (rho [] nx)) (news 0 (rho [] nx) H' H) (nx+nx')) :
 VVal E w ⟨dst,.call { callee:=.value fo,args:=args,argTypes:=aT },ty,pos,af,gd⟩ L H nx Q :=
 VVal.callG (ns:=[]) (Hc:=[]) hf ha (ac:=xs.map .p) (by simpa [PVs.rn_pure] using hle) (PVs.under_pure _ _) trivial trivial List.nodup_nil (by simp) (fun _=>rfl) hc
  (fun r H' nx' q=>by rw [merge_nil];exact hq r H' nx' q)
theorem VVal.callF {fo:Operand} {args:Array Operand} {aT:Array TypeId} {g:FuncId} {as:List PV} {xs:List FV} {r:PV} (hf:vev E.Γ L fo=some (.clo g [] [])) (ha:evs E.Γ L args.toList=some as)
 (hle:PLes as (xs.map .p)) (hc:VFun E g xs r) (hr:∀ ρ,r.rn ρ=r) (q:Q r H nx):VVal E w ⟨dst,.call { callee:=.value fo,args:=args,argTypes:=aT },ty,pos,af,gd⟩ L H nx Q :=
 VVal.call0 hf ha hle hc fun r' H' nx' ⟨h1,h2,h3⟩=>by subst h1;subst h2;subst h3;rw [hr];exact q
theorem VVal.callV {fo:Operand} {args:Array Operand} {aT:Array TypeId} {g:FuncId} {as:List PV} {xs cs:List FV} {e:TypeId} {n:Nat} {z:Bool} (hf:vev E.Γ L fo=some (.clo g [] [])) (ha:evs E.Γ L args.toList=some as)
 (hle:PLes as (xs.map .p)) (hc:VFunV E g xs e cs n z) (q:Q (.vec nx n 0 n) ((nx,.vec e cs n z)::H) (nx+1)):VVal E w ⟨dst,.call { callee:=.value fo,args:=args,argTypes:=aT },ty,pos,af,gd⟩ L H nx Q :=
 VVal.call0 hf ha hle hc fun r' H' nx' ⟨h1,h2,h3⟩=>by
  subst h1;subst h2;subst h3
  have e:news 0 (rho [] nx) [(0,HB.vec e cs n z)] H=(nx,.vec e cs n z)::H:=rfl
  rw [e]
  exact q
def Ghost (E:Env) (L:Frame) (H:Heap) (nx:Nat) (L':Frame) (H':Heap) (nx':Nat):Prop :=
 ∀ (B:Base) m F σ t,Ctx E.Γ m F σ H nx→RL m F (htag H) σ nx L t→B.to m F σ H nx→∃ F' σ',Ctx E.Γ m F' σ' H' nx'∧RL m F' (htag H') σ' nx' L' t∧B.to m F' σ' H' nx'
section
variable {bn:Nat} {ops:Array Oper} {l:List Oper} {i:Nat} {R:Frame→Heap→Nat→Prop} {L':Frame} {H':Heap} {nx':Nat}
theorem VWp.ghost {c:Code} {Q:AExit→Frame→Heap→Nat→Prop} (g:Ghost E L H nx L' H' nx') (h:VWp E bn c L' H' nx' Q):VWp E bn c L H nx Q:=fun B hB m F σ t h1 h2 h3=>by
 obtain ⟨F',σ',c1,c2,c3⟩:=g B m F σ t h1 h2 h3
 exact h B hB m F' σ' t c1 c2 c3
theorem VOps.ghost (g:Ghost E L H nx L' H' nx') (h:VOps E bn ops l L' H' nx' R):VOps E bn ops l L H nx R:=fun B hB m F σ t h1 h2 h3=>by
 obtain ⟨F',σ',c1,c2,c3⟩:=g B m F σ t h1 h2 h3
 exact h B hB m F' σ' t c1 c2 c3
theorem VOpsD.ghost (g:Ghost E L H nx L' H' nx') (h:VOpsD E bn ops i l L' H' nx' R):VOpsD E bn ops i l L H nx R:=fun B hB m F σ t h1 h2 h3=>by
 obtain ⟨F',σ',c1,c2,c3⟩:=g B m F σ t h1 h2 h3
 exact h B hB m F' σ' t c1 c2 c3
theorem Ghost.trans {L'':Frame} {H'':Heap} {nx'':Nat} (g:Ghost E L H nx L' H' nx') (g':Ghost E L' H' nx' L'' H'' nx''):Ghost E L H nx L'' H'' nx'':=fun B m F σ t h1 h2 h3=>by
 obtain ⟨F',σ',c1,c2,c3⟩:=g B m F σ t h1 h2 h3
 exact g' B m F' σ' t c1 c2 c3
end
theorem adoptCtx {Γ:Nat→Option (List Value×TypeId)} {m:Mem} {F:Nat→Prop} {σ:Nat→Value} (e:TypeId) (h:Ctx Γ m F σ H nx) :
 Ctx Γ m F (upd σ nx nilSlice) ((nx,.vec e [] 0 true)::H) (nx+1)∧Step m F σ H nx m F (upd σ nx nilSlice) ((nx,.vec e [] 0 true)::H) (nx+1):=by
 have:=h.new (m':=m) (x:=.vec e [] 0 true) (s:=nilSlice) (Nat.le_refl _) (fun _ _=>rfl) (Nat.min_le_left _ _) (fun c hc=>by simp [blkOf,nilSlice] at hc) (.inl ⟨rfl,rfl,.inl ⟨rfl,rfl⟩⟩)
 exact ⟨this.1,this.2.1⟩
theorem nil_vec {m:Mem} {F:Nat→Prop} {σ:Nat→Value} (e:TypeId) (H:Heap) (nx:Nat):RP m F (htag ((nx,.vec e [] 0 true)::H)) (upd σ nx nilSlice) (nx+1) (.vec nx 0 0 0) nilSlice:=by
 refine .vec (Nat.lt_succ_self _) rfl fun n hn=>?_
 rw [htag_cons,if_pos rfl] at hn
 simp only [HB.tag,Option.some.injEq,Tg.vec.injEq] at hn
 subst hn
 refine ⟨Nat.le_refl _,fun _=>?_⟩
 rw [upd_same]
 exact ⟨rfl,rfl,rfl⟩
theorem Ghost.adopt (d:Nat) (e:TypeId) (hd:lget L d=some (.p (.val (.slice none 0 0)))):Ghost E L H nx ((d,.vec nx 0 0 0)::L) ((nx,.vec e [] 0 true)::H) (nx+1):=fun B m F σ t h1 h2 h3=>by
 obtain ⟨c1,c2⟩:=adoptCtx e h1
 refine ⟨F,_,c1,fun i v hi=>?_,h3.trans c2⟩
 rw [lget_cons] at hi
 by_cases ei:d=i
 ·rw [if_pos ei] at hi;cases hi
  have:=h2 d _ hd
  subst ei
  generalize tget t d=u at this
  cases this with|p h=>cases h;exact nil_vec e H nx
 ·rw [if_neg ei] at hi
  exact (h2 i v hi).step c2 h1
def hdel:Heap→Nat→Heap
 |[],_=>[]
 |(a,x)::H,b=>match Nat.decEq a b with
  | .isTrue _=>hdel H b
  | .isFalse _=>(a,x)::hdel H b
theorem hget_hdel (H:Heap) (b c:Nat):hget (hdel H b) c=if b=c then none else hget H c:=by
 induction H with
 |nil=>simp [hdel,hget]
 |cons a H ih =>
  obtain ⟨a,x⟩:=a
  simp only [hdel]
  cases hd:Nat.decEq a b with
  |isTrue h =>
   subst h
   simp only [hget_cons,ih]
   by_cases e:a=c<;>simp [e]
  |isFalse h =>
   simp only [hget_cons,ih]
   by_cases e:b=c
   ·subst e;simp [h]
   ·simp [e]
theorem htag_hdel (H:Heap) (b c:Nat):htag (hdel H b) c=if b=c then none else htag H c:=by
 unfold htag
 rw [hget_hdel]
 split<;>rfl
theorem hdel_sub {b c:Nat} {t:Tg} (h:htag (hdel H b) c=some t):htag H c=some t:=by
 rw [htag_hdel] at h
 split at h
 ·cases h
 ·exact h
theorem freezeCtx {Γ:Nat→Option (List Value×TypeId)} {m:Mem} {F:Nat→Prop} {σ:Nat→Value} {b:Nat} {e:TypeId} {cs:List FV} {n:Nat} {z:Bool} (h:Ctx Γ m F σ H nx) (hb:hget H b=some (.vec e cs n z)) :
 Ctx Γ m (fun c=>F c∨blkOf (σ b)=some c) σ (hdel H b) nx∧Step m F σ H nx m (fun c=>F c∨blkOf (σ b)=some c) σ (hdel H b) nx ∧
 (∀ v,SubOf (σ b) 0 n v→RF m (fun c=>F c∨blkOf (σ b)=some c) (.lst e cs n) v):=by
 have hown:∀ c,blkOf (σ b)=some c→own H σ c:=fun c hc=>⟨b,_,hb,hc⟩
 have hfz:∀ c,F c→(F c∨blkOf (σ b)=some c)∧m.get c=m.get c:=fun c hc=>⟨.inl hc,rfl⟩
 have hN:Names nx (htag H) σ (htag (hdel H b)) σ:=fun d _=>by
  rw [htag_hdel]
  split
  ·exact ⟨trivial,fun _ _ _=>rfl⟩
  ·exact ⟨TLe.refl _,fun _ _ _=>rfl⟩
 have hsub:∀ d x,hget (hdel H b) d=some x→d≠b∧hget H d=some x:=fun d x hd=>by
  rw [hget_hdel] at hd
  split at hd
  ·cases hd
  ·rename_i hne;exact ⟨Ne.symm hne,hd⟩
 refine ⟨⟨?_,?_,?_,?_⟩,⟨Nat.le_refl _,fun _ _ _=>rfl,fun _ h=>.inl h,fun c _ hc=>hc.imp id (hown c),?_,Nat.le_refl _,hN,fun _ h _ _=>h⟩,?_⟩
 ·rintro c (hc|hc)
  ·exact h.fr c hc
  ·exact (h.notF (hown c hc)).2
 ·intro d x hd
  obtain ⟨hne,hd⟩:=hsub d x hd
  obtain ⟨h1,h2⟩:=h.hp d x hd
  refine ⟨h1,h2.mono hfz hN (Nat.le_refl _) (Nat.le_refl _) fun c hc=>⟨rfl,?_⟩⟩
  rintro (hf|hf)
  ·exact (h.notF ⟨d,x,hd,hc⟩).1 hf
  ·exact hne (h.sep d b x _ c hd hb hc hf)
 ·intro d d' x x' c hd hd' hc hc'
  exact h.sep d d' x x' c (hsub d x hd).2 (hsub d' x' hd').2 hc hc'
 ·intro g cs' e' hg
  obtain ⟨h1,h2⟩:=h.gl g cs' e' hg
  exact ⟨.inl h1,h2⟩
 ·rintro c _ ⟨d,x,hd,hc⟩
  exact ⟨d,x,(hsub d x hd).2,hc⟩
 ·intro v hv
  obtain ⟨_,hr⟩:=h.hp b _ hb
  rcases hr with ⟨r1,r2,r3⟩|⟨c,g,vs,r1,r2,r3,r4,r5,r6,r7⟩
  ·subst r1;subst r2
   rcases r3 with ⟨r3,_⟩|⟨b',o',g',r3,_⟩
   ·rw [r3] at hv;obtain ⟨rfl,_,_⟩:=hv;exact .nil _
   ·rw [r3] at hv;simp only [SubOf] at hv;rw [hv.1];exact .room _ _ _ _
  ·rw [r1] at hv
   simp only [SubOf] at hv
   subst hv
   refine .lst (.inr (by rw [r1];rfl)) r4 ?_ (r5.mono hfz) r6
   rw [List.drop_zero,r5.length];simp [takeN]
theorem Ghost.freeze (d:Nat) {b n:Nat} {e:TypeId} {cs:List FV} {z:Bool} (hd:lget L d=some (.vec b n 0 n)) (hb:hget H b=some (.vec e cs n z)):Ghost E L H nx ((d,.p (.lst e cs n))::L) (hdel H b) nx:=fun B m F σ t h1 h2 h3=>by
 obtain ⟨c1,c2,c3⟩:=freezeCtx h1 hb
 refine ⟨_,σ,c1,fun i v hi=>?_,h3.trans c2⟩
 rw [lget_cons] at hi
 by_cases ei:d=i
 ·rw [if_pos ei] at hi;cases hi
  have:=h2 d _ hd
  subst ei
  generalize tget t d=u at this
  cases this with
  |vec hb' hc h=>exact .p (c3 _ ((h n (by simp [htag,hb,HB.tag])).2 rfl))
 ·rw [if_neg ei] at hi
  exact (h2 i v hi).step c2 h1
theorem Ghost.freezeCell (a k:Nat) {b n:Nat} {e e':TypeId} {cs:List FV} {ds:List PV} {z:Bool} (ha:hget H a=some (.box e' ds)) (hk:ds[k]?=some (.vec b n 0 n)) (hb:hget H b=some (.vec e cs n z)) :
 Ghost E L H nx L (hput (hdel H b) a (.box e' (ds.set k (.p (.lst e cs n))))) nx:=fun B m F σ t h1 h2 h3=>by
 obtain ⟨c1,c2,c3⟩:=freezeCtx h1 hb
 have hne:b≠a:=fun e=>by subst e;rw [ha] at hb;cases hb
 have ha':hget (hdel H b) a=some (.box e' ds):=by rw [hget_hdel,if_neg hne];exact ha
 obtain ⟨_,c,vs,r1,r2,r3,r4,r5,r6⟩:=c1.hp a _ ha'
 obtain ⟨_,c',vs',s1,s2,s3,s4,s5,s6⟩:=h1.hp a _ ha
 rw [s1] at r1;cases r1
 rw [s4] at r4;cases r4
 obtain ⟨u,hu1,hu2⟩:=s5.get hk
 have hcell:RP m (fun c=>F c∨blkOf (σ b)=some c) (htag (hdel H b)) σ nx (.p (.lst e cs n)) u:=by
  cases hu2 with
  |vec hb' hc h=>exact .p (c3 _ ((h n (by simp [htag,hb,HB.tag])).2 rfl))
 obtain ⟨d1,d2⟩:=c1.change (m':=m) (b0:=a) (x':=.box e' (ds.set k (.p (.lst e cs n)))) (s':=σ a) ha' trivial (fun _=>rfl) (Nat.le_refl _) (fun _ _ _=>rfl) (fun _ h _ _=>h) (fun c hc=>.inl hc) (by
  refine ⟨_,vs,s1,s2,r3,s4,?_,s6⟩
  have:vs=vs.set k u:=by
   apply List.ext_getElem?
   intro j
   rw [List.getElem?_set]
   by_cases e:k=j
   ·subst e
    rw [if_pos rfl,hu1]
    have:k<vs.length:=by
     rcases Nat.lt_or_ge k vs.length with h|h
     ·exact h
     ·rw [List.getElem?_eq_none h] at hu1;cases hu1
    rw [if_pos this]
   ·rw [if_neg e]
  rw [this]
  exact (r5.set k hcell).mono (fun d hd=>⟨hd,rfl⟩) (change_names (x':=.box e' (ds.set k (.p (.lst e cs n)))) ha' trivial fun _=>rfl) (Nat.le_refl _))
 have hσ:upd σ a (σ a)=σ:=by funext x;simp only [upd];split<;>simp_all
 rw [hσ] at d1 d2
 exact ⟨_,σ,d1,(h2.step c2 h1).step d2 c1,(h3.trans c2).trans d2⟩
theorem Ghost.adoptCell (a k:Nat) (e:TypeId) {e':TypeId} {ds:List PV} (ha:hget H a=some (.box e' ds)) (hk:ds[k]?=some (.p (.val (.slice none 0 0)))) :
 Ghost E L H nx L (hput ((nx,.vec e [] 0 true)::H) a (.box e' (ds.set k (.vec nx 0 0 0)))) (nx+1):=fun B m F σ t h1 h2 h3=>by
 obtain ⟨c1,c2⟩:=adoptCtx e h1
 have hlt:=(h1.hp a _ ha).1
 have ha':hget ((nx,HB.vec e [] 0 true)::H) a=some (.box e' ds):=by rw [hget_cons,if_neg (by omega)];exact ha
 obtain ⟨_,c,vs,r1,r2,r3,r4,r5,r6⟩:=c1.hp a _ ha'
 obtain ⟨u,hu1,hu2⟩:=r5.get hk
 have hu:u=nilSlice:=by cases hu2 with|p h=>cases h;rfl
 subst hu
 obtain ⟨d1,d2⟩:=c1.change (m':=m) (b0:=a) (x':=.box e' (ds.set k (.vec nx 0 0 0))) (s':=upd σ nx nilSlice a) ha' trivial (fun _=>rfl) (Nat.le_refl _) (fun _ _ _=>rfl) (fun _ h _ _=>h) (fun c hc=>.inl hc) (by
  refine ⟨c,vs,r1,r2,r3,r4,?_,r6⟩
  have:vs=vs.set k nilSlice:=by
   apply List.ext_getElem?
   intro j
   rw [List.getElem?_set]
   by_cases e:k=j
   ·subst e
    rw [if_pos rfl,hu1]
    have:k<vs.length:=by
     rcases Nat.lt_or_ge k vs.length with h|h
     ·exact h
     ·rw [List.getElem?_eq_none h] at hu1;cases hu1
    rw [if_pos this]
   ·rw [if_neg e]
  rw [this]
  exact (r5.set k (nil_vec e H nx)).mono (fun d hd=>⟨hd,rfl⟩) (change_names (x':=.box e' (ds.set k (.vec nx 0 0 0))) ha' trivial fun _=>rfl) (Nat.le_refl _))
 have hσ:upd (upd σ nx nilSlice) a (upd σ nx nilSlice a)=upd σ nx nilSlice:=by
  funext x
  by_cases e:x=a
  ·rw [e,upd_same]
  ·rw [upd_other _ _ e]
 rw [hσ] at d1 d2
 exact ⟨_,_,d1,(h2.step c2 h1).step d2 c1,(h3.trans c2).trans d2⟩
end Go.Vm
set_option linter.unusedSimpArgs false
set_option linter.unusedVariables false
namespace Go.Vm
open Go.Am
variable {E:Env} {L:Frame} {H:Heap} {nx:Nat} {Q:PV→Heap→Nat→Prop} {w:Bool}
variable {dst:Option Tmp} {ty:TypeId} {pos:String} {af:Array Edge} {gd:Option (Nat×Bool)}
def evp (Γ:Nat→Option (List Value×TypeId)) (L:Frame):List (Nat×Operand)→Option (List (Nat×PV))
 |[]=>some []
 |(i,o)::l=>match vev Γ L o with
  |some x=>match evp Γ L l with
   |some r=>some ((i,x)::r)
   |none=>none
  |none=>none
def isTup:PV→Bool
 | .tup _=>true
 |_=>false
def pfill (place:Nat→Option (Nat×Nat)) (cs:List PV):List (Nat×PV)→Option (List PV)
 |[]=>some cs
 |(i,v)::rest=>match isTup v with
  |true=>none
  |false=>match place i with
   |none=>none
   |some (off,size)=>if (pcells v).length=size∧off+size≤cs.length then pfill place (psplice cs off (pcells v)) rest else none
theorem foldl_splice (off:Nat):∀ (l:List Value) (k:Nat) (cs:Array Value),((l.zipIdx k).foldl (fun cs (c,j)=>cs.setIfInBounds (off+j) c) cs).toList=splice cs.toList (off+k) l
 |[],_,_=>rfl
 |a::l,k,cs=>by
  simp only [List.zipIdx_cons,List.foldl_cons]
  rw [foldl_splice off l (k+1)]
  simp only [splice,Array.toList_setIfInBounds]
  congr 1
theorem psplice_len {α:Type} (l:List α):∀ (cs:List α) (o:Nat),(psplice cs o l).length=cs.length:=by
 induction l with
 |nil=>intro cs o;rfl
 |cons a l ih=>intro cs o;simp only [psplice,ih,List.length_set]
section
variable {m:Mem} {F:Nat→Prop} {T:Nat→Option Tg} {σ:Nat→Value} {n:Nat}
inductive RPp (m:Mem) (F:Nat→Prop) (T:Nat→Option Tg) (σ:Nat→Value) (n:Nat):List (Nat×PV)→List (Nat×Value)→Prop
 |nil:RPp m F T σ n [] []
 |cons {i:Nat} {x:PV} {v:Value} {l:List (Nat×PV)} {r:List (Nat×Value)} (h:RP m F T σ n x v) (t:RPp m F T σ n l r):RPp m F T σ n ((i,x)::l) ((i,v)::r)
theorem pfill_rel (place:Nat→Option (Nat×Nat)):∀ {ps:List (Nat×PV)} {ps':List (Nat×Value)} {cs out:List PV} {cs':Array Value},RPp m F T σ n ps ps'→RPs m F T σ n cs cs'.toList→cs'.toList.all isCell=true →
 pfill place cs ps=some out→∃ out',Instr.fill place cs' ps'=some out'∧RPs m F T σ n out out'.toList∧out'.toList.all isCell=true
 |[],_,cs,out,cs',.nil,hc,ha,h=>by
  simp only [pfill,Option.some.injEq] at h
  subst h
  exact ⟨cs',rfl,hc,ha⟩
 |(i,x)::ps,_,cs,out,cs',.cons (v:=v) hx ht,hc,ha,h=>by
  simp only [pfill] at h
  have hn:notTup x∧isTup x=false:=by cases x<;>first|exact ⟨trivial,rfl⟩|(simp only [isTup] at h;cases h)
  rw [hn.2] at h
  simp only at h
  obtain ⟨h1,h2⟩:=pcells_rel hn.1 hx
  simp only [Instr.fill]
  cases hp:place i with
  |none=>rw [hp] at h;cases h
  |some q =>
   obtain ⟨off,size⟩:=q
   rw [hp] at h
   simp only at h ⊢
   split at h
   ·rename_i hl
    obtain ⟨hl,hle⟩:=hl
    have e1:=h1.length
    have e2:=hc.length
    simp only [Array.length_toList] at e1 e2
    rw [if_neg (by simp only [ne_eq,gt_iff_lt,Bool.or_eq_true,decide_eq_true_eq,not_or];omega)]
    refine pfill_rel place ht ?_ ?_ h
    ·rw [← Array.foldl_toList,Array.toList_zipIdx,foldl_splice,Nat.add_zero]
     exact RPs.splice off hc h1
    ·rw [← Array.foldl_toList,Array.toList_zipIdx,foldl_splice,Nat.add_zero]
     exact all_splice _ ha h2
   ·cases h
end
theorem evp_rel {Γ:Nat→Option (List Value×TypeId)} {m:Mem} {F:Nat→Prop} {σ:Nat→Value} {t:Tr Value} (hx:Ctx Γ m F σ H nx) (hl:RL m F (htag H) σ nx L t):∀ {ps:List (Nat×Operand)} {xs:List (Nat×PV)},evp Γ L ps=some xs→RPp m F (htag H) σ nx xs (ps.map fun (i,x)=>(i,ev t x))
 |[],_,h=>by cases h;exact .nil
 |(i,o)::os,xs,h=>by
  simp only [evp] at h
  cases h1:vev Γ L o with
  |none=>rw [h1] at h;cases h
  |some x =>
   rw [h1] at h
   cases h2:evp Γ L os with
   |none=>rw [h2] at h;cases h
   |some r=>rw [h2] at h;cases h;exact .cons (vev_rel hx hl h1) (evp_rel hx hl h2)
theorem build_struct {P:Program} {t:TypeId} {z:List Value} {fields:Array Field} {places:Array (Nat×Nat)} {ps:Array (Nat×Value)} {out:Array Value} (hz:zeroCellsOf P t=some z) (hu:P.underlying t=some (.struct fields))
 (hpl:dry P (Array.mapM (fun f=>do pure (f.offset,← sizeOf f.type)) fields)=some places) (hf:Instr.fill (fun x=>places[x]?) z.toArray ps.toList=some out):dry P (Instr.build t ps)=some (.agg out):=by
 obtain ⟨i,zv,h1,h2,h3,h4⟩:=zeroCellsOf_some hz
 unfold Instr.build
 simp only [dry_bind]
 have hzv:dry P (zeroValue t)=some zv:=by
  simp only [zeroValue,dry_bind,dry_typeInfo,h1,Option.bind_some,h2]
  rfl
 rw [hzv]
 simp only [Option.bind_some,dry_underlying,hu]
 simp only [dry_bind,hpl,Option.bind_some]
 have e:zv.cells=z.toArray:=by rw [h3]
 rw [e,hf]
 rfl
def placesL (P:Program):List Field→Option (List (Nat×Nat))
 |[]=>some []
 |f::l=>match P.info? f.type with
  |some i=>match placesL P l with
   |some r=>some ((f.offset,i.size)::r)
   |none=>none
  |none=>none
theorem dry_placesL {P:Program}:∀ (l:List Field),dry P (l.mapM fun f=>(do pure (f.offset,← sizeOf f.type):Sem (Nat×Nat)))=placesL P l
 |[]=>rfl
 |f::l=>by
  rw [List.mapM_cons]
  simp only [dry_bind,dry_sizeOf,placesL,dry_placesL l]
  cases P.info? f.type with
  |none=>rfl
  |some i =>
   simp only [Option.map_some,Option.bind_some]
   cases placesL P l<;>rfl
theorem dry_places {P:Program} {fields:Array Field} {pl:List (Nat×Nat)} (h:placesL P fields.toList=some pl):dry P (Array.mapM (fun f=>(do pure (f.offset,← sizeOf f.type):Sem (Nat×Nat))) fields)=some pl.toArray:=by
 rw [Array.mapM_eq_mapM_toList,map_eq_pure_bind,dry_bind,dry_placesL,h]
 rfl
theorem VVal.build {t:TypeId} {ps:Array (Nat×Operand)} {z:List Value} {fields:Array Field} {places:List (Nat×Nat)} {parts:List (Nat×PV)} {out:List PV} (hz:zeroCellsOf E.P t=some z) (hu:E.P.underlying t=some (.struct fields))
 (hpl:placesL E.P fields.toList=some places) (hp:evp E.Γ L ps.toList=some parts) (hf:pfill (fun x=>places[x]?) (z.map fun v=>.p (cellFV v)) parts=some out) (q:Q (mkAgg out) H nx) :
 VVal E w ⟨dst,.build t ps,ty,pos,af,gd⟩ L H nx Q :=
 VVal.quiet q fun m F σ tt h1 h2=>by
  obtain ⟨_,_,_,_,_,hpz⟩:=zeroCellsOf_some hz
  obtain ⟨out',e1,e2,e3⟩:=pfill_rel (fun x=>places[x]?) (evp_rel h1 h2 hp) (cs':=z.toArray) (RPs.zero hpz) (all_plain_isCell hpz) hf
  have e4:=build_struct (ps:=ps.map fun (i,x)=>(i,ev tt x)) hz hu (dry_places hpl) (by rw [Array.toList_map];simpa using e1)
  refine ⟨.agg out',fun _=>?_,mkAgg_rel e2 e3⟩
  simp only [aval,aop,hz,e4,Option.map_some]
theorem slice_new {Γ:Nat→Option (List Value×TypeId)} {m:Mem} {F:Nat→Prop} {σ:Nat→Value} {e:TypeId} {cs:List FV} {vs:List Value} (n:Nat) (h:Ctx Γ m F σ H nx) (hr:RFs m F cs vs) (hc:vs.all isCell=true) :
 Ctx Γ (m.alloc (.cells vs e 0 false)) F (upd σ nx (.slice (some ⟨m.size,0,none⟩) n 0)) ((nx,.vec e cs n false)::H) (nx+1) ∧
 Step m F σ H nx (m.alloc (.cells vs e 0 false)) F (upd σ nx (.slice (some ⟨m.size,0,none⟩) n 0)) ((nx,.vec e cs n false)::H) (nx+1)∧Quiet m (m.alloc (.cells vs e 0 false)) ∧
 RP (m.alloc (.cells vs e 0 false)) F (htag ((nx,.vec e cs n false)::H)) (upd σ nx (.slice (some ⟨m.size,0,none⟩) n 0)) (nx+1) (.vec nx n 0 n) (.slice (some ⟨m.size,0,none⟩) n 0):=by
 obtain ⟨c1,c2,c3⟩:=h.new (m':=m.alloc (.cells vs e 0 false)) (x:=.vec e cs n false) (s:=.slice (some ⟨m.size,0,none⟩) n 0) (by simp [Mem.alloc]) (fun c hc=>by rw [Mem.get_alloc,if_neg (by omega)]) (by simp only [Mem.alloc];omega)
  (fun c hc=>by simp only [blkOf,Option.some.injEq] at hc;omega) (.inr ⟨m.size,0,vs,rfl,by simp [Mem.alloc],fun hf=>Nat.lt_irrefl _ (h.fr _ hf),by rw [Mem.get_alloc,if_pos rfl],
   hr.mono (fun c hf=>⟨hf,by rw [Mem.get_alloc,if_neg (by have:=h.fr c hf;omega)]⟩),hc,fun _=>rfl⟩)
 refine ⟨c1,c2,c3,.vec (Nat.lt_succ_self _) rfl fun k hk=>?_⟩
 rw [htag_cons,if_pos rfl] at hk
 simp only [HB.tag,Option.some.injEq,Tg.vec.injEq] at hk
 refine ⟨by omega,fun _=>?_⟩
 rw [upd_same]
 rfl
theorem VVal.buildSlice {t e:TypeId} {len:Nat} {ps:Array (Nat×Operand)} {z:List Value} {i:TypeInfo} {parts:List (Nat×PV)} {out:List PV} {fs:List FV} (hu:E.P.underlying t=some (.slice e)) (hi:E.P.info? e=some i)
 (hz:zeroCellsOf E.P e=some z) (hl:len*i.size≤2 ^ 24∧z.length=i.size∧0<i.size) (hp:evp E.Γ L ps.toList=some parts) (hf:pfill (fun j=>some (j*i.size,i.size)) ((repeatCells z len).map fun v=>.p (cellFV v)) parts=some out)
 (ha:allP out=some fs) (q:Q (.vec nx len 0 len) ((nx,.vec e fs len false)::H) (nx+1)):VVal E w ⟨dst,.buildSlice t len ps,ty,pos,af,gd⟩ L H nx Q:=by
 intro m F σ tt h1 h2
 obtain ⟨_,_,_,_,_,hpz⟩:=zeroCellsOf_some hz
 have hpr:=repeat_all hpz len
 obtain ⟨out',e1,e2,e3⟩:=pfill_rel (fun j=>some (j*i.size,i.size)) (evp_rel h1 h2 hp) (cs':=(repeatCells z len).toArray) (RPs.zero hpr) (all_plain_isCell hpr) hf
 obtain ⟨c1,c2,c3,c4⟩:=slice_new (e:=e) len h1 (allP_rel ha e2) e3
 refine AVal.op (v:=.slice (some ⟨m.size,0,none⟩) len 0) (fun _=>?_) ⟨_,_,_,F,_,q,c1,c4,c2,fun _=>c3⟩
 have e1':Instr.fill (fun j=>some (j*i.size,i.size)) (repeatCells z len).toArray (ps.map fun (i,x)=>(i,ev tt x)).toList=some out':=by rw [Array.toList_map];exact e1
 simp only [aval,aop,hu,hi,hz,hl,and_self,if_true,e1',e3,newSlice]
theorem VVal.makeSlice {t e:TypeId} {l c:Operand} {n:Nat} {z:List Value} {i:TypeInfo} (hu:E.P.underlying t=some (.slice e)) (hi:E.P.info? e=some i) (hz:zeroCellsOf E.P e=some z) (hl:vev E.Γ L l=some (.p (.int .i64 n))) (hc:vev E.Γ L c=some (.p (.int .i64 n)))
 (hb:n*(i.bytes+1)≤room∧n≤2 ^ 40) (hs:z.length=i.size∧0<i.size) (q:Q (.vec nx n 0 n) ((nx,.vec e ((repeatCells z n).map cellFV) n false)::H) (nx+1)):VVal E w ⟨dst,.makeSlice t l c,ty,pos,af,gd⟩ L H nx Q:=by
 intro m F σ tt h1 h2
 obtain ⟨_,_,_,_,_,hpz⟩:=zeroCellsOf_some hz
 have hpr:=repeat_all hpz n
 obtain ⟨c1,c2,c3,c4⟩:=slice_new (e:=e) n h1 (cellFVs_rel (F:=F) hpr) (all_plain_isCell hpr)
 refine AVal.op (v:=.slice (some ⟨m.size,0,none⟩) n 0) (fun _=>?_) ⟨_,_,_,F,_,q,c1,c4,c2,fun _=>c3⟩
 have h0:(0:Int)≤(n:Int)∧(n:Int)≤(n:Int)∧(n:Int).toNat*(i.bytes+1)≤room∧(n:Int)≤2 ^ 40∧z.length=i.size∧0<i.size:=⟨by omega,by omega,by rw [Int.toNat_natCast];exact hb.1,by have:=hb.2;omega,hs⟩
 simp only [aval,aop,hu,vev_int h1 h2 hl,vev_int h1 h2 hc,hi,hz]
 rw [if_pos h0]
 simp only [newSlice,Int.toNat_natCast]
def SlC (Γ:Nat→Option (List Value×TypeId)) (L:Frame) (H:Heap) (nx:Nat) (x:Operand) (sz:Nat) (xs:List FV) (k:Nat):Prop :=
 ∀ m F σ t,Ctx Γ m F σ H nx→RL m F (htag H) σ nx L t→lenOf (ev t x)=some k∧∃ l,sliceCells m sz k (ev t x)=some l∧RFs m F xs l∧l.all isCell=true
theorem takeN_len {k:Nat} {l ws:List Value} (h:takeN k l=some ws):ws.length=k:=by
 obtain ⟨rfl,hk⟩:=takeN_some h
 rw [List.length_take];omega
theorem SlC.nil {Γ:Nat→Option (List Value×TypeId)} {x:Operand} {sz:Nat} (h:vev Γ L x=some (.p (.val (.slice none 0 0)))):SlC Γ L H nx x sz [] 0:=fun m F σ t h1 h2=>by
 have:=vev_rel h1 h2 h
 generalize ev t x=v at this
 cases this with|p h=>cases h;exact ⟨rfl,[],rfl,.nil,rfl⟩
theorem SlC.lst {Γ:Nat→Option (List Value×TypeId)} {x:Operand} {e:TypeId} {sz k:Nat} {xs:List FV} (h:vev Γ L x=some (.p (.lst e xs k))) (hl:xs.length=k*sz):SlC Γ L H nx x sz xs k:=fun m F σ t h1 h2=>by
 have:=vev_rel h1 h2 h
 generalize ev t x=v at this
 cases this with
 |p h =>
  cases h with
  |nil=>exact ⟨rfl,[],rfl,.nil,rfl⟩
  |room=>exact ⟨rfl,[],rfl,.nil,rfl⟩
  |lst hF hm hw hr hc =>
   rename_i b o g vs ws ro
   refine ⟨rfl,ws,?_,hr,hc⟩
   simp only [sliceCells,Nat.le_refl,if_true,Mem.cellsAt,hm]
   simp only [agen,Option.getD_some,if_true]
   rw [← hl];exact hw
theorem SlC.vec {Γ:Nat→Option (List Value×TypeId)} {x:Operand} {b n off len sz:Nat} {e:TypeId} {cs:List FV} {z:Bool} (h:vev Γ L x=some (.vec b n off len)) (hb:hget H b=some (.vec e cs n z)) (hl:off+len*sz≤cs.length) :
 SlC Γ L H nx x sz ((cs.drop off).take (len*sz)) len:=fun m F σ t h1 h2=>by
 have hsub:=vev_vec h1 h2 h hb
 obtain ⟨_,hr⟩:=h1.hp b _ hb
 rcases hr with ⟨r1,r2,r3⟩|⟨c,g,vs,r1,r2,r3,r4,r5,r6,r7⟩
 ·have hv:(∃ a,ev t x=.slice a 0 0∧(a=none∨∃ b o g,a=some ⟨b,o,some g⟩))∧len=0:=by
   rcases r3 with ⟨r3,_⟩|⟨b',o',g',r3,_⟩
   ·rw [r3] at hsub;obtain ⟨q1,q2,q3⟩:=hsub;exact ⟨⟨none,q1,.inl rfl⟩,q3⟩
   ·rw [r3] at hsub;simp only [SubOf] at hsub;obtain ⟨q1,q2,q3⟩:=hsub;exact ⟨⟨_,q1,.inr ⟨_,_,_,rfl⟩⟩,q3⟩
  obtain ⟨⟨a,ha,hb'⟩,rfl⟩:=hv
  rw [ha]
  refine ⟨rfl,[],?_,by rw [Nat.zero_mul,List.take_zero];exact .nil,rfl⟩
  rcases hb' with rfl|⟨_,_,_,rfl⟩<;>rfl
 ·rw [r1] at hsub
  simp only [SubOf] at hsub
  rw [hsub]
  have hlen:=r5.length
  have hle:len*sz≤(vs.drop off).length:=by rw [List.length_drop];omega
  refine ⟨rfl,(vs.drop off).take (len*sz),?_,?_,all_take (all_drop r6 _) _⟩
  ·simp only [sliceCells,Nat.le_refl,if_true,Mem.cellsAt,r4]
   simp only [agen,Option.getD_some,if_true,takeN,if_pos hle]
  ·have:∀ {cs:List FV} {vs:List Value} (k:Nat),RFs m F cs vs→RFs m F (cs.take k) (vs.take k):=by
    intro cs vs k h
    induction k generalizing cs vs with
    |zero=>exact .nil
    |succ k ih=>cases h with|nil=>exact .nil|cons h t=>exact .cons h (ih t)
   exact this _ (RFs.drop off r5)
theorem SlC.all {Γ:Nat→Option (List Value×TypeId)} {x:Operand} {b n sz:Nat} {e:TypeId} {cs:List FV} {z:Bool} (h:vev Γ L x=some (.vec b n 0 n)) (hb:hget H b=some (.vec e cs n z)) (hl:cs.length=n*sz):SlC Γ L H nx x sz cs n:=by
 have:=SlC.vec (sz:=sz) (nx:=nx) h hb (by omega)
 rw [List.drop_zero,← hl,List.take_length] at this
 exact this
theorem VVal.append {s x:Operand} {sT xT e:TypeId} {xd:TypeDesc} {i:TypeInfo} {b n k:Nat} {cs xs:List FV} {z:Bool} (hs:vev E.Γ L s=some (.vec b n 0 n)) (hb:hget H b=some (.vec e cs n z)) (hx:SlC E.Γ L H nx x i.size xs k)
 (hsT:E.P.underlying sT=some (.slice e)) (hxT:E.P.underlying xT=some xd) (hd:∀ k,xd≠.int k) (hi:E.P.info? e=some i) (hzs:zeroSized i=true) (h0:0<k) (hroom:(n+k)*(i.bytes+1)≤room) (hl:cs.length=n*i.size) (hsz:0<i.size)
 (q:Q (.vec b (n+k) 0 (n+k)) (hput H b (.vec e (cs++xs) (n+k) z)) nx):VVal E true ⟨dst,.call { callee:=.builtin .append,args:=#[s,x],argTypes:=#[sT,xT] },ty,pos,af,gd⟩ L H nx Q:=by
 intro m F σ t h1 h2
 have hsub:=vev_vec h1 h2 hs hb
 obtain ⟨hx1,l,hx2,hx3,hx4⟩:=hx m F σ t h1 h2
 obtain ⟨hlt,hr⟩:=h1.hp b _ hb
 have hlenS:lenOf (ev t s)=some n:=by
  rcases hr with ⟨r1,r2,r3⟩|⟨c,g,vs,r1,_⟩
  ·rcases r3 with ⟨r3,_⟩|⟨b',o',g',r3,_⟩<;>rw [r3] at hsub<;>simp only [SubOf,nilSlice] at hsub<;>rw [hsub.1,r2]<;>rfl
  ·rw [r1] at hsub;simp only [SubOf] at hsub;rw [hsub];rfl
 have happ:∀ v m',appendCells m e i.size l k (ev t s)=some (v,m')→aappend E.P #[sT,xT] #[ev t s,ev t x] m=some (v,m'):=by
  intro v m' ha
  have hxd:∀ a:Option (Value×Mem),a=some (v,m')→(match xd with| .int _=>none|_=>a)=some (v,m'):=by
   intro a ha;cases xd<;>first|exact ha|exact absurd rfl (hd _)
  simp only [aappend,List.getElem?_toArray,List.getElem?_cons_zero,List.getElem?_cons_succ,hsT,hxT,hlenS,hi,hzs,Bool.not_true,Bool.false_eq_true,if_false]
  cases xd<;>first|exact absurd rfl (hd _)|(simp only [hx1,hx2,hx4,Bool.and_true,decide_eq_true_eq];rw [if_pos hroom];exact ha)
 have hfin:∀ v m' s',appendCells m e i.size l k (ev t s)=some (v,m')→s'=v→(Ctx E.Γ m' F (upd σ b s') (hput H b (.vec e (cs++xs) (n+k) z)) nx∧Step m F σ H nx m' F (upd σ b s') (hput H b (.vec e (cs++xs) (n+k) z)) nx)→(∃ c g,v=.slice (some ⟨c,0,none⟩) (n+k) g) →
  AVal E.P E.O E.G ⟨dst,.call { callee:=.builtin .append,args:=#[s,x],argTypes:=#[sT,xT] },ty,pos,af,gd⟩ ⟨t,m⟩ fun v m'=>∃ r H' nx' F' σ',Q r H' nx'∧Ctx E.Γ m' F' σ' H' nx'∧RP m' F' (htag H') σ' nx' r v∧Step m F σ H nx m' F' σ' H' nx'∧(true=false→Quiet m m'):=by
  rintro v m' s' ha rfl ⟨c1,c2⟩ ⟨c,g,hv⟩
  refine AVal.op (v:=s') (m':=m') (fun _=>?_) ⟨_,_,_,F,_,q,c1,?_,c2,fun h=>by cases h⟩
  ·have:=happ _ _ ha
   simp only [aval,aop]
   simpa using this
  ·refine .vec hlt (by rw [hv];rfl) fun j hj=>?_
   rw [htag_hput,if_pos rfl,htag,hb] at hj
   simp only [Option.map_some,HB.tag,Option.some.injEq,Tg.vec.injEq] at hj
   refine ⟨by omega,fun _=>?_⟩
   rw [upd_same,hv]
   rfl
 have htle:TLe (some (HB.vec e cs n z).tag) (some (HB.vec e (cs++xs) (n+k) z).tag):=Nat.le_add_right _ _
 have hne:(HB.vec e cs n z).tag=(HB.vec e (cs++xs) (n+k) z).tag→False:=by simp only [HB.tag,Tg.vec.injEq];omega
 rcases hr with ⟨r1,r2,r3⟩|⟨c,g,vs,r1,r2,r3,r4,r5,r6,r7⟩
 ·have hv:blkOf (σ b)=none∧(ev t s=.slice none 0 0∨∃ b o g,ev t s=.slice (some ⟨b,o,some g⟩) 0 0):=by
   rcases r3 with ⟨r3,_⟩|⟨b',o',g',r3,_⟩
   ·rw [r3] at hsub ⊢;exact ⟨rfl,.inl hsub.1⟩
   ·rw [r3] at hsub ⊢;simp only [SubOf] at hsub;exact ⟨rfl,.inr ⟨_,_,_,hsub.1⟩⟩
  have ha:appendCells m e i.size l k (ev t s)=some (newSlice m e l k):=by
   rcases hv.2 with hv|⟨_,_,_,hv⟩<;>rw [hv]<;>simp only [appendCells]<;>rw [if_neg (by omega)]
  subst r1;subst r2
  refine hfin _ _ _ ha rfl ?_ ⟨m.size,0,by rw [Nat.zero_add]⟩
  refine h1.change (x0:=.vec e [] 0 z) (x':=.vec e ([]++xs) (0+k) z) hb htle (fun e=>(hne e).elim) (by simp [newSlice,Mem.alloc]) (fun c hc _=>by (try simp only [newSlice]);rw [Mem.get_alloc,if_neg (by omega)])
   (fun k' k1 k2 _=>by simp only [newSlice,Mem.alloc];omega) (fun c hc=>by simp only [newSlice,blkOf,Option.some.injEq] at hc;right;omega) ?_
  refine .inr ⟨m.size,0,l,by simp [newSlice],by simp [newSlice,Mem.alloc],fun hf=>Nat.lt_irrefl _ (h1.fr _ hf),by (try simp only [newSlice]);rw [Mem.get_alloc,if_pos rfl],?_,hx4,fun h=>by omega⟩
  rw [List.nil_append]
  exact hx3.mono (fun c hf=>⟨hf,by (try simp only [newSlice]);rw [Mem.get_alloc,if_neg (by have:=h1.fr c hf;omega)]⟩)
 ·rw [r1] at hsub
  simp only [SubOf] at hsub
  have hlen:=r5.length
  have hold:takeN (n*i.size) (vs.drop 0)=some vs:=by
   rw [List.drop_zero,← hl,hlen];simp [takeN]
  have ha:appendCells m e i.size l k (ev t s)=some (.slice (some ⟨c,0,none⟩) (n+k) (g+1),m.put c (.cells (vs++l) e (g+1) false)):=by
   rw [hsub]
   simp only [appendCells,r4,beq_self_eq_true,decide_eq_true hsz,Bool.and_self,if_true,hold]
   simp
  have hput':∀ d,c≠d→(m.put c (.cells (vs++l) e (g+1) false)).get d=m.get d:=fun d hd=>by rw [Mem.get_put,if_neg hd]
  refine hfin _ _ _ ha rfl ?_ ⟨c,g+1,rfl⟩
  refine h1.change (x':=.vec e (cs++xs) (n+k) z) hb htle (fun e=>(hne e).elim) (Nat.le_refl _) (fun d _ hd=>hput' d fun e=>hd (by rw [r1,e];rfl)) (fun k' k1 k2 k3=>by
   have:=k3 c (by rw [r1];rfl)
   simp only [Mem.put];omega) (fun d hd=>.inl (by rw [r1];exact hd)) ?_
  refine .inr ⟨c,g+1,vs++l,rfl,r2,r3,by rw [Mem.get_put,if_pos rfl],?_,by rw [List.all_append,r6,hx4];rfl,fun h=>by omega⟩
  exact (r5.append hx3).mono (fun d hd=>⟨hd,hput' d fun e=>r3 (e▸hd)⟩)
end Go.Vm
