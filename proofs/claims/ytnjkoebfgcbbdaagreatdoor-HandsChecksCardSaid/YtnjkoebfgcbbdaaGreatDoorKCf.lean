/-
  Texts of a proof, merged (VmB, VmC). Conditions: in each statement.
-/
import Derived.Test.YtnjkoebfgcbbdaaGreatDoorKCe
set_option linter.unusedSimpArgs false
set_option linter.unusedVariables false
set_option linter.unusedSectionVars false
set_option maxRecDepth 100000
set_option maxHeartbeats 8000000
abbrev aE:=@Nat.pow_le_pow_right
abbrev bL:=@Nat.not_lt_zero
abbrev cq:=@List.drop_zero
abbrev cr:=@Nat.lt_of_le_of_lt
abbrev cB:=@List.nodup_nil
abbrev cM:=@Nat.mul_le_mul
abbrev cU:=@List.take_of_length_le
abbrev dx:=@List.all_append
abbrev ee:=@Nat.add_zero
abbrev eK:=@Nat.le_add_right
abbrev eZ:=@List.mem_of_getElem?
abbrev fa:=@List.nil_append
abbrev fb:=@List.getElem?_of_mem
abbrev fc:=@Nat.and_le_left
abbrev gx:=@List.drop_eq_nil_of_le
namespace Go.Vm
section
open Go.Am
variable {E:Env} {L:Frame} {H:Heap} {nx:Nat} {Q:PV→Heap→Nat→Prop} {w:Bool}
variable {dst:Option Tmp} {ty:TypeId} {pos:String} {af:Array Edge} {gd:Option (Nat×Bool)}
def gi {α:Type} [Inhabited α] (l:List α) (k:Nat):α:=(l[k]?).getD default
def encs {α:Type} (enc:α→List FV):List α→List FV
 |[]=>[]
 |a::l=>enc a++encs enc l
class Enc (α:Type) extends Inhabited α where
 enc:α→List FV
 size:Nat
 len:∀ a,(enc a).length=size
section
variable {α:Type} [Enc α]
abbrev cells (l:List α):List FV:=encs Enc.enc l
theorem CQ (l:List α):(cells l).length=l.length*Enc.size α:=by
 induction l with
 |nil=>simp [cells,encs]
 |cons a l ih=>simp only [cells,encs,List.length_append,Enc.len,List.length_cons,Nat.succ_mul] at ih ⊢;omega
theorem jW (a:α) (l:List α) (k:Nat):gi (a::l) (k+1)=gi l k:=rfl
theorem OQ:∀ (l:List α) (k:Nat),k<l.length→(cells l).drop (k*Enc.size α)=Enc.enc (gi l k)++cells (l.drop (k+1))
 |a::l,0,_=>by simp [cells,encs,gi]
 |a::l,k+1,h=>by
  have ih:=OQ l k (by grind);simp only [cells,encs,List.drop_succ_cons,jW] at ih ⊢;rw [← ih,List.drop_append,Enc.len,gx (by rw [Enc.len,fY];omega)];grind
 |[],_,h=>by grind
theorem EG:∀ (l r:List α),cells (l++r)=cells l++cells r
 |[],_=>rfl
 |a::l,r=>by simp only [cells,encs,List.cons_append,List.append_assoc];rw [← EG l r]
end
instance:Enc Int:={ default:=0,enc:=fun n=>[.int .i64 n],size:=1,len:=fun _=>rfl }
theorem Aa.OH {α:Type} {_:Enc α} {t:TypeId} {x ix:Operand} {e:TypeId} {l:List α} {n:Nat} {k:IntKind} {i:Int} (hx:AU E.Γ L x=some (.p (.lst e (cells l) n))) (hi:AU E.Γ L ix=some (.p (.int k i)))
 (hs:elemSize E.P t=some (Enc.size α)) (h0:0≤i) (h1:i<l.length) (hn:l.length=n) (q:Q (.p (.E8 (Enc.enc (gi l i.toNat)++cells (l.drop (i.toNat+1))))) H nx):Aa E w ⟨dst,.indexAddr t x ix,ty,pos,af,gd⟩ L H nx Q :=
 Aa.b7s hx hi hs h0 (by omega) (by rw [OQ l i.toNat (by omega)];exact q)
theorem Aa.Ap {α:Type} {_:Enc α} {t:TypeId} {x ix:Operand} {e:TypeId} {l:List α} {n:Nat} {k:IntKind} {i:Nat} (hx:AU E.Γ L x=some (.p (.lst e (cells l) n))) (hi:AU E.Γ L ix=some (.p (.int k (i:Int))))
 (hs:elemSize E.P t=some (Enc.size α)) (h1:i<l.length) (hn:l.length=n) (q:Q (.p (.E8 (Enc.enc (gi l i)++cells (l.drop (i+1))))) H nx):Aa E w ⟨dst,.indexAddr t x ix,ty,pos,af,gd⟩ L H nx Q :=
 Aa.OH hx hi hs (by omega) (by omega) hn q
theorem Aa.a7v {α:Type} {_:Enc α} {t:TypeId} {x ix:Operand} {e:TypeId} {l:List α} {n:Nat} {k:IntKind} {i:Nat} (hx:AU E.Γ L x=some (.p (.lst e (cells l) n))) (hi:AU E.Γ L ix=some (.p (.int k ((i:Int)-1))))
 (hs:elemSize E.P t=some (Enc.size α)) (h0:0<i) (h1:i-1<l.length) (hn:l.length=n) (q:Q (.p (.E8 (Enc.enc (gi l (i-1))++cells (l.drop (i-1+1))))) H nx):Aa E w ⟨dst,.indexAddr t x ix,ty,pos,af,gd⟩ L H nx Q :=
 Aa.OH hx hi hs (by omega) (by omega) hn (by grind)
abbrev lst {α:Type} [Enc α] (e:TypeId) (l:List α):PV:=.p (.lst e (cells l) l.length)
section
variable {bn:Nat} {ops:Array Oper} {op:Op} {l:List Oper} {i:Nat} {R:Frame→Heap→Nat→Prop}
theorem Ah.one (h:Aa E true ⟨dst,op,ty,pos,af,none⟩ L H nx fun r H' nx'=>Ah E bn ops l (H8 L dst r) H' nx' R):Ah E bn ops (⟨dst,op,ty,pos,af,none⟩::l) L H nx R:=Ah.cons rfl h
theorem Ah.take {j d:Nat} {want:Bool} (hd:(ops[j]?).bind (·.dst)=some d) (hb:Fp L d=some (.p (.bool want))) (h:Aa E true ⟨dst,op,ty,pos,af,some (j,want)⟩ L H nx fun r H' nx'=>Ah E bn ops l (H8 L dst r) H' nx' R) :
 Ah E bn ops (⟨dst,op,ty,pos,af,some (j,want)⟩::l) L H nx R:=Ah.cons ⟨want,d,hd,hb,by cases want<;>rfl⟩ h
theorem Ah.drop {j d:Nat} {want b:Bool} (hd:(ops[j]?).bind (·.dst)=some d) (hb:Fp L d=some (.p (.bool b))) (hne:(b==want)=false) (h:Ah E bn ops l (H8 L dst (.Eb [])) H nx R) :
 Ah E bn ops (⟨dst,op,ty,pos,af,some (j,want)⟩::l) L H nx R:=Ah.skip ⟨b,d,hd,hb,hne.symm⟩ h
theorem Af.drop {j d:Nat} {want b:Bool} (hd:(ops[j]?).bind (·.dst)=some d) (hb:Fp L d=some (.p (.bool b))) (hne:(b==want)=false) (h:Af E bn ops (i+1) l (H8 L dst (.Eb [])) H nx R) :
 Af E bn ops i (⟨dst,op,ty,pos,af,some (j,want)⟩::l) L H nx R:=Af.skip ⟨b,d,hd,hb,hne.symm⟩ h
theorem Ah.guard {j d:Nat} {want:Bool} {p:Prop} {_:Decidable p} (hd:(ops[j]?).bind (·.dst)=some d) (hb:Fp L d=some (.p (.bool (decide p))))
 (ht:p→Ah E bn ops (⟨dst,op,ty,pos,af,some (j,want)⟩::l) ((d,.p (.bool true))::L) H nx R) (hf:¬ p→Ah E bn ops (⟨dst,op,ty,pos,af,some (j,want)⟩::l) ((d,.p (.bool false))::L) H nx R) :
 Ah E bn ops (⟨dst,op,ty,pos,af,some (j,want)⟩::l) L H nx R:=Ah.split rfl hd hb ht hf
theorem Af.guard {j d:Nat} {want:Bool} {p:Prop} {_:Decidable p} (hd:(ops[j]?).bind (·.dst)=some d) (hb:Fp L d=some (.p (.bool (decide p))))
 (ht:p→Af E bn ops i (⟨dst,op,ty,pos,af,some (j,want)⟩::l) ((d,.p (.bool true))::L) H nx R) (hf:¬ p→Af E bn ops i (⟨dst,op,ty,pos,af,some (j,want)⟩::l) ((d,.p (.bool false))::L) H nx R) :
 Af E bn ops i (⟨dst,op,ty,pos,af,some (j,want)⟩::l) L H nx R:=Af.split rfl hd hb ht hf
def Bq (E:Env) (bn:Nat) (k:Code) (Q:BM→Frame→Heap→Nat→Prop) (e:BM) (L:Frame) (H:Heap) (nx:Nat):Prop :=
 match e with
 | .normal=>Ad E bn k L H nx Q
 | .ret=>Q .ret L H nx
 | .exit i=>Q (.exit i) L H nx
def Bd (id:Nat) (Q:BM→Frame→Heap→Nat→Prop) (e:BM) (L:Frame) (H:Heap) (nx:Nat):Prop :=
 match e with
 | .normal=>Q .normal L H nx
 | .ret=>Q .ret L H nx
 | .exit i=>if i=id then Q .normal L H nx else Q (.exit i) L H nx
def Aj (I:Frame→Heap→Nat→Prop) (Q:BM→Frame→Heap→Nat→Prop) (e:BM) (L:Frame) (H:Heap) (nx:Nat):Prop :=
 match e with
 | .normal=>I L H nx
 | .ret=>Q .ret L H nx
 | .exit i=>Q (.exit i) L H nx
variable {Q:BM→Frame→Heap→Nat→Prop} {I:Frame→Heap→Nat→Prop} {a b c k:Code} {id:Nat} {x:Operand}
theorem Bq.normal (h:Ad E bn k L H nx Q):Bq E bn k Q .normal L H nx:=h
theorem Bq.ret (h:Q .ret L H nx):Bq E bn k Q .ret L H nx:=h
theorem Bd.normal (h:Q .normal L H nx):Bd id Q .normal L H nx:=h
theorem Bd.ret (h:Q .ret L H nx):Bd id Q .ret L H nx:=h
theorem Bd.exit (h:Q .normal L H nx):Bd id Q (.exit id) L H nx:=by simp only [Bd,if_true];exact h
theorem Aj.normal (h:I L H nx):Aj I Q .normal L H nx:=h
theorem Aj.ret (h:Q .ret L H nx):Aj I Q .ret L H nx:=h
theorem Aj.exit (h:Q (.exit i) L H nx):Aj I Q (.exit i) L H nx:=h
theorem Ad.to (h:Ad E bn a L H nx (Bq E bn k Q)):Ad E bn (.seq a k) L H nx Q :=
 Ad.seq (h.mono fun e _ _ _ q=>by cases e<;>exact q)
theorem Ad.Bf (h:Ah E bn ops ops.toList L H nx fun L' H' nx'=>Ad E bn k L' H' nx' Q):Ad E bn (.seq (.region id ops false) k) L H nx Q:=Ad.seq (Ad.region h)
theorem Ad.Bl (h:Af E bn ops 0 ops.toList L H nx fun L' H' nx'=>Ad E bn k L' H' nx' Q):Ad E bn (.seq (.region id ops true) k) L H nx Q:=Ad.seq (Ad.Dq h)
theorem Ad.assoc (h:Ad E bn (.seq a (.seq b c)) L H nx Q):Ad E bn (.seq (.seq a b) c) L H nx Q:=by
 intro B hB m F σ t h1 h2 h3;obtain ⟨e,s,⟨K,hk⟩,q⟩:=h B hB m F σ t h1 h2 h3;refine ⟨e,s,⟨K,fun N D hN hD=>?_⟩,q⟩;have:=hk N D hN hD;simp only [Ce] at this ⊢;grind
theorem Ad.CO (h:Ad E bn k L H nx Q):Ad E bn (.seq .skip k) L H nx Q:=Ad.seq (Ad.skip h)
theorem Ad.Fq (h:Q .ret L H nx):Ad E bn (.seq .ret k) L H nx Q:=Ad.seq (Ad.ret h)
theorem Ad.Gw (h:Q (.exit i) L H nx):Ad E bn (.seq (.exit i) k) L H nx Q:=Ad.seq (Ad.exit h)
theorem Ad.CW (h:Ad E bn a L H nx (Bd id (Bq E bn k Q))):Ad E bn (.seq (.block id a) k) L H nx Q :=
 Ad.to (Ad.block (h.mono fun e _ _ _ q=>by cases e<;>exact q))
theorem Ad.J9 (h:Ad E bn a L H nx (Bd id Q)):Ad E bn (.block id a) L H nx Q :=
 Ad.block (h.mono fun e _ _ _ q=>by cases e<;>exact q)
theorem Ad.JO (t:Bool) (hc:AU E.Γ L x=some (.p (.bool t))) (ht:t=true→Ad E bn (.seq a k) L H nx Q) (hf:t=false→Ad E bn (.seq b k) L H nx Q):Ad E bn (.seq (.cond x a b) k) L H nx Q:=by
 intro B hB m F σ u h1 h2 h3;have hx:=Ih h1 h2 hc;cases t with
 |true =>
  obtain ⟨e',s,⟨K,hk⟩,q⟩:=ht rfl B hB m F σ u h1 h2 h3;exact ⟨e',s,⟨K,fun N D hN hD=>by have:=hk N D hN hD;simp only [Ce,hx] at this ⊢;omega⟩,q⟩
 |false =>
  obtain ⟨e',s,⟨K,hk⟩,q⟩:=hf rfl B hB m F σ u h1 h2 h3;exact ⟨e',s,⟨K,fun N D hN hD=>by have:=hk N D hN hD;simp only [Ce,hx] at this ⊢;omega⟩,q⟩
theorem Ad.AX (hc:AU E.Γ L x=some (.p (.bool true))) (ht:Ad E bn (.seq a k) L H nx Q):Ad E bn (.seq (.cond x a b) k) L H nx Q:=Ad.JO true hc (fun _=>ht) (fun h=>by cases h)
theorem Ad.Ak (hc:AU E.Γ L x=some (.p (.bool false))) (hf:Ad E bn (.seq b k) L H nx Q):Ad E bn (.seq (.cond x a b) k) L H nx Q:=Ad.JO false hc (fun h=>by cases h) (fun _=>hf)
theorem Ad.Ac {p:Prop} {_:Decidable p} (hc:AU E.Γ L x=some (.p (.bool (decide p)))) (ht:p→Ad E bn (.seq a k) L H nx Q) (hf:¬ p→Ad E bn (.seq b k) L H nx Q):Ad E bn (.seq (.cond x a b) k) L H nx Q :=
 Ad.JO (decide p) hc (fun h=>ht (of_decide_eq_true h)) (fun h=>hf (of_decide_eq_false h))
theorem Ad.D6 {α:Type} (Lf:α→Frame) (Hf:α→Heap) (Dw:Nat) (inv:α→Prop) (μ:α→Nat) (a0:α) (hb:bn≤Dw) (h0:inv a0) (hc:YR L H nx (Lf a0) (Hf a0) Dw)
 (hs:∀ s,inv s→Ad E bn a (Lf s) (Hf s) Dw (Aj (fun L' H' nx'=>∃ s',inv s'∧μ s'<μ s∧YR L' H' nx' (Lf s') (Hf s') Dw) Q)):Ad E bn (.loop a) L H nx Q :=
 Ad.loop Lf Hf Dw inv μ a0 hb h0 hc fun s hi=>(hs s hi).mono fun e _ _ _ q=>by cases e<;>exact q
theorem Gq.nil {k:Nat}:Gq k [] L:=trivial
theorem Gq.cons {k i:Nat} {v v0:PV} {L0:Frame} (hu:v0.under k) (hv:Fp L i=some v) (hle:tK v v0) (t:Gq k L0 L):Gq k ((i,v0)::L0) L:=⟨⟨hu,v,hv,hle⟩,t⟩
theorem Gq.same {k i:Nat} {v0:PV} {L0:Frame} (hu:v0.under k) (hv:Fp L i=some v0) (t:Gq k L0 L):Gq k ((i,v0)::L0) L:=⟨⟨hu,v0,hv,.refl _⟩,t⟩
theorem BG.nil {k:Nat}:BG k [] H:=trivial
theorem BG.cons {k i:Nat} {v v0:HB} {L0:Heap} (hi:i<k) (hu:v0.under k) (hv:hget H i=some v) (hle:JW v v0) (t:BG k L0 H):BG k ((i,v0)::L0) H:=⟨⟨hi,hu,v,hv,hle⟩,t⟩
theorem Done.ret {P:Program} {rs:List ResultVar} {Q:PV→Heap→Nat→Prop} {r r0:PV} {H0:Heap} {Dw:Nat} (h:Ez P rs L H=some r0) (hle:tK r0 r) (hu:r.under Dw) (hH:BG Dw H0 H) (hn:Dw≤nx) (hb:bn≤Dw) (q:Q r H0 Dw):Done P rs bn Q .ret L H nx :=
 ⟨r0,h,r,H0,Dw,hle,hu,hH,hn,hb,q⟩
end
end
section
open Go.Am
variable {E:Env} {L:Frame} {H:Heap} {nx:Nat} {Q:PV→Heap→Nat→Prop} {w:Bool}
variable {dst:Option Tmp} {ty:TypeId} {pos:String} {af:Array Edge} {gd:Option (Nat×Bool)}
mutual
def PV.rn (ρ:Nat→Nat):PV→PV
 | .p x=>.p x
 | .agg cs=>.agg (C9.rn ρ cs)
 | .Eb cs=>.Eb (C9.rn ρ cs)
 | .vec b tag off len=>.vec (ρ b) tag off len
 | .ref b off=>.ref (ρ b) off
 | .EH b tag off=>.EH (ρ b) tag off
 | .mref b=>.mref (ρ b)
 | .clo f fs cs=>.clo f (C9.rn ρ fs) (C9.rn ρ cs)
def C9.rn (ρ:Nat→Nat):List PV→List PV
 |[]=>[]
 |c::cs=>PV.rn ρ c::C9.rn ρ cs
end
def HB.rn (ρ:Nat→Nat):HB→HB
 | .box e cs=>.box e (C9.rn ρ cs)
 | .vec e cs n z=>.vec e cs n z
 | .map es=>.map es
 | .QN e cs n=>.QN e (C9.rn ρ cs) n
 | .Jz ks cs=>.Jz ks (C9.rn ρ cs)
theorem HB.xK (ρ:Nat→Nat) (x:HB):(x.rn ρ).tag=x.tag:=by cases x<;>rfl
section
variable {m:Mem} {F:Nat→Prop} {T T':Nat→Option Tg} {σ σ':Nat→Value} {n n':Nat} {ρ:Nat→Nat}
mutual
theorem RP.rn (h:∀ b,b<n→ρ b<n'∧T' (ρ b)=T b∧σ' (ρ b)=σ b):∀ {x:PV} {v:Value},RP m F T σ n x v→RP m F T' σ' n' (x.rn ρ) v
 |_,_,.p r=>.p r
 |_,_,.agg r hc=>.agg (Dt.rn h r) hc
 |_,_,.Eb r=>.Eb (Dt.rn h r)
 |_,_,.vec hb hc r=>.vec (h _ hb).1 hc (by rw [(h _ hb).2.1,(h _ hb).2.2];exact r)
 |_,_,.ref hb hc r=>.ref (h _ hb).1 hc (by rw [(h _ hb).2.1,(h _ hb).2.2];exact r)
 |_,_,.EH hb hc r=>.EH (h _ hb).1 hc (by rw [(h _ hb).2.1,(h _ hb).2.2];exact r)
 |_,_,.mref hb hc r=>.mref (h _ hb).1 hc (by rw [(h _ hb).2.1,(h _ hb).2.2];exact r)
 |_,_,.clo r1 r2=>.clo (Dt.rn h r1) (Dt.rn h r2)
theorem Dt.rn (h:∀ b,b<n→ρ b<n'∧T' (ρ b)=T b∧σ' (ρ b)=σ b):∀ {x:List PV} {v:List Value},Dt m F T σ n x v→Dt m F T' σ' n' (C9.rn ρ x) v
 |_,_,.nil=>.nil
 |_,_,.cons r t=>.cons (RP.rn h r) (Dt.rn h t)
end
mutual
theorem RP.WC (h:∀ b,b<n→(∀ t,T b=some t→T' (ρ b)=some t)∧σ' (ρ b)=σ b):∀ {x:PV} {v:Value},x.under n→RP m F T' σ' n' (x.rn ρ) v→RP m F T σ n x v
 | .p _,_,_,r=>by cases r with|p r=>exact .p r
 | .agg cs,_,hu,r=>by
  simp only [PV.rn] at r;cases r with|agg r hc=>exact .agg (Dt.WC h hu r) hc
 | .Eb cs,_,hu,r=>by
  simp only [PV.rn] at r;cases r with|Eb r=>exact .Eb (Dt.WC h hu r)
 | .vec b tag off len,_,hu,r=>by
  simp only [PV.rn] at r;cases r with
  |vec hb hc r =>
   refine .vec hu hc fun k hk=>?_
   have:=r k ((h b hu).1 _ hk);rw [(h b hu).2] at this;exact this
 | .ref b off,_,hu,r=>by
  simp only [PV.rn] at r;cases r with
  |ref hb hc r =>
   refine .ref hu hc fun hk=>?_
   have:=r ((h b hu).1 _ hk);rw [(h b hu).2] at this;exact this
 | .EH b tag off,_,hu,r=>by
  simp only [PV.rn] at r;cases r with
  |EH hb hc r =>
   refine .EH hu hc fun k hk=>?_
   have:=r k ((h b hu).1 _ hk);rw [(h b hu).2] at this;exact this
 | .mref b,_,hu,r=>by
  simp only [PV.rn] at r;cases r with
  |mref hb hc r =>
   refine .mref hu hc fun hk=>?_
   have:=r ((h b hu).1 _ hk);rw [(h b hu).2] at this;exact this
 | .clo f fs cs,_,hu,r=>by
  simp only [PV.rn] at r;cases r with|clo r1 r2=>exact .clo (Dt.WC h hu.1 r1) (Dt.WC h hu.2 r2)
theorem Dt.WC (h:∀ b,b<n→(∀ t,T b=some t→T' (ρ b)=some t)∧σ' (ρ b)=σ b):∀ {x:List PV} {v:List Value},C9.under n x→Dt m F T' σ' n' (C9.rn ρ x) v→Dt m F T σ n x v
 |[],_,_,r=>by cases r;exact .nil
 |c::cs,_,hu,r=>by cases r with|cons r t=>exact .cons (RP.WC h hu.1 r) (Dt.WC h hu.2 t)
end
end
def idx:List Nat→Nat→Option Nat
 |[],_=>none
 |a::l,b=>match Nat.decEq a b with
  | .isTrue _=>some 0
  | .isFalse _=>(idx l b).map (·+1)
theorem Y6:∀ {l:List Nat} {b i:Nat},idx l b=some i→l[i]?=some b
 |a::l,b,i,h=>by
  simp only [idx] at h;split at h
  ·grind
  ·simp only [Option.map_eq_some_iff] at h
   obtain ⟨j,h1,rfl⟩:=h;simpa using Y6 h1
theorem a5r:∀ {l:List Nat} {b i:Nat},l.Nodup→l[i]?=some b→idx l b=some i
 |[],_,_,_,h=>by grind
 |a::l,b,i,hn,h=>by
  simp only [List.nodup_cons] at hn;cases i with
  |zero =>
   simp only [List.getElem?_cons_zero,Option.some.injEq] at h;subst h;simp only [idx];cases hd:Nat.decEq a a with
   |isTrue _=>rfl
   |isFalse e=>omega
  |succ i =>
   have hne:a≠b:=fun e=>hn.1 (e▸eZ h)
   simp only [idx];cases hd:Nat.decEq a b with
   |isTrue e=>omega
   |isFalse _=>simp only [a5r hn.2 h,Option.map_some]
def rho (ns:List Nat) (nx:Nat) (i:Nat):Nat :=
 match ns[i]? with
 |some b=>b
 |none=>nx+(i-ns.length)
def merge (ns:List Nat) (ρ:Nat→Nat) (H':Heap):Heap→Heap
 |[]=>[]
 |(b,x)::H=>match idx ns b with
  |none=>(b,x)::merge ns ρ H' H
  |some i=>match hget H' i with
   |some y=>(b,y.rn ρ)::merge ns ρ H' H
   |none=>merge ns ρ H' H
def news (k:Nat) (ρ:Nat→Nat):Heap→Heap→Heap
 |[],H=>H
 |(i,x)::H',H=>match Nat.decLt i k with
  | .isTrue _=>news k ρ H' H
  | .isFalse _=>(ρ i,x.rn ρ)::news k ρ H' H
theorem Gh {ns:List Nat} {ρ:Nat→Nat} {H':Heap}:∀ {H:Heap} {b:Nat},idx ns b=none→hget (merge ns ρ H' H) b=hget H b
 |[],_,_=>rfl
 |(a,x)::H,b,h=>by
  have ih:=Gh (ns:=ns) (ρ:=ρ) (H':=H') (H:=H) h;simp only [merge];cases hi:idx ns a with
  |none=>simp only [Bo,ih]
  |some i =>
   have hne:a≠b:=fun e=>by grind
   simp only [Bo,if_neg hne];cases hget H' i with
   |none=>omega
   |some y=>simp only [Bo,if_neg hne];omega
theorem Kq {ns:List Nat} {ρ:Nat→Nat} {H':Heap}:∀ {H:Heap} {b i:Nat},idx ns b=some i→hget (merge ns ρ H' H) b=if (hget H b).isSome then (hget H' i).map (HB.rn ρ) else none
 |[],_,_,_=>by rfl
 |(a,x)::H,b,i,h=>by
  have ih:=Kq (ns:=ns) (ρ:=ρ) (H':=H') (H:=H) h;simp only [merge];by_cases e:a=b
  ·subst e
   rw [h];simp only [Bo,if_true,Option.isSome_some];cases hi:hget H' i with
   |none =>
    grind
   |some y=>simp only [Bo,if_true,Option.map_some]
  ·simp only [Bo,if_neg e]
   cases hj:idx ns a with
   |none=>simp only [Bo,if_neg e];omega
   |some j =>
    simp only;cases hget H' j with
    |none=>omega
    |some y=>simp only [Bo,if_neg e];omega
theorem KU {k:Nat} {ρ:Nat→Nat} {H:Heap}:∀ {H':Heap} {b:Nat},(∀ i j,ρ i=ρ j→k≤i→k≤j→i=j) →
 (∃ i,k≤i∧ρ i=b∧(hget H' i).isSome∧hget (news k ρ H' H) b=(hget H' i).map (HB.rn ρ))∨((∀ i,k≤i→ρ i=b→hget H' i=none)∧hget (news k ρ H' H) b=hget H b)
 |[],b,_=>.inr ⟨fun _ _ _=>rfl,rfl⟩
 |(i,x)::H',b,hinj=>by
  have ih:=KU (k:=k) (ρ:=ρ) (H:=H) (H':=H') (b:=b) hinj;simp only [news];cases hd:Nat.decLt i k with
  |isTrue hlt =>
   rcases ih with ⟨j,h1,h2,h3,h4⟩|⟨h1,h2⟩
   ·refine .inl ⟨j,h1,h2,?_⟩
    rw [Bo,if_neg (by omega)];grind
   ·refine .inr ⟨fun j hj hb=>?_,h2⟩
    rw [Bo,if_neg (by omega)];grind
  |isFalse hge =>
   simp only [Bo];grind
def HIn (ρ:Nat→Nat) (H:Heap):Heap→Prop
 |[]=>True
 |(i,x)::Hc=>(∃ y,hget H (ρ i)=some y∧JW y (x.rn ρ))∧HIn ρ H Hc
theorem HIn.get {ρ:Nat→Nat} {H:Heap}:∀ {Hc:Heap},HIn ρ H Hc→∀ i x,hget Hc i=some x→∃ y,hget H (ρ i)=some y∧JW y (x.rn ρ)
 |[],_,_,_,h=>by cases h
 |(j,y)::Hc,⟨h1,h2⟩,i,x,h=>by
  rw [Bo] at h;by_cases e:j=i
  ·grind
  ·rw [if_neg e] at h;exact HIn.get h2 i x h
def LV (k:Nat):Heap→Prop
 |[]=>True
 |(i,x)::H=>(i<k∧x.under k)∧LV k H
theorem LV.get {k:Nat}:∀ {H:Heap},LV k H→∀ i x,hget H i=some x→i<k∧x.under k
 |[],_,_,_,h=>by cases h
 |(j,y)::Hc,⟨h1,h2⟩,i,x,h=>by
  rw [Bo] at h;by_cases e:j=i
  ·grind
  ·rw [if_neg e] at h;exact LV.get h2 i x h
theorem RB.le {m:Mem} {F:Nat→Prop} {T:Nat→Option Tg} {σ:Nat→Value} {n:Nat} {s:Value} {x y:HB} (h:JW x y) (r:RB m F T σ n s x):RB m F T σ n s y:=by
 cases h with
 |refl=>exact r
 |box h=>obtain ⟨c,vs,r1,r2,r3,r4,r5,r6⟩:=r;exact ⟨c,vs,r1,r2,r3,r4,Dt.le h r5,r6⟩
 |vec h hn =>
  subst hn;rcases r with ⟨r1,r2,r3⟩|⟨c,g,vs,r1,r2,r3,r4,r5,r6⟩
  ·subst r1
   cases h with|refl=>exact .inl ⟨rfl,r2,r3⟩
  ·exact .inr ⟨c,g,vs,r1,r2,r3,r4,Dj.le h r5,r6⟩
theorem RB.rn {m:Mem} {F:Nat→Prop} {T T':Nat→Option Tg} {σ σ':Nat→Value} {n n':Nat} {ρ:Nat→Nat} {s:Value} {x:HB} (h:∀ b,b<n→ρ b<n'∧T' (ρ b)=T b∧σ' (ρ b)=σ b) (r:RB m F T σ n s x):RB m F T' σ' n' s (x.rn ρ):=by
 cases x with
 |box e cs=>obtain ⟨c,vs,r1,r2,r3,r4,r5,r6⟩:=r;exact ⟨c,vs,r1,r2,r3,r4,Dt.rn h r5,r6⟩
 |vec e cs k z=>exact r
 |map es=>exact r
 |QN e cs k=>obtain ⟨c,g,vs,r1,r2,r3,r4,r5,r6⟩:=r;exact ⟨c,g,vs,r1,r2,r3,r4,Dt.rn h r5,r6⟩
 |Jz ks cs=>obtain ⟨r,l,clock,r1,r2,r3,r4,r5,r6,r7⟩:=r;exact ⟨r,l,clock,r1,r2,r3,r4,r5,Dt.rn h r6,r7⟩
theorem RB.WC {m:Mem} {F:Nat→Prop} {T T':Nat→Option Tg} {σ σ':Nat→Value} {n n':Nat} {ρ:Nat→Nat} {s:Value} {x:HB} (h:∀ b,b<n→(∀ t,T b=some t→T' (ρ b)=some t)∧σ' (ρ b)=σ b) (hu:x.under n) (r:RB m F T' σ' n' s (x.rn ρ)):RB m F T σ n s x:=by
 cases x with
 |box e cs=>obtain ⟨c,vs,r1,r2,r3,r4,r5,r6⟩:=r;exact ⟨c,vs,r1,r2,r3,r4,Dt.WC h hu r5,r6⟩
 |vec e cs k z=>exact r
 |map es=>exact r
 |QN e cs k=>obtain ⟨c,g,vs,r1,r2,r3,r4,r5,r6⟩:=r;exact ⟨c,g,vs,r1,r2,r3,r4,Dt.WC h hu r5,r6⟩
 |Jz ks cs=>obtain ⟨r,l,clock,r1,r2,r3,r4,r5,r6,r7⟩:=r;exact ⟨r,l,clock,r1,r2,r3,r4,r5,Dt.WC h hu r6,r7⟩
end
section
open Go.Am
variable {E:Env} {L:Frame} {H:Heap} {nx:Nat} {Q:PV→Heap→Nat→Prop} {w:Bool}
variable {dst:Option Tmp} {ty:TypeId} {pos:String} {af:Array Edge} {gd:Option (Nat×Bool)}
def evs (Γ:Nat→Option (List Value×TypeId)) (L:Frame):List Operand→Option (List PV)
 |[]=>some []
 |o::l=>match AU Γ L o with
  |some x=>match evs Γ L l with
   |some r=>some (x::r)
   |none=>none
  |none=>none
theorem Rn {Γ:Nat→Option (List Value×TypeId)} {m:Mem} {F:Nat→Prop} {σ:Nat→Value} {t:Tr Value} (hx:Ctx Γ m F σ H nx) (hl:RL m F (htag H) σ nx L t):∀ {os:List Operand} {xs:List PV},evs Γ L os=some xs→Dt m F (htag H) σ nx xs (os.map (ev t))
 |[],_,h=>by cases h;exact .nil
 |o::os,xs,h=>by
  simp only [evs] at h;cases h1:AU Γ L o with
  |none=>grind
  |some x =>
   rw [h1] at h;cases h2:evs Γ L os with
   |none=>grind
   |some r=>rw [h2] at h;cases h;exact .cons (Bz hx hl h1) (Rn hx hl h2)
theorem Dt.append {m:Mem} {F:Nat→Prop} {T:Nat→Option Tg} {σ:Nat→Value} {n:Nat}:∀ {cs ds:List PV} {vs ws:List Value},Dt m F T σ n cs vs→Dt m F T σ n ds ws→Dt m F T σ n (cs++ds) (vs++ws)
 |_,_,_,_,.nil,h=>h
 |_,_,_,_,.cons h t,h'=>.cons h (Dt.append t h')
theorem a3x {ns:List Nat} {i b:Nat} (h:ns[i]?=some b):rho ns nx i=b:=by simp only [rho,h]
theorem a8x {ns:List Nat} {i:Nat} (h:ns.length≤i):rho ns nx i=nx+(i-ns.length):=by simp only [rho,List.getElem?_eq_none h]
theorem oH {fo:Operand} {args:Array Operand} {g:FuncId} {fs cs BF ac:List PV} {ns:List Nat} {Hc:Heap} (hf:AU E.Γ L fo=some (.clo g fs cs)) (ha:evs E.Γ L args.toList=some BF)
 (hle:OY (fs++BF++cs) (C9.rn (rho ns nx) ac)) (hu:C9.under ns.length ac) (xJ:LV ns.length Hc) (hin:HIn (rho ns nx) H Hc) (hnd:ns.Nodup) (hlt:∀ b∈ns,b<nx) (hw:w=false→Hc=[])
 {m:Mem} {F:Nat→Prop} {σ:Nat→Value} {t:Tr Value} (h1:Ctx E.Γ m F σ H nx) (h2:RL m F (htag H) σ nx L t) :
 ∃ (vf vc:List Value) (σc:Nat→Value),ev t fo=.func (.func g) vf.toArray vc.toArray∧Ctx E.Γ m F σc Hc ns.length∧Dt m F (htag Hc) σc ns.length ac (vf++args.toList.map (ev t)++vc) ∧
  ∀ v m' r H' nx' F' σ',Ctx E.Γ m' F' σ' H' nx'→RP m' F' (htag H') σ' nx' r v→Step m F σc Hc ns.length m' F' σ' H' nx' →
   ∃ σn,Ctx E.Γ m' F' σn (news ns.length (rho ns nx) H' (merge ns (rho ns nx) H' H)) (nx+(nx'-ns.length)) ∧
    RP m' F' (htag (news ns.length (rho ns nx) H' (merge ns (rho ns nx) H' H))) σn (nx+(nx'-ns.length)) (r.rn (rho ns nx)) v ∧
    Step m F σ H nx m' F' σn (news ns.length (rho ns nx) H' (merge ns (rho ns nx) H' H)) (nx+(nx'-ns.length))∧(w=false→Quiet m m'):=by
 generalize hρ:rho ns nx=ρ at *;generalize hk:ns.length=k at *;have Ju:∀ i,i<k→∃ b,ns[i]?=some b∧ρ i=b∧b<nx:=fun i hi=>by
  have:i<ns.length:=by omega
  refine ⟨ns[i],ai this,?_,hlt _ (cN this)⟩;rw [← hρ];exact a3x (ai this)
 have hge:∀ i,k≤i→ρ i=nx+(i-k):=fun i hi=>by rw [← hρ,← hk];exact a8x (by omega)
 have hidx:∀ i,i<k→idx ns (ρ i)=some i:=fun i hi=>by
  obtain ⟨b,hb,e,_⟩:=Ju i hi;rw [e];exact a5r hnd hb
 have hidx':∀ b i,idx ns b=some i→i<k∧b=ρ i:=fun b i hi=>by
  have h0:=Y6 hi;grind
 have hTc:∀ b t,htag Hc b=some t→htag H (ρ b)=some t:=fun b t hb=>by
  unfold htag at hb ⊢;cases h0:hget Hc b with
  |none=>grind
  |some x =>
   rw [h0] at hb;obtain ⟨y,hy,hle⟩:=hin.get b x h0;rw [hy,Option.map_some,hle.tag,HB.xK];grind
 have hun:∀ b,b<k→(∀ t,htag Hc b=some t→htag H (ρ b)=some t)∧σ (ρ b)=(fun i=>σ (ρ i)) b:=fun b _=>⟨hTc b,rfl⟩
 have hown:∀ c,own Hc (fun i=>σ (ρ i)) c→∃ i x y,i<k∧hget Hc i=some x∧hget H (ρ i)=some y∧Dl (σ (ρ i))=some c:=by
  rintro c ⟨i,x,hi,hb⟩;obtain ⟨y,hy,_⟩:=hin.get i x hi;exact ⟨i,x,y,(xJ.get i x hi).1,hi,hy,hb⟩
 have hown':∀ c,own Hc (fun i=>σ (ρ i)) c→own H σ c:=fun c ho=>by
  obtain ⟨i,_,y,_,_,hy,hb⟩:=hown c ho;exact ⟨ρ i,y,hy,hb⟩
 have XT:Ctx E.Γ m F (fun i=>σ (ρ i)) Hc k:=by
  refine ⟨h1.fr,fun i x hi=>?_,fun i i' x x' c hi hi' hb hb'=>?_,h1.gl⟩
  ·obtain ⟨y,hy,hle⟩:=hin.get i x hi
   obtain ⟨hik,hux⟩:=xJ.get i x hi;exact ⟨hik,RB.WC hun hux (RB.le hle (h1.hp _ y hy).2)⟩
  ·obtain ⟨y,hy,_⟩:=hin.get i x hi
   obtain ⟨y',hy',_⟩:=hin.get i' x' hi';have e:=h1.sep _ _ y y' c hy hy' hb hb';have e1:=hidx i (xJ.get i x hi).1;have e2:=hidx i' (xJ.get i' x' hi').1;rw [e,e2] at e1;cases e1;rfl
 have hfv:=Bz h1 h2 hf;generalize hfe:ev t fo=fv at hfv;cases hfv with
 |clo r1 r2 =>
  rename_i vf vc;have hargs:Dt m F (htag Hc) (fun i=>σ (ρ i)) k ac (vf++args.toList.map (ev t)++vc):=Dt.WC hun hu (Dt.le hle ((r1.append (Rn h1 h2 ha)).append r2));refine ⟨vf,vc,_,rfl,XT,hargs,?_⟩;intro v m' r H' nx' F' σ' c1 c2 c3;have hkn:k≤nx':=c3.Vz;have b8a:∀ i,i<k→hget H (ρ i)=none→hget H' i=none:=fun i hi hn=>by
   have h0:=(c3.names i hi).1;cases hh:hget H' i with
   |none=>rfl
   |some y =>
    have hty:htag H' i=some y.tag:=by simp [htag,hh]
    rw [hty] at h0;cases hc':htag Hc i with
    |none=>rw [hc'] at h0;exact h0.elim
    |some t =>
     have:=hTc i t hc';simp [htag,hn] at this
  have hinj:∀ i j,ρ i=ρ j→k≤i→k≤j→i=j:=fun i j e hi hj=>by
   rw [hge i hi,hge j hj] at e;omega
  let σn:Nat→Value:=fun b=>if b<nx then (match idx ns b with|some i=>σ' i|none=>σ b) else σ' (b-nx+k)
  have b4l:∀ j,j<nx'→hget (news k ρ H' (merge ns ρ H' H)) (ρ j)=(hget H' j).map (HB.rn ρ):=fun j hj=>by
   rcases ax j k with hjk|hjk
   ·obtain ⟨b,hb,e,hbn⟩:=Ju j hjk
    rcases KU (k:=k) (ρ:=ρ) (H:=merge ns ρ H' H) (H':=H') (b:=ρ j) hinj with ⟨i,hi,e',_⟩|⟨_,e'⟩
    ·rw [hge i hi,e] at e';omega
    ·rw [e',Kq (hidx j hjk)]
     cases hH:hget H (ρ j) with
     |none=>rw [b8a j hjk hH];rfl
     |some y=>rfl
   ·rcases KU (k:=k) (ρ:=ρ) (H:=merge ns ρ H' H) (H':=H') (b:=ρ j) hinj with ⟨i,hi,e',_,e''⟩|⟨e',e''⟩
    ·rw [hinj i j e' hi hjk] at e'';exact e''
    ·have hno:idx ns (ρ j)=none:=by
      cases hi:idx ns (ρ j) with
      |none=>rfl
      |some i =>
       obtain ⟨hik,e3⟩:=hidx' _ i hi;obtain ⟨b,_,e4,hbn⟩:=Ju i hik;rw [hge j hjk] at e3;omega
     rw [e'',Gh hno,h1.zJ (by rw [hge j hjk];omega),e' j hjk rfl];rfl
  have hA:∀ j,j<nx'→ρ j<nx+(nx'-k)∧htag (news k ρ H' (merge ns ρ H' H)) (ρ j)=htag H' j∧σn (ρ j)=σ' j:=fun j hj=>by
   refine ⟨?_,?_,?_⟩
   ·rcases ax j k with hjk|hjk
    ·obtain ⟨b,_,e,hbn⟩:=Ju j hjk;omega
    ·rw [hge j hjk];omega
   ·unfold htag
    rw [b4l j hj];cases hget H' j with
    |none=>rfl
    |some y=>simp [HB.xK]
   ·show (if ρ j<nx then _ else _)=_
    rcases ax j k with hjk|hjk
    ·obtain ⟨b,_,e,hbn⟩:=Ju j hjk
     rw [if_pos (by omega),hidx j hjk]
    ·rw [hge j hjk,if_neg (by omega)]
     congr 1;omega
  have hB:∀ b,b<nx→idx ns b=none→hget (news k ρ H' (merge ns ρ H' H)) b=hget H b∧σn b=σ b:=fun b hb hi=>by
   refine ⟨?_,?_⟩
   ·rcases KU (k:=k) (ρ:=ρ) (H:=merge ns ρ H' H) (H':=H') (b:=b) hinj with ⟨i,hi',e',_⟩|⟨_,e'⟩
    ·rw [hge i hi'] at e';omega
    ·rw [e',Gh hi]
   ·show (if b<nx then _ else _)=_
    rw [if_pos hb,hi]
  have hC:∀ b x,hget (news k ρ H' (merge ns ρ H' H)) b=some x→(∃ j y,j<nx'∧b=ρ j∧hget H' j=some y∧x=y.rn ρ)∨(b<nx∧idx ns b=none∧hget H b=some x):=fun b x hx=>by
   rcases ax b nx with hb|hb
   ·cases hi:idx ns b with
    |none=>exact .inr ⟨hb,rfl,by rw [← (hB b hb hi).1];exact hx⟩
    |some i =>
     obtain ⟨hik,e⟩:=hidx' b i hi;rw [e,b4l i (by omega)] at hx;simp only [Option.map_eq_some_iff] at hx;obtain ⟨y,hy,e'⟩:=hx;exact .inl ⟨i,y,by omega,e,hy,e'.symm⟩
   ·rcases KU (k:=k) (ρ:=ρ) (H:=merge ns ρ H' H) (H':=H') (b:=b) hinj with ⟨i,hi,e',e1,e2⟩|⟨_,e'⟩
    ·rw [e2] at hx
     simp only [Option.map_eq_some_iff] at hx;obtain ⟨y,hy,e'⟩:=hx;exact .inl ⟨i,y,(c1.hp i y hy).1,by rw [← ‹ρ i=b›],hy,e'.symm⟩
    ·have hno:idx ns b=none:=by
      cases hi:idx ns b with
      |none=>rfl
      |some i =>
       obtain ⟨hik,e3⟩:=hidx' _ i hi;obtain ⟨b',_,e4,hbn⟩:=Ju i hik;omega
     rw [e',Gh hno,h1.zJ hb] at hx;cases hx
  have hD:Names nx (htag H) σ (htag (news k ρ H' (merge ns ρ H' H))) σn:=fun b hb=>by
   cases hi:idx ns b with
   |none =>
    obtain ⟨e1,e2⟩:=hB b hb hi;rw [e2];unfold htag;rw [e1];exact ⟨Vk.refl _,fun _ _ _=>rfl⟩
   |some i =>
    obtain ⟨hik,e⟩:=hidx' b i hi;obtain ⟨_,a2,a3⟩:=hA i (by omega);rw [e,a2,a3];obtain ⟨n1,n2⟩:=c3.names i hik;cases ht':htag H' i with
    |none=>exact ⟨trivial,fun _ _ e=>by cases e⟩
    |some t' =>
     rw [ht'] at n1 n2;cases htc:htag Hc i with
     |none=>rw [htc] at n1;exact n1.elim
     |some tc =>
      rw [htc] at n1 n2;rw [hTc i tc htc];exact ⟨n1,fun t e1 e2=>n2 t e1 e2⟩
  have hfz:=c3.frozen XT;have hblk:∀ b x c,idx ns b=none→hget H b=some x→Dl (σ b)=some c→¬ own Hc (fun i=>σ (ρ i)) c:=fun b x c hi hb hc ho=>by
   obtain ⟨i,_,y,hik,_,hy,hbc⟩:=hown c ho;have e:=h1.sep b (ρ i) x y c hb hy hc hbc;rw [e,hidx i hik] at hi;cases hi
  refine ⟨σn,⟨c1.fr,?_,?_,c1.gl⟩,RP.rn hA c2,⟨c3.size,fun c hc ho=>c3.keep c hc fun o=>ho (hown' c o),c3.Ky,fun c hc hf=>?_,?_,eK _ _,hD,fun j j1 j2 j3=>c3.low j j1 j2 fun c ho=>j3 c (hown' c ho)⟩,?_⟩
  ·intro b x hx
   rcases hC b x hx with ⟨j,y,hj,rfl,hy,rfl⟩|⟨hb,hi,hx'⟩
   ·obtain ⟨a1,a2,a3⟩:=hA j hj
    rw [a3];exact ⟨a1,RB.rn hA (c1.hp j y hy).2⟩
   ·rw [(hB b hb hi).2]
    refine ⟨by omega,(h1.hp b x hx').2.mono hfz hD (eK _ _) c3.size fun c hc=>?_⟩;have hno:=hblk b x c hi hx' hc;obtain ⟨hnf,hcs⟩:=h1.LY ⟨b,x,hx',hc⟩;exact ⟨c3.keep c hcs hno,fun hf=>(c3.Kw c hcs hf).elim hnf hno⟩
  ·intro b b' x x' c hx hx' hbc hbc'
   rcases hC b x hx with ⟨j,y,hj,rfl,hy,rfl⟩|⟨hb,hi,hx1⟩<;>rcases hC b' x' hx' with ⟨j',y',hj',rfl,hy',rfl⟩|⟨hb',hi',hx1'⟩
   ·rw [(hA j hj).2.2] at hbc
    rw [(hA j' hj').2.2] at hbc';rw [c1.sep j j' y y' c hy hy' hbc hbc']
   ·rw [(hA j hj).2.2] at hbc
    rw [(hB b' hb' hi').2] at hbc';exact absurd (c3.Jo c (h1.LY ⟨b',x',hx1',hbc'⟩).2 ⟨j,y,hy,hbc⟩) (hblk b' x' c hi' hx1' hbc')
   ·rw [(hA j' hj').2.2] at hbc'
    rw [(hB b hb hi).2] at hbc;exact absurd (c3.Jo c (h1.LY ⟨b,x,hx1,hbc⟩).2 ⟨j',y',hy',hbc'⟩) (hblk b x c hi hx1 hbc)
   ·rw [(hB b hb hi).2] at hbc
    rw [(hB b' hb' hi').2] at hbc';exact h1.sep b b' x x' c hx1 hx1' hbc hbc'
  ·rcases c3.Kw c hc hf with h|h
   ·exact .inl h
   ·exact .inr (hown' c h)
  ·rintro c hc ⟨b,x,hx,hbc⟩
   rcases hC b x hx with ⟨j,y,hj,rfl,hy,rfl⟩|⟨hb,hi,hx1⟩
   ·rw [(hA j hj).2.2] at hbc
    exact hown' c (c3.Jo c hc ⟨j,y,hy,hbc⟩)
   ·rw [(hB b hb hi).2] at hbc
    exact ⟨b,x,hx1,hbc⟩
  ·intro hwf j j1 j2
   refine c3.low j j1 j2 fun c ho=>?_
   obtain ⟨i,x,_,_,hx,_⟩:=hown c ho;rw [hw hwf] at hx;cases hx
theorem Aa.ZW {fo:Operand} {args:Array Operand} {aT:Array TypeId} {g:FuncId} {fs cs BF ac:List PV} {ns:List Nat} {Hc:Heap} {Qc:PV→Heap→Nat→Prop} (hf:AU E.Γ L fo=some (.clo g fs cs)) (ha:evs E.Γ L args.toList=some BF)
 (hle:OY (fs++BF++cs) (C9.rn (rho ns nx) ac)) (hu:C9.under ns.length ac) (xJ:LV ns.length Hc) (hin:HIn (rho ns nx) H Hc) (hnd:ns.Nodup) (hlt:∀ b∈ns,b<nx) (hw:w=false→Hc=[]) (hc:Az E g ac Hc ns.length Qc)
 (hq:∀ r H' nx',Qc r H' nx'→Q (r.rn (rho ns nx)) (news ns.length (rho ns nx) H' (merge ns (rho ns nx) H' H)) (nx+(nx'-ns.length))) :
 Aa E w ⟨dst,.call { callee:=.value fo,args:=args,argTypes:=aT },ty,pos,af,gd⟩ L H nx Q:=by
 intro m F σ t h1 h2;obtain ⟨vf,vc,σc,hfe,XT,hargs,hback⟩:=oH (w:=w) hf ha hle hu xJ hin hnd hlt hw h1 h2;refine Gs.call (f:=g) (BF:=vf++args.toList.map (ev t)++vc) (fun call=>by simp only [BO,hfe]) ((hc m F _ _ XT hargs).mono ?_);grind
end
section
open Go.Am
variable {E:Env} {L:Frame} {H:Heap} {nx:Nat} {Q:PV→Heap→Nat→Prop} {w:Bool}
variable {dst:Option Tmp} {ty:TypeId} {pos:String} {af:Array Edge} {gd:Option (Nat×Bool)}
def Ai (E:Env) (g:FuncId) (xs:List FV) (r:PV):Prop:=Az E g (xs.map .p) [] 0 fun r' H' nx'=>r'=r∧H'=[]∧nx'=0
def Ba (E:Env) (g:FuncId) (xs:List FV) (e:TypeId) (cs:List FV) (n:Nat) (z:Bool):Prop :=
 Az E g (xs.map .p) [] 0 fun r' H' nx'=>r'=.vec 0 n 0 n∧H'=[(0,.vec e cs n z)]∧nx'=1
theorem C9.jI (ρ:Nat→Nat):∀ xs:List FV,C9.rn ρ (xs.map .p)=xs.map .p
 |[]=>rfl
 |x::xs=>by simp only [List.map_cons,C9.rn,PV.rn,C9.jI ρ xs]
theorem Rt (ρ:Nat→Nat) (H':Heap):∀ H:Heap,merge [] ρ H' H=H
 |[]=>rfl
 |(b,x)::H=>by simp only [merge,idx,Rt ρ H' H]
theorem Aa.qg {fo:Operand} {args:Array Operand} {aT:Array TypeId} {g:FuncId} {BF:List PV} {xs:List FV} {Qc:PV→Heap→Nat→Prop} (hf:AU E.Γ L fo=some (.clo g [] [])) (ha:evs E.Γ L args.toList=some BF)
 (hle:OY BF (xs.map .p)) (hc:Az E g (xs.map .p) [] 0 Qc) (hq:∀ r H' nx',Qc r H' nx'→Q (r.rn (rho [] nx)) (news 0 (rho [] nx) H' H) (nx+nx')) :
 Aa E w ⟨dst,.call { callee:=.value fo,args:=args,argTypes:=aT },ty,pos,af,gd⟩ L H nx Q :=
 Aa.ZW (ns:=[]) (Hc:=[]) hf ha (ac:=xs.map .p) (by simpa [C9.jI] using hle) (C9.Bj _ _) trivial trivial cB (by simp) (fun _=>rfl) hc
  (fun r H' nx' q=>by rw [Rt];grind)
theorem Aa.b8t {fo:Operand} {args:Array Operand} {aT:Array TypeId} {g:FuncId} {BF:List PV} {xs:List FV} {r:PV} (hf:AU E.Γ L fo=some (.clo g [] [])) (ha:evs E.Γ L args.toList=some BF)
 (hle:OY BF (xs.map .p)) (hc:Ai E g xs r) (hr:∀ ρ,r.rn ρ=r) (q:Q r H nx):Aa E w ⟨dst,.call { callee:=.value fo,args:=args,argTypes:=aT },ty,pos,af,gd⟩ L H nx Q :=
 Aa.qg hf ha hle hc fun r' H' nx' ⟨h1,h2,h3⟩=>by subst h1;subst h2;subst h3;rw [hr];exact q
theorem Aa.c0w {fo:Operand} {args:Array Operand} {aT:Array TypeId} {g:FuncId} {BF:List PV} {xs cs:List FV} {e:TypeId} {n:Nat} {z:Bool} (hf:AU E.Γ L fo=some (.clo g [] [])) (ha:evs E.Γ L args.toList=some BF)
 (hle:OY BF (xs.map .p)) (hc:Ba E g xs e cs n z) (q:Q (.vec nx n 0 n) ((nx,.vec e cs n z)::H) (nx+1)):Aa E w ⟨dst,.call { callee:=.value fo,args:=args,argTypes:=aT },ty,pos,af,gd⟩ L H nx Q :=
 Aa.qg hf ha hle hc fun r' H' nx' ⟨h1,h2,h3⟩=>by
  subst h1;subst h2;subst h3;assumption
def Ar (E:Env) (L:Frame) (H:Heap) (nx:Nat) (L':Frame) (H':Heap) (nx':Nat):Prop :=
 ∀ (B:Base) m F σ t,Ctx E.Γ m F σ H nx→RL m F (htag H) σ nx L t→B.to m F σ H nx→∃ F' σ',Ctx E.Γ m F' σ' H' nx'∧RL m F' (htag H') σ' nx' L' t∧B.to m F' σ' H' nx'
section
variable {bn:Nat} {ops:Array Oper} {l:List Oper} {i:Nat} {R:Frame→Heap→Nat→Prop} {L':Frame} {H':Heap} {nx':Nat}
theorem Ad.ghost {c:Code} {Q:BM→Frame→Heap→Nat→Prop} (g:Ar E L H nx L' H' nx') (h:Ad E bn c L' H' nx' Q):Ad E bn c L H nx Q:=fun B hB m F σ t h1 h2 h3=>by
 obtain ⟨F',σ',c1,c2,c3⟩:=g B m F σ t h1 h2 h3;exact h B hB m F' σ' t c1 c2 c3
theorem Ah.ghost (g:Ar E L H nx L' H' nx') (h:Ah E bn ops l L' H' nx' R):Ah E bn ops l L H nx R:=fun B hB m F σ t h1 h2 h3=>by
 obtain ⟨F',σ',c1,c2,c3⟩:=g B m F σ t h1 h2 h3;exact h B hB m F' σ' t c1 c2 c3
theorem Af.ghost (g:Ar E L H nx L' H' nx') (h:Af E bn ops i l L' H' nx' R):Af E bn ops i l L H nx R:=fun B hB m F σ t h1 h2 h3=>by
 obtain ⟨F',σ',c1,c2,c3⟩:=g B m F σ t h1 h2 h3;exact h B hB m F' σ' t c1 c2 c3
theorem Ar.trans {L'':Frame} {H'':Heap} {nx'':Nat} (g:Ar E L H nx L' H' nx') (g':Ar E L' H' nx' L'' H'' nx''):Ar E L H nx L'' H'' nx'':=fun B m F σ t h1 h2 h3=>by
 obtain ⟨F',σ',c1,c2,c3⟩:=g B m F σ t h1 h2 h3;exact g' B m F' σ' t c1 c2 c3
end
theorem U2 {Γ:Nat→Option (List Value×TypeId)} {m:Mem} {F:Nat→Prop} {σ:Nat→Value} (e:TypeId) (h:Ctx Γ m F σ H nx) :
 Ctx Γ m F (upd σ nx DC) ((nx,.vec e [] 0 true)::H) (nx+1)∧Step m F σ H nx m F (upd σ nx DC) ((nx,.vec e [] 0 true)::H) (nx+1):=by
 have:=h.new (m':=m) (x:=.vec e [] 0 true) (s:=DC) (ab _) (fun _ _=>rfl) (ca _ _) (fun c hc=>by contradiction) (.inl ⟨rfl,rfl,.inl ⟨rfl,rfl⟩⟩);grind
theorem jk {m:Mem} {F:Nat→Prop} {σ:Nat→Value} (e:TypeId) (H:Heap) (nx:Nat):RP m F (htag ((nx,.vec e [] 0 true)::H)) (upd σ nx DC) (nx+1) (.vec nx 0 0 0) DC:=by
 refine .vec (bE _) rfl fun n hn=>?_
 rw [JJ,if_pos rfl] at hn;simp only [HB.tag,Option.some.injEq,Tg.vec.injEq] at hn;subst hn;refine ⟨ab _,fun _=>?_⟩;rw [upd_same];exact ⟨rfl,rfl,rfl⟩
theorem Ar.adopt (d:Nat) (e:TypeId) (hd:Fp L d=some (.p (.val (.slice none 0 0)))):Ar E L H nx ((d,.vec nx 0 0 0)::L) ((nx,.vec e [] 0 true)::H) (nx+1):=fun B m F σ t h1 h2 h3=>by
 obtain ⟨c1,c2⟩:=U2 e h1;refine ⟨F,_,c1,fun i v hi=>?_,h3.trans c2⟩;rw [Ec] at hi;by_cases ei:d=i
 ·rw [if_pos ei] at hi;cases hi
  have:=h2 d _ hd;subst ei;generalize Cj t d=u at this;cases this with|p h=>cases h;exact jk e H nx
 ·rw [if_neg ei] at hi
  exact (h2 i v hi).step c2 h1
def hdel:Heap→Nat→Heap
 |[],_=>[]
 |(a,x)::H,b=>match Nat.decEq a b with
  | .isTrue _=>hdel H b
  | .isFalse _=>(a,x)::hdel H b
theorem Nw (H:Heap) (b c:Nat):hget (hdel H b) c=if b=c then none else hget H c:=by
 induction H with
 |nil=>simp [hdel,hget]
 |cons a H ih =>
  obtain ⟨a,x⟩:=a;simp only [hdel];cases hd:Nat.decEq a b with
  |isTrue h =>
   subst h;simp only [Bo,ih];by_cases e:a=c<;>simp [e]
  |isFalse h =>
   simp only [Bo,ih];grind
theorem Wi (H:Heap) (b c:Nat):htag (hdel H b) c=if b=c then none else htag H c:=by
 unfold htag;rw [Nw];split<;>rfl
theorem VE {Γ:Nat→Option (List Value×TypeId)} {m:Mem} {F:Nat→Prop} {σ:Nat→Value} {b:Nat} {e:TypeId} {cs:List FV} {n:Nat} {z:Bool} (h:Ctx Γ m F σ H nx) (hb:hget H b=some (.vec e cs n z)) :
 Ctx Γ m (fun c=>F c∨Dl (σ b)=some c) σ (hdel H b) nx∧Step m F σ H nx m (fun c=>F c∨Dl (σ b)=some c) σ (hdel H b) nx ∧
 (∀ v,Gg (σ b) 0 n v→RF m (fun c=>F c∨Dl (σ b)=some c) (.lst e cs n) v):=by
 have hown:∀ c,Dl (σ b)=some c→own H σ c:=fun c hc=>⟨b,_,hb,hc⟩
 have hfz:∀ c,F c→(F c∨Dl (σ b)=some c)∧m.get c=m.get c:=fun c hc=>⟨.inl hc,rfl⟩
 have hN:Names nx (htag H) σ (htag (hdel H b)) σ:=fun d _=>by
  rw [Wi];split
  ·exact ⟨trivial,fun _ _ _=>rfl⟩
  ·exact ⟨Vk.refl _,fun _ _ _=>rfl⟩
 have hsub:∀ d x,hget (hdel H b) d=some x→d≠b∧hget H d=some x:=fun d x hd=>by
  rw [Nw] at hd;grind
 refine ⟨⟨?_,?_,?_,?_⟩,⟨ab _,fun _ _ _=>rfl,fun _ h=>.inl h,fun c _ hc=>hc.imp id (hown c),?_,ab _,hN,fun _ h _ _=>h⟩,?_⟩
 ·rintro c (hc|hc)
  ·exact h.fr c hc
  ·exact (h.LY (hown c hc)).2
 ·intro d x hd
  obtain ⟨hne,hd⟩:=hsub d x hd;obtain ⟨h1,h2⟩:=h.hp d x hd;refine ⟨h1,h2.mono hfz hN (ab _) (ab _) fun c hc=>⟨rfl,?_⟩⟩;rintro (hf|hf)
  ·exact (h.LY ⟨d,x,hd,hc⟩).1 hf
  ·exact hne (h.sep d b x _ c hd hb hc hf)
 ·intro d d' x x' c hd hd' hc hc'
  exact h.sep d d' x x' c (hsub d x hd).2 (hsub d' x' hd').2 hc hc'
 ·intro g cs' e' hg
  obtain ⟨h1,h2⟩:=h.gl g cs' e' hg;grind
 ·rintro c _ ⟨d,x,hd,hc⟩
  exact ⟨d,x,(hsub d x hd).2,hc⟩
 ·intro v hv
  obtain ⟨_,hr⟩:=h.hp b _ hb;rcases hr with ⟨r1,r2,r3⟩|⟨c,g,vs,r1,r2,r3,r4,r5,r6,r7⟩
  ·subst r1;subst r2
   rcases r3 with ⟨r3,_⟩|⟨b',o',g',r3,_⟩
   ·rw [r3] at hv;obtain ⟨rfl,_,_⟩:=hv;exact .nil _
   ·rw [r3] at hv;simp only [Gg] at hv;rw [hv.1];exact .room _ _ _ _
  ·rw [r1] at hv
   subst hv;refine .lst (.inr (by rw [r1];rfl)) r4 ?_ (r5.mono hfz) r6;rw [cq,r5.length];simp [takeN]
theorem Ar.freeze (d:Nat) {b n:Nat} {e:TypeId} {cs:List FV} {z:Bool} (hd:Fp L d=some (.vec b n 0 n)) (hb:hget H b=some (.vec e cs n z)):Ar E L H nx ((d,.p (.lst e cs n))::L) (hdel H b) nx:=fun B m F σ t h1 h2 h3=>by
 obtain ⟨c1,c2,c3⟩:=VE h1 hb;refine ⟨_,σ,c1,fun i v hi=>?_,h3.trans c2⟩;rw [Ec] at hi;by_cases ei:d=i
 ·rw [if_pos ei] at hi;cases hi
  have:=h2 d _ hd;subst ei;cases this with
  |vec hb' hc h=>exact .p (c3 _ ((h n (by simp [htag,hb,HB.tag])).2 rfl))
 ·rw [if_neg ei] at hi
  exact (h2 i v hi).step c2 h1
theorem Ar.BI (a k:Nat) {b n:Nat} {e e':TypeId} {cs:List FV} {ds:List PV} {z:Bool} (ha:hget H a=some (.box e' ds)) (hk:ds[k]?=some (.vec b n 0 n)) (hb:hget H b=some (.vec e cs n z)) :
 Ar E L H nx L (hput (hdel H b) a (.box e' (ds.set k (.p (.lst e cs n))))) nx:=fun B m F σ t h1 h2 h3=>by
 obtain ⟨c1,c2,c3⟩:=VE h1 hb;have hne:b≠a:=fun e=>by grind
 have ha':hget (hdel H b) a=some (.box e' ds):=by rw [Nw,if_neg hne];omega
 obtain ⟨_,c,vs,r1,r2,r3,r4,r5,r6⟩:=c1.hp a _ ha';obtain ⟨_,c',vs',s1,s2,s3,s4,s5,s6⟩:=h1.hp a _ ha;rw [s1] at r1;cases r1;rw [s4] at r4;cases r4;obtain ⟨u,hu1,hu2⟩:=s5.get hk;have hcell:RP m (fun c=>F c∨Dl (σ b)=some c) (htag (hdel H b)) σ nx (.p (.lst e cs n)) u:=by
  cases hu2 with
  |vec hb' hc h=>exact .p (c3 _ ((h n (by simp [htag,hb,HB.tag])).2 rfl))
 obtain ⟨d1,d2⟩:=c1.change (m':=m) (b0:=a) (x':=.box e' (ds.set k (.p (.lst e cs n)))) (s':=σ a) ha' trivial (fun _=>rfl) (ab _) (fun _ _ _=>rfl) (fun _ h _ _=>h) (fun c hc=>.inl hc) (by
  refine ⟨_,vs,s1,s2,r3,s4,?_,s6⟩;have:vs=vs.set k u:=by
   apply bu;grind
  rw [this];exact (r5.set k hcell).mono (fun d hd=>⟨hd,rfl⟩) (Ht (x':=.box e' (ds.set k (.p (.lst e cs n)))) ha' trivial fun _=>rfl) (ab _))
 have hσ:upd σ a (σ a)=σ:=by funext x;simp only [upd];split<;>simp_all
 rw [hσ] at d1 d2;exact ⟨_,σ,d1,(h2.step c2 h1).step d2 c1,(h3.trans c2).trans d2⟩
theorem Ar.EO (a k:Nat) (e:TypeId) {e':TypeId} {ds:List PV} (ha:hget H a=some (.box e' ds)) (hk:ds[k]?=some (.p (.val (.slice none 0 0)))) :
 Ar E L H nx L (hput ((nx,.vec e [] 0 true)::H) a (.box e' (ds.set k (.vec nx 0 0 0)))) (nx+1):=fun B m F σ t h1 h2 h3=>by
 obtain ⟨c1,c2⟩:=U2 e h1;have hlt:=(h1.hp a _ ha).1;have ha':hget ((nx,HB.vec e [] 0 true)::H) a=some (.box e' ds):=by rw [Bo,if_neg (by omega)];omega
 obtain ⟨_,c,vs,r1,r2,r3,r4,r5,r6⟩:=c1.hp a _ ha';obtain ⟨u,hu1,hu2⟩:=r5.get hk;have hu:u=DC:=by cases hu2 with|p h=>cases h;rfl
 obtain ⟨d1,d2⟩:=c1.change (m':=m) (b0:=a) (x':=.box e' (ds.set k (.vec nx 0 0 0))) (s':=upd σ nx DC a) ha' trivial (fun _=>rfl) (ab _) (fun _ _ _=>rfl) (fun _ h _ _=>h) (fun c hc=>.inl hc) (by
  refine ⟨c,vs,r1,r2,r3,r4,?_,r6⟩;have:vs=vs.set k DC:=by
   apply bu;grind
  rw [this];exact (r5.set k (jk e H nx)).mono (fun d hd=>⟨hd,rfl⟩) (Ht (x':=.box e' (ds.set k (.vec nx 0 0 0))) ha' trivial fun _=>rfl) (ab _))
 exact ⟨_,_,d1,(h2.step c2 h1).step d2 c1,(h3.trans c2).trans d2⟩
end
section
open Go.Am
variable {E:Env} {L:Frame} {H:Heap} {nx:Nat} {Q:PV→Heap→Nat→Prop} {w:Bool}
variable {dst:Option Tmp} {ty:TypeId} {pos:String} {af:Array Edge} {gd:Option (Nat×Bool)}
def evp (Γ:Nat→Option (List Value×TypeId)) (L:Frame):List (Nat×Operand)→Option (List (Nat×PV))
 |[]=>some []
 |(i,o)::l=>match AU Γ L o with
  |some x=>match evp Γ L l with
   |some r=>some ((i,x)::r)
   |none=>none
  |none=>none
def b3v:PV→Bool
 | .Eb _=>true
 |_=>false
def SG (place:Nat→Option (Nat×Nat)) (cs:List PV):List (Nat×PV)→Option (List PV)
 |[]=>some cs
 |(i,v)::rest=>match b3v v with
  |true=>none
  |false=>match place i with
   |none=>none
   |some (off,size)=>if (Kr v).length=size∧off+size≤cs.length then SG place (CJ cs off (Kr v)) rest else none
theorem O4 (off:Nat):∀ (l:List Value) (k:Nat) (cs:Array Value),((l.zipIdx k).foldl (fun cs (c,j)=>cs.setIfInBounds (off+j) c) cs).toList=splice cs.toList (off+k) l
 |[],_,_=>rfl
 |a::l,k,cs=>by
  simp only [List.zipIdx_cons,List.foldl_cons];rw [O4 off l (k+1)];simp only [splice,Array.toList_setIfInBounds];congr 1
theorem Qa {α:Type} (l:List α):∀ (cs:List α) (o:Nat),(CJ cs o l).length=cs.length:=by
 induction l with
 |nil=>intro cs o;rfl
 |cons a l ih=>intro cs o;simp only [CJ,ih,List.length_set]
section
variable {m:Mem} {F:Nat→Prop} {T:Nat→Option Tg} {σ:Nat→Value} {n:Nat}
inductive RPp (m:Mem) (F:Nat→Prop) (T:Nat→Option Tg) (σ:Nat→Value) (n:Nat):List (Nat×PV)→List (Nat×Value)→Prop
 |nil:RPp m F T σ n [] []
 |cons {i:Nat} {x:PV} {v:Value} {l:List (Nat×PV)} {r:List (Nat×Value)} (h:RP m F T σ n x v) (t:RPp m F T σ n l r):RPp m F T σ n ((i,x)::l) ((i,v)::r)
theorem QU (place:Nat→Option (Nat×Nat)):∀ {ps:List (Nat×PV)} {ps':List (Nat×Value)} {cs out:List PV} {cs':Array Value},RPp m F T σ n ps ps'→Dt m F T σ n cs cs'.toList→cs'.toList.all BK=true →
 SG place cs ps=some out→∃ out',Instr.fill place cs' ps'=some out'∧Dt m F T σ n out out'.toList∧out'.toList.all BK=true
 |[],_,cs,out,cs',.nil,hc,ha,h=>by
  simp only [SG,Option.some.injEq] at h;subst h;exact ⟨cs',rfl,hc,ha⟩
 |(i,x)::ps,_,cs,out,cs',.cons (v:=v) hx ht,hc,ha,h=>by
  simp only [SG] at h;have hn:PO x∧b3v x=false:=by cases x<;>first|exact ⟨trivial,rfl⟩|contradiction
  rw [hn.2] at h;obtain ⟨h1,h2⟩:=Lm hn.1 hx;simp only [Instr.fill];cases hp:place i with
  |none=>grind
  |some q =>
   obtain ⟨off,size⟩:=q;rw [hp] at h;simp only at h ⊢;split at h
   ·rename_i hl
    obtain ⟨hl,hle⟩:=hl;have e1:=h1.length;have e2:=hc.length;rw [if_neg (by grind)];refine QU place ht ?_ ?_ h
    ·rw [← co,dr,O4,ee]
     exact Dt.splice off hc h1
    ·rw [← co,dr,O4,ee]
     exact JB _ ha h2
   grind
end
theorem Yl {Γ:Nat→Option (List Value×TypeId)} {m:Mem} {F:Nat→Prop} {σ:Nat→Value} {t:Tr Value} (hx:Ctx Γ m F σ H nx) (hl:RL m F (htag H) σ nx L t):∀ {ps:List (Nat×Operand)} {xs:List (Nat×PV)},evp Γ L ps=some xs→RPp m F (htag H) σ nx xs (ps.map fun (i,x)=>(i,ev t x))
 |[],_,h=>by cases h;exact .nil
 |(i,o)::os,xs,h=>by
  simp only [evp] at h;cases h1:AU Γ L o with
  |none=>grind
  |some x =>
   rw [h1] at h;cases h2:evp Γ L os with
   |none=>grind
   |some r=>rw [h2] at h;cases h;exact .cons (Bz hx hl h1) (Yl hx hl h2)
theorem kG {P:Program} {t:TypeId} {z:List Value} {fields:Array Field} {places:Array (Nat×Nat)} {ps:Array (Nat×Value)} {out:Array Value} (hz:BQ P t=some z) (hu:P.underlying t=some (.struct fields))
 (hpl:DF P (Array.mapM (fun f=>do pure (f.offset,← sizeOf f.type)) fields)=some places) (hf:Instr.fill (fun x=>places[x]?) z.toArray ps.toList=some out):DF P (Instr.build t ps)=some (.agg out):=by
 obtain ⟨i,zv,h1,h2,h3,h4⟩:=BH hz;unfold Instr.build;simp only [Au];have hzv:DF P (zeroValue t)=some zv:=by
  simp only [zeroValue,Au,KE,h1,Option.bind_some,h2];rfl
 rw [hzv];simp only [Option.bind_some,AZ,hu];simp only [Au,hpl,Option.bind_some];have e:zv.cells=z.toArray:=by rw [h3]
 rw [e,hf];rfl
def Q9 (P:Program):List Field→Option (List (Nat×Nat))
 |[]=>some []
 |f::l=>match P.info? f.type with
  |some i=>match Q9 P l with
   |some r=>some ((f.offset,i.size)::r)
   |none=>none
  |none=>none
theorem Xq {P:Program}:∀ (l:List Field),DF P (l.mapM fun f=>(do pure (f.offset,← sizeOf f.type):Sem (Nat×Nat)))=Q9 P l
 |[]=>rfl
 |f::l=>by
  rw [List.mapM_cons];simp only [Au,F7,Q9,Xq l];cases P.info? f.type with
  |none=>rfl
  |some i =>
   cases Q9 P l<;>rfl
theorem uj {P:Program} {fields:Array Field} {pl:List (Nat×Nat)} (h:Q9 P fields.toList=some pl):DF P (Array.mapM (fun f=>(do pure (f.offset,← sizeOf f.type):Sem (Nat×Nat))) fields)=some pl.toArray:=by
 rw [fN,map_eq_pure_bind,Au,Xq,h];rfl
theorem Aa.build {t:TypeId} {ps:Array (Nat×Operand)} {z:List Value} {fields:Array Field} {places:List (Nat×Nat)} {parts:List (Nat×PV)} {out:List PV} (hz:BQ E.P t=some z) (hu:E.P.underlying t=some (.struct fields))
 (hpl:Q9 E.P fields.toList=some places) (hp:evp E.Γ L ps.toList=some parts) (hf:SG (fun x=>places[x]?) (z.map fun v=>.p (H9 v)) parts=some out) (q:Q (ru out) H nx) :
 Aa E w ⟨dst,.build t ps,ty,pos,af,gd⟩ L H nx Q :=
 Aa.quiet q fun m F σ tt h1 h2=>by
  obtain ⟨_,_,_,_,_,hpz⟩:=BH hz;obtain ⟨out',e1,e2,e3⟩:=QU (fun x=>places[x]?) (Yl h1 h2 hp) (cs':=z.toArray) (Dt.zero hpz) (Dh hpz) hf;have e4:=kG (ps:=ps.map fun (i,x)=>(i,ev tt x)) hz hu (uj hpl) (by simpa using e1);refine ⟨.agg out',fun _=>?_,WG e2 e3⟩;simp only [BO,FB,hz,e4,Option.map_some]
theorem QZ {Γ:Nat→Option (List Value×TypeId)} {m:Mem} {F:Nat→Prop} {σ:Nat→Value} {e:TypeId} {cs:List FV} {vs:List Value} (n:Nat) (h:Ctx Γ m F σ H nx) (hr:Dj m F cs vs) (hc:vs.all BK=true) :
 Ctx Γ (m.alloc (.cells vs e 0 false)) F (upd σ nx (.slice (some ⟨m.size,0,none⟩) n 0)) ((nx,.vec e cs n false)::H) (nx+1) ∧
 Step m F σ H nx (m.alloc (.cells vs e 0 false)) F (upd σ nx (.slice (some ⟨m.size,0,none⟩) n 0)) ((nx,.vec e cs n false)::H) (nx+1)∧Quiet m (m.alloc (.cells vs e 0 false)) ∧
 RP (m.alloc (.cells vs e 0 false)) F (htag ((nx,.vec e cs n false)::H)) (upd σ nx (.slice (some ⟨m.size,0,none⟩) n 0)) (nx+1) (.vec nx n 0 n) (.slice (some ⟨m.size,0,none⟩) n 0):=by
 obtain ⟨c1,c2,c3⟩:=h.new (m':=m.alloc (.cells vs e 0 false)) (x:=.vec e cs n false) (s:=.slice (some ⟨m.size,0,none⟩) n 0) (by simp [Mem.alloc]) (fun c hc=>by rw [Mem.Bh,if_neg (by omega)]) (by simp only [Mem.alloc];omega)
  (fun c hc=>by simp only [Dl,Option.some.injEq] at hc;omega) (.inr ⟨m.size,0,vs,rfl,by simp [Mem.alloc],fun hf=>cn _ (h.fr _ hf),by rw [Mem.Bh,if_pos rfl],
   hr.mono (fun c hf=>⟨hf,by rw [Mem.Bh,if_neg (by have:=h.fr c hf;omega)]⟩),hc,fun _=>rfl⟩)
 refine ⟨c1,c2,c3,.vec (bE _) rfl fun k hk=>?_⟩;rw [JJ,if_pos rfl] at hk;simp only [HB.tag,Option.some.injEq,Tg.vec.injEq] at hk;refine ⟨by omega,fun _=>?_⟩;rw [upd_same];rfl
theorem dP (place:Nat→Option (Nat×Nat)):∀ (ps:List (Nat×PV)) {cs out:List PV},SG place cs ps=some out→out.length=cs.length
 |[],cs,out,h=>by
  simp only [SG,Option.some.injEq] at h;rw [h]
 |(i,v)::rest,cs,out,h=>by
  simp only [SG] at h
  repeat' split at h
  all_goals first|(cases h)|(have:=dP place rest h;rw [this,Qa])
theorem b1y {Γ:Nat→Option (List Value×TypeId)} {m:Mem} {F:Nat→Prop} {σ:Nat→Value} (e:TypeId) (h:Ctx Γ m F σ H nx) :
 Ctx Γ m F (upd σ nx (.slice emptyAt 0 0)) ((nx,.vec e [] 0 false)::H) (nx+1)∧Step m F σ H nx m F (upd σ nx (.slice emptyAt 0 0)) ((nx,.vec e [] 0 false)::H) (nx+1)∧Quiet m m:=by
 exact h.new (m':=m) (x:=.vec e [] 0 false) (s:=.slice emptyAt 0 0) (ab _) (fun _ _=>rfl) (ca _ _) (fun c hc=>by contradiction) (.inl ⟨rfl,rfl,.inr ⟨0,0,0,rfl,rfl⟩⟩)
theorem a8k {m:Mem} {F:Nat→Prop} {σ:Nat→Value} (e:TypeId) (H:Heap) (nx:Nat):RP m F (htag ((nx,.vec e [] 0 false)::H)) (upd σ nx (.slice emptyAt 0 0)) (nx+1) (.vec nx 0 0 0) (.slice emptyAt 0 0):=by
 refine .vec (bE _) rfl fun n hn=>?_
 rw [JJ,if_pos rfl] at hn;simp only [HB.tag,Option.some.injEq,Tg.vec.injEq] at hn;subst hn;refine ⟨ab _,fun _=>?_⟩;rw [upd_same];exact ⟨rfl,rfl,rfl⟩
theorem Aa.buildSlice {t e:TypeId} {len:Nat} {ps:Array (Nat×Operand)} {z:List Value} {i:TypeInfo} {parts:List (Nat×PV)} {out:List PV} {fs:List FV} (hu:E.P.underlying t=some (.slice e)) (hi:E.P.info? e=some i)
 (hz:BQ E.P e=some z) (hl:len*i.size≤2 ^ 24∧z.length=i.size∧0<i.size) (hp:evp E.Γ L ps.toList=some parts) (hf:SG (fun j=>some (j*i.size,i.size)) ((AL z len).map fun v=>.p (H9 v)) parts=some out)
 (ha:a8s out=some fs) (q:Q (.vec nx len 0 len) ((nx,.vec e fs len false)::H) (nx+1)):Aa E w ⟨dst,.buildSlice t len ps,ty,pos,af,gd⟩ L H nx Q:=by
 intro m F σ tt h1 h2;obtain ⟨_,_,_,_,_,hpz⟩:=BH hz;have hpr:=JH hpz len;obtain ⟨out',e1,e2,e3⟩:=QU (fun j=>some (j*i.size,i.size)) (Yl h1 h2 hp) (cs':=(AL z len).toArray) (Dt.zero hpr) (Dh hpr) hf;have e1':Instr.fill (fun j=>some (j*i.size,i.size)) (AL z len).toArray (ps.map fun (i,x)=>(i,ev tt x)).toList=some out':=by simp_all
 by_cases h0:len=0
 ·subst h0
  have ho:out=[]:=ar.1 (by rw [dP _ _ hf];rfl);subst ho;have hfs:fs=[]:=by
   have:some ([]:List FV)=some fs:=ha;grind
  subst hfs;obtain ⟨c1,c2,c3⟩:=b1y e h1;refine Gs.op (v:=.slice emptyAt 0 0) (fun _=>?_) ⟨_,_,_,F,_,q,c1,a8k e H nx,c2,fun _=>c3⟩;simp only [BO,FB,hu,hi,hz,hl,and_self,if_true,e1',e3]
 obtain ⟨c1,c2,c3,c4⟩:=QZ (e:=e) len h1 (ZT ha e2) e3;refine Gs.op (v:=.slice (some ⟨m.size,0,none⟩) len 0) (fun _=>?_) ⟨_,_,_,F,_,q,c1,c4,c2,fun _=>c3⟩;simp only [BO,FB,hu,hi,hz,hl,and_self,if_true,e1',e3,AQ,h0,if_false]
theorem Aa.makeSlice {t e:TypeId} {l c:Operand} {k1 k2:IntKind} {n:Nat} {z:List Value} {i:TypeInfo} (hu:E.P.underlying t=some (.slice e)) (hi:E.P.info? e=some i) (hz:BQ E.P e=some z) (hl:AU E.Γ L l=some (.p (.int k1 n))) (hc:AU E.Γ L c=some (.p (.int k2 n)))
 (hb:n*(i.bytes+1)≤room∧n≤2 ^ 40) (hs:z.length=i.size∧0<i.size) (q:Q (.vec nx n 0 n) ((nx,.vec e ((AL z n).map H9) n false)::H) (nx+1)):Aa E w ⟨dst,.makeSlice t l c,ty,pos,af,gd⟩ L H nx Q:=by
 intro m F σ tt h1 h2;obtain ⟨_,_,_,_,_,hpz⟩:=BH hz;have hpr:=JH hpz n;obtain ⟨c1,c2,c3,c4⟩:=QZ (e:=e) n h1 (IE (F:=F) hpr) (Dh hpr);refine Gs.op (v:=.slice (some ⟨m.size,0,none⟩) n 0) (fun _=>?_) ⟨_,_,_,F,_,q,c1,c4,c2,fun _=>c3⟩;have h0:(0:Int)≤(n:Int)∧(n:Int)≤(n:Int)∧(n:Int).toNat*(i.bytes+1)≤room∧(n:Int)≤2 ^ 40∧z.length=i.size∧0<i.size:=⟨by omega,by omega,by grind,by omega,hs⟩
 simp only [BO,FB,hu,CV h1 h2 hl,CV h1 h2 hc,hi,hz];rw [if_pos h0];rfl
def rY (Γ:Nat→Option (List Value×TypeId)) (L:Frame) (H:Heap) (nx:Nat) (x:Operand) (sz:Nat) (xs:List FV) (k:Nat):Prop :=
 ∀ m F σ t,Ctx Γ m F σ H nx→RL m F (htag H) σ nx L t→lenOf (ev t x)=some k∧∃ l,Ci m sz k (ev t x)=some l∧Dj m F xs l∧l.all BK=true
theorem rY.lst {Γ:Nat→Option (List Value×TypeId)} {x:Operand} {e:TypeId} {sz k:Nat} {xs:List FV} (h:AU Γ L x=some (.p (.lst e xs k))) (hl:xs.length=k*sz):rY Γ L H nx x sz xs k:=fun m F σ t h1 h2=>by
 have:=Bz h1 h2 h;generalize ev t x=v at this;cases this with
 |p h =>
  cases h with
  |nil=>exact ⟨rfl,[],rfl,.nil,rfl⟩
  |room=>exact ⟨rfl,[],rfl,.nil,rfl⟩
  |lst hF hm hw hr hc =>
   rename_i b o g vs ws ro;refine ⟨rfl,ws,?_,hr,hc⟩;simp only [Ci,Nat.le_refl,if_true,Mem.Em,hm];simp only [Oh,Option.getD_some,if_true];grind
theorem rY.vec {Γ:Nat→Option (List Value×TypeId)} {x:Operand} {b n off len sz:Nat} {e:TypeId} {cs:List FV} {z:Bool} (h:AU Γ L x=some (.vec b n off len)) (hb:hget H b=some (.vec e cs n z)) (hl:off+len*sz≤cs.length) :
 rY Γ L H nx x sz ((cs.drop off).take (len*sz)) len:=fun m F σ t h1 h2=>by
 have hsub:=JK h1 h2 h hb;obtain ⟨_,hr⟩:=h1.hp b _ hb;rcases hr with ⟨r1,r2,r3⟩|⟨c,g,vs,r1,r2,r3,r4,r5,r6,r7⟩
 ·have hv:(∃ a,ev t x=.slice a 0 0∧(a=none∨∃ b o g,a=some ⟨b,o,some g⟩))∧len=0:=by
   rcases r3 with ⟨r3,_⟩|⟨b',o',g',r3,_⟩
   ·rw [r3] at hsub;obtain ⟨q1,q2,q3⟩:=hsub;grind
   ·simp only [Gg] at hsub;grind
  obtain ⟨⟨a,ha,hb'⟩,rfl⟩:=hv;rw [ha];refine ⟨rfl,[],?_,by rw [ge,List.take_zero];exact .nil,rfl⟩;rcases hb' with rfl|⟨_,_,_,rfl⟩<;>rfl
 ·rw [r1] at hsub
  rw [hsub];have hlen:=r5.length;have hle:len*sz≤(vs.drop off).length:=by grind
  refine ⟨rfl,(vs.drop off).take (len*sz),?_,?_,UN (LC r6 _) _⟩
  ·simp only [Ci,Nat.le_refl,if_true,Mem.Em,r4]
   simp only [Oh,Option.getD_some,if_true,takeN,if_pos hle]
  ·have:∀ {cs:List FV} {vs:List Value} (k:Nat),Dj m F cs vs→Dj m F (cs.take k) (vs.take k):=by
    intro cs vs k h
    induction k generalizing cs vs with
    |zero=>exact .nil
    |succ k ih=>cases h with|nil=>exact .nil|cons h t=>exact .cons h (ih t)
   exact this _ (Dj.drop off r5)
theorem rY.all {Γ:Nat→Option (List Value×TypeId)} {x:Operand} {b n sz:Nat} {e:TypeId} {cs:List FV} {z:Bool} (h:AU Γ L x=some (.vec b n 0 n)) (hb:hget H b=some (.vec e cs n z)) (hl:cs.length=n*sz):rY Γ L H nx x sz cs n:=by
 have:=rY.vec (sz:=sz) (nx:=nx) h hb (by omega);grind
theorem Aa.append {s x:Operand} {sT xT e:TypeId} {xd:TypeDesc} {i:TypeInfo} {b n k:Nat} {cs xs:List FV} {z:Bool} (hs:AU E.Γ L s=some (.vec b n 0 n)) (hb:hget H b=some (.vec e cs n z)) (hx:rY E.Γ L H nx x i.size xs k)
 (xQ:E.P.underlying sT=some (.slice e)) (hxT:E.P.underlying xT=some xd) (hd:∀ k,xd≠.int k) (hi:E.P.info? e=some i) (hzs:Eo i=true) (h0:0<k) (hroom:(n+k)*(i.bytes+1)≤room) (hl:cs.length=n*i.size) (hsz:0<i.size)
 (q:Q (.vec b (n+k) 0 (n+k)) (hput H b (.vec e (cs++xs) (n+k) z)) nx):Aa E true ⟨dst,.call { callee:=.builtin .append,args:=#[s,x],argTypes:=#[sT,xT] },ty,pos,af,gd⟩ L H nx Q:=by
 intro m F σ t h1 h2;have hsub:=JK h1 h2 hs hb;obtain ⟨hx1,l,hx2,hx3,hx4⟩:=hx m F σ t h1 h2;obtain ⟨hlt,hr⟩:=h1.hp b _ hb;have hlenS:lenOf (ev t s)=some n:=by
  rcases hr with ⟨r1,r2,r3⟩|⟨c,g,vs,r1,_⟩
  ·rcases r3 with ⟨r3,_⟩|⟨b',o',g',r3,_⟩<;>rw [r3] at hsub<;>simp only [Gg,DC] at hsub<;>rw [hsub.1,r2]<;>rfl
  ·rw [r1] at hsub;simp only [Gg] at hsub;rw [hsub];rfl
 have happ:∀ v m',BL m e i.size l k (ev t s)=some (v,m')→IX E.P #[sT,xT] #[ev t s,ev t x] m=some (v,m'):=by
  intro v m' ha;simp only [IX,List.getElem?_toArray,List.getElem?_cons_zero,List.getElem?_cons_succ,xQ,hxT,hlenS,hi,hzs,Bool.not_true,Bool.false_eq_true,if_false];cases xd<;>first|exact absurd rfl (hd _)|(simp only [hx1,hx2,hx4,Bool.and_true,decide_eq_true_eq];rw [if_pos hroom];exact ha)
 have hfin:∀ v m' s',BL m e i.size l k (ev t s)=some (v,m')→s'=v→(Ctx E.Γ m' F (upd σ b s') (hput H b (.vec e (cs++xs) (n+k) z)) nx∧Step m F σ H nx m' F (upd σ b s') (hput H b (.vec e (cs++xs) (n+k) z)) nx)→(∃ c g,v=.slice (some ⟨c,0,none⟩) (n+k) g) →
  Gs E.P E.O E.G ⟨dst,.call { callee:=.builtin .append,args:=#[s,x],argTypes:=#[sT,xT] },ty,pos,af,gd⟩ ⟨t,m⟩ fun v m'=>∃ r H' nx' F' σ',Q r H' nx'∧Ctx E.Γ m' F' σ' H' nx'∧RP m' F' (htag H') σ' nx' r v∧Step m F σ H nx m' F' σ' H' nx'∧(true=false→Quiet m m'):=by
  rintro v m' s' ha rfl ⟨c1,c2⟩ ⟨c,g,hv⟩;refine Gs.op (v:=s') (m':=m') (fun _=>?_) ⟨_,_,_,F,_,q,c1,?_,c2,fun h=>by cases h⟩
  ·have:=happ _ _ ha
   simp only [BO,FB];grind
  ·refine .vec hlt (by rw [hv];rfl) fun j hj=>?_
   rw [QY,if_pos rfl,htag,hb] at hj;simp only [Option.map_some,HB.tag,Option.some.injEq,Tg.vec.injEq] at hj;refine ⟨by omega,fun _=>?_⟩;rw [upd_same,hv];rfl
 have a4h:Vk (some (HB.vec e cs n z).tag) (some (HB.vec e (cs++xs) (n+k) z).tag):=eK _ _;have hne:(HB.vec e cs n z).tag=(HB.vec e (cs++xs) (n+k) z).tag→False:=by simp only [HB.tag,Tg.vec.injEq];omega
 rcases hr with ⟨r1,r2,r3⟩|⟨c,g,vs,r1,r2,r3,r4,r5,r6,r7⟩
 ·have hv:Dl (σ b)=none∧(ev t s=.slice none 0 0∨∃ b o g,ev t s=.slice (some ⟨b,o,some g⟩) 0 0):=by
   rcases r3 with ⟨r3,_⟩|⟨b',o',g',r3,_⟩
   ·rw [r3] at hsub ⊢;exact ⟨rfl,.inl hsub.1⟩
   ·rw [r3] at hsub ⊢;simp only [Gg] at hsub;exact ⟨rfl,.inr ⟨_,_,_,hsub.1⟩⟩
  have ha:BL m e i.size l k (ev t s)=some (AQ m e l k):=by
   rcases hv.2 with hv|⟨_,_,_,hv⟩<;>rw [hv]<;>simp only [BL]<;>rw [if_neg (by omega)]
  subst r1;subst r2;refine hfin _ _ _ ha rfl ?_ ⟨m.size,0,by rw [cw]⟩;refine h1.change (x0:=.vec e [] 0 z) (x':=.vec e ([]++xs) (0+k) z) hb a4h (fun e=>(hne e).elim) (by simp [AQ,Mem.alloc]) (fun c hc _=>by (try simp only [AQ]);rw [Mem.Bh,if_neg (by omega)])
   (fun k' k1 k2 _=>by simp only [AQ,Mem.alloc];omega) (fun c hc=>by simp only [AQ,Dl,Option.some.injEq] at hc;right;omega) ?_
  refine .inr ⟨m.size,0,l,by simp [AQ],by simp [AQ,Mem.alloc],fun hf=>cn _ (h1.fr _ hf),by (try simp only [AQ]);rw [Mem.Bh,if_pos rfl],?_,hx4,fun h=>by omega⟩;rw [fa];exact hx3.mono (fun c hf=>⟨hf,by (try simp only [AQ]);rw [Mem.Bh,if_neg (by have:=h1.fr c hf;omega)]⟩)
 ·rw [r1] at hsub
  simp only [Gg] at hsub;have hlen:=r5.length;have hold:takeN (n*i.size) (vs.drop 0)=some vs:=by
   rw [cq,← hl,hlen];simp [takeN]
  have ha:BL m e i.size l k (ev t s)=some (.slice (some ⟨c,0,none⟩) (n+k) (g+1),m.put c (.cells (vs++l) e (g+1) false)):=by
   rw [hsub];simp only [BL,r4,beq_self_eq_true,decide_eq_true hsz,Bool.and_self,if_true,hold];simp
  have hput':∀ d,c≠d→(m.put c (.cells (vs++l) e (g+1) false)).get d=m.get d:=fun d hd=>by rw [Mem.get_put,if_neg hd]
  refine hfin _ _ _ ha rfl ?_ ⟨c,g+1,rfl⟩;refine h1.change (x':=.vec e (cs++xs) (n+k) z) hb a4h (fun e=>(hne e).elim) (ab _) (fun d _ hd=>hput' d fun e=>hd (by rw [r1,e];rfl)) (fun k' k1 k2 k3=>by
   have:=k3 c (by rw [r1];rfl);simp only [Mem.put];omega) (fun d hd=>.inl (by rw [r1];exact hd)) ?_
  refine .inr ⟨c,g+1,vs++l,rfl,r2,r3,by rw [Mem.get_put,if_pos rfl],?_,by rw [dx,r6,hx4];rfl,fun h=>by omega⟩;exact (r5.append hx3).mono (fun d hd=>⟨hd,hput' d fun e=>r3 (e▸hd)⟩)
end
section
open Go.Am
variable {P:Program}
inductive Hr {α β:Type} (R:α→β→Prop):List α→List β→Prop
 |nil:Hr R [] []
 |cons {a:α} {b:β} {l:List α} {r:List β} (h:R a b) (t:Hr R l r):Hr R (a::l) (b::r)
def FC (P:Program):Nat→TypeId→List FV→Prop
 |0,_,_=>False
 |f+1,t,fs=>match P.underlying t with
  |some .bool=>∃ b,fs=[.bool b]
  |some (.int k)=>∃ n,fs=[.int k n]∧(Lit.int k n).wf=true
  |some .string=>∃ s:ByteArray,fs=[.str s]∧s.size≤maxLen
  |some (.slice e)=>∃ L:List (List FV),fs=[.lst e L.flatten L.length]∧L.length≤maxLen∧∀ x∈L,FC P f e x
  |some (.struct sf)=>∃ parts:List (List FV),fs=parts.flatten∧Hr (fun (fd:Field) x=>FC P f fd.type x) sf.toList parts
  |some (.array n e)=>∃ L:List (List FV),fs=L.flatten∧L.length=n∧∀ x∈L,FC P f e x
  |_=>False
def Vt (P:Program):Nat→TypeId→Bool
 |0,_=>false
 |f+1,t=>match P.underlying t with
  |some .bool|some (.int _)|some .string=>true
  |some (.slice e)=>P.cellsOf e != 0&&Vt P f e
  |some (.struct fs)=>decide ((fs.toList.map fun fd=>((List.range (P.cellsOf t)).drop fd.offset).take (P.cellsOf fd.type)).flatten=List.range (P.cellsOf t))&&fs.toList.all fun fd=>Vt P f fd.type
  |some (.array n e)=>decide (((List.range n).map fun i=>((List.range (P.cellsOf t)).drop (i*P.cellsOf e)).take (P.cellsOf e)).flatten=List.range (P.cellsOf t))&&Vt P f e
  |_=>false
structure Laid (m m':Mem) (fs:List FV) (l:List Value):Prop where
 rel:Dj m' (fun c=>c<m'.size) fs l
 cell:l.all BK=true
 size:m.size≤m'.size
 get:∀ c,c<m.size→m'.get c=m.get c
theorem Laid.refl (m:Mem) {fs:List FV} {l:List Value} (h:Dj m (fun c=>c<m.size) fs l) (hc:l.all BK=true):Laid m m fs l:=⟨h,hc,ab _,fun _ _=>rfl⟩
theorem zn {m m':Mem} (hs:m.size≤m'.size) (hg:∀ c,c<m.size→m'.get c=m.get c):∀ c,c<m.size→c<m'.size∧m'.get c=m.get c :=by grind
section
variable {H:Type} {enc:TypeId×Value→H} {W:World} {held:Bool}
def Zt (P:Program) (f:Nat) (t:TypeId) (d:DataW H):Prop:=∀ m,∃ l m' fs,RS P f t d m=some (l,m')∧FC P f t fs∧Laid m m' fs l
theorem U3 (f:Nat):∀ (xs:List (TypeId×DataW H)),(∀ x∈xs,Zt P f x.1 x.2)→∀ m,∃ l m' L,Vr (RS P f) xs m=some (l,m')∧Hr (fun (x:TypeId×DataW H) fs=>FC P f x.1 fs) xs L∧Laid m m' L.flatten l
 |[],_,m=>⟨[],m,[],rfl,.nil,Laid.refl m .nil rfl⟩
 |(t,d)::xs,h,m=>by
  obtain ⟨l1,m1,fs,h1,h2,h3⟩:=h (t,d) (by simp) m;obtain ⟨l2,m2,L,h4,h5,h6⟩:=U3 f xs (fun x hx=>h x (by grind)) m1;refine ⟨l1++l2,m2,fs::L,by simp only [Vr,h1,h4],.cons h2 h5,?_⟩;exact ⟨(h3.rel.mono (zn h6.size h6.get)).append h6.rel,by rw [dx,h3.cell,h6.cell];rfl,an h3.size h6.size,fun c hc=>(h6.get c (by have:=h3.size;omega)).trans (h3.get c hc)⟩
theorem Hr.U9 {α β γ:Type} {R:β→γ→Prop} {g:α→β}:∀ {l:List α} {r:List γ},Hr R (l.map g) r→Hr (fun a c=>R (g a) c) l r
 |[],_,.nil=>.nil
 |_::_,_,.cons h t=>.cons h (Hr.U9 t)
theorem Hr.const {α γ:Type} {R:γ→Prop}:∀ {l:List α} {r:List γ},Hr (fun _ c=>R c) l r→l.length=r.length∧∀ x∈r,R x
 |_,_,.nil=>⟨rfl,by simp⟩
 |_,_,.cons h t=>by
  obtain ⟨h1,h2⟩:=Hr.const t;grind
theorem Hr.zip {α β γ:Type} {R:α→γ→Prop}:∀ {l:List α} {ds:List β} {r:List γ},l.length=ds.length→Hr (fun (x:α×β) c=>R x.1 c) (l.zip ds) r→Hr R l r
 |[],[],_,_,h=>by cases h;exact .nil
 |a::l,d::ds,r,hl,h=>by
  cases h with|cons h t=>exact .cons h (Hr.zip (by grind) t)
 |[],_::_,_,hl,_=>by grind
 |_::_,[],_,hl,_=>by grind
theorem zK:∀ (f:Nat) (t:TypeId) (cs:List Value) (d:DataW H) (ps:List MemPlace),Vt P f t=true→DataW.trod enc P W 0 (fun _=>true) held f t cs=some (d,ps)→Zt P f t d
 |0,_,_,_,_,h,_=>by cases h
 |f+1,t,cs,d,ps,hok,h=>by
  have ih:=zK f;intro m;unfold DataW.trod at h;unfold RS;unfold Vt at hok;unfold FC;cases hu:P.underlying t with
  |none=>rw [hu] at hok;cases hok
  |some u =>
   rw [hu] at h hok;cases u with
   |bool =>
    match cs,h with
    |[.bool b],h =>
     simp only [Option.some.injEq,Prod.mk.injEq] at h;obtain ⟨rfl,rfl⟩:=h;exact ⟨_,_,_,rfl,⟨b,rfl⟩,Laid.refl m (.cons (.bool b) .nil) rfl⟩
   |int k =>
    match cs,h with
    |[.int k' n],h =>
     simp only at h;split at h
     ·rename_i hc
      simp only [Option.some.injEq,Prod.mk.injEq] at h;obtain ⟨rfl,rfl⟩:=h;exact ⟨_,_,_,rfl,⟨n,rfl,hc.2⟩,Laid.refl m (.cons (.int k n) .nil) rfl⟩
     ·cases h
   |string =>
    match cs,h with
    |[.string s],h =>
     simp only at h;split at h
     ·rename_i hc
      simp only [Option.some.injEq,Prod.mk.injEq] at h;obtain ⟨rfl,rfl⟩:=h;exact ⟨_,_,_,rfl,⟨s,rfl,hc⟩,Laid.refl m (.cons (.str s) .nil) rfl⟩
     ·cases h
   |slice e =>
    simp only [Bool.and_eq_true,bne_iff_ne,ne_eq] at hok
    match cs,h with
    |[.slice none 0 0],h =>
     simp only [Option.some.injEq,Prod.mk.injEq] at h;obtain ⟨rfl,rfl⟩:=h;exact ⟨_,_,_,rfl,⟨[],rfl,aq _,by simp⟩,Laid.refl m (.cons (.nil e) .nil) rfl⟩
    |[.slice (some a) len cap],h =>
     simp only at h;split at h
     ·rename_i hc
      simp only [Option.bind_eq_some_iff,Option.map_eq_some_iff] at h;obtain ⟨elems,h1,rest,h2,h3⟩:=h;simp only [Prod.mk.injEq] at h3;obtain ⟨rfl,rfl⟩:=h3;obtain ⟨hl,hm⟩:=mapM_some h1;simp only [hok.1,if_false];split
      ·rename_i he
       simp only [Bool.and_eq_true,List.isEmpty_iff] at he;exact ⟨_,_,_,rfl,⟨[],rfl,aq _,by simp⟩,Laid.refl m (.cons (.room e 0 0 0) .nil) rfl⟩
      ·have hcan:∀ x∈(elems.map (·.1)).map fun x=>(e,x),Zt P f x.1 x.2:=by
        intro x hx;simp only [List.mem_map] at hx;obtain ⟨y,⟨z,hz,rfl⟩,rfl⟩:=hx;obtain ⟨i,hi⟩:=fb hz;have hlt:i<(List.range len).length:=by
         have:i<elems.length:=by
          rcases ax i elems.length with h|h
          ·exact h
          ·rw [aM h] at hi;cases hi
         omega
        obtain ⟨b,hb1,hb2⟩:=hm i _ (ai hlt);rw [hi] at hb1;cases hb1;simp only [Option.bind_eq_some_iff] at hb2;obtain ⟨cs',_,hb3⟩:=hb2;exact ih e cs' z.1 z.2 hok.2 hb3
       obtain ⟨l,m',L,e1,e2,e3⟩:=U3 f _ hcan m;obtain ⟨e4,e5⟩:=Hr.const (R:=fun fs=>FC P f e fs) (Hr.U9 (R:=fun (x:TypeId×DataW H) fs=>FC P f x.1 fs) (g:=fun x=>(e,x)) e2);rw [e1];simp only [List.length_map,List.length_range] at e4 hl ⊢;have hg:∀ c,c<m'.size→(m'.alloc (.cells l e 0 true)).get c=m'.get c:=fun c hc=>by rw [Mem.Bh,if_neg (by omega)]
       have hsz:(m'.alloc (.cells l e 0 true)).size=m'.size+1:=rfl;refine ⟨_,_,_,rfl,⟨L,rfl,by omega,e5⟩,⟨?_,rfl,by rw [hsz];have:=e3.size;omega,fun c hc=>(hg c (by have:=e3.size;omega)).trans (e3.get c hc)⟩⟩;rw [show elems.length=L.length by omega];refine .cons (.lst (by rw [hsz];omega) (by rw [Mem.Bh,if_pos rfl]) (ws:=l) ?_ (e3.rel.mono fun c hc=>⟨by rw [hsz];omega,hg c hc⟩) e3.cell) .nil;rw [cq,e3.rel.length];simp [takeN]
     ·cases h
   |struct sf =>
    simp only [Bool.and_eq_true,decide_eq_true_eq] at hok;obtain ⟨hok1,hok2⟩:=hok;have h':(if cs.length=P.cellsOf t then (sf.toList.mapM fun f_1=>DataW.trod enc P W 0 (fun _=>true) held f f_1.type ((cs.drop f_1.offset).take (P.cellsOf f_1.type))).map fun xs=>((.agg (xs.map (·.1)):DataW H),xs.flatMap (·.2)) else none)=some (d,ps):=by
     revert h;cases cs with
     |nil=>exact id
     |cons c cs=>cases c<;>cases cs<;>exact id
    split at h'
    ·simp only [Option.map_eq_some_iff,Prod.mk.injEq] at h'
     obtain ⟨xs,h1,rfl,rfl⟩:=h';obtain ⟨hl,hm⟩:=mapM_some h1;simp only [hok1,if_true];have hcan:∀ x∈(sf.toList.map (·.type)).zip (xs.map (·.1)),Zt P f x.1 x.2:=by
      intro x hx;obtain ⟨i,hi⟩:=fb hx;rw [fR,aD,aD,ae,ae] at hi;obtain ⟨⟨fd,hfd,hx1⟩,⟨y,hy,hx2⟩⟩:=hi;obtain ⟨b,hb1,hb2⟩:=hm i fd hfd;rw [hy] at hb1;cases hb1;have hx':x=(fd.type,y.1):=by rw [hx1,hx2]
      rw [hx'];exact ih fd.type _ y.1 y.2 (aL.1 hok2 fd (eZ hfd)) hb2
     obtain ⟨l,m',L,e1,e2,e3⟩:=U3 f _ hcan m;refine ⟨l,m',L.flatten,e1,⟨L,rfl,?_⟩,e3⟩;exact Hr.U9 (R:=fun t fs=>FC P f t fs) (g:=fun (fd:Field)=>fd.type) (Hr.zip (R:=fun t fs=>FC P f t fs) (by simp only [List.length_map];omega) e2)
    ·cases h'
   |array n e =>
    simp only [Bool.and_eq_true,decide_eq_true_eq] at hok;obtain ⟨hok1,hok2⟩:=hok;have h':(if cs.length=P.cellsOf t then ((List.range n).mapM fun i=>DataW.trod enc P W 0 (fun _=>true) held f e ((cs.drop (i*P.cellsOf e)).take (P.cellsOf e))).map fun xs=>((.agg (xs.map (·.1)):DataW H),xs.flatMap (·.2)) else none)=some (d,ps):=by
     revert h;cases cs with
     |nil=>exact id
     |cons c cs=>cases c<;>cases cs<;>exact id
    split at h'
    ·simp only [Option.map_eq_some_iff,Prod.mk.injEq] at h'
     obtain ⟨xs,h1,rfl,rfl⟩:=h';obtain ⟨hl,hm⟩:=mapM_some h1;simp only [hok1,if_true];have hcan:∀ x∈(xs.map (·.1)).map fun x=>(e,x),Zt P f x.1 x.2:=by
      intro x hx;simp only [List.mem_map] at hx;obtain ⟨y,⟨z,hz,rfl⟩,rfl⟩:=hx;obtain ⟨i,hi⟩:=fb hz;have hlt:i<(List.range n).length:=by
       have:i<xs.length:=by
        rcases ax i xs.length with h|h
        ·exact h
        ·rw [aM h] at hi;cases hi
       omega
      obtain ⟨b,hb1,hb2⟩:=hm i _ (ai hlt);rw [hi] at hb1;cases hb1;exact ih e _ z.1 z.2 hok2 hb2
     obtain ⟨l,m',L,e1,e2,e3⟩:=U3 f _ hcan m;obtain ⟨e4,e5⟩:=Hr.const (R:=fun fs=>FC P f e fs) (Hr.U9 (R:=fun (x:TypeId×DataW H) fs=>FC P f x.1 fs) (g:=fun x=>(e,x)) e2);simp only [List.length_map,List.length_range] at e4 hl;exact ⟨l,m',L.flatten,e1,⟨L,rfl,by omega,e5⟩,e3⟩
    ·cases h'
   |_=>cases hok
end
end
section
open Go.Am
variable {P:Program}
def noO:CB:=fun _=>none
open Classical in
noncomputable def a4d (G:List Nat) (M0:Mem) (fs:List FuncId):CB:=fun f =>
 if f∈fs then some fun BF m=>if BF=[]∧∀ k∈G,m.get k=M0.get k then some (.bool true,m) else none else none
theorem IG {F:Nat} {laid:List (String×DataW Unit)} {k:Nat} (hk:k<P.globals.size):(Bv P F laid).get k=match H6 P F laid k with|some (e,l)=>.cells l e 0 true|none=>.cells [] 0 0 true:=by
 rw [Bv,SN,if_neg (by simp [Am.empty])];simp only [Am.empty,Nat.sub_zero,List.getElem?_map];grind
theorem Um {F:Nat} {laid:List (String×DataW Unit)}:(Bv P F laid).size=P.globals.size:=by rw [Bv,QI];simp [Am.empty]
theorem Ox {F:Nat} {laid:List (String×DataW Unit)} {k:Nat} (h:k∈AP P F laid):k<P.globals.size∧∃ e l,H6 P F laid k=some (e,l):=by
 simp only [AP,List.mem_filter,List.mem_range] at h;obtain ⟨h1,h2⟩:=h;cases hg:H6 P F laid k with
 |none=>grind
 |some x=>grind
theorem Uk {F:Nat} {laid:List (String×DataW Unit)} {k:Nat} {e:TypeId} {l:List Value} (h:H6 P F laid k=some (e,l)):l.all Am.plainCell=true:=by
 unfold H6 at h;split at h
 ·rename_i x g _ _
  simp only [Option.map_eq_some_iff,Prod.mk.injEq] at h;obtain ⟨r,h1,_,rfl⟩:=h;unfold absP at h1;grind
 grind
def gam (P:Program) (F:Nat) (laid:List (String×DataW Unit)):Nat→Option (List Value×TypeId):=fun k=>if k<P.globals.size then (H6 P F laid k).map fun x=>(x.2,x.1) else none
noncomputable def uh (P:Program) (F:Nat) (laid:List (String×DataW Unit)) (fs:List FuncId):Env :=
 ⟨P,a4d (AP P F laid) (Bv P F laid) fs,AP P F laid,gam P F laid⟩
theorem FC.array {f n:Nat} {t e:TypeId} {fs:List FV} (h:FC P (f+1) t fs) (hu:P.underlying t=some (.array n e)):∃ L:List (List FV),fs=L.flatten∧L.length=n∧∀ x∈L,FC P f e x:=by
 unfold FC at h;grind
def a4r (P:Program) (F:Nat):List TypeId→List (List FV)→Prop:=Hr (fun t fs=>FC P F t fs)
def Xe (P:Program) (t:TypeId) (fs:List FV):Option FV :=
 match P.underlying t,fs with
 |some (.struct _),fs=>some (.agg fs)
 |some (.array _ _),fs=>some (.agg fs)
 |some .bool,[v]|some (.int _),[v]|some .string,[v]|some (.slice _),[v]=>some v
 |_,_=>none
theorem a3a {m:Mem} {F:Nat→Prop} {n:Nat} {t:TypeId} {fs:List FV} {l:List Value} (h:Dj m F fs l) (hc:l.all BK=true) (ht:FC P n t fs):∃ x v,Xe P t fs=some x∧qh P t l=some v∧RF m F x v:=by
 cases n with
 |zero=>exact ht.elim
 |succ n =>
  unfold FC at ht;unfold Xe qh;cases hu:P.underlying t with
  |none=>grind
  |some u =>
   rw [hu] at ht;cases u with
   |bool=>obtain ⟨b,rfl⟩:=ht;cases h with|cons h1 t1=>cases t1;grind
   |int k=>obtain ⟨b,rfl,_⟩:=ht;cases h with|cons h1 t1=>cases t1;grind
   |string=>obtain ⟨b,rfl,_⟩:=ht;cases h with|cons h1 t1=>cases t1;grind
   |slice e=>obtain ⟨b,rfl,_⟩:=ht;cases h with|cons h1 t1=>cases t1;grind
   |struct sf=>exact ⟨_,_,rfl,rfl,.agg h hc⟩
   |array k e=>exact ⟨_,_,rfl,rfl,.agg h hc⟩
   |_=>exact ht.elim
theorem gy:∀ (f:Nat) (t:TypeId),Vt P f t=true→Vt P (f+1) t=true
 |0,_,h=>by cases h
 |f+1,t,h=>by
  have ih:=gy f;unfold Vt at h ⊢;grind
theorem zf {f g:Nat} {t:TypeId} (hfg:f≤g) (h:Vt P f t=true):Vt P g t=true:=by
 induction hfg with
 |refl=>exact h
 |step _ ih=>exact gy _ _ ih
section
variable {H:Type} {enc:TypeId×Value→H} {W:World} {held:Bool}
def a6c (enc:TypeId×Value→H) (P:Program) (W:World) (held:Bool) (n:Nat):List TypeId→List Value→List (DataW H)→Prop
 |[],[],[]=>True
 |t::ts,v::vs,d::ds=>(∃ p,DataW.trod enc P W 0 (fun _=>true) held n t v.cells.toList=some (d,p))∧a6c enc P W held n ts vs ds
 |_,_,_=>False
theorem a4l:∀ (ts:List TypeId) (vs:List Value) (ds:List (DataW H)) (ps:List MemPlace),DataW.TrodAll enc P W 0 (fun _=>true) held ts vs ds ps→∃ N,∀ n,N≤n→a6c enc P W held n ts vs ds
 |[],[],[],_,_=>⟨0,fun _ _=>trivial⟩
 |t::ts,v::vs,d::ds,ps,⟨p,q,⟨f,h1⟩,h2,_⟩=>by
  obtain ⟨N,hN⟩:=a4l ts vs ds q h2;exact ⟨max f N,fun n hn=>⟨⟨p,DataW.trod_le (by omega) h1⟩,hN n (by omega)⟩⟩
 |[],[],_::_,_,h=>h.elim
 |[],_::_,_,_,h=>h.elim
 |_::_,[],_,_,h=>h.elim
 |_::_,_::_,[],_,h=>h.elim
theorem Vq {n:Nat}:∀ (ts:List TypeId) (vs:List Value) (ds:List (DataW H)),(∀ t∈ts,Vt P n t=true)→a6c enc P W held n ts vs ds→∀ m,∃ BF m' vY xs,Vb P n ts ds m=some (BF,m') ∧
 a4r P n ts vY∧Hr (fun (tf:TypeId×List FV) x=>Xe P tf.1 tf.2=some x) (ts.zip vY) xs∧Dj m' (fun c=>c<m'.size) xs BF∧m.size≤m'.size∧∀ c,c<m.size→m'.get c=m.get c
 |[],[],[],_,_,m=>⟨[],m,[],[],rfl,.nil,.nil,.nil,ab _,fun _ _=>rfl⟩
 |t::ts,v::vs,d::ds,hok,⟨⟨p,h1⟩,h2⟩,m=>by
  obtain ⟨l,m1,fs,e1,e2,e3⟩:=zK n t _ d p (hok t (by simp)) h1 m;obtain ⟨x,u,p1,p2,p3⟩:=a3a e3.rel e3.cell e2;obtain ⟨BF,m2,vY,xs,q1,q2,q3,q4,q5,q6⟩:=Vq ts vs ds (fun t ht=>hok t (by grind)) h2 m1;refine ⟨u::BF,m2,fs::vY,x::xs,by simp only [Vb,e1,p2,q1],.cons e2 q2,.cons p1 q3,.cons (p3.mono (zn q5 q6)) q4,an e3.size q5,fun c hc=>(q6 c (by have:=e3.size;omega)).trans (e3.get c hc)⟩
 |[],[],_::_,_,h,_=>h.elim
 |[],_::_,_,_,h,_=>h.elim
 |_::_,[],_,_,h,_=>h.elim
 |_::_,_::_,[],_,h,_=>h.elim
theorem law {r:Go.Reach} {b0 F:Nat} {laid:List (String×DataW Unit)} {fs:List FuncId} {f:FuncId} {ts:List TypeId} {args:Array Value} {ds:List (DataW H)} {ps:List MemPlace}
 (hL:laidMet P laid W) (hA:DataW.TrodAll enc P W 0 (fun _=>true) held ts args.toList ds ps) (hv:∀ (j:Nat) t v,ts[j]?=some t→args.toList[j]?=some v→Value.okWide P W r b0 t v)
 (qw:P.follows .mixedOrders=true) (hty:ts.all (Vt P F)=true)
 (hO:Gu P (AP P F laid) (a4d (AP P F laid) (Bv P F laid) fs))
 (hp:∀ j vY xs,a4r P (j+F) ts vY→Hr (fun (tf:TypeId×List FV) x=>Xe P tf.1 tf.2=some x) (ts.zip vY) xs→Ai (uh P F laid fs) f xs (.p (.bool true))) :
 Calls P f args W fun e W'=>e=.returned (.bool true)∧Go.RowKit.Below W.heap.size W W':=by
 obtain ⟨N,hN⟩:=a4l ts _ ds ps hA;obtain ⟨j,hj⟩:∃ j,max N F=j+F:=⟨max N F-F,by omega⟩
 obtain ⟨BF,m1,vY,xs,q1,q2,q3,q4,q5,q6⟩:=Vq ts _ ds (fun t ht=>zf (by omega) (aL.1 hty t ht)) (hN (max N F) (by omega)) (Bv P F laid);rw [hj] at q2;have XT:Ctx (uh P F laid fs).Γ m1 (fun c=>c<m1.size) (fun _=>undef) [] 0:=by
  refine ⟨fun _ h=>h,fun b x hb=>(by cases hb),fun b b' x x' c hb=>(by cases hb),fun g vs e hg=>?_⟩;simp only [uh,gam] at hg;split at hg
  ·rename_i hlt
   simp only [Option.map_eq_some_iff,Prod.mk.injEq] at hg;obtain ⟨⟨e',l⟩,h1,rfl,rfl⟩:=hg;have hlt':g<(Bv P F laid).size:=by rw [Um];omega
   exact ⟨by omega,by rw [q6 g hlt',IG hlt,h1],Uk h1⟩
  grind
 obtain ⟨v,m',⟨K,hK⟩,r0,H',nx',F',σ',⟨rfl,_,_⟩,_,hrv,_⟩:=hp j vY xs q2 q3 m1 _ _ BF XT (Dt.rF q4);have hv1:v=.bool true:=by cases hrv with|p h=>cases h;rfl
 subst hv1;obtain ⟨ι,hs,hro⟩:=eX (F:=F) hL;obtain ⟨ι1,o1,o2,o3,o4⟩:=VL ts _ ds ps hA hv ι _ m1 BF hs hro q1;refine ((II hO qw K f).1 BF m1 _ m' (hK K K (ab _) (ab _)) ι1 W args o1 o4).mono fun e W' ⟨v',he,ι2,hx,hs2,PE⟩=>?_
 have:=PE.BP (v:=.bool true) rfl;subst this;exact ⟨he,⟨hx.os,hx.tape,hx.output,hx.heap,fun c hcl=>hx.frame c hcl fun b ib hb _=>.inl (o3 b (o1.dom b ib hb).1)⟩⟩
end
end
section
open Go.Am
variable {E:Env} {L:Frame} {H:Heap} {nx:Nat} {Q:PV→Heap→Nat→Prop} {w:Bool}
variable {dst:Option Tmp} {ty:TypeId} {pos:String} {af:Array Edge} {gd:Option (Nat×Bool)}
def evF (Γ:Nat→Option (List Value×TypeId)) (L:Frame):List Operand→Option (List FV)
 |[]=>some []
 |o::l=>match AU Γ L o with
  |some (.p x)=>match evF Γ L l with
   |some r=>some (x::r)
   |none=>none
  |_=>none
theorem Yz {Γ:Nat→Option (List Value×TypeId)}:∀ {os:List Operand} {xs:List FV},evF Γ L os=some xs→evs Γ L os=some (xs.map .p)
 |[],_,h=>by cases h;rfl
 |o::os,xs,h=>by
  simp only [evF] at h;split at h
  ·rename_i x hx
   split at h
   ·rename_i r hr
    cases h;simp only [evs,hx,Yz hr,List.map_cons]
   grind
  grind
theorem Aa.fn {fo:Operand} {args:Array Operand} {aT:Array TypeId} {g:FuncId} {xs:List FV} {r:PV} (hf:AU E.Γ L fo=some (.clo g [] [])) (ha:evF E.Γ L args.toList=some xs)
 (hc:Ai E g xs r) (hr:∀ ρ,r.rn ρ=r) (q:Q r H nx):Aa E w ⟨dst,.call { callee:=.value fo,args:=args,argTypes:=aT },ty,pos,af,gd⟩ L H nx Q :=
 Aa.b8t hf (Yz ha) (.refl _) hc hr q
theorem Aa.fv {fo:Operand} {args:Array Operand} {aT:Array TypeId} {g:FuncId} {xs cs:List FV} {e:TypeId} {n:Nat} {z:Bool} (hf:AU E.Γ L fo=some (.clo g [] [])) (ha:evF E.Γ L args.toList=some xs)
 (hc:Ba E g xs e cs n z) (q:Q (.vec nx n 0 n) ((nx,.vec e cs n z)::H) (nx+1)):Aa E w ⟨dst,.call { callee:=.value fo,args:=args,argTypes:=aT },ty,pos,af,gd⟩ L H nx Q :=
 Aa.c0w hf (Yz ha) (.refl _) hc q
theorem Ai.enter {f:FuncId} {fn:Func} {c:Code} {xs:List FV} {r:PV} (ho:E.O f=none) (hf:E.P.funcs[f]?=some fn) (hb:fn.body=some c) (hok:IL E.G fn c=true) (hn:xs.length≤fn.ntmps)
 (h:Ad E 0 c (CG 0 (xs.map .p)) [] 0 (Done E.P fn.results.toList 0 fun r' H' nx'=>r'=r∧H'=[]∧nx'=0)):Ai E f xs r:=Az.enter ho hf hb hok (by grind) h
def Bg (P:Program) (rs:List ResultVar) (e:TypeId) (cs:List FV) (n:Nat) (z:Bool) (x:BM) (L:Frame) (H:Heap) (_:Nat):Prop :=
 match x with
 | .exit _=>False
 | .normal=>∃ b,Ez P rs L H=some (.vec b n 0 n)∧hget H b=some (.vec e cs n z)
 | .ret=>∃ b,Ez P rs L H=some (.vec b n 0 n)∧hget H b=some (.vec e cs n z)
theorem Bg.ret {P:Program} {rs:List ResultVar} {e:TypeId} {cs cs':List FV} {n n':Nat} {z:Bool} {b:Nat} (h:Ez P rs L H=some (.vec b n' 0 n')) (hb:hget H b=some (.vec e cs' n' z)) (hn:n'=n) (hcs:cs'=cs):Bg P rs e cs n z .ret L H nx:=by
 subst hn;subst hcs;exact ⟨b,h,hb⟩
theorem Ba.enter {f:FuncId} {fn:Func} {c:Code} {xs cs:List FV} {e:TypeId} {n:Nat} {z:Bool} (ho:E.O f=none) (hf:E.P.funcs[f]?=some fn) (hb:fn.body=some c) (hok:IL E.G fn c=true) (hn:xs.length≤fn.ntmps)
 (h:Ad E 0 c (CG 0 (xs.map .p)) [] 0 (Bg E.P fn.results.toList e cs n z)):Ba E f xs e cs n z:=by
 intro m F σ BF h1 h2;refine Jh.enter ho hf hb hok (by rw [← h2.length];grind) ((h ⟨m,F,σ,[],0⟩ rfl m F σ _ h1 ?_ (Step.refl _ _ _ _ _)).mono ?_)
 ·intro i v hi
  obtain ⟨_,h3⟩:=Jd _ 0 i v hi;obtain ⟨u,h4,h5⟩:=h2.get h3;have:=GL BF 0 .leaf i;grind
 ·rintro x s ⟨L',H',nx',F',σ',q,c1,c2,c3⟩
  have key:(∃ b,Ez E.P fn.results.toList L' H'=some (.vec b n 0 n)∧hget H' b=some (.vec e cs n z))→∃ v,Fa E.P fn s=some v∧∃ r H' nx' F' σ',(r=.vec 0 n 0 n∧H'=[(0,.vec e cs n z)]∧nx'=1)∧Ctx E.Γ s.m F' σ' H' nx'∧RP s.m F' (htag H') σ' nx' r v∧Step m F σ [] 0 s.m F' σ' H' nx':=by
   rintro ⟨b,hr,hb⟩;obtain ⟨v,h3,h4⟩:=KF c1 c2 hr;obtain ⟨_,hrb⟩:=c1.hp b _ hb;have hone:∀ b' x,hget [(0,HB.vec e cs n z)] b'=some x→b'=0∧x=.vec e cs n z:=fun b' x hx=>by
    rw [Bo] at hx;split at hx
    ·grind
    ·cases hx
   refine ⟨v,h3,_,_,_,F',fun _=>σ' b,⟨rfl,rfl,rfl⟩,⟨c1.fr,fun b' x hx=>?_,fun b1 b2 x1 x2 c hx1 hx2 _ _=>?_,c1.gl⟩,?_,⟨c3.size,c3.keep,c3.Ky,c3.Kw,fun c hc ho=>?_,aq _,fun b hb=>absurd hb (bL _),c3.low⟩⟩
   ·obtain ⟨rfl,rfl⟩:=hone b' x hx
    exact ⟨by omega,hrb⟩
   ·grind
   ·cases h4 with
    |vec hb' hc h =>
     refine .vec (by omega) hc fun k hk=>?_
     cases hk;exact ⟨ab _,fun _=>(h n (by simp [htag,hb,HB.tag])).2 rfl⟩
   ·obtain ⟨b',x,hx,hc'⟩:=ho
    exact c3.Jo c hc ⟨b,_,hb,hc'⟩
  cases x with
  |exit i=>exact q.elim
  |normal=>exact key q
  |ret=>exact key q
theorem Aa.Dk {α:Type} {_:Enc α} {l:List α} {a:α} {s x:Operand} {sT xT e e2:TypeId} {xd:TypeDesc} {i:TypeInfo} {b b2 n:Nat} {xs:List FV} {z z2:Bool} (hs:AU E.Γ L s=some (.vec b n 0 n)) (hb:hget H b=some (.vec e (cells l) n z))
 (hx:AU E.Γ L x=some (.vec b2 1 0 1)) (hb2:hget H b2=some (.vec e2 xs 1 z2)) (hxs:xs=Enc.enc a) (hn:l.length=n) (xQ:E.P.underlying sT=some (.slice e)) (hxT:E.P.underlying xT=some xd) (hd:∀ k,xd≠.int k) (hi:E.P.info? e=some i)
 (hsz:Enc.size α=i.size) (hzs:Eo i=true) (h0:0<i.size) (hby:i.bytes<1000000) (hlen:l.length<1000000) (q:Q (.vec b (l.length+1) 0 (l.length+1)) (hput H b (.vec e (cells (l++[a])) (l.length+1) z)) nx) :
 Aa E true ⟨dst,.call { callee:=.builtin .append,args:=#[s,x],argTypes:=#[sT,xT] },ty,pos,af,gd⟩ L H nx Q:=by
 subst hn;have hroom:(l.length+1)*(i.bytes+1)≤room:=an (cM (by omega:l.length+1≤1000000) (by omega:i.bytes+1≤1000000)) (by decide);refine Aa.append (i:=i) hs hb (rY.all hx hb2 (by rw [hxs,Enc.len,← hsz];omega)) xQ hxT hd hi hzs (by omega) hroom (by rw [CQ,hsz]) h0 ?_;have:cells (l++[a])=cells l++xs:=by rw [EG,hxs];simp [cells,encs]
 grind
theorem Aa.not {t:TypeId} {x:Operand} {b:Bool} (hx:AU E.Γ L x=some (.p (.bool b))) (q:Q (.p (.bool (!b))) H nx):Aa E w ⟨dst,.unOp .not t x,ty,pos,af,gd⟩ L H nx Q :=
 Aa.quiet q fun m F σ tt h1 h2=>by
  refine ⟨.bool (!b),fun _=>?_,.p (.bool _)⟩;have hb:=Ih h1 h2 hx;simp only [BO,FB,hb];cases b<;>rfl
theorem PV.int_eq {k:IntKind} {a b:Int} (h:a=b):(PV.p (.int k a))=.p (.int k b) :=by grind
theorem PV.FZ {a b:Bool} (h:a=b):(PV.p (.bool a))=.p (.bool b) :=by grind
end
section
open Go.Am
variable {E:Env} {L:Frame} {H:Heap} {nx:Nat} {Q:PV→Heap→Nat→Prop} {w:Bool}
variable {dst:Option Tmp} {ty:TypeId} {pos:String} {af:Array Edge} {gd:Option (Nat×Bool)}
section
variable {bn:Nat} {ops:Array Oper} {op:Op} {l:List Oper} {i:Nat} {R:Frame→Heap→Nat→Prop}
theorem Af.quiet (h:Aa E false ⟨dst,op,ty,pos,af,none⟩ L H nx fun r H' nx'=>Af E bn ops (i+1) l (H8 L dst r) H' nx' R):Af E bn ops i (⟨dst,op,ty,pos,af,none⟩::l) L H nx R:=by
 intro B hB m F σ t h1 h2 h3;refine I9.cons (Ja.wanted (L:=L) h1 h2 rfl) ((h (m.at m.size) F σ t (h1.at _) (RL.at (Γ:=E.Γ) _ h2)).mono ?_);rintro v m' ⟨r,H',nx',F',σ',q,c1,c2,c3,c4⟩;refine ⟨.inr (.inl (c4 rfl m.size (ab _) (ab _))),?_⟩;exact q B hB _ F' σ' _ (c1.at _) (RL.at (Γ:=E.Γ) _ (((RL.at (Γ:=E.Γ) _ h2).step c3 (h1.at _)).put c2)) (h3.trans c3.at)
theorem Af.VR {j d:Nat} {want:Bool} (hd:(ops[j]?).bind (·.dst)=some d) (hb:Fp L d=some (.p (.bool want))) (h:Aa E false ⟨dst,op,ty,pos,af,some (j,want)⟩ L H nx fun r H' nx'=>Af E bn ops (i+1) l (H8 L dst r) H' nx' R) :
 Af E bn ops i (⟨dst,op,ty,pos,af,some (j,want)⟩::l) L H nx R:=by
 intro B hB m F σ t h1 h2 h3;refine I9.cons (Ja.wanted (L:=L) (w:=true) h1 h2 ⟨want,d,hd,hb,by cases want<;>rfl⟩) ((h (m.at m.size) F σ t (h1.at _) (RL.at (Γ:=E.Γ) _ h2)).mono ?_);rintro v m' ⟨r,H',nx',F',σ',q,c1,c2,c3,c4⟩;refine ⟨.inr (.inl (c4 rfl m.size (ab _) (ab _))),?_⟩;exact q B hB _ F' σ' _ (c1.at _) (RL.at (Γ:=E.Γ) _ (((RL.at (Γ:=E.Γ) _ h2).step c3 (h1.at _)).put c2)) (h3.trans c3.at)
theorem Af.bar (hw:barrier E.P ops i=true) (h:Aa E true ⟨dst,op,ty,pos,af,none⟩ L H nx fun r H' nx'=>Af E bn ops (i+1) l (H8 L dst r) H' nx' R):Af E bn ops i (⟨dst,op,ty,pos,af,none⟩::l) L H nx R:=Af.cons rfl hw h
end
theorem Ar.le (d:Nat) {v v0:PV} (hd:Fp L d=some v) (hle:tK v v0):Ar E L H nx ((d,v0)::L) H nx:=fun B m F σ t h1 h2 h3=>by
 refine ⟨F,σ,h1,fun i x hi=>?_,h3⟩;rw [Ec] at hi;by_cases e:d=i
 ·rw [if_pos e] at hi;cases hi;subst e;exact RP.le hle (h2 d v hd)
 ·rw [if_neg e] at hi;exact h2 i x hi
theorem Ctx.move {Γ:Nat→Option (List Value×TypeId)} {m m':Mem} {F:Nat→Prop} {σ:Nat→Value} {b0:Nat} {x0 x':HB} {s':Value} (h:Ctx Γ m F σ H nx) (hb:hget H b0=some x0)
 (hsz:m.size≤m'.size) (hget':∀ c,c<m.size→Dl (σ b0)≠some c→m'.get c=m.get c) (hlow:∀ k,k≤m.low→k≤m.size→(∀ c,Dl (σ b0)=some c→k≤c)→k≤m'.low)
 (hblk:∀ c,Dl s'=some c→Dl (σ b0)=some c∨m.size≤c) (hr:RB m' F (htag ((nx,x')::hdel H b0)) (upd σ nx s') (nx+1) s' x') :
 Ctx Γ m' F (upd σ nx s') ((nx,x')::hdel H b0) (nx+1)∧Step m F σ H nx m' F (upd σ nx s') ((nx,x')::hdel H b0) (nx+1):=by
 have hown:∀ c,Dl (σ b0)=some c→own H σ c:=fun c hc=>⟨b0,x0,hb,hc⟩
 have hfz:∀ c,F c→F c∧m'.get c=m.get c:=fun c hc=>⟨hc,hget' c (h.fr c hc) fun e=>(h.LY (hown c e)).1 hc⟩
 have hN:Names nx (htag H) σ (htag ((nx,x')::hdel H b0)) (upd σ nx s'):=fun b hbn=>by
  rw [JJ,if_neg (by omega),Wi,CY _ _ (by omega)];split
  ·exact ⟨trivial,fun _ _ _=>rfl⟩
  ·exact ⟨Vk.refl _,fun _ _ _=>rfl⟩
 have hg0:hget ((nx,x')::hdel H b0) nx=some x':=by rw [Bo,if_pos rfl]
 have hgo:∀ b y,hget ((nx,x')::hdel H b0) b=some y→b≠nx→b≠b0∧hget H b=some y:=fun b y hy e=>by
  rw [Bo,if_neg (Ne.symm e),Nw] at hy;grind
 refine ⟨⟨fun c hc=>ag (h.fr c hc) hsz,?_,?_,?_⟩,⟨hsz,fun c hc ho=>hget' c hc fun e=>ho (hown c e),fun _ h=>h,fun _ _ h=>.inl h,?_,cE _,hN,?_⟩⟩
 ·intro b y hy
  by_cases e:b=nx
  ·subst e
   rw [hg0] at hy;cases hy;rw [upd_same];grind
  ·obtain ⟨hne,hy⟩:=hgo b y hy e
   obtain ⟨h1,h2⟩:=h.hp b y hy;rw [CY _ _ e];refine ⟨by omega,h2.mono hfz hN (cE _) hsz fun c hc=>?_⟩;have:=h.LY ⟨b,y,hy,hc⟩;exact ⟨hget' c this.2 fun e'=>hne (h.sep b b0 y x0 c hy hb hc e'),this.1⟩
 ·intro b b' y y' c h1 h2 h3 h4
  by_cases e:b=nx<;>by_cases e':b'=nx
  ·omega
  ·subst e
   obtain ⟨hne,hy⟩:=hgo b' y' h2 e';rw [upd_same] at h3;rw [CY _ _ e'] at h4;rcases hblk c h3 with h5|h5
   ·exact absurd (h.sep b0 b' x0 y' c hb hy h5 h4).symm hne
   ·have:=(h.LY ⟨b',y',hy,h4⟩).2;omega
  ·subst e'
   obtain ⟨hne,hy⟩:=hgo b y h1 e;rw [upd_same] at h4;rw [CY _ _ e] at h3;rcases hblk c h4 with h5|h5
   ·exact absurd (h.sep b b0 y x0 c hy hb h3 h5) hne
   ·have:=(h.LY ⟨b,y,hy,h3⟩).2;omega
  ·obtain ⟨_,hy⟩:=hgo b y h1 e
   obtain ⟨_,hy'⟩:=hgo b' y' h2 e';rw [CY _ _ e] at h3;rw [CY _ _ e'] at h4;exact h.sep b b' y y' c hy hy' h3 h4
 ·intro g vs e hg
  obtain ⟨h1,h2,h3⟩:=h.gl g vs e hg;grind
 ·rintro c hc ⟨b,y,hy,hbc⟩
  by_cases e:b=nx
  ·subst e
   rw [upd_same] at hbc;grind
  ·obtain ⟨_,hy⟩:=hgo b y hy e
   rw [CY _ _ e] at hbc;exact ⟨b,y,hy,hbc⟩
 grind
theorem appendMove' {s x:Operand} {sT xT e:TypeId} {xd:TypeDesc} {i:TypeInfo} {b n k:Nat} {cs xs:List FV} {z:Bool} (hs:AU E.Γ L s=some (.vec b n 0 n)) (hb:hget H b=some (.vec e cs n z)) (hx:rY E.Γ L H nx x i.size xs k)
 (xQ:E.P.underlying sT=some (.slice e)) (hxT:E.P.underlying xT=some xd) (hd:∀ k,xd≠.int k) (hi:E.P.info? e=some i) (hzs:Eo i=true) (hroom:(n+k)*(i.bytes+1)≤room) (hl:cs.length=n*i.size) (hsz:0<i.size)
 (q:Q (.vec nx (n+k) 0 (n+k)) ((nx,.vec e (cs++xs) (n+k) z)::hdel H b) (nx+1)):Aa E true ⟨dst,.call { callee:=.builtin .append,args:=#[s,x],argTypes:=#[sT,xT] },ty,pos,af,gd⟩ L H nx Q:=by
 intro m F σ t h1 h2;have hsub:=JK h1 h2 hs hb;obtain ⟨hx1,l,hx2,hx3,hx4⟩:=hx m F σ t h1 h2;obtain ⟨hlt,hr⟩:=h1.hp b _ hb;have hlenS:lenOf (ev t s)=some n:=by
  rcases hr with ⟨r1,r2,r3⟩|⟨c,g,vs,r1,_⟩
  ·rcases r3 with ⟨r3,_⟩|⟨b',o',g',r3,_⟩<;>rw [r3] at hsub<;>simp only [Gg,DC] at hsub<;>rw [hsub.1,r2]<;>rfl
  ·rw [r1] at hsub;simp only [Gg] at hsub;rw [hsub];rfl
 have happ:∀ v m',BL m e i.size l k (ev t s)=some (v,m')→IX E.P #[sT,xT] #[ev t s,ev t x] m=some (v,m'):=by
  intro v m' ha;simp only [IX,List.getElem?_toArray,List.getElem?_cons_zero,List.getElem?_cons_succ,xQ,hxT,hlenS,hi,hzs,Bool.not_true,Bool.false_eq_true,if_false];cases xd<;>first|exact absurd rfl (hd _)|(simp only [hx1,hx2,hx4,Bool.and_true,decide_eq_true_eq];rw [if_pos hroom];exact ha)
 have hfin:∀ v m' s',BL m e i.size l k (ev t s)=some (v,m')→s'=v→(Ctx E.Γ m' F (upd σ nx s') ((nx,.vec e (cs++xs) (n+k) z)::hdel H b) (nx+1)∧Step m F σ H nx m' F (upd σ nx s') ((nx,.vec e (cs++xs) (n+k) z)::hdel H b) (nx+1)) →
  (BK v=true∧Gg v 0 (n+k) v)→Gs E.P E.O E.G ⟨dst,.call { callee:=.builtin .append,args:=#[s,x],argTypes:=#[sT,xT] },ty,pos,af,gd⟩ ⟨t,m⟩ fun v m'=>∃ r H' nx' F' σ',Q r H' nx'∧Ctx E.Γ m' F' σ' H' nx'∧RP m' F' (htag H') σ' nx' r v∧Step m F σ H nx m' F' σ' H' nx'∧(true=false→Quiet m m'):=by
  rintro v m' s' ha rfl ⟨c1,c2⟩ ⟨hv1,hv2⟩;refine Gs.op (v:=s') (m':=m') (fun _=>?_) ⟨_,_,_,F,_,q,c1,?_,c2,fun h=>by cases h⟩
  ·have:=happ _ _ ha
   simp only [BO,FB];grind
  ·refine .vec (bE _) hv1 fun j hj=>?_
   rw [JJ,if_pos rfl] at hj;simp only [HB.tag,Option.some.injEq,Tg.vec.injEq] at hj;refine ⟨by omega,fun _=>?_⟩;rw [upd_same];omega
 rcases hr with ⟨r1,r2,r3⟩|⟨c,g,vs,r1,r2,r3,r4,r5,r6,r7⟩
 ·have hv:Dl (σ b)=none∧(ev t s=.slice none 0 0∧z=true∨(∃ b o g,ev t s=.slice (some ⟨b,o,some g⟩) 0 0)∧z=false):=by
   rcases r3 with ⟨r3,hz⟩|⟨b',o',g',r3,hz⟩
   ·rw [r3] at hsub ⊢;exact ⟨rfl,.inl ⟨hsub.1,hz⟩⟩
   ·rw [r3] at hsub ⊢;simp only [Gg] at hsub;exact ⟨rfl,.inr ⟨⟨_,_,_,hsub.1⟩,hz⟩⟩
  subst r1;subst r2;rcases am k with h0|h0
  ·subst h0
   have hxs:xs=[]:=by
    have hl0:l.length=0:=by rw [Fg hx2];omega
    rw [bv hl0] at hx3;cases hx3;rfl
   subst hxs;have ha:BL m e i.size l 0 (ev t s)=some (ev t s,m):=by
    rcases hv.2 with ⟨hv,_⟩|⟨⟨_,_,_,hv⟩,_⟩<;>rw [hv]<;>simp [BL]
   refine hfin _ _ _ ha rfl ?_ (by rcases hv.2 with ⟨hv,_⟩|⟨⟨_,_,_,hv⟩,_⟩<;>rw [hv]<;>refine ⟨rfl,?_⟩<;>simp [Gg]);refine h1.move hb (ab _) (fun _ _ _=>rfl) (fun _ h _ _=>h) (fun c hc=>by rcases hv.2 with ⟨hv,_⟩|⟨⟨_,_,_,hv⟩,_⟩<;>rw [hv] at hc<;>simp [Dl] at hc) ?_;refine .inl ⟨rfl,rfl,?_⟩;rcases hv.2 with ⟨hv,hz⟩|⟨⟨b',o',g',hv⟩,hz⟩
   ·exact .inl ⟨hv,hz⟩
   ·exact .inr ⟨b',o',g',hv,hz⟩
  ·have ha:BL m e i.size l k (ev t s)=some (AQ m e l k):=by
    rcases hv.2 with ⟨hv,_⟩|⟨⟨_,_,_,hv⟩,_⟩<;>rw [hv]<;>simp only [BL]<;>rw [if_neg (by omega)]
   refine hfin _ _ _ ha rfl ?_ ⟨rfl,by rw [cw];rfl⟩;refine h1.move (x0:=.vec e [] 0 z) (x':=.vec e ([]++xs) (0+k) z) hb (by simp [AQ,Mem.alloc]) (fun c hc _=>by (try simp only [AQ]);rw [Mem.Bh,if_neg (by omega)])
    (fun k' k1 k2 _=>by simp only [AQ,Mem.alloc];omega) (fun c hc=>by simp only [AQ,Dl,Option.some.injEq] at hc;right;omega) ?_
   refine .inr ⟨m.size,0,l,by simp [AQ],by simp [AQ,Mem.alloc],fun hf=>cn _ (h1.fr _ hf),by (try simp only [AQ]);rw [Mem.Bh,if_pos rfl],?_,hx4,fun h=>by omega⟩;rw [fa];exact hx3.mono (fun c hf=>⟨hf,by (try simp only [AQ]);rw [Mem.Bh,if_neg (by have:=h1.fr c hf;omega)]⟩)
 ·rw [r1] at hsub
  simp only [Gg] at hsub;have hlen:=r5.length;have hold:takeN (n*i.size) (vs.drop 0)=some vs:=by
   rw [cq,← hl,hlen];simp [takeN]
  have ha:BL m e i.size l k (ev t s)=some (.slice (some ⟨c,0,none⟩) (n+k) (g+1),m.put c (.cells (vs++l) e (g+1) false)):=by
   rw [hsub];simp only [BL,r4,beq_self_eq_true,decide_eq_true hsz,Bool.and_self,if_true,hold];simp
  have hput':∀ d,c≠d→(m.put c (.cells (vs++l) e (g+1) false)).get d=m.get d:=fun d hd=>by rw [Mem.get_put,if_neg hd]
  refine hfin _ _ _ ha rfl ?_ ⟨rfl,rfl⟩;refine h1.move (x':=.vec e (cs++xs) (n+k) z) hb (ab _) (fun d _ hd=>hput' d fun e=>hd (by rw [r1,e];rfl)) (fun k' k1 k2 k3=>by
   have:=k3 c (by rw [r1];rfl);simp only [Mem.put];omega) (fun d hd=>.inl (by rw [r1];exact hd)) ?_
  refine .inr ⟨c,g+1,vs++l,rfl,r2,r3,by rw [Mem.get_put,if_pos rfl],?_,by rw [dx,r6,hx4];rfl,fun h=>r7 (by omega)⟩;exact (r5.append hx3).mono (fun d hd=>⟨hd,hput' d fun e=>r3 (e▸hd)⟩)
theorem uY {n k:Nat} {l ws:List Value} (h:takeN n l=some ws):takeN (min k n) l=some (ws.take k):=by
 obtain ⟨rfl,hn⟩:=Fz h;unfold takeN;grind
theorem Dj.take {m:Mem} {F:Nat→Prop}:∀ {cs:List FV} {vs:List Value} (k:Nat),Dj m F cs vs→Dj m F (cs.take k) (vs.take k)
 |_,_,0,_=>by exact .nil
 |_,_,_+1,.nil=>.nil
 |_,_,k+1,.cons h t=>.cons h (Dj.take k t)
theorem Aa.b7t {t:TypeId} {x:Operand} {lo hi:Option Operand} {e:TypeId} {cs:List FV} {n a b sz:Nat} {inf:TypeInfo} (hx:AU E.Γ L x=some (.p (.lst e cs n))) (ht:E.P.underlying t=some (.slice e)) (hi':E.P.info? e=some inf) (hsz:inf.size=sz)
 (hlo:match lo with|none=>a=0|some o=>∃ k,AU E.Γ L o=some (.p (.int k (a:Int)))) (hhi:match hi with|none=>b=n|some o=>∃ k,AU E.Γ L o=some (.p (.int k (b:Int)))) (hab:a≤b) (hbn:b≤n) (hl:cs.length=n*sz)
 (q:Q (.p (.lst e ((cs.drop (a*sz)).take ((b-a)*sz)) (b-a))) H nx):Aa E w ⟨dst,.slice t x lo hi none,ty,pos,af,gd⟩ L H nx Q :=
 Aa.quiet q fun m F σ tt h1 h2=>by
  have a4m:bnd 0 (lo.map (ev tt))=some a:=by
   cases lo with
   |none=>rw [hlo];rfl
   |some o =>
    obtain ⟨k,hk⟩:=hlo;simp only [Option.map_some,CV h1 h2 hk,bnd];rfl
  have b6c:bnd n (hi.map (ev tt))=some b:=by
   cases hi with
   |none=>rw [hhi];rfl
   |some o =>
    obtain ⟨k,hk⟩:=hhi;simp only [Option.map_some,CV h1 h2 hk,bnd];rfl
  have b4b:n=0→bnd 0 (hi.map (ev tt))=some 0:=fun h0=>by grind
  have:=Bz h1 h2 hx;generalize hv:ev tt x=v at this;cases this with
  |p hr =>
   cases hr with
   |nil =>
    have hb0:b=0:=by omega
    have ha0:a=0:=by omega
    subst hb0;subst ha0;refine ⟨.slice none 0 0,fun _=>?_,.p (by simpa using RF.nil e)⟩;simp only [BO,FB,hv,aslice,Option.isSome_none,Option.map_none,Bool.false_and,Bool.false_eq_true,if_false,ht,hi',a4m,b4b rfl];rfl
   |room e' b' o' g' =>
    have hb0:b=0:=by omega
    have ha0:a=0:=by omega
    subst hb0;subst ha0;refine ⟨_,fun _=>?_,.p (by simpa using RF.room e b' o' g')⟩;simp only [BO,FB,hv,aslice,Option.isSome_none,Option.map_none,Bool.false_and,Bool.false_eq_true,if_false,ht,hi',a4m,b4b rfl];rfl
   |lst hF hm hw hr hc =>
    rename_i b' o g vs ws ro;refine ⟨.slice (some ⟨b',o+a*sz,none⟩) (b-a) g,fun _=>?_,.p (.lst hF hm (ws:=(ws.drop (a*sz)).take ((b-a)*sz)) ?_ (Dj.take _ (Dj.drop _ hr)) (UN (LC hc _) _))⟩
    ·simp only [BO,FB,hv,aslice,Option.isSome_none,Option.map_none,Bool.false_and,Bool.false_eq_true,if_false,ht,hi',a4m,b6c,hm,hab,hbn,h1.fr _ hF,and_self,if_true,Option.map_some,hsz]
    ·have h3:=uY (k:=(b-a)*sz) (N9 (k:=a*sz) hw)
     simp_all
theorem Oi {α:Type} [Enc α]:∀ (l:List α) (k:Nat),(cells l).take (k*Enc.size α)=cells (l.take k)
 |_,0=>by simp [cells,encs]
 |[],k+1=>by simp [cells,encs]
 |a::l,k+1=>by
  have ih:=Oi l k;simp only [cells,encs,List.take_succ_cons] at ih ⊢;rw [List.take_append,Enc.len,fY,← ih,cU (by rw [Enc.len];omega)];simp
theorem Aa.sliceTo {α:Type} {_:Enc α} {l:List α} {t:TypeId} {x o:Operand} {e:TypeId} {n b:Nat} {inf:TypeInfo} {k:IntKind} (hx:AU E.Γ L x=some (.p (.lst e (cells l) n))) (hhi:AU E.Γ L o=some (.p (.int k (b:Int)))) (ht:E.P.underlying t=some (.slice e)) (hi':E.P.info? e=some inf)
 (hsz:inf.size=Enc.size α) (hn:l.length=n) (hbn:b≤n) (q:Q (.p (.lst e (cells (l.take b)) b)) H nx):Aa E w ⟨dst,.slice t x none (some o) none,ty,pos,af,gd⟩ L H nx Q :=
 Aa.b7t (a:=0) (b:=b) hx ht hi' hsz rfl ⟨k,hhi⟩ (aq _) hbn (by rw [CQ,hn]) (by
  rw [ge,cq,Nat.sub_zero,Oi];exact q)
theorem Aa.lD {t t2:TypeId} {x y:Operand} {k k':IntKind} {m n:Nat} (hx:AU E.Γ L x=some (.p (.int k (m:Int)))) (hy:AU E.Γ L y=some (.p (.int k' (n:Int)))) (hn:n≤k.bits) (q:Q (.p (.int k ((m / 2 ^ n:Nat):Int))) H nx) :
 Aa E w ⟨dst,.binOp .shr t x y t2,ty,pos,af,gd⟩ L H nx Q:=by
 refine Aa.shr hx hy (by omega) ?_;grind
end
section
open Go.Am
variable {E:Env} {L:Frame} {H:Heap} {nx:Nat} {Q:PV→Heap→Nat→Prop} {w:Bool}
variable {dst:Option Tmp} {ty:TypeId} {pos:String} {af:Array Edge} {gd:Option (Nat×Bool)}
theorem wrap_u64 {n:Int} (h0:0≤n) (h:n<18446744073709551616):IntKind.u64.wrap n=n:=by
 have e:IntKind.u64.wrap n=n % 2^64:=by
  rfl
 omega
theorem ou {k:IntKind} {m n:Nat} (hk:k=.i64∧m<2 ^ 63∨k=.u64∧m<2 ^ 64) (hn:n<2 ^ 64):S9 .and k m n=some (.int k ((m &&& n:Nat):Int)):=by
 have e:(BitVec.ofInt 64 (m:Int) &&& BitVec.ofInt 64 (n:Int)).toNat=m &&& n:=by grind
 have hle:m &&& n≤m:=fc;rcases hk with ⟨rfl,h⟩|⟨rfl,h⟩
 ·show some (FV.int .i64 (IntKind.i64.wrap ((BitVec.ofInt 64 (m:Int) &&& BitVec.ofInt 64 (n:Int)).toNat:Int)))=_
  rw [e,wrap_i64 ⟨by omega,by omega⟩]
 ·show some (FV.int .u64 (IntKind.u64.wrap ((BitVec.ofInt 64 (m:Int) &&& BitVec.ofInt 64 (n:Int)).toNat:Int)))=_
  rw [e,wrap_u64 (by omega) (by omega)]
theorem b0b {m n:Nat} (hm:m<2 ^ 64) (hn:n<2 ^ 64):S9 .or .u64 m n=some (.int .u64 ((m ||| n:Nat):Int)):=by
 have e:(BitVec.ofInt 64 (m:Int) ||| BitVec.ofInt 64 (n:Int)).toNat=m ||| n:=by grind
 show some (FV.int .u64 (IntKind.u64.wrap ((BitVec.ofInt 64 (m:Int) ||| BitVec.ofInt 64 (n:Int)).toNat:Int)))=_;rw [e,wrap_u64 (by omega) (by omega)]
theorem Aa.b8y {t t2:TypeId} {x y:Operand} {m n:Nat} (hx:AU E.Γ L x=some (.p (.int .u64 (m:Int)))) (hy:AU E.Γ L y=some (.p (.int .u64 (n:Int)))) (hm:m<2 ^ 64) (hn:n<2 ^ 64) (q:Q (.p (.int .u64 ((m &&& n:Nat):Int))) H nx) :
 Aa E w ⟨dst,.binOp .and t x y t2,ty,pos,af,gd⟩ L H nx Q:=Aa.int hx hy (ou (.inr ⟨rfl,hm⟩) hn) q
theorem Aa.orU {t t2:TypeId} {x y:Operand} {m n:Nat} (hx:AU E.Γ L x=some (.p (.int .u64 (m:Int)))) (hy:AU E.Γ L y=some (.p (.int .u64 (n:Int)))) (hm:m<2 ^ 64) (hn:n<2 ^ 64) (q:Q (.p (.int .u64 ((m ||| n:Nat):Int))) H nx) :
 Aa E w ⟨dst,.binOp .or t x y t2,ty,pos,af,gd⟩ L H nx Q:=Aa.int hx hy (b0b hm hn) q
theorem Aa.lW {t t2:TypeId} {x y:Operand} {k':IntKind} {n:Nat} (hx:AU E.Γ L x=some (.p (.int .u64 1))) (hy:AU E.Γ L y=some (.p (.int k' (n:Int)))) (hn:n<64) (q:Q (.p (.int .u64 ((2 ^ n:Nat):Int))) H nx) :
 Aa E w ⟨dst,.binOp .shl t x y t2,ty,pos,af,gd⟩ L H nx Q:=by
 refine Aa.shl hx hy (by omega) ?_;have h1:(min (n:Int).toNat IntKind.u64.bits)=n:=by simp only [Int.toNat_natCast,IntKind.bits];omega
 have h2:(2:Nat) ^ n≤2 ^ 63:=aE (by omega) (by omega);have h3:(1:Int)*2 ^ n=((2 ^ n:Nat):Int):=by simp
 have h4:((2 ^ n:Nat):Int)<18446744073709551616:=Int.ofNat_lt.2 (cr h2 (by decide));rw [h1,h3,wrap_u64 (Int.natCast_nonneg _) h4];exact q
theorem Aa.Qv {t t2:TypeId} {x y:Operand} {k:IntKind} {m n:Nat} (hx:AU E.Γ L x=some (.p (.int k (m:Int)))) (hy:AU E.Γ L y=some (.p (.int k (n:Int)))) (hn:0<n) (q:Q (.p (.int k ((m % n:Nat):Int))) H nx) :
 Aa E w ⟨dst,.binOp .rem t x y t2,ty,pos,af,gd⟩ L H nx Q:=Aa.int hx hy (r:=.int k ((m % n:Nat):Int)) (by
  simp only [S9];grind) q
theorem Aa.KL {t t2:TypeId} {x y:Operand} {k:IntKind} {a c:Int} (hx:AU E.Γ L x=some (.p (.int k a))) (hy:AU E.Γ L y=some (.p (.int k c))) (ha:0≤a) (hc:0<c) (q:Q (.p (.int k (a % c))) H nx) :
 Aa E w ⟨dst,.binOp .rem t x y t2,ty,pos,af,gd⟩ L H nx Q:=Aa.int hx hy (r:=.int k (a % c)) (by
  simp only [S9];grind) q
theorem Aa.Ea {s d:TypeId} {x:Operand} {k':IntKind} {n:Int} {sd:TypeDesc} (hx:AU E.Γ L x=some (.p (.int k' n))) (hs:E.P.underlying s=some sd) (hns:oq sd=true) (hd:E.P.underlying d=some (.int .i64)) (hn:-9223372036854775808≤n∧n<9223372036854775808) (q:Q (.p (.int .i64 n)) H nx) :
 Aa E w ⟨dst,.convert s d x,ty,pos,af,gd⟩ L H nx Q:=Aa.Yo hx hs hns hd (by rw [wrap_i64 hn];exact q)
section
variable {bn:Nat} {ops:Array Oper} {op:Op} {l:List Oper} {i:Nat} {R:Frame→Heap→Nat→Prop}
end
theorem Uc {Γ:Nat→Option (List Value×TypeId)} {m:Mem} {F:Nat→Prop} {T:Nat→Option Tg} {σ:Nat→Value} {t:Tr Value} {ops:Array Oper} {o:Oper} {j d:Nat} {want:Bool} (hl:RL m F T σ nx L t) (hg:o.guard=some (j,want)) (hd:(ops[j]?).bind (·.dst)=some d) (hb:Fp L d=some (.Eb [])) :
 Region.wanted o (Eh ops t)=false:=by
 have h:=hl d _ hb;generalize hv:Cj t d=v at h;cases h with
 |Eb h =>
  cases h;unfold Region.wanted;rw [hg];simp only [Eh,hd,hv];rfl
section
variable {bn:Nat} {ops:Array Oper} {op:Op} {l:List Oper} {i:Nat} {R:Frame→Heap→Nat→Prop}
theorem Ah.Zu {j d:Nat} {want:Bool} (hd:(ops[j]?).bind (·.dst)=some d) (hb:Fp L d=some (.Eb [])) (h:Ah E bn ops l (H8 L dst (.Eb [])) H nx R):Ah E bn ops (⟨dst,op,ty,pos,af,some (j,want)⟩::l) L H nx R:=by
 intro B hB m F σ t h1 h2 h3;exact UM.skip (Uc (Γ:=E.Γ) h2 rfl hd hb) (h B hB m F σ _ h1 (h2.put (.Eb .nil)) h3)
theorem Af.Zu {j d:Nat} {want:Bool} (hd:(ops[j]?).bind (·.dst)=some d) (hb:Fp L d=some (.Eb [])) (h:Af E bn ops (i+1) l (H8 L dst (.Eb [])) H nx R):Af E bn ops i (⟨dst,op,ty,pos,af,some (j,want)⟩::l) L H nx R:=by
 intro B hB m F σ t h1 h2 h3;exact I9.skip (Uc (Γ:=E.Γ) h2 rfl hd hb) (h B hB _ F σ _ (h1.at _) (RL.at (Γ:=E.Γ) _ (h2.put (.Eb .nil))) (h3.trans (Step.at0 _ _ _ _ _ _ (ab _))))
end
theorem jP {n k b:Nat} (h1:n+k<1000000) (h2:b<1000000):(n+k)*(b+1)≤room:=an (cM (by omega:n+k≤1000000) (by omega:b+1≤1000000)) (by decide)
theorem Aa.b2s {α:Type} {_:Enc α} {l r:List α} {s x:Operand} {sT xT e e2:TypeId} {xd:TypeDesc} {i:TypeInfo} {b n k:Nat} {z:Bool} (hs:AU E.Γ L s=some (.vec b n 0 n)) (hb:hget H b=some (.vec e (cells l) n z)) (hx:AU E.Γ L x=some (.p (.lst e2 (cells r) k))) (hn:l.length=n) (hk:r.length=k)
 (xQ:E.P.underlying sT=some (.slice e)) (hxT:E.P.underlying xT=some xd) (hd:∀ k,xd≠.int k) (hi:E.P.info? e=some i) (hsz:Enc.size α=i.size) (hzs:Eo i=true) (h0:0<i.size) (hby:i.bytes<1000000) (hlen:l.length+r.length<1000000)
 (q:Q (.vec nx (l.length+r.length) 0 (l.length+r.length)) ((nx,.vec e (cells (l++r)) (l.length+r.length) z)::hdel H b) (nx+1)):Aa E true ⟨dst,.call { callee:=.builtin .append,args:=#[s,x],argTypes:=#[sT,xT] },ty,pos,af,gd⟩ L H nx Q:=by
 subst hn;subst hk;refine appendMove' (i:=i) hs hb (rY.lst hx (by rw [CQ,hsz])) xQ hxT hd hi hzs (jP hlen hby) (by rw [CQ,hsz]) h0 ?_;rw [← EG];exact q
theorem Aa.FM {α:Type} {_:Enc α} {r:List α} {s x:Operand} {sT xT e e2:TypeId} {xd:TypeDesc} {i:TypeInfo} {b k:Nat} {z:Bool} (hs:AU E.Γ L s=some (.vec b 0 0 0)) (hb:hget H b=some (.vec e [] 0 z)) (hx:AU E.Γ L x=some (.p (.lst e2 (cells r) k))) (hk:r.length=k)
 (xQ:E.P.underlying sT=some (.slice e)) (hxT:E.P.underlying xT=some xd) (hd:∀ k,xd≠.int k) (hi:E.P.info? e=some i) (hsz:Enc.size α=i.size) (hzs:Eo i=true) (h0:0<i.size) (hby:i.bytes<1000000) (hlen:r.length<1000000)
 (q:Q (.vec nx r.length 0 r.length) ((nx,.vec e (cells r) r.length z)::hdel H b) (nx+1)):Aa E true ⟨dst,.call { callee:=.builtin .append,args:=#[s,x],argTypes:=#[sT,xT] },ty,pos,af,gd⟩ L H nx Q:=by
 refine Aa.b2s (l:=([]:List α)) hs hb hx rfl hk xQ hxT hd hi hsz hzs h0 hby (by grind) ?_;grind
theorem Aa.a6p {x:Operand} {t e':TypeId} (hx:AU E.Γ L x=some (.p (.val (.slice none 0 0)))) (ht:E.P.underlying t=some (.slice e')) (q:Q (.p (.int .i64 0)) H nx) :
 Aa E w ⟨dst,.call { callee:=.builtin .len,args:=#[x],argTypes:=#[t] },ty,pos,af,gd⟩ L H nx Q :=
 Aa.quiet q fun m F σ tt c1 c2=>by
  have:=Bz c1 c2 hx;generalize hv:ev tt x=v at this;refine ⟨.int .i64 0,fun _=>?_,.p (.int _ _)⟩;cases this with|p h=>cases h;simp [BO,FB,Yc,ht,hv]
theorem Ah.Gz (d:Nat) {bn:Nat} {ops:Array Oper} {op:Op} {l:List Oper} {R:Frame→Heap→Nat→Prop} (h:Ah E bn ops (⟨some d,op,ty,pos,af,gd⟩::l) L H nx R):Ah E bn ops (⟨some d,op,ty,pos,af,gd⟩::l) L H nx R:=h
theorem Af.Gz (d:Nat) {bn i:Nat} {ops:Array Oper} {op:Op} {l:List Oper} {R:Frame→Heap→Nat→Prop} (h:Af E bn ops i (⟨some d,op,ty,pos,af,gd⟩::l) L H nx R):Af E bn ops i (⟨some d,op,ty,pos,af,gd⟩::l) L H nx R:=h
theorem Ad.at (n:Nat) {bn:Nat} {ops:Array Oper} {b:Bool} {k:Code} {Q:BM→Frame→Heap→Nat→Prop} (h:Ad E bn (.seq (.region n ops b) k) L H nx Q):Ad E bn (.seq (.region n ops b) k) L H nx Q:=h
theorem Ad.atEnd (n:Nat) {bn:Nat} {ops:Array Oper} {b:Bool} {Q:BM→Frame→Heap→Nat→Prop} (h:Ad E bn (.region n ops b) L H nx Q):Ad E bn (.region n ops b) L H nx Q:=h
theorem yC {α:Type} {_:Enc α} {e:TypeId} {l:List α} {n:Nat} (h:n=l.length):(PV.p (.lst e (cells l) n))=lst e l :=by grind
theorem le_dec {a b:Nat} (h:Nat.ble a b=true):a≤b :=by simp_all
theorem AY {a b:Nat} (h:Nat.blt a b=true):a<b :=by simp_all
section
variable {L:Frame} {H:Heap}
theorem Gq.eq {k i:Nat} {v0:PV} {L0:Frame} (hv:Fp L i=some v0) (hu:v0.under k) (t:Gq k L0 L):Gq k ((i,v0)::L0) L:=⟨⟨hu,v0,hv,.refl _⟩,t⟩
theorem BG.eq {k i:Nat} {v0:HB} {L0:Heap} (hv:hget H i=some v0) (hi:i<k) (hu:v0.under k) (t:BG k L0 H):BG k ((i,v0)::L0) H:=⟨⟨hi,hu,v0,hv,.refl _⟩,t⟩
mutual
def PV.ub (k:Nat):PV→Bool
 | .p _=>true
 | .agg cs=>C9.ub k cs
 | .Eb cs=>C9.ub k cs
 | .vec b _ _ _=>Nat.blt b k
 | .ref b _=>Nat.blt b k
 | .EH b _ _=>Nat.blt b k
 | .mref b=>Nat.blt b k
 | .clo _ fs cs=>and (C9.ub k fs) (C9.ub k cs)
def C9.ub (k:Nat):List PV→Bool
 |[]=>true
 |c::cs=>and (PV.ub k c) (C9.ub k cs)
end
mutual
theorem PV.AA {k:Nat}:∀ {x:PV},PV.ub k x=true→x.under k
 | .p _,_=>trivial
 | .agg _,h=>C9.AA (by simpa [PV.ub] using h)
 | .Eb _,h=>C9.AA (by simpa [PV.ub] using h)
 | .vec _ _ _ _,h=>AY h
 | .ref _ _,h=>AY h
 | .EH _ _ _,h=>AY h
 | .mref _,h=>AY h
 | .clo _ _ _,h=>by
  simp only [PV.ub,Bool.and_eq_true] at h;exact ⟨C9.AA h.1,C9.AA h.2⟩
theorem C9.AA {k:Nat}:∀ {x:List PV},C9.ub k x=true→C9.under k x
 |[],_=>trivial
 |_::_,h=>by
  simp only [C9.ub,Bool.and_eq_true] at h;exact ⟨PV.AA h.1,C9.AA h.2⟩
end
def HB.ub (k:Nat):HB→Bool
 | .box _ cs=>C9.ub k cs
 | .QN _ cs _=>C9.ub k cs
 | .Jz _ cs=>C9.ub k cs
 |_=>true
theorem HB.AA {k:Nat} {x:HB} (h:HB.ub k x=true):x.under k:=by
 cases x with
 |box e cs=>exact C9.AA h
 |QN e cs n=>exact C9.AA h
 |Jz ks cs=>exact C9.AA h
 |vec=>trivial
 |map=>trivial
end
theorem Dy {k:Nat} {a b:Frame} (h:Gq k a b:=by repeat (first|exact Gq.nil|refine Gq.same (by exact PV.AA rfl) rfl ?_|refine Gq.same ⟨C9.Bj _ [_],trivial⟩ rfl ?_|refine Gq.cons trivial rfl (.of_eq (yC (by simp<;>omega))) ?_)):Gq k a b:=h
theorem SS {k:Nat} {a b:Frame} (h:Gq k a b:=by repeat (first|exact Gq.nil|refine Gq.same (by exact PV.AA rfl) rfl ?_|refine Gq.same ⟨C9.Bj _ [_],trivial⟩ rfl ?_|(refine Gq.eq rfl ?_ ?_;(first|exact PV.AA rfl|(simp [PV.under,C9.under];done)))|refine Gq.cons trivial rfl (.of_eq (yC (by simp<;>omega))) ?_)):Gq k a b:=h
theorem Ey {k:Nat} {a b:Heap} (h:BG k a b:=by repeat (first|exact BG.nil|(refine BG.cons (AY rfl) ?_ rfl ?_ ?_;(first|exact HB.AA rfl|exact C9.Bj _ _|(simp [HB.under,C9.under,PV.under]));(first|exact JW.refl _|exact JW.vec (FK.refl _) (by simp))))):BG k a b:=h
theorem Ws {k:Nat} {a b:Heap} (h:BG k a b:=by repeat (first|exact BG.nil|(refine BG.eq rfl (AY rfl) ?_ ?_;(first|exact HB.AA rfl|exact C9.Bj _ _|(simp [HB.under,C9.under,PV.under];done)))|(refine BG.cons (AY rfl) ?_ rfl ?_ ?_;(first|exact HB.AA rfl|exact C9.Bj _ _|(simp [HB.under,C9.under,PV.under]));(first|exact JW.refl _|exact JW.vec (FK.refl _) (by simp))))):BG k a b:=h
theorem Done.rt {P:Program} {rs:List ResultVar} {L:Frame} {H:Heap} {nx:Nat} {Q:PV→Heap→Nat→Prop} {r:PV} (h:Ez P rs L H=some r) (hu:PV.ub 0 r=true) (q:Q r [] 0):Done P rs 0 Q .ret L H nx:=Done.ret h (.refl _) (PV.AA hu) BG.nil (aq _) (ab _) q
end
end Go.Vm
