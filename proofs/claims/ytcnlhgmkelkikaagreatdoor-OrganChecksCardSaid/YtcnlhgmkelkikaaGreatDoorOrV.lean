/-
  The law of organs: what Changed returns; OrganEquals. Conditions: in each statement.
-/
import Derived.Test.YtcnlhgmkelkikaaGreatDoorOrRY
import Derived.Test.YtcnlhgmkelkikaaGreatDoorOrRZ
import Derived.Test.YtcnlhgmkelkikaaGreatDoorOrU
import Derived.Test.YtcnlhgmkelkikaaGreatDoorOrK
set_option linter.unusedSimpArgs false
set_option linter.unusedVariables false
namespace Go.Proofs.YtcnlhgmkelkikaaGreatDoor
open Go Go.Am Go.Vm
attribute [local irreducible] VVal VOps VOpsD VWp VCalls VFun VFunV QSeq QBlk QLoop Vm.Done DoneV DoneI
theorem orgL_of {m:Nat} {nm:List UInt8} {R:List Rnk} {D:List Dvs} {C:List Cpl} (h0:nm.length<1000000) (hm:m<1000000) (hR:R.length≤m) (hRa:∀ i,i<R.length→RnkSm (gi R i)) (hD:D.length≤m) (hDa:∀ i,i<D.length→DvsSm (gi D i)∧(gi D i).stops.length≤m) (hC:C.length≤m) (hCa:∀ i,i<C.length→(gi C i).name.length<1000000):OrgL m ⟨nm,R,D,C⟩ :=
 ⟨⟨h0,by show R.length<_;omega,by show D.length<_;omega,by show C.length<_;omega,hRa,fun i hi=>(hDa i hi).1,hCa⟩,hR,hD,hC,fun i hi=>(hDa i hi).2⟩
theorem gset_all {α:Type} [Inhabited α] {P:α→Prop} {l:List α} {i:Nat} {a:α} (h:∀ j,j<l.length→P (gi l j)) (ha:P a):∀ j,j<(l.set i a).length→P (gi (l.set i a) j):=fun j hj=>by
 rw [List.length_set] at hj
 rw [gi_set]
 split
 ·exact ha
 ·exact h j hj
theorem gapp_all {α:Type} [Inhabited α] {P:α→Prop} {l:List α} {a:α} (h:∀ j,j<l.length→P (gi l j)) (ha:P a):∀ j,j<(l++[a]).length→P (gi (l++[a]) j):=fun j hj=>by
 simp only [List.length_append,List.length_singleton] at hj
 unfold gi
 rcases Nat.lt_or_ge j l.length with h1|h1
 ·rw [List.getElem?_append_left h1];exact h j h1
 ·obtain rfl:j=l.length:=by omega
  simp only [List.getElem?_concat_length,Option.getD_some];exact ha
theorem gtake_all {α:Type} [Inhabited α] {P:α→Prop} {l:List α} {k:Nat} (h:∀ j,j<l.length→P (gi l j)):∀ j,j<(l.take k).length→P (gi (l.take k) j):=fun j hj=>by
 rw [List.length_take] at hj
 have e:gi (l.take k) j=gi l j:=by
  unfold gi;rw [List.getElem?_take,if_pos (by omega)]
 rw [e];exact h j (by omega)
theorem appK_all {α:Type} [Inhabited α] {P:α→Prop} {f:List α→α} {l:List α} (hf:∀ r:List α,(∀ j,j<r.length→P (gi r j))→l.length≤r.length→P (f r)) (h:∀ j,j<l.length→P (gi l j)):∀ k,∀ j,j<(appK f l k).length→P (gi (appK f l k) j)|0=>h|k+1=>gapp_all (appK_all hf h k) (hf _ (appK_all hf h k) (by rw [appK_len];omega))
theorem ch_len {l:List (List UInt8)} {k:Nat} (h:∀ x∈l,x.length≤5):(gi l k).length<1000000:=by
 rcases Nat.lt_or_ge k l.length with h1|h1
 ·have:=h (gi l k) (by unfold gi;rw [List.getElem?_eq_getElem h1];exact List.getElem_mem h1)
  omega
 ·have e:gi l k=([]:List UInt8):=by unfold gi;rw [List.getElem?_eq_none h1];rfl
  rw [e];decide
theorem chg_ex (o:Org) (n:Nat) (hn:n≤800) (hl:OrgL n o) (hr0:0<o.ranks.length) (hd0:0<o.divs.length) (x:Slp) (hx:x.Ok) :
 ∃ o':Org,VFun env 29 [.agg (Enc.enc o),.agg (Enc.enc x)] (.p (.agg (Enc.enc o')))∧OrgL (n+100) o':=by
 obtain ⟨K,A⟩:=x
 obtain ⟨hK,hA⟩:=hx
 simp only at hK hA
 have kd:A % o.divs.length<o.divs.length:=Nat.mod_lt _ hd0
 have kr:A % o.ranks.length<o.ranks.length:=Nat.mod_lt _ hr0
 have l1:=hl.ranks
 have l2:=hl.divs
 have l3:=hl.cpls
 have q0:=hl.sm.name
 have qR:=hl.sm.rk
 have qC:=hl.sm.cp
 have qD:∀ i,i<o.divs.length→DvsSm (gi o.divs i)∧(gi o.divs i).stops.length≤n+100:=fun i hi=>⟨hl.sm.dv i hi,by have:=hl.stops i hi;omega⟩
 have qd:=qD _ kd
 have qr:=qR _ kr
 have hst:=hl.stops _ kd
 have dS:=gset_all (P:=fun d:Dvs=>DvsSm d∧d.stops.length≤n+100) (i:=A % o.divs.length) qD qd
 have cA:∀ x∈chA,x.length≤5:=by decide
 have cB:∀ x∈chB,x.length≤5:=by decide
 have cC:∀ x∈chC,x.length≤5:=by decide
 have cD:∀ x∈chD,x.length≤5:=by decide
 have cE:∀ x∈chE,x.length≤5:=by decide
 have mk:∀ {nm:List UInt8} {R:List Rnk} {D:List Dvs} {C:List Cpl},nm.length<1000000→R.length≤n+100→(∀ i,i<R.length→RnkSm (gi R i))→D.length≤n+100→(∀ i,i<D.length→DvsSm (gi D i)∧(gi D i).stops.length≤n+100)→C.length≤n+100→(∀ i,i<C.length→(gi C i).name.length<1000000)→OrgL (n+100) ⟨nm,R,D,C⟩:=fun h1 h2 h3 h4 h5 h6 h7=>orgL_of h1 (by omega) h2 h3 h4 h5 h6 h7
 have s16:K % 16<16:=Nat.mod_lt _ (by decide)
 have hn':n≤1000:=by omega
 by_cases k0:K % 16=0∨K % 16=14∨K % 16=15
 ·exact ⟨_,chg0 o n hn' hl hr0 hd0 K A hK hA k0,mk q0 (by omega) qR (by rw [List.length_set];omega) dS (by omega) qC⟩
 by_cases k1:K % 16=1
 ·exact ⟨_,chg1 o n hn' hl hr0 hd0 K A hK hA k1,mk (ch_len cA) (by omega) qR (by rw [List.length_set];omega) dS (by omega) qC⟩
 by_cases k2:K % 16=2
 ·exact ⟨_,chg2 o n hn' hl hr0 hd0 K A hK hA k2,mk q0 (by rw [List.length_set];omega) (gset_all qR ⟨qr.name,qr.tone,by show 0<1000000;decide⟩) (by rw [List.length_set];omega) dS (by omega) qC⟩
 by_cases k3:K % 16=3
 ·exact ⟨_,chg3 o n hn' hl hr0 hd0 K A hK hA k3,mk q0 (by rw [List.length_set];omega) (gset_all qR ⟨ch_len cB,qr.tone,qr.wind⟩) (by rw [List.length_set];omega) dS (by omega) qC⟩
 by_cases k4:K % 16=4
 ·refine ⟨_,chg4 o n hn' hl hr0 hd0 K A hK hA k4,mk q0 (by rw [appK_len];omega) (appK_all (fun r hr hlen=>?_) qR _) (by rw [List.length_set];omega) dS (by omega) qC⟩
  have:=hr 0 (by omega)
  exact ⟨by simp [f4],this.tone,this.wind⟩
 by_cases k5:K % 16=5
 ·exact ⟨_,chg5 o n hn' hl hr0 hd0 K A hK hA k5,mk q0 (by omega) qR (by simp) (fun i hi=>by simp at hi) (by omega) qC⟩
 by_cases k6:K % 16=6
 ·exact ⟨_,chg6 o n hn' hl hr0 hd0 K A hK hA k6,mk q0 (by omega) qR (by rw [List.length_set,appK_len];omega) (gset_all (P:=fun d:Dvs=>DvsSm d∧d.stops.length≤n+100) (appK_all (P:=fun d:Dvs=>DvsSm d∧d.stops.length≤n+100) (fun r hr hlen=>⟨⟨by simp [f6],by simp [f6],fun i hi=>by simp [f6] at hi⟩,by simp [f6]⟩) qD _) qd) (by omega) qC⟩
 by_cases k7:K % 16=7
 ·exact ⟨_,chg7 o n hn' hl hr0 hd0 K A hK hA k7,mk q0 (by omega) qR (by rw [List.length_set];omega) (gset_all (P:=fun d:Dvs=>DvsSm d∧d.stops.length≤n+100) qD ⟨⟨ch_len cC,qd.1.stops,qd.1.all⟩,qd.2⟩) (by omega) qC⟩
 by_cases k8:K % 16=8
 ·exact ⟨_,chg8 o n hn' hl hr0 hd0 K A hK hA k8,mk q0 (by omega) qR (by rw [List.length_set];omega) (gset_all (P:=fun d:Dvs=>DvsSm d∧d.stops.length≤n+100) qD ⟨⟨qd.1.name,qd.1.stops,qd.1.all⟩,qd.2⟩) (by omega) qC⟩
 by_cases h0:(gi o.divs (A % o.divs.length)).stops.length=0
 ·by_cases k9:K % 16=9∨K % 16=10
  ·exact ⟨_,chg9n o n hn' hl hr0 hd0 K A hK hA k9 h0,mk q0 (by omega) qR (by rw [List.length_set];omega) dS (by omega) qC⟩
  by_cases k11:K % 16=11
  ·exact ⟨_,chg11 o n hn' hl hr0 hd0 K A hK hA k11,mk q0 (by rw [List.length_take];omega) (gtake_all qR) (by rw [List.length_set];omega) dS (by omega) qC⟩
  by_cases k12:K % 16=12
  ·exact ⟨_,chg12 o n hn' hl hr0 hd0 K A hK hA k12,mk q0 (by omega) qR (by rw [List.length_set];omega) dS (by simp;omega) (gapp_all (P:=fun c:Cpl=>c.name.length<1000000) qC (by show 2<1000000;decide))⟩
  ·exact ⟨_,chg13 o n hn' hl hr0 hd0 K A hK hA (by omega),mk q0 (by omega) qR (by rw [List.length_set];omega) dS (by simp;omega) (gapp_all (P:=fun c:Cpl=>c.name.length<1000000) qC (ch_len cE))⟩
 have h0':0<(gi o.divs (A % o.divs.length)).stops.length:=by omega
 by_cases k9:K % 16=9
 ·exact ⟨_,chg9 o n hn' hl hr0 hd0 K A hK hA k9 h0',mk q0 (by omega) qR (by rw [List.length_set];omega) (gset_all (P:=fun d:Dvs=>DvsSm d∧d.stops.length≤n+100) qD ⟨⟨qd.1.name,by show (List.set _ _ _).length<_;rw [List.length_set];exact qd.1.stops,gset_all qd.1.all ⟨ch_len cD,(qd.1.all 0 h0').segs,(qd.1.all 0 h0').all⟩⟩,by show (List.set _ _ _).length≤_;rw [List.length_set];exact qd.2⟩) (by omega) qC⟩
 by_cases k10:K % 16=10
 ·refine ⟨_,chg10 o n hn' hl hr0 hd0 K A hK hA k10 h0',mk q0 (by omega) qR (by rw [List.length_set];omega) (gset_all (P:=fun d:Dvs=>DvsSm d∧d.stops.length≤n+100) qD ⟨⟨qd.1.name,by show (appK _ _ _).length<_;rw [appK_len];omega,appK_all (fun r hr hlen=>?_) qd.1.all _⟩,by show (appK _ _ _).length≤_;rw [appK_len];omega⟩) (by omega) qC⟩
  have:=hr 0 (by omega)
  exact ⟨by simp [f10],this.segs,this.all⟩
 by_cases k11:K % 16=11
 ·exact ⟨_,chg11 o n hn' hl hr0 hd0 K A hK hA k11,mk q0 (by rw [List.length_take];omega) (gtake_all qR) (by rw [List.length_set];omega) dS (by omega) qC⟩
 by_cases k12:K % 16=12
 ·exact ⟨_,chg12 o n hn' hl hr0 hd0 K A hK hA k12,mk q0 (by omega) qR (by rw [List.length_set];omega) dS (by simp;omega) (gapp_all (P:=fun c:Cpl=>c.name.length<1000000) qC (by show 2<1000000;decide))⟩
 ·exact ⟨_,chg13 o n hn' hl hr0 hd0 K A hK hA (by omega),mk q0 (by omega) qR (by rw [List.length_set];omega) dS (by simp;omega) (gapp_all (P:=fun c:Cpl=>c.name.length<1000000) qC (ch_len cE))⟩
theorem OrgT.l {o:Org} (h:OrgT o):OrgL 3 o:=⟨h.sm,h.ranks.2,h.divs.2,h.cpls,h.stops⟩
set_option maxRecDepth 100000 in
set_option maxHeartbeats 4000000 in
theorem organEquals_spec (x:OPl) (hx:x.Ok) (a:Slp) (ha:a.Ok) (b:Slp) (hb:b.Ok):VFun env 7 [.agg x.enc,.agg (Enc.enc a),.agg (Enc.enc b)] (.p (.bool true)):=by
 have hkn:=known_spec
 have hfs:=fits_spec x hx
 refine VFun.enter (env_none (by decide)) Tryz.func7 rfl (by kernel_rfl) (by simp [Tryz.ntmps7]) ?_
 by_cases hf:fitsP x
 case neg =>
  rw [decide_eq_false hf] at hfs
  repeat' (first|apply VWp.assoc|apply VWp.rseq|apply VWp.retSeq|apply VOps.nil|apply VOps.one|(apply VOps.take;rfl;rfl)|(apply VVal.fn;rfl;rfl;exact hkn;intro _;rfl)|(apply VVal.fn;rfl;rfl;exact hfs;intro _;rfl)|(apply VVal.assign;rfl)|(apply VVal.move;rfl)|(apply VVal.load;rfl;rfl)|(apply VVal.pick_false;rfl;rfl)|(apply VVal.box;rfl;trivial)|(apply VVal.not;rfl)|(apply VWp.condSeq_true;rfl))
  all_goals first|(exfalso;omega)|contradiction|(refine Done.ret rfl (.refl _) (by first|exact trivial|exact tr3|exact tr4) HCov.nil (Nat.zero_le _) (Nat.le_refl _) ⟨?_,rfl,rfl⟩;try rfl)
 rw [decide_eq_true hf] at hfs
 have hm:=make18_spec x hx hf
 have ho:=mkO_t x hx hf
 generalize mkO x=o at *
 have r1:=ho.ranks
 have r2:=ho.divs
 obtain ⟨p,hp,lp⟩:=chg_ex o 3 (by decide) ho.l (by omega) (by omega) a ha
 obtain ⟨q,hq,lq⟩:=chg_ex o 3 (by decide) ho.l (by omega) (by omega) b hb
 have e1:=oequal_spec p q lp.sm lq.sm
 have e2:=equal18_spec p q lp.sm lq.sm
 have e3:=oequal_spec q p lq.sm lp.sm
 have e4:decide (q=p)=decide (p=q):=by
  by_cases h:p=q
  ·rw [decide_eq_true h,decide_eq_true h.symm]
  ·rw [decide_eq_false h,decide_eq_false (fun e=>h e.symm)]
 rw [e4] at e3
 generalize decide (p=q)=g at *
 repeat' (first|apply VWp.assoc|apply VWp.rseq|apply VWp.rseqD|apply VWp.skipSeq|apply VWp.ret|apply VOps.nil|apply VOpsD.nil|apply VOps.one|(apply VOpsD.bar;decide +kernel)|apply VOpsD.quiet|(apply VOps.take;rfl;rfl)|(apply VOpsD.quietTake;rfl;rfl)|(apply VOpsD.drop;rfl;rfl;rfl)|(apply VOpsD.guard;rfl;rfl)|(apply VVal.fn;rfl;rfl;exact hkn;intro _;rfl)|(apply VVal.fn;rfl;rfl;exact hfs;intro _;rfl)|(apply VVal.fn;rfl;rfl;exact hm;intro _;rfl)|(apply VVal.fn;rfl;rfl;exact hp;intro _;rfl)|(apply VVal.fn;rfl;rfl;exact hq;intro _;rfl)|(apply VVal.fn;rfl;rfl;exact e1;intro _;rfl)|(apply VVal.fn;rfl;rfl;exact e2;intro _;rfl)|(apply VVal.fn;rfl;rfl;exact e3;intro _;rfl)|(apply VVal.assign;rfl)|(apply VVal.move;rfl)|(apply VVal.load;rfl;rfl)|(apply VVal.pick_true;rfl;rfl)|(apply VVal.pick_false;rfl;rfl)|(apply VVal.box;rfl;trivial)|(apply VVal.alloc;rfl)|(apply VVal.storeB;rfl;rfl;rfl;trivial;rfl;rfl;exact lt_dec rfl;exact le_dec rfl)|(apply VVal.eqB;rfl;rfl;rfl)|(apply VVal.not;rfl)|(apply VWp.condSeq_false;rfl)|(intro _;try (exfalso;omega)))
 all_goals first|(exfalso;omega)|contradiction|((refine Done.ret rfl (.refl _) (by first|exact trivial|exact tr3|exact tr4) HCov.nil (Nat.zero_le _) (Nat.le_refl _) ⟨?_,rfl,rfl⟩;try rfl);try simp)
set_option maxRecDepth 100000 in
theorem has_slip {j:Nat} {fs:List FV} (h:HasT Tryz.prog (j+2) 83 fs):∃ x:Slp,fs=Enc.enc x∧x.Ok:=by
 obtain ⟨parts,rfl,hp⟩:=hasT_struct h Tryz.underlying83
 obtain ⟨a,b,rfl,h1,h2⟩:=all2_two hp
 obtain ⟨m1,rfl,q1⟩:=has_u8 (j:=j) h1
 obtain ⟨m2,rfl,q2⟩:=has_u8 (j:=j) h2
 exact ⟨⟨m1,m2⟩,rfl,q1,q2⟩
end Go.Proofs.YtcnlhgmkelkikaaGreatDoor
