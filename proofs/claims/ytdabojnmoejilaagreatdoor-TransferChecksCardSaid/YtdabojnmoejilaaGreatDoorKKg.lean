/-
  Texts of a proof, merged (OrK, OrVa, TraQ, TraR, TraN, OrO, OrQ, TraS, TraT, OrP, TraU, CkB, CkC). Conditions: in each statement.
-/
import Derived.Test.YtdabojnmoejilaaGreatDoorKKf
set_option linter.unusedSimpArgs false
set_option linter.unusedVariables false
set_option linter.unusedSectionVars false
set_option maxRecDepth 100000
set_option maxHeartbeats 8000000
namespace Go.Proofs.YtdabojnmoejilaaGreatDoor
open Go Go.Am Go.Vm
theorem Es {P:Program} {n:Nat} {t:TypeId} {fs:List FV} {sf:Array Field} (h:Dz P (n+1) t fs) (hu:P.underlying t=some (.struct sf)):∃ parts:List (List FV),fs=parts.flatten∧Gj (fun (fd:Field) x=>Dz P n fd.type x) sf.toList parts:=by
 unfold Dz at h;rw [hu] at h;exact h
theorem JY {P:Program} {n:Nat} {t e:TypeId} {fs:List FV} {α:Type} [Enc α] {p:α→Prop} (h:Dz P (n+1) t fs) (hu:P.underlying t=some (.slice e)) (he:∀ x,Dz P n e x→∃ a:α,x=Enc.enc a∧p a):∃ l:List α,fs=[.lst e (cells l) l.length]∧l.length≤maxLen∧∀ i,i<l.length→p (gi l i):=by
 unfold Dz at h;rw [hu] at h
 obtain ⟨L,rfl,hl,hL⟩:=h
 obtain ⟨r,hr⟩:=VJ (R:=fun (a:α) fs=>fs=Enc.enc a∧p a) (l:=L) (fun x hx=>he x (hL x hx))
 obtain ⟨e1,e2,e3⟩:=V9 hr
 exact ⟨r,by rw [e1,e2],by omega,e3⟩
theorem Fz {j:Nat} {fs:List FV} (h:Dz Tryz.prog (j+1) 5 fs):∃ n:Nat,fs=[.int .u8 (n:Int)]∧n<256:=by
 simp only [Dz,Tryz.underlying5] at h
 obtain ⟨n,rfl,hn⟩:=h
 obtain ⟨m,q,rfl⟩:=MN hn
 exact ⟨m,rfl,q⟩
theorem a2r {j:Nat} {fs:List FV} (h:Dz Tryz.prog (j+1) 64 fs):∃ n:Int,fs=[.int .i8 n]∧-128≤n∧n≤127:=by
 simp only [Dz,Tryz.underlying64] at h
 obtain ⟨n,rfl,hn⟩:=h
 exact ⟨n,rfl,rQ hn⟩
theorem rP {j:Nat} {fs:List FV} (h:Dz Tryz.prog (j+2) 72 fs):∃ x:nJ,fs=Enc.enc x∧x.Ok:=by
 obtain ⟨parts,rfl,hp⟩:=Es h Tryz.underlying72
 obtain ⟨a,b,c,d,rfl,h1,h2,h3,h4⟩:=Hu hp
 obtain ⟨m1,rfl,q1⟩:=Fz (j:=j) h1
 obtain ⟨m2,rfl,q2⟩:=Fz (j:=j) h2
 obtain ⟨m3,rfl,q3⟩:=Fz (j:=j) h3
 obtain ⟨m4,rfl,q4⟩:=Fz (j:=j) h4
 exact ⟨⟨m1,m2,m3,m4⟩,rfl,q1,q2,q3,q4⟩
theorem qB {j:Nat} {fs:List FV} (h:Dz Tryz.prog (j+4) 75 fs):∃ x:qj,fs=Enc.enc x∧x.Ok:=by
 obtain ⟨parts,rfl,hp⟩:=Es h Tryz.underlying75
 obtain ⟨a,b,c,d,rfl,h1,h2,h3,h4⟩:=Hu hp
 obtain ⟨m1,rfl,q1⟩:=Fz (j:=j+2) h1
 obtain ⟨m2,rfl,q2⟩:=Fz (j:=j+2) h2
 obtain ⟨m3,rfl⟩:=dZ (j:=j+2) h3
 obtain ⟨l,rfl,hl,hL⟩:=JY (n:=j+2) (p:=nJ.Ok) h4 Tryz.underlying73 (fun x hx=>rP hx)
 exact ⟨⟨m1,m2,m3,l⟩,rfl,q1,q2,by simp only [maxLen] at hl;simp only;omega,hL⟩
theorem rJ {j:Nat} {fs:List FV} (h:Dz Tryz.prog (j+2) 153 fs):∃ x:wM,fs=Enc.enc x∧x.Ok:=by
 obtain ⟨parts,rfl,hp⟩:=Es h Tryz.underlying153
 obtain ⟨a,b,c,d,rfl,h1,h2,h3,h4⟩:=Hu hp
 obtain ⟨m1,rfl,q1⟩:=Fz (j:=j) h1
 obtain ⟨m2,rfl,q2⟩:=Fz (j:=j) h2
 obtain ⟨m3,rfl,q3⟩:=a2r (j:=j) h3
 obtain ⟨m4,rfl⟩:=dZ (j:=j) h4
 exact ⟨⟨m1,m2,m3,m4⟩,rfl,q1,q2,q3⟩
theorem Yt {j:Nat} {fs:List FV} (h:Dz Tryz.prog (j+6) 26 fs):∃ x:oJ,fs=x.enc∧x.Ok:=by
 obtain ⟨parts,rfl,hp⟩:=Es h Tryz.underlying26
 obtain ⟨a,b,c,rfl,h1,h2,h3⟩:=JL hp
 obtain ⟨l1,rfl,n1,g1⟩:=JY (n:=j+4) (p:=F7.Ok) h1 Tryz.underlying22 (fun x hx=>oH (j:=j+1) hx)
 obtain ⟨l2,rfl,n2,g2⟩:=JY (n:=j+4) (p:=qj.Ok) h2 Tryz.underlying23 (fun x hx=>qB hx)
 obtain ⟨l3,rfl,n3,g3⟩:=JY (n:=j+4) (p:=wM.Ok) h3 Tryz.underlying24 (fun x hx=>rJ (j:=j+2) hx)
 simp only [maxLen] at n1 n2 n3
 exact ⟨⟨l1,l2,l3⟩,rfl,g1,g2,g3,by simp only;omega,by simp only;omega,by simp only;omega⟩
end Go.Proofs.YtdabojnmoejilaaGreatDoor
namespace Go.Proofs.YtdabojnmoejilaaGreatDoor
open Go Go.Am Go.Vm
attribute [local irreducible] Aa Af Aq Ad BF AX Ci AU AO Aw Vm.Done CS Bq
theorem yV {m:Nat} {nm:List UInt8} {R:List Fh} {D:List Ld} {C:List Rt} (h0:nm.length<1000000) (hm:m<1000000) (hR:R.length≤m) (hRa:∀ i,i<R.length→Qe (gi R i)) (hD:D.length≤m) (hDa:∀ i,i<D.length→LM (gi D i)∧(gi D i).stops.length≤m) (hC:C.length≤m) (hCa:∀ i,i<C.length→(gi C i).name.length<1000000):LH m ⟨nm,R,D,C⟩ :=
 ⟨⟨h0,by show R.length<_;omega,by show D.length<_;omega,by show C.length<_;omega,hRa,fun i hi=>(hDa i hi).1,hCa⟩,hR,hD,hC,fun i hi=>(hDa i hi).2⟩
theorem Iq {α:Type} [Inhabited α] {P:α→Prop} {l:List α} {i:Nat} {a:α} (h:∀ j,j<l.length→P (gi l j)) (ha:P a):∀ j,j<(l.set i a).length→P (gi (l.set i a) j):=fun j hj=>by
 rw [List.length_set] at hj
 rw [SH]
 split
 ·exact ha
 ·exact h j hj
theorem Nz {α:Type} [Inhabited α] {P:α→Prop} {l:List α} {a:α} (h:∀ j,j<l.length→P (gi l j)) (ha:P a):∀ j,j<(l++[a]).length→P (gi (l++[a]) j):=fun j hj=>by
 simp only [List.length_append,List.length_singleton] at hj
 unfold gi
 rcases Nat.lt_or_ge j l.length with h1|h1
 ·rw [List.getElem?_append_left h1];exact h j h1
 ·obtain rfl:j=l.length:=by omega
  simp only [List.getElem?_concat_length,Option.getD_some];exact ha
theorem Ym {α:Type} [Inhabited α] {P:α→Prop} {l:List α} {k:Nat} (h:∀ j,j<l.length→P (gi l j)):∀ j,j<(l.take k).length→P (gi (l.take k) j):=fun j hj=>by
 rw [List.length_take] at hj
 have e:gi (l.take k) j=gi l j:=by
  unfold gi;rw [List.getElem?_take,if_pos (by omega)]
 rw [e];exact h j (by omega)
theorem Og {α:Type} [Inhabited α] {P:α→Prop} {f:List α→α} {l:List α} (hf:∀ r:List α,(∀ j,j<r.length→P (gi r j))→l.length≤r.length→P (f r)) (h:∀ j,j<l.length→P (gi l j)):∀ k,∀ j,j<(EJ f l k).length→P (gi (EJ f l k) j)
 |0=>h
 |k+1=>Nz (Og hf h k) (hf _ (Og hf h k) (by rw [FI];omega))
theorem RI {l:List (List UInt8)} {k:Nat} (h:∀ x∈l,x.length≤5):(gi l k).length<1000000:=by
 rcases Nat.lt_or_ge k l.length with h1|h1
 ·have:=h (gi l k) (by unfold gi;rw [List.getElem?_eq_getElem h1];exact List.getElem_mem h1)
  omega
 ·have e:gi l k=([]:List UInt8):=by unfold gi;rw [List.getElem?_eq_none h1];rfl
  rw [e];decide
theorem wS (o:D7) (n:Nat) (hn:n≤800) (hl:LH n o) (hr0:0<o.ranks.length) (hd0:0<o.Ah.length) (x:Slp) (hx:x.Ok) :
 ∃ o':D7,AX env 33 [.agg (Enc.enc o),.agg (Enc.enc x)] (.p (.agg (Enc.enc o')))∧LH (n+100) o':=by
 obtain ⟨K,A⟩:=x
 obtain ⟨hK,hA⟩:=hx
 simp only at hK hA
 have kd:A % o.Ah.length<o.Ah.length:=Nat.mod_lt _ hd0
 have kr:A % o.ranks.length<o.ranks.length:=Nat.mod_lt _ hr0
 have l1:=hl.ranks
 have l2:=hl.Ah
 have l3:=hl.CZ
 have q0:=hl.sm.name
 have qR:=hl.sm.rk
 have qC:=hl.sm.cp
 have qD:∀ i,i<o.Ah.length→LM (gi o.Ah i)∧(gi o.Ah i).stops.length≤n+100:=fun i hi=>⟨hl.sm.dv i hi,by have:=hl.stops i hi;omega⟩
 have qd:=qD _ kd
 have qr:=qR _ kr
 have hst:=hl.stops _ kd
 have dS:=Iq (P:=fun d:Ld=>LM d∧d.stops.length≤n+100) (i:=A % o.Ah.length) qD qd
 have cA:∀ x∈chA,x.length≤5:=by decide
 have cB:∀ x∈chB,x.length≤5:=by decide
 have cC:∀ x∈chC,x.length≤5:=by decide
 have cD:∀ x∈xE,x.length≤5:=by decide
 have cE:∀ x∈chE,x.length≤5:=by decide
 have mk:∀ {nm:List UInt8} {R:List Fh} {D:List Ld} {C:List Rt},nm.length<1000000→R.length≤n+100→(∀ i,i<R.length→Qe (gi R i))→D.length≤n+100→(∀ i,i<D.length→LM (gi D i)∧(gi D i).stops.length≤n+100)→C.length≤n+100→(∀ i,i<C.length→(gi C i).name.length<1000000)→LH (n+100) ⟨nm,R,D,C⟩:=fun h1 h2 h3 h4 h5 h6 h7=>yV h1 (by omega) h2 h3 h4 h5 h6 h7
 have s16:K % 16<16:=Nat.mod_lt _ (by decide)
 have hn':n≤1000:=by omega
 by_cases k0:K % 16=0∨K % 16=14∨K % 16=15
 ·exact ⟨_,a8w o n hn' hl hr0 hd0 K A hK hA k0,mk q0 (by omega) qR (by rw [List.length_set];omega) dS (by omega) qC⟩
 by_cases k1:K % 16=1
 ·exact ⟨_,a9f o n hn' hl hr0 hd0 K A hK hA k1,mk (RI cA) (by omega) qR (by rw [List.length_set];omega) dS (by omega) qC⟩
 by_cases k2:K % 16=2
 ·exact ⟨_,a8q o n hn' hl hr0 hd0 K A hK hA k2,mk q0 (by rw [List.length_set];omega) (Iq qR ⟨qr.name,qr.Ep,by show 0<1000000;decide⟩) (by rw [List.length_set];omega) dS (by omega) qC⟩
 by_cases k3:K % 16=3
 ·exact ⟨_,a6v o n hn' hl hr0 hd0 K A hK hA k3,mk q0 (by rw [List.length_set];omega) (Iq qR ⟨RI cB,qr.Ep,qr.Ez⟩) (by rw [List.length_set];omega) dS (by omega) qC⟩
 by_cases k4:K % 16=4
 ·refine ⟨_,a7m o n hn' hl hr0 hd0 K A hK hA k4,mk q0 (by rw [FI];omega) (Og (fun r hr hlen=>?_) qR _) (by rw [List.length_set];omega) dS (by omega) qC⟩
  have:=hr 0 (by omega)
  exact ⟨by simp [f4],this.Ep,this.Ez⟩
 by_cases k5:K % 16=5
 ·exact ⟨_,a7a o n hn' hl hr0 hd0 K A hK hA k5,mk q0 (by omega) qR (by simp) (fun i hi=>by simp at hi) (by omega) qC⟩
 by_cases k6:K % 16=6
 ·exact ⟨_,a6r o n hn' hl hr0 hd0 K A hK hA k6,mk q0 (by omega) qR (by rw [List.length_set,FI];omega) (Iq (P:=fun d:Ld=>LM d∧d.stops.length≤n+100) (Og (P:=fun d:Ld=>LM d∧d.stops.length≤n+100) (fun r hr hlen=>⟨⟨by simp [f6],by simp [f6],fun i hi=>by simp [f6] at hi⟩,by simp [f6]⟩) qD _) qd) (by omega) qC⟩
 by_cases k7:K % 16=7
 ·exact ⟨_,a7y o n hn' hl hr0 hd0 K A hK hA k7,mk q0 (by omega) qR (by rw [List.length_set];omega) (Iq (P:=fun d:Ld=>LM d∧d.stops.length≤n+100) qD ⟨⟨RI cC,qd.1.stops,qd.1.all⟩,qd.2⟩) (by omega) qC⟩
 by_cases k8:K % 16=8
 ·exact ⟨_,a8t o n hn' hl hr0 hd0 K A hK hA k8,mk q0 (by omega) qR (by rw [List.length_set];omega) (Iq (P:=fun d:Ld=>LM d∧d.stops.length≤n+100) qD ⟨⟨qd.1.name,qd.1.stops,qd.1.all⟩,qd.2⟩) (by omega) qC⟩
 by_cases h0:(gi o.Ah (A % o.Ah.length)).stops.length=0
 ·by_cases k9:K % 16=9∨K % 16=10
  ·exact ⟨_,a4e o n hn' hl hr0 hd0 K A hK hA k9 h0,mk q0 (by omega) qR (by rw [List.length_set];omega) dS (by omega) qC⟩
  by_cases k11:K % 16=11
  ·exact ⟨_,a0e o n hn' hl hr0 hd0 K A hK hA k11,mk q0 (by rw [List.length_take];omega) (Ym qR) (by rw [List.length_set];omega) dS (by omega) qC⟩
  by_cases k12:K % 16=12
  ·exact ⟨_,zI o n hn' hl hr0 hd0 K A hK hA k12,mk q0 (by omega) qR (by rw [List.length_set];omega) dS (by simp;omega) (Nz (P:=fun c:Rt=>c.name.length<1000000) qC (by show 2<1000000;decide))⟩
  ·exact ⟨_,zL o n hn' hl hr0 hd0 K A hK hA (by omega),mk q0 (by omega) qR (by rw [List.length_set];omega) dS (by simp;omega) (Nz (P:=fun c:Rt=>c.name.length<1000000) qC (RI cE))⟩
 have h0':0<(gi o.Ah (A % o.Ah.length)).stops.length:=by omega
 by_cases k9:K % 16=9
 ·exact ⟨_,a9e o n hn' hl hr0 hd0 K A hK hA k9 h0',mk q0 (by omega) qR (by rw [List.length_set];omega) (Iq (P:=fun d:Ld=>LM d∧d.stops.length≤n+100) qD ⟨⟨qd.1.name,by show (List.set _ _ _).length<_;rw [List.length_set];exact qd.1.stops,Iq qd.1.all ⟨RI cD,(qd.1.all 0 h0').Ej,(qd.1.all 0 h0').all⟩⟩,by show (List.set _ _ _).length≤_;rw [List.length_set];exact qd.2⟩) (by omega) qC⟩
 by_cases k10:K % 16=10
 ·refine ⟨_,a5t o n hn' hl hr0 hd0 K A hK hA k10 h0',mk q0 (by omega) qR (by rw [List.length_set];omega) (Iq (P:=fun d:Ld=>LM d∧d.stops.length≤n+100) qD ⟨⟨qd.1.name,by show (EJ _ _ _).length<_;rw [FI];omega,Og (fun r hr hlen=>?_) qd.1.all _⟩,by show (EJ _ _ _).length≤_;rw [FI];omega⟩) (by omega) qC⟩
  have:=hr 0 (by omega)
  exact ⟨by simp [f10],this.Ej,this.all⟩
 by_cases k11:K % 16=11
 ·exact ⟨_,a0e o n hn' hl hr0 hd0 K A hK hA k11,mk q0 (by rw [List.length_take];omega) (Ym qR) (by rw [List.length_set];omega) dS (by omega) qC⟩
 by_cases k12:K % 16=12
 ·exact ⟨_,zI o n hn' hl hr0 hd0 K A hK hA k12,mk q0 (by omega) qR (by rw [List.length_set];omega) dS (by simp;omega) (Nz (P:=fun c:Rt=>c.name.length<1000000) qC (by show 2<1000000;decide))⟩
 ·exact ⟨_,zL o n hn' hl hr0 hd0 K A hK hA (by omega),mk q0 (by omega) qR (by rw [List.length_set];omega) dS (by simp;omega) (Nz (P:=fun c:Rt=>c.name.length<1000000) qC (RI cE))⟩
theorem a2i.l {o:D7} (h:a2i o):LH 3 o:=⟨h.sm,h.ranks.2,h.Ah.2,h.CZ,h.stops⟩
theorem Z4 {j:Nat} {fs:List FV} (h:Dz Tryz.prog (j+2) 101 fs):∃ x:Slp,fs=Enc.enc x∧x.Ok:=by
 obtain ⟨parts,rfl,hp⟩:=Es h Tryz.underlying101
 obtain ⟨a,b,rfl,h1,h2⟩:=Z7 hp
 obtain ⟨m1,rfl,q1⟩:=Fz (j:=j) h1
 obtain ⟨m2,rfl,q2⟩:=Fz (j:=j) h2
 exact ⟨⟨m1,m2⟩,rfl,q1,q2⟩
end Go.Proofs.YtdabojnmoejilaaGreatDoor
namespace Go.Proofs.YtdabojnmoejilaaGreatDoor
open Go Go.Am Go.Vm Go.Tra
attribute [local irreducible] Aa Af Aq Ad BF AX Ci AU AO Aw Vm.Done CS Bq YP
def bg (i:Nat) (f:Int):Stp:=⟨[82,UInt8.ofNat (48+i)],⟨f,1⟩,[⟨36,38,[⟨(i:Int),0⟩]⟩]⟩
def Y9 (i:Nat) (t:List UInt8) (f:Int):Fh:=⟨[82,UInt8.ofNat (48+i)],t,⟨f,1⟩,36,[1,1,1]⟩
def Wq (ss:List Stp):Ld:=⟨[71,114,101,97,116],false,36,38,ss⟩
structure Tn where
 t:List UInt8
instance:Enc Tn:={ default:=⟨[]⟩,enc:=fun x=>[.str (bs x.t)],size:=1,len:=fun _=>rfl }
def ES (fs:List Int) (k:Nat):List Stp:=(List.range k).map fun i=>bg i (gi fs i)
def FT (ts:List Tn) (fs:List Int) (k:Nat):List Fh:=(List.range k).map fun i=>Y9 i (gi ts i).t (gi fs i)
theorem jE (fs:List Int) (k:Nat):ES fs (k+1)=ES fs k++[bg k (gi fs k)]:=by simp [ES,List.range_succ]
theorem jY (ts:List Tn) (fs:List Int) (k:Nat):FT ts fs (k+1)=FT ts fs k++[Y9 k (gi ts k).t (gi fs k)]:=by simp [FT,List.range_succ]
theorem RV (fs:List Int) (k:Nat):(ES fs k).length=k:=by simp [ES]
theorem SL (ts:List Tn) (fs:List Int) (k:Nat):(FT ts fs k).length=k:=by simp [FT]
def Ko (ts:List Tn) (fs:List Int):D7:=⟨[79],FT ts fs ts.length,[Wq (ES fs ts.length)],[]⟩
theorem Tq (ts:List Tn) (fs:List Int) (hl:ts.length=fs.length) (h9:ts.length≤9):AX env 23 [.lst 9 (cells ts) ts.length,.lst 3 (cells fs) fs.length] (.p (.agg (Enc.enc (Ko ts fs)))):=by
 refine AX.enter (AB (by decide)) Tryz.func23 rfl (by kernel_rfl) (by simp [Tryz.ntmps23]) ?_
 repeat' (first|apply Ad.assoc|apply Ad.AA|apply Ad.Ai|apply Af.nil|apply Af.one|(apply Aa.assign;rfl)|(apply Aa.alloc;rfl)|(apply Aa.Bd;rfl;rfl;rfl;trivial;rfl;rfl;exact Aj rfl;exact le_dec rfl)|(apply Aa.build;rfl;rfl;rfl;rfl;rfl)|(apply Aa.buildSlice;rfl;rfl;rfl;decide;rfl;rfl;rfl))
 all_goals try (exfalso;omega)
 refine Ad.ghost ((((AL.yj 1 rfl (by decide)).trans (AL.gK 1 4 122 rfl rfl)).trans (AL.EL 2 1 131 rfl rfl))) ?_
 apply Ad.EF (ts.length) [(0,_),(1,_),(4,_),(5,_)] [(0,_)] (fun k r=>(6,.p (.int .i64 (k:Int)))::r) (fun k r=>(1,.Fj 97 [.p (.str (bs [71,114,101,97,116])),.p (.bool false),.p (.int .i64 36),.p (.int .i64 38),.vec 3 (ES fs k).length 0 (ES fs k).length] 1)::(2,.box 37 [.p (.str (bs [79])),.vec 4 (FT ts fs k).length 0 (FT ts fs k).length,.vec 1 1 0 1,.p (.val (.slice none 0 0))])::(3,.vec 122 (cells (ES fs k)) (ES fs k).length true)::(4,.vec 131 (cells (FT ts fs k)) (FT ts fs k).length true)::r) 5
 ·first|omega|decide
 ·first|omega|decide
 ·repeat (first|exact Ap.nil|(refine Ap.eq rfl ?_ ?_;(first|exact PV.Ac rfl|(simp [PV.under,AZ.under];done)))|refine Ap.cons trivial rfl (.of_eq (Au (by simp<;>omega))) ?_)
 ·repeat (first|exact Ak.nil|(refine Ak.eq rfl (Aj rfl) ?_ ?_;(first|exact HB.Ac rfl|exact AZ.Ag _ _|(simp [HB.under,AZ.under,PV.under];done)))|(refine Ak.cons (Aj rfl) ?_ rfl ?_ ?_;(first|exact trivial|exact AZ.Ag _ _|(simp [HB.under,AZ.under,PV.under]));(first|exact Bv.refl _|exact Bv.vec (Bl.refl _) (by simp))))
 ·intro k hk
  have a1:=jE fs k
  have a2:=jY ts fs k
  have a3:(ES fs (k+1)).length=(ES fs k).length+1:=by rw [a1];simp
  have a4:(FT ts fs (k+1)).length=(FT ts fs k).length+1:=by rw [a2];simp
  have a5:=RV fs k
  have a6:=SL ts fs k
  repeat' (first|(refine Aq.atIdx 9 ?_;refine Aq.ghost (AL.freeze 37 rfl rfl) ?_)|(refine Aq.atIdx 12 ?_;refine Aq.ghost (AL.freeze 53 rfl rfl) ?_)|(refine Aq.atIdx 14 ?_;refine Aq.ghost (AL.freeze 55 rfl rfl) ?_)|(refine Aq.atIdx 16 ?_;apply Aq.weak [.tmp 42];decide +kernel;rfl;rfl;(first|exact WC.ref rfl|exact WC.vec rfl|exact WC.Ec rfl);decide +kernel;rfl)|apply Ad.assoc|apply Ad.AA|apply Ad.Bj|apply Ad.region|apply Ad.Fq|apply Ad.Ar|apply Ad.Ai|apply AU.normal|apply AO.normal|apply Af.nil|apply Aq.nil|apply Af.one|(apply Aq.bar;decide +kernel)|apply Aq.quiet|(apply Aa.Dv (a:=Y9 k (gi ts k).t (gi fs k));rfl;rfl;rfl;rfl;rfl;rfl;rfl;rfl;(intro _ h;cases h);rfl;rfl;rfl;decide;decide;(first|omega|(simp only [List.length_take,List.length_drop,List.length_append,List.length_singleton,List.length_cons,List.length_nil]<;>omega)))|(apply Aa.Dv (a:=bg k (gi fs k));rfl;rfl;rfl;rfl;rfl;rfl;rfl;rfl;(intro _ h;cases h);rfl;rfl;rfl;decide;decide;(first|omega|(simp only [List.length_take,List.length_drop,List.length_append,List.length_singleton,List.length_cons,List.length_nil]<;>omega)))|(apply Aa.Zo;rfl;rfl;rfl;rfl;rfl;decide;omega)|(apply Aa.Ba (l:=ts) (i:=k);rfl;rfl;rfl;exact hk;rfl)|(apply Aa.Ba (l:=fs) (i:=k);rfl;rfl;rfl;omega;rfl)|(apply Aa.a1v (i:=0);rfl;rfl;rfl;rfl;decide)|(apply Aa.a1o;rfl;rfl;rfl)|(apply Aa.a5h;rfl;rfl;rfl;rfl)|(apply Aa.a2b;rfl;rfl;rfl;trivial;rfl;rfl;decide;(simp only [List.length_cons,List.length_nil]<;>decide))|(apply Aa.assign;rfl)|(apply Aa.move;rfl)|(apply Aa.Bz;rfl;rfl;omega)|(apply Aa.a6z;rfl;rfl;omega)|(apply Aa.int;rfl;rfl;rfl)|(apply Aa.load;rfl;rfl)|(apply Aa.BQ;rfl;rfl)|(apply Aa.AV;rfl;rfl;rfl)|(apply Aa.alloc;rfl)|(apply Aa.Bd;rfl;rfl;rfl;trivial;rfl;rfl;exact Aj rfl;exact le_dec rfl)|(apply Aa.build;rfl;rfl;rfl;rfl;rfl)|(apply Aa.buildSlice;rfl;rfl;rfl;decide;rfl;rfl;rfl)|(apply Aa.Jt;rfl;rfl;rfl;rfl;omega)|(apply Ad.Ae;rfl)|(intro _;try (exfalso;omega)))
  all_goals try (exfalso;omega)
  refine Aw.normal ⟨by omega,?_,?_⟩
  ·repeat (first|exact Ap.nil|refine Ap.same (by exact PV.Ac rfl) rfl ?_|refine Ap.cons trivial rfl (.of_eq (Au (by simp<;>omega))) ?_)
  ·rw [a3,a4,a1,a2]
   repeat (first|exact Ak.nil|(refine Ak.cons (Aj rfl) ?_ rfl ?_ ?_;(first|exact HB.Ac rfl|exact AZ.Ag _ _|(simp [HB.under,AZ.under,PV.under]));(first|exact Bv.refl _|exact Bv.vec (Bl.refl _) (by simp))))
 ·repeat' (first|(refine Ad.at 9 ?_;refine Ad.ghost (((((AL.aJ 1 4 rfl rfl rfl).trans (AL.wL 1 (cells [Wq (ES fs ts.length)]) rfl (by decide) rfl)).trans (AL.AP 2 2 rfl rfl rfl)).trans (AL.AP 2 1 rfl rfl rfl))) ?_;first|apply Ad.AA|apply Ad.Bj)|apply Ad.assoc|apply Ad.AA|apply Ad.A8|apply AU.normal|apply AO.exit|apply Aw.exit|apply Ad.ret|apply Af.nil|apply Af.one|(apply Aa.move;rfl)|(apply Aa.int;rfl;rfl;rfl)|(apply Aa.load;rfl;rfl)|(apply Aa.BQ;rfl;rfl)|(apply Aa.Bd;rfl;rfl;rfl;trivial;rfl;rfl;exact Aj rfl;exact le_dec rfl)|(apply Ad.Ae;rfl)|(intro _;try (exfalso;omega)))
  all_goals try (exfalso;omega)
  all_goals (refine Done.ret (r:=.p (.agg (Enc.enc (Ko ts fs)))) rfl (.p (.agg (.cons (.refl _) (.cons (.refl _) (.cons (.refl _) (.cons (.nil _) (.refl _))))))) trivial Ak.nil (Nat.zero_le _) (Nat.le_refl _) ⟨rfl,rfl,rfl⟩)
end Go.Proofs.YtdabojnmoejilaaGreatDoor
namespace Go.Proofs.YtdabojnmoejilaaGreatDoor
open Go Go.Am Go.Vm Go.Tra Go.Hun
attribute [local irreducible] Aa Af Aq Ad BF AX Ci AU AO Aw Vm.Done CS Bq
theorem aC (fs:List Int):∀ {k i:Nat},i<k→gi (ES fs k) i=bg i (gi fs i):=fun {k i} h=>by
 unfold ES gi;simp [List.getElem?_map,List.getElem?_range h]
theorem fF (ts:List Tn) (fs:List Int):∀ {k i:Nat},i<k→gi (FT ts fs k) i=Y9 i (gi ts i).t (gi fs i):=fun {k i} h=>by
 unfold FT gi;simp [List.getElem?_map,List.getElem?_range h]
theorem yh {i:Nat} {t:List UInt8} {f:Int} (hi:i<10) (ht:Di t) (hf:qo ⟨f,1⟩):DW (Y9 i t f)=0:=by
 unfold DW
 have h1:Di (Y9 i t f).name:=YO (by decide) hi
 have h2:Di (Y9 i t f).Ep:=ht
 have h3:OL (Y9 i t f).Dp=0:=Om.2 hf
 rw [if_neg (by rintro (h|h);exact h h1;exact h h2),if_neg (fun h=>h h3),if_neg (by show ¬ ((36:Int)< -256∨(36:Int)>256);omega),if_neg (by show ¬ (3=0);omega),if_neg (by show ¬ (3>128);omega)]
 unfold DN
 rw [if_pos]
 intro j hj
 have:j=0∨j=1∨j=2:=by
  have:j<3:=hj
  omega
 rcases this with rfl|rfl|rfl<;>(show ¬ Xn 1)<;>decide
theorem mP {ts:List Tn} {fs:List Int} (hl:ts.length=fs.length) (h9:ts.length≤9) (hT:∀ i,i<ts.length→Di (gi ts i).t) (hF:∀ i,i<ts.length→qo ⟨gi fs i,1⟩):Jy (Ko ts fs)=0:=by
 have eR:(Ko ts fs).ranks=FT ts fs ts.length:=rfl
 have eD:(Ko ts fs).Ah=[Wq (ES fs ts.length)]:=rfl
 have eC:(Ko ts fs).CZ=[]:=rfl
 have eN:(Ko ts fs).name=[79]:=rfl
 have lR:=SL ts fs ts.length
 have lS:=RV fs ts.length
 have gR:∀ i,i<ts.length→gi (FT ts fs ts.length) i=Y9 i (gi ts i).t (gi fs i):=fun i hi=>fF ts fs hi
 have gS:∀ i,i<ts.length→gi (ES fs ts.length) i=bg i (gi fs i):=fun i hi=>aC fs hi
 unfold Jy
 rw [eR,eD,eC,eN]
 have hr:∀ i,i<(FT ts fs ts.length).length→DW (gi (FT ts fs ts.length) i)=0:=fun i hi=>by
  rw [lR] at hi
  rw [gR i hi]
  exact yh (by omega) (hT i hi) (hF i hi)
 have hrk:OT (FT ts fs ts.length) 0=0:=Ya (fun i hi=>⟨hr i hi,wR (c:=82) (by omega) (fun j hj=>by rw [gR j (by omega)];rfl) hi⟩) _ 0 rfl
 have n1:Di [79]:=⟨by decide,by decide,by decide,fun j h1 h2=>by simp at h2;omega⟩
 have n2:Di [71,114,101,97,116]:=⟨by decide,by decide,by decide,fun j h1 h2=>by
  have:j=1∨j=2∨j=3∨j=4:=by simp at h2;omega
  rcases this with rfl|rfl|rfl|rfl<;>exact .inl (by decide)⟩
 rw [if_neg (fun h=>h n1),if_neg (by omega),if_neg (fun h=>h hrk),if_neg (by simp),if_neg (by simp)]
 have hst:∀ i,i<(ES fs ts.length).length→Je (FT ts fs ts.length) 36 38 (gi (ES fs ts.length) i)=0:=fun i hi=>by
  rw [lS] at hi
  rw [gS i hi]
  unfold Je
  rw [YG hr (by omega) (by omega),if_neg (fun h=>h rfl)]
  unfold uS
  have h1:Di (bg i (gi fs i)).name:=YO (by decide) (by omega)
  have h3:OL (bg i (gi fs i)).Dp=0:=Om.2 (hF i hi)
  have es:(bg i (gi fs i)).Ej=[⟨36,38,[⟨(i:Int),0⟩]⟩]:=rfl
  rw [if_neg (fun h=>h h1),if_neg (fun h=>h h3),es,if_neg (by simp),if_neg (by simp)]
  exact JG (by simp) (Ie ⟨by simp only;omega,by simp⟩)
 have hd:Gt (FT ts fs ts.length) [Wq (ES fs ts.length)] 0=0:=Xf (fun i hi=>by
  obtain rfl:i=0:=by simp at hi;omega
  refine ⟨n2,by simp,?_⟩
  show Kz (FT ts fs ts.length) (Wq (ES fs ts.length))=0
  unfold Kz
  rw [show UH (Wq (ES fs ts.length)).lo (Wq (ES fs ts.length)).hi=0 from Tc (by simp [Wq]),if_neg (fun h=>h rfl),if_neg (by show ¬ (ES fs ts.length).length>60;omega)]
  exact VN (fun j hj=>⟨hst j hj,wR (c:=82) (l:=ES fs ts.length) (by omega) (fun a ha=>by rw [gS a (by omega)];rfl) hj⟩) _ 0 rfl) _ 0 rfl
 rw [if_neg (fun h=>h hd)]
 unfold QO
 rw [if_neg (by simp)]
 have hc:Qx ([Wq (ES fs ts.length)].map fun d=>(⟨d.lo,d.hi⟩:ZW)) 0=0:=YA (fun i hi=>by
  obtain rfl:i=0:=by simp at hi;omega
  exact Tc (by simp [gi,Wq])) _ 0 rfl
 rw [if_neg (fun h=>h hc),Uu,if_neg (by simp)]
theorem uX {ts:List Tn} {fs:List Int} (h9:ts.length≤9) (hT:∀ i,i<ts.length→Di (gi ts i).t):GR (Ko ts fs):=by
 have lR:=SL ts fs ts.length
 have lS:=RV fs ts.length
 refine ⟨by show 1<1000000;decide,by show (FT ts fs ts.length).length<_;omega,by show 1<1000000;decide,by show 0<1000000;decide,fun i hi=>?_,fun i hi=>?_,fun i hi=>?_⟩
 ·have hi:i<ts.length:=by rw [← lR];exact hi
  show Qe (gi (FT ts fs ts.length) i)
  rw [fF ts fs hi]
  exact ⟨by show 2<1000000;decide,by show (gi ts i).t.length<_;have:=(hT i hi).2.1;omega,by show 3<1000000;decide⟩
 ·obtain rfl:i=0:=by
   have:i<1:=hi
   omega
  show LM (Wq (ES fs ts.length))
  refine ⟨by show 5<1000000;decide,by show (ES fs ts.length).length<_;omega,fun j hj=>?_⟩
  have hj:j<ts.length:=by rw [← lS];exact hj
  show Yu (gi (ES fs ts.length) j)
  rw [aC fs hj]
  refine ⟨by show 2<1000000;decide,by show 1<1000000;decide,fun a ha=>?_⟩
  obtain rfl:a=0:=by
   have:a<1:=ha
   omega
  exact ⟨by show 1<1000000;decide⟩
 ·have:i<0:=hi
  omega
def wZ:List Tn:=[⟨[112,114,105,110,99,105,112,97,108]⟩,⟨[102,108,117,116,101]⟩]
def xG:List Tn:=[⟨[102,108,117,116,101]⟩]
theorem wG (s:List UInt8) (h0:0<s.length) (h1:s.length≤32) (h:∀ i,i<s.length→aj (gi s i).toNat):Di s:=⟨h0,h1,h 0 h0,fun i _ hi=>.inl (h i hi)⟩
instance (c:Nat):Decidable (aj c):=by unfold aj;infer_instance
theorem a2x:Di [112,114,105,110,99,105,112,97,108]:=wG _ (by decide) (by decide) (by decide)
theorem wu:Di [102,108,117,116,101]:=wG _ (by decide) (by decide) (by decide)
theorem wz:∀ i,i<wZ.length→Di (gi wZ i).t:=fun i hi=>by
 have:i=0∨i=1:=by
  have:i<2:=hi
  omega
 rcases this with rfl|rfl
 ·exact a2x
 ·exact wu
theorem sQ:∀ i,i<xG.length→Di (gi xG i).t:=fun i hi=>by
 obtain rfl:i=0:=by
  have:i<1:=hi
  omega
 exact wu
def qK (w:Int):P5:=⟨Ko wZ [8,4],⟨[3],0,0⟩,Ko xG [8],⟨10,1,5,w⟩⟩
theorem a1z {w:Int} (hw:0≤w∧w≤100):KQ (qK w).IE:=fun i hi=>by
 match i,hi with
 |0,_=>show (0:Int)≤10∧(10:Int)≤100000;decide
 |1,_=>show (0:Int)≤1∧(1:Int)≤100000;decide
 |2,_=>show (0:Int)≤5∧(5:Int)≤100000;decide
 |3,_=>exact ⟨hw.1,Int.le_trans hw.2 (by decide)⟩
theorem shK:∀ a,a<2→(Dc ⟨8,1⟩ ⟨gi [8,4] a,1⟩).2=0∧-1000≤(Dc ⟨8,1⟩ ⟨gi [8,4] a,1⟩).1∧(Dc ⟨8,1⟩ ⟨gi [8,4] a,1⟩).1≤1000:=by decide +kernel
theorem aO {w:Int} (hw:0≤w∧w≤100):lg (qK w):=by
 have e1:Jy (Ko wZ [8,4])=0:=mP rfl (by decide) wz (fun i hi=>by
  have:i=0∨i=1:=by
   have:i<2:=hi
   omega
  rcases this with rfl|rfl<;>decide +kernel)
 have e2:Jy (Ko xG [8])=0:=mP rfl (by decide) sQ (fun i hi=>by
  obtain rfl:i=0:=by
   have:i<1:=hi
   omega
  decide +kernel)
 have e3:OY (Ko wZ [8,4]) ⟨[3],0,0⟩=0:=by
  rw [X7 rfl (fun i hi=>by
   obtain rfl:i=0:=by
    have:i<1:=hi
    omega
   rfl)]
  rfl
 refine ⟨uX (by decide) wz,uX (by decide) sQ,⟨fun i hi=>?_,by show 0<18446744073709551616;decide,by show 0<18446744073709551616;decide,by show 1<9223372036854775808;decide⟩,?_,fun a b ha hb=>?_⟩
 ·obtain rfl:i=0:=by
   have:i<1:=hi
   omega
  show 3<18446744073709551616
  decide
 ·unfold GK
  rw [if_neg (fun h=>h e1),if_neg (fun h=>h e3),if_neg (fun h=>h e2),if_neg (fun h=>h (a1z hw)),if_neg]
  have h1:(Ce (Ko wZ [8,4]) ⟨[3],0,0⟩).length=2:=by decide +kernel
  have h2:(Dj (Ko xG [8])).length=1:=by decide +kernel
  have h1:(Ce (qK w).Df (qK w).reg).length=2:=h1
  have h2:(Dj (qK w).tgt).length=1:=h2
  omega
 ·obtain ⟨d,s⟩:=a
  obtain ⟨d',s'⟩:=b
  have a1:d<1:=ha.1
  obtain rfl:d=0:=by omega
  have a2:s<2:=ha.2
  have b1:d'<1:=hb.1
  obtain rfl:d'=0:=by omega
  have b2:s'<1:=hb.2
  obtain rfl:s'=0:=by omega
  have:s=0∨s=1:=by omega
  rcases this with rfl|rfl
  ·exact shK 0 (by decide)
  ·exact shK 1 (by decide)
theorem Y4 (w:Int):Jq (qK w)=[[10],[12]]:=by
 show Nr (Ko wZ [8,4]) (Ko xG [8]) ⟨[3],0,0⟩ ⟨10,1,5,w⟩=_
 have:Nr (Ko wZ [8,4]) (Ko xG [8]) ⟨[3],0,0⟩ ⟨10,1,5,0⟩=[[10],[12]]:=by decide +kernel
 exact this
theorem kW (w:Int):O4 (qK w)=1:=by
 have h1:(Ce (Ko wZ [8,4]) ⟨[3],0,0⟩).length=2:=by decide +kernel
 have h2:(Dj (Ko xG [8])).length=1:=by decide +kernel
 show (if (Ce (Ko wZ [8,4]) ⟨[3],0,0⟩).length=0 then 0 else (Dj (Ko xG [8])).length)=1
 rw [h1,h2];rfl
theorem a4t:(NK (qK 20)).total=30:=by
 unfold NK YR
 rw [Y4,kW]
 show jd [[10],[12]] 2 1 20=30
 decide +kernel
theorem a6s:(NK (qK 5)).total=10:=by
 unfold NK YR
 rw [Y4,kW]
 show jd [[10],[12]] 2 1 5=10
 decide +kernel
theorem jJ:AX env 12 [] (.p (.bool true)):=by
 have h1:=Tq wZ [8,4] rfl (by decide)
 have h2:=Tq xG [8] rfl (by decide)
 have hl:=MI (aO (w:=20) (by decide))
 rw [Y4] at hl
 have hb:=Xb (aO (w:=20) (by decide))
 have hb5:=Xb (aO (w:=5) (by decide))
 have hv:=Y6 (aO (w:=20) (by decide)) (NK (qK 20))
 rw [show vZ (Jq (qK 20)) (O4 (qK 20)) (qK 20).IE.miss (NK (qK 20))=0 from wP (aO (w:=20) (by decide)).XF] at hv
 have t1:=a4t
 have t2:=a6s
 generalize NK (qK 20)=A at *
 generalize NK (qK 5)=B at *
 obtain ⟨c1,tt1,r1,p1⟩:=A
 obtain ⟨c2,tt2,r2,p2⟩:=B
 simp only at t1 t2
 subst t1;subst t2
 refine AX.enter (AB (by decide)) Tryz.func12 rfl (by kernel_rfl) (by simp [Tryz.ntmps12]) ?_
 repeat' (first|(refine Af.He 11 ?_;refine Af.ghost (AL.trans (AL.freeze 9 rfl rfl) (AL.freeze 10 rfl rfl)) ?_)|(refine Af.He 13 ?_;refine Af.ghost (AL.freeze 12 rfl rfl) ?_)|(refine Af.He 16 ?_;refine Af.ghost (AL.trans (AL.freeze 14 rfl rfl) (AL.freeze 15 rfl rfl)) ?_)|apply Ad.AA|apply Ad.ret|apply Af.nil|apply Af.one|(apply Af.take;rfl;rfl)|(apply Aa.fn;rfl;rfl;exact h1;intro _;rfl)|(apply Aa.fn;rfl;rfl;exact h2;intro _;rfl)|(apply Aa.fn;rfl;rfl;exact hl;intro _;rfl)|(apply Aa.fn;rfl;rfl;exact hb;intro _;rfl)|(apply Aa.fn;rfl;rfl;exact hv;intro _;rfl)|(apply Aa.fn;rfl;rfl;exact hb5;intro _;rfl)|(apply Aa.Sj;rfl;rfl;rfl;decide;decide)|(apply Aa.assign;rfl)|(apply Aa.move;rfl)|(apply Aa.int;rfl;rfl;rfl)|(apply Aa.load;rfl;rfl)|(apply Aa.Bo;rfl;rfl)|(apply Aa.BQ;rfl;rfl)|(apply Aa.AV;rfl;rfl;rfl)|(apply Aa.alloc;rfl)|(apply Aa.Bd;rfl;rfl;rfl;trivial;rfl;rfl;exact Aj rfl;exact le_dec rfl)|(apply Aa.build;rfl;rfl;rfl;rfl;rfl)|(apply Aa.buildSlice;rfl;rfl;rfl;decide;rfl;rfl;rfl)|(apply Aa.extract;rfl;rfl))
 all_goals try (exfalso;omega)
 all_goals (refine Done.ret rfl (.refl _) (by exact PV.Ac rfl) Ak.nil (Nat.zero_le _) (Nat.le_refl _) ⟨?_,rfl,rfl⟩;try rfl)
end Go.Proofs.YtdabojnmoejilaaGreatDoor
namespace Go.Proofs.YtdabojnmoejilaaGreatDoor
open Go Go.Am Go.Vm Go.Tra
attribute [local irreducible] Aa Af Aq Ad BF AX Ci AU AO Aw Vm.Done CS Bq
attribute [local irreducible] DW DN Je Kz QO Dc
def QJ (o:D7) (d s:Nat):List Q8:=Lj (Ru o) d++(List.range s).map fun i=>⟨d,i⟩
theorem oG (o:D7) (d:Nat):QJ o d 0=Lj (Ru o) d:=by simp [QJ]
theorem qy (o:D7) (d s:Nat):QJ o d (s+1)=QJ o d s++[⟨d,s⟩]:=by simp [QJ,List.range_succ]
theorem uQ (o:D7) (d s:Nat):(QJ o d s).length=La (Ru o) d+s:=by simp [QJ,La]
theorem tJ (o:D7) {d:Nat} (hd:d<o.Ah.length):QJ o d (gi o.Ah d).stops.length=Lj (Ru o) (d+1):=by
 rw [← Zd o hd];rfl
theorem jq {o:D7} (ho:KU o) {d:Nat} (h:d≤o.Ah.length):La (Ru o) d≤480:=by
 have h1:=Y7 (Ru o) (d:=d) (e:=(Ru o).length) (by rw [QK];exact h)
 have h2:=F5 ho
 rw [dL] at h2
 omega
theorem Ur (o:D7) (ho:KU o):AX env 19 [.agg (Enc.enc o)] (.p (.lst 85 (cells (Dj o)) (Dj o).length)):=by
 have d1:=ho.Ah
 refine AX.enter (AB (by decide)) Tryz.func19 rfl (by kernel_rfl) (by simp [Tryz.ntmps19]) ?_
 repeat' (first|apply Ad.assoc|apply Ad.AA|apply Ad.Ai|apply Af.nil|apply Af.one|(apply Aa.assign;rfl)|(apply Aa.box;rfl;trivial))
 all_goals try (exfalso;omega)
 refine Ad.ghost (AL.adopt 3 85 rfl) ?_
 apply Ad.EF (o.Ah.length) [(1,_)] [(0,_)] (fun k r=>(3,.vec 1 (Lj (Ru o) k).length 0 (Lj (Ru o) k).length)::(4,.p (.int .i64 (k:Int)))::r) (fun k r=>(1,.vec 85 (cells (Lj (Ru o) k)) (Lj (Ru o) k).length true)::r) 2
 ·first|omega|decide
 ·first|omega|decide
 ·repeat (first|exact Ap.nil|(refine Ap.eq rfl ?_ ?_;(first|exact PV.Ac rfl|(simp [PV.under,AZ.under];done)))|refine Ap.cons trivial rfl (.of_eq (Au (by simp<;>omega))) ?_)
 ·repeat (first|exact Ak.nil|(refine Ak.eq rfl (Aj rfl) ?_ ?_;(first|exact HB.Ac rfl|exact AZ.Ag _ _|(simp [HB.under,AZ.under,PV.under];done)))|(refine Ak.cons (Aj rfl) ?_ rfl ?_ ?_;(first|exact trivial|exact AZ.Ag _ _|(simp [HB.under,AZ.under,PV.under]));(first|exact Bv.refl _|exact Bv.vec (Bl.refl _) (by simp))))
 ·intro k hk
  have s1:=ho.stops k hk
  have e0:=oG o k
  have e9:=tJ o hk
  have b1:=jq ho (d:=k+1) hk
  have b2:=JC (Ru o) k
  rw [Zd o hk] at b2
  rw [← e0,← e9]
  repeat' (first|apply Ad.assoc|apply Ad.AA|apply Ad.Ar|apply Ad.Ai|apply Ad.Fv|apply Af.nil|apply Af.one|(apply Aa.assign;rfl)|(apply Aa.move;rfl)|(apply Aa.int;rfl;rfl;rfl)|(apply Aa.load;rfl;rfl)|(apply Aa.BQ;rfl;rfl)|(apply Aa.AV;rfl;rfl;rfl)|(apply Ad.Ae;rfl)|(intro _;try (exfalso;omega)))
  all_goals try (exfalso;omega)
  apply Ad.EF ((gi o.Ah k).stops.length) [(1,_),(4,_)] [(0,_)] (fun k_ r=>(3,.vec 1 (QJ o k k_).length 0 (QJ o k k_).length)::(5,.p (.int .i64 (k_:Int)))::r) (fun k_ r=>(1,.vec 85 (cells (QJ o k k_)) (QJ o k k_).length true)::r) 2
  ·first|omega|decide
  ·first|omega|decide
  ·repeat (first|exact Ap.nil|(refine Ap.eq rfl ?_ ?_;(first|exact PV.Ac rfl|(simp [PV.under,AZ.under];done)))|refine Ap.cons trivial rfl (.of_eq (Au (by simp<;>omega))) ?_)
  ·repeat (first|exact Ak.nil|(refine Ak.eq rfl (Aj rfl) ?_ ?_;(first|exact HB.Ac rfl|exact AZ.Ag _ _|(simp [HB.under,AZ.under,PV.under];done)))|(refine Ak.cons (Aj rfl) ?_ rfl ?_ ?_;(first|exact trivial|exact AZ.Ag _ _|(simp [HB.under,AZ.under,PV.under]));(first|exact Bv.refl _|exact Bv.vec (Bl.refl _) (by simp))))
  ·intro j hj
   have f1:=qy o k j
   have f2:(QJ o k (j+1)).length=(QJ o k j).length+1:=by rw [f1];simp
   have f3:=uQ o k j
   repeat' (first|apply Ad.assoc|apply Ad.AA|apply Ad.region|apply Ad.Ar|apply Ad.Ai|apply AU.normal|apply AO.normal|apply Af.nil|apply Af.one|(apply Aa.Dv (a:=(⟨k,j⟩:Q8));rfl;rfl;rfl;rfl;rfl;rfl;rfl;rfl;(intro _ h;cases h);rfl;rfl;rfl;decide;decide;(first|omega|(simp only [List.length_take,List.length_drop,List.length_append,List.length_singleton,List.length_cons,List.length_nil]<;>omega)))|(apply Aa.assign;rfl)|(apply Aa.move;rfl)|(apply Aa.Bz;rfl;rfl;omega)|(apply Aa.int;rfl;rfl;rfl)|(apply Aa.Ba;rfl;rfl;rfl;omega;rfl)|(apply Aa.load;rfl;rfl)|(apply Aa.BQ;rfl;rfl)|(apply Aa.AV;rfl;rfl;rfl)|(apply Aa.Fa;rfl;rfl)|(apply Aa.build;rfl;rfl;rfl;rfl;rfl)|(apply Aa.buildSlice;rfl;rfl;rfl;decide;rfl;rfl;rfl)|(apply Ad.Ae;rfl)|(intro _;try (exfalso;omega)))
   all_goals try (exfalso;omega)
   refine Aw.normal ⟨by omega,?_,?_⟩
   ·rw [f2]
    repeat (first|exact Ap.nil|refine Ap.same (by exact PV.Ac rfl) rfl ?_|refine Ap.cons trivial rfl (.of_eq (Au (by simp<;>omega))) ?_)
   ·rw [f2,f1]
    repeat (first|exact Ak.nil|(refine Ak.cons (Aj rfl) ?_ rfl ?_ ?_;(first|exact HB.Ac rfl|exact AZ.Ag _ _|(simp [HB.under,AZ.under,PV.under]));(first|exact Bv.refl _|exact Bv.vec (Bl.refl _) (by simp))))
  ·repeat' (first|apply Ad.assoc|apply Ad.AA|apply Ad.region|apply Ad.A8|apply AU.normal|apply AO.normal|apply AO.exit|apply Aw.exit|apply Af.nil|apply Af.one|(apply Aa.assign;rfl)|(apply Aa.move;rfl)|(apply Aa.Bz;rfl;rfl;omega)|(apply Aa.int;rfl;rfl;rfl)|(apply Aa.Ba;rfl;rfl;rfl;omega;rfl)|(apply Aa.load;rfl;rfl)|(apply Aa.BQ;rfl;rfl)|(apply Aa.AV;rfl;rfl;rfl)|(apply Aa.Fa;rfl;rfl)|(apply Ad.Ae;rfl)|(intro _;try (exfalso;omega)))
   all_goals try (exfalso;omega)
   refine Aw.normal ⟨by first|omega|decide,?_,?_⟩
   ·repeat (first|exact Ap.nil|refine Ap.same (by exact PV.Ac rfl) rfl ?_|refine Ap.cons trivial rfl (.of_eq (Au (by simp<;>omega))) ?_)
   ·repeat (first|exact Ak.nil|(refine Ak.cons (Aj rfl) ?_ rfl ?_ ?_;(first|exact HB.Ac rfl|exact AZ.Ag _ _|(simp [HB.under,AZ.under,PV.under]));(first|exact Bv.refl _|exact Bv.vec (Bl.refl _) (by simp))))
 ·have ea:Lj (Ru o) o.Ah.length=Dj o:=by unfold Dj;rw [QK]
  rw [ea]
  repeat' (first|(refine Af.He 2 ?_;refine Af.ghost (AL.freeze 30 rfl rfl) ?_)|apply Ad.assoc|apply Ad.AA|apply Ad.A8|apply AU.normal|apply AO.exit|apply Aw.exit|apply Ad.ret|apply Af.nil|apply Af.one|(apply Aa.assign;rfl)|(apply Aa.move;rfl)|(apply Aa.int;rfl;rfl;rfl)|(apply Aa.load;rfl;rfl)|(apply Aa.BQ;rfl;rfl)|(apply Aa.AV;rfl;rfl;rfl)|(apply Ad.Ae;rfl)|(intro _;try (exfalso;omega)))
  all_goals first|(exfalso;omega)|(refine Done.ret rfl (.refl _) (by exact PV.Ac rfl) Ak.nil (Nat.zero_le _) (Nat.le_refl _) ⟨?_,rfl,rfl⟩;try rfl)
def Iw (o:D7) (rg:Rgs) (k:Nat):List Q8:=((Dj o).take k).filter (Gh rg)
theorem bC (o:D7) (rg:Rgs) {k:Nat} (h:k<(Dj o).length):Iw o rg (k+1)=if Gh rg (gi (Dj o) k)=true then Iw o rg k++[gi (Dj o) k] else Iw o rg k:=by
 unfold Iw
 rw [DJ h,List.filter_append]
 split
 ·rename_i h1;simp [h1]
 ·rename_i h1;simp [h1]
theorem jv (o:D7) (rg:Rgs) (k:Nat):(Iw o rg k).length≤k:=by
 unfold Iw
 have:=List.length_filter_le (Gh rg) ((Dj o).take k)
 rw [List.length_take] at this
 omega
theorem jP (o:D7) (rg:Rgs):Iw o rg (Dj o).length=Ce o rg:=by unfold Iw Ce;rw [List.take_of_length_le (Nat.le_refl _)]
theorem aU (o:D7) (ho:KU o) (rg:Rgs) (hr:rg.Ok) (hl:rg.stops.length=o.Ah.length) :
 AX env 31 [.agg (Enc.enc o),.agg (Enc.enc rg)] (.p (.lst 85 (cells (Ce o rg)) (Ce o rg).length)):=by
 have hb:=F5 ho
 have hs:=Ur o ho
 refine AX.enter (AB (by decide)) Tryz.func31 rfl (by kernel_rfl) (by simp [Tryz.ntmps31]) ?_
 repeat' (first|apply Ad.assoc|apply Ad.AA|apply Ad.Ai|apply Af.nil|apply Af.one|(apply Aa.fn;rfl;rfl;exact hs;intro _;rfl)|(apply Aa.assign;rfl)|(apply Aa.load;rfl;rfl)|(apply Aa.box;rfl;trivial))
 all_goals try (exfalso;omega)
 refine Ad.ghost (AL.adopt 5 85 rfl) ?_
 apply Ad.EF ((Dj o).length) [(3,_),(6,_)] [(1,_)] (fun k r=>(5,.vec 2 (Iw o rg k).length 0 (Iw o rg k).length)::(7,.p (.int .i64 (k:Int)))::r) (fun k r=>(2,.vec 85 (cells (Iw o rg k)) (Iw o rg k).length true)::r) 3
 ·first|omega|decide
 ·first|omega|decide
 ·repeat (first|exact Ap.nil|(refine Ap.eq rfl ?_ ?_;(first|exact PV.Ac rfl|(simp [PV.under,AZ.under];done)))|refine Ap.cons trivial rfl (.of_eq (Au (by simp<;>omega))) ?_)
 ·repeat (first|exact Ak.nil|(refine Ak.eq rfl (Aj rfl) ?_ ?_;(first|exact HB.Ac rfl|exact AZ.Ag _ _|(simp [HB.under,AZ.under,PV.under];done)))|(refine Ak.cons (Aj rfl) ?_ rfl ?_ ?_;(first|exact trivial|exact AZ.Ag _ _|(simp [HB.under,AZ.under,PV.under]));(first|exact Bv.refl _|exact Bv.vec (Bl.refl _) (by simp))))
 ·intro k hk
  obtain ⟨h1,h2⟩:=Ve hk
  have s1:=ho.stops _ h1
  have b1:=hr.stops (gi (Dj o) k).d (by omega)
  have hq:gi rg.stops (gi (Dj o) k).d / 2 ^ (gi (Dj o) k).s<18446744073709551616:=Nat.lt_of_le_of_lt (Nat.div_le_self _ _) b1
  have e1:=bC o rg hk
  have e3:=jv o rg k
  by_cases hp:Gh rg (gi (Dj o) k)=true
  ·rw [if_pos hp] at e1
   have e2:(Iw o rg (k+1)).length=(Iw o rg k).length+1:=by rw [e1];simp
   have hm:gi rg.stops (gi (Dj o) k).d / 2 ^ (gi (Dj o) k).s % 2=1:=by simpa [Gh] using hp
   repeat' (first|apply Ad.assoc|apply Ad.AA|apply Ad.Bj|apply Ad.region|apply Ad.Ar|apply Ad.Ai|apply AU.normal|apply AO.normal|apply Af.nil|apply Aq.nil|apply Af.one|(apply Aq.bar;decide +kernel)|apply Aq.quiet|(apply Aa.Dv (a:=gi (Dj o) k);rfl;rfl;rfl;rfl;rfl;rfl;rfl;rfl;(intro _ h;cases h);rfl;rfl;rfl;decide;decide;(first|omega|(simp only [List.length_take,List.length_drop,List.length_append,List.length_singleton,List.length_cons,List.length_nil]<;>omega)))|(apply Aa.Ba (l:=rg.stops) (i:=(gi (Dj o) k).d);rfl;rfl;rfl;omega;rfl)|(apply Aa.assign;rfl)|(apply Aa.move;rfl)|(apply Aa.Bz;rfl;rfl;omega)|(apply Aa.rV;rfl;rfl;omega)|(apply Aa.int;rfl;rfl;rfl)|(apply Aa.Ba;rfl;rfl;rfl;omega;rfl)|(apply Aa.load;rfl;rfl)|(apply Aa.BQ;rfl;rfl)|(apply Aa.AV;rfl;rfl;rfl)|(apply Aa.Fa;rfl;rfl)|(apply Aa.buildSlice;rfl;rfl;rfl;decide;rfl;rfl;rfl)|(apply Aa.XO;rfl;rfl;rfl;rfl;omega)|(apply Aa.WM;rfl;rfl;(simp only [IntKind.bits];omega))|(apply Ad.Ae;rfl)|(apply Ad.AY;rfl)|(intro _;try (exfalso;omega)))
   all_goals try (exfalso;omega)
   refine Aw.normal ⟨by omega,?_,?_⟩
   ·rw [e2]
    repeat (first|exact Ap.nil|refine Ap.same (by exact PV.Ac rfl) rfl ?_|refine Ap.cons trivial rfl (.of_eq (Au (by simp<;>omega))) ?_)
   ·rw [e2,e1]
    repeat (first|exact Ak.nil|(refine Ak.cons (Aj rfl) ?_ rfl ?_ ?_;(first|exact HB.Ac rfl|exact AZ.Ag _ _|(simp [HB.under,AZ.under,PV.under]));(first|exact Bv.refl _|exact Bv.vec (Bl.refl _) (by simp))))
  ·rw [if_neg hp] at e1
   have hm:¬ gi rg.stops (gi (Dj o) k).d / 2 ^ (gi (Dj o) k).s % 2=1:=by simpa [Gh] using hp
   repeat' (first|apply Ad.assoc|apply Ad.AA|apply Ad.Bj|apply Ad.region|apply Ad.Ar|apply Ad.Ai|apply AU.normal|apply AO.normal|apply Ad.skip|apply Af.nil|apply Aq.nil|apply Af.one|(apply Aq.bar;decide +kernel)|apply Aq.quiet|(apply Aa.Ba (l:=rg.stops) (i:=(gi (Dj o) k).d);rfl;rfl;rfl;omega;rfl)|(apply Aa.assign;rfl)|(apply Aa.move;rfl)|(apply Aa.Bz;rfl;rfl;omega)|(apply Aa.rV;rfl;rfl;omega)|(apply Aa.int;rfl;rfl;rfl)|(apply Aa.Ba;rfl;rfl;rfl;omega;rfl)|(apply Aa.load;rfl;rfl)|(apply Aa.BQ;rfl;rfl)|(apply Aa.AV;rfl;rfl;rfl)|(apply Aa.Fa;rfl;rfl)|(apply Aa.XO;rfl;rfl;rfl;rfl;omega)|(apply Aa.WM;rfl;rfl;(simp only [IntKind.bits];omega))|(apply Ad.Ae;rfl)|(apply Ad.AY;rfl)|(intro _;try (exfalso;omega)))
   all_goals try (exfalso;omega)
   refine Aw.normal ⟨by omega,?_,?_⟩
   ·rw [e1]
    repeat (first|exact Ap.nil|refine Ap.same (by exact PV.Ac rfl) rfl ?_|refine Ap.cons trivial rfl (.of_eq (Au (by simp<;>omega))) ?_)
   ·rw [e1]
    repeat (first|exact Ak.nil|(refine Ak.cons (Aj rfl) ?_ rfl ?_ ?_;(first|exact HB.Ac rfl|exact AZ.Ag _ _|(simp [HB.under,AZ.under,PV.under]));(first|exact Bv.refl _|exact Bv.vec (Bl.refl _) (by simp))))
 ·rw [jP]
  repeat' (first|(refine Af.He 4 ?_;refine Af.ghost (AL.freeze 41 rfl rfl) ?_)|apply Ad.assoc|apply Ad.AA|apply Ad.A8|apply AU.normal|apply AO.exit|apply Aw.exit|apply Ad.ret|apply Af.nil|apply Af.one|(apply Aa.assign;rfl)|(apply Aa.move;rfl)|(apply Aa.int;rfl;rfl;rfl)|(apply Aa.BQ;rfl;rfl)|(apply Ad.Ae;rfl)|(intro _;try (exfalso;omega)))
  all_goals first|(exfalso;omega)|(refine Done.ret rfl (.refl _) (by exact PV.Ac rfl) Ak.nil (Nat.zero_le _) (Nat.le_refl _) ⟨?_,rfl,rfl⟩;try rfl)
def shg (F T:D7) (a b:Q8):Int:=(Dc (Ih F a).Dp (Ih T b).Dp).1
def ShS (F T:D7):Prop:=∀ a b,Jr F a→Jr T b→-1000≤shg F T a b∧shg F T a b≤1000∧max (shg F T a b) (-shg F T a b)=max (xC F T a b) (-xC F T a b)
end Go.Proofs.YtdabojnmoejilaaGreatDoor
namespace Go.Proofs.YtdabojnmoejilaaGreatDoor
open Go Go.Am Go.Vm
attribute [local irreducible] Aa Af Aq Ad BF AX Ci AU AO Aw Vm.Done CS Bq
def a9z (o:D7):Rgs:=⟨List.replicate o.Ah.length 0,0,0⟩
def a5u (o:D7) (k:Nat):Nat:=2 ^ (gi o.Ah k).stops.length-1
def b0e (o:D7):Rgs:=⟨a1i (a5u o) (List.replicate o.Ah.length 0) o.Ah.length,2 ^ o.CZ.length-1,0⟩
def a9t (r:Rgs) (d s:Nat):Rgs:=⟨r.stops.set d (gi r.stops d ||| 2 ^ s),r.cp,r.off⟩
def a1y (a b:Rgs) (k:Nat):Nat:=gi a.stops k ||| gi b.stops k
def a6w (a b:Rgs):Rgs:=⟨a1i (a1y a b) a.stops a.stops.length,a.cp ||| b.cp,a.off ||| b.off⟩
end Go.Proofs.YtdabojnmoejilaaGreatDoor
namespace Go.Proofs.YtdabojnmoejilaaGreatDoor
open Go Go.Am Go.Vm
attribute [local irreducible] Aa Af Aq Ad BF AX Ci AU AO Aw Vm.Done CS Bq
def b2p (i:Nat):Nat:=if i=4 then 0 else 255
end Go.Proofs.YtdabojnmoejilaaGreatDoor
namespace Go.Proofs.YtdabojnmoejilaaGreatDoor
open Go Go.Am Go.Vm Go.Tra Go.Hun
attribute [local irreducible] Aa Af Aq Ad BF AX Ci AU AO Aw Vm.Done CS Bq
structure xH where
 Df:oJ
 tgt:oJ
 bits:Nat→Nat
 w:Nat→Nat
def xH.enc (x:xH):List FV:=[.lst 150 (cells x.Df.ranks) x.Df.ranks.length,.lst 75 (cells x.Df.Ah) x.Df.Ah.length,.lst 153 (cells x.Df.links) x.Df.links.length,
 .lst 150 (cells x.tgt.ranks) x.tgt.ranks.length,.lst 75 (cells x.tgt.Ah) x.tgt.Ah.length,.lst 153 (cells x.tgt.links) x.tgt.links.length,
 .int .u8 (x.bits 0:Int),.int .u8 (x.bits 1:Int),.int .u8 (x.bits 2:Int),.int .u8 (x.bits 3:Int),.int .u8 (x.bits 4:Int),.int .u8 (x.w 0:Int),.int .u8 (x.w 1:Int),.int .u8 (x.w 2:Int),.int .u8 (x.w 3:Int)]
structure xH.Ok (x:xH):Prop where
 Df:x.Df.Ok
 tgt:x.tgt.Ok
 bits:∀ i,x.bits i<256
 w:∀ i,x.w i<256
def Yh (x:xH):Prop:=QE x.Df∧QE x.tgt
noncomputable instance (x:xH):Decidable (Yh x):=Classical.propDecidable _
theorem gZ (x:xH) (hx:x.Ok):AX env 13 [.agg x.enc] (.p (.bool (decide (Yh x)))):=by
 have h1:=XW x.Df hx.Df
 have h2:=XW x.tgt hx.tgt
 refine AX.enter (AB (by decide)) Tryz.func13 rfl (by kernel_rfl) (by simp [Tryz.ntmps13]) ?_
 by_cases c1:QE x.Df
 ·rw [decide_eq_true c1] at h1
  by_cases c2:QE x.tgt
  ·rw [decide_eq_true c2] at h2
   rw [decide_eq_true (p:=Yh x) ⟨c1,c2⟩]
   repeat' (first|apply Ad.AA|apply Ad.ret|apply Af.nil|apply Af.one|(apply Af.take;rfl;rfl)|(apply Aa.fn;rfl;rfl;exact h1;intro _;rfl)|(apply Aa.fn;rfl;rfl;exact h2;intro _;rfl)|(apply Aa.assign;rfl)|(apply Aa.move;rfl)|(apply Aa.load;rfl;rfl)|(apply Aa.Bo;rfl;rfl)|(apply Aa.AV;rfl;rfl;rfl)|(apply Aa.box;rfl;trivial))
   all_goals first|(exfalso;omega)|contradiction|(refine Done.ret rfl (.refl _) (by exact PV.Ac rfl) Ak.nil (Nat.zero_le _) (Nat.le_refl _) ⟨?_,rfl,rfl⟩;try rfl)
  ·rw [decide_eq_false c2] at h2
   rw [decide_eq_false (p:=Yh x) (fun h=>c2 h.2)]
   repeat' (first|apply Ad.AA|apply Ad.ret|apply Af.nil|apply Af.one|(apply Af.take;rfl;rfl)|(apply Aa.fn;rfl;rfl;exact h1;intro _;rfl)|(apply Aa.fn;rfl;rfl;exact h2;intro _;rfl)|(apply Aa.assign;rfl)|(apply Aa.move;rfl)|(apply Aa.load;rfl;rfl)|(apply Aa.Bo;rfl;rfl)|(apply Aa.AV;rfl;rfl;rfl)|(apply Aa.box;rfl;trivial))
   all_goals first|(exfalso;omega)|contradiction|(refine Done.ret rfl (.refl _) (by exact PV.Ac rfl) Ak.nil (Nat.zero_le _) (Nat.le_refl _) ⟨?_,rfl,rfl⟩;try rfl)
 ·rw [decide_eq_false c1] at h1
  rw [decide_eq_false (p:=Yh x) (fun h=>c1 h.1)]
  repeat' (first|apply Ad.AA|apply Ad.ret|apply Af.nil|apply Af.one|(apply Af.drop;rfl;rfl;rfl)|(apply Aa.fn;rfl;rfl;exact h1;intro _;rfl)|(apply Aa.assign;rfl)|(apply Aa.move;rfl)|(apply Aa.load;rfl;rfl)|(apply Aa.AQ;rfl;rfl)|(apply Aa.AV;rfl;rfl;rfl)|(apply Aa.box;rfl;trivial))
  all_goals first|(exfalso;omega)|contradiction|(refine Done.ret rfl (.refl _) (by exact PV.Ac rfl) Ak.nil (Nat.zero_le _) (Nat.le_refl _) ⟨?_,rfl,rfl⟩;try rfl)
def mkW (w:Nat→Nat):U2:=⟨((w 0 % 32:Nat):Int),((w 1 % 8:Nat):Int),((w 2 % 32:Nat):Int),((w 3 % 64:Nat):Int)⟩
noncomputable def mkQ (x:xH):P5:=⟨kU x.Df,a0r (kU x.Df) x.bits,kU x.tgt,mkW x.w⟩
end Go.Proofs.YtdabojnmoejilaaGreatDoor
namespace Go.Proofs.YtdabojnmoejilaaGreatDoor
open Go Go.Am Go.Vm Go.Tra Go.Hun
attribute [local irreducible] Aa Af Aq Ad BF AX Ci AU AO Aw Vm.Done CS Bq
end Go.Proofs.YtdabojnmoejilaaGreatDoor
namespace Go.Proofs.YtdabojnmoejilaaGreatDoor
open Go Go.Am Go.Vm
theorem yQ {j:Nat} {fs:List FV} (h:Dz Tryz.prog (j+1) 9 fs):∃ l:List UInt8,fs=[.str (bs l)]∧l.length≤maxLen:=by
 obtain ⟨s,rfl,hs⟩:=Dz.str h Tryz.underlying9
 refine ⟨s.data.toList,by rw [← a5b s],?_⟩
 have:s.data.toList.length=s.size:=rfl
 omega
theorem Zm {j:Nat} {fs:List FV} (h:Dz Tryz.prog (j+1) 39 fs):∃ n:Nat,fs=[.int .u64 (n:Int)]∧n<18446744073709551616:=by
 obtain ⟨n,rfl,hn⟩:=Dz.int h Tryz.underlying39
 have h2:0≤n∧n<18446744073709551616:=by
  simp [Lit.wf,IntKind.min,IntKind.max,IntKind.signed,IntKind.bits] at hn
  omega
 exact ⟨n.toNat,by rw [Int.toNat_of_nonneg h2.1],by omega⟩
theorem xQ {j:Nat} {fs:List FV} (h:Dz Tryz.prog (j+3) 41 fs):∃ r:Rgs,fs=Enc.enc r∧r.Ok:=by
 obtain ⟨parts,rfl,hp⟩:=Es h Tryz.underlying41
 obtain ⟨a,b,c,rfl,h1,h2,h3⟩:=JL hp
 obtain ⟨l,rfl,n1,g1⟩:=JY (n:=j+1) (p:=fun n:Nat=>n<18446744073709551616) h1 Tryz.underlying38 (fun x hx=>Zm hx)
 obtain ⟨m2,rfl,q2⟩:=Zm (j:=j+1) h2
 obtain ⟨m3,rfl,q3⟩:=Zm (j:=j+1) h3
 simp only [maxLen] at n1
 exact ⟨⟨l,m2,m3⟩,rfl,g1,q2,q3,by simp only;omega⟩
theorem a5k {α:Type} {L:List α} (h:L.length=5):∃ a b c d e,L=[a,b,c,d,e]:=by
 match L,h with
 |[a,b,c,d,e],_=>exact ⟨a,b,c,d,e,rfl⟩
theorem oQ {j:Nat} {fs:List FV} (h:Dz Tryz.prog (j+2) 27 fs):∃ b:Nat→Nat,fs=a3q b∧∀ i,b i<256:=by
 obtain ⟨L,rfl,hl,hL⟩:=Dz.array h Tryz.underlying27
 obtain ⟨a,b,c,d,e,rfl⟩:=a5k hl
 obtain ⟨m1,rfl,q1⟩:=Fz (j:=j) (hL a (by simp))
 obtain ⟨m2,rfl,q2⟩:=Fz (j:=j) (hL b (by simp))
 obtain ⟨m3,rfl,q3⟩:=Fz (j:=j) (hL c (by simp))
 obtain ⟨m4,rfl,q4⟩:=Fz (j:=j) (hL d (by simp))
 obtain ⟨m5,rfl,q5⟩:=Fz (j:=j) (hL e (by simp))
 exact ⟨fun i=>if i=0 then m1 else if i=1 then m2 else if i=2 then m3 else if i=3 then m4 else m5,rfl,fun i=>by simp only;split<;>(try split)<;>(try split)<;>(try split)<;>omega⟩
end Go.Proofs.YtdabojnmoejilaaGreatDoor
namespace Go.Proofs.YtdabojnmoejilaaGreatDoor
open Go Go.Am Go.Vm
theorem list4 {α:Type} {L:List α} (h:L.length=4):∃ a b c d,L=[a,b,c,d]:=by
 match L,h with
 |[a,b,c,d],_=>exact ⟨a,b,c,d,rfl⟩
theorem nX {j:Nat} {fs:List FV} (h:Dz Tryz.prog (j+2) 28 fs):∃ b:Nat→Nat,fs=[.int .u8 (b 0:Int),.int .u8 (b 1:Int),.int .u8 (b 2:Int),.int .u8 (b 3:Int)]∧∀ i,b i<256:=by
 obtain ⟨L,rfl,hl,hL⟩:=Dz.array h Tryz.underlying28
 obtain ⟨a,b,c,d,rfl⟩:=list4 hl
 obtain ⟨m1,rfl,q1⟩:=Fz (j:=j) (hL a (by simp))
 obtain ⟨m2,rfl,q2⟩:=Fz (j:=j) (hL b (by simp))
 obtain ⟨m3,rfl,q3⟩:=Fz (j:=j) (hL c (by simp))
 obtain ⟨m4,rfl,q4⟩:=Fz (j:=j) (hL d (by simp))
 exact ⟨fun i=>if i=0 then m1 else if i=1 then m2 else if i=2 then m3 else m4,rfl,fun i=>by simp only;split<;>(try split)<;>(try split)<;>omega⟩
theorem nZ {j:Nat} {fs:List FV} (h:Dz Tryz.prog (j+7) 30 fs):∃ x:xH,fs=x.enc∧x.Ok:=by
 obtain ⟨parts,rfl,hp⟩:=Es h Tryz.underlying30
 obtain ⟨a,b,c,d,rfl,h1,h2,h3,h4⟩:=Hu hp
 obtain ⟨x1,rfl,k1⟩:=Yt (j:=j) h1
 obtain ⟨x2,rfl,k2⟩:=Yt (j:=j) h2
 obtain ⟨b5,rfl,k3⟩:=oQ (j:=j+4) h3
 obtain ⟨b4,rfl,k4⟩:=nX (j:=j+4) h4
 exact ⟨⟨x1,x2,b5,b4⟩,rfl,k1,k2,k3,k4⟩
end Go.Proofs.YtdabojnmoejilaaGreatDoor
namespace Go.Proofs.YtdabojnmoejilaaGreatDoor
open Go Go.Am Go.Vm Go.Tra Go.Hun
attribute [local irreducible] Aa Af Aq Ad BF AX Ci AU AO Aw Vm.Done CS Bq
attribute [local irreducible] DW DN Je Kz QO Dc
theorem ku {P:Program} {n:Nat} {t e:TypeId} {fs:List FV} (h:Dz P (n+1) t fs) (hu:P.underlying t=some (.slice e)):∃ x,fs=[x]:=by
 simp only [Dz,hu] at h
 obtain ⟨L,rfl,_⟩:=h
 exact ⟨_,rfl⟩
theorem kK {j:Nat} {fs:List FV} (h:Dz Tryz.prog (j+2) 37 fs):∃ a b c d,fs=[a,b,c,d]:=by
 obtain ⟨parts,rfl,hp⟩:=Es h Tryz.underlying37
 obtain ⟨a,b,c,d,rfl,h1,h2,h3,h4⟩:=Hu hp
 obtain ⟨n,rfl,_⟩:=yQ (j:=j) h1
 obtain ⟨x,rfl⟩:=ku h2 Tryz.underlying33
 obtain ⟨y,rfl⟩:=ku h3 Tryz.underlying34
 obtain ⟨z,rfl⟩:=ku h4 Tryz.underlying35
 exact ⟨_,_,_,_,rfl⟩
theorem nI {j:Nat} {fs:List FV} (h:Dz Tryz.prog (j+8) 45 fs):∃ (o1 o2 o3 o4 p1 p2 p3 p4:FV) (r:Rgs) (w:U2),r.Ok ∧
 fs=[o1,o2,o3,o4,.lst 39 (cells r.stops) r.stops.length,.int .u64 (r.cp:Int),.int .u64 (r.off:Int),p1,p2,p3,p4,.int .i64 w.Ep,.int .i64 w.J5,.int .i64 w.Dx,.int .i64 w.miss]:=by
 obtain ⟨parts,rfl,hp⟩:=Es h Tryz.underlying45
 obtain ⟨a,b,c,d,rfl,h1,h2,h3,h4⟩:=Hu hp
 obtain ⟨a1,a2,a3,a4,rfl⟩:=kK (j:=j+5) h1
 obtain ⟨r,rfl,hr⟩:=xQ (j:=j+4) h2
 obtain ⟨c1,c2,c3,c4,rfl⟩:=kK (j:=j+5) h3
 obtain ⟨a8z,rfl,hp2⟩:=Es h4 Tryz.underlying43
 obtain ⟨x,y,z,u,rfl,g1,g2,g3,g4⟩:=Hu hp2
 obtain ⟨m1,rfl,_⟩:=U1 (j:=j+5) g1
 obtain ⟨m2,rfl,_⟩:=U1 (j:=j+5) g2
 obtain ⟨m3,rfl,_⟩:=U1 (j:=j+5) g3
 obtain ⟨m4,rfl,_⟩:=U1 (j:=j+5) g4
 exact ⟨a1,a2,a3,a4,c1,c2,c3,c4,r,⟨m1,m2,m3,m4⟩,hr,rfl⟩
theorem a1f {α:Type} {L:List α} (h:L.length=2):∃ a b,L=[a,b]:=by
 match L,h with
 |[a,b],_=>exact ⟨a,b,rfl⟩
theorem oI {j:Nat} {fs:List FV} (h:Dz Tryz.prog (j+3) 102 fs):∃ a b:Slp,fs=[.int .u8 (a.kind:Int),.int .u8 (a.at_:Int),.int .u8 (b.kind:Int),.int .u8 (b.at_:Int)]∧a.Ok∧b.Ok:=by
 obtain ⟨L,rfl,hl,hL⟩:=Dz.array h Tryz.underlying102
 obtain ⟨a,b,rfl⟩:=a1f hl
 obtain ⟨x,rfl,q1⟩:=Z4 (j:=j) (hL a (by simp))
 obtain ⟨y,rfl,q2⟩:=Z4 (j:=j) (hL b (by simp))
 exact ⟨x,y,rfl,q1,q2⟩
theorem OO (x:xH) (hx:x.Ok) (a:Slp) (ha:a.Ok) (b:Slp) (hb:b.Ok) (o1 o2 o3 o4 p1 p2 p3 p4:FV) (r:Rgs) (hr:r.Ok) (w:U2) :
 AX env 9 [.agg x.enc,.agg [.int .u8 (a.kind:Int),.int .u8 (a.at_:Int),.int .u8 (b.kind:Int),.int .u8 (b.at_:Int)],.agg [o1,o2,o3,o4,.lst 39 (cells r.stops) r.stops.length,.int .u64 (r.cp:Int),.int .u64 (r.off:Int),p1,p2,p3,p4,.int .i64 w.Ep,.int .i64 w.J5,.int .i64 w.Dx,.int .i64 w.miss]] (.p (.bool true)):=by
 have hkn:=jJ
 have hfs:=gZ x hx
 have hrl:=hr.len
 by_cases hf:Yh x
 case neg =>
  rw [decide_eq_false hf] at hfs
  refine AX.enter (AB (by decide)) Tryz.func9 rfl (by kernel_rfl) (by simp [Tryz.ntmps9]) ?_
  repeat' (first|apply Ad.assoc|apply Ad.AA|apply Ad.BI|apply Af.nil|apply Af.one|(apply Af.take;rfl;rfl)|(apply Af.drop;rfl;rfl;rfl)|(apply Aa.fn;rfl;rfl;exact hkn;intro _;rfl)|(apply Aa.fn;rfl;rfl;exact hfs;intro _;rfl)|(apply Aa.assign;rfl)|(apply Aa.move;rfl)|(apply Aa.load;rfl;rfl)|(apply Aa.Bo;rfl;rfl)|(apply Aa.AQ;rfl;rfl)|(apply Aa.box;rfl;trivial)|(apply Aa.not;rfl)|(apply Ad.Bc;rfl))
  all_goals first|(exfalso;omega)|contradiction|((refine Done.ret rfl (.refl _) (by exact PV.Ac rfl) Ak.nil (Nat.zero_le _) (Nat.le_refl _) ⟨?_,rfl,rfl⟩;try rfl);try simp)
 rw [decide_eq_true hf] at hfs
 by_cases b2q:r.stops.length>10
 ·refine AX.enter (AB (by decide)) Tryz.func9 rfl (by kernel_rfl) (by simp [Tryz.ntmps9]) ?_
  repeat' (first|apply Ad.assoc|apply Ad.AA|apply Ad.BI|apply Af.nil|apply Af.one|(apply Af.take;rfl;rfl)|(apply Aa.fn;rfl;rfl;exact hkn;intro _;rfl)|(apply Aa.fn;rfl;rfl;exact hfs;intro _;rfl)|(apply Aa.assign;rfl)|(apply Aa.move;rfl)|(apply Aa.int;rfl;rfl;rfl)|(apply Aa.load;rfl;rfl)|(apply Aa.AQ;rfl;rfl)|(apply Aa.BQ;rfl;rfl)|(apply Aa.AV;rfl;rfl;rfl)|(apply Aa.box;rfl;trivial)|(apply Aa.not;rfl)|(apply Ad.Ae;rfl)|(intro _;try (exfalso;omega)))
  all_goals first|(exfalso;omega)|contradiction|((refine Done.ret rfl (.refl _) (by exact PV.Ac rfl) Ak.nil (Nat.zero_le _) (Nat.le_refl _) ⟨?_,rfl,rfl⟩;try rfl);try simp)
 have hm1:=TA x.Df hx.Df hf.1
 have hm2:=TA x.tgt hx.tgt hf.2
 have t1:=a0g x.Df hx.Df hf.1
 have t2:=a0g x.tgt hx.tgt hf.2
 obtain ⟨F,hF,lF⟩:=wS (kU x.Df) 3 (by decide) t1.l t1.ranks.1 t1.Ah.1 a ha
 obtain ⟨T,hT,lT⟩:=wS (kU x.tgt) 3 (by decide) t2.l t2.ranks.1 t2.Ah.1 b hb
 have fP:=Ja F lF.sm
 have xq:=Ja T lT.sm
 have P9:=Jc ⟨F,r,T,w⟩ lF.sm lT.sm hr
 generalize kU x.Df=mF at *
 generalize kU x.tgt=mT at *
 refine AX.enter (AB (by decide)) Tryz.func9 rfl (by kernel_rfl) (by simp [Tryz.ntmps9]) ?_
 by_cases e1:Jy F=0
 case neg =>
  have hq:GK ⟨F,r,T,w⟩=Jy F:=by unfold GK;rw [if_pos e1]
  have he:GK ⟨F,r,T,w⟩≠0:=by rw [hq];exact e1
  have hL:=EX lF.sm lT.sm hr he
  have hB:=Jd lF.sm lT.sm hr he
  have hC:=Ii lF.sm lT.sm hr he
  have hD:=FK lF.sm lT.sm hr he
  have hV:=GN lF.sm lT.sm hr he Uo rfl
  rw [hq] at P9 hL hB hC hD hV
  obtain ⟨w0,hw0⟩:∃ w0,w0=Jy F:=⟨_,rfl⟩
  rw [← hw0] at P9 hL hB hC hD hV fP e1
  have hW:wK w w0 4=w0:=Zv w e1 4
  repeat' (first|apply Ad.assoc|apply Ad.AA|apply Ad.Bj|apply Ad.Ar|apply Ad.Ai|apply Af.nil|apply Aq.nil|apply Af.one|(apply Aq.bar;decide +kernel)|apply Aq.quiet|(apply Af.take;rfl;rfl)|(apply Aa.fn;rfl;rfl;exact hkn;intro _;rfl)|(apply Aa.fn;rfl;rfl;exact hfs;intro _;rfl)|(apply Aa.fn;rfl;rfl;exact hm1;intro _;rfl)|(apply Aa.fn;rfl;rfl;exact hm2;intro _;rfl)|(apply Aa.fn;rfl;rfl;exact hF;intro _;rfl)|(apply Aa.fn;rfl;rfl;exact hT;intro _;rfl)|(apply Aa.fn;rfl;rfl;exact fP;intro _;rfl)|(apply Aa.MW;rfl;rfl;rfl;rfl;rfl;decide)|(apply Aa.assign;rfl)|(apply Aa.move;rfl)|(apply Aa.int;rfl;rfl;rfl)|(apply Aa.load;rfl;rfl)|(apply Aa.AQ;rfl;rfl)|(apply Aa.BQ;rfl;rfl)|(apply Aa.lenV;rfl;rfl;rfl)|(apply Aa.AV;rfl;rfl;rfl)|(apply Aa.box;rfl;trivial)|(apply Aa.Bd;rfl;rfl;rfl;trivial;rfl;rfl;exact Aj rfl;exact le_dec rfl)|(apply Aa.buildSlice;rfl;rfl;rfl;decide;rfl;rfl;rfl)|(apply Aa.not;rfl)|(apply Ad.Ae;rfl)|(intro _;try (exfalso;omega)))
  all_goals try (exfalso;omega)
  all_goals try contradiction
  apply Ad.EF (4) [(5,_),(74,_),(75,_)] [(2,_),(3,_)] (fun k r=>(7,.p (.int .i64 (wK w w0 k)))::(76,.p (.int .i64 (k:Int)))::r) (fun k r=>r) 4
  ·first|omega|decide
  ·first|omega|decide
  ·repeat (first|exact Ap.nil|(refine Ap.eq rfl ?_ ?_;(first|exact PV.Ac rfl|(simp [PV.under,AZ.under];done)))|refine Ap.cons trivial rfl (.of_eq (Au (by simp<;>omega))) ?_)
  ·repeat (first|exact Ak.nil|(refine Ak.eq rfl (Aj rfl) ?_ ?_;(first|exact HB.Ac rfl|exact AZ.Ag _ _|(simp [HB.under,AZ.under,PV.under];done)))|(refine Ak.cons (Aj rfl) ?_ rfl ?_ ?_;(first|exact trivial|exact AZ.Ag _ _|(simp [HB.under,AZ.under,PV.under]));(first|exact Bv.refl _|exact Bv.vec (Bl.refl _) (by simp))))
  ·intro k hk
   have e1:wK w w0 (k+1)=if wK w w0 k=0∧(gi (Eh w) k<0∨gi (Eh w) k>100000) then 3 else wK w w0 k:=rfl
   by_cases hcc:wK w w0 k=0∧(gi (Eh w) k<0∨gi (Eh w) k>100000)
   all_goals first|rw [if_pos hcc] at e1|rw [if_neg hcc] at e1
   all_goals
    repeat' (first|apply Ad.AA|apply Ad.region|apply Ad.Ar|apply Ad.Ai|apply AU.normal|apply AO.normal|apply Ad.skip|apply Af.nil|apply Af.one|(apply Af.take;rfl;rfl)|(apply Af.drop;rfl;rfl;rfl)|(apply Af.guard;rfl;rfl)|(apply Af.KF;rfl;rfl)|(apply Aa.BD (l:=Eh w) (i:=k);rfl;rfl;rfl;rfl;exact hk)|(apply Aa.BH (l:=Eh w) (i:=k);rfl;rfl;exact hk;rfl)|(apply Aa.assign;rfl)|(apply Aa.move;rfl)|(apply Aa.Bz;rfl;rfl;omega)|(apply Aa.int;rfl;rfl;rfl)|(apply Aa.Bo;rfl;rfl)|(apply Aa.AQ;rfl;rfl)|(apply Ad.Ae;rfl)|(apply Ad.cond_true;rfl)|(apply Ad.cond_false;rfl)|(apply Ad.AY;rfl)|(intro _;try (exfalso;omega)))
   all_goals try (exfalso;omega)
   all_goals
    refine Aw.normal ⟨by first|omega|decide,?_,?_⟩
    ·try (try rw [e1])
     repeat (first|exact Ap.nil|refine Ap.same (by exact PV.Ac rfl) rfl ?_|refine Ap.cons trivial rfl (.of_eq (Au (by simp<;>omega))) ?_)
    ·try rw [e1]
     repeat (first|exact Ak.nil|(refine Ak.cons (Aj rfl) ?_ rfl ?_ ?_;(first|exact HB.Ac rfl|exact AZ.Ag _ _|(simp [HB.under,AZ.under,PV.under]));(first|exact Bv.refl _|exact Bv.vec (Bl.refl _) (by simp))))
  ·rw [hW]
   repeat' (first|apply Ad.assoc|apply Ad.AA|apply Ad.Ar|apply Ad.A8|apply AU.normal|apply AO.exit|apply Aw.exit|apply Ad.ret|apply Af.nil|apply Af.one|(apply Af.take;rfl;rfl)|(apply Af.drop;rfl;rfl;rfl)|(apply Af.guard;rfl;rfl)|(apply Af.KF;rfl;rfl)|(apply Aa.fn;rfl;rfl;exact P9;intro _;rfl)|(apply Aa.fn;rfl;rfl;exact hL;intro _;rfl)|(apply Aa.fn;rfl;rfl;exact hB;intro _;rfl)|(apply Aa.fn;rfl;rfl;exact hC;intro _;rfl)|(apply Aa.fn;rfl;rfl;exact hD;intro _;rfl)|(apply Aa.fn;rfl;rfl;exact hV;intro _;rfl)|(apply Aa.assign;rfl)|(apply Aa.move;rfl)|(apply Aa.Bz;rfl;rfl;omega)|(apply Aa.int;rfl;rfl;rfl)|(apply Aa.load;rfl;rfl)|(apply Aa.Bo;rfl;rfl)|(apply Aa.AQ;rfl;rfl)|(apply Aa.RZ;rfl;rfl)|(apply Aa.AV;rfl;rfl;rfl)|(apply Aa.alloc;rfl)|(apply Aa.Bd;rfl;rfl;rfl;trivial;rfl;rfl;exact Aj rfl;exact le_dec rfl)|(apply Aa.build;rfl;rfl;rfl;rfl;rfl)|(apply Aa.extract;rfl;rfl)|(apply Ad.Az;rfl)|(apply Ad.Ae;rfl)|(intro _;try (exfalso;omega)))
   all_goals try (exfalso;omega)
   all_goals try contradiction
   all_goals first|((refine Done.ret rfl (.refl _) (by exact PV.Ac rfl) Ak.nil (Nat.zero_le _) (Nat.le_refl _) ⟨?_,rfl,rfl⟩;try rfl);done)|(refine Done.ret rfl (.refl _) (by exact PV.Ac rfl) Ak.nil (Nat.zero_le _) (Nat.le_refl _) ⟨?_,rfl,rfl⟩;refine PV.Ir ?_;simp;done)
 have k1:=oD lF.sm e1
 rw [e1] at fP
 have hcR:=YJ F k1 r hr
 by_cases e2:OY F r=0
 case neg =>
  have hq:GK ⟨F,r,T,w⟩=OY F r:=by unfold GK;rw [if_neg (fun h=>h e1),if_pos e2]
  have he:GK ⟨F,r,T,w⟩≠0:=by rw [hq];exact e2
  have hL:=EX lF.sm lT.sm hr he
  have hB:=Jd lF.sm lT.sm hr he
  have hC:=Ii lF.sm lT.sm hr he
  have hD:=FK lF.sm lT.sm hr he
  have hV:=GN lF.sm lT.sm hr he Uo rfl
  rw [hq] at P9 hL hB hC hD hV
  obtain ⟨w0,hw0⟩:∃ w0,w0=OY F r:=⟨_,rfl⟩
  rw [← hw0] at P9 hL hB hC hD hV hcR e2
  have hW:wK w w0 4=w0:=Zv w e2 4
  repeat' (first|apply Ad.assoc|apply Ad.AA|apply Ad.Bj|apply Ad.Ar|apply Ad.Ai|apply Af.nil|apply Aq.nil|apply Af.one|(apply Aq.bar;decide +kernel)|apply Aq.quiet|(apply Af.take;rfl;rfl)|(apply Aa.fn;rfl;rfl;exact hkn;intro _;rfl)|(apply Aa.fn;rfl;rfl;exact hfs;intro _;rfl)|(apply Aa.fn;rfl;rfl;exact hm1;intro _;rfl)|(apply Aa.fn;rfl;rfl;exact hm2;intro _;rfl)|(apply Aa.fn;rfl;rfl;exact hF;intro _;rfl)|(apply Aa.fn;rfl;rfl;exact hT;intro _;rfl)|(apply Aa.fn;rfl;rfl;exact fP;intro _;rfl)|(apply Aa.fn;rfl;rfl;exact hcR;intro _;rfl)|(apply Aa.MW;rfl;rfl;rfl;rfl;rfl;decide)|(apply Aa.assign;rfl)|(apply Aa.move;rfl)|(apply Aa.int;rfl;rfl;rfl)|(apply Aa.load;rfl;rfl)|(apply Aa.AQ;rfl;rfl)|(apply Aa.BQ;rfl;rfl)|(apply Aa.lenV;rfl;rfl;rfl)|(apply Aa.AV;rfl;rfl;rfl)|(apply Aa.box;rfl;trivial)|(apply Aa.Bd;rfl;rfl;rfl;trivial;rfl;rfl;exact Aj rfl;exact le_dec rfl)|(apply Aa.buildSlice;rfl;rfl;rfl;decide;rfl;rfl;rfl)|(apply Aa.not;rfl)|(apply Ad.Bc;rfl)|(apply Ad.Ae;rfl)|(intro _;try (exfalso;omega)))
  all_goals try (exfalso;omega)
  all_goals try contradiction
  apply Ad.EF (4) [(5,_),(74,_),(75,_)] [(2,_),(3,_)] (fun k r=>(7,.p (.int .i64 (wK w w0 k)))::(76,.p (.int .i64 (k:Int)))::r) (fun k r=>r) 4
  ·first|omega|decide
  ·first|omega|decide
  ·repeat (first|exact Ap.nil|(refine Ap.eq rfl ?_ ?_;(first|exact PV.Ac rfl|(simp [PV.under,AZ.under];done)))|refine Ap.cons trivial rfl (.of_eq (Au (by simp<;>omega))) ?_)
  ·repeat (first|exact Ak.nil|(refine Ak.eq rfl (Aj rfl) ?_ ?_;(first|exact HB.Ac rfl|exact AZ.Ag _ _|(simp [HB.under,AZ.under,PV.under];done)))|(refine Ak.cons (Aj rfl) ?_ rfl ?_ ?_;(first|exact trivial|exact AZ.Ag _ _|(simp [HB.under,AZ.under,PV.under]));(first|exact Bv.refl _|exact Bv.vec (Bl.refl _) (by simp))))
  ·intro k hk
   have e1:wK w w0 (k+1)=if wK w w0 k=0∧(gi (Eh w) k<0∨gi (Eh w) k>100000) then 3 else wK w w0 k:=rfl
   by_cases hcc:wK w w0 k=0∧(gi (Eh w) k<0∨gi (Eh w) k>100000)
   all_goals first|rw [if_pos hcc] at e1|rw [if_neg hcc] at e1
   all_goals
    repeat' (first|apply Ad.AA|apply Ad.region|apply Ad.Ar|apply Ad.Ai|apply AU.normal|apply AO.normal|apply Ad.skip|apply Af.nil|apply Af.one|(apply Af.take;rfl;rfl)|(apply Af.drop;rfl;rfl;rfl)|(apply Af.guard;rfl;rfl)|(apply Af.KF;rfl;rfl)|(apply Aa.BD (l:=Eh w) (i:=k);rfl;rfl;rfl;rfl;exact hk)|(apply Aa.BH (l:=Eh w) (i:=k);rfl;rfl;exact hk;rfl)|(apply Aa.assign;rfl)|(apply Aa.move;rfl)|(apply Aa.Bz;rfl;rfl;omega)|(apply Aa.int;rfl;rfl;rfl)|(apply Aa.Bo;rfl;rfl)|(apply Aa.AQ;rfl;rfl)|(apply Ad.Ae;rfl)|(apply Ad.cond_true;rfl)|(apply Ad.cond_false;rfl)|(apply Ad.AY;rfl)|(intro _;try (exfalso;omega)))
   all_goals try (exfalso;omega)
   all_goals
    refine Aw.normal ⟨by first|omega|decide,?_,?_⟩
    ·try (try rw [e1])
     repeat (first|exact Ap.nil|refine Ap.same (by exact PV.Ac rfl) rfl ?_|refine Ap.cons trivial rfl (.of_eq (Au (by simp<;>omega))) ?_)
    ·try rw [e1]
     repeat (first|exact Ak.nil|(refine Ak.cons (Aj rfl) ?_ rfl ?_ ?_;(first|exact HB.Ac rfl|exact AZ.Ag _ _|(simp [HB.under,AZ.under,PV.under]));(first|exact Bv.refl _|exact Bv.vec (Bl.refl _) (by simp))))
  ·rw [hW]
   repeat' (first|apply Ad.assoc|apply Ad.AA|apply Ad.Ar|apply Ad.A8|apply AU.normal|apply AO.exit|apply Aw.exit|apply Ad.ret|apply Af.nil|apply Af.one|(apply Af.take;rfl;rfl)|(apply Af.drop;rfl;rfl;rfl)|(apply Af.guard;rfl;rfl)|(apply Af.KF;rfl;rfl)|(apply Aa.fn;rfl;rfl;exact P9;intro _;rfl)|(apply Aa.fn;rfl;rfl;exact hL;intro _;rfl)|(apply Aa.fn;rfl;rfl;exact hB;intro _;rfl)|(apply Aa.fn;rfl;rfl;exact hC;intro _;rfl)|(apply Aa.fn;rfl;rfl;exact hD;intro _;rfl)|(apply Aa.fn;rfl;rfl;exact hV;intro _;rfl)|(apply Aa.assign;rfl)|(apply Aa.move;rfl)|(apply Aa.Bz;rfl;rfl;omega)|(apply Aa.int;rfl;rfl;rfl)|(apply Aa.load;rfl;rfl)|(apply Aa.Bo;rfl;rfl)|(apply Aa.AQ;rfl;rfl)|(apply Aa.RZ;rfl;rfl)|(apply Aa.AV;rfl;rfl;rfl)|(apply Aa.alloc;rfl)|(apply Aa.Bd;rfl;rfl;rfl;trivial;rfl;rfl;exact Aj rfl;exact le_dec rfl)|(apply Aa.build;rfl;rfl;rfl;rfl;rfl)|(apply Aa.extract;rfl;rfl)|(apply Ad.Az;rfl)|(apply Ad.Ae;rfl)|(intro _;try (exfalso;omega)))
   all_goals try (exfalso;omega)
   all_goals try contradiction
   all_goals first|((refine Done.ret rfl (.refl _) (by exact PV.Ac rfl) Ak.nil (Nat.zero_le _) (Nat.le_refl _) ⟨?_,rfl,rfl⟩;try rfl);done)|(refine Done.ret rfl (.refl _) (by exact PV.Ac rfl) Ak.nil (Nat.zero_le _) (Nat.le_refl _) ⟨?_,rfl,rfl⟩;refine PV.Ir ?_;simp;done)
 rw [e2] at hcR
 by_cases e3:Jy T=0
 case neg =>
  have hq:GK ⟨F,r,T,w⟩=Jy T:=by unfold GK;rw [if_neg (fun h=>h e1),if_neg (fun h=>h e2),if_pos e3]
  have he:GK ⟨F,r,T,w⟩≠0:=by rw [hq];exact e3
  have hL:=EX lF.sm lT.sm hr he
  have hB:=Jd lF.sm lT.sm hr he
  have hC:=Ii lF.sm lT.sm hr he
  have hD:=FK lF.sm lT.sm hr he
  have hV:=GN lF.sm lT.sm hr he Uo rfl
  rw [hq] at P9 hL hB hC hD hV
  obtain ⟨w0,hw0⟩:∃ w0,w0=Jy T:=⟨_,rfl⟩
  rw [← hw0] at P9 hL hB hC hD hV xq e3
  have hW:wK w w0 4=w0:=Zv w e3 4
  repeat' (first|apply Ad.assoc|apply Ad.AA|apply Ad.Bj|apply Ad.Ar|apply Ad.Ai|apply Af.nil|apply Aq.nil|apply Af.one|(apply Aq.bar;decide +kernel)|apply Aq.quiet|(apply Af.take;rfl;rfl)|(apply Aa.fn;rfl;rfl;exact hkn;intro _;rfl)|(apply Aa.fn;rfl;rfl;exact hfs;intro _;rfl)|(apply Aa.fn;rfl;rfl;exact hm1;intro _;rfl)|(apply Aa.fn;rfl;rfl;exact hm2;intro _;rfl)|(apply Aa.fn;rfl;rfl;exact hF;intro _;rfl)|(apply Aa.fn;rfl;rfl;exact hT;intro _;rfl)|(apply Aa.fn;rfl;rfl;exact fP;intro _;rfl)|(apply Aa.fn;rfl;rfl;exact hcR;intro _;rfl)|(apply Aa.fn;rfl;rfl;exact xq;intro _;rfl)|(apply Aa.MW;rfl;rfl;rfl;rfl;rfl;decide)|(apply Aa.assign;rfl)|(apply Aa.move;rfl)|(apply Aa.int;rfl;rfl;rfl)|(apply Aa.load;rfl;rfl)|(apply Aa.AQ;rfl;rfl)|(apply Aa.BQ;rfl;rfl)|(apply Aa.lenV;rfl;rfl;rfl)|(apply Aa.AV;rfl;rfl;rfl)|(apply Aa.box;rfl;trivial)|(apply Aa.Bd;rfl;rfl;rfl;trivial;rfl;rfl;exact Aj rfl;exact le_dec rfl)|(apply Aa.buildSlice;rfl;rfl;rfl;decide;rfl;rfl;rfl)|(apply Aa.not;rfl)|(apply Ad.Bc;rfl)|(apply Ad.Ae;rfl)|(intro _;try (exfalso;omega)))
  all_goals try (exfalso;omega)
  all_goals try contradiction
  apply Ad.EF (4) [(5,_),(74,_),(75,_)] [(2,_),(3,_)] (fun k r=>(7,.p (.int .i64 (wK w w0 k)))::(76,.p (.int .i64 (k:Int)))::r) (fun k r=>r) 4
  ·first|omega|decide
  ·first|omega|decide
  ·repeat (first|exact Ap.nil|(refine Ap.eq rfl ?_ ?_;(first|exact PV.Ac rfl|(simp [PV.under,AZ.under];done)))|refine Ap.cons trivial rfl (.of_eq (Au (by simp<;>omega))) ?_)
  ·repeat (first|exact Ak.nil|(refine Ak.eq rfl (Aj rfl) ?_ ?_;(first|exact HB.Ac rfl|exact AZ.Ag _ _|(simp [HB.under,AZ.under,PV.under];done)))|(refine Ak.cons (Aj rfl) ?_ rfl ?_ ?_;(first|exact trivial|exact AZ.Ag _ _|(simp [HB.under,AZ.under,PV.under]));(first|exact Bv.refl _|exact Bv.vec (Bl.refl _) (by simp))))
  ·intro k hk
   have e1:wK w w0 (k+1)=if wK w w0 k=0∧(gi (Eh w) k<0∨gi (Eh w) k>100000) then 3 else wK w w0 k:=rfl
   by_cases hcc:wK w w0 k=0∧(gi (Eh w) k<0∨gi (Eh w) k>100000)
   all_goals first|rw [if_pos hcc] at e1|rw [if_neg hcc] at e1
   all_goals
    repeat' (first|apply Ad.AA|apply Ad.region|apply Ad.Ar|apply Ad.Ai|apply AU.normal|apply AO.normal|apply Ad.skip|apply Af.nil|apply Af.one|(apply Af.take;rfl;rfl)|(apply Af.drop;rfl;rfl;rfl)|(apply Af.guard;rfl;rfl)|(apply Af.KF;rfl;rfl)|(apply Aa.BD (l:=Eh w) (i:=k);rfl;rfl;rfl;rfl;exact hk)|(apply Aa.BH (l:=Eh w) (i:=k);rfl;rfl;exact hk;rfl)|(apply Aa.assign;rfl)|(apply Aa.move;rfl)|(apply Aa.Bz;rfl;rfl;omega)|(apply Aa.int;rfl;rfl;rfl)|(apply Aa.Bo;rfl;rfl)|(apply Aa.AQ;rfl;rfl)|(apply Ad.Ae;rfl)|(apply Ad.cond_true;rfl)|(apply Ad.cond_false;rfl)|(apply Ad.AY;rfl)|(intro _;try (exfalso;omega)))
   all_goals try (exfalso;omega)
   all_goals
    refine Aw.normal ⟨by first|omega|decide,?_,?_⟩
    ·try (try rw [e1])
     repeat (first|exact Ap.nil|refine Ap.same (by exact PV.Ac rfl) rfl ?_|refine Ap.cons trivial rfl (.of_eq (Au (by simp<;>omega))) ?_)
    ·try rw [e1]
     repeat (first|exact Ak.nil|(refine Ak.cons (Aj rfl) ?_ rfl ?_ ?_;(first|exact HB.Ac rfl|exact AZ.Ag _ _|(simp [HB.under,AZ.under,PV.under]));(first|exact Bv.refl _|exact Bv.vec (Bl.refl _) (by simp))))
  ·rw [hW]
   repeat' (first|apply Ad.assoc|apply Ad.AA|apply Ad.Ar|apply Ad.A8|apply AU.normal|apply AO.exit|apply Aw.exit|apply Ad.ret|apply Af.nil|apply Af.one|(apply Af.take;rfl;rfl)|(apply Af.drop;rfl;rfl;rfl)|(apply Af.guard;rfl;rfl)|(apply Af.KF;rfl;rfl)|(apply Aa.fn;rfl;rfl;exact P9;intro _;rfl)|(apply Aa.fn;rfl;rfl;exact hL;intro _;rfl)|(apply Aa.fn;rfl;rfl;exact hB;intro _;rfl)|(apply Aa.fn;rfl;rfl;exact hC;intro _;rfl)|(apply Aa.fn;rfl;rfl;exact hD;intro _;rfl)|(apply Aa.fn;rfl;rfl;exact hV;intro _;rfl)|(apply Aa.assign;rfl)|(apply Aa.move;rfl)|(apply Aa.Bz;rfl;rfl;omega)|(apply Aa.int;rfl;rfl;rfl)|(apply Aa.load;rfl;rfl)|(apply Aa.Bo;rfl;rfl)|(apply Aa.AQ;rfl;rfl)|(apply Aa.RZ;rfl;rfl)|(apply Aa.AV;rfl;rfl;rfl)|(apply Aa.alloc;rfl)|(apply Aa.Bd;rfl;rfl;rfl;trivial;rfl;rfl;exact Aj rfl;exact le_dec rfl)|(apply Aa.build;rfl;rfl;rfl;rfl;rfl)|(apply Aa.extract;rfl;rfl)|(apply Ad.Az;rfl)|(apply Ad.Ae;rfl)|(intro _;try (exfalso;omega)))
   all_goals try (exfalso;omega)
   all_goals try contradiction
   all_goals first|((refine Done.ret rfl (.refl _) (by exact PV.Ac rfl) Ak.nil (Nat.zero_le _) (Nat.le_refl _) ⟨?_,rfl,rfl⟩;try rfl);done)|(refine Done.ret rfl (.refl _) (by exact PV.Ac rfl) Ak.nil (Nat.zero_le _) (Nat.le_refl _) ⟨?_,rfl,rfl⟩;refine PV.Ir ?_;simp;done)
 have k2:=oD lT.sm e3
 rw [e3] at xq
 have hdr:=aU F k1 r hr (Zk e2)
 have hls:=Ur T k2
 by_cases e4:KQ w
 case neg =>
  have hq:GK ⟨F,r,T,w⟩=3:=by unfold GK;rw [if_neg (fun h=>h e1),if_neg (fun h=>h e2),if_neg (fun h=>h e3),if_pos e4]
  have he:GK ⟨F,r,T,w⟩≠0:=by rw [hq];decide
  have hL:=EX lF.sm lT.sm hr he
  have hB:=Jd lF.sm lT.sm hr he
  have hC:=Ii lF.sm lT.sm hr he
  have hD:=FK lF.sm lT.sm hr he
  have hV:=GN lF.sm lT.sm hr he Uo rfl
  rw [hq] at P9 hL hB hC hD hV
  have hW:wK w 0 4=3:=by rw [iH,if_neg e4]
  repeat' (first|apply Ad.assoc|apply Ad.AA|apply Ad.Bj|apply Ad.Ar|apply Ad.Ai|apply Af.nil|apply Aq.nil|apply Af.one|(apply Aq.bar;decide +kernel)|apply Aq.quiet|(apply Af.take;rfl;rfl)|(apply Aa.fn;rfl;rfl;exact hkn;intro _;rfl)|(apply Aa.fn;rfl;rfl;exact hfs;intro _;rfl)|(apply Aa.fn;rfl;rfl;exact hm1;intro _;rfl)|(apply Aa.fn;rfl;rfl;exact hm2;intro _;rfl)|(apply Aa.fn;rfl;rfl;exact hF;intro _;rfl)|(apply Aa.fn;rfl;rfl;exact hT;intro _;rfl)|(apply Aa.fn;rfl;rfl;exact fP;intro _;rfl)|(apply Aa.fn;rfl;rfl;exact hcR;intro _;rfl)|(apply Aa.fn;rfl;rfl;exact xq;intro _;rfl)|(apply Aa.MW;rfl;rfl;rfl;rfl;rfl;decide)|(apply Aa.assign;rfl)|(apply Aa.move;rfl)|(apply Aa.int;rfl;rfl;rfl)|(apply Aa.load;rfl;rfl)|(apply Aa.AQ;rfl;rfl)|(apply Aa.BQ;rfl;rfl)|(apply Aa.lenV;rfl;rfl;rfl)|(apply Aa.AV;rfl;rfl;rfl)|(apply Aa.box;rfl;trivial)|(apply Aa.Bd;rfl;rfl;rfl;trivial;rfl;rfl;exact Aj rfl;exact le_dec rfl)|(apply Aa.buildSlice;rfl;rfl;rfl;decide;rfl;rfl;rfl)|(apply Aa.not;rfl)|(apply Ad.Bc;rfl)|(apply Ad.Ae;rfl)|(intro _;try (exfalso;omega)))
  all_goals try (exfalso;omega)
  all_goals try contradiction
  apply Ad.EF (4) [(5,_),(74,_),(75,_)] [(2,_),(3,_)] (fun k r=>(7,.p (.int .i64 (wK w 0 k)))::(76,.p (.int .i64 (k:Int)))::r) (fun k r=>r) 4
  ·first|omega|decide
  ·first|omega|decide
  ·repeat (first|exact Ap.nil|(refine Ap.eq rfl ?_ ?_;(first|exact PV.Ac rfl|(simp [PV.under,AZ.under];done)))|refine Ap.cons trivial rfl (.of_eq (Au (by simp<;>omega))) ?_)
  ·repeat (first|exact Ak.nil|(refine Ak.eq rfl (Aj rfl) ?_ ?_;(first|exact HB.Ac rfl|exact AZ.Ag _ _|(simp [HB.under,AZ.under,PV.under];done)))|(refine Ak.cons (Aj rfl) ?_ rfl ?_ ?_;(first|exact trivial|exact AZ.Ag _ _|(simp [HB.under,AZ.under,PV.under]));(first|exact Bv.refl _|exact Bv.vec (Bl.refl _) (by simp))))
  ·intro k hk
   have e1:wK w 0 (k+1)=if wK w 0 k=0∧(gi (Eh w) k<0∨gi (Eh w) k>100000) then 3 else wK w 0 k:=rfl
   by_cases hcc:wK w 0 k=0∧(gi (Eh w) k<0∨gi (Eh w) k>100000)
   all_goals first|rw [if_pos hcc] at e1|rw [if_neg hcc] at e1
   all_goals
    repeat' (first|apply Ad.AA|apply Ad.region|apply Ad.Ar|apply Ad.Ai|apply AU.normal|apply AO.normal|apply Ad.skip|apply Af.nil|apply Af.one|(apply Af.take;rfl;rfl)|(apply Af.drop;rfl;rfl;rfl)|(apply Af.guard;rfl;rfl)|(apply Af.KF;rfl;rfl)|(apply Aa.BD (l:=Eh w) (i:=k);rfl;rfl;rfl;rfl;exact hk)|(apply Aa.BH (l:=Eh w) (i:=k);rfl;rfl;exact hk;rfl)|(apply Aa.assign;rfl)|(apply Aa.move;rfl)|(apply Aa.Bz;rfl;rfl;omega)|(apply Aa.int;rfl;rfl;rfl)|(apply Aa.Bo;rfl;rfl)|(apply Aa.AQ;rfl;rfl)|(apply Ad.Ae;rfl)|(apply Ad.cond_true;rfl)|(apply Ad.cond_false;rfl)|(apply Ad.AY;rfl)|(intro _;try (exfalso;omega)))
   all_goals try (exfalso;omega)
   all_goals
    refine Aw.normal ⟨by first|omega|decide,?_,?_⟩
    ·try (try rw [e1])
     repeat (first|exact Ap.nil|refine Ap.same (by exact PV.Ac rfl) rfl ?_|refine Ap.cons trivial rfl (.of_eq (Au (by simp<;>omega))) ?_)
    ·try rw [e1]
     repeat (first|exact Ak.nil|(refine Ak.cons (Aj rfl) ?_ rfl ?_ ?_;(first|exact HB.Ac rfl|exact AZ.Ag _ _|(simp [HB.under,AZ.under,PV.under]));(first|exact Bv.refl _|exact Bv.vec (Bl.refl _) (by simp))))
  ·rw [hW]
   repeat' (first|apply Ad.assoc|apply Ad.AA|apply Ad.Ar|apply Ad.A8|apply AU.normal|apply AO.exit|apply Aw.exit|apply Ad.ret|apply Af.nil|apply Af.one|(apply Af.take;rfl;rfl)|(apply Af.drop;rfl;rfl;rfl)|(apply Af.KF;rfl;rfl)|(apply Aa.fn;rfl;rfl;exact P9;intro _;rfl)|(apply Aa.fn;rfl;rfl;exact hL;intro _;rfl)|(apply Aa.fn;rfl;rfl;exact hB;intro _;rfl)|(apply Aa.fn;rfl;rfl;exact hC;intro _;rfl)|(apply Aa.fn;rfl;rfl;exact hD;intro _;rfl)|(apply Aa.fn;rfl;rfl;exact hV;intro _;rfl)|(apply Aa.assign;rfl)|(apply Aa.move;rfl)|(apply Aa.Bz;rfl;rfl;omega)|(apply Aa.int;rfl;rfl;rfl)|(apply Aa.load;rfl;rfl)|(apply Aa.Bo;rfl;rfl)|(apply Aa.AQ;rfl;rfl)|(apply Aa.RZ;rfl;rfl)|(apply Aa.AV;rfl;rfl;rfl)|(apply Aa.alloc;rfl)|(apply Aa.Bd;rfl;rfl;rfl;trivial;rfl;rfl;exact Aj rfl;exact le_dec rfl)|(apply Aa.build;rfl;rfl;rfl;rfl;rfl)|(apply Aa.extract;rfl;rfl)|(apply Ad.Az;rfl))
   all_goals try (exfalso;omega)
   all_goals try contradiction
   all_goals first|((refine Done.ret rfl (.refl _) (by exact PV.Ac rfl) Ak.nil (Nat.zero_le _) (Nat.le_refl _) ⟨?_,rfl,rfl⟩;try rfl);done)|(refine Done.ret rfl (.refl _) (by exact PV.Ac rfl) Ak.nil (Nat.zero_le _) (Nat.le_refl _) ⟨?_,rfl,rfl⟩;refine PV.Ir ?_;simp;done)
 by_cases e5:(Ce F r).length>60∨(Dj T).length>120
 case pos =>
  have hq:GK ⟨F,r,T,w⟩=4:=by unfold GK;rw [if_neg (fun h=>h e1),if_neg (fun h=>h e2),if_neg (fun h=>h e3),if_neg (fun h=>h e4),if_pos e5]
  have he:GK ⟨F,r,T,w⟩≠0:=by rw [hq];decide
  have hL:=EX lF.sm lT.sm hr he
  have hB:=Jd lF.sm lT.sm hr he
  have hC:=Ii lF.sm lT.sm hr he
  have hD:=FK lF.sm lT.sm hr he
  have hV:=GN lF.sm lT.sm hr he Uo rfl
  rw [hq] at P9 hL hB hC hD hV
  have hW:wK w 0 4=0:=by rw [iH,if_pos e4]
  repeat' (first|apply Ad.assoc|apply Ad.AA|apply Ad.Bj|apply Ad.Ar|apply Ad.Ai|apply Af.nil|apply Aq.nil|apply Af.one|(apply Aq.bar;decide +kernel)|apply Aq.quiet|(apply Af.take;rfl;rfl)|(apply Aa.fn;rfl;rfl;exact hkn;intro _;rfl)|(apply Aa.fn;rfl;rfl;exact hfs;intro _;rfl)|(apply Aa.fn;rfl;rfl;exact hm1;intro _;rfl)|(apply Aa.fn;rfl;rfl;exact hm2;intro _;rfl)|(apply Aa.fn;rfl;rfl;exact hF;intro _;rfl)|(apply Aa.fn;rfl;rfl;exact hT;intro _;rfl)|(apply Aa.fn;rfl;rfl;exact fP;intro _;rfl)|(apply Aa.fn;rfl;rfl;exact hcR;intro _;rfl)|(apply Aa.fn;rfl;rfl;exact xq;intro _;rfl)|(apply Aa.MW;rfl;rfl;rfl;rfl;rfl;decide)|(apply Aa.assign;rfl)|(apply Aa.move;rfl)|(apply Aa.int;rfl;rfl;rfl)|(apply Aa.load;rfl;rfl)|(apply Aa.AQ;rfl;rfl)|(apply Aa.BQ;rfl;rfl)|(apply Aa.lenV;rfl;rfl;rfl)|(apply Aa.AV;rfl;rfl;rfl)|(apply Aa.box;rfl;trivial)|(apply Aa.Bd;rfl;rfl;rfl;trivial;rfl;rfl;exact Aj rfl;exact le_dec rfl)|(apply Aa.buildSlice;rfl;rfl;rfl;decide;rfl;rfl;rfl)|(apply Aa.not;rfl)|(apply Ad.Bc;rfl)|(apply Ad.Ae;rfl)|(intro _;try (exfalso;omega)))
  all_goals try (exfalso;omega)
  all_goals try contradiction
  apply Ad.EF (4) [(5,_),(74,_),(75,_)] [(2,_),(3,_)] (fun k r=>(7,.p (.int .i64 (wK w 0 k)))::(76,.p (.int .i64 (k:Int)))::r) (fun k r=>r) 4
  ·first|omega|decide
  ·first|omega|decide
  ·repeat (first|exact Ap.nil|(refine Ap.eq rfl ?_ ?_;(first|exact PV.Ac rfl|(simp [PV.under,AZ.under];done)))|refine Ap.cons trivial rfl (.of_eq (Au (by simp<;>omega))) ?_)
  ·repeat (first|exact Ak.nil|(refine Ak.eq rfl (Aj rfl) ?_ ?_;(first|exact HB.Ac rfl|exact AZ.Ag _ _|(simp [HB.under,AZ.under,PV.under];done)))|(refine Ak.cons (Aj rfl) ?_ rfl ?_ ?_;(first|exact trivial|exact AZ.Ag _ _|(simp [HB.under,AZ.under,PV.under]));(first|exact Bv.refl _|exact Bv.vec (Bl.refl _) (by simp))))
  ·intro k hk
   have e1:wK w 0 (k+1)=if wK w 0 k=0∧(gi (Eh w) k<0∨gi (Eh w) k>100000) then 3 else wK w 0 k:=rfl
   by_cases hcc:wK w 0 k=0∧(gi (Eh w) k<0∨gi (Eh w) k>100000)
   all_goals first|rw [if_pos hcc] at e1|rw [if_neg hcc] at e1
   all_goals
    repeat' (first|apply Ad.AA|apply Ad.region|apply Ad.Ar|apply Ad.Ai|apply AU.normal|apply AO.normal|apply Ad.skip|apply Af.nil|apply Af.one|(apply Af.take;rfl;rfl)|(apply Af.drop;rfl;rfl;rfl)|(apply Af.guard;rfl;rfl)|(apply Af.KF;rfl;rfl)|(apply Aa.BD (l:=Eh w) (i:=k);rfl;rfl;rfl;rfl;exact hk)|(apply Aa.BH (l:=Eh w) (i:=k);rfl;rfl;exact hk;rfl)|(apply Aa.assign;rfl)|(apply Aa.move;rfl)|(apply Aa.Bz;rfl;rfl;omega)|(apply Aa.int;rfl;rfl;rfl)|(apply Aa.Bo;rfl;rfl)|(apply Aa.AQ;rfl;rfl)|(apply Ad.Ae;rfl)|(apply Ad.cond_true;rfl)|(apply Ad.cond_false;rfl)|(apply Ad.AY;rfl)|(intro _;try (exfalso;omega)))
   all_goals try (exfalso;omega)
   all_goals
    refine Aw.normal ⟨by first|omega|decide,?_,?_⟩
    ·try (try rw [e1])
     repeat (first|exact Ap.nil|refine Ap.same (by exact PV.Ac rfl) rfl ?_|refine Ap.cons trivial rfl (.of_eq (Au (by simp<;>omega))) ?_)
    ·try rw [e1]
     repeat (first|exact Ak.nil|(refine Ak.cons (Aj rfl) ?_ rfl ?_ ?_;(first|exact HB.Ac rfl|exact AZ.Ag _ _|(simp [HB.under,AZ.under,PV.under]));(first|exact Bv.refl _|exact Bv.vec (Bl.refl _) (by simp))))
  ·rw [hW]
   repeat' (first|apply Ad.assoc|apply Ad.AA|apply Ad.Ar|apply Ad.A8|apply AU.normal|apply AO.exit|apply Aw.exit|apply Ad.ret|apply Af.nil|apply Af.one|(apply Af.take;rfl;rfl)|(apply Af.drop;rfl;rfl;rfl)|(apply Af.guard;rfl;rfl)|(apply Aa.fn;rfl;rfl;exact P9;intro _;rfl)|(apply Aa.fn;rfl;rfl;exact hdr;intro _;rfl)|(apply Aa.fn;rfl;rfl;exact hls;intro _;rfl)|(apply Aa.fn;rfl;rfl;exact hL;intro _;rfl)|(apply Aa.fn;rfl;rfl;exact hB;intro _;rfl)|(apply Aa.fn;rfl;rfl;exact hC;intro _;rfl)|(apply Aa.fn;rfl;rfl;exact hD;intro _;rfl)|(apply Aa.fn;rfl;rfl;exact hV;intro _;rfl)|(apply Aa.assign;rfl)|(apply Aa.move;rfl)|(apply Aa.Bz;rfl;rfl;omega)|(apply Aa.int;rfl;rfl;rfl)|(apply Aa.load;rfl;rfl)|(apply Aa.Bo;rfl;rfl)|(apply Aa.AQ;rfl;rfl)|(apply Aa.BQ;rfl;rfl)|(apply Aa.RZ;rfl;rfl)|(apply Aa.AV;rfl;rfl;rfl)|(apply Aa.alloc;rfl)|(apply Aa.Bd;rfl;rfl;rfl;trivial;rfl;rfl;exact Aj rfl;exact le_dec rfl)|(apply Aa.build;rfl;rfl;rfl;rfl;rfl)|(apply Aa.extract;rfl;rfl)|(apply Ad.Bc;rfl)|(apply Ad.Az;rfl)|(apply Ad.Ae;rfl)|(intro _;try (exfalso;omega)))
   all_goals try (exfalso;omega)
   all_goals try contradiction
   all_goals first|((refine Done.ret rfl (.refl _) (by exact PV.Ac rfl) Ak.nil (Nat.zero_le _) (Nat.le_refl _) ⟨?_,rfl,rfl⟩;try rfl);done)|(refine Done.ret rfl (.refl _) (by exact PV.Ac rfl) Ak.nil (Nat.zero_le _) (Nat.le_refl _) ⟨?_,rfl,rfl⟩;refine PV.Ir ?_;simp;done)
 have hq:GK ⟨F,r,T,w⟩=0:=by unfold GK;rw [if_neg (fun h=>h e1),if_neg (fun h=>h e2),if_neg (fun h=>h e3),if_neg (fun h=>h e4),if_neg e5]
 rw [hq] at P9
 have hW:wK w 0 4=0:=by rw [iH,if_pos e4]
 repeat' (first|apply Ad.assoc|apply Ad.AA|apply Ad.Bj|apply Ad.Ar|apply Ad.Ai|apply Af.nil|apply Aq.nil|apply Af.one|(apply Aq.bar;decide +kernel)|apply Aq.quiet|(apply Af.take;rfl;rfl)|(apply Aa.fn;rfl;rfl;exact hkn;intro _;rfl)|(apply Aa.fn;rfl;rfl;exact hfs;intro _;rfl)|(apply Aa.fn;rfl;rfl;exact hm1;intro _;rfl)|(apply Aa.fn;rfl;rfl;exact hm2;intro _;rfl)|(apply Aa.fn;rfl;rfl;exact hF;intro _;rfl)|(apply Aa.fn;rfl;rfl;exact hT;intro _;rfl)|(apply Aa.fn;rfl;rfl;exact fP;intro _;rfl)|(apply Aa.fn;rfl;rfl;exact hcR;intro _;rfl)|(apply Aa.fn;rfl;rfl;exact xq;intro _;rfl)|(apply Aa.MW;rfl;rfl;rfl;rfl;rfl;decide)|(apply Aa.assign;rfl)|(apply Aa.move;rfl)|(apply Aa.int;rfl;rfl;rfl)|(apply Aa.load;rfl;rfl)|(apply Aa.AQ;rfl;rfl)|(apply Aa.BQ;rfl;rfl)|(apply Aa.lenV;rfl;rfl;rfl)|(apply Aa.AV;rfl;rfl;rfl)|(apply Aa.box;rfl;trivial)|(apply Aa.Bd;rfl;rfl;rfl;trivial;rfl;rfl;exact Aj rfl;exact le_dec rfl)|(apply Aa.buildSlice;rfl;rfl;rfl;decide;rfl;rfl;rfl)|(apply Aa.not;rfl)|(apply Ad.Bc;rfl)|(apply Ad.Ae;rfl)|(intro _;try (exfalso;omega)))
 all_goals try (exfalso;omega)
 all_goals try contradiction
 apply Ad.EF (4) [(5,_),(74,_),(75,_)] [(2,_),(3,_)] (fun k r=>(7,.p (.int .i64 (wK w 0 k)))::(76,.p (.int .i64 (k:Int)))::r) (fun k r=>r) 4
 ·first|omega|decide
 ·first|omega|decide
 ·repeat (first|exact Ap.nil|(refine Ap.eq rfl ?_ ?_;(first|exact PV.Ac rfl|(simp [PV.under,AZ.under];done)))|refine Ap.cons trivial rfl (.of_eq (Au (by simp<;>omega))) ?_)
 ·repeat (first|exact Ak.nil|(refine Ak.eq rfl (Aj rfl) ?_ ?_;(first|exact HB.Ac rfl|exact AZ.Ag _ _|(simp [HB.under,AZ.under,PV.under];done)))|(refine Ak.cons (Aj rfl) ?_ rfl ?_ ?_;(first|exact trivial|exact AZ.Ag _ _|(simp [HB.under,AZ.under,PV.under]));(first|exact Bv.refl _|exact Bv.vec (Bl.refl _) (by simp))))
 ·intro k hk
  have e1:wK w 0 (k+1)=if wK w 0 k=0∧(gi (Eh w) k<0∨gi (Eh w) k>100000) then 3 else wK w 0 k:=rfl
  by_cases hcc:wK w 0 k=0∧(gi (Eh w) k<0∨gi (Eh w) k>100000)
  all_goals first|rw [if_pos hcc] at e1|rw [if_neg hcc] at e1
  all_goals
   repeat' (first|apply Ad.AA|apply Ad.region|apply Ad.Ar|apply Ad.Ai|apply AU.normal|apply AO.normal|apply Ad.skip|apply Af.nil|apply Af.one|(apply Af.take;rfl;rfl)|(apply Af.drop;rfl;rfl;rfl)|(apply Af.guard;rfl;rfl)|(apply Af.KF;rfl;rfl)|(apply Aa.BD (l:=Eh w) (i:=k);rfl;rfl;rfl;rfl;exact hk)|(apply Aa.BH (l:=Eh w) (i:=k);rfl;rfl;exact hk;rfl)|(apply Aa.assign;rfl)|(apply Aa.move;rfl)|(apply Aa.Bz;rfl;rfl;omega)|(apply Aa.int;rfl;rfl;rfl)|(apply Aa.Bo;rfl;rfl)|(apply Aa.AQ;rfl;rfl)|(apply Ad.Ae;rfl)|(apply Ad.cond_true;rfl)|(apply Ad.cond_false;rfl)|(apply Ad.AY;rfl)|(intro _;try (exfalso;omega)))
  all_goals try (exfalso;omega)
  all_goals
   refine Aw.normal ⟨by first|omega|decide,?_,?_⟩
   ·try (try rw [e1])
    repeat (first|exact Ap.nil|refine Ap.same (by exact PV.Ac rfl) rfl ?_|refine Ap.cons trivial rfl (.of_eq (Au (by simp<;>omega))) ?_)
   ·try rw [e1]
    repeat (first|exact Ak.nil|(refine Ak.cons (Aj rfl) ?_ rfl ?_ ?_;(first|exact HB.Ac rfl|exact AZ.Ag _ _|(simp [HB.under,AZ.under,PV.under]));(first|exact Bv.refl _|exact Bv.vec (Bl.refl _) (by simp))))
 ·rw [hW]
  repeat' (first|apply Ad.assoc|apply Ad.AA|apply Ad.Ar|apply Ad.BI|apply Ad.A8|apply AU.normal|apply AO.exit|apply Aw.exit|apply Af.nil|apply Af.one|(apply Af.take;rfl;rfl)|(apply Af.guard;rfl;rfl)|(apply Aa.fn;rfl;rfl;exact P9;intro _;rfl)|(apply Aa.fn;rfl;rfl;exact hdr;intro _;rfl)|(apply Aa.fn;rfl;rfl;exact hls;intro _;rfl)|(apply Aa.assign;rfl)|(apply Aa.move;rfl)|(apply Aa.int;rfl;rfl;rfl)|(apply Aa.load;rfl;rfl)|(apply Aa.Bo;rfl;rfl)|(apply Aa.AQ;rfl;rfl)|(apply Aa.BQ;rfl;rfl)|(apply Aa.AV;rfl;rfl;rfl)|(apply Ad.Bc;rfl)|(apply Ad.Az;rfl)|(apply Ad.Ae;rfl)|(intro _;try (exfalso;omega)))
  all_goals try (exfalso;omega)
  all_goals try contradiction
  all_goals first|((refine Done.ret rfl (.refl _) (by exact PV.Ac rfl) Ak.nil (Nat.zero_le _) (Nat.le_refl _) ⟨?_,rfl,rfl⟩;try rfl);done)|(refine Done.ret rfl (.refl _) (by exact PV.Ac rfl) Ak.nil (Nat.zero_le _) (Nat.le_refl _) ⟨?_,rfl,rfl⟩;refine PV.Ir ?_;simp;done)
end Go.Proofs.YtdabojnmoejilaaGreatDoor
namespace Go.Vm
open Go.Am
section
variable {P:Program} {H:Type} {enc:TypeId×Value→H} {W:World} {held:Bool}
theorem a5o {r:Go.Reach} {b0 F K:Nat} {laid:List (String×DataW Unit)} {O:CJ} {f:FuncId} {ts:List TypeId} {args:Array Value} {ds:List (DataW H)} {ps:List MemPlace}
 (hL:laidMet P laid W) (hA:DataW.TrodAll enc P W 0 (fun _=>true) held ts args.toList ds ps) (hv:∀ (j:Nat) t v,ts[j]?=some t→args.toList[j]?=some v→Value.okWide P W r b0 t v)
 (aY:P.follows .mixedOrders=true) (hty:ts.all (SN P K)=true)
 (hO:Hg P (BP P F laid) O)
 (hp:∀ j iW xs,uw P (j+K) ts iW→Gj (fun (tf:TypeId×List FV) x=>Ua P tf.1 tf.2=some x) (ts.zip iW) xs→AX (Jv P F laid O) f xs (.p (.bool true))) :
 Calls P f args W fun e W'=>e=.returned (.bool true)∧Go.RowKit.Below W.heap.size W W':=by
 obtain ⟨N,hN⟩:=uj ts _ ds ps hA
 obtain ⟨j,hj⟩:∃ j,max N K=j+K:=⟨max N K-K,by omega⟩
 obtain ⟨us,m1,iW,xs,q1,q2,q3,q4,q5,q6⟩:=Sz ts _ ds (fun t ht=>kX (by omega) (List.all_eq_true.1 hty t ht)) (hN (max N K) (by omega)) (CY P F laid)
 rw [hj] at q2
 have bQ:Ctx (Jv P F laid O).Γ m1 (fun c=>c<m1.size) (fun _=>undef) [] 0:=by
  refine ⟨fun _ h=>h,fun b x hb=>(by cases hb),fun b b' x x' c hb=>(by cases hb),fun g vs e hg=>?_⟩
  simp only [Jv,gam] at hg
  split at hg
  ·rename_i hlt
   simp only [Option.map_eq_some_iff,Prod.mk.injEq] at hg
   obtain ⟨⟨e',l⟩,h1,rfl,rfl⟩:=hg
   have hlt':g<(CY P F laid).size:=by rw [QS];exact hlt
   exact ⟨by omega,by rw [q6 g hlt',Ji hlt,h1],Qq h1⟩
  ·cases hg
 obtain ⟨v,m',⟨K',hK⟩,r0,H',nx',F',σ',⟨rfl,_,_⟩,_,hrv,_⟩:=hp j iW xs q2 q3 m1 _ _ us bQ (DU.XY q4)
 have hv1:v=.bool true:=by cases hrv with|p h=>cases h;rfl
 subst hv1
 obtain ⟨ι,hs,hro⟩:=X6 (F:=F) hL
 obtain ⟨ι1,o1,o2,o3,o4⟩:=Rz ts _ ds ps hA hv ι _ m1 us hs hro q1
 refine ((Np hO aY K' f).1 us m1 _ m' (hK K' K' (Nat.le_refl _) (Nat.le_refl _)) ι1 W args o1 o4).mono fun e W' ⟨v',he,ι2,hx,hs2,QN⟩=>?_
 have:=QN.CB (v:=.bool true) rfl
 subst this
 exact ⟨he,⟨hx.os,hx.tape,hx.output,hx.heap,fun c hcl=>hx.frame c hcl fun b ib hb _=>.inl (o3 b (o1.dom b ib hb).1)⟩⟩
end
end Go.Vm
