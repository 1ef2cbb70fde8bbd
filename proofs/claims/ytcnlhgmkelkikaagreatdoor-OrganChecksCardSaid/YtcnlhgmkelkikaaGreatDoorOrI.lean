/-
  The law of organs: what Make returns is right. Conditions: in each statement.
-/
import Derived.Test.YtcnlhgmkelkikaaGreatDoorOrH
set_option linter.unusedSimpArgs false
set_option linter.unusedVariables false
namespace Go.Proofs.YtcnlhgmkelkikaaGreatDoor
open Go Go.Am Go.Vm
attribute [local irreducible] VVal VOps VOpsD VWp VCalls VFun VFunV QSeq QBlk QLoop Vm.Done DoneV DoneI
attribute [local irreducible] mkR pullS rchk windsE shiftR
theorem divsK_gi (rk:List Rnk) (l:List Brd):∀ k i,i<k→gi (divsK rk l k) i=divK rk (gi l i) i
 |k+1,i,h=>by
  simp only [divsK,gi_snoc,divsK_len]
  by_cases h1:i<k
  ·rw [if_pos h1];exact divsK_gi rk l k i h1
  ·obtain rfl:i=k:=by omega
   simp
theorem stopsK_gi (rk:List Rnk) (lo hi:Int) (l:List Pul):∀ k i,i<k→gi (stopsK rk lo hi l k) i=pullS rk lo hi (gi l i) i
 |k+1,i,h=>by
  simp only [stopsK,gi_snoc,stopsK_len]
  by_cases h1:i<k
  ·rw [if_pos h1];exact stopsK_gi rk lo hi l k i h1
  ·obtain rfl:i=k:=by omega
   simp
theorem cplsK_gi (n:Nat) (l:List Lnk):∀ k i,i<k→gi (cplsK n l k) i=lnkC n (gi l i) i
 |k+1,i,h=>by
  simp only [cplsK,gi_snoc,cplsK_len]
  by_cases h1:i<k
  ·rw [if_pos h1];exact cplsK_gi n l k i h1
  ·obtain rfl:i=k:=by omega
   simp
theorem brd_ok (b:Brd):0≤brdLo b∧brdLo b≤brdHi b∧brdHi b≤127:=by unfold brdHi brdLo;omega
structure OrgT (o:Org):Prop where
 sm:OrgSm o
 ranks:1≤o.ranks.length∧o.ranks.length≤3
 divs:1≤o.divs.length∧o.divs.length≤3
 cpls:o.cpls.length≤3
 stops:∀ i,i<o.divs.length→(gi o.divs i).stops.length≤3
 rk:RksOk o.ranks
 dv:∀ i,i<o.divs.length→0≤(gi o.divs i).lo∧(gi o.divs i).lo≤(gi o.divs i).hi∧(gi o.divs i).hi≤127
 dn:∀ i,i<o.divs.length→(gi o.divs i).name=nmI 68 i
 st:∀ i,i<o.divs.length→∀ j,j<(gi o.divs i).stops.length→stoE o.ranks (gi o.divs i).lo (gi o.divs i).hi (gi (gi o.divs i).stops j)=0∧(gi (gi o.divs i).stops j).name=nmI 83 j
 cp:∀ i,i<o.cpls.length→CplOk o.divs.length (gi o.cpls i)∧(gi o.cpls i).name=nmI 67 i
 rn:∀ i,i<o.ranks.length→(gi o.ranks i).name=nmI 82 i
 nm:o.name=[79,114,103,97,110]
theorem lnkC_ok (n:Nat) (c:Lnk) (k:Nat) (hn:1≤n) (hc:c.Ok) (hk:k<10):CplOk n (lnkC n c k):=by
 obtain ⟨c1,c2,c3⟩:=hc
 have m1:=Int.emod_nonneg (c.frm:Int) (show (n:Int)≠0 by omega)
 have m2:=Int.emod_lt_of_pos (c.frm:Int) (show 0<(n:Int) by omega)
 have m3:=Int.emod_nonneg (c.tgt:Int) (show (n:Int)≠0 by omega)
 have m4:=Int.emod_lt_of_pos (c.tgt:Int) (show 0<(n:Int) by omega)
 refine ⟨nmI_ok (by decide) hk,⟨m1,m2⟩,⟨m3,m4⟩,?_,?_⟩
 ·have e:(lnkC n c k).shift=if (c.frm:Int) % n=(c.tgt:Int) % n∧c.shift.tmod 25=0 then 12 else c.shift.tmod 25:=rfl
  rw [e]
  split
  ·omega
  ·have:=Int.tmod_lt_of_pos c.shift (show (0:Int)<25 by decide)
   have:=Int.lt_tmod_of_pos c.shift (show (0:Int)<25 by decide)
   omega
 ·show ¬ ((c.frm:Int) % n=(c.tgt:Int) % n∧(if (c.frm:Int) % n=(c.tgt:Int) % n∧c.shift.tmod 25=0 then (12:Int) else c.shift.tmod 25)=0)
  intro h
  obtain ⟨h1,h2⟩:=h
  by_cases h3:c.shift.tmod 25=0
  ·rw [if_pos ⟨h1,h3⟩] at h2;omega
  ·rw [if_neg (fun h=>h3 h.2)] at h2;exact h3 h2
theorem mkR_sm (x:RPlan) (i:Int):RnkSm (mkR x i):=by
 have h:=mkR_len x i
 have w:=mkR_wind x i
 unfold mkR at h w ⊢
 refine ⟨by simp,?_,by omega⟩
 have:(gi tones (x.tone % 3)).length≤5:=gi_lt (P:=fun l:List UInt8=>l.length≤5) (by decide) (show x.tone % 3<tones.length from Nat.mod_lt _ (by decide))
 show (gi tones (x.tone % 3)).length<_
 omega
theorem mkR_name (x:RPlan) (i:Nat) (hi:i<10):(mkR x i).name=nmI 82 i:=by
 unfold mkR nmI
 show [82,UInt8.ofNat (48+(i:Int) % 10).toNat]=_
 rw [show (i:Int) % 10=i by omega]
theorem mkO_t (x:OPl) (hx:x.Ok) (hf:fitsP x):OrgT (mkO x):=by
 obtain ⟨hf1,hf2,hf3,hf4⟩:=hf
 have hR:=ranksK_ok hx.ranks (by omega)
 have e1:(mkO x).ranks=ranksK x.ranks x.ranks.length:=rfl
 have e2:(mkO x).divs=divsK (ranksK x.ranks x.ranks.length) x.divs x.divs.length:=rfl
 have e3:(mkO x).cpls=cplsK x.divs.length x.links x.links.length:=rfl
 have e4:(mkO x).name=[79,114,103,97,110]:=rfl
 have rn:∀ i,i<x.ranks.length→gi (ranksK x.ranks x.ranks.length) i=mkR (gi x.ranks i) (i:Int):=ranksK_gi _ _
 generalize hRR:ranksK x.ranks x.ranks.length=R at *
 have hRl:R.length=x.ranks.length:=by rw [← hRR,ranksK_len]
 have dl:=divsK_len R x.divs x.divs.length
 have cl:=cplsK_len x.divs.length x.links x.links.length
 have dg:∀ i,i<x.divs.length→gi (divsK R x.divs x.divs.length) i=divK R (gi x.divs i) i:=divsK_gi _ _ _
 have cg:∀ i,i<x.links.length→gi (cplsK x.divs.length x.links x.links.length) i=lnkC x.divs.length (gi x.links i) i:=cplsK_gi _ _ _
 have ds:∀ b k,(divK R b k).stops=stopsK R (brdLo b) (brdHi b) b.stops b.stops.length:=fun _ _=>rfl
 have sp:∀ i,i<x.divs.length→∀ j,j<(gi x.divs i).stops.length→gi (stopsK R (brdLo (gi x.divs i)) (brdHi (gi x.divs i)) (gi x.divs i).stops (gi x.divs i).stops.length) j=pullS R (brdLo (gi x.divs i)) (brdHi (gi x.divs i)) (gi (gi x.divs i).stops j) j∧pullP R (brdLo (gi x.divs i)) (brdHi (gi x.divs i)) (gi (gi x.divs i).stops j) j (pullS R (brdLo (gi x.divs i)) (brdHi (gi x.divs i)) (gi (gi x.divs i).stops j) j):=fun i hi j hj =>
  ⟨stopsK_gi _ _ _ _ _ _ hj,pullS_spec R _ _ _ j hR (brd_ok _) ((hx.divs i hi).all j hj) (by have:=hf4 i hi;omega)⟩
 refine ⟨⟨by rw [e4];simp,by rw [e1];omega,by rw [e2];omega,by rw [e3];omega,fun i hi=>?_,fun i hi=>?_,fun i hi=>?_⟩,by rw [e1];omega,by rw [e2];omega,by rw [e3];omega,fun i hi=>?_,by rw [e1];exact hR,fun i hi=>?_,fun i hi=>?_,fun i hi j hj=>?_,fun i hi=>?_,fun i hi=>?_,e4⟩
 ·rw [e1] at hi ⊢;rw [rn i (by omega)];exact mkR_sm _ _
 ·rw [e2] at hi ⊢;rw [dg i (by omega)]
  refine ⟨by simp [divK,nmI],by rw [ds,stopsK_len];have:=hf4 i (by omega);omega,fun j hj=>?_⟩
  rw [ds,stopsK_len] at hj
  rw [ds,(sp i (by omega) j hj).1]
  exact (sp i (by omega) j hj).2.2.2.2
 ·rw [e3] at hi ⊢;rw [cg i (by omega)];simp [lnkC,nmI]
 ·rw [e2] at hi ⊢;rw [dg i (by omega),ds,stopsK_len];exact hf4 i (by omega)
 ·rw [e2] at hi ⊢;rw [dg i (by omega)];exact brd_ok _
 ·rw [e2] at hi ⊢;rw [dg i (by omega)];rfl
 ·rw [e2] at hi hj ⊢;rw [dg i (by omega),ds,stopsK_len] at hj;rw [e1,dg i (by omega),ds,(sp i (by omega) j hj).1]
  exact ⟨(sp i (by omega) j hj).2.2.2.1,(sp i (by omega) j hj).2.2.1⟩
 ·rw [e3] at hi ⊢;rw [e2,dl,cg i (by omega)]
  exact ⟨lnkC_ok _ _ _ (by omega) (hx.links i (by omega)) (by omega),rfl⟩
 ·rw [e1] at hi ⊢;rw [rn i (by omega)];exact mkR_name _ _ (by omega)
theorem org_ok:nameOk [79,114,103,97,110]:=by
 refine ⟨by decide,by decide,by decide,fun i h1 h2=>?_⟩
 have:i=1∨i=2∨i=3∨i=4:=by simp at h2;omega
 rcases this with rfl|rfl|rfl|rfl<;>exact .inl (by decide)
theorem OrgT.ok {o:Org} (h:OrgT o):orgE o=0:=by
 have r1:=h.ranks
 have d1:=h.divs
 have c1:=h.cpls
 unfold orgE
 rw [if_neg (fun h'=>h' (h.nm▸org_ok)),if_neg (by omega)]
 have hr:rnkE o.ranks 0=0:=rnkE_zero (fun i hi=>⟨(h.rk.ok i hi).1,nm_new (c:=82) (by omega) h.rn hi⟩) _ 0 rfl
 rw [if_neg (fun h'=>h' hr),if_neg (by omega),if_neg (by omega)]
 have hd:divsE o.ranks o.divs 0=0:=divsE_zero (fun i hi=>by
  have s1:=h.stops i hi
  refine ⟨by rw [h.dn i hi];exact nmI_ok (by decide) (by omega),nm_new (c:=68) (by omega) h.dn hi,?_⟩
  unfold dvsE
  rw [cmpE_zero (h.dv i hi),if_neg (fun h=>h rfl),if_neg (by omega)]
  exact stosE_zero (fun j hj=>⟨(h.st i hi j hj).1,nm_new (c:=83) (by omega) (fun a ha=>(h.st i hi a ha).2) hj⟩) _ 0 rfl) _ 0 rfl
 rw [if_neg (fun h'=>h' hd)]
 unfold cplE
 rw [if_neg (by simp only [List.length_map];omega)]
 have hc:cpsE (o.divs.map fun d=>⟨d.lo,d.hi⟩) 0=0:=cpsE_zero (fun i hi=>by
  rw [List.length_map] at hi
  have e:gi (o.divs.map fun d=>(⟨d.lo,d.hi⟩:Cps)) i=⟨(gi o.divs i).lo,(gi o.divs i).hi⟩:=by simp [gi,List.getElem?_eq_getElem hi]
  rw [e]
  exact cmpE_zero (h.dv i hi)) _ 0 rfl
 rw [if_neg (fun h'=>h' hc),List.length_map]
 exact cplsE_zero (fun i hi=>⟨(h.cp i hi).1,nm_new (c:=67) (by omega) (fun a ha=>(h.cp a ha).2) hi⟩) _ 0 rfl
end Go.Proofs.YtcnlhgmkelkikaaGreatDoor
