/-
  Organs: when the checks find nothing. Plain facts. Conditions: in each statement.
-/
import Derived.Test.YtcnlhgmkelkikaaGreatDoorOrA
set_option linter.unusedSimpArgs false
set_option linter.unusedVariables false
namespace Go.Proofs.YtcnlhgmkelkikaaGreatDoor
open Go Go.Am Go.Vm
theorem rksE_zero {l:List Rnk} (h:∀ i,i<l.length→rchk (gi l i)=0):∀ n k,l.length-k=n→rksE l k=0
 |0,k,hk=>by rw [rksE,if_neg (by omega)]
 |n+1,k,hk=>by
  rw [rksE,if_pos (by omega),if_neg (fun h'=>h' (h k (by omega)))]
  exact rksE_zero h n (k+1) (by omega)
theorem rnkE_zero {l:List Rnk} (h:∀ i,i<l.length→rchk (gi l i)=0∧(gi l i).name∉(l.take i).map Rnk.name):∀ n k,l.length-k=n→rnkE l k=0
 |0,k,hk=>by rw [rnkE,if_neg (by omega)]
 |n+1,k,hk=>by
  obtain ⟨h1,h2⟩:=h k (by omega)
  rw [rnkE,if_pos (by omega),if_neg (fun h'=>h' h1),if_neg h2]
  exact rnkE_zero h n (k+1) (by omega)
theorem stosE_zero {rk:List Rnk} {lo hi:Int} {l:List Stp} (h:∀ i,i<l.length→stoE rk lo hi (gi l i)=0∧(gi l i).name∉(l.take i).map Stp.name):∀ n k,l.length-k=n→stosE rk lo hi l k=0
 |0,k,hk=>by rw [stosE,if_neg (by omega)]
 |n+1,k,hk=>by
  obtain ⟨h1,h2⟩:=h k (by omega)
  rw [stosE,if_pos (by omega),if_neg (fun h'=>h' h1),if_neg h2]
  exact stosE_zero h n (k+1) (by omega)
theorem divsE_zero {rk:List Rnk} {l:List Dvs} (h:∀ i,i<l.length→nameOk (gi l i).name∧(gi l i).name∉(l.take i).map Dvs.name∧dvsE rk (gi l i)=0):∀ n k,l.length-k=n→divsE rk l k=0
 |0,k,hk=>by rw [divsE,if_neg (by omega)]
 |n+1,k,hk=>by
  obtain ⟨h1,h2,h3⟩:=h k (by omega)
  rw [divsE,if_pos (by omega),if_neg (fun h'=>h' h1),if_neg h2,if_neg (fun h'=>h' h3)]
  exact divsE_zero h n (k+1) (by omega)
theorem cpsE_zero {l:List Cps} (h:∀ i,i<l.length→cmpE (gi l i).lo (gi l i).hi=0):∀ n k,l.length-k=n→cpsE l k=0
 |0,k,hk=>by rw [cpsE,if_neg (by omega)]
 |n+1,k,hk=>by
  rw [cpsE,if_pos (by omega),if_neg (fun h'=>h' (h k (by omega)))]
  exact cpsE_zero h n (k+1) (by omega)
structure CplOk (n:Nat) (c:Cpl):Prop where
 name:nameOk c.name
 frm:0≤c.frm∧c.frm<n
 tgt:0≤c.tgt∧c.tgt<n
 shift:-127≤c.shift∧c.shift≤127
 form:¬ (c.frm=c.tgt∧c.shift=0)
theorem cplsE_zero {m:Nat} {l:List Cpl} (h:∀ i,i<l.length→CplOk m (gi l i)∧(gi l i).name∉(l.take i).map Cpl.name):∀ n k,l.length-k=n→cplsE m l k=0
 |0,k,hk=>by rw [cplsE,if_neg (by omega)]
 |n+1,k,hk=>by
  obtain ⟨⟨h1,h2,h3,h4,h5⟩,h6⟩:=h k (by omega)
  rw [cplsE,if_pos (by omega),if_neg (fun h'=>h' h1),if_neg h6,if_neg (by omega),if_neg (by omega),if_neg h5]
  exact cplsE_zero h n (k+1) (by omega)
structure DrwOk (n:Nat) (d:Drw):Prop where
 rank:0≤d.rank∧d.rank<n
 shift:-127≤d.shift∧d.shift≤127
theorem drwsE_zero {m:Nat} {l:List Drw} (h:∀ i,i<l.length→DrwOk m (gi l i)∧gi l i∉l.take i):∀ n k,l.length-k=n→drwsE m l k=0
 |0,k,hk=>by rw [drwsE,if_neg (by omega)]
 |n+1,k,hk=>by
  obtain ⟨⟨h1,h2⟩,h3⟩:=h k (by omega)
  rw [drwsE,if_pos (by omega),if_neg (by omega),if_neg (by omega),if_neg h3]
  exact drwsE_zero h n (k+1) (by omega)
theorem drwE_one {m:Nat} {d:Drw} (h:DrwOk m d):drwE m [d]=0:=by
 unfold drwE
 rw [if_neg (by simp)]
 exact drwsE_zero (fun i hi=>by
  obtain rfl:i=0:=by simp at hi;omega
  exact ⟨h,by simp⟩) _ 0 rfl
theorem drwE_two {m:Nat} {d e:Drw} (h:DrwOk m d) (h':DrwOk m e) (hn:e≠d):drwE m [d,e]=0:=by
 unfold drwE
 rw [if_neg (by simp)]
 refine drwsE_zero (fun i hi=>?_) _ 0 rfl
 have:i=0∨i=1:=by simp at hi;omega
 rcases this with rfl|rfl
 ·exact ⟨h,by simp⟩
 ·exact ⟨h',by simpa [gi] using hn⟩
theorem cmpE_zero {lo hi:Int} (h:0≤lo∧lo≤hi∧hi≤127):cmpE lo hi=0:=by
 unfold cmpE
 rw [if_neg (by omega),if_neg (by omega)]
theorem plcE_zero {l:List Rnk} {lo hi:Int} (h:∀ i,i<l.length→rchk (gi l i)=0) (hl:l.length≤60) (hc:0≤lo∧lo≤hi∧hi≤127):plcE l lo hi=0:=by
 unfold plcE
 rw [if_neg (by omega),if_neg (fun h'=>h' (rksE_zero h _ 0 rfl)),cmpE_zero hc]
structure SegOk (n:Nat) (lo hi:Int) (g:Seg):Prop where
 pl:lo≤g.lo∧g.lo≤g.hi∧g.hi≤hi
 draws:drwE n g.draws=0
theorem segsE_zero {m:Nat} {lo hi:Int} {l:List Seg} (h:∀ i,i<l.length→SegOk m lo hi (gi l i)∧(0<i→(gi l (i-1)).hi<(gi l i).lo)):∀ n k,l.length-k=n→segsE m lo hi l k=0
 |0,k,hk=>by rw [segsE,if_neg (by omega)]
 |n+1,k,hk=>by
  obtain ⟨⟨h1,h2⟩,h3⟩:=h k (by omega)
  rw [segsE,if_pos (by omega),if_neg (by omega),if_neg (fun h'=>by
   rcases h' with h'|⟨h4,h5⟩
   ·omega
   ·have:=h3 h4;omega),if_neg (fun h'=>h' h2)]
  exact segsE_zero h n (k+1) (by omega)
theorem segsE_one {n:Nat} {lo hi:Int} {s:Seg} (h1:lo≤s.lo∧s.lo≤s.hi∧s.hi≤hi) (h2:drwE n s.draws=0):segsE n lo hi [s] 0=0 :=
 segsE_zero (fun i hi=>by
  obtain rfl:i=0:=by simp at hi;omega
  exact ⟨⟨h1,h2⟩,fun h=>by omega⟩) _ 0 rfl
theorem segsE_two {n:Nat} {lo hi:Int} {s t:Seg} (h1:lo≤s.lo∧s.lo≤s.hi∧s.hi<t.lo∧t.lo≤t.hi∧t.hi≤hi) (h2:drwE n s.draws=0) (h3:drwE n t.draws=0):segsE n lo hi [s,t] 0=0 :=
 segsE_zero (fun i hi=>by
  have:i=0∨i=1:=by simp at hi;omega
  rcases this with rfl|rfl
  ·exact ⟨⟨⟨h1.1,h1.2.1,show s.hi≤_ by omega⟩,h2⟩,fun h=>by omega⟩
  ·exact ⟨⟨⟨show lo≤t.lo by omega,h1.2.2.2⟩,h3⟩,fun _=>h1.2.2.1⟩) _ 0 rfl
def nmI (c:UInt8) (i:Int):List UInt8:=[c,UInt8.ofNat (48+i).toNat]
theorem nmI_inj {c:UInt8} {i j:Nat} (hi:i<10) (hj:j<10) (h:nmI c i=nmI c j):i=j:=by
 simp only [nmI,List.cons.injEq,and_true,true_and] at h
 have:=congrArg UInt8.toNat h
 rw [UInt8.toNat_ofNat',UInt8.toNat_ofNat'] at this
 omega
theorem nmI_ok {c:UInt8} (hc:isL c.toNat) {i:Nat} (hi:i<10):nameOk (nmI c i):=by
 refine ⟨by simp [nmI],by simp [nmI],hc,fun j h1 h2=>?_⟩
 obtain rfl:j=1:=by simp [nmI] at h2;omega
 have e:(gi (nmI c i) 1).toNat=48+i:=by
  show (UInt8.ofNat (48+(i:Int)).toNat).toNat=_
  rw [UInt8.toNat_ofNat'];omega
 rw [e]
 right;left;omega
theorem nm_new {α:Type} [Inhabited α] {f:α→List UInt8} {c:UInt8} {l:List α} (hl:l.length≤10) (h:∀ i,i<l.length→f (gi l i)=nmI c i) {k:Nat} (hk:k<l.length):f (gi l k)∉(l.take k).map f:=by
 intro hm
 rw [List.mem_map] at hm
 obtain ⟨a,ha,he⟩:=hm
 obtain ⟨j,hj,e⟩:=List.getElem_of_mem ha
 rw [List.length_take] at hj
 have e2:a=gi l j:=by
  rw [← e,List.getElem_take]
  simp [gi,List.getElem?_eq_getElem (show j<l.length by omega)]
 rw [e2,h j (by omega),h k hk] at he
 have:=nmI_inj (by omega) (by omega) he
 omega
end Go.Proofs.YtcnlhgmkelkikaaGreatDoor
