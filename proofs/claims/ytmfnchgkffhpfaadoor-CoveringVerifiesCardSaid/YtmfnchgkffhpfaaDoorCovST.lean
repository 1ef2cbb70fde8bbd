/-
  Plain mathematics of the bounds of the search: weights of elements, weak duality below a state. No program in sight. Conditions: in each statement.
-/
import Derived.Test.YtmfnchgkffhpfaaDoorCovR
set_option linter.unusedSimpArgs false
set_option linter.unusedVariables false
set_option linter.unusedSectionVars false
namespace Go.Proofs.YtmfnchgkffhpfaaDoor
open Go Go.Am Go.Vm
theorem cover_sum2 (L:List CSet) (s:List Int) (ws:List Int) (n:Nat) (hw:∀ i,i<n→0≤gi ws i) (hs:∀ i,i<s.length→0≤gi s i∧gi s i<L.length) (hb:∀ i,i<L.length→∀ j,j<(gi L i).els.length→0≤gi (gi L i).els j∧gi (gi L i).els j<n)
 (hc:∀ i,i<s.length→weighK (gi L (gi s i).toNat) ws (gi L (gi s i).toNat).els.length≤(gi L (gi s i).toNat).cost):∀ k,k≤s.length→sumF (fun x=>if hasK L s x k=true then gi ws x else 0) n≤costK L s k
 |0,_=>by simp [costK,hasK,sumF_zero]
 |k+1,hk=>by
  have ih:=cover_sum2 L s ws n hw hs hb hc k (by omega)
  have h1:=hs k (by omega)
  have h2:=set_sum (gi L (gi s k).toNat) ws n hw (fun j hj=>hb _ (by omega) j hj) _ (Nat.le_refl _)
  have h3:=hc k (by omega)
  rw [List.take_length] at h2
  have h4:sumF (fun x=>if hasK L s x (k+1)=true then gi ws x else 0) n≤sumF (fun x=>(if hasK L s x k=true then gi ws x else 0)+(if (x:Int)∈(gi L (gi s k).toNat).els then gi ws x else 0)) n:=by
   refine sumF_le fun x hx=>?_
   have:=hw x hx
   simp only [hasK,Bool.or_eq_true,decide_eq_true_eq]
   by_cases a:hasK L s x k=true<;>by_cases b:(x:Int)∈(gi L (gi s k).toNat).els<;>simp [a,b]<;>omega
  rw [sumF_add] at h4
  simp only [costK]
  omega
theorem dual_below {L:List CSet} {n:Nat} {A C:List Int} {ws:List Int} (hb:∀ i,i<L.length→∀ j,j<(gi L i).els.length→0≤gi (gi L i).els j∧gi (gi L i).els j<n) (hw:∀ i,i<n→0≤gi ws i) (hz:∀ x:Nat,x<n→0<gi ws x→hasK L A x A.length=false)
 (hC:∀ x,x∈C→0≤x∧x<L.length) (hc:∀ x,x∈C→weighK (gi L x.toNat) ws (gi L x.toNat).els.length≤(gi L x.toNat).cost) (hm:missK L (A++C) n=[]):sumK ws n≤cst L C:=by
 rw [sumK_sumF]
 refine Int.le_trans (sumF_le fun x hx=>?_) (cover_sum2 L C ws n hw (fun i hi=>hC _ (gi_mem hi)) hb (fun i hi=>hc _ (gi_mem hi)) C.length (Nat.le_refl _))
 have h0:=hw x hx
 by_cases hp:0<gi ws x
 ·have h1:=hz x hx hp
  have h2:∃ y,y∈A++C∧(x:Int)∈(gi L y.toNat).els:=Classical.byContradiction fun h=>by
   have:(x:Int)∈missK L (A++C) n:=missK_mem.2 ⟨by omega,by omega,h⟩
   rw [hm] at this;cases this
  obtain ⟨y,h2,h3⟩:=h2
  rcases List.mem_append.1 h2 with h2|h2
  ·have:=(hasA_iff L A x).2 ⟨y,h2,h3⟩
   rw [h1] at this;cases this
  ·rw [if_pos ((hasA_iff L C x).2 ⟨y,h2,h3⟩)];exact Int.le_refl _
 ·split<;>omega
structure CSt where
 taken:Nat
 out:Nat
 cov:Nat
 cost:Int
instance:Enc CSt:={ default:=⟨0,0,0,0⟩,enc:=fun s=>[.int .u64 s.taken,.int .u64 s.out,.int .u64 s.cov,.int .i64 s.cost],size:=4,len:=fun _=>rfl }
def CSt.ok (x:CSt):Prop:=x.taken<128∧x.out<128∧x.cov<128∧0≤x.cost∧x.cost≤1000000000
def takeS (L:List CSet) (x:CSt) (i:Nat):CSt:=⟨x.taken ||| 2 ^ i,x.out,x.cov ||| wordC (gi L i),x.cost+(gi L i).cost⟩
def leaveS (x:CSt) (i:Nat):CSt:=⟨x.taken,x.out ||| 2 ^ i,x.cov,x.cost⟩
def freeB (L:List CSet) (x:CSt) (e j:Nat):Bool:=!(x.taken ||| x.out).testBit j&&(wordC (gi L j)).testBit e
def freeK (L:List CSet) (x:CSt) (e k:Nat):List Int:=(allL k).filter fun j=>freeB L x e j.toNat
theorem freeK_succ (L:List CSet) (x:CSt) (e k:Nat):freeK L x e (k+1)=if freeB L x e k=true then freeK L x e k++[(k:Int)] else freeK L x e k:=by
 unfold freeK
 rw [allL_succ,List.filter_append]
 by_cases h:freeB L x e k=true
 ·rw [if_pos h];simp [h]
 ·rw [if_neg h];simp [h]
theorem freeK_len (L:List CSet) (x:CSt) (e k:Nat):(freeK L x e k).length≤k:=by
 have:=List.length_filter_le (fun j:Int=>freeB L x e j.toNat) (allL k)
 rw [allL_len] at this
 exact this
theorem freeK_mem {L:List CSet} {x:CSt} {e k:Nat} {j:Int}:j∈freeK L x e k↔0≤j∧j<k∧freeB L x e j.toNat=true:=by
 unfold freeK
 rw [List.mem_filter,allL_mem]
 exact ⟨fun h=>⟨h.1.1,h.1.2,h.2⟩,fun h=>⟨⟨h.1,h.2.1⟩,h.2.2⟩⟩
theorem freeK_gi {L:List CSet} {x:CSt} {e k i:Nat} (h:i<(freeK L x e k).length):0≤gi (freeK L x e k) i∧gi (freeK L x e k) i<k:=by
 have:=freeK_mem.1 (gi_mem h)
 exact ⟨this.1,this.2.1⟩
def minK (rest ch:List Int):Nat→Int
 |0=>1000000
 |k+1=>min (minK rest ch k) (gi rest (gi ch k).toNat)
def subK (rest ch:List Int) (w:Int):Nat→List Int
 |0=>rest
 |k+1=>(subK rest ch w k).set (gi ch k).toNat (gi (subK rest ch w k) (gi ch k).toNat-w)
theorem subK_len (rest ch:List Int) (w:Int):∀ k,(subK rest ch w k).length=rest.length
 |0=>rfl
 |k+1=>by simp only [subK,List.length_set,subK_len rest ch w k]
theorem gi_set {l:List Int} {i j:Nat} {v:Int} (h:i<l.length):gi (l.set i v) j=if j=i then v else gi l j:=by
 unfold gi
 rw [List.getElem?_set]
 by_cases e:i=j
 ·subst e;rw [if_pos rfl,if_pos h,if_pos rfl];rfl
 ·rw [if_neg e,if_neg (fun h=>e h.symm)]
theorem minK_le {rest ch:List Int}:∀ k,minK rest ch k≤1000000∧∀ i,i<k→minK rest ch k≤gi rest (gi ch i).toNat
 |0=>⟨Int.le_refl _,fun i h=>by omega⟩
 |k+1=>by
  obtain ⟨h1,h2⟩:=minK_le (rest:=rest) (ch:=ch) k
  simp only [minK]
  refine ⟨by omega,fun i hi=>?_⟩
  by_cases e:i=k
  ·subst e;omega
  ·have:=h2 i (by omega);omega
theorem minK_ge {rest ch:List Int} (h:∀ i,i<ch.length→0≤gi rest (gi ch i).toNat):∀ k,k≤ch.length→0≤minK rest ch k
 |0,_=>by simp [minK]
 |k+1,hk=>by
  have h1:=minK_ge h k (by omega)
  have h2:=h k (by omega)
  simp only [minK];omega
theorem subK_gi {rest ch:List Int} {w:Int} (hs:ch.Pairwise (·<·)) (hr:∀ x,x∈ch→0≤x∧x<rest.length):∀ k,k≤ch.length→∀ j:Nat,gi (subK rest ch w k) j=gi rest j-if (j:Int)∈ch.take k then w else 0
 |0,_,j=>by simp [subK]
 |k+1,hk,j=>by
  have ih:=subK_gi (w:=w) hs hr k (by omega)
  have hm:=hr _ (gi_mem (l:=ch) (i:=k) (by omega))
  simp only [subK]
  rw [gi_set (by rw [subK_len];omega),ih,ih]
  have hmt:=mem_take_succ (l:=ch) (x:=(j:Int)) (k:=k) (by omega)
  by_cases e:j=(gi ch k).toNat
  ·have e2:(j:Int)=gi ch k:=by omega
   rw [if_pos e,if_pos (hmt.2 (.inr e2)),← e]
   have hno:(j:Int)∉ch.take k:=by
    intro hin
    rw [e2] at hin
    obtain ⟨i,hi,e3⟩:=List.getElem_of_mem hin
    rw [List.length_take] at hi
    rw [List.getElem_take] at e3
    have:=sorted_gi hs (i:=i) (j:=k) (by omega) (by omega)
    rw [gi_eq (by omega),e3] at this
    omega
   rw [if_neg hno]<;>omega
  ·rw [if_neg e]
   have e2:¬ (j:Int)=gi ch k:=by omega
   by_cases hin:(j:Int)∈ch.take k
   ·rw [if_pos hin,if_pos (hmt.2 (.inl hin))]
   ·rw [if_neg hin,if_neg (fun h=>(hmt.1 h).elim hin e2)]
theorem weigh_set {c:CSet} {l:List Int} {e:Nat} {w:Int} (he:e<l.length) (hs:c.els.Pairwise (·<·)) (hr:∀ i,i<c.els.length→0≤gi c.els i) (h0:gi l e=0):∀ k,k≤c.els.length→weighK c (l.set e w) k=weighK c l k+if (e:Int)∈c.els.take k then w else 0
 |0,_=>by simp [weighK]
 |k+1,hk=>by
  have ih:=weigh_set (w:=w) he hs hr h0 k (by omega)
  have h1:=hr k (by omega)
  have hmt:=mem_take_succ (l:=c.els) (x:=(e:Int)) (k:=k) (by omega)
  simp only [weighK]
  rw [ih,gi_set he]
  by_cases e1:(gi c.els k).toNat=e
  ·have e2:(e:Int)=gi c.els k:=by omega
   have hno:(e:Int)∉c.els.take k:=by
    intro hin
    rw [e2] at hin
    obtain ⟨i,hi,e3⟩:=List.getElem_of_mem hin
    rw [List.length_take] at hi
    rw [List.getElem_take] at e3
    have:=sorted_gi hs (i:=i) (j:=k) (by omega) (by omega)
    rw [gi_eq (by omega),e3] at this
    omega
   rw [if_pos e1,if_pos (hmt.2 (.inr e2)),if_neg hno,e1,h0]<;>omega
  ·rw [if_neg e1]
   have e2:¬ (e:Int)=gi c.els k:=by omega
   by_cases hin:(e:Int)∈c.els.take k
   ·rw [if_pos hin,if_pos (hmt.2 (.inl hin))];omega
   ·rw [if_neg hin,if_neg (fun h=>(hmt.1 h).elim hin e2)];omega
theorem sum_set {l:List Int} {e:Nat} {w:Int} (he:e<l.length) (h0:gi l e=0):∀ k,sumK (l.set e w) k=sumK l k+if e<k then w else 0
 |0=>by simp [sumK]
 |k+1=>by
  have ih:=sum_set (w:=w) he h0 k
  simp only [sumK]
  rw [ih,gi_set he]
  by_cases e1:k=e
  ·subst e1
   rw [if_pos rfl,if_neg (by omega),if_pos (by omega),h0]<;>omega
  ·rw [if_neg e1]
   by_cases h:e<k
   ·rw [if_pos h,if_pos (by omega)];omega
   ·rw [if_neg h,if_neg (by omega)];omega
structure Wst where
 l:List Int
 rest:List Int
 sum:Int
def wstep (L:List CSet) (x:CSt) (e:Int) (s:Wst):Wst :=
 let ch:=freeK L x e.toNat L.length
 let w:=minK s.rest ch ch.length
 ⟨s.l.set e.toNat w,subK s.rest ch w ch.length,s.sum+w⟩
def wrun (L:List CSet) (x:CSt) (D:List Int) (s0:Wst):Nat→Wst
 |0=>s0
 |k+1=>wstep L x (gi D k) (wrun L x D s0 k)
structure WOk (L:List CSet) (n:Nat) (x:CSt) (l:List Int) (sum:Int):Prop where
 len:l.length=n
 rng:∀ e,e<n→0≤gi l e∧gi l e≤1000000
 cov:∀ e,e<n→0<gi l e→x.cov.testBit e=false
 set:∀ j,j<L.length→(x.taken ||| x.out).testBit j=false→weighK (gi L j) l (gi L j).els.length≤(gi L j).cost
 sum:sum=sumK l n
structure WIv (L:List CSet) (n:Nat) (x:CSt) (D:List Int) (k:Nat) (s:Wst):Prop where
 len:s.l.length=n
 rlen:s.rest.length=L.length
 rng:∀ e,e<n→0≤gi s.l e∧gi s.l e≤1000000
 zero:∀ e:Nat,e<n→(e:Int)∉D.take k→gi s.l e=0
 rest:∀ j,j<L.length→0≤gi s.rest j∧gi s.rest j≤1000000
 set:∀ j,j<L.length→(x.taken ||| x.out).testBit j=false→weighK (gi L j) s.l (gi L j).els.length+gi s.rest j=(gi L j).cost
 sum:s.sum=sumK s.l n
def ElsS (L:List CSet):Prop:=∀ i,i<L.length→(gi L i).els.Pairwise (·<·)
section
variable {L:List CSet} (h:ElsOk L) (hS:ElsS L) {n:Nat} {x:CSt} {D:List Int} (hD:∀ i,i<D.length→0≤gi D i∧gi D i<n) (hnd:D.Nodup)
include h hS hD hnd
theorem wiv_step {k:Nat} (hk:k<D.length) {s:Wst} (hs:WIv L n x D k s):WIv L n x D (k+1) (wstep L x (gi D k) s):=by
 have he:=hD k hk
 obtain ⟨e,hee⟩:∃ e:Nat,gi D k=e:=⟨(gi D k).toNat,by omega⟩
 have hen:e<n:=by omega
 have hnot:(e:Int)∉D.take k:=fun hin=>by
  obtain ⟨i,hi,e3⟩:=List.getElem_of_mem hin
  rw [List.length_take] at hi
  rw [List.getElem_take] at e3
  have:=List.pairwise_iff_getElem.1 hnd i k (by omega) hk (by omega)
  rw [e3,← gi_eq hk,hee] at this
  exact this rfl
 have h0:=hs.zero e hen hnot
 have hel:e<s.l.length:=by rw [hs.len];exact hen
 simp only [wstep]
 rw [hee,Int.toNat_natCast]
 have hch:(freeK L x e L.length).Pairwise (·<·):=(allL_sorted _).filter _
 have hcm:=fun j:Int=>freeK_mem (L:=L) (x:=x) (e:=e) (k:=L.length) (j:=j)
 have hsub:=subK_gi (rest:=s.rest) (w:=minK s.rest (freeK L x e L.length) (freeK L x e L.length).length) hch (fun j hj=>by rw [hs.rlen];have:=(hcm j).1 hj;omega) _ (Nat.le_refl _)
 rw [List.take_length] at hsub
 have hw1:=minK_le (rest:=s.rest) (ch:=freeK L x e L.length) (freeK L x e L.length).length
 have hw0:0≤minK s.rest (freeK L x e L.length) (freeK L x e L.length).length:=minK_ge (fun i hi=>by
  have:=(hcm _).1 (gi_mem hi)
  exact (hs.rest _ (by omega)).1) _ (Nat.le_refl _)
 have hwm:∀ j:Nat,(j:Int)∈freeK L x e L.length→minK s.rest (freeK L x e L.length) (freeK L x e L.length).length≤gi s.rest j:=fun j hj=>by
  obtain ⟨i,hi,e1⟩:=List.getElem_of_mem hj
  have:=hw1.2 i hi
  rwa [gi_eq hi,e1,Int.toNat_natCast] at this
 have hsl:=subK_len s.rest (freeK L x e L.length) (minK s.rest (freeK L x e L.length) (freeK L x e L.length).length) (freeK L x e L.length).length
 generalize minK s.rest (freeK L x e L.length) (freeK L x e L.length).length=w at *
 have hmt:=fun y:Int=>mem_take_succ (l:=D) (x:=y) (k:=k) hk
 refine ⟨by simp only [List.length_set];exact hs.len,by rw [hsl];exact hs.rlen,fun y hy=>?_,fun y hy hn=>?_,fun j hj=>?_,fun j hj hf=>?_,?_⟩
 ·simp only
  rw [gi_set hel]
  split
  ·omega
  ·exact hs.rng y hy
 ·simp only
  rw [gi_set hel,if_neg]
  ·exact hs.zero y hy fun hin=>hn ((hmt y).2 (.inl hin))
  ·rintro rfl;exact hn ((hmt _).2 (.inr hee.symm))
 ·simp only
  rw [hsub]
  have h1:=hs.rest j hj
  by_cases hin:(j:Int)∈freeK L x e L.length
  ·rw [if_pos hin]
   have:=hwm j hin
   omega
  ·rw [if_neg hin];omega
 ·simp only
  have h1:=hs.set j hj hf
  obtain ⟨g1,g2,g3⟩:=h j hj
  rw [hsub,weigh_set hel (hS j hj) (fun i hi=>(g2 i hi).1) h0 _ (Nat.le_refl _),List.take_length]
  have hiff:(j:Int)∈freeK L x e L.length↔(e:Int)∈(gi L j).els:=by
   rw [hcm]
   unfold freeB
   rw [Int.toNat_natCast,hf,(wordC_spec h hj).2]
   simp;omega
  by_cases hin:(e:Int)∈(gi L j).els
  ·rw [if_pos hin,if_pos (hiff.2 hin)];omega
  ·rw [if_neg hin,if_neg (fun hh=>hin (hiff.1 hh))];omega
 ·simp only
  rw [sum_set hel h0,if_pos hen,hs.sum]
theorem wiv_run {s0:Wst} (h0:WIv L n x D 0 s0):∀ k,k≤D.length→WIv L n x D k (wrun L x D s0 k)
 |0,_=>h0
 |k+1,hk=>wiv_step h hS hD hnd (by omega) (wiv_run h0 k (by omega))
theorem wiv_ok {s:Wst} (hs:WIv L n x D D.length s) (hcov:∀ y:Nat,(y:Int)∈D→x.cov.testBit y=false):WOk L n x s.l s.sum where
 len:=hs.len
 rng:=hs.rng
 cov:=fun e he hp=>by
  refine hcov e (Classical.byContradiction fun hn=>?_)
  have:=hs.zero e he (by rw [List.take_length];exact hn)
  omega
 set:=fun j hj hf=>by
  have:=hs.set j hj hf
  have:=(hs.rest j hj).1
  omega
 sum:=hs.sum
end
theorem weigh_zero (c:CSet) (n:Nat):∀ k,weighK c (List.replicate n 0) k=0
 |0=>rfl
 |k+1=>by
  simp only [weighK,weigh_zero c n k]
  simp only [gi,List.getElem?_replicate]
  split<;>rfl
theorem sum_zero (n:Nat):∀ k,sumK (List.replicate n 0) k=0
 |0=>rfl
 |k+1=>by
  simp only [sumK,sum_zero n k]
  simp only [gi,List.getElem?_replicate]
  split<;>rfl
theorem wiv_start {L:List CSet} (h:ElsOk L) (n:Nat) (x:CSt) (D:List Int):WIv L n x D 0 ⟨List.replicate n 0,L.map (·.cost),0⟩ where
 len:=by simp
 rlen:=by simp
 rng:=fun e he=>by simp [gi,List.getElem?_replicate,he]
 zero:=fun e he _=>by simp [gi,List.getElem?_replicate,he]
 rest:=fun j hj=>by rw [gi_map _ hj];exact (h j hj).2.2
 set:=fun j hj _=>by rw [weigh_zero,gi_map _ hj];omega
 sum:=by rw [sum_zero]
theorem wrun_rng {L:List CSet} {n:Nat} {x:CSt} {D:List Int} {k:Nat} {s:Wst} (h:WIv L n x D k s):0≤s.sum∧s.sum≤n*1000000:=by
 rw [h.sum]
 exact sumK_bd (fun i hi=>h.rng i (by rw [← h.len];exact hi)) n (by rw [h.len];exact Nat.le_refl _)
structure SSt (L:List CSet) (i:Nat) (A:List Int) (x:CSt):Prop where
 ris:Ris i A
 ok:x.ok
 taken:x.taken=wordK A A.length
 used:∀ j,(x.taken ||| x.out).testBit j=decide (j<i)
 cov:∀ e:Nat,x.cov.testBit e=hasK L A e A.length
 cost:x.cost=cst L A
theorem gap_none {L:List CSet} {n k i:Nat} {A:List Int} {e:Nat} (hik:i+k=L.length) (he:e<n) (h1:hasK L A e A.length=false) (h2:∀ j,i≤j→j<L.length→(e:Int)∉(gi L j).els):dfsA L n k i A=[]:=by
 refine List.eq_nil_iff_forall_not_mem.2 fun B hB=>?_
 obtain ⟨g1,C,rfl,g2,g3⟩:=dfs_sound L n k i A B hB
 have:(e:Int)∈missK L (A++C) n:=missK_mem.2 ⟨by omega,by omega,fun ⟨y,y1,y2⟩=>by
  rcases List.mem_append.1 y1 with y1|y1
  ·have:=(hasA_iff L A e).2 ⟨y,y1,y2⟩
   rw [h1] at this;cases this
  ·have:=g3 y y1
   exact h2 y.toNat (by omega) (by omega) y2⟩
 rw [g1] at this;cases this
theorem bound_skip {L:List CSet} {n k i:Nat} {A:List Int} {x:CSt} {l:List Int} {sum:Int} (hik:i+k=L.length) (hb:∀ i,i<L.length→∀ j,j<(gi L i).els.length→0≤gi (gi L i).els j∧gi (gi L i).els j<n) (hx:SSt L i A x) (hw:WOk L n x l sum) :
 ∀ B,B∈dfsA L n k i A→x.cost+sum≤cst L B:=fun B hB=>by
 obtain ⟨g1,C,rfl,g2,g3⟩:=dfs_sound L n k i A B hB
 rw [cst_append,hx.cost,hw.sum]
 have:=dual_below (A:=A) (C:=C) (ws:=l) hb (fun e he=>(hw.rng e he).1) (fun e he hp=>by rw [← hx.cov];exact hw.cov e he hp) (fun y hy=>by have:=g3 y hy;omega) (fun y hy=>by
  have:=g3 y hy
  exact hw.set y.toNat (by omega) (by rw [hx.used];exact decide_eq_false (by omega))) g1
 omega
end Go.Proofs.YtmfnchgkffhpfaaDoor
set_option linter.unusedSimpArgs false
set_option linter.unusedVariables false
namespace Go.Proofs.YtmfnchgkffhpfaaDoor
open Go Go.Am Go.Vm
structure CNode where
 pick:Int
 yes:Int
 no:Int
 bound:Int
 ws:List Int
instance:Enc CNode:={ default:=⟨0,0,0,0,[]⟩,enc:=fun x=>[.int .i64 x.pick,.int .i64 x.yes,.int .i64 x.no,.int .i64 x.bound,.lst 3 (cells x.ws) x.ws.length],size:=5,len:=fun _=>rfl }
def gapP (L:List CSet) (n:Nat) (e:Int) (s:List Int):Prop:=(0≤e∧e<n)∧∀ i,i<L.length→¬ (gi s i≠2∧e∈(gi L i).els)
def costS (L:List CSet) (s:List Int):Nat→Int
 |0=>0
 |k+1=>if gi s k=1 then costS L s k+(gi L k).cost else costS L s k
def bndP (L:List CSet) (n:Nat) (cost:Int) (x:CNode) (s:List Int):Prop :=
 (x.ws.length=n∧∀ i,i<n→0≤gi x.ws i∧gi x.ws i≤1000000)∧(∀ i,i<L.length→¬ (gi s i=1∧weighK (gi L i) x.ws (gi L i).els.length>0)∧¬ (gi s i=0∧weighK (gi L i) x.ws (gi L i).els.length>(gi L i).cost))∧x.bound=sumK x.ws n+costS L s L.length∧cost≤x.bound
def leafP (L:List CSet) (n:Nat) (cost:Int) (x:CNode) (s:List Int):Prop:=(x.pick=-2∧gapP L n x.bound s)∨(x.pick=-1∧bndP L n cost x s)
def kidsP (N:List CNode):Prop:=∀ i,i<N.length→0≤(gi N i).pick→((i:Int)<(gi N i).yes∧(gi N i).yes<N.length)∧(i:Int)<(gi N i).no∧(gi N i).no<N.length
open Classical in
noncomputable def nodeP (L:List CSet) (n:Nat) (cost:Int) (N:List CNode):Nat→Nat→List Int→Prop
 |0,_,_=>False
 |d+1,i,s=>if (gi N i).pick<0 then leafP L n cost (gi N i) s else (gi N i).pick<L.length∧gi s (gi N i).pick.toNat=0∧nodeP L n cost N d (gi N i).yes.toNat (s.set (gi N i).pick.toNat 1)∧nodeP L n cost N d (gi N i).no.toNat (s.set (gi N i).pick.toNat 2)
def parK (N:List CNode) (j:Int):Nat→Nat
 |0=>0
 |k+1=>if 0≤(gi N k).pick then parK N j k+(if (gi N k).yes=j then 1 else 0)+(if (gi N k).no=j then 1 else 0) else parK N j k
def lawP (L:List CSet) (n:Nat) (cost:Int) (N:List CNode):Prop :=
 N.length≠0∧kidsP N∧(∀ j:Nat,1≤j→j<N.length→parK N j N.length=1)∧nodeP L n cost N N.length 0 (List.replicate L.length 0)
open Classical in
noncomputable def runP (L:List CSet) (n:Nat) (cost:Int) (N:List CNode):Nat→Nat→List Bool→List (List Int)→Prop
 |0,_,_,_=>True
 |d+1,i,seen,sts=>gi seen i=true ∧
  if 0≤(gi N i).pick then
   ((gi N i).pick<L.length∧gi (gi sts i) (gi N i).pick.toNat=0) ∧
   ((i:Int)<(gi N i).yes∧(gi N i).yes<N.length∧gi seen (gi N i).yes.toNat=false) ∧
   ((i:Int)<(gi N i).no∧(gi N i).no<N.length∧gi (seen.set (gi N i).yes.toNat true) (gi N i).no.toNat=false) ∧
   runP L n cost N d (i+1) ((seen.set (gi N i).yes.toNat true).set (gi N i).no.toNat true) ((sts.set (gi N i).yes.toNat ((gi sts i).set (gi N i).pick.toNat 1)).set (gi N i).no.toNat ((gi sts i).set (gi N i).pick.toNat 2))
  else leafP L n cost (gi N i) (gi sts i)∧runP L n cost N d (i+1) seen sts
theorem gis {α:Type} [Inhabited α] {l:List α} {i j:Nat} {v:α} (h:i<l.length):gi (l.set i v) j=if j=i then v else gi l j:=by
 unfold gi
 rw [List.getElem?_set]
 by_cases e:i=j
 ·subst e;rw [if_pos rfl,if_pos h,if_pos rfl];rfl
 ·rw [if_neg e,if_neg (fun h=>e h.symm)]
section
variable {L:List CSet} {n:Nat} {cost:Int} {N:List CNode}
theorem node_more:∀ d i s,N.length-i≤d→kidsP N→i<N.length→∀ d',N.length-i≤d'→(nodeP L n cost N d i s↔nodeP L n cost N d' i s)
 |0,i,s,h,_,hi,_,_=>by omega
 |d+1,i,s,h,hk,hi,0,h'=>by omega
 |d+1,i,s,h,hk,hi,d'+1,h'=>by
  simp only [nodeP]
  by_cases hp:(gi N i).pick<0
  ·rw [if_pos hp,if_pos hp]
  ·rw [if_neg hp,if_neg hp]
   obtain ⟨⟨k1,k2⟩,k3,k4⟩:=hk i hi (by omega)
   rw [node_more d (gi N i).yes.toNat _ (by omega) hk (by omega) d' (by omega),node_more d (gi N i).no.toNat _ (by omega) hk (by omega) d' (by omega)]
theorem run_fin:∀ d i seen sts,i+d=N.length→seen.length=N.length→sts.length=N.length→runP L n cost N d i seen sts→∃ fin:Nat→List Int,(∀ j,i≤j→j<N.length→gi seen j=true→fin j=gi sts j) ∧
 ∀ j,i≤j→j<N.length→if 0≤(gi N j).pick then ((gi N j).pick<L.length∧gi (fin j) (gi N j).pick.toNat=0)∧((j:Int)<(gi N j).yes∧(gi N j).yes<N.length)∧((j:Int)<(gi N j).no∧(gi N j).no<N.length)∧fin (gi N j).yes.toNat=(fin j).set (gi N j).pick.toNat 1∧fin (gi N j).no.toNat=(fin j).set (gi N j).pick.toNat 2 else leafP L n cost (gi N j) (fin j)
 |0,i,seen,sts,hd,_,_,_=>⟨fun _=>[],fun j h1 h2=>by omega,fun j h1 h2=>by omega⟩
 |d+1,i,seen,sts,hd,hl1,hl2,h=>by
  simp only [runP] at h
  obtain ⟨h0,h⟩:=h
  by_cases hp:0≤(gi N i).pick
  ·rw [if_pos hp] at h
   obtain ⟨h1,⟨y1,y2,y3⟩,⟨n1,n2,n3⟩,h2⟩:=h
   obtain ⟨y,hy⟩:∃ y:Nat,(gi N i).yes=y:=⟨(gi N i).yes.toNat,by omega⟩
   obtain ⟨z,hz⟩:∃ z:Nat,(gi N i).no=z:=⟨(gi N i).no.toNat,by omega⟩
   rw [hy] at y1 y2 y3 n3 h2
   rw [hz] at n1 n2 n3 h2
   simp only [Int.toNat_natCast] at y3 n3 h2
   have hzy:z≠y:=fun e=>by rw [e,gis (by omega),if_pos rfl] at n3;cases n3
   rw [gis (by omega),if_neg hzy] at n3
   obtain ⟨fin,f1,f2⟩:=run_fin d (i+1) _ _ (by omega) (by simp only [List.length_set];exact hl1) (by simp only [List.length_set];exact hl2) h2
   have fy:=f1 y (by omega) (by omega) (by rw [gis (by simp only [List.length_set];omega),if_neg (fun e=>hzy e.symm),gis (by omega),if_pos rfl])
   have fz:=f1 z (by omega) (by omega) (by rw [gis (by simp only [List.length_set];omega),if_pos rfl])
   rw [gis (by simp only [List.length_set];omega),if_neg (fun e=>hzy e.symm),gis (by omega),if_pos rfl] at fy
   rw [gis (by simp only [List.length_set];omega),if_pos rfl] at fz
   have fo:∀ j,i<j→j<N.length→gi seen j=true→fin j=gi sts j:=fun j j1 j2 j3=>by
    have e1:j≠y:=fun e=>by rw [e,y3] at j3;cases j3
    have e2:j≠z:=fun e=>by rw [e,n3] at j3;cases j3
    have:=f1 j (by omega) j2 (by rw [gis (by simp only [List.length_set];omega),if_neg e2,gis (by omega),if_neg e1];exact j3)
    rwa [gis (by simp only [List.length_set];omega),if_neg e2,gis (by omega),if_neg e1] at this
   refine ⟨fun j=>if j=i then gi sts i else fin j,fun j j1 j2 j3=>?_,fun j j1 j2=>?_⟩
   ·by_cases e:j=i
    ·subst e;simp
    ·simp only [if_neg e];exact fo j (by omega) j2 j3
   ·by_cases e:j=i
    ·subst e
     rw [if_pos hp,hy,hz]
     simp only [Int.toNat_natCast,if_true]
     rw [if_neg (show ¬ y=j by omega),if_neg (show ¬ z=j by omega)]
     exact ⟨h1,⟨y1,y2⟩,⟨n1,n2⟩,fy,fz⟩
    ·have:=f2 j (by omega) j2
     by_cases hpj:0≤(gi N j).pick
     ·rw [if_pos hpj] at this ⊢
      obtain ⟨q1,q2,q3,q4,q5⟩:=this
      simp only [if_neg e]
      rw [if_neg (show ¬ (gi N j).yes.toNat=i by omega),if_neg (show ¬ (gi N j).no.toNat=i by omega)]
      exact ⟨q1,q2,q3,q4,q5⟩
     ·rw [if_neg hpj] at this ⊢
      simp only [if_neg e]
      exact this
  ·rw [if_neg hp] at h
   obtain ⟨fin,f1,f2⟩:=run_fin d (i+1) seen sts (by omega) hl1 hl2 h.2
   refine ⟨fun j=>if j=i then gi sts i else fin j,fun j j1 j2 j3=>?_,fun j j1 j2=>?_⟩
   ·by_cases e:j=i
    ·subst e;simp
    ·simp only [if_neg e];exact f1 j (by omega) j2 j3
   ·by_cases e:j=i
    ·subst e
     rw [if_neg hp]
     simp only [if_true]
     exact h.1
    ·have:=f2 j (by omega) j2
     by_cases hpj:0≤(gi N j).pick
     ·rw [if_pos hpj] at this ⊢
      obtain ⟨q1,q2,q3,q4,q5⟩:=this
      simp only [if_neg e]
      rw [if_neg (show ¬ (gi N j).yes.toNat=i by omega),if_neg (show ¬ (gi N j).no.toNat=i by omega)]
      exact ⟨q1,q2,q3,q4,q5⟩
     ·rw [if_neg hpj] at this ⊢
      simp only [if_neg e]
      exact this
theorem fin_node {fin:Nat→List Int} (f2:∀ j,j<N.length→if 0≤(gi N j).pick then ((gi N j).pick<L.length∧gi (fin j) (gi N j).pick.toNat=0)∧((j:Int)<(gi N j).yes∧(gi N j).yes<N.length)∧((j:Int)<(gi N j).no∧(gi N j).no<N.length)∧fin (gi N j).yes.toNat=(fin j).set (gi N j).pick.toNat 1∧fin (gi N j).no.toNat=(fin j).set (gi N j).pick.toNat 2 else leafP L n cost (gi N j) (fin j)) :
 ∀ d j,j<N.length→N.length-j≤d→nodeP L n cost N d j (fin j)
 |0,j,h1,h2=>by omega
 |d+1,j,h1,h2=>by
  have:=f2 j h1
  simp only [nodeP]
  by_cases hp:0≤(gi N j).pick
  ·rw [if_pos hp] at this
   obtain ⟨⟨q0,q1⟩,q2,q3,q4,q5⟩:=this
   rw [if_neg (by omega),← q4,← q5]
   exact ⟨q0,q1,fin_node f2 d _ (by omega) (by omega),fin_node f2 d _ (by omega) (by omega)⟩
  ·rw [if_neg hp] at this
   rw [if_pos (by omega)];exact this
theorem parK_mono (j:Int):∀ {a b:Nat},a≤b→parK N j a≤parK N j b:=by
 intro a b h
 induction h with
 |refl=>exact Nat.le_refl _
 |step h ih =>
  simp only [parK]
  split<;>omega
theorem parK_stop (hk:kidsP N) (j:Nat):∀ a,j≤a→a≤N.length→parK N j a=parK N j j:=by
 intro a h
 induction h with
 |refl=>intro _;rfl
 |step h ih =>
  intro hl
  rename_i a
  have hj:j≤a:=h
  simp only [parK]
  by_cases hp:0≤(gi N a).pick
  ·obtain ⟨⟨k1,_⟩,k3,_⟩:=hk a (by omega) hp
   rw [if_pos hp,if_neg (by omega),if_neg (by omega)]
   have:=ih (by omega)
   omega
  ·rw [if_neg hp];exact ih (by omega)
theorem run_par (hk:kidsP N):∀ d i seen sts,i+d=N.length→seen.length=N.length→runP L n cost N d i seen sts→∀ j:Nat,i≤j→j<N.length→parK N j N.length=parK N j i+if gi seen j=true then 0 else 1
 |0,i,seen,sts,hd,hl,_,j,h1,h2=>by omega
 |d+1,i,seen,sts,hd,hl,h,j,h1,h2=>by
  simp only [runP] at h
  obtain ⟨h0,h⟩:=h
  by_cases e:j=i
  ·subst e
   rw [if_pos h0,Nat.add_zero]
   exact parK_stop hk j _ (by omega) (Nat.le_refl _)
  by_cases hp:0≤(gi N i).pick
  ·rw [if_pos hp] at h
   obtain ⟨g1,⟨y1,y2,y3⟩,⟨n1,n2,n3⟩,g2⟩:=h
   obtain ⟨y,hy⟩:∃ y:Nat,(gi N i).yes=y:=⟨(gi N i).yes.toNat,by omega⟩
   obtain ⟨z,hz⟩:∃ z:Nat,(gi N i).no=z:=⟨(gi N i).no.toNat,by omega⟩
   rw [hy] at y1 y2 y3 n3 g2
   rw [hz] at n1 n2 n3 g2
   simp only [Int.toNat_natCast] at y3 n3 g2
   have hzy:z≠y:=fun e=>by rw [e,gis (by omega),if_pos rfl] at n3;cases n3
   rw [gis (by omega),if_neg hzy] at n3
   have hstep:parK N j (i+1)=parK N j i+(if y=j then 1 else 0)+(if z=j then 1 else 0):=by
    simp only [parK]
    rw [if_pos hp,hy,hz]
    simp only [Int.natCast_inj]
   have:=run_par hk d (i+1) _ _ (by omega) (by simp only [List.length_set];exact hl) g2 j (by omega) h2
   rw [this,hstep,gis (by simp only [List.length_set];omega),gis (by omega)]
   by_cases e1:j=z
   ·subst e1
    rw [if_pos rfl,if_neg (fun e=>hzy e.symm),if_pos rfl,n3]
    simp
   ·by_cases e2:j=y
    ·subst e2
     rw [if_neg e1,if_pos rfl,if_pos rfl,if_neg (fun e=>e1 e.symm),y3]
     simp
    ·rw [if_neg e1,if_neg e2,if_neg (fun e=>e2 e.symm),if_neg (fun e=>e1 e.symm)];omega
  ·rw [if_neg hp] at h
   have hstep:parK N j (i+1)=parK N j i:=by simp only [parK];rw [if_neg hp]
   have:=run_par hk d (i+1) _ _ (by omega) hl h.2 j (by omega) h2
   rw [this,hstep]
theorem run_of (hk:kidsP N) (hpar:∀ j:Nat,1≤j→j<N.length→parK N j N.length=1):∀ d i seen sts,i+d=N.length→seen.length=N.length→sts.length=N.length→(∀ j:Nat,j<N.length→(gi seen j=true↔j=0∨0<parK N j i)) →
 (∀ j,i≤j→j<N.length→gi seen j=true→nodeP L n cost N N.length j (gi sts j))→runP L n cost N d i seen sts
 |0,i,seen,sts,_,_,_,_,_=>trivial
 |d+1,i,seen,sts,hd,hl1,hl2,hs,hn=>by
  have hi:i<N.length:=by omega
  have h0:gi seen i=true:=(hs i hi).2 (by
   by_cases e:i=0
   ·exact .inl e
   ·have h1:=parK_stop hk i N.length (by omega) (Nat.le_refl _)
    have h2:=hpar i (by omega) hi
    exact .inr (by omega))
  have hni:=hn i (Nat.le_refl _) hi h0
  obtain ⟨f,hf⟩:∃ f,N.length=f+1:=⟨N.length-1,by omega⟩
  have hni':nodeP L n cost N (f+1) i (gi sts i):=by rw [← hf];exact hni
  simp only [nodeP] at hni'
  simp only [runP]
  refine ⟨h0,?_⟩
  by_cases hp:0≤(gi N i).pick
  ·rw [if_neg (by omega)] at hni'
   rw [if_pos hp]
   obtain ⟨q1,q2,q3,q4⟩:=hni'
   obtain ⟨⟨k1,k2⟩,k3,k4⟩:=hk i hi hp
   obtain ⟨y,hy⟩:∃ y:Nat,(gi N i).yes=y:=⟨(gi N i).yes.toNat,by omega⟩
   obtain ⟨z,hz⟩:∃ z:Nat,(gi N i).no=z:=⟨(gi N i).no.toNat,by omega⟩
   rw [hy] at k1 k2 q3 ⊢
   rw [hz] at k3 k4 q4 ⊢
   simp only [Int.toNat_natCast] at q3 q4 ⊢
   have hstep:∀ j:Nat,parK N j (i+1)=parK N j i+(if y=j then 1 else 0)+(if z=j then 1 else 0):=fun j=>by
    simp only [parK]
    rw [if_pos hp,hy,hz]
    simp only [Int.natCast_inj]
   have hy1:=hpar y (by omega) (by omega)
   have hz1:=hpar z (by omega) (by omega)
   have hy2:=parK_mono (N:=N) y (show i+1≤N.length by omega)
   have hz2:=parK_mono (N:=N) z (show i+1≤N.length by omega)
   have hzy:z≠y:=fun e=>by rw [hstep,if_pos rfl,if_pos e] at hy2;omega
   rw [hstep,if_pos rfl] at hy2
   rw [hstep,if_pos rfl] at hz2
   have hys:gi seen y=false:=by
    cases hb:gi seen y with
    |false=>rfl
    |true=>have:=(hs y (by omega)).1 hb;omega
   have hzs:gi seen z=false:=by
    cases hb:gi seen z with
    |false=>rfl
    |true=>have:=(hs z (by omega)).1 hb;omega
   refine ⟨⟨q1,q2⟩,⟨k1,k2,hys⟩,⟨k3,k4,by rw [gis (by omega),if_neg hzy];exact hzs⟩,?_⟩
   refine run_of hk hpar d (i+1) _ _ (by omega) (by simp only [List.length_set];exact hl1) (by simp only [List.length_set];exact hl2) (fun j hj=>?_) (fun j j1 j2 j3=>?_)
   ·rw [gis (by simp only [List.length_set];omega),gis (by omega),hstep]
    by_cases e1:j=z
    ·rw [if_pos e1,if_pos e1.symm]
     exact ⟨fun _=>.inr (Nat.lt_of_lt_of_le Nat.zero_lt_one (Nat.le_add_left _ _)),fun _=>rfl⟩
    ·rw [if_neg e1,if_neg (show ¬ z=j from fun e=>e1 e.symm)]
     by_cases e2:j=y
     ·rw [if_pos e2,if_pos e2.symm]
      exact ⟨fun _=>.inr (by omega),fun _=>rfl⟩
     ·rw [if_neg e2,if_neg (show ¬ y=j from fun e=>e2 e.symm)]
      exact hs j hj
   ·rw [gis (by simp only [List.length_set];omega),gis (by omega)] at j3 ⊢
    by_cases e1:j=z
    ·subst e1
     rw [if_pos rfl]
     exact (node_more f j _ (by omega) hk (by omega) N.length (by omega)).1 q4
    ·rw [if_neg e1] at j3 ⊢
     by_cases e2:j=y
     ·subst e2
      rw [if_pos rfl]
      exact (node_more f j _ (by omega) hk (by omega) N.length (by omega)).1 q3
     ·rw [if_neg e2] at j3 ⊢
      exact hn j (by omega) j2 j3
  ·rw [if_pos (by omega)] at hni'
   rw [if_neg hp]
   refine ⟨hni',run_of hk hpar d (i+1) seen sts (by omega) hl1 hl2 (fun j hj=>?_) fun j j1 j2 j3=>hn j (by omega) j2 j3⟩
   rw [hs j hj]
   simp only [parK]
   rw [if_neg hp]
theorem gi_rep {α:Type} [Inhabited α] {a:α} {k i:Nat} (h:i<k):gi (List.replicate k a) i=a:=by simp [gi,List.getElem?_replicate,h]
theorem law_run (h0:N.length≠0):lawP L n cost N↔runP L n cost N N.length 0 ((List.replicate N.length false).set 0 true) (List.replicate N.length (List.replicate L.length 0)):=by
 constructor
 ·rintro ⟨_,hk,hpar,hn⟩
  refine run_of hk hpar _ _ _ _ (by omega) (by simp) (by simp) (fun j hj=>?_) (fun j _ j2 j3=>?_)
  ·rw [gis (by simp;omega)]
   by_cases e:j=0
   ·rw [if_pos e];simp [e]
   ·rw [if_neg e,gi_rep hj]
    simp only [parK]
    simp [e]
  ·rw [gis (by simp;omega)] at j3
   by_cases e:j=0
   ·subst e;rw [gi_rep j2];exact hn
   ·rw [if_neg e,gi_rep j2] at j3;cases j3
 ·intro h
  obtain ⟨fin,f1,f2⟩:=run_fin _ _ _ _ (by omega) (by simp) (by simp) h
  have hk:kidsP N:=fun i hi hp=>by
   have:=f2 i (Nat.zero_le _) hi
   rw [if_pos hp] at this
   exact ⟨this.2.1,this.2.2.1⟩
  refine ⟨h0,hk,fun j j1 j2=>?_,?_⟩
  ·have:=run_par hk _ _ _ _ (by omega) (by simp) h j (Nat.zero_le _) j2
   have hb:gi ((List.replicate N.length false).set 0 true) j=false:=by rw [gis (by simp;omega),if_neg (by omega),gi_rep j2]
   rw [hb] at this
   simpa [parK] using this
  ·have e0:=f1 0 (Nat.le_refl _) (by omega) (by rw [gis (by simp;omega),if_pos rfl])
   rw [gi_rep (by omega)] at e0
   rw [← e0]
   exact fin_node (fun j hj=>f2 j (Nat.zero_le _) hj) _ 0 (by omega) (by omega)
end
end Go.Proofs.YtmfnchgkffhpfaaDoor
