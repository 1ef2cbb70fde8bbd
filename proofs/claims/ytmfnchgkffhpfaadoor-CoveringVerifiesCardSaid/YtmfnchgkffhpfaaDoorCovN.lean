/-
  The greedy cover and the essential sets, as plain data. Conditions: in each statement.
-/
import Derived.Test.YtmfnchgkffhpfaaDoorCovK
set_option linter.unusedSimpArgs false
set_option linter.unusedVariables false
set_option linter.unusedSectionVars false
namespace Go.Proofs.YtmfnchgkffhpfaaDoor
open Go Go.Am Go.Vm
theorem eq_of_sorted:∀ {a b:List Int},a.Pairwise (·<·)→b.Pairwise (·<·)→(∀ x,x∈a↔x∈b)→a=b
 |[],[],_,_,_=>rfl
 |[],y::b,_,_,h=>absurd ((h y).2 (List.mem_cons_self ..)) (by simp)
 |x::a,[],_,_,h=>absurd ((h x).1 (List.mem_cons_self ..)) (by simp)
 |x::a,y::b,ha,hb,h=>by
  rw [List.pairwise_cons] at ha hb
  have e:x=y:=by
   have h1:=(h x).1 (List.mem_cons_self ..)
   have h2:=(h y).2 (List.mem_cons_self ..)
   rcases List.mem_cons.1 h1 with h1|h1
   ·exact h1
   ·rcases List.mem_cons.1 h2 with h2|h2
    ·exact h2.symm
    ·have:=hb.1 _ h1;have:=ha.1 _ h2;omega
  subst e
  rw [eq_of_sorted ha.2 hb.2 fun z=>?_]
  have h1:=h z
  constructor
  ·intro hz
   have:=ha.1 z hz
   rcases List.mem_cons.1 (h1.1 (List.mem_cons_of_mem _ hz)) with h2|h2
   ·omega
   ·exact h2
  ·intro hz
   have:=hb.1 z hz
   rcases List.mem_cons.1 (h1.2 (List.mem_cons_of_mem _ hz)) with h2|h2
   ·omega
   ·exact h2
theorem least_of {P:Nat→Prop}:∀ {n:Nat},P n→∃ J,J≤n∧P J∧∀ j,j<J→¬ P j
 |0,h=>⟨0,Nat.le_refl _,h,fun j hj=>absurd hj (Nat.not_lt_zero _)⟩
 |n+1,h=>by
  by_cases h1:∃ j,j≤n∧P j
  ·obtain ⟨j,h2,h3⟩:=h1
   obtain ⟨J,g1,g2,g3⟩:=least_of h3
   exact ⟨J,by omega,g2,g3⟩
  ·exact ⟨n+1,Nat.le_refl _,h,fun j hj hp=>h1 ⟨j,by omega,hp⟩⟩
def allL (m:Nat):List Int:=(List.range m).map fun i:Nat=>(i:Int)
theorem allL_len (m:Nat):(allL m).length=m:=by simp [allL]
theorem allL_gi {m k:Nat} (hk:k<m):gi (allL m) k=k:=by simp [gi,allL,hk]
theorem allL_succ (m:Nat):allL (m+1)=allL m++[(m:Int)]:=by simp [allL,List.range_succ]
theorem allL_mem {m:Nat} {x:Int}:x∈allL m↔0≤x∧x<m:=by
 simp only [allL,List.mem_map,List.mem_range]
 constructor
 ·rintro ⟨i,h,rfl⟩;omega
 ·intro h;exact ⟨x.toNat,by omega,by omega⟩
theorem allL_take {m k:Nat} (hk:k≤m):(allL m).take k=allL k:=by
 unfold allL
 rw [← List.map_take,List.take_range,Nat.min_eq_left hk]
theorem allL_sorted:∀ m:Nat,(allL m).Pairwise (·<·)
 |0=>by simp [allL]
 |m+1=>by
  rw [allL_succ,List.pairwise_append]
  refine ⟨allL_sorted m,List.pairwise_singleton _ _,fun a ha b hb=>?_⟩
  rw [List.mem_singleton] at hb;subst hb
  exact (allL_mem.1 ha).2
theorem hasK_iff (L:List CSet) (s:List Int) (x:Int):∀ k,k≤s.length→(hasK L s x k=true↔∃ y,y∈s.take k∧x∈(gi L y.toNat).els)
 |0,_=>by simp [hasK]
 |k+1,hk=>by
  simp only [hasK,Bool.or_eq_true,decide_eq_true_eq]
  rw [hasK_iff L s x k (by omega)]
  constructor
  ·rintro (⟨y,h1,h2⟩|h)
   ·exact ⟨y,(mem_take_succ (by omega)).2 (.inl h1),h2⟩
   ·exact ⟨_,(mem_take_succ (by omega)).2 (.inr rfl),h⟩
  ·rintro ⟨y,h1,h2⟩
   rcases (mem_take_succ (by omega)).1 h1 with h1|h1
   ·exact .inl ⟨y,h1,h2⟩
   ·subst h1;exact .inr h2
theorem hasA_iff (L:List CSet) (s:List Int) (x:Int):hasK L s x s.length=true↔∃ y,y∈s∧x∈(gi L y.toNat).els:=by
 rw [hasK_iff L s x _ (Nat.le_refl _),List.take_length]
theorem missK_mem {L:List CSet} {s:List Int} {n:Nat} {x:Int}:x∈missK L s n↔0≤x∧x<n∧¬ ∃ y,y∈s∧x∈(gi L y.toNat).els:=by
 rw [missK_filter]
 simp only [List.mem_map,List.mem_filter,List.mem_range,Bool.not_eq_true']
 constructor
 ·rintro ⟨a,⟨h1,h2⟩,rfl⟩
  refine ⟨by omega,by omega,fun h=>?_⟩
  rw [(hasA_iff L s _).2 h] at h2;cases h2
 ·rintro ⟨h1,h2,h3⟩
  refine ⟨x.toNat,⟨by omega,?_⟩,by omega⟩
  rw [Int.toNat_of_nonneg h1]
  cases hb:hasK L s x s.length
  ·rfl
  ·exact absurd ((hasA_iff L s x).1 hb) h3
def wordsL (L:List CSet):List Nat:=L.map wordC
theorem wordsL_gi {L:List CSet} {k:Nat} (hk:k<L.length):gi (wordsL L) k=wordC (gi L k):=gi_map _ hk
def orK (L:List CSet) (i:Nat):Nat→Nat
 |0=>0
 |k+1=>if k≠i then orK L i k ||| wordC (gi L k) else orK L i k
theorem orK_spec {L:List CSet} (h:ElsOk L) (i:Nat):∀ k,k≤L.length→orK L i k<128∧∀ x:Nat,(orK L i k).testBit x=true↔∃ j:Nat,j<k∧j≠i∧(x:Int)∈(gi L j).els
 |0,_=>by simp [orK]
 |k+1,hk=>by
  obtain ⟨h1,h2⟩:=orK_spec h i k (by omega)
  obtain ⟨h3,h4⟩:=wordC_spec h (i:=k) (by omega)
  simp only [orK]
  split
  ·rename_i hne
   refine ⟨Nat.or_lt_two_pow (n:=7) h1 h3,fun x=>?_⟩
   rw [Nat.testBit_or,Bool.or_eq_true,h2,h4,decide_eq_true_eq]
   constructor
   ·rintro (⟨j,g1,g2⟩|g)
    ·exact ⟨j,by omega,g2⟩
    ·exact ⟨k,by omega,hne,g⟩
   ·rintro ⟨j,g1,g2,g3⟩
    by_cases e:j=k
    ·subst e;exact .inr g3
    ·exact .inl ⟨j,by omega,g2,g3⟩
  ·rename_i hne
   refine ⟨h1,fun x=>?_⟩
   rw [h2]
   constructor
   ·rintro ⟨j,g1,g2⟩;exact ⟨j,by omega,g2⟩
   ·rintro ⟨j,g1,g2,g3⟩;exact ⟨j,by omega,g2,g3⟩
def restL (m i:Nat):List Int:=(allL m).filter fun x=>decide (x≠(i:Int))
theorem orK_rest {L:List CSet} (h:ElsOk L) (i:Nat) (x:Nat):(orK L i L.length).testBit x=hasK L (restL L.length i) x (restL L.length i).length:=by
 rw [Bool.eq_iff_iff,(orK_spec h i _ (Nat.le_refl _)).2,hasA_iff]
 constructor
 ·rintro ⟨j,g1,g2,g3⟩
  exact ⟨j,List.mem_filter.2 ⟨allL_mem.2 ⟨by omega,by omega⟩,decide_eq_true (by omega)⟩,g3⟩
 ·rintro ⟨y,g1,g2⟩
  obtain ⟨g3,g4⟩:=List.mem_filter.1 g1
  have g5:=allL_mem.1 g3
  have g6:=of_decide_eq_true g4
  exact ⟨y.toNat,by omega,by omega,g2⟩
theorem restL_none {m i:Nat} (h:m≤i):restL m i=allL m:=List.filter_eq_self.2 fun x hx=>decide_eq_true (by have:=allL_mem.1 hx;omega)
theorem restL_in {m i:Nat}:∀ k,k<(restL m i).length→0≤gi (restL m i) k∧gi (restL m i) k<m:=fun k hk=>allL_mem.1 (List.mem_filter.1 (gi_mem hk)).1
theorem len_filter {α:Type} (p:α→Bool):∀ l:List α,l.length=(l.filter p).length+(l.filter fun x=>!p x).length
 |[]=>rfl
 |x::l=>by
  have:=len_filter p l
  cases h:p x<;>simp [h]<;>omega
def pickK (L:List CSet) (c:Nat→Nat):Nat→Int×Int
 |0=>(-1,0)
 |i+1=>if 0<c i∧((pickK L c i).1<0∨(gi L i).cost*(pickK L c i).2<(gi L (pickK L c i).1.toNat).cost*c i) then ((i:Int),(c i:Int)) else pickK L c i
theorem pickK_bd (L:List CSet) (c:Nat→Nat) (hc:∀ i,c i≤7):∀ i,-1≤(pickK L c i).1∧(pickK L c i).1<i∧0≤(pickK L c i).2∧(pickK L c i).2≤7∧((pickK L c i).1<0→∀ k,k<i→c k=0)∧(0≤(pickK L c i).1→0<c (pickK L c i).1.toNat)
 |0=>by refine ⟨?_,?_,?_,?_,?_,?_⟩<;>simp [pickK]
 |i+1=>by
  obtain ⟨h1,h2,h3,h4,h5,h6⟩:=pickK_bd L c hc i
  have:=hc i
  by_cases hk:0<c i∧((pickK L c i).1<0∨(gi L i).cost*(pickK L c i).2<(gi L (pickK L c i).1.toNat).cost*c i)
  ·rw [pickK,if_pos hk]
   refine ⟨by simp only;omega,by simp only;omega,by simp only;omega,by simp only;omega,fun h=>by simp only at h;omega,fun _=>by simpa using hk.1⟩
  ·rw [pickK,if_neg hk]
   refine ⟨h1,by omega,h3,h4,fun h k hk'=>?_,h6⟩
   by_cases e:k=i
   ·subst e
    by_cases h0:0<c k
    ·exact absurd ⟨h0,.inl h⟩ hk
    ·omega
   ·exact h5 h k (by omega)
def cntK (L:List CSet) (M:List Int) (i:Nat):Nat:=(M.filter fun x=>decide (x∈(gi L i).els)).length
noncomputable def takeK (L:List CSet) (n:Nat):Nat→List Int
 |0=>[]
 |j+1=>takeK L n j++[(pickK L (cntK L (missK L (takeK L n j) n)) L.length).1]
theorem takeK_len (L:List CSet) (n:Nat):∀ j,(takeK L n j).length=j
 |0=>rfl
 |j+1=>by simp [takeK,takeK_len L n j]
noncomputable def leftK (L:List CSet) (n j:Nat):Nat:=(2 ^ n-1) ^^^ ((2 ^ n-1) &&& covK L (takeK L n j) (takeK L n j).length)
theorem oc_cnt {L:List CSet} (h:ElsOk L) {i w:Nat} (hi:i<L.length):oc7 (wordC (gi L i) &&& w)=cntK L (bits7 w) i:=by
 unfold oc7 cntK bits7
 rw [List.filter_map,List.length_map,List.filter_filter]
 congr 1
 refine List.filter_congr fun x hx=>?_
 rw [Nat.testBit_and,(wordC_spec h hi).2]
 rfl
theorem cntK_le (L:List CSet) (s:List Int) {n:Nat} (hn:n≤7) (i:Nat):cntK L (missK L s n) i≤7:=by
 have h1:=List.length_filter_le (fun x=>decide (x∈(gi L i).els)) (missK L s n)
 have:=missK_len L s n
 unfold cntK;omega
section
variable {L:List CSet} {n:Nat} (h:ElsOk L) (hn:n≤7) (hall:missK L (allL L.length) n=[])
include hn hall
theorem pick_some {s:List Int} (hm:missK L s n≠[]):0≤(pickK L (cntK L (missK L s n)) L.length).1∧(pickK L (cntK L (missK L s n)) L.length).1<L.length∧0<cntK L (missK L s n) (pickK L (cntK L (missK L s n)) L.length).1.toNat:=by
 obtain ⟨h1,h2,h3,h4,h5,h6⟩:=pickK_bd L (cntK L (missK L s n)) (cntK_le L s hn) L.length
 have h0:0≤(pickK L (cntK L (missK L s n)) L.length).1:=by
  refine Classical.byContradiction fun hneg=>?_
  have hz:=h5 (by omega)
  obtain ⟨x,hx⟩:=List.exists_mem_of_ne_nil _ hm
  obtain ⟨x1,x2,x3⟩:=missK_mem.1 hx
  have:¬ x∈missK L (allL L.length) n:=by rw [hall];simp
  have hc:∃ y,y∈allL L.length∧x∈(gi L y.toNat).els:=Classical.byContradiction fun hc=>this (missK_mem.2 ⟨x1,x2,hc⟩)
  obtain ⟨y,y1,y2⟩:=hc
  have y3:=allL_mem.1 y1
  have:=hz y.toNat (by omega)
  have hmem:x∈(missK L s n).filter fun x=>decide (x∈(gi L y.toNat).els):=List.mem_filter.2 ⟨hx,decide_eq_true y2⟩
  rw [cntK,List.length_eq_zero_iff] at this
  rw [this] at hmem;cases hmem
 exact ⟨h0,h2,h6 h0⟩
theorem take_in:∀ j,(∀ i,i<j→missK L (takeK L n i) n≠[])→∀ k,k<(takeK L n j).length→0≤gi (takeK L n j) k∧gi (takeK L n j) k<L.length
 |0,_,k,hk=>by simp [takeK] at hk
 |j+1,hj,k,hk=>by
  have h1:=pick_some hn hall (hj j (by omega))
  have e:∀ x,x∈takeK L n (j+1)→0≤x∧x<L.length:=by
   intro x hx
   rw [takeK,List.mem_append,List.mem_singleton] at hx
   rcases hx with hx|hx
   ·obtain ⟨i,hi,e⟩:=List.getElem_of_mem hx
    have:=take_in j (fun i hi=>hj i (by omega)) i hi
    rw [gi_eq hi,e] at this;exact this
   ·subst hx;exact ⟨h1.1,h1.2.1⟩
  exact e _ (gi_mem hk)
omit hn hall in
theorem take_miss {j:Nat} (hj:∀ i,i<j+1→missK L (takeK L n i) n≠[]):missK L (takeK L n (j+1)) n=(missK L (takeK L n j) n).filter fun x=>!decide (x∈(gi L (pickK L (cntK L (missK L (takeK L n j) n)) L.length).1.toNat).els):=by
 rw [missK_filter,missK_filter,List.filter_map,List.filter_filter]
 congr 1
 refine List.filter_congr fun x hx=>?_
 rw [Bool.eq_iff_iff]
 simp only [Function.comp,Bool.and_eq_true,Bool.not_eq_true',← Bool.not_eq_true,hasA_iff,decide_eq_true_eq]
 rw [takeK]
 simp only [List.mem_append,List.mem_singleton]
 constructor
 ·intro hx
  exact ⟨fun hc=>hx ⟨_,.inr rfl,by rwa [missK_filter]⟩,fun ⟨y,y1,y2⟩=>hx ⟨y,.inl y1,y2⟩⟩
 ·rintro ⟨g1,g2⟩ ⟨y,y1|y1,y2⟩
  ·exact g2 ⟨y,y1,y2⟩
  ·subst y1;rw [missK_filter] at y2;exact g1 y2
theorem take_less:∀ j,(∀ i,i<j→missK L (takeK L n i) n≠[])→(missK L (takeK L n j) n).length+j≤n
 |0,_=>missK_len L _ n
 |j+1,hj=>by
  have h1:=take_less j (fun i hi=>hj i (by omega))
  obtain ⟨_,_,h2⟩:=pick_some hn hall (hj j (by omega))
  rw [take_miss hj]
  have h3:=len_filter (fun x=>decide (x∈(gi L (pickK L (cntK L (missK L (takeK L n j) n)) L.length).1.toNat).els)) (missK L (takeK L n j) n)
  have h2:0<(List.filter (fun x=>decide (x∈(gi L (pickK L (cntK L (missK L (takeK L n j) n)) L.length).1.toNat).els)) (missK L (takeK L n j) n)).length:=h2
  omega
theorem rounds:∃ J,J≤n∧missK L (takeK L n J) n=[]∧∀ j,j<J→missK L (takeK L n j) n≠[]:=by
 have h1:∃ j,missK L (takeK L n j) n=[]:=Classical.byContradiction fun hc=>by
  have:=take_less hn hall (n+1) (fun i _ hi=>hc ⟨i,hi⟩)
  omega
 obtain ⟨j,hj⟩:=h1
 obtain ⟨J,_,h2,h3⟩:=least_of (P:=fun j=>missK L (takeK L n j) n=[]) hj
 have:=take_less hn hall J h3
 exact ⟨J,by omega,h2,h3⟩
include h
theorem left_bits {j:Nat} (hj:∀ i,i<j→missK L (takeK L n i) n≠[]):leftK L n j<128∧bits7 (leftK L n j)=missK L (takeK L n j) n:=by
 have hc:=covK_spec h (take_in hn hall j hj) _ (Nat.le_refl _)
 refine ⟨?_,miss_bits hn hc.2⟩
 have h1:2 ^ n-1<2 ^ 7:=by have:=Nat.pow_le_pow_right (show 0<2 by omega) hn;have:=Nat.two_pow_pos n;omega
 exact Nat.xor_lt_two_pow h1 (Nat.and_lt_two_pow _ hc.1)
theorem left_step {j:Nat} (hj:∀ i,i<j+1→missK L (takeK L n i) n≠[]):leftK L n (j+1)=leftK L n j ^^^ (leftK L n j &&& wordC (gi L (pickK L (cntK L (missK L (takeK L n j) n)) L.length).1.toNat)):=by
 have e:covK L (takeK L n (j+1)) (takeK L n (j+1)).length=covK L (takeK L n j) (takeK L n j).length ||| wordC (gi L (pickK L (cntK L (missK L (takeK L n j) n)) L.length).1.toNat):=by
  refine Nat.eq_of_testBit_eq fun x=>?_
  have h1:=pick_some hn hall (hj j (by omega))
  rw [(covK_spec h (take_in hn hall _ hj) _ (Nat.le_refl _)).2,Nat.testBit_or,(covK_spec h (take_in hn hall j (fun i hi=>hj i (by omega))) _ (Nat.le_refl _)).2,(wordC_spec h (by omega)).2,Bool.eq_iff_iff]
  simp only [Bool.or_eq_true,hasA_iff,decide_eq_true_eq]
  conv=>lhs;rw [takeK]
  simp only [List.mem_append,List.mem_singleton]
  constructor
  ·rintro ⟨y,y1|y1,y2⟩
   ·exact .inl ⟨y,y1,y2⟩
   ·subst y1;exact .inr y2
  ·rintro (⟨y,y1,y2⟩|y2)
   ·exact ⟨y,.inl y1,y2⟩
   ·exact ⟨_,.inr rfl,y2⟩
 unfold leftK
 rw [e]
 generalize covK L (takeK L n j) (takeK L n j).length=a
 generalize wordC (gi L (pickK L (cntK L (missK L (takeK L n j) n)) L.length).1.toNat)=b
 refine Nat.eq_of_testBit_eq fun x=>?_
 simp only [Nat.testBit_xor,Nat.testBit_and,Nat.testBit_or]
 cases (2 ^ n-1).testBit x<;>cases a.testBit x<;>cases b.testBit x<;>rfl
omit h
theorem take_nodup:∀ j,(∀ i,i<j→missK L (takeK L n i) n≠[])→(takeK L n j).Pairwise (·≠·)
 |0,_=>by simp [takeK]
 |j+1,hj=>by
  have h1:=take_nodup j (fun i hi=>hj i (by omega))
  obtain ⟨g1,g2,g3⟩:=pick_some hn hall (hj j (by omega))
  rw [takeK,List.pairwise_append]
  refine ⟨h1,List.pairwise_singleton _ _,fun a ha b hb e=>?_⟩
  rw [List.mem_singleton] at hb
  rw [e,hb] at ha
  unfold cntK at g3
  obtain ⟨x,hx⟩:=List.exists_mem_of_length_pos g3
  obtain ⟨x1,x2⟩:=List.mem_filter.1 hx
  exact (missK_mem.1 x1).2.2 ⟨_,ha,of_decide_eq_true x2⟩
theorem take_sort {J:Nat} (hj:∀ i,i<J→missK L (takeK L n i) n≠[]):(takeK L n J).mergeSort (fun x y=>decide (x≤y))=(allL L.length).filter fun x=>decide (x∈takeK L n J):=by
 have hp:=List.mergeSort_perm (takeK L n J) (fun x y=>decide (x≤y))
 refine eq_of_sorted ?_ ((allL_sorted _).filter _) fun x=>?_
 ·have h1:=List.pairwise_mergeSort (le:=fun x y:Int=>decide (x≤y)) (fun a b c h1 h2=>decide_eq_true (by have:=of_decide_eq_true h1;have:=of_decide_eq_true h2;omega)) (fun a b=>by
   rw [Bool.or_eq_true,decide_eq_true_eq,decide_eq_true_eq];omega) (takeK L n J)
  have h2:((takeK L n J).mergeSort (fun x y=>decide (x≤y))).Pairwise (·≠·):=hp.symm.pairwise (take_nodup hn hall J hj) (fun h=>Ne.symm h)
  refine (h1.and h2).imp fun ⟨a,b⟩=>?_
  have:=of_decide_eq_true a
  omega
 ·rw [hp.mem_iff,List.mem_filter,decide_eq_true_eq]
  refine ⟨fun hx=>⟨?_,hx⟩,fun hx=>hx.2⟩
  obtain ⟨i,hi,e⟩:=List.getElem_of_mem hx
  have:=take_in hn hall J hj i hi
  rw [gi_eq hi,e] at this
  exact allL_mem.2 this
end
end Go.Proofs.YtmfnchgkffhpfaaDoor
