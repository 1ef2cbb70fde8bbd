/-
  Plain mathematics of the search for least covers: lists in order, the tree of choices, the least covers in order. No program in sight. Conditions: in each statement.
-/
import Derived.Test.YtmfnchgkffhpfaaDoorCovN
set_option linter.unusedSimpArgs false
set_option linter.unusedVariables false
set_option linter.unusedSectionVars false
namespace Go.Proofs.YtmfnchgkffhpfaaDoor
open Go Go.Am Go.Vm
theorem lt_head {a b:Int} {l r:List Int}:a::l<b::r↔a<b∨a=b∧l<r:=List.cons_lt_cons_iff
theorem lt_irr:∀ l:List Int,¬ l<l
 |[]=>List.not_lt_nil _
 |a::l=>fun h=>by
  rcases lt_head.1 h with h|⟨_,h⟩
  ·omega
  ·exact lt_irr l h
theorem lt_tr:∀ {a b c:List Int},a<b→b<c→a<c
 |_,_,[],_,h=>absurd h (List.not_lt_nil _)
 |_,[],_::_,h,_=>absurd h (List.not_lt_nil _)
 |[],_::_,_::_,_,_=>List.nil_lt_cons _ _
 |a::l,b::r,c::s,h,k=>by
  rcases lt_head.1 h with h1|⟨e1,h1⟩<;>rcases lt_head.1 k with k1|⟨e2,k1⟩
  ·exact lt_head.2 (.inl (by omega))
  ·exact lt_head.2 (.inl (by omega))
  ·exact lt_head.2 (.inl (by omega))
  ·exact lt_head.2 (.inr ⟨by omega,lt_tr h1 k1⟩)
theorem lt_as {a b:List Int} (h:a<b):¬ b<a:=fun k=>lt_irr _ (lt_tr h k)
theorem lt_tot:∀ {a b:List Int},¬ a<b→a≠b→b<a
 |[],[],_,h=>absurd rfl h
 |[],_::_,h,_=>absurd (List.nil_lt_cons _ _) h
 |_::_,[],_,_=>List.nil_lt_cons _ _
 |a::l,b::r,h,hne=>by
  by_cases h1:b<a
  ·exact lt_head.2 (.inl h1)
  ·have h2:¬ a<b:=fun h2=>h (lt_head.2 (.inl h2))
   obtain rfl:a=b:=by omega
   exact lt_head.2 (.inr ⟨rfl,lt_tot (fun h3=>h (lt_head.2 (.inr ⟨rfl,h3⟩))) (fun e=>hne (by rw [e]))⟩)
theorem lessF_iff (a b:List Int):∀ (d k:Nat),a.length-k=d→k≤a.length→k≤b.length→(lessF a b k=true↔a.drop k<b.drop k)
 |d,k,hd,h1,h2=>by
  rw [lessF]
  by_cases h:k<a.length∧k<b.length
  ·rw [if_pos h,List.drop_eq_getElem_cons h.1,List.drop_eq_getElem_cons h.2,lt_head,gi_eq h.1,gi_eq h.2]
   by_cases hne:a[k]≠b[k]
   ·rw [if_pos hne,decide_eq_true_eq]
    exact ⟨.inl,fun h=>h.elim id fun h=>absurd h.1 hne⟩
   ·rw [if_neg hne]
    have e:a[k]=b[k]:=Classical.not_not.1 hne
    obtain ⟨d',rfl⟩:∃ d',d=d'+1:=⟨d-1,by omega⟩
    rw [lessF_iff a b d' (k+1) (by omega) (by omega) (by omega)]
    exact ⟨fun h=>.inr ⟨e,h⟩,fun h=>h.elim (fun h=>by omega) fun h=>h.2⟩
  ·rw [if_neg h,decide_eq_true_eq]
   by_cases ha:k<a.length
   ·obtain rfl:k=b.length:=by omega
    rw [List.drop_length]
    exact ⟨fun h=>by omega,fun h=>absurd h (List.not_lt_nil _)⟩
   ·obtain rfl:k=a.length:=by omega
    rw [List.drop_length]
    by_cases hb:a.length<b.length
    ·rw [List.drop_eq_getElem_cons hb]
     exact ⟨fun _=>List.nil_lt_cons _ _,fun _=>hb⟩
    ·rw [List.drop_of_length_le (by omega)]
     exact ⟨fun h=>by omega,fun h=>absurd h (List.not_lt_nil _)⟩
theorem lessF_lt (a b:List Int):lessF a b 0=true↔a<b:=by
 have:=lessF_iff a b _ 0 rfl (Nat.zero_le _) (Nat.zero_le _)
 simpa using this
theorem eq_of_lt:∀ {l1 l2:List (List Int)},l1.Pairwise (·<·)→l2.Pairwise (·<·)→(∀ x,x∈l1↔x∈l2)→l1=l2
 |[],[],_,_,_=>rfl
 |[],b::l2,_,_,h=>absurd ((h b).2 (by simp)) (by simp)
 |a::l1,[],_,_,h=>absurd ((h a).1 (by simp)) (by simp)
 |a::l1,b::l2,h1,h2,h=>by
  rw [List.pairwise_cons] at h1 h2
  have e:a=b:=Classical.byContradiction fun hne=>by
   have k1:a∈l2:=by
    rcases List.mem_cons.1 ((h a).1 (by simp)) with e|e
    ·exact absurd e hne
    ·exact e
   have k2:b∈l1:=by
    rcases List.mem_cons.1 ((h b).2 (by simp)) with e|e
    ·exact absurd e.symm hne
    ·exact e
   exact lt_as (h1.1 b k2) (h2.1 a k1)
  subst e
  rw [eq_of_lt h1.2 h2.2 fun x=>?_]
  constructor
  ·intro hx
   rcases List.mem_cons.1 ((h x).1 (by simp [hx])) with e|e
   ·subst e;exact absurd (h1.1 x hx) (lt_irr _)
   ·exact e
  ·intro hx
   rcases List.mem_cons.1 ((h x).2 (by simp [hx])) with e|e
   ·subst e;exact absurd (h2.1 x hx) (lt_irr _)
   ·exact e
theorem posK_ge (out:List (List Int)) (c:List Int):∀ k j,k≤out.length→posK out c k≤j→j<k→c<gi out j
 |0,j,_,_,h=>by omega
 |k+1,j,hk,h1,h2=>by
  simp only [posK] at h1
  split at h1
  ·rename_i h
   by_cases e:j=k
   ·subst e;exact (lessF_lt _ _).1 h
   ·exact posK_ge out c k j (by omega) h1 (by omega)
  ·omega
theorem posK_lt (out:List (List Int)) (c:List Int):∀ k,0<posK out c k→¬ c<gi out (posK out c k-1)
 |0,h=>by simp [posK] at h
 |k+1,h=>by
  simp only [posK] at h ⊢
  split at h
  ·rename_i hl
   rw [if_pos hl]
   exact posK_lt out c k h
  ·rename_i hl
   rw [if_neg hl,Nat.add_sub_cancel,← lessF_lt]
   exact hl
theorem gis_eq {l:List (List Int)} {i:Nat} (h:i<l.length):gi l i=l[i]:=by simp [gi,List.getElem?_eq_getElem h]
theorem ins_sorted {out:List (List Int)} {c:List Int} (hs:out.Pairwise (·<·)) (hc:c∉out):(out.take (posK out c out.length)++[c]++out.drop (posK out c out.length)).Pairwise (·<·):=by
 have hp:=posK_le out c out.length
 have hge:=posK_ge out c out.length
 have hlt:=posK_lt out c out.length
 generalize posK out c out.length=p at *
 have hsi:=fun i j hij (hj:j<out.length)=>List.pairwise_iff_getElem.1 hs i j (by omega) hj hij
 have hlow:∀ x,x∈out.take p→x<c:=by
  intro x hx
  obtain ⟨i,hi,rfl⟩:=List.getElem_of_mem hx
  rw [List.length_take] at hi
  rw [List.getElem_take]
  have h0:=hlt (by omega)
  rw [gis_eq (by omega)] at h0
  have h1:out[p-1]<c:=lt_tot h0 fun e=>hc (by rw [e];exact List.getElem_mem _)
  by_cases e:i=p-1
  ·subst e;exact h1
  ·exact lt_tr (hsi i (p-1) (by omega) (by omega)) h1
 have hhigh:∀ x,x∈out.drop p→c<x:=by
  intro x hx
  obtain ⟨i,hi,rfl⟩:=List.getElem_of_mem hx
  rw [List.length_drop] at hi
  rw [List.getElem_drop]
  have:=hge (p+i) (Nat.le_refl _) (by omega) (by omega)
  rwa [gis_eq (by omega)] at this
 have h0:(out.take p++out.drop p).Pairwise (·<·):=by rw [List.take_append_drop];exact hs
 rw [List.pairwise_append] at h0
 rw [List.append_assoc,List.pairwise_append,List.pairwise_append]
 refine ⟨h0.1,⟨List.pairwise_singleton _ _,h0.2.1,fun a ha b hb=>by rw [List.mem_singleton.1 ha];exact hhigh b hb⟩,fun a ha b hb=>?_⟩
 rcases List.mem_append.1 hb with hb|hb
 ·rw [List.mem_singleton.1 hb];exact hlow a ha
 ·exact h0.2.2 a ha b hb
theorem mem_chosen (j:Nat):∀ (m:Nat) (x:Int),x∈chosenK j m↔∃ i:Nat,i<m∧j.testBit i=true∧x=i
 |0,x=>by simp [chosenK]
 |m+1,x=>by
  have ih:=mem_chosen j m x
  have hb:j / 2 ^ m % 2=1↔j.testBit m=true:=by rw [Nat.testBit_eq_decide_div_mod_eq,decide_eq_true_eq]
  simp only [chosenK]
  by_cases h:j / 2 ^ m % 2=1
  ·rw [if_pos h,List.mem_append,List.mem_singleton,ih]
   constructor
   ·rintro (⟨i,h1,h2,h3⟩|h1)
    ·exact ⟨i,by omega,h2,h3⟩
    ·exact ⟨m,by omega,hb.1 h,h1⟩
   ·rintro ⟨i,h1,h2,h3⟩
    by_cases e:i=m
    ·subst e;exact .inr h3
    ·exact .inl ⟨i,by omega,h2,h3⟩
  ·rw [if_neg h,ih]
   constructor
   ·rintro ⟨i,h1,h2,h3⟩;exact ⟨i,by omega,h2,h3⟩
   ·rintro ⟨i,h1,h2,h3⟩
    by_cases e:i=m
    ·subst e;exact absurd (hb.2 h2) h
    ·exact ⟨i,by omega,h2,h3⟩
theorem chosen_inj {i j m:Nat} (hi:i<2 ^ m) (hj:j<2 ^ m) (h:chosenK i m=chosenK j m):i=j:=by
 refine Nat.eq_of_testBit_eq fun x=>?_
 by_cases hx:x<m
 ·have h1:=mem_chosen i m x
  have h2:=mem_chosen j m x
  rw [h] at h1
  have h3:=h1.symm.trans h2
  have k:∀ (a:Nat),(∃ i:Nat,i<m∧a.testBit i=true∧(x:Int)=i)↔a.testBit x=true:=by
   intro a
   constructor
   ·rintro ⟨i,_,h2,h3⟩
    obtain rfl:x=i:=by omega
    exact h2
   ·exact fun h=>⟨x,hx,h,rfl⟩
  rw [k,k] at h3
  cases h4:i.testBit x<;>cases h5:j.testBit x<;>simp_all
 ·rw [Nat.testBit_lt_two_pow (Nat.lt_of_lt_of_le hi (Nat.pow_le_pow_right (by omega) (by omega))),Nat.testBit_lt_two_pow (Nat.lt_of_lt_of_le hj (Nat.pow_le_pow_right (by omega) (by omega)))]
def Ris (m:Nat) (B:List Int):Prop:=B.Pairwise (·<·)∧∀ x,x∈B→0≤x∧x<m
theorem ris_chosen (j m:Nat):Ris m (chosenK j m):=⟨chosenK_sorted j m,fun x hx=>by
 obtain ⟨i,h1,_,h3⟩:=(mem_chosen j m x).1 hx
 omega⟩
theorem ris_gi {m:Nat} {B:List Int} (h:Ris m B):∀ i,i<B.length→0≤gi B i∧gi B i<m:=fun i hi=>h.2 _ (gi_mem hi)
theorem ris_word {m:Nat} (hm:m≤7) {B:List Int} (h:Ris m B):wordK B B.length<2 ^ m∧chosenK (wordK B B.length) m=B:=by
 have hs:=wordK_spec (l:=B) (fun i hi=>by have:=ris_gi h i hi;omega) _ (Nat.le_refl _)
 rw [List.take_length] at hs
 refine ⟨Nat.lt_pow_two_of_testBit _ fun x hx=>?_,?_⟩
 ·rw [hs.2]
  exact decide_eq_false fun hm=>by have:=h.2 _ hm;omega
 ·refine eq_of_sorted (chosenK_sorted _ _) h.1 fun x=>?_
  rw [mem_chosen]
  constructor
  ·rintro ⟨i,_,h2,rfl⟩
   rw [hs.2] at h2
   exact of_decide_eq_true h2
  ·intro hx
   have:=h.2 _ hx
   exact ⟨x.toNat,by omega,by rw [hs.2];exact decide_eq_true (by rwa [Int.toNat_of_nonneg this.1]),by omega⟩
abbrev cst (L:List CSet) (B:List Int):Int:=costK L B B.length
def Cvr (L:List CSet) (n:Nat) (B:List Int):Prop:=Ris L.length B∧missK L B n=[]
def Min (L:List CSet) (n:Nat) (B:List Int):Prop:=Cvr L n B∧∀ B',Cvr L n B'→cst L B≤cst L B'
def MinK (L:List CSet) (n k:Nat) (B:List Int):Prop:=(∃ j,j<k∧B=chosenK j L.length)∧missK L B n=[]∧∀ j,j<k→missK L (chosenK j L.length) n=[]→cst L B≤cst L (chosenK j L.length)
theorem allK_all (n:Nat) (L:List CSet):∀ k,k≤2 ^ L.length→(∀ B,B∈(allK n L k).1↔MinK L n k B)∧(allK n L k).1.Pairwise (·<·)∧(∀ B,B∈(allK n L k).1→cst L B=(allK n L k).2)∧((allK n L k).1=[]→∀ j,j<k→missK L (chosenK j L.length) n≠[])
 |0,_=>⟨fun B=>⟨fun h=>by simp [allK] at h,fun ⟨⟨j,h,_⟩,_⟩=>by omega⟩,by simp [allK],fun B h=>by simp [allK] at h,fun _ j h=>by omega⟩
 |k+1,hk=>by
  obtain ⟨i1,i2,i3,i4⟩:=allK_all n L k (by omega)
  have hnew:∀ B,B∈(allK n L k).1→B≠chosenK k L.length:=fun B hB e=>by
   obtain ⟨⟨j,h1,h2⟩,_⟩:=(i1 B).1 hB
   have:=chosen_inj (m:=L.length) (i:=j) (j:=k) (by omega) (by omega) (h2.symm.trans e)
   omega
  simp only [allK,allStep]
  generalize hs:allK n L k=s at *
  obtain ⟨out,best⟩:=s
  simp only at *
  generalize hc:chosenK k L.length=c at *
  have hcc:costK L c c.length=cst L c:=rfl
  rw [hcc]
  by_cases hskip:(missK L c n).length>0∨out.length>0∧cst L c>best
  ·rw [if_pos hskip]
   refine ⟨fun B=>?_,i2,i3,fun h0 j hj=>?_⟩
   ·rw [i1]
    constructor
    ·rintro ⟨⟨j,h1,h2⟩,h3,h4⟩
     refine ⟨⟨j,by omega,h2⟩,h3,fun j' hj' hm=>?_⟩
     by_cases e:j'=k
     ·subst e
      rw [hc] at hm ⊢
      rcases hskip with h|h
      ·rw [hm] at h;simp at h
      ·have:=i3 B ((i1 B).2 ⟨⟨j,h1,h2⟩,h3,h4⟩)
       omega
     ·exact h4 j' (by omega) hm
    ·rintro ⟨⟨j,h1,h2⟩,h3,h4⟩
     have hjk:j≠k:=fun e=>by
      subst e
      rw [hc] at h2
      subst h2
      rcases hskip with h|h
      ·rw [h3] at h;simp at h
      ·obtain ⟨B',hB'⟩:=List.exists_mem_of_length_pos h.1
       obtain ⟨⟨j',g1,g2⟩,g3,_⟩:=(i1 B').1 hB'
       have:=h4 j' (by omega) (by rw [← g2];exact g3)
       rw [← g2,i3 B' hB'] at this
       omega
     exact ⟨⟨j,by omega,h2⟩,h3,fun j' hj' hm=>h4 j' (by omega) hm⟩
   ·by_cases e:j=k
    ·subst e
     rw [hc]
     rcases hskip with h|h
     ·intro e;rw [e] at h;simp at h
     ·rw [show out=[] from h0] at h;simp at h
    ·exact i4 h0 j (by omega)
  ·rw [if_neg hskip]
   have hm0:missK L c n=[]:=List.eq_nil_of_length_eq_zero (by omega)
   by_cases hless:out.length>0∧cst L c<best
   ·rw [if_pos hless]
    have e0:posK ([]:List (List Int)) c ([]:List (List Int)).length=0:=rfl
    rw [e0]
    simp only [List.take_nil,List.drop_nil,List.nil_append,List.append_nil]
    obtain ⟨B',hB'⟩:=List.exists_mem_of_length_pos hless.1
    obtain ⟨⟨j0,g1,g2⟩,g3,g4⟩:=(i1 B').1 hB'
    have hcb:=i3 B' hB'
    refine ⟨fun B=>?_,List.pairwise_singleton _ _,fun B hB=>by rw [List.mem_singleton.1 hB],fun h=>by cases h⟩
    rw [List.mem_singleton]
    constructor
    ·rintro rfl
     refine ⟨⟨k,by omega,hc.symm⟩,hm0,fun j hj hmj=>?_⟩
     by_cases e:j=k
     ·subst e;rw [hc];exact Int.le_refl _
     ·have:=g4 j (by omega) hmj
      omega
    ·rintro ⟨⟨j,h1,h2⟩,h3,h4⟩
     by_cases e:j=k
     ·subst e;rw [h2,hc]
     ·have k1:=h4 k (by omega) (by rw [hc];exact hm0)
      have k2:=g4 j (by omega) (by rw [← h2];exact h3)
      rw [← h2] at k2
      rw [hc] at k1
      omega
   ·rw [if_neg hless]
    have hcn:c∉out:=fun h=>hnew c h rfl
    have hmem:∀ B,B∈out.take (posK out c out.length)++[c]++out.drop (posK out c out.length)↔B∈out∨B=c:=fun B=>by
     conv=>rhs;rw [← List.take_append_drop (posK out c out.length) out]
     simp only [List.mem_append,List.mem_singleton]
     constructor
     ·rintro ((h|h)|h)
      ·exact .inl (.inl h)
      ·exact .inr h
      ·exact .inl (.inr h)
     ·rintro ((h|h)|h)
      ·exact .inl (.inl h)
      ·exact .inr h
      ·exact .inl (.inr h)
    have hbest:∀ B,B∈out→cst L B=cst L c:=fun B hB=>by
     have h1:=i3 B hB
     have h2:out.length>0:=List.length_pos_of_mem hB
     omega
    refine ⟨fun B=>?_,ins_sorted i2 hcn,fun B hB=>?_,fun h=>by simp at h⟩
    ·rw [hmem,i1]
     constructor
     ·rintro (⟨⟨j,h1,h2⟩,h3,h4⟩|rfl)
      ·refine ⟨⟨j,by omega,h2⟩,h3,fun j' hj' hm=>?_⟩
       by_cases e:j'=k
       ·subst e
        rw [hc,hbest B ((i1 B).2 ⟨⟨j,h1,h2⟩,h3,h4⟩)]
        exact Int.le_refl _
       ·exact h4 j' (by omega) hm
      ·refine ⟨⟨k,by omega,hc.symm⟩,hm0,fun j hj hmj=>?_⟩
       by_cases e:j=k
       ·subst e;rw [hc];exact Int.le_refl _
       ·by_cases ho:out=[]
        ·exact absurd hmj (i4 ho j (by omega))
        ·obtain ⟨B',hB'⟩:=List.exists_mem_of_ne_nil _ ho
         rw [← hbest B' hB']
         exact ((i1 B').1 hB').2.2 j (by omega) hmj
     ·rintro ⟨⟨j,h1,h2⟩,h3,h4⟩
      by_cases e:j=k
      ·subst e;exact .inr (h2.trans hc)
      ·exact .inl ⟨⟨j,by omega,h2⟩,h3,fun j' hj' hm=>h4 j' (by omega) hm⟩
    ·rcases (hmem B).1 hB with h|h
     ·exact hbest B h
     ·rw [h]
theorem all_min {L:List CSet} {n:Nat} (hL:L.length≤7):(∀ B,B∈(allK n L (2 ^ L.length)).1↔Min L n B)∧(allK n L (2 ^ L.length)).1.Pairwise (·<·):=by
 obtain ⟨h1,h2,_⟩:=allK_all n L _ (Nat.le_refl _)
 refine ⟨fun B=>?_,h2⟩
 rw [h1]
 constructor
 ·rintro ⟨⟨j,hj,rfl⟩,h3,h4⟩
  refine ⟨⟨ris_chosen _ _,h3⟩,fun B' hB'=>?_⟩
  obtain ⟨k1,k2⟩:=ris_word hL hB'.1
  have:=h4 _ k1 (by rw [k2];exact hB'.2)
  rwa [k2] at this
 ·rintro ⟨⟨h3,h4⟩,h5⟩
  obtain ⟨k1,k2⟩:=ris_word hL h3
  exact ⟨⟨_,k1,k2.symm⟩,h4,fun j hj hm=>h5 _ ⟨ris_chosen _ _,hm⟩⟩
def dfsA (L:List CSet) (n:Nat):Nat→Nat→List Int→List (List Int)
 |0,_,A=>if missK L A n=[] then [A] else []
 |k+1,i,A=>if missK L A n=[] then [A] else dfsA L n k (i+1) (A++[(i:Int)])++dfsA L n k (i+1) A
theorem dfs_sound (L:List CSet) (n:Nat):∀ (k i:Nat) (A B:List Int),B∈dfsA L n k i A→missK L B n=[]∧∃ C,B=A++C∧C.Pairwise (·<·)∧∀ x,x∈C→(i:Int)≤x∧x<((i+k:Nat):Int)
 |0,i,A,B,h=>by
  simp only [dfsA] at h
  split at h
  ·rename_i h0;rw [List.mem_singleton.1 h];exact ⟨h0,[],by simp,.nil,by simp⟩
  ·cases h
 |k+1,i,A,B,h=>by
  simp only [dfsA] at h
  split at h
  ·rename_i h0;rw [List.mem_singleton.1 h];exact ⟨h0,[],by simp,.nil,by simp⟩
  ·rcases List.mem_append.1 h with h|h
   ·obtain ⟨h1,C,rfl,h2,h3⟩:=dfs_sound L n k (i+1) _ B h
    refine ⟨h1,i::C,by simp,List.pairwise_cons.2 ⟨fun x hx=>by have:=h3 x hx;omega,h2⟩,fun x hx=>?_⟩
    rcases List.mem_cons.1 hx with e|e
    ·omega
    ·have:=h3 x e;omega
   ·obtain ⟨h1,C,rfl,h2,h3⟩:=dfs_sound L n k (i+1) _ B h
    exact ⟨h1,C,rfl,h2,fun x hx=>by have:=h3 x hx;omega⟩
theorem dfs_complete (L:List CSet) (n:Nat):∀ (k i:Nat) (A C:List Int),C.Pairwise (·<·)→(∀ x,x∈C→(i:Int)≤x∧x<((i+k:Nat):Int))→missK L (A++C) n=[]→∃ j,A++C.take j∈dfsA L n k i A
 |0,i,A,C,hC,hr,hm=>by
  have:C=[]:=by
   cases C with
   |nil=>rfl
   |cons x C=>have:=hr x (by simp);omega
  subst this
  rw [List.append_nil] at hm
  exact ⟨0,by simp only [dfsA];rw [if_pos hm];simp⟩
 |k+1,i,A,C,hC,hr,hm=>by
  by_cases h0:missK L A n=[]
  ·exact ⟨0,by simp only [dfsA];rw [if_pos h0];simp⟩
  ·simp only [dfsA]
   rw [if_neg h0]
   match C,hC,hr,hm with
   |[],_,_,hm=>rw [List.append_nil] at hm;exact absurd hm h0
   |x::C,hC,hr,hm =>
    rw [List.pairwise_cons] at hC
    by_cases hx:x=i
    ·subst hx
     obtain ⟨j,hj⟩:=dfs_complete L n k (i+1) (A++[(i:Int)]) C hC.2 (fun y hy=>by have:=hC.1 y hy;have:=hr y (by simp [hy]);omega) (by rw [List.append_assoc];exact hm)
     exact ⟨j+1,List.mem_append.2 (.inl (by rw [List.take_succ_cons];rw [List.append_assoc] at hj;exact hj))⟩
    ·have hxi:=hr x (by simp)
     obtain ⟨j,hj⟩:=dfs_complete L n k (i+1) A (x::C) (List.pairwise_cons.2 hC) (fun y hy=>by
      have:=hr y hy
      rcases List.mem_cons.1 hy with e|e
      ·omega
      ·have:=hC.1 y e;omega) hm
     exact ⟨j,List.mem_append.2 (.inr hj)⟩
theorem app_lt:∀ (A:List Int) {x y:Int} {l r:List Int},x<y→A++x::l<A++y::r
 |[],_,_,_,_,h=>lt_head.2 (.inl h)
 |a::A,_,_,_,_,h=>lt_head.2 (.inr ⟨rfl,app_lt A h⟩)
theorem dfs_sorted (L:List CSet) (n:Nat):∀ (k i:Nat) (A:List Int),(dfsA L n k i A).Pairwise (·<·)
 |0,i,A=>by
  simp only [dfsA];split
  ·exact List.pairwise_singleton _ _
  ·exact .nil
 |k+1,i,A=>by
  simp only [dfsA];split
  ·exact List.pairwise_singleton _ _
  ·rename_i h0
   rw [List.pairwise_append]
   refine ⟨dfs_sorted L n k _ _,dfs_sorted L n k _ _,fun B hB B' hB'=>?_⟩
   obtain ⟨_,C,rfl,_,_⟩:=dfs_sound L n k _ _ _ hB
   obtain ⟨h1,C',rfl,_,h3⟩:=dfs_sound L n k _ _ _ hB'
   match C',h1,h3 with
   |[],h1,_=>rw [List.append_nil] at h1;exact absurd h1 h0
   |y::C',_,h3 =>
    rw [List.append_assoc,List.singleton_append]
    exact app_lt A (by have:=h3 y (by simp);omega)
theorem cost_append (L:List CSet) (A C:List Int):∀ k,k≤C.length→costK L (A++C) (A.length+k)=cst L A+costK L C k
 |0,_=>by
  simp only [costK,Nat.add_zero,Int.add_zero]
  have:∀ j,j≤A.length→costK L (A++C) j=costK L A j:=fun j hj=>by
   induction j with
   |zero=>rfl
   |succ j ih =>
    simp only [costK]
    rw [ih (by omega),show gi (A++C) j=gi A j by simp only [gi];rw [List.getElem?_append_left (by omega)]]
  exact this _ (Nat.le_refl _)
 |k+1,hk=>by
  have ih:=cost_append L A C k (by omega)
  rw [← Nat.add_assoc]
  simp only [costK]
  rw [ih,show gi (A++C) (A.length+k)=gi C k by simp only [gi];rw [List.getElem?_append_right (by omega),Nat.add_sub_cancel_left]]
  omega
theorem cst_append (L:List CSet) (A C:List Int):cst L (A++C)=cst L A+cst L C:=by
 have:=cost_append L A C C.length (Nat.le_refl _)
 unfold cst
 rw [List.length_append]
 exact this
theorem costK_pos {L:List CSet} (h:∀ i,i<L.length→1≤(gi L i).cost) {s:List Int} (hs:∀ i,i<s.length→0≤gi s i∧gi s i<L.length):∀ k,k≤s.length→(k:Int)≤costK L s k
 |0,_=>by simp [costK]
 |k+1,hk=>by
  have h1:=costK_pos h hs k (by omega)
  have h2:=hs k (by omega)
  have h3:=h (gi s k).toNat (by omega)
  simp only [costK]
  omega
theorem cst_pos {L:List CSet} (h:∀ i,i<L.length→1≤(gi L i).cost) {s:List Int} (hs:∀ x,x∈s→0≤x∧x<L.length):(s.length:Int)≤cst L s:=costK_pos h (fun i hi=>hs _ (gi_mem hi)) _ (Nat.le_refl _)
theorem dfs_min {L:List CSet} {n:Nat} (hc:∀ i,i<L.length→1≤(gi L i).cost) {B:List Int}:Min L n B↔B∈dfsA L n L.length 0 []∧∀ B',B'∈dfsA L n L.length 0 []→cst L B≤cst L B':=by
 have hin:∀ B,B∈dfsA L n L.length 0 []→Cvr L n B:=fun B hB=>by
  obtain ⟨h1,C,h2,h3,h4⟩:=dfs_sound L n _ _ _ _ hB
  rw [List.nil_append] at h2
  subst h2
  exact ⟨⟨h3,fun x hx=>by have:=h4 x hx;omega⟩,h1⟩
 have hout:∀ B,Cvr L n B→∃ j,B.take j∈dfsA L n L.length 0 []:=fun B hB=>by
  obtain ⟨j,hj⟩:=dfs_complete L n L.length 0 [] B hB.1.1 (fun x hx=>by have:=hB.1.2 x hx;omega) (by simpa using hB.2)
  exact ⟨j,by simpa using hj⟩
 have htake:∀ B,Cvr L n B→∀ j,cst L (B.take j)+((B.drop j).length:Int)≤cst L B:=fun B hB j=>by
  have h1:=cst_append L (B.take j) (B.drop j)
  rw [List.take_append_drop] at h1
  have h2:=cst_pos (L:=L) hc (s:=B.drop j) (fun x hx=>hB.1.2 x (List.mem_of_mem_drop hx))
  omega
 constructor
 ·rintro ⟨h1,h2⟩
  obtain ⟨j,hj⟩:=hout B h1
  have h3:=htake B h1 j
  have h4:=h2 _ (hin _ hj)
  have h5:B.take j=B:=by
   have:(B.drop j).length=0:=by omega
   rw [List.length_drop] at this
   exact List.take_of_length_le (by omega)
  rw [h5] at hj
  exact ⟨hj,fun B' hB'=>h2 B' (hin B' hB')⟩
 ·rintro ⟨h1,h2⟩
  refine ⟨hin B h1,fun B' hB'=>?_⟩
  obtain ⟨j,hj⟩:=hout B' hB'
  have h3:=htake B' hB' j
  have h4:=h2 _ hj
  omega
def updC (L:List CSet) (s:Int×List (List Int)) (B:List Int):Int×List (List Int) :=
 if s.2=[]∨cst L B<s.1 then (cst L B,[B]) else if cst L B=s.1 then (s.1,s.2++[B]) else s
theorem upd_skip {L:List CSet} {s:Int×List (List Int)}:∀ {D:List (List Int)},(∀ B,B∈D→s.2≠[]∧s.1<cst L B)→D.foldl (updC L) s=s
 |[],_=>rfl
 |B::D,h=>by
  have h1:=h B (by simp)
  rw [List.foldl_cons,show updC L s B=s by
   unfold updC
   rw [if_neg (by rintro (h2|h2);exact h1.1 h2;omega),if_neg (by omega)]]
  exact upd_skip fun B' hB'=>h B' (by simp [hB'])
structure Kept (L:List CSet) (D:List (List Int)) (s:Int×List (List Int)):Prop where
 mem:∀ B,B∈s.2↔B∈D∧∀ B',B'∈D→cst L B≤cst L B'
 sub:s.2.Sublist D
 cost:∀ B,B∈s.2→cst L B=s.1
 some:D≠[]→s.2≠[]
theorem kept_nil (L:List CSet) (l0:Int):Kept L [] (l0,[]):=⟨by simp,.slnil,by simp,fun h=>absurd rfl h⟩
theorem kept_step {L:List CSet} {D:List (List Int)} {s:Int×List (List Int)} (h:Kept L D s) (B:List Int):Kept L (D++[B]) (updC L s B):=by
 have hmin:∀ B',B'∈s.2→∀ B'',B''∈D→s.1≤cst L B'':=fun B' h1 B'' h2=>by
  rw [← h.cost B' h1];exact ((h.mem B').1 h1).2 B'' h2
 have hlow:s.2≠[]→∀ B'',B''∈D→s.1≤cst L B'':=fun h0=>by
  obtain ⟨B',h1⟩:=List.exists_mem_of_ne_nil _ h0
  exact hmin B' h1
 unfold updC
 by_cases h1:s.2=[]∨cst L B<s.1
 ·rw [if_pos h1]
  have hlt:∀ B'',B''∈D→cst L B<cst L B'':=fun B'' h2=>by
   have h3:s.2≠[]:=h.some (List.ne_nil_of_mem h2)
   have:=hlow h3 B'' h2
   rcases h1 with h1|h1
   ·exact absurd h1 h3
   ·omega
  refine ⟨fun B'=>?_,?_,by simp,by simp⟩
  ·simp only [List.mem_singleton,List.mem_append]
   constructor
   ·rintro rfl
    exact ⟨.inr rfl,fun B'' h2=>h2.elim (fun h2=>by have:=hlt B'' h2;omega) fun h2=>by rw [h2];exact Int.le_refl _⟩
   ·rintro ⟨h2|h2,h3⟩
    ·have:=hlt B' h2
     have:=h3 B (.inr rfl)
     omega
    ·exact h2
  ·exact List.sublist_append_of_sublist_right (List.Sublist.refl _)
 ·rw [if_neg h1]
  have h0:s.2≠[]:=fun e=>h1 (.inl e)
  by_cases h2:cst L B=s.1
  ·rw [if_pos h2]
   refine ⟨fun B'=>?_,h.sub.append (List.Sublist.refl _),fun B' hB'=>?_,by simp⟩
   ·simp only [List.mem_singleton,List.mem_append]
    constructor
    ·rintro (h3|h3)
     ·have:=(h.mem B').1 h3
      exact ⟨.inl this.1,fun B'' h4=>h4.elim (this.2 B'') fun h4=>by rw [h4,h2,h.cost B' h3];exact Int.le_refl _⟩
     ·subst h3
      exact ⟨.inr rfl,fun B'' h4=>h4.elim (fun h4=>by rw [h2];exact hlow h0 B'' h4) fun h4=>by rw [h4];exact Int.le_refl _⟩
    ·rintro ⟨h3|h3,h4⟩
     ·exact .inl ((h.mem B').2 ⟨h3,fun B'' h5=>h4 B'' (.inl h5)⟩)
     ·exact .inr h3
   ·rcases List.mem_append.1 hB' with h3|h3
    ·exact h.cost B' h3
    ·rw [List.mem_singleton.1 h3];exact h2
  ·rw [if_neg h2]
   refine ⟨fun B'=>?_,List.sublist_append_of_sublist_left h.sub,h.cost,fun _=>h0⟩
   rw [h.mem]
   simp only [List.mem_singleton,List.mem_append]
   constructor
   ·rintro ⟨h3,h4⟩
    have hk:=h.cost B' ((h.mem B').2 ⟨h3,h4⟩)
    exact ⟨.inl h3,fun B'' h5=>h5.elim (h4 B'') fun h5=>by rw [h5];omega⟩
   ·rintro ⟨h3|h3,h4⟩
    ·exact ⟨h3,fun B'' h5=>h4 B'' (.inl h5)⟩
    ·subst h3
     obtain ⟨B'',h5⟩:=List.exists_mem_of_ne_nil _ h0
     have:=h4 B'' (.inl ((h.mem B'').1 h5).1)
     rw [h.cost B'' h5] at this
     omega
theorem kept_fold {L:List CSet}:∀ (D' D:List (List Int)) {s:Int×List (List Int)},Kept L D s→Kept L (D++D') (D'.foldl (updC L) s)
 |[],D,s,h=>by simpa using h
 |B::D',D,s,h=>by
  have:=kept_fold D' (D++[B]) (kept_step h B)
  rw [List.append_assoc] at this
  exact this
theorem search_all {L:List CSet} {n:Nat} (hL:L.length≤7) (hc:∀ i,i<L.length→1≤(gi L i).cost) (l0:Int):((dfsA L n L.length 0 []).foldl (updC L) (l0,[])).2=(allK n L (2 ^ L.length)).1∧(∀ B,B∈(allK n L (2 ^ L.length)).1→cst L B=((dfsA L n L.length 0 []).foldl (updC L) (l0,[])).1):=by
 have h:=kept_fold (L:=L) (dfsA L n L.length 0 []) [] (kept_nil L l0)
 rw [List.nil_append] at h
 obtain ⟨a1,a2⟩:=all_min (n:=n) hL
 have e:((dfsA L n L.length 0 []).foldl (updC L) (l0,[])).2=(allK n L (2 ^ L.length)).1:=eq_of_lt ((dfs_sorted L n _ _ _).sublist h.sub) a2 fun B=>by rw [h.mem,a1,dfs_min hc]
 exact ⟨e,fun B hB=>h.cost B (by rw [e];exact hB)⟩
end Go.Proofs.YtmfnchgkffhpfaaDoor
