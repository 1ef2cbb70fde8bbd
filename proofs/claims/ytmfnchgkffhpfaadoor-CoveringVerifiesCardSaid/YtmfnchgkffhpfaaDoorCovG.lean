/-
  Plain mathematics for the statement on packings: weak duality; the problem that Make returns is right. No program in sight. Conditions: in each statement.
-/
import Derived.Test.YtmfnchgkffhpfaaDoorCovF
set_option linter.unusedSimpArgs false
set_option linter.unusedVariables false
set_option linter.unusedSectionVars false
namespace Go.Proofs.YtmfnchgkffhpfaaDoor
open Go Go.Am Go.Vm
theorem allK_mem (n:Nat) (L:List CSet):∀ k c,c∈(allK n L k).1→∃ m,c=chosenK m L.length∧(missK L c n).length=0
 |0,c,h=>by simp [allK] at h
 |k+1,c,h=>by
  simp only [allK,allStep] at h
  split at h
  ·exact allK_mem n L k c h
  ·rename_i hno
   have hsub:∀ (x:List Int),x∈(if (allK n L k).1.length>0∧costK L (chosenK k L.length) (chosenK k L.length).length<(allK n L k).2 then [] else (allK n L k).1)→∃ m,x=chosenK m L.length∧(missK L x n).length=0:=by
    intro x hx
    split at hx
    ·simp at hx
    ·exact allK_mem n L k x hx
   simp only [List.append_assoc,List.mem_append,List.mem_singleton] at h
   rcases h with h|h|h
   ·exact hsub c (List.mem_of_mem_take h)
   ·exact ⟨k,h,by rw [h];omega⟩
   ·exact hsub c (List.mem_of_mem_drop h)
theorem missK_zero {L:List CSet} {s:List Int}:∀ {n},(missK L s n).length=0→∀ x,x<n→hasK L s x s.length=true
 |0,_,x,hx=>by omega
 |n+1,h,x,hx=>by
  simp only [missK] at h
  split at h
  ·rename_i hh
   rcases Nat.lt_or_ge x n with h'|h'
   ·exact missK_zero h x h'
   ·rw [show x=n by omega];exact hh
  ·simp at h
def sumF (f:Nat→Int):Nat→Int
 |0=>0
 |n+1=>sumF f n+f n
theorem sumF_le {f g:Nat→Int}:∀ {n},(∀ i,i<n→f i≤g i)→sumF f n≤sumF g n
 |0,_=>by simp [sumF]
 |n+1,h=>by
  have h1:=sumF_le (f:=f) (g:=g) (n:=n) (fun i hi=>h i (by omega))
  have h2:=h n (by omega)
  simp only [sumF];omega
theorem sumF_add (f g:Nat→Int):∀ n,sumF (fun i=>f i+g i) n=sumF f n+sumF g n
 |0=>by simp [sumF]
 |n+1=>by simp only [sumF,sumF_add f g n];omega
theorem sumF_zero:∀ n,sumF (fun _=>0) n=0
 |0=>rfl
 |n+1=>by simp only [sumF,sumF_zero n];omega
theorem sumF_one (w:Nat→Int) (e:Int):∀ n,sumF (fun x=>if (x:Int)=e then w x else 0) n=if 0≤e∧e<n then w e.toNat else 0
 |0=>by
  simp only [sumF];rw [if_neg (by omega)]
 |n+1=>by
  simp only [sumF,sumF_one w e n]
  by_cases h:(n:Int)=e
  ·rw [if_neg (by omega),if_pos h,if_pos (by omega)]
   have:e.toNat=n:=by omega
   rw [this];omega
  ·rw [if_neg h]
   by_cases h2:0≤e∧e<n
   ·rw [if_pos h2,if_pos (by omega)];omega
   ·rw [if_neg h2,if_neg (by omega)];omega
theorem sumK_sumF (ws:List Int):∀ n,sumK ws n=sumF (gi ws) n
 |0=>rfl
 |n+1=>by simp only [sumK,sumF,sumK_sumF ws n]
theorem set_sum (c:CSet) (ws:List Int) (n:Nat) (hw:∀ i,i<n→0≤gi ws i) (hs:∀ i,i<c.els.length→0≤gi c.els i∧gi c.els i<n):∀ k,k≤c.els.length→sumF (fun x=>if (x:Int)∈c.els.take k then gi ws x else 0) n≤weighK c ws k
 |0,_=>by simp [weighK,sumF_zero]
 |k+1,hk=>by
  have ih:=set_sum c ws n hw hs k (by omega)
  have h1:=hs k (by omega)
  have h2:sumF (fun x=>if (x:Int)∈c.els.take (k+1) then gi ws x else 0) n≤sumF (fun x=>(if (x:Int)∈c.els.take k then gi ws x else 0)+(if (x:Int)=gi c.els k then gi ws x else 0)) n:=by
   refine sumF_le fun x hx=>?_
   have:=hw x hx
   have hm:((x:Int)∈c.els.take (k+1))=((x:Int)∈c.els.take k∨(x:Int)=gi c.els k):=propext (mem_take_succ (by omega))
   simp only [hm]
   by_cases a:(x:Int)∈c.els.take k<;>by_cases b:(x:Int)=gi c.els k<;>simp [a,b]<;>omega
  rw [sumF_add,sumF_one,if_pos h1] at h2
  simp only [weighK]
  omega
theorem cover_sum (L:List CSet) (s:List Int) (ws:List Int) (n:Nat) (hw:∀ i,i<n→0≤gi ws i) (hs:∀ i,i<s.length→0≤gi s i∧gi s i<L.length) (hb:∀ i j,i<L.length→j<(gi L i).els.length→0≤gi (gi L i).els j∧gi (gi L i).els j<n)
 (hc:∀ i,i<L.length→weighK (gi L i) ws (gi L i).els.length≤(gi L i).cost):∀ k,k≤s.length→sumF (fun x=>if hasK L s x k=true then gi ws x else 0) n≤costK L s k
 |0,_=>by simp [costK,hasK,sumF_zero]
 |k+1,hk=>by
  have ih:=cover_sum L s ws n hw hs hb hc k (by omega)
  have h1:=hs k (by omega)
  have h2:=set_sum (gi L (gi s k).toNat) ws n hw (fun j hj=>hb _ j (by omega) hj) _ (Nat.le_refl _)
  have h3:=hc (gi s k).toNat (by omega)
  rw [List.take_length] at h2
  have h4:sumF (fun x=>if hasK L s x (k+1)=true then gi ws x else 0) n≤sumF (fun x=>(if hasK L s x k=true then gi ws x else 0)+(if (x:Int)∈(gi L (gi s k).toNat).els then gi ws x else 0)) n:=by
   refine sumF_le fun x hx=>?_
   have:=hw x hx
   simp only [hasK,Bool.or_eq_true,decide_eq_true_eq]
   by_cases a:hasK L s x k=true<;>by_cases b:(x:Int)∈(gi L (gi s k).toNat).els<;>simp [a,b]<;>omega
  rw [sumF_add] at h4
  simp only [costK]
  omega
theorem duality (L:List CSet) (s:List Int) (ws:List Int) (n:Nat) (hw:∀ i,i<n→0≤gi ws i) (hs:∀ i,i<s.length→0≤gi s i∧gi s i<L.length) (hb:∀ i j,i<L.length→j<(gi L i).els.length→0≤gi (gi L i).els j∧gi (gi L i).els j<n)
 (hc:∀ i,i<L.length→weighK (gi L i) ws (gi L i).els.length≤(gi L i).cost) (hm:(missK L s n).length=0):sumK ws n≤costK L s s.length:=by
 rw [sumK_sumF]
 refine Int.le_trans (sumF_le fun x hx=>?_) (cover_sum L s ws n hw hs hb hc s.length (Nat.le_refl _))
 rw [if_pos (missK_zero hm x hx)]
 exact Int.le_refl _
theorem chosenK_sorted (m:Nat):∀ k,(chosenK m k).Pairwise (·<·)
 |0=>.nil
 |k+1=>by
  simp only [chosenK]
  split
  ·rw [List.pairwise_append]
   refine ⟨chosenK_sorted m k,List.pairwise_singleton _ _,fun a ha b hb=>?_⟩
   obtain ⟨j,h1,h2⟩:=chosenK_mem m k a ha
   simp only [List.mem_singleton] at hb
   omega
  ·exact chosenK_sorted m k
theorem gi_eq {l:List Int} {i:Nat} (h:i<l.length):gi l i=l[i]:=by simp [gi,List.getElem?_eq_getElem h]
theorem sorted_gi {l:List Int} (h:l.Pairwise (·<·)) {i j:Nat} (hij:i<j) (hj:j<l.length):gi l i<gi l j:=by
 rw [gi_eq (by omega),gi_eq hj]
 exact List.pairwise_iff_getElem.1 h i j (by omega) hj hij
theorem rsg_ok {l:List Int} {limit:Int} (h:∀ i,i<l.length→0≤gi l i∧gi l i<limit) (hs:l.Pairwise (·<·)):∀ d k,l.length-k=d→rsg l limit k=0
 |0,k,hd=>by rw [rsg,if_neg (by omega)]
 |d+1,k,hd=>by
  have h1:=h k (by omega)
  rw [rsg,if_pos (by omega),if_neg (by omega),if_neg ?_]
  ·exact rsg_ok h hs d (k+1) (by omega)
  ·rintro ⟨h2,h3⟩
   have:=sorted_gi hs (i:=k-1) (j:=k) (by omega) (by omega)
   omega
theorem gi_map {α β:Type} [Inhabited α] [Inhabited β] (f:α→β) {l:List α} {i:Nat} (h:i<l.length):gi (l.map f) i=f (gi l i):=by
 simp [gi,List.getElem?_eq_getElem h]
theorem setsM_gi (x:CPlan) {i:Nat} (h:i<(setsM x 7).length):∃ b,gi (setsM x 7) i=mkSet (x.n % 8) b:=by
 simp only [setsM,List.length_map] at h ⊢
 exact ⟨_,gi_map _ h⟩
theorem setsErr_ok {n:Int} {L:List CSet} (h:∀ i,i<L.length→setErr n (gi L i)=0):∀ d k,L.length-k=d→setsErr n L k=0
 |0,k,hd=>by rw [setsErr,if_neg (by omega)]
 |d+1,k,hd=>by
  rw [setsErr,if_pos (by omega),if_neg (by rw [h k (by omega)];simp)]
  exact setsErr_ok h d (k+1) (by omega)
theorem setsM_le (x:CPlan):(setsM x 7).length≤7:=by simp [setsM];omega
theorem makeM_ok (x:CPlan):checkM (makeM x)=0:=by
 have hl:=setsM_le x
 have hn:(makeM x).n=(x.n:Int) % 8:=rfl
 have hs:(makeM x).sets=setsM x 7:=rfl
 rw [checkM,if_neg (by omega),if_neg (by rw [hs];omega),hs]
 refine setsErr_ok (fun i hi=>?_) _ 0 rfl
 obtain ⟨b,hb⟩:=setsM_gi x hi
 rw [hb,hn]
 have h1:rsg (mkSet (x.n % 8) b).els ((x.n:Int) % 8) 0=0:=rsg_ok (fun i hi=>by
  have:=chosenK_gi b.els (x.n % 8) i hi
  show 0≤gi (chosenK b.els (x.n % 8)) i∧gi (chosenK b.els (x.n % 8)) i<_
  omega) (chosenK_sorted _ _) _ 0 rfl
 simp only [setErr,h1,ne_eq,not_true,if_false]
 rw [if_neg (by simp only [mkSet];omega)]
theorem makeM_set (x:CPlan) {i:Nat} (h:i<(makeM x).sets.length):(gi (makeM x).sets i).els.length≤7∧(∀ j,j<(gi (makeM x).sets i).els.length→0≤gi (gi (makeM x).sets i).els j∧gi (gi (makeM x).sets i).els j<(makeM x).n)∧1≤(gi (makeM x).sets i).cost∧(gi (makeM x).sets i).cost≤5:=by
 obtain ⟨b,hb⟩:=setsM_gi x h
 have hs:(makeM x).sets=setsM x 7:=rfl
 have hn:(makeM x).n=(x.n:Int) % 8:=rfl
 rw [hs,hb,hn]
 have h1:=chosenK_len b.els (x.n % 8)
 refine ⟨by simp only [mkSet];omega,fun j hj=>?_,by simp only [mkSet];omega,by simp only [mkSet];omega⟩
 have:=chosenK_gi b.els (x.n % 8) j hj
 simp only [mkSet]
 omega
end Go.Proofs.YtmfnchgkffhpfaaDoor
