/-
  The layer of ranks: Number, Below, Repitch. Conditions: in each statement.
-/
import Derived.Test.YtcnlhgmkelkikaaGreatDoorRkD
set_option linter.unusedSimpArgs false
set_option linter.unusedVariables false
namespace Go.Proofs.YtcnlhgmkelkikaaGreatDoor
open Go Go.Am Go.Vm
attribute [local irreducible] VVal VOps VOpsD VWp VCalls VFun VFunV QSeq QBlk QLoop Vm.Done DoneV DoneI
theorem sh1_bd (den:Nat):∀ (f num:Nat) (n:Int),n-12*f≤(sh1 den f num n).2∧(sh1 den f num n).2≤n
 |0,num,n=>by simp [sh1]
 |f+1,num,n=>by
  have:=sh1_bd den f (num*2) (n-12)
  simp only [sh1]
  split
  ·omega
  ·simp only;omega
theorem sh2_bd (num:Nat):∀ (f den:Nat) (n:Int),n≤(sh2 num f den n).2∧(sh2 num f den n).2≤n+12*f
 |0,den,n=>by simp [sh2]
 |f+1,den,n=>by
  have:=sh2_bd num f (den*2) (n+12)
  simp only [sh2]
  split
  ·omega
  ·simp only;omega
theorem sh3_bd (p:Nat):∀ (f l:Nat) (n:Int),n≤sh3 p f l n∧sh3 p f l n≤n+f
 |0,l,n=>by simp [sh3]
 |f+1,l,n=>by
  have:=sh3_bd p f (l*4) (n+1)
  simp only [sh3]
  split
  ·omega
  ·omega
theorem shN_bd (num den:Nat):-1000≤shN num den∧shN num den≤1000:=by
 unfold shN
 simp only
 have h1:=sh1_bd den 30 num 0
 generalize sh1 den 30 num 0=a at *
 have h2:=sh2_bd a.1 30 den a.2
 generalize sh2 a.1 30 den a.2=b at *
 have h3:=sh3_bd (a.1 ^ 24) 30 (b.1 ^ 24*2) b.2
 omega
theorem shiftR_bd (x y:Frac):-1000≤(shiftR x y).1∧(shiftR x y).1≤1000:=by
 unfold shiftR
 split
 ·simp
 ·exact shN_bd _ _
theorem rchk_ok {r:Rnk} (h:rchk r=0):(nameOk r.name∧nameOk r.tone)∧pOk r.feet∧(-256≤r.first∧r.first≤256)∧(0<r.wind.length∧r.wind.length≤128)∧okW r.wind:=by
 unfold rchk at h
 split at h
 ·cases h
 rename_i h1
 split at h
 ·rename_i h2;exact absurd h h2
 rename_i h2
 split at h
 ·cases h
 rename_i h3
 split at h
 ·cases h
 rename_i h4
 split at h
 ·cases h
 rename_i h5
 refine ⟨⟨Classical.not_not.1 fun h'=>h1 (.inl h'),Classical.not_not.1 fun h'=>h1 (.inr h')⟩,pchk_ok.1 (Classical.not_not.1 h2),by omega,by omega,?_⟩
 unfold windsE at h
 split at h
 ·assumption
 ·cases h
attribute [local irreducible] rchk windsE shz shiftR
noncomputable def numR (r:Rnk) (n:Int):Int×Bool×Int:=if rchk r≠0 then (0,false,rchk r) else if n<r.first∨n≥r.first+r.wind.length then (0,false,0) else (n-r.first,true,0)
theorem rebR_six (r:Rnk) (n:Int) (w:List Int):∃ c0 c1 c2 c3 c4 c5 e,rebR r n w=(.agg [c0,c1,c2,c3,c4,c5],e):=by
 unfold rebR
 split
 ·exact ⟨_,_,_,_,_,_,_,rfl⟩
 ·split
  ·exact ⟨_,_,_,_,_,_,_,rfl⟩
  ·exact ⟨_,_,_,_,_,_,_,rfl⟩
noncomputable def belR (r:Rnk) (w:List Int):FV×Int:=if rchk r≠0 then (zeroF,rchk r) else if windsE w≠0 then (zeroF,windsE w) else rebR r (r.first-w.length) (w++r.wind)
noncomputable def repR (r:Rnk) (f:Frac):FV×Int:=if rchk r≠0 then (zeroF,rchk r) else if (shiftR f r.feet).2≠0 then (zeroF,(shiftR f r.feet).2) else if firOk (r.first-(shiftR f r.feet).1) then (.agg (Enc.enc { r with first:=r.first-(shiftR f r.feet).1,feet:=f }),0) else (zeroF,3)
end Go.Proofs.YtcnlhgmkelkikaaGreatDoor
