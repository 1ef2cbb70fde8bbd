/-
  The layer of ranks: Slice, Join; what Make returns is right. Conditions: in each statement.
-/
import Derived.Test.YtcnlhgmkelkikaaGreatDoorRkK
set_option linter.unusedSimpArgs false
set_option linter.unusedVariables false
namespace Go.Proofs.YtcnlhgmkelkikaaGreatDoor
open Go Go.Am Go.Vm
attribute [local irreducible] VVal VOps VOpsD VWp VCalls VFun VFunV QSeq QBlk QLoop Vm.Done DoneV DoneI
attribute [local irreducible] rchk windsE shz shiftR pipE
noncomputable def sliR (r:Rnk) (f p:Int):FV×Int:=if pipE r f≠0 then (zeroF,pipE r f) else if p<1∨p>r.wind.length-f then (zeroF,3) else rebR r (r.first+f) ((r.wind.drop f.toNat).take ((f+p).toNat-f.toNat))
noncomputable def joiR (a b:Rnk):FV×Int:=if rchk a≠0 then (zeroF,rchk a) else if rchk b≠0 then (zeroF,rchk b) else if ¬ (a.tone=b.tone∧a.feet=b.feet) then (zeroF,14) else if b.first≠a.first+a.wind.length then (zeroF,6) else rebR a a.first (a.wind++b.wind)
theorem tones_ok:∀ n,n<3→nameOk (gi tones n)
 |0,_=>name_open
 |1,_=>by
  refine ⟨by decide,by decide,by decide,fun i h1 h2=>?_⟩
  have:i=1∨i=2∨i=3∨i=4:=by simp [tones,gi] at h2;omega
  rcases this with rfl|rfl|rfl|rfl<;>exact .inl (by decide)
 |2,_=>by
  refine ⟨by decide,by decide,by decide,fun i h1 h2=>?_⟩
  have:i=1∨i=2∨i=3:=by simp [tones,gi] at h2;omega
  rcases this with rfl|rfl|rfl<;>exact .inl (by decide)
theorem feet_ok:∀ n,n<16→pOk (gi feetL n):=by decide +kernel
theorem windK_gi (x:RPlan):∀ k i,i<k→gi (windK x k) i=((gi x.wind (i % 5):Nat):Int)
 |k+1,i,h=>by
  rcases Nat.lt_or_ge i k with h1|h1
  ·have:gi (windK x (k+1)) i=gi (windK x k) i:=by simp [windK,gi,List.getElem?_append_left (show i<(windK x k).length by rw [windK_len];exact h1)]
   rw [this];exact windK_gi x k i h1
  ·obtain rfl:i=k:=by omega
   simp [windK,gi,List.getElem?_append_right (show (windK x i).length≤i by rw [windK_len];exact Nat.le_refl _),windK_len]
theorem mkR_ok (x:RPlan) (hx:x.Ok) (i:Int) (hi:0≤i):rchk (mkR x i)=0:=by
 obtain ⟨h1,h2,h3,h4,h5⟩:=hx
 refine rchk_intro ⟨by simp [mkR],by simp [mkR],(show isL (82:UInt8).toNat by decide),fun j j1 j2=>?_⟩ (tones_ok _ (Nat.mod_lt _ (by decide))) (feet_ok _ (Nat.mod_lt _ (by decide))) ⟨by simp only [mkR];omega,by simp only [mkR];omega⟩ ⟨by simp only [mkR,windK_len];omega,by simp only [mkR,windK_len];omega⟩ (fun j hj=>?_)
 ·obtain rfl:j=1:=by simp [mkR] at j2;omega
  have e:(gi (mkR x i).name 1).toNat=(48+i % 10).toNat:=by
   show (UInt8.ofNat (48+i % 10).toNat).toNat=_
   rw [UInt8.toNat_ofNat'];omega
  rw [e]
  right;left;omega
 ·simp only [mkR,windK_len] at hj ⊢
  rw [windK_gi x _ j hj]
  have:=h5 (j % 5)
  unfold badW
  omega
theorem gi_lt {α:Type} [Inhabited α] {l:List α} {P:α→Prop} (h:∀ a∈l,P a) {n:Nat} (hn:n<l.length):P (gi l n):=by
 simp only [gi,List.getElem?_eq_getElem hn,Option.getD_some]
 exact h _ (List.getElem_mem hn)
theorem mkR_len (x:RPlan) (i:Int):rLen (mkR x i):=by
 refine ⟨by simp [mkR],?_,by simp only [mkR,windK_len];omega⟩
 show (gi tones (x.tone % 3)).length<_
 exact Nat.lt_of_le_of_lt (gi_lt (P:=fun l=>l.length≤5) (by decide) (show x.tone % 3<tones.length from Nat.mod_lt _ (by decide))) (by decide)
theorem mkR_wind (x:RPlan) (i:Int):(mkR x i).wind.length≤25:=by simp only [mkR,windK_len];omega
def zeroR:Rnk:=⟨[],[],⟨0,0⟩,0,[]⟩
theorem zeroF_le:FLe zeroF (.agg (Enc.enc zeroR)):=.agg (.cons (.refl _) (.cons (.refl _) (.cons (.refl _) (.cons (.refl _) (.cons (.refl _) (.cons (.nil _) (.refl _)))))))
theorem zeroR_len:rLen zeroR:=by unfold rLen zeroR;simp
theorem same_zz:VFun env 66 [zeroF,zeroF] (.p (.bool true)):=by
 have:=same_spec zeroR zeroR zeroR_len zeroR_len
 rw [decide_eq_true rfl] at this
 exact VFun.le (.cons zeroF_le (.cons zeroF_le (.refl _))) this
theorem same_rr (r:Rnk) (h:rLen r):VFun env 66 [.agg (Enc.enc r),.agg (Enc.enc r)] (.p (.bool true)):=by
 have:=same_spec r r h h
 rw [decide_eq_true rfl] at this
 exact this
theorem shift_ok {x y:Frac} (hx:pOk x) (hy:pOk y):(shiftR x y).2=0:=by
 unfold shiftR
 rw [if_neg (fun h=>h (bothR_ok.2 ⟨hx,hy⟩))]
end Go.Proofs.YtcnlhgmkelkikaaGreatDoor
