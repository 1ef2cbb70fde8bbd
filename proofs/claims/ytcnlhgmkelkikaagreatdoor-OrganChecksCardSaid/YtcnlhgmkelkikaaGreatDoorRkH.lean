/-
  The law of ranks: the chapter's examples. Conditions: in each statement.
-/
import Derived.Test.YtcnlhgmkelkikaaGreatDoorRkG
set_option linter.unusedSimpArgs false
set_option linter.unusedVariables false
namespace Go.Proofs.YtcnlhgmkelkikaaGreatDoor
open Go Go.Am Go.Vm
attribute [local irreducible] VVal VOps VOpsD VWp VCalls VFun VFunV QSeq QBlk QLoop Vm.Done DoneV DoneI
theorem rchk_intro {r:Rnk} (h1:nameOk r.name) (h2:nameOk r.tone) (h3:pOk r.feet) (h4:-256≤r.first∧r.first≤256) (h5:0<r.wind.length∧r.wind.length≤128) (h6:okW r.wind):rchk r=0:=by
 unfold rchk
 rw [if_neg (fun h=>h.elim (fun h=>h h1) (fun h=>h h2)),if_neg (fun h=>h (pchk_ok.2 h3)),if_neg (by omega),if_neg (by omega),if_neg (by omega)]
 exact if_pos h6
theorem name_row:nameOk [82,111,119]:=by
 refine ⟨by decide,by decide,by decide,fun i h1 h2=>?_⟩
 have:i=1∨i=2:=by simp at h2;omega
 rcases this with rfl|rfl<;>exact .inl (by decide)
theorem name_open:nameOk [79,112,101,110]:=by
 refine ⟨by decide,by decide,by decide,fun i h1 h2=>?_⟩
 have:i=1∨i=2∨i=3:=by simp at h2;omega
 rcases this with rfl|rfl|rfl<;>exact .inl (by decide)
theorem okW_replicate (n:Nat) {x:Int} (h:¬ badW x):okW (List.replicate n x):=fun i hi=>by
 have:gi (List.replicate n x) i=x:=by
  simp only [List.length_replicate] at hi
  simp [gi,List.getElem?_replicate,hi]
 rw [this];exact h
theorem okW_append {a b:List Int} (ha:okW a) (hb:okW b):okW (a++b):=fun i hi=>by
 rw [List.length_append] at hi
 rcases Nat.lt_or_ge i a.length with h|h
 ·have:gi (a++b) i=gi a i:=by simp [gi,List.getElem?_append_left h]
  rw [this];exact ha i h
 ·have:gi (a++b) i=gi b (i-a.length):=by simp [gi,List.getElem?_append_right h]
  rw [this];exact hb _ (by omega)
def rowR (f first:Int) (n:Nat):Rnk:=⟨[82,111,119],[79,112,101,110],⟨f,1⟩,first,List.replicate n 1⟩
theorem row_ok {f first:Int} {n:Nat} (hf:pOk ⟨f,1⟩) (h1:-256≤first∧first≤256) (h2:0<n∧n≤128):rchk (rowR f first n)=0 :=
 rchk_intro name_row name_open hf h1 (by simp only [rowR,List.length_replicate];exact h2) (okW_replicate n (by decide))
theorem shift48:shiftR ⟨4,1⟩ ⟨8,1⟩=(12,0):=by
 have h:bothR ⟨4,1⟩ ⟨8,1⟩=0:=by decide +kernel
 unfold shiftR
 rw [if_neg (fun h'=>h' h)]
 have:shz ⟨4,1⟩ ⟨8,1⟩=12:=by decide +kernel
 rw [this]
theorem shift168:shiftR ⟨16,1⟩ ⟨8,1⟩=(-12,0):=by
 have h:bothR ⟨16,1⟩ ⟨8,1⟩=0:=by decide +kernel
 unfold shiftR
 rw [if_neg (fun h'=>h' h)]
 have:shz ⟨16,1⟩ ⟨8,1⟩=-12:=by decide +kernel
 rw [this]
theorem pipE_intro {r:Rnk} {n:Int} (h:rchk r=0) (h1:0≤n∧n<r.wind.length):pipE r n=0:=by
 unfold pipE
 rw [if_neg (fun h'=>h' h),if_neg (by omega)]
theorem len61:((rowR 8 36 61).wind.length:Int)=61:=by simp [rowR]
theorem num_known:numR (rowR 8 36 61) 48=(12,true,0):=by
 have h0:=row_ok (f:=8) (first:=36) (n:=61) (by decide +kernel) (by omega) (by omega)
 unfold numR
 rw [if_neg (fun h'=>h' h0),len61,if_neg (by decide)]
 rfl
theorem snd_known:sndR (rowR 4 36 61) 12=(60,true,0):=by
 have h0:=row_ok (f:=4) (first:=36) (n:=61) (by decide +kernel) (by omega) (by omega)
 have h1:pipE (rowR 4 36 61) 12=0:=pipE_intro h0 (by simp [rowR])
 unfold sndR
 rw [if_neg (fun h'=>h' h1),show shiftR (rowR 4 36 61).feet ⟨8,1⟩=(12,0) from shift48,if_neg (by decide)]
 rfl
def belowR:Rnk:=⟨[82,111,119],[79,112,101,110],⟨8,1⟩,24,List.replicate 12 0++List.replicate 61 1⟩
theorem bel_known:belR (rowR 8 36 61) (List.replicate 12 0)=(.agg (Enc.enc belowR),0):=by
 have h0:=row_ok (f:=8) (first:=36) (n:=61) (by decide +kernel) (by omega) (by omega)
 have hw:windsE (List.replicate 12 0)=0:=if_pos (okW_replicate 12 (by decide))
 unfold belR
 rw [if_neg (fun h'=>h' h0),if_neg (fun h'=>h' hw)]
 unfold rebR
 rw [if_neg (by simp [rowR]),if_neg (by simp only [List.length_replicate];decide)]
 rfl
theorem below_ok:rchk belowR=0:=rchk_intro name_row name_open (by decide +kernel) (by decide) (by simp [belowR]) (okW_append (okW_replicate 12 (by decide)) (okW_replicate 61 (by decide)))
theorem rep_known:repR belowR ⟨16,1⟩=(.agg (Enc.enc { belowR with first:=36,feet:=⟨16,1⟩ }),0):=by
 unfold repR
 rw [if_neg (fun h'=>h' below_ok),show shiftR ⟨16,1⟩ belowR.feet=(-12,0) from shift168,if_neg (by decide),if_pos (by decide)]
 rfl
attribute [local irreducible] rchk windsE shz shiftR pipE numR sndR belR repR
end Go.Proofs.YtcnlhgmkelkikaaGreatDoor
