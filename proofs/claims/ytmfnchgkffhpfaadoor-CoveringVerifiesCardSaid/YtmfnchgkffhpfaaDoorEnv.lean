/-
  The proof's surroundings for this program: the listed variable; 'known' by the kernel; the library's functions on bits, run by the kernel at small numbers; slices.Delete by its text, slices.Sort by the kit's contract.
-/
import Derived.Test.YtmfnchgkffhpfaaDoorVm29
import Derived.Test.YtmfnchgkffhpfaaDoorOrv
import Derived.Test.YtmfnchgkffhpfaaDoorWdl
import Derived.Test.YtmfnchgkffhpfaaDoorShelf
import Derived.Test.YtmfnchgkffhpfaaDoorShell
set_option linter.unusedSimpArgs false
set_option linter.unusedVariables false
set_option linter.unusedSectionVars false
namespace Go.Proofs.YtmfnchgkffhpfaaDoor
open Go Go.Am Go.Vm
theorem mixOk:Tryd.prog.follows .mixedOrders=true:=by kernel_rfl
theorem known_run:(match acall Tryd.prog noO (globList Tryd.prog 8 laidL) 400 40 10 [] (globMem Tryd.prog 8 laidL) with|some (.bool true,_)=>true|_=>false)=true:=by kernel_rfl
abbrev knownL:List FuncId:=[10]
theorem known_acall:∀ f∈knownL,∃ m',acall Tryd.prog noO (globList Tryd.prog 8 laidL) 400 40 f [] (globMem Tryd.prog 8 laidL)=some (.bool true,m'):=by
 intro f hf
 simp only [List.mem_cons,List.not_mem_nil,or_false] at hf
 subst hf
 have h:=known_run
 split at h
 ·rename_i m' h';exact ⟨m',h'⟩
 ·cases h
def tz7 (p:Nat):Nat:=((List.range 7).find? p.testBit).getD 64
def oc7 (p:Nat):Nat:=((List.range 7).filter p.testBit).length
def natT (f:Nat→Nat):TabF
 |[.int .u64 x]=>if 0≤x∧x<128 then some (.int .i64 (f x.toNat)) else none
 |_=>none
theorem natT_some {f:Nat→Nat} {us:List Value} {v:Value} (h:natT f us=some v):∃ n:Nat,n<128∧us=[.int .u64 (n:Int)]∧v=.int .i64 (f n):=by
 unfold natT at h
 split at h
 ·rename_i x
  split at h
  ·rename_i hx;cases h
   exact ⟨x.toNat,by omega,by rw [Int.toNat_of_nonneg hx.1],rfl⟩
  ·cases h
 ·cases h
noncomputable def natRun (ff:FuncId) (f:Nat→Nat):Bool:=(List.range 128).all fun n=>match acall Tryd.prog noO (globList Tryd.prog 8 laidL) 80 20 ff [.int .u64 (n:Int)] (globMem Tryd.prog 8 laidL) with|some (.int .i64 x,_)=>x==(f n:Int)|_=>false
theorem natRun_acall {ff:FuncId} {f:Nat→Nat} (h:natRun ff f=true) {n:Nat} (hn:n<128):∃ m',acall Tryd.prog noO (globList Tryd.prog 8 laidL) 80 20 ff [.int .u64 (n:Int)] (globMem Tryd.prog 8 laidL)=some (.int .i64 (f n),m'):=by
 have h1:=List.all_eq_true.1 h n (List.mem_range.2 hn)
 split at h1
 ·rename_i x m' h'
  rw [beq_iff_eq] at h1
  subst h1
  exact ⟨m',h'⟩
 ·cases h1
theorem natT_ok {ff:FuncId} {f:Nat→Nat} (h:natRun ff f=true):∀ us v,natT f us=some v→us.all Am.plainCell=true∧Am.plain v=true∧∃ N D m',acall Tryd.prog noO (globList Tryd.prog 8 laidL) N D ff us (globMem Tryd.prog 8 laidL)=some (v,m'):=by
 intro us v hv
 obtain ⟨n,hn,rfl,rfl⟩:=natT_some hv
 obtain ⟨m',h1⟩:=natRun_acall h hn
 exact ⟨rfl,rfl,_,_,m',h1⟩
theorem tz_run:natRun 55 tz7=true:=by kernel_rfl
theorem oc_run:natRun 51 oc7=true:=by kernel_rfl
theorem enters_tz:Am.Enters Tryd.prog 55:=⟨_,Tryd.func55,by kernel_rfl,by kernel_rfl⟩
theorem enters_oc:Am.Enters Tryd.prog 51:=⟨_,Tryd.func51,by kernel_rfl,by kernel_rfl⟩
theorem enters_del:Am.Enters Tryd.prog 44:=⟨_,Tryd.func44,by kernel_rfl,by kernel_rfl⟩
def delF:InF:=fun zs rest=>match rest with
 |[.int .i64 i,.int .i64 j]=>if 0≤i∧i<j∧j≤zs.length then some (zs.take i.toNat++zs.drop j.toNat++List.replicate (j.toNat-i.toNat) 0,some (zs.length-(j.toNat-i.toNat))) else none
 |_=>none
theorem delF_some {zs zs':List Int} {rest:List Value} {r:Option Nat} (h:delF zs rest=some (zs',r)):∃ i j:Nat,rest=[.int .i64 (i:Int),.int .i64 (j:Int)]∧i<j∧j≤zs.length∧zs'=zs.take i++zs.drop j++List.replicate (j-i) 0∧r=some (zs.length-(j-i)):=by
 unfold delF at h
 split at h
 ·rename_i i j
  split at h
  ·rename_i hc;cases h
   exact ⟨i.toNat,j.toNat,by rw [Int.toNat_of_nonneg hc.1,Int.toNat_of_nonneg (by omega)],by omega,by omega,rfl,rfl⟩
  ·cases h
 ·cases h
def sortF:InF:=fun zs rest=>match rest with
 |[]=>if zs.length<1000 then some (zs.mergeSort fun x y=>decide (x≤y),none) else none
 |_=>none
theorem sortF_some {zs zs':List Int} {rest:List Value} {r:Option Nat} (h:sortF zs rest=some (zs',r)):rest=[]∧zs.length<1000∧zs'=zs.mergeSort (fun x y=>decide (x≤y))∧r=none:=by
 unfold sortF at h
 split at h
 ·split at h
  ·rename_i hc;cases h;exact ⟨rfl,hc,rfl,rfl⟩
  ·cases h
 ·cases h
theorem enters_sort:Am.Enters Tryd.prog 52:=⟨_,Tryd.func52,by kernel_rfl,by kernel_rfl⟩
noncomputable abbrev allO0:Oracle:=knO (globList Tryd.prog 8 laidL) (globMem Tryd.prog 8 laidL) knownL noO
noncomputable abbrev allO1:Oracle:=tabO (globList Tryd.prog 8 laidL) (globMem Tryd.prog 8 laidL) 55 (natT tz7) allO0
noncomputable abbrev allO2:Oracle:=tabO (globList Tryd.prog 8 laidL) (globMem Tryd.prog 8 laidL) 51 (natT oc7) allO1
noncomputable abbrev allO3:Oracle:=inO (globList Tryd.prog 8 laidL) (globMem Tryd.prog 8 laidL) 44 3 delF allO2
noncomputable def allO:Oracle:=inO (globList Tryd.prog 8 laidL) (globMem Tryd.prog 8 laidL) 52 3 sortF allO3
theorem osound3:OSound Tryd.prog (globList Tryd.prog 8 laidL) allO3:=inO_sound (tabO_sound mixOk (tabO_sound mixOk (knO_sound (trueO_sound mixOk known_acall) (fun _ _ h=>by cases h)) enters_tz (natT_ok tz_run)) enters_oc (natT_ok oc_run)) enters_del (by kernel_rfl)
 (fun blk off cap zs zs' r rest w h hl hr hH hb hc h0=>by
  obtain ⟨i,j,rfl,h1,h2,rfl,rfl⟩:=delF_some h
  have:=delete_arr_in blk off cap i j zs.toArray w hH (by simpa using hc) h1 (by simpa using h2)
  refine (show Calls Tryd.prog 44 _ w _ from this).mono ?_
  rintro x w' ⟨rfl,q,rfl⟩
  refine ⟨by simp,q,#[],?_⟩
  rw [Go.Sort.grow_empty];rfl)
 (fun rest rest' w h _=>by
  obtain ⟨i,j,_,h1,h2,_⟩:=delF_some h
  simp at h2;omega)
theorem osound:OSound Tryd.prog (globList Tryd.prog 8 laidL) allO:=inO_sound osound3 enters_sort (by kernel_rfl)
 (fun blk off cap zs zs' r rest w h hl hr hH hb hc h0=>by
  obtain ⟨rfl,h1,rfl,rfl⟩:=sortF_some h
  refine (show Calls Tryd.prog 52 _ w _ from Tryd.slices_Sort_int blk off cap zs w hH hb (by omega)).mono ?_
  rintro x w' ⟨rfl,n,os,rfl⟩
  exact ⟨rfl,n,os,rfl⟩)
 (fun rest rest' w h hs=>by
  obtain ⟨rfl,_⟩:=sortF_some h
  have e:rest'=#[]:=Array.eq_empty_of_size_eq_zero hs
  subst e
  exact Tryd.slices_Sort_int_none none 0 w)
noncomputable abbrev env:Env:=lawEnvX Tryd.prog 8 laidL allO
theorem allO_none {f:FuncId} (h:f∉[10,55,51,44,52]):allO f=none:=by
 simp only [List.mem_cons,List.not_mem_nil,or_false,not_or] at h
 show inO _ _ _ _ _ _ f=none
 rw [inO_ne h.2.2.2.2]
 show inO _ _ _ _ _ _ f=none
 rw [inO_ne h.2.2.2.1]
 show tabO _ _ _ _ _ f=none
 rw [tabO_ne h.2.2.1]
 show tabO _ _ _ _ _ f=none
 rw [tabO_ne h.2.1]
 show knO _ _ _ _ f=none
 rw [knO_ne (by simpa using h.1)];rfl
theorem env_none {f:FuncId} (h:f∉[10,55,51,44,52]):env.O f=none:=allO_none h
theorem known_spec:VFun env 10 [] (.p (.bool true)):=known_funX (by
 show inO _ _ _ _ _ _ _=_
 rw [inO_ne (by decide)]
 show inO _ _ _ _ _ _ _=_
 rw [inO_ne (by decide)]
 show tabO _ _ _ _ _ _=_
 rw [tabO_ne (by decide)]
 show tabO _ _ _ _ _ _=_
 rw [tabO_ne (by decide)]
 exact knO_at (by simp)) (by simp)
theorem tz_fun (n:Nat) (hn:n<128):VFun env 55 [.int .u64 (n:Int)] (.p (.int .i64 (tz7 n:Int))):=tab_fun (T:=natT tz7) (O0:=allO0) (by
 show inO _ _ _ _ _ _ _=_
 rw [inO_ne (by decide)]
 show inO _ _ _ _ _ _ _=_
 rw [inO_ne (by decide)]
 show tabO _ _ _ _ _ _=_
 rw [tabO_ne (by decide)]) (fun m F' us h1=>by
  cases h1 with
  |cons h1 t =>
   cases t;cases h1
   exact ⟨.int .i64 (tz7 n),by simp only [natT];rw [if_pos ⟨by omega,by omega⟩,Int.toNat_natCast],.int _ _⟩)
theorem oc_fun (n:Nat) (hn:n<128):VFun env 51 [.int .u64 (n:Int)] (.p (.int .i64 (oc7 n:Int))):=tab_fun (T:=natT oc7) (O0:=allO1) (by
 show inO _ _ _ _ _ _ _=_
 rw [inO_ne (by decide)]
 show inO _ _ _ _ _ _ _=_
 rw [inO_ne (by decide)]) (fun m F' us h1=>by
  cases h1 with
  |cons h1 t =>
   cases t;cases h1
   exact ⟨.int .i64 (oc7 n),by simp only [natT];rw [if_pos ⟨by omega,by omega⟩,Int.toNat_natCast],.int _ _⟩)
theorem del_at:allO 44=inO (globList Tryd.prog 8 laidL) (globMem Tryd.prog 8 laidL) 44 3 delF allO2 44:=by
 show inO _ _ _ _ _ _ _=_
 rw [inO_ne (by decide)]
theorem sort_at:allO 52=inO (globList Tryd.prog 8 laidL) (globMem Tryd.prog 8 laidL) 52 3 sortF allO3 52:=rfl
end Go.Proofs.YtmfnchgkffhpfaaDoor
