/-
  The proof's surroundings for this program: the listed variables; the library's functions by their contracts; the law's examples by the kernel.
-/
import Derived.Test.YtcnlhgmkelkikaaGreatDoorLib1
import Derived.Test.YtcnlhgmkelkikaaGreatDoorOraA
import Derived.Test.YtcnlhgmkelkikaaGreatDoorWB
import Derived.Test.YtcnlhgmkelkikaaGreatDoorShell
set_option linter.unusedSimpArgs false
set_option linter.unusedVariables false
namespace Go.Proofs.YtcnlhgmkelkikaaGreatDoor
open Go Go.Am Go.Vm
theorem mixOk:Tryz.prog.follows .mixedOrders=true:=by kernel_rfl
theorem hasTab:HasTab 8 laidL:=⟨⟨2,59,by kernel_rfl,by kernel_rfl,of_decide_eq_true (by kernel_rfl)⟩⟩
theorem enters_itoa:Am.Enters Tryz.prog 123:=⟨_,Tryz.func123,by kernel_rfl,by kernel_rfl⟩
theorem enters_compare:Am.Enters Tryz.prog 127:=⟨_,Tryz.func127,by kernel_rfl,by kernel_rfl⟩
theorem enters_text:Am.Enters Tryz.prog 120:=⟨_,Tryz.func120,by kernel_rfl,by kernel_rfl⟩
def libL:List (FuncId×LibF):=[(123,itoaF),(127,compareF),(120,textF)]
theorem osound0:OSound Tryz.prog (globList Tryz.prog 8 laidL) (libO (globList Tryz.prog 8 laidL) (globMem Tryz.prog 8 laidL) libL):=libO_sound fun x hx=>by
 simp only [libL,List.mem_cons,List.not_mem_nil,or_false] at hx
 rcases hx with rfl|rfl|rfl
 ·exact itoa_sound hasTab enters_itoa
 ·exact compare_sound enters_compare
 ·exact text_sound hasTab enters_text
abbrev knownL:List FuncId:=[11]
theorem known_run:(match acall Tryz.prog noO (globList Tryz.prog 8 laidL) 400 40 11 [] (globMem Tryz.prog 8 laidL) with|some (.bool true,_)=>true|_=>false)=true:=by kernel_rfl
theorem known_acall:∀ f∈knownL,∃ m',acall Tryz.prog noO (globList Tryz.prog 8 laidL) 400 40 f [] (globMem Tryz.prog 8 laidL)=some (.bool true,m'):=by
 intro f hf
 simp only [List.mem_cons,List.not_mem_nil,or_false] at hf
 subst hf
 have h:=known_run
 split at h
 ·rename_i m' h';exact ⟨m',h'⟩
 ·cases h
noncomputable abbrev allO0:Oracle:=knO (globList Tryz.prog 8 laidL) (globMem Tryz.prog 8 laidL) knownL (libO (globList Tryz.prog 8 laidL) (globMem Tryz.prog 8 laidL) libL)
theorem hasBitsTab:HasBitsTab 8 laidL:=⟨by kernel_rfl,⟨5,by kernel_rfl⟩,of_decide_eq_true (by kernel_rfl)⟩
theorem enters_members:Am.Enters Tryz.prog 71:=⟨_,Tryz.func71,by kernel_rfl,by kernel_rfl⟩
noncomputable def allO:Oracle:=frO (globList Tryz.prog 8 laidL) (globMem Tryz.prog 8 laidL) 71 3 memF allO0
theorem osound:OSound Tryz.prog (globList Tryz.prog 8 laidL) allO:=frO_sound (knO_sound (trueO_sound mixOk known_acall) osound0) enters_members (by kernel_rfl) (mem_sound hasBitsTab)
theorem allO_ne {f:FuncId} (h:f≠71):allO f=allO0 f:=frO_ne h
noncomputable abbrev env:Env:=lawEnvX Tryz.prog 8 laidL allO
theorem env_none {f:FuncId} (h:f∉11::71::libL.map (·.1)):env.O f=none:=by
 show allO f=none
 rw [allO_ne (fun e=>h (by rw [e];simp))]
 show knO _ _ _ _ f=none
 rw [knO_ne (fun e=>h (by simp only [List.mem_cons,List.not_mem_nil,or_false] at e;rw [e];simp))]
 refine libO_none ?_
 rw [List.lookup_eq_none_iff]
 intro p hp
 by_cases e:f=p.1
 ·exact absurd (List.mem_cons_of_mem _ (List.mem_cons_of_mem _ (List.mem_map.2 ⟨p,hp,e.symm⟩))) h
 ·simpa using e
theorem known_spec:VFun env 11 [] (.p (.bool true)):=known_funX ((allO_ne (by decide)).trans (knO_at (by simp))) (by simp)
theorem itoa_fun (n:Int) (h:-9223372036854775808≤n∧n≤9223372036854775807):VFun env 123 [.int .i64 n] (st (Lib.itoa n)) :=
 lib_funX ((allO_ne (by decide)).trans (knO_ne (by decide))) rfl fun m F xs h1=>by
  cases h1 with
  |cons h1 t =>
   cases t;cases h1
   exact ⟨_,by simp only [itoaF];rw [if_pos h],.str _⟩
theorem compare_fun (a b:List UInt8):VFun env 127 [.str (bs a),.str (bs b)] (.p (.int .i64 (Lib.compareBytes a b))) :=
 lib_funX ((allO_ne (by decide)).trans (knO_ne (by decide))) rfl fun m F xs h1=>by
  cases h1 with
  |cons h1 t =>
   cases t with
   |cons h2 t =>
    cases t;cases h1;cases h2
    exact ⟨.int .i64 (Lib.compareBytes a b),by simp only [compareF,bs_data],.int _ _⟩
theorem text_fun (l:List Nat) (hl:Num.Lim l) (hn:l.length<1000000000):VFun env 120 [.lst 59 (cells l) l.length] (st (Num.textL l)) :=
 lib_funX ((allO_ne (by decide)).trans (knO_ne (by decide))) rfl fun m F xs h1=>textF_run hl hn h1
theorem ints_rfs (m:Mem) (F:Nat→Prop):∀ l:List Int,RFs m F (cells l) (l.map Go.encZ)
 |[]=>.nil
 |z::l=>.cons (.int .i64 z) (ints_rfs m F l)
theorem members_fun {lo hi:Nat} (hlo:lo<18446744073709551616) (hhi:hi<18446744073709551616):VFunV env 71 [.agg [.int .u64 (lo:Int),.int .u64 (hi:Int)]] 3 (cells (notesL lo hi)) (notesL lo hi).length ((notesL lo hi).map Go.encZ).isEmpty:=by
 have h:=fr_fun (P:=Tryz.prog) (F:=8) (laid:=laidL) (O:=allO) (O0:=allO0) (ff:=71) (e:=3) (Fn:=memF) (xs:=[.agg [.int .u64 (lo:Int),.int .u64 (hi:Int)]]) (cs:=cells (notesL lo hi)) (l:=(notesL lo hi).map Go.encZ) rfl
  (fun m F' us h1=>by
   cases h1 with
   |cons h1 t =>
    cases t
    cases h1 with
    |agg h2 hc =>
     cases h2 with
     |cons h3 t =>
      cases t with
      |cons h4 t =>
       cases t;cases h3;cases h4
       simp only [memF,memF2]
       rw [if_pos ⟨⟨by omega,by omega⟩,by omega,by omega⟩]
       simp) (fun m F'=>ints_rfs m F' _) (by
   rw [List.all_eq_true]
   intro x hx
   obtain ⟨z,_,rfl⟩:=List.mem_map.1 hx
   rfl)
 rwa [List.length_map] at h
end Go.Proofs.YtcnlhgmkelkikaaGreatDoor
