/-
  The proof's surroundings for this program: the listed variables; the library's functions by their contracts.
-/
import Derived.Test.YtemfebbakfhknaaDoorLib1
import Derived.Test.YtemfebbakfhknaaDoorShell
set_option linter.unusedSimpArgs false
set_option linter.unusedVariables false
namespace Go.Proofs.YtemfebbakfhknaaDoor
open Go Go.Am Go.Vm
theorem mixOk:Tryd.prog.follows .mixedOrders=true:=by kernel_rfl
theorem hasTab:HasTab 8 laidL:=⟨⟨1,64,by kernel_rfl,by kernel_rfl,of_decide_eq_true (by kernel_rfl)⟩⟩
theorem enters_itoa:Am.Enters Tryd.prog 55:=⟨_,Tryd.func55,by kernel_rfl,by kernel_rfl⟩
theorem enters_compare:Am.Enters Tryd.prog 43:=⟨_,Tryd.func43,by kernel_rfl,by kernel_rfl⟩
theorem enters_text:Am.Enters Tryd.prog 54:=⟨_,Tryd.func54,by kernel_rfl,by kernel_rfl⟩
def libL:List (FuncId×LibF):=[(55,itoaF),(43,compareF),(54,textF)]
theorem osound:OSound Tryd.prog (globList Tryd.prog 8 laidL) (libO (globList Tryd.prog 8 laidL) (globMem Tryd.prog 8 laidL) libL):=libO_sound fun x hx=>by
 simp only [libL,List.mem_cons,List.not_mem_nil,or_false] at hx
 rcases hx with rfl|rfl|rfl
 ·exact itoa_sound hasTab enters_itoa
 ·exact compare_sound enters_compare
 ·exact text_sound hasTab enters_text
noncomputable abbrev env:Env:=lawEnvO Tryd.prog 8 laidL libL
theorem env_none {f:FuncId} (h:f∉libL.map (·.1)):env.O f=none:=libO_none (by
 rw [List.lookup_eq_none_iff]
 intro p hp
 by_cases e:f=p.1
 ·exact absurd (List.mem_map.2 ⟨p,hp,e.symm⟩) h
 ·simpa using e)
theorem itoa_fun (n:Int) (h:-9223372036854775808≤n∧n≤9223372036854775807):VFun env 55 [.int .i64 n] (st (Lib.itoa n)) :=
 lib_fun rfl fun m F xs h1=>by
  cases h1 with
  |cons h1 t =>
   cases t;cases h1
   exact ⟨_,by simp only [itoaF];rw [if_pos h],.str _⟩
theorem compare_fun (a b:List UInt8):VFun env 43 [.str (bs a),.str (bs b)] (.p (.int .i64 (Lib.compareBytes a b))) :=
 lib_fun rfl fun m F xs h1=>by
  cases h1 with
  |cons h1 t =>
   cases t with
   |cons h2 t =>
    cases t;cases h1;cases h2
    exact ⟨.int .i64 (Lib.compareBytes a b),by simp only [compareF,bs_data],.int _ _⟩
theorem text_fun (l:List Nat) (hl:Num.Lim l) (hn:l.length<1000000000):VFun env 54 [.lst 64 (cells l) l.length] (st (Num.textL l)) :=
 lib_fun rfl fun m F xs h1=>textF_run hl hn h1
end Go.Proofs.YtemfebbakfhknaaDoor
