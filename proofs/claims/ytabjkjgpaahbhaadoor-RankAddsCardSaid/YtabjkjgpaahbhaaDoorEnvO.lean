/-
  The proof's surroundings for this program: the listed variables; the library's functions by their contracts.
-/
import Derived.Test.YtabjkjgpaahbhaaDoorLib1
import Derived.Test.YtabjkjgpaahbhaaDoorOra
import Derived.Shelf.Spec.SlicesGrow
import Derived.Test.YtabjkjgpaahbhaaDoorShell
set_option linter.unusedSimpArgs false
set_option linter.unusedVariables false
namespace Go.Proofs.YtabjkjgpaahbhaaDoor
open Go Go.Am Go.Vm
theorem mixOk : Tryd.prog.follows .mixedOrders = true := by kernel_rfl
theorem hasTab : HasTab 8 laidL := ⟨⟨1, 76, by kernel_rfl, by kernel_rfl, of_decide_eq_true (by kernel_rfl)⟩⟩
theorem enters_itoa : Am.Enters Tryd.prog 58 := ⟨_, Tryd.func58, by kernel_rfl, by kernel_rfl⟩
theorem enters_compare : Am.Enters Tryd.prog 62 := ⟨_, Tryd.func62, by kernel_rfl, by kernel_rfl⟩
theorem enters_text : Am.Enters Tryd.prog 55 := ⟨_, Tryd.func55, by kernel_rfl, by kernel_rfl⟩

def libL : List (FuncId × LibF) := [(58, itoaF), (62, compareF), (55, textF)]
theorem osound0 : OSound Tryd.prog (globList Tryd.prog 8 laidL) (libO (globList Tryd.prog 8 laidL) (globMem Tryd.prog 8 laidL) libL) := libO_sound fun x hx => by
  simp only [libL, List.mem_cons, List.not_mem_nil, or_false] at hx
  rcases hx with rfl | rfl | rfl
  · exact itoa_sound hasTab enters_itoa
  · exact compare_sound enters_compare
  · exact text_sound hasTab enters_text

/-! ## slices.Grow at nil, by the kit's contract -/
def growRen : Go.Shelf.Ren := ⟨fun | 4 => 63 | n => n, fun | 0 => 0 | 3 => 3 | 4 => 4 | 9 => 9 | 20 => 20 | 22 => 29 | 25 => 3 | n => n, fun | n => n⟩
theorem growLay : Go.Proofs.Lays8.n4 Tryd.prog growRen := {
  mixed := by kernel_rfl
  f4 := ⟨"slices.Grow[[]int,int]", by decide, Tryd.func63.trans (congrArg some (by kernel_rfl))⟩
  t0 := Tryd.underlying0
  a0 := Tryd.isAgg0
  z0 := Tryd.sizeOf0
  v0 := Tryd.zeroValue0
  t3 := Tryd.underlying3
  a3 := Tryd.isAgg3
  z3 := Tryd.sizeOf3
  v3 := Tryd.zeroValue3
  t4 := Tryd.underlying4
  a4 := Tryd.isAgg4
  z4 := Tryd.sizeOf4
  v4 := Tryd.zeroValue4
  t9 := Tryd.underlying9
  a9 := Tryd.isAgg9
  z9 := Tryd.sizeOf9
  v9 := Tryd.zeroValue9
  t20 := Tryd.underlying20
  a20 := Tryd.isAgg20
  z20 := Tryd.sizeOf20
  v20 := Tryd.zeroValue20
  t22 := Tryd.underlying29
  a22 := Tryd.isAgg29
  z22 := Tryd.sizeOf29
  v22 := Tryd.zeroValue29 }
theorem int_info0 : (match Tryd.prog.info? 3 with | some i => decide (i.size = 1) && decide (i.bytes = 8) && (match i.zero with | some (.int .i64 n) => decide (n = 0) | _ => false) | none => false) = true := by kernel_rfl
theorem int_info : ∃ i0, Tryd.prog.info? 3 = some i0 ∧ i0.zero = some (.int .i64 0) ∧ i0.size = 1 ∧ i0.bytes = 8 := by
  have h := int_info0
  generalize Tryd.prog.info? 3 = o at *
  cases o with
  | none => cases h
  | some i =>
    simp only [Bool.and_eq_true, decide_eq_true_eq] at h
    obtain ⟨⟨h1, h2⟩, h3⟩ := h
    refine ⟨i, rfl, ?_, h1, h2⟩
    split at h3
    · rename_i n hz
      rw [hz, of_decide_eq_true h3]
    · cases h3
theorem grow_calls (n : Nat) (w : World) (h0 : 0 < n) (hn : n ≤ 1000000) : Calls Tryd.prog 63 #[.slice none 0 0, .int .i64 n] w fun r w' => ∃ cap cs, r = .returned (.slice (some ⟨w.heap.size, 0, none⟩) 0 cap) ∧ w'.heap = w.heap.push (.cells cs 3 (0, 0)) ∧ w'.tape = w.tape ∧ w'.os = w.os ∧ w'.output = w.output ∧ cap * Tryd.prog.cellsOf 3 ≤ cs.size := by
  obtain ⟨i0, h1, h2, h3, h4⟩ := int_info
  refine (Any8.slices_Grow_grow growLay i0 (.int .i64 0) h1 h2 (by omega) none 0 0 n [] w (Nat.le_refl _) (by omega) (by rw [h4]; omega) (by omega) (by simp) (fun _ => rfl) (fun a ha => by cases ha)).mono ?_
  rintro r w' ⟨rfl, rfl⟩
  refine ⟨_, _, rfl, rfl, rfl, rfl, rfl, ?_⟩
  rw [cellsOf_info h1, h3]
  have e : (Value.int .i64 0).cells.size = 1 := rfl
  simp only [Array.size_append, zeroCells_size, e]
  omega
theorem enters_grow : Am.Enters Tryd.prog 63 := ⟨_, Tryd.func63, by kernel_rfl, by kernel_rfl⟩

noncomputable def allO : Oracle := growO 63 3 (libO (globList Tryd.prog 8 laidL) (globMem Tryd.prog 8 laidL) libL)
theorem osound : OSound Tryd.prog (globList Tryd.prog 8 laidL) allO := growO_sound osound0 enters_grow grow_calls
/-- the surroundings of all walks -/
noncomputable abbrev env : Env := lawEnvX Tryd.prog 8 laidL allO
def allL : List FuncId := 63 :: libL.map (·.1)
theorem env_none {f : FuncId} (h : f ∉ 63 :: libL.map (·.1)) : env.O f = none := by
  show growO _ _ _ f = none
  rw [growO_ne (fun e => h (by rw [e]; simp))]
  refine libO_none ?_
  rw [List.lookup_eq_none_iff]
  intro p hp
  by_cases e : f = p.1
  · exact absurd (List.mem_cons_of_mem _ (List.mem_map.2 ⟨p, hp, e.symm⟩)) h
  · simpa using e

theorem itoa_fun (n : Int) (h : -9223372036854775808 ≤ n ∧ n ≤ 9223372036854775807) : VFun env 58 [.int .i64 n] (st (Lib.itoa n)) :=
  lib_funX (growO_ne (by decide)) rfl fun m F xs h1 => by
    cases h1 with
    | cons h1 t =>
      cases t; cases h1
      exact ⟨_, by simp only [itoaF]; rw [if_pos h], .str _⟩
theorem compare_fun (a b : List UInt8) : VFun env 62 [.str (bs a), .str (bs b)] (.p (.int .i64 (Lib.compareBytes a b))) :=
  lib_funX (growO_ne (by decide)) rfl fun m F xs h1 => by
    cases h1 with
    | cons h1 t =>
      cases t with
      | cons h2 t =>
        cases t; cases h1; cases h2
        exact ⟨.int .i64 (Lib.compareBytes a b), by simp only [compareF, bs_data], .int _ _⟩
theorem text_fun (l : List Nat) (hl : Num.Lim l) (hn : l.length < 1000000000) : VFun env 55 [.lst 76 (cells l) l.length] (st (Num.textL l)) :=
  lib_funX (growO_ne (by decide)) rfl fun m F xs h1 => textF_run hl hn h1
theorem allO_grow : allO 63 = some (growF 3) := by unfold allO; exact growO_at
/-- Grow(nil, n): an own slice without elements -/
theorem grow_fun (n : Nat) (h0 : 0 < n) (hn : n ≤ 1000000) : VFunV env 63 [.val (.slice none 0 0), .int .i64 (n : Int)] 3 [] 0 false := by
  intro m F σ xs h1 h2
  have h2' : RFs m F [.val (.slice none 0 0), .int .i64 (n : Int)] xs := RFs.ofRPs h2
  have e : xs = [.slice none 0 0, .int .i64 (n : Int)] := by
    cases h2' with
    | cons a t =>
      cases t with
      | cons b t =>
        cases t
        cases a
        cases b
        rfl
  subst e
  obtain ⟨c1, c2, c3, c4⟩ := slice_new (e := 3) (cs := []) (vs := []) 0 h1 .nil rfl
  refine ACalls.oracle (F := growF 3) (m' := (newSlice m 3 [] 0).2) (v := (newSlice m 3 [] 0).1) allO_grow ?_ ⟨_, _, _, F, _, ⟨rfl, rfl, rfl⟩, c1, c4, c2⟩
  simp only [growF]
  rw [if_pos (by omega)]
end Go.Proofs.YtabjkjgpaahbhaaDoor
