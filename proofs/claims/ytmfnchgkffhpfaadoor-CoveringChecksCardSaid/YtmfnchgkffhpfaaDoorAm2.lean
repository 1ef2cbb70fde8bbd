/-
  The abstract machine: the relation between abstract and real values and memories, and how it is kept. No condition. Nothing of one program stands here.
-/
import Derived.Test.YtmfnchgkffhpfaaDoorAm1
import Derived.Laws.Sem
import Derived.Laws.World
import Derived.Laws.Cells
import Derived.Laws.Entries
namespace Go.Am

/-- where an abstract block lies: the real block, the shift of its cells, the real block's size, the cells of an element -/
structure IB where
  blk : Nat
  sh : Nat
  lim : Nat
  esz : Nat

abbrev Inj := Nat → Option IB

def ARel (ι : Inj) (g : Nat → Nat) (a a' : Addr) : Prop :=
  ∃ ib, ι a.block = some ib ∧ agen a ≤ g a.block ∧ (agen a = g a.block → a' = ⟨ib.blk, a.off + ib.sh, none⟩)

def SRel (ι : Inj) (g : Nat → Nat) (b off len gen : Nat) (a' : Addr) (cap : Nat) : Prop :=
  ∃ ib, ι b = some ib ∧ gen ≤ g b ∧ len ≤ cap ∧ (gen = g b → a'.block = ib.blk ∧ a'.spot = none ∧ (cap = 0 ∨ (a'.off = off + ib.sh ∧ a'.off + cap * ib.esz ≤ ib.lim)))

inductive VRel (ι : Inj) (g : Nat → Nat) : Value → Value → Prop
  | bool (b : Bool) : VRel ι g (.bool b) (.bool b)
  | int (k : IntKind) (n : Int) : VRel ι g (.int k n) (.int k n)
  | flt (k : FloatKind) (n : Nat) : VRel ι g (.float k n) (.float k n)
  | str (s : ByteArray) : VRel ι g (.string s) (.string s)
  | ptrN : VRel ι g (.pointer none) (.pointer none)
  | ptr (a a' : Addr) (h : ARel ι g a a') : VRel ι g (.pointer (some a)) (.pointer (some a'))
  | slN : VRel ι g (.slice none 0 0) (.slice none 0 0)
  | slE (b o s : Nat) (a' : Addr) : VRel ι g (.slice (some ⟨b, o, some s⟩) 0 0) (.slice (some a') 0 0)
  | sl (b off len gen : Nat) (a' : Addr) (cap : Nat) (h : SRel ι g b off len gen a' cap) : VRel ι g (.slice (some ⟨b, off, none⟩) len gen) (.slice (some a') len cap)
  | mapN : VRel ι g (.map none) (.map none)
  | map (r c : Nat) (ib : IB) (h : ι r = some ib) (hc : g r = 0 → c = ib.blk) : VRel ι g (.map (some r)) (.map (some c))
  | nilF : VRel ι g .nilFunc .nilFunc
  | nilI : VRel ι g .nilIface .nilIface
  | fn (f : FuncId) (fs fs' cs cs' : List Value) (h1 : fs.length = fs'.length) (h2 : ∀ i, i < fs.length → VRel ι g (fs.getD i undef) (fs'.getD i undef))
      (h3 : cs.length = cs'.length) (h4 : ∀ i, i < cs.length → VRel ι g (cs.getD i undef) (cs'.getD i undef)) : VRel ι g (.func (.func f) ⟨fs⟩ ⟨cs⟩) (.func (.func f) ⟨fs'⟩ ⟨cs'⟩)
  | agg (l l' : List Value) (h1 : l.length = l'.length) (h2 : ∀ i, i < l.length → VRel ι g (l.getD i undef) (l'.getD i undef)) : VRel ι g (.agg ⟨l⟩) (.agg ⟨l'⟩)
  | tuple (l l' : List Value) (h1 : l.length = l'.length) (h2 : ∀ i, i < l.length → VRel ι g (l.getD i undef) (l'.getD i undef)) : VRel ι g (.tuple ⟨l⟩) (.tuple ⟨l'⟩)

def LRel (ι : Inj) (g : Nat → Nat) (l l' : List Value) : Prop :=
  l.length = l'.length ∧ ∀ i, i < l.length → VRel ι g (l.getD i undef) (l'.getD i undef)


def Le (ι : Inj) (g : Nat → Nat) (ι' : Inj) (g' : Nat → Nat) : Prop :=
  ∀ b ib, ι b = some ib → g b ≤ g' b ∧ ∃ ib', ι' b = some ib' ∧ (g' b = g b → ib' = ib)

theorem Le.refl (ι : Inj) (g : Nat → Nat) : Le ι g ι g := fun _ ib h => ⟨Nat.le_refl _, ib, h, fun _ => rfl⟩

theorem Le.trans {ι ι' ι'' : Inj} {g g' g'' : Nat → Nat} (h : Le ι g ι' g') (k : Le ι' g' ι'' g'') : Le ι g ι'' g'' := fun b ib hb => by
  obtain ⟨h1, ib', h2, h3⟩ := h b ib hb
  obtain ⟨k1, ib'', k2, k3⟩ := k b ib' h2
  refine ⟨Nat.le_trans h1 k1, ib'', k2, fun e => ?_⟩
  have e1 : g' b = g b := by omega
  rw [k3 (by omega), h3 e1]

theorem VRel.mono {ι ι' : Inj} {g g' : Nat → Nat} (hl : Le ι g ι' g') {v v' : Value} (h : VRel ι g v v') : VRel ι' g' v v' := by
  induction h with
  | bool b => exact .bool b
  | int k n => exact .int k n
  | flt k n => exact .flt k n
  | str s => exact .str s
  | ptrN => exact .ptrN
  | ptr a a' h =>
    obtain ⟨ib, h1, h2, h3⟩ := h
    obtain ⟨k1, ib', k2, k3⟩ := hl _ _ h1
    exact .ptr a a' ⟨ib', k2, by omega, fun e => by rw [k3 (by omega)]; exact h3 (by omega)⟩
  | slN => exact .slN
  | slE b o s a' => exact .slE b o s a'
  | sl b off len gen a' cap h =>
    obtain ⟨ib, h1, h2, h4, h3⟩ := h
    obtain ⟨k1, ib', k2, k3⟩ := hl _ _ h1
    exact .sl b off len gen a' cap ⟨ib', k2, by omega, h4, fun e => by rw [k3 (by omega)]; exact h3 (by omega)⟩
  | mapN => exact .mapN
  | map r c ib h hc =>
    obtain ⟨k1, ib', k2, k3⟩ := hl _ _ h
    exact .map r c ib' k2 fun e => by rw [k3 (by omega)]; exact hc (by omega)
  | nilF => exact .nilF
  | nilI => exact .nilI
  | fn f fs fs' cs cs' h1 _ h3 _ ih1 ih2 => exact .fn f fs fs' cs cs' h1 ih1 h3 ih2
  | agg l l' h1 _ ih => exact .agg l l' h1 ih
  | tuple l l' h1 _ ih => exact .tuple l l' h1 ih

theorem LRel.mono {ι ι' : Inj} {g g' : Nat → Nat} (hl : Le ι g ι' g') {l l' : List Value} (h : LRel ι g l l') : LRel ι' g' l l' :=
  ⟨h.1, fun i hi => (h.2 i hi).mono hl⟩

theorem VRel.plainCell {ι : Inj} {g : Nat → Nat} {v : Value} (h : plainCell v = true) : VRel ι g v v := by
  unfold Am.plainCell at h
  split at h <;> first
    | exact .bool _
    | exact .int _ _
    | exact .str _
    | exact .flt _ _
    | exact .ptrN
    | exact .slN
    | exact .mapN
    | exact .nilF
    | exact .nilI
    | (rename_i f a b
       obtain ⟨a⟩ := a; obtain ⟨b⟩ := b
       have ha : a = [] := by simp at h; exact h.1
       have hb : b = [] := by simp at h; exact h.2
       subst ha; subst hb
       exact .fn _ [] [] [] [] rfl (fun i hi => absurd hi (by simp)) rfl (fun i hi => absurd hi (by simp)))
    | (simp at h; done)

theorem getD_lt {l : List Value} {i : Nat} {d : Value} (h : i < l.length) : l.getD i d = l[i] := by simp [List.getD, h]

theorem getD_mem {l : List Value} {i : Nat} {d : Value} (h : i < l.length) : l.getD i d ∈ l := by
  rw [getD_lt h]; exact List.getElem_mem h

theorem VRel.plainOne {ι : Inj} {g : Nat → Nat} {v : Value} (h : plainOne v = true) : VRel ι g v v := by
  unfold Am.plainOne at h
  split at h
  · rename_i cs
    obtain ⟨l⟩ := cs
    exact .agg l l rfl fun i hi => VRel.plainCell (List.all_eq_true.1 h _ (getD_mem hi))
  · exact VRel.plainCell h

theorem VRel.plain {ι : Inj} {g : Nat → Nat} {v : Value} (h : plain v = true) : VRel ι g v v := by
  unfold Am.plain at h
  split at h
  · rename_i cs
    obtain ⟨l⟩ := cs
    exact .tuple l l rfl fun i hi => VRel.plainOne (List.all_eq_true.1 h _ (getD_mem hi))
  · exact VRel.plainOne h

theorem ext_getD {l l' : List Value} (h1 : l.length = l'.length) (h2 : ∀ i, i < l.length → l.getD i undef = l'.getD i undef) : l = l' := by
  apply List.ext_getElem h1
  intro i hi hi'
  have := h2 i hi
  rwa [getD_lt hi, getD_lt hi'] at this

theorem VRel.eq_of_plainCell {ι : Inj} {g : Nat → Nat} {v v' : Value} (h : VRel ι g v v') (hp : Am.plainCell v = true) : v' = v := by
  cases h <;> first | rfl | (simp [Am.plainCell] at hp; done) | skip
  rename_i f fs fs' cs cs' h1 _ h3 _
  simp [Am.plainCell] at hp
  obtain ⟨rfl, rfl⟩ := hp
  have e1 : fs' = [] := List.length_eq_zero_iff.1 h1.symm
  have e2 : cs' = [] := List.length_eq_zero_iff.1 h3.symm
  rw [e1, e2]

theorem VRel.eq_of_plainOne {ι : Inj} {g : Nat → Nat} {v v' : Value} (h : VRel ι g v v') (hp : Am.plainOne v = true) : v' = v := by
  unfold Am.plainOne at hp
  split at hp
  · rename_i cs
    cases h with
    | agg l l' h1 h2 =>
      have : l = l' := ext_getD h1 fun i hi => (VRel.eq_of_plainCell (h2 i hi) (List.all_eq_true.1 hp _ (getD_mem hi))).symm
      rw [this]
  · exact h.eq_of_plainCell hp

theorem VRel.eq_of_plain {ι : Inj} {g : Nat → Nat} {v v' : Value} (h : VRel ι g v v') (hp : Am.plain v = true) : v' = v := by
  unfold Am.plain at hp
  split at hp
  · rename_i cs
    cases h with
    | tuple l l' h1 h2 =>
      have : l = l' := ext_getD h1 fun i hi => (VRel.eq_of_plainOne (h2 i hi) (List.all_eq_true.1 hp _ (getD_mem hi))).symm
      rw [this]
  · exact h.eq_of_plainOne hp

theorem VRel.isCell {ι : Inj} {g : Nat → Nat} {v v' : Value} (h : VRel ι g v v') : Am.isCell v' = Am.isCell v := by
  cases h <;> rfl

theorem VRel.oneCell {ι : Inj} {g : Nat → Nat} {v v' : Value} (h : VRel ι g v v') (hc : Am.isCell v = true) : v'.oneCell' = true := by
  cases h <;> first | rfl | simp [Am.isCell] at hc

theorem VRel.undef {ι : Inj} {g : Nat → Nat} : VRel ι g undef undef := .tuple [] [] rfl fun i hi => absurd hi (by simp)

/-- the cells of two related values -/
theorem VRel.cells {ι : Inj} {g : Nat → Nat} {v v' : Value} (h : VRel ι g v v') : LRel ι g v.cells.toList v'.cells.toList := by
  have one : ∀ {v v' : Value}, VRel ι g v v' → LRel ι g [v] [v'] := fun h => ⟨rfl, fun i hi => by
    have : i = 0 := by simpa using hi
    subst this; exact h⟩
  cases h with
  | agg l l' h1 h2 => exact ⟨h1, h2⟩
  | bool b => exact one (.bool b)
  | int k n => exact one (.int k n)
  | flt k n => exact one (.flt k n)
  | str s => exact one (.str s)
  | ptrN => exact one .ptrN
  | ptr a a' h => exact one (.ptr a a' h)
  | slN => exact one .slN
  | slE b o s a' => exact one (.slE b o s a')
  | sl b off len gen a' cap h => exact one (.sl b off len gen a' cap h)
  | mapN => exact one .mapN
  | map r c ib h hc => exact one (.map r c ib h hc)
  | nilF => exact one .nilF
  | nilI => exact one .nilI
  | fn f fs fs' cs cs' h1 h2 h3 h4 => exact one (.fn f fs fs' cs cs' h1 h2 h3 h4)
  | tuple l l' h1 h2 => exact one (.tuple l l' h1 h2)

theorem LRel.plain {ι : Inj} {g : Nat → Nat} {l : List Value} (h : l.all Am.plainCell = true) : LRel ι g l l :=
  ⟨rfl, fun i hi => VRel.plainCell (List.all_eq_true.1 h _ (getD_mem hi))⟩

theorem LRel.nil {ι : Inj} {g : Nat → Nat} : LRel ι g [] [] := ⟨rfl, fun i hi => absurd hi (by simp)⟩

theorem LRel.append {ι : Inj} {g : Nat → Nat} {l l' k k' : List Value} (h : LRel ι g l l') (h2 : LRel ι g k k') : LRel ι g (l ++ k) (l' ++ k') := by
  refine ⟨by simp [h.1, h2.1], fun i hi => ?_⟩
  rw [List.length_append] at hi
  by_cases hl : i < l.length
  · have hl' : i < l'.length := h.1 ▸ hl
    rw [List.getD_eq_getElem?_getD, List.getD_eq_getElem?_getD, List.getElem?_append_left hl, List.getElem?_append_left hl']
    have := h.2 i hl
    rwa [List.getD_eq_getElem?_getD, List.getD_eq_getElem?_getD] at this
  · have e1 : l.length ≤ i := by omega
    have e2 : l'.length ≤ i := h.1 ▸ e1
    rw [List.getD_eq_getElem?_getD, List.getD_eq_getElem?_getD, List.getElem?_append_right e1, List.getElem?_append_right e2]
    have := h2.2 (i - l.length) (by omega)
    rw [List.getD_eq_getElem?_getD, List.getD_eq_getElem?_getD] at this
    rw [h.1] at this ⊢
    exact this

theorem LRel.cons {ι : Inj} {g : Nat → Nat} {v v' : Value} {k k' : List Value} (h : VRel ι g v v') (h2 : LRel ι g k k') : LRel ι g (v :: k) (v' :: k') :=
  LRel.append (l := [v]) (l' := [v']) ⟨rfl, fun i hi => by
    have : i = 0 := by simpa using hi
    subst this; exact h⟩ h2

theorem LRel.uncons {ι : Inj} {g : Nat → Nat} {v : Value} {k l' : List Value} (h : LRel ι g (v :: k) l') : ∃ v' k', l' = v' :: k' ∧ VRel ι g v v' ∧ LRel ι g k k' := by
  obtain ⟨h1, h2⟩ := h
  match l', h1 with
  | v' :: k', h1 =>
    refine ⟨v', k', rfl, h2 0 (by simp), by simpa using h1, fun i hi => ?_⟩
    have := h2 (i + 1) (by simpa using hi)
    simpa using this

theorem LRel.take {ι : Inj} {g : Nat → Nat} {l l' : List Value} (h : LRel ι g l l') (n : Nat) : LRel ι g (l.take n) (l'.take n) := by
  refine ⟨by simp [h.1], fun i hi => ?_⟩
  rw [List.length_take] at hi
  have := h.2 i (by omega)
  rw [List.getD_eq_getElem?_getD, List.getD_eq_getElem?_getD] at *
  rw [List.getElem?_take, List.getElem?_take, if_pos (by omega), if_pos (by omega)]
  exact this

theorem LRel.drop {ι : Inj} {g : Nat → Nat} {l l' : List Value} (h : LRel ι g l l') (n : Nat) : LRel ι g (l.drop n) (l'.drop n) := by
  refine ⟨by simp [h.1], fun i hi => ?_⟩
  rw [List.length_drop] at hi
  have := h.2 (n + i) (by omega)
  rw [List.getD_eq_getElem?_getD, List.getD_eq_getElem?_getD] at *
  rw [List.getElem?_drop, List.getElem?_drop]
  exact this

theorem LRel.get {ι : Inj} {g : Nat → Nat} {l l' : List Value} (h : LRel ι g l l') {i : Nat} {v : Value} (hi : l[i]? = some v) : ∃ v', l'[i]? = some v' ∧ VRel ι g v v' := by
  have hlt : i < l.length := (List.getElem?_eq_some_iff.1 hi).1
  have hlt' : i < l'.length := h.1 ▸ hlt
  refine ⟨l'[i], List.getElem?_eq_getElem hlt', ?_⟩
  have := h.2 i hlt
  rw [List.getD_eq_getElem?_getD, List.getD_eq_getElem?_getD, hi, List.getElem?_eq_getElem hlt'] at this
  exact this

theorem LRel.getD {ι : Inj} {g : Nat → Nat} {l l' : List Value} (h : LRel ι g l l') (i : Nat) : VRel ι g (l.getD i undef) (l'.getD i undef) := by
  by_cases hi : i < l.length
  · exact h.2 i hi
  · have hi' : ¬ i < l'.length := h.1 ▸ hi
    rw [List.getD_eq_getElem?_getD, List.getD_eq_getElem?_getD, List.getElem?_eq_none (by omega), List.getElem?_eq_none (by omega)]
    exact VRel.undef

/-! ## Memories -/
def ERel (ι : Inj) (g : Nat → Nat) (e e' : MapEntry) : Prop := e'.key = e.key ∧ e'.born = e.born ∧ plain e.key = true ∧ VRel ι g e.val e'.val

def EsRel (ι : Inj) (g : Nat → Nat) : List MapEntry → List MapEntry → Prop
  | [], [] => True
  | e :: es, e' :: es' => ERel ι g e e' ∧ EsRel ι g es es'
  | _, _ => False

def BRel (P : Program) (ι : Inj) (g : Nat → Nat) (ib : IB) : ABlk → Option Obj → Prop
  | .cells vs e _ ro, some (.cells cs e' fr) => (ro = false → e' = e) ∧ ib.lim = cs.size ∧ ib.esz = P.cellsOf e ∧
      (∀ i, i < vs.length → ∃ v', cs[ib.sh + i]? = some v' ∧ VRel ι g (vs.getD i undef) v') ∧
      (ro = false → ∀ j, j < cs.size → ¬ (fr.1 ≤ j ∧ j < fr.2))
  | .map es clock, some (.map es' clock') => clock' = clock ∧ EsRel ι g es es'.toList
  | _, _ => False

structure Sim (P : Program) (G : List Nat) (ι : Inj) (m : Mem) (w : World) : Prop where
  dom : ∀ b ib, ι b = some ib → b < m.size ∧ ib.blk < w.heap.size
  blk : ∀ b ib, ι b = some ib → BRel P ι m.gen ib (m.get b) w.heap[ib.blk]?
  inj : ∀ b b' ib ib', ι b = some ib → ι b' = some ib' → ib.blk = ib'.blk → b = b' ∨ (m.ro b = true ∧ m.ro b' = true)
  glob : ∀ k, k ∈ G → ∃ ib, ι k = some ib ∧ ib.blk = k ∧ ib.sh = 0 ∧ m.gen k = 0 ∧ m.ro k = true

structure Ext (ι : Inj) (m : Mem) (w : World) (ι' : Inj) (m' : Mem) (w' : World) : Prop where
  size : m.size ≤ m'.size
  low : m'.low ≤ m.low
  keep : ∀ b, b < m.size → b < m'.low → m'.get b = m.get b
  ro : ∀ b, b < m.size → m.ro b = true → m'.get b = m.get b
  ro' : ∀ b, b < m.size → m'.ro b = m.ro b
  le : Le ι m.gen ι' m'.gen
  back : ∀ b ib', ι' b = some ib' → (∃ ib, ι b = some ib ∧ ib.blk = ib'.blk) ∨ w.heap.size ≤ ib'.blk
  dom : ∀ b ib', ι' b = some ib' → (∃ ib, ι b = some ib) ∨ m.size ≤ b
  heap : w.heap.size ≤ w'.heap.size
  frame : ∀ c, c < w.heap.size → (∀ b ib, ι b = some ib → ib.blk = c → m.ro b = true ∨ b < m'.low) → w'.heap[c]? = w.heap[c]?
  tape : w'.tape = w.tape
  os : w'.os = w.os
  output : w'.output = w.output

theorem gen_of_get {m m' : Mem} {b : Nat} (h : m'.get b = m.get b) : m'.gen b = m.gen b := by unfold Mem.gen; rw [h]
theorem ro_of_get {m m' : Mem} {b : Nat} (h : m'.get b = m.get b) : m'.ro b = m.ro b := by unfold Mem.ro; rw [h]

theorem Ext.refl (ι : Inj) (m : Mem) (w : World) : Ext ι m w ι m w :=
  ⟨Nat.le_refl _, Nat.le_refl _, fun _ _ _ => rfl, fun _ _ _ => rfl, fun _ _ => rfl, Le.refl _ _, fun _ ib h => .inl ⟨ib, h, rfl⟩, fun _ ib h => .inl ⟨ib, h⟩,
    Nat.le_refl _, fun _ _ _ => rfl, rfl, rfl, rfl⟩

theorem Ext.trans {ι ι' ι'' : Inj} {m m' m'' : Mem} {w w' w'' : World} {P : Program} {G : List Nat} (hs : Sim P G ι m w)
    (h : Ext ι m w ι' m' w') (k : Ext ι' m' w' ι'' m'' w'') : Ext ι m w ι'' m'' w'' := by
  refine ⟨Nat.le_trans h.size k.size, Nat.le_trans k.low h.low, fun b hb hl => ?_, fun b hb hr => ?_, fun b hb => ?_, h.le.trans k.le, fun b ib'' hb => ?_, fun b ib'' hb => ?_,
    Nat.le_trans h.heap k.heap, fun c hc hf => ?_, k.tape.trans h.tape, k.os.trans h.os, k.output.trans h.output⟩
  · rw [k.keep b (Nat.lt_of_lt_of_le hb h.size) hl, h.keep b hb (Nat.lt_of_lt_of_le hl k.low)]
  · rw [k.ro b (Nat.lt_of_lt_of_le hb h.size) (by rw [h.ro' b hb]; exact hr), h.ro b hb hr]
  · rw [k.ro' b (Nat.lt_of_lt_of_le hb h.size), h.ro' b hb]
  · rcases k.back b ib'' hb with ⟨ib', h1, h2⟩ | h1
    · rcases h.back b ib' h1 with ⟨ib, h3, h4⟩ | h3
      · exact .inl ⟨ib, h3, h4.trans h2⟩
      · exact .inr (h2 ▸ h3)
    · exact .inr (Nat.le_trans h.heap h1)
  · rcases k.dom b ib'' hb with ⟨ib', h1⟩ | h1
    · exact h.dom b ib' h1
    · exact .inr (Nat.le_trans h.size h1)
  · rw [k.frame c (Nat.lt_of_lt_of_le hc h.heap) ?_, h.frame c hc ?_]
    · intro b ib hb hc'
      rcases hf b ib hb hc' with h1 | h1
      · exact .inl h1
      · exact .inr (Nat.lt_of_lt_of_le h1 k.low)
    · intro b ib' hb hc'
      rcases h.back b ib' hb with ⟨ib, h1, h2⟩ | h1
      · rcases hf b ib h1 (h2.trans hc') with h3 | h3
        · exact .inl (by rw [h.ro' b (hs.dom b ib h1).1]; exact h3)
        · exact .inr h3
      · exact absurd hc (by omega)

/-- what an operation leaves -/
def Post (P : Program) (G : List Nat) (ι : Inj) (m : Mem) (w : World) (v : Value) (m' : Mem) (v' : Value) (w' : World) : Prop :=
  ∃ ι', Ext ι m w ι' m' w' ∧ Sim P G ι' m' w' ∧ VRel ι' m'.gen v v'

theorem Post.same {P : Program} {G : List Nat} {ι : Inj} {m : Mem} {w : World} {v v' : Value} (hs : Sim P G ι m w) (h : VRel ι m.gen v v') : Post P G ι m w v m v' w :=
  ⟨ι, Ext.refl _ _ _, hs, h⟩

end Go.Am
