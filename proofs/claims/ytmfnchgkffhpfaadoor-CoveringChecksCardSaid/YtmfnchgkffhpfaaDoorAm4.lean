/-
  The abstract machine: writing cells, slices, append, copy, make: sound. No condition. Nothing of one program stands here.
-/
import Derived.Test.YtmfnchgkffhpfaaDoorAm3
import Derived.Lib.Strings
namespace Go.Am
variable {P : Program} {G : List Nat}

/-! ## Lists -/
theorem getD_eq (l : List Value) (i : Nat) : l.getD i undef = (l[i]?).getD undef := List.getD_eq_getElem?_getD

theorem splice_length (l : List Value) : ∀ (vs : List Value) (o : Nat), (splice vs o l).length = vs.length := by
  induction l with
  | nil => intro vs o; rfl
  | cons v l ih => intro vs o; simp [splice, ih]

theorem splice_get (l : List Value) : ∀ (vs : List Value) (o j : Nat), o + l.length ≤ vs.length →
    (splice vs o l)[j]? = if o ≤ j ∧ j < o + l.length then l[j - o]? else vs[j]? := by
  induction l with
  | nil => intro vs o j _; simp [splice]; intro h1 h2; omega
  | cons v l ih =>
    intro vs o j h
    simp only [List.length_cons] at h
    simp only [splice]
    rw [ih _ _ _ (by simp; omega)]
    by_cases h1 : o + 1 ≤ j ∧ j < o + 1 + l.length
    · rw [if_pos h1, if_pos (by simp; omega)]
      have : j - o = (j - (o + 1)) + 1 := by omega
      rw [this]; rfl
    · rw [if_neg h1]
      by_cases h2 : j = o
      · subst h2
        rw [if_pos (by simp)]
        simp [List.getElem?_set]
        omega
      · rw [if_neg (by simp; omega), List.getElem?_set_ne (by omega)]

theorem repeat_length (z : List Value) (n : Nat) : (repeatCells z n).length = n * z.length := by
  induction n with
  | zero => simp [repeatCells]
  | succ n ih => simp [repeatCells, ih, Nat.succ_mul, Nat.add_comm]

theorem repeat_get (z : List Value) (n : Nat) : ∀ i, i < n * z.length → (repeatCells z n)[i]? = z[i % z.length]? := by
  induction n with
  | zero => intro i h; simp at h
  | succ n ih =>
    intro i h
    simp only [repeatCells]
    rw [Nat.succ_mul] at h
    by_cases h1 : i < z.length
    · rw [List.getElem?_append_left h1, Nat.mod_eq_of_lt h1]
    · rw [List.getElem?_append_right (by omega), ih _ (by omega)]
      congr 1
      rw [Nat.mod_eq_sub_mod (by omega : z.length ≤ i)]

theorem repeat_array (z : List Value) (n : Nat) (hz : 0 < z.length) : ((Array.range (n * z.length)).map fun i => (z.toArray[i % z.toArray.size]! : Value)) = (repeatCells z n).toArray := by
  apply Array.ext'
  simp only [Array.toList_map, Array.toList_range]
  apply List.ext_getElem?
  intro i
  by_cases hi : i < n * z.length
  · have hm : i % z.length < z.length := Nat.mod_lt _ hz
    rw [List.getElem?_map, List.getElem?_range hi, repeat_get z n i hi, List.getElem?_eq_getElem hm]
    simp [hm]
  · rw [List.getElem?_eq_none (by simpa using hi), List.getElem?_eq_none (by rw [repeat_length]; omega)]

theorem LRel.repeat {ι : Inj} {g : Nat → Nat} {z : List Value} (h : z.all plainCell = true) (n : Nat) : LRel ι g (repeatCells z n) (repeatCells z n) := by
  refine LRel.plain ?_
  induction n with
  | zero => rfl
  | succ n ih => simp only [repeatCells, List.all_append, h, ih, Bool.and_self]

theorem LRel.map_plain {ι : Inj} {g : Nat → Nat} (l : List UInt8) : LRel ι g (l.map fun c => Value.int .u8 c.toNat) (l.map fun c => Value.int .u8 c.toNat) :=
  LRel.plain (by simp [plainCell])

theorem LRel.all_isCell {ι : Inj} {g : Nat → Nat} {l l' : List Value} (h : LRel ι g l l') (ha : l.all isCell = true) : ∀ v ∈ l', v.oneCell' = true := by
  intro v hv
  obtain ⟨i, hi, rfl⟩ := List.getElem_of_mem hv
  have hi0 : i < l.length := h.1 ▸ hi
  have := h.2 i hi0
  rw [getD_lt hi0, getD_lt hi] at this
  exact this.oneCell (List.all_eq_true.1 ha _ (List.getElem_mem hi0))

/-! ## Writing -/
/-- what a run of stores does to one row -/
def RowSet (w w' : World) (c : Nat) (cs cs' : Array Value) (e : TypeId) (fr : Nat × Nat) (o : Nat) (l : List Value) : Prop :=
  w'.heap[c]? = some (.cells cs' e fr) ∧ cs'.size = cs.size ∧ (∀ j, cs'[j]? = if o ≤ j ∧ j < o + l.length then l[j - o]? else cs[j]?) ∧
  (∀ d, d ≠ c → w'.heap[d]? = w.heap[d]?) ∧ w'.heap.size = w.heap.size ∧ w'.tape = w.tape ∧ w'.os = w.os ∧ w'.output = w.output

theorem storeCells_run (c : Nat) (e : TypeId) (fr : Nat × Nat) (off : Nat) : ∀ (l : List Value) (i : Nat) (w : World) (cs : Array Value),
    w.heap[c]? = some (.cells cs e fr) → (∀ v ∈ l, v.oneCell' = true) → off + i + l.length ≤ cs.size → (∀ j, j < cs.size → ¬ (fr.1 ≤ j ∧ j < fr.2)) →
    ∃ w' cs', (storeCells ⟨c, off, none⟩ l i).run P w = .ok () w' ∧ RowSet w w' c cs cs' e fr (off + i) l
  | [], i, w, cs, h, _, _, _ => ⟨w, cs, rfl, h, rfl, fun j => by rw [if_neg (by rw [List.length_nil]; omega)], fun _ _ => rfl, rfl, rfl, rfl, rfl⟩
  | v :: l, i, w, cs, h, hone, hle, hfr => by
    simp only [List.length_cons] at hle
    have hlt : off + i < cs.size := by omega
    have hcell : w.cell? ⟨c, off + i, none⟩ = some cs[off + i] := by rw [cell_of_row h]; exact Array.getElem?_eq_getElem hlt
    have hfz : w.frozen? ⟨c, off + i, none⟩ = false := by
      rw [frozen_of_row h]
      have := hfr (off + i) hlt
      by_cases h1 : fr.1 ≤ off + i
      · have h2 : ¬ (off + i < fr.2) := fun h2 => this ⟨h1, h2⟩
        simp [h2]
      · simp [h1]
    have hs : (store ⟨c, off + i, none⟩ v).run P w = .ok () (w.setCell ⟨c, off + i, none⟩ v) := by
      rw [run_store P w _ v _ (hone v (by simp)), hcell, hfz]; rfl
    have hrow : (w.setCell ⟨c, off + i, none⟩ v).heap[c]? = some (.cells (cs.setIfInBounds (off + i) v) e fr) := by
      simp only [World.setCell, Array.getElem?_modify, h]; simp
    have hoth : ∀ d, d ≠ c → (w.setCell ⟨c, off + i, none⟩ v).heap[d]? = w.heap[d]? := fun d hd => by
      simp only [World.setCell, Array.getElem?_modify]; rw [if_neg (by simpa using fun e => hd e.symm)]
    obtain ⟨w', cs', hr, h1, h2, h3, h4, h5, h6, h7, h8⟩ := storeCells_run c e fr off l (i + 1) (w.setCell ⟨c, off + i, none⟩ v) (cs.setIfInBounds (off + i) v) hrow
      (fun u hu => hone u (by simp [hu])) (by rw [Array.size_setIfInBounds]; omega) (by simpa using hfr)
    refine ⟨w', cs', ?_, h1, by simpa using h2, fun j => ?_, fun d hd => (h4 d hd).trans (hoth d hd), by simpa using h5, by rw [h6]; rfl, by rw [h7]; rfl, by rw [h8]; rfl⟩
    · simp only [storeCells, Sem.run_bind, addr_add, hs, Result.andThen_ok]
      exact hr
    · rw [h3 j]
      by_cases hj : off + (i + 1) ≤ j ∧ j < off + (i + 1) + l.length
      · rw [if_pos hj, if_pos (by simp; omega)]
        have : j - (off + i) = (j - (off + (i + 1))) + 1 := by omega
        rw [this]; rfl
      · rw [if_neg hj]
        by_cases h2 : j = off + i
        · subst h2
          rw [if_pos (by simp)]
          simp [hlt]
        · rw [if_neg (by simp; omega), Array.getElem?_setIfInBounds_ne (by omega)]

theorem Mem.gen_eq {m : Mem} {b : Nat} {vs : List Value} {e : TypeId} {g : Nat} {ro : Bool} (h : m.get b = .cells vs e g ro) : m.gen b = g := by
  unfold Mem.gen; rw [h]; rfl
theorem Mem.ro_eq {m : Mem} {b : Nat} {vs : List Value} {e : TypeId} {g : Nat} {ro : Bool} (h : m.get b = .cells vs e g ro) : m.ro b = ro := by
  unfold Mem.ro; rw [h]; rfl

theorem storeRow_sound {ι : Inj} {m m' : Mem} {w : World} {a a' : Addr} {l l' : List Value} (hs : Sim P G ι m w) (ha : ARel ι m.gen a a') (hl : LRel ι m.gen l l')
    (h : storeRow m a l = some m') : ∃ w' ι', (storeCells a' l').run P w = .ok () w' ∧ Ext ι m w ι' m' w' ∧ Sim P G ι' m' w' := by
  unfold storeRow at h
  split at h
  · rename_i vs e g hg
    split at h
    · rename_i hc
      simp only [Bool.and_eq_true, beq_iff_eq, decide_eq_true_eq] at hc
      obtain ⟨⟨⟨hgen, hle⟩, hpos⟩, hall⟩ := hc
      cases h
      obtain ⟨ib, hb, _, ha'⟩ := ha
      have hcur := ha' (by rw [hgen, Mem.gen_eq hg])
      obtain ⟨cs, fr, e', hrow, hlim, hesz, hrel, hfr0⟩ := cells_of hs hb hg
      obtain ⟨rfl, hfr1⟩ := hfr0 rfl
      have hfr : ∀ (_ : false = false) j, j < cs.size → ¬ (fr.1 ≤ j ∧ j < fr.2) := fun _ => hfr1
      have hsz : (a.off + ib.sh) + 0 + l'.length ≤ cs.size := by
        obtain ⟨v', h2, _⟩ := hrel (a.off + l.length - 1) (by omega)
        have := (Array.getElem?_eq_some_iff.1 h2).1
        rw [← hl.1]; omega
      obtain ⟨w', cs', hrun, r1, r2, r3, r4, r5, r6, r7, r8⟩ := storeCells_run (P := P) ib.blk e' fr (a.off + ib.sh) l' 0 w cs hrow (hl.all_isCell hall) hsz (hfr rfl)
      have hro : m.ro a.block = false := Mem.ro_eq hg
      obtain ⟨ι', hext, hsim, _⟩ := upd_core (x := .cells (splice vs a.off l) e' g false) (ib' := ib) (w' := w') (obj := .cells cs' e' fr) hs hb hro rfl
        ⟨by rw [Mem.gen_eq hg]; exact Nat.le_refl _, fun _ => rfl⟩ (.inl rfl) r1 (fun c _ hne => r4 c hne) (by omega) r6 r7 r8 (fun ι' g' hle' => by
          refine ⟨fun _ => rfl, by omega, hesz, fun i hi => ?_, fun _ j hj => hfr rfl j (by omega)⟩
          rw [splice_length] at hi
          rw [r3, getD_eq, splice_get _ _ _ _ hle]
          by_cases hin : a.off ≤ i ∧ i < a.off + l.length
          · rw [if_pos hin, if_pos (by rw [← hl.1]; omega)]
            have e1 : ib.sh + i - (a.off + ib.sh + 0) = i - a.off := by omega
            rw [e1]
            have hlt : i - a.off < l.length := by omega
            obtain ⟨v', h1, h2⟩ := hl.get (List.getElem?_eq_getElem hlt)
            refine ⟨v', h1, ?_⟩
            rw [List.getElem?_eq_getElem hlt]
            exact h2.mono hle'
          · rw [if_neg hin, if_neg (by rw [← hl.1]; omega)]
            obtain ⟨v', h1, h2⟩ := hrel i hi
            exact ⟨v', h1, by rw [← getD_eq]; exact h2.mono hle'⟩)
      exact ⟨w', ι', by rw [hcur]; exact hrun, hext, hsim⟩
    · cases h
  · cases h

theorem astore_sound {ι : Inj} {m m' : Mem} {w : World} {t : TypeId} {a a' : Addr} {v v' : Value} (hs : Sim P G ι m w) (ha : ARel ι m.gen a a') (hv : VRel ι m.gen v v')
    (h : astore P t a v m = some m') : ∃ w' ι', (storeVar t a' v').run P w = .ok () w' ∧ Ext ι m w ι' m' w' ∧ Sim P G ι' m' w' := by
  unfold astore at h
  split at h
  · rename_i i hi
    split at h
    · rename_i hsz
      obtain ⟨w', ι', hr, hx⟩ := storeRow_sound hs ha hv.cells h
      refine ⟨w', ι', ?_, hx⟩
      have : v'.cells.size = i.size := by
        have := hv.cells.1
        simp only [Array.length_toList] at this
        omega
      simp only [storeVar, Sem.run_bind, run_sizeOf' hi, Result.andThen_ok, this, ne_eq, not_true_eq_false, if_false]
      exact hr
    · cases h
  · cases h

/-! ## Slices -/
theorem size_data (s : ByteArray) : s.data.toList.length = s.size := rfl

theorem sliceCells_sound {ι : Inj} {m : Mem} {w : World} {size n : Nat} {s s' : Value} {l : List Value} (hs : Sim P G ι m w) (hv : VRel ι m.gen s s')
    (h : sliceCells m size n s = some l) : ∃ l', (Builtin.firstCells size n s').run P w = .ok l'.toArray w ∧ LRel ι m.gen l l' := by
  unfold sliceCells at h
  split at h
  · split at h
    · cases h; cases hv
      exact ⟨[], by simp [Builtin.firstCells], LRel.nil⟩
    · cases h
  · split at h
    · rename_i hn
      cases h; cases hv with
      | slE b o s a' => exact ⟨[], by subst hn; simp only [Builtin.firstCells, Nat.zero_mul, loadCells, loadCellsFrom]; rfl, LRel.nil⟩
    · cases h
  · rename_i b off len g
    split at h
    · rename_i hn
      cases hv with
      | sl _ _ _ _ a' cap hsr =>
        by_cases h0 : n = 0
        · subst h0
          obtain ⟨vs, e, g', ro, hg, hag, hgen, hlen, hl⟩ := cellsAt_some h
          refine ⟨[], by simp only [Builtin.firstCells, Nat.zero_mul, loadCells, loadCellsFrom]; rfl, ?_⟩
          rw [hl]; simp [LRel.nil]
        · obtain ⟨ib, hb, hle, h3, hcur⟩ := hsr
          obtain ⟨vs, e, g', ro, hg, hag, hgen, hlen, hl⟩ := cellsAt_some h
          have hgg : g = m.gen b := by rw [hgen]; exact hag
          obtain ⟨h1, h2, h4⟩ := hcur hgg
          have h5 : a'.off = off + ib.sh := by
            rcases h4 with h4 | h4
            · omega
            · exact h4.1
          have ha' : a' = ⟨ib.blk, off + ib.sh, none⟩ := by
            obtain ⟨x, y, z⟩ := a'
            simp at h1 h2 h5
            simp [h1, h2, h5]
          obtain ⟨l', hrel, hl', hcell⟩ := cellsAt_run (a' := a') hs ⟨ib, hb, by simp [agen, hgg], fun _ => ha'⟩ h
          refine ⟨l', ?_, hrel⟩
          have := run_loadCells_list (P := P) w a' l' hcell
          rw [hl'] at this
          simp only [Builtin.firstCells]
          exact this
    · cases h
  · rename_i s
    split at h
    · rename_i hn
      cases h; cases hv
      refine ⟨_, ?_, LRel.map_plain _⟩
      simp only [Builtin.firstCells, Sem.run_pure]
      congr 1
      apply Array.ext'
      rw [Array.toList_map, Lib.extract_data]
      simp
    · cases h
  · cases h

theorem lenOf_sound {ι : Inj} {g : Nat → Nat} {s s' : Value} {n : Nat} (hv : VRel ι g s s') (h : lenOf s = some n) (w : World) : (Builtin.lenOf s').run P w = .ok n w := by
  unfold lenOf at h
  split at h
  · cases h; cases hv <;> rfl
  · cases h; cases hv; rfl
  · cases h

/-- a new slice in a new block -/
theorem newSlice_sound {ι : Inj} {m : Mem} {w w' : World} {e : TypeId} {l : List Value} {n cap : Nat} {cs : Array Value} (hs : Sim P G ι m w) (hw' : w'.heap = w.heap.push (.cells cs e (0, 0)))
    (ht : w'.tape = w.tape) (ho : w'.os = w.os) (hou : w'.output = w.output) (hl : ∀ i, i < l.length → ∃ v', cs[i]? = some v' ∧ VRel ι m.gen (l.getD i undef) v')
    (hn : n ≤ cap) (hcap : cap = 0 ∨ cap * P.cellsOf e ≤ cs.size) :
    Post P G ι m w (newSlice m e l n).1 (newSlice m e l n).2 (.slice (some ⟨w.heap.size, 0, none⟩) n cap) w' := by
  obtain ⟨ι', hext, hsim, hb⟩ := alloc_core (x := .cells l e 0 false) (ib := ⟨w.heap.size, 0, cs.size, P.cellsOf e⟩) hs hw' ht ho hou rfl
    ⟨fun _ => rfl, rfl, rfl, fun i hi => by simpa using hl i hi, fun _ j _ => by simp⟩ rfl
  refine ⟨ι', hext, hsim, .sl _ _ _ _ _ _ ⟨_, hb, Nat.zero_le _, hn, fun _ => ⟨rfl, rfl, ?_⟩⟩⟩
  rcases hcap with h | h
  · exact .inl h
  · exact .inr ⟨rfl, by simpa using h⟩

theorem growBy_le (n : Nat) : ∀ (r c : Nat), c ≤ n + (n + 768) / 4 → Builtin.growBy n r c ≤ n + (n + 768) / 4
  | 0, c, h => h
  | r + 1, c, h => by
    simp only [Builtin.growBy]
    split
    · exact h
    · exact growBy_le n r _ (by omega)

theorem nextslicecap_le (n c : Nat) (h : c < n) : Builtin.nextslicecap n c ≤ 2 * n + 192 := by
  unfold Builtin.nextslicecap
  split
  · omega
  · split
    · omega
    · have := growBy_le n 4 c (by omega); omega

theorem append_room {need bytes c : Nat} (h : need * (bytes + 1) ≤ room) (hc : c < need) : Builtin.nextslicecap need c * bytes ≤ 2 ^ 48 := by
  have h1 := nextslicecap_le need c hc
  have h2 : bytes + 1 ≤ room := by
    refine Nat.le_trans ?_ h
    have : 1 * (bytes + 1) ≤ need * (bytes + 1) := Nat.mul_le_mul_right _ (by omega)
    omega
  have h3 : Builtin.nextslicecap need c * bytes ≤ (2 * need + 192) * bytes := Nat.mul_le_mul_right _ h1
  have h4 : need * bytes ≤ room := Nat.le_trans (Nat.mul_le_mul_left _ (by omega)) h
  have h5 : (2 * need + 192) * bytes = 2 * (need * bytes) + 192 * bytes := by rw [Nat.add_mul, Nat.mul_assoc]
  have h6 : room = 2 ^ 40 := rfl
  omega

/-- the tail of 'append', its operands read -/
def appendTail (e : TypeId) (size : Nat) (zeros : Bool) (n : Nat) (x : Value) (base : Option Addr) (sLen sCap : Nat) (appended : Sem (Array Value)) : Sem Value := do
  let need := sLen + n
  if need ≤ sCap then
    let new ← appended
    if let some a := base then storeCells (a.add (sLen * size)) new.toList
    pure (.slice base need sCap)
  else
    if (need : Int) > IntKind.i64.max ∧ (zeros ∨ (← typeInfo e).bytes = 0) then runtimePanic (.error "growslice: len out of range")
    if Builtin.nextslicecap need sCap * (← typeInfo e).bytes > 2 ^ 48 then (if zeros then runtimePanic (.error "growslice: len out of range") else do
      if !(← Builtin.mayShare size sLen n base x) then mark .noRoom
      unsupported (.resourceLimit "append: a slice or a string whose bytes no memory bears"))
    let newCap ← choose (.appendCap need sCap e)
    askRoom (newCap * (← typeInfo e).bytes)
    let old ← Builtin.firstCells size sLen (.slice base sLen sCap)
    let new ← appended
    let rest := Builtin.zeroCells (← zeroValue e).cells (newCap - need)
    pure (.slice (some (← newRow e (old ++ new ++ rest))) need newCap)

theorem zeroCells_size (z : Array Value) (n : Nat) : (Builtin.zeroCells z n).size = n * z.size := by simp [Builtin.zeroCells]

/-- the room is there: 'append' moves to a new array -/
theorem appendTail_grows {e : TypeId} {i : TypeInfo} {size n : Nat} {zeros : Bool} {x : Value} {base : Option Addr} {sLen sCap : Nat} {ap : Sem (Array Value)} {w : World} {old new : List Value} {z : Value}
    (hi : P.info? e = some i) (hz : i.zero = some z) (hneed : ¬ sLen + n ≤ sCap) (hroom : (sLen + n) * (i.bytes + 1) ≤ room)
    (hold : ∀ k, (Builtin.firstCells size sLen (.slice base sLen sCap)).run P { w with drawn := k } = .ok old.toArray { w with drawn := k })
    (hap : ∀ k, ap.run P { w with drawn := k } = .ok new.toArray { w with drawn := k }) :
    ∃ cap, sLen + n ≤ cap ∧ (appendTail e size zeros n x base sLen sCap ap).run P w =
      .ok (.slice (some ⟨w.heap.size, 0, none⟩) (sLen + n) cap) { w with heap := w.heap.push (.cells (old.toArray ++ new.toArray ++ Builtin.zeroCells z.cells (cap - (sLen + n))) e (0, 0)), drawn := w.drawn + 1 } := by
  let q : Question := .appendCap (sLen + n) sCap e
  refine ⟨q.cut (w.tape w.drawn q), ?_, ?_⟩
  · show sLen + n ≤ sLen + n + _ % _
    omega
  · have h1 : ¬ ((sLen + n : Nat) : Int) > IntKind.i64.max := by
      have h2 : sLen + n ≤ room := Nat.le_trans (Nat.le_mul_of_pos_right _ (by omega)) hroom
      have h3 : room = 2 ^ 40 := rfl
      rw [IntKind.max_i64]
      omega
    have h2 : ¬ Builtin.nextslicecap (sLen + n) sCap * i.bytes > 2 ^ 48 := by have := append_room hroom (c := sCap) (by omega); omega
    have h3 : (Question.appendCap (sLen + n) sCap e).forced = false := rfl
    have ho := hold (w.drawn + 1)
    have ha := hap (w.drawn + 1)
    have hzv : ∀ w, (zeroValue e).run P w = .ok z w := fun w => by simp [zeroValue, run_typeInfo' hi, hz]
    simp only [appendTail]
    rw [if_neg hneed]
    simp only [Sem.run_bind, run_typeInfo' hi, Result.andThen_ok, h1, false_and, if_false, Sem.run_pure, h2, run_choose, h3, Bool.false_eq_true, run_askRoom, ho, ha, hzv, newRow, run_newObj]
    rfl

end Go.Am
