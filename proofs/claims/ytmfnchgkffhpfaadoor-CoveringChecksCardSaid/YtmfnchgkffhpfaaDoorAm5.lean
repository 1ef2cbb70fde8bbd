/-
  The abstract machine: append, copy, make, maps: sound. No condition. Nothing of one program stands here.
-/
import Derived.Test.YtmfnchgkffhpfaaDoorAm4
namespace Go.Am
variable {P : Program} {G : List Nat}

theorem Sim.drawn {ι : Inj} {m : Mem} {w : World} (hs : Sim P G ι m w) (k : Nat) : Sim P G ι m { w with drawn := k } := ⟨hs.dom, hs.blk, hs.inj, hs.glob⟩

theorem sliceCells_length {m : Mem} {size n : Nat} {s : Value} {l : List Value} (h : sliceCells m size n s = some l) : l.length = n * size := by
  unfold sliceCells at h
  split at h
  · split at h
    · rename_i h0; cases h; simp [h0]
    · cases h
  · split at h
    · rename_i h0; cases h; simp [h0]
    · cases h
  · split at h
    · obtain ⟨vs, e, g', ro, hg, hag, hgen, hlen, hl⟩ := cellsAt_some h
      rw [hl, List.length_take]; omega
    · cases h
  · split at h
    · rename_i h0; cases h; simp [h0.2, size_data]; have := h0.1; omega
    · cases h
  · cases h

theorem zeroSized_some {i : TypeInfo} (h : zeroSized i = true) : ∃ z, i.zero = some z ∧ z.cells.size = i.size := by
  unfold zeroSized at h
  split at h
  · exact ⟨_, by assumption, by simpa using h⟩
  · cases h

theorem newRow_get {old new rest : List Value} {ι : Inj} {g : Nat → Nat} {l : List Value} (h : LRel ι g l (old ++ new)) (i : Nat) (hi : i < l.length) :
    ∃ v', (old.toArray ++ new.toArray ++ rest.toArray)[i]? = some v' ∧ VRel ι g (l.getD i undef) v' := by
  obtain ⟨v', h1, h2⟩ := h.get (List.getElem?_eq_getElem hi)
  refine ⟨v', ?_, by rw [getD_lt hi]; exact h2⟩
  have hlt : i < (old ++ new).length := by rw [← h.1]; exact hi
  simp only [List.append_toArray, List.getElem?_toArray]
  rw [List.getElem?_append_left hlt]
  exact h1

theorem appendCells_sound {ι : Inj} {m m' : Mem} {w : World} {e : TypeId} {i : TypeInfo} {l l' : List Value} {n sLen sCap : Nat} {zeros : Bool} {x s v : Value} {base : Option Addr} {ap : Sem (Array Value)}
    (hs : Sim P G ι m w) (hi : P.info? e = some i) (hz : zeroSized i = true) (hv : VRel ι m.gen s (.slice base sLen sCap)) (hsl : lenOf s = some sLen) (hl : LRel ι m.gen l l') (hlen : l.length = n * i.size)
    (hcell : l.all isCell = true) (hroom : (sLen + n) * (i.bytes + 1) ≤ room) (hap : ∀ k, ap.run P { w with drawn := k } = .ok l'.toArray { w with drawn := k })
    (h : appendCells m e i.size l n s = some (v, m')) :
    ∃ v' w', (appendTail e i.size zeros n x base sLen sCap ap).run P w = .ok v' w' ∧ Post P G ι m w v m' v' w' := by
  obtain ⟨z, hz1, hz2⟩ := zeroSized_some hz
  have hap0 : ap.run P w = .ok l'.toArray w := hap w.drawn
  unfold appendCells at h
  -- a nil or empty slice that grows
  have grow : ∀ (old : List Value), sLen = 0 → 0 < n → sCap = 0 → (∀ k, (Builtin.firstCells i.size sLen (.slice base sLen sCap)).run P { w with drawn := k } = .ok #[] { w with drawn := k }) →
      some (newSlice m e l n) = some (v, m') → ∃ v' w', (appendTail e i.size zeros n x base sLen sCap ap).run P w = .ok v' w' ∧ Post P G ι m w v m' v' w' := fun _ h0 hn hc hold h => by
    obtain ⟨cap, hcap, hrun⟩ := appendTail_grows (old := []) (new := l') (z := z) (x := x) (zeros := zeros) hi hz1 (by omega) hroom hold hap
    refine ⟨_, _, hrun, ?_⟩
    rw [h0, Nat.zero_add] at hcap ⊢
    have hp := newSlice_sound (w' := { w with heap := w.heap.push (.cells (([] : List Value).toArray ++ l'.toArray ++ Builtin.zeroCells z.cells (cap - n)) e (0, 0)), drawn := w.drawn + 1 })
      (e := e) (l := l) (n := n) (cap := cap) hs rfl rfl rfl rfl (fun j hj => newRow_get (old := []) (rest := (Builtin.zeroCells z.cells (cap - n)).toList) (by simpa using hl) j hj) hcap
      (.inr (by
        rw [cellsOf_info hi]
        have h1 : (Builtin.zeroCells z.cells (cap - n)).size = (cap - n) * i.size := by rw [zeroCells_size, hz2]
        have h2 : l'.length = n * i.size := by rw [← hl.1]; exact hlen
        simp only [Array.size_append, List.size_toArray, List.length_nil, h1, h2, Nat.zero_add]
        rw [← Nat.add_mul]
        exact Nat.le_of_eq (by congr 1; omega)))
    cases h
    exact hp
  split at h
  · -- nil
    cases hv
    simp only [lenOf, Option.some.injEq] at hsl
    split at h
    · rename_i hn
      cases h
      subst hn
      have : l' = [] := List.length_eq_zero_iff.1 (by rw [← hl.1, hlen]; simp)
      subst this
      refine ⟨.slice none 0 0, w, ?_, Post.same hs .slN⟩
      simp only [appendTail, Nat.add_zero, Nat.le_refl, if_true, Sem.run_bind, hap0, Result.andThen_ok]
      rfl
    · exact grow [] rfl (by omega) rfl (fun k => rfl) h
  · -- the slice without room
    rename_i b o g
    cases hv with
    | slE _ _ _ a' =>
      split at h
      · rename_i hn
        cases h
        subst hn
        have : l' = [] := List.length_eq_zero_iff.1 (by rw [← hl.1, hlen]; simp)
        subst this
        refine ⟨.slice (some a') 0 0, w, ?_, Post.same hs (.slE _ _ _ _)⟩
        simp only [appendTail, Nat.add_zero, Nat.le_refl, if_true, Sem.run_bind, hap0, Result.andThen_ok]
        rfl
      · exact grow [] rfl (by omega) rfl (fun k => by simp only [Builtin.firstCells, Nat.zero_mul, loadCells, loadCellsFrom]; rfl) h
  · -- a slice of the machine's own
    rename_i b off len g
    split at h
    · rename_i vs e' g' hg
      split at h
      · rename_i hc
        simp only [Bool.and_eq_true, beq_iff_eq, decide_eq_true_eq] at hc
        obtain ⟨⟨rfl, rfl⟩, hsize⟩ := hc
        split at h
        · rename_i old hold
          cases h
          obtain ⟨hle, rfl⟩ := takeN_some hold
          simp only [lenOf, Option.some.injEq] at hsl
          subst hsl
          cases hv with
          | sl _ _ _ _ a' cap hsr =>
            obtain ⟨ib, hb, _, q3, hcur⟩ := hsr
            obtain ⟨q1, q2, q4⟩ := hcur (Mem.gen_eq hg).symm
            obtain ⟨cs, fr, e0, hrow, hlim, hesz, hrel, hfr0⟩ := cells_of hs hb hg
            obtain ⟨he0, hfr1⟩ := hfr0 rfl
            have he1 := he0.symm
            subst he1
            have hfr : ∀ (_ : false = false) j, j < cs.size → ¬ (fr.1 ≤ j ∧ j < fr.2) := fun _ => hfr1
            have hesz' : ib.esz = i.size := by rw [hesz, cellsOf_info hi]
            have hlen' : l'.length = n * i.size := by rw [← hl.1]; exact hlen
            rw [List.length_drop] at hle
            by_cases hfit : len + n ≤ sCap
            · by_cases hc0 : sCap = 0
              · -- no room at all, and nothing is appended
                have hl0 : len = 0 := by omega
                have hn0 : n = 0 := by omega
                subst hl0; subst hn0
                have hl'0 : l' = [] := List.length_eq_zero_iff.1 (by rw [hlen']; simp)
                have hl0 : l = [] := List.length_eq_zero_iff.1 (by rw [hlen]; simp)
                subst hl'0; subst hl0
                obtain ⟨ι', hext, hsim, hb'⟩ := upd_core (x := .cells [] e (g + 1) false) (ib' := ib) (w' := w) (obj := .cells cs e fr) hs hb (Mem.ro_eq hg) rfl
                  ⟨by rw [Mem.gen_eq hg]; exact Nat.le_succ _, fun h => absurd h (by rw [Mem.gen_eq hg]; simp only [ABlk.gen]; omega)⟩ (.inl rfl) hrow (fun c _ _ => rfl) (Nat.le_refl _) rfl rfl rfl
                  (fun ι' g' _ => ⟨fun _ => rfl, hlim, hesz, fun i hi => absurd hi (by simp), fun _ => hfr rfl⟩)
                refine ⟨.slice (some a') 0 sCap, w, ?_, ι', ?_, ?_, ?_⟩
                · simp only [appendTail, Nat.add_zero, hfit, if_true, Sem.run_bind, hap0, Result.andThen_ok]
                  rfl
                · simpa using hext
                · simpa using hsim
                · exact .sl _ _ _ _ _ _ ⟨ib, hb', by simp [Mem.gen, Mem.get_put, ABlk.gen], by omega, fun _ => ⟨q1, q2, .inl hc0⟩⟩
              · -- in place
                obtain ⟨q5, q6⟩ : a'.off = off + ib.sh ∧ a'.off + sCap * ib.esz ≤ ib.lim := by
                  rcases q4 with h | h
                  · exact absurd h hc0
                  · exact h
                have ha' : a' = ⟨ib.blk, off + ib.sh, none⟩ := by
                  obtain ⟨x1, y1, z1⟩ := a'
                  simp at q1 q2 q5
                  simp [q1, q2, q5]
                have hmul : (len + n) * i.size ≤ sCap * i.size := Nat.mul_le_mul_right _ hfit
                rw [Nat.add_mul] at hmul
                rw [hesz', hlim] at q6
                obtain ⟨w', cs', hrun, r1, r2, r3, r4, r5, r6, r7, r8⟩ := storeCells_run (P := P) ib.blk e fr (off + ib.sh + len * i.size) l' 0 w cs hrow (hl.all_isCell hcell) (by omega) (hfr rfl)
                obtain ⟨ι', hext, hsim, hb'⟩ := upd_core (x := .cells ((vs.drop off).take (len * i.size) ++ l) e (g + 1) false) (ib' := ⟨ib.blk, ib.sh + off, ib.lim, ib.esz⟩) (w' := w') (obj := .cells cs' e fr) hs hb (Mem.ro_eq hg) rfl
                  ⟨by rw [Mem.gen_eq hg]; exact Nat.le_succ _, fun h => absurd h (by rw [Mem.gen_eq hg]; simp only [ABlk.gen]; omega)⟩ (.inl rfl) r1 (fun c _ hne => r4 c hne) (by omega) r6 r7 r8
                  (fun ι' g' hle' => by
                    refine ⟨fun _ => rfl, by rw [hlim]; exact r2.symm, hesz, fun k hk => ?_, fun _ j hj => hfr rfl j (by omega)⟩
                    simp only [List.length_append, List.length_take, List.length_drop] at hk
                    show ∃ v', cs'[(ib.sh + off) + k]? = some v' ∧ VRel ι' g' _ v'
                    rw [r3, getD_eq]
                    by_cases hk1 : k < len * i.size
                    · rw [if_neg (by omega), List.getElem?_append_left (by rw [List.length_take, List.length_drop]; omega), List.getElem?_take, if_pos hk1, List.getElem?_drop]
                      obtain ⟨v', h1, h2⟩ := hrel (off + k) (by omega)
                      refine ⟨v', ?_, by rw [← getD_eq]; exact h2.mono hle'⟩
                      rw [← h1]; congr 1; omega
                    · rw [if_pos (by omega), List.getElem?_append_right (by rw [List.length_take, List.length_drop]; omega)]
                      have e1 : k - (List.take (len * i.size) (List.drop off vs)).length = k - len * i.size := by rw [List.length_take, List.length_drop]; omega
                      have e2 : ib.sh + off + k - (off + ib.sh + len * i.size + 0) = k - len * i.size := by omega
                      rw [e1]
                      show ∃ v', l'[ib.sh + off + k - (off + ib.sh + len * i.size + 0)]? = some v' ∧ _
                      rw [e2]
                      have hlt : k - len * i.size < l.length := by omega
                      obtain ⟨v', h1, h2⟩ := hl.get (List.getElem?_eq_getElem hlt)
                      refine ⟨v', h1, ?_⟩
                      rw [List.getElem?_eq_getElem hlt]
                      exact h2.mono hle')
                refine ⟨.slice (some a') (len + n) sCap, w', ?_, ι', hext, hsim, ?_⟩
                · simp only [appendTail, hfit, if_true, Sem.run_bind, hap0, Result.andThen_ok, ha', addr_add, hrun, Sem.run_pure]
                · exact .sl _ _ _ _ _ _ ⟨_, hb', by simp [Mem.gen, Mem.get_put, ABlk.gen], hfit, fun _ => ⟨q1, q2, .inr ⟨by simp [q5]; omega, by simp only; rw [hesz', hlim]; exact q6⟩⟩⟩
            · -- it moves
              have hold2 : ∃ old', LRel ι m.gen ((vs.drop off).take (len * i.size)) old' ∧ ∀ k, (Builtin.firstCells i.size len (.slice (some a') len sCap)).run P { w with drawn := k } = .ok old'.toArray { w with drawn := k } := by
                have hsc : sliceCells m i.size len (.slice (some ⟨b, off, none⟩) len g) = some ((vs.drop off).take (len * i.size)) := by
                  simp only [sliceCells, Nat.le_refl, if_true, Mem.cellsAt, hg, agen, Option.getD_some]
                  exact hold
                have hvr : VRel ι m.gen (.slice (some ⟨b, off, none⟩) len g) (.slice (some a') len sCap) := .sl _ _ _ _ _ _ ⟨ib, hb, by rw [Mem.gen_eq hg]; exact Nat.le_refl _, q3, fun _ => ⟨q1, q2, q4⟩⟩
                obtain ⟨old', h1, h2⟩ := sliceCells_sound hs hvr hsc
                refine ⟨old', h2, fun k => ?_⟩
                obtain ⟨old2, h3, h4⟩ := sliceCells_sound (hs.drawn k) hvr hsc
                have hsame : old2 = old' := by
                  have g1 : ∀ (a : Addr), ({ w with drawn := k } : World).cell? a = w.cell? a := fun a => rfl
                  by_cases hz0 : len = 0
                  · subst hz0
                    have hA := h1; have hB := h3
                    simp only [Builtin.firstCells, Nat.zero_mul, loadCells, loadCellsFrom, Sem.run_pure] at hA hB
                    injection hA with hA _
                    injection hB with hB _
                    have hA1 : old' = [] := (congrArg Array.toList hA).symm
                    have hB1 : old2 = [] := (congrArg Array.toList hB).symm
                    rw [hA1, hB1]
                  · have q5 : a'.off = off + ib.sh := by
                      rcases q4 with h | h
                      · omega
                      · exact h.1
                    have ha' : a' = ⟨ib.blk, off + ib.sh, none⟩ := by
                      obtain ⟨x1, y1, z1⟩ := a'
                      simp at q1 q2 q5
                      simp [q1, q2, q5]
                    have hget : ∀ j, j < len * i.size → ∃ u, w.cell? (a'.add j) = some u := fun j hj => by
                      obtain ⟨u, hu, _⟩ := hrel (off + j) (by omega)
                      exact ⟨u, by rw [ha', addr_add, cell_of_row hrow, ← hu]; congr 1; omega⟩
                    have hch : ∀ j, ∃ u, j < len * i.size → w.cell? (a'.add j) = some u := fun j => by
                      by_cases hj : j < len * i.size
                      · obtain ⟨u, hu⟩ := hget j hj; exact ⟨u, fun _ => hu⟩
                      · exact ⟨undef, fun h => absurd h hj⟩
                    have f1 := run_loadCells (P := P) w a' (len * i.size) (fun j => (hch j).choose) (fun j hj => (hch j).choose_spec hj)
                    have f2 := run_loadCells (P := P) { w with drawn := k } a' (len * i.size) (fun j => (hch j).choose) (fun j hj => (hch j).choose_spec hj)
                    simp only [Builtin.firstCells] at h1 h3
                    rw [h1] at f1
                    rw [h3] at f2
                    injection f1 with f1 _
                    injection f2 with f2 _
                    have := f1.trans f2.symm
                    simpa using this.symm
                rw [hsame] at h3
                exact h3
              obtain ⟨old', hor, hord⟩ := hold2
              obtain ⟨cap, hcap, hrun⟩ := appendTail_grows (old := old') (new := l') (z := z) (x := x) (zeros := zeros) hi hz1 hfit hroom hord hap
              refine ⟨_, _, hrun, ?_⟩
              have ho1 : old'.length = len * i.size := by rw [← hor.1, List.length_take, List.length_drop]; omega
              have hsz : (old'.toArray ++ l'.toArray ++ Builtin.zeroCells z.cells (cap - (len + n))).size = cap * i.size := by
                simp only [Array.size_append, List.size_toArray, zeroCells_size, hz2, ho1, hlen']
                rw [← Nat.add_mul, ← Nat.add_mul]
                congr 1; omega
              obtain ⟨ι', hext, hsim, hb'⟩ := upd_core (x := .cells ((vs.drop off).take (len * i.size) ++ l) e (g + 1) false) (ib' := ⟨w.heap.size, 0, cap * i.size, P.cellsOf e⟩)
                (w' := { w with heap := w.heap.push (.cells (old'.toArray ++ l'.toArray ++ Builtin.zeroCells z.cells (cap - (len + n))) e (0, 0)), drawn := w.drawn + 1 })
                (obj := .cells (old'.toArray ++ l'.toArray ++ Builtin.zeroCells z.cells (cap - (len + n))) e (0, 0)) hs hb (Mem.ro_eq hg) rfl
                ⟨by rw [Mem.gen_eq hg]; exact Nat.le_succ _, fun h => absurd h (by rw [Mem.gen_eq hg]; simp only [ABlk.gen]; omega)⟩ (.inr (Nat.le_refl _)) (by simp)
                (fun c hc _ => by show (w.heap.push _)[c]? = _; rw [Array.getElem?_push, if_neg (by omega)]) (by simp) rfl rfl rfl
                (fun ι' g' hle' => by
                  refine ⟨fun _ => rfl, hsz.symm, rfl, fun k hk => ?_, fun _ j hj => by simp⟩
                  have hk' := newRow_get (rest := (Builtin.zeroCells z.cells (cap - (len + n))).toList) (hor.append hl) k hk
                  obtain ⟨v', h1, h2⟩ := hk'
                  exact ⟨v', by simpa using h1, h2.mono hle'⟩)
              refine ⟨ι', hext, hsim, .sl _ _ _ _ _ _ ⟨_, hb', by simp [Mem.gen, Mem.get_put, ABlk.gen], hcap, fun _ => ⟨rfl, rfl, .inr ⟨rfl, ?_⟩⟩⟩⟩
              simp only [cellsOf_info hi, Nat.zero_add, Nat.le_refl]
        · cases h
      · cases h
    · cases h
  · cases h

end Go.Am
