/-
  The abstract machine: what an allocation, a write and a reading of memory do to the relation. No condition. Nothing of one program stands here.
-/
import Derived.Test.YtmfnchgkffhpfaaDoorAm2
namespace Go.Am
variable {P : Program} {G : List Nat}

theorem EsRel.mono {ι ι' : Inj} {g g' : Nat → Nat} (hl : Le ι g ι' g') : ∀ {es es' : List MapEntry}, EsRel ι g es es' → EsRel ι' g' es es'
  | [], [], _ => trivial
  | _ :: _, _ :: _, ⟨h, k⟩ => ⟨⟨h.1, h.2.1, h.2.2.1, h.2.2.2.mono hl⟩, EsRel.mono hl k⟩
  | [], _ :: _, h => h.elim
  | _ :: _, [], h => h.elim

theorem BRel.mono {ι ι' : Inj} {g g' : Nat → Nat} (hl : Le ι g ι' g') {ib : IB} {x : ABlk} {o : Option Obj} (h : BRel P ι g ib x o) : BRel P ι' g' ib x o := by
  unfold BRel at *
  split at h
  · obtain ⟨h1, h2, h3, h4, h5⟩ := h
    exact ⟨h1, h2, h3, fun i hi => (h4 i hi).imp fun v' hv => ⟨hv.1, hv.2.mono hl⟩, h5⟩
  · exact ⟨h.1, EsRel.mono hl h.2⟩
  · exact h.elim

/-- a new block -/
theorem alloc_core {ι : Inj} {m : Mem} {w w' : World} {x : ABlk} {obj : Obj} {ib : IB} (hs : Sim P G ι m w) (hw' : w'.heap = w.heap.push obj)
    (ht : w'.tape = w.tape) (ho : w'.os = w.os) (hou : w'.output = w.output) (hib : ib.blk = w.heap.size) (hx : BRel P ι m.gen ib x (some obj))
    (hr : x.ro = false) :
    ∃ ι', Ext ι m w ι' (m.alloc x) w' ∧ Sim P G ι' (m.alloc x) w' ∧ ι' m.size = some ib := by
  have hget : ∀ b, b < m.size → (m.alloc x).get b = m.get b := fun b hb => by rw [Mem.get_alloc, if_neg (by omega)]
  have hgen : ∀ b, b < m.size → (m.alloc x).gen b = m.gen b := fun b hb => gen_of_get (hget b hb)
  have hro : ∀ b, b < m.size → (m.alloc x).ro b = m.ro b := fun b hb => ro_of_get (hget b hb)
  have hheap : ∀ c, c < w.heap.size → w'.heap[c]? = w.heap[c]? := fun c hc => by rw [hw', Array.getElem?_push, if_neg (by omega)]
  have hsz : w'.heap.size = w.heap.size + 1 := by rw [hw']; simp
  let ι' : Inj := fun b => if b = m.size then some ib else ι b
  have hle : Le ι m.gen ι' (m.alloc x).gen := fun b ibb hb => by
    have hlt := (hs.dom b ibb hb).1
    refine ⟨by rw [hgen b hlt]; exact Nat.le_refl _, ibb, ?_, fun _ => rfl⟩
    show (if b = m.size then some ib else ι b) = some ibb
    rw [if_neg (by omega)]; exact hb
  refine ⟨ι', ⟨by simp [Mem.alloc], Nat.le_refl _, fun b hb _ => hget b hb, fun b hb _ => hget b hb, fun b hb => hro b hb, hle, fun b ibb hb => ?_, fun b ibb hb => ?_, by omega,
    fun c hc _ => hheap c hc, ht, ho, hou⟩, ⟨fun b ibb hb => ?_, fun b ibb hb => ?_, fun b b' ibb ibb' hb hb' he => ?_, fun k hk => ?_⟩, if_pos rfl⟩
  · change (if b = m.size then some ib else ι b) = some ibb at hb
    split at hb
    · cases hb; exact .inr (by omega)
    · exact .inl ⟨ibb, hb, rfl⟩
  · change (if b = m.size then some ib else ι b) = some ibb at hb
    split at hb
    · exact .inr (by omega)
    · exact .inl ⟨ibb, hb⟩
  · change (if b = m.size then some ib else ι b) = some ibb at hb
    split at hb
    · cases hb; exact ⟨by simp [Mem.alloc]; omega, by omega⟩
    · have := hs.dom b ibb hb
      exact ⟨by simp only [Mem.alloc]; omega, by omega⟩
  · change (if b = m.size then some ib else ι b) = some ibb at hb
    split at hb
    · rename_i e; cases hb
      rw [Mem.get_alloc, if_pos e.symm]
      have : w'.heap[ib.blk]? = some obj := by rw [hw', hib]; simp
      rw [this]
      exact hx.mono hle
    · have := hs.dom b ibb hb
      rw [hget b this.1, hheap _ this.2]
      exact (hs.blk b ibb hb).mono hle
  · change (if b = m.size then some ib else ι b) = some ibb at hb
    change (if b' = m.size then some ib else ι b') = some ibb' at hb'
    split at hb <;> split at hb'
    · exact .inl (by omega)
    · cases hb; have := hs.dom b' ibb' hb'; omega
    · cases hb'; have := hs.dom b ibb hb; omega
    · rcases hs.inj b b' ibb ibb' hb hb' he with h | ⟨h1, h2⟩
      · exact .inl h
      · exact .inr ⟨by rw [hro b (hs.dom b ibb hb).1]; exact h1, by rw [hro b' (hs.dom b' ibb' hb').1]; exact h2⟩
  · obtain ⟨ibb, h1, h2, h3, h4, h5⟩ := hs.glob k hk
    have hlt := (hs.dom k ibb h1).1
    refine ⟨ibb, ?_, h2, h3, by rw [hgen k hlt]; exact h4, by rw [hro k hlt]; exact h5⟩
    show (if k = m.size then some ib else ι k) = some ibb
    rw [if_neg (by omega)]; exact h1

/-- a block of the machine's own is replaced: in place, or in a new real block -/
theorem upd_core {ι : Inj} {m : Mem} {w w' : World} {b : Nat} {ib ib' : IB} {x : ABlk} {obj : Obj} (hs : Sim P G ι m w) (hb : ι b = some ib) (hro : m.ro b = false)
    (hxro : x.ro = false)
    (hxg : m.gen b ≤ x.gen ∧ (x.gen = m.gen b → ib' = ib))
    (hblk : ib'.blk = ib.blk ∨ w.heap.size ≤ ib'.blk) (hobj : w'.heap[ib'.blk]? = some obj) (hrest : ∀ c, c < w.heap.size → c ≠ ib.blk → w'.heap[c]? = w.heap[c]?)
    (hsz : w.heap.size ≤ w'.heap.size) (ht : w'.tape = w.tape) (ho : w'.os = w.os) (hou : w'.output = w.output)
    (hx : ∀ ι' g', Le ι m.gen ι' g' → BRel P ι' g' ib' x (some obj)) :
    ∃ ι', Ext ι m w ι' (m.put b x) w' ∧ Sim P G ι' (m.put b x) w' ∧ ι' b = some ib' := by
  have hbd := hs.dom b ib hb
  have hget : ∀ c, c ≠ b → (m.put b x).get c = m.get c := fun c hc => by rw [Mem.get_put, if_neg (fun e => hc e.symm)]
  have hgetb : (m.put b x).get b = x := by rw [Mem.get_put, if_pos rfl]
  have hgenb : (m.put b x).gen b = x.gen := by unfold Mem.gen; rw [hgetb]
  have hrob : (m.put b x).ro b = false := by unfold Mem.ro; rw [hgetb]; exact hxro
  have hgen : ∀ c, c ≠ b → (m.put b x).gen c = m.gen c := fun c hc => gen_of_get (hget c hc)
  have hroc : ∀ c, c ≠ b → (m.put b x).ro c = m.ro c := fun c hc => ro_of_get (hget c hc)
  let ι' : Inj := fun c => if c = b then some ib' else ι c
  have hle : Le ι m.gen ι' (m.put b x).gen := fun c ibc hc => by
    by_cases e : c = b
    · subst e
      rw [hb] at hc; cases hc
      refine ⟨by rw [hgenb]; exact hxg.1, ib', if_pos rfl, fun e => ?_⟩
      rw [hgenb] at e
      exact hxg.2 e
    · refine ⟨by rw [hgen c e]; exact Nat.le_refl _, ibc, ?_, fun _ => rfl⟩
      show (if c = b then some ib' else ι c) = some ibc
      rw [if_neg e]; exact hc
  have hother : ∀ c ibc, ι c = some ibc → c ≠ b → ibc.blk ≠ ib.blk := fun c ibc hc hne e => by
    rcases hs.inj c b ibc ib hc hb e with h | ⟨_, h⟩
    · exact hne h
    · rw [hro] at h; cases h
  refine ⟨ι', ⟨Nat.le_refl _, Nat.min_le_left _ _, fun c hc hl => ?_, fun c hc hr => ?_, fun c hc => ?_, hle, fun c ibc hc => ?_, fun c ibc hc => ?_, hsz, fun c hc hf => ?_, ht, ho, hou⟩,
    ⟨fun c ibc hc => ?_, fun c ibc hc => ?_, fun c c' ibc ibc' hc hc' he => ?_, fun k hk => ?_⟩, if_pos rfl⟩
  · exact hget c (fun e => by subst e; have : (m.put c x).low ≤ c := Nat.min_le_right _ _; omega)
  · exact hget c (fun e => by subst e; rw [hro] at hr; cases hr)
  · by_cases e : c = b
    · subst e; rw [hrob, hro]
    · exact hroc c e
  · change (if c = b then some ib' else ι c) = some ibc at hc
    split at hc
    · rename_i e; cases hc
      rcases hblk with h | h
      · exact .inl ⟨ib, e ▸ hb, h.symm⟩
      · exact .inr h
    · exact .inl ⟨ibc, hc, rfl⟩
  · change (if c = b then some ib' else ι c) = some ibc at hc
    split at hc
    · rename_i e; exact .inl ⟨ib, e ▸ hb⟩
    · exact .inl ⟨ibc, hc⟩
  · refine hrest c hc fun e => ?_
    rcases hf b ib hb e.symm with h | h
    · rw [hro] at h; cases h
    · have : (m.put b x).low ≤ b := Nat.min_le_right _ _; omega
  · change (if c = b then some ib' else ι c) = some ibc at hc
    split at hc
    · rename_i e; cases hc
      have hlt : ib'.blk < w'.heap.size := by
        rcases Nat.lt_or_ge ib'.blk w'.heap.size with h | h
        · exact h
        · rw [Array.getElem?_eq_none h] at hobj; cases hobj
      exact ⟨e ▸ hbd.1, hlt⟩
    · have := hs.dom c ibc hc
      exact ⟨this.1, by omega⟩
  · change (if c = b then some ib' else ι c) = some ibc at hc
    split at hc
    · rename_i e; cases hc
      subst e
      rw [hgetb, hobj]
      exact hx _ _ hle
    · rename_i e
      have := hs.dom c ibc hc
      rw [hget c e, hrest _ this.2 (hother c ibc hc e)]
      exact (hs.blk c ibc hc).mono hle
  · change (if c = b then some ib' else ι c) = some ibc at hc
    change (if c' = b then some ib' else ι c') = some ibc' at hc'
    have key : ∀ c ibc, ι c = some ibc → c ≠ b → ib'.blk ≠ ibc.blk := fun c ibc hc hne e => by
      rcases hblk with h | h
      · exact hother c ibc hc hne (e ▸ h)
      · have := hs.dom c ibc hc; omega
    split at hc <;> split at hc'
    · exact .inl (by omega)
    · cases hc; rename_i e1 e2; exact absurd he (key c' ibc' hc' e2)
    · cases hc'; rename_i e1 e2; exact absurd he.symm (key c ibc hc e1)
    · rename_i e1 e2
      rcases hs.inj c c' ibc ibc' hc hc' he with h | ⟨h1, h2⟩
      · exact .inl h
      · exact .inr ⟨by rw [hroc c e1]; exact h1, by rw [hroc c' e2]; exact h2⟩
  · obtain ⟨ibb, h1, h2, h3, h4, h5⟩ := hs.glob k hk
    have hne : k ≠ b := fun e => by subst e; rw [hro] at h5; cases h5
    refine ⟨ibb, ?_, h2, h3, by rw [hgen k hne]; exact h4, by rw [hroc k hne]; exact h5⟩
    show (if k = b then some ib' else ι k) = some ibb
    rw [if_neg hne]; exact h1

/-! ## Reading -/
theorem takeN_some {n : Nat} {l r : List Value} (h : takeN n l = some r) : n ≤ l.length ∧ r = l.take n := by
  unfold takeN at h
  split at h
  · cases h; exact ⟨by assumption, rfl⟩
  · cases h

/-- an abstract block of cells, and the real one -/
theorem cells_of {ι : Inj} {m : Mem} {w : World} {b : Nat} {ib : IB} {vs : List Value} {e : TypeId} {g : Nat} {ro : Bool} (hs : Sim P G ι m w) (hb : ι b = some ib) (hg : m.get b = .cells vs e g ro) :
    ∃ cs fr e', w.heap[ib.blk]? = some (.cells cs e' fr) ∧ ib.lim = cs.size ∧ ib.esz = P.cellsOf e ∧
      (∀ i, i < vs.length → ∃ v', cs[ib.sh + i]? = some v' ∧ VRel ι m.gen (vs.getD i undef) v') ∧ (ro = false → e' = e ∧ ∀ j, j < cs.size → ¬ (fr.1 ≤ j ∧ j < fr.2)) := by
  have h := hs.blk b ib hb
  rw [hg] at h
  unfold BRel at h
  split at h
  · rename_i vs1 e1 g1 ro1 cs e' fr ha ho
    cases ha
    obtain ⟨h1, h2, h3, h4, h5⟩ := h
    exact ⟨cs, fr, e', ho, h2, h3, h4, fun hr => ⟨h1 hr, h5 hr⟩⟩
  · rename_i ha _; cases ha
  · exact h.elim

theorem cell_of_row {w : World} {c : Nat} {cs : Array Value} {e : TypeId} {fr : Nat × Nat} (h : w.heap[c]? = some (.cells cs e fr)) (o : Nat) :
    w.cell? ⟨c, o, none⟩ = cs[o]? := by
  simp [World.cell?, h]

theorem frozen_of_row {w : World} {c : Nat} {cs : Array Value} {e : TypeId} {fr : Nat × Nat} (h : w.heap[c]? = some (.cells cs e fr)) (o : Nat) :
    w.frozen? ⟨c, o, none⟩ = (decide (fr.1 ≤ o) && decide (o < fr.2)) := by
  obtain ⟨lo, hi⟩ := fr
  simp [World.frozen?, h]

theorem addr_add (b o n : Nat) : Addr.add ⟨b, o, none⟩ n = ⟨b, o + n, none⟩ := Addr.add_lit b o n

theorem cellsAt_some {m : Mem} {a : Addr} {n : Nat} {l : List Value} (h : m.cellsAt a n = some l) :
    ∃ vs e g ro, m.get a.block = .cells vs e g ro ∧ agen a = g ∧ m.gen a.block = g ∧ n ≤ (vs.drop a.off).length ∧ l = (vs.drop a.off).take n := by
  unfold Mem.cellsAt at h
  split at h
  · rename_i vs e g ro hg
    split at h
    · rename_i ha
      obtain ⟨h1, h2⟩ := takeN_some h
      exact ⟨vs, e, g, ro, hg, ha, by unfold Mem.gen; rw [hg]; rfl, h1, h2⟩
    · cases h
  · cases h

theorem cellsAt_run {ι : Inj} {m : Mem} {w : World} {a a' : Addr} {n : Nat} {l : List Value} (hs : Sim P G ι m w) (ha : ARel ι m.gen a a') (h : m.cellsAt a n = some l) :
    ∃ l', LRel ι m.gen l l' ∧ l'.length = n ∧ ∀ (j : Nat) v, l'[j]? = some v → w.cell? (a'.add j) = some v := by
  obtain ⟨vs, e, g, ro, hg, hag, hgen, hn, hl⟩ := cellsAt_some h
  obtain ⟨ib, hb, _, ha'⟩ := ha
  have hcur := ha' (by rw [hag, hgen])
  obtain ⟨cs, fr, e', hrow, hlim, hesz, hrel, _⟩ := cells_of hs hb hg
  rw [List.length_drop] at hn
  have hget : ∀ j, j < n → ∃ v', cs[ib.sh + (a.off + j)]? = some v' ∧ VRel ι m.gen (vs.getD (a.off + j) undef) v' := fun j hj => hrel (a.off + j) (by omega)
  refine ⟨(List.range n).map (fun j => cs.getD (ib.sh + (a.off + j)) undef), ⟨by simp [hl]; omega, fun i hi => ?_⟩, by simp, fun j v hv => ?_⟩
  · rw [hl, List.length_take, List.length_drop] at hi
    have hin : i < n := by omega
    obtain ⟨v', h1, h2⟩ := hget i hin
    have e1 : l.getD i undef = vs.getD (a.off + i) undef := by
      rw [hl, List.getD_eq_getElem?_getD, List.getD_eq_getElem?_getD, List.getElem?_take, if_pos hin, List.getElem?_drop]
    have e2 : ((List.range n).map (fun j => cs.getD (ib.sh + (a.off + j)) undef)).getD i undef = v' := by
      rw [List.getD_eq_getElem?_getD, List.getElem?_map, List.getElem?_range hin]
      simp [h1]
    rw [e1, e2]; exact h2
  · rw [List.getElem?_map] at hv
    have hjn : j < n := by
      rcases Nat.lt_or_ge j n with h | h
      · exact h
      · rw [List.getElem?_eq_none (by simpa using h)] at hv; cases hv
    obtain ⟨v', h1, _⟩ := hget j hjn
    rw [List.getElem?_range hjn] at hv
    simp [h1] at hv
    rw [hcur, addr_add, cell_of_row hrow, ← hv, ← h1]
    congr 1
    omega

theorem run_isAgg {t : TypeId} {b : Bool} (h : isAggT P t = some b) (w : World) : (isAgg t).run P w = .ok b w := by
  unfold isAggT at h
  unfold isAgg
  split at h <;> first
    | (rename_i d hd; simp [run_underlying hd]; cases h; rfl)
    | (rename_i d hd1 hd2 hd; simp only [Sem.run_bind, run_underlying hd, Result.andThen_ok]; cases h; cases d <;> first | rfl | simp_all)
    | cases h

theorem run_typeInfo' {t : TypeId} {i : TypeInfo} (h : P.info? t = some i) (w : World) : (typeInfo t).run P w = .ok i w := by
  simp [typeInfo, h]

theorem run_sizeOf' {t : TypeId} {i : TypeInfo} (h : P.info? t = some i) (w : World) : (sizeOf t).run P w = .ok i.size w := by
  simp [sizeOf, run_typeInfo' h]

theorem cellsOf_info {t : TypeId} {i : TypeInfo} (h : P.info? t = some i) : P.cellsOf t = i.size := by simp [Program.cellsOf, h]

theorem aload_sound {ι : Inj} {m : Mem} {w : World} {t : TypeId} {a a' : Addr} {v : Value} (hs : Sim P G ι m w) (ha : ARel ι m.gen a a') (h : aload P t a m = some v) :
    ∃ v', (loadVar t a').run P w = .ok v' w ∧ VRel ι m.gen v v' := by
  unfold aload at h
  split at h
  · rename_i hagg
    split at h
    · rename_i i hi
      rw [Option.map_eq_some_iff] at h
      obtain ⟨l, hl, rfl⟩ := h
      obtain ⟨l', hrel, hlen, hcell⟩ := cellsAt_run hs ha hl
      refine ⟨.agg l'.toArray, ?_, ?_⟩
      · unfold loadVar
        have := run_loadCells_list (P := P) w a' l' hcell
        rw [hlen] at this
        simp [run_isAgg hagg, run_sizeOf' hi, this]
      · exact .agg l l' hrel.1 hrel.2
    · cases h
  · rename_i hagg
    rw [Option.bind_eq_some_iff] at h
    obtain ⟨l, hl, hv⟩ := h
    obtain ⟨l', hrel, hlen, hcell⟩ := cellsAt_run hs ha hl
    match l, hv, hrel with
    | v0 :: k, hv, hrel =>
      simp at hv; subst hv
      obtain ⟨v', k', rfl, hv', _⟩ := hrel.uncons
      refine ⟨v', ?_, hv'⟩
      have hc := hcell 0 v' rfl
      unfold loadVar
      rw [Addr.add_zero'] at hc
      simp [run_isAgg hagg, hc]
  · cases h

/-- an abstract map, and the real one -/
theorem map_of {ι : Inj} {m : Mem} {w : World} {b : Nat} {ib : IB} {es : List MapEntry} {k : Nat} (hs : Sim P G ι m w) (hb : ι b = some ib) (hg : m.get b = .map es k) :
    ∃ es', w.heap[ib.blk]? = some (.map es' k) ∧ EsRel ι m.gen es es'.toList := by
  have h := hs.blk b ib hb
  rw [hg] at h
  unfold BRel at h
  split at h
  · rename_i ha _; cases ha
  · rename_i es1 c1 es' c' ha ho
    cases ha
    obtain ⟨rfl, h2⟩ := h
    exact ⟨es', ho, h2⟩
  · exact h.elim

end Go.Am
