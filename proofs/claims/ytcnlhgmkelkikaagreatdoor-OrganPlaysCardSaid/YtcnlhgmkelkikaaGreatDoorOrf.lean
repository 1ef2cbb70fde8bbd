/-
  The values' layer: an oracle for a function that makes a slice of its own (its text is walked in the model), laid over another oracle. No condition. Nothing of one program stands here.
-/
import Derived.Test.YtcnlhgmkelkikaaGreatDoorOrk
import Derived.Laws.AppendOwn
set_option linter.unusedSimpArgs false
set_option linter.unusedVariables false
namespace Go.Vm
open Go.Am
section
variable {P : Program} {G : List Nat}
/-- a new block, somewhere among what was laid since -/
theorem alloc_far {ι : Inj} {m : Mem} {w w' : World} {x : ABlk} {obj : Obj} {ib : IB} (hs : Sim P G ι m w) (hb : Go.RowKit.Below w.heap.size w w') (hB : w.heap.size ≤ ib.blk) (hobj : w'.heap[ib.blk]? = some obj) (hx : BRel P ι m.gen ib x (some obj))
    (hr : x.ro = false) : ∃ ι', Ext ι m w ι' (m.alloc x) w' ∧ Sim P G ι' (m.alloc x) w' ∧ ι' m.size = some ib := by
  have hget : ∀ b, b < m.size → (m.alloc x).get b = m.get b := fun b hb => by rw [Mem.get_alloc, if_neg (by omega)]
  have hgen : ∀ b, b < m.size → (m.alloc x).gen b = m.gen b := fun b hb => gen_of_get (hget b hb)
  have hro : ∀ b, b < m.size → (m.alloc x).ro b = m.ro b := fun b hb => ro_of_get (hget b hb)
  have hheap : ∀ c, c < w.heap.size → w'.heap[c]? = w.heap[c]? := fun c hc => hb.block c hc
  have hsz := hb.size
  have hBlt : ib.blk < w'.heap.size := by
    rcases Nat.lt_or_ge ib.blk w'.heap.size with h | h
    · exact h
    · rw [Array.getElem?_eq_none h] at hobj; cases hobj
  let ι' : Inj := fun b => if b = m.size then some ib else ι b
  have hle : Le ι m.gen ι' (m.alloc x).gen := fun b ibb hb => by
    have hlt := (hs.dom b ibb hb).1
    refine ⟨by rw [hgen b hlt]; exact Nat.le_refl _, ibb, ?_, fun _ => rfl⟩
    show (if b = m.size then some ib else ι b) = some ibb
    rw [if_neg (by omega)]; exact hb
  refine ⟨ι', ⟨by simp [Mem.alloc], Nat.le_refl _, fun b hb _ => hget b hb, fun b hb _ => hget b hb, fun b hb => hro b hb, hle, fun b ibb hb => ?_, fun b ibb hb => ?_, by omega,
    fun c hc _ => hheap c hc, hb.tape, hb.os, hb.output⟩, ⟨fun b ibb hb => ?_, fun b ibb hb => ?_, fun b b' ibb ibb' hb hb' he => ?_, fun k hk => ?_⟩, if_pos rfl⟩
  · change (if b = m.size then some ib else ι b) = some ibb at hb
    split at hb
    · cases hb; exact .inr (by omega)
    · exact .inl ⟨ibb, hb, rfl⟩
  · change (if b = m.size then some ib else ι b) = some ibb at hb
    split at hb
    · exact .inr (by omega)
    · exact .inl ⟨ibb, hb⟩
  · change (if b = m.size then some ib else ι b) = some ibb at hb
    split at hb
    · cases hb; exact ⟨by simp [Mem.alloc]; omega, by omega⟩
    · have := hs.dom b ibb hb
      exact ⟨by simp only [Mem.alloc]; omega, by omega⟩
  · change (if b = m.size then some ib else ι b) = some ibb at hb
    split at hb
    · rename_i e; cases hb
      rw [Mem.get_alloc, if_pos e.symm]
      rw [hobj]
      exact hx.mono hle
    · have := hs.dom b ibb hb
      rw [hget b this.1, hheap _ this.2]
      exact (hs.blk b ibb hb).mono hle
  · change (if b = m.size then some ib else ι b) = some ibb at hb
    change (if b' = m.size then some ib else ι b') = some ibb' at hb'
    split at hb <;> split at hb'
    · exact .inl (by omega)
    · cases hb; have := hs.dom b' ibb' hb'; omega
    · cases hb'; have := hs.dom b ibb hb; omega
    · rcases hs.inj b b' ibb ibb' hb hb' he with h | ⟨h1, h2⟩
      · exact .inl h
      · exact .inr ⟨by rw [hro b (hs.dom b ibb hb).1]; exact h1, by rw [hro b' (hs.dom b' ibb' hb').1]; exact h2⟩
  · obtain ⟨ibb, h1, h2, h3, h4, h5⟩ := hs.glob k hk
    have hlt := (hs.dom k ibb h1).1
    refine ⟨ibb, ?_, h2, ⟨h3.1, by rw [hget k hlt]; exact h3.2⟩, by rw [hgen k hlt]; exact h4, by rw [hro k hlt]; exact h5⟩
    show (if k = m.size then some ib else ι k) = some ibb
    rw [if_neg (by omega)]; exact h1

/-- a slice of n plain cells that lies in a new block -/
theorem ownsRow_post {ι : Inj} {m : Mem} {w w' : World} {e : TypeId} {l : List Value} {v : Value} (hs : Sim P G ι m w) (hb : Go.RowKit.Below w.heap.size w w') (hl : l ≠ []) (hp : l.all Am.plainCell = true) (h1 : P.cellsOf e = 1) (ho : w'.ownsRow w.heap.size e 1 v l.length l) :
    Post P G ι m w (newSlice m e l l.length).1 (newSlice m e l l.length).2 v w' := by
  obtain ⟨-, h⟩ := ho
  rcases h with ⟨_, h⟩ | ⟨g, cap, cur, rfl, q1, q2, q3, q4, q5, q6⟩
  · exact absurd (List.eq_nil_of_length_eq_zero h) hl
  rw [Nat.mul_one] at q5 q6
  obtain ⟨ι', hext, hsim, hbk⟩ := alloc_far (x := .cells l e 0 false) (ib := ⟨g, 0, cur.size, P.cellsOf e⟩) hs hb q1 q2
    ⟨fun _ => rfl, rfl, rfl, fun i hi => by
      have hpi : Am.plainCell (l.getD i undef) = true := by
        rw [List.getD_eq_getElem?_getD, List.getElem?_eq_getElem hi]
        exact List.all_eq_true.1 hp _ (List.getElem_mem hi)
      refine ⟨l.getD i undef, ?_, VRel.plainCell hpi⟩
      have e1 : cur.toList[i]? = some (l.getD i undef) := by
        have : (cur.toList.take l.length)[i]? = cur.toList[i]? := by rw [List.getElem?_take, if_pos hi]
        rw [← this, q6, List.getD_eq_getElem?_getD, List.getElem?_eq_getElem hi]; rfl
      simpa using e1, fun _ j _ => by simp⟩ rfl
  refine ⟨ι', hext, hsim, .sl _ _ _ _ _ _ ⟨_, hbk, Nat.zero_le _, q3, fun _ => ⟨rfl, rfl, .inr ⟨rfl, ?_⟩⟩⟩⟩
  show 0 + cap * P.cellsOf e ≤ cur.size
  rw [h1, q5]; omega

/-- the cells of the slice that a function makes of its arguments -/
abbrev FrF := List Value → Option (List Value)
def frRun (e : TypeId) (Fn : FrF) (as : List Value) (m : Mem) : Option (Value × Mem) := match Fn as with
  | some [] => some (.slice none 0 0, m)
  | some (v :: l) => some (newSlice m e (v :: l) (l.length + 1))
  | none => none
open Classical in
noncomputable def frO (G : List Nat) (M0 : Mem) (ff : FuncId) (e : TypeId) (Fn : FrF) (O : Oracle) : Oracle := fun f =>
  if f = ff then some fun as m => if ∀ k ∈ G, m.get k = M0.get k then frRun e Fn as m else none else O f
theorem frO_ne {M0 : Mem} {ff f : FuncId} {e : TypeId} {Fn : FrF} {O : Oracle} (h : f ≠ ff) : frO G M0 ff e Fn O f = O f := if_neg h
theorem frO_sound {M0 : Mem} {ff : FuncId} {e : TypeId} {Fn : FrF} {O : Oracle} (hO : OSound P G O) (he : Am.Enters P ff) (h1 : P.cellsOf e = 1)
    (hc : ∀ ι m w as (as' : Array Value) l, Sim P G ι m w → (∀ k ∈ G, m.get k = M0.get k) → LRel ι m.gen as as'.toList → Fn as = some l → l.all Am.plainCell = true ∧
      Calls P ff as' w fun r w' => ∃ v, r = .returned v ∧ w'.ownsRow w.heap.size e 1 v l.length l ∧ (l = [] → v = .slice none 0 0) ∧ Go.RowKit.Below w.heap.size w w') : OSound P G (frO G M0 ff e Fn O) := by
  intro f Fo hf
  by_cases h : f = ff
  · subst h
    unfold frO at hf
    rw [if_pos rfl] at hf
    cases hf
    refine ⟨fun as m v m' hv ι w as' hs hrel => ?_, fun as m v m' hv => ?_, he⟩
    · simp only at hv
      split at hv
      · rename_i hg
        unfold frRun at hv
        cases hl : Fn as with
        | none => rw [hl] at hv; cases hv
        | some l =>
          obtain ⟨hp, hcall⟩ := hc ι m w as as' l hs hg hrel hl
          rw [hl] at hv
          cases l with
          | nil =>
            cases hv
            refine hcall.mono ?_
            rintro r w' ⟨v, rfl, _, h3, h4⟩
            have := h3 rfl
            subst this
            exact ⟨_, rfl, Post.below hs h4 rfl⟩
          | cons a l =>
            cases hv
            refine hcall.mono ?_
            rintro r w' ⟨v, rfl, h2, _, h4⟩
            exact ⟨v, rfl, ownsRow_post hs h4 (by simp) hp h1 h2⟩
      · cases hv
    · simp only at hv
      split at hv
      · unfold frRun at hv
        split at hv
        · cases hv; exact MemStep.refl _
        · cases hv; exact MemStep.alloc _ _
        · cases hv
      · cases hv
  · rw [frO_ne h] at hf
    exact hO f Fo hf
theorem fr_fun {F : Nat} {laid : List (String × DataW Unit)} {O O0 : Oracle} {ff : FuncId} {e : TypeId} {Fn : FrF} {xs cs : List FV} {l : List Value} (hO : O ff = frO (globList P F laid) (globMem P F laid) ff e Fn O0 ff) (h : ∀ m F' as, RFs m F' xs as → Fn as = some l)
    (hr : ∀ m F', RFs m F' cs l) (hc : l.all isCell = true) : VFunV (lawEnvX P F laid O) ff xs e cs l.length l.isEmpty := by
  intro m F' σ as h1 h2
  have h2' : RFs m F' xs as := RFs.ofRPs h2
  have h3 := h m F' as h2'
  have hg : ∀ k ∈ globList P F laid, m.get k = (globMem P F laid).get k := fun k hk => by
    obtain ⟨hlt, e, l, hgl⟩ := globList_mem hk
    have := (h1.gl k l e (by simp only [lawEnvX, gam, if_pos hlt, hgl, Option.map_some])).2.1
    rw [this, globMem_get hlt, hgl]
  have hO' : (lawEnvX P F laid O).O ff = some (fun as m => open Classical in if ∀ k ∈ globList P F laid, m.get k = (globMem P F laid).get k then frRun e Fn as m else none) := by
    show O ff = _
    rw [hO]; unfold frO; rw [if_pos rfl]
  cases l with
  | nil =>
    have hcs : cs = [] := by cases hr m F'; rfl
    subst hcs
    obtain ⟨c1, c2⟩ := adoptCtx e h1
    refine ACalls.oracle (m' := m) (v := .slice none 0 0) hO' ?_ ⟨.vec 0 0 0 0, [(0, .vec e [] 0 true)], 1, F', _, ⟨rfl, rfl, rfl⟩, c1, nil_vec e [] 0, c2⟩
    rw [if_pos hg]; unfold frRun; rw [h3]
  | cons a l =>
    obtain ⟨c1, c2, _, c4⟩ := slice_new (e := e) (l.length + 1) h1 (hr m F') hc
    refine ACalls.oracle (m' := (newSlice m e (a :: l) (l.length + 1)).2) (v := (newSlice m e (a :: l) (l.length + 1)).1) hO' ?_ ⟨_, _, _, F', _, ⟨rfl, rfl, rfl⟩, c1, c4, c2⟩
    rw [if_pos hg]; unfold frRun; rw [h3]
end
end Go.Vm
