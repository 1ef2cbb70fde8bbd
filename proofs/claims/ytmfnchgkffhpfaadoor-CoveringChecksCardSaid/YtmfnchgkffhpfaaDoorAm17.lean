/-
  The abstract machine: a region that draws its order is sound: one operation, whichever is ready. No condition. Nothing of one program stands here.
-/
import Derived.Test.YtmfnchgkffhpfaaDoorAm16
namespace Go.Am
variable {P : Program} {G : List Nat} {call : CallF} {ops : Array Oper} {S : Nat → St}

theorem DI.dom_lt {n : Nat} {ι ι0 : Inj} {a : Act} {w w0 : World} {listed : Array Bool} {jp jn : Nat} (ht : Trace P call ops S) (hcs : CallStep call) (hd : DI P G n ops S ι0 w0 listed ι a w jp jn) {b : Nat} {ib : IB}
    (hb : ι b = some ib) : b < (S jn).m.size := by
  rcases hd.dome b ib hb with h | ⟨i, _, h1, h2, _, h3⟩
  · exact Nat.lt_of_lt_of_le h (ht.memTo hcs jp jn hd.h1 hd.h1').size
  · exact Nat.lt_of_lt_of_le h3 (ht.memTo hcs (i + 1) jn h2 hd.h1').size

theorem closed_set {listed : Array Bool} {j : Nat} {o : Oper} (hcl : Closed ops listed) (hj : j < listed.size) (ho : ops[j]? = some o) (hall : ∀ e ∈ o.after, Region.binds .any e = true → listed.getD e.on false = true) :
    Closed ops (listed.setIfInBounds j true) := by
  intro i oi hi hl e he hb
  rw [listed_set hj]
  split
  · rfl
  · rw [listed_set hj] at hl
    split at hl
    · rename_i h1 h2
      subst h2
      rw [ho] at hi; cases hi
      exact hall e he hb
    · exact hcl i oi hi hl e he hb

theorem listed_mono {listed : Array Bool} {i j : Nat} (hj : j < listed.size) (h : listed.getD i false = true) : (listed.setIfInBounds j true).getD i false = true := by
  rw [listed_set hj]; split
  · rfl
  · exact h

/-- what operation j's operands are -/
theorem operands_rel {n : Nat} {ι ι0 : Inj} {a : Act} {w w0 : World} {listed : Array Bool} {jp jn j : Nat} {o : Oper} (ht : Trace P call ops S) (hcs : CallStep call) (hdr : drawOk ops = true)
    (hd : DI P G n ops S ι0 w0 listed ι a w jp jn) (hG : ∀ k, k ∈ G → k < (S 0).m.size) (ho : ops[j]? = some o) (hunl : listed.getD j false = false)
    (hall : ∀ e ∈ o.after, Region.binds .any e = true → listed.getD e.on false = true) (hop : ∀ x ∈ o.op.operands, operandOk G x = true) :
    ∀ x ∈ o.op.operands, VRel (cut ι (S j).m.size) (S jn).m.gen (ev (S j).t x) (a.eval x) := by
  intro x hx
  have hjlt : j < ops.size := (Array.getElem?_eq_some_iff.1 ho).1
  cases x with
  | tmp t =>
    refine slots_read ht hcs hdr ho hd hunl hall (t := t) ?_
    unfold Oper.looksAt
    refine List.mem_append_left _ ?_
    rw [List.mem_filterMap]
    exact ⟨.tmp t, by simpa using hx, rfl⟩
  | const v => exact VRel.plain (hop _ hx)
  | global k =>
    have hk : k ∈ G := by simpa [operandOk] using hop _ hx
    obtain ⟨ib, h1, h2, h3, h4, h5⟩ := (hd.sims jn hd.h1 (Nat.le_refl _)).glob k hk
    have hlt := Nat.lt_of_lt_of_le (hG k hk) (ht.memTo hcs 0 j (Nat.zero_le _) (by omega)).size
    exact .ptr _ _ ⟨ib, by rw [cut_lt hlt]; exact (cut_some h1).2, Nat.zero_le _, fun _ => by simp [h2, h3]⟩
  | func f => exact .fn f [] [] [] [] rfl (fun i hi => absurd hi (by simp)) rfl (fun i hi => absurd hi (by simp))

theorem wanted_at {n : Nat} {ι ι0 : Inj} {a : Act} {w w0 : World} {listed : Array Bool} {jp jn j : Nat} {o : Oper} (ht : Trace P call ops S) (hcs : CallStep call) (hdr : drawOk ops = true)
    (hd : DI P G n ops S ι0 w0 listed ι a w jp jn) (ho : ops[j]? = some o) (hunl : listed.getD j false = false)
    (hall : ∀ e ∈ o.after, Region.binds .any e = true → listed.getD e.on false = true) : Region.wanted o (yielded ops a.tmps) = Region.wanted o (ayielded ops (S j).t) := by
  unfold Region.wanted
  cases hg : o.guard with
  | none => rfl
  | some p =>
    obtain ⟨k, b⟩ := p
    have key : yielded ops a.tmps k = ayielded ops (S j).t k := by
      unfold yielded ayielded
      cases hdk : (ops[k]?).bind (·.dst) with
      | none => rfl
      | some d =>
        simp only [Option.bind_some]
        have hv := slots_read ht hcs hdr ho hd hunl hall (t := d) (by
          unfold Oper.looksAt
          refine List.mem_append_right _ ?_
          rw [hg]
          simp only [hdk, Option.toList_some, List.mem_singleton])
        cases ha : a.tmps[d]? with
        | none =>
          have e : a.tmps.getD d undef = undef := by simp [ha]
          rw [e] at hv
          have : ∀ b, tget (S j).t d ≠ .bool b := fun b hb => by
            have := (hv.bool_iff b).1 hb
            cases this
          split
          · rename_i h; cases h
          · split
            · rename_i b hb; exact absurd hb (this b)
            · rfl
        | some u =>
          have e : a.tmps.getD d undef = u := by simp [ha]
          rw [e] at hv
          split
          · rename_i b hb
            cases hb
            have := (hv.bool_iff b).2 rfl
            rw [this]
          · rename_i hne
            split
            · rename_i b hb
              have := (hv.bool_iff b).1 hb
              exact absurd (by rw [this]) (hne b)
            · rfl
    simp only [key]

/-- (1) an operation that leaves the memory alone -/
theorem DI.still {n : Nat} {ι ι0 : Inj} {a : Act} {w w0 : World} {listed : Array Bool} {jp jn j : Nat} {o : Oper} {v' : Value} (ht : Trace P call ops S) (hdr : drawOk ops = true)
    (hd : DI P G n ops S ι0 w0 listed ι a w jp jn) (ho : ops[j]? = some o) (hunl : listed.getD j false = false) (hall : ∀ e ∈ o.after, Region.binds .any e = true → listed.getD e.on false = true)
    (hdn : ∀ d, o.dst = some d → d < n) (hnb : isBar ops j = false)
    (hv : ∀ d, o.dst = some d → VRel (cut ι (S (j + 1)).m.size) (S jn).m.gen (tget (S (j + 1)).t d) v') :
    DI P G n ops S ι0 w0 (listed.setIfInBounds j true) ι (a.put o.dst v') w jp jn := by
  have hjlt : j < ops.size := (Array.getElem?_eq_some_iff.1 ho).1
  have hj' : j < listed.size := by rw [hd.lsz]; exact hjlt
  obtain ⟨v1, v0⟩ := slots_put ht hdr ho hd.lsz hunl hd.tsz hdn (fun x => Le.refl _ _) hv hd.v1 hd.v0
  refine ⟨by simpa using hd.lsz, closed_set hd.cl hj' ho hall, hd.h1, hd.h1', hd.h2, ?_, fun k hk htk => listed_mono hj' (hd.h4 k hk htk), hd.sims, ?_, ?_, ?_, v1, v0, hd.le, hd.back, hd.dom0, hd.heap, hd.frame, hd.tape, hd.os, hd.output⟩
  · rcases hd.h3 with h | ⟨h1, h2⟩
    · exact .inl h
    · refine .inr ⟨h1, ?_⟩
      rw [listed_set hj', if_neg (fun e => by subst e; rw [h1] at hnb; cases hnb)]
      exact h2
  · intro b ib hb
    rcases hd.dome b ib hb with h | ⟨i, h1, h2⟩
    · exact .inl h
    · exact .inr ⟨i, listed_mono hj' h1, h2⟩
  · cases hdd : o.dst <;> simp [Act.put, hd.tsz]
  · cases hdd : o.dst <;> simp [Act.put, hd.tdef]

/-- (2) an operation that makes memory, and writes none that was there -/
theorem DI.quiet {n : Nat} {ι ι0 ι1 : Inj} {a : Act} {w w0 w' : World} {listed : Array Bool} {jp jn j : Nat} {o : Oper} {v v' : Value} {m' : Mem} {y : Nat} (ht : Trace P call ops S) (hcs : CallStep call) (hdr : drawOk ops = true)
    (hd : DI P G n ops S ι0 w0 listed ι a w jp jn) (ho : ops[j]? = some o) (hunl : listed.getD j false = false) (hall : ∀ e ∈ o.after, Region.binds .any e = true → listed.getD e.on false = true)
    (hdn : ∀ d, o.dst = some d → d < n) (hjp : jp ≤ j) (hjn : j < jn) (hm' : (S (j + 1)).m = setLow m' y) (hlow : (S j).m.size ≤ m'.low) (hstep : MemStep (setLow (S j).m (S j).m.size) m')
    (htv : ∀ d, o.dst = some d → tget (S (j + 1)).t d = v)
    (hext : Ext (cut ι (S j).m.size) (setLow (S j).m (S j).m.size) w ι1 m' w') (hsim : Sim P G ι1 m' w') (hvr : VRel ι1 m'.gen v v') :
    ∃ ι', DI P G n ops S ι0 w0 (listed.setIfInBounds j true) ι' (a.put o.dst v') w' jp jn := by
  have hjlt : j < ops.size := (Array.getElem?_eq_some_iff.1 ho).1
  have hj' : j < listed.size := by rw [hd.lsz]; exact hjlt
  have hsz1 : (S (j + 1)).m.size = m'.size := by rw [hm']; rfl
  have hget1 : ∀ b, (S (j + 1)).m.get b = m'.get b := fun b => by rw [hm']; rfl
  have hgj : ∀ b, b < (S j).m.size → m'.get b = (S j).m.get b := fun b hb => hstep.keep b hb (Nat.lt_of_lt_of_le hb hlow)
  have hle01 : (S j).m.size ≤ (S (j + 1)).m.size := by rw [hsz1]; exact hstep.size
  let ι' : Inj := fun b => if (S j).m.size ≤ b ∧ b < (S (j + 1)).m.size then ι1 b else ι b
  have hnew : ∀ b, (S j).m.size ≤ b → b < (S (j + 1)).m.size → ι' b = ι1 b := fun b h1 h2 => if_pos ⟨h1, h2⟩
  have hold : ∀ b, ¬ ((S j).m.size ≤ b ∧ b < (S (j + 1)).m.size) → ι' b = ι b := fun b h => if_neg h
  -- F1
  have f1 : ∀ b, b < (S j).m.size → ι1 b = ι b := fun b hb => by
    cases hib : ι b with
    | some ib =>
      have hc : cut ι (S j).m.size b = some ib := by rw [cut_lt hb]; exact hib
      obtain ⟨_, ib', h2, h3⟩ := hext.le b ib hc
      have hg : m'.gen b = (setLow (S j).m (S j).m.size).gen b := gen_of_get (hgj b hb)
      rw [h2, h3 hg]
    | none =>
      cases hi1 : ι1 b with
      | none => rfl
      | some ib =>
        rcases hext.dom b ib hi1 with ⟨ib0, h⟩ | h
        · have := (cut_some h).2; rw [hib] at this; cases this
        · exact absurd hb (by show ¬ _; exact Nat.not_lt.2 h)
  -- F2
  have f2 : ∀ b, (S j).m.size ≤ b → b < (S (j + 1)).m.size → ι b = none := fun b h1 h2 => by
    cases hib : ι b with
    | none => rfl
    | some ib =>
      rcases hd.dome b ib hib with h | ⟨i, hl, hi1, hi2, hi3, hi4⟩
      · have := (ht.memTo hcs jp j hjp (by omega)).size; omega
      · rcases Nat.lt_trichotomy i j with h | h | h
        · have := (ht.memTo hcs (i + 1) j (by omega) (by omega)).size; omega
        · subst h; rw [hunl] at hl; cases hl
        · have := (ht.memTo hcs (j + 1) i (by omega) (by have := hd.h1'; omega)).size; omega
  have holdS : ∀ b ib, ι b = some ib → ι' b = some ib := fun b ib hb => by
    rw [hold b (fun h => by have := f2 b h.1 h.2; rw [hb] at this; cases this)]; exact hb
  have f3 : ∀ b, cut ι' (S (j + 1)).m.size b = ι1 b := fun b => by
    by_cases h1 : b < (S (j + 1)).m.size
    · rw [cut_lt h1]
      by_cases h2 : (S j).m.size ≤ b
      · exact hnew b h2 h1
      · rw [hold b (fun h => h2 h.1), f1 b (by omega)]
    · have : cut ι' (S (j + 1)).m.size b = none := if_neg h1
      rw [this]
      cases hi1 : ι1 b with
      | none => rfl
      | some ib => exact absurd (hsim.dom b ib hi1).1 (by rw [← hsz1]; exact h1)
  have f5 : ∀ c, c < w.heap.size → w'.heap[c]? = w.heap[c]? := fun c hc => hext.frame c hc fun b ib hb _ => .inr (Nat.lt_of_lt_of_le (cut_some hb).1 hlow)
  have hgenN : ∀ b, b < (S (j + 1)).m.size → (S jn).m.gen b = m'.gen b := fun b hb => by
    have := ht.quietTo hcs (j + 1) jn (by omega) hd.h1' (fun k h1 h2 => hd.h2 k (by omega) h2) b hb
    rw [gen_of_get this]; exact gen_of_get (hget1 b)
  have hle1 : ∀ i', j + 1 ≤ i' → i' ≤ jn → Le ι1 m'.gen (cut ι' (S i').m.size) (S i').m.gen := fun i' h1 h2 b ib hb => by
    have hbl : b < (S (j + 1)).m.size := by rw [hsz1]; exact (hsim.dom b ib hb).1
    have hsi := (ht.memTo hcs (j + 1) i' h1 (by have := hd.h1'; omega)).size
    have hq := ht.quietTo hcs (j + 1) i' h1 (by have := hd.h1'; omega) (fun k q1 q2 => hd.h2 k (by omega) (by omega)) b hbl
    refine ⟨by rw [gen_of_get hq, gen_of_get (hget1 b)]; exact Nat.le_refl _, ib, ?_, fun _ => rfl⟩
    rw [cut_lt (by omega), ← hb, ← f3 b, cut_lt hbl]
  have hleS : ∀ x g, Le (cut ι x) g (cut ι' x) g := fun x g b ib hb => by
    obtain ⟨h1, h2⟩ := cut_some hb
    exact ⟨Nat.le_refl _, ib, by rw [cut_lt h1]; exact holdS b ib h2, fun _ => rfl⟩
  have hsims : ∀ i', jp ≤ i' → i' ≤ jn → Sim P G (cut ι' (S i').m.size) (S i').m w' := fun i' h1 h2 => by
    have hs := hd.sims i' h1 h2
    by_cases hij : i' ≤ j
    · refine (hs.world hext.heap f5).congr fun b => ?_
      by_cases hb : b < (S i').m.size
      · rw [cut_lt hb, cut_lt hb]
        refine hold b fun h => ?_
        have := (ht.memTo hcs i' j hij (by omega)).size
        omega
      · exact (if_neg hb).trans (if_neg hb).symm
    · have hi1 : j + 1 ≤ i' := by omega
      have hin : i' ≤ ops.size := by have := hd.h1'; omega
      have hsi := (ht.memTo hcs (j + 1) i' hi1 hin).size
      have hq : ∀ b, b < (S (j + 1)).m.size → (S i').m.get b = m'.get b := fun b hb =>
        (ht.quietTo hcs (j + 1) i' hi1 hin (fun k q1 q2 => hd.h2 k (by omega) (by omega)) b hb).trans (hget1 b)
      -- a block is new, or was there
      have cases2 : ∀ b ib, cut ι' (S i').m.size b = some ib → ((S j).m.size ≤ b ∧ b < (S (j + 1)).m.size ∧ ι1 b = some ib ∧ w.heap.size ≤ ib.blk) ∨ cut ι (S i').m.size b = some ib := fun b ib hb => by
        obtain ⟨hb1, hb2⟩ := cut_some hb
        by_cases hn : (S j).m.size ≤ b ∧ b < (S (j + 1)).m.size
        · rw [hnew b hn.1 hn.2] at hb2
          refine .inl ⟨hn.1, hn.2, hb2, ?_⟩
          rcases hext.back b ib hb2 with ⟨ib0, h, _⟩ | h
          · have := (cut_some h).1; omega
          · exact h
        · rw [hold b hn] at hb2
          exact .inr (by rw [cut_lt hb1]; exact hb2)
      refine ⟨fun b ib hb => ?_, fun b ib hb => ?_, fun b b' ib ib' hb hb' he => ?_, fun k hk => ?_⟩
      · refine ⟨(cut_some hb).1, ?_⟩
        rcases cases2 b ib hb with ⟨_, _, h, _⟩ | h
        · exact (hsim.dom b ib h).2
        · exact Nat.lt_of_lt_of_le (hs.dom b ib h).2 hext.heap
      · rcases cases2 b ib hb with ⟨_, hb2, h, _⟩ | h
        · rw [hq b hb2]
          exact (hsim.blk b ib h).mono (hle1 i' hi1 h2)
        · rw [f5 _ (hs.dom b ib h).2]
          exact (hs.blk b ib h).mono (hleS _ _)
      · rcases cases2 b ib hb with ⟨p1, p2, p3, p4⟩ | p
        · rcases cases2 b' ib' hb' with ⟨q1, q2, q3, q4⟩ | q
          · rcases hsim.inj b b' ib ib' p3 q3 he with h | ⟨r1, r2⟩
            · exact .inl h
            · exact .inr ⟨by rw [ro_of_get (hq b p2)]; exact r1, by rw [ro_of_get (hq b' q2)]; exact r2⟩
          · have := (hs.dom b' ib' q).2; omega
        · rcases cases2 b' ib' hb' with ⟨q1, q2, q3, q4⟩ | q
          · have := (hs.dom b ib p).2; omega
          · exact hs.inj b b' ib ib' p q he
      · obtain ⟨ib, q1, q2, q3, q4, q5⟩ := hs.glob k hk
        obtain ⟨r1, r2⟩ := cut_some q1
        exact ⟨ib, by rw [cut_lt r1]; exact holdS k ib r2, q2, q3, q4, q5⟩
  obtain ⟨v1, v0⟩ := slots_put (v' := v') ht hdr ho hd.lsz hunl hd.tsz hdn (fun x => hleS x (S jn).m.gen) (fun d hdd => by
    rw [htv d hdd]
    refine hvr.mono fun b ib hb => ?_
    have hbl : b < (S (j + 1)).m.size := by rw [hsz1]; exact (hsim.dom b ib hb).1
    exact ⟨by rw [hgenN b hbl]; exact Nat.le_refl _, ib, by rw [f3]; exact hb, fun _ => rfl⟩) hd.v1 hd.v0
  refine ⟨ι', by simpa using hd.lsz, closed_set hd.cl hj' ho hall, hd.h1, hd.h1', hd.h2, ?_, fun k hk htk => listed_mono hj' (hd.h4 k hk htk), hsims, ?_, ?_, ?_, v1, v0, ?_, ?_, ?_, Nat.le_trans hd.heap hext.heap,
    fun c hc hf => (f5 c (Nat.lt_of_lt_of_le hc hd.heap)).trans (hd.frame c hc hf), hext.tape.trans hd.tape, hext.os.trans hd.os, hext.output.trans hd.output⟩
  · rcases hd.h3 with h | ⟨h1, h2⟩
    · exact .inl h
    · refine .inr ⟨h1, ?_⟩
      rw [listed_set hj', if_neg (by omega)]
      exact h2
  · intro b ib hb
    by_cases hn : (S j).m.size ≤ b ∧ b < (S (j + 1)).m.size
    · exact .inr ⟨j, by rw [listed_set hj', if_pos rfl], hjp, hjn, hn.1, hn.2⟩
    · rw [hold b hn] at hb
      rcases hd.dome b ib hb with h | ⟨i, h1, h2⟩
      · exact .inl h
      · exact .inr ⟨i, listed_mono hj' h1, h2⟩
  · cases hdd : o.dst <;> simp [Act.put, hd.tsz]
  · cases hdd : o.dst <;> simp [Act.put, hd.tdef]
  · exact hd.le.trans fun b ib hb => ⟨Nat.le_refl _, ib, holdS b ib hb, fun _ => rfl⟩
  · intro b ib hb
    by_cases hn : (S j).m.size ≤ b ∧ b < (S (j + 1)).m.size
    · rw [hnew b hn.1 hn.2] at hb
      rcases hext.back b ib hb with ⟨ib0, h, _⟩ | h
      · have := (cut_some h).1; omega
      · exact .inr (Nat.le_trans hd.heap h)
    · rw [hold b hn] at hb
      exact hd.back b ib hb
  · intro b ib hb
    by_cases hn : (S j).m.size ≤ b ∧ b < (S (j + 1)).m.size
    · exact .inr (Nat.le_trans (ht.memTo hcs 0 j (Nat.zero_le _) (by omega)).size hn.1)
    · rw [hold b hn] at hb
      exact hd.dom0 b ib hb

theorem nextBar (ops : Array Oper) (k : Nat) (hk : k ≤ ops.size) : ∃ jn, k ≤ jn ∧ jn ≤ ops.size ∧ (∀ i, k ≤ i → i < jn → isBar ops i = false) ∧ (jn = ops.size ∨ isBar ops jn = true) := by
  generalize hd : ops.size - k = d
  induction d generalizing k with
  | zero => exact ⟨ops.size, hk, Nat.le_refl _, fun i h1 h2 => by omega, .inl rfl⟩
  | succ d ih =>
    cases hb : isBar ops k with
    | true => exact ⟨k, Nat.le_refl _, hk, fun i h1 h2 => by omega, .inr hb⟩
    | false =>
      obtain ⟨jn, h1, h2, h3, h4⟩ := ih (k + 1) (by omega) (by omega)
      refine ⟨jn, by omega, h2, fun i q1 q2 => ?_, h4⟩
      by_cases e : i = k
      · subst e; exact hb
      · exact h3 i (by omega) q2

/-- (3) a barrier -/
theorem DI.bar {n : Nat} {ι ι0 ι1 : Inj} {a : Act} {w w0 w' : World} {listed : Array Bool} {jp j : Nat} {o : Oper} {v v' : Value} {m' : Mem} {y : Nat} (ht : Trace P call ops S) (hcs : CallStep call) (hdr : drawOk ops = true)
    (hd : DI P G n ops S ι0 w0 listed ι a w jp j) (ho : ops[j]? = some o) (hunl : listed.getD j false = false) (hall : ∀ e ∈ o.after, Region.binds .any e = true → listed.getD e.on false = true)
    (hdn : ∀ d, o.dst = some d → d < n) (hb0 : ∀ b ib, ι0 b = some ib → b < (S 0).m.size) (hbar : isBar ops j = true) (hm' : (S (j + 1)).m = setLow m' y) (hy : y ≤ m'.low)
    (htv : ∀ d, o.dst = some d → tget (S (j + 1)).t d = v)
    (hext : Ext (cut ι (S j).m.size) (setLow (S j).m (S j).m.size) w ι1 m' w') (hsim : Sim P G ι1 m' w') (hvr : VRel ι1 m'.gen v v') :
    ∃ ι' jp' jn', DI P G n ops S ι0 w0 (listed.setIfInBounds j true) ι' (a.put o.dst v') w' jp' jn' := by
  have hjlt : j < ops.size := (Array.getElem?_eq_some_iff.1 ho).1
  have hj' : j < listed.size := by rw [hd.lsz]; exact hjlt
  have hsz1 : (S (j + 1)).m.size = m'.size := by rw [hm']; rfl
  have hget1 : ∀ b, (S (j + 1)).m.get b = m'.get b := fun b => by rw [hm']; rfl
  obtain ⟨hback, _⟩ := drawOk_spec hdr
  obtain ⟨htch, horder⟩ := isBar_spec hbar
  obtain ⟨jn, n1, n2, n3, n4⟩ := nextBar ops (j + 1) (by omega)
  have hsj : (S (j + 1)).m.size ≤ (S jn).m.size := (ht.memTo hcs (j + 1) jn n1 n2).size
  have hgetN : ∀ b, b < (S (j + 1)).m.size → (S jn).m.get b = m'.get b := fun b hb => (ht.quietTo hcs (j + 1) jn n1 n2 (fun k h1 h2 => n3 k h1 h2) b hb).trans (hget1 b)
  have hdl : ∀ b ib, ι1 b = some ib → b < (S (j + 1)).m.size := fun b ib hb => by rw [hsz1]; exact (hsim.dom b ib hb).1
  have hLow : (S ops.size).m.low ≤ m'.low := by
    have h1 := (ht.memTo hcs (j + 1) ops.size (by omega) (Nat.le_refl _)).low
    have h2 : (S (j + 1)).m.low = y := by rw [hm']; rfl
    omega
  have hleX : ∀ x, Le (cut ι x) (S j).m.gen (cut ι1 x) (S jn).m.gen := fun x b ib hb => by
    obtain ⟨h1, h2⟩ := cut_some hb
    have hbj := hd.dom_lt ht hcs h2
    obtain ⟨q1, ib', q2, q3⟩ := hext.le b ib (by rw [cut_lt hbj]; exact h2)
    have hg : (S jn).m.gen b = m'.gen b := gen_of_get (hgetN b (hdl b ib' q2))
    exact ⟨by rw [hg]; exact q1, ib', by rw [cut_lt h1]; exact q2, fun e => q3 (by rw [← hg]; exact e)⟩
  obtain ⟨v1, v0⟩ := slots_put (v' := v') ht hdr ho hd.lsz hunl hd.tsz hdn hleX (fun d hdd => by
    rw [htv d hdd]
    refine hvr.mono fun b ib hb => ?_
    have hbl := hdl b ib hb
    exact ⟨by rw [gen_of_get (hgetN b hbl)]; exact Nat.le_refl _, ib, by rw [cut_lt hbl]; exact hb, fun _ => rfl⟩) hd.v1 hd.v0
  refine ⟨ι1, j + 1, jn, by simpa using hd.lsz, closed_set hd.cl hj' ho hall, n1, n2, n3, ?_, ?_, ?_, fun b ib hb => .inl (hdl b ib hb), ?_, ?_, v1, v0, ?_, ?_, ?_, Nat.le_trans hd.heap hext.heap, ?_,
    hext.tape.trans hd.tape, hext.os.trans hd.os, hext.output.trans hd.output⟩
  · rcases n4 with h | h
    · exact .inl h
    · refine .inr ⟨h, ?_⟩
      rw [listed_set hj', if_neg (by omega)]
      cases hl : listed.getD jn false with
      | false => rfl
      | true =>
        obtain ⟨t1, t2⟩ := isBar_spec h
        have hbit := (t2 j (by omega) htch).1 (by omega)
        obtain ⟨on, hon⟩ := getOp (ops := ops) (i := jn) (by
          rcases Nat.lt_or_ge jn ops.size with h | h
          · exact h
          · unfold isBar at *
            rename_i hbb
            rw [Array.getElem?_eq_none h] at hbb
            cases hbb)
        have := closed_before hd.cl hback jn on j hon (hd.cl jn on hon hl) hbit
        rw [hunl] at this; cases this
  · intro k hk htk
    by_cases e : k = j
    · subst e; rw [listed_set hj', if_pos rfl]
    · refine listed_mono hj' ?_
      exact closed_before hd.cl hback j o k ho hall ((horder k e htk).1 (by omega))
  · intro i' h1 h2
    have hsi := (ht.memTo hcs (j + 1) i' h1 (by omega)).size
    have hq : ∀ b, b < (setLow m' y).size → (S i').m.get b = (setLow m' y).get b := fun b hb => by
      have hb' : b < (S (j + 1)).m.size := by rw [hsz1]; exact hb
      exact (ht.quietTo hcs (j + 1) i' h1 (by omega) (fun k q1 q2 => n3 k q1 (by omega)) b hb').trans (hget1 b)
    refine ((hsim.low y).extend (m2 := (S i').m) (by rw [← hm']; exact hsi) hq).congr fun b => ?_
    cases hib : ι1 b with
    | none =>
      unfold cut; split
      · exact hib
      · rfl
    | some ib => rw [cut_lt (Nat.lt_of_lt_of_le (hdl b ib hib) hsi)]; exact hib
  · cases hdd : o.dst <;> simp [Act.put, hd.tsz]
  · cases hdd : o.dst <;> simp [Act.put, hd.tdef]
  · refine hd.le.trans fun b ib hb => ?_
    have hbj := hd.dom_lt ht hcs hb
    obtain ⟨q1, ib', q2, q3⟩ := hext.le b ib (by rw [cut_lt hbj]; exact hb)
    have hg : (S jn).m.gen b = m'.gen b := gen_of_get (hgetN b (hdl b ib' q2))
    exact ⟨by rw [hg]; exact q1, ib', q2, fun e => q3 (by rw [← hg]; exact e)⟩
  · intro b ib' hb
    rcases hext.back b ib' hb with ⟨ib, h1, h2⟩ | h
    · rcases hd.back b ib (cut_some h1).2 with ⟨ib0, h3, h4⟩ | h3
      · exact .inl ⟨ib0, h3, h4.trans h2⟩
      · exact .inr (h2 ▸ h3)
    · exact .inr (Nat.le_trans hd.heap h)
  · intro b ib' hb
    rcases hext.dom b ib' hb with ⟨ib, h1⟩ | h
    · exact hd.dom0 b ib (cut_some h1).2
    · exact .inr (Nat.le_trans (ht.memTo hcs 0 j (Nat.zero_le _) (by omega)).size h)
  · intro c hc hf
    rw [hext.frame c (Nat.lt_of_lt_of_le hc hd.heap) ?_, hd.frame c hc hf]
    intro b ib hb he
    rcases hd.back b ib (cut_some hb).2 with ⟨ib0, h3, h4⟩ | h3
    · rcases hf b ib0 h3 (h4.trans he) with h5 | h5
      · refine .inl ?_
        show (S j).m.ro b = true
        rw [(ht.memTo hcs 0 j (Nat.zero_le _) (by omega)).ro' b (hb0 b ib0 h3)]
        exact h5
      · exact .inr (Nat.lt_of_lt_of_le h5 hLow)
    · omega

end Go.Am
