/-
  The abstract machine: a region that draws its order is sound, whatever the order: the induction. No condition. Nothing of one program stands here.
-/
import Derived.Test.YtmfnchgkffhpfaaDoorAm14
namespace Go.Am
variable {P : Program} {G : List Nat}

/-- the run in the text's order -/
structure Trace (P : Program) (call : CallF) (ops : Array Oper) (S : Nat → St) : Prop where
  step : ∀ (i : Nat) (o : Oper), ops[i]? = some o → dstep P call ops i o (S i) = some (S (i + 1))

section
variable {call : CallF} {ops : Array Oper} {S : Nat → St}

theorem leInd {p : Nat → Prop} {i : Nat} (base : p i) (step : ∀ j, i ≤ j → p j → p (j + 1)) (j : Nat) (h : i ≤ j) : p j := by
  induction j with
  | zero => have : i = 0 := by omega
            subst this; exact base
  | succ j ih =>
    by_cases e : i = j + 1
    · subst e; exact base
    · exact step j (by omega) (ih (by omega))

theorem getOp {i : Nat} (h : i < ops.size) : ∃ o, ops[i]? = some o := ⟨ops[i], Array.getElem?_eq_getElem h⟩

theorem Trace.mem (ht : Trace P call ops S) (hc : CallStep call) {i : Nat} (hi : i < ops.size) : MemStep (S i).m (S (i + 1)).m := by
  obtain ⟨o, ho⟩ := getOp hi
  rcases dstep_cases (ht.step i o ho) with ⟨_, _, x, hm, hx, _⟩ | ⟨_, v, m', hv, _, hm, _⟩
  · rw [hm]; exact ⟨Nat.le_refl _, hx, fun _ _ _ => rfl, fun _ _ _ => rfl, fun _ _ => rfl⟩
  · have hs := aval_step hc hv
    rw [hm]
    exact ⟨hs.size, Nat.min_le_left _ _, fun b hb hl => hs.keep b hb (Nat.lt_of_lt_of_le hl (Nat.min_le_right _ _)), fun b hb hr => hs.ro b hb hr, fun b hb => hs.ro' b hb⟩

theorem Trace.memTo (ht : Trace P call ops S) (hc : CallStep call) (i : Nat) : ∀ j, i ≤ j → j ≤ ops.size → MemStep (S i).m (S j).m := by
  refine leInd (fun _ => MemStep.refl _) fun j hij ih hj => ?_
  exact (ih (by omega)).trans (ht.mem hc (by omega))

theorem aval_quiet {ρ : Operand → Value} {o : Oper} {m m' : Mem} {v : Value} (hq : quietKind o.op = true) (h : aval P call ρ o m = some (v, m')) (m2 : Mem) :
    m' = m ∧ aval P call ρ o m2 = some (v, m2) := by
  unfold aval at h ⊢
  split at h
  · rename_i f args aT hop
    rw [hop] at hq
    simp [quietKind] at hq
  · rename_i hne
    obtain ⟨h1, h2⟩ := quiet_indep hq h m2
    exact ⟨h1, h2⟩

theorem Trace.quiet (ht : Trace P call ops S) (hc : CallStep call) {i : Nat} (hi : i < ops.size) (hb : isBar ops i = false) : ∀ b, b < (S i).m.size → (S (i + 1)).m.get b = (S i).m.get b := by
  intro b hlt
  obtain ⟨o, ho⟩ := getOp hi
  rcases dstep_cases (ht.step i o ho) with ⟨_, _, x, hm, hx⟩ | ⟨_, v, m', hv, _, hm, hor⟩
  · rw [hm]; rfl
  · rw [hm]
    show m'.get b = (S i).m.get b
    by_cases hq : quietKind o.op = true
    · obtain ⟨h1, _⟩ := aval_quiet hq hv (S i).m
      rw [h1]; rfl
    · rcases hor with h | h
      · unfold isBar at hb
        rw [ho] at hb
        simp [hq, h] at hb
      · exact (aval_step hc hv).keep b hlt (Nat.lt_of_lt_of_le hlt h)

theorem Trace.still (ht : Trace P call ops S) {i : Nat} (hi : i < ops.size) (hb : touches ops i = false) : (S (i + 1)).m.size = (S i).m.size := by
  obtain ⟨o, ho⟩ := getOp hi
  unfold touches at hb
  rw [ho] at hb
  rcases dstep_cases (ht.step i o ho) with ⟨_, _, x, hm, hx⟩ | ⟨_, v, m', hv, _, hm, hor⟩
  · rw [hm]; rfl
  · obtain ⟨h1, _⟩ := aval_quiet (by simpa using hb) hv (S i).m
    rw [hm, h1]; rfl

theorem Trace.quietTo (ht : Trace P call ops S) (hc : CallStep call) (i : Nat) : ∀ j, i ≤ j → j ≤ ops.size → (∀ k, i ≤ k → k < j → isBar ops k = false) → ∀ b, b < (S i).m.size → (S j).m.get b = (S i).m.get b := by
  refine leInd (fun _ _ b _ => rfl) fun j hij ih => ?_
  · intro hj hq b hb
    rw [ht.quiet hc (by omega) (hq j hij (by omega)) b (Nat.lt_of_lt_of_le hb (ht.memTo hc i j hij (by omega)).size)]
    exact ih (by omega) (fun k h1 h2 => hq k h1 (by omega)) b hb

theorem Trace.tmps (ht : Trace P call ops S) (t : Nat) (i : Nat) : ∀ j, i ≤ j → j ≤ ops.size → (∀ k o, i ≤ k → k < j → ops[k]? = some o → o.dst ≠ some t) → tget (S j).t t = tget (S i).t t := by
  refine leInd (fun _ _ => rfl) fun j hij ih => ?_
  · intro hj hq
    obtain ⟨o, ho⟩ := getOp (ops := ops) (i := j) (by omega)
    have hd := hq j o hij (by omega) ho
    have hput : ∀ v, tget (tput (S j).t o.dst v) t = tget (S j).t t := fun v => by
      cases hdd : o.dst with
      | none => rfl
      | some d => simp only [tput]; rw [tget_tset, if_neg (fun e => hd (by rw [hdd, e]))]
    have hstep : tget (S (j + 1)).t t = tget (S j).t t := by
      rcases dstep_cases (ht.step j o ho) with ⟨_, h, _⟩ | ⟨_, v, m', _, h, _⟩
      · rw [h]; exact hput _
      · rw [h]; exact hput _
    rw [hstep]
    exact ih (by omega) fun k o h1 h2 => hq k o h1 (by omega)

theorem listed_set {listed : Array Bool} {i j : Nat} (hj : j < listed.size) : (listed.setIfInBounds j true).getD i false = if i = j then true else listed.getD i false := by
  by_cases e : i = j
  · subst e; simp [hj]
  · rw [if_neg e]; simp [Array.getElem?_setIfInBounds_ne (Ne.symm e)]

theorem Le.cut {ι : Inj} {g : Nat → Nat} {x y : Nat} (h : x ≤ y) : Le (cut ι x) g (cut ι y) g := fun b ib hb => by
  obtain ⟨h1, h2⟩ := cut_some hb
  exact ⟨Nat.le_refl _, ib, by rw [cut_lt (by omega)]; exact h2, fun _ => rfl⟩

theorem Le.uncut {ι : Inj} {g : Nat → Nat} {x : Nat} : Le (Am.cut ι x) g ι g := fun b ib hb => ⟨Nat.le_refl _, ib, (cut_some hb).2, fun _ => rfl⟩

/-- the relation while the region runs -/
structure DI (P : Program) (G : List Nat) (n : Nat) (ops : Array Oper) (S : Nat → St) (ι0 : Inj) (w0 : World) (listed : Array Bool) (ι : Inj) (a : Act) (w : World) (jp jn : Nat) : Prop where
  lsz : listed.size = ops.size
  cl : Closed ops listed
  h1 : jp ≤ jn
  h1' : jn ≤ ops.size
  h2 : ∀ k, jp ≤ k → k < jn → isBar ops k = false
  h3 : jn = ops.size ∨ (isBar ops jn = true ∧ listed.getD jn false = false)
  h4 : ∀ k, k < jp → touches ops k = true → listed.getD k false = true
  sims : ∀ j, jp ≤ j → j ≤ jn → Sim P G (cut ι (S j).m.size) (S j).m w
  dome : ∀ b ib, ι b = some ib → b < (S jp).m.size ∨ ∃ i, listed.getD i false = true ∧ jp ≤ i ∧ i < jn ∧ (S i).m.size ≤ b ∧ b < (S (i + 1)).m.size
  tsz : a.tmps.size = n
  tdef : a.defers = []
  v1 : ∀ (i : Nat) (o : Oper) (t : Nat), ops[i]? = some o → o.dst = some t → listed.getD i false = true → VRel (cut ι (S (i + 1)).m.size) (S jn).m.gen (tget (S ops.size).t t) (a.tmps.getD t undef)
  v0 : ∀ t, (∀ (i : Nat) (o : Oper), ops[i]? = some o → o.dst = some t → listed.getD i false = false) → VRel (cut ι (S 0).m.size) (S jn).m.gen (tget (S 0).t t) (a.tmps.getD t undef)
  le : Le ι0 (S 0).m.gen ι (S jn).m.gen
  back : ∀ b ib, ι b = some ib → (∃ ib0, ι0 b = some ib0 ∧ ib0.blk = ib.blk) ∨ w0.heap.size ≤ ib.blk
  dom0 : ∀ b ib, ι b = some ib → (∃ ib0, ι0 b = some ib0) ∨ (S 0).m.size ≤ b
  heap : w0.heap.size ≤ w.heap.size
  frame : ∀ c, c < w0.heap.size → (∀ b ib, ι0 b = some ib → ib.blk = c → (S 0).m.ro b = true ∨ b < (S ops.size).m.low) → w.heap[c]? = w0.heap[c]?
  tape : w.tape = w0.tape
  os : w.os = w0.os
  output : w.output = w0.output

/-- the slots, one operation later -/
theorem slots_put {n : Nat} {listed : Array Bool} {ι ι' : Inj} {g g' : Nat → Nat} {a : Act} {j : Nat} {o : Oper} {v' : Value} (ht : Trace P call ops S) (hdr : drawOk ops = true) (ho : ops[j]? = some o)
    (hlsz : listed.size = ops.size) (hunl : listed.getD j false = false) (htsz : a.tmps.size = n) (hdn : ∀ d, o.dst = some d → d < n)
    (hle : ∀ x, Le (cut ι x) g (cut ι' x) g')
    (hv : ∀ d, o.dst = some d → VRel (cut ι' (S (j + 1)).m.size) g' (tget (S (j + 1)).t d) v')
    (v1 : ∀ (i : Nat) (o : Oper) (t : Nat), ops[i]? = some o → o.dst = some t → listed.getD i false = true → VRel (cut ι (S (i + 1)).m.size) g (tget (S ops.size).t t) (a.tmps.getD t undef))
    (v0 : ∀ t, (∀ (i : Nat) (o : Oper), ops[i]? = some o → o.dst = some t → listed.getD i false = false) → VRel (cut ι (S 0).m.size) g (tget (S 0).t t) (a.tmps.getD t undef)) :
    (∀ (i : Nat) (o' : Oper) (t : Nat), ops[i]? = some o' → o'.dst = some t → (listed.setIfInBounds j true).getD i false = true → VRel (cut ι' (S (i + 1)).m.size) g' (tget (S ops.size).t t) ((a.put o.dst v').tmps.getD t undef)) ∧
    (∀ t, (∀ (i : Nat) (o' : Oper), ops[i]? = some o' → o'.dst = some t → (listed.setIfInBounds j true).getD i false = false) → VRel (cut ι' (S 0).m.size) g' (tget (S 0).t t) ((a.put o.dst v').tmps.getD t undef)) := by
  have hjlt : j < ops.size := (Array.getElem?_eq_some_iff.1 ho).1
  have hj' : j < listed.size := by omega
  obtain ⟨_, hdist⟩ := drawOk_spec hdr
  have hother : ∀ t, o.dst ≠ some t → (a.put o.dst v').tmps.getD t undef = a.tmps.getD t undef := fun t ht' => by
    cases hd : o.dst with
    | none => rfl
    | some d =>
      have : d ≠ t := fun e => ht' (by rw [hd, e])
      simp [Act.put, Array.getElem?_setIfInBounds_ne this]
  refine ⟨fun i o' t hi hd hl => ?_, fun t hall => ?_⟩
  · by_cases e : i = j
    · subst e
      rw [ho] at hi; cases hi
      have hself : (a.put o.dst v').tmps.getD t undef = v' := by
        rw [hd]
        have := hdn t hd
        simp [Act.put, htsz, this]
      rw [hself]
      have h1 : tget (S ops.size).t t = tget (S (i + 1)).t t := ht.tmps t (i + 1) ops.size (by omega) (Nat.le_refl _) fun k ok hk _ hok => (hdist i o t ho hd k ok hok (by omega)).1
      rw [h1]
      exact hv t hd
    · rw [listed_set hj', if_neg e] at hl
      rw [hother t (hdist i o' t hi hd j o ho (Ne.symm e)).1]
      exact (v1 i o' t hi hd hl).mono (hle _)
  · have hne : o.dst ≠ some t := fun hd => by
      have := hall j o ho hd
      rw [listed_set hj', if_pos rfl] at this
      cases this
    rw [hother t hne]
    refine (v0 t fun i o' hi hd => ?_).mono (hle _)
    have := hall i o' hi hd
    rw [listed_set hj'] at this
    split at this
    · cases this
    · exact this

/-- what operation j looks at -/
theorem slots_read {n : Nat} {listed : Array Bool} {ι ι0 : Inj} {a : Act} {w w0 : World} {jp jn j : Nat} {o : Oper} (ht : Trace P call ops S) (hc : CallStep call) (hdr : drawOk ops = true) (ho : ops[j]? = some o)
    (hd : DI P G n ops S ι0 w0 listed ι a w jp jn) (hunl : listed.getD j false = false) (hall : ∀ e ∈ o.after, Region.binds .any e = true → listed.getD e.on false = true) {t : Nat} (hl : t ∈ o.looksAt ops) :
    VRel (cut ι (S j).m.size) (S jn).m.gen (tget (S j).t t) (a.tmps.getD t undef) := by
  have hjlt : j < ops.size := (Array.getElem?_eq_some_iff.1 ho).1
  obtain ⟨hback, hdist⟩ := drawOk_spec hdr
  by_cases hw : ∃ (i : Nat) (oi : Oper), ops[i]? = some oi ∧ oi.dst = some t
  · obtain ⟨i, oi, hi, hdi⟩ := hw
    have hilt : i < ops.size := (Array.getElem?_eq_some_iff.1 hi).1
    have uniq : ∀ (k : Nat) (ok : Oper), ops[k]? = some ok → ok.dst = some t → k = i := fun k ok hk hdk => by
      by_cases e : k = i
      · exact e
      · exact absurd hdk (hdist i oi t hi hdi k ok hk e).1
    -- not yet written
    have notYet : listed.getD i false = false → j ≤ i → VRel (cut ι (S j).m.size) (S jn).m.gen (tget (S j).t t) (a.tmps.getD t undef) := fun hu hji => by
      have h0 := hd.v0 t fun k ok hk hdk => by rw [uniq k ok hk hdk]; exact hu
      have e1 : tget (S j).t t = tget (S 0).t t := ht.tmps t 0 j (Nat.zero_le _) (by omega) fun k ok _ hkj hok hdk => by have := uniq k ok hok hdk; omega
      rw [e1]
      exact h0.mono (Le.cut (ht.memTo hc 0 j (Nat.zero_le _) (by omega)).size)
    rcases Nat.lt_trichotomy i j with hlt | heq | hgt
    · have hb := ((hdist i oi t hi hdi j o ho (by omega)).2 hl).1 hlt
      have hli := closed_before hd.cl hback j o i ho hall hb
      have h1 := hd.v1 i oi t hi hdi hli
      have e1 : tget (S ops.size).t t = tget (S j).t t := ht.tmps t j ops.size (by omega) (Nat.le_refl _) fun k ok hk _ hok hdk => by have := uniq k ok hok hdk; omega
      rw [← e1]
      exact h1.mono (Le.cut (ht.memTo hc (i + 1) j (by omega) (by omega)).size)
    · subst heq
      exact notYet hunl (Nat.le_refl _)
    · have hb := ((hdist i oi t hi hdi j o ho (by omega)).2 hl).2 hgt
      refine notYet ?_ (by omega)
      cases hli : listed.getD i false with
      | false => rfl
      | true =>
        have := closed_before hd.cl hback i oi j hi (hd.cl i oi hi hli) hb
        rw [hunl] at this; cases this
  · have h0 := hd.v0 t fun i oi hi hdi => absurd ⟨i, oi, hi, hdi⟩ hw
    have e1 : tget (S j).t t = tget (S 0).t t := ht.tmps t 0 j (Nat.zero_le _) (by omega) fun k ok _ _ hok hdk => hw ⟨k, ok, hok, hdk⟩
    rw [e1]
    exact h0.mono (Le.cut (ht.memTo hc 0 j (Nat.zero_le _) (by omega)).size)

end
end Go.Am
