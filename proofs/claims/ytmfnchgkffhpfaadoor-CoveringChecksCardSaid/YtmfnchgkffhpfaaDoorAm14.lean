/-
  The abstract machine: a region that draws its order is sound, whatever the order. No condition. Nothing of one program stands here.
-/
import Derived.Test.YtmfnchgkffhpfaaDoorAm13
namespace Go.Am
variable {P : Program} {G : List Nat}

def CallStep (call : CallF) : Prop := ∀ f as m v m', call f as m = some (v, m') → MemStep m m'

theorem aval_step {call : CallF} (hc : CallStep call) {ρ : Operand → Value} {o : Oper} {m m' : Mem} {v : Value} (h : aval P call ρ o m = some (v, m')) : MemStep m m' := by
  unfold aval at h
  split at h
  · split at h
    · exact hc _ _ _ _ _ h
    · cases h
  · exact aop_step h

def cut (ι : Inj) (n : Nat) : Inj := fun b => if b < n then ι b else none

theorem cut_lt {ι : Inj} {n b : Nat} (h : b < n) : cut ι n b = ι b := if_pos h
theorem cut_some {ι : Inj} {n b : Nat} {ib : IB} (h : cut ι n b = some ib) : b < n ∧ ι b = some ib := by
  unfold cut at h
  split at h
  · exact ⟨by assumption, h⟩
  · cases h

/-- the memory without its mark -/
def setLow (m : Mem) (x : Nat) : Mem := { m with low := x }

theorem Sim.low {ι : Inj} {m : Mem} {w : World} (hs : Sim P G ι m w) (x : Nat) : Sim P G ι (setLow m x) w := ⟨hs.dom, hs.blk, hs.inj, hs.glob⟩

/-- a memory with more blocks -/
theorem Sim.extend {ι : Inj} {m m2 : Mem} {w : World} (hs : Sim P G ι m w) (hsz : m.size ≤ m2.size) (hget : ∀ b, b < m.size → m2.get b = m.get b) : Sim P G ι m2 w := by
  have hle : Le ι m.gen ι m2.gen := fun b ib hb => ⟨by rw [gen_of_get (hget b (hs.dom b ib hb).1)]; exact Nat.le_refl _, ib, hb, fun _ => rfl⟩
  refine ⟨fun b ib hb => ⟨Nat.lt_of_lt_of_le (hs.dom b ib hb).1 hsz, (hs.dom b ib hb).2⟩, fun b ib hb => ?_, fun b b' ib ib' hb hb' he => ?_, fun k hk => ?_⟩
  · rw [hget b (hs.dom b ib hb).1]; exact (hs.blk b ib hb).mono hle
  · rcases hs.inj b b' ib ib' hb hb' he with h | ⟨h1, h2⟩
    · exact .inl h
    · exact .inr ⟨by rw [ro_of_get (hget b (hs.dom b ib hb).1)]; exact h1, by rw [ro_of_get (hget b' (hs.dom b' ib' hb').1)]; exact h2⟩
  · obtain ⟨ib, h1, h2, h3, h4, h5⟩ := hs.glob k hk
    have hlt := (hs.dom k ib h1).1
    exact ⟨ib, h1, h2, h3, by rw [gen_of_get (hget k hlt)]; exact h4, by rw [ro_of_get (hget k hlt)]; exact h5⟩

theorem Sim.world {ι : Inj} {m : Mem} {w w' : World} (hs : Sim P G ι m w) (hsz : w.heap.size ≤ w'.heap.size) (hh : ∀ c, c < w.heap.size → w'.heap[c]? = w.heap[c]?) : Sim P G ι m w' :=
  ⟨fun b ib hb => ⟨(hs.dom b ib hb).1, Nat.lt_of_lt_of_le (hs.dom b ib hb).2 hsz⟩, fun b ib hb => by rw [hh _ (hs.dom b ib hb).2]; exact hs.blk b ib hb, hs.inj, hs.glob⟩

theorem Sim.congr {ι ι' : Inj} {m : Mem} {w : World} (hs : Sim P G ι m w) (h : ∀ b, ι' b = ι b) : Sim P G ι' m w := by
  have : ι' = ι := funext h
  rw [this]; exact hs

/-! ## The order, by the edges -/
theorem before_spec (ops : Array Oper) : ∀ (l : List Oper) (acc : Array Nat), (∀ (j : Nat) o, l[j]? = some o → ∀ k, ((l.foldl (fun acc o => acc.push (o.after.foldl (fun s e => if Region.binds .any e then s ||| 2 ^ e.on ||| acc.getD e.on 0 else s) 0)) acc).getD (acc.size + j) 0).testBit k = true →
    ∃ e ∈ o.after, Region.binds .any e = true ∧ (e.on = k ∨ ((l.foldl (fun acc o => acc.push (o.after.foldl (fun s e => if Region.binds .any e then s ||| 2 ^ e.on ||| acc.getD e.on 0 else s) 0)) acc).getD e.on 0).testBit k = true)) ∧
    (∀ j, j < acc.size → (l.foldl (fun acc o => acc.push (o.after.foldl (fun s e => if Region.binds .any e then s ||| 2 ^ e.on ||| acc.getD e.on 0 else s) 0)) acc).getD j 0 = acc.getD j 0)
  | [], acc => ⟨fun j o h => by simp at h, fun j _ => rfl⟩
  | o :: l, acc => by
    generalize hf : (fun (acc : Array Nat) (o : Oper) => acc.push (o.after.foldl (fun s e => if Region.binds .any e then s ||| 2 ^ e.on ||| acc.getD e.on 0 else s) 0)) = F
    have ih := before_spec ops l (F acc o)
    rw [hf] at ih
    have hsz : (F acc o).size = acc.size + 1 := by rw [← hf]; simp
    simp only [List.foldl_cons]
    have hkeep : ∀ j, j < acc.size → (List.foldl F (F acc o) l).getD j 0 = acc.getD j 0 := fun j hj => by
      rw [ih.2 j (by omega), ← hf]
      simp [Array.getElem?_push, Nat.ne_of_lt hj]
    refine ⟨fun j o' hj k hk => ?_, hkeep⟩
    cases j with
    | zero =>
      simp only [List.getElem?_cons_zero, Option.some.injEq] at hj
      subst hj
      have h1 : (List.foldl F (F acc o) l).getD (acc.size + 0) 0 = o.after.foldl (fun s e => if Region.binds .any e then s ||| 2 ^ e.on ||| acc.getD e.on 0 else s) 0 := by
        rw [ih.2 _ (by omega), ← hf]
        simp
      rw [h1] at hk
      -- some edge brings the bit
      have key : ∀ (es : List Edge) (s : Nat), (es.foldl (fun s e => if Region.binds .any e then s ||| 2 ^ e.on ||| acc.getD e.on 0 else s) s).testBit k = true →
          s.testBit k = true ∨ ∃ e ∈ es, Region.binds .any e = true ∧ (e.on = k ∨ (acc.getD e.on 0).testBit k = true) := fun es => by
        induction es with
        | nil => intro s h; exact .inl h
        | cons e es ihe =>
          intro s h
          rw [List.foldl_cons] at h
          rcases ihe _ h with h | ⟨e', h1, h2⟩
          · split at h
            · rename_i hb
              simp only [Nat.testBit_or, Bool.or_eq_true] at h
              rcases h with (h | h) | h
              · exact .inl h
              · refine .inr ⟨e, by simp, hb, .inl ?_⟩
                rw [Nat.testBit_two_pow] at h
                simpa using h
              · exact .inr ⟨e, by simp, hb, .inr h⟩
            · exact .inl h
          · exact .inr ⟨e', by simp [h1], h2⟩
      rw [← Array.foldl_toList] at hk
      rcases key _ _ hk with h | ⟨e, h1, h2, h3⟩
      · simp at h
      · refine ⟨e, by simpa using h1, h2, ?_⟩
        rcases h3 with h3 | h3
        · exact .inl h3
        · refine .inr ?_
          by_cases he : e.on < acc.size
          · rw [hkeep _ he]; exact h3
          · have : acc.getD e.on 0 = 0 := by simp [Array.getElem?_eq_none (by omega : acc.size ≤ e.on)]
            rw [this] at h3; simp at h3
    | succ j =>
      have := ih.1 j o' (by simpa using hj) k
      rw [hsz] at this
      have e1 : acc.size + 1 + j = acc.size + (j + 1) := by omega
      rw [e1] at this
      exact this hk

theorem before_bit {ops : Array Oper} {i k : Nat} {o : Oper} (ho : ops[i]? = some o) (h : ((Region.before ops).getD i 0).testBit k = true) :
    ∃ e ∈ o.after, Region.binds .any e = true ∧ (e.on = k ∨ ((Region.before ops).getD e.on 0).testBit k = true) := by
  have := (before_spec ops ops.toList #[]).1 i o (by simpa using ho) k
  simp only [Array.size_empty, Nat.zero_add] at this
  unfold Region.before at h ⊢
  rw [← Array.foldl_toList] at h ⊢
  exact this h

/-- what is listed is closed under the edges -/
def Closed (ops : Array Oper) (listed : Array Bool) : Prop :=
  ∀ (i : Nat) (o : Oper), ops[i]? = some o → listed.getD i false = true → ∀ e ∈ o.after, Region.binds .any e = true → listed.getD e.on false = true

theorem closed_before {ops : Array Oper} {listed : Array Bool} (hcl : Closed ops listed) (hback : ∀ (i : Nat) (o : Oper), ops[i]? = some o → ∀ e ∈ o.after, Region.binds .any e = true → e.on < i) : ∀ (i : Nat) (o : Oper) (k : Nat), ops[i]? = some o →
    (∀ e ∈ o.after, Region.binds .any e = true → listed.getD e.on false = true) → ((Region.before ops).getD i 0).testBit k = true → listed.getD k false = true := by
  intro i
  induction i using Nat.strongRecOn with
  | _ i ih =>
    intro o k ho hall hbit
    obtain ⟨e, he, hb, h⟩ := before_bit ho hbit
    rcases h with rfl | h
    · exact hall e he hb
    · have hlt := hback i o ho e he hb
      cases hoe : ops[e.on]? with
      | none =>
        have : ops.size ≤ e.on := by
          rcases Nat.lt_or_ge e.on ops.size with h | h
          · rw [Array.getElem?_eq_getElem h] at hoe; cases hoe
          · exact h
        have hi : i < ops.size := (Array.getElem?_eq_some_iff.1 ho).1
        omega
      | some oe => exact ih e.on hlt oe k hoe (hcl e.on oe hoe (hall e he hb)) h

/-! ## The run in the text's order -/
theorem dsteps_trace {call : CallF} {ops : Array Oper} : ∀ (l : List Oper) (k : Nat) (s s' : St), dsteps P call ops k l s = some s' →
    ∃ S : Nat → St, S k = s ∧ S (k + l.length) = s' ∧ ∀ (i : Nat) (o : Oper), l[i]? = some o → dstep P call ops (k + i) o (S (k + i)) = some (S (k + i + 1))
  | [], k, s, s', h => by
    cases h
    exact ⟨fun _ => s, rfl, rfl, fun i o h => by simp at h⟩
  | o :: l, k, s, s', h => by
    simp only [dsteps] at h
    cases h1 : dstep P call ops k o s with
    | none => rw [h1] at h; cases h
    | some s1 =>
      rw [h1] at h
      obtain ⟨S, e1, e2, e3⟩ := dsteps_trace l (k + 1) s1 s' h
      refine ⟨fun j => if j ≤ k then s else S j, by simp, ?_, fun i o' hi => ?_⟩
      · have : ¬ (k + (o :: l).length ≤ k) := by simp
        simp only [this, if_false]
        rw [← e2]; congr 1; simp; omega
      · cases i with
        | zero =>
          simp only [List.getElem?_cons_zero, Option.some.injEq] at hi
          subst hi
          have : ¬ (k + 0 + 1 ≤ k) := by omega
          simp only [Nat.add_zero, Nat.le_refl, if_true]
          rw [if_neg (by omega), e1]; exact h1
        | succ i =>
          have h2 := e3 i o' (by simpa using hi)
          have q1 : ¬ (k + (i + 1) ≤ k) := by omega
          have q2 : ¬ (k + (i + 1) + 1 ≤ k) := by omega
          simp only [q1, q2, if_false]
          have q3 : k + (i + 1) = k + 1 + i := by omega
          rw [q3]; exact h2

theorem dstep_cases {call : CallF} {ops : Array Oper} {i : Nat} {o : Oper} {s s2 : St} (h : dstep P call ops i o s = some s2) :
    (Region.wanted o (ayielded ops s.t) = false ∧ s2.t = tput s.t o.dst undef ∧ ∃ x, s2.m = setLow s.m x ∧ x ≤ s.m.low ∧ x ≤ s.m.size) ∨
    (Region.wanted o (ayielded ops s.t) = true ∧ ∃ v m', aval P call (ev s.t) o (setLow s.m s.m.size) = some (v, m') ∧ s2.t = tput s.t o.dst v ∧ s2.m = setLow m' (min s.m.low m'.low) ∧
      (barrier ops i = true ∨ s.m.size ≤ m'.low)) := by
  unfold dstep astep at h
  split at h
  · rename_i s' h1
    split at h
    · rename_i hc
      cases h
      split at h1
      · rename_i hw
        refine .inr ⟨hw, ?_⟩
        unfold aact at h1
        split at h1
        · rename_i v m' hv
          cases h1
          refine ⟨v, m', hv, rfl, rfl, ?_⟩
          simpa using hc
        · cases h1
      · rename_i hw
        cases h1
        exact .inl ⟨by simpa using hw, rfl, _, rfl, Nat.min_le_left _ _, Nat.min_le_right _ _⟩
    · cases h
  · cases h

theorem drawOk_spec {ops : Array Oper} (h : drawOk ops = true) : (∀ (i : Nat) (o : Oper), ops[i]? = some o → ∀ e ∈ o.after, Region.binds .any e = true → e.on < i) ∧
    (∀ (i : Nat) (oi : Oper) (d : Nat), ops[i]? = some oi → oi.dst = some d → ∀ (j : Nat) (oj : Oper), ops[j]? = some oj → j ≠ i →
      oj.dst ≠ some d ∧ (d ∈ oj.looksAt ops → (i < j → ((Region.before ops).getD j 0).testBit i = true) ∧ (j < i → ((Region.before ops).getD i 0).testBit j = true))) := by
  unfold drawOk at h
  simp only [List.all_eq_true, List.mem_range] at h
  have lt : ∀ {i : Nat} {o : Oper}, ops[i]? = some o → i < ops.size := fun hi => (Array.getElem?_eq_some_iff.1 hi).1
  refine ⟨fun i o hi e he hb => ?_, fun i oi d hi hd j oj hj hne => ?_⟩
  · have := h i (lt hi)
    rw [hi] at this
    simp only [Bool.and_eq_true] at this
    have h2 := Array.all_eq_true_iff_forall_mem.1 this.1.2 e he
    simpa [hb] using h2
  · have := h i (lt hi)
    rw [hi] at this
    simp only [Bool.and_eq_true, hd, List.all_eq_true, List.mem_range] at this
    have h2 := this.2 j (lt hj)
    rw [hj] at h2
    simp only [Bool.or_eq_true, beq_iff_eq, hne, false_or, Bool.and_eq_true, bne_iff_ne, ne_eq] at h2
    refine ⟨h2.1, fun hl => ?_⟩
    rcases h2.2 with h3 | h3
    · simp [hl] at h3
    · refine ⟨fun hlt => ?_, fun hlt => ?_⟩
      · rw [if_pos hlt] at h3; exact h3
      · rw [if_neg (by omega)] at h3; exact h3

/-- a barrier, for the proof -/
def isBar (ops : Array Oper) (i : Nat) : Bool := match ops[i]? with | some o => !quietKind o.op && barrier ops i | none => false
/-- it touches the memory -/
def touches (ops : Array Oper) (i : Nat) : Bool := match ops[i]? with | some o => !quietKind o.op | none => false

theorem isBar_spec {ops : Array Oper} {i : Nat} (h : isBar ops i = true) : touches ops i = true ∧ ∀ j, j ≠ i → touches ops j = true →
    (j < i → ((Region.before ops).getD i 0).testBit j = true) ∧ (i < j → ((Region.before ops).getD j 0).testBit i = true) := by
  unfold isBar at h
  cases ho : ops[i]? with
  | none => rw [ho] at h; cases h
  | some o =>
    rw [ho] at h
    simp only [Bool.and_eq_true] at h
    refine ⟨by unfold touches; rw [ho]; exact h.1, fun j hne ht => ?_⟩
    unfold touches at ht
    cases hoj : ops[j]? with
    | none => rw [hoj] at ht; cases ht
    | some oj =>
      rw [hoj] at ht
      have hlt := (Array.getElem?_eq_some_iff.1 hoj).1
      have h2 := h.2
      unfold barrier at h2
      simp only [List.all_eq_true, List.mem_range] at h2
      have h3 := h2 j hlt
      simp only [hoj, Option.map_some, Option.getD_some, Bool.or_eq_true, beq_iff_eq, hne, false_or] at h3
      simp only [Bool.not_eq_true'] at ht
      rw [ht] at h3
      simp only [Bool.false_eq_true, false_or] at h3
      refine ⟨fun hl => ?_, fun hl => ?_⟩
      · rw [if_pos hl] at h3; exact h3
      · rw [if_neg (by omega)] at h3; exact h3

end Go.Am
