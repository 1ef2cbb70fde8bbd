/-
  The abstract machine: rules for proofs with unknowns ('for all great fuels'). No condition. Nothing of one program stands here.
-/
import Derived.Test.YtmfnchgkffhpfaaDoorAm21
namespace Go.Am
variable {P : Program} {G : List Nat} {O : Oracle}

/-- for all great fuels: some (a, b), always the same, with Q -/
def Ev {α β : Type} (F : Nat → Nat → Option (α × β)) (Q : α → β → Prop) : Prop := ∃ a b, (∃ K, ∀ N D, K ≤ N → K ≤ D → F N D = some (a, b)) ∧ Q a b

def ACalls (P : Program) (O : Oracle) (G : List Nat) (f : FuncId) (as : List Value) (m : Mem) (Q : Value → Mem → Prop) : Prop :=
  Ev (fun N D => acall P O G N D f as m) Q
def AWp (P : Program) (O : Oracle) (G : List Nat) (c : Code) (s : St) (Q : AExit → St → Prop) : Prop :=
  Ev (fun N D => aexec P (acall P O G N D) N c s) Q
def AVal (P : Program) (O : Oracle) (G : List Nat) (o : Oper) (s : St) (Q : Value → Mem → Prop) : Prop :=
  Ev (fun N D => aval P (acall P O G N D) (ev s.t) o s.m) Q

theorem Ev.mono {α β : Type} {F : Nat → Nat → Option (α × β)} {Q R : α → β → Prop} (h : Ev F Q) (hq : ∀ a b, Q a b → R a b) : Ev F R := by
  obtain ⟨a, b, h, q⟩ := h
  exact ⟨a, b, h, hq _ _ q⟩

theorem Ev.now {α β : Type} {F : Nat → Nat → Option (α × β)} {Q : α → β → Prop} {a : α} {b : β} (h : ∀ N D, F N D = some (a, b)) (q : Q a b) : Ev F Q := ⟨a, b, ⟨0, fun N D _ _ => h N D⟩, q⟩

theorem AWp.seq {a b : Code} {s : St} {Q : AExit → St → Prop} (ha : AWp P O G a s fun e s' => match e with | .normal => AWp P O G b s' Q | e => Q e s') : AWp P O G (.seq a b) s Q := by
  obtain ⟨e, s', ⟨K, h⟩, q⟩ := ha
  cases e with
  | normal =>
    obtain ⟨e2, s2, ⟨K2, h2⟩, q2⟩ := q
    refine ⟨e2, s2, ⟨max K K2, fun N D hN hD => ?_⟩, q2⟩
    have := h N D (by omega) (by omega)
    simp only [aexec, this]
    exact h2 N D (by omega) (by omega)
  | ret => exact ⟨_, s', ⟨K, fun N D hN hD => by simp only [aexec, h N D hN hD]⟩, q⟩
  | exit i => exact ⟨_, s', ⟨K, fun N D hN hD => by simp only [aexec, h N D hN hD]⟩, q⟩

theorem AWp.skip {s : St} {Q : AExit → St → Prop} (h : Q .normal s) : AWp P O G .skip s Q := Ev.now (fun _ _ => rfl) h
theorem AWp.label {n} {s : St} {Q : AExit → St → Prop} (h : Q .normal s) : AWp P O G (.label n) s Q := Ev.now (fun _ _ => rfl) h
theorem AWp.ret {s : St} {Q : AExit → St → Prop} (h : Q .ret s) : AWp P O G .ret s Q := Ev.now (fun _ _ => rfl) h
theorem AWp.exit {id : Nat} {s : St} {Q : AExit → St → Prop} (h : Q (.exit id) s) : AWp P O G (.exit id) s Q := Ev.now (fun _ _ => rfl) h

theorem AWp.cond {c : Operand} {a b : Code} {s : St} {Q : AExit → St → Prop} (t : Bool) (hc : ev s.t c = .bool t) (ht : t = true → AWp P O G a s Q) (hf : t = false → AWp P O G b s Q) :
    AWp P O G (.cond c a b) s Q := by
  cases t
  · obtain ⟨e, s', ⟨K, h⟩, q⟩ := hf rfl
    exact ⟨e, s', ⟨K, fun N D hN hD => by simp only [aexec, hc]; exact h N D hN hD⟩, q⟩
  · obtain ⟨e, s', ⟨K, h⟩, q⟩ := ht rfl
    exact ⟨e, s', ⟨K, fun N D hN hD => by simp only [aexec, hc]; exact h N D hN hD⟩, q⟩

theorem AWp.block {id : Nat} {b : Code} {s : St} {Q : AExit → St → Prop} (h : AWp P O G b s fun e s' => match e with | .exit i => if i = id then Q .normal s' else Q (.exit i) s' | e => Q e s') : AWp P O G (.block id b) s Q := by
  obtain ⟨e, s', ⟨K, h⟩, q⟩ := h
  cases e with
  | normal => exact ⟨_, s', ⟨K, fun N D hN hD => by simp only [aexec, h N D hN hD]⟩, q⟩
  | ret => exact ⟨_, s', ⟨K, fun N D hN hD => by simp only [aexec, h N D hN hD]⟩, q⟩
  | exit i =>
    simp only at q
    split at q
    · rename_i hi
      exact ⟨_, s', ⟨K, fun N D hN hD => by simp only [aexec, h N D hN hD, if_pos hi]⟩, q⟩
    · rename_i hi
      exact ⟨_, s', ⟨K, fun N D hN hD => by simp only [aexec, h N D hN hD, if_neg hi]⟩, q⟩

theorem AWp.loop {b : Code} {s : St} {Q : AExit → St → Prop} (I : Nat → St → Prop) (n : Nat) (h0 : I n s)
    (hstep : ∀ n s, I n s → AWp P O G b s fun e s' => match e with | .normal => ∃ n', n' < n ∧ I n' s' | e => Q e s') : AWp P O G (.loop b) s Q := by
  have key : ∀ n s, I n s → ∃ e s', (∃ K, ∀ N D k, K ≤ N → K ≤ D → K ≤ k → iterate (aexec P (acall P O G N D) N b) k s = some (e, s')) ∧ Q e s' := by
    intro n
    induction n using Nat.strongRecOn with
    | _ n ih =>
      intro s hI
      obtain ⟨e, s', ⟨K, h⟩, q⟩ := hstep n s hI
      cases e with
      | normal =>
        obtain ⟨n', hn, hI'⟩ := q
        obtain ⟨e2, s2, ⟨K2, h2⟩, q2⟩ := ih n' hn s' hI'
        refine ⟨e2, s2, ⟨max K K2 + 1, fun N D k hN hD hk => ?_⟩, q2⟩
        obtain ⟨k, rfl⟩ : ∃ j, k = j + 1 := ⟨k - 1, by omega⟩
        simp only [iterate, h N D (by omega) (by omega)]
        exact h2 N D k (by omega) (by omega) (by omega)
      | ret =>
        refine ⟨_, s', ⟨K + 1, fun N D k hN hD hk => ?_⟩, q⟩
        obtain ⟨k, rfl⟩ : ∃ j, k = j + 1 := ⟨k - 1, by omega⟩
        simp only [iterate, h N D (by omega) (by omega)]
      | exit i =>
        refine ⟨_, s', ⟨K + 1, fun N D k hN hD hk => ?_⟩, q⟩
        obtain ⟨k, rfl⟩ : ∃ j, k = j + 1 := ⟨k - 1, by omega⟩
        simp only [iterate, h N D (by omega) (by omega)]
  obtain ⟨e, s', ⟨K, h⟩, q⟩ := key n s h0
  exact ⟨e, s', ⟨K, fun N D hN hD => by simp only [aexec]; exact h N D N hN hD hN⟩, q⟩

/-! ## Regions -/
def AOps (P : Program) (O : Oracle) (G : List Nat) (ops : Array Oper) (l : List Oper) (s : St) (Q : St → Prop) : Prop :=
  ∃ s', (∃ K, ∀ N D, K ≤ N → K ≤ D → asteps P (acall P O G N D) ops l s = some s') ∧ Q s'
def AOpsD (P : Program) (O : Oracle) (G : List Nat) (ops : Array Oper) (i : Nat) (l : List Oper) (s : St) (Q : St → Prop) : Prop :=
  ∃ s', (∃ K, ∀ N D, K ≤ N → K ≤ D → dsteps P (acall P O G N D) ops i l s = some s') ∧ Q s'

theorem AWp.region {id : Nat} {ops : Array Oper} {s : St} {Q : AExit → St → Prop} (h : AOps P O G ops ops.toList s (Q .normal)) : AWp P O G (.region id ops false) s Q := by
  obtain ⟨s', ⟨K, h⟩, q⟩ := h
  exact ⟨_, s', ⟨K, fun N D hN hD => by simp only [aexec, h N D hN hD, Option.map_some]⟩, q⟩
theorem AWp.regionD {id : Nat} {ops : Array Oper} {s : St} {Q : AExit → St → Prop} (h : AOpsD P O G ops 0 ops.toList s (Q .normal)) : AWp P O G (.region id ops true) s Q := by
  obtain ⟨s', ⟨K, h⟩, q⟩ := h
  exact ⟨_, s', ⟨K, fun N D hN hD => by simp only [aexec, h N D hN hD, Option.map_some]⟩, q⟩

theorem AOps.nil {ops : Array Oper} {s : St} {Q : St → Prop} (h : Q s) : AOps P O G ops [] s Q := ⟨_, ⟨0, fun _ _ _ _ => rfl⟩, h⟩
theorem AOpsD.nil {ops : Array Oper} {i : Nat} {s : St} {Q : St → Prop} (h : Q s) : AOpsD P O G ops i [] s Q := ⟨_, ⟨0, fun _ _ _ _ => rfl⟩, h⟩

theorem AOps.cons {ops : Array Oper} {o : Oper} {l : List Oper} {s : St} {Q : St → Prop} (hw : Region.wanted o (ayielded ops s.t) = true)
    (h : AVal P O G o s fun v m' => AOps P O G ops l { t := tput s.t o.dst v, m := m' } Q) : AOps P O G ops (o :: l) s Q := by
  obtain ⟨v, m', ⟨K, h⟩, s', ⟨K2, h2⟩, q⟩ := h
  refine ⟨s', ⟨max K K2, fun N D hN hD => ?_⟩, q⟩
  simp only [asteps, astep, hw, if_true, aact, h N D (by omega) (by omega)]
  exact h2 N D (by omega) (by omega)

theorem AOps.skip {ops : Array Oper} {o : Oper} {l : List Oper} {s : St} {Q : St → Prop} (hw : Region.wanted o (ayielded ops s.t) = false)
    (h : AOps P O G ops l { t := tput s.t o.dst undef, m := s.m } Q) : AOps P O G ops (o :: l) s Q := by
  obtain ⟨s', ⟨K2, h2⟩, q⟩ := h
  refine ⟨s', ⟨K2, fun N D hN hD => ?_⟩, q⟩
  simp only [asteps, astep, hw]
  exact h2 N D (by omega) (by omega)

/-- the mark, set anew -/
def Mem.at (m : Mem) (k : Nat) : Mem := { m with low := k }
@[simp] theorem Mem.at_get (m : Mem) (k b : Nat) : (m.at k).get b = m.get b := rfl
@[simp] theorem Mem.at_size (m : Mem) (k : Nat) : (m.at k).size = m.size := rfl
@[simp] theorem Mem.at_low (m : Mem) (k : Nat) : (m.at k).low = k := rfl
@[simp] theorem Mem.at_at (m : Mem) (k j : Nat) : (m.at k).at j = m.at j := rfl

theorem AOpsD.cons {ops : Array Oper} {i : Nat} {o : Oper} {l : List Oper} {s : St} {Q : St → Prop} (hw : Region.wanted o (ayielded ops s.t) = true)
    (h : AVal P O G o { t := s.t, m := s.m.at s.m.size } fun v m' => (barrier ops i = true ∨ s.m.size ≤ m'.low) ∧ AOpsD P O G ops (i + 1) l { t := tput s.t o.dst v, m := m'.at (min s.m.low m'.low) } Q) :
    AOpsD P O G ops i (o :: l) s Q := by
  obtain ⟨v, m', ⟨K, h⟩, hb, s', ⟨K2, h2⟩, q⟩ := h
  refine ⟨s', ⟨max K K2, fun N D hN hD => ?_⟩, q⟩
  have h1 := h N D (by omega) (by omega)
  simp only [Mem.at] at h1
  have hb' : (barrier ops i || decide (s.m.size ≤ m'.low)) = true := by
    rcases hb with h | h
    · rw [h]; rfl
    · rw [decide_eq_true h]; simp
  simp only [dsteps, dstep, astep, hw, if_true, aact, h1, hb']
  exact h2 N D (by omega) (by omega)

theorem AOpsD.skip {ops : Array Oper} {i : Nat} {o : Oper} {l : List Oper} {s : St} {Q : St → Prop} (hw : Region.wanted o (ayielded ops s.t) = false)
    (h : AOpsD P O G ops (i + 1) l { t := tput s.t o.dst undef, m := s.m.at (min s.m.low s.m.size) } Q) : AOpsD P O G ops i (o :: l) s Q := by
  obtain ⟨s', ⟨K2, h2⟩, q⟩ := h
  refine ⟨s', ⟨K2, fun N D hN hD => ?_⟩, q⟩
  have hb' : (barrier ops i || decide (s.m.size ≤ s.m.size)) = true := by simp
  simp only [dsteps, dstep, astep, hw]
  simp only [Bool.false_eq_true, if_false, hb', if_true]
  exact h2 N D (by omega) (by omega)

/-! ## Operations -/
/-- an operation that is no call of a Go function -/
theorem AVal.op {o : Oper} {s : St} {Q : Value → Mem → Prop} {v : Value} {m' : Mem} (hc : ∀ call, aval P call (ev s.t) o s.m = some (v, m')) (q : Q v m') : AVal P O G o s Q := Ev.now (fun _ _ => hc _) q

theorem AVal.call {o : Oper} {s : St} {Q : Value → Mem → Prop} {f : FuncId} {as : List Value} (hc : ∀ call : CallF, aval P call (ev s.t) o s.m = call f as s.m) (h : ACalls P O G f as s.m Q) : AVal P O G o s Q := by
  obtain ⟨v, m', ⟨K, h⟩, q⟩ := h
  exact ⟨v, m', ⟨K, fun N D hN hD => (hc _).trans (h N D hN hD)⟩, q⟩

/-! ## Functions -/
theorem ACalls.enter {f : FuncId} {fn : Func} {c : Code} {as : List Value} {m : Mem} {Q : Value → Mem → Prop} (ho : O f = none) (hf : P.funcs[f]? = some fn) (hb : fn.body = some c) (hok : fnOk G fn c = true) (hn : as.length ≤ fn.ntmps)
    (h : AWp P O G c { t := tmpsOf 0 as .leaf, m := m } fun e s => match e with | .exit _ => False | _ => ∃ v, resultsOf P fn s = some v ∧ Q v s.m) : ACalls P O G f as m Q := by
  obtain ⟨e, s, ⟨K, h⟩, q⟩ := h
  have : ∃ v, resultsOf P fn s = some v ∧ Q v s.m ∧ (e = .normal ∨ e = .ret) := by
    cases e with
    | normal => obtain ⟨v, h1, h2⟩ := q; exact ⟨v, h1, h2, .inl rfl⟩
    | ret => obtain ⟨v, h1, h2⟩ := q; exact ⟨v, h1, h2, .inr rfl⟩
    | exit i => exact q.elim
  obtain ⟨v, h1, h2, h3⟩ := this
  refine ⟨v, s.m, ⟨K + 1, fun N D hN hD => ?_⟩, h2⟩
  obtain ⟨D, rfl⟩ : ∃ j, D = j + 1 := ⟨D - 1, by omega⟩
  have hx := h N D (by omega) (by omega)
  rcases h3 with rfl | rfl <;> simp only [acall, ho, hf, hb, hok, decide_eq_true hn, Bool.and_self, if_true, hx, h1, Option.map_some]

theorem ACalls.oracle {f : FuncId} {F : List Value → Mem → Option (Value × Mem)} {as : List Value} {m m' : Mem} {v : Value} {Q : Value → Mem → Prop} (ho : O f = some F) (h : F as m = some (v, m')) (q : Q v m') : ACalls P O G f as m Q := by
  refine ⟨v, m', ⟨1, fun N D hN hD => ?_⟩, q⟩
  obtain ⟨D, rfl⟩ : ∃ j, D = j + 1 := ⟨D - 1, by omega⟩
  simp only [acall, ho, h]

/-! ## What a function that writes no old block leaves -/
structure Fr (m m' : Mem) : Prop where
  size : m.size ≤ m'.size
  get : ∀ b, b < m.size → m'.get b = m.get b
  low : min m.low m.size ≤ m'.low

theorem Fr.refl (m : Mem) : Fr m m := ⟨Nat.le_refl _, fun _ _ => rfl, Nat.min_le_left _ _⟩
theorem Fr.trans {a b c : Mem} (h : Fr a b) (k : Fr b c) : Fr a c :=
  ⟨Nat.le_trans h.size k.size, fun i hi => (k.get i (Nat.lt_of_lt_of_le hi h.size)).trans (h.get i hi), by have := h.low; have := k.low; have := h.size; omega⟩
theorem Fr.alloc (m : Mem) (x : ABlk) : Fr m (m.alloc x) := ⟨by simp [Mem.alloc], fun b hb => by rw [Mem.get_alloc, if_neg (by omega)], by simp only [Mem.alloc]; exact Nat.min_le_left _ _⟩
theorem Fr.put {m m' : Mem} {b : Nat} (h : Fr m m') (hb : m.size ≤ b) (x : ABlk) : Fr m (m'.put b x) :=
  ⟨h.size, fun c hc => by rw [Mem.get_put, if_neg (by omega)]; exact h.get c hc, by have := h.low; simp only [Mem.put]; omega⟩

end Go.Am
