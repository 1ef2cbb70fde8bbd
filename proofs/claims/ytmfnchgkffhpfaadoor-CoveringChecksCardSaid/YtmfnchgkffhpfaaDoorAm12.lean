/-
  The abstract machine: code without regions that draw is sound. No condition. Nothing of one program stands here.
-/
import Derived.Test.YtmfnchgkffhpfaaDoorAm11
import Derived.LoopN
import Derived.Tactics
namespace Go.Am
variable {P : Program} {G : List Nat}

/-- a function that can be entered -/
def Enters (P : Program) (f : FuncId) : Prop := ∃ fn, P.funcs[f]? = some fn ∧ fn.body.isSome = true ∧ (fn.name == "runtime.NumGoroutine") = false

/-- what a call of f gives by F is what the model's call comes to -/
def FnSound (P : Program) (G : List Nat) (f : FuncId) (F : List Value → Mem → Option (Value × Mem)) : Prop :=
  ∀ as m v m', F as m = some (v, m') → ∀ ι w (as' : Array Value), Sim P G ι m w → LRel ι m.gen as as'.toList →
    Calls P f as' w fun e w' => ∃ v', e = .returned v' ∧ Post P G ι m w v m' v' w'

def CallSound (P : Program) (G : List Nat) (call : CallF) : Prop := ∀ f, FnSound P G f (call f) ∧ ∀ as m r, call f as m = some r → Enters P f

structure TRel (ι : Inj) (g : Nat → Nat) (n : Nat) (t : Tr Value) (a : Act) : Prop where
  size : a.tmps.size = n
  defers : a.defers = []
  val : ∀ i, VRel ι g (tget t i) (a.tmps.getD i undef)

theorem TRel.mono {ι ι' : Inj} {g g' : Nat → Nat} (hl : Le ι g ι' g') {n : Nat} {t : Tr Value} {a : Act} (h : TRel ι g n t a) : TRel ι' g' n t a :=
  ⟨h.size, h.defers, fun i => (h.val i).mono hl⟩

theorem TRel.put {ι : Inj} {g : Nat → Nat} {n : Nat} {t : Tr Value} {a : Act} (h : TRel ι g n t a) {dst : Option Tmp} (hd : ∀ d, dst = some d → d < n) {v v' : Value} (hv : VRel ι g v v') :
    TRel ι g n (tput t dst v) (a.put dst v') := by
  cases dst with
  | none => exact h
  | some d =>
    have hdn := hd d rfl
    refine ⟨by simp [Act.put, h.size], h.defers, fun i => ?_⟩
    simp only [tput, Act.put]
    rw [tget_tset]
    by_cases e : d = i
    · subst e
      rw [if_pos rfl]
      have : (a.tmps.setIfInBounds d v').getD d undef = v' := by
        simp [h.size, hdn]
      rw [this]; exact hv
    · rw [if_neg e]
      have : (a.tmps.setIfInBounds d v').getD i undef = a.tmps.getD i undef := by
        simp [Array.getElem?_setIfInBounds_ne e]
      rw [this]; exact h.val i

theorem ev_rel {ι : Inj} {m : Mem} {w : World} {n : Nat} {t : Tr Value} {a : Act} (hs : Sim P G ι m w) (ht : TRel ι m.gen n t a) {x : Operand} (hx : operandOk G x = true) :
    VRel ι m.gen (ev t x) (a.eval x) := by
  cases x with
  | tmp i => exact ht.val i
  | const v => exact VRel.plain hx
  | global k =>
    have hk : k ∈ G := by simpa [operandOk] using hx
    obtain ⟨ib, h1, h2, h3, h4, h5⟩ := hs.glob k hk
    exact .ptr _ _ ⟨ib, h1, Nat.zero_le _, fun _ => by simp [h2, h3]⟩
  | func f => exact .fn f [] [] [] [] rfl (fun i hi => absurd hi (by simp)) rfl (fun i hi => absurd hi (by simp))

theorem VRel.bool_iff {ι : Inj} {g : Nat → Nat} {v v' : Value} (h : VRel ι g v v') (b : Bool) : v = .bool b ↔ v' = .bool b := by
  constructor
  · intro e; subst e; cases h; rfl
  · intro e; subst e; cases h; rfl

theorem yielded_eq {ι : Inj} {g : Nat → Nat} {n : Nat} {t : Tr Value} {a : Act} (ht : TRel ι g n t a) (ops : Array Oper) (j : Nat) : yielded ops a.tmps j = ayielded ops t j := by
  unfold yielded ayielded
  cases hd : (ops[j]?).bind (·.dst) with
  | none => rfl
  | some d =>
    simp only [Option.bind_some]
    have hv := ht.val d
    cases ha : a.tmps[d]? with
    | none =>
      have e : a.tmps.getD d undef = undef := by simp [ha]
      rw [e] at hv
      have : ∀ b, tget t d ≠ .bool b := fun b hb => by
        have := (hv.bool_iff b).1 hb
        cases this
      split
      · rename_i h; cases h
      · split
        · rename_i b hb; exact absurd hb (this b)
        · rfl
    | some u =>
      have e : a.tmps.getD d undef = u := by simp [ha]
      rw [e] at hv
      split
      · rename_i b hb
        cases hb
        have := (hv.bool_iff b).2 rfl
        rw [this]
      · rename_i hne
        split
        · rename_i b hb
          have := (hv.bool_iff b).1 hb
          exact absurd (by rw [this]) (hne b)
        · rfl

theorem wanted_eq {ι : Inj} {g : Nat → Nat} {n : Nat} {t : Tr Value} {a : Act} (ht : TRel ι g n t a) (ops : Array Oper) (o : Oper) :
    Region.wanted o (yielded ops a.tmps) = Region.wanted o (ayielded ops t) := by
  unfold Region.wanted
  cases o.guard with
  | none => rfl
  | some p => obtain ⟨j, b⟩ := p; simp only [yielded_eq ht]

/-- one operation, by its value -/
theorem aval_sound {call : CallF} {ι : Inj} {m m' : Mem} {w : World} {ρ : Operand → Value} {o : Oper} {v : Value} {a : Act} (hc : CallSound P G call) (hs : Sim P G ι m w)
    (hρ : ∀ x ∈ o.op.operands, VRel ι m.gen (ρ x) (a.eval x)) (h : aval P call ρ o m = some (v, m')) {K : Act → World → Prop} {Q : Exit → Act → World → Prop}
    (hk : ∀ v' w', Post P G ι m w v m' v' w' → K (a.put o.dst v') w') : o.wp P a w K Q := by
  unfold aval at h
  split at h
  · rename_i f args aT hop
    rw [hop] at hρ
    have hf := hρ f (by simp [Op.operands, Call.operands])
    have hargs : ∀ x ∈ args, VRel ι m.gen (ρ x) (a.eval x) := fun x hx => hρ x (by simp [Op.operands, Call.operands, hx])
    split at h
    · rename_i g fs cs hfv
      rw [hfv] at hf
      obtain ⟨fs', cs', e1, hfs, hcs⟩ : ∃ fs' cs', a.eval f = .func (.func g) fs' cs' ∧ LRel ι m.gen fs.toList fs'.toList ∧ LRel ι m.gen cs.toList cs'.toList := by
        generalize a.eval f = u at hf
        cases hf with
        | fn _ l1 l2 l3 l4 h1 h2 h3 h4 => exact ⟨⟨l2⟩, ⟨l4⟩, rfl, ⟨h1, h2⟩, ⟨h3, h4⟩⟩
      obtain ⟨hsound, henters⟩ := hc g
      obtain ⟨fn, hfn, hbody, hname⟩ := henters _ _ _ h
      have hcall := hsound _ _ _ _ h ι w (fs' ++ args.map a.eval ++ cs') hs (by
        rw [Array.toList_append, Array.toList_append, Array.toList_map]
        exact (hfs.append (LRel.mapArr fun x hx => hargs x (by simpa using hx))).append hcs)
      have hrun : (execOp a.eval o).run P w = .ok (.enter g (fs' ++ args.map a.eval ++ cs')) w := by
        simp only [execOp, hop, resolve, e1, Deferred.ofValue, Sem.run_bind, Sem.run_pure, Result.andThen_ok, invoke, callFunc, run_program, hfn, hname, Bool.false_eq_true, if_false]
        have : fn.body.isNone = false := by cases hb : fn.body <;> simp_all
        simp [this]
      unfold Oper.wp
      rw [hrun]
      exact hcall.mono fun e w' he => by
        obtain ⟨v', rfl, hp⟩ := he
        exact hk v' w' hp
    · cases h
  · obtain ⟨nx, v', w', hr, hn, hp⟩ := aop_sound hs hρ h
    unfold Oper.wp
    rw [hr]
    rcases hn with rfl | ⟨rfl, rfl⟩
    · exact hk v' w' hp
    · exact hk undef w' hp

/-- where the machine stands -/
def Stands (P : Program) (G : List Nat) (n : Nat) (s : St) (ι : Inj) (a : Act) (w : World) : Prop := Sim P G ι s.m w ∧ TRel ι s.m.gen n s.t a

def Reach (P : Program) (G : List Nat) (n : Nat) (ι : Inj) (s : St) (w : World) (s' : St) (a' : Act) (w' : World) : Prop :=
  ∃ ι', Ext ι s.m w ι' s'.m w' ∧ Stands P G n s' ι' a' w'

theorem Reach.trans {n : Nat} {ι : Inj} {s s' s'' : St} {w w' w'' : World} {a a' a'' : Act} (hs : Stands P G n s ι a w) (h : Reach P G n ι s w s' a' w')
    (k : ∀ ι', Ext ι s.m w ι' s'.m w' → Stands P G n s' ι' a' w' → Reach P G n ι' s' w' s'' a'' w'') : Reach P G n ι s w s'' a'' w'' := by
  obtain ⟨ι', h1, h2⟩ := h
  obtain ⟨ι'', k1, k2⟩ := k ι' h1 h2
  exact ⟨ι'', Ext.trans hs.1 h1 k1, k2⟩

theorem operOk_spec {n : Nat} {o : Oper} (h : operOk G n o = true) : (∀ x ∈ o.op.operands, operandOk G x = true) ∧ (∀ d, o.dst = some d → d < n) := by
  unfold operOk at h
  simp only [Bool.and_eq_true] at h
  obtain ⟨⟨h1, h2⟩, _⟩ := h
  refine ⟨fun x hx => ?_, fun d hd => ?_⟩
  · exact Array.all_eq_true_iff_forall_mem.1 h1 x hx
  · rw [hd] at h2; simpa using h2

theorem asteps_sound {call : CallF} (hc : CallSound P G call) {n : Nat} {ops : Array Oper} {Q : Exit → Act → World → Prop} : ∀ (l : List Oper) (s s' : St) (ι : Inj) (a : Act) (w : World),
    (∀ o ∈ l, operOk G n o = true) → asteps P call ops l s = some s' → Stands P G n s ι a w → (∀ a' w', Reach P G n ι s w s' a' w' → Q .normal a' w') → wpList P ops Q l a w
  | [], s, s', ι, a, w, _, h, hst, hq => by
    cases h
    exact hq a w ⟨ι, Ext.refl _ _ _, hst⟩
  | o :: l, s, s', ι, a, w, hok, h, hst, hq => by
    simp only [asteps] at h
    cases h1 : astep P call ops o s with
    | none => rw [h1] at h; cases h
    | some s1 =>
      rw [h1] at h
      obtain ⟨hop, hdst⟩ := operOk_spec (hok o (by simp))
      have rest : ∀ a1 w1, Reach P G n ι s w s1 a1 w1 → wpList P ops Q l a1 w1 := fun a1 w1 hr => by
        obtain ⟨ι1, he, hst1⟩ := hr
        refine asteps_sound hc l s1 s' ι1 a1 w1 (fun o ho => hok o (by simp [ho])) h hst1 fun a' w' hr' => hq a' w' ?_
        obtain ⟨ι2, k1, k2⟩ := hr'
        exact ⟨ι2, Ext.trans hst.1 he k1, k2⟩
      unfold wpList
      rw [wanted_eq hst.2]
      unfold astep at h1
      split at h1
      · rename_i hw
        rw [if_pos hw]
        refine .inl ?_
        unfold aact at h1
        cases hv : aval P call (ev s.t) o s.m with
        | none => rw [hv] at h1; cases h1
        | some r =>
          obtain ⟨v, m1⟩ := r
          rw [hv] at h1
          cases h1
          refine aval_sound hc hst.1 (fun x hx => ev_rel hst.1 hst.2 (hop x hx)) hv fun v' w' hp => rest _ _ ?_
          obtain ⟨ι1, he, hsim, hvr⟩ := hp
          exact ⟨ι1, he, hsim, (hst.2.mono he.le).put hdst hvr⟩
      · rename_i hw
        rw [if_neg hw]
        cases h1
        exact rest _ _ ⟨ι, Ext.refl _ _ _, hst.1, hst.2.put hdst VRel.undef⟩

def AExit.toExit : AExit → Exit
  | .normal => .normal
  | .ret => .ret
  | .exit id => .exit id

/-- regions that draw: proved in the next text -/
def DrawSound (P : Program) (G : List Nat) (call : CallF) : Prop := ∀ (n id : Nat) (ops : Array Oper) (s s' : St) (ι : Inj) (a : Act) (w : World) (Q : Exit → Act → World → Prop),
  (∀ o ∈ ops.toList, operOk G n o = true) → drawOk ops = true → dsteps P call ops 0 ops.toList s = some s' → Stands P G n s ι a w →
  (∀ a' w', Reach P G n ι s w s' a' w' → Q .normal a' w') → (Code.region id ops true).wp P Q a w

theorem aexec_sound {call : CallF} (hc : CallSound P G call) (hd : DrawSound P G call) {n N : Nat} : ∀ (c : Code) (s s' : St) (x : AExit) (ι : Inj) (a : Act) (w : World) (Q : Exit → Act → World → Prop),
    codeOk G n c = true → aexec P call N c s = some (x, s') → Stands P G n s ι a w → (∀ a' w', Reach P G n ι s w s' a' w' → Q x.toExit a' w') → c.wp P Q a w := by
  intro c
  induction c with
  | skip => intro s s' x ι a w Q _ h hst hq; cases h; exact wp_skip (hq a w ⟨ι, Ext.refl _ _ _, hst⟩)
  | label l => intro s s' x ι a w Q _ h hst hq; cases h; exact wp_label (hq a w ⟨ι, Ext.refl _ _ _, hst⟩)
  | ret => intro s s' x ι a w Q _ h hst hq; cases h; exact wp_ret (hq a w ⟨ι, Ext.refl _ _ _, hst⟩)
  | exit id => intro s s' x ι a w Q _ h hst hq; cases h; exact wp_exit (hq a w ⟨ι, Ext.refl _ _ _, hst⟩)
  | goto l => intro s s' x ι a w Q hok; cases hok
  | scope b _ => intro s s' x ι a w Q hok; cases hok
  | refuse y => intro s s' x ι a w Q hok; cases hok
  | rangeFunc f ps y z _ _ => intro s s' x ι a w Q hok; cases hok
  | seq c1 c2 ih1 ih2 =>
    intro s s' x ι a w Q hok h hst hq
    simp only [codeOk, Bool.and_eq_true] at hok
    simp only [aexec] at h
    refine wp_seq ?_
    cases h1 : aexec P call N c1 s with
    | none => rw [h1] at h; cases h
    | some r =>
      obtain ⟨x1, s1⟩ := r
      rw [h1] at h
      refine ih1 s s1 x1 ι a w _ hok.1 h1 hst fun a1 w1 hr => ?_
      cases x1 with
      | normal =>
        obtain ⟨ι1, he, hst1⟩ := hr
        refine ih2 s1 s' x ι1 a1 w1 Q hok.2 h hst1 fun a' w' hr' => hq a' w' ?_
        obtain ⟨ι2, k1, k2⟩ := hr'
        exact ⟨ι2, Ext.trans hst.1 he k1, k2⟩
      | ret => cases h; exact hq a1 w1 hr
      | exit id => cases h; exact hq a1 w1 hr
  | cond c0 c1 c2 ih1 ih2 =>
    intro s s' x ι a w Q hok h hst hq
    simp only [codeOk, Bool.and_eq_true] at hok
    simp only [aexec] at h
    have hv := ev_rel hst.1 hst.2 hok.1.1
    cases he : ev s.t c0 <;> rw [he] at h hv <;> first | (cases h; done) | skip
    rename_i b
    have e1 : a.eval c0 = .bool b := (hv.bool_iff b).1 rfl
    cases b with
    | true => exact wp_cond_true e1 (ih1 s s' x ι a w Q hok.1.2 h hst hq)
    | false => exact wp_cond_false e1 (ih2 s s' x ι a w Q hok.2 h hst hq)
  | block id b ih =>
    intro s s' x ι a w Q hok h hst hq
    simp only [codeOk] at hok
    simp only [aexec] at h
    refine wp_block ?_
    cases h1 : aexec P call N b s with
    | none => rw [h1] at h; cases h
    | some r =>
      obtain ⟨x1, s1⟩ := r
      rw [h1] at h
      refine ih s s1 x1 ι a w _ hok h1 hst fun a1 w1 hr => ?_
      cases x1 with
      | normal => cases h; exact hq a1 w1 hr
      | ret => cases h; exact hq a1 w1 hr
      | exit i =>
        simp only at h
        show (if i = id then Q .normal a1 w1 else Q (.exit i) a1 w1)
        split at h
        · rename_i e; cases h; rw [if_pos e]; exact hq a1 w1 hr
        · rename_i e; cases h; rw [if_neg e]; exact hq a1 w1 hr
  | loop b ih =>
    intro s s' x ι a w Q hok h hst hq
    simp only [codeOk] at hok
    simp only [aexec] at h
    refine wp_loop_rounds N ?_
    have key : ∀ (k : Nat) (s s' : St) (x : AExit) (ι : Inj) (a : Act) (w : World), iterate (aexec P call N b) k s = some (x, s') → Stands P G n s ι a w →
        (∀ a' w', Reach P G n ι s w s' a' w' → Q x.toExit a' w') → Code.rounds P b Q k a w := by
      intro k
      induction k with
      | zero => intro s s' x ι a w h; cases h
      | succ k ihk =>
        intro s s' x ι a w h hst hq
        simp only [iterate] at h
        rw [rounds_succ]
        cases h1 : aexec P call N b s with
        | none => rw [h1] at h; cases h
        | some r =>
          obtain ⟨x1, s1⟩ := r
          rw [h1] at h
          refine ih s s1 x1 ι a w _ hok h1 hst fun a1 w1 hr => ?_
          cases x1 with
          | normal =>
            obtain ⟨ι1, he, hst1⟩ := hr
            refine ihk s1 s' x ι1 a1 w1 h hst1 fun a' w' hr' => hq a' w' ?_
            obtain ⟨ι2, k1, k2⟩ := hr'
            exact ⟨ι2, Ext.trans hst.1 he k1, k2⟩
          | ret => cases h; exact hq a1 w1 hr
          | exit id => cases h; exact hq a1 w1 hr
    exact key N s s' x ι a w h hst hq
  | region id ops draw =>
    intro s s' x ι a w Q hok h hst hq
    simp only [codeOk, Bool.and_eq_true] at hok
    have hall : ∀ o ∈ ops.toList, operOk G n o = true := fun o ho => Array.all_eq_true_iff_forall_mem.1 hok.1 o (by simpa using ho)
    cases draw with
    | false =>
      simp only [aexec, Option.map_eq_some_iff] at h
      obtain ⟨s1, h1, he⟩ := h
      cases he
      exact wp_region_list (asteps_sound hc ops.toList s _ ι a w hall h1 hst fun a' w' hr => hq a' w' hr)
    | true =>
      simp only [aexec, Option.map_eq_some_iff] at h
      obtain ⟨s1, h1, he⟩ := h
      cases he
      exact hd n id ops s _ ι a w Q hall (by simpa using hok.2) h1 hst fun a' w' hr => hq a' w' hr

end Go.Am
