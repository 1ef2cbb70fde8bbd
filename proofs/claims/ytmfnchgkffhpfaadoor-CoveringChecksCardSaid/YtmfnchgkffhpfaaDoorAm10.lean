/-
  The abstract machine: every operation that is no call of a Go function is sound. No condition. Nothing of one program stands here.
-/
import Derived.Test.YtmfnchgkffhpfaaDoorAm9
namespace Go.Am
variable {P : Program} {G : List Nat}

theorem aint_run {op : BinOp} {k : IntKind} {a b : Int} {v : Value} {t : TypeId} (h : aint op k a b = some v) (w : World) :
    (binOp op t (.int k a) (.int k b)).run P w = .ok v w ∧ plain v = true := by
  cases op <;> simp only [aint, reduceCtorEq, Option.some.injEq] at h
  case quo =>
    split at h
    · cases h
    · rename_i hb
      simp only [Option.some.injEq] at h
      subst h
      refine ⟨?_, rfl⟩
      rw [binOp_quo]; simp only [Op.intDiv, if_neg hb]; rfl
  case rem =>
    split at h
    · cases h
    · rename_i hb
      simp only [Option.some.injEq] at h
      subst h
      refine ⟨?_, rfl⟩
      rw [binOp_rem]; simp only [Op.intDiv, if_neg hb]; rfl
  all_goals
    subst h
    refine ⟨?_, rfl⟩
    first
      | (rw [binOp_add]; rfl)
      | (rw [binOp_sub]; rfl)
      | (rw [binOp_mul]; rfl)
      | (rw [binOp_and]; rfl)
      | (rw [binOp_or]; rfl)
      | (rw [binOp_xor]; rfl)
      | (rw [binOp_andNot]; rfl)
      | (rw [binOp_eql]; rfl)
      | (rw [binOp_neq]; rfl)
      | (rw [binOp_lss]; rfl)
      | (rw [binOp_leq]; rfl)
      | (rw [binOp_gtr]; rfl)
      | (rw [binOp_geq]; rfl)

theorem ashift_run {op : BinOp} {k k' : IntKind} {a b : Int} {v : Value} {t : TypeId} (hop : op = .shl ∨ op = .shr) (h : ashift op k a b = some v) (w : World) :
    (binOp op t (.int k a) (.int k' b)).run P w = .ok v w ∧ plain v = true := by
  unfold ashift at h
  split at h
  · cases h
  · rename_i hb
    rcases hop with rfl | rfl <;> simp only [Option.some.injEq] at h <;> subst h <;> refine ⟨?_, rfl⟩
    · rw [binOp_shl]; simp only [Op.shift, if_neg hb]; rfl
    · rw [binOp_shr]; simp only [Op.shift, if_neg hb]; rfl

theorem run_equal_slice {t e : TypeId} (hu : P.underlying t = some (.slice e)) (a b : Option Addr) (n c n' c' : Nat) (h : a = none ∨ b = none) (w : World) :
    (Op.equal t (.slice a n c) (.slice b n' c')).run P w = .ok (a.isNone && b.isNone) w := by
  show (Op.equalIn (9999 + 1) t _ _).run P w = _
  unfold Op.equalIn
  simp only [Sem.run_bind, run_underlying hu, Result.andThen_ok]
  cases a with
  | none => cases b <;> rfl
  | some a => cases b with
    | none => rfl
    | some b => simp at h

theorem run_equal_map {t k e : TypeId} (hu : P.underlying t = some (.map k e)) (a : Option Nat) (w : World) :
    (Op.equal t (.map a) (.map none)).run P w = .ok a.isNone w := by
  show (Op.equalIn (9999 + 1) t _ _).run P w = _
  unfold Op.equalIn
  simp only [Sem.run_bind, run_underlying hu, Result.andThen_ok]
  cases a <;> rfl

theorem run_equal_pointer {t e : TypeId} (hu : P.underlying t = some (.pointer e)) (a : Option Addr) (w : World) :
    (Op.equal t (.pointer a) (.pointer none)).run P w = .ok a.isNone w := by
  show (Op.equalIn (9999 + 1) t _ _).run P w = _
  unfold Op.equalIn
  simp only [Sem.run_bind, run_underlying hu, Result.andThen_ok]
  cases a <;> rfl

theorem abin_sound {ι : Inj} {g : Nat → Nat} {op : BinOp} {t : TypeId} {xo yo : Operand} {x y x' y' v : Value} (hx : VRel ι g x x') (hy : VRel ι g y y') (h : abin P op t xo yo x y = some v) (w : World) :
    ∃ v', (do eqGuard op t xo yo x' y'; binOp op t x' y' : Sem Value).run P w = .ok v' w ∧ VRel ι g v v' := by
  unfold abin at h
  split at h
  · cases hx; cases hy
    rename_i k a k' b
    refine ⟨v, ?_⟩
    simp only [Sem.run_bind, eqGuard_at_int, Sem.run_pure, Result.andThen_ok]
    split at h
    · obtain ⟨h1, h2⟩ := ashift_run (P := P) (t := t) (k' := k') (.inl rfl) h w
      exact ⟨h1, VRel.plain h2⟩
    · obtain ⟨h1, h2⟩ := ashift_run (P := P) (t := t) (k' := k') (.inr rfl) h w
      exact ⟨h1, VRel.plain h2⟩
    · split at h
      · rename_i e
        subst e
        obtain ⟨h1, h2⟩ := aint_run (P := P) (t := t) h w
        exact ⟨h1, VRel.plain h2⟩
      · cases h
  · rename_i a n g'
    cases hy
    split at h
    · rename_i e hu
      have hsh : ∃ a' n' c', x' = .slice a' n' c' ∧ a'.isNone = a.isNone := by cases hx <;> exact ⟨_, _, _, rfl, rfl⟩
      obtain ⟨a', n', c', rfl, hn⟩ := hsh
      simp only [Sem.run_bind, eqGuard_at_slice, Sem.run_pure, Result.andThen_ok]
      have heq := run_equal_slice hu a' none n' c' 0 0 (.inr rfl) w
      cases op <;> simp only [aeqNil, reduceCtorEq, Option.some.injEq] at h <;> subst h
      · refine ⟨_, ?_, .bool _⟩
        simp [binOp, heq, hn]
      · refine ⟨_, ?_, .bool _⟩
        simp [binOp, heq, hn]
    · cases h
  · rename_i a n g' _
    cases hx
    split at h
    · rename_i e hu
      have hsh : ∃ a' n' c', y' = .slice a' n' c' ∧ a'.isNone = a.isNone := by cases hy <;> exact ⟨_, _, _, rfl, rfl⟩
      obtain ⟨a', n', c', rfl, hn⟩ := hsh
      simp only [Sem.run_bind, eqGuard_at_slice, Sem.run_pure, Result.andThen_ok]
      have heq := run_equal_slice hu none a' 0 0 n' c' (.inl rfl) w
      cases op <;> simp only [aeqNil, reduceCtorEq, Option.some.injEq] at h <;> subst h
      · refine ⟨_, ?_, .bool _⟩
        simp [binOp, heq, hn]
      · refine ⟨_, ?_, .bool _⟩
        simp [binOp, heq, hn]
    · cases h
  · rename_i a
    cases hy
    split at h
    · rename_i k e hu
      have hsh : ∃ a', x' = .map a' ∧ a'.isNone = a.isNone := by cases hx <;> exact ⟨_, rfl, rfl⟩
      obtain ⟨a', rfl, hn⟩ := hsh
      simp only [Sem.run_bind, eqGuard_at_map, Sem.run_pure, Result.andThen_ok]
      have heq := run_equal_map hu a' w
      cases op <;> simp only [aeqNil, reduceCtorEq, Option.some.injEq] at h <;> subst h
      · refine ⟨_, ?_, .bool _⟩
        simp [binOp, heq, hn]
      · refine ⟨_, ?_, .bool _⟩
        simp [binOp, heq, hn]
    · cases h
  · rename_i a
    cases hy
    split at h
    · rename_i e hu
      have hsh : ∃ a', x' = .pointer a' ∧ a'.isNone = a.isNone := by cases hx <;> exact ⟨_, rfl, rfl⟩
      obtain ⟨a', rfl, hn⟩ := hsh
      simp only [Sem.run_bind, eqGuard_at_pointer, Sem.run_pure, Result.andThen_ok]
      have heq := run_equal_pointer hu a' w
      cases op <;> simp only [aeqNil, reduceCtorEq, Option.some.injEq] at h <;> subst h
      · refine ⟨_, ?_, .bool _⟩
        simp [binOp, heq, hn]
      · refine ⟨_, ?_, .bool _⟩
        simp [binOp, heq, hn]
    · cases h
  · split at h
    · rename_i hp
      simp only [Bool.and_eq_true] at hp
      rw [hx.eq_of_plain hp.1, hy.eq_of_plain hp.2]
      obtain ⟨h1, h2⟩ := dryV_some h
      exact ⟨v, dry_run h1 w, VRel.plain h2⟩
    · cases h

theorem all_plain_isCell {l : List Value} (h : l.all plainCell = true) : l.all isCell = true := by
  rw [List.all_eq_true] at h ⊢
  intro u hu
  have := h u hu
  cases u <;> first | rfl | simp [plainCell] at this

theorem repeat_all {z : List Value} (h : z.all plainCell = true) (n : Nat) : (repeatCells z n).all plainCell = true := by
  induction n with
  | zero => rfl
  | succ n ih => simp only [repeatCells, List.all_append, h, ih, Bool.and_self]

theorem makeSlice_sound {ι : Inj} {m : Mem} {w : World} {t e : TypeId} {i : TypeInfo} {z : List Value} {n k : Int} (hs : Sim P G ι m w) (hu : P.underlying t = some (.slice e)) (hi : P.info? e = some i)
    (hz : zeroCellsOf P e = some z) (h0 : 0 ≤ n) (h1 : n ≤ k) (h2 : k.toNat * (i.bytes + 1) ≤ room) (h3 : k ≤ 2 ^ 40) (h4 : z.length = i.size) (h5 : 0 < i.size) :
    ∃ v' w', (Instr.makeSlice t (.int .i64 n) (.int .i64 k)).run P w = .ok v' w' ∧
      Post P G ι m w (newSlice m e (repeatCells z n.toNat) n.toNat).1 (newSlice m e (repeatCells z n.toNat) n.toNat).2 v' w' := by
  obtain ⟨i', zv, hi', hz1, rfl, hz3⟩ := zeroCellsOf_some hz
  rw [hi] at hi'; cases hi'
  have hwn : IntKind.i64.wrap n = n := wrap_small h0 (by omega)
  have hwk : IntKind.i64.wrap k = k := wrap_small (by omega) h3
  have hbig : ¬ ((i.bytes : Int) * k > 2 ^ 48) := by
    have e1 : k.toNat * i.bytes ≤ k.toNat * (i.bytes + 1) := Nat.mul_le_mul_left _ (by omega)
    have e3 : (i.bytes : Int) * k = ((k.toNat * i.bytes : Nat) : Int) := by rw [Int.natCast_mul, Int.toNat_of_nonneg (by omega), Int.mul_comm]
    have e4 : room = 2 ^ 40 := rfl
    rw [e3]
    omega
  have hlt : ¬ (k < 0) := by omega
  have hlt2 : ¬ (n < 0) := by omega
  have hgt : ¬ (n > k) := by omega
  refine ⟨.slice (some ⟨w.heap.size, 0, none⟩) n.toNat k.toNat, { w with heap := w.heap.push (.cells (repeatCells zv.cells.toList k.toNat).toArray e (0, 0)) }, ?_, ?_⟩
  · simp only [Instr.makeSlice, Sem.run_bind, run_underlying hu, Result.andThen_ok, asInt, asIntOf, Sem.run_pure, run_typeInfo' hi, hwn, hwk, hlt, hlt2, hgt, hbig, decide_false, Bool.or_false, Bool.false_eq_true, if_false, or_false,
      run_askRoom, run_sizeOf' hi]
    by_cases hk0 : k.toNat * i.size = 0
    · have e1 : repeatCells zv.cells.toList k.toNat = [] := List.length_eq_zero_iff.1 (by rw [repeat_length, h4]; exact hk0)
      rw [if_pos hk0, hk0, e1]
      simp [newRow, Array.range_zero']
    · have e1 := repeat_array zv.cells.toList k.toNat (by omega)
      rw [h4] at e1
      rw [if_neg hk0]
      simp only [Sem.run_bind, run_zero hi hz1, Result.andThen_ok, Sem.run_pure, newRow, run_newObj, ← e1]
  · refine newSlice_sound hs rfl rfl rfl rfl (fun j hj => ?_) (by omega) (.inr ?_)
    · rw [repeat_length] at hj
      have hjk : j < k.toNat * zv.cells.toList.length := Nat.lt_of_lt_of_le hj (Nat.mul_le_mul_right _ (by omega))
      have hm : j % zv.cells.toList.length < zv.cells.toList.length := Nat.mod_lt _ (by omega)
      have e1 := repeat_get zv.cells.toList k.toNat j hjk
      have e2 := repeat_get zv.cells.toList n.toNat j hj
      rw [List.getElem?_eq_getElem hm] at e1 e2
      refine ⟨zv.cells.toList[j % zv.cells.toList.length], by simpa using e1, ?_⟩
      rw [getD_eq, e2]
      exact VRel.plainCell (List.all_eq_true.1 hz3 _ (List.getElem_mem hm))
    · rw [cellsOf_info hi, List.size_toArray, repeat_length, h4]; exact Nat.le_refl _

def IsNext (n : Next) (v : Value) : Prop := n = .value v ∨ (n = .skip ∧ v = undef)

theorem gen_zero_alloc {m : Mem} {x : ABlk} (hx : x.gen = 0) : (m.alloc x).gen m.size = 0 := by
  unfold Mem.gen; rw [Mem.get_alloc, if_pos rfl]; exact hx

/-- a new variable -/
theorem newVar_sound {ι : Inj} {m : Mem} {w : World} {e : TypeId} {l : List Value} {cs : Array Value} (hs : Sim P G ι m w) (hl : LRel ι m.gen l cs.toList) :
    Post P G ι m w (.pointer (some ⟨m.size, 0, none⟩)) (m.alloc (.cells l e 0 false)) (.pointer (some ⟨w.heap.size, 0, none⟩)) { w with heap := w.heap.push (.cells cs e (0, 0)) } := by
  obtain ⟨ι', hext, hsim, hb⟩ := alloc_core (x := .cells l e 0 false) (ib := ⟨w.heap.size, 0, cs.size, P.cellsOf e⟩) (w' := { w with heap := w.heap.push (.cells cs e (0, 0)) }) (obj := .cells cs e (0, 0)) hs rfl rfl rfl rfl rfl
    ⟨fun _ => rfl, rfl, rfl, fun i hi => by
      obtain ⟨v', h1, h2⟩ := hl.get (List.getElem?_eq_getElem hi)
      exact ⟨v', by simpa using h1, by rw [getD_lt hi]; exact h2⟩, fun _ j _ => by simp⟩ rfl
  exact ⟨ι', hext, hsim, .ptr _ _ ⟨_, hb, Nat.zero_le _, fun _ => rfl⟩⟩

theorem ORel.map {ι : Inj} {g : Nat → Nat} {ρ ρ' : Operand → Value} {o : Option Operand} (h : ∀ x, o = some x → VRel ι g (ρ x) (ρ' x)) : ORel ι g (o.map ρ) (o.map ρ') := by
  cases o with
  | none => exact .inl ⟨rfl, rfl⟩
  | some x => exact .inr ⟨_, _, rfl, rfl, h x rfl⟩

theorem ARels.map {ι : Inj} {g : Nat → Nat} {ρ ρ' : Operand → Value} {as : Array Operand} (h : ∀ x ∈ as, VRel ι g (ρ x) (ρ' x)) : ARels ι g (as.map ρ) (as.map ρ') := fun i v hv => by
  rw [Array.getElem?_map, Option.map_eq_some_iff] at hv
  obtain ⟨x, hx, rfl⟩ := hv
  exact ⟨ρ' x, by rw [Array.getElem?_map, hx]; rfl, h x (Array.mem_of_getElem? hx)⟩

theorem LRel.mapArr {ι : Inj} {g : Nat → Nat} {ρ ρ' : Operand → Value} : ∀ {l : List Operand}, (∀ x ∈ l, VRel ι g (ρ x) (ρ' x)) → LRel ι g (l.map ρ) (l.map ρ')
  | [], _ => LRel.nil
  | x :: l, h => LRel.cons (h x (by simp)) (LRel.mapArr fun y hy => h y (by simp [hy]))

theorem plain_map_eq {ι : Inj} {g : Nat → Nat} {ρ ρ' : Operand → Value} {as : Array Operand} (h : ∀ x ∈ as, VRel ι g (ρ x) (ρ' x)) (hp : (as.map ρ).toList.all plain = true) : as.map ρ' = as.map ρ := by
  apply Array.map_congr_left
  intro x hx
  refine (h x hx).eq_of_plain ?_
  rw [List.all_eq_true] at hp
  exact hp _ (by simp; exact ⟨x, hx, rfl⟩)

end Go.Am
