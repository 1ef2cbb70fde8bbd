/-
  The abstract machine: append, copy, len, make, maps, slicing, composites: sound as operations. No condition. Nothing of one program stands here.
-/
import Derived.Test.YtmfnchgkffhpfaaDoorAm5
namespace Go.Am
variable {P : Program} {G : List Nat}

/-- arguments, one by one -/
def ARels (ι : Inj) (g : Nat → Nat) (as as' : Array Value) : Prop := ∀ (i : Nat) v, as[i]? = some v → ∃ v', as'[i]? = some v' ∧ VRel ι g v v'

theorem loadCellsFrom_drawn (a : Addr) (k : Nat) : ∀ (n i : Nat) (acc : Array Value) (w : World) (r : Array Value), (loadCellsFrom a i n acc).run P w = .ok r w →
    (loadCellsFrom a i n acc).run P { w with drawn := k } = .ok r { w with drawn := k }
  | 0, i, acc, w, r, h => by
    simp only [loadCellsFrom, Sem.run_pure] at h ⊢
    injection h with h _
    rw [h]
  | n + 1, i, acc, w, r, h => by
    simp only [loadCellsFrom, Sem.run_bind, run_load] at h ⊢
    have e1 : ({ w with drawn := k } : World).cell? (a.add i) = w.cell? (a.add i) := rfl
    have e2 : ({ w with drawn := k } : World).farLoad P (a.add i) (Mode.plain == Mode.atomic) = w.farLoad P (a.add i) (Mode.plain == Mode.atomic) := rfl
    rw [e1, e2]
    cases hc : w.cell? (a.add i) with
    | some v =>
      rw [hc] at h
      exact loadCellsFrom_drawn a k n (i + 1) (acc.push v) w r h
    | none =>
      rw [hc] at h
      cases hf : w.farLoad P (a.add i) (Mode.plain == Mode.atomic) with
      | ok v =>
        rw [hf] at h
        exact loadCellsFrom_drawn a k n (i + 1) (acc.push v.1) w r h
      | error e => rw [hf] at h; cases h

theorem firstCells_drawn {size n : Nat} {x : Value} {w : World} {r : Array Value} (k : Nat) (h : (Builtin.firstCells size n x).run P w = .ok r w) :
    (Builtin.firstCells size n x).run P { w with drawn := k } = .ok r { w with drawn := k } := by
  unfold Builtin.firstCells at h ⊢
  split
  · rename_i a _ _
    exact loadCellsFrom_drawn a k _ _ _ _ _ h
  · simp only [Sem.run_pure] at h ⊢; injection h with h _; rw [h]
  · simp only [Sem.run_pure] at h ⊢; injection h with h _; rw [h]
  · simp_all

theorem append_run_plain {aT : Array TypeId} {as : Array Value} {sT xT e : TypeId} {xd : TypeDesc} {i : TypeInfo} {x : Value} {base : Option Addr} {sLen sCap n : Nat} {w : World} (ty : TypeId)
    (h0 : aT[0]? = some sT) (h1 : as[0]? = some (.slice base sLen sCap)) (h2 : as[1]? = some x) (h3 : aT[1]? = some xT)
    (hu : P.underlying sT = some (.slice e)) (hx : P.underlying xT = some xd) (hxd : ∀ k, xd ≠ .int k) (hi : P.info? e = some i) (hn : ∀ w, (Builtin.lenOf x).run P w = .ok n w) :
    (Builtin.append_ aT ty as).run P w = (appendTail e i.size false n x base sLen sCap (Builtin.firstCells i.size n x)).run P w := by
  have hz : (match xd with | .int _ => true | _ => false) = false := by cases xd <;> first | rfl | exact absurd rfl (hxd _)
  simp only [Builtin.append_, h0, h1, h2, h3, Sem.run_bind, run_underlying hu, Result.andThen_ok, run_sizeOf' hi, run_underlying hx, Sem.run_pure]
  cases xd <;> first
    | exact absurd rfl (hxd _)
    | (simp only [Bool.false_eq_true, if_false, hn, Result.andThen_ok, Bool.not_false, if_true, appendTail, Sem.run_bind]; rfl)
    | (simp only [Bool.false_eq_true, if_false, hn, Result.andThen_ok, Bool.not_false, if_true, appendTail])

theorem wrap_small {n : Int} (h0 : 0 ≤ n) (h1 : n ≤ 2 ^ 40) : IntKind.i64.wrap n = n := by
  have e : n % (2 ^ 64 : Int) = n := Int.emod_eq_of_lt h0 (by omega)
  simp only [IntKind.wrap, IntKind.bits, IntKind.signed, e, Bool.true_and]
  rw [if_neg (by simp; omega)]

theorem append_run_zeros {aT : Array TypeId} {as : Array Value} {sT xT e : TypeId} {k kk : IntKind} {i : TypeInfo} {nn : Int} {base : Option Addr} {sLen sCap : Nat} {w : World} (ty : TypeId)
    (h0 : aT[0]? = some sT) (h1 : as[0]? = some (.slice base sLen sCap)) (h2 : as[1]? = some (.int kk nn)) (h3 : aT[1]? = some xT)
    (hu : P.underlying sT = some (.slice e)) (hx : P.underlying xT = some (.int k)) (hi : P.info? e = some i) (hn0 : 0 ≤ nn) (hn1 : nn ≤ 2 ^ 30) (hroom : (sLen + nn.toNat) * (i.bytes + 1) ≤ room) :
    (Builtin.append_ aT ty as).run P w = (appendTail e i.size true nn.toNat (.int kk nn) base sLen sCap
      (if nn.toNat * i.size = 0 then pure #[] else do pure (Builtin.zeroCells (← zeroValue e).cells nn.toNat))).run P w := by
  have hw : IntKind.i64.wrap nn = nn := wrap_small hn0 (by omega)
  have hneg : ¬ nn < 0 := by omega
  have hbig : ¬ nn * (i.bytes : Int) > 2 ^ 48 := by
    have h1 : nn.toNat * (i.bytes + 1) ≤ room := Nat.le_trans (Nat.mul_le_mul_right _ (by omega)) hroom
    have h2 : nn.toNat * i.bytes ≤ nn.toNat * (i.bytes + 1) := Nat.mul_le_mul_left _ (by omega)
    have h3 : nn * (i.bytes : Int) = ((nn.toNat * i.bytes : Nat) : Int) := by rw [Int.natCast_mul, Int.toNat_of_nonneg hn0]
    have h4 : room = 2 ^ 40 := rfl
    rw [h3]
    omega
  simp only [Builtin.append_, h0, h1, h2, h3, Sem.run_bind, run_underlying hu, Result.andThen_ok, run_sizeOf' hi, run_underlying hx, Sem.run_pure, if_true, asInt, asIntOf, hw, hneg, if_false,
    run_typeInfo' hi, hbig, Bool.not_true, Bool.false_eq_true, appendTail]
  rfl

theorem append_sound {ι : Inj} {m m' : Mem} {w : World} {aT : Array TypeId} {as as' : Array Value} {v : Value} (ty : TypeId) (hs : Sim P G ι m w) (ha : ARels ι m.gen as as')
    (h : aappend P aT as m = some (v, m')) : ∃ v' w', (Builtin.append_ aT ty as').run P w = .ok v' w' ∧ Post P G ι m w v m' v' w' := by
  unfold aappend at h
  split at h
  · rename_i sT s x xT q0 q1 q2 q3
    split at h
    · rename_i e xd sLen hu hx hsl
      split at h
      · rename_i i hi
        split at h
        · cases h
        · rename_i hz
          have hz' : zeroSized i = true := by simpa using hz
          obtain ⟨s', hs1, hs2⟩ := ha 0 s q1
          obtain ⟨x', hx1, hx2⟩ := ha 1 x q2
          split at h
          · rename_i k
            split at h
            · rename_i kk nn z hzc
              split at h
              · rename_i hc
                simp only [Bool.and_eq_true, decide_eq_true_eq] at hc
                obtain ⟨⟨⟨c1, c2⟩, c3⟩, c4⟩ := hc
                cases hx2
                have hsh : ∃ base sCap, s' = .slice base sLen sCap := by
                  cases hs2 <;> simp only [lenOf, Option.some.injEq, reduceCtorEq] at hsl
                  · subst hsl; simp [appendCells] at h
                  · exact ⟨_, _, by rw [hsl]⟩
                  · exact ⟨_, _, by rw [hsl]⟩
                  · exact ⟨_, _, by rw [hsl]⟩
                obtain ⟨base, sCap, rfl⟩ := hsh
                have hzc' : ∃ zv, i.zero = some zv ∧ z = zv.cells.toList ∧ z.all plainCell = true := by
                  unfold zeroCellsOf zeroOf at hzc
                  rw [hi] at hzc
                  simp only [Option.bind_some] at hzc
                  split at hzc
                  · split at hzc
                    · rename_i zv hzv hall; cases hzc; exact ⟨zv, hzv, rfl, hall⟩
                    · cases hzc
                  · cases hzc
                obtain ⟨zv, z1, z2, z3⟩ := hzc'
                have hap : ∀ k, ((if nn.toNat * i.size = 0 then pure #[] else do pure (Builtin.zeroCells (← zeroValue e).cells nn.toNat) : Sem (Array Value))).run P { w with drawn := k } =
                    .ok (repeatCells z nn.toNat).toArray { w with drawn := k } := fun k => by
                  split
                  · rename_i h0
                    have : repeatCells z nn.toNat = [] := List.length_eq_zero_iff.1 (by rw [repeat_length, c4]; exact h0)
                    rw [this]; rfl
                  · rename_i h0
                    have hzpos : 0 < z.length := by
                      rw [c4]
                      rcases Nat.eq_zero_or_pos i.size with h | h
                      · rw [h] at h0; simp at h0
                      · exact h
                    rw [← repeat_array z nn.toNat hzpos]
                    have hzv : (zeroValue e).run P { w with drawn := k } = .ok zv { w with drawn := k } := by simp [zeroValue, run_typeInfo' hi, z1]
                    simp only [Sem.run_bind, hzv, Result.andThen_ok, Sem.run_pure, Builtin.zeroCells]
                    subst z2
                    rfl
                have := appendCells_sound (zeros := true) (x := .int kk nn) hs hi hz' hs2 hsl (LRel.repeat (ι := ι) (g := m.gen) z3 nn.toNat) (by rw [repeat_length, c4])
                  (by
                    rw [List.all_eq_true]
                    intro u hu
                    have : ∀ n, ∀ u ∈ repeatCells z n, plainCell u = true := fun n => by
                      induction n with
                      | zero => intro u hu; cases hu
                      | succ n ih => intro u hu; rcases List.mem_append.1 hu with h | h
                                     · exact List.all_eq_true.1 z3 u h
                                     · exact ih u h
                    have hp := this _ u hu
                    cases u <;> first | rfl | simp [plainCell] at hp) c3 hap h
                obtain ⟨v', w', hr, hp⟩ := this
                exact ⟨v', w', by rw [append_run_zeros ty q0 hs1 hx1 q3 hu hx hi c1 c2 c3]; exact hr, hp⟩
              · cases h
            · cases h
          · rename_i hnint
            split at h
            · rename_i n hn
              split at h
              · rename_i l hl
                split at h
                · rename_i hc
                  simp only [Bool.and_eq_true, decide_eq_true_eq] at hc
                  have hsh : ∃ base sCap, s' = .slice base sLen sCap := by
                    cases hs2 <;> simp only [lenOf, Option.some.injEq, reduceCtorEq] at hsl
                    · subst hsl; simp [appendCells] at h
                    · exact ⟨_, _, by rw [hsl]⟩
                    · exact ⟨_, _, by rw [hsl]⟩
                    · exact ⟨_, _, by rw [hsl]⟩
                  obtain ⟨base, sCap, rfl⟩ := hsh
                  obtain ⟨l', hr, hrel⟩ := sliceCells_sound hs hx2 hl
                  have hap : ∀ k, (Builtin.firstCells i.size n x').run P { w with drawn := k } = .ok l'.toArray { w with drawn := k } := fun k => firstCells_drawn k hr
                  obtain ⟨v', w', hr2, hp⟩ := appendCells_sound (zeros := false) (x := x') hs hi hz' hs2 hsl hrel (sliceCells_length hl) hc.2 hc.1 hap h
                  exact ⟨v', w', by rw [append_run_plain ty q0 hs1 hx1 q3 hu hx (fun k e => hnint k e) hi (fun w => lenOf_sound hx2 hn w)]; exact hr2, hp⟩
                · cases h
              · cases h
            · cases h
      · cases h
    · cases h
  · cases h

end Go.Am
