/-
  The values' layer: sets of strings (maps from strings to true). No condition. Nothing of one program stands here.
-/
import Derived.Test.YtmfnchgkffhpfaaDoorVmE
set_option linter.unusedSimpArgs false
set_option linter.unusedVariables false
namespace Go.Vm
open Go.Am
def setE (names : List (List UInt8)) : List (FV × FV) := names.map fun s => (.str (bs s), .bool true)

theorem bs_dec (a b : List UInt8) : (bs a == bs b) = decide (a = b) := by rw [bytes_dec]; simp only [bs_data]

theorem set_keys {m : Mem} {F : Nat → Prop} : ∀ {names : List (List UInt8)} {l : List MapEntry}, entsRel m F (setE names) l → l.map (·.key) = names.map (fun s => Value.string (bs s)) ∧ l.map (·.val) = names.map (fun _ => Value.bool true)
  | [], [], _ => ⟨rfl, rfl⟩
  | [], e :: l, h => by cases h.1
  | s :: names, [], h => by cases h.1
  | s :: names, e :: l, h => by
    obtain ⟨h1, h2⟩ := h
    simp only [setE, List.map_cons] at h1 h2
    cases h1 with
    | cons k1 t1 =>
      cases h2 with
      | cons k2 t2 =>
        obtain ⟨e1, e2⟩ := set_keys (names := names) (l := l) ⟨t1, t2⟩
        rw [List.map_cons, List.map_cons, List.map_cons, List.map_cons, e1, e2]
        constructor
        · congr 1
          generalize e.key = k at k1
          cases k1; rfl
        · congr 1
          generalize e.val = k at k2
          cases k2; rfl

theorem find_set : ∀ {names : List (List UInt8)} {l : List MapEntry}, l.map (·.key) = names.map (fun s => Value.string (bs s)) → l.map (·.val) = names.map (fun _ => Value.bool true) → ∀ (s : List UInt8) (i : Nat),
    (s ∈ names → ∃ j, Instr.findNow .string (.string (bs s)) l i = some (some (j, .bool true))) ∧ (s ∉ names → Instr.findNow .string (.string (bs s)) l i = some none)
  | [], [], _, _, s, i => ⟨fun h => (by cases h), fun _ => rfl⟩
  | [], e :: l, h, _, _, _ => by cases h
  | n :: names, [], h, _, _, _ => by cases h
  | n :: names, e :: l, h1, h2, s, i => by
    simp only [List.map_cons, List.cons.injEq] at h1 h2
    obtain ⟨i1, i2⟩ := find_set h1.2 h2.2 s (i + 1)
    have hs : Instr.sameNow .string (.string (bs s)) (.string (bs n)) = some (bs s == bs n) := rfl
    rw [bs_dec] at hs
    unfold Instr.findNow
    rw [h1.1, hs]
    by_cases hn : s = n
    · rw [decide_eq_true hn]
      simp only [h2.1]
      exact ⟨fun _ => ⟨i, rfl⟩, fun h => absurd (by rw [hn]; simp) h⟩
    · rw [decide_eq_false hn]
      simp only
      refine ⟨fun h => ?_, fun h => ?_⟩
      · rcases List.mem_cons.1 h with h | h
        · exact absurd h hn
        · exact i1 h
      · exact i2 (fun h' => h (List.mem_cons_of_mem _ h'))

section
variable {E : Env} {L : Frame} {H : Heap} {nx : Nat} {Q : PV → Heap → Nat → Prop} {w : Bool}
variable {dst : Option Tmp} {ty : TypeId} {pos : String} {af : Array Edge} {gd : Option (Nat × Bool)}

theorem vev_map {Γ : Nat → Option (List Value × TypeId)} {m : Mem} {F : Nat → Prop} {σ : Nat → Value} {t : Tr Value} {b : Nat} {o : Operand} {es : List (FV × FV)} (hx : Ctx Γ m F σ H nx) (hl : RL m F (htag H) σ nx L t) (h : vev Γ L o = some (.mref b)) (hb : hget H b = some (.map es)) : ev t o = σ b := by
  have := vev_rel hx hl h
  generalize ev t o = v at this
  cases this with
  | mref _ _ h3 => exact h3 (by simp [htag, hb, HB.tag])

theorem VVal.makeMap {t : TypeId} (q : Q (.mref nx) ((nx, .map []) :: H) (nx + 1)) : VVal E w ⟨dst, .makeMap t none, ty, pos, af, gd⟩ L H nx Q := by
  intro m F σ tt h1 h2
  obtain ⟨c1, c2, c3⟩ := h1.new (m' := m.alloc (.map [] 0)) (x := .map []) (s := .map (some m.size)) (by simp [Mem.alloc]) (fun c hc => by rw [Mem.get_alloc, if_neg (by omega)]) (by simp only [Mem.alloc]; omega) (fun c hc => by simp only [blkOf, Option.some.injEq] at hc; omega)
    ⟨m.size, [], 0, rfl, by simp [Mem.alloc], fun hf => Nat.lt_irrefl _ (h1.fr _ hf), by rw [Mem.get_alloc, if_pos rfl], ⟨.nil, .nil⟩⟩
  exact AVal.op (v := .map (some m.size)) (fun _ => rfl) ⟨_, _, _, F, _, q, c1, .mref (Nat.lt_succ_self _) rfl fun _ => (upd_same _ _ _).symm, c2, fun _ => c3⟩

theorem VVal.lookupSet {t kt et : TypeId} {x k : Operand} {b : Nat} {names : List (List UInt8)} {s : List UInt8} (hx : vev E.Γ L x = some (.mref b)) (hb : hget H b = some (.map (setE names))) (hk : vev E.Γ L k = some (st s))
    (ht : E.P.underlying t = some (.map kt et)) (hkk : keyKind E.P kt = some .string) (hz : zeroOf E.P et = some (.bool false)) (q : Q (.p (.bool (decide (s ∈ names)))) H nx) : VVal E w ⟨dst, .lookup t x k false, ty, pos, af, gd⟩ L H nx Q :=
  VVal.quiet q fun m F σ tt c1 c2 => by
    obtain ⟨_, r, l, clock, r1, r2, r3, r4, r5⟩ := c1.hp b _ hb
    obtain ⟨e1, e2⟩ := set_keys r5
    obtain ⟨f1, f2⟩ := find_set e1 e2 s 0
    refine ⟨.bool (decide (s ∈ names)), fun _ => ?_, .p (.bool _)⟩
    simp only [aval, aop, alookup, ht, hkk, hz, vev_map c1 c2 hx hb, vev_str c1 c2 hk, r1, r4]
    rw [show (plain (Value.bool false) && plain (Value.string (bs s))) = true from rfl]
    by_cases h : s ∈ names
    · obtain ⟨j, hj⟩ := f1 h
      simp only [if_true, hj, Bool.false_eq_true, if_false, Option.map_some, decide_eq_true h]
    · simp only [if_true, f2 h, Bool.false_eq_true, if_false, Option.map_some, decide_eq_false h]

theorem RFs.snoc {m : Mem} {F : Nat → Prop} : ∀ {cs : List FV} {vs : List Value} {c : FV} {v : Value}, RFs m F cs vs → RF m F c v → RFs m F (cs ++ [c]) (vs ++ [v])
  | _, _, _, _, .nil, h => .cons h .nil
  | _, _, _, _, .cons a t, h => .cons a (RFs.snoc t h)

theorem VVal.addSet {t kt et : TypeId} {x k y : Operand} {b : Nat} {names : List (List UInt8)} {s : List UInt8} (hx : vev E.Γ L x = some (.mref b)) (hb : hget H b = some (.map (setE names))) (hk : vev E.Γ L k = some (st s)) (hy : vev E.Γ L y = some (.p (.bool true)))
    (ht : E.P.underlying t = some (.map kt et)) (hkk : keyKind E.P kt = some .string) (hn : s ∉ names) (q : Q (.tup []) (hput H b (.map (setE (names ++ [s])))) nx) : VVal E true ⟨dst, .mapUpdate t x k y, ty, pos, af, gd⟩ L H nx Q := by
  intro m F σ tt c1 c2
  obtain ⟨_, r, l, clock, r1, r2, r3, r4, r5⟩ := c1.hp b _ hb
  obtain ⟨e1, e2⟩ := set_keys r5
  have f2 := (find_set e1 e2 s 0).2 hn
  have hput' : ∀ d x, r ≠ d → (m.put r x).get d = m.get d := fun d x hd => by rw [Mem.get_put, if_neg hd]
  obtain ⟨d1, d2⟩ := c1.change (m' := m.put r (.map (l ++ [{ key := .string (bs s), val := .bool true, born := clock }]) (clock + 1))) (x' := .map (setE (names ++ [s]))) (s' := σ b) hb trivial (fun _ => rfl) (Nat.le_refl _)
    (fun d _ hd => hput' d _ fun e => hd (by rw [r1, e]; rfl)) (fun k k1 k2 k3 => by
      have := k3 r (by rw [r1]; rfl)
      simp only [Mem.put]; omega) (fun d hd => .inl hd) (by
      refine ⟨r, _, clock + 1, r1, r2, r3, by rw [Mem.get_put, if_pos rfl], ?_⟩
      have hF : ∀ d, F d → F d ∧ (m.put r (.map (l ++ [{ key := .string (bs s), val := .bool true, born := clock }]) (clock + 1))).get d = m.get d := fun d hd => ⟨hd, hput' d _ fun e => r3 (e ▸ hd)⟩
      unfold entsRel setE
      simp only [List.map_append, List.map_cons, List.map_nil]
      exact ⟨RFs.snoc (r5.1.mono hF) (.str _), RFs.snoc (r5.2.mono hF) (.bool _)⟩)
  refine AVal.op (v := undef) (fun _ => ?_) ⟨_, _, _, F, _, q, d1, .tup .nil, d2, fun h => by cases h⟩
  have hv : ev tt y = .bool true := vev_bool c1 c2 hy
  simp only [aval, aop, aupdate, ht, hkk, vev_map c1 c2 hx hb, vev_str c1 c2 hk, hv, r1, r4]
  rw [show plain (Value.string (bs s)) = true from rfl]
  simp only [if_true, f2, Option.map_some]
end
end Go.Vm

/-
  The values' layer: further rules. No condition. Nothing of one program stands here.
-/
set_option linter.unusedSimpArgs false
set_option linter.unusedVariables false
namespace Go.Vm
open Go.Am
end Go.Vm

