/-
  The values' layer: operations, second part: the rules, one for each kind. No condition. Nothing of one program stands here.
-/
import Derived.Test.YtmfnchgkffhpfaaDoorVm5
namespace Go.Vm
open Go.Am
variable {E : Env} {L : Frame} {H : Heap} {nx : Nat} {Q : PV → Heap → Nat → Prop} {w : Bool}
variable {dst : Option Tmp} {ty : TypeId} {pos : String} {af : Array Edge} {gd : Option (Nat × Bool)}

theorem VVal.move {x : Operand} {r : PV} (h : vev E.Γ L x = some r) (q : Q r H nx) : VVal E w ⟨dst, .move x, ty, pos, af, gd⟩ L H nx Q :=
  VVal.quiet q fun _ _ _ _ h1 h2 => ⟨_, fun _ => rfl, vev_rel h1 h2 h⟩
theorem VVal.assign {x : Operand} {r : PV} (h : vev E.Γ L x = some r) (q : Q r H nx) : VVal E w ⟨dst, .assign x, ty, pos, af, gd⟩ L H nx Q :=
  VVal.quiet q fun _ _ _ _ h1 h2 => ⟨_, fun _ => rfl, vev_rel h1 h2 h⟩
theorem VVal.pick_true {c a b : Operand} {r : PV} (hc : vev E.Γ L c = some (.p (.bool true))) (h : vev E.Γ L a = some r) (q : Q r H nx) : VVal E w ⟨dst, .pick c a b, ty, pos, af, gd⟩ L H nx Q :=
  VVal.quiet q fun m _ _ t h1 h2 => ⟨ev t a, fun _ => by simp only [aval, aop, vev_bool h1 h2 hc, if_true], vev_rel h1 h2 h⟩
theorem VVal.pick_false {c a b : Operand} {r : PV} (hc : vev E.Γ L c = some (.p (.bool false))) (h : vev E.Γ L b = some r) (q : Q r H nx) : VVal E w ⟨dst, .pick c a b, ty, pos, af, gd⟩ L H nx Q :=
  VVal.quiet q fun m _ _ t h1 h2 => ⟨ev t b, fun _ => by simp only [aval, aop, vev_bool h1 h2 hc, Bool.false_eq_true, if_false], vev_rel h1 h2 h⟩

theorem vev_int {Γ : Nat → Option (List Value × TypeId)} {m : Mem} {F : Nat → Prop} {σ : Nat → Value} {t : Tr Value} {k : IntKind} {n : Int} {o : Operand} (hx : Ctx Γ m F σ H nx) (hl : RL m F (htag H) σ nx L t) (h : vev Γ L o = some (.p (.int k n))) : ev t o = .int k n := by
  have := vev_rel hx hl h
  generalize ev t o = v at this
  cases this with | p h => cases h; rfl
theorem vev_str {Γ : Nat → Option (List Value × TypeId)} {m : Mem} {F : Nat → Prop} {σ : Nat → Value} {t : Tr Value} {s : ByteArray} {o : Operand} (hx : Ctx Γ m F σ H nx) (hl : RL m F (htag H) σ nx L t) (h : vev Γ L o = some (.p (.str s))) : ev t o = .string s := by
  have := vev_rel hx hl h
  generalize ev t o = v at this
  cases this with | p h => cases h; rfl

def vint (op : BinOp) (k : IntKind) (x y : Int) : Option FV :=
  match op with
  | .add => some (.int k (k.wrap (x + y)))
  | .sub => some (.int k (k.wrap (x - y)))
  | .mul => some (.int k (k.wrap (x * y)))
  | .eql => some (.bool (decide (x = y)))
  | .neq => some (.bool (decide (x ≠ y)))
  | .lss => some (.bool (decide (x < y)))
  | .leq => some (.bool (decide (x ≤ y)))
  | .gtr => some (.bool (decide (x > y)))
  | .geq => some (.bool (decide (x ≥ y)))
  | .quo => if y = 0 then none else some (.int k (k.wrap (x.tdiv y)))
  | .rem => if y = 0 then none else some (.int k (x.tmod y))
  | .and => some (.int k (k.wrap (BitVec.ofInt k.bits x &&& BitVec.ofInt k.bits y).toNat))
  | .or => some (.int k (k.wrap (BitVec.ofInt k.bits x ||| BitVec.ofInt k.bits y).toNat))
  | .xor => some (.int k (k.wrap (BitVec.ofInt k.bits x ^^^ BitVec.ofInt k.bits y).toNat))
  | .andNot => some (.int k (k.wrap (BitVec.ofInt k.bits x &&& ~~~ BitVec.ofInt k.bits y).toNat))
  | _ => none

theorem vint_rel {m : Mem} {F : Nat → Prop} {op : BinOp} {k : IntKind} {x y : Int} {r : FV} (h : vint op k x y = some r) : ∃ v, aint op k x y = some v ∧ RF m F r v ∧ op ≠ .shl ∧ op ≠ .shr := by
  have e1 : (x == y) = decide (x = y) := Bool.eq_iff_iff.2 (by simp)
  have e2 : (x != y) = decide (x ≠ y) := Bool.eq_iff_iff.2 (by simp)
  cases op <;> simp only [vint, aint, e1, e2] at h ⊢ <;> first
    | (cases h; done)
    | (cases h; exact ⟨_, rfl, .int _ _, by simp, by simp⟩)
    | (cases h; exact ⟨_, rfl, .bool _, by simp, by simp⟩)
    | (split at h
       · cases h
       · rename_i h0; cases h; exact ⟨_, by rw [if_neg h0], .int _ _, by simp, by simp⟩)

theorem VVal.int {op : BinOp} {t t2 : TypeId} {x y : Operand} {k : IntKind} {a b : Int} {r : FV} (hx : vev E.Γ L x = some (.p (.int k a))) (hy : vev E.Γ L y = some (.p (.int k b))) (h : vint op k a b = some r) (q : Q (.p r) H nx) :
    VVal E w ⟨dst, .binOp op t x y t2, ty, pos, af, gd⟩ L H nx Q :=
  VVal.quiet q fun m F σ tt h1 h2 => by
    obtain ⟨v, h3, h4, h5, h6⟩ := vint_rel (m := m) (F := F) h
    refine ⟨v, fun _ => ?_, .p h4⟩
    have e : abin E.P op t x y (.int k a) (.int k b) = some v := by
      rw [← h3]
      cases op <;> first | exact absurd rfl h5 | exact absurd rfl h6 | simp only [abin, if_true]
    simp only [aval, aop, vev_int h1 h2 hx, vev_int h1 h2 hy, e, Option.map_some]

theorem wrap_i64 {n : Int} (h : -9223372036854775808 ≤ n ∧ n < 9223372036854775808) : IntKind.i64.wrap n = n := by
  have e : IntKind.i64.wrap n = (n + 2^63) % 2^64 - 2^63 := by
    simp [IntKind.wrap, IntKind.signed, IntKind.bits]
    try omega
  rw [e]
  omega

/-- sums that fit -/
theorem VVal.add64 {t t2 : TypeId} {x y : Operand} {a b : Int} (hx : vev E.Γ L x = some (.p (.int .i64 a))) (hy : vev E.Γ L y = some (.p (.int .i64 b))) (h : -9223372036854775808 ≤ a + b ∧ a + b < 9223372036854775808) (q : Q (.p (.int .i64 (a + b))) H nx) :
    VVal E w ⟨dst, .binOp .add t x y t2, ty, pos, af, gd⟩ L H nx Q := VVal.int hx hy (r := .int .i64 (a + b)) (by simp only [vint, wrap_i64 h]) q
theorem VVal.sub64 {t t2 : TypeId} {x y : Operand} {a b : Int} (hx : vev E.Γ L x = some (.p (.int .i64 a))) (hy : vev E.Γ L y = some (.p (.int .i64 b))) (h : -9223372036854775808 ≤ a - b ∧ a - b < 9223372036854775808) (q : Q (.p (.int .i64 (a - b))) H nx) :
    VVal E w ⟨dst, .binOp .sub t x y t2, ty, pos, af, gd⟩ L H nx Q := VVal.int hx hy (r := .int .i64 (a - b)) (by simp only [vint, wrap_i64 h]) q
theorem VVal.mul64 {t t2 : TypeId} {x y : Operand} {a b : Int} (hx : vev E.Γ L x = some (.p (.int .i64 a))) (hy : vev E.Γ L y = some (.p (.int .i64 b))) (h : -9223372036854775808 ≤ a * b ∧ a * b < 9223372036854775808) (q : Q (.p (.int .i64 (a * b))) H nx) :
    VVal E w ⟨dst, .binOp .mul t x y t2, ty, pos, af, gd⟩ L H nx Q := VVal.int hx hy (r := .int .i64 (a * b)) (by simp only [vint, wrap_i64 h]) q

theorem VVal.shift {op : BinOp} {t t2 : TypeId} {x y : Operand} {k k' : IntKind} {a b : Int} {r : FV} (hop : op = .shl ∨ op = .shr) (hx : vev E.Γ L x = some (.p (.int k a))) (hy : vev E.Γ L y = some (.p (.int k' b))) (hb : 0 ≤ b)
    (hr : r = if op = .shl then .int k (k.wrap (a * 2 ^ (min b.toNat k.bits))) else .int k (a.fdiv (2 ^ (min b.toNat k.bits)))) (q : Q (.p r) H nx) :
    VVal E w ⟨dst, .binOp op t x y t2, ty, pos, af, gd⟩ L H nx Q :=
  VVal.quiet q fun m F σ tt h1 h2 => by
    have hb' : ¬ b < 0 := by omega
    rcases hop with rfl | rfl
    · refine ⟨.int k (k.wrap (a * 2 ^ (min b.toNat k.bits))), fun _ => ?_, by rw [hr]; exact .p (.int _ _)⟩
      simp only [aval, aop, vev_int h1 h2 hx, vev_int h1 h2 hy, abin, ashift, if_neg hb', Option.map_some]
    · refine ⟨.int k (a.fdiv (2 ^ (min b.toNat k.bits))), fun _ => ?_, by rw [hr]; exact .p (.int _ _)⟩
      simp only [aval, aop, vev_int h1 h2 hx, vev_int h1 h2 hy, abin, ashift, if_neg hb', Option.map_some]
theorem VVal.shl {t t2 : TypeId} {x y : Operand} {k k' : IntKind} {a b : Int} (hx : vev E.Γ L x = some (.p (.int k a))) (hy : vev E.Γ L y = some (.p (.int k' b))) (hb : 0 ≤ b) (q : Q (.p (.int k (k.wrap (a * 2 ^ (min b.toNat k.bits))))) H nx) :
    VVal E w ⟨dst, .binOp .shl t x y t2, ty, pos, af, gd⟩ L H nx Q := VVal.shift (.inl rfl) hx hy hb rfl q
theorem VVal.shr {t t2 : TypeId} {x y : Operand} {k k' : IntKind} {a b : Int} (hx : vev E.Γ L x = some (.p (.int k a))) (hy : vev E.Γ L y = some (.p (.int k' b))) (hb : 0 ≤ b) (q : Q (.p (.int k (a.fdiv (2 ^ (min b.toNat k.bits))))) H nx) :
    VVal E w ⟨dst, .binOp .shr t x y t2, ty, pos, af, gd⟩ L H nx Q := VVal.shift (.inr rfl) hx hy hb rfl q

theorem dryV_of {P : Program} {s : Sem Value} {v : Value} (h : dry P s = some v) (hp : plain v = true) : dryV P s = some v := by
  simp only [dryV, h, hp, if_true]

theorem VVal.convInt {s d : TypeId} {x : Operand} {k k' : IntKind} {n : Int} {sd : TypeDesc} (hx : vev E.Γ L x = some (.p (.int k' n))) (hs : E.P.underlying s = some sd) (hd : E.P.underlying d = some (.int k)) (q : Q (.p (.int k (k.wrap n))) H nx) :
    VVal E w ⟨dst, .convert s d x, ty, pos, af, gd⟩ L H nx Q :=
  VVal.quiet q fun m F σ tt h1 h2 => by
    refine ⟨.int k (k.wrap n), fun _ => ?_, .p (.int _ _)⟩
    have : dry E.P (convert s d (.int k' n)) = some (.int k (k.wrap n)) := by
      unfold convert
      simp only [dry_bind, dry_underlying, hs, hd, Option.bind_some]
      cases sd <;> rfl
    simp only [aval, aop, vev_int h1 h2 hx, dryV_of this rfl, Option.map_some]
    rfl

theorem RPs.idx {m : Mem} {F : Nat → Prop} {T : Nat → Option Tg} {σ : Nat → Value} {n' : Nat} {cs : List PV} {vs : List Value} {i : Nat} {c : PV} (h : RPs m F T σ n' cs vs) (hc : cs[i]? = some c) : ∃ v, vs[i]? = some v ∧ RP m F T σ n' c v := h.get hc

theorem VVal.extract {t : Operand} {i : Nat} {vs : List PV} {r : PV} (h : vev E.Γ L t = some (.tup vs)) (hr : vs[i]? = some r) (q : Q r H nx) : VVal E w ⟨dst, .extract t i, ty, pos, af, gd⟩ L H nx Q :=
  VVal.quiet q fun m F σ tt h1 h2 => by
    have := vev_rel h1 h2 h
    generalize hv : ev tt t = v at this
    cases this with
    | tup hrs =>
      obtain ⟨u, h3, h4⟩ := hrs.get hr
      refine ⟨u, fun _ => ?_, h4⟩
      simp only [aval, aop, hv, Instr.extract, List.getElem?_toArray, h3]
      rfl

/-! ## Places -/
def fieldOff (P : Program) (s : TypeId) (f : Nat) : Option Nat :=
  match P.underlying s with
  | some (.struct fs) => match fs[f]? with
    | some fd => match P.info? fd.type with
      | some i => if i.size = 0 then none else some fd.offset
      | none => none
    | none => none
  | _ => none

theorem fieldOff_spec {P : Program} {ρ : Operand → Value} {s : TypeId} {f k : Nat} {x : Operand} {a : Addr} {m : Mem} (h : fieldOff P s f = some k) (hx : ρ x = .pointer (some a)) :
    aop P ρ ⟨dst, .fieldAddr s x f, ty, pos, af, gd⟩ m = some (.pointer (some { a with off := a.off + k }), m) := by
  unfold fieldOff at h
  simp only [aop, hx]
  cases hu : P.underlying s with
  | none => rw [hu] at h; cases h
  | some d =>
    rw [hu] at h
    cases d with
    | struct fs =>
      simp only at h ⊢
      cases hf : fs[f]? with
      | none => rw [hf] at h; cases h
      | some fd =>
        rw [hf] at h
        simp only at h ⊢
        cases hi : P.info? fd.type with
        | none => rw [hi] at h; cases h
        | some i =>
          rw [hi] at h
          simp only at h ⊢
          split at h
          · cases h
          · rename_i h0; cases h; simp only [h0, if_false]
    | _ => cases h

theorem takeN_drop {n k : Nat} {l ws : List Value} (h : takeN n l = some ws) : takeN (n - k) (l.drop k) = some (ws.drop k) := by
  obtain ⟨rfl, hn⟩ := takeN_some h
  unfold takeN
  rw [List.length_drop, if_pos (by omega), List.drop_take]

theorem RF.cptr_drop {m : Mem} {F : Nat → Prop} {cs : List FV} {a : Addr} (k : Nat) (h : RF m F (.cptr cs) (.pointer (some a))) : RF m F (.cptr (cs.drop k)) (.pointer (some { a with off := a.off + k })) := by
  cases h with
  | cptr hF hm hg hw h hc =>
    refine .cptr hF hm hg (ws := _) ?_ (RFs.drop k h) (all_drop hc k)
    have := takeN_drop (k := k) hw
    rw [List.length_drop, ← List.drop_drop]
    exact this

theorem vev_cptr {Γ : Nat → Option (List Value × TypeId)} {m : Mem} {F : Nat → Prop} {σ : Nat → Value} {t : Tr Value} {cs : List FV} {o : Operand} (hx : Ctx Γ m F σ H nx) (hl : RL m F (htag H) σ nx L t) (h : vev Γ L o = some (.p (.cptr cs))) :
    ∃ a, ev t o = .pointer (some a) ∧ RF m F (.cptr cs) (.pointer (some a)) := by
  have := vev_rel hx hl h
  generalize ev t o = v at this
  cases this with
  | p h =>
    cases h with
    | cptr h1 h2 h3 h4 h5 h6 => exact ⟨_, rfl, .cptr h1 h2 h3 h4 h5 h6⟩

theorem vev_ref {Γ : Nat → Option (List Value × TypeId)} {m : Mem} {F : Nat → Prop} {σ : Nat → Value} {t : Tr Value} {b off : Nat} {o : Operand} {e : TypeId} {cs : List PV} (hx : Ctx Γ m F σ H nx) (hl : RL m F (htag H) σ nx L t) (h : vev Γ L o = some (.ref b off)) (hb : hget H b = some (.box e cs)) :
    ∃ c, ev t o = .pointer (some ⟨c, off, none⟩) ∧ σ b = .pointer (some ⟨c, 0, none⟩) := by
  have := vev_rel hx hl h
  generalize ev t o = v at this
  cases this with
  | ref h1 h2 h3 =>
    obtain ⟨c, h4, h5⟩ := h3 (by simp [htag, hb, HB.tag])
    exact ⟨c, h5, h4⟩
theorem vev_eref {Γ : Nat → Option (List Value × TypeId)} {m : Mem} {F : Nat → Prop} {σ : Nat → Value} {t : Tr Value} {b tag off : Nat} {o : Operand} {e : TypeId} {cs : List FV} {z : Bool} (hx : Ctx Γ m F σ H nx) (hl : RL m F (htag H) σ nx L t) (h : vev Γ L o = some (.eref b tag off)) (hb : hget H b = some (.vec e cs tag z)) :
    ∃ c k g, ev t o = .pointer (some ⟨c, off, some g⟩) ∧ σ b = .slice (some ⟨c, 0, none⟩) k g := by
  have := vev_rel hx hl h
  generalize ev t o = v at this
  cases this with
  | eref h1 h2 h3 =>
    obtain ⟨_, h4⟩ := h3 tag (by simp [htag, hb, HB.tag])
    obtain ⟨c, k, g, h5, h6⟩ := h4 rfl
    exact ⟨c, k, g, h6, h5⟩

theorem VVal.fieldF {s : TypeId} {x : Operand} {f k : Nat} {cs : List FV} (hx : vev E.Γ L x = some (.p (.cptr cs))) (hk : fieldOff E.P s f = some k) (q : Q (.p (.cptr (cs.drop k))) H nx) : VVal E w ⟨dst, .fieldAddr s x f, ty, pos, af, gd⟩ L H nx Q :=
  VVal.quiet q fun m F σ tt h1 h2 => by
    obtain ⟨a, h3, h4⟩ := vev_cptr h1 h2 hx
    exact ⟨_, fun _ => fieldOff_spec (dst := dst) (ty := ty) (pos := pos) (af := af) (gd := gd) hk h3, .p (h4.cptr_drop k)⟩
theorem VVal.fieldB {s : TypeId} {x : Operand} {f k b off : Nat} {e : TypeId} {cs : List PV} (hx : vev E.Γ L x = some (.ref b off)) (hb : hget H b = some (.box e cs)) (hk : fieldOff E.P s f = some k) (q : Q (.ref b (off + k)) H nx) : VVal E w ⟨dst, .fieldAddr s x f, ty, pos, af, gd⟩ L H nx Q :=
  VVal.quiet q fun m F σ tt h1 h2 => by
    obtain ⟨c, h3, h4⟩ := vev_ref h1 h2 hx hb
    exact ⟨_, fun _ => fieldOff_spec (dst := dst) (ty := ty) (pos := pos) (af := af) (gd := gd) hk h3, .ref (h1.hp b _ hb).1 rfl fun _ => ⟨c, h4, rfl⟩⟩
theorem VVal.fieldV {s : TypeId} {x : Operand} {f k b tag off : Nat} {e : TypeId} {cs : List FV} {z : Bool} (hx : vev E.Γ L x = some (.eref b tag off)) (hb : hget H b = some (.vec e cs tag z)) (hk : fieldOff E.P s f = some k) (q : Q (.eref b tag (off + k)) H nx) :
    VVal E w ⟨dst, .fieldAddr s x f, ty, pos, af, gd⟩ L H nx Q :=
  VVal.quiet q fun m F σ tt h1 h2 => by
    obtain ⟨c, k', g, h3, h4⟩ := vev_eref h1 h2 hx hb
    refine ⟨_, fun _ => fieldOff_spec (dst := dst) (ty := ty) (pos := pos) (af := af) (gd := gd) hk h3, .eref (h1.hp b _ hb).1 rfl fun n hn => ?_⟩
    simp only [htag, hb, HB.tag, Option.map_some, Option.some.injEq, Tg.vec.injEq] at hn
    exact ⟨by omega, fun _ => ⟨c, k', g, h4, rfl⟩⟩

theorem VVal.load {t : TypeId} {a : Operand} {x r : PV} (ha : vev E.Γ L a = some x) (h : vload E.P t H x = some r) (q : Q r H nx) : VVal E w ⟨dst, .load t a, ty, pos, af, gd⟩ L H nx Q :=
  VVal.quiet q fun m F σ tt h1 h2 => by
    obtain ⟨p, u, h3, h4, h5⟩ := vload_rel h1 (vev_rel h1 h2 ha) h
    exact ⟨u, fun _ => by simp only [aval, aop, h3, h4, Option.map_some], h5⟩
theorem VVal.loadV {t : TypeId} {a : Operand} {b tag off : Nat} {e : TypeId} {cs : List FV} {z : Bool} {r : FV} (ha : vev E.Γ L a = some (.eref b tag off)) (hb : hget H b = some (.vec e cs tag z)) (h : loadF E.P t (cs.drop off) = some r) (q : Q (.p r) H nx) :
    VVal E w ⟨dst, .load t a, ty, pos, af, gd⟩ L H nx Q := by
  refine VVal.load ha ?_ q
  simp only [vload, hb]
  split
  · simp only [h, Option.map_some]
  · rename_i hn _; exact absurd rfl hn

/-- the element's size -/
def elemSize (P : Program) (t : TypeId) : Option Nat :=
  match P.underlying t with
  | some (.slice e) => (P.info? e).map (·.size)
  | _ => none

theorem elemSize_some {P : Program} {t : TypeId} {sz : Nat} (h : elemSize P t = some sz) : ∃ e i, P.underlying t = some (.slice e) ∧ P.info? e = some i ∧ i.size = sz := by
  unfold elemSize at h
  split at h
  · rename_i e hu
    simp only [Option.map_eq_some_iff] at h
    obtain ⟨i, h1, h2⟩ := h
    exact ⟨e, i, hu, h1, h2⟩
  · cases h

theorem VVal.indexF {t : TypeId} {x ix : Operand} {e : TypeId} {cs : List FV} {n sz : Nat} {k : IntKind} {i : Int} (hx : vev E.Γ L x = some (.p (.lst e cs n))) (hi : vev E.Γ L ix = some (.p (.int k i))) (hs : elemSize E.P t = some sz) (h0 : 0 ≤ i) (h1 : i < n)
    (q : Q (.p (.cptr (cs.drop (i.toNat * sz)))) H nx) : VVal E w ⟨dst, .indexAddr t x ix, ty, pos, af, gd⟩ L H nx Q :=
  VVal.quiet q fun m F σ tt c1 c2 => by
    obtain ⟨e', inf, h3, h4, h5⟩ := elemSize_some hs
    have hix := vev_int c1 c2 hi
    have := vev_rel c1 c2 hx
    generalize hv : ev tt x = v at this
    cases this with
    | p hr =>
      cases hr with
      | nil => exact absurd h1 (by simp only [Int.ofNat_zero] at *; omega)
      | room => exact absurd h1 (by simp only [Int.ofNat_zero] at *; omega)
      | lst hF hm hw hr hc =>
        rename_i b o g vs ws ro
        refine ⟨.pointer (some ⟨b, o + i.toNat * sz, some g⟩), fun _ => by simp only [aval, aop, h3, hv, hix, h4, h0, h1, and_self, if_true, h5], .p ?_⟩
        refine .cptr hF hm rfl ?_ (RFs.drop _ hr) (all_drop hc _)
        have := takeN_drop (k := i.toNat * sz) hw
        rw [List.length_drop, ← List.drop_drop]
        exact this

theorem vev_vec {Γ : Nat → Option (List Value × TypeId)} {m : Mem} {F : Nat → Prop} {σ : Nat → Value} {t : Tr Value} {b tag off len : Nat} {o : Operand} {e : TypeId} {cs : List FV} {z : Bool} (hx : Ctx Γ m F σ H nx) (hl : RL m F (htag H) σ nx L t) (h : vev Γ L o = some (.vec b tag off len)) (hb : hget H b = some (.vec e cs tag z)) :
    SubOf (σ b) off len (ev t o) := by
  have := vev_rel hx hl h
  generalize ev t o = v at this
  cases this with
  | vec h1 h2 h3 => exact (h3 tag (by simp [htag, hb, HB.tag])).2 rfl

theorem VVal.indexV {t : TypeId} {x ix : Operand} {e : TypeId} {cs : List FV} {b tag off len sz : Nat} {z : Bool} {k : IntKind} {i : Int} (hx : vev E.Γ L x = some (.vec b tag off len)) (hb : hget H b = some (.vec e cs tag z)) (hi : vev E.Γ L ix = some (.p (.int k i)))
    (hs : elemSize E.P t = some sz) (h0 : 0 ≤ i) (h1 : i < len) (q : Q (.eref b tag (off + i.toNat * sz)) H nx) : VVal E w ⟨dst, .indexAddr t x ix, ty, pos, af, gd⟩ L H nx Q :=
  VVal.quiet q fun m F σ tt c1 c2 => by
    obtain ⟨e', inf, h3, h4, h5⟩ := elemSize_some hs
    have hix := vev_int c1 c2 hi
    have hsub := vev_vec c1 c2 hx hb
    obtain ⟨hlt, hr⟩ := c1.hp b _ hb
    rcases hr with ⟨r1, r2, r3⟩ | ⟨c, g, vs, r1, r2, r3, r4, r5, r6, r7⟩
    · rcases r3 with ⟨r3, _⟩ | ⟨b', o', g', r3, _⟩ <;> rw [r3] at hsub <;> simp only [SubOf, nilSlice] at hsub <;> omega
    · rw [r1] at hsub
      simp only [SubOf] at hsub
      refine ⟨.pointer (some ⟨c, off + i.toNat * sz, some g⟩), fun _ => by simp only [aval, aop, h3, hsub, hix, h4, h0, h1, and_self, if_true, h5], .eref hlt rfl fun n hn => ?_⟩
      simp only [htag, hb, HB.tag, Option.map_some, Option.some.injEq, Tg.vec.injEq] at hn
      exact ⟨by omega, fun _ => ⟨c, tag, g, r1, rfl⟩⟩

/-! ## Lengths -/
theorem VVal.lenF {x : Operand} {t e e' : TypeId} {cs : List FV} {n : Nat} (hx : vev E.Γ L x = some (.p (.lst e cs n))) (ht : E.P.underlying t = some (.slice e')) (q : Q (.p (.int .i64 n)) H nx) :
    VVal E w ⟨dst, .call { callee := .builtin .len, args := #[x], argTypes := #[t] }, ty, pos, af, gd⟩ L H nx Q :=
  VVal.quiet q fun m F σ tt c1 c2 => by
    have := vev_rel c1 c2 hx
    generalize hv : ev tt x = v at this
    refine ⟨.int .i64 n, fun _ => ?_, .p (.int _ _)⟩
    have hg : v = .slice none 0 0 ∧ n = 0 ∨ ∃ a g, v = .slice a n g := by
      cases this with
      | p hr =>
        cases hr with
        | nil => exact .inl ⟨rfl, rfl⟩
        | room => exact .inr ⟨_, _, rfl⟩
        | lst => exact .inr ⟨_, _, rfl⟩
    rcases hg with ⟨rfl, rfl⟩ | ⟨a, g, rfl⟩ <;> simp [aval, aop, alen, ht, hv]

theorem VVal.lenV {x : Operand} {t e e' : TypeId} {cs : List FV} {b tag off len : Nat} {z : Bool} (hx : vev E.Γ L x = some (.vec b tag off len)) (hb : hget H b = some (.vec e cs tag z)) (ht : E.P.underlying t = some (.slice e')) (q : Q (.p (.int .i64 len)) H nx) :
    VVal E w ⟨dst, .call { callee := .builtin .len, args := #[x], argTypes := #[t] }, ty, pos, af, gd⟩ L H nx Q :=
  VVal.quiet q fun m F σ tt c1 c2 => by
    have hsub := vev_vec c1 c2 hx hb
    obtain ⟨hlt, hr⟩ := c1.hp b _ hb
    refine ⟨.int .i64 len, fun _ => ?_, .p (.int _ _)⟩
    have hg : ∃ a g, ev tt x = .slice a len g := by
      rcases hr with ⟨r1, r2, r3⟩ | ⟨c, g, vs, r1, r2, r3, r4, r5, r6, r7⟩
      · rcases r3 with ⟨r3, _⟩ | ⟨b', o', g', r3, _⟩ <;> rw [r3] at hsub <;> simp only [SubOf, nilSlice] at hsub <;> obtain ⟨h1, h2, h3⟩ := hsub <;> subst h3 <;> exact ⟨_, _, h1⟩
      · rw [r1] at hsub
        exact ⟨_, _, hsub⟩
    obtain ⟨a, g, hg⟩ := hg
    simp [aval, aop, alen, ht, hg]

theorem VVal.lenS {x : Operand} {t : TypeId} {s : ByteArray} (hx : vev E.Γ L x = some (.p (.str s))) (ht : E.P.underlying t = some .string) (q : Q (.p (.int .i64 s.size)) H nx) :
    VVal E w ⟨dst, .call { callee := .builtin .len, args := #[x], argTypes := #[t] }, ty, pos, af, gd⟩ L H nx Q :=
  VVal.quiet q fun m F σ tt c1 c2 => ⟨.int .i64 s.size, fun _ => by simp [aval, aop, alen, ht, vev_str c1 c2 hx], .p (.int _ _)⟩

/-! ## Boxes -/
theorem RP.notTup_cell {m : Mem} {F : Nat → Prop} {T : Nat → Option Tg} {σ : Nat → Value} {n : Nat} {x : PV} {v : Value} (hn : notTup x) (h : RP m F T σ n x v) : RPs m F T σ n (pcells x) v.cells.toList ∧ v.cells.toList.all isCell = true := pcells_rel hn h

theorem alloc_new {Γ : Nat → Option (List Value × TypeId)} {m : Mem} {F : Nat → Prop} {σ : Nat → Value} {e : TypeId} {cs : List PV} {vs : List Value} (h : Ctx Γ m F σ H nx) (hr : RPs m F (htag H) σ nx cs vs) (hc : vs.all isCell = true) :
    Ctx Γ (m.alloc (.cells vs e 0 false)) F (upd σ nx (.pointer (some ⟨m.size, 0, none⟩))) ((nx, .box e cs) :: H) (nx + 1) ∧
    Step m F σ H nx (m.alloc (.cells vs e 0 false)) F (upd σ nx (.pointer (some ⟨m.size, 0, none⟩))) ((nx, .box e cs) :: H) (nx + 1) ∧ Quiet m (m.alloc (.cells vs e 0 false)) := by
  refine h.new (by simp [Mem.alloc]) (fun c hc => by rw [Mem.get_alloc, if_neg (by omega)]) (by simp only [Mem.alloc]; omega) (fun c hc => by simp only [blkOf, Option.some.injEq] at hc; omega) ?_
  refine ⟨m.size, vs, rfl, by simp [Mem.alloc], fun hf => Nat.lt_irrefl _ (h.fr _ hf), by rw [Mem.get_alloc, if_pos rfl], ?_, hc⟩
  exact hr.mono (fun c hf => ⟨hf, by rw [Mem.get_alloc, if_neg (by have := h.fr c hf; omega)]⟩) (new_names (Γ := Γ) (m := m) (F := F) _ _) (Nat.le_succ _)

theorem VVal.box {e : TypeId} {x : Operand} {r : PV} (hx : vev E.Γ L x = some r) (hn : notTup r) (q : Q (.ref nx 0) ((nx, .box e (pcells r)) :: H) (nx + 1)) : VVal E w ⟨dst, .box e x, ty, pos, af, gd⟩ L H nx Q := by
  intro m F σ t h1 h2
  obtain ⟨h3, h4⟩ := pcells_rel hn (vev_rel h1 h2 hx)
  obtain ⟨c1, c2, c3⟩ := alloc_new (e := e) h1 h3 h4
  refine AVal.op (v := .pointer (some ⟨m.size, 0, none⟩)) (fun _ => ?_) ⟨_, _, _, F, _, q, c1, ?_, c2, fun _ => c3⟩
  · simp only [aval, aop, h4, if_true]
  · exact .ref (Nat.lt_succ_self _) rfl fun _ => ⟨m.size, upd_same _ _ _, rfl⟩

theorem RPs.zero {m : Mem} {F : Nat → Prop} {T : Nat → Option Tg} {σ : Nat → Value} {n : Nat} {z : List Value} (h : z.all Am.plainCell = true) : RPs m F T σ n (z.map fun v => .p (cellFV v)) z := by
  have := RPs.ofRFs (T := T) (σ := σ) (n := n) (cellFVs_rel (m := m) (F := F) h)
  rw [List.map_map] at this
  exact this

theorem VVal.alloc {e : TypeId} {z : List Value} (hz : zeroCellsOf E.P e = some z) (q : Q (.ref nx 0) ((nx, .box e (z.map fun v => .p (cellFV v))) :: H) (nx + 1)) : VVal E w ⟨dst, .alloc e, ty, pos, af, gd⟩ L H nx Q := by
  intro m F σ t h1 h2
  obtain ⟨_, _, _, _, _, hp⟩ := zeroCellsOf_some hz
  obtain ⟨c1, c2, c3⟩ := alloc_new (e := e) h1 (RPs.zero hp) (all_plain_isCell hp)
  refine AVal.op (v := .pointer (some ⟨m.size, 0, none⟩)) (fun _ => ?_) ⟨_, _, _, F, _, q, c1, ?_, c2, fun _ => c3⟩
  · simp only [aval, aop, hz, Option.map_some]
  · exact .ref (Nat.lt_succ_self _) rfl fun _ => ⟨m.size, upd_same _ _ _, rfl⟩

theorem splice_len (l : List Value) (vs : List Value) (o : Nat) : (splice vs o l).length = vs.length := splice_length l vs o

theorem VVal.storeB {t : TypeId} {a x : Operand} {b off : Nat} {e : TypeId} {cs : List PV} {r : PV} {i : TypeInfo} (ha : vev E.Γ L a = some (.ref b off)) (hx : vev E.Γ L x = some r) (hb : hget H b = some (.box e cs)) (hn : notTup r)
    (hi : E.P.info? t = some i) (hl : (pcells r).length = i.size) (h0 : 0 < i.size) (hle : off + i.size ≤ cs.length) (q : Q (.tup []) (hput H b (.box e (psplice cs off (pcells r)))) nx) : VVal E true ⟨dst, .store t a x, ty, pos, af, gd⟩ L H nx Q := by
  intro m F σ tt h1 h2
  obtain ⟨c, h3, h4⟩ := vev_ref h1 h2 ha hb
  obtain ⟨h5, h6⟩ := pcells_rel hn (vev_rel h1 h2 hx)
  obtain ⟨hlt, c', vs, r1, r2, r3, r4, r5, r6⟩ := h1.hp b _ hb
  rw [h4] at r1
  cases r1
  have hlen := h5.length
  have hlen2 := r5.length
  have hst : astore E.P t ⟨c, off, none⟩ (ev tt x) m = some (m.put c (.cells (splice vs off (ev tt x).cells.toList) e 0 false)) := by
    unfold astore storeRow
    rw [hi]
    simp only [r4]
    rw [if_pos (by simpa using hlen.symm.trans hl), if_pos]
    simp only [agen, Option.getD_none, beq_self_eq_true, Bool.true_and, Bool.and_eq_true, decide_eq_true_eq]
    refine ⟨⟨?_, ?_⟩, h6⟩
    · rw [← hlen, hl, ← hlen2]; exact ⟨trivial, hle⟩
    · rw [← hlen, hl]; exact h0
  have hput' : ∀ d, c ≠ d → (m.put c (.cells (splice vs off (ev tt x).cells.toList) e 0 false)).get d = m.get d := fun d hd => by rw [Mem.get_put, if_neg hd]
  obtain ⟨c1, c2⟩ := h1.change (m' := m.put c (.cells (splice vs off (ev tt x).cells.toList) e 0 false)) (x' := .box e (psplice cs off (pcells r))) (s' := σ b) hb trivial (fun _ => rfl) (Nat.le_refl _)
    (fun d _ hd => hput' d fun e => hd (by rw [h4, e]; rfl)) (fun k k1 k2 k3 => by
      have := k3 c (by rw [h4]; rfl)
      simp only [Mem.put]; omega) (fun d hd => .inl hd) (by
      refine ⟨c, splice vs off (ev tt x).cells.toList, h4, r2, r3, by rw [Mem.get_put, if_pos rfl], ?_, all_splice _ r6 h6⟩
      refine (RPs.splice off r5 h5).mono (fun d hd => ⟨hd, hput' d fun e => r3 (e ▸ hd)⟩) (change_names (x' := .box e (psplice cs off (pcells r))) hb trivial fun _ => rfl) (Nat.le_refl _))
  refine AVal.op (v := undef) (fun _ => ?_) ⟨_, _, _, F, _, q, c1, .tup .nil, c2, fun h => by cases h⟩
  simp only [aval, aop, h3, hst, Option.map_some]

theorem VVal.storeV {t : TypeId} {a x : Operand} {b tag off : Nat} {e : TypeId} {cs fs : List FV} {z : Bool} {r : PV} {i : TypeInfo} (ha : vev E.Γ L a = some (.eref b tag off)) (hx : vev E.Γ L x = some r) (hb : hget H b = some (.vec e cs tag z)) (hn : notTup r)
    (hf : pcells r = fs.map .p) (hi : E.P.info? t = some i) (hl : fs.length = i.size) (h0 : 0 < i.size) (hle : off + i.size ≤ cs.length) (q : Q (.tup []) (hput H b (.vec e (psplice cs off fs) tag z)) nx) : VVal E true ⟨dst, .store t a x, ty, pos, af, gd⟩ L H nx Q := by
  intro m F σ tt h1 h2
  obtain ⟨c, k, g, h3, h4⟩ := vev_eref h1 h2 ha hb
  obtain ⟨h5, h6⟩ := pcells_rel hn (vev_rel h1 h2 hx)
  rw [hf] at h5
  obtain ⟨hlt, hr⟩ := h1.hp b _ hb
  rcases hr with ⟨r1, r2, r3⟩ | ⟨c', g', vs, r1, r2, r3, r4, r5, r6, r7⟩
  · rcases r3 with ⟨r3, _⟩ | ⟨b', o', g', r3, _⟩ <;> rw [r3] at h4 <;> cases h4
  rw [h4] at r1
  cases r1
  have hlen := h5.length
  rw [List.length_map] at hlen
  have hlen2 := r5.length
  have hst : astore E.P t ⟨c, off, some g⟩ (ev tt x) m = some (m.put c (.cells (splice vs off (ev tt x).cells.toList) e g false)) := by
    unfold astore storeRow
    rw [hi]
    simp only [r4]
    rw [if_pos (by simpa using hlen.symm.trans hl), if_pos]
    simp only [agen, Option.getD_some, beq_self_eq_true, Bool.true_and, Bool.and_eq_true, decide_eq_true_eq]
    refine ⟨⟨?_, ?_⟩, h6⟩
    · rw [← hlen, hl, ← hlen2]; exact ⟨trivial, hle⟩
    · rw [← hlen, hl]; exact h0
  have hput' : ∀ d, c ≠ d → (m.put c (.cells (splice vs off (ev tt x).cells.toList) e g false)).get d = m.get d := fun d hd => by rw [Mem.get_put, if_neg hd]
  obtain ⟨c1, c2⟩ := h1.change (m' := m.put c (.cells (splice vs off (ev tt x).cells.toList) e g false)) (x' := .vec e (psplice cs off fs) tag z) (s' := σ b) hb (Nat.le_refl _) (fun _ => rfl) (Nat.le_refl _)
    (fun d _ hd => hput' d fun e => hd (by rw [h4, e]; rfl)) (fun k k1 k2 k3 => by
      have := k3 c (by rw [h4]; rfl)
      simp only [Mem.put]; omega) (fun d hd => .inl hd) (by
      refine .inr ⟨c, g, splice vs off (ev tt x).cells.toList, h4, r2, r3, by rw [Mem.get_put, if_pos rfl], ?_, all_splice _ r6 h6, r7⟩
      exact (RFs.splice off r5 (RFs.ofRPs h5)).mono (fun d hd => ⟨hd, hput' d fun e => r3 (e ▸ hd)⟩))
  refine AVal.op (v := undef) (fun _ => ?_) ⟨_, _, _, F, _, q, c1, .tup .nil, c2, fun h => by cases h⟩
  simp only [aval, aop, h3, hst, Option.map_some]

end Go.Vm
