/-
  The values' layer: words of bits. No condition. Nothing of one program stands here.
-/
import Derived.Test.YtmfnchgkffhpfaaDoorVm15
namespace Go.Vm
open Go.Am
variable {E : Env} {L : Frame} {H : Heap} {nx : Nat} {Q : PV → Heap → Nat → Prop} {w : Bool}
variable {dst : Option Tmp} {ty : TypeId} {pos : String} {af : Array Edge} {gd : Option (Nat × Bool)}

theorem ofInt_nat (m : Nat) (h : m < 2 ^ 64) : (BitVec.ofInt 64 (m : Int)).toNat = m := by
  rw [BitVec.toNat_ofInt, Int.emod_eq_of_lt (by omega) (Int.ofNat_lt.2 h)]
  simp
theorem wrap_u64 {n : Int} (h0 : 0 ≤ n) (h : n < 18446744073709551616) : IntKind.u64.wrap n = n := by
  have e : IntKind.u64.wrap n = n % 2^64 := by
    simp [IntKind.wrap, IntKind.signed, IntKind.bits]
    try omega
  rw [e]
  omega

/-- bits of two naturals that fit -/
theorem vint_and {k : IntKind} {m n : Nat} (hk : k = .i64 ∧ m < 2 ^ 63 ∨ k = .u64 ∧ m < 2 ^ 64) (hn : n < 2 ^ 64) : vint .and k m n = some (.int k ((m &&& n : Nat) : Int)) := by
  have hm : m < 2 ^ 64 := by rcases hk with ⟨_, h⟩ | ⟨_, h⟩ <;> omega
  have e : (BitVec.ofInt 64 (m : Int) &&& BitVec.ofInt 64 (n : Int)).toNat = m &&& n := by rw [BitVec.toNat_and, ofInt_nat m hm, ofInt_nat n hn]
  have hle : m &&& n ≤ m := Nat.and_le_left
  rcases hk with ⟨rfl, h⟩ | ⟨rfl, h⟩
  · show some (FV.int .i64 (IntKind.i64.wrap ((BitVec.ofInt 64 (m : Int) &&& BitVec.ofInt 64 (n : Int)).toNat : Int))) = _
    rw [e, wrap_i64 ⟨by omega, by omega⟩]
  · show some (FV.int .u64 (IntKind.u64.wrap ((BitVec.ofInt 64 (m : Int) &&& BitVec.ofInt 64 (n : Int)).toNat : Int))) = _
    rw [e, wrap_u64 (by omega) (by omega)]
theorem vint_or {m n : Nat} (hm : m < 2 ^ 64) (hn : n < 2 ^ 64) : vint .or .u64 m n = some (.int .u64 ((m ||| n : Nat) : Int)) := by
  have e : (BitVec.ofInt 64 (m : Int) ||| BitVec.ofInt 64 (n : Int)).toNat = m ||| n := by rw [BitVec.toNat_or, ofInt_nat m hm, ofInt_nat n hn]
  have hlt : m ||| n < 2 ^ 64 := Nat.or_lt_two_pow hm hn
  show some (FV.int .u64 (IntKind.u64.wrap ((BitVec.ofInt 64 (m : Int) ||| BitVec.ofInt 64 (n : Int)).toNat : Int))) = _
  rw [e, wrap_u64 (by omega) (by omega)]
theorem vint_andNot {m n : Nat} (hm : m < 2 ^ 64) (hn : n < 2 ^ 64) : vint .andNot .u64 m n = some (.int .u64 ((m ^^^ (m &&& n) : Nat) : Int)) := by
  have e : (BitVec.ofInt 64 (m : Int) &&& ~~~ BitVec.ofInt 64 (n : Int)).toNat = m ^^^ (m &&& n) := by
    have hx : BitVec.ofInt 64 (m : Int) &&& ~~~ BitVec.ofInt 64 (n : Int) = BitVec.ofInt 64 (m : Int) ^^^ (BitVec.ofInt 64 (m : Int) &&& BitVec.ofInt 64 (n : Int)) := by
      ext i hi
      simp only [BitVec.getElem_and, BitVec.getElem_not, BitVec.getElem_xor]
      cases (BitVec.ofInt 64 (m : Int))[i] <;> cases (BitVec.ofInt 64 (n : Int))[i] <;> rfl
    rw [hx, BitVec.toNat_xor, BitVec.toNat_and, ofInt_nat m hm, ofInt_nat n hn]
  have hlt : m ^^^ (m &&& n) < 2 ^ 64 := Nat.xor_lt_two_pow hm (Nat.lt_of_le_of_lt Nat.and_le_left hm)
  show some (FV.int .u64 (IntKind.u64.wrap ((BitVec.ofInt 64 (m : Int) &&& ~~~ BitVec.ofInt 64 (n : Int)).toNat : Int))) = _
  rw [e, wrap_u64 (by omega) (by omega)]

theorem VVal.and1 {t t2 : TypeId} {x y : Operand} {m : Nat} (hx : vev E.Γ L x = some (.p (.int .i64 (m : Int)))) (hy : vev E.Γ L y = some (.p (.int .i64 1))) (hm : m < 2 ^ 63) (q : Q (.p (.int .i64 ((m % 2 : Nat) : Int))) H nx) :
    VVal E w ⟨dst, .binOp .and t x y t2, ty, pos, af, gd⟩ L H nx Q := VVal.int hx hy (r := .int .i64 ((m % 2 : Nat) : Int)) (by
      have := vint_and (k := .i64) (m := m) (n := 1) (.inl ⟨rfl, hm⟩) (by decide)
      rw [Nat.and_one_is_mod] at this
      exact this) q
theorem VVal.and1U {t t2 : TypeId} {x y : Operand} {m : Nat} (hx : vev E.Γ L x = some (.p (.int .u64 (m : Int)))) (hy : vev E.Γ L y = some (.p (.int .u64 1))) (hm : m < 2 ^ 64) (q : Q (.p (.int .u64 ((m % 2 : Nat) : Int))) H nx) :
    VVal E w ⟨dst, .binOp .and t x y t2, ty, pos, af, gd⟩ L H nx Q := VVal.int hx hy (r := .int .u64 ((m % 2 : Nat) : Int)) (by
      have := vint_and (k := .u64) (m := m) (n := 1) (.inr ⟨rfl, hm⟩) (by decide)
      rw [Nat.and_one_is_mod] at this
      exact this) q
theorem VVal.and1B {t t2 : TypeId} {x y : Operand} {m : Nat} (hx : vev E.Γ L x = some (.p (.int .u8 (m : Int)))) (hy : vev E.Γ L y = some (.p (.int .u8 1))) (hm : m < 256) (q : Q (.p (.int .u8 ((m % 2 : Nat) : Int))) H nx) :
    VVal E w ⟨dst, .binOp .and t x y t2, ty, pos, af, gd⟩ L H nx Q := VVal.int hx hy (r := .int .u8 ((m % 2 : Nat) : Int)) (by
      have e1 : (BitVec.ofInt 8 (m : Int)).toNat = m := by
        rw [BitVec.toNat_ofInt, Int.emod_eq_of_lt (by omega) (Int.ofNat_lt.2 hm)]; simp
      have e : (BitVec.ofInt 8 (m : Int) &&& BitVec.ofInt 8 1).toNat = m % 2 := by
        rw [BitVec.toNat_and, e1, show (BitVec.ofInt 8 1).toNat = 1 by decide, Nat.and_one_is_mod]
      show some (FV.int .u8 (IntKind.u8.wrap ((BitVec.ofInt 8 (m : Int) &&& BitVec.ofInt 8 1).toNat : Int))) = _
      rw [e]
      have e2 : IntKind.u8.wrap ((m % 2 : Nat) : Int) = ((m % 2 : Nat) : Int) % 256 := by
        simp [IntKind.wrap, IntKind.signed, IntKind.bits]
      rw [e2, Int.emod_eq_of_lt (by omega) (by omega)]) q
theorem VVal.andU {t t2 : TypeId} {x y : Operand} {m n : Nat} (hx : vev E.Γ L x = some (.p (.int .u64 (m : Int)))) (hy : vev E.Γ L y = some (.p (.int .u64 (n : Int)))) (hm : m < 2 ^ 64) (hn : n < 2 ^ 64) (q : Q (.p (.int .u64 ((m &&& n : Nat) : Int))) H nx) :
    VVal E w ⟨dst, .binOp .and t x y t2, ty, pos, af, gd⟩ L H nx Q := VVal.int hx hy (vint_and (.inr ⟨rfl, hm⟩) hn) q
theorem VVal.orU {t t2 : TypeId} {x y : Operand} {m n : Nat} (hx : vev E.Γ L x = some (.p (.int .u64 (m : Int)))) (hy : vev E.Γ L y = some (.p (.int .u64 (n : Int)))) (hm : m < 2 ^ 64) (hn : n < 2 ^ 64) (q : Q (.p (.int .u64 ((m ||| n : Nat) : Int))) H nx) :
    VVal E w ⟨dst, .binOp .or t x y t2, ty, pos, af, gd⟩ L H nx Q := VVal.int hx hy (vint_or hm hn) q
theorem VVal.andNotU {t t2 : TypeId} {x y : Operand} {m n : Nat} (hx : vev E.Γ L x = some (.p (.int .u64 (m : Int)))) (hy : vev E.Γ L y = some (.p (.int .u64 (n : Int)))) (hm : m < 2 ^ 64) (hn : n < 2 ^ 64) (q : Q (.p (.int .u64 ((m ^^^ (m &&& n) : Nat) : Int))) H nx) :
    VVal E w ⟨dst, .binOp .andNot t x y t2, ty, pos, af, gd⟩ L H nx Q := VVal.int hx hy (vint_andNot hm hn) q
theorem VVal.shlOneU {t t2 : TypeId} {x y : Operand} {k' : IntKind} {n : Nat} (hx : vev E.Γ L x = some (.p (.int .u64 1))) (hy : vev E.Γ L y = some (.p (.int k' (n : Int)))) (hn : n < 64) (q : Q (.p (.int .u64 ((2 ^ n : Nat) : Int))) H nx) :
    VVal E w ⟨dst, .binOp .shl t x y t2, ty, pos, af, gd⟩ L H nx Q := by
  refine VVal.shl hx hy (by omega) ?_
  have h1 : (min (n : Int).toNat IntKind.u64.bits) = n := by simp only [Int.toNat_natCast, IntKind.bits]; omega
  have h2 : (2 : Nat) ^ n ≤ 2 ^ 63 := Nat.pow_le_pow_right (by omega) (by omega)
  have h3 : (1 : Int) * 2 ^ n = ((2 ^ n : Nat) : Int) := by rw [Int.one_mul]; exact (Int.natCast_pow 2 n).symm
  have h4 : ((2 ^ n : Nat) : Int) < 18446744073709551616 := Int.ofNat_lt.2 (Nat.lt_of_le_of_lt h2 (by decide))
  rw [h1, h3, wrap_u64 (Int.natCast_nonneg _) h4]
  exact q
/-- the remainder of naturals -/
theorem VVal.remN {t t2 : TypeId} {x y : Operand} {k : IntKind} {m n : Nat} (hx : vev E.Γ L x = some (.p (.int k (m : Int)))) (hy : vev E.Γ L y = some (.p (.int k (n : Int)))) (hn : 0 < n) (q : Q (.p (.int k ((m % n : Nat) : Int))) H nx) :
    VVal E w ⟨dst, .binOp .rem t x y t2, ty, pos, af, gd⟩ L H nx Q := VVal.int hx hy (r := .int k ((m % n : Nat) : Int)) (by
      simp only [vint]
      rw [if_neg (by omega), Int.tmod_eq_emod_of_nonneg (by omega), Int.natCast_emod]) q
theorem VVal.remI {t t2 : TypeId} {x y : Operand} {k : IntKind} {a c : Int} (hx : vev E.Γ L x = some (.p (.int k a))) (hy : vev E.Γ L y = some (.p (.int k c))) (ha : 0 ≤ a) (hc : 0 < c) (q : Q (.p (.int k (a % c))) H nx) :
    VVal E w ⟨dst, .binOp .rem t x y t2, ty, pos, af, gd⟩ L H nx Q := VVal.int hx hy (r := .int k (a % c)) (by
      simp only [vint]
      rw [if_neg (by omega), Int.tmod_eq_emod_of_nonneg ha]) q
theorem VVal.quoI {t t2 : TypeId} {x y : Operand} {a c : Int} (hx : vev E.Γ L x = some (.p (.int .i64 a))) (hy : vev E.Γ L y = some (.p (.int .i64 c))) (ha : 0 ≤ a ∧ a < 9223372036854775808) (hc : 0 < c) (q : Q (.p (.int .i64 (a / c))) H nx) :
    VVal E w ⟨dst, .binOp .quo t x y t2, ty, pos, af, gd⟩ L H nx Q := VVal.int hx hy (r := .int .i64 (a / c)) (by
      simp only [vint]
      have h1 : 0 ≤ a / c := Int.ediv_nonneg ha.1 (by omega)
      have h2 : a / c ≤ a := Int.ediv_le_self c ha.1
      rw [if_neg (by omega), Int.tdiv_eq_ediv_of_nonneg ha.1, wrap_i64 ⟨by omega, by omega⟩]) q
theorem VVal.convI {s d : TypeId} {x : Operand} {k' : IntKind} {n : Int} {sd : TypeDesc} (hx : vev E.Γ L x = some (.p (.int k' n))) (hs : E.P.underlying s = some sd) (hd : E.P.underlying d = some (.int .i64)) (hn : -9223372036854775808 ≤ n ∧ n < 9223372036854775808) (q : Q (.p (.int .i64 n)) H nx) :
    VVal E w ⟨dst, .convert s d x, ty, pos, af, gd⟩ L H nx Q := VVal.convInt hx hs hd (by rw [wrap_i64 hn]; exact q)
/-- a small natural converted to int -/
theorem VVal.convN {s d : TypeId} {x : Operand} {k' : IntKind} {n : Nat} {sd : TypeDesc} (hx : vev E.Γ L x = some (.p (.int k' (n : Int)))) (hs : E.P.underlying s = some sd) (hd : E.P.underlying d = some (.int .i64)) (hn : n < 2 ^ 63) (q : Q (.p (.int .i64 (n : Int))) H nx) :
    VVal E w ⟨dst, .convert s d x, ty, pos, af, gd⟩ L H nx Q := VVal.convInt hx hs hd (by rw [wrap_i64 ⟨by omega, by omega⟩]; exact q)

section
variable {bn : Nat} {ops : Array Oper} {op : Op} {l : List Oper} {i : Nat} {R : Frame → Heap → Nat → Prop}
/-- a guard that is a bool of its own -/
theorem VOps.guardB {j d : Nat} {want : Bool} (b : Bool) (hd : (ops[j]?).bind (·.dst) = some d) (hb : lget L d = some (.p (.bool b)))
    (ht : b = true → VOps E bn ops (⟨dst, op, ty, pos, af, some (j, want)⟩ :: l) ((d, .p (.bool true)) :: L) H nx R) (hf : b = false → VOps E bn ops (⟨dst, op, ty, pos, af, some (j, want)⟩ :: l) ((d, .p (.bool false)) :: L) H nx R) :
    VOps E bn ops (⟨dst, op, ty, pos, af, some (j, want)⟩ :: l) L H nx R :=
  VOps.guard (p := b = true) hd (by rw [hb]; cases b <;> rfl) ht (fun h => hf (by simpa using h))
theorem VOpsD.guardB {j d : Nat} {want : Bool} (b : Bool) (hd : (ops[j]?).bind (·.dst) = some d) (hb : lget L d = some (.p (.bool b)))
    (ht : b = true → VOpsD E bn ops i (⟨dst, op, ty, pos, af, some (j, want)⟩ :: l) ((d, .p (.bool true)) :: L) H nx R) (hf : b = false → VOpsD E bn ops i (⟨dst, op, ty, pos, af, some (j, want)⟩ :: l) ((d, .p (.bool false)) :: L) H nx R) :
    VOpsD E bn ops i (⟨dst, op, ty, pos, af, some (j, want)⟩ :: l) L H nx R :=
  VOpsD.guard (p := b = true) hd (by rw [hb]; cases b <;> rfl) ht (fun h => hf (by simpa using h))
end
theorem undef_wanted {Γ : Nat → Option (List Value × TypeId)} {m : Mem} {F : Nat → Prop} {T : Nat → Option Tg} {σ : Nat → Value} {t : Tr Value} {ops : Array Oper} {o : Oper} {j d : Nat} {want : Bool} (hl : RL m F T σ nx L t) (hg : o.guard = some (j, want)) (hd : (ops[j]?).bind (·.dst) = some d) (hb : lget L d = some (.tup [])) :
    Region.wanted o (ayielded ops t) = false := by
  have h := hl d _ hb
  generalize hv : tget t d = v at h
  cases h with
  | tup h =>
    cases h
    unfold Region.wanted
    rw [hg]
    simp only [ayielded, hd, hv]
    rfl
section
variable {bn : Nat} {ops : Array Oper} {op : Op} {l : List Oper} {i : Nat} {R : Frame → Heap → Nat → Prop}
/-- a guard whose own operation was passed over -/
theorem VOps.dropU {j d : Nat} {want : Bool} (hd : (ops[j]?).bind (·.dst) = some d) (hb : lget L d = some (.tup [])) (h : VOps E bn ops l (lput L dst (.tup [])) H nx R) : VOps E bn ops (⟨dst, op, ty, pos, af, some (j, want)⟩ :: l) L H nx R := by
  intro B hB m F σ t h1 h2 h3
  exact AOps.skip (undef_wanted (Γ := E.Γ) h2 rfl hd hb) (h B hB m F σ _ h1 (h2.put (.tup .nil)) h3)
theorem VOpsD.dropU {j d : Nat} {want : Bool} (hd : (ops[j]?).bind (·.dst) = some d) (hb : lget L d = some (.tup [])) (h : VOpsD E bn ops (i + 1) l (lput L dst (.tup [])) H nx R) : VOpsD E bn ops i (⟨dst, op, ty, pos, af, some (j, want)⟩ :: l) L H nx R := by
  intro B hB m F σ t h1 h2 h3
  exact AOpsD.skip (undef_wanted (Γ := E.Γ) h2 rfl hd hb) (h B hB _ F σ _ (h1.at _) (RL.at (Γ := E.Γ) _ (h2.put (.tup .nil))) (h3.trans (Step.at0 _ _ _ _ _ _ (Nat.le_refl _))))
end

theorem room_ok {n k b : Nat} (h1 : n + k < 1000000) (h2 : b < 1000000) : (n + k) * (b + 1) ≤ room := Nat.le_trans (Nat.mul_le_mul (by omega : n + k ≤ 1000000) (by omega : b + 1 ≤ 1000000)) (by decide)
/-- append(l, r...): under a new name -/
theorem VVal.appendL {α : Type} {_ : Enc α} {l r : List α} {s x : Operand} {sT xT e e2 : TypeId} {xd : TypeDesc} {i : TypeInfo} {b n k : Nat} {z : Bool} (hs : vev E.Γ L s = some (.vec b n 0 n)) (hb : hget H b = some (.vec e (cells l) n z)) (hx : vev E.Γ L x = some (.p (.lst e2 (cells r) k))) (hn : l.length = n) (hk : r.length = k)
    (hsT : E.P.underlying sT = some (.slice e)) (hxT : E.P.underlying xT = some xd) (hd : ∀ k, xd ≠ .int k) (hi : E.P.info? e = some i) (hsz : Enc.size α = i.size) (hzs : zeroSized i = true) (h0 : 0 < i.size) (hby : i.bytes < 1000000) (hlen : l.length + r.length < 1000000)
    (q : Q (.vec nx (l.length + r.length) 0 (l.length + r.length)) ((nx, .vec e (cells (l ++ r)) (l.length + r.length) z) :: hdel H b) (nx + 1)) : VVal E true ⟨dst, .call { callee := .builtin .append, args := #[s, x], argTypes := #[sT, xT] }, ty, pos, af, gd⟩ L H nx Q := by
  subst hn; subst hk
  refine appendMove' (i := i) hs hb (SlC.lst hx (by rw [cells_length, hsz])) hsT hxT hd hi hzs (room_ok hlen hby) (by rw [cells_length, hsz]) h0 ?_
  rw [← cells_append]
  exact q
theorem VVal.appendL0 {α : Type} {_ : Enc α} {r : List α} {s x : Operand} {sT xT e e2 : TypeId} {xd : TypeDesc} {i : TypeInfo} {b k : Nat} {z : Bool} (hs : vev E.Γ L s = some (.vec b 0 0 0)) (hb : hget H b = some (.vec e [] 0 z)) (hx : vev E.Γ L x = some (.p (.lst e2 (cells r) k))) (hk : r.length = k)
    (hsT : E.P.underlying sT = some (.slice e)) (hxT : E.P.underlying xT = some xd) (hd : ∀ k, xd ≠ .int k) (hi : E.P.info? e = some i) (hsz : Enc.size α = i.size) (hzs : zeroSized i = true) (h0 : 0 < i.size) (hby : i.bytes < 1000000) (hlen : r.length < 1000000)
    (q : Q (.vec nx r.length 0 r.length) ((nx, .vec e (cells r) r.length z) :: hdel H b) (nx + 1)) : VVal E true ⟨dst, .call { callee := .builtin .append, args := #[s, x], argTypes := #[sT, xT] }, ty, pos, af, gd⟩ L H nx Q := by
  refine VVal.appendL (l := ([] : List α)) hs hb hx rfl hk hsT hxT hd hi hsz hzs h0 hby (by simpa using hlen) ?_
  simpa using q

theorem VVal.lenNil {x : Operand} {t e' : TypeId} (hx : vev E.Γ L x = some (.p (.val (.slice none 0 0)))) (ht : E.P.underlying t = some (.slice e')) (q : Q (.p (.int .i64 0)) H nx) :
    VVal E w ⟨dst, .call { callee := .builtin .len, args := #[x], argTypes := #[t] }, ty, pos, af, gd⟩ L H nx Q :=
  VVal.quiet q fun m F σ tt c1 c2 => by
    have := vev_rel c1 c2 hx
    generalize hv : ev tt x = v at this
    refine ⟨.int .i64 0, fun _ => ?_, .p (.int _ _)⟩
    cases this with | p h => cases h; simp [aval, aop, alen, ht, hv]
/-- an operation by its slot -/
theorem VOps.atOp (d : Nat) {bn : Nat} {ops : Array Oper} {op : Op} {l : List Oper} {R : Frame → Heap → Nat → Prop} (h : VOps E bn ops (⟨some d, op, ty, pos, af, gd⟩ :: l) L H nx R) : VOps E bn ops (⟨some d, op, ty, pos, af, gd⟩ :: l) L H nx R := h
theorem VOpsD.atOp (d : Nat) {bn i : Nat} {ops : Array Oper} {op : Op} {l : List Oper} {R : Frame → Heap → Nat → Prop} (h : VOpsD E bn ops i (⟨some d, op, ty, pos, af, gd⟩ :: l) L H nx R) : VOpsD E bn ops i (⟨some d, op, ty, pos, af, gd⟩ :: l) L H nx R := h
/-- a region by its number -/
theorem VWp.at (n : Nat) {bn : Nat} {ops : Array Oper} {b : Bool} {k : Code} {Q : AExit → Frame → Heap → Nat → Prop} (h : VWp E bn (.seq (.region n ops b) k) L H nx Q) : VWp E bn (.seq (.region n ops b) k) L H nx Q := h
theorem VWp.atEnd (n : Nat) {bn : Nat} {ops : Array Oper} {b : Bool} {Q : AExit → Frame → Heap → Nat → Prop} (h : VWp E bn (.region n ops b) L H nx Q) : VWp E bn (.region n ops b) L H nx Q := h
theorem lst_len {α : Type} {_ : Enc α} {e : TypeId} {l : List α} {n : Nat} (h : n = l.length) : (PV.p (.lst e (cells l) n)) = lst e l := by rw [h]
theorem le_dec {a b : Nat} (h : Nat.ble a b = true) : a ≤ b := by simpa using h
theorem lt_dec {a b : Nat} (h : Nat.blt a b = true) : a < b := by simpa using h

end Go.Vm
