/-
  The values' layer: lists of data as cells. No condition. Nothing of one program stands here.
-/
import Derived.Test.YtmfnchgkffhpfaaDoorVm6
namespace Go.Vm
open Go.Am
variable {E : Env} {L : Frame} {H : Heap} {nx : Nat} {Q : PV → Heap → Nat → Prop} {w : Bool}
variable {dst : Option Tmp} {ty : TypeId} {pos : String} {af : Array Edge} {gd : Option (Nat × Bool)}

/-- the element at a place -/
def gi {α : Type} [Inhabited α] (l : List α) (k : Nat) : α := (l[k]?).getD default

def encs {α : Type} (enc : α → List FV) : List α → List FV
  | [] => []
  | a :: l => enc a ++ encs enc l

class Enc (α : Type) extends Inhabited α where
  enc : α → List FV
  size : Nat
  len : ∀ a, (enc a).length = size

section
variable {α : Type} [Enc α]
/-- the cells of a list -/
abbrev cells (l : List α) : List FV := encs Enc.enc l

theorem cells_length (l : List α) : (cells l).length = l.length * Enc.size α := by
  induction l with
  | nil => simp [cells, encs]
  | cons a l ih => simp only [cells, encs, List.length_append, Enc.len, List.length_cons, Nat.succ_mul] at ih ⊢; omega

theorem gi_cons_zero (a : α) (l : List α) : gi (a :: l) 0 = a := rfl
theorem gi_cons_succ (a : α) (l : List α) (k : Nat) : gi (a :: l) (k + 1) = gi l k := rfl

theorem cells_drop : ∀ (l : List α) (k : Nat), k < l.length → (cells l).drop (k * Enc.size α) = Enc.enc (gi l k) ++ cells (l.drop (k + 1))
  | a :: l, 0, _ => by simp [cells, encs, gi]
  | a :: l, k + 1, h => by
    have ih := cells_drop l k (by simpa using h)
    simp only [cells, encs, List.drop_succ_cons, gi_cons_succ] at ih ⊢
    rw [← ih, List.drop_append, Enc.len, List.drop_eq_nil_of_le (by rw [Enc.len, Nat.succ_mul]; omega)]
    simp [Nat.succ_mul]
  | [], _, h => by simp at h

theorem cells_append : ∀ (l r : List α), cells (l ++ r) = cells l ++ cells r
  | [], _ => rfl
  | a :: l, r => by simp only [cells, encs, List.cons_append, List.append_assoc]; rw [← cells_append l r]
end

instance : Enc Int := { default := 0, enc := fun n => [.int .i64 n], size := 1, len := fun _ => rfl }

theorem VVal.indexE {α : Type} {_ : Enc α} {t : TypeId} {x ix : Operand} {e : TypeId} {l : List α} {n : Nat} {k : IntKind} {i : Int} (hx : vev E.Γ L x = some (.p (.lst e (cells l) n))) (hi : vev E.Γ L ix = some (.p (.int k i)))
    (hs : elemSize E.P t = some (Enc.size α)) (h0 : 0 ≤ i) (h1 : i < l.length) (hn : l.length = n) (q : Q (.p (.cptr (Enc.enc (gi l i.toNat) ++ cells (l.drop (i.toNat + 1))))) H nx) : VVal E w ⟨dst, .indexAddr t x ix, ty, pos, af, gd⟩ L H nx Q :=
  VVal.indexF hx hi hs h0 (by rw [← hn]; exact h1) (by rw [cells_drop l i.toNat (by omega)]; exact q)
theorem VVal.indexN {α : Type} {_ : Enc α} {t : TypeId} {x ix : Operand} {e : TypeId} {l : List α} {n : Nat} {k : IntKind} {i : Nat} (hx : vev E.Γ L x = some (.p (.lst e (cells l) n))) (hi : vev E.Γ L ix = some (.p (.int k (i : Int))))
    (hs : elemSize E.P t = some (Enc.size α)) (h1 : i < l.length) (hn : l.length = n) (q : Q (.p (.cptr (Enc.enc (gi l i) ++ cells (l.drop (i + 1))))) H nx) : VVal E w ⟨dst, .indexAddr t x ix, ty, pos, af, gd⟩ L H nx Q :=
  VVal.indexE hx hi hs (by omega) (by omega) hn q
theorem VVal.indexP {α : Type} {_ : Enc α} {t : TypeId} {x ix : Operand} {e : TypeId} {l : List α} {n : Nat} {k : IntKind} {i : Nat} (hx : vev E.Γ L x = some (.p (.lst e (cells l) n))) (hi : vev E.Γ L ix = some (.p (.int k ((i : Int) - 1))))
    (hs : elemSize E.P t = some (Enc.size α)) (h0 : 0 < i) (h1 : i - 1 < l.length) (hn : l.length = n) (q : Q (.p (.cptr (Enc.enc (gi l (i - 1)) ++ cells (l.drop (i - 1 + 1))))) H nx) : VVal E w ⟨dst, .indexAddr t x ix, ty, pos, af, gd⟩ L H nx Q :=
  VVal.indexE hx hi hs (by omega) (by omega) hn (by rw [show ((i : Int) - 1).toNat = i - 1 by omega]; exact q)

/-- a list of data as a frozen slice -/
abbrev lst {α : Type} [Enc α] (e : TypeId) (l : List α) : PV := .p (.lst e (cells l) l.length)

/-! ## Regions, in the form in which they are met -/
section
variable {bn : Nat} {ops : Array Oper} {op : Op} {l : List Oper} {i : Nat} {R : Frame → Heap → Nat → Prop}
theorem VOps.one (h : VVal E true ⟨dst, op, ty, pos, af, none⟩ L H nx fun r H' nx' => VOps E bn ops l (lput L dst r) H' nx' R) : VOps E bn ops (⟨dst, op, ty, pos, af, none⟩ :: l) L H nx R := VOps.cons rfl h
theorem VOpsD.one {w : Bool} (hw : barrier ops i = w) (h : VVal E w ⟨dst, op, ty, pos, af, none⟩ L H nx fun r H' nx' => VOpsD E bn ops (i + 1) l (lput L dst r) H' nx' R) : VOpsD E bn ops i (⟨dst, op, ty, pos, af, none⟩ :: l) L H nx R := VOpsD.cons rfl hw h

theorem VOps.take {j d : Nat} {want : Bool} (hd : (ops[j]?).bind (·.dst) = some d) (hb : lget L d = some (.p (.bool want))) (h : VVal E true ⟨dst, op, ty, pos, af, some (j, want)⟩ L H nx fun r H' nx' => VOps E bn ops l (lput L dst r) H' nx' R) :
    VOps E bn ops (⟨dst, op, ty, pos, af, some (j, want)⟩ :: l) L H nx R := VOps.cons ⟨want, d, hd, hb, by cases want <;> rfl⟩ h
theorem VOps.drop {j d : Nat} {want b : Bool} (hd : (ops[j]?).bind (·.dst) = some d) (hb : lget L d = some (.p (.bool b))) (hne : (b == want) = false) (h : VOps E bn ops l (lput L dst (.tup [])) H nx R) :
    VOps E bn ops (⟨dst, op, ty, pos, af, some (j, want)⟩ :: l) L H nx R := VOps.skip ⟨b, d, hd, hb, hne.symm⟩ h
theorem VOpsD.take {w : Bool} {j d : Nat} {want : Bool} (hd : (ops[j]?).bind (·.dst) = some d) (hb : lget L d = some (.p (.bool want))) (hw : barrier ops i = w) (h : VVal E w ⟨dst, op, ty, pos, af, some (j, want)⟩ L H nx fun r H' nx' => VOpsD E bn ops (i + 1) l (lput L dst r) H' nx' R) :
    VOpsD E bn ops i (⟨dst, op, ty, pos, af, some (j, want)⟩ :: l) L H nx R := VOpsD.cons ⟨want, d, hd, hb, by cases want <;> rfl⟩ hw h
theorem VOpsD.drop {j d : Nat} {want b : Bool} (hd : (ops[j]?).bind (·.dst) = some d) (hb : lget L d = some (.p (.bool b))) (hne : (b == want) = false) (h : VOpsD E bn ops (i + 1) l (lput L dst (.tup [])) H nx R) :
    VOpsD E bn ops i (⟨dst, op, ty, pos, af, some (j, want)⟩ :: l) L H nx R := VOpsD.skip ⟨b, d, hd, hb, hne.symm⟩ h
theorem VOps.guard {j d : Nat} {want : Bool} {p : Prop} {_ : Decidable p} (hd : (ops[j]?).bind (·.dst) = some d) (hb : lget L d = some (.p (.bool (decide p))))
    (ht : p → VOps E bn ops (⟨dst, op, ty, pos, af, some (j, want)⟩ :: l) ((d, .p (.bool true)) :: L) H nx R) (hf : ¬ p → VOps E bn ops (⟨dst, op, ty, pos, af, some (j, want)⟩ :: l) ((d, .p (.bool false)) :: L) H nx R) :
    VOps E bn ops (⟨dst, op, ty, pos, af, some (j, want)⟩ :: l) L H nx R := VOps.split rfl hd hb ht hf
theorem VOpsD.guard {j d : Nat} {want : Bool} {p : Prop} {_ : Decidable p} (hd : (ops[j]?).bind (·.dst) = some d) (hb : lget L d = some (.p (.bool (decide p))))
    (ht : p → VOpsD E bn ops i (⟨dst, op, ty, pos, af, some (j, want)⟩ :: l) ((d, .p (.bool true)) :: L) H nx R) (hf : ¬ p → VOpsD E bn ops i (⟨dst, op, ty, pos, af, some (j, want)⟩ :: l) ((d, .p (.bool false)) :: L) H nx R) :
    VOpsD E bn ops i (⟨dst, op, ty, pos, af, some (j, want)⟩ :: l) L H nx R := VOpsD.split rfl hd hb ht hf

/-- what comes behind -/
def QSeq (E : Env) (bn : Nat) (k : Code) (Q : AExit → Frame → Heap → Nat → Prop) (e : AExit) (L : Frame) (H : Heap) (nx : Nat) : Prop :=
  match e with
  | .normal => VWp E bn k L H nx Q
  | .ret => Q .ret L H nx
  | .exit i => Q (.exit i) L H nx
def QBlk (id : Nat) (Q : AExit → Frame → Heap → Nat → Prop) (e : AExit) (L : Frame) (H : Heap) (nx : Nat) : Prop :=
  match e with
  | .normal => Q .normal L H nx
  | .ret => Q .ret L H nx
  | .exit i => if i = id then Q .normal L H nx else Q (.exit i) L H nx
def QLoop (I : Frame → Heap → Nat → Prop) (Q : AExit → Frame → Heap → Nat → Prop) (e : AExit) (L : Frame) (H : Heap) (nx : Nat) : Prop :=
  match e with
  | .normal => I L H nx
  | .ret => Q .ret L H nx
  | .exit i => Q (.exit i) L H nx
variable {Q : AExit → Frame → Heap → Nat → Prop} {I : Frame → Heap → Nat → Prop} {a b c k : Code} {id : Nat} {x : Operand}
theorem QSeq.normal (h : VWp E bn k L H nx Q) : QSeq E bn k Q .normal L H nx := h
theorem QSeq.ret (h : Q .ret L H nx) : QSeq E bn k Q .ret L H nx := h
theorem QSeq.exit (h : Q (.exit i) L H nx) : QSeq E bn k Q (.exit i) L H nx := h
theorem QBlk.normal (h : Q .normal L H nx) : QBlk id Q .normal L H nx := h
theorem QBlk.ret (h : Q .ret L H nx) : QBlk id Q .ret L H nx := h
theorem QBlk.exit (h : Q .normal L H nx) : QBlk id Q (.exit id) L H nx := by simp only [QBlk, if_true]; exact h
theorem QBlk.out (hi : i ≠ id) (h : Q (.exit i) L H nx) : QBlk id Q (.exit i) L H nx := by simp only [QBlk, if_neg hi]; exact h
theorem QLoop.normal (h : I L H nx) : QLoop I Q .normal L H nx := h
theorem QLoop.ret (h : Q .ret L H nx) : QLoop I Q .ret L H nx := h
theorem QLoop.exit (h : Q (.exit i) L H nx) : QLoop I Q (.exit i) L H nx := h

theorem VWp.to (h : VWp E bn a L H nx (QSeq E bn k Q)) : VWp E bn (.seq a k) L H nx Q :=
  VWp.seq (h.mono fun e _ _ _ q => by cases e <;> exact q)
theorem VWp.rseq (h : VOps E bn ops ops.toList L H nx fun L' H' nx' => VWp E bn k L' H' nx' Q) : VWp E bn (.seq (.region id ops false) k) L H nx Q := VWp.seq (VWp.region h)
theorem VWp.rseqD (h : VOpsD E bn ops 0 ops.toList L H nx fun L' H' nx' => VWp E bn k L' H' nx' Q) : VWp E bn (.seq (.region id ops true) k) L H nx Q := VWp.seq (VWp.regionD h)
theorem VWp.assoc (h : VWp E bn (.seq a (.seq b c)) L H nx Q) : VWp E bn (.seq (.seq a b) c) L H nx Q := by
  intro B hB m F σ t h1 h2 h3
  obtain ⟨e, s, ⟨K, hk⟩, q⟩ := h B hB m F σ t h1 h2 h3
  refine ⟨e, s, ⟨K, fun N D hN hD => ?_⟩, q⟩
  have := hk N D hN hD
  simp only [aexec] at this ⊢
  cases ha : aexec E.P (acall E.P E.O E.G N D) N a ⟨t, m⟩ with
  | none => rw [ha] at this; cases this
  | some r =>
    rw [ha] at this
    obtain ⟨e1, s1⟩ := r
    cases e1 <;> simpa using this
theorem VWp.skipSeq (h : VWp E bn k L H nx Q) : VWp E bn (.seq .skip k) L H nx Q := VWp.seq (VWp.skip h)
theorem VWp.labelSeq {n : Nat} (h : VWp E bn k L H nx Q) : VWp E bn (.seq (.label n) k) L H nx Q := VWp.seq (VWp.label h)
theorem VWp.retSeq (h : Q .ret L H nx) : VWp E bn (.seq .ret k) L H nx Q := VWp.seq (VWp.ret h)
theorem VWp.exitSeq (h : Q (.exit i) L H nx) : VWp E bn (.seq (.exit i) k) L H nx Q := VWp.seq (VWp.exit h)
theorem VWp.blockSeq (h : VWp E bn a L H nx (QBlk id (QSeq E bn k Q))) : VWp E bn (.seq (.block id a) k) L H nx Q :=
  VWp.to (VWp.block (h.mono fun e _ _ _ q => by cases e <;> exact q))
theorem VWp.blockQ (h : VWp E bn a L H nx (QBlk id Q)) : VWp E bn (.block id a) L H nx Q :=
  VWp.block (h.mono fun e _ _ _ q => by cases e <;> exact q)

theorem VWp.condSeq (t : Bool) (hc : vev E.Γ L x = some (.p (.bool t))) (ht : t = true → VWp E bn (.seq a k) L H nx Q) (hf : t = false → VWp E bn (.seq b k) L H nx Q) : VWp E bn (.seq (.cond x a b) k) L H nx Q := by
  intro B hB m F σ u h1 h2 h3
  have hx := vev_bool h1 h2 hc
  cases t with
  | true =>
    obtain ⟨e', s, ⟨K, hk⟩, q⟩ := ht rfl B hB m F σ u h1 h2 h3
    exact ⟨e', s, ⟨K, fun N D hN hD => by have := hk N D hN hD; simp only [aexec, hx] at this ⊢; exact this⟩, q⟩
  | false =>
    obtain ⟨e', s, ⟨K, hk⟩, q⟩ := hf rfl B hB m F σ u h1 h2 h3
    exact ⟨e', s, ⟨K, fun N D hN hD => by have := hk N D hN hD; simp only [aexec, hx] at this ⊢; exact this⟩, q⟩
theorem VWp.condSeq_true (hc : vev E.Γ L x = some (.p (.bool true))) (ht : VWp E bn (.seq a k) L H nx Q) : VWp E bn (.seq (.cond x a b) k) L H nx Q := VWp.condSeq true hc (fun _ => ht) (fun h => by cases h)
theorem VWp.condSeq_false (hc : vev E.Γ L x = some (.p (.bool false))) (hf : VWp E bn (.seq b k) L H nx Q) : VWp E bn (.seq (.cond x a b) k) L H nx Q := VWp.condSeq false hc (fun h => by cases h) (fun _ => hf)
theorem VWp.condSeq_dec {p : Prop} {_ : Decidable p} (hc : vev E.Γ L x = some (.p (.bool (decide p)))) (ht : p → VWp E bn (.seq a k) L H nx Q) (hf : ¬ p → VWp E bn (.seq b k) L H nx Q) : VWp E bn (.seq (.cond x a b) k) L H nx Q :=
  VWp.condSeq (decide p) hc (fun h => ht (of_decide_eq_true h)) (fun h => hf (of_decide_eq_false h))

theorem VWp.loopQ {α : Type} (Lf : α → Frame) (Hf : α → Heap) (nx0 : Nat) (inv : α → Prop) (μ : α → Nat) (a0 : α) (hb : bn ≤ nx0) (h0 : inv a0) (hc : Cov L H nx (Lf a0) (Hf a0) nx0)
    (hs : ∀ s, inv s → VWp E bn a (Lf s) (Hf s) nx0 (QLoop (fun L' H' nx' => ∃ s', inv s' ∧ μ s' < μ s ∧ Cov L' H' nx' (Lf s') (Hf s') nx0) Q)) : VWp E bn (.loop a) L H nx Q :=
  VWp.loop Lf Hf nx0 inv μ a0 hb h0 hc fun s hi => (hs s hi).mono fun e _ _ _ q => by cases e <;> exact q

theorem LCov.nil {k : Nat} : LCov k [] L := trivial
theorem LCov.cons {k i : Nat} {v v0 : PV} {L0 : Frame} (hu : v0.under k) (hv : lget L i = some v) (hle : PLe v v0) (t : LCov k L0 L) : LCov k ((i, v0) :: L0) L := ⟨⟨hu, v, hv, hle⟩, t⟩
theorem LCov.same {k i : Nat} {v0 : PV} {L0 : Frame} (hu : v0.under k) (hv : lget L i = some v0) (t : LCov k L0 L) : LCov k ((i, v0) :: L0) L := ⟨⟨hu, v0, hv, .refl _⟩, t⟩
theorem HCov.nil {k : Nat} : HCov k [] H := trivial
theorem HCov.cons {k i : Nat} {v v0 : HB} {L0 : Heap} (hi : i < k) (hu : v0.under k) (hv : hget H i = some v) (hle : HLe v v0) (t : HCov k L0 H) : HCov k ((i, v0) :: L0) H := ⟨⟨hi, hu, v, hv, hle⟩, t⟩

theorem Done.ret {P : Program} {rs : List ResultVar} {Q : PV → Heap → Nat → Prop} {r r0 : PV} {H0 : Heap} {nx0 : Nat} (h : vresults P rs L H = some r0) (hle : PLe r0 r) (hu : r.under nx0) (hH : HCov nx0 H0 H) (hn : nx0 ≤ nx) (hb : bn ≤ nx0) (q : Q r H0 nx0) : Done P rs bn Q .ret L H nx :=
  ⟨r0, h, r, H0, nx0, hle, hu, hH, hn, hb, q⟩
theorem Done.normal {P : Program} {rs : List ResultVar} {Q : PV → Heap → Nat → Prop} {r r0 : PV} {H0 : Heap} {nx0 : Nat} (h : vresults P rs L H = some r0) (hle : PLe r0 r) (hu : r.under nx0) (hH : HCov nx0 H0 H) (hn : nx0 ≤ nx) (hb : bn ≤ nx0) (q : Q r H0 nx0) : Done P rs bn Q .normal L H nx :=
  ⟨r0, h, r, H0, nx0, hle, hu, hH, hn, hb, q⟩
end

end Go.Vm
