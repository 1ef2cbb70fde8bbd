/-
  The values' layer: pure data in place of memory. Definitions; what is related stays related. No condition. Nothing of one program stands here.
-/
import Derived.Test.YtmfnchgkffhpfaaDoorAm22
namespace Go.Vm
open Go.Am

/-- frozen data -/
inductive FV where
  | int (k : IntKind) (n : Int)
  | bool (b : Bool)
  | str (s : ByteArray)
  | val (x : Value)
  | agg (cs : List FV)
  | lst (e : TypeId) (cs : List FV) (n : Nat)
  | cptr (cs : List FV)

/-- values, with names of own objects -/
inductive PV where
  | p (x : FV)
  | agg (cs : List PV)
  | tup (vs : List PV)
  | vec (b tag off len : Nat)
  | ref (b off : Nat)
  | eref (b tag off : Nat)
  | mref (b : Nat)
  | clo (f : FuncId) (fs cs : List PV)

inductive HB where
  | box (e : TypeId) (cs : List PV)
  | vec (e : TypeId) (cs : List FV) (n : Nat) (z : Bool)
  | map (es : List (FV × FV))

abbrev Heap := List (Nat × HB)
abbrev Frame := List (Nat × PV)

inductive Tg where
  | box
  | vec (n : Nat)
  | map

def Tg.le : Tg → Tg → Prop
  | .box, .box => True
  | .map, .map => True
  | .vec n, .vec k => n ≤ k
  | _, _ => False

def HB.tag : HB → Tg
  | .box .. => .box
  | .vec _ _ n _ => .vec n
  | .map _ => .map

def hget : Heap → Nat → Option HB
  | [], _ => none
  | (a, x) :: H, b => match Nat.decEq a b with
    | .isTrue _ => some x
    | .isFalse _ => hget H b

def hput : Heap → Nat → HB → Heap
  | [], _, _ => []
  | (a, x) :: H, b, y => match Nat.decEq a b with
    | .isTrue _ => (a, y) :: H
    | .isFalse _ => (a, x) :: hput H b y

def lget : Frame → Nat → Option PV
  | [], _ => none
  | (a, x) :: L, b => match Nat.decEq a b with
    | .isTrue _ => some x
    | .isFalse _ => lget L b

theorem hget_cons (a : Nat) (x : HB) (H : Heap) (b : Nat) : hget ((a, x) :: H) b = if a = b then some x else hget H b := by
  simp only [hget]
  cases Nat.decEq a b with
  | isTrue h => simp [h]
  | isFalse h => simp [h]
theorem lget_cons (a : Nat) (x : PV) (H : Frame) (b : Nat) : lget ((a, x) :: H) b = if a = b then some x else lget H b := by
  simp only [lget]
  cases Nat.decEq a b with
  | isTrue h => simp [h]
  | isFalse h => simp [h]
theorem hget_hput (H : Heap) (b c : Nat) (y : HB) : hget (hput H b y) c = if b = c then (hget H b).map (fun _ => y) else hget H c := by
  induction H with
  | nil => simp [hput, hget]
  | cons a H ih =>
    obtain ⟨a, x⟩ := a
    simp only [hput]
    cases hd : Nat.decEq a b with
    | isTrue h =>
      subst h
      simp only [hget_cons]
      by_cases hc : a = c <;> simp [hc]
    | isFalse h =>
      simp only [hget_cons, ih]
      by_cases hbc : b = c
      · subst hbc
        simp [h]
      · simp [hbc]

def htag (H : Heap) (b : Nat) : Option Tg := (hget H b).map HB.tag

def nilSlice : Value := .slice none 0 0

mutual
inductive RF (m : Mem) (F : Nat → Prop) : FV → Value → Prop
  | int (k : IntKind) (n : Int) : RF m F (.int k n) (.int k n)
  | bool (b : Bool) : RF m F (.bool b) (.bool b)
  | str (s : ByteArray) : RF m F (.str s) (.string s)
  | val {x : Value} (h : Am.plainCell x = true) : RF m F (.val x) x
  | agg {cs : List FV} {vs : List Value} (h : RFs m F cs vs) (hc : vs.all isCell = true) : RF m F (.agg cs) (.agg vs.toArray)
  | nil (e : TypeId) : RF m F (.lst e [] 0) (.slice none 0 0)
  | room (e : TypeId) (b o g : Nat) : RF m F (.lst e [] 0) (.slice (some ⟨b, o, some g⟩) 0 0)
  | lst {e : TypeId} {cs : List FV} {n b o g : Nat} {vs ws : List Value} {ro : Bool} (hF : F b) (hm : m.get b = .cells vs e g ro) (hw : takeN cs.length (vs.drop o) = some ws) (h : RFs m F cs ws) (hc : ws.all isCell = true) :
      RF m F (.lst e cs n) (.slice (some ⟨b, o, none⟩) n g)
  | cptr {cs : List FV} {b o g : Nat} {sp : Option Nat} {e : TypeId} {vs ws : List Value} {ro : Bool} (hF : F b) (hm : m.get b = .cells vs e g ro) (hg : agen ⟨b, o, sp⟩ = g) (hw : takeN cs.length (vs.drop o) = some ws) (h : RFs m F cs ws) (hc : ws.all isCell = true) :
      RF m F (.cptr cs) (.pointer (some ⟨b, o, sp⟩))
inductive RFs (m : Mem) (F : Nat → Prop) : List FV → List Value → Prop
  | nil : RFs m F [] []
  | cons {c : FV} {v : Value} {cs : List FV} {vs : List Value} (h : RF m F c v) (t : RFs m F cs vs) : RFs m F (c :: cs) (v :: vs)
end

def SubOf (s : Value) (off len : Nat) (v : Value) : Prop :=
  match s with
  | .slice (some ⟨c, 0, none⟩) _ g => v = .slice (some ⟨c, off, none⟩) len g
  | s => v = s ∧ off = 0 ∧ len = 0

mutual
inductive RP (m : Mem) (F : Nat → Prop) (T : Nat → Option Tg) (σ : Nat → Value) (nx : Nat) : PV → Value → Prop
  | p {x : FV} {v : Value} (h : RF m F x v) : RP m F T σ nx (.p x) v
  | agg {cs : List PV} {vs : List Value} (h : RPs m F T σ nx cs vs) (hc : vs.all isCell = true) : RP m F T σ nx (.agg cs) (.agg vs.toArray)
  | tup {cs : List PV} {vs : List Value} (h : RPs m F T σ nx cs vs) : RP m F T σ nx (.tup cs) (.tuple vs.toArray)
  | vec {b tag off len : Nat} {v : Value} (hb : b < nx) (hc : isCell v = true) (h : ∀ n, T b = some (.vec n) → tag ≤ n ∧ (tag = n → SubOf (σ b) off len v)) : RP m F T σ nx (.vec b tag off len) v
  | ref {b off : Nat} {v : Value} (hb : b < nx) (hc : isCell v = true) (h : T b = some .box → ∃ c, σ b = .pointer (some ⟨c, 0, none⟩) ∧ v = .pointer (some ⟨c, off, none⟩)) : RP m F T σ nx (.ref b off) v
  | eref {b tag off : Nat} {v : Value} (hb : b < nx) (hc : isCell v = true) (h : ∀ n, T b = some (.vec n) → tag ≤ n ∧ (tag = n → ∃ c k g, σ b = .slice (some ⟨c, 0, none⟩) k g ∧ v = .pointer (some ⟨c, off, some g⟩))) :
      RP m F T σ nx (.eref b tag off) v
  | mref {b : Nat} {v : Value} (hb : b < nx) (hc : isCell v = true) (h : T b = some .map → v = σ b) : RP m F T σ nx (.mref b) v
  | clo {f : FuncId} {fs cs : List PV} {vf vc : List Value} (h1 : RPs m F T σ nx fs vf) (h2 : RPs m F T σ nx cs vc) : RP m F T σ nx (.clo f fs cs) (.func (.func f) vf.toArray vc.toArray)
inductive RPs (m : Mem) (F : Nat → Prop) (T : Nat → Option Tg) (σ : Nat → Value) (nx : Nat) : List PV → List Value → Prop
  | nil : RPs m F T σ nx [] []
  | cons {c : PV} {v : Value} {cs : List PV} {vs : List Value} (h : RP m F T σ nx c v) (t : RPs m F T σ nx cs vs) : RPs m F T σ nx (c :: cs) (v :: vs)
end

/-! ## The relation stays -/
mutual
theorem RF.mono {m m' : Mem} {F F' : Nat → Prop} (hF : ∀ c, F c → F' c ∧ m'.get c = m.get c) : ∀ {x : FV} {v : Value}, RF m F x v → RF m' F' x v
  | _, _, .int k n => .int k n
  | _, _, .bool b => .bool b
  | _, _, .str s => .str s
  | _, _, .val h => .val h
  | _, _, .agg h hc => .agg (RFs.mono hF h) hc
  | _, _, .nil e => .nil e
  | _, _, .room e b o g => .room e b o g
  | _, _, .lst hb hm hw h hc => .lst (hF _ hb).1 ((hF _ hb).2.trans hm) hw (RFs.mono hF h) hc
  | _, _, .cptr hb hm hg hw h hc => .cptr (hF _ hb).1 ((hF _ hb).2.trans hm) hg hw (RFs.mono hF h) hc
theorem RFs.mono {m m' : Mem} {F F' : Nat → Prop} (hF : ∀ c, F c → F' c ∧ m'.get c = m.get c) : ∀ {x : List FV} {v : List Value}, RFs m F x v → RFs m' F' x v
  | _, _, .nil => .nil
  | _, _, .cons h t => .cons (RF.mono hF h) (RFs.mono hF t)
end

def TLe : Option Tg → Option Tg → Prop
  | _, none => True
  | some t, some t' => t.le t'
  | none, some _ => False

/-- what is known of names below nx, later -/
def Names (nx : Nat) (T : Nat → Option Tg) (σ : Nat → Value) (T' : Nat → Option Tg) (σ' : Nat → Value) : Prop :=
  ∀ b, b < nx → TLe (T b) (T' b) ∧ (∀ t, T b = some t → T' b = some t → σ' b = σ b)

theorem Names.vec {nx : Nat} {T T' : Nat → Option Tg} {σ σ' : Nat → Value} (h : Names nx T σ T' σ') {b n : Nat} (hb : b < nx) (ht : T' b = some (.vec n)) : ∃ k, T b = some (.vec k) ∧ k ≤ n ∧ (k = n → σ' b = σ b) := by
  obtain ⟨h1, h2⟩ := h b hb
  rw [ht] at h1
  cases hT : T b with
  | none => rw [hT] at h1; exact h1.elim
  | some t =>
    rw [hT] at h1
    cases t with
    | vec k => exact ⟨k, rfl, h1, fun e => h2 _ (by rw [hT, e]) ht⟩
    | box => exact h1.elim
    | map => exact h1.elim
theorem Names.box {nx : Nat} {T T' : Nat → Option Tg} {σ σ' : Nat → Value} (h : Names nx T σ T' σ') {b : Nat} (hb : b < nx) (ht : T' b = some .box) : T b = some .box ∧ σ' b = σ b := by
  obtain ⟨h1, h2⟩ := h b hb
  rw [ht] at h1
  cases hT : T b with
  | none => rw [hT] at h1; exact h1.elim
  | some t =>
    rw [hT] at h1
    cases t with
    | box => exact ⟨rfl, h2 _ hT ht⟩
    | vec k => exact h1.elim
    | map => exact h1.elim
theorem Names.map {nx : Nat} {T T' : Nat → Option Tg} {σ σ' : Nat → Value} (h : Names nx T σ T' σ') {b : Nat} (hb : b < nx) (ht : T' b = some .map) : T b = some .map ∧ σ' b = σ b := by
  obtain ⟨h1, h2⟩ := h b hb
  rw [ht] at h1
  cases hT : T b with
  | none => rw [hT] at h1; exact h1.elim
  | some t =>
    rw [hT] at h1
    cases t with
    | map => exact ⟨rfl, h2 _ hT ht⟩
    | vec k => exact h1.elim
    | box => exact h1.elim

theorem TLe.refl (t : Option Tg) : TLe t t := by
  cases t with
  | none => trivial
  | some t => cases t <;> simp [TLe, Tg.le]
theorem TLe.trans {a b c : Option Tg} (h : TLe a b) (k : TLe b c) : TLe a c := by
  cases c with
  | none => trivial
  | some c =>
    cases b with
    | none => exact k.elim
    | some b =>
      cases a with
      | none => exact h.elim
      | some a =>
        cases a <;> cases b <;> cases c <;> simp_all [TLe, Tg.le]
        omega
theorem TLe.antisymm {a b c : Option Tg} (h : TLe a b) (k : TLe b c) (e : c = a) : b = a := by
  subst e
  cases c with
  | none =>
    cases b with
    | none => rfl
    | some b => exact h.elim
  | some c =>
    cases b with
    | none => exact k.elim
    | some b =>
      cases c <;> cases b <;> simp_all [TLe, Tg.le]
      omega
theorem Names.refl (nx : Nat) (T : Nat → Option Tg) (σ : Nat → Value) : Names nx T σ T σ := fun _ _ => ⟨TLe.refl _, fun _ _ _ => rfl⟩
theorem Names.trans {nx nx' : Nat} {T T' T'' : Nat → Option Tg} {σ σ' σ'' : Nat → Value} (h : Names nx T σ T' σ') (k : Names nx' T' σ' T'' σ'') (hn : nx ≤ nx') : Names nx T σ T'' σ'' := fun b hb => by
  obtain ⟨h1, h2⟩ := h b hb
  obtain ⟨k1, k2⟩ := k b (Nat.lt_of_lt_of_le hb hn)
  refine ⟨h1.trans k1, fun t e1 e2 => ?_⟩
  have e' := TLe.antisymm h1 k1 (e2.trans e1.symm)
  rw [k2 t (e'.trans e1) e2, h2 t e1 (e'.trans e1)]

section
variable {m m' : Mem} {F F' : Nat → Prop} {T T' : Nat → Option Tg} {σ σ' : Nat → Value} {nx nx' : Nat}
mutual
theorem RP.mono (hF : ∀ c, F c → F' c ∧ m'.get c = m.get c) (hN : Names nx T σ T' σ') (hn : nx ≤ nx') : ∀ {x : PV} {v : Value}, RP m F T σ nx x v → RP m' F' T' σ' nx' x v
  | _, _, .p h => .p (h.mono hF)
  | _, _, .agg h hc => .agg (RPs.mono hF hN hn h) hc
  | _, _, .tup h => .tup (RPs.mono hF hN hn h)
  | _, _, .vec hb hc h => .vec (Nat.lt_of_lt_of_le hb hn) hc fun n ht => by
      obtain ⟨k, h1, h2, h3⟩ := hN.vec hb ht
      obtain ⟨h4, h5⟩ := h k h1
      exact ⟨by omega, fun e => by rw [h3 (by omega)]; exact h5 (by omega)⟩
  | _, _, .ref hb hc h => .ref (Nat.lt_of_lt_of_le hb hn) hc fun ht => by
      obtain ⟨h1, h2⟩ := hN.box hb ht
      rw [h2]; exact h h1
  | _, _, .eref hb hc h => .eref (Nat.lt_of_lt_of_le hb hn) hc fun n ht => by
      obtain ⟨k, h1, h2, h3⟩ := hN.vec hb ht
      obtain ⟨h4, h5⟩ := h k h1
      exact ⟨by omega, fun e => by rw [h3 (by omega)]; exact h5 (by omega)⟩
  | _, _, .mref hb hc h => .mref (Nat.lt_of_lt_of_le hb hn) hc fun ht => by
      obtain ⟨h1, h2⟩ := hN.map hb ht
      rw [h2]; exact h h1
  | _, _, .clo h1 h2 => .clo (RPs.mono hF hN hn h1) (RPs.mono hF hN hn h2)
theorem RPs.mono (hF : ∀ c, F c → F' c ∧ m'.get c = m.get c) (hN : Names nx T σ T' σ') (hn : nx ≤ nx') : ∀ {x : List PV} {v : List Value}, RPs m F T σ nx x v → RPs m' F' T' σ' nx' x v
  | _, _, .nil => .nil
  | _, _, .cons h t => .cons (RP.mono hF hN hn h) (RPs.mono hF hN hn t)
end
end

/-! ## Heaps -/
def blkOf : Value → Option Nat
  | .pointer (some a) => some a.block
  | .slice (some ⟨c, _, none⟩) _ _ => some c
  | .map (some r) => some r
  | _ => none

def entsRel (m : Mem) (F : Nat → Prop) (es : List (FV × FV)) (l : List MapEntry) : Prop :=
  RFs m F (es.map (·.1)) (l.map (·.key)) ∧ RFs m F (es.map (·.2)) (l.map (·.val))

def RB (m : Mem) (F : Nat → Prop) (T : Nat → Option Tg) (σ : Nat → Value) (nx : Nat) (s : Value) : HB → Prop
  | .box e cs => ∃ c vs, s = .pointer (some ⟨c, 0, none⟩) ∧ c < m.size ∧ ¬ F c ∧ m.get c = .cells vs e 0 false ∧ RPs m F T σ nx cs vs ∧ vs.all isCell = true
  | .vec e cs n z => (cs = [] ∧ n = 0 ∧ (s = nilSlice ∧ z = true ∨ ∃ b o g, s = .slice (some ⟨b, o, some g⟩) 0 0 ∧ z = false)) ∨
      ∃ c g vs, s = .slice (some ⟨c, 0, none⟩) n g ∧ c < m.size ∧ ¬ F c ∧ m.get c = .cells vs e g false ∧ RFs m F cs vs ∧ vs.all isCell = true ∧ (n = 0 → z = false)
  | .map es => ∃ r l clock, s = .map (some r) ∧ r < m.size ∧ ¬ F r ∧ m.get r = .map l clock ∧ entsRel m F es l

structure Ctx (Γ : Nat → Option (List Value × TypeId)) (m : Mem) (F : Nat → Prop) (σ : Nat → Value) (H : Heap) (nx : Nat) : Prop where
  fr : ∀ c, F c → c < m.size
  hp : ∀ b x, hget H b = some x → b < nx ∧ RB m F (htag H) σ nx (σ b) x
  sep : ∀ b b' x x' c, hget H b = some x → hget H b' = some x' → blkOf (σ b) = some c → blkOf (σ b') = some c → b = b'
  gl : ∀ g vs e, Γ g = some (vs, e) → F g ∧ m.get g = .cells vs e 0 true ∧ vs.all Am.plainCell = true

def own (H : Heap) (σ : Nat → Value) (c : Nat) : Prop := ∃ b x, hget H b = some x ∧ blkOf (σ b) = some c

structure Step (m : Mem) (F : Nat → Prop) (σ : Nat → Value) (H : Heap) (nx : Nat) (m' : Mem) (F' : Nat → Prop) (σ' : Nat → Value) (H' : Heap) (nx' : Nat) : Prop where
  size : m.size ≤ m'.size
  keep : ∀ c, c < m.size → ¬ own H σ c → m'.get c = m.get c
  fmono : ∀ c, F c → F' c
  fback : ∀ c, c < m.size → F' c → F c ∨ own H σ c
  oback : ∀ c, c < m.size → own H' σ' c → own H σ c
  nxle : nx ≤ nx'
  names : Names nx (htag H) σ (htag H') σ'
  low : ∀ k, k ≤ m.low → k ≤ m.size → (∀ c, own H σ c → k ≤ c) → k ≤ m'.low

variable {Γ : Nat → Option (List Value × TypeId)}

theorem Ctx.notF {m : Mem} {F : Nat → Prop} {σ : Nat → Value} {H : Heap} {nx c : Nat} (h : Ctx Γ m F σ H nx) (ho : own H σ c) : ¬ F c ∧ c < m.size := by
  obtain ⟨b, x, hb, hc⟩ := ho
  obtain ⟨_, hr⟩ := h.hp b x hb
  cases x with
  | box e cs =>
    obtain ⟨c', vs, h1, h2, h3, _⟩ := hr
    rw [h1] at hc
    simp only [blkOf, Option.some.injEq] at hc
    subst hc
    exact ⟨h3, h2⟩
  | vec e cs n z =>
    rcases hr with ⟨_, _, h1⟩ | ⟨c', g, vs, h1, h2, h3, _⟩
    · rcases h1 with ⟨h1, _⟩ | ⟨b', o, g, h1, _⟩ <;> rw [h1] at hc <;> simp [blkOf, nilSlice] at hc
    · rw [h1] at hc
      simp only [blkOf, Option.some.injEq] at hc
      subst hc
      exact ⟨h3, h2⟩
  | map es =>
    obtain ⟨r, l, clock, h1, h2, h3, _⟩ := hr
    rw [h1] at hc
    simp only [blkOf, Option.some.injEq] at hc
    subst hc
    exact ⟨h3, h2⟩

theorem Step.refl (m : Mem) (F : Nat → Prop) (σ : Nat → Value) (H : Heap) (nx : Nat) : Step m F σ H nx m F σ H nx :=
  ⟨Nat.le_refl _, fun _ _ _ => rfl, fun _ h => h, fun _ _ h => .inl h, fun _ _ h => h, Nat.le_refl _, Names.refl _ _ _, fun _ h _ _ => h⟩

theorem Step.trans {m m' m'' : Mem} {F F' F'' : Nat → Prop} {σ σ' σ'' : Nat → Value} {H H' H'' : Heap} {nx nx' nx'' : Nat} (h : Step m F σ H nx m' F' σ' H' nx') (k : Step m' F' σ' H' nx' m'' F'' σ'' H'' nx'') :
    Step m F σ H nx m'' F'' σ'' H'' nx'' where
  size := Nat.le_trans h.size k.size
  keep c hc ho := (k.keep c (Nat.lt_of_lt_of_le hc h.size) fun o => ho (h.oback c hc o)).trans (h.keep c hc ho)
  fmono c hc := k.fmono c (h.fmono c hc)
  fback c hc hf := by
    rcases k.fback c (Nat.lt_of_lt_of_le hc h.size) hf with h1 | h1
    · exact h.fback c hc h1
    · exact .inr (h.oback c hc h1)
  oback c hc ho := h.oback c hc (k.oback c (Nat.lt_of_lt_of_le hc h.size) ho)
  nxle := Nat.le_trans h.nxle k.nxle
  names := h.names.trans k.names h.nxle
  low j h1 h2 h3 := k.low j (h.low j h1 h2 h3) (Nat.le_trans h2 h.size) fun c ho => by
    by_cases hc : c < m.size
    · exact h3 c (h.oback c hc ho)
    · omega

/-- what is frozen stays as it is -/
theorem Step.frozen {m m' : Mem} {F F' : Nat → Prop} {σ σ' : Nat → Value} {H H' : Heap} {nx nx' : Nat} (h : Step m F σ H nx m' F' σ' H' nx') (hx : Ctx Γ m F σ H nx) : ∀ c, F c → F' c ∧ m'.get c = m.get c := fun c hc =>
  ⟨h.fmono c hc, h.keep c (hx.fr c hc) fun ho => (hx.notF ho).1 hc⟩

theorem RP.step {m m' : Mem} {F F' : Nat → Prop} {σ σ' : Nat → Value} {H H' : Heap} {nx nx' : Nat} (h : Step m F σ H nx m' F' σ' H' nx') (hx : Ctx Γ m F σ H nx) {x : PV} {v : Value} (hr : RP m F (htag H) σ nx x v) :
    RP m' F' (htag H') σ' nx' x v := hr.mono (h.frozen hx) h.names h.nxle
theorem RPs.step {m m' : Mem} {F F' : Nat → Prop} {σ σ' : Nat → Value} {H H' : Heap} {nx nx' : Nat} (h : Step m F σ H nx m' F' σ' H' nx') (hx : Ctx Γ m F σ H nx) {x : List PV} {v : List Value} (hr : RPs m F (htag H) σ nx x v) :
    RPs m' F' (htag H') σ' nx' x v := hr.mono (h.frozen hx) h.names h.nxle

/-! ## Frames -/
def RL (m : Mem) (F : Nat → Prop) (T : Nat → Option Tg) (σ : Nat → Value) (nx : Nat) (L : Frame) (t : Tr Value) : Prop := ∀ i v, lget L i = some v → RP m F T σ nx v (tget t i)

theorem RL.step {m m' : Mem} {F F' : Nat → Prop} {σ σ' : Nat → Value} {H H' : Heap} {nx nx' : Nat} (h : Step m F σ H nx m' F' σ' H' nx') (hx : Ctx Γ m F σ H nx) {L : Frame} {t : Tr Value} (hr : RL m F (htag H) σ nx L t) :
    RL m' F' (htag H') σ' nx' L t := fun i v hi => (hr i v hi).step h hx

theorem RL.set {m : Mem} {F : Nat → Prop} {T : Nat → Option Tg} {σ : Nat → Value} {nx : Nat} {L : Frame} {t : Tr Value} (hr : RL m F T σ nx L t) {d : Nat} {x : PV} {v : Value} (h : RP m F T σ nx x v) :
    RL m F T σ nx ((d, x) :: L) (tset t d v) := fun i y hi => by
  rw [lget_cons] at hi
  rw [tget_tset]
  by_cases e : d = i
  · rw [if_pos e] at hi ⊢
    cases hi
    exact h
  · rw [if_neg e] at hi ⊢
    exact hr i y hi

def lput (L : Frame) (dst : Option Nat) (x : PV) : Frame :=
  match dst with
  | some d => (d, x) :: L
  | none => L

theorem RL.put {m : Mem} {F : Nat → Prop} {T : Nat → Option Tg} {σ : Nat → Value} {nx : Nat} {L : Frame} {t : Tr Value} (hr : RL m F T σ nx L t) {d : Option Nat} {x : PV} {v : Value} (h : RP m F T σ nx x v) :
    RL m F T σ nx (lput L d x) (tput t d v) := by
  cases d with
  | none => exact hr
  | some d => exact hr.set h

/-- a plain cell as frozen datum -/
def cellFV : Value → FV
  | .int k n => .int k n
  | .bool b => .bool b
  | .string s => .str s
  | x => .val x
theorem cellFV_rel {m : Mem} {F : Nat → Prop} {x : Value} (h : Am.plainCell x = true) : RF m F (cellFV x) x := by
  unfold cellFV
  split
  · exact .int _ _
  · exact .bool _
  · exact .str _
  · exact .val h
theorem cellFVs_rel {m : Mem} {F : Nat → Prop} : ∀ {l : List Value}, l.all Am.plainCell = true → RFs m F (l.map cellFV) l
  | [], _ => .nil
  | v :: l, h => by
    simp only [List.all_cons, Bool.and_eq_true] at h
    exact .cons (cellFV_rel h.1) (cellFVs_rel h.2)

def constPV : Value → Option PV
  | .int k n => some (.p (.int k n))
  | .bool b => some (.p (.bool b))
  | .string s => some (.p (.str s))
  | .agg cs => if cs.toList.all Am.plainCell then some (.p (.agg (cs.toList.map cellFV))) else none
  | x => if Am.plainCell x then some (.p (.val x)) else none

/-- what an operand is -/
def vev (Γ : Nat → Option (List Value × TypeId)) (L : Frame) : Operand → Option PV
  | .tmp i => lget L i
  | .const v => constPV v
  | .global g => (Γ g).map fun x => .p (.cptr (x.1.map cellFV))
  | .func f => some (.clo f [] [])

theorem constPV_rel {m : Mem} {F : Nat → Prop} {T : Nat → Option Tg} {σ : Nat → Value} {nx : Nat} {v : Value} {x : PV} (h : constPV v = some x) : RP m F T σ nx x v := by
  unfold constPV at h
  split at h
  · cases h; exact .p (.int _ _)
  · cases h; exact .p (.bool _)
  · cases h; exact .p (.str _)
  · split at h
    · rename_i cs hc
      cases h
      exact .p (.agg (cellFVs_rel hc) (all_plain_isCell hc))
    · cases h
  · split at h
    · rename_i hc
      cases h
      exact .p (.val hc)
    · cases h

theorem RFs.length {m : Mem} {F : Nat → Prop} : ∀ {cs : List FV} {vs : List Value}, RFs m F cs vs → cs.length = vs.length
  | _, _, .nil => rfl
  | _, _, .cons _ t => by simp [t.length]

theorem vev_rel {m : Mem} {F : Nat → Prop} {σ : Nat → Value} {H : Heap} {nx : Nat} {L : Frame} {t : Tr Value} (hx : Ctx Γ m F σ H nx) (hl : RL m F (htag H) σ nx L t) {o : Operand} {x : PV} (h : vev Γ L o = some x) :
    RP m F (htag H) σ nx x (ev t o) := by
  cases o with
  | tmp i => exact hl i x h
  | const v => exact constPV_rel h
  | global g =>
    simp only [vev, Option.map_eq_some_iff] at h
    obtain ⟨⟨vs, e⟩, h1, rfl⟩ := h
    obtain ⟨h2, h3, h4⟩ := hx.gl g vs e h1
    exact .p (.cptr h2 h3 rfl (by simp [takeN]) (cellFVs_rel h4) (all_plain_isCell h4))
  | func f =>
    cases h
    exact .clo .nil .nil

end Go.Vm
