/-
  The values' layer: rules for code. No condition. Nothing of one program stands here.
-/
import Derived.Test.YtmfnchgkffhpfaaDoorVm1
namespace Go.Vm
open Go.Am

/-- what a proof of one program holds fast -/
structure Env where
  P : Program
  O : Oracle
  G : List Nat
  Γ : Nat → Option (List Value × TypeId)

structure Base where
  m : Mem
  F : Nat → Prop
  σ : Nat → Value
  H : Heap
  nx : Nat

def Base.to (B : Base) (m : Mem) (F : Nat → Prop) (σ : Nat → Value) (H : Heap) (nx : Nat) : Prop := Step B.m B.F B.σ B.H B.nx m F σ H nx

def Quiet (m m' : Mem) : Prop := ∀ k, k ≤ m.low → k ≤ m.size → k ≤ m'.low

def VVal (E : Env) (w : Bool) (o : Oper) (L : Frame) (H : Heap) (nx : Nat) (Q : PV → Heap → Nat → Prop) : Prop :=
  ∀ m F σ t, Ctx E.Γ m F σ H nx → RL m F (htag H) σ nx L t →
    AVal E.P E.O E.G o ⟨t, m⟩ fun v m' => ∃ r H' nx' F' σ', Q r H' nx' ∧ Ctx E.Γ m' F' σ' H' nx' ∧ RP m' F' (htag H') σ' nx' r v ∧ Step m F σ H nx m' F' σ' H' nx' ∧ (w = false → Quiet m m')

def VOps (E : Env) (bn : Nat) (ops : Array Oper) (l : List Oper) (L : Frame) (H : Heap) (nx : Nat) (Q : Frame → Heap → Nat → Prop) : Prop :=
  ∀ (B : Base), B.nx = bn → ∀ m F σ t, Ctx E.Γ m F σ H nx → RL m F (htag H) σ nx L t → B.to m F σ H nx →
    AOps E.P E.O E.G ops l ⟨t, m⟩ fun s' => ∃ L' H' nx' F' σ', Q L' H' nx' ∧ Ctx E.Γ s'.m F' σ' H' nx' ∧ RL s'.m F' (htag H') σ' nx' L' s'.t ∧ B.to s'.m F' σ' H' nx'

def VOpsD (E : Env) (bn : Nat) (ops : Array Oper) (i : Nat) (l : List Oper) (L : Frame) (H : Heap) (nx : Nat) (Q : Frame → Heap → Nat → Prop) : Prop :=
  ∀ (B : Base), B.nx = bn → ∀ m F σ t, Ctx E.Γ m F σ H nx → RL m F (htag H) σ nx L t → B.to m F σ H nx →
    AOpsD E.P E.O E.G ops i l ⟨t, m⟩ fun s' => ∃ L' H' nx' F' σ', Q L' H' nx' ∧ Ctx E.Γ s'.m F' σ' H' nx' ∧ RL s'.m F' (htag H') σ' nx' L' s'.t ∧ B.to s'.m F' σ' H' nx'

def VWp (E : Env) (bn : Nat) (c : Code) (L : Frame) (H : Heap) (nx : Nat) (Q : AExit → Frame → Heap → Nat → Prop) : Prop :=
  ∀ (B : Base), B.nx = bn → ∀ m F σ t, Ctx E.Γ m F σ H nx → RL m F (htag H) σ nx L t → B.to m F σ H nx →
    AWp E.P E.O E.G c ⟨t, m⟩ fun e s' => ∃ L' H' nx' F' σ', Q e L' H' nx' ∧ Ctx E.Γ s'.m F' σ' H' nx' ∧ RL s'.m F' (htag H') σ' nx' L' s'.t ∧ B.to s'.m F' σ' H' nx'

def VCalls (E : Env) (f : FuncId) (args : List PV) (H : Heap) (nx : Nat) (Q : PV → Heap → Nat → Prop) : Prop :=
  ∀ m F σ as, Ctx E.Γ m F σ H nx → RPs m F (htag H) σ nx args as →
    ACalls E.P E.O E.G f as m fun v m' => ∃ r H' nx' F' σ', Q r H' nx' ∧ Ctx E.Γ m' F' σ' H' nx' ∧ RP m' F' (htag H') σ' nx' r v ∧ Step m F σ H nx m' F' σ' H' nx'

variable {E : Env} {bn : Nat} {L : Frame} {H : Heap} {nx : Nat} {Q : AExit → Frame → Heap → Nat → Prop}

/-! ## Code -/
theorem VWp.mono {c : Code} {R : AExit → Frame → Heap → Nat → Prop} (h : VWp E bn c L H nx R) (hq : ∀ e L' H' nx', R e L' H' nx' → Q e L' H' nx') : VWp E bn c L H nx Q :=
  fun B hB m F σ t h1 h2 h3 => (h B hB m F σ t h1 h2 h3).mono fun _ _ ⟨L', H', nx', F', σ', q, r⟩ => ⟨L', H', nx', F', σ', hq _ _ _ _ q, r⟩

theorem VWp.seq {a b : Code} (h : VWp E bn a L H nx fun e L' H' nx' => match e with | .normal => VWp E bn b L' H' nx' Q | .ret => Q .ret L' H' nx' | .exit i => Q (.exit i) L' H' nx') : VWp E bn (.seq a b) L H nx Q := by
  intro B hB m F σ t h1 h2 h3
  refine AWp.seq ((h B hB m F σ t h1 h2 h3).mono ?_)
  rintro e s' ⟨L', H', nx', F', σ', q, c1, c2, c3⟩
  cases e with
  | normal => exact q B hB _ _ _ _ c1 c2 c3
  | ret => exact ⟨L', H', nx', F', σ', q, c1, c2, c3⟩
  | exit i => exact ⟨L', H', nx', F', σ', q, c1, c2, c3⟩

theorem VWp.skip (h : Q .normal L H nx) : VWp E bn .skip L H nx Q := fun _ _ _ F σ _ h1 h2 h3 => AWp.skip ⟨L, H, nx, F, σ, h, h1, h2, h3⟩
theorem VWp.label {n : Nat} (h : Q .normal L H nx) : VWp E bn (.label n) L H nx Q := fun _ _ _ F σ _ h1 h2 h3 => AWp.label ⟨L, H, nx, F, σ, h, h1, h2, h3⟩
theorem VWp.ret (h : Q .ret L H nx) : VWp E bn .ret L H nx Q := fun _ _ _ F σ _ h1 h2 h3 => AWp.ret ⟨L, H, nx, F, σ, h, h1, h2, h3⟩
theorem VWp.exit {i : Nat} (h : Q (.exit i) L H nx) : VWp E bn (.exit i) L H nx Q := fun _ _ _ F σ _ h1 h2 h3 => AWp.exit ⟨L, H, nx, F, σ, h, h1, h2, h3⟩

theorem vev_bool {Γ : Nat → Option (List Value × TypeId)} {m : Mem} {F : Nat → Prop} {σ : Nat → Value} {t : Tr Value} {b : Bool} {o : Operand} (hx : Ctx Γ m F σ H nx) (hl : RL m F (htag H) σ nx L t) (h : vev Γ L o = some (.p (.bool b))) : ev t o = .bool b := by
  have := vev_rel hx hl h
  generalize hv : ev t o = v at this
  rcases this with ⟨h⟩
  rename_i h
  cases h
  rfl

theorem VWp.cond {c : Operand} {a b : Code} (t : Bool) (hc : vev E.Γ L c = some (.p (.bool t))) (ht : t = true → VWp E bn a L H nx Q) (hf : t = false → VWp E bn b L H nx Q) : VWp E bn (.cond c a b) L H nx Q :=
  fun B hB m F σ u h1 h2 h3 => AWp.cond t (vev_bool h1 h2 hc) (fun e => ht e B hB m F σ u h1 h2 h3) (fun e => hf e B hB m F σ u h1 h2 h3)
theorem VWp.cond_true {c : Operand} {a b : Code} (hc : vev E.Γ L c = some (.p (.bool true))) (ht : VWp E bn a L H nx Q) : VWp E bn (.cond c a b) L H nx Q := VWp.cond true hc (fun _ => ht) (fun h => by cases h)
theorem VWp.cond_false {c : Operand} {a b : Code} (hc : vev E.Γ L c = some (.p (.bool false))) (hf : VWp E bn b L H nx Q) : VWp E bn (.cond c a b) L H nx Q := VWp.cond false hc (fun h => by cases h) (fun _ => hf)
theorem VWp.cond_dec {c : Operand} {a b : Code} {p : Prop} {_ : Decidable p} (hc : vev E.Γ L c = some (.p (.bool (decide p)))) (ht : p → VWp E bn a L H nx Q) (hf : ¬ p → VWp E bn b L H nx Q) : VWp E bn (.cond c a b) L H nx Q :=
  VWp.cond (decide p) hc (fun h => ht (of_decide_eq_true h)) (fun h => hf (of_decide_eq_false h))
theorem VWp.cond_not {c : Operand} {a b : Code} {p : Prop} {_ : Decidable p} (hc : vev E.Γ L c = some (.p (.bool (!decide p)))) (ht : ¬ p → VWp E bn a L H nx Q) (hf : p → VWp E bn b L H nx Q) : VWp E bn (.cond c a b) L H nx Q :=
  VWp.cond (!decide p) hc (fun h => ht (by simpa using h)) (fun h => hf (by simpa using h))

theorem VWp.block {id : Nat} {b : Code} (h : VWp E bn b L H nx fun e L' H' nx' => match e with | .normal => Q .normal L' H' nx' | .ret => Q .ret L' H' nx' | .exit i => if i = id then Q .normal L' H' nx' else Q (.exit i) L' H' nx') :
    VWp E bn (.block id b) L H nx Q := by
  intro B hB m F σ t h1 h2 h3
  refine AWp.block ((h B hB m F σ t h1 h2 h3).mono ?_)
  rintro e s' ⟨L', H', nx', F', σ', q, c⟩
  cases e with
  | normal => exact ⟨L', H', nx', F', σ', q, c⟩
  | ret => exact ⟨L', H', nx', F', σ', q, c⟩
  | exit i =>
    simp only at q ⊢
    split
    · rename_i hi; rw [if_pos hi] at q; exact ⟨L', H', nx', F', σ', q, c⟩
    · rename_i hi; rw [if_neg hi] at q; exact ⟨L', H', nx', F', σ', q, c⟩

theorem VWp.region {id : Nat} {ops : Array Oper} (h : VOps E bn ops ops.toList L H nx (Q .normal)) : VWp E bn (.region id ops false) L H nx Q :=
  fun B hB m F σ t h1 h2 h3 => AWp.region (h B hB m F σ t h1 h2 h3)
theorem VWp.regionD {id : Nat} {ops : Array Oper} (h : VOpsD E bn ops 0 ops.toList L H nx (Q .normal)) : VWp E bn (.region id ops true) L H nx Q :=
  fun B hB m F σ t h1 h2 h3 => AWp.regionD (h B hB m F σ t h1 h2 h3)

/-! ## Less is known -/
mutual
inductive FLe : FV → FV → Prop
  | refl (x : FV) : FLe x x
  | nil (e : TypeId) : FLe (.val (.slice none 0 0)) (.lst e [] 0)
  | agg {cs ds : List FV} (h : FLes cs ds) : FLe (.agg cs) (.agg ds)
  | lst {e : TypeId} {n : Nat} {cs ds : List FV} (h : FLes cs ds) : FLe (.lst e cs n) (.lst e ds n)
  | cptr {cs ds : List FV} (h : FLes cs ds) : FLe (.cptr cs) (.cptr ds)
inductive FLes : List FV → List FV → Prop
  | refl (l : List FV) : FLes l l
  | cons {a b : FV} {l l' : List FV} (h : FLe a b) (t : FLes l l') : FLes (a :: l) (b :: l')
end
theorem FLe.of_eq {x y : FV} (h : x = y) : FLe x y := h ▸ .refl _
theorem FLes.of_eq {x y : List FV} (h : x = y) : FLes x y := h ▸ .refl _

mutual
inductive PLe : PV → PV → Prop
  | refl (x : PV) : PLe x x
  | p {x y : FV} (h : FLe x y) : PLe (.p x) (.p y)
  | agg {cs ds : List PV} (h : PLes cs ds) : PLe (.agg cs) (.agg ds)
  | tup {cs ds : List PV} (h : PLes cs ds) : PLe (.tup cs) (.tup ds)
inductive PLes : List PV → List PV → Prop
  | refl (l : List PV) : PLes l l
  | cons {a b : PV} {l l' : List PV} (h : PLe a b) (t : PLes l l') : PLes (a :: l) (b :: l')
end
theorem PLe.of_eq {x y : PV} (h : x = y) : PLe x y := h ▸ .refl _
theorem PLes.of_eq {x y : List PV} (h : x = y) : PLes x y := h ▸ .refl _

mutual
theorem FLe.length {cs ds : List FV} : FLes cs ds → cs.length = ds.length
  | .refl _ => rfl
  | .cons _ t => by simp [FLe.length t]
end

section
variable {m : Mem} {F : Nat → Prop}
mutual
theorem RF.le : ∀ {x y : FV}, FLe x y → ∀ {v : Value}, RF m F x v → RF m F y v
  | _, _, .refl _, _, h => h
  | _, _, .nil e, _, h => by cases h; exact RF.nil e
  | _, _, .agg h, _, r => by cases r with | agg h1 hc => exact .agg (RFs.le h h1) hc
  | _, _, .lst h, _, r => by
    cases r with
    | nil => cases h with | refl => exact .nil _
    | room => cases h with | refl => exact .room _ _ _ _
    | lst hF hm hw h1 hc => exact .lst hF hm (by rw [← FLe.length h]; exact hw) (RFs.le h h1) hc
  | _, _, .cptr h, _, r => by cases r with | cptr hF hm hg hw h1 hc => exact .cptr hF hm hg (by rw [← FLe.length h]; exact hw) (RFs.le h h1) hc
theorem RFs.le : ∀ {x y : List FV}, FLes x y → ∀ {v : List Value}, RFs m F x v → RFs m F y v
  | _, _, .refl _, _, h => h
  | _, _, .cons h t, _, r => by cases r with | cons h1 t1 => exact .cons (RF.le h h1) (RFs.le t t1)
end
variable {T : Nat → Option Tg} {σ : Nat → Value} {n : Nat}
mutual
theorem RP.le : ∀ {x y : PV}, PLe x y → ∀ {v : Value}, RP m F T σ n x v → RP m F T σ n y v
  | _, _, .refl _, _, h => h
  | _, _, .p h, _, r => by cases r with | p h1 => exact .p (RF.le h h1)
  | _, _, .agg h, _, r => by cases r with | agg h1 hc => exact .agg (RPs.le h h1) hc
  | _, _, .tup h, _, r => by cases r with | tup h1 => exact .tup (RPs.le h h1)
theorem RPs.le : ∀ {x y : List PV}, PLes x y → ∀ {v : List Value}, RPs m F T σ n x v → RPs m F T σ n y v
  | _, _, .refl _, _, h => h
  | _, _, .cons h t, _, r => by cases r with | cons h1 t1 => exact .cons (RP.le h h1) (RPs.le t t1)
end
end

mutual
def PV.under (k : Nat) : PV → Prop
  | .p _ => True
  | .agg cs => PVs.under k cs
  | .tup cs => PVs.under k cs
  | .vec b _ _ _ => b < k
  | .ref b _ => b < k
  | .eref b _ _ => b < k
  | .mref b => b < k
  | .clo _ fs cs => PVs.under k fs ∧ PVs.under k cs
def PVs.under (k : Nat) : List PV → Prop
  | [] => True
  | c :: cs => PV.under k c ∧ PVs.under k cs
end
theorem PVs.under_pure (k : Nat) : ∀ cs : List FV, PVs.under k (cs.map .p)
  | [] => trivial
  | _ :: cs => ⟨trivial, PVs.under_pure k cs⟩

section
variable {m : Mem} {F : Nat → Prop} {T T' : Nat → Option Tg} {σ : Nat → Value} {nx nx' : Nat}
mutual
theorem RP.low (hT : ∀ b t, T' b = some t → T b = some t) : ∀ {x : PV} {v : Value}, x.under nx' → RP m F T σ nx x v → RP m F T' σ nx' x v
  | _, _, _, .p h => .p h
  | _, _, hb, .agg h hc => .agg (RPs.low hT hb h) hc
  | _, _, hb, .tup h => .tup (RPs.low hT hb h)
  | _, _, hb, .vec _ hc h => .vec hb hc fun n ht => h n (hT _ _ ht)
  | _, _, hb, .ref _ hc h => .ref hb hc fun ht => h (hT _ _ ht)
  | _, _, hb, .eref _ hc h => .eref hb hc fun n ht => h n (hT _ _ ht)
  | _, _, hb, .mref _ hc h => .mref hb hc fun ht => h (hT _ _ ht)
  | _, _, hb, .clo h1 h2 => .clo (RPs.low hT hb.1 h1) (RPs.low hT hb.2 h2)
theorem RPs.low (hT : ∀ b t, T' b = some t → T b = some t) : ∀ {x : List PV} {v : List Value}, PVs.under nx' x → RPs m F T σ nx x v → RPs m F T' σ nx' x v
  | _, _, _, .nil => .nil
  | _, _, hb, .cons h t => .cons (RP.low hT hb.1 h) (RPs.low hT hb.2 t)
end
end

/-- what frame L0 says, frame L says too -/
def LCov (k : Nat) : Frame → Frame → Prop
  | [], _ => True
  | (i, v0) :: L0, L => (v0.under k ∧ ∃ v, lget L i = some v ∧ PLe v v0) ∧ LCov k L0 L

inductive HLe : HB → HB → Prop
  | refl (x : HB) : HLe x x
  | box {e : TypeId} {cs ds : List PV} (h : PLes cs ds) : HLe (.box e cs) (.box e ds)
  | vec {e : TypeId} {cs ds : List FV} {n k : Nat} {z : Bool} (h : FLes cs ds) (hn : n = k) : HLe (.vec e cs n z) (.vec e ds k z)
theorem HLe.of_eq {x y : HB} (h : x = y) : HLe x y := h ▸ .refl _

def HB.under (k : Nat) : HB → Prop
  | .box _ cs => PVs.under k cs
  | _ => True

def HCov (k : Nat) : Heap → Heap → Prop
  | [], _ => True
  | (i, x0) :: H0, H => (i < k ∧ x0.under k ∧ ∃ x, hget H i = some x ∧ HLe x x0) ∧ HCov k H0 H

structure Cov (L : Frame) (H : Heap) (nx : Nat) (L0 : Frame) (H0 : Heap) (nx0 : Nat) : Prop where
  n : nx0 ≤ nx
  l : LCov nx0 L0 L
  h : HCov nx0 H0 H

theorem LCov.get {k : Nat} {L : Frame} : ∀ {L0 : Frame}, LCov k L0 L → ∀ i v0, lget L0 i = some v0 → v0.under k ∧ ∃ v, lget L i = some v ∧ PLe v v0
  | [], _, _, _, h => by cases h
  | (j, w) :: L0, ⟨h1, h2⟩, i, v0, h => by
    rw [lget_cons] at h
    by_cases e : j = i
    · rw [if_pos e] at h; cases h; subst e; exact h1
    · rw [if_neg e] at h; exact LCov.get h2 i v0 h
theorem HCov.get {k : Nat} {H : Heap} : ∀ {H0 : Heap}, HCov k H0 H → ∀ i v0, hget H0 i = some v0 → i < k ∧ v0.under k ∧ ∃ v, hget H i = some v ∧ HLe v v0
  | [], _, _, _, h => by cases h
  | (j, w) :: L0, ⟨h1, h2⟩, i, v0, h => by
    rw [hget_cons] at h
    by_cases e : j = i
    · rw [if_pos e] at h; cases h; subst e; exact h1
    · rw [if_neg e] at h; exact HCov.get h2 i v0 h

theorem HLe.tag {x y : HB} (h : HLe x y) : x.tag = y.tag := by
  cases h with
  | refl => rfl
  | box => rfl
  | vec _ hn => simp [HB.tag, hn]

theorem HCov.tag {k : Nat} {H H0 : Heap} (h : HCov k H0 H) (b : Nat) (t : Tg) (ht : htag H0 b = some t) : htag H b = some t := by
  unfold htag at ht ⊢
  cases h0 : hget H0 b with
  | none => rw [h0] at ht; cases ht
  | some x0 =>
    rw [h0] at ht
    obtain ⟨_, _, x, hx, hle⟩ := h.get b x0 h0
    rw [hx, Option.map_some, hle.tag]
    exact ht

theorem Cov.own {L0 : Frame} {H0 : Heap} {nx0 : Nat} (h : Cov L H nx L0 H0 nx0) {σ : Nat → Value} {c : Nat} (ho : Vm.own H0 σ c) : Vm.own H σ c := by
  obtain ⟨b, x, hb, hc⟩ := ho
  obtain ⟨_, _, y, hy, _⟩ := h.h.get b x hb
  exact ⟨b, y, hy, hc⟩

theorem Cov.ctx {Γ : Nat → Option (List Value × TypeId)} {m : Mem} {F : Nat → Prop} {σ : Nat → Value} {L0 : Frame} {H0 : Heap} {nx0 : Nat} (h : Cov L H nx L0 H0 nx0) (hx : Ctx Γ m F σ H nx) : Ctx Γ m F σ H0 nx0 where
  fr := hx.fr
  hp b x0 hb := by
    obtain ⟨h1, h2, x, h3, h4⟩ := h.h.get b x0 hb
    refine ⟨h1, ?_⟩
    obtain ⟨_, hr⟩ := hx.hp b x h3
    have hT := fun b t => HCov.tag h.h b t
    cases h4 with
    | refl =>
      cases x0 with
      | box e cs => obtain ⟨c, vs, r1, r2, r3, r4, r5, r6⟩ := hr; exact ⟨c, vs, r1, r2, r3, r4, RPs.low hT h2 r5, r6⟩
      | vec e cs n z => exact hr
      | map es => exact hr
    | box hle => obtain ⟨c, vs, r1, r2, r3, r4, r5, r6⟩ := hr; exact ⟨c, vs, r1, r2, r3, r4, RPs.low hT h2 (RPs.le hle r5), r6⟩
    | vec hle hn =>
      subst hn
      rcases hr with ⟨r1, r2, r3⟩ | ⟨c, g, vs, r1, r2, r3, r4, r5, r6⟩
      · subst r1
        cases hle with | refl => exact .inl ⟨rfl, r2, r3⟩
      · exact .inr ⟨c, g, vs, r1, r2, r3, r4, RFs.le hle r5, r6⟩
  sep b b' x x' c h1 h2 h3 h4 := by
    obtain ⟨_, _, y, hy, _⟩ := h.h.get b x h1
    obtain ⟨_, _, y', hy', _⟩ := h.h.get b' x' h2
    exact hx.sep b b' y y' c hy hy' h3 h4
  gl := hx.gl

theorem Cov.rl {m : Mem} {F : Nat → Prop} {σ : Nat → Value} {L0 : Frame} {H0 : Heap} {nx0 : Nat} (h : Cov L H nx L0 H0 nx0) {t : Tr Value} (hl : RL m F (htag H) σ nx L t) : RL m F (htag H0) σ nx0 L0 t := fun i v hi => by
  obtain ⟨h1, w, h2, h3⟩ := h.l.get i v hi
  exact RP.low (fun b t => HCov.tag h.h b t) h1 (RP.le h3 (hl i w h2))

theorem Cov.step {B : Base} {m : Mem} {F : Nat → Prop} {σ : Nat → Value} {L0 : Frame} {H0 : Heap} {nx0 : Nat} (h : Cov L H nx L0 H0 nx0) (hb : B.nx ≤ nx0) (hs : B.to m F σ H nx) : B.to m F σ H0 nx0 where
  size := hs.size
  keep := hs.keep
  fmono := hs.fmono
  fback := hs.fback
  oback c hc ho := hs.oback c hc (h.own ho)
  nxle := hb
  names b hb := by
    obtain ⟨h1, h2⟩ := hs.names b hb
    cases h0 : htag H0 b with
    | none => exact ⟨trivial, fun _ _ e => by cases e⟩
    | some t =>
      have := HCov.tag h.h b t h0
      rw [this] at h1 h2
      exact ⟨h1, h2⟩
  low := hs.low

end Go.Vm
