/-
  The values' layer: operations, first part: what makes and changes own objects. No condition. Nothing of one program stands here.
-/
import Derived.Test.YtmfnchgkffhpfaaDoorVm4
namespace Go.Vm
open Go.Am
variable {E : Env} {L : Frame} {H : Heap} {nx : Nat} {Q : PV → Heap → Nat → Prop} {w : Bool}

theorem VVal.quiet {o : Oper} {r : PV} (q : Q r H nx) (h : ∀ m F σ t, Ctx E.Γ m F σ H nx → RL m F (htag H) σ nx L t → ∃ v, (∀ call, aval E.P call (ev t) o m = some (v, m)) ∧ RP m F (htag H) σ nx r v) : VVal E w o L H nx Q :=
  fun m F σ t h1 h2 => by
    obtain ⟨v, h3, h4⟩ := h m F σ t h1 h2
    exact AVal.op h3 ⟨r, H, nx, F, σ, q, h1, h4, Step.refl _ _ _ _ _, fun _ k hk _ => hk⟩

section
variable {m : Mem} {F : Nat → Prop} {T : Nat → Option Tg} {σ : Nat → Value} {n : Nat}
theorem RF.cell {x : FV} {v : Value} (h : RF m F x v) : (∃ cs, x = .agg cs) ∨ isCell v = true := by
  cases h with
  | agg h hc => exact .inl ⟨_, rfl⟩
  | val h => exact .inr (by have := all_plain_isCell (l := [_]) (by simpa using h); simpa using this)
  | _ => exact .inr rfl

/-- the cells of a value -/
def pcells : PV → List PV
  | .p (.agg cs) => cs.map .p
  | .agg cs => cs
  | x => [x]
def notTup : PV → Prop
  | .tup _ => False
  | _ => True

theorem RPs.ofRFs : ∀ {cs : List FV} {vs : List Value}, RFs m F cs vs → RPs m F T σ n (cs.map .p) vs
  | _, _, .nil => .nil
  | _, _, .cons h t => .cons (.p h) (RPs.ofRFs t)
theorem RFs.ofRPs : ∀ {cs : List FV} {vs : List Value}, RPs m F T σ n (cs.map .p) vs → RFs m F cs vs
  | [], _, .nil => .nil
  | _ :: _, _, .cons (.p h) t => .cons h (RFs.ofRPs t)

theorem cells_one {v : Value} (h : isCell v = true) : v.cells = #[v] := by
  cases v <;> first | rfl | cases h

theorem pcells_rel {x : PV} {v : Value} (hn : notTup x) (h : RP m F T σ n x v) : RPs m F T σ n (pcells x) v.cells.toList ∧ v.cells.toList.all isCell = true := by
  cases h with
  | tup h => exact hn.elim
  | agg h hc => exact ⟨h, hc⟩
  | p h =>
    rcases h.cell with ⟨cs, rfl⟩ | hc
    · cases h with | agg h hc => exact ⟨RPs.ofRFs h, hc⟩
    · rw [cells_one hc]
      refine ⟨?_, by simp [hc]⟩
      cases h <;> first | exact .cons (.p (by assumption)) .nil | skip
      · exact .cons (.p (.int _ _)) .nil
      · exact .cons (.p (.bool _)) .nil
      · exact .cons (.p (.str _)) .nil
      · rename_i h; exact .cons (.p (.val h)) .nil
      · cases hc
      · exact .cons (.p (.nil _)) .nil
      · exact .cons (.p (.room _ _ _ _)) .nil
      · rename_i h1 h2 h3 h4 h5; exact .cons (.p (.lst h1 h2 h3 h4 h5)) .nil
      · rename_i h1 h2 h3 h4 h5 h6; exact .cons (.p (.cptr h1 h2 h3 h4 h5 h6)) .nil
  | vec hb hc h => rw [cells_one hc]; exact ⟨.cons (.vec hb hc h) .nil, by simp [hc]⟩
  | ref hb hc h => rw [cells_one hc]; exact ⟨.cons (.ref hb hc h) .nil, by simp [hc]⟩
  | eref hb hc h => rw [cells_one hc]; exact ⟨.cons (.eref hb hc h) .nil, by simp [hc]⟩
  | mref hb hc h => rw [cells_one hc]; exact ⟨.cons (.mref hb hc h) .nil, by simp [hc]⟩
  | clo h1 h2 => exact ⟨.cons (.clo h1 h2) .nil, rfl⟩
end

/-! ## A new object -/
theorem htag_cons (b : Nat) (x : HB) (H : Heap) (c : Nat) : htag ((b, x) :: H) c = if b = c then some x.tag else htag H c := by
  unfold htag
  rw [hget_cons]
  split <;> rfl
theorem htag_hput (H : Heap) (b c : Nat) (y : HB) : htag (hput H b y) c = if b = c then (htag H b).map (fun _ => y.tag) else htag H c := by
  unfold htag
  rw [hget_hput]
  split
  · cases hget H b <;> rfl
  · rfl

theorem Ctx.tagNone {Γ : Nat → Option (List Value × TypeId)} {m : Mem} {F : Nat → Prop} {σ : Nat → Value} (h : Ctx Γ m F σ H nx) {b : Nat} (hb : nx ≤ b) : hget H b = none := by
  cases hh : hget H b with
  | none => rfl
  | some x => have := (h.hp b x hh).1; omega

def upd (σ : Nat → Value) (b : Nat) (v : Value) : Nat → Value := fun c => if c = b then v else σ c
theorem upd_same (σ : Nat → Value) (b : Nat) (v : Value) : upd σ b v b = v := if_pos rfl
theorem upd_other (σ : Nat → Value) {b c : Nat} (v : Value) (h : c ≠ b) : upd σ b v c = σ c := if_neg h

theorem RB.mono {m m' : Mem} {F F' : Nat → Prop} {T T' : Nat → Option Tg} {σ σ' : Nat → Value} {n n' : Nat} {s : Value} {x : HB} (hF : ∀ c, F c → F' c ∧ m'.get c = m.get c) (hN : Names n T σ T' σ') (hn : n ≤ n')
    (hs : m.size ≤ m'.size) (ho : ∀ c, blkOf s = some c → m'.get c = m.get c ∧ ¬ F' c) (h : RB m F T σ n s x) : RB m' F' T' σ' n' s x := by
  cases x with
  | box e cs =>
    obtain ⟨c, vs, r1, r2, r3, r4, r5, r6⟩ := h
    obtain ⟨h1, h2⟩ := ho c (by rw [r1]; rfl)
    exact ⟨c, vs, r1, by omega, h2, h1.trans r4, r5.mono hF hN hn, r6⟩
  | vec e cs k z =>
    rcases h with h | ⟨c, g, vs, r1, r2, r3, r4, r5, r6⟩
    · exact .inl h
    · obtain ⟨h1, h2⟩ := ho c (by rw [r1]; rfl)
      exact .inr ⟨c, g, vs, r1, by omega, h2, h1.trans r4, r5.mono hF, r6⟩
  | map es =>
    obtain ⟨r, l, clock, r1, r2, r3, r4, r5, r6⟩ := h
    obtain ⟨h1, h2⟩ := ho r (by rw [r1]; rfl)
    exact ⟨r, l, clock, r1, by omega, h2, h1.trans r4, r5.mono hF, r6.mono hF⟩

theorem new_names {Γ : Nat → Option (List Value × TypeId)} {m : Mem} {F : Nat → Prop} {σ : Nat → Value} (x : HB) (s : Value) : Names nx (htag H) σ (htag ((nx, x) :: H)) (upd σ nx s) := fun b hb => by
  rw [htag_cons, if_neg (by omega), upd_other _ _ (by omega)]
  exact ⟨TLe.refl _, fun _ _ _ => rfl⟩

theorem Ctx.new {Γ : Nat → Option (List Value × TypeId)} {m m' : Mem} {F : Nat → Prop} {σ : Nat → Value} {x : HB} {s : Value} (h : Ctx Γ m F σ H nx) (hsz : m.size ≤ m'.size) (hget' : ∀ c, c < m.size → m'.get c = m.get c) (hlow : min m.low m.size ≤ m'.low)
    (hs : ∀ c, blkOf s = some c → m.size ≤ c) (hr : RB m' F (htag ((nx, x) :: H)) (upd σ nx s) (nx + 1) s x) :
    Ctx Γ m' F (upd σ nx s) ((nx, x) :: H) (nx + 1) ∧ Step m F σ H nx m' F (upd σ nx s) ((nx, x) :: H) (nx + 1) ∧ Quiet m m' := by
  have hfz : ∀ c, F c → F c ∧ m'.get c = m.get c := fun c hc => ⟨hc, hget' c (h.fr c hc)⟩
  have hN := new_names (Γ := Γ) (m := m) (F := F) (σ := σ) (H := H) (nx := nx) x s
  refine ⟨⟨fun c hc => Nat.lt_of_lt_of_le (h.fr c hc) hsz, ?_, ?_, ?_⟩, ⟨hsz, fun c hc _ => hget' c hc, fun _ h => h, fun _ _ h => .inl h, ?_, Nat.le_succ _, hN, ?_⟩, ?_⟩
  · intro b y hb
    rw [hget_cons] at hb
    by_cases e : nx = b
    · rw [if_pos e] at hb; cases hb; subst e
      rw [upd_same]
      exact ⟨by omega, hr⟩
    · rw [if_neg e] at hb
      obtain ⟨h1, h2⟩ := h.hp b y hb
      rw [upd_other _ _ (Ne.symm e)]
      refine ⟨by omega, h2.mono hfz hN (Nat.le_succ _) hsz fun c hc => ?_⟩
      have := h.notF ⟨b, y, hb, hc⟩
      exact ⟨hget' c this.2, this.1⟩
  · intro b b' y y' c h1 h2 h3 h4
    rw [hget_cons] at h1 h2
    by_cases e : nx = b <;> by_cases e' : nx = b'
    · omega
    · subst e
      rw [if_neg e'] at h2
      rw [upd_same] at h3
      rw [upd_other _ _ (Ne.symm e')] at h4
      have := (h.notF ⟨b', y', h2, h4⟩).2
      have := hs c h3
      omega
    · subst e'
      rw [if_neg e] at h1
      rw [upd_same] at h4
      rw [upd_other _ _ (Ne.symm e)] at h3
      have := (h.notF ⟨b, y, h1, h3⟩).2
      have := hs c h4
      omega
    · rw [if_neg e] at h1
      rw [if_neg e'] at h2
      rw [upd_other _ _ (Ne.symm e)] at h3
      rw [upd_other _ _ (Ne.symm e')] at h4
      exact h.sep b b' y y' c h1 h2 h3 h4
  · intro g vs e hg
    obtain ⟨h1, h2, h3⟩ := h.gl g vs e hg
    exact ⟨h1, (hget' g (h.fr g h1)).trans h2, h3⟩
  · rintro c hc ⟨b, y, hb, hbc⟩
    rw [hget_cons] at hb
    by_cases e : nx = b
    · subst e
      rw [upd_same] at hbc
      have := hs c hbc
      omega
    · rw [if_neg e] at hb
      rw [upd_other _ _ (Ne.symm e)] at hbc
      exact ⟨b, y, hb, hbc⟩
  · intro k h1 h2 _; omega
  · intro k h1 h2; omega

/-! ## A changed object -/
theorem change_names {b0 : Nat} {x0 x' : HB} {σ : Nat → Value} {s' : Value} (hb : hget H b0 = some x0) (ht : TLe (some x0.tag) (some x'.tag)) (hs : x0.tag = x'.tag → s' = σ b0) :
    Names nx (htag H) σ (htag (hput H b0 x')) (upd σ b0 s') := fun b _ => by
  rw [htag_hput]
  by_cases e : b0 = b
  · subst e
    have h0 : htag H b0 = some x0.tag := by simp [htag, hb]
    rw [if_pos rfl, h0, upd_same]
    refine ⟨ht, fun t h1 h2 => hs ?_⟩
    simp only [Option.map_some, Option.some.injEq] at h1 h2
    rw [h1, h2]
  · rw [if_neg e, upd_other _ _ (Ne.symm e)]
    exact ⟨TLe.refl _, fun _ _ _ => rfl⟩

theorem Ctx.change {Γ : Nat → Option (List Value × TypeId)} {m m' : Mem} {F : Nat → Prop} {σ : Nat → Value} {b0 : Nat} {x0 x' : HB} {s' : Value} (h : Ctx Γ m F σ H nx) (hb : hget H b0 = some x0) (ht : TLe (some x0.tag) (some x'.tag)) (hs : x0.tag = x'.tag → s' = σ b0)
    (hsz : m.size ≤ m'.size) (hget' : ∀ c, c < m.size → blkOf (σ b0) ≠ some c → m'.get c = m.get c) (hlow : ∀ k, k ≤ m.low → k ≤ m.size → (∀ c, blkOf (σ b0) = some c → k ≤ c) → k ≤ m'.low)
    (hblk : ∀ c, blkOf s' = some c → blkOf (σ b0) = some c ∨ m.size ≤ c) (hr : RB m' F (htag (hput H b0 x')) (upd σ b0 s') nx s' x') :
    Ctx Γ m' F (upd σ b0 s') (hput H b0 x') nx ∧ Step m F σ H nx m' F (upd σ b0 s') (hput H b0 x') nx := by
  have hown : ∀ c, blkOf (σ b0) = some c → own H σ c := fun c hc => ⟨b0, x0, hb, hc⟩
  have hfz : ∀ c, F c → F c ∧ m'.get c = m.get c := fun c hc => ⟨hc, hget' c (h.fr c hc) fun e => (h.notF (hown c e)).1 hc⟩
  have hN : Names nx (htag H) σ (htag (hput H b0 x')) (upd σ b0 s') := change_names hb ht hs
  have hg0 : hget (hput H b0 x') b0 = some x' := by rw [hget_hput, if_pos rfl, hb]; rfl
  have hgo : ∀ b, b ≠ b0 → hget (hput H b0 x') b = hget H b := fun b e => by rw [hget_hput, if_neg (Ne.symm e)]
  refine ⟨⟨fun c hc => Nat.lt_of_lt_of_le (h.fr c hc) hsz, ?_, ?_, ?_⟩, ⟨hsz, fun c hc ho => hget' c hc fun e => ho (hown c e), fun _ h => h, fun _ _ h => .inl h, ?_, Nat.le_refl _, hN, ?_⟩⟩
  · intro b y hy
    by_cases e : b = b0
    · subst e
      rw [hg0] at hy; cases hy
      rw [upd_same]
      exact ⟨(h.hp b x0 hb).1, hr⟩
    · rw [hgo b e] at hy
      obtain ⟨h1, h2⟩ := h.hp b y hy
      rw [upd_other _ _ e]
      refine ⟨h1, h2.mono hfz hN (Nat.le_refl _) hsz fun c hc => ?_⟩
      have := h.notF ⟨b, y, hy, hc⟩
      exact ⟨hget' c this.2 fun e' => e (h.sep b b0 y x0 c hy hb hc e'), this.1⟩
  · intro b b' y y' c h1 h2 h3 h4
    by_cases e : b = b0 <;> by_cases e' : b' = b0
    · omega
    · subst e
      rw [hgo b' e'] at h2
      rw [upd_same] at h3
      rw [upd_other _ _ e'] at h4
      rcases hblk c h3 with h5 | h5
      · exact h.sep b b' x0 y' c hb h2 h5 h4
      · have := (h.notF ⟨b', y', h2, h4⟩).2; omega
    · subst e'
      rw [hgo b e] at h1
      rw [upd_same] at h4
      rw [upd_other _ _ e] at h3
      rcases hblk c h4 with h5 | h5
      · exact h.sep b b' y x0 c h1 hb h3 h5
      · have := (h.notF ⟨b, y, h1, h3⟩).2; omega
    · rw [hgo b e] at h1
      rw [hgo b' e'] at h2
      rw [upd_other _ _ e] at h3
      rw [upd_other _ _ e'] at h4
      exact h.sep b b' y y' c h1 h2 h3 h4
  · intro g vs e hg
    obtain ⟨h1, h2, h3⟩ := h.gl g vs e hg
    exact ⟨h1, (hfz g h1).2.trans h2, h3⟩
  · rintro c hc ⟨b, y, hy, hbc⟩
    by_cases e : b = b0
    · subst e
      rw [upd_same] at hbc
      rcases hblk c hbc with h5 | h5
      · exact hown c h5
      · omega
    · rw [hgo b e] at hy
      rw [upd_other _ _ e] at hbc
      exact ⟨b, y, hy, hbc⟩
  · intro k h1 h2 h3
    exact hlow k h1 h2 fun c hc => h3 c (hown c hc)

/-! ## Lists changed in place -/
def psplice {α : Type} (cs : List α) : Nat → List α → List α
  | _, [] => cs
  | o, v :: l => psplice (cs.set o v) (o + 1) l

section
variable {m : Mem} {F : Nat → Prop} {T : Nat → Option Tg} {σ : Nat → Value} {n : Nat}
theorem RPs.set : ∀ {cs : List PV} {vs : List Value} (i : Nat) {x : PV} {v : Value}, RPs m F T σ n cs vs → RP m F T σ n x v → RPs m F T σ n (cs.set i x) (vs.set i v)
  | _, _, _, _, _, .nil, _ => .nil
  | _, _, 0, _, _, .cons _ t, h => .cons h t
  | _, _, i + 1, _, _, .cons h t, h' => .cons h (RPs.set i t h')
theorem RFs.set : ∀ {cs : List FV} {vs : List Value} (i : Nat) {x : FV} {v : Value}, RFs m F cs vs → RF m F x v → RFs m F (cs.set i x) (vs.set i v)
  | _, _, _, _, _, .nil, _ => .nil
  | _, _, 0, _, _, .cons _ t, h => .cons h t
  | _, _, i + 1, _, _, .cons h t, h' => .cons h (RFs.set i t h')
theorem RPs.splice : ∀ {l : List PV} {ws : List Value} {cs : List PV} {vs : List Value} (o : Nat), RPs m F T σ n cs vs → RPs m F T σ n l ws → RPs m F T σ n (psplice cs o l) (splice vs o ws)
  | _, _, _, _, _, h, .nil => h
  | _, _, _, _, o, h, .cons h1 t => RPs.splice (o + 1) (h.set o h1) t
theorem RFs.splice : ∀ {l : List FV} {ws : List Value} {cs : List FV} {vs : List Value} (o : Nat), RFs m F cs vs → RFs m F l ws → RFs m F (psplice cs o l) (splice vs o ws)
  | _, _, _, _, _, h, .nil => h
  | _, _, _, _, o, h, .cons h1 t => RFs.splice (o + 1) (h.set o h1) t
theorem RFs.append : ∀ {cs ds : List FV} {vs ws : List Value}, RFs m F cs vs → RFs m F ds ws → RFs m F (cs ++ ds) (vs ++ ws)
  | _, _, _, _, .nil, h => h
  | _, _, _, _, .cons h t, h' => .cons h (RFs.append t h')
end

theorem all_set {l : List Value} (h : l.all isCell = true) {v : Value} (hv : isCell v = true) (i : Nat) : (l.set i v).all isCell = true := by
  rw [List.all_eq_true] at h ⊢
  intro x hx
  rcases List.mem_or_eq_of_mem_set hx with hx | rfl
  · exact h x hx
  · exact hv
theorem all_splice : ∀ {ws l : List Value} (o : Nat), l.all isCell = true → ws.all isCell = true → (splice l o ws).all isCell = true
  | [], _, _, h, _ => h
  | v :: ws, l, o, h, hw => by
    simp only [List.all_cons, Bool.and_eq_true] at hw
    exact all_splice (o + 1) (all_set h hw.1 o) hw.2

end Go.Vm
