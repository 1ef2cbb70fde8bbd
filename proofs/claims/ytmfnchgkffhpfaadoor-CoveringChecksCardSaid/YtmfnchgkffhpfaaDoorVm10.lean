/-
  The values' layer: calls without own objects; ghost steps. No condition. Nothing of one program stands here.
-/
import Derived.Test.YtmfnchgkffhpfaaDoorVm9
namespace Go.Vm
open Go.Am
variable {E : Env} {L : Frame} {H : Heap} {nx : Nat} {Q : PV → Heap → Nat → Prop} {w : Bool}
variable {dst : Option Tmp} {ty : TypeId} {pos : String} {af : Array Edge} {gd : Option (Nat × Bool)}

/-- a function of pure data: its value -/
def VFun (E : Env) (g : FuncId) (xs : List FV) (r : PV) : Prop := VCalls E g (xs.map .p) [] 0 fun r' H' nx' => r' = r ∧ H' = [] ∧ nx' = 0
/-- .. that makes a slice -/
def VFunV (E : Env) (g : FuncId) (xs : List FV) (e : TypeId) (cs : List FV) (n : Nat) (z : Bool) : Prop :=
  VCalls E g (xs.map .p) [] 0 fun r' H' nx' => r' = .vec 0 n 0 n ∧ H' = [(0, .vec e cs n z)] ∧ nx' = 1

theorem PVs.rn_pure (ρ : Nat → Nat) : ∀ xs : List FV, PVs.rn ρ (xs.map .p) = xs.map .p
  | [] => rfl
  | x :: xs => by simp only [List.map_cons, PVs.rn, PV.rn, PVs.rn_pure ρ xs]

theorem merge_nil (ρ : Nat → Nat) (H' : Heap) : ∀ H : Heap, merge [] ρ H' H = H
  | [] => rfl
  | (b, x) :: H => by simp only [merge, idx, merge_nil ρ H' H]

theorem rho_nil (nx i : Nat) : rho [] nx i = nx + i := by simp [rho]

theorem VVal.call0 {fo : Operand} {args : Array Operand} {aT : Array TypeId} {g : FuncId} {as : List PV} {xs : List FV} {Qc : PV → Heap → Nat → Prop} (hf : vev E.Γ L fo = some (.clo g [] [])) (ha : evs E.Γ L args.toList = some as)
    (hle : PLes as (xs.map .p)) (hc : VCalls E g (xs.map .p) [] 0 Qc) (hq : ∀ r H' nx', Qc r H' nx' → Q (r.rn (rho [] nx)) (news 0 (rho [] nx) H' H) (nx + nx')) :
    VVal E w ⟨dst, .call { callee := .value fo, args := args, argTypes := aT }, ty, pos, af, gd⟩ L H nx Q :=
  VVal.callG (ns := []) (Hc := []) hf ha (ac := xs.map .p) (by simpa [PVs.rn_pure] using hle) (PVs.under_pure _ _) trivial trivial List.nodup_nil (by simp) (fun _ => rfl) hc
    (fun r H' nx' q => by rw [merge_nil]; exact hq r H' nx' q)

theorem VVal.callF {fo : Operand} {args : Array Operand} {aT : Array TypeId} {g : FuncId} {as : List PV} {xs : List FV} {r : PV} (hf : vev E.Γ L fo = some (.clo g [] [])) (ha : evs E.Γ L args.toList = some as)
    (hle : PLes as (xs.map .p)) (hc : VFun E g xs r) (hr : ∀ ρ, r.rn ρ = r) (q : Q r H nx) : VVal E w ⟨dst, .call { callee := .value fo, args := args, argTypes := aT }, ty, pos, af, gd⟩ L H nx Q :=
  VVal.call0 hf ha hle hc fun r' H' nx' ⟨h1, h2, h3⟩ => by subst h1; subst h2; subst h3; rw [hr]; exact q

theorem VVal.callV {fo : Operand} {args : Array Operand} {aT : Array TypeId} {g : FuncId} {as : List PV} {xs cs : List FV} {e : TypeId} {n : Nat} {z : Bool} (hf : vev E.Γ L fo = some (.clo g [] [])) (ha : evs E.Γ L args.toList = some as)
    (hle : PLes as (xs.map .p)) (hc : VFunV E g xs e cs n z) (q : Q (.vec nx n 0 n) ((nx, .vec e cs n z) :: H) (nx + 1)) : VVal E w ⟨dst, .call { callee := .value fo, args := args, argTypes := aT }, ty, pos, af, gd⟩ L H nx Q :=
  VVal.call0 hf ha hle hc fun r' H' nx' ⟨h1, h2, h3⟩ => by
    subst h1; subst h2; subst h3
    have e : news 0 (rho [] nx) [(0, HB.vec e cs n z)] H = (nx, .vec e cs n z) :: H := rfl
    rw [e]
    exact q

/-! ## Ghost steps -/
def Ghost (E : Env) (L : Frame) (H : Heap) (nx : Nat) (L' : Frame) (H' : Heap) (nx' : Nat) : Prop :=
  ∀ (B : Base) m F σ t, Ctx E.Γ m F σ H nx → RL m F (htag H) σ nx L t → B.to m F σ H nx → ∃ F' σ', Ctx E.Γ m F' σ' H' nx' ∧ RL m F' (htag H') σ' nx' L' t ∧ B.to m F' σ' H' nx'

section
variable {bn : Nat} {ops : Array Oper} {l : List Oper} {i : Nat} {R : Frame → Heap → Nat → Prop} {L' : Frame} {H' : Heap} {nx' : Nat}
theorem VWp.ghost {c : Code} {Q : AExit → Frame → Heap → Nat → Prop} (g : Ghost E L H nx L' H' nx') (h : VWp E bn c L' H' nx' Q) : VWp E bn c L H nx Q := fun B hB m F σ t h1 h2 h3 => by
  obtain ⟨F', σ', c1, c2, c3⟩ := g B m F σ t h1 h2 h3
  exact h B hB m F' σ' t c1 c2 c3
theorem VOps.ghost (g : Ghost E L H nx L' H' nx') (h : VOps E bn ops l L' H' nx' R) : VOps E bn ops l L H nx R := fun B hB m F σ t h1 h2 h3 => by
  obtain ⟨F', σ', c1, c2, c3⟩ := g B m F σ t h1 h2 h3
  exact h B hB m F' σ' t c1 c2 c3
theorem VOpsD.ghost (g : Ghost E L H nx L' H' nx') (h : VOpsD E bn ops i l L' H' nx' R) : VOpsD E bn ops i l L H nx R := fun B hB m F σ t h1 h2 h3 => by
  obtain ⟨F', σ', c1, c2, c3⟩ := g B m F σ t h1 h2 h3
  exact h B hB m F' σ' t c1 c2 c3
theorem Ghost.trans {L'' : Frame} {H'' : Heap} {nx'' : Nat} (g : Ghost E L H nx L' H' nx') (g' : Ghost E L' H' nx' L'' H'' nx'') : Ghost E L H nx L'' H'' nx'' := fun B m F σ t h1 h2 h3 => by
  obtain ⟨F', σ', c1, c2, c3⟩ := g B m F σ t h1 h2 h3
  exact g' B m F' σ' t c1 c2 c3
end

/-- adopt: a nil slice as an own one -/
theorem adoptCtx {Γ : Nat → Option (List Value × TypeId)} {m : Mem} {F : Nat → Prop} {σ : Nat → Value} (e : TypeId) (h : Ctx Γ m F σ H nx) :
    Ctx Γ m F (upd σ nx nilSlice) ((nx, .vec e [] 0 true) :: H) (nx + 1) ∧ Step m F σ H nx m F (upd σ nx nilSlice) ((nx, .vec e [] 0 true) :: H) (nx + 1) := by
  have := h.new (m' := m) (x := .vec e [] 0 true) (s := nilSlice) (Nat.le_refl _) (fun _ _ => rfl) (Nat.min_le_left _ _) (fun c hc => by simp [blkOf, nilSlice] at hc) (.inl ⟨rfl, rfl, .inl ⟨rfl, rfl⟩⟩)
  exact ⟨this.1, this.2.1⟩

theorem nil_vec {m : Mem} {F : Nat → Prop} {σ : Nat → Value} (e : TypeId) (H : Heap) (nx : Nat) : RP m F (htag ((nx, .vec e [] 0 true) :: H)) (upd σ nx nilSlice) (nx + 1) (.vec nx 0 0 0) nilSlice := by
  refine .vec (Nat.lt_succ_self _) rfl fun n hn => ?_
  rw [htag_cons, if_pos rfl] at hn
  simp only [HB.tag, Option.some.injEq, Tg.vec.injEq] at hn
  subst hn
  refine ⟨Nat.le_refl _, fun _ => ?_⟩
  rw [upd_same]
  exact ⟨rfl, rfl, rfl⟩

theorem Ghost.adopt (d : Nat) (e : TypeId) (hd : lget L d = some (.p (.val (.slice none 0 0)))) : Ghost E L H nx ((d, .vec nx 0 0 0) :: L) ((nx, .vec e [] 0 true) :: H) (nx + 1) := fun B m F σ t h1 h2 h3 => by
  obtain ⟨c1, c2⟩ := adoptCtx e h1
  refine ⟨F, _, c1, fun i v hi => ?_, h3.trans c2⟩
  rw [lget_cons] at hi
  by_cases ei : d = i
  · rw [if_pos ei] at hi; cases hi
    have := h2 d _ hd
    subst ei
    generalize tget t d = u at this
    cases this with | p h => cases h; exact nil_vec e H nx
  · rw [if_neg ei] at hi
    exact (h2 i v hi).step c2 h1

def hdel : Heap → Nat → Heap
  | [], _ => []
  | (a, x) :: H, b => match Nat.decEq a b with
    | .isTrue _ => hdel H b
    | .isFalse _ => (a, x) :: hdel H b
theorem hget_hdel (H : Heap) (b c : Nat) : hget (hdel H b) c = if b = c then none else hget H c := by
  induction H with
  | nil => simp [hdel, hget]
  | cons a H ih =>
    obtain ⟨a, x⟩ := a
    simp only [hdel]
    cases hd : Nat.decEq a b with
    | isTrue h =>
      subst h
      simp only [hget_cons, ih]
      by_cases e : a = c <;> simp [e]
    | isFalse h =>
      simp only [hget_cons, ih]
      by_cases e : b = c
      · subst e; simp [h]
      · simp [e]
theorem htag_hdel (H : Heap) (b c : Nat) : htag (hdel H b) c = if b = c then none else htag H c := by
  unfold htag
  rw [hget_hdel]
  split <;> rfl
theorem hdel_sub {b c : Nat} {t : Tg} (h : htag (hdel H b) c = some t) : htag H c = some t := by
  rw [htag_hdel] at h
  split at h
  · cases h
  · exact h

/-- freeze: an own slice that is written no more -/
theorem freezeCtx {Γ : Nat → Option (List Value × TypeId)} {m : Mem} {F : Nat → Prop} {σ : Nat → Value} {b : Nat} {e : TypeId} {cs : List FV} {n : Nat} {z : Bool} (h : Ctx Γ m F σ H nx) (hb : hget H b = some (.vec e cs n z)) :
    Ctx Γ m (fun c => F c ∨ blkOf (σ b) = some c) σ (hdel H b) nx ∧ Step m F σ H nx m (fun c => F c ∨ blkOf (σ b) = some c) σ (hdel H b) nx ∧
    (∀ v, SubOf (σ b) 0 n v → RF m (fun c => F c ∨ blkOf (σ b) = some c) (.lst e cs n) v) := by
  have hown : ∀ c, blkOf (σ b) = some c → own H σ c := fun c hc => ⟨b, _, hb, hc⟩
  have hfz : ∀ c, F c → (F c ∨ blkOf (σ b) = some c) ∧ m.get c = m.get c := fun c hc => ⟨.inl hc, rfl⟩
  have hN : Names nx (htag H) σ (htag (hdel H b)) σ := fun d _ => by
    rw [htag_hdel]
    split
    · exact ⟨trivial, fun _ _ _ => rfl⟩
    · exact ⟨TLe.refl _, fun _ _ _ => rfl⟩
  have hsub : ∀ d x, hget (hdel H b) d = some x → d ≠ b ∧ hget H d = some x := fun d x hd => by
    rw [hget_hdel] at hd
    split at hd
    · cases hd
    · rename_i hne; exact ⟨Ne.symm hne, hd⟩
  refine ⟨⟨?_, ?_, ?_, ?_⟩, ⟨Nat.le_refl _, fun _ _ _ => rfl, fun _ h => .inl h, fun c _ hc => hc.imp id (hown c), ?_, Nat.le_refl _, hN, fun _ h _ _ => h⟩, ?_⟩
  · rintro c (hc | hc)
    · exact h.fr c hc
    · exact (h.notF (hown c hc)).2
  · intro d x hd
    obtain ⟨hne, hd⟩ := hsub d x hd
    obtain ⟨h1, h2⟩ := h.hp d x hd
    refine ⟨h1, h2.mono hfz hN (Nat.le_refl _) (Nat.le_refl _) fun c hc => ⟨rfl, ?_⟩⟩
    rintro (hf | hf)
    · exact (h.notF ⟨d, x, hd, hc⟩).1 hf
    · exact hne (h.sep d b x _ c hd hb hc hf)
  · intro d d' x x' c hd hd' hc hc'
    exact h.sep d d' x x' c (hsub d x hd).2 (hsub d' x' hd').2 hc hc'
  · intro g cs' e' hg
    obtain ⟨h1, h2⟩ := h.gl g cs' e' hg
    exact ⟨.inl h1, h2⟩
  · rintro c _ ⟨d, x, hd, hc⟩
    exact ⟨d, x, (hsub d x hd).2, hc⟩
  · intro v hv
    obtain ⟨_, hr⟩ := h.hp b _ hb
    rcases hr with ⟨r1, r2, r3⟩ | ⟨c, g, vs, r1, r2, r3, r4, r5, r6, r7⟩
    · subst r1; subst r2
      rcases r3 with ⟨r3, _⟩ | ⟨b', o', g', r3, _⟩
      · rw [r3] at hv; obtain ⟨rfl, _, _⟩ := hv; exact .nil _
      · rw [r3] at hv; simp only [SubOf] at hv; rw [hv.1]; exact .room _ _ _ _
    · rw [r1] at hv
      simp only [SubOf] at hv
      subst hv
      refine .lst (.inr (by rw [r1]; rfl)) r4 ?_ (r5.mono hfz) r6
      rw [List.drop_zero, r5.length]; simp [takeN]

theorem Ghost.freeze (d : Nat) {b n : Nat} {e : TypeId} {cs : List FV} {z : Bool} (hd : lget L d = some (.vec b n 0 n)) (hb : hget H b = some (.vec e cs n z)) : Ghost E L H nx ((d, .p (.lst e cs n)) :: L) (hdel H b) nx := fun B m F σ t h1 h2 h3 => by
  obtain ⟨c1, c2, c3⟩ := freezeCtx h1 hb
  refine ⟨_, σ, c1, fun i v hi => ?_, h3.trans c2⟩
  rw [lget_cons] at hi
  by_cases ei : d = i
  · rw [if_pos ei] at hi; cases hi
    have := h2 d _ hd
    subst ei
    generalize tget t d = u at this
    cases this with
    | vec hb' hc h => exact .p (c3 _ ((h n (by simp [htag, hb, HB.tag])).2 rfl))
  · rw [if_neg ei] at hi
    exact (h2 i v hi).step c2 h1

/-- .. in a cell of a box -/
theorem Ghost.freezeCell (a k : Nat) {b n : Nat} {e e' : TypeId} {cs : List FV} {ds : List PV} {z : Bool} (ha : hget H a = some (.box e' ds)) (hk : ds[k]? = some (.vec b n 0 n)) (hb : hget H b = some (.vec e cs n z)) :
    Ghost E L H nx L (hput (hdel H b) a (.box e' (ds.set k (.p (.lst e cs n))))) nx := fun B m F σ t h1 h2 h3 => by
  obtain ⟨c1, c2, c3⟩ := freezeCtx h1 hb
  have hne : b ≠ a := fun e => by subst e; rw [ha] at hb; cases hb
  have ha' : hget (hdel H b) a = some (.box e' ds) := by rw [hget_hdel, if_neg hne]; exact ha
  obtain ⟨_, c, vs, r1, r2, r3, r4, r5, r6⟩ := c1.hp a _ ha'
  obtain ⟨_, c', vs', s1, s2, s3, s4, s5, s6⟩ := h1.hp a _ ha
  rw [s1] at r1; cases r1
  rw [s4] at r4; cases r4
  obtain ⟨u, hu1, hu2⟩ := s5.get hk
  have hcell : RP m (fun c => F c ∨ blkOf (σ b) = some c) (htag (hdel H b)) σ nx (.p (.lst e cs n)) u := by
    cases hu2 with
    | vec hb' hc h => exact .p (c3 _ ((h n (by simp [htag, hb, HB.tag])).2 rfl))
  obtain ⟨d1, d2⟩ := c1.change (m' := m) (b0 := a) (x' := .box e' (ds.set k (.p (.lst e cs n)))) (s' := σ a) ha' trivial (fun _ => rfl) (Nat.le_refl _) (fun _ _ _ => rfl) (fun _ h _ _ => h) (fun c hc => .inl hc) (by
    refine ⟨_, vs, s1, s2, r3, s4, ?_, s6⟩
    have : vs = vs.set k u := by
      apply List.ext_getElem?
      intro j
      rw [List.getElem?_set]
      by_cases e : k = j
      · subst e
        rw [if_pos rfl, hu1]
        have : k < vs.length := by
          rcases Nat.lt_or_ge k vs.length with h | h
          · exact h
          · rw [List.getElem?_eq_none h] at hu1; cases hu1
        rw [if_pos this]
      · rw [if_neg e]
    rw [this]
    exact (r5.set k hcell).mono (fun d hd => ⟨hd, rfl⟩) (change_names (x' := .box e' (ds.set k (.p (.lst e cs n)))) ha' trivial fun _ => rfl) (Nat.le_refl _))
  have hσ : upd σ a (σ a) = σ := by funext x; simp only [upd]; split <;> simp_all
  rw [hσ] at d1 d2
  exact ⟨_, σ, d1, (h2.step c2 h1).step d2 c1, (h3.trans c2).trans d2⟩

theorem Ghost.adoptCell (a k : Nat) (e : TypeId) {e' : TypeId} {ds : List PV} (ha : hget H a = some (.box e' ds)) (hk : ds[k]? = some (.p (.val (.slice none 0 0)))) :
    Ghost E L H nx L (hput ((nx, .vec e [] 0 true) :: H) a (.box e' (ds.set k (.vec nx 0 0 0)))) (nx + 1) := fun B m F σ t h1 h2 h3 => by
  obtain ⟨c1, c2⟩ := adoptCtx e h1
  have hlt := (h1.hp a _ ha).1
  have ha' : hget ((nx, HB.vec e [] 0 true) :: H) a = some (.box e' ds) := by rw [hget_cons, if_neg (by omega)]; exact ha
  obtain ⟨_, c, vs, r1, r2, r3, r4, r5, r6⟩ := c1.hp a _ ha'
  obtain ⟨u, hu1, hu2⟩ := r5.get hk
  have hu : u = nilSlice := by cases hu2 with | p h => cases h; rfl
  subst hu
  obtain ⟨d1, d2⟩ := c1.change (m' := m) (b0 := a) (x' := .box e' (ds.set k (.vec nx 0 0 0))) (s' := upd σ nx nilSlice a) ha' trivial (fun _ => rfl) (Nat.le_refl _) (fun _ _ _ => rfl) (fun _ h _ _ => h) (fun c hc => .inl hc) (by
    refine ⟨c, vs, r1, r2, r3, r4, ?_, r6⟩
    have : vs = vs.set k nilSlice := by
      apply List.ext_getElem?
      intro j
      rw [List.getElem?_set]
      by_cases e : k = j
      · subst e
        rw [if_pos rfl, hu1]
        have : k < vs.length := by
          rcases Nat.lt_or_ge k vs.length with h | h
          · exact h
          · rw [List.getElem?_eq_none h] at hu1; cases hu1
        rw [if_pos this]
      · rw [if_neg e]
    rw [this]
    exact (r5.set k (nil_vec e H nx)).mono (fun d hd => ⟨hd, rfl⟩) (change_names (x' := .box e' (ds.set k (.vec nx 0 0 0))) ha' trivial fun _ => rfl) (Nat.le_refl _))
  have hσ : upd (upd σ nx nilSlice) a (upd σ nx nilSlice a) = upd σ nx nilSlice := by
    funext x
    by_cases e : x = a
    · rw [e, upd_same]
    · rw [upd_other _ _ e]
  rw [hσ] at d1 d2
  exact ⟨_, _, d1, (h2.step c2 h1).step d2 c1, (h3.trans c2).trans d2⟩

end Go.Vm
