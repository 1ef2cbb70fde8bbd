/-
  The values' layer: more rules: slicing, append of any number, bits. No condition. Nothing of one program stands here.
-/
import Derived.Test.YtmfnchgkffhpfaaDoorVm14
namespace Go.Vm
open Go.Am
variable {E : Env} {L : Frame} {H : Heap} {nx : Nat} {Q : PV → Heap → Nat → Prop} {w : Bool}
variable {dst : Option Tmp} {ty : TypeId} {pos : String} {af : Array Edge} {gd : Option (Nat × Bool)}

section
variable {bn : Nat} {ops : Array Oper} {op : Op} {l : List Oper} {i : Nat} {R : Frame → Heap → Nat → Prop}
/-- in a region that draws: an operation that writes nothing old .. -/
theorem VOpsD.quiet (h : VVal E false ⟨dst, op, ty, pos, af, none⟩ L H nx fun r H' nx' => VOpsD E bn ops (i + 1) l (lput L dst r) H' nx' R) : VOpsD E bn ops i (⟨dst, op, ty, pos, af, none⟩ :: l) L H nx R := by
  intro B hB m F σ t h1 h2 h3
  refine AOpsD.cons (guardIs.wanted (L := L) h1 h2 rfl) ((h (m.at m.size) F σ t (h1.at _) (RL.at (Γ := E.Γ) _ h2)).mono ?_)
  rintro v m' ⟨r, H', nx', F', σ', q, c1, c2, c3, c4⟩
  refine ⟨.inr (c4 rfl m.size (Nat.le_refl _) (Nat.le_refl _)), ?_⟩
  exact q B hB _ F' σ' _ (c1.at _) (RL.at (Γ := E.Γ) _ (((RL.at (Γ := E.Γ) _ h2).step c3 (h1.at _)).put c2)) (h3.trans c3.at)
theorem VOpsD.quietTake {j d : Nat} {want : Bool} (hd : (ops[j]?).bind (·.dst) = some d) (hb : lget L d = some (.p (.bool want))) (h : VVal E false ⟨dst, op, ty, pos, af, some (j, want)⟩ L H nx fun r H' nx' => VOpsD E bn ops (i + 1) l (lput L dst r) H' nx' R) :
    VOpsD E bn ops i (⟨dst, op, ty, pos, af, some (j, want)⟩ :: l) L H nx R := by
  intro B hB m F σ t h1 h2 h3
  refine AOpsD.cons (guardIs.wanted (L := L) (w := true) h1 h2 ⟨want, d, hd, hb, by cases want <;> rfl⟩) ((h (m.at m.size) F σ t (h1.at _) (RL.at (Γ := E.Γ) _ h2)).mono ?_)
  rintro v m' ⟨r, H', nx', F', σ', q, c1, c2, c3, c4⟩
  refine ⟨.inr (c4 rfl m.size (Nat.le_refl _) (Nat.le_refl _)), ?_⟩
  exact q B hB _ F' σ' _ (c1.at _) (RL.at (Γ := E.Γ) _ (((RL.at (Γ := E.Γ) _ h2).step c3 (h1.at _)).put c2)) (h3.trans c3.at)
/-- .. and one that stands in an order to all others that touch the memory -/
theorem VOpsD.bar (hw : barrier ops i = true) (h : VVal E true ⟨dst, op, ty, pos, af, none⟩ L H nx fun r H' nx' => VOpsD E bn ops (i + 1) l (lput L dst r) H' nx' R) : VOpsD E bn ops i (⟨dst, op, ty, pos, af, none⟩ :: l) L H nx R := VOpsD.cons rfl hw h
end

/-- less is known of a slot -/
theorem Ghost.le (d : Nat) {v v0 : PV} (hd : lget L d = some v) (hle : PLe v v0) : Ghost E L H nx ((d, v0) :: L) H nx := fun B m F σ t h1 h2 h3 => by
  refine ⟨F, σ, h1, fun i x hi => ?_, h3⟩
  rw [lget_cons] at hi
  by_cases e : d = i
  · rw [if_pos e] at hi; cases hi; subst e; exact RP.le hle (h2 d v hd)
  · rw [if_neg e] at hi; exact h2 i x hi

/-! ## An object under a new name -/
theorem Ctx.move {Γ : Nat → Option (List Value × TypeId)} {m m' : Mem} {F : Nat → Prop} {σ : Nat → Value} {b0 : Nat} {x0 x' : HB} {s' : Value} (h : Ctx Γ m F σ H nx) (hb : hget H b0 = some x0)
    (hsz : m.size ≤ m'.size) (hget' : ∀ c, c < m.size → blkOf (σ b0) ≠ some c → m'.get c = m.get c) (hlow : ∀ k, k ≤ m.low → k ≤ m.size → (∀ c, blkOf (σ b0) = some c → k ≤ c) → k ≤ m'.low)
    (hblk : ∀ c, blkOf s' = some c → blkOf (σ b0) = some c ∨ m.size ≤ c) (hr : RB m' F (htag ((nx, x') :: hdel H b0)) (upd σ nx s') (nx + 1) s' x') :
    Ctx Γ m' F (upd σ nx s') ((nx, x') :: hdel H b0) (nx + 1) ∧ Step m F σ H nx m' F (upd σ nx s') ((nx, x') :: hdel H b0) (nx + 1) := by
  have hown : ∀ c, blkOf (σ b0) = some c → own H σ c := fun c hc => ⟨b0, x0, hb, hc⟩
  have hfz : ∀ c, F c → F c ∧ m'.get c = m.get c := fun c hc => ⟨hc, hget' c (h.fr c hc) fun e => (h.notF (hown c e)).1 hc⟩
  have hN : Names nx (htag H) σ (htag ((nx, x') :: hdel H b0)) (upd σ nx s') := fun b hbn => by
    rw [htag_cons, if_neg (by omega), htag_hdel, upd_other _ _ (by omega)]
    split
    · exact ⟨trivial, fun _ _ _ => rfl⟩
    · exact ⟨TLe.refl _, fun _ _ _ => rfl⟩
  have hg0 : hget ((nx, x') :: hdel H b0) nx = some x' := by rw [hget_cons, if_pos rfl]
  have hgo : ∀ b y, hget ((nx, x') :: hdel H b0) b = some y → b ≠ nx → b ≠ b0 ∧ hget H b = some y := fun b y hy e => by
    rw [hget_cons, if_neg (Ne.symm e), hget_hdel] at hy
    split at hy
    · cases hy
    · rename_i hne; exact ⟨Ne.symm hne, hy⟩
  refine ⟨⟨fun c hc => Nat.lt_of_lt_of_le (h.fr c hc) hsz, ?_, ?_, ?_⟩, ⟨hsz, fun c hc ho => hget' c hc fun e => ho (hown c e), fun _ h => h, fun _ _ h => .inl h, ?_, Nat.le_succ _, hN, ?_⟩⟩
  · intro b y hy
    by_cases e : b = nx
    · subst e
      rw [hg0] at hy; cases hy
      rw [upd_same]
      exact ⟨Nat.lt_succ_self _, hr⟩
    · obtain ⟨hne, hy⟩ := hgo b y hy e
      obtain ⟨h1, h2⟩ := h.hp b y hy
      rw [upd_other _ _ e]
      refine ⟨by omega, h2.mono hfz hN (Nat.le_succ _) hsz fun c hc => ?_⟩
      have := h.notF ⟨b, y, hy, hc⟩
      exact ⟨hget' c this.2 fun e' => hne (h.sep b b0 y x0 c hy hb hc e'), this.1⟩
  · intro b b' y y' c h1 h2 h3 h4
    by_cases e : b = nx <;> by_cases e' : b' = nx
    · omega
    · subst e
      obtain ⟨hne, hy⟩ := hgo b' y' h2 e'
      rw [upd_same] at h3
      rw [upd_other _ _ e'] at h4
      rcases hblk c h3 with h5 | h5
      · exact absurd (h.sep b0 b' x0 y' c hb hy h5 h4).symm hne
      · have := (h.notF ⟨b', y', hy, h4⟩).2; omega
    · subst e'
      obtain ⟨hne, hy⟩ := hgo b y h1 e
      rw [upd_same] at h4
      rw [upd_other _ _ e] at h3
      rcases hblk c h4 with h5 | h5
      · exact absurd (h.sep b b0 y x0 c hy hb h3 h5) hne
      · have := (h.notF ⟨b, y, hy, h3⟩).2; omega
    · obtain ⟨_, hy⟩ := hgo b y h1 e
      obtain ⟨_, hy'⟩ := hgo b' y' h2 e'
      rw [upd_other _ _ e] at h3
      rw [upd_other _ _ e'] at h4
      exact h.sep b b' y y' c hy hy' h3 h4
  · intro g vs e hg
    obtain ⟨h1, h2, h3⟩ := h.gl g vs e hg
    exact ⟨h1, (hfz g h1).2.trans h2, h3⟩
  · rintro c hc ⟨b, y, hy, hbc⟩
    by_cases e : b = nx
    · subst e
      rw [upd_same] at hbc
      rcases hblk c hbc with h5 | h5
      · exact hown c h5
      · omega
    · obtain ⟨_, hy⟩ := hgo b y hy e
      rw [upd_other _ _ e] at hbc
      exact ⟨b, y, hy, hbc⟩
  · intro k h1 h2 h3
    exact hlow k h1 h2 fun c hc => h3 c (hown c hc)

theorem appendMove' {s x : Operand} {sT xT e : TypeId} {xd : TypeDesc} {i : TypeInfo} {b n k : Nat} {cs xs : List FV} {z : Bool} (hs : vev E.Γ L s = some (.vec b n 0 n)) (hb : hget H b = some (.vec e cs n z)) (hx : SlC E.Γ L H nx x i.size xs k)
    (hsT : E.P.underlying sT = some (.slice e)) (hxT : E.P.underlying xT = some xd) (hd : ∀ k, xd ≠ .int k) (hi : E.P.info? e = some i) (hzs : zeroSized i = true) (hroom : (n + k) * (i.bytes + 1) ≤ room) (hl : cs.length = n * i.size) (hsz : 0 < i.size)
    (q : Q (.vec nx (n + k) 0 (n + k)) ((nx, .vec e (cs ++ xs) (n + k) z) :: hdel H b) (nx + 1)) : VVal E true ⟨dst, .call { callee := .builtin .append, args := #[s, x], argTypes := #[sT, xT] }, ty, pos, af, gd⟩ L H nx Q := by
  intro m F σ t h1 h2
  have hsub := vev_vec h1 h2 hs hb
  obtain ⟨hx1, l, hx2, hx3, hx4⟩ := hx m F σ t h1 h2
  obtain ⟨hlt, hr⟩ := h1.hp b _ hb
  have hlenS : lenOf (ev t s) = some n := by
    rcases hr with ⟨r1, r2, r3⟩ | ⟨c, g, vs, r1, _⟩
    · rcases r3 with ⟨r3, _⟩ | ⟨b', o', g', r3, _⟩ <;> rw [r3] at hsub <;> simp only [SubOf, nilSlice] at hsub <;> rw [hsub.1, r2] <;> rfl
    · rw [r1] at hsub; simp only [SubOf] at hsub; rw [hsub]; rfl
  have happ : ∀ v m', appendCells m e i.size l k (ev t s) = some (v, m') → aappend E.P #[sT, xT] #[ev t s, ev t x] m = some (v, m') := by
    intro v m' ha
    simp only [aappend, List.getElem?_toArray, List.getElem?_cons_zero, List.getElem?_cons_succ, hsT, hxT, hlenS, hi, hzs, Bool.not_true, Bool.false_eq_true, if_false]
    cases xd <;> first | exact absurd rfl (hd _) | (simp only [hx1, hx2, hx4, Bool.and_true, decide_eq_true_eq]; rw [if_pos hroom]; exact ha)
  have hfin : ∀ v m' s', appendCells m e i.size l k (ev t s) = some (v, m') → s' = v → (Ctx E.Γ m' F (upd σ nx s') ((nx, .vec e (cs ++ xs) (n + k) z) :: hdel H b) (nx + 1) ∧ Step m F σ H nx m' F (upd σ nx s') ((nx, .vec e (cs ++ xs) (n + k) z) :: hdel H b) (nx + 1)) →
      (isCell v = true ∧ SubOf v 0 (n + k) v) → AVal E.P E.O E.G ⟨dst, .call { callee := .builtin .append, args := #[s, x], argTypes := #[sT, xT] }, ty, pos, af, gd⟩ ⟨t, m⟩ fun v m' => ∃ r H' nx' F' σ', Q r H' nx' ∧ Ctx E.Γ m' F' σ' H' nx' ∧ RP m' F' (htag H') σ' nx' r v ∧ Step m F σ H nx m' F' σ' H' nx' ∧ (true = false → Quiet m m') := by
    rintro v m' s' ha rfl ⟨c1, c2⟩ ⟨hv1, hv2⟩
    refine AVal.op (v := s') (m' := m') (fun _ => ?_) ⟨_, _, _, F, _, q, c1, ?_, c2, fun h => by cases h⟩
    · have := happ _ _ ha
      simp only [aval, aop]
      simpa using this
    · refine .vec (Nat.lt_succ_self _) hv1 fun j hj => ?_
      rw [htag_cons, if_pos rfl] at hj
      simp only [HB.tag, Option.some.injEq, Tg.vec.injEq] at hj
      refine ⟨by omega, fun _ => ?_⟩
      rw [upd_same]
      exact hv2
  rcases hr with ⟨r1, r2, r3⟩ | ⟨c, g, vs, r1, r2, r3, r4, r5, r6, r7⟩
  · have hv : blkOf (σ b) = none ∧ (ev t s = .slice none 0 0 ∧ z = true ∨ (∃ b o g, ev t s = .slice (some ⟨b, o, some g⟩) 0 0) ∧ z = false) := by
      rcases r3 with ⟨r3, hz⟩ | ⟨b', o', g', r3, hz⟩
      · rw [r3] at hsub ⊢; exact ⟨rfl, .inl ⟨hsub.1, hz⟩⟩
      · rw [r3] at hsub ⊢; simp only [SubOf] at hsub; exact ⟨rfl, .inr ⟨⟨_, _, _, hsub.1⟩, hz⟩⟩
    subst r1; subst r2
    rcases Nat.eq_zero_or_pos k with h0 | h0
    · subst h0
      have hxs : xs = [] := by
        have hl0 : l.length = 0 := by rw [sliceCells_length hx2]; omega
        rw [List.eq_nil_of_length_eq_zero hl0] at hx3
        cases hx3; rfl
      subst hxs
      have ha : appendCells m e i.size l 0 (ev t s) = some (ev t s, m) := by
        rcases hv.2 with ⟨hv, _⟩ | ⟨⟨_, _, _, hv⟩, _⟩ <;> rw [hv] <;> simp [appendCells]
      refine hfin _ _ _ ha rfl ?_ (by rcases hv.2 with ⟨hv, _⟩ | ⟨⟨_, _, _, hv⟩, _⟩ <;> rw [hv] <;> refine ⟨rfl, ?_⟩ <;> simp [SubOf])
      refine h1.move hb (Nat.le_refl _) (fun _ _ _ => rfl) (fun _ h _ _ => h) (fun c hc => by rcases hv.2 with ⟨hv, _⟩ | ⟨⟨_, _, _, hv⟩, _⟩ <;> rw [hv] at hc <;> simp [blkOf] at hc) ?_
      refine .inl ⟨rfl, rfl, ?_⟩
      rcases hv.2 with ⟨hv, hz⟩ | ⟨⟨b', o', g', hv⟩, hz⟩
      · exact .inl ⟨hv, hz⟩
      · exact .inr ⟨b', o', g', hv, hz⟩
    · have ha : appendCells m e i.size l k (ev t s) = some (newSlice m e l k) := by
        rcases hv.2 with ⟨hv, _⟩ | ⟨⟨_, _, _, hv⟩, _⟩ <;> rw [hv] <;> simp only [appendCells] <;> rw [if_neg (by omega)]
      refine hfin _ _ _ ha rfl ?_ ⟨rfl, by rw [Nat.zero_add]; rfl⟩
      refine h1.move (x0 := .vec e [] 0 z) (x' := .vec e ([] ++ xs) (0 + k) z) hb (by simp [newSlice, Mem.alloc]) (fun c hc _ => by (try simp only [newSlice]); rw [Mem.get_alloc, if_neg (by omega)])
        (fun k' k1 k2 _ => by simp only [newSlice, Mem.alloc]; omega) (fun c hc => by simp only [newSlice, blkOf, Option.some.injEq] at hc; right; omega) ?_
      refine .inr ⟨m.size, 0, l, by simp [newSlice], by simp [newSlice, Mem.alloc], fun hf => Nat.lt_irrefl _ (h1.fr _ hf), by (try simp only [newSlice]); rw [Mem.get_alloc, if_pos rfl], ?_, hx4, fun h => by omega⟩
      rw [List.nil_append]
      exact hx3.mono (fun c hf => ⟨hf, by (try simp only [newSlice]); rw [Mem.get_alloc, if_neg (by have := h1.fr c hf; omega)]⟩)
  · rw [r1] at hsub
    simp only [SubOf] at hsub
    have hlen := r5.length
    have hold : takeN (n * i.size) (vs.drop 0) = some vs := by
      rw [List.drop_zero, ← hl, hlen]; simp [takeN]
    have ha : appendCells m e i.size l k (ev t s) = some (.slice (some ⟨c, 0, none⟩) (n + k) (g + 1), m.put c (.cells (vs ++ l) e (g + 1) false)) := by
      rw [hsub]
      simp only [appendCells, r4, beq_self_eq_true, decide_eq_true hsz, Bool.and_self, if_true, hold]
      simp
    have hput' : ∀ d, c ≠ d → (m.put c (.cells (vs ++ l) e (g + 1) false)).get d = m.get d := fun d hd => by rw [Mem.get_put, if_neg hd]
    refine hfin _ _ _ ha rfl ?_ ⟨rfl, rfl⟩
    refine h1.move (x' := .vec e (cs ++ xs) (n + k) z) hb (Nat.le_refl _) (fun d _ hd => hput' d fun e => hd (by rw [r1, e]; rfl)) (fun k' k1 k2 k3 => by
      have := k3 c (by rw [r1]; rfl)
      simp only [Mem.put]; omega) (fun d hd => .inl (by rw [r1]; exact hd)) ?_
    refine .inr ⟨c, g + 1, vs ++ l, rfl, r2, r3, by rw [Mem.get_put, if_pos rfl], ?_, by rw [List.all_append, r6, hx4]; rfl, fun h => r7 (by omega)⟩
    exact (r5.append hx3).mono (fun d hd => ⟨hd, hput' d fun e => r3 (e ▸ hd)⟩)

/-! ## Slicing what is frozen -/
theorem takeN_take {n k : Nat} {l ws : List Value} (h : takeN n l = some ws) : takeN (min k n) l = some (ws.take k) := by
  obtain ⟨rfl, hn⟩ := takeN_some h
  unfold takeN
  rw [if_pos (by omega), List.take_take]

theorem RFs.take {m : Mem} {F : Nat → Prop} : ∀ {cs : List FV} {vs : List Value} (k : Nat), RFs m F cs vs → RFs m F (cs.take k) (vs.take k)
  | _, _, 0, _ => by simp only [List.take_zero]; exact .nil
  | _, _, _ + 1, .nil => .nil
  | _, _, k + 1, .cons h t => .cons h (RFs.take k t)

/-- s[lo:hi] -/
theorem VVal.sliceF {t : TypeId} {x : Operand} {lo hi : Option Operand} {e : TypeId} {cs : List FV} {n a b sz : Nat} {inf : TypeInfo} (hx : vev E.Γ L x = some (.p (.lst e cs n))) (ht : E.P.underlying t = some (.slice e)) (hi' : E.P.info? e = some inf) (hsz : inf.size = sz)
    (hlo : match lo with | none => a = 0 | some o => ∃ k, vev E.Γ L o = some (.p (.int k (a : Int)))) (hhi : match hi with | none => b = n | some o => ∃ k, vev E.Γ L o = some (.p (.int k (b : Int)))) (hab : a ≤ b) (hbn : b ≤ n) (hl : cs.length = n * sz)
    (q : Q (.p (.lst e ((cs.drop (a * sz)).take ((b - a) * sz)) (b - a))) H nx) : VVal E w ⟨dst, .slice t x lo hi none, ty, pos, af, gd⟩ L H nx Q :=
  VVal.quiet q fun m F σ tt h1 h2 => by
    have hblo : bnd 0 (lo.map (ev tt)) = some a := by
      cases lo with
      | none => simp only at hlo; rw [hlo]; rfl
      | some o =>
        obtain ⟨k, hk⟩ := hlo
        simp only [Option.map_some, vev_int h1 h2 hk, bnd]
        rw [if_pos (by omega)]; simp
    have hbhi : bnd n (hi.map (ev tt)) = some b := by
      cases hi with
      | none => simp only at hhi; rw [hhi]; rfl
      | some o =>
        obtain ⟨k, hk⟩ := hhi
        simp only [Option.map_some, vev_int h1 h2 hk, bnd]
        rw [if_pos (by omega)]; simp
    have hbhi0 : n = 0 → bnd 0 (hi.map (ev tt)) = some 0 := fun h0 => by rw [h0] at hbhi; rw [hbhi]; congr 1; omega
    have := vev_rel h1 h2 hx
    generalize hv : ev tt x = v at this
    cases this with
    | p hr =>
      cases hr with
      | nil =>
        have hb0 : b = 0 := by omega
        have ha0 : a = 0 := by omega
        subst hb0; subst ha0
        refine ⟨.slice none 0 0, fun _ => ?_, .p (by simpa using RF.nil e)⟩
        simp only [aval, aop, hv, aslice, Option.isSome_none, Option.map_none, Bool.false_and, Bool.false_eq_true, if_false, ht, hi', hblo, hbhi0 rfl]
        rfl
      | room e' b' o' g' =>
        have hb0 : b = 0 := by omega
        have ha0 : a = 0 := by omega
        subst hb0; subst ha0
        refine ⟨_, fun _ => ?_, .p (by simpa using RF.room e b' o' g')⟩
        simp only [aval, aop, hv, aslice, Option.isSome_none, Option.map_none, Bool.false_and, Bool.false_eq_true, if_false, ht, hi', hblo, hbhi0 rfl]
        rfl
      | lst hF hm hw hr hc =>
        rename_i b' o g vs ws ro
        refine ⟨.slice (some ⟨b', o + a * sz, none⟩) (b - a) g, fun _ => ?_, .p (.lst hF hm (ws := (ws.drop (a * sz)).take ((b - a) * sz)) ?_ (RFs.take _ (RFs.drop _ hr)) (all_take (all_drop hc _) _))⟩
        · simp only [aval, aop, hv, aslice, Option.isSome_none, Option.map_none, Bool.false_and, Bool.false_eq_true, if_false, ht, hi', hblo, hbhi, hm, hab, hbn, and_self, if_true, Option.map_some, hsz]
        · have h3 := takeN_take (k := (b - a) * sz) (takeN_drop (k := a * sz) hw)
          rw [List.drop_drop] at h3
          rw [List.length_take, List.length_drop]
          exact h3

theorem cells_take {α : Type} [Enc α] : ∀ (l : List α) (k : Nat), (cells l).take (k * Enc.size α) = cells (l.take k)
  | _, 0 => by simp [cells, encs]
  | [], k + 1 => by simp [cells, encs]
  | a :: l, k + 1 => by
    have ih := cells_take l k
    simp only [cells, encs, List.take_succ_cons] at ih ⊢
    rw [List.take_append, Enc.len, Nat.succ_mul, ← ih, List.take_of_length_le (by rw [Enc.len]; omega)]
    congr 2; omega
theorem cells_drop' {α : Type} [Enc α] : ∀ (l : List α) (k : Nat), (cells l).drop (k * Enc.size α) = cells (l.drop k)
  | _, 0 => by simp [cells, encs]
  | [], k + 1 => by simp [cells, encs]
  | a :: l, k + 1 => by
    have ih := cells_drop' l k
    simp only [cells, encs, List.drop_succ_cons] at ih ⊢
    rw [List.drop_append, Enc.len, Nat.succ_mul, ← ih, List.drop_eq_nil_of_le (by rw [Enc.len]; omega), List.nil_append]
    congr 1; omega

/-- .. of a list of data -/
theorem VVal.sliceTo {α : Type} {_ : Enc α} {l : List α} {t : TypeId} {x o : Operand} {e : TypeId} {n b : Nat} {inf : TypeInfo} {k : IntKind} (hx : vev E.Γ L x = some (.p (.lst e (cells l) n))) (hhi : vev E.Γ L o = some (.p (.int k (b : Int)))) (ht : E.P.underlying t = some (.slice e)) (hi' : E.P.info? e = some inf)
    (hsz : inf.size = Enc.size α) (hn : l.length = n) (hbn : b ≤ n) (q : Q (.p (.lst e (cells (l.take b)) b)) H nx) : VVal E w ⟨dst, .slice t x none (some o) none, ty, pos, af, gd⟩ L H nx Q :=
  VVal.sliceF (a := 0) (b := b) hx ht hi' hsz rfl ⟨k, hhi⟩ (Nat.zero_le _) hbn (by rw [cells_length, hn]) (by
    rw [Nat.zero_mul, List.drop_zero, Nat.sub_zero, cells_take]; exact q)
theorem VVal.sliceFrom {α : Type} {_ : Enc α} {l : List α} {t : TypeId} {x o : Operand} {e : TypeId} {n a : Nat} {inf : TypeInfo} {k : IntKind} (hx : vev E.Γ L x = some (.p (.lst e (cells l) n))) (hlo : vev E.Γ L o = some (.p (.int k (a : Int)))) (ht : E.P.underlying t = some (.slice e)) (hi' : E.P.info? e = some inf)
    (hsz : inf.size = Enc.size α) (hn : l.length = n) (han : a ≤ n) (q : Q (.p (.lst e (cells (l.drop a)) (n - a))) H nx) : VVal E w ⟨dst, .slice t x (some o) none none, ty, pos, af, gd⟩ L H nx Q :=
  VVal.sliceF (a := a) (b := n) hx ht hi' hsz ⟨k, hlo⟩ rfl han (Nat.le_refl _) (by rw [cells_length, hn]) (by
    rw [cells_drop', List.take_of_length_le (by rw [cells_length, List.length_drop, hn]; exact Nat.le_refl _)]; exact q)

/-! ## Bits -/
theorem VVal.shlOne {t t2 : TypeId} {x y : Operand} {k' : IntKind} {n : Nat} (hx : vev E.Γ L x = some (.p (.int .i64 1))) (hy : vev E.Γ L y = some (.p (.int k' (n : Int)))) (hn : n ≤ 62) (q : Q (.p (.int .i64 ((2 ^ n : Nat) : Int))) H nx) :
    VVal E w ⟨dst, .binOp .shl t x y t2, ty, pos, af, gd⟩ L H nx Q := by
  refine VVal.shl hx hy (by omega) ?_
  have h1 : (min (n : Int).toNat IntKind.i64.bits) = n := by simp only [Int.toNat_natCast, IntKind.bits]; omega
  have h2 : (2 : Nat) ^ n ≤ 2 ^ 62 := Nat.pow_le_pow_right (by omega) hn
  have h3 : (1 : Int) * 2 ^ n = ((2 ^ n : Nat) : Int) := by rw [Int.one_mul]; exact (Int.natCast_pow 2 n).symm
  have h4 : ((2 ^ n : Nat) : Int) < 9223372036854775808 := Int.ofNat_lt.2 (Nat.lt_of_le_of_lt h2 (by decide))
  have h5 : (-9223372036854775808 : Int) ≤ ((2 ^ n : Nat) : Int) := Int.le_trans (by decide) (Int.natCast_nonneg _)
  rw [h1, h3, wrap_i64 ⟨h5, h4⟩]
  exact q
theorem VVal.shrN {t t2 : TypeId} {x y : Operand} {k k' : IntKind} {m n : Nat} (hx : vev E.Γ L x = some (.p (.int k (m : Int)))) (hy : vev E.Γ L y = some (.p (.int k' (n : Int)))) (hn : n ≤ k.bits) (q : Q (.p (.int k ((m / 2 ^ n : Nat) : Int))) H nx) :
    VVal E w ⟨dst, .binOp .shr t x y t2, ty, pos, af, gd⟩ L H nx Q := by
  refine VVal.shr hx hy (by omega) ?_
  have h1 : (min (n : Int).toNat k.bits) = n := by simp only [Int.toNat_natCast]; omega
  have h3 : ((m : Int).fdiv (2 ^ n)) = ((m / 2 ^ n : Nat) : Int) := by
    rw [Int.fdiv_eq_ediv_of_nonneg _ (by exact Int.le_of_lt (Int.pow_pos (by omega)))]
    rw [Int.natCast_ediv, Int.natCast_pow]; rfl
  rw [h1, h3]
  exact q

end Go.Vm
