/-
  The values' layer: operations, third part: building, slices. No condition. Nothing of one program stands here.
-/
import Derived.Test.YtmfnchgkffhpfaaDoorVm10
namespace Go.Vm
open Go.Am
variable {E : Env} {L : Frame} {H : Heap} {nx : Nat} {Q : PV → Heap → Nat → Prop} {w : Bool}
variable {dst : Option Tmp} {ty : TypeId} {pos : String} {af : Array Edge} {gd : Option (Nat × Bool)}

/-! ## Building -/
def evp (Γ : Nat → Option (List Value × TypeId)) (L : Frame) : List (Nat × Operand) → Option (List (Nat × PV))
  | [] => some []
  | (i, o) :: l => match vev Γ L o with
    | some x => match evp Γ L l with
      | some r => some ((i, x) :: r)
      | none => none
    | none => none

def isTup : PV → Bool
  | .tup _ => true
  | _ => false
def pfill (place : Nat → Option (Nat × Nat)) (cs : List PV) : List (Nat × PV) → Option (List PV)
  | [] => some cs
  | (i, v) :: rest => match isTup v with
    | true => none
    | false => match place i with
      | none => none
      | some (off, size) => if (pcells v).length = size ∧ off + size ≤ cs.length then pfill place (psplice cs off (pcells v)) rest else none

theorem foldl_splice (off : Nat) : ∀ (l : List Value) (k : Nat) (cs : Array Value), ((l.zipIdx k).foldl (fun cs (c, j) => cs.setIfInBounds (off + j) c) cs).toList = splice cs.toList (off + k) l
  | [], _, _ => rfl
  | a :: l, k, cs => by
    simp only [List.zipIdx_cons, List.foldl_cons]
    rw [foldl_splice off l (k + 1)]
    simp only [splice, Array.toList_setIfInBounds]
    congr 1

theorem psplice_len {α : Type} (l : List α) : ∀ (cs : List α) (o : Nat), (psplice cs o l).length = cs.length := by
  induction l with
  | nil => intro cs o; rfl
  | cons a l ih => intro cs o; simp only [psplice, ih, List.length_set]

section
variable {m : Mem} {F : Nat → Prop} {T : Nat → Option Tg} {σ : Nat → Value} {n : Nat}
inductive RPp (m : Mem) (F : Nat → Prop) (T : Nat → Option Tg) (σ : Nat → Value) (n : Nat) : List (Nat × PV) → List (Nat × Value) → Prop
  | nil : RPp m F T σ n [] []
  | cons {i : Nat} {x : PV} {v : Value} {l : List (Nat × PV)} {r : List (Nat × Value)} (h : RP m F T σ n x v) (t : RPp m F T σ n l r) : RPp m F T σ n ((i, x) :: l) ((i, v) :: r)

theorem pfill_rel (place : Nat → Option (Nat × Nat)) : ∀ {ps : List (Nat × PV)} {ps' : List (Nat × Value)} {cs out : List PV} {cs' : Array Value}, RPp m F T σ n ps ps' → RPs m F T σ n cs cs'.toList → cs'.toList.all isCell = true →
    pfill place cs ps = some out → ∃ out', Instr.fill place cs' ps' = some out' ∧ RPs m F T σ n out out'.toList ∧ out'.toList.all isCell = true
  | [], _, cs, out, cs', .nil, hc, ha, h => by
    simp only [pfill, Option.some.injEq] at h
    subst h
    exact ⟨cs', rfl, hc, ha⟩
  | (i, x) :: ps, _, cs, out, cs', .cons (v := v) hx ht, hc, ha, h => by
    simp only [pfill] at h
    have hn : notTup x ∧ isTup x = false := by cases x <;> first | exact ⟨trivial, rfl⟩ | (simp only [isTup] at h; cases h)
    rw [hn.2] at h
    simp only at h
    obtain ⟨h1, h2⟩ := pcells_rel hn.1 hx
    simp only [Instr.fill]
    cases hp : place i with
    | none => rw [hp] at h; cases h
    | some q =>
      obtain ⟨off, size⟩ := q
      rw [hp] at h
      simp only at h ⊢
      split at h
      · rename_i hl
        obtain ⟨hl, hle⟩ := hl
        have e1 := h1.length
        have e2 := hc.length
        simp only [Array.length_toList] at e1 e2
        rw [if_neg (by simp only [ne_eq, gt_iff_lt, Bool.or_eq_true, decide_eq_true_eq, not_or]; omega)]
        refine pfill_rel place ht ?_ ?_ h
        · rw [← Array.foldl_toList, Array.toList_zipIdx, foldl_splice, Nat.add_zero]
          exact RPs.splice off hc h1
        · rw [← Array.foldl_toList, Array.toList_zipIdx, foldl_splice, Nat.add_zero]
          exact all_splice _ ha h2
      · cases h
end

theorem evp_rel {Γ : Nat → Option (List Value × TypeId)} {m : Mem} {F : Nat → Prop} {σ : Nat → Value} {t : Tr Value} (hx : Ctx Γ m F σ H nx) (hl : RL m F (htag H) σ nx L t) : ∀ {ps : List (Nat × Operand)} {xs : List (Nat × PV)}, evp Γ L ps = some xs → RPp m F (htag H) σ nx xs (ps.map fun (i, x) => (i, ev t x))
  | [], _, h => by cases h; exact .nil
  | (i, o) :: os, xs, h => by
    simp only [evp] at h
    cases h1 : vev Γ L o with
    | none => rw [h1] at h; cases h
    | some x =>
      rw [h1] at h
      cases h2 : evp Γ L os with
      | none => rw [h2] at h; cases h
      | some r => rw [h2] at h; cases h; exact .cons (vev_rel hx hl h1) (evp_rel hx hl h2)

theorem build_struct {P : Program} {t : TypeId} {z : List Value} {fields : Array Field} {places : Array (Nat × Nat)} {ps : Array (Nat × Value)} {out : Array Value} (hz : zeroCellsOf P t = some z) (hu : P.underlying t = some (.struct fields))
    (hpl : dry P (Array.mapM (fun f => do pure (f.offset, ← sizeOf f.type)) fields) = some places) (hf : Instr.fill (fun x => places[x]?) z.toArray ps.toList = some out) : dry P (Instr.build t ps) = some (.agg out) := by
  obtain ⟨i, zv, h1, h2, h3, h4⟩ := zeroCellsOf_some hz
  unfold Instr.build
  simp only [dry_bind]
  have hzv : dry P (zeroValue t) = some zv := by
    simp only [zeroValue, dry_bind, dry_typeInfo, h1, Option.bind_some, h2]
    rfl
  rw [hzv]
  simp only [Option.bind_some, dry_underlying, hu]
  simp only [dry_bind, hpl, Option.bind_some]
  have e : zv.cells = z.toArray := by rw [h3]
  rw [e, hf]
  rfl

/-- the places of a struct's fields -/
def placesL (P : Program) : List Field → Option (List (Nat × Nat))
  | [] => some []
  | f :: l => match P.info? f.type with
    | some i => match placesL P l with
      | some r => some ((f.offset, i.size) :: r)
      | none => none
    | none => none
theorem dry_placesL {P : Program} : ∀ (l : List Field), dry P (l.mapM fun f => (do pure (f.offset, ← sizeOf f.type) : Sem (Nat × Nat))) = placesL P l
  | [] => rfl
  | f :: l => by
    rw [List.mapM_cons]
    simp only [dry_bind, dry_sizeOf, placesL, dry_placesL l]
    cases P.info? f.type with
    | none => rfl
    | some i =>
      simp only [Option.map_some, Option.bind_some]
      cases placesL P l <;> rfl
theorem dry_places {P : Program} {fields : Array Field} {pl : List (Nat × Nat)} (h : placesL P fields.toList = some pl) : dry P (Array.mapM (fun f => (do pure (f.offset, ← sizeOf f.type) : Sem (Nat × Nat))) fields) = some pl.toArray := by
  rw [Array.mapM_eq_mapM_toList, map_eq_pure_bind, dry_bind, dry_placesL, h]
  rfl

theorem VVal.build {t : TypeId} {ps : Array (Nat × Operand)} {z : List Value} {fields : Array Field} {places : List (Nat × Nat)} {parts : List (Nat × PV)} {out : List PV} (hz : zeroCellsOf E.P t = some z) (hu : E.P.underlying t = some (.struct fields))
    (hpl : placesL E.P fields.toList = some places) (hp : evp E.Γ L ps.toList = some parts) (hf : pfill (fun x => places[x]?) (z.map fun v => .p (cellFV v)) parts = some out) (q : Q (mkAgg out) H nx) :
    VVal E w ⟨dst, .build t ps, ty, pos, af, gd⟩ L H nx Q :=
  VVal.quiet q fun m F σ tt h1 h2 => by
    obtain ⟨_, _, _, _, _, hpz⟩ := zeroCellsOf_some hz
    obtain ⟨out', e1, e2, e3⟩ := pfill_rel (fun x => places[x]?) (evp_rel h1 h2 hp) (cs' := z.toArray) (RPs.zero hpz) (all_plain_isCell hpz) hf
    have e4 := build_struct (ps := ps.map fun (i, x) => (i, ev tt x)) hz hu (dry_places hpl) (by rw [Array.toList_map]; simpa using e1)
    refine ⟨.agg out', fun _ => ?_, mkAgg_rel e2 e3⟩
    simp only [aval, aop, hz, e4, Option.map_some]

/-! ## Slices made -/
theorem slice_new {Γ : Nat → Option (List Value × TypeId)} {m : Mem} {F : Nat → Prop} {σ : Nat → Value} {e : TypeId} {cs : List FV} {vs : List Value} (n : Nat) (h : Ctx Γ m F σ H nx) (hr : RFs m F cs vs) (hc : vs.all isCell = true) :
    Ctx Γ (m.alloc (.cells vs e 0 false)) F (upd σ nx (.slice (some ⟨m.size, 0, none⟩) n 0)) ((nx, .vec e cs n false) :: H) (nx + 1) ∧
    Step m F σ H nx (m.alloc (.cells vs e 0 false)) F (upd σ nx (.slice (some ⟨m.size, 0, none⟩) n 0)) ((nx, .vec e cs n false) :: H) (nx + 1) ∧ Quiet m (m.alloc (.cells vs e 0 false)) ∧
    RP (m.alloc (.cells vs e 0 false)) F (htag ((nx, .vec e cs n false) :: H)) (upd σ nx (.slice (some ⟨m.size, 0, none⟩) n 0)) (nx + 1) (.vec nx n 0 n) (.slice (some ⟨m.size, 0, none⟩) n 0) := by
  obtain ⟨c1, c2, c3⟩ := h.new (m' := m.alloc (.cells vs e 0 false)) (x := .vec e cs n false) (s := .slice (some ⟨m.size, 0, none⟩) n 0) (by simp [Mem.alloc]) (fun c hc => by rw [Mem.get_alloc, if_neg (by omega)]) (by simp only [Mem.alloc]; omega)
    (fun c hc => by simp only [blkOf, Option.some.injEq] at hc; omega) (.inr ⟨m.size, 0, vs, rfl, by simp [Mem.alloc], fun hf => Nat.lt_irrefl _ (h.fr _ hf), by rw [Mem.get_alloc, if_pos rfl],
      hr.mono (fun c hf => ⟨hf, by rw [Mem.get_alloc, if_neg (by have := h.fr c hf; omega)]⟩), hc, fun _ => rfl⟩)
  refine ⟨c1, c2, c3, .vec (Nat.lt_succ_self _) rfl fun k hk => ?_⟩
  rw [htag_cons, if_pos rfl] at hk
  simp only [HB.tag, Option.some.injEq, Tg.vec.injEq] at hk
  refine ⟨by omega, fun _ => ?_⟩
  rw [upd_same]
  rfl

theorem VVal.buildSlice {t e : TypeId} {len : Nat} {ps : Array (Nat × Operand)} {z : List Value} {i : TypeInfo} {parts : List (Nat × PV)} {out : List PV} {fs : List FV} (hu : E.P.underlying t = some (.slice e)) (hi : E.P.info? e = some i)
    (hz : zeroCellsOf E.P e = some z) (hl : len * i.size ≤ 2 ^ 24 ∧ z.length = i.size ∧ 0 < i.size) (hp : evp E.Γ L ps.toList = some parts) (hf : pfill (fun j => some (j * i.size, i.size)) ((repeatCells z len).map fun v => .p (cellFV v)) parts = some out)
    (ha : allP out = some fs) (q : Q (.vec nx len 0 len) ((nx, .vec e fs len false) :: H) (nx + 1)) : VVal E w ⟨dst, .buildSlice t len ps, ty, pos, af, gd⟩ L H nx Q := by
  intro m F σ tt h1 h2
  obtain ⟨_, _, _, _, _, hpz⟩ := zeroCellsOf_some hz
  have hpr := repeat_all hpz len
  obtain ⟨out', e1, e2, e3⟩ := pfill_rel (fun j => some (j * i.size, i.size)) (evp_rel h1 h2 hp) (cs' := (repeatCells z len).toArray) (RPs.zero hpr) (all_plain_isCell hpr) hf
  obtain ⟨c1, c2, c3, c4⟩ := slice_new (e := e) len h1 (allP_rel ha e2) e3
  refine AVal.op (v := .slice (some ⟨m.size, 0, none⟩) len 0) (fun _ => ?_) ⟨_, _, _, F, _, q, c1, c4, c2, fun _ => c3⟩
  have e1' : Instr.fill (fun j => some (j * i.size, i.size)) (repeatCells z len).toArray (ps.map fun (i, x) => (i, ev tt x)).toList = some out' := by rw [Array.toList_map]; exact e1
  simp only [aval, aop, hu, hi, hz, hl, and_self, if_true, e1', e3, newSlice]

theorem VVal.makeSlice {t e : TypeId} {l c : Operand} {n : Nat} {z : List Value} {i : TypeInfo} (hu : E.P.underlying t = some (.slice e)) (hi : E.P.info? e = some i) (hz : zeroCellsOf E.P e = some z) (hl : vev E.Γ L l = some (.p (.int .i64 n))) (hc : vev E.Γ L c = some (.p (.int .i64 n)))
    (hb : n * (i.bytes + 1) ≤ room ∧ n ≤ 2 ^ 40) (hs : z.length = i.size ∧ 0 < i.size) (q : Q (.vec nx n 0 n) ((nx, .vec e ((repeatCells z n).map cellFV) n false) :: H) (nx + 1)) : VVal E w ⟨dst, .makeSlice t l c, ty, pos, af, gd⟩ L H nx Q := by
  intro m F σ tt h1 h2
  obtain ⟨_, _, _, _, _, hpz⟩ := zeroCellsOf_some hz
  have hpr := repeat_all hpz n
  obtain ⟨c1, c2, c3, c4⟩ := slice_new (e := e) n h1 (cellFVs_rel (F := F) hpr) (all_plain_isCell hpr)
  refine AVal.op (v := .slice (some ⟨m.size, 0, none⟩) n 0) (fun _ => ?_) ⟨_, _, _, F, _, q, c1, c4, c2, fun _ => c3⟩
  have h0 : (0 : Int) ≤ (n : Int) ∧ (n : Int) ≤ (n : Int) ∧ (n : Int).toNat * (i.bytes + 1) ≤ room ∧ (n : Int) ≤ 2 ^ 40 ∧ z.length = i.size ∧ 0 < i.size := ⟨by omega, by omega, by rw [Int.toNat_natCast]; exact hb.1, by have := hb.2; omega, hs⟩
  simp only [aval, aop, hu, vev_int h1 h2 hl, vev_int h1 h2 hc, hi, hz]
  rw [if_pos h0]
  simp only [newSlice, Int.toNat_natCast]

/-! ## What a slice holds -/
def SlC (Γ : Nat → Option (List Value × TypeId)) (L : Frame) (H : Heap) (nx : Nat) (x : Operand) (sz : Nat) (xs : List FV) (k : Nat) : Prop :=
  ∀ m F σ t, Ctx Γ m F σ H nx → RL m F (htag H) σ nx L t → lenOf (ev t x) = some k ∧ ∃ l, sliceCells m sz k (ev t x) = some l ∧ RFs m F xs l ∧ l.all isCell = true

theorem takeN_len {k : Nat} {l ws : List Value} (h : takeN k l = some ws) : ws.length = k := by
  obtain ⟨rfl, hk⟩ := takeN_some h
  rw [List.length_take]; omega

theorem SlC.nil {Γ : Nat → Option (List Value × TypeId)} {x : Operand} {sz : Nat} (h : vev Γ L x = some (.p (.val (.slice none 0 0)))) : SlC Γ L H nx x sz [] 0 := fun m F σ t h1 h2 => by
  have := vev_rel h1 h2 h
  generalize ev t x = v at this
  cases this with | p h => cases h; exact ⟨rfl, [], rfl, .nil, rfl⟩

theorem SlC.lst {Γ : Nat → Option (List Value × TypeId)} {x : Operand} {e : TypeId} {sz k : Nat} {xs : List FV} (h : vev Γ L x = some (.p (.lst e xs k))) (hl : xs.length = k * sz) : SlC Γ L H nx x sz xs k := fun m F σ t h1 h2 => by
  have := vev_rel h1 h2 h
  generalize ev t x = v at this
  cases this with
  | p h =>
    cases h with
    | nil => exact ⟨rfl, [], rfl, .nil, rfl⟩
    | room => exact ⟨rfl, [], rfl, .nil, rfl⟩
    | lst hF hm hw hr hc =>
      rename_i b o g vs ws ro
      refine ⟨rfl, ws, ?_, hr, hc⟩
      simp only [sliceCells, Nat.le_refl, if_true, Mem.cellsAt, hm]
      simp only [agen, Option.getD_some, if_true]
      rw [← hl]; exact hw

theorem SlC.vec {Γ : Nat → Option (List Value × TypeId)} {x : Operand} {b n off len sz : Nat} {e : TypeId} {cs : List FV} {z : Bool} (h : vev Γ L x = some (.vec b n off len)) (hb : hget H b = some (.vec e cs n z)) (hl : off + len * sz ≤ cs.length) :
    SlC Γ L H nx x sz ((cs.drop off).take (len * sz)) len := fun m F σ t h1 h2 => by
  have hsub := vev_vec h1 h2 h hb
  obtain ⟨_, hr⟩ := h1.hp b _ hb
  rcases hr with ⟨r1, r2, r3⟩ | ⟨c, g, vs, r1, r2, r3, r4, r5, r6, r7⟩
  · have hv : (∃ a, ev t x = .slice a 0 0 ∧ (a = none ∨ ∃ b o g, a = some ⟨b, o, some g⟩)) ∧ len = 0 := by
      rcases r3 with ⟨r3, _⟩ | ⟨b', o', g', r3, _⟩
      · rw [r3] at hsub; obtain ⟨q1, q2, q3⟩ := hsub; exact ⟨⟨none, q1, .inl rfl⟩, q3⟩
      · rw [r3] at hsub; simp only [SubOf] at hsub; obtain ⟨q1, q2, q3⟩ := hsub; exact ⟨⟨_, q1, .inr ⟨_, _, _, rfl⟩⟩, q3⟩
    obtain ⟨⟨a, ha, hb'⟩, rfl⟩ := hv
    rw [ha]
    refine ⟨rfl, [], ?_, by rw [Nat.zero_mul, List.take_zero]; exact .nil, rfl⟩
    rcases hb' with rfl | ⟨_, _, _, rfl⟩ <;> rfl
  · rw [r1] at hsub
    simp only [SubOf] at hsub
    rw [hsub]
    have hlen := r5.length
    have hle : len * sz ≤ (vs.drop off).length := by rw [List.length_drop]; omega
    refine ⟨rfl, (vs.drop off).take (len * sz), ?_, ?_, all_take (all_drop r6 _) _⟩
    · simp only [sliceCells, Nat.le_refl, if_true, Mem.cellsAt, r4]
      simp only [agen, Option.getD_some, if_true, takeN, if_pos hle]
    · have : ∀ {cs : List FV} {vs : List Value} (k : Nat), RFs m F cs vs → RFs m F (cs.take k) (vs.take k) := by
        intro cs vs k h
        induction k generalizing cs vs with
        | zero => exact .nil
        | succ k ih => cases h with | nil => exact .nil | cons h t => exact .cons h (ih t)
      exact this _ (RFs.drop off r5)
theorem SlC.all {Γ : Nat → Option (List Value × TypeId)} {x : Operand} {b n sz : Nat} {e : TypeId} {cs : List FV} {z : Bool} (h : vev Γ L x = some (.vec b n 0 n)) (hb : hget H b = some (.vec e cs n z)) (hl : cs.length = n * sz) : SlC Γ L H nx x sz cs n := by
  have := SlC.vec (sz := sz) (nx := nx) h hb (by omega)
  rw [List.drop_zero, ← hl, List.take_length] at this
  exact this

/-! ## Append -/
theorem VVal.append {s x : Operand} {sT xT e : TypeId} {xd : TypeDesc} {i : TypeInfo} {b n k : Nat} {cs xs : List FV} {z : Bool} (hs : vev E.Γ L s = some (.vec b n 0 n)) (hb : hget H b = some (.vec e cs n z)) (hx : SlC E.Γ L H nx x i.size xs k)
    (hsT : E.P.underlying sT = some (.slice e)) (hxT : E.P.underlying xT = some xd) (hd : ∀ k, xd ≠ .int k) (hi : E.P.info? e = some i) (hzs : zeroSized i = true) (h0 : 0 < k) (hroom : (n + k) * (i.bytes + 1) ≤ room) (hl : cs.length = n * i.size) (hsz : 0 < i.size)
    (q : Q (.vec b (n + k) 0 (n + k)) (hput H b (.vec e (cs ++ xs) (n + k) z)) nx) : VVal E true ⟨dst, .call { callee := .builtin .append, args := #[s, x], argTypes := #[sT, xT] }, ty, pos, af, gd⟩ L H nx Q := by
  intro m F σ t h1 h2
  have hsub := vev_vec h1 h2 hs hb
  obtain ⟨hx1, l, hx2, hx3, hx4⟩ := hx m F σ t h1 h2
  obtain ⟨hlt, hr⟩ := h1.hp b _ hb
  have hlenS : lenOf (ev t s) = some n := by
    rcases hr with ⟨r1, r2, r3⟩ | ⟨c, g, vs, r1, _⟩
    · rcases r3 with ⟨r3, _⟩ | ⟨b', o', g', r3, _⟩ <;> rw [r3] at hsub <;> simp only [SubOf, nilSlice] at hsub <;> rw [hsub.1, r2] <;> rfl
    · rw [r1] at hsub; simp only [SubOf] at hsub; rw [hsub]; rfl
  have happ : ∀ v m', appendCells m e i.size l k (ev t s) = some (v, m') → aappend E.P #[sT, xT] #[ev t s, ev t x] m = some (v, m') := by
    intro v m' ha
    have hxd : ∀ a : Option (Value × Mem), a = some (v, m') → (match xd with | .int _ => none | _ => a) = some (v, m') := by
      intro a ha; cases xd <;> first | exact ha | exact absurd rfl (hd _)
    simp only [aappend, List.getElem?_toArray, List.getElem?_cons_zero, List.getElem?_cons_succ, hsT, hxT, hlenS, hi, hzs, Bool.not_true, Bool.false_eq_true, if_false]
    cases xd <;> first | exact absurd rfl (hd _) | (simp only [hx1, hx2, hx4, Bool.and_true, decide_eq_true_eq]; rw [if_pos hroom]; exact ha)
  have hfin : ∀ v m' s', appendCells m e i.size l k (ev t s) = some (v, m') → s' = v → (Ctx E.Γ m' F (upd σ b s') (hput H b (.vec e (cs ++ xs) (n + k) z)) nx ∧ Step m F σ H nx m' F (upd σ b s') (hput H b (.vec e (cs ++ xs) (n + k) z)) nx) → (∃ c g, v = .slice (some ⟨c, 0, none⟩) (n + k) g) →
      AVal E.P E.O E.G ⟨dst, .call { callee := .builtin .append, args := #[s, x], argTypes := #[sT, xT] }, ty, pos, af, gd⟩ ⟨t, m⟩ fun v m' => ∃ r H' nx' F' σ', Q r H' nx' ∧ Ctx E.Γ m' F' σ' H' nx' ∧ RP m' F' (htag H') σ' nx' r v ∧ Step m F σ H nx m' F' σ' H' nx' ∧ (true = false → Quiet m m') := by
    rintro v m' s' ha rfl ⟨c1, c2⟩ ⟨c, g, hv⟩
    refine AVal.op (v := s') (m' := m') (fun _ => ?_) ⟨_, _, _, F, _, q, c1, ?_, c2, fun h => by cases h⟩
    · have := happ _ _ ha
      simp only [aval, aop]
      simpa using this
    · refine .vec hlt (by rw [hv]; rfl) fun j hj => ?_
      rw [htag_hput, if_pos rfl, htag, hb] at hj
      simp only [Option.map_some, HB.tag, Option.some.injEq, Tg.vec.injEq] at hj
      refine ⟨by omega, fun _ => ?_⟩
      rw [upd_same, hv]
      rfl
  have htle : TLe (some (HB.vec e cs n z).tag) (some (HB.vec e (cs ++ xs) (n + k) z).tag) := Nat.le_add_right _ _
  have hne : (HB.vec e cs n z).tag = (HB.vec e (cs ++ xs) (n + k) z).tag → False := by simp only [HB.tag, Tg.vec.injEq]; omega
  rcases hr with ⟨r1, r2, r3⟩ | ⟨c, g, vs, r1, r2, r3, r4, r5, r6, r7⟩
  · have hv : blkOf (σ b) = none ∧ (ev t s = .slice none 0 0 ∨ ∃ b o g, ev t s = .slice (some ⟨b, o, some g⟩) 0 0) := by
      rcases r3 with ⟨r3, _⟩ | ⟨b', o', g', r3, _⟩
      · rw [r3] at hsub ⊢; exact ⟨rfl, .inl hsub.1⟩
      · rw [r3] at hsub ⊢; simp only [SubOf] at hsub; exact ⟨rfl, .inr ⟨_, _, _, hsub.1⟩⟩
    have ha : appendCells m e i.size l k (ev t s) = some (newSlice m e l k) := by
      rcases hv.2 with hv | ⟨_, _, _, hv⟩ <;> rw [hv] <;> simp only [appendCells] <;> rw [if_neg (by omega)]
    subst r1; subst r2
    refine hfin _ _ _ ha rfl ?_ ⟨m.size, 0, by rw [Nat.zero_add]⟩
    refine h1.change (x0 := .vec e [] 0 z) (x' := .vec e ([] ++ xs) (0 + k) z) hb htle (fun e => (hne e).elim) (by simp [newSlice, Mem.alloc]) (fun c hc _ => by (try simp only [newSlice]); rw [Mem.get_alloc, if_neg (by omega)])
      (fun k' k1 k2 _ => by simp only [newSlice, Mem.alloc]; omega) (fun c hc => by simp only [newSlice, blkOf, Option.some.injEq] at hc; right; omega) ?_
    refine .inr ⟨m.size, 0, l, by simp [newSlice], by simp [newSlice, Mem.alloc], fun hf => Nat.lt_irrefl _ (h1.fr _ hf), by (try simp only [newSlice]); rw [Mem.get_alloc, if_pos rfl], ?_, hx4, fun h => by omega⟩
    rw [List.nil_append]
    exact hx3.mono (fun c hf => ⟨hf, by (try simp only [newSlice]); rw [Mem.get_alloc, if_neg (by have := h1.fr c hf; omega)]⟩)
  · rw [r1] at hsub
    simp only [SubOf] at hsub
    have hlen := r5.length
    have hold : takeN (n * i.size) (vs.drop 0) = some vs := by
      rw [List.drop_zero, ← hl, hlen]; simp [takeN]
    have ha : appendCells m e i.size l k (ev t s) = some (.slice (some ⟨c, 0, none⟩) (n + k) (g + 1), m.put c (.cells (vs ++ l) e (g + 1) false)) := by
      rw [hsub]
      simp only [appendCells, r4, beq_self_eq_true, decide_eq_true hsz, Bool.and_self, if_true, hold]
      simp
    have hput' : ∀ d, c ≠ d → (m.put c (.cells (vs ++ l) e (g + 1) false)).get d = m.get d := fun d hd => by rw [Mem.get_put, if_neg hd]
    refine hfin _ _ _ ha rfl ?_ ⟨c, g + 1, rfl⟩
    refine h1.change (x' := .vec e (cs ++ xs) (n + k) z) hb htle (fun e => (hne e).elim) (Nat.le_refl _) (fun d _ hd => hput' d fun e => hd (by rw [r1, e]; rfl)) (fun k' k1 k2 k3 => by
      have := k3 c (by rw [r1]; rfl)
      simp only [Mem.put]; omega) (fun d hd => .inl (by rw [r1]; exact hd)) ?_
    refine .inr ⟨c, g + 1, vs ++ l, rfl, r2, r3, by rw [Mem.get_put, if_pos rfl], ?_, by rw [List.all_append, r6, hx4]; rfl, fun h => by omega⟩
    exact (r5.append hx3).mono (fun d hd => ⟨hd, hput' d fun e => r3 (e ▸ hd)⟩)

end Go.Vm
