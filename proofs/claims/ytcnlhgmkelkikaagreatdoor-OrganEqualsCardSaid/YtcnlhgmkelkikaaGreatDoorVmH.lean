/-
  The values' layer: a field of an element of an own slice is stored. No condition. Nothing of one program stands here.
-/
import Derived.Test.YtcnlhgmkelkikaaGreatDoorVmG
set_option linter.unusedSimpArgs false
set_option linter.unusedVariables false
namespace Go.Vm
open Go.Am
variable {E : Env} {L : Frame} {H : Heap} {nx : Nat} {Q : PV → Heap → Nat → Prop}
variable {dst : Option Tmp} {ty : TypeId} {pos : String} {af : Array Edge} {gd : Option (Nat × Bool)}

theorem FLes.appR (C : List FV) : ∀ {p q : List FV}, FLes p q → FLes (p ++ C) (q ++ C)
  | _, _, .refl _ => .refl _
  | _, _, .cons h t => .cons h (FLes.appR C t)
theorem FLes.appL : ∀ (A : List FV) {p q : List FV}, FLes p q → FLes (A ++ p) (A ++ q)
  | [], _, _, h => h
  | a :: A, _, _, h => .cons (.refl a) (FLes.appL A h)
theorem psplice_left {α : Type} : ∀ (z p c : List α) (o : Nat), o + z.length ≤ p.length → psplice (p ++ c) o z = psplice p o z ++ c
  | [], _, _, _, _ => rfl
  | x :: z, p, c, o, h => by
    simp only [List.length_cons] at h
    simp only [psplice]
    rw [List.set_append_left _ _ (by omega), psplice_left z (p.set o x) c (o + 1) (by rw [List.length_set]; omega)]
theorem psplice_field {α : Type} [Enc α] (l : List α) (i f : Nat) (y : α) (fs : List FV) (h : i < l.length) (hf : f + fs.length ≤ Enc.size α) (hy : FLes (psplice (Enc.enc (gi l i)) f fs) (Enc.enc y)) : FLes (psplice (cells l) (i * Enc.size α + f) fs) (cells (l.set i y)) := by
  have h1 : l = l.take i ++ (gi l i :: l.drop (i + 1)) := by
    have hd : l.drop i = gi l i :: l.drop (i + 1) := by
      rw [List.drop_eq_getElem_cons h]; simp [gi, List.getElem?_eq_getElem h]
    conv => lhs; rw [← List.take_append_drop i l]
    rw [hd]
  have h2 : l.set i y = l.take i ++ (y :: l.drop (i + 1)) := by
    conv => lhs; rw [h1]
    rw [List.set_append_right _ _ (by simp; omega)]
    rw [List.length_take, Nat.min_eq_left (by omega), Nat.sub_self, List.set_cons_zero]
  have h4 : cells l = cells (l.take i) ++ (Enc.enc (gi l i) ++ cells (l.drop (i + 1))) := by
    conv => lhs; rw [h1, cells_append]
    rfl
  have h3 : i * Enc.size α + f = (cells (l.take i)).length + f := by rw [cells_length, List.length_take, Nat.min_eq_left (by omega)]
  rw [h2, cells_append, h4, h3, psplice_app, psplice_left _ _ _ _ (by rw [Enc.len]; exact hf)]
  exact FLes.appL _ (FLes.appR _ hy)

theorem VVal.storeVW {t : TypeId} {a x : Operand} {b tag off : Nat} {e : TypeId} {cs cs' fs : List FV} {z : Bool} {r : PV} {i : TypeInfo} (ha : vev E.Γ L a = some (.eref b tag off)) (hx : vev E.Γ L x = some r) (hb : hget H b = some (.vec e cs tag z)) (hn : notTup r)
    (hf : pcells r = fs.map .p) (hi : E.P.info? t = some i) (hl : fs.length = i.size) (h0 : 0 < i.size) (hle : off + i.size ≤ cs.length) (hw : FLes (psplice cs off fs) cs') (q : Q (.tup []) (hput H b (.vec e cs' tag z)) nx) : VVal E true ⟨dst, .store t a x, ty, pos, af, gd⟩ L H nx Q := by
  intro m F σ tt h1 h2
  obtain ⟨c, k, g, h3, h4⟩ := vev_eref h1 h2 ha hb
  obtain ⟨h5, h6⟩ := pcells_rel hn (vev_rel h1 h2 hx)
  rw [hf] at h5
  obtain ⟨hlt, hr⟩ := h1.hp b _ hb
  rcases hr with ⟨r1, r2, r3⟩ | ⟨c', g', vs, r1, r2, r3, r4, r5, r6, r7⟩
  · rcases r3 with ⟨r3, _⟩ | ⟨b', o', g', r3, _⟩ <;> rw [r3] at h4 <;> cases h4
  rw [h4] at r1
  cases r1
  have hlen := h5.length
  rw [List.length_map] at hlen
  have hlen2 := r5.length
  have hst : astore E.P t ⟨c, off, some g⟩ (ev tt x) m = some (m.put c (.cells (splice vs off (ev tt x).cells.toList) e g false)) := by
    unfold astore storeRow
    rw [hi]
    simp only [r4]
    rw [if_pos (by simpa using hlen.symm.trans hl), if_pos]
    simp only [agen, Option.getD_some, beq_self_eq_true, Bool.true_and, Bool.and_eq_true, decide_eq_true_eq]
    refine ⟨⟨?_, ?_⟩, h6⟩
    · rw [← hlen, hl, ← hlen2]; exact ⟨trivial, hle⟩
    · rw [← hlen, hl]; exact h0
  have hput' : ∀ d, c ≠ d → (m.put c (.cells (splice vs off (ev tt x).cells.toList) e g false)).get d = m.get d := fun d hd => by rw [Mem.get_put, if_neg hd]
  obtain ⟨c1, c2⟩ := h1.change (m' := m.put c (.cells (splice vs off (ev tt x).cells.toList) e g false)) (x' := .vec e cs' tag z) (s' := σ b) hb (Nat.le_refl _) (fun _ => rfl) (Nat.le_refl _)
    (fun d _ hd => hput' d fun e => hd (by rw [h4, e]; rfl)) (fun k k1 k2 k3 => by
      have := k3 c (by rw [h4]; rfl)
      simp only [Mem.put]; omega) (fun d hd => .inl hd) (by
      refine .inr ⟨c, g, splice vs off (ev tt x).cells.toList, h4, r2, r3, by rw [Mem.get_put, if_pos rfl], ?_, all_splice _ r6 h6, r7⟩
      exact RFs.le hw ((RFs.splice off r5 (RFs.ofRPs h5)).mono (fun d hd => ⟨hd, hput' d fun e => r3 (e ▸ hd)⟩)))
  refine AVal.op (v := undef) (fun _ => ?_) ⟨_, _, _, F, _, q, c1, .tup .nil, c2, fun h => by cases h⟩
  simp only [aval, aop, h3, hst, Option.map_some]
/-- a field (at f) of element i of an own slice; y is the element then -/
theorem VVal.storeVF {α : Type} {_ : Enc α} {t : TypeId} {a x : Operand} {b n i f : Nat} {e : TypeId} {l : List α} {z : Bool} {r : PV} {fs : List FV} {inf : TypeInfo} (y : α) (ha : vev E.Γ L a = some (.eref b n (i * Enc.size α + f))) (hx : vev E.Γ L x = some r) (hb : hget H b = some (.vec e (cells l) n z)) (hn : notTup r)
    (hf : pcells r = fs.map .p) (hinf : E.P.info? t = some inf) (hl : fs.length = inf.size) (h0 : 0 < inf.size) (hi : i < l.length) (hsz : f + inf.size ≤ Enc.size α) (hy : FLes (psplice (Enc.enc (gi l i)) f fs) (Enc.enc y)) (q : Q (.tup []) (hput H b (.vec e (cells (l.set i y)) n z)) nx) : VVal E true ⟨dst, .store t a x, ty, pos, af, gd⟩ L H nx Q :=
  VVal.storeVW ha hx hb hn hf hinf hl h0 (by
    rw [cells_length]
    have := Nat.mul_le_mul_right (Enc.size α) hi
    rw [Nat.succ_mul] at this
    omega) (psplice_field l i f y fs hi (by rw [hl]; exact hsz) hy) q
/-- two bytes to a string -/
theorem VVal.ofByte2 {w : Bool} {s d e e2 : TypeId} {x : Operand} {b : Nat} {z : Bool} {n k : Int} (hx : vev E.Γ L x = some (.vec b 2 0 2)) (hb : hget H b = some (.vec e2 [.int .u8 n, .int .u8 k] 2 z)) (hs : E.P.underlying s = some (.slice e)) (hd : E.P.underlying d = some .string) (he : E.P.underlying e = some (.int .u8)) (hn : 0 ≤ n ∧ n < 256) (hk : 0 ≤ k ∧ k < 256)
    (q : Q (st [UInt8.ofNat n.toNat, UInt8.ofNat k.toNat]) H nx) : VVal E w ⟨dst, .convert s d x, ty, pos, af, gd⟩ L H nx Q :=
  VVal.quiet q fun m F σ tt c1 c2 => by
    obtain ⟨hl1, vs, hl2, hl3, hl4⟩ := SlC.all (sz := 1) hx hb rfl m F σ tt c1 c2
    have hc : cells [UInt8.ofNat n.toNat, UInt8.ofNat k.toNat] = [.int .u8 n, .int .u8 k] := by
      show [FV.int .u8 (((UInt8.ofNat n.toNat).toNat : Nat) : Int), FV.int .u8 (((UInt8.ofNat k.toNat).toNat : Nat) : Int)] = _
      rw [UInt8.toNat_ofNat', UInt8.toNat_ofNat']
      congr 2
      · omega
      · congr 2
        omega
    rw [← hc] at hl3
    have hvs := cells_bytes hl3
    subst hvs
    have hsub := vev_vec c1 c2 hx hb
    have hag : ∃ a g, ev tt x = .slice a 2 g := by
      unfold SubOf at hsub
      split at hsub
      · exact ⟨_, _, hsub⟩
      · exact absurd hsub.2.2 (by decide)
    obtain ⟨a, g, hag⟩ := hag
    rw [hag] at hl2
    refine ⟨.string (bs [UInt8.ofNat n.toNat, UInt8.ofNat k.toNat]), fun _ => ?_, .p (.str _)⟩
    have hsl : (isSlT E.P s || isSlT E.P d) = true := by simp only [isSlT, hs, hd]; rfl
    simp only [aval, aop, hsl, if_true, aconv, hs, hd, hag, he, hl2, unbyte_some]
    rfl
end Go.Vm

