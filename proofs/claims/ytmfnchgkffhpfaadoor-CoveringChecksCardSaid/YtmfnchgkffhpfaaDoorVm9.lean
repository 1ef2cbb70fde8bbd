/-
  The values' layer: the rule for calls. No condition. Nothing of one program stands here.
-/
import Derived.Test.YtmfnchgkffhpfaaDoorVm8
namespace Go.Vm
open Go.Am
variable {E : Env} {L : Frame} {H : Heap} {nx : Nat} {Q : PV → Heap → Nat → Prop} {w : Bool}
variable {dst : Option Tmp} {ty : TypeId} {pos : String} {af : Array Edge} {gd : Option (Nat × Bool)}

def evs (Γ : Nat → Option (List Value × TypeId)) (L : Frame) : List Operand → Option (List PV)
  | [] => some []
  | o :: l => match vev Γ L o with
    | some x => match evs Γ L l with
      | some r => some (x :: r)
      | none => none
    | none => none

theorem evs_rel {Γ : Nat → Option (List Value × TypeId)} {m : Mem} {F : Nat → Prop} {σ : Nat → Value} {t : Tr Value} (hx : Ctx Γ m F σ H nx) (hl : RL m F (htag H) σ nx L t) : ∀ {os : List Operand} {xs : List PV}, evs Γ L os = some xs → RPs m F (htag H) σ nx xs (os.map (ev t))
  | [], _, h => by cases h; exact .nil
  | o :: os, xs, h => by
    simp only [evs] at h
    cases h1 : vev Γ L o with
    | none => rw [h1] at h; cases h
    | some x =>
      rw [h1] at h
      cases h2 : evs Γ L os with
      | none => rw [h2] at h; cases h
      | some r => rw [h2] at h; cases h; exact .cons (vev_rel hx hl h1) (evs_rel hx hl h2)

theorem RPs.append {m : Mem} {F : Nat → Prop} {T : Nat → Option Tg} {σ : Nat → Value} {n : Nat} : ∀ {cs ds : List PV} {vs ws : List Value}, RPs m F T σ n cs vs → RPs m F T σ n ds ws → RPs m F T σ n (cs ++ ds) (vs ++ ws)
  | _, _, _, _, .nil, h => h
  | _, _, _, _, .cons h t, h' => .cons h (RPs.append t h')

theorem rho_lt {ns : List Nat} {i b : Nat} (h : ns[i]? = some b) : rho ns nx i = b := by simp only [rho, h]
theorem rho_ge {ns : List Nat} {i : Nat} (h : ns.length ≤ i) : rho ns nx i = nx + (i - ns.length) := by simp only [rho, List.getElem?_eq_none h]

theorem VVal.callG {fo : Operand} {args : Array Operand} {aT : Array TypeId} {g : FuncId} {fs cs as ac : List PV} {ns : List Nat} {Hc : Heap} {Qc : PV → Heap → Nat → Prop} (hf : vev E.Γ L fo = some (.clo g fs cs)) (ha : evs E.Γ L args.toList = some as)
    (hle : PLes (fs ++ as ++ cs) (PVs.rn (rho ns nx) ac)) (hu : PVs.under ns.length ac) (hHu : HUnder ns.length Hc) (hin : HIn (rho ns nx) H Hc) (hnd : ns.Nodup) (hlt : ∀ b ∈ ns, b < nx) (hw : w = false → Hc = []) (hc : VCalls E g ac Hc ns.length Qc)
    (hq : ∀ r H' nx', Qc r H' nx' → Q (r.rn (rho ns nx)) (news ns.length (rho ns nx) H' (merge ns (rho ns nx) H' H)) (nx + (nx' - ns.length))) :
    VVal E w ⟨dst, .call { callee := .value fo, args := args, argTypes := aT }, ty, pos, af, gd⟩ L H nx Q := by
  intro m F σ t h1 h2
  generalize hρ : rho ns nx = ρ at *
  generalize hk : ns.length = k at *
  have hget_of_lt : ∀ i, i < k → ∃ b, ns[i]? = some b ∧ ρ i = b ∧ b < nx := fun i hi => by
    have : i < ns.length := by omega
    refine ⟨ns[i], List.getElem?_eq_getElem this, ?_, hlt _ (List.getElem_mem this)⟩
    rw [← hρ]; exact rho_lt (List.getElem?_eq_getElem this)
  have hge : ∀ i, k ≤ i → ρ i = nx + (i - k) := fun i hi => by rw [← hρ, ← hk]; exact rho_ge (by omega)
  have hidx : ∀ i, i < k → idx ns (ρ i) = some i := fun i hi => by
    obtain ⟨b, hb, e, _⟩ := hget_of_lt i hi
    rw [e]; exact idx_of hnd hb
  have hidx' : ∀ b i, idx ns b = some i → i < k ∧ b = ρ i := fun b i hi => by
    have h0 := idx_some hi
    have hlt' : i < k := by
      rcases Nat.lt_or_ge i ns.length with h | h
      · omega
      · rw [List.getElem?_eq_none h] at h0; cases h0
    obtain ⟨b', hb', e, _⟩ := hget_of_lt i hlt'
    rw [h0] at hb'; cases hb'
    exact ⟨hlt', e.symm⟩
  have hTc : ∀ b t, htag Hc b = some t → htag H (ρ b) = some t := fun b t hb => by
    unfold htag at hb ⊢
    cases h0 : hget Hc b with
    | none => rw [h0] at hb; cases hb
    | some x =>
      rw [h0] at hb
      obtain ⟨y, hy, hle⟩ := hin.get b x h0
      rw [hy, Option.map_some, hle.tag, HB.rn_tag]
      exact hb
  have hun : ∀ b, b < k → (∀ t, htag Hc b = some t → htag H (ρ b) = some t) ∧ σ (ρ b) = (fun i => σ (ρ i)) b := fun b _ => ⟨hTc b, rfl⟩
  have hown : ∀ c, own Hc (fun i => σ (ρ i)) c → ∃ i x y, i < k ∧ hget Hc i = some x ∧ hget H (ρ i) = some y ∧ blkOf (σ (ρ i)) = some c := by
    rintro c ⟨i, x, hi, hb⟩
    obtain ⟨y, hy, _⟩ := hin.get i x hi
    exact ⟨i, x, y, (hHu.get i x hi).1, hi, hy, hb⟩
  have hown' : ∀ c, own Hc (fun i => σ (ρ i)) c → own H σ c := fun c ho => by
    obtain ⟨i, _, y, _, _, hy, hb⟩ := hown c ho
    exact ⟨ρ i, y, hy, hb⟩
  have hctx : Ctx E.Γ m F (fun i => σ (ρ i)) Hc k := by
    refine ⟨h1.fr, fun i x hi => ?_, fun i i' x x' c hi hi' hb hb' => ?_, h1.gl⟩
    · obtain ⟨y, hy, hle⟩ := hin.get i x hi
      obtain ⟨hik, hux⟩ := hHu.get i x hi
      exact ⟨hik, RB.unrn hun hux (RB.le hle (h1.hp _ y hy).2)⟩
    · obtain ⟨y, hy, _⟩ := hin.get i x hi
      obtain ⟨y', hy', _⟩ := hin.get i' x' hi'
      have e := h1.sep _ _ y y' c hy hy' hb hb'
      have e1 := hidx i (hHu.get i x hi).1
      have e2 := hidx i' (hHu.get i' x' hi').1
      rw [e, e2] at e1
      cases e1; rfl
  have hfv := vev_rel h1 h2 hf
  generalize hfe : ev t fo = fv at hfv
  cases hfv with
  | clo r1 r2 =>
    rename_i vf vc
    have hargs : RPs m F (htag Hc) (fun i => σ (ρ i)) k ac (vf ++ args.toList.map (ev t) ++ vc) := RPs.unrn hun hu (RPs.le hle ((r1.append (evs_rel h1 h2 ha)).append r2))
    refine AVal.call (f := g) (as := vf ++ args.toList.map (ev t) ++ vc) (fun call => by simp only [aval, hfe]) ((hc m F _ _ hctx hargs).mono ?_)
    rintro v m' ⟨r, H', nx', F', σ', q, c1, c2, c3⟩
    have hkn : k ≤ nx' := c3.nxle
    have hHsome : ∀ i, i < k → hget H (ρ i) = none → hget H' i = none := fun i hi hn => by
      have h0 := (c3.names i hi).1
      cases hh : hget H' i with
      | none => rfl
      | some y =>
        have hty : htag H' i = some y.tag := by simp [htag, hh]
        rw [hty] at h0
        cases hc' : htag Hc i with
        | none => rw [hc'] at h0; exact h0.elim
        | some t =>
          have := hTc i t hc'
          simp [htag, hn] at this
    have hinj : ∀ i j, ρ i = ρ j → k ≤ i → k ≤ j → i = j := fun i j e hi hj => by
      rw [hge i hi, hge j hj] at e; omega
    let σn : Nat → Value := fun b => if b < nx then (match idx ns b with | some i => σ' i | none => σ b) else σ' (b - nx + k)
    have hAget : ∀ j, j < nx' → hget (news k ρ H' (merge ns ρ H' H)) (ρ j) = (hget H' j).map (HB.rn ρ) := fun j hj => by
      rcases Nat.lt_or_ge j k with hjk | hjk
      · obtain ⟨b, hb, e, hbn⟩ := hget_of_lt j hjk
        rcases hget_news (k := k) (ρ := ρ) (H := merge ns ρ H' H) (H' := H') (b := ρ j) hinj with ⟨i, hi, e', _⟩ | ⟨_, e'⟩
        · rw [hge i hi, e] at e'; omega
        · rw [e', hget_merge_some (hidx j hjk)]
          cases hH : hget H (ρ j) with
          | none => rw [hHsome j hjk hH]; rfl
          | some y => rfl
      · rcases hget_news (k := k) (ρ := ρ) (H := merge ns ρ H' H) (H' := H') (b := ρ j) hinj with ⟨i, hi, e', _, e''⟩ | ⟨e', e''⟩
        · rw [hinj i j e' hi hjk] at e''; exact e''
        · have hno : idx ns (ρ j) = none := by
            cases hi : idx ns (ρ j) with
            | none => rfl
            | some i =>
              obtain ⟨hik, e3⟩ := hidx' _ i hi
              obtain ⟨b, _, e4, hbn⟩ := hget_of_lt i hik
              rw [hge j hjk] at e3
              omega
          rw [e'', hget_merge_none hno, h1.tagNone (by rw [hge j hjk]; omega), e' j hjk rfl]
          rfl
    have hA : ∀ j, j < nx' → ρ j < nx + (nx' - k) ∧ htag (news k ρ H' (merge ns ρ H' H)) (ρ j) = htag H' j ∧ σn (ρ j) = σ' j := fun j hj => by
      refine ⟨?_, ?_, ?_⟩
      · rcases Nat.lt_or_ge j k with hjk | hjk
        · obtain ⟨b, _, e, hbn⟩ := hget_of_lt j hjk; omega
        · rw [hge j hjk]; omega
      · unfold htag
        rw [hAget j hj]
        cases hget H' j with
        | none => rfl
        | some y => simp [HB.rn_tag]
      · show (if ρ j < nx then _ else _) = _
        rcases Nat.lt_or_ge j k with hjk | hjk
        · obtain ⟨b, _, e, hbn⟩ := hget_of_lt j hjk
          rw [if_pos (by omega), hidx j hjk]
        · rw [hge j hjk, if_neg (by omega)]
          congr 1; omega
    have hB : ∀ b, b < nx → idx ns b = none → hget (news k ρ H' (merge ns ρ H' H)) b = hget H b ∧ σn b = σ b := fun b hb hi => by
      refine ⟨?_, ?_⟩
      · rcases hget_news (k := k) (ρ := ρ) (H := merge ns ρ H' H) (H' := H') (b := b) hinj with ⟨i, hi', e', _⟩ | ⟨_, e'⟩
        · rw [hge i hi'] at e'; omega
        · rw [e', hget_merge_none hi]
      · show (if b < nx then _ else _) = _
        rw [if_pos hb, hi]
    have hC : ∀ b x, hget (news k ρ H' (merge ns ρ H' H)) b = some x → (∃ j y, j < nx' ∧ b = ρ j ∧ hget H' j = some y ∧ x = y.rn ρ) ∨ (b < nx ∧ idx ns b = none ∧ hget H b = some x) := fun b x hx => by
      rcases Nat.lt_or_ge b nx with hb | hb
      · cases hi : idx ns b with
        | none => exact .inr ⟨hb, rfl, by rw [← (hB b hb hi).1]; exact hx⟩
        | some i =>
          obtain ⟨hik, e⟩ := hidx' b i hi
          rw [e, hAget i (by omega)] at hx
          simp only [Option.map_eq_some_iff] at hx
          obtain ⟨y, hy, e'⟩ := hx
          exact .inl ⟨i, y, by omega, e, hy, e'.symm⟩
      · rcases hget_news (k := k) (ρ := ρ) (H := merge ns ρ H' H) (H' := H') (b := b) hinj with ⟨i, hi, e', e1, e2⟩ | ⟨_, e'⟩
        · rw [e2] at hx
          simp only [Option.map_eq_some_iff] at hx
          obtain ⟨y, hy, e'⟩ := hx
          exact .inl ⟨i, y, (c1.hp i y hy).1, by rw [← ‹ρ i = b›], hy, e'.symm⟩
        · have hno : idx ns b = none := by
            cases hi : idx ns b with
            | none => rfl
            | some i =>
              obtain ⟨hik, e3⟩ := hidx' _ i hi
              obtain ⟨b', _, e4, hbn⟩ := hget_of_lt i hik
              omega
          rw [e', hget_merge_none hno, h1.tagNone hb] at hx
          cases hx
    have hD : Names nx (htag H) σ (htag (news k ρ H' (merge ns ρ H' H))) σn := fun b hb => by
      cases hi : idx ns b with
      | none =>
        obtain ⟨e1, e2⟩ := hB b hb hi
        rw [e2]
        unfold htag
        rw [e1]
        exact ⟨TLe.refl _, fun _ _ _ => rfl⟩
      | some i =>
        obtain ⟨hik, e⟩ := hidx' b i hi
        obtain ⟨_, a2, a3⟩ := hA i (by omega)
        rw [e, a2, a3]
        obtain ⟨n1, n2⟩ := c3.names i hik
        cases ht' : htag H' i with
        | none => exact ⟨trivial, fun _ _ e => by cases e⟩
        | some t' =>
          rw [ht'] at n1 n2
          cases htc : htag Hc i with
          | none => rw [htc] at n1; exact n1.elim
          | some tc =>
            rw [htc] at n1 n2
            rw [hTc i tc htc]
            exact ⟨n1, fun t e1 e2 => n2 t e1 e2⟩
    have hfz := c3.frozen hctx
    have hblk : ∀ b x c, idx ns b = none → hget H b = some x → blkOf (σ b) = some c → ¬ own Hc (fun i => σ (ρ i)) c := fun b x c hi hb hc ho => by
      obtain ⟨i, _, y, hik, _, hy, hbc⟩ := hown c ho
      have e := h1.sep b (ρ i) x y c hb hy hc hbc
      rw [e, hidx i hik] at hi
      cases hi
    refine ⟨_, _, _, F', σn, hq r H' nx' q, ⟨c1.fr, ?_, ?_, c1.gl⟩, RP.rn hA c2, ⟨c3.size, fun c hc ho => c3.keep c hc fun o => ho (hown' c o), c3.fmono, fun c hc hf => ?_, ?_, Nat.le_add_right _ _, hD, fun j j1 j2 j3 => c3.low j j1 j2 fun c ho => j3 c (hown' c ho)⟩, ?_⟩
    · intro b x hx
      rcases hC b x hx with ⟨j, y, hj, rfl, hy, rfl⟩ | ⟨hb, hi, hx'⟩
      · obtain ⟨a1, a2, a3⟩ := hA j hj
        rw [a3]
        exact ⟨a1, RB.rn hA (c1.hp j y hy).2⟩
      · rw [(hB b hb hi).2]
        refine ⟨by omega, (h1.hp b x hx').2.mono hfz hD (Nat.le_add_right _ _) c3.size fun c hc => ?_⟩
        have hno := hblk b x c hi hx' hc
        obtain ⟨hnf, hcs⟩ := h1.notF ⟨b, x, hx', hc⟩
        exact ⟨c3.keep c hcs hno, fun hf => (c3.fback c hcs hf).elim hnf hno⟩
    · intro b b' x x' c hx hx' hbc hbc'
      rcases hC b x hx with ⟨j, y, hj, rfl, hy, rfl⟩ | ⟨hb, hi, hx1⟩ <;> rcases hC b' x' hx' with ⟨j', y', hj', rfl, hy', rfl⟩ | ⟨hb', hi', hx1'⟩
      · rw [(hA j hj).2.2] at hbc
        rw [(hA j' hj').2.2] at hbc'
        rw [c1.sep j j' y y' c hy hy' hbc hbc']
      · rw [(hA j hj).2.2] at hbc
        rw [(hB b' hb' hi').2] at hbc'
        exact absurd (c3.oback c (h1.notF ⟨b', x', hx1', hbc'⟩).2 ⟨j, y, hy, hbc⟩) (hblk b' x' c hi' hx1' hbc')
      · rw [(hA j' hj').2.2] at hbc'
        rw [(hB b hb hi).2] at hbc
        exact absurd (c3.oback c (h1.notF ⟨b, x, hx1, hbc⟩).2 ⟨j', y', hy', hbc'⟩) (hblk b x c hi hx1 hbc)
      · rw [(hB b hb hi).2] at hbc
        rw [(hB b' hb' hi').2] at hbc'
        exact h1.sep b b' x x' c hx1 hx1' hbc hbc'
    · rcases c3.fback c hc hf with h | h
      · exact .inl h
      · exact .inr (hown' c h)
    · rintro c hc ⟨b, x, hx, hbc⟩
      rcases hC b x hx with ⟨j, y, hj, rfl, hy, rfl⟩ | ⟨hb, hi, hx1⟩
      · rw [(hA j hj).2.2] at hbc
        exact hown' c (c3.oback c hc ⟨j, y, hy, hbc⟩)
      · rw [(hB b hb hi).2] at hbc
        exact ⟨b, x, hx1, hbc⟩
    · intro hwf j j1 j2
      refine c3.low j j1 j2 fun c ho => ?_
      obtain ⟨i, x, _, _, hx, _⟩ := hown c ho
      rw [hw hwf] at hx
      cases hx

end Go.Vm
