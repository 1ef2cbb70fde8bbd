/-
  The values' layer: functions and calls. No condition. Nothing of one program stands here.
-/
import Derived.Test.YtmfnchgkffhpfaaDoorVm3
namespace Go.Vm
open Go.Am
variable {E : Env} {bn : Nat} {L : Frame} {H : Heap} {nx : Nat}

/-! ## Loading, sound -/
theorem takeN_takeN {j k : Nat} {l ws w : List Value} (h : takeN k l = some ws) (h2 : takeN j ws = some w) : takeN j l = some w := by
  obtain ⟨rfl, hk⟩ := takeN_some h
  obtain ⟨rfl, hj⟩ := takeN_some h2
  simp only [List.length_take] at hj
  unfold takeN
  rw [if_pos (by omega), List.take_take, Nat.min_eq_left (by omega)]

theorem head_rel {m : Mem} {F : Nat → Prop} {cs : List FV} {ws : List Value} {x : FV} (h : RFs m F cs ws) (hx : cs.head? = some x) : ∃ v, takeN 1 ws = some [v] ∧ RF m F x v := by
  cases h with
  | nil => cases hx
  | cons h t => cases hx; exact ⟨_, by simp [takeN], h⟩
section
variable {m : Mem} {F : Nat → Prop} {T : Nat → Option Tg} {σ : Nat → Value} {n' : Nat}
theorem head_relP {cs : List PV} {ws : List Value} {x : PV} (h : RPs m F T σ n' cs ws) (hx : cs.head? = some x) : ∃ v, takeN 1 ws = some [v] ∧ RP m F T σ n' x v := by
  cases h with
  | nil => cases hx
  | cons h t => cases hx; exact ⟨_, by simp [takeN], h⟩
end

theorem loadF_rel {P : Program} {m : Mem} {F : Nat → Prop} {t : TypeId} {a : Addr} {cs : List FV} {vs ws : List Value} {e : TypeId} {g : Nat} {ro : Bool} {x : FV} (hm : m.get a.block = .cells vs e g ro) (hg : agen a = g)
    (hw : takeN cs.length (vs.drop a.off) = some ws) (h : RFs m F cs ws) (hc : ws.all isCell = true) (hx : loadF P t cs = some x) : ∃ v, aload P t a m = some v ∧ RF m F x v := by
  unfold loadF at hx
  unfold aload
  have key : ∀ n w, takeN n ws = some w → m.cellsAt a n = some w := by
    intro n w hn
    unfold Mem.cellsAt
    rw [hm]
    simp only [hg, if_true]
    exact takeN_takeN hw hn
  cases hag : isAggT P t with
  | none => rw [hag] at hx; cases hx
  | some b =>
    rw [hag] at hx
    cases b with
    | false =>
      obtain ⟨v, h1, h2⟩ := head_rel h hx
      exact ⟨v, by simp only [key 1 _ h1, Option.bind_some, List.head?_cons], h2⟩
    | true =>
      cases hi : P.info? t with
      | none => rw [hi] at hx; cases hx
      | some i =>
        rw [hi] at hx
        simp only [Option.map_eq_some_iff] at hx
        obtain ⟨l, h1, rfl⟩ := hx
        obtain ⟨w, h2, h3⟩ := takeF_takeN h h1
        refine ⟨.agg w.toArray, by simp only [key _ _ h2, Option.map_some], .agg h3 ?_⟩
        rw [(takeN_some h2).1]
        exact all_take hc _

theorem loadP_rel {P : Program} {m : Mem} {F : Nat → Prop} {T : Nat → Option Tg} {σ : Nat → Value} {n' : Nat} {t : TypeId} {a : Addr} {cs : List PV} {vs ws : List Value} {e : TypeId} {g : Nat} {ro : Bool} {x : PV} (hm : m.get a.block = .cells vs e g ro) (hg : agen a = g)
    (hw : vs.drop a.off = ws) (h : RPs m F T σ n' cs ws) (hc : ws.all isCell = true) (hx : loadP P t cs = some x) : ∃ v, aload P t a m = some v ∧ RP m F T σ n' x v := by
  unfold loadP at hx
  unfold aload
  have key : ∀ n w, takeN n ws = some w → m.cellsAt a n = some w := by
    intro n w hn
    unfold Mem.cellsAt
    rw [hm]
    simp only [hg, if_true, hw]
    exact hn
  cases hag : isAggT P t with
  | none => rw [hag] at hx; cases hx
  | some b =>
    rw [hag] at hx
    cases b with
    | false =>
      obtain ⟨v, h1, h2⟩ := head_relP h hx
      exact ⟨v, by simp only [key 1 _ h1, Option.bind_some, List.head?_cons], h2⟩
    | true =>
      cases hi : P.info? t with
      | none => rw [hi] at hx; cases hx
      | some i =>
        rw [hi] at hx
        simp only [Option.map_eq_some_iff] at hx
        obtain ⟨l, h1, rfl⟩ := hx
        obtain ⟨w, h2, h3⟩ := takeF_takeNP h h1
        refine ⟨.agg w.toArray, by simp only [key _ _ h2, Option.map_some], mkAgg_rel h3 ?_⟩
        rw [(takeN_some h2).1]
        exact all_take hc _

theorem vload_rel {P : Program} {Γ : Nat → Option (List Value × TypeId)} {m : Mem} {F : Nat → Prop} {σ : Nat → Value} {t : TypeId} {a x : PV} {v : Value} (hx : Ctx Γ m F σ H nx) (ha : RP m F (htag H) σ nx a v) (hl : vload P t H a = some x) :
    ∃ p u, v = .pointer (some p) ∧ aload P t p m = some u ∧ RP m F (htag H) σ nx x u := by
  unfold vload at hl
  split at hl
  · simp only [Option.map_eq_some_iff] at hl
    obtain ⟨y, h1, rfl⟩ := hl
    cases ha with
    | p h =>
      cases h with
      | cptr hF hm hg hw h hc =>
        obtain ⟨u, h2, h3⟩ := loadF_rel (a := ⟨_, _, _⟩) hm hg hw h hc h1
        exact ⟨_, u, rfl, h2, .p h3⟩
  · rename_i b off
    cases hb : hget H b with
    | none => rw [hb] at hl; cases hl
    | some y =>
      rw [hb] at hl
      cases y with
      | box e cs =>
        obtain ⟨_, c, vs, r1, r2, r3, r4, r5, r6⟩ := hx.hp b _ hb
        cases ha with
        | ref hb' hc h =>
          obtain ⟨c', h1, h2⟩ := h (by simp [htag, hb, HB.tag])
          rw [r1] at h1
          cases h1
          subst h2
          obtain ⟨u, h3, h4⟩ := loadP_rel (a := ⟨c, off, none⟩) r4 rfl rfl (RPs.drop off r5) (all_drop r6 _) hl
          exact ⟨_, u, rfl, h3, h4⟩
      | vec e cs n z => cases hl
      | map es => cases hl
  · rename_i b tag off
    cases hb : hget H b with
    | none => rw [hb] at hl; cases hl
    | some y =>
      rw [hb] at hl
      cases y with
      | vec e cs n z =>
        simp only at hl
        split at hl
        · rename_i hn _
          subst hn
          simp only [Option.map_eq_some_iff] at hl
          obtain ⟨y, hl, rfl⟩ := hl
          cases ha with
          | eref hb' hc h =>
            obtain ⟨_, h0⟩ := h tag (by simp [htag, hb, HB.tag])
            obtain ⟨c, k, g, h1, h2⟩ := h0 rfl
            rcases (hx.hp b _ hb).2 with ⟨r1, r2, r3⟩ | ⟨c', g', vs, r1, r2, r3, r4, r5, r6, r7⟩
            · rcases r3 with ⟨r3, _⟩ | ⟨_, _, _, r3, _⟩ <;> rw [r3] at h1 <;> cases h1
            · rw [r1] at h1
              cases h1
              subst h2
              obtain ⟨u, h3, h4⟩ := loadF_rel (a := ⟨c, off, some g⟩) (cs := cs.drop off) (ws := vs.drop off) r4 rfl (by simp only [takeN, List.length_drop, r5.length]; rw [if_pos (Nat.le_refl _), ← List.length_drop, List.take_length]) (RFs.drop off r5) (all_drop r6 _) hl
              exact ⟨_, u, rfl, h3, .p h4⟩
        · cases hl
      | box e cs => cases hl
      | map es => cases hl
  · cases hl

/-! ## Functions -/
def argFrame : Nat → List PV → Frame
  | _, [] => []
  | i, a :: l => (i, a) :: argFrame (i + 1) l

theorem argFrame_get : ∀ (l : List PV) (k i : Nat) (v : PV), lget (argFrame k l) i = some v → k ≤ i ∧ l[i - k]? = some v
  | [], _, _, _, h => by cases h
  | a :: l, k, i, v, h => by
    simp only [argFrame, lget_cons] at h
    by_cases e : k = i
    · rw [if_pos e] at h; cases h; subst e; simp
    · rw [if_neg e] at h
      obtain ⟨h1, h2⟩ := argFrame_get l (k + 1) i v h
      refine ⟨by omega, ?_⟩
      have : i - k = (i - (k + 1)) + 1 := by omega
      rw [this]; exact h2

theorem RPs.get {m : Mem} {F : Nat → Prop} {T : Nat → Option Tg} {σ : Nat → Value} {n' : Nat} : ∀ {cs : List PV} {vs : List Value} {i : Nat} {c : PV}, RPs m F T σ n' cs vs → cs[i]? = some c → ∃ v, vs[i]? = some v ∧ RP m F T σ n' c v
  | _, _, i, _, .nil, h => by simp at h
  | _, _, 0, _, .cons h _, hc => by simp at hc; subst hc; exact ⟨_, rfl, h⟩
  | _, _, i + 1, c, .cons (cs := cs) _ t, hc => by
    have hc' : cs[i]? = some c := by simpa using hc
    obtain ⟨v, h1, h2⟩ := RPs.get t hc'
    exact ⟨v, by simpa using h1, h2⟩
theorem RPs.length {m : Mem} {F : Nat → Prop} {T : Nat → Option Tg} {σ : Nat → Value} {n' : Nat} : ∀ {cs : List PV} {vs : List Value}, RPs m F T σ n' cs vs → cs.length = vs.length
  | _, _, .nil => rfl
  | _, _, .cons _ t => by simp [t.length]

def vresult (P : Program) (L : Frame) (H : Heap) : ResultVar → Option PV
  | .tmp t => lget L t
  | .cell a t => match lget L a with
    | some p => vload P t H p
    | none => none

def vlist {α β : Type} (f : α → Option β) : List α → Option (List β)
  | [] => some []
  | a :: l => match f a with
    | some b => match vlist f l with
      | some r => some (b :: r)
      | none => none
    | none => none

def vresults (P : Program) (rs : List ResultVar) (L : Frame) (H : Heap) : Option PV :=
  match vlist (vresult P L H) rs with
  | some [v] => some v
  | some vs => some (.tup vs)
  | none => none

theorem vresult_rel {P : Program} {Γ : Nat → Option (List Value × TypeId)} {m : Mem} {F : Nat → Prop} {σ : Nat → Value} {t : Tr Value} {r : ResultVar} {x : PV} (hx : Ctx Γ m F σ H nx) (hl : RL m F (htag H) σ nx L t) (h : vresult P L H r = some x) :
    ∃ v, resultOf P ⟨t, m⟩ r = some v ∧ RP m F (htag H) σ nx x v := by
  cases r with
  | tmp i => exact ⟨_, rfl, hl i x h⟩
  | cell a ty =>
    simp only [vresult] at h
    cases ha : lget L a with
    | none => rw [ha] at h; cases h
    | some p =>
      rw [ha] at h
      obtain ⟨q, u, h1, h2, h3⟩ := vload_rel hx (hl a p ha) h
      refine ⟨u, ?_, h3⟩
      simp only [resultOf, h1, h2]

theorem vlist_rel {P : Program} {Γ : Nat → Option (List Value × TypeId)} {m : Mem} {F : Nat → Prop} {σ : Nat → Value} {t : Tr Value} (hx : Ctx Γ m F σ H nx) (hl : RL m F (htag H) σ nx L t) : ∀ {rs : List ResultVar} {xs : List PV}, vlist (vresult P L H) rs = some xs →
    ∃ vs, listAll (resultOf P ⟨t, m⟩) rs = some vs ∧ RPs m F (htag H) σ nx xs vs
  | [], _, h => by cases h; exact ⟨[], rfl, .nil⟩
  | r :: rs, xs, h => by
    simp only [vlist] at h
    cases h1 : vresult P L H r with
    | none => rw [h1] at h; cases h
    | some x =>
      rw [h1] at h
      cases h2 : vlist (vresult P L H) rs with
      | none => rw [h2] at h; cases h
      | some ys =>
        rw [h2] at h
        cases h
        obtain ⟨v, h3, h4⟩ := vresult_rel hx hl h1
        obtain ⟨vs, h5, h6⟩ := vlist_rel hx hl h2
        exact ⟨v :: vs, by simp only [listAll, h3, h5], .cons h4 h6⟩

theorem vresults_rel {P : Program} {Γ : Nat → Option (List Value × TypeId)} {m : Mem} {F : Nat → Prop} {σ : Nat → Value} {t : Tr Value} {fn : Func} {x : PV} (hx : Ctx Γ m F σ H nx) (hl : RL m F (htag H) σ nx L t) (h : vresults P fn.results.toList L H = some x) :
    ∃ v, resultsOf P fn ⟨t, m⟩ = some v ∧ RP m F (htag H) σ nx x v := by
  unfold vresults at h
  split at h
  · rename_i v0 hv
    cases h
    obtain ⟨vs, h1, h2⟩ := vlist_rel hx hl hv
    cases h2 with
    | cons h3 t3 =>
      cases t3
      exact ⟨_, by simp only [resultsOf, h1], h3⟩
  · rename_i _ vs0 hne hv
    cases h
    obtain ⟨vs, h1, h2⟩ := vlist_rel hx hl hv
    refine ⟨.tuple vs.toArray, ?_, .tup h2⟩
    simp only [resultsOf, h1]
    split
    · rename_i hh
      simp only [Option.some.injEq] at hh
      subst hh
      cases h2 with
      | cons h3 t3 => cases t3; exact (hne _ rfl).elim
    · rename_i hh
      simp only [Option.some.injEq] at hh
      rw [hh]
    · rename_i hh; cases hh
  · cases h

def Ret (bn : Nat) (Q : PV → Heap → Nat → Prop) (r0 : PV) (H : Heap) (nx : Nat) : Prop :=
  ∃ r H0 nx0, PLe r0 r ∧ r.under nx0 ∧ HCov nx0 H0 H ∧ nx0 ≤ nx ∧ bn ≤ nx0 ∧ Q r H0 nx0

def Done (P : Program) (rs : List ResultVar) (bn : Nat) (Q : PV → Heap → Nat → Prop) (e : AExit) (L : Frame) (H : Heap) (nx : Nat) : Prop :=
  match e with
  | .exit _ => False
  | .normal => ∃ r, vresults P rs L H = some r ∧ Ret bn Q r H nx
  | .ret => ∃ r, vresults P rs L H = some r ∧ Ret bn Q r H nx

theorem VCalls.enter {f : FuncId} {fn : Func} {c : Code} {args : List PV} {Q : PV → Heap → Nat → Prop} (ho : E.O f = none) (hf : E.P.funcs[f]? = some fn) (hb : fn.body = some c) (hok : fnOk E.G fn c = true) (hn : args.length ≤ fn.ntmps)
    (h : VWp E nx c (argFrame 0 args) H nx (Done E.P fn.results.toList nx Q)) : VCalls E f args H nx Q := by
  intro m F σ as h1 h2
  refine ACalls.enter ho hf hb hok (by rw [← h2.length]; exact hn) ((h ⟨m, F, σ, H, nx⟩ rfl m F σ _ h1 ?_ (Step.refl _ _ _ _ _)).mono ?_)
  · intro i v hi
    obtain ⟨_, h3⟩ := argFrame_get args 0 i v hi
    obtain ⟨u, h4, h5⟩ := h2.get h3
    have := tget_tmpsOf as 0 .leaf i
    simp only [Nat.sub_zero] at h4
    have hlt : i < as.length := by
      rcases Nat.lt_or_ge i as.length with h | h
      · exact h
      · rw [List.getElem?_eq_none h] at h4; cases h4
    rw [this, if_pos ⟨Nat.zero_le _, by omega⟩, Nat.sub_zero, List.getD_eq_getElem?_getD, h4]
    exact h5
  · rintro e s ⟨L', H', nx', F', σ', q, c1, c2, c3⟩
    have key : (∃ r, vresults E.P fn.results.toList L' H' = some r ∧ Ret nx Q r H' nx') → ∃ v, resultsOf E.P fn s = some v ∧ ∃ r H' nx' F' σ', Q r H' nx' ∧ Ctx E.Γ s.m F' σ' H' nx' ∧ RP s.m F' (htag H') σ' nx' r v ∧ Step m F σ H nx s.m F' σ' H' nx' := by
      rintro ⟨r0, hr, r, H0, nx0, q1, q2, q3, q4, q5, q6⟩
      obtain ⟨v, h3, h4⟩ := vresults_rel c1 c2 hr
      have hcov : Cov L' H' nx' [] H0 nx0 := ⟨q4, trivial, q3⟩
      exact ⟨v, h3, r, H0, nx0, F', σ', q6, hcov.ctx c1, RP.low (fun b t => HCov.tag q3 b t) q2 (RP.le q1 h4), hcov.step (B := ⟨m, F, σ, H, nx⟩) q5 c3⟩
    cases e with
    | exit i => exact q.elim
    | normal => exact key q
    | ret => exact key q

theorem VCalls.mono {f : FuncId} {args : List PV} {Q R : PV → Heap → Nat → Prop} (h : VCalls E f args H nx R) (hq : ∀ r H' nx', R r H' nx' → Q r H' nx') : VCalls E f args H nx Q :=
  fun m F σ as h1 h2 => (h m F σ as h1 h2).mono fun _ _ ⟨r, H', nx', F', σ', q, c⟩ => ⟨r, H', nx', F', σ', hq _ _ _ q, c⟩

end Go.Vm
