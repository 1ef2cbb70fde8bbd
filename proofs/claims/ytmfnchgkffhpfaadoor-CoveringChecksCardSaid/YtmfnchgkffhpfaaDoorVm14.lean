/-
  The values' layer: the rules in the form in which a walk uses them. No condition. Nothing of one program stands here.
-/
import Derived.Test.YtmfnchgkffhpfaaDoorVm13
namespace Go.Vm
open Go.Am
variable {E : Env} {L : Frame} {H : Heap} {nx : Nat} {Q : PV → Heap → Nat → Prop} {w : Bool}
variable {dst : Option Tmp} {ty : TypeId} {pos : String} {af : Array Edge} {gd : Option (Nat × Bool)}

def evF (Γ : Nat → Option (List Value × TypeId)) (L : Frame) : List Operand → Option (List FV)
  | [] => some []
  | o :: l => match vev Γ L o with
    | some (.p x) => match evF Γ L l with
      | some r => some (x :: r)
      | none => none
    | _ => none

theorem evF_evs {Γ : Nat → Option (List Value × TypeId)} : ∀ {os : List Operand} {xs : List FV}, evF Γ L os = some xs → evs Γ L os = some (xs.map .p)
  | [], _, h => by cases h; rfl
  | o :: os, xs, h => by
    simp only [evF] at h
    split at h
    · rename_i x hx
      split at h
      · rename_i r hr
        cases h
        simp only [evs, hx, evF_evs hr, List.map_cons]
      · cases h
    · cases h

/-- a call of a function of pure data -/
theorem VVal.fn {fo : Operand} {args : Array Operand} {aT : Array TypeId} {g : FuncId} {xs : List FV} {r : PV} (hf : vev E.Γ L fo = some (.clo g [] [])) (ha : evF E.Γ L args.toList = some xs)
    (hc : VFun E g xs r) (hr : ∀ ρ, r.rn ρ = r) (q : Q r H nx) : VVal E w ⟨dst, .call { callee := .value fo, args := args, argTypes := aT }, ty, pos, af, gd⟩ L H nx Q :=
  VVal.callF hf (evF_evs ha) (.refl _) hc hr q
/-- .. that makes a slice -/
theorem VVal.fv {fo : Operand} {args : Array Operand} {aT : Array TypeId} {g : FuncId} {xs cs : List FV} {e : TypeId} {n : Nat} {z : Bool} (hf : vev E.Γ L fo = some (.clo g [] [])) (ha : evF E.Γ L args.toList = some xs)
    (hc : VFunV E g xs e cs n z) (q : Q (.vec nx n 0 n) ((nx, .vec e cs n z) :: H) (nx + 1)) : VVal E w ⟨dst, .call { callee := .value fo, args := args, argTypes := aT }, ty, pos, af, gd⟩ L H nx Q :=
  VVal.callV hf (evF_evs ha) (.refl _) hc q

theorem VFun.enter {f : FuncId} {fn : Func} {c : Code} {xs : List FV} {r : PV} (ho : E.O f = none) (hf : E.P.funcs[f]? = some fn) (hb : fn.body = some c) (hok : fnOk E.G fn c = true) (hn : xs.length ≤ fn.ntmps)
    (h : VWp E 0 c (argFrame 0 (xs.map .p)) [] 0 (Done E.P fn.results.toList 0 fun r' H' nx' => r' = r ∧ H' = [] ∧ nx' = 0)) : VFun E f xs r := VCalls.enter ho hf hb hok (by simpa using hn) h
/-- the end of a function that makes a slice -/
def DoneV (P : Program) (rs : List ResultVar) (e : TypeId) (cs : List FV) (n : Nat) (z : Bool) (x : AExit) (L : Frame) (H : Heap) (_ : Nat) : Prop :=
  match x with
  | .exit _ => False
  | .normal => ∃ b, vresults P rs L H = some (.vec b n 0 n) ∧ hget H b = some (.vec e cs n z)
  | .ret => ∃ b, vresults P rs L H = some (.vec b n 0 n) ∧ hget H b = some (.vec e cs n z)
theorem DoneV.ret {P : Program} {rs : List ResultVar} {e : TypeId} {cs cs' : List FV} {n n' : Nat} {z : Bool} {b : Nat} (h : vresults P rs L H = some (.vec b n' 0 n')) (hb : hget H b = some (.vec e cs' n' z)) (hn : n' = n) (hcs : cs' = cs) : DoneV P rs e cs n z .ret L H nx := by
  subst hn; subst hcs; exact ⟨b, h, hb⟩
theorem VFunV.enter {f : FuncId} {fn : Func} {c : Code} {xs cs : List FV} {e : TypeId} {n : Nat} {z : Bool} (ho : E.O f = none) (hf : E.P.funcs[f]? = some fn) (hb : fn.body = some c) (hok : fnOk E.G fn c = true) (hn : xs.length ≤ fn.ntmps)
    (h : VWp E 0 c (argFrame 0 (xs.map .p)) [] 0 (DoneV E.P fn.results.toList e cs n z)) : VFunV E f xs e cs n z := by
  intro m F σ as h1 h2
  refine ACalls.enter ho hf hb hok (by rw [← h2.length]; simpa using hn) ((h ⟨m, F, σ, [], 0⟩ rfl m F σ _ h1 ?_ (Step.refl _ _ _ _ _)).mono ?_)
  · intro i v hi
    obtain ⟨_, h3⟩ := argFrame_get _ 0 i v hi
    obtain ⟨u, h4, h5⟩ := h2.get h3
    have := tget_tmpsOf as 0 .leaf i
    simp only [Nat.sub_zero] at h4
    have hlt : i < as.length := by
      rcases Nat.lt_or_ge i as.length with h | h
      · exact h
      · rw [List.getElem?_eq_none h] at h4; cases h4
    rw [this, if_pos ⟨Nat.zero_le _, by omega⟩, Nat.sub_zero, List.getD_eq_getElem?_getD, h4]
    exact h5
  · rintro x s ⟨L', H', nx', F', σ', q, c1, c2, c3⟩
    have key : (∃ b, vresults E.P fn.results.toList L' H' = some (.vec b n 0 n) ∧ hget H' b = some (.vec e cs n z)) → ∃ v, resultsOf E.P fn s = some v ∧ ∃ r H' nx' F' σ', (r = .vec 0 n 0 n ∧ H' = [(0, .vec e cs n z)] ∧ nx' = 1) ∧ Ctx E.Γ s.m F' σ' H' nx' ∧ RP s.m F' (htag H') σ' nx' r v ∧ Step m F σ [] 0 s.m F' σ' H' nx' := by
      rintro ⟨b, hr, hb⟩
      obtain ⟨v, h3, h4⟩ := vresults_rel c1 c2 hr
      obtain ⟨_, hrb⟩ := c1.hp b _ hb
      have hone : ∀ b' x, hget [(0, HB.vec e cs n z)] b' = some x → b' = 0 ∧ x = .vec e cs n z := fun b' x hx => by
        rw [hget_cons] at hx
        split at hx
        · rename_i e'; cases hx; exact ⟨e'.symm, rfl⟩
        · cases hx
      refine ⟨v, h3, _, _, _, F', fun _ => σ' b, ⟨rfl, rfl, rfl⟩, ⟨c1.fr, fun b' x hx => ?_, fun b1 b2 x1 x2 c hx1 hx2 _ _ => ?_, c1.gl⟩, ?_, ⟨c3.size, c3.keep, c3.fmono, c3.fback, fun c hc ho => ?_, Nat.zero_le _, fun b hb => absurd hb (Nat.not_lt_zero _), c3.low⟩⟩
      · obtain ⟨rfl, rfl⟩ := hone b' x hx
        exact ⟨by omega, hrb⟩
      · rw [(hone b1 x1 hx1).1, (hone b2 x2 hx2).1]
      · cases h4 with
        | vec hb' hc h =>
          refine .vec (by omega) hc fun k hk => ?_
          have hk' : htag [(0, HB.vec e cs n z)] 0 = some (.vec n) := rfl
          rw [hk'] at hk
          cases hk
          exact ⟨Nat.le_refl _, fun _ => (h n (by simp [htag, hb, HB.tag])).2 rfl⟩
      · obtain ⟨b', x, hx, hc'⟩ := ho
        exact c3.oback c hc ⟨b, _, hb, hc'⟩
    cases x with
    | exit i => exact q.elim
    | normal => exact key q
    | ret => exact key q

theorem FLes.toP : ∀ {l l' : List FV}, FLes l l' → PLes (l.map .p) (l'.map .p)
  | _, _, .refl _ => .refl _
  | _, _, .cons h t => .cons (.p h) (FLes.toP t)
theorem VFun.le {g : FuncId} {xs ys : List FV} {r : PV} (h : FLes xs ys) (hc : VFun E g ys r) : VFun E g xs r := fun m F σ as h1 h2 => hc m F σ as h1 (RPs.le (FLes.toP h) h2)

/-- append of one element -/
theorem VVal.append1 {α : Type} {_ : Enc α} {l : List α} {a : α} {s x : Operand} {sT xT e e2 : TypeId} {xd : TypeDesc} {i : TypeInfo} {b b2 n : Nat} {xs : List FV} {z z2 : Bool} (hs : vev E.Γ L s = some (.vec b n 0 n)) (hb : hget H b = some (.vec e (cells l) n z))
    (hx : vev E.Γ L x = some (.vec b2 1 0 1)) (hb2 : hget H b2 = some (.vec e2 xs 1 z2)) (hxs : xs = Enc.enc a) (hn : l.length = n) (hsT : E.P.underlying sT = some (.slice e)) (hxT : E.P.underlying xT = some xd) (hd : ∀ k, xd ≠ .int k) (hi : E.P.info? e = some i)
    (hsz : Enc.size α = i.size) (hzs : zeroSized i = true) (h0 : 0 < i.size) (hby : i.bytes < 1000000) (hlen : l.length < 1000000) (q : Q (.vec b (l.length + 1) 0 (l.length + 1)) (hput H b (.vec e (cells (l ++ [a])) (l.length + 1) z)) nx) :
    VVal E true ⟨dst, .call { callee := .builtin .append, args := #[s, x], argTypes := #[sT, xT] }, ty, pos, af, gd⟩ L H nx Q := by
  subst hn
  have hroom : (l.length + 1) * (i.bytes + 1) ≤ room := Nat.le_trans (Nat.mul_le_mul (by omega : l.length + 1 ≤ 1000000) (by omega : i.bytes + 1 ≤ 1000000)) (by decide)
  refine VVal.append (i := i) hs hb (SlC.all hx hb2 (by rw [hxs, Enc.len, ← hsz]; omega)) hsT hxT hd hi hzs (by omega) hroom (by rw [cells_length, hsz]) h0 ?_
  have : cells (l ++ [a]) = cells l ++ xs := by rw [cells_append, hxs]; simp [cells, encs]
  rw [← this]
  exact q

theorem VVal.not {t : TypeId} {x : Operand} {b : Bool} (hx : vev E.Γ L x = some (.p (.bool b))) (q : Q (.p (.bool (!b))) H nx) : VVal E w ⟨dst, .unOp .not t x, ty, pos, af, gd⟩ L H nx Q :=
  VVal.quiet q fun m F σ tt h1 h2 => by
    refine ⟨.bool (!b), fun _ => ?_, .p (.bool _)⟩
    have hb := vev_bool h1 h2 hx
    simp only [aval, aop, hb]
    cases b <;> rfl

/-- a condition that is a bool of its own -/
theorem VWp.condSeq_bool {bn : Nat} {c : Operand} {a b k : Code} {Q : AExit → Frame → Heap → Nat → Prop} (t : Bool) (hc : vev E.Γ L c = some (.p (.bool t))) (ht : t = true → VWp E bn (.seq a k) L H nx Q) (hf : t = false → VWp E bn (.seq b k) L H nx Q) :
    VWp E bn (.seq (.cond c a b) k) L H nx Q := VWp.condSeq t hc ht hf

theorem PV.int_eq {k : IntKind} {a b : Int} (h : a = b) : (PV.p (.int k a)) = .p (.int k b) := by rw [h]
theorem PV.bool_eq {a b : Bool} (h : a = b) : (PV.p (.bool a)) = .p (.bool b) := by rw [h]

end Go.Vm
