/-
  The abstract machine: a region that draws its order is sound; a whole function is sound. No condition. Nothing of one program stands here.
-/
import Derived.Test.YtmfnchgkffhpfaaDoorAm17
namespace Go.Am
variable {P : Program} {G : List Nat} {call : CallF} {ops : Array Oper} {S : Nat → St}

theorem draw_step {n : Nat} {ι ι0 : Inj} {a : Act} {w w0 : World} {listed : Array Bool} {jp jn j : Nat} (hc : CallSound P G call) (hcs : CallStep call) (ht : Trace P call ops S) (hdr : drawOk ops = true)
    (hops : ∀ (i : Nat) (o : Oper), ops[i]? = some o → operOk G n o = true) (hG : ∀ k, k ∈ G → k < (S 0).m.size) (hb0 : ∀ b ib, ι0 b = some ib → b < (S 0).m.size)
    (hd : DI P G n ops S ι0 w0 listed ι a w jp jn) (hr : j ∈ Region.ready .any ops listed) {K : Act → World → Prop} {Q : Exit → Act → World → Prop}
    (hK : ∀ ι' a' w' jp' jn', DI P G n ops S ι0 w0 (listed.setIfInBounds j true) ι' a' w' jp' jn' → K a' w') : wpOp P ops Q j K a w := by
  obtain ⟨hun, o, ho, hall⟩ := mem_ready.1 hr
  have hjlt : j < ops.size := (Array.getElem?_eq_some_iff.1 ho).1
  have hunl : listed.getD j false = false := by
    have hlt : j < listed.size := by rw [hd.lsz]; exact hjlt
    simp [hlt] at hun ⊢
    exact hun
  obtain ⟨hop, hdn⟩ := operOk_spec (hops j o ho)
  obtain ⟨hback, _⟩ := drawOk_spec hdr
  -- where j stands
  have place : touches ops j = true → jp ≤ j ∧ (isBar ops j = true → j = jn) ∧ (isBar ops j = false → j < jn) := fun htch => by
    have h1 : jp ≤ j := by
      rcases Nat.lt_or_ge j jp with h | h
      · have := hd.h4 j h htch
        rw [hunl] at this; cases this
      · exact h
    have h2 : j ≤ jn := by
      rcases hd.h3 with h | ⟨q1, q2⟩
      · omega
      · rcases Nat.lt_or_ge jn j with h | h
        · obtain ⟨_, t2⟩ := isBar_spec q1
          have hbit := (t2 j (by omega) htch).2 h
          have := closed_before hd.cl hback j o jn ho hall hbit
          rw [q2] at this; cases this
        · exact h
    refine ⟨h1, fun hb => ?_, fun hb => ?_⟩
    · rcases Nat.lt_or_ge j jn with h | h
      · have := hd.h2 j h1 h
        rw [hb] at this; cases this
      · omega
    · rcases Nat.lt_or_ge j jn with h | h
      · exact h
      · have : j = jn := by omega
        subst this
        rcases hd.h3 with h | ⟨q1, _⟩
        · omega
        · rw [hb] at q1; cases q1
  have barTouch : isBar ops j = true → touches ops j = true := fun h => (isBar_spec h).1
  unfold wpOp
  simp only [ho]
  rw [wanted_at ht hcs hdr hd ho hunl hall]
  rcases dstep_cases (ht.step j o ho) with ⟨hw, htt, x, hm, hx1, hx2⟩ | ⟨hw, v, m', hv, htt, hm, hor⟩
  · rw [hw]
    simp only [Bool.false_eq_true, if_false]
    have htv : ∀ d, o.dst = some d → tget (S (j + 1)).t d = undef := fun d hdd => by
      rw [htt, hdd]; simp only [tput]; rw [tget_tset, if_pos rfl]
    cases hb : isBar ops j with
    | true =>
      have hj := (place (barTouch hb)).2.1 hb
      subst hj
      have hs := (hd.sims j hd.h1 (Nat.le_refl _)).low (S j).m.size
      obtain ⟨ι', jp', jn', hd'⟩ := DI.bar (v := undef) (v' := undef) (m' := setLow (S j).m (S j).m.size) (y := x) ht hcs hdr hd ho hunl hall hdn hb0 hb (by rw [hm]; rfl) hx2 htv (Ext.refl _ _ _) hs VRel.undef
      exact hK _ _ _ _ _ hd'
    | false =>
      exact hK _ _ _ _ _ (DI.still ht hdr hd ho hunl hall hdn hb fun d hdd => by rw [htv d hdd]; exact VRel.undef)
  · rw [hw]
    simp only [if_true]
    refine .inl ?_
    have htv : ∀ d, o.dst = some d → tget (S (j + 1)).t d = v := fun d hdd => by
      rw [htt, hdd]; simp only [tput]; rw [tget_tset, if_pos rfl]
    have hρ := operands_rel ht hcs hdr hd hG ho hunl hall hop
    by_cases hq : quietKind o.op = true
    · -- it does not touch the memory
      have hv' : aop P (ev (S j).t) o (setLow (S j).m (S j).m.size) = some (v, m') := by
        unfold aval at hv
        split at hv
        · rename_i f args aT hopp
          rw [hopp] at hq
          simp [quietKind] at hq
        · exact hv
      obtain ⟨v', hrun, hvr⟩ := quiet_sound hq hρ hv'
      have hnt : touches ops j = false := by unfold touches; rw [ho]; simp [hq]
      have hnb : isBar ops j = false := by
        cases hb : isBar ops j with
        | false => rfl
        | true => have := barTouch hb; rw [hnt] at this; cases this
      unfold Oper.wp
      rw [hrun w]
      refine hK _ _ _ _ _ (DI.still ht hdr hd ho hunl hall hdn hnb fun d hdd => ?_)
      rw [htv d hdd, ht.still hjlt hnt]
      exact hvr
    · have htch : touches ops j = true := by unfold touches; rw [ho]; simp [hq]
      obtain ⟨hjp, hbarj, hnbj⟩ := place htch
      have hjn : j ≤ jn := by
        cases hb : isBar ops j with
        | true => have := hbarj hb; omega
        | false => have := hnbj hb; omega
      have hs := (hd.sims j hjp hjn).low (S j).m.size
      have hρ' : ∀ x ∈ o.op.operands, VRel (cut ι (S j).m.size) (setLow (S j).m (S j).m.size).gen (ev (S j).t x) (a.eval x) := fun x hx => (hρ x hx).mono fun b ib hb => by
        have hbl := (cut_some hb).1
        have := ht.quietTo hcs j jn hjn hd.h1' (fun k h1 h2 => hd.h2 k (by omega) h2) b hbl
        refine ⟨?_, ib, hb, fun _ => rfl⟩
        show (S jn).m.gen b ≤ (S j).m.gen b
        rw [gen_of_get this]; exact Nat.le_refl _
      refine aval_sound hc hs hρ' hv fun v' w' hp => ?_
      obtain ⟨ι1, hext, hsim, hvr⟩ := hp
      cases hb : isBar ops j with
      | true =>
        have hj := hbarj hb
        subst hj
        obtain ⟨ι', jp', jn', hd'⟩ := DI.bar (v := v) (v' := v') (m' := m') ht hcs hdr hd ho hunl hall hdn hb0 hb hm (Nat.min_le_right _ _) htv hext hsim hvr
        exact hK _ _ _ _ _ hd'
      | false =>
        have hlow : (S j).m.size ≤ m'.low := by
          rcases hor with h | h
          · exfalso
            unfold isBar at hb
            rw [ho] at hb
            simp [hq, h] at hb
          · exact h
        obtain ⟨ι', hd'⟩ := DI.quiet (v := v) (v' := v') ht hcs hdr hd ho hunl hall hdn hjp (hnbj hb) hm hlow (aval_step hcs hv) htv hext hsim hvr
        exact hK _ _ _ _ _ hd'

/-! ## All orders -/
def unl (ops : Array Oper) (listed : Array Bool) : Nat := ((List.range ops.size).filter fun i => listed.getD i false == false).length

theorem unl_set {listed : Array Bool} {j : Nat} (hsz : listed.size = ops.size) (hj : j < ops.size) (hu : listed.getD j false = false) : unl ops (listed.setIfInBounds j true) + 1 = unl ops listed := by
  have hj' : j < listed.size := by omega
  have key : ∀ (l : List Nat), l.Nodup → j ∈ l → (l.filter fun i => (listed.setIfInBounds j true).getD i false == false).length + 1 = (l.filter fun i => listed.getD i false == false).length := by
    intro l
    induction l with
    | nil => intro _ h; cases h
    | cons x l ih =>
      intro hn hm
      rw [List.nodup_cons] at hn
      by_cases e : x = j
      · subst e
        have e1 : l.filter (fun i => (listed.setIfInBounds x true).getD i false == false) = l.filter (fun i => listed.getD i false == false) := by
          apply List.filter_congr
          intro i hi
          rw [listed_set hj', if_neg (fun e => by subst e; exact hn.1 hi)]
        rw [List.filter_cons, List.filter_cons, listed_set hj', if_pos rfl, hu, e1]
        simp
      · have hm' : j ∈ l := by
          rcases List.mem_cons.1 hm with h | h
          · exact absurd h.symm e
          · exact h
        have := ih hn.2 hm'
        rw [List.filter_cons, List.filter_cons, listed_set hj', if_neg e]
        split
        · simp only [List.length_cons]; omega
        · omega
  exact key _ List.nodup_range (List.mem_range.2 hj)

theorem all_listed_of_ready {listed : Array Bool} (hsz : listed.size = ops.size) (hback : ∀ (i : Nat) (o : Oper), ops[i]? = some o → ∀ e ∈ o.after, Region.binds .any e = true → e.on < i) (h : Region.ready .any ops listed = []) :
    ∀ i, i < ops.size → listed.getD i false = true := by
  intro i
  induction i using Nat.strongRecOn with
  | _ i ih =>
    intro hi
    cases hl : listed.getD i false with
    | true => rfl
    | false =>
      exfalso
      obtain ⟨o, ho⟩ := getOp hi
      have hil : i < listed.size := by omega
      have : i ∈ Region.ready .any ops listed := mem_ready.2 ⟨by simp [hil] at hl ⊢; exact hl, o, ho, fun e he hb => by
        have hlt := hback i o ho e he hb
        exact ih e.on hlt (by omega)⟩
      rw [h] at this
      cases this

theorem unl_zero {listed : Array Bool} (h : unl ops listed = 0) : ∀ i, i < ops.size → listed.getD i false = true := by
  intro i hi
  unfold unl at h
  have h0 := List.length_eq_zero_iff.1 h
  cases hl : listed.getD i false with
  | true => rfl
  | false =>
    have : i ∈ (List.range ops.size).filter fun i => listed.getD i false == false := List.mem_filter.2 ⟨List.mem_range.2 hi, by rw [hl]; rfl⟩
    rw [h0] at this
    cases this

theorem DI.done {n : Nat} {ι ι0 : Inj} {a : Act} {w w0 : World} {listed : Array Bool} {jp jn : Nat} (hcs : CallStep call) (ht : Trace P call ops S) (hd : DI P G n ops S ι0 w0 listed ι a w jp jn)
    (hall : ∀ i, i < ops.size → listed.getD i false = true) : Reach P G n ι0 (S 0) w0 (S ops.size) a w := by
  have hjn : jn = ops.size := by
    rcases hd.h3 with h | ⟨h1, h2⟩
    · exact h
    · rcases Nat.lt_or_ge jn ops.size with h | h
      · rw [hall jn h] at h2; cases h2
      · have := hd.h1'; omega
  subst hjn
  have hm := ht.memTo hcs 0 ops.size (Nat.zero_le _) (Nat.le_refl _)
  refine ⟨ι, ⟨hm.size, hm.low, hm.keep, hm.ro, hm.ro', hd.le, hd.back, hd.dom0, hd.heap, hd.frame, hd.tape, hd.os, hd.output⟩, ?_, hd.tsz, hd.tdef, fun t => ?_⟩
  · refine (hd.sims ops.size hd.h1 (Nat.le_refl _)).congr fun b => ?_
    cases hib : ι b with
    | none =>
      unfold cut; split
      · exact hib.symm
      · rfl
    | some ib => rw [cut_lt (hd.dom_lt ht hcs hib)]; exact hib.symm
  · by_cases hw : ∃ (i : Nat) (oi : Oper), ops[i]? = some oi ∧ oi.dst = some t
    · obtain ⟨i, oi, hi, hdi⟩ := hw
      exact (hd.v1 i oi t hi hdi (hall i (Array.getElem?_eq_some_iff.1 hi).1)).mono Le.uncut
    · have h0 := hd.v0 t fun i oi hi hdi => absurd ⟨i, oi, hi, hdi⟩ hw
      have e1 : tget (S ops.size).t t = tget (S 0).t t := ht.tmps t 0 ops.size (Nat.zero_le _) (Nat.le_refl _) fun k ok _ _ hok hdk => hw ⟨k, ok, hok, hdk⟩
      rw [e1]
      exact h0.mono Le.uncut

theorem draw_any {n : Nat} {ι0 : Inj} {w0 : World} (hc : CallSound P G call) (hcs : CallStep call) (ht : Trace P call ops S) (hdr : drawOk ops = true)
    (hops : ∀ (i : Nat) (o : Oper), ops[i]? = some o → operOk G n o = true) (hG : ∀ k, k ∈ G → k < (S 0).m.size) (hb0 : ∀ b ib, ι0 b = some ib → b < (S 0).m.size) {Q : Exit → Act → World → Prop}
    (hQ : ∀ a' w', Reach P G n ι0 (S 0) w0 (S ops.size) a' w' → Q .normal a' w') : ∀ (fuel : Nat) (listed : Array Bool) (ι : Inj) (a : Act) (w : World) (jp jn : Nat),
    DI P G n ops S ι0 w0 listed ι a w jp jn → unl ops listed = fuel → wpAny P .any ops Q fuel listed a w := by
  obtain ⟨hback, _⟩ := drawOk_spec hdr
  intro fuel
  induction fuel with
  | zero =>
    intro listed ι a w jp jn hd hu
    have hall := unl_zero hu
    refine ⟨?_, hQ a w (hd.done hcs ht hall)⟩
    rw [List.eq_nil_iff_forall_not_mem]
    intro j hj
    obtain ⟨h1, o, ho, _⟩ := mem_ready.1 hj
    have hjlt := (Array.getElem?_eq_some_iff.1 ho).1
    have h2 := hall j hjlt
    have hjl : j < listed.size := by rw [hd.lsz]; exact hjlt
    simp [hjl] at h1 h2
    rw [h1] at h2; cases h2
  | succ fuel ih =>
    intro listed ι a w jp jn hd hu
    refine ⟨fun hr => hQ a w (hd.done hcs ht (all_listed_of_ready hd.lsz hback hr)), fun j hj => ?_⟩
    refine draw_step hc hcs ht hdr hops hG hb0 hd hj fun ι' a' w' jp' jn' hd' => ih _ ι' a' w' jp' jn' hd' ?_
    obtain ⟨h1, o, ho, _⟩ := mem_ready.1 hj
    have hjlt := (Array.getElem?_eq_some_iff.1 ho).1
    have hjl : j < listed.size := by rw [hd.lsz]; exact hjlt
    have hunl : listed.getD j false = false := by simp [hjl] at h1 ⊢; exact h1
    have := unl_set (ops := ops) hd.lsz hjlt hunl
    omega

theorem draw_sound (hc : CallSound P G call) (hcs : CallStep call) (hmix : P.follows .mixedOrders = true) : DrawSound P G call := by
  intro n id ops s s' ι a w Q hok hdr h hst hq
  obtain ⟨S, e0, eN, htr⟩ := dsteps_trace ops.toList 0 s s' h
  simp only [Nat.zero_add] at eN htr
  have hlen : ops.toList.length = ops.size := by simp
  rw [hlen] at eN
  subst e0; subst eN
  have ht : Trace P call ops S := ⟨fun i o ho => htr i o (by simpa using ho)⟩
  have hops : ∀ (i : Nat) (o : Oper), ops[i]? = some o → operOk G n o = true := fun i o ho => hok o (by
    have := Array.mem_of_getElem? ho
    simpa using this)
  have hG : ∀ k, k ∈ G → k < (S 0).m.size := fun k hk => by
    obtain ⟨ib, h1, _⟩ := hst.1.glob k hk
    exact (hst.1.dom k ib h1).1
  have hb0 : ∀ b ib, ι b = some ib → b < (S 0).m.size := fun b ib hb => (hst.1.dom b ib hb).1
  refine wp_region_any hmix ?_
  have hnone : ∀ i, (Array.replicate ops.size false).getD i false = false := fun i => by
    by_cases hi : i < ops.size <;> simp [hi]
  obtain ⟨jn, n1, n2, n3, n4⟩ := nextBar ops 0 (Nat.zero_le _)
  have hq0 : ∀ i', i' ≤ jn → ∀ b, b < (S 0).m.size → (S i').m.get b = (S 0).m.get b := fun i' h1 => ht.quietTo hcs 0 i' (Nat.zero_le _) (by omega) (fun k _ h2 => n3 k (Nat.zero_le _) (by omega))
  have hle : ∀ x, Le (cut ι x) (S 0).m.gen (cut ι x) (S jn).m.gen := fun x b ib hb => by
    have := hq0 jn (Nat.le_refl _) b (hb0 b ib (cut_some hb).2)
    exact ⟨by rw [gen_of_get this]; exact Nat.le_refl _, ib, hb, fun _ => rfl⟩
  refine draw_any (S := S) (ι0 := ι) (w0 := { w with drawn := w.drawn + 1 }) hc hcs ht hdr hops hG hb0 (fun a' w' hr => hq a' w' ?_) ops.size _ ι a { w with drawn := w.drawn + 1 } 0 jn ?_ ?_
  · obtain ⟨ι', h1, h2⟩ := hr
    exact ⟨ι', ⟨h1.size, h1.low, h1.keep, h1.ro, h1.ro', h1.le, h1.back, h1.dom, h1.heap, h1.frame, h1.tape, h1.os, h1.output⟩, h2⟩
  · refine ⟨by simp, (fun i o _ hl => by rw [hnone] at hl; cases hl), Nat.zero_le _, n2, fun k _ h2 => n3 k (Nat.zero_le _) h2, ?_, fun k hk => by omega, fun i' _ h2 => ?_, fun b ib hb => .inl (hb0 b ib hb), hst.2.size, hst.2.defers,
      (fun i o t _ _ hl => by rw [hnone] at hl; cases hl), fun t _ => ?_, fun b ib hb => ?_, fun b ib hb => .inl ⟨ib, hb, rfl⟩, fun b ib hb => .inl ⟨ib, hb⟩, Nat.le_refl _, fun _ _ _ => rfl, rfl, rfl, rfl⟩
    · rcases n4 with h | h
      · exact .inl h
      · exact .inr ⟨h, hnone jn⟩
    · have hsz := (ht.memTo hcs 0 i' (Nat.zero_le _) (by omega)).size
      refine ((hst.1.drawn (w.drawn + 1)).extend hsz (hq0 i' h2)).congr fun b => ?_
      cases hib : ι b with
      | none =>
        unfold cut; split
        · exact hib
        · rfl
      | some ib => rw [cut_lt (Nat.lt_of_lt_of_le (hb0 b ib hib) hsz)]; exact hib
    · refine (hst.2.val t).mono fun b ib hb => ?_
      have hbl := hb0 b ib hb
      have hc : cut ι (S 0).m.size b = some ib := by rw [cut_lt hbl]; exact hb
      obtain ⟨q1, ib', q2, q3⟩ := hle (S 0).m.size b ib hc
      exact ⟨q1, ib', q2, q3⟩
    · have := hq0 jn (Nat.le_refl _) b (hb0 b ib hb)
      exact ⟨by rw [gen_of_get this]; exact Nat.le_refl _, ib, hb, fun _ => rfl⟩
  · unfold unl
    rw [List.filter_eq_self.2 (fun i _ => by rw [hnone]; rfl)]
    simp

end Go.Am
