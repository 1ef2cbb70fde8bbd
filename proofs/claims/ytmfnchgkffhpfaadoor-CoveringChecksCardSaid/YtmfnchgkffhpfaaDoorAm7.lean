/-
  The abstract machine: copy, len, make, maps, slicing: sound as operations. No condition. Nothing of one program stands here.
-/
import Derived.Test.YtmfnchgkffhpfaaDoorAm6
namespace Go.Am
variable {P : Program} {G : List Nat}

theorem len_sound {ι : Inj} {m : Mem} {w : World} {aT : Array TypeId} {as as' : Array Value} {v : Value} (ty : TypeId) (hs : Sim P G ι m w) (ha : ARels ι m.gen as as')
    (h : alen P aT as m = some v) : (Builtin.len_ aT ty as').run P w = .ok v w ∧ VRel ι m.gen v v := by
  unfold alen at h
  split at h
  · rename_i t x q0 q1
    obtain ⟨x', h1, h2⟩ := ha 0 x q1
    split at h
    · rename_i s hu
      cases h; cases h2
      exact ⟨by simp [Builtin.len_, q0, h1, run_underlying hu, goInt], .int _ _⟩
    · rename_i n e x0 hu
      cases h
      exact ⟨by simp [Builtin.len_, q0, h1, run_underlying hu, goInt], .int _ _⟩
    · rename_i e b n g hu
      cases h
      cases h2 <;> exact ⟨by simp [Builtin.len_, q0, h1, run_underlying hu, goInt], .int _ _⟩
    · rename_i k e hu
      cases h; cases h2
      exact ⟨by simp [Builtin.len_, q0, h1, run_underlying hu, goInt], .int _ _⟩
    · rename_i k e r hu
      split at h
      · rename_i es c hg
        cases h
        cases h2 with
        | map _ c' ib hb hc =>
          obtain ⟨es', h3, h4⟩ := map_of hs hb hg
          have hlen : ∀ {es es' : List MapEntry}, EsRel ι m.gen es es' → es.length = es'.length := fun {es es'} => by
            induction es generalizing es' with
            | nil => intro h; cases es' <;> first | rfl | exact h.elim
            | cons e es ih => intro h; cases es' with
                              | nil => exact h.elim
                              | cons e' es' => simp [ih h.2]
          have hl := hlen h4
          have hgen : m.gen r = 0 := by unfold Mem.gen; rw [hg]; rfl
          have := hc hgen
          subst this
          refine ⟨?_, .int _ _⟩
          simp only [Builtin.len_, q0, h1, Sem.run_bind, run_underlying hu, Result.andThen_ok, getObj, Sem.run, h3, goInt]
          rw [hl]; rfl
      · cases h
    · cases h
  · cases h

theorem cap_sound {ι : Inj} {m : Mem} {w : World} {aT : Array TypeId} {as as' : Array Value} {v : Value} (ty : TypeId) (ha : ARels ι m.gen as as')
    (h : acap P aT as = some v) : (Builtin.cap_ aT ty as').run P w = .ok v w ∧ VRel ι m.gen v v := by
  unfold acap at h
  split at h
  · rename_i t q0
    split at h
    · rename_i e hu
      split at h
      · rename_i q
        obtain ⟨x', h1, h2⟩ := ha 0 _ q
        cases h; cases h2
        exact ⟨by simp [Builtin.cap_, q0, h1, run_underlying hu, goInt], .int _ _⟩
      · rename_i b o s q
        obtain ⟨x', h1, h2⟩ := ha 0 _ q
        cases h; cases h2
        exact ⟨by simp [Builtin.cap_, q0, h1, run_underlying hu, goInt], .int _ _⟩
      · cases h
    · cases h
  · cases h

theorem firstCells_zero {ι : Inj} {g : Nat → Nat} {s s' : Value} {sLen : Nat} (hv : VRel ι g s s') (h : lenOf s = some sLen) (size : Nat) (w : World) :
    (Builtin.firstCells size 0 s').run P w = .ok #[] w := by
  cases hv <;> simp only [lenOf, reduceCtorEq] at h
  · simp only [Builtin.firstCells, Sem.run_pure]
    congr 1
    apply Array.ext'
    rw [Array.toList_map, Lib.extract_data]
    simp
  · rfl
  · simp only [Builtin.firstCells, Nat.zero_mul, loadCells, loadCellsFrom]; rfl
  · simp only [Builtin.firstCells, Nat.zero_mul, loadCells, loadCellsFrom]; rfl

/-- a slice that holds something leads where it says -/
theorem slice_addr {ι : Inj} {g : Nat → Nat} {b off len gen : Nat} {a' : Addr} {cap : Nat} (h : SRel ι g b off len gen a' cap) (hlen : gen = g b → 0 < len) (n : Nat) :
    ARel ι g ⟨b, off + n, some gen⟩ (a'.add n) := by
  obtain ⟨ib, hb, hle, h3, hcur⟩ := h
  refine ⟨ib, hb, by simpa [agen] using hle, fun e => ?_⟩
  have e' : gen = g b := by simpa [agen] using e
  obtain ⟨h1, h2, h4⟩ := hcur e'
  have h5 : a'.off = off + ib.sh := by
    rcases h4 with h | h
    · have := hlen e'; omega
    · exact h.1
  have ha' : a' = ⟨ib.blk, off + ib.sh, none⟩ := by
    obtain ⟨x, y, z⟩ := a'
    simp at h1 h2 h5
    simp [h1, h2, h5]
  rw [ha', addr_add]
  simp only [Addr.mk.injEq, true_and, and_true]
  omega

theorem copy_sound {ι : Inj} {m m' : Mem} {w : World} {aT : Array TypeId} {as as' : Array Value} {v : Value} (ty : TypeId) (hs : Sim P G ι m w) (ha : ARels ι m.gen as as')
    (h : acopy P aT as m = some (v, m')) : ∃ v' w', (Builtin.copy_ aT ty as').run P w = .ok v' w' ∧ Post P G ι m w v m' v' w' := by
  unfold acopy at h
  split at h
  · rename_i dT base dLen g src q0 q1 q2
    obtain ⟨d', h1, h2⟩ := ha 0 _ q1
    obtain ⟨s', h3, h4⟩ := ha 1 _ q2
    split at h
    · rename_i e sLen hu hsl
      split at h
      · rename_i i hi
        have hd : ∃ base' cap', d' = .slice base' dLen cap' := by cases h2 <;> exact ⟨_, _, rfl⟩
        obtain ⟨base', cap', rfl⟩ := hd
        simp only at h
        split at h
        · rename_i hn
          cases h
          refine ⟨.int .i64 0, w, ?_, Post.same hs (.int _ _)⟩
          simp only [Builtin.copy_, q0, h1, h3, Sem.run_bind, run_underlying hu, Result.andThen_ok, lenOf_sound h4 hsl w, run_sizeOf' hi, hn, firstCells_zero h4 hsl]
          cases base' <;> rfl
        · rename_i hn
          split at h
          · rename_i b off l hl
            rw [Option.map_eq_some_iff] at h
            obtain ⟨m1, hm1, he⟩ := h
            cases he
            cases h2 with
            | sl _ _ _ _ a' _ hsr =>
              obtain ⟨l', hr, hrel⟩ := sliceCells_sound hs h4 hl
              have hpos : 0 < dLen := by
                rcases Nat.eq_zero_or_pos dLen with h | h
                · subst h; exact absurd (Nat.min_zero sLen) hn
                · exact h
              have har := slice_addr hsr (fun _ => hpos) 0
              rw [Addr.add_zero'] at har
              obtain ⟨w', ι', hrun, hext, hsim⟩ := storeRow_sound hs har hrel hm1
              refine ⟨_, w', ?_, ι', hext, hsim, .int _ _⟩
              simp only [Builtin.copy_, q0, h1, h3, Sem.run_bind, run_underlying hu, Result.andThen_ok, lenOf_sound h4 hsl w, run_sizeOf' hi, hr, hrun, Sem.run_pure, goInt]
          · cases h
      · cases h
    · cases h
  · cases h

def ORel (ι : Inj) (g : Nat → Nat) (o o' : Option Value) : Prop := (o = none ∧ o' = none) ∨ ∃ v v', o = some v ∧ o' = some v' ∧ VRel ι g v v'

theorem bnd_same {ι : Inj} {g : Nat → Nat} {d n : Nat} {o o' : Option Value} (ho : ORel ι g o o') (h : bnd d o = some n) : o' = o := by
  rcases ho with ⟨rfl, rfl⟩ | ⟨v, v', rfl, rfl, hv⟩
  · rfl
  · unfold bnd at h
    split at h
    · rename_i e; cases e
    · rename_i e; cases e; cases hv; rfl
    · cases h

theorem bound_run {d n y : Nat} {v : Value} {c : BoundsCode} {w : World} (h : bnd d (some v) = some n) (hy : n ≤ y) : (Instr.sliceBound v y c).run P w = .ok n w := by
  unfold bnd at h
  split at h
  · rename_i e; cases e
  · rename_i k i e
    cases e
    split at h
    · rename_i hi
      cases h
      have h2 : i ≤ (y : Int) := by omega
      simp [Instr.sliceBound, asIntOf, hi, h2]
    · cases h
  · cases h

theorem bounds_two {lo hi : Option Value} {len cap l h : Nat} {w : World} (hl : bnd 0 lo = some l) (hh : bnd len hi = some h) (h1 : l ≤ h) (h2 : h ≤ cap) :
    (Instr.sliceBounds true len cap lo hi none).run P w = .ok (l, h, cap) w := by
  unfold Instr.sliceBounds
  cases hi with
  | none =>
    cases hh
    cases lo with
    | none => cases hl; simp
    | some v => simp [bound_run hl h1]
  | some u =>
    cases lo with
    | none => cases hl; simp [bound_run hh h2]
    | some v => simp [bound_run hh h2, bound_run hl h1]

theorem bounds_three {lo : Option Value} {u x : Value} {len cap l h k d d' : Nat} {w : World} (hl : bnd 0 lo = some l) (hh : bnd d (some u) = some h) (hk : bnd d' (some x) = some k) (h1 : l ≤ h) (h2 : h ≤ k) (h3 : k ≤ cap) :
    (Instr.sliceBounds true len cap lo (some u) (some x)).run P w = .ok (l, h, k) w := by
  unfold Instr.sliceBounds
  cases lo with
  | none => cases hl; simp [bound_run hh h2, bound_run hk h3]
  | some v => simp [bound_run hh h2, bound_run hk h3, bound_run hl h1]

theorem sliceAt_slice {t e : TypeId} {x : Value} {lo hi mx : Option Value} {w : World} (hu : P.underlying t = some (.slice e)) :
    (Instr.sliceAt t x lo hi mx).run P w = (Instr.slice t x lo hi mx).run P w := by
  simp [Instr.sliceAt, run_underlying hu]

theorem dryV_some {s : Sem Value} {v : Value} (h : dryV P s = some v) : dry P s = some v ∧ plain v = true := by
  unfold dryV at h
  split at h
  · split at h
    · cases h; exact ⟨by assumption, by assumption⟩
    · cases h
  · cases h

theorem slice_sound {ι : Inj} {m : Mem} {w : World} {t : TypeId} {x x' : Value} {lo lo' hi hi' mx mx' : Option Value} {v : Value} (hs : Sim P G ι m w) (hx : VRel ι m.gen x x')
    (hlo : ORel ι m.gen lo lo') (hhi : ORel ι m.gen hi hi') (hmx : ORel ι m.gen mx mx') (h : aslice P t x lo hi mx m = some v) :
    ∃ v', (Instr.sliceAt t x' lo' hi' mx').run P w = .ok v' w ∧ VRel ι m.gen v v' := by
  unfold aslice at h
  split at h
  · cases h
  rename_i hform
  split at h
  · -- strings
    rename_i s hu
    split at h
    · rename_i hp
      simp only [Bool.and_eq_true] at hp
      obtain ⟨⟨p1, p2⟩, p3⟩ := hp
      have eq : ∀ {o o' : Option Value}, ORel ι m.gen o o' → (Option.all plain o = true) → o' = o := fun {o o'} ho hp => by
        rcases ho with ⟨rfl, rfl⟩ | ⟨v, v', rfl, rfl, hv⟩
        · rfl
        · rw [hv.eq_of_plain (by simpa using hp)]
      have e3 : mx' = mx := by
        rcases hmx with ⟨rfl, rfl⟩ | ⟨v, v', rfl, rfl, hv⟩
        · rfl
        · simp at p3
      rw [eq hlo p1, eq hhi p2, e3]
      cases hx
      obtain ⟨h1, h2⟩ := dryV_some h
      exact ⟨v, dry_run h1 w, VRel.plain h2⟩
    · cases h
  · -- nil
    rename_i e hu
    split at h
    · rename_i i hi0 b1 b2 b3
      cases h
      cases hx
      rw [bnd_same hlo b1, bnd_same hhi b2, bnd_same hmx b3, sliceAt_slice hu]
      refine ⟨.slice none 0 0, ?_, .slN⟩
      cases mx with
      | none =>
        simp only [Instr.slice, Sem.run_bind, run_underlying hu, Result.andThen_ok, bounds_two b1 b2 (Nat.le_refl _) (Nat.le_refl _), run_sizeOf' hi0]
        rfl
      | some k => cases hi with
        | none => simp at hform
        | some u =>
          simp only [Instr.slice, Sem.run_bind, run_underlying hu, Result.andThen_ok, bounds_three (cap := 0) (len := 0) b1 b2 b3 (Nat.le_refl _) (Nat.le_refl _) (Nat.le_refl _), run_sizeOf' hi0]
          rfl
    · cases h
  · -- the slice without room
    rename_i e b off g' hu
    split at h
    · rename_i i hi0 b1 b2 b3
      cases h
      cases hx with
      | slE _ _ _ a' =>
        rw [bnd_same hlo b1, bnd_same hhi b2, bnd_same hmx b3, sliceAt_slice hu]
        refine ⟨.slice (some a') 0 0, ?_, .slE _ _ _ _⟩
        cases mx with
        | none =>
          simp only [Instr.slice, Sem.run_bind, run_underlying hu, Result.andThen_ok, bounds_two b1 b2 (Nat.le_refl _) (Nat.le_refl _), run_sizeOf' hi0]
          rfl
        | some k => cases hi with
          | none => simp at hform
          | some u =>
            simp only [Instr.slice, Sem.run_bind, run_underlying hu, Result.andThen_ok, bounds_three (cap := 0) (len := 0) b1 b2 b3 (Nat.le_refl _) (Nat.le_refl _) (Nat.le_refl _), run_sizeOf' hi0]
            rfl
    · cases h
  · -- a slice
    rename_i e b off len g hu
    cases hx with
    | sl _ _ _ _ a' cap hsr =>
      split at h
      · -- two bounds
        rename_i i l hh hi0 b1 b2
        have b3 : mx' = none := by
          rcases hmx with ⟨_, rfl⟩ | ⟨v, v', h, _, _⟩
          · rfl
          · cases h
        split at h
        · rename_i vs e' g2 ro hg
          split at h
          · rename_i hc
            obtain ⟨c1, c2, rfl⟩ := hc
            cases h
            obtain ⟨ib, hb, hle, q3, hcur⟩ := hsr
            rw [bnd_same hlo b1, bnd_same hhi b2, b3, sliceAt_slice hu]
            refine ⟨.slice (some (if cap = l then a' else a'.add (l * i.size))) (hh - l) (cap - l), ?_, .sl _ _ _ _ _ _ ⟨ib, hb, hle, by omega, fun hcg => ?_⟩⟩
            · simp only [Instr.slice, Sem.run_bind, run_underlying hu, Result.andThen_ok, bounds_two b1 b2 c1 (by omega : hh ≤ cap), run_sizeOf' hi0, Sem.run_pure]
              congr 2
              split <;> rfl
            · obtain ⟨q1, q2, q4⟩ := hcur hcg
              obtain ⟨cs, fr, e0, hrow, hlim, hesz, _, _⟩ := cells_of hs hb hg
              have hesz' : ib.esz = i.size := by rw [hesz, cellsOf_info hi0]
              by_cases hcl : cap = l
              · rw [if_pos hcl]
                exact ⟨q1, q2, .inl (by omega)⟩
              · rw [if_neg hcl]
                have hcap : cap ≠ 0 := by omega
                obtain ⟨q5, q6⟩ : a'.off = off + ib.sh ∧ a'.off + cap * ib.esz ≤ ib.lim := by
                  rcases q4 with h | h
                  · exact absurd h hcap
                  · exact h
                have ha' : a' = ⟨ib.blk, off + ib.sh, none⟩ := by
                  obtain ⟨x, y, z⟩ := a'
                  simp at q1 q2 q5
                  simp [q1, q2, q5]
                have hmul : l * ib.esz + (cap - l) * ib.esz = cap * ib.esz := by rw [← Nat.add_mul]; congr 1; omega
                rw [ha', addr_add]
                rw [q5] at q6
                refine ⟨rfl, rfl, .inr ⟨by simp only; omega, ?_⟩⟩
                simp only
                rw [← hesz']
                omega
          · cases h
        · cases h
      · -- three bounds: nothing is left
        rename_i i l hh k0 hi0 b1 b2
        split at h
        · rename_i k b3
          split at h
          · rename_i hc
            obtain ⟨rfl, rfl, c3⟩ := hc
            cases h
            obtain ⟨ib, hb, hle, q3, hcur⟩ := hsr
            cases hi with
            | none => simp at hform
            | some u =>
              rw [bnd_same hlo b1, bnd_same hhi b2, bnd_same hmx b3, sliceAt_slice hu]
              refine ⟨.slice (some a') 0 0, ?_, .slE _ _ _ _⟩
              simp only [Instr.slice, Sem.run_bind, run_underlying hu, Result.andThen_ok, bounds_three (len := len) b1 b2 b3 (Nat.le_refl _) (Nat.le_refl _) (by omega : l ≤ cap), run_sizeOf' hi0, Sem.run_pure, if_true, Nat.sub_self]
          · cases h
        · cases h
      · cases h
  · cases h

end Go.Am
