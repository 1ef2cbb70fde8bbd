/-
  The abstract machine: an operation that does not touch the memory, without the memory. No condition. Nothing of one program stands here.
-/
import Derived.Test.YtmfnchgkffhpfaaDoorAm15
namespace Go.Am
variable {P : Program} {G : List Nat}

theorem abin_plain {op : BinOp} {t : TypeId} {xo yo : Operand} {x y u : Value} (h : abin P op t xo yo x y = some u) : plain u = true := by
  unfold abin at h
  have hnil : ∀ {b : Bool}, aeqNil op b = some u → plain u = true := fun {b} h => by
    cases op <;> simp only [aeqNil, reduceCtorEq, Option.some.injEq] at h <;> subst h <;> rfl
  split at h
  · split at h
    · exact (ashift_run (P := P) (t := t) (k' := .i64) (.inl rfl) h default).2
    · exact (ashift_run (P := P) (t := t) (k' := .i64) (.inr rfl) h default).2
    · split at h
      · exact (aint_run (P := P) (t := t) h default).2
      · cases h
  · split at h
    · exact hnil h
    · cases h
  · split at h
    · exact hnil h
    · cases h
  · split at h
    · exact hnil h
    · cases h
  · split at h
    · exact hnil h
    · cases h
  · split at h
    · exact (dryV_some h).2
    · cases h

set_option maxHeartbeats 1000000 in
theorem quiet_sound {ι : Inj} {g : Nat → Nat} {m m' : Mem} {ρ ρ' : Operand → Value} {o : Oper} {v : Value} (hq : quietKind o.op = true) (hρ : ∀ x ∈ o.op.operands, VRel ι g (ρ x) (ρ' x))
    (h : aop P ρ o m = some (v, m')) : ∃ v', (∀ w, (execOp ρ' o).run P w = .ok (.value v') w) ∧ VRel ι g v v' := by
  obtain ⟨dst, op, ty, pos, after, guard⟩ := o
  simp only at hρ hq
  have same : ∀ {s : Sem Value} {u v' : Value}, execOp ρ' ⟨dst, op, ty, pos, after, guard⟩ = (do pure (.value (← s)) : Sem Next) → (∀ w, s.run P w = .ok v' w) → VRel ι g u v' → (u, m) = (v, m') →
      ∃ v', (∀ w, (execOp ρ' ⟨dst, op, ty, pos, after, guard⟩).run P w = .ok (.value v') w) ∧ VRel ι g v v' := fun {s u v'} he hr hv hm => by
    cases hm
    exact ⟨v', fun w => by rw [he]; exact run_v (hr w), hv⟩
  cases op <;> simp only [quietKind, Bool.false_eq_true] at hq <;> simp only [aop, reduceCtorEq] at h
  case move x =>
    cases h
    exact ⟨ρ' x, fun w => rfl, hρ x (by simp [Op.operands])⟩
  case assign x =>
    cases h
    exact ⟨ρ' x, fun w => rfl, hρ x (by simp [Op.operands])⟩
  case pick c a b =>
    have hc := hρ c (by simp [Op.operands])
    split at h
    · rename_i t hcc
      cases h
      rw [hcc] at hc
      have e : ρ' c = .bool t := by generalize ρ' c = u at hc; cases hc; rfl
      refine ⟨(if t then ρ' a else ρ' b), fun w => ?_, ?_⟩
      · simp only [execOp, e, asBool, Sem.run_bind, Sem.run_pure, Result.andThen_ok]
      · cases t
        · exact hρ b (by simp [Op.operands])
        · exact hρ a (by simp [Op.operands])
    · cases h
  case binOp op t x y yt =>
    rw [Option.map_eq_some_iff] at h
    obtain ⟨u, hu, he⟩ := h
    have hx := hρ x (by simp [Op.operands])
    have hy := hρ y (by simp [Op.operands])
    -- the value does not hang on the world
    have hall : ∃ v', (∀ w, (do eqGuard op t x y (ρ' x) (ρ' y); binOp op t (ρ' x) (ρ' y) : Sem Value).run P w = .ok v' w) ∧ VRel ι g u v' := by
      obtain ⟨v', hr, hv⟩ := abin_sound hx hy hu default
      refine ⟨v', fun w => ?_, hv⟩
      obtain ⟨v2, hr2, hv2⟩ := abin_sound hx hy hu w
      have hp : plain u = true := abin_plain hu
      rw [hv.eq_of_plain hp]
      rw [hv2.eq_of_plain hp] at hr2
      exact hr2
    obtain ⟨v', hr, hv⟩ := hall
    exact same rfl hr hv he
  case build t ps =>
    split at h
    · rename_i z hz
      rw [Option.map_eq_some_iff] at h
      obtain ⟨u, hu, he⟩ := h
      have hp : PRel ι g (ps.map fun (i, x) => (i, ρ x)).toList (ps.map fun (i, x) => (i, ρ' x)).toList := by
        rw [Array.toList_map, Array.toList_map]
        exact PRel.map fun x hx => hρ x (by simp only [Op.operands]; simpa using hx)
      obtain ⟨v', hr, hv⟩ := build_sound hp (fun z' hz' => by
        obtain ⟨i, zv, hi, hz1, rfl, hz3⟩ := zeroCellsOf_some hz
        unfold zeroOf at hz'
        rw [hi] at hz'
        simp only [Option.bind_some] at hz'
        rw [hz1] at hz'
        cases hz'
        exact hz3) hu
      exact same rfl (fun w => dry_run hr w) hv he
    · cases h
  case nilCheck x =>
    have hx := hρ x (by simp [Op.operands])
    split at h
    · rename_i ad had
      rw [had] at hx
      have hsh : ∃ a', ρ' x = .pointer (some a') ∧ ARel ι g ad a' := by generalize ρ' x = u at hx; cases hx; exact ⟨_, rfl, by assumption⟩
      obtain ⟨a', e1, har⟩ := hsh
      cases h
      exact ⟨.pointer (some a'), fun w => by simp only [execOp, e1]; rfl, .ptr _ _ har⟩
    · cases h
  case unOp op t x =>
    split at h
    · rename_i hp
      rw [Option.map_eq_some_iff] at h
      obtain ⟨u, hu, he⟩ := h
      have hx := (hρ x (by simp [Op.operands])).eq_of_plain hp
      obtain ⟨h1, h2⟩ := dryV_some hu
      exact same (s := Op.unary op (ρ' x)) rfl (fun w => by rw [hx]; exact dry_run h1 w) (VRel.plain h2) he
    · cases h
  case convert s d x =>
    split at h
    · rename_i hp
      rw [Option.map_eq_some_iff] at h
      obtain ⟨u, hu, he⟩ := h
      have hx := (hρ x (by simp [Op.operands])).eq_of_plain hp
      obtain ⟨h1, h2⟩ := dryV_some hu
      exact same (s := Go.convert s d (ρ' x)) rfl (fun w => by rw [hx]; exact dry_run h1 w) (VRel.plain h2) he
    · cases h
  case makeFunc fn fs cs =>
    cases fn <;> simp only [reduceCtorEq] at h
    rename_i f
    cases h
    have h1 := LRel.mapArr (ι := ι) (g := g) (l := fs.toList) (fun x hx => hρ x (by simp [Op.operands]; exact .inl (by simpa using hx)))
    have h2 := LRel.mapArr (ι := ι) (g := g) (l := cs.toList) (fun x hx => hρ x (by simp [Op.operands]; exact .inr (by simpa using hx)))
    refine ⟨.func (.func f) (fs.map ρ') (cs.map ρ'), fun w => rfl, ?_⟩
    have e : ∀ (r : Operand → Value) (a : Array Operand), a.map r = ⟨a.toList.map r⟩ := fun r a => by apply Array.ext'; simp
    rw [e ρ fs, e ρ cs, e ρ' fs, e ρ' cs]
    exact .fn f _ _ _ _ h1.1 h1.2 h2.1 h2.2
  case fieldAddr s x f =>
    have hx := hρ x (by simp [Op.operands])
    split at h
    · rename_i fs ad hu had
      rw [had] at hx
      have hsh : ∃ a', ρ' x = .pointer (some a') ∧ ARel ι g ad a' := by generalize ρ' x = u at hx; cases hx; exact ⟨_, rfl, by assumption⟩
      obtain ⟨a', e1, har⟩ := hsh
      split at h
      · rename_i fd hfd
        split at h
        · rename_i i hi
          split at h
          · cases h
          · rename_i hsz
            refine same (s := Instr.fieldAt s (ρ' x) f) (v' := .pointer (some (a'.add fd.offset))) rfl (fun w => ?_) (.ptr _ _ ?_) (Option.some.inj h)
            · simp only [Instr.fieldAt, e1, Instr.sureAddr, Sem.run_bind, run_underlying hu, Sem.run_pure, Result.andThen_ok, hfd, fieldPlace, run_sizeOf' hi, if_neg hsz]
            · obtain ⟨ib, hb, hle, hcur⟩ := har
              refine ⟨ib, hb, hle, fun e => ?_⟩
              rw [hcur e, addr_add]
              simp only [Addr.mk.injEq, true_and, and_true]
              omega
        · cases h
      · cases h
    · cases h
  case field t x f =>
    rw [Option.map_eq_some_iff] at h
    obtain ⟨u, hu, he⟩ := h
    obtain ⟨v', hr, hv⟩ := field_sound (hρ x (by simp [Op.operands])) hu
    exact same rfl (fun w => dry_run hr w) hv he
  case indexAddr t x ix =>
    have hx := hρ x (by simp [Op.operands])
    have hix := hρ ix (by simp [Op.operands])
    split at h
    · rename_i e b off len g1 k i hu hxx hixx
      rw [hxx] at hx; rw [hixx] at hix
      have e2 : ρ' ix = .int k i := by generalize ρ' ix = u at hix; cases hix; rfl
      split at h
      · rename_i inf hi
        split at h
        · rename_i hb
          have hsh : ∃ a' cap', ρ' x = .slice (some a') len cap' ∧ SRel ι g b off len g1 a' cap' := by generalize ρ' x = u at hx; cases hx; exact ⟨_, _, rfl, by assumption⟩
          obtain ⟨a', cap', e1, hsr⟩ := hsh
          refine same (s := Instr.indexAt t (ρ' x) (ρ' ix)) (v' := .pointer (some (a'.add (i.toNat * inf.size)))) rfl (fun w => ?_) (.ptr _ _ (slice_addr hsr (fun _ => by omega) _)) (Option.some.inj h)
          simp only [Instr.indexAt, e1, e2, asIntOf, Sem.run_bind, run_underlying hu, Sem.run_pure, Result.andThen_ok, run_sizeOf' hi, if_pos hb]
        · cases h
      · cases h
    · rename_i n e ad k i hu hxx hixx
      rw [hxx] at hx; rw [hixx] at hix
      have e2 : ρ' ix = .int k i := by generalize ρ' ix = u at hix; cases hix; rfl
      have hsh : ∃ a', ρ' x = .pointer (some a') ∧ ARel ι g ad a' := by generalize ρ' x = u at hx; cases hx; exact ⟨_, rfl, by assumption⟩
      obtain ⟨a', e1, har⟩ := hsh
      split at h
      · rename_i inf hi
        split at h
        · rename_i hb
          refine same (s := Instr.indexAt t (ρ' x) (ρ' ix)) (v' := .pointer (some (a'.add (i.toNat * inf.size)))) rfl (fun w => ?_) (.ptr _ _ ?_) (Option.some.inj h)
          · simp only [Instr.indexAt, e1, e2, asIntOf, Instr.sureAddr, Sem.run_bind, run_underlying hu, Sem.run_pure, Result.andThen_ok, run_sizeOf' hi, if_pos hb]
          · obtain ⟨ib, hbb, hle, hcur⟩ := har
            refine ⟨ib, hbb, hle, fun e => ?_⟩
            rw [hcur e, addr_add]
            simp only [Addr.mk.injEq, true_and, and_true]
            omega
        · cases h
      · cases h
    · cases h
  case index t x ix =>
    split at h
    · rename_i hp
      rw [Option.map_eq_some_iff] at h
      obtain ⟨u, hu, he⟩ := h
      have hix := (hρ ix (by simp [Op.operands])).eq_of_plain hp
      obtain ⟨v', hr, hv⟩ := index_sound (hρ x (by simp [Op.operands])) hu
      exact same (s := Instr.index t (ρ' x) (ρ' ix)) rfl (fun w => by rw [hix]; exact dry_run hr w) hv he
    · cases h
  case extract t i =>
    rw [Option.map_eq_some_iff] at h
    obtain ⟨u, hu, he⟩ := h
    obtain ⟨v', hr, hv⟩ := extract_sound (hρ t (by simp [Op.operands])) hu
    exact same rfl (fun w => dry_run hr w) hv he
  case call c =>
    obtain ⟨callee, args, aT⟩ := c
    cases callee <;> simp only [reduceCtorEq, Bool.false_eq_true] at hq h
    rename_i b
    have hargs : ∀ x ∈ args, VRel ι g (ρ x) (ρ' x) := fun x hx => hρ x (by simp [Op.operands, Call.operands, hx])
    cases b <;> simp only [reduceCtorEq, Bool.false_eq_true] at hq h
    case cap =>
      rw [Option.map_eq_some_iff] at h
      obtain ⟨u, hu, he⟩ := h
      cases he
      have hp : v = .int .i64 0 := by
        unfold acap at hu
        repeat' split at hu
        all_goals first | (cases hu; rfl) | cases hu
      subst hp
      refine ⟨.int .i64 0, fun w => ?_, .int _ _⟩
      rw [run_builtin]
      refine run_v ?_
      have key : ∀ (ι : Inj) (g : Nat → Nat), ARels ι g (args.map ρ) (args.map ρ') → (Builtin.cap_ aT ty (args.map ρ')).run P w = .ok (.int .i64 0) w := fun ι g har => by
        unfold acap at hu
        split at hu
        · rename_i t q0
          split at hu
          · rename_i e huu
            split at hu
            · rename_i q
              obtain ⟨x', h1, h2⟩ := har 0 _ q
              cases h2
              simp [Builtin.cap_, q0, h1, run_underlying huu, goInt]
            · rename_i b o s q
              obtain ⟨x', h1, h2⟩ := har 0 _ q
              cases h2
              simp [Builtin.cap_, q0, h1, run_underlying huu, goInt]
            · cases hu
          · cases hu
        · cases hu
      exact key ι g (ARels.map hargs)
    case max =>
      split at h
      · rename_i hp
        rw [Option.map_eq_some_iff] at h
        obtain ⟨u, hu, he⟩ := h
        cases he
        obtain ⟨h1, h2⟩ := dryV_some hu
        exact ⟨_, fun w => by rw [run_builtin, plain_map_eq hargs hp]; exact run_v (dry_run h1 w), VRel.plain h2⟩
      · cases h
    case min =>
      split at h
      · rename_i hp
        rw [Option.map_eq_some_iff] at h
        obtain ⟨u, hu, he⟩ := h
        cases he
        obtain ⟨h1, h2⟩ := dryV_some hu
        exact ⟨_, fun w => by rw [run_builtin, plain_map_eq hargs hp]; exact run_v (dry_run h1 w), VRel.plain h2⟩
      · cases h

end Go.Am
