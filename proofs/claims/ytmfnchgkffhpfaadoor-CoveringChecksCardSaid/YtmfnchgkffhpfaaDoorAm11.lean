/-
  The abstract machine: every operation that is no call of a Go function is sound, in one theorem. No condition. Nothing of one program stands here.
-/
import Derived.Test.YtmfnchgkffhpfaaDoorAm10
namespace Go.Am
variable {P : Program} {G : List Nat}

theorem run_v {s : Sem Value} {v : Value} {w w' : World} (h : s.run P w = .ok v w') : (do pure (.value (← s)) : Sem Next).run P w = .ok (.value v) w' := by
  simp [h]

theorem run_builtin {b : Builtin} {ρ : Operand → Value} {args : Array Operand} {aT : Array TypeId} {ty : TypeId} {w : World} {dst : Option Tmp} {pos : String} {after : Array Edge} {guard : Option (Nat × Bool)} :
    (execOp ρ { dst := dst, op := .call { callee := .builtin b, args := args, argTypes := aT }, type := ty, pos := pos, after := after, guard := guard }).run P w =
      (builtin b aT ty (args.map fun | .const _ => true | _ => false) (args.map ρ)).run P w := by
  simp only [execOp, resolve, Sem.run_bind, Sem.run_pure, Result.andThen_ok, invoke]
  rfl

set_option maxHeartbeats 1000000 in
theorem aop_sound {ι : Inj} {m m' : Mem} {w : World} {ρ ρ' : Operand → Value} {o : Oper} {v : Value} (hs : Sim P G ι m w) (hρ : ∀ x ∈ o.op.operands, VRel ι m.gen (ρ x) (ρ' x))
    (h : aop P ρ o m = some (v, m')) : ∃ n v' w', (execOp ρ' o).run P w = .ok n w' ∧ IsNext n v' ∧ Post P G ι m w v m' v' w' := by
  obtain ⟨dst, op, ty, pos, after, guard⟩ := o
  simp only at hρ
  -- a value that leaves the memory alone
  have same : ∀ {s : Sem Value} {u v' : Value}, execOp ρ' ⟨dst, op, ty, pos, after, guard⟩ = (do pure (.value (← s)) : Sem Next) → s.run P w = .ok v' w → VRel ι m.gen u v' → (u, m) = (v, m') →
      ∃ n v' w', (execOp ρ' ⟨dst, op, ty, pos, after, guard⟩).run P w = .ok n w' ∧ IsNext n v' ∧ Post P G ι m w v m' v' w' := fun {s u v'} he hr hv hm => by
    cases hm
    exact ⟨.value v', v', w, by rw [he]; exact run_v hr, .inl rfl, Post.same hs hv⟩
  cases op <;> simp only [aop, reduceCtorEq] at h
  case move x =>
    cases h
    exact ⟨.value (ρ' x), ρ' x, w, rfl, .inl rfl, Post.same hs (hρ x (by simp [Op.operands]))⟩
  case assign x =>
    cases h
    exact ⟨.value (ρ' x), ρ' x, w, rfl, .inl rfl, Post.same hs (hρ x (by simp [Op.operands]))⟩
  case pick c a b =>
    have hc := hρ c (by simp [Op.operands])
    split at h
    · rename_i t hcc
      cases h
      rw [hcc] at hc
      have e : ρ' c = .bool t := by generalize ρ' c = u at hc; cases hc; rfl
      refine ⟨.value (if t then ρ' a else ρ' b), (if t then ρ' a else ρ' b), w, ?_, .inl rfl, Post.same hs ?_⟩
      · simp only [execOp, e, asBool, Sem.run_bind, Sem.run_pure, Result.andThen_ok]
      · cases t
        · exact hρ b (by simp [Op.operands])
        · exact hρ a (by simp [Op.operands])
    · cases h
  case binOp op t x y yt =>
    rw [Option.map_eq_some_iff] at h
    obtain ⟨u, hu, he⟩ := h
    obtain ⟨v', hr, hv⟩ := abin_sound (hρ x (by simp [Op.operands])) (hρ y (by simp [Op.operands])) hu w
    exact same rfl hr hv he
  case alloc e =>
    rw [Option.map_eq_some_iff] at h
    obtain ⟨z, hz, he⟩ := h
    cases he
    obtain ⟨i, zv, hi, hz1, rfl, hz3⟩ := zeroCellsOf_some hz
    refine ⟨_, _, _, ?_, .inl rfl, newVar_sound (e := e) (cs := zv.cells) hs (LRel.plain hz3)⟩
    simp [execOp, Instr.alloc, run_zero hi hz1, newVar, newRow]
  case box e x =>
    split at h
    · cases h
      refine ⟨_, _, _, ?_, .inl rfl, newVar_sound (e := e) (cs := (ρ' x).cells) hs (hρ x (by simp [Op.operands])).cells⟩
      simp [execOp, Instr.box, newVar, newRow]
    · cases h
  case build t ps =>
    split at h
    · rename_i z hz
      rw [Option.map_eq_some_iff] at h
      obtain ⟨u, hu, he⟩ := h
      have hp : PRel ι m.gen (ps.map fun (i, x) => (i, ρ x)).toList (ps.map fun (i, x) => (i, ρ' x)).toList := by
        rw [Array.toList_map, Array.toList_map]
        exact PRel.map fun x hx => hρ x (by simp only [Op.operands]; simpa using hx)
      obtain ⟨v', hr, hv⟩ := build_sound hp (fun z' hz' => by
        obtain ⟨i, zv, hi, hz1, rfl, hz3⟩ := zeroCellsOf_some hz
        unfold zeroOf at hz'
        rw [hi] at hz'
        simp only [Option.bind_some] at hz'
        rw [hz1] at hz'
        cases hz'
        exact hz3) hu
      exact same rfl (dry_run hr w) hv he
    · cases h
  case buildSlice t len ps =>
    split at h
    · rename_i e hu
      split at h
      · rename_i i z hi hz
        split at h
        · rename_i hc
          obtain ⟨c1, c2, c3⟩ := hc
          split at h
          · rename_i cs hcs
            split at h
            · cases h
              obtain ⟨i', zv, hi', hz1, rfl, hz3⟩ := zeroCellsOf_some hz
              rw [hi] at hi'; cases hi'
              have hp : PRel ι m.gen (ps.map fun (i, x) => (i, ρ x)).toList (ps.map fun (i, x) => (i, ρ' x)).toList := by
                rw [Array.toList_map, Array.toList_map]
                exact PRel.map fun x hx => hρ x (by simp only [Op.operands]; simpa using hx)
              have hlen := repeat_length zv.cells.toList len
              obtain ⟨cs', hf, hr⟩ := fill_rel (ι := ι) (g := m.gen) _ hp (LRel.plain (repeat_all hz3 len)) hcs
              have hps : (ps.map fun (i, x) => (i, ρ' x)) = (ps.map fun (i, x) => (i, ρ' x)) := rfl
              refine ⟨_, _, { w with heap := w.heap.push (.cells cs' e (0, 0)) }, ?_, .inl rfl, newSlice_sound (cap := len) (cs := cs') hs rfl rfl rfl rfl (fun j hj => ?_) (Nat.le_refl _) (.inr ?_)⟩
              · simp only [execOp, Instr.buildSlice, Sem.run_bind, run_underlying hu, Result.andThen_ok, run_sizeOf' hi, Sem.run_pure]
                rw [if_neg (by omega)]
                by_cases hk0 : len * i.size = 0
                · have e1 : repeatCells zv.cells.toList len = [] := List.length_eq_zero_iff.1 (by rw [hlen, c2]; exact hk0)
                  rw [if_pos hk0]
                  have e2 : (Array.map (fun x => (#[] : Array Value)[x % (#[] : Array Value).size]!) (Array.range (len * i.size))) = (repeatCells zv.cells.toList len).toArray := by
                    rw [hk0, e1, Array.range_zero']; simp
                  simp only [Sem.run_bind, Sem.run_pure, Result.andThen_ok, e2, hf, newRow, run_newObj]
                · have e1 := repeat_array zv.cells.toList len (by omega)
                  rw [c2] at e1
                  rw [if_neg hk0]
                  have e2 : (Array.map (fun x => zv.cells[x % zv.cells.size]!) (Array.range (len * i.size))) = (repeatCells zv.cells.toList len).toArray := e1
                  simp only [Sem.run_bind, run_zero hi hz1, Result.andThen_ok, Sem.run_pure, e2, hf, newRow, run_newObj]
              · obtain ⟨v', h1, h2⟩ := hr.get (List.getElem?_eq_getElem hj)
                exact ⟨v', by simpa using h1, by rw [getD_lt hj]; exact h2⟩
              · rw [cellsOf_info hi]
                have hsz : cs'.size = len * i.size := by
                  have fs : ∀ (ps : List (Nat × Value)) (c c' : Array Value), Instr.fill (fun j => some (j * i.size, i.size)) c ps = some c' → c'.size = c.size := fun ps => by
                    induction ps with
                    | nil => intro c c' h; simp only [Instr.fill, Option.some.injEq] at h; rw [h]
                    | cons p ps ih =>
                      intro c c' h
                      obtain ⟨j, u⟩ := p
                      simp only [Instr.fill] at h
                      split at h
                      · cases h
                      · have := ih _ _ h
                        rw [this]
                        have fl : ∀ (l : List (Value × Nat)) (c : Array Value), (l.foldl (fun cs (c, k) => cs.setIfInBounds (j * i.size + k) c) c).size = c.size := fun l => by
                          induction l with
                          | nil => intro c; rfl
                          | cons q l ih => intro c; rw [List.foldl_cons, ih]; simp
                        rw [← Array.foldl_toList]
                        exact fl _ _
                  rw [fs _ _ _ hf, List.size_toArray, hlen, c2]
                rw [hsz]; exact Nat.le_refl _
            · cases h
          · cases h
        · cases h
      · cases h
    · cases h
  case load t a =>
    have ha := hρ a (by simp [Op.operands])
    split at h
    · rename_i ad had
      rw [Option.map_eq_some_iff] at h
      obtain ⟨u, hu, he⟩ := h
      rw [had] at ha
      have hsh : ∃ a', ρ' a = .pointer (some a') ∧ ARel ι m.gen ad a' := by generalize ρ' a = u at ha; cases ha; exact ⟨_, rfl, by assumption⟩
      obtain ⟨a', e1, har⟩ := hsh
      obtain ⟨v', hr, hv⟩ := aload_sound hs har hu
      exact same (s := Instr.loadAt t (ρ' a)) rfl (by simp only [Instr.loadAt, e1, Instr.sureAddr, Sem.run_bind, Sem.run_pure, Result.andThen_ok]; exact hr) hv he
    · cases h
  case store t a x =>
    have ha := hρ a (by simp [Op.operands])
    split at h
    · rename_i ad had
      rw [Option.map_eq_some_iff] at h
      obtain ⟨m1, hm1, he⟩ := h
      cases he
      rw [had] at ha
      have hsh : ∃ a', ρ' a = .pointer (some a') ∧ ARel ι m.gen ad a' := by generalize ρ' a = u at ha; cases ha; exact ⟨_, rfl, by assumption⟩
      obtain ⟨a', e1, har⟩ := hsh
      obtain ⟨w', ι', hr, hext, hsim⟩ := astore_sound hs har (hρ x (by simp [Op.operands])) hm1
      refine ⟨.skip, undef, w', ?_, .inr ⟨rfl, rfl⟩, ι', hext, hsim, VRel.undef⟩
      simp only [execOp, Instr.storeAt, e1, Instr.sureAddr, Sem.run_bind, Sem.run_pure, Result.andThen_ok, hr]
    · cases h
  case nilCheck x =>
    have hx := hρ x (by simp [Op.operands])
    split at h
    · rename_i ad had
      rw [had] at hx
      have hsh : ∃ a', ρ' x = .pointer (some a') ∧ ARel ι m.gen ad a' := by generalize ρ' x = u at hx; cases hx; exact ⟨_, rfl, by assumption⟩
      obtain ⟨a', e1, har⟩ := hsh
      cases h
      exact ⟨.value (.pointer (some a')), _, w, by simp only [execOp, e1]; rfl, .inl rfl, Post.same hs (.ptr _ _ har)⟩
    · cases h
  case unOp op t x =>
    split at h
    · rename_i hp
      rw [Option.map_eq_some_iff] at h
      obtain ⟨u, hu, he⟩ := h
      have hx := (hρ x (by simp [Op.operands])).eq_of_plain hp
      obtain ⟨h1, h2⟩ := dryV_some hu
      exact same (s := Op.unary op (ρ' x)) rfl (by rw [hx]; exact dry_run h1 w) (VRel.plain h2) he
    · cases h
  case convert s d x =>
    split at h
    · rename_i hp
      rw [Option.map_eq_some_iff] at h
      obtain ⟨u, hu, he⟩ := h
      have hx := (hρ x (by simp [Op.operands])).eq_of_plain hp
      obtain ⟨h1, h2⟩ := dryV_some hu
      exact same (s := Go.convert s d (ρ' x)) rfl (by rw [hx]; exact dry_run h1 w) (VRel.plain h2) he
    · cases h
  case makeFunc fn fs cs =>
    cases fn <;> simp only [reduceCtorEq] at h
    rename_i f
    cases h
    have h1 := LRel.mapArr (ι := ι) (g := m.gen) (l := fs.toList) (fun x hx => hρ x (by simp [Op.operands]; exact .inl (by simpa using hx)))
    have h2 := LRel.mapArr (ι := ι) (g := m.gen) (l := cs.toList) (fun x hx => hρ x (by simp [Op.operands]; exact .inr (by simpa using hx)))
    refine ⟨.value (.func (.func f) (fs.map ρ') (cs.map ρ')), _, w, rfl, .inl rfl, Post.same hs ?_⟩
    have e : ∀ (r : Operand → Value) (a : Array Operand), a.map r = ⟨a.toList.map r⟩ := fun r a => by apply Array.ext'; simp
    rw [e ρ fs, e ρ cs, e ρ' fs, e ρ' cs]
    exact .fn f _ _ _ _ h1.1 h1.2 h2.1 h2.2
  case makeMap t r =>
    cases r <;> simp only [reduceCtorEq] at h
    cases h
    obtain ⟨ι', hext, hsim, hb⟩ := alloc_core (x := .map [] 0) (ib := ⟨w.heap.size, 0, 0, 0⟩) (w' := { w with heap := w.heap.push (.map #[] 0) }) (obj := .map #[] 0) hs rfl rfl rfl rfl rfl ⟨rfl, trivial⟩ rfl
    exact ⟨.value (.map (some w.heap.size)), _, _, by simp [execOp, Instr.makeMap], .inl rfl, ι', hext, hsim, .map _ _ _ hb fun _ => rfl⟩
  case makeSlice t l c =>
    have hl := hρ l (by simp [Op.operands])
    have hc := hρ c (by simp [Op.operands])
    split at h
    · rename_i e n k hu hln hck
      rw [hln] at hl; rw [hck] at hc
      have e1 : ρ' l = .int .i64 n := by generalize ρ' l = u at hl; cases hl; rfl
      have e2 : ρ' c = .int .i64 k := by generalize ρ' c = u at hc; cases hc; rfl
      split at h
      · rename_i i z hi hz
        split at h
        · rename_i hcond
          obtain ⟨c1, c2, c3, c4, c5, c6⟩ := hcond
          cases h
          obtain ⟨v', w', hr, hp⟩ := makeSlice_sound hs hu hi hz c1 c2 c3 c4 c5 c6
          exact ⟨.value v', v', w', by simp only [execOp, e1, e2]; exact run_v hr, .inl rfl, hp⟩
        · cases h
      · cases h
    · cases h
  case slice t x lo hi mx =>
    rw [Option.map_eq_some_iff] at h
    obtain ⟨u, hu, he⟩ := h
    obtain ⟨v', hr, hv⟩ := slice_sound hs (hρ x (by simp [Op.operands])) (ORel.map (o := lo) fun y hy => hρ y (by subst hy; simp [Op.operands])) (ORel.map (o := hi) fun y hy => hρ y (by subst hy; simp [Op.operands]))
      (ORel.map (o := mx) fun y hy => hρ y (by subst hy; simp [Op.operands])) hu
    exact same rfl hr hv he
  case fieldAddr s x f =>
    have hx := hρ x (by simp [Op.operands])
    split at h
    · rename_i fs ad hu had
      rw [had] at hx
      have hsh : ∃ a', ρ' x = .pointer (some a') ∧ ARel ι m.gen ad a' := by generalize ρ' x = u at hx; cases hx; exact ⟨_, rfl, by assumption⟩
      obtain ⟨a', e1, har⟩ := hsh
      split at h
      · rename_i fd hfd
        split at h
        · rename_i i hi
          split at h
          · cases h
          · rename_i hsz
            refine same (s := Instr.fieldAt s (ρ' x) f) (v' := .pointer (some (a'.add fd.offset))) rfl ?_ (.ptr _ _ ?_) (Option.some.inj h)
            · simp only [Instr.fieldAt, e1, Instr.sureAddr, Sem.run_bind, run_underlying hu, Sem.run_pure, Result.andThen_ok, hfd, fieldPlace, run_sizeOf' hi, if_neg hsz]
            · obtain ⟨ib, hb, hle, hcur⟩ := har
              refine ⟨ib, hb, hle, fun e => ?_⟩
              rw [hcur e, addr_add]
              simp only [Addr.mk.injEq, true_and, and_true]
              omega
        · cases h
      · cases h
    · cases h
  case field t x f =>
    rw [Option.map_eq_some_iff] at h
    obtain ⟨u, hu, he⟩ := h
    obtain ⟨v', hr, hv⟩ := field_sound (hρ x (by simp [Op.operands])) hu
    exact same rfl (dry_run hr w) hv he
  case indexAddr t x ix =>
    have hx := hρ x (by simp [Op.operands])
    have hix := hρ ix (by simp [Op.operands])
    split at h
    · rename_i e b off len g k i hu hxx hixx
      rw [hxx] at hx; rw [hixx] at hix
      have e2 : ρ' ix = .int k i := by generalize ρ' ix = u at hix; cases hix; rfl
      split at h
      · rename_i inf hi
        split at h
        · rename_i hb
          have hsh : ∃ a' cap', ρ' x = .slice (some a') len cap' ∧ SRel ι m.gen b off len g a' cap' := by generalize ρ' x = u at hx; cases hx; exact ⟨_, _, rfl, by assumption⟩
          obtain ⟨a', cap', e1, hsr⟩ := hsh
          refine same (s := Instr.indexAt t (ρ' x) (ρ' ix)) (v' := .pointer (some (a'.add (i.toNat * inf.size)))) rfl ?_ (.ptr _ _ (slice_addr hsr (fun _ => by omega) _)) (Option.some.inj h)
          simp only [Instr.indexAt, e1, e2, asIntOf, Sem.run_bind, run_underlying hu, Sem.run_pure, Result.andThen_ok, run_sizeOf' hi, if_pos hb]
        · cases h
      · cases h
    · rename_i n e ad k i hu hxx hixx
      rw [hxx] at hx; rw [hixx] at hix
      have e2 : ρ' ix = .int k i := by generalize ρ' ix = u at hix; cases hix; rfl
      have hsh : ∃ a', ρ' x = .pointer (some a') ∧ ARel ι m.gen ad a' := by generalize ρ' x = u at hx; cases hx; exact ⟨_, rfl, by assumption⟩
      obtain ⟨a', e1, har⟩ := hsh
      split at h
      · rename_i inf hi
        split at h
        · rename_i hb
          refine same (s := Instr.indexAt t (ρ' x) (ρ' ix)) (v' := .pointer (some (a'.add (i.toNat * inf.size)))) rfl ?_ (.ptr _ _ ?_) (Option.some.inj h)
          · simp only [Instr.indexAt, e1, e2, asIntOf, Instr.sureAddr, Sem.run_bind, run_underlying hu, Sem.run_pure, Result.andThen_ok, run_sizeOf' hi, if_pos hb]
          · obtain ⟨ib, hbb, hle, hcur⟩ := har
            refine ⟨ib, hbb, hle, fun e => ?_⟩
            rw [hcur e, addr_add]
            simp only [Addr.mk.injEq, true_and, and_true]
            omega
        · cases h
      · cases h
    · cases h
  case index t x ix =>
    split at h
    · rename_i hp
      rw [Option.map_eq_some_iff] at h
      obtain ⟨u, hu, he⟩ := h
      have hix := (hρ ix (by simp [Op.operands])).eq_of_plain hp
      obtain ⟨v', hr, hv⟩ := index_sound (hρ x (by simp [Op.operands])) hu
      exact same (s := Instr.index t (ρ' x) (ρ' ix)) rfl (by rw [hix]; exact dry_run hr w) hv he
    · cases h
  case lookup t x k ok =>
    rw [Option.map_eq_some_iff] at h
    obtain ⟨u, hu, he⟩ := h
    obtain ⟨v', hr, hv⟩ := lookup_sound hs (hρ x (by simp [Op.operands])) (hρ k (by simp [Op.operands])) hu
    exact same rfl hr hv he
  case mapUpdate t x k u =>
    rw [Option.map_eq_some_iff] at h
    obtain ⟨m1, hm1, he⟩ := h
    cases he
    obtain ⟨w', ι', hr, hext, hsim⟩ := update_sound hs (hρ x (by simp [Op.operands])) (hρ k (by simp [Op.operands])) (hρ u (by simp [Op.operands])) hm1
    exact ⟨.skip, undef, w', by simp only [execOp, Sem.run_bind, hr, Result.andThen_ok, Sem.run_pure], .inr ⟨rfl, rfl⟩, ι', hext, hsim, VRel.undef⟩
  case insert t x k u =>
    rw [Option.map_eq_some_iff] at h
    obtain ⟨m1, hm1, he⟩ := h
    cases he
    obtain ⟨w', ι', hr, hext, hsim⟩ := update_sound hs (hρ x (by simp [Op.operands])) (hρ k (by simp [Op.operands])) (hρ u (by simp [Op.operands])) hm1
    exact ⟨.skip, undef, w', by simp only [execOp, Sem.run_bind, hr, Result.andThen_ok, Sem.run_pure], .inr ⟨rfl, rfl⟩, ι', hext, hsim, VRel.undef⟩
  case extract t i =>
    rw [Option.map_eq_some_iff] at h
    obtain ⟨u, hu, he⟩ := h
    obtain ⟨v', hr, hv⟩ := extract_sound (hρ t (by simp [Op.operands])) hu
    exact same rfl (dry_run hr w) hv he
  case call c =>
    obtain ⟨callee, args, aT⟩ := c
    cases callee <;> simp only [reduceCtorEq] at h
    rename_i b
    have hargs : ∀ x ∈ args, VRel ι m.gen (ρ x) (ρ' x) := fun x hx => hρ x (by simp [Op.operands, Call.operands, hx])
    have har := ARels.map hargs
    cases b <;> simp only [reduceCtorEq] at h
    case append =>
      obtain ⟨v', w', hr, hp⟩ := append_sound ty hs har h
      exact ⟨.value v', v', w', by rw [run_builtin]; exact run_v hr, .inl rfl, hp⟩
    case cap =>
      rw [Option.map_eq_some_iff] at h
      obtain ⟨u, hu, he⟩ := h
      cases he
      obtain ⟨hr, hv⟩ := cap_sound (w := w) ty har hu
      exact ⟨.value _, _, w, by rw [run_builtin]; exact run_v hr, .inl rfl, Post.same hs hv⟩
    case copy =>
      obtain ⟨v', w', hr, hp⟩ := copy_sound ty hs har h
      exact ⟨.value v', v', w', by rw [run_builtin]; exact run_v hr, .inl rfl, hp⟩
    case len =>
      rw [Option.map_eq_some_iff] at h
      obtain ⟨u, hu, he⟩ := h
      cases he
      obtain ⟨hr, hv⟩ := len_sound ty hs har hu
      exact ⟨.value _, _, w, by rw [run_builtin]; exact run_v hr, .inl rfl, Post.same hs hv⟩
    case max =>
      split at h
      · rename_i hp
        rw [Option.map_eq_some_iff] at h
        obtain ⟨u, hu, he⟩ := h
        cases he
        obtain ⟨h1, h2⟩ := dryV_some hu
        exact ⟨.value _, _, w, by rw [run_builtin, plain_map_eq hargs hp]; exact run_v (dry_run h1 w), .inl rfl, Post.same hs (VRel.plain h2)⟩
      · cases h
    case min =>
      split at h
      · rename_i hp
        rw [Option.map_eq_some_iff] at h
        obtain ⟨u, hu, he⟩ := h
        cases he
        obtain ⟨h1, h2⟩ := dryV_some hu
        exact ⟨.value _, _, w, by rw [run_builtin, plain_map_eq hargs hp]; exact run_v (dry_run h1 w), .inl rfl, Post.same hs (VRel.plain h2)⟩
      · cases h

end Go.Am
