/-
  The abstract machine: make, maps, composites, tests: sound as operations. No condition. Nothing of one program stands here.
-/
import Derived.Test.YtmfnchgkffhpfaaDoorAm7
namespace Go.Am
variable {P : Program} {G : List Nat}

theorem bytes_eq {a b : ByteArray} (h : (a == b) = true) : a = b := by
  obtain ⟨x⟩ := a
  obtain ⟨y⟩ := b
  have e : x = y := by simpa using (show (x == y) = true from h)
  rw [e]

theorem zeroCellsOf_some {e : TypeId} {z : List Value} (h : zeroCellsOf P e = some z) : ∃ i zv, P.info? e = some i ∧ i.zero = some zv ∧ z = zv.cells.toList ∧ z.all plainCell = true := by
  unfold zeroCellsOf zeroOf at h
  split at h
  · rename_i zv hz
    rw [Option.bind_eq_some_iff] at hz
    obtain ⟨i, hi, hz⟩ := hz
    split at h
    · cases h; exact ⟨i, zv, hi, hz, rfl, by assumption⟩
    · cases h
  · cases h

theorem run_zero {e : TypeId} {i : TypeInfo} {zv : Value} (hi : P.info? e = some i) (hz : i.zero = some zv) (w : World) : (zeroValue e).run P w = .ok zv w := by
  simp [zeroValue, run_typeInfo' hi, hz]

/-! ## Maps -/
theorem findNow_rel {ι : Inj} {g : Nat → Nat} (kind : TypeDesc) (k : Value) : ∀ {es es' : List MapEntry} (n : Nat) {r : Option (Nat × Value)}, EsRel ι g es es' → Instr.findNow kind k es n = some r →
    (r = none ∧ Instr.findNow kind k es' n = some none) ∨ ∃ i v v', r = some (i, v) ∧ Instr.findNow kind k es' n = some (some (i, v')) ∧ VRel ι g v v' ∧ n ≤ i ∧
      ∃ e e', es[i - n]? = some e ∧ es'[i - n]? = some e' ∧ Instr.sameNow kind k e.key = some true ∧ ERel ι g e e'
  | [], [], n, r, _, hf => by
    simp only [Instr.findNow, Option.some.injEq] at hf
    exact .inl ⟨hf.symm, rfl⟩
  | e :: es, e' :: es', n, r, ⟨he, hes⟩, hf => by
    simp only [Instr.findNow] at hf ⊢
    rw [he.1]
    cases hsn : Instr.sameNow kind k e.key with
    | none => rw [hsn] at hf; cases hf
    | some b =>
      rw [hsn] at hf
      cases b with
      | true =>
        simp only [Option.some.injEq] at hf
        subst hf
        refine .inr ⟨n, e.val, e'.val, rfl, rfl, he.2.2.2, Nat.le_refl _, e, e', ?_, ?_, hsn, he⟩
        · simp
        · simp
      | false =>
        rcases findNow_rel kind k (n + 1) hes hf with ⟨h1, h2⟩ | ⟨i, v, v', h1, h2, h3, h4, f, f', h5, h6, h7⟩
        · exact .inl ⟨h1, h2⟩
        · refine .inr ⟨i, v, v', h1, h2, h3, by omega, f, f', ?_, ?_, h7⟩
          · have : i - n = (i - (n + 1)) + 1 := by omega
            rw [this]; exact h5
          · have : i - n = (i - (n + 1)) + 1 := by omega
            rw [this]; exact h6
  | [], _ :: _, _, _, h, _ => h.elim
  | _ :: _, [], _, _, h, _ => h.elim

theorem keyKind_some {kt : TypeId} {kind : TypeDesc} (h : keyKind P kt = some kind) : P.underlying kt = some kind ∧ ((∃ k, kind = .int k) ∨ kind = .string ∨ kind = .bool) := by
  unfold keyKind at h
  split at h <;> first
    | (rename_i k hu; cases h; exact ⟨hu, .inl ⟨_, rfl⟩⟩)
    | (rename_i hu; cases h; exact ⟨hu, .inr (.inl rfl)⟩)
    | (rename_i hu; cases h; exact ⟨hu, .inr (.inr rfl)⟩)
    | cases h

theorem run_checkKey {kt : TypeId} {kind : TypeDesc} (h : keyKind P kt = some kind) (empty : Bool) (k : Value) (w : World) : (Instr.checkKey empty 10000 kt k).run P w = .ok () w := by
  obtain ⟨hu, hk⟩ := keyKind_some h
  show (Instr.checkKey empty (9999 + 1) kt k).run P w = _
  unfold Instr.checkKey
  simp only [Sem.run_bind, run_underlying hu, Result.andThen_ok]
  rcases hk with ⟨k', rfl⟩ | rfl | rfl <;> rfl

theorem run_findKey {kt : TypeId} {kind : TypeDesc} (h : keyKind P kt = some kind) {k : Value} {es : List MapEntry} {r : Option (Nat × Value)} (hf : Instr.findNow kind k es 0 = some r) (w : World) :
    (Instr.findKey kt k es).run P w = .ok r w := by
  obtain ⟨hu, _⟩ := keyKind_some h
  simp [Instr.findKey, run_underlying hu, hf]

theorem lookup_sound {ι : Inj} {m : Mem} {w : World} {t : TypeId} {x x' k k' : Value} {ok : Bool} {v : Value} (hs : Sim P G ι m w) (hx : VRel ι m.gen x x') (hk : VRel ι m.gen k k')
    (h : alookup P t x k ok m = some v) : ∃ v', (Instr.lookup t x' k' ok).run P w = .ok v' w ∧ VRel ι m.gen v v' := by
  have pairR : ∀ {a a' : Value} (b : Bool), VRel ι m.gen a a' → VRel ι m.gen (.tuple #[a, .bool b]) (.tuple #[a', .bool b]) := fun b h => by
    have := LRel.cons h (LRel.cons (.bool b) LRel.nil)
    exact .tuple _ _ this.1 this.2
  unfold alookup at h
  split at h
  · rename_i kt et hu
    split at h
    · rename_i kind z hkk hz
      split at h
      · rename_i hp
        simp only [Bool.and_eq_true] at hp
        rw [hk.eq_of_plain hp.2]
        have hzr : ∀ w, (zeroValue et).run P w = .ok z w := fun w => by
          unfold zeroOf at hz
          rw [Option.bind_eq_some_iff] at hz
          obtain ⟨i, hi, hz⟩ := hz
          exact run_zero hi hz w
        -- the two lists of entries
        have main : ∀ (es : List MapEntry) (es' : Array MapEntry), EsRel ι m.gen es es'.toList →
            (match Instr.findNow kind k es 0 with
             | some (some (_, v)) => some (if ok then .tuple #[v, .bool true] else v)
             | some none => some (if ok then .tuple #[z, .bool false] else z)
             | none => none) = some v →
            (∀ r, (Instr.findKey kt k es'.toList).run P w = .ok r w → (Instr.lookup t x' k ok).run P w =
              .ok (match r with | some (_, v) => (if ok then .tuple #[v, .bool true] else v) | none => (if ok then .tuple #[z, .bool false] else z)) w) →
            ∃ v', (Instr.lookup t x' k ok).run P w = .ok v' w ∧ VRel ι m.gen v v' := fun es es' her hf hrun => by
          cases hfn : Instr.findNow kind k es 0 with
          | none => rw [hfn] at hf; cases hf
          | some r =>
            rw [hfn] at hf
            rcases findNow_rel kind k 0 her hfn with ⟨rfl, h2⟩ | ⟨i, u, u', rfl, h2, h3, _⟩
            · simp only [Option.some.injEq] at hf
              subst hf
              refine ⟨if ok then .tuple #[z, .bool false] else z, ?_, ?_⟩
              · exact hrun _ (run_findKey hkk h2 w)
              · cases ok
                · exact VRel.plain hp.1
                · exact pairR false (VRel.plain hp.1)
            · simp only [Option.some.injEq] at hf
              subst hf
              refine ⟨if ok then .tuple #[u', .bool true] else u', ?_, ?_⟩
              · exact hrun _ (run_findKey hkk h2 w)
              · cases ok
                · exact h3
                · exact pairR true h3
        split at h
        · rename_i es hes
          split at hes
          · cases hes; cases hx
            exact main [] #[] trivial h fun r hr => by
                simp only [Instr.lookup, Sem.run_bind, run_underlying hu, Result.andThen_ok, run_checkKey hkk, hr, Sem.run_pure]
                cases r <;> simp [hzr]
          · rename_i r
            cases hx with
            | map _ c ib hb hc =>
              split at hes
              · rename_i es2 c2 hg
                cases hes
                obtain ⟨es', h1, h2⟩ := map_of hs hb hg
                have := hc (by unfold Mem.gen; rw [hg]; rfl)
                subst this
                exact main es es' h2 h fun r hr => by
                    simp only [Instr.lookup, Sem.run_bind, run_underlying hu, Result.andThen_ok, run_checkKey hkk, hr, Sem.run_pure, getObj, Sem.run, h1]
                    cases r <;> simp [hzr]
              · cases hes
          · cases hes
        · cases h
      · cases h
    · cases h
  · cases h

theorem EsRel.modify {ι : Inj} {g : Nat → Nat} {f f' : MapEntry → MapEntry} (hf : ∀ e e', ERel ι g e e' → ERel ι g (f e) (f' e')) :
    ∀ {es es' : List MapEntry} (i : Nat), EsRel ι g es es' → EsRel ι g (es.modify i f) (es'.modify i f')
  | [], [], i, _ => by cases i <;> trivial
  | e :: es, e' :: es', 0, ⟨h, k⟩ => ⟨hf _ _ h, k⟩
  | e :: es, e' :: es', i + 1, ⟨h, k⟩ => ⟨h, EsRel.modify hf i k⟩
  | [], _ :: _, _, h => h.elim
  | _ :: _, [], _, h => h.elim

theorem EsRel.push {ι : Inj} {g : Nat → Nat} {e e' : MapEntry} (he : ERel ι g e e') : ∀ {es es' : List MapEntry}, EsRel ι g es es' → EsRel ι g (es ++ [e]) (es' ++ [e'])
  | [], [], _ => ⟨he, trivial⟩
  | _ :: _, _ :: _, ⟨h, k⟩ => ⟨h, EsRel.push he k⟩
  | [], _ :: _, h => h.elim
  | _ :: _, [], h => h.elim

theorem sameBits_of_sameNow {kt : TypeId} {kind : TypeDesc} (hk : keyKind P kt = some kind) {k old : Value} (h : Instr.sameNow kind k old = some true) : Instr.sameBits 10000 old k = true := by
  obtain ⟨_, hkk⟩ := keyKind_some hk
  rcases hkk with ⟨k', rfl⟩ | rfl | rfl
  · cases k <;> cases old <;> simp only [Instr.sameNow, reduceCtorEq] at h
    split at h
    · rename_i e; subst e
      simp only [Option.some.injEq, beq_iff_eq] at h
      subst h
      simp [Instr.sameBits]
    · cases h
  · cases k <;> cases old <;> simp only [Instr.sameNow, reduceCtorEq, Option.some.injEq] at h
    have := bytes_eq h
    subst this
    simpa [Instr.sameBits] using h
  · cases k <;> cases old <;> simp only [Instr.sameNow, reduceCtorEq, Option.some.injEq, beq_iff_eq] at h
    subst h
    simp [Instr.sameBits]

theorem update_sound {ι : Inj} {m m' : Mem} {w : World} {t : TypeId} {x x' k k' v v' : Value} (hs : Sim P G ι m w) (hx : VRel ι m.gen x x') (hk : VRel ι m.gen k k') (hv : VRel ι m.gen v v')
    (h : aupdate P t x k v m = some m') : ∃ w' ι', (Instr.mapUpdate t x' k' v').run P w = .ok () w' ∧ Ext ι m w ι' m' w' ∧ Sim P G ι' m' w' := by
  unfold aupdate at h
  split at h
  · rename_i kt et r hu
    split at h
    · rename_i kind es clock hkk hg
      split at h
      · rename_i hp
        rw [hk.eq_of_plain hp]
        cases hx with
        | map _ c ib hb hc =>
          obtain ⟨es', h1, h2⟩ := map_of hs hb hg
          have := hc (by unfold Mem.gen; rw [hg]; rfl)
          subst this
          have hlt := (hs.dom r ib hb).2
          have hro : m.ro r = false := by unfold Mem.ro; rw [hg]; rfl
          have hgen : m.gen r = 0 := by unfold Mem.gen; rw [hg]; rfl
          -- the block replaced
          have put : ∀ (es2 : List MapEntry) (es2' : Array MapEntry) (c2 : Nat), (∀ ι' g', Le ι m.gen ι' g' → EsRel ι' g' es2 es2'.toList) →
              ∃ ι', Ext ι m w ι' (m.put r (.map es2 c2)) { w with heap := w.heap.setIfInBounds ib.blk (.map es2' c2) } ∧ Sim P G ι' (m.put r (.map es2 c2)) { w with heap := w.heap.setIfInBounds ib.blk (.map es2' c2) } :=
            fun es2 es2' c2 hes => by
              obtain ⟨ι', a, b, _⟩ := upd_core (x := .map es2 c2) (ib' := ib) (w' := { w with heap := w.heap.setIfInBounds ib.blk (.map es2' c2) }) (obj := .map es2' c2) hs hb hro rfl
                ⟨by rw [hgen]; exact Nat.zero_le _, fun _ => rfl⟩ (.inl rfl) (by simp [hlt]) (fun c _ hne => by simp only [Array.getElem?_setIfInBounds]; rw [if_neg (fun e => hne e.symm)]) (by simp) rfl rfl rfl
                (fun ι' g' hle => ⟨rfl, hes ι' g' hle⟩)
              exact ⟨ι', a, b⟩
          cases hfn : Instr.findNow kind k es 0 with
          | none => rw [hfn] at h; cases h
          | some res =>
            rw [hfn] at h
            rcases findNow_rel kind k 0 h2 hfn with ⟨rfl, h3⟩ | ⟨i, u, u', rfl, h3, _, _, e, e', h5, h6, h7, h8⟩
            · cases h
              obtain ⟨ι', a, b⟩ := put (es ++ [{ key := k, val := v, born := clock }]) (es'.push { key := k, val := v', born := clock }) (clock + 1) (fun ι' g' hle => by
                rw [Array.toList_push]; exact EsRel.push (e := { key := k, val := v, born := clock }) (e' := { key := k, val := v', born := clock }) ⟨rfl, rfl, hp, hv.mono hle⟩ (h2.mono hle))
              refine ⟨_, ι', ?_, a, b⟩
              simp only [Instr.mapUpdate, Sem.run_bind, run_underlying hu, Result.andThen_ok, getObj, Sem.run, h1, run_checkKey hkk, run_findKey hkk h3, setObj]
            · cases h
              obtain ⟨ι', a, b⟩ := put (es.modify i fun e => { e with key := k, val := v }) (es'.modify i fun e => { e with key := k, val := v' }) clock (fun ι' g' hle => by
                rw [Array.toList_modify]; exact EsRel.modify (f := fun e => { e with key := k, val := v }) (f' := fun e => { e with key := k, val := v' }) (fun e e' he => ⟨rfl, he.2.1, hp, hv.mono hle⟩) i (h2.mono hle))
              refine ⟨_, ι', ?_, a, b⟩
              have hkey : ((es'[i]?).map (·.key)).getD k = e.key := by
                rw [Nat.sub_zero] at h6
                have : es'[i]? = some e' := by rw [← h6]; simp
                rw [this]; simp [h8.1]
              have hstay : ∀ w, (Instr.keyThatStays e.key k).run P w = .ok k w := fun w => by
                unfold Instr.keyThatStays
                rw [if_pos (sameBits_of_sameNow hkk h7)]
                rfl
              simp only [Instr.mapUpdate, Sem.run_bind, run_underlying hu, Result.andThen_ok, getObj, Sem.run, h1, run_checkKey hkk, run_findKey hkk h3, setObj, hkey, hstay]
      · cases h
    · cases h
  · cases h

end Go.Am
