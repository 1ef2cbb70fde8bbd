/-
  The abstract machine: copy, len, make, maps, slicing: sound as operations. No condition. Nothing of one program stands here.
-/
import Derived.Test.YtmfnchgkffhpfaaDoorAmA
import Derived.Laws.IdiomStrings
import Derived.RangeFuncFrom
import Derived.RangeFuncCalls
import Derived.LoopNIn
import Derived.TacticsIn
set_option linter.unusedSimpArgs false
set_option linter.unusedVariables false
namespace Go.Am
variable {P:Program} {G:List Nat}
theorem len_sound {ι:Inj} {m:Mem} {w:World} {aT:Array TypeId} {as as':Array Value} {v:Value} (ty:TypeId) (hs:Sim P G ι m w) (ha:ARels ι m.gen as as')
 (h:alen P aT as m=some v):(Builtin.len_ aT ty as').run P w=.ok v w∧VRel ι m.gen v v:=by
 unfold alen at h
 split at h
 ·rename_i t x q0 q1
  obtain ⟨x',h1,h2⟩:=ha 0 x q1
  split at h
  ·rename_i s hu
   cases h;cases h2
   exact ⟨by simp [Builtin.len_,q0,h1,run_underlying hu,goInt],.int _ _⟩
  ·rename_i n e x0 hu
   cases h
   exact ⟨by simp [Builtin.len_,q0,h1,run_underlying hu,goInt],.int _ _⟩
  ·rename_i e b n g hu
   cases h
   cases h2<;>exact ⟨by simp [Builtin.len_,q0,h1,run_underlying hu,goInt],.int _ _⟩
  ·rename_i k e hu
   cases h;cases h2
   exact ⟨by simp [Builtin.len_,q0,h1,run_underlying hu,goInt],.int _ _⟩
  ·rename_i k e r hu
   split at h
   ·rename_i es c hg
    cases h
    cases h2 with
    |map _ c' ib hb hc =>
     obtain ⟨es',h3,h4⟩:=map_of hs hb hg
     have hlen:∀ {es es':List MapEntry},EsRel ι m.gen es es'→es.length=es'.length:=fun {es es'}=>by
      induction es generalizing es' with
      |nil=>intro h;cases es'<;>first|rfl|exact h.elim
      |cons e es ih=>intro h;cases es' with
                     |nil=>exact h.elim
                     |cons e' es'=>simp [ih h.2]
     have hl:=hlen h4
     have hgen:m.gen r=0:=by unfold Mem.gen;rw [hg];rfl
     have:=hc hgen
     subst this
     refine ⟨?_,.int _ _⟩
     simp only [Builtin.len_,q0,h1,Sem.run_bind,run_underlying hu,Result.andThen_ok,getObj,Sem.run,h3,goInt]
     rw [hl];rfl
   ·cases h
  ·cases h
 ·cases h
theorem len_quiet {ι:Inj} {g:Nat→Nat} {m:Mem} {aT:Array TypeId} {as as':Array Value} {v:Value} (ty:TypeId) (hq:lenQuiet P aT=true) (ha:ARels ι g as as')
 (h:alen P aT as m=some v):(∀ w,(Builtin.len_ aT ty as').run P w=.ok v w)∧VRel ι g v v:=by
 unfold lenQuiet at hq
 unfold alen at h
 split at h
 ·rename_i t x q0 q1
  rw [q0] at hq
  simp only at hq
  obtain ⟨x',h1,h2⟩:=ha 0 x q1
  split at h
  ·rename_i s hu
   cases h;cases h2
   exact ⟨fun w=>by simp [Builtin.len_,q0,h1,run_underlying hu,goInt],.int _ _⟩
  ·rename_i n e x0 hu
   cases h
   exact ⟨fun w=>by simp [Builtin.len_,q0,h1,run_underlying hu,goInt],.int _ _⟩
  ·rename_i e b n g' hu
   cases h
   cases h2<;>exact ⟨fun w=>by simp [Builtin.len_,q0,h1,run_underlying hu,goInt],.int _ _⟩
  ·rename_i k e hu
   rw [hu] at hq;cases hq
  ·rename_i k e r hu
   rw [hu] at hq;cases hq
  ·cases h
 ·cases h
theorem cap_sound {ι:Inj} {m:Mem} {w:World} {aT:Array TypeId} {as as':Array Value} {v:Value} (ty:TypeId) (ha:ARels ι m.gen as as')
 (h:acap P aT as=some v):(Builtin.cap_ aT ty as').run P w=.ok v w∧VRel ι m.gen v v:=by
 unfold acap at h
 split at h
 ·rename_i t q0
  split at h
  ·rename_i e hu
   split at h
   ·rename_i q
    obtain ⟨x',h1,h2⟩:=ha 0 _ q
    cases h;cases h2
    exact ⟨by simp [Builtin.cap_,q0,h1,run_underlying hu,goInt],.int _ _⟩
   ·rename_i b o s q
    obtain ⟨x',h1,h2⟩:=ha 0 _ q
    cases h;cases h2
    exact ⟨by simp [Builtin.cap_,q0,h1,run_underlying hu,goInt],.int _ _⟩
   ·cases h
  ·cases h
 ·cases h
theorem firstCells_zero {ι:Inj} {g:Nat→Nat} {s s':Value} {sLen:Nat} (hv:VRel ι g s s') (h:lenOf s=some sLen) (size:Nat) (w:World) :
 (Builtin.firstCells size 0 s').run P w=.ok #[] w:=by
 cases hv<;>simp only [lenOf,reduceCtorEq] at h
 ·simp only [Builtin.firstCells,Sem.run_pure]
  congr 1
  apply Array.ext'
  rw [Array.toList_map,Lib.extract_data]
  simp
 ·rfl
 ·simp only [Builtin.firstCells,Nat.zero_mul,loadCells,loadCellsFrom];rfl
 ·simp only [Builtin.firstCells,Nat.zero_mul,loadCells,loadCellsFrom];rfl
theorem slice_addr {ι:Inj} {g:Nat→Nat} {b off len gen:Nat} {a':Addr} {cap:Nat} (h:SRel ι g b off len gen a' cap) (hlen:gen=g b→0<len) (n:Nat) :
 ARel ι g ⟨b,off+n,some gen⟩ (a'.add n):=by
 obtain ⟨ib,hb,hle,h3,hcur⟩:=h
 refine ⟨ib,hb,by simpa [agen] using hle,fun e=>?_⟩
 have e':gen=g b:=by simpa [agen] using e
 obtain ⟨h1,h2,h4⟩:=hcur e'
 have h5:a'.off=off+ib.sh:=by
  rcases h4 with h|h
  ·have:=hlen e';omega
  ·exact h.1
 have ha':a'=⟨ib.blk,off+ib.sh,none⟩:=by
  obtain ⟨x,y,z⟩:=a'
  simp at h1 h2 h5
  simp [h1,h2,h5]
 rw [ha',addr_add]
 simp only [Addr.mk.injEq,true_and,and_true]
 omega
theorem copy_sound {ι:Inj} {m m':Mem} {w:World} {aT:Array TypeId} {as as':Array Value} {v:Value} (ty:TypeId) (hs:Sim P G ι m w) (ha:ARels ι m.gen as as')
 (h:acopy P aT as m=some (v,m')):∃ v' w',(Builtin.copy_ aT ty as').run P w=.ok v' w'∧Post P G ι m w v m' v' w':=by
 unfold acopy at h
 split at h
 ·rename_i dT base dLen g src q0 q1 q2
  obtain ⟨d',h1,h2⟩:=ha 0 _ q1
  obtain ⟨s',h3,h4⟩:=ha 1 _ q2
  split at h
  ·rename_i e sLen hu hsl
   split at h
   ·rename_i i hi
    have hd:∃ base' cap',d'=.slice base' dLen cap':=by cases h2<;>exact ⟨_,_,rfl⟩
    obtain ⟨base',cap',rfl⟩:=hd
    simp only at h
    split at h
    ·rename_i hn
     cases h
     refine ⟨.int .i64 0,w,?_,Post.same hs (.int _ _)⟩
     simp only [Builtin.copy_,q0,h1,h3,Sem.run_bind,run_underlying hu,Result.andThen_ok,lenOf_sound h4 hsl w,run_sizeOf' hi,hn,firstCells_zero h4 hsl]
     cases base'<;>rfl
    ·rename_i hn
     split at h
     ·rename_i b off l hl
      rw [Option.map_eq_some_iff] at h
      obtain ⟨m1,hm1,he⟩:=h
      cases he
      cases h2 with
      |sl _ _ _ _ a' _ hsr =>
       obtain ⟨l',hr,hrel⟩:=sliceCells_sound hs h4 hl
       have hpos:0<dLen:=by
        rcases Nat.eq_zero_or_pos dLen with h|h
        ·subst h;exact absurd (Nat.min_zero sLen) hn
        ·exact h
       have har:=slice_addr hsr (fun _=>hpos) 0
       rw [Addr.add_zero'] at har
       obtain ⟨w',ι',hrun,hext,hsim⟩:=storeRow_sound hs har hrel hm1
       refine ⟨_,w',?_,ι',hext,hsim,.int _ _⟩
       simp only [Builtin.copy_,q0,h1,h3,Sem.run_bind,run_underlying hu,Result.andThen_ok,lenOf_sound h4 hsl w,run_sizeOf' hi,hr,hrun,Sem.run_pure,goInt]
     ·cases h
   ·cases h
  ·cases h
 ·cases h
def ORel (ι:Inj) (g:Nat→Nat) (o o':Option Value):Prop:=(o=none∧o'=none)∨∃ v v',o=some v∧o'=some v'∧VRel ι g v v'
theorem bnd_same {ι:Inj} {g:Nat→Nat} {d n:Nat} {o o':Option Value} (ho:ORel ι g o o') (h:bnd d o=some n):o'=o:=by
 rcases ho with ⟨rfl,rfl⟩|⟨v,v',rfl,rfl,hv⟩
 ·rfl
 ·unfold bnd at h
  split at h
  ·rename_i e;cases e
  ·rename_i e;cases e;cases hv;rfl
  ·cases h
theorem bound_run {d n y:Nat} {v:Value} {c:BoundsCode} {w:World} (h:bnd d (some v)=some n) (hy:n≤y):(Instr.sliceBound v y c).run P w=.ok n w:=by
 unfold bnd at h
 split at h
 ·rename_i e;cases e
 ·rename_i k i e
  cases e
  split at h
  ·rename_i hi
   cases h
   have h2:i≤(y:Int):=by omega
   simp [Instr.sliceBound,asIntOf,hi,h2]
  ·cases h
 ·cases h
theorem bounds_two {lo hi:Option Value} {len cap l h:Nat} {w:World} (hl:bnd 0 lo=some l) (hh:bnd len hi=some h) (h1:l≤h) (h2:h≤cap) :
 (Instr.sliceBounds true len cap lo hi none).run P w=.ok (l,h,cap) w:=by
 unfold Instr.sliceBounds
 cases hi with
 |none =>
  cases hh
  cases lo with
  |none=>cases hl;simp
  |some v=>simp [bound_run hl h1]
 |some u =>
  cases lo with
  |none=>cases hl;simp [bound_run hh h2]
  |some v=>simp [bound_run hh h2,bound_run hl h1]
theorem bounds_three {lo:Option Value} {u x:Value} {len cap l h k d d':Nat} {w:World} (hl:bnd 0 lo=some l) (hh:bnd d (some u)=some h) (hk:bnd d' (some x)=some k) (h1:l≤h) (h2:h≤k) (h3:k≤cap) :
 (Instr.sliceBounds true len cap lo (some u) (some x)).run P w=.ok (l,h,k) w:=by
 unfold Instr.sliceBounds
 cases lo with
 |none=>cases hl;simp [bound_run hh h2,bound_run hk h3]
 |some v=>simp [bound_run hh h2,bound_run hk h3,bound_run hl h1]
theorem sliceAt_slice {t e:TypeId} {x:Value} {lo hi mx:Option Value} {w:World} (hu:P.underlying t=some (.slice e)) :
 (Instr.sliceAt t x lo hi mx).run P w=(Instr.slice t x lo hi mx).run P w:=by
 simp [Instr.sliceAt,run_underlying hu]
theorem dryV_some {s:Sem Value} {v:Value} (h:dryV P s=some v):dry P s=some v∧plain v=true:=by
 unfold dryV at h
 split at h
 ·split at h
  ·cases h;exact ⟨by assumption,by assumption⟩
  ·cases h
 ·cases h
theorem slice_sound {ι:Inj} {m:Mem} {w:World} {t:TypeId} {x x':Value} {lo lo' hi hi' mx mx':Option Value} {v:Value} (hs:Sim P G ι m w) (hx:VRel ι m.gen x x')
 (hlo:ORel ι m.gen lo lo') (hhi:ORel ι m.gen hi hi') (hmx:ORel ι m.gen mx mx') (h:aslice P t x lo hi mx m=some v) :
 ∃ v',(Instr.sliceAt t x' lo' hi' mx').run P w=.ok v' w∧VRel ι m.gen v v':=by
 unfold aslice at h
 split at h
 ·cases h
 rename_i hform
 split at h
 ·
  rename_i s hu
  split at h
  ·rename_i hp
   simp only [Bool.and_eq_true] at hp
   obtain ⟨⟨p1,p2⟩,p3⟩:=hp
   have eq:∀ {o o':Option Value},ORel ι m.gen o o'→(Option.all plain o=true)→o'=o:=fun {o o'} ho hp=>by
    rcases ho with ⟨rfl,rfl⟩|⟨v,v',rfl,rfl,hv⟩
    ·rfl
    ·rw [hv.eq_of_plain (by simpa using hp)]
   have e3:mx'=mx:=by
    rcases hmx with ⟨rfl,rfl⟩|⟨v,v',rfl,rfl,hv⟩
    ·rfl
    ·simp at p3
   rw [eq hlo p1,eq hhi p2,e3]
   cases hx
   obtain ⟨h1,h2⟩:=dryV_some h
   exact ⟨v,dry_run h1 w,VRel.plain h2⟩
  ·cases h
 ·
  rename_i e hu
  split at h
  ·rename_i i hi0 b1 b2 b3
   cases h
   cases hx
   rw [bnd_same hlo b1,bnd_same hhi b2,bnd_same hmx b3,sliceAt_slice hu]
   refine ⟨.slice none 0 0,?_,.slN⟩
   cases mx with
   |none =>
    simp only [Instr.slice,Sem.run_bind,run_underlying hu,Result.andThen_ok,bounds_two b1 b2 (Nat.le_refl _) (Nat.le_refl _),run_sizeOf' hi0]
    rfl
   |some k=>cases hi with
    |none=>simp at hform
    |some u =>
     simp only [Instr.slice,Sem.run_bind,run_underlying hu,Result.andThen_ok,bounds_three (cap:=0) (len:=0) b1 b2 b3 (Nat.le_refl _) (Nat.le_refl _) (Nat.le_refl _),run_sizeOf' hi0]
     rfl
  ·cases h
 ·
  rename_i e b off g' hu
  split at h
  ·rename_i i hi0 b1 b2 b3
   cases h
   cases hx with
   |slE _ _ _ a' =>
    rw [bnd_same hlo b1,bnd_same hhi b2,bnd_same hmx b3,sliceAt_slice hu]
    refine ⟨.slice (some a') 0 0,?_,.slE _ _ _ _⟩
    cases mx with
    |none =>
     simp only [Instr.slice,Sem.run_bind,run_underlying hu,Result.andThen_ok,bounds_two b1 b2 (Nat.le_refl _) (Nat.le_refl _),run_sizeOf' hi0]
     rfl
    |some k=>cases hi with
     |none=>simp at hform
     |some u =>
      simp only [Instr.slice,Sem.run_bind,run_underlying hu,Result.andThen_ok,bounds_three (cap:=0) (len:=0) b1 b2 b3 (Nat.le_refl _) (Nat.le_refl _) (Nat.le_refl _),run_sizeOf' hi0]
      rfl
  ·cases h
 ·
  rename_i e b off len g hu
  cases hx with
  |sl _ _ _ _ a' cap hsr =>
   split at h
   ·
    rename_i i l hh hi0 b1 b2
    have b3:mx'=none:=by
     rcases hmx with ⟨_,rfl⟩|⟨v,v',h,_,_⟩
     ·rfl
     ·cases h
    split at h
    ·rename_i vs e' g2 ro hg
     split at h
     ·rename_i hc
      obtain ⟨⟨c1,c2,rfl⟩,_⟩:=hc
      cases h
      obtain ⟨ib,hb,hle,q3,hcur⟩:=hsr
      rw [bnd_same hlo b1,bnd_same hhi b2,b3,sliceAt_slice hu]
      refine ⟨.slice (some (if cap=l then a' else a'.add (l*i.size))) (hh-l) (cap-l),?_,.sl _ _ _ _ _ _ ⟨ib,hb,hle,by omega,fun hcg=>?_⟩⟩
      ·simp only [Instr.slice,Sem.run_bind,run_underlying hu,Result.andThen_ok,bounds_two b1 b2 c1 (by omega:hh≤cap),run_sizeOf' hi0,Sem.run_pure]
       congr 2
       split<;>rfl
      ·obtain ⟨q1,q2,q4⟩:=hcur hcg
       obtain ⟨cs,fr,e0,hrow,hlim,hesz,_,_⟩:=cells_of hs hb hg
       have hesz':ib.esz=i.size:=by rw [hesz,cellsOf_info hi0]
       by_cases hcl:cap=l
       ·rw [if_pos hcl]
        exact ⟨q1,q2,.inl (by omega)⟩
       ·rw [if_neg hcl]
        have hcap:cap≠0:=by omega
        obtain ⟨q5,q6⟩:a'.off=off+ib.sh∧a'.off+cap*ib.esz≤ib.lim:=by
         rcases q4 with h|h
         ·exact absurd h hcap
         ·exact h
        have ha':a'=⟨ib.blk,off+ib.sh,none⟩:=by
         obtain ⟨x,y,z⟩:=a'
         simp at q1 q2 q5
         simp [q1,q2,q5]
        have hmul:l*ib.esz+(cap-l)*ib.esz=cap*ib.esz:=by rw [← Nat.add_mul];congr 1;omega
        rw [ha',addr_add]
        rw [q5] at q6
        refine ⟨rfl,rfl,.inr ⟨by simp only;omega,?_⟩⟩
        simp only
        rw [← hesz']
        omega
     ·cases h
    ·cases h
   ·
    rename_i i l hh k0 hi0 b1 b2
    split at h
    ·rename_i k b3
     split at h
     ·rename_i hc
      obtain ⟨rfl,rfl,c3⟩:=hc
      cases h
      obtain ⟨ib,hb,hle,q3,hcur⟩:=hsr
      cases hi with
      |none=>simp at hform
      |some u =>
       rw [bnd_same hlo b1,bnd_same hhi b2,bnd_same hmx b3,sliceAt_slice hu]
       refine ⟨.slice (some a') 0 0,?_,.slE _ _ _ _⟩
       simp only [Instr.slice,Sem.run_bind,run_underlying hu,Result.andThen_ok,bounds_three (len:=len) b1 b2 b3 (Nat.le_refl _) (Nat.le_refl _) (by omega:l≤cap),run_sizeOf' hi0,Sem.run_pure,if_true,Nat.sub_self]
     ·cases h
    ·cases h
   ·cases h
 ·cases h
end Go.Am
set_option linter.unusedSimpArgs false
set_option linter.unusedVariables false
namespace Go.Am
variable {P:Program} {G:List Nat}
theorem bytes_eq {a b:ByteArray} (h:(a==b)=true):a=b:=by
 obtain ⟨x⟩:=a
 obtain ⟨y⟩:=b
 have e:x=y:=by simpa using (show (x==y)=true from h)
 rw [e]
theorem zeroCellsOf_some {e:TypeId} {z:List Value} (h:zeroCellsOf P e=some z):∃ i zv,P.info? e=some i∧i.zero=some zv∧z=zv.cells.toList∧z.all plainCell=true:=by
 unfold zeroCellsOf zeroOf at h
 split at h
 ·rename_i zv hz
  rw [Option.bind_eq_some_iff] at hz
  obtain ⟨i,hi,hz⟩:=hz
  split at h
  ·cases h;exact ⟨i,zv,hi,hz,rfl,by assumption⟩
  ·cases h
 ·cases h
theorem run_zero {e:TypeId} {i:TypeInfo} {zv:Value} (hi:P.info? e=some i) (hz:i.zero=some zv) (w:World):(zeroValue e).run P w=.ok zv w:=by
 simp [zeroValue,run_typeInfo' hi,hz]
theorem findNow_rel {ι:Inj} {g:Nat→Nat} (kind:TypeDesc) (k:Value):∀ {es es':List MapEntry} (n:Nat) {r:Option (Nat×Value)},EsRel ι g es es'→Instr.findNow kind k es n=some r →
 (r=none∧Instr.findNow kind k es' n=some none)∨∃ i v v',r=some (i,v)∧Instr.findNow kind k es' n=some (some (i,v'))∧VRel ι g v v'∧n≤i ∧
  ∃ e e',es[i-n]?=some e∧es'[i-n]?=some e'∧Instr.sameNow kind k e.key=some true∧ERel ι g e e'
 |[],[],n,r,_,hf=>by
  simp only [Instr.findNow,Option.some.injEq] at hf
  exact .inl ⟨hf.symm,rfl⟩
 |e::es,e'::es',n,r,⟨he,hes⟩,hf=>by
  simp only [Instr.findNow] at hf ⊢
  rw [he.1]
  cases hsn:Instr.sameNow kind k e.key with
  |none=>rw [hsn] at hf;cases hf
  |some b =>
   rw [hsn] at hf
   cases b with
   |true =>
    simp only [Option.some.injEq] at hf
    subst hf
    refine .inr ⟨n,e.val,e'.val,rfl,rfl,he.2.2.2,Nat.le_refl _,e,e',?_,?_,hsn,he⟩
    ·simp
    ·simp
   |false =>
    rcases findNow_rel kind k (n+1) hes hf with ⟨h1,h2⟩|⟨i,v,v',h1,h2,h3,h4,f,f',h5,h6,h7⟩
    ·exact .inl ⟨h1,h2⟩
    ·refine .inr ⟨i,v,v',h1,h2,h3,by omega,f,f',?_,?_,h7⟩
     ·have:i-n=(i-(n+1))+1:=by omega
      rw [this];exact h5
     ·have:i-n=(i-(n+1))+1:=by omega
      rw [this];exact h6
 |[],_::_,_,_,h,_=>h.elim
 |_::_,[],_,_,h,_=>h.elim
theorem keyKind_some {kt:TypeId} {kind:TypeDesc} (h:keyKind P kt=some kind):P.underlying kt=some kind∧((∃ k,kind=.int k)∨kind=.string∨kind=.bool):=by
 unfold keyKind at h
 split at h<;>first
  |(rename_i k hu;cases h;exact ⟨hu,.inl ⟨_,rfl⟩⟩)
  |(rename_i hu;cases h;exact ⟨hu,.inr (.inl rfl)⟩)
  |(rename_i hu;cases h;exact ⟨hu,.inr (.inr rfl)⟩)
  |cases h
theorem run_checkKey {kt:TypeId} {kind:TypeDesc} (h:keyKind P kt=some kind) (empty:Bool) (k:Value) (w:World):(Instr.checkKey empty 10000 kt k).run P w=.ok () w:=by
 obtain ⟨hu,hk⟩:=keyKind_some h
 show (Instr.checkKey empty (9999+1) kt k).run P w=_
 unfold Instr.checkKey
 simp only [Sem.run_bind,run_underlying hu,Result.andThen_ok]
 rcases hk with ⟨k',rfl⟩|rfl|rfl<;>rfl
theorem run_findKey {kt:TypeId} {kind:TypeDesc} (h:keyKind P kt=some kind) {k:Value} {es:List MapEntry} {r:Option (Nat×Value)} (hf:Instr.findNow kind k es 0=some r) (w:World) :
 (Instr.findKey kt k es).run P w=.ok r w:=by
 obtain ⟨hu,_⟩:=keyKind_some h
 simp [Instr.findKey,run_underlying hu,hf]
theorem lookup_sound {ι:Inj} {m:Mem} {w:World} {t:TypeId} {x x' k k':Value} {ok:Bool} {v:Value} (hs:Sim P G ι m w) (hx:VRel ι m.gen x x') (hk:VRel ι m.gen k k')
 (h:alookup P t x k ok m=some v):∃ v',(Instr.lookup t x' k' ok).run P w=.ok v' w∧VRel ι m.gen v v':=by
 have pairR:∀ {a a':Value} (b:Bool),VRel ι m.gen a a'→VRel ι m.gen (.tuple #[a,.bool b]) (.tuple #[a',.bool b]):=fun b h=>by
  have:=LRel.cons h (LRel.cons (.bool b) LRel.nil)
  exact .tuple _ _ this.1 this.2
 unfold alookup at h
 split at h
 ·rename_i kt et hu
  split at h
  ·rename_i kind z hkk hz
   split at h
   ·rename_i hp
    simp only [Bool.and_eq_true] at hp
    rw [hk.eq_of_plain hp.2]
    have hzr:∀ w,(zeroValue et).run P w=.ok z w:=fun w=>by
     unfold zeroOf at hz
     rw [Option.bind_eq_some_iff] at hz
     obtain ⟨i,hi,hz⟩:=hz
     exact run_zero hi hz w
    have main:∀ (es:List MapEntry) (es':Array MapEntry),EsRel ι m.gen es es'.toList →
     (match Instr.findNow kind k es 0 with
      |some (some (_,v))=>some (if ok then .tuple #[v,.bool true] else v)
      |some none=>some (if ok then .tuple #[z,.bool false] else z)
      |none=>none)=some v →
     (∀ r,(Instr.findKey kt k es'.toList).run P w=.ok r w→(Instr.lookup t x' k ok).run P w =
      .ok (match r with|some (_,v)=>(if ok then .tuple #[v,.bool true] else v)|none=>(if ok then .tuple #[z,.bool false] else z)) w) →
     ∃ v',(Instr.lookup t x' k ok).run P w=.ok v' w∧VRel ι m.gen v v':=fun es es' her hf hrun=>by
     cases hfn:Instr.findNow kind k es 0 with
     |none=>rw [hfn] at hf;cases hf
     |some r =>
      rw [hfn] at hf
      rcases findNow_rel kind k 0 her hfn with ⟨rfl,h2⟩|⟨i,u,u',rfl,h2,h3,_⟩
      ·simp only [Option.some.injEq] at hf
       subst hf
       refine ⟨if ok then .tuple #[z,.bool false] else z,?_,?_⟩
       ·exact hrun _ (run_findKey hkk h2 w)
       ·cases ok
        ·exact VRel.plain hp.1
        ·exact pairR false (VRel.plain hp.1)
      ·simp only [Option.some.injEq] at hf
       subst hf
       refine ⟨if ok then .tuple #[u',.bool true] else u',?_,?_⟩
       ·exact hrun _ (run_findKey hkk h2 w)
       ·cases ok
        ·exact h3
        ·exact pairR true h3
    split at h
    ·rename_i es hes
     split at hes
     ·cases hes;cases hx
      exact main [] #[] trivial h fun r hr=>by
       simp only [Instr.lookup,Sem.run_bind,run_underlying hu,Result.andThen_ok,run_checkKey hkk,hr,Sem.run_pure]
       cases r<;>simp [hzr]
     ·rename_i r
      cases hx with
      |map _ c ib hb hc =>
       split at hes
       ·rename_i es2 c2 hg
        cases hes
        obtain ⟨es',h1,h2⟩:=map_of hs hb hg
        have:=hc (by unfold Mem.gen;rw [hg];rfl)
        subst this
        exact main es es' h2 h fun r hr=>by
         simp only [Instr.lookup,Sem.run_bind,run_underlying hu,Result.andThen_ok,run_checkKey hkk,hr,Sem.run_pure,getObj,Sem.run,h1]
         cases r<;>simp [hzr]
       ·cases hes
     ·cases hes
    ·cases h
   ·cases h
  ·cases h
 ·cases h
theorem EsRel.modify {ι:Inj} {g:Nat→Nat} {f f':MapEntry→MapEntry} (hf:∀ e e',ERel ι g e e'→ERel ι g (f e) (f' e')) :
 ∀ {es es':List MapEntry} (i:Nat),EsRel ι g es es'→EsRel ι g (es.modify i f) (es'.modify i f')
 |[],[],i,_=>by cases i<;>trivial
 |e::es,e'::es',0,⟨h,k⟩=>⟨hf _ _ h,k⟩
 |e::es,e'::es',i+1,⟨h,k⟩=>⟨h,EsRel.modify hf i k⟩
 |[],_::_,_,h=>h.elim
 |_::_,[],_,h=>h.elim
theorem EsRel.push {ι:Inj} {g:Nat→Nat} {e e':MapEntry} (he:ERel ι g e e'):∀ {es es':List MapEntry},EsRel ι g es es'→EsRel ι g (es++[e]) (es'++[e'])
 |[],[],_=>⟨he,trivial⟩
 |_::_,_::_,⟨h,k⟩=>⟨h,EsRel.push he k⟩
 |[],_::_,h=>h.elim
 |_::_,[],h=>h.elim
theorem sameBits_of_sameNow {kt:TypeId} {kind:TypeDesc} (hk:keyKind P kt=some kind) {k old:Value} (h:Instr.sameNow kind k old=some true):Instr.sameBits 10000 old k=true:=by
 obtain ⟨_,hkk⟩:=keyKind_some hk
 rcases hkk with ⟨k',rfl⟩|rfl|rfl
 ·cases k<;>cases old<;>simp only [Instr.sameNow,reduceCtorEq] at h
  split at h
  ·rename_i e;subst e
   simp only [Option.some.injEq,beq_iff_eq] at h
   subst h
   simp [Instr.sameBits]
  ·cases h
 ·cases k<;>cases old<;>simp only [Instr.sameNow,reduceCtorEq,Option.some.injEq] at h
  have:=bytes_eq h
  subst this
  simpa [Instr.sameBits] using h
 ·cases k<;>cases old<;>simp only [Instr.sameNow,reduceCtorEq,Option.some.injEq,beq_iff_eq] at h
  subst h
  simp [Instr.sameBits]
theorem update_sound {ι:Inj} {m m':Mem} {w:World} {t:TypeId} {x x' k k' v v':Value} (hs:Sim P G ι m w) (hx:VRel ι m.gen x x') (hk:VRel ι m.gen k k') (hv:VRel ι m.gen v v')
 (h:aupdate P t x k v m=some m'):∃ w' ι',(Instr.mapUpdate t x' k' v').run P w=.ok () w'∧Ext ι m w ι' m' w'∧Sim P G ι' m' w':=by
 unfold aupdate at h
 split at h
 ·rename_i kt et r hu
  split at h
  ·rename_i kind es clock hkk hg
   split at h
   ·rename_i hp
    rw [hk.eq_of_plain hp]
    cases hx with
    |map _ c ib hb hc =>
     obtain ⟨es',h1,h2⟩:=map_of hs hb hg
     have:=hc (by unfold Mem.gen;rw [hg];rfl)
     subst this
     have hlt:=(hs.dom r ib hb).2
     have hro:m.ro r=false:=by unfold Mem.ro;rw [hg];rfl
     have hgen:m.gen r=0:=by unfold Mem.gen;rw [hg];rfl
     have put:∀ (es2:List MapEntry) (es2':Array MapEntry) (c2:Nat),(∀ ι' g',Le ι m.gen ι' g'→EsRel ι' g' es2 es2'.toList) →
      ∃ ι',Ext ι m w ι' (m.put r (.map es2 c2)) { w with heap:=w.heap.setIfInBounds ib.blk (.map es2' c2) }∧Sim P G ι' (m.put r (.map es2 c2)) { w with heap:=w.heap.setIfInBounds ib.blk (.map es2' c2) } :=
      fun es2 es2' c2 hes=>by
       obtain ⟨ι',a,b,_⟩:=upd_core (x:=.map es2 c2) (ib':=ib) (w':={ w with heap:=w.heap.setIfInBounds ib.blk (.map es2' c2) }) (obj:=.map es2' c2) hs hb hro rfl
        ⟨by rw [hgen];exact Nat.zero_le _,fun _=>rfl⟩ (.inl rfl) (by simp [hlt]) (fun c _ hne=>by simp only [Array.getElem?_setIfInBounds];rw [if_neg (fun e=>hne e.symm)]) (by simp) rfl rfl rfl
        (fun ι' g' hle=>⟨rfl,hes ι' g' hle⟩)
       exact ⟨ι',a,b⟩
     cases hfn:Instr.findNow kind k es 0 with
     |none=>rw [hfn] at h;cases h
     |some res =>
      rw [hfn] at h
      rcases findNow_rel kind k 0 h2 hfn with ⟨rfl,h3⟩|⟨i,u,u',rfl,h3,_,_,e,e',h5,h6,h7,h8⟩
      ·cases h
       obtain ⟨ι',a,b⟩:=put (es++[{ key:=k,val:=v,born:=clock }]) (es'.push { key:=k,val:=v',born:=clock }) (clock+1) (fun ι' g' hle=>by
        rw [Array.toList_push];exact EsRel.push (e:={ key:=k,val:=v,born:=clock }) (e':={ key:=k,val:=v',born:=clock }) ⟨rfl,rfl,hp,hv.mono hle⟩ (h2.mono hle))
       refine ⟨_,ι',?_,a,b⟩
       simp only [Instr.mapUpdate,Sem.run_bind,run_underlying hu,Result.andThen_ok,getObj,Sem.run,h1,run_checkKey hkk,run_findKey hkk h3,setObj]
      ·cases h
       obtain ⟨ι',a,b⟩:=put (es.modify i fun e=>{ e with key:=k,val:=v }) (es'.modify i fun e=>{ e with key:=k,val:=v' }) clock (fun ι' g' hle=>by
        rw [Array.toList_modify];exact EsRel.modify (f:=fun e=>{ e with key:=k,val:=v }) (f':=fun e=>{ e with key:=k,val:=v' }) (fun e e' he=>⟨rfl,he.2.1,hp,hv.mono hle⟩) i (h2.mono hle))
       refine ⟨_,ι',?_,a,b⟩
       have hkey:((es'[i]?).map (·.key)).getD k=e.key:=by
        rw [Nat.sub_zero] at h6
        have:es'[i]?=some e':=by rw [← h6];simp
        rw [this];simp [h8.1]
       have hstay:∀ w,(Instr.keyThatStays e.key k).run P w=.ok k w:=fun w=>by
        unfold Instr.keyThatStays
        rw [if_pos (sameBits_of_sameNow hkk h7)]
        rfl
       simp only [Instr.mapUpdate,Sem.run_bind,run_underlying hu,Result.andThen_ok,getObj,Sem.run,h1,run_checkKey hkk,run_findKey hkk h3,setObj,hkey,hstay]
   ·cases h
  ·cases h
 ·cases h
end Go.Am
set_option linter.unusedSimpArgs false
set_option linter.unusedVariables false
namespace Go.Am
variable {P:Program} {G:List Nat}
theorem dry_bind' {α β:Type} (x:Sem α) (f:α→Sem β):dry P (x.bind f)=(dry P x).bind fun a=>dry P (f a):=by
 induction x<;>simp_all [Sem.bind,dry]
theorem dry_bind {α β:Type} (x:Sem α) (f:α→Sem β):dry P (x >>= f)=(dry P x).bind fun a=>dry P (f a):=dry_bind' x f
theorem dry_pure {α:Type} (a:α):dry P (pure a:Sem α)=some a:=rfl
theorem dry_stuck {α:Type} (s:String):dry P (stuck s:Sem α)=none:=rfl
theorem dry_unsupported {α:Type} (s:Unsupported):dry P (unsupported s:Sem α)=none:=rfl
theorem dry_underlying (t:TypeId):dry P (underlying t)=P.underlying t:=by
 simp only [underlying,dry_bind,program,dry,Option.bind_some]
 cases P.underlying t<;>rfl
theorem dry_typeInfo (t:TypeId):dry P (typeInfo t)=P.info? t:=by
 simp only [typeInfo,dry_bind,program,dry,Option.bind_some]
 cases P.info? t<;>rfl
theorem dry_sizeOf (t:TypeId):dry P (sizeOf t)=(P.info? t).map (·.size):=by
 simp only [sizeOf,dry_bind,dry_typeInfo]
 cases P.info? t<;>rfl
theorem dry_isAgg (t:TypeId):dry P (isAgg t)=isAggT P t:=by
 simp only [isAgg,dry_bind,dry_underlying,isAggT]
 cases P.underlying t with
 |none=>rfl
 |some d=>cases d<;>rfl
theorem LRel.set {ι:Inj} {g:Nat→Nat} {l l':List Value} (h:LRel ι g l l') {v v':Value} (hv:VRel ι g v v') (i:Nat):LRel ι g (l.set i v) (l'.set i v'):=by
 refine ⟨by simp [h.1],fun j hj=>?_⟩
 rw [List.length_set] at hj
 have:=h.2 j hj
 rw [getD_eq,getD_eq] at this ⊢
 by_cases e:i=j
 ·subst e
  rw [List.getElem?_set_self (by omega),List.getElem?_set_self (by rw [← h.1];omega)]
  exact hv
 ·rw [List.getElem?_set_ne e,List.getElem?_set_ne e]
  exact this
theorem foldl_rel {ι:Inj} {g:Nat→Nat} (off:Nat):∀ {l l':List Value} (k:Nat) {cs cs':Array Value},LRel ι g l l'→LRel ι g cs.toList cs'.toList →
 LRel ι g ((l.zipIdx k).foldl (fun cs (c,j)=>cs.setIfInBounds (off+j) c) cs).toList ((l'.zipIdx k).foldl (fun cs (c,j)=>cs.setIfInBounds (off+j) c) cs').toList
 |[],l',k,cs,cs',h,hc=>by
  have:l'=[]:=List.length_eq_zero_iff.1 h.1.symm
  subst this;exact hc
 |v::l,l',k,cs,cs',h,hc=>by
  obtain ⟨v',l2,rfl,hv,hl⟩:=h.uncons
  simp only [List.zipIdx_cons,List.foldl_cons]
  refine foldl_rel off (k+1) hl ?_
  simp only [Array.toList_setIfInBounds]
  exact hc.set hv _
def PRel (ι:Inj) (g:Nat→Nat):List (Nat×Value)→List (Nat×Value)→Prop
 |[],[]=>True
 |p::ps,p'::ps'=>p'.1=p.1∧VRel ι g p.2 p'.2∧PRel ι g ps ps'
 |_,_=>False
theorem fill_rel {ι:Inj} {g:Nat→Nat} (place:Nat→Option (Nat×Nat)):∀ {ps ps':List (Nat×Value)} {cs cs' out:Array Value},PRel ι g ps ps'→LRel ι g cs.toList cs'.toList →
 Instr.fill place cs ps=some out→∃ out',Instr.fill place cs' ps'=some out'∧LRel ι g out.toList out'.toList
 |[],[],cs,cs',out,_,hc,h=>by
  simp only [Instr.fill,Option.some.injEq] at h ⊢
  subst h
  exact ⟨cs',rfl,hc⟩
 |(i,v)::ps,(i',v')::ps',cs,cs',out,⟨h1,h2,h3⟩,hc,h=>by
  simp only at h1 h2
  subst h1
  simp only [Instr.fill] at h ⊢
  cases hp:place i' with
  |none=>rw [hp] at h;cases h
  |some q =>
   obtain ⟨off,size⟩:=q
   rw [hp] at h
   simp only at h ⊢
   have hcells:=h2.cells
   have e1:v'.cells.size=v.cells.size:=by have:=hcells.1;simpa using this.symm
   have e2:cs'.size=cs.size:=by have:=hc.1;simpa using this.symm
   rw [e1,e2]
   split at h
   ·cases h
   ·rename_i hcond
    rw [if_neg hcond]
    refine fill_rel place h3 ?_ h
    have:=foldl_rel (ι:=ι) (g:=g) off 0 hcells hc
    rw [← Array.foldl_toList,← Array.foldl_toList,Array.toList_zipIdx,Array.toList_zipIdx]
    exact this
 |[],_::_,_,_,_,h,_,_=>h.elim
 |_::_,[],_,_,_,h,_,_=>h.elim
theorem PRel.map {ι:Inj} {g:Nat→Nat} {ρ ρ':Operand→Value}:∀ {ps:List (Nat×Operand)},(∀ x∈ps.map (·.2),VRel ι g (ρ x) (ρ' x)) →
 PRel ι g (ps.map fun (i,x)=>(i,ρ x)) (ps.map fun (i,x)=>(i,ρ' x))
 |[],_=>trivial
 |(i,x)::ps,h=>⟨rfl,h x (by simp),PRel.map fun y hy=>h y (by simp at hy ⊢;exact .inr hy)⟩
theorem build_sound {ι:Inj} {g:Nat→Nat} {t:TypeId} {ps ps':Array (Nat×Value)} {v:Value} (hp:PRel ι g ps.toList ps'.toList) (hz:∀ z,zeroOf P t=some z→z.cells.toList.all plainCell=true)
 (h:dry P (Instr.build t ps)=some v):∃ v',dry P (Instr.build t ps')=some v'∧VRel ι g v v':=by
 unfold Instr.build at h ⊢
 simp only [dry_bind] at h ⊢
 have hzv:dry P (zeroValue t)=zeroOf P t:=by
  simp only [zeroValue,dry_bind,dry_typeInfo,zeroOf]
  cases P.info? t with
  |none=>rfl
  |some i=>simp only [Option.bind_some];cases i.zero<;>rfl
 rw [hzv] at h ⊢
 cases hz0:zeroOf P t with
 |none=>rw [hz0] at h;cases h
 |some z =>
  have hzz:=LRel.plain (ι:=ι) (g:=g) (hz z hz0)
  rw [hz0] at h
  simp only [Option.bind_some,dry_underlying] at h ⊢
  cases hd:P.underlying t with
  |none=>rw [hd] at h;cases h
  |some d =>
   rw [hd] at h
   simp only [Option.bind_some] at h ⊢
   cases d with
   |struct fields =>
    simp only [dry_bind] at h ⊢
    cases hpl:dry P (Array.mapM (fun f=>do let __do_lift ← sizeOf f.type;pure (f.offset,__do_lift)) fields) with
    |none=>rw [hpl] at h;cases h
    |some places =>
     rw [hpl] at h
     simp only [Option.bind_some] at h ⊢
     cases hf:Instr.fill (fun x=>places[x]?) z.cells ps.toList with
     |none=>rw [hf] at h;cases h
     |some out =>
      rw [hf] at h
      obtain ⟨out',ho,hr⟩:=fill_rel _ hp hzz hf
      rw [ho]
      simp only [dry_pure,Option.some.injEq] at h ⊢
      subst h
      exact ⟨_,rfl,.agg out.toList out'.toList hr.1 hr.2⟩
   |array n e =>
    simp only [dry_bind,dry_sizeOf] at h ⊢
    cases hi:P.info? e with
    |none=>rw [hi] at h;cases h
    |some i =>
     rw [hi] at h
     simp only [Option.map_some,Option.bind_some] at h ⊢
     cases hf:Instr.fill (fun j=>some (j*i.size,i.size)) z.cells ps.toList with
     |none=>rw [hf] at h;cases h
     |some out =>
      rw [hf] at h
      obtain ⟨out',ho,hr⟩:=fill_rel _ hp hzz hf
      rw [ho]
      simp only [dry_pure,Option.some.injEq] at h ⊢
      subst h
      exact ⟨_,rfl,.agg out.toList out'.toList hr.1 hr.2⟩
   |_=>cases h
theorem part_rel {ι:Inj} {g:Nat→Nat} {t:TypeId} {cs cs':Array Value} {off:Nat} {v:Value} (hr:LRel ι g cs.toList cs'.toList) (h:dry P (part t cs off)=some v) :
 ∃ v',dry P (part t cs' off)=some v'∧VRel ι g v v':=by
 unfold part at h ⊢
 simp only [dry_bind,dry_isAgg] at h ⊢
 cases ha:isAggT P t with
 |none=>rw [ha] at h;cases h
 |some b =>
  rw [ha] at h
  simp only [Option.bind_some] at h ⊢
  cases b with
  |true =>
   simp only [if_true,dry_bind,dry_sizeOf] at h ⊢
   cases hi:P.info? t with
   |none=>rw [hi] at h;cases h
   |some i =>
    rw [hi] at h
    simp only [Option.map_some,Option.bind_some,dry_pure,Option.some.injEq] at h ⊢
    subst h
    refine ⟨_,rfl,?_⟩
    have:=(hr.drop off).take i.size
    have e:∀ (c:Array Value),c.extract off (off+i.size)=⟨(c.toList.drop off).take i.size⟩:=fun c=>by
     apply Array.ext'
     rw [Array.toList_extract]
     simp [List.extract_eq_take_drop]
    rw [e,e]
    exact .agg _ _ this.1 this.2
  |false =>
   simp only [Bool.false_eq_true,if_false] at h ⊢
   cases hc:cs[off]? with
   |none=>rw [hc] at h;cases h
   |some u =>
    rw [hc] at h
    simp only [dry_pure,Option.some.injEq] at h
    subst h
    obtain ⟨v',h1,h2⟩:=hr.get (i:=off) (v:=u) (by simpa using hc)
    refine ⟨v',?_,h2⟩
    have:cs'[off]?=some v':=by simpa using h1
    rw [this];rfl
theorem field_sound {ι:Inj} {g:Nat→Nat} {t:TypeId} {x x' v:Value} {f:Nat} (hx:VRel ι g x x') (h:dry P (Instr.field t x f)=some v) :
 ∃ v',dry P (Instr.field t x' f)=some v'∧VRel ι g v v':=by
 unfold Instr.field at h ⊢
 simp only [dry_bind,dry_underlying] at h ⊢
 cases hd:P.underlying t with
 |none=>rw [hd] at h;cases h
 |some d =>
  rw [hd] at h
  simp only [Option.bind_some] at h ⊢
  cases d<;>first|(cases h;done)|skip
  rename_i fields
  simp only at h ⊢
  cases hf:fields[f]? with
  |none=>rw [hf] at h;cases h
  |some fd =>
   rw [hf] at h
   simp only [dry_bind] at h ⊢
   cases hx<;>first|(cases h;done)|skip
   rename_i l l' h1 h2
   exact part_rel (cs:=⟨l⟩) (cs':=⟨l'⟩) ⟨h1,h2⟩ h
theorem index_sound {ι:Inj} {g:Nat→Nat} {t:TypeId} {x x' ix v:Value} (hx:VRel ι g x x') (h:dry P (Instr.index t x ix)=some v) :
 ∃ v',dry P (Instr.index t x' ix)=some v'∧VRel ι g v v':=by
 unfold Instr.index at h ⊢
 simp only [dry_bind] at h ⊢
 cases hi:dry P (asIntOf ix) with
 |none=>rw [hi] at h;cases h
 |some p =>
  obtain ⟨k,i⟩:=p
  rw [hi] at h
  simp only [Option.bind_some,dry_bind,dry_underlying] at h ⊢
  cases hd:P.underlying t with
  |none=>rw [hd] at h;cases h
  |some d =>
   rw [hd] at h
   simp only [Option.bind_some] at h ⊢
   cases hx with
   |agg l l' h1 h2 =>
    cases d<;>first|(cases h;done)|skip
    rename_i n e
    simp only at h ⊢
    split at h
    ·rename_i hb
     rw [if_pos hb]
     simp only [dry_bind,dry_sizeOf] at h ⊢
     cases hii:P.info? e with
     |none=>rw [hii] at h;cases h
     |some inf =>
      rw [hii] at h
      exact part_rel (cs:=⟨l⟩) (cs':=⟨l'⟩) ⟨h1,h2⟩ h
    ·exfalso
     revert h
     simp only [boundsPanic,dry_bind]
     split<;>intro h<;>first
      |(simp [choose,Functor.map,Sem.bind,dry] at h;done)
      |(cases h)
      |(simp [dry_pure,runtimePanic,dry_bind,program,dry,goPanic] at h)
   |str s =>
    refine ⟨v,h,?_⟩
    cases d<;>first|(cases h;done)|skip
    simp only at h
    split at h
    ·simp only [dry_pure,Option.some.injEq] at h
     subst h
     exact .int _ _
    ·exfalso
     revert h
     simp only [boundsPanic,dry_bind]
     split<;>intro h<;>first
      |(simp [choose,Functor.map,Sem.bind,dry] at h;done)
      |(cases h)
      |(simp [dry_pure,runtimePanic,dry_bind,program,dry,goPanic] at h)
   |_=>cases d<;>cases h
theorem extract_sound {ι:Inj} {g:Nat→Nat} {x x' v:Value} {i:Nat} (hx:VRel ι g x x') (h:dry P (Instr.extract x i)=some v) :
 ∃ v',dry P (Instr.extract x' i)=some v'∧VRel ι g v v':=by
 unfold Instr.extract at h ⊢
 cases hx<;>first|(cases h;done)|skip
 rename_i l l' h1 h2
 simp only at h ⊢
 cases hc:(⟨l⟩:Array Value)[i]? with
 |none=>rw [hc] at h;cases h
 |some u =>
  rw [hc] at h
  simp only [dry_pure,Option.some.injEq] at h
  subst h
  obtain ⟨v',k1,k2⟩:=LRel.get (l:=l) (l':=l') ⟨h1,h2⟩ (i:=i) (v:=u) (by simpa using hc)
  refine ⟨v',?_,k2⟩
  have:(⟨l'⟩:Array Value)[i]?=some v':=by simpa using k1
  rw [this];rfl
end Go.Am
set_option linter.unusedSimpArgs false
set_option linter.unusedVariables false
namespace Go.Am
variable {P:Program} {G:List Nat}
theorem aint_run {op:BinOp} {k:IntKind} {a b:Int} {v:Value} {t:TypeId} (h:aint op k a b=some v) (w:World) :
 (binOp op t (.int k a) (.int k b)).run P w=.ok v w∧plain v=true:=by
 cases op<;>simp only [aint,reduceCtorEq,Option.some.injEq] at h
 case quo =>
  split at h
  ·cases h
  ·rename_i hb
   simp only [Option.some.injEq] at h
   subst h
   refine ⟨?_,rfl⟩
   rw [binOp_quo];simp only [Op.intDiv,if_neg hb];rfl
 case rem =>
  split at h
  ·cases h
  ·rename_i hb
   simp only [Option.some.injEq] at h
   subst h
   refine ⟨?_,rfl⟩
   rw [binOp_rem];simp only [Op.intDiv,if_neg hb];rfl
 all_goals
  subst h
  refine ⟨?_,rfl⟩
  first
   |(rw [binOp_add];rfl)
   |(rw [binOp_sub];rfl)
   |(rw [binOp_mul];rfl)
   |(rw [binOp_and];rfl)
   |(rw [binOp_or];rfl)
   |(rw [binOp_xor];rfl)
   |(rw [binOp_andNot];rfl)
   |(rw [binOp_eql];rfl)
   |(rw [binOp_neq];rfl)
   |(rw [binOp_lss];rfl)
   |(rw [binOp_leq];rfl)
   |(rw [binOp_gtr];rfl)
   |(rw [binOp_geq];rfl)
theorem ashift_run {op:BinOp} {k k':IntKind} {a b:Int} {v:Value} {t:TypeId} (hop:op=.shl∨op=.shr) (h:ashift op k a b=some v) (w:World) :
 (binOp op t (.int k a) (.int k' b)).run P w=.ok v w∧plain v=true:=by
 unfold ashift at h
 split at h
 ·cases h
 ·rename_i hb
  rcases hop with rfl|rfl<;>simp only [Option.some.injEq] at h<;>subst h<;>refine ⟨?_,rfl⟩
  ·rw [binOp_shl];simp only [Op.shift,if_neg hb];rfl
  ·rw [binOp_shr];simp only [Op.shift,if_neg hb];rfl
theorem run_equal_slice {t e:TypeId} (hu:P.underlying t=some (.slice e)) (a b:Option Addr) (n c n' c':Nat) (h:a=none∨b=none) (w:World) :
 (Op.equal t (.slice a n c) (.slice b n' c')).run P w=.ok (a.isNone&&b.isNone) w:=by
 show (Op.equalIn (9999+1) t _ _).run P w=_
 unfold Op.equalIn
 simp only [Sem.run_bind,run_underlying hu,Result.andThen_ok]
 cases a with
 |none=>cases b<;>rfl
 |some a=>cases b with
  |none=>rfl
  |some b=>simp at h
theorem run_equal_map {t k e:TypeId} (hu:P.underlying t=some (.map k e)) (a:Option Nat) (w:World) :
 (Op.equal t (.map a) (.map none)).run P w=.ok a.isNone w:=by
 show (Op.equalIn (9999+1) t _ _).run P w=_
 unfold Op.equalIn
 simp only [Sem.run_bind,run_underlying hu,Result.andThen_ok]
 cases a<;>rfl
theorem run_equal_pointer {t e:TypeId} (hu:P.underlying t=some (.pointer e)) (a:Option Addr) (w:World) :
 (Op.equal t (.pointer a) (.pointer none)).run P w=.ok a.isNone w:=by
 show (Op.equalIn (9999+1) t _ _).run P w=_
 unfold Op.equalIn
 simp only [Sem.run_bind,run_underlying hu,Result.andThen_ok]
 cases a<;>rfl
theorem abin_sound {ι:Inj} {g:Nat→Nat} {op:BinOp} {t:TypeId} {xo yo:Operand} {x y x' y' v:Value} (hx:VRel ι g x x') (hy:VRel ι g y y') (h:abin P op t xo yo x y=some v) (w:World) :
 ∃ v',(do eqGuard op t xo yo x' y';binOp op t x' y':Sem Value).run P w=.ok v' w∧VRel ι g v v':=by
 unfold abin at h
 split at h
 ·cases hx;cases hy
  rename_i k a k' b
  refine ⟨v,?_⟩
  simp only [Sem.run_bind,eqGuard_at_int,Sem.run_pure,Result.andThen_ok]
  split at h
  ·obtain ⟨h1,h2⟩:=ashift_run (P:=P) (t:=t) (k':=k') (.inl rfl) h w
   exact ⟨h1,VRel.plain h2⟩
  ·obtain ⟨h1,h2⟩:=ashift_run (P:=P) (t:=t) (k':=k') (.inr rfl) h w
   exact ⟨h1,VRel.plain h2⟩
  ·split at h
   ·rename_i e
    subst e
    obtain ⟨h1,h2⟩:=aint_run (P:=P) (t:=t) h w
    exact ⟨h1,VRel.plain h2⟩
   ·cases h
 ·rename_i a n g'
  cases hy
  split at h
  ·rename_i e hu
   have hsh:∃ a' n' c',x'=.slice a' n' c'∧a'.isNone=a.isNone:=by cases hx<;>exact ⟨_,_,_,rfl,rfl⟩
   obtain ⟨a',n',c',rfl,hn⟩:=hsh
   simp only [Sem.run_bind,eqGuard_at_slice,Sem.run_pure,Result.andThen_ok]
   have heq:=run_equal_slice hu a' none n' c' 0 0 (.inr rfl) w
   cases op<;>simp only [aeqNil,reduceCtorEq,Option.some.injEq] at h<;>subst h
   ·refine ⟨_,?_,.bool _⟩
    simp [binOp,heq,hn]
   ·refine ⟨_,?_,.bool _⟩
    simp [binOp,heq,hn]
  ·cases h
 ·rename_i a n g' _
  cases hx
  split at h
  ·rename_i e hu
   have hsh:∃ a' n' c',y'=.slice a' n' c'∧a'.isNone=a.isNone:=by cases hy<;>exact ⟨_,_,_,rfl,rfl⟩
   obtain ⟨a',n',c',rfl,hn⟩:=hsh
   simp only [Sem.run_bind,eqGuard_at_slice,Sem.run_pure,Result.andThen_ok]
   have heq:=run_equal_slice hu none a' 0 0 n' c' (.inl rfl) w
   cases op<;>simp only [aeqNil,reduceCtorEq,Option.some.injEq] at h<;>subst h
   ·refine ⟨_,?_,.bool _⟩
    simp [binOp,heq,hn]
   ·refine ⟨_,?_,.bool _⟩
    simp [binOp,heq,hn]
  ·cases h
 ·rename_i a
  cases hy
  split at h
  ·rename_i k e hu
   have hsh:∃ a',x'=.map a'∧a'.isNone=a.isNone:=by cases hx<;>exact ⟨_,rfl,rfl⟩
   obtain ⟨a',rfl,hn⟩:=hsh
   simp only [Sem.run_bind,eqGuard_at_map,Sem.run_pure,Result.andThen_ok]
   have heq:=run_equal_map hu a' w
   cases op<;>simp only [aeqNil,reduceCtorEq,Option.some.injEq] at h<;>subst h
   ·refine ⟨_,?_,.bool _⟩
    simp [binOp,heq,hn]
   ·refine ⟨_,?_,.bool _⟩
    simp [binOp,heq,hn]
  ·cases h
 ·rename_i a
  cases hy
  split at h
  ·rename_i e hu
   have hsh:∃ a',x'=.pointer a'∧a'.isNone=a.isNone:=by cases hx<;>exact ⟨_,rfl,rfl⟩
   obtain ⟨a',rfl,hn⟩:=hsh
   simp only [Sem.run_bind,eqGuard_at_pointer,Sem.run_pure,Result.andThen_ok]
   have heq:=run_equal_pointer hu a' w
   cases op<;>simp only [aeqNil,reduceCtorEq,Option.some.injEq] at h<;>subst h
   ·refine ⟨_,?_,.bool _⟩
    simp [binOp,heq,hn]
   ·refine ⟨_,?_,.bool _⟩
    simp [binOp,heq,hn]
  ·cases h
 ·split at h
  ·rename_i hp
   simp only [Bool.and_eq_true] at hp
   rw [hx.eq_of_plain hp.1,hy.eq_of_plain hp.2]
   obtain ⟨h1,h2⟩:=dryV_some h
   exact ⟨v,dry_run h1 w,VRel.plain h2⟩
  ·cases h
theorem all_plain_isCell {l:List Value} (h:l.all plainCell=true):l.all isCell=true:=by
 rw [List.all_eq_true] at h ⊢
 intro u hu
 have:=h u hu
 cases u<;>first|rfl|simp [plainCell] at this
theorem repeat_all {z:List Value} (h:z.all plainCell=true) (n:Nat):(repeatCells z n).all plainCell=true:=by
 induction n with
 |zero=>rfl
 |succ n ih=>simp only [repeatCells,List.all_append,h,ih,Bool.and_self]
theorem makeSlice_sound {ι:Inj} {m:Mem} {w:World} {t e:TypeId} {i:TypeInfo} {z:List Value} {n k:Int} (hs:Sim P G ι m w) (hu:P.underlying t=some (.slice e)) (hi:P.info? e=some i)
 (hz:zeroCellsOf P e=some z) (h0:0≤n) (h1:n≤k) (h2:k.toNat*(i.bytes+1)≤room) (h3:k≤2 ^ 40) (h4:z.length=i.size) (h5:0<i.size) :
 ∃ v' w',(Instr.makeSlice t (.int .i64 n) (.int .i64 k)).run P w=.ok v' w' ∧
  Post P G ι m w (newSlice m e (repeatCells z n.toNat) n.toNat).1 (newSlice m e (repeatCells z n.toNat) n.toNat).2 v' w':=by
 obtain ⟨i',zv,hi',hz1,rfl,hz3⟩:=zeroCellsOf_some hz
 rw [hi] at hi';cases hi'
 have hwn:IntKind.i64.wrap n=n:=wrap_small h0 (by omega)
 have hwk:IntKind.i64.wrap k=k:=wrap_small (by omega) h3
 have hbig:¬ ((i.bytes:Int)*k>2 ^ 48):=by
  have e1:k.toNat*i.bytes≤k.toNat*(i.bytes+1):=Nat.mul_le_mul_left _ (by omega)
  have e3:(i.bytes:Int)*k=((k.toNat*i.bytes:Nat):Int):=by rw [Int.natCast_mul,Int.toNat_of_nonneg (by omega),Int.mul_comm]
  have e4:room=2 ^ 40:=rfl
  rw [e3]
  omega
 have hlt:¬ (k<0):=by omega
 have hlt2:¬ (n<0):=by omega
 have hgt:¬ (n>k):=by omega
 refine ⟨.slice (some ⟨w.heap.size,0,none⟩) n.toNat k.toNat,{ w with heap:=w.heap.push (.cells (repeatCells zv.cells.toList k.toNat).toArray e (0,0)) },?_,?_⟩
 ·simp only [Instr.makeSlice,Sem.run_bind,run_underlying hu,Result.andThen_ok,asInt,asIntOf,Sem.run_pure,run_typeInfo' hi,hwn,hwk,hlt,hlt2,hgt,hbig,decide_false,Bool.or_false,Bool.false_eq_true,if_false,or_false,
   run_askRoom,run_sizeOf' hi]
  by_cases hk0:k.toNat*i.size=0
  ·have e1:repeatCells zv.cells.toList k.toNat=[]:=List.length_eq_zero_iff.1 (by rw [repeat_length,h4];exact hk0)
   rw [if_pos hk0,hk0,e1]
   simp [newRow,Array.range_zero']
  ·have e1:=repeat_array zv.cells.toList k.toNat (by omega)
   rw [h4] at e1
   rw [if_neg hk0]
   simp only [Sem.run_bind,run_zero hi hz1,Result.andThen_ok,Sem.run_pure,newRow,run_newObj,← e1]
 ·refine newSlice_sound hs rfl rfl rfl rfl (fun j hj=>?_) (by omega) (.inr ?_)
  ·rw [repeat_length] at hj
   have hjk:j<k.toNat*zv.cells.toList.length:=Nat.lt_of_lt_of_le hj (Nat.mul_le_mul_right _ (by omega))
   have hm:j % zv.cells.toList.length<zv.cells.toList.length:=Nat.mod_lt _ (by omega)
   have e1:=repeat_get zv.cells.toList k.toNat j hjk
   have e2:=repeat_get zv.cells.toList n.toNat j hj
   rw [List.getElem?_eq_getElem hm] at e1 e2
   refine ⟨zv.cells.toList[j % zv.cells.toList.length],by simpa using e1,?_⟩
   rw [getD_eq,e2]
   exact VRel.plainCell (List.all_eq_true.1 hz3 _ (List.getElem_mem hm))
  ·rw [cellsOf_info hi,List.size_toArray,repeat_length,h4];exact Nat.le_refl _
theorem unbyte_map:∀ {l:List Value} {bs:List UInt8},unbyte l=some bs→l=bs.map fun c=>Value.int .u8 c.toNat
 |[],_,h=>by cases h;rfl
 |v::l,bs,h=>by
  unfold unbyte at h
  split at h
  ·rename_i he;cases he
  ·rename_i n l' he
   cases he
   split at h
   ·rename_i hn
    rw [Option.map_eq_some_iff] at h
    obtain ⟨bs',h1,rfl⟩:=h
    rw [unbyte_map h1,List.map_cons]
    congr 1
    have:(UInt8.ofNat n.toNat).toNat=n.toNat:=by simp;omega
    rw [this]
    congr 1
    omega
   ·cases h
  ·cases h
theorem aconv_sound {ι:Inj} {m m':Mem} {w:World} {s d:TypeId} {x x' v:Value} (hs:Sim P G ι m w) (hx:VRel ι m.gen x x') (h:aconv P s d x m=some (v,m')) :
 ∃ v' w',(convert s d x').run P w=.ok v' w'∧Post P G ι m w v m' v' w':=by
 unfold aconv at h
 split at h
 ·rename_i e b hu1 hu2
  split at h
  ·rename_i i he hi
   split at h
   ·rename_i hb
    cases h
    have ex:x'=.string b:=by cases hx;rfl
    subst ex
    refine ⟨_,_,run_bytes_of_string w s d e b hu1 hu2 he,?_⟩
    have hge:=grownCap_ge w b.size 0 e
    generalize grownCap w b.size 0 e=cap at hge ⊢
    have hsz:(bytesRow b cap).size=cap:=by
     unfold bytesRow
     rw [Array.size_append,Array.size_map,Array.size_replicate]
     show b.size+(cap-b.size)=cap
     omega
    obtain ⟨ι',hext,hsim,hbk⟩:=alloc_core (x:=.cells (byteVals b) e 0 false) (ib:=⟨w.heap.size,0,(bytesRow b cap).size,P.cellsOf e⟩)
     (w':=w.drew.alloc (.cells (bytesRow b cap) e ((bytesRow b cap).size,(bytesRow b cap).size+1))) (obj:=.cells (bytesRow b cap) e ((bytesRow b cap).size,(bytesRow b cap).size+1)) hs rfl rfl rfl rfl rfl
     ⟨fun _=>rfl,rfl,rfl,fun k hk=>by
      refine ⟨(byteVals b).getD k undef,?_,?_⟩
      ·rw [getD_lt hk,Nat.zero_add]
       have hk':k<b.data.size:=by simpa [byteVals] using hk
       unfold bytesRow
       rw [Array.getElem?_append_left (by simpa using hk')]
       simp only [byteVals,Array.getElem?_map,List.getElem_map,Array.getElem?_eq_getElem hk',Option.map_some,Array.getElem_toList]
      ·rw [getD_lt hk]
       have hm:(byteVals b)[k]∈byteVals b:=List.getElem_mem hk
       obtain ⟨c,_,hc⟩:=List.mem_map.1 hm
       rw [← hc]
       exact .int _ _,fun _ j hj=>by simp only;omega⟩ rfl
    refine ⟨ι',hext,hsim,.sl _ _ _ _ _ _ ⟨_,hbk,Nat.zero_le _,hge,fun _=>⟨rfl,rfl,.inr ⟨rfl,?_⟩⟩⟩⟩
    simp only [cellsOf_info hi,hb.1,hsz,Nat.zero_add,Nat.mul_one,Nat.le_refl]
   ·cases h
  ·cases h
 ·rename_i e a n g hu1 hu2
  split at h
  ·rename_i he
   split at h
   ·rename_i l hl
    split at h
    ·rename_i bs hbs
     cases h
     have hlen:=sliceCells_length hl
     have hmap:=unbyte_map hbs
     have hn:bs.length=n:=by rw [hmap,List.length_map] at hlen;omega
     have key:∃ a' cap,x'=.slice a' n cap∧(a'=none∧n=0∨∃ A,a'=some A∧∀ j (hj:j<bs.length),w.cell? (A.add j)=some (.int .u8 (bs[j].toNat:Int))):=by
      cases hx with
      |slN=>exact ⟨none,0,rfl,.inl ⟨rfl,rfl⟩⟩
      |slE b o s a'=>exact ⟨some a',0,rfl,.inr ⟨a',rfl,fun j hj=>by omega⟩⟩
      |sl b off len gen a' cap hr =>
       refine ⟨some a',cap,rfl,.inr ⟨a',rfl,fun j hj=>?_⟩⟩
       have hpos:0<n:=by omega
       have ha:=slice_addr hr (fun _=>hpos) 0
       rw [Addr.add_zero'] at ha
       have hl':m.cellsAt ⟨b,off,some g⟩ n=some l:=by
        unfold sliceCells at hl
        simpa using hl
       obtain ⟨l',h1,h2,h3⟩:=cellsAt_run hs (by simpa using ha) hl'
       have hj2:j<l.length:=by rw [hlen];omega
       obtain ⟨v',h4,h5⟩:=h1.get (List.getElem?_eq_getElem hj2)
       have e1:l[j]=.int .u8 (bs[j].toNat:Int):=by simp only [hmap,List.getElem_map]
       rw [e1] at h5
       have e2:v'=.int .u8 (bs[j].toNat:Int):=by cases h5;rfl
       rw [e2] at h4
       exact h3 j _ h4
     obtain ⟨a',cap,rfl,hc⟩:=key
     refine ⟨.string ⟨bs.toArray⟩,w,?_,Post.same hs (.str _)⟩
     rcases hc with ⟨rfl,h0⟩|⟨A,rfl,hc⟩
     ·have:bs=[]:=List.length_eq_zero_iff.1 (by omega)
      subst this
      rw [run_convert_bytes_string w s d e none n cap hu1 he hu2]
      rfl
     ·have:=run_convert_bytes_back (P:=P) w s d e A cap bs hu1 he hu2 hc
      rw [hn] at this
      exact this
    ·cases h
   ·cases h
  ·cases h
 ·cases h
def IsNext (n:Next) (v:Value):Prop:=n=.value v∨(n=.skip∧v=undef)
theorem gen_zero_alloc {m:Mem} {x:ABlk} (hx:x.gen=0):(m.alloc x).gen m.size=0:=by
 unfold Mem.gen;rw [Mem.get_alloc,if_pos rfl];exact hx
theorem newVar_sound {ι:Inj} {m:Mem} {w:World} {e:TypeId} {l:List Value} {cs:Array Value} (hs:Sim P G ι m w) (hl:LRel ι m.gen l cs.toList) :
 Post P G ι m w (.pointer (some ⟨m.size,0,none⟩)) (m.alloc (.cells l e 0 false)) (.pointer (some ⟨w.heap.size,0,none⟩)) { w with heap:=w.heap.push (.cells cs e (0,0)) }:=by
 obtain ⟨ι',hext,hsim,hb⟩:=alloc_core (x:=.cells l e 0 false) (ib:=⟨w.heap.size,0,cs.size,P.cellsOf e⟩) (w':={ w with heap:=w.heap.push (.cells cs e (0,0)) }) (obj:=.cells cs e (0,0)) hs rfl rfl rfl rfl rfl
  ⟨fun _=>rfl,rfl,rfl,fun i hi=>by
   obtain ⟨v',h1,h2⟩:=hl.get (List.getElem?_eq_getElem hi)
   exact ⟨v',by simpa using h1,by rw [getD_lt hi];exact h2⟩,fun _ j _=>by simp⟩ rfl
 exact ⟨ι',hext,hsim,.ptr _ _ ⟨_,hb,Nat.zero_le _,fun _=>rfl⟩⟩
theorem ORel.map {ι:Inj} {g:Nat→Nat} {ρ ρ':Operand→Value} {o:Option Operand} (h:∀ x,o=some x→VRel ι g (ρ x) (ρ' x)):ORel ι g (o.map ρ) (o.map ρ'):=by
 cases o with
 |none=>exact .inl ⟨rfl,rfl⟩
 |some x=>exact .inr ⟨_,_,rfl,rfl,h x rfl⟩
theorem ARels.map {ι:Inj} {g:Nat→Nat} {ρ ρ':Operand→Value} {as:Array Operand} (h:∀ x∈as,VRel ι g (ρ x) (ρ' x)):ARels ι g (as.map ρ) (as.map ρ'):=fun i v hv=>by
 rw [Array.getElem?_map,Option.map_eq_some_iff] at hv
 obtain ⟨x,hx,rfl⟩:=hv
 exact ⟨ρ' x,by rw [Array.getElem?_map,hx];rfl,h x (Array.mem_of_getElem? hx)⟩
theorem LRel.mapArr {ι:Inj} {g:Nat→Nat} {ρ ρ':Operand→Value}:∀ {l:List Operand},(∀ x∈l,VRel ι g (ρ x) (ρ' x))→LRel ι g (l.map ρ) (l.map ρ')
 |[],_=>LRel.nil
 |x::l,h=>LRel.cons (h x (by simp)) (LRel.mapArr fun y hy=>h y (by simp [hy]))
theorem plain_map_eq {ι:Inj} {g:Nat→Nat} {ρ ρ':Operand→Value} {as:Array Operand} (h:∀ x∈as,VRel ι g (ρ x) (ρ' x)) (hp:(as.map ρ).toList.all plain=true):as.map ρ'=as.map ρ:=by
 apply Array.map_congr_left
 intro x hx
 refine (h x hx).eq_of_plain ?_
 rw [List.all_eq_true] at hp
 exact hp _ (by simp;exact ⟨x,hx,rfl⟩)
end Go.Am
set_option linter.unusedSimpArgs false
set_option linter.unusedVariables false
namespace Go.Am
variable {P:Program} {G:List Nat}
theorem run_v {s:Sem Value} {v:Value} {w w':World} (h:s.run P w=.ok v w'):(do pure (.value (← s)):Sem Next).run P w=.ok (.value v) w':=by
 simp [h]
theorem run_builtin {b:Builtin} {ρ:Operand→Value} {args:Array Operand} {aT:Array TypeId} {ty:TypeId} {w:World} {dst:Option Tmp} {pos:String} {after:Array Edge} {guard:Option (Nat×Bool)} :
 (execOp ρ { dst:=dst,op:=.call { callee:=.builtin b,args:=args,argTypes:=aT },type:=ty,pos:=pos,after:=after,guard:=guard }).run P w =
  (builtin b aT ty (args.map fun| .const _=>true|_=>false) (args.map ρ)).run P w:=by
 simp only [execOp,resolve,Sem.run_bind,Sem.run_pure,Result.andThen_ok,invoke]
 rfl
set_option maxHeartbeats 1000000 in
theorem aop_sound {ι:Inj} {m m':Mem} {w:World} {ρ ρ':Operand→Value} {o:Oper} {v:Value} (hs:Sim P G ι m w) (hρ:∀ x∈o.op.operands,VRel ι m.gen (ρ x) (ρ' x))
 (h:aop P ρ o m=some (v,m')):∃ n v' w',(execOp ρ' o).run P w=.ok n w'∧IsNext n v'∧Post P G ι m w v m' v' w':=by
 obtain ⟨dst,op,ty,pos,after,guard⟩:=o
 simp only at hρ
 have same:∀ {s:Sem Value} {u v':Value},execOp ρ' ⟨dst,op,ty,pos,after,guard⟩=(do pure (.value (← s)):Sem Next)→s.run P w=.ok v' w→VRel ι m.gen u v'→(u,m)=(v,m') →
  ∃ n v' w',(execOp ρ' ⟨dst,op,ty,pos,after,guard⟩).run P w=.ok n w'∧IsNext n v'∧Post P G ι m w v m' v' w':=fun {s u v'} he hr hv hm=>by
  cases hm
  exact ⟨.value v',v',w,by rw [he];exact run_v hr,.inl rfl,Post.same hs hv⟩
 cases op<;>simp only [aop,reduceCtorEq] at h
 case move x =>
  cases h
  exact ⟨.value (ρ' x),ρ' x,w,rfl,.inl rfl,Post.same hs (hρ x (by simp [Op.operands]))⟩
 case assign x =>
  cases h
  exact ⟨.value (ρ' x),ρ' x,w,rfl,.inl rfl,Post.same hs (hρ x (by simp [Op.operands]))⟩
 case pick c a b =>
  have hc:=hρ c (by simp [Op.operands])
  split at h
  ·rename_i t hcc
   cases h
   rw [hcc] at hc
   have e:ρ' c=.bool t:=by generalize ρ' c=u at hc;cases hc;rfl
   refine ⟨.value (if t then ρ' a else ρ' b),(if t then ρ' a else ρ' b),w,?_,.inl rfl,Post.same hs ?_⟩
   ·simp only [execOp,e,asBool,Sem.run_bind,Sem.run_pure,Result.andThen_ok]
   ·cases t
    ·exact hρ b (by simp [Op.operands])
    ·exact hρ a (by simp [Op.operands])
  ·cases h
 case binOp op t x y yt =>
  rw [Option.map_eq_some_iff] at h
  obtain ⟨u,hu,he⟩:=h
  obtain ⟨v',hr,hv⟩:=abin_sound (hρ x (by simp [Op.operands])) (hρ y (by simp [Op.operands])) hu w
  exact same rfl hr hv he
 case alloc e =>
  rw [Option.map_eq_some_iff] at h
  obtain ⟨z,hz,he⟩:=h
  cases he
  obtain ⟨i,zv,hi,hz1,rfl,hz3⟩:=zeroCellsOf_some hz
  refine ⟨_,_,_,?_,.inl rfl,newVar_sound (e:=e) (cs:=zv.cells) hs (LRel.plain hz3)⟩
  simp [execOp,Instr.alloc,run_zero hi hz1,newVar,newRow]
 case box e x =>
  split at h
  ·cases h
   refine ⟨_,_,_,?_,.inl rfl,newVar_sound (e:=e) (cs:=(ρ' x).cells) hs (hρ x (by simp [Op.operands])).cells⟩
   simp [execOp,Instr.box,newVar,newRow]
  ·cases h
 case build t ps =>
  split at h
  ·rename_i z hz
   rw [Option.map_eq_some_iff] at h
   obtain ⟨u,hu,he⟩:=h
   have hp:PRel ι m.gen (ps.map fun (i,x)=>(i,ρ x)).toList (ps.map fun (i,x)=>(i,ρ' x)).toList:=by
    rw [Array.toList_map,Array.toList_map]
    exact PRel.map fun x hx=>hρ x (by simp only [Op.operands];simpa using hx)
   obtain ⟨v',hr,hv⟩:=build_sound hp (fun z' hz'=>by
    obtain ⟨i,zv,hi,hz1,rfl,hz3⟩:=zeroCellsOf_some hz
    unfold zeroOf at hz'
    rw [hi] at hz'
    simp only [Option.bind_some] at hz'
    rw [hz1] at hz'
    cases hz'
    exact hz3) hu
   exact same rfl (dry_run hr w) hv he
  ·cases h
 case buildSlice t len ps =>
  split at h
  ·rename_i e hu
   split at h
   ·rename_i i z hi hz
    split at h
    ·rename_i hc
     obtain ⟨c1,c2,c3⟩:=hc
     split at h
     ·rename_i cs hcs
      split at h
      ·cases h
       obtain ⟨i',zv,hi',hz1,rfl,hz3⟩:=zeroCellsOf_some hz
       rw [hi] at hi';cases hi'
       have hp:PRel ι m.gen (ps.map fun (i,x)=>(i,ρ x)).toList (ps.map fun (i,x)=>(i,ρ' x)).toList:=by
        rw [Array.toList_map,Array.toList_map]
        exact PRel.map fun x hx=>hρ x (by simp only [Op.operands];simpa using hx)
       have hlen:=repeat_length zv.cells.toList len
       obtain ⟨cs',hf,hr⟩:=fill_rel (ι:=ι) (g:=m.gen) _ hp (LRel.plain (repeat_all hz3 len)) hcs
       have hps:(ps.map fun (i,x)=>(i,ρ' x))=(ps.map fun (i,x)=>(i,ρ' x)):=rfl
       refine ⟨_,_,{ w with heap:=w.heap.push (.cells cs' e (0,0)) },?_,.inl rfl,newSlice_sound (cap:=len) (cs:=cs') hs rfl rfl rfl rfl (fun j hj=>?_) (Nat.le_refl _) (.inr ?_)⟩
       ·simp only [execOp,Instr.buildSlice,Sem.run_bind,run_underlying hu,Result.andThen_ok,run_sizeOf' hi,Sem.run_pure]
        rw [if_neg (by omega)]
        by_cases hk0:len*i.size=0
        ·have e1:repeatCells zv.cells.toList len=[]:=List.length_eq_zero_iff.1 (by rw [hlen,c2];exact hk0)
         rw [if_pos hk0]
         have e2:(Array.map (fun x=>(#[]:Array Value)[x % (#[]:Array Value).size]!) (Array.range (len*i.size)))=(repeatCells zv.cells.toList len).toArray:=by
          rw [hk0,e1,Array.range_zero'];simp
         simp only [Sem.run_bind,Sem.run_pure,Result.andThen_ok,e2,hf,newRow,run_newObj]
        ·have e1:=repeat_array zv.cells.toList len (by omega)
         rw [c2] at e1
         rw [if_neg hk0]
         have e2:(Array.map (fun x=>zv.cells[x % zv.cells.size]!) (Array.range (len*i.size)))=(repeatCells zv.cells.toList len).toArray:=e1
         simp only [Sem.run_bind,run_zero hi hz1,Result.andThen_ok,Sem.run_pure,e2,hf,newRow,run_newObj]
       ·obtain ⟨v',h1,h2⟩:=hr.get (List.getElem?_eq_getElem hj)
        exact ⟨v',by simpa using h1,by rw [getD_lt hj];exact h2⟩
       ·rw [cellsOf_info hi]
        have hsz:cs'.size=len*i.size:=by
         have fs:∀ (ps:List (Nat×Value)) (c c':Array Value),Instr.fill (fun j=>some (j*i.size,i.size)) c ps=some c'→c'.size=c.size:=fun ps=>by
          induction ps with
          |nil=>intro c c' h;simp only [Instr.fill,Option.some.injEq] at h;rw [h]
          |cons p ps ih =>
           intro c c' h
           obtain ⟨j,u⟩:=p
           simp only [Instr.fill] at h
           split at h
           ·cases h
           ·have:=ih _ _ h
            rw [this]
            have fl:∀ (l:List (Value×Nat)) (c:Array Value),(l.foldl (fun cs (c,k)=>cs.setIfInBounds (j*i.size+k) c) c).size=c.size:=fun l=>by
             induction l with
             |nil=>intro c;rfl
             |cons q l ih=>intro c;rw [List.foldl_cons,ih];simp
            rw [← Array.foldl_toList]
            exact fl _ _
         rw [fs _ _ _ hf,List.size_toArray,hlen,c2]
        rw [hsz];exact Nat.le_refl _
      ·cases h
     ·cases h
    ·cases h
   ·cases h
  ·cases h
 case load t a =>
  have ha:=hρ a (by simp [Op.operands])
  split at h
  ·rename_i ad had
   rw [Option.map_eq_some_iff] at h
   obtain ⟨u,hu,he⟩:=h
   rw [had] at ha
   have hsh:∃ a',ρ' a=.pointer (some a')∧ARel ι m.gen ad a':=by generalize ρ' a=u at ha;cases ha;exact ⟨_,rfl,by assumption⟩
   obtain ⟨a',e1,har⟩:=hsh
   obtain ⟨v',hr,hv⟩:=aload_sound hs har hu
   exact same (s:=Instr.loadAt t (ρ' a)) rfl (by simp only [Instr.loadAt,e1,Instr.sureAddr,Sem.run_bind,Sem.run_pure,Result.andThen_ok];exact hr) hv he
  ·cases h
 case store t a x =>
  have ha:=hρ a (by simp [Op.operands])
  split at h
  ·rename_i ad had
   rw [Option.map_eq_some_iff] at h
   obtain ⟨m1,hm1,he⟩:=h
   cases he
   rw [had] at ha
   have hsh:∃ a',ρ' a=.pointer (some a')∧ARel ι m.gen ad a':=by generalize ρ' a=u at ha;cases ha;exact ⟨_,rfl,by assumption⟩
   obtain ⟨a',e1,har⟩:=hsh
   obtain ⟨w',ι',hr,hext,hsim⟩:=astore_sound hs har (hρ x (by simp [Op.operands])) hm1
   refine ⟨.skip,undef,w',?_,.inr ⟨rfl,rfl⟩,ι',hext,hsim,VRel.undef⟩
   simp only [execOp,Instr.storeAt,e1,Instr.sureAddr,Sem.run_bind,Sem.run_pure,Result.andThen_ok,hr]
  ·cases h
 case nilCheck x =>
  have hx:=hρ x (by simp [Op.operands])
  split at h
  ·rename_i ad had
   rw [had] at hx
   have hsh:∃ a',ρ' x=.pointer (some a')∧ARel ι m.gen ad a':=by generalize ρ' x=u at hx;cases hx;exact ⟨_,rfl,by assumption⟩
   obtain ⟨a',e1,har⟩:=hsh
   cases h
   exact ⟨.value (.pointer (some a')),_,w,by simp only [execOp,e1];rfl,.inl rfl,Post.same hs (.ptr _ _ har)⟩
  ·cases h
 case unOp op t x =>
  split at h
  ·rename_i hp
   rw [Option.map_eq_some_iff] at h
   obtain ⟨u,hu,he⟩:=h
   have hx:=(hρ x (by simp [Op.operands])).eq_of_plain hp
   obtain ⟨h1,h2⟩:=dryV_some hu
   exact same (s:=Op.unary op (ρ' x)) rfl (by rw [hx];exact dry_run h1 w) (VRel.plain h2) he
  ·cases h
 case convert s d x =>
  split at h
  ·obtain ⟨v',w',h1,h2⟩:=aconv_sound hs (hρ x (by simp [Op.operands])) h
   exact ⟨.value v',v',w',run_v h1,.inl rfl,h2⟩
  split at h
  ·rename_i hp
   rw [Option.map_eq_some_iff] at h
   obtain ⟨u,hu,he⟩:=h
   have hx:=(hρ x (by simp [Op.operands])).eq_of_plain hp
   obtain ⟨h1,h2⟩:=dryV_some hu
   exact same (s:=Go.convert s d (ρ' x)) rfl (by rw [hx];exact dry_run h1 w) (VRel.plain h2) he
  ·cases h
 case makeFunc fn fs cs =>
  cases fn<;>simp only [reduceCtorEq] at h
  rename_i f
  cases h
  have h1:=LRel.mapArr (ι:=ι) (g:=m.gen) (l:=fs.toList) (fun x hx=>hρ x (by simp [Op.operands];exact .inl (by simpa using hx)))
  have h2:=LRel.mapArr (ι:=ι) (g:=m.gen) (l:=cs.toList) (fun x hx=>hρ x (by simp [Op.operands];exact .inr (by simpa using hx)))
  refine ⟨.value (.func (.func f) (fs.map ρ') (cs.map ρ')),_,w,rfl,.inl rfl,Post.same hs ?_⟩
  have e:∀ (r:Operand→Value) (a:Array Operand),a.map r=⟨a.toList.map r⟩:=fun r a=>by apply Array.ext';simp
  rw [e ρ fs,e ρ cs,e ρ' fs,e ρ' cs]
  exact .fn f _ _ _ _ h1.1 h1.2 h2.1 h2.2
 case makeMap t r =>
  cases r<;>simp only [reduceCtorEq] at h
  cases h
  obtain ⟨ι',hext,hsim,hb⟩:=alloc_core (x:=.map [] 0) (ib:=⟨w.heap.size,0,0,0⟩) (w':={ w with heap:=w.heap.push (.map #[] 0) }) (obj:=.map #[] 0) hs rfl rfl rfl rfl rfl ⟨rfl,trivial⟩ rfl
  exact ⟨.value (.map (some w.heap.size)),_,_,by simp [execOp,Instr.makeMap],.inl rfl,ι',hext,hsim,.map _ _ _ hb fun _=>rfl⟩
 case makeSlice t l c =>
  have hl:=hρ l (by simp [Op.operands])
  have hc:=hρ c (by simp [Op.operands])
  split at h
  ·rename_i e n k hu hln hck
   rw [hln] at hl;rw [hck] at hc
   have e1:ρ' l=.int .i64 n:=by generalize ρ' l=u at hl;cases hl;rfl
   have e2:ρ' c=.int .i64 k:=by generalize ρ' c=u at hc;cases hc;rfl
   split at h
   ·rename_i i z hi hz
    split at h
    ·rename_i hcond
     obtain ⟨c1,c2,c3,c4,c5,c6⟩:=hcond
     cases h
     obtain ⟨v',w',hr,hp⟩:=makeSlice_sound hs hu hi hz c1 c2 c3 c4 c5 c6
     exact ⟨.value v',v',w',by simp only [execOp,e1,e2];exact run_v hr,.inl rfl,hp⟩
    ·cases h
   ·cases h
  ·cases h
 case slice t x lo hi mx =>
  rw [Option.map_eq_some_iff] at h
  obtain ⟨u,hu,he⟩:=h
  obtain ⟨v',hr,hv⟩:=slice_sound hs (hρ x (by simp [Op.operands])) (ORel.map (o:=lo) fun y hy=>hρ y (by subst hy;simp [Op.operands])) (ORel.map (o:=hi) fun y hy=>hρ y (by subst hy;simp [Op.operands]))
   (ORel.map (o:=mx) fun y hy=>hρ y (by subst hy;simp [Op.operands])) hu
  exact same rfl hr hv he
 case fieldAddr s x f =>
  have hx:=hρ x (by simp [Op.operands])
  split at h
  ·rename_i fs ad hu had
   rw [had] at hx
   have hsh:∃ a',ρ' x=.pointer (some a')∧ARel ι m.gen ad a':=by generalize ρ' x=u at hx;cases hx;exact ⟨_,rfl,by assumption⟩
   obtain ⟨a',e1,har⟩:=hsh
   split at h
   ·rename_i fd hfd
    split at h
    ·rename_i i hi
     split at h
     ·cases h
     ·rename_i hsz
      refine same (s:=Instr.fieldAt s (ρ' x) f) (v':=.pointer (some (a'.add fd.offset))) rfl ?_ (.ptr _ _ ?_) (Option.some.inj h)
      ·simp only [Instr.fieldAt,e1,Instr.sureAddr,Sem.run_bind,run_underlying hu,Sem.run_pure,Result.andThen_ok,hfd,fieldPlace,run_sizeOf' hi,if_neg hsz]
      ·obtain ⟨ib,hb,hle,hcur⟩:=har
       refine ⟨ib,hb,hle,fun e=>?_⟩
       rw [hcur e,addr_add]
       simp only [Addr.mk.injEq,true_and,and_true]
       omega
    ·cases h
   ·cases h
  ·cases h
 case field t x f =>
  rw [Option.map_eq_some_iff] at h
  obtain ⟨u,hu,he⟩:=h
  obtain ⟨v',hr,hv⟩:=field_sound (hρ x (by simp [Op.operands])) hu
  exact same rfl (dry_run hr w) hv he
 case indexAddr t x ix =>
  have hx:=hρ x (by simp [Op.operands])
  have hix:=hρ ix (by simp [Op.operands])
  split at h
  ·rename_i e b off len g k i hu hxx hixx
   rw [hxx] at hx;rw [hixx] at hix
   have e2:ρ' ix=.int k i:=by generalize ρ' ix=u at hix;cases hix;rfl
   split at h
   ·rename_i inf hi
    split at h
    ·rename_i hb
     have hsh:∃ a' cap',ρ' x=.slice (some a') len cap'∧SRel ι m.gen b off len g a' cap':=by generalize ρ' x=u at hx;cases hx;exact ⟨_,_,rfl,by assumption⟩
     obtain ⟨a',cap',e1,hsr⟩:=hsh
     refine same (s:=Instr.indexAt t (ρ' x) (ρ' ix)) (v':=.pointer (some (a'.add (i.toNat*inf.size)))) rfl ?_ (.ptr _ _ (slice_addr hsr (fun _=>by omega) _)) (Option.some.inj h)
     simp only [Instr.indexAt,e1,e2,asIntOf,Sem.run_bind,run_underlying hu,Sem.run_pure,Result.andThen_ok,run_sizeOf' hi,if_pos hb]
    ·cases h
   ·cases h
  ·rename_i n e ad k i hu hxx hixx
   rw [hxx] at hx;rw [hixx] at hix
   have e2:ρ' ix=.int k i:=by generalize ρ' ix=u at hix;cases hix;rfl
   have hsh:∃ a',ρ' x=.pointer (some a')∧ARel ι m.gen ad a':=by generalize ρ' x=u at hx;cases hx;exact ⟨_,rfl,by assumption⟩
   obtain ⟨a',e1,har⟩:=hsh
   split at h
   ·rename_i inf hi
    split at h
    ·rename_i hb
     refine same (s:=Instr.indexAt t (ρ' x) (ρ' ix)) (v':=.pointer (some (a'.add (i.toNat*inf.size)))) rfl ?_ (.ptr _ _ ?_) (Option.some.inj h)
     ·simp only [Instr.indexAt,e1,e2,asIntOf,Instr.sureAddr,Sem.run_bind,run_underlying hu,Sem.run_pure,Result.andThen_ok,run_sizeOf' hi,if_pos hb]
     ·obtain ⟨ib,hbb,hle,hcur⟩:=har
      refine ⟨ib,hbb,hle,fun e=>?_⟩
      rw [hcur e,addr_add]
      simp only [Addr.mk.injEq,true_and,and_true]
      omega
    ·cases h
   ·cases h
  ·cases h
 case index t x ix =>
  split at h
  ·rename_i hp
   rw [Option.map_eq_some_iff] at h
   obtain ⟨u,hu,he⟩:=h
   have hix:=(hρ ix (by simp [Op.operands])).eq_of_plain hp
   obtain ⟨v',hr,hv⟩:=index_sound (hρ x (by simp [Op.operands])) hu
   exact same (s:=Instr.index t (ρ' x) (ρ' ix)) rfl (by rw [hix];exact dry_run hr w) hv he
  ·cases h
 case lookup t x k ok =>
  rw [Option.map_eq_some_iff] at h
  obtain ⟨u,hu,he⟩:=h
  obtain ⟨v',hr,hv⟩:=lookup_sound hs (hρ x (by simp [Op.operands])) (hρ k (by simp [Op.operands])) hu
  exact same rfl hr hv he
 case mapUpdate t x k u =>
  rw [Option.map_eq_some_iff] at h
  obtain ⟨m1,hm1,he⟩:=h
  cases he
  obtain ⟨w',ι',hr,hext,hsim⟩:=update_sound hs (hρ x (by simp [Op.operands])) (hρ k (by simp [Op.operands])) (hρ u (by simp [Op.operands])) hm1
  exact ⟨.skip,undef,w',by simp only [execOp,Sem.run_bind,hr,Result.andThen_ok,Sem.run_pure],.inr ⟨rfl,rfl⟩,ι',hext,hsim,VRel.undef⟩
 case insert t x k u =>
  rw [Option.map_eq_some_iff] at h
  obtain ⟨m1,hm1,he⟩:=h
  cases he
  obtain ⟨w',ι',hr,hext,hsim⟩:=update_sound hs (hρ x (by simp [Op.operands])) (hρ k (by simp [Op.operands])) (hρ u (by simp [Op.operands])) hm1
  exact ⟨.skip,undef,w',by simp only [execOp,Sem.run_bind,hr,Result.andThen_ok,Sem.run_pure],.inr ⟨rfl,rfl⟩,ι',hext,hsim,VRel.undef⟩
 case extract t i =>
  rw [Option.map_eq_some_iff] at h
  obtain ⟨u,hu,he⟩:=h
  obtain ⟨v',hr,hv⟩:=extract_sound (hρ t (by simp [Op.operands])) hu
  exact same rfl (dry_run hr w) hv he
 case call c =>
  obtain ⟨callee,args,aT⟩:=c
  cases callee<;>simp only [reduceCtorEq] at h
  rename_i b
  have hargs:∀ x∈args,VRel ι m.gen (ρ x) (ρ' x):=fun x hx=>hρ x (by simp [Op.operands,Call.operands,hx])
  have har:=ARels.map hargs
  cases b<;>simp only [reduceCtorEq] at h
  case append =>
   obtain ⟨v',w',hr,hp⟩:=append_sound ty hs har h
   exact ⟨.value v',v',w',by rw [run_builtin];exact run_v hr,.inl rfl,hp⟩
  case cap =>
   rw [Option.map_eq_some_iff] at h
   obtain ⟨u,hu,he⟩:=h
   cases he
   obtain ⟨hr,hv⟩:=cap_sound (w:=w) ty har hu
   exact ⟨.value _,_,w,by rw [run_builtin];exact run_v hr,.inl rfl,Post.same hs hv⟩
  case copy =>
   obtain ⟨v',w',hr,hp⟩:=copy_sound ty hs har h
   exact ⟨.value v',v',w',by rw [run_builtin];exact run_v hr,.inl rfl,hp⟩
  case len =>
   rw [Option.map_eq_some_iff] at h
   obtain ⟨u,hu,he⟩:=h
   cases he
   obtain ⟨hr,hv⟩:=len_sound ty hs har hu
   exact ⟨.value _,_,w,by rw [run_builtin];exact run_v hr,.inl rfl,Post.same hs hv⟩
  case max =>
   split at h
   ·rename_i hp
    rw [Option.map_eq_some_iff] at h
    obtain ⟨u,hu,he⟩:=h
    cases he
    obtain ⟨h1,h2⟩:=dryV_some hu
    exact ⟨.value _,_,w,by rw [run_builtin,plain_map_eq hargs hp];exact run_v (dry_run h1 w),.inl rfl,Post.same hs (VRel.plain h2)⟩
   ·cases h
  case min =>
   split at h
   ·rename_i hp
    rw [Option.map_eq_some_iff] at h
    obtain ⟨u,hu,he⟩:=h
    cases he
    obtain ⟨h1,h2⟩:=dryV_some hu
    exact ⟨.value _,_,w,by rw [run_builtin,plain_map_eq hargs hp];exact run_v (dry_run h1 w),.inl rfl,Post.same hs (VRel.plain h2)⟩
   ·cases h
end Go.Am
set_option linter.unusedSimpArgs false
set_option linter.unusedVariables false
namespace Go.Am
open Go Go.RowKit
variable {P:Program}
abbrev WF (rf:Option Nat):Fence:={ Fence.wide with round:=rf }
theorem callsIn_WF {rf:Option Nat} {nn:Nat} {f:FuncId} {as:Array Value} {w:World} {R:Ending→World→Prop} (h:Calls P f as w R):CallsIn (WF rf) nn P f as w R:=(callsIn_wide (n:=nn)).2 h
theorem wpIn_none {nn:Nat} {c:Code} {Q:Exit→Act→World→Prop} {a:Act} {w:World} (h:c.wpIn Fence.wide 0 P Q a w):c.wpIn (WF none) nn P Q a w:=(wpIn_wide (n:=nn)).2 ((wpIn_wide (n:=0)).1 h)
def AbidesB (J:Nat→World→Prop):Prop:=∀ i W W',J i W→Below W.heap.size W W'→J i W'
structure KeepsLD (W W':World):Prop where
 size:W.heap.size≤W'.heap.size
 loop:∀ (k:Nat) (o:Loop),W.heap[k]?=some (.loop o)→W'.heap[k]?=some (.loop o)
 defs:∀ (k:Nat) (o:Option (List Deferred)),W.heap[k]?=some (.deferred o)→W'.heap[k]?=some (.deferred o)
def SeqOf (P:Program) (gf:Nat) (lb:Array Value) (rows:List (List Value)) (Inv:World→Prop) (w:World):Prop :=
 ∀ (l:Nat) (J Jx:Nat→World→Prop) (W:World),Below w.heap.size w W→AbidesB J→AbidesB Jx →
  (∀ i W1 (hi:i<rows.length),J i W1→YieldAt Fence.wide 0 P l (rows[i].toArray) W1 fun e W' =>
   (e=.returned (.bool true)∧J (i+1) W'∧Inv W')∨(e=.returned (.bool false)∧Jx (i+1) W')) →
  Inv W→J 0 W →
  CallsIn Fence.wide 0 P gf (#[.func (.yield l) #[] #[]]++lb) W fun e W'=>(∃ v,e=.returned v)∧(J rows.length W'∨∃ i,Jx i W')
def roundPost (I:Nat→World→Prop) (Ix:Code→Nat→World→Prop) (i:Nat) (W:World):Exit→Act→World→Prop
 | .normal,_,W'=>KeepsLD W W'∧I i W'
 | .ret,_,W'=>KeepsLD W W'∧Ix .ret i W'
 | .exit id,_,W'=>KeepsLD W W'∧Ix (.exit id) i W'
 |_,_,_=>False
theorem wpIn_rangeFunc_seq {g:Operand} {ps:Array Tmp} {asg body:Code} {Q:Exit→Act→World→Prop} {a:Act} {w:World}
 {gf:Nat} {lb:Array Value} (hg:a.eval g=.func (.func gf) #[] lb) (eg:∀ args w,(callFunc gf args).run P w=.ok (.enter gf args) w)
 {rows:List (List Value)} {Inv:World→Prop} (hseq:SeqOf P gf lb rows Inv w)
 (I:Nat→World→Prop) (Ix:Code→Nat→World→Prop) (hI:AbidesB I) (hIp:∀ i W l o x,I i W→w.heap.size≤l→W.heap[l]?=some (.loop o)→I i (W.putObj l (.loop x))) (hIx:∀ c,AbidesB (Ix c)) (hIxp:∀ c i W l o x,Ix c i W→w.heap.size≤l→W.heap[l]?=some (.loop o)→Ix c i (W.putObj l (.loop x))) (hInv:∀ i W,I i W→Inv W) (hps:∀ i W (hi:i<rows.length),I i W→(rows[i]).length=ps.size) (h0:I 0 w)
 (hround:∀ (l i:Nat) (W:World) (hi:i<rows.length) (K:Act→World→Prop),I i W→w.heap.size≤l→W.heap.size>l→(∃ o,W.heap[l]?=some (.loop o)) →
  (∀ a1 W1,KeepsLD W W1→(∀ o,body.wpIn (Fence.wide.inRound l) 0 P (roundPost I Ix (i+1) (W1.putObj l (.loop o))) a1 (W1.putObj l (.loop o)))→K a1 W1) →
  asg.wpIn (Fence.wide.inRound l) 0 P (Exit.then K (fun _ _ _=>False)) { tmps:=(ps.zip (rows[i].toArray)).foldl (fun t (p,v)=>t.setIfInBounds p v) a.tmps,defers:=[] } W)
 (hdone:∀ (D:Nat) (W:World),w.heap.size≤D→I rows.length W→W.heap[D]?=some (.deferred (some []))→Q .normal { a with defers:={ target:=.collected D,args:=#[] }::a.defers } W)
 (hstop:∀ (D:Nat) (c:Code) (i:Nat) (W:World),w.heap.size≤D→Ix c i W→W.heap[D]?=some (.deferred (some []))→c.wpIn Fence.wide 0 P Q { a with defers:={ target:=.collected D,args:=#[] }::a.defers } W) :
 (Code.rangeFunc g ps asg body).wpIn Fence.wide 0 P Q a w:=by
 refine wpIn_rangeFunc ?_
 intro fn hfn
 obtain ⟨rec,hrec⟩:∃ rec:LoopState→Option Code→Loop,rec=fun st pe=>{ state:=st,pending:=pe,fn,tmps:=a.tmps,params:=ps,assign:=asg,body,defers:=w.heap.size }:=⟨_,rfl⟩
 obtain ⟨W1,hW1⟩:∃ W1,(w.alloc (.deferred (some []))).alloc (.loop (rec .ready none))=W1:=⟨_,rfl⟩
 have hL1:W1.heap[w.heap.size+1]?=some (.loop (rec .ready none)):=by
  rw [← hW1];have:=World.alloc_heap_new (w.alloc (.deferred (some []))) (.loop (rec .ready none));rwa [World.size_alloc] at this
 have hK1:W1.heap[w.heap.size]?=some (.deferred (some [])):=by
  rw [← hW1];exact (Below.heap_alloc _ _ _ (by simp)).trans (World.alloc_heap_new w _)
 have hI1:I 0 W1:=hI 0 w W1 h0 (by rw [← hW1];exact ((Below.refl _ w).alloc (Nat.le_refl _) _).alloc (by simp) _)
 have hb1:Below w.heap.size w W1:=by
  rw [← hW1];exact ((Below.refl _ w).alloc (Nat.le_refl _) _).alloc (by simp) _
 have hsz1:w.heap.size≤W1.heap.size:=hb1.size
 refine ⟨w.heap.size+1,[{ target:=.collected w.heap.size,args:=#[] }],W1,{ target:=.fn (.func gf) lb,args:=#[.func (.yield (w.heap.size+1)) #[] #[]] },W1,gf,
  #[.func (.yield (w.heap.size+1)) #[] #[]]++lb,W1,?_,?_,?_,?_,(fun hh=>by cases hh),?_⟩
 ·rw [← hW1,hrec];exact run_enterLoop_outer _ _ _ _ _
 ·simp only [resolve,hg]
  simp [go_sem]
 ·intro f' hf';exact trivial
 ·simp [invoke,go_sem,eg]
 ·refine (hseq (w.heap.size+1)
   (fun i W=>I i W∧W.heap[w.heap.size+1]?=some (.loop (rec .ready none))∧W.heap[w.heap.size]?=some (.deferred (some [])))
   (fun i W=>∃ c,Ix c i W∧W.heap[w.heap.size+1]?=some (.loop (rec .done (some c)))∧W.heap[w.heap.size]?=some (.deferred (some [])))
   W1 hb1
   (fun s A B hs hb=>⟨hI s A B hs.1 hb,(hb.block _ (Array.getElem?_eq_some_iff.1 hs.2.1).1).trans hs.2.1,(hb.block _ (Array.getElem?_eq_some_iff.1 hs.2.2).1).trans hs.2.2⟩)
   (fun s A B hs hb=>by
    obtain ⟨c,hc,hl,hk⟩:=hs
    exact ⟨c,hIx c s A B hc hb,(hb.block _ (Array.getElem?_eq_some_iff.1 hl).1).trans hl,(hb.block _ (Array.getElem?_eq_some_iff.1 hk).1).trans hk⟩)
   ?_ (hInv _ _ hI1) ⟨hI1,hL1,hK1⟩).mono ?_
  ·rintro i W hlen ⟨hi,hl,hk⟩
   have hlt:w.heap.size+1<W.heap.size:=(Array.getElem?_eq_some_iff.1 hl).1
   have hy:=run_yield (P:=P) (args:=rows[i].toArray) hl (by rw [hrec];simpa using hps i W hlen hi)
   rw [hrec] at hy
   refine ⟨fn,_,asg,body,hy,roundIn_of_wpIn hfn (hround _ i W hlen _ hi (by omega) hlt ⟨_,hl⟩ fun a1 Wa hka hwp=>⟨_,run_beginRound (hka.loop _ _ hl) (by rw [hrec]),?_⟩)⟩
   have hla:=hka.loop _ _ hl
   have hkd:=hka.defs _ _ hk
   have hlta:w.heap.size+1<Wa.heap.size:=(Array.getElem?_eq_some_iff.1 hla).1
   have hl2:(Wa.putObj (w.heap.size+1) (.loop { rec .ready none with state:=.busy })).heap[w.heap.size+1]?=some (.loop { rec .ready none with state:=.busy }):=World.putObj_heap_same hlta
   have hk2:(Wa.putObj (w.heap.size+1) (.loop { rec .ready none with state:=.busy })).heap[w.heap.size]?=some (.deferred (some [])):=(World.putObj_heap_other (by omega)).trans hkd
   refine wpIn_mono (hwp { rec .ready none with state:=.busy }) ?_
   have fin:∀ (jump:Option Code) (W3:World),KeepsLD (Wa.putObj (w.heap.size+1) (.loop { rec .ready none with state:=.busy })) W3 →
    (Instr.endRound (w.heap.size+1) jump).run P W3=.ok (.bool jump.isNone) (W3.putObj (w.heap.size+1) (.loop (rec (if jump.isNone then .ready else .done) jump))) ∧
    W3.heap[w.heap.size+1]?=some (.loop { rec .ready none with state:=.busy }) ∧
    (W3.putObj (w.heap.size+1) (.loop (rec (if jump.isNone then .ready else .done) jump))).heap[w.heap.size+1]?=some (.loop (rec (if jump.isNone then .ready else .done) jump)) ∧
    (W3.putObj (w.heap.size+1) (.loop (rec (if jump.isNone then .ready else .done) jump))).heap[w.heap.size]?=some (.deferred (some [])):=fun jump W3 hk3=>by
    have hl3:=hk3.loop _ _ hl2
    have:=run_endRound (P:=P) jump hl3
    rw [hrec] at this ⊢
    exact ⟨this,by rw [hrec] at hl3;exact hl3,World.putObj_heap_same (Array.getElem?_eq_some_iff.1 hl3).1,(World.putObj_heap_other (by omega)).trans (hk3.defs _ _ hk2)⟩
   rintro e a3 W3 hp
   cases e with
   |normal =>
    obtain ⟨hk3,hi3⟩:=hp
    obtain ⟨hr,hl3,hl4,hk4⟩:=fin none W3 hk3
    have hi4:=hIp _ _ _ _ (rec .ready none) hi3 (by omega) hl3
    exact ⟨_,_,hr,.inl ⟨rfl,⟨hi4,hl4,hk4⟩,hInv _ _ hi4⟩⟩
   |ret =>
    obtain ⟨hk3,hi3⟩:=hp
    obtain ⟨hr,hl3,hl4,hk4⟩:=fin (some .ret) W3 hk3
    exact ⟨_,_,hr,.inr ⟨rfl,.ret,hIxp _ _ _ _ _ _ hi3 (by omega) hl3,hl4,hk4⟩⟩
   |exit id =>
    obtain ⟨hk3,hi3⟩:=hp
    obtain ⟨hr,hl3,hl4,hk4⟩:=fin (some (.exit id)) W3 hk3
    exact ⟨_,_,hr,.inr ⟨rfl,.exit id,hIxp _ _ _ _ _ _ hi3 (by omega) hl3,hl4,hk4⟩⟩
   |goto t=>exact hp.elim
   |panic ch=>exact hp.elim
   |outgrown=>exact hp.elim
  ·rintro e W2 ⟨⟨v,rfl⟩,(⟨hi,hl,hk⟩|⟨i,c,hi,hl,hk⟩)⟩
   ·exact ⟨none,_,by have:=run_endLoop (P:=P) hl (by rw [hrec];simp);rw [hrec] at this;exact this,hdone _ _ (Nat.le_refl _) (hIp _ _ _ _ _ hi (by omega) hl) ((World.putObj_heap_other (by omega)).trans hk)⟩
   ·exact ⟨some c,_,by have:=run_endLoop (P:=P) hl (by rw [hrec];simp);rw [hrec] at this;exact this,hstop _ c i _ (Nat.le_refl _) (hIxp _ _ _ _ _ _ hi (by omega) hl) ((World.putObj_heap_other (by omega)).trans hk)⟩
end Go.Am
set_option linter.unusedSimpArgs false
set_option linter.unusedVariables false
namespace Go.Am
variable {P:Program} {G:List Nat} {ds:List Deferred} {rf:Option Nat} {nn:Nat}
def Enters (P:Program) (f:FuncId):Prop:=∃ fn,P.funcs[f]?=some fn∧fn.body.isSome=true∧(fn.name=="runtime.NumGoroutine")=false
def FnSound (P:Program) (G:List Nat) (f:FuncId) (F:List Value→Mem→Option (Value×Mem)):Prop :=
 ∀ as m v m',F as m=some (v,m')→∀ ι w (as':Array Value),Sim P G ι m w→LRel ι m.gen as as'.toList →
  Calls P f as' w fun e w'=>∃ v',e=.returned v'∧Post P G ι m w v m' v' w'
def CallSound (P:Program) (G:List Nat) (call:CallF):Prop:=∀ f,FnSound P G f (call f)∧∀ as m r,call f as m=some r→Enters P f
structure TRel (ds:List Deferred) (ι:Inj) (g:Nat→Nat) (n:Nat) (t:Tr Value) (a:Act):Prop where
 size:a.tmps.size=n
 defers:a.defers=ds
 val:∀ i,VRel ι g (tget t i) (a.tmps.getD i undef)
theorem TRel.mono {ι ι':Inj} {g g':Nat→Nat} (hl:Le ι g ι' g') {n:Nat} {t:Tr Value} {a:Act} (h:TRel ds ι g n t a):TRel ds ι' g' n t a :=
 ⟨h.size,h.defers,fun i=>(h.val i).mono hl⟩
theorem TRel.put {ι:Inj} {g:Nat→Nat} {n:Nat} {t:Tr Value} {a:Act} (h:TRel ds ι g n t a) {dst:Option Tmp} (hd:∀ d,dst=some d→d<n) {v v':Value} (hv:VRel ι g v v') :
 TRel ds ι g n (tput t dst v) (a.put dst v'):=by
 cases dst with
 |none=>exact h
 |some d =>
  have hdn:=hd d rfl
  refine ⟨by simp [Act.put,h.size],h.defers,fun i=>?_⟩
  simp only [tput,Act.put]
  rw [tget_tset]
  by_cases e:d=i
  ·subst e
   rw [if_pos rfl]
   have:(a.tmps.setIfInBounds d v').getD d undef=v':=by
    simp [h.size,hdn]
   rw [this];exact hv
  ·rw [if_neg e]
   have:(a.tmps.setIfInBounds d v').getD i undef=a.tmps.getD i undef:=by
    simp [Array.getElem?_setIfInBounds_ne e]
   rw [this];exact h.val i
theorem ev_rel {ι:Inj} {m:Mem} {w:World} {n:Nat} {t:Tr Value} {a:Act} (hs:Sim P G ι m w) (ht:TRel ds ι m.gen n t a) {x:Operand} (hx:operandOk G x=true) :
 VRel ι m.gen (ev t x) (a.eval x):=by
 cases x with
 |tmp i=>exact ht.val i
 |const v=>exact VRel.plain hx
 |global k =>
  have hk:k∈G:=by simpa [operandOk] using hx
  obtain ⟨ib,h1,h2,h3,h4,h5⟩:=hs.glob k hk
  exact .ptr _ _ ⟨ib,h1,Nat.zero_le _,fun _=>by simp [h2,h3.1]⟩
 |func f=>exact .fn f [] [] [] [] rfl (fun i hi=>absurd hi (by simp)) rfl (fun i hi=>absurd hi (by simp))
theorem VRel.bool_iff {ι:Inj} {g:Nat→Nat} {v v':Value} (h:VRel ι g v v') (b:Bool):v=.bool b↔v'=.bool b:=by
 constructor
 ·intro e;subst e;cases h;rfl
 ·intro e;subst e;cases h;rfl
theorem yielded_eq {ι:Inj} {g:Nat→Nat} {n:Nat} {t:Tr Value} {a:Act} (ht:TRel ds ι g n t a) (ops:Array Oper) (j:Nat):yielded ops a.tmps j=ayielded ops t j:=by
 unfold yielded ayielded
 cases hd:(ops[j]?).bind (·.dst) with
 |none=>rfl
 |some d =>
  simp only [Option.bind_some]
  have hv:=ht.val d
  cases ha:a.tmps[d]? with
  |none =>
   have e:a.tmps.getD d undef=undef:=by simp [ha]
   rw [e] at hv
   have:∀ b,tget t d≠.bool b:=fun b hb=>by
    have:=(hv.bool_iff b).1 hb
    cases this
   split
   ·rename_i h;cases h
   ·split
    ·rename_i b hb;exact absurd hb (this b)
    ·rfl
  |some u =>
   have e:a.tmps.getD d undef=u:=by simp [ha]
   rw [e] at hv
   split
   ·rename_i b hb
    cases hb
    have:=(hv.bool_iff b).2 rfl
    rw [this]
   ·rename_i hne
    split
    ·rename_i b hb
     have:=(hv.bool_iff b).1 hb
     exact absurd (by rw [this]) (hne b)
    ·rfl
theorem wanted_eq {ι:Inj} {g:Nat→Nat} {n:Nat} {t:Tr Value} {a:Act} (ht:TRel ds ι g n t a) (ops:Array Oper) (o:Oper) :
 Region.wanted o (yielded ops a.tmps)=Region.wanted o (ayielded ops t):=by
 unfold Region.wanted
 cases o.guard with
 |none=>rfl
 |some p=>obtain ⟨j,b⟩:=p;simp only [yielded_eq ht]
theorem aval_sound {call:CallF} {ι:Inj} {m m':Mem} {w:World} {ρ:Operand→Value} {o:Oper} {v:Value} {a:Act} (hc:CallSound P G call) (hs:Sim P G ι m w)
 (hρ:∀ x∈o.op.operands,VRel ι m.gen (ρ x) (a.eval x)) (h:aval P call ρ o m=some (v,m')) {K:Act→World→Prop} {Q:Exit→Act→World→Prop}
 (hk:∀ v' w',Post P G ι m w v m' v' w'→K (a.put o.dst v') w'):o.wpIn (WF rf) nn P a w K Q:=by
 unfold aval at h
 split at h
 ·rename_i f args aT hop
  rw [hop] at hρ
  have hf:=hρ f (by simp [Op.operands,Call.operands])
  have hargs:∀ x∈args,VRel ι m.gen (ρ x) (a.eval x):=fun x hx=>hρ x (by simp [Op.operands,Call.operands,hx])
  split at h
  ·rename_i g fs cs hfv
   rw [hfv] at hf
   obtain ⟨fs',cs',e1,hfs,hcs⟩:∃ fs' cs',a.eval f=.func (.func g) fs' cs'∧LRel ι m.gen fs.toList fs'.toList∧LRel ι m.gen cs.toList cs'.toList:=by
    generalize a.eval f=u at hf
    cases hf with
    |fn _ l1 l2 l3 l4 h1 h2 h3 h4=>exact ⟨⟨l2⟩,⟨l4⟩,rfl,⟨h1,h2⟩,⟨h3,h4⟩⟩
   obtain ⟨hsound,henters⟩:=hc g
   obtain ⟨fn,hfn,hbody,hname⟩:=henters _ _ _ h
   have hcall:=hsound _ _ _ _ h ι w (fs'++args.map a.eval++cs') hs (by
    rw [Array.toList_append,Array.toList_append,Array.toList_map]
    exact (hfs.append (LRel.mapArr fun x hx=>hargs x (by simpa using hx))).append hcs)
   have hrun:(execOp a.eval o).run P w=.ok (.enter g (fs'++args.map a.eval++cs')) w:=by
    simp only [execOp,hop,resolve,e1,Deferred.ofValue,Sem.run_bind,Sem.run_pure,Result.andThen_ok,invoke,callFunc,run_program,hfn,hname,Bool.false_eq_true,if_false]
    have:fn.body.isNone=false:=by cases hb:fn.body<;>simp_all
    simp [this]
   unfold Oper.wpIn
   rw [Oper.semAt_eq _ _ _ (fun c hc=>by rw [hop] at hc;cases hc),hrun]
   refine ⟨fun _ _=>trivial,?_⟩
   rw [Oper.uponIn_enter]
   refine ⟨(fun hh=>by cases hh),?_⟩
   exact (callsIn_WF hcall).mono fun e w' he=>by
    obtain ⟨v',rfl,hp⟩:=he
    exact hk v' w' hp
  ·cases h
 ·obtain ⟨nx,v',w',hr,hn,hp⟩:=aop_sound hs hρ h
  unfold Oper.wpIn
  rw [Oper.semAt_eq _ _ _ (fun c hc=>by rw [aop,hc] at h;cases h),hr]
  refine ⟨fun _ _=>trivial,?_⟩
  rcases hn with rfl|⟨rfl,rfl⟩
  ·exact hk v' w' hp
  ·exact hk undef w' hp
def Stands (P:Program) (G:List Nat) (ds:List Deferred) (n:Nat) (s:St) (ι:Inj) (a:Act) (w:World):Prop:=Sim P G ι s.m w∧TRel ds ι s.m.gen n s.t a
def Reach (P:Program) (G:List Nat) (ds:List Deferred) (n:Nat) (ι:Inj) (s:St) (w:World) (s':St) (a':Act) (w':World):Prop :=
 ∃ ι',Ext ι s.m w ι' s'.m w'∧Stands P G ds n s' ι' a' w'
theorem Reach.trans {n:Nat} {ι:Inj} {s s' s'':St} {w w' w'':World} {a a' a'':Act} (hs:Stands P G ds n s ι a w) (h:Reach P G ds n ι s w s' a' w')
 (k:∀ ι',Ext ι s.m w ι' s'.m w'→Stands P G ds n s' ι' a' w'→Reach P G ds n ι' s' w' s'' a'' w''):Reach P G ds n ι s w s'' a'' w'':=by
 obtain ⟨ι',h1,h2⟩:=h
 obtain ⟨ι'',k1,k2⟩:=k ι' h1 h2
 exact ⟨ι'',Ext.trans hs.1 h1 k1,k2⟩
theorem operOk_spec {n:Nat} {o:Oper} (h:operOk G n o=true):(∀ x∈o.op.operands,operandOk G x=true)∧(∀ d,o.dst=some d→d<n):=by
 unfold operOk at h
 simp only [Bool.and_eq_true] at h
 obtain ⟨⟨h1,h2⟩,_⟩:=h
 refine ⟨fun x hx=>?_,fun d hd=>?_⟩
 ·exact Array.all_eq_true_iff_forall_mem.1 h1 x hx
 ·rw [hd] at h2;simpa using h2
theorem asteps_sound {call:CallF} (hc:CallSound P G call) {n:Nat} {ops:Array Oper} {Q:Exit→Act→World→Prop}:∀ (l:List Oper) (s s':St) (ι:Inj) (a:Act) (w:World),
 (∀ o∈l,operOk G n o=true)→asteps P call ops l s=some s'→Stands P G ds n s ι a w→(∀ a' w',Reach P G ds n ι s w s' a' w'→Q .normal a' w')→wpListIn (WF rf) nn P ops Q l a w
 |[],s,s',ι,a,w,_,h,hst,hq=>by
  cases h
  exact hq a w ⟨ι,Ext.refl _ _ _,hst⟩
 |o::l,s,s',ι,a,w,hok,h,hst,hq=>by
  simp only [asteps] at h
  cases h1:astep P call ops o s with
  |none=>rw [h1] at h;cases h
  |some s1 =>
   rw [h1] at h
   obtain ⟨hop,hdst⟩:=operOk_spec (hok o (by simp))
   have rest:∀ a1 w1,Reach P G ds n ι s w s1 a1 w1→wpListIn (WF rf) nn P ops Q l a1 w1:=fun a1 w1 hr=>by
    obtain ⟨ι1,he,hst1⟩:=hr
    refine asteps_sound hc l s1 s' ι1 a1 w1 (fun o ho=>hok o (by simp [ho])) h hst1 fun a' w' hr'=>hq a' w' ?_
    obtain ⟨ι2,k1,k2⟩:=hr'
    exact ⟨ι2,Ext.trans hst.1 he k1,k2⟩
   unfold wpListIn
   rw [wanted_eq hst.2]
   unfold astep at h1
   split at h1
   ·rename_i hw
    rw [if_pos hw]
    unfold aact at h1
    cases hv:aval P call (ev s.t) o s.m with
    |none=>rw [hv] at h1;cases h1
    |some r =>
     obtain ⟨v,m1⟩:=r
     rw [hv] at h1
     cases h1
     refine aval_sound hc hst.1 (fun x hx=>ev_rel hst.1 hst.2 (hop x hx)) hv fun v' w' hp=>rest _ _ ?_
     obtain ⟨ι1,he,hsim,hvr⟩:=hp
     exact ⟨ι1,he,hsim,(hst.2.mono he.le).put hdst hvr⟩
   ·rename_i hw
    rw [if_neg hw]
    cases h1
    refine ⟨fun _ _=>trivial,?_⟩
    exact rest _ _ ⟨ι,Ext.refl _ _ _,hst.1,hst.2.put hdst VRel.undef⟩
def AExit.toExit:AExit→Exit
 | .normal=>.normal
 | .ret=>.ret
 | .exit id=>.exit id
def DrawSound (P:Program) (G:List Nat) (call:CallF):Prop:=∀ (ds:List Deferred) (rf:Option Nat) (nn n id:Nat) (ops:Array Oper) (s s':St) (ι:Inj) (a:Act) (w:World) (Q:Exit→Act→World→Prop),
 (∀ o∈ops.toList,operOk G n o=true)→drawOk ops=true→dsteps P call ops 0 ops.toList s=some s'→Stands P G ds n s ι a w →
 (∀ a' w',Reach P G ds n ι s w s' a' w'→Q .normal a' w')→(Code.region id ops true).wpIn (WF rf) nn P Q a w
def Marks (B:Nat) (w:World):List Deferred→Prop
 |[]=>B≤w.heap.size
 |d::ds=>(∃ D,d={ target:=.collected D,args:=#[] }∧B≤D∧w.heap[D]?=some (.deferred (some []))∧∀ d'∈ds,d'≠d)∧Marks B w ds
theorem Marks.base {B:Nat} {w:World}:∀ {ds:List Deferred},Marks B w ds→B≤w.heap.size
 |[],h=>h
 |_::_,⟨_,h⟩=>Marks.base h
theorem brel_not {ι:Inj} {g:Nat→Nat} {ib:IB} {x:ABlk} {o:Obj} (h:BRel P ι g ib x (some o)) (hc:o.isCells=false):∃ es c,o=.map es c:=by
 cases x<;>cases o<;>simp only [BRel] at h<;>first|cases h|skip
 ·cases hc
 ·exact ⟨_,_,rfl⟩
theorem Marks.ext {ι ι':Inj} {m m':Mem} {w w':World} {B:Nat} (hs:Sim P G ι m w) (h:Ext ι m w ι' m' w'):∀ {ds:List Deferred},Marks B w ds→Marks B w' ds
 |[],hb=>Nat.le_trans hb h.heap
 |d::ds,⟨⟨D,e,hBD,hD,hne⟩,hr⟩=>by
  refine ⟨⟨D,e,hBD,?_,hne⟩,Marks.ext hs h hr⟩
  rw [h.frame D (Array.getElem?_eq_some_iff.1 hD).1 ?_];exact hD
  intro b ib hb hc
  have h1:=hs.blk b ib hb
  rw [hc,hD] at h1
  obtain ⟨_,_,h2⟩:=brel_not h1 rfl
  cases h2
theorem Marks.lt {B:Nat} {w:World}:∀ {ds:List Deferred},Marks B w ds→∀ d∈ds,∃ D,d={ target:=.collected D,args:=#[] }∧D<w.heap.size
 |d::ds,⟨⟨D,e,_,hD,_⟩,hr⟩,d',hd=>by
  rcases List.mem_cons.1 hd with rfl|hd
  ·exact ⟨D,e,(Array.getElem?_eq_some_iff.1 hD).1⟩
  ·exact Marks.lt hr d' hd
theorem sim_lowTo {ι:Inj} {m:Mem} {w:World} (hs:Sim P G ι m w) (k:Nat):Sim P G ι (lowTo m k) w:=⟨hs.dom,hs.blk,hs.inj,hs.glob⟩
theorem ext_join {ι ι' ι'':Inj} {m m' m'':Mem} {w w' w'':World} (hs:Sim P G ι m w) (h:Ext ι m w ι' m' w') (k:Ext ι' (lowTo m' m'.size) w' ι'' m'' w''):Ext ι m w ι'' (lowTo m'' (min m'.low m''.low)) w'':=by
 have kget:∀ b,b<m'.size→b<m''.low→m''.get b=m'.get b:=k.keep
 refine ⟨Nat.le_trans h.size k.size,Nat.le_trans (Nat.min_le_left _ _) h.low,fun b hb hl=>?_,fun b hb hr=>?_,fun b hb=>?_,h.le.trans k.le,fun b ib'' hb=>?_,fun b ib'' hb=>?_,
  Nat.le_trans h.heap k.heap,fun c hc hf=>?_,k.tape.trans h.tape,k.os.trans h.os,k.output.trans h.output⟩
 ·have hl':b<min m'.low m''.low:=hl
  exact (kget b (Nat.lt_of_lt_of_le hb h.size) (by omega)).trans (h.keep b hb (by omega))
 ·exact (k.ro b (Nat.lt_of_lt_of_le hb h.size) ((h.ro' b hb).trans hr)).trans (h.ro b hb hr)
 ·exact (k.ro' b (Nat.lt_of_lt_of_le hb h.size)).trans (h.ro' b hb)
 ·rcases k.back b ib'' hb with ⟨ib',h1,h2⟩|h1
  ·rcases h.back b ib' h1 with ⟨ib,h3,h4⟩|h3
   ·exact .inl ⟨ib,h3,h4.trans h2⟩
   ·exact .inr (h2▸h3)
  ·exact .inr (Nat.le_trans h.heap h1)
 ·rcases k.dom b ib'' hb with ⟨ib',h1⟩|h1
  ·exact h.dom b ib' h1
  ·exact .inr (Nat.le_trans h.size h1)
 ·have hf':∀ b ib,ι b=some ib→ib.blk=c→m.ro b=true∨b<min m'.low m''.low:=hf
  rw [k.frame c (Nat.lt_of_lt_of_le hc h.heap) ?_,h.frame c hc ?_]
  ·intro b ib hb hc'
   rcases hf' b ib hb hc' with h1|h1
   ·exact .inl h1
   ·exact .inr (by omega)
  ·intro b ib' hb hc'
   rcases h.back b ib' hb with ⟨ib,h1,h2⟩|h1
   ·rcases hf' b ib h1 (h2.trans hc') with h3|h3
    ·exact .inl ((h.ro' b (hs.dom b ib h1).1).trans h3)
    ·exact .inr (by omega)
   ·exact absurd hc (by omega)
theorem ext_below {ι ι':Inj} {m m':Mem} {w W W':World} (h:Ext ι m w ι' m' W) (hb:Go.RowKit.Below W.heap.size W W'):Ext ι m w ι' m' W' :=
 ⟨h.size,h.low,h.keep,h.ro,h.ro',h.le,h.back,h.dom,Nat.le_trans h.heap hb.size,fun c hc hf=>(hb.block c (Nat.lt_of_lt_of_le hc h.heap)).trans (h.frame c hc hf),hb.tape.trans h.tape,hb.os.trans h.os,hb.output.trans h.output⟩
theorem sim_below {ι:Inj} {m:Mem} {w w':World} (hs:Sim P G ι m w) (hb:Go.RowKit.Below w.heap.size w w'):Sim P G ι m w' :=
 ⟨fun b ib h=>⟨(hs.dom b ib h).1,Nat.lt_of_lt_of_le (hs.dom b ib h).2 hb.size⟩,fun b ib h=>by rw [hb.block ib.blk (hs.dom b ib h).2];exact hs.blk b ib h,hs.inj,hs.glob⟩
theorem ext_put {ι ι':Inj} {m m':Mem} {w W:World} {l:Nat} (h:Ext ι m w ι' m' W) (hl:w.heap.size≤l) (x:Obj):Ext ι m w ι' m' (W.putObj l x) :=
 ⟨h.size,h.low,h.keep,h.ro,h.ro',h.le,h.back,h.dom,by simpa using h.heap,fun c hc hf=>(World.putObj_heap_other (by omega)).trans (h.frame c hc hf),h.tape,h.os,h.output⟩
theorem ext_put2 {ι ι':Inj} {m m':Mem} {w W:World} {l:Nat} (h:Ext ι m w ι' m' W) (hl:l<w.heap.size) (x:Obj):Ext ι m (w.putObj l x) ι' m' (W.putObj l x):=by
 refine ⟨h.size,h.low,h.keep,h.ro,h.ro',h.le,fun b ib' hb=>by simpa using h.back b ib' hb,h.dom,by simpa using h.heap,fun c hc hf=>?_,h.tape,h.os,h.output⟩
 by_cases e:c=l
 ·subst e
  rw [World.putObj_heap_same hl,World.putObj_heap_same (Nat.lt_of_lt_of_le hl h.heap)]
 ·rw [World.putObj_heap_other e,World.putObj_heap_other e]
  exact h.frame c (by simpa using hc) hf
theorem keeps_of {ι ι':Inj} {m m':Mem} {w w':World} (hs:Sim P G ι m w) (h:Ext ι m w ι' m' w'):KeepsLD w w':=by
 have key:∀ (k:Nat) (o:Obj),w.heap[k]?=some o→o.isCells=false→(∀ es c,o≠.map es c)→w'.heap[k]?=some o:=fun k o hk ho hm=>by
  rw [h.frame k (Array.getElem?_eq_some_iff.1 hk).1 ?_];exact hk
  intro b ib hb hc
  have h1:=hs.blk b ib hb
  rw [hc,hk] at h1
  obtain ⟨es,c,h2⟩:=brel_not h1 ho
  exact absurd h2 (hm es c)
 exact ⟨h.heap,fun k o hk=>key k _ hk rfl (fun _ _ e=>by cases e),fun k o hk=>key k _ hk rfl (fun _ _ e=>by cases e)⟩
theorem sim_put {ι:Inj} {m:Mem} {W:World} {l:Nat} {o:Loop} (hs:Sim P G ι m W) (ho:W.heap[l]?=some (.loop o)) (x:Obj):Sim P G ι m (W.putObj l x):=by
 have hg:=grownBy_putObj' W l x
 refine ⟨fun b ib hb=>⟨(hs.dom b ib hb).1,Nat.lt_of_lt_of_le (hs.dom b ib hb).2 hg.size⟩,fun b ib hb=>?_,hs.inj,hs.glob⟩
 rw [hg.block ib.blk (hs.dom b ib hb).2 ?_];exact hs.blk b ib hb
 intro e
 have e':ib.blk=l:=by cases e;rfl
 have h4:=hs.blk b ib hb
 rw [e',ho] at h4
 obtain ⟨_,_,h5⟩:=brel_not h4 rfl
 cases h5
theorem trel_putAll {ι:Inj} {g:Nat→Nat} {n:Nat}:∀ (ps:List Tmp) (vs:List Value) {t:Tr Value} {T:Array Value},TRel ds ι g n t { tmps:=T,defers:=ds }→(∀ p∈ps,p<n)→vs.all plain=true →
 TRel ds ι g n (putAll t ps vs) { tmps:=(ps.zip vs).foldl (fun t (p,v)=>t.setIfInBounds p v) T,defers:=ds }
 |[],_,t,T,h,_,_=>by simpa [putAll] using h
 |p::ps,[],t,T,h,_,_=>by simpa [putAll] using h
 |p::ps,v::vs,t,T,h,hp,hv=>by
  simp only [List.all_cons,Bool.and_eq_true] at hv
  have h1:=h.put (dst:=some p) (fun d hd=>by cases hd;exact hp p (List.mem_cons_self ..)) (VRel.plain hv.1)
  exact trel_putAll ps vs (t:=tset t p v) (T:=T.setIfInBounds p v) h1 (fun q hq=>hp q (List.mem_cons_of_mem _ hq)) hv.2
theorem zip_foldl (ps:Array Tmp) (vs:List Value) (T:Array Value):(ps.zip vs.toArray).foldl (fun t (p,v)=>t.setIfInBounds p v) T=(ps.toList.zip vs).foldl (fun t (p,v)=>t.setIfInBounds p v) T:=by
 rw [← Array.foldl_toList,Array.toList_zip]
theorem enters_run {g:FuncId} (h:Enters P g) (args:Array Value) (w:World):(callFunc g args).run P w=.ok (.enter g args) w:=by
 obtain ⟨fn,hfn,hbody,hname⟩:=h
 simp only [callFunc,run_program,hfn,hname,Bool.false_eq_true,if_false,Sem.run_bind,Result.andThen_ok]
 have:fn.body.isNone=false:=by cases hb:fn.body<;>simp_all
 simp [this]
def SeqInv (P:Program) (G:List Nat) (ask:Mem→Prop) (lb:List Value) (lb':Array Value) (W:World):Prop:=∃ ι m,Sim P G ι m W∧LRel ι m.gen lb lb'.toList∧ask m
def SeqSound (P:Program) (G:List Nat) (call:CallF):Prop:=∀ (g:FuncId) (fn:Func) (lb:List Value) (m m1:Mem) (v:Value) (rows:List (List Value)),P.funcs[g]?=some fn→call g (seqAs fn.ntmps lb) m=some (v,m1)→seqRows v=some rows →
 Enters P g∧∀ (ι:Inj) (w:World) (lb':Array Value),Sim P G ι m w→LRel ι m.gen lb lb'.toList→SeqOf P g lb' rows (SeqInv P G (fun m'=>∃ m1',call g (seqAs fn.ntmps lb) m'=some (v,m1')) lb lb') w
theorem rangeRows_cons {n:Nat} {asg body:St→Option (AExit×St)} {ask:Mem→Prop} {t:Tr Value} {ps:List Tmp} {vs:List Value} {rest:List (List Value)} {m m':Mem} {x:AExit} (h:rangeRows n asg body ask t ps (vs::rest) m=some (x,m')) :
 vs.length=n∧vs.all plain=true∧∃ s1,asg { t:=putAll t ps vs,m:=lowTo m m.size }=some (.normal,s1)∧∃ xb s2,body s1=some (xb,s2) ∧
  ((xb=.normal∧ask (lowTo s2.m (min m.low s2.m.low))∧rangeRows n asg body ask t ps rest (lowTo s2.m (min m.low s2.m.low))=some (x,m'))∨(xb≠.normal∧x=xb∧m'=lowTo s2.m (min m.low s2.m.low))):=by
 unfold rangeRows at h
 split at h
 case isFalse=>cases h
 rename_i hc
 refine ⟨hc.1,hc.2,?_⟩
 split at h
 case h_2=>cases h
 rename_i s1 h1
 refine ⟨s1,h1,?_⟩
 split at h
 case h_2=>cases h
 rename_i xb s2 h3
 refine ⟨xb,s2,h3,?_⟩
 cases xb with
 |normal =>
  simp only at h
  split at h
  case isFalse=>cases h
  rename_i h5
  exact .inl ⟨rfl,h5,h⟩
 |ret=>cases h;exact .inr ⟨(fun e=>by cases e),rfl,rfl⟩
 |exit id=>cases h;exact .inr ⟨(fun e=>by cases e),rfl,rfl⟩
def jumpOf:AExit→Code→Prop
 | .normal,_=>False
 | .ret,c=>c=.ret
 | .exit id,c=>c=.exit id
theorem range_sound {call:CallF} (hsq:SeqSound P G call) {n:Nat} {f:Operand} {ps:Array Tmp} {asg body:Code} {fA fB:St→Option (AExit×St)}
 (ihA:∀ (l:Nat) (s s':St) (x:AExit) (ι:Inj) (a:Act) (w:World) (Q:Exit→Act→World→Prop),fA s=some (x,s')→Stands P G [] n s ι a w→(∀ a' w' ι',Ext ι s.m w ι' s'.m w'→Sim P G ι' s'.m w'→(x=.normal→Stands P G [] n s' ι' a' w')→Q x.toExit a' w')→asg.wpIn (WF (some l)) 0 P Q a w)
 (ihB:∀ (l:Nat) (s s':St) (x:AExit) (ι:Inj) (a:Act) (w:World) (Q:Exit→Act→World→Prop),fB s=some (x,s')→Stands P G [] n s ι a w→(∀ a' w' ι',Ext ι s.m w ι' s'.m w'→Sim P G ι' s'.m w'→(x=.normal→Stands P G [] n s' ι' a' w')→Q x.toExit a' w')→body.wpIn (WF (some l)) 0 P Q a w)
 (hpn:∀ p∈ps.toList,p<n) {s:St} {ι:Inj} {a:Act} {w:World} {Q:Exit→Act→World→Prop} (hst:Stands P G ds n s ι a w) {B:Nat} (hmk:Marks B w ds) (hf:operandOk G f=true)
 {g:FuncId} {fs lb:Array Value} (hev:ev s.t f=.func (.func g) fs lb) (hfs:fs.size=0) {fn:Func} (hfn:P.funcs[g]?=some fn) {v:Value} {m0:Mem} (hcall:call g (seqAs fn.ntmps lb.toList) s.m=some (v,m0)) {rows:List (List Value)} (hrows:seqRows v=some rows)
 {x:AExit} {m':Mem} (hrun:rangeRows ps.size fA fB (fun m'=>∃ m1,call g (seqAs fn.ntmps lb.toList) m'=some (v,m1)) s.t ps.toList rows s.m=some (x,m'))
 (hq:∀ ds' a' w' ι',Ext ι s.m w ι' m' w'→Stands P G ds' n { t:=s.t,m:=m' } ι' a' w'→Marks B w' ds'→Q x.toExit a' w'):(Code.rangeFunc f ps asg body).wpIn Fence.wide 0 P Q a w:=by
 obtain ⟨hent,hseq⟩:=hsq g fn lb.toList s.m m0 v rows hfn hcall hrows
 have hfr:=ev_rel hst.1 hst.2 hf
 rw [hev] at hfr
 obtain ⟨lb',hg,hlb⟩:∃ lb',a.eval f=.func (.func g) #[] lb'∧LRel ι s.m.gen lb.toList lb'.toList:=by
  generalize a.eval f=u at hfr
  cases hfr with
  |fn _ l1 l2 l3 l4 h1 h2 h3 h4 =>
   have e:l2=[]:=List.eq_nil_of_length_eq_zero (by rw [← h1];exact hfs)
   subst e
   exact ⟨⟨l4⟩,rfl,h3,h4⟩
 have hso:=hseq ι w lb' hst.1 hlb
 generalize hask:(fun m'=>∃ m1,call g (seqAs fn.ntmps lb.toList) m'=some (v,m1))=ask at *
 have hask0:ask s.m:=by rw [← hask];exact ⟨m0,hcall⟩
 clear hcall
 refine wpIn_rangeFunc_seq (g:=f) (gf:=g) (lb:=lb') (rows:=rows) (Inv:=SeqInv P G ask lb.toList lb') hg (enters_run hent) hso
  (fun i W=>∃ ι1 m1,Ext ι s.m w ι1 m1 W∧Sim P G ι1 m1 W∧rangeRows ps.size fA fB ask s.t ps.toList (rows.drop i) m1=some (x,m')∧ask m1)
  (fun c _ W=>jumpOf x c∧∃ ι1,Ext ι s.m w ι1 m' W∧Sim P G ι1 m' W) ?_ ?_ ?_ ?_ ?_ ?_ ?_ ?_ ?_ ?_
 ·rintro i W W' ⟨ι1,m1,h1,h2,h3,h5⟩ hb
  exact ⟨ι1,m1,ext_below h1 hb,sim_below h2 hb,h3,h5⟩
 ·rintro i W l o x' ⟨ι1,m1,h1,h2,h3,h5⟩ hl ho
  exact ⟨ι1,m1,ext_put h1 hl _,sim_put h2 ho _,h3,h5⟩
 ·rintro c i W W' ⟨h0,ι1,h1,h2⟩ hb
  exact ⟨h0,ι1,ext_below h1 hb,sim_below h2 hb⟩
 ·rintro c i W l o x' ⟨h0,ι1,h1,h2⟩ hl ho
  exact ⟨h0,ι1,ext_put h1 hl _,sim_put h2 ho _⟩
 ·rintro i W ⟨ι1,m1,h1,h2,h3,h5⟩
  exact ⟨ι1,m1,h2,⟨hlb.1,fun k hk=>(hlb.2 k hk).mono h1.le⟩,h5⟩
 ·rintro i W hi ⟨ι1,m1,h1,h2,h3,h5⟩
  rw [List.drop_eq_getElem_cons hi] at h3
  exact (rangeRows_cons h3).1
 ·exact ⟨ι,s.m,Ext.refl _ _ _,hst.1,by rw [List.drop_zero];exact hrun,hask0⟩
 ·rintro l i W hi K ⟨ι1,m1,h1,h2,h3,h5⟩ hl hlW ⟨o,ho⟩ hK
  rw [List.drop_eq_getElem_cons hi] at h3
  obtain ⟨e1,e2,s1,e3,xb,s2,e5,e7⟩:=rangeRows_cons h3
  have hT:TRel [] ι1 m1.gen n s.t { tmps:=a.tmps,defers:=[] }:=⟨hst.2.size,rfl,fun k=>(hst.2.val k).mono h1.le⟩
  have hT2:=trel_putAll ps.toList rows[i] hT hpn e2
  rw [← zip_foldl] at hT2
  refine ihA l _ s1 .normal ι1 _ W _ e3 ⟨sim_lowTo h2 _,hT2⟩ fun a1 w1 ι2 x1 x2 x3=>?_
  have hst1:=x3 rfl
  have hka:KeepsLD W w1:=keeps_of (sim_lowTo h2 _) x1
  refine hK a1 w1 hka fun o'=>?_
  have ho1:=hka.loop _ _ ho
  have hsim2:=sim_put hst1.1 ho1 (.loop o')
  refine ihB l s1 s2 xb ι2 a1 _ _ e5 ⟨hsim2,hst1.2⟩ fun a3 w3 ι3 y1 y2 y3=>?_
  have hA:=ext_put h1 hl (.loop o')
  have hE:=Ext.trans (sim_put (sim_lowTo h2 m1.size) ho (.loop o')) (ext_put2 x1 hlW (.loop o')) y1
  have hE4:Ext ι s.m w ι3 (lowTo s2.m (min m1.low s2.m.low)) w3:=ext_join hst.1 hA hE
  have hkb:KeepsLD (w1.putObj l (.loop o')) w3:=keeps_of hsim2 y1
  rcases e7 with ⟨rfl,q1,q2⟩|⟨q0,rfl,rfl⟩
  ·exact ⟨hkb,ι3,_,hE4,sim_lowTo y2 _,q2,q1⟩
  ·cases x with
   |normal=>exact absurd rfl q0
   |ret=>exact ⟨hkb,rfl,ι3,hE4,sim_lowTo y2 _⟩
   |exit id=>exact ⟨hkb,rfl,ι3,hE4,sim_lowTo y2 _⟩
 ·rintro D W hD ⟨ι1,m1,h1,h2,h3,h5⟩ hDo
  rw [List.drop_length] at h3
  simp only [rangeRows,Option.some.injEq,Prod.mk.injEq] at h3
  obtain ⟨rfl,rfl⟩:=h3
  have hmk':=hmk.ext hst.1 h1
  refine hq ({ target:=.collected D,args:=#[] }::ds) _ W ι1 h1 ⟨h2,hst.2.size,by rw [hst.2.defers],fun k=>(hst.2.val k).mono h1.le⟩ ⟨⟨D,rfl,Nat.le_trans hmk.base hD,hDo,fun d' hd' e=>?_⟩,hmk'⟩
  obtain ⟨D',e1,e2⟩:=hmk.lt d' hd'
  rw [e1] at e
  cases e
  omega
 ·rintro D c i W hD ⟨h0,ι1,h1,h2⟩ hDo
  have hmk':=hmk.ext hst.1 h1
  have hfin:Q x.toExit { a with defers:={ target:=.collected D,args:=#[] }::a.defers } W:=by
   refine hq ({ target:=.collected D,args:=#[] }::ds) _ W ι1 h1 ⟨h2,hst.2.size,by rw [hst.2.defers],fun k=>(hst.2.val k).mono h1.le⟩ ⟨⟨D,rfl,Nat.le_trans hmk.base hD,hDo,fun d' hd' e=>?_⟩,hmk'⟩
   obtain ⟨D',e1,e2⟩:=hmk.lt d' hd'
   rw [e1] at e
   cases e
   omega
  cases x with
  |normal=>exact h0.elim
  |ret=>cases h0;exact wpIn_ret hfin
  |exit id=>cases h0;exact wpIn_exit hfin
theorem aexec_sound {call:CallF} (hc:CallSound P G call) (hsq:SeqSound P G call) (hd:DrawSound P G call) {n N:Nat}:∀ (c:Code) (B:Nat) (ds:List Deferred) (rf:Option Nat) (nn:Nat) (s s':St) (x:AExit) (ι:Inj) (a:Act) (w:World) (Q:Exit→Act→World→Prop),
 (rf=none∨flat c=true)→codeOk G n c=true→aexec P call N c s=some (x,s')→Stands P G ds n s ι a w→Marks B w ds →
 (∀ ds' a' w',Reach P G ds' n ι s w s' a' w'→Marks B w' ds'→(flat c=true→ds'=ds)→Q x.toExit a' w')→c.wpIn (WF rf) nn P Q a w:=by
 intro c
 induction c with
 |skip=>intro B ds rf nn s s' x ι a w Q _ _ h hst hmk hq;cases h;exact wpIn_skip (hq ds a w ⟨ι,Ext.refl _ _ _,hst⟩ hmk fun _=>rfl)
 |label l=>intro B ds rf nn s s' x ι a w Q _ _ h hst hmk hq;cases h;exact wpIn_label (hq ds a w ⟨ι,Ext.refl _ _ _,hst⟩ hmk fun _=>rfl)
 |ret=>intro B ds rf nn s s' x ι a w Q _ _ h hst hmk hq;cases h;exact wpIn_ret (hq ds a w ⟨ι,Ext.refl _ _ _,hst⟩ hmk fun _=>rfl)
 |exit id=>intro B ds rf nn s s' x ι a w Q _ _ h hst hmk hq;cases h;exact wpIn_exit (hq ds a w ⟨ι,Ext.refl _ _ _,hst⟩ hmk fun _=>rfl)
 |goto l=>intro B ds rf nn s s' x ι a w Q _ hok;cases hok
 |scope b _=>intro B ds rf nn s s' x ι a w Q _ hok;cases hok
 |refuse y=>intro B ds rf nn s s' x ι a w Q _ hok;cases hok
 |rangeFunc f ps y z ihy ihz =>
  intro B ds rf nn s s' x ι a w Q hfl hok h hst hmk hq
  have hrf:rf=none:=hfl.resolve_right (by simp [flat])
  subst hrf
  simp only [codeOk,Bool.and_eq_true] at hok
  obtain ⟨⟨⟨hok1,hok2⟩,hok3⟩,hok4⟩:=hok
  simp only [aexec] at h
  split at h
  case h_2=>cases h
  rename_i g fs lb hev
  split at h
  case h_2=>cases h
  rename_i fn hfn
  split at h
  case isFalse=>cases h
  rename_i hc0
  obtain ⟨hfs,hfy,hfz⟩:=hc0
  split at h
  case h_2=>cases h
  rename_i v m0 hcall
  split at h
  case h_2=>cases h
  rename_i rows hrows
  rw [Option.map_eq_some_iff] at h
  obtain ⟨⟨x1,m'⟩,hrun,he⟩:=h
  cases he
  refine wpIn_none (range_sound hsq (fun l s s' x ι a w Q h1 h2 h3=>?_) (fun l s s' x ι a w Q h1 h2 h3=>?_) (fun p hp=>?_) hst hmk hok1 hev hfs hfn hcall hrows hrun fun ds' a' w' ι' h1 h2 h3=>hq ds' a' w' ⟨ι',h1,h2⟩ h3 fun hh=>by cases hh)
  ·exact ihy 0 [] (some l) 0 s s' x ι a w Q (.inr hfy) hok3 h1 h2 (Nat.zero_le _) fun ds' a' w' ⟨ι',k1,k2⟩ _ k3=>h3 a' w' ι' k1 k2.1 fun _=>by rw [k3 hfy] at k2;exact k2
  ·exact ihz 0 [] (some l) 0 s s' x ι a w Q (.inr hfz) hok4 h1 h2 (Nat.zero_le _) fun ds' a' w' ⟨ι',k1,k2⟩ _ k3=>h3 a' w' ι' k1 k2.1 fun _=>by rw [k3 hfz] at k2;exact k2
  ·have:=Array.all_eq_true_iff_forall_mem.1 hok2 p (by simpa using hp)
   simpa using this
 |seq c1 c2 ih1 ih2 =>
  intro B ds rf nn s s' x ι a w Q hfl hok h hst hmk hq
  simp only [codeOk,Bool.and_eq_true] at hok
  simp only [flat,Bool.and_eq_true] at hfl hq
  simp only [aexec] at h
  refine wpIn_seq ?_
  cases h1:aexec P call N c1 s with
  |none=>rw [h1] at h;cases h
  |some r =>
   obtain ⟨x1,s1⟩:=r
   rw [h1] at h
   refine ih1 B ds rf nn s s1 x1 ι a w _ (hfl.imp id And.left) hok.1 h1 hst hmk fun ds1 a1 w1 hr hm1 hf1=>?_
   cases x1 with
   |normal =>
    obtain ⟨ι1,he,hst1⟩:=hr
    refine ih2 B ds1 rf nn s1 s' x ι1 a1 w1 Q (hfl.imp id And.right) hok.2 h hst1 hm1 fun ds' a' w' hr' hm' hf'=>hq ds' a' w' ?_ hm' fun hh=>(hf' hh.2).trans (hf1 hh.1)
    obtain ⟨ι2,k1,k2⟩:=hr'
    exact ⟨ι2,Ext.trans hst.1 he k1,k2⟩
   |ret=>cases h;exact hq ds1 a1 w1 hr hm1 fun hh=>hf1 hh.1
   |exit id=>cases h;exact hq ds1 a1 w1 hr hm1 fun hh=>hf1 hh.1
 |cond c0 c1 c2 ih1 ih2 =>
  intro B ds rf nn s s' x ι a w Q hfl hok h hst hmk hq
  simp only [codeOk,Bool.and_eq_true] at hok
  simp only [flat,Bool.and_eq_true] at hfl hq
  simp only [aexec] at h
  have hv:=ev_rel hst.1 hst.2 hok.1.1
  cases he:ev s.t c0<;>rw [he] at h hv<;>first|(cases h;done)|skip
  rename_i b
  have e1:a.eval c0=.bool b:=(hv.bool_iff b).1 rfl
  cases b with
  |true=>exact wpIn_cond_true e1 (ih1 B ds rf nn s s' x ι a w Q (hfl.imp id And.left) hok.1.2 h hst hmk fun ds' a' w' hr hm hf=>hq ds' a' w' hr hm fun hh=>hf hh.1)
  |false=>exact wpIn_cond_false e1 (ih2 B ds rf nn s s' x ι a w Q (hfl.imp id And.right) hok.2 h hst hmk fun ds' a' w' hr hm hf=>hq ds' a' w' hr hm fun hh=>hf hh.2)
 |block id b ih =>
  intro B ds rf nn s s' x ι a w Q hfl hok h hst hmk hq
  simp only [codeOk] at hok
  simp only [flat] at hfl hq
  simp only [aexec] at h
  refine wpIn_block ?_
  cases h1:aexec P call N b s with
  |none=>rw [h1] at h;cases h
  |some r =>
   obtain ⟨x1,s1⟩:=r
   rw [h1] at h
   refine ih B ds rf nn s s1 x1 ι a w _ hfl hok h1 hst hmk fun ds1 a1 w1 hr hm1 hf1=>?_
   cases x1 with
   |normal=>cases h;exact hq ds1 a1 w1 hr hm1 hf1
   |ret=>cases h;exact hq ds1 a1 w1 hr hm1 hf1
   |exit i =>
    simp only at h
    show (if i=id then Q .normal a1 w1 else Q (.exit i) a1 w1)
    split at h
    ·rename_i e;cases h;rw [if_pos e];exact hq ds1 a1 w1 hr hm1 hf1
    ·rename_i e;cases h;rw [if_neg e];exact hq ds1 a1 w1 hr hm1 hf1
 |loop b ih =>
  intro B ds rf nn s s' x ι a w Q hfl hok h hst hmk hq
  simp only [codeOk] at hok
  simp only [flat] at hfl hq
  simp only [aexec] at h
  refine wpIn_loop_rounds N ?_
  have key:∀ (k:Nat) (ds1:List Deferred) (s1 s':St) (x:AExit) (ι:Inj) (a:Act) (w:World),iterate (aexec P call N b) k s1=some (x,s')→Stands P G ds1 n s1 ι a w→Marks B w ds1 →
   (∀ ds' a' w',Reach P G ds' n ι s1 w s' a' w'→Marks B w' ds'→(flat b=true→ds'=ds1)→Q x.toExit a' w')→Code.roundsIn (WF rf) nn P b Q k a w:=by
   intro k
   induction k with
   |zero=>intro ds1 s1 s' x ι a w h;cases h
   |succ k ihk =>
    intro ds1 s1 s' x ι a w h hst hmk hq
    simp only [iterate] at h
    rw [roundsIn_succ]
    cases h1:aexec P call N b s1 with
    |none=>rw [h1] at h;cases h
    |some r =>
     obtain ⟨x1,s2⟩:=r
     rw [h1] at h
     refine ih B ds1 rf nn s1 s2 x1 ι a w _ hfl hok h1 hst hmk fun ds2 a1 w1 hr hm1 hf1=>?_
     cases x1 with
     |normal =>
      obtain ⟨ι1,he,hst1⟩:=hr
      refine ihk ds2 s2 s' x ι1 a1 w1 h hst1 hm1 fun ds' a' w' hr' hm' hf'=>hq ds' a' w' ?_ hm' fun hh=>(hf' hh).trans (hf1 hh)
      obtain ⟨ι2,k1,k2⟩:=hr'
      exact ⟨ι2,Ext.trans hst.1 he k1,k2⟩
     |ret=>cases h;exact hq ds2 a1 w1 hr hm1 hf1
     |exit id=>cases h;exact hq ds2 a1 w1 hr hm1 hf1
  exact key N ds s s' x ι a w h hst hmk hq
 |region id ops draw =>
  intro B ds rf nn s s' x ι a w Q hfl hok h hst hmk hq
  simp only [codeOk,Bool.and_eq_true] at hok
  have hall:∀ o∈ops.toList,operOk G n o=true:=fun o ho=>Array.all_eq_true_iff_forall_mem.1 hok.1 o (by simpa using ho)
  have fin:∀ a' w' (s1:St),Reach P G ds n ι s w s1 a' w'→Marks B w' ds:=fun a' w' s1 ⟨ι',he,hst'⟩=>hmk.ext hst.1 he
  cases draw with
  |false =>
   simp only [aexec,Option.map_eq_some_iff] at h
   obtain ⟨s1,h1,he⟩:=h
   cases he
   exact wpIn_region_list (asteps_sound hc ops.toList s _ ι a w hall h1 hst fun a' w' hr=>hq ds a' w' hr (fin a' w' _ hr) fun _=>rfl)
  |true =>
   simp only [aexec,Option.map_eq_some_iff] at h
   obtain ⟨s1,h1,he⟩:=h
   cases he
   exact hd ds rf nn n id ops s _ ι a w Q hall (by simpa using hok.2) h1 hst fun a' w' hr=>hq ds a' w' hr (fin a' w' _ hr) fun _=>rfl
end Go.Am
