/-
  Texts of a proof, merged (AmB). Conditions: in each statement.
-/
import Derived.Laws.IdiomStrings
import Derived.RangeFuncFrom
import Derived.RangeFuncCalls
import Derived.LoopNIn
import Derived.TacticsIn
import Derived.Test.YtnjkoebfgcbbdaaGreatDoorKCa
set_option linter.unusedSimpArgs false
set_option linter.unusedVariables false
set_option linter.unusedSectionVars false
set_option maxRecDepth 100000
set_option maxHeartbeats 8000000
abbrev av:=@List.mem_cons_of_mem
abbrev be:=@List.mem_map
abbrev bh:=@Array.all_eq_true_iff_forall_mem
abbrev bm:=@List.mem_cons
abbrev bo:=@List.length_set
abbrev bv:=@List.eq_nil_of_length_eq_zero
abbrev bz:=@List.map_cons
abbrev bB:=@Array.toList_map
abbrev cd:=@Option.some.inj
abbrev cf:=@List.drop_eq_getElem_cons
abbrev co:=@Array.foldl_toList
abbrev cH:=@Array.getElem?_append_left
abbrev dr:=@Array.toList_zipIdx
abbrev dt:=@Array.toList_append
abbrev fm:=@Array.toList_modify
abbrev ge:=@Nat.zero_mul
abbrev gv:=@List.getElem?_set_self
namespace Go.Am
section
variable {P:Program} {G:List Nat}
theorem a0a {ι:BJ} {m:Mem} {w:World} {aT:Array TypeId} {BF as':Array Value} {v:Value} (ty:TypeId) (hs:DL P G ι m w) (ha:O8 ι m.gen BF as')
 (h:Yc P aT BF m=some v):(Builtin.len_ aT ty as').run P w=.ok v w∧Aw ι m.gen v v:=by
 unfold Yc at h;split at h
 ·rename_i t x q0 q1
  obtain ⟨x',h1,h2⟩:=ha 0 x q1;split at h
  ·rename_i s hu
   cases h;cases h2;exact ⟨by simp [Builtin.len_,q0,h1,run_underlying hu,goInt],.int _ _⟩
  ·rename_i n e x0 hu
   cases h;exact ⟨by simp [Builtin.len_,q0,h1,run_underlying hu,goInt],.int _ _⟩
  ·rename_i e b n g hu
   cases h;cases h2<;>exact ⟨by simp [Builtin.len_,q0,h1,run_underlying hu,goInt],.int _ _⟩
  ·rename_i k e hu
   cases h;cases h2;exact ⟨by simp [Builtin.len_,q0,h1,run_underlying hu,goInt],.int _ _⟩
  ·rename_i k e r hu
   split at h
   ·rename_i es c hg
    cases h;cases h2 with
    |map _ c' ib hb hc =>
     obtain ⟨es',h3,h4⟩:=ZN hs hb hg;have hlen:∀ {es es':List MapEntry},Du ι m.gen es es'→es.length=es'.length:=fun {es es'}=>by
      induction es generalizing es' with
      |nil=>intro h;cases es'<;>first|rfl|exact h.elim
      |cons e es ih=>intro h;cases es' with
                     |nil=>exact h.elim
                     |cons e' es'=>simp [ih h.2]
     have hl:=hlen h4;have hgen:m.gen r=0:=by unfold Mem.gen;rw [hg];rfl
     refine ⟨?_,.int _ _⟩;simp only [Builtin.len_,q0,h1,Sem.run_bind,run_underlying hu,Result.andThen_ok,getObj,Sem.run,h3,goInt];simp_all
   grind
  grind
 grind
theorem a1d {ι:BJ} {g:Nat→Nat} {m:Mem} {aT:Array TypeId} {BF as':Array Value} {v:Value} (ty:TypeId) (hq:QE P aT=true) (ha:O8 ι g BF as')
 (h:Yc P aT BF m=some v):(∀ w,(Builtin.len_ aT ty as').run P w=.ok v w)∧Aw ι g v v:=by
 unfold QE at hq;unfold Yc at h;split at h
 ·rename_i t x q0 q1
  obtain ⟨x',h1,h2⟩:=ha 0 x q1;split at h
  ·rename_i s hu
   cases h;cases h2;exact ⟨fun w=>by simp [Builtin.len_,q0,h1,run_underlying hu,goInt],.int _ _⟩
  ·rename_i n e x0 hu
   cases h;exact ⟨fun w=>by simp [Builtin.len_,q0,h1,run_underlying hu,goInt],.int _ _⟩
  ·rename_i e b n g' hu
   cases h;cases h2<;>exact ⟨fun w=>by simp [Builtin.len_,q0,h1,run_underlying hu,goInt],.int _ _⟩
  ·grind
  ·grind
  grind
 grind
theorem a2j {ι:BJ} {m:Mem} {w:World} {aT:Array TypeId} {BF as':Array Value} {v:Value} (ty:TypeId) (ha:O8 ι m.gen BF as')
 (h:a6r P aT BF=some v):(Builtin.cap_ aT ty as').run P w=.ok v w∧Aw ι m.gen v v:=by
 unfold a6r at h;split at h
 ·rename_i t q0
  split at h
  ·rename_i e hu
   split at h
   ·rename_i q
    obtain ⟨x',h1,h2⟩:=ha 0 _ q;cases h;cases h2;exact ⟨by simp [Builtin.cap_,q0,h1,run_underlying hu,goInt],.int _ _⟩
   ·rename_i b o s q
    obtain ⟨x',h1,h2⟩:=ha 0 _ q;cases h;cases h2;exact ⟨by simp [Builtin.cap_,q0,h1,run_underlying hu,goInt],.int _ _⟩
   grind
  grind
 grind
theorem X0 {ι:BJ} {g:Nat→Nat} {s s':Value} {sLen:Nat} (hv:Aw ι g s s') (h:lenOf s=some sLen) (size:Nat) (w:World) :
 (Builtin.firstCells size 0 s').run P w=.ok #[] w:=by
 cases hv<;>simp only [lenOf,reduceCtorEq] at h
 ·simp only [Builtin.firstCells,Sem.run_pure]
  simp
 ·rfl
 ·simp only [Builtin.firstCells,Nat.zero_mul,loadCells,loadCellsFrom];rfl
 ·simp only [Builtin.firstCells,Nat.zero_mul,loadCells,loadCellsFrom];rfl
theorem JC {ι:BJ} {g:Nat→Nat} {b off len gen:Nat} {a':Addr} {cap:Nat} (h:b2t ι g b off len gen a' cap) (hlen:gen=g b→0<len) (n:Nat) :
 PI ι g ⟨b,off+n,some gen⟩ (a'.add n):=by
 obtain ⟨ib,hb,hle,h3,hcur⟩:=h;refine ⟨ib,hb,by assumption,fun e=>?_⟩;have e':gen=g b:=by assumption
 obtain ⟨h1,h2,h4⟩:=hcur e';have ha':a'=⟨ib.blk,off+ib.sh,none⟩:=by
  obtain ⟨x,y,z⟩:=a';grind
 rw [ha',addr_add];grind
theorem vw {ι:BJ} {m m':Mem} {w:World} {aT:Array TypeId} {BF as':Array Value} {v:Value} (ty:TypeId) (hs:DL P G ι m w) (ha:O8 ι m.gen BF as')
 (h:qC P aT BF m=some (v,m')):∃ v' w',(Builtin.copy_ aT ty as').run P w=.ok v' w'∧Post P G ι m w v m' v' w':=by
 unfold qC at h;split at h
 ·rename_i dT base dLen g src q0 q1 q2
  obtain ⟨d',h1,h2⟩:=ha 0 _ q1;obtain ⟨s',h3,h4⟩:=ha 1 _ q2;split at h
  ·rename_i e sLen hu hsl
   split at h
   ·rename_i i hi
    have hd:∃ base' cap',d'=.slice base' dLen cap':=by cases h2<;>exact ⟨_,_,rfl⟩
    obtain ⟨base',cap',rfl⟩:=hd;simp only at h;split at h
    ·rename_i hn
     cases h;refine ⟨.int .i64 0,w,?_,Post.same hs (.int _ _)⟩;simp only [Builtin.copy_,q0,h1,h3,Sem.run_bind,run_underlying hu,Result.andThen_ok,MN h4 hsl w,run_sizeOf' hi,hn,X0 h4 hsl];cases base'<;>rfl
    ·rename_i hn
     split at h
     ·rename_i b off l hl
      rw [ae] at h;obtain ⟨m1,hm1,he⟩:=h;cases he;cases h2 with
      |sl _ _ _ _ a' _ hsr =>
       obtain ⟨l',hr,hrel⟩:=EP hs h4 hl;have hpos:0<dLen:=by
        grind
       have har:=JC hsr (fun _=>hpos) 0;rw [Addr.add_zero'] at har;obtain ⟨w',ι',hrun,hext,Dv⟩:=LM hs har hrel hm1;refine ⟨_,w',?_,ι',hext,Dv,.int _ _⟩;simp only [Builtin.copy_,q0,h1,h3,Sem.run_bind,run_underlying hu,Result.andThen_ok,MN h4 hsl w,run_sizeOf' hi,hr,hrun,Sem.run_pure,goInt]
     grind
   grind
  grind
 grind
def XW (ι:BJ) (g:Nat→Nat) (o o':Option Value):Prop:=(o=none∧o'=none)∨∃ v v',o=some v∧o'=some v'∧Aw ι g v v'
theorem G8 {ι:BJ} {g:Nat→Nat} {d n:Nat} {o o':Option Value} (ho:XW ι g o o') (h:bnd d o=some n):o'=o:=by
 rcases ho with ⟨rfl,rfl⟩|⟨v,v',rfl,rfl,hv⟩
 ·rfl
 ·unfold bnd at h
  split at h
  ·grind
  ·rename_i e;cases e;cases hv;rfl
  grind
theorem Hu {d n y:Nat} {v:Value} {c:BoundsCode} {w:World} (h:bnd d (some v)=some n) (hy:n≤y):(Instr.sliceBound v y c).run P w=.ok n w:=by
 unfold bnd at h;split at h
 ·grind
 ·rename_i k i e
  cases e;split at h
  ·rename_i hi
   cases h;have h2:i≤(y:Int):=by omega
   simp [Instr.sliceBound,asIntOf,hi,h2]
  grind
 grind
theorem TL {lo hi:Option Value} {len cap l h:Nat} {w:World} (hl:bnd 0 lo=some l) (hh:bnd len hi=some h) (h1:l≤h) (h2:h≤cap) :
 (Instr.sliceBounds true len cap lo hi none).run P w=.ok (l,h,cap) w:=by
 unfold Instr.sliceBounds;cases hi with
 |none =>
  cases hh;cases lo with
  |none=>cases hl;simp
  |some v=>simp [Hu hl h1]
 |some u =>
  cases lo with
  |none=>cases hl;simp [Hu hh h2]
  |some v=>simp [Hu hh h2,Hu hl h1]
theorem Oj {lo:Option Value} {u x:Value} {len cap l h k d d':Nat} {w:World} (hl:bnd 0 lo=some l) (hh:bnd d (some u)=some h) (hk:bnd d' (some x)=some k) (h1:l≤h) (h2:h≤k) (h3:k≤cap) :
 (Instr.sliceBounds true len cap lo (some u) (some x)).run P w=.ok (l,h,k) w:=by
 unfold Instr.sliceBounds;cases lo with
 |none=>cases hl;simp [Hu hh h2,Hu hk h3]
 |some v=>simp [Hu hh h2,Hu hk h3,Hu hl h1]
theorem JL {t e:TypeId} {x:Value} {lo hi mx:Option Value} {w:World} (hu:P.underlying t=some (.slice e)) :
 (Instr.sliceAt t x lo hi mx).run P w=(Instr.slice t x lo hi mx).run P w:=by
 simp [Instr.sliceAt,run_underlying hu]
theorem FN {s:Sem Value} {v:Value} (h:Ya P s=some v):DF P s=some v∧plain v=true:=by
 unfold Ya at h;grind
theorem Xl {ι:BJ} {m:Mem} {w:World} {t:TypeId} {x x':Value} {lo lo' hi hi' mx mx':Option Value} {v:Value} (hs:DL P G ι m w) (hx:Aw ι m.gen x x')
 (hlo:XW ι m.gen lo lo') (hhi:XW ι m.gen hi hi') (hmx:XW ι m.gen mx mx') (h:aslice P t x lo hi mx m=some v) :
 ∃ v',(Instr.sliceAt t x' lo' hi' mx').run P w=.ok v' w∧Aw ι m.gen v v':=by
 unfold aslice at h;split at h
 ·cases h
 rename_i hform;split at h
 ·
  rename_i s hu;split at h
  ·rename_i hp
   simp only [Bool.and_eq_true] at hp;obtain ⟨⟨p1,p2⟩,p3⟩:=hp;have eq:∀ {o o':Option Value},XW ι m.gen o o'→(Option.all plain o=true)→o'=o:=fun {o o'} ho hp=>by
    rcases ho with ⟨rfl,rfl⟩|⟨v,v',rfl,rfl,hv⟩
    ·rfl
    ·rw [hv.BP (by grind)]
   have e3:mx'=mx:=by
    rcases hmx with ⟨rfl,rfl⟩|⟨v,v',rfl,rfl,hv⟩
    ·rfl
    grind
   rw [eq hlo p1,eq hhi p2,e3];cases hx;obtain ⟨h1,h2⟩:=FN h;exact ⟨v,Ed h1 w,Aw.plain h2⟩
  grind
 ·
  rename_i e hu;split at h
  ·rename_i i hi0 b1 b2 b3
   cases h;cases hx;rw [G8 hlo b1,G8 hhi b2,G8 hmx b3,JL hu];refine ⟨.slice none 0 0,?_,.J6⟩;cases mx with
   |none =>
    simp only [Instr.slice,Sem.run_bind,run_underlying hu,Result.andThen_ok,TL b1 b2 (Nat.le_refl _) (Nat.le_refl _),run_sizeOf' hi0];rfl
   |some k=>cases hi with
    |none=>grind
    |some u =>
     simp only [Instr.slice,Sem.run_bind,run_underlying hu,Result.andThen_ok,Oj (cap:=0) (len:=0) b1 b2 b3 (Nat.le_refl _) (Nat.le_refl _) (Nat.le_refl _),run_sizeOf' hi0];rfl
  grind
 ·
  rename_i e b off g' hu;split at h
  ·rename_i i hi0 b1 b2 b3
   cases h;cases hx with
   |wz _ _ _ a' =>
    rw [G8 hlo b1,G8 hhi b2,G8 hmx b3,JL hu];refine ⟨.slice (some a') 0 0,?_,.wz _ _ _ _⟩;cases mx with
    |none =>
     simp only [Instr.slice,Sem.run_bind,run_underlying hu,Result.andThen_ok,TL b1 b2 (Nat.le_refl _) (Nat.le_refl _),run_sizeOf' hi0];rfl
    |some k=>cases hi with
     |none=>grind
     |some u =>
      simp only [Instr.slice,Sem.run_bind,run_underlying hu,Result.andThen_ok,Oj (cap:=0) (len:=0) b1 b2 b3 (Nat.le_refl _) (Nat.le_refl _) (Nat.le_refl _),run_sizeOf' hi0];rfl
  grind
 ·
  rename_i e b off len g hu;cases hx with
  |sl _ _ _ _ a' cap hsr =>
   split at h
   ·
    rename_i i l hh hi0 b1 b2;have b3:mx'=none:=by
     rcases hmx with ⟨_,rfl⟩|⟨v,v',h,_,_⟩
     ·rfl
     grind
    split at h
    ·rename_i vs e' g2 ro hg
     split at h
     ·rename_i hc
      obtain ⟨⟨c1,c2,rfl⟩,_⟩:=hc;cases h;obtain ⟨ib,hb,hle,q3,hcur⟩:=hsr;rw [G8 hlo b1,G8 hhi b2,b3,JL hu];refine ⟨.slice (some (if cap=l then a' else a'.add (l*i.size))) (hh-l) (cap-l),?_,.sl _ _ _ _ _ _ ⟨ib,hb,hle,by omega,fun hcg=>?_⟩⟩
      ·simp only [Instr.slice,Sem.run_bind,run_underlying hu,Result.andThen_ok,TL b1 b2 c1 (by omega:hh≤cap),run_sizeOf' hi0,Sem.run_pure]
       grind
      ·obtain ⟨q1,q2,q4⟩:=hcur hcg
       obtain ⟨cs,fr,e0,hrow,hlim,TN,_,_⟩:=Ii hs hb hg;have hesz':ib.uH=i.size:=by rw [TN,EF hi0]
       by_cases hcl:cap=l
       ·grind
       ·rw [if_neg hcl]
        have hcap:cap≠0:=by omega
        obtain ⟨q5,q6⟩:a'.off=off+ib.sh∧a'.off+cap*ib.uH≤ib.lim:=by
         omega
        have ha':a'=⟨ib.blk,off+ib.sh,none⟩:=by
         obtain ⟨x,y,z⟩:=a';grind
        have hmul:l*ib.uH+(cap-l)*ib.uH=cap*ib.uH:=by rw [← cL];grind
        rw [ha',addr_add];grind
     grind
    grind
   ·
    rename_i i l hh k0 hi0 b1 b2;split at h
    ·rename_i k b3
     split at h
     ·rename_i hc
      obtain ⟨rfl,rfl,c3⟩:=hc;cases h;obtain ⟨ib,hb,hle,q3,hcur⟩:=hsr;cases hi with
      |none=>grind
      |some u =>
       rw [G8 hlo b1,G8 hhi b2,G8 hmx b3,JL hu];refine ⟨.slice (some a') 0 0,?_,.wz _ _ _ _⟩;simp only [Instr.slice,Sem.run_bind,run_underlying hu,Result.andThen_ok,Oj (len:=len) b1 b2 b3 (Nat.le_refl _) (Nat.le_refl _) (by omega:l≤cap),run_sizeOf' hi0,Sem.run_pure,if_true,Nat.sub_self]
     grind
    grind
   grind
 grind
end
section
variable {P:Program} {G:List Nat}
theorem dry_bind' {α β:Type} (x:Sem α) (f:α→Sem β):DF P (x.bind f)=(DF P x).bind fun a=>DF P (f a):=by
 induction x<;>simp_all [Sem.bind,DF]
theorem Au {α β:Type} (x:Sem α) (f:α→Sem β):DF P (x >>= f)=(DF P x).bind fun a=>DF P (f a):=dry_bind' x f
theorem AZ (t:TypeId):DF P (underlying t)=P.underlying t:=by
 simp only [underlying,Au,program,DF,Option.bind_some];cases P.underlying t<;>rfl
theorem bytes_eq {a b:ByteArray} (h:(a==b)=true):a=b:=by
 obtain ⟨x⟩:=a;obtain ⟨y⟩:=b;have e:x=y:=by simpa using (show (x==y)=true from h)
 rw [e]
theorem BH {e:TypeId} {z:List Value} (h:BQ P e=some z):∃ i zv,P.info? e=some i∧i.zero=some zv∧z=zv.cells.toList∧z.all plainCell=true:=by
 unfold BQ zeroOf at h;split at h
 ·rename_i zv hz
  rw [ba] at hz;grind
 grind
theorem Nu {e:TypeId} {i:TypeInfo} {zv:Value} (hi:P.info? e=some i) (hz:i.zero=some zv) (w:World):(zeroValue e).run P w=.ok zv w:=by
 simp [zeroValue,run_typeInfo' hi,hz]
theorem sG {ι:BJ} {m m':Mem} {w:World} {aT:Array TypeId} {BF as':Array Value} {v:Value} (ty:TypeId) (hs:DL P G ι m w) (ha:O8 ι m.gen BF as')
 (h:V9 P aT BF m=some (v,m')):∃ v' w',(Builtin.clear_ aT ty as').run P w=.ok v' w'∧Post P G ι m w v m' v' w':=by
 unfold V9 at h;split at h
 case h_2=>cases h
 rename_i t base n g q0 q1;obtain ⟨s',h1,h2⟩:=ha 0 _ q1;split at h
 case h_2=>cases h
 rename_i e hu;have hd:∃ base' cap',s'=.slice base' n cap':=by cases h2<;>exact ⟨_,_,rfl⟩
 obtain ⟨base',cap',rfl⟩:=hd;have c5t:Aw ι m.gen (.tuple #[]) (.tuple #[]):=Aw.plain rfl;split at h
 ·rename_i hn
  subst hn;cases h;refine ⟨.tuple #[],w,?_,Post.same hs c5t⟩;simp only [Builtin.clear_,q0,h1,Sem.run_bind,run_underlying hu,Result.andThen_ok];cases base'<;>rfl
 ·rename_i hn
  split at h
  case h_2=>cases h
  rename_i i z b off hi hz;split at h
  case isFalse=>cases h
  rename_i hzl;rw [ae] at h;obtain ⟨m1,hm1,he⟩:=h;cases he;obtain ⟨i2,zv,c1,c2,c3,c4⟩:=BH hz;rw [hi] at c1;cases c1;cases h2 with
  |sl _ _ _ _ a' _ hsr =>
   have har:=JC hsr (fun _=>by omega) 0;rw [Addr.add_zero'] at har;have hrel:BA ι m.gen (AL z n) (AL z n):=BA.repeat c4 n;obtain ⟨w',ι',hrun,hext,Dv⟩:=LM hs har hrel hm1;refine ⟨_,w',?_,ι',hext,Dv,Aw.plain rfl⟩;have hrep:(Builtin.zeroCells zv.cells n).toList=AL z n:=by
    have:=KH z n (by omega);unfold Builtin.zeroCells;grind
   have hk:∃ n',n=n'+1:=⟨n-1,by omega⟩
   obtain ⟨n',rfl⟩:=hk;simp only [Builtin.clear_,q0,h1,Sem.run_bind,run_underlying hu,Result.andThen_ok,Nu hi c2,hrep,hrun,Sem.run_pure]
theorem Xg {ι:BJ} {g:Nat→Nat} (kind:TypeDesc) (k:Value):∀ {es es':List MapEntry} (n:Nat) {r:Option (Nat×Value)},Du ι g es es'→Instr.findNow kind k es n=some r →
 (r=none∧Instr.findNow kind k es' n=some none)∨∃ i v v',r=some (i,v)∧Instr.findNow kind k es' n=some (some (i,v'))∧Aw ι g v v'∧n≤i ∧
  ∃ e e',es[i-n]?=some e∧es'[i-n]?=some e'∧Instr.sameNow kind k e.key=some true∧iR ι g e e'
 |[],[],n,r,_,hf=>by
  simp only [Instr.findNow,Option.some.injEq] at hf;exact .inl ⟨hf.symm,rfl⟩
 |e::es,e'::es',n,r,⟨he,hes⟩,hf=>by
  simp only [Instr.findNow] at hf ⊢;rw [he.1];cases hsn:Instr.sameNow kind k e.key with
  |none=>grind
  |some b =>
   rw [hsn] at hf;cases b with
   |true =>
    simp only [Option.some.injEq] at hf;subst hf;refine .inr ⟨n,e.val,e'.val,rfl,rfl,he.2.2.2,ab _,e,e',?_,?_,hsn,he⟩
    ·simp
    ·simp
   |false =>
    rcases Xg kind k (n+1) hes hf with ⟨h1,h2⟩|⟨i,v,v',h1,h2,h3,h4,f,f',h5,h6,h7⟩
    ·grind
    grind
 |[],_::_,_,_,h,_=>h.elim
 |_::_,[],_,_,h,_=>h.elim
theorem OC {kt:TypeId} {kind:TypeDesc} (h:En P kt=some kind):P.underlying kt=some kind∧((∃ k,kind=.int k)∨kind=.string∨kind=.bool):=by
 unfold En at h;split at h<;>first
  |(rename_i k hu;cases h;exact ⟨hu,.inl ⟨_,rfl⟩⟩)
  |grind
  |grind
  |cases h
theorem run_checkKey {kt:TypeId} {kind:TypeDesc} (h:En P kt=some kind) (empty:Bool) (k:Value) (w:World):(Instr.checkKey empty 10000 kt k).run P w=.ok () w:=by
 obtain ⟨hu,hk⟩:=OC h;unfold Instr.checkKey;simp only [Sem.run_bind,run_underlying hu,Result.andThen_ok];rcases hk with ⟨k',rfl⟩|rfl|rfl<;>rfl
theorem run_findKey {kt:TypeId} {kind:TypeDesc} (h:En P kt=some kind) {k:Value} {es:List MapEntry} {r:Option (Nat×Value)} (hf:Instr.findNow kind k es 0=some r) (w:World) :
 (Instr.findKey kt k es).run P w=.ok r w:=by
 obtain ⟨hu,_⟩:=OC h;simp [Instr.findKey,run_underlying hu,hf]
theorem Du.empty {ι:BJ} {g:Nat→Nat}:∀ {es es':List MapEntry},Du ι g es es'→es'.isEmpty=es.isEmpty
 |[],[],_=>rfl
 |_::_,_::_,_=>rfl
 |[],_::_,h=>h.elim
 |_::_,[],h=>h.elim
theorem aK {ι:BJ} {g:Nat→Nat} (kt:TypeId) (k:Value):∀ {es es':List MapEntry} (n:Nat) {r:Option (Nat×Value)},Du ι g es es'→DF P (Instr.findAsking kt k es n)=some r →
 (r=none∧DF P (Instr.findAsking kt k es' n)=some none)∨∃ i v v',r=some (i,v)∧DF P (Instr.findAsking kt k es' n)=some (some (i,v'))∧Aw ι g v v'∧n≤i ∧
  ∃ e e',es[i-n]?=some e∧es'[i-n]?=some e'∧iR ι g e e'
 |[],[],n,r,_,hf=>by
  cases hf;exact .inl ⟨rfl,rfl⟩
 |e::es,e'::es',n,r,⟨he,hes⟩,hf=>by
  simp only [Instr.findAsking,Au] at hf ⊢;rw [he.1];rw [ba] at hf;obtain ⟨b,hb,hf⟩:=hf;rw [hb];cases b with
  |true =>
   cases hf;exact .inr ⟨n,e.val,e'.val,rfl,rfl,he.2.2.2,ab _,e,e',by simp,by simp,he⟩
  |false =>
   rcases aK kt k (n+1) hes hf with ⟨h1,h2⟩|⟨i,v,v',h1,h2,h3,h4,f,f',h5,h6,h7⟩
   ·grind
   grind
 |[],_::_,_,_,h,_=>h.elim
 |_::_,[],_,_,h,_=>h.elim
theorem a1s {s:Sem Unit} (h:WV P s=true) (w:World):s.run P w=.ok () w:=by
 unfold WV at h;split at h
 ·rename_i h2;exact Ed h2 w
 grind
theorem aV {kt:TypeId} (h:TF P kt=true):∃ d,P.underlying kt=some d∧∀ k x,Instr.sameNow d k x=none:=by
 unfold TF at h;split at h
 ·rename_i fs hu;exact ⟨_,hu,fun k x=>by cases k<;>rfl⟩
 ·rename_i n e hu;exact ⟨_,hu,fun k x=>by cases k<;>rfl⟩
 grind
theorem Qr {ι:BJ} {g:Nat→Nat} {fl:Bool} {kt:TypeId} {k:Value} {es es':List MapEntry} {r:Option (Nat×Value)} (her:Du ι g es es') (hf:Iy P fl kt k es=some r) :
 (∀ w,(Instr.checkKey fl 10000 kt k).run P w=.ok () w) ∧
 ((r=none∧∀ w,(Instr.findKey kt k es').run P w=.ok none w)∨∃ i v v',r=some (i,v)∧(∀ w,(Instr.findKey kt k es').run P w=.ok (some (i,v')) w)∧Aw ι g v v' ∧
  ∃ e e',es[i]?=some e∧es'[i]?=some e'∧iR ι g e e'∧((En P kt).isSome→∃ kind,En P kt=some kind∧Instr.sameNow kind k e.key=some true)):=by
 unfold Iy at hf;split at hf
 ·rename_i kind hkk
  refine ⟨run_checkKey hkk fl k,?_⟩;rcases Xg kind k 0 her hf with ⟨rfl,h2⟩|⟨i,u,u',rfl,h2,h3,_,e,e',h5,h6,h7,h8⟩
  ·exact .inl ⟨rfl,run_findKey hkk h2⟩
  ·exact .inr ⟨i,u,u',rfl,run_findKey hkk h2,h3,e,e',h5,h6,h8,fun _=>⟨kind,hkk,h7⟩⟩
 ·rename_i hkk
  split at hf
  ·rename_i hc
   simp only [Bool.and_eq_true] at hc;obtain ⟨d,hu,hd⟩:=aV hc.1;refine ⟨a1s hc.2,?_⟩;have e0:∀ l,DF P (Instr.findKey kt k l)=DF P (Instr.findAsking kt k l):=fun l=>by
    have hu':DF P (underlying kt)=some d:=by rw [AZ];omega
    simp only [Instr.findKey,Au,hu',Option.bind_some];cases l with
    |nil=>rfl
    |cons x l=>simp only [Instr.findNow,hd]
   rw [e0] at hf;rcases aK kt k 0 her hf with ⟨rfl,h2⟩|⟨i,u,u',rfl,h2,h3,_,e,e',h5,h6,h8⟩
   ·rw [← e0] at h2
    exact .inl ⟨rfl,Ed h2⟩
   ·rw [← e0] at h2
    exact .inr ⟨i,u,u',rfl,Ed h2,h3,e,e',h5,h6,h8,fun hs=>by grind⟩
  grind
theorem kT {ι:BJ} {m:Mem} {w:World} {t:TypeId} {x x' k k':Value} {ok:Bool} {v:Value} (hs:DL P G ι m w) (hx:Aw ι m.gen x x') (hk:Aw ι m.gen k k')
 (h:LZ P t x k ok m=some v):∃ v',(Instr.lookup t x' k' ok).run P w=.ok v' w∧Aw ι m.gen v v':=by
 have b9v:∀ {a a':Value} (b:Bool),Aw ι m.gen a a'→Aw ι m.gen (.tuple #[a,.bool b]) (.tuple #[a',.bool b]):=fun b h=>by
  have:=BA.cons h (BA.cons (.bool b) BA.nil);exact .tuple _ _ this.1 this.2
 unfold LZ at h;split at h
 ·rename_i kt et hu
  split at h
  ·rename_i z hz
   split at h
   ·rename_i hp
    simp only [Bool.and_eq_true] at hp;rw [hk.BP hp.2];have hzr:∀ w,(zeroValue et).run P w=.ok z w:=fun w=>by
     unfold zeroOf at hz;rw [ba] at hz;obtain ⟨i,hi,hz⟩:=hz;exact Nu hi hz w
    have main:∀ (es:List MapEntry) (es':Array MapEntry),Du ι m.gen es es'.toList →
     (match Iy P es.isEmpty kt k es with
      |some (some (_,v))=>some (if ok then .tuple #[v,.bool true] else v)
      |some none=>some (if ok then .tuple #[z,.bool false] else z)
      |none=>none)=some v →
     (∀ r,(Instr.findKey kt k es'.toList).run P w=.ok r w→(Instr.checkKey es'.isEmpty 10000 kt k).run P w=.ok () w→(Instr.lookup t x' k ok).run P w =
      .ok (match r with|some (_,v)=>(if ok then .tuple #[v,.bool true] else v)|none=>(if ok then .tuple #[z,.bool false] else z)) w) →
     ∃ v',(Instr.lookup t x' k ok).run P w=.ok v' w∧Aw ι m.gen v v':=fun es es' her hf hrun=>by
     cases hfn:Iy P es.isEmpty kt k es with
     |none=>grind
     |some r =>
      rw [hfn] at hf;obtain ⟨hck,hfs⟩:=Qr her hfn;have hemp:es'.isEmpty=es.isEmpty:=by rw [← her.empty];simp
      rcases hfs with ⟨rfl,h2⟩|⟨i,u,u',rfl,h2,h3,_⟩
      ·simp only [Option.some.injEq] at hf
       subst hf;refine ⟨if ok then .tuple #[z,.bool false] else z,?_,?_⟩
       ·simp_all
       ·cases ok
        ·exact Aw.plain hp.1
        ·exact b9v false (Aw.plain hp.1)
      ·simp only [Option.some.injEq] at hf
       subst hf;refine ⟨if ok then .tuple #[u',.bool true] else u',?_,?_⟩
       ·simp_all
       grind
    split at h
    ·rename_i es hes
     split at hes
     ·cases hes;cases hx
      exact main [] #[] trivial h fun r hr hck=>by
       simp only [Instr.lookup,Sem.run_bind,run_underlying hu,Result.andThen_ok,hck,hr,Sem.run_pure];cases r<;>simp [hzr]
     ·rename_i r
      cases hx with
      |map _ c ib hb hc =>
       split at hes
       ·rename_i es2 c2 hg
        cases hes;obtain ⟨es',h1,h2⟩:=ZN hs hb hg;have:=hc (by unfold Mem.gen;rw [hg];rfl);subst this;exact main es es' h2 h fun r hr hck=>by
         simp only [Instr.lookup,Sem.run_bind,run_underlying hu,Result.andThen_ok,hck,hr,Sem.run_pure,getObj,Sem.run,h1];cases r<;>simp [hzr]
       grind
     grind
    grind
   grind
  grind
 grind
theorem Du.modify {ι:BJ} {g:Nat→Nat} {f f':MapEntry→MapEntry} (hf:∀ e e',iR ι g e e'→iR ι g (f e) (f' e')) :
 ∀ {es es':List MapEntry} (i:Nat),Du ι g es es'→Du ι g (es.modify i f) (es'.modify i f')
 |[],[],i,_=>by cases i<;>trivial
 |e::es,e'::es',0,⟨h,k⟩=>⟨hf _ _ h,k⟩
 |e::es,e'::es',i+1,⟨h,k⟩=>⟨h,Du.modify hf i k⟩
 |[],_::_,_,h=>h.elim
 |_::_,[],_,h=>h.elim
theorem Du.push {ι:BJ} {g:Nat→Nat} {e e':MapEntry} (he:iR ι g e e'):∀ {es es':List MapEntry},Du ι g es es'→Du ι g (es++[e]) (es'++[e'])
 |[],[],_=>⟨he,trivial⟩
 |_::_,_::_,⟨h,k⟩=>⟨h,Du.push he k⟩
 |[],_::_,h=>h.elim
 |_::_,[],h=>h.elim
theorem KC {kt:TypeId} {kind:TypeDesc} (hk:En P kt=some kind) {k old:Value} (h:Instr.sameNow kind k old=some true):Instr.sameBits 10000 old k=true:=by
 obtain ⟨_,hkk⟩:=OC hk;rcases hkk with ⟨k',rfl⟩|rfl|rfl
 ·cases k<;>cases old<;>simp only [Instr.sameNow,reduceCtorEq] at h
  split at h
  ·rename_i e;subst e
   simp only [Option.some.injEq,beq_iff_eq] at h;subst h;simp [Instr.sameBits]
  grind
 ·cases k<;>cases old<;>simp only [Instr.sameNow,reduceCtorEq,Option.some.injEq] at h
  have:=bytes_eq h;subst this;assumption
 ·cases k<;>cases old<;>simp only [Instr.sameNow,reduceCtorEq,Option.some.injEq,beq_iff_eq] at h
  subst h;simp [Instr.sameBits]
theorem UJ {ι:BJ} {m m':Mem} {w:World} {t:TypeId} {x x' k k' v v':Value} (hs:DL P G ι m w) (hx:Aw ι m.gen x x') (hk:Aw ι m.gen k k') (hv:Aw ι m.gen v v')
 (h:Jg P t x k v m=some m'):∃ w' ι',(Instr.mapUpdate t x' k' v').run P w=.ok () w'∧Ext ι m w ι' m' w'∧DL P G ι' m' w':=by
 unfold Jg at h;split at h
 ·rename_i kt et r hu
  split at h
  ·rename_i es clock hg
   split at h
   ·rename_i hp
    rw [hk.BP hp];cases hx with
    |map _ c ib hb hc =>
     obtain ⟨es',h1,h2⟩:=ZN hs hb hg;have:=hc (by unfold Mem.gen;rw [hg];rfl);subst this;have hro:m.ro r=false:=by unfold Mem.ro;rw [hg];rfl
     have hgen:m.gen r=0:=by unfold Mem.gen;rw [hg];rfl
     have put:∀ (es2:List MapEntry) (es2':Array MapEntry) (c2:Nat),(∀ ι' g',Le ι m.gen ι' g'→Du ι' g' es2 es2'.toList) →
      ∃ ι',Ext ι m w ι' (m.put r (.map es2 c2)) { w with heap:=w.heap.setIfInBounds ib.blk (.map es2' c2) }∧DL P G ι' (m.put r (.map es2 c2)) { w with heap:=w.heap.setIfInBounds ib.blk (.map es2' c2) } :=
      fun es2 es2' c2 hes=>by
       obtain ⟨ι',a,b,_⟩:=Jc (x:=.map es2 c2) (ib':=ib) (w':={ w with heap:=w.heap.setIfInBounds ib.blk (.map es2' c2) }) (obj:=.map es2' c2) hs hb hro rfl
        ⟨by omega,fun _=>rfl⟩ (.inl rfl) (by grind) (fun c _ hne=>by grind) (by simp) rfl rfl rfl
        (fun ι' g' hle=>⟨rfl,hes ι' g' hle⟩)
       grind
     cases hfn:Iy P false kt k es with
     |none=>grind
     |some res =>
      rw [hfn] at h;obtain ⟨hck,hfs⟩:=Qr h2 hfn;rcases hfs with ⟨rfl,h3⟩|⟨i,u,u',rfl,h3,_,e,e',h5,h6,h8,h7⟩
      ·cases h
       obtain ⟨ι',a,b⟩:=put (es++[{ key:=k,val:=v,born:=clock }]) (es'.push { key:=k,val:=v',born:=clock }) (clock+1) (fun ι' g' hle=>by
        rw [Array.toList_push];exact Du.push (e:={ key:=k,val:=v,born:=clock }) (e':={ key:=k,val:=v',born:=clock }) ⟨rfl,rfl,hp,hv.mono hle⟩ (h2.mono hle))
       refine ⟨_,ι',?_,a,b⟩;simp only [Instr.mapUpdate,Sem.run_bind,run_underlying hu,Result.andThen_ok,getObj,Sem.run,h1,hck,h3,setObj]
      ·simp only at h
       split at h
       case isFalse=>cases h
       rename_i hsb;cases h;obtain ⟨ι',a,b⟩:=put (es.modify i fun e=>{ e with key:=k,val:=v }) (es'.modify i fun e=>{ e with key:=k,val:=v' }) clock (fun ι' g' hle=>by
        rw [fm];exact Du.modify (f:=fun e=>{ e with key:=k,val:=v }) (f':=fun e=>{ e with key:=k,val:=v' }) (fun e e' he=>⟨rfl,he.2.1,hp,hv.mono hle⟩) i (h2.mono hle))
       refine ⟨_,ι',?_,a,b⟩;have hkey:((es'[i]?).map (·.key)).getD k=e.key:=by
        have:es'[i]?=some e':=by grind
        rw [this];simp [h8.1]
       have a5t:∀ w,(Instr.keyThatStays e.key k).run P w=.ok k w:=fun w=>by
        unfold Instr.keyThatStays;rw [h5] at hsb;simp only [Option.map_some,Option.getD_some,Bool.or_eq_true] at hsb;have hsb:Instr.sameBits 10000 e.key k=true:=by
         rcases hsb with hsb|hsb
         ·obtain ⟨kind,hkk,hsn⟩:=h7 hsb
          exact KC hkk hsn
         omega
        simp_all
       simp only [Instr.mapUpdate,Sem.run_bind,run_underlying hu,Result.andThen_ok,getObj,Sem.run,h1,hck,h3,setObj,hkey,a5t]
   grind
  grind
 grind
theorem Du.get {ι:BJ} {g:Nat→Nat}:∀ {es es':List MapEntry} {i:Nat} {e e':MapEntry},Du ι g es es'→es[i]?=some e→es'[i]?=some e'→iR ι g e e'
 |[],[],i,_,_,_,h,_=>by grind
 |a::es,b::es',0,e,e',⟨h,_⟩,h1,h2=>by grind
 |a::es,b::es',i+1,e,e',⟨_,k⟩,h1,h2=>Du.get k (by assumption) (by grind)
 |[],_::_,_,_,_,h,_,_=>h.elim
 |_::_,[],_,_,_,h,_,_=>h.elim
theorem Du.find {ι:BJ} {g:Nat→Nat} (n:Int):∀ {es es':List MapEntry},Du ι g es es'→es'.findIdx? (fun e=>(e.born:Int)==n)=es.findIdx? (fun e=>(e.born:Int)==n)
 |[],[],_=>rfl
 |a::es,b::es',⟨h,k⟩=>by
  rw [List.findIdx?_cons,List.findIdx?_cons,Du.find n k,h.2.1]
 |[],_::_,h=>h.elim
 |_::_,[],h=>h.elim
theorem b4i {ι:BJ} {g:Nat→Nat} {v v':Value} (n:Int) (h:Aw ι g v v'):Aw ι g (.tuple #[v,.int .i64 n]) (.tuple #[v',.int .i64 n]) :=
 .tuple [v,.int .i64 n] [v',.int .i64 n] rfl fun i hi=>by
  match i,hi with
  |0,_=>exact h
  |1,_=>exact Aw.plain (v:=.int .i64 n) rfl
  |i+2,hi=>grind
theorem rP {ι:BJ} {m m':Mem} {w:World} {t:TypeId} {x x' k k' v:Value} (hs:DL P G ι m w) (hx:Aw ι m.gen x x') (hk:Aw ι m.gen k k')
 (h:TP P t x k m=some (v,m')):∃ v' w' ι',(Instr.mapEntry t x' k').run P w=.ok v' w'∧Ext ι m w ι' m' w'∧DL P G ι' m' w'∧Aw ι' m'.gen v v':=by
 unfold TP at h;split at h
 ·rename_i kt et r hu
  split at h
  ·rename_i es clock hg
   split at h
   ·rename_i hp
    rw [hk.BP hp];cases hx with
    |map _ c ib hb hc =>
     obtain ⟨es',h1,h2⟩:=ZN hs hb hg;have:=hc (by unfold Mem.gen;rw [hg];rfl);subst this;have hro:m.ro r=false:=by unfold Mem.ro;rw [hg];rfl
     have hgen:m.gen r=0:=by unfold Mem.gen;rw [hg];rfl
     have put:∀ (es2:List MapEntry) (es2':Array MapEntry) (c2:Nat),(∀ ι' g',Le ι m.gen ι' g'→Du ι' g' es2 es2'.toList) →
      ∃ ι',Ext ι m w ι' (m.put r (.map es2 c2)) { w with heap:=w.heap.setIfInBounds ib.blk (.map es2' c2) }∧DL P G ι' (m.put r (.map es2 c2)) { w with heap:=w.heap.setIfInBounds ib.blk (.map es2' c2) } :=
      fun es2 es2' c2 hes=>by
       obtain ⟨ι',a,b,_⟩:=Jc (x:=.map es2 c2) (ib':=ib) (w':={ w with heap:=w.heap.setIfInBounds ib.blk (.map es2' c2) }) (obj:=.map es2' c2) hs hb hro rfl
        ⟨by omega,fun _=>rfl⟩ (.inl rfl) (by grind) (fun c _ hne=>by grind) (by simp) rfl rfl rfl
        (fun ι' g' hle=>⟨rfl,hes ι' g' hle⟩)
       grind
     cases hfn:Iy P false kt k es with
     |none=>grind
     |some res =>
      rw [hfn] at h;obtain ⟨hck,hfs⟩:=Qr h2 hfn;rcases hfs with ⟨rfl,h3⟩|⟨i,u,u',rfl,h3,PE,e,e',h5,h6,h8,h7⟩
      ·simp only at h
       split at h
       ·rename_i z hz
        split at h
        ·rename_i hpz
         cases h;have hzr:∀ w,(zeroValue et).run P w=.ok z w:=fun w=>by
          unfold zeroOf at hz;rw [ba] at hz;obtain ⟨i,hi,hz⟩:=hz;exact Nu hi hz w
         obtain ⟨ι',a,b⟩:=put (es++[{ key:=k,val:=z,born:=clock }]) (es'.push { key:=k,val:=z,born:=clock }) (clock+1) (fun ι' g' hle=>by
          rw [Array.toList_push];exact Du.push (e:={ key:=k,val:=z,born:=clock }) (e':={ key:=k,val:=z,born:=clock }) ⟨rfl,rfl,hp,Aw.plain hpz⟩ (h2.mono hle))
         refine ⟨_,_,ι',?_,a,b,b4i _ (Aw.plain hpz)⟩;simp only [Instr.mapEntry,Sem.run_bind,run_underlying hu,Result.andThen_ok,getObj,Sem.run,h1,hck,h3,setObj,hzr,Sem.run_pure];rfl
        grind
       grind
      ·simp only at h
       split at h
       case isFalse=>cases h
       rename_i hsb;cases h;obtain ⟨ι',a,b⟩:=put (es.modify i fun e=>{ e with key:=k }) (es'.modify i fun e=>{ e with key:=k }) clock (fun ι' g' hle=>by
        rw [fm];exact Du.modify (f:=fun e=>{ e with key:=k }) (f':=fun e=>{ e with key:=k }) (fun e e' he=>⟨rfl,he.2.1,hp,he.2.2.2⟩) i (h2.mono hle))
       have hborn:((es'[i]?).map fun x=>(x.born:Int)).getD 0=((((es[i]?).map (·.born)).getD 0:Nat):Int):=by
        have:es'[i]?=some e':=by grind
        rw [this,h5];show (e'.born:Int)=(e.born:Int)
        rw [h8.2.1]
       refine ⟨.tuple #[u',.int .i64 ((((es[i]?).map (·.born)).getD 0:Nat):Int)],_,ι',?_,a,b,b4i _ (PE.mono a.le)⟩;have hkey:((es'[i]?).map (·.key)).getD k=e.key:=by
        have:es'[i]?=some e':=by grind
        rw [this];simp [h8.1]
       have a5t:∀ w,(Instr.keyThatStays e.key k).run P w=.ok k w:=fun w=>by
        unfold Instr.keyThatStays;rw [h5] at hsb;simp only [Option.map_some,Option.getD_some,Bool.or_eq_true] at hsb;have hsb:Instr.sameBits 10000 e.key k=true:=by
         rcases hsb with hsb|hsb
         ·obtain ⟨kind,hkk,hsn⟩:=h7 hsb
          exact KC hkk hsn
         omega
        simp_all
       simp only [Instr.mapEntry,Sem.run_bind,run_underlying hu,Result.andThen_ok,getObj,Sem.run,h1,hck,h3,setObj,hkey,a5t,Sem.run_pure,hborn];rfl
   grind
  grind
 grind
theorem Wh {ι:BJ} {m m':Mem} {w:World} {t:TypeId} {x x' s s' v v':Value} (hs:DL P G ι m w) (hx:Aw ι m.gen x x') (hk:Aw ι m.gen s s') (hv:Aw ι m.gen v v')
 (h:IC x s v m=some m'):∃ w' ι',(Instr.entryStore t x' s' v').run P w=.ok () w'∧Ext ι m w ι' m' w'∧DL P G ι' m' w':=by
 unfold IC at h;split at h
 ·rename_i r n
  split at h
  ·rename_i es clock hg
   split at h
   ·rename_i i hi
    cases h;rw [hk.BP (v:=.int .i64 n) rfl];cases hx with
    |map _ c ib hb hc =>
     obtain ⟨es',h1,h2⟩:=ZN hs hb hg;have:=hc (by unfold Mem.gen;rw [hg];rfl);subst this;have hro:m.ro r=false:=by unfold Mem.ro;rw [hg];rfl
     have hgen:m.gen r=0:=by unfold Mem.gen;rw [hg];rfl
     obtain ⟨ι',a,b,_⟩:=Jc (x:=.map (es.modify i fun e=>{ e with val:=v }) clock) (ib':=ib) (w':={ w with heap:=w.heap.setIfInBounds ib.blk (.map (es'.modify i fun e=>{ e with val:=v' }) clock) }) (obj:=.map (es'.modify i fun e=>{ e with val:=v' }) clock) hs hb hro rfl
      ⟨by omega,fun _=>rfl⟩ (.inl rfl) (by grind) (fun c _ hne=>by grind) (by simp) rfl rfl rfl
      (fun ι' g' hle=>⟨rfl,by
       rw [fm];exact Du.modify (f:=fun e=>{ e with val:=v }) (f':=fun e=>{ e with val:=v' }) (fun e e' he=>⟨he.1,he.2.1,he.2.2.1,hv.mono hle⟩) i (h2.mono hle)⟩)
     refine ⟨_,ι',?_,a,b⟩;have hfi:es'.findIdx? (fun e=>(e.born:Int)==n)=some i:=by
      have:=Du.find n h2;obtain ⟨l⟩:=es';grind
     simp only [Instr.entryStore,Sem.run_bind,Result.andThen_ok,getObj,Sem.run,h1,asInt,asIntOf,Sem.run_pure,hfi,setObj]
   grind
  grind
 grind
end
section
variable {P:Program} {G:List Nat}
theorem BU {α:Type} (a:α):DF P (pure a:Sem α)=some a:=rfl
theorem KE (t:TypeId):DF P (typeInfo t)=P.info? t:=by
 simp only [typeInfo,Au,program,DF,Option.bind_some];cases P.info? t<;>rfl
theorem F7 (t:TypeId):DF P (sizeOf t)=(P.info? t).map (·.size):=by
 simp only [sizeOf,Au,KE];cases P.info? t<;>rfl
theorem QW (t:TypeId):DF P (isAgg t)=GN P t:=by
 simp only [isAgg,Au,AZ,GN];cases P.underlying t with
 |none=>rfl
 |some d=>cases d<;>rfl
theorem BA.set {ι:BJ} {g:Nat→Nat} {l l':List Value} (h:BA ι g l l') {v v':Value} (hv:Aw ι g v v') (i:Nat):BA ι g (l.set i v) (l'.set i v'):=by
 refine ⟨by simp [h.1],fun j hj=>?_⟩;rw [bo] at hj;have:=h.2 j hj;rw [getD_eq,getD_eq] at this ⊢;by_cases e:i=j
 ·subst e
  rw [gv (by omega),gv (by rw [← h.1];omega)];grind
 grind
theorem foldl_rel {ι:BJ} {g:Nat→Nat} (off:Nat):∀ {l l':List Value} (k:Nat) {cs cs':Array Value},BA ι g l l'→BA ι g cs.toList cs'.toList →
 BA ι g ((l.zipIdx k).foldl (fun cs (c,j)=>cs.setIfInBounds (off+j) c) cs).toList ((l'.zipIdx k).foldl (fun cs (c,j)=>cs.setIfInBounds (off+j) c) cs').toList
 |[],l',k,cs,cs',h,hc=>by
  have:l'=[]:=ar.1 h.1.symm;simp_all
 |v::l,l',k,cs,cs',h,hc=>by
  obtain ⟨v',l2,rfl,hv,hl⟩:=h.Kv;refine foldl_rel off (k+1) hl ?_;simp only [Array.toList_setIfInBounds];exact hc.set hv _
def U8 (ι:BJ) (g:Nat→Nat):List (Nat×Value)→List (Nat×Value)→Prop
 |[],[]=>True
 |p::ps,p'::ps'=>p'.1=p.1∧Aw ι g p.2 p'.2∧U8 ι g ps ps'
 |_,_=>False
theorem Qn {ι:BJ} {g:Nat→Nat} (place:Nat→Option (Nat×Nat)):∀ {ps ps':List (Nat×Value)} {cs cs' out:Array Value},U8 ι g ps ps'→BA ι g cs.toList cs'.toList →
 Instr.fill place cs ps=some out→∃ out',Instr.fill place cs' ps'=some out'∧BA ι g out.toList out'.toList
 |[],[],cs,cs',out,_,hc,h=>by
  simp only [Instr.fill,Option.some.injEq] at h ⊢;grind
 |(i,v)::ps,(i',v')::ps',cs,cs',out,⟨h1,h2,h3⟩,hc,h=>by
  subst h1;simp only [Instr.fill] at h ⊢;cases hp:place i' with
  |none=>grind
  |some q =>
   obtain ⟨off,size⟩:=q;rw [hp] at h;simp only at h ⊢;have hcells:=h2.cells;have e1:v'.cells.size=v.cells.size:=by have:=hcells.1;grind
   have e2:cs'.size=cs.size:=by have:=hc.1;grind
   rw [e1,e2];split at h
   ·cases h
   ·rename_i hcond
    rw [if_neg hcond];refine Qn place h3 ?_ h;have:=foldl_rel (ι:=ι) (g:=g) off 0 hcells hc;rw [← co,← co,dr,dr];omega
 |[],_::_,_,_,_,h,_,_=>h.elim
 |_::_,[],_,_,_,h,_,_=>h.elim
theorem U8.map {ι:BJ} {g:Nat→Nat} {ρ ρ':Operand→Value}:∀ {ps:List (Nat×Operand)},(∀ x∈ps.map (·.2),Aw ι g (ρ x) (ρ' x)) →
 U8 ι g (ps.map fun (i,x)=>(i,ρ x)) (ps.map fun (i,x)=>(i,ρ' x))
 |[],_=>trivial
 |(i,x)::ps,h=>⟨rfl,h x (by simp),U8.map fun y hy=>h y (by grind)⟩
theorem XL {ι:BJ} {g:Nat→Nat} {t:TypeId} {ps ps':Array (Nat×Value)} {v:Value} (hp:U8 ι g ps.toList ps'.toList) (hz:∀ z,zeroOf P t=some z→z.cells.toList.all plainCell=true)
 (h:DF P (Instr.build t ps)=some v):∃ v',DF P (Instr.build t ps')=some v'∧Aw ι g v v':=by
 unfold Instr.build at h ⊢;simp only [Au] at h ⊢;have hzv:DF P (zeroValue t)=zeroOf P t:=by
  simp only [zeroValue,Au,KE,zeroOf];cases P.info? t with
  |none=>rfl
  |some i=>simp only [Option.bind_some];cases i.zero<;>rfl
 rw [hzv] at h ⊢;cases hz0:zeroOf P t with
 |none=>grind
 |some z =>
  have hzz:=BA.plain (ι:=ι) (g:=g) (hz z hz0);rw [hz0] at h;simp only [Option.bind_some,AZ] at h ⊢;cases hd:P.underlying t with
  |none=>grind
  |some d =>
   rw [hd] at h;simp only [Option.bind_some] at h ⊢;cases d with
   |struct fields =>
    simp only [Au] at h ⊢;cases hpl:DF P (Array.mapM (fun f=>do let __do_lift ← sizeOf f.type;pure (f.offset,__do_lift)) fields) with
    |none=>grind
    |some places =>
     rw [hpl] at h;simp only [Option.bind_some] at h ⊢;cases hf:Instr.fill (fun x=>places[x]?) z.cells ps.toList with
     |none=>rw [hf] at h;cases h
     |some out =>
      rw [hf] at h;obtain ⟨out',ho,hr⟩:=Qn _ hp hzz hf;rw [ho];simp only [BU,Option.some.injEq] at h ⊢;subst h;exact ⟨_,rfl,.agg out.toList out'.toList hr.1 hr.2⟩
   |array n e =>
    simp only [Au,F7] at h ⊢;cases hi:P.info? e with
    |none=>grind
    |some i =>
     rw [hi] at h;simp only [Option.map_some,Option.bind_some] at h ⊢;cases hf:Instr.fill (fun j=>some (j*i.size,i.size)) z.cells ps.toList with
     |none=>rw [hf] at h;cases h
     |some out =>
      rw [hf] at h;obtain ⟨out',ho,hr⟩:=Qn _ hp hzz hf;rw [ho];simp only [BU,Option.some.injEq] at h ⊢;subst h;exact ⟨_,rfl,.agg out.toList out'.toList hr.1 hr.2⟩
   |_=>cases h
theorem pW {ι:BJ} {g:Nat→Nat} {t:TypeId} {cs cs':Array Value} {off:Nat} {v:Value} (hr:BA ι g cs.toList cs'.toList) (h:DF P (part t cs off)=some v) :
 ∃ v',DF P (part t cs' off)=some v'∧Aw ι g v v':=by
 unfold part at h ⊢;simp only [Au,QW] at h ⊢;cases ha:GN P t with
 |none=>grind
 |some b =>
  rw [ha] at h;simp only [Option.bind_some] at h ⊢;cases b with
  |true =>
   simp only [if_true,Au,F7] at h ⊢;cases hi:P.info? t with
   |none=>grind
   |some i =>
    rw [hi] at h;simp only [Option.map_some,Option.bind_some,BU,Option.some.injEq] at h ⊢;subst h;refine ⟨_,rfl,?_⟩;have:=(hr.drop off).take i.size;have e:∀ (c:Array Value),c.extract off (off+i.size)=⟨(c.toList.drop off).take i.size⟩:=fun c=>by
     grind
    rw [e,e];exact .agg _ _ this.1 this.2
  |false =>
   simp only [Bool.false_eq_true,if_false] at h ⊢;cases hc:cs[off]? with
   |none=>rw [hc] at h;cases h
   |some u =>
    rw [hc] at h;simp only [BU,Option.some.injEq] at h;subst h;obtain ⟨v',h1,h2⟩:=hr.get (i:=off) (v:=u) (by grind);refine ⟨v',?_,h2⟩;have:cs'[off]?=some v':=by grind
    rw [this];rfl
theorem WM {ι:BJ} {g:Nat→Nat} {t:TypeId} {x x' v:Value} {f:Nat} (hx:Aw ι g x x') (h:DF P (Instr.field t x f)=some v) :
 ∃ v',DF P (Instr.field t x' f)=some v'∧Aw ι g v v':=by
 unfold Instr.field at h ⊢;simp only [Au,AZ] at h ⊢;cases hd:P.underlying t with
 |none=>grind
 |some d =>
  rw [hd] at h;simp only [Option.bind_some] at h ⊢;cases d<;>first|(cases h)|skip
  rename_i fields;simp only at h ⊢;cases hf:fields[f]? with
  |none=>rw [hf] at h;cases h
  |some fd =>
   rw [hf] at h;cases hx<;>first|(cases h)|skip
   rename_i l l' h1 h2;exact pW (cs:=⟨l⟩) (cs':=⟨l'⟩) ⟨h1,h2⟩ h
theorem WR {ι:BJ} {g:Nat→Nat} {t:TypeId} {x x' ix v:Value} (hx:Aw ι g x x') (h:DF P (Instr.index t x ix)=some v) :
 ∃ v',DF P (Instr.index t x' ix)=some v'∧Aw ι g v v':=by
 unfold Instr.index at h ⊢;simp only [Au] at h ⊢;cases hi:DF P (asIntOf ix) with
 |none=>grind
 |some p =>
  obtain ⟨k,i⟩:=p;rw [hi] at h;simp only [Option.bind_some,Au,AZ] at h ⊢;cases hd:P.underlying t with
  |none=>grind
  |some d =>
   rw [hd] at h;simp only [Option.bind_some] at h ⊢;cases hx with
   |agg l l' h1 h2 =>
    cases d<;>first|(cases h;done)|skip
    rename_i n e;simp only at h ⊢;split at h
    ·rename_i hb
     rw [if_pos hb];simp only [Au,F7] at h ⊢;cases hii:P.info? e with
     |none=>grind
     |some inf =>
      rw [hii] at h;exact pW (cs:=⟨l⟩) (cs':=⟨l'⟩) ⟨h1,h2⟩ h
    ·revert h
     simp only [boundsPanic,Au];split<;>intro h<;>first
      |contradiction
      |(cases h)
      |(simp [BU,runtimePanic,Au,program,DF,goPanic] at h)
   |str s =>
    refine ⟨v,h,?_⟩;cases d<;>first|(cases h;done)|skip
    simp only at h;split at h
    ·simp only [BU,Option.some.injEq] at h
     subst h;exact .int _ _
    ·exfalso
     revert h
     simp only [boundsPanic,Au];split<;>intro h<;>first
      |contradiction
      |(cases h)
      |(simp [BU,runtimePanic,Au,program,DF,goPanic] at h)
   |_=>cases d<;>cases h
theorem Sv {ι:BJ} {g:Nat→Nat} {x x' v:Value} {i:Nat} (hx:Aw ι g x x') (h:DF P (Instr.extract x i)=some v) :
 ∃ v',DF P (Instr.extract x' i)=some v'∧Aw ι g v v':=by
 unfold Instr.extract at h ⊢;cases hx<;>first|(cases h)|skip
 rename_i l l' h1 h2;simp only at h ⊢;cases hc:(⟨l⟩:Array Value)[i]? with
 |none=>rw [hc] at h;cases h
 |some u =>
  rw [hc] at h;simp only [BU,Option.some.injEq] at h;subst h;obtain ⟨v',k1,k2⟩:=BA.get (l:=l) (l':=l') ⟨h1,h2⟩ (i:=i) (v:=u) (by grind);refine ⟨v',?_,k2⟩;have:(⟨l'⟩:Array Value)[i]?=some v':=by grind
  rw [this];rfl
end
section
variable {P:Program} {G:List Nat}
theorem qZ {op:BinOp} {k:IntKind} {a b:Int} {v:Value} {t:TypeId} (h:a7a op k a b=some v) (w:World) :
 (binOp op t (.int k a) (.int k b)).run P w=.ok v w∧plain v=true:=by
 cases op<;>simp only [a7a,reduceCtorEq,Option.some.injEq] at h
 case quo =>
  split at h
  ·cases h
  ·rename_i hb
   simp only [Option.some.injEq] at h;subst h;refine ⟨?_,rfl⟩;rw [binOp_quo];simp only [Op.intDiv,if_neg hb];rfl
 case rem =>
  split at h
  ·cases h
  ·rename_i hb
   simp only [Option.some.injEq] at h;subst h;refine ⟨?_,rfl⟩;rw [binOp_rem];simp only [Op.intDiv,if_neg hb];rfl
 all_goals
  subst h;refine ⟨?_,rfl⟩;first
   |(rw [binOp_add];rfl)
   |(rw [binOp_sub];rfl)
   |(rw [binOp_mul];rfl)
   |(rw [binOp_and];rfl)
   |(rw [binOp_or];rfl)
   |(rw [binOp_xor];rfl)
   |(rw [binOp_andNot];rfl)
   |(rw [binOp_eql];rfl)
   |(rw [binOp_neq];rfl)
   |(rw [binOp_lss];rfl)
   |(rw [binOp_leq];rfl)
   |(rw [binOp_gtr];rfl)
   |(rw [binOp_geq];rfl)
theorem OL {op:BinOp} {k k':IntKind} {a b:Int} {v:Value} {t:TypeId} (hop:op=.shl∨op=.shr) (h:Zp op k a b=some v) (w:World) :
 (binOp op t (.int k a) (.int k' b)).run P w=.ok v w∧plain v=true:=by
 unfold Zp at h;split at h
 ·cases h
 ·rename_i hb
  rcases hop with rfl|rfl<;>simp only [Option.some.injEq] at h<;>subst h<;>refine ⟨?_,rfl⟩
  ·rw [binOp_shl];simp only [Op.shift,if_neg hb];rfl
  ·rw [binOp_shr];simp only [Op.shift,if_neg hb];rfl
theorem Pj {t e:TypeId} (hu:P.underlying t=some (.slice e)) (a b:Option Addr) (n c n' c':Nat) (h:a=none∨b=none) (w:World) :
 (Op.equal t (.slice a n c) (.slice b n' c')).run P w=.ok (a.isNone&&b.isNone) w:=by
 show (Op.equalIn (9999+1) t _ _).run P w=_;unfold Op.equalIn;simp only [Sem.run_bind,run_underlying hu,Result.andThen_ok];cases a with
 |none=>cases b<;>rfl
 |some a=>simp_all
theorem dK {t k e:TypeId} (hu:P.underlying t=some (.map k e)) (a:Option Nat) (w:World) :
 (Op.equal t (.map a) (.map none)).run P w=.ok a.isNone w:=by
 show (Op.equalIn (9999+1) t _ _).run P w=_;unfold Op.equalIn;simp only [Sem.run_bind,run_underlying hu,Result.andThen_ok];cases a<;>rfl
theorem UU {t e:TypeId} (hu:P.underlying t=some (.pointer e)) (a:Option Addr) (w:World) :
 (Op.equal t (.pointer a) (.pointer none)).run P w=.ok a.isNone w:=by
 show (Op.equalIn (9999+1) t _ _).run P w=_;unfold Op.equalIn;simp only [Sem.run_bind,run_underlying hu,Result.andThen_ok];cases a<;>rfl
theorem SY {ι:BJ} {g:Nat→Nat} {op:BinOp} {t:TypeId} {xo yo:Operand} {x y x' y' v:Value} (hx:Aw ι g x x') (hy:Aw ι g y y') (h:PG P op t xo yo x y=some v) (w:World) :
 ∃ v',(do eqGuard op t xo yo x' y';binOp op t x' y':Sem Value).run P w=.ok v' w∧Aw ι g v v':=by
 unfold PG at h;split at h
 ·cases hx;cases hy
  rename_i k a k' b;refine ⟨v,?_⟩;simp only [Sem.run_bind,eqGuard_at_int,Sem.run_pure,Result.andThen_ok];split at h
  ·obtain ⟨h1,h2⟩:=OL (P:=P) (t:=t) (k':=k') (.inl rfl) h w
   exact ⟨h1,Aw.plain h2⟩
  ·obtain ⟨h1,h2⟩:=OL (P:=P) (t:=t) (k':=k') (.inr rfl) h w
   exact ⟨h1,Aw.plain h2⟩
  ·split at h
   ·rename_i e
    subst e;obtain ⟨h1,h2⟩:=qZ (P:=P) (t:=t) h w;exact ⟨h1,Aw.plain h2⟩
   grind
 ·rename_i a n g'
  cases hy;split at h
  ·rename_i e hu
   have hsh:∃ a' n' c',x'=.slice a' n' c'∧a'.isNone=a.isNone:=by cases hx<;>exact ⟨_,_,_,rfl,rfl⟩
   obtain ⟨a',n',c',rfl,hn⟩:=hsh;simp only [Sem.run_bind,eqGuard_at_slice,Sem.run_pure,Result.andThen_ok];have heq:=Pj hu a' none n' c' 0 0 (.inr rfl) w;cases op<;>simp only [Js,reduceCtorEq,Option.some.injEq] at h<;>subst h
   ·refine ⟨_,?_,.bool _⟩
    simp [binOp,heq,hn]
   ·refine ⟨_,?_,.bool _⟩
    simp [binOp,heq,hn]
  grind
 ·rename_i a n g' _
  cases hx;split at h
  ·rename_i e hu
   have hsh:∃ a' n' c',y'=.slice a' n' c'∧a'.isNone=a.isNone:=by cases hy<;>exact ⟨_,_,_,rfl,rfl⟩
   obtain ⟨a',n',c',rfl,hn⟩:=hsh;simp only [Sem.run_bind,eqGuard_at_slice,Sem.run_pure,Result.andThen_ok];have heq:=Pj hu none a' 0 0 n' c' (.inl rfl) w;cases op<;>simp only [Js,reduceCtorEq,Option.some.injEq] at h<;>subst h
   ·refine ⟨_,?_,.bool _⟩
    simp [binOp,heq,hn]
   ·refine ⟨_,?_,.bool _⟩
    simp [binOp,heq,hn]
  grind
 ·rename_i a
  cases hy;split at h
  ·rename_i k e hu
   have hsh:∃ a',x'=.map a'∧a'.isNone=a.isNone:=by cases hx<;>exact ⟨_,rfl,rfl⟩
   obtain ⟨a',rfl,hn⟩:=hsh;simp only [Sem.run_bind,eqGuard_at_map,Sem.run_pure,Result.andThen_ok];have heq:=dK hu a' w;cases op<;>simp only [Js,reduceCtorEq,Option.some.injEq] at h<;>subst h
   ·refine ⟨_,?_,.bool _⟩
    simp [binOp,heq,hn]
   ·refine ⟨_,?_,.bool _⟩
    simp [binOp,heq,hn]
  grind
 ·rename_i a
  cases hy;split at h
  ·rename_i e hu
   have hsh:∃ a',x'=.pointer a'∧a'.isNone=a.isNone:=by cases hx<;>exact ⟨_,rfl,rfl⟩
   obtain ⟨a',rfl,hn⟩:=hsh;simp only [Sem.run_bind,eqGuard_at_pointer,Sem.run_pure,Result.andThen_ok];have heq:=UU hu a' w;cases op<;>simp only [Js,reduceCtorEq,Option.some.injEq] at h<;>subst h
   ·refine ⟨_,?_,.bool _⟩
    simp [binOp,heq,hn]
   ·refine ⟨_,?_,.bool _⟩
    simp [binOp,heq,hn]
  grind
 ·split at h
  ·rename_i hp
   simp only [Bool.and_eq_true] at hp;rw [hx.BP hp.1,hy.BP hp.2];obtain ⟨h1,h2⟩:=FN h;exact ⟨v,Ed h1 w,Aw.plain h2⟩
  grind
theorem Dh {l:List Value} (h:l.all plainCell=true):l.all BK=true:=by
 rw [aL] at h ⊢;intro u hu;have:=h u hu;cases u<;>first|rfl|assumption
theorem JH {z:List Value} (h:z.all plainCell=true) (n:Nat):(AL z n).all plainCell=true:=by
 induction n with
 |zero=>rfl
 |succ n ih=>simp only [AL,List.all_append,h,ih,Bool.and_self]
theorem XU {ι:BJ} {m:Mem} {w:World} {t e:TypeId} {i:TypeInfo} {z:List Value} {kn kk:IntKind} {n k:Int} (hs:DL P G ι m w) (hu:P.underlying t=some (.slice e)) (hi:P.info? e=some i)
 (hz:BQ P e=some z) (h0:0≤n) (h1:n≤k) (h2:k.toNat*(i.bytes+1)≤room) (h3:k≤2 ^ 40) (h4:z.length=i.size) (h5:0<i.size) :
 ∃ v' w',(Instr.makeSlice t (.int kn n) (.int kk k)).run P w=.ok v' w' ∧
  Post P G ι m w (AQ m e (AL z n.toNat) n.toNat).1 (AQ m e (AL z n.toNat) n.toNat).2 v' w':=by
 obtain ⟨i',zv,hi',hz1,rfl,hz3⟩:=BH hz;rw [hi] at hi';cases hi';have hwn:IntKind.i64.wrap n=n:=wrap_small h0 (by omega);have hwk:IntKind.i64.wrap k=k:=wrap_small (by omega) h3;have hbig:¬ ((i.bytes:Int)*k>2 ^ 48):=by
  have e1:k.toNat*i.bytes≤k.toNat*(i.bytes+1):=bX _ (by omega);have e3:(i.bytes:Int)*k=((k.toNat*i.bytes:Nat):Int):=by grind
  have e4:room=2 ^ 40:=rfl;omega
 have hlt:¬ (k<0):=by omega
 have hlt2:¬ (n<0):=by omega
 have hgt:¬ (n>k):=by omega
 refine ⟨.slice (some ⟨w.heap.size,0,none⟩) n.toNat k.toNat,{ w with heap:=w.heap.push (.cells (AL zv.cells.toList k.toNat).toArray e (0,0)) },?_,?_⟩
 ·simp only [Instr.makeSlice,Sem.run_bind,run_underlying hu,Result.andThen_ok,asInt,asIntOf,Sem.run_pure,run_typeInfo' hi,hwn,hwk,hlt,hlt2,hgt,hbig,decide_false,Bool.or_false,Bool.false_eq_true,if_false,or_false,
   run_askRoom,run_sizeOf' hi]
  by_cases hk0:k.toNat*i.size=0
  ·have e1:AL zv.cells.toList k.toNat=[]:=ar.1 (by rw [EJ,h4];omega)
   rw [if_pos hk0,hk0,e1];simp [newRow,Array.range_zero']
  ·have e1:=KH zv.cells.toList k.toNat (by omega)
   rw [h4] at e1;rw [if_neg hk0];simp only [Sem.run_bind,Nu hi hz1,Result.andThen_ok,Sem.run_pure,newRow,run_newObj,← e1]
 ·refine Jb hs rfl rfl rfl rfl (fun j hj=>?_) (by omega) (.inr ?_)
  ·rw [EJ] at hj
   have hjk:j<k.toNat*zv.cells.toList.length:=ag hj (bp _ (by omega));have hm:j % zv.cells.toList.length<zv.cells.toList.length:=ao _ (by omega);have e1:=Tf zv.cells.toList k.toNat j hjk;have e2:=Tf zv.cells.toList n.toNat j hj;rw [ai hm] at e1 e2;refine ⟨zv.cells.toList[j % zv.cells.toList.length],by grind,?_⟩;rw [getD_eq,e2];exact Aw.plainCell (aL.1 hz3 _ (cN hm))
  ·rw [EF hi,List.size_toArray,EJ,h4];simp
theorem Y4:∀ {l:List Value} {bs:List UInt8},VT l=some bs→l=bs.map fun c=>Value.int .u8 c.toNat
 |[],_,h=>by cases h;rfl
 |v::l,bs,h=>by
  unfold VT at h;split at h
  ·grind
  ·rename_i n l' he
   cases he;split at h
   ·rename_i hn
    rw [ae] at h;obtain ⟨bs',h1,rfl⟩:=h;rw [Y4 h1,bz];have:(UInt8.ofNat n.toNat).toNat=n.toNat:=by simp_all
    grind
   grind
  grind
theorem pq {ι:BJ} {m m':Mem} {w:World} {s d:TypeId} {x x' v:Value} (hs:DL P G ι m w) (hx:Aw ι m.gen x x') (h:Xc P s d x m=some (v,m')) :
 ∃ v' w',(convert s d x').run P w=.ok v' w'∧Post P G ι m w v m' v' w':=by
 unfold Xc at h;split at h
 ·rename_i e b hu1 hu2
  split at h
  ·rename_i i he hi
   split at h
   ·rename_i hb
    cases h;have ex:x'=.string b:=by cases hx;rfl
    subst ex;refine ⟨_,_,run_bytes_of_string w s d e b hu1 hu2 he,?_⟩;have hge:=grownCap_ge w b.size 0 e;generalize grownCap w b.size 0 e=cap at hge ⊢;have hsz:(bytesRow b cap).size=cap:=by
     unfold bytesRow;simp_all
    obtain ⟨ι',hext,Dv,hbk⟩:=OD (x:=.cells (J7 b) e 0 false) (ib:=⟨w.heap.size,0,(bytesRow b cap).size,P.cellsOf e⟩)
     (w':=w.drew.alloc (.cells (bytesRow b cap) e ((bytesRow b cap).size,(bytesRow b cap).size+1))) (obj:=.cells (bytesRow b cap) e ((bytesRow b cap).size,(bytesRow b cap).size+1)) hs rfl rfl rfl rfl rfl
     ⟨fun _=>rfl,rfl,rfl,fun k hk=>by
      refine ⟨(J7 b).getD k undef,?_,?_⟩
      ·rw [getD_lt hk,cw]
       have hk':k<b.data.size:=by simpa [J7] using hk
       unfold bytesRow;rw [cH (by grind)];simp only [J7,Array.getElem?_map,List.getElem_map,Array.getElem?_eq_getElem hk',Option.map_some,Array.getElem_toList]
      ·rw [getD_lt hk]
       have hm:(J7 b)[k]∈J7 b:=cN hk;obtain ⟨c,_,hc⟩:=be.1 hm;rw [← hc];exact .int _ _,fun _ j hj=>by omega⟩ rfl
    refine ⟨ι',hext,Dv,.sl _ _ _ _ _ _ ⟨_,hbk,aq _,hge,fun _=>⟨rfl,rfl,.inr ⟨rfl,?_⟩⟩⟩⟩;simp only [EF hi,hb.1,hsz,Nat.zero_add,Nat.mul_one,Nat.le_refl]
   grind
  grind
 ·rename_i e a n g hu1 hu2
  split at h
  ·rename_i he
   split at h
   ·rename_i l hl
    split at h
    ·rename_i bs hbs
     cases h;have hlen:=Fg hl;have hmap:=Y4 hbs;have hn:bs.length=n:=by grind
     have key:∃ a' cap,x'=.slice a' n cap∧(a'=none∧n=0∨∃ A,a'=some A∧∀ j (hj:j<bs.length),w.cell? (A.add j)=some (.int .u8 (bs[j].toNat:Int))):=by
      cases hx with
      |J6=>simp
      |wz b o s a'=>grind
      |sl b off len gen a' cap hr =>
       refine ⟨some a',cap,rfl,.inr ⟨a',rfl,fun j hj=>?_⟩⟩;have hpos:0<n:=by omega
       have ha:=JC hr (fun _=>hpos) 0;rw [Addr.add_zero'] at ha;have hl':m.Em ⟨b,off,some g⟩ n=some l:=by
        unfold Ci at hl;grind
       obtain ⟨l',h1,h2,h3⟩:=J5 hs (by omega) hl';have hj2:j<l.length:=by omega
       obtain ⟨v',h4,h5⟩:=h1.get (ai hj2);have e1:l[j]=.int .u8 (bs[j].toNat:Int):=by grind
       rw [e1] at h5;have e2:v'=.int .u8 (bs[j].toNat:Int):=by cases h5;rfl
       grind
     obtain ⟨a',cap,rfl,hc⟩:=key;refine ⟨.string ⟨bs.toArray⟩,w,?_,Post.same hs (.str _)⟩;rcases hc with ⟨rfl,h0⟩|⟨A,rfl,hc⟩
     ·have:bs=[]:=ar.1 (by omega)
      subst this;rw [run_convert_bytes_string w s d e none n cap hu1 he hu2];rfl
     ·have:=run_convert_bytes_back (P:=P) w s d e A cap bs hu1 he hu2 hc
      grind
    grind
   grind
  grind
 grind
def a9m (n:Next) (v:Value):Prop:=n=.value v∨(n=.skip∧v=undef)
theorem UR {ι:BJ} {m:Mem} {w:World} {e:TypeId} {l:List Value} {cs:Array Value} (hs:DL P G ι m w) (hl:BA ι m.gen l cs.toList) :
 Post P G ι m w (.pointer (some ⟨m.size,0,none⟩)) (m.alloc (.cells l e 0 false)) (.pointer (some ⟨w.heap.size,0,none⟩)) { w with heap:=w.heap.push (.cells cs e (0,0)) }:=by
 obtain ⟨ι',hext,Dv,hb⟩:=OD (x:=.cells l e 0 false) (ib:=⟨w.heap.size,0,cs.size,P.cellsOf e⟩) (w':={ w with heap:=w.heap.push (.cells cs e (0,0)) }) (obj:=.cells cs e (0,0)) hs rfl rfl rfl rfl rfl
  ⟨fun _=>rfl,rfl,rfl,fun i hi=>by
   obtain ⟨v',h1,h2⟩:=hl.get (ai hi);grind,fun _ j _=>by simp⟩ rfl
 exact ⟨ι',hext,Dv,.ptr _ _ ⟨_,hb,aq _,fun _=>rfl⟩⟩
theorem XW.map {ι:BJ} {g:Nat→Nat} {ρ ρ':Operand→Value} {o:Option Operand} (h:∀ x,o=some x→Aw ι g (ρ x) (ρ' x)):XW ι g (o.map ρ) (o.map ρ'):=by
 cases o with
 |none=>exact .inl ⟨rfl,rfl⟩
 |some x=>exact .inr ⟨_,_,rfl,rfl,h x rfl⟩
theorem O8.map {ι:BJ} {g:Nat→Nat} {ρ ρ':Operand→Value} {BF:Array Operand} (h:∀ x∈BF,Aw ι g (ρ x) (ρ' x)):O8 ι g (BF.map ρ) (BF.map ρ'):=fun i v hv=>by
 grind
theorem BA.TT {ι:BJ} {g:Nat→Nat} {ρ ρ':Operand→Value}:∀ {l:List Operand},(∀ x∈l,Aw ι g (ρ x) (ρ' x))→BA ι g (l.map ρ) (l.map ρ')
 |[],_=>BA.nil
 |x::l,h=>BA.cons (h x (by simp)) (BA.TT fun y hy=>h y (by grind))
theorem KG {ι:BJ} {g:Nat→Nat} {ρ ρ':Operand→Value} {BF:Array Operand} (h:∀ x∈BF,Aw ι g (ρ x) (ρ' x)) (hp:(BF.map ρ).toList.all plain=true):BF.map ρ'=BF.map ρ:=by
 apply Array.map_congr_left;intro x hx;refine (h x hx).BP ?_;grind
end
section
variable {P:Program} {G:List Nat}
theorem He {s:Sem Value} {v:Value} {w w':World} (h:s.run P w=.ok v w'):(do pure (.value (← s)):Sem Next).run P w=.ok (.value v) w' :=by simp_all
theorem D7 {b:Builtin} {ρ:Operand→Value} {args:Array Operand} {aT:Array TypeId} {ty:TypeId} {w:World} {dst:Option Tmp} {pos:String} {after:Array Edge} {guard:Option (Nat×Bool)} :
 (execOp ρ { dst:=dst,op:=.call { callee:=.builtin b,args:=args,argTypes:=aT },type:=ty,pos:=pos,after:=after,guard:=guard }).run P w =
  (builtin b aT ty (args.map fun| .const _=>true|_=>false) (args.map ρ)).run P w:=by
 rfl
theorem DL.junk {ι:BJ} {m:Mem} {w:World} (hs:DL P G ι m w) (x:Obj):DL P G ι m { w with heap:=w.heap.push x }:=by
 have hg:∀ b ib,ι b=some ib→(w.heap.push x)[ib.blk]?=w.heap[ib.blk]?:=fun b ib hb=>by
  have:=(hs.dom b ib hb).2;grind
 refine ⟨fun b ib hb=>⟨(hs.dom b ib hb).1,?_⟩,fun b ib hb=>?_,hs.inj,hs.glob⟩
 ·have:=(hs.dom b ib hb).2
  grind
 ·rw [hg b ib hb]
  exact hs.blk b ib hb
theorem Ext.junk (ι:BJ) (m:Mem) (w:World) (x:Obj):Ext ι m w ι m { w with heap:=w.heap.push x } :=
 ⟨ab _,ab _,fun _ _ _=>rfl,fun _ _ _=>rfl,fun _ _=>rfl,Le.refl _ _,fun _ ib h=>.inl ⟨ib,h,rfl⟩,fun _ ib h=>.inl ⟨ib,h⟩,
  by simp,fun c hc _=>by grind,rfl,rfl,rfl⟩
theorem Zf {ι:BJ} {g:Nat→Nat} {ρ ρ':Operand→Value} {dst:Option Tmp} {ty:TypeId} {pos:String} {after:Array Edge} {guard:Option (Nat×Bool)} {t e:TypeId} {ps:Array (Nat×Operand)} {i:TypeInfo} {z:List Value} {cs:Array Value}
 (hu:P.underlying t=some (.slice e)) (hi:P.info? e=some i) (hz:BQ P e=some z) (c2:z.length=i.size) (c3:0<i.size) (hρ:∀ x∈(Op.buildSlice t 0 ps).operands,Aw ι g (ρ x) (ρ' x))
 (hcs:Instr.fill (fun j=>some (j*i.size,i.size)) (AL z 0).toArray (ps.map fun (i,x)=>(i,ρ x)).toList=some cs) :
 ∃ x,∀ w,(execOp ρ' ⟨dst,.buildSlice t 0 ps,ty,pos,after,guard⟩).run P w=.ok (.value (.slice (some ⟨w.heap.size,0,none⟩) 0 0)) { w with heap:=w.heap.push x }:=by
 obtain ⟨i',zv,hi',hz1,rfl,hz3⟩:=BH hz;rw [hi] at hi';cases hi';have hp:U8 ι g (ps.map fun (i,x)=>(i,ρ x)).toList (ps.map fun (i,x)=>(i,ρ' x)).toList:=by
  rw [bB,bB];exact U8.map fun x hx=>hρ x (by simp only [Op.operands];grind)
 obtain ⟨cs',hf,hr⟩:=Qn (ι:=ι) (g:=g) _ hp (BA.plain (JH hz3 0)) hcs;refine ⟨.cells cs' e (0,0),fun w=>?_⟩;simp only [execOp,Instr.buildSlice,Sem.run_bind,run_underlying hu,Result.andThen_ok,run_sizeOf' hi,Sem.run_pure];rw [if_neg (by omega)];rw [if_pos (ge _)];have e2:(Array.map (fun x=>(#[]:Array Value)[x % (#[]:Array Value).size]!) (Array.range (0*i.size)))=#[]:=by
  simp
 have hf':Instr.fill (fun j=>some (j*i.size,i.size)) #[] (ps.map fun (i,x)=>(i,ρ' x)).toList=some cs':=hf;simp only [Sem.run_bind,Sem.run_pure,Result.andThen_ok,e2,hf',newRow,run_newObj]
theorem oN {ι:BJ} {g:Nat→Nat} {ρ ρ':Operand→Value} {dst:Option Tmp} {ty:TypeId} {pos:String} {after:Array Edge} {guard:Option (Nat×Bool)} {t e:TypeId} {len:Nat} {ps:Array (Nat×Operand)} {i:TypeInfo} {z:List Value} {cs:Array Value}
 (hu:P.underlying t=some (.slice e)) (hi:P.info? e=some i) (hz:BQ P e=some z) (c1:len*i.size≤2 ^ 24) (c2:z.length=i.size) (c3:0<i.size) (hρ:∀ x∈(Op.buildSlice t len ps).operands,Aw ι g (ρ x) (ρ' x))
 (hcs:Instr.fill (fun j=>some (j*i.size,i.size)) (AL z len).toArray (ps.map fun (i,x)=>(i,ρ x)).toList=some cs) :
 ∃ cs':Array Value,(∀ j,j<cs.toList.length→∃ v',cs'[j]?=some v'∧Aw ι g (cs.toList.getD j undef) v')∧len*P.cellsOf e≤cs'.size ∧
  ∀ w,(execOp ρ' ⟨dst,.buildSlice t len ps,ty,pos,after,guard⟩).run P w=.ok (.value (.slice (some ⟨w.heap.size,0,none⟩) len len)) { w with heap:=w.heap.push (.cells cs' e (0,0)) }:=by
 obtain ⟨i',zv,hi',hz1,rfl,hz3⟩:=BH hz;rw [hi] at hi';cases hi';have hp:U8 ι g (ps.map fun (i,x)=>(i,ρ x)).toList (ps.map fun (i,x)=>(i,ρ' x)).toList:=by
  rw [bB,bB];exact U8.map fun x hx=>hρ x (by simp only [Op.operands];grind)
 have hlen:=EJ zv.cells.toList len;obtain ⟨cs',hf,hr⟩:=Qn (ι:=ι) (g:=g) _ hp (BA.plain (JH hz3 len)) hcs;refine ⟨cs',fun j hj=>?_,?_,fun w=>?_⟩
 ·obtain ⟨v',h1,h2⟩:=hr.get (ai hj)
  grind
 ·rw [EF hi]
  have hsz:cs'.size=len*i.size:=by
   have fs:∀ (ps:List (Nat×Value)) (c c':Array Value),Instr.fill (fun j=>some (j*i.size,i.size)) c ps=some c'→c'.size=c.size:=fun ps=>by
    induction ps with
    |nil=>intro c c' h;simp only [Instr.fill,Option.some.injEq] at h;rw [h]
    |cons p ps ih =>
     intro c c' h;obtain ⟨j,u⟩:=p;simp only [Instr.fill] at h;split at h
     ·cases h
     ·have:=ih _ _ h
      rw [this];have fl:∀ (l:List (Value×Nat)) (c:Array Value),(l.foldl (fun cs (c,k)=>cs.setIfInBounds (j*i.size+k) c) c).size=c.size:=fun l=>by
       induction l with
       |nil=>simp
       |cons q l ih=>simp_all
      rw [← co];grind
   grind
  omega
 ·simp only [execOp,Instr.buildSlice,Sem.run_bind,run_underlying hu,Result.andThen_ok,run_sizeOf' hi,Sem.run_pure]
  rw [if_neg (by omega)];by_cases hk0:len*i.size=0
  ·rw [if_pos hk0]
   have e2:(Array.map (fun x=>(#[]:Array Value)[x % (#[]:Array Value).size]!) (Array.range (len*i.size)))=(AL zv.cells.toList len).toArray:=by
    grind
   simp only [Sem.run_bind,Sem.run_pure,Result.andThen_ok,e2,hf,newRow,run_newObj]
  ·have e1:=KH zv.cells.toList len (by omega)
   rw [c2] at e1;rw [if_neg hk0];have e2:(Array.map (fun x=>zv.cells[x % zv.cells.size]!) (Array.range (len*i.size)))=(AL zv.cells.toList len).toArray:=e1;simp only [Sem.run_bind,Nu hi hz1,Result.andThen_ok,Sem.run_pure,e2,hf,newRow,run_newObj]
theorem a0p {ι:BJ} {m m':Mem} {w:World} {ρ ρ':Operand→Value} {o:Oper} {v:Value} (hs:DL P G ι m w) (hρ:∀ x∈o.op.operands,Aw ι m.gen (ρ x) (ρ' x))
 (h:FB P ρ o m=some (v,m')):∃ n v' w',(execOp ρ' o).run P w=.ok n w'∧a9m n v'∧Post P G ι m w v m' v' w':=by
 obtain ⟨dst,op,ty,pos,after,guard⟩:=o;simp only at hρ;have same:∀ {s:Sem Value} {u v':Value},execOp ρ' ⟨dst,op,ty,pos,after,guard⟩=(do pure (.value (← s)):Sem Next)→s.run P w=.ok v' w→Aw ι m.gen u v'→(u,m)=(v,m') →
  ∃ n v' w',(execOp ρ' ⟨dst,op,ty,pos,after,guard⟩).run P w=.ok n w'∧a9m n v'∧Post P G ι m w v m' v' w':=fun {s u v'} he hr hv hm=>by
  cases hm;exact ⟨.value v',v',w,by rw [he];exact He hr,.inl rfl,Post.same hs hv⟩
 cases op<;>simp only [FB,reduceCtorEq] at h
 case move x =>
  cases h;exact ⟨.value (ρ' x),ρ' x,w,rfl,.inl rfl,Post.same hs (hρ x (by simp [Op.operands]))⟩
 case assign x =>
  cases h;exact ⟨.value (ρ' x),ρ' x,w,rfl,.inl rfl,Post.same hs (hρ x (by simp [Op.operands]))⟩
 case pick c a b =>
  have hc:=hρ c (by simp [Op.operands]);split at h
  ·rename_i t hcc
   cases h;rw [hcc] at hc;have e:ρ' c=.bool t:=by generalize ρ' c=u at hc;cases hc;rfl
   refine ⟨.value (if t then ρ' a else ρ' b),(if t then ρ' a else ρ' b),w,?_,.inl rfl,Post.same hs ?_⟩
   ·simp only [execOp,e,asBool,Sem.run_bind,Sem.run_pure,Result.andThen_ok]
   ·cases t
    ·exact hρ b (by simp [Op.operands])
    ·exact hρ a (by simp [Op.operands])
  ·cases h
 case binOp op t x y yt =>
  rw [ae] at h;obtain ⟨u,hu,he⟩:=h;obtain ⟨v',hr,hv⟩:=SY (hρ x (by simp [Op.operands])) (hρ y (by simp [Op.operands])) hu w;exact same rfl hr hv he
 case alloc e =>
  rw [ae] at h;obtain ⟨z,hz,he⟩:=h;cases he;obtain ⟨i,zv,hi,hz1,rfl,hz3⟩:=BH hz;refine ⟨_,_,_,?_,.inl rfl,UR (e:=e) (cs:=zv.cells) hs (BA.plain hz3)⟩;simp [execOp,Instr.alloc,Nu hi hz1,newVar,newRow]
 case box e x =>
  split at h
  ·cases h
   refine ⟨_,_,_,?_,.inl rfl,UR (e:=e) (cs:=(ρ' x).cells) hs (hρ x (by simp [Op.operands])).cells⟩;simp [execOp,Instr.box,newVar,newRow]
  ·cases h
 case build t ps =>
  split at h
  ·rename_i z hz
   rw [ae] at h;obtain ⟨u,hu,he⟩:=h;have hp:U8 ι m.gen (ps.map fun (i,x)=>(i,ρ x)).toList (ps.map fun (i,x)=>(i,ρ' x)).toList:=by
    rw [bB,bB];exact U8.map fun x hx=>hρ x (by simp only [Op.operands];simpa using hx)
   obtain ⟨v',hr,hv⟩:=XL hp (fun z' hz'=>by
    obtain ⟨i,zv,hi,hz1,rfl,hz3⟩:=BH hz;unfold zeroOf at hz';rw [hi] at hz';simp only [Option.bind_some] at hz';rw [hz1] at hz';cases hz';exact hz3) hu
   exact same rfl (Ed hr w) hv he
  ·cases h
 case buildSlice t len ps =>
  split at h
  ·rename_i e hu
   split at h
   ·rename_i i z hi hz
    split at h
    ·rename_i hc
     obtain ⟨c1,c2,c3⟩:=hc;split at h
     ·rename_i cs hcs
      split at h
      ·split at h
       ·rename_i hl0
        subst hl0;cases h;obtain ⟨x,hrun⟩:=Zf (ρ':=ρ') (dst:=dst) (ty:=ty) (pos:=pos) (after:=after) (guard:=guard) (ι:=ι) (g:=m.gen) hu hi hz c2 c3 (fun x hx=>hρ x hx) hcs;exact ⟨_,_,_,hrun w,.inl rfl,ι,Ext.junk _ _ _ x,hs.junk x,.wz 0 0 0 _⟩
       cases h;obtain ⟨cs',hl,hcap,hrun⟩:=oN (ρ':=ρ') (dst:=dst) (ty:=ty) (pos:=pos) (after:=after) (guard:=guard) (ι:=ι) (g:=m.gen) hu hi hz c1 c2 c3 (fun x hx=>hρ x hx) hcs;exact ⟨_,_,_,hrun w,.inl rfl,Jb (cap:=len) (cs:=cs') hs rfl rfl rfl rfl hl (ab _) (.inr hcap)⟩
      ·cases h
     ·cases h
    ·cases h
   ·cases h
  ·cases h
 case load t a =>
  have ha:=hρ a (by simp [Op.operands]);split at h
  ·rename_i ad had
   rw [ae] at h;obtain ⟨u,hu,he⟩:=h;rw [had] at ha;have hsh:∃ a',ρ' a=.pointer (some a')∧PI ι m.gen ad a':=by generalize ρ' a=u at ha;cases ha;exact ⟨_,rfl,by assumption⟩
   obtain ⟨a',e1,har⟩:=hsh;obtain ⟨v',hr,hv⟩:=Qw hs har hu;exact same (s:=Instr.loadAt t (ρ' a)) rfl (by simp only [Instr.loadAt,e1,Instr.sureAddr,Sem.run_bind,Sem.run_pure,Result.andThen_ok];exact hr) hv he
  ·cases h
 case store t a x =>
  have ha:=hρ a (by simp [Op.operands]);split at h
  ·rename_i ad had
   rw [ae] at h;obtain ⟨m1,hm1,he⟩:=h;cases he;rw [had] at ha;have hsh:∃ a',ρ' a=.pointer (some a')∧PI ι m.gen ad a':=by generalize ρ' a=u at ha;cases ha;exact ⟨_,rfl,by assumption⟩
   obtain ⟨a',e1,har⟩:=hsh;obtain ⟨w',ι',hr,hext,Dv⟩:=jG hs har (hρ x (by simp [Op.operands])) hm1;refine ⟨.skip,undef,w',?_,.inr ⟨rfl,rfl⟩,ι',hext,Dv,Aw.undef⟩;simp only [execOp,Instr.storeAt,e1,Instr.sureAddr,Sem.run_bind,Sem.run_pure,Result.andThen_ok,hr]
  ·cases h
 case nilCheck x =>
  have hx:=hρ x (by simp [Op.operands]);split at h
  ·rename_i ad had
   rw [had] at hx;have hsh:∃ a',ρ' x=.pointer (some a')∧PI ι m.gen ad a':=by generalize ρ' x=u at hx;cases hx;exact ⟨_,rfl,by assumption⟩
   obtain ⟨a',e1,har⟩:=hsh;cases h;exact ⟨.value (.pointer (some a')),_,w,by simp only [execOp,e1];rfl,.inl rfl,Post.same hs (.ptr _ _ har)⟩
  ·cases h
 case unOp op t x =>
  split at h
  ·rename_i hp
   rw [ae] at h;obtain ⟨u,hu,he⟩:=h;have hx:=(hρ x (by simp [Op.operands])).BP hp;obtain ⟨h1,h2⟩:=FN hu;exact same (s:=Op.unary op (ρ' x)) rfl (by rw [hx];exact Ed h1 w) (Aw.plain h2) he
  ·cases h
 case convert s d x =>
  split at h
  ·obtain ⟨v',w',h1,h2⟩:=pq hs (hρ x (by simp [Op.operands])) h
   exact ⟨.value v',v',w',He h1,.inl rfl,h2⟩
  split at h
  ·rename_i hp
   rw [ae] at h;obtain ⟨u,hu,he⟩:=h;have hx:=(hρ x (by simp [Op.operands])).BP hp;obtain ⟨h1,h2⟩:=FN hu;exact same (s:=Go.convert s d (ρ' x)) rfl (by rw [hx];exact Ed h1 w) (Aw.plain h2) he
  ·cases h
 case makeFunc fn fs cs =>
  cases fn<;>simp only [reduceCtorEq] at h
  rename_i f;cases h;have h1:=BA.TT (ι:=ι) (g:=m.gen) (l:=fs.toList) (fun x hx=>hρ x (by simp [Op.operands];exact .inl (by simpa using hx)));have h2:=BA.TT (ι:=ι) (g:=m.gen) (l:=cs.toList) (fun x hx=>hρ x (by simp [Op.operands];exact .inr (by simpa using hx)));refine ⟨.value (.func (.func f) (fs.map ρ') (cs.map ρ')),_,w,rfl,.inl rfl,Post.same hs ?_⟩;have e:∀ (r:Operand→Value) (a:Array Operand),a.map r=⟨a.toList.map r⟩:=fun r a=>by apply fL;simp
  rw [e ρ fs,e ρ cs,e ρ' fs,e ρ' cs];exact .fn f _ _ _ _ h1.1 h1.2 h2.1 h2.2
 case makeMap t r =>
  cases r<;>simp only [reduceCtorEq] at h
  cases h;obtain ⟨ι',hext,Dv,hb⟩:=OD (x:=.map [] 0) (ib:=⟨w.heap.size,0,0,0⟩) (w':={ w with heap:=w.heap.push (.map #[] 0) }) (obj:=.map #[] 0) hs rfl rfl rfl rfl rfl ⟨rfl,trivial⟩ rfl;exact ⟨.value (.map (some w.heap.size)),_,_,by simp [execOp,Instr.makeMap],.inl rfl,ι',hext,Dv,.map _ _ _ hb fun _=>rfl⟩
 case makeSlice t l c =>
  have hl:=hρ l (by simp [Op.operands]);have hc:=hρ c (by simp [Op.operands]);split at h
  ·rename_i e kn n kk k hu hln hck
   rw [hln] at hl;rw [hck] at hc;have e1:ρ' l=.int kn n:=by generalize ρ' l=u at hl;cases hl;rfl
   have e2:ρ' c=.int kk k:=by generalize ρ' c=u at hc;cases hc;rfl
   split at h
   ·rename_i i z hi hz
    split at h
    ·rename_i hcond
     obtain ⟨c1,c2,c3,c4,c5,c6⟩:=hcond;cases h;obtain ⟨v',w',hr,hp⟩:=XU hs hu hi hz c1 c2 c3 c4 c5 c6;exact ⟨.value v',v',w',by simp only [execOp,e1,e2];exact He hr,.inl rfl,hp⟩
    ·cases h
   ·cases h
  ·cases h
 case slice t x lo hi mx =>
  rw [ae] at h;obtain ⟨u,hu,he⟩:=h;obtain ⟨v',hr,hv⟩:=Xl hs (hρ x (by simp [Op.operands])) (XW.map (o:=lo) fun y hy=>hρ y (by subst hy;simp [Op.operands])) (XW.map (o:=hi) fun y hy=>hρ y (by subst hy;simp [Op.operands]))
   (XW.map (o:=mx) fun y hy=>hρ y (by subst hy;simp [Op.operands])) hu
  exact same rfl hr hv he
 case fieldAddr s x f =>
  have hx:=hρ x (by simp [Op.operands]);split at h
  ·rename_i fs ad hu had
   rw [had] at hx;have hsh:∃ a',ρ' x=.pointer (some a')∧PI ι m.gen ad a':=by generalize ρ' x=u at hx;cases hx;exact ⟨_,rfl,by assumption⟩
   obtain ⟨a',e1,har⟩:=hsh;split at h
   ·rename_i fd hfd
    split at h
    ·rename_i i hi
     split at h
     ·cases h
     ·rename_i hsz
      refine same (s:=Instr.fieldAt s (ρ' x) f) (v':=.pointer (some (a'.add fd.offset))) rfl ?_ (.ptr _ _ ?_) (cd h)
      ·simp only [Instr.fieldAt,e1,Instr.sureAddr,Sem.run_bind,run_underlying hu,Sem.run_pure,Result.andThen_ok,hfd,fieldPlace,run_sizeOf' hi,if_neg hsz]
      ·obtain ⟨ib,hb,hle,hcur⟩:=har
       refine ⟨ib,hb,hle,fun e=>?_⟩;rw [hcur e,addr_add];simp only [Addr.mk.injEq,true_and,and_true];omega
    ·cases h
   ·cases h
  ·cases h
 case field t x f =>
  rw [ae] at h;obtain ⟨u,hu,he⟩:=h;obtain ⟨v',hr,hv⟩:=WM (hρ x (by simp [Op.operands])) hu;exact same rfl (Ed hr w) hv he
 case indexAddr t x ix =>
  have hx:=hρ x (by simp [Op.operands]);have hix:=hρ ix (by simp [Op.operands]);split at h
  ·rename_i e b off len g k i hu hxx vP
   rw [hxx] at hx;rw [vP] at hix;have e2:ρ' ix=.int k i:=by generalize ρ' ix=u at hix;cases hix;rfl
   split at h
   ·rename_i inf hi
    split at h
    ·rename_i hb
     have hsh:∃ a' cap',ρ' x=.slice (some a') len cap'∧b2t ι m.gen b off len g a' cap':=by generalize ρ' x=u at hx;cases hx;exact ⟨_,_,rfl,by assumption⟩
     obtain ⟨a',cap',e1,hsr⟩:=hsh;refine same (s:=Instr.indexAt t (ρ' x) (ρ' ix)) (v':=.pointer (some (a'.add (i.toNat*inf.size)))) rfl ?_ (.ptr _ _ (JC hsr (fun _=>by omega) _)) (cd h);simp only [Instr.indexAt,e1,e2,asIntOf,Sem.run_bind,run_underlying hu,Sem.run_pure,Result.andThen_ok,run_sizeOf' hi,if_pos hb]
    ·cases h
   ·cases h
  ·rename_i n e ad k i hu hxx vP
   rw [hxx] at hx;rw [vP] at hix;have e2:ρ' ix=.int k i:=by generalize ρ' ix=u at hix;cases hix;rfl
   have hsh:∃ a',ρ' x=.pointer (some a')∧PI ι m.gen ad a':=by generalize ρ' x=u at hx;cases hx;exact ⟨_,rfl,by assumption⟩
   obtain ⟨a',e1,har⟩:=hsh;split at h
   ·rename_i inf hi
    split at h
    ·rename_i hb
     refine same (s:=Instr.indexAt t (ρ' x) (ρ' ix)) (v':=.pointer (some (a'.add (i.toNat*inf.size)))) rfl ?_ (.ptr _ _ ?_) (cd h)
     ·simp only [Instr.indexAt,e1,e2,asIntOf,Instr.sureAddr,Sem.run_bind,run_underlying hu,Sem.run_pure,Result.andThen_ok,run_sizeOf' hi,if_pos hb]
     ·obtain ⟨ib,hbb,hle,hcur⟩:=har
      refine ⟨ib,hbb,hle,fun e=>?_⟩;rw [hcur e,addr_add];simp only [Addr.mk.injEq,true_and,and_true];omega
    ·cases h
   ·cases h
  ·cases h
 case index t x ix =>
  split at h
  ·rename_i hp
   rw [ae] at h;obtain ⟨u,hu,he⟩:=h;have hix:=(hρ ix (by simp [Op.operands])).BP hp;obtain ⟨v',hr,hv⟩:=WR (hρ x (by simp [Op.operands])) hu;exact same (s:=Instr.index t (ρ' x) (ρ' ix)) rfl (by rw [hix];exact Ed hr w) hv he
  ·cases h
 case lookup t x k ok =>
  rw [ae] at h;obtain ⟨u,hu,he⟩:=h;obtain ⟨v',hr,hv⟩:=kT hs (hρ x (by simp [Op.operands])) (hρ k (by simp [Op.operands])) hu;exact same rfl hr hv he
 case mapUpdate t x k u =>
  rw [ae] at h;obtain ⟨m1,hm1,he⟩:=h;cases he;obtain ⟨w',ι',hr,hext,Dv⟩:=UJ hs (hρ x (by simp [Op.operands])) (hρ k (by simp [Op.operands])) (hρ u (by simp [Op.operands])) hm1;exact ⟨.skip,undef,w',by simp only [execOp,Sem.run_bind,hr,Result.andThen_ok,Sem.run_pure],.inr ⟨rfl,rfl⟩,ι',hext,Dv,Aw.undef⟩
 case mapEntry t x k =>
  obtain ⟨v',w',ι',hr,hext,Dv,hv⟩:=rP hs (hρ x (by simp [Op.operands])) (hρ k (by simp [Op.operands])) h;exact ⟨.value v',v',w',He hr,.inl rfl,ι',hext,Dv,hv⟩
 case entryStore t x k u =>
  rw [ae] at h;obtain ⟨m1,hm1,he⟩:=h;cases he;obtain ⟨w',ι',hr,hext,Dv⟩:=Wh (t:=t) hs (hρ x (by simp [Op.operands])) (hρ k (by simp [Op.operands])) (hρ u (by simp [Op.operands])) hm1;exact ⟨.skip,undef,w',by simp only [execOp,Sem.run_bind,hr,Result.andThen_ok,Sem.run_pure],.inr ⟨rfl,rfl⟩,ι',hext,Dv,Aw.undef⟩
 case insert t x k u =>
  rw [ae] at h;obtain ⟨m1,hm1,he⟩:=h;cases he;obtain ⟨w',ι',hr,hext,Dv⟩:=UJ hs (hρ x (by simp [Op.operands])) (hρ k (by simp [Op.operands])) (hρ u (by simp [Op.operands])) hm1;exact ⟨.skip,undef,w',by simp only [execOp,Sem.run_bind,hr,Result.andThen_ok,Sem.run_pure],.inr ⟨rfl,rfl⟩,ι',hext,Dv,Aw.undef⟩
 case extract t i =>
  rw [ae] at h;obtain ⟨u,hu,he⟩:=h;obtain ⟨v',hr,hv⟩:=Sv (hρ t (by simp [Op.operands])) hu;exact same rfl (Ed hr w) hv he
 case call c =>
  obtain ⟨callee,args,aT⟩:=c;cases callee<;>simp only [reduceCtorEq] at h
  rename_i b;have hargs:∀ x∈args,Aw ι m.gen (ρ x) (ρ' x):=fun x hx=>hρ x (by simp [Op.operands,Call.operands,hx])
  have har:=O8.map hargs;cases b<;>simp only [reduceCtorEq] at h
  case append =>
   obtain ⟨v',w',hr,hp⟩:=jC ty hs har h;exact ⟨.value v',v',w',by rw [D7];exact He hr,.inl rfl,hp⟩
  case cap =>
   rw [ae] at h;obtain ⟨u,hu,he⟩:=h;cases he;obtain ⟨hr,hv⟩:=a2j (w:=w) ty har hu;exact ⟨.value _,_,w,by rw [D7];exact He hr,.inl rfl,Post.same hs hv⟩
  case copy =>
   obtain ⟨v',w',hr,hp⟩:=vw ty hs har h;exact ⟨.value v',v',w',by rw [D7];exact He hr,.inl rfl,hp⟩
  case clear =>
   obtain ⟨v',w',hr,hp⟩:=sG ty hs har h;exact ⟨.value v',v',w',by rw [D7];exact He hr,.inl rfl,hp⟩
  case len =>
   rw [ae] at h;obtain ⟨u,hu,he⟩:=h;cases he;obtain ⟨hr,hv⟩:=a0a ty hs har hu;exact ⟨.value _,_,w,by rw [D7];exact He hr,.inl rfl,Post.same hs hv⟩
  case max =>
   split at h
   ·rename_i hp
    rw [ae] at h;obtain ⟨u,hu,he⟩:=h;cases he;obtain ⟨h1,h2⟩:=FN hu;exact ⟨.value _,_,w,by rw [D7,KG hargs hp];exact He (Ed h1 w),.inl rfl,Post.same hs (Aw.plain h2)⟩
   ·cases h
  case min =>
   split at h
   ·rename_i hp
    rw [ae] at h;obtain ⟨u,hu,he⟩:=h;cases he;obtain ⟨h1,h2⟩:=FN hu;exact ⟨.value _,_,w,by rw [D7,KG hargs hp];exact He (Ed h1 w),.inl rfl,Post.same hs (Aw.plain h2)⟩
   ·cases h
end
section
open Go Go.RowKit
variable {P:Program}
abbrev WF (rf:Option Nat):Fence:={ Fence.wide with round:=rf }
theorem wM {rf:Option Nat} {nn:Nat} {f:FuncId} {BF:Array Value} {w:World} {R:Ending→World→Prop} (h:Calls P f BF w R):CallsIn (WF rf) nn P f BF w R:=(callsIn_wide (n:=nn)).2 h
theorem a3d {nn:Nat} {c:Code} {Q:Exit→Act→World→Prop} {a:Act} {w:World} (h:c.wpIn Fence.wide 0 P Q a w):c.wpIn (WF none) nn P Q a w:=(wpIn_wide (n:=nn)).2 ((wpIn_wide (n:=0)).1 h)
def Yh (J:Nat→World→Prop):Prop:=∀ i W W',J i W→Below W.heap.size W W'→J i W'
structure MI (W W':World):Prop where
 size:W.heap.size≤W'.heap.size
 loop:∀ (k:Nat) (o:Loop),W.heap[k]?=some (.loop o)→W'.heap[k]?=some (.loop o)
 defs:∀ (k:Nat) (o:Option (List Deferred)),W.heap[k]?=some (.deferred o)→W'.heap[k]?=some (.deferred o)
def YO (P:Program) (gf:Nat) (lb:Array Value) (rows:List (List Value)) (Inv:World→Prop) (w:World):Prop :=
 ∀ (l:Nat) (J Jx:Nat→World→Prop) (W:World),Below w.heap.size w W→Yh J→Yh Jx →
  (∀ i W1 (hi:i<rows.length),J i W1→YieldAt Fence.wide 0 P l (rows[i].toArray) W1 fun e W' =>
   (e=.returned (.bool true)∧J (i+1) W'∧Inv W')∨(e=.returned (.bool false)∧Jx (i+1) W')) →
  Inv W→J 0 W →
  CallsIn Fence.wide 0 P gf (#[.func (.yield l) #[] #[]]++lb) W fun e W'=>(∃ v,e=.returned v)∧(J rows.length W'∨∃ i,Jx i W')
def roundPost (I:Nat→World→Prop) (Ix:Code→Nat→World→Prop) (i:Nat) (W:World):Exit→Act→World→Prop
 | .normal,_,W'=>MI W W'∧I i W'
 | .ret,_,W'=>MI W W'∧Ix .ret i W'
 | .exit id,_,W'=>MI W W'∧Ix (.exit id) i W'
 |_,_,_=>False
theorem TS {g:Operand} {ps:Array Tmp} {Ph body:Code} {Q:Exit→Act→World→Prop} {a:Act} {w:World}
 {gf:Nat} {lb:Array Value} (hg:a.eval g=.func (.func gf) #[] lb) (eg:∀ args w,(callFunc gf args).run P w=.ok (.enter gf args) w)
 {rows:List (List Value)} {Inv:World→Prop} (hseq:YO P gf lb rows Inv w)
 (I:Nat→World→Prop) (Ix:Code→Nat→World→Prop) (hI:Yh I) (hIp:∀ i W l o x,I i W→w.heap.size≤l→W.heap[l]?=some (.loop o)→I i (W.putObj l (.loop x))) (hIx:∀ c,Yh (Ix c)) (b8c:∀ c i W l o x,Ix c i W→w.heap.size≤l→W.heap[l]?=some (.loop o)→Ix c i (W.putObj l (.loop x))) (hInv:∀ i W,I i W→Inv W) (hps:∀ i W (hi:i<rows.length),I i W→(rows[i]).length=ps.size) (h0:I 0 w)
 (vH:∀ (l i:Nat) (W:World) (hi:i<rows.length) (K:Act→World→Prop),I i W→w.heap.size≤l→W.heap.size>l→(∃ o,W.heap[l]?=some (.loop o)) →
  (∀ a1 W1,MI W W1→(∀ o,body.wpIn (Fence.wide.inRound l) 0 P (roundPost I Ix (i+1) (W1.putObj l (.loop o))) a1 (W1.putObj l (.loop o)))→K a1 W1) →
  Ph.wpIn (Fence.wide.inRound l) 0 P (Exit.then K (fun _ _ _=>False)) { tmps:=(ps.zip (rows[i].toArray)).foldl (fun t (p,v)=>t.setIfInBounds p v) a.tmps,defers:=[] } W)
 (hdone:∀ (D:Nat) (W:World),w.heap.size≤D→I rows.length W→W.heap[D]?=some (.deferred (some []))→Q .normal { a with defers:={ target:=.collected D,args:=#[] }::a.defers } W)
 (hstop:∀ (D:Nat) (c:Code) (i:Nat) (W:World),w.heap.size≤D→Ix c i W→W.heap[D]?=some (.deferred (some []))→c.wpIn Fence.wide 0 P Q { a with defers:={ target:=.collected D,args:=#[] }::a.defers } W) :
 (Code.rangeFunc g ps Ph body).wpIn Fence.wide 0 P Q a w:=by
 refine wpIn_rangeFunc ?_;intro fn hfn;obtain ⟨rec,hrec⟩:∃ rec:LoopState→Option Code→Loop,rec=fun st pe=>{ state:=st,pending:=pe,fn,tmps:=a.tmps,params:=ps,assign:=Ph,body,defers:=w.heap.size }:=⟨_,rfl⟩
 obtain ⟨W1,hW1⟩:∃ W1,(w.alloc (.deferred (some []))).alloc (.loop (rec .ready none))=W1:=⟨_,rfl⟩
 have hL1:W1.heap[w.heap.size+1]?=some (.loop (rec .ready none)):=by
  rw [← hW1];have:=World.alloc_heap_new (w.alloc (.deferred (some []))) (.loop (rec .ready none));simp_all
 have hK1:W1.heap[w.heap.size]?=some (.deferred (some [])):=by
  rw [← hW1];exact (Below.heap_alloc _ _ _ (by simp)).trans (World.alloc_heap_new w _)
 have hI1:I 0 W1:=hI 0 w W1 h0 (by rw [← hW1];exact ((Below.refl _ w).alloc (ab _) _).alloc (by simp) _);have hb1:Below w.heap.size w W1:=by
  rw [← hW1];exact ((Below.refl _ w).alloc (ab _) _).alloc (by simp) _
 refine ⟨w.heap.size+1,[{ target:=.collected w.heap.size,args:=#[] }],W1,{ target:=.fn (.func gf) lb,args:=#[.func (.yield (w.heap.size+1)) #[] #[]] },W1,gf,
  #[.func (.yield (w.heap.size+1)) #[] #[]]++lb,W1,?_,?_,?_,?_,(fun hh=>by cases hh),?_⟩
 ·rw [← hW1,hrec];exact run_enterLoop_outer _ _ _ _ _
 ·simp only [resolve,hg]
  simp [go_sem]
 ·intro f' hf';exact trivial
 ·simp [invoke,go_sem,eg]
 ·refine (hseq (w.heap.size+1)
   (fun i W=>I i W∧W.heap[w.heap.size+1]?=some (.loop (rec .ready none))∧W.heap[w.heap.size]?=some (.deferred (some [])))
   (fun i W=>∃ c,Ix c i W∧W.heap[w.heap.size+1]?=some (.loop (rec .done (some c)))∧W.heap[w.heap.size]?=some (.deferred (some [])))
   W1 hb1
   (fun s A B hs hb=>⟨hI s A B hs.1 hb,(hb.block _ (al.1 hs.2.1).1).trans hs.2.1,(hb.block _ (al.1 hs.2.2).1).trans hs.2.2⟩)
   (fun s A B hs hb=>by
    obtain ⟨c,hc,hl,hk⟩:=hs;exact ⟨c,hIx c s A B hc hb,(hb.block _ (al.1 hl).1).trans hl,(hb.block _ (al.1 hk).1).trans hk⟩)
   ?_ (hInv _ _ hI1) ⟨hI1,hL1,hK1⟩).mono ?_
  ·rintro i W hlen ⟨hi,hl,hk⟩
   have hlt:w.heap.size+1<W.heap.size:=(al.1 hl).1;have hy:=run_yield (P:=P) (args:=rows[i].toArray) hl (by rw [hrec];simpa using hps i W hlen hi);rw [hrec] at hy;refine ⟨fn,_,Ph,body,hy,roundIn_of_wpIn hfn (vH _ i W hlen _ hi (by omega) hlt ⟨_,hl⟩ fun a1 Wa hka hwp=>⟨_,run_beginRound (hka.loop _ _ hl) (by rw [hrec]),?_⟩)⟩;have hla:=hka.loop _ _ hl;have hkd:=hka.defs _ _ hk;have c4w:w.heap.size+1<Wa.heap.size:=(al.1 hla).1;have hl2:(Wa.putObj (w.heap.size+1) (.loop { rec .ready none with state:=.busy })).heap[w.heap.size+1]?=some (.loop { rec .ready none with state:=.busy }):=World.putObj_heap_same c4w;have hk2:(Wa.putObj (w.heap.size+1) (.loop { rec .ready none with state:=.busy })).heap[w.heap.size]?=some (.deferred (some [])):=(World.putObj_heap_other (by omega)).trans hkd;refine wpIn_mono (hwp { rec .ready none with state:=.busy }) ?_;have fin:∀ (jump:Option Code) (W3:World),MI (Wa.putObj (w.heap.size+1) (.loop { rec .ready none with state:=.busy })) W3 →
    (Instr.endRound (w.heap.size+1) jump).run P W3=.ok (.bool jump.isNone) (W3.putObj (w.heap.size+1) (.loop (rec (if jump.isNone then .ready else .done) jump))) ∧
    W3.heap[w.heap.size+1]?=some (.loop { rec .ready none with state:=.busy }) ∧
    (W3.putObj (w.heap.size+1) (.loop (rec (if jump.isNone then .ready else .done) jump))).heap[w.heap.size+1]?=some (.loop (rec (if jump.isNone then .ready else .done) jump)) ∧
    (W3.putObj (w.heap.size+1) (.loop (rec (if jump.isNone then .ready else .done) jump))).heap[w.heap.size]?=some (.deferred (some [])):=fun jump W3 hk3=>by
    have hl3:=hk3.loop _ _ hl2;have:=run_endRound (P:=P) jump hl3;rw [hrec] at this ⊢;exact ⟨this,by rw [hrec] at hl3;exact hl3,World.putObj_heap_same (al.1 hl3).1,(World.putObj_heap_other (by omega)).trans (hk3.defs _ _ hk2)⟩
   rintro e a3 W3 hp;cases e with
   |normal =>
    obtain ⟨hk3,hi3⟩:=hp;obtain ⟨hr,hl3,hl4,hk4⟩:=fin none W3 hk3;have hi4:=hIp _ _ _ _ (rec .ready none) hi3 (by omega) hl3;exact ⟨_,_,hr,.inl ⟨rfl,⟨hi4,hl4,hk4⟩,hInv _ _ hi4⟩⟩
   |ret =>
    obtain ⟨hk3,hi3⟩:=hp;obtain ⟨hr,hl3,hl4,hk4⟩:=fin (some .ret) W3 hk3;exact ⟨_,_,hr,.inr ⟨rfl,.ret,b8c _ _ _ _ _ _ hi3 (by omega) hl3,hl4,hk4⟩⟩
   |exit id =>
    obtain ⟨hk3,hi3⟩:=hp;obtain ⟨hr,hl3,hl4,hk4⟩:=fin (some (.exit id)) W3 hk3;exact ⟨_,_,hr,.inr ⟨rfl,.exit id,b8c _ _ _ _ _ _ hi3 (by omega) hl3,hl4,hk4⟩⟩
   |goto t=>exact hp.elim
   |panic ch=>exact hp.elim
   |outgrown=>exact hp.elim
  ·rintro e W2 ⟨⟨v,rfl⟩,(⟨hi,hl,hk⟩|⟨i,c,hi,hl,hk⟩)⟩
   ·exact ⟨none,_,by have:=run_endLoop (P:=P) hl (by rw [hrec];simp);rw [hrec] at this;exact this,hdone _ _ (ab _) (hIp _ _ _ _ _ hi (by omega) hl) ((World.putObj_heap_other (by omega)).trans hk)⟩
   ·exact ⟨some c,_,by have:=run_endLoop (P:=P) hl (by rw [hrec];simp);rw [hrec] at this;exact this,hstop _ c i _ (ab _) (b8c _ _ _ _ _ _ hi (by omega) hl) ((World.putObj_heap_other (by omega)).trans hk)⟩
end
section
variable {P:Program} {G:List Nat} {ds:List Deferred} {rf:Option Nat} {nn:Nat}
def Enters (P:Program) (f:FuncId):Prop:=∃ fn,P.funcs[f]?=some fn∧fn.body.isSome=true∧(fn.name=="runtime.NumGoroutine")=false
def zD (P:Program) (G:List Nat) (f:FuncId) (F:List Value→Mem→Option (Value×Mem)):Prop :=
 ∀ BF m v m',F BF m=some (v,m')→∀ ι w (as':Array Value),DL P G ι m w→BA ι m.gen BF as'.toList →
  Calls P f as' w fun e w'=>∃ v',e=.returned v'∧Post P G ι m w v m' v' w'
def JG (P:Program) (G:List Nat) (call:EI):Prop:=∀ f,zD P G f (call f)∧∀ BF m r,call f BF m=some r→Enters P f
structure RU (ds:List Deferred) (ι:BJ) (g:Nat→Nat) (n:Nat) (t:Tr Value) (a:Act):Prop where
 size:a.tmps.size=n
 defers:a.defers=ds
 val:∀ i,Aw ι g (Cj t i) (a.tmps.getD i undef)
theorem RU.mono {ι ι':BJ} {g g':Nat→Nat} (hl:Le ι g ι' g') {n:Nat} {t:Tr Value} {a:Act} (h:RU ds ι g n t a):RU ds ι' g' n t a :=
 ⟨h.size,h.defers,fun i=>(h.val i).mono hl⟩
theorem RU.put {ι:BJ} {g:Nat→Nat} {n:Nat} {t:Tr Value} {a:Act} (h:RU ds ι g n t a) {dst:Option Tmp} (hd:∀ d,dst=some d→d<n) {v v':Value} (hv:Aw ι g v v') :
 RU ds ι g n (H7 t dst v) (a.put dst v'):=by
 cases dst with
 |none=>exact h
 |some d =>
  have hdn:=hd d rfl;refine ⟨by simp [Act.put,h.size],h.defers,fun i=>?_⟩;simp only [H7,Act.put];rw [Df];by_cases e:d=i
  ·have:(a.tmps.setIfInBounds d v').getD d undef=v':=by
    simp [h.size,hdn]
   grind
  ·rw [if_neg e]
   have:(a.tmps.setIfInBounds d v').getD i undef=a.tmps.getD i undef:=by
    simp_all
   rw [this];exact h.val i
theorem Jw {ι:BJ} {m:Mem} {w:World} {n:Nat} {t:Tr Value} {a:Act} (hs:DL P G ι m w) (ht:RU ds ι m.gen n t a) {x:Operand} (hx:Gn G x=true) :
 Aw ι m.gen (ev t x) (a.eval x):=by
 cases x with
 |tmp i=>exact ht.val i
 |const v=>exact Aw.plain hx
 |global k =>
  have hk:k∈G:=by simpa [Gn] using hx
  obtain ⟨ib,h1,h2,h3,h4,h5⟩:=hs.glob k hk;exact .ptr _ _ ⟨ib,h1,aq _,fun _=>by grind⟩
 |func f=>exact .fn f [] [] [] [] rfl (fun i hi=>absurd hi (by simp)) rfl (fun i hi=>absurd hi (by simp))
theorem Aw.JZ {ι:BJ} {g:Nat→Nat} {v v':Value} (h:Aw ι g v v') (b:Bool):v=.bool b↔v'=.bool b:=by
 constructor
 ·intro e;subst e;cases h;rfl
 ·intro e;subst e;cases h;rfl
theorem wR {ι:BJ} {g:Nat→Nat} {n:Nat} {t:Tr Value} {a:Act} (ht:RU ds ι g n t a) (ops:Array Oper) (j:Nat):yielded ops a.tmps j=Eh ops t j:=by
 unfold yielded Eh;cases hd:(ops[j]?).bind (·.dst) with
 |none=>rfl
 |some d =>
  simp only [Option.bind_some];have hv:=ht.val d;cases ha:a.tmps[d]? with
  |none =>
   have e:a.tmps.getD d undef=undef:=by grind
   rw [e] at hv;have:∀ b,Cj t d≠.bool b:=fun b hb=>by
    have:=(hv.JZ b).1 hb;cases this
   simp
  |some u =>
   have e:a.tmps.getD d undef=u:=by simp [ha]
   rw [e] at hv;split
   ·rename_i b hb
    cases hb;have:=(hv.JZ b).2 rfl;grind
   ·rename_i hne
    split
    ·rename_i b hb
     have:=(hv.JZ b).1 hb;simp_all
    ·rfl
theorem a2t {ι:BJ} {g:Nat→Nat} {n:Nat} {t:Tr Value} {a:Act} (ht:RU ds ι g n t a) (ops:Array Oper) (o:Oper) :
 Region.wanted o (yielded ops a.tmps)=Region.wanted o (Eh ops t):=by
 unfold Region.wanted;cases o.guard with
 |none=>rfl
 |some p=>obtain ⟨j,b⟩:=p;simp only [wR ht]
theorem OT {call:EI} {ι:BJ} {m m':Mem} {w:World} {ρ:Operand→Value} {o:Oper} {v:Value} {a:Act} (hc:JG P G call) (hs:DL P G ι m w)
 (hρ:∀ x∈o.op.operands,Aw ι m.gen (ρ x) (a.eval x)) (h:BO P call ρ o m=some (v,m')) {K:Act→World→Prop} {Q:Exit→Act→World→Prop}
 (hk:∀ v' w',Post P G ι m w v m' v' w'→K (a.put o.dst v') w'):o.wpIn (WF rf) nn P a w K Q:=by
 unfold BO at h;split at h
 ·rename_i f args aT hop
  rw [hop] at hρ;have hf:=hρ f (by simp [Op.operands,Call.operands]);have hargs:∀ x∈args,Aw ι m.gen (ρ x) (a.eval x):=fun x hx=>hρ x (by simp [Op.operands,Call.operands,hx])
  split at h
  ·rename_i g fs cs hfv
   rw [hfv] at hf;obtain ⟨fs',cs',e1,hfs,hcs⟩:∃ fs' cs',a.eval f=.func (.func g) fs' cs'∧BA ι m.gen fs.toList fs'.toList∧BA ι m.gen cs.toList cs'.toList:=by
    generalize a.eval f=u at hf;cases hf with
    |fn _ l1 l2 l3 l4 h1 h2 h3 h4=>exact ⟨⟨l2⟩,⟨l4⟩,rfl,⟨h1,h2⟩,⟨h3,h4⟩⟩
   obtain ⟨b6n,b1u⟩:=hc g;obtain ⟨fn,hfn,hbody,hname⟩:=b1u _ _ _ h;have hcall:=b6n _ _ _ _ h ι w (fs'++args.map a.eval++cs') hs (by
    rw [dt,dt,bB];exact (hfs.append (BA.TT fun x hx=>hargs x (by grind))).append hcs)
   have hrun:(execOp a.eval o).run P w=.ok (.enter g (fs'++args.map a.eval++cs')) w:=by
    simp only [execOp,hop,resolve,e1,Deferred.ofValue,Sem.run_bind,Sem.run_pure,Result.andThen_ok,invoke,callFunc,run_program,hfn,hname,Bool.false_eq_true,if_false];have:fn.body.isNone=false:=by cases hb:fn.body<;>simp_all
    simp [this]
   unfold Oper.wpIn;rw [Oper.semAt_eq _ _ _ (fun c hc=>by grind),hrun];refine ⟨fun _ _=>trivial,?_⟩;refine ⟨(fun hh=>by cases hh),?_⟩;exact (wM hcall).mono fun e w' he=>by
    grind
  grind
 ·obtain ⟨nx,v',w',hr,hn,hp⟩:=a0p hs hρ h
  unfold Oper.wpIn;rw [Oper.semAt_eq _ _ _ (fun c hc=>by rw [FB,hc] at h;cases h),hr];refine ⟨fun _ _=>trivial,?_⟩;rcases hn with rfl|⟨rfl,rfl⟩
  ·exact hk v' w' hp
  ·exact hk undef w' hp
def D9 (P:Program) (G:List Nat) (ds:List Deferred) (n:Nat) (s:St) (ι:BJ) (a:Act) (w:World):Prop:=DL P G ι s.m w∧RU ds ι s.m.gen n s.t a
def Reach (P:Program) (G:List Nat) (ds:List Deferred) (n:Nat) (ι:BJ) (s:St) (w:World) (s':St) (a':Act) (w':World):Prop :=
 ∃ ι',Ext ι s.m w ι' s'.m w'∧D9 P G ds n s' ι' a' w'
theorem DR {n:Nat} {o:Oper} (h:Iq G n o=true):(∀ x∈o.op.operands,Gn G x=true)∧(∀ d,o.dst=some d→d<n):=by
 unfold Iq at h;simp only [Bool.and_eq_true] at h;obtain ⟨⟨h1,h2⟩,_⟩:=h;refine ⟨fun x hx=>?_,fun d hd=>?_⟩
 ·exact bh.1 h1 x hx
 grind
theorem O7 {call:EI} (hc:JG P G call) {n:Nat} {ops:Array Oper} {Q:Exit→Act→World→Prop}:∀ (l:List Oper) (s s':St) (ι:BJ) (a:Act) (w:World),
 (∀ o∈l,Iq G n o=true)→Lp P call ops l s=some s'→D9 P G ds n s ι a w→(∀ a' w',Reach P G ds n ι s w s' a' w'→Q .normal a' w')→wpListIn (WF rf) nn P ops Q l a w
 |[],s,s',ι,a,w,_,h,hst,hq=>by
  cases h;exact hq a w ⟨ι,Ext.refl _ _ _,hst⟩
 |o::l,s,s',ι,a,w,hok,h,hst,hq=>by
  simp only [Lp] at h;cases h1:Mc P call ops o s with
  |none=>grind
  |some s1 =>
   rw [h1] at h;obtain ⟨hop,hdst⟩:=DR (hok o (by simp));have rest:∀ a1 w1,Reach P G ds n ι s w s1 a1 w1→wpListIn (WF rf) nn P ops Q l a1 w1:=fun a1 w1 hr=>by
    obtain ⟨ι1,he,hst1⟩:=hr;refine O7 hc l s1 s' ι1 a1 w1 (fun o ho=>hok o (by grind)) h hst1 fun a' w' hr'=>hq a' w' ?_
    obtain ⟨ι2,k1,k2⟩:=hr';exact ⟨ι2,Ext.trans hst.1 he k1,k2⟩
   unfold wpListIn;rw [a2t hst.2];unfold Mc at h1;split at h1
   ·rename_i hw
    rw [if_pos hw];unfold xZ at h1;cases hv:BO P call (ev s.t) o s.m with
    |none=>grind
    |some r =>
     obtain ⟨v,m1⟩:=r;rw [hv] at h1;cases h1;refine OT hc hst.1 (fun x hx=>Jw hst.1 hst.2 (hop x hx)) hv fun v' w' hp=>rest _ _ ?_
     obtain ⟨ι1,he,Dv,PE⟩:=hp;exact ⟨ι1,he,Dv,(hst.2.mono he.le).put hdst PE⟩
   ·rename_i hw
    rw [if_neg hw];cases h1;refine ⟨fun _ _=>trivial,?_⟩;exact rest _ _ ⟨ι,Ext.refl _ _ _,hst.1,hst.2.put hdst Aw.undef⟩
def BM.toExit:BM→Exit
 | .normal=>.normal
 | .ret=>.ret
 | .exit id=>.exit id
def iG (P:Program) (G:List Nat) (call:EI):Prop:=∀ (ds:List Deferred) (rf:Option Nat) (nn n id:Nat) (ops:Array Oper) (s s':St) (ι:BJ) (a:Act) (w:World) (Q:Exit→Act→World→Prop),
 (∀ o∈ops.toList,Iq G n o=true)→GU ops=true→Kt P call ops 0 ops.toList s=some s'→D9 P G ds n s ι a w →
 (∀ a' w',Reach P G ds n ι s w s' a' w'→Q .normal a' w')→(Code.region id ops true).wpIn (WF rf) nn P Q a w
def Marks (B:Nat) (w:World):List Deferred→Prop
 |[]=>B≤w.heap.size
 |d::ds=>(∃ D,d={ target:=.collected D,args:=#[] }∧B≤D∧w.heap[D]?=some (.deferred (some []))∧∀ d'∈ds,d'≠d)∧Marks B w ds
theorem Marks.base {B:Nat} {w:World}:∀ {ds:List Deferred},Marks B w ds→B≤w.heap.size
 |[],h=>h
 |_::_,⟨_,h⟩=>Marks.base h
theorem NV {ι:BJ} {g:Nat→Nat} {ib:IB} {x:IQ} {o:Obj} (h:Ue P ι g ib x (some o)) (hc:o.isCells=false):∃ es c,o=.map es c:=by
 cases x<;>cases o<;>simp only [Ue] at h<;>first|cases h|skip
 ·cases hc
 simp
theorem Marks.ext {ι ι':BJ} {m m':Mem} {w w':World} {B:Nat} (hs:DL P G ι m w) (h:Ext ι m w ι' m' w'):∀ {ds:List Deferred},Marks B w ds→Marks B w' ds
 |[],hb=>an hb h.heap
 |d::ds,⟨⟨D,e,hBD,hD,hne⟩,hr⟩=>by
  refine ⟨⟨D,e,hBD,?_,hne⟩,Marks.ext hs h hr⟩;rw [h.frame D (al.1 hD).1 ?_];exact hD;intro b ib hb hc;have h1:=hs.blk b ib hb;rw [hc,hD] at h1;obtain ⟨_,_,h2⟩:=NV h1 rfl;grind
theorem Marks.lt {B:Nat} {w:World}:∀ {ds:List Deferred},Marks B w ds→∀ d∈ds,∃ D,d={ target:=.collected D,args:=#[] }∧D<w.heap.size
 |d::ds,⟨⟨D,e,_,hD,_⟩,hr⟩,d',hd=>by
  rcases bm.1 hd with rfl|hd
  ·grind
  ·exact Marks.lt hr d' hd
theorem KP {ι:BJ} {m:Mem} {w:World} (hs:DL P G ι m w) (k:Nat):DL P G ι (I8 m k) w:=⟨hs.dom,hs.blk,hs.inj,hs.glob⟩
theorem a5p {ι ι' ι'':BJ} {m m' m'':Mem} {w w' w'':World} (hs:DL P G ι m w) (h:Ext ι m w ι' m' w') (k:Ext ι' (I8 m' m'.size) w' ι'' m'' w''):Ext ι m w ι'' (I8 m'' (min m'.low m''.low)) w'':=by
 have c3d:∀ b,b<m'.size→b<m''.low→m''.get b=m'.get b:=k.keep;refine ⟨an h.size k.size,an (ca _ _) h.low,fun b hb hl=>?_,fun b hb hr=>?_,fun b hb=>?_,h.le.trans k.le,fun b ib'' hb=>?_,fun b ib'' hb=>?_,
  an h.heap k.heap,fun c hc hf=>?_,k.tape.trans h.tape,k.os.trans h.os,k.output.trans h.output⟩
 ·have hl':b<min m'.low m''.low:=hl
  exact (c3d b (ag hb h.size) (by omega)).trans (h.keep b hb (by omega))
 ·exact (k.ro b (ag hb h.size) ((h.ro' b hb).trans hr)).trans (h.ro b hb hr)
 ·exact (k.ro' b (ag hb h.size)).trans (h.ro' b hb)
 ·rcases k.back b ib'' hb with ⟨ib',h1,h2⟩|h1
  ·rcases h.back b ib' h1 with ⟨ib,h3,h4⟩|h3
   ·grind
   omega
  ·exact .inr (an h.heap h1)
 ·rcases k.dom b ib'' hb with ⟨ib',h1⟩|h1
  ·exact h.dom b ib' h1
  ·exact .inr (an h.size h1)
 ·have hf':∀ b ib,ι b=some ib→ib.blk=c→m.ro b=true∨b<min m'.low m''.low:=hf
  rw [k.frame c (ag hc h.heap) ?_,h.frame c hc ?_]
  ·grind
  ·intro b ib' hb hc'
   rcases h.back b ib' hb with ⟨ib,h1,h2⟩|h1
   ·rcases hf' b ib h1 (h2.trans hc') with h3|h3
    ·exact .inl ((h.ro' b (hs.dom b ib h1).1).trans h3)
    omega
   omega
theorem VY {ι ι':BJ} {m m':Mem} {w W W':World} (h:Ext ι m w ι' m' W) (hb:Go.RowKit.Below W.heap.size W W'):Ext ι m w ι' m' W' :=
 ⟨h.size,h.low,h.keep,h.ro,h.ro',h.le,h.back,h.dom,an h.heap hb.size,fun c hc hf=>(hb.block c (ag hc h.heap)).trans (h.frame c hc hf),hb.tape.trans h.tape,hb.os.trans h.os,hb.output.trans h.output⟩
theorem QX {ι:BJ} {m:Mem} {w w':World} (hs:DL P G ι m w) (hb:Go.RowKit.Below w.heap.size w w'):DL P G ι m w' :=
 ⟨fun b ib h=>⟨(hs.dom b ib h).1,ag (hs.dom b ib h).2 hb.size⟩,fun b ib h=>by rw [hb.block ib.blk (hs.dom b ib h).2];exact hs.blk b ib h,hs.inj,hs.glob⟩
theorem iU {ι ι':BJ} {m m':Mem} {w W:World} {l:Nat} (h:Ext ι m w ι' m' W) (hl:w.heap.size≤l) (x:Obj):Ext ι m w ι' m' (W.putObj l x) :=
 ⟨h.size,h.low,h.keep,h.ro,h.ro',h.le,h.back,h.dom,by simpa using h.heap,fun c hc hf=>(World.putObj_heap_other (by omega)).trans (h.frame c hc hf),h.tape,h.os,h.output⟩
theorem a9e {ι ι':BJ} {m m':Mem} {w W:World} {l:Nat} (h:Ext ι m w ι' m' W) (hl:l<w.heap.size) (x:Obj):Ext ι m (w.putObj l x) ι' m' (W.putObj l x):=by
 refine ⟨h.size,h.low,h.keep,h.ro,h.ro',h.le,fun b ib' hb=>by simpa using h.back b ib' hb,h.dom,by simpa using h.heap,fun c hc hf=>?_,h.tape,h.os,h.output⟩;by_cases e:c=l
 ·subst e
  rw [World.putObj_heap_same hl,World.putObj_heap_same (ag hl h.heap)]
 ·rw [World.putObj_heap_other e,World.putObj_heap_other e]
  exact h.frame c (by simp_all) hf
theorem nG {ι ι':BJ} {m m':Mem} {w w':World} (hs:DL P G ι m w) (h:Ext ι m w ι' m' w'):MI w w':=by
 have key:∀ (k:Nat) (o:Obj),w.heap[k]?=some o→o.isCells=false→(∀ es c,o≠.map es c)→w'.heap[k]?=some o:=fun k o hk ho hm=>by
  rw [h.frame k (al.1 hk).1 ?_];exact hk;intro b ib hb hc;have h1:=hs.blk b ib hb;rw [hc,hk] at h1;obtain ⟨es,c,h2⟩:=NV h1 ho;grind
 exact ⟨h.heap,fun k o hk=>key k _ hk rfl (fun _ _ e=>by cases e),fun k o hk=>key k _ hk rfl (fun _ _ e=>by cases e)⟩
theorem YD {ι:BJ} {m:Mem} {W:World} {l:Nat} {o:Loop} (hs:DL P G ι m W) (ho:W.heap[l]?=some (.loop o)) (x:Obj):DL P G ι m (W.putObj l x):=by
 have hg:=grownBy_putObj' W l x;refine ⟨fun b ib hb=>⟨(hs.dom b ib hb).1,ag (hs.dom b ib hb).2 hg.size⟩,fun b ib hb=>?_,hs.inj,hs.glob⟩;rw [hg.block ib.blk (hs.dom b ib hb).2 ?_];exact hs.blk b ib hb;intro e;have e':ib.blk=l:=by grind
 have h4:=hs.blk b ib hb;rw [e',ho] at h4;obtain ⟨_,_,h5⟩:=NV h4 rfl;grind
theorem W9 {ι:BJ} {g:Nat→Nat} {n:Nat}:∀ (ps:List Tmp) (vs:List Value) {t:Tr Value} {T:Array Value},RU ds ι g n t { tmps:=T,defers:=ds }→(∀ p∈ps,p<n)→vs.all plain=true →
 RU ds ι g n (Og t ps vs) { tmps:=(ps.zip vs).foldl (fun t (p,v)=>t.setIfInBounds p v) T,defers:=ds }
 |[],_,t,T,h,_,_=>by assumption
 |p::ps,[],t,T,h,_,_=>by assumption
 |p::ps,v::vs,t,T,h,hp,hv=>by
  simp only [List.all_cons,Bool.and_eq_true] at hv;have h1:=h.put (dst:=some p) (fun d hd=>by simp_all) (Aw.plain hv.1);exact W9 ps vs (t:=P7 t p v) (T:=T.setIfInBounds p v) h1 (fun q hq=>hp q (av _ hq)) hv.2
theorem a0w (ps:Array Tmp) (vs:List Value) (T:Array Value):(ps.zip vs.toArray).foldl (fun t (p,v)=>t.setIfInBounds p v) T=(ps.toList.zip vs).foldl (fun t (p,v)=>t.setIfInBounds p v) T:=by
 rw [← co,Array.toList_zip]
theorem uG {g:FuncId} (h:Enters P g) (args:Array Value) (w:World):(callFunc g args).run P w=.ok (.enter g args) w:=by
 obtain ⟨fn,hfn,hbody,hname⟩:=h;simp only [callFunc,run_program,hfn,hname,Bool.false_eq_true,if_false,Sem.run_bind,Result.andThen_ok];have:fn.body.isNone=false:=by cases hb:fn.body<;>simp_all
 simp [this]
def Oz (P:Program) (G:List Nat) (ask:Mem→Prop) (ι0:BJ) (g0:Nat→Nat) (lb:List Value) (lb':Array Value) (W:World):Prop:=∃ ι m,DL P G ι m W∧BA ι m.gen lb lb'.toList∧ask m∧Le ι0 g0 ι m.gen
def aP (P:Program) (G:List Nat) (call:EI):Prop:=∀ (g:FuncId) (fn:Func) (lb:List Value) (m m1:Mem) (v:Value) (rows:List (List Value)),P.funcs[g]?=some fn→call g (Ep fn.ntmps lb) m=some (v,m1)→OJ v=some rows →
 Enters P g∧∀ (ι:BJ) (w:World) (lb':Array Value),DL P G ι m w→BA ι m.gen lb lb'.toList→YO P g lb' rows (Oz P G (fun m'=>∃ m1',call g (Ep fn.ntmps lb) m'=some (v,m1')) ι m.gen lb lb') w
theorem Lc {n:Nat} {Ph body:St→Option (BM×St)} {ask:Mem→Prop} {t:Tr Value} {ps:List Tmp} {vs:List Value} {rest:List (List Value)} {m m':Mem} {x:BM} (h:EM n Ph body ask t ps (vs::rest) m=some (x,m')) :
 vs.length=n∧vs.all plain=true∧∃ s1,Ph { t:=Og t ps vs,m:=I8 m m.size }=some (.normal,s1)∧∃ xb s2,body s1=some (xb,s2) ∧
  ((xb=.normal∧ask (I8 s2.m (min m.low s2.m.low))∧EM n Ph body ask t ps rest (I8 s2.m (min m.low s2.m.low))=some (x,m'))∨(xb≠.normal∧x=xb∧m'=I8 s2.m (min m.low s2.m.low))):=by
 unfold EM at h;grind
def b5r:BM→Code→Prop
 | .normal,_=>False
 | .ret,c=>c=.ret
 | .exit id,c=>c=.exit id
theorem qo {call:EI} (hsq:aP P G call) {n:Nat} {f:Operand} {ps:Array Tmp} {Ph body:Code} {fA fB:St→Option (BM×St)}
 (ihA:∀ (l:Nat) (s s':St) (x:BM) (ι:BJ) (a:Act) (w:World) (Q:Exit→Act→World→Prop),fA s=some (x,s')→D9 P G [] n s ι a w→(∀ a' w' ι',Ext ι s.m w ι' s'.m w'→DL P G ι' s'.m w'→(x=.normal→D9 P G [] n s' ι' a' w')→Q x.toExit a' w')→Ph.wpIn (WF (some l)) 0 P Q a w)
 (ihB:∀ (l:Nat) (s s':St) (x:BM) (ι:BJ) (a:Act) (w:World) (Q:Exit→Act→World→Prop),fB s=some (x,s')→D9 P G [] n s ι a w→(∀ a' w' ι',Ext ι s.m w ι' s'.m w'→DL P G ι' s'.m w'→(x=.normal→D9 P G [] n s' ι' a' w')→Q x.toExit a' w')→body.wpIn (WF (some l)) 0 P Q a w)
 (hpn:∀ p∈ps.toList,p<n) {s:St} {ι:BJ} {a:Act} {w:World} {Q:Exit→Act→World→Prop} (hst:D9 P G ds n s ι a w) {B:Nat} (hmk:Marks B w ds) (hf:Gn G f=true)
 {g:FuncId} {fs lb:Array Value} (hev:ev s.t f=.func (.func g) fs lb) (hfs:fs.size=0) {fn:Func} (hfn:P.funcs[g]?=some fn) {v:Value} {m0:Mem} (hcall:call g (Ep fn.ntmps lb.toList) s.m=some (v,m0)) {rows:List (List Value)} (hrows:OJ v=some rows)
 {x:BM} {m':Mem} (hrun:EM ps.size fA fB (fun m'=>∃ m1,call g (Ep fn.ntmps lb.toList) m'=some (v,m1)) s.t ps.toList rows s.m=some (x,m'))
 (hq:∀ ds' a' w' ι',Ext ι s.m w ι' m' w'→D9 P G ds' n { t:=s.t,m:=m' } ι' a' w'→Marks B w' ds'→Q x.toExit a' w'):(Code.rangeFunc f ps Ph body).wpIn Fence.wide 0 P Q a w:=by
 obtain ⟨hent,hseq⟩:=hsq g fn lb.toList s.m m0 v rows hfn hcall hrows;have hfr:=Jw hst.1 hst.2 hf;rw [hev] at hfr;obtain ⟨lb',hg,hlb⟩:∃ lb',a.eval f=.func (.func g) #[] lb'∧BA ι s.m.gen lb.toList lb'.toList:=by
  generalize a.eval f=u at hfr;cases hfr with
  |fn _ l1 l2 l3 l4 h1 h2 h3 h4 =>
   have e:l2=[]:=bv (by grind);subst e;exact ⟨⟨l4⟩,rfl,h3,h4⟩
 have hso:=hseq ι w lb' hst.1 hlb;generalize hask:(fun m'=>∃ m1,call g (Ep fn.ntmps lb.toList) m'=some (v,m1))=ask at *;have b8l:ask s.m:=by grind
 refine TS (g:=f) (gf:=g) (lb:=lb') (rows:=rows) (Inv:=Oz P G ask ι s.m.gen lb.toList lb') hg (uG hent) hso
  (fun i W=>∃ ι1 m1,Ext ι s.m w ι1 m1 W∧DL P G ι1 m1 W∧EM ps.size fA fB ask s.t ps.toList (rows.drop i) m1=some (x,m')∧ask m1)
  (fun c _ W=>b5r x c∧∃ ι1,Ext ι s.m w ι1 m' W∧DL P G ι1 m' W) ?_ ?_ ?_ ?_ ?_ ?_ ?_ ?_ ?_ ?_
 ·rintro i W W' ⟨ι1,m1,h1,h2,h3,h5⟩ hb
  exact ⟨ι1,m1,VY h1 hb,QX h2 hb,h3,h5⟩
 ·rintro i W l o x' ⟨ι1,m1,h1,h2,h3,h5⟩ hl ho
  exact ⟨ι1,m1,iU h1 hl _,YD h2 ho _,h3,h5⟩
 ·rintro c i W W' ⟨h0,ι1,h1,h2⟩ hb
  exact ⟨h0,ι1,VY h1 hb,QX h2 hb⟩
 ·rintro c i W l o x' ⟨h0,ι1,h1,h2⟩ hl ho
  exact ⟨h0,ι1,iU h1 hl _,YD h2 ho _⟩
 ·rintro i W ⟨ι1,m1,h1,h2,h3,h5⟩
  exact ⟨ι1,m1,h2,⟨hlb.1,fun k hk=>(hlb.2 k hk).mono h1.le⟩,h5,h1.le⟩
 ·rintro i W hi ⟨ι1,m1,h1,h2,h3,h5⟩
  rw [cf hi] at h3;exact (Lc h3).1
 ·exact ⟨ι,s.m,Ext.refl _ _ _,hst.1,by grind,b8l⟩
 ·rintro l i W hi K ⟨ι1,m1,h1,h2,h3,h5⟩ hl hlW ⟨o,ho⟩ hK
  rw [cf hi] at h3;obtain ⟨e1,e2,s1,e3,xb,s2,e5,e7⟩:=Lc h3;have hT:RU [] ι1 m1.gen n s.t { tmps:=a.tmps,defers:=[] }:=⟨hst.2.size,rfl,fun k=>(hst.2.val k).mono h1.le⟩
  have hT2:=W9 ps.toList rows[i] hT hpn e2;rw [← a0w] at hT2;refine ihA l _ s1 .normal ι1 _ W _ e3 ⟨KP h2 _,hT2⟩ fun a1 w1 ι2 x1 x2 x3=>?_
  have hst1:=x3 rfl;have hka:MI W w1:=nG (KP h2 _) x1;refine hK a1 w1 hka fun o'=>?_
  have ho1:=hka.loop _ _ ho;have b3u:=YD hst1.1 ho1 (.loop o');refine ihB l s1 s2 xb ι2 a1 _ _ e5 ⟨b3u,hst1.2⟩ fun a3 w3 ι3 y1 y2 y3=>?_
  have hA:=iU h1 hl (.loop o');have hE:=Ext.trans (YD (KP h2 m1.size) ho (.loop o')) (a9e x1 hlW (.loop o')) y1;have hE4:Ext ι s.m w ι3 (I8 s2.m (min m1.low s2.m.low)) w3:=a5p hst.1 hA hE;have hkb:MI (w1.putObj l (.loop o')) w3:=nG b3u y1;rcases e7 with ⟨rfl,q1,q2⟩|⟨q0,rfl,rfl⟩
  ·exact ⟨hkb,ι3,_,hE4,KP y2 _,q2,q1⟩
  ·cases x with
   |normal=>exact absurd rfl q0
   |ret=>exact ⟨hkb,rfl,ι3,hE4,KP y2 _⟩
   |exit id=>exact ⟨hkb,rfl,ι3,hE4,KP y2 _⟩
 ·rintro D W hD ⟨ι1,m1,h1,h2,h3,h5⟩ hDo
  rw [List.drop_length] at h3;obtain ⟨rfl,rfl⟩:=h3;have hmk':=hmk.ext hst.1 h1;refine hq ({ target:=.collected D,args:=#[] }::ds) _ W ι1 h1 ⟨h2,hst.2.size,by rw [hst.2.defers],fun k=>(hst.2.val k).mono h1.le⟩ ⟨⟨D,rfl,an hmk.base hD,hDo,fun d' hd' e=>?_⟩,hmk'⟩;obtain ⟨D',e1,e2⟩:=hmk.lt d' hd';rw [e1] at e;cases e;omega
 ·rintro D c i W hD ⟨h0,ι1,h1,h2⟩ hDo
  have hmk':=hmk.ext hst.1 h1;have hfin:Q x.toExit { a with defers:={ target:=.collected D,args:=#[] }::a.defers } W:=by
   refine hq ({ target:=.collected D,args:=#[] }::ds) _ W ι1 h1 ⟨h2,hst.2.size,by rw [hst.2.defers],fun k=>(hst.2.val k).mono h1.le⟩ ⟨⟨D,rfl,an hmk.base hD,hDo,fun d' hd' e=>?_⟩,hmk'⟩;obtain ⟨D',e1,e2⟩:=hmk.lt d' hd';rw [e1] at e;cases e;omega
  cases x with
  |normal=>exact h0.elim
  |ret=>cases h0;exact wpIn_ret hfin
  |exit id=>cases h0;exact wpIn_exit hfin
theorem Xi {call:EI} (hc:JG P G call) (hsq:aP P G call) (hd:iG P G call) {n N:Nat}:∀ (c:Code) (B:Nat) (ds:List Deferred) (rf:Option Nat) (nn:Nat) (s s':St) (x:BM) (ι:BJ) (a:Act) (w:World) (Q:Exit→Act→World→Prop),
 (rf=none∨flat c=true)→codeOk G n c=true→Ce P call N c s=some (x,s')→D9 P G ds n s ι a w→Marks B w ds →
 (∀ ds' a' w',Reach P G ds' n ι s w s' a' w'→Marks B w' ds'→(flat c=true→ds'=ds)→Q x.toExit a' w')→c.wpIn (WF rf) nn P Q a w:=by
 intro c
 induction c with
 |skip=>intro B ds rf nn s s' x ι a w Q _ _ h hst hmk hq;cases h;exact wpIn_skip (hq ds a w ⟨ι,Ext.refl _ _ _,hst⟩ hmk fun _=>rfl)
 |label l=>intro B ds rf nn s s' x ι a w Q _ _ h hst hmk hq;cases h;exact wpIn_label (hq ds a w ⟨ι,Ext.refl _ _ _,hst⟩ hmk fun _=>rfl)
 |ret=>intro B ds rf nn s s' x ι a w Q _ _ h hst hmk hq;cases h;exact wpIn_ret (hq ds a w ⟨ι,Ext.refl _ _ _,hst⟩ hmk fun _=>rfl)
 |exit id=>intro B ds rf nn s s' x ι a w Q _ _ h hst hmk hq;cases h;exact wpIn_exit (hq ds a w ⟨ι,Ext.refl _ _ _,hst⟩ hmk fun _=>rfl)
 |goto l=>intro B ds rf nn s s' x ι a w Q _ hok;cases hok
 |scope b _=>intro B ds rf nn s s' x ι a w Q _ hok;cases hok
 |refuse y=>intro B ds rf nn s s' x ι a w Q _ hok;cases hok
 |rangeFunc f ps y z ihy ihz =>
  intro B ds rf nn s s' x ι a w Q hfl hok h hst hmk hq;have hrf:rf=none:=hfl.resolve_right (by simp [flat]);subst hrf;simp only [codeOk,Bool.and_eq_true] at hok;obtain ⟨⟨⟨hok1,hok2⟩,b6v⟩,c4k⟩:=hok;simp only [Ce] at h;split at h
  case h_2=>cases h
  rename_i g fs lb hev;split at h
  case h_2=>cases h
  rename_i fn hfn;split at h
  case isFalse=>cases h
  rename_i hc0;obtain ⟨hfs,hfy,hfz⟩:=hc0;split at h
  case h_2=>cases h
  rename_i v m0 hcall;split at h
  case h_2=>cases h
  rename_i rows hrows;rw [ae] at h;obtain ⟨⟨x1,m'⟩,hrun,he⟩:=h;cases he;refine a3d (qo hsq (fun l s s' x ι a w Q h1 h2 h3=>?_) (fun l s s' x ι a w Q h1 h2 h3=>?_) (fun p hp=>?_) hst hmk hok1 hev hfs hfn hcall hrows hrun fun ds' a' w' ι' h1 h2 h3=>hq ds' a' w' ⟨ι',h1,h2⟩ h3 fun hh=>by cases hh)
  ·exact ihy 0 [] (some l) 0 s s' x ι a w Q (.inr hfy) b6v h1 h2 (aq _) fun ds' a' w' ⟨ι',k1,k2⟩ _ k3=>h3 a' w' ι' k1 k2.1 fun _=>by rw [k3 hfy] at k2;exact k2
  ·exact ihz 0 [] (some l) 0 s s' x ι a w Q (.inr hfz) c4k h1 h2 (aq _) fun ds' a' w' ⟨ι',k1,k2⟩ _ k3=>h3 a' w' ι' k1 k2.1 fun _=>by rw [k3 hfz] at k2;exact k2
  ·have:=bh.1 hok2 p (by simpa using hp)
   simpa using this
 |seq c1 c2 ih1 ih2 =>
  intro B ds rf nn s s' x ι a w Q hfl hok h hst hmk hq;simp only [codeOk,Bool.and_eq_true] at hok;simp only [flat,Bool.and_eq_true] at hfl hq;simp only [Ce] at h;refine wpIn_seq ?_;cases h1:Ce P call N c1 s with
  |none=>rw [h1] at h;cases h
  |some r =>
   obtain ⟨x1,s1⟩:=r;rw [h1] at h;refine ih1 B ds rf nn s s1 x1 ι a w _ (hfl.imp id And.left) hok.1 h1 hst hmk fun ds1 a1 w1 hr hm1 hf1=>?_
   cases x1 with
   |normal =>
    obtain ⟨ι1,he,hst1⟩:=hr;refine ih2 B ds1 rf nn s1 s' x ι1 a1 w1 Q (hfl.imp id And.right) hok.2 h hst1 hm1 fun ds' a' w' hr' hm' hf'=>hq ds' a' w' ?_ hm' fun hh=>(hf' hh.2).trans (hf1 hh.1)
    obtain ⟨ι2,k1,k2⟩:=hr';exact ⟨ι2,Ext.trans hst.1 he k1,k2⟩
   |ret=>cases h;exact hq ds1 a1 w1 hr hm1 fun hh=>hf1 hh.1
   |exit id=>cases h;exact hq ds1 a1 w1 hr hm1 fun hh=>hf1 hh.1
 |cond c0 c1 c2 ih1 ih2 =>
  intro B ds rf nn s s' x ι a w Q hfl hok h hst hmk hq;simp only [codeOk,Bool.and_eq_true] at hok;simp only [flat,Bool.and_eq_true] at hfl hq;simp only [Ce] at h;have hv:=Jw hst.1 hst.2 hok.1.1;cases he:ev s.t c0<;>rw [he] at h hv<;>first|(cases h;done)|skip
  rename_i b;have e1:a.eval c0=.bool b:=(hv.JZ b).1 rfl;cases b with
  |true=>exact wpIn_cond_true e1 (ih1 B ds rf nn s s' x ι a w Q (hfl.imp id And.left) hok.1.2 h hst hmk fun ds' a' w' hr hm hf=>hq ds' a' w' hr hm fun hh=>hf hh.1)
  |false=>exact wpIn_cond_false e1 (ih2 B ds rf nn s s' x ι a w Q (hfl.imp id And.right) hok.2 h hst hmk fun ds' a' w' hr hm hf=>hq ds' a' w' hr hm fun hh=>hf hh.2)
 |block id b ih =>
  intro B ds rf nn s s' x ι a w Q hfl hok h hst hmk hq;simp only [codeOk] at hok;simp only [Ce] at h;refine wpIn_block ?_;cases h1:Ce P call N b s with
  |none=>rw [h1] at h;cases h
  |some r =>
   obtain ⟨x1,s1⟩:=r;rw [h1] at h;refine ih B ds rf nn s s1 x1 ι a w _ hfl hok h1 hst hmk fun ds1 a1 w1 hr hm1 hf1=>?_
   cases x1 with
   |normal=>cases h;exact hq ds1 a1 w1 hr hm1 hf1
   |ret=>cases h;exact hq ds1 a1 w1 hr hm1 hf1
   |exit i =>
    simp only at h;show (if i=id then Q .normal a1 w1 else Q (.exit i) a1 w1);split at h
    ·rename_i e;cases h;rw [if_pos e];exact hq ds1 a1 w1 hr hm1 hf1
    ·rename_i e;cases h;rw [if_neg e];exact hq ds1 a1 w1 hr hm1 hf1
 |loop b ih =>
  intro B ds rf nn s s' x ι a w Q hfl hok h hst hmk hq;simp only [codeOk] at hok;simp only [flat] at hfl hq;simp only [Ce] at h;refine wpIn_loop_rounds N ?_;have key:∀ (k:Nat) (ds1:List Deferred) (s1 s':St) (x:BM) (ι:BJ) (a:Act) (w:World),iterate (Ce P call N b) k s1=some (x,s')→D9 P G ds1 n s1 ι a w→Marks B w ds1 →
   (∀ ds' a' w',Reach P G ds' n ι s1 w s' a' w'→Marks B w' ds'→(flat b=true→ds'=ds1)→Q x.toExit a' w')→Code.roundsIn (WF rf) nn P b Q k a w:=by
   intro k
   induction k with
   |zero=>intro ds1 s1 s' x ι a w h;cases h
   |succ k ihk =>
    intro ds1 s1 s' x ι a w h hst hmk hq;simp only [iterate] at h;rw [roundsIn_succ];cases h1:Ce P call N b s1 with
    |none=>rw [h1] at h;cases h
    |some r =>
     obtain ⟨x1,s2⟩:=r;rw [h1] at h;refine ih B ds1 rf nn s1 s2 x1 ι a w _ hfl hok h1 hst hmk fun ds2 a1 w1 hr hm1 hf1=>?_
     cases x1 with
     |normal =>
      obtain ⟨ι1,he,hst1⟩:=hr;refine ihk ds2 s2 s' x ι1 a1 w1 h hst1 hm1 fun ds' a' w' hr' hm' hf'=>hq ds' a' w' ?_ hm' fun hh=>(hf' hh).trans (hf1 hh)
      obtain ⟨ι2,k1,k2⟩:=hr';exact ⟨ι2,Ext.trans hst.1 he k1,k2⟩
     |ret=>cases h;exact hq ds2 a1 w1 hr hm1 hf1
     |exit id=>cases h;exact hq ds2 a1 w1 hr hm1 hf1
  exact key N ds s s' x ι a w h hst hmk hq
 |region id ops draw =>
  intro B ds rf nn s s' x ι a w Q hfl hok h hst hmk hq;simp only [codeOk,Bool.and_eq_true] at hok;have hall:∀ o∈ops.toList,Iq G n o=true:=fun o ho=>bh.1 hok.1 o (by simpa using ho)
  have fin:∀ a' w' (s1:St),Reach P G ds n ι s w s1 a' w'→Marks B w' ds:=fun a' w' s1 ⟨ι',he,hst'⟩=>hmk.ext hst.1 he
  cases draw with
  |false =>
   simp only [Ce,Option.map_eq_some_iff] at h;obtain ⟨s1,h1,he⟩:=h;cases he;exact wpIn_region_list (O7 hc ops.toList s _ ι a w hall h1 hst fun a' w' hr=>hq ds a' w' hr (fin a' w' _ hr) fun _=>rfl)
  |true =>
   simp only [Ce,Option.map_eq_some_iff] at h;obtain ⟨s1,h1,he⟩:=h;cases he;exact hd ds rf nn n id ops s _ ι a w Q hall (by simpa using hok.2) h1 hst fun a' w' hr=>hq ds a' w' hr (fin a' w' _ hr) fun _=>rfl
end
end Go.Am
