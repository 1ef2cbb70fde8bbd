/-
  Texts of a proof, merged (AmB). Conditions: in each statement.
-/
import Derived.Laws.IdiomStrings
import Derived.RangeFuncFrom
import Derived.RangeFuncCalls
import Derived.LoopNIn
import Derived.TacticsIn
import Derived.Test.YthlffjlbidibdaaGreatDoorKHa
set_option linter.unusedSimpArgs false
set_option autoImplicit true
set_option relaxedAutoImplicit true
set_option linter.unusedVariables false
set_option linter.unusedSectionVars false
set_option maxRecDepth 100000
set_option maxHeartbeats 8000000
abbrev am:=@List.mem_cons_of_mem
abbrev ba:=@List.mem_map
abbrev bd:=@List.mem_cons
abbrev bl:=@Array.all_eq_true_iff_forall_mem
abbrev br:=@List.eq_nil_of_length_eq_zero
abbrev bv:=@List.map_cons
abbrev bL:=@Array.toList_map
abbrev bO:=@List.drop_eq_getElem_cons
abbrev cr:=@Option.some.inj
abbrev cI:=@Array.foldl_toList
abbrev cX:=@List.length_set
abbrev dc:=@Array.getElem?_append_left
abbrev ed:=@Nat.zero_mul
abbrev ew:=@Array.toList_zipIdx
abbrev ez:=@Array.toList_append
abbrev gp:=@Array.toList_modify
abbrev im:=@List.getElem?_set_self
namespace Go.Am
section
variable {P:Program}{G:List Nat}
theorem b1a(ty:TypeId)(B:DR P G ι m w)(E:QB ι m.gen Bo o)
 (h:bU P y Bo m=some v):(Builtin.len_ y ty o).run P w=.ok v w∧Az ι m.gen v v:=by
 unfold bU at h;split at h
 ·rename_i t x i z
  obtain⟨J,l,p⟩:=E 0 x z;split at h
  ·rename_i s d
   cases h;cases p;exact⟨by simp[Builtin.len_,i,l,run_underlying d,goInt],.int _ _⟩
  ·rename_i n e I d
   cases h;exact⟨by simp[Builtin.len_,i,l,run_underlying d,goInt],.int _ _⟩
  ·rename_i e b n g d
   cases h;cases p<;>exact⟨by simp[Builtin.len_,i,l,run_underlying d,goInt],.int _ _⟩
  ·rename_i k e d
   cases h;cases p;exact⟨by simp[Builtin.len_,i,l,run_underlying d,goInt],.int _ _⟩
  ·rename_i k e r d
   split at h
   ·rename_i f c u
    cases h;cases p with
    |map _ O K C M =>
     obtain⟨a,H,F⟩:=dX B C u;have j:∀{f a:List MapEntry},DF ι m.gen f a→f.length=a.length:=fun{f a}=>by
      induction f generalizing a with
      |nil=>intro h;cases a<;>first|rfl|exact h.elim
      |cons e f A=>intro h;cases a with
                     |nil=>exact h.elim
                     |cons N a=>simp[A h.2]
     have L:=j F;have q:m.gen r=0:=by unfold Mem.gen;rw[u];rfl
     refine⟨?_,.int _ _⟩;simp only[Builtin.len_,i,l,Sem.run_bind,run_underlying d,Result.andThen_ok,getObj,Sem.run,H,goInt];simp_all
   grind
  grind
 grind
theorem b0e(ty:TypeId)(l:RV P i=true)(o:QB ι g Bo c)
 (h:bU P i Bo m=some v):(∀w,(Builtin.len_ i ty c).run P w=.ok v w)∧Az ι g v v:=by
 unfold RV at l;unfold bU at h;split at h
 ·rename_i t x d k
  obtain⟨q,f,j⟩:=o 0 x k;split at h
  ·rename_i s a
   cases h;cases j;exact⟨fun w=>by simp[Builtin.len_,d,f,run_underlying a,goInt],.int _ _⟩
  ·rename_i n e p a
   cases h;exact⟨fun w=>by simp[Builtin.len_,d,f,run_underlying a,goInt],.int _ _⟩
  ·rename_i e b n r a
   cases h;cases j<;>exact⟨fun w=>by simp[Builtin.len_,d,f,run_underlying a,goInt],.int _ _⟩
  ·grind
  ·grind
  grind
 grind
theorem b0n{m:Mem}(ty:TypeId)(i:QB ι m.gen Bo a)
 (h:b2u P j Bo=some v):(Builtin.cap_ j ty a).run P w=.ok v w∧Az ι m.gen v v:=by
 unfold b2u at h;split at h
 ·rename_i t f
  split at h
  ·rename_i e g
   split at h
   ·rename_i q
    obtain⟨k,d,c⟩:=i 0 _ q;cases h;cases c;exact⟨by simp[Builtin.cap_,f,d,run_underlying g,goInt],.int _ _⟩
   ·rename_i b o s q
    obtain⟨k,d,c⟩:=i 0 _ q;cases h;cases c;exact⟨by simp[Builtin.cap_,f,d,run_underlying g,goInt],.int _ _⟩
   grind
  grind
 grind
theorem ZR(b:Az ι g s s')(h:lenOf s=some a)(size:Nat)(w:World) :
 (Builtin.firstCells size 0 s').run P w=.ok #[] w:=by
 cases b<;>simp only[lenOf,reduceCtorEq] at h
 ·simp only[Builtin.firstCells,Sem.run_pure]
  simp
 ·rfl
 ·simp only[Builtin.firstCells,Nat.zero_mul,loadCells,loadCellsFrom];rfl
 ·simp only[Builtin.firstCells,Nat.zero_mul,loadCells,loadCellsFrom];rfl
theorem Kv(h:c3e ι g b off len gen a' cap)(f:gen=g b→0<len)(n:Nat) :
 QL ι g ⟨b,off+n,some gen⟩ (a'.add n):=by
 obtain⟨c,j,i,m,a⟩:=h;refine⟨c,j,by assumption,fun e=>?_⟩;have k:gen=g b:=by assumption
 obtain⟨p,o,l⟩:=a k;have d:a'=⟨c.blk,off+c.sh,none⟩:=by
  obtain⟨x,y,z⟩:=a';grind
 rw[d,addr_add];grind
theorem a2s(ty:TypeId)(x:DR P G ι m w)(F:QB ι m.gen Bo q)
 (h:kU P K Bo m=some (v,m')):∃v' w',(Builtin.copy_ K ty q).run P w=.ok v' w'∧Post P G ι m w v m' v' w':=by
 unfold kU at h;split at h
 ·rename_i Y base c g L A N M
  obtain⟨U,J,I⟩:=F 0 _ N;obtain⟨W,H,r⟩:=F 1 _ M;split at h
  ·rename_i e z B f
   split at h
   ·rename_i i E
    have T:∃a d,U=.slice a c d:=by cases I<;>exact⟨_,_,rfl⟩
    obtain⟨a,d,rfl⟩:=T;simp only at h;split at h
    ·rename_i C
     cases h;refine⟨.int .i64 0,w,?_,Post.same x (.int _ _)⟩;simp only[Builtin.copy_,A,J,H,Sem.run_bind,run_underlying B,Result.andThen_ok,N9 r f w,run_sizeOf' E,C,ZR r f];cases a<;>rfl
    ·rename_i C
     split at h
     ·rename_i b O l R
      rw[ae] at h;obtain⟨m1,y,S⟩:=h;cases S;cases I with
      |sl _ _ _ _ Z _ u =>
       obtain⟨X,Q,k⟩:=Fe x r R;have n:0<c:=by
        grind
       have p:=Kv u (fun _=>n) 0;rw[Addr.add_zero'] at p;obtain⟨w',s,j,o,V⟩:=Nh x p k y;refine⟨_,w',?_,s,o,V,.int _ _⟩;simp only[Builtin.copy_,A,J,H,Sem.run_bind,run_underlying B,Result.andThen_ok,N9 r f w,run_sizeOf' E,Q,j,Sem.run_pure,goInt]
     grind
   grind
  grind
 grind
def ZM(ι:BJ)(g:Nat→Nat)(o o':Option Value):Prop:=(o=none∧o'=none)∨∃v v',o=some v∧o'=some v'∧Az ι g v v'
theorem H8(b:ZM ι g o o')(h:bnd d o=some n):o'=o:=by
 rcases b with⟨rfl,rfl⟩|⟨v,c,rfl,rfl,a⟩
 ·rfl
 ·unfold bnd at h
  split at h
  ·grind
  ·rename_i e;cases e;cases a;rfl
  grind
theorem Ih(h:bnd d (some v)=some n)(f:n≤y):(Instr.sliceBound v y c).run P w=.ok n w:=by
 unfold bnd at h;split at h
 ·grind
 ·rename_i k i e
  cases e;split at h
  ·rename_i a
   cases h;have b:i≤(y:Int):=by omega
   simp[Instr.sliceBound,asIntOf,a,b]
  grind
 grind
theorem VF(b:bnd 0 a=some l)(d:bnd len c=some h)(f:l≤h)(e:h≤cap) :
 (Instr.sliceBounds true len cap a c none).run P w=.ok (l,h,cap) w:=by
 unfold Instr.sliceBounds;cases c with
 |none =>
  cases d;cases a with
  |none=>cases b;simp
  |some v=>simp[Ih b f]
 |some u =>
  cases a with
  |none=>cases b;simp[Ih d e]
  |some v=>simp[Ih d e,Ih b f]
theorem Pq(b:bnd 0 a=some l)(e:bnd d (some u)=some h)(c:bnd j (some x)=some k)(i:l≤h)(g:h≤k)(f:k≤cap) :
 (Instr.sliceBounds true len cap a (some u) (some x)).run P w=.ok (l,h,k) w:=by
 unfold Instr.sliceBounds;cases a with
 |none=>cases b;simp[Ih e g,Ih c f]
 |some v=>simp[Ih e g,Ih c f,Ih b i]
theorem KH(d:P.underlying t=some (.slice e)) :
 (Instr.sliceAt t x b c a).run P w=(Instr.slice t x b c a).run P w:=by
 simp[Instr.sliceAt,run_underlying d]
theorem Gn(h:ZU P s=some v):DL P s=some v∧plain v=true:=by
 unfold ZU at h;grind
theorem Y5(hs:DR P G ι m w)(H:Az ι m.gen x x')
 (j:ZM ι m.gen T A) (n:ZM ι m.gen F E) (f:ZM ι m.gen r mx') (h:aslice P t x T F r m=some v) :
 ∃v',(Instr.sliceAt t x' A E mx').run P w=.ok v' w∧Az ι m.gen v v':=by
 unfold aslice at h;split at h
 ·cases h
 rename_i L;split at h
 ·
  rename_i s c;split at h
  ·rename_i J
   simp only[Bool.and_eq_true] at J;obtain⟨⟨p1,p2⟩,p3⟩:=J;have eq:∀{o I:Option Value},ZM ι m.gen o I→(Option.all plain o=true)→I=o:=fun{o I} ho J=>by
    rcases ho with⟨rfl,rfl⟩|⟨v,v',rfl,rfl,U⟩
    ·rfl
    ·rw[U.BL (by grind)]
   have e3:mx'=r:=by
    rcases f with⟨rfl,rfl⟩|⟨v,v',rfl,rfl,U⟩
    ·rfl
    grind
   rw[eq j p1,eq n p2,e3];cases H;obtain⟨h1,h2⟩:=Gn h;exact⟨v,EG h1 w,Az.plain h2⟩
  grind
 ·
  rename_i e c;split at h
  ·rename_i i a b1 b2 b3
   cases h;cases H;rw[H8 j b1,H8 n b2,H8 f b3,KH c];refine⟨.slice none 0 0,?_,.Dy⟩;cases r with
   |none =>
    simp only[Instr.slice,Sem.run_bind,run_underlying c,Result.andThen_ok,VF b1 b2 (Nat.le_refl _) (Nat.le_refl _),run_sizeOf' a];rfl
   |some k=>cases F with
    |none=>grind
    |some u =>
     simp only[Instr.slice,Sem.run_bind,run_underlying c,Result.andThen_ok,Pq (cap:=0) (len:=0) b1 b2 b3 (Nat.le_refl _) (Nat.le_refl _) (Nat.le_refl _),run_sizeOf' a];rfl
  grind
 ·
  rename_i e b off g' c;split at h
  ·rename_i i a b1 b2 b3
   cases h;cases H with
   |slE _ _ _ p =>
    rw[H8 j b1,H8 n b2,H8 f b3,KH c];refine⟨.slice (some p) 0 0,?_,.slE _ _ _ _⟩;cases r with
    |none =>
     simp only[Instr.slice,Sem.run_bind,run_underlying c,Result.andThen_ok,VF b1 b2 (Nat.le_refl _) (Nat.le_refl _),run_sizeOf' a];rfl
    |some k=>cases F with
     |none=>grind
     |some u =>
      simp only[Instr.slice,Sem.run_bind,run_underlying c,Result.andThen_ok,Pq (cap:=0) (len:=0) b1 b2 b3 (Nat.le_refl _) (Nat.le_refl _) (Nat.le_refl _),run_sizeOf' a];rfl
  grind
 ·
  rename_i e b off len g c;cases H with
  |sl _ _ _ _ p cap B =>
   split at h
   ·
    rename_i i l K a b1 b2;have b3:mx'=none:=by
     rcases f with⟨_,rfl⟩|⟨v,v',h,_,_⟩
     ·rfl
     grind
    split at h
    ·rename_i vs e' g2 ro hg
     split at h
     ·rename_i Q
      obtain⟨⟨c1,c2,rfl⟩,_⟩:=Q;cases h;obtain⟨d,R,C,Z,q⟩:=B;rw[H8 j b1,H8 n b2,b3,KH c];refine⟨.slice (some (if cap=l then p else p.add (l*i.size))) (K-l) (cap-l),?_,.sl _ _ _ _ _ _ ⟨d,R,C,by omega,fun O=>?_⟩⟩
      ·simp only[Instr.slice,Sem.run_bind,run_underlying c,Result.andThen_ok,VF b1 b2 c1 (by omega:K≤cap),run_sizeOf' a,Sem.run_pure]
       grind
      ·obtain⟨q1,q2,q4⟩:=q O
       obtain⟨cs,fr,e0,V,X,Vz,_,_⟩:=Hu hs R hg;have M:d.esz=i.size:=by rw[Vz,ED a]
       by_cases N:cap=l
       ·grind
       ·rw[if_neg N]
        have Y:cap≠0:=by omega
        obtain⟨q5,q6⟩:p.off=off+d.sh∧p.off+cap*d.esz≤d.lim:=by
         omega
        have S:p=⟨d.blk,off+d.sh,none⟩:=by
         obtain⟨x,y,z⟩:=p;grind
        have W:l*d.esz+(cap-l)*d.esz=cap*d.esz:=by rw[← cL];grind
        rw[S,addr_add];grind
     grind
    grind
   ·
    rename_i i l K k0 a b1 b2;split at h
    ·rename_i k b3
     split at h
     ·rename_i Q
      obtain⟨rfl,rfl,c3⟩:=Q;cases h;obtain⟨d,R,C,Z,q⟩:=B;cases F with
      |none=>grind
      |some u =>
       rw[H8 j b1,H8 n b2,H8 f b3,KH c];refine⟨.slice (some p) 0 0,?_,.slE _ _ _ _⟩;simp only[Instr.slice,Sem.run_bind,run_underlying c,Result.andThen_ok,Pq (len:=len) b1 b2 b3 (Nat.le_refl _) (Nat.le_refl _) (by omega:l≤cap),run_sizeOf' a,Sem.run_pure,if_true,Nat.sub_self]
     grind
    grind
   grind
 grind
end
section
variable {P:Program}{G:List Nat}
theorem dry_bind'(x:Sem α)(f:α→Sem β):DL P (x.bind f)=(DL P x).bind fun a=>DL P (f a):=by
 induction x<;>simp_all [Sem.bind,DL]
theorem Aw(x:Sem α)(f:α→Sem β):DL P (x >>= f)=(DL P x).bind fun a=>DL P (f a):=dry_bind' x f
theorem Bd(t:TypeId):DL P (underlying t)=P.underlying t:=by
 simp only[underlying,Aw,program,DL,Option.bind_some];cases P.underlying t<;>rfl
theorem bytes_eq{a b:ByteArray}(h:(a==b)=true):a=b:=by
 obtain⟨x⟩:=a;obtain⟨y⟩:=b;have e:x=y:=by simpa using(show(x==y)=true from h)
 rw[e]
theorem BM(h:Ci P e=some z):∃i a,P.info? e=some i∧i.zero=some a∧z=a.cells.toList∧z.all plainCell=true:=by
 unfold Ci zeroOf at h;split at h
 ·rename_i a b
  rw[bb] at b;grind
 grind
theorem O7(c:P.info? e=some i)(b:i.zero=some a)(w:World):(zeroValue e).run P w=.ok a w:=by
 simp[zeroValue,run_typeInfo' c,b]
theorem vJ(ty:TypeId)(A:DR P G ι m w)(T:QB ι m.gen Bo o)
 (h:YA P I Bo m=some (v,m')):∃v' w',(Builtin.clear_ I ty o).run P w=.ok v' w'∧Post P G ι m w v m' v' w':=by
 unfold YA at h;split at h
 case h_2=>cases h
 rename_i t base n g u L;obtain⟨K,F,E⟩:=T 0 _ L;split at h
 case h_2=>cases h
 rename_i e y;have S:∃a c,K=.slice a n c:=by cases E<;>exact⟨_,_,rfl⟩
 obtain⟨a,c,rfl⟩:=S;have s:Az ι m.gen (.tuple #[]) (.tuple #[]):=Az.plain rfl;split at h
 ·rename_i B
  subst B;cases h;refine⟨.tuple #[],w,?_,Post.same A s⟩;simp only[Builtin.clear_,u,F,Sem.run_bind,run_underlying y,Result.andThen_ok];cases a<;>rfl
 ·rename_i B
  split at h
  case h_2=>cases h
  rename_i i z b M C O;split at h
  case isFalse=>cases h
  rename_i N;rw[ae] at h;obtain⟨m1,r,R⟩:=h;cases R;obtain⟨X,J,H,V,Y,U⟩:=BM O;rw[C] at H;cases H;cases E with
  |sl _ _ _ _ Z _ q =>
   have l:=Kv q (fun _=>by omega) 0;rw[Addr.add_zero'] at l;have j:BF ι m.gen (AO z n) (AO z n):=mb U n;obtain⟨w',p,d,k,W⟩:=Nh A l j r;refine⟨_,w',?_,p,k,W,Az.plain rfl⟩;have f:(Builtin.zeroCells J.cells n).toList=AO z n:=by
    have:=L6 z n (by omega);unfold Builtin.zeroCells;grind
   have Q:∃x,n=x+1:=⟨n-1,by omega⟩
   obtain⟨x,rfl⟩:=Q;simp only[Builtin.clear_,u,F,Sem.run_bind,run_underlying y,Result.andThen_ok,O7 C V,f,d,Sem.run_pure]
theorem YP(a:TypeDesc)(k:Value):∀{es es':List MapEntry} (n:Nat) {r:Option (Nat×Value)},DF ι g es es'→Instr.findNow a k es n=some r →
 (r=none∧Instr.findNow a k es' n=some none)∨∃i v v',r=some (i,v)∧Instr.findNow a k es' n=some (some (i,v'))∧Az ι g v v'∧n≤i ∧
  ∃e e',es[i-n]?=some e∧es'[i-n]?=some e'∧Instr.sameNow a k e.key=some true∧qZ ι g e e'
 |[],[],n,r,_,hf=>by
  simp only[Instr.findNow,Option.some.injEq] at hf;exact .inl ⟨hf.symm,rfl⟩
 |e::es,e'::es',n,r,⟨he,hes⟩,hf=>by
  simp only[Instr.findNow] at hf ⊢;rw[he.1];cases hsn:Instr.sameNow a k e.key with
  |none=>grind
  |some b =>
   rw[hsn] at hf;cases b with
   |true =>
    simp only[Option.some.injEq] at hf;subst hf;refine .inr ⟨n,e.val,e'.val,rfl,rfl,he.2.2.2,ab _,e,e',?_,?_,hsn,he⟩
    ·simp
    ·simp
   |false =>
    rcases YP a k (n+1) hes hf with⟨d,c⟩|⟨i,v,v',d,c,p,o,f,q,m,l,j⟩
    ·grind
    grind
 |[],_::_,_,_,h,_=>h.elim
 |_::_,[],_,_,h,_=>h.elim
theorem Qh(h:ER P b=some a):P.underlying b=some a∧((∃k,a=.int k)∨a=.string∨a=.bool):=by
 unfold ER at h;split at h<;>first
  |(rename_i k c;cases h;exact⟨c,.inl ⟨_,rfl⟩⟩)
  |grind
  |grind
  |cases h
theorem run_checkKey(h:ER P b=some a)(empty:Bool)(k:Value)(w:World):(Instr.checkKey empty 10000 b k).run P w=.ok () w:=by
 obtain⟨c,d⟩:=Qh h;unfold Instr.checkKey;simp only[Sem.run_bind,run_underlying c,Result.andThen_ok];rcases d with⟨e,rfl⟩|rfl|rfl<;>rfl
theorem run_findKey(h:ER P b=some a)(d:Instr.findNow a k es 0=some r)(w:World) :
 (Instr.findKey b k es).run P w=.ok r w:=by
 obtain⟨c,_⟩:=Qh h;simp[Instr.findKey,run_underlying c,d]
theorem DF.empty:∀{es es':List MapEntry},DF ι g es es'→es'.isEmpty=es.isEmpty
 |[],[],_=>rfl
 |_::_,_::_,_=>rfl
 |[],_::_,h=>h.elim
 |_::_,[],h=>h.elim
theorem bT(c:TypeId)(k:Value):∀{es es':List MapEntry} (n:Nat) {r:Option (Nat×Value)},DF ι g es es'→DL P (Instr.findAsking c k es n)=some r →
 (r=none∧DL P (Instr.findAsking c k es' n)=some none)∨∃i v v',r=some (i,v)∧DL P (Instr.findAsking c k es' n)=some (some (i,v'))∧Az ι g v v'∧n≤i ∧
  ∃e e',es[i-n]?=some e∧es'[i-n]?=some e'∧qZ ι g e e'
 |[],[],n,r,_,a=>by
  cases a;exact .inl ⟨rfl,rfl⟩
 |e::es,e'::es',n,r,⟨he,hes⟩,a=>by
  simp only[Instr.findAsking,Aw] at a ⊢;rw[he.1];rw[bb] at a;obtain⟨b,d,a⟩:=a;rw[d];cases b with
  |true =>
   cases a;exact .inr ⟨n,e.val,e'.val,rfl,rfl,he.2.2.2,ab _,e,e',by simp,by simp,he⟩
  |false =>
   rcases bT c k (n+1) hes a with⟨l,j⟩|⟨i,v,v',l,j,s,q,f,u,p,o,m⟩
   ·grind
   grind
 |[],_::_,_,_,h,_=>h.elim
 |_::_,[],_,_,h,_=>h.elim
theorem b0s(h:Zy P s=true)(w:World):s.run P w=.ok () w:=by
 unfold Zy at h;split at h
 ·rename_i a;exact EG a w
 grind
theorem bW(h:Ve P b=true):∃d,P.underlying b=some d∧∀k x,Instr.sameNow d k x=none:=by
 unfold Ve at h;split at h
 ·rename_i c a;exact⟨_,a,fun k x=>by cases k<;>rfl⟩
 ·rename_i n e a;exact⟨_,a,fun k x=>by cases k<;>rfl⟩
 grind
theorem Rk(j:DF ι g es es')(h:Jk P fl c k es=some r) :
 (∀w,(Instr.checkKey fl 10000 c k).run P w=.ok () w) ∧
 ((r=none∧∀w,(Instr.findKey c k es').run P w=.ok none w)∨∃i v v',r=some (i,v)∧(∀w,(Instr.findKey c k es').run P w=.ok (some (i,v')) w)∧Az ι g v v' ∧
  ∃e e',es[i]?=some e∧es'[i]?=some e'∧qZ ι g e e'∧((ER P c).isSome→∃a,ER P c=some a∧Instr.sameNow a k e.key=some true)):=by
 unfold Jk at h;split at h
 ·rename_i a b
  refine⟨run_checkKey b fl k,?_⟩;rcases YP a k 0 j h with⟨rfl,f⟩|⟨i,u,m,rfl,f,y,_,e,e',s,q,B,p⟩
  ·exact .inl ⟨rfl,run_findKey b f⟩
  ·exact .inr ⟨i,u,m,rfl,run_findKey b f,y,e,e',s,q,p,fun _=>⟨a,b,B⟩⟩
 ·rename_i b
  split at h
  ·rename_i o
   simp only[Bool.and_eq_true] at o;obtain⟨d,C,A⟩:=bW o.1;refine⟨b0s o.2,?_⟩;have z:∀l,DL P (Instr.findKey c k l)=DL P (Instr.findAsking c k l):=fun l=>by
    have n:DL P (underlying c)=some d:=by rw[Bd];omega
    simp only[Instr.findKey,Aw,n,Option.bind_some];cases l with
    |nil=>rfl
    |cons x l=>simp only[Instr.findNow,A]
   rw[z] at h;rcases bT c k 0 j h with⟨rfl,f⟩|⟨i,u,m,rfl,f,y,_,e,e',s,q,p⟩
   ·rw[← z] at f
    exact .inl ⟨rfl,EG f⟩
   ·rw[← z] at f
    exact .inr ⟨i,u,m,rfl,EG f,y,e,e',s,q,p,fun E=>by grind⟩
  grind
theorem pU(L:DR P G ι m w)(F:Az ι m.gen x x')(M:Az ι m.gen k k')
 (h:N7 P t x k ok m=some v):∃v',(Instr.lookup t x' k' ok).run P w=.ok v' w∧Az ι m.gen v v':=by
 have C:∀{a a':Value} (b:Bool),Az ι m.gen a a'→Az ι m.gen (.tuple #[a,.bool b]) (.tuple #[a',.bool b]):=fun b h=>by
  have:=BF.cons h (BF.cons (.bool b) BF.nil);exact .tuple _ _ this.1 this.2
 unfold N7 at h;split at h
 ·rename_i q S H
  split at h
  ·rename_i z n
   split at h
   ·rename_i s
    simp only[Bool.and_eq_true] at s;rw[M.BL s.2];have l:∀w,(zeroValue S).run P w=.ok z w:=fun w=>by
     unfold zeroOf at n;rw[bb] at n;obtain⟨i,N,n⟩:=n;exact O7 N n w
    have j:∀(g:List MapEntry) (d:Array MapEntry),DF ι m.gen g d.toList →
     (match Jk P g.isEmpty q k g with
      |some (some (_,v))=>some (if ok then .tuple #[v,.bool true] else v)
      |some none=>some (if ok then .tuple #[z,.bool false] else z)
      |none=>none)=some v →
     (∀r,(Instr.findKey q k d.toList).run P w=.ok r w→(Instr.checkKey d.isEmpty 10000 q k).run P w=.ok () w→(Instr.lookup t x' k ok).run P w =
      .ok (match r with|some (_,v)=>(if ok then .tuple #[v,.bool true] else v)|none=>(if ok then .tuple #[z,.bool false] else z)) w) →
     ∃v',(Instr.lookup t x' k ok).run P w=.ok v' w∧Az ι m.gen v v':=fun g d p o I=>by
     cases hfn:Jk P g.isEmpty q k g with
     |none=>grind
     |some r =>
      rw[hfn] at o;obtain⟨f,A⟩:=Rk p hfn;have K:d.isEmpty=g.isEmpty:=by rw[← p.empty];simp
      rcases A with⟨rfl,B⟩|⟨i,u,E,rfl,B,V,_⟩
      ·simp only[Option.some.injEq] at o
       subst o;refine⟨if ok then .tuple #[z,.bool false] else z,?_,?_⟩
       ·simp_all
       ·cases ok
        ·exact Az.plain s.1
        ·exact C false (Az.plain s.1)
      ·simp only[Option.some.injEq] at o
       subst o;refine⟨if ok then .tuple #[E,.bool true] else E,?_,?_⟩
       ·simp_all
       grind
    split at h
    ·rename_i g e
     split at e
     ·cases e;cases F
      exact j [] #[] trivial h fun r y f=>by
       simp only[Instr.lookup,Sem.run_bind,run_underlying H,Result.andThen_ok,f,y,Sem.run_pure];cases r<;>simp[l]
     ·rename_i r
      cases F with
      |map _ c U Q O =>
       split at e
       ·rename_i T W J
        cases e;obtain⟨d,R,B⟩:=dX L Q J;have:=O (by unfold Mem.gen;rw[J];rfl);subst this;exact j g d B h fun r y f=>by
         simp only[Instr.lookup,Sem.run_bind,run_underlying H,Result.andThen_ok,f,y,Sem.run_pure,getObj,Sem.run,R];cases r<;>simp[l]
       grind
     grind
    grind
   grind
  grind
 grind
theorem DF.modify(a:∀e e',qZ ι g e e'→qZ ι g (f e) (f' e')) :
 ∀{es es':List MapEntry} (i:Nat),DF ι g es es'→DF ι g (es.modify i f) (es'.modify i f')
 |[],[],i,_=>by cases i<;>trivial
 |e::es,e'::es',0,⟨h,k⟩=>⟨a _ _ h,k⟩
 |e::es,e'::es',i+1,⟨h,k⟩=>⟨h,DF.modify a i k⟩
 |[],_::_,_,h=>h.elim
 |_::_,[],_,h=>h.elim
theorem DF.push(a:qZ ι g e e'):∀{es es':List MapEntry},DF ι g es es'→DF ι g (es++[e]) (es'++[e'])
 |[],[],_=>⟨a,trivial⟩
 |_::_,_::_,⟨h,k⟩=>⟨h,DF.push a k⟩
 |[],_::_,h=>h.elim
 |_::_,[],h=>h.elim
theorem LJ(d:ER P c=some a)(h:Instr.sameNow a k old=some true):Instr.sameBits 10000 old k=true:=by
 obtain⟨_,b⟩:=Qh d;rcases b with⟨f,rfl⟩|rfl|rfl
 ·cases k<;>cases old<;>simp only[Instr.sameNow,reduceCtorEq] at h
  split at h
  ·rename_i e;subst e
   simp only[Option.some.injEq,beq_iff_eq] at h;subst h;simp[Instr.sameBits]
  grind
 ·cases k<;>cases old<;>simp only[Instr.sameNow,reduceCtorEq,Option.some.injEq] at h
  have:=bytes_eq h;subst this;assumption
 ·cases k<;>cases old<;>simp only[Instr.sameNow,reduceCtorEq,Option.some.injEq,beq_iff_eq] at h
  subst h;simp[Instr.sameBits]
theorem Xh{x x' k k' v v':Value}(R:DR P G ι m w)(X:Az ι m.gen x x')(Z:Az ι m.gen k k')(O:Az ι m.gen v v')
 (h:JH P t x k v m=some m'):∃w' d,(Instr.mapUpdate t x' k' v').run P w=.ok () w'∧Ext ι m w d m' w'∧DR P G d m' w':=by
 unfold JH at h;split at h
 ·rename_i W et r Q
  split at h
  ·rename_i L g A
   split at h
   ·rename_i E
    rw[Z.BL E];cases X with
    |map _ c z T hc =>
     obtain⟨o,U,K⟩:=dX R T A;have:=hc (by unfold Mem.gen;rw[A];rfl);subst this;have C:m.ro r=false:=by unfold Mem.ro;rw[A];rfl
     have S:m.gen r=0:=by unfold Mem.gen;rw[A];rfl
     have put:∀(n:List MapEntry) (j:Array MapEntry) (p:Nat),(∀d q,Le ι m.gen d q→DF d q n j.toList) →
      ∃d,Ext ι m w d (m.put r (.map n p)) { w with heap:=w.heap.setIfInBounds z.blk (.map j p) }∧DR P G d (m.put r (.map n p)) { w with heap:=w.heap.setIfInBounds z.blk (.map j p) } :=
      fun n j p I=>by
       obtain⟨d,a,b,_⟩:=JJ (x:=.map n p) (ib':=z) (w':={ w with heap:=w.heap.setIfInBounds z.blk (.map j p) }) (obj:=.map j p) R T C rfl
        ⟨by omega,fun _=>rfl⟩ (.inl rfl) (by grind) (fun c _ Y=>by grind) (by simp) rfl rfl rfl
        (fun d q l=>⟨rfl,I d q l⟩)
       grind
     cases hfn:Jk P false W k L with
     |none=>grind
     |some V =>
      rw[hfn] at h;obtain⟨y,H⟩:=Rk K hfn;rcases H with⟨rfl,J⟩|⟨i,u,u',rfl,J,_,e,e',h5,h6,h8,h7⟩
      ·cases h
       obtain⟨d,a,b⟩:=put (L++[{ key:=k,val:=v,born:=g }]) (o.push { key:=k,val:=v',born:=g }) (g+1) (fun d q l=>by
        rw[Array.toList_push];exact DF.push (e:={ key:=k,val:=v,born:=g }) (e':={ key:=k,val:=v',born:=g }) ⟨rfl,rfl,E,O.mono l⟩ (K.mono l))
       refine⟨_,d,?_,a,b⟩;simp only[Instr.mapUpdate,Sem.run_bind,run_underlying Q,Result.andThen_ok,getObj,Sem.run,U,y,J,setObj]
      ·simp only at h
       split at h
       case isFalse=>cases h
       rename_i hsb;cases h;obtain⟨d,a,b⟩:=put (L.modify i fun e=>{ e with key:=k,val:=v }) (o.modify i fun e=>{ e with key:=k,val:=v' }) g (fun d q l=>by
        rw[gp];exact DF.modify (f:=fun e=>{ e with key:=k,val:=v }) (f':=fun e=>{ e with key:=k,val:=v' }) (fun e e' he=>⟨rfl,he.2.1,E,O.mono l⟩) i (K.mono l))
       refine⟨_,d,?_,a,b⟩;have s:((o[i]?).map (·.key)).getD k=e.key:=by
        have:o[i]?=some e':=by grind
        rw[this];simp[h8.1]
       have M:∀w,(Instr.keyThatStays e.key k).run P w=.ok k w:=fun w=>by
        unfold Instr.keyThatStays;rw[h5] at hsb;simp only[Option.map_some,Option.getD_some,Bool.or_eq_true] at hsb;have hsb:Instr.sameBits 10000 e.key k=true:=by
         rcases hsb with hsb|hsb
         ·obtain⟨N,F,B⟩:=h7 hsb
          exact LJ F B
         omega
        simp_all
       simp only[Instr.mapUpdate,Sem.run_bind,run_underlying Q,Result.andThen_ok,getObj,Sem.run,U,y,J,setObj,s,M]
   grind
  grind
 grind
theorem DF.get:∀{es es':List MapEntry} {i:Nat} {e e':MapEntry},DF ι g es es'→es[i]?=some e→es'[i]?=some e'→qZ ι g e e'
 |[],[],i,_,_,_,h,_=>by grind
 |a::es,b::es',0,e,e',⟨h,_⟩,h1,h2=>by grind
 |a::es,b::es',i+1,e,e',⟨_,k⟩,h1,h2=>DF.get k (by assumption) (by grind)
 |[],_::_,_,_,_,h,_,_=>h.elim
 |_::_,[],_,_,_,h,_,_=>h.elim
theorem DF.find(n:Int):∀{es es':List MapEntry},DF ι g es es'→es'.findIdx? (fun e=>(e.born:Int)==n)=es.findIdx? (fun e=>(e.born:Int)==n)
 |[],[],_=>rfl
 |a::es,b::es',⟨h,k⟩=>by
  rw[List.findIdx?_cons,List.findIdx?_cons,DF.find n k,h.2.1]
 |[],_::_,h=>h.elim
 |_::_,[],h=>h.elim
theorem c5r{v v':Value}(n:Int)(h:Az ι g v v'):Az ι g (.tuple #[v,.int .i64 n]) (.tuple #[v',.int .i64 n]) :=
 .tuple [v,.int .i64 n] [v',.int .i64 n] rfl fun i a=>by
  match i,a with
  |0,_=>exact h
  |1,_=>exact Az.plain (v:=.int .i64 n) rfl
  |i+2,a=>grind
theorem vW{x x' k k' v:Value}(V:DR P G ι m w)(hx:Az ι m.gen x x')(hk:Az ι m.gen k k')
 (h:Vh P t x k m=some (v,m')):∃v' w' d,(Instr.mapEntry t x' k').run P w=.ok v' w'∧Ext ι m w d m' w'∧DR P G d m' w'∧Az d m'.gen v v':=by
 unfold Vh at h;split at h
 ·rename_i kt et r U
  split at h
  ·rename_i E g H
   split at h
   ·rename_i L
    rw[hk.BL L];cases hx with
    |map _ c F Y hc =>
     obtain⟨l,h1,R⟩:=dX V Y H;have:=hc (by unfold Mem.gen;rw[H];rfl);subst this;have K:m.ro r=false:=by unfold Mem.ro;rw[H];rfl
     have W:m.gen r=0:=by unfold Mem.gen;rw[H];rfl
     have put:∀(o:List MapEntry) (j:Array MapEntry) (p:Nat),(∀d s,Le ι m.gen d s→DF d s o j.toList) →
      ∃d,Ext ι m w d (m.put r (.map o p)) { w with heap:=w.heap.setIfInBounds F.blk (.map j p) }∧DR P G d (m.put r (.map o p)) { w with heap:=w.heap.setIfInBounds F.blk (.map j p) } :=
      fun o j p O=>by
       obtain⟨d,a,b,_⟩:=JJ (x:=.map o p) (ib':=F) (w':={ w with heap:=w.heap.setIfInBounds F.blk (.map j p) }) (obj:=.map j p) V Y K rfl
        ⟨by omega,fun _=>rfl⟩ (.inl rfl) (by grind) (fun c _ hne=>by grind) (by simp) rfl rfl rfl
        (fun d s n=>⟨rfl,O d s n⟩)
       grind
     cases hfn:Jk P false kt k E with
     |none=>grind
     |some res =>
      rw[hfn] at h;obtain⟨C,N⟩:=Rk R hfn;rcases N with⟨rfl,Q⟩|⟨i,u,u',rfl,Q,QS,e,e',h5,h6,Z,h7⟩
      ·simp only at h
       split at h
       ·rename_i z y
        split at h
        ·rename_i A
         cases h;have I:∀w,(zeroValue et).run P w=.ok z w:=fun w=>by
          unfold zeroOf at y;rw[bb] at y;obtain⟨i,hi,y⟩:=y;exact O7 hi y w
         obtain⟨d,a,b⟩:=put (E++[{ key:=k,val:=z,born:=g }]) (l.push { key:=k,val:=z,born:=g }) (g+1) (fun d s n=>by
          rw[Array.toList_push];exact DF.push (e:={ key:=k,val:=z,born:=g }) (e':={ key:=k,val:=z,born:=g }) ⟨rfl,rfl,L,Az.plain A⟩ (R.mono n))
         refine⟨_,_,d,?_,a,b,c5r _ (Az.plain A)⟩;simp only[Instr.mapEntry,Sem.run_bind,run_underlying U,Result.andThen_ok,getObj,Sem.run,h1,C,Q,setObj,I,Sem.run_pure];rfl
        grind
       grind
      ·simp only at h
       split at h
       case isFalse=>cases h
       rename_i hsb;cases h;obtain⟨d,a,b⟩:=put (E.modify i fun e=>{ e with key:=k }) (l.modify i fun e=>{ e with key:=k }) g (fun d s n=>by
        rw[gp];exact DF.modify (f:=fun e=>{ e with key:=k }) (f':=fun e=>{ e with key:=k }) (fun e e' X=>⟨rfl,X.2.1,L,X.2.2.2⟩) i (R.mono n))
       have q:((l[i]?).map fun x=>(x.born:Int)).getD 0=((((E[i]?).map (·.born)).getD 0:Nat):Int):=by
        have:l[i]?=some e':=by grind
        rw[this,h5];show(e'.born:Int)=(e.born:Int)
        rw[Z.2.1]
       refine⟨.tuple #[u',.int .i64 ((((E[i]?).map (·.born)).getD 0:Nat):Int)],_,d,?_,a,b,c5r _ (QS.mono a.le)⟩;have B:((l[i]?).map (·.key)).getD k=e.key:=by
        have:l[i]?=some e':=by grind
        rw[this];simp[Z.1]
       have S:∀w,(Instr.keyThatStays e.key k).run P w=.ok k w:=fun w=>by
        unfold Instr.keyThatStays;rw[h5] at hsb;simp only[Option.map_some,Option.getD_some,Bool.or_eq_true] at hsb;have hsb:Instr.sameBits 10000 e.key k=true:=by
         rcases hsb with hsb|hsb
         ·obtain⟨T,M,J⟩:=h7 hsb
          exact LJ M J
         omega
        simp_all
       simp only[Instr.mapEntry,Sem.run_bind,run_underlying U,Result.andThen_ok,getObj,Sem.run,h1,C,Q,setObj,B,S,Sem.run_pure,q];rfl
   grind
  grind
 grind
theorem XG{x x' s s' v v':Value}(z:DR P G ι m w)(E:Az ι m.gen x x')(I:Az ι m.gen s s')(F:Az ι m.gen v v')
 (h:Jj x s v m=some m'):∃w' g,(Instr.entryStore t x' s' v').run P w=.ok () w'∧Ext ι m w g m' w'∧DR P G g m' w':=by
 unfold Jj at h;split at h
 ·rename_i r n
  split at h
  ·rename_i L d o
   split at h
   ·rename_i i M
    cases h;rw[I.BL (v:=.int .i64 n) rfl];cases E with
    |map _ c y B J =>
     obtain⟨j,K,C⟩:=dX z B o;have:=J (by unfold Mem.gen;rw[o];rfl);subst this;have p:m.ro r=false:=by unfold Mem.ro;rw[o];rfl
     have A:m.gen r=0:=by unfold Mem.gen;rw[o];rfl
     obtain⟨g,a,b,_⟩:=JJ (x:=.map (L.modify i fun e=>{ e with val:=v }) d) (ib':=y) (w':={ w with heap:=w.heap.setIfInBounds y.blk (.map (j.modify i fun e=>{ e with val:=v' }) d) }) (obj:=.map (j.modify i fun e=>{ e with val:=v' }) d) z B p rfl
      ⟨by omega,fun _=>rfl⟩ (.inl rfl) (by grind) (fun c _ H=>by grind) (by simp) rfl rfl rfl
      (fun g N k=>⟨rfl,by
       rw[gp];exact DF.modify (f:=fun e=>{ e with val:=v }) (f':=fun e=>{ e with val:=v' }) (fun e O u=>⟨u.1,u.2.1,u.2.2.1,F.mono k⟩) i (C.mono k)⟩)
     refine⟨_,g,?_,a,b⟩;have q:j.findIdx? (fun e=>(e.born:Int)==n)=some i:=by
      have:=DF.find n C;obtain⟨l⟩:=j;grind
     simp only[Instr.entryStore,Sem.run_bind,Result.andThen_ok,getObj,Sem.run,K,asInt,asIntOf,Sem.run_pure,q,setObj]
   grind
  grind
 grind
end
section
variable {P:Program}{G:List Nat}
theorem Ce(a:α):DL P (pure a:Sem α)=some a:=rfl
theorem LY(t:TypeId):DL P (typeInfo t)=P.info? t:=by
 simp only[typeInfo,Aw,program,DL,Option.bind_some];cases P.info? t<;>rfl
theorem Gy(t:TypeId):DL P (sizeOf t)=(P.info? t).map (·.size):=by
 simp only[sizeOf,Aw,LY];cases P.info? t<;>rfl
theorem TJ(t:TypeId):DL P (isAgg t)=G9 P t:=by
 simp only[isAgg,Aw,Bd,G9];cases P.underlying t with
 |none=>rfl
 |some d=>cases d<;>rfl
theorem BF.set(h:BF ι g l l')(b:Az ι g v v')(i:Nat):BF ι g (l.set i v) (l'.set i v'):=by
 refine⟨by simp[h.1],fun j a=>?_⟩;rw[cX] at a;have:=h.2 j a;rw[getD_eq,getD_eq] at this ⊢;by_cases e:i=j
 ·subst e
  rw[im (by omega),im (by rw[← h.1];omega)];grind
 grind
theorem foldl_rel(off:Nat):∀{l l':List Value} (k:Nat) {cs cs':Array Value},BF ι g l l'→BF ι g cs.toList cs'.toList →
 BF ι g ((l.zipIdx k).foldl (fun cs (c,j)=>cs.setIfInBounds (off+j) c) cs).toList ((l'.zipIdx k).foldl (fun cs (c,j)=>cs.setIfInBounds (off+j) c) cs').toList
 |[],l',k,cs,cs',h,hc=>by
  have:l'=[]:=aw.1 h.1.symm;simp_all
 |v::l,l',k,cs,cs',h,hc=>by
  obtain⟨d,e,rfl,a,b⟩:=h.Iz;refine foldl_rel off (k+1) b ?_;simp only[Array.toList_setIfInBounds];exact hc.set a _
def WS(ι:BJ)(g:Nat→Nat):List (Nat×Value)→List (Nat×Value)→Prop
 |[],[]=>True
 |p::ps,p'::ps'=>p'.1=p.1∧Az ι g p.2 p'.2∧WS ι g ps ps'
 |_,_=>False
theorem Sv{ι:BJ}{g:Nat→Nat}(a:Nat→Option (Nat×Nat)):∀{ps d:List (Nat×Value)} {cs cs' out:Array Value},WS ι g ps d→BF ι g cs.toList cs'.toList →
 Instr.fill a cs ps=some out→∃c,Instr.fill a cs' d=some c∧BF ι g out.toList c.toList
 |[],[],cs,cs',out,_,hc,h=>by
  simp only[Instr.fill,Option.some.injEq] at h ⊢;grind
 |(i,v)::ps,(i',v')::d,cs,cs',out,⟨h1,h2,h3⟩,hc,h=>by
  subst h1;simp only[Instr.fill] at h ⊢;cases hp:a i' with
  |none=>grind
  |some q =>
   obtain⟨f,size⟩:=q;rw[hp] at h;simp only at h ⊢;have b:=h2.cells;have k:v'.cells.size=v.cells.size:=by have:=b.1;grind
   have j:cs'.size=cs.size:=by have:=hc.1;grind
   rw[k,j];split at h
   ·cases h
   ·rename_i e
    rw[if_neg e];refine Sv a h3 ?_ h;have:=foldl_rel (ι:=ι) (g:=g) f 0 b hc;rw[← cI,← cI,ew,ew];omega
 |[],_::_,_,_,_,h,_,_=>h.elim
 |_::_,[],_,_,_,h,_,_=>h.elim
theorem WS.map{ρ ρ':Operand→Value}:∀{ps:List (Nat×Operand)},(∀x∈ps.map (·.2),Az ι g (ρ x) (ρ' x)) →
 WS ι g (ps.map fun(i,x)=>(i,ρ x)) (ps.map fun(i,x)=>(i,ρ' x))
 |[],_=>trivial
 |(i,x)::ps,h=>⟨rfl,h x (by simp),WS.map fun y a=>h y (by grind)⟩
theorem Zh{ι:BJ}{g:Nat→Nat}(r:WS ι g ps.toList l.toList)(s:∀z,zeroOf P t=some z→z.cells.toList.all plainCell=true)
 (h:DL P (Instr.build t ps)=some v):∃v',DL P (Instr.build t l)=some v'∧Az ι g v v':=by
 unfold Instr.build at h ⊢;simp only[Aw] at h ⊢;have p:DL P (zeroValue t)=zeroOf P t:=by
  simp only[zeroValue,Aw,LY,zeroOf];cases P.info? t with
  |none=>rfl
  |some i=>simp only[Option.bind_some];cases i.zero<;>rfl
 rw[p] at h ⊢;cases hz0:zeroOf P t with
 |none=>grind
 |some z =>
  have m:=BF.plain (ι:=ι) (g:=g) (s z hz0);rw[hz0] at h;simp only[Option.bind_some,Bd] at h ⊢;cases hd:P.underlying t with
  |none=>grind
  |some d =>
   rw[hd] at h;simp only[Option.bind_some] at h ⊢;cases d with
   |struct c =>
    simp only[Aw] at h ⊢;cases hpl:DL P (Array.mapM (fun f=>do let __do_lift ← sizeOf f.type;pure (f.offset,__do_lift)) c) with
    |none=>grind
    |some b =>
     rw[hpl] at h;simp only[Option.bind_some] at h ⊢;cases hf:Instr.fill (fun x=>b[x]?) z.cells ps.toList with
     |none=>rw[hf] at h;cases h
     |some k =>
      rw[hf] at h;obtain⟨a,q,o⟩:=Sv _ r m hf;rw[q];simp only[Ce,Option.some.injEq] at h ⊢;subst h;exact⟨_,rfl,.agg k.toList a.toList o.1 o.2⟩
   |array n e =>
    simp only[Aw,Gy] at h ⊢;cases hi:P.info? e with
    |none=>grind
    |some i =>
     rw[hi] at h;simp only[Option.map_some,Option.bind_some] at h ⊢;cases hf:Instr.fill (fun j=>some (j*i.size,i.size)) z.cells ps.toList with
     |none=>rw[hf] at h;cases h
     |some k =>
      rw[hf] at h;obtain⟨a,q,o⟩:=Sv _ r m hf;rw[q];simp only[Ce,Option.some.injEq] at h ⊢;subst h;exact⟨_,rfl,.agg k.toList a.toList o.1 o.2⟩
   |_=>cases h
theorem vO{v:Value}(a:BF ι g cs.toList cs'.toList)(h:DL P (part t cs off)=some v) :
 ∃v',DL P (part t cs' off)=some v'∧Az ι g v v':=by
 unfold part at h ⊢;simp only[Aw,TJ] at h ⊢;cases ha:G9 P t with
 |none=>grind
 |some b =>
  rw[ha] at h;simp only[Option.bind_some] at h ⊢;cases b with
  |true =>
   simp only[if_true,Aw,Gy] at h ⊢;cases hi:P.info? t with
   |none=>grind
   |some i =>
    rw[hi] at h;simp only[Option.map_some,Option.bind_some,Ce,Option.some.injEq] at h ⊢;subst h;refine⟨_,rfl,?_⟩;have:=(a.drop off).take i.size;have e:∀(c:Array Value),c.extract off (off+i.size)=⟨(c.toList.drop off).take i.size⟩:=fun c=>by
     grind
    rw[e,e];exact .agg _ _ this.1 this.2
  |false =>
   simp only[Bool.false_eq_true,if_false] at h ⊢;cases hc:cs[off]? with
   |none=>rw[hc] at h;cases h
   |some u =>
    rw[hc] at h;simp only[Ce,Option.some.injEq] at h;subst h;obtain⟨v',f,d⟩:=a.get (i:=off) (v:=u) (by grind);refine⟨v',?_,d⟩;have:cs'[off]?=some v':=by grind
    rw[this];rfl
theorem YK(c:Az ι g x x')(h:DL P (Instr.field t x f)=some v) :
 ∃v',DL P (Instr.field t x' f)=some v'∧Az ι g v v':=by
 unfold Instr.field at h ⊢;simp only[Aw,Bd] at h ⊢;cases hd:P.underlying t with
 |none=>grind
 |some d =>
  rw[hd] at h;simp only[Option.bind_some] at h ⊢;cases d<;>first|(cases h)|skip
  rename_i a;simp only at h ⊢;cases hf:a[f]? with
  |none=>rw[hf] at h;cases h
  |some j =>
   rw[hf] at h;cases c<;>first|(cases h)|skip
   rename_i l b i e;exact vO (cs:=⟨l⟩) (cs':=⟨b⟩) ⟨i,e⟩ h
theorem ZC(f:Az ι g x x')(h:DL P (Instr.index t x a)=some v) :
 ∃v',DL P (Instr.index t x' a)=some v'∧Az ι g v v':=by
 unfold Instr.index at h ⊢;simp only[Aw] at h ⊢;cases hi:DL P (asIntOf a) with
 |none=>grind
 |some p =>
  obtain⟨k,i⟩:=p;rw[hi] at h;simp only[Option.bind_some,Aw,Bd] at h ⊢;cases hd:P.underlying t with
  |none=>grind
  |some d =>
   rw[hd] at h;simp only[Option.bind_some] at h ⊢;cases f with
   |agg l b o m =>
    cases d<;>first|(cases h;done)|skip
    rename_i n e;simp only at h ⊢;split at h
    ·rename_i j
     rw[if_pos j];simp only[Aw,Gy] at h ⊢;cases hii:P.info? e with
     |none=>grind
     |some c =>
      rw[hii] at h;exact vO (cs:=⟨l⟩) (cs':=⟨b⟩) ⟨o,m⟩ h
    ·revert h
     simp only[boundsPanic,Aw];split<;>intro h<;>first
      |contradiction
      |(cases h)
      |(simp[Ce,runtimePanic,Aw,program,DL,goPanic] at h)
   |str s =>
    refine⟨v,h,?_⟩;cases d<;>first|(cases h;done)|skip
    simp only at h;split at h
    ·simp only[Ce,Option.some.injEq] at h
     subst h;exact .int _ _
    ·exfalso
     revert h
     simp only[boundsPanic,Aw];split<;>intro h<;>first
      |contradiction
      |(cases h)
      |(simp[Ce,runtimePanic,Aw,program,DL,goPanic] at h)
   |_=>cases d<;>cases h
theorem UF{x x' v:Value}{i:Nat}(b:Az ι g x x')(h:DL P (Instr.extract x i)=some v) :
 ∃v',DL P (Instr.extract x' i)=some v'∧Az ι g v v':=by
 unfold Instr.extract at h ⊢;cases b<;>first|(cases h)|skip
 rename_i l l' d c;simp only at h ⊢;cases hc:(⟨l⟩:Array Value)[i]? with
 |none=>rw[hc] at h;cases h
 |some u =>
  rw[hc] at h;simp only[Ce,Option.some.injEq] at h;subst h;obtain⟨v',k1,a⟩:=BF.get (l:=l) (l':=l') ⟨d,c⟩ (i:=i) (v:=u) (by grind);refine⟨v',?_,a⟩;have:(⟨l'⟩:Array Value)[i]?=some v':=by grind
  rw[this];rfl
end
section
variable {P:Program}{G:List Nat}
theorem vK(h:b6c op k a b=some v)(w:World) :
 (binOp op t (.int k a) (.int k b)).run P w=.ok v w∧plain v=true:=by
 cases op<;>simp only[b6c,reduceCtorEq,Option.some.injEq] at h
 case quo =>
  split at h
  ·cases h
  ·rename_i c
   simp only[Option.some.injEq] at h;subst h;refine⟨?_,rfl⟩;rw[binOp_quo];simp only[Op.intDiv,if_neg c];rfl
 case rem =>
  split at h
  ·cases h
  ·rename_i c
   simp only[Option.some.injEq] at h;subst h;refine⟨?_,rfl⟩;rw[binOp_rem];simp only[Op.intDiv,if_neg c];rfl
 all_goals
  subst h;refine⟨?_,rfl⟩;first
   |(rw[binOp_add];rfl)
   |(rw[binOp_sub];rfl)
   |(rw[binOp_mul];rfl)
   |(rw[binOp_and];rfl)
   |(rw[binOp_or];rfl)
   |(rw[binOp_xor];rfl)
   |(rw[binOp_andNot];rfl)
   |(rw[binOp_eql];rfl)
   |(rw[binOp_neq];rfl)
   |(rw[binOp_lss];rfl)
   |(rw[binOp_leq];rfl)
   |(rw[binOp_gtr];rfl)
   |(rw[binOp_geq];rfl)
theorem P9(c:op=.shl∨op=.shr)(h:jk op k a b=some v)(w:World) :
 (binOp op t (.int k a) (.int k' b)).run P w=.ok v w∧plain v=true:=by
 unfold jk at h;split at h
 ·cases h
 ·rename_i d
  rcases c with rfl|rfl<;>simp only[Option.some.injEq] at h<;>subst h<;>refine⟨?_,rfl⟩
  ·rw[binOp_shl];simp only[Op.shift,if_neg d];rfl
  ·rw[binOp_shr];simp only[Op.shift,if_neg d];rfl
theorem Qx(f:P.underlying t=some (.slice e))(a b:Option Addr)(n c d g:Nat)(h:a=none∨b=none)(w:World) :
 (Op.equal t (.slice a n c) (.slice b d g)).run P w=.ok (a.isNone&&b.isNone) w:=by
 show(Op.equalIn (9999+1) t _ _).run P w=_;unfold Op.equalIn;simp only[Sem.run_bind,run_underlying f,Result.andThen_ok];cases a with
 |none=>cases b<;>rfl
 |some a=>simp_all
theorem jS(b:P.underlying t=some (.map k e))(a:Option Nat)(w:World) :
 (Op.equal t (.map a) (.map none)).run P w=.ok a.isNone w:=by
 show(Op.equalIn (9999+1) t _ _).run P w=_;unfold Op.equalIn;simp only[Sem.run_bind,run_underlying b,Result.andThen_ok];cases a<;>rfl
theorem Xa(b:P.underlying t=some (.pointer e))(a:Option Addr)(w:World) :
 (Op.equal t (.pointer a) (.pointer none)).run P w=.ok a.isNone w:=by
 show(Op.equalIn (9999+1) t _ _).run P w=_;unfold Op.equalIn;simp only[Sem.run_bind,run_underlying b,Result.andThen_ok];cases a<;>rfl
theorem Vt{t:TypeId}(r:Az ι g x x')(q:Az ι g y s)(h:QT P op t A z x y=some v)(w:World) :
 ∃v',(do eqGuard op t A z x' s;binOp op t x' s:Sem Value).run P w=.ok v' w∧Az ι g v v':=by
 unfold QT at h;split at h
 ·cases r;cases q
  rename_i k a k' b;refine⟨v,?_⟩;simp only[Sem.run_bind,eqGuard_at_int,Sem.run_pure,Result.andThen_ok];split at h
  ·obtain⟨o,m⟩:=P9 (P:=P) (t:=t) (k':=k') (.inl rfl) h w
   exact⟨o,Az.plain m⟩
  ·obtain⟨o,m⟩:=P9 (P:=P) (t:=t) (k':=k') (.inr rfl) h w
   exact⟨o,Az.plain m⟩
  ·split at h
   ·rename_i e
    subst e;obtain⟨o,m⟩:=vK (P:=P) (t:=t) h w;exact⟨o,Az.plain m⟩
   grind
 ·rename_i a n B
  cases q;split at h
  ·rename_i e l
   have f:∃d j p,x'=.slice d j p∧d.isNone=a.isNone:=by cases r<;>exact⟨_,_,_,rfl,rfl⟩
   obtain⟨d,j,p,rfl,i⟩:=f;simp only[Sem.run_bind,eqGuard_at_slice,Sem.run_pure,Result.andThen_ok];have c:=Qx l d none j p 0 0 (.inr rfl) w;cases op<;>simp only[J9,reduceCtorEq,Option.some.injEq] at h<;>subst h
   ·refine⟨_,?_,.bool _⟩
    simp[binOp,c,i]
   ·refine⟨_,?_,.bool _⟩
    simp[binOp,c,i]
  grind
 ·rename_i a n B _
  cases r;split at h
  ·rename_i e l
   have f:∃d j p,s=.slice d j p∧d.isNone=a.isNone:=by cases q<;>exact⟨_,_,_,rfl,rfl⟩
   obtain⟨d,j,p,rfl,i⟩:=f;simp only[Sem.run_bind,eqGuard_at_slice,Sem.run_pure,Result.andThen_ok];have c:=Qx l none d 0 0 j p (.inl rfl) w;cases op<;>simp only[J9,reduceCtorEq,Option.some.injEq] at h<;>subst h
   ·refine⟨_,?_,.bool _⟩
    simp[binOp,c,i]
   ·refine⟨_,?_,.bool _⟩
    simp[binOp,c,i]
  grind
 ·rename_i a
  cases q;split at h
  ·rename_i k e l
   have f:∃d,x'=.map d∧d.isNone=a.isNone:=by cases r<;>exact⟨_,rfl,rfl⟩
   obtain⟨d,rfl,i⟩:=f;simp only[Sem.run_bind,eqGuard_at_map,Sem.run_pure,Result.andThen_ok];have c:=jS l d w;cases op<;>simp only[J9,reduceCtorEq,Option.some.injEq] at h<;>subst h
   ·refine⟨_,?_,.bool _⟩
    simp[binOp,c,i]
   ·refine⟨_,?_,.bool _⟩
    simp[binOp,c,i]
  grind
 ·rename_i a
  cases q;split at h
  ·rename_i e l
   have f:∃d,x'=.pointer d∧d.isNone=a.isNone:=by cases r<;>exact⟨_,rfl,rfl⟩
   obtain⟨d,rfl,i⟩:=f;simp only[Sem.run_bind,eqGuard_at_pointer,Sem.run_pure,Result.andThen_ok];have c:=Xa l d w;cases op<;>simp only[J9,reduceCtorEq,Option.some.injEq] at h<;>subst h
   ·refine⟨_,?_,.bool _⟩
    simp[binOp,c,i]
   ·refine⟨_,?_,.bool _⟩
    simp[binOp,c,i]
  grind
 ·split at h
  ·rename_i u
   simp only[Bool.and_eq_true] at u;rw[r.BL u.1,q.BL u.2];obtain⟨o,m⟩:=Gn h;exact⟨v,EG o w,Az.plain m⟩
  grind
theorem Dq{l:List Value}(h:l.all plainCell=true):l.all BQ=true:=by
 rw[aE] at h ⊢;intro u a;have:=h u a;cases u<;>first|rfl|assumption
theorem J7(h:z.all plainCell=true)(n:Nat):(AO z n).all plainCell=true:=by
 induction n with
 |zero=>rfl
 |succ n a=>simp only[AO,List.all_append,h,a,Bool.and_self]
theorem ZK(I:DR P G ι m w)(H:P.underlying t=some (.slice e))(g:P.info? e=some i)
 (F:Ci P e=some z) (K:0≤n) (O:n≤k) (N:k.toNat*(i.bytes+1)≤room) (J:k≤2^40) (y:z.length=i.size) (M:0<i.size) :
 ∃v' w',(Instr.makeSlice t (.int C n) (.int E k)).run P w=.ok v' w' ∧
  Post P G ι m w (AU m e (AO z n.toNat) n.toNat).1 (AU m e (AO z n.toNat) n.toNat).2 v' w':=by
 obtain⟨L,a,f,o,rfl,l⟩:=BM F;rw[g] at f;cases f;have p:IntKind.i64.wrap n=n:=wrap_small K (by omega);have q:IntKind.i64.wrap k=k:=wrap_small (by omega) J;have h:¬ ((i.bytes:Int)*k>2^48):=by
  have c:k.toNat*i.bytes≤k.toNat*(i.bytes+1):=ck _ (by omega);have R:(i.bytes:Int)*k=((k.toNat*i.bytes:Nat):Int):=by grind
  have Q:room=2^40:=rfl;omega
 have r:¬ (k<0):=by omega
 have d:¬ (n<0):=by omega
 have x:¬ (n>k):=by omega
 refine⟨.slice (some ⟨w.heap.size,0,none⟩) n.toNat k.toNat,{ w with heap:=w.heap.push (.cells (AO a.cells.toList k.toNat).toArray e (0,0)) },?_,?_⟩
 ·simp only[Instr.makeSlice,Sem.run_bind,run_underlying H,Result.andThen_ok,asInt,asIntOf,Sem.run_pure,run_typeInfo' g,p,q,r,d,x,h,decide_false,Bool.or_false,Bool.false_eq_true,if_false,or_false,
   run_askRoom,run_sizeOf' g]
  by_cases b:k.toNat*i.size=0
  ·have c:AO a.cells.toList k.toNat=[]:=aw.1 (by rw[Fa,y];omega)
   rw[if_pos b,b,c];simp[newRow,Array.range_zero']
  ·have c:=L6 a.cells.toList k.toNat (by omega)
   rw[y] at c;rw[if_neg b];simp only[Sem.run_bind,O7 g o,Result.andThen_ok,Sem.run_pure,newRow,run_newObj,← c]
 ·refine Hw I rfl rfl rfl rfl (fun j u=>?_) (by omega) (.inr ?_)
  ·rw[Fa] at u
   have s:j<k.toNat*a.cells.toList.length:=ag u (bk _ (by omega));have A:j%a.cells.toList.length<a.cells.toList.length:=be _ (by omega);have c:=U4 a.cells.toList k.toNat j s;have B:=U4 a.cells.toList n.toNat j u;rw[ai A] at c B;refine⟨a.cells.toList[j%a.cells.toList.length],by grind,?_⟩;rw[getD_eq,B];exact Az.plainCell (aE.1 l _ (cR A))
  ·rw[ED g,List.size_toArray,Fa,y];simp
theorem jD:∀{l:List Value} {bs:List UInt8},Ya l=some bs→l=bs.map fun c=>Value.int .u8 c.toNat
 |[],_,h=>by cases h;rfl
 |v::l,bs,h=>by
  unfold Ya at h;split at h
  ·grind
  ·rename_i n e a
   cases a;split at h
   ·rename_i f
    rw[ae] at h;obtain⟨d,b,rfl⟩:=h;rw[jD b,bv];have:(UInt8.ofNat n.toNat).toNat=n.toNat:=by simp_all
    grind
   grind
  grind
theorem wR{x x' v:Value}(K:DR P G ι m w)(R:Az ι m.gen x x')(h:Zn P s d x m=some (v,m')) :
 ∃v' w',(convert s d x').run P w=.ok v' w'∧Post P G ι m w v m' v' w':=by
 unfold Zn at h;split at h
 ·rename_i e b q p
  split at h
  ·rename_i i E Z
   split at h
   ·rename_i hb
    cases h;have ex:x'=.string b:=by cases R;rfl
    subst ex;refine⟨_,_,run_bytes_of_string w s d e b q p E,?_⟩;have y:=grownCap_ge w b.size 0 e;generalize grownCap w b.size 0 e=f at y ⊢;have J:(bytesRow b f).size=f:=by
     unfold bytesRow;simp_all
    obtain⟨F,z,Dk,Q⟩:=Py (x:=.cells (Lh b) e 0 false) (ib:=⟨w.heap.size,0,(bytesRow b f).size,P.cellsOf e⟩)
     (w':=w.drew.alloc (.cells (bytesRow b f) e ((bytesRow b f).size,(bytesRow b f).size+1))) (obj:=.cells (bytesRow b f) e ((bytesRow b f).size,(bytesRow b f).size+1)) K rfl rfl rfl rfl rfl
     ⟨fun _=>rfl,rfl,rfl,fun k C=>by
      refine⟨(Lh b).getD k undef,?_,?_⟩
      ·rw[getD_lt C,cG]
       have M:k<b.data.size:=by simpa[Lh] using C
       unfold bytesRow;rw[dc (by grind)];simp only[Lh,Array.getElem?_map,List.getElem_map,Array.getElem?_eq_getElem M,Option.map_some,Array.getElem_toList]
      ·rw[getD_lt C]
       have Y:(Lh b)[k]∈Lh b:=cR C;obtain⟨c,_,B⟩:=ba.1 Y;rw[← B];exact .int _ _,fun _ j V=>by omega⟩ rfl
    refine⟨F,z,Dk,.sl _ _ _ _ _ _ ⟨_,Q,ao _,y,fun _=>⟨rfl,rfl,.inr ⟨rfl,?_⟩⟩⟩⟩;simp only[ED Z,hb.1,J,Nat.zero_add,Nat.mul_one,Nat.le_refl]
   grind
  grind
 ·rename_i e a n g q p
  split at h
  ·rename_i E
   split at h
   ·rename_i l U
    split at h
    ·rename_i bs O
     cases h;have T:=Eb U;have S:=jD O;have hn:bs.length=n:=by grind
     have I:∃r f,x'=.slice r n f∧(r=none∧n=0∨∃A,r=some A∧∀j (V:j<bs.length),w.cell? (A.add j)=some (.int .u8 (bs[j].toNat:Int))):=by
      cases R with
      |Dy=>simp
      |slE b o s r=>grind
      |sl b H len gen r f X =>
       refine⟨some r,f,rfl,.inr ⟨r,rfl,fun j V=>?_⟩⟩;have u:0<n:=by omega
       have ha:=Kv X (fun _=>u) 0;rw[Addr.add_zero'] at ha;have L:m.Es ⟨b,H,some g⟩ n=some l:=by
        unfold BH at U;grind
       obtain⟨l',h1,h2,h3⟩:=KY K (by omega) L;have N:j<l.length:=by omega
       obtain⟨v',h4,W⟩:=h1.get (ai N);have e1:l[j]=.int .u8 (bs[j].toNat:Int):=by grind
       rw[e1] at W;have e2:v'=.int .u8 (bs[j].toNat:Int):=by cases W;rfl
       grind
     obtain⟨r,f,rfl,B⟩:=I;refine⟨.string ⟨bs.toArray⟩,w,?_,Post.same K (.str _)⟩;rcases B with⟨rfl,h0⟩|⟨A,rfl,B⟩
     ·have:bs=[]:=aw.1 (by omega)
      subst this;rw[run_convert_bytes_string w s d e none n f q E p];rfl
     ·have:=run_convert_bytes_back (P:=P) w s d e A f bs q E p B
      grind
    grind
   grind
  grind
 grind
def b3f(n:Next)(v:Value):Prop:=n=.value v∨(n=.skip∧v=undef)
theorem WT(c:DR P G ι m w)(d:BF ι m.gen l cs.toList) :
 Post P G ι m w (.pointer (some ⟨m.size,0,none⟩)) (m.alloc (.cells l e 0 false)) (.pointer (some ⟨w.heap.size,0,none⟩)) { w with heap:=w.heap.push (.cells cs e (0,0)) }:=by
 obtain⟨b,a,h,g⟩:=Py (x:=.cells l e 0 false) (ib:=⟨w.heap.size,0,cs.size,P.cellsOf e⟩) (w':={ w with heap:=w.heap.push (.cells cs e (0,0)) }) (obj:=.cells cs e (0,0)) c rfl rfl rfl rfl rfl
  ⟨fun _=>rfl,rfl,rfl,fun i f=>by
   obtain⟨k,o,n⟩:=d.get (ai f);grind,fun _ j _=>by simp⟩ rfl
 exact⟨b,a,h,.ptr _ _ ⟨_,g,ao _,fun _=>rfl⟩⟩
theorem ZM.map{o:Option Operand}(h:∀x,o=some x→Az ι g (ρ x) (ρ' x)):ZM ι g (o.map ρ) (o.map ρ'):=by
 cases o with
 |none=>exact .inl ⟨rfl,rfl⟩
 |some x=>exact .inr ⟨_,_,rfl,rfl,h x rfl⟩
theorem QB.map{Bo:Array Operand}(h:∀x∈Bo,Az ι g (ρ x) (ρ' x)):QB ι g (Bo.map ρ) (Bo.map ρ'):=fun i v a=>by
 grind
theorem lA:∀{l:List Operand},(∀x∈l,Az ι g (ρ x) (ρ' x))→BF ι g (l.map ρ) (l.map ρ')
 |[],_=>BF.nil
 |x::l,h=>BF.cons (h x (by simp)) (lA fun y a=>h y (by grind))
theorem LU{Bo:Array Operand}(h:∀x∈Bo,Az ι g (ρ x) (ρ' x))(b:(Bo.map ρ).toList.all plain=true):Bo.map ρ'=Bo.map ρ:=by
 apply Array.map_congr_left;intro x a;refine(h x a).BL ?_;grind
end
section
variable {P:Program}{G:List Nat}
theorem H9(h:s.run P w=.ok v w'):(do pure (.value (← s)):Sem Next).run P w=.ok (.value v) w' :=by simp_all
theorem Ef{guard:Option (Nat×Bool)} :
 (execOp ρ { dst:=dst,op:=.call { callee:=.builtin b,args:=args,argTypes:=a },type:=ty,pos:=pos,after:=after,guard:=guard }).run P w =
  (builtin b a ty (args.map fun| .const _=>true|_=>false) (args.map ρ)).run P w:=by
 rfl
theorem DR.junk(d:DR P G ι m w)(x:Obj):DR P G ι m { w with heap:=w.heap.push x }:=by
 have e:∀b a,ι b=some a→(w.heap.push x)[a.blk]?=w.heap[a.blk]?:=fun b a c=>by
  have:=(d.dom b a c).2;grind
 refine⟨fun b a c=>⟨(d.dom b a c).1,?_⟩,fun b a c=>?_,d.inj,d.glob⟩
 ·have:=(d.dom b a c).2
  grind
 ·rw[e b a c]
  exact d.blk b a c
theorem Ext.junk(ι:BJ)(m:Mem)(w:World)(x:Obj):Ext ι m w ι m { w with heap:=w.heap.push x } :=
 ⟨ab _,ab _,fun _ _ _=>rfl,fun _ _ _=>rfl,fun _ _=>rfl,Le.refl _ _,fun _ a h=>.inl ⟨a,h,rfl⟩,fun _ a h=>.inl ⟨a,h⟩,
  by simp,fun c b _=>by grind,rfl,rfl,rfl⟩
theorem jE{ι:BJ}{g:Nat→Nat}{ρ ρ':Operand→Value}{guard:Option (Nat×Bool)}
 (n:P.underlying t=some (.slice e)) (k:P.info? e=some i) (m:Ci P e=some z) (B:z.length=i.size) (A:0<i.size) (c:∀x∈(Op.buildSlice t 0 ps).operands,Az ι g (ρ x) (ρ' x))
 (h:Instr.fill (fun j=>some (j*i.size,i.size)) (AO z 0).toArray (ps.map fun(i,x)=>(i,ρ x)).toList=some cs) :
 ∃x,∀w,(execOp ρ' ⟨dst,.buildSlice t 0 ps,ty,pos,after,guard⟩).run P w=.ok (.value (.slice (some ⟨w.heap.size,0,none⟩) 0 0)) { w with heap:=w.heap.push x }:=by
 obtain⟨s,r,a,l,rfl,d⟩:=BM m;rw[k] at a;cases a;have o:WS ι g (ps.map fun(i,x)=>(i,ρ x)).toList (ps.map fun(i,x)=>(i,ρ' x)).toList:=by
  rw[bL,bL];exact WS.map fun x u=>c x (by simp only[Op.operands];grind)
 obtain⟨b,p,y⟩:=Sv (ι:=ι) (g:=g) _ o (BF.plain (J7 d 0)) h;refine⟨.cells b e (0,0),fun w=>?_⟩;simp only[execOp,Instr.buildSlice,Sem.run_bind,run_underlying n,Result.andThen_ok,run_sizeOf' k,Sem.run_pure];rw[if_neg (by omega)];rw[if_pos (ed _)];have q:(Array.map (fun x=>(#[]:Array Value)[x%(#[]:Array Value).size]!) (Array.range (0*i.size)))=#[]:=by
  simp
 have f:Instr.fill (fun j=>some (j*i.size,i.size)) #[] (ps.map fun(i,x)=>(i,ρ' x)).toList=some b:=p;simp only[Sem.run_bind,Sem.run_pure,Result.andThen_ok,q,f,newRow,run_newObj]
theorem zl{ι:BJ}{g:Nat→Nat}{ρ ρ':Operand→Value}{guard:Option (Nat×Bool)}
 (H:P.underlying t=some (.slice e)) (f:P.info? e=some i) (F:Ci P e=some z) (V:len*i.size≤2^24) (M:z.length=i.size) (U:0<i.size) (n:∀x∈(Op.buildSlice t len ps).operands,Az ι g (ρ x) (ρ' x))
 (s:Instr.fill (fun j=>some (j*i.size,i.size)) (AO z len).toArray (ps.map fun(i,x)=>(i,ρ x)).toList=some cs) :
 ∃cs':Array Value,(∀j,j<cs.toList.length→∃v',cs'[j]?=some v'∧Az ι g (cs.toList.getD j undef) v')∧len*P.cellsOf e≤cs'.size ∧
  ∀w,(execOp ρ' ⟨dst,.buildSlice t len ps,ty,pos,after,guard⟩).run P w=.ok (.value (.slice (some ⟨w.heap.size,0,none⟩) len len)) { w with heap:=w.heap.push (.cells cs' e (0,0)) }:=by
 obtain⟨N,a,d,r,rfl,o⟩:=BM F;rw[f] at d;cases d;have K:WS ι g (ps.map fun(i,x)=>(i,ρ x)).toList (ps.map fun(i,x)=>(i,ρ' x)).toList:=by
  rw[bL,bL];exact WS.map fun x O=>n x (by simp only[Op.operands];grind)
 have B:=Fa a.cells.toList len;obtain⟨cs',C,J⟩:=Sv (ι:=ι) (g:=g) _ K (BF.plain (J7 o len)) s;refine⟨cs',fun j L=>?_,?_,fun w=>?_⟩
 ·obtain⟨v',R,Q⟩:=J.get (ai L)
  grind
 ·rw[ED f]
  have I:cs'.size=len*i.size:=by
   have S:∀(ps:List (Nat×Value)) (c m:Array Value),Instr.fill (fun j=>some (j*i.size,i.size)) c ps=some m→m.size=c.size:=fun ps=>by
    induction ps with
    |nil=>intro c m h;simp only[Instr.fill,Option.some.injEq] at h;rw[h]
    |cons p ps A =>
     intro c m h;obtain⟨j,u⟩:=p;simp only[Instr.fill] at h;split at h
     ·cases h
     ·have:=A _ _ h
      rw[this];have T:∀(l:List (Value×Nat)) (c:Array Value),(l.foldl (fun cs (c,k)=>cs.setIfInBounds (j*i.size+k) c) c).size=c.size:=fun l=>by
       induction l with
       |nil=>simp
       |cons q l A=>simp_all
      rw[← cI];grind
   grind
  omega
 ·simp only[execOp,Instr.buildSlice,Sem.run_bind,run_underlying H,Result.andThen_ok,run_sizeOf' f,Sem.run_pure]
  rw[if_neg (by omega)];by_cases b:len*i.size=0
  ·rw[if_pos b]
   have y:(Array.map (fun x=>(#[]:Array Value)[x%(#[]:Array Value).size]!) (Array.range (len*i.size)))=(AO a.cells.toList len).toArray:=by
    grind
   simp only[Sem.run_bind,Sem.run_pure,Result.andThen_ok,y,C,newRow,run_newObj]
  ·have E:=L6 a.cells.toList len (by omega)
   rw[M] at E;rw[if_neg b];have y:(Array.map (fun x=>a.cells[x%a.cells.size]!) (Array.range (len*i.size)))=(AO a.cells.toList len).toArray:=E;simp only[Sem.run_bind,O7 f r,Result.andThen_ok,Sem.run_pure,y,C,newRow,run_newObj]
theorem a9m{ι:BJ}{w:World}{ρ ρ':Operand→Value}{o:Oper}(F:DR P G ι m w)(j:∀x∈o.op.operands,Az ι m.gen (ρ x) (ρ' x))
 (h:F5 P ρ o m=some (v,m')):∃n v' w',(execOp ρ' o).run P w=.ok n w'∧b3f n v'∧Post P G ι m w v m' v' w':=by
 obtain⟨dst,op,ty,pos,after,guard⟩:=o;simp only at j;have same:∀{s:Sem Value} {u v':Value},execOp ρ' ⟨dst,op,ty,pos,after,guard⟩=(do pure (.value (← s)):Sem Next)→s.run P w=.ok v' w→Az ι m.gen u v'→(u,m)=(v,m') →
  ∃n v' w',(execOp ρ' ⟨dst,op,ty,pos,after,guard⟩).run P w=.ok n w'∧b3f n v'∧Post P G ι m w v m' v' w':=fun{s u v'} q p J hm=>by
  cases hm;exact⟨.value v',v',w,by rw[q];exact H9 p,.inl rfl,Post.same F J⟩
 cases op<;>simp only[F5,reduceCtorEq] at h
 case move x =>
  cases h;exact⟨.value (ρ' x),ρ' x,w,rfl,.inl rfl,Post.same F (j x (by simp[Op.operands]))⟩
 case assign x =>
  cases h;exact⟨.value (ρ' x),ρ' x,w,rfl,.inl rfl,Post.same F (j x (by simp[Op.operands]))⟩
 case pick c a b =>
  have hc:=j c (by simp[Op.operands]);split at h
  ·rename_i t hcc
   cases h;rw[hcc] at hc;have e:ρ' c=.bool t:=by generalize ρ' c=u at hc;cases hc;rfl
   refine⟨.value (if t then ρ' a else ρ' b),(if t then ρ' a else ρ' b),w,?_,.inl rfl,Post.same F ?_⟩
   ·simp only[execOp,e,asBool,Sem.run_bind,Sem.run_pure,Result.andThen_ok]
   ·cases t
    ·exact j b (by simp[Op.operands])
    ·exact j a (by simp[Op.operands])
  ·cases h
 case binOp op t x y yt =>
  rw[ae] at h;obtain⟨u,A,q⟩:=h;obtain⟨v',p,J⟩:=Vt (j x (by simp[Op.operands])) (j y (by simp[Op.operands])) A w;exact same rfl p J q
 case alloc e =>
  rw[ae] at h;obtain⟨z,hz,q⟩:=h;cases q;obtain⟨i,zv,N,hz1,rfl,hz3⟩:=BM hz;refine⟨_,_,_,?_,.inl rfl,WT (e:=e) (cs:=zv.cells) F (BF.plain hz3)⟩;simp[execOp,Instr.alloc,O7 N hz1,newVar,newRow]
 case box e x =>
  split at h
  ·cases h
   refine⟨_,_,_,?_,.inl rfl,WT (e:=e) (cs:=(ρ' x).cells) F (j x (by simp[Op.operands])).cells⟩;simp[execOp,Instr.box,newVar,newRow]
  ·cases h
 case build t ps =>
  split at h
  ·rename_i z hz
   rw[ae] at h;obtain⟨u,A,q⟩:=h;have L:WS ι m.gen (ps.map fun(i,x)=>(i,ρ x)).toList (ps.map fun(i,x)=>(i,ρ' x)).toList:=by
    rw[bL,bL];exact WS.map fun x E=>j x (by simp only[Op.operands];simpa using E)
   obtain⟨v',p,J⟩:=Zh L (fun z' V=>by
    obtain⟨i,zv,N,hz1,rfl,hz3⟩:=BM hz;unfold zeroOf at V;rw[N] at V;simp only[Option.bind_some] at V;rw[hz1] at V;cases V;exact hz3) A
   exact same rfl (EG p w) J q
  ·cases h
 case buildSlice t len ps =>
  split at h
  ·rename_i e A
   split at h
   ·rename_i i z N hz
    split at h
    ·rename_i hc
     obtain⟨c1,c2,c3⟩:=hc;split at h
     ·rename_i cs hcs
      split at h
      ·split at h
       ·rename_i hl0
        subst hl0;cases h;obtain⟨x,W⟩:=jE (ρ':=ρ') (dst:=dst) (ty:=ty) (pos:=pos) (after:=after) (guard:=guard) (ι:=ι) (g:=m.gen) A N hz c2 c3 (fun x E=>j x E) hcs;exact⟨_,_,_,W w,.inl rfl,ι,Ext.junk _ _ _ x,F.junk x,.slE 0 0 0 _⟩
       cases h;obtain⟨cs',hl,hcap,W⟩:=zl (ρ':=ρ') (dst:=dst) (ty:=ty) (pos:=pos) (after:=after) (guard:=guard) (ι:=ι) (g:=m.gen) A N hz c1 c2 c3 (fun x E=>j x E) hcs;exact⟨_,_,_,W w,.inl rfl,Hw (cap:=len) (cs:=cs') F rfl rfl rfl rfl hl (ab _) (.inr hcap)⟩
      ·cases h
     ·cases h
    ·cases h
   ·cases h
  ·cases h
 case load t a =>
  have ha:=j a (by simp[Op.operands]);split at h
  ·rename_i ad R
   rw[ae] at h;obtain⟨u,A,q⟩:=h;rw[R] at ha;have K:∃H,ρ' a=.pointer (some H)∧QL ι m.gen ad H:=by generalize ρ' a=u at ha;cases ha;exact⟨_,rfl,by assumption⟩
   obtain⟨H,S,C⟩:=K;obtain⟨v',p,J⟩:=Q5 F C A;exact same (s:=Instr.loadAt t (ρ' a)) rfl (by simp only[Instr.loadAt,S,Instr.sureAddr,Sem.run_bind,Sem.run_pure,Result.andThen_ok];exact p) J q
  ·cases h
 case store t a x =>
  have ha:=j a (by simp[Op.operands]);split at h
  ·rename_i ad R
   rw[ae] at h;obtain⟨m1,O,q⟩:=h;cases q;rw[R] at ha;have K:∃H,ρ' a=.pointer (some H)∧QL ι m.gen ad H:=by generalize ρ' a=u at ha;cases ha;exact⟨_,rfl,by assumption⟩
   obtain⟨H,S,C⟩:=K;obtain⟨w',I,p,B,Z⟩:=oV F C (j x (by simp[Op.operands])) O;refine⟨.skip,undef,w',?_,.inr ⟨rfl,rfl⟩,I,B,Z,Az.undef⟩;simp only[execOp,Instr.storeAt,S,Instr.sureAddr,Sem.run_bind,Sem.run_pure,Result.andThen_ok,p]
  ·cases h
 case nilCheck x =>
  have E:=j x (by simp[Op.operands]);split at h
  ·rename_i ad R
   rw[R] at E;have K:∃H,ρ' x=.pointer (some H)∧QL ι m.gen ad H:=by generalize ρ' x=u at E;cases E;exact⟨_,rfl,by assumption⟩
   obtain⟨H,S,C⟩:=K;cases h;exact⟨.value (.pointer (some H)),_,w,by simp only[execOp,S];rfl,.inl rfl,Post.same F (.ptr _ _ C)⟩
  ·cases h
 case unOp op t x =>
  split at h
  ·rename_i L
   rw[ae] at h;obtain⟨u,A,q⟩:=h;have E:=(j x (by simp[Op.operands])).BL L;obtain⟨U,T⟩:=Gn A;exact same (s:=Op.unary op (ρ' x)) rfl (by rw[E];exact EG U w) (Az.plain T) q
  ·cases h
 case convert s d x =>
  split at h
  ·obtain⟨v',w',U,T⟩:=wR F (j x (by simp[Op.operands])) h
   exact⟨.value v',v',w',H9 U,.inl rfl,T⟩
  split at h
  ·rename_i L
   rw[ae] at h;obtain⟨u,A,q⟩:=h;have E:=(j x (by simp[Op.operands])).BL L;obtain⟨U,T⟩:=Gn A;exact same (s:=Go.convert s d (ρ' x)) rfl (by rw[E];exact EG U w) (Az.plain T) q
  ·cases h
 case makeFunc fn fs cs =>
  cases fn<;>simp only[reduceCtorEq] at h
  rename_i f;cases h;have U:=lA (ι:=ι) (g:=m.gen) (l:=fs.toList) (fun x E=>j x (by simp[Op.operands];exact .inl (by simpa using E)));have T:=lA (ι:=ι) (g:=m.gen) (l:=cs.toList) (fun x E=>j x (by simp[Op.operands];exact .inr (by simpa using E)));refine⟨.value (.func (.func f) (fs.map ρ') (cs.map ρ')),_,w,rfl,.inl rfl,Post.same F ?_⟩;have e:∀(r:Operand→Value) (a:Array Operand),a.map r=⟨a.toList.map r⟩:=fun r a=>by apply gH;simp
  rw[e ρ fs,e ρ cs,e ρ' fs,e ρ' cs];exact .fn f _ _ _ _ U.1 U.2 T.1 T.2
 case makeMap t r =>
  cases r<;>simp only[reduceCtorEq] at h
  cases h;obtain⟨I,B,Z,hb⟩:=Py (x:=.map [] 0) (ib:=⟨w.heap.size,0,0,0⟩) (w':={ w with heap:=w.heap.push (.map #[] 0) }) (obj:=.map #[] 0) F rfl rfl rfl rfl rfl ⟨rfl,trivial⟩ rfl;exact⟨.value (.map (some w.heap.size)),_,_,by simp[execOp,Instr.makeMap],.inl rfl,I,B,Z,.map _ _ _ hb fun _=>rfl⟩
 case makeSlice t l c =>
  have hl:=j l (by simp[Op.operands]);have hc:=j c (by simp[Op.operands]);split at h
  ·rename_i e kn n kk k A hln hck
   rw[hln] at hl;rw[hck] at hc;have S:ρ' l=.int kn n:=by generalize ρ' l=u at hl;cases hl;rfl
   have e2:ρ' c=.int kk k:=by generalize ρ' c=u at hc;cases hc;rfl
   split at h
   ·rename_i i z N hz
    split at h
    ·rename_i hcond
     obtain⟨c1,c2,c3,c4,c5,c6⟩:=hcond;cases h;obtain⟨v',w',p,L⟩:=ZK F A N hz c1 c2 c3 c4 c5 c6;exact⟨.value v',v',w',by simp only[execOp,S,e2];exact H9 p,.inl rfl,L⟩
    ·cases h
   ·cases h
  ·cases h
 case slice t x lo N mx =>
  rw[ae] at h;obtain⟨u,A,q⟩:=h;obtain⟨v',p,J⟩:=Y5 F (j x (by simp[Op.operands])) (ZM.map (o:=lo) fun y hy=>j y (by subst hy;simp[Op.operands])) (ZM.map (o:=N) fun y hy=>j y (by subst hy;simp[Op.operands]))
   (ZM.map (o:=mx) fun y hy=>j y (by subst hy;simp[Op.operands])) A
  exact same rfl p J q
 case fieldAddr s x f =>
  have E:=j x (by simp[Op.operands]);split at h
  ·rename_i fs ad A R
   rw[R] at E;have K:∃H,ρ' x=.pointer (some H)∧QL ι m.gen ad H:=by generalize ρ' x=u at E;cases E;exact⟨_,rfl,by assumption⟩
   obtain⟨H,S,C⟩:=K;split at h
   ·rename_i fd hfd
    split at h
    ·rename_i i N
     split at h
     ·cases h
     ·rename_i hsz
      refine same (s:=Instr.fieldAt s (ρ' x) f) (v':=.pointer (some (H.add fd.offset))) rfl ?_ (.ptr _ _ ?_) (cr h)
      ·simp only[Instr.fieldAt,S,Instr.sureAddr,Sem.run_bind,run_underlying A,Sem.run_pure,Result.andThen_ok,hfd,fieldPlace,run_sizeOf' N,if_neg hsz]
      ·obtain⟨ib,hb,hle,X⟩:=C
       refine⟨ib,hb,hle,fun e=>?_⟩;rw[X e,addr_add];simp only[Addr.mk.injEq,true_and,and_true];omega
    ·cases h
   ·cases h
  ·cases h
 case field t x f =>
  rw[ae] at h;obtain⟨u,A,q⟩:=h;obtain⟨v',p,J⟩:=YK (j x (by simp[Op.operands])) A;exact same rfl (EG p w) J q
 case indexAddr t x ix =>
  have E:=j x (by simp[Op.operands]);have M:=j ix (by simp[Op.operands]);split at h
  ·rename_i e b off len g k i A hxx a2r
   rw[hxx] at E;rw[a2r] at M;have e2:ρ' ix=.int k i:=by generalize ρ' ix=u at M;cases M;rfl
   split at h
   ·rename_i inf N
    split at h
    ·rename_i hb
     have K:∃H Y,ρ' x=.slice (some H) len Y∧c3e ι m.gen b off len g H Y:=by generalize ρ' x=u at E;cases E;exact⟨_,_,rfl,by assumption⟩
     obtain⟨H,Y,S,hsr⟩:=K;refine same (s:=Instr.indexAt t (ρ' x) (ρ' ix)) (v':=.pointer (some (H.add (i.toNat*inf.size)))) rfl ?_ (.ptr _ _ (Kv hsr (fun _=>by omega) _)) (cr h);simp only[Instr.indexAt,S,e2,asIntOf,Sem.run_bind,run_underlying A,Sem.run_pure,Result.andThen_ok,run_sizeOf' N,if_pos hb]
    ·cases h
   ·cases h
  ·rename_i n e ad k i A hxx a2r
   rw[hxx] at E;rw[a2r] at M;have e2:ρ' ix=.int k i:=by generalize ρ' ix=u at M;cases M;rfl
   have K:∃H,ρ' x=.pointer (some H)∧QL ι m.gen ad H:=by generalize ρ' x=u at E;cases E;exact⟨_,rfl,by assumption⟩
   obtain⟨H,S,C⟩:=K;split at h
   ·rename_i inf N
    split at h
    ·rename_i hb
     refine same (s:=Instr.indexAt t (ρ' x) (ρ' ix)) (v':=.pointer (some (H.add (i.toNat*inf.size)))) rfl ?_ (.ptr _ _ ?_) (cr h)
     ·simp only[Instr.indexAt,S,e2,asIntOf,Instr.sureAddr,Sem.run_bind,run_underlying A,Sem.run_pure,Result.andThen_ok,run_sizeOf' N,if_pos hb]
     ·obtain⟨ib,hbb,hle,X⟩:=C
      refine⟨ib,hbb,hle,fun e=>?_⟩;rw[X e,addr_add];simp only[Addr.mk.injEq,true_and,and_true];omega
    ·cases h
   ·cases h
  ·cases h
 case index t x ix =>
  split at h
  ·rename_i L
   rw[ae] at h;obtain⟨u,A,q⟩:=h;have M:=(j ix (by simp[Op.operands])).BL L;obtain⟨v',p,J⟩:=ZC (j x (by simp[Op.operands])) A;exact same (s:=Instr.index t (ρ' x) (ρ' ix)) rfl (by rw[M];exact EG p w) J q
  ·cases h
 case lookup t x k ok =>
  rw[ae] at h;obtain⟨u,A,q⟩:=h;obtain⟨v',p,J⟩:=pU F (j x (by simp[Op.operands])) (j k (by simp[Op.operands])) A;exact same rfl p J q
 case mapUpdate t x k u =>
  rw[ae] at h;obtain⟨m1,O,q⟩:=h;cases q;obtain⟨w',I,p,B,Z⟩:=Xh F (j x (by simp[Op.operands])) (j k (by simp[Op.operands])) (j u (by simp[Op.operands])) O;exact⟨.skip,undef,w',by simp only[execOp,Sem.run_bind,p,Result.andThen_ok,Sem.run_pure],.inr ⟨rfl,rfl⟩,I,B,Z,Az.undef⟩
 case mapEntry t x k =>
  obtain⟨v',w',I,p,B,Z,J⟩:=vW F (j x (by simp[Op.operands])) (j k (by simp[Op.operands])) h;exact⟨.value v',v',w',H9 p,.inl rfl,I,B,Z,J⟩
 case entryStore t x k u =>
  rw[ae] at h;obtain⟨m1,O,q⟩:=h;cases q;obtain⟨w',I,p,B,Z⟩:=XG (t:=t) F (j x (by simp[Op.operands])) (j k (by simp[Op.operands])) (j u (by simp[Op.operands])) O;exact⟨.skip,undef,w',by simp only[execOp,Sem.run_bind,p,Result.andThen_ok,Sem.run_pure],.inr ⟨rfl,rfl⟩,I,B,Z,Az.undef⟩
 case insert t x k u =>
  rw[ae] at h;obtain⟨m1,O,q⟩:=h;cases q;obtain⟨w',I,p,B,Z⟩:=Xh F (j x (by simp[Op.operands])) (j k (by simp[Op.operands])) (j u (by simp[Op.operands])) O;exact⟨.skip,undef,w',by simp only[execOp,Sem.run_bind,p,Result.andThen_ok,Sem.run_pure],.inr ⟨rfl,rfl⟩,I,B,Z,Az.undef⟩
 case extract t i =>
  rw[ae] at h;obtain⟨u,A,q⟩:=h;obtain⟨v',p,J⟩:=UF (j t (by simp[Op.operands])) A;exact same rfl (EG p w) J q
 case call c =>
  obtain⟨callee,args,aT⟩:=c;cases callee<;>simp only[reduceCtorEq] at h
  rename_i b;have Q:∀x∈args,Az ι m.gen (ρ x) (ρ' x):=fun x E=>j x (by simp[Op.operands,Call.operands,E])
  have C:=QB.map Q;cases b<;>simp only[reduceCtorEq] at h
  case append =>
   obtain⟨v',w',p,L⟩:=oZ ty F C h;exact⟨.value v',v',w',by rw[Ef];exact H9 p,.inl rfl,L⟩
  case cap =>
   rw[ae] at h;obtain⟨u,A,q⟩:=h;cases q;obtain⟨p,J⟩:=b0n (w:=w) ty C A;exact⟨.value _,_,w,by rw[Ef];exact H9 p,.inl rfl,Post.same F J⟩
  case copy =>
   obtain⟨v',w',p,L⟩:=a2s ty F C h;exact⟨.value v',v',w',by rw[Ef];exact H9 p,.inl rfl,L⟩
  case clear =>
   obtain⟨v',w',p,L⟩:=vJ ty F C h;exact⟨.value v',v',w',by rw[Ef];exact H9 p,.inl rfl,L⟩
  case len =>
   rw[ae] at h;obtain⟨u,A,q⟩:=h;cases q;obtain⟨p,J⟩:=b1a ty F C A;exact⟨.value _,_,w,by rw[Ef];exact H9 p,.inl rfl,Post.same F J⟩
  case max =>
   split at h
   ·rename_i L
    rw[ae] at h;obtain⟨u,A,q⟩:=h;cases q;obtain⟨U,T⟩:=Gn A;exact⟨.value _,_,w,by rw[Ef,LU Q L];exact H9 (EG U w),.inl rfl,Post.same F (Az.plain T)⟩
   ·cases h
  case min =>
   split at h
   ·rename_i L
    rw[ae] at h;obtain⟨u,A,q⟩:=h;cases q;obtain⟨U,T⟩:=Gn A;exact⟨.value _,_,w,by rw[Ef,LU Q L];exact H9 (EG U w),.inl rfl,Post.same F (Az.plain T)⟩
   ·cases h
end
section
open Go Go.RowKit
variable {P:Program}
abbrev WF(rf:Option Nat):Fence:={ Fence.wide with round:=rf }
theorem a3a(h:Calls P f Bo w R):CallsIn (WF rf) nn P f Bo w R:=(callsIn_wide (n:=nn)).2 h
theorem b0x{c:Code}(h:c.wpIn Fence.wide 0 P Q a w):c.wpIn (WF none) nn P Q a w:=(wpIn_wide (n:=nn)).2 ((wpIn_wide (n:=0)).1 h)
def ZX(J:Nat→World→Prop):Prop:=∀i W W',J i W→Below W.heap.size W W'→J i W'
structure Ny(W W':World):Prop where
 size:W.heap.size≤W'.heap.size
 loop:∀(k:Nat) (o:Loop),W.heap[k]?=some (.loop o)→W'.heap[k]?=some (.loop o)
 defs:∀(k:Nat) (o:Option (List Deferred)),W.heap[k]?=some (.deferred o)→W'.heap[k]?=some (.deferred o)
def Y9(P:Program)(gf:Nat)(lb:Array Value)(rows:List (List Value))(Inv:World→Prop)(w:World):Prop :=
 ∀(l:Nat) (J Jx:Nat→World→Prop) (W:World),Below w.heap.size w W→ZX J→ZX Jx →
  (∀i W1 (hi:i<rows.length),J i W1→YieldAt Fence.wide 0 P l (rows[i].toArray) W1 fun e W' =>
   (e=.returned (.bool true)∧J (i+1) W'∧Inv W')∨(e=.returned (.bool false)∧Jx (i+1) W')) →
  Inv W→J 0 W →
  CallsIn Fence.wide 0 P gf (#[.func (.yield l) #[] #[]]++lb) W fun e W'=>(∃v,e=.returned v)∧(J rows.length W'∨∃i,Jx i W')
def roundPost(I:Nat→World→Prop)(Ix:Code→Nat→World→Prop)(i:Nat)(W:World):Exit→Act→World→Prop
 | .normal,_,W'=>Ny W W'∧I i W'
 | .ret,_,W'=>Ny W W'∧Ix .ret i W'
 | .exit id,_,W'=>Ny W W'∧Ix (.exit id) i W'
 |_,_,_=>False
theorem Va
 {gf:Nat}  (hg:a.eval g=.func (.func gf) #[] lb) (eg:∀args w,(callFunc gf args).run P w=.ok (.enter gf args) w)
  {Inv:World→Prop} (hseq:Y9 P gf lb rows Inv w)
 (I:Nat→World→Prop) (Ix:Code→Nat→World→Prop) (hI:ZX I) (hIp:∀i W l o x,I i W→w.heap.size≤l→W.heap[l]?=some (.loop o)→I i (W.putObj l (.loop x))) (hIx:∀c,ZX (Ix c)) (c6h:∀c i W l o x,Ix c i W→w.heap.size≤l→W.heap[l]?=some (.loop o)→Ix c i (W.putObj l (.loop x))) (hInv:∀i W,I i W→Inv W) (hps:∀i W (hi:i<rows.length),I i W→(rows[i]).length=ps.size) (h0:I 0 w)
 (jh:∀(l i:Nat) (W:World) (hi:i<rows.length) (K:Act→World→Prop),I i W→w.heap.size≤l→W.heap.size>l→(∃o,W.heap[l]?=some (.loop o)) →
  (∀a1 W1,Ny W W1→(∀o,body.wpIn (Fence.wide.inRound l) 0 P (roundPost I Ix (i+1) (W1.putObj l (.loop o))) a1 (W1.putObj l (.loop o)))→K a1 W1) →
  Nq.wpIn (Fence.wide.inRound l) 0 P (Exit.then K (fun _ _ _=>False)) { tmps:=(ps.zip (rows[i].toArray)).foldl (fun t (p,v)=>t.setIfInBounds p v) a.tmps,defers:=[] } W)
 (hdone:∀(D:Nat) (W:World),w.heap.size≤D→I rows.length W→W.heap[D]?=some (.deferred (some []))→Q .normal { a with defers:={ target:=.collected D,args:=#[] }::a.defers } W)
 (hstop:∀(D:Nat) (c:Code) (i:Nat) (W:World),w.heap.size≤D→Ix c i W→W.heap[D]?=some (.deferred (some []))→c.wpIn Fence.wide 0 P Q { a with defers:={ target:=.collected D,args:=#[] }::a.defers } W) :
 (Code.rangeFunc g ps Nq body).wpIn Fence.wide 0 P Q a w:=by
 refine wpIn_rangeFunc ?_;intro fn hfn;obtain⟨rec,hrec⟩:∃rec:LoopState→Option Code→Loop,rec=fun st pe=>{ state:=st,pending:=pe,fn,tmps:=a.tmps,params:=ps,assign:=Nq,body,defers:=w.heap.size }:=⟨_,rfl⟩
 obtain⟨W1,hW1⟩:∃W1,(w.alloc (.deferred (some []))).alloc (.loop (rec .ready none))=W1:=⟨_,rfl⟩
 have hL1:W1.heap[w.heap.size+1]?=some (.loop (rec .ready none)):=by
  rw[← hW1];have:=World.alloc_heap_new (w.alloc (.deferred (some []))) (.loop (rec .ready none));simp_all
 have hK1:W1.heap[w.heap.size]?=some (.deferred (some [])):=by
  rw[← hW1];exact(Below.heap_alloc _ _ _ (by simp)).trans (World.alloc_heap_new w _)
 have hI1:I 0 W1:=hI 0 w W1 h0 (by rw[← hW1];exact((Below.refl _ w).alloc (ab _) _).alloc (by simp) _);have hb1:Below w.heap.size w W1:=by
  rw[← hW1];exact((Below.refl _ w).alloc (ab _) _).alloc (by simp) _
 refine⟨w.heap.size+1,[{ target:=.collected w.heap.size,args:=#[] }],W1,{ target:=.fn (.func gf) lb,args:=#[.func (.yield (w.heap.size+1)) #[] #[]] },W1,gf,
  #[.func (.yield (w.heap.size+1)) #[] #[]]++lb,W1,?_,?_,?_,?_,(fun hh=>by cases hh),?_⟩
 ·rw[← hW1,hrec];exact run_enterLoop_outer _ _ _ _ _
 ·simp only[resolve,hg]
  simp[go_sem]
 ·intro f' hf';exact trivial
 ·simp[invoke,go_sem,eg]
 ·refine(hseq (w.heap.size+1)
   (fun i W=>I i W∧W.heap[w.heap.size+1]?=some (.loop (rec .ready none))∧W.heap[w.heap.size]?=some (.deferred (some [])))
   (fun i W=>∃c,Ix c i W∧W.heap[w.heap.size+1]?=some (.loop (rec .done (some c)))∧W.heap[w.heap.size]?=some (.deferred (some [])))
   W1 hb1
   (fun s A B hs hb=>⟨hI s A B hs.1 hb,(hb.block _ (al.1 hs.2.1).1).trans hs.2.1,(hb.block _ (al.1 hs.2.2).1).trans hs.2.2⟩)
   (fun s A B hs hb=>by
    obtain⟨c,hc,hl,hk⟩:=hs;exact⟨c,hIx c s A B hc hb,(hb.block _ (al.1 hl).1).trans hl,(hb.block _ (al.1 hk).1).trans hk⟩)
   ?_ (hInv _ _ hI1) ⟨hI1,hL1,hK1⟩).mono ?_
  ·rintro i W hlen ⟨hi,hl,hk⟩
   have hlt:w.heap.size+1<W.heap.size:=(al.1 hl).1;have hy:=run_yield (P:=P) (args:=rows[i].toArray) hl (by rw[hrec];simpa using hps i W hlen hi);rw[hrec] at hy;refine⟨fn,_,Nq,body,hy,roundIn_of_wpIn hfn (jh _ i W hlen _ hi (by omega) hlt ⟨_,hl⟩ fun a1 Wa hka hwp=>⟨_,run_beginRound (hka.loop _ _ hl) (by rw[hrec]),?_⟩)⟩;have hla:=hka.loop _ _ hl;have hkd:=hka.defs _ _ hk;have d5t:w.heap.size+1<Wa.heap.size:=(al.1 hla).1;have hl2:(Wa.putObj (w.heap.size+1) (.loop { rec .ready none with state:=.busy })).heap[w.heap.size+1]?=some (.loop { rec .ready none with state:=.busy }):=World.putObj_heap_same d5t;have hk2:(Wa.putObj (w.heap.size+1) (.loop { rec .ready none with state:=.busy })).heap[w.heap.size]?=some (.deferred (some [])):=(World.putObj_heap_other (by omega)).trans hkd;refine wpIn_mono (hwp { rec .ready none with state:=.busy }) ?_;have fin:∀(jump:Option Code) (W3:World),Ny (Wa.putObj (w.heap.size+1) (.loop { rec .ready none with state:=.busy })) W3 →
    (Instr.endRound (w.heap.size+1) jump).run P W3=.ok (.bool jump.isNone) (W3.putObj (w.heap.size+1) (.loop (rec (if jump.isNone then .ready else .done) jump))) ∧
    W3.heap[w.heap.size+1]?=some (.loop { rec .ready none with state:=.busy }) ∧
    (W3.putObj (w.heap.size+1) (.loop (rec (if jump.isNone then .ready else .done) jump))).heap[w.heap.size+1]?=some (.loop (rec (if jump.isNone then .ready else .done) jump)) ∧
    (W3.putObj (w.heap.size+1) (.loop (rec (if jump.isNone then .ready else .done) jump))).heap[w.heap.size]?=some (.deferred (some [])):=fun jump W3 hk3=>by
    have hl3:=hk3.loop _ _ hl2;have:=run_endRound (P:=P) jump hl3;rw[hrec] at this ⊢;exact⟨this,by rw[hrec] at hl3;exact hl3,World.putObj_heap_same (al.1 hl3).1,(World.putObj_heap_other (by omega)).trans (hk3.defs _ _ hk2)⟩
   rintro e a3 W3 hp;cases e with
   |normal =>
    obtain⟨hk3,hi3⟩:=hp;obtain⟨hr,hl3,hl4,hk4⟩:=fin none W3 hk3;have hi4:=hIp _ _ _ _ (rec .ready none) hi3 (by omega) hl3;exact⟨_,_,hr,.inl ⟨rfl,⟨hi4,hl4,hk4⟩,hInv _ _ hi4⟩⟩
   |ret =>
    obtain⟨hk3,hi3⟩:=hp;obtain⟨hr,hl3,hl4,hk4⟩:=fin (some .ret) W3 hk3;exact⟨_,_,hr,.inr ⟨rfl,.ret,c6h _ _ _ _ _ _ hi3 (by omega) hl3,hl4,hk4⟩⟩
   |exit id =>
    obtain⟨hk3,hi3⟩:=hp;obtain⟨hr,hl3,hl4,hk4⟩:=fin (some (.exit id)) W3 hk3;exact⟨_,_,hr,.inr ⟨rfl,.exit id,c6h _ _ _ _ _ _ hi3 (by omega) hl3,hl4,hk4⟩⟩
   |goto t=>exact hp.elim
   |panic ch=>exact hp.elim
   |outgrown=>exact hp.elim
  ·rintro e W2 ⟨⟨v,rfl⟩,(⟨hi,hl,hk⟩|⟨i,c,hi,hl,hk⟩)⟩
   ·exact⟨none,_,by have:=run_endLoop (P:=P) hl (by rw[hrec];simp);rw[hrec] at this;exact this,hdone _ _ (ab _) (hIp _ _ _ _ _ hi (by omega) hl) ((World.putObj_heap_other (by omega)).trans hk)⟩
   ·exact⟨some c,_,by have:=run_endLoop (P:=P) hl (by rw[hrec];simp);rw[hrec] at this;exact this,hstop _ c i _ (ab _) (c6h _ _ _ _ _ _ hi (by omega) hl) ((World.putObj_heap_other (by omega)).trans hk)⟩
end
section
variable {P:Program}{G:List Nat}{ds:List Deferred}{rf:Option Nat}{nn:Nat}
def Enters(P:Program)(f:FuncId):Prop:=∃ fn,P.funcs[f]?=some fn∧fn.body.isSome=true∧(fn.name=="runtime.NumGoroutine")=false
def a5z(P:Program)(G:List Nat)(f:FuncId)(F:List Value→Mem→Option (Value×Mem)):Prop :=
 ∀Bo m v m',F Bo m=some (v,m')→∀ι w (as':Array Value),DR P G ι m w→BF ι m.gen Bo as'.toList →
  Calls P f as' w fun e w'=>∃v',e=.returned v'∧Post P G ι m w v m' v' w'
def Kw(P:Program)(G:List Nat)(call:E8):Prop:=∀f,a5z P G f (call f)∧∀Bo m r,call f Bo m=some r→Enters P f
structure Um(ds:List Deferred)(ι:BJ)(g:Nat→Nat)(n:Nat)(t:Tr Value)(a:Act):Prop where
 size:a.tmps.size=n
 defers:a.defers=ds
 val:∀i,Az ι g (CO t i) (a.tmps.getD i undef)
theorem Um.mono(d:Le ι g b c)(h:Um ds ι g n t a):Um ds b c n t a :=
 ⟨h.size,h.defers,fun i=>(h.val i).mono d⟩
theorem Um.put(h:Um ds ι g n t a){dst:Option Tmp}(c:∀d,dst=some d→d<n)(f:Az ι g v v') :
 Um ds ι g n (IE t dst v) (a.put dst v'):=by
 cases dst with
 |none=>exact h
 |some d =>
  have b:=c d rfl;refine⟨by simp[Act.put,h.size],h.defers,fun i=>?_⟩;simp only[IE,Act.put];rw[Dt];by_cases e:d=i
  ·have:(a.tmps.setIfInBounds d v').getD d undef=v':=by
    simp[h.size,b]
   grind
  ·rw[if_neg e]
   have:(a.tmps.setIfInBounds d v').getD i undef=a.tmps.getD i undef:=by
    simp_all
   rw[this];exact h.val i
theorem KC(g:DR P G ι m w)(e:Um ds ι m.gen n t a)(c:G5 G x=true) :
 Az ι m.gen (ev t x) (a.eval x):=by
 cases x with
 |tmp i=>exact e.val i
 |const v=>exact Az.plain c
 |global k =>
  have h:k∈G:=by simpa[G5] using c
  obtain⟨d,j,q,p,o,l⟩:=g.glob k h;exact .ptr _ _ ⟨d,j,ao _,fun _=>by grind⟩
 |func f=>exact .fn f [] [] [] [] rfl (fun i b=>absurd b (by simp)) rfl (fun i b=>absurd b (by simp))
theorem Az.KW(h:Az ι g v v')(b:Bool):v=.bool b↔v'=.bool b:=by
 constructor
 ·intro e;subst e;cases h;rfl
 ·intro e;subst e;cases h;rfl
theorem a3n(h:Um ds ι g n t a)(ops:Array Oper)(j:Nat):yielded ops a.tmps j=EM ops t j:=by
 unfold yielded EM;cases hd:(ops[j]?).bind (·.dst) with
 |none=>rfl
 |some d =>
  simp only[Option.bind_some];have c:=h.val d;cases ha:a.tmps[d]? with
  |none =>
   have e:a.tmps.getD d undef=undef:=by grind
   rw[e] at c;have:∀b,CO t d≠.bool b:=fun b f=>by
    have:=(c.KW b).1 f;cases this
   simp
  |some u =>
   have e:a.tmps.getD d undef=u:=by simp[ha]
   rw[e] at c;split
   ·rename_i b f
    cases f;have:=(c.KW b).2 rfl;grind
   ·rename_i i
    split
    ·rename_i b f
     have:=(c.KW b).1 f;simp_all
    ·rfl
theorem a8p(c:Um ds ι g n t a)(ops:Array Oper)(o:Oper) :
 Region.wanted o (yielded ops a.tmps)=Region.wanted o (EM ops t):=by
 unfold Region.wanted;cases o.guard with
 |none=>rfl
 |some p=>obtain⟨j,b⟩:=p;simp only[a3n c]
theorem PD(r:Kw P G call)(I:DR P G ι m w)
 (j:∀x∈o.op.operands,Az ι m.gen (ρ x) (a.eval x)) (h:BX P call ρ o m=some (v,m'))  
 (L:∀v' w',Post P G ι m w v m' v' w'→K (a.put o.dst v') w'):o.wpIn (WF rf) nn P a w K Q:=by
 unfold BX at h;split at h
 ·rename_i f i aT q
  rw[q] at j;have A:=j f (by simp[Op.operands,Call.operands]);have n:∀x∈i,Az ι m.gen (ρ x) (a.eval x):=fun x H=>j x (by simp[Op.operands,Call.operands,H])
  split at h
  ·rename_i g X Z s
   rw[s] at A;obtain⟨b,d,Y,y,B⟩:∃b d,a.eval f=.func (.func g) b d∧BF ι m.gen X.toList b.toList∧BF ι m.gen Z.toList d.toList:=by
    generalize a.eval f=u at A;cases A with
    |fn _ l1 N l3 M W V U T=>exact⟨⟨N⟩,⟨M⟩,rfl,⟨W,V⟩,⟨U,T⟩⟩
   obtain⟨E,F⟩:=r g;obtain⟨fn,z,C,k⟩:=F _ _ _ h;have l:=E _ _ _ _ h ι w (b++i.map a.eval++d) I (by
    rw[ez,ez,bL];exact(y.append (lA fun x H=>n x (by grind))).append B)
   have p:(execOp a.eval o).run P w=.ok (.enter g (b++i.map a.eval++d)) w:=by
    simp only[execOp,q,resolve,Y,Deferred.ofValue,Sem.run_bind,Sem.run_pure,Result.andThen_ok,invoke,callFunc,run_program,z,k,Bool.false_eq_true,if_false];have:fn.body.isNone=false:=by cases hb:fn.body<;>simp_all
    simp[this]
   unfold Oper.wpIn;rw[Oper.semAt_eq _ _ _ (fun c r=>by grind),p];refine⟨fun _ _=>trivial,?_⟩;refine⟨(fun S=>by cases S),?_⟩;exact(a3a l).mono fun e w' he=>by
    grind
  grind
 ·obtain⟨nx,v',w',O,R,J⟩:=a9m I j h
  unfold Oper.wpIn;rw[Oper.semAt_eq _ _ _ (fun c r=>by rw[F5,r] at h;cases h),O];refine⟨fun _ _=>trivial,?_⟩;rcases R with rfl|⟨rfl,rfl⟩
  ·exact L v' w' J
  ·exact L undef w' J
def Ep(P:Program)(G:List Nat)(ds:List Deferred)(n:Nat)(s:St)(ι:BJ)(a:Act)(w:World):Prop:=DR P G ι s.m w∧Um ds ι s.m.gen n s.t a
def Reach(P:Program)(G:List Nat)(ds:List Deferred)(n:Nat)(ι:BJ)(s:St)(w:World)(s':St)(a':Act)(w':World):Prop :=
 ∃ι',Ext ι s.m w ι' s'.m w'∧Ep P G ds n s' ι' a' w'
theorem DV(h:I5 G n o=true):(∀x∈o.op.operands,G5 G x=true)∧(∀d,o.dst=some d→d<n):=by
 unfold I5 at h;simp only[Bool.and_eq_true] at h;obtain⟨⟨b,e⟩,_⟩:=h;refine⟨fun x a=>?_,fun d c=>?_⟩
 ·exact bl.1 b x a
 grind
theorem Qd(u:Kw P G call):∀(l:List Oper) (s s':St) (ι:BJ) (a:Act) (w:World),
 (∀o∈l,I5 G n o=true)→Jt P call ops l s=some s'→Ep P G ds n s ι a w→(∀a' w',Reach P G ds n ι s w s' a' w'→Q .normal a' w')→wpListIn (WF rf) nn P ops Q l a w
 |[],s,s',ι,a,w,_,h,hst,hq=>by
  cases h;exact hq a w ⟨ι,Ext.refl _ _ _,hst⟩
 |o::l,s,s',ι,a,w,hok,h,hst,hq=>by
  simp only[Jt] at h;cases h1:JC P call ops o s with
  |none=>grind
  |some s1 =>
   rw[h1] at h;obtain⟨q,c⟩:=DV (hok o (by simp));have b:∀i f,Reach P G ds n ι s w s1 i f→wpListIn (WF rf) nn P ops Q l i f:=fun i f A=>by
    obtain⟨d,g,e⟩:=A;refine Qd u l s1 s' d i f (fun o H=>hok o (by grind)) h e fun a' w' p=>hq a' w' ?_
    obtain⟨j,k1,y⟩:=p;exact⟨j,Ext.trans hst.1 g k1,y⟩
   unfold wpListIn;rw[a8p hst.2];unfold JC at h1;split at h1
   ·rename_i k
    rw[if_pos k];unfold uU at h1;cases hv:BX P call (ev s.t) o s.m with
    |none=>grind
    |some r =>
     obtain⟨v,m1⟩:=r;rw[hv] at h1;cases h1;refine PD u hst.1 (fun x z=>KC hst.1 hst.2 (q x z)) hv fun F w' B=>b _ _ ?_
     obtain⟨d,g,E,C⟩:=B;exact⟨d,g,E,(hst.2.mono g.le).put c C⟩
   ·rename_i k
    rw[if_neg k];cases h1;refine⟨fun _ _=>trivial,?_⟩;exact b _ _ ⟨ι,Ext.refl _ _ _,hst.1,hst.2.put c Az.undef⟩
def BP.toExit:BP→Exit
 | .normal=>.normal
 | .ret=>.ret
 | .exit id=>.exit id
def mF(P:Program)(G:List Nat)(call:E8):Prop:=∀(ds:List Deferred) (rf:Option Nat) (nn n id:Nat) (ops:Array Oper) (s s':St) (ι:BJ) (a:Act) (w:World) (Q:Exit→Act→World→Prop),
 (∀o∈ops.toList,I5 G n o=true)→H6 ops=true→I9 P call ops 0 ops.toList s=some s'→Ep P G ds n s ι a w →
 (∀a' w',Reach P G ds n ι s w s' a' w'→Q .normal a' w')→(Code.region id ops true).wpIn (WF rf) nn P Q a w
def Marks(B:Nat)(w:World):List Deferred→Prop
 |[]=>B≤w.heap.size
 |d::ds=>(∃D,d={ target:=.collected D,args:=#[] }∧B≤D∧w.heap[D]?=some (.deferred (some []))∧∀d'∈ds,d'≠d)∧Marks B w ds
theorem Marks.base:∀{ds:List Deferred},Marks B w ds→B≤w.heap.size
 |[],h=>h
 |_::_,⟨_,h⟩=>Marks.base h
theorem OG(h:WY P ι g ib x (some o))(a:o.isCells=false):∃es c,o=.map es c:=by
 cases x<;>cases o<;>simp only[WY] at h<;>first|cases h|skip
 ·cases a
 simp
theorem Marks.ext(f:DR P G ι m w)(h:Ext ι m w a m' w'):∀{ds:List Deferred},Marks B w ds→Marks B w' ds
 |[],c=>an c h.heap
 |d::ds,⟨⟨D,e,hBD,hD,hne⟩,hr⟩=>by
  refine⟨⟨D,e,hBD,?_,hne⟩,Marks.ext f h hr⟩;rw[h.frame D (al.1 hD).1 ?_];exact hD;intro b i c j;have g:=f.blk b i c;rw[j,hD] at g;obtain⟨_,_,k⟩:=OG g rfl;grind
theorem Marks.lt:∀{ds:List Deferred},Marks B w ds→∀d∈ds,∃D,d={ target:=.collected D,args:=#[] }∧D<w.heap.size
 |d::ds,⟨⟨D,e,_,hD,_⟩,hr⟩,d',hd=>by
  rcases bd.1 hd with rfl|hd
  ·grind
  ·exact Marks.lt hr d' hd
theorem L9(a:DR P G ι m w)(k:Nat):DR P G ι (JL m k) w:=⟨a.dom,a.blk,a.inj,a.glob⟩
theorem b2w(u:DR P G ι m w)(h:Ext ι m w j m' w')(k:Ext j (JL m' m'.size) w' g a l):Ext ι m w g (JL a (min m'.low a.low)) l:=by
 have p:∀b,b<m'.size→b<a.low→a.get b=m'.get b:=k.keep;refine⟨an h.size k.size,an (co _ _) h.low,fun b d y=>?_,fun b d q=>?_,fun b d=>?_,h.le.trans k.le,fun b e d=>?_,fun b e d=>?_,
  an h.heap k.heap,fun c r z=>?_,k.tape.trans h.tape,k.os.trans h.os,k.output.trans h.output⟩
 ·have x:b<min m'.low a.low:=y
  exact(p b (ag d h.size) (by omega)).trans (h.keep b d (by omega))
 ·exact(k.ro b (ag d h.size) ((h.ro' b d).trans q)).trans (h.ro b d q)
 ·exact(k.ro' b (ag d h.size)).trans (h.ro' b d)
 ·rcases k.back b e d with⟨f,h1,s⟩|h1
  ·rcases h.back b f h1 with⟨i,h3,A⟩|h3
   ·grind
   omega
  ·exact .inr (an h.heap h1)
 ·rcases k.dom b e d with⟨f,h1⟩|h1
  ·exact h.dom b f h1
  ·exact .inr (an h.size h1)
 ·have n:∀b i,ι b=some i→i.blk=c→m.ro b=true∨b<min m'.low a.low:=z
  rw[k.frame c (ag r h.heap) ?_,h.frame c r ?_]
  ·grind
  ·intro b f d o
   rcases h.back b f d with⟨i,h1,s⟩|h1
   ·rcases n b i h1 (s.trans o) with h3|h3
    ·exact .inl ((h.ro' b (u.dom b i h1).1).trans h3)
    omega
   omega
theorem Yx(h:Ext ι m w a m' W)(b:Go.RowKit.Below W.heap.size W e):Ext ι m w a m' e :=
 ⟨h.size,h.low,h.keep,h.ro,h.ro',h.le,h.back,h.dom,an h.heap b.size,fun c d f=>(b.block c (ag d h.heap)).trans (h.frame c d f),b.tape.trans h.tape,b.os.trans h.os,b.output.trans h.output⟩
theorem Ov(c:DR P G ι m w)(d:Go.RowKit.Below w.heap.size w w'):DR P G ι m w' :=
 ⟨fun b a h=>⟨(c.dom b a h).1,ag (c.dom b a h).2 d.size⟩,fun b a h=>by rw[d.block a.blk (c.dom b a h).2];exact c.blk b a h,c.inj,c.glob⟩
theorem oU(h:Ext ι m w a m' W)(e:w.heap.size≤l)(x:Obj):Ext ι m w a m' (W.putObj l x) :=
 ⟨h.size,h.low,h.keep,h.ro,h.ro',h.le,h.back,h.dom,by simpa using h.heap,fun c d b=>(World.putObj_heap_other (by omega)).trans (h.frame c d b),h.tape,h.os,h.output⟩
theorem b2r(h:Ext ι m w a m' W)(f:l<w.heap.size)(x:Obj):Ext ι m (w.putObj l x) a m' (W.putObj l x):=by
 refine⟨h.size,h.low,h.keep,h.ro,h.ro',h.le,fun b d i=>by simpa using h.back b d i,h.dom,by simpa using h.heap,fun c j g=>?_,h.tape,h.os,h.output⟩;by_cases e:c=l
 ·subst e
  rw[World.putObj_heap_same f,World.putObj_heap_same (ag f h.heap)]
 ·rw[World.putObj_heap_other e,World.putObj_heap_other e]
  exact h.frame c (by simp_all) g
theorem wK(l:DR P G ι m w)(h:Ext ι m w f m' w'):Ny w w':=by
 have d:∀(k:Nat) (o:Obj),w.heap[k]?=some o→o.isCells=false→(∀i c,o≠.map i c)→w'.heap[k]?=some o:=fun k o a n r=>by
  rw[h.frame k (al.1 a).1 ?_];exact a;intro b j q p;have g:=l.blk b j q;rw[p,a] at g;obtain⟨i,c,s⟩:=OG g n;grind
 exact⟨h.heap,fun k o a=>d k _ a rfl (fun _ _ e=>by cases e),fun k o a=>d k _ a rfl (fun _ _ e=>by cases e)⟩
theorem Z4(c:DR P G ι m W)(h:W.heap[l]?=some (.loop o))(x:Obj):DR P G ι m (W.putObj l x):=by
 have f:=grownBy_putObj' W l x;refine⟨fun b a d=>⟨(c.dom b a d).1,ag (c.dom b a d).2 f.size⟩,fun b a d=>?_,c.inj,c.glob⟩;rw[f.block a.blk (c.dom b a d).2 ?_];exact c.blk b a d;intro e;have i:a.blk=l:=by grind
 have g:=c.blk b a d;rw[i,h] at g;obtain⟨_,_,j⟩:=OG g rfl;grind
theorem Ze:∀(ps:List Tmp) (vs:List Value) {t:Tr Value} {T:Array Value},Um ds ι g n t { tmps:=T,defers:=ds }→(∀p∈ps,p<n)→vs.all plain=true →
 Um ds ι g n (Og t ps vs) { tmps:=(ps.zip vs).foldl (fun t (p,v)=>t.setIfInBounds p v) T,defers:=ds }
 |[],_,t,T,h,_,_=>by assumption
 |p::ps,[],t,T,h,_,_=>by assumption
 |p::ps,v::vs,t,T,h,hp,hv=>by
  simp only[List.all_cons,Bool.and_eq_true] at hv;have b:=h.put (dst:=some p) (fun d c=>by simp_all) (Az.plain hv.1);exact Ze ps vs (t:=Rq t p v) (T:=T.setIfInBounds p v) b (fun q a=>hp q (am _ a)) hv.2
theorem b0r(ps:Array Tmp)(vs:List Value)(T:Array Value):(ps.zip vs.toArray).foldl (fun t (p,v)=>t.setIfInBounds p v) T=(ps.toList.zip vs).foldl (fun t (p,v)=>t.setIfInBounds p v) T:=by
 rw[← cI,Array.toList_zip]
theorem a1d(h:Enters P g)(args:Array Value)(w:World):(callFunc g args).run P w=.ok (.enter g args) w:=by
 obtain⟨fn,b,c,a⟩:=h;simp only[callFunc,run_program,b,a,Bool.false_eq_true,if_false,Sem.run_bind,Result.andThen_ok];have:fn.body.isNone=false:=by cases hb:fn.body<;>simp_all
 simp[this]
def JR(P:Program)(G:List Nat)(ask:Mem→Prop)(ι0:BJ)(g0:Nat→Nat)(lb:List Value)(lb':Array Value)(W:World):Prop:=∃ι m,DR P G ι m W∧BF ι m.gen lb lb'.toList∧ask m∧Le ι0 g0 ι m.gen
def gG(P:Program)(G:List Nat)(call:E8):Prop:=∀(g:FuncId) (fn:Func) (lb:List Value) (m m1:Mem) (v:Value) (rows:List (List Value)),P.funcs[g]?=some fn→call g (EN fn.ntmps lb) m=some (v,m1)→PS v=some rows →
 Enters P g∧∀(ι:BJ) (w:World) (lb':Array Value),DR P G ι m w→BF ι m.gen lb lb'.toList→Y9 P g lb' rows (JR P G (fun m'=>∃m1',call g (EN fn.ntmps lb) m'=some (v,m1')) ι m.gen lb lb') w
theorem JE{ask:Mem→Prop}(h:Ee n c a ask t ps (vs::rest) m=some (x,m')) :
 vs.length=n∧vs.all plain=true∧∃s1,c { t:=Og t ps vs,m:=JL m m.size }=some (.normal,s1)∧∃b s2,a s1=some (b,s2) ∧
  ((b=.normal∧ask (JL s2.m (min m.low s2.m.low))∧Ee n c a ask t ps rest (JL s2.m (min m.low s2.m.low))=some (x,m'))∨(b≠.normal∧x=b∧m'=JL s2.m (min m.low s2.m.low))):=by
 unfold Ee at h;grind
def c8e:BP→Code→Prop
 | .normal,_=>False
 | .ret,c=>c=.ret
 | .exit id,c=>c=.exit id
theorem xP(hsq:gG P G call){ps:Array Tmp}
 (ihA:∀(l:Nat) (s s':St) (x:BP) (ι:BJ) (a:Act) (w:World) (Q:Exit→Act→World→Prop),fA s=some (x,s')→Ep P G [] n s ι a w→(∀a' w' j,Ext ι s.m w j s'.m w'→DR P G j s'.m w'→(x=.normal→Ep P G [] n s' j a' w')→Q x.toExit a' w')→Nq.wpIn (WF (some l)) 0 P Q a w)
 (ihB:∀(l:Nat) (s s':St) (x:BP) (ι:BJ) (a:Act) (w:World) (Q:Exit→Act→World→Prop),fB s=some (x,s')→Ep P G [] n s ι a w→(∀a' w' j,Ext ι s.m w j s'.m w'→DR P G j s'.m w'→(x=.normal→Ep P G [] n s' j a' w')→Q x.toExit a' w')→I.wpIn (WF (some l)) 0 P Q a w)
 (hpn:∀p∈ps.toList,p<n)      (d:Ep P G ds n s ι a w)  (z:Marks B w ds) (hf:G5 G f=true)
 {g:FuncId} {fs lb:Array Value} (hev:ev s.t f=.func (.func g) fs lb) (hfs:fs.size=0)  (hfn:P.funcs[g]?=some fn)   (R:call g (EN fn.ntmps lb.toList) s.m=some (v,m0)) {rows:List (List Value)} (J:PS v=some rows)
   (hrun:Ee ps.size fA fB (fun m'=>∃m1,call g (EN fn.ntmps lb.toList) m'=some (v,m1)) s.t ps.toList rows s.m=some (x,m'))
 (hq:∀ds' a' w' j,Ext ι s.m w j m' w'→Ep P G ds' n { t:=s.t,m:=m' } j a' w'→Marks B w' ds'→Q x.toExit a' w'):(Code.rangeFunc f ps Nq I).wpIn Fence.wide 0 P Q a w:=by
 obtain⟨hent,Y⟩:=hsq g fn lb.toList s.m m0 v rows hfn R J;have N:=KC d.1 d.2 hf;rw[hev] at N;obtain⟨y,hg,L⟩:∃y,a.eval f=.func (.func g) #[] y∧BF ι s.m.gen lb.toList y.toList:=by
  generalize a.eval f=u at N;cases N with
  |fn _ l1 l2 l3 l4 h q r h4 =>
   have e:l2=[]:=br (by grind);subst e;exact⟨⟨l4⟩,rfl,r,h4⟩
 have hso:=Y ι w y d.1 L;generalize hask:(fun m'=>∃m1,call g (EN fn.ntmps lb.toList) m'=some (v,m1))=ask at *;have d1e:ask s.m:=by grind
 refine Va (g:=f) (gf:=g) (lb:=y) (rows:=rows) (Inv:=JR P G ask ι s.m.gen lb.toList y) hg (a1d hent) hso
  (fun i W=>∃b m1,Ext ι s.m w b m1 W∧DR P G b m1 W∧Ee ps.size fA fB ask s.t ps.toList (rows.drop i) m1=some (x,m')∧ask m1)
  (fun c _ W=>c8e x c∧∃b,Ext ι s.m w b m' W∧DR P G b m' W) ?_ ?_ ?_ ?_ ?_ ?_ ?_ ?_ ?_ ?_
 ·rintro i W W' ⟨b,m1,h,q,r,H⟩ hb
  exact⟨b,m1,Yx h hb,Ov q hb,r,H⟩
 ·rintro i W l o x' ⟨b,m1,h,q,r,H⟩ Z V
  exact⟨b,m1,oU h Z _,Z4 q V _,r,H⟩
 ·rintro c i W W' ⟨U,b,h,q⟩ hb
  exact⟨U,b,Yx h hb,Ov q hb⟩
 ·rintro c i W l o x' ⟨U,b,h,q⟩ Z V
  exact⟨U,b,oU h Z _,Z4 q V _⟩
 ·rintro i W ⟨b,m1,h,q,r,H⟩
  exact⟨b,m1,q,⟨L.1,fun k hk=>(L.2 k hk).mono h.le⟩,H,h.le⟩
 ·rintro i W hi ⟨b,m1,h,q,r,H⟩
  rw[bO hi] at r;exact(JE r).1
 ·exact⟨ι,s.m,Ext.refl _ _ _,d.1,by grind,d1e⟩
 ·rintro l i W hi K ⟨b,m1,h,q,r,H⟩ Z hlW ⟨o,V⟩ hK
  rw[bO hi] at r;obtain⟨e1,e2,s1,e3,xb,s2,e5,e7⟩:=JE r;have hT:Um [] b m1.gen n s.t { tmps:=a.tmps,defers:=[] }:=⟨d.2.size,rfl,fun k=>(d.2.val k).mono h.le⟩
  have hT2:=Ze ps.toList rows[i] hT hpn e2;rw[← b0r] at hT2;refine ihA l _ s1 .normal b _ W _ e3 ⟨L9 q _,hT2⟩ fun a1 w1 ι2 x1 x2 x3=>?_
  have E:=x3 rfl;have hka:Ny W w1:=wK (L9 q _) x1;refine hK a1 w1 hka fun X=>?_
  have ho1:=hka.loop _ _ V;have c5t:=Z4 E.1 ho1 (.loop X);refine ihB l s1 s2 xb ι2 a1 _ _ e5 ⟨c5t,E.2⟩ fun a3 w3 C y1 y2 y3=>?_
  have hA:=oU h Z (.loop X);have hE:=Ext.trans (Z4 (L9 q m1.size) V (.loop X)) (b2r x1 hlW (.loop X)) y1;have S:Ext ι s.m w C (JL s2.m (min m1.low s2.m.low)) w3:=b2w d.1 hA hE;have M:Ny (w1.putObj l (.loop X)) w3:=wK c5t y1;rcases e7 with⟨rfl,q1,q2⟩|⟨q0,rfl,rfl⟩
  ·exact⟨M,C,_,S,L9 y2 _,q2,q1⟩
  ·cases x with
   |normal=>exact absurd rfl q0
   |ret=>exact⟨M,rfl,C,S,L9 y2 _⟩
   |exit id=>exact⟨M,rfl,C,S,L9 y2 _⟩
 ·rintro D W hD ⟨b,m1,h,q,r,H⟩ T
  rw[List.drop_length] at r;obtain⟨rfl,rfl⟩:=r;have A:=z.ext d.1 h;refine hq ({ target:=.collected D,args:=#[] }::ds) _ W b h ⟨q,d.2.size,by rw[d.2.defers],fun k=>(d.2.val k).mono h.le⟩ ⟨⟨D,rfl,an z.base hD,T,fun d' O e=>?_⟩,A⟩;obtain⟨D',e1,e2⟩:=z.lt d' O;rw[e1] at e;cases e;omega
 ·rintro D c i W hD ⟨U,b,h,q⟩ T
  have A:=z.ext d.1 h;have F:Q x.toExit { a with defers:={ target:=.collected D,args:=#[] }::a.defers } W:=by
   refine hq ({ target:=.collected D,args:=#[] }::ds) _ W b h ⟨q,d.2.size,by rw[d.2.defers],fun k=>(d.2.val k).mono h.le⟩ ⟨⟨D,rfl,an z.base hD,T,fun d' O e=>?_⟩,A⟩;obtain⟨D',e1,e2⟩:=z.lt d' O;rw[e1] at e;cases e;omega
  cases x with
  |normal=>exact U.elim
  |ret=>cases U;exact wpIn_ret F
  |exit id=>cases U;exact wpIn_exit F
theorem Y7(hc:Kw P G call)(hsq:gG P G call)(hd:mF P G call):∀(c:Code) (B:Nat) (ds:List Deferred) (rf:Option Nat) (nn:Nat) (s s':St) (x:BP) (ι:BJ) (a:Act) (w:World) (Q:Exit→Act→World→Prop),
 (rf=none∨flat c=true)→codeOk G n c=true→BO P call N c s=some (x,s')→Ep P G ds n s ι a w→Marks B w ds →
 (∀q a' w',Reach P G q n ι s w s' a' w'→Marks B w' q→(flat c=true→q=ds)→Q x.toExit a' w')→c.wpIn (WF rf) nn P Q a w:=by
 intro c
 induction c with
 |skip=>intro B ds rf nn s s' x ι a w Q _ _ h d m u;cases h;exact wpIn_skip (u ds a w ⟨ι,Ext.refl _ _ _,d⟩ m fun _=>rfl)
 |label l=>intro B ds rf nn s s' x ι a w Q _ _ h d m u;cases h;exact wpIn_label (u ds a w ⟨ι,Ext.refl _ _ _,d⟩ m fun _=>rfl)
 |ret=>intro B ds rf nn s s' x ι a w Q _ _ h d m u;cases h;exact wpIn_ret (u ds a w ⟨ι,Ext.refl _ _ _,d⟩ m fun _=>rfl)
 |exit id=>intro B ds rf nn s s' x ι a w Q _ _ h d m u;cases h;exact wpIn_exit (u ds a w ⟨ι,Ext.refl _ _ _,d⟩ m fun _=>rfl)
 |goto l=>intro B ds rf nn s s' x ι a w Q _ j;cases j
 |scope b _=>intro B ds rf nn s s' x ι a w Q _ j;cases j
 |refuse y=>intro B ds rf nn s s' x ι a w Q _ j;cases j
 |rangeFunc f ps y z ihy ihz =>
  intro B ds rf nn s s' x ι a w Q A j h d m u;have hrf:rf=none:=A.resolve_right (by simp[flat]);subst hrf;simp only[codeOk,Bool.and_eq_true] at j;obtain⟨⟨⟨hok1,hok2⟩,c8o⟩,d7o⟩:=j;simp only[BO] at h;split at h
  case h_2=>cases h
  rename_i g fs lb hev;split at h
  case h_2=>cases h
  rename_i fn hfn;split at h
  case isFalse=>cases h
  rename_i hc0;obtain⟨hfs,hfy,hfz⟩:=hc0;split at h
  case h_2=>cases h
  rename_i v m0 hcall;split at h
  case h_2=>cases h
  rename_i rows hrows;rw[ae] at h;obtain⟨⟨T,m'⟩,hrun,O⟩:=h;cases O;refine b0x (xP hsq (fun l s s' x ι a w Q I h2 h3=>?_) (fun l s s' x ι a w Q I h2 h3=>?_) (fun p hp=>?_) d m hok1 hev hfs hfn hcall hrows hrun fun q a' w' M I h2 h3=>u q a' w' ⟨M,I,h2⟩ h3 fun J=>by cases J)
  ·exact ihy 0 [] (some l) 0 s s' x ι a w Q (.inr hfy) c8o I h2 (ao _) fun q a' w' ⟨M,k1,R⟩ _ k3=>h3 a' w' M k1 R.1 fun _=>by rw[k3 hfy] at R;exact R
  ·exact ihz 0 [] (some l) 0 s s' x ι a w Q (.inr hfz) d7o I h2 (ao _) fun q a' w' ⟨M,k1,R⟩ _ k3=>h3 a' w' M k1 R.1 fun _=>by rw[k3 hfz] at R;exact R
  ·have:=bl.1 hok2 p (by simpa using hp)
   simpa using this
 |seq c1 c2 Z Y =>
  intro B ds rf nn s s' x ι a w Q A j h d m u;simp only[codeOk,Bool.and_eq_true] at j;simp only[flat,Bool.and_eq_true] at A u;simp only[BO] at h;refine wpIn_seq ?_;cases I:BO P call N c1 s with
  |none=>rw[I] at h;cases h
  |some r =>
   obtain⟨T,s1⟩:=r;rw[I] at h;refine Z B ds rf nn s s1 T ι a w _ (A.imp id And.left) j.1 I d m fun C L K H E F=>?_
   cases T with
   |normal =>
    obtain⟨W,O,S⟩:=H;refine Y B C rf nn s1 s' x W L K Q (A.imp id And.right) j.2 h S E fun q a' w' hr' hm' hf'=>u q a' w' ?_ hm' fun J=>(hf' J.2).trans (F J.1)
    obtain⟨V,k1,R⟩:=hr';exact⟨V,Ext.trans d.1 O k1,R⟩
   |ret=>cases h;exact u C L K H E fun J=>F J.1
   |exit id=>cases h;exact u C L K H E fun J=>F J.1
 |cond c0 c1 c2 Z Y =>
  intro B ds rf nn s s' x ι a w Q A j h d m u;simp only[codeOk,Bool.and_eq_true] at j;simp only[flat,Bool.and_eq_true] at A u;simp only[BO] at h;have hv:=KC d.1 d.2 j.1.1;cases O:ev s.t c0<;>rw[O] at h hv<;>first|(cases h;done)|skip
  rename_i b;have e1:a.eval c0=.bool b:=(hv.KW b).1 rfl;cases b with
  |true=>exact wpIn_cond_true e1 (Z B ds rf nn s s' x ι a w Q (A.imp id And.left) j.1.2 h d m fun q a' w' H hm hf=>u q a' w' H hm fun J=>hf J.1)
  |false=>exact wpIn_cond_false e1 (Y B ds rf nn s s' x ι a w Q (A.imp id And.right) j.2 h d m fun q a' w' H hm hf=>u q a' w' H hm fun J=>hf J.2)
 |block id b ih =>
  intro B ds rf nn s s' x ι a w Q A j h d m u;simp only[codeOk] at j;simp only[BO] at h;refine wpIn_block ?_;cases I:BO P call N b s with
  |none=>rw[I] at h;cases h
  |some r =>
   obtain⟨T,s1⟩:=r;rw[I] at h;refine ih B ds rf nn s s1 T ι a w _ A j I d m fun C L K H E F=>?_
   cases T with
   |normal=>cases h;exact u C L K H E F
   |ret=>cases h;exact u C L K H E F
   |exit i =>
    simp only at h;show(if i=id then Q .normal L K else Q (.exit i) L K);split at h
    ·rename_i e;cases h;rw[if_pos e];exact u C L K H E F
    ·rename_i e;cases h;rw[if_neg e];exact u C L K H E F
 |loop b ih =>
  intro B ds rf nn s s' x ι a w Q A j h d m u;simp only[codeOk] at j;simp only[flat] at A u;simp only[BO] at h;refine wpIn_loop_rounds N ?_;have key:∀(k:Nat) (C:List Deferred) (s1 s':St) (x:BP) (ι:BJ) (a:Act) (w:World),iterate (BO P call N b) k s1=some (x,s')→Ep P G C n s1 ι a w→Marks B w C →
   (∀q a' w',Reach P G q n ι s1 w s' a' w'→Marks B w' q→(flat b=true→q=C)→Q x.toExit a' w')→Code.roundsIn (WF rf) nn P b Q k a w:=by
   intro k
   induction k with
   |zero=>intro C s1 s' x ι a w h;cases h
   |succ k ihk =>
    intro C s1 s' x ι a w h d m u;simp only[iterate] at h;rw[roundsIn_succ];cases I:BO P call N b s1 with
    |none=>rw[I] at h;cases h
    |some r =>
     obtain⟨T,s2⟩:=r;rw[I] at h;refine ih B C rf nn s1 s2 T ι a w _ A j I d m fun ds2 L K H E F=>?_
     cases T with
     |normal =>
      obtain⟨W,O,S⟩:=H;refine ihk ds2 s2 s' x W L K h S E fun q a' w' hr' hm' hf'=>u q a' w' ?_ hm' fun J=>(hf' J).trans (F J)
      obtain⟨V,k1,R⟩:=hr';exact⟨V,Ext.trans d.1 O k1,R⟩
     |ret=>cases h;exact u ds2 L K H E F
     |exit id=>cases h;exact u ds2 L K H E F
  exact key N ds s s' x ι a w h d m u
 |region id X draw =>
  intro B ds rf nn s s' x ι a w Q A j h d m u;simp only[codeOk,Bool.and_eq_true] at j;have U:∀o∈X.toList,I5 G n o=true:=fun o ho=>bl.1 j.1 o (by simpa using ho)
  have fin:∀a' w' (s1:St),Reach P G ds n ι s w s1 a' w'→Marks B w' ds:=fun a' w' s1 ⟨M,O,hst'⟩=>m.ext d.1 O
  cases draw with
  |false =>
   simp only[BO,Option.map_eq_some_iff] at h;obtain⟨s1,I,O⟩:=h;cases O;exact wpIn_region_list (Qd hc X.toList s _ ι a w U I d fun a' w' H=>u ds a' w' H (fin a' w' _ H) fun _=>rfl)
  |true =>
   simp only[BO,Option.map_eq_some_iff] at h;obtain⟨s1,I,O⟩:=h;cases O;exact hd ds rf nn n id X s _ ι a w Q U (by simpa using j.2) I d fun a' w' H=>u ds a' w' H (fin a' w' _ H) fun _=>rfl
end
end Go.Am
