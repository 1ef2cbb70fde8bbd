/-
  Texts of a proof, merged (VmD, Shelf, NumA, WA, Lib1, OraA). Conditions: in each statement.
-/
import Derived.Laws.Strings
import Derived.Laws.Strings2
import Derived.Laws.Concat
import Derived.Shelf.Strings.Builder1
import Derived.Shelf.Strings.Builder2
import Derived.Shelf.Small.Strs
import Derived.Shelf.Strings.BuilderF
import Derived.Shelf.Strings.BuilderK
import Derived.Shelf.Strconv.Itoa0
import Derived.Shelf.Strconv.Itoa1
import Derived.Shelf.LaysM
import Derived.Shelf.Strconv.Itoa2
import Derived.Shelf.Strconv.Itoa3
import Derived.Shelf.Sort.Plain
import Derived.Shelf.Strings.Prefix
import Derived.Shelf.Bits.Mul64
import Derived.Shelf.Strings.Repeat
import Derived.Ground.Names2Prog
import Derived.Shelf.Slices.CompactI
import Derived.Shelf.Slices.In.SortNone
import Derived.Test.YthlffjlbidibdaaGreatDoorProg
import Derived.Lib.ItoaNum
import Derived.Lib.Bytealg
import Derived.Lib.AppendIntMem
import Derived.Lib.OthersKept
import Derived.Lib.Walk
import Derived.WalkKit
import Derived.BigCall
import Derived.BigGuard
import Derived.RangeFuncBox
import Derived.RangeFuncLeaves
import Derived.RangeFuncBound
import Derived.RangeFuncCalls
import Derived.Shelf.Abstract
import Derived.OwnWalkIn
import Derived.TacticsInMore
import Derived.LoopNIn
import Derived.LoopIn
import Derived.Laws.AppendOwn
import Derived.Test.YthlffjlbidibdaaGreatDoorKHf
set_option linter.unusedSimpArgs false
set_option autoImplicit true
set_option relaxedAutoImplicit true
set_option linter.unusedVariables false
set_option linter.unusedSectionVars false
set_option maxRecDepth 100000
set_option maxHeartbeats 8000000
abbrev aM:=@List.mem_singleton
abbrev bS:=@List.length_replicate
abbrev ci:=@Nat.pow_succ
abbrev cz:=@List.append_assoc
abbrev cD:=@Nat.min_eq_left
abbrev cE:=@Int.toNat_of_nonneg
abbrev cM:=@Nat.pow_add
abbrev cW:=@Nat.sub_self
abbrev df:=@Nat.div_lt_of_lt_mul
abbrev dp:=@List.length_pos_iff
abbrev dq:=@Nat.mul_assoc
abbrev dC:=@Nat.pow_pos
abbrev ef:=@Nat.mul_comm
abbrev em:=@Array.size_replicate
abbrev eK:=@Nat.div_lt_self
abbrev fb:=@Nat.pow_zero
abbrev fx:=@Nat.div_div_eq_div_mul
abbrev fN:=@Nat.div_eq_of_lt
abbrev fR:=@List.set_append_right
abbrev fS:=@List.take_append_drop
abbrev gg:=@Nat.add_mul_div_left
abbrev gh:=@Nat.mod_add_div
abbrev gN:=@Nat.add_mul_mod_self_left
abbrev ii:=@Nat.add_sub_cancel_left
abbrev ik:=@List.getElem?_cons_succ
namespace Go.Vm
section
open Go.Am
variable {E:Env}{L:Frame}{H:Heap}{nx:Nat}{Q:PV→Heap→Nat→Prop}{w:Bool}
variable {dst:Option Tmp}{ty:TypeId}{pos:String}{af:Array Edge}{gd:Option (Nat×Bool)}
def AP(P:Program)(rs:List ResultVar)(Q:PV→Heap→Nat→Prop)(e:BP)(L:Frame)(H:Heap)(nx:Nat):Prop :=
 match e with
 | .exit _=>False
 | .normal=>∃r,EJ P rs L H=some r∧Q r H nx
 | .ret=>∃r,EJ P rs L H=some r∧Q r H nx
theorem AP.ret(h:EJ P rs L H=some r)(q:Q r H nx):AP P rs Q .ret L H nx:=⟨r,h,q⟩
theorem sd(z:E.O f=none)(B:E.P.funcs[f]?=some fn)(C:fn.body=some c)(k:IV E.G fn c=true)(R:args.length≤fn.ntmps)
 (h:Ad E nx c (CS 0 args) H nx (AP E.P fn.results.toList Q)):AL E f args H nx Q:=by
 intro m F σ N I o;refine Gq.enter z B C k (by rw[← o.length];omega) ((h ⟨m,F,σ,H,nx⟩ rfl m F σ _ I ?_ (Step.refl _ _ _ _ _)).mono ?_)
 ·intro i v A
  obtain⟨_,l⟩:=Jz args 0 i v A;obtain⟨u,n,S⟩:=o.get l;have:=Hq N 0 .leaf i;grind
 ·rintro e s ⟨M,d,a,j,b,q,p,K,J⟩
  have g:(∃r,EJ E.P fn.results.toList M d=some r∧Q r d a)→∃v,FM E.P fn s=some v∧∃r d a j b,Q r d a∧Ctx E.Γ s.m j b d a∧RP s.m j (htag d) b a r v∧Step m F σ H nx s.m j b d a:=by
   rintro⟨x,y,q⟩;obtain⟨v,l,n⟩:=LZ p K y;exact⟨v,l,x,d,a,j,b,q,p,n,J⟩
  cases e with
  |exit i=>exact q.elim
  |normal=>exact g q
  |ret=>exact g q
theorem Aa.inl{e cs Bo:List PV}(l:AY E.Γ L c=some (.clo g e cs))(o:evs E.Γ L args.toList=some Bo)
 (n:AL E g (e++Bo++cs) H nx Q):Aa E true ⟨dst,.call { callee:=.value c,args:=args,argTypes:=p },ty,pos,af,gd⟩ L H nx Q:=by
 intro m F σ t b d;have a:=Bz b d l;generalize hfe:ev t c=fv at a;cases a with
 |clo k j =>
  rename_i h i;refine GX.call (f:=g) (Bo:=h++args.toList.map (ev t)++i) (fun call=>by simp only[BX,hfe]) ((n m F σ _ b ((k.append (TN b d o)).append j)).mono ?_);simp
theorem Aa.inline{fn:Func}(n:g=g)(j:AY E.Γ L e=some (.clo g d cs))(l:evs E.Γ L args.toList=some Bo)
 (f:E.O g=none) (b:E.P.funcs[g]?=some fn) (k:fn.body=some c) (a:IV E.G fn c=true) (i:(d++Bo++cs).length≤fn.ntmps)
 (h:Ad E nx c (CS 0 (d++Bo++cs)) H nx (AP E.P fn.results.toList Q)):Aa E true ⟨dst,.call { callee:=.value e,args:=args,argTypes:=m },ty,pos,af,gd⟩ L H nx Q :=
 Aa.inl j l (sd f b k a i h)
end
section
open Go.Am
variable {E:Env}{L:Frame}{H:Heap}{nx:Nat}{Q:PV→Heap→Nat→Prop}{w:Bool}
variable {dst:Option Tmp}{ty:TypeId}{pos:String}{af:Array Edge}{gd:Option (Nat×Bool)}
def bs(l:List UInt8):ByteArray:=⟨l.toArray⟩
theorem Tv(l:List UInt8):(bs l).size=l.length:=by rfl
theorem TP(l:List UInt8):(bs l).toList=l:=ByteArray.toList_mk l
theorem c3z(l:List UInt8):(bs l).data.toList=l:=by rfl
theorem b6p(h:bs a=bs b):a=b:=by
 have:=congrArg (fun s:ByteArray=>s.data.toList) h;assumption
abbrev st(l:List UInt8):PV:=.p (.str (bs l))
instance:Enc UInt8:={ default:=0,enc:=fun n=>[.int .u8 (n.toNat:Int)],size:=1,len:=fun _=>rfl }
instance d6u:Enc Nat:={ default:=0,enc:=fun n=>[.int .u64 (n:Int)],size:=1,len:=fun _=>rfl }
theorem j8(a:AY E.Γ L x=some (st l))(b:E.P.underlying t=some .string)(q:Q (.p (.int .i64 l.length)) H nx) :
 Aa E w ⟨dst,.call { callee:=.builtin .len,args:=#[x],argTypes:=#[t] },ty,pos,af,gd⟩ L H nx Q :=
 qr a b (by assumption)
theorem mH(g:AY E.Γ L x=some (st a))(f:AY E.Γ L y=some (st b))
 (h:∀m F,∃v,ZU E.P (do eqGuard op t x y (.string (bs a)) (.string (bs b));binOp op t (.string (bs a)) (.string (bs b)))=some v∧RF m F r v) (q:Q (.p r) H nx) :
 Aa E w ⟨dst,.binOp op t x y e,ty,pos,af,gd⟩ L H nx Q :=
 Aa.quiet q fun m F σ j d c=>by
  obtain⟨v,k,i⟩:=h m F;refine⟨v,fun _=>?_,.p i⟩;simp only[BX,F5,NQ d c g,NQ d c f,QT];rw[show(plain (Value.string (bs a))&&plain (Value.string (bs b)))=true from rfl];grind
theorem kq(e:AY E.Γ L x=some (st a))(d:AY E.Γ L y=some (st b))(q:Q (.p (.bool (decide (a=b)))) H nx) :
 Aa E w ⟨dst,.binOp .eql t x y c,ty,pos,af,gd⟩ L H nx Q :=
 mH e d (fun m F=>⟨.bool (decide (a=b)),by
  have:DL E.P (do eqGuard .eql t x y (.string (bs a)) (.string (bs b));binOp .eql t (.string (bs a)) (.string (bs b)))=some (.bool (decide (a=b))):=by
   rw[binOp_string_eql,TP,TP];rw[show((a==b):Bool)=decide (a=b) by by_cases h:a=b<;>simp[h]];rfl
  assumption,.bool _⟩) q
theorem qi(e:AY E.Γ L x=some (st a))(d:AY E.Γ L y=some (st b))(q:Q (.p (.bool (!decide (a=b)))) H nx) :
 Aa E w ⟨dst,.binOp .neq t x y c,ty,pos,af,gd⟩ L H nx Q :=
 mH e d (fun m F=>⟨.bool (!decide (a=b)),by
  have:DL E.P (do eqGuard .neq t x y (.string (bs a)) (.string (bs b));binOp .neq t (.string (bs a)) (.string (bs b)))=some (.bool (!decide (a=b))):=by
   rw[binOp_string_neq,TP,TP];rw[show((a==b):Bool)=decide (a=b) by by_cases h:a=b<;>simp[h]];rfl
  assumption,.bool _⟩) q
theorem sn(e:AY E.Γ L x=some (st a))(d:AY E.Γ L y=some (st b))(g:a.length+b.length<4611686018427387904)(q:Q (st (a++b)) H nx) :
 Aa E w ⟨dst,.binOp .add t x y c,ty,pos,af,gd⟩ L H nx Q :=
 mH e d (fun m F=>⟨.string (bs (a++b)),by
  have:DL E.P (do eqGuard .add t x y (.string (bs a)) (.string (bs b));binOp .add t (.string (bs a)) (.string (bs b)))=some (.string (bs (a++b))):=by
   rw[binOp_string_add];simp only[Aw,eqGuard,Op.stringOp,Tv];have f:¬ (((a.length+b.length:Nat):Int)>IntKind.i64.max):=by
    have:IntKind.i64.max=9223372036854775807:=by decide
    omega
   rw[if_neg f];rfl
  exact LQ this rfl,.str _⟩) q
theorem j0{t c:TypeId}{x y:Operand}(q:Q (st (a++b)) H nx)(e:AY E.Γ L x=some (st a):=by rfl)(d:AY E.Γ L y=some (st b):=by rfl)(g:a.length+b.length<4611686018427387904:=by(first|omega|(simp only[List.length_take,List.length_drop,List.length_append,List.length_singleton,List.length_cons,List.length_nil]<;>omega))):Aa E w ⟨dst,.binOp .add t x y c,ty,pos,af,gd⟩ L H nx Q:=sn e d g q
theorem rN(e:AY E.Γ L x=some (st l))(g:AY E.Γ L b=some (.p (.int k i)))(f:E.P.underlying t=some .string)(n:0≤i)(s:i<l.length)
 (q:Q (.p (.int .u8 ((gi l i.toNat).toNat:Int))) H nx):Aa E w ⟨dst,.index t x b,ty,pos,af,gd⟩ L H nx Q :=
 Aa.quiet q fun m F σ o d c=>by
  refine⟨.int .u8 ((gi l i.toNat).toNat:Int),fun _=>?_,.p (.int _ _)⟩;have a:i.toNat<l.length:=by omega
  have h:(bs l)[i.toNat]?=some (gi l i.toNat):=by
   have j:i.toNat<(bs l).size:=by assumption
   rw[getElem?_pos (bs l) i.toNat j];simp only[gi,List.getElem?_eq_getElem a,Option.getD_some];rfl
  have r:DL E.P (Instr.index t (.string (bs l)) (.int k i))=some (.int .u8 ((gi l i.toNat).toNat:Int)):=by
   simp only[Instr.index,asIntOf,Aw,Ce,Option.bind_some,Bd,f,n,if_true,h]
  simp only[BX,F5,NQ d c e,CV d c g];rw[show plain (Value.int k i)=true from rfl];grind
theorem nu{i:Nat}(b:AY E.Γ L x=some (st l))(d:AY E.Γ L a=some (.p (.int k (i:Int))))(c:E.P.underlying t=some .string)(e:i<l.length)
 (q:Q (.p (.int .u8 ((gi l i).toNat:Int))) H nx):Aa E w ⟨dst,.index t x a,ty,pos,af,gd⟩ L H nx Q :=
 rN b d c (by omega) (by omega) q
theorem TL{i:Int}{y:Nat}(b:0≤i)(a:i≤y):DL P (Instr.sliceBound (.int k i) y c)=some i.toNat:=by
 simp only[Instr.sliceBound,asIntOf,Aw,Ce,Option.bind_some,b,a,and_self,if_true]
theorem Aa.uq(y:AY E.Γ L x=some (st l))(u:E.P.underlying t=some .string)
 (c:match d with|none=>a=0|some o=>∃k,AY E.Γ L o=some (.p (.int k (a:Int)))) (e:match g with|none=>b=l.length|some o=>∃k,AY E.Γ L o=some (.p (.int k (b:Int))))
 (J:a≤b) (I:b≤l.length) (q:Q (st ((l.take b).drop a)) H nx):Aa E w ⟨dst,.slice t x d g none,ty,pos,af,gd⟩ L H nx Q :=
 Aa.quiet q fun m F σ f j i=>by
  refine⟨.string (bs ((l.take b).drop a)),fun _=>?_,.p (.str _)⟩;have s:(bs l).extract a b=bs ((l.take b).drop a):=by
   unfold bs;rw[ByteArray.extract_mk];congr 2
   rw[List.drop_take]
  have C:ZU E.P (Instr.sliceAt t (.string (bs l)) (d.map (ev f)) (g.map (ev f)) none)=some (.string (bs ((l.take b).drop a))):=by
   refine LQ ?_ rfl;have r:DL E.P (Instr.sliceBounds false (bs l).size (bs l).size (d.map (ev f)) (g.map (ev f)) none)=some (a,b,l.length):=by
    cases g with
    |none =>
     simp only at e;subst e;cases d with
     |none =>
      subst c;rfl
     |some o =>
      obtain⟨k,h⟩:=c;simp only[Instr.sliceBounds,Option.map_none,Option.map_some,Aw,Ce,Option.bind_some,Tv,CV j i h,Option.isSome_none,Bool.false_eq_true,if_false,Int.toNat_natCast,TL (show(0:Int)≤(a:Int) by omega) (show(a:Int)≤((l.length:Nat):Int) by omega)]
    |some z =>
     obtain⟨A,n⟩:=e;cases d with
     |none =>
      simp only at c;subst c;simp only[Instr.sliceBounds,Option.map_none,Option.map_some,Aw,Ce,Option.bind_some,Tv,CV j i n,Bool.false_eq_true,if_false,Int.toNat_natCast,TL (show(0:Int)≤(b:Int) by omega) (show(b:Int)≤((l.length:Nat):Int) by omega)]
     |some o =>
      obtain⟨k,h⟩:=c;simp only[Instr.sliceBounds,Option.map_none,Option.map_some,Aw,Ce,Option.bind_some,Tv,CV j i h,CV j i n,Option.isSome_none,Bool.false_eq_true,if_false,Int.toNat_natCast,
       TL (show(0:Int)≤(b:Int) by omega) (show(b:Int)≤((l.length:Nat):Int) by omega),TL (show(0:Int)≤(a:Int) by omega) (show(a:Int)≤((b:Nat):Int) by omega)]
   simp only[Instr.sliceAt,Instr.slice,Aw,Bd,u,Option.bind_some,Option.isSome_none,Bool.false_eq_true,if_false,r,Ce,s]
  have B:((d.map (ev f)).all plain&&(g.map (ev f)).all plain&&(none:Option Value).isNone)=true:=by
   have M:(d.map (ev f)).all plain=true:=by
    cases d with
    |none=>rfl
    |some o=>obtain⟨k,h⟩:=c;simp only[Option.map_some,Option.all_some,CV j i h];rfl
   have K:(g.map (ev f)).all plain=true:=by
    cases g with
    |none=>rfl
    |some o=>obtain⟨k,h⟩:=e;simp only[Option.map_some,Option.all_some,CV j i h];rfl
   grind
  simp only[BX,F5,aslice,NQ j i y,u,Option.isSome_none,Bool.false_and,Bool.false_eq_true,if_false,Option.map_none];grind
theorem pL{b:Nat}(c:AY E.Γ L x=some (st l))(e:AY E.Γ L o=some (.p (.int k (b:Int))))(d:E.P.underlying t=some .string)(f:b≤l.length)(q:Q (st (l.take b)) H nx) :
 Aa E w ⟨dst,.slice t x none (some o) none,ty,pos,af,gd⟩ L H nx Q:=Aa.uq (a:=0) c d rfl ⟨k,e⟩ (by omega) f (by grind)
theorem sc{a:Nat}(c:AY E.Γ L x=some (st l))(e:AY E.Γ L o=some (.p (.int k (a:Int))))(d:E.P.underlying t=some .string)(f:a≤l.length)(q:Q (st (l.drop a)) H nx) :
 Aa E w ⟨dst,.slice t x (some o) none none,ty,pos,af,gd⟩ L H nx Q:=Aa.uq (b:=l.length) c d ⟨k,e⟩ rfl f (ab _) (by grind)
theorem Zu:∀(l:List UInt8),Du m F (cells l) (l.map fun c=>Value.int .u8 c.toNat)
 |[]=>.nil
 |c::l=>.cons (.int _ _) (Zu l)
theorem lE{s d e:TypeId}(h:AY E.Γ L x=some (st l))(b:E.P.underlying s=some .string)(f:E.P.underlying d=some (.slice e))(k:E.P.underlying e=some (.int .u8))(j:E.P.info? e=some i)(o:i.size=1)
 (z:l.length≤1000000) (q:Q (.vec nx l.length 0 l.length) ((nx,.vec e (cells l) l.length false)::H) (nx+1)):Aa E w ⟨dst,.convert s d x,ty,pos,af,gd⟩ L H nx Q:=by
 intro m F σ t g y;have n:Lh (bs l)=l.map fun c=>Value.int .u8 c.toNat:=by rfl
 obtain⟨u,r,p,_⟩:=OU (e:=e) (cs:=cells l) (vs:=l.map fun(c:UInt8)=>Value.int .u8 (c.toNat:Int)) l.length g (Zu l) (by simp[BQ]);refine GX.op (v:=(AU m e (l.map fun(c:UInt8)=>Value.int .u8 (c.toNat:Int)) l.length).1) (m':=(AU m e (l.map fun(c:UInt8)=>Value.int .u8 (c.toNat:Int)) l.length).2) (fun _=>?_) ⟨_,_,_,F,_,q,u,?_,r,fun _=>p⟩
 ·have a:(JZ E.P s||JZ E.P d)=true:=by simp only[JZ,b,f];rfl
  simp only[BX,F5,a,if_true,Zn,b,f,NQ g y h,k,j];rw[if_pos ⟨o,by rw[Tv];omega⟩,n,Tv]
 assumption
theorem Ry:∀(l:List UInt8),Ya (l.map fun c=>Value.int .u8 c.toNat)=some l
 |[]=>rfl
 |c::l=>by
  have h:=c.toNat_lt;simp only[List.map_cons,Ya];rw[if_pos ⟨by omega,by omega⟩,Ry l];simp
theorem RJ:∀{l:List UInt8} {vs:List Value},Du m F (cells l) vs→vs=l.map fun c=>Value.int .u8 c.toNat
 |[],_,.nil=>rfl
 |c::l,_,.cons h t=>by
  cases h;rw[RJ t];rfl
theorem mE(B:uG E.Γ L H nx x 1 (cells l) k)(C:∃y,AY E.Γ L x=some y∧(∀m F σ v,RP m F (htag H) σ nx y v→∃a g,v=.slice a k g))(n:E.P.underlying s=some (.slice e))(o:E.P.underlying d=some .string)(K:E.P.underlying e=some (.int .u8))
 (q:Q (st l) H nx):Aa E true ⟨dst,.convert s d x,ty,pos,af,gd⟩ L H nx Q :=
 Aa.quiet q fun m F σ z u r=>by
  obtain⟨J,M,b,j,I⟩:=B m F σ z u r;obtain⟨y,A,f⟩:=C;obtain⟨a,g,c⟩:=f m F σ _ (Bz u r A);have h:=RJ j;subst h;rw[c] at b;refine⟨.string (bs l),fun _=>?_,.p (.str _)⟩;have i:(JZ E.P s||JZ E.P d)=true:=by simp only[JZ,n,o];rfl
  simp only[BX,F5,i,if_true,Zn,n,o,c,K,b,Ry];rfl
end
section
open Go.Am
variable {E:Env}{L:Frame}{H:Heap}{nx:Nat}{Q:PV→Heap→Nat→Prop}{w:Bool}
variable {dst:Option Tmp}{ty:TypeId}{pos:String}{af:Array Edge}{gd:Option (Nat×Bool)}
theorem QW:∀(z p c:List α) (o:Nat),CG (p++c) (p.length+o) z=p++CG c o z
 |[],_,_,_=>rfl
 |x::z,p,c,o=>by
  simp only[CG];rw[fR _ _ (by omega),ii,Nat.add_assoc,QW z p (c.set o x) (o+1)]
theorem VZ:∀(z xs ys:List α),z.length=xs.length→CG (xs++ys) 0 z=z++ys
 |[],xs,ys,h=>by rw[br h.symm];rfl
 |x::z,[],ys,h=>by grind
 |x::z,y::xs,ys,h=>by
  simp only[CG,List.cons_append,List.set_cons_zero];have:=QW z [x] (xs++ys) 0;simp only[List.length_singleton,List.singleton_append] at this;rw[this,VZ z xs ys (by grind)]
theorem kL{α:Type}[Enc α](l:List α)(i:Nat)(a:α)(h:i<l.length):CG (cells l) (i*Enc.size α) (Enc.enc a)=cells (l.set i a):=by
 have b:l=l.take i++(gi l i::l.drop (i+1)):=by
  have c:l.drop i=gi l i::l.drop (i+1):=by
   simp[gi,List.getElem?_eq_getElem h]
  conv=>lhs;rw[← fS i l]
  rw[c]
 have e:l.set i a=l.take i++(a::l.drop (i+1)):=by
  conv=>lhs;rw[b]
  rw[fR _ _ (by grind)];rw[av,cD (by omega),cW,List.set_cons_zero]
 rw[e,ET]
 conv=>lhs;rw[b,ET]
 have d:i*Enc.size α=(cells (l.take i)).length+0:=by rw[BD,av,cD (by omega),ee]
 rw[d,QW];congr 1
 exact VZ _ _ _ (by rw[Enc.len,Enc.len])
theorem rK{α:Type}{_:Enc α}{t:TypeId}{x a:Operand}{e:TypeId}{l:List α}{b n:Nat}{z:Bool}{k:IntKind}{i:Int}(c:AY E.Γ L x=some (.vec b n 0 n))(g:hget H b=some (.vec e (cells l) n z))(f:AY E.Γ L a=some (.p (.int k i)))
 (d:elemSize E.P t=some (Enc.size α)) (j:0≤i) (h:i<n) (q:Q (.Fb b n (i.toNat*Enc.size α)) H nx):Aa E w ⟨dst,.indexAddr t x a,ty,pos,af,gd⟩ L H nx Q :=
 ph c g f d j h (by grind)
theorem g9{α:Type}{_:Enc α}{t:TypeId}{x a:Operand}{e:TypeId}{l:List α}{b n:Nat}{z:Bool}{k:IntKind}{i:Nat}(c:AY E.Γ L x=some (.vec b n 0 n))(g:hget H b=some (.vec e (cells l) n z))(f:AY E.Γ L a=some (.p (.int k (i:Int))))
 (d:elemSize E.P t=some (Enc.size α)) (h:i<n) (q:Q (.Fb b n (i*Enc.size α)) H nx):Aa E w ⟨dst,.indexAddr t x a,ty,pos,af,gd⟩ L H nx Q :=
 rK c g f d (by omega) (by omega) q
theorem li{α:Type}{_:Enc α}{t:TypeId}{a:Operand}{b n i:Nat}{e:TypeId}{l:List α}{z:Bool}{r:FV}(f:AY E.Γ L a=some (.Fb b n (i*Enc.size α)))(d:hget H b=some (.vec e (cells l) n z))(c:i<l.length)
 (h:kS E.P t (Enc.enc (gi l i)++cells (l.drop (i+1)))=some r) (q:Q (.p r) H nx):Aa E w ⟨dst,.load t a,ty,pos,af,gd⟩ L H nx Q :=
 rb f d (by rw[Vy l i c];exact h) q
theorem kz{α:Type}{_:Enc α}{t:TypeId}{a x:Operand}{b n i:Nat}{e:TypeId}{l:List α}{z:Bool}{r:PV}{c:TypeInfo}(y:α)(o:AY E.Γ L a=some (.Fb b n (i*Enc.size α)))(h:AY E.Γ L x=some r)(m:hget H b=some (.vec e (cells l) n z))(j:UW r)
 (k:Jv r=(Enc.enc y).map .p) (d:E.P.info? t=some c) (f:Enc.size α=c.size) (s:0<c.size) (g:i<l.length) (q:Q (.DK []) (hput H b (.vec e (cells (l.set i y)) n z)) nx):Aa E true ⟨dst,.store t a x,ty,pos,af,gd⟩ L H nx Q :=
 rI o h m j k d (by rw[Enc.len,f]) s (by
  rw[BD,← f];have:=bk (Enc.size α) g;grind) (by rw[kL l i y g];exact q)
theorem qp{α:Type}[Enc α]{z:List Value}{a:α}(h:z.map Iw=Enc.enc a)(n:Nat):(AO z n).map Iw=cells (List.replicate n a):=by
 induction n with
 |zero=>rfl
 |succ n b=>simp only[AO,List.map_append,h,b,List.replicate_succ,cells,encs]
theorem ll{α:Type}{_:Enc α}{t e:TypeId}{l c:Operand}(n:Nat)(a:α){k1 g:IntKind}{v v':Int}{z:List Value}{i:TypeInfo}(m:E.P.underlying t=some (.slice e))(s:E.P.info? e=some i)(h:Ci E.P e=some z)(r:AY E.Γ L l=some (.p (.int k1 v)))(u:AY E.Γ L c=some (.p (.int g v')))
 (j:v=n) (d:v'=n) (y:n<1000000) (f:i.bytes<1000000) (o:z.length=i.size∧0<i.size) (x:z.map Iw=Enc.enc a) (q:Q (.vec nx n 0 n) ((nx,.vec e (cells (List.replicate n a)) n false)::H) (nx+1)):Aa E w ⟨dst,.makeSlice t l c,ty,pos,af,gd⟩ L H nx Q :=
 Aa.makeSlice (n:=n) m s h (by rw[r,j]) (by rw[u,d]) ⟨by have:=qM (n:=n) (k:=0) (b:=i.bytes) (by omega) f;omega,by omega⟩ o (by rw[qp x];exact q)
theorem qt(e:AY E.Γ L x=some (.p (.int .u64 a)))(d:AY E.Γ L y=some (.p (.int .u64 b)))(h:0≤a+b∧a+b<18446744073709551616)(q:Q (.p (.int .u64 (a+b))) H nx) :
 Aa E w ⟨dst,.binOp .add t x y c,ty,pos,af,gd⟩ L H nx Q:=Aa.int e d (r:=.int .u64 (a+b)) (by simp only[Lc,wrap_u64 h.1 h.2]) q
theorem qS(e:AY E.Γ L x=some (.p (.int .u64 a)))(d:AY E.Γ L y=some (.p (.int .u64 b)))(h:0≤a-b∧a-b<18446744073709551616)(q:Q (.p (.int .u64 (a-b))) H nx) :
 Aa E w ⟨dst,.binOp .sub t x y c,ty,pos,af,gd⟩ L H nx Q:=Aa.int e d (r:=.int .u64 (a-b)) (by simp only[Lc,wrap_u64 h.1 h.2]) q
theorem qv(e:AY E.Γ L x=some (.p (.int .u64 a)))(d:AY E.Γ L y=some (.p (.int .u64 b)))(h:0≤a*b∧a*b<18446744073709551616)(q:Q (.p (.int .u64 (a*b))) H nx) :
 Aa E w ⟨dst,.binOp .mul t x y c,ty,pos,af,gd⟩ L H nx Q:=Aa.int e d (r:=.int .u64 (a*b)) (by simp only[Lc,wrap_u64 h.1 h.2]) q
theorem qk(f:AY E.Γ L x=some (.p (.int .u64 a)))(e:AY E.Γ L y=some (.p (.int .u64 c)))(b:0≤a∧a<18446744073709551616)(h:0<c)(q:Q (.p (.int .u64 (a / c))) H nx) :
 Aa E w ⟨dst,.binOp .quo t x y d,ty,pos,af,gd⟩ L H nx Q:=by
 refine Aa.int f e (r:=.int .u64 (a / c)) ?_ q;simp only[Lc];rw[if_neg (by omega),Int.tdiv_eq_ediv_of_nonneg b.1];have g:0≤a / c:=Int.ediv_nonneg b.1 (by omega);have i:a / c≤a:=Int.ediv_le_self c b.1;rw[wrap_u64 g (by omega)]
theorem wrap_u8(a:0≤n)(h:n<256):IntKind.u8.wrap n=n:=by
 simp only[IntKind.wrap,IntKind.bits,IntKind.signed,Bool.false_and,Bool.false_eq_true,if_false];omega
theorem qD(e:AY E.Γ L x=some (.p (.int .u8 a)))(d:AY E.Γ L y=some (.p (.int .u8 b)))(h:0≤a-b∧a-b<256)(q:Q (.p (.int .u8 (a-b))) H nx) :
 Aa E w ⟨dst,.binOp .sub t x y c,ty,pos,af,gd⟩ L H nx Q:=Aa.int e d (r:=.int .u8 (a-b)) (by simp only[Lc,wrap_u8 h.1 h.2]) q
theorem mf(e:AY E.Γ L x=some (.p (.int k' n)))(f:E.P.underlying s=some b)(a:zi b=true)(g:E.P.underlying d=some (.int .u64))(c:0≤n∧n<18446744073709551616)(q:Q (.p (.int .u64 n)) H nx) :
 Aa E w ⟨dst,.convert s d x,ty,pos,af,gd⟩ L H nx Q:=nk e f a g (by rw[wrap_u64 c.1 c.2];exact q)
theorem kc(e:AY E.Γ L x=some (.p (.int k' n)))(f:E.P.underlying s=some b)(a:zi b=true)(g:E.P.underlying d=some (.int .u8))(c:0≤n∧n<256)(q:Q (.p (.int .u8 n)) H nx) :
 Aa E w ⟨dst,.convert s d x,ty,pos,af,gd⟩ L H nx Q:=nk e f a g (by rw[wrap_u8 c.1 c.2];exact q)
theorem Aa.neg(b:AY E.Γ L x=some (.p (.int .i64 a)))(h:-9223372036854775808≤-a∧-a<9223372036854775808)(q:Q (.p (.int .i64 (-a))) H nx):Aa E w ⟨dst,.unOp .neg t x,ty,pos,af,gd⟩ L H nx Q :=
 Aa.quiet q fun m F σ f e d=>by
  refine⟨.int .i64 (-a),fun _=>?_,.p (.int _ _)⟩;have c:DL E.P (Op.unary .neg (.int .i64 a))=some (.int .i64 (-a)):=by
   simp only[Op.unary,Op.intArith,Int.zero_sub,wrap_i64 h];rfl
  simp only[BX,F5,CV e d b];rw[show plain (Value.int IntKind.i64 a)=true from rfl];simp only[if_true,LQ c rfl,Option.map_some]
theorem qn(i:AY E.Γ L x=some (.p (.bool a)))(h:AY E.Γ L y=some (.p (.bool b)))(j:E.P.underlying t=some .bool)(k:op=.eql∧r=(a==b)∨op=.neq∧r=(a != b))(q:Q (.p (.bool r)) H nx) :
 Aa E w ⟨dst,.binOp op t x y g,ty,pos,af,gd⟩ L H nx Q :=
 Aa.quiet q fun m F σ o f e=>by
  refine⟨.bool r,fun _=>?_,.p (.bool _)⟩;have l:DL E.P (do eqGuard op t x y (.bool a) (.bool b);binOp op t (.bool a) (.bool b))=some (.bool r):=by
   have n:∀d,DL E.P (Op.equalIn (d+1) t (.bool a) (.bool b))=some (a==b):=fun d=>by
    simp only[Op.equalIn,Aw,Bd,j,Option.bind_some];rfl
   have c:DL E.P (Op.equal t (.bool a) (.bool b))=some (a==b):=n (Op.maxDepth-1);rcases k with⟨rfl,rfl⟩|⟨rfl,rfl⟩
   ·show DL E.P (do eqGuard .eql t x y (.bool a) (.bool b);(do pure (.bool (← Op.equal t (.bool a) (.bool b))):Sem Value))=_
    simp only[eqGuard,Aw,c,Option.bind_some,Ce];rfl
   ·show DL E.P (do eqGuard .neq t x y (.bool a) (.bool b);(do pure (.bool (!(← Op.equal t (.bool a) (.bool b)))):Sem Value))=_
    simp only[eqGuard,Aw,c,Option.bind_some,Ce];rfl
  simp only[BX,F5,IU f e i,IU f e h,QT];rw[show(plain (Value.bool a)&&plain (Value.bool b))=true from rfl];simp only[if_true,LQ l rfl,Option.map_some]
theorem oR(e:AY E.Γ L x=some (.p (.bool a)))(d:AY E.Γ L y=some (.p (.bool b)))(f:E.P.underlying t=some .bool)(q:Q (.p (.bool (a != b))) H nx) :
 Aa E w ⟨dst,.binOp .neq t x y c,ty,pos,af,gd⟩ L H nx Q:=qn e d f (.inr ⟨rfl,rfl⟩) q
theorem lO(i:AY E.Γ L x=some (.p (.int .i64 a)))(h:AY E.Γ L y=some (.p (.int .i64 b)))(q:Q (.p (.int .i64 (max a b))) H nx) :
 Aa E w ⟨dst,.call { callee:=.builtin .max,args:=#[x,y],argTypes:=g },ty,pos,af,gd⟩ L H nx Q :=
 Aa.quiet q fun m F σ c f e=>by
  refine⟨.int .i64 (max a b),fun _=>?_,.p (.int _ _)⟩;have d:(#[x,y]:Array Operand).map (ev c)=#[.int .i64 a,.int .i64 b]:=by simp[CV f e i,CV f e h]
  have j:((#[x,y]:Array Operand).map (ev c)).toList.all plain=true:=by rw[d];rfl
  have k:DL E.P (Builtin.max_ g ty #[.int .i64 a,.int .i64 b])=some (.int .i64 (max a b)):=by
   simp only[Builtin.max_,List.foldlM_cons,List.foldlM_nil,Builtin.max2,Aw,Ce,Option.bind_some];grind
  simp only[BX,F5,j,if_true];rw[d,LQ k rfl];rfl
theorem mr(i:AY E.Γ L x=some (.p (.int .i64 a)))(h:AY E.Γ L y=some (.p (.int .i64 b)))(q:Q (.p (.int .i64 (min a b))) H nx) :
 Aa E w ⟨dst,.call { callee:=.builtin .min,args:=#[x,y],argTypes:=g },ty,pos,af,gd⟩ L H nx Q :=
 Aa.quiet q fun m F σ c f e=>by
  refine⟨.int .i64 (min a b),fun _=>?_,.p (.int _ _)⟩;have d:(#[x,y]:Array Operand).map (ev c)=#[.int .i64 a,.int .i64 b]:=by simp[CV f e i,CV f e h]
  have j:((#[x,y]:Array Operand).map (ev c)).toList.all plain=true:=by rw[d];rfl
  have k:DL E.P (Builtin.min_ g ty #[.int .i64 a,.int .i64 b])=some (.int .i64 (min a b)):=by
   simp only[Builtin.min_,List.foldlM_cons,List.foldlM_nil,Builtin.min2,Aw,Ce,Option.bind_some];grind
  simp only[BX,F5,j,if_true];rw[d,LQ k rfl];rfl
end
section
open Go.Am
section
variable {P:Program}{G:List Nat}
theorem DR.below(a:DR P G ι m w)(d:Go.RowKit.Below w.heap.size w w'):DR P G ι m w':=by
 refine⟨fun b c h=>?_,fun b c h=>?_,a.inj,a.glob⟩
 ·have:=a.dom b c h
  have:=d.size;omega
 ·rw[d.block _ (a.dom b c h).2];exact a.blk b c h
theorem Post.below(e:DR P G ι m w)(a:Go.RowKit.Below w.heap.size w w')(f:plain v=true):Post P G ι m w v m v w':=by
 refine⟨ι,⟨ab _,ab _,fun _ _ _=>rfl,fun _ _ _=>rfl,fun _ _=>rfl,Le.refl _ _,fun b d h=>.inl ⟨d,h,rfl⟩,fun b d h=>.inl ⟨d,h⟩,a.size,fun c g _=>a.block c g,a.tape,a.os,a.output⟩,DR.below e a,Az.plain f⟩
abbrev gu:=List Value→Mem→Option Value
open Classical in
noncomputable def sF(G:List Nat)(M0:Mem)(ls:List (FuncId×gu)):BG:=fun f =>
 match ls.lookup f with
 |some F=>some fun Bo m=>if ∀k∈G,m.get k=M0.get k then(F Bo m).map fun v=>(v,m) else none
 |none=>none
structure Xe(P:Program)(G:List Nat)(M0:Mem)(f:FuncId)(F:gu):Prop where
 d0u:∀n lb m,F (EN n lb) m=none
 enters:Enters P f
 calls:∀ι m w (Bo:List Value) (as':Array Value) v,DR P G ι m w→(∀k∈G,m.get k=M0.get k)→BF ι m.gen Bo as'.toList→F Bo m=some v→plain v=true∧Calls P f as' w fun e w'=>e=.returned v∧Go.RowKit.Below w.heap.size w w'
theorem dD{α:Type}{a:α}:∀{c:List (FuncId×α)},c.lookup f=some a→(f,a)∈c
 |[],h=>by grind
 |(g,b)::c,h=>by
  rw[List.lookup_cons] at h;cases hg:f==g with
  |true =>
   grind
  |false=>rw[hg] at h;exact am _ (dD h)
theorem a4a(h:∀x∈j,Xe P G o x.1 x.2):EI P G (sF G o j):=by
 intro f C d;unfold sF at d;split at d
 ·rename_i F s
  cases d;have c:=h _ (dD s);refine⟨fun q m v r a ι w i p b=>?_,fun q m v r a=>?_,c.enters,UD.none fun n k m=>by
   have B:F (EN n k) m=none:=c.d0u n k m;grind⟩
  ·simp only at a
   split at a
   ·rename_i y
    rw[ae] at a;obtain⟨u,l,g⟩:=a;cases g;obtain⟨A,z⟩:=c.calls ι m w q i v p y b l;exact z.mono fun e w' ⟨he,hb⟩=>⟨v,he,Post.below p hb A⟩
   grind
  ·simp only at a
   split at a
   ·rw[ae] at a
    obtain⟨u,l,g⟩:=a;cases g;exact AQ.refl _
   grind
 grind
end
section
variable {P:Program}
noncomputable def d3w(P:Program)(F:Nat)(laid:List (String×DataW Unit))(ls:List (FuncId×gu)):Env :=
 ⟨P,sF (Au P F laid) (AX P F laid) ls,Au P F laid,gam P F laid⟩
theorem a7v(h:a.lookup f=none):sF G b a f=none:=by
 unfold sF;rw[h]
variable {H:Type}{enc:TypeId×Value→H}{W:World}{held:Bool}
end
theorem RF.cellsOf(h:RF m F (.lst e cs n) v)(i:cs.length=n*sz):∃vs,BH m sz n v=some vs∧Du m F cs vs∧lenOf v=some n:=by
 cases h with
 |nil e=>exact⟨[],rfl,.nil,rfl⟩
 |room e b o g=>exact⟨[],rfl,.nil,rfl⟩
 |lst k f c d j =>
  rename_i b o g vs a ro;refine⟨a,?_,d,rfl⟩;have:m.Es ⟨b,o,some g⟩ (n*sz)=some a:=by
   unfold Mem.Es;simp only[f,MK,Option.getD_some,if_true,← i,c]
  cases n with
  |zero=>assumption
  |succ n=>simp only[BH,Nat.le_refl,if_true,this]
theorem OD(I:DR P G ι m w)(C:Az ι m.gen s s')(i:lenOf s=some n)(K:∀b,s≠.string b)(h:BH m 1 n s=some l) :
 ∃a cap,s'=.slice a n cap∧l.length=n∧(a=none∧n=0∨∃A,a=some A∧A.spot=none∨n=0)∧∀A,a=some A→∀j v,l[j]?=some v→plain v=true→w.cell? (A.add j)=some v:=by
 have r:=Eb h;cases C with
 |Dy=>cases i;grind
 |slE b o s p =>
  cases i;grind
 |sl b d len gen p cap q =>
  cases i;refine⟨some p,cap,rfl,by omega,?_,fun A O j v u J=>?_⟩
  ·rcases bq n with h0|h0
   ·simp_all
   ·refine .inr ⟨p,.inl ⟨rfl,?_⟩⟩
    have c:m.Es ⟨b,d,some gen⟩ n=some l:=by unfold BH at h;grind
    obtain⟨T,e,g,ro,X,k,x,_,_⟩:=Ju c;obtain⟨V,_,_,_,y⟩:=q;have z:gen=g:=k;grind
  ·cases O
   have M:=(bw.1 u).1;have f:0<n:=by omega
   have N:=Kv q (fun _=>f) 0;rw[Addr.add_zero'] at N;have c:m.Es ⟨b,d,some gen⟩ n=some l:=by unfold BH at h;grind
   obtain⟨U,S,h2,Z⟩:=KY I (by omega) c;obtain⟨B,Y,R⟩:=S.get u;have e2:B=v:=R.BL J;grind
 |str b=>grind
 |_=>cases i
end
section
open Go.Am
variable {E:Env}{L:Frame}{H:Heap}{nx:Nat}{Q:PV→Heap→Nat→Prop}{w:Bool}
variable {dst:Option Tmp}{ty:TypeId}{pos:String}{af:Array Edge}{gd:Option (Nat×Bool)}
theorem mI{a b:Nat}(e:AY E.Γ L x=some (.p (.int .u64 (a:Int))))(d:AY E.Γ L y=some (.p (.int .u64 (b:Int))))(h:a+b<18446744073709551616)(q:Q (.p (.int .u64 ((a+b:Nat):Int))) H nx) :
 Aa E w ⟨dst,.binOp .add t x y c,ty,pos,af,gd⟩ L H nx Q:=qt e d (by omega) (by grind)
theorem o5{a b:Nat}(e:AY E.Γ L x=some (.p (.int .u64 (a:Int))))(d:AY E.Γ L y=some (.p (.int .u64 (b:Int))))(h:a*b<18446744073709551616)(q:Q (.p (.int .u64 ((a*b:Nat):Int))) H nx) :
 Aa E w ⟨dst,.binOp .mul t x y c,ty,pos,af,gd⟩ L H nx Q:=qv e d (by omega) (by grind)
theorem rh{a b:Nat}(e:AY E.Γ L x=some (.p (.int .u64 (a:Int))))(d:AY E.Γ L y=some (.p (.int .u64 (b:Int))))(h:b≤a∧a<18446744073709551616)(q:Q (.p (.int .u64 ((a-b:Nat):Int))) H nx) :
 Aa E w ⟨dst,.binOp .sub t x y c,ty,pos,af,gd⟩ L H nx Q:=qS e d (by omega) (by grind)
theorem q8{a c:Nat}(e:AY E.Γ L x=some (.p (.int .u64 (a:Int))))(d:AY E.Γ L y=some (.p (.int .u64 (c:Int))))(h:a<18446744073709551616∧0<c)(q:Q (.p (.int .u64 ((a / c:Nat):Int))) H nx) :
 Aa E w ⟨dst,.binOp .quo t x y b,ty,pos,af,gd⟩ L H nx Q:=qk e d (by omega) (by omega) (by grind)
theorem pc{a c:Nat}(e:AY E.Γ L x=some (.p (.int .u64 (a:Int))))(d:AY E.Γ L y=some (.p (.int .u64 (c:Int))))(h:0<c)(q:Q (.p (.int .u64 ((a%c:Nat):Int))) H nx) :
 Aa E w ⟨dst,.binOp .rem t x y b,ty,pos,af,gd⟩ L H nx Q:=qz e d h q
theorem q9{a:Nat}{c:Int}(d:AY E.Γ L x=some (.p (.int .u64 (a:Int))))(e:AY E.Γ L y=some (.p (.int .u64 c)))(h:a<18446744073709551616∧0<c)(q:Q (.p (.int .u64 ((a / c.toNat:Nat):Int))) H nx) :
 Aa E w ⟨dst,.binOp .quo t x y b,ty,pos,af,gd⟩ L H nx Q:=q8 (c:=c.toNat) d (by grind) (by omega) q
theorem qT{a:Nat}{c:Int}(d:AY E.Γ L x=some (.p (.int .u64 (a:Int))))(e:AY E.Γ L y=some (.p (.int .u64 c)))(h:0<c)(q:Q (.p (.int .u64 ((a%c.toNat:Nat):Int))) H nx) :
 Aa E w ⟨dst,.binOp .rem t x y b,ty,pos,af,gd⟩ L H nx Q:=pc (c:=c.toNat) d (by grind) (by omega) q
theorem oY{m n:Nat}(c:AY E.Γ L x=some (.p (.int .i64 (m:Int))))(b:AY E.Γ L y=some (.p (.int .i64 (n:Int))))(h:m<9223372036854775808∧n<9223372036854775808)(q:Q (.p (.int .i64 ((m &&& n:Nat):Int))) H nx) :
 Aa E w ⟨dst,.binOp .and t x y a,ty,pos,af,gd⟩ L H nx Q:=Aa.int c b (xw (.inl ⟨rfl,h.1⟩) (by omega)) q
theorem re{a c:Nat}(e:AY E.Γ L x=some (.p (.int .u8 (a:Int))))(d:AY E.Γ L y=some (.p (.int .u8 (c:Int))))(h:c≤a∧a<256)(q:Q (.p (.int .u8 ((a-c:Nat):Int))) H nx) :
 Aa E w ⟨dst,.binOp .sub t x y b,ty,pos,af,gd⟩ L H nx Q:=qD e d (by omega) (by grind)
structure Hd(Q:Prop):Prop where
 o:Q
theorem go0{P Q:Prop}(q:Q)(h:Hd Q→P:=by intro q;repeat1' (first|apply Ad.assoc|apply f9|apply jx|apply jt|apply BK.normal|apply Bj.normal|apply Bj.exit|apply Aj.exit|apply Ad.ret|apply Ah.nil|apply c9|(apply Aa.assign;rfl)|(apply Aa.move;rfl)|(apply jl;rfl;rfl;omega)|refine a7 ?_|(apply Aa.load;rfl;rfl)|(apply kb;rfl;rfl)|(apply e8;rfl;rfl;rfl)|(apply Aa.alloc;rfl)|refine d9 ?_|fail);exact q.o):P:=h ⟨q⟩
theorem go1{P Q:Prop}(q:Q)(h:Hd Q→P:=by intro q;repeat1' (first|apply Ad.assoc|apply ce|apply Ad.region|apply f9|apply kj|apply jx|apply jt|apply BK.normal|apply BK.ret|apply Bj.normal|apply Bj.ret|apply Bj.exit|apply Aj.ret|apply Aj.exit|apply Ad.ret|apply Ad.skip|apply Ah.nil|apply c9|(apply Aa.assign;rfl)|(apply Aa.move;rfl)|(apply jl;rfl;rfl;omega)|(apply Aa.load;rfl;rfl)|(apply kb;rfl;rfl)|(apply e8;rfl;rfl;rfl)|(apply Aa.box;rfl;trivial)|(apply Aa.alloc;rfl)|(apply Aa.extract;rfl;rfl));exact q.o):P:=h ⟨q⟩
theorem go2{P Q:Prop}(q:Q)(h:Hd Q→P:=by intro q;repeat1' (first|apply Ad.assoc|apply f9|apply kj|apply jx|apply jt|apply BK.normal|apply BK.ret|apply Bj.normal|apply Bj.ret|apply Bj.exit|apply Aj.exit|apply Ad.ret|apply Ad.skip|apply Ah.nil|apply Ai.nil|apply c9|(apply Ai.bar;decide +kernel)|apply Ai.quiet|(apply Ah.take;rfl;rfl)|(apply ox;rfl;rfl)|(apply Ah.drop;rfl;rfl;rfl)|(apply nc;rfl;rfl)|(apply Ai.drop;rfl;rfl;rfl)|(apply Aa.assign;rfl)|(apply Aa.move;rfl)|(apply jl;rfl;rfl;omega)|(apply lh;rfl;rfl;omega)|(apply kA;rfl;rfl;omega;omega)|(apply Aa.load;rfl;rfl)|(apply lk;rfl;rfl)|(apply lv;rfl;rfl)|(apply kb;rfl;rfl)|(apply e8;rfl;rfl;rfl)|(apply nh;rfl;rfl)|(apply Aa.box;rfl;trivial)|(apply Aa.alloc;rfl)|refine d9 ?_|(apply Aa.not;rfl)|(apply Aa.extract;rfl;rfl));exact q.o):P:=h ⟨q⟩
theorem Fh{P Q:Prop}(q:Q)(h:Hd Q→P:=by intro q;repeat1' (first|apply Ad.assoc|apply ce|apply Ad.region|apply f9|apply kj|apply jx|apply jt|apply BK.normal|apply BK.ret|apply Bj.normal|apply Bj.ret|apply Bj.exit|apply Aj.ret|apply Aj.exit|apply Ad.ret|apply Ad.skip|apply Ah.nil|apply c9|(apply Ah.take;rfl;rfl)|(apply Ah.drop;rfl;rfl;rfl)|(apply nc;rfl;rfl)|(apply Aa.assign;rfl)|(apply Aa.move;rfl)|(apply jl;rfl;rfl;omega)|(apply lh;rfl;rfl;omega)|(apply mK;rfl;rfl;omega)|(apply oF;rfl;rfl;omega;omega)|(apply rL;rfl;rfl;omega;omega)|(apply li;rfl;rfl;omega;rfl)|(apply Aa.load;rfl;rfl)|(apply lk;rfl;rfl)|(apply lv;rfl;rfl)|(apply kb;rfl;rfl)|(apply e8;rfl;rfl;rfl)|(apply Aa.box;rfl;trivial)|(apply Aa.alloc;rfl)|refine d9 ?_|(apply Aa.not;rfl)|(apply Aa.extract;rfl;rfl));exact q.o):P:=h ⟨q⟩
theorem Fj{P Q:Prop}(q:Q)(h:Hd Q→P:=by intro q;repeat1' (first|apply Ad.assoc|apply ce|apply da|apply Ad.region|apply ka|apply f9|apply kj|apply jx|apply jt|apply BK.normal|apply BK.ret|apply Bj.normal|apply Bj.ret|apply Bj.exit|apply Aj.ret|apply Aj.exit|apply Ad.ret|apply Ad.skip|apply Ah.nil|apply Ai.nil|apply c9|(apply Ai.bar;decide +kernel)|apply Ai.quiet|(apply Ah.take;rfl;rfl)|(apply Ah.drop;rfl;rfl;rfl)|(apply nc;rfl;rfl)|(apply Ai.drop;rfl;rfl;rfl)|(apply Aa.assign;rfl)|(apply Aa.move;rfl)|(apply jl;rfl;rfl;omega)|(apply lh;rfl;rfl;omega)|(apply mK;rfl;rfl;omega)|(apply re (c := 48);rfl;rfl;omega)|(apply mI;rfl;rfl;omega)|(apply pc;rfl;rfl;omega)|(apply o5 (a := 10);rfl;rfl;omega)|(apply oF;rfl;rfl;omega;omega)|(apply kA;rfl;rfl;omega;omega)|refine a7 ?_|(apply li;rfl;rfl;omega;rfl)|(apply Aa.load;rfl;rfl)|(apply lk;rfl;rfl)|(apply lv;rfl;rfl)|(apply kb;rfl;rfl)|(apply e8;rfl;rfl;rfl)|(apply nh;rfl;rfl)|(apply Aa.box;rfl;trivial)|(apply Aa.alloc;rfl)|refine d9 ?_|(apply Aa.not;rfl)|(apply Aa.extract;rfl;rfl));exact q.o):P:=h ⟨q⟩
theorem KP{P Q:Prop}(q:Q)(h:Hd Q→P:=by intro q;repeat1' (first|apply Ad.assoc|apply ce|apply da|apply Ad.region|apply ka|apply f9|apply kj|apply jx|apply jt|apply BK.normal|apply BK.ret|apply Bj.normal|apply Bj.ret|apply Bj.exit|apply Aj.ret|apply Aj.exit|apply Ad.ret|apply Ad.skip|apply Ah.nil|apply Ai.nil|apply c9|(apply Ai.bar;decide +kernel)|apply Ai.quiet|(apply Ah.take;rfl;rfl)|(apply ox;rfl;rfl)|(apply Ah.drop;rfl;rfl;rfl)|(apply Ai.drop;rfl;rfl;rfl)|(apply Aa.assign;rfl)|(apply Aa.move;rfl)|(apply jl;rfl;rfl;omega)|(apply lh;rfl;rfl;omega)|(apply mK;rfl;rfl;omega)|(apply mI;rfl;rfl;omega)|(apply o5;rfl;rfl;omega)|(apply q9;rfl;rfl;omega)|(apply qT;rfl;rfl;omega)|(apply oY;rfl;rfl;omega)|(apply oX;rfl;rfl;omega;omega)|(apply kA;rfl;rfl;omega;omega)|(apply li;rfl;rfl;omega;rfl)|(apply Aa.load;rfl;rfl)|(apply lk;rfl;rfl)|(apply lv;rfl;rfl)|(apply kb;rfl;rfl)|(apply e8;rfl;rfl;rfl)|(apply nh;rfl;rfl)|(apply Aa.box;rfl;trivial)|(apply Aa.alloc;rfl)|refine d9 ?_|(apply Aa.not;rfl)|(apply Aa.extract;rfl;rfl));exact q.o):P:=h ⟨q⟩
theorem rS{a b:Int}(e:AY E.Γ L x=some (st l))(g:AY E.Γ L c=some (.p (.int k a)))(i:AY E.Γ L d=some (.p (.int k' b)))(f:E.P.underlying t=some .string)(h:0≤a∧a≤b∧b≤l.length)
 (q:Q (st ((l.take b.toNat).drop a.toNat)) H nx):Aa E w ⟨dst,.slice t x (some c) (some d) none,ty,pos,af,gd⟩ L H nx Q :=
 Aa.uq (a:=a.toNat) (b:=b.toNat) e f ⟨k,by grind⟩ ⟨k',by grind⟩ (by omega) (by omega) q
theorem Aa.b4q{α:Type}{_:Enc α}{l:List α}{t:TypeId}{x o:Operand}{e:TypeId}{n:Nat}{a:TypeInfo}{k:IntKind}{b:Int}(g:AY E.Γ L x=some (.p (.lst e (cells l) n)))(f:AY E.Γ L o=some (.p (.int k b)))(h:E.P.underlying t=some (.slice e))(d:E.P.info? e=some a)
 (c:a.size=Enc.size α) (i:l.length=n) (j:0≤b∧b≤l.length) (q:Q (.p (.lst e (cells (l.take b.toNat)) b.toNat)) H nx):Aa E w ⟨dst,.slice t x none (some o) none,ty,pos,af,gd⟩ L H nx Q :=
 kh (b:=b.toNat) g (by rw[f];congr 3;omega) h d c i (by omega) q
end
end Go.Vm
namespace Go.Proofs
open Go.Shelf
def Tryz.lays170_ren:Go.Shelf.Ren:=⟨fun|170=>192|n=>n,fun|70=>275|3=>3|0=>0|72=>277|37=>27|5=>5|n=>n,fun|n=>n⟩
def Tryz.lays169_ren:Go.Shelf.Ren:=⟨fun|169=>161|n=>n,fun|70=>275|9=>9|0=>0|72=>277|37=>27|127=>317|3=>3|5=>5|n=>n,fun|n=>n⟩
theorem mn:Go.Proofs.Lays.n169 Tryz.prog Tryz.lays169_ren:={
 mixed:=by rfl
 f169:=Tryz.func161.trans (congrArg some (by rfl))
 t0:=Tryz.underlying0
 a0:=Tryz.isAgg0
 z0:=Tryz.sizeOf0
 v0:=Tryz.zeroValue0
 t3:=Tryz.underlying3
 a3:=Tryz.isAgg3
 z3:=Tryz.sizeOf3
 v3:=Tryz.zeroValue3
 t9:=Tryz.underlying9
 a9:=Tryz.isAgg9
 z9:=Tryz.sizeOf9
 v9:=Tryz.zeroValue9
 t37:=Tryz.underlying27
 a37:=Tryz.isAgg27
 z37:=Tryz.sizeOf27
 v37:=Tryz.zeroValue27
 t70:=Tryz.underlying275
 a70:=Tryz.isAgg275
 z70:=Tryz.sizeOf275
 v70:=Tryz.zeroValue275
 t72:=Tryz.underlying277
 a72:=Tryz.isAgg277
 z72:=Tryz.sizeOf277
 v72:=Tryz.zeroValue277
 t127:=Tryz.underlying317
 a127:=Tryz.isAgg317
 z127:=Tryz.sizeOf317
 v127:=Tryz.zeroValue317 }
theorem ke:Builder.Extra Tryz.prog Tryz.lays169_ren:={
 sizeBuilder:=by kernel_rfl
 liesBuilder:=by kernel_rfl
 t5:=Tryz.underlying5
 a5:=Tryz.isAgg5
 z5:=Tryz.sizeOf5
 v5:=Tryz.zeroValue5
 infoByte:=by kernel_rfl
 cellsByte:=by kernel_rfl
 sizeByte:=by kernel_rfl
 neB5:=by decide }
def Tryz.lays241_ren:Go.Shelf.Ren:=⟨fun|241=>209|277=>219|n=>n,fun|70=>275|3=>3|0=>0|72=>277|37=>27|5=>5|n=>n,fun|n=>n⟩
def Tryz.lays165_ren:Go.Shelf.Ren:=⟨fun|165=>191|240=>188|241=>209|276=>206|277=>219|n=>n,fun|70=>275|3=>3|0=>0|4=>4|9=>9|20=>20|72=>277|37=>27|164=>330|5=>5|n=>n,fun|n=>n⟩
def Tryz.lays213_ren:Go.Shelf.Ren:=⟨fun|213=>221|265=>223|n=>n,fun|9=>9|3=>3|n=>n,fun|n=>n⟩
def Tryz.lays106_ren:Go.Shelf.Ren:=⟨fun|106=>213|213=>221|265=>223|n=>n,fun|9=>9|3=>3|n=>n,fun|n=>n⟩
theorem mo:Go.Proofs.Lays.n106 Tryz.prog Tryz.lays106_ren:={
 mixed:=by rfl
 f106:=Tryz.func213.trans (congrArg some (by rfl))
 f213:=Tryz.func221.trans (congrArg some (by rfl))
 f265:=Tryz.func223.trans (congrArg some (by rfl))
 t3:=Tryz.underlying3
 a3:=Tryz.isAgg3
 z3:=Tryz.sizeOf3
 v3:=Tryz.zeroValue3
 t9:=Tryz.underlying9
 a9:=Tryz.isAgg9
 z9:=Tryz.sizeOf9
 v9:=Tryz.zeroValue9 }
open Go.RowKit in
theorem Tryz.strings_Compare(a b:ByteArray)(w:World) :
 Calls Tryz.prog 213 #[.string a,.string b] w fun e w'=>e=.returned (.int .i64 (Lib.compareBytes a.data.toList b.data.toList))∧w'=w:=Any.strings_Compare mo a b w
open Go.RowKit in
theorem Tryz.Builder_String_any_k(B b:Nat)(l:List UInt8)(w:World)(h:Lib.IsBuilderF 277 5 B b (Lib.byteCells l) w)(a:B≤w.heap.size) :
 Calls Tryz.prog 161 #[.pointer (some ⟨b,0,none⟩)] w fun e w'=>e=.returned (.string ⟨l.toArray⟩)∧(Lib.IsBuilderF 277 5 B b (Lib.byteCells l) w'∧Below B w w'∧Lib.OthersKept 5 (some b) w w'):=Any.Builder_String_any_k mn ke B b l w h a
def Tryz.lays129_ren:Go.Shelf.Ren:=⟨fun|129=>112|n=>n,fun|53=>104|3=>3|4=>4|46=>154|5=>5|9=>9|n=>n,fun|n=>n⟩
def Tryz.lays317_ren:Go.Shelf.Ren:=⟨fun|317=>215|n=>n,fun|3=>3|46=>154|n=>n,fun|n=>n⟩
def Tryz.lays318_ren:Go.Shelf.Ren:=⟨fun|318=>216|n=>n,fun|3=>3|4=>4|n=>n,fun|n=>n⟩
def Tryz.lays283_ren:Go.Shelf.Ren:=⟨fun|283=>202|n=>n,fun|3=>3|9=>9|4=>4|n=>n,fun|n=>n⟩
theorem ml:Go.Proofs.Lays.n283 Tryz.prog Tryz.lays283_ren:={
 mixed:=by rfl
 f283:=Tryz.func202.trans (congrArg some (by rfl))
 t3:=Tryz.underlying3
 a3:=Tryz.isAgg3
 z3:=Tryz.sizeOf3
 v3:=Tryz.zeroValue3
 t4:=Tryz.underlying4
 a4:=Tryz.isAgg4
 z4:=Tryz.sizeOf4
 v4:=Tryz.zeroValue4
 t9:=Tryz.underlying9
 a9:=Tryz.isAgg9
 z9:=Tryz.sizeOf9
 v9:=Tryz.zeroValue9 }
open Go.Lib in
theorem Tryz.internal_strconv_small(i:Nat)(h:i<100)(w:World) :
 Calls Tryz.prog 202 #[.int .i64 i] w fun e w'=>e=.returned (.string ⟨(Lib.decDigits i).toArray⟩)∧w'=w:=Any.internal_strconv_small ml i h w
def Tryz.laysM284_ren:Go.Shelf.Ren:=⟨fun|284=>203|129=>112|317=>215|318=>216|n=>n,fun|53=>104|3=>3|212=>342|0=>0|4=>4|46=>154|5=>5|9=>9|n=>n,fun|17=>1|n=>n⟩
theorem lS:Go.Proofs.LaysM.n284 Tryz.prog Tryz.laysM284_ren:={
 mixed:=by rfl
 f129:=Tryz.func112.trans (congrArg some (by rfl))
 f284:=Tryz.func203.trans (congrArg some (by rfl))
 f317:=Tryz.func215.trans (congrArg some (by rfl))
 f318:=Tryz.func216.trans (congrArg some (by rfl))
 t0:=Tryz.underlying0
 a0:=Tryz.isAgg0
 z0:=Tryz.sizeOf0
 v0:=Tryz.zeroValue0
 t3:=Tryz.underlying3
 a3:=Tryz.isAgg3
 z3:=Tryz.sizeOf3
 v3:=Tryz.zeroValue3
 t4:=Tryz.underlying4
 a4:=Tryz.isAgg4
 z4:=Tryz.sizeOf4
 v4:=Tryz.zeroValue4
 t5:=Tryz.underlying5
 a5:=Tryz.isAgg5
 z5:=Tryz.sizeOf5
 v5:=Tryz.zeroValue5
 t9:=Tryz.underlying9
 a9:=Tryz.isAgg9
 z9:=Tryz.sizeOf9
 v9:=Tryz.zeroValue9
 t46:=Tryz.underlying154
 a46:=Tryz.isAgg154
 z46:=Tryz.sizeOf154
 v46:=Tryz.zeroValue154
 t53:=Tryz.underlying104
 a53:=Tryz.isAgg104
 z53:=Tryz.sizeOf104
 v53:=Tryz.zeroValue104
 t212:=Tryz.underlying342
 a212:=Tryz.isAgg342
 z212:=Tryz.sizeOf342
 v212:=Tryz.zeroValue342
 g17:=by kernel_rfl
 i0:=by kernel_rfl
 i3:=by kernel_rfl
 i4:=by kernel_rfl
 i5:=by kernel_rfl
 i9:=by kernel_rfl
 i46:=by kernel_rfl
 i53:=by kernel_rfl
 i212:=by kernel_rfl
 m17:=by rfl }
open Go.Lib in
theorem Tryz.internal_strconv_numDigits(u:Nat)(c:1≤u)(b:u<18446744073709551616)(w:World)(a:Lib.TabIs Tryz.prog w "internal/strconv.uint64pow10" .u64 Lib.pow10Tab) :
 Calls Tryz.prog 203 #[.int .u64 u] w fun e w'=>e=.returned (.int .i64 (Lib.nDigits u))∧w'=w:=Any.internal_strconv_numDigits lS u c b w a
def Tryz.lays285_ren:Go.Shelf.Ren:=⟨fun|285=>204|n=>n,fun|37=>27|53=>104|3=>3|4=>4|51=>226|9=>9|5=>5|0=>0|n=>n,fun|n=>n⟩
theorem mj:Go.Proofs.Lays.n285 Tryz.prog Tryz.lays285_ren:={
 mixed:=by rfl
 f285:=Tryz.func204.trans (congrArg some (by rfl))
 t0:=Tryz.underlying0
 a0:=Tryz.isAgg0
 z0:=Tryz.sizeOf0
 v0:=Tryz.zeroValue0
 t3:=Tryz.underlying3
 a3:=Tryz.isAgg3
 z3:=Tryz.sizeOf3
 v3:=Tryz.zeroValue3
 t4:=Tryz.underlying4
 a4:=Tryz.isAgg4
 z4:=Tryz.sizeOf4
 v4:=Tryz.zeroValue4
 t5:=Tryz.underlying5
 a5:=Tryz.isAgg5
 z5:=Tryz.sizeOf5
 v5:=Tryz.zeroValue5
 t9:=Tryz.underlying9
 a9:=Tryz.isAgg9
 z9:=Tryz.sizeOf9
 v9:=Tryz.zeroValue9
 t37:=Tryz.underlying27
 a37:=Tryz.isAgg27
 z37:=Tryz.sizeOf27
 v37:=Tryz.zeroValue27
 t51:=Tryz.underlying226
 a51:=Tryz.isAgg226
 z51:=Tryz.sizeOf226
 v51:=Tryz.zeroValue226
 t53:=Tryz.underlying104
 a53:=Tryz.isAgg104
 z53:=Tryz.sizeOf104
 v53:=Tryz.zeroValue104 }
open Go.RowKit Go.Sort Go.Lib in
theorem Tryz.internal_strconv_formatBase10(blk off cap:Nat)(u:Nat)(d:Array UInt8)(w:World)(g:Holds (fun(b:UInt8)=>Value.int .u8 (b.toNat:Int)) w blk off d)(f:u<10^d.size)(a:u<18446744073709551616)(c:d.size<4611686018427387904) :
 Calls Tryz.prog 204 #[.slice (some ⟨blk,off,none⟩) d.size cap,.int .u64 u] w fun e w' =>
  e=.returned (.tuple #[])∧∃(n v':Nat) (dk:Array UInt8),w'=(putRow (fun(b:UInt8)=>Value.int .u8 (b.toNat:Int)) w blk off dk).drewN n∧FmtInv d.size u 0 v' dk:=Any.internal_strconv_formatBase10 mj blk off cap u d w g f a c
def Tryz.laysM246_ren:Go.Shelf.Ren:=⟨fun|246=>185|283=>202|284=>203|285=>204|286=>205|129=>112|317=>215|318=>216|319=>217|320=>218|337=>222|338=>120|n=>n,fun|2=>2|3=>3|9=>9|4=>4|171=>326|0=>0|53=>104|37=>27|5=>5|173=>328|212=>342|51=>226|20=>20|213=>343|46=>154|232=>345|233=>273|n=>n,fun|17=>1|18=>3|19=>0|n=>n⟩
def Tryz.lays246_ren:Go.Shelf.Ren:=⟨fun|246=>185|283=>202|284=>203|285=>204|286=>205|129=>112|317=>215|318=>216|319=>217|320=>218|337=>222|338=>120|n=>n,fun|2=>2|3=>3|9=>9|4=>4|171=>326|0=>0|53=>104|37=>27|5=>5|173=>328|212=>342|51=>226|20=>20|213=>343|46=>154|232=>345|233=>273|n=>n,fun|17=>1|18=>3|19=>0|n=>n⟩
def Tryz.laysM243_ren:Go.Shelf.Ren:=⟨fun|243=>156|246=>185|283=>202|284=>203|285=>204|286=>205|129=>112|317=>215|318=>216|319=>217|320=>218|337=>222|338=>120|n=>n,fun|3=>3|9=>9|2=>2|4=>4|171=>326|0=>0|53=>104|37=>27|5=>5|173=>328|212=>342|51=>226|20=>20|213=>343|46=>154|232=>345|233=>273|n=>n,fun|17=>1|18=>3|19=>0|n=>n⟩
def Tryz.lays243_ren:Go.Shelf.Ren:=⟨fun|243=>156|246=>185|283=>202|284=>203|285=>204|286=>205|129=>112|317=>215|318=>216|319=>217|320=>218|337=>222|338=>120|n=>n,fun|3=>3|9=>9|2=>2|4=>4|171=>326|0=>0|53=>104|37=>27|5=>5|173=>328|212=>342|51=>226|20=>20|213=>343|46=>154|232=>345|233=>273|n=>n,fun|17=>1|18=>3|19=>0|n=>n⟩
def Tryz.laysM171_ren:Go.Shelf.Ren:=⟨fun|171=>125|243=>156|246=>185|283=>202|284=>203|285=>204|286=>205|129=>112|317=>215|318=>216|319=>217|320=>218|337=>222|338=>120|n=>n,fun|3=>3|9=>9|2=>2|4=>4|171=>326|0=>0|53=>104|37=>27|5=>5|173=>328|212=>342|51=>226|20=>20|213=>343|46=>154|232=>345|233=>273|n=>n,fun|17=>1|18=>3|19=>0|n=>n⟩
theorem l5:Go.Proofs.LaysM.n171 Tryz.prog Tryz.laysM171_ren:={
 mixed:=by rfl
 f129:=Tryz.func112.trans (congrArg some (by rfl))
 f171:=Tryz.func125.trans (congrArg some (by rfl))
 f243:=Tryz.func156.trans (congrArg some (by rfl))
 f246:=Tryz.func185.trans (congrArg some (by rfl))
 f283:=Tryz.func202.trans (congrArg some (by rfl))
 f284:=Tryz.func203.trans (congrArg some (by rfl))
 f285:=Tryz.func204.trans (congrArg some (by rfl))
 f286:=Tryz.func205.trans (congrArg some (by rfl))
 f317:=Tryz.func215.trans (congrArg some (by rfl))
 f318:=Tryz.func216.trans (congrArg some (by rfl))
 f319:=Tryz.func217.trans (congrArg some (by rfl))
 f320:=Tryz.func218.trans (congrArg some (by rfl))
 f337:=Tryz.func222.trans (congrArg some (by rfl))
 f338:=Tryz.func120.trans (congrArg some (by rfl))
 t0:=Tryz.underlying0
 a0:=Tryz.isAgg0
 z0:=Tryz.sizeOf0
 v0:=Tryz.zeroValue0
 t2:=Tryz.underlying2
 a2:=Tryz.isAgg2
 z2:=Tryz.sizeOf2
 v2:=Tryz.zeroValue2
 t3:=Tryz.underlying3
 a3:=Tryz.isAgg3
 z3:=Tryz.sizeOf3
 v3:=Tryz.zeroValue3
 t4:=Tryz.underlying4
 a4:=Tryz.isAgg4
 z4:=Tryz.sizeOf4
 v4:=Tryz.zeroValue4
 t5:=Tryz.underlying5
 a5:=Tryz.isAgg5
 z5:=Tryz.sizeOf5
 v5:=Tryz.zeroValue5
 t9:=Tryz.underlying9
 a9:=Tryz.isAgg9
 z9:=Tryz.sizeOf9
 v9:=Tryz.zeroValue9
 t20:=Tryz.underlying20
 a20:=Tryz.isAgg20
 z20:=Tryz.sizeOf20
 v20:=Tryz.zeroValue20
 t37:=Tryz.underlying27
 a37:=Tryz.isAgg27
 z37:=Tryz.sizeOf27
 v37:=Tryz.zeroValue27
 t46:=Tryz.underlying154
 a46:=Tryz.isAgg154
 z46:=Tryz.sizeOf154
 v46:=Tryz.zeroValue154
 t51:=Tryz.underlying226
 a51:=Tryz.isAgg226
 z51:=Tryz.sizeOf226
 v51:=Tryz.zeroValue226
 t53:=Tryz.underlying104
 a53:=Tryz.isAgg104
 z53:=Tryz.sizeOf104
 v53:=Tryz.zeroValue104
 t171:=Tryz.underlying326
 a171:=Tryz.isAgg326
 z171:=Tryz.sizeOf326
 v171:=Tryz.zeroValue326
 t173:=Tryz.underlying328
 a173:=Tryz.isAgg328
 z173:=Tryz.sizeOf328
 v173:=Tryz.zeroValue328
 t212:=Tryz.underlying342
 a212:=Tryz.isAgg342
 z212:=Tryz.sizeOf342
 v212:=Tryz.zeroValue342
 t213:=Tryz.underlying343
 a213:=Tryz.isAgg343
 z213:=Tryz.sizeOf343
 t232:=Tryz.underlying345
 a232:=Tryz.isAgg345
 z232:=Tryz.sizeOf345
 v232:=Tryz.zeroValue345
 t233:=Tryz.underlying273
 a233:=Tryz.isAgg273
 z233:=Tryz.sizeOf273
 v233:=Tryz.zeroValue273
 g17:=by kernel_rfl
 g18:=by kernel_rfl
 g19:=by kernel_rfl
 i0:=by kernel_rfl
 i2:=by kernel_rfl
 i3:=by kernel_rfl
 i4:=by kernel_rfl
 i5:=by kernel_rfl
 i9:=by kernel_rfl
 i20:=by kernel_rfl
 i37:=by kernel_rfl
 i46:=by kernel_rfl
 i51:=by kernel_rfl
 i53:=by kernel_rfl
 i171:=by kernel_rfl
 i173:=by kernel_rfl
 i212:=by kernel_rfl
 i232:=by kernel_rfl
 i233:=by kernel_rfl
 m17:=by rfl
 m18:=by rfl
 m19:=by rfl }
open Go.RowKit Go.Sort Go.Lib in
theorem Tryz.strconv_Itoa(n:Int)(c:-9223372036854775808≤n)(b:n≤9223372036854775807)(w:World)(a:Lib.TabIs Tryz.prog w "internal/strconv.uint64pow10" .u64 Lib.pow10Tab) :
 Calls Tryz.prog 125 #[.int .i64 n] w fun e w'=>e=.returned (.string ⟨(Lib.itoa n).toArray⟩)∧∃k os,w'=grow (w.drewN k) os:=Any.strconv_Itoa l5 n c b w a
def Tryz.lays171_ren:Go.Shelf.Ren:=⟨fun|171=>125|243=>156|246=>185|283=>202|284=>203|285=>204|286=>205|129=>112|317=>215|318=>216|319=>217|320=>218|337=>222|338=>120|n=>n,fun|3=>3|9=>9|2=>2|4=>4|171=>326|0=>0|53=>104|37=>27|5=>5|173=>328|212=>342|51=>226|20=>20|213=>343|46=>154|232=>345|233=>273|n=>n,fun|17=>1|18=>3|19=>0|n=>n⟩
def Tryz.lays189_ren:Go.Shelf.Ren:=⟨fun|189=>20|125=>59|257=>58|128=>111|129=>112|294=>102|295=>103|296=>104|297=>105|298=>106|299=>107|216=>108|300=>109|301=>110|328=>148|329=>149|330=>150|331=>151|332=>152|215=>117|343=>183|n=>n,fun|28=>41|3=>3|46=>154|0=>0|51=>226|53=>104|4=>4|183=>219|182=>218|131=>176|5=>5|9=>9|218=>266|222=>270|228=>308|229=>80|n=>n,fun|n=>n⟩
theorem kB:Go.Proofs.Lays.n189 Tryz.prog Tryz.lays189_ren:={
 mixed:=by rfl
 f125:=Tryz.func59.trans (congrArg some (by rfl))
 f128:=Tryz.func111.trans (congrArg some (by rfl))
 f129:=Tryz.func112.trans (congrArg some (by rfl))
 f189:=Tryz.func20.trans (congrArg some (by rfl))
 f215:=Tryz.func117.trans (congrArg some (by rfl))
 f216:=Tryz.func108.trans (congrArg some (by rfl))
 f257:=Tryz.func58.trans (congrArg some (by rfl))
 f294:=Tryz.func102.trans (congrArg some (by rfl))
 f295:=Tryz.func103.trans (congrArg some (by rfl))
 f296:=Tryz.func104.trans (congrArg some (by rfl))
 f297:=Tryz.func105.trans (congrArg some (by rfl))
 f298:=Tryz.func106.trans (congrArg some (by rfl))
 f299:=Tryz.func107.trans (congrArg some (by rfl))
 f300:=Tryz.func109.trans (congrArg some (by rfl))
 f301:=Tryz.func110.trans (congrArg some (by rfl))
 f328:=Tryz.func148.trans (congrArg some (by rfl))
 f329:=Tryz.func149.trans (congrArg some (by rfl))
 f330:=Tryz.func150.trans (congrArg some (by rfl))
 f331:=Tryz.func151.trans (congrArg some (by rfl))
 f332:=Tryz.func152.trans (congrArg some (by rfl))
 f343:=Tryz.func183.trans (congrArg some (by rfl))
 t0:=Tryz.underlying0
 a0:=Tryz.isAgg0
 z0:=Tryz.sizeOf0
 v0:=Tryz.zeroValue0
 t3:=Tryz.underlying3
 a3:=Tryz.isAgg3
 z3:=Tryz.sizeOf3
 v3:=Tryz.zeroValue3
 t4:=Tryz.underlying4
 a4:=Tryz.isAgg4
 z4:=Tryz.sizeOf4
 v4:=Tryz.zeroValue4
 t5:=Tryz.underlying5
 a5:=Tryz.isAgg5
 z5:=Tryz.sizeOf5
 v5:=Tryz.zeroValue5
 t9:=Tryz.underlying9
 a9:=Tryz.isAgg9
 z9:=Tryz.sizeOf9
 v9:=Tryz.zeroValue9
 t28:=Tryz.underlying41
 a28:=Tryz.isAgg41
 z28:=Tryz.sizeOf41
 v28:=Tryz.zeroValue41
 t46:=Tryz.underlying154
 a46:=Tryz.isAgg154
 z46:=Tryz.sizeOf154
 v46:=Tryz.zeroValue154
 t51:=Tryz.underlying226
 a51:=Tryz.isAgg226
 z51:=Tryz.sizeOf226
 v51:=Tryz.zeroValue226
 t53:=Tryz.underlying104
 a53:=Tryz.isAgg104
 z53:=Tryz.sizeOf104
 v53:=Tryz.zeroValue104
 t131:=Tryz.underlying176
 a131:=Tryz.isAgg176
 z131:=Tryz.sizeOf176
 v131:=Tryz.zeroValue176
 t182:=Tryz.underlying218
 a182:=Tryz.isAgg218
 z182:=Tryz.sizeOf218
 v182:=Tryz.zeroValue218
 t183:=Tryz.underlying219
 a183:=Tryz.isAgg219
 z183:=Tryz.sizeOf219
 v183:=Tryz.zeroValue219
 t218:=Tryz.underlying266
 a218:=Tryz.isAgg266
 z218:=Tryz.sizeOf266
 v218:=Tryz.zeroValue266
 t222:=Tryz.underlying270
 a222:=Tryz.isAgg270
 z222:=Tryz.sizeOf270
 v222:=Tryz.zeroValue270
 t228:=Tryz.underlying308
 a228:=Tryz.isAgg308
 z228:=Tryz.sizeOf308
 v228:=Tryz.zeroValue308
 t229:=Tryz.underlying80
 a229:=Tryz.isAgg80
 z229:=Tryz.sizeOf80
 v229:=Tryz.zeroValue80 }
open Go.Sort Go.RowKit in
theorem Tryz.slices_Sort_int(blk off cap:Nat)(zs:List Int)(w:World)(c:Holds (Value.int .i64) w blk off zs.toArray)(a:blk<w.heap.size)(b:zs.length<4611686018427387904) :
 Calls Tryz.prog 20 #[.slice (some ⟨blk,off,none⟩) zs.length cap] w fun e w' =>
  e=.returned (.tuple #[])∧∃n os,w'=grow (putRow (Value.int .i64) (Sort.ahead w n) blk off (zs.mergeSort fun x y=>decide (x≤y)).toArray) os:=Any.slices_Sort_int kB blk off cap zs w c a b
def Tryz.lays206_ren:Go.Shelf.Ren:=⟨fun|206=>184|n=>n,fun|9=>9|4=>4|3=>3|n=>n,fun|n=>n⟩
def Tryz.lays99_ren:Go.Shelf.Ren:=⟨fun|99=>190|206=>184|n=>n,fun|9=>9|4=>4|3=>3|n=>n,fun|n=>n⟩
def Tryz.lays264_ren:Go.Shelf.Ren:=⟨fun|264=>208|n=>n,fun|53=>104|46=>154|n=>n,fun|n=>n⟩
def Tryz.lays212_ren:Go.Shelf.Ren:=⟨fun|212=>189|263=>207|264=>208|n=>n,fun|46=>154|51=>226|146=>332|53=>104|148=>334|n=>n,fun|n=>n⟩
def Tryz.lays105_ren:Go.Shelf.Ren:=⟨fun|105=>160|212=>189|99=>190|165=>191|166=>159|170=>192|169=>161|263=>207|264=>208|206=>184|240=>188|241=>209|276=>206|277=>219|n=>n,fun|9=>9|3=>3|4=>4|20=>20|0=>0|46=>154|109=>313|5=>5|72=>277|76=>284|51=>226|146=>332|53=>104|148=>334|70=>275|37=>27|75=>283|127=>317|164=>330|80=>238|n=>n,fun|n=>n⟩
theorem kI:Go.Proofs.Lays.n105 Tryz.prog Tryz.lays105_ren:={
 mixed:=by rfl
 f99:=Tryz.func190.trans (congrArg some (by rfl))
 f105:=Tryz.func160.trans (congrArg some (by rfl))
 f165:=Tryz.func191.trans (congrArg some (by rfl))
 f166:=Tryz.func159.trans (congrArg some (by rfl))
 f169:=Tryz.func161.trans (congrArg some (by rfl))
 f170:=Tryz.func192.trans (congrArg some (by rfl))
 f206:=Tryz.func184.trans (congrArg some (by rfl))
 f212:=Tryz.func189.trans (congrArg some (by rfl))
 f240:=Tryz.func188.trans (congrArg some (by rfl))
 f241:=Tryz.func209.trans (congrArg some (by rfl))
 f263:=Tryz.func207.trans (congrArg some (by rfl))
 f264:=Tryz.func208.trans (congrArg some (by rfl))
 f276:=Tryz.func206.trans (congrArg some (by rfl))
 f277:=Tryz.func219.trans (congrArg some (by rfl))
 t0:=Tryz.underlying0
 a0:=Tryz.isAgg0
 z0:=Tryz.sizeOf0
 v0:=Tryz.zeroValue0
 t3:=Tryz.underlying3
 a3:=Tryz.isAgg3
 z3:=Tryz.sizeOf3
 v3:=Tryz.zeroValue3
 t4:=Tryz.underlying4
 a4:=Tryz.isAgg4
 z4:=Tryz.sizeOf4
 v4:=Tryz.zeroValue4
 t5:=Tryz.underlying5
 a5:=Tryz.isAgg5
 z5:=Tryz.sizeOf5
 v5:=Tryz.zeroValue5
 t9:=Tryz.underlying9
 a9:=Tryz.isAgg9
 z9:=Tryz.sizeOf9
 v9:=Tryz.zeroValue9
 t20:=Tryz.underlying20
 a20:=Tryz.isAgg20
 z20:=Tryz.sizeOf20
 v20:=Tryz.zeroValue20
 t37:=Tryz.underlying27
 a37:=Tryz.isAgg27
 z37:=Tryz.sizeOf27
 v37:=Tryz.zeroValue27
 t46:=Tryz.underlying154
 a46:=Tryz.isAgg154
 z46:=Tryz.sizeOf154
 v46:=Tryz.zeroValue154
 t51:=Tryz.underlying226
 a51:=Tryz.isAgg226
 z51:=Tryz.sizeOf226
 v51:=Tryz.zeroValue226
 t53:=Tryz.underlying104
 a53:=Tryz.isAgg104
 z53:=Tryz.sizeOf104
 v53:=Tryz.zeroValue104
 t70:=Tryz.underlying275
 a70:=Tryz.isAgg275
 z70:=Tryz.sizeOf275
 v70:=Tryz.zeroValue275
 t72:=Tryz.underlying277
 a72:=Tryz.isAgg277
 z72:=Tryz.sizeOf277
 v72:=Tryz.zeroValue277
 t75:=Tryz.underlying283
 a75:=Tryz.isAgg283
 z75:=Tryz.sizeOf283
 v75:=Tryz.zeroValue283
 t76:=Tryz.underlying284
 a76:=Tryz.isAgg284
 z76:=Tryz.sizeOf284
 v76:=Tryz.zeroValue284
 t109:=Tryz.underlying313
 a109:=Tryz.isAgg313
 z109:=Tryz.sizeOf313
 v109:=Tryz.zeroValue313
 t127:=Tryz.underlying317
 a127:=Tryz.isAgg317
 z127:=Tryz.sizeOf317
 v127:=Tryz.zeroValue317
 t146:=Tryz.underlying332
 a146:=Tryz.isAgg332
 z146:=Tryz.sizeOf332
 v146:=Tryz.zeroValue332
 t148:=Tryz.underlying334
 a148:=Tryz.isAgg334
 z148:=Tryz.sizeOf334
 v148:=Tryz.zeroValue334
 t164:=Tryz.underlying330
 a164:=Tryz.isAgg330
 z164:=Tryz.sizeOf330
 v164:=Tryz.zeroValue330 }
theorem h9:Builder.Extra Tryz.prog Tryz.lays105_ren:={
 sizeBuilder:=by kernel_rfl
 liesBuilder:=by kernel_rfl
 t5:=Tryz.underlying5
 a5:=Tryz.isAgg5
 z5:=Tryz.sizeOf5
 v5:=Tryz.zeroValue5
 infoByte:=by kernel_rfl
 cellsByte:=by kernel_rfl
 sizeByte:=by kernel_rfl
 neB5:=by decide }
open Go.RowKit Go.Lib in
theorem Tryz.strings_Repeat(s:ByteArray)(c:Nat)(w:World)(b:c≤9223372036854775807)(a:s.size*c≤140737488355328) :
 Calls Tryz.prog 160 #[.string s,.int .i64 c] w fun e w'=>e=.returned (.string ⟨(Lib.repeatL s.data.toList c).toArray⟩)∧Below w.heap.size w w':=Any.strings_Repeat kI h9 s c w b a
def Tryz.laysNm220_ren:Go.Shelf.Ren:=⟨fun|20=>21|n=>n,fun|22=>41|3=>3|4=>4|0=>0|n=>n,fun|n=>n⟩
theorem ly:Go.Proofs.Lays2.n20 Tryz.prog Tryz.laysNm220_ren:={
 mixed:=by rfl
 f20:=Tryz.func21.trans (congrArg some (by rfl))
 t0:=Tryz.underlying0
 a0:=Tryz.isAgg0
 z0:=Tryz.sizeOf0
 v0:=Tryz.zeroValue0
 t3:=Tryz.underlying3
 a3:=Tryz.isAgg3
 z3:=Tryz.sizeOf3
 v3:=Tryz.zeroValue3
 t4:=Tryz.underlying4
 a4:=Tryz.isAgg4
 z4:=Tryz.sizeOf4
 v4:=Tryz.zeroValue4
 t22:=Tryz.underlying41
 a22:=Tryz.isAgg41
 z22:=Tryz.sizeOf41
 v22:=Tryz.zeroValue41
 i3:=by kernel_rfl }
open Go.RowKit Go.Lib Go.Sort in
theorem Tryz.slices_Compact_int(blk off cap:Nat)(zs:List Int)(w:World)(c:Holds (Value.int .i64) w blk off zs.toArray)(b:zs.length≤9223372036854775807)(a:zs.length≤cap) :
 Calls Tryz.prog 21 #[.slice (some ⟨blk,off,none⟩) zs.length cap] w fun e w'=>e=.returned (.slice (some ⟨blk,off,none⟩) (Lib.compact zs).length cap)∧∃q,w'=putRow (Value.int .i64) (Sort.ahead w q) blk off (Lib.compact zs++List.replicate (zs.length-(Lib.compact zs).length) 0).toArray:=Any.slices_Compact_int ly blk off cap zs w c b a
open Go.RowKit Go.Sort in
theorem Tryz.slices_Sort_int_none(p:Option Addr)(cap:Nat)(w:World) :
 Calls Tryz.prog 20 #[.slice p 0 cap] w fun e w'=>e=.returned (.tuple #[])∧w'=w:=Any.slices_Sort_int_none kB p cap w
end Go.Proofs
namespace Go.Num
section
open Go.Lib
abbrev B9:Nat:=1000000000
def val:List Nat→Nat
 |[]=>0
 |a::l=>a+B9*val l
def toL(n:Nat):List Nat:=if h:n=0 then [] else(n%B9)::toL (n / B9)
termination_by n
decreasing_by exact eK (by omega) (by decide)
theorem toL_zero:toL 0=[]:=by rw[toL];simp
theorem toL_pos(h:n≠0):toL n=(n%B9)::toL (n / B9):=by rw[toL,dif_neg h]
theorem toL_nil:toL n=[]↔n=0:=by
 constructor
 ·intro h
  by_cases a:n=0
  ·omega
  ·rw[toL_pos a] at h;cases h
 ·intro h;rw[h,toL_zero]
def jJ(l:List Nat):Prop:=∀a∈l,a<B9
theorem Xi(n:Nat):val (toL n)=n:=by
 induction n using Nat.strongRecOn with
 |ind n a =>
  by_cases h:n=0
  ·rw[h,toL_zero];rfl
  ·rw[toL_pos h,val,a _ (eK (by omega) (by decide))]
   grind
theorem NR(n:Nat):jJ (toL n):=by
 induction n using Nat.strongRecOn with
 |ind n b =>
  by_cases h:n=0
  ·rw[h,toL_zero];intro a ha;grind
  ·rw[toL_pos h]
   intro a ha;rcases bd.1 ha with rfl|ha
   ·grind
   ·exact b _ (eK (by omega) (by decide)) a ha
def MP:List Nat→List Nat
 |[]=>[]
 |a::t=>if MP t=[]∧a=0 then [] else a::MP t
theorem zU(h:jJ l):MP l=toL (val l):=by
 induction l with
 |nil=>rw[val,toL_zero];rfl
 |cons a t c =>
  have f:a<B9:=h a (by simp);have c:=c (fun x i=>h x (by grind));simp only[MP,val];rw[c];by_cases b:val t=0∧a=0
  ·rw[if_pos ⟨toL_nil.2 b.1,b.2⟩,b.1,b.2];simp[toL_zero]
  ·rw[if_neg (fun g=>b ⟨toL_nil.1 g.1,g.2⟩)]
   have d:a+B9*val t≠0:=fun e=>b ⟨by
    grind,by omega⟩
   rw[toL_pos d,gN,bu f,gg _ _ (by decide),fN f,cG]
theorem Yf(l:List Nat):MP (l++[0])=MP l:=by
 induction l with
 |nil=>rfl
 |cons a t b=>simp only[List.cons_append,MP,b]
theorem bD(l:List Nat)(c:x≠0):MP (l++[x])=l++[x]:=by
 induction l with
 |nil=>simp[MP,c]
 |cons a t b=>simp only[List.cons_append,MP,b];simp
theorem val_append(l r:List Nat):val (l++r)=val l+B9^l.length*val r:=by
 induction l with
 |nil=>simp[val]
 |cons a t b=>simp only[List.cons_append,val,b,List.length_cons,Nat.pow_succ];grind
theorem jW(n:Nat):val (List.replicate n 0)=0:=by
 induction n with
 |zero=>rfl
 |succ n a=>simp[List.replicate_succ,val,a]
theorem a7t(l:List Nat):∀(i x:Nat),i<l.length→val (l.set i x)+(l[i]?.getD 0)*B9^i=val l+x*B9^i:=by
 induction l with
 |nil=>simp
 |cons a t b =>
  intro i x h;cases i with
  |zero=>simp[val];omega
  |succ i =>
   simp only[List.set_cons_succ,val,List.getElem?_cons_succ,Nat.pow_succ];grind
theorem a7m(h:jJ l)(c:x<B9):jJ (l.set i x):=fun a b=>by
 rcases List.mem_or_eq_of_mem_set b with h1|h1
 ·exact h a h1
 omega
theorem sV(h:jJ l)(i:Nat):l[i]?.getD 0<B9:=by
 cases hi:l[i]? with
 |none=>decide
 |some a=>exact h a (fX hi)
def D(k u:Nat):List UInt8:=(List.range k).map fun t=>dg u (k-1-t)
theorem FB(k u:Nat):(D k u).length=k:=by simp[D]
theorem ML(k u t:Nat)(h:t<k):(D k u)[t]?=some (dg u (k-1-t)):=by
 unfold D;grind
theorem EZ(u:Nat):decDigits u=D (nDigits u) u:=decDigits_eq u
theorem c8t(c:j<9):dg (a+B9*m) j=dg a j:=by
 unfold dg;have b:B9=10^j*10^(9-j):=by rw[← cM,show j+(9-j)=9 by omega]
 rw[b,dq,gg _ _ (dC (by decide))];rw[show 9-j=(8-j)+1 by omega,ci,ef (10^(8-j)) 10,dq,gN]
theorem c4g(b:a<B9):dg (a+B9*m) (j+9)=dg m j:=by
 unfold dg;rw[cM,ef (10^j),← fx,show(10:Nat)^9=B9 from rfl,gg _ _ (by decide),fN b,cG]
theorem c0y(b:a<B9):D (p+9) (a+B9*m)=D p m++D 9 a:=by
 apply bo;intro t;by_cases d:t<p
 ·rw[ML _ _ _ (by omega),cq (by rw[FB];omega),ML _ _ _ d]
  rw[show p+9-1-t=(p-1-t)+9 by omega,c4g b]
 ·rw[bp (by rw[FB];omega),FB]
  by_cases c:t<p+9
  ·rw[ML _ _ _ c,ML _ _ _ (by omega)]
   rw[show p+9-1-t=9-1-(t-p) by omega,c8t (by omega)]
  ·rw[aR (by rw[FB];omega),aR (by rw[FB];omega)]
theorem Hl:∀(u:Nat),u≠0→10^(nDigits u-1)≤u:=by
 intro u
 induction u using Nat.strongRecOn with
 |ind u a =>
  intro c;by_cases h:u<10
  ·rw[nDigits_small h];omega
  ·rw[nDigits_big h]
   have:=a (u / 10) (by omega) (by omega);have b:=nDigits_pos (u / 10);rw[show nDigits (u / 10)+1-1=(nDigits (u / 10)-1)+1 by omega,ci];omega
theorem kK(c:a<B9)(b:m≠0):nDigits (a+B9*m)=nDigits m+9:=by
 have f:=Hl m b;have e:=lt_pow_nDigits m;have d:=nDigits_pos m;apply nDigits_unique
 ·rw[show nDigits m+8=9+(nDigits m-1) by omega,cM,show(10:Nat)^9=B9 from rfl]
  grind
 grind
theorem b0k(b:a<B9)(c:m≠0):decDigits (a+B9*m)=decDigits m++D 9 a:=by
 rw[EZ,EZ,kK b c,c0y b]
theorem c1l(h:u<10^j):dg u j=48:=by
 unfold dg;rw[fN h];rfl
theorem pad(k u:Nat)(h:nDigits u≤k):List.replicate (k-nDigits u) 48++decDigits u=D k u:=by
 rw[EZ];apply bo;intro t;by_cases b:t<k-nDigits u
 ·rw[cq (by grind),ML _ _ _ (by omega),List.getElem?_replicate,if_pos b]
  rw[c1l (ag (lt_pow_nDigits u) (aD (by decide) (by omega)))]
 ·rw[bp (by grind),bS]
  by_cases a:t<k
  ·rw[ML _ _ _ a,ML _ _ _ (by omega)]
   grind
  ·rw[aR (by rw[FB];omega),aR (by rw[FB];omega)]
theorem RN(h:a<B9):nDigits a≤9:=by
 rcases bq a with h0|h0
 ·rw[h0,nDigits_small (by decide)];decide
 ·have:=Hl a (by omega)
  rcases aq 9 (nDigits a) with h1|h1
  ·have:10^9≤10^(nDigits a-1):=aD (by decide) (by omega)
   grind
  omega
def QG:List Nat→List UInt8
 |[]=>decDigits 0
 |[a]=>decDigits a
 |a::t=>QG t++D 9 a
theorem a0p(h:t≠[]):QG (a::t)=QG t++D 9 a:=by
 cases t with
 |nil=>grind
 |cons b t=>rfl
theorem lF(n:Nat):QG (toL n)=decDigits n:=by
 induction n using Nat.strongRecOn with
 |ind n b =>
  by_cases h:n=0
  ·rw[h,toL_zero];rfl
  ·rw[toL_pos h]
   by_cases a:n / B9=0
   ·rw[a,toL_zero]
    show decDigits (n%B9)=_;grind
   ·rw[a0p (by rw[Ne,toL_nil];omega),b _ (eK (by omega) (by decide)),← b0k (be _ (by decide)) a,gh]
def parse(l:List UInt8):Nat:=l.foldl (fun v c=>10*v+(c.toNat-48)) 0
theorem eY(l:List UInt8)(c:UInt8):parse (l++[c])=10*parse l+(c.toNat-48):=by simp[parse]
theorem Xp(u j:Nat):(dg u j).toNat=48+u / 10^j%10:=by
 unfold dg;simp;omega
theorem c6x(k u:Nat):D (k+1) u=D k (u / 10)++[dg u 0]:=by
 apply bo;intro t;by_cases a:t<k
 ·rw[ML _ _ _ (by omega),cq (by rw[FB];omega),ML _ _ _ a]
  rw[show k+1-1-t=(k-1-t)+1 by omega,dg_succ]
 ·rw[bp (by rw[FB];omega),FB]
  by_cases b:t<k+1
  ·have:t=k:=by omega
   subst this;rw[ML _ _ _ (by omega),cW,show t+1-1-t=0 by omega];rfl
  ·rw[aR (by rw[FB];omega),aR (by grind)]
theorem WI:∀(k u:Nat),parse (D k u)=u%10^k
 |0,u=>by simp[D,parse,Nat.mod_one]
 |k+1,u=>by
  rw[c6x,eY,WI k,Xp,fb,Nat.div_one,ii,ci,ef (10^k) 10,Nat.mod_mul,Nat.add_comm]
theorem vk(L u e c:Nat)(a:e≤L)(b:c≤e):((D L u).take e).drop (e-c)=D c (u / 10^(L-e)):=by
 apply bo;intro t;rw[gx];by_cases h:t<c
 ·rw[List.getElem?_take_of_lt (by omega),ML _ _ _ (by omega),ML _ _ _ h]
  unfold dg;rw[fx,← cM];grind
 ·rw[aR (by grind),aR (by rw[FB];omega)]
end
section
open Go.Lib Go.Vm
theorem a0n(h:jJ l)(i:Nat):gi l i<1000000000:=sV h i
theorem UK(l:List Nat)(k:Nat)(h:k<l.length):val (l.take (k+1))=val (l.take k)+gi l k*B9^k:=by
 have:l.take (k+1)=l.take k++[gi l k]:=by
  simp[gi,List.getElem?_eq_getElem h]
 rw[this,val_append,av,cD (by omega),val,val,Nat.mul_zero,ee,ef]
theorem b8k(e:i+k<c.length)(h:val c+d*B9^(i+k)=V+a*B9^i*W) :
 val (c.set (i+k) ((gi c (i+k)+a*b+d)%B9))+(gi c (i+k)+a*b+d) / B9*B9^(i+(k+1))=V+a*B9^i*(W+b*B9^k):=by
 generalize hx:gi c (i+k)+a*b+d=x;have j:=a7t c (i+k) (x%B9) e;have g:x%B9+B9*(x / B9)=x:=gh x B9;have f:c[i+k]?.getD 0=gi c (i+k):=rfl;grind
theorem c0o(hin:i+n<b.length)(f:gi b (i+n)=0)(h:val b+c*B9^(i+n)=V+a*B9^i*W) :
 val (b.set (i+n) (gi b (i+n)+c))=V+a*B9^i*W:=by
 have e:=a7t b (i+n) (gi b (i+n)+c) hin;have d:b[i+n]?.getD 0=gi b (i+n):=rfl;grind
theorem Ht(l:List Nat)(i j x:Nat)(a:i<l.length):gi (l.set i x) j=if i=j then x else gi l j:=by
 simp only[gi,List.getElem?_set];grind
theorem WC(n j:Nat):gi (List.replicate n (0:Nat)) j=0:=by
 simp only[gi,List.getElem?_replicate];split<;>rfl
theorem jZ(n:Nat):jJ (List.replicate n 0):=fun a b=>by
 grind
theorem parse_snoc'(l:List UInt8)(k:Nat)(h:k<l.length):parse (l.take (k+1))=10*parse (l.take k)+((gi l k).toNat-48):=by
 have:l.take (k+1)=l.take k++[gi l k]:=by
  simp[gi,List.getElem?_eq_getElem h]
 rw[this,eY]
theorem wI:∀(l:List UInt8),(∀c∈l,48≤c.toNat∧c.toNat≤57)→parse l<10^l.length:=by
 intro l h;have a:∀k,k≤l.length→parse (l.take k)<10^k:=by
  intro k
  induction k with
  |zero=>intro _;simp[parse]
  |succ k d =>
   intro e;have b:gi l k∈l:=by simp only[gi,List.getElem?_eq_getElem (show k<l.length by omega),Option.getD_some];simp
   have:=h _ b;rw[parse_snoc' l k (by omega),ci];omega
 grind
theorem qC(k u:Nat):∀c∈D k u,48≤c.toNat∧c.toNat≤57:=fun c a=>by
 obtain⟨t,_,rfl⟩:=ba.1 a;rw[Xp];omega
theorem Lp(u:Nat):∀c∈decDigits u,48≤c.toNat∧c.toNat≤57:=by rw[EZ];exact qC _ _
def sG(n j:Nat):Nat:=n / B9^j%B9
def limbs(n:Nat):Nat→List Nat
 |0=>[]
 |k+1=>limbs n k++[sG n k]
theorem OQ(n:Nat):∀k,(limbs n k).length=k
 |0=>rfl
 |k+1=>by simp[limbs,OQ n k]
theorem lu(n:Nat):∀k,jJ (limbs n k)
 |0=>fun a h=>by cases h
 |k+1=>fun a h=>by
  rcases bt.1 h with h|h
  ·exact lu n k a h
  ·rw[aM.1 h];exact be _ (by decide)
theorem nY(n:Nat):∀k,val (limbs n k)=n%B9^k
 |0=>by simp[limbs,val,Nat.mod_one]
 |k+1=>by
  rw[limbs,val_append,OQ,nY n k,val,val,Nat.mul_zero,ee,sG,ci,Nat.mod_mul]
theorem a0v(h:n<B9^k):MP (limbs n k)=toL n:=by
 rw[zU (lu n k),nY,bu h]
theorem toL_len_le(n:Nat):∀k,n<B9^k→(toL n).length≤k:=by
 induction n using Nat.strongRecOn with
 |ind n a =>
  intro k b;by_cases h:n=0
  ·rw[h,toL_zero];simp
  ·rw[toL_pos h]
   cases k with
   |zero=>grind
   |succ k =>
    have:=a (n / B9) (eK (by omega) (by decide)) k (by exact df (by rw[ef];exact b));grind
theorem c5l:∀(k a b:Nat),a<10^k→b<10^k→compareBytes (D k a) (D k b)=if a<b then -1 else if b<a then 1 else 0
 |0,a,b,ha,hb=>by
  simp at ha hb;subst ha;subst hb;rfl
 |k+1,a,b,ha,hb=>by
  have f:∀u,D (k+1) u=dg u k::D k (u%10^k):=fun u=>by
   apply bo;intro t;cases t with
   |zero=>rw[ML _ _ _ (by omega)];rfl
   |succ t =>
    rw[ik];by_cases g:t<k
    ·rw[ML _ _ _ (by omega),ML _ _ _ g]
     congr 1
     rw[show k+1-1-(t+1)=k-1-t by omega];unfold dg;congr 2
     have i:(10:Nat)^k=10^(k-1-t)*(10*10^t):=by rw[← Nat.pow_succ',← cM];grind
     rw[i,Nat.mod_mul_right_div_self,Nat.mod_mul_right_mod]
    ·rw[aR (by rw[FB];omega),aR (by rw[FB];omega)]
  have c:0<10^k:=dC (by decide);have o:=c5l k (a%10^k) (b%10^k) (be _ c) (be _ c);have q:=gh a (10^k);have p:=gh b (10^k);have e:a / 10^k<10:=df ha;have d:b / 10^k<10:=df hb;have l:(dg a k).toNat=48+a / 10^k:=by rw[Xp,bu e]
  have j:(dg b k).toNat=48+b / 10^k:=by rw[Xp,bu d]
  have n:a%10^k<10^k:=be _ c;have m:b%10^k<10^k:=be _ c;rw[f a,f b];simp only[compareBytes,UInt8.lt_iff_toNat_lt,l,j];rcases fp (a / 10^k) (b / 10^k) with h|h|h
  ·rw[if_pos (by omega)]
   have:=ck (10^k) (show a / 10^k+1≤b / 10^k from h);grind
  ·grind
  ·have:=ck (10^k) (show b / 10^k+1≤a / 10^k from h)
   grind
theorem Qs(h:nDigits a<nDigits b):a<b:=by
 have f:=lt_pow_nDigits a;have c:b≠0:=fun e=>by
  have g:nDigits 0=1:=nDigits_small (by decide);grind
 have d:=Hl b c;have:10^nDigits a≤10^(nDigits b-1):=aD (by decide) (by omega);omega
theorem c2c(a n k:Nat):(a^(n / 2^(k+1)))*(a^(n / 2^(k+1)))*(if n / 2^k%2=1 then a else 1)=a^(n / 2^k):=by
 have h:n / 2^(k+1)=n / 2^k / 2:=by rw[ci,fx]
 rw[h,← cM];split
 ·rw[← ci];grind
 grind
end
end Go.Num
namespace Go.Proofs.YthlffjlbidibdaaGreatDoor
section
open Go Go.Proofs Go.Shelf Go.RowKit Go.Sort Go.Lib
theorem jR(u:Nat)(hu64:u<18446744073709551616)(w:World)(htab:Lib.TabIs Tryz.prog w "internal/strconv.uint64pow10" .u64 Lib.pow10Tab) :
 Calls Tryz.prog 187 #[.int .u64 u,.int .i64 10] w fun e w'=>e=.returned (.string ⟨(Lib.decDigits u).toArray⟩)∧Below w.heap.size w w':=by
 by_cases hs:u<100
 ·have hw:IntKind.i64.wrap (u:Int)=(u:Int):=by rw[IntKind.wrap_i64];omega
  go_enter Tryz.func187,Tryz.ntmps187
  go_wp2_with (go_at_call 202;refine(Tryz.internal_strconv_small u hs _).mono ?_;rintro e w' ⟨rfl,rfl⟩)
  go_ret
  exact⟨rfl,Below.refl _ _⟩
 ·have hu1:1≤u:=by omega
  have hnd20:Lib.nDigits u≤20:=by have:=Lib.numDigits_eq u hu1 hu64;split at this<;>omega
  have hal:Tryz.prog.arrayLen 326=24:=by kernel_rfl
  have hsl:∀W,(Instr.sliceAt 326 (.pointer (some ⟨w.heap.size,0,none⟩)) none (some (.int .i64 (Lib.nDigits u:Int))) none).run Tryz.prog W=.ok (.slice (some ⟨w.heap.size,0,none⟩) (Lib.nDigits u) 24) W:=fun W=>by
   rw[run_sliceAt_array_h W 326 ⟨w.heap.size,0,none⟩ (by simp[Program.arrayLen,Program.elem,Tryz.underlying326]) .i64 (Lib.nDigits u:Int) (by omega) (by rw[hal];omega)]
   go_simp
  have hH0:=Lib.holds_zero0 w 326 (Lib.nDigits u) (by omega);have hfmt:=Tryz.internal_strconv_formatBase10 w.heap.size 0 24 u (Array.replicate (Lib.nDigits u) 0) (w.alloc (.cells Lib.zeros24 326)) hH0 (by rw[em];exact Lib.lt_pow_nDigits u) hu64 (by rw[em];omega);rw[em] at hfmt;have HH0:=Lib.hid hH0;clear hH0 hal
  go_enter Tryz.func187,Tryz.ntmps187
  go_wp2_with (go_at_call 203;refine(Tryz.internal_strconv_numDigits u hu1 hu64 _ (Lib.tabIs_alloc htab _)).mono ?_;rintro e w' ⟨rfl,rfl⟩)
  go_at_call 204
  refine hfmt.mono ?_;rintro e w' ⟨rfl,k,v',dk,rfl,hF⟩;have hcv:(convert 27 9 (.slice (some ⟨w.heap.size,0,none⟩) (Lib.nDigits u) 24)).run Tryz.prog ((putRow (fun(b:UInt8)=>Value.int .u8 (b.toNat:Int)) (w.alloc (.cells Lib.zeros24 326)) w.heap.size 0 dk).drewN k)=.ok (.string ⟨(Lib.decDigits u).toArray⟩) ((putRow (fun(b:UInt8)=>Value.int .u8 (b.toNat:Int)) (w.alloc (.cells Lib.zeros24 326)) w.heap.size 0 dk).drewN k):=by
   have h:=run_convert_bytes_back (P:=Tryz.prog) ((putRow (fun(b:UInt8)=>Value.int .u8 (b.toNat:Int)) (w.alloc (.cells Lib.zeros24 326)) w.heap.size 0 dk).drewN k) 27 9 5 ⟨w.heap.size,0,none⟩ 24 (Lib.decDigits u) Tryz.underlying27 Tryz.underlying5 Tryz.underlying9 (fun j hj=>by
    rw[Lib.row_is_numeral hF j hj,Lib.add_plain,World.cell?_drewN];exact cell?_putRow (fun(b:UInt8)=>Value.int .u8 (b.toNat:Int)) _ w.heap.size 0 _ dk HH0.out (by rw[hF.size,em]) j (by rw[hF.size];rw[Lib.decDigits_length] at hj;exact hj))
   rw[Lib.decDigits_length] at h;exact h
  go_wp2
  go_ret
  obtain⟨os,eo⟩:=Lib.fin_at w (.cells Lib.zeros24 326) dk k 0;refine⟨rfl,?_⟩;rw[eo];exact Lib.below_grow _ w (ab _) _ _
theorem iy(u:Nat)(hu64:u<18446744073709551616)(w:World)(htab:Lib.TabIs Tryz.prog w "internal/strconv.uint64pow10" .u64 Lib.pow10Tab) :
 Calls Tryz.prog 158 #[.int .u64 u,.int .i64 10] w fun e w'=>e=.returned (.string ⟨(Lib.decDigits u).toArray⟩)∧Below w.heap.size w w':=by
 go_enter Tryz.func158,Tryz.ntmps158
 go_wp2_with (refine(jR u hu64 _ htab).mono ?_;rintro e w' ⟨rfl,hb⟩)
 go_ret
 simp_all
theorem MN(B b:Nat)(bs:List Value)(s:ByteArray)(w:World)(h:Lib.IsBuilderF 277 5 B b bs w)(a:bs.length+s.size≤140737488355328)(c:B≤w.heap.size) :
 Calls Tryz.prog 159 #[.pointer (some ⟨b,0,none⟩),.string s] w fun e w'=>e=.returned (.tuple #[.int .i64 s.size,.nilIface])∧(Lib.BuilderAtF 277 5 B b (.pointer (some ⟨b,0,none⟩)) (bs++Lib.strCells s) w'∧Below B w w'∧Lib.OthersKept 5 (some b) w w') :=
 Any.Builder_WriteString_k (P:=Tryz.prog) (ρ:=Tryz.lays105_ren) { kI with } h9 B b bs s w h a c
end
section
open Go Go.Proofs Go.Shelf Go.RowKit
attribute [local go_sem] Oper.semAt_some
def NV{α:Type}(f:Nat→α)(k:Nat):List α:=(List.range k).map f
theorem MO(f:Nat→α)(k:Nat):NV f (k+1)=NV f k++[f k]:=by simp[NV,List.range_succ]
theorem qW(f:Nat→α)(k:Nat):(NV f k).length=k:=by simp[NV]
abbrev PL:Type:={ x:Nat×Nat // x.2<Num.B9 }
def LH(zs:List Nat)(j:Nat):PL:=⟨(zs.length-1-j,zs.getD (zs.length-1-j) 0%Num.B9),be _ (by decide)⟩
theorem MW(h:-9223372036854775808≤n)(a:n<9223372036854775808):IntKind.i64.wrap n=n:=by rw[IntKind.wrap_i64];omega
def QH(n₀ Bs:Nat)(W W':World):Prop:=Below n₀ W W'∧W'.heap[Bs]?=W.heap[Bs]?
theorem QH.refl(a b:Nat)(W:World):QH a b W W:=⟨Below.refl _ _,rfl⟩
theorem QH.trans(h:QH a b A B)(k:QH a b B C):QH a b A C:=⟨h.1.trans k.1,k.2.trans h.2⟩
theorem pX(F:Fence)(n:Nat)(h8:F.fn 186)(hro:F.round=none)(hn:1≤n)(l Bs n₀ b off cap:Nat)(zs:List Nat)(hreach:zs.length*8≤140737488351232)(hlim:Num.jJ zs)(hb:b<n₀)(J Jx:List PL→World→Prop)
 (hY:∀pre (x:PL) W,J pre W→pre.length<zs.length→YieldAt F (n-1) Tryz.prog l #[.int .i64 (x.1.1:Int),.int .u64 (x.1.2:Int)] W fun e W' =>
  (e=.returned (.bool true)∧J (pre++[x]) W'∧QH n₀ Bs W W')∨(e=.returned (.bool false)∧Jx (pre++[x]) W'))
 (W:World) (hBs:W.cell? ⟨Bs,0,none⟩=some (.slice (some ⟨b,off,none⟩) zs.length cap)) (hc:∀j,j<zs.length→W.cell? ⟨b,off+j,none⟩=some (.int .u64 (zs.getD j 0:Int))) (h0:J [] W) :
 CallsIn F n Tryz.prog 186 #[.func (.yield l) #[] #[],.pointer (some ⟨Bs,0,none⟩)] W fun e W'=>(∃v,e=.returned v) ∧
  ((∃ys,ys=NV (LH zs) zs.length∧J ys W')∨(∃pre,(∃k,k≤zs.length∧pre=NV (LH zs) k)∧Jx pre W')):=by
 have hget:∀j,zs.getD j 0%Num.B9=zs.getD j 0:=fun j=>bu (by rw[bB];exact Num.sV hlim j)
 obtain⟨len,hlen⟩:∃len,zs.length=len:=⟨_,rfl⟩
 rw[hlen] at hreach hY hBs hc ⊢;have hw0:IntKind.i64.wrap ((len:Int)-1)=(len:Int)-1:=MW (by omega) (by omega);refine callsIn_of_wp Tryz.func186 rfl h8 ?_ hro;simp only[Tryz.ntmps186,List.size_toArray,List.length_cons,List.length_nil,Nat.reduceAdd,Nat.reduceSub,Array.replicate_succ,Array.replicate_zero,List.push_toArray,List.append_toArray,List.nil_append,List.cons_append]
 gi_wp2
 gi_loopw [3] (fun i wr=>∃k:Nat,k≤len∧i=.int .i64 ((len:Int)-1-k)∧J (NV (LH zs) k) wr∧QH n₀ Bs W wr)
  (fun i _=>(intOf i+1).toNat)
 case atStart=>exact⟨0,ao _,by simp,h0,QH.refl _ _ _⟩
 case round =>
  obtain⟨k,hk,rfl,hJs,hnx⟩:=hrel;have hBx:wr.cell? ⟨Bs,0,none⟩=some (.slice (some ⟨b,off,none⟩) len cap):=(World.cell?_of_block (a:=⟨Bs,0,none⟩) hnx.2).trans hBs;by_cases hlt:k<len
  ·have hge:(0:Int)≤(len:Int)-1-k:=by omega
   have hcx:wr.cell? ⟨b,off+(len-1-k),none⟩=some (.int .u64 ((LH zs k).1.2:Int)):=by
    have:=(hnx.1.cell (p:=⟨b,off+(len-1-k),none⟩) hb).trans (hc (len-1-k) (by omega));rw[this];unfold LH;simp only[hlen,hget]
   obtain⟨fn,tmps,assign,body,hy,hR⟩:=hY _ (LH zs k) wr hJs (by rw[qW];exact hlt);have e1:((LH zs k).1.1:Int)=(len:Int)-1-k:=by show((zs.length-1-k:Nat):Int)=_;omega
   rw[e1] at hy;have hi1:((len:Int)-1-k)<len:=by omega
   have hi2:((len:Int)-1-k).toNat=len-1-k:=by omega
   have hw1:IntKind.i64.wrap ((len:Int)-1-k-1)=(len:Int)-1-((k+1:Nat):Int):=by rw[MW (by omega) (by omega)];omega
   gi_wp2
   refine hR.mono ?_;rintro e W3 (⟨rfl,hJ3,hk3⟩|⟨rfl,hJx3⟩)
   ·gi_wp2
    go_roundw
    case rel=>exact⟨k+1,by omega,by first|rfl|simp[hw1]|(congr 1),by rw[MO];exact hJ3,hnx.trans hk3⟩
    case measure=>simp[intOf];omega
   ·gi_wp2
    refine bodyPost_ret (results_none rfl _ _ _) rfl ?_;exact⟨⟨_,rfl⟩,.inr ⟨_,⟨k+1,by omega,(MO _ _).symm⟩,hJx3⟩⟩
  ·obtain rfl:k=len:=by omega
   have hneg:¬ ((0:Int)≤(k:Int)-1-k):=by omega
   gi_wp2
   go_end0
   exact⟨⟨_,rfl⟩,by first|exact .inl hJs|exact .inl ⟨_,rfl,hJs⟩⟩
theorem zu(F:Fence)(n:Nat)(h6:F.fn 157)(hro:F.round=none)(a:Option Addr)(len cap:Nat)(w:World) :
 CallsIn F n Tryz.prog 157 #[.slice a len cap] w fun e w'=>e=.returned (.func (.func 186) #[] #[.pointer (some ⟨w.heap.size,0,none⟩)])∧w'=w.alloc (.cells #[.slice a len cap] 179):=by
 refine callsIn_of_wp Tryz.func157 rfl h6 ?_ hro
 gi_wp2
 go_ret
 simp
theorem a1i(F:Fence)(n:Nat)(z:F.fn 186)(g:F.round=none)(q:1≤n)(d a b off cap:Nat)(zs:List Nat)(c:zs.length*8≤140737488351232)(e:Num.jJ zs)(u:b<a)(w:World)(m:d<w.heap.size)(h:a≤w.heap.size)
 (i:w.cell? ⟨d,0,none⟩=some (.slice (some ⟨b,off,none⟩) zs.length cap)) (s:∀j,j<zs.length→w.cell? ⟨b,off+j,none⟩=some (.int .u64 (zs.getD j 0:Int))) :
 SeqStopsK F n Tryz.prog 186 #[.pointer (some ⟨d,0,none⟩)] (fun x:PL=>#[Value.int .i64 (x.1.1:Int),Value.int .u64 (x.1.2:Int)]) (QH a d) (fun ys=>ys=NV (LH zs) zs.length)
  (fun f=>∃k,k≤zs.length∧f=NV (LH zs) k) zs.length w:=fun l J B W o _ _ y A =>
 pX F n z g q l d a b off cap zs c e u J B y W ((o.cell (p:=⟨d,0,none⟩) m).trans i) (fun j r=>(o.cell (p:=⟨b,off+j,none⟩) (by grind)).trans (s j r)) A
end
section
open Go Go.Proofs Go.Shelf Go.RowKit
attribute [local go_sem] Oper.semAt_some
def Rj(len:Nat)(x:PL):List UInt8:=if(x.1.1:Int)<(len:Int)-1 then Lib.repeatL [48] (9-Lib.nDigits x.1.2)++Lib.decDigits x.1.2 else Lib.decDigits x.1.2
def VA(len:Nat)(pre:List PL):List UInt8:=pre.flatMap (Rj len)
theorem Oo(len:Nat)(a:List PL)(x:PL):VA len (a++[x])=VA len a++Rj len x:=by simp[VA]
theorem YH(n:Nat):(Lib.repeatL [48] n).length=n:=by
 induction n with
 |zero=>rfl
 |succ n a=>simp_all [Lib.repeatL]
theorem a1o(len:Nat)(x:PL):(Rj len x).length≤9:=by
 have:=Num.RN x.2;unfold Rj;split
 ·rw[ar,YH,Lib.decDigits_length];omega
 ·rw[Lib.decDigits_length];omega
theorem b5u(len:Nat)(a:List PL):(VA len a).length≤9*a.length:=by
 induction a with
 |nil=>simp[VA]
 |cons x a b =>
  have:=a1o len x;simp only[VA,List.flatMap_cons,List.length_append,List.length_cons] at b ⊢;omega
def VI(N:Nat)(sv:Value)(bs:List UInt8)(W:World):Prop :=
 Lib.IsBuilderF 277 5 (N+1) (N+1) (Lib.byteCells bs) W∧W.heap[N]?=some (.cells #[sv] 179 (0,0))∧W.heap[N+2]?=some (.cells #[sv] 179 (0,0))
theorem MH(h:Lib.BuilderAtF T e B b p bs w)(j:∀(k:Nat) (o:Obj),w.heap[k]?=some o→o.isCells=true→w'.heap[k]?=some o):Lib.BuilderAtF T e B b p bs w':=by
 obtain⟨q,v,n,a,c⟩:=h;refine⟨q,v,j _ _ n rfl,⟨a.1,?_⟩,c⟩;rcases a.2 with u|⟨g,i,f,s,l,d,m,r⟩
 ·grind
 ·exact .inr ⟨g,i,f,s,l,d,j _ _ m rfl,r⟩
theorem MV(h:Lib.IsBuilderF T e B b bs w)(a:∀(k:Nat) (o:Obj),w.heap[k]?=some o→o.isCells=true→w'.heap[k]?=some o):Lib.IsBuilderF T e B b bs w' :=
 h.elim (fun x=>.inl (MH x a)) (fun x=>.inr (MH x a))
theorem a3d(N:Nat)(d:Value)(f:β→List UInt8):Own (fun(pre:β) W=>VI N d (f pre) W):=fun s W j e a h g=>by
 have b:∀(k:Nat) (o:Obj),W.heap[k]?=some o→o.isCells=true→j.heap[k]?=some o:=fun k o c i=>(grownBy_keeps_cells h g c i).trans c
 exact⟨MV a.1 b,b _ _ a.2.1 rfl,b _ _ a.2.2 rfl⟩
theorem Sj(h:Below W.heap.size W a)(B:Nat):KeepsFrom B W a:=⟨h.size,fun k o _ b _=>(h.block k (by
 grind)).trans b⟩
theorem lt_of_heap{W:World}(h:W.heap[k]?=some o):k<W.heap.size :=by grind
theorem V8(h:VI N c bs W)(e:Below W.heap.size W b):VI N c bs b:=by
 have a:∀(k:Nat) (o:Obj),W.heap[k]?=some o→o.isCells=true→b.heap[k]?=some o:=fun k o d _=>(e.block k (lt_of_heap d)).trans d
 exact⟨MV h.1 a,a _ _ h.2.1 rfl,a _ _ h.2.2 rfl⟩
theorem RS(h:Below W.heap.size W c)(d:a≤W.heap.size)(e:b<W.heap.size):QH a b W c:=⟨h.mono d,h.block b e⟩
theorem P7(h:VI N b bs W)(m:Lib.BuilderAtF 277 5 (N+1) (N+1) (.pointer (some ⟨N+1,0,none⟩)) (Lib.byteCells bs++Lib.strCells s) a)(d:Below (N+1) W a)(i:Lib.OthersKept 5 (some (N+1)) W a) :
 VI N b (bs++s.data.toList) a∧KeepsFrom (N+3) W a∧QH N (N+2) W a:=by
 have f:a.heap[N+2]?=some (.cells #[b] 179 (0,0)):=i _ _ h.2.2 (by simp) (fun c l e=>by
  grind)
 refine⟨⟨.inr ?_,?_,f⟩,⟨d.size,fun k o _ j g=>i k o j (fun e=>?_) (fun c l e=>by rw[e] at g;cases g)⟩,⟨d.mono (by omega),by rw[f,h.2.2]⟩⟩
 ·have e:Lib.byteCells bs++Lib.strCells s=Lib.byteCells (bs++s.data.toList):=by simp[Lib.byteCells,Lib.strCells]
  grind
 ·rw[d.block N (by omega)];exact h.2.1
 grind
theorem tab_below(h:Lib.TabIs P w a k zs)(b:Below w.heap.size w w'):Lib.TabIs P w' a k zs:=(Lib.tabBelow_of_tabIs h) w' b
theorem a1e(n:Nat):Lib.repeatL [48] n=List.replicate n 48:=by
 induction n with
 |zero=>rfl
 |succ n a=>simp[Lib.repeatL,a,List.replicate_succ]
theorem ig(zs:List Nat)(b:Num.jJ zs)(j:Nat)(e:j<zs.length):Rj zs.length (LH zs j)=if 0<j then Num.D 9 (zs.getD (zs.length-1-j) 0) else Lib.decDigits (zs.getD (zs.length-1-j) 0):=by
 have a:zs.getD (zs.length-1-j) 0<Num.B9:=by exact Num.sV b _
 have c:(LH zs j).1.2=zs.getD (zs.length-1-j) 0:=bu a;have d:(LH zs j).1.1=zs.length-1-j:=rfl;unfold Rj;rw[d,c];by_cases h:0<j
 ·rw[if_pos (by omega),if_pos h,a1e,Num.pad 9 _ (Num.RN a)]
 grind
theorem yw:∀(zs:List Nat),Num.jJ zs→zs≠[]→VA zs.length (NV (LH zs) zs.length)=Num.QG zs
 |[],_,h=>absurd rfl h
 |a::t,hl,_=>by
  have d:Num.jJ t:=fun x g=>hl x (by grind)
  have c:∀k,k≤t.length→VA (a::t).length (NV (LH (a::t)) k)=VA t.length (NV (LH t) k):=by
   intro k
   induction k with
   |zero=>intro _;rfl
   |succ k e =>
    intro i;rw[MO,MO,Oo,Oo,e (by omega),ig _ hl k (by grind),ig t d k (by omega)];grind
  show VA (a::t).length (NV (LH (a::t)) (t.length+1))=_;rw[MO,Oo,c t.length (ab _),ig _ hl t.length (by simp)];have f:(a::t).length-1-t.length=0:=by simp
  rw[f,List.getD_cons_zero];cases t with
  |nil=>rfl
  |cons b t =>
   rw[yw (b::t) d (by simp),if_pos (by simp)];rfl
theorem c0e(b off cap:Nat)(zs:List Nat)(hlim:Num.jJ zs)(h0:zs≠[])(hreach:zs.length*9≤140737488351232)(w:World)(hb:b<w.heap.size)(hc:∀j,j<zs.length→w.cell? ⟨b,off+j,none⟩=some (.int .u64 (zs.getD j 0:Int)))
 (htab:Lib.TabIs Tryz.prog w "internal/strconv.uint64pow10" .u64 Lib.pow10Tab) :
 Calls Tryz.prog 127 #[.slice (some ⟨b,off,none⟩) zs.length cap] w fun e w'=>e=.returned (.string ⟨(Num.QG zs).toArray⟩)∧Below w.heap.size w w':=by
 have hpos:0<zs.length:=dp.2 h0;have hne0:¬ ((zs.length:Int)=0):=by omega
 have hall:=yw zs hlim h0;obtain⟨len,hlen⟩:∃len,zs.length=len:=⟨_,rfl⟩
 rw[hlen] at hne0 hall;refine(callsIn_wide (n:=6)).1 ?_;refine callsIn_of_wp_marks Tryz.func127 rfl trivial ?_ rfl;simp only[Tryz.ntmps127,List.size_toArray,List.length_cons,List.length_nil,Nat.reduceAdd,Nat.reduceSub,Array.replicate_succ,Array.replicate_zero,List.push_toArray,List.append_toArray,List.nil_append,List.cons_append];rw[hlen]
 gi_wp2_with (refine⟨trivial,?_⟩;gi_at_call 157;refine(zu Fence.wide _ trivial rfl _ _ _ _).mono ?_;rintro e w' ⟨rfl,rfl⟩)
 obtain⟨W0,hW0⟩:∃W0,((w.alloc (.cells #[.slice (some ⟨b,off,none⟩) len cap] 179)).alloc (.cells #[.pointer none,.slice none 0 0] 277)).alloc (.cells #[.slice (some ⟨b,off,none⟩) len cap] 179)=W0:=⟨_,rfl⟩
 have hB0:Below w.heap.size w W0:=by
  rw[← hW0];exact(((Below.refl _ w).alloc (ab _) _).alloc (by simp) _).alloc (by simp;omega) _
 have hs0:W0.heap.size=w.heap.size+3:=by rw[← hW0];simp
 have g0:W0.heap[w.heap.size]?=some (.cells #[.slice (some ⟨b,off,none⟩) len cap] 179 (0,0)):=by
  rw[← hW0];exact(Below.heap_alloc _ _ _ (by simp;omega)).trans ((Below.heap_alloc _ _ _ (by simp)).trans (World.alloc_heap_new w _))
 have g1:W0.heap[w.heap.size+1]?=some (.cells #[.pointer none,.slice none 0 0] 277 (0,0)):=by
  rw[← hW0];exact(Below.heap_alloc _ _ _ (by simp)).trans (by have:=World.alloc_heap_new (w.alloc (.cells #[.slice (some ⟨b,off,none⟩) len cap] 179)) (.cells #[.pointer none,.slice none 0 0] 277);rwa[World.size_alloc] at this)
 have g2:W0.heap[w.heap.size+2]?=some (.cells #[.slice (some ⟨b,off,none⟩) len cap] 179 (0,0)):=by
  rw[← hW0];have:=World.alloc_heap_new ((w.alloc (.cells #[.slice (some ⟨b,off,none⟩) len cap] 179)).alloc (.cells #[.pointer none,.slice none 0 0] 277)) (.cells #[.slice (some ⟨b,off,none⟩) len cap] 179)
  rwa[World.size_alloc,World.size_alloc] at this
 rw[hW0];have hI0:VI w.heap.size (.slice (some ⟨b,off,none⟩) len cap) (VA len []) W0 :=
  ⟨.inl ⟨ab _,_,g1,⟨rfl,.inl ⟨rfl,rfl⟩⟩,by simp[Value.ownBlock]⟩,g0,g2⟩
 have hcB:W0.cell? ⟨w.heap.size+2,0,none⟩=some (.slice (some ⟨b,off,none⟩) zs.length cap):=by rw[hlen];simp[World.cell?,g2]
 refine wpIn_rangeFunc_ownG rfl (by omega) (gf:=186) (lb:=#[.pointer (some ⟨w.heap.size+1+1,0,none⟩)]) rfl trivial (enters_of Tryz.func186 (by kernel_rfl) rfl)
  (a1i Fence.wide _ trivial rfl (by omega) (w.heap.size+2) w.heap.size b off cap zs (by omega) hlim hb W0 (by omega) (by omega) hcB (fun j hj=>(hB0.cell (p:=⟨b,off+j,none⟩) hb).trans (hc j hj)))
  (fun h k=>h.trans k) (fun W l o o' hl _ _ _=>⟨⟨rfl,rfl,rfl,by simp,fun k hk=>World.putObj_heap_other (by omega)⟩,World.putObj_heap_other (by omega)⟩) (Below.refl _ _) (fun _=>rfl)
  (fun pre W=>VI w.heap.size (.slice (some ⟨b,off,none⟩) len cap) (VA len pre) W∧Below w.heap.size w W)
  (fun _ _ _=>False)
  (OwnFrom.and (Own.from (a3d w.heap.size _ (fun pre=>VA len pre)) _) (ownFrom_below (ab _) (by omega)))
  (fun _ _ _ _ _ hs _ _=>hs)
  ⟨hI0,hB0⟩
  (fun x=>{ tmps:=#[.slice (some ⟨b,off,none⟩) len cap,.pointer (some ⟨w.heap.size,0,none⟩),.string ⟨#[]⟩,.pointer (some ⟨w.heap.size+1,0,none⟩),.int .i64 (x.1.1:Int),.int .u64 (x.1.2:Int),undef,.slice (some ⟨b,off,none⟩) len cap,.int .i64 len,.bool false,
   .slice (some ⟨b,off,none⟩) len cap,.func (.func 186) #[] #[.pointer (some ⟨w.heap.size+1+1,0,none⟩)],.int .i64 (x.1.1:Int),.int .u64 (x.1.2:Int),undef,undef,undef,undef,undef,undef,undef,undef,undef,undef,undef,undef,undef,undef,undef],defers:=[] }) ?assign ?body ?done ?stop
 case assign =>
  intro l x W K hK
  gi_wp2
  exact hK
 case body =>
  rintro l pre x W ⟨hT,hB⟩ hlt;have d5i:x.1.2<18446744073709551616:=Nat.lt_trans x.2 (by decide);have hd9:=Num.RN x.2;have hsz:(ByteArray.mk (Lib.decDigits x.1.2).toArray).size=Lib.nDigits x.1.2:=by simp[ByteArray.size,Lib.decDigits_length]
  have hwl:IntKind.i64.wrap ((len:Int)-1)=(len:Int)-1:=MW (by omega) (by omega);have hw9:IntKind.i64.wrap (9-(Lib.nDigits x.1.2:Int))=((9-Lib.nDigits x.1.2:Nat):Int):=by rw[MW (by omega) (by omega)];omega
  have d7n:Lib.TabIs Tryz.prog W "internal/strconv.uint64pow10" .u64 Lib.pow10Tab:=tab_below htab hB;have hal:=b5u len pre;have hcl:(Lib.byteCells (VA len pre)).length≤9*pre.length:=by rw [Lib.byteCells_length];exact hal
  gi_wp2_with (refine⟨trivial,?_⟩;gi_at_call 158;refine(CallsIn.inRound l (callsIn_wide.2 (iy x.1.2 d5i _ d7n))).mono ?_;rintro e W1 ⟨rfl,hb1⟩;have hT1:=V8 hT hb1;have c1:W1.cell? ⟨w.heap.size,0,none⟩=some (.slice (some ⟨b,off,none⟩) len cap):=by simp[World.cell?,hT1.2.1])
  ·have hx:(x.1.1:Int)<(len:Int)-1:=by assumption
   refine⟨trivial,(CallsIn.inRound l (callsIn_wide.2 (Tryz.strings_Repeat ⟨#[48]⟩ (9-Lib.nDigits x.1.2) W1 (by omega) (by
    have e1:(ByteArray.mk #[48]).size=1:=rfl;rw[e1];omega)))).mono ?_⟩
   rintro e W2 ⟨rfl,hb2⟩;have hT2:=V8 hT1 hb2;have l2:=lt_of_heap hT2.2.2;have hr1:(ByteArray.mk (Lib.repeatL [48] (9-Lib.nDigits x.1.2)).toArray).size=9-Lib.nDigits x.1.2:=by simp[ByteArray.size,YH]
   gi_wp2_with fail
   refine⟨trivial,(CallsIn.inRound l (callsIn_wide.2 (MN (w.heap.size+1) (w.heap.size+1) _ ⟨(Lib.repeatL [48] (9-Lib.nDigits x.1.2)).toArray⟩ W2 hT2.1 (by rw[hr1];omega) (by omega)))).mono ?_⟩;rintro e W3 ⟨rfl,h31,h32,h33⟩;obtain⟨hT3,kf3,kb3⟩:=P7 hT2 h31 h32 h33;have l3:=lt_of_heap hT3.2.2;have hl3:(Lib.byteCells (VA len pre++(ByteArray.mk (Lib.repeatL [48] (9-Lib.nDigits x.1.2)).toArray).data.toList)).length≤9*pre.length+(9-Lib.nDigits x.1.2):=by
    rw[Lib.byteCells_length,ar];have:(ByteArray.mk (Lib.repeatL [48] (9-Lib.nDigits x.1.2)).toArray).data.toList.length=9-Lib.nDigits x.1.2:=hr1;omega
   gi_wp2_with fail
   refine⟨trivial,(CallsIn.inRound l (callsIn_wide.2 (MN (w.heap.size+1) (w.heap.size+1) _ ⟨(Lib.decDigits x.1.2).toArray⟩ W3 hT3.1 (by rw[hsz];omega) (by omega)))).mono ?_⟩;rintro e W4 ⟨rfl,h41,h42,h43⟩;obtain⟨hT4,kf4,kb4⟩:=P7 hT3 h41 h42 h43
   gi_wp2
   have hpc:Rj len x=Lib.repeatL [48] (9-Lib.nDigits x.1.2)++Lib.decDigits x.1.2:=if_pos hx;have hbs:=hB.size;have e1b:=hb1.size;refine⟨by rw[hs0];exact(Sj hb1 _).trans ((Sj hb2 _).trans (kf3.trans kf4)),(RS hb1 hbs (lt_of_heap hT.2.2)).trans ((RS hb2 (by omega) (lt_of_heap hT1.2.2)).trans (kb3.trans kb4)),?_,
    hB.trans ((hb1.mono hbs).trans ((hb2.mono (by omega)).trans (kb3.1.trans kb4.1)))⟩
   rw[Oo,hpc,← cz];simpa using hT4
  ·have hx:¬ (x.1.1:Int)<(len:Int)-1:=by omega
   have l1:=lt_of_heap hT1.2.2;refine⟨trivial,(CallsIn.inRound l (callsIn_wide.2 (MN (w.heap.size+1) (w.heap.size+1) _ ⟨(Lib.decDigits x.1.2).toArray⟩ W1 hT1.1 (by rw[hsz];omega) (by omega)))).mono ?_⟩;rintro e W4 ⟨rfl,h41,h42,h43⟩;obtain⟨hT4,kf4,kb4⟩:=P7 hT1 h41 h42 h43
   gi_wp2
   have hpc:Rj len x=Lib.decDigits x.1.2:=if_neg (by omega);have hbs:=hB.size;refine⟨by rw[hs0];exact(Sj hb1 _).trans kf4,(RS hb1 hbs (lt_of_heap hT.2.2)).trans kb4,?_,hB.trans ((hb1.mono hbs).trans kb4.1)⟩;rw[Oo,hpc];simpa using hT4
 case done =>
  rintro D ys W hD rfl ⟨hT,hB⟩ hK;have l1:=lt_of_heap hT.2.2;rw[hlen,hall] at hT
  gi_wp2_with fail
  refine⟨trivial,(callsIn_wide.2 (Tryz.Builder_String_any_k (w.heap.size+1) (w.heap.size+1) (Num.QG zs) W hT.1 (by omega))).mono ?_⟩;rintro e W1 ⟨rfl,h1,h2,h3⟩
  gi_wp2
  have hK1:W1.heap[D]?=some (.deferred (some [])):=h3 D _ hK (by simp;omega) (fun c fz e=>by cases e);refine⟨by simp,.inl ⟨_,_,rfl,run_takeDeferred hK1,?_⟩⟩;exact⟨_,results_tmp rfl _ _ _,rfl,(hB.trans (h2.mono (by omega))).trans (belowK_b (w:=w) (ab _) W1 D _ _ (by omega) hK1 rfl rfl)⟩
 case stop =>
  rintro D c pre W _ _ h _;exact h.elim
end
open Go Go.Am Go.Vm
def a7i:gu:=fun xs _=>match xs with
 |[.int .i64 n]=>if -9223372036854775808≤n∧n≤9223372036854775807 then some (.string (bs (Lib.itoa n))) else none
 |_=>none
def WV:gu:=fun xs _=>match xs with
 |[.string a,.string b]=>some (.int .i64 (Lib.compareBytes a.data.toList b.data.toList))
 |_=>none
def YG:List Value→Option (List Nat)
 |[]=>some []
 | .int .u64 n::l=>if 0≤n∧n<1000000000 then(YG l).map (n.toNat::·) else none
 |_::_=>none
def textF:gu:=fun xs m=>match xs with
 |[.slice a n g]=>match BH m 1 n (.slice a n g) with
  |some l=>match YG l with
   |some zs=>if n*9≤140737488351232 then some (.string (bs (Num.QG zs))) else none
   |none=>none
  |none=>none
 |_=>none
theorem iE:∀{l:List Value} {zs:List Nat},YG l=some zs→l=zs.map (fun(n:Nat)=>Value.int .u64 (n:Int))∧Num.jJ zs
 |[],_,h=>by cases h;exact⟨rfl,fun a ha=>by grind⟩
 |v::l,zs,h=>by
  unfold YG at h;split at h
  ·grind
  ·rename_i n f c
   cases c;split at h
   ·rename_i g
    rw[ae] at h;obtain⟨b,e,rfl⟩:=h;obtain⟨i,d⟩:=iE e;refine⟨?_,fun a ha=>?_⟩
    ·grind
    ·rcases bd.1 ha with rfl|ha
     ·grind
     ·exact d a ha
   grind
  grind
theorem YX:∀{zs:List Nat},Num.jJ zs→YG (zs.map fun(n:Nat)=>Value.int .u64 (n:Int))=some zs
 |[],_=>rfl
 |n::zs,h=>by
  have b:n<1000000000:=h n (by simp);simp only[List.map_cons,YG];rw[if_pos ⟨by omega,by omega⟩,YX (fun a c=>h a (by grind))];simp
theorem aX(p:DR P (Au P F laid) ι m w)(x:∀k∈Au P F laid,m.get k=(AX P F laid).get k)
 (M:P.globalNamed a=some g) (l:IC P F laid g=some (e,zs.map fun z=>Value.int k z)) (f:g<P.globals.size):Lib.TabIs P w a k zs:=by
 have q:g∈Au P F laid:=by
  simp only[Au,List.mem_filter,List.mem_range];grind
 obtain⟨K,C,B,⟨A,N⟩,R,O⟩:=p.glob g q;have d:m.get g=.cells (zs.map fun z=>Value.int k z) e 0 true:=by rw[x g q,DJ f,l]
 obtain⟨I,S,T,b,r,_,c,_⟩:=Hu p C d;rw[B] at b;have y:I=(zs.map fun z=>Value.int k z).toArray:=by
  apply Array.ext
  ·grind
  ·intro i j h
   have s:i<(zs.map fun z=>Value.int k z).length:=by simpa using h
   obtain⟨J,o,n⟩:=c i s;rw[A,cG,Array.getElem?_eq_getElem j] at o;cases o;rw[getD_lt s] at n;have u:plain ((zs.map fun z=>Value.int k z)[i])=true:=by rw[List.getElem_map];rfl
   rw[n.BL u];simp
 unfold Lib.TabIs World.var?;grind
theorem mC(h:BF ι g [v] ys.toList):∃v',ys=#[v']∧Az ι g v v':=by
 obtain⟨v',a,e,c,b⟩:=h.Iz;have:a=[]:=br b.1.symm;grind
theorem p6(h:BF ι g [u,v] ys.toList):∃a v',ys=#[a,v']∧Az ι g u a∧Az ι g v v':=by
 obtain⟨a,f,e,j,d⟩:=h.Iz;obtain⟨v',b,k,i,c⟩:=d.Iz;have:b=[]:=br c.1.symm;grind
theorem a0w:Go.RowKit.Below w.heap.size w (Go.Sort.grow (w.drewN k) os):=Lib.below_grow _ w (ab _) k os
theorem a9u(a:Option Addr)(cap:Nat)(w:World):Calls Tryz.prog 127 #[.slice a 0 cap] w fun e w'=>e=.returned (.string ⟨#[48]⟩)∧Go.RowKit.Below w.heap.size w w':=by
 go_wp2
 go_ret
 exact⟨rfl,(Go.RowKit.Below.refl _ w).alloc (ab _) _⟩
section
variable {F:Nat}{laid:List (String×DataW Unit)}
structure a2q(F:Nat)(laid:List (String×DataW Unit)):Prop where
 tab:∃ g e,Tryz.prog.globalNamed "internal/strconv.uint64pow10"=some g∧IC Tryz.prog F laid g=some (e,Lib.pow10Tab.map fun z=>Value.int .u64 z)∧g<Tryz.prog.globals.size
theorem a3q(l:a2q F laid)(r:Am.Enters Tryz.prog 125):Xe Tryz.prog (Au Tryz.prog F laid) (AX Tryz.prog F laid) 125 a7i:=by
 refine⟨fun _ _ _=>rfl,r,fun ι m w u s v o q p h=>?_⟩;obtain⟨g,e,i,f,d⟩:=l.tab;have a:=aX o q i f d;unfold a7i at h;split at h
 ·rename_i n
  split at h
  ·rename_i b
   cases h;obtain⟨c,rfl,j⟩:=mC p;have:c=.int .i64 n:=by cases j;rfl
   subst this;refine⟨rfl,(Tryz.strconv_Itoa n b.1 b.2 w a).mono ?_⟩;rintro e w' ⟨rfl,k,x,rfl⟩;exact⟨rfl,a0w⟩
  grind
 grind
theorem kG(g:Am.Enters Tryz.prog 213):Xe Tryz.prog (Au Tryz.prog F laid) (AX Tryz.prog F laid) 213 WV:=by
 refine⟨fun _ _ _=>rfl,g,fun ι m w o n v p q f h=>?_⟩;unfold WV at h;split at h
 ·rename_i a b
  cases h;obtain⟨d,c,rfl,j,i⟩:=p6 f;have l:d=.string a:=by cases j;rfl
  have k:c=.string b:=by cases i;rfl
  subst l;subst k;refine⟨rfl,(Tryz.strings_Compare a b w).mono ?_⟩;rintro e w' ⟨rfl,rfl⟩;exact⟨rfl,Go.RowKit.Below.refl _ _⟩
 grind
theorem a2y(s:a2q F laid)(U:Am.Enters Tryz.prog 127):Xe Tryz.prog (Au Tryz.prog F laid) (AX Tryz.prog F laid) 127 textF:=by
 refine⟨fun _ _ _=>rfl,U,fun ι m w Z Y v C T S h=>?_⟩;obtain⟨g,e,O,N,M⟩:=s.tab;have o:=aX C T O N M;unfold textF at h;split at h
 ·rename_i a n gen
  split at h
  ·rename_i l y
   split at h
   ·rename_i i u
    split at h
    ·rename_i V
     cases h;obtain⟨v',rfl,R⟩:=mC S;obtain⟨p,q⟩:=iE u;obtain⟨X,r,rfl,I,x,f⟩:=OD C R rfl (fun b e=>by cases e) y;have c:i.length=n:=by grind
     refine⟨rfl,?_⟩;rcases bq n with h0|h0
     ·subst h0
      have:i=[]:=br c;subst this;have e0:bs (Num.QG [])=⟨#[48]⟩:=by
       show bs (Lib.decDigits 0)=_;rw[Lib.decDigits_one (by decide)];rfl
      exact(a9u X r w).mono fun e w' ⟨h1,h2⟩=>⟨by grind,h2⟩
     ·rcases x with⟨_,h1⟩|⟨A,h1|h1⟩
      ·omega
      ·obtain⟨rfl,d⟩:=h1
       obtain⟨b,k,B⟩:=A;subst d;have K:∀j,j<i.length→w.cell? ⟨b,k+j,none⟩=some (.int .u64 (i.getD j 0:Int)):=fun j J=>by
        have:=f _ rfl j (.int .u64 (i.getD j 0:Int)) (by rw[p,ax,ai J];simp[List.getD,J]) rfl
        rwa[addr_add] at this
       have z:b<w.heap.size:=by
        have:=K 0 (by omega);unfold World.cell? at this;rcases aq b w.heap.size with h|h
        ·exact h
        ·simp[Array.getElem?_eq_none h] at this
       have s:=c0e b k r i q (fun e=>by rw[e] at c;simp at c;omega) (by rw[c];exact V) w z K o;rw[c] at s;exact s
      omega
    grind
   grind
  grind
 grind
end
theorem YV:∀{l:List Nat} {vs:List Value},Du m F (cells l) vs→vs=l.map fun(n:Nat)=>Value.int .u64 (n:Int)
 |[],_,.nil=>rfl
 |c::l,_,.cons h t=>by
  cases h;rw[YV t];rfl
theorem b1w(f:Num.jJ l)(o:l.length<1000000000)(h:Du m F [.lst e (cells l) l.length] xs):∃v,textF xs m=some v∧RF m F (.str (bs (Num.QG l))) v:=by
 cases h with
 |cons h t =>
  cases t;obtain⟨k,j,i,p⟩:=RF.cellsOf (sz:=1) h (by rw[BD];rfl);refine⟨.string (bs (Num.QG l)),?_,.str _⟩;have b:=YV i;subst b;have d:∀{v:Value},RF m F (.lst e (cells l) l.length) v→∃a g,v=Value.slice a l.length g:=by
   intro v c;generalize l.length=n at c;generalize cells l=cs at c;cases c with
   |nil=>simp
   |room=>simp
   |lst=>simp
  obtain⟨a,g,rfl⟩:=d h;unfold textF;simp only[j,YX f];grind
end Go.Proofs.YthlffjlbidibdaaGreatDoor
namespace Go.Vm
section
open Go.Am
section
variable {P:Program}
noncomputable def DY(P:Program)(F:Nat)(laid:List (String×DataW Unit))(O:BG):Env:=⟨P,O,Au P F laid,gam P F laid⟩
theorem dL{F:Nat}{Fn:gu}(o:O f=sF (Au P F laid) (AX P F laid) g f)(n:g.lookup f=some Fn)
 (h:∀m a Bo,Du m a xs Bo→∃v,Fn Bo m=some v∧RF m a r v):Ak (DY P F laid O) f xs (.p r):=by
 intro m a σ Bo i s;have d:Du m a xs Bo:=k7 s;obtain⟨v,x,q⟩:=h m a Bo d;have u:∀k∈Au P F laid,m.get k=(AX P F laid).get k:=fun k j=>by
  obtain⟨b,e,l,c⟩:=Ec j;have:=(i.gl k l e (by simp only[DY,gam,if_pos b,c,Option.map_some])).2.1;rw[this,DJ b,c]
 refine lz (F:=fun Bo m=>open Classical in if ∀k∈Au P F laid,m.get k=(AX P F laid).get k then(Fn Bo m).map fun v=>(v,m) else none) (m':=m) (v:=v) (by simp only[DY,o,sF,n]) ?_
  ⟨_,_,_,a,σ,⟨rfl,rfl,rfl⟩,i,.p q,Step.refl _ _ _ _ _⟩
 grind
variable {H:Type}{enc:TypeId×Value→H}{W:World}{held:Bool}
def gK(e:TypeId)(xs:List Value)(m:Mem):Option (Value×Mem):=match xs with
 |[.slice none 0 0,.int .i64 n]=>if 0<n∧n≤1000000 then some (AU m e [] 0) else none
 |_=>none
def a0b(fg:FuncId)(e:TypeId)(O:BG):BG:=fun f=>if f=fg then some (gK e) else O f
theorem RZ(h:f≠a):a0b a e O f=O f:=if_neg h
theorem xO:a0b a e O a=some (gK e):=if_pos rfl
theorem jo(h:gK e xs m=some (v,m')):∃n:Int,xs=[.slice none 0 0,.int .i64 n]∧0<n∧n≤1000000∧(v,m')=AU m e [] 0:=by
 unfold gK at h;grind
theorem wV{e:TypeId}(T:EI P G O)(R:Am.Enters P k)
 (S:∀(n:Nat) (w:World),0<n→n≤1000000→Calls P k #[.slice none 0 0,.int .i64 n] w fun r w'=>∃cap cs,r=.returned (.slice (some ⟨w.heap.size,0,none⟩) 0 cap)∧w'.heap=w.heap.push (.cells cs e (0,0))∧w'.tape=w.tape∧w'.os=w.os∧w'.output=w.output∧cap*P.cellsOf e≤cs.size) :
 EI P G (a0b k e O):=by
 intro f Y j;by_cases h:f=k
 ·subst h
  rw[xO] at j;cases j;refine⟨fun z m v K o ι w c M d=>?_,fun z m v K o=>?_,R,UD.none fun n Z m=>rfl⟩
  ·obtain⟨n,rfl,V,U,s⟩:=jo o
   cases s;obtain⟨u,g⟩:=d;have p:c.toList.length=2:=by grind
   have X:c=#[.slice none 0 0,.int .i64 n]:=by
    obtain⟨l⟩:=c
    match l,p with
    |[a,b],_ =>
     have y:=g 0 (by simp);have x:=g 1 (by simp);simp only[List.getD_cons_zero,List.getD_cons_succ] at y x;have q:=x.BL (v:=.int .i64 n) rfl;cases y;rw[q]
   subst X;have:=S n.toNat w (by omega) (by omega);rw[cE (by omega)] at this;refine this.mono ?_;rintro r w' ⟨cap,cs,rfl,J,I,C,B,A⟩;exact⟨_,rfl,Hw (e:=e) (l:=[]) (n:=0) M J I C B (fun i N=>by simp at N) (ao _) (.inr A)⟩
  ·obtain⟨n,rfl,V,U,s⟩:=jo o
   cases s;exact AQ.alloc _ _
 ·rw[RZ h] at j
  exact T f Y j
end
end
section
open Go.Am
section
variable {P:Program}
noncomputable def knO(G:List Nat)(M0:Mem)(fs:List FuncId)(O:BG):BG:=fun f=>if f∈fs then Wx G M0 fs f else O f
theorem Yt(h:f∉a):knO G b a O f=O f:=if_neg h
theorem b2q(h:f∈a):knO G b a O f=Wx G b a f:=if_pos h
theorem b0m(g:EI P G (Wx G c b))(e:EI P G O):EI P G (knO G c b O):=by
 intro f d a;by_cases h:f∈b
 ·rw[b2q h] at a;exact g f d a
 ·rw[Yt h] at a;exact e f d a
theorem a1c{F:Nat}(j:O f=Wx (Au P F laid) (AX P F laid) d f)(i:f∈d):Ak (DY P F laid O) f [] (.p (.bool true)):=by
 intro m o σ g c n;cases n;have q:∀k∈Au P F laid,m.get k=(AX P F laid).get k:=fun k h=>by
  obtain⟨a,e,l,b⟩:=Ec h;have:=(c.gl k l e (by simp only[DY,gam,if_pos a,b,Option.map_some])).2.1;rw[this,DJ a,b]
 refine lz (F:=fun g m=>open Classical in if g=[]∧∀k∈Au P F laid,m.get k=(AX P F laid).get k then some (.bool true,m) else none) (m':=m) (v:=.bool true) (by simp only[DY,j,Wx,if_pos i]) ?_
  ⟨_,_,_,o,σ,⟨rfl,rfl,rfl⟩,c,.p (.bool true),Step.refl _ _ _ _ _⟩
 grind
end
end
section
open Go.Am
section
variable {P:Program}{G:List Nat}
theorem b1k(j:DR P G ι m w)(a:Go.RowKit.Below w.heap.size w w')(R:w.heap.size≤ib.blk)(z:w'.heap[ib.blk]?=some obj)(C:WY P ι m.gen ib x (some obj))
 (O:x.ro=false):∃g,Ext ι m w g (m.alloc x) w'∧DR P G g (m.alloc x) w'∧g m.size=some ib:=by
 have hget:∀b,b<m.size→(m.alloc x).get b=m.get b:=fun b a=>by rw[dZ,if_neg (by omega)]
 have r:∀b,b<m.size→(m.alloc x).gen b=m.gen b:=fun b a=>CY (hget b a)
 have n:∀b,b<m.size→(m.alloc x).ro b=m.ro b:=fun b a=>FQ (hget b a)
 have l:∀c,c<w.heap.size→w'.heap[c]?=w.heap[c]?:=fun c u=>a.block c u
 have I:=a.size;have A:ib.blk<w'.heap.size:=by
  grind
 let g:BJ:=fun b=>if b=m.size then some ib else ι b
 have p:Le ι m.gen g (m.alloc x).gen:=fun b d a=>by
  have o:=(j.dom b d a).1;grind
 refine⟨g,⟨by simp[Mem.alloc],ab _,fun b a _=>hget b a,fun b a _=>hget b a,fun b a=>n b a,p,fun b d a=>?_,fun b d a=>?_,by omega,
  fun c u _=>l c u,a.tape,a.os,a.output⟩,⟨fun b d a=>?_,fun b d a=>?_,fun b q d f a i K=>?_,fun k J=>?_⟩,if_pos rfl⟩
 ·grind
 ·grind
 ·change (if b=m.size then some ib else ι b)=some d at a
  split at a
  ·cases a;exact⟨by simp[Mem.alloc];omega,by omega⟩
  ·have:=j.dom b d a
   exact⟨by simp only[Mem.alloc];omega,by omega⟩
 ·change (if b=m.size then some ib else ι b)=some d at a
  split at a
  ·rename_i e;cases a
   rw[dZ,if_pos e.symm];rw[z];exact C.mono p
  ·have:=j.dom b d a
   rw[hget b this.1,l _ this.2];exact(j.blk b d a).mono p
 ·change (if b=m.size then some ib else ι b)=some d at a
  change (if q=m.size then some ib else ι q)=some f at i
  split at a<;>split at i
  ·exact .inl (by omega)
  ·cases a;have:=j.dom q f i;omega
  ·cases i;have:=j.dom b d a;omega
  ·rcases j.inj b q d f a i K with h|⟨s,y⟩
   ·exact .inl h
   ·exact .inr ⟨by rw[n b (j.dom b d a).1];exact s,by rw[n q (j.dom q f i).1];exact y⟩
 ·obtain⟨d,s,y,B,N,M⟩:=j.glob k J
  have o:=(j.dom k d s).1;refine⟨d,?_,y,⟨B.1,by rw[hget k o];exact B.2⟩,by rw[r k o];exact N,by rw[n k o];exact M⟩;show(if k=m.size then some ib else ι k)=some d;rw[if_neg (by omega)];exact s
theorem o9(p:DR P G ι m w)(r:Go.RowKit.Below w.heap.size w w')(C:l≠[])(B:l.all Am.plainCell=true)(J:P.cellsOf e=1)(q:w'.ownsRow w.heap.size e 1 v l.length l) :
 Post P G ι m w (AU m e l l.length).1 (AU m e l l.length).2 v w':=by
 obtain⟨-,h⟩:=q;rcases h with⟨_,h⟩|⟨g,s,f,rfl,o,n,k,A,z,y⟩
 ·grind
 obtain⟨b,a,u,d⟩:=b1k (x:=.cells l e 0 false) (ib:=⟨g,0,f.size,P.cellsOf e⟩) p r o n
  ⟨fun _=>rfl,rfl,rfl,fun i I=>by
   have c:Am.plainCell (l.getD i undef)=true:=by
    grind
   refine⟨l.getD i undef,?_,Az.plainCell c⟩;grind,fun _ j _=>by simp⟩ rfl
 refine⟨b,a,u,.sl _ _ _ _ _ _ ⟨_,d,ao _,k,fun _=>⟨rfl,rfl,.inr ⟨rfl,?_⟩⟩⟩⟩;grind
abbrev FrF:=List Value→Option (List Value)
def iw(e:TypeId)(Fn:FrF)(Bo:List Value)(m:Mem):Option (Value×Mem):=match Fn Bo with
 |some []=>some (.slice none 0 0,m)
 |some (v::l)=>some (AU m e (v::l) (l.length+1))
 |none=>none
open Classical in
noncomputable def frO(G:List Nat)(M0:Mem)(ff:FuncId)(e:TypeId)(Fn:FrF)(O:BG):BG:=fun f =>
 if f=ff then some fun Bo m=>if ∀k∈G,m.get k=M0.get k then iw e Fn Bo m else none else O f
theorem b2z{Fn:FrF}(h:f≠ff):frO G a ff e Fn O f=O f:=if_neg h
theorem b0b{Fn:FrF}(x:EI P G O)(s:Am.Enters P ff)(A:P.cellsOf e=1)
 (u:∀ι m w Bo (as':Array Value) l,DR P G ι m w→(∀k∈G,m.get k=o.get k)→BF ι m.gen Bo as'.toList→Fn Bo=some l→l.all Am.plainCell=true ∧
  Calls P ff as' w fun r w'=>∃v,r=.returned v∧w'.ownsRow w.heap.size e 1 v l.length l∧(l=[]→v=.slice none 0 0)∧Go.RowKit.Below w.heap.size w w'):EI P G (frO G o ff e Fn O):=by
 intro f B g;by_cases h:f=ff
 ·subst h
  unfold frO at g;rw[if_pos rfl] at g;cases g;refine⟨fun Bo m v n b ι w as' i d=>?_,fun Bo m v n b=>?_,s,UD.c0t fun Bo m v n b=>by
   split at b
   ·unfold iw at b
    split at b
    ·cases b;rfl
    ·cases b;rfl
    grind
   grind⟩
  ·simp only at b
   split at b
   ·rename_i q
    unfold iw at b;cases hl:Fn Bo with
    |none=>grind
    |some l =>
     obtain⟨p,c⟩:=u ι m w Bo as' l i q d hl;rw[hl] at b;cases l with
     |nil =>
      cases b;refine c.mono ?_;rintro r w' ⟨v,rfl,_,y,j⟩;have:=y rfl;subst this;exact⟨_,rfl,Post.below i j rfl⟩
     |cons a l =>
      cases b;refine c.mono ?_;rintro r w' ⟨v,rfl,z,_,j⟩;exact⟨v,rfl,o9 i j (by simp) p A z⟩
   grind
  ·simp only at b
   split at b
   ·unfold iw at b
    split at b
    ·cases b;exact AQ.refl _
    ·cases b;exact AQ.alloc _ _
    ·cases b
   ·cases b
 ·rw[b2z h] at g
  exact x f B g
theorem c8b{e:TypeId}{Fn:FrF}(x:O ff=frO (Au P F laid) (AX P F laid) ff e Fn O0 ff)(h:∀m b Bo,Du m b xs Bo→Fn Bo=some l)
 (p:∀m b,Du m b cs l) (u:l.all BQ=true):Bf (DY P F laid O) ff xs e cs l.length l.isEmpty:=by
 intro m b σ Bo j y;have i:Du m b xs Bo:=k7 y;have r:=h m b Bo i;have q:∀k∈Au P F laid,m.get k=(AX P F laid).get k:=fun k s=>by
  obtain⟨c,e,l,d⟩:=Ec s;have:=(j.gl k l e (by simp only[DY,gam,if_pos c,d,Option.map_some])).2.1;rw[this,DJ c,d]
 have f:(DY P F laid O).O ff=some (fun Bo m=>open Classical in if ∀k∈Au P F laid,m.get k=(AX P F laid).get k then iw e Fn Bo m else none):=by
  show O ff=_;rw[x];unfold frO;simp
 cases l with
 |nil =>
  have g:cs=[]:=by cases p m b;rfl
  subst g;obtain⟨o,n⟩:=W9 e j;refine lz (m':=m) (v:=.slice none 0 0) f ?_ ⟨.vec 0 0 0 0,[(0,.vec e [] 0 true)],1,b,_,⟨rfl,rfl,rfl⟩,o,tN e [] 0,n⟩;rw[if_pos q];unfold iw;rw[r]
 |cons a l =>
  obtain⟨o,n,_,z⟩:=OU (e:=e) (l.length+1) j (p m b) u;refine lz (m':=(AU m e (a::l) (l.length+1)).2) (v:=(AU m e (a::l) (l.length+1)).1) f ?_ ⟨_,_,_,b,_,⟨rfl,rfl,rfl⟩,o,z,n⟩;rw[if_pos q];unfold iw;rw[r]
end
end
end Go.Vm
