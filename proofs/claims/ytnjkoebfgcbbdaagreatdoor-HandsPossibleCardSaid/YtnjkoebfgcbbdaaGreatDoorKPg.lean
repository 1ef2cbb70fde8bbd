/-
  Texts of a proof, merged (VmD, Shelf, NumA, WA, Lib1, OraA). Conditions: in each statement.
-/
import Derived.Laws.Strings
import Derived.Laws.Strings2
import Derived.Laws.Concat
import Derived.Shelf.Strings.Builder1
import Derived.Shelf.Strings.Builder2
import Derived.Shelf.Small.Strs
import Derived.Shelf.Strings.BuilderF
import Derived.Shelf.Strings.BuilderK
import Derived.Shelf.Strconv.Itoa0
import Derived.Shelf.Strconv.Itoa1
import Derived.Shelf.LaysM
import Derived.Shelf.Strconv.Itoa2
import Derived.Shelf.Strconv.Itoa3
import Derived.Shelf.Sort.Plain
import Derived.Shelf.Strings.Prefix
import Derived.Shelf.Bits.Mul64
import Derived.Shelf.Strings.Repeat
import Derived.Ground.Names2Prog
import Derived.Shelf.Slices.CompactI
import Derived.Shelf.Slices.In.SortNone
import Derived.Test.YtnjkoebfgcbbdaaGreatDoorProg
import Derived.Lib.ItoaNum
import Derived.Lib.Bytealg
import Derived.Lib.AppendIntMem
import Derived.Lib.OthersKept
import Derived.Lib.Walk
import Derived.WalkKit
import Derived.BigCall
import Derived.BigGuard
import Derived.RangeFuncBox
import Derived.RangeFuncLeaves
import Derived.RangeFuncBound
import Derived.RangeFuncCalls
import Derived.Shelf.Abstract
import Derived.OwnWalkIn
import Derived.TacticsInMore
import Derived.LoopNIn
import Derived.LoopIn
import Derived.Laws.AppendOwn
import Derived.Test.YtnjkoebfgcbbdaaGreatDoorKPf
set_option linter.unusedSimpArgs false
set_option linter.unusedVariables false
set_option linter.unusedSectionVars false
set_option maxRecDepth 100000
set_option maxHeartbeats 8000000
abbrev aR:=@List.mem_singleton
abbrev bX:=@Nat.pow_succ
abbrev cq:=@List.append_assoc
abbrev cy:=@Nat.pow_add
abbrev cE:=@Nat.min_eq_left
abbrev cG:=@Nat.sub_self
abbrev cR:=@Nat.div_lt_of_lt_mul
abbrev cX:=@List.length_pos_iff
abbrev cY:=@Nat.mul_assoc
abbrev dj:=@Nat.pow_pos
abbrev dr:=@Nat.mul_comm
abbrev dy:=@Array.size_replicate
abbrev el:=@Nat.div_lt_self
abbrev eE:=@Nat.pow_zero
abbrev fa:=@Nat.div_div_eq_div_mul
abbrev fh:=@Nat.div_eq_of_lt
abbrev fj:=@List.set_append_right
abbrev fw:=@Nat.add_mul_div_left
abbrev fx:=@Nat.mod_add_div
abbrev gm:=@Nat.add_mul_mod_self_left
abbrev gC:=@Nat.add_sub_cancel_left
abbrev gD:=@List.getElem?_cons_succ
abbrev gR:=@List.take_append_drop
namespace Go.Vm
section
open Go.Am
variable {E:Env}{L:Frame}{H:Heap}{nx:Nat}{Q:PV→Heap→Nat→Prop}{w:Bool}
variable {dst:Option Tmp}{ty:TypeId}{pos:String}{af:Array Edge}{gd:Option (Nat×Bool)}
def AO(P:Program)(rs:List ResultVar)(Q:PV→Heap→Nat→Prop)(e:BH)(L:Frame)(H:Heap)(nx:Nat):Prop :=
 match e with
 | .exit _=>False
 | .normal=>∃r,EI P rs L H=some r∧Q r H nx
 | .ret=>∃r,EI P rs L H=some r∧Q r H nx
theorem AO.ret{P:Program}{rs:List ResultVar}{r:PV}(h:EI P rs L H=some r)(q:Q r H nx):AO P rs Q .ret L H nx:=⟨r,h,q⟩
theorem AL.c0e{f:FuncId}{fn:Func}{c:Code}{args:List PV}(z:E.O f=none)(B:E.P.funcs[f]?=some fn)(C:fn.body=some c)(k:Ir E.G fn c=true)(R:args.length≤fn.ntmps)
 (h:Ad E nx c (CG 0 args) H nx (AO E.P fn.results.toList Q)):AL E f args H nx Q:=by
 intro m F σ N I o;refine GH.enter z B C k (by rw[← o.length];omega) ((h ⟨m,F,σ,H,nx⟩ rfl m F σ _ I ?_ (Step.refl _ _ _ _ _)).mono ?_)
 ·intro i v A
  obtain⟨_,l⟩:=Jk args 0 i v A;obtain⟨u,n,S⟩:=o.get l;have:=Ho N 0 .leaf i;grind
 ·rintro e s ⟨M,d,a,j,b,q,p,K,J⟩
  have g:(∃r,EI E.P fn.results.toList M d=some r∧Q r d a)→∃v,Fj E.P fn s=some v∧∃r d a j b,Q r d a∧Ctx E.Γ s.m j b d a∧RP s.m j (htag d) b a r v∧Step m F σ H nx s.m j b d a:=by
   rintro⟨x,y,q⟩;obtain⟨v,l,n⟩:=KZ p K y;exact⟨v,l,x,d,a,j,b,q,p,n,J⟩
  cases e with
  |exit i=>exact q.elim
  |normal=>exact g q
  |ret=>exact g q
theorem Aa.inl{c:Operand}{args:Array Operand}{p:Array TypeId}{g:FuncId}{e cs Bh:List PV}(l:AU E.Γ L c=some (.clo g e cs))(o:evs E.Γ L args.toList=some Bh)
 (n:AL E g (e++Bh++cs) H nx Q):Aa E true ⟨dst,.call { callee:=.value c,args:=args,argTypes:=p },ty,pos,af,gd⟩ L H nx Q:=by
 intro m F σ t b d;have a:=Bz b d l;generalize hfe:ev t c=fv at a;cases a with
 |clo k j =>
  rename_i h i;refine Gy.call (f:=g) (Bh:=h++args.toList.map (ev t)++i) (fun call=>by simp only[BO,hfe]) ((n m F σ _ b ((k.append (RX b d o)).append j)).mono ?_);simp
theorem Aa.inline{e:Operand}{args:Array Operand}{m:Array TypeId}{g:FuncId}{d cs Bh:List PV}{fn:Func}{c:Code}(n:g=g)(j:AU E.Γ L e=some (.clo g d cs))(l:evs E.Γ L args.toList=some Bh)
 (f:E.O g=none) (b:E.P.funcs[g]?=some fn) (k:fn.body=some c) (a:Ir E.G fn c=true) (i:(d++Bh++cs).length≤fn.ntmps)
 (h:Ad E nx c (CG 0 (d++Bh++cs)) H nx (AO E.P fn.results.toList Q)):Aa E true ⟨dst,.call { callee:=.value e,args:=args,argTypes:=m },ty,pos,af,gd⟩ L H nx Q :=
 Aa.inl j l (AL.c0e f b k a i h)
end
section
open Go.Am
variable {E:Env}{L:Frame}{H:Heap}{nx:Nat}{Q:PV→Heap→Nat→Prop}{w:Bool}
variable {dst:Option Tmp}{ty:TypeId}{pos:String}{af:Array Edge}{gd:Option (Nat×Bool)}
def bs(l:List UInt8):ByteArray:=⟨l.toArray⟩
theorem RI(l:List UInt8):(bs l).size=l.length:=by rfl
theorem lD(l:List UInt8):(bs l).toList=l:=ByteArray.toList_mk l
theorem b1v{a b:List UInt8}(h:bs a=bs b):a=b:=by
 have:=congrArg (fun s:ByteArray=>s.data.toList) h;assumption
abbrev st(l:List UInt8):PV:=.p (.str (bs l))
instance:Enc UInt8:={ default:=0,enc:=fun n=>[.int .u8 (n.toNat:Int)],size:=1,len:=fun _=>rfl }
instance c7t:Enc Nat:={ default:=0,enc:=fun n=>[.int .u64 (n:Int)],size:=1,len:=fun _=>rfl }
theorem Aa.Nc{x:Operand}{t:TypeId}{l:List UInt8}(a:AU E.Γ L x=some (st l))(b:E.P.underlying t=some .string)(q:Q (.p (.int .i64 l.length)) H nx) :
 Aa E w ⟨dst,.call { callee:=.builtin .len,args:=#[x],argTypes:=#[t] },ty,pos,af,gd⟩ L H nx Q :=
 Aa.c8c a b (by assumption)
theorem Aa.c6o{op:BinOp}{t e:TypeId}{x y:Operand}{a b:List UInt8}{r:FV}(g:AU E.Γ L x=some (st a))(f:AU E.Γ L y=some (st b))
 (h:∀m F,∃v,YW E.P (do eqGuard op t x y (.string (bs a)) (.string (bs b));binOp op t (.string (bs a)) (.string (bs b)))=some v∧RF m F r v) (q:Q (.p r) H nx) :
 Aa E w ⟨dst,.binOp op t x y e,ty,pos,af,gd⟩ L H nx Q :=
 Aa.quiet q fun m F σ j d c=>by
  obtain⟨v,k,i⟩:=h m F;refine⟨v,fun _=>?_,.p i⟩;simp only[BO,FI,Nh d c g,Nh d c f,P8];rw[show(plain (Value.string (bs a))&&plain (Value.string (bs b)))=true from rfl];grind
theorem Aa.eqS{t c:TypeId}{x y:Operand}{a b:List UInt8}(e:AU E.Γ L x=some (st a))(d:AU E.Γ L y=some (st b))(q:Q (.p (.bool (decide (a=b)))) H nx) :
 Aa E w ⟨dst,.binOp .eql t x y c,ty,pos,af,gd⟩ L H nx Q :=
 Aa.c6o e d (fun m F=>⟨.bool (decide (a=b)),by
  have:Dz E.P (do eqGuard .eql t x y (.string (bs a)) (.string (bs b));binOp .eql t (.string (bs a)) (.string (bs b)))=some (.bool (decide (a=b))):=by
   rw[binOp_string_eql,lD,lD];rw[show((a==b):Bool)=decide (a=b) by by_cases h:a=b<;>simp[h]];rfl
  assumption,.bool _⟩) q
theorem Aa.YP{t c:TypeId}{x y:Operand}{a b:List UInt8}(e:AU E.Γ L x=some (st a))(d:AU E.Γ L y=some (st b))(g:a.length+b.length<4611686018427387904)(q:Q (st (a++b)) H nx) :
 Aa E w ⟨dst,.binOp .add t x y c,ty,pos,af,gd⟩ L H nx Q :=
 Aa.c6o e d (fun m F=>⟨.string (bs (a++b)),by
  have:Dz E.P (do eqGuard .add t x y (.string (bs a)) (.string (bs b));binOp .add t (.string (bs a)) (.string (bs b)))=some (.string (bs (a++b))):=by
   rw[binOp_string_add];simp only[Ar,eqGuard,Op.stringOp,RI];have f:¬ (((a.length+b.length:Nat):Int)>IntKind.i64.max):=by
    have:IntKind.i64.max=9223372036854775807:=by decide
    omega
   rw[if_neg f];rfl
  exact KX this rfl,.str _⟩) q
theorem Aa.b4c{t:TypeId}{x b:Operand}{l:List UInt8}{k:IntKind}{i:Int}(e:AU E.Γ L x=some (st l))(g:AU E.Γ L b=some (.p (.int k i)))(f:E.P.underlying t=some .string)(n:0≤i)(s:i<l.length)
 (q:Q (.p (.int .u8 ((gi l i.toNat).toNat:Int))) H nx):Aa E w ⟨dst,.index t x b,ty,pos,af,gd⟩ L H nx Q :=
 Aa.quiet q fun m F σ o d c=>by
  refine⟨.int .u8 ((gi l i.toNat).toNat:Int),fun _=>?_,.p (.int _ _)⟩;have a:i.toNat<l.length:=by omega
  have h:(bs l)[i.toNat]?=some (gi l i.toNat):=by
   have j:i.toNat<(bs l).size:=by assumption
   rw[getElem?_pos (bs l) i.toNat j];simp only[gi,List.getElem?_eq_getElem a,Option.getD_some];rfl
  have r:Dz E.P (Instr.index t (.string (bs l)) (.int k i))=some (.int .u8 ((gi l i.toNat).toNat:Int)):=by
   simp only[Instr.index,asIntOf,Ar,BX,Option.bind_some,AX,f,n,if_true,h]
  simp only[BO,FI,Nh d c e,CQ d c g];rw[show plain (Value.int k i)=true from rfl];grind
theorem Aa.U8{t:TypeId}{x a:Operand}{l:List UInt8}{k:IntKind}{i:Nat}(b:AU E.Γ L x=some (st l))(d:AU E.Γ L a=some (.p (.int k (i:Int))))(c:E.P.underlying t=some .string)(e:i<l.length)
 (q:Q (.p (.int .u8 ((gi l i).toNat:Int))) H nx):Aa E w ⟨dst,.index t x a,ty,pos,af,gd⟩ L H nx Q :=
 Aa.b4c b d c (by omega) (by omega) q
theorem Sr{P:Program}{k:IntKind}{i:Int}{y:Nat}{c:BoundsCode}(b:0≤i)(a:i≤y):Dz P (Instr.sliceBound (.int k i) y c)=some i.toNat:=by
 simp only[Instr.sliceBound,asIntOf,Ar,BX,Option.bind_some,b,a,and_self,if_true]
theorem Aa.mF{t:TypeId}{x:Operand}{d g:Option Operand}{l:List UInt8}{a b:Nat}(y:AU E.Γ L x=some (st l))(u:E.P.underlying t=some .string)
 (c:match d with|none=>a=0|some o=>∃k,AU E.Γ L o=some (.p (.int k (a:Int)))) (e:match g with|none=>b=l.length|some o=>∃k,AU E.Γ L o=some (.p (.int k (b:Int))))
 (J:a≤b) (I:b≤l.length) (q:Q (st ((l.take b).drop a)) H nx):Aa E w ⟨dst,.slice t x d g none,ty,pos,af,gd⟩ L H nx Q :=
 Aa.quiet q fun m F σ f j i=>by
  refine⟨.string (bs ((l.take b).drop a)),fun _=>?_,.p (.str _)⟩;have s:(bs l).extract a b=bs ((l.take b).drop a):=by
   unfold bs;rw[ByteArray.extract_mk];congr 2
   rw[List.drop_take]
  have C:YW E.P (Instr.sliceAt t (.string (bs l)) (d.map (ev f)) (g.map (ev f)) none)=some (.string (bs ((l.take b).drop a))):=by
   refine KX ?_ rfl;have r:Dz E.P (Instr.sliceBounds false (bs l).size (bs l).size (d.map (ev f)) (g.map (ev f)) none)=some (a,b,l.length):=by
    cases g with
    |none =>
     simp only at e;subst e;cases d with
     |none =>
      subst c;rfl
     |some o =>
      obtain⟨k,h⟩:=c;simp only[Instr.sliceBounds,Option.map_none,Option.map_some,Ar,BX,Option.bind_some,RI,CQ j i h,Option.isSome_none,Bool.false_eq_true,if_false,Int.toNat_natCast,Sr (show(0:Int)≤(a:Int) by omega) (show(a:Int)≤((l.length:Nat):Int) by omega)]
    |some z =>
     obtain⟨A,n⟩:=e;cases d with
     |none =>
      simp only at c;subst c;simp only[Instr.sliceBounds,Option.map_none,Option.map_some,Ar,BX,Option.bind_some,RI,CQ j i n,Bool.false_eq_true,if_false,Int.toNat_natCast,Sr (show(0:Int)≤(b:Int) by omega) (show(b:Int)≤((l.length:Nat):Int) by omega)]
     |some o =>
      obtain⟨k,h⟩:=c;simp only[Instr.sliceBounds,Option.map_none,Option.map_some,Ar,BX,Option.bind_some,RI,CQ j i h,CQ j i n,Option.isSome_none,Bool.false_eq_true,if_false,Int.toNat_natCast,
       Sr (show(0:Int)≤(b:Int) by omega) (show(b:Int)≤((l.length:Nat):Int) by omega),Sr (show(0:Int)≤(a:Int) by omega) (show(a:Int)≤((b:Nat):Int) by omega)]
   simp only[Instr.sliceAt,Instr.slice,Ar,AX,u,Option.bind_some,Option.isSome_none,Bool.false_eq_true,if_false,r,BX,s]
  have B:((d.map (ev f)).all plain&&(g.map (ev f)).all plain&&(none:Option Value).isNone)=true:=by
   have M:(d.map (ev f)).all plain=true:=by
    cases d with
    |none=>rfl
    |some o=>obtain⟨k,h⟩:=c;simp only[Option.map_some,Option.all_some,CQ j i h];rfl
   have K:(g.map (ev f)).all plain=true:=by
    cases g with
    |none=>rfl
    |some o=>obtain⟨k,h⟩:=e;simp only[Option.map_some,Option.all_some,CQ j i h];rfl
   grind
  simp only[BO,FI,aslice,Nh j i y,u,Option.isSome_none,Bool.false_and,Bool.false_eq_true,if_false,Option.map_none];grind
theorem Aa.ug{t:TypeId}{x o:Operand}{l:List UInt8}{k:IntKind}{b:Nat}(c:AU E.Γ L x=some (st l))(e:AU E.Γ L o=some (.p (.int k (b:Int))))(d:E.P.underlying t=some .string)(f:b≤l.length)(q:Q (st (l.take b)) H nx) :
 Aa E w ⟨dst,.slice t x none (some o) none,ty,pos,af,gd⟩ L H nx Q:=Aa.mF (a:=0) c d rfl ⟨k,e⟩ (by omega) f (by grind)
theorem Aa.a0f{t:TypeId}{x o:Operand}{l:List UInt8}{k:IntKind}{a:Nat}(c:AU E.Γ L x=some (st l))(e:AU E.Γ L o=some (.p (.int k (a:Int))))(d:E.P.underlying t=some .string)(f:a≤l.length)(q:Q (st (l.drop a)) H nx) :
 Aa E w ⟨dst,.slice t x (some o) none none,ty,pos,af,gd⟩ L H nx Q:=Aa.mF (b:=l.length) c d ⟨k,e⟩ rfl f (ab _) (by grind)
theorem XG{m:Mem}{F:Nat→Prop}:∀(l:List UInt8),Dt m F (cells l) (l.map fun c=>Value.int .u8 c.toNat)
 |[]=>.nil
 |c::l=>.cons (.int _ _) (XG l)
theorem Aa.toBytes{s d e:TypeId}{i:TypeInfo}{x:Operand}{l:List UInt8}(h:AU E.Γ L x=some (st l))(b:E.P.underlying s=some .string)(f:E.P.underlying d=some (.slice e))(k:E.P.underlying e=some (.int .u8))(j:E.P.info? e=some i)(o:i.size=1)
 (z:l.length≤1000000) (q:Q (.vec nx l.length 0 l.length) ((nx,.vec e (cells l) l.length false)::H) (nx+1)):Aa E w ⟨dst,.convert s d x,ty,pos,af,gd⟩ L H nx Q:=by
 intro m F σ t g y;have n:Ky (bs l)=l.map fun c=>Value.int .u8 c.toNat:=by rfl
 obtain⟨u,r,p,_⟩:=SA (e:=e) (cs:=cells l) (vs:=l.map fun(c:UInt8)=>Value.int .u8 (c.toNat:Int)) l.length g (XG l) (by simp[BK]);refine Gy.op (v:=(AQ m e (l.map fun(c:UInt8)=>Value.int .u8 (c.toNat:Int)) l.length).1) (m':=(AQ m e (l.map fun(c:UInt8)=>Value.int .u8 (c.toNat:Int)) l.length).2) (fun _=>?_) ⟨_,_,_,F,_,q,u,?_,r,fun _=>p⟩
 ·have a:(JE E.P s||JE E.P d)=true:=by simp only[JE,b,f];rfl
  simp only[BO,FI,a,if_true,Yv,b,f,Nh g y h,k,j];rw[if_pos ⟨o,by rw[RI];omega⟩,n,RI]
 assumption
theorem QU:∀(l:List UInt8),WZ (l.map fun c=>Value.int .u8 c.toNat)=some l
 |[]=>rfl
 |c::l=>by
  have h:=c.toNat_lt;simp only[List.map_cons,WZ];rw[if_pos ⟨by omega,by omega⟩,QU l];simp
theorem QN{m:Mem}{F:Nat→Prop}:∀{l:List UInt8} {vs:List Value},Dt m F (cells l) vs→vs=l.map fun c=>Value.int .u8 c.toNat
 |[],_,.nil=>rfl
 |c::l,_,.cons h t=>by
  cases h;rw[QN t];rfl
theorem Aa.ofBytes{s d e:TypeId}{x:Operand}{l:List UInt8}{k:Nat}(B:qU E.Γ L H nx x 1 (cells l) k)(C:∃y,AU E.Γ L x=some y∧(∀m F σ v,RP m F (htag H) σ nx y v→∃a g,v=.slice a k g))(n:E.P.underlying s=some (.slice e))(o:E.P.underlying d=some .string)(K:E.P.underlying e=some (.int .u8))
 (q:Q (st l) H nx):Aa E true ⟨dst,.convert s d x,ty,pos,af,gd⟩ L H nx Q :=
 Aa.quiet q fun m F σ z u r=>by
  obtain⟨J,M,b,j,I⟩:=B m F σ z u r;obtain⟨y,A,f⟩:=C;obtain⟨a,g,c⟩:=f m F σ _ (Bz u r A);have h:=QN j;subst h;rw[c] at b;refine⟨.string (bs l),fun _=>?_,.p (.str _)⟩;have i:(JE E.P s||JE E.P d)=true:=by simp only[JE,n,o];rfl
  simp only[BO,FI,i,if_true,Yv,n,o,c,K,b,QU];rfl
end
section
open Go.Am
variable {E:Env}{L:Frame}{H:Heap}{nx:Nat}{Q:PV→Heap→Nat→Prop}{w:Bool}
variable {dst:Option Tmp}{ty:TypeId}{pos:String}{af:Array Edge}{gd:Option (Nat×Bool)}
theorem Q8{α:Type}:∀(z p c:List α) (o:Nat),Dh (p++c) (p.length+o) z=p++Dh c o z
 |[],_,_,_=>rfl
 |x::z,p,c,o=>by
  simp only[Dh];rw[fj _ _ (by omega),gC,Nat.add_assoc,Q8 z p (c.set o x) (o+1)]
theorem Vt{α:Type}:∀(z xs ys:List α),z.length=xs.length→Dh (xs++ys) 0 z=z++ys
 |[],xs,ys,h=>by rw[bu h.symm];rfl
 |x::z,[],ys,h=>by grind
 |x::z,y::xs,ys,h=>by
  simp only[Dh,List.cons_append,List.set_cons_zero];have:=Q8 z [x] (xs++ys) 0;simp only[List.length_singleton,List.singleton_append] at this;rw[this,Vt z xs ys (by grind)]
theorem iJ{α:Type}[Enc α](l:List α)(i:Nat)(a:α)(h:i<l.length):Dh (cells l) (i*Enc.size α) (Enc.enc a)=cells (l.set i a):=by
 have b:l=l.take i++(gi l i::l.drop (i+1)):=by
  have c:l.drop i=gi l i::l.drop (i+1):=by
   simp[gi,List.getElem?_eq_getElem h]
  conv=>lhs;rw[← gR i l]
  rw[c]
 have e:l.set i a=l.take i++(a::l.drop (i+1)):=by
  conv=>lhs;rw[b]
  rw[fj _ _ (by grind)];rw[ar,cE (by omega),cG,List.set_cons_zero]
 rw[e,Gg]
 conv=>lhs;rw[b,Gg]
 have d:i*Enc.size α=(cells (l.take i)).length+0:=by rw[C9,ar,cE (by omega),dq]
 rw[d,Q8];congr 1
 exact Vt _ _ _ (by rw[Enc.len,Enc.len])
theorem Aa.b4k{α:Type}{_:Enc α}{t:TypeId}{x a:Operand}{e:TypeId}{l:List α}{b n:Nat}{z:Bool}{k:IntKind}{i:Int}(c:AU E.Γ L x=some (.vec b n 0 n))(g:hget H b=some (.vec e (cells l) n z))(f:AU E.Γ L a=some (.p (.int k i)))
 (d:elemSize E.P t=some (Enc.size α)) (j:0≤i) (h:i<n) (q:Q (.E8 b n (i.toNat*Enc.size α)) H nx):Aa E w ⟨dst,.indexAddr t x a,ty,pos,af,gd⟩ L H nx Q :=
 Aa.b1a c g f d j h (by grind)
theorem Aa.DV{α:Type}{_:Enc α}{t:TypeId}{x a:Operand}{e:TypeId}{l:List α}{b n:Nat}{z:Bool}{k:IntKind}{i:Nat}(c:AU E.Γ L x=some (.vec b n 0 n))(g:hget H b=some (.vec e (cells l) n z))(f:AU E.Γ L a=some (.p (.int k (i:Int))))
 (d:elemSize E.P t=some (Enc.size α)) (h:i<n) (q:Q (.E8 b n (i*Enc.size α)) H nx):Aa E w ⟨dst,.indexAddr t x a,ty,pos,af,gd⟩ L H nx Q :=
 Aa.b4k c g f d (by omega) (by omega) q
theorem Aa.OT{α:Type}{_:Enc α}{t:TypeId}{a:Operand}{b n i:Nat}{e:TypeId}{l:List α}{z:Bool}{r:FV}(f:AU E.Γ L a=some (.E8 b n (i*Enc.size α)))(d:hget H b=some (.vec e (cells l) n z))(c:i<l.length)
 (h:jJ E.P t (Enc.enc (gi l i)++cells (l.drop (i+1)))=some r) (q:Q (.p r) H nx):Aa E w ⟨dst,.load t a,ty,pos,af,gd⟩ L H nx Q :=
 Aa.c6k f d (by rw[Ut l i c];exact h) q
theorem Aa.J9{α:Type}{_:Enc α}{t:TypeId}{a x:Operand}{b n i:Nat}{e:TypeId}{l:List α}{z:Bool}{r:PV}{c:TypeInfo}(y:α)(o:AU E.Γ L a=some (.E8 b n (i*Enc.size α)))(h:AU E.Γ L x=some r)(m:hget H b=some (.vec e (cells l) n z))(j:Uh r)
 (k:Jt r=(Enc.enc y).map .p) (d:E.P.info? t=some c) (f:Enc.size α=c.size) (s:0<c.size) (g:i<l.length) (q:Q (.D5 []) (hput H b (.vec e (cells (l.set i y)) n z)) nx):Aa E true ⟨dst,.store t a x,ty,pos,af,gd⟩ L H nx Q :=
 Aa.c2i o h m j k d (by rw[Enc.len,f]) s (by
  rw[C9,← f];have:=bw (Enc.size α) g;grind) (by rw[iJ l i y g];exact q)
theorem ou{α:Type}[Enc α]{z:List Value}{a:α}(h:z.map Ij=Enc.enc a)(n:Nat):(AB z n).map Ij=cells (List.replicate n a):=by
 induction n with
 |zero=>rfl
 |succ n b=>simp only[AB,List.map_append,h,b,List.replicate_succ,cells,encs]
theorem Aa.JQ{α:Type}{_:Enc α}{t e:TypeId}{l c:Operand}(n:Nat)(a:α){k1 g:IntKind}{v v':Int}{z:List Value}{i:TypeInfo}(m:E.P.underlying t=some (.slice e))(s:E.P.info? e=some i)(h:Cb E.P e=some z)(r:AU E.Γ L l=some (.p (.int k1 v)))(u:AU E.Γ L c=some (.p (.int g v')))
 (j:v=n) (d:v'=n) (y:n<1000000) (f:i.bytes<1000000) (o:z.length=i.size∧0<i.size) (x:z.map Ij=Enc.enc a) (q:Q (.vec nx n 0 n) ((nx,.vec e (cells (List.replicate n a)) n false)::H) (nx+1)):Aa E w ⟨dst,.makeSlice t l c,ty,pos,af,gd⟩ L H nx Q :=
 Aa.makeSlice (n:=n) m s h (by rw[r,j]) (by rw[u,d]) ⟨by have:=mJ (n:=n) (k:=0) (b:=i.bytes) (by omega) f;omega,by omega⟩ o (by rw[ou x];exact q)
theorem Aa.c8v{t c:TypeId}{x y:Operand}{a b:Int}(e:AU E.Γ L x=some (.p (.int .u64 a)))(d:AU E.Γ L y=some (.p (.int .u64 b)))(h:0≤a+b∧a+b<18446744073709551616)(q:Q (.p (.int .u64 (a+b))) H nx) :
 Aa E w ⟨dst,.binOp .add t x y c,ty,pos,af,gd⟩ L H nx Q:=Aa.int e d (r:=.int .u64 (a+b)) (by simp only[SE,wrap_u64 h.1 h.2]) q
theorem Aa.c9h{t c:TypeId}{x y:Operand}{a b:Int}(e:AU E.Γ L x=some (.p (.int .u64 a)))(d:AU E.Γ L y=some (.p (.int .u64 b)))(h:0≤a-b∧a-b<18446744073709551616)(q:Q (.p (.int .u64 (a-b))) H nx) :
 Aa E w ⟨dst,.binOp .sub t x y c,ty,pos,af,gd⟩ L H nx Q:=Aa.int e d (r:=.int .u64 (a-b)) (by simp only[SE,wrap_u64 h.1 h.2]) q
theorem Aa.c9x{t c:TypeId}{x y:Operand}{a b:Int}(e:AU E.Γ L x=some (.p (.int .u64 a)))(d:AU E.Γ L y=some (.p (.int .u64 b)))(h:0≤a*b∧a*b<18446744073709551616)(q:Q (.p (.int .u64 (a*b))) H nx) :
 Aa E w ⟨dst,.binOp .mul t x y c,ty,pos,af,gd⟩ L H nx Q:=Aa.int e d (r:=.int .u64 (a*b)) (by simp only[SE,wrap_u64 h.1 h.2]) q
theorem Aa.d0p{t d:TypeId}{x y:Operand}{a c:Int}(f:AU E.Γ L x=some (.p (.int .u64 a)))(e:AU E.Γ L y=some (.p (.int .u64 c)))(b:0≤a∧a<18446744073709551616)(h:0<c)(q:Q (.p (.int .u64 (a / c))) H nx) :
 Aa E w ⟨dst,.binOp .quo t x y d,ty,pos,af,gd⟩ L H nx Q:=by
 refine Aa.int f e (r:=.int .u64 (a / c)) ?_ q;simp only[SE];rw[if_neg (by omega),Int.tdiv_eq_ediv_of_nonneg b.1];have g:0≤a / c:=Int.ediv_nonneg b.1 (by omega);have i:a / c≤a:=Int.ediv_le_self c b.1;rw[wrap_u64 g (by omega)]
theorem wrap_u8{n:Int}(a:0≤n)(h:n<256):IntKind.u8.wrap n=n:=by
 simp only[IntKind.wrap,IntKind.bits,IntKind.signed,Bool.false_and,Bool.false_eq_true,if_false];omega
theorem Aa.c8d{t c:TypeId}{x y:Operand}{a b:Int}(e:AU E.Γ L x=some (.p (.int .u8 a)))(d:AU E.Γ L y=some (.p (.int .u8 b)))(h:0≤a-b∧a-b<256)(q:Q (.p (.int .u8 (a-b))) H nx) :
 Aa E w ⟨dst,.binOp .sub t x y c,ty,pos,af,gd⟩ L H nx Q:=Aa.int e d (r:=.int .u8 (a-b)) (by simp only[SE,wrap_u8 h.1 h.2]) q
theorem Aa.uY{s d:TypeId}{x:Operand}{k':IntKind}{n:Int}{b:TypeDesc}(e:AU E.Γ L x=some (.p (.int k' n)))(f:E.P.underlying s=some b)(a:sF b=true)(g:E.P.underlying d=some (.int .u64))(c:0≤n∧n<18446744073709551616)(q:Q (.p (.int .u64 n)) H nx) :
 Aa E w ⟨dst,.convert s d x,ty,pos,af,gd⟩ L H nx Q:=Aa.Zv e f a g (by rw[wrap_u64 c.1 c.2];exact q)
theorem Aa.NU{s d:TypeId}{x:Operand}{k':IntKind}{n:Int}{b:TypeDesc}(e:AU E.Γ L x=some (.p (.int k' n)))(f:E.P.underlying s=some b)(a:sF b=true)(g:E.P.underlying d=some (.int .u8))(c:0≤n∧n<256)(q:Q (.p (.int .u8 n)) H nx) :
 Aa E w ⟨dst,.convert s d x,ty,pos,af,gd⟩ L H nx Q:=Aa.Zv e f a g (by rw[wrap_u8 c.1 c.2];exact q)
theorem Aa.neg{t:TypeId}{x:Operand}{a:Int}(b:AU E.Γ L x=some (.p (.int .i64 a)))(h:-9223372036854775808≤-a∧-a<9223372036854775808)(q:Q (.p (.int .i64 (-a))) H nx):Aa E w ⟨dst,.unOp .neg t x,ty,pos,af,gd⟩ L H nx Q :=
 Aa.quiet q fun m F σ f e d=>by
  refine⟨.int .i64 (-a),fun _=>?_,.p (.int _ _)⟩;have c:Dz E.P (Op.unary .neg (.int .i64 a))=some (.int .i64 (-a)):=by
   simp only[Op.unary,Op.intArith,Int.zero_sub,wrap_i64 h];rfl
  simp only[BO,FI,CQ e d b];rw[show plain (Value.int IntKind.i64 a)=true from rfl];simp only[if_true,KX c rfl,Option.map_some]
theorem Aa.c9r{op:BinOp}{t g:TypeId}{x y:Operand}{a b r:Bool}(i:AU E.Γ L x=some (.p (.bool a)))(h:AU E.Γ L y=some (.p (.bool b)))(j:E.P.underlying t=some .bool)(k:op=.eql∧r=(a==b)∨op=.neq∧r=(a != b))(q:Q (.p (.bool r)) H nx) :
 Aa E w ⟨dst,.binOp op t x y g,ty,pos,af,gd⟩ L H nx Q :=
 Aa.quiet q fun m F σ o f e=>by
  refine⟨.bool r,fun _=>?_,.p (.bool _)⟩;have l:Dz E.P (do eqGuard op t x y (.bool a) (.bool b);binOp op t (.bool a) (.bool b))=some (.bool r):=by
   have n:∀d,Dz E.P (Op.equalIn (d+1) t (.bool a) (.bool b))=some (a==b):=fun d=>by
    simp only[Op.equalIn,Ar,AX,j,Option.bind_some];rfl
   have c:Dz E.P (Op.equal t (.bool a) (.bool b))=some (a==b):=n (Op.maxDepth-1);rcases k with⟨rfl,rfl⟩|⟨rfl,rfl⟩
   ·show Dz E.P (do eqGuard .eql t x y (.bool a) (.bool b);(do pure (.bool (← Op.equal t (.bool a) (.bool b))):Sem Value))=_
    simp only[eqGuard,Ar,c,Option.bind_some,BX];rfl
   ·show Dz E.P (do eqGuard .neq t x y (.bool a) (.bool b);(do pure (.bool (!(← Op.equal t (.bool a) (.bool b)))):Sem Value))=_
    simp only[eqGuard,Ar,c,Option.bind_some,BX];rfl
  simp only[BO,FI,Iq f e i,Iq f e h,P8];rw[show(plain (Value.bool a)&&plain (Value.bool b))=true from rfl];simp only[if_true,KX l rfl,Option.map_some]
theorem Aa.neB{t c:TypeId}{x y:Operand}{a b:Bool}(e:AU E.Γ L x=some (.p (.bool a)))(d:AU E.Γ L y=some (.p (.bool b)))(f:E.P.underlying t=some .bool)(q:Q (.p (.bool (a != b))) H nx) :
 Aa E w ⟨dst,.binOp .neq t x y c,ty,pos,af,gd⟩ L H nx Q:=Aa.c9r e d f (.inr ⟨rfl,rfl⟩) q
theorem Aa.b6y{x y:Operand}{g:Array TypeId}{a b:Int}(i:AU E.Γ L x=some (.p (.int .i64 a)))(h:AU E.Γ L y=some (.p (.int .i64 b)))(q:Q (.p (.int .i64 (max a b))) H nx) :
 Aa E w ⟨dst,.call { callee:=.builtin .max,args:=#[x,y],argTypes:=g },ty,pos,af,gd⟩ L H nx Q :=
 Aa.quiet q fun m F σ c f e=>by
  refine⟨.int .i64 (max a b),fun _=>?_,.p (.int _ _)⟩;have d:(#[x,y]:Array Operand).map (ev c)=#[.int .i64 a,.int .i64 b]:=by simp[CQ f e i,CQ f e h]
  have j:((#[x,y]:Array Operand).map (ev c)).toList.all plain=true:=by rw[d];rfl
  have k:Dz E.P (Builtin.max_ g ty #[.int .i64 a,.int .i64 b])=some (.int .i64 (max a b)):=by
   simp only[Builtin.max_,List.foldlM_cons,List.foldlM_nil,Builtin.max2,Ar,BX,Option.bind_some];grind
  simp only[BO,FI,j,if_true];rw[d,KX k rfl];rfl
theorem Aa.b9j{x y:Operand}{g:Array TypeId}{a b:Int}(i:AU E.Γ L x=some (.p (.int .i64 a)))(h:AU E.Γ L y=some (.p (.int .i64 b)))(q:Q (.p (.int .i64 (min a b))) H nx) :
 Aa E w ⟨dst,.call { callee:=.builtin .min,args:=#[x,y],argTypes:=g },ty,pos,af,gd⟩ L H nx Q :=
 Aa.quiet q fun m F σ c f e=>by
  refine⟨.int .i64 (min a b),fun _=>?_,.p (.int _ _)⟩;have d:(#[x,y]:Array Operand).map (ev c)=#[.int .i64 a,.int .i64 b]:=by simp[CQ f e i,CQ f e h]
  have j:((#[x,y]:Array Operand).map (ev c)).toList.all plain=true:=by rw[d];rfl
  have k:Dz E.P (Builtin.min_ g ty #[.int .i64 a,.int .i64 b])=some (.int .i64 (min a b)):=by
   simp only[Builtin.min_,List.foldlM_cons,List.foldlM_nil,Builtin.min2,Ar,BX,Option.bind_some];grind
  simp only[BO,FI,j,if_true];rw[d,KX k rfl];rfl
end
section
open Go.Am
section
variable {P:Program}{G:List Nat}
theorem DF.below{ι:BG}{m:Mem}{w w':World}(a:DF P G ι m w)(d:Go.RowKit.Below w.heap.size w w'):DF P G ι m w':=by
 refine⟨fun b c h=>?_,fun b c h=>?_,a.inj,a.glob⟩
 ·have:=a.dom b c h
  have:=d.size;omega
 ·rw[d.block _ (a.dom b c h).2];exact a.blk b c h
theorem Post.below{ι:BG}{m:Mem}{w w':World}{v:Value}(e:DF P G ι m w)(a:Go.RowKit.Below w.heap.size w w')(f:plain v=true):Post P G ι m w v m v w':=by
 refine⟨ι,⟨ab _,ab _,fun _ _ _=>rfl,fun _ _ _=>rfl,fun _ _=>rfl,Le.refl _ _,fun b d h=>.inl ⟨d,h,rfl⟩,fun b d h=>.inl ⟨d,h⟩,a.size,fun c g _=>a.block c g,a.tape,a.os,a.output⟩,DF.below e a,Aw.plain f⟩
abbrev gy:=List Value→Mem→Option Value
open Classical in
noncomputable def pJ(G:List Nat)(M0:Mem)(ls:List (FuncId×gy)):BP:=fun f =>
 match ls.lookup f with
 |some F=>some fun Bh m=>if ∀k∈G,m.get k=M0.get k then(F Bh m).map fun v=>(v,m) else none
 |none=>none
structure VA(P:Program)(G:List Nat)(M0:Mem)(f:FuncId)(F:gy):Prop where
 c4n:∀n lb m,F (Es n lb) m=none
 enters:Enters P f
 calls:∀ι m w (Bh:List Value) (as':Array Value) v,DF P G ι m w→(∀k∈G,m.get k=M0.get k)→BA ι m.gen Bh as'.toList→F Bh m=some v→plain v=true∧Calls P f as' w fun e w'=>e=.returned v∧Go.RowKit.Below w.heap.size w w'
theorem aC{α:Type}{f:FuncId}{a:α}:∀{c:List (FuncId×α)},c.lookup f=some a→(f,a)∈c
 |[],h=>by grind
 |(g,b)::c,h=>by
  rw[List.lookup_cons] at h;cases hg:f==g with
  |true =>
   grind
  |false=>rw[hg] at h;exact ao _ (aC h)
theorem yK{o:Mem}{j:List (FuncId×gy)}(h:∀x∈j,VA P G o x.1 x.2):Gh P G (pJ G o j):=by
 intro f C d;unfold pJ at d;split at d
 ·rename_i F s
  cases d;have c:=h _ (aC s);refine⟨fun q m v r a ι w i p b=>?_,fun q m v r a=>?_,c.enters,XK.none fun n k m=>by
   have B:F (Es n k) m=none:=c.c4n n k m;grind⟩
  ·simp only at a
   split at a
   ·rename_i y
    rw[ae] at a;obtain⟨u,l,g⟩:=a;cases g;obtain⟨A,z⟩:=c.calls ι m w q i v p y b l;exact z.mono fun e w' ⟨he,hb⟩=>⟨v,he,Post.below p hb A⟩
   grind
  ·simp only at a
   split at a
   ·rw[ae] at a
    obtain⟨u,l,g⟩:=a;cases g;exact AP.refl _
   grind
 grind
end
section
variable {P:Program}
noncomputable def c7k(P:Program)(F:Nat)(laid:List (String×DataW Unit))(ls:List (FuncId×gy)):Env :=
 ⟨P,pJ (Az P F laid) (AZ P F laid) ls,Az P F laid,gam P F laid⟩
theorem a5l{G:List Nat}{b:Mem}{a:List (FuncId×gy)}{f:FuncId}(h:a.lookup f=none):pJ G b a f=none:=by
 unfold pJ;rw[h]
variable {H:Type}{enc:TypeId×Value→H}{W:World}{held:Bool}
end
theorem RF.cellsOf{m:Mem}{F:Nat→Prop}{e:TypeId}{cs:List FV}{n sz:Nat}{v:Value}(h:RF m F (.lst e cs n) v)(i:cs.length=n*sz):∃vs,BM m sz n v=some vs∧Dt m F cs vs∧lenOf v=some n:=by
 cases h with
 |nil e=>exact⟨[],rfl,.nil,rfl⟩
 |room e b o g=>exact⟨[],rfl,.nil,rfl⟩
 |lst k f c d j =>
  rename_i b o g vs a ro;refine⟨a,?_,d,rfl⟩;have:m.EC ⟨b,o,some g⟩ (n*sz)=some a:=by
   unfold Mem.EC;simp only[f,NK,Option.getD_some,if_true,← i,c]
  cases n with
  |zero=>assumption
  |succ n=>simp only[BM,Nat.le_refl,if_true,this]
theorem Oe{P:Program}{G:List Nat}{ι:BG}{m:Mem}{w:World}{n:Nat}{s s':Value}{l:List Value}(I:DF P G ι m w)(C:Aw ι m.gen s s')(i:lenOf s=some n)(K:∀b,s≠.string b)(h:BM m 1 n s=some l) :
 ∃a cap,s'=.slice a n cap∧l.length=n∧(a=none∧n=0∨∃A,a=some A∧A.spot=none∨n=0)∧∀A,a=some A→∀j v,l[j]?=some v→plain v=true→w.cell? (A.add j)=some v:=by
 have r:=DU h;cases C with
 |DJ=>cases i;grind
 |wW b o s p =>
  cases i;grind
 |sl b d len gen p cap q =>
  cases i;refine⟨some p,cap,rfl,by omega,?_,fun A O j v u J=>?_⟩
  ·rcases bp n with h0|h0
   ·simp_all
   ·refine .inr ⟨p,.inl ⟨rfl,?_⟩⟩
    have c:m.EC ⟨b,d,some gen⟩ n=some l:=by unfold BM at h;grind
    obtain⟨T,e,g,ro,X,k,x,_,_⟩:=Ji c;obtain⟨V,_,_,_,y⟩:=q;have z:gen=g:=k;grind
  ·cases O
   have M:=(bv.1 u).1;have f:0<n:=by omega
   have N:=JV q (fun _=>f) 0;rw[Addr.add_zero'] at N;have c:m.EC ⟨b,d,some gen⟩ n=some l:=by unfold BM at h;grind
   obtain⟨U,S,h2,Z⟩:=Kr I (by omega) c;obtain⟨B,Y,R⟩:=S.get u;have e2:B=v:=R.BQ J;grind
 |str b=>grind
 |_=>cases i
end
section
open Go.Am
variable {E:Env}{L:Frame}{H:Heap}{nx:Nat}{Q:PV→Heap→Nat→Prop}{w:Bool}
variable {dst:Option Tmp}{ty:TypeId}{pos:String}{af:Array Edge}{gd:Option (Nat×Bool)}
theorem Aa.b1t{t c:TypeId}{x y:Operand}{a b:Nat}(e:AU E.Γ L x=some (.p (.int .u64 (a:Int))))(d:AU E.Γ L y=some (.p (.int .u64 (b:Int))))(h:a+b<18446744073709551616)(q:Q (.p (.int .u64 ((a+b:Nat):Int))) H nx) :
 Aa E w ⟨dst,.binOp .add t x y c,ty,pos,af,gd⟩ L H nx Q:=Aa.c8v e d (by omega) (by grind)
theorem Aa.b8w{t c:TypeId}{x y:Operand}{a b:Nat}(e:AU E.Γ L x=some (.p (.int .u64 (a:Int))))(d:AU E.Γ L y=some (.p (.int .u64 (b:Int))))(h:a*b<18446744073709551616)(q:Q (.p (.int .u64 ((a*b:Nat):Int))) H nx) :
 Aa E w ⟨dst,.binOp .mul t x y c,ty,pos,af,gd⟩ L H nx Q:=Aa.c9x e d (by omega) (by grind)
theorem Aa.c4m{t c:TypeId}{x y:Operand}{a b:Nat}(e:AU E.Γ L x=some (.p (.int .u64 (a:Int))))(d:AU E.Γ L y=some (.p (.int .u64 (b:Int))))(h:b≤a∧a<18446744073709551616)(q:Q (.p (.int .u64 ((a-b:Nat):Int))) H nx) :
 Aa E w ⟨dst,.binOp .sub t x y c,ty,pos,af,gd⟩ L H nx Q:=Aa.c9h e d (by omega) (by grind)
theorem Aa.c3v{t b:TypeId}{x y:Operand}{a c:Nat}(e:AU E.Γ L x=some (.p (.int .u64 (a:Int))))(d:AU E.Γ L y=some (.p (.int .u64 (c:Int))))(h:a<18446744073709551616∧0<c)(q:Q (.p (.int .u64 ((a / c:Nat):Int))) H nx) :
 Aa E w ⟨dst,.binOp .quo t x y b,ty,pos,af,gd⟩ L H nx Q:=Aa.d0p e d (by omega) (by omega) (by grind)
theorem Aa.b8r{t b:TypeId}{x y:Operand}{a c:Nat}(e:AU E.Γ L x=some (.p (.int .u64 (a:Int))))(d:AU E.Γ L y=some (.p (.int .u64 (c:Int))))(h:0<c)(q:Q (.p (.int .u64 ((a%c:Nat):Int))) H nx) :
 Aa E w ⟨dst,.binOp .rem t x y b,ty,pos,af,gd⟩ L H nx Q:=Aa.c9s e d h q
theorem Aa.c3j{t b:TypeId}{x y:Operand}{a:Nat}{c:Int}(d:AU E.Γ L x=some (.p (.int .u64 (a:Int))))(e:AU E.Γ L y=some (.p (.int .u64 c)))(h:a<18446744073709551616∧0<c)(q:Q (.p (.int .u64 ((a / c.toNat:Nat):Int))) H nx) :
 Aa E w ⟨dst,.binOp .quo t x y b,ty,pos,af,gd⟩ L H nx Q:=Aa.c3v (c:=c.toNat) d (by grind) (by omega) q
theorem Aa.c3p{t b:TypeId}{x y:Operand}{a:Nat}{c:Int}(d:AU E.Γ L x=some (.p (.int .u64 (a:Int))))(e:AU E.Γ L y=some (.p (.int .u64 c)))(h:0<c)(q:Q (.p (.int .u64 ((a%c.toNat:Nat):Int))) H nx) :
 Aa E w ⟨dst,.binOp .rem t x y b,ty,pos,af,gd⟩ L H nx Q:=Aa.b8r (c:=c.toNat) d (by grind) (by omega) q
theorem Aa.c4h{t a:TypeId}{x y:Operand}{m n:Nat}(c:AU E.Γ L x=some (.p (.int .i64 (m:Int))))(b:AU E.Γ L y=some (.p (.int .i64 (n:Int))))(h:m<9223372036854775808∧n<9223372036854775808)(q:Q (.p (.int .i64 ((m &&& n:Nat):Int))) H nx) :
 Aa E w ⟨dst,.binOp .and t x y a,ty,pos,af,gd⟩ L H nx Q:=Aa.int c b (wK (.inl ⟨rfl,h.1⟩) (by omega)) q
theorem Aa.c5s{t b:TypeId}{x y:Operand}{a c:Nat}(e:AU E.Γ L x=some (.p (.int .u8 (a:Int))))(d:AU E.Γ L y=some (.p (.int .u8 (c:Int))))(h:c≤a∧a<256)(q:Q (.p (.int .u8 ((a-c:Nat):Int))) H nx) :
 Aa E w ⟨dst,.binOp .sub t x y b,ty,pos,af,gd⟩ L H nx Q:=Aa.c8d e d (by omega) (by grind)
structure Hd(Q:Prop):Prop where
 o:Q
theorem go0{P Q:Prop}(q:Q)(h:Hd Q→P:=by intro q;repeat1' (first|apply Ad.assoc|apply Ad.FT|apply Ad.EG|apply BL.normal|apply Bl.exit|apply Ai.exit|apply Ad.ret|apply Aj.nil|apply Aj.one|(apply Aa.assign;rfl)|(apply Aa.move;rfl)|(apply Aa.int;rfl;rfl;rfl)|(apply Aa.load;rfl;rfl)|(apply Aa.vJ;rfl;rfl)|(apply Aa.HY;rfl;rfl;rfl)|(apply Aa.alloc;rfl)|(apply Aa.Gl;rfl;rfl;rfl;trivial;rfl;rfl;exact Ba rfl;exact le_dec rfl));exact q.o):P:=h ⟨q⟩
theorem go1{P Q:Prop}(q:Q)(h:Hd Q→P:=by intro q;repeat1' (first|apply Ad.assoc|apply Ad.Bo|apply Ad.region|apply Ad.E5|apply Ad.FH|apply Ad.Oy|apply Ad.FT|apply Ad.EG|apply BL.normal|apply BL.ret|apply Bl.normal|apply Bl.ret|apply Bl.exit|apply Ai.exit|apply Ad.ret|apply Ad.skip|apply Aj.nil|apply Ag.nil|apply Aj.one|(apply Ag.bar;decide +kernel)|(apply Aa.assign;rfl)|(apply Aa.move;rfl)|(apply Aa.MH;rfl;rfl;omega)|(apply Aa.tK;rfl;rfl;omega)|(apply Aa.b0x;rfl;rfl;omega)|(apply Aa.c5s (c := 48);rfl;rfl;omega)|(apply Aa.b1t;rfl;rfl;omega)|(apply Aa.b8r;rfl;rfl;omega)|(apply Aa.b8w (a := 10);rfl;rfl;omega)|(apply Aa.int;rfl;rfl;rfl)|(apply Aa.OT;rfl;rfl;omega;rfl)|(apply Aa.vJ;rfl;rfl));exact q.o):P:=h ⟨q⟩
theorem go2{P Q:Prop}(q:Q)(h:Hd Q→P:=by intro q;repeat1' (first|apply Ad.assoc|apply Ad.Bo|apply Ad.Ce|apply Ad.region|apply Ad.FH|apply Ad.Oy|apply Ad.FT|apply Ad.EG|apply BL.normal|apply BL.ret|apply Bl.normal|apply Bl.ret|apply Bl.exit|apply Ai.ret|apply Ai.exit|apply Ad.ret|apply Ad.skip|apply Aj.nil|apply Ag.nil|apply Aj.one|(apply Ag.bar;decide +kernel)|apply Ag.quiet|(apply Aa.assign;rfl)|(apply Aa.move;rfl)|(apply Aa.MH;rfl;rfl;omega)|(apply Aa.b0x;rfl;rfl;omega)|(apply Aa.c4h;rfl;rfl;omega)|(apply Aa.OT;rfl;rfl;omega;rfl)|(apply Aa.load;rfl;rfl)|(apply Aa.vJ;rfl;rfl)|(apply Aa.HY;rfl;rfl;rfl)|(apply Aa.ZV;rfl;rfl)|(apply Aa.box;rfl;trivial)|(apply Aa.alloc;rfl)|(apply Aa.Gl;rfl;rfl;rfl;trivial;rfl;rfl;exact Ba rfl;exact le_dec rfl)|(apply Aa.not;rfl)|(apply Aa.extract;rfl;rfl));exact q.o):P:=h ⟨q⟩
theorem VU{P Q:Prop}(q:Q)(h:Hd Q→P:=by intro q;repeat1' (first|apply Ad.assoc|apply Ad.FH|apply Ad.Oy|apply Ad.FT|apply Ad.EG|apply BL.normal|apply BL.ret|apply Bl.normal|apply Bl.ret|apply Bl.exit|apply Ai.ret|apply Ai.exit|apply Ad.ret|apply Ad.skip|apply Aj.nil|apply Ag.nil|apply Aj.one|(apply Ag.bar;decide +kernel)|apply Ag.quiet|(apply Aj.take;rfl;rfl)|(apply Ag.Wi;rfl;rfl)|(apply Ag.drop;rfl;rfl;rfl)|(apply Aa.assign;rfl)|(apply Aa.move;rfl)|(apply Aa.MH;rfl;rfl;omega)|(apply Aa.tK;rfl;rfl;omega)|(apply Aa.yj;rfl;rfl;omega;omega)|(apply Aa.load;rfl;rfl)|(apply Aa.Og;rfl;rfl)|(apply Aa.Ux;rfl;rfl)|(apply Aa.vJ;rfl;rfl)|(apply Aa.HY;rfl;rfl;rfl)|(apply Aa.ZV;rfl;rfl)|(apply Aa.box;rfl;trivial)|(apply Aa.alloc;rfl)|(apply Aa.Gl;rfl;rfl;rfl;trivial;rfl;rfl;exact Ba rfl;exact le_dec rfl)|(apply Aa.not;rfl)|(apply Aa.extract;rfl;rfl));exact q.o):P:=h ⟨q⟩
theorem JD{P Q:Prop}(q:Q)(h:Hd Q→P:=by intro q;repeat1' (first|apply Ad.assoc|apply Ad.Bo|apply Ad.Ce|apply Ad.region|apply Ad.FH|apply Ad.Oy|apply Ad.FT|apply Ad.EG|apply BL.normal|apply BL.ret|apply Bl.normal|apply Bl.ret|apply Bl.exit|apply Ai.ret|apply Ai.exit|apply Ad.ret|apply Ad.skip|apply Aj.nil|apply Ag.nil|apply Aj.one|(apply Ag.bar;decide +kernel)|apply Ag.quiet|(apply Aj.take;rfl;rfl)|(apply Aj.drop;rfl;rfl;rfl)|(apply Aj.dB;rfl;rfl)|(apply Ag.drop;rfl;rfl;rfl)|(apply Aa.assign;rfl)|(apply Aa.move;rfl)|(apply Aa.MH;rfl;rfl;omega)|(apply Aa.tK;rfl;rfl;omega)|(apply Aa.orU;rfl;rfl;omega;omega)|(apply Aa.yj;rfl;rfl;omega;omega)|(apply Aa.int;rfl;rfl;rfl)|(apply Aa.load;rfl;rfl)|(apply Aa.Og;rfl;rfl)|(apply Aa.Ux;rfl;rfl)|(apply Aa.vJ;rfl;rfl)|(apply Aa.HY;rfl;rfl;rfl)|(apply Aa.ZV;rfl;rfl)|(apply Aa.box;rfl;trivial)|(apply Aa.alloc;rfl)|(apply Aa.Gl;rfl;rfl;rfl;trivial;rfl;rfl;exact Ba rfl;exact le_dec rfl)|(apply Aa.not;rfl)|(apply Aa.extract;rfl;rfl));exact q.o):P:=h ⟨q⟩
theorem Jq{P Q:Prop}(q:Q)(h:Hd Q→P:=by intro q;repeat1' (first|apply Ad.assoc|apply Ad.Bo|apply Ad.Ce|apply Ad.region|apply Ad.E5|apply Ad.FH|apply Ad.Oy|apply Ad.FT|apply Ad.EG|apply BL.normal|apply BL.ret|apply Bl.normal|apply Bl.ret|apply Bl.exit|apply Ai.ret|apply Ai.exit|apply Ad.ret|apply Ad.skip|apply Aj.nil|apply Ag.nil|apply Aj.one|(apply Ag.bar;decide +kernel)|apply Ag.quiet|(apply Aj.take;rfl;rfl)|(apply Ag.Wi;rfl;rfl)|(apply Aj.drop;rfl;rfl;rfl)|(apply Aj.dB;rfl;rfl)|(apply Ag.drop;rfl;rfl;rfl)|(apply Aa.assign;rfl)|(apply Aa.move;rfl)|(apply Aa.MH;rfl;rfl;omega)|(apply Aa.tK;rfl;rfl;omega)|(apply Aa.b0x;rfl;rfl;omega)|(apply Aa.b1t;rfl;rfl;omega)|(apply Aa.b8w;rfl;rfl;omega)|(apply Aa.c3j;rfl;rfl;omega)|(apply Aa.c3p;rfl;rfl;omega)|(apply Aa.c5e;rfl;rfl;omega;omega)|(apply Aa.orU;rfl;rfl;omega;omega)|(apply Aa.b6f;rfl;rfl;omega;omega)|(apply Aa.yj;rfl;rfl;omega;omega)|(apply Aa.OT;rfl;rfl;omega;rfl)|(apply Aa.load;rfl;rfl)|(apply Aa.Og;rfl;rfl)|(apply Aa.Ux;rfl;rfl)|(apply Aa.vJ;rfl;rfl)|(apply Aa.HY;rfl;rfl;rfl)|(apply Aa.ZV;rfl;rfl)|(apply Aa.box;rfl;trivial)|(apply Aa.alloc;rfl)|(apply Aa.Gl;rfl;rfl;rfl;trivial;rfl;rfl;exact Ba rfl;exact le_dec rfl)|(apply Aa.not;rfl)|(apply Aa.extract;rfl;rfl));exact q.o):P:=h ⟨q⟩
theorem Aa.b4e{t:TypeId}{x c d:Operand}{l:List UInt8}{k k':IntKind}{a b:Int}(e:AU E.Γ L x=some (st l))(g:AU E.Γ L c=some (.p (.int k a)))(i:AU E.Γ L d=some (.p (.int k' b)))(f:E.P.underlying t=some .string)(h:0≤a∧a≤b∧b≤l.length)
 (q:Q (st ((l.take b.toNat).drop a.toNat)) H nx):Aa E w ⟨dst,.slice t x (some c) (some d) none,ty,pos,af,gd⟩ L H nx Q :=
 Aa.mF (a:=a.toNat) (b:=b.toNat) e f ⟨k,by grind⟩ ⟨k',by grind⟩ (by omega) (by omega) q
theorem Aa.a9a{α:Type}{_:Enc α}{l:List α}{t:TypeId}{x o:Operand}{e:TypeId}{n:Nat}{a:TypeInfo}{k:IntKind}{b:Int}(g:AU E.Γ L x=some (.p (.lst e (cells l) n)))(f:AU E.Γ L o=some (.p (.int k b)))(h:E.P.underlying t=some (.slice e))(d:E.P.info? e=some a)
 (c:a.size=Enc.size α) (i:l.length=n) (j:0≤b∧b≤l.length) (q:Q (.p (.lst e (cells (l.take b.toNat)) b.toNat)) H nx):Aa E w ⟨dst,.slice t x none (some o) none,ty,pos,af,gd⟩ L H nx Q :=
 Aa.sliceTo (b:=b.toNat) g (by rw[f];congr 3;omega) h d c i (by omega) q
end
end Go.Vm
namespace Go.Proofs
open Go.Shelf
def Tryz.lays170_ren:Go.Shelf.Ren:=⟨fun|170=>189|n=>n,fun|70=>282|3=>3|0=>0|72=>284|37=>55|5=>5|n=>n,fun|n=>n⟩
def Tryz.lays169_ren:Go.Shelf.Ren:=⟨fun|169=>166|n=>n,fun|70=>282|9=>9|0=>0|72=>284|37=>55|127=>317|3=>3|5=>5|n=>n,fun|n=>n⟩
theorem Tryz.lays169:Go.Proofs.Lays.n169 Tryz.prog Tryz.lays169_ren:={
 mixed:=by rfl
 f169:=Tryz.func166.trans (congrArg some (by rfl))
 t0:=Tryz.underlying0
 a0:=Tryz.isAgg0
 z0:=Tryz.sizeOf0
 v0:=Tryz.zeroValue0
 t3:=Tryz.underlying3
 a3:=Tryz.isAgg3
 z3:=Tryz.sizeOf3
 v3:=Tryz.zeroValue3
 t9:=Tryz.underlying9
 a9:=Tryz.isAgg9
 z9:=Tryz.sizeOf9
 v9:=Tryz.zeroValue9
 t37:=Tryz.underlying55
 a37:=Tryz.isAgg55
 z37:=Tryz.sizeOf55
 v37:=Tryz.zeroValue55
 t70:=Tryz.underlying282
 a70:=Tryz.isAgg282
 z70:=Tryz.sizeOf282
 v70:=Tryz.zeroValue282
 t72:=Tryz.underlying284
 a72:=Tryz.isAgg284
 z72:=Tryz.sizeOf284
 v72:=Tryz.zeroValue284
 t127:=Tryz.underlying317
 a127:=Tryz.isAgg317
 z127:=Tryz.sizeOf317
 v127:=Tryz.zeroValue317 }
theorem Tryz.Builder_Extra_169:Builder.Extra Tryz.prog Tryz.lays169_ren:={
 sizeBuilder:=by kernel_rfl
 liesBuilder:=by kernel_rfl
 t5:=Tryz.underlying5
 a5:=Tryz.isAgg5
 z5:=Tryz.sizeOf5
 v5:=Tryz.zeroValue5
 infoByte:=by kernel_rfl
 cellsByte:=by kernel_rfl
 sizeByte:=by kernel_rfl
 neB5:=by decide }
def Tryz.lays241_ren:Go.Shelf.Ren:=⟨fun|241=>203|277=>207|n=>n,fun|70=>282|3=>3|0=>0|72=>284|37=>55|5=>5|n=>n,fun|n=>n⟩
def Tryz.lays165_ren:Go.Shelf.Ren:=⟨fun|165=>188|240=>186|241=>203|276=>200|277=>207|n=>n,fun|70=>282|3=>3|0=>0|4=>4|9=>9|20=>20|72=>284|37=>55|164=>328|5=>5|n=>n,fun|n=>n⟩
def Tryz.lays213_ren:Go.Shelf.Ren:=⟨fun|213=>105|265=>145|n=>n,fun|9=>9|3=>3|n=>n,fun|n=>n⟩
def Tryz.lays106_ren:Go.Shelf.Ren:=⟨fun|106=>55|213=>105|265=>145|n=>n,fun|9=>9|3=>3|n=>n,fun|n=>n⟩
theorem Tryz.lays106:Go.Proofs.Lays.n106 Tryz.prog Tryz.lays106_ren:={
 mixed:=by rfl
 f106:=Tryz.func55.trans (congrArg some (by rfl))
 f213:=Tryz.func105.trans (congrArg some (by rfl))
 f265:=Tryz.func145.trans (congrArg some (by rfl))
 t3:=Tryz.underlying3
 a3:=Tryz.isAgg3
 z3:=Tryz.sizeOf3
 v3:=Tryz.zeroValue3
 t9:=Tryz.underlying9
 a9:=Tryz.isAgg9
 z9:=Tryz.sizeOf9
 v9:=Tryz.zeroValue9 }
open Go.RowKit in
theorem Tryz.strings_Compare(a b:ByteArray)(w:World) :
 Calls Tryz.prog 55 #[.string a,.string b] w fun e w'=>e=.returned (.int .i64 (Lib.compareBytes a.data.toList b.data.toList))∧w'=w:=Any.strings_Compare Tryz.lays106 a b w
open Go.RowKit in
theorem Tryz.Builder_String_any_k(B b:Nat)(l:List UInt8)(w:World)(h:Lib.IsBuilderF 284 5 B b (Lib.byteCells l) w)(a:B≤w.heap.size) :
 Calls Tryz.prog 166 #[.pointer (some ⟨b,0,none⟩)] w fun e w'=>e=.returned (.string ⟨l.toArray⟩)∧(Lib.IsBuilderF 284 5 B b (Lib.byteCells l) w'∧Below B w w'∧Lib.OthersKept 5 (some b) w w'):=Any.Builder_String_any_k Tryz.lays169 Tryz.Builder_Extra_169 B b l w h a
def Tryz.lays129_ren:Go.Shelf.Ren:=⟨fun|129=>142|n=>n,fun|53=>82|3=>3|4=>4|46=>214|5=>5|9=>9|n=>n,fun|n=>n⟩
def Tryz.lays317_ren:Go.Shelf.Ren:=⟨fun|317=>191|n=>n,fun|3=>3|46=>214|n=>n,fun|n=>n⟩
def Tryz.lays318_ren:Go.Shelf.Ren:=⟨fun|318=>192|n=>n,fun|3=>3|4=>4|n=>n,fun|n=>n⟩
def Tryz.lays283_ren:Go.Shelf.Ren:=⟨fun|283=>172|n=>n,fun|3=>3|9=>9|4=>4|n=>n,fun|n=>n⟩
theorem Tryz.lays283:Go.Proofs.Lays.n283 Tryz.prog Tryz.lays283_ren:={
 mixed:=by rfl
 f283:=Tryz.func172.trans (congrArg some (by rfl))
 t3:=Tryz.underlying3
 a3:=Tryz.isAgg3
 z3:=Tryz.sizeOf3
 v3:=Tryz.zeroValue3
 t4:=Tryz.underlying4
 a4:=Tryz.isAgg4
 z4:=Tryz.sizeOf4
 v4:=Tryz.zeroValue4
 t9:=Tryz.underlying9
 a9:=Tryz.isAgg9
 z9:=Tryz.sizeOf9
 v9:=Tryz.zeroValue9 }
open Go.Lib in
theorem Tryz.internal_strconv_small(i:Nat)(h:i<100)(w:World) :
 Calls Tryz.prog 172 #[.int .i64 i] w fun e w'=>e=.returned (.string ⟨(Lib.decDigits i).toArray⟩)∧w'=w:=Any.internal_strconv_small Tryz.lays283 i h w
def Tryz.laysM284_ren:Go.Shelf.Ren:=⟨fun|284=>173|129=>142|317=>191|318=>192|n=>n,fun|53=>82|3=>3|212=>322|0=>0|4=>4|46=>214|5=>5|9=>9|n=>n,fun|17=>2|n=>n⟩
theorem Tryz.laysM284:Go.Proofs.LaysM.n284 Tryz.prog Tryz.laysM284_ren:={
 mixed:=by rfl
 f129:=Tryz.func142.trans (congrArg some (by rfl))
 f284:=Tryz.func173.trans (congrArg some (by rfl))
 f317:=Tryz.func191.trans (congrArg some (by rfl))
 f318:=Tryz.func192.trans (congrArg some (by rfl))
 t0:=Tryz.underlying0
 a0:=Tryz.isAgg0
 z0:=Tryz.sizeOf0
 v0:=Tryz.zeroValue0
 t3:=Tryz.underlying3
 a3:=Tryz.isAgg3
 z3:=Tryz.sizeOf3
 v3:=Tryz.zeroValue3
 t4:=Tryz.underlying4
 a4:=Tryz.isAgg4
 z4:=Tryz.sizeOf4
 v4:=Tryz.zeroValue4
 t5:=Tryz.underlying5
 a5:=Tryz.isAgg5
 z5:=Tryz.sizeOf5
 v5:=Tryz.zeroValue5
 t9:=Tryz.underlying9
 a9:=Tryz.isAgg9
 z9:=Tryz.sizeOf9
 v9:=Tryz.zeroValue9
 t46:=Tryz.underlying214
 a46:=Tryz.isAgg214
 z46:=Tryz.sizeOf214
 v46:=Tryz.zeroValue214
 t53:=Tryz.underlying82
 a53:=Tryz.isAgg82
 z53:=Tryz.sizeOf82
 v53:=Tryz.zeroValue82
 t212:=Tryz.underlying322
 a212:=Tryz.isAgg322
 z212:=Tryz.sizeOf322
 v212:=Tryz.zeroValue322
 g17:=by kernel_rfl
 i0:=by kernel_rfl
 i3:=by kernel_rfl
 i4:=by kernel_rfl
 i5:=by kernel_rfl
 i9:=by kernel_rfl
 i46:=by kernel_rfl
 i53:=by kernel_rfl
 i212:=by kernel_rfl
 m17:=by rfl }
open Go.Lib in
theorem Tryz.internal_strconv_numDigits(u:Nat)(c:1≤u)(b:u<18446744073709551616)(w:World)(a:Lib.TabIs Tryz.prog w "internal/strconv.uint64pow10" .u64 Lib.pow10Tab) :
 Calls Tryz.prog 173 #[.int .u64 u] w fun e w'=>e=.returned (.int .i64 (Lib.nDigits u))∧w'=w:=Any.internal_strconv_numDigits Tryz.laysM284 u c b w a
def Tryz.lays285_ren:Go.Shelf.Ren:=⟨fun|285=>174|n=>n,fun|37=>55|53=>82|3=>3|4=>4|51=>261|9=>9|5=>5|0=>0|n=>n,fun|n=>n⟩
theorem Tryz.lays285:Go.Proofs.Lays.n285 Tryz.prog Tryz.lays285_ren:={
 mixed:=by rfl
 f285:=Tryz.func174.trans (congrArg some (by rfl))
 t0:=Tryz.underlying0
 a0:=Tryz.isAgg0
 z0:=Tryz.sizeOf0
 v0:=Tryz.zeroValue0
 t3:=Tryz.underlying3
 a3:=Tryz.isAgg3
 z3:=Tryz.sizeOf3
 v3:=Tryz.zeroValue3
 t4:=Tryz.underlying4
 a4:=Tryz.isAgg4
 z4:=Tryz.sizeOf4
 v4:=Tryz.zeroValue4
 t5:=Tryz.underlying5
 a5:=Tryz.isAgg5
 z5:=Tryz.sizeOf5
 v5:=Tryz.zeroValue5
 t9:=Tryz.underlying9
 a9:=Tryz.isAgg9
 z9:=Tryz.sizeOf9
 v9:=Tryz.zeroValue9
 t37:=Tryz.underlying55
 a37:=Tryz.isAgg55
 z37:=Tryz.sizeOf55
 v37:=Tryz.zeroValue55
 t51:=Tryz.underlying261
 a51:=Tryz.isAgg261
 z51:=Tryz.sizeOf261
 v51:=Tryz.zeroValue261
 t53:=Tryz.underlying82
 a53:=Tryz.isAgg82
 z53:=Tryz.sizeOf82
 v53:=Tryz.zeroValue82 }
open Go.RowKit Go.Sort Go.Lib in
theorem Tryz.internal_strconv_formatBase10(blk off cap:Nat)(u:Nat)(d:Array UInt8)(w:World)(g:Holds (fun(b:UInt8)=>Value.int .u8 (b.toNat:Int)) w blk off d)(f:u<10^d.size)(a:u<18446744073709551616)(c:d.size<4611686018427387904) :
 Calls Tryz.prog 174 #[.slice (some ⟨blk,off,none⟩) d.size cap,.int .u64 u] w fun e w' =>
  e=.returned (.tuple #[])∧∃(n v':Nat) (dk:Array UInt8),w'=(putRow (fun(b:UInt8)=>Value.int .u8 (b.toNat:Int)) w blk off dk).drewN n∧FmtInv d.size u 0 v' dk:=Any.internal_strconv_formatBase10 Tryz.lays285 blk off cap u d w g f a c
def Tryz.laysM246_ren:Go.Shelf.Ren:=⟨fun|246=>143|283=>172|284=>173|285=>174|286=>175|129=>142|317=>191|318=>192|319=>193|320=>194|337=>204|338=>148|n=>n,fun|2=>2|3=>3|9=>9|4=>4|171=>300|0=>0|53=>82|37=>55|5=>5|173=>302|212=>322|51=>261|20=>20|213=>323|46=>214|232=>336|233=>304|n=>n,fun|17=>2|18=>3|19=>1|n=>n⟩
def Tryz.lays246_ren:Go.Shelf.Ren:=⟨fun|246=>143|283=>172|284=>173|285=>174|286=>175|129=>142|317=>191|318=>192|319=>193|320=>194|337=>204|338=>148|n=>n,fun|2=>2|3=>3|9=>9|4=>4|171=>300|0=>0|53=>82|37=>55|5=>5|173=>302|212=>322|51=>261|20=>20|213=>323|46=>214|232=>336|233=>304|n=>n,fun|17=>2|18=>3|19=>1|n=>n⟩
def Tryz.laysM243_ren:Go.Shelf.Ren:=⟨fun|243=>102|246=>143|283=>172|284=>173|285=>174|286=>175|129=>142|317=>191|318=>192|319=>193|320=>194|337=>204|338=>148|n=>n,fun|3=>3|9=>9|2=>2|4=>4|171=>300|0=>0|53=>82|37=>55|5=>5|173=>302|212=>322|51=>261|20=>20|213=>323|46=>214|232=>336|233=>304|n=>n,fun|17=>2|18=>3|19=>1|n=>n⟩
def Tryz.lays243_ren:Go.Shelf.Ren:=⟨fun|243=>102|246=>143|283=>172|284=>173|285=>174|286=>175|129=>142|317=>191|318=>192|319=>193|320=>194|337=>204|338=>148|n=>n,fun|3=>3|9=>9|2=>2|4=>4|171=>300|0=>0|53=>82|37=>55|5=>5|173=>302|212=>322|51=>261|20=>20|213=>323|46=>214|232=>336|233=>304|n=>n,fun|17=>2|18=>3|19=>1|n=>n⟩
def Tryz.laysM171_ren:Go.Shelf.Ren:=⟨fun|171=>52|243=>102|246=>143|283=>172|284=>173|285=>174|286=>175|129=>142|317=>191|318=>192|319=>193|320=>194|337=>204|338=>148|n=>n,fun|3=>3|9=>9|2=>2|4=>4|171=>300|0=>0|53=>82|37=>55|5=>5|173=>302|212=>322|51=>261|20=>20|213=>323|46=>214|232=>336|233=>304|n=>n,fun|17=>2|18=>3|19=>1|n=>n⟩
theorem Tryz.laysM171:Go.Proofs.LaysM.n171 Tryz.prog Tryz.laysM171_ren:={
 mixed:=by kernel_rfl
 f129:=Tryz.func142.trans (congrArg some (by kernel_rfl))
 f171:=Tryz.func52.trans (congrArg some (by kernel_rfl))
 f243:=Tryz.func102.trans (congrArg some (by kernel_rfl))
 f246:=Tryz.func143.trans (congrArg some (by kernel_rfl))
 f283:=Tryz.func172.trans (congrArg some (by kernel_rfl))
 f284:=Tryz.func173.trans (congrArg some (by kernel_rfl))
 f285:=Tryz.func174.trans (congrArg some (by kernel_rfl))
 f286:=Tryz.func175.trans (congrArg some (by kernel_rfl))
 f317:=Tryz.func191.trans (congrArg some (by kernel_rfl))
 f318:=Tryz.func192.trans (congrArg some (by kernel_rfl))
 f319:=Tryz.func193.trans (congrArg some (by kernel_rfl))
 f320:=Tryz.func194.trans (congrArg some (by kernel_rfl))
 f337:=Tryz.func204.trans (congrArg some (by kernel_rfl))
 f338:=Tryz.func148.trans (congrArg some (by kernel_rfl))
 t0:=Tryz.underlying0
 a0:=Tryz.isAgg0
 z0:=Tryz.sizeOf0
 v0:=Tryz.zeroValue0
 t2:=Tryz.underlying2
 a2:=Tryz.isAgg2
 z2:=Tryz.sizeOf2
 v2:=Tryz.zeroValue2
 t3:=Tryz.underlying3
 a3:=Tryz.isAgg3
 z3:=Tryz.sizeOf3
 v3:=Tryz.zeroValue3
 t4:=Tryz.underlying4
 a4:=Tryz.isAgg4
 z4:=Tryz.sizeOf4
 v4:=Tryz.zeroValue4
 t5:=Tryz.underlying5
 a5:=Tryz.isAgg5
 z5:=Tryz.sizeOf5
 v5:=Tryz.zeroValue5
 t9:=Tryz.underlying9
 a9:=Tryz.isAgg9
 z9:=Tryz.sizeOf9
 v9:=Tryz.zeroValue9
 t20:=Tryz.underlying20
 a20:=Tryz.isAgg20
 z20:=Tryz.sizeOf20
 v20:=Tryz.zeroValue20
 t37:=Tryz.underlying55
 a37:=Tryz.isAgg55
 z37:=Tryz.sizeOf55
 v37:=Tryz.zeroValue55
 t46:=Tryz.underlying214
 a46:=Tryz.isAgg214
 z46:=Tryz.sizeOf214
 v46:=Tryz.zeroValue214
 t51:=Tryz.underlying261
 a51:=Tryz.isAgg261
 z51:=Tryz.sizeOf261
 v51:=Tryz.zeroValue261
 t53:=Tryz.underlying82
 a53:=Tryz.isAgg82
 z53:=Tryz.sizeOf82
 v53:=Tryz.zeroValue82
 t171:=Tryz.underlying300
 a171:=Tryz.isAgg300
 z171:=Tryz.sizeOf300
 v171:=Tryz.zeroValue300
 t173:=Tryz.underlying302
 a173:=Tryz.isAgg302
 z173:=Tryz.sizeOf302
 v173:=Tryz.zeroValue302
 t212:=Tryz.underlying322
 a212:=Tryz.isAgg322
 z212:=Tryz.sizeOf322
 v212:=Tryz.zeroValue322
 t213:=Tryz.underlying323
 a213:=Tryz.isAgg323
 z213:=Tryz.sizeOf323
 t232:=Tryz.underlying336
 a232:=Tryz.isAgg336
 z232:=Tryz.sizeOf336
 v232:=Tryz.zeroValue336
 t233:=Tryz.underlying304
 a233:=Tryz.isAgg304
 z233:=Tryz.sizeOf304
 v233:=Tryz.zeroValue304
 g17:=by kernel_rfl
 g18:=by kernel_rfl
 g19:=by kernel_rfl
 i0:=by kernel_rfl
 i2:=by kernel_rfl
 i3:=by kernel_rfl
 i4:=by kernel_rfl
 i5:=by kernel_rfl
 i9:=by kernel_rfl
 i20:=by kernel_rfl
 i37:=by kernel_rfl
 i46:=by kernel_rfl
 i51:=by kernel_rfl
 i53:=by kernel_rfl
 i171:=by kernel_rfl
 i173:=by kernel_rfl
 i212:=by kernel_rfl
 i232:=by kernel_rfl
 i233:=by kernel_rfl
 m17:=by kernel_rfl
 m18:=by kernel_rfl
 m19:=by kernel_rfl }
open Go.RowKit Go.Sort Go.Lib in
theorem Tryz.strconv_Itoa(n:Int)(c:-9223372036854775808≤n)(b:n≤9223372036854775807)(w:World)(a:Lib.TabIs Tryz.prog w "internal/strconv.uint64pow10" .u64 Lib.pow10Tab) :
 Calls Tryz.prog 52 #[.int .i64 n] w fun e w'=>e=.returned (.string ⟨(Lib.itoa n).toArray⟩)∧∃k os,w'=grow (w.drewN k) os:=Any.strconv_Itoa Tryz.laysM171 n c b w a
def Tryz.lays171_ren:Go.Shelf.Ren:=⟨fun|171=>52|243=>102|246=>143|283=>172|284=>173|285=>174|286=>175|129=>142|317=>191|318=>192|319=>193|320=>194|337=>204|338=>148|n=>n,fun|3=>3|9=>9|2=>2|4=>4|171=>300|0=>0|53=>82|37=>55|5=>5|173=>302|212=>322|51=>261|20=>20|213=>323|46=>214|232=>336|233=>304|n=>n,fun|17=>2|18=>3|19=>1|n=>n⟩
def Tryz.lays189_ren:Go.Shelf.Ren:=⟨fun|189=>48|125=>100|257=>99|128=>141|129=>142|294=>132|295=>133|296=>134|297=>135|298=>136|299=>137|216=>138|300=>139|301=>140|328=>167|329=>168|330=>169|331=>170|332=>171|215=>126|343=>190|n=>n,fun|28=>28|3=>3|46=>214|0=>0|51=>261|53=>82|4=>4|183=>254|182=>253|131=>200|5=>5|9=>9|218=>294|222=>298|228=>318|229=>143|n=>n,fun|n=>n⟩
theorem Tryz.lays189:Go.Proofs.Lays.n189 Tryz.prog Tryz.lays189_ren:={
 mixed:=by rfl
 f125:=Tryz.func100.trans (congrArg some (by rfl))
 f128:=Tryz.func141.trans (congrArg some (by rfl))
 f129:=Tryz.func142.trans (congrArg some (by rfl))
 f189:=Tryz.func48.trans (congrArg some (by rfl))
 f215:=Tryz.func126.trans (congrArg some (by rfl))
 f216:=Tryz.func138.trans (congrArg some (by rfl))
 f257:=Tryz.func99.trans (congrArg some (by rfl))
 f294:=Tryz.func132.trans (congrArg some (by rfl))
 f295:=Tryz.func133.trans (congrArg some (by rfl))
 f296:=Tryz.func134.trans (congrArg some (by rfl))
 f297:=Tryz.func135.trans (congrArg some (by rfl))
 f298:=Tryz.func136.trans (congrArg some (by rfl))
 f299:=Tryz.func137.trans (congrArg some (by rfl))
 f300:=Tryz.func139.trans (congrArg some (by rfl))
 f301:=Tryz.func140.trans (congrArg some (by rfl))
 f328:=Tryz.func167.trans (congrArg some (by rfl))
 f329:=Tryz.func168.trans (congrArg some (by rfl))
 f330:=Tryz.func169.trans (congrArg some (by rfl))
 f331:=Tryz.func170.trans (congrArg some (by rfl))
 f332:=Tryz.func171.trans (congrArg some (by rfl))
 f343:=Tryz.func190.trans (congrArg some (by rfl))
 t0:=Tryz.underlying0
 a0:=Tryz.isAgg0
 z0:=Tryz.sizeOf0
 v0:=Tryz.zeroValue0
 t3:=Tryz.underlying3
 a3:=Tryz.isAgg3
 z3:=Tryz.sizeOf3
 v3:=Tryz.zeroValue3
 t4:=Tryz.underlying4
 a4:=Tryz.isAgg4
 z4:=Tryz.sizeOf4
 v4:=Tryz.zeroValue4
 t5:=Tryz.underlying5
 a5:=Tryz.isAgg5
 z5:=Tryz.sizeOf5
 v5:=Tryz.zeroValue5
 t9:=Tryz.underlying9
 a9:=Tryz.isAgg9
 z9:=Tryz.sizeOf9
 v9:=Tryz.zeroValue9
 t28:=Tryz.underlying28
 a28:=Tryz.isAgg28
 z28:=Tryz.sizeOf28
 v28:=Tryz.zeroValue28
 t46:=Tryz.underlying214
 a46:=Tryz.isAgg214
 z46:=Tryz.sizeOf214
 v46:=Tryz.zeroValue214
 t51:=Tryz.underlying261
 a51:=Tryz.isAgg261
 z51:=Tryz.sizeOf261
 v51:=Tryz.zeroValue261
 t53:=Tryz.underlying82
 a53:=Tryz.isAgg82
 z53:=Tryz.sizeOf82
 v53:=Tryz.zeroValue82
 t131:=Tryz.underlying200
 a131:=Tryz.isAgg200
 z131:=Tryz.sizeOf200
 v131:=Tryz.zeroValue200
 t182:=Tryz.underlying253
 a182:=Tryz.isAgg253
 z182:=Tryz.sizeOf253
 v182:=Tryz.zeroValue253
 t183:=Tryz.underlying254
 a183:=Tryz.isAgg254
 z183:=Tryz.sizeOf254
 v183:=Tryz.zeroValue254
 t218:=Tryz.underlying294
 a218:=Tryz.isAgg294
 z218:=Tryz.sizeOf294
 v218:=Tryz.zeroValue294
 t222:=Tryz.underlying298
 a222:=Tryz.isAgg298
 z222:=Tryz.sizeOf298
 v222:=Tryz.zeroValue298
 t228:=Tryz.underlying318
 a228:=Tryz.isAgg318
 z228:=Tryz.sizeOf318
 v228:=Tryz.zeroValue318
 t229:=Tryz.underlying143
 a229:=Tryz.isAgg143
 z229:=Tryz.sizeOf143
 v229:=Tryz.zeroValue143 }
open Go.Sort Go.RowKit in
theorem Tryz.slices_Sort_int(blk off cap:Nat)(zs:List Int)(w:World)(c:Holds (Value.int .i64) w blk off zs.toArray)(a:blk<w.heap.size)(b:zs.length<4611686018427387904) :
 Calls Tryz.prog 48 #[.slice (some ⟨blk,off,none⟩) zs.length cap] w fun e w' =>
  e=.returned (.tuple #[])∧∃n os,w'=grow (putRow (Value.int .i64) (Sort.ahead w n) blk off (zs.mergeSort fun x y=>decide (x≤y)).toArray) os:=Any.slices_Sort_int Tryz.lays189 blk off cap zs w c a b
def Tryz.lays206_ren:Go.Shelf.Ren:=⟨fun|206=>144|n=>n,fun|9=>9|4=>4|3=>3|n=>n,fun|n=>n⟩
def Tryz.lays99_ren:Go.Shelf.Ren:=⟨fun|99=>103|206=>144|n=>n,fun|9=>9|4=>4|3=>3|n=>n,fun|n=>n⟩
def Tryz.lays264_ren:Go.Shelf.Ren:=⟨fun|264=>202|n=>n,fun|53=>82|46=>214|n=>n,fun|n=>n⟩
def Tryz.lays212_ren:Go.Shelf.Ren:=⟨fun|212=>187|263=>201|264=>202|n=>n,fun|46=>214|51=>261|146=>330|53=>82|148=>332|n=>n,fun|n=>n⟩
def Tryz.lays105_ren:Go.Shelf.Ren:=⟨fun|105=>165|212=>187|99=>103|165=>188|166=>164|170=>189|169=>166|263=>201|264=>202|206=>144|240=>186|241=>203|276=>200|277=>207|n=>n,fun|9=>9|3=>3|4=>4|20=>20|0=>0|46=>214|109=>313|5=>5|72=>284|76=>291|51=>261|146=>330|53=>82|148=>332|70=>282|37=>55|75=>290|127=>317|164=>328|80=>250|n=>n,fun|n=>n⟩
theorem Tryz.lays105:Go.Proofs.Lays.n105 Tryz.prog Tryz.lays105_ren:={
 mixed:=by rfl
 f99:=Tryz.func103.trans (congrArg some (by rfl))
 f105:=Tryz.func165.trans (congrArg some (by rfl))
 f165:=Tryz.func188.trans (congrArg some (by rfl))
 f166:=Tryz.func164.trans (congrArg some (by rfl))
 f169:=Tryz.func166.trans (congrArg some (by rfl))
 f170:=Tryz.func189.trans (congrArg some (by rfl))
 f206:=Tryz.func144.trans (congrArg some (by rfl))
 f212:=Tryz.func187.trans (congrArg some (by rfl))
 f240:=Tryz.func186.trans (congrArg some (by rfl))
 f241:=Tryz.func203.trans (congrArg some (by rfl))
 f263:=Tryz.func201.trans (congrArg some (by rfl))
 f264:=Tryz.func202.trans (congrArg some (by rfl))
 f276:=Tryz.func200.trans (congrArg some (by rfl))
 f277:=Tryz.func207.trans (congrArg some (by rfl))
 t0:=Tryz.underlying0
 a0:=Tryz.isAgg0
 z0:=Tryz.sizeOf0
 v0:=Tryz.zeroValue0
 t3:=Tryz.underlying3
 a3:=Tryz.isAgg3
 z3:=Tryz.sizeOf3
 v3:=Tryz.zeroValue3
 t4:=Tryz.underlying4
 a4:=Tryz.isAgg4
 z4:=Tryz.sizeOf4
 v4:=Tryz.zeroValue4
 t5:=Tryz.underlying5
 a5:=Tryz.isAgg5
 z5:=Tryz.sizeOf5
 v5:=Tryz.zeroValue5
 t9:=Tryz.underlying9
 a9:=Tryz.isAgg9
 z9:=Tryz.sizeOf9
 v9:=Tryz.zeroValue9
 t20:=Tryz.underlying20
 a20:=Tryz.isAgg20
 z20:=Tryz.sizeOf20
 v20:=Tryz.zeroValue20
 t37:=Tryz.underlying55
 a37:=Tryz.isAgg55
 z37:=Tryz.sizeOf55
 v37:=Tryz.zeroValue55
 t46:=Tryz.underlying214
 a46:=Tryz.isAgg214
 z46:=Tryz.sizeOf214
 v46:=Tryz.zeroValue214
 t51:=Tryz.underlying261
 a51:=Tryz.isAgg261
 z51:=Tryz.sizeOf261
 v51:=Tryz.zeroValue261
 t53:=Tryz.underlying82
 a53:=Tryz.isAgg82
 z53:=Tryz.sizeOf82
 v53:=Tryz.zeroValue82
 t70:=Tryz.underlying282
 a70:=Tryz.isAgg282
 z70:=Tryz.sizeOf282
 v70:=Tryz.zeroValue282
 t72:=Tryz.underlying284
 a72:=Tryz.isAgg284
 z72:=Tryz.sizeOf284
 v72:=Tryz.zeroValue284
 t75:=Tryz.underlying290
 a75:=Tryz.isAgg290
 z75:=Tryz.sizeOf290
 v75:=Tryz.zeroValue290
 t76:=Tryz.underlying291
 a76:=Tryz.isAgg291
 z76:=Tryz.sizeOf291
 v76:=Tryz.zeroValue291
 t109:=Tryz.underlying313
 a109:=Tryz.isAgg313
 z109:=Tryz.sizeOf313
 v109:=Tryz.zeroValue313
 t127:=Tryz.underlying317
 a127:=Tryz.isAgg317
 z127:=Tryz.sizeOf317
 v127:=Tryz.zeroValue317
 t146:=Tryz.underlying330
 a146:=Tryz.isAgg330
 z146:=Tryz.sizeOf330
 v146:=Tryz.zeroValue330
 t148:=Tryz.underlying332
 a148:=Tryz.isAgg332
 z148:=Tryz.sizeOf332
 v148:=Tryz.zeroValue332
 t164:=Tryz.underlying328
 a164:=Tryz.isAgg328
 z164:=Tryz.sizeOf328
 v164:=Tryz.zeroValue328 }
theorem Tryz.Builder_Extra_105:Builder.Extra Tryz.prog Tryz.lays105_ren:={
 sizeBuilder:=by kernel_rfl
 liesBuilder:=by kernel_rfl
 t5:=Tryz.underlying5
 a5:=Tryz.isAgg5
 z5:=Tryz.sizeOf5
 v5:=Tryz.zeroValue5
 infoByte:=by kernel_rfl
 cellsByte:=by kernel_rfl
 sizeByte:=by kernel_rfl
 neB5:=by decide }
open Go.RowKit Go.Lib in
theorem Tryz.strings_Repeat(s:ByteArray)(c:Nat)(w:World)(b:c≤9223372036854775807)(a:s.size*c≤140737488355328) :
 Calls Tryz.prog 165 #[.string s,.int .i64 c] w fun e w'=>e=.returned (.string ⟨(Lib.repeatL s.data.toList c).toArray⟩)∧Below w.heap.size w w':=Any.strings_Repeat Tryz.lays105 Tryz.Builder_Extra_105 s c w b a
def Tryz.laysNm220_ren:Go.Shelf.Ren:=⟨fun|20=>49|n=>n,fun|22=>28|3=>3|4=>4|0=>0|n=>n,fun|n=>n⟩
theorem Tryz.laysNm220:Go.Proofs.Lays2.n20 Tryz.prog Tryz.laysNm220_ren:={
 mixed:=by rfl
 f20:=Tryz.func49.trans (congrArg some (by rfl))
 t0:=Tryz.underlying0
 a0:=Tryz.isAgg0
 z0:=Tryz.sizeOf0
 v0:=Tryz.zeroValue0
 t3:=Tryz.underlying3
 a3:=Tryz.isAgg3
 z3:=Tryz.sizeOf3
 v3:=Tryz.zeroValue3
 t4:=Tryz.underlying4
 a4:=Tryz.isAgg4
 z4:=Tryz.sizeOf4
 v4:=Tryz.zeroValue4
 t22:=Tryz.underlying28
 a22:=Tryz.isAgg28
 z22:=Tryz.sizeOf28
 v22:=Tryz.zeroValue28
 i3:=by kernel_rfl }
open Go.RowKit Go.Lib Go.Sort in
theorem Tryz.slices_Compact_int(blk off cap:Nat)(zs:List Int)(w:World)(c:Holds (Value.int .i64) w blk off zs.toArray)(b:zs.length≤9223372036854775807)(a:zs.length≤cap) :
 Calls Tryz.prog 49 #[.slice (some ⟨blk,off,none⟩) zs.length cap] w fun e w'=>e=.returned (.slice (some ⟨blk,off,none⟩) (Lib.compact zs).length cap)∧∃q,w'=putRow (Value.int .i64) (Sort.ahead w q) blk off (Lib.compact zs++List.replicate (zs.length-(Lib.compact zs).length) 0).toArray:=Any.slices_Compact_int Tryz.laysNm220 blk off cap zs w c b a
open Go.RowKit Go.Sort in
theorem Tryz.slices_Sort_int_none(p:Option Addr)(cap:Nat)(w:World) :
 Calls Tryz.prog 48 #[.slice p 0 cap] w fun e w'=>e=.returned (.tuple #[])∧w'=w:=Any.slices_Sort_int_none Tryz.lays189 p cap w
end Go.Proofs
namespace Go.Num
section
open Go.Lib
abbrev B9:Nat:=1000000000
def val:List Nat→Nat
 |[]=>0
 |a::l=>a+B9*val l
def toL(n:Nat):List Nat:=if h:n=0 then [] else(n%B9)::toL (n / B9)
termination_by n
decreasing_by exact el (by omega) (by decide)
theorem toL_zero:toL 0=[]:=by rw[toL];simp
theorem toL_pos{n:Nat}(h:n≠0):toL n=(n%B9)::toL (n / B9):=by rw[toL,dif_neg h]
theorem toL_nil{n:Nat}:toL n=[]↔n=0:=by
 constructor
 ·intro h
  by_cases a:n=0
  ·omega
  ·rw[toL_pos a] at h;cases h
 ·intro h;rw[h,toL_zero]
def gB(l:List Nat):Prop:=∀a∈l,a<B9
theorem V4(n:Nat):val (toL n)=n:=by
 induction n using Nat.strongRecOn with
 |ind n a =>
  by_cases h:n=0
  ·rw[h,toL_zero];rfl
  ·rw[toL_pos h,val,a _ (el (by omega) (by decide))]
   grind
theorem MQ(n:Nat):gB (toL n):=by
 induction n using Nat.strongRecOn with
 |ind n b =>
  by_cases h:n=0
  ·rw[h,toL_zero];intro a ha;grind
  ·rw[toL_pos h]
   intro a ha;rcases bo.1 ha with rfl|ha
   ·grind
   ·exact b _ (el (by omega) (by decide)) a ha
def LC:List Nat→List Nat
 |[]=>[]
 |a::t=>if LC t=[]∧a=0 then [] else a::LC t
theorem qN{l:List Nat}(h:gB l):LC l=toL (val l):=by
 induction l with
 |nil=>rw[val,toL_zero];rfl
 |cons a t c =>
  have f:a<B9:=h a (by simp);have c:=c (fun x i=>h x (by grind));simp only[LC,val];rw[c];by_cases b:val t=0∧a=0
  ·rw[if_pos ⟨toL_nil.2 b.1,b.2⟩,b.1,b.2];simp[toL_zero]
  ·rw[if_neg (fun g=>b ⟨toL_nil.1 g.1,g.2⟩)]
   have d:a+B9*val t≠0:=fun e=>b ⟨by
    grind,by omega⟩
   rw[toL_pos d,gm,br f,fw _ _ (by decide),fh f,cz]
theorem Xv(l:List Nat):LC (l++[0])=LC l:=by
 induction l with
 |nil=>rfl
 |cons a t b=>simp only[List.cons_append,LC,b]
theorem dw(l:List Nat){x:Nat}(c:x≠0):LC (l++[x])=l++[x]:=by
 induction l with
 |nil=>simp[LC,c]
 |cons a t b=>simp only[List.cons_append,LC,b];simp
theorem val_append(l r:List Nat):val (l++r)=val l+B9^l.length*val r:=by
 induction l with
 |nil=>simp[val]
 |cons a t b=>simp only[List.cons_append,val,b,List.length_cons,Nat.pow_succ];grind
theorem gK(n:Nat):val (List.replicate n 0)=0:=by
 induction n with
 |zero=>rfl
 |succ n a=>simp[List.replicate_succ,val,a]
theorem a3c(l:List Nat):∀(i x:Nat),i<l.length→val (l.set i x)+(l[i]?.getD 0)*B9^i=val l+x*B9^i:=by
 induction l with
 |nil=>simp
 |cons a t b =>
  intro i x h;cases i with
  |zero=>simp[val];omega
  |succ i =>
   simp only[List.set_cons_succ,val,List.getElem?_cons_succ,Nat.pow_succ];grind
theorem a2o{l:List Nat}(h:gB l){i x:Nat}(c:x<B9):gB (l.set i x):=fun a b=>by
 rcases List.mem_or_eq_of_mem_set b with h1|h1
 ·exact h a h1
 omega
theorem mQ{l:List Nat}(h:gB l)(i:Nat):l[i]?.getD 0<B9:=by
 cases hi:l[i]? with
 |none=>decide
 |some a=>exact h a (fq hi)
def D(k u:Nat):List UInt8:=(List.range k).map fun t=>dg u (k-1-t)
theorem EW(k u:Nat):(D k u).length=k:=by simp[D]
theorem Ls(k u t:Nat)(h:t<k):(D k u)[t]?=some (dg u (k-1-t)):=by
 unfold D;grind
theorem EP(u:Nat):decDigits u=D (nDigits u) u:=decDigits_eq u
theorem c1r{a m j:Nat}(c:j<9):dg (a+B9*m) j=dg a j:=by
 unfold dg;have b:B9=10^j*10^(9-j):=by rw[← cy,show j+(9-j)=9 by omega]
 rw[b,cY,fw _ _ (dj (by decide))];rw[show 9-j=(8-j)+1 by omega,bX,dr (10^(8-j)) 10,cY,gm]
theorem b5g{a m j:Nat}(b:a<B9):dg (a+B9*m) (j+9)=dg m j:=by
 unfold dg;rw[cy,dr (10^j),← fa,show(10:Nat)^9=B9 from rfl,fw _ _ (by decide),fh b,cz]
theorem b6l{a m p:Nat}(b:a<B9):D (p+9) (a+B9*m)=D p m++D 9 a:=by
 apply bj;intro t;by_cases d:t<p
 ·rw[Ls _ _ _ (by omega),cf (by rw[EW];omega),Ls _ _ _ d]
  rw[show p+9-1-t=(p-1-t)+9 by omega,b5g b]
 ·rw[bm (by rw[EW];omega),EW]
  by_cases c:t<p+9
  ·rw[Ls _ _ _ c,Ls _ _ _ (by omega)]
   rw[show p+9-1-t=9-1-(t-p) by omega,c1r (by omega)]
  ·rw[aL (by rw[EW];omega),aL (by rw[EW];omega)]
theorem GK:∀(u:Nat),u≠0→10^(nDigits u-1)≤u:=by
 intro u
 induction u using Nat.strongRecOn with
 |ind u a =>
  intro c;by_cases h:u<10
  ·rw[nDigits_small h];omega
  ·rw[nDigits_big h]
   have:=a (u / 10) (by omega) (by omega);have b:=nDigits_pos (u / 10);rw[show nDigits (u / 10)+1-1=(nDigits (u / 10)-1)+1 by omega,bX];omega
theorem gU{a m:Nat}(c:a<B9)(b:m≠0):nDigits (a+B9*m)=nDigits m+9:=by
 have f:=GK m b;have e:=lt_pow_nDigits m;have d:=nDigits_pos m;apply nDigits_unique
 ·rw[show nDigits m+8=9+(nDigits m-1) by omega,cy,show(10:Nat)^9=B9 from rfl]
  grind
 grind
theorem a4k{a m:Nat}(b:a<B9)(c:m≠0):decDigits (a+B9*m)=decDigits m++D 9 a:=by
 rw[EP,EP,gU b c,b6l b]
theorem b6j{u j:Nat}(h:u<10^j):dg u j=48:=by
 unfold dg;rw[fh h];rfl
theorem pad(k u:Nat)(h:nDigits u≤k):List.replicate (k-nDigits u) 48++decDigits u=D k u:=by
 rw[EP];apply bj;intro t;by_cases b:t<k-nDigits u
 ·rw[cf (by grind),Ls _ _ _ (by omega),List.getElem?_replicate,if_pos b]
  rw[b6j (ag (lt_pow_nDigits u) (ax (by decide) (by omega)))]
 ·rw[bm (by grind),List.length_replicate]
  by_cases a:t<k
  ·rw[Ls _ _ _ a,Ls _ _ _ (by omega)]
   grind
  ·rw[aL (by rw[EW];omega),aL (by rw[EW];omega)]
theorem QK{a:Nat}(h:a<B9):nDigits a≤9:=by
 rcases bp a with h0|h0
 ·rw[h0,nDigits_small (by decide)];decide
 ·have:=GK a (by omega)
  rcases aq 9 (nDigits a) with h1|h1
  ·have:10^9≤10^(nDigits a-1):=ax (by decide) (by omega)
   grind
  omega
def PS:List Nat→List UInt8
 |[]=>decDigits 0
 |[a]=>decDigits a
 |a::t=>PS t++D 9 a
theorem wZ{a:Nat}{t:List Nat}(h:t≠[]):PS (a::t)=PS t++D 9 a:=by
 cases t with
 |nil=>grind
 |cons b t=>rfl
theorem kU(n:Nat):PS (toL n)=decDigits n:=by
 induction n using Nat.strongRecOn with
 |ind n b =>
  by_cases h:n=0
  ·rw[h,toL_zero];rfl
  ·rw[toL_pos h]
   by_cases a:n / B9=0
   ·rw[a,toL_zero]
    show decDigits (n%B9)=_;grind
   ·rw[wZ (by rw[Ne,toL_nil];omega),b _ (el (by omega) (by decide)),← a4k (bc _ (by decide)) a,fx]
def parse(l:List UInt8):Nat:=l.foldl (fun v c=>10*v+(c.toNat-48)) 0
theorem dK(l:List UInt8)(c:UInt8):parse (l++[c])=10*parse l+(c.toNat-48):=by simp[parse]
theorem Vl(u j:Nat):(dg u j).toNat=48+u / 10^j%10:=by
 unfold dg;simp;omega
theorem c1i(k u:Nat):D (k+1) u=D k (u / 10)++[dg u 0]:=by
 apply bj;intro t;by_cases a:t<k
 ·rw[Ls _ _ _ (by omega),cf (by rw[EW];omega),Ls _ _ _ a]
  rw[show k+1-1-t=(k-1-t)+1 by omega,dg_succ]
 ·rw[bm (by rw[EW];omega),EW]
  by_cases b:t<k+1
  ·have:t=k:=by omega
   subst this;rw[Ls _ _ _ (by omega),cG,show t+1-1-t=0 by omega];rfl
  ·rw[aL (by rw[EW];omega),aL (by grind)]
theorem VL:∀(k u:Nat),parse (D k u)=u%10^k
 |0,u=>by simp[D,parse,Nat.mod_one]
 |k+1,u=>by
  rw[c1i,dK,VL k,Vl,eE,Nat.div_one,gC,bX,dr (10^k) 10,Nat.mod_mul,Nat.add_comm]
theorem qX(L u e c:Nat)(a:e≤L)(b:c≤e):((D L u).take e).drop (e-c)=D c (u / 10^(L-e)):=by
 apply bj;intro t;rw[fT];by_cases h:t<c
 ·rw[List.getElem?_take_of_lt (by omega),Ls _ _ _ (by omega),Ls _ _ _ h]
  unfold dg;rw[fa,← cy];grind
 ·rw[aL (by grind),aL (by rw[EW];omega)]
end
section
open Go.Lib Go.Vm
theorem a0c{l:List Nat}(h:gB l)(i:Nat):gi l i<1000000000:=mQ h i
theorem Tq(l:List Nat)(k:Nat)(h:k<l.length):val (l.take (k+1))=val (l.take k)+gi l k*B9^k:=by
 have:l.take (k+1)=l.take k++[gi l k]:=by
  simp[gi,List.getElem?_eq_getElem h]
 rw[this,val_append,ar,cE (by omega),val,val,Nat.mul_zero,dq,dr]
theorem b0e{c:List Nat}{i k a b d V W:Nat}(e:i+k<c.length)(h:val c+d*B9^(i+k)=V+a*B9^i*W) :
 val (c.set (i+k) ((gi c (i+k)+a*b+d)%B9))+(gi c (i+k)+a*b+d) / B9*B9^(i+(k+1))=V+a*B9^i*(W+b*B9^k):=by
 generalize hx:gi c (i+k)+a*b+d=x;have j:=a3c c (i+k) (x%B9) e;have g:x%B9+B9*(x / B9)=x:=fx x B9;have f:c[i+k]?.getD 0=gi c (i+k):=rfl;grind
theorem b6n{b:List Nat}{i n a c V W:Nat}(hin:i+n<b.length)(f:gi b (i+n)=0)(h:val b+c*B9^(i+n)=V+a*B9^i*W) :
 val (b.set (i+n) (gi b (i+n)+c))=V+a*B9^i*W:=by
 have e:=a3c b (i+n) (gi b (i+n)+c) hin;have d:b[i+n]?.getD 0=gi b (i+n):=rfl;grind
theorem G5(l:List Nat)(i j x:Nat)(a:i<l.length):gi (l.set i x) j=if i=j then x else gi l j:=by
 simp only[gi,List.getElem?_set];grind
theorem UN(n j:Nat):gi (List.replicate n (0:Nat)) j=0:=by
 simp only[gi,List.getElem?_replicate];split<;>rfl
theorem gV(n:Nat):gB (List.replicate n 0):=fun a b=>by
 grind
theorem parse_snoc'(l:List UInt8)(k:Nat)(h:k<l.length):parse (l.take (k+1))=10*parse (l.take k)+((gi l k).toNat-48):=by
 have:l.take (k+1)=l.take k++[gi l k]:=by
  simp[gi,List.getElem?_eq_getElem h]
 rw[this,dK]
theorem qh:∀(l:List UInt8),(∀c∈l,48≤c.toNat∧c.toNat≤57)→parse l<10^l.length:=by
 intro l h;have a:∀k,k≤l.length→parse (l.take k)<10^k:=by
  intro k
  induction k with
  |zero=>intro _;simp[parse]
  |succ k d =>
   intro e;have b:gi l k∈l:=by simp only[gi,List.getElem?_eq_getElem (show k<l.length by omega),Option.getD_some];simp
   have:=h _ b;rw[parse_snoc' l k (by omega),bX];omega
 grind
theorem pU(k u:Nat):∀c∈D k u,48≤c.toNat∧c.toNat≤57:=fun c a=>by
 obtain⟨t,_,rfl⟩:=ba.1 a;rw[Vl];omega
theorem KG(u:Nat):∀c∈decDigits u,48≤c.toNat∧c.toNat≤57:=by rw[EP];exact pU _ _
def lQ(n j:Nat):Nat:=n / B9^j%B9
def limbs(n:Nat):Nat→List Nat
 |0=>[]
 |k+1=>limbs n k++[lQ n k]
theorem NJ(n:Nat):∀k,(limbs n k).length=k
 |0=>rfl
 |k+1=>by simp[limbs,NJ n k]
theorem jA(n:Nat):∀k,gB (limbs n k)
 |0=>fun a h=>by cases h
 |k+1=>fun a h=>by
  rcases bq.1 h with h|h
  ·exact jA n k a h
  ·rw[aR.1 h];exact bc _ (by decide)
theorem jk(n:Nat):∀k,val (limbs n k)=n%B9^k
 |0=>by simp[limbs,val,Nat.mod_one]
 |k+1=>by
  rw[limbs,val_append,NJ,jk n k,val,val,Nat.mul_zero,dq,lQ,bX,Nat.mod_mul]
theorem a0l{n k:Nat}(h:n<B9^k):LC (limbs n k)=toL n:=by
 rw[qN (jA n k),jk,br h]
theorem toL_len_le(n:Nat):∀k,n<B9^k→(toL n).length≤k:=by
 induction n using Nat.strongRecOn with
 |ind n a =>
  intro k b;by_cases h:n=0
  ·rw[h,toL_zero];simp
  ·rw[toL_pos h]
   cases k with
   |zero=>grind
   |succ k =>
    have:=a (n / B9) (el (by omega) (by decide)) k (by exact cR (by rw[dr];exact b));grind
theorem b7r:∀(k a b:Nat),a<10^k→b<10^k→compareBytes (D k a) (D k b)=if a<b then -1 else if b<a then 1 else 0
 |0,a,b,ha,hb=>by
  simp at ha hb;subst ha;subst hb;rfl
 |k+1,a,b,ha,hb=>by
  have f:∀u,D (k+1) u=dg u k::D k (u%10^k):=fun u=>by
   apply bj;intro t;cases t with
   |zero=>rw[Ls _ _ _ (by omega)];rfl
   |succ t =>
    rw[gD];by_cases g:t<k
    ·rw[Ls _ _ _ (by omega),Ls _ _ _ g]
     congr 1
     rw[show k+1-1-(t+1)=k-1-t by omega];unfold dg;congr 2
     have i:(10:Nat)^k=10^(k-1-t)*(10*10^t):=by rw[← Nat.pow_succ',← cy];grind
     rw[i,Nat.mod_mul_right_div_self,Nat.mod_mul_right_mod]
    ·rw[aL (by rw[EW];omega),aL (by rw[EW];omega)]
  have c:0<10^k:=dj (by decide);have o:=b7r k (a%10^k) (b%10^k) (bc _ c) (bc _ c);have q:=fx a (10^k);have p:=fx b (10^k);have e:a / 10^k<10:=cR ha;have d:b / 10^k<10:=cR hb;have l:(dg a k).toNat=48+a / 10^k:=by rw[Vl,br e]
  have j:(dg b k).toNat=48+b / 10^k:=by rw[Vl,br d]
  have n:a%10^k<10^k:=bc _ c;have m:b%10^k<10^k:=bc _ c;rw[f a,f b];simp only[compareBytes,UInt8.lt_iff_toNat_lt,l,j];rcases eT (a / 10^k) (b / 10^k) with h|h|h
  ·rw[if_pos (by omega)]
   have:=cb (10^k) (show a / 10^k+1≤b / 10^k from h);grind
  ·grind
  ·have:=cb (10^k) (show b / 10^k+1≤a / 10^k from h)
   grind
theorem Pg{a b:Nat}(h:nDigits a<nDigits b):a<b:=by
 have f:=lt_pow_nDigits a;have c:b≠0:=fun e=>by
  have g:nDigits 0=1:=nDigits_small (by decide);grind
 have d:=GK b c;have:10^nDigits a≤10^(nDigits b-1):=ax (by decide) (by omega);omega
theorem b5a(a n k:Nat):(a^(n / 2^(k+1)))*(a^(n / 2^(k+1)))*(if n / 2^k%2=1 then a else 1)=a^(n / 2^k):=by
 have h:n / 2^(k+1)=n / 2^k / 2:=by rw[bX,fa]
 rw[h,← cy];split
 ·rw[← bX];grind
 grind
end
end Go.Num
namespace Go.Proofs.YtnjkoebfgcbbdaaGreatDoor
section
open Go Go.Proofs Go.Shelf Go.RowKit Go.Sort Go.Lib
theorem gI(u:Nat)(hu64:u<18446744073709551616)(w:World)(htab:Lib.TabIs Tryz.prog w "internal/strconv.uint64pow10" .u64 Lib.pow10Tab) :
 Calls Tryz.prog 185 #[.int .u64 u,.int .i64 10] w fun e w'=>e=.returned (.string ⟨(Lib.decDigits u).toArray⟩)∧Below w.heap.size w w':=by
 by_cases hs:u<100
 ·go_enter Tryz.func185,Tryz.ntmps185
  go_wp2_with (go_at_call 172;refine(Tryz.internal_strconv_small u hs _).mono ?_;rintro e w' ⟨rfl,rfl⟩)
  go_ret
  exact⟨rfl,Below.refl _ _⟩
 ·have hu1:1≤u:=by omega
  have hnd20:Lib.nDigits u≤20:=by have:=Lib.numDigits_eq u hu1 hu64;split at this<;>omega
  have hal:Tryz.prog.arrayLen 300=24:=by kernel_rfl
  have hsl:∀W,(Instr.sliceAt 300 (.pointer (some ⟨w.heap.size,0,none⟩)) none (some (.int .i64 (Lib.nDigits u:Int))) none).run Tryz.prog W=.ok (.slice (some ⟨w.heap.size,0,none⟩) (Lib.nDigits u) 24) W:=fun W=>by
   rw[run_sliceAt_array_h W 300 ⟨w.heap.size,0,none⟩ (by simp[Program.arrayLen,Program.elem,Tryz.underlying300]) .i64 (Lib.nDigits u:Int) (by omega) (by rw[hal];omega)]
   go_simp
  have hH0:=Lib.holds_zero0 w 300 (Lib.nDigits u) (by omega);have hfmt:=Tryz.internal_strconv_formatBase10 w.heap.size 0 24 u (Array.replicate (Lib.nDigits u) 0) (w.alloc (.cells Lib.zeros24 300)) hH0 (by rw[dy];exact Lib.lt_pow_nDigits u) hu64 (by rw[dy];omega);rw[dy] at hfmt;have HH0:=Lib.hid hH0;clear hH0 hal
  go_enter Tryz.func185,Tryz.ntmps185
  go_wp2_with (go_at_call 173;refine(Tryz.internal_strconv_numDigits u hu1 hu64 _ (Lib.tabIs_alloc htab _)).mono ?_;rintro e w' ⟨rfl,rfl⟩)
  go_at_call 174
  refine hfmt.mono ?_;rintro e w' ⟨rfl,k,v',dk,rfl,hF⟩;have hcv:(convert 55 9 (.slice (some ⟨w.heap.size,0,none⟩) (Lib.nDigits u) 24)).run Tryz.prog ((putRow (fun(b:UInt8)=>Value.int .u8 (b.toNat:Int)) (w.alloc (.cells Lib.zeros24 300)) w.heap.size 0 dk).drewN k)=.ok (.string ⟨(Lib.decDigits u).toArray⟩) ((putRow (fun(b:UInt8)=>Value.int .u8 (b.toNat:Int)) (w.alloc (.cells Lib.zeros24 300)) w.heap.size 0 dk).drewN k):=by
   have h:=run_convert_bytes_back (P:=Tryz.prog) ((putRow (fun(b:UInt8)=>Value.int .u8 (b.toNat:Int)) (w.alloc (.cells Lib.zeros24 300)) w.heap.size 0 dk).drewN k) 55 9 5 ⟨w.heap.size,0,none⟩ 24 (Lib.decDigits u) Tryz.underlying55 Tryz.underlying5 Tryz.underlying9 (fun j hj=>by
    rw[Lib.row_is_numeral hF j hj,Lib.add_plain,World.cell?_drewN];exact cell?_putRow (fun(b:UInt8)=>Value.int .u8 (b.toNat:Int)) _ w.heap.size 0 _ dk HH0.out (by rw[hF.size,dy]) j (by rw[hF.size];rw[Lib.decDigits_length] at hj;exact hj))
   rw[Lib.decDigits_length] at h;exact h
  go_wp2
  go_ret
  obtain⟨os,eo⟩:=Lib.fin_at w (.cells Lib.zeros24 300) dk k 0;refine⟨rfl,?_⟩;rw[eo];exact Lib.below_grow _ w (ab _) _ _
theorem ZM(u:Nat)(hu64:u<18446744073709551616)(w:World)(htab:Lib.TabIs Tryz.prog w "internal/strconv.uint64pow10" .u64 Lib.pow10Tab) :
 Calls Tryz.prog 163 #[.int .u64 u,.int .i64 10] w fun e w'=>e=.returned (.string ⟨(Lib.decDigits u).toArray⟩)∧Below w.heap.size w w':=by
 go_enter Tryz.func163,Tryz.ntmps163
 go_wp2_with (refine(gI u hu64 _ htab).mono ?_;rintro e w' ⟨rfl,hb⟩)
 go_ret
 simp_all
theorem LU(B b:Nat)(bs:List Value)(s:ByteArray)(w:World)(h:Lib.IsBuilderF 284 5 B b bs w)(a:bs.length+s.size≤140737488355328)(c:B≤w.heap.size) :
 Calls Tryz.prog 164 #[.pointer (some ⟨b,0,none⟩),.string s] w fun e w'=>e=.returned (.tuple #[.int .i64 s.size,.nilIface])∧(Lib.BuilderAtF 284 5 B b (.pointer (some ⟨b,0,none⟩)) (bs++Lib.strCells s) w'∧Below B w w'∧Lib.OthersKept 5 (some b) w w') :=
 Any.Builder_WriteString_k (P:=Tryz.prog) (ρ:=Tryz.lays105_ren) { Tryz.lays105 with } Tryz.Builder_Extra_105 B b bs s w h a c
end
section
open Go Go.Proofs Go.Shelf Go.RowKit
attribute [local go_sem] Oper.semAt_some
def MI{α:Type}(f:Nat→α)(k:Nat):List α:=(List.range k).map f
theorem LG{α:Type}(f:Nat→α)(k:Nat):MI f (k+1)=MI f k++[f k]:=by simp[MI,List.range_succ]
theorem pI{α:Type}(f:Nat→α)(k:Nat):(MI f k).length=k:=by simp[MI]
abbrev PL:Type:={ x:Nat×Nat // x.2<Num.B9 }
def KN(zs:List Nat)(j:Nat):PL:=⟨(zs.length-1-j,zs.getD (zs.length-1-j) 0%Num.B9),bc _ (by decide)⟩
theorem Md{n:Int}(h:-9223372036854775808≤n)(a:n<9223372036854775808):IntKind.i64.wrap n=n:=by rw[IntKind.wrap_i64];omega
def PZ(n₀ Bs:Nat)(W W':World):Prop:=Below n₀ W W'∧W'.heap[Bs]?=W.heap[Bs]?
theorem PZ.refl(a b:Nat)(W:World):PZ a b W W:=⟨Below.refl _ _,rfl⟩
theorem PZ.trans{a b:Nat}{A B C:World}(h:PZ a b A B)(k:PZ a b B C):PZ a b A C:=⟨h.1.trans k.1,k.2.trans h.2⟩
theorem lX(F:Fence)(n:Nat)(h8:F.fn 184)(hro:F.round=none)(hn:1≤n)(l Bs n₀ b off cap:Nat)(zs:List Nat)(hreach:zs.length*8≤140737488351232)(hlim:Num.gB zs)(hb:b<n₀)(J Jx:List PL→World→Prop)
 (hY:∀pre (x:PL) W,J pre W→pre.length<zs.length→YieldAt F (n-1) Tryz.prog l #[.int .i64 (x.1.1:Int),.int .u64 (x.1.2:Int)] W fun e W' =>
  (e=.returned (.bool true)∧J (pre++[x]) W'∧PZ n₀ Bs W W')∨(e=.returned (.bool false)∧Jx (pre++[x]) W'))
 (W:World) (hBs:W.cell? ⟨Bs,0,none⟩=some (.slice (some ⟨b,off,none⟩) zs.length cap)) (hc:∀j,j<zs.length→W.cell? ⟨b,off+j,none⟩=some (.int .u64 (zs.getD j 0:Int))) (h0:J [] W) :
 CallsIn F n Tryz.prog 184 #[.func (.yield l) #[] #[],.pointer (some ⟨Bs,0,none⟩)] W fun e W'=>(∃v,e=.returned v) ∧
  ((∃ys,ys=MI (KN zs) zs.length∧J ys W')∨(∃pre,(∃k,k≤zs.length∧pre=MI (KN zs) k)∧Jx pre W')):=by
 have hget:∀j,zs.getD j 0%Num.B9=zs.getD j 0:=fun j=>br (by rw[bS];exact Num.mQ hlim j)
 obtain⟨len,hlen⟩:∃len,zs.length=len:=⟨_,rfl⟩
 rw[hlen] at hreach hY hBs hc ⊢;have hw0:IntKind.i64.wrap ((len:Int)-1)=(len:Int)-1:=Md (by omega) (by omega);refine callsIn_of_wp Tryz.func184 rfl h8 ?_ hro;simp only[Tryz.ntmps184,List.size_toArray,List.length_cons,List.length_nil,Nat.reduceAdd,Nat.reduceSub,Array.replicate_succ,Array.replicate_zero,List.push_toArray,List.append_toArray,List.nil_append,List.cons_append]
 gi_wp2
 gi_loopw [3] (fun i wr=>∃k:Nat,k≤len∧i=.int .i64 ((len:Int)-1-k)∧J (MI (KN zs) k) wr∧PZ n₀ Bs W wr)
  (fun i _=>(intOf i+1).toNat)
 case atStart=>exact⟨0,an _,by simp,h0,PZ.refl _ _ _⟩
 case round =>
  obtain⟨k,hk,rfl,hJs,hnx⟩:=hrel;have hBx:wr.cell? ⟨Bs,0,none⟩=some (.slice (some ⟨b,off,none⟩) len cap):=(World.cell?_of_block (a:=⟨Bs,0,none⟩) hnx.2).trans hBs;by_cases hlt:k<len
  ·have hge:(0:Int)≤(len:Int)-1-k:=by omega
   have hcx:wr.cell? ⟨b,off+(len-1-k),none⟩=some (.int .u64 ((KN zs k).1.2:Int)):=by
    have:=(hnx.1.cell (p:=⟨b,off+(len-1-k),none⟩) hb).trans (hc (len-1-k) (by omega));rw[this];unfold KN;simp only[hlen,hget]
   obtain⟨fn,tmps,assign,body,hy,hR⟩:=hY _ (KN zs k) wr hJs (by rw[pI];exact hlt);have e1:((KN zs k).1.1:Int)=(len:Int)-1-k:=by show((zs.length-1-k:Nat):Int)=_;omega
   rw[e1] at hy;have hi1:((len:Int)-1-k)<len:=by omega
   have hi2:((len:Int)-1-k).toNat=len-1-k:=by omega
   have hw1:IntKind.i64.wrap ((len:Int)-1-k-1)=(len:Int)-1-((k+1:Nat):Int):=by rw[Md (by omega) (by omega)];omega
   gi_wp2
   refine hR.mono ?_;rintro e W3 (⟨rfl,hJ3,hk3⟩|⟨rfl,hJx3⟩)
   ·gi_wp2
    go_roundw
    case rel=>exact⟨k+1,by omega,by first|rfl|simp[hw1]|(congr 1),by rw[LG];exact hJ3,hnx.trans hk3⟩
    case measure=>simp[intOf];omega
   ·gi_wp2
    refine bodyPost_ret (results_none rfl _ _ _) rfl ?_;exact⟨⟨_,rfl⟩,.inr ⟨_,⟨k+1,by omega,(LG _ _).symm⟩,hJx3⟩⟩
  ·obtain rfl:k=len:=by omega
   have hneg:¬ ((0:Int)≤(k:Int)-1-k):=by omega
   gi_wp2
   go_end0
   exact⟨⟨_,rfl⟩,by first|exact .inl hJs|exact .inl ⟨_,rfl,hJs⟩⟩
theorem qo(F:Fence)(n:Nat)(h6:F.fn 162)(hro:F.round=none)(a:Option Addr)(len cap:Nat)(w:World) :
 CallsIn F n Tryz.prog 162 #[.slice a len cap] w fun e w'=>e=.returned (.func (.func 184) #[] #[.pointer (some ⟨w.heap.size,0,none⟩)])∧w'=w.alloc (.cells #[.slice a len cap] 202):=by
 refine callsIn_of_wp Tryz.func162 rfl h6 ?_ hro
 gi_wp2
 go_ret
 simp
theorem zB(F:Fence)(n:Nat)(z:F.fn 184)(g:F.round=none)(q:1≤n)(d a b off cap:Nat)(zs:List Nat)(c:zs.length*8≤140737488351232)(e:Num.gB zs)(u:b<a)(w:World)(m:d<w.heap.size)(h:a≤w.heap.size)
 (i:w.cell? ⟨d,0,none⟩=some (.slice (some ⟨b,off,none⟩) zs.length cap)) (s:∀j,j<zs.length→w.cell? ⟨b,off+j,none⟩=some (.int .u64 (zs.getD j 0:Int))) :
 SeqStopsK F n Tryz.prog 184 #[.pointer (some ⟨d,0,none⟩)] (fun x:PL=>#[Value.int .i64 (x.1.1:Int),Value.int .u64 (x.1.2:Int)]) (PZ a d) (fun ys=>ys=MI (KN zs) zs.length)
  (fun f=>∃k,k≤zs.length∧f=MI (KN zs) k) zs.length w:=fun l J B W o _ _ y A =>
 lX F n z g q l d a b off cap zs c e u J B y W ((o.cell (p:=⟨d,0,none⟩) m).trans i) (fun j r=>(o.cell (p:=⟨b,off+j,none⟩) (by grind)).trans (s j r)) A
end
section
open Go Go.Proofs Go.Shelf Go.RowKit
attribute [local go_sem] Oper.semAt_some
def Qn(len:Nat)(x:PL):List UInt8:=if(x.1.1:Int)<(len:Int)-1 then Lib.repeatL [48] (9-Lib.nDigits x.1.2)++Lib.decDigits x.1.2 else Lib.decDigits x.1.2
def Ud(len:Nat)(pre:List PL):List UInt8:=pre.flatMap (Qn len)
theorem NQ(len:Nat)(a:List PL)(x:PL):Ud len (a++[x])=Ud len a++Qn len x:=by simp[Ud]
theorem Yy(n:Nat):(Lib.repeatL [48] n).length=n:=by
 induction n with
 |zero=>rfl
 |succ n a=>simp_all [Lib.repeatL]
theorem xM(len:Nat)(x:PL):(Qn len x).length≤9:=by
 have:=Num.QK x.2;unfold Qn;split
 ·rw[aD,Yy,Lib.decDigits_length];omega
 ·rw[Lib.decDigits_length];omega
theorem b2r(len:Nat)(a:List PL):(Ud len a).length≤9*a.length:=by
 induction a with
 |nil=>simp[Ud]
 |cons x a b =>
  have:=xM len x;simp only[Ud,List.flatMap_cons,List.length_append,List.length_cons] at b ⊢;omega
def Ug(N:Nat)(sv:Value)(bs:List UInt8)(W:World):Prop :=
 Lib.IsBuilderF 284 5 (N+1) (N+1) (Lib.byteCells bs) W∧W.heap[N]?=some (.cells #[sv] 202 (0,0))∧W.heap[N+2]?=some (.cells #[sv] 202 (0,0))
theorem Lu{T e:TypeId}{B b:Nat}{p:Value}{bs:List Value}{w w':World}(h:Lib.BuilderAtF T e B b p bs w)(j:∀(k:Nat) (o:Obj),w.heap[k]?=some o→o.isCells=true→w'.heap[k]?=some o):Lib.BuilderAtF T e B b p bs w':=by
 obtain⟨q,v,n,a,c⟩:=h;refine⟨q,v,j _ _ n rfl,⟨a.1,?_⟩,c⟩;rcases a.2 with u|⟨g,i,f,s,l,d,m,r⟩
 ·grind
 ·exact .inr ⟨g,i,f,s,l,d,j _ _ m rfl,r⟩
theorem Mc{T e:TypeId}{B b:Nat}{bs:List Value}{w w':World}(h:Lib.IsBuilderF T e B b bs w)(a:∀(k:Nat) (o:Obj),w.heap[k]?=some o→o.isCells=true→w'.heap[k]?=some o):Lib.IsBuilderF T e B b bs w' :=
 h.elim (fun x=>.inl (Lu x a)) (fun x=>.inr (Lu x a))
theorem zF{β:Type}(N:Nat)(d:Value)(f:β→List UInt8):Own (fun(pre:β) W=>Ug N d (f pre) W):=fun s W j e a h g=>by
 have b:∀(k:Nat) (o:Obj),W.heap[k]?=some o→o.isCells=true→j.heap[k]?=some o:=fun k o c i=>(grownBy_keeps_cells h g c i).trans c
 exact⟨Mc a.1 b,b _ _ a.2.1 rfl,b _ _ a.2.2 rfl⟩
theorem QI{W a:World}(h:Below W.heap.size W a)(B:Nat):KeepsFrom B W a:=⟨h.size,fun k o _ b _=>(h.block k (by
 grind)).trans b⟩
theorem lt_of_heap{W:World}{k:Nat}{o:Obj}(h:W.heap[k]?=some o):k<W.heap.size :=by grind
theorem Vu{N:Nat}{c:Value}{bs:List UInt8}{W b:World}(h:Ug N c bs W)(e:Below W.heap.size W b):Ug N c bs b:=by
 have a:∀(k:Nat) (o:Obj),W.heap[k]?=some o→o.isCells=true→b.heap[k]?=some o:=fun k o d _=>(e.block k (lt_of_heap d)).trans d
 exact⟨Mc h.1 a,a _ _ h.2.1 rfl,a _ _ h.2.2 rfl⟩
theorem QD{a b:Nat}{W c:World}(h:Below W.heap.size W c)(d:a≤W.heap.size)(e:b<W.heap.size):PZ a b W c:=⟨h.mono d,h.block b e⟩
theorem Pz{N:Nat}{b:Value}{bs:List UInt8}{s:ByteArray}{W a:World}(h:Ug N b bs W)(m:Lib.BuilderAtF 284 5 (N+1) (N+1) (.pointer (some ⟨N+1,0,none⟩)) (Lib.byteCells bs++Lib.strCells s) a)(d:Below (N+1) W a)(i:Lib.OthersKept 5 (some (N+1)) W a) :
 Ug N b (bs++s.data.toList) a∧KeepsFrom (N+3) W a∧PZ N (N+2) W a:=by
 have f:a.heap[N+2]?=some (.cells #[b] 202 (0,0)):=i _ _ h.2.2 (by simp) (fun c l e=>by
  grind)
 refine⟨⟨.inr ?_,?_,f⟩,⟨d.size,fun k o _ j g=>i k o j (fun e=>?_) (fun c l e=>by rw[e] at g;cases g)⟩,⟨d.mono (by omega),by rw[f,h.2.2]⟩⟩
 ·have e:Lib.byteCells bs++Lib.strCells s=Lib.byteCells (bs++s.data.toList):=by simp[Lib.byteCells,Lib.strCells]
  grind
 ·rw[d.block N (by omega)];exact h.2.1
 grind
theorem tab_below{P:Program}{w w':World}{a:String}{k:IntKind}{zs:List Int}(h:Lib.TabIs P w a k zs)(b:Below w.heap.size w w'):Lib.TabIs P w' a k zs:=(Lib.tabBelow_of_tabIs h) w' b
theorem zk(n:Nat):Lib.repeatL [48] n=List.replicate n 48:=by
 induction n with
 |zero=>rfl
 |succ n a=>simp[Lib.repeatL,a,List.replicate_succ]
theorem aN(zs:List Nat)(b:Num.gB zs)(j:Nat)(e:j<zs.length):Qn zs.length (KN zs j)=if 0<j then Num.D 9 (zs.getD (zs.length-1-j) 0) else Lib.decDigits (zs.getD (zs.length-1-j) 0):=by
 have a:zs.getD (zs.length-1-j) 0<Num.B9:=by exact Num.mQ b _
 have c:(KN zs j).1.2=zs.getD (zs.length-1-j) 0:=br a;have d:(KN zs j).1.1=zs.length-1-j:=rfl;unfold Qn;rw[d,c];by_cases h:0<j
 ·rw[if_pos (by omega),if_pos h,zk,Num.pad 9 _ (Num.QK a)]
 grind
theorem qL:∀(zs:List Nat),Num.gB zs→zs≠[]→Ud zs.length (MI (KN zs) zs.length)=Num.PS zs
 |[],_,h=>absurd rfl h
 |a::t,hl,_=>by
  have d:Num.gB t:=fun x g=>hl x (by grind)
  have c:∀k,k≤t.length→Ud (a::t).length (MI (KN (a::t)) k)=Ud t.length (MI (KN t) k):=by
   intro k
   induction k with
   |zero=>intro _;rfl
   |succ k e =>
    intro i;rw[LG,LG,NQ,NQ,e (by omega),aN _ hl k (by grind),aN t d k (by omega)];grind
  show Ud (a::t).length (MI (KN (a::t)) (t.length+1))=_;rw[LG,NQ,c t.length (ab _),aN _ hl t.length (by simp)];have f:(a::t).length-1-t.length=0:=by simp
  rw[f,List.getD_cons_zero];cases t with
  |nil=>rfl
  |cons b t =>
   rw[qL (b::t) d (by simp),if_pos (by simp)];rfl
theorem b5b(b off cap:Nat)(zs:List Nat)(hlim:Num.gB zs)(h0:zs≠[])(hreach:zs.length*9≤140737488351232)(w:World)(hb:b<w.heap.size)(hc:∀j,j<zs.length→w.cell? ⟨b,off+j,none⟩=some (.int .u64 (zs.getD j 0:Int)))
 (htab:Lib.TabIs Tryz.prog w "internal/strconv.uint64pow10" .u64 Lib.pow10Tab) :
 Calls Tryz.prog 130 #[.slice (some ⟨b,off,none⟩) zs.length cap] w fun e w'=>e=.returned (.string ⟨(Num.PS zs).toArray⟩)∧Below w.heap.size w w':=by
 have hpos:0<zs.length:=cX.2 h0;have hne0:¬ ((zs.length:Int)=0):=by omega
 have hall:=qL zs hlim h0;obtain⟨len,hlen⟩:∃len,zs.length=len:=⟨_,rfl⟩
 rw[hlen] at hne0 hall;refine(callsIn_wide (n:=6)).1 ?_;refine callsIn_of_wp_marks Tryz.func130 rfl trivial ?_ rfl;simp only[Tryz.ntmps130,List.size_toArray,List.length_cons,List.length_nil,Nat.reduceAdd,Nat.reduceSub,Array.replicate_succ,Array.replicate_zero,List.push_toArray,List.append_toArray,List.nil_append,List.cons_append];rw[hlen]
 gi_wp2_with (refine⟨trivial,?_⟩;gi_at_call 162;refine(qo Fence.wide _ trivial rfl _ _ _ _).mono ?_;rintro e w' ⟨rfl,rfl⟩)
 obtain⟨W0,hW0⟩:∃W0,((w.alloc (.cells #[.slice (some ⟨b,off,none⟩) len cap] 202)).alloc (.cells #[.pointer none,.slice none 0 0] 284)).alloc (.cells #[.slice (some ⟨b,off,none⟩) len cap] 202)=W0:=⟨_,rfl⟩
 have hB0:Below w.heap.size w W0:=by
  rw[← hW0];exact(((Below.refl _ w).alloc (ab _) _).alloc (by simp) _).alloc (by simp;omega) _
 have hs0:W0.heap.size=w.heap.size+3:=by rw[← hW0];simp
 have g0:W0.heap[w.heap.size]?=some (.cells #[.slice (some ⟨b,off,none⟩) len cap] 202 (0,0)):=by
  rw[← hW0];exact(Below.heap_alloc _ _ _ (by simp;omega)).trans ((Below.heap_alloc _ _ _ (by simp)).trans (World.alloc_heap_new w _))
 have g1:W0.heap[w.heap.size+1]?=some (.cells #[.pointer none,.slice none 0 0] 284 (0,0)):=by
  rw[← hW0];exact(Below.heap_alloc _ _ _ (by simp)).trans (by have:=World.alloc_heap_new (w.alloc (.cells #[.slice (some ⟨b,off,none⟩) len cap] 202)) (.cells #[.pointer none,.slice none 0 0] 284);rwa[World.size_alloc] at this)
 have g2:W0.heap[w.heap.size+2]?=some (.cells #[.slice (some ⟨b,off,none⟩) len cap] 202 (0,0)):=by
  rw[← hW0];have:=World.alloc_heap_new ((w.alloc (.cells #[.slice (some ⟨b,off,none⟩) len cap] 202)).alloc (.cells #[.pointer none,.slice none 0 0] 284)) (.cells #[.slice (some ⟨b,off,none⟩) len cap] 202)
  rwa[World.size_alloc,World.size_alloc] at this
 rw[hW0];have hI0:Ug w.heap.size (.slice (some ⟨b,off,none⟩) len cap) (Ud len []) W0 :=
  ⟨.inl ⟨ab _,_,g1,⟨rfl,.inl ⟨rfl,rfl⟩⟩,by simp[Value.ownBlock]⟩,g0,g2⟩
 have hcB:W0.cell? ⟨w.heap.size+2,0,none⟩=some (.slice (some ⟨b,off,none⟩) zs.length cap):=by rw[hlen];simp[World.cell?,g2]
 refine wpIn_rangeFunc_ownG rfl (by omega) (gf:=184) (lb:=#[.pointer (some ⟨w.heap.size+1+1,0,none⟩)]) rfl trivial (enters_of Tryz.func184 (by kernel_rfl) rfl)
  (zB Fence.wide _ trivial rfl (by omega) (w.heap.size+2) w.heap.size b off cap zs (by omega) hlim hb W0 (by omega) (by omega) hcB (fun j hj=>(hB0.cell (p:=⟨b,off+j,none⟩) hb).trans (hc j hj)))
  (fun h k=>h.trans k) (fun W l o o' hl _ _ _=>⟨⟨rfl,rfl,rfl,by simp,fun k hk=>World.putObj_heap_other (by omega)⟩,World.putObj_heap_other (by omega)⟩) (Below.refl _ _) (fun _=>rfl)
  (fun pre W=>Ug w.heap.size (.slice (some ⟨b,off,none⟩) len cap) (Ud len pre) W∧Below w.heap.size w W)
  (fun _ _ _=>False)
  (OwnFrom.and (Own.from (zF w.heap.size _ (fun pre=>Ud len pre)) _) (ownFrom_below (ab _) (by omega)))
  (fun _ _ _ _ _ hs _ _=>hs)
  ⟨hI0,hB0⟩
  (fun x=>{ tmps:=#[.slice (some ⟨b,off,none⟩) len cap,.pointer (some ⟨w.heap.size,0,none⟩),.string ⟨#[]⟩,.pointer (some ⟨w.heap.size+1,0,none⟩),.int .i64 (x.1.1:Int),.int .u64 (x.1.2:Int),undef,.slice (some ⟨b,off,none⟩) len cap,.int .i64 len,.bool false,
   .slice (some ⟨b,off,none⟩) len cap,.func (.func 184) #[] #[.pointer (some ⟨w.heap.size+1+1,0,none⟩)],.int .i64 (x.1.1:Int),.int .u64 (x.1.2:Int),undef,undef,undef,undef,undef,undef,undef,undef,undef,undef,undef,undef,undef,undef,undef],defers:=[] }) ?assign ?body ?done ?stop
 case assign =>
  intro l x W K hK
  gi_wp2
  exact hK
 case body =>
  rintro l pre x W ⟨hT,hB⟩ hlt;have c9t:x.1.2<18446744073709551616:=Nat.lt_trans x.2 (by decide);have hd9:=Num.QK x.2;have hsz:(ByteArray.mk (Lib.decDigits x.1.2).toArray).size=Lib.nDigits x.1.2:=by simp[ByteArray.size,Lib.decDigits_length]
  have hwl:IntKind.i64.wrap ((len:Int)-1)=(len:Int)-1:=Md (by omega) (by omega);have hw9:IntKind.i64.wrap (9-(Lib.nDigits x.1.2:Int))=((9-Lib.nDigits x.1.2:Nat):Int):=by rw[Md (by omega) (by omega)];omega
  have d0o:Lib.TabIs Tryz.prog W "internal/strconv.uint64pow10" .u64 Lib.pow10Tab:=tab_below htab hB;have hal:=b2r len pre;have hcl:(Lib.byteCells (Ud len pre)).length≤9*pre.length:=by rw [Lib.byteCells_length];exact hal
  gi_wp2_with (refine⟨trivial,?_⟩;gi_at_call 163;refine(CallsIn.inRound l (callsIn_wide.2 (ZM x.1.2 c9t _ d0o))).mono ?_;rintro e W1 ⟨rfl,hb1⟩;have hT1:=Vu hT hb1;have c1:W1.cell? ⟨w.heap.size,0,none⟩=some (.slice (some ⟨b,off,none⟩) len cap):=by simp[World.cell?,hT1.2.1])
  ·have hx:(x.1.1:Int)<(len:Int)-1:=by assumption
   refine⟨trivial,(CallsIn.inRound l (callsIn_wide.2 (Tryz.strings_Repeat ⟨#[48]⟩ (9-Lib.nDigits x.1.2) W1 (by omega) (by
    have e1:(ByteArray.mk #[48]).size=1:=rfl;rw[e1];omega)))).mono ?_⟩
   rintro e W2 ⟨rfl,hb2⟩;have hT2:=Vu hT1 hb2;have l2:=lt_of_heap hT2.2.2;have hr1:(ByteArray.mk (Lib.repeatL [48] (9-Lib.nDigits x.1.2)).toArray).size=9-Lib.nDigits x.1.2:=by simp[ByteArray.size,Yy]
   gi_wp2_with fail
   refine⟨trivial,(CallsIn.inRound l (callsIn_wide.2 (LU (w.heap.size+1) (w.heap.size+1) _ ⟨(Lib.repeatL [48] (9-Lib.nDigits x.1.2)).toArray⟩ W2 hT2.1 (by rw[hr1];omega) (by omega)))).mono ?_⟩;rintro e W3 ⟨rfl,h31,h32,h33⟩;obtain⟨hT3,kf3,kb3⟩:=Pz hT2 h31 h32 h33;have l3:=lt_of_heap hT3.2.2;have hl3:(Lib.byteCells (Ud len pre++(ByteArray.mk (Lib.repeatL [48] (9-Lib.nDigits x.1.2)).toArray).data.toList)).length≤9*pre.length+(9-Lib.nDigits x.1.2):=by
    rw[Lib.byteCells_length,aD];have:(ByteArray.mk (Lib.repeatL [48] (9-Lib.nDigits x.1.2)).toArray).data.toList.length=9-Lib.nDigits x.1.2:=hr1;omega
   gi_wp2_with fail
   refine⟨trivial,(CallsIn.inRound l (callsIn_wide.2 (LU (w.heap.size+1) (w.heap.size+1) _ ⟨(Lib.decDigits x.1.2).toArray⟩ W3 hT3.1 (by rw[hsz];omega) (by omega)))).mono ?_⟩;rintro e W4 ⟨rfl,h41,h42,h43⟩;obtain⟨hT4,kf4,kb4⟩:=Pz hT3 h41 h42 h43
   gi_wp2
   have hpc:Qn len x=Lib.repeatL [48] (9-Lib.nDigits x.1.2)++Lib.decDigits x.1.2:=if_pos hx;have hbs:=hB.size;have d4m:=hb1.size;refine⟨by rw[hs0];exact(QI hb1 _).trans ((QI hb2 _).trans (kf3.trans kf4)),(QD hb1 hbs (lt_of_heap hT.2.2)).trans ((QD hb2 (by omega) (lt_of_heap hT1.2.2)).trans (kb3.trans kb4)),?_,
    hB.trans ((hb1.mono hbs).trans ((hb2.mono (by omega)).trans (kb3.1.trans kb4.1)))⟩
   rw[NQ,hpc,← cq];simpa using hT4
  ·have hx:¬ (x.1.1:Int)<(len:Int)-1:=by omega
   have l1:=lt_of_heap hT1.2.2;refine⟨trivial,(CallsIn.inRound l (callsIn_wide.2 (LU (w.heap.size+1) (w.heap.size+1) _ ⟨(Lib.decDigits x.1.2).toArray⟩ W1 hT1.1 (by rw[hsz];omega) (by omega)))).mono ?_⟩;rintro e W4 ⟨rfl,h41,h42,h43⟩;obtain⟨hT4,kf4,kb4⟩:=Pz hT1 h41 h42 h43
   gi_wp2
   have hpc:Qn len x=Lib.decDigits x.1.2:=if_neg (by omega);have hbs:=hB.size;refine⟨by rw[hs0];exact(QI hb1 _).trans kf4,(QD hb1 hbs (lt_of_heap hT.2.2)).trans kb4,?_,hB.trans ((hb1.mono hbs).trans kb4.1)⟩;rw[NQ,hpc];simpa using hT4
 case done =>
  rintro D ys W hD rfl ⟨hT,hB⟩ hK;have l1:=lt_of_heap hT.2.2;rw[hlen,hall] at hT
  gi_wp2_with fail
  refine⟨trivial,(callsIn_wide.2 (Tryz.Builder_String_any_k (w.heap.size+1) (w.heap.size+1) (Num.PS zs) W hT.1 (by omega))).mono ?_⟩;rintro e W1 ⟨rfl,h1,h2,h3⟩
  gi_wp2
  have hK1:W1.heap[D]?=some (.deferred (some [])):=h3 D _ hK (by simp;omega) (fun c fz e=>by cases e);refine⟨by simp,.inl ⟨_,_,rfl,run_takeDeferred hK1,?_⟩⟩;exact⟨_,results_tmp rfl _ _ _,rfl,(hB.trans (h2.mono (by omega))).trans (belowK_b (w:=w) (ab _) W1 D _ _ (by omega) hK1 rfl rfl)⟩
 case stop =>
  rintro D c pre W _ _ h _;exact h.elim
end
open Go Go.Am Go.Vm
def a3e:gy:=fun xs _=>match xs with
 |[.int .i64 n]=>if -9223372036854775808≤n∧n≤9223372036854775807 then some (.string (bs (Lib.itoa n))) else none
 |_=>none
def gu:gy:=fun xs _=>match xs with
 |[.string a,.string b]=>some (.int .i64 (Lib.compareBytes a.data.toList b.data.toList))
 |_=>none
def Xe:List Value→Option (List Nat)
 |[]=>some []
 | .int .u64 n::l=>if 0≤n∧n<1000000000 then(Xe l).map (n.toNat::·) else none
 |_::_=>none
def textF:gy:=fun xs m=>match xs with
 |[.slice a n g]=>match BM m 1 n (.slice a n g) with
  |some l=>match Xe l with
   |some zs=>if n*9≤140737488351232 then some (.string (bs (Num.PS zs))) else none
   |none=>none
  |none=>none
 |_=>none
theorem dX:∀{l:List Value} {zs:List Nat},Xe l=some zs→l=zs.map (fun(n:Nat)=>Value.int .u64 (n:Int))∧Num.gB zs
 |[],_,h=>by cases h;exact⟨rfl,fun a ha=>by grind⟩
 |v::l,zs,h=>by
  unfold Xe at h;split at h
  ·grind
  ·rename_i n f c
   cases c;split at h
   ·rename_i g
    rw[ae] at h;obtain⟨b,e,rfl⟩:=h;obtain⟨i,d⟩:=dX e;refine⟨?_,fun a ha=>?_⟩
    ·grind
    ·rcases bo.1 ha with rfl|ha
     ·grind
     ·exact d a ha
   grind
  grind
theorem XR:∀{zs:List Nat},Num.gB zs→Xe (zs.map fun(n:Nat)=>Value.int .u64 (n:Int))=some zs
 |[],_=>rfl
 |n::zs,h=>by
  have b:n<1000000000:=h n (by simp);simp only[List.map_cons,Xe];rw[if_pos ⟨by omega,by omega⟩,XR (fun a c=>h a (by grind))];simp
theorem Zn{P:Program}{F:Nat}{laid:List (String×DataW Unit)}{ι:BG}{m:Mem}{w:World}(p:DF P (Az P F laid) ι m w)(x:∀k∈Az P F laid,m.get k=(AZ P F laid).get k){a:String}{g:Nat}{e:TypeId}{k:IntKind}{zs:List Int}
 (M:P.globalNamed a=some g) (l:Ib P F laid g=some (e,zs.map fun z=>Value.int k z)) (f:g<P.globals.size):Lib.TabIs P w a k zs:=by
 have q:g∈Az P F laid:=by
  simp only[Az,List.mem_filter,List.mem_range];grind
 obtain⟨K,C,B,⟨A,N⟩,R,O⟩:=p.glob g q;have d:m.get g=.cells (zs.map fun z=>Value.int k z) e 0 true:=by rw[x g q,IW f,l]
 obtain⟨I,S,T,b,r,_,c,_⟩:=Hg p C d;rw[B] at b;have y:I=(zs.map fun z=>Value.int k z).toArray:=by
  apply Array.ext
  ·grind
  ·intro i j h
   have s:i<(zs.map fun z=>Value.int k z).length:=by simpa using h
   obtain⟨J,o,n⟩:=c i s;rw[A,cz,Array.getElem?_eq_getElem j] at o;cases o;rw[getD_lt s] at n;have u:plain ((zs.map fun z=>Value.int k z)[i])=true:=by rw[List.getElem_map];rfl
   rw[n.BQ u];simp
 unfold Lib.TabIs World.var?;grind
theorem BA.one{ι:BG}{g:Nat→Nat}{v:Value}{ys:Array Value}(h:BA ι g [v] ys.toList):∃v',ys=#[v']∧Aw ι g v v':=by
 obtain⟨v',a,e,c,b⟩:=h.H6;have:a=[]:=bu b.1.symm;grind
theorem BA.two{ι:BG}{g:Nat→Nat}{u v:Value}{ys:Array Value}(h:BA ι g [u,v] ys.toList):∃a v',ys=#[a,v']∧Aw ι g u a∧Aw ι g v v':=by
 obtain⟨a,f,e,j,d⟩:=h.H6;obtain⟨v',b,k,i,c⟩:=d.H6;have:b=[]:=bu c.1.symm;grind
theorem a0b{w:World}{k:Nat}{os:Array Obj}:Go.RowKit.Below w.heap.size w (Go.Sort.grow (w.drewN k) os):=Lib.below_grow _ w (ab _) k os
theorem a3l(a:Option Addr)(cap:Nat)(w:World):Calls Tryz.prog 130 #[.slice a 0 cap] w fun e w'=>e=.returned (.string ⟨#[48]⟩)∧Go.RowKit.Below w.heap.size w w':=by
 go_wp2
 go_ret
 exact⟨rfl,(Go.RowKit.Below.refl _ w).alloc (ab _) _⟩
section
variable {F:Nat}{laid:List (String×DataW Unit)}
structure zy(F:Nat)(laid:List (String×DataW Unit)):Prop where
 tab:∃ g e,Tryz.prog.globalNamed "internal/strconv.uint64pow10"=some g∧Ib Tryz.prog F laid g=some (e,Lib.pow10Tab.map fun z=>Value.int .u64 z)∧g<Tryz.prog.globals.size
theorem zM(l:zy F laid)(r:Am.Enters Tryz.prog 52):VA Tryz.prog (Az Tryz.prog F laid) (AZ Tryz.prog F laid) 52 a3e:=by
 refine⟨fun _ _ _=>rfl,r,fun ι m w u s v o q p h=>?_⟩;obtain⟨g,e,i,f,d⟩:=l.tab;have a:=Zn o q i f d;unfold a3e at h;split at h
 ·rename_i n
  split at h
  ·rename_i b
   cases h;obtain⟨c,rfl,j⟩:=BA.one p;have:c=.int .i64 n:=by cases j;rfl
   subst this;refine⟨rfl,(Tryz.strconv_Itoa n b.1 b.2 w a).mono ?_⟩;rintro e w' ⟨rfl,k,x,rfl⟩;exact⟨rfl,a0b⟩
  grind
 grind
theorem iI(g:Am.Enters Tryz.prog 55):VA Tryz.prog (Az Tryz.prog F laid) (AZ Tryz.prog F laid) 55 gu:=by
 refine⟨fun _ _ _=>rfl,g,fun ι m w o n v p q f h=>?_⟩;unfold gu at h;split at h
 ·rename_i a b
  cases h;obtain⟨d,c,rfl,j,i⟩:=BA.two f;have l:d=.string a:=by cases j;rfl
  have k:c=.string b:=by cases i;rfl
  subst l;subst k;refine⟨rfl,(Tryz.strings_Compare a b w).mono ?_⟩;rintro e w' ⟨rfl,rfl⟩;exact⟨rfl,Go.RowKit.Below.refl _ _⟩
 grind
theorem yN(s:zy F laid)(U:Am.Enters Tryz.prog 130):VA Tryz.prog (Az Tryz.prog F laid) (AZ Tryz.prog F laid) 130 textF:=by
 refine⟨fun _ _ _=>rfl,U,fun ι m w xs Z v C T S h=>?_⟩;obtain⟨g,e,O,N,M⟩:=s.tab;have o:=Zn C T O N M;unfold textF at h;split at h
 ·rename_i a n gen
  split at h
  ·rename_i l y
   split at h
   ·rename_i i u
    split at h
    ·rename_i V
     cases h;obtain⟨v',rfl,R⟩:=BA.one S;obtain⟨p,q⟩:=dX u;obtain⟨Y,r,rfl,I,x,f⟩:=Oe C R rfl (fun b e=>by cases e) y;have c:i.length=n:=by grind
     refine⟨rfl,?_⟩;rcases bp n with h0|h0
     ·subst h0
      have:i=[]:=bu c;subst this;have X:bs (Num.PS [])=⟨#[48]⟩:=by
       show bs (Lib.decDigits 0)=_;rw[Lib.decDigits_one (by decide)];rfl
      exact(a3l Y r w).mono fun e w' ⟨h1,h2⟩=>⟨by rw[X];exact h1,h2⟩
     ·rcases x with⟨_,h1⟩|⟨A,h1|h1⟩
      ·omega
      ·obtain⟨rfl,d⟩:=h1
       obtain⟨b,k,B⟩:=A;subst d;have K:∀j,j<i.length→w.cell? ⟨b,k+j,none⟩=some (.int .u64 (i.getD j 0:Int)):=fun j J=>by
        have:=f _ rfl j (.int .u64 (i.getD j 0:Int)) (by rw[p,aw,ai J];simp[List.getD,J]) rfl
        rwa[addr_add] at this
       have z:b<w.heap.size:=by
        have:=K 0 (by omega);unfold World.cell? at this;rcases aq b w.heap.size with h|h
        ·exact h
        ·simp[Array.getElem?_eq_none h] at this
       have s:=b5b b k r i q (fun e=>by rw[e] at c;simp at c;omega) (by rw[c];exact V) w z K o;rw[c] at s;exact s
      ·omega
    grind
   grind
  grind
 grind
end
theorem Yk{m:Mem}{F:Nat→Prop}:∀{l:List Nat} {vs:List Value},Dt m F (cells l) vs→vs=l.map fun(n:Nat)=>Value.int .u64 (n:Int)
 |[],_,.nil=>rfl
 |c::l,_,.cons h t=>by
  cases h;rw[Yk t];rfl
theorem a6x{m:Mem}{F:Nat→Prop}{e:TypeId}{l:List Nat}{xs:List Value}(f:Num.gB l)(o:l.length<1000000000)(h:Dt m F [.lst e (cells l) l.length] xs):∃v,textF xs m=some v∧RF m F (.str (bs (Num.PS l))) v:=by
 cases h with
 |cons h t =>
  cases t;obtain⟨k,j,i,p⟩:=RF.cellsOf (sz:=1) h (by rw[C9];rfl);refine⟨.string (bs (Num.PS l)),?_,.str _⟩;have b:=Yk i;subst b;have d:∀{v:Value},RF m F (.lst e (cells l) l.length) v→∃a g,v=Value.slice a l.length g:=by
   intro v c;generalize l.length=n at c;generalize cells l=cs at c;cases c with
   |nil=>simp
   |room=>simp
   |lst=>simp
  obtain⟨a,g,rfl⟩:=d h;unfold textF;simp only[j,XR f];grind
end Go.Proofs.YtnjkoebfgcbbdaaGreatDoor
namespace Go.Vm
section
open Go.Am
section
variable {P:Program}
noncomputable def Ei(P:Program)(F:Nat)(laid:List (String×DataW Unit))(O:BP):Env:=⟨P,O,Az P F laid,gam P F laid⟩
theorem aJ{O:BP}{F:Nat}{laid:List (String×DataW Unit)}{g:List (FuncId×gy)}{f:FuncId}{Fn:gy}{xs:List FV}{r:FV}(o:O f=pJ (Az P F laid) (AZ P F laid) g f)(n:g.lookup f=some Fn)
 (h:∀m a Bh,Dt m a xs Bh→∃v,Fn Bh m=some v∧RF m a r v):Ak (Ei P F laid O) f xs (.p r):=by
 intro m a σ Bh i s;have d:Dt m a xs Bh:=Dt.X7 s;obtain⟨v,x,q⟩:=h m a Bh d;have u:∀k∈Az P F laid,m.get k=(AZ P F laid).get k:=fun k j=>by
  obtain⟨b,e,l,c⟩:=Oz j;have:=(i.gl k l e (by simp only[Ei,gam,if_pos b,c,Option.map_some])).2.1;rw[this,IW b,c]
 refine GH.dI (F:=fun Bh m=>open Classical in if ∀k∈Az P F laid,m.get k=(AZ P F laid).get k then(Fn Bh m).map fun v=>(v,m) else none) (m':=m) (v:=v) (by simp only[Ei,o,pJ,n]) ?_
  ⟨_,_,_,a,σ,⟨rfl,rfl,rfl⟩,i,.p q,Step.refl _ _ _ _ _⟩
 grind
variable {H:Type}{enc:TypeId×Value→H}{W:World}{held:Bool}
def c3q(e:TypeId)(xs:List Value)(m:Mem):Option (Value×Mem):=match xs with
 |[.slice none 0 0,.int .i64 n]=>if 0<n∧n≤1000000 then some (AQ m e [] 0) else none
 |_=>none
def d2b(fg:FuncId)(e:TypeId)(O:BP):BP:=fun f=>if f=fg then some (c3q e) else O f
end
end
section
open Go.Am
section
variable {P:Program}
noncomputable def knO(G:List Nat)(M0:Mem)(fs:List FuncId)(O:BP):BP:=fun f=>if f∈fs then b1w G M0 fs f else O f
end
end
section
open Go.Am
section
variable {P:Program}{G:List Nat}
theorem a6v{ι:BG}{m:Mem}{w w':World}{x:II}{obj:Obj}{ib:IB}(j:DF P G ι m w)(a:Go.RowKit.Below w.heap.size w w')(R:w.heap.size≤ib.blk)(z:w'.heap[ib.blk]?=some obj)(C:Vk P ι m.gen ib x (some obj))
 (O:x.ro=false):∃g,Ext ι m w g (m.alloc x) w'∧DF P G g (m.alloc x) w'∧g m.size=some ib:=by
 have hget:∀b,b<m.size→(m.alloc x).get b=m.get b:=fun b a=>by rw[Mem.Bj,if_neg (by omega)]
 have r:∀b,b<m.size→(m.alloc x).gen b=m.gen b:=fun b a=>CS (hget b a)
 have n:∀b,b<m.size→(m.alloc x).ro b=m.ro b:=fun b a=>Fp (hget b a)
 have l:∀c,c<w.heap.size→w'.heap[c]?=w.heap[c]?:=fun c u=>a.block c u
 have I:=a.size;have A:ib.blk<w'.heap.size:=by
  grind
 let g:BG:=fun b=>if b=m.size then some ib else ι b
 have p:Le ι m.gen g (m.alloc x).gen:=fun b d a=>by
  have o:=(j.dom b d a).1;grind
 refine⟨g,⟨by simp[Mem.alloc],ab _,fun b a _=>hget b a,fun b a _=>hget b a,fun b a=>n b a,p,fun b d a=>?_,fun b d a=>?_,by omega,
  fun c u _=>l c u,a.tape,a.os,a.output⟩,⟨fun b d a=>?_,fun b d a=>?_,fun b q d f a i K=>?_,fun k J=>?_⟩,if_pos rfl⟩
 ·grind
 ·grind
 ·change (if b=m.size then some ib else ι b)=some d at a
  split at a
  ·cases a;exact⟨by simp[Mem.alloc];omega,by omega⟩
  ·have:=j.dom b d a
   exact⟨by simp only[Mem.alloc];omega,by omega⟩
 ·change (if b=m.size then some ib else ι b)=some d at a
  split at a
  ·rename_i e;cases a
   rw[Mem.Bj,if_pos e.symm];rw[z];exact C.mono p
  ·have:=j.dom b d a
   rw[hget b this.1,l _ this.2];exact(j.blk b d a).mono p
 ·change (if b=m.size then some ib else ι b)=some d at a
  change (if q=m.size then some ib else ι q)=some f at i
  split at a<;>split at i
  ·exact .inl (by omega)
  ·cases a;have:=j.dom q f i;omega
  ·cases i;have:=j.dom b d a;omega
  ·rcases j.inj b q d f a i K with h|⟨s,y⟩
   ·exact .inl h
   ·exact .inr ⟨by rw[n b (j.dom b d a).1];exact s,by rw[n q (j.dom q f i).1];exact y⟩
 ·obtain⟨d,s,y,B,N,M⟩:=j.glob k J
  have o:=(j.dom k d s).1;refine⟨d,?_,y,⟨B.1,by rw[hget k o];exact B.2⟩,by rw[r k o];exact N,by rw[n k o];exact M⟩;show(if k=m.size then some ib else ι k)=some d;rw[if_neg (by omega)];exact s
theorem nR{ι:BG}{m:Mem}{w w':World}{e:TypeId}{l:List Value}{v:Value}(p:DF P G ι m w)(r:Go.RowKit.Below w.heap.size w w')(C:l≠[])(B:l.all Am.plainCell=true)(J:P.cellsOf e=1)(q:w'.ownsRow w.heap.size e 1 v l.length l) :
 Post P G ι m w (AQ m e l l.length).1 (AQ m e l l.length).2 v w':=by
 obtain⟨-,h⟩:=q;rcases h with⟨_,h⟩|⟨g,s,f,rfl,o,n,k,A,z,y⟩
 ·grind
 obtain⟨b,a,u,d⟩:=a6v (x:=.cells l e 0 false) (ib:=⟨g,0,f.size,P.cellsOf e⟩) p r o n
  ⟨fun _=>rfl,rfl,rfl,fun i I=>by
   have c:Am.plainCell (l.getD i undef)=true:=by
    grind
   refine⟨l.getD i undef,?_,Aw.plainCell c⟩;grind,fun _ j _=>by simp⟩ rfl
 refine⟨b,a,u,.sl _ _ _ _ _ _ ⟨_,d,an _,k,fun _=>⟨rfl,rfl,.inr ⟨rfl,?_⟩⟩⟩⟩;grind
abbrev FrF:=List Value→Option (List Value)
def eX(e:TypeId)(Fn:FrF)(Bh:List Value)(m:Mem):Option (Value×Mem):=match Fn Bh with
 |some []=>some (.slice none 0 0,m)
 |some (v::l)=>some (AQ m e (v::l) (l.length+1))
 |none=>none
open Classical in
noncomputable def frO(G:List Nat)(M0:Mem)(ff:FuncId)(e:TypeId)(Fn:FrF)(O:BP):BP:=fun f =>
 if f=ff then some fun Bh m=>if ∀k∈G,m.get k=M0.get k then eX e Fn Bh m else none else O f
theorem b2j{a:Mem}{ff f:FuncId}{e:TypeId}{Fn:FrF}{O:BP}(h:f≠ff):frO G a ff e Fn O f=O f:=if_neg h
theorem a3j{o:Mem}{ff:FuncId}{e:TypeId}{Fn:FrF}{O:BP}(x:Gh P G O)(s:Am.Enters P ff)(A:P.cellsOf e=1)
 (u:∀ι m w Bh (as':Array Value) l,DF P G ι m w→(∀k∈G,m.get k=o.get k)→BA ι m.gen Bh as'.toList→Fn Bh=some l→l.all Am.plainCell=true ∧
  Calls P ff as' w fun r w'=>∃v,r=.returned v∧w'.ownsRow w.heap.size e 1 v l.length l∧(l=[]→v=.slice none 0 0)∧Go.RowKit.Below w.heap.size w w'):Gh P G (frO G o ff e Fn O):=by
 intro f B g;by_cases h:f=ff
 ·subst h
  unfold frO at g;rw[if_pos rfl] at g;cases g;refine⟨fun Bh m v n b ι w as' i d=>?_,fun Bh m v n b=>?_,s,XK.b7e fun Bh m v n b=>by
   split at b
   ·unfold eX at b
    split at b
    ·cases b;rfl
    ·cases b;rfl
    grind
   grind⟩
  ·simp only at b
   split at b
   ·rename_i q
    unfold eX at b;cases hl:Fn Bh with
    |none=>grind
    |some l =>
     obtain⟨p,c⟩:=u ι m w Bh as' l i q d hl;rw[hl] at b;cases l with
     |nil =>
      cases b;refine c.mono ?_;rintro r w' ⟨v,rfl,_,y,j⟩;have:=y rfl;subst this;exact⟨_,rfl,Post.below i j rfl⟩
     |cons a l =>
      cases b;refine c.mono ?_;rintro r w' ⟨v,rfl,z,_,j⟩;exact⟨v,rfl,nR i j (by simp) p A z⟩
   grind
  ·simp only at b
   split at b
   ·unfold eX at b
    split at b
    ·cases b;exact AP.refl _
    ·cases b;exact AP.alloc _ _
    ·cases b
   ·cases b
 ·rw[b2j h] at g
  exact x f B g
theorem b9z{F:Nat}{laid:List (String×DataW Unit)}{O O0:BP}{ff:FuncId}{e:TypeId}{Fn:FrF}{xs cs:List FV}{l:List Value}(x:O ff=frO (Az P F laid) (AZ P F laid) ff e Fn O0 ff)(h:∀m b Bh,Dt m b xs Bh→Fn Bh=some l)
 (p:∀m b,Dt m b cs l) (u:l.all BK=true):Bd (Ei P F laid O) ff xs e cs l.length l.isEmpty:=by
 intro m b σ Bh j y;have i:Dt m b xs Bh:=Dt.X7 y;have r:=h m b Bh i;have q:∀k∈Az P F laid,m.get k=(AZ P F laid).get k:=fun k s=>by
  obtain⟨c,e,l,d⟩:=Oz s;have:=(j.gl k l e (by simp only[Ei,gam,if_pos c,d,Option.map_some])).2.1;rw[this,IW c,d]
 have f:(Ei P F laid O).O ff=some (fun Bh m=>open Classical in if ∀k∈Az P F laid,m.get k=(AZ P F laid).get k then eX e Fn Bh m else none):=by
  show O ff=_;rw[x];unfold frO;simp
 cases l with
 |nil =>
  have g:cs=[]:=by cases p m b;rfl
  subst g;obtain⟨o,n⟩:=U0 e j;refine GH.dI (m':=m) (v:=.slice none 0 0) f ?_ ⟨.vec 0 0 0 0,[(0,.vec e [] 0 true)],1,b,_,⟨rfl,rfl,rfl⟩,o,mO e [] 0,n⟩;rw[if_pos q];unfold eX;rw[r]
 |cons a l =>
  obtain⟨o,n,_,z⟩:=SA (e:=e) (l.length+1) j (p m b) u;refine GH.dI (m':=(AQ m e (a::l) (l.length+1)).2) (v:=(AQ m e (a::l) (l.length+1)).1) f ?_ ⟨_,_,_,b,_,⟨rfl,rfl,rfl⟩,o,z,n⟩;rw[if_pos q];unfold eX;rw[r]
end
end
end Go.Vm
