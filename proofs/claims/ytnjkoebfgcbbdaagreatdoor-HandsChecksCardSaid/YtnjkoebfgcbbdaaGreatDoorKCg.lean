/-
  Texts of a proof, merged (VmD, Shelf, NumA, WA, Lib1, OraA). Conditions: in each statement.
-/
import Derived.Laws.Strings
import Derived.Laws.Strings2
import Derived.Laws.Concat
import Derived.Shelf.Strings.Builder1
import Derived.Shelf.Strings.Builder2
import Derived.Shelf.Small.Strs
import Derived.Shelf.Strings.BuilderF
import Derived.Shelf.Strings.BuilderK
import Derived.Shelf.Strconv.Itoa0
import Derived.Shelf.Strconv.Itoa1
import Derived.Shelf.LaysM
import Derived.Shelf.Strconv.Itoa2
import Derived.Shelf.Strconv.Itoa3
import Derived.Shelf.Sort.Plain
import Derived.Shelf.Strings.Prefix
import Derived.Shelf.Bits.Mul64
import Derived.Shelf.Strings.Repeat
import Derived.Ground.Names2Prog
import Derived.Shelf.Slices.CompactI
import Derived.Shelf.Slices.In.SortNone
import Derived.Test.YtnjkoebfgcbbdaaGreatDoorProg
import Derived.Lib.ItoaNum
import Derived.Lib.Bytealg
import Derived.Lib.AppendIntMem
import Derived.Lib.OthersKept
import Derived.Lib.Walk
import Derived.WalkKit
import Derived.BigCall
import Derived.BigGuard
import Derived.RangeFuncBox
import Derived.RangeFuncLeaves
import Derived.RangeFuncBound
import Derived.RangeFuncCalls
import Derived.Shelf.Abstract
import Derived.OwnWalkIn
import Derived.TacticsInMore
import Derived.LoopNIn
import Derived.LoopIn
import Derived.Laws.AppendOwn
import Derived.Test.YtnjkoebfgcbbdaaGreatDoorKCf
set_option linter.unusedSimpArgs false
set_option linter.unusedVariables false
set_option linter.unusedSectionVars false
set_option maxRecDepth 100000
set_option maxHeartbeats 8000000
abbrev aR:=@List.mem_singleton
abbrev bR:=@Nat.pow_succ
abbrev ck:=@Nat.min_eq_left
abbrev cv:=@Nat.pow_add
abbrev cA:=@List.append_assoc
abbrev cI:=@Nat.div_lt_of_lt_mul
abbrev cP:=@Nat.mul_assoc
abbrev cV:=@Nat.pow_pos
abbrev cY:=@Nat.mul_comm
abbrev dc:=@List.length_replicate
abbrev dj:=@Array.size_replicate
abbrev dy:=@Nat.div_lt_self
abbrev ef:=@Nat.sub_self
abbrev eh:=@Nat.pow_zero
abbrev eE:=@Nat.div_div_eq_div_mul
abbrev eM:=@Nat.div_eq_of_lt
abbrev eQ:=@List.set_append_right
abbrev eT:=@List.take_append_drop
abbrev fe:=@Nat.add_mul_div_left
abbrev fh:=@Nat.mod_add_div
abbrev fS:=@Nat.add_mul_mod_self_left
abbrev gp:=@Nat.add_sub_cancel_left
abbrev gr:=@List.getElem?_replicate
abbrev gt:=@List.getElem?_cons_succ
abbrev gM:=@List.length_pos_iff
namespace Go.Vm
section
open Go.Am
variable {E:Env} {L:Frame} {H:Heap} {nx:Nat} {Q:PV→Heap→Nat→Prop} {w:Bool}
variable {dst:Option Tmp} {ty:TypeId} {pos:String} {af:Array Edge} {gd:Option (Nat×Bool)}
def AB (P:Program) (rs:List ResultVar) (Q:PV→Heap→Nat→Prop) (e:BM) (L:Frame) (H:Heap) (nx:Nat):Prop :=
 match e with
 | .exit _=>False
 | .normal=>∃ r,Ez P rs L H=some r∧Q r H nx
 | .ret=>∃ r,Ez P rs L H=some r∧Q r H nx
theorem AB.ret {P:Program} {rs:List ResultVar} {r:PV} (h:Ez P rs L H=some r) (q:Q r H nx):AB P rs Q .ret L H nx:=⟨r,h,q⟩
theorem Az.b5v {f:FuncId} {fn:Func} {c:Code} {args:List PV} (ho:E.O f=none) (hf:E.P.funcs[f]?=some fn) (hb:fn.body=some c) (hok:IL E.G fn c=true) (hn:args.length≤fn.ntmps)
 (h:Ad E nx c (CG 0 args) H nx (AB E.P fn.results.toList Q)):Az E f args H nx Q:=by
 intro m F σ BF h1 h2;refine Jh.enter ho hf hb hok (by rw [← h2.length];omega) ((h ⟨m,F,σ,H,nx⟩ rfl m F σ _ h1 ?_ (Step.refl _ _ _ _ _)).mono ?_)
 ·intro i v hi
  obtain ⟨_,h3⟩:=Jd args 0 i v hi;obtain ⟨u,h4,h5⟩:=h2.get h3;have:=GL BF 0 .leaf i;grind
 ·rintro e s ⟨L',H',nx',F',σ',q,c1,c2,c3⟩
  have key:(∃ r,Ez E.P fn.results.toList L' H'=some r∧Q r H' nx')→∃ v,Fa E.P fn s=some v∧∃ r H' nx' F' σ',Q r H' nx'∧Ctx E.Γ s.m F' σ' H' nx'∧RP s.m F' (htag H') σ' nx' r v∧Step m F σ H nx s.m F' σ' H' nx':=by
   rintro ⟨r0,hr,q⟩;obtain ⟨v,h3,h4⟩:=KF c1 c2 hr;exact ⟨v,h3,r0,H',nx',F',σ',q,c1,h4,c3⟩
  cases e with
  |exit i=>exact q.elim
  |normal=>exact key q
  |ret=>exact key q
theorem Aa.inl {fo:Operand} {args:Array Operand} {aT:Array TypeId} {g:FuncId} {fs cs BF:List PV} (hf:AU E.Γ L fo=some (.clo g fs cs)) (ha:evs E.Γ L args.toList=some BF)
 (hc:Az E g (fs++BF++cs) H nx Q):Aa E true ⟨dst,.call { callee:=.value fo,args:=args,argTypes:=aT },ty,pos,af,gd⟩ L H nx Q:=by
 intro m F σ t h1 h2;have hfv:=Bz h1 h2 hf;generalize hfe:ev t fo=fv at hfv;cases hfv with
 |clo r1 r2 =>
  rename_i vf vc;refine Gs.call (f:=g) (BF:=vf++args.toList.map (ev t)++vc) (fun call=>by simp only [BO,hfe]) ((hc m F σ _ h1 ((r1.append (Rn h1 h2 ha)).append r2)).mono ?_);simp
theorem Aa.inline {fo:Operand} {args:Array Operand} {aT:Array TypeId} {g:FuncId} {fs cs BF:List PV} {fn:Func} {c:Code} (hg:g=g) (hf:AU E.Γ L fo=some (.clo g fs cs)) (ha:evs E.Γ L args.toList=some BF)
 (ho:E.O g=none) (hfn:E.P.funcs[g]?=some fn) (hb:fn.body=some c) (hok:IL E.G fn c=true) (hn:(fs++BF++cs).length≤fn.ntmps)
 (h:Ad E nx c (CG 0 (fs++BF++cs)) H nx (AB E.P fn.results.toList Q)):Aa E true ⟨dst,.call { callee:=.value fo,args:=args,argTypes:=aT },ty,pos,af,gd⟩ L H nx Q :=
 Aa.inl hf ha (Az.b5v ho hfn hb hok hn h)
end
section
open Go.Am
variable {E:Env} {L:Frame} {H:Heap} {nx:Nat} {Q:PV→Heap→Nat→Prop} {w:Bool}
variable {dst:Option Tmp} {ty:TypeId} {pos:String} {af:Array Edge} {gd:Option (Nat×Bool)}
def bs (l:List UInt8):ByteArray:=⟨l.toArray⟩
theorem Rk (l:List UInt8):(bs l).size=l.length:=by rfl
theorem eu (l:List UInt8):(bs l).toList=l:=ByteArray.toList_mk l
theorem a5b {a b:List UInt8} (h:bs a=bs b):a=b:=by
 have:=congrArg (fun s:ByteArray=>s.data.toList) h;assumption
abbrev st (l:List UInt8):PV:=.p (.str (bs l))
instance:Enc UInt8:={ default:=0,enc:=fun n=>[.int .u8 (n.toNat:Int)],size:=1,len:=fun _=>rfl }
instance c4c:Enc Nat:={ default:=0,enc:=fun n=>[.int .u64 (n:Int)],size:=1,len:=fun _=>rfl }
theorem Aa.MH {x:Operand} {t:TypeId} {l:List UInt8} (hx:AU E.Γ L x=some (st l)) (ht:E.P.underlying t=some .string) (q:Q (.p (.int .i64 l.length)) H nx) :
 Aa E w ⟨dst,.call { callee:=.builtin .len,args:=#[x],argTypes:=#[t] },ty,pos,af,gd⟩ L H nx Q :=
 Aa.c6c hx ht (by assumption)
theorem Aa.b9j {op:BinOp} {t t2:TypeId} {x y:Operand} {a b:List UInt8} {r:FV} (hx:AU E.Γ L x=some (st a)) (hy:AU E.Γ L y=some (st b))
 (h:∀ m F,∃ v,Ya E.P (do eqGuard op t x y (.string (bs a)) (.string (bs b));binOp op t (.string (bs a)) (.string (bs b)))=some v∧RF m F r v) (q:Q (.p r) H nx) :
 Aa E w ⟨dst,.binOp op t x y t2,ty,pos,af,gd⟩ L H nx Q :=
 Aa.quiet q fun m F σ tt c1 c2=>by
  obtain ⟨v,h1,h2⟩:=h m F;refine ⟨v,fun _=>?_,.p h2⟩;simp only [BO,FB,ML c1 c2 hx,ML c1 c2 hy,PG];rw [show (plain (Value.string (bs a))&&plain (Value.string (bs b)))=true from rfl];grind
theorem Aa.eqS {t t2:TypeId} {x y:Operand} {a b:List UInt8} (hx:AU E.Γ L x=some (st a)) (hy:AU E.Γ L y=some (st b)) (q:Q (.p (.bool (decide (a=b)))) H nx) :
 Aa E w ⟨dst,.binOp .eql t x y t2,ty,pos,af,gd⟩ L H nx Q :=
 Aa.b9j hx hy (fun m F=>⟨.bool (decide (a=b)),by
  have:DF E.P (do eqGuard .eql t x y (.string (bs a)) (.string (bs b));binOp .eql t (.string (bs a)) (.string (bs b)))=some (.bool (decide (a=b))):=by
   rw [binOp_string_eql,eu,eu];rw [show ((a==b):Bool)=decide (a=b) by by_cases h:a=b<;>simp [h]];rfl
  assumption,.bool _⟩) q
theorem Aa.X9 {t t2:TypeId} {x y:Operand} {a b:List UInt8} (hx:AU E.Γ L x=some (st a)) (hy:AU E.Γ L y=some (st b)) (hl:a.length+b.length<4611686018427387904) (q:Q (st (a++b)) H nx) :
 Aa E w ⟨dst,.binOp .add t x y t2,ty,pos,af,gd⟩ L H nx Q :=
 Aa.b9j hx hy (fun m F=>⟨.string (bs (a++b)),by
  have:DF E.P (do eqGuard .add t x y (.string (bs a)) (.string (bs b));binOp .add t (.string (bs a)) (.string (bs b)))=some (.string (bs (a++b))):=by
   rw [binOp_string_add];simp only [Au,eqGuard,Op.stringOp,Rk];have hc:¬ (((a.length+b.length:Nat):Int)>IntKind.i64.max):=by
    have:IntKind.i64.max=9223372036854775807:=by decide
    omega
   rw [if_neg hc];rfl
  exact KI this rfl,.str _⟩) q
theorem Aa.b0s {t:TypeId} {x ix:Operand} {l:List UInt8} {k:IntKind} {i:Int} (hx:AU E.Γ L x=some (st l)) (hi:AU E.Γ L ix=some (.p (.int k i))) (ht:E.P.underlying t=some .string) (h0:0≤i) (h1:i<l.length)
 (q:Q (.p (.int .u8 ((gi l i.toNat).toNat:Int))) H nx):Aa E w ⟨dst,.index t x ix,ty,pos,af,gd⟩ L H nx Q :=
 Aa.quiet q fun m F σ tt c1 c2=>by
  refine ⟨.int .u8 ((gi l i.toNat).toNat:Int),fun _=>?_,.p (.int _ _)⟩;have hlt:i.toNat<l.length:=by omega
  have hg:(bs l)[i.toNat]?=some (gi l i.toNat):=by
   have h2:i.toNat<(bs l).size:=by assumption
   rw [getElem?_pos (bs l) i.toNat h2];simp only [gi,List.getElem?_eq_getElem hlt,Option.getD_some];rfl
  have hd:DF E.P (Instr.index t (.string (bs l)) (.int k i))=some (.int .u8 ((gi l i.toNat).toNat:Int)):=by
   simp only [Instr.index,asIntOf,Au,BU,Option.bind_some,AZ,ht,h0,if_true,hg]
  simp only [BO,FB,ML c1 c2 hx,CV c1 c2 hi];rw [show plain (Value.int k i)=true from rfl];grind
theorem Aa.U4 {t:TypeId} {x ix:Operand} {l:List UInt8} {k:IntKind} {i:Nat} (hx:AU E.Γ L x=some (st l)) (hi:AU E.Γ L ix=some (.p (.int k (i:Int)))) (ht:E.P.underlying t=some .string) (h1:i<l.length)
 (q:Q (.p (.int .u8 ((gi l i).toNat:Int))) H nx):Aa E w ⟨dst,.index t x ix,ty,pos,af,gd⟩ L H nx Q :=
 Aa.b0s hx hi ht (by omega) (by omega) q
theorem Rq {P:Program} {k:IntKind} {i:Int} {y:Nat} {c:BoundsCode} (h0:0≤i) (h1:i≤y):DF P (Instr.sliceBound (.int k i) y c)=some i.toNat:=by
 simp only [Instr.sliceBound,asIntOf,Au,BU,Option.bind_some,h0,h1,and_self,if_true]
theorem Aa.jQ {t:TypeId} {x:Operand} {lo hi:Option Operand} {l:List UInt8} {a b:Nat} (hx:AU E.Γ L x=some (st l)) (ht:E.P.underlying t=some .string)
 (hlo:match lo with|none=>a=0|some o=>∃ k,AU E.Γ L o=some (.p (.int k (a:Int)))) (hhi:match hi with|none=>b=l.length|some o=>∃ k,AU E.Γ L o=some (.p (.int k (b:Int))))
 (h1:a≤b) (h2:b≤l.length) (q:Q (st ((l.take b).drop a)) H nx):Aa E w ⟨dst,.slice t x lo hi none,ty,pos,af,gd⟩ L H nx Q :=
 Aa.quiet q fun m F σ tt c1 c2=>by
  refine ⟨.string (bs ((l.take b).drop a)),fun _=>?_,.p (.str _)⟩;have hex:(bs l).extract a b=bs ((l.take b).drop a):=by
   unfold bs;rw [ByteArray.extract_mk];congr 2
   rw [List.drop_take]
  have hd:Ya E.P (Instr.sliceAt t (.string (bs l)) (lo.map (ev tt)) (hi.map (ev tt)) none)=some (.string (bs ((l.take b).drop a))):=by
   refine KI ?_ rfl;have key:DF E.P (Instr.sliceBounds false (bs l).size (bs l).size (lo.map (ev tt)) (hi.map (ev tt)) none)=some (a,b,l.length):=by
    cases hi with
    |none =>
     simp only at hhi;subst hhi;cases lo with
     |none =>
      subst hlo;rfl
     |some o =>
      obtain ⟨k,hk⟩:=hlo;simp only [Instr.sliceBounds,Option.map_none,Option.map_some,Au,BU,Option.bind_some,Rk,CV c1 c2 hk,Option.isSome_none,Bool.false_eq_true,if_false,Int.toNat_natCast,Rq (show (0:Int)≤(a:Int) by omega) (show (a:Int)≤((l.length:Nat):Int) by omega)]
    |some o2 =>
     obtain ⟨k2,hk2⟩:=hhi;cases lo with
     |none =>
      simp only at hlo;subst hlo;simp only [Instr.sliceBounds,Option.map_none,Option.map_some,Au,BU,Option.bind_some,Rk,CV c1 c2 hk2,Bool.false_eq_true,if_false,Int.toNat_natCast,Rq (show (0:Int)≤(b:Int) by omega) (show (b:Int)≤((l.length:Nat):Int) by omega)]
     |some o =>
      obtain ⟨k,hk⟩:=hlo;simp only [Instr.sliceBounds,Option.map_none,Option.map_some,Au,BU,Option.bind_some,Rk,CV c1 c2 hk,CV c1 c2 hk2,Option.isSome_none,Bool.false_eq_true,if_false,Int.toNat_natCast,
       Rq (show (0:Int)≤(b:Int) by omega) (show (b:Int)≤((l.length:Nat):Int) by omega),Rq (show (0:Int)≤(a:Int) by omega) (show (a:Int)≤((b:Nat):Int) by omega)]
   simp only [Instr.sliceAt,Instr.slice,Au,AZ,ht,Option.bind_some,Option.isSome_none,Bool.false_eq_true,if_false,key,BU,hex]
  have hp:((lo.map (ev tt)).all plain&&(hi.map (ev tt)).all plain&&(none:Option Value).isNone)=true:=by
   have e1:(lo.map (ev tt)).all plain=true:=by
    cases lo with
    |none=>rfl
    |some o=>obtain ⟨k,hk⟩:=hlo;simp only [Option.map_some,Option.all_some,CV c1 c2 hk];rfl
   have e2:(hi.map (ev tt)).all plain=true:=by
    cases hi with
    |none=>rfl
    |some o=>obtain ⟨k,hk⟩:=hhi;simp only [Option.map_some,Option.all_some,CV c1 c2 hk];rfl
   grind
  simp only [BO,FB,aslice,ML c1 c2 hx,ht,Option.isSome_none,Bool.false_and,Bool.false_eq_true,if_false,Option.map_none];grind
theorem Aa.nZ {t:TypeId} {x o:Operand} {l:List UInt8} {k:IntKind} {b:Nat} (hx:AU E.Γ L x=some (st l)) (ho:AU E.Γ L o=some (.p (.int k (b:Int)))) (ht:E.P.underlying t=some .string) (h2:b≤l.length) (q:Q (st (l.take b)) H nx) :
 Aa E w ⟨dst,.slice t x none (some o) none,ty,pos,af,gd⟩ L H nx Q:=Aa.jQ (a:=0) hx ht rfl ⟨k,ho⟩ (by omega) h2 (by grind)
theorem Aa.wQ {t:TypeId} {x o:Operand} {l:List UInt8} {k:IntKind} {a:Nat} (hx:AU E.Γ L x=some (st l)) (ho:AU E.Γ L o=some (.p (.int k (a:Int)))) (ht:E.P.underlying t=some .string) (h2:a≤l.length) (q:Q (st (l.drop a)) H nx) :
 Aa E w ⟨dst,.slice t x (some o) none none,ty,pos,af,gd⟩ L H nx Q:=Aa.jQ (b:=l.length) hx ht ⟨k,ho⟩ rfl h2 (ab _) (by grind)
theorem XP {m:Mem} {F:Nat→Prop}:∀ (l:List UInt8),Dj m F (cells l) (l.map fun c=>Value.int .u8 c.toNat)
 |[]=>.nil
 |c::l=>.cons (.int _ _) (XP l)
theorem Aa.toBytes {s d e:TypeId} {i:TypeInfo} {x:Operand} {l:List UInt8} (hx:AU E.Γ L x=some (st l)) (hs:E.P.underlying s=some .string) (hd:E.P.underlying d=some (.slice e)) (he:E.P.underlying e=some (.int .u8)) (hi:E.P.info? e=some i) (h1:i.size=1)
 (hl:l.length≤1000000) (q:Q (.vec nx l.length 0 l.length) ((nx,.vec e (cells l) l.length false)::H) (nx+1)):Aa E w ⟨dst,.convert s d x,ty,pos,af,gd⟩ L H nx Q:=by
 intro m F σ t c1 c2;have hb:J7 (bs l)=l.map fun c=>Value.int .u8 c.toNat:=by rfl
 obtain ⟨d1,d2,d3,_⟩:=QZ (e:=e) (cs:=cells l) (vs:=l.map fun (c:UInt8)=>Value.int .u8 (c.toNat:Int)) l.length c1 (XP l) (by simp [BK]);refine Gs.op (v:=(AQ m e (l.map fun (c:UInt8)=>Value.int .u8 (c.toNat:Int)) l.length).1) (m':=(AQ m e (l.map fun (c:UInt8)=>Value.int .u8 (c.toNat:Int)) l.length).2) (fun _=>?_) ⟨_,_,_,F,_,q,d1,?_,d2,fun _=>d3⟩
 ·have hsl:(Jm E.P s||Jm E.P d)=true:=by simp only [Jm,hs,hd];rfl
  simp only [BO,FB,hsl,if_true,Xc,hs,hd,ML c1 c2 hx,he,hi];rw [if_pos ⟨h1,by rw [Rk];omega⟩,hb,Rk]
 assumption
theorem PS:∀ (l:List UInt8),VT (l.map fun c=>Value.int .u8 c.toNat)=some l
 |[]=>rfl
 |c::l=>by
  have h:=c.toNat_lt;simp only [List.map_cons,VT];rw [if_pos ⟨by omega,by omega⟩,PS l];simp
theorem QH {m:Mem} {F:Nat→Prop}:∀ {l:List UInt8} {vs:List Value},Dj m F (cells l) vs→vs=l.map fun c=>Value.int .u8 c.toNat
 |[],_,.nil=>rfl
 |c::l,_,.cons h t=>by
  cases h;rw [QH t];rfl
theorem Aa.ofBytes {s d e:TypeId} {x:Operand} {l:List UInt8} {k:Nat} (hx:rY E.Γ L H nx x 1 (cells l) k) (hv:∃ y,AU E.Γ L x=some y∧(∀ m F σ v,RP m F (htag H) σ nx y v→∃ a g,v=.slice a k g)) (hs:E.P.underlying s=some (.slice e)) (hd:E.P.underlying d=some .string) (he:E.P.underlying e=some (.int .u8))
 (q:Q (st l) H nx):Aa E true ⟨dst,.convert s d x,ty,pos,af,gd⟩ L H nx Q :=
 Aa.quiet q fun m F σ tt c1 c2=>by
  obtain ⟨hl1,vs,hl2,hl3,hl4⟩:=hx m F σ tt c1 c2;obtain ⟨y,hy,hyv⟩:=hv;obtain ⟨a,g,hag⟩:=hyv m F σ _ (Bz c1 c2 hy);have hvs:=QH hl3;subst hvs;rw [hag] at hl2;refine ⟨.string (bs l),fun _=>?_,.p (.str _)⟩;have hsl:(Jm E.P s||Jm E.P d)=true:=by simp only [Jm,hs,hd];rfl
  simp only [BO,FB,hsl,if_true,Xc,hs,hd,hag,he,hl2,PS];rfl
end
section
open Go.Am
variable {E:Env} {L:Frame} {H:Heap} {nx:Nat} {Q:PV→Heap→Nat→Prop} {w:Bool}
variable {dst:Option Tmp} {ty:TypeId} {pos:String} {af:Array Edge} {gd:Option (Nat×Bool)}
theorem Md {α:Type}:∀ (z p c:List α) (o:Nat),CJ (p++c) (p.length+o) z=p++CJ c o z
 |[],_,_,_=>rfl
 |x::z,p,c,o=>by
  simp only [CJ];rw [eQ _ _ (by omega),gp,Nat.add_assoc,Md z p (c.set o x) (o+1)]
theorem Uj {α:Type}:∀ (z xs ys:List α),z.length=xs.length→CJ (xs++ys) 0 z=z++ys
 |[],xs,ys,h=>by rw [bv h.symm];rfl
 |x::z,[],ys,h=>by grind
 |x::z,y::xs,ys,h=>by
  simp only [CJ,List.cons_append,List.set_cons_zero];have:=Md z [x] (xs++ys) 0;simp only [List.length_singleton,List.singleton_append] at this;rw [this,Uj z xs ys (by grind)]
theorem bT {α:Type} [Enc α] (l:List α) (i:Nat) (a:α) (h:i<l.length):CJ (cells l) (i*Enc.size α) (Enc.enc a)=cells (l.set i a):=by
 have h1:l=l.take i++(gi l i::l.drop (i+1)):=by
  have hd:l.drop i=gi l i::l.drop (i+1):=by
   simp [gi,List.getElem?_eq_getElem h]
  conv=>lhs;rw [← eT i l]
  rw [hd]
 have h2:l.set i a=l.take i++(a::l.drop (i+1)):=by
  conv=>lhs;rw [h1]
  rw [eQ _ _ (by grind)];rw [aw,ck (by omega),ef,List.set_cons_zero]
 rw [h2,EG]
 conv=>lhs;rw [h1,EG]
 have h3:i*Enc.size α=(cells (l.take i)).length+0:=by rw [CQ,aw,ck (by omega),ee]
 rw [h3,Md];congr 1
 exact Uj _ _ _ (by rw [Enc.len,Enc.len])
theorem Aa.b0y {α:Type} {_:Enc α} {t:TypeId} {x ix:Operand} {e:TypeId} {l:List α} {b n:Nat} {z:Bool} {k:IntKind} {i:Int} (hx:AU E.Γ L x=some (.vec b n 0 n)) (hb:hget H b=some (.vec e (cells l) n z)) (hi:AU E.Γ L ix=some (.p (.int k i)))
 (hs:elemSize E.P t=some (Enc.size α)) (h0:0≤i) (h1:i<n) (q:Q (.EH b n (i.toNat*Enc.size α)) H nx):Aa E w ⟨dst,.indexAddr t x ix,ty,pos,af,gd⟩ L H nx Q :=
 Aa.a8p hx hb hi hs h0 h1 (by grind)
theorem Aa.Di {α:Type} {_:Enc α} {t:TypeId} {x ix:Operand} {e:TypeId} {l:List α} {b n:Nat} {z:Bool} {k:IntKind} {i:Nat} (hx:AU E.Γ L x=some (.vec b n 0 n)) (hb:hget H b=some (.vec e (cells l) n z)) (hi:AU E.Γ L ix=some (.p (.int k (i:Int))))
 (hs:elemSize E.P t=some (Enc.size α)) (h1:i<n) (q:Q (.EH b n (i*Enc.size α)) H nx):Aa E w ⟨dst,.indexAddr t x ix,ty,pos,af,gd⟩ L H nx Q :=
 Aa.b0y hx hb hi hs (by omega) (by omega) q
theorem Aa.Oo {α:Type} {_:Enc α} {t:TypeId} {a:Operand} {b n i:Nat} {e:TypeId} {l:List α} {z:Bool} {r:FV} (ha:AU E.Γ L a=some (.EH b n (i*Enc.size α))) (hb:hget H b=some (.vec e (cells l) n z)) (hi:i<l.length)
 (h:ZA E.P t (Enc.enc (gi l i)++cells (l.drop (i+1)))=some r) (q:Q (.p r) H nx):Aa E w ⟨dst,.load t a,ty,pos,af,gd⟩ L H nx Q :=
 Aa.b4h ha hb (by rw [OQ l i hi];exact h) q
theorem Aa.JQ {α:Type} {_:Enc α} {t:TypeId} {a x:Operand} {b n i:Nat} {e:TypeId} {l:List α} {z:Bool} {r:PV} {inf:TypeInfo} (y:α) (ha:AU E.Γ L a=some (.EH b n (i*Enc.size α))) (hx:AU E.Γ L x=some r) (hb:hget H b=some (.vec e (cells l) n z)) (hn:PO r)
 (hf:Kr r=(Enc.enc y).map .p) (a8f:E.P.info? t=some inf) (hl:Enc.size α=inf.size) (h0:0<inf.size) (hi:i<l.length) (q:Q (.Eb []) (hput H b (.vec e (cells (l.set i y)) n z)) nx):Aa E true ⟨dst,.store t a x,ty,pos,af,gd⟩ L H nx Q :=
 Aa.b7x ha hx hb hn hf a8f (by rw [Enc.len,hl]) h0 (by
  rw [CQ,← hl];have:=bp (Enc.size α) hi;grind) (by rw [bT l i y hi];exact q)
theorem lV {α:Type} [Enc α] {z:List Value} {a:α} (h:z.map H9=Enc.enc a) (n:Nat):(AL z n).map H9=cells (List.replicate n a):=by
 induction n with
 |zero=>rfl
 |succ n ih=>simp only [AL,List.map_append,h,ih,List.replicate_succ,cells,encs]
theorem Aa.Jt {α:Type} {_:Enc α} {t e:TypeId} {l c:Operand} (n:Nat) (a:α) {k1 k2:IntKind} {v v':Int} {z:List Value} {i:TypeInfo} (hu:E.P.underlying t=some (.slice e)) (hi:E.P.info? e=some i) (hz:BQ E.P e=some z) (hl:AU E.Γ L l=some (.p (.int k1 v))) (hc:AU E.Γ L c=some (.p (.int k2 v')))
 (hv:v=n) (hv':v'=n) (hb:n<1000000) (hb2:i.bytes<1000000) (hs:z.length=i.size∧0<i.size) (ha:z.map H9=Enc.enc a) (q:Q (.vec nx n 0 n) ((nx,.vec e (cells (List.replicate n a)) n false)::H) (nx+1)):Aa E w ⟨dst,.makeSlice t l c,ty,pos,af,gd⟩ L H nx Q :=
 Aa.makeSlice (n:=n) hu hi hz (by rw [hl,hv]) (by rw [hc,hv']) ⟨by have:=jP (n:=n) (k:=0) (b:=i.bytes) (by omega) hb2;omega,by omega⟩ hs (by rw [lV ha];exact q)
theorem Aa.c5v {t t2:TypeId} {x y:Operand} {a b:Int} (hx:AU E.Γ L x=some (.p (.int .u64 a))) (hy:AU E.Γ L y=some (.p (.int .u64 b))) (h:0≤a+b∧a+b<18446744073709551616) (q:Q (.p (.int .u64 (a+b))) H nx) :
 Aa E w ⟨dst,.binOp .add t x y t2,ty,pos,af,gd⟩ L H nx Q:=Aa.int hx hy (r:=.int .u64 (a+b)) (by simp only [S9,wrap_u64 h.1 h.2]) q
theorem Aa.c6a {t t2:TypeId} {x y:Operand} {a b:Int} (hx:AU E.Γ L x=some (.p (.int .u64 a))) (hy:AU E.Γ L y=some (.p (.int .u64 b))) (h:0≤a-b∧a-b<18446744073709551616) (q:Q (.p (.int .u64 (a-b))) H nx) :
 Aa E w ⟨dst,.binOp .sub t x y t2,ty,pos,af,gd⟩ L H nx Q:=Aa.int hx hy (r:=.int .u64 (a-b)) (by simp only [S9,wrap_u64 h.1 h.2]) q
theorem Aa.c5a {t t2:TypeId} {x y:Operand} {a b:Int} (hx:AU E.Γ L x=some (.p (.int .u64 a))) (hy:AU E.Γ L y=some (.p (.int .u64 b))) (h:0≤a*b∧a*b<18446744073709551616) (q:Q (.p (.int .u64 (a*b))) H nx) :
 Aa E w ⟨dst,.binOp .mul t x y t2,ty,pos,af,gd⟩ L H nx Q:=Aa.int hx hy (r:=.int .u64 (a*b)) (by simp only [S9,wrap_u64 h.1 h.2]) q
theorem Aa.c5h {t t2:TypeId} {x y:Operand} {a c:Int} (hx:AU E.Γ L x=some (.p (.int .u64 a))) (hy:AU E.Γ L y=some (.p (.int .u64 c))) (ha:0≤a∧a<18446744073709551616) (hc:0<c) (q:Q (.p (.int .u64 (a / c))) H nx) :
 Aa E w ⟨dst,.binOp .quo t x y t2,ty,pos,af,gd⟩ L H nx Q:=by
 refine Aa.int hx hy (r:=.int .u64 (a / c)) ?_ q;simp only [S9];rw [if_neg (by omega),Int.tdiv_eq_ediv_of_nonneg ha.1];have h1:0≤a / c:=Int.ediv_nonneg ha.1 (by omega);have h2:a / c≤a:=Int.ediv_le_self c ha.1;rw [wrap_u64 h1 (by omega)]
theorem wrap_u8 {n:Int} (h0:0≤n) (h:n<256):IntKind.u8.wrap n=n:=by
 simp only [IntKind.wrap,IntKind.bits,IntKind.signed,Bool.false_and,Bool.false_eq_true,if_false];omega
theorem Aa.c3e {t t2:TypeId} {x y:Operand} {a b:Int} (hx:AU E.Γ L x=some (.p (.int .u8 a))) (hy:AU E.Γ L y=some (.p (.int .u8 b))) (h:0≤a-b∧a-b<256) (q:Q (.p (.int .u8 (a-b))) H nx) :
 Aa E w ⟨dst,.binOp .sub t x y t2,ty,pos,af,gd⟩ L H nx Q:=Aa.int hx hy (r:=.int .u8 (a-b)) (by simp only [S9,wrap_u8 h.1 h.2]) q
theorem Aa.rE {s d:TypeId} {x:Operand} {k':IntKind} {n:Int} {sd:TypeDesc} (hx:AU E.Γ L x=some (.p (.int k' n))) (hs:E.P.underlying s=some sd) (hns:oq sd=true) (hd:E.P.underlying d=some (.int .u64)) (hn:0≤n∧n<18446744073709551616) (q:Q (.p (.int .u64 n)) H nx) :
 Aa E w ⟨dst,.convert s d x,ty,pos,af,gd⟩ L H nx Q:=Aa.Yo hx hs hns hd (by rw [wrap_u64 hn.1 hn.2];exact q)
theorem Aa.Nb {s d:TypeId} {x:Operand} {k':IntKind} {n:Int} {sd:TypeDesc} (hx:AU E.Γ L x=some (.p (.int k' n))) (hs:E.P.underlying s=some sd) (hns:oq sd=true) (hd:E.P.underlying d=some (.int .u8)) (hn:0≤n∧n<256) (q:Q (.p (.int .u8 n)) H nx) :
 Aa E w ⟨dst,.convert s d x,ty,pos,af,gd⟩ L H nx Q:=Aa.Yo hx hs hns hd (by rw [wrap_u8 hn.1 hn.2];exact q)
theorem Aa.neg {t:TypeId} {x:Operand} {a:Int} (hx:AU E.Γ L x=some (.p (.int .i64 a))) (h:-9223372036854775808≤-a∧-a<9223372036854775808) (q:Q (.p (.int .i64 (-a))) H nx):Aa E w ⟨dst,.unOp .neg t x,ty,pos,af,gd⟩ L H nx Q :=
 Aa.quiet q fun m F σ tt c1 c2=>by
  refine ⟨.int .i64 (-a),fun _=>?_,.p (.int _ _)⟩;have hd:DF E.P (Op.unary .neg (.int .i64 a))=some (.int .i64 (-a)):=by
   simp only [Op.unary,Op.intArith,Int.zero_sub,wrap_i64 h];rfl
  simp only [BO,FB,CV c1 c2 hx];rw [show plain (Value.int IntKind.i64 a)=true from rfl];simp only [if_true,KI hd rfl,Option.map_some]
theorem Aa.c4b {op:BinOp} {t t2:TypeId} {x y:Operand} {a b r:Bool} (hx:AU E.Γ L x=some (.p (.bool a))) (hy:AU E.Γ L y=some (.p (.bool b))) (ht:E.P.underlying t=some .bool) (hr:op=.eql∧r=(a==b)∨op=.neq∧r=(a != b)) (q:Q (.p (.bool r)) H nx) :
 Aa E w ⟨dst,.binOp op t x y t2,ty,pos,af,gd⟩ L H nx Q :=
 Aa.quiet q fun m F σ tt c1 c2=>by
  refine ⟨.bool r,fun _=>?_,.p (.bool _)⟩;have hd:DF E.P (do eqGuard op t x y (.bool a) (.bool b);binOp op t (.bool a) (.bool b))=some (.bool r):=by
   have h2:∀ d,DF E.P (Op.equalIn (d+1) t (.bool a) (.bool b))=some (a==b):=fun d=>by
    simp only [Op.equalIn,Au,AZ,ht,Option.bind_some];rfl
   have h3:DF E.P (Op.equal t (.bool a) (.bool b))=some (a==b):=h2 (Op.maxDepth-1);rcases hr with ⟨rfl,rfl⟩|⟨rfl,rfl⟩
   ·show DF E.P (do eqGuard .eql t x y (.bool a) (.bool b);(do pure (.bool (← Op.equal t (.bool a) (.bool b))):Sem Value))=_
    simp only [eqGuard,Au,h3,Option.bind_some,BU];rfl
   ·show DF E.P (do eqGuard .neq t x y (.bool a) (.bool b);(do pure (.bool (!(← Op.equal t (.bool a) (.bool b)))):Sem Value))=_
    simp only [eqGuard,Au,h3,Option.bind_some,BU];rfl
  simp only [BO,FB,Ih c1 c2 hx,Ih c1 c2 hy,PG];rw [show (plain (Value.bool a)&&plain (Value.bool b))=true from rfl];simp only [if_true,KI hd rfl,Option.map_some]
theorem Aa.neB {t t2:TypeId} {x y:Operand} {a b:Bool} (hx:AU E.Γ L x=some (.p (.bool a))) (hy:AU E.Γ L y=some (.p (.bool b))) (ht:E.P.underlying t=some .bool) (q:Q (.p (.bool (a != b))) H nx) :
 Aa E w ⟨dst,.binOp .neq t x y t2,ty,pos,af,gd⟩ L H nx Q:=Aa.c4b hx hy ht (.inr ⟨rfl,rfl⟩) q
theorem Aa.b1x {x y:Operand} {aT:Array TypeId} {a b:Int} (hx:AU E.Γ L x=some (.p (.int .i64 a))) (hy:AU E.Γ L y=some (.p (.int .i64 b))) (q:Q (.p (.int .i64 (max a b))) H nx) :
 Aa E w ⟨dst,.call { callee:=.builtin .max,args:=#[x,y],argTypes:=aT },ty,pos,af,gd⟩ L H nx Q :=
 Aa.quiet q fun m F σ tt c1 c2=>by
  refine ⟨.int .i64 (max a b),fun _=>?_,.p (.int _ _)⟩;have he:(#[x,y]:Array Operand).map (ev tt)=#[.int .i64 a,.int .i64 b]:=by simp [CV c1 c2 hx,CV c1 c2 hy]
  have hp:((#[x,y]:Array Operand).map (ev tt)).toList.all plain=true:=by rw [he];rfl
  have hd:DF E.P (Builtin.max_ aT ty #[.int .i64 a,.int .i64 b])=some (.int .i64 (max a b)):=by
   simp only [Builtin.max_,List.foldlM_cons,List.foldlM_nil,Builtin.max2,Au,BU,Option.bind_some];grind
  simp only [BO,FB,hp,if_true];rw [he,KI hd rfl];rfl
theorem Aa.b6i {x y:Operand} {aT:Array TypeId} {a b:Int} (hx:AU E.Γ L x=some (.p (.int .i64 a))) (hy:AU E.Γ L y=some (.p (.int .i64 b))) (q:Q (.p (.int .i64 (min a b))) H nx) :
 Aa E w ⟨dst,.call { callee:=.builtin .min,args:=#[x,y],argTypes:=aT },ty,pos,af,gd⟩ L H nx Q :=
 Aa.quiet q fun m F σ tt c1 c2=>by
  refine ⟨.int .i64 (min a b),fun _=>?_,.p (.int _ _)⟩;have he:(#[x,y]:Array Operand).map (ev tt)=#[.int .i64 a,.int .i64 b]:=by simp [CV c1 c2 hx,CV c1 c2 hy]
  have hp:((#[x,y]:Array Operand).map (ev tt)).toList.all plain=true:=by rw [he];rfl
  have hd:DF E.P (Builtin.min_ aT ty #[.int .i64 a,.int .i64 b])=some (.int .i64 (min a b)):=by
   simp only [Builtin.min_,List.foldlM_cons,List.foldlM_nil,Builtin.min2,Au,BU,Option.bind_some];grind
  simp only [BO,FB,hp,if_true];rw [he,KI hd rfl];rfl
end
section
open Go.Am
section
variable {P:Program} {G:List Nat}
theorem DL.below {ι:BJ} {m:Mem} {w w':World} (hs:DL P G ι m w) (hb:Go.RowKit.Below w.heap.size w w'):DL P G ι m w':=by
 refine ⟨fun b ib h=>?_,fun b ib h=>?_,hs.inj,hs.glob⟩
 ·have:=hs.dom b ib h
  have:=hb.size;omega
 ·rw [hb.block _ (hs.dom b ib h).2];exact hs.blk b ib h
theorem Post.below {ι:BJ} {m:Mem} {w w':World} {v:Value} (hs:DL P G ι m w) (hb:Go.RowKit.Below w.heap.size w w') (hp:plain v=true):Post P G ι m w v m v w':=by
 refine ⟨ι,⟨ab _,ab _,fun _ _ _=>rfl,fun _ _ _=>rfl,fun _ _=>rfl,Le.refl _ _,fun b ib h=>.inl ⟨ib,h,rfl⟩,fun b ib h=>.inl ⟨ib,h⟩,hb.size,fun c hc _=>hb.block c hc,hb.tape,hb.os,hb.output⟩,DL.below hs hb,Aw.plain hp⟩
abbrev aA:=List Value→Mem→Option Value
open Classical in
noncomputable def lY (G:List Nat) (M0:Mem) (ls:List (FuncId×aA)):CB:=fun f =>
 match ls.lookup f with
 |some F=>some fun BF m=>if ∀ k∈G,m.get k=M0.get k then (F BF m).map fun v=>(v,m) else none
 |none=>none
structure Un (P:Program) (G:List Nat) (M0:Mem) (f:FuncId) (F:aA):Prop where
 c0e:∀ n lb m,F (Ep n lb) m=none
 enters:Enters P f
 calls:∀ ι m w (BF:List Value) (as':Array Value) v,DL P G ι m w→(∀ k∈G,m.get k=M0.get k)→BA ι m.gen BF as'.toList→F BF m=some v→plain v=true∧Calls P f as' w fun e w'=>e=.returned v∧Go.RowKit.Below w.heap.size w w'
theorem ZG {α:Type} {f:FuncId} {a:α}:∀ {ls:List (FuncId×α)},ls.lookup f=some a→(f,a)∈ls
 |[],h=>by grind
 |(g,b)::ls,h=>by
  rw [List.lookup_cons] at h;cases hg:f==g with
  |true =>
   grind
  |false=>rw [hg] at h;exact av _ (ZG h)
theorem wV {M0:Mem} {ls:List (FuncId×aA)} (h:∀ x∈ls,Un P G M0 x.1 x.2):Gu P G (lY G M0 ls):=by
 intro f Fo hf;unfold lY at hf;split at hf
 ·rename_i F hl
  cases hf;have hs:=h _ (ZG hl);refine ⟨fun BF m v m' hv ι w as' Dv hrel=>?_,fun BF m v m' hv=>?_,hs.enters,XM.none fun n lb m=>by
   have h0:F (Ep n lb) m=none:=hs.c0e n lb m;grind⟩
  ·simp only at hv
   split at hv
   ·rename_i hg
    rw [ae] at hv;obtain ⟨u,h1,h2⟩:=hv;cases h2;obtain ⟨h3,h4⟩:=hs.calls ι m w BF as' v Dv hg hrel h1;exact h4.mono fun e w' ⟨he,hb⟩=>⟨v,he,Post.below Dv hb h3⟩
   grind
  ·simp only at hv
   split at hv
   ·rw [ae] at hv
    obtain ⟨u,h1,h2⟩:=hv;cases h2;exact AO.refl _
   grind
 grind
end
section
variable {P:Program}
noncomputable def c2d (P:Program) (F:Nat) (laid:List (String×DataW Unit)) (ls:List (FuncId×aA)):Env :=
 ⟨P,lY (AP P F laid) (Bv P F laid) ls,AP P F laid,gam P F laid⟩
theorem a1e {G:List Nat} {M0:Mem} {ls:List (FuncId×aA)} {f:FuncId} (h:ls.lookup f=none):lY G M0 ls f=none:=by
 unfold lY;rw [h]
variable {H:Type} {enc:TypeId×Value→H} {W:World} {held:Bool}
end
theorem RF.cellsOf {m:Mem} {F:Nat→Prop} {e:TypeId} {cs:List FV} {n sz:Nat} {v:Value} (h:RF m F (.lst e cs n) v) (hl:cs.length=n*sz):∃ vs,Ci m sz n v=some vs∧Dj m F cs vs∧lenOf v=some n:=by
 cases h with
 |nil e=>exact ⟨[],rfl,.nil,rfl⟩
 |room e b o g=>exact ⟨[],rfl,.nil,rfl⟩
 |lst hF hm hw hr hc =>
  rename_i b o g vs ws ro;refine ⟨ws,?_,hr,rfl⟩;have:m.Em ⟨b,o,some g⟩ (n*sz)=some ws:=by
   unfold Mem.Em;simp only [hm,Oh,Option.getD_some,if_true,← hl,hw]
  cases n with
  |zero=>assumption
  |succ n=>simp only [Ci,Nat.le_refl,if_true,this]
theorem VO {P:Program} {G:List Nat} {ι:BJ} {m:Mem} {w:World} {n:Nat} {s s':Value} {l:List Value} (hs:DL P G ι m w) (hv:Aw ι m.gen s s') (hn:lenOf s=some n) (hns:∀ b,s≠.string b) (h:Ci m 1 n s=some l) :
 ∃ a cap,s'=.slice a n cap∧l.length=n∧(a=none∧n=0∨∃ A,a=some A∧A.spot=none∨n=0)∧∀ A,a=some A→∀ j v,l[j]?=some v→plain v=true→w.cell? (A.add j)=some v:=by
 have hlen:=Fg h;cases hv with
 |J6=>cases hn;grind
 |wz b o s a' =>
  cases hn;grind
 |sl b off len gen a' cap hr =>
  cases hn;refine ⟨some a',cap,rfl,by omega,?_,fun A hA j v hj hp=>?_⟩
  ·rcases am n with h0|h0
   ·simp_all
   ·refine .inr ⟨a',.inl ⟨rfl,?_⟩⟩
    have hl':m.Em ⟨b,off,some gen⟩ n=some l:=by unfold Ci at h;grind
    obtain ⟨vs,e,g,ro,hg,hag,hgen,_,_⟩:=IY hl';obtain ⟨ib,_,_,_,hcur⟩:=hr;have hag':gen=g:=hag;grind
  ·cases hA
   have hj2:=(bw.1 hj).1;have hpos:0<n:=by omega
   have ha:=JC hr (fun _=>hpos) 0;rw [Addr.add_zero'] at ha;have hl':m.Em ⟨b,off,some gen⟩ n=some l:=by unfold Ci at h;grind
   obtain ⟨l',h1,h2,h3⟩:=J5 hs (by omega) hl';obtain ⟨v',h4,h5⟩:=h1.get hj;have e2:v'=v:=h5.BP hp;grind
 |str b=>grind
 |_=>cases hn
end
section
open Go.Am
variable {E:Env} {L:Frame} {H:Heap} {nx:Nat} {Q:PV→Heap→Nat→Prop} {w:Bool}
variable {dst:Option Tmp} {ty:TypeId} {pos:String} {af:Array Edge} {gd:Option (Nat×Bool)}
theorem Aa.a4b {t t2:TypeId} {x y:Operand} {a b:Nat} (hx:AU E.Γ L x=some (.p (.int .u64 (a:Int)))) (hy:AU E.Γ L y=some (.p (.int .u64 (b:Int)))) (h:a+b<18446744073709551616) (q:Q (.p (.int .u64 ((a+b:Nat):Int))) H nx) :
 Aa E w ⟨dst,.binOp .add t x y t2,ty,pos,af,gd⟩ L H nx Q:=Aa.c5v hx hy (by omega) (by grind)
theorem Aa.b4m {t t2:TypeId} {x y:Operand} {a b:Nat} (hx:AU E.Γ L x=some (.p (.int .u64 (a:Int)))) (hy:AU E.Γ L y=some (.p (.int .u64 (b:Int)))) (h:a*b<18446744073709551616) (q:Q (.p (.int .u64 ((a*b:Nat):Int))) H nx) :
 Aa E w ⟨dst,.binOp .mul t x y t2,ty,pos,af,gd⟩ L H nx Q:=Aa.c5a hx hy (by omega) (by grind)
theorem Aa.c1t {t t2:TypeId} {x y:Operand} {a b:Nat} (hx:AU E.Γ L x=some (.p (.int .u64 (a:Int)))) (hy:AU E.Γ L y=some (.p (.int .u64 (b:Int)))) (h:b≤a∧a<18446744073709551616) (q:Q (.p (.int .u64 ((a-b:Nat):Int))) H nx) :
 Aa E w ⟨dst,.binOp .sub t x y t2,ty,pos,af,gd⟩ L H nx Q:=Aa.c6a hx hy (by omega) (by grind)
theorem Aa.c1x {t t2:TypeId} {x y:Operand} {a c:Nat} (hx:AU E.Γ L x=some (.p (.int .u64 (a:Int)))) (hy:AU E.Γ L y=some (.p (.int .u64 (c:Int)))) (h:a<18446744073709551616∧0<c) (q:Q (.p (.int .u64 ((a / c:Nat):Int))) H nx) :
 Aa E w ⟨dst,.binOp .quo t x y t2,ty,pos,af,gd⟩ L H nx Q:=Aa.c5h hx hy (by omega) (by omega) (by grind)
theorem Aa.b4r {t t2:TypeId} {x y:Operand} {a c:Nat} (hx:AU E.Γ L x=some (.p (.int .u64 (a:Int)))) (hy:AU E.Γ L y=some (.p (.int .u64 (c:Int)))) (h:0<c) (q:Q (.p (.int .u64 ((a % c:Nat):Int))) H nx) :
 Aa E w ⟨dst,.binOp .rem t x y t2,ty,pos,af,gd⟩ L H nx Q:=Aa.Qv hx hy h q
theorem Aa.b9e {t t2:TypeId} {x y:Operand} {a:Nat} {c:Int} (hx:AU E.Γ L x=some (.p (.int .u64 (a:Int)))) (hy:AU E.Γ L y=some (.p (.int .u64 c))) (h:a<18446744073709551616∧0<c) (q:Q (.p (.int .u64 ((a / c.toNat:Nat):Int))) H nx) :
 Aa E w ⟨dst,.binOp .quo t x y t2,ty,pos,af,gd⟩ L H nx Q:=Aa.c1x (c:=c.toNat) hx (by grind) (by omega) q
theorem Aa.c0z {t t2:TypeId} {x y:Operand} {a:Nat} {c:Int} (hx:AU E.Γ L x=some (.p (.int .u64 (a:Int)))) (hy:AU E.Γ L y=some (.p (.int .u64 c))) (h:0<c) (q:Q (.p (.int .u64 ((a % c.toNat:Nat):Int))) H nx) :
 Aa E w ⟨dst,.binOp .rem t x y t2,ty,pos,af,gd⟩ L H nx Q:=Aa.b4r (c:=c.toNat) hx (by grind) (by omega) q
theorem Aa.c1e {t t2:TypeId} {x y:Operand} {m n:Nat} (hx:AU E.Γ L x=some (.p (.int .i64 (m:Int)))) (hy:AU E.Γ L y=some (.p (.int .i64 (n:Int)))) (h:m<9223372036854775808∧n<9223372036854775808) (q:Q (.p (.int .i64 ((m &&& n:Nat):Int))) H nx) :
 Aa E w ⟨dst,.binOp .and t x y t2,ty,pos,af,gd⟩ L H nx Q:=Aa.int hx hy (ou (.inl ⟨rfl,h.1⟩) (by omega)) q
theorem Aa.c1o {t t2:TypeId} {x y:Operand} {a c:Nat} (hx:AU E.Γ L x=some (.p (.int .u8 (a:Int)))) (hy:AU E.Γ L y=some (.p (.int .u8 (c:Int)))) (h:c≤a∧a<256) (q:Q (.p (.int .u8 ((a-c:Nat):Int))) H nx) :
 Aa E w ⟨dst,.binOp .sub t x y t2,ty,pos,af,gd⟩ L H nx Q:=Aa.c3e hx hy (by omega) (by grind)
structure Hd (Q:Prop):Prop where
 o:Q
theorem go0 {P Q:Prop} (q:Q) (h:Hd Q→P:=by intro q;repeat1' (first|apply Ad.assoc|apply Ad.Gw|apply Ad.CW|apply Bq.normal|apply Bd.exit|apply Aj.exit|apply Ad.ret|apply Ah.nil|apply Ah.one|(apply Aa.assign;rfl)|(apply Aa.move;rfl)|(apply Aa.int;rfl;rfl;rfl)|(apply Aa.load;rfl;rfl)|(apply Aa.Nk;rfl;rfl)|(apply Aa.D8;rfl;rfl;rfl)|(apply Aa.alloc;rfl)|(apply Aa.Dz;rfl;rfl;rfl;trivial;rfl;rfl;exact AY rfl;exact le_dec rfl));exact q.o):P:=h ⟨q⟩
theorem go1 {P Q:Prop} (q:Q) (h:Hd Q→P:=by intro q;repeat1' (first|apply Ad.assoc|apply Ad.CO|apply Ad.Gw|apply Ad.CW|apply Bq.normal|apply Bd.normal|apply Bd.exit|apply Aj.exit|apply Ad.ret|apply Ah.nil|apply Af.nil|apply Ah.one|(apply Af.bar;decide +kernel)|apply Af.quiet|(apply Ah.take;rfl;rfl)|(apply Af.VR;rfl;rfl)|(apply Af.drop;rfl;rfl;rfl)|(apply Aa.assign;rfl)|(apply Aa.move;rfl)|(apply Aa.Jl;rfl;rfl;omega)|(apply Aa.qY;rfl;rfl;omega)|(apply Aa.KL;rfl;rfl;omega;omega)|(apply Aa.load;rfl;rfl)|(apply Aa.ND;rfl;rfl)|(apply Aa.TG;rfl;rfl)|(apply Aa.Nk;rfl;rfl)|(apply Aa.D8;rfl;rfl;rfl)|(apply Aa.kP;rfl;rfl)|(apply Aa.box;rfl;trivial)|(apply Aa.alloc;rfl)|(apply Aa.Dz;rfl;rfl;rfl;trivial;rfl;rfl;exact AY rfl;exact le_dec rfl)|(apply Aa.not;rfl)|(apply Aa.extract;rfl;rfl));exact q.o):P:=h ⟨q⟩
theorem go2 {P Q:Prop} (q:Q) (h:Hd Q→P:=by intro q;repeat1' (first|apply Ad.assoc|apply Ad.Bf|apply Ad.Bl|apply Ad.region|apply Ad.Dq|apply Ad.CO|apply Ad.Fq|apply Ad.Gw|apply Ad.CW|apply Bq.normal|apply Bq.ret|apply Bd.normal|apply Bd.ret|apply Bd.exit|apply Aj.ret|apply Aj.exit|apply Ad.ret|apply Ad.skip|apply Ah.nil|apply Af.nil|apply Ah.one|(apply Af.bar;decide +kernel)|apply Af.quiet|(apply Ah.take;rfl;rfl)|(apply Ah.drop;rfl;rfl;rfl)|(apply Ah.Zu;rfl;rfl)|(apply Af.drop;rfl;rfl;rfl)|(apply Aa.assign;rfl)|(apply Aa.move;rfl)|(apply Aa.Jl;rfl;rfl;omega)|(apply Aa.qY;rfl;rfl;omega)|(apply Aa.b4j;rfl;rfl;omega)|(apply Aa.c1o (c := 48);rfl;rfl;omega)|(apply Aa.a4b;rfl;rfl;omega)|(apply Aa.b4r;rfl;rfl;omega)|(apply Aa.b4m (a := 10);rfl;rfl;omega)|(apply Aa.orU;rfl;rfl;omega;omega)|(apply Aa.KL;rfl;rfl;omega;omega)|(apply Aa.int;rfl;rfl;rfl)|(apply Aa.Oo;rfl;rfl;omega;rfl)|(apply Aa.load;rfl;rfl)|(apply Aa.ND;rfl;rfl)|(apply Aa.TG;rfl;rfl)|(apply Aa.Nk;rfl;rfl)|(apply Aa.D8;rfl;rfl;rfl)|(apply Aa.kP;rfl;rfl)|(apply Aa.box;rfl;trivial)|(apply Aa.alloc;rfl)|(apply Aa.Dz;rfl;rfl;rfl;trivial;rfl;rfl;exact AY rfl;exact le_dec rfl)|(apply Aa.not;rfl)|(apply Aa.extract;rfl;rfl));exact q.o):P:=h ⟨q⟩
theorem Cb {P Q:Prop} (q:Q) (h:Hd Q→P:=by intro q;repeat1' (first|apply Ad.assoc|apply Ad.Bf|apply Ad.Bl|apply Ad.region|apply Ad.Dq|apply Ad.CO|apply Ad.Fq|apply Ad.Gw|apply Ad.CW|apply Bq.normal|apply Bq.ret|apply Bd.normal|apply Bd.ret|apply Bd.exit|apply Aj.ret|apply Aj.exit|apply Ad.ret|apply Ad.skip|apply Ah.nil|apply Af.nil|apply Ah.one|(apply Af.bar;decide +kernel)|apply Af.quiet|(apply Ah.take;rfl;rfl)|(apply Af.VR;rfl;rfl)|(apply Ah.drop;rfl;rfl;rfl)|(apply Ah.Zu;rfl;rfl)|(apply Af.drop;rfl;rfl;rfl)|(apply Aa.assign;rfl)|(apply Aa.move;rfl)|(apply Aa.Jl;rfl;rfl;omega)|(apply Aa.qY;rfl;rfl;omega)|(apply Aa.b4j;rfl;rfl;omega)|(apply Aa.a4b;rfl;rfl;omega)|(apply Aa.b4m;rfl;rfl;omega)|(apply Aa.b9e;rfl;rfl;omega)|(apply Aa.c0z;rfl;rfl;omega)|(apply Aa.c1e;rfl;rfl;omega)|(apply Aa.b8y;rfl;rfl;omega;omega)|(apply Aa.orU;rfl;rfl;omega;omega)|(apply Aa.KL;rfl;rfl;omega;omega)|(apply Aa.Oo;rfl;rfl;omega;rfl)|(apply Aa.load;rfl;rfl)|(apply Aa.ND;rfl;rfl)|(apply Aa.TG;rfl;rfl)|(apply Aa.Nk;rfl;rfl)|(apply Aa.D8;rfl;rfl;rfl)|(apply Aa.kP;rfl;rfl)|(apply Aa.box;rfl;trivial)|(apply Aa.alloc;rfl)|(apply Aa.Dz;rfl;rfl;rfl;trivial;rfl;rfl;exact AY rfl;exact le_dec rfl)|(apply Aa.not;rfl)|(apply Aa.extract;rfl;rfl));exact q.o):P:=h ⟨q⟩
theorem Aa.b1h {t:TypeId} {x lo hi:Operand} {l:List UInt8} {k k':IntKind} {a b:Int} (hx:AU E.Γ L x=some (st l)) (hlo:AU E.Γ L lo=some (.p (.int k a))) (hhi:AU E.Γ L hi=some (.p (.int k' b))) (ht:E.P.underlying t=some .string) (h:0≤a∧a≤b∧b≤l.length)
 (q:Q (st ((l.take b.toNat).drop a.toNat)) H nx):Aa E w ⟨dst,.slice t x (some lo) (some hi) none,ty,pos,af,gd⟩ L H nx Q :=
 Aa.jQ (a:=a.toNat) (b:=b.toNat) hx ht ⟨k,by grind⟩ ⟨k',by grind⟩ (by omega) (by omega) q
theorem Aa.a4q {α:Type} {_:Enc α} {l:List α} {t:TypeId} {x o:Operand} {e:TypeId} {n:Nat} {inf:TypeInfo} {k:IntKind} {b:Int} (hx:AU E.Γ L x=some (.p (.lst e (cells l) n))) (hhi:AU E.Γ L o=some (.p (.int k b))) (ht:E.P.underlying t=some (.slice e)) (hi':E.P.info? e=some inf)
 (hsz:inf.size=Enc.size α) (hn:l.length=n) (hb:0≤b∧b≤l.length) (q:Q (.p (.lst e (cells (l.take b.toNat)) b.toNat)) H nx):Aa E w ⟨dst,.slice t x none (some o) none,ty,pos,af,gd⟩ L H nx Q :=
 Aa.sliceTo (b:=b.toNat) hx (by rw [hhi];congr 3;omega) ht hi' hsz hn (by omega) q
end
end Go.Vm
namespace Go.Proofs
open Go.Shelf
def Tryz.lays170_ren:Go.Shelf.Ren:=⟨fun|170=>189|n=>n,fun|70=>282|3=>3|0=>0|72=>284|37=>55|5=>5|n=>n,fun|n=>n⟩
def Tryz.lays169_ren:Go.Shelf.Ren:=⟨fun|169=>166|n=>n,fun|70=>282|9=>9|0=>0|72=>284|37=>55|127=>317|3=>3|5=>5|n=>n,fun|n=>n⟩
theorem Tryz.lays169:Go.Proofs.Lays.n169 Tryz.prog Tryz.lays169_ren:={
 mixed:=by rfl
 f169:=Tryz.func166.trans (congrArg some (by rfl))
 t0:=Tryz.underlying0
 a0:=Tryz.isAgg0
 z0:=Tryz.sizeOf0
 v0:=Tryz.zeroValue0
 t3:=Tryz.underlying3
 a3:=Tryz.isAgg3
 z3:=Tryz.sizeOf3
 v3:=Tryz.zeroValue3
 t9:=Tryz.underlying9
 a9:=Tryz.isAgg9
 z9:=Tryz.sizeOf9
 v9:=Tryz.zeroValue9
 t37:=Tryz.underlying55
 a37:=Tryz.isAgg55
 z37:=Tryz.sizeOf55
 v37:=Tryz.zeroValue55
 t70:=Tryz.underlying282
 a70:=Tryz.isAgg282
 z70:=Tryz.sizeOf282
 v70:=Tryz.zeroValue282
 t72:=Tryz.underlying284
 a72:=Tryz.isAgg284
 z72:=Tryz.sizeOf284
 v72:=Tryz.zeroValue284
 t127:=Tryz.underlying317
 a127:=Tryz.isAgg317
 z127:=Tryz.sizeOf317
 v127:=Tryz.zeroValue317 }
theorem Tryz.Builder_Extra_169:Builder.Extra Tryz.prog Tryz.lays169_ren:={
 sizeBuilder:=by kernel_rfl
 liesBuilder:=by kernel_rfl
 t5:=Tryz.underlying5
 a5:=Tryz.isAgg5
 z5:=Tryz.sizeOf5
 v5:=Tryz.zeroValue5
 infoByte:=by kernel_rfl
 cellsByte:=by kernel_rfl
 sizeByte:=by kernel_rfl
 neB5:=by decide }
def Tryz.lays241_ren:Go.Shelf.Ren:=⟨fun|241=>203|277=>207|n=>n,fun|70=>282|3=>3|0=>0|72=>284|37=>55|5=>5|n=>n,fun|n=>n⟩
def Tryz.lays165_ren:Go.Shelf.Ren:=⟨fun|165=>188|240=>186|241=>203|276=>200|277=>207|n=>n,fun|70=>282|3=>3|0=>0|4=>4|9=>9|20=>20|72=>284|37=>55|164=>328|5=>5|n=>n,fun|n=>n⟩
def Tryz.lays213_ren:Go.Shelf.Ren:=⟨fun|213=>105|265=>145|n=>n,fun|9=>9|3=>3|n=>n,fun|n=>n⟩
def Tryz.lays106_ren:Go.Shelf.Ren:=⟨fun|106=>55|213=>105|265=>145|n=>n,fun|9=>9|3=>3|n=>n,fun|n=>n⟩
theorem Tryz.lays106:Go.Proofs.Lays.n106 Tryz.prog Tryz.lays106_ren:={
 mixed:=by rfl
 f106:=Tryz.func55.trans (congrArg some (by rfl))
 f213:=Tryz.func105.trans (congrArg some (by rfl))
 f265:=Tryz.func145.trans (congrArg some (by rfl))
 t3:=Tryz.underlying3
 a3:=Tryz.isAgg3
 z3:=Tryz.sizeOf3
 v3:=Tryz.zeroValue3
 t9:=Tryz.underlying9
 a9:=Tryz.isAgg9
 z9:=Tryz.sizeOf9
 v9:=Tryz.zeroValue9 }
open Go.RowKit in
theorem Tryz.strings_Compare (a b:ByteArray) (w:World) :
 Calls Tryz.prog 55 #[.string a,.string b] w fun e w'=>e=.returned (.int .i64 (Lib.compareBytes a.data.toList b.data.toList))∧w'=w:=Any.strings_Compare Tryz.lays106 a b w
open Go.RowKit in
theorem Tryz.Builder_String_any_k (B b:Nat) (l:List UInt8) (w:World) (h:Lib.IsBuilderF 284 5 B b (Lib.byteCells l) w) (hBw:B≤w.heap.size) :
 Calls Tryz.prog 166 #[.pointer (some ⟨b,0,none⟩)] w fun e w'=>e=.returned (.string ⟨l.toArray⟩)∧(Lib.IsBuilderF 284 5 B b (Lib.byteCells l) w'∧Below B w w'∧Lib.OthersKept 5 (some b) w w'):=Any.Builder_String_any_k Tryz.lays169 Tryz.Builder_Extra_169 B b l w h hBw
def Tryz.lays129_ren:Go.Shelf.Ren:=⟨fun|129=>142|n=>n,fun|53=>82|3=>3|4=>4|46=>214|5=>5|9=>9|n=>n,fun|n=>n⟩
def Tryz.lays317_ren:Go.Shelf.Ren:=⟨fun|317=>191|n=>n,fun|3=>3|46=>214|n=>n,fun|n=>n⟩
def Tryz.lays318_ren:Go.Shelf.Ren:=⟨fun|318=>192|n=>n,fun|3=>3|4=>4|n=>n,fun|n=>n⟩
def Tryz.lays283_ren:Go.Shelf.Ren:=⟨fun|283=>172|n=>n,fun|3=>3|9=>9|4=>4|n=>n,fun|n=>n⟩
theorem Tryz.lays283:Go.Proofs.Lays.n283 Tryz.prog Tryz.lays283_ren:={
 mixed:=by rfl
 f283:=Tryz.func172.trans (congrArg some (by rfl))
 t3:=Tryz.underlying3
 a3:=Tryz.isAgg3
 z3:=Tryz.sizeOf3
 v3:=Tryz.zeroValue3
 t4:=Tryz.underlying4
 a4:=Tryz.isAgg4
 z4:=Tryz.sizeOf4
 v4:=Tryz.zeroValue4
 t9:=Tryz.underlying9
 a9:=Tryz.isAgg9
 z9:=Tryz.sizeOf9
 v9:=Tryz.zeroValue9 }
open Go.Lib in
theorem Tryz.internal_strconv_small (i:Nat) (h:i<100) (w:World) :
 Calls Tryz.prog 172 #[.int .i64 i] w fun e w'=>e=.returned (.string ⟨(Lib.decDigits i).toArray⟩)∧w'=w:=Any.internal_strconv_small Tryz.lays283 i h w
def Tryz.laysM284_ren:Go.Shelf.Ren:=⟨fun|284=>173|129=>142|317=>191|318=>192|n=>n,fun|53=>82|3=>3|212=>322|0=>0|4=>4|46=>214|5=>5|9=>9|n=>n,fun|17=>2|n=>n⟩
theorem Tryz.laysM284:Go.Proofs.LaysM.n284 Tryz.prog Tryz.laysM284_ren:={
 mixed:=by rfl
 f129:=Tryz.func142.trans (congrArg some (by rfl))
 f284:=Tryz.func173.trans (congrArg some (by rfl))
 f317:=Tryz.func191.trans (congrArg some (by rfl))
 f318:=Tryz.func192.trans (congrArg some (by rfl))
 t0:=Tryz.underlying0
 a0:=Tryz.isAgg0
 z0:=Tryz.sizeOf0
 v0:=Tryz.zeroValue0
 t3:=Tryz.underlying3
 a3:=Tryz.isAgg3
 z3:=Tryz.sizeOf3
 v3:=Tryz.zeroValue3
 t4:=Tryz.underlying4
 a4:=Tryz.isAgg4
 z4:=Tryz.sizeOf4
 v4:=Tryz.zeroValue4
 t5:=Tryz.underlying5
 a5:=Tryz.isAgg5
 z5:=Tryz.sizeOf5
 v5:=Tryz.zeroValue5
 t9:=Tryz.underlying9
 a9:=Tryz.isAgg9
 z9:=Tryz.sizeOf9
 v9:=Tryz.zeroValue9
 t46:=Tryz.underlying214
 a46:=Tryz.isAgg214
 z46:=Tryz.sizeOf214
 v46:=Tryz.zeroValue214
 t53:=Tryz.underlying82
 a53:=Tryz.isAgg82
 z53:=Tryz.sizeOf82
 v53:=Tryz.zeroValue82
 t212:=Tryz.underlying322
 a212:=Tryz.isAgg322
 z212:=Tryz.sizeOf322
 v212:=Tryz.zeroValue322
 g17:=by kernel_rfl
 i0:=by kernel_rfl
 i3:=by kernel_rfl
 i4:=by kernel_rfl
 i5:=by kernel_rfl
 i9:=by kernel_rfl
 i46:=by kernel_rfl
 i53:=by kernel_rfl
 i212:=by kernel_rfl
 m17:=by rfl }
open Go.Lib in
theorem Tryz.internal_strconv_numDigits (u:Nat) (h1:1≤u) (h2:u<18446744073709551616) (w:World) (htab:Lib.TabIs Tryz.prog w "internal/strconv.uint64pow10" .u64 Lib.pow10Tab) :
 Calls Tryz.prog 173 #[.int .u64 u] w fun e w'=>e=.returned (.int .i64 (Lib.nDigits u))∧w'=w:=Any.internal_strconv_numDigits Tryz.laysM284 u h1 h2 w htab
def Tryz.lays285_ren:Go.Shelf.Ren:=⟨fun|285=>174|n=>n,fun|37=>55|53=>82|3=>3|4=>4|51=>261|9=>9|5=>5|0=>0|n=>n,fun|n=>n⟩
theorem Tryz.lays285:Go.Proofs.Lays.n285 Tryz.prog Tryz.lays285_ren:={
 mixed:=by rfl
 f285:=Tryz.func174.trans (congrArg some (by rfl))
 t0:=Tryz.underlying0
 a0:=Tryz.isAgg0
 z0:=Tryz.sizeOf0
 v0:=Tryz.zeroValue0
 t3:=Tryz.underlying3
 a3:=Tryz.isAgg3
 z3:=Tryz.sizeOf3
 v3:=Tryz.zeroValue3
 t4:=Tryz.underlying4
 a4:=Tryz.isAgg4
 z4:=Tryz.sizeOf4
 v4:=Tryz.zeroValue4
 t5:=Tryz.underlying5
 a5:=Tryz.isAgg5
 z5:=Tryz.sizeOf5
 v5:=Tryz.zeroValue5
 t9:=Tryz.underlying9
 a9:=Tryz.isAgg9
 z9:=Tryz.sizeOf9
 v9:=Tryz.zeroValue9
 t37:=Tryz.underlying55
 a37:=Tryz.isAgg55
 z37:=Tryz.sizeOf55
 v37:=Tryz.zeroValue55
 t51:=Tryz.underlying261
 a51:=Tryz.isAgg261
 z51:=Tryz.sizeOf261
 v51:=Tryz.zeroValue261
 t53:=Tryz.underlying82
 a53:=Tryz.isAgg82
 z53:=Tryz.sizeOf82
 v53:=Tryz.zeroValue82 }
open Go.RowKit Go.Sort Go.Lib in
theorem Tryz.internal_strconv_formatBase10 (blk off cap:Nat) (u:Nat) (d:Array UInt8) (w:World) (hH:Holds (fun (b:UInt8)=>Value.int .u8 (b.toNat:Int)) w blk off d) (hu:u<10 ^ d.size) (hu64:u<18446744073709551616) (hsz:d.size<4611686018427387904) :
 Calls Tryz.prog 174 #[.slice (some ⟨blk,off,none⟩) d.size cap,.int .u64 u] w fun e w' =>
  e=.returned (.tuple #[])∧∃ (n v':Nat) (dk:Array UInt8),w'=(putRow (fun (b:UInt8)=>Value.int .u8 (b.toNat:Int)) w blk off dk).drewN n∧FmtInv d.size u 0 v' dk:=Any.internal_strconv_formatBase10 Tryz.lays285 blk off cap u d w hH hu hu64 hsz
def Tryz.laysM246_ren:Go.Shelf.Ren:=⟨fun|246=>143|283=>172|284=>173|285=>174|286=>175|129=>142|317=>191|318=>192|319=>193|320=>194|337=>204|338=>148|n=>n,fun|2=>2|3=>3|9=>9|4=>4|171=>300|0=>0|53=>82|37=>55|5=>5|173=>302|212=>322|51=>261|20=>20|213=>323|46=>214|232=>336|233=>304|n=>n,fun|17=>2|18=>3|19=>1|n=>n⟩
def Tryz.lays246_ren:Go.Shelf.Ren:=⟨fun|246=>143|283=>172|284=>173|285=>174|286=>175|129=>142|317=>191|318=>192|319=>193|320=>194|337=>204|338=>148|n=>n,fun|2=>2|3=>3|9=>9|4=>4|171=>300|0=>0|53=>82|37=>55|5=>5|173=>302|212=>322|51=>261|20=>20|213=>323|46=>214|232=>336|233=>304|n=>n,fun|17=>2|18=>3|19=>1|n=>n⟩
def Tryz.laysM243_ren:Go.Shelf.Ren:=⟨fun|243=>102|246=>143|283=>172|284=>173|285=>174|286=>175|129=>142|317=>191|318=>192|319=>193|320=>194|337=>204|338=>148|n=>n,fun|3=>3|9=>9|2=>2|4=>4|171=>300|0=>0|53=>82|37=>55|5=>5|173=>302|212=>322|51=>261|20=>20|213=>323|46=>214|232=>336|233=>304|n=>n,fun|17=>2|18=>3|19=>1|n=>n⟩
def Tryz.lays243_ren:Go.Shelf.Ren:=⟨fun|243=>102|246=>143|283=>172|284=>173|285=>174|286=>175|129=>142|317=>191|318=>192|319=>193|320=>194|337=>204|338=>148|n=>n,fun|3=>3|9=>9|2=>2|4=>4|171=>300|0=>0|53=>82|37=>55|5=>5|173=>302|212=>322|51=>261|20=>20|213=>323|46=>214|232=>336|233=>304|n=>n,fun|17=>2|18=>3|19=>1|n=>n⟩
def Tryz.laysM171_ren:Go.Shelf.Ren:=⟨fun|171=>52|243=>102|246=>143|283=>172|284=>173|285=>174|286=>175|129=>142|317=>191|318=>192|319=>193|320=>194|337=>204|338=>148|n=>n,fun|3=>3|9=>9|2=>2|4=>4|171=>300|0=>0|53=>82|37=>55|5=>5|173=>302|212=>322|51=>261|20=>20|213=>323|46=>214|232=>336|233=>304|n=>n,fun|17=>2|18=>3|19=>1|n=>n⟩
theorem Tryz.laysM171:Go.Proofs.LaysM.n171 Tryz.prog Tryz.laysM171_ren:={
 mixed:=by kernel_rfl
 f129:=Tryz.func142.trans (congrArg some (by kernel_rfl))
 f171:=Tryz.func52.trans (congrArg some (by kernel_rfl))
 f243:=Tryz.func102.trans (congrArg some (by kernel_rfl))
 f246:=Tryz.func143.trans (congrArg some (by kernel_rfl))
 f283:=Tryz.func172.trans (congrArg some (by kernel_rfl))
 f284:=Tryz.func173.trans (congrArg some (by kernel_rfl))
 f285:=Tryz.func174.trans (congrArg some (by kernel_rfl))
 f286:=Tryz.func175.trans (congrArg some (by kernel_rfl))
 f317:=Tryz.func191.trans (congrArg some (by kernel_rfl))
 f318:=Tryz.func192.trans (congrArg some (by kernel_rfl))
 f319:=Tryz.func193.trans (congrArg some (by kernel_rfl))
 f320:=Tryz.func194.trans (congrArg some (by kernel_rfl))
 f337:=Tryz.func204.trans (congrArg some (by kernel_rfl))
 f338:=Tryz.func148.trans (congrArg some (by kernel_rfl))
 t0:=Tryz.underlying0
 a0:=Tryz.isAgg0
 z0:=Tryz.sizeOf0
 v0:=Tryz.zeroValue0
 t2:=Tryz.underlying2
 a2:=Tryz.isAgg2
 z2:=Tryz.sizeOf2
 v2:=Tryz.zeroValue2
 t3:=Tryz.underlying3
 a3:=Tryz.isAgg3
 z3:=Tryz.sizeOf3
 v3:=Tryz.zeroValue3
 t4:=Tryz.underlying4
 a4:=Tryz.isAgg4
 z4:=Tryz.sizeOf4
 v4:=Tryz.zeroValue4
 t5:=Tryz.underlying5
 a5:=Tryz.isAgg5
 z5:=Tryz.sizeOf5
 v5:=Tryz.zeroValue5
 t9:=Tryz.underlying9
 a9:=Tryz.isAgg9
 z9:=Tryz.sizeOf9
 v9:=Tryz.zeroValue9
 t20:=Tryz.underlying20
 a20:=Tryz.isAgg20
 z20:=Tryz.sizeOf20
 v20:=Tryz.zeroValue20
 t37:=Tryz.underlying55
 a37:=Tryz.isAgg55
 z37:=Tryz.sizeOf55
 v37:=Tryz.zeroValue55
 t46:=Tryz.underlying214
 a46:=Tryz.isAgg214
 z46:=Tryz.sizeOf214
 v46:=Tryz.zeroValue214
 t51:=Tryz.underlying261
 a51:=Tryz.isAgg261
 z51:=Tryz.sizeOf261
 v51:=Tryz.zeroValue261
 t53:=Tryz.underlying82
 a53:=Tryz.isAgg82
 z53:=Tryz.sizeOf82
 v53:=Tryz.zeroValue82
 t171:=Tryz.underlying300
 a171:=Tryz.isAgg300
 z171:=Tryz.sizeOf300
 v171:=Tryz.zeroValue300
 t173:=Tryz.underlying302
 a173:=Tryz.isAgg302
 z173:=Tryz.sizeOf302
 v173:=Tryz.zeroValue302
 t212:=Tryz.underlying322
 a212:=Tryz.isAgg322
 z212:=Tryz.sizeOf322
 v212:=Tryz.zeroValue322
 t213:=Tryz.underlying323
 a213:=Tryz.isAgg323
 z213:=Tryz.sizeOf323
 t232:=Tryz.underlying336
 a232:=Tryz.isAgg336
 z232:=Tryz.sizeOf336
 v232:=Tryz.zeroValue336
 t233:=Tryz.underlying304
 a233:=Tryz.isAgg304
 z233:=Tryz.sizeOf304
 v233:=Tryz.zeroValue304
 g17:=by kernel_rfl
 g18:=by kernel_rfl
 g19:=by kernel_rfl
 i0:=by kernel_rfl
 i2:=by kernel_rfl
 i3:=by kernel_rfl
 i4:=by kernel_rfl
 i5:=by kernel_rfl
 i9:=by kernel_rfl
 i20:=by kernel_rfl
 i37:=by kernel_rfl
 i46:=by kernel_rfl
 i51:=by kernel_rfl
 i53:=by kernel_rfl
 i171:=by kernel_rfl
 i173:=by kernel_rfl
 i212:=by kernel_rfl
 i232:=by kernel_rfl
 i233:=by kernel_rfl
 m17:=by kernel_rfl
 m18:=by kernel_rfl
 m19:=by kernel_rfl }
open Go.RowKit Go.Sort Go.Lib in
theorem Tryz.strconv_Itoa (n:Int) (h0:-9223372036854775808≤n) (h1:n≤9223372036854775807) (w:World) (htab:Lib.TabIs Tryz.prog w "internal/strconv.uint64pow10" .u64 Lib.pow10Tab) :
 Calls Tryz.prog 52 #[.int .i64 n] w fun e w'=>e=.returned (.string ⟨(Lib.itoa n).toArray⟩)∧∃ k os,w'=grow (w.drewN k) os:=Any.strconv_Itoa Tryz.laysM171 n h0 h1 w htab
def Tryz.lays171_ren:Go.Shelf.Ren:=⟨fun|171=>52|243=>102|246=>143|283=>172|284=>173|285=>174|286=>175|129=>142|317=>191|318=>192|319=>193|320=>194|337=>204|338=>148|n=>n,fun|3=>3|9=>9|2=>2|4=>4|171=>300|0=>0|53=>82|37=>55|5=>5|173=>302|212=>322|51=>261|20=>20|213=>323|46=>214|232=>336|233=>304|n=>n,fun|17=>2|18=>3|19=>1|n=>n⟩
def Tryz.lays189_ren:Go.Shelf.Ren:=⟨fun|189=>48|125=>100|257=>99|128=>141|129=>142|294=>132|295=>133|296=>134|297=>135|298=>136|299=>137|216=>138|300=>139|301=>140|328=>167|329=>168|330=>169|331=>170|332=>171|215=>126|343=>190|n=>n,fun|28=>28|3=>3|46=>214|0=>0|51=>261|53=>82|4=>4|183=>254|182=>253|131=>200|5=>5|9=>9|218=>294|222=>298|228=>318|229=>143|n=>n,fun|n=>n⟩
theorem Tryz.lays189:Go.Proofs.Lays.n189 Tryz.prog Tryz.lays189_ren:={
 mixed:=by rfl
 f125:=Tryz.func100.trans (congrArg some (by rfl))
 f128:=Tryz.func141.trans (congrArg some (by rfl))
 f129:=Tryz.func142.trans (congrArg some (by rfl))
 f189:=Tryz.func48.trans (congrArg some (by rfl))
 f215:=Tryz.func126.trans (congrArg some (by rfl))
 f216:=Tryz.func138.trans (congrArg some (by rfl))
 f257:=Tryz.func99.trans (congrArg some (by rfl))
 f294:=Tryz.func132.trans (congrArg some (by rfl))
 f295:=Tryz.func133.trans (congrArg some (by rfl))
 f296:=Tryz.func134.trans (congrArg some (by rfl))
 f297:=Tryz.func135.trans (congrArg some (by rfl))
 f298:=Tryz.func136.trans (congrArg some (by rfl))
 f299:=Tryz.func137.trans (congrArg some (by rfl))
 f300:=Tryz.func139.trans (congrArg some (by rfl))
 f301:=Tryz.func140.trans (congrArg some (by rfl))
 f328:=Tryz.func167.trans (congrArg some (by rfl))
 f329:=Tryz.func168.trans (congrArg some (by rfl))
 f330:=Tryz.func169.trans (congrArg some (by rfl))
 f331:=Tryz.func170.trans (congrArg some (by rfl))
 f332:=Tryz.func171.trans (congrArg some (by rfl))
 f343:=Tryz.func190.trans (congrArg some (by rfl))
 t0:=Tryz.underlying0
 a0:=Tryz.isAgg0
 z0:=Tryz.sizeOf0
 v0:=Tryz.zeroValue0
 t3:=Tryz.underlying3
 a3:=Tryz.isAgg3
 z3:=Tryz.sizeOf3
 v3:=Tryz.zeroValue3
 t4:=Tryz.underlying4
 a4:=Tryz.isAgg4
 z4:=Tryz.sizeOf4
 v4:=Tryz.zeroValue4
 t5:=Tryz.underlying5
 a5:=Tryz.isAgg5
 z5:=Tryz.sizeOf5
 v5:=Tryz.zeroValue5
 t9:=Tryz.underlying9
 a9:=Tryz.isAgg9
 z9:=Tryz.sizeOf9
 v9:=Tryz.zeroValue9
 t28:=Tryz.underlying28
 a28:=Tryz.isAgg28
 z28:=Tryz.sizeOf28
 v28:=Tryz.zeroValue28
 t46:=Tryz.underlying214
 a46:=Tryz.isAgg214
 z46:=Tryz.sizeOf214
 v46:=Tryz.zeroValue214
 t51:=Tryz.underlying261
 a51:=Tryz.isAgg261
 z51:=Tryz.sizeOf261
 v51:=Tryz.zeroValue261
 t53:=Tryz.underlying82
 a53:=Tryz.isAgg82
 z53:=Tryz.sizeOf82
 v53:=Tryz.zeroValue82
 t131:=Tryz.underlying200
 a131:=Tryz.isAgg200
 z131:=Tryz.sizeOf200
 v131:=Tryz.zeroValue200
 t182:=Tryz.underlying253
 a182:=Tryz.isAgg253
 z182:=Tryz.sizeOf253
 v182:=Tryz.zeroValue253
 t183:=Tryz.underlying254
 a183:=Tryz.isAgg254
 z183:=Tryz.sizeOf254
 v183:=Tryz.zeroValue254
 t218:=Tryz.underlying294
 a218:=Tryz.isAgg294
 z218:=Tryz.sizeOf294
 v218:=Tryz.zeroValue294
 t222:=Tryz.underlying298
 a222:=Tryz.isAgg298
 z222:=Tryz.sizeOf298
 v222:=Tryz.zeroValue298
 t228:=Tryz.underlying318
 a228:=Tryz.isAgg318
 z228:=Tryz.sizeOf318
 v228:=Tryz.zeroValue318
 t229:=Tryz.underlying143
 a229:=Tryz.isAgg143
 z229:=Tryz.sizeOf143
 v229:=Tryz.zeroValue143 }
open Go.Sort Go.RowKit in
theorem Tryz.slices_Sort_int (blk off cap:Nat) (zs:List Int) (w:World) (hH:Holds (Value.int .i64) w blk off zs.toArray) (hblk:blk<w.heap.size) (hsz:zs.length<4611686018427387904) :
 Calls Tryz.prog 48 #[.slice (some ⟨blk,off,none⟩) zs.length cap] w fun e w' =>
  e=.returned (.tuple #[])∧∃ n os,w'=grow (putRow (Value.int .i64) (Sort.ahead w n) blk off (zs.mergeSort fun x y=>decide (x≤y)).toArray) os:=Any.slices_Sort_int Tryz.lays189 blk off cap zs w hH hblk hsz
def Tryz.lays206_ren:Go.Shelf.Ren:=⟨fun|206=>144|n=>n,fun|9=>9|4=>4|3=>3|n=>n,fun|n=>n⟩
def Tryz.lays99_ren:Go.Shelf.Ren:=⟨fun|99=>103|206=>144|n=>n,fun|9=>9|4=>4|3=>3|n=>n,fun|n=>n⟩
def Tryz.lays264_ren:Go.Shelf.Ren:=⟨fun|264=>202|n=>n,fun|53=>82|46=>214|n=>n,fun|n=>n⟩
def Tryz.lays212_ren:Go.Shelf.Ren:=⟨fun|212=>187|263=>201|264=>202|n=>n,fun|46=>214|51=>261|146=>330|53=>82|148=>332|n=>n,fun|n=>n⟩
def Tryz.lays105_ren:Go.Shelf.Ren:=⟨fun|105=>165|212=>187|99=>103|165=>188|166=>164|170=>189|169=>166|263=>201|264=>202|206=>144|240=>186|241=>203|276=>200|277=>207|n=>n,fun|9=>9|3=>3|4=>4|20=>20|0=>0|46=>214|109=>313|5=>5|72=>284|76=>291|51=>261|146=>330|53=>82|148=>332|70=>282|37=>55|75=>290|127=>317|164=>328|80=>250|n=>n,fun|n=>n⟩
theorem Tryz.lays105:Go.Proofs.Lays.n105 Tryz.prog Tryz.lays105_ren:={
 mixed:=by rfl
 f99:=Tryz.func103.trans (congrArg some (by rfl))
 f105:=Tryz.func165.trans (congrArg some (by rfl))
 f165:=Tryz.func188.trans (congrArg some (by rfl))
 f166:=Tryz.func164.trans (congrArg some (by rfl))
 f169:=Tryz.func166.trans (congrArg some (by rfl))
 f170:=Tryz.func189.trans (congrArg some (by rfl))
 f206:=Tryz.func144.trans (congrArg some (by rfl))
 f212:=Tryz.func187.trans (congrArg some (by rfl))
 f240:=Tryz.func186.trans (congrArg some (by rfl))
 f241:=Tryz.func203.trans (congrArg some (by rfl))
 f263:=Tryz.func201.trans (congrArg some (by rfl))
 f264:=Tryz.func202.trans (congrArg some (by rfl))
 f276:=Tryz.func200.trans (congrArg some (by rfl))
 f277:=Tryz.func207.trans (congrArg some (by rfl))
 t0:=Tryz.underlying0
 a0:=Tryz.isAgg0
 z0:=Tryz.sizeOf0
 v0:=Tryz.zeroValue0
 t3:=Tryz.underlying3
 a3:=Tryz.isAgg3
 z3:=Tryz.sizeOf3
 v3:=Tryz.zeroValue3
 t4:=Tryz.underlying4
 a4:=Tryz.isAgg4
 z4:=Tryz.sizeOf4
 v4:=Tryz.zeroValue4
 t5:=Tryz.underlying5
 a5:=Tryz.isAgg5
 z5:=Tryz.sizeOf5
 v5:=Tryz.zeroValue5
 t9:=Tryz.underlying9
 a9:=Tryz.isAgg9
 z9:=Tryz.sizeOf9
 v9:=Tryz.zeroValue9
 t20:=Tryz.underlying20
 a20:=Tryz.isAgg20
 z20:=Tryz.sizeOf20
 v20:=Tryz.zeroValue20
 t37:=Tryz.underlying55
 a37:=Tryz.isAgg55
 z37:=Tryz.sizeOf55
 v37:=Tryz.zeroValue55
 t46:=Tryz.underlying214
 a46:=Tryz.isAgg214
 z46:=Tryz.sizeOf214
 v46:=Tryz.zeroValue214
 t51:=Tryz.underlying261
 a51:=Tryz.isAgg261
 z51:=Tryz.sizeOf261
 v51:=Tryz.zeroValue261
 t53:=Tryz.underlying82
 a53:=Tryz.isAgg82
 z53:=Tryz.sizeOf82
 v53:=Tryz.zeroValue82
 t70:=Tryz.underlying282
 a70:=Tryz.isAgg282
 z70:=Tryz.sizeOf282
 v70:=Tryz.zeroValue282
 t72:=Tryz.underlying284
 a72:=Tryz.isAgg284
 z72:=Tryz.sizeOf284
 v72:=Tryz.zeroValue284
 t75:=Tryz.underlying290
 a75:=Tryz.isAgg290
 z75:=Tryz.sizeOf290
 v75:=Tryz.zeroValue290
 t76:=Tryz.underlying291
 a76:=Tryz.isAgg291
 z76:=Tryz.sizeOf291
 v76:=Tryz.zeroValue291
 t109:=Tryz.underlying313
 a109:=Tryz.isAgg313
 z109:=Tryz.sizeOf313
 v109:=Tryz.zeroValue313
 t127:=Tryz.underlying317
 a127:=Tryz.isAgg317
 z127:=Tryz.sizeOf317
 v127:=Tryz.zeroValue317
 t146:=Tryz.underlying330
 a146:=Tryz.isAgg330
 z146:=Tryz.sizeOf330
 v146:=Tryz.zeroValue330
 t148:=Tryz.underlying332
 a148:=Tryz.isAgg332
 z148:=Tryz.sizeOf332
 v148:=Tryz.zeroValue332
 t164:=Tryz.underlying328
 a164:=Tryz.isAgg328
 z164:=Tryz.sizeOf328
 v164:=Tryz.zeroValue328 }
theorem Tryz.Builder_Extra_105:Builder.Extra Tryz.prog Tryz.lays105_ren:={
 sizeBuilder:=by kernel_rfl
 liesBuilder:=by kernel_rfl
 t5:=Tryz.underlying5
 a5:=Tryz.isAgg5
 z5:=Tryz.sizeOf5
 v5:=Tryz.zeroValue5
 infoByte:=by kernel_rfl
 cellsByte:=by kernel_rfl
 sizeByte:=by kernel_rfl
 neB5:=by decide }
open Go.RowKit Go.Lib in
theorem Tryz.strings_Repeat (s:ByteArray) (c:Nat) (w:World) (hc:c≤9223372036854775807) (hlen:s.size*c≤140737488355328) :
 Calls Tryz.prog 165 #[.string s,.int .i64 c] w fun e w'=>e=.returned (.string ⟨(Lib.repeatL s.data.toList c).toArray⟩)∧Below w.heap.size w w':=Any.strings_Repeat Tryz.lays105 Tryz.Builder_Extra_105 s c w hc hlen
def Tryz.laysNm220_ren:Go.Shelf.Ren:=⟨fun|20=>49|n=>n,fun|22=>28|3=>3|4=>4|0=>0|n=>n,fun|n=>n⟩
theorem Tryz.laysNm220:Go.Proofs.Lays2.n20 Tryz.prog Tryz.laysNm220_ren:={
 mixed:=by rfl
 f20:=Tryz.func49.trans (congrArg some (by rfl))
 t0:=Tryz.underlying0
 a0:=Tryz.isAgg0
 z0:=Tryz.sizeOf0
 v0:=Tryz.zeroValue0
 t3:=Tryz.underlying3
 a3:=Tryz.isAgg3
 z3:=Tryz.sizeOf3
 v3:=Tryz.zeroValue3
 t4:=Tryz.underlying4
 a4:=Tryz.isAgg4
 z4:=Tryz.sizeOf4
 v4:=Tryz.zeroValue4
 t22:=Tryz.underlying28
 a22:=Tryz.isAgg28
 z22:=Tryz.sizeOf28
 v22:=Tryz.zeroValue28
 i3:=by kernel_rfl }
open Go.RowKit Go.Lib Go.Sort in
theorem Tryz.slices_Compact_int (blk off cap:Nat) (zs:List Int) (w:World) (hH:Holds (Value.int .i64) w blk off zs.toArray) (hsz:zs.length≤9223372036854775807) (hcap:zs.length≤cap) :
 Calls Tryz.prog 49 #[.slice (some ⟨blk,off,none⟩) zs.length cap] w fun e w'=>e=.returned (.slice (some ⟨blk,off,none⟩) (Lib.compact zs).length cap)∧∃ q,w'=putRow (Value.int .i64) (Sort.ahead w q) blk off (Lib.compact zs++List.replicate (zs.length-(Lib.compact zs).length) 0).toArray:=Any.slices_Compact_int Tryz.laysNm220 blk off cap zs w hH hsz hcap
open Go.RowKit Go.Sort in
theorem Tryz.slices_Sort_int_none (p:Option Addr) (cap:Nat) (w:World) :
 Calls Tryz.prog 48 #[.slice p 0 cap] w fun e w'=>e=.returned (.tuple #[])∧w'=w:=Any.slices_Sort_int_none Tryz.lays189 p cap w
end Go.Proofs
namespace Go.Num
section
open Go.Lib
abbrev B9:Nat:=1000000000
def val:List Nat→Nat
 |[]=>0
 |a::l=>a+B9*val l
def toL (n:Nat):List Nat:=if h:n=0 then [] else (n % B9)::toL (n / B9)
termination_by n
decreasing_by exact dy (by omega) (by decide)
theorem toL_zero:toL 0=[]:=by rw [toL];simp
theorem toL_pos {n:Nat} (h:n≠0):toL n=(n % B9)::toL (n / B9):=by rw [toL,dif_neg h]
theorem toL_nil {n:Nat}:toL n=[]↔n=0:=by
 constructor
 ·intro h
  by_cases h0:n=0
  ·omega
  ·rw [toL_pos h0] at h;cases h
 ·intro h;rw [h,toL_zero]
def bP (l:List Nat):Prop:=∀ a∈l,a<B9
theorem UE (n:Nat):val (toL n)=n:=by
 induction n using Nat.strongRecOn with
 |ind n ih =>
  by_cases h:n=0
  ·rw [h,toL_zero];rfl
  ·rw [toL_pos h,val,ih _ (dy (by omega) (by decide))]
   grind
theorem L9 (n:Nat):bP (toL n):=by
 induction n using Nat.strongRecOn with
 |ind n ih =>
  by_cases h:n=0
  ·rw [h,toL_zero];intro a ha;grind
  ·rw [toL_pos h]
   intro a ha;rcases bm.1 ha with rfl|ha
   ·grind
   ·exact ih _ (dy (by omega) (by decide)) a ha
def Ll:List Nat→List Nat
 |[]=>[]
 |a::t=>if Ll t=[]∧a=0 then [] else a::Ll t
theorem qB {l:List Nat} (h:bP l):Ll l=toL (val l):=by
 induction l with
 |nil=>rw [val,toL_zero];rfl
 |cons a t ih =>
  have ha:a<B9:=h a (by simp);have ih:=ih (fun x hx=>h x (by grind));simp only [Ll,val];rw [ih];by_cases h0:val t=0∧a=0
  ·rw [if_pos ⟨toL_nil.2 h0.1,h0.2⟩,h0.1,h0.2];simp [toL_zero]
  ·rw [if_neg (fun h1=>h0 ⟨toL_nil.1 h1.1,h1.2⟩)]
   have hne:a+B9*val t≠0:=fun e=>h0 ⟨by
    grind,by omega⟩
   rw [toL_pos hne,fS,bt ha,fe _ _ (by decide),eM ha,cw]
theorem VD (l:List Nat):Ll (l++[0])=Ll l:=by
 induction l with
 |nil=>rfl
 |cons a t ih=>simp only [List.cons_append,Ll,ih]
theorem YQ (l:List Nat) {x:Nat} (hx:x≠0):Ll (l++[x])=l++[x]:=by
 induction l with
 |nil=>simp [Ll,hx]
 |cons a t ih=>simp only [List.cons_append,Ll,ih];simp
theorem val_append (l r:List Nat):val (l++r)=val l+B9 ^ l.length*val r:=by
 induction l with
 |nil=>simp [val]
 |cons a t ih=>simp only [List.cons_append,val,ih,List.length_cons,Nat.pow_succ];grind
theorem bY (n:Nat):val (List.replicate n 0)=0:=by
 induction n with
 |zero=>rfl
 |succ n ih=>simp [List.replicate_succ,val,ih]
theorem zS (l:List Nat):∀ (i x:Nat),i<l.length→val (l.set i x)+(l[i]?.getD 0)*B9 ^ i=val l+x*B9 ^ i:=by
 induction l with
 |nil=>simp
 |cons a t ih =>
  intro i x h;cases i with
  |zero=>simp [val];omega
  |succ i =>
   simp only [List.set_cons_succ,val,List.getElem?_cons_succ,Nat.pow_succ];grind
theorem zU {l:List Nat} (h:bP l) {i x:Nat} (hx:x<B9):bP (l.set i x):=fun a ha=>by
 rcases List.mem_or_eq_of_mem_set ha with h1|h1
 ·exact h a h1
 omega
theorem lQ {l:List Nat} (h:bP l) (i:Nat):l[i]?.getD 0<B9:=by
 cases hi:l[i]? with
 |none=>decide
 |some a=>exact h a (eZ hi)
def D (k u:Nat):List UInt8:=(List.range k).map fun t=>dg u (k-1-t)
theorem ER (k u:Nat):(D k u).length=k:=by simp [D]
theorem LP (k u t:Nat) (h:t<k):(D k u)[t]?=some (dg u (k-1-t)):=by
 unfold D;grind
theorem EL (u:Nat):decDigits u=D (nDigits u) u:=decDigits_eq u
theorem b6f {a m j:Nat} (hj:j<9):dg (a+B9*m) j=dg a j:=by
 unfold dg;have hB:B9=10 ^ j*10 ^ (9-j):=by rw [← cv,show j+(9-j)=9 by omega]
 rw [hB,cP,fe _ _ (cV (by decide))];rw [show 9-j=(8-j)+1 by omega,bR,cY (10 ^ (8-j)) 10,cP,fS]
theorem b1s {a m j:Nat} (ha:a<B9):dg (a+B9*m) (j+9)=dg m j:=by
 unfold dg;rw [cv,cY (10 ^ j),← eE,show (10:Nat) ^ 9=B9 from rfl,fe _ _ (by decide),eM ha,cw]
theorem b0v {a m p:Nat} (ha:a<B9):D (p+9) (a+B9*m)=D p m++D 9 a:=by
 apply bu;intro t;by_cases h1:t<p
 ·rw [LP _ _ _ (by omega),cb (by rw [ER];omega),LP _ _ _ h1]
  rw [show p+9-1-t=(p-1-t)+9 by omega,b1s ha]
 ·rw [br (by rw [ER];omega),ER]
  by_cases h2:t<p+9
  ·rw [LP _ _ _ h2,LP _ _ _ (by omega)]
   rw [show p+9-1-t=9-1-(t-p) by omega,b6f (by omega)]
  ·rw [aM (by rw [ER];omega),aM (by rw [ER];omega)]
theorem Gy:∀ (u:Nat),u≠0→10 ^ (nDigits u-1)≤u:=by
 intro u
 induction u using Nat.strongRecOn with
 |ind u ih =>
  intro h0;by_cases h:u<10
  ·rw [nDigits_small h];omega
  ·rw [nDigits_big h]
   have:=ih (u / 10) (by omega) (by omega);have h1:=nDigits_pos (u / 10);rw [show nDigits (u / 10)+1-1=(nDigits (u / 10)-1)+1 by omega,bR];omega
theorem dw {a m:Nat} (ha:a<B9) (hm:m≠0):nDigits (a+B9*m)=nDigits m+9:=by
 have h1:=Gy m hm;have h2:=lt_pow_nDigits m;have h3:=nDigits_pos m;apply nDigits_unique
 ·rw [show nDigits m+8=9+(nDigits m-1) by omega,cv,show (10:Nat) ^ 9=B9 from rfl]
  grind
 grind
theorem a2z {a m:Nat} (ha:a<B9) (hm:m≠0):decDigits (a+B9*m)=decDigits m++D 9 a:=by
 rw [EL,EL,dw ha hm,b0v ha]
theorem b1e {u j:Nat} (h:u<10 ^ j):dg u j=48:=by
 unfold dg;rw [eM h];rfl
theorem pad (k u:Nat) (h:nDigits u≤k):List.replicate (k-nDigits u) 48++decDigits u=D k u:=by
 rw [EL];apply bu;intro t;by_cases h1:t<k-nDigits u
 ·rw [cb (by grind),LP _ _ _ (by omega),gr,if_pos h1]
  rw [b1e (ag (lt_pow_nDigits u) (aE (by decide) (by omega)))]
 ·rw [br (by grind),dc]
  by_cases h2:t<k
  ·rw [LP _ _ _ h2,LP _ _ _ (by omega)]
   grind
  ·rw [aM (by rw [ER];omega),aM (by rw [ER];omega)]
theorem PK {a:Nat} (h:a<B9):nDigits a≤9:=by
 rcases am a with h0|h0
 ·rw [h0,nDigits_small (by decide)];decide
 ·have:=Gy a (by omega)
  rcases ax 9 (nDigits a) with h1|h1
  ·have:10 ^ 9≤10 ^ (nDigits a-1):=aE (by decide) (by omega)
   grind
  omega
def O9:List Nat→List UInt8
 |[]=>decDigits 0
 |[a]=>decDigits a
 |a::t=>O9 t++D 9 a
theorem xX {a:Nat} {t:List Nat} (h:t≠[]):O9 (a::t)=O9 t++D 9 a:=by
 cases t with
 |nil=>grind
 |cons b t=>rfl
theorem dU (n:Nat):O9 (toL n)=decDigits n:=by
 induction n using Nat.strongRecOn with
 |ind n ih =>
  by_cases h:n=0
  ·rw [h,toL_zero];rfl
  ·rw [toL_pos h]
   by_cases h1:n / B9=0
   ·rw [h1,toL_zero]
    show decDigits (n % B9)=_;grind
   ·rw [xX (by rw [Ne,toL_nil];omega),ih _ (dy (by omega) (by decide)),← a2z (ao _ (by decide)) h1,fh]
def parse (l:List UInt8):Nat:=l.foldl (fun v c=>10*v+(c.toNat-48)) 0
theorem aW (l:List UInt8) (c:UInt8):parse (l++[c])=10*parse l+(c.toNat-48):=by simp [parse]
theorem UH (u j:Nat):(dg u j).toNat=48+u / 10 ^ j % 10:=by
 unfold dg;simp;omega
theorem b6s (k u:Nat):D (k+1) u=D k (u / 10)++[dg u 0]:=by
 apply bu;intro t;by_cases h1:t<k
 ·rw [LP _ _ _ (by omega),cb (by rw [ER];omega),LP _ _ _ h1]
  rw [show k+1-1-t=(k-1-t)+1 by omega,dg_succ]
 ·rw [br (by rw [ER];omega),ER]
  by_cases h2:t<k+1
  ·have:t=k:=by omega
   subst this;rw [LP _ _ _ (by omega),ef,show t+1-1-t=0 by omega];rfl
  ·rw [aM (by rw [ER];omega),aM (by grind)]
theorem UQ:∀ (k u:Nat),parse (D k u)=u % 10 ^ k
 |0,u=>by simp [D,parse,Nat.mod_one]
 |k+1,u=>by
  rw [b6s,aW,UQ k,UH,eh,Nat.div_one,gp,bR,cY (10 ^ k) 10,Nat.mod_mul,Nat.add_comm]
theorem pJ (L u e c:Nat) (he:e≤L) (hc:c≤e):((D L u).take e).drop (e-c)=D c (u / 10 ^ (L-e)):=by
 apply bu;intro t;rw [ft];by_cases h:t<c
 ·rw [List.getElem?_take_of_lt (by omega),LP _ _ _ (by omega),LP _ _ _ h]
  unfold dg;rw [eE,← cv];grind
 ·rw [aM (by grind),aM (by rw [ER];omega)]
end
section
open Go.Lib Go.Vm
theorem wZ {l:List Nat} (h:bP l) (i:Nat):gi l i<1000000000:=lQ h i
theorem SC (l:List Nat) (k:Nat) (h:k<l.length):val (l.take (k+1))=val (l.take k)+gi l k*B9 ^ k:=by
 have:l.take (k+1)=l.take k++[gi l k]:=by
  simp [gi,List.getElem?_eq_getElem h]
 rw [this,val_append,aw,ck (by omega),val,val,Nat.mul_zero,ee,cY]
theorem a4x {out:List Nat} {i k a b carry V W:Nat} (hik:i+k<out.length) (h:val out+carry*B9 ^ (i+k)=V+a*B9 ^ i*W) :
 val (out.set (i+k) ((gi out (i+k)+a*b+carry) % B9))+(gi out (i+k)+a*b+carry) / B9*B9 ^ (i+(k+1))=V+a*B9 ^ i*(W+b*B9 ^ k):=by
 generalize hx:gi out (i+k)+a*b+carry=x;have h1:=zS out (i+k) (x % B9) hik;have h2:x % B9+B9*(x / B9)=x:=fh x B9;have h3:out[i+k]?.getD 0=gi out (i+k):=rfl;grind
theorem b1m {out:List Nat} {i n a carry V W:Nat} (hin:i+n<out.length) (h0:gi out (i+n)=0) (h:val out+carry*B9 ^ (i+n)=V+a*B9 ^ i*W) :
 val (out.set (i+n) (gi out (i+n)+carry))=V+a*B9 ^ i*W:=by
 have h1:=zS out (i+n) (gi out (i+n)+carry) hin;have h3:out[i+n]?.getD 0=gi out (i+n):=rfl;grind
theorem Gt (l:List Nat) (i j x:Nat) (hi:i<l.length):gi (l.set i x) j=if i=j then x else gi l j:=by
 simp only [gi,List.getElem?_set];grind
theorem Ut (n j:Nat):gi (List.replicate n (0:Nat)) j=0:=by
 simp only [gi,List.getElem?_replicate];split<;>rfl
theorem cu (n:Nat):bP (List.replicate n 0):=fun a ha=>by
 grind
theorem parse_snoc' (l:List UInt8) (k:Nat) (h:k<l.length):parse (l.take (k+1))=10*parse (l.take k)+((gi l k).toNat-48):=by
 have:l.take (k+1)=l.take k++[gi l k]:=by
  simp [gi,List.getElem?_eq_getElem h]
 rw [this,aW]
theorem rO:∀ (l:List UInt8),(∀ c∈l,48≤c.toNat∧c.toNat≤57)→parse l<10 ^ l.length:=by
 intro l h;have key:∀ k,k≤l.length→parse (l.take k)<10 ^ k:=by
  intro k
  induction k with
  |zero=>intro _;simp [parse]
  |succ k ih =>
   intro hk;have hm:gi l k∈l:=by simp only [gi,List.getElem?_eq_getElem (show k<l.length by omega),Option.getD_some];simp
   have:=h _ hm;rw [parse_snoc' l k (by omega),bR];omega
 grind
theorem kV (k u:Nat):∀ c∈D k u,48≤c.toNat∧c.toNat≤57:=fun c hc=>by
 obtain ⟨t,_,rfl⟩:=be.1 hc;rw [UH];omega
theorem Ko (u:Nat):∀ c∈decDigits u,48≤c.toNat∧c.toNat≤57:=by rw [EL];exact kV _ _
def jg (n j:Nat):Nat:=n / B9 ^ j % B9
def limbs (n:Nat):Nat→List Nat
 |0=>[]
 |k+1=>limbs n k++[jg n k]
theorem Nc (n:Nat):∀ k,(limbs n k).length=k
 |0=>rfl
 |k+1=>by simp [limbs,Nc n k]
theorem fM (n:Nat):∀ k,bP (limbs n k)
 |0=>fun a h=>by cases h
 |k+1=>fun a h=>by
  rcases bq.1 h with h|h
  ·exact fM n k a h
  ·rw [aR.1 h];exact ao _ (by decide)
theorem dS (n:Nat):∀ k,val (limbs n k)=n % B9 ^ k
 |0=>by simp [limbs,val,Nat.mod_one]
 |k+1=>by
  rw [limbs,val_append,Nc,dS n k,val,val,Nat.mul_zero,ee,jg,bR,Nat.mod_mul]
theorem xB {n k:Nat} (h:n<B9 ^ k):Ll (limbs n k)=toL n:=by
 rw [qB (fM n k),dS,bt h]
theorem toL_len_le (n:Nat):∀ k,n<B9 ^ k→(toL n).length≤k:=by
 induction n using Nat.strongRecOn with
 |ind n ih =>
  intro k hk;by_cases h:n=0
  ·rw [h,toL_zero];simp
  ·rw [toL_pos h]
   cases k with
   |zero=>grind
   |succ k =>
    have:=ih (n / B9) (dy (by omega) (by decide)) k (by exact cI (by rw [cY];exact hk));grind
theorem b4w:∀ (k a b:Nat),a<10 ^ k→b<10 ^ k→compareBytes (D k a) (D k b)=if a<b then -1 else if b<a then 1 else 0
 |0,a,b,ha,hb=>by
  simp at ha hb;subst ha;subst hb;rfl
 |k+1,a,b,ha,hb=>by
  have hD:∀ u,D (k+1) u=dg u k::D k (u % 10 ^ k):=fun u=>by
   apply bu;intro t;cases t with
   |zero=>rw [LP _ _ _ (by omega)];rfl
   |succ t =>
    rw [gt];by_cases ht:t<k
    ·rw [LP _ _ _ (by omega),LP _ _ _ ht]
     congr 1
     rw [show k+1-1-(t+1)=k-1-t by omega];unfold dg;congr 2
     have hk:(10:Nat) ^ k=10 ^ (k-1-t)*(10*10 ^ t):=by rw [← Nat.pow_succ',← cv];grind
     rw [hk,Nat.mod_mul_right_div_self,Nat.mod_mul_right_mod]
    ·rw [aM (by rw [ER];omega),aM (by rw [ER];omega)]
  have hp:0<10 ^ k:=cV (by decide);have ih:=b4w k (a % 10 ^ k) (b % 10 ^ k) (ao _ hp) (ao _ hp);have ea:=fh a (10 ^ k);have eb:=fh b (10 ^ k);have ha9:a / 10 ^ k<10:=cI ha;have hb9:b / 10 ^ k<10:=cI hb;have da:(dg a k).toNat=48+a / 10 ^ k:=by rw [UH,bt ha9]
  have db:(dg b k).toNat=48+b / 10 ^ k:=by rw [UH,bt hb9]
  have la:a % 10 ^ k<10 ^ k:=ao _ hp;have lb:b % 10 ^ k<10 ^ k:=ao _ hp;rw [hD a,hD b];simp only [compareBytes,UInt8.lt_iff_toNat_lt,da,db];rcases ew (a / 10 ^ k) (b / 10 ^ k) with h|h|h
  ·rw [if_pos (by omega)]
   have:=bX (10 ^ k) (show a / 10 ^ k+1≤b / 10 ^ k from h);grind
  ·grind
  ·have:=bX (10 ^ k) (show b / 10 ^ k+1≤a / 10 ^ k from h)
   grind
theorem O6 {a b:Nat} (h:nDigits a<nDigits b):a<b:=by
 have h1:=lt_pow_nDigits a;have hb0:b≠0:=fun e=>by
  have e0:nDigits 0=1:=nDigits_small (by decide);grind
 have h2:=Gy b hb0;have:10 ^ nDigits a≤10 ^ (nDigits b-1):=aE (by decide) (by omega);omega
theorem b0o (a n k:Nat):(a ^ (n / 2 ^ (k+1)))*(a ^ (n / 2 ^ (k+1)))*(if n / 2 ^ k % 2=1 then a else 1)=a ^ (n / 2 ^ k):=by
 have h:n / 2 ^ (k+1)=n / 2 ^ k / 2:=by rw [bR,eE]
 rw [h,← cv];split
 ·rw [← bR];grind
 grind
end
end Go.Num
namespace Go.Proofs.YtnjkoebfgcbbdaaGreatDoor
section
open Go Go.Proofs Go.Shelf Go.RowKit Go.Sort Go.Lib
theorem dJ (u:Nat) (hu64:u<18446744073709551616) (w:World) (htab:Lib.TabIs Tryz.prog w "internal/strconv.uint64pow10" .u64 Lib.pow10Tab) :
 Calls Tryz.prog 185 #[.int .u64 u,.int .i64 10] w fun e w'=>e=.returned (.string ⟨(Lib.decDigits u).toArray⟩)∧Below w.heap.size w w':=by
 by_cases hs:u<100
 ·go_enter Tryz.func185,Tryz.ntmps185
  go_wp2_with (go_at_call 172;refine (Tryz.internal_strconv_small u hs _).mono ?_;rintro e w' ⟨rfl,rfl⟩)
  go_ret
  exact ⟨rfl,Below.refl _ _⟩
 ·have hu1:1≤u:=by omega
  have hnd20:Lib.nDigits u≤20:=by have:=Lib.numDigits_eq u hu1 hu64;split at this<;>omega
  have hal:Tryz.prog.arrayLen 300=24:=by kernel_rfl
  have hsl:∀ W,(Instr.sliceAt 300 (.pointer (some ⟨w.heap.size,0,none⟩)) none (some (.int .i64 (Lib.nDigits u:Int))) none).run Tryz.prog W=.ok (.slice (some ⟨w.heap.size,0,none⟩) (Lib.nDigits u) 24) W:=fun W=>by
   rw [run_sliceAt_array_h W 300 ⟨w.heap.size,0,none⟩ (by simp [Program.arrayLen,Program.elem,Tryz.underlying300]) .i64 (Lib.nDigits u:Int) (by omega) (by rw [hal];omega)]
   go_simp
  have hH0:=Lib.holds_zero0 w 300 (Lib.nDigits u) (by omega);have hfmt:=Tryz.internal_strconv_formatBase10 w.heap.size 0 24 u (Array.replicate (Lib.nDigits u) 0) (w.alloc (.cells Lib.zeros24 300)) hH0 (by rw [dj];exact Lib.lt_pow_nDigits u) hu64 (by rw [dj];omega);rw [dj] at hfmt;have HH0:=Lib.hid hH0;clear hH0 hal
  go_enter Tryz.func185,Tryz.ntmps185
  go_wp2_with (go_at_call 173;refine (Tryz.internal_strconv_numDigits u hu1 hu64 _ (Lib.tabIs_alloc htab _)).mono ?_;rintro e w' ⟨rfl,rfl⟩)
  go_at_call 174
  refine hfmt.mono ?_;rintro e w' ⟨rfl,k,v',dk,rfl,hF⟩;have hcv:(convert 55 9 (.slice (some ⟨w.heap.size,0,none⟩) (Lib.nDigits u) 24)).run Tryz.prog ((putRow (fun (b:UInt8)=>Value.int .u8 (b.toNat:Int)) (w.alloc (.cells Lib.zeros24 300)) w.heap.size 0 dk).drewN k)=.ok (.string ⟨(Lib.decDigits u).toArray⟩) ((putRow (fun (b:UInt8)=>Value.int .u8 (b.toNat:Int)) (w.alloc (.cells Lib.zeros24 300)) w.heap.size 0 dk).drewN k):=by
   have h:=run_convert_bytes_back (P:=Tryz.prog) ((putRow (fun (b:UInt8)=>Value.int .u8 (b.toNat:Int)) (w.alloc (.cells Lib.zeros24 300)) w.heap.size 0 dk).drewN k) 55 9 5 ⟨w.heap.size,0,none⟩ 24 (Lib.decDigits u) Tryz.underlying55 Tryz.underlying5 Tryz.underlying9 (fun j hj=>by
    rw [Lib.row_is_numeral hF j hj,Lib.add_plain,World.cell?_drewN];exact cell?_putRow (fun (b:UInt8)=>Value.int .u8 (b.toNat:Int)) _ w.heap.size 0 _ dk HH0.out (by rw [hF.size,dj]) j (by rw [hF.size];rw [Lib.decDigits_length] at hj;exact hj))
   rw [Lib.decDigits_length] at h;exact h
  go_wp2
  go_ret
  obtain ⟨os,eo⟩:=Lib.fin_at w (.cells Lib.zeros24 300) dk k 0;refine ⟨rfl,?_⟩;rw [eo];exact Lib.below_grow _ w (ab _) _ _
theorem bI (u:Nat) (hu64:u<18446744073709551616) (w:World) (htab:Lib.TabIs Tryz.prog w "internal/strconv.uint64pow10" .u64 Lib.pow10Tab) :
 Calls Tryz.prog 163 #[.int .u64 u,.int .i64 10] w fun e w'=>e=.returned (.string ⟨(Lib.decDigits u).toArray⟩)∧Below w.heap.size w w':=by
 go_enter Tryz.func163,Tryz.ntmps163
 go_wp2_with (refine (dJ u hu64 _ htab).mono ?_;rintro e w' ⟨rfl,hb⟩)
 go_ret
 simp_all
theorem Lj (B b:Nat) (bs:List Value) (s:ByteArray) (w:World) (h:Lib.IsBuilderF 284 5 B b bs w) (hlen:bs.length+s.size≤140737488355328) (hBw:B≤w.heap.size) :
 Calls Tryz.prog 164 #[.pointer (some ⟨b,0,none⟩),.string s] w fun e w'=>e=.returned (.tuple #[.int .i64 s.size,.nilIface])∧(Lib.BuilderAtF 284 5 B b (.pointer (some ⟨b,0,none⟩)) (bs++Lib.strCells s) w'∧Below B w w'∧Lib.OthersKept 5 (some b) w w') :=
 Any.Builder_WriteString_k (P:=Tryz.prog) (ρ:=Tryz.lays105_ren) { Tryz.lays105 with } Tryz.Builder_Extra_105 B b bs s w h hlen hBw
end
section
open Go Go.Proofs Go.Shelf Go.RowKit
attribute [local go_sem] Oper.semAt_some
def L8 {α:Type} (f:Nat→α) (k:Nat):List α:=(List.range k).map f
theorem LU {α:Type} (f:Nat→α) (k:Nat):L8 f (k+1)=L8 f k++[f k]:=by simp [L8,List.range_succ]
theorem kD {α:Type} (f:Nat→α) (k:Nat):(L8 f k).length=k:=by simp [L8]
abbrev PL:Type:={ x:Nat×Nat // x.2<Num.B9 }
def Kz (zs:List Nat) (j:Nat):PL:=⟨(zs.length-1-j,zs.getD (zs.length-1-j) 0 % Num.B9),ao _ (by decide)⟩
theorem Qd {n:Int} (h:-9223372036854775808≤n) (h2:n<9223372036854775808):IntKind.i64.wrap n=n:=by rw [IntKind.wrap_i64];omega
def Pv (n₀ Bs:Nat) (W W':World):Prop:=Below n₀ W W'∧W'.heap[Bs]?=W.heap[Bs]?
theorem Pv.refl (n₀ Bs:Nat) (W:World):Pv n₀ Bs W W:=⟨Below.refl _ _,rfl⟩
theorem Pv.trans {n₀ Bs:Nat} {A B C:World} (h:Pv n₀ Bs A B) (k:Pv n₀ Bs B C):Pv n₀ Bs A C:=⟨h.1.trans k.1,k.2.trans h.2⟩
theorem kU (F:Fence) (n:Nat) (h8:F.fn 184) (hro:F.round=none) (hn:1≤n) (l Bs n₀ b off cap:Nat) (zs:List Nat) (hreach:zs.length*8≤140737488351232) (hlim:Num.bP zs) (hb:b<n₀) (J Jx:List PL→World→Prop)
 (hY:∀ pre (x:PL) W,J pre W→pre.length<zs.length→YieldAt F (n-1) Tryz.prog l #[.int .i64 (x.1.1:Int),.int .u64 (x.1.2:Int)] W fun e W' =>
  (e=.returned (.bool true)∧J (pre++[x]) W'∧Pv n₀ Bs W W')∨(e=.returned (.bool false)∧Jx (pre++[x]) W'))
 (W:World) (hBs:W.cell? ⟨Bs,0,none⟩=some (.slice (some ⟨b,off,none⟩) zs.length cap)) (hc:∀ j,j<zs.length→W.cell? ⟨b,off+j,none⟩=some (.int .u64 (zs.getD j 0:Int))) (h0:J [] W) :
 CallsIn F n Tryz.prog 184 #[.func (.yield l) #[] #[],.pointer (some ⟨Bs,0,none⟩)] W fun e W'=>(∃ v,e=.returned v) ∧
  ((∃ ys,ys=L8 (Kz zs) zs.length∧J ys W')∨(∃ pre,(∃ k,k≤zs.length∧pre=L8 (Kz zs) k)∧Jx pre W')):=by
 have hget:∀ j,zs.getD j 0 % Num.B9=zs.getD j 0:=fun j=>bt (by rw [bO];exact Num.lQ hlim j)
 obtain ⟨len,hlen⟩:∃ len,zs.length=len:=⟨_,rfl⟩
 rw [hlen] at hreach hY hBs hc ⊢;have hw0:IntKind.i64.wrap ((len:Int)-1)=(len:Int)-1:=Qd (by omega) (by omega);refine callsIn_of_wp Tryz.func184 rfl h8 ?_ hro;simp only [Tryz.ntmps184,List.size_toArray,List.length_cons,List.length_nil,Nat.reduceAdd,Nat.reduceSub,Array.replicate_succ,Array.replicate_zero,List.push_toArray,List.append_toArray,List.nil_append,List.cons_append]
 gi_wp2
 gi_loopw [3] (fun i wr=>∃ k:Nat,k≤len∧i=.int .i64 ((len:Int)-1-k)∧J (L8 (Kz zs) k) wr∧Pv n₀ Bs W wr)
  (fun i _=>(intOf i+1).toNat)
 case atStart=>exact ⟨0,aq _,by simp,h0,Pv.refl _ _ _⟩
 case round =>
  obtain ⟨k,hk,rfl,hJs,hnx⟩:=hrel;have hBx:wr.cell? ⟨Bs,0,none⟩=some (.slice (some ⟨b,off,none⟩) len cap):=(World.cell?_of_block (a:=⟨Bs,0,none⟩) hnx.2).trans hBs;by_cases hlt:k<len
  ·have hge:(0:Int)≤(len:Int)-1-k:=by omega
   have hcx:wr.cell? ⟨b,off+(len-1-k),none⟩=some (.int .u64 ((Kz zs k).1.2:Int)):=by
    have:=(hnx.1.cell (p:=⟨b,off+(len-1-k),none⟩) hb).trans (hc (len-1-k) (by omega));rw [this];unfold Kz;simp only [hlen,hget]
   obtain ⟨fn,tmps,assign,body,hy,hR⟩:=hY _ (Kz zs k) wr hJs (by rw [kD];exact hlt);have e1:((Kz zs k).1.1:Int)=(len:Int)-1-k:=by show ((zs.length-1-k:Nat):Int)=_;omega
   rw [e1] at hy;have hi1:((len:Int)-1-k)<len:=by omega
   have hi2:((len:Int)-1-k).toNat=len-1-k:=by omega
   have hw1:IntKind.i64.wrap ((len:Int)-1-k-1)=(len:Int)-1-((k+1:Nat):Int):=by rw [Qd (by omega) (by omega)];omega
   gi_wp2
   refine hR.mono ?_;rintro e W3 (⟨rfl,hJ3,hk3⟩|⟨rfl,hJx3⟩)
   ·gi_wp2
    go_roundw
    case rel=>exact ⟨k+1,by omega,by first|rfl|simp [hw1]|(congr 1),by rw [LU];exact hJ3,hnx.trans hk3⟩
    case measure=>simp [intOf];omega
   ·gi_wp2
    refine bodyPost_ret (results_none rfl _ _ _) rfl ?_;exact ⟨⟨_,rfl⟩,.inr ⟨_,⟨k+1,by omega,(LU _ _).symm⟩,hJx3⟩⟩
  ·obtain rfl:k=len:=by omega
   have hneg:¬ ((0:Int)≤(k:Int)-1-k):=by omega
   gi_wp2
   go_end0
   exact ⟨⟨_,rfl⟩,by first|exact .inl hJs|exact .inl ⟨_,rfl,hJs⟩⟩
theorem qp (F:Fence) (n:Nat) (h6:F.fn 162) (hro:F.round=none) (a:Option Addr) (len cap:Nat) (w:World) :
 CallsIn F n Tryz.prog 162 #[.slice a len cap] w fun e w'=>e=.returned (.func (.func 184) #[] #[.pointer (some ⟨w.heap.size,0,none⟩)])∧w'=w.alloc (.cells #[.slice a len cap] 202):=by
 refine callsIn_of_wp Tryz.func162 rfl h6 ?_ hro
 gi_wp2
 go_ret
 simp
theorem xI (F:Fence) (n:Nat) (h8:F.fn 184) (hro:F.round=none) (hn:1≤n) (Bs n₀ b off cap:Nat) (zs:List Nat) (hreach:zs.length*8≤140737488351232) (hlim:Num.bP zs) (hb:b<n₀) (w:World) (hBs:Bs<w.heap.size) (hn₀:n₀≤w.heap.size)
 (hcB:w.cell? ⟨Bs,0,none⟩=some (.slice (some ⟨b,off,none⟩) zs.length cap)) (hc:∀ j,j<zs.length→w.cell? ⟨b,off+j,none⟩=some (.int .u64 (zs.getD j 0:Int))) :
 SeqStopsK F n Tryz.prog 184 #[.pointer (some ⟨Bs,0,none⟩)] (fun x:PL=>#[Value.int .i64 (x.1.1:Int),Value.int .u64 (x.1.2:Int)]) (Pv n₀ Bs) (fun ys=>ys=L8 (Kz zs) zs.length)
  (fun pre=>∃ k,k≤zs.length∧pre=L8 (Kz zs) k) zs.length w:=fun l J Jx W hW _ _ hY h0 =>
 kU F n h8 hro hn l Bs n₀ b off cap zs hreach hlim hb J Jx hY W ((hW.cell (p:=⟨Bs,0,none⟩) hBs).trans hcB) (fun j hj=>(hW.cell (p:=⟨b,off+j,none⟩) (by grind)).trans (hc j hj)) h0
end
section
open Go Go.Proofs Go.Shelf Go.RowKit
attribute [local go_sem] Oper.semAt_some
def QG (len:Nat) (x:PL):List UInt8:=if (x.1.1:Int)<(len:Int)-1 then Lib.repeatL [48] (9-Lib.nDigits x.1.2)++Lib.decDigits x.1.2 else Lib.decDigits x.1.2
def TI (len:Nat) (pre:List PL):List UInt8:=pre.flatMap (QG len)
theorem Nz (len:Nat) (pre:List PL) (x:PL):TI len (pre++[x])=TI len pre++QG len x:=by simp [TI]
theorem XO (n:Nat):(Lib.repeatL [48] n).length=n:=by
 induction n with
 |zero=>rfl
 |succ n ih=>simp_all [Lib.repeatL]
theorem xY (len:Nat) (x:PL):(QG len x).length≤9:=by
 have:=Num.PK x.2;unfold QG;split
 ·rw [az,XO,Lib.decDigits_length];omega
 ·rw [Lib.decDigits_length];omega
theorem a4g (len:Nat) (pre:List PL):(TI len pre).length≤9*pre.length:=by
 induction pre with
 |nil=>simp [TI]
 |cons x pre ih =>
  have:=xY len x;simp only [TI,List.flatMap_cons,List.length_append,List.length_cons] at ih ⊢;omega
def Tm (N:Nat) (sv:Value) (bs:List UInt8) (W:World):Prop :=
 Lib.IsBuilderF 284 5 (N+1) (N+1) (Lib.byteCells bs) W∧W.heap[N]?=some (.cells #[sv] 202 (0,0))∧W.heap[N+2]?=some (.cells #[sv] 202 (0,0))
theorem Ld {T e:TypeId} {B b:Nat} {p:Value} {bs:List Value} {w w':World} (h:Lib.BuilderAtF T e B b p bs w) (hk:∀ (k:Nat) (o:Obj),w.heap[k]?=some o→o.isCells=true→w'.heap[k]?=some o):Lib.BuilderAtF T e B b p bs w':=by
 obtain ⟨hB,v,hb,hown,hne⟩:=h;refine ⟨hB,v,hk _ _ hb rfl,⟨hown.1,?_⟩,hne⟩;rcases hown.2 with h0|⟨g,cap,cur,fz,hv,hbg,hg,r⟩
 ·grind
 ·exact .inr ⟨g,cap,cur,fz,hv,hbg,hk _ _ hg rfl,r⟩
theorem Lh {T e:TypeId} {B b:Nat} {bs:List Value} {w w':World} (h:Lib.IsBuilderF T e B b bs w) (hk:∀ (k:Nat) (o:Obj),w.heap[k]?=some o→o.isCells=true→w'.heap[k]?=some o):Lib.IsBuilderF T e B b bs w' :=
 h.elim (fun x=>.inl (Ld x hk)) (fun x=>.inr (Ld x hk))
theorem vS {β:Type} (N:Nat) (sv:Value) (f:β→List UInt8):Own (fun (pre:β) W=>Tm N sv (f pre) W):=fun s W W' row hs hg hr=>by
 have hk:∀ (k:Nat) (o:Obj),W.heap[k]?=some o→o.isCells=true→W'.heap[k]?=some o:=fun k o ho hc=>(grownBy_keeps_cells hg hr ho hc).trans ho
 exact ⟨Lh hs.1 hk,hk _ _ hs.2.1 rfl,hk _ _ hs.2.2 rfl⟩
theorem Qh {W W':World} (h:Below W.heap.size W W') (B:Nat):KeepsFrom B W W':=⟨h.size,fun k o _ hk _=>(h.block k (by
 grind)).trans hk⟩
theorem lt_of_heap {W:World} {k:Nat} {o:Obj} (h:W.heap[k]?=some o):k<W.heap.size :=by grind
theorem Ux {N:Nat} {sv:Value} {bs:List UInt8} {W W':World} (h:Tm N sv bs W) (hb:Below W.heap.size W W'):Tm N sv bs W':=by
 have hk:∀ (k:Nat) (o:Obj),W.heap[k]?=some o→o.isCells=true→W'.heap[k]?=some o:=fun k o ho _=>(hb.block k (lt_of_heap ho)).trans ho
 exact ⟨Lh h.1 hk,hk _ _ h.2.1 rfl,hk _ _ h.2.2 rfl⟩
theorem Qy {n₀ Bs:Nat} {W W':World} (h:Below W.heap.size W W') (hn:n₀≤W.heap.size) (hB:Bs<W.heap.size):Pv n₀ Bs W W':=⟨h.mono hn,h.block Bs hB⟩
theorem Oy {N:Nat} {sv:Value} {bs:List UInt8} {s:ByteArray} {W W':World} (h:Tm N sv bs W) (h1:Lib.BuilderAtF 284 5 (N+1) (N+1) (.pointer (some ⟨N+1,0,none⟩)) (Lib.byteCells bs++Lib.strCells s) W') (h2:Below (N+1) W W') (h3:Lib.OthersKept 5 (some (N+1)) W W') :
 Tm N sv (bs++s.data.toList) W'∧KeepsFrom (N+3) W W'∧Pv N (N+2) W W':=by
 have k2:W'.heap[N+2]?=some (.cells #[sv] 202 (0,0)):=h3 _ _ h.2.2 (by simp) (fun c fz e=>by
  grind)
 refine ⟨⟨.inr ?_,?_,k2⟩,⟨h2.size,fun k o _ hk ho=>h3 k o hk (fun e=>?_) (fun c fz e=>by rw [e] at ho;cases ho)⟩,⟨h2.mono (by omega),by rw [k2,h.2.2]⟩⟩
 ·have e:Lib.byteCells bs++Lib.strCells s=Lib.byteCells (bs++s.data.toList):=by simp [Lib.byteCells,Lib.strCells]
  grind
 ·rw [h2.block N (by omega)];exact h.2.1
 grind
theorem tab_below {P:Program} {w w':World} {name:String} {k:IntKind} {zs:List Int} (h:Lib.TabIs P w name k zs) (hb:Below w.heap.size w w'):Lib.TabIs P w' name k zs:=(Lib.tabBelow_of_tabIs h) w' hb
theorem uy (n:Nat):Lib.repeatL [48] n=List.replicate n 48:=by
 induction n with
 |zero=>rfl
 |succ n ih=>simp [Lib.repeatL,ih,List.replicate_succ]
theorem aU (zs:List Nat) (hl:Num.bP zs) (j:Nat) (hj:j<zs.length):QG zs.length (Kz zs j)=if 0<j then Num.D 9 (zs.getD (zs.length-1-j) 0) else Lib.decDigits (zs.getD (zs.length-1-j) 0):=by
 have hb:zs.getD (zs.length-1-j) 0<Num.B9:=by exact Num.lQ hl _
 have e2:(Kz zs j).1.2=zs.getD (zs.length-1-j) 0:=bt hb;have e1:(Kz zs j).1.1=zs.length-1-j:=rfl;unfold QG;rw [e1,e2];by_cases h:0<j
 ·rw [if_pos (by omega),if_pos h,uy,Num.pad 9 _ (Num.PK hb)]
 grind
theorem qK:∀ (zs:List Nat),Num.bP zs→zs≠[]→TI zs.length (L8 (Kz zs) zs.length)=Num.O9 zs
 |[],_,h=>absurd rfl h
 |a::t,hl,_=>by
  have hlt:Num.bP t:=fun x hx=>hl x (by grind)
  have hrec:∀ k,k≤t.length→TI (a::t).length (L8 (Kz (a::t)) k)=TI t.length (L8 (Kz t) k):=by
   intro k
   induction k with
   |zero=>intro _;rfl
   |succ k ih =>
    intro hk;rw [LU,LU,Nz,Nz,ih (by omega),aU _ hl k (by grind),aU t hlt k (by omega)];grind
  show TI (a::t).length (L8 (Kz (a::t)) (t.length+1))=_;rw [LU,Nz,hrec t.length (ab _),aU _ hl t.length (by simp)];have e0:(a::t).length-1-t.length=0:=by simp
  rw [e0,List.getD_cons_zero];cases t with
  |nil=>rfl
  |cons b t =>
   rw [qK (b::t) hlt (by simp),if_pos (by simp)];rfl
theorem b0t (b off cap:Nat) (zs:List Nat) (hlim:Num.bP zs) (h0:zs≠[]) (hreach:zs.length*9≤140737488351232) (w:World) (hb:b<w.heap.size) (hc:∀ j,j<zs.length→w.cell? ⟨b,off+j,none⟩=some (.int .u64 (zs.getD j 0:Int)))
 (htab:Lib.TabIs Tryz.prog w "internal/strconv.uint64pow10" .u64 Lib.pow10Tab) :
 Calls Tryz.prog 130 #[.slice (some ⟨b,off,none⟩) zs.length cap] w fun e w'=>e=.returned (.string ⟨(Num.O9 zs).toArray⟩)∧Below w.heap.size w w':=by
 have hpos:0<zs.length:=gM.2 h0;have hne0:¬ ((zs.length:Int)=0):=by omega
 have hall:=qK zs hlim h0;obtain ⟨len,hlen⟩:∃ len,zs.length=len:=⟨_,rfl⟩
 rw [hlen] at hne0 hall;refine (callsIn_wide (n:=6)).1 ?_;refine callsIn_of_wp_marks Tryz.func130 rfl trivial ?_ rfl;simp only [Tryz.ntmps130,List.size_toArray,List.length_cons,List.length_nil,Nat.reduceAdd,Nat.reduceSub,Array.replicate_succ,Array.replicate_zero,List.push_toArray,List.append_toArray,List.nil_append,List.cons_append];rw [hlen]
 gi_wp2_with (refine ⟨trivial,?_⟩;gi_at_call 162;refine (qp Fence.wide _ trivial rfl _ _ _ _).mono ?_;rintro e w' ⟨rfl,rfl⟩)
 obtain ⟨W0,hW0⟩:∃ W0,((w.alloc (.cells #[.slice (some ⟨b,off,none⟩) len cap] 202)).alloc (.cells #[.pointer none,.slice none 0 0] 284)).alloc (.cells #[.slice (some ⟨b,off,none⟩) len cap] 202)=W0:=⟨_,rfl⟩
 have hB0:Below w.heap.size w W0:=by
  rw [← hW0];exact (((Below.refl _ w).alloc (ab _) _).alloc (by simp) _).alloc (by simp;omega) _
 have hs0:W0.heap.size=w.heap.size+3:=by rw [← hW0];simp
 have g0:W0.heap[w.heap.size]?=some (.cells #[.slice (some ⟨b,off,none⟩) len cap] 202 (0,0)):=by
  rw [← hW0];exact (Below.heap_alloc _ _ _ (by simp;omega)).trans ((Below.heap_alloc _ _ _ (by simp)).trans (World.alloc_heap_new w _))
 have g1:W0.heap[w.heap.size+1]?=some (.cells #[.pointer none,.slice none 0 0] 284 (0,0)):=by
  rw [← hW0];exact (Below.heap_alloc _ _ _ (by simp)).trans (by have:=World.alloc_heap_new (w.alloc (.cells #[.slice (some ⟨b,off,none⟩) len cap] 202)) (.cells #[.pointer none,.slice none 0 0] 284);rwa [World.size_alloc] at this)
 have g2:W0.heap[w.heap.size+2]?=some (.cells #[.slice (some ⟨b,off,none⟩) len cap] 202 (0,0)):=by
  rw [← hW0];have:=World.alloc_heap_new ((w.alloc (.cells #[.slice (some ⟨b,off,none⟩) len cap] 202)).alloc (.cells #[.pointer none,.slice none 0 0] 284)) (.cells #[.slice (some ⟨b,off,none⟩) len cap] 202)
  rwa [World.size_alloc,World.size_alloc] at this
 rw [hW0];have hI0:Tm w.heap.size (.slice (some ⟨b,off,none⟩) len cap) (TI len []) W0 :=
  ⟨.inl ⟨ab _,_,g1,⟨rfl,.inl ⟨rfl,rfl⟩⟩,by simp [Value.ownBlock]⟩,g0,g2⟩
 have hcB:W0.cell? ⟨w.heap.size+2,0,none⟩=some (.slice (some ⟨b,off,none⟩) zs.length cap):=by rw [hlen];simp [World.cell?,g2]
 refine wpIn_rangeFunc_ownG rfl (by omega) (gf:=184) (lb:=#[.pointer (some ⟨w.heap.size+1+1,0,none⟩)]) rfl trivial (enters_of Tryz.func184 (by kernel_rfl) rfl)
  (xI Fence.wide _ trivial rfl (by omega) (w.heap.size+2) w.heap.size b off cap zs (by omega) hlim hb W0 (by omega) (by omega) hcB (fun j hj=>(hB0.cell (p:=⟨b,off+j,none⟩) hb).trans (hc j hj)))
  (fun h k=>h.trans k) (fun W l o o' hl _ _ _=>⟨⟨rfl,rfl,rfl,by simp,fun k hk=>World.putObj_heap_other (by omega)⟩,World.putObj_heap_other (by omega)⟩) (Below.refl _ _) (fun _=>rfl)
  (fun pre W=>Tm w.heap.size (.slice (some ⟨b,off,none⟩) len cap) (TI len pre) W∧Below w.heap.size w W)
  (fun _ _ _=>False)
  (OwnFrom.and (Own.from (vS w.heap.size _ (fun pre=>TI len pre)) _) (ownFrom_below (ab _) (by omega)))
  (fun _ _ _ _ _ hs _ _=>hs)
  ⟨hI0,hB0⟩
  (fun x=>{ tmps:=#[.slice (some ⟨b,off,none⟩) len cap,.pointer (some ⟨w.heap.size,0,none⟩),.string ⟨#[]⟩,.pointer (some ⟨w.heap.size+1,0,none⟩),.int .i64 (x.1.1:Int),.int .u64 (x.1.2:Int),undef,.slice (some ⟨b,off,none⟩) len cap,.int .i64 len,.bool false,
   .slice (some ⟨b,off,none⟩) len cap,.func (.func 184) #[] #[.pointer (some ⟨w.heap.size+1+1,0,none⟩)],.int .i64 (x.1.1:Int),.int .u64 (x.1.2:Int),undef,undef,undef,undef,undef,undef,undef,undef,undef,undef,undef,undef,undef,undef,undef],defers:=[] }) ?assign ?body ?done ?stop
 case assign =>
  intro l x W K hK
  gi_wp2
  exact hK
 case body =>
  rintro l pre x W ⟨hT,hB⟩ hlt;have c5x:x.1.2<18446744073709551616:=Nat.lt_trans x.2 (by decide);have hd9:=Num.PK x.2;have hsz:(ByteArray.mk (Lib.decDigits x.1.2).toArray).size=Lib.nDigits x.1.2:=by simp [ByteArray.size,Lib.decDigits_length]
  have hwl:IntKind.i64.wrap ((len:Int)-1)=(len:Int)-1:=Qd (by omega) (by omega);have hw9:IntKind.i64.wrap (9-(Lib.nDigits x.1.2:Int))=((9-Lib.nDigits x.1.2:Nat):Int):=by rw [Qd (by omega) (by omega)];omega
  have c3n:Lib.TabIs Tryz.prog W "internal/strconv.uint64pow10" .u64 Lib.pow10Tab:=tab_below htab hB;have hal:=a4g len pre;have hcl:(Lib.byteCells (TI len pre)).length≤9*pre.length:=by rw [Lib.byteCells_length];exact hal
  gi_wp2_with (refine ⟨trivial,?_⟩;gi_at_call 163;refine (CallsIn.inRound l (callsIn_wide.2 (bI x.1.2 c5x _ c3n))).mono ?_;rintro e W1 ⟨rfl,hb1⟩;have hT1:=Ux hT hb1;have c1:W1.cell? ⟨w.heap.size,0,none⟩=some (.slice (some ⟨b,off,none⟩) len cap):=by simp [World.cell?,hT1.2.1])
  ·have hx:(x.1.1:Int)<(len:Int)-1:=by assumption
   refine ⟨trivial,(CallsIn.inRound l (callsIn_wide.2 (Tryz.strings_Repeat ⟨#[48]⟩ (9-Lib.nDigits x.1.2) W1 (by omega) (by
    have e1:(ByteArray.mk #[48]).size=1:=rfl;rw [e1];omega)))).mono ?_⟩
   rintro e W2 ⟨rfl,hb2⟩;have hT2:=Ux hT1 hb2;have l2:=lt_of_heap hT2.2.2;have hr1:(ByteArray.mk (Lib.repeatL [48] (9-Lib.nDigits x.1.2)).toArray).size=9-Lib.nDigits x.1.2:=by simp [ByteArray.size,XO]
   gi_wp2_with fail
   refine ⟨trivial,(CallsIn.inRound l (callsIn_wide.2 (Lj (w.heap.size+1) (w.heap.size+1) _ ⟨(Lib.repeatL [48] (9-Lib.nDigits x.1.2)).toArray⟩ W2 hT2.1 (by rw [hr1];omega) (by omega)))).mono ?_⟩;rintro e W3 ⟨rfl,h31,h32,h33⟩;obtain ⟨hT3,kf3,kb3⟩:=Oy hT2 h31 h32 h33;have l3:=lt_of_heap hT3.2.2;have hl3:(Lib.byteCells (TI len pre++(ByteArray.mk (Lib.repeatL [48] (9-Lib.nDigits x.1.2)).toArray).data.toList)).length≤9*pre.length+(9-Lib.nDigits x.1.2):=by
    rw [Lib.byteCells_length,az];have:(ByteArray.mk (Lib.repeatL [48] (9-Lib.nDigits x.1.2)).toArray).data.toList.length=9-Lib.nDigits x.1.2:=hr1;omega
   gi_wp2_with fail
   refine ⟨trivial,(CallsIn.inRound l (callsIn_wide.2 (Lj (w.heap.size+1) (w.heap.size+1) _ ⟨(Lib.decDigits x.1.2).toArray⟩ W3 hT3.1 (by rw [hsz];omega) (by omega)))).mono ?_⟩;rintro e W4 ⟨rfl,h41,h42,h43⟩;obtain ⟨hT4,kf4,kb4⟩:=Oy hT3 h41 h42 h43
   gi_wp2
   have hpc:QG len x=Lib.repeatL [48] (9-Lib.nDigits x.1.2)++Lib.decDigits x.1.2:=if_pos hx;have hbs:=hB.size;have c9c:=hb1.size;refine ⟨by rw [hs0];exact (Qh hb1 _).trans ((Qh hb2 _).trans (kf3.trans kf4)),(Qy hb1 hbs (lt_of_heap hT.2.2)).trans ((Qy hb2 (by omega) (lt_of_heap hT1.2.2)).trans (kb3.trans kb4)),?_,
    hB.trans ((hb1.mono hbs).trans ((hb2.mono (by omega)).trans (kb3.1.trans kb4.1)))⟩
   rw [Nz,hpc,← cA];simpa using hT4
  ·have hx:¬ (x.1.1:Int)<(len:Int)-1:=by omega
   have l1:=lt_of_heap hT1.2.2;refine ⟨trivial,(CallsIn.inRound l (callsIn_wide.2 (Lj (w.heap.size+1) (w.heap.size+1) _ ⟨(Lib.decDigits x.1.2).toArray⟩ W1 hT1.1 (by rw [hsz];omega) (by omega)))).mono ?_⟩;rintro e W4 ⟨rfl,h41,h42,h43⟩;obtain ⟨hT4,kf4,kb4⟩:=Oy hT1 h41 h42 h43
   gi_wp2
   have hpc:QG len x=Lib.decDigits x.1.2:=if_neg (by omega);have hbs:=hB.size;refine ⟨by rw [hs0];exact (Qh hb1 _).trans kf4,(Qy hb1 hbs (lt_of_heap hT.2.2)).trans kb4,?_,hB.trans ((hb1.mono hbs).trans kb4.1)⟩;rw [Nz,hpc];simpa using hT4
 case done =>
  rintro D ys W hD rfl ⟨hT,hB⟩ hK;have l1:=lt_of_heap hT.2.2;rw [hlen,hall] at hT
  gi_wp2_with fail
  refine ⟨trivial,(callsIn_wide.2 (Tryz.Builder_String_any_k (w.heap.size+1) (w.heap.size+1) (Num.O9 zs) W hT.1 (by omega))).mono ?_⟩;rintro e W1 ⟨rfl,h1,h2,h3⟩
  gi_wp2
  have hK1:W1.heap[D]?=some (.deferred (some [])):=h3 D _ hK (by simp;omega) (fun c fz e=>by cases e);refine ⟨by simp,.inl ⟨_,_,rfl,run_takeDeferred hK1,?_⟩⟩;exact ⟨_,results_tmp rfl _ _ _,rfl,(hB.trans (h2.mono (by omega))).trans (belowK_b (w:=w) (ab _) W1 D _ _ (by omega) hK1 rfl rfl)⟩
 case stop =>
  rintro D c pre W _ _ h _;exact h.elim
end
open Go Go.Am Go.Vm
def zI:aA:=fun xs _=>match xs with
 |[.int .i64 n]=>if -9223372036854775808≤n∧n≤9223372036854775807 then some (.string (bs (Lib.itoa n))) else none
 |_=>none
def aB:aA:=fun xs _=>match xs with
 |[.string a,.string b]=>some (.int .i64 (Lib.compareBytes a.data.toList b.data.toList))
 |_=>none
def VU:List Value→Option (List Nat)
 |[]=>some []
 | .int .u64 n::l=>if 0≤n∧n<1000000000 then (VU l).map (n.toNat::·) else none
 |_::_=>none
def textF:aA:=fun xs m=>match xs with
 |[.slice a n g]=>match Ci m 1 n (.slice a n g) with
  |some l=>match VU l with
   |some zs=>if n*9≤140737488351232 then some (.string (bs (Num.O9 zs))) else none
   |none=>none
  |none=>none
 |_=>none
theorem ZX:∀ {l:List Value} {zs:List Nat},VU l=some zs→l=zs.map (fun (n:Nat)=>Value.int .u64 (n:Int))∧Num.bP zs
 |[],_,h=>by cases h;exact ⟨rfl,fun a ha=>by grind⟩
 |v::l,zs,h=>by
  unfold VU at h;split at h
  ·grind
  ·rename_i n l' he
   cases he;split at h
   ·rename_i hn
    rw [ae] at h;obtain ⟨zs',h1,rfl⟩:=h;obtain ⟨h2,h3⟩:=ZX h1;refine ⟨?_,fun a ha=>?_⟩
    ·grind
    ·rcases bm.1 ha with rfl|ha
     ·grind
     ·exact h3 a ha
   grind
  grind
theorem Xr:∀ {zs:List Nat},Num.bP zs→VU (zs.map fun (n:Nat)=>Value.int .u64 (n:Int))=some zs
 |[],_=>rfl
 |n::zs,h=>by
  have hn:n<1000000000:=h n (by simp);simp only [List.map_cons,VU];rw [if_pos ⟨by omega,by omega⟩,Xr (fun a ha=>h a (by grind))];simp
theorem Ym {P:Program} {F:Nat} {laid:List (String×DataW Unit)} {ι:BJ} {m:Mem} {w:World} (hs:DL P (AP P F laid) ι m w) (hg:∀ k∈AP P F laid,m.get k=(Bv P F laid).get k) {name:String} {g:Nat} {e:TypeId} {k:IntKind} {zs:List Int}
 (hn:P.globalNamed name=some g) (hat:H6 P F laid g=some (e,zs.map fun z=>Value.int k z)) (hlt:g<P.globals.size):Lib.TabIs P w name k zs:=by
 have hm:g∈AP P F laid:=by
  simp only [AP,List.mem_filter,List.mem_range];grind
 obtain ⟨ib,h1,h2,⟨h3,h6⟩,h4,h5⟩:=hs.glob g hm;have hmg:m.get g=.cells (zs.map fun z=>Value.int k z) e 0 true:=by rw [hg g hm,IG hlt,hat]
 obtain ⟨cs,fr,e',hrow,hlim,_,hrel,_⟩:=Ii hs h1 hmg;rw [h2] at hrow;have hcs:cs=(zs.map fun z=>Value.int k z).toArray:=by
  apply Array.ext
  ·grind
  ·intro i hi1 hi2
   have hi:i<(zs.map fun z=>Value.int k z).length:=by simpa using hi2
   obtain ⟨v',q1,q2⟩:=hrel i hi;rw [h3,cw,Array.getElem?_eq_getElem hi1] at q1;cases q1;rw [getD_lt hi] at q2;have hp:plain ((zs.map fun z=>Value.int k z)[i])=true:=by rw [List.getElem_map];rfl
   rw [q2.BP hp];simp
 unfold Lib.TabIs World.var?;grind
theorem BA.one {ι:BJ} {g:Nat→Nat} {v:Value} {ys:Array Value} (h:BA ι g [v] ys.toList):∃ v',ys=#[v']∧Aw ι g v v':=by
 obtain ⟨v',k',e,h1,h2⟩:=h.Kv;have:k'=[]:=bv h2.1.symm;grind
theorem BA.two {ι:BJ} {g:Nat→Nat} {u v:Value} {ys:Array Value} (h:BA ι g [u,v] ys.toList):∃ u' v',ys=#[u',v']∧Aw ι g u u'∧Aw ι g v v':=by
 obtain ⟨u',k',e,h1,h2⟩:=h.Kv;obtain ⟨v',k'',e',h3,h4⟩:=h2.Kv;have:k''=[]:=bv h4.1.symm;grind
theorem vM {w:World} {k:Nat} {os:Array Obj}:Go.RowKit.Below w.heap.size w (Go.Sort.grow (w.drewN k) os):=Lib.below_grow _ w (ab _) k os
theorem a2q (a:Option Addr) (cap:Nat) (w:World):Calls Tryz.prog 130 #[.slice a 0 cap] w fun e w'=>e=.returned (.string ⟨#[48]⟩)∧Go.RowKit.Below w.heap.size w w':=by
 go_wp2
 go_ret
 exact ⟨rfl,(Go.RowKit.Below.refl _ w).alloc (ab _) _⟩
section
variable {F:Nat} {laid:List (String×DataW Unit)}
structure uX (F:Nat) (laid:List (String×DataW Unit)):Prop where
 tab:∃ g e,Tryz.prog.globalNamed "internal/strconv.uint64pow10"=some g∧H6 Tryz.prog F laid g=some (e,Lib.pow10Tab.map fun z=>Value.int .u64 z)∧g<Tryz.prog.globals.size
theorem xG (ht:uX F laid) (he:Am.Enters Tryz.prog 52):Un Tryz.prog (AP Tryz.prog F laid) (Bv Tryz.prog F laid) 52 zI:=by
 refine ⟨fun _ _ _=>rfl,he,fun ι m w xs ys v hs hg hl h=>?_⟩;obtain ⟨g,e,t1,t2,t3⟩:=ht.tab;have htab:=Ym hs hg t1 t2 t3;unfold zI at h;split at h
 ·rename_i n
  split at h
  ·rename_i hn
   cases h;obtain ⟨v',rfl,hv⟩:=BA.one hl;have:v'=.int .i64 n:=by cases hv;rfl
   subst this;refine ⟨rfl,(Tryz.strconv_Itoa n hn.1 hn.2 w htab).mono ?_⟩;rintro e w' ⟨rfl,k,os,rfl⟩;exact ⟨rfl,vM⟩
  grind
 grind
theorem dL (he:Am.Enters Tryz.prog 55):Un Tryz.prog (AP Tryz.prog F laid) (Bv Tryz.prog F laid) 55 aB:=by
 refine ⟨fun _ _ _=>rfl,he,fun ι m w xs ys v hs hg hl h=>?_⟩;unfold aB at h;split at h
 ·rename_i a b
  cases h;obtain ⟨u',v',rfl,h1,h2⟩:=BA.two hl;have e1:u'=.string a:=by cases h1;rfl
  have e2:v'=.string b:=by cases h2;rfl
  subst e1;subst e2;refine ⟨rfl,(Tryz.strings_Compare a b w).mono ?_⟩;rintro e w' ⟨rfl,rfl⟩;exact ⟨rfl,Go.RowKit.Below.refl _ _⟩
 grind
theorem vC (ht:uX F laid) (he:Am.Enters Tryz.prog 130):Un Tryz.prog (AP Tryz.prog F laid) (Bv Tryz.prog F laid) 130 textF:=by
 refine ⟨fun _ _ _=>rfl,he,fun ι m w xs ys v hs hg hl h=>?_⟩;obtain ⟨g,e,t1,t2,t3⟩:=ht.tab;have htab:=Ym hs hg t1 t2 t3;unfold textF at h;split at h
 ·rename_i a n gen
  split at h
  ·rename_i l hl1
   split at h
   ·rename_i zs hzs
    split at h
    ·rename_i hb
     cases h;obtain ⟨v',rfl,hv⟩:=BA.one hl;obtain ⟨hmap,hlim⟩:=ZX hzs;obtain ⟨a',cap,rfl,hlen,hsp,hcell⟩:=VO hs hv rfl (fun b e=>by cases e) hl1;have hzl:zs.length=n:=by grind
     refine ⟨rfl,?_⟩;rcases am n with h0|h0
     ·subst h0
      have:zs=[]:=bv hzl;subst this;have e0:bs (Num.O9 [])=⟨#[48]⟩:=by
       show bs (Lib.decDigits 0)=_;rw [Lib.decDigits_one (by decide)];rfl
      exact (a2q a' cap w).mono fun e w' ⟨h1,h2⟩=>⟨by rw [e0];exact h1,h2⟩
     ·rcases hsp with ⟨_,h1⟩|⟨A,h1|h1⟩
      ·omega
      ·obtain ⟨rfl,hspot⟩:=h1
       obtain ⟨b,off,spot⟩:=A;subst hspot;have hc:∀ j,j<zs.length→w.cell? ⟨b,off+j,none⟩=some (.int .u64 (zs.getD j 0:Int)):=fun j hj=>by
        have:=hcell _ rfl j (.int .u64 (zs.getD j 0:Int)) (by rw [hmap,aD,ai hj];simp [List.getD,hj]) rfl
        rwa [addr_add] at this
       have hbl:b<w.heap.size:=by
        have:=hc 0 (by omega);unfold World.cell? at this;rcases ax b w.heap.size with h|h
        ·exact h
        ·simp [Array.getElem?_eq_none h] at this
       have ht:=b0t b off cap zs hlim (fun e=>by rw [e] at hzl;simp at hzl;omega) (by rw [hzl];exact hb) w hbl hc htab;rw [hzl] at ht;exact ht
      ·omega
    grind
   grind
  grind
 grind
end
theorem WT {m:Mem} {F:Nat→Prop}:∀ {l:List Nat} {vs:List Value},Dj m F (cells l) vs→vs=l.map fun (n:Nat)=>Value.int .u64 (n:Int)
 |[],_,.nil=>rfl
 |c::l,_,.cons h t=>by
  cases h;rw [WT t];rfl
theorem a1g {m:Mem} {F:Nat→Prop} {e:TypeId} {l:List Nat} {xs:List Value} (hl:Num.bP l) (hn:l.length<1000000000) (h:Dj m F [.lst e (cells l) l.length] xs):∃ v,textF xs m=some v∧RF m F (.str (bs (Num.O9 l))) v:=by
 cases h with
 |cons h t =>
  cases t;obtain ⟨vs,h1,h2,h3⟩:=RF.cellsOf (sz:=1) h (by rw [CQ];rfl);refine ⟨.string (bs (Num.O9 l)),?_,.str _⟩;have hvs:=WT h2;subst hvs;have hsl:∀ {v:Value},RF m F (.lst e (cells l) l.length) v→∃ a g,v=Value.slice a l.length g:=by
   intro v hv;generalize l.length=n at hv;generalize cells l=cs at hv;cases hv with
   |nil=>simp
   |room=>simp
   |lst=>simp
  obtain ⟨a,g,rfl⟩:=hsl h;unfold textF;simp only [h1,Xr hl];grind
end Go.Proofs.YtnjkoebfgcbbdaaGreatDoor
namespace Go.Vm
section
open Go.Am
section
variable {P:Program}
noncomputable def EY (P:Program) (F:Nat) (laid:List (String×DataW Unit)) (O:CB):Env:=⟨P,O,AP P F laid,gam P F laid⟩
theorem YX {O:CB} {F:Nat} {laid:List (String×DataW Unit)} {ls:List (FuncId×aA)} {f:FuncId} {Fn:aA} {xs:List FV} {r:FV} (hO:O f=lY (AP P F laid) (Bv P F laid) ls f) (hf:ls.lookup f=some Fn)
 (h:∀ m F' BF,Dj m F' xs BF→∃ v,Fn BF m=some v∧RF m F' r v):Ai (EY P F laid O) f xs (.p r):=by
 intro m F' σ BF h1 h2;have h2':Dj m F' xs BF:=Dj.XG h2;obtain ⟨v,h3,h4⟩:=h m F' BF h2';have hg:∀ k∈AP P F laid,m.get k=(Bv P F laid).get k:=fun k hk=>by
  obtain ⟨hlt,e,l,hgl⟩:=Ox hk;have:=(h1.gl k l e (by simp only [EY,gam,if_pos hlt,hgl,Option.map_some])).2.1;rw [this,IG hlt,hgl]
 refine Jh.ZC (F:=fun BF m=>open Classical in if ∀ k∈AP P F laid,m.get k=(Bv P F laid).get k then (Fn BF m).map fun v=>(v,m) else none) (m':=m) (v:=v) (by simp only [EY,hO,lY,hf]) ?_
  ⟨_,_,_,F',σ,⟨rfl,rfl,rfl⟩,h1,.p h4,Step.refl _ _ _ _ _⟩
 grind
variable {H:Type} {enc:TypeId×Value→H} {W:World} {held:Bool}
def c0h (e:TypeId) (xs:List Value) (m:Mem):Option (Value×Mem):=match xs with
 |[.slice none 0 0,.int .i64 n]=>if 0<n∧n≤1000000 then some (AQ m e [] 0) else none
 |_=>none
def c7a (fg:FuncId) (e:TypeId) (O:CB):CB:=fun f=>if f=fg then some (c0h e) else O f
end
end
section
open Go.Am
section
variable {P:Program}
noncomputable def knO (G:List Nat) (M0:Mem) (fs:List FuncId) (O:CB):CB:=fun f=>if f∈fs then a4d G M0 fs f else O f
end
end
section
open Go.Am
section
variable {P:Program} {G:List Nat}
theorem a1j {ι:BJ} {m:Mem} {w w':World} {x:IQ} {obj:Obj} {ib:IB} (hs:DL P G ι m w) (hb:Go.RowKit.Below w.heap.size w w') (hB:w.heap.size≤ib.blk) (a2x:w'.heap[ib.blk]?=some obj) (hx:Ue P ι m.gen ib x (some obj))
 (hr:x.ro=false):∃ ι',Ext ι m w ι' (m.alloc x) w'∧DL P G ι' (m.alloc x) w'∧ι' m.size=some ib:=by
 have hget:∀ b,b<m.size→(m.alloc x).get b=m.get b:=fun b hb=>by rw [Mem.Bh,if_neg (by omega)]
 have hgen:∀ b,b<m.size→(m.alloc x).gen b=m.gen b:=fun b hb=>CS (hget b hb)
 have hro:∀ b,b<m.size→(m.alloc x).ro b=m.ro b:=fun b hb=>Fe (hget b hb)
 have hheap:∀ c,c<w.heap.size→w'.heap[c]?=w.heap[c]?:=fun c hc=>hb.block c hc
 have hsz:=hb.size;have hBlt:ib.blk<w'.heap.size:=by
  grind
 let ι':BJ:=fun b=>if b=m.size then some ib else ι b
 have hle:Le ι m.gen ι' (m.alloc x).gen:=fun b Px hb=>by
  have hlt:=(hs.dom b Px hb).1;grind
 refine ⟨ι',⟨by simp [Mem.alloc],ab _,fun b hb _=>hget b hb,fun b hb _=>hget b hb,fun b hb=>hro b hb,hle,fun b Px hb=>?_,fun b Px hb=>?_,by omega,
  fun c hc _=>hheap c hc,hb.tape,hb.os,hb.output⟩,⟨fun b Px hb=>?_,fun b Px hb=>?_,fun b b' Px ibb' hb hb' he=>?_,fun k hk=>?_⟩,if_pos rfl⟩
 ·grind
 ·grind
 ·change (if b=m.size then some ib else ι b)=some Px at hb
  split at hb
  ·cases hb;exact ⟨by simp [Mem.alloc];omega,by omega⟩
  ·have:=hs.dom b Px hb
   exact ⟨by simp only [Mem.alloc];omega,by omega⟩
 ·change (if b=m.size then some ib else ι b)=some Px at hb
  split at hb
  ·rename_i e;cases hb
   rw [Mem.Bh,if_pos e.symm];rw [a2x];exact hx.mono hle
  ·have:=hs.dom b Px hb
   rw [hget b this.1,hheap _ this.2];exact (hs.blk b Px hb).mono hle
 ·change (if b=m.size then some ib else ι b)=some Px at hb
  change (if b'=m.size then some ib else ι b')=some ibb' at hb'
  split at hb<;>split at hb'
  ·exact .inl (by omega)
  ·cases hb;have:=hs.dom b' ibb' hb';omega
  ·cases hb';have:=hs.dom b Px hb;omega
  ·rcases hs.inj b b' Px ibb' hb hb' he with h|⟨h1,h2⟩
   ·exact .inl h
   ·exact .inr ⟨by rw [hro b (hs.dom b Px hb).1];exact h1,by rw [hro b' (hs.dom b' ibb' hb').1];exact h2⟩
 ·obtain ⟨Px,h1,h2,h3,h4,h5⟩:=hs.glob k hk
  have hlt:=(hs.dom k Px h1).1;refine ⟨Px,?_,h2,⟨h3.1,by rw [hget k hlt];exact h3.2⟩,by rw [hgen k hlt];exact h4,by rw [hro k hlt];exact h5⟩;show (if k=m.size then some ib else ι k)=some Px;rw [if_neg (by omega)];exact h1
theorem kR {ι:BJ} {m:Mem} {w w':World} {e:TypeId} {l:List Value} {v:Value} (hs:DL P G ι m w) (hb:Go.RowKit.Below w.heap.size w w') (hl:l≠[]) (hp:l.all Am.plainCell=true) (h1:P.cellsOf e=1) (ho:w'.ownsRow w.heap.size e 1 v l.length l) :
 Post P G ι m w (AQ m e l l.length).1 (AQ m e l l.length).2 v w':=by
 obtain ⟨-,h⟩:=ho;rcases h with ⟨_,h⟩|⟨g,cap,cur,rfl,q1,q2,q3,q4,q5,q6⟩
 ·grind
 obtain ⟨ι',hext,Dv,hbk⟩:=a1j (x:=.cells l e 0 false) (ib:=⟨g,0,cur.size,P.cellsOf e⟩) hs hb q1 q2
  ⟨fun _=>rfl,rfl,rfl,fun i hi=>by
   have hpi:Am.plainCell (l.getD i undef)=true:=by
    grind
   refine ⟨l.getD i undef,?_,Aw.plainCell hpi⟩;grind,fun _ j _=>by simp⟩ rfl
 refine ⟨ι',hext,Dv,.sl _ _ _ _ _ _ ⟨_,hbk,aq _,q3,fun _=>⟨rfl,rfl,.inr ⟨rfl,?_⟩⟩⟩⟩;grind
abbrev FrF:=List Value→Option (List Value)
def ZV (e:TypeId) (Fn:FrF) (BF:List Value) (m:Mem):Option (Value×Mem):=match Fn BF with
 |some []=>some (.slice none 0 0,m)
 |some (v::l)=>some (AQ m e (v::l) (l.length+1))
 |none=>none
open Classical in
noncomputable def frO (G:List Nat) (M0:Mem) (ff:FuncId) (e:TypeId) (Fn:FrF) (O:CB):CB:=fun f =>
 if f=ff then some fun BF m=>if ∀ k∈G,m.get k=M0.get k then ZV e Fn BF m else none else O f
theorem a8c {M0:Mem} {ff f:FuncId} {e:TypeId} {Fn:FrF} {O:CB} (h:f≠ff):frO G M0 ff e Fn O f=O f:=if_neg h
theorem a0s {M0:Mem} {ff:FuncId} {e:TypeId} {Fn:FrF} {O:CB} (hO:Gu P G O) (he:Am.Enters P ff) (h1:P.cellsOf e=1)
 (hc:∀ ι m w BF (as':Array Value) l,DL P G ι m w→(∀ k∈G,m.get k=M0.get k)→BA ι m.gen BF as'.toList→Fn BF=some l→l.all Am.plainCell=true ∧
  Calls P ff as' w fun r w'=>∃ v,r=.returned v∧w'.ownsRow w.heap.size e 1 v l.length l∧(l=[]→v=.slice none 0 0)∧Go.RowKit.Below w.heap.size w w'):Gu P G (frO G M0 ff e Fn O):=by
 intro f Fo hf;by_cases h:f=ff
 ·subst h
  unfold frO at hf;rw [if_pos rfl] at hf;cases hf;refine ⟨fun BF m v m' hv ι w as' hs hrel=>?_,fun BF m v m' hv=>?_,he,XM.b0l fun BF m v m' hv=>by
   split at hv
   ·unfold ZV at hv
    split at hv
    ·cases hv;rfl
    ·cases hv;rfl
    grind
   grind⟩
  ·simp only at hv
   split at hv
   ·rename_i hg
    unfold ZV at hv;cases hl:Fn BF with
    |none=>grind
    |some l =>
     obtain ⟨hp,hcall⟩:=hc ι m w BF as' l hs hg hrel hl;rw [hl] at hv;cases l with
     |nil =>
      cases hv;refine hcall.mono ?_;rintro r w' ⟨v,rfl,_,h3,h4⟩;have:=h3 rfl;subst this;exact ⟨_,rfl,Post.below hs h4 rfl⟩
     |cons a l =>
      cases hv;refine hcall.mono ?_;rintro r w' ⟨v,rfl,h2,_,h4⟩;exact ⟨v,rfl,kR hs h4 (by simp) hp h1 h2⟩
   grind
  ·simp only at hv
   split at hv
   ·unfold ZV at hv
    split at hv
    ·cases hv;exact AO.refl _
    ·cases hv;exact AO.alloc _ _
    ·cases hv
   ·cases hv
 ·rw [a8c h] at hf
  exact hO f Fo hf
theorem b7b {F:Nat} {laid:List (String×DataW Unit)} {O O0:CB} {ff:FuncId} {e:TypeId} {Fn:FrF} {xs cs:List FV} {l:List Value} (hO:O ff=frO (AP P F laid) (Bv P F laid) ff e Fn O0 ff) (h:∀ m F' BF,Dj m F' xs BF→Fn BF=some l)
 (hr:∀ m F',Dj m F' cs l) (hc:l.all BK=true):Ba (EY P F laid O) ff xs e cs l.length l.isEmpty:=by
 intro m F' σ BF h1 h2;have h2':Dj m F' xs BF:=Dj.XG h2;have h3:=h m F' BF h2';have hg:∀ k∈AP P F laid,m.get k=(Bv P F laid).get k:=fun k hk=>by
  obtain ⟨hlt,e,l,hgl⟩:=Ox hk;have:=(h1.gl k l e (by simp only [EY,gam,if_pos hlt,hgl,Option.map_some])).2.1;rw [this,IG hlt,hgl]
 have hO':(EY P F laid O).O ff=some (fun BF m=>open Classical in if ∀ k∈AP P F laid,m.get k=(Bv P F laid).get k then ZV e Fn BF m else none):=by
  show O ff=_;rw [hO];unfold frO;simp
 cases l with
 |nil =>
  have hcs:cs=[]:=by cases hr m F';rfl
  subst hcs;obtain ⟨c1,c2⟩:=U2 e h1;refine Jh.ZC (m':=m) (v:=.slice none 0 0) hO' ?_ ⟨.vec 0 0 0 0,[(0,.vec e [] 0 true)],1,F',_,⟨rfl,rfl,rfl⟩,c1,jk e [] 0,c2⟩;rw [if_pos hg];unfold ZV;rw [h3]
 |cons a l =>
  obtain ⟨c1,c2,_,c4⟩:=QZ (e:=e) (l.length+1) h1 (hr m F') hc;refine Jh.ZC (m':=(AQ m e (a::l) (l.length+1)).2) (v:=(AQ m e (a::l) (l.length+1)).1) hO' ?_ ⟨_,_,_,F',_,⟨rfl,rfl,rfl⟩,c1,c4,c2⟩;rw [if_pos hg];unfold ZV;rw [h3]
end
end
end Go.Vm
