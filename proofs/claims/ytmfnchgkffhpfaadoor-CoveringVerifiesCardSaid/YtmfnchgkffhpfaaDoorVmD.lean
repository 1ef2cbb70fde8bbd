/-
  The values' layer: a call walked in place (the callee sees the caller's own objects). No condition. Nothing of one program stands here.
-/
import Derived.Test.YtmfnchgkffhpfaaDoorVmC
import Derived.Laws.Strings
import Derived.Laws.Strings2
import Derived.Laws.Concat
set_option linter.unusedSimpArgs false
set_option linter.unusedVariables false
set_option linter.unusedSectionVars false
namespace Go.Vm
open Go.Am
variable {E:Env} {L:Frame} {H:Heap} {nx:Nat} {Q:PV→Heap→Nat→Prop} {w:Bool}
variable {dst:Option Tmp} {ty:TypeId} {pos:String} {af:Array Edge} {gd:Option (Nat×Bool)}
def DoneI (P:Program) (rs:List ResultVar) (Q:PV→Heap→Nat→Prop) (e:AExit) (L:Frame) (H:Heap) (nx:Nat):Prop :=
 match e with
 | .exit _=>False
 | .normal=>∃ r,vresults P rs L H=some r∧Q r H nx
 | .ret=>∃ r,vresults P rs L H=some r∧Q r H nx
theorem DoneI.ret {P:Program} {rs:List ResultVar} {r:PV} (h:vresults P rs L H=some r) (q:Q r H nx):DoneI P rs Q .ret L H nx:=⟨r,h,q⟩
theorem DoneI.normal {P:Program} {rs:List ResultVar} {r:PV} (h:vresults P rs L H=some r) (q:Q r H nx):DoneI P rs Q .normal L H nx:=⟨r,h,q⟩
theorem VCalls.enterI {f:FuncId} {fn:Func} {c:Code} {args:List PV} (ho:E.O f=none) (hf:E.P.funcs[f]?=some fn) (hb:fn.body=some c) (hok:fnOk E.G fn c=true) (hn:args.length≤fn.ntmps)
 (h:VWp E nx c (argFrame 0 args) H nx (DoneI E.P fn.results.toList Q)):VCalls E f args H nx Q:=by
 intro m F σ as h1 h2
 refine ACalls.enter ho hf hb hok (by rw [← h2.length];exact hn) ((h ⟨m,F,σ,H,nx⟩ rfl m F σ _ h1 ?_ (Step.refl _ _ _ _ _)).mono ?_)
 ·intro i v hi
  obtain ⟨_,h3⟩:=argFrame_get args 0 i v hi
  obtain ⟨u,h4,h5⟩:=h2.get h3
  have:=tget_tmpsOf as 0 .leaf i
  simp only [Nat.sub_zero] at h4
  have hlt:i<as.length:=by
   rcases Nat.lt_or_ge i as.length with h|h
   ·exact h
   ·rw [List.getElem?_eq_none h] at h4;cases h4
  rw [this,if_pos ⟨Nat.zero_le _,by omega⟩,Nat.sub_zero,List.getD_eq_getElem?_getD,h4]
  exact h5
 ·rintro e s ⟨L',H',nx',F',σ',q,c1,c2,c3⟩
  have key:(∃ r,vresults E.P fn.results.toList L' H'=some r∧Q r H' nx')→∃ v,resultsOf E.P fn s=some v∧∃ r H' nx' F' σ',Q r H' nx'∧Ctx E.Γ s.m F' σ' H' nx'∧RP s.m F' (htag H') σ' nx' r v∧Step m F σ H nx s.m F' σ' H' nx':=by
   rintro ⟨r0,hr,q⟩
   obtain ⟨v,h3,h4⟩:=vresults_rel c1 c2 hr
   exact ⟨v,h3,r0,H',nx',F',σ',q,c1,h4,c3⟩
  cases e with
  |exit i=>exact q.elim
  |normal=>exact key q
  |ret=>exact key q
theorem VVal.inl {fo:Operand} {args:Array Operand} {aT:Array TypeId} {g:FuncId} {fs cs as:List PV} (hf:vev E.Γ L fo=some (.clo g fs cs)) (ha:evs E.Γ L args.toList=some as)
 (hc:VCalls E g (fs++as++cs) H nx Q):VVal E true ⟨dst,.call { callee:=.value fo,args:=args,argTypes:=aT },ty,pos,af,gd⟩ L H nx Q:=by
 intro m F σ t h1 h2
 have hfv:=vev_rel h1 h2 hf
 generalize hfe:ev t fo=fv at hfv
 cases hfv with
 |clo r1 r2 =>
  rename_i vf vc
  refine AVal.call (f:=g) (as:=vf++args.toList.map (ev t)++vc) (fun call=>by simp only [aval,hfe]) ((hc m F σ _ h1 ((r1.append (evs_rel h1 h2 ha)).append r2)).mono ?_)
  rintro v m' ⟨r,H',nx',F',σ',q,c1,c2,c3⟩
  exact ⟨r,H',nx',F',σ',q,c1,c2,c3,fun h=>by cases h⟩
theorem VVal.inline {fo:Operand} {args:Array Operand} {aT:Array TypeId} {g:FuncId} {fs cs as:List PV} {fn:Func} {c:Code} (hg:g=g) (hf:vev E.Γ L fo=some (.clo g fs cs)) (ha:evs E.Γ L args.toList=some as)
 (ho:E.O g=none) (hfn:E.P.funcs[g]?=some fn) (hb:fn.body=some c) (hok:fnOk E.G fn c=true) (hn:(fs++as++cs).length≤fn.ntmps)
 (h:VWp E nx c (argFrame 0 (fs++as++cs)) H nx (DoneI E.P fn.results.toList Q)):VVal E true ⟨dst,.call { callee:=.value fo,args:=args,argTypes:=aT },ty,pos,af,gd⟩ L H nx Q :=
 VVal.inl hf ha (VCalls.enterI ho hfn hb hok hn h)
end Go.Vm
set_option linter.unusedSimpArgs false
set_option linter.unusedVariables false
namespace Go.Vm
open Go.Am
variable {E:Env} {L:Frame} {H:Heap} {nx:Nat} {Q:PV→Heap→Nat→Prop} {w:Bool}
variable {dst:Option Tmp} {ty:TypeId} {pos:String} {af:Array Edge} {gd:Option (Nat×Bool)}
def bs (l:List UInt8):ByteArray:=⟨l.toArray⟩
theorem bs_size (l:List UInt8):(bs l).size=l.length:=by simp [bs,ByteArray.size]
theorem bs_toList (l:List UInt8):(bs l).toList=l:=ByteArray.toList_mk l
theorem bs_data (l:List UInt8):(bs l).data.toList=l:=by simp [bs]
theorem bs_of (s:ByteArray):s=bs s.data.toList:=by cases s;simp [bs]
theorem bs_inj {a b:List UInt8} (h:bs a=bs b):a=b:=by
 have:=congrArg (fun s:ByteArray=>s.data.toList) h
 simpa [bs_data] using this
abbrev st (l:List UInt8):PV:=.p (.str (bs l))
instance:Enc UInt8:={ default:=0,enc:=fun n=>[.int .u8 (n.toNat:Int)],size:=1,len:=fun _=>rfl }
instance encNat:Enc Nat:={ default:=0,enc:=fun n=>[.int .u64 (n:Int)],size:=1,len:=fun _=>rfl }
theorem VVal.lenSt {x:Operand} {t:TypeId} {l:List UInt8} (hx:vev E.Γ L x=some (st l)) (ht:E.P.underlying t=some .string) (q:Q (.p (.int .i64 l.length)) H nx) :
 VVal E w ⟨dst,.call { callee:=.builtin .len,args:=#[x],argTypes:=#[t] },ty,pos,af,gd⟩ L H nx Q :=
 VVal.lenS hx ht (by rw [bs_size];exact q)
theorem VVal.binS {op:BinOp} {t t2:TypeId} {x y:Operand} {a b:List UInt8} {r:FV} (hx:vev E.Γ L x=some (st a)) (hy:vev E.Γ L y=some (st b))
 (h:∀ m F,∃ v,dryV E.P (do eqGuard op t x y (.string (bs a)) (.string (bs b));binOp op t (.string (bs a)) (.string (bs b)))=some v∧RF m F r v) (q:Q (.p r) H nx) :
 VVal E w ⟨dst,.binOp op t x y t2,ty,pos,af,gd⟩ L H nx Q :=
 VVal.quiet q fun m F σ tt c1 c2=>by
  obtain ⟨v,h1,h2⟩:=h m F
  refine ⟨v,fun _=>?_,.p h2⟩
  simp only [aval,aop,vev_str c1 c2 hx,vev_str c1 c2 hy,abin]
  rw [show (plain (Value.string (bs a))&&plain (Value.string (bs b)))=true from rfl]
  simp only [if_true,h1,Option.map_some]
theorem VVal.eqS {t t2:TypeId} {x y:Operand} {a b:List UInt8} (hx:vev E.Γ L x=some (st a)) (hy:vev E.Γ L y=some (st b)) (q:Q (.p (.bool (decide (a=b)))) H nx) :
 VVal E w ⟨dst,.binOp .eql t x y t2,ty,pos,af,gd⟩ L H nx Q :=
 VVal.binS hx hy (fun m F=>⟨.bool (decide (a=b)),by
  have:dry E.P (do eqGuard .eql t x y (.string (bs a)) (.string (bs b));binOp .eql t (.string (bs a)) (.string (bs b)))=some (.bool (decide (a=b))):=by
   rw [binOp_string_eql,bs_toList,bs_toList]
   simp only [dry_bind,eqGuard]
   rw [show ((a==b):Bool)=decide (a=b) by by_cases h:a=b<;>simp [h]]
   rfl
  exact dryV_of this rfl,.bool _⟩) q
theorem VVal.neS {t t2:TypeId} {x y:Operand} {a b:List UInt8} (hx:vev E.Γ L x=some (st a)) (hy:vev E.Γ L y=some (st b)) (q:Q (.p (.bool (!decide (a=b)))) H nx) :
 VVal E w ⟨dst,.binOp .neq t x y t2,ty,pos,af,gd⟩ L H nx Q :=
 VVal.binS hx hy (fun m F=>⟨.bool (!decide (a=b)),by
  have:dry E.P (do eqGuard .neq t x y (.string (bs a)) (.string (bs b));binOp .neq t (.string (bs a)) (.string (bs b)))=some (.bool (!decide (a=b))):=by
   rw [binOp_string_neq,bs_toList,bs_toList]
   simp only [dry_bind,eqGuard]
   rw [show ((a==b):Bool)=decide (a=b) by by_cases h:a=b<;>simp [h]]
   rfl
  exact dryV_of this rfl,.bool _⟩) q
theorem VVal.addS {t t2:TypeId} {x y:Operand} {a b:List UInt8} (hx:vev E.Γ L x=some (st a)) (hy:vev E.Γ L y=some (st b)) (hl:a.length+b.length<4611686018427387904) (q:Q (st (a++b)) H nx) :
 VVal E w ⟨dst,.binOp .add t x y t2,ty,pos,af,gd⟩ L H nx Q :=
 VVal.binS hx hy (fun m F=>⟨.string (bs (a++b)),by
  have:dry E.P (do eqGuard .add t x y (.string (bs a)) (.string (bs b));binOp .add t (.string (bs a)) (.string (bs b)))=some (.string (bs (a++b))):=by
   rw [binOp_string_add]
   simp only [dry_bind,eqGuard,Op.stringOp,bs_size]
   have hc:¬ (((a.length+b.length:Nat):Int)>IntKind.i64.max):=by
    have:IntKind.i64.max=9223372036854775807:=by decide
    omega
   rw [if_neg hc]
   have:bs a++bs b=bs (a++b):=by
    apply ByteArray.ext
    simp [bs,ByteArray.data_append]
   rw [this]
   rfl
  exact dryV_of this rfl,.str _⟩) q
theorem VVal.indexSt {t:TypeId} {x ix:Operand} {l:List UInt8} {k:IntKind} {i:Int} (hx:vev E.Γ L x=some (st l)) (hi:vev E.Γ L ix=some (.p (.int k i))) (ht:E.P.underlying t=some .string) (h0:0≤i) (h1:i<l.length)
 (q:Q (.p (.int .u8 ((gi l i.toNat).toNat:Int))) H nx):VVal E w ⟨dst,.index t x ix,ty,pos,af,gd⟩ L H nx Q :=
 VVal.quiet q fun m F σ tt c1 c2=>by
  refine ⟨.int .u8 ((gi l i.toNat).toNat:Int),fun _=>?_,.p (.int _ _)⟩
  have hlt:i.toNat<l.length:=by omega
  have hg:(bs l)[i.toNat]?=some (gi l i.toNat):=by
   have h2:i.toNat<(bs l).size:=by rw [bs_size];exact hlt
   rw [getElem?_pos (bs l) i.toNat h2]
   congr 1
   simp only [gi,List.getElem?_eq_getElem hlt,Option.getD_some]
   show (bs l).data[i.toNat]=_
   simp [bs]
  have hd:dry E.P (Instr.index t (.string (bs l)) (.int k i))=some (.int .u8 ((gi l i.toNat).toNat:Int)):=by
   simp only [Instr.index,asIntOf,dry_bind,dry_pure,Option.bind_some,dry_underlying,ht,h0,if_true,hg]
  simp only [aval,aop,vev_str c1 c2 hx,vev_int c1 c2 hi]
  rw [show plain (Value.int k i)=true from rfl]
  simp only [if_true,hd,Option.map_some]
theorem VVal.indexStN {t:TypeId} {x ix:Operand} {l:List UInt8} {k:IntKind} {i:Nat} (hx:vev E.Γ L x=some (st l)) (hi:vev E.Γ L ix=some (.p (.int k (i:Int)))) (ht:E.P.underlying t=some .string) (h1:i<l.length)
 (q:Q (.p (.int .u8 ((gi l i).toNat:Int))) H nx):VVal E w ⟨dst,.index t x ix,ty,pos,af,gd⟩ L H nx Q :=
 VVal.indexSt hx hi ht (by omega) (by omega) q
theorem dry_bound {P:Program} {k:IntKind} {i:Int} {y:Nat} {c:BoundsCode} (h0:0≤i) (h1:i≤y):dry P (Instr.sliceBound (.int k i) y c)=some i.toNat:=by
 simp only [Instr.sliceBound,asIntOf,dry_bind,dry_pure,Option.bind_some,h0,h1,and_self,if_true]
theorem VVal.sliceSt {t:TypeId} {x:Operand} {lo hi:Option Operand} {l:List UInt8} {a b:Nat} (hx:vev E.Γ L x=some (st l)) (ht:E.P.underlying t=some .string)
 (hlo:match lo with|none=>a=0|some o=>∃ k,vev E.Γ L o=some (.p (.int k (a:Int)))) (hhi:match hi with|none=>b=l.length|some o=>∃ k,vev E.Γ L o=some (.p (.int k (b:Int))))
 (h1:a≤b) (h2:b≤l.length) (q:Q (st ((l.take b).drop a)) H nx):VVal E w ⟨dst,.slice t x lo hi none,ty,pos,af,gd⟩ L H nx Q :=
 VVal.quiet q fun m F σ tt c1 c2=>by
  refine ⟨.string (bs ((l.take b).drop a)),fun _=>?_,.p (.str _)⟩
  have hex:(bs l).extract a b=bs ((l.take b).drop a):=by
   unfold bs
   rw [ByteArray.extract_mk]
   congr 2
   rw [List.drop_take]
  have hd:dryV E.P (Instr.sliceAt t (.string (bs l)) (lo.map (ev tt)) (hi.map (ev tt)) none)=some (.string (bs ((l.take b).drop a))):=by
   refine dryV_of ?_ rfl
   have key:dry E.P (Instr.sliceBounds false (bs l).size (bs l).size (lo.map (ev tt)) (hi.map (ev tt)) none)=some (a,b,l.length):=by
    cases hi with
    |none =>
     simp only at hhi
     subst hhi
     cases lo with
     |none =>
      simp only at hlo
      subst hlo
      simp only [Instr.sliceBounds,Option.map_none,dry_bind,dry_pure,Option.bind_some,bs_size]
     |some o =>
      obtain ⟨k,hk⟩:=hlo
      simp only [Instr.sliceBounds,Option.map_none,Option.map_some,dry_bind,dry_pure,Option.bind_some,bs_size,vev_int c1 c2 hk,Option.isSome_none,Bool.false_eq_true,if_false,Int.toNat_natCast,dry_bound (show (0:Int)≤(a:Int) by omega) (show (a:Int)≤((l.length:Nat):Int) by omega)]
    |some o2 =>
     obtain ⟨k2,hk2⟩:=hhi
     cases lo with
     |none =>
      simp only at hlo
      subst hlo
      simp only [Instr.sliceBounds,Option.map_none,Option.map_some,dry_bind,dry_pure,Option.bind_some,bs_size,vev_int c1 c2 hk2,Bool.false_eq_true,if_false,Int.toNat_natCast,dry_bound (show (0:Int)≤(b:Int) by omega) (show (b:Int)≤((l.length:Nat):Int) by omega)]
     |some o =>
      obtain ⟨k,hk⟩:=hlo
      simp only [Instr.sliceBounds,Option.map_none,Option.map_some,dry_bind,dry_pure,Option.bind_some,bs_size,vev_int c1 c2 hk,vev_int c1 c2 hk2,Option.isSome_none,Bool.false_eq_true,if_false,Int.toNat_natCast,
       dry_bound (show (0:Int)≤(b:Int) by omega) (show (b:Int)≤((l.length:Nat):Int) by omega),dry_bound (show (0:Int)≤(a:Int) by omega) (show (a:Int)≤((b:Nat):Int) by omega)]
   simp only [Instr.sliceAt,Instr.slice,dry_bind,dry_underlying,ht,Option.bind_some,Option.isSome_none,Bool.false_eq_true,if_false,key,dry_pure,hex]
  have hp:((lo.map (ev tt)).all plain&&(hi.map (ev tt)).all plain&&(none:Option Value).isNone)=true:=by
   have e1:(lo.map (ev tt)).all plain=true:=by
    cases lo with
    |none=>rfl
    |some o=>obtain ⟨k,hk⟩:=hlo;simp only [Option.map_some,Option.all_some,vev_int c1 c2 hk];rfl
   have e2:(hi.map (ev tt)).all plain=true:=by
    cases hi with
    |none=>rfl
    |some o=>obtain ⟨k,hk⟩:=hhi;simp only [Option.map_some,Option.all_some,vev_int c1 c2 hk];rfl
   rw [e1,e2];rfl
  simp only [aval,aop,aslice,vev_str c1 c2 hx,ht,Option.isSome_none,Bool.false_and,Bool.false_eq_true,if_false,Option.map_none]
  rw [if_pos hp,hd]
  rfl
theorem VVal.sliceSto {t:TypeId} {x o:Operand} {l:List UInt8} {k:IntKind} {b:Nat} (hx:vev E.Γ L x=some (st l)) (ho:vev E.Γ L o=some (.p (.int k (b:Int)))) (ht:E.P.underlying t=some .string) (h2:b≤l.length) (q:Q (st (l.take b)) H nx) :
 VVal E w ⟨dst,.slice t x none (some o) none,ty,pos,af,gd⟩ L H nx Q:=VVal.sliceSt (a:=0) hx ht rfl ⟨k,ho⟩ (by omega) h2 (by rw [List.drop_zero];exact q)
theorem VVal.sliceSfrom {t:TypeId} {x o:Operand} {l:List UInt8} {k:IntKind} {a:Nat} (hx:vev E.Γ L x=some (st l)) (ho:vev E.Γ L o=some (.p (.int k (a:Int)))) (ht:E.P.underlying t=some .string) (h2:a≤l.length) (q:Q (st (l.drop a)) H nx) :
 VVal E w ⟨dst,.slice t x (some o) none none,ty,pos,af,gd⟩ L H nx Q:=VVal.sliceSt (b:=l.length) hx ht ⟨k,ho⟩ rfl h2 (Nat.le_refl _) (by rw [List.take_length];exact q)
theorem VVal.convS {s d:TypeId} {x:Operand} {l:List UInt8} (hx:vev E.Γ L x=some (st l)) (hs:E.P.underlying s=some .string) (hd:E.P.underlying d=some .string) (q:Q (st l) H nx) :
 VVal E w ⟨dst,.convert s d x,ty,pos,af,gd⟩ L H nx Q :=
 VVal.quiet q fun m F σ tt h1 h2=>by
  refine ⟨.string (bs l),fun _=>?_,.p (.str _)⟩
  have:dry E.P (convert s d (.string (bs l)))=some (.string (bs l)):=by
   unfold convert
   simp only [dry_bind,dry_underlying,hs,hd,Option.bind_some]
   rfl
  have hsl:(isSlT E.P s||isSlT E.P d)=false:=by simp only [isSlT,hs,hd];rfl
  simp only [aval,aop,vev_str h1 h2 hx,dryV_of this rfl,Option.map_some,hsl]
  rfl
theorem bytes_cells {m:Mem} {F:Nat→Prop}:∀ (l:List UInt8),RFs m F (cells l) (l.map fun c=>Value.int .u8 c.toNat)
 |[]=>.nil
 |c::l=>.cons (.int _ _) (bytes_cells l)
theorem VVal.toBytes {s d e:TypeId} {i:TypeInfo} {x:Operand} {l:List UInt8} (hx:vev E.Γ L x=some (st l)) (hs:E.P.underlying s=some .string) (hd:E.P.underlying d=some (.slice e)) (he:E.P.underlying e=some (.int .u8)) (hi:E.P.info? e=some i) (h1:i.size=1)
 (hl:l.length≤1000000) (q:Q (.vec nx l.length 0 l.length) ((nx,.vec e (cells l) l.length false)::H) (nx+1)):VVal E w ⟨dst,.convert s d x,ty,pos,af,gd⟩ L H nx Q:=by
 intro m F σ t c1 c2
 have hb:byteVals (bs l)=l.map fun c=>Value.int .u8 c.toNat:=by unfold byteVals;rw [bs_data]
 obtain ⟨d1,d2,d3,_⟩:=slice_new (e:=e) (cs:=cells l) (vs:=l.map fun (c:UInt8)=>Value.int .u8 (c.toNat:Int)) l.length c1 (bytes_cells l) (by simp [isCell])
 refine AVal.op (v:=(newSlice m e (l.map fun (c:UInt8)=>Value.int .u8 (c.toNat:Int)) l.length).1) (m':=(newSlice m e (l.map fun (c:UInt8)=>Value.int .u8 (c.toNat:Int)) l.length).2) (fun _=>?_) ⟨_,_,_,F,_,q,d1,?_,d2,fun _=>d3⟩
 ·have hsl:(isSlT E.P s||isSlT E.P d)=true:=by simp only [isSlT,hs,hd];rfl
  simp only [aval,aop,hsl,if_true,aconv,hs,hd,vev_str c1 c2 hx,he,hi]
  rw [if_pos ⟨h1,by rw [bs_size];omega⟩,hb,bs_size]
 ·refine .vec (Nat.lt_succ_self _) rfl fun n hn=>?_
  rw [htag_cons,if_pos rfl] at hn
  simp only [HB.tag,Option.some.injEq,Tg.vec.injEq] at hn
  exact ⟨by omega,fun _=>by rw [upd_same];rfl⟩
theorem unbyte_some:∀ (l:List UInt8),unbyte (l.map fun c=>Value.int .u8 c.toNat)=some l
 |[]=>rfl
 |c::l=>by
  have h:=c.toNat_lt
  simp only [List.map_cons,unbyte]
  rw [if_pos ⟨by omega,by omega⟩,unbyte_some l]
  simp
theorem cells_bytes {m:Mem} {F:Nat→Prop}:∀ {l:List UInt8} {vs:List Value},RFs m F (cells l) vs→vs=l.map fun c=>Value.int .u8 c.toNat
 |[],_,.nil=>rfl
 |c::l,_,.cons h t=>by
  cases h
  rw [cells_bytes t];rfl
theorem VVal.ofBytes {s d e:TypeId} {x:Operand} {l:List UInt8} {k:Nat} (hx:SlC E.Γ L H nx x 1 (cells l) k) (hv:∃ y,vev E.Γ L x=some y∧(∀ m F σ v,RP m F (htag H) σ nx y v→∃ a g,v=.slice a k g)) (hs:E.P.underlying s=some (.slice e)) (hd:E.P.underlying d=some .string) (he:E.P.underlying e=some (.int .u8))
 (q:Q (st l) H nx):VVal E true ⟨dst,.convert s d x,ty,pos,af,gd⟩ L H nx Q :=
 VVal.quiet q fun m F σ tt c1 c2=>by
  obtain ⟨hl1,vs,hl2,hl3,hl4⟩:=hx m F σ tt c1 c2
  obtain ⟨y,hy,hyv⟩:=hv
  obtain ⟨a,g,hag⟩:=hyv m F σ _ (vev_rel c1 c2 hy)
  have hvs:=cells_bytes hl3
  subst hvs
  rw [hag] at hl2
  refine ⟨.string (bs l),fun _=>?_,.p (.str _)⟩
  have hsl:(isSlT E.P s||isSlT E.P d)=true:=by simp only [isSlT,hs,hd];rfl
  simp only [aval,aop,hsl,if_true,aconv,hs,hd,hag,he,hl2,unbyte_some]
  rfl
end Go.Vm
set_option linter.unusedSimpArgs false
set_option linter.unusedVariables false
namespace Go.Vm
open Go.Am
variable {E:Env} {L:Frame} {H:Heap} {nx:Nat} {Q:PV→Heap→Nat→Prop} {w:Bool}
variable {dst:Option Tmp} {ty:TypeId} {pos:String} {af:Array Edge} {gd:Option (Nat×Bool)}
theorem psplice_app {α:Type}:∀ (z p c:List α) (o:Nat),psplice (p++c) (p.length+o) z=p++psplice c o z
 |[],_,_,_=>rfl
 |x::z,p,c,o=>by
  simp only [psplice]
  rw [List.set_append_right _ _ (by omega),Nat.add_sub_cancel_left,Nat.add_assoc,psplice_app z p (c.set o x) (o+1)]
theorem psplice_zero {α:Type}:∀ (z xs ys:List α),z.length=xs.length→psplice (xs++ys) 0 z=z++ys
 |[],xs,ys,h=>by rw [List.eq_nil_of_length_eq_zero h.symm];rfl
 |x::z,[],ys,h=>by simp at h
 |x::z,y::xs,ys,h=>by
  simp only [psplice,List.cons_append,List.set_cons_zero]
  have:=psplice_app z [x] (xs++ys) 0
  simp only [List.length_singleton,List.singleton_append] at this
  rw [this,psplice_zero z xs ys (by simpa using h)]
theorem psplice_cells {α:Type} [Enc α] (l:List α) (i:Nat) (a:α) (h:i<l.length):psplice (cells l) (i*Enc.size α) (Enc.enc a)=cells (l.set i a):=by
 have h1:l=l.take i++(gi l i::l.drop (i+1)):=by
  have hd:l.drop i=gi l i::l.drop (i+1):=by
   rw [List.drop_eq_getElem_cons h];simp [gi,List.getElem?_eq_getElem h]
  conv=>lhs;rw [← List.take_append_drop i l]
  rw [hd]
 have h2:l.set i a=l.take i++(a::l.drop (i+1)):=by
  conv=>lhs;rw [h1]
  rw [List.set_append_right _ _ (by simp;omega)]
  rw [List.length_take,Nat.min_eq_left (by omega),Nat.sub_self,List.set_cons_zero]
 rw [h2,cells_append]
 conv=>lhs;rw [h1,cells_append]
 have h3:i*Enc.size α=(cells (l.take i)).length+0:=by rw [cells_length,List.length_take,Nat.min_eq_left (by omega),Nat.add_zero]
 rw [h3,psplice_app]
 congr 1
 show psplice (Enc.enc (gi l i)++cells (l.drop (i+1))) 0 (Enc.enc a)=Enc.enc a++cells (l.drop (i+1))
 exact psplice_zero _ _ _ (by rw [Enc.len,Enc.len])
theorem VVal.indexVE {α:Type} {_:Enc α} {t:TypeId} {x ix:Operand} {e:TypeId} {l:List α} {b n:Nat} {z:Bool} {k:IntKind} {i:Int} (hx:vev E.Γ L x=some (.vec b n 0 n)) (hb:hget H b=some (.vec e (cells l) n z)) (hi:vev E.Γ L ix=some (.p (.int k i)))
 (hs:elemSize E.P t=some (Enc.size α)) (h0:0≤i) (h1:i<n) (q:Q (.eref b n (i.toNat*Enc.size α)) H nx):VVal E w ⟨dst,.indexAddr t x ix,ty,pos,af,gd⟩ L H nx Q :=
 VVal.indexV hx hb hi hs h0 h1 (by rw [Nat.zero_add];exact q)
theorem VVal.indexVN {α:Type} {_:Enc α} {t:TypeId} {x ix:Operand} {e:TypeId} {l:List α} {b n:Nat} {z:Bool} {k:IntKind} {i:Nat} (hx:vev E.Γ L x=some (.vec b n 0 n)) (hb:hget H b=some (.vec e (cells l) n z)) (hi:vev E.Γ L ix=some (.p (.int k (i:Int))))
 (hs:elemSize E.P t=some (Enc.size α)) (h1:i<n) (q:Q (.eref b n (i*Enc.size α)) H nx):VVal E w ⟨dst,.indexAddr t x ix,ty,pos,af,gd⟩ L H nx Q :=
 VVal.indexVE hx hb hi hs (by omega) (by omega) q
theorem VVal.loadVL {α:Type} {_:Enc α} {t:TypeId} {a:Operand} {b n i:Nat} {e:TypeId} {l:List α} {z:Bool} {r:FV} (ha:vev E.Γ L a=some (.eref b n (i*Enc.size α))) (hb:hget H b=some (.vec e (cells l) n z)) (hi:i<l.length)
 (h:loadF E.P t (Enc.enc (gi l i)++cells (l.drop (i+1)))=some r) (q:Q (.p r) H nx):VVal E w ⟨dst,.load t a,ty,pos,af,gd⟩ L H nx Q :=
 VVal.loadV ha hb (by rw [cells_drop l i hi];exact h) q
theorem VVal.storeVL {α:Type} {_:Enc α} {t:TypeId} {a x:Operand} {b n i:Nat} {e:TypeId} {l:List α} {z:Bool} {r:PV} {inf:TypeInfo} (y:α) (ha:vev E.Γ L a=some (.eref b n (i*Enc.size α))) (hx:vev E.Γ L x=some r) (hb:hget H b=some (.vec e (cells l) n z)) (hn:notTup r)
 (hf:pcells r=(Enc.enc y).map .p) (hinf:E.P.info? t=some inf) (hl:Enc.size α=inf.size) (h0:0<inf.size) (hi:i<l.length) (q:Q (.tup []) (hput H b (.vec e (cells (l.set i y)) n z)) nx):VVal E true ⟨dst,.store t a x,ty,pos,af,gd⟩ L H nx Q :=
 VVal.storeV ha hx hb hn hf hinf (by rw [Enc.len,hl]) h0 (by
  rw [cells_length,← hl]
  have:=Nat.mul_le_mul_right (Enc.size α) hi
  rw [Nat.succ_mul] at this
  exact this) (by rw [psplice_cells l i y hi];exact q)
theorem repeat_cells {α:Type} [Enc α] {z:List Value} {a:α} (h:z.map cellFV=Enc.enc a) (n:Nat):(repeatCells z n).map cellFV=cells (List.replicate n a):=by
 induction n with
 |zero=>rfl
 |succ n ih=>simp only [repeatCells,List.map_append,h,ih,List.replicate_succ,cells,encs]
theorem VVal.makeSliceL {α:Type} {_:Enc α} {t e:TypeId} {l c:Operand} (n:Nat) (a:α) {v v':Int} {z:List Value} {i:TypeInfo} (hu:E.P.underlying t=some (.slice e)) (hi:E.P.info? e=some i) (hz:zeroCellsOf E.P e=some z) (hl:vev E.Γ L l=some (.p (.int .i64 v))) (hc:vev E.Γ L c=some (.p (.int .i64 v')))
 (hv:v=n) (hv':v'=n) (hb:n<1000000) (hb2:i.bytes<1000000) (hs:z.length=i.size∧0<i.size) (ha:z.map cellFV=Enc.enc a) (q:Q (.vec nx n 0 n) ((nx,.vec e (cells (List.replicate n a)) n false)::H) (nx+1)):VVal E w ⟨dst,.makeSlice t l c,ty,pos,af,gd⟩ L H nx Q :=
 VVal.makeSlice (n:=n) hu hi hz (by rw [hl,hv]) (by rw [hc,hv']) ⟨by have:=room_ok (n:=n) (k:=0) (b:=i.bytes) (by omega) hb2;simpa using this,by omega⟩ hs (by rw [repeat_cells ha];exact q)
theorem VVal.addU {t t2:TypeId} {x y:Operand} {a b:Int} (hx:vev E.Γ L x=some (.p (.int .u64 a))) (hy:vev E.Γ L y=some (.p (.int .u64 b))) (h:0≤a+b∧a+b<18446744073709551616) (q:Q (.p (.int .u64 (a+b))) H nx) :
 VVal E w ⟨dst,.binOp .add t x y t2,ty,pos,af,gd⟩ L H nx Q:=VVal.int hx hy (r:=.int .u64 (a+b)) (by simp only [vint,wrap_u64 h.1 h.2]) q
theorem VVal.subU {t t2:TypeId} {x y:Operand} {a b:Int} (hx:vev E.Γ L x=some (.p (.int .u64 a))) (hy:vev E.Γ L y=some (.p (.int .u64 b))) (h:0≤a-b∧a-b<18446744073709551616) (q:Q (.p (.int .u64 (a-b))) H nx) :
 VVal E w ⟨dst,.binOp .sub t x y t2,ty,pos,af,gd⟩ L H nx Q:=VVal.int hx hy (r:=.int .u64 (a-b)) (by simp only [vint,wrap_u64 h.1 h.2]) q
theorem VVal.mulU {t t2:TypeId} {x y:Operand} {a b:Int} (hx:vev E.Γ L x=some (.p (.int .u64 a))) (hy:vev E.Γ L y=some (.p (.int .u64 b))) (h:0≤a*b∧a*b<18446744073709551616) (q:Q (.p (.int .u64 (a*b))) H nx) :
 VVal E w ⟨dst,.binOp .mul t x y t2,ty,pos,af,gd⟩ L H nx Q:=VVal.int hx hy (r:=.int .u64 (a*b)) (by simp only [vint,wrap_u64 h.1 h.2]) q
theorem VVal.quoU {t t2:TypeId} {x y:Operand} {a c:Int} (hx:vev E.Γ L x=some (.p (.int .u64 a))) (hy:vev E.Γ L y=some (.p (.int .u64 c))) (ha:0≤a∧a<18446744073709551616) (hc:0<c) (q:Q (.p (.int .u64 (a / c))) H nx) :
 VVal E w ⟨dst,.binOp .quo t x y t2,ty,pos,af,gd⟩ L H nx Q:=by
 refine VVal.int hx hy (r:=.int .u64 (a / c)) ?_ q
 simp only [vint]
 rw [if_neg (by omega),Int.tdiv_eq_ediv_of_nonneg ha.1]
 have h1:0≤a / c:=Int.ediv_nonneg ha.1 (by omega)
 have h2:a / c≤a:=Int.ediv_le_self c ha.1
 rw [wrap_u64 h1 (by omega)]
theorem wrap_u8 {n:Int} (h0:0≤n) (h:n<256):IntKind.u8.wrap n=n:=by
 simp only [IntKind.wrap,IntKind.bits,IntKind.signed,Bool.false_and,Bool.false_eq_true,if_false]
 omega
theorem VVal.subB {t t2:TypeId} {x y:Operand} {a b:Int} (hx:vev E.Γ L x=some (.p (.int .u8 a))) (hy:vev E.Γ L y=some (.p (.int .u8 b))) (h:0≤a-b∧a-b<256) (q:Q (.p (.int .u8 (a-b))) H nx) :
 VVal E w ⟨dst,.binOp .sub t x y t2,ty,pos,af,gd⟩ L H nx Q:=VVal.int hx hy (r:=.int .u8 (a-b)) (by simp only [vint,wrap_u8 h.1 h.2]) q
theorem VVal.addB {t t2:TypeId} {x y:Operand} {a b:Int} (hx:vev E.Γ L x=some (.p (.int .u8 a))) (hy:vev E.Γ L y=some (.p (.int .u8 b))) (h:0≤a+b∧a+b<256) (q:Q (.p (.int .u8 (a+b))) H nx) :
 VVal E w ⟨dst,.binOp .add t x y t2,ty,pos,af,gd⟩ L H nx Q:=VVal.int hx hy (r:=.int .u8 (a+b)) (by simp only [vint,wrap_u8 h.1 h.2]) q
theorem VVal.convU {s d:TypeId} {x:Operand} {k':IntKind} {n:Int} {sd:TypeDesc} (hx:vev E.Γ L x=some (.p (.int k' n))) (hs:E.P.underlying s=some sd) (hns:notSl sd=true) (hd:E.P.underlying d=some (.int .u64)) (hn:0≤n∧n<18446744073709551616) (q:Q (.p (.int .u64 n)) H nx) :
 VVal E w ⟨dst,.convert s d x,ty,pos,af,gd⟩ L H nx Q:=VVal.convInt hx hs hns hd (by rw [wrap_u64 hn.1 hn.2];exact q)
theorem VVal.convB {s d:TypeId} {x:Operand} {k':IntKind} {n:Int} {sd:TypeDesc} (hx:vev E.Γ L x=some (.p (.int k' n))) (hs:E.P.underlying s=some sd) (hns:notSl sd=true) (hd:E.P.underlying d=some (.int .u8)) (hn:0≤n∧n<256) (q:Q (.p (.int .u8 n)) H nx) :
 VVal E w ⟨dst,.convert s d x,ty,pos,af,gd⟩ L H nx Q:=VVal.convInt hx hs hns hd (by rw [wrap_u8 hn.1 hn.2];exact q)
theorem VVal.neg {t:TypeId} {x:Operand} {a:Int} (hx:vev E.Γ L x=some (.p (.int .i64 a))) (h:-9223372036854775808≤-a∧-a<9223372036854775808) (q:Q (.p (.int .i64 (-a))) H nx):VVal E w ⟨dst,.unOp .neg t x,ty,pos,af,gd⟩ L H nx Q :=
 VVal.quiet q fun m F σ tt c1 c2=>by
  refine ⟨.int .i64 (-a),fun _=>?_,.p (.int _ _)⟩
  have hd:dry E.P (Op.unary .neg (.int .i64 a))=some (.int .i64 (-a)):=by
   simp only [Op.unary,Op.intArith,Int.zero_sub,wrap_i64 h]
   rfl
  simp only [aval,aop,vev_int c1 c2 hx]
  rw [show plain (Value.int IntKind.i64 a)=true from rfl]
  simp only [if_true,dryV_of hd rfl,Option.map_some]
theorem VVal.binB {op:BinOp} {t t2:TypeId} {x y:Operand} {a b r:Bool} (hx:vev E.Γ L x=some (.p (.bool a))) (hy:vev E.Γ L y=some (.p (.bool b))) (ht:E.P.underlying t=some .bool) (hr:op=.eql∧r=(a==b)∨op=.neq∧r=(a != b)) (q:Q (.p (.bool r)) H nx) :
 VVal E w ⟨dst,.binOp op t x y t2,ty,pos,af,gd⟩ L H nx Q :=
 VVal.quiet q fun m F σ tt c1 c2=>by
  refine ⟨.bool r,fun _=>?_,.p (.bool _)⟩
  have hd:dry E.P (do eqGuard op t x y (.bool a) (.bool b);binOp op t (.bool a) (.bool b))=some (.bool r):=by
   have h2:∀ d,dry E.P (Op.equalIn (d+1) t (.bool a) (.bool b))=some (a==b):=fun d=>by
    simp only [Op.equalIn,dry_bind,dry_underlying,ht,Option.bind_some];rfl
   have h3:dry E.P (Op.equal t (.bool a) (.bool b))=some (a==b):=h2 (Op.maxDepth-1)
   rcases hr with ⟨rfl,rfl⟩|⟨rfl,rfl⟩
   ·show dry E.P (do eqGuard .eql t x y (.bool a) (.bool b);(do pure (.bool (← Op.equal t (.bool a) (.bool b))):Sem Value))=_
    simp only [eqGuard,dry_bind,h3,Option.bind_some,dry_pure]
    rfl
   ·show dry E.P (do eqGuard .neq t x y (.bool a) (.bool b);(do pure (.bool (!(← Op.equal t (.bool a) (.bool b)))):Sem Value))=_
    simp only [eqGuard,dry_bind,h3,Option.bind_some,dry_pure]
    rfl
  simp only [aval,aop,vev_bool c1 c2 hx,vev_bool c1 c2 hy,abin]
  rw [show (plain (Value.bool a)&&plain (Value.bool b))=true from rfl]
  simp only [if_true,dryV_of hd rfl,Option.map_some]
theorem VVal.neB {t t2:TypeId} {x y:Operand} {a b:Bool} (hx:vev E.Γ L x=some (.p (.bool a))) (hy:vev E.Γ L y=some (.p (.bool b))) (ht:E.P.underlying t=some .bool) (q:Q (.p (.bool (a != b))) H nx) :
 VVal E w ⟨dst,.binOp .neq t x y t2,ty,pos,af,gd⟩ L H nx Q:=VVal.binB hx hy ht (.inr ⟨rfl,rfl⟩) q
theorem VVal.eqB {t t2:TypeId} {x y:Operand} {a b:Bool} (hx:vev E.Γ L x=some (.p (.bool a))) (hy:vev E.Γ L y=some (.p (.bool b))) (ht:E.P.underlying t=some .bool) (q:Q (.p (.bool (a==b))) H nx) :
 VVal E w ⟨dst,.binOp .eql t x y t2,ty,pos,af,gd⟩ L H nx Q:=VVal.binB hx hy ht (.inl ⟨rfl,rfl⟩) q
theorem VVal.maxI {x y:Operand} {aT:Array TypeId} {a b:Int} (hx:vev E.Γ L x=some (.p (.int .i64 a))) (hy:vev E.Γ L y=some (.p (.int .i64 b))) (q:Q (.p (.int .i64 (max a b))) H nx) :
 VVal E w ⟨dst,.call { callee:=.builtin .max,args:=#[x,y],argTypes:=aT },ty,pos,af,gd⟩ L H nx Q :=
 VVal.quiet q fun m F σ tt c1 c2=>by
  refine ⟨.int .i64 (max a b),fun _=>?_,.p (.int _ _)⟩
  have he:(#[x,y]:Array Operand).map (ev tt)=#[.int .i64 a,.int .i64 b]:=by simp [vev_int c1 c2 hx,vev_int c1 c2 hy]
  have hp:((#[x,y]:Array Operand).map (ev tt)).toList.all plain=true:=by rw [he];rfl
  have hd:dry E.P (Builtin.max_ aT ty #[.int .i64 a,.int .i64 b])=some (.int .i64 (max a b)):=by
   simp only [Builtin.max_,List.foldlM_cons,List.foldlM_nil,Builtin.max2,dry_bind,dry_pure,Option.bind_some]
   congr 2
   split<;>omega
  simp only [aval,aop,hp,if_true]
  rw [he,dryV_of hd rfl]
  rfl
theorem VVal.minI {x y:Operand} {aT:Array TypeId} {a b:Int} (hx:vev E.Γ L x=some (.p (.int .i64 a))) (hy:vev E.Γ L y=some (.p (.int .i64 b))) (q:Q (.p (.int .i64 (min a b))) H nx) :
 VVal E w ⟨dst,.call { callee:=.builtin .min,args:=#[x,y],argTypes:=aT },ty,pos,af,gd⟩ L H nx Q :=
 VVal.quiet q fun m F σ tt c1 c2=>by
  refine ⟨.int .i64 (min a b),fun _=>?_,.p (.int _ _)⟩
  have he:(#[x,y]:Array Operand).map (ev tt)=#[.int .i64 a,.int .i64 b]:=by simp [vev_int c1 c2 hx,vev_int c1 c2 hy]
  have hp:((#[x,y]:Array Operand).map (ev tt)).toList.all plain=true:=by rw [he];rfl
  have hd:dry E.P (Builtin.min_ aT ty #[.int .i64 a,.int .i64 b])=some (.int .i64 (min a b)):=by
   simp only [Builtin.min_,List.foldlM_cons,List.foldlM_nil,Builtin.min2,dry_bind,dry_pure,Option.bind_some]
   congr 2
   split<;>omega
  simp only [aval,aop,hp,if_true]
  rw [he,dryV_of hd rfl]
  rfl
end Go.Vm
set_option linter.unusedSimpArgs false
set_option linter.unusedVariables false
namespace Go.Vm
open Go.Am
section
variable {P:Program} {G:List Nat}
theorem Sim.below {ι:Inj} {m:Mem} {w w':World} (hs:Sim P G ι m w) (hb:Go.RowKit.Below w.heap.size w w'):Sim P G ι m w':=by
 refine ⟨fun b ib h=>?_,fun b ib h=>?_,hs.inj,hs.glob⟩
 ·have:=hs.dom b ib h
  have:=hb.size
  omega
 ·rw [hb.block _ (hs.dom b ib h).2];exact hs.blk b ib h
theorem Post.below {ι:Inj} {m:Mem} {w w':World} {v:Value} (hs:Sim P G ι m w) (hb:Go.RowKit.Below w.heap.size w w') (hp:plain v=true):Post P G ι m w v m v w':=by
 refine ⟨ι,⟨Nat.le_refl _,Nat.le_refl _,fun _ _ _=>rfl,fun _ _ _=>rfl,fun _ _=>rfl,Le.refl _ _,fun b ib h=>.inl ⟨ib,h,rfl⟩,fun b ib h=>.inl ⟨ib,h⟩,hb.size,fun c hc _=>hb.block c hc,hb.tape,hb.os,hb.output⟩,Sim.below hs hb,VRel.plain hp⟩
abbrev LibF:=List Value→Mem→Option Value
open Classical in
noncomputable def libO (G:List Nat) (M0:Mem) (ls:List (FuncId×LibF)):Oracle:=fun f =>
 match ls.lookup f with
 |some F=>some fun as m=>if ∀ k∈G,m.get k=M0.get k then (F as m).map fun v=>(v,m) else none
 |none=>none
structure LibSound (P:Program) (G:List Nat) (M0:Mem) (f:FuncId) (F:LibF):Prop where
 noSeq:∀ n lb m,F (seqAs n lb) m=none
 enters:Enters P f
 calls:∀ ι m w (as:List Value) (as':Array Value) v,Sim P G ι m w→(∀ k∈G,m.get k=M0.get k)→LRel ι m.gen as as'.toList→F as m=some v→plain v=true∧Calls P f as' w fun e w'=>e=.returned v∧Go.RowKit.Below w.heap.size w w'
theorem lookup_mem {α:Type} {f:FuncId} {a:α}:∀ {ls:List (FuncId×α)},ls.lookup f=some a→(f,a)∈ls
 |[],h=>by simp at h
 |(g,b)::ls,h=>by
  rw [List.lookup_cons] at h
  cases hg:f==g with
  |true =>
   rw [hg] at h
   cases h
   rw [eq_of_beq hg];simp
  |false=>rw [hg] at h;exact List.mem_cons_of_mem _ (lookup_mem h)
theorem libO_sound {M0:Mem} {ls:List (FuncId×LibF)} (h:∀ x∈ls,LibSound P G M0 x.1 x.2):OSound P G (libO G M0 ls):=by
 intro f Fo hf
 unfold libO at hf
 split at hf
 ·rename_i F hl
  cases hf
  have hs:=h _ (lookup_mem hl)
  refine ⟨fun as m v m' hv ι w as' hsim hrel=>?_,fun as m v m' hv=>?_,hs.enters,SeqFn.none fun n lb m=>by
   have h0:F (seqAs n lb) m=none:=hs.noSeq n lb m
   simp only [h0];split<;>rfl⟩
  ·simp only at hv
   split at hv
   ·rename_i hg
    rw [Option.map_eq_some_iff] at hv
    obtain ⟨u,h1,h2⟩:=hv
    cases h2
    obtain ⟨h3,h4⟩:=hs.calls ι m w as as' v hsim hg hrel h1
    exact h4.mono fun e w' ⟨he,hb⟩=>⟨v,he,Post.below hsim hb h3⟩
   ·cases hv
  ·simp only at hv
   split at hv
   ·rw [Option.map_eq_some_iff] at hv
    obtain ⟨u,h1,h2⟩:=hv
    cases h2
    exact MemStep.refl _
   ·cases hv
 ·cases hf
end
section
variable {P:Program}
noncomputable def lawEnvO (P:Program) (F:Nat) (laid:List (String×DataW Unit)) (ls:List (FuncId×LibF)):Env :=
 ⟨P,libO (globList P F laid) (globMem P F laid) ls,globList P F laid,gam P F laid⟩
theorem libO_none {G:List Nat} {M0:Mem} {ls:List (FuncId×LibF)} {f:FuncId} (h:ls.lookup f=none):libO G M0 ls f=none:=by
 unfold libO;rw [h]
theorem lib_fun {F:Nat} {laid:List (String×DataW Unit)} {ls:List (FuncId×LibF)} {f:FuncId} {Fn:LibF} {xs:List FV} {r:FV} (hf:ls.lookup f=some Fn)
 (h:∀ m F' as,RFs m F' xs as→∃ v,Fn as m=some v∧RF m F' r v):VFun (lawEnvO P F laid ls) f xs (.p r):=by
 intro m F' σ as h1 h2
 have h2':RFs m F' xs as:=RFs.ofRPs h2
 obtain ⟨v,h3,h4⟩:=h m F' as h2'
 have hg:∀ k∈globList P F laid,m.get k=(globMem P F laid).get k:=fun k hk=>by
  obtain ⟨hlt,e,l,hgl⟩:=globList_mem hk
  have:=(h1.gl k l e (by simp only [lawEnvO,gam,if_pos hlt,hgl,Option.map_some])).2.1
  rw [this,globMem_get hlt,hgl]
 refine ACalls.oracle (F:=fun as m=>open Classical in if ∀ k∈globList P F laid,m.get k=(globMem P F laid).get k then (Fn as m).map fun v=>(v,m) else none) (m':=m) (v:=v) (by simp only [lawEnvO,libO,hf]) ?_
  ⟨_,_,_,F',σ,⟨rfl,rfl,rfl⟩,h1,.p h4,Step.refl _ _ _ _ _⟩
 rw [if_pos hg,h3];rfl
variable {H:Type} {enc:TypeId×Value→H} {W:World} {held:Bool}
theorem lawO {r:Go.Reach} {b0 F:Nat} {laid:List (String×DataW Unit)} {ls:List (FuncId×LibF)} {f:FuncId} {ts:List TypeId} {args:Array Value} {ds:List (DataW H)} {ps:List MemPlace}
 (hL:laidMet P laid W) (hA:DataW.TrodAll enc P W 0 (fun _=>true) held ts args.toList ds ps) (hv:∀ (j:Nat) t v,ts[j]?=some t→args.toList[j]?=some v→Value.okWide P W r b0 t v)
 (hmix:P.follows .mixedOrders=true) (hty:ts.all (tyOk P F)=true)
 (hO:OSound P (globList P F laid) (libO (globList P F laid) (globMem P F laid) ls))
 (hp:∀ j fss xs,HasTs P (j+F) ts fss→All2 (fun (tf:TypeId×List FV) x=>packF P tf.1 tf.2=some x) (ts.zip fss) xs→VFun (lawEnvO P F laid ls) f xs (.p (.bool true))) :
 Calls P f args W fun e W'=>e=.returned (.bool true)∧Go.RowKit.Below W.heap.size W W':=by
 obtain ⟨N,hN⟩:=trodN ts _ ds ps hA
 obtain ⟨j,hj⟩:∃ j,max N F=j+F:=⟨max N F-F,by omega⟩
 obtain ⟨as,m1,fss,xs,q1,q2,q3,q4,q5,q6⟩:=args_layN ts _ ds (fun t ht=>tyOk_le (by omega) (List.all_eq_true.1 hty t ht)) (hN (max N F) (by omega)) (globMem P F laid)
 rw [hj] at q2
 have hctx:Ctx (lawEnvO P F laid ls).Γ m1 (fun c=>c<m1.size) (fun _=>undef) [] 0:=by
  refine ⟨fun _ h=>h,fun b x hb=>(by cases hb),fun b b' x x' c hb=>(by cases hb),fun g vs e hg=>?_⟩
  simp only [lawEnvO,gam] at hg
  split at hg
  ·rename_i hlt
   simp only [Option.map_eq_some_iff,Prod.mk.injEq] at hg
   obtain ⟨⟨e',l⟩,h1,rfl,rfl⟩:=hg
   have hlt':g<(globMem P F laid).size:=by rw [globMem_size];exact hlt
   exact ⟨by omega,by rw [q6 g hlt',globMem_get hlt,h1],globAt_plain h1⟩
  ·cases hg
 obtain ⟨v,m',⟨K,hK⟩,r0,H',nx',F',σ',⟨rfl,_,_⟩,_,hrv,_⟩:=hp j fss xs q2 q3 m1 _ _ as hctx (RPs.ofRFs q4)
 have hv1:v=.bool true:=by cases hrv with|p h=>cases h;rfl
 subst hv1
 obtain ⟨ι,hs,hro⟩:=glob_open (F:=F) hL
 obtain ⟨ι1,o1,o2,o3,o4⟩:=args_open ts _ ds ps hA hv ι _ m1 as hs hro q1
 refine ((acall_sound hO hmix K f).1 as m1 _ m' (hK K K (Nat.le_refl _) (Nat.le_refl _)) ι1 W args o1 o4).mono fun e W' ⟨v',he,ι2,hx,hs2,hvr⟩=>?_
 have:=hvr.eq_of_plain (v:=.bool true) rfl
 subst this
 exact ⟨he,⟨hx.os,hx.tape,hx.output,hx.heap,fun c hcl=>hx.frame c hcl fun b ib hb _=>.inl (o3 b (o1.dom b ib hb).1)⟩⟩
end
theorem RF.cellsOf {m:Mem} {F:Nat→Prop} {e:TypeId} {cs:List FV} {n sz:Nat} {v:Value} (h:RF m F (.lst e cs n) v) (hl:cs.length=n*sz):∃ vs,sliceCells m sz n v=some vs∧RFs m F cs vs∧lenOf v=some n:=by
 cases h with
 |nil e=>exact ⟨[],rfl,.nil,rfl⟩
 |room e b o g=>exact ⟨[],rfl,.nil,rfl⟩
 |lst hF hm hw hr hc =>
  rename_i b o g vs ws ro
  refine ⟨ws,?_,hr,rfl⟩
  have:m.cellsAt ⟨b,o,some g⟩ (n*sz)=some ws:=by
   unfold Mem.cellsAt
   simp only [hm,agen,Option.getD_some,if_true,← hl,hw]
  cases n with
  |zero=>simp only [sliceCells,Nat.le_refl,if_true,this]
  |succ n=>simp only [sliceCells,Nat.le_refl,if_true,this]
theorem sliceCells_world {P:Program} {G:List Nat} {ι:Inj} {m:Mem} {w:World} {n:Nat} {s s':Value} {l:List Value} (hs:Sim P G ι m w) (hv:VRel ι m.gen s s') (hn:lenOf s=some n) (hns:∀ b,s≠.string b) (h:sliceCells m 1 n s=some l) :
 ∃ a cap,s'=.slice a n cap∧l.length=n∧(a=none∧n=0∨∃ A,a=some A∧A.spot=none∨n=0)∧∀ A,a=some A→∀ j v,l[j]?=some v→plain v=true→w.cell? (A.add j)=some v:=by
 have hlen:=sliceCells_length h
 cases hv with
 |slN=>cases hn;exact ⟨none,0,rfl,by omega,.inl ⟨rfl,rfl⟩,fun A hA=>by cases hA⟩
 |slE b o s a' =>
  cases hn
  refine ⟨some a',0,rfl,by omega,.inr ⟨a',.inr rfl⟩,fun A hA j v hj=>?_⟩
  have:l=[]:=List.eq_nil_of_length_eq_zero (by omega)
  rw [this] at hj;simp at hj
 |sl b off len gen a' cap hr =>
  cases hn
  refine ⟨some a',cap,rfl,by omega,?_,fun A hA j v hj hp=>?_⟩
  ·rcases Nat.eq_zero_or_pos n with h0|h0
   ·exact .inr ⟨a',.inr h0⟩
   ·refine .inr ⟨a',.inl ⟨rfl,?_⟩⟩
    have hl':m.cellsAt ⟨b,off,some gen⟩ n=some l:=by unfold sliceCells at h;simpa using h
    obtain ⟨vs,e,g,ro,hg,hag,hgen,_,_⟩:=cellsAt_some hl'
    obtain ⟨ib,_,_,_,hcur⟩:=hr
    have hag':gen=g:=hag
    exact (hcur (by rw [hag'];exact hgen.symm)).2.1
  ·cases hA
   have hj2:=(List.getElem?_eq_some_iff.1 hj).1
   have hpos:0<n:=by omega
   have ha:=slice_addr hr (fun _=>hpos) 0
   rw [Addr.add_zero'] at ha
   have hl':m.cellsAt ⟨b,off,some gen⟩ n=some l:=by unfold sliceCells at h;simpa using h
   obtain ⟨l',h1,h2,h3⟩:=cellsAt_run hs (by simpa using ha) hl'
   obtain ⟨v',h4,h5⟩:=h1.get hj
   have e2:v'=v:=h5.eq_of_plain hp
   rw [e2] at h4
   exact h3 j _ h4
 |str b=>exact absurd rfl (hns b)
 |_=>cases hn
end Go.Vm
set_option linter.unusedSimpArgs false
set_option linter.unusedVariables false
namespace Go.Vm
open Go.Am
variable {E:Env} {L:Frame} {H:Heap} {nx:Nat} {Q:PV→Heap→Nat→Prop} {w:Bool}
variable {dst:Option Tmp} {ty:TypeId} {pos:String} {af:Array Edge} {gd:Option (Nat×Bool)}
theorem VVal.addUN {t t2:TypeId} {x y:Operand} {a b:Nat} (hx:vev E.Γ L x=some (.p (.int .u64 (a:Int)))) (hy:vev E.Γ L y=some (.p (.int .u64 (b:Int)))) (h:a+b<18446744073709551616) (q:Q (.p (.int .u64 ((a+b:Nat):Int))) H nx) :
 VVal E w ⟨dst,.binOp .add t x y t2,ty,pos,af,gd⟩ L H nx Q:=VVal.addU hx hy (by omega) (by rw [← Int.natCast_add];exact q)
theorem VVal.mulUN {t t2:TypeId} {x y:Operand} {a b:Nat} (hx:vev E.Γ L x=some (.p (.int .u64 (a:Int)))) (hy:vev E.Γ L y=some (.p (.int .u64 (b:Int)))) (h:a*b<18446744073709551616) (q:Q (.p (.int .u64 ((a*b:Nat):Int))) H nx) :
 VVal E w ⟨dst,.binOp .mul t x y t2,ty,pos,af,gd⟩ L H nx Q:=VVal.mulU hx hy (by rw [← Int.natCast_mul];omega) (by rw [← Int.natCast_mul];exact q)
theorem VVal.subUN {t t2:TypeId} {x y:Operand} {a b:Nat} (hx:vev E.Γ L x=some (.p (.int .u64 (a:Int)))) (hy:vev E.Γ L y=some (.p (.int .u64 (b:Int)))) (h:b≤a∧a<18446744073709551616) (q:Q (.p (.int .u64 ((a-b:Nat):Int))) H nx) :
 VVal E w ⟨dst,.binOp .sub t x y t2,ty,pos,af,gd⟩ L H nx Q:=VVal.subU hx hy (by omega) (by rw [← Int.ofNat_sub h.1];exact q)
theorem VVal.quoUN {t t2:TypeId} {x y:Operand} {a c:Nat} (hx:vev E.Γ L x=some (.p (.int .u64 (a:Int)))) (hy:vev E.Γ L y=some (.p (.int .u64 (c:Int)))) (h:a<18446744073709551616∧0<c) (q:Q (.p (.int .u64 ((a / c:Nat):Int))) H nx) :
 VVal E w ⟨dst,.binOp .quo t x y t2,ty,pos,af,gd⟩ L H nx Q:=VVal.quoU hx hy (by omega) (by omega) (by rw [← Int.natCast_ediv];exact q)
theorem VVal.remUN {t t2:TypeId} {x y:Operand} {a c:Nat} (hx:vev E.Γ L x=some (.p (.int .u64 (a:Int)))) (hy:vev E.Γ L y=some (.p (.int .u64 (c:Int)))) (h:0<c) (q:Q (.p (.int .u64 ((a % c:Nat):Int))) H nx) :
 VVal E w ⟨dst,.binOp .rem t x y t2,ty,pos,af,gd⟩ L H nx Q:=VVal.remN hx hy h q
theorem VVal.quoUT {t t2:TypeId} {x y:Operand} {a:Nat} {c:Int} (hx:vev E.Γ L x=some (.p (.int .u64 (a:Int)))) (hy:vev E.Γ L y=some (.p (.int .u64 c))) (h:a<18446744073709551616∧0<c) (q:Q (.p (.int .u64 ((a / c.toNat:Nat):Int))) H nx) :
 VVal E w ⟨dst,.binOp .quo t x y t2,ty,pos,af,gd⟩ L H nx Q:=VVal.quoUN (c:=c.toNat) hx (by rw [hy,Int.toNat_of_nonneg (by omega)]) (by omega) q
theorem VVal.remUT {t t2:TypeId} {x y:Operand} {a:Nat} {c:Int} (hx:vev E.Γ L x=some (.p (.int .u64 (a:Int)))) (hy:vev E.Γ L y=some (.p (.int .u64 c))) (h:0<c) (q:Q (.p (.int .u64 ((a % c.toNat:Nat):Int))) H nx) :
 VVal E w ⟨dst,.binOp .rem t x y t2,ty,pos,af,gd⟩ L H nx Q:=VVal.remUN (c:=c.toNat) hx (by rw [hy,Int.toNat_of_nonneg (by omega)]) (by omega) q
theorem VVal.mulUT {t t2:TypeId} {x y:Operand} {a:Int} {b:Nat} (hx:vev E.Γ L x=some (.p (.int .u64 a))) (hy:vev E.Γ L y=some (.p (.int .u64 (b:Int)))) (h0:0≤a) (h:a.toNat*b<18446744073709551616) (q:Q (.p (.int .u64 ((a.toNat*b:Nat):Int))) H nx) :
 VVal E w ⟨dst,.binOp .mul t x y t2,ty,pos,af,gd⟩ L H nx Q:=VVal.mulUN (a:=a.toNat) (by rw [hx,Int.toNat_of_nonneg h0]) hy h q
theorem VVal.andI {t t2:TypeId} {x y:Operand} {m n:Nat} (hx:vev E.Γ L x=some (.p (.int .i64 (m:Int)))) (hy:vev E.Γ L y=some (.p (.int .i64 (n:Int)))) (h:m<9223372036854775808∧n<9223372036854775808) (q:Q (.p (.int .i64 ((m &&& n:Nat):Int))) H nx) :
 VVal E w ⟨dst,.binOp .and t x y t2,ty,pos,af,gd⟩ L H nx Q:=VVal.int hx hy (vint_and (.inl ⟨rfl,h.1⟩) (by omega)) q
theorem VVal.subBN {t t2:TypeId} {x y:Operand} {a c:Nat} (hx:vev E.Γ L x=some (.p (.int .u8 (a:Int)))) (hy:vev E.Γ L y=some (.p (.int .u8 (c:Int)))) (h:c≤a∧a<256) (q:Q (.p (.int .u8 ((a-c:Nat):Int))) H nx) :
 VVal E w ⟨dst,.binOp .sub t x y t2,ty,pos,af,gd⟩ L H nx Q:=VVal.subB hx hy (by omega) (by rw [← Int.ofNat_sub h.1];exact q)
theorem VVal.subBT {t t2:TypeId} {x y:Operand} {a:Nat} {c:Int} (hx:vev E.Γ L x=some (.p (.int .u8 (a:Int)))) (hy:vev E.Γ L y=some (.p (.int .u8 c))) (h:0≤c∧c.toNat≤a∧a<256) (q:Q (.p (.int .u8 ((a-c.toNat:Nat):Int))) H nx) :
 VVal E w ⟨dst,.binOp .sub t x y t2,ty,pos,af,gd⟩ L H nx Q:=VVal.subB hx hy (by omega) (by
  have:((a-c.toNat:Nat):Int)=(a:Int)-c:=by omega
  rw [← this];exact q)
theorem VVal.sliceSI {t:TypeId} {x lo hi:Operand} {l:List UInt8} {k k':IntKind} {a b:Int} (hx:vev E.Γ L x=some (st l)) (hlo:vev E.Γ L lo=some (.p (.int k a))) (hhi:vev E.Γ L hi=some (.p (.int k' b))) (ht:E.P.underlying t=some .string) (h:0≤a∧a≤b∧b≤l.length)
 (q:Q (st ((l.take b.toNat).drop a.toNat)) H nx):VVal E w ⟨dst,.slice t x (some lo) (some hi) none,ty,pos,af,gd⟩ L H nx Q :=
 VVal.sliceSt (a:=a.toNat) (b:=b.toNat) hx ht ⟨k,by rw [hlo];congr 3;omega⟩ ⟨k',by rw [hhi];congr 3;omega⟩ (by omega) (by omega) q
theorem VVal.sliceToI {α:Type} {_:Enc α} {l:List α} {t:TypeId} {x o:Operand} {e:TypeId} {n:Nat} {inf:TypeInfo} {k:IntKind} {b:Int} (hx:vev E.Γ L x=some (.p (.lst e (cells l) n))) (hhi:vev E.Γ L o=some (.p (.int k b))) (ht:E.P.underlying t=some (.slice e)) (hi':E.P.info? e=some inf)
 (hsz:inf.size=Enc.size α) (hn:l.length=n) (hb:0≤b∧b≤l.length) (q:Q (.p (.lst e (cells (l.take b.toNat)) b.toNat)) H nx):VVal E w ⟨dst,.slice t x none (some o) none,ty,pos,af,gd⟩ L H nx Q :=
 VVal.sliceTo (b:=b.toNat) hx (by rw [hhi];congr 3;omega) ht hi' hsz hn (by omega) q
theorem VVal.loadB1 {t:TypeId} {a:Operand} {b off:Nat} {e:TypeId} {cs:List PV} {r:PV} (ha:vev E.Γ L a=some (.ref b off)) (hb:hget H b=some (.box e cs)) (h:loadP E.P t (cs.drop off)=some r) (q:Q r H nx):VVal E w ⟨dst,.load t a,ty,pos,af,gd⟩ L H nx Q:=by
 refine VVal.load ha ?_ q
 simp only [vload,hb,h]
end Go.Vm
