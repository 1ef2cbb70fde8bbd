/-
  The layer of fractions: what magnitude, gcd and Check compute. Conditions: in each statement.
-/
import Derived.Test.YtemfebbakfhknaaDoorEnvO
import Derived.Test.YtemfebbakfhknaaDoorNumA
set_option linter.unusedSimpArgs false
set_option linter.unusedVariables false
namespace Go.Vm
open Go.Am
theorem wrap_u64_neg {n:Int} (h0:n<0) (h:-18446744073709551616≤n):IntKind.u64.wrap n=n+18446744073709551616:=by
 have e:IntKind.u64.wrap n=n % 2^64:=by
  simp [IntKind.wrap,IntKind.signed,IntKind.bits]
  try omega
 rw [e]
 omega
section
variable {E:Env} {L:Frame} {H:Heap} {nx:Nat} {Q:PV→Heap→Nat→Prop} {w:Bool}
variable {dst:Option Tmp} {ty:TypeId} {pos:String} {af:Array Edge} {gd:Option (Nat×Bool)}
theorem VVal.convUM {s d:TypeId} {x:Operand} {k':IntKind} {n:Int} {sd:TypeDesc} (hx:vev E.Γ L x=some (.p (.int k' n))) (hs:E.P.underlying s=some sd) (hns:notSl sd=true) (hd:E.P.underlying d=some (.int .u64)) (hn:n<0∧-18446744073709551616≤n) (q:Q (.p (.int .u64 (n+18446744073709551616))) H nx) :
 VVal E w ⟨dst,.convert s d x,ty,pos,af,gd⟩ L H nx Q:=VVal.convInt hx hs hns hd (by rw [wrap_u64_neg hn.1 hn.2];exact q)
theorem VVal.negU {t:TypeId} {x:Operand} {a:Int} (hx:vev E.Γ L x=some (.p (.int .u64 a))) (h:0<a∧a<18446744073709551616) (q:Q (.p (.int .u64 (18446744073709551616-a))) H nx):VVal E w ⟨dst,.unOp .neg t x,ty,pos,af,gd⟩ L H nx Q :=
 VVal.quiet q fun m F σ tt c1 c2=>by
  refine ⟨.int .u64 (18446744073709551616-a),fun _=>?_,.p (.int _ _)⟩
  have hd:dry E.P (Op.unary .neg (.int .u64 a))=some (.int .u64 (18446744073709551616-a)):=by
   simp only [Op.unary,Op.intArith,Int.zero_sub,wrap_u64_neg (n:=-a) (by omega) (by omega)]
   rw [show -a+18446744073709551616=18446744073709551616-a by omega]
   rfl
  simp only [aval,aop,vev_int c1 c2 hx]
  rw [show plain (Value.int IntKind.u64 a)=true from rfl]
  simp only [if_true,dryV_of hd rfl,Option.map_some]
theorem VVal.makeFunc {f:FuncId} {fs cs:Array Operand} {pf pc:List PV} (hf:evs E.Γ L fs.toList=some pf) (hc:evs E.Γ L cs.toList=some pc) (q:Q (.clo f pf pc) H nx):VVal E w ⟨dst,.makeFunc (.func f) fs cs,ty,pos,af,gd⟩ L H nx Q :=
 VVal.quiet q fun m F σ tt c1 c2=>by
  refine ⟨.func (.func f) (fs.toList.map (ev tt)).toArray (cs.toList.map (ev tt)).toArray,fun _=>?_,.clo (evs_rel c1 c2 hf) (evs_rel c1 c2 hc)⟩
  simp only [aval,aop,Option.map_some,← Array.toList_map,Array.toArray_toList]
theorem VVal.notD {t:TypeId} {x:Operand} {p:Prop} {_:Decidable p} (hx:vev E.Γ L x=some (.p (.bool (decide p)))) (q:Q (.p (.bool (decide (¬ p)))) H nx):VVal E w ⟨dst,.unOp .not t x,ty,pos,af,gd⟩ L H nx Q :=
 VVal.not hx (by rw [← decide_not];exact q)
end
end Go.Vm
namespace Go.Proofs.YtemfebbakfhknaaDoor
open Go Go.Am Go.Vm
attribute [local irreducible] VVal VOps VOpsD VWp VCalls VFun VFunV QSeq QBlk QLoop Vm.Done DoneV DoneI
structure Frac where
 num:Int
 den:Int
instance:Enc Frac:={ default:=⟨0,0⟩,enc:=fun x=>[.int .i64 x.num,.int .i64 x.den],size:=2,len:=fun _=>rfl }
set_option maxRecDepth 100000 in
theorem magnitude_spec (n:Int) (h:-9223372036854775808≤n∧n<9223372036854775808):VFun env 32 [.int .i64 n] (.p (.int .u64 ((n.natAbs:Nat):Int))):=by
 refine VFun.enter (env_none (by decide)) Tryd.func32 rfl (by kernel_rfl) (by simp [Tryd.ntmps32]) ?_
 repeat' (first
  |apply VWp.assoc
  |apply VWp.rseq
  |apply VWp.skipSeq
  |apply VWp.retSeq
  |apply VWp.ret
  |apply VOps.nil
  |apply VOps.one
  |(apply VVal.convUM;rfl;rfl;rfl;rfl;omega)
  |(apply VVal.negU;rfl;omega)
  |(apply VVal.assign;rfl)
  |(apply VVal.move;rfl)
  |(apply VVal.int;rfl;rfl;rfl)
  |(apply VVal.convU;rfl;rfl;rfl;rfl;omega)
  |(apply VWp.condSeq_dec;rfl)
  |(intro _;try (exfalso;omega)))
 all_goals (refine Done.ret rfl (.refl _) (by first|exact trivial|exact ⟨trivial,trivial,trivial⟩|exact ⟨trivial,trivial,trivial,trivial⟩) HCov.nil (Nat.zero_le _) (Nat.le_refl _) ⟨?_,rfl,rfl⟩;refine PV.int_eq ?_;omega)
set_option maxRecDepth 100000 in
theorem gcd_spec (a b:Nat) (ha:a<18446744073709551616) (hb:b<18446744073709551616):VFun env 31 [.int .u64 (a:Int),.int .u64 (b:Int)] (.p (.int .u64 ((Nat.gcd a b:Nat):Int))):=by
 refine VFun.enter (env_none (by decide)) Tryd.func31 rfl (by kernel_rfl) (by simp [Tryd.ntmps31]) ?_
 repeat' (first
  |apply VWp.rseq
  |apply VWp.blockSeq
  |apply VOps.nil
  |apply VOps.one
  |(apply VVal.assign;rfl))
 refine VWp.loopQ (fun s:Nat×Nat=>[(0,.p (.int .u64 (s.1:Int))),(1,.p (.int .u64 (s.2:Int)))]) (fun _=>[]) 0 (fun s=>s.1<18446744073709551616∧s.2<18446744073709551616∧Nat.gcd s.1 s.2=Nat.gcd a b) (fun s=>s.2) (a,b) (Nat.le_refl _) ⟨ha,hb,rfl⟩ ⟨Nat.le_refl _,?_,trivial⟩ ?_
 ·repeat (first|exact LCov.nil|refine LCov.same trivial rfl ?_|refine LCov.same (lt_dec rfl) rfl ?_|refine LCov.same ⟨trivial,lt_dec rfl,lt_dec rfl,lt_dec rfl,trivial⟩ rfl ?_|refine LCov.same ⟨trivial,lt_dec rfl,lt_dec rfl,trivial⟩ rfl ?_|refine LCov.same ⟨trivial,trivial⟩ rfl ?_|refine LCov.cons trivial rfl (.of_eq (lst_len (by simp<;>omega))) ?_)
 rintro ⟨x,y⟩ ⟨hx,hy,hg⟩
 simp only at hx hy hg
 have hmod:0<y→x % y<y:=fun h=>Nat.mod_lt _ h
 repeat' (first
  |apply VWp.assoc
  |apply VWp.rseq
  |apply VWp.regionD
  |apply VWp.skipSeq
  |apply VWp.exitSeq
  |apply QSeq.normal
  |apply QBlk.normal
  |apply QBlk.exit
  |apply QLoop.exit
  |apply VWp.ret
  |apply VWp.blockQ
  |apply VOps.nil
  |apply VOpsD.nil
  |apply VOps.one
  |(apply VOpsD.bar;decide +kernel)
  |(apply VVal.assign;rfl)
  |(apply VVal.move;rfl)
  |(apply VVal.remUN;rfl;rfl;omega)
  |(apply VVal.int;rfl;rfl;rfl)
  |(apply VWp.condSeq_dec;rfl)
  |(intro _;try (exfalso;omega)))
 ·rename_i h1
  have hy0:0<y:=by omega
  refine QLoop.normal ⟨(y,x % y),⟨hy,by have:=hmod hy0;omega,?_⟩,hmod hy0,⟨Nat.le_refl _,?_,trivial⟩⟩
  ·rw [← hg,Nat.gcd_comm x y,Nat.gcd_rec y x,Nat.gcd_comm]
  ·repeat (first|exact LCov.nil|refine LCov.same trivial rfl ?_|refine LCov.same (lt_dec rfl) rfl ?_|refine LCov.same ⟨trivial,lt_dec rfl,lt_dec rfl,lt_dec rfl,trivial⟩ rfl ?_|refine LCov.same ⟨trivial,lt_dec rfl,lt_dec rfl,trivial⟩ rfl ?_|refine LCov.same ⟨trivial,trivial⟩ rfl ?_|refine LCov.cons trivial rfl (.of_eq (lst_len (by simp<;>omega))) ?_)
 ·rename_i h1
  refine Done.ret rfl (.refl _) (by first|exact trivial|exact ⟨trivial,trivial,trivial⟩|exact ⟨trivial,trivial,trivial,trivial⟩) HCov.nil (Nat.zero_le _) (Nat.le_refl _) ⟨?_,rfl,rfl⟩
  have hy0:y=0:=by omega
  subst hy0
  rw [← hg,Nat.gcd_zero_right]
def fOk (x:Frac):Prop:=0<x.den∧x.den≤1000000∧-1000000≤x.num∧x.num≤1000000∧Nat.gcd x.num.natAbs x.den.toNat=1
instance (x:Frac):Decidable (fOk x):=by unfold fOk;infer_instance
def fchk (x:Frac):Int:=if fOk x then 0 else 2
set_option maxRecDepth 100000 in
theorem fcheck_spec (x:Frac):VFun env 20 [.agg (Enc.enc x)] (.p (.int .i64 (fchk x))):=by
 refine VFun.enter (env_none (by decide)) Tryd.func20 rfl (by kernel_rfl) (by simp [Tryd.ntmps20]) ?_
 have hd:0<x.den→((x.den.toNat:Nat):Int)=x.den:=fun h=>Int.toNat_of_nonneg (Int.le_of_lt h)
 have hg:0<x.den→x.den≤1000000→-1000000≤x.num→x.num≤1000000→VFun env 31 [.int .u64 ((x.num.natAbs:Nat):Int),.int .u64 x.den] (.p (.int .u64 ((Nat.gcd x.num.natAbs x.den.toNat:Nat):Int))):=fun h1 h2 h3 h4=>by
  have:=gcd_spec x.num.natAbs x.den.toNat (by omega) (by omega)
  rwa [hd h1] at this
 repeat' (first
  |apply VWp.assoc
  |apply VWp.rseq
  |apply VWp.rseqD
  |apply VWp.skipSeq
  |apply VWp.retSeq
  |apply VWp.ret
  |apply VOps.nil
  |apply VOpsD.nil
  |apply VOps.one
  |(apply VOpsD.bar;decide +kernel)
  |(apply VOpsD.quietTake;rfl;rfl)
  |(apply VOpsD.drop;rfl;rfl;rfl)
  |(apply VOpsD.guard;rfl;rfl)
  |(apply VVal.fn;rfl;rfl;exact magnitude_spec _ (by omega);intro _;rfl)
  |(apply VVal.fn;rfl;rfl;exact hg (by omega) (by omega) (by omega) (by omega);intro _;rfl)
  |(apply VVal.assign;rfl)
  |(apply VVal.move;rfl)
  |(apply VVal.int;rfl;rfl;rfl)
  |(apply VVal.load;rfl;rfl)
  |(apply VVal.pick_true;rfl;rfl)
  |(apply VVal.pick_false;rfl;rfl)
  |(apply VVal.fieldB;rfl;rfl;rfl)
  |(apply VVal.box;rfl;trivial)
  |(apply VVal.convU;rfl;rfl;rfl;rfl;omega)
  |(apply VWp.condSeq_true;rfl)
  |(apply VWp.condSeq_dec;rfl)
  |(intro _;try (exfalso;omega)))
 all_goals (refine Done.ret rfl (.refl _) (by first|exact trivial|exact ⟨trivial,trivial,trivial⟩|exact ⟨trivial,trivial,trivial,trivial⟩) HCov.nil (Nat.zero_le _) (Nat.le_refl _) ⟨?_,rfl,rfl⟩;refine PV.int_eq ?_;unfold fchk;first|(rw [if_neg (show ¬ fOk x from fun h=>by unfold fOk at h;omega)];done)|(rw [if_pos (show fOk x from by unfold fOk;omega)];done))
end Go.Proofs.YtemfebbakfhknaaDoor
