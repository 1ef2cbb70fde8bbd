/-
  What the law's own functions of scaling compute. Conditions: in each statement.
-/
import Derived.Test.YtemfebbakfhknaaDoorScaB
set_option linter.unusedSimpArgs false
set_option linter.unusedVariables false
namespace Go.Vm
open Go.Am
section
variable {E:Env} {L:Frame} {H:Heap} {nx:Nat} {Q:PV→Heap→Nat→Prop} {w:Bool}
variable {dst:Option Tmp} {ty:TypeId} {pos:String} {af:Array Edge} {gd:Option (Nat×Bool)}
theorem VVal.indexB {t:TypeId} {x ix:Operand} {b off n:Nat} {e et:TypeId} {cs:List PV} {k:IntKind} {i:Int} {inf:TypeInfo} (hx:vev E.Γ L x=some (.ref b off)) (hi:vev E.Γ L ix=some (.p (.int k i))) (hb:hget H b=some (.box e cs))
 (ht:E.P.underlying t=some (.array n et)) (hs:E.P.info? et=some inf) (h:0≤i∧i<n) (q:Q (.ref b (off+i.toNat*inf.size)) H nx):VVal E w ⟨dst,.indexAddr t x ix,ty,pos,af,gd⟩ L H nx Q :=
 VVal.quiet q fun m F σ tt h1 h2=>by
  obtain ⟨c,h3,h4⟩:=vev_ref h1 h2 hx hb
  refine ⟨.pointer (some ⟨c,off+i.toNat*inf.size,none⟩),fun _=>?_,.ref (h1.hp b _ hb).1 rfl fun _=>⟨c,h4,rfl⟩⟩
  simp only [aval,aop,ht,h3,vev_int h1 h2 hi,hs,h,and_self,if_true,Option.map_some]
end
end Go.Vm
namespace Go.Proofs.YtemfebbakfhknaaDoor
open Go Go.Am Go.Vm Go.Sca
attribute [local irreducible] VVal VOps VOpsD VWp VCalls VFun VFunV QSeq QBlk QLoop Vm.Done DoneV DoneI
set_option maxRecDepth 100000 in
theorem lcheck_spec (s:Scl):VFun env 14 [.agg (Enc.enc s)] (.p (.int .i64 (chk s))):=by
 refine VFun.enter (env_none (by decide)) Tryd.func14 rfl (by kernel_rfl) (by simp [Tryd.ntmps14]) ?_
 repeat' (first
  |apply VWp.assoc
  |apply VWp.rseq
  |apply VWp.skipSeq
  |apply VWp.retSeq
  |apply VWp.ret
  |apply VOps.nil
  |apply VOps.one
  |(apply VOps.take;rfl;rfl)
  |(apply VOps.drop;rfl;rfl;rfl)
  |(apply VOps.guard;rfl;rfl)
  |(apply VVal.assign;rfl)
  |(apply VVal.move;rfl)
  |(apply VVal.int;rfl;rfl;rfl)
  |(apply VVal.load;rfl;rfl)
  |(apply VVal.pick_true;rfl;rfl)
  |(apply VVal.pick_false;rfl;rfl)
  |(apply VVal.fieldB;rfl;rfl;rfl)
  |(apply VVal.box;rfl;trivial)
  |(apply VWp.condSeq_true;rfl)
  |(apply VWp.condSeq_dec;rfl)
  |(intro _;try (exfalso;omega)))
 all_goals (refine Done.ret rfl (.refl _) (by first|exact trivial|exact ⟨trivial,trivial,trivial⟩|exact ⟨trivial,trivial,trivial,trivial⟩) HCov.nil (Nat.zero_le _) (Nat.le_refl _) ⟨?_,rfl,rfl⟩;refine PV.int_eq ?_;unfold chk;first|(rw [if_neg (show ¬ sOk s from fun h=>by unfold sOk at h;omega)];done)|(rw [if_pos (show sOk s from by unfold sOk;omega)];done))
theorem PV.bool_eq {a b:Bool} (h:a=b):PV.p (.bool a)=PV.p (.bool b):=by rw [h]
set_option maxRecDepth 100000 in
theorem lwithin_spec (n:Int):VFun env 15 [.int .i64 n] (.p (.bool (decide (wOk n)))):=by
 refine VFun.enter (env_none (by decide)) Tryd.func15 rfl (by kernel_rfl) (by simp [Tryd.ntmps15]) ?_
 repeat' (first
  |apply VWp.rseq
  |apply VWp.ret
  |apply VOps.nil
  |apply VOps.one
  |(apply VOps.take;rfl;rfl)
  |(apply VOps.drop;rfl;rfl;rfl)
  |(apply VOps.guard;rfl;rfl)
  |(apply VVal.assign;rfl)
  |(apply VVal.move;rfl)
  |(apply VVal.int;rfl;rfl;rfl)
  |(apply VVal.pick_true;rfl;rfl)
  |(apply VVal.pick_false;rfl;rfl)
  |(intro _;try (exfalso;omega)))
 all_goals (refine Done.ret rfl (.refl _) (by first|exact trivial|exact ⟨trivial,trivial,trivial⟩|exact ⟨trivial,trivial,trivial,trivial⟩) HCov.nil (Nat.zero_le _) (Nat.le_refl _) ⟨?_,rfl,rfl⟩;refine PV.bool_eq ?_;first|(rw [decide_eq_true (show wOk n from by unfold wOk;omega)];done)|(rw [decide_eq_false (show ¬ wOk n from fun h=>by unfold wOk at h;omega)];done)|(refine decide_eq_decide.2 ⟨fun h=>by unfold wOk;omega,fun h=>by unfold wOk at h;omega⟩))
set_option maxRecDepth 100000 in
theorem made_spec (b x y:Nat) (hb:b<65536) (hx:x<256) (hy:y<256):VFun env 22 [.int .u16 (b:Int),.int .u8 (x:Int),.int .u8 (y:Int)] (.p (.agg (Enc.enc (⟨1+(b:Int) % 4096,1+(x:Int) % 24,(y:Int)⟩:Scl)))):=by
 refine VFun.enter (env_none (by decide)) Tryd.func22 rfl (by kernel_rfl) (by simp [Tryd.ntmps22]) ?_
 repeat' (first
  |apply VWp.rseq
  |apply VWp.ret
  |apply VOps.nil
  |apply VOps.one
  |(apply VVal.move;rfl)
  |(apply VVal.add64;rfl;rfl;omega)
  |(apply VVal.remI;rfl;rfl;omega;omega)
  |(apply VVal.alloc;rfl)
  |(apply VVal.storeB;rfl;rfl;rfl;trivial;rfl;rfl;exact lt_dec rfl;exact le_dec rfl)
  |(apply VVal.build;rfl;rfl;rfl;rfl;rfl)
  |(apply VVal.convI;rfl;rfl;rfl;rfl;omega))
 all_goals (refine Done.ret rfl (.refl _) (by first|exact trivial|exact ⟨trivial,trivial,trivial⟩|exact ⟨trivial,trivial,trivial,trivial⟩) HCov.nil (Nat.zero_le _) (Nat.le_refl _) ⟨?_,rfl,rfl⟩;try rfl)
set_option maxRecDepth 100000 in
theorem lpower_spec (m e:Nat) (n:Int) (hm:m<1000000000000000000) (he:e≤24) (hn:wOk n):VFun env 34 [.int .i64 (m:Int),.int .i64 (e:Int),.int .i64 n] (st (Lib.decDigits (m ^ e*2 ^ n.toNat))):=by
 obtain ⟨h1,h2⟩:=hn
 refine VFun.enter (env_none (by decide)) Tryd.func34 rfl (by kernel_rfl) (by simp [Tryd.ntmps34]) ?_
 have ho:=of_spec (m:Int) (by omega)
 rw [itoa_nat] at ho
 have hd:Lib.nDigits m≤18:=nd_le (by decide) hm
 have hp:=power_spec m e (by omega) (by have:=Nat.mul_le_mul he hd;omega) (by omega)
 have d2:Lib.nDigits 2=1:=Lib.nDigits_small (by decide)
 have hq:=power_spec 2 n.toNat (by omega) (by rw [d2];omega) (by omega)
 rw [show ((n.toNat:Nat):Int)=max n 0 by omega] at hq
 have e2:Lib.decDigits 2=[50]:=by decide +kernel
 rw [e2] at hq
 have n1:Lib.nDigits (m ^ e)≤1800:=nd_pow (k:=18) (by decide) hm (by omega)
 have n2:Lib.nDigits (2 ^ n.toNat)≤100:=nd_pow (n:=2) (k:=1) (by decide) (by decide) (by omega)
 have hmm:=mul_spec (m ^ e) (2 ^ n.toNat) (by omega) (by omega)
 repeat' (first
  |apply VWp.rseq
  |apply VWp.ret
  |apply VOps.nil
  |apply VOps.one
  |(apply VVal.fn;rfl;rfl;exact ho;intro _;rfl)
  |(apply VVal.fn;rfl;rfl;exact hp;intro _;rfl)
  |(apply VVal.fn;rfl;rfl;exact hq;intro _;rfl)
  |(apply VVal.fn;rfl;rfl;exact hmm;intro _;rfl)
  |(apply VVal.assign;rfl)
  |(apply VVal.move;rfl)
  |(apply VVal.maxI;rfl;rfl)
  |(apply VVal.extract;rfl;rfl))
 all_goals (refine Done.ret rfl (.refl _) (by first|exact trivial|exact ⟨trivial,trivial,trivial⟩|exact ⟨trivial,trivial,trivial,trivial⟩) HCov.nil (Nat.zero_le _) (Nat.le_refl _) ⟨?_,rfl,rfl⟩;try rfl)
theorem lp1 {r:Int} {h:Nat} {n:Int} (hr:1≤r∧r≤10000001) (hh:h≤24) (hn:wOk n):VFun env 34 [.int .i64 (2*r-1),.int .i64 (h:Int),.int .i64 n] (st (Lib.decDigits ((2*(r-1).toNat+1) ^ h*2 ^ n.toNat))):=by
 have:=lpower_spec (2*(r-1).toNat+1) h n (by omega) hh hn
 rwa [show ((2*(r-1).toNat+1:Nat):Int)=2*r-1 by omega] at this
theorem lp2 {b:Int} {h:Nat} {n:Int} (hb:0≤b∧b≤10000000) (hh:h≤24) (hn:wOk n):VFun env 34 [.int .i64 (2*b),.int .i64 (h:Int),.int .i64 (-n)] (st (Lib.decDigits (sr b.toNat h n))):=by
 have:=lpower_spec (2*b.toNat) h (-n) (by omega) hh ⟨by have:=hn.2;omega,by have:=hn.1;omega⟩
 rwa [show ((2*b.toNat:Nat):Int)=2*b by omega] at this
theorem nd_side {m e:Nat} {n:Int} (hm:m<1000000000000000000) (he:e≤24) (hn:wOk n):Lib.nDigits (m ^ e*2 ^ n.toNat)<400000:=by
 have n1:Lib.nDigits (m ^ e)≤1800:=nd_pow (k:=18) (by decide) hm (by omega)
 have n2:Lib.nDigits (2 ^ n.toNat)≤100:=nd_pow (n:=2) (k:=1) (by decide) (by decide) (by have:=hn.2;omega)
 have:=nd_mul n1 n2
 omega
theorem cmpI_le (X B:Nat):(cmpI X B≤0)↔¬ B<X:=by
 unfold cmpI
 split
 ·omega
 ·split<;>omega
set_option maxRecDepth 100000 in
theorem least_spec (b h n r:Int) (hb:1≤b∧b≤1000000) (hh:1≤h∧h≤24) (hn:wOk n) (hr:1≤r∧r≤10000001):VFun env 29 [.int .i64 b,.int .i64 h,.int .i64 n,.int .i64 r] (.p (.bool (decide (r-1<((me b.toNat 1 h.toNat n:Nat):Int))))):=by
 have q1:=lp1 (h:=h.toNat) (n:=n) hr (by omega) hn
 have q2:=lp2 (b:=b) (h:=h.toNat) (n:=n) (by omega) (by omega) hn
 have hn':wOk (-n):=⟨by have:=hn.2;omega,by have:=hn.1;omega⟩
 have c:=compare_spec ((2*(r-1).toNat+1) ^ h.toNat*2 ^ n.toNat) (sr b.toNat h.toNat n) (nd_side (by omega) (by omega) hn) (nd_side (m:=2*b.toNat) (by omega) (by omega) hn')
 rw [Int.toNat_of_nonneg (show 0≤h by omega)] at q1 q2
 have key:(cmpI ((2*(r-1).toNat+1) ^ h.toNat*2 ^ n.toNat) (sr b.toNat h.toNat n)≤0)↔r-1<((me b.toNat 1 h.toNat n:Nat):Int):=by
  rw [cmpI_le]
  have e:=rnd_iff (A:=sl 1 h.toNat n) (B:=sr b.toNat h.toNat n) (h:=h.toNat) (j:=(r-1).toNat) (by omega)
  unfold gt at e
  have e1:sl 1 h.toNat n=2 ^ n.toNat:=by unfold sl;rw [Nat.one_pow,Nat.one_mul]
  have e2:me b.toNat 1 h.toNat n=rnd (sl 1 h.toNat n) (sr b.toNat h.toNat n) h.toNat:=rfl
  rw [← e2,e1,Nat.mul_comm] at e
  rw [e]
  omega
 obtain ⟨hn1,hn2⟩:=hn
 refine VFun.enter (env_none (by decide)) Tryd.func29 rfl (by kernel_rfl) (by simp [Tryd.ntmps29]) ?_
 repeat' (first
  |apply VWp.rseq
  |apply VWp.ret
  |apply VOps.nil
  |apply VOps.one
  |(apply VVal.fn;rfl;rfl;exact q1;intro _;rfl)
  |(apply VVal.fn;rfl;rfl;exact q2;intro _;rfl)
  |(apply VVal.fn;rfl;rfl;exact c;intro _;rfl)
  |(apply VVal.assign;rfl)
  |(apply VVal.move;rfl)
  |(apply VVal.sub64;rfl;rfl;omega)
  |(apply VVal.mul64;rfl;rfl;omega)
  |(apply VVal.int;rfl;rfl;rfl)
  |(apply VVal.neg;rfl;omega))
 all_goals (refine Done.ret rfl (.refl _) (by first|exact trivial|exact ⟨trivial,trivial,trivial⟩|exact ⟨trivial,trivial,trivial,trivial⟩) HCov.nil (Nat.zero_le _) (Nat.le_refl _) ⟨?_,rfl,rfl⟩;exact PV.bool_eq (decide_eq_decide.2 key))
set_option maxRecDepth 100000 in
theorem most_spec (s:Scl) (n v:Int) (hs:sOk s) (hn:wOk n):VFun env 16 [.agg (Enc.enc s),.int .i64 n,.int .i64 v] (.p (.bool (decide (mea s n≤min v 10000000)))):=by
 have hb:=mea_bd hs n
 obtain ⟨h1,h2,h3,h4,h5,h6⟩:=hs
 have hl:s.add≤min v 10000000→VFun env 29 [.int .i64 s.base,.int .i64 s.halv,.int .i64 n,.int .i64 (min v 10000000-s.add+1)] (.p (.bool (decide (min v 10000000<mea s n)))):=fun h=>by
  have:=least_spec s.base s.halv n (min v 10000000-s.add+1) ⟨h1,h2⟩ ⟨h3,h4⟩ hn (by omega)
  have e:mea s n=((me s.base.toNat 1 s.halv.toNat n:Nat):Int)+s.add:=rfl
  rw [e]
  rwa [show (decide (min v 10000000<((me s.base.toNat 1 s.halv.toNat n:Nat):Int)+s.add))=decide (min v 10000000-s.add+1-1<((me s.base.toNat 1 s.halv.toNat n:Nat):Int)) from decide_eq_decide.2 (by omega)]
 have hm:min v 10000000≤10000000:=by omega
 refine VFun.enter (env_none (by decide)) Tryd.func16 rfl (by kernel_rfl) (by simp [Tryd.ntmps16]) ?_
 repeat' (first
  |apply VWp.rseq
  |apply VWp.ret
  |apply VOps.nil
  |apply VOps.one
  |(apply VOps.take;rfl;rfl)
  |(apply VOps.drop;rfl;rfl;rfl)
  |(apply VOps.guard;rfl;rfl)
  |(apply VVal.fn;rfl;rfl;exact hl (by omega);intro _;rfl)
  |(apply VVal.notD;rfl)
  |(apply VVal.assign;rfl)
  |(apply VVal.move;rfl)
  |(apply VVal.add64;rfl;rfl;omega)
  |(apply VVal.sub64;rfl;rfl;omega)
  |(apply VVal.int;rfl;rfl;rfl)
  |(apply VVal.load;rfl;rfl)
  |(apply VVal.pick_true;rfl;rfl)
  |(apply VVal.pick_false;rfl;rfl)
  |(apply VVal.fieldB;rfl;rfl;rfl)
  |(apply VVal.box;rfl;trivial)
  |(apply VVal.minI;rfl;rfl)
  |(intro _;try (exfalso;omega)))
 all_goals (refine Done.ret rfl (.refl _) (by first|exact trivial|exact ⟨trivial,trivial,trivial⟩|exact ⟨trivial,trivial,trivial,trivial⟩) HCov.nil (Nat.zero_le _) (Nat.le_refl _) ⟨?_,rfl,rfl⟩;refine PV.bool_eq ?_;first|(refine decide_eq_decide.2 ?_;omega)|(symm;apply decide_eq_false;omega))
set_option maxRecDepth 100000 in
theorem is_spec (s:Scl) (n v:Int) (hs:sOk s) (hn:wOk n):VFun env 17 [.agg (Enc.enc s),.int .i64 n,.int .i64 v] (.p (.bool (decide (v=mea s n∧v≤10000000)))):=by
 have hb:=mea_bd hs n
 have hm:=most_spec s n v hs hn
 obtain ⟨h1,h2,h3,h4,h5,h6⟩:=hs
 have hl:v≤10000000→s.add<v→VFun env 29 [.int .i64 s.base,.int .i64 s.halv,.int .i64 n,.int .i64 (v-s.add)] (.p (.bool (decide (v-1<mea s n)))):=fun h h'=>by
  have:=least_spec s.base s.halv n (v-s.add) ⟨h1,h2⟩ ⟨h3,h4⟩ hn (by omega)
  have e:mea s n=((me s.base.toNat 1 s.halv.toNat n:Nat):Int)+s.add:=rfl
  rw [e]
  rwa [show (decide (v-1<((me s.base.toNat 1 s.halv.toNat n:Nat):Int)+s.add))=decide (v-s.add-1<((me s.base.toNat 1 s.halv.toNat n:Nat):Int)) from decide_eq_decide.2 (by omega)]
 by_cases hv:v≤10000000∧mea s n≤v
 ·rw [decide_eq_true (show mea s n≤min v 10000000 by omega)] at hm
  refine VFun.enter (env_none (by decide)) Tryd.func17 rfl (by kernel_rfl) (by simp [Tryd.ntmps17]) ?_
  repeat' (first
   |apply VWp.rseq
   |apply VWp.ret
   |apply VOps.nil
   |apply VOps.one
   |(apply VOps.take;rfl;rfl)
   |(apply VOps.drop;rfl;rfl;rfl)
   |(apply VOps.guard;rfl;rfl)
   |(apply VVal.fn;rfl;rfl;exact hm;intro _;rfl)
   |(apply VVal.fn;rfl;rfl;exact hl (by omega) (by omega);intro _;rfl)
   |(apply VVal.assign;rfl)
   |(apply VVal.move;rfl)
   |(apply VVal.sub64;rfl;rfl;omega)
   |(apply VVal.int;rfl;rfl;rfl)
   |(apply VVal.load;rfl;rfl)
   |(apply VVal.pick_true;rfl;rfl)
   |(apply VVal.pick_false;rfl;rfl)
   |(apply VVal.fieldB;rfl;rfl;rfl)
   |(apply VVal.box;rfl;trivial)
   |(intro _;try (exfalso;omega)))
  all_goals (refine Done.ret rfl (.refl _) (by first|exact trivial|exact ⟨trivial,trivial,trivial⟩|exact ⟨trivial,trivial,trivial,trivial⟩) HCov.nil (Nat.zero_le _) (Nat.le_refl _) ⟨?_,rfl,rfl⟩;refine PV.bool_eq ?_;first|(refine decide_eq_decide.2 ?_;omega)|(symm;apply decide_eq_true;omega))
 ·by_cases hv':v≤10000000
  ·rw [decide_eq_false (show ¬ mea s n≤min v 10000000 by omega)] at hm
   refine VFun.enter (env_none (by decide)) Tryd.func17 rfl (by kernel_rfl) (by simp [Tryd.ntmps17]) ?_
   repeat' (first
    |apply VWp.rseq
    |apply VWp.ret
    |apply VOps.nil
    |apply VOps.one
    |(apply VOps.take;rfl;rfl)
    |(apply VOps.drop;rfl;rfl;rfl)
    |(apply VOps.guard;rfl;rfl)
    |(apply VOps.dropU;rfl;rfl)
    |(apply VVal.fn;rfl;rfl;exact hm;intro _;rfl)
    |(apply VVal.assign;rfl)
    |(apply VVal.move;rfl)
    |(apply VVal.int;rfl;rfl;rfl)
    |(apply VVal.load;rfl;rfl)
    |(apply VVal.pick_true;rfl;rfl)
    |(apply VVal.pick_false;rfl;rfl)
    |(apply VVal.box;rfl;trivial)
    |(intro _;try (exfalso;omega)))
   all_goals (refine Done.ret rfl (.refl _) (by first|exact trivial|exact ⟨trivial,trivial,trivial⟩|exact ⟨trivial,trivial,trivial,trivial⟩) HCov.nil (Nat.zero_le _) (Nat.le_refl _) ⟨?_,rfl,rfl⟩;refine PV.bool_eq ?_;symm;apply decide_eq_false;omega)
  ·refine VFun.enter (env_none (by decide)) Tryd.func17 rfl (by kernel_rfl) (by simp [Tryd.ntmps17]) ?_
   repeat' (first
    |apply VWp.rseq
    |apply VWp.ret
    |apply VOps.nil
    |apply VOps.one
    |(apply VOps.drop;rfl;rfl;rfl)
    |(apply VOps.guard;rfl;rfl)
    |(apply VOps.dropU;rfl;rfl)
    |(apply VVal.assign;rfl)
    |(apply VVal.move;rfl)
    |(apply VVal.int;rfl;rfl;rfl)
    |(apply VVal.pick_false;rfl;rfl)
    |(apply VVal.box;rfl;trivial)
    |(intro _;try (exfalso;omega)))
   all_goals (refine Done.ret rfl (.refl _) (by first|exact trivial|exact ⟨trivial,trivial,trivial⟩|exact ⟨trivial,trivial,trivial,trivial⟩) HCov.nil (Nat.zero_le _) (Nat.le_refl _) ⟨?_,rfl,rfl⟩;refine PV.bool_eq ?_;symm;apply decide_eq_false;omega)
end Go.Proofs.YtemfebbakfhknaaDoor
